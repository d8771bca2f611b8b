/- What the statements rest on: definitions and walks, part 08. -/
import Derived.Test.YtoojdkaimhlcbaaDoorJ07
set_option maxRecDepth 100000
set_option maxHeartbeats 16000000
set_option linter.unusedSimpArgs false
set_option linter.unusedVariables false
namespace Go.Proofs.YtoojdkaimhlcbaaDoor
open Go Go.RowKit Go.Maps Go.WideMaps
theorem BkW.older {w00 w0 w:World} {Bs B M:Nat} {S R:Option Addr} {c d:Nat} {y:Yd} {v:Value} {bk:Bk} (h:BkW w0 w Bs B M S R c d y v bk) (hb:Below w00.heap.size w00 w0) (hy:YdIn w00 S R y):BkW w00 w Bs B M S R c d y v bk :=
 ⟨h.box,h.own,h.map,⟨Nat.le_trans hb.size h.lo.1,Nat.le_trans hb.size h.lo.2⟩,h.hi,hy,below_step hb h.bel,h.ok⟩
theorem BkOk.nil {y:Yd} (h0:Cal.yardE y=0):BkOk y []:=⟨h0,by simp,fun s hs=>(by cases hs),fun s hs=>(by cases hs),fun s hs=>(by cases hs),fun s hs=>(by cases hs)⟩
def NewP (w:World) (S R:Option Addr) (c d:Nat) (y:Yd) (e:Ending) (w':World):Prop:=∃ Bs B M v,e=.returned (.pointer (some ⟨B,0,none⟩))∧BkW w w' Bs B M S R c d y v Cal.bk0
theorem newBook_any (S R:Option Addr) (c d:Nat) (y:Yd) (w:World) (hY:YdIn w S R y) (h0:Cal.yardE y=0) :
  Calls Tryd.prog 43 #[.agg #[.slice S y.sites.length c,.slice R y.rests.length d,.int .i64 y.c0,.int .i64 y.c1,.int .i64 y.c2]] w (NewP w S R c d y):=by
 have hmm:=@run_makeMap Tryd.prog
 have hM:=MapIs.made Tryd.prog 9 strLit (w.alloc (.cells #[.slice S y.sites.length c,.slice R y.rests.length d,.int .i64 y.c0,.int .i64 y.c1,.int .i64 y.c2] 37))
 have hb1:=below_alloc w (.cells #[.slice S y.sites.length c,.slice R y.rests.length d,.int .i64 y.c0,.int .i64 y.c1,.int .i64 y.c2] 37)
 have hb2:=below_step hb1 (below_alloc (w.alloc (.cells #[.slice S y.sites.length c,.slice R y.rests.length d,.int .i64 y.c0,.int .i64 y.c1,.int .i64 y.c2] 37)) (.map #[] 0))
 have hb3:=below_step hb2 (below_alloc ((w.alloc (.cells #[.slice S y.sites.length c,.slice R y.rests.length d,.int .i64 y.c0,.int .i64 y.c1,.int .i64 y.c2] 37)).alloc (.map #[] 0)) (.cells #[.slice S y.sites.length c,.slice R y.rests.length d,.int .i64 y.c0,.int .i64 y.c1,.int .i64 y.c2,.slice none 0 0,.map (some (w.heap.size+1)),.int .i64 0] 96))
 have hbx:=BoxAt.new ((w.alloc (.cells #[.slice S y.sites.length c,.slice R y.rests.length d,.int .i64 y.c0,.int .i64 y.c1,.int .i64 y.c2] 37)).alloc (.map #[] 0)) #[.slice S y.sites.length c,.slice R y.rests.length d,.int .i64 y.c0,.int .i64 y.c1,.int .i64 y.c2,.slice none 0 0,.map (some (w.heap.size+1)),.int .i64 0] 96
 have hM3:=hM.below (below_alloc ((w.alloc (.cells #[.slice S y.sites.length c,.slice R y.rests.length d,.int .i64 y.c0,.int .i64 y.c1,.int .i64 y.c2] 37)).alloc (.map #[] 0)) (.cells #[.slice S y.sites.length c,.slice R y.rests.length d,.int .i64 y.c0,.int .i64 y.c1,.int .i64 y.c2,.slice none 0 0,.map (some (w.heap.size+1)),.int .i64 0] 96)) (by simp)
 have hz1:(w.alloc (.cells #[.slice S y.sites.length c,.slice R y.rests.length d,.int .i64 y.c0,.int .i64 y.c1,.int .i64 y.c2] 37)).heap.size=w.heap.size+1:=by simp
 have hz2:((w.alloc (.cells #[.slice S y.sites.length c,.slice R y.rests.length d,.int .i64 y.c0,.int .i64 y.c1,.int .i64 y.c2] 37)).alloc (.map #[] 0)).heap.size=w.heap.size+1+1:=by simp
 rw[hz1] at hM3
 rw[hz2] at hbx
 have hz3:(((w.alloc (.cells #[.slice S y.sites.length c,.slice R y.rests.length d,.int .i64 y.c0,.int .i64 y.c1,.int .i64 y.c2] 37)).alloc (.map #[] 0)).alloc (.cells #[.slice S y.sites.length c,.slice R y.rests.length d,.int .i64 y.c0,.int .i64 y.c1,.int .i64 y.c2,.slice none 0 0,.map (some (w.heap.size+1)),.int .i64 0] 96)).heap.size=w.heap.size+1+1+1:=by simp
 have hfin:Hid (BkW w (((w.alloc (.cells #[.slice S y.sites.length c,.slice R y.rests.length d,.int .i64 y.c0,.int .i64 y.c1,.int .i64 y.c2] 37)).alloc (.map #[] 0)).alloc (.cells #[.slice S y.sites.length c,.slice R y.rests.length d,.int .i64 y.c0,.int .i64 y.c1,.int .i64 y.c2,.slice none 0 0,.map (some (w.heap.size+1)),.int .i64 0] 96)) (w.heap.size+1+1+1) (w.heap.size+1+1) (w.heap.size+1) S R c d y (.slice none 0 0) Cal.bk0) :=
  ⟨hbx,OwnL.nil _ _ _ _,hM3,⟨by omega,by omega⟩,⟨by omega,by omega,by rw[hz3];exact Nat.le_refl _,by omega⟩,hY,hb3,BkOk.nil h0⟩
 clear hM hb1 hb2 hb3 hbx hM3 hz1 hz2 hz3
 go_enter Tryd.func43,Tryd.ntmps43
 go_wp2
 go_ret
 exact⟨_,_,_,_,rfl,hfin.out⟩
structure EvIn (w:World) (E:Option Addr) (l:List Ev):Prop where
 rows:RowsAt w E 7 (l.map Ev.cells)
 len:l.length≤1000000
 nm:∀ e∈l,e.remain.size≤maxLen∧e.site.size≤maxLen
theorem EvIn.below {w w':World} {E:Option Addr} {l:List Ev} (h:EvIn w E l) (hb:Below w.heap.size w w'):EvIn w' E l:=⟨h.rows.below hb,h.len,h.nm⟩
theorem ev_at {w:World} {E:Option Addr} {l:List Ev} (h:RowsAt w E 7 (l.map Ev.cells)) {k:Nat} {e:Ev} (hk:l[k]?=some e) :
  ∃ b o,E=some ⟨b,o,none⟩∧b<w.heap.size∧w.cell? ⟨b,o+k*7,none⟩=some (.int .i64 e.day)∧w.cell? ⟨b,o+k*7+1,none⟩=some (.int .i64 e.kind)∧w.cell? ⟨b,o+k*7+2,none⟩=some (.string e.site)∧w.cell? ⟨b,o+k*7+3,none⟩=some (.int .i64 e.level)∧w.cell? ⟨b,o+k*7+4,none⟩=some (.string e.remain)∧w.cell? ⟨b,o+k*7+5,none⟩=some (.int .i64 e.cont)∧w.cell? ⟨b,o+k*7+6,none⟩=some (.bool e.order):=by
 obtain⟨b,o,hA,hb,hc⟩:=h k e.cells (by rw[List.getElem?_map,hk];rfl)
 exact⟨b,o,hA,hb,hc 0 _ rfl,hc 1 _ rfl,hc 2 _ rfl,hc 3 _ rfl,hc 4 _ rfl,hc 5 _ rfl,hc 6 _ rfl⟩
theorem bkReads_drop {y:Yd} {b:Bk} {l:List Ev} {k:Nat} (h:k<l.length):Cal.bkReads y b (l.drop k)=if (Cal.bkAdd y b l[k]).2≠0 then Cal.bkAdd y b l[k] else Cal.bkReads y (Cal.bkAdd y b l[k]).1 (l.drop (k+1)):=by
 rw[List.drop_eq_getElem_cons h];rfl
theorem bkAdd_len (y:Yd) (b:Bk) (e:Ev):(Cal.bkAdd y b e).1.stays.length≤b.stays.length+1:=by
 unfold Cal.bkAdd
 split
 ·exact Nat.le_succ _
 show (Cal.endS b.stays e.remain e.day ++ [_]).length≤_
 rw[List.length_append,endS_len];exact Nat.le_refl _
def RdP (w:World) (S R:Option Addr) (c d:Nat) (y:Yd) (r:Bk × Int) (e:Ending) (w':World):Prop :=
 (r.2≠0∧e=.returned (.tuple #[.pointer none,.int .i64 r.2])∧Below w.heap.size w w')∨(r.2=0∧∃ Bs B M v,e=.returned (.tuple #[.pointer (some ⟨B,0,none⟩),.int .i64 0])∧BkW w w' Bs B M S R c d y v r.1)
theorem read_any (S R:Option Addr) (c d:Nat) (y:Yd) (E:Option Addr) (ec:Nat) (l:List Ev) (w:World) (hY:YdIn w S R y) (hcap:y.sites.length≤c) (hE:EvIn w E l) :
  Calls Tryd.prog 24 #[.agg #[.slice S y.sites.length c,.slice R y.rests.length d,.int .i64 y.c0,.int .i64 y.c1,.int .i64 y.c2],.slice E l.length ec] w (RdP w S R c d y (Cal.bkRead y l)):=by
 have hll:=hE.len
 have hYz:=Lib.hid (fun w' (h:Below w.heap.size w w')=>hY.below h)
 have hYo:=Lib.hid hY
 have hEz:=Lib.hid (fun w' (h:Below w.heap.size w w')=>hE.below h)
 have hb0:=below_alloc w (.cells #[.slice S y.sites.length c,.slice R y.rests.length d,.int .i64 y.c0,.int .i64 y.c1,.int .i64 y.c2] 37)
 have g0:=Lib.hid (BoxAt.new w #[.slice S y.sites.length c,.slice R y.rests.length d,.int .i64 y.c0,.int .i64 y.c1,.int .i64 y.c2] 37)
 have hchk:=Lib.hid (CheckYard_any S R c d y _ (hY.below hb0) hcap)
 have hb0:=Lib.hid hb0
 clear hY hE
 go_enter Tryd.func24,Tryd.ntmps24
 by_cases h0:Cal.yardE y=0
 ·have h0z:=Lib.hid h0
  by_cases hbig:300<l.length
  ·have hf:Hid (Cal.bkRead y l=(Cal.bk0,8)):=by show _=_;unfold Cal.bkRead;rw[if_neg (by rw[h0];simp),if_pos hbig]
   have hbig':300<(l.length:Int):=by omega
   clear h0
   go_wp2_with (go_at_call 42;refine hchk.out.mono ?_;rintro e9 wn ⟨rfl,hbn⟩;rw[h0z.out];have hb1:=Lib.hid (below_step hb0.out hbn);clear hbn)
   go_ret2
   rw[hf.out]
   exact .inl ⟨by decide,rfl,hb1.out⟩
  have hbig':¬300<(l.length:Int):=by omega
  have hR:Hid (Cal.bkRead y l=Cal.bkReads y Cal.bk0 (l.drop 0)):=by show _=_;unfold Cal.bkRead;rw[if_neg (by rw[h0];simp),if_neg hbig];rfl
  clear h0
  go_wp2_with (first
   |(go_at_call 42;refine hchk.out.mono ?_;rintro e9 wn ⟨rfl,hbn⟩;rw[h0z.out];have g1:=Lib.hid (g0.out.below hbn);have hb1:=Lib.hid (below_step hb0.out hbn);clear hbn;obtain⟨y0,y1,y2,y3⟩:=g1.out.c4;have y4:=g1.out.c 4 _ rfl)
   |(go_at_call 43;clear y0 y1 y2 y3 y4;refine (newBook_any S R c d y _ (hYz.out _ hb1.out) h0z.out).mono ?_;rintro e9 wm ⟨Bs,B,M,v,rfl,hbk⟩;have hbk0:=Lib.hid hbk;clear hbk))
  clear g0 g1
  have hst0:Hid (Cal.bk0.stays.length≤0):=Nat.le_refl _
  go_loopw [9,10,23] (fun _ _ i wr=>∃ (k:Nat) (bk:Bk) (v:Value),k≤l.length∧i=.int .i64 k∧Hid (Cal.bkRead y l=Cal.bkReads y bk (l.drop k))∧Hid (BkW wn wr Bs B M S R c d y v bk)∧Hid (bk.stays.length≤k)) (fun _ _ i _=>l.length-(intOf i).toNat)
  case atStart=>exact⟨0,Cal.bk0,v,Nat.zero_le _,rfl,hR,hbk0,hst0⟩
  case round =>
   clear hR hbk0 hst0
   obtain⟨k,bk,v,hk,rfl,hR,hbk,hst⟩:=hrel
   by_cases hlt:k<l.length
   ·have hd:=bkReads_drop (y:=y) (b:=bk) hlt
    have hk':l[k]?=some l[k]:=List.getElem?_eq_getElem hlt
    have hEw:=hEz.out wr (below_step hb1.out hbk.out.bel)
    have hnm:=Lib.hid (hEw.nm _ (List.getElem_mem hlt))
    obtain⟨b,o,rfl,hbl,e0,e1,e2,e3,e4,e5,e6⟩:=ev_at hEw.rows hk'
    clear hk' hEw
    generalize l[k]=e at *
    have hadd:=Lib.hid (vadd_any wn Bs B M S R c d y v bk e _ (hbk.out.below (below_alloc wr (.cells #[.int .i64 e.day,.int .i64 e.kind,.string e.site,.int .i64 e.level,.string e.remain,.int .i64 e.cont,.bool e.order] 44))) hnm.out.1 hnm.out.2 (by have:=hst.out;omega))
    have hln:=Lib.hid (bkAdd_len y bk e)
    rw[←hR.out] at hd
    clear hR
    obtain⟨r,hr⟩:∃ r,r=Cal.bkAdd y bk e:=⟨_,rfl⟩
    rw[←hr] at hd hadd hln
    clear hr
    obtain⟨bk',ec2⟩:=r
    dsimp only at hd
    by_cases hz:ec2=0
    ·subst hz
     rw[if_neg (by simp)] at hd
     have hR2:=Lib.hid hd
     clear hd
     go_wp2_with (go_at_call 25;refine hadd.out.mono ?_;rintro e9 wm2 ⟨rfl,v2,hbk2⟩;have hbk2:=Lib.hid hbk2)
     go_roundw
     case rel=>exact⟨k+1,bk',v2,by omega,by go_num,hR2,hbk2,by show bk'.stays.length≤k+1;have h1:bk'.stays.length≤bk.stays.length+1:=hln.out;have:=hst.out;omega⟩
     case measure=>simp[intOf];omega
    rw[if_pos hz] at hd
    have hf:=Lib.hid hd
    have hzq:(ec2 != 0)=true:=by simp[hz]
    have hz:=Lib.hid hz
    clear hd
    go_wp2_with (go_at_call 25;refine hadd.out.mono ?_;rintro e9 wm2 ⟨rfl,v2,hbk2⟩;have hbk2:=Lib.hid hbk2)
    go_ret2
    rw[hf.out]
    exact .inl ⟨hz.out,rfl,below_step hb1.out hbk2.out.bel⟩
   obtain rfl:k=l.length:=by omega
   have hf:Hid (Cal.bkRead y l=(bk,0)):=by show _=_;rw[hR.out,List.drop_length];rfl
   clear hR
   go_wp2
   go_ret2
   rw[hf.out]
   exact .inr ⟨rfl,Bs,B,M,v,rfl,hbk.out.older hb1.out hYo.out⟩
 have hf:Hid (Cal.bkRead y l=(Cal.bk0,Cal.yardE y)):=by show _=_;unfold Cal.bkRead;rw[if_pos h0]
 have h1:(Cal.yardE y != 0)=true:=by simp[h0]
 have h0z:=Lib.hid h0
 clear h0
 go_wp2_with (go_at_call 42;refine hchk.out.mono ?_;rintro e9 wn ⟨rfl,hbn⟩;have hb1:=Lib.hid (below_step hb0.out hbn);clear hbn)
 go_ret2
 rw[hf.out]
 exact .inl ⟨h0z.out,rfl,hb1.out⟩
end Go.Proofs.YtoojdkaimhlcbaaDoor
namespace Go.Proofs.YtoojdkaimhlcbaaDoor
open Go Go.RowKit Go.Maps Go.WideMaps
theorem elemEv:Elem Tryd.prog 40 44 7 72:=Elem.mk' Tryd.underlying40 (z:=.agg #[.int .i64 0,.int .i64 0,.string ⟨#[]⟩,.int .i64 0,.string ⟨#[]⟩,.int .i64 0,.bool false]) (by kernel_rfl) rfl (by decide)
theorem ev_wid (l:List Ev):∀ r∈l.map Ev.cells,r.length=7:=fun r hr=>by obtain⟨s,_,rfl⟩:=List.mem_map.1 hr;rfl
theorem ev_one (l:List Ev):∀ r∈l.map Ev.cells,∀ u∈r,u.oneCell'=true:=fun r hr u hu=>by
 obtain⟨s,_,rfl⟩:=List.mem_map.1 hr
 simp only[Ev.cells,List.mem_cons,List.not_mem_nil,or_false] at hu
 rcases hu with rfl | rfl | rfl | rfl | rfl | rfl | rfl <;> rfl
def ClP (w:World) (l:List Ev) (e:Ending) (w':World):Prop:=∃ v,e=.returned v∧OwnL w' w.heap.size 44 7 v (l.map Ev.cells)∧Below w.heap.size w w'
theorem CloneEv_any (E:Option Addr) (ec:Nat) (l:List Ev) (w:World) (hr:RowsAt w E 7 (l.map Ev.cells)) (hl:l.length≤1000000) :
  Calls Tryd.prog 26 #[.slice E l.length ec] w (ClP w l):=by
 cases E with
 | none =>
  have h0:l=[]:=by
   cases l with
   | nil=>rfl
   | cons q r=>obtain⟨b,o,hA,_⟩:=hr 0 q.cells rfl;cases hA
  subst h0
  have hnil:=fun w=>Lib.run_eql_slice_nil (P:=Tryd.prog) w 40 44 none 0 ec 0 0 Tryd.underlying40
  go_enter Tryd.func26,Tryd.ntmps26
  go_wp2
  go_ret
  exact⟨_,rfl,OwnL.nil _ _ _ _,Below.refl _ _⟩
 | some a =>
  have hnil:=fun w=>Lib.run_eql_slice_nil (P:=Tryd.prog) w 40 44 (some a) l.length ec 0 0 Tryd.underlying40
  have hl':=Lib.hid (hr.below (below_alloc w (.cells #[] 44)))
  have hw:=Lib.hid (ev_wid l)
  have h1:=Lib.hid (ev_one l)
  clear hr
  go_enter Tryd.func26,Tryd.ntmps26
  go_wp2_with (at_builtin;refine wpList_append_rows elemEv rfl _ _ rfl rfl rfl (OwnL.made w w.heap.size _ 7 (Nat.le_refl _)) hl'.out (List.length_map ..).symm hw.out h1.out (by simp;omega) (by decide) (by simp) ?_;intro v' w1 hown hg _)
  go_ret
  exact⟨_,rfl,by simpa using hown,(below_alloc _ _).trans (grown_below hg (fun g e=>by cases e;exact Nat.le_refl _) (by simp))⟩
theorem bkReads_len {y:Yd}:∀ {l:List Ev} {b:Bk},(Cal.bkReads y b l).1.stays.length≤b.stays.length+l.length
 | [],b=>Nat.le_refl _
 | e :: r,b=>by
  unfold Cal.bkReads
  have h1:=bkAdd_len y b e
  split
  ·simp only[List.length_cons];omega
  have:=bkReads_len (y:=y) (l:=r) (b:=(Cal.bkAdd y b e).1)
  simp only[List.length_cons];omega
theorem bkRead_len {y:Yd} {l:List Ev} (_:(Cal.bkRead y l).2=0):(Cal.bkRead y l).1.stays.length≤300:=by
 unfold Cal.bkRead
 split
 ·exact Nat.zero_le _
 split
 ·exact Nat.zero_le _
 have:=bkReads_len (y:=y) (l:=l) (b:=Cal.bk0)
 have h0:Cal.bk0.stays.length=0:=rfl
 omega
theorem RdP.ok {w w':World} {S R:Option Addr} {c d:Nat} {y:Yd} {r:Bk × Int} {e:Ending} (h:RdP w S R c d y r e w') (hz:r.2=0):∃ Bs B M v,e=.returned (.tuple #[.pointer (some ⟨B,0,none⟩),.int .i64 0])∧BkW w w' Bs B M S R c d y v r.1:=by
 rcases h with ⟨h,_⟩ | ⟨_,h⟩
 ·exact absurd hz h
 exact h
theorem RdP.bad {w w':World} {S R:Option Addr} {c d:Nat} {y:Yd} {r:Bk × Int} {e:Ending} (h:RdP w S R c d y r e w') (hz:r.2≠0):e=.returned (.tuple #[.pointer none,.int .i64 r.2])∧Below w.heap.size w w':=by
 rcases h with ⟨_,h⟩ | ⟨h,_⟩
 ·exact h
 exact absurd h hz
def AdEP (w:World) (r:List Ev × Int) (e:Ending) (w':World):Prop:=∃ v,e=.returned (.tuple #[v,.int .i64 r.2])∧OwnL w' w.heap.size 44 7 v (r.1.map Ev.cells)∧Below w.heap.size w w'
theorem AdEP.bad {w w':World} {E:Int} {r:List Ev × Int} (h:r=([],E)) (hb:Below w.heap.size w w'):AdEP w r (.returned (.tuple #[.slice none 0 0,.int .i64 E])) w':=by
 subst h
 exact⟨_,rfl,OwnL.nil _ _ _ _,hb⟩
theorem ErI.xbox (w:World) (S R:Option Addr) (c d:Nat) (y:Yd) (x:Ev):BoxAt ((w.alloc (.cells #[.slice S y.sites.length c,.slice R y.rests.length d,.int .i64 y.c0,.int .i64 y.c1,.int .i64 y.c2] 37)).alloc (.cells #[.int .i64 x.day,.int .i64 x.kind,.string x.site,.int .i64 x.level,.string x.remain,.int .i64 x.cont,.bool x.order] 44)) w.heap.size [.slice S y.sites.length c,.slice R y.rests.length d,.int .i64 y.c0,.int .i64 y.c1,.int .i64 y.c2]∧BoxAt ((w.alloc (.cells #[.slice S y.sites.length c,.slice R y.rests.length d,.int .i64 y.c0,.int .i64 y.c1,.int .i64 y.c2] 37)).alloc (.cells #[.int .i64 x.day,.int .i64 x.kind,.string x.site,.int .i64 x.level,.string x.remain,.int .i64 x.cont,.bool x.order] 44)) (w.heap.size+1) [.int .i64 x.day,.int .i64 x.kind,.string x.site,.int .i64 x.level,.string x.remain,.int .i64 x.cont,.bool x.order]∧Below w.heap.size w ((w.alloc (.cells #[.slice S y.sites.length c,.slice R y.rests.length d,.int .i64 y.c0,.int .i64 y.c1,.int .i64 y.c2] 37)).alloc (.cells #[.int .i64 x.day,.int .i64 x.kind,.string x.site,.int .i64 x.level,.string x.remain,.int .i64 x.cont,.bool x.order] 44)):=by
 have h:=BoxAt.new (w.alloc (.cells #[.slice S y.sites.length c,.slice R y.rests.length d,.int .i64 y.c0,.int .i64 y.c1,.int .i64 y.c2] 37)) #[.int .i64 x.day,.int .i64 x.kind,.string x.site,.int .i64 x.level,.string x.remain,.int .i64 x.cont,.bool x.order] 44
 rw[World.size_alloc] at h
 exact⟨(BoxAt.new w #[.slice S y.sites.length c,.slice R y.rests.length d,.int .i64 y.c0,.int .i64 y.c1,.int .i64 y.c2] 37).alloc _,h,below_step (below_alloc _ _) (below_alloc _ _)⟩
theorem AddE_any (S R:Option Addr) (c d:Nat) (y:Yd) (E:Option Addr) (ec:Nat) (l:List Ev) (x:Ev) (w:World) (hY:YdIn w S R y) (hcap:y.sites.length≤c) (hE:EvIn w E l) (hn1:x.remain.size≤maxLen) (hn2:x.site.size≤maxLen) :
  Calls Tryd.prog 10 #[.agg #[.slice S y.sites.length c,.slice R y.rests.length d,.int .i64 y.c0,.int .i64 y.c1,.int .i64 y.c2],.slice E l.length ec,.agg #[.int .i64 x.day,.int .i64 x.kind,.string x.site,.int .i64 x.level,.string x.remain,.int .i64 x.cont,.bool x.order]] w (AdEP w (Cal.grvAdd y l x)):=by
 have hll:=hE.len
 obtain⟨hy,hx,hb0⟩:=ErI.xbox w S R c d y x
 have hread:=Lib.hid (read_any S R c d y E ec l _ (hY.below hb0) hcap (hE.below hb0))
 have hEz:=Lib.hid (fun w' (h:Below w.heap.size w w')=>hE.below h)
 have hYz:=Lib.hid hY
 have hy:=Lib.hid hy
 have hx:=Lib.hid hx
 have hx0:=hx
 have hb0:=Lib.hid hb0
 clear hY hE
 have hG:Hid (Cal.grvAdd y l x=if (Cal.bkRead y l).2≠0 then ([],(Cal.bkRead y l).2) else if 300≤l.length then ([],8) else if (Cal.bkAdd y (Cal.bkRead y l).1 x).2≠0 then ([],(Cal.bkAdd y (Cal.bkRead y l).1 x).2) else (l ++ [x],0)):=rfl
 have hlen:=Lib.hid (fun (h:(Cal.bkRead y l).2=0)=>bkRead_len h)
 obtain⟨r,hr⟩:∃ r,r=Cal.bkRead y l:=⟨_,rfl⟩
 rw[←hr] at hG hread hlen
 clear hr
 obtain⟨bk,rc⟩:=r
 obtain⟨G,hGe⟩:∃ G,G=Cal.grvAdd y l x:=⟨_,rfl⟩
 rw[←hGe] at hG ⊢
 clear hGe
 (obtain⟨y0,y1,y2,y3⟩:=hy.out.c4;have y4:=hy.out.c 4 _ rfl)
 by_cases hz:rc=0
 ·subst hz
  rw[if_neg (by simp)] at hG
  by_cases h300:300≤l.length
  ·rw[if_pos h300] at hG
   have h3q:decide (300≤(l.length:Int))=true:=decide_eq_true (by omega)
   clear h300
   go_enter Tryd.func10,Tryd.ntmps10
   go_wp2_with (go_at_call 24;clear y0 y1 y2 y3 y4;refine hread.out.mono ?_;intro e9 wn hrd;obtain⟨Bs,B,M,v,rfl,hbk⟩:=hrd.ok rfl;have hbk:=Lib.hid hbk;clear hrd)
   go_ret2
   exact AdEP.bad hG.out (below_step hb0.out hbk.out.bel)
  rw[if_neg h300] at hG
  have h3q:decide (300≤(l.length:Int))=false:=decide_eq_false (by omega)
  have hl3:=hlen.out rfl
  dsimp only at hl3 hG
  have hbl:=Lib.hid hl3
  clear hlen hl3
  have hadd:=Lib.hid (fun Bs B M v wn (h:BkW ((w.alloc (.cells #[.slice S y.sites.length c,.slice R y.rests.length d,.int .i64 y.c0,.int .i64 y.c1,.int .i64 y.c2] 37)).alloc (.cells #[.int .i64 x.day,.int .i64 x.kind,.string x.site,.int .i64 x.level,.string x.remain,.int .i64 x.cont,.bool x.order] 44)) wn Bs B M S R c d y v bk)=>vadd_any _ Bs B M S R c d y v bk x wn h hn1 hn2 (by have:=hbl.out;omega))
  obtain⟨r,hr⟩:∃ r,r=Cal.bkAdd y bk x:=⟨_,rfl⟩
  rw[←hr] at hG hadd
  clear hr
  obtain⟨bk2,rc2⟩:=r
  dsimp only at hG
  by_cases hz2:rc2=0
  ·subst hz2
   rw[if_neg (by simp)] at hG
   go_enter Tryd.func10,Tryd.ntmps10
   go_upto_region 9 with (first
    |(go_at_call 24;clear y0 y1 y2 y3 y4;refine hread.out.mono ?_;intro e9 wn hrd;obtain⟨Bs,B,M,v,rfl,hbk⟩:=hrd.ok rfl;have hbk:=Lib.hid hbk;clear hrd;replace hx:=Lib.hid (hx.out.below hbk.out.bel);(obtain⟨x0,x1,x2,x3⟩:=hx.out.c4;have x4:=hx.out.c 4 _ rfl;have x5:=hx.out.c 5 _ rfl;have x6:=hx.out.c 6 _ rfl))
    |(go_at_call 25;clear x0 x1 x2 x3 x4 x5 x6;refine (hadd.out Bs B M v wn hbk.out).mono ?_;rintro e9 wm ⟨rfl,v2,hbk2⟩;have hbk2:=Lib.hid hbk2))
   have hxm:=Lib.hid (hx0.out.below hbk2.out.bel)
   have hbw:=Lib.hid (below_step hb0.out hbk2.out.bel)
   replace hxm:=Lib.hid (hxm.out.below ((Below.refl wm.heap.size wm).drew))
   replace hbw:=Lib.hid (hbw.out.trans (Below.refl _ _).drew)
   obtain⟨X,hX⟩:∃ X,wm.drew=X:=⟨_,rfl⟩
   rw[hX] at hxm hbw
   have hxlt:Hid (w.heap.size+1<X.heap.size):=hxm.out.lt
   refine wp_region_held_drew (S:=Sx w [(w.heap.size+1,0,.int .i64 x.day),(w.heap.size+1,1,.int .i64 x.kind),(w.heap.size+1,2,.string x.site),(w.heap.size+1,3,.int .i64 x.level),(w.heap.size+1,4,.string x.remain),(w.heap.size+1,5,.int .i64 x.cont),(w.heap.size+1,6,.bool x.order)]) (by kernel_rfl) (by rw[hX];exact (Sx.mk (by simp only[cs_iff_cons];exact⟨hxm.out.c 0 _ rfl,hxm.out.c 1 _ rfl,hxm.out.c 2 _ rfl,hxm.out.c 3 _ rfl,hxm.out.c 4 _ rfl,hxm.out.c 5 _ rfl,hxm.out.c 6 _ rfl,cs_nil _⟩) hbw.out)) (fun hHeld=>?_)
   rw[hX] at hHeld ⊢
   clear hX hbk2 hbk hread hadd hx hxm
   have hEr:=Lib.hid (fun w' (h:Below w.heap.size w w')=>(hEz.out w' h).rows)
   refine tkHx 0 31 ?_
   refine tkHx 2 33 ?_
   refine wpAnyH_ready (rs:=[1,3]) (by decide +kernel) (by simp) ?_
   refine AllReadyH.cons rfl (fun K hK=>?_) (AllReadyH.cons rfl (fun K hK=>?_) AllReadyH.nil)
   ·rw[if_pos (by kernel_rfl)]
    go_simp
    refine (CloneEv_any E ec l _ (hEr.out _ hHeld.bel) hll).mono ?_
    rintro e9 w4 ⟨vc,rfl,hown,hb4⟩
    go_simp
    (refine hK.out _ _ (hHeld.step hb4) (fun hHeld=>?_);clear hK K;(try simp only[apS,apN,siA,scZ,scS]))
    (refine ratHx 3 (fun K hK=>?_);go_simp)
    have hba:=below_alloc w4 (.cells #[.int .i64 x.day,.int .i64 x.kind,.string x.site,.int .i64 x.level,.string x.remain,.int .i64 x.cont,.bool x.order] 44)
    refine hK.out _ _ (hHeld.step hba) (fun hHeld=>?_)
    clear hK K
    (try simp only[apS,apN,siA,scZ,scS])
    have hown4:=hown.below hba
    have hsrc:=rowsAt_new w4 [.int .i64 x.day,.int .i64 x.kind,.string x.site,.int .i64 x.level,.string x.remain,.int .i64 x.cont,.bool x.order] 44
    have hbase:X.heap.size≤(w4.alloc (.cells #[.int .i64 x.day,.int .i64 x.kind,.string x.site,.int .i64 x.level,.string x.remain,.int .i64 x.cont,.bool x.order] 44)).heap.size:=Nat.le_trans hb4.size hba.size
    clear hown hb4 hba
    refine wpAnyH_ready (rs:=[4]) (by decide +kernel) (by simp) ?_
    refine AllReadyH.cons rfl (fun K hK=>?_) AllReadyH.nil
    refine step_append_rows elemEv (by rfl) (.tmp 32) (.tmp 34) (by rfl) (by rfl) (by rfl) hown4 hsrc rfl (ev_wid [x]) (ev_one [x]) (by rw[List.length_map];simp;omega) (by decide) hbase ?_
    intro v' w5 hown5 hg5 hob5
    have hown5:OwnL w5 X.heap.size 44 7 v' ((l ++ [x]).map Ev.cells):=by rw[List.map_append];exact hown5
    have hwX:=hbw.out.size
    have hrow:∀ k9,Value.ownBlock vc=some k9→X.heap.size≤k9:=fun k9 e1=>(hown4.lt k9 e1).1
    have hS5:Sx w [(w.heap.size+1,0,.int .i64 x.day),(w.heap.size+1,1,.int .i64 x.kind),(w.heap.size+1,2,.string x.site),(w.heap.size+1,3,.int .i64 x.level),(w.heap.size+1,4,.string x.remain),(w.heap.size+1,5,.int .i64 x.cont),(w.heap.size+1,6,.bool x.order)] w5:=by
     have hcs:=hHeld.cs
     simp only[cs_iff_cons] at hcs
     obtain⟨c0,c1,c2,c3,c4,c5,c6,_⟩:=hcs
     have hne:∀ j v,(some (w.heap.size+1)≠Value.ownBlock vc)→World.cell? _ ⟨w.heap.size+1,j,none⟩=some v→w5.cell? ⟨w.heap.size+1,j,none⟩=some v:=fun j v h h2=>hg5.cell h2 h
     have hnb:some (w.heap.size+1)≠Value.ownBlock vc:=fun e1=>by have:=hrow _ e1.symm;have:=hxlt.out;omega
     exact Sx.mk (by simp only[cs_iff_cons];exact⟨hne _ _ hnb c0,hne _ _ hnb c1,hne _ _ hnb c2,hne _ _ hnb c3,hne _ _ hnb c4,hne _ _ hnb c5,hne _ _ hnb c6,cs_nil _⟩) (hHeld.bel.trans (grown_below hg5 (fun k9 e1=>by have:=hrow k9 e1;omega) hHeld.bel.size))
    refine hK.out _ _ hS5 (fun hHeld=>?_)
    clear hK K hS5 hg5 hob5 hrow hown4 hsrc hbase
    simp only[List.getElem_toArray,List.getElem_cons_succ,List.getElem_cons_zero]
    (try simp only[apS,apN,siA,scZ,scS])
    obtain⟨A5,c5,hv5,_⟩:=OwnL.form hown5
    obtain⟨q5,hq5⟩:∃ q5,q5=((l ++ [x]).map Ev.cells).length:=⟨_,rfl⟩
    rw[←hq5] at hv5
    clear hq5
    subst hv5
    refine tkHx 5 6 ?_
    refine tkHx 6 7 ?_
    refine wpAnyH_done (by kernel_rfl) ?_ _
    go_wp2
    go_ret2
    rw[hG.out]
    exact⟨_,rfl,OwnL.less hown5 hwX,hHeld.bel⟩
   rw[if_pos (by kernel_rfl)]
   go_simp
   have hba:=below_alloc X (.cells #[.int .i64 x.day,.int .i64 x.kind,.string x.site,.int .i64 x.level,.string x.remain,.int .i64 x.cont,.bool x.order] 44)
   refine hK.out _ _ (hHeld.step hba) (fun hHeld=>?_)
   clear hK K
   (try simp only[apS,apN,siA,scZ,scS])
   have hsrc0:=rowsAt_new X [.int .i64 x.day,.int .i64 x.kind,.string x.site,.int .i64 x.level,.string x.remain,.int .i64 x.cont,.bool x.order] 44
   have hzx:(X.alloc (.cells #[.int .i64 x.day,.int .i64 x.kind,.string x.site,.int .i64 x.level,.string x.remain,.int .i64 x.cont,.bool x.order] 44)).heap.size=X.heap.size+1:=by simp
   (refine ratHx 1 (fun K hK=>?_);go_simp)
   refine (CloneEv_any E ec l _ (hEr.out _ hHeld.bel) hll).mono ?_
   rintro e9 w4 ⟨vc,rfl,hown4,hb4⟩
   go_simp
   have hsrc:=hsrc0.below hb4
   have hown4:=OwnL.less (B':=X.heap.size) hown4 (by rw[hzx];omega)
   have hbase:X.heap.size≤w4.heap.size:=by have:=hb4.size;omega
   (refine hK.out _ _ (hHeld.step hb4) (fun hHeld=>?_);clear hK K;(try simp only[apS,apN,siA,scZ,scS]))
   clear hsrc0 hzx hb4 hba
   refine wpAnyH_ready (rs:=[4]) (by decide +kernel) (by simp) ?_
   refine AllReadyH.cons rfl (fun K hK=>?_) AllReadyH.nil
   refine step_append_rows elemEv (by rfl) (.tmp 32) (.tmp 34) (by rfl) (by rfl) (by rfl) hown4 hsrc rfl (ev_wid [x]) (ev_one [x]) (by rw[List.length_map];simp;omega) (by decide) hbase ?_
   intro v' w5 hown5 hg5 hob5
   have hown5:OwnL w5 X.heap.size 44 7 v' ((l ++ [x]).map Ev.cells):=by rw[List.map_append];exact hown5
   have hwX:=hbw.out.size
   have hrow:∀ k9,Value.ownBlock vc=some k9→X.heap.size≤k9:=fun k9 e1=>(hown4.lt k9 e1).1
   have hS5:Sx w [(w.heap.size+1,0,.int .i64 x.day),(w.heap.size+1,1,.int .i64 x.kind),(w.heap.size+1,2,.string x.site),(w.heap.size+1,3,.int .i64 x.level),(w.heap.size+1,4,.string x.remain),(w.heap.size+1,5,.int .i64 x.cont),(w.heap.size+1,6,.bool x.order)] w5:=by
    have hcs:=hHeld.cs
    simp only[cs_iff_cons] at hcs
    obtain⟨c0,c1,c2,c3,c4,c5,c6,_⟩:=hcs
    have hne:∀ j v,(some (w.heap.size+1)≠Value.ownBlock vc)→World.cell? _ ⟨w.heap.size+1,j,none⟩=some v→w5.cell? ⟨w.heap.size+1,j,none⟩=some v:=fun j v h h2=>hg5.cell h2 h
    have hnb:some (w.heap.size+1)≠Value.ownBlock vc:=fun e1=>by have:=hrow _ e1.symm;have:=hxlt.out;omega
    exact Sx.mk (by simp only[cs_iff_cons];exact⟨hne _ _ hnb c0,hne _ _ hnb c1,hne _ _ hnb c2,hne _ _ hnb c3,hne _ _ hnb c4,hne _ _ hnb c5,hne _ _ hnb c6,cs_nil _⟩) (hHeld.bel.trans (grown_below hg5 (fun k9 e1=>by have:=hrow k9 e1;omega) hHeld.bel.size))
   refine hK.out _ _ hS5 (fun hHeld=>?_)
   clear hK K hS5 hg5 hob5 hrow hown4 hsrc hbase
   simp only[List.getElem_toArray,List.getElem_cons_succ,List.getElem_cons_zero]
   (try simp only[apS,apN,siA,scZ,scS])
   obtain⟨A5,c5,hv5,_⟩:=OwnL.form hown5
   obtain⟨q5,hq5⟩:∃ q5,q5=((l ++ [x]).map Ev.cells).length:=⟨_,rfl⟩
   rw[←hq5] at hv5
   clear hq5
   subst hv5
   refine tkHx 5 6 ?_
   refine tkHx 6 7 ?_
   refine wpAnyH_done (by kernel_rfl) ?_ _
   go_wp2
   go_ret2
   rw[hG.out]
   exact⟨_,rfl,OwnL.less hown5 hwX,hHeld.bel⟩
  rw[if_pos hz2] at hG
  have hzq:(rc2 != 0)=true:=by simp[hz2]
  clear hz2
  go_enter Tryd.func10,Tryd.ntmps10
  go_wp2_with (first
   |(go_at_call 24;clear y0 y1 y2 y3 y4;refine hread.out.mono ?_;intro e9 wn hrd;obtain⟨Bs,B,M,v,rfl,hbk⟩:=hrd.ok rfl;have hbk:=Lib.hid hbk;clear hrd;replace hx:=Lib.hid (hx.out.below hbk.out.bel);(obtain⟨x0,x1,x2,x3⟩:=hx.out.c4;have x4:=hx.out.c 4 _ rfl;have x5:=hx.out.c 5 _ rfl;have x6:=hx.out.c 6 _ rfl))
   |(go_at_call 25;clear x0 x1 x2 x3 x4 x5 x6;refine (hadd.out Bs B M v wn hbk.out).mono ?_;rintro e9 wm ⟨rfl,v2,hbk2⟩;have hbk2:=Lib.hid hbk2))
  go_ret2
  exact AdEP.bad hG.out (below_step hb0.out hbk2.out.bel)
 rw[if_pos hz] at hG
 have hzq:(rc != 0)=true:=by simp[hz]
 have hz:=Lib.hid hz
 go_enter Tryd.func10,Tryd.ntmps10
 go_wp2_with (go_at_call 24;clear y0 y1 y2 y3 y4;refine hread.out.mono ?_;intro e9 wn hrd;obtain⟨rfl,hbn⟩:=hrd.bad hz.out;clear hrd)
 go_ret2
 exact AdEP.bad hG.out (below_step hb0.out hbn)
end Go.Proofs.YtoojdkaimhlcbaaDoor
namespace Go.Proofs.YtoojdkaimhlcbaaDoor
open Go Go.RowKit Go.Maps
theorem RestOver_any (S R:Option Addr) (c d:Nat) (y:Yd) (E:Option Addr) (ec:Nat) (l:List Ev) (n:ByteArray) (w:World) (hY:YdIn w S R y) (hcap:y.sites.length≤c) (hE:EvIn w E l) (hn:n.size≤maxLen) (bk:Bk) (hr:Cal.bkRead y l=(bk,0)) (t:Lot) (ht:Cal.lotOf bk.stays n=some t) (h1:t.state=1) (s:Site) (hs:Cal.siteOf y.sites t.site=some s) (h0:0≤t.since) (h2:t.since≤200000) :
  Calls Tryd.prog 11 #[.agg #[.slice S y.sites.length c,.slice R y.rests.length d,.int .i64 y.c0,.int .i64 y.c1,.int .i64 y.c2],.slice E l.length ec,.string n] w fun e w'=>e=.returned (.tuple #[.int .i64 (Cal.overS y t),.int .i64 0])∧Below w.heap.size w w':=by
 have hb0:=below_alloc w (.cells #[.slice S y.sites.length c,.slice R y.rests.length d,.int .i64 y.c0,.int .i64 y.c1,.int .i64 y.c2] 37)
 have hy:=Lib.hid (BoxAt.new w #[.slice S y.sites.length c,.slice R y.rests.length d,.int .i64 y.c0,.int .i64 y.c1,.int .i64 y.c2] 37)
 have hread:=Lib.hid (read_any S R c d y E ec l _ (hY.below hb0) hcap (hE.below hb0))
 rw[hr] at hread
 have hlot:=Lib.hid (fun (B M:Nat) (A:Option Addr) (cap:Nat) (w':World) (hB:BkR w' B M S R c d y A cap bk)=>(by
  have h:=lot_any B M S R c d y A cap bk n w' hB hn
  rw[ht] at h
  exact h:Calls Tryd.prog 27 #[.pointer (some ⟨B,0,none⟩),.string n] w' (fun e w''=>e=.returned (.tuple #[.agg #[.string t.remain,.int .i64 t.state,.string t.site,.int .i64 t.level,.int .i64 t.cont,.int .i64 t.since],.bool true])∧Below w'.heap.size w' w'')))
 have hover:=Lib.hid (fun (B M:Nat) (A:Option Addr) (cap:Nat) (w':World) (hB:BkR w' B M S R c d y A cap bk)=>restOver_any B M S R c d y A cap bk t s w' hB hs h0 h2)
 have hst:(t.state != 1)=false:=by simp[h1]
 have hb0:=Lib.hid hb0
 clear hY hE hr ht h1 hs h0 h2
 (obtain⟨y0,y1,y2,y3⟩:=hy.out.c4;have y4:=hy.out.c 4 _ rfl)
 go_enter Tryd.func11,Tryd.ntmps11
 go_upto_region 8 with (first
  |(go_at_call 24;clear y0 y1 y2 y3 y4;refine hread.out.mono ?_;intro e9 wn hrd;obtain⟨Bs,B,M,v,rfl,hbk⟩:=hrd.ok rfl;obtain⟨A,cap,_,hbr⟩:=hbk.read;have hbn:=Lib.hid hbk.bel;replace hbr:=Lib.hid hbr;clear hrd hbk)
  |(go_at_call 27;refine (hlot.out B M A cap wn hbr.out).mono ?_;rintro e9 wm ⟨rfl,hbm⟩;have hL:=Lib.hid (BoxAt.new wm #[.string t.remain,.int .i64 t.state,.string t.site,.int .i64 t.level,.int .i64 t.cont,.int .i64 t.since] 51);replace hbm:=Lib.hid hbm;obtain⟨l0,l1,l2,l3⟩:=hL.out.c4;have l4:=hL.out.c 4 _ rfl;have l5:=hL.out.c 5 _ rfl))
 have hba:=Lib.hid (below_step hbm.out (below_alloc wm (.cells #[.string t.remain,.int .i64 t.state,.string t.site,.int .i64 t.level,.int .i64 t.cont,.int .i64 t.since] 51)))
 go_wp2_with (go_at_call 28;refine (hover.out B M A cap _ (hbr.out.below hba.out)).mono ?_;rintro e9 wk ⟨rfl,hbk⟩;replace hbk:=Lib.hid hbk)
 go_ret2
 exact⟨rfl,below_step (below_step (below_step hb0.out hbn.out) hba.out) hbk.out⟩
end Go.Proofs.YtoojdkaimhlcbaaDoor
namespace Go.Proofs.YtoojdkaimhlcbaaDoor
namespace Cal
def yd1 (s:Site) (n:Int):Yd:=⟨[s],[⟨s.soil,1,n⟩],0,0,0⟩
def evB (s:Site) (d:Int):Ev:=⟨d,0,s.name,0,⟨#[120]⟩,1,false⟩
def evG (d:Int):Ev:=⟨d,4,⟨#[]⟩,0,⟨#[120]⟩,0,false⟩
theorem name_x:nameB ⟨#[120]⟩=true:=by decide +kernel
structure SiteOk (s:Site):Prop where
 name:nameB s.name=true
 kind:0≤s.kind∧s.kind≤3
 soil:0≤s.soil∧s.soil≤9
 depth:0≤s.depth∧s.depth≤1000
 step:0≤s.step∧s.step≤300
 room:1≤s.room∧s.room≤12
theorem siteErr_ok {s:Site} (h:siteErr s=0):SiteOk s:=by
 unfold siteErr at h
 repeat' split at h
 all_goals first | (cases h;done) | skip
 all_goals exact⟨by rename_i h1 h2 h3 h4 h5 h6;simpa using h1,by omega,by omega,by omega,by omega,by omega⟩
theorem yd1_ok {s:Site} {n:Int} (h:siteErr s=0) (h0:0≤n) (h1:n≤100000):yardE (yd1 s n)=0:=by
 have k:=siteErr_ok h
 have hs:sitesErr [] [s]=0:=by simp[sitesErr,h,siteOf]
 have hb:¬restBad ⟨s.soil,1,n⟩:=by unfold restBad;have:=k.soil;simp;omega
 have hr:restsE [] [⟨s.soil,1,n⟩]=0:=by simp[restsE,hb]
 have hc:coversE (yd1 s n)=0:=by simp[coversE,yd1]
 simp only[yardE]
 rw[hc]
 show (if 60<1 then _ else _)=_
 simp[yd1,hs,hr]
theorem siteOf1 (s:Site):siteOf [s] s.name=some s:=by simp[siteOf]
theorem event_B {s:Site} (h:siteErr s=0) {d:Int} (d0:0≤d) (d1:d≤200000):eventE (evB s d)=0:=by
 have k:=siteErr_ok h
 simp[eventE,evB,name_x,k.name,d0,d1]
theorem event_G {d:Int} (d0:0≤d) (d1:d≤200000):eventE (evG d)=0:=by
 simp[eventE,evG,name_x,d0,d1]
 rfl
theorem siteOfY (s:Site) (n:Int):siteOf (yd1 s n).sites s.name=some s:=siteOf1 s
theorem place_B {s:Site} (h:siteErr s=0) (h3:s.kind≠3) (n:Int):placeE (yd1 s n) [] s.name 0 1=0:=by
 have k:=siteErr_ok h
 have:=k.room
 have:=k.kind
 have hd:=k.depth
 unfold placeE
 rw[siteOfY]
 have ht:takesB (yd1 s n) s 0 1=true:=by
  unfold takesB
  split
  ·simp only[cover,yd1,depthS];simp;split <;> omega
  split
  ·rfl
  split
  ·rfl
  omega
 simp only[ht,occB,covB,List.any_nil,Bool.and_false]
 rw[if_neg (by omega)]
 simp
def lotB (s:Site) (d:Int):Lot:=⟨⟨#[120]⟩,1,s.name,0,1,d⟩
def bkB (s:Site) (d:Int):Bk:=⟨[⟨lotB s d,-1⟩],d⟩
theorem kind_B (s:Site) (n:Int):bkErr.kindOf (yd1 s n) s.name=s.kind:=by unfold bkErr.kindOf;rw[siteOfY]
theorem add_B {s:Site} (h:siteErr s=0) (h3:s.kind≠3) (n:Int) {d:Int} (d0:0≤d) (d1:d≤200000):bkAdd (yd1 s n) bk0 (evB s d)=(bkB s d,0):=by
 have he:=event_B h d0 d1
 have hp:=place_B h h3 n
 have hE:bkErr (yd1 s n) bk0 (evB s d)=(lotB s d,0):=by
  unfold bkErr
  rw[he]
  have:¬(evB s d).day<bk0.day:=by show ¬d<0;omega
  rw[if_neg (by simp),if_neg this,if_pos (.inl rfl)]
  show bkErr.putS (yd1 s n) bk0 (evB s d)=_
  unfold bkErr.putS
  show (if placeE (yd1 s n) [] s.name 0 1≠0 then _ else _)=_
  rw[hp,if_neg (by simp)]
  show ((⟨⟨#[120]⟩,if bkErr.kindOf (yd1 s n) s.name=3 then 3 else 1,s.name,0,1,d⟩:Lot),(0:Int))=_
  rw[kind_B,if_neg h3]
  rfl
 unfold bkAdd
 rw[hE]
 rfl
theorem over_B (s:Site) (n d:Int):overS (yd1 s n) (lotB s d)=d+n:=by
 unfold overS
 show (match siteOf (yd1 s n).sites s.name with | some s=>_ | none=>_)=_
 rw[siteOfY]
 show d+restOf [⟨s.soil,1,n⟩] s.soil 1=_
 simp[restOf]
theorem add_G {s:Site} (h:siteErr s=0) (n:Int) {d e:Int} (e0:0≤e) (e1:e≤200000) (hde:d≤e):(bkAdd (yd1 s n) (bkB s d) (evG e)).2=if e<d+n then 17 else 0:=by
 have he:=event_G e0 e1
 have k:=siteErr_ok h
 have hE:(bkErr (yd1 s n) (bkB s d) (evG e)).2=if e<d+n then 17 else 0:=by
  unfold bkErr
  rw[he]
  have:¬(evG e).day<(bkB s d).day:=by show ¬e<d;omega
  rw[if_neg (by simp),if_neg this,if_neg (by simp[evG])]
  have hl:lotOf (bkB s d).stays (evG e).remain=some (lotB s d):=by simp[lotOf,lastIx,bkB,evG,lotB]
  rw[hl]
  show (if (lotB s d).state≠1 then _ else _:Lot × Int).2=_
  rw[if_neg (by simp[lotB]),if_neg (by simp[evG]),if_pos (show (evG e).kind=4 from rfl)]
  show openE (yd1 s n) (bkB s d).stays (lotB s d) e false=_
  unfold openE
  show (match siteOf (yd1 s n).sites s.name with | some s=>_ | none=>_)=_
  rw[siteOfY,over_B]
  have hc:covB (bkB s d).stays s (lotB s d).level=false:=by simp[covB,occB,bkB,lying,lotB]
  simp only[hc]
  simp
 unfold bkAdd
 split
 ·exact hE
 rename_i h0
 rw[←hE]
 simp at h0
 exact h0.symm
theorem read_nil {y:Yd} (h:yardE y=0):bkRead y []=(bk0,0):=by simp[bkRead,h,bkReads]
theorem rest_B {s:Site} (h:siteErr s=0) (h3:s.kind≠3) {n d:Int} (n0:0≤n) (n1:n≤100000) (d0:0≤d) (d1:d≤200000):grvAdd (yd1 s n) [] (evB s d)=([evB s d],0):=by
 unfold grvAdd
 rw[read_nil (yd1_ok h n0 n1),add_B h h3 n d0 d1]
 rfl
theorem read_B {s:Site} (h:siteErr s=0) (h3:s.kind≠3) {n d:Int} (n0:0≤n) (n1:n≤100000) (d0:0≤d) (d1:d≤200000):bkRead (yd1 s n) [evB s d]=(bkB s d,0):=by
 unfold bkRead
 rw[yd1_ok h n0 n1]
 simp[bkReads,add_B h h3 n d0 d1]
theorem rest_G {s:Site} (h:siteErr s=0) (h3:s.kind≠3) {n d e:Int} (n0:0≤n) (n1:n≤100000) (d0:0≤d) (d1:d≤200000) (e1:e≤200000) (hde:d≤e):(grvAdd (yd1 s n) [evB s d] (evG e)).2=if e<d+n then 17 else 0:=by
 have hG:=add_G h n (d:=d) (e:=e) (by omega) e1 hde
 unfold grvAdd
 rw[read_B h h3 n0 n1 d0 d1]
 simp only[List.length_singleton]
 rw[if_neg (by simp),if_neg (by decide)]
 split
 ·exact hG
 rename_i h0
 rw[←hG]
 simp at h0
 exact h0.symm
def churchyard:Yd:=⟨[⟨⟨#[97]⟩,0,1,240,80,3⟩,⟨⟨#[118]⟩,1,0,0,0,2⟩,⟨⟨#[110]⟩,2,0,0,0,2⟩,⟨⟨#[115]⟩,3,0,0,0,1⟩],[⟨1,0,7300⟩,⟨1,1,3650⟩],150,60,0⟩
def evV:Ev:=⟨100,0,⟨#[118]⟩,0,⟨#[120]⟩,0,false⟩
def evX:Ev:=⟨465,1,⟨#[]⟩,0,⟨#[120]⟩,0,false⟩
theorem awake_add:(grvAdd churchyard [evV] evX).2=0:=by decide +kernel
end Cal
end Go.Proofs.YtoojdkaimhlcbaaDoor
namespace Go.Proofs.YtoojdkaimhlcbaaDoor.Cal
theorem mfirst_up (t:Int) (n:Nat):mfirst (t+n)≤mfirst t+31*n:=by
 induction n with
 | zero=>simp
 | succ n ih =>
  have h:=mfirst_succ (t+n)
  have:=mlen_bd ((t+n) / 12) ((t+n) % 12+1)
  rw[show t+((n+1:Nat):Int)=t+n+1 by omega]
  omega
theorem addS_ok {day m:Int} (h:(addS day m).2=0):(0≤day∧day≤200000)∧(laterS day m).2=true∧(addS day m).1=(laterS day m).1:=by
 unfold addS at h ⊢
 split at h
 ·rename_i hc
  rw[if_pos hc]
  exact⟨⟨hc.1,hc.2.1⟩,hc.2.2.2.2,rfl⟩
 cases h
theorem years_gap {day n:Int} (n0:0≤n) (n1:n≤100) (h:(addS day (12*n)).2=0) :
  (0≤day∧day≤200000)∧day≤(addS day (12*n)).1∧(addS day (12*n)).1≤200000∧(addS day (12*n)).1-day≤100000∧(n=0→(addS day (12*n)).1=day)∧(0<n→day<(addS day (12*n)).1):=by
 obtain⟨⟨d0,d1⟩,h2,h3⟩:=addS_ok h
 rw[h3]
 have hb:=idx_bd d0 d1
 obtain⟨f1,f2⟩:=mfirst_idx d0 d1
 rw[laterS_eq] at h2 ⊢
 split at h2
 ·rename_i hy
  rw[if_pos hy]
  simp only[decide_eq_true_eq] at h2 ⊢
  have k1:=mval_mono (dD_pos d0 d1) (show idx day≤idx day+12*n by omega)
  rw[mval_idx d0 d1] at k1
  have k2:=mval_hi (dD day) (idx day+12*n)
  have k3:=mfirst_up (idx day) (12*n+1).toNat
  rw[show idx day+((12*n+1).toNat:Int)=idx day+12*n+1 by omega] at k3
  refine⟨⟨d0,d1⟩,k1,h2,by omega,fun e=>?_,fun e=>?_⟩
  ·subst e
   rw[show idx day+12*0=idx day by omega]
   exact mval_idx d0 d1
  have k4:=mval_lo (t:=idx day+12*n) (dD_pos d0 d1)
  have k5:=mfirst_mono (show idx day+1≤idx day+12*n by omega)
  omega
 cases h2
theorem addS_err2 (day m:Int):(addS day m).2=0∨(addS day m).2=2:=by
 unfold addS
 split
 ·exact .inl rfl
 exact .inr rfl
theorem addS_awake:addS 100 12=(465,0):=by decide +kernel
end Go.Proofs.YtoojdkaimhlcbaaDoor.Cal
namespace Go.Proofs.YtoojdkaimhlcbaaDoor
open Go Go.RowKit Go.Maps
theorem rows_lay {m:Nat} (w:World) (l:List (List Value)) (hw:∀ r∈l,r.length=m) (cs:Array Value) (hcs:cs=l.flatten.toArray) (t:TypeId):RowsAt (w.alloc (.cells cs t)) (some ⟨w.heap.size,0,none⟩) m l:=by
 subst hcs
 exact fun k r hr=>⟨w.heap.size,0,rfl,by simp,fun j v hv=>by rw[cell_of_row _ _ _ l.flatten.toArray t (0,0) (World.alloc_heap_new w _),Nat.zero_add];simpa using flat_get hw hr hv⟩
theorem site_wid (l:List Site):∀ r∈l.map Site.cells,r.length=6:=fun r hr=>by obtain⟨s,_,rfl⟩:=List.mem_map.1 hr;rfl
theorem rest_wid (l:List Rst):∀ r∈l.map Rst.cells,r.length=3:=fun r hr=>by obtain⟨s,_,rfl⟩:=List.mem_map.1 hr;rfl
theorem rows_at {m B:Nat} (w:World) (hB:w.heap.size=B) (l:List (List Value)) (hw:∀ r∈l,r.length=m) (cs:Array Value) (hcs:cs=l.flatten.toArray) (t:TypeId):RowsAt (w.alloc (.cells cs t)) (some ⟨B,0,none⟩) m l:=by
 subst hB
 exact rows_lay w l hw cs hcs t
theorem Churchyard_any (w:World):Calls Tryd.prog 19 #[] w fun e w'=>∃ S R,e=.returned (.agg #[.slice S Cal.churchyard.sites.length 4,.slice R Cal.churchyard.rests.length 2,.int .i64 Cal.churchyard.c0,.int .i64 Cal.churchyard.c1,.int .i64 Cal.churchyard.c2])∧YdIn w' S R Cal.churchyard∧Below w.heap.size w w':=by
 go_enter Tryd.func19,Tryd.ntmps19
 go_wp2_with fail
 have hb:=BoxAt.new w #[.slice (some ⟨w.heap.size+1,0,none⟩) 4 4,.slice (some ⟨w.heap.size+1+1,0,none⟩) 2 2,.int .i64 150,.int .i64 60,.int .i64 0] 37
 refine bodyPost_ret (results_mid1 rfl _ _ w.heap.size [.slice (some ⟨w.heap.size+1,0,none⟩) 4 4,.slice (some ⟨w.heap.size+1+1,0,none⟩) 2 2,.int .i64 150,.int .i64 60,.int .i64 0] _ rfl ((hb.alloc _).alloc _).range Tryd.underlying37 rfl ydSz) rfl ?_
 refine⟨_,_,rfl,⟨?_,?_,by decide,by decide,fun s hs=>?_⟩,?_⟩
 ·refine RowsAt.alloc ?_ _
  exact rows_at _ (by simp) (Cal.churchyard.sites.map Site.cells) (site_wid _) _ rfl _
 ·exact rows_at _ (by simp) (Cal.churchyard.rests.map Rst.cells) (rest_wid _) _ rfl _
 ·simp only[Cal.churchyard,List.mem_cons,List.not_mem_nil,or_false] at hs
  rcases hs with rfl | rfl | rfl | rfl <;> exact Nat.le_trans (show _≤1 from Nat.le_refl 1) (by unfold maxLen;omega)
 exact below_step (below_step (below_alloc _ _) (below_alloc _ _)) (below_alloc _ _)
theorem Cal.grvAdd_ok {y:Yd} {l:List Ev} {x:Ev} (h:(Cal.grvAdd y l x).2=0):Cal.grvAdd y l x=(l ++ [x],0):=by
 unfold Cal.grvAdd at h ⊢
 repeat' split at h
 all_goals first | (exact absurd h (by assumption)) | (exact absurd h (by decide)) | (repeat' split <;> first | rfl | contradiction)
theorem grounds_any (w:World) (hT:Tab w):Calls Tryd.prog 5 #[] w fun e w'=>e=.returned (.bool true)∧Below w.heap.size w w':=by
 have hTz:=Lib.hid hT
 have hadd:=Lib.hid (Cal.grvAdd_ok Cal.awake_add)
 have hmon:=Lib.hid Cal.addS_awake
 go_enter Tryd.func5,Tryd.ntmps5
 go_upto_region 3 with (first
  |(go_at_call 19;refine (Churchyard_any w).mono ?_;rintro e9 wn ⟨S,R,rfl,hY,hbn⟩;have hBx:=Lib.hid (BoxAt.new wn #[.slice S Cal.churchyard.sites.length 4,.slice R Cal.churchyard.rests.length 2,.int .i64 Cal.churchyard.c0,.int .i64 Cal.churchyard.c1,.int .i64 Cal.churchyard.c2] 37);have hb1:=Lib.hid (below_step hbn (below_alloc wn (.cells #[.slice S Cal.churchyard.sites.length 4,.slice R Cal.churchyard.rests.length 2,.int .i64 Cal.churchyard.c0,.int .i64 Cal.churchyard.c1,.int .i64 Cal.churchyard.c2] 37)));replace hY:=Lib.hid (hY.below (below_alloc wn (.cells #[.slice S Cal.churchyard.sites.length 4,.slice R Cal.churchyard.rests.length 2,.int .i64 Cal.churchyard.c0,.int .i64 Cal.churchyard.c1,.int .i64 Cal.churchyard.c2] 37)));clear hbn)
  |(go_at_call 9;refine (AddMonths_any 100 12 _ (hTz.out.below hb1.out)).mono ?_;rintro e9 w2 ⟨rfl,hb2⟩;rw[hmon.out];replace hBx:=Lib.hid (hBx.out.below hb2);replace hY:=Lib.hid (hY.out.below hb2);replace hb1:=Lib.hid (below_step hb1.out hb2);clear hb2))
 obtain⟨y0,y1,y2,y3⟩:=hBx.out.c4;have y4:=hBx.out.c 4 _ rfl
 have hE:Hid (EvIn (w2.alloc (.cells #[.int .i64 Cal.evV.day,.int .i64 Cal.evV.kind,.string Cal.evV.site,.int .i64 Cal.evV.level,.string Cal.evV.remain,.int .i64 Cal.evV.cont,.bool Cal.evV.order] 44)) (some ⟨w2.heap.size,0,none⟩) [Cal.evV]):=⟨rows_lay w2 ([Cal.evV].map Ev.cells) (ev_wid _) _ rfl _,by decide,fun e he=>by rw[List.mem_singleton.1 he];exact⟨Nat.le_trans (show _≤1 from Nat.le_refl 1) (by unfold maxLen;omega),Nat.le_trans (show _≤1 from Nat.le_refl 1) (by unfold maxLen;omega)⟩⟩
 have hYa:=Lib.hid (hY.out.below (below_alloc w2 (.cells #[.int .i64 Cal.evV.day,.int .i64 Cal.evV.kind,.string Cal.evV.site,.int .i64 Cal.evV.level,.string Cal.evV.remain,.int .i64 Cal.evV.cont,.bool Cal.evV.order] 44)))
 have hA:=Lib.hid (AddE_any S R 4 2 Cal.churchyard (some ⟨w2.heap.size,0,none⟩) 1 [Cal.evV] Cal.evX _ hYa.out (by decide) hE.out (Nat.le_trans (show _≤1 from Nat.le_refl 1) (by unfold maxLen;omega)) (Nat.le_trans (show _≤1 from by decide) (by unfold maxLen;omega)))
 rw[hadd.out] at hA
 go_wp2_with (go_at_call 10;clear y0 y1 y2 y3 y4;refine hA.out.mono ?_;rintro e9 w3 ⟨v,rfl,hown,hb3⟩;obtain⟨A3,c3,rfl,_⟩:=hown.form;have hb3:=Lib.hid hb3;clear hown)
 go_ret
 exact⟨rfl,below_step (below_step hb1.out (below_alloc _ _)) hb3.out⟩
end Go.Proofs.YtoojdkaimhlcbaaDoor
namespace Go.Proofs.YtoojdkaimhlcbaaDoor
open Go Go.RowKit
theorem CheckSiteR_any (s:Site) (w:World) (hnm:s.name.size≤maxLen) :
  Calls Tryd.prog 6 #[.agg #[.string s.name,.int .i64 s.kind,.int .i64 s.soil,.int .i64 s.depth,.int .i64 s.step,.int .i64 s.room]] w fun e w'=>e=.returned (.int .i64 (Cal.siteErr s))∧Below w.heap.size w w':=by
 have hb0:=Lib.hid (below_alloc w (.cells #[.string s.name,.int .i64 s.kind,.int .i64 s.soil,.int .i64 s.depth,.int .i64 s.step,.int .i64 s.room] 23))
 cases h1:nameB s.name
 ·have hf:Hid (Cal.siteErr s=4):=by show _=_;unfold Cal.siteErr;rw[if_pos h1]
  go_enter Tryd.func6,Tryd.ntmps6
  go_wp2_with (first
   |(go_at_call 20;refine (IsName_any s.name _ hnm).mono ?_;rintro e w' ⟨rfl,rfl⟩)
   |((first | (go_at_call 49) | (go_at_call 33) | (go_at_call 32) | (go_at_call 7) | (go_at_call 76) | (go_at_call 47));first | refine rin ?_ | refine rout ?_ | refine rany ?_))
  go_ret
  exact⟨ret_int hf.out.symm,hb0.out⟩
 have h1n:¬nameB s.name=false:=by rw[h1];simp
 by_cases hk:0≤s.kind∧s.kind≤3
 ·by_cases r1:0≤s.soil∧s.soil≤9
  ·by_cases r2:0≤s.depth∧s.depth≤1000
   ·by_cases r3:0≤s.step∧s.step≤300
    ·by_cases r4:1≤s.room∧s.room≤12
     ·have hr:¬(¬(0≤s.soil∧s.soil≤9)∨¬(0≤s.depth∧s.depth≤1000)∨¬(0≤s.step∧s.step≤300)∨¬(1≤s.room∧s.room≤12)):=by omega
      have hcm:=Int.mul_comm s.step (s.room-1)
      obtain⟨p0,p1⟩:=step_bd (s:=s.step) (l:=s.room-1) (by omega) (by omega) (by omega) (by omega)
      rw[hcm] at p0 p1
      by_cases k0:s.kind=0
      ·have q0:(s.kind == 0)=true:=by simp[k0]
       have q1:(s.kind != 0)=false:=by simp[k0]
       have q3:(s.kind == 3)=false:=by simp[k0]
       by_cases hd:s.depth-(s.room-1)*s.step<0
       ·have hf:Hid (Cal.siteErr s=3):=by show _=_;unfold Cal.siteErr;rw[if_neg h1n,if_neg (by omega),if_neg hr,if_pos ⟨k0,by rw[hcm];exact hd⟩]
        have qd:=decide_eq_true hd
        clear hcm k0 hr
        go_enter Tryd.func6,Tryd.ntmps6
        go_wp2_with (first
         |(go_at_call 20;refine (IsName_any s.name _ hnm).mono ?_;rintro e w' ⟨rfl,rfl⟩)
         |((first | (go_at_call 49) | (go_at_call 33) | (go_at_call 32) | (go_at_call 7) | (go_at_call 76) | (go_at_call 47));first | refine rin ?_ | refine rout ?_ | refine rany ?_))
        go_ret
        exact⟨ret_int hf.out.symm,hb0.out⟩
       have hf:Hid (Cal.siteErr s=0):=by show _=_;unfold Cal.siteErr;rw[if_neg h1n,if_neg (by omega),if_neg hr,if_neg (fun h=>hd (by rw[←hcm];exact h.2)),if_neg (fun h=>h.1 k0),if_neg (by omega)]
       have qd:=decide_eq_false hd
       clear hcm k0 hr
       go_enter Tryd.func6,Tryd.ntmps6
       go_wp2_with (first
        |(go_at_call 20;refine (IsName_any s.name _ hnm).mono ?_;rintro e w' ⟨rfl,rfl⟩)
        |((first | (go_at_call 49) | (go_at_call 33) | (go_at_call 32) | (go_at_call 7) | (go_at_call 76) | (go_at_call 47));first | refine rin ?_ | refine rout ?_ | refine rany ?_))
       go_ret
       exact⟨ret_int hf.out.symm,hb0.out⟩
      have q0:(s.kind == 0)=false:=by simp[k0]
      have q1:(s.kind != 0)=true:=by simp[k0]
      by_cases d0:s.depth=0
      ·have e0:(s.depth != 0)=false:=by simp[d0]
       by_cases d1:s.step=0
       ·have e1:(s.step != 0)=false:=by simp[d1]
        by_cases k3:s.kind=3
        ·have q3:(s.kind == 3)=true:=by simp[k3]
         by_cases m1:s.room=1
         ·have e3:(s.room != 1)=false:=by simp[m1]
          have hf:Hid (Cal.siteErr s=0):=by show _=_;unfold Cal.siteErr;rw[if_neg h1n,if_neg (by omega),if_neg hr,if_neg (fun h=>k0 h.1),if_neg (by omega),if_neg (by omega)]
          clear hr k0 d0 d1 k3 m1 hcm p0 p1
          go_enter Tryd.func6,Tryd.ntmps6
          go_wp2_with (first
           |(go_at_call 20;refine (IsName_any s.name _ hnm).mono ?_;rintro e w' ⟨rfl,rfl⟩)
           |((first | (go_at_call 49) | (go_at_call 33) | (go_at_call 32) | (go_at_call 7) | (go_at_call 76) | (go_at_call 47));first | refine rin ?_ | refine rout ?_ | refine rany ?_))
          go_ret
          exact⟨ret_int hf.out.symm,hb0.out⟩
         have e3:(s.room != 1)=true:=by simp[m1]
         have hf:Hid (Cal.siteErr s=3):=by show _=_;unfold Cal.siteErr;rw[if_neg h1n,if_neg (by omega),if_neg hr,if_neg (fun h=>k0 h.1),if_neg (by omega),if_pos (by omega)]
         clear hr k0 d0 d1 k3 m1 hcm p0 p1
         go_enter Tryd.func6,Tryd.ntmps6
         go_wp2_with (first
          |(go_at_call 20;refine (IsName_any s.name _ hnm).mono ?_;rintro e w' ⟨rfl,rfl⟩)
          |((first | (go_at_call 49) | (go_at_call 33) | (go_at_call 32) | (go_at_call 7) | (go_at_call 76) | (go_at_call 47));first | refine rin ?_ | refine rout ?_ | refine rany ?_))
         go_ret
         exact⟨ret_int hf.out.symm,hb0.out⟩
        have q3:(s.kind == 3)=false:=by simp[k3]
        have hf:Hid (Cal.siteErr s=0):=by show _=_;unfold Cal.siteErr;rw[if_neg h1n,if_neg (by omega),if_neg hr,if_neg (fun h=>k0 h.1),if_neg (by omega),if_neg (by omega)]
        clear hr k0 d0 d1 k3 hcm p0 p1
        go_enter Tryd.func6,Tryd.ntmps6
        go_wp2_with (first
         |(go_at_call 20;refine (IsName_any s.name _ hnm).mono ?_;rintro e w' ⟨rfl,rfl⟩)
         |((first | (go_at_call 49) | (go_at_call 33) | (go_at_call 32) | (go_at_call 7) | (go_at_call 76) | (go_at_call 47));first | refine rin ?_ | refine rout ?_ | refine rany ?_))
        go_ret
        exact⟨ret_int hf.out.symm,hb0.out⟩
       have e1:(s.step != 0)=true:=by simp[d1]
       have hf:Hid (Cal.siteErr s=3):=by show _=_;unfold Cal.siteErr;rw[if_neg h1n,if_neg (by omega),if_neg hr,if_neg (fun h=>k0 h.1),if_pos (by omega)]
       clear hr k0 d0 d1 hcm p0 p1
       go_enter Tryd.func6,Tryd.ntmps6
       go_wp2_with (first
        |(go_at_call 20;refine (IsName_any s.name _ hnm).mono ?_;rintro e w' ⟨rfl,rfl⟩)
        |((first | (go_at_call 49) | (go_at_call 33) | (go_at_call 32) | (go_at_call 7) | (go_at_call 76) | (go_at_call 47));first | refine rin ?_ | refine rout ?_ | refine rany ?_))
       go_ret
       exact⟨ret_int hf.out.symm,hb0.out⟩
      have e0:(s.depth != 0)=true:=by simp[d0]
      have hf:Hid (Cal.siteErr s=3):=by show _=_;unfold Cal.siteErr;rw[if_neg h1n,if_neg (by omega),if_neg hr,if_neg (fun h=>k0 h.1),if_pos (by omega)]
      clear hr k0 d0 hcm p0 p1
      go_enter Tryd.func6,Tryd.ntmps6
      go_wp2_with (first
       |(go_at_call 20;refine (IsName_any s.name _ hnm).mono ?_;rintro e w' ⟨rfl,rfl⟩)
       |((first | (go_at_call 49) | (go_at_call 33) | (go_at_call 32) | (go_at_call 7) | (go_at_call 76) | (go_at_call 47));first | refine rin ?_ | refine rout ?_ | refine rany ?_))
      go_ret
      exact⟨ret_int hf.out.symm,hb0.out⟩
     have hf:Hid (Cal.siteErr s=2):=by show _=_;unfold Cal.siteErr;rw[if_neg h1n];rw[if_neg (by omega),if_pos (by omega)]
     go_enter Tryd.func6,Tryd.ntmps6
     go_wp2_with (first
      |(go_at_call 20;refine (IsName_any s.name _ hnm).mono ?_;rintro e w' ⟨rfl,rfl⟩)
      |((first | (go_at_call 49) | (go_at_call 33) | (go_at_call 32) | (go_at_call 7) | (go_at_call 76) | (go_at_call 47));first | refine rin ?_ | refine rout ?_ | refine rany ?_))
     go_ret
     exact⟨ret_int hf.out.symm,hb0.out⟩
    have hf:Hid (Cal.siteErr s=2):=by show _=_;unfold Cal.siteErr;rw[if_neg h1n];rw[if_neg (by omega),if_pos (by omega)]
    go_enter Tryd.func6,Tryd.ntmps6
    go_wp2_with (first
     |(go_at_call 20;refine (IsName_any s.name _ hnm).mono ?_;rintro e w' ⟨rfl,rfl⟩)
     |((first | (go_at_call 49) | (go_at_call 33) | (go_at_call 32) | (go_at_call 7) | (go_at_call 76) | (go_at_call 47));first | refine rin ?_ | refine rout ?_ | refine rany ?_))
    go_ret
    exact⟨ret_int hf.out.symm,hb0.out⟩
   have hf:Hid (Cal.siteErr s=2):=by show _=_;unfold Cal.siteErr;rw[if_neg h1n];rw[if_neg (by omega),if_pos (by omega)]
   go_enter Tryd.func6,Tryd.ntmps6
   go_wp2_with (first
    |(go_at_call 20;refine (IsName_any s.name _ hnm).mono ?_;rintro e w' ⟨rfl,rfl⟩)
    |((first | (go_at_call 49) | (go_at_call 33) | (go_at_call 32) | (go_at_call 7) | (go_at_call 76) | (go_at_call 47));first | refine rin ?_ | refine rout ?_ | refine rany ?_))
   go_ret
   exact⟨ret_int hf.out.symm,hb0.out⟩
  have hf:Hid (Cal.siteErr s=2):=by show _=_;unfold Cal.siteErr;rw[if_neg h1n];rw[if_neg (by omega),if_pos (by omega)]
  go_enter Tryd.func6,Tryd.ntmps6
  go_wp2_with (first
   |(go_at_call 20;refine (IsName_any s.name _ hnm).mono ?_;rintro e w' ⟨rfl,rfl⟩)
   |((first | (go_at_call 49) | (go_at_call 33) | (go_at_call 32) | (go_at_call 7) | (go_at_call 76) | (go_at_call 47));first | refine rin ?_ | refine rout ?_ | refine rany ?_))
  go_ret
  exact⟨ret_int hf.out.symm,hb0.out⟩
 have hf:Hid (Cal.siteErr s=15):=by show _=_;unfold Cal.siteErr;rw[if_neg h1n];rw[if_pos hk]
 go_enter Tryd.func6,Tryd.ntmps6
 go_wp2_with (first
  |(go_at_call 20;refine (IsName_any s.name _ hnm).mono ?_;rintro e w' ⟨rfl,rfl⟩)
  |((first | (go_at_call 49) | (go_at_call 33) | (go_at_call 32) | (go_at_call 7) | (go_at_call 76) | (go_at_call 47));first | refine rin ?_ | refine rout ?_ | refine rany ?_))
 go_ret
 exact⟨ret_int hf.out.symm,hb0.out⟩
end Go.Proofs.YtoojdkaimhlcbaaDoor
