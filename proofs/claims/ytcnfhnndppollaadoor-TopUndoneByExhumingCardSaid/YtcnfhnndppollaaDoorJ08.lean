/- What the statements rest on: definitions and walks, part 08. -/
import Derived.Test.YtcnfhnndppollaaDoorJ07
set_option maxRecDepth 100000
set_option maxHeartbeats 16000000
set_option linter.unusedSimpArgs false
set_option linter.unusedVariables false
namespace Go.Proofs.YtcnfhnndppollaaDoor
open Go Go.RowKit Go.Maps Go.WideMaps
theorem BkW.older {w00 w0 w:World} {Bs B M:Nat} {S R:Option Addr} {c d:Nat} {y:Yd} {v:Value} {bk:Bk} (h:BkW w0 w Bs B M S R c d y v bk) (hb:Below w00.heap.size w00 w0) (hy:YdIn w00 S R y):BkW w00 w Bs B M S R c d y v bk :=
 ⟨h.box,h.own,h.map,⟨Nat.le_trans hb.size h.lo.1,Nat.le_trans hb.size h.lo.2⟩,h.hi,hy,below_step hb h.bel,h.ok⟩
theorem BkOk.nil {y:Yd} (h0:Cal.yardE y=0):BkOk y []:=⟨h0,by simp,fun s hs=>(by cases hs),fun s hs=>(by cases hs),fun s hs=>(by cases hs),fun s hs=>(by cases hs)⟩
def NewP (w:World) (S R:Option Addr) (c d:Nat) (y:Yd) (e:Ending) (w':World):Prop:=∃ Bs B M v,e=.returned (.pointer (some ⟨B,0,none⟩))∧BkW w w' Bs B M S R c d y v Cal.bk0
theorem newBook_any (S R:Option Addr) (c d:Nat) (y:Yd) (w:World) (hY:YdIn w S R y) (h0:Cal.yardE y=0) :
  Calls Tryd.prog 35 #[.agg #[.slice S y.sites.length c,.slice R y.rests.length d,.int .i64 y.c0,.int .i64 y.c1,.int .i64 y.c2]] w (NewP w S R c d y):=by
 have hmm:=@run_makeMap Tryd.prog
 have hM:=MapIs.made Tryd.prog 9 strLit (w.alloc (.cells #[.slice S y.sites.length c,.slice R y.rests.length d,.int .i64 y.c0,.int .i64 y.c1,.int .i64 y.c2] 26))
 have hb1:=below_alloc w (.cells #[.slice S y.sites.length c,.slice R y.rests.length d,.int .i64 y.c0,.int .i64 y.c1,.int .i64 y.c2] 26)
 have hb2:=below_step hb1 (below_alloc (w.alloc (.cells #[.slice S y.sites.length c,.slice R y.rests.length d,.int .i64 y.c0,.int .i64 y.c1,.int .i64 y.c2] 26)) (.map #[] 0))
 have hb3:=below_step hb2 (below_alloc ((w.alloc (.cells #[.slice S y.sites.length c,.slice R y.rests.length d,.int .i64 y.c0,.int .i64 y.c1,.int .i64 y.c2] 26)).alloc (.map #[] 0)) (.cells #[.slice S y.sites.length c,.slice R y.rests.length d,.int .i64 y.c0,.int .i64 y.c1,.int .i64 y.c2,.slice none 0 0,.map (some (w.heap.size+1)),.int .i64 0] 86))
 have hbx:=BoxAt.new ((w.alloc (.cells #[.slice S y.sites.length c,.slice R y.rests.length d,.int .i64 y.c0,.int .i64 y.c1,.int .i64 y.c2] 26)).alloc (.map #[] 0)) #[.slice S y.sites.length c,.slice R y.rests.length d,.int .i64 y.c0,.int .i64 y.c1,.int .i64 y.c2,.slice none 0 0,.map (some (w.heap.size+1)),.int .i64 0] 86
 have hM3:=hM.below (below_alloc ((w.alloc (.cells #[.slice S y.sites.length c,.slice R y.rests.length d,.int .i64 y.c0,.int .i64 y.c1,.int .i64 y.c2] 26)).alloc (.map #[] 0)) (.cells #[.slice S y.sites.length c,.slice R y.rests.length d,.int .i64 y.c0,.int .i64 y.c1,.int .i64 y.c2,.slice none 0 0,.map (some (w.heap.size+1)),.int .i64 0] 86)) (by simp)
 have hz1:(w.alloc (.cells #[.slice S y.sites.length c,.slice R y.rests.length d,.int .i64 y.c0,.int .i64 y.c1,.int .i64 y.c2] 26)).heap.size=w.heap.size+1:=by simp
 have hz2:((w.alloc (.cells #[.slice S y.sites.length c,.slice R y.rests.length d,.int .i64 y.c0,.int .i64 y.c1,.int .i64 y.c2] 26)).alloc (.map #[] 0)).heap.size=w.heap.size+1+1:=by simp
 rw[hz1] at hM3
 rw[hz2] at hbx
 have hz3:(((w.alloc (.cells #[.slice S y.sites.length c,.slice R y.rests.length d,.int .i64 y.c0,.int .i64 y.c1,.int .i64 y.c2] 26)).alloc (.map #[] 0)).alloc (.cells #[.slice S y.sites.length c,.slice R y.rests.length d,.int .i64 y.c0,.int .i64 y.c1,.int .i64 y.c2,.slice none 0 0,.map (some (w.heap.size+1)),.int .i64 0] 86)).heap.size=w.heap.size+1+1+1:=by simp
 have hfin:Hid (BkW w (((w.alloc (.cells #[.slice S y.sites.length c,.slice R y.rests.length d,.int .i64 y.c0,.int .i64 y.c1,.int .i64 y.c2] 26)).alloc (.map #[] 0)).alloc (.cells #[.slice S y.sites.length c,.slice R y.rests.length d,.int .i64 y.c0,.int .i64 y.c1,.int .i64 y.c2,.slice none 0 0,.map (some (w.heap.size+1)),.int .i64 0] 86)) (w.heap.size+1+1+1) (w.heap.size+1+1) (w.heap.size+1) S R c d y (.slice none 0 0) Cal.bk0) :=
  ⟨hbx,OwnL.nil _ _ _ _,hM3,⟨by omega,by omega⟩,⟨by omega,by omega,by rw[hz3];exact Nat.le_refl _,by omega⟩,hY,hb3,BkOk.nil h0⟩
 clear hM hb1 hb2 hb3 hbx hM3 hz1 hz2 hz3
 go_enter Tryd.func35,Tryd.ntmps35
 go_wp2
 go_ret
 exact⟨_,_,_,_,rfl,hfin.out⟩
structure EvIn (w:World) (E:Option Addr) (l:List Ev):Prop where
 rows:RowsAt w E 7 (l.map Ev.cells)
 len:l.length≤1000000
 nm:∀ e∈l,e.remain.size≤maxLen∧e.site.size≤maxLen
theorem EvIn.below {w w':World} {E:Option Addr} {l:List Ev} (h:EvIn w E l) (hb:Below w.heap.size w w'):EvIn w' E l:=⟨h.rows.below hb,h.len,h.nm⟩
theorem ev_at {w:World} {E:Option Addr} {l:List Ev} (h:RowsAt w E 7 (l.map Ev.cells)) {k:Nat} {e:Ev} (hk:l[k]?=some e) :
  ∃ b o,E=some ⟨b,o,none⟩∧b<w.heap.size∧w.cell? ⟨b,o+k*7,none⟩=some (.int .i64 e.day)∧w.cell? ⟨b,o+k*7+1,none⟩=some (.int .i64 e.kind)∧w.cell? ⟨b,o+k*7+2,none⟩=some (.string e.site)∧w.cell? ⟨b,o+k*7+3,none⟩=some (.int .i64 e.level)∧w.cell? ⟨b,o+k*7+4,none⟩=some (.string e.remain)∧w.cell? ⟨b,o+k*7+5,none⟩=some (.int .i64 e.cont)∧w.cell? ⟨b,o+k*7+6,none⟩=some (.bool e.order):=by
 obtain⟨b,o,hA,hb,hc⟩:=h k e.cells (by rw[List.getElem?_map,hk];rfl)
 exact⟨b,o,hA,hb,hc 0 _ rfl,hc 1 _ rfl,hc 2 _ rfl,hc 3 _ rfl,hc 4 _ rfl,hc 5 _ rfl,hc 6 _ rfl⟩
theorem bkReads_drop {y:Yd} {b:Bk} {l:List Ev} {k:Nat} (h:k<l.length):Cal.bkReads y b (l.drop k)=if (Cal.bkAdd y b l[k]).2≠0 then Cal.bkAdd y b l[k] else Cal.bkReads y (Cal.bkAdd y b l[k]).1 (l.drop (k+1)):=by
 rw[List.drop_eq_getElem_cons h];rfl
theorem bkAdd_len (y:Yd) (b:Bk) (e:Ev):(Cal.bkAdd y b e).1.stays.length≤b.stays.length+1:=by
 unfold Cal.bkAdd
 split
 ·exact Nat.le_succ _
 show (Cal.endS b.stays e.remain e.day ++ [_]).length≤_
 rw[List.length_append,endS_len];exact Nat.le_refl _
def RdP (w:World) (S R:Option Addr) (c d:Nat) (y:Yd) (r:Bk × Int) (e:Ending) (w':World):Prop :=
 (r.2≠0∧e=.returned (.tuple #[.pointer none,.int .i64 r.2])∧Below w.heap.size w w')∨(r.2=0∧∃ Bs B M v,e=.returned (.tuple #[.pointer (some ⟨B,0,none⟩),.int .i64 0])∧BkW w w' Bs B M S R c d y v r.1)
theorem read_any (S R:Option Addr) (c d:Nat) (y:Yd) (E:Option Addr) (ec:Nat) (l:List Ev) (w:World) (hY:YdIn w S R y) (hcap:y.sites.length≤c) (hE:EvIn w E l) :
  Calls Tryd.prog 17 #[.agg #[.slice S y.sites.length c,.slice R y.rests.length d,.int .i64 y.c0,.int .i64 y.c1,.int .i64 y.c2],.slice E l.length ec] w (RdP w S R c d y (Cal.bkRead y l)):=by
 have hll:=hE.len
 have hYz:=Lib.hid (fun w' (h:Below w.heap.size w w')=>hY.below h)
 have hYo:=Lib.hid hY
 have hEz:=Lib.hid (fun w' (h:Below w.heap.size w w')=>hE.below h)
 have hb0:=below_alloc w (.cells #[.slice S y.sites.length c,.slice R y.rests.length d,.int .i64 y.c0,.int .i64 y.c1,.int .i64 y.c2] 26)
 have g0:=Lib.hid (BoxAt.new w #[.slice S y.sites.length c,.slice R y.rests.length d,.int .i64 y.c0,.int .i64 y.c1,.int .i64 y.c2] 26)
 have hchk:=Lib.hid (CheckYard_any S R c d y _ (hY.below hb0) hcap)
 have hb0:=Lib.hid hb0
 clear hY hE
 go_enter Tryd.func17,Tryd.ntmps17
 by_cases h0:Cal.yardE y=0
 ·have h0z:=Lib.hid h0
  by_cases hbig:300<l.length
  ·have hf:Hid (Cal.bkRead y l=(Cal.bk0,8)):=by show _=_;unfold Cal.bkRead;rw[if_neg (by rw[h0];simp),if_pos hbig]
   have hbig':300<(l.length:Int):=by omega
   clear h0
   go_wp2_with (go_at_call 34;refine hchk.out.mono ?_;rintro e9 wn ⟨rfl,hbn⟩;rw[h0z.out];have hb1:=Lib.hid (below_step hb0.out hbn);clear hbn)
   go_ret2
   rw[hf.out]
   exact .inl ⟨by decide,rfl,hb1.out⟩
  have hbig':¬300<(l.length:Int):=by omega
  have hR:Hid (Cal.bkRead y l=Cal.bkReads y Cal.bk0 (l.drop 0)):=by show _=_;unfold Cal.bkRead;rw[if_neg (by rw[h0];simp),if_neg hbig];rfl
  clear h0
  go_wp2_with (first
   |(go_at_call 34;refine hchk.out.mono ?_;rintro e9 wn ⟨rfl,hbn⟩;rw[h0z.out];have g1:=Lib.hid (g0.out.below hbn);have hb1:=Lib.hid (below_step hb0.out hbn);clear hbn;obtain⟨y0,y1,y2,y3⟩:=g1.out.c4;have y4:=g1.out.c 4 _ rfl)
   |(go_at_call 35;clear y0 y1 y2 y3 y4;refine (newBook_any S R c d y _ (hYz.out _ hb1.out) h0z.out).mono ?_;rintro e9 wm ⟨Bs,B,M,v,rfl,hbk⟩;have hbk0:=Lib.hid hbk;clear hbk))
  clear g0 g1
  have hst0:Hid (Cal.bk0.stays.length≤0):=Nat.le_refl _
  go_loopw [9,10,23] (fun _ _ i wr=>∃ (k:Nat) (bk:Bk) (v:Value),k≤l.length∧i=.int .i64 k∧Hid (Cal.bkRead y l=Cal.bkReads y bk (l.drop k))∧Hid (BkW wn wr Bs B M S R c d y v bk)∧Hid (bk.stays.length≤k)) (fun _ _ i _=>l.length-(intOf i).toNat)
  case atStart=>exact⟨0,Cal.bk0,v,Nat.zero_le _,rfl,hR,hbk0,hst0⟩
  case round =>
   clear hR hbk0 hst0
   obtain⟨k,bk,v,hk,rfl,hR,hbk,hst⟩:=hrel
   by_cases hlt:k<l.length
   ·have hd:=bkReads_drop (y:=y) (b:=bk) hlt
    have hk':l[k]?=some l[k]:=List.getElem?_eq_getElem hlt
    have hEw:=hEz.out wr (below_step hb1.out hbk.out.bel)
    have hnm:=Lib.hid (hEw.nm _ (List.getElem_mem hlt))
    obtain⟨b,o,rfl,hbl,e0,e1,e2,e3,e4,e5,e6⟩:=ev_at hEw.rows hk'
    clear hk' hEw
    generalize l[k]=e at *
    have hadd:=Lib.hid (vadd_any wn Bs B M S R c d y v bk e _ (hbk.out.below (below_alloc wr (.cells #[.int .i64 e.day,.int .i64 e.kind,.string e.site,.int .i64 e.level,.string e.remain,.int .i64 e.cont,.bool e.order] 29))) hnm.out.1 hnm.out.2 (by have:=hst.out;omega))
    have hln:=Lib.hid (bkAdd_len y bk e)
    rw[←hR.out] at hd
    clear hR
    obtain⟨r,hr⟩:∃ r,r=Cal.bkAdd y bk e:=⟨_,rfl⟩
    rw[←hr] at hd hadd hln
    clear hr
    obtain⟨bk',ec2⟩:=r
    dsimp only at hd
    by_cases hz:ec2=0
    ·subst hz
     rw[if_neg (by simp)] at hd
     have hR2:=Lib.hid hd
     clear hd
     go_wp2_with (go_at_call 18;refine hadd.out.mono ?_;rintro e9 wm2 ⟨rfl,v2,hbk2⟩;have hbk2:=Lib.hid hbk2)
     go_roundw
     case rel=>exact⟨k+1,bk',v2,by omega,by go_num,hR2,hbk2,by show bk'.stays.length≤k+1;have h1:bk'.stays.length≤bk.stays.length+1:=hln.out;have:=hst.out;omega⟩
     case measure=>simp[intOf];omega
    rw[if_pos hz] at hd
    have hf:=Lib.hid hd
    have hzq:(ec2 != 0)=true:=by simp[hz]
    have hz:=Lib.hid hz
    clear hd
    go_wp2_with (go_at_call 18;refine hadd.out.mono ?_;rintro e9 wm2 ⟨rfl,v2,hbk2⟩;have hbk2:=Lib.hid hbk2)
    go_ret2
    rw[hf.out]
    exact .inl ⟨hz.out,rfl,below_step hb1.out hbk2.out.bel⟩
   obtain rfl:k=l.length:=by omega
   have hf:Hid (Cal.bkRead y l=(bk,0)):=by show _=_;rw[hR.out,List.drop_length];rfl
   clear hR
   go_wp2
   go_ret2
   rw[hf.out]
   exact .inr ⟨rfl,Bs,B,M,v,rfl,hbk.out.older hb1.out hYo.out⟩
 have hf:Hid (Cal.bkRead y l=(Cal.bk0,Cal.yardE y)):=by show _=_;unfold Cal.bkRead;rw[if_pos h0]
 have h1:(Cal.yardE y != 0)=true:=by simp[h0]
 have h0z:=Lib.hid h0
 clear h0
 go_wp2_with (go_at_call 34;refine hchk.out.mono ?_;rintro e9 wn ⟨rfl,hbn⟩;have hb1:=Lib.hid (below_step hb0.out hbn);clear hbn)
 go_ret2
 rw[hf.out]
 exact .inl ⟨h0z.out,rfl,hb1.out⟩
end Go.Proofs.YtcnfhnndppollaaDoor
namespace Go.Proofs.YtcnfhnndppollaaDoor
open Go Go.RowKit Go.ChangeShapes Go.WideShapes Go.Deep
section
variable {H : Type} {enc : TypeId × Value → H} {w : World} {spare : Nat → Bool} {held : Bool} {r : Reach} {b0 : Nat} {v : Value} {d : DataW H} {ps : List MemPlace}
theorem sites_of_trod {fuel:Nat} {x:DataW H × List MemPlace} (hf:DataW.trod enc Tryd.prog w 0 spare held fuel 22 [v]=some x) :
  ∃ (A:Option Addr) (l:List Site) (c:Nat),v=.slice A l.length c∧RowsAt w A 6 (l.map Site.cells)∧l.length≤c∧∀ s∈l,s.name.size≤maxLen:=by
 obtain⟨A,len,cap,hcs,hlen,hq⟩:=rows_of_open Tryd.underlying22 Tryd.underlying53 (by kernel_rfl) (by kernel_rfl) (by decide) hf
 have he:v=.slice A len cap:=by simpa using hcs
 subst he
 have hcap:len≤cap:=by
  rcases open_slice Tryd.underlying22 hf with ⟨h0,_⟩ | ⟨a,len',cap',m,n,D,Pl,hc,_,hl,_⟩
  ·have:=List.singleton_inj.1 h0
   simp only[Value.slice.injEq] at this
   omega
  have:=List.singleton_inj.1 hc
  simp only[Value.slice.injEq] at this
  omega
 have h1:∀ i,i<len→∃ p:Site,p.name.size≤maxLen∧∃ b o,A=some ⟨b,o,none⟩∧b<w.heap.size∧∀ j v,p.cells[j]?=some v→w.cell? ⟨b,o+(i*6+j),none⟩=some v:=fun i hi=>by
  obtain⟨b,o,n,hA,hb,hf⟩:=hq i hi
  obtain⟨v0,y0,c0,t0⟩:=hf 0 _ rfl
  obtain⟨v1,y1,c1,t1⟩:=hf 1 _ rfl
  obtain⟨v2,y2,c2,t2⟩:=hf 2 _ rfl
  obtain⟨v3,y3,c3,t3⟩:=hf 3 _ rfl
  obtain⟨v4,y4,c4,t4⟩:=hf 4 _ rfl
  obtain⟨v5,y5,c5,t5⟩:=hf 5 _ rfl
  obtain⟨s0,e0,_,g0⟩:=DataW.trod_string Tryd.underlying9 t0
  obtain⟨s1,e1,_,_⟩:=DataW.trod_int Tryd.underlying3 t1
  obtain⟨s2,e2,_,_⟩:=DataW.trod_int Tryd.underlying3 t2
  obtain⟨s3,e3,_,_⟩:=DataW.trod_int Tryd.underlying3 t3
  obtain⟨s4,e4,_,_⟩:=DataW.trod_int Tryd.underlying3 t4
  obtain⟨s5,e5,_,_⟩:=DataW.trod_int Tryd.underlying3 t5
  cases e0;cases e1;cases e2;cases e3;cases e4;cases e5
  refine⟨⟨s0,s1,s2,s3,s4,s5⟩,g0,b,o,hA,hb,fun j v hv=>?_⟩
  match j,hv with
  | 0,hv=>cases hv;exact c0
  | 1,hv=>cases hv;exact c1
  | 2,hv=>cases hv;exact c2
  | 3,hv=>cases hv;exact c3
  | 4,hv=>cases hv;exact c4
  | 5,hv=>cases hv;exact c5
  | j+6,hv=>simp[Site.cells] at hv
 obtain⟨l,hl,hq'⟩:=list_of len h1
 subst hl
 refine⟨A,l,cap,rfl,fun k r hr=>?_,hcap,fun p hp=>?_⟩
 ·rw[List.getElem?_map] at hr
  cases hk:l[k]? with
  | none=>rw[hk] at hr;cases hr
  | some p=>rw[hk] at hr;cases hr;exact (hq' k p hk).2
 obtain⟨k,hk,rfl⟩:=List.getElem_of_mem hp
 exact (hq' k _ (List.getElem?_eq_getElem hk)).1
theorem rests_of_trod {fuel:Nat} {x:DataW H × List MemPlace} (hf:DataW.trod enc Tryd.prog w 0 spare held fuel 23 [v]=some x) :
  ∃ (A:Option Addr) (l:List Rst) (c:Nat),v=.slice A l.length c∧RowsAt w A 3 (l.map Rst.cells):=by
 obtain⟨A,len,cap,hcs,hlen,hq⟩:=rows_of_open Tryd.underlying23 Tryd.underlying73 (by kernel_rfl) (by kernel_rfl) (by decide) hf
 have he:v=.slice A len cap:=by simpa using hcs
 subst he
 have h1:∀ i,i<len→∃ p:Rst,∃ b o,A=some ⟨b,o,none⟩∧b<w.heap.size∧∀ j v,p.cells[j]?=some v→w.cell? ⟨b,o+(i*3+j),none⟩=some v:=fun i hi=>by
  obtain⟨b,o,n,hA,hb,hf⟩:=hq i hi
  obtain⟨v0,y0,c0,t0⟩:=hf 0 _ rfl
  obtain⟨v1,y1,c1,t1⟩:=hf 1 _ rfl
  obtain⟨v2,y2,c2,t2⟩:=hf 2 _ rfl
  obtain⟨s0,e0,_,_⟩:=DataW.trod_int Tryd.underlying3 t0
  obtain⟨s1,e1,_,_⟩:=DataW.trod_int Tryd.underlying3 t1
  obtain⟨s2,e2,_,_⟩:=DataW.trod_int Tryd.underlying3 t2
  cases e0;cases e1;cases e2
  refine⟨⟨s0,s1,s2⟩,b,o,hA,hb,fun j v hv=>?_⟩
  match j,hv with
  | 0,hv=>cases hv;exact c0
  | 1,hv=>cases hv;exact c1
  | 2,hv=>cases hv;exact c2
  | j+3,hv=>simp[Rst.cells] at hv
 obtain⟨l,hl,hq'⟩:=list_of len h1
 subst hl
 refine⟨A,l,cap,rfl,fun k r hr=>?_⟩
 rw[List.getElem?_map] at hr
 cases hk:l[k]? with
 | none=>rw[hk] at hr;cases hr
 | some p=>rw[hk] at hr;cases hr;exact hq' k p hk
theorem covers_of_trod {fuel:Nat} {x:DataW H × List MemPlace} {a b c:Value} (hf:DataW.trod enc Tryd.prog w 0 spare held fuel 24 [a,b,c]=some x):∃ x y z:Int,a=.int .i64 x∧b=.int .i64 y∧c=.int .i64 z:=by
 have hu:=Tryd.underlying24
 obtain⟨xs,m,_,_,hlen,hxl,hi⟩:=DataW.trod_array hu hf
 have h0:=hi 0 (by decide)
 have h1:=hi 1 (by decide)
 have h2:=hi 2 (by decide)
 rw[show Tryd.prog.cellsOf 3=1 by kernel_rfl] at h0 h1 h2
 match xs,hxl with
 | [y0,y1,y2],_ =>
  simp at h0 h1 h2
  obtain⟨s0,e0,_,_⟩:=DataW.trod_int Tryd.underlying3 h0
  obtain⟨s1,e1,_,_⟩:=DataW.trod_int Tryd.underlying3 h1
  obtain⟨s2,e2,_,_⟩:=DataW.trod_int Tryd.underlying3 h2
  cases e0;cases e1;cases e2
  exact⟨s0,s1,s2,rfl,rfl,rfl⟩
theorem yard_of_open (hval:Value.okWide Tryd.prog w r b0 26 v) (h:DataW.Trod enc Tryd.prog w 0 spare held 26 v d ps) :
  ∃ (S R:Option Addr) (c d:Nat) (y:Yd),v=.agg #[.slice S y.sites.length c,.slice R y.rests.length d,.int .i64 y.c0,.int .i64 y.c1,.int .i64 y.c2]∧(RowsAt w S 6 (y.sites.map Site.cells)∧RowsAt w R 3 (y.rests.map Rst.cells)∧∀ s∈y.sites,s.name.size≤maxLen)∧y.sites.length≤c:=by
 have hu:=Tryd.underlying26
 unfold Value.okWide at hval
 rw[hu] at hval
 obtain⟨cs,rfl,hcs,_⟩:=hval
 obtain⟨fuel,hf⟩:=h
 obtain⟨xs,n,_,_,_,hxl,hi⟩:=DataW.trod_struct hu hf
 have h0:DataW.trod enc Tryd.prog w 0 spare held n 22 (((Value.agg cs).cells.toList.drop 0).take (Tryd.prog.cellsOf 22))=xs[0]?:=hi 0 _ rfl
 have h1:DataW.trod enc Tryd.prog w 0 spare held n 23 (((Value.agg cs).cells.toList.drop 1).take (Tryd.prog.cellsOf 23))=xs[1]?:=hi 1 _ rfl
 have h2:DataW.trod enc Tryd.prog w 0 spare held n 24 (((Value.agg cs).cells.toList.drop 2).take (Tryd.prog.cellsOf 24))=xs[2]?:=hi 2 _ rfl
 rw[show Tryd.prog.cellsOf 26=5 by kernel_rfl] at hcs
 rw[show Tryd.prog.cellsOf 22=1 by kernel_rfl] at h0
 rw[show Tryd.prog.cellsOf 23=1 by kernel_rfl] at h1
 rw[show Tryd.prog.cellsOf 24=3 by kernel_rfl] at h2
 obtain⟨l⟩:=cs
 match l,hcs with
 | [a0,a1,a2,a3,a4],_ =>
  match xs,hxl with
  | [y0,y1,y2],_ =>
   simp[Value.cells] at h0 h1 h2
   obtain⟨S,l1,c1,e0,hs,hk,hn⟩:=sites_of_trod h0
   obtain⟨R,l2,c2,e1,hr⟩:=rests_of_trod h1
   obtain⟨x,y,z,e2,e3,e4⟩:=covers_of_trod h2
   subst e0 e1 e2 e3 e4
   exact⟨S,R,c1,c2,⟨l1,l2,x,y,z⟩,rfl,⟨hs,hr,hn⟩,hk⟩
theorem ev_of_open (hval:Value.okWide Tryd.prog w r b0 29 v) (h:DataW.Trod enc Tryd.prog w 0 spare held 29 v d ps) :
  ∃ e:Ev,v=.agg #[.int .i64 e.day,.int .i64 e.kind,.string e.site,.int .i64 e.level,.string e.remain,.int .i64 e.cont,.bool e.order]∧e.remain.size≤maxLen∧e.site.size≤maxLen:=by
 have hu:=Tryd.underlying29
 unfold Value.okWide at hval
 rw[hu] at hval
 obtain⟨cs,rfl,hcs,_⟩:=hval
 obtain⟨fuel,hf⟩:=h
 obtain⟨m,xs,hlen,hxl,hi⟩:=trod_cells hu (by kernel_rfl) hf
 have h0:=hi 0 _ rfl
 have h1:=hi 1 _ rfl
 have h2:=hi 2 _ rfl
 have h3:=hi 3 _ rfl
 have h4:=hi 4 _ rfl
 have h5:=hi 5 _ rfl
 have h6:=hi 6 _ rfl
 rw[show Tryd.prog.cellsOf 29=7 by kernel_rfl] at hcs
 obtain⟨l⟩:=cs
 match l,hcs with
 | [a,b,c,e,f,g,k],_ =>
  match xs,hxl with
  | [y0,y1,y2,y3,y4,y5,y6],_ =>
   simp[Value.cells] at h0 h1 h2 h3 h4 h5 h6
   obtain⟨s0,e0,_,_⟩:=DataW.trod_int Tryd.underlying3 h0
   obtain⟨s1,e1,_,_⟩:=DataW.trod_int Tryd.underlying3 h1
   obtain⟨s2,e2,_,g2⟩:=DataW.trod_string Tryd.underlying9 h2
   obtain⟨s3,e3,_,_⟩:=DataW.trod_int Tryd.underlying3 h3
   obtain⟨s4,e4,_,g4⟩:=DataW.trod_string Tryd.underlying9 h4
   obtain⟨s5,e5,_,_⟩:=DataW.trod_int Tryd.underlying3 h5
   obtain⟨s6,e6,_⟩:=DataW.trod_bool Tryd.underlying4 h6
   cases e0;cases e1;cases e2;cases e3;cases e4;cases e5;cases e6
   exact⟨⟨s0,s1,s2,s3,s4,s5,s6⟩,rfl,g4,g2⟩
theorem evs_of_open (hval:Value.okWide Tryd.prog w r b0 27 v) (h:DataW.Trod enc Tryd.prog w 0 spare held 27 v d ps) :
  ∃ (E:Option Addr) (l:List Ev) (c:Nat),v=.slice E l.length c∧RowsAt w E 7 (l.map Ev.cells)∧∀ e∈l,e.remain.size≤maxLen∧e.site.size≤maxLen:=by
 obtain⟨A,len,cap,rfl⟩:=okWide_slice Tryd.underlying27 hval
 obtain⟨fuel,hf⟩:=h
 obtain⟨A',len',cap',hcs,hlen,hq⟩:=rows_of_open Tryd.underlying27 Tryd.underlying29 (by kernel_rfl) (by kernel_rfl) (by decide) hf
 have he:A=A'∧len=len'∧cap=cap':=by simpa [Value.cells] using hcs
 obtain⟨rfl,rfl,rfl⟩:=he
 have h1:∀ i,i<len→∃ e:Ev,(e.remain.size≤maxLen∧e.site.size≤maxLen)∧∃ b o,A=some ⟨b,o,none⟩∧b<w.heap.size∧∀ j v,e.cells[j]?=some v→w.cell? ⟨b,o+(i*7+j),none⟩=some v:=fun i hi=>by
  obtain⟨b,o,n,hA,hb,hf⟩:=hq i hi
  obtain⟨v0,y0,c0,t0⟩:=hf 0 _ rfl
  obtain⟨v1,y1,c1,t1⟩:=hf 1 _ rfl
  obtain⟨v2,y2,c2,t2⟩:=hf 2 _ rfl
  obtain⟨v3,y3,c3,t3⟩:=hf 3 _ rfl
  obtain⟨v4,y4,c4,t4⟩:=hf 4 _ rfl
  obtain⟨v5,y5,c5,t5⟩:=hf 5 _ rfl
  obtain⟨v6,y6,c6,t6⟩:=hf 6 _ rfl
  obtain⟨s0,e0,_,_⟩:=DataW.trod_int Tryd.underlying3 t0
  obtain⟨s1,e1,_,_⟩:=DataW.trod_int Tryd.underlying3 t1
  obtain⟨s2,e2,_,g2⟩:=DataW.trod_string Tryd.underlying9 t2
  obtain⟨s3,e3,_,_⟩:=DataW.trod_int Tryd.underlying3 t3
  obtain⟨s4,e4,_,g4⟩:=DataW.trod_string Tryd.underlying9 t4
  obtain⟨s5,e5,_,_⟩:=DataW.trod_int Tryd.underlying3 t5
  obtain⟨s6,e6,_⟩:=DataW.trod_bool Tryd.underlying4 t6
  cases e0;cases e1;cases e2;cases e3;cases e4;cases e5;cases e6
  refine⟨⟨s0,s1,s2,s3,s4,s5,s6⟩,⟨g4,g2⟩,b,o,hA,hb,fun j v hv=>?_⟩
  match j,hv with
  | 0,hv=>cases hv;exact c0
  | 1,hv=>cases hv;exact c1
  | 2,hv=>cases hv;exact c2
  | 3,hv=>cases hv;exact c3
  | 4,hv=>cases hv;exact c4
  | 5,hv=>cases hv;exact c5
  | 6,hv=>cases hv;exact c6
  | j+7,hv=>simp[Ev.cells] at hv
 obtain⟨l,hl,hq'⟩:=list_of len h1
 subst hl
 refine⟨A,l,cap,rfl,fun k r hr=>?_,fun e he=>?_⟩
 ·rw[List.getElem?_map] at hr
  cases hk:l[k]? with
  | none=>rw[hk] at hr;cases hr
  | some p=>rw[hk] at hr;cases hr;exact (hq' k p hk).2
 obtain⟨k,hk,rfl⟩:=List.getElem_of_mem he
 exact (hq' k _ (List.getElem?_eq_getElem hk)).1
end
end Go.Proofs.YtcnfhnndppollaaDoor
namespace Go.Proofs.YtcnfhnndppollaaDoor
open Go Go.RowKit Go.Maps Go.WideMaps
theorem elemEv:Elem Tryd.prog 27 29 7 72:=Elem.mk' Tryd.underlying27 (z:=.agg #[.int .i64 0,.int .i64 0,.string ⟨#[]⟩,.int .i64 0,.string ⟨#[]⟩,.int .i64 0,.bool false]) (by kernel_rfl) rfl (by decide)
theorem ev_wid (l:List Ev):∀ r∈l.map Ev.cells,r.length=7:=fun r hr=>by obtain⟨s,_,rfl⟩:=List.mem_map.1 hr;rfl
theorem ev_one (l:List Ev):∀ r∈l.map Ev.cells,∀ u∈r,u.oneCell'=true:=fun r hr u hu=>by
 obtain⟨s,_,rfl⟩:=List.mem_map.1 hr
 simp only[Ev.cells,List.mem_cons,List.not_mem_nil,or_false] at hu
 rcases hu with rfl | rfl | rfl | rfl | rfl | rfl | rfl <;> rfl
def ClP (w:World) (l:List Ev) (e:Ending) (w':World):Prop:=∃ v,e=.returned v∧OwnL w' w.heap.size 29 7 v (l.map Ev.cells)∧Below w.heap.size w w'
theorem CloneEv_any (E:Option Addr) (ec:Nat) (l:List Ev) (w:World) (hr:RowsAt w E 7 (l.map Ev.cells)) (hl:l.length≤1000000) :
  Calls Tryd.prog 19 #[.slice E l.length ec] w (ClP w l):=by
 cases E with
 | none =>
  have h0:l=[]:=by
   cases l with
   | nil=>rfl
   | cons q r=>obtain⟨b,o,hA,_⟩:=hr 0 q.cells rfl;cases hA
  subst h0
  have hnil:=fun w=>Lib.run_eql_slice_nil (P:=Tryd.prog) w 27 29 none 0 ec 0 0 Tryd.underlying27
  go_enter Tryd.func19,Tryd.ntmps19
  go_wp2
  go_ret
  exact⟨_,rfl,OwnL.nil _ _ _ _,Below.refl _ _⟩
 | some a =>
  have hnil:=fun w=>Lib.run_eql_slice_nil (P:=Tryd.prog) w 27 29 (some a) l.length ec 0 0 Tryd.underlying27
  have hl':=Lib.hid (hr.below (below_alloc w (.cells #[] 29)))
  have hw:=Lib.hid (ev_wid l)
  have h1:=Lib.hid (ev_one l)
  clear hr
  go_enter Tryd.func19,Tryd.ntmps19
  go_wp2_with (at_builtin;refine wpList_append_rows elemEv rfl _ _ rfl rfl rfl (OwnL.made w w.heap.size _ 7 (Nat.le_refl _)) hl'.out (List.length_map ..).symm hw.out h1.out (by simp;omega) (by decide) (by simp) ?_;intro v' w1 hown hg _)
  go_ret
  exact⟨_,rfl,by simpa using hown,(below_alloc _ _).trans (grown_below hg (fun g e=>by cases e;exact Nat.le_refl _) (by simp))⟩
theorem bkReads_len {y:Yd}:∀ {l:List Ev} {b:Bk},(Cal.bkReads y b l).1.stays.length≤b.stays.length+l.length
 | [],b=>Nat.le_refl _
 | e :: r,b=>by
  unfold Cal.bkReads
  have h1:=bkAdd_len y b e
  split
  ·simp only[List.length_cons];omega
  have:=bkReads_len (y:=y) (l:=r) (b:=(Cal.bkAdd y b e).1)
  simp only[List.length_cons];omega
theorem bkRead_len {y:Yd} {l:List Ev} (_:(Cal.bkRead y l).2=0):(Cal.bkRead y l).1.stays.length≤300:=by
 unfold Cal.bkRead
 split
 ·exact Nat.zero_le _
 split
 ·exact Nat.zero_le _
 have:=bkReads_len (y:=y) (l:=l) (b:=Cal.bk0)
 have h0:Cal.bk0.stays.length=0:=rfl
 omega
theorem RdP.ok {w w':World} {S R:Option Addr} {c d:Nat} {y:Yd} {r:Bk × Int} {e:Ending} (h:RdP w S R c d y r e w') (hz:r.2=0):∃ Bs B M v,e=.returned (.tuple #[.pointer (some ⟨B,0,none⟩),.int .i64 0])∧BkW w w' Bs B M S R c d y v r.1:=by
 rcases h with ⟨h,_⟩ | ⟨_,h⟩
 ·exact absurd hz h
 exact h
theorem RdP.bad {w w':World} {S R:Option Addr} {c d:Nat} {y:Yd} {r:Bk × Int} {e:Ending} (h:RdP w S R c d y r e w') (hz:r.2≠0):e=.returned (.tuple #[.pointer none,.int .i64 r.2])∧Below w.heap.size w w':=by
 rcases h with ⟨_,h⟩ | ⟨h,_⟩
 ·exact h
 exact absurd h hz
def AdEP (w:World) (r:List Ev × Int) (e:Ending) (w':World):Prop:=∃ v,e=.returned (.tuple #[v,.int .i64 r.2])∧OwnL w' w.heap.size 29 7 v (r.1.map Ev.cells)∧Below w.heap.size w w'
theorem AdEP.bad {w w':World} {E:Int} {r:List Ev × Int} (h:r=([],E)) (hb:Below w.heap.size w w'):AdEP w r (.returned (.tuple #[.slice none 0 0,.int .i64 E])) w':=by
 subst h
 exact⟨_,rfl,OwnL.nil _ _ _ _,hb⟩
theorem ErI.xbox (w:World) (S R:Option Addr) (c d:Nat) (y:Yd) (x:Ev):BoxAt ((w.alloc (.cells #[.slice S y.sites.length c,.slice R y.rests.length d,.int .i64 y.c0,.int .i64 y.c1,.int .i64 y.c2] 26)).alloc (.cells #[.int .i64 x.day,.int .i64 x.kind,.string x.site,.int .i64 x.level,.string x.remain,.int .i64 x.cont,.bool x.order] 29)) w.heap.size [.slice S y.sites.length c,.slice R y.rests.length d,.int .i64 y.c0,.int .i64 y.c1,.int .i64 y.c2]∧BoxAt ((w.alloc (.cells #[.slice S y.sites.length c,.slice R y.rests.length d,.int .i64 y.c0,.int .i64 y.c1,.int .i64 y.c2] 26)).alloc (.cells #[.int .i64 x.day,.int .i64 x.kind,.string x.site,.int .i64 x.level,.string x.remain,.int .i64 x.cont,.bool x.order] 29)) (w.heap.size+1) [.int .i64 x.day,.int .i64 x.kind,.string x.site,.int .i64 x.level,.string x.remain,.int .i64 x.cont,.bool x.order]∧Below w.heap.size w ((w.alloc (.cells #[.slice S y.sites.length c,.slice R y.rests.length d,.int .i64 y.c0,.int .i64 y.c1,.int .i64 y.c2] 26)).alloc (.cells #[.int .i64 x.day,.int .i64 x.kind,.string x.site,.int .i64 x.level,.string x.remain,.int .i64 x.cont,.bool x.order] 29)):=by
 have h:=BoxAt.new (w.alloc (.cells #[.slice S y.sites.length c,.slice R y.rests.length d,.int .i64 y.c0,.int .i64 y.c1,.int .i64 y.c2] 26)) #[.int .i64 x.day,.int .i64 x.kind,.string x.site,.int .i64 x.level,.string x.remain,.int .i64 x.cont,.bool x.order] 29
 rw[World.size_alloc] at h
 exact⟨(BoxAt.new w #[.slice S y.sites.length c,.slice R y.rests.length d,.int .i64 y.c0,.int .i64 y.c1,.int .i64 y.c2] 26).alloc _,h,below_step (below_alloc _ _) (below_alloc _ _)⟩
theorem AddE_any (S R:Option Addr) (c d:Nat) (y:Yd) (E:Option Addr) (ec:Nat) (l:List Ev) (x:Ev) (w:World) (hY:YdIn w S R y) (hcap:y.sites.length≤c) (hE:EvIn w E l) (hn1:x.remain.size≤maxLen) (hn2:x.site.size≤maxLen) :
  Calls Tryd.prog 8 #[.agg #[.slice S y.sites.length c,.slice R y.rests.length d,.int .i64 y.c0,.int .i64 y.c1,.int .i64 y.c2],.slice E l.length ec,.agg #[.int .i64 x.day,.int .i64 x.kind,.string x.site,.int .i64 x.level,.string x.remain,.int .i64 x.cont,.bool x.order]] w (AdEP w (Cal.grvAdd y l x)):=by
 have hll:=hE.len
 obtain⟨hy,hx,hb0⟩:=ErI.xbox w S R c d y x
 have hread:=Lib.hid (read_any S R c d y E ec l _ (hY.below hb0) hcap (hE.below hb0))
 have hEz:=Lib.hid (fun w' (h:Below w.heap.size w w')=>hE.below h)
 have hYz:=Lib.hid hY
 have hy:=Lib.hid hy
 have hx:=Lib.hid hx
 have hx0:=hx
 have hb0:=Lib.hid hb0
 clear hY hE
 have hG:Hid (Cal.grvAdd y l x=if (Cal.bkRead y l).2≠0 then ([],(Cal.bkRead y l).2) else if 300≤l.length then ([],8) else if (Cal.bkAdd y (Cal.bkRead y l).1 x).2≠0 then ([],(Cal.bkAdd y (Cal.bkRead y l).1 x).2) else (l ++ [x],0)):=rfl
 have hlen:=Lib.hid (fun (h:(Cal.bkRead y l).2=0)=>bkRead_len h)
 obtain⟨r,hr⟩:∃ r,r=Cal.bkRead y l:=⟨_,rfl⟩
 rw[←hr] at hG hread hlen
 clear hr
 obtain⟨bk,rc⟩:=r
 obtain⟨G,hGe⟩:∃ G,G=Cal.grvAdd y l x:=⟨_,rfl⟩
 rw[←hGe] at hG ⊢
 clear hGe
 (obtain⟨y0,y1,y2,y3⟩:=hy.out.c4;have y4:=hy.out.c 4 _ rfl)
 by_cases hz:rc=0
 ·subst hz
  rw[if_neg (by simp)] at hG
  by_cases h300:300≤l.length
  ·rw[if_pos h300] at hG
   have h3q:decide (300≤(l.length:Int))=true:=decide_eq_true (by omega)
   clear h300
   go_enter Tryd.func8,Tryd.ntmps8
   go_wp2_with (go_at_call 17;clear y0 y1 y2 y3 y4;refine hread.out.mono ?_;intro e9 wn hrd;obtain⟨Bs,B,M,v,rfl,hbk⟩:=hrd.ok rfl;have hbk:=Lib.hid hbk;clear hrd)
   go_ret2
   exact AdEP.bad hG.out (below_step hb0.out hbk.out.bel)
  rw[if_neg h300] at hG
  have h3q:decide (300≤(l.length:Int))=false:=decide_eq_false (by omega)
  have hl3:=hlen.out rfl
  dsimp only at hl3 hG
  have hbl:=Lib.hid hl3
  clear hlen hl3
  have hadd:=Lib.hid (fun Bs B M v wn (h:BkW ((w.alloc (.cells #[.slice S y.sites.length c,.slice R y.rests.length d,.int .i64 y.c0,.int .i64 y.c1,.int .i64 y.c2] 26)).alloc (.cells #[.int .i64 x.day,.int .i64 x.kind,.string x.site,.int .i64 x.level,.string x.remain,.int .i64 x.cont,.bool x.order] 29)) wn Bs B M S R c d y v bk)=>vadd_any _ Bs B M S R c d y v bk x wn h hn1 hn2 (by have:=hbl.out;omega))
  obtain⟨r,hr⟩:∃ r,r=Cal.bkAdd y bk x:=⟨_,rfl⟩
  rw[←hr] at hG hadd
  clear hr
  obtain⟨bk2,rc2⟩:=r
  dsimp only at hG
  by_cases hz2:rc2=0
  ·subst hz2
   rw[if_neg (by simp)] at hG
   go_enter Tryd.func8,Tryd.ntmps8
   go_upto_region 9 with (first
    |(go_at_call 17;clear y0 y1 y2 y3 y4;refine hread.out.mono ?_;intro e9 wn hrd;obtain⟨Bs,B,M,v,rfl,hbk⟩:=hrd.ok rfl;have hbk:=Lib.hid hbk;clear hrd;replace hx:=Lib.hid (hx.out.below hbk.out.bel);(obtain⟨x0,x1,x2,x3⟩:=hx.out.c4;have x4:=hx.out.c 4 _ rfl;have x5:=hx.out.c 5 _ rfl;have x6:=hx.out.c 6 _ rfl))
    |(go_at_call 18;clear x0 x1 x2 x3 x4 x5 x6;refine (hadd.out Bs B M v wn hbk.out).mono ?_;rintro e9 wm ⟨rfl,v2,hbk2⟩;have hbk2:=Lib.hid hbk2))
   have hxm:=Lib.hid (hx0.out.below hbk2.out.bel)
   have hbw:=Lib.hid (below_step hb0.out hbk2.out.bel)
   replace hxm:=Lib.hid (hxm.out.below ((Below.refl wm.heap.size wm).drew))
   replace hbw:=Lib.hid (hbw.out.trans (Below.refl _ _).drew)
   obtain⟨X,hX⟩:∃ X,wm.drew=X:=⟨_,rfl⟩
   rw[hX] at hxm hbw
   have hxlt:Hid (w.heap.size+1<X.heap.size):=hxm.out.lt
   refine wp_region_held_drew (S:=Sx w [(w.heap.size+1,0,.int .i64 x.day),(w.heap.size+1,1,.int .i64 x.kind),(w.heap.size+1,2,.string x.site),(w.heap.size+1,3,.int .i64 x.level),(w.heap.size+1,4,.string x.remain),(w.heap.size+1,5,.int .i64 x.cont),(w.heap.size+1,6,.bool x.order)]) (by kernel_rfl) (by rw[hX];exact (Sx.mk (by simp only[cs_iff_cons];exact⟨hxm.out.c 0 _ rfl,hxm.out.c 1 _ rfl,hxm.out.c 2 _ rfl,hxm.out.c 3 _ rfl,hxm.out.c 4 _ rfl,hxm.out.c 5 _ rfl,hxm.out.c 6 _ rfl,cs_nil _⟩) hbw.out)) (fun hHeld=>?_)
   rw[hX] at hHeld ⊢
   clear hX hbk2 hbk hread hadd hx hxm
   have hEr:=Lib.hid (fun w' (h:Below w.heap.size w w')=>(hEz.out w' h).rows)
   refine tkHx 0 31 ?_
   refine tkHx 2 33 ?_
   refine wpAnyH_ready (rs:=[1,3]) (by decide +kernel) (by simp) ?_
   refine AllReadyH.cons rfl (fun K hK=>?_) (AllReadyH.cons rfl (fun K hK=>?_) AllReadyH.nil)
   ·rw[if_pos (by kernel_rfl)]
    go_simp
    refine (CloneEv_any E ec l _ (hEr.out _ hHeld.bel) hll).mono ?_
    rintro e9 w4 ⟨vc,rfl,hown,hb4⟩
    go_simp
    (refine hK.out _ _ (hHeld.step hb4) (fun hHeld=>?_);clear hK K;(try simp only[apS,apN,siA,scZ,scS]))
    (refine ratHx 3 (fun K hK=>?_);go_simp)
    have hba:=below_alloc w4 (.cells #[.int .i64 x.day,.int .i64 x.kind,.string x.site,.int .i64 x.level,.string x.remain,.int .i64 x.cont,.bool x.order] 29)
    refine hK.out _ _ (hHeld.step hba) (fun hHeld=>?_)
    clear hK K
    (try simp only[apS,apN,siA,scZ,scS])
    have hown4:=hown.below hba
    have hsrc:=rowsAt_new w4 [.int .i64 x.day,.int .i64 x.kind,.string x.site,.int .i64 x.level,.string x.remain,.int .i64 x.cont,.bool x.order] 29
    have hbase:X.heap.size≤(w4.alloc (.cells #[.int .i64 x.day,.int .i64 x.kind,.string x.site,.int .i64 x.level,.string x.remain,.int .i64 x.cont,.bool x.order] 29)).heap.size:=Nat.le_trans hb4.size hba.size
    clear hown hb4 hba
    refine wpAnyH_ready (rs:=[4]) (by decide +kernel) (by simp) ?_
    refine AllReadyH.cons rfl (fun K hK=>?_) AllReadyH.nil
    refine step_append_rows elemEv (by rfl) (.tmp 32) (.tmp 34) (by rfl) (by rfl) (by rfl) hown4 hsrc rfl (ev_wid [x]) (ev_one [x]) (by rw[List.length_map];simp;omega) (by decide) hbase ?_
    intro v' w5 hown5 hg5 hob5
    have hown5:OwnL w5 X.heap.size 29 7 v' ((l ++ [x]).map Ev.cells):=by rw[List.map_append];exact hown5
    have hwX:=hbw.out.size
    have hrow:∀ k9,Value.ownBlock vc=some k9→X.heap.size≤k9:=fun k9 e1=>(hown4.lt k9 e1).1
    have hS5:Sx w [(w.heap.size+1,0,.int .i64 x.day),(w.heap.size+1,1,.int .i64 x.kind),(w.heap.size+1,2,.string x.site),(w.heap.size+1,3,.int .i64 x.level),(w.heap.size+1,4,.string x.remain),(w.heap.size+1,5,.int .i64 x.cont),(w.heap.size+1,6,.bool x.order)] w5:=by
     have hcs:=hHeld.cs
     simp only[cs_iff_cons] at hcs
     obtain⟨c0,c1,c2,c3,c4,c5,c6,_⟩:=hcs
     have hne:∀ j v,(some (w.heap.size+1)≠Value.ownBlock vc)→World.cell? _ ⟨w.heap.size+1,j,none⟩=some v→w5.cell? ⟨w.heap.size+1,j,none⟩=some v:=fun j v h h2=>hg5.cell h2 h
     have hnb:some (w.heap.size+1)≠Value.ownBlock vc:=fun e1=>by have:=hrow _ e1.symm;have:=hxlt.out;omega
     exact Sx.mk (by simp only[cs_iff_cons];exact⟨hne _ _ hnb c0,hne _ _ hnb c1,hne _ _ hnb c2,hne _ _ hnb c3,hne _ _ hnb c4,hne _ _ hnb c5,hne _ _ hnb c6,cs_nil _⟩) (hHeld.bel.trans (grown_below hg5 (fun k9 e1=>by have:=hrow k9 e1;omega) hHeld.bel.size))
    refine hK.out _ _ hS5 (fun hHeld=>?_)
    clear hK K hS5 hg5 hob5 hrow hown4 hsrc hbase
    simp only[List.getElem_toArray,List.getElem_cons_succ,List.getElem_cons_zero]
    (try simp only[apS,apN,siA,scZ,scS])
    obtain⟨A5,c5,hv5,_⟩:=OwnL.form hown5
    obtain⟨q5,hq5⟩:∃ q5,q5=((l ++ [x]).map Ev.cells).length:=⟨_,rfl⟩
    rw[←hq5] at hv5
    clear hq5
    subst hv5
    refine tkHx 5 6 ?_
    refine tkHx 6 7 ?_
    refine wpAnyH_done (by kernel_rfl) ?_ _
    go_wp2
    go_ret2
    rw[hG.out]
    exact⟨_,rfl,OwnL.less hown5 hwX,hHeld.bel⟩
   rw[if_pos (by kernel_rfl)]
   go_simp
   have hba:=below_alloc X (.cells #[.int .i64 x.day,.int .i64 x.kind,.string x.site,.int .i64 x.level,.string x.remain,.int .i64 x.cont,.bool x.order] 29)
   refine hK.out _ _ (hHeld.step hba) (fun hHeld=>?_)
   clear hK K
   (try simp only[apS,apN,siA,scZ,scS])
   have hsrc0:=rowsAt_new X [.int .i64 x.day,.int .i64 x.kind,.string x.site,.int .i64 x.level,.string x.remain,.int .i64 x.cont,.bool x.order] 29
   have hzx:(X.alloc (.cells #[.int .i64 x.day,.int .i64 x.kind,.string x.site,.int .i64 x.level,.string x.remain,.int .i64 x.cont,.bool x.order] 29)).heap.size=X.heap.size+1:=by simp
   (refine ratHx 1 (fun K hK=>?_);go_simp)
   refine (CloneEv_any E ec l _ (hEr.out _ hHeld.bel) hll).mono ?_
   rintro e9 w4 ⟨vc,rfl,hown4,hb4⟩
   go_simp
   have hsrc:=hsrc0.below hb4
   have hown4:=OwnL.less (B':=X.heap.size) hown4 (by rw[hzx];omega)
   have hbase:X.heap.size≤w4.heap.size:=by have:=hb4.size;omega
   (refine hK.out _ _ (hHeld.step hb4) (fun hHeld=>?_);clear hK K;(try simp only[apS,apN,siA,scZ,scS]))
   clear hsrc0 hzx hb4 hba
   refine wpAnyH_ready (rs:=[4]) (by decide +kernel) (by simp) ?_
   refine AllReadyH.cons rfl (fun K hK=>?_) AllReadyH.nil
   refine step_append_rows elemEv (by rfl) (.tmp 32) (.tmp 34) (by rfl) (by rfl) (by rfl) hown4 hsrc rfl (ev_wid [x]) (ev_one [x]) (by rw[List.length_map];simp;omega) (by decide) hbase ?_
   intro v' w5 hown5 hg5 hob5
   have hown5:OwnL w5 X.heap.size 29 7 v' ((l ++ [x]).map Ev.cells):=by rw[List.map_append];exact hown5
   have hwX:=hbw.out.size
   have hrow:∀ k9,Value.ownBlock vc=some k9→X.heap.size≤k9:=fun k9 e1=>(hown4.lt k9 e1).1
   have hS5:Sx w [(w.heap.size+1,0,.int .i64 x.day),(w.heap.size+1,1,.int .i64 x.kind),(w.heap.size+1,2,.string x.site),(w.heap.size+1,3,.int .i64 x.level),(w.heap.size+1,4,.string x.remain),(w.heap.size+1,5,.int .i64 x.cont),(w.heap.size+1,6,.bool x.order)] w5:=by
    have hcs:=hHeld.cs
    simp only[cs_iff_cons] at hcs
    obtain⟨c0,c1,c2,c3,c4,c5,c6,_⟩:=hcs
    have hne:∀ j v,(some (w.heap.size+1)≠Value.ownBlock vc)→World.cell? _ ⟨w.heap.size+1,j,none⟩=some v→w5.cell? ⟨w.heap.size+1,j,none⟩=some v:=fun j v h h2=>hg5.cell h2 h
    have hnb:some (w.heap.size+1)≠Value.ownBlock vc:=fun e1=>by have:=hrow _ e1.symm;have:=hxlt.out;omega
    exact Sx.mk (by simp only[cs_iff_cons];exact⟨hne _ _ hnb c0,hne _ _ hnb c1,hne _ _ hnb c2,hne _ _ hnb c3,hne _ _ hnb c4,hne _ _ hnb c5,hne _ _ hnb c6,cs_nil _⟩) (hHeld.bel.trans (grown_below hg5 (fun k9 e1=>by have:=hrow k9 e1;omega) hHeld.bel.size))
   refine hK.out _ _ hS5 (fun hHeld=>?_)
   clear hK K hS5 hg5 hob5 hrow hown4 hsrc hbase
   simp only[List.getElem_toArray,List.getElem_cons_succ,List.getElem_cons_zero]
   (try simp only[apS,apN,siA,scZ,scS])
   obtain⟨A5,c5,hv5,_⟩:=OwnL.form hown5
   obtain⟨q5,hq5⟩:∃ q5,q5=((l ++ [x]).map Ev.cells).length:=⟨_,rfl⟩
   rw[←hq5] at hv5
   clear hq5
   subst hv5
   refine tkHx 5 6 ?_
   refine tkHx 6 7 ?_
   refine wpAnyH_done (by kernel_rfl) ?_ _
   go_wp2
   go_ret2
   rw[hG.out]
   exact⟨_,rfl,OwnL.less hown5 hwX,hHeld.bel⟩
  rw[if_pos hz2] at hG
  have hzq:(rc2 != 0)=true:=by simp[hz2]
  clear hz2
  go_enter Tryd.func8,Tryd.ntmps8
  go_wp2_with (first
   |(go_at_call 17;clear y0 y1 y2 y3 y4;refine hread.out.mono ?_;intro e9 wn hrd;obtain⟨Bs,B,M,v,rfl,hbk⟩:=hrd.ok rfl;have hbk:=Lib.hid hbk;clear hrd;replace hx:=Lib.hid (hx.out.below hbk.out.bel);(obtain⟨x0,x1,x2,x3⟩:=hx.out.c4;have x4:=hx.out.c 4 _ rfl;have x5:=hx.out.c 5 _ rfl;have x6:=hx.out.c 6 _ rfl))
   |(go_at_call 18;clear x0 x1 x2 x3 x4 x5 x6;refine (hadd.out Bs B M v wn hbk.out).mono ?_;rintro e9 wm ⟨rfl,v2,hbk2⟩;have hbk2:=Lib.hid hbk2))
  go_ret2
  exact AdEP.bad hG.out (below_step hb0.out hbk2.out.bel)
 rw[if_pos hz] at hG
 have hzq:(rc != 0)=true:=by simp[hz]
 have hz:=Lib.hid hz
 go_enter Tryd.func8,Tryd.ntmps8
 go_wp2_with (go_at_call 17;clear y0 y1 y2 y3 y4;refine hread.out.mono ?_;intro e9 wn hrd;obtain⟨rfl,hbn⟩:=hrd.bad hz.out;clear hrd)
 go_ret2
 exact AdEP.bad hG.out (below_step hb0.out hbn)
end Go.Proofs.YtcnfhnndppollaaDoor
namespace Go.Proofs.YtcnfhnndppollaaDoor
namespace Cal
def churchyard:Yd:=⟨[⟨⟨#[97]⟩,0,1,240,80,3⟩,⟨⟨#[118]⟩,1,0,0,0,2⟩,⟨⟨#[110]⟩,2,0,0,0,2⟩,⟨⟨#[115]⟩,3,0,0,0,1⟩],[⟨1,0,7300⟩,⟨1,1,3650⟩],150,60,0⟩
def evV:Ev:=⟨100,0,⟨#[118]⟩,0,⟨#[120]⟩,0,false⟩
def evX:Ev:=⟨465,1,⟨#[]⟩,0,⟨#[120]⟩,0,false⟩
theorem awake_add:(grvAdd churchyard [evV] evX).2=0:=by decide +kernel
end Cal
end Go.Proofs.YtcnfhnndppollaaDoor
namespace Go.Proofs.YtcnfhnndppollaaDoor.Cal
theorem addS_awake:addS 100 12=(465,0):=by decide +kernel
end Go.Proofs.YtcnfhnndppollaaDoor.Cal
namespace Go.Proofs.YtcnfhnndppollaaDoor
open Go Go.RowKit Go.Maps
theorem rows_lay {m:Nat} (w:World) (l:List (List Value)) (hw:∀ r∈l,r.length=m) (cs:Array Value) (hcs:cs=l.flatten.toArray) (t:TypeId):RowsAt (w.alloc (.cells cs t)) (some ⟨w.heap.size,0,none⟩) m l:=by
 subst hcs
 exact fun k r hr=>⟨w.heap.size,0,rfl,by simp,fun j v hv=>by rw[cell_of_row _ _ _ l.flatten.toArray t (0,0) (World.alloc_heap_new w _),Nat.zero_add];simpa using flat_get hw hr hv⟩
theorem site_wid (l:List Site):∀ r∈l.map Site.cells,r.length=6:=fun r hr=>by obtain⟨s,_,rfl⟩:=List.mem_map.1 hr;rfl
theorem rest_wid (l:List Rst):∀ r∈l.map Rst.cells,r.length=3:=fun r hr=>by obtain⟨s,_,rfl⟩:=List.mem_map.1 hr;rfl
theorem rows_at {m B:Nat} (w:World) (hB:w.heap.size=B) (l:List (List Value)) (hw:∀ r∈l,r.length=m) (cs:Array Value) (hcs:cs=l.flatten.toArray) (t:TypeId):RowsAt (w.alloc (.cells cs t)) (some ⟨B,0,none⟩) m l:=by
 subst hB
 exact rows_lay w l hw cs hcs t
theorem Churchyard_any (w:World):Calls Tryd.prog 13 #[] w fun e w'=>∃ S R,e=.returned (.agg #[.slice S Cal.churchyard.sites.length 4,.slice R Cal.churchyard.rests.length 2,.int .i64 Cal.churchyard.c0,.int .i64 Cal.churchyard.c1,.int .i64 Cal.churchyard.c2])∧YdIn w' S R Cal.churchyard∧Below w.heap.size w w':=by
 go_enter Tryd.func13,Tryd.ntmps13
 go_wp2_with fail
 have hb:=BoxAt.new w #[.slice (some ⟨w.heap.size+1,0,none⟩) 4 4,.slice (some ⟨w.heap.size+1+1,0,none⟩) 2 2,.int .i64 150,.int .i64 60,.int .i64 0] 26
 refine bodyPost_ret (results_mid1 rfl _ _ w.heap.size [.slice (some ⟨w.heap.size+1,0,none⟩) 4 4,.slice (some ⟨w.heap.size+1+1,0,none⟩) 2 2,.int .i64 150,.int .i64 60,.int .i64 0] _ rfl ((hb.alloc _).alloc _).range Tryd.underlying26 rfl ydSz) rfl ?_
 refine⟨_,_,rfl,⟨?_,?_,by decide,by decide,fun s hs=>?_⟩,?_⟩
 ·refine RowsAt.alloc ?_ _
  exact rows_at _ (by simp) (Cal.churchyard.sites.map Site.cells) (site_wid _) _ rfl _
 ·exact rows_at _ (by simp) (Cal.churchyard.rests.map Rst.cells) (rest_wid _) _ rfl _
 ·simp only[Cal.churchyard,List.mem_cons,List.not_mem_nil,or_false] at hs
  rcases hs with rfl | rfl | rfl | rfl <;> exact Nat.le_trans (show _≤1 from Nat.le_refl 1) (by unfold maxLen;omega)
 exact below_step (below_step (below_alloc _ _) (below_alloc _ _)) (below_alloc _ _)
theorem Cal.grvAdd_ok {y:Yd} {l:List Ev} {x:Ev} (h:(Cal.grvAdd y l x).2=0):Cal.grvAdd y l x=(l ++ [x],0):=by
 unfold Cal.grvAdd at h ⊢
 repeat' split at h
 all_goals first | (exact absurd h (by assumption)) | (exact absurd h (by decide)) | (repeat' split <;> first | rfl | contradiction)
theorem grounds_any (w:World) (hT:Tab w):Calls Tryd.prog 4 #[] w fun e w'=>e=.returned (.bool true)∧Below w.heap.size w w':=by
 have hTz:=Lib.hid hT
 have hadd:=Lib.hid (Cal.grvAdd_ok Cal.awake_add)
 have hmon:=Lib.hid Cal.addS_awake
 go_enter Tryd.func4,Tryd.ntmps4
 go_upto_region 3 with (first
  |(go_at_call 13;refine (Churchyard_any w).mono ?_;rintro e9 wn ⟨S,R,rfl,hY,hbn⟩;have hBx:=Lib.hid (BoxAt.new wn #[.slice S Cal.churchyard.sites.length 4,.slice R Cal.churchyard.rests.length 2,.int .i64 Cal.churchyard.c0,.int .i64 Cal.churchyard.c1,.int .i64 Cal.churchyard.c2] 26);have hb1:=Lib.hid (below_step hbn (below_alloc wn (.cells #[.slice S Cal.churchyard.sites.length 4,.slice R Cal.churchyard.rests.length 2,.int .i64 Cal.churchyard.c0,.int .i64 Cal.churchyard.c1,.int .i64 Cal.churchyard.c2] 26)));replace hY:=Lib.hid (hY.below (below_alloc wn (.cells #[.slice S Cal.churchyard.sites.length 4,.slice R Cal.churchyard.rests.length 2,.int .i64 Cal.churchyard.c0,.int .i64 Cal.churchyard.c1,.int .i64 Cal.churchyard.c2] 26)));clear hbn)
  |(go_at_call 14;refine (AddMonths_any 100 12 _ (hTz.out.below hb1.out)).mono ?_;rintro e9 w2 ⟨rfl,hb2⟩;rw[hmon.out];replace hBx:=Lib.hid (hBx.out.below hb2);replace hY:=Lib.hid (hY.out.below hb2);replace hb1:=Lib.hid (below_step hb1.out hb2);clear hb2))
 obtain⟨y0,y1,y2,y3⟩:=hBx.out.c4;have y4:=hBx.out.c 4 _ rfl
 have hE:Hid (EvIn (w2.alloc (.cells #[.int .i64 Cal.evV.day,.int .i64 Cal.evV.kind,.string Cal.evV.site,.int .i64 Cal.evV.level,.string Cal.evV.remain,.int .i64 Cal.evV.cont,.bool Cal.evV.order] 29)) (some ⟨w2.heap.size,0,none⟩) [Cal.evV]):=⟨rows_lay w2 ([Cal.evV].map Ev.cells) (ev_wid _) _ rfl _,by decide,fun e he=>by rw[List.mem_singleton.1 he];exact⟨Nat.le_trans (show _≤1 from Nat.le_refl 1) (by unfold maxLen;omega),Nat.le_trans (show _≤1 from Nat.le_refl 1) (by unfold maxLen;omega)⟩⟩
 have hYa:=Lib.hid (hY.out.below (below_alloc w2 (.cells #[.int .i64 Cal.evV.day,.int .i64 Cal.evV.kind,.string Cal.evV.site,.int .i64 Cal.evV.level,.string Cal.evV.remain,.int .i64 Cal.evV.cont,.bool Cal.evV.order] 29)))
 have hA:=Lib.hid (AddE_any S R 4 2 Cal.churchyard (some ⟨w2.heap.size,0,none⟩) 1 [Cal.evV] Cal.evX _ hYa.out (by decide) hE.out (Nat.le_trans (show _≤1 from Nat.le_refl 1) (by unfold maxLen;omega)) (Nat.le_trans (show _≤1 from by decide) (by unfold maxLen;omega)))
 rw[hadd.out] at hA
 go_wp2_with (go_at_call 8;clear y0 y1 y2 y3 y4;refine hA.out.mono ?_;rintro e9 w3 ⟨v,rfl,hown,hb3⟩;obtain⟨A3,c3,rfl,_⟩:=hown.form;have hb3:=Lib.hid hb3;clear hown)
 go_ret
 exact⟨rfl,below_step (below_step hb1.out (below_alloc _ _)) hb3.out⟩
end Go.Proofs.YtcnfhnndppollaaDoor
namespace Go.Proofs.YtcnfhnndppollaaDoor
open Go Go.RowKit
def SmQ (w:World) (y:Yd) (e:Ending) (w':World):Prop:=∃ b,e=.returned (.bool b)∧(b=true→y.sites.length≤63∧y.rests.length≤43)∧Below w.heap.size w w'
theorem Small3_any (S R:Option Addr) (c d:Nat) (y:Yd) (w:World) (hS:RowsAt w S 6 (y.sites.map Site.cells)) :
  Calls Tryd.prog 5 #[.agg #[.slice S y.sites.length c,.slice R y.rests.length d,.int .i64 y.c0,.int .i64 y.c1,.int .i64 y.c2]] w (SmQ w y):=by
 have hb0:=below_alloc w (.cells #[.slice S y.sites.length c,.slice R y.rests.length d,.int .i64 y.c0,.int .i64 y.c1,.int .i64 y.c2] 26)
 have hy:=BoxAt.new w #[.slice S y.sites.length c,.slice R y.rests.length d,.int .i64 y.c0,.int .i64 y.c1,.int .i64 y.c2] 26
 have hYz:=Lib.hid (hS.below hb0)
 obtain⟨y0,y1⟩:=hy.c2
 have hb0:=Lib.hid hb0
 clear hS hy
 by_cases a1:5<(y.sites.length:Int)
 ·by_cases a2:(y.sites.length:Int)≤60
  ·go_enter Tryd.func5,Tryd.ntmps5
   go_wp2_with fail
   go_ret
   exact⟨false,rfl,(fun h=>by cases h),below_alloc _ _⟩
  by_cases a3:63<(y.sites.length:Int)
  ·go_enter Tryd.func5,Tryd.ntmps5
   go_wp2_with fail
   go_ret
   exact⟨false,rfl,(fun h=>by cases h),below_alloc _ _⟩
  by_cases b1:6<(y.rests.length:Int)
  ·by_cases b2:(y.rests.length:Int)≤40
   ·go_enter Tryd.func5,Tryd.ntmps5
    go_wp2_with fail
    go_ret
    exact⟨false,rfl,(fun h=>by cases h),below_alloc _ _⟩
   by_cases b3:43<(y.rests.length:Int)
   ·go_enter Tryd.func5,Tryd.ntmps5
    go_wp2_with fail
    go_ret
    exact⟨false,rfl,(fun h=>by cases h),below_alloc _ _⟩
   have hsm:Hid (y.sites.length≤63∧y.rests.length≤43):=⟨by omega,by omega⟩
   go_enter Tryd.func5,Tryd.ntmps5
   go_wp2_with fail
   go_loopw [3] (fun i wr=>∃ k:Nat,k≤y.sites.length∧i=.int .i64 k∧wr=w.alloc (.cells #[.slice S y.sites.length c,.slice R y.rests.length d,.int .i64 y.c0,.int .i64 y.c1,.int .i64 y.c2] 26)) (fun i _=>y.sites.length-(intOf i).toNat)
   case atStart=>exact⟨0,Nat.zero_le _,rfl,rfl⟩
   case round =>
    obtain⟨k,hk,rfl,rfl⟩:=hrel
    by_cases hlt:k<y.sites.length
    ·have hk':y.sites[k]?=some y.sites[k]:=List.getElem?_eq_getElem hlt
     have hkk:(k:Int)<(y.sites.length:Int):=by omega
     obtain⟨b,o,hS2,hbl,hc⟩:=site_at hYz.out hk'
     subst hS2
     have c0:=hc 0 _ rfl
     rw[Nat.add_zero] at c0
     clear hc hk'
     generalize y.sites[k]=p at *
     by_cases z1:30<(p.name.size:Int)
     ·go_wp2_with fail
      go_ret
      exact⟨false,rfl,(fun h=>by cases h),hb0.out⟩
     go_wp2_with fail
     go_roundw
     case rel=>exact⟨k+1,by omega,by go_num,trivial⟩
     case measure=>simp[intOf];omega
    obtain rfl:k=y.sites.length:=by omega
    go_wp2_with fail
    go_ret
    exact⟨true,rfl,(fun _=>hsm.out),hb0.out⟩
  have b3:¬43<(y.rests.length:Int):=by omega
  have hsm:Hid (y.sites.length≤63∧y.rests.length≤43):=⟨by omega,by omega⟩
  go_enter Tryd.func5,Tryd.ntmps5
  go_wp2_with fail
  go_loopw [3] (fun i wr=>∃ k:Nat,k≤y.sites.length∧i=.int .i64 k∧wr=w.alloc (.cells #[.slice S y.sites.length c,.slice R y.rests.length d,.int .i64 y.c0,.int .i64 y.c1,.int .i64 y.c2] 26)) (fun i _=>y.sites.length-(intOf i).toNat)
  case atStart=>exact⟨0,Nat.zero_le _,rfl,rfl⟩
  case round =>
   obtain⟨k,hk,rfl,rfl⟩:=hrel
   by_cases hlt:k<y.sites.length
   ·have hk':y.sites[k]?=some y.sites[k]:=List.getElem?_eq_getElem hlt
    have hkk:(k:Int)<(y.sites.length:Int):=by omega
    obtain⟨b,o,hS2,hbl,hc⟩:=site_at hYz.out hk'
    subst hS2
    have c0:=hc 0 _ rfl
    rw[Nat.add_zero] at c0
    clear hc hk'
    generalize y.sites[k]=p at *
    by_cases z1:30<(p.name.size:Int)
    ·go_wp2_with fail
     go_ret
     exact⟨false,rfl,(fun h=>by cases h),hb0.out⟩
    go_wp2_with fail
    go_roundw
    case rel=>exact⟨k+1,by omega,by go_num,trivial⟩
    case measure=>simp[intOf];omega
   obtain rfl:k=y.sites.length:=by omega
   go_wp2_with fail
   go_ret
   exact⟨true,rfl,(fun _=>hsm.out),hb0.out⟩
 have a3:¬63<(y.sites.length:Int):=by omega
 by_cases b1:6<(y.rests.length:Int)
 ·by_cases b2:(y.rests.length:Int)≤40
  ·go_enter Tryd.func5,Tryd.ntmps5
   go_wp2_with fail
   go_ret
   exact⟨false,rfl,(fun h=>by cases h),below_alloc _ _⟩
  by_cases b3:43<(y.rests.length:Int)
  ·go_enter Tryd.func5,Tryd.ntmps5
   go_wp2_with fail
   go_ret
   exact⟨false,rfl,(fun h=>by cases h),below_alloc _ _⟩
  have hsm:Hid (y.sites.length≤63∧y.rests.length≤43):=⟨by omega,by omega⟩
  go_enter Tryd.func5,Tryd.ntmps5
  go_wp2_with fail
  go_loopw [3] (fun i wr=>∃ k:Nat,k≤y.sites.length∧i=.int .i64 k∧wr=w.alloc (.cells #[.slice S y.sites.length c,.slice R y.rests.length d,.int .i64 y.c0,.int .i64 y.c1,.int .i64 y.c2] 26)) (fun i _=>y.sites.length-(intOf i).toNat)
  case atStart=>exact⟨0,Nat.zero_le _,rfl,rfl⟩
  case round =>
   obtain⟨k,hk,rfl,rfl⟩:=hrel
   by_cases hlt:k<y.sites.length
   ·have hk':y.sites[k]?=some y.sites[k]:=List.getElem?_eq_getElem hlt
    have hkk:(k:Int)<(y.sites.length:Int):=by omega
    obtain⟨b,o,hS2,hbl,hc⟩:=site_at hYz.out hk'
    subst hS2
    have c0:=hc 0 _ rfl
    rw[Nat.add_zero] at c0
    clear hc hk'
    generalize y.sites[k]=p at *
    by_cases z1:30<(p.name.size:Int)
    ·go_wp2_with fail
     go_ret
     exact⟨false,rfl,(fun h=>by cases h),hb0.out⟩
    go_wp2_with fail
    go_roundw
    case rel=>exact⟨k+1,by omega,by go_num,trivial⟩
    case measure=>simp[intOf];omega
   obtain rfl:k=y.sites.length:=by omega
   go_wp2_with fail
   go_ret
   exact⟨true,rfl,(fun _=>hsm.out),hb0.out⟩
 have b3:¬43<(y.rests.length:Int):=by omega
 have hsm:Hid (y.sites.length≤63∧y.rests.length≤43):=⟨by omega,by omega⟩
 go_enter Tryd.func5,Tryd.ntmps5
 go_wp2_with fail
 go_loopw [3] (fun i wr=>∃ k:Nat,k≤y.sites.length∧i=.int .i64 k∧wr=w.alloc (.cells #[.slice S y.sites.length c,.slice R y.rests.length d,.int .i64 y.c0,.int .i64 y.c1,.int .i64 y.c2] 26)) (fun i _=>y.sites.length-(intOf i).toNat)
 case atStart=>exact⟨0,Nat.zero_le _,rfl,rfl⟩
 case round =>
  obtain⟨k,hk,rfl,rfl⟩:=hrel
  by_cases hlt:k<y.sites.length
  ·have hk':y.sites[k]?=some y.sites[k]:=List.getElem?_eq_getElem hlt
   have hkk:(k:Int)<(y.sites.length:Int):=by omega
   obtain⟨b,o,hS2,hbl,hc⟩:=site_at hYz.out hk'
   subst hS2
   have c0:=hc 0 _ rfl
   rw[Nat.add_zero] at c0
   clear hc hk'
   generalize y.sites[k]=p at *
   by_cases z1:30<(p.name.size:Int)
   ·go_wp2_with fail
    go_ret
    exact⟨false,rfl,(fun h=>by cases h),hb0.out⟩
   go_wp2_with fail
   go_roundw
   case rel=>exact⟨k+1,by omega,by go_num,trivial⟩
   case measure=>simp[intOf];omega
  obtain rfl:k=y.sites.length:=by omega
  go_wp2_with fail
  go_ret
  exact⟨true,rfl,(fun _=>hsm.out),hb0.out⟩
def FewQ (w:World) (l:List Ev) (e:Ending) (w':World):Prop:=∃ b,e=.returned (.bool b)∧(b=true→(l.length≤16∨300<l.length)∧l.length≤303)∧Below w.heap.size w w'
theorem Few3_any (E:Option Addr) (ec:Nat) (l:List Ev) (w:World) (hE:RowsAt w E 7 (l.map Ev.cells)) :
  Calls Tryd.prog 6 #[.slice E l.length ec] w (FewQ w l):=by
 by_cases a1:16<(l.length:Int)
 ·by_cases a2:(l.length:Int)≤300
  ·go_enter Tryd.func6,Tryd.ntmps6
   go_wp2_with fail
   go_ret
   exact⟨false,rfl,(fun h=>by cases h),Below.refl _ _⟩
  have hfew:Hid (l.length≤16∨300<l.length):=.inr (by omega)
  by_cases a3:303<(l.length:Int)
  ·go_enter Tryd.func6,Tryd.ntmps6
   go_wp2_with fail
   go_ret
   exact⟨false,rfl,(fun h=>by cases h),Below.refl _ _⟩
  go_enter Tryd.func6,Tryd.ntmps6
  go_wp2_with fail
  go_loopw [3] (fun i wr=>∃ k:Nat,k≤l.length∧i=.int .i64 k∧wr=w) (fun i _=>l.length-(intOf i).toNat)
  case atStart=>exact⟨0,Nat.zero_le _,rfl,rfl⟩
  case round =>
   obtain⟨k,hk,rfl,rfl⟩:=hrel
   by_cases hlt:k<l.length
   ·have hk':l[k]?=some l[k]:=List.getElem?_eq_getElem hlt
    have hkk:(k:Int)<(l.length:Int):=by omega
    obtain⟨b,o,hS,hbl,c0,c1,c2,c3,c4,c5,c6⟩:=ev_at hE hk'
    subst hS
    clear hk' c0 c1 c3 c5 c6
    generalize l[k]=p at *
    by_cases z1:30<(p.site.size:Int)
    ·go_wp2_with fail
     go_ret
     exact⟨false,rfl,(fun h=>by cases h),Below.refl _ _⟩
    by_cases z2:30<(p.remain.size:Int)
    ·go_wp2_with fail
     go_ret
     exact⟨false,rfl,(fun h=>by cases h),Below.refl _ _⟩
    go_wp2_with fail
    go_roundw
    case rel=>exact⟨k+1,by omega,by go_num,trivial⟩
    case measure=>simp[intOf];omega
   obtain rfl:k=l.length:=by omega
   go_wp2_with fail
   go_ret
   exact⟨true,rfl,(fun _=>⟨hfew.out,by omega⟩),Below.refl _ _⟩
 have hfew:Hid (l.length≤16∨300<l.length):=.inl (by omega)
 have a3:¬303<(l.length:Int):=by omega
 go_enter Tryd.func6,Tryd.ntmps6
 go_wp2_with fail
 go_loopw [3] (fun i wr=>∃ k:Nat,k≤l.length∧i=.int .i64 k∧wr=w) (fun i _=>l.length-(intOf i).toNat)
 case atStart=>exact⟨0,Nat.zero_le _,rfl,rfl⟩
 case round =>
  obtain⟨k,hk,rfl,rfl⟩:=hrel
  by_cases hlt:k<l.length
  ·have hk':l[k]?=some l[k]:=List.getElem?_eq_getElem hlt
   have hkk:(k:Int)<(l.length:Int):=by omega
   obtain⟨b,o,hS,hbl,c0,c1,c2,c3,c4,c5,c6⟩:=ev_at hE hk'
   subst hS
   clear hk' c0 c1 c3 c5 c6
   generalize l[k]=p at *
   by_cases z1:30<(p.site.size:Int)
   ·go_wp2_with fail
    go_ret
    exact⟨false,rfl,(fun h=>by cases h),Below.refl _ _⟩
   by_cases z2:30<(p.remain.size:Int)
   ·go_wp2_with fail
    go_ret
    exact⟨false,rfl,(fun h=>by cases h),Below.refl _ _⟩
   go_wp2_with fail
   go_roundw
   case rel=>exact⟨k+1,by omega,by go_num,trivial⟩
   case measure=>simp[intOf];omega
  obtain rfl:k=l.length:=by omega
  go_wp2_with fail
  go_ret
  exact⟨true,rfl,(fun _=>⟨hfew.out,by omega⟩),Below.refl _ _⟩
end Go.Proofs.YtcnfhnndppollaaDoor
