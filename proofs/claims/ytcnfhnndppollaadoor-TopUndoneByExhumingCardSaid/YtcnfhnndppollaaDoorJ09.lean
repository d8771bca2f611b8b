/- What the statements rest on: definitions and walks, part 09. -/
import Derived.Test.YtcnfhnndppollaaDoorJ08
import Derived.Lib.Bytealg
import Derived.Ground.SlsfProg
import Derived.Shelf.SlSortCmp.NoneTotal
set_option maxRecDepth 100000
set_option maxHeartbeats 16000000
set_option linter.unusedSimpArgs false
set_option linter.unusedVariables false
namespace Go.Proofs.YtcnfhnndppollaaDoor
open Go Go.RowKit Go.Maps
theorem bkAdd_day {y:Yd} {b:Bk} {e:Ev} (h:(Cal.bkAdd y b e).2=0):b.day≤e.day∧(Cal.bkAdd y b e).1.day=e.day:=by
 unfold Cal.bkAdd at h ⊢
 split at h
 ·rename_i h1;exact absurd h h1
 rename_i h1
 rw[if_neg h1]
 refine⟨?_,rfl⟩
 apply Decidable.byContradiction
 intro hlt
 apply h1
 unfold Cal.bkErr
 intro h2
 split at h2
 ·rename_i h3;exact h3 h2
 rw[if_pos (by omega)] at h2
 cases h2
theorem bkReads_days {y:Yd}:∀ {l:List Ev} {b:Bk},(Cal.bkReads y b l).2=0→b.day≤(Cal.bkReads y b l).1.day∧∀ e∈l,e.day≤(Cal.bkReads y b l).1.day
 | [],b,_=>⟨Int.le_refl _,fun e he=>by cases he⟩
 | e :: r,b,h=>by
  unfold Cal.bkReads at h ⊢
  split at h
  ·rename_i h1;exact absurd h h1
  rename_i h1
  rw[if_neg h1]
  have h2:(Cal.bkAdd y b e).2=0:=Decidable.byContradiction h1
  obtain⟨d1,d2⟩:=bkAdd_day h2
  obtain⟨k1,k2⟩:=bkReads_days h
  refine⟨by omega,fun x hx=>?_⟩
  rcases List.mem_cons.1 hx with rfl | hx
  ·omega
  exact k2 x hx
def UpP (w:World) (S R:Option Addr) (c d:Nat) (y:Yd) (bk:Bk) (e:Ending) (w':World):Prop:=∃ Bs B M v,e=.returned (.pointer (some ⟨B,0,none⟩))∧BkW w w' Bs B M S R c d y v bk
theorem upTo_any (S R:Option Addr) (c d:Nat) (y:Yd) (E:Option Addr) (ec:Nat) (l:List Ev) (day:Int) (w:World) (hY:YdIn w S R y) (hcap:y.sites.length≤c) (hE:EvIn w E l) (h0:Cal.yardE y=0) (hl:l.length≤300) (bk:Bk) (hr:Cal.bkReads y Cal.bk0 l=(bk,0)) (hd:bk.day≤day) :
  Calls Tryd.prog 24 #[.agg #[.slice S y.sites.length c,.slice R y.rests.length d,.int .i64 y.c0,.int .i64 y.c1,.int .i64 y.c2],.slice E l.length ec,.int .i64 day] w (UpP w S R c d y bk):=by
 have hdays:Hid (∀ e∈l,e.day≤day):=by
  intro e he
  have h:=(bkReads_days (y:=y) (l:=l) (b:=Cal.bk0) (by rw[hr])).2 e he
  rw[hr] at h
  exact Int.le_trans h hd
 have hYo:=Lib.hid hY
 have hEz:=Lib.hid (fun w' (h:Below w.heap.size w w')=>hE.below h)
 have hb0:=below_alloc w (.cells #[.slice S y.sites.length c,.slice R y.rests.length d,.int .i64 y.c0,.int .i64 y.c1,.int .i64 y.c2] 26)
 have g0:=BoxAt.new w #[.slice S y.sites.length c,.slice R y.rests.length d,.int .i64 y.c0,.int .i64 y.c1,.int .i64 y.c2] 26
 have hnb:=Lib.hid (newBook_any S R c d y _ (hY.below hb0) h0)
 have hR:Hid (Cal.bkReads y Cal.bk0 (l.drop 0)=(bk,0)):=hr
 have hb1:=Lib.hid hb0
 obtain⟨y0,y1,y2,y3⟩:=g0.c4;have y4:=g0.c 4 _ rfl
 clear hY hE g0 hb0 hr h0 hd
 go_enter Tryd.func24,Tryd.ntmps24
 go_wp2_with (go_at_call 35;clear y0 y1 y2 y3 y4;refine hnb.out.mono ?_;rintro e9 wm ⟨Bs,B,M,v,rfl,hbk⟩;have hbk0:=Lib.hid hbk;clear hbk)
 obtain⟨wn,hwn⟩:∃ wn,w.alloc (.cells #[.slice S y.sites.length c,.slice R y.rests.length d,.int .i64 y.c0,.int .i64 y.c1,.int .i64 y.c2] 26)=wn:=⟨_,rfl⟩
 rw[hwn] at hbk0 hb1
 clear hwn
 have hst0:Hid (Cal.bk0.stays.length≤0):=Nat.le_refl _
 go_loopw [9,14] (fun _ i wr=>∃ (k:Nat) (b:Bk) (v:Value),k≤l.length∧i=.int .i64 k∧Hid (Cal.bkReads y b (l.drop k)=(bk,0))∧Hid (BkW wn wr Bs B M S R c d y v b)∧Hid (b.stays.length≤k)) (fun _ i _=>l.length-(intOf i).toNat)
 case atStart=>exact⟨0,Cal.bk0,v,Nat.zero_le _,rfl,hR,hbk0,hst0⟩
 case round =>
  clear hR hbk0 hst0
  obtain⟨k,b,v,hk,rfl,hR,hbk,hst⟩:=hrel
  by_cases hlt:k<l.length
  ·have hd:=bkReads_drop (y:=y) (b:=b) hlt
   have hk':l[k]?=some l[k]:=List.getElem?_eq_getElem hlt
   have hEw:=hEz.out wr (below_step hb1.out hbk.out.bel)
   have hnm:=Lib.hid (hEw.nm _ (List.getElem_mem hlt))
   have hdy:l[k].day≤day:=hdays.out _ (List.getElem_mem hlt)
   obtain⟨bx,o,rfl,hbl,e0,e1,e2,e3,e4,e5,e6⟩:=ev_at hEw.rows hk'
   clear hk' hEw
   generalize l[k]=e at *
   have hadd:=Lib.hid (vadd_any wn Bs B M S R c d y v b e _ (hbk.out.below (below_alloc wr (.cells #[.int .i64 e.day,.int .i64 e.kind,.string e.site,.int .i64 e.level,.string e.remain,.int .i64 e.cont,.bool e.order] 29))) hnm.out.1 hnm.out.2 (by have:=hst.out;omega))
   have hln:=Lib.hid (bkAdd_len y b e)
   have hde:=decide_eq_true hdy
   rw[hR.out] at hd
   clear hR hdy
   obtain⟨r,hr⟩:∃ r,r=Cal.bkAdd y b e:=⟨_,rfl⟩
   rw[←hr] at hd hadd hln
   clear hr
   obtain⟨bk',ec2⟩:=r
   dsimp only at hd
   by_cases hz:ec2=0
   ·subst hz
    rw[if_neg (by simp)] at hd
    have hR2:=Lib.hid hd.symm
    clear hd
    go_wp2_with (go_at_call 18;refine hadd.out.mono ?_;rintro e9 wm2 ⟨rfl,v2,hbk2⟩;have hbk2:=Lib.hid hbk2)
    go_roundw
    case rel=>exact⟨k+1,bk',v2,by omega,by go_num,hR2,hbk2,by show bk'.stays.length≤k+1;have h1:bk'.stays.length≤b.stays.length+1:=hln.out;have:=hst.out;omega⟩
    case measure=>simp[intOf];omega
   rw[if_pos hz] at hd
   exact absurd (congrArg Prod.snd hd).symm hz
  obtain rfl:k=l.length:=by omega
  have hf:Hid (b=bk):=by
   have h:=hR.out
   rw[List.drop_length] at h
   exact congrArg Prod.fst h
  clear hR
  go_wp2
  go_ret
  rw[hf.out] at hbk
  exact⟨Bs,B,M,v,rfl,hbk.out.older hb1.out hYo.out⟩
theorem bkRead_ok {y:Yd} {l:List Ev} {bk:Bk} (h:Cal.bkRead y l=(bk,0)):Cal.yardE y=0∧l.length≤300∧Cal.bkReads y Cal.bk0 l=(bk,0):=by
 unfold Cal.bkRead at h
 split at h
 ·rename_i h1;exact absurd (congrArg Prod.snd h) h1
 rename_i h1
 split at h
 ·exact absurd (congrArg Prod.snd h) (show (8:Int)≠0 by decide)
 exact⟨Decidable.byContradiction h1,by omega,h⟩
def OnP (w:World) (S R:Option Addr) (c d:Nat) (y:Yd) (bk:Bk) (e:Ending) (w':World):Prop:=∃ Bs B M v,e=.returned (.tuple #[.pointer (some ⟨B,0,none⟩),.int .i64 0])∧BkW w w' Bs B M S R c d y v bk
theorem onDay_any (S R:Option Addr) (c d:Nat) (y:Yd) (E:Option Addr) (ec:Nat) (l:List Ev) (day:Int) (w:World) (hY:YdIn w S R y) (hcap:y.sites.length≤c) (hE:EvIn w E l) (bk:Bk) (hr:Cal.bkRead y l=(bk,0)) (hd:bk.day≤day) (d0:0≤day) (d1:day≤200000) :
  Calls Tryd.prog 20 #[.agg #[.slice S y.sites.length c,.slice R y.rests.length d,.int .i64 y.c0,.int .i64 y.c1,.int .i64 y.c2],.slice E l.length ec,.int .i64 day] w (OnP w S R c d y bk):=by
 have hb0:=below_alloc w (.cells #[.slice S y.sites.length c,.slice R y.rests.length d,.int .i64 y.c0,.int .i64 y.c1,.int .i64 y.c2] 26)
 have hy:=Lib.hid (BoxAt.new w #[.slice S y.sites.length c,.slice R y.rests.length d,.int .i64 y.c0,.int .i64 y.c1,.int .i64 y.c2] 26)
 have hread:=Lib.hid (read_any S R c d y E ec l _ (hY.below hb0) hcap (hE.below hb0))
 rw[hr] at hread
 obtain⟨h0,hl,hrs⟩:=bkRead_ok hr
 have hup:=Lib.hid (fun w' (h:Below w.heap.size w w')=>upTo_any S R c d y E ec l day w' (hY.below h) hcap (hE.below h) h0 hl bk hrs hd)
 have hb0:=Lib.hid hb0
 have hYo:=Lib.hid hY
 clear hY hE hr hrs h0 hd
 obtain⟨y0,y1,y2,y3⟩:=hy.out.c4;have y4:=hy.out.c 4 _ rfl
 go_enter Tryd.func20,Tryd.ntmps20
 go_wp2_with (first
  |(go_at_call 17;clear y0 y1 y2 y3 y4;refine hread.out.mono ?_;intro e9 wn hrd;obtain⟨Bs,B,M,v,rfl,hbk⟩:=hrd.ok rfl;replace hy:=Lib.hid (hy.out.below hbk.bel);replace hb0:=Lib.hid (below_step hb0.out hbk.bel);clear hrd hbk;obtain⟨y0,y1,y2,y3⟩:=hy.out.c4;have y4:=hy.out.c 4 _ rfl)
  |(go_at_call 23;refine rin ?_ (visDay_any _ _))
  |(go_at_call 24;clear y0 y1 y2 y3 y4;refine (hup.out _ hb0.out).mono ?_;rintro e9 wm ⟨Bs2,B2,M2,v2,rfl,hbk2⟩;have hbk2:=Lib.hid hbk2))
 go_ret2
 exact⟨Bs2,B2,M2,v2,rfl,hbk2.out.older hb0.out hYo.out⟩
end Go.Proofs.YtcnfhnndppollaaDoor
namespace Go.Proofs.YtcnfhnndppollaaDoor
open Go Go.RowKit Go.Maps
theorem Where_any (S R:Option Addr) (c d:Nat) (y:Yd) (E:Option Addr) (ec:Nat) (l:List Ev) (n:ByteArray) (day:Int) (w:World) (hY:YdIn w S R y) (hcap:y.sites.length≤c) (hE:EvIn w E l) (hn:n.size≤maxLen) (bk:Bk) (hr:Cal.bkRead y l=(bk,0)) (hd:bk.day≤day) (d0:0≤day) (d1:day≤200000) (t:Lot) (ht:Cal.lotOf bk.stays n=some t) :
  Calls Tryd.prog 9 #[.agg #[.slice S y.sites.length c,.slice R y.rests.length d,.int .i64 y.c0,.int .i64 y.c1,.int .i64 y.c2],.slice E l.length ec,.string n,.int .i64 day] w (ErP w (t,0)):=by
 have h0:=BoxAt.new (w.alloc (.cells #[.slice S y.sites.length c,.slice R y.rests.length d,.int .i64 y.c0,.int .i64 y.c1,.int .i64 y.c2] 26)) #[.string ⟨#[]⟩,.int .i64 0,.string ⟨#[]⟩,.int .i64 0,.int .i64 0,.int .i64 0] 38
 rw[World.size_alloc] at h0
 have hb0:=below_step (below_alloc w (.cells #[.slice S y.sites.length c,.slice R y.rests.length d,.int .i64 y.c0,.int .i64 y.c1,.int .i64 y.c2] 26)) (below_alloc (w.alloc (.cells #[.slice S y.sites.length c,.slice R y.rests.length d,.int .i64 y.c0,.int .i64 y.c1,.int .i64 y.c2] 26)) (.cells #[.string ⟨#[]⟩,.int .i64 0,.string ⟨#[]⟩,.int .i64 0,.int .i64 0,.int .i64 0] 38))
 have hy:=Lib.hid ((BoxAt.new w #[.slice S y.sites.length c,.slice R y.rests.length d,.int .i64 y.c0,.int .i64 y.c1,.int .i64 y.c2] 26).alloc (.cells #[.string ⟨#[]⟩,.int .i64 0,.string ⟨#[]⟩,.int .i64 0,.int .i64 0,.int .i64 0] 38))
 have hR:=Lib.hid h0
 have hon:=Lib.hid (onDay_any S R c d y E ec l day _ (hY.below hb0) hcap (hE.below hb0) bk hr hd d0 d1)
 have hlot:=Lib.hid (fun (B M:Nat) (A:Option Addr) (cap:Nat) (w':World) (hB:BkR w' B M S R c d y A cap bk)=>(by
  have h:=lot_any B M S R c d y A cap bk n w' hB hn
  rw[ht] at h
  exact h:Calls Tryd.prog 21 #[.pointer (some ⟨B,0,none⟩),.string n] w' (fun e w''=>e=.returned (.tuple #[.agg #[.string t.remain,.int .i64 t.state,.string t.site,.int .i64 t.level,.int .i64 t.cont,.int .i64 t.since],.bool true])∧Below w'.heap.size w' w'')))
 have hb0:=Lib.hid hb0
 clear hY hE hr ht hd d0 d1 h0
 obtain⟨y0,y1,y2,y3⟩:=hy.out.c4;have y4:=hy.out.c 4 _ rfl
 go_enter Tryd.func9,Tryd.ntmps9
 go_upto_region 7 with (first
  |(go_at_call 20;clear y0 y1 y2 y3 y4;refine hon.out.mono ?_;rintro e9 wn ⟨Bs,B,M,v,rfl,hbk⟩;obtain⟨A,cap,_,hbr⟩:=hbk.read;replace hR:=Lib.hid (hR.out.below hbk.bel);replace hb0:=Lib.hid (below_step hb0.out hbk.bel);replace hbr:=Lib.hid hbr;clear hbk)
  |(go_at_call 21;refine (hlot.out B M A cap wn hbr.out).mono ?_;rintro e9 wm ⟨rfl,hbm⟩;have hL:=Lib.hid (BoxAt.new wm #[.string t.remain,.int .i64 t.state,.string t.site,.int .i64 t.level,.int .i64 t.cont,.int .i64 t.since] 38);replace hR:=Lib.hid ((hR.out.below hbm).alloc (.cells #[.string t.remain,.int .i64 t.state,.string t.site,.int .i64 t.level,.int .i64 t.cont,.int .i64 t.since] 38));replace hb0:=Lib.hid (below_step (below_step hb0.out hbm) (below_alloc wm (.cells #[.string t.remain,.int .i64 t.state,.string t.site,.int .i64 t.level,.int .i64 t.cont,.int .i64 t.since] 38)));clear hbm;obtain⟨l0,l1,l2,l3⟩:=hL.out.c4;have l4:=hL.out.c 4 _ rfl;have l5:=hL.out.c 5 _ rfl))
 go_wp2_with (refine wpList_store_box rfl 38 (.tmp 8) (.tmp 34) rfl (w.heap.size+1) _ [.string t.remain,.int .i64 t.state,.string t.site,.int .i64 t.level,.int .i64 t.cont,.int .i64 t.since] (by rfl) (by rfl) hR.out rfl ltSz (by kernel_rfl) ?_;intro w4 h4 hg4)
 refine bodyPost_ret (results_mid2 rfl _ _ (w.heap.size+1) [.string t.remain,.int .i64 t.state,.string t.site,.int .i64 t.level,.int .i64 t.cont,.int .i64 t.since] _ rfl h4.range Tryd.underlying38 rfl ltSz) rfl ?_
 exact⟨rfl,below_of_grownB hb0.out hg4 (by omega)⟩
end Go.Proofs.YtcnfhnndppollaaDoor
namespace Go.Proofs.YtcnfhnndppollaaDoor
open Go Go.RowKit Go.Shelf Go.Maps
attribute [local go_sem] Oper.semAt_some
def nowL (l:List Sty):List Lot:=(l.filter (fun s=>decide (s.til<0))).map Sty.lot
theorem nowL_step {l:List Sty} {i:Nat} (h:i<l.length):nowL (l.take (i+1))=nowL (l.take i) ++ (if (stAt l i).til<0 then [(stAt l i).lot] else []):=by
 have hk:=stAt_get h
 unfold nowL
 rw[List.take_add_one,hk]
 simp only[Option.toList_some,List.filter_append,List.map_append]
 by_cases ht:(stAt l i).til<0 <;> simp[ht]
theorem elemLot:Elem Tryd.prog 45 38 6 64:=Elem.mk' Tryd.underlying45 (z:=.agg #[.string ⟨#[]⟩,.int .i64 0,.string ⟨#[]⟩,.int .i64 0,.int .i64 0,.int .i64 0]) (by kernel_rfl) rfl (by decide)
theorem lot_wid (l:List Lot):∀ r∈l.map Lot.cells,r.length=6:=fun r hr=>by obtain⟨s,_,rfl⟩:=List.mem_map.1 hr;rfl
theorem lot_one (l:List Lot):∀ r∈l.map Lot.cells,∀ u∈r,u.oneCell'=true:=fun r hr u hu=>by
 obtain⟨s,_,rfl⟩:=List.mem_map.1 hr
 simp only[Lot.cells,List.mem_cons,List.not_mem_nil,or_false] at hu
 rcases hu with rfl | rfl | rfl | rfl | rfl | rfl <;> rfl
structure LcI (w:World) (bk:Bk) (v:Value) (i:Nat) (W:World):Prop where
 le:i≤bk.stays.length
 box:BoxAt W w.heap.size [v]
 own:OwnL W (w.heap.size+1) 38 6 v ((nowL (bk.stays.take i)).map Lot.cells)
 bel:Below w.heap.size w W
 size:w.heap.size+1≤W.heap.size
theorem LcI.below {w:World} {bk:Bk} {v:Value} {i:Nat} {W W':World} (h:LcI w bk v i W) (hb:Below W.heap.size W W'):LcI w bk v i W':=⟨h.le,h.box.below hb,OwnL.below h.own hb,below_step h.bel hb,Nat.le_trans h.size hb.size⟩
theorem LcI.kept {w:World} {bk:Bk} {v:Value} {i:Nat} {W W':World} {row:Option Nat} (h:LcI w bk v i W) (hg:W.grownBy W' row) (hr:Others W row) (hB:∀ r,row=some r→w.heap.size≤r):LcI w bk v i W' :=
 ⟨h.le,h.box.keptF hg hr,OwnL.keptF h.own hg hr,h.bel.grown hg (by have:=h.bel.size;omega) hB,Nat.le_trans h.size hg.size⟩
theorem LcI.app {w:World} {bk:Bk} {v v':Value} {i:Nat} {W W7:World} (h:LcI w bk v i W) (hi:i<bk.stays.length) (ht:(stAt bk.stays i).til<0) (hown:OwnL W7 (w.heap.size+1) 38 6 v' ((nowL (bk.stays.take i)).map Lot.cells ++ [(stAt bk.stays i).lot].map Lot.cells)) (hg:W.grownBy W7 v.ownBlock) :
  LcI w bk v' (i+1) (W7.setCell ⟨w.heap.size,0,none⟩ v')∧BoxAt W7 w.heap.size [v]∧KeepsOthers W (W7.setCell ⟨w.heap.size,0,none⟩ v'):=by
 have hne:some w.heap.size≠v.ownBlock:=fun e=>by have:=(h.own.lt _ e.symm).1;omega
 have b:=h.box.grown hg hne
 have e:(nowL (bk.stays.take (i+1))).map Lot.cells=(nowL (bk.stays.take i)).map Lot.cells ++ [(stAt bk.stays i).lot].map Lot.cells:=by
  rw[nowL_step hi,if_pos ht,List.map_append]
 rw[←e] at hown
 exact⟨⟨hi,b.set 0 _ Nat.zero_lt_one,hown.offF 0 _ (by omega),(h.bel.trans (grown_below hg (fun g e=>by have:=(h.own.lt g e).1;omega) h.bel.size)).setCell (p:=⟨w.heap.size,0,none⟩) (Nat.le_refl _) _,by rw[World.size_setCell];exact Nat.le_trans h.size hg.size⟩,b,(OwnL.keepsF h.own hg).trans (KeepsOthers.setCell _ _ _)⟩
def AsP (w:World) (bk:Bk) (e:Ending) (w':World):Prop:=∃ v,e=.returned v∧OwnL w' (w.heap.size+1) 38 6 v ((nowL bk.stays).map Lot.cells)∧Below w.heap.size w w'
theorem AppendSeq_any (B M:Nat) (S R:Option Addr) (c d:Nat) (y:Yd) (A:Option Addr) (cap:Nat) (bk:Bk) (w:World) (hB:BkR w B M S R c d y A cap bk) :
  Calls Tryd.prog 61 #[.slice none 0 0,.func (.func 41) #[.pointer (some ⟨B,0,none⟩)] #[]] w (AsP w bk):=by
 refine (callsIn_wide (n:=4)).1 ?_
 refine callsIn_of_wp_marks Tryd.func61 rfl trivial ?_ rfl
 simp only[Tryd.ntmps61,List.size_toArray,List.length_cons,List.length_nil,Nat.reduceAdd,Nat.reduceSub,Array.replicate_succ,Array.replicate_zero,List.push_toArray,List.append_toArray,List.nil_append,List.cons_append]
 gi_wp2
 have hlen:=hB.ok.len
 have hb0:=below_alloc w (.cells #[.slice none 0 0] 45)
 have hsz:(w.alloc (.cells #[.slice none 0 0] 45)).heap.size=w.heap.size+1:=World.size_alloc ..
 have hI0:LcI w bk (.slice none 0 0) 0 (w.alloc (.cells #[.slice none 0 0] 45)):=⟨Nat.zero_le _,BoxAt.new w #[.slice none 0 0] _,OwnL.nil _ _ _ _,hb0,by rw[hsz];exact Nat.le_refl _⟩
 obtain⟨Z0,hZ0⟩:∃ Z0,w.alloc (.cells #[.slice none 0 0] 45)=Z0:=⟨_,rfl⟩
 rw[hZ0] at hI0 hsz hb0 ⊢
 clear hZ0
 have hBz:=Lib.hid hB
 clear hB hb0
 refine wpIn_rangeFunc_rawB rfl (by omega) (gf:=41) (fb:=#[.pointer (some ⟨B,0,none⟩)]) rfl trivial (enters_of Tryd.func41 (by kernel_rfl) rfl)
  (lots_raw B M S R c d y A cap bk 3 (by omega)) (fun _=>rfl)
  (fun s X Y k o _ hs hk _=>by
   have e:Y=X.alloc (.cells #[.string (stAt bk.stays s).lot.remain,.int .i64 (stAt bk.stays s).lot.state,.string (stAt bk.stays s).lot.site,.int .i64 (stAt bk.stays s).lot.level,.int .i64 (stAt bk.stays s).lot.cont,.int .i64 (stAt bk.stays s).lot.since,.int .i64 (stAt bk.stays s).til] 88):=by rcases hs with h | h <;> exact h.2.2
   subst e
   exact (Below.heap_alloc _ _ _ (Array.getElem?_eq_some_iff.1 hk).1).trans hk)
  (fun i W=>∃ v,LcI w bk v i W) (fun i W=>(∃ v,LcI w bk v i W)∧i<bk.stays.length∧(stAt bk.stays i).til<0)
  (fun _ _=>False)
  (fun s X h=>by obtain⟨v,h⟩:=h;exact⟨h.le,hBz.out.below h.bel⟩)
  (fun s X Y h hs=>by
   obtain⟨v,h⟩:=h
   obtain⟨h1,h2,rfl⟩:=hs
   refine⟨v,LcI.below ⟨h1,h.box,?_,h.bel,h.size⟩ (below_alloc _ _)⟩
   have e:=nowL_step h1
   rw[if_neg h2,List.append_nil] at e
   rw[e]
   exact h.own)
  (fun s X Y h hs=>by
   obtain⟨v,h⟩:=h
   obtain⟨h1,h2,rfl⟩:=hs
   exact⟨⟨v,h.below (below_alloc _ _)⟩,h1,h2⟩)
  (fun s X o _ h=>by obtain⟨v,h⟩:=h;exact⟨v,h.below (below_alloc _ _)⟩)
  (fun s X l o o' hl hX ho _ h=>by obtain⟨v,h⟩:=h;exact⟨v,h.kept (grownBy_putObj' X l o') (othersBook hX ho) (fun r e=>by cases e;omega)⟩)
  (fun i a' W=>∃ v Bx,LcI w bk v i W∧i<bk.stays.length∧(stAt bk.stays i).til<0∧BoxAt W Bx [.string (stAt bk.stays i).lot.remain,.int .i64 (stAt bk.stays i).lot.state,.string (stAt bk.stays i).lot.site,.int .i64 (stAt bk.stays i).lot.level,.int .i64 (stAt bk.stays i).lot.cont,.int .i64 (stAt bk.stays i).lot.since]∧a'={ tmps:=#[.slice none 0 0,.func (.func 41) #[.pointer (some ⟨B,0,none⟩)] #[],.pointer (some ⟨w.heap.size,0,none⟩),undef,.slice none 0 0,.pointer (some ⟨Bx,0,none⟩),.func (.func 41) #[.pointer (some ⟨B,0,none⟩)] #[],.agg #[.string (stAt bk.stays i).lot.remain,.int .i64 (stAt bk.stays i).lot.state,.string (stAt bk.stays i).lot.site,.int .i64 (stAt bk.stays i).lot.level,.int .i64 (stAt bk.stays i).lot.cont,.int .i64 (stAt bk.stays i).lot.since],undef,undef,undef,undef,undef],defers:=[] })
  (fun s a' X l o o' hl hX ho _ h=>by
   obtain⟨v,Bx,h1,h2,h3,h4,h5⟩:=h
   exact⟨v,Bx,h1.kept (grownBy_putObj' X l o') (othersBook hX ho) (fun r e=>by cases e;omega),h2,h3,h4.keptF (grownBy_putObj' X l o') (othersBook hX ho),h5⟩)
  (fun c X l o o' hl hX ho _ h=>h.elim)
  ⟨_,hI0⟩ ?assign ?body ?done ?stop
 case assign =>
  rintro l k W K ⟨⟨v,hI⟩,h1,h2⟩ hK
  gi_wp2
  exact hK _ _ (KeepsOthers.alloc _ _) ⟨v,W.heap.size,hI.below (below_alloc _ _),h1,h2,BoxAt.new W #[.string (stAt bk.stays k).lot.remain,.int .i64 (stAt bk.stays k).lot.state,.string (stAt bk.stays k).lot.site,.int .i64 (stAt bk.stays k).lot.level,.int .i64 (stAt bk.stays k).lot.cont,.int .i64 (stAt bk.stays k).lot.since] _,rfl⟩
 case body =>
  rintro l k a' W ⟨v,Bx,hI,h1,h2,bX,rfl⟩
  have z0:=hI.box.c 0 _ rfl;obtain⟨x0,x1,x2,x3⟩:=bX.c4;have x4:=bX.c 4 _ rfl;have x5:=bX.c 5 _ rfl
  have hbnd:(nowL (bk.stays.take k)).length≤1000000:=by
   unfold nowL
   rw[List.length_map]
   refine Nat.le_trans (List.length_filter_le _ _) ?_
   rw[List.length_take]
   omega
  have happ:=Lib.hid (fun W7 v' (hown:OwnL W7 (w.heap.size+1) 38 6 v' ((nowL (bk.stays.take k)).map Lot.cells ++ [(stAt bk.stays k).lot].map Lot.cells)) (hg:(W.alloc (.cells #[.string (stAt bk.stays k).lot.remain,.int .i64 (stAt bk.stays k).lot.state,.string (stAt bk.stays k).lot.site,.int .i64 (stAt bk.stays k).lot.level,.int .i64 (stAt bk.stays k).lot.cont,.int .i64 (stAt bk.stays k).lot.since] 38)).grownBy W7 v.ownBlock)=>(hI.below (below_alloc W (.cells #[.string (stAt bk.stays k).lot.remain,.int .i64 (stAt bk.stays k).lot.state,.string (stAt bk.stays k).lot.site,.int .i64 (stAt bk.stays k).lot.level,.int .i64 (stAt bk.stays k).lot.cont,.int .i64 (stAt bk.stays k).lot.since] 38))).app h1 h2 hown hg)
  have hI:=Lib.hid hI
  clear bX h1 h2
  generalize stAt bk.stays k=s at *
  gi_wp2_with (gi_at_builtin;refine wpListF_append_rows elemLot rfl _ _ rfl rfl rfl (OwnL.below hI.out.own (below_alloc W (.cells #[.string s.lot.remain,.int .i64 s.lot.state,.string s.lot.site,.int .i64 s.lot.level,.int .i64 s.lot.cont,.int .i64 s.lot.since] 38))) (rowsAt_new W [.string s.lot.remain,.int .i64 s.lot.state,.string s.lot.site,.int .i64 s.lot.level,.int .i64 s.lot.cont,.int .i64 s.lot.since] 38) rfl (lot_wid [s.lot]) (lot_one [s.lot]) (by simp only[List.length_map,List.length_singleton];omega) (by decide) (by have:=hI.out.size;rw[World.size_alloc];omega) ?_;intro v' w7 hown7 hg7 _;obtain⟨A5,c5,hv5,_⟩:=OwnL.form hown7;obtain⟨q5,hq5⟩:∃ q:Nat,v'=.slice A5 q c5:=⟨_,hv5⟩;clear hv5;subst hq5;obtain⟨q1,q2,q3⟩:=happ.out w7 (.slice A5 q5 c5) hown7 hg7;have q1:=Lib.hid q1;have q3:=Lib.hid q3;have f0:=q2.free 0 Nat.zero_lt_one;have u0:=q2.c 0 _ rfl;clear hown7 hg7 q2)
  exact⟨(KeepsOthers.alloc _ _).trans q3.out,.slice A5 q5 c5,q1.out⟩
 case done =>
  rintro D s W rfl ⟨v,hI⟩ hD hK
  have z0:=hI.box.c 0 _ rfl
  have hI:=Lib.hid hI
  have hK:=Lib.hid hK
  gi_wp2
  refine⟨by simp,.inl ⟨_,_,rfl,run_takeDeferred hK.out,?_⟩⟩
  have hI2:=hI.out.kept (grownBy_putObj' W D (.deferred none)) (othersBook hK.out rfl) (fun r e=>by cases e;omega)
  refine⟨_,results_tmp rfl _ _ _,v,rfl,?_,hI2.bel⟩
  have h:=hI2.own
  rw[List.take_length] at h
  exact h
 case stop =>
  rintro D c W h
  exact h.elim
theorem Collect_any (B M:Nat) (S R:Option Addr) (c d:Nat) (y:Yd) (A:Option Addr) (cap:Nat) (bk:Bk) (w:World) (hB:BkR w B M S R c d y A cap bk) :
  Calls Tryd.prog 40 #[.func (.func 41) #[.pointer (some ⟨B,0,none⟩)] #[]] w (AsP w bk):=by
 have hA:=Lib.hid (AppendSeq_any B M S R c d y A cap bk w hB)
 clear hB
 go_enter Tryd.func40,Tryd.ntmps40
 go_wp2_with (go_at_call 61;refine hA.out.mono ?_;rintro e9 wn ⟨v,rfl,hown,hb⟩;have hown:=Lib.hid hown;have hb:=Lib.hid hb)
 go_ret
 exact⟨v,rfl,hown.out,hb.out⟩
end Go.Proofs.YtcnfhnndppollaaDoor
namespace Go.Proofs.YtcnfhnndppollaaDoor.Cal
open Go.Lib
theorem cb_lt:∀ {a b:List UInt8},compareBytes a b<0↔a<b
 | [],[]=>by simp[compareBytes]
 | [],_ :: _=>by simp[compareBytes]
 | _ :: _,[]=>by simp[compareBytes]
 | x :: r,y :: s=>by
  rw[List.cons_lt_cons_iff]
  unfold compareBytes
  split
  ·rename_i h;simp[h]
  rename_i h
  split
  ·rename_i h2
   have hne:x≠y:=fun e=>by subst e;exact h h2
   simp[h,hne]
  rename_i h2
  have e:x=y:=by
   have h3:=UInt8.not_lt.1 h
   have h4:=UInt8.not_lt.1 h2
   exact UInt8.le_antisymm h4 h3
  subst e
  rw[cb_lt]
  simp
theorem cb_total {a b:List UInt8} (h1:¬compareBytes a b<0) (h2:¬compareBytes b a<0):a=b:=by
 rw[cb_lt] at h1 h2
 exact List.le_antisymm (List.not_lt.1 h2) (List.not_lt.1 h1)
end Go.Proofs.YtcnfhnndppollaaDoor.Cal
namespace Go.Proofs
open Go.Shelf
def Tryd.laysSlF06_f42_ren:Go.Shelf.Ren:=⟨fun | 6=>42 | 15=>63 | 14=>62 | 28=>87 | 29=>88 | 20=>79 | 21=>80 | 22=>81 | 23=>82 | 24=>83 | 25=>84 | 26=>85 | 27=>86 | 46=>92 | 47=>93 | 48=>94 | 49=>95 | 50=>96 | 57=>98 | n=>n,fun | 22=>45 | 24=>38 | 25=>94 | 3=>3 | 39=>120 | 0=>0 | 53=>140 | 55=>142 | 4=>4 | 46=>134 | 45=>133 | 50=>75 | 5=>5 | 9=>9 | 66=>144 | 70=>148 | 76=>150 | 77=>151 | n=>n,fun | n=>n⟩
theorem Tryd.laysSlF06_f42:Go.Proofs.SlLaysF0.n6 Tryd.prog Tryd.laysSlF06_f42_ren:={
 mixed:=by kernel_rfl
 f6:=⟨Tryd.f42.name,by decide,Tryd.func42.trans (congrArg some (by kernel_rfl))⟩
 f14:=⟨Tryd.f62.name,by decide,Tryd.func62.trans (congrArg some (by kernel_rfl))⟩
 f15:=Tryd.func63.trans (congrArg some (by kernel_rfl))
 f20:=⟨Tryd.f79.name,by decide,Tryd.func79.trans (congrArg some (by kernel_rfl))⟩
 f21:=⟨Tryd.f80.name,by decide,Tryd.func80.trans (congrArg some (by kernel_rfl))⟩
 f22:=⟨Tryd.f81.name,by decide,Tryd.func81.trans (congrArg some (by kernel_rfl))⟩
 f23:=⟨Tryd.f82.name,by decide,Tryd.func82.trans (congrArg some (by kernel_rfl))⟩
 f24:=⟨Tryd.f83.name,by decide,Tryd.func83.trans (congrArg some (by kernel_rfl))⟩
 f25:=⟨Tryd.f84.name,by decide,Tryd.func84.trans (congrArg some (by kernel_rfl))⟩
 f26:=⟨Tryd.f85.name,by decide,Tryd.func85.trans (congrArg some (by kernel_rfl))⟩
 f27:=⟨Tryd.f86.name,by decide,Tryd.func86.trans (congrArg some (by kernel_rfl))⟩
 f28:=Tryd.func87.trans (congrArg some (by kernel_rfl))
 f29:=Tryd.func88.trans (congrArg some (by kernel_rfl))
 f46:=⟨Tryd.f92.name,by decide,Tryd.func92.trans (congrArg some (by kernel_rfl))⟩
 f47:=Tryd.func93.trans (congrArg some (by kernel_rfl))
 f48:=Tryd.func94.trans (congrArg some (by kernel_rfl))
 f49:=⟨Tryd.f95.name,by decide,Tryd.func95.trans (congrArg some (by kernel_rfl))⟩
 f50:=⟨Tryd.f96.name,by decide,Tryd.func96.trans (congrArg some (by kernel_rfl))⟩
 f57:=⟨Tryd.f98.name,by decide,Tryd.func98.trans (congrArg some (by kernel_rfl))⟩
 t0:=Tryd.underlying0
 a0:=Tryd.isAgg0
 z0:=Tryd.sizeOf0
 v0:=Tryd.zeroValue0
 t3:=Tryd.underlying3
 a3:=Tryd.isAgg3
 z3:=Tryd.sizeOf3
 v3:=Tryd.zeroValue3
 t4:=Tryd.underlying4
 a4:=Tryd.isAgg4
 z4:=Tryd.sizeOf4
 v4:=Tryd.zeroValue4
 t5:=Tryd.underlying5
 a5:=Tryd.isAgg5
 z5:=Tryd.sizeOf5
 v5:=Tryd.zeroValue5
 t9:=Tryd.underlying9
 a9:=Tryd.isAgg9
 z9:=Tryd.sizeOf9
 v9:=Tryd.zeroValue9
 t22:=Tryd.underlying45
 a22:=Tryd.isAgg45
 z22:=Tryd.sizeOf45
 v22:=Tryd.zeroValue45
 t25:=Tryd.underlying94
 a25:=Tryd.isAgg94
 z25:=Tryd.sizeOf94
 v25:=Tryd.zeroValue94
 t39:=Tryd.underlying120
 a39:=Tryd.isAgg120
 z39:=Tryd.sizeOf120
 v39:=Tryd.zeroValue120
 t45:=Tryd.underlying133
 a45:=Tryd.isAgg133
 z45:=Tryd.sizeOf133
 v45:=Tryd.zeroValue133
 t46:=Tryd.underlying134
 a46:=Tryd.isAgg134
 z46:=Tryd.sizeOf134
 v46:=Tryd.zeroValue134
 t50:=Tryd.underlying75
 a50:=Tryd.isAgg75
 z50:=Tryd.sizeOf75
 v50:=Tryd.zeroValue75
 t53:=Tryd.underlying140
 a53:=Tryd.isAgg140
 z53:=Tryd.sizeOf140
 v53:=Tryd.zeroValue140
 t55:=Tryd.underlying142
 a55:=Tryd.isAgg142
 z55:=Tryd.sizeOf142
 v55:=Tryd.zeroValue142
 t66:=Tryd.underlying144
 a66:=Tryd.isAgg144
 z66:=Tryd.sizeOf144
 v66:=Tryd.zeroValue144
 t70:=Tryd.underlying148
 a70:=Tryd.isAgg148
 z70:=Tryd.sizeOf148
 v70:=Tryd.zeroValue148
 t76:=Tryd.underlying150
 a76:=Tryd.isAgg150
 z76:=Tryd.sizeOf150
 v76:=Tryd.zeroValue150
 t77:=Tryd.underlying151
 a77:=Tryd.isAgg151
 z77:=Tryd.sizeOf151
 v77:=Tryd.zeroValue151 }
open Go.RowKit Go.Lib Go.Sort in
theorem Tryd.sortQ_none {α:Type} [Inhabited α] (p:Option Addr) (cap:Nat) (fv:Value) (w:World) :
  Calls Tryd.prog 42 #[.slice p 0 cap,fv] w fun e w'=>e=.returned (.tuple #[])∧w'=w:=AnyF.slices_SortFunc_none Tryd.laysSlF06_f42 p cap fv w
open Go.RowKit Go.Lib Go.Sort in
theorem Tryd.sortQ_total {α:Type} [Inhabited α] (k:Nat) (aE:∀ w,(isAgg (Tryd.laysSlF06_f42_ren.t 24)).run Tryd.prog w=.ok true w) (zE:∀ w,(Go.sizeOf (Tryd.laysSlF06_f42_ren.t 24)).run Tryd.prog w=.ok k w) (enc:α→List Value) (hk:∀ x,(enc x).length=k) (h1:∀ x,∀ v∈enc x,v.oneCell'=true) (cf:α→α→Int) (hO:SWO (ltOf cf)) (g:Nat) (cb:Array Value) (blk off cap:Nat) (d:Array α) (w:World) (eg:∀ args w,(callFunc g args).run Tryd.prog w=.ok (.enter g args) w) (hcmp:CmpLays Tryd.prog g cb enc k cf blk off d.size w) (hH:HoldsK enc k w blk off d) (hblk:blk<w.heap.size) (hsz:d.size<4611686018427387904) (hT:∀ x y,(ltOf cf) x y=false→(ltOf cf) y x=false→x=y) :
  Calls Tryd.prog 42 #[.slice (some ⟨blk,off,none⟩) d.size cap,.func (.func g) #[] cb] w fun e w' =>
   e=.returned (.tuple #[])∧∃ n os,w'=sortWorldK enc k w blk off n (d.toList.mergeSort fun x y=>!(ltOf cf) y x).toArray os:=AnyQ.slices_SortFunc_total Tryd.laysSlF06_f42 k aE zE enc hk h1 cf hO g cb blk off cap d w eg hcmp hH hblk hsz hT
end Go.Proofs
namespace Go.Proofs.YtcnfhnndppollaaDoor
open Go Go.RowKit Go.Sort Go.Lib
theorem cb_swo {α:Type} (f:α→List UInt8):SWO (ltOf fun x y=>compareBytes (f x) (f y)) where
 irrefl:=fun x=>by simp only[ltOf,decide_eq_false_iff_not,Cal.cb_lt];exact List.lt_irrefl _
 trans:=fun x y z h1 h2=>by simp only[ltOf,decide_eq_true_eq,Cal.cb_lt] at *;exact List.lt_trans h1 h2
 ntrans:=fun x y z h1 h2=>by
  simp only[ltOf,decide_eq_false_iff_not,Cal.cb_lt] at *
  exact List.not_lt.2 (List.le_trans (List.not_lt.1 h2) (List.not_lt.1 h1))
def lotCf (a b:Lot):Int:=compareBytes a.remain.data.toList b.remain.data.toList
theorem cmpLot_any (a b:Lot) (w:World):Calls Tryd.prog 43 #[.agg #[.string a.remain,.int .i64 a.state,.string a.site,.int .i64 a.level,.int .i64 a.cont,.int .i64 a.since],.agg #[.string b.remain,.int .i64 b.state,.string b.site,.int .i64 b.level,.int .i64 b.cont,.int .i64 b.since]] w fun e w'=>e=.returned (.int .i64 (lotCf a b))∧w'=(w.alloc (.cells #[.string a.remain,.int .i64 a.state,.string a.site,.int .i64 a.level,.int .i64 a.cont,.int .i64 a.since] 38)).alloc (.cells #[.string b.remain,.int .i64 b.state,.string b.site,.int .i64 b.level,.int .i64 b.cont,.int .i64 b.since] 38):=by
 have h:=fun w=>Tryd.strings_Compare a.remain b.remain w
 go_enter Tryd.func43,Tryd.ntmps43
 go_wp2_with (go_at_call 44;refine (h _).mono ?_;rintro e w' ⟨rfl,rfl⟩)
 go_ret
 exact⟨rfl,rfl⟩
theorem flatK_list {α:Type} [Inhabited α] (enc:α→List Value) (k:Nat) (hk0:0<k) (hk:∀ x,(enc x).length=k) (d:Array α):(flatK enc k d).toList=(d.toList.map enc).flatten:=by
 have hwid:∀ r∈d.toList.map enc,r.length=k:=fun r hr=>by obtain⟨x,_,rfl⟩:=List.mem_map.1 hr;exact hk x
 have hlen:(d.toList.map enc).flatten.length=d.size*k:=by rw[flat_len hwid];simp
 apply List.ext_getElem
 ·rw[hlen,Array.length_toList,size_flatK]
 intro t h1 h2
 rw[hlen] at h2
 have hd:t / k<d.size:=by
  rw[Nat.div_lt_iff_lt_mul hk0];exact h2
 have hm:t % k<k:=Nat.mod_lt _ hk0
 have e1:(d.toList.map enc)[t / k]?=some (enc d[t / k]):=by simp[hd]
 have e2:(enc d[t / k])[t % k]?=some ((enc d[t / k])[t % k]'(by rw[hk];exact hm)):=List.getElem?_eq_getElem _
 have e3:=flat_get hwid e1 e2
 rw[Nat.div_add_mod' t k,List.getElem?_eq_getElem (by rw[hlen];exact h2)] at e3
 have e4:=get_flatK enc k d t (by exact h2)
 rw[getElem!_pos (flatK enc k d) t (by rw[size_flatK];exact h2),getElem!_pos d (t / k) hd,getElem!_pos (enc d[t / k]) (t % k) (by rw[hk];exact hm)] at e4
 rw[Array.getElem_toList,e4]
 exact (Option.some.inj e3).symm
theorem putId_take {cur:Array Value} {ys:List Value} (h:ys.length≤cur.size):(putCells (id:Value→Value) 0 ys.toArray cur).toList.take ys.length=ys∧(putCells (id:Value→Value) 0 ys.toArray cur).size=cur.size:=by
 refine⟨?_,by simp[putCells]⟩
 apply List.ext_getElem
 ·simp[putCells];omega
 intro i h1 h2
 simp[putCells,h2]
theorem OwnL.putRows {w:World} {B g c n:Nat} {E:TypeId} {m:Nat} {rows rows2:List (List Value)} (h:OwnL w B E m (.slice (some ⟨g,0,none⟩) n c) rows) (hl:rows2.length=rows.length) (hw:∀ r∈rows2,r.length=m) (h1:∀ r∈rows2,∀ u∈r,u.oneCell'=true) :
  OwnL (putRow (id:Value→Value) w g 0 rows2.flatten.toArray) B E m (.slice (some ⟨g,0,none⟩) n c) rows2∧w.grownBy (putRow (id:Value→Value) w g 0 rows2.flatten.toArray) (some g):=by
 have hlen2:rows2.flatten.length=rows2.length*m:=flat_len hw
 rcases h.own.2 with ⟨h0,_⟩ | ⟨g',cap,cur,hv,hb,hg,h2,h3,h4,h5⟩
 ·cases h0
 simp only[Value.slice.injEq,Option.some.injEq,Addr.mk.injEq,and_true] at hv
 obtain⟨rfl,rfl,rfl⟩:=hv
 have hsz:rows2.flatten.length≤cur.size:=by
  rw[hlen2,hl,h4];exact Nat.mul_le_mul_right _ h2
 obtain⟨t1,t2⟩:=putId_take hsz
 have hh:(putRow (id:Value→Value) w g 0 rows2.flatten.toArray).heap[g]?=some (.cells (putCells (id:Value→Value) 0 rows2.flatten.toArray cur) E (0,0)):=by simp[putRow,mapBlock,Array.getElem?_modify,hg,onCells]
 refine⟨⟨⟨by rw[hl,hlen2,hl],.inr ⟨g,c,_,by rw[hl],hb,hh,by rw[hl];exact h2,h3,by rw[t2,h4],by rw[←hlen2];exact t1⟩⟩,hw,h1⟩,rfl,rfl,rfl,by simp[putRow,mapBlock],fun k _ hk=>?_⟩
 have hne:k≠g:=fun e=>hk (by rw[e])
 simp[putRow,mapBlock,Array.getElem?_modify,Ne.symm hne]
def SrtP (w:World) (B:Nat) (v:Value) (L:List Lot) (e:Ending) (w':World):Prop:=e=.returned (.tuple #[])∧(∃ ts:List Lot,ts.Perm L∧ts.Pairwise (fun a b=>¬b.remain.data.toList<a.remain.data.toList)∧OwnL w' B 38 6 v (ts.map Lot.cells))∧w.grownBy w' v.ownBlock
theorem cmpLot_grow (a b:Lot) (w:World):Calls Tryd.prog 43 #[.agg #[.string a.remain,.int .i64 a.state,.string a.site,.int .i64 a.level,.int .i64 a.cont,.int .i64 a.since],.agg #[.string b.remain,.int .i64 b.state,.string b.site,.int .i64 b.level,.int .i64 b.cont,.int .i64 b.since]] w fun e w'=>e=.returned (.int .i64 (lotCf a b))∧∃ q os,w'=grow (w.drewN q) os:=by
 refine (cmpLot_any a b w).mono ?_
 rintro e w' ⟨rfl,rfl⟩
 refine⟨rfl,0,#[.cells #[.string a.remain,.int .i64 a.state,.string a.site,.int .i64 a.level,.int .i64 a.cont,.int .i64 a.since] 38,.cells #[.string b.remain,.int .i64 b.state,.string b.site,.int .i64 b.level,.int .i64 b.cont,.int .i64 b.since] 38],?_⟩
 rw[alloc_eq_grow,alloc_eq_grow,grow_grow]
 rfl
theorem ba_ext {a b:ByteArray} (h:a.data.toList=b.data.toList):a=b:=ByteArray.ext (Array.toList_inj.1 h)
theorem SortLots_own (w:World) (B:Nat) (v:Value) (L:List Lot) (h:OwnL w B 38 6 v (L.map Lot.cells)) (hs:L.length≤1000000) (hd:∀ x∈L,∀ y∈L,x.remain=y.remain→x=y) :
  Calls Tryd.prog 42 #[v,.func (.func 43) #[] #[]] w (SrtP w B v L):=by
 obtain⟨A,c,rfl,hr⟩:=OwnL.form h
 by_cases hne:L=[]
 ·subst hne
  refine (Tryd.sortQ_none (α:=Nat) A c _ w).mono fun e w' ⟨he,hw⟩=>?_
  subst hw
  exact⟨he,⟨[],List.Perm.refl _,List.Pairwise.nil,h⟩,World.grownBy.refl _ _⟩
 rcases h.own.2 with ⟨_,h0⟩ | ⟨g,cap,cur,hv,hb,hg,h1,h2,h3,h4⟩
 ·rw[List.length_map] at h0
  exact absurd (List.eq_nil_of_length_eq_zero h0) hne
 simp only[Value.slice.injEq,true_and] at hv
 obtain⟨rfl,rfl⟩:=hv
 haveI:Inhabited {t:Lot // t∈L}:=⟨⟨L.head hne,List.head_mem hne⟩⟩
 have hgw:g<w.heap.size:=(Array.getElem?_eq_some_iff.1 hg).1
 let enc:{t:Lot // t∈L}→List Value:=fun x=>x.1.cells
 let cf:{t:Lot // t∈L}→{t:Lot // t∈L}→Int:=fun x y=>compareBytes x.1.remain.data.toList y.1.remain.data.toList
 have hat:L.attach.map enc=L.map Lot.cells:=List.attach_map_val ..
 have hfl:=flatK_list enc 6 (by decide) (fun _=>rfl) L.attach.toArray
 have hfl:(flatK enc 6 L.attach.toArray).toList=(L.map Lot.cells).flatten:=by rw[hfl];show (L.attach.map enc).flatten=_;rw[hat]
 have hsz:L.attach.toArray.size=L.length:=by simp
 have hH:HoldsK enc 6 w g 0 L.attach.toArray:=fun j hj=>by
  rw[size_flatK] at hj
  have hj':j<L.length*6:=by rw[←hsz];exact hj
  have e1:(flatK enc 6 L.attach.toArray)[j]?=cur[j]?:=by
   have:=congrArg (·[j]?) h4
   simp only[List.getElem?_take] at this
   rw[if_pos (by rw[List.length_map];exact hj'),Array.getElem?_toList] at this
   rw[←Array.getElem?_toList,hfl,this]
  constructor
  ·rw[cell_of_row w g (0+j) cur _ (0,0) hg,Nat.zero_add,←e1,getElem!_pos (flatK enc 6 L.attach.toArray) j (by rw[size_flatK];exact hj)]
   simp
  exact h.own.frozenAt (0+j)
 have hcmp:CmpLays Tryd.prog 43 #[] enc 6 cf g 0 L.attach.toArray.size w:=fun m os dk _ x y=>cmpLot_grow x.1 y.1 _
 have hO:SWO (ltOf cf):=cb_swo (fun x:{t:Lot // t∈L}=>x.1.remain.data.toList)
 have hT:∀ x y,(ltOf cf) x y=false→(ltOf cf) y x=false→x=y:=fun x y h1 h2=>by
  simp only[ltOf,decide_eq_false_iff_not] at h1 h2
  exact Subtype.ext (hd _ x.2 _ y.2 (ba_ext (Cal.cb_total h1 h2)))
 have hcon:=Tryd.sortQ_total 6 (fun w=>by kernel_rfl) (fun w=>by kernel_rfl) enc (fun _=>rfl) (fun x v hv=>lot_one [x.1] x.1.cells (by simp) v hv) cf hO 43 #[] g 0 c L.attach.toArray w (enters_of Tryd.func43 (by kernel_rfl) rfl) hcmp hH hgw (by rw[hsz];omega) hT
 rw[show L.attach.toArray.size=(L.map Lot.cells).length by simp] at hcon
 refine hcon.mono fun e w' ⟨he,m,os,hw⟩=>?_
 subst hw
 obtain⟨S,hS⟩:∃ S,S=L.attach.toArray.toList.mergeSort fun x y=>!(ltOf cf) y x:=⟨_,rfl⟩
 rw[←hS]
 have hperm:(S.map Subtype.val).Perm L:=by
  have h5:=(List.mergeSort_perm L.attach.toArray.toList (fun x y=>!(ltOf cf) y x)).map Subtype.val
  rw[←hS] at h5
  simpa using h5
 have hpw:(S.map Subtype.val).Pairwise (fun a b:Lot=>¬b.remain.data.toList<a.remain.data.toList):=by
  rw[List.pairwise_map]
  have h5:=List.pairwise_mergeSort (le:=fun x y=>!(ltOf cf) y x) (fun a b c h1 h2=>by
   simp only[Bool.not_eq_true'] at *
   exact hO.ntrans _ _ _ h2 h1) (fun a b=>by
   rw[Bool.or_eq_true,Bool.not_eq_true',Bool.not_eq_true']
   cases h6:ltOf cf b a
   ·exact .inl rfl
   refine .inr ?_
   cases h7:ltOf cf a b
   ·rfl
   have h8:=hO.trans _ _ _ h6 h7
   rw[hO.irrefl] at h8
   cases h8) L.attach.toArray.toList
  rw[←hS] at h5
  refine h5.imp fun {a b} h6=>?_
  simp only[ltOf,Bool.not_eq_true',decide_eq_false_iff_not] at h6
  rw[←Cal.cb_lt]
  exact h6
 have hA:OwnL (Sort.ahead w m) B 38 6 (.slice (some ⟨g,0,none⟩) (L.map Lot.cells).length c) (L.map Lot.cells):=OwnL.below h ⟨rfl,rfl,rfl,Nat.le_refl _,fun _ _=>rfl⟩
 obtain⟨p1,p2⟩:=hA.putRows (rows2:=(S.map Subtype.val).map Lot.cells) (by rw[List.length_map,hperm.length_eq,List.length_map]) (lot_wid _) (lot_one _)
 have hW:sortWorldK enc 6 w g 0 m S.toArray os=grow (putRow (id:Value→Value) (Sort.ahead w m) g 0 ((S.map Subtype.val).map Lot.cells).flatten.toArray) os:=by
  show grow (putRow id (Sort.ahead w m) g 0 (flatK enc 6 _)) os=_
  have h5:=flatK_list enc 6 (by decide) (fun _=>rfl) S.toArray
  rw[show flatK enc 6 S.toArray=((S.map Subtype.val).map Lot.cells).flatten.toArray from by rw[←Array.toList_inj,h5,List.map_map];rfl]
 rw[hW]
 have p3:=OwnL.below p1 (grow_below _ os)
 exact⟨he,⟨_,hperm,hpw,p3⟩,⟨p2.os,p2.tape,p2.output,Nat.le_trans p2.size (grow_below _ os).size,fun k hk hne=>((grow_below _ os).block k (Nat.lt_of_lt_of_le hk p2.size)).trans (p2.block k hk hne)⟩⟩
end Go.Proofs.YtcnfhnndppollaaDoor
namespace Go.Proofs.YtcnfhnndppollaaDoor
open Go Go.RowKit
theorem endS_get (l:List Sty) (n:ByteArray) (d:Int) (i:Nat):(Cal.endS l n d)[i]?=if Cal.lastIx l n 0=some i then (l[i]?).map (fun s=>⟨s.lot,d⟩) else l[i]?:=by
 unfold Cal.endS
 cases h:Cal.lastIx l n 0 with
 | none=>simp
 | some j =>
  show (l.modify j _)[i]?=_
  rw[List.getElem?_modify]
  by_cases e:j=i
  ·subst e;simp
  have:¬(some j=some i):=fun h=>e (by cases h;rfl)
  simp[e]
def Solo (l:List Sty):Prop:=∀ (i:Nat) s,l[i]?=some s→s.til<0→Cal.lastIx l s.lot.remain 0=some i
theorem lastIx_endS (l:List Sty) (n m:ByteArray) (d:Int):Cal.lastIx (Cal.endS l n d) m 0=Cal.lastIx l m 0 :=
 Cal.lastIx_names m 0 (by
  have h:=congrArg (List.map Lot.remain) (endS_lots l n d)
  simpa [List.map_map,Function.comp_def] using h)
theorem Solo.add {l:List Sty} (h:Solo l) {t:Lot} {n:ByteArray} {d:Int} (ht:t.remain=n) (d0:0≤d):Solo (Cal.endS l n d ++ [⟨t,-1⟩]):=by
 intro i s hs hn
 rw[Cal.lastIx_snoc,lastIx_endS]
 by_cases hi:i<l.length
 ·rw[List.getElem?_append_left (by rw[endS_len];exact hi),endS_get] at hs
  by_cases hl:Cal.lastIx l n 0=some i
  ·rw[if_pos hl] at hs
   obtain⟨q,_,rfl⟩:=Option.map_eq_some_iff.1 hs
   exact absurd hn (by show ¬d<0;omega)
  rw[if_neg hl] at hs
  have h1:=h i s hs hn
  rw[if_neg,h1]
  intro e
  have e:n=s.lot.remain:=ht.symm.trans e
  rw[←e] at h1
  exact hl h1
 have hlen:(Cal.endS l n d).length≤i:=by rw[endS_len];omega
 rw[List.getElem?_append_right hlen] at hs
 have h0:i-(Cal.endS l n d).length=0:=by
  have:=(List.getElem?_eq_some_iff.1 hs).1
  simp only[List.length_singleton] at this
  omega
 rw[h0] at hs
 simp only[List.getElem?_cons_zero,Option.some.injEq] at hs
 subst hs
 rw[if_pos rfl]
 have:=endS_len l n d
 congr 1
 omega
theorem bkErr_name {y:Yd} {b:Bk} {e:Ev} (h:(Cal.bkErr y b e).2=0):(Cal.bkErr y b e).1.remain=e.remain∧Cal.eventE e=0:=by
 unfold Cal.bkErr at h ⊢
 split at h
 ·rename_i h0;exact absurd h h0
 rename_i h0
 have h0:Cal.eventE e=0:=Decidable.byContradiction h0
 refine⟨?_,h0⟩
 rw[if_neg (by rw[h0];simp)]
 split at h
 ·cases h
 rename_i h1
 rw[if_neg h1]
 have hput:(Cal.bkErr.putS y b e).2=0→(Cal.bkErr.putS y b e).1.remain=e.remain:=fun hp=>by
  unfold Cal.bkErr.putS at hp ⊢
  split at hp
  ·rename_i hne;exact absurd hp hne
  rename_i hne;rw[if_neg hne]
 split at h
 ·rename_i hk
  rw[if_pos hk]
  cases ho:Cal.lotOf b.stays e.remain with
  | none =>
   rw[ho] at h
   dsimp only at h ⊢
   split at h
   ·cases h
   rename_i h2;rw[if_neg h2];exact hput h
  | some old =>
   rw[ho] at h
   dsimp only at h ⊢
   split at h
   ·cases h
   rename_i h2
   rw[if_neg h2]
   split at h
   ·cases h
   rename_i h3;rw[if_neg h3];exact hput h
 rename_i hk
 rw[if_neg hk]
 cases ho:Cal.lotOf b.stays e.remain with
 | none=>rw[ho] at h;cases h
 | some old =>
  rw[ho] at h
  dsimp only at h ⊢
  repeat' split at h
  all_goals first
   |(cases h;done)
   |(repeat' split <;> first | rfl | contradiction)
theorem bkAdd_solo {y:Yd} {b:Bk} {e:Ev} (h:Solo b.stays) (hz:(Cal.bkAdd y b e).2=0):Solo (Cal.bkAdd y b e).1.stays:=by
 unfold Cal.bkAdd at hz ⊢
 split at hz
 ·rename_i h1;exact absurd hz h1
 rename_i h1
 rw[if_neg h1]
 obtain⟨k1,k2⟩:=bkErr_name (Decidable.byContradiction h1)
 exact h.add k1 (event_all k2).1.1
theorem bkReads_solo {y:Yd}:∀ {l:List Ev} {b:Bk},Solo b.stays→(Cal.bkReads y b l).2=0→Solo (Cal.bkReads y b l).1.stays
 | [],_,h,_=>h
 | e :: r,b,h,hz=>by
  unfold Cal.bkReads at hz ⊢
  split at hz
  ·rename_i h1;exact absurd hz h1
  rename_i h1
  rw[if_neg h1]
  exact bkReads_solo (bkAdd_solo h (Decidable.byContradiction h1)) hz
theorem bkRead_solo {y:Yd} {l:List Ev} {bk:Bk} (h:Cal.bkRead y l=(bk,0)):Solo bk.stays:=by
 obtain⟨_,_,h2⟩:=bkRead_ok h
 have h3:=bkReads_solo (y:=y) (l:=l) (b:=Cal.bk0) (fun i s hs=>by cases hs) (by rw[h2])
 rw[h2] at h3
 exact h3
end Go.Proofs.YtcnfhnndppollaaDoor
namespace Go.Proofs.YtcnfhnndppollaaDoor
open Go Go.RowKit
theorem nowL_inj {l:List Sty} (h:Solo l):∀ x∈nowL l,∀ y∈nowL l,x.remain=y.remain→x=y:=by
 intro x hx y hy he
 unfold nowL at hx hy
 obtain⟨s,hs,rfl⟩:=List.mem_map.1 hx
 obtain⟨t,ht,rfl⟩:=List.mem_map.1 hy
 simp only[List.mem_filter,decide_eq_true_eq] at hs ht
 obtain⟨i,hi⟩:=List.mem_iff_getElem?.1 hs.1
 obtain⟨j,hj⟩:=List.mem_iff_getElem?.1 ht.1
 have h1:=h i s hi hs.2
 have h2:=h j t hj ht.2
 rw[he,h2] at h1
 cases h1
 rw[hj] at hi
 cases hi
 rfl
def AllT (w w':World) (v:Value) (L:List Lot):Prop:=∃ ts:List Lot,ts.Perm L∧ts.Pairwise (fun a b=>¬b.remain.data.toList<a.remain.data.toList)∧OwnL w' (w.heap.size+1) 38 6 v (ts.map Lot.cells)
def AllP (w:World) (L:List Lot) (e:Ending) (w':World):Prop:=∃ v,e=.returned v∧AllT w w' v L∧Below w.heap.size w w'
theorem gAll_any (B M:Nat) (S R:Option Addr) (c d:Nat) (y:Yd) (A:Option Addr) (cap:Nat) (bk:Bk) (w:World) (hB:BkR w B M S R c d y A cap bk) (hs:Solo bk.stays) :
  Calls Tryd.prog 26 #[.pointer (some ⟨B,0,none⟩)] w (AllP w (nowL bk.stays)):=by
 have hcol:=Lib.hid (Collect_any B M S R c d y A cap bk w hB)
 have hlen:=hB.ok.len
 have hinj:=Lib.hid (nowL_inj hs)
 have hn:(nowL bk.stays).length≤1000000:=by
  unfold nowL
  rw[List.length_map]
  exact Nat.le_trans (List.length_filter_le _ _) (by omega)
 have hmf:∀ (fn:Fn) (first cap:Array Value) (w:World),(Instr.makeFunc fn first cap).run Tryd.prog w=.ok (.func fn first cap) w:=fun _ _ _ _=>rfl
 clear hB hs
 go_enter Tryd.func26,Tryd.ntmps26
 go_wp2_with (first
  |(go_at_call 40;refine hcol.out.mono ?_;rintro e9 wn ⟨v,rfl,hown,hb⟩;have hown:=Lib.hid hown;have hb:=Lib.hid hb)
  |(go_at_call 42;refine (SortLots_own wn (w.heap.size+1) v (nowL bk.stays) hown.out hn hinj.out).mono ?_;rintro e9 wm ⟨rfl,ht,hg⟩;have ht:=Lib.hid ht;have hg:=Lib.hid hg))
 go_ret
 exact⟨v,rfl,ht.out,hb.out.trans (grown_below hg.out (fun g e=>by have:=(hown.out.lt g e).1;omega) hb.out.size)⟩
def OnT (w:World) (L:List Lot) (e:Ending) (w':World):Prop:=∃ v ts,e=.returned (.tuple #[v,.int .i64 0])∧List.Perm ts L∧ts.Pairwise (fun a b:Lot=>¬b.remain.data.toList<a.remain.data.toList)∧OwnL w' (w.heap.size+1) 38 6 v (ts.map Lot.cells)∧Below w.heap.size w w'
theorem gOn_any (S R:Option Addr) (c d:Nat) (y:Yd) (E:Option Addr) (ec:Nat) (l:List Ev) (day:Int) (w:World) (hY:YdIn w S R y) (hcap:y.sites.length≤c) (hE:EvIn w E l) (bk:Bk) (hr:Cal.bkRead y l=(bk,0)) (hd:bk.day≤day) (d0:0≤day) (d1:day≤200000) :
  Calls Tryd.prog 12 #[.agg #[.slice S y.sites.length c,.slice R y.rests.length d,.int .i64 y.c0,.int .i64 y.c1,.int .i64 y.c2],.slice E l.length ec,.int .i64 day] w (OnT w (nowL bk.stays)):=by
 have hb0:=below_alloc w (.cells #[.slice S y.sites.length c,.slice R y.rests.length d,.int .i64 y.c0,.int .i64 y.c1,.int .i64 y.c2] 26)
 have hy:=Lib.hid (BoxAt.new w #[.slice S y.sites.length c,.slice R y.rests.length d,.int .i64 y.c0,.int .i64 y.c1,.int .i64 y.c2] 26)
 have hon:=Lib.hid (onDay_any S R c d y E ec l day _ (hY.below hb0) hcap (hE.below hb0) bk hr hd d0 d1)
 have hsolo:=Lib.hid (bkRead_solo hr)
 have hb0:=Lib.hid hb0
 clear hY hE hr hd d0 d1
 obtain⟨y0,y1,y2,y3⟩:=hy.out.c4;have y4:=hy.out.c 4 _ rfl
 go_enter Tryd.func12,Tryd.ntmps12
 go_wp2_with (first
  |(go_at_call 20;clear y0 y1 y2 y3 y4;refine hon.out.mono ?_;rintro e9 wn ⟨Bs,B,M,v,rfl,hbk⟩;obtain⟨A,cap,_,hbr⟩:=hbk.read;have hb1:=Lib.hid (below_step hb0.out hbk.bel);replace hbr:=Lib.hid hbr;clear hbk)
  |(go_at_call 26;refine (gAll_any B M S R c d y A cap bk wn hbr.out hsolo.out).mono ?_;rintro e9 wm ⟨v2,rfl,hat,hbm⟩;have hat:=Lib.hid hat;have hbm:=Lib.hid hbm))
 go_ret2
 obtain⟨ts,h1,h2,h3⟩:=hat.out
 exact⟨v2,ts,rfl,h1,h2,h3.less (by have:=hb1.out.size;omega),below_step hb1.out hbm.out⟩
end Go.Proofs.YtcnfhnndppollaaDoor
namespace Go.Proofs.YtcnfhnndppollaaDoor
open Go Go.RowKit
def SiteXP (w:World) (l:List Site) (n:ByteArray) (e:Ending) (w':World):Prop:=∃ i:Int,e=.returned (.int .i64 i)∧((i=-1∧Cal.siteOf l n=none)∨∃ (k:Nat) (s:Site),i=(k:Int)∧l[k]?=some s∧Cal.siteOf l n=some s∧s.name=n)∧Below w.heap.size w w'
theorem SiteR_any (S R:Option Addr) (c d:Nat) (y:Yd) (n:ByteArray) (w:World) (hY:YdIn w S R y) :
  Calls Tryd.prog 72 #[.agg #[.slice S y.sites.length c,.slice R y.rests.length d,.int .i64 y.c0,.int .i64 y.c1,.int .i64 y.c2],.string n] w (SiteXP w y.sites n):=by
 have hll:=hY.slen
 have hb0:=below_alloc w (.cells #[.slice S y.sites.length c,.slice R y.rests.length d,.int .i64 y.c0,.int .i64 y.c1,.int .i64 y.c2] 26)
 have hS:=Lib.hid (hY.sites.below hb0)
 have y0:=(BoxAt.new w #[.slice S y.sites.length c,.slice R y.rests.length d,.int .i64 y.c0,.int .i64 y.c1,.int .i64 y.c2] 26).c 0 _ rfl
 have hb0:=Lib.hid hb0
 have h0:Hid (Cal.siteOf y.sites n=Cal.siteOf (y.sites.drop 0) n):=rfl
 clear hY
 go_enter Tryd.func72,Tryd.ntmps72
 go_wp2_with fail
 go_loopw [5] (fun i wr=>∃ k:Nat,k≤y.sites.length∧i=.int .i64 k∧wr=w.alloc (.cells #[.slice S y.sites.length c,.slice R y.rests.length d,.int .i64 y.c0,.int .i64 y.c1,.int .i64 y.c2] 26)∧Hid (Cal.siteOf y.sites n=Cal.siteOf (y.sites.drop k) n)) (fun i _=>y.sites.length-(intOf i).toNat)
 case atStart=>exact⟨0,Nat.zero_le _,rfl,rfl,h0⟩
 case round =>
  clear h0
  obtain⟨k,hk,rfl,rfl,hE⟩:=hrel
  by_cases hlt:k<y.sites.length
  ·have hd:=Cal.siteOf_drop hlt n
   have hk':y.sites[k]?=some y.sites[k]:=List.getElem?_eq_getElem hlt
   have hkz:=Lib.hid hk'
   have hkk:(k:Int)<(y.sites.length:Int):=by omega
   obtain⟨b,o,hS2,hbl,hc⟩:=site_at hS.out hk'
   subst hS2
   have c0:=hc 0 _ rfl
   rw[Nat.add_zero] at c0
   clear hc hk'
   generalize y.sites[k]=s at *
   by_cases he:s.name=n
   ·have hq:=name_yes he
    rw[if_pos he] at hd
    have hfin:Hid (Cal.siteOf y.sites n=some s):=hE.out.trans hd
    have hez:=Lib.hid he
    clear hd hE he
    go_wp2_with fail
    go_ret
    exact⟨k,rfl,.inr ⟨k,s,rfl,hkz.out,hfin.out,hez.out⟩,hb0.out⟩
   have hq:=name_no he
   rw[if_neg he] at hd
   have hE2:Hid (Cal.siteOf y.sites n=Cal.siteOf (y.sites.drop (k+1)) n):=hE.out.trans hd
   clear hd hE he hkz
   go_wp2_with fail
   go_roundw
   case rel=>exact⟨k+1,by omega,by go_num,trivial,hE2⟩
   case measure=>simp[intOf];omega
  obtain rfl:k=y.sites.length:=by omega
  have hfin:Hid (Cal.siteOf y.sites n=none):=by show _=_;rw[hE.out,List.drop_length];rfl
  clear hE
  go_wp2_with fail
  go_ret
  exact⟨-1,rfl,.inl ⟨rfl,hfin.out⟩,hb0.out⟩
theorem lotRow_at {w:World} {A:Option Addr} {l:List Lot} (h:RowsAt w A 6 (l.map Lot.cells)) {k:Nat} {t:Lot} (hk:l[k]?=some t) :
  ∃ b o,A=some ⟨b,o,none⟩∧b<w.heap.size∧w.rangeAt b (o+k*6) t.cells:=by
 obtain⟨b,o,hA,hb,hc⟩:=h k t.cells (by rw[List.getElem?_map,hk];rfl)
 exact⟨b,o,hA,hb,fun j v hv=>by have:=hc j v hv;rwa [←Nat.add_assoc] at this⟩
def FirstL (l:List Lot) (n:ByteArray) (k:Nat) (t:Lot):Prop:=l[k]?=some t∧t.remain=n∧∀ (j:Nat) u,j<k→l[j]?=some u→u.remain≠n
theorem FirstL.same {l:List Lot} {n:ByteArray} {k j:Nat} {t u:Lot} (h:FirstL l n k t) (g:FirstL l n j u):k=j∧t=u:=by
 have hkj:k=j:=by
  rcases Nat.lt_trichotomy k j with hl | hl | hl
  ·exact absurd h.2.1 (g.2.2 k t hl h.1)
  ·exact hl
  exact absurd g.2.1 (h.2.2 j u hl g.1)
 subst hkj
 exact⟨rfl,Option.some.inj (h.1.symm.trans g.1)⟩
def FindP (w:World) (l:List Lot) (n:ByteArray) (e:Ending) (w':World):Prop:=∃ i:Int,e=.returned (.int .i64 i)∧((i=-1∧∀ t∈l,t.remain≠n)∨∃ (k:Nat) (t:Lot),i=(k:Int)∧FirstL l n k t)∧w'=w
theorem findR_any (A:Option Addr) (c:Nat) (l:List Lot) (n:ByteArray) (w:World) (hL:RowsAt w A 6 (l.map Lot.cells)) (hl:l.length≤1000000) :
  Calls Tryd.prog 70 #[.slice A l.length c,.string n] w (FindP w l n):=by
 have hS:=Lib.hid hL
 have h0:Hid (∀ (j:Nat) t,j<0→l[j]?=some t→t.remain≠n):=fun j t h=>absurd h (Nat.not_lt_zero _)
 clear hL
 go_enter Tryd.func70,Tryd.ntmps70
 go_wp2_with fail
 go_loopw [5] (fun i wr=>∃ k:Nat,k≤l.length∧i=.int .i64 k∧wr=w∧Hid (∀ (j:Nat) t,j<k→l[j]?=some t→t.remain≠n)) (fun i _=>l.length-(intOf i).toNat)
 case atStart=>exact⟨0,Nat.zero_le _,rfl,rfl,h0⟩
 case round =>
  clear h0
  obtain⟨k,hk,rfl,rfl,hE⟩:=hrel
  by_cases hlt:k<l.length
  ·have hk':l[k]?=some l[k]:=List.getElem?_eq_getElem hlt
   have hkz:=Lib.hid hk'
   have hkk:(k:Int)<(l.length:Int):=by omega
   obtain⟨b,o,hS2,hbl,hc⟩:=lotRow_at hS.out hk'
   subst hS2
   have c0:=hc 0 _ rfl
   rw[Nat.add_zero] at c0
   clear hc hk'
   generalize l[k]=s at *
   by_cases he:s.remain=n
   ·have hq:=name_yes he
    have hez:=Lib.hid he
    clear he
    go_wp2_with fail
    go_ret
    exact⟨k,rfl,.inr ⟨k,s,rfl,hkz.out,hez.out,hE.out⟩,rfl⟩
   have hq:=name_no he
   have hE2:Hid (∀ (j:Nat) t,j<k+1→l[j]?=some t→t.remain≠n):=fun j t hj ht=>by
    rcases Nat.lt_succ_iff_lt_or_eq.1 hj with h | h
    ·exact hE.out j t h ht
    subst h;rw[hkz.out] at ht;cases ht;exact he
   clear hE he hkz
   go_wp2_with fail
   go_roundw
   case rel=>exact⟨k+1,by omega,by go_num,trivial,hE2⟩
   case measure=>simp[intOf];omega
  obtain rfl:k=l.length:=by omega
  go_wp2_with fail
  go_ret
  exact⟨-1,rfl,.inl ⟨rfl,fun t ht=>by obtain⟨j,hj⟩:=List.mem_iff_getElem?.1 ht;exact hE.out j t (List.getElem?_eq_some_iff.1 hj).1 hj⟩,rfl⟩
end Go.Proofs.YtcnfhnndppollaaDoor
namespace Go.Proofs.YtcnfhnndppollaaDoor
open Go Go.RowKit
def AnyB (w:World) (e:Ending) (w':World):Prop:=∃ b,e=.returned (.bool b)∧w'=w
theorem OccupiedR_any (A:Option Addr) (c:Nat) (l:List Lot) (n:ByteArray) (lv:Int) (w:World) (hL:RowsAt w A 6 (l.map Lot.cells)) (hl:l.length≤1000000) :
  Calls Tryd.prog 73 #[.slice A l.length c,.string n,.int .i64 lv] w (AnyB w):=by
 have hS:=Lib.hid hL
 clear hL
 go_enter Tryd.func73,Tryd.ntmps73
 go_wp2_with fail
 go_loopw [7] (fun i wr=>∃ k:Nat,k≤l.length∧i=.int .i64 k∧wr=w) (fun i _=>l.length-(intOf i).toNat)
 case atStart=>exact⟨0,Nat.zero_le _,rfl,rfl⟩
 case round =>
  obtain⟨k,hk,rfl,rfl⟩:=hrel
  by_cases hlt:k<l.length
  ·have hk':l[k]?=some l[k]:=List.getElem?_eq_getElem hlt
   have hkk:(k:Int)<(l.length:Int):=by omega
   obtain⟨b,o,hS2,hbl,hc⟩:=lotRow_at hS.out hk'
   subst hS2
   have c1:=hc 1 _ rfl
   have c2:=hc 2 _ rfl
   have c3:=hc 3 _ rfl
   clear hc hk'
   generalize l[k]=s at *
   by_cases q1:s.state=1
   ·have q1b:(s.state == 1)=true:=by simp[q1]
    clear q1
    by_cases q2:s.site=n
    ·have q2b:=name_yes q2
     clear q2
     by_cases q3:s.level=lv
     ·have q3b:(s.level == lv)=true:=by simp[q3]
      clear q3
      go_wp2_with fail
      go_ret
      exact⟨true,rfl,rfl⟩
     have q3b:(s.level == lv)=false:=by simp[q3]
     clear q3
     go_wp2_with fail
     go_roundw
     case rel=>exact⟨k+1,by omega,by go_num,trivial⟩
     case measure=>simp[intOf];omega
    have q2b:=name_no q2
    clear q2
    go_wp2_with fail
    go_roundw
    case rel=>exact⟨k+1,by omega,by go_num,trivial⟩
    case measure=>simp[intOf];omega
   have q1b:(s.state == 1)=false:=by simp[q1]
   clear q1
   go_wp2_with fail
   go_roundw
   case rel=>exact⟨k+1,by omega,by go_num,trivial⟩
   case measure=>simp[intOf];omega
  obtain rfl:k=l.length:=by omega
  go_wp2_with fail
  go_ret
  exact⟨false,rfl,rfl⟩
def AnyV (w:World) (e:Ending) (w':World):Prop:=∃ b,e=.returned (.bool b)∧Below w.heap.size w w'
theorem CoveredR_any (A:Option Addr) (c:Nat) (l:List Lot) (s:Site) (lv:Int) (w:World) (hL:RowsAt w A 6 (l.map Lot.cells)) (hl:l.length≤1000000) (l0:0≤lv) (l1:lv≤1000) (r1:s.room≤1000) :
  Calls Tryd.prog 74 #[.slice A l.length c,.agg #[.string s.name,.int .i64 s.kind,.int .i64 s.soil,.int .i64 s.depth,.int .i64 s.step,.int .i64 s.room],.int .i64 lv] w (AnyV w):=by
 have hb0:=below_alloc w (.cells #[.string s.name,.int .i64 s.kind,.int .i64 s.soil,.int .i64 s.depth,.int .i64 s.step,.int .i64 s.room] 53)
 have hO:=Lib.hid (fun j=>OccupiedR_any A c l s.name j _ (hL.below hb0) hl)
 have hs:=BoxAt.new w #[.string s.name,.int .i64 s.kind,.int .i64 s.soil,.int .i64 s.depth,.int .i64 s.step,.int .i64 s.room] 53
 obtain⟨s0,s1⟩:=hs.c2;have s5:=hs.c 5 _ rfl
 have hb0:=Lib.hid hb0
 clear hL hs
 go_enter Tryd.func74,Tryd.ntmps74
 go_wp2_with fail
 go_loopw [7] (fun i wr=>∃ j:Int,lv+1≤j∧j≤1001∧i=.int .i64 j∧wr=w.alloc (.cells #[.string s.name,.int .i64 s.kind,.int .i64 s.soil,.int .i64 s.depth,.int .i64 s.step,.int .i64 s.room] 53)) (fun i _=>(1001-intOf i).toNat)
 case atStart=>exact⟨lv+1,Int.le_refl _,by omega,by go_num,rfl⟩
 case round =>
  obtain⟨j,j0,j1,rfl,rfl⟩:=hrel
  by_cases hlt:j<s.room
  ·have hO2:=Lib.hid (hO.out j)
   by_cases q1:s.kind=0
   ·have q1b:(s.kind == 0)=true:=by simp[q1]
    clear q1
    go_wp2_with (go_at_call 73;refine hO2.out.mono ?_;rintro e9 wn ⟨b,rfl,rfl⟩;cases b)
    ·go_wp2_with fail
     go_roundw
     case rel=>exact⟨j+1,by omega,by omega,by go_num,trivial⟩
     case measure=>simp[intOf];omega
    go_wp2_with fail
    go_ret
    exact⟨true,rfl,hb0.out⟩
   have q1b:(s.kind == 0)=false:=by simp[q1]
   clear q1
   go_wp2_with fail
   go_roundw
   case rel=>exact⟨j+1,by omega,by omega,by go_num,trivial⟩
   case measure=>simp[intOf];omega
  go_wp2_with fail
  go_ret
  exact⟨false,rfl,hb0.out⟩
end Go.Proofs.YtcnfhnndppollaaDoor
