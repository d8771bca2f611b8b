/- What the statements rest on: definitions and walks, part 11. -/
import Derived.Test.YtcnfhnndppollaaDoorJ10
set_option maxRecDepth 100000
set_option maxHeartbeats 16000000
set_option linter.unusedSimpArgs false
set_option linter.unusedVariables false
namespace Go.Proofs.YtcnfhnndppollaaDoor
open Go Go.RowKit
structure LotOk (y:Yd) (t:Lot):Prop where
 num:(0≤t.level∧t.level≤11)∧(0≤t.since∧t.since≤200000)∧(0≤t.cont∧t.cont≤2)
 site:t.state=1→(Cal.siteOf y.sites t.site).isSome=true
structure LotsR (w:World) (A:Option Addr) (y:Yd) (l:List Lot):Prop where
 rows:RowsAt w A 6 (l.map Lot.cells)
 len:l.length≤1000000
 ok:∀ t∈l,LotOk y t
theorem LotsR.below {w w':World} {A:Option Addr} {y:Yd} {l:List Lot} (h:LotsR w A y l) (hb:Below w.heap.size w w'):LotsR w' A y l:=⟨h.rows.below hb,h.len,h.ok⟩
def TkR (w:World) (l:List Lot) (n:ByteArray) (e:Ending) (w':World):Prop:=∃ i:Int,e=.returned (.int .i64 i)∧(i=0→∃ k t,FirstL l n k t∧t.state=1)∧Below w.heap.size w w'
structure RfJ (w:World) (S R:Option Addr) (c d:Nat) (y:Yd) (e:Ev) (O:Nat) (t:Lot) (W:World):Prop where
 i:RfI w S R c d y e W
 t:BoxAt W O [.string t.remain,.int .i64 t.state,.string t.site,.int .i64 t.level,.int .i64 t.cont,.int .i64 t.since]
theorem RfJ.below {w:World} {S R:Option Addr} {c d:Nat} {y:Yd} {e:Ev} {O:Nat} {t:Lot} {W W':World} (h:RfJ w S R c d y e O t W) (hb:Below W.heap.size W W'):RfJ w S R c d y e O t W':=⟨h.i.below hb,h.t.below hb⟩
theorem site_cell {w:World} {S R:Option Addr} {y:Yd} (hY:YdIn w S R y) {n:ByteArray} {s:Site} (hs:Cal.siteOf y.sites n=some s) {i:Int} (hi:(i=-1∧Cal.siteOf y.sites n=none)∨∃ (k:Nat) (s':Site),i=(k:Int)∧y.sites[k]?=some s'∧Cal.siteOf y.sites n=some s'∧s'.name=n) :
  ∃ (k b o:Nat),i=(k:Int)∧(k:Int)<(y.sites.length:Int)∧S=some ⟨b,o,none⟩∧SiteC w b (o+k*6) s:=by
 rcases hi with ⟨_,h⟩ | ⟨k,s',rfl,hk,hs',_⟩
 ·rw[hs] at h;cases h
 rw[hs] at hs'
 cases hs'
 obtain⟨b,o,hS,hb,hc⟩:=site_at hY.sites hk
 exact⟨k,b,o,rfl,by have:=(List.getElem?_eq_some_iff.1 hk).1;omega,hS,hb,hc⟩
theorem takeErrR_any (S R:Option Addr) (c d:Nat) (y:Yd) (A:Option Addr) (ac:Nat) (l:List Lot) (e:Ev) (w:World) (hY:YdIn w S R y) (hok:YdR y) (hL:LotsR w A y l) (he:Cal.eventE e=0) (hk:¬(e.kind=0∨e.kind=2)) :
  Calls Tryd.prog 51 #[.agg #[.slice S y.sites.length c,.slice R y.rests.length d,.int .i64 y.c0,.int .i64 y.c1,.int .i64 y.c2],.slice A l.length ac,.agg #[.int .i64 e.day,.int .i64 e.kind,.string e.site,.int .i64 e.level,.string e.remain,.int .i64 e.cont,.bool e.order]] w (TkR w l e.remain):=by
 have hI:=Lib.hid (RfI.start w S R c d y e)
 have hl:=hL.len
 have hlev:=(event_all he).2.2.2
 have hF:=Lib.hid (fun w1 (h:Below w.heap.size w w1)=>findR_any A ac l e.remain w1 (hL.rows.below h) hl)
 have hLz:=Lib.hid (fun w' (h:Below w.heap.size w w')=>hL.rows.below h)
 have hYz:=Lib.hid (fun w' (h:Below w.heap.size w w')=>hY.below h)
 have hlo:=Lib.hid hL.ok
 have hokz:=Lib.hid hok
 clear hY hL hok he
 (obtain⟨y0,y1,y2,y3⟩:=hI.out.y.c4;have y4:=hI.out.y.c 4 _ rfl;obtain⟨e0,e1,e2,e3⟩:=hI.out.e.c4;have e4:=hI.out.e.c 4 _ rfl;have e5:=hI.out.e.c 5 _ rfl;have e6:=hI.out.e.c 6 _ rfl)
 go_enter Tryd.func51,Tryd.ntmps51
 go_upto_region 2 with (go_at_call 70;refine (hF.out _ hI.out.bel).mono ?_;rintro e9 wn ⟨i,rfl,hi,rfl⟩)
 clear hF
 generalize (w.alloc (.cells #[.slice S y.sites.length c,.slice R y.rests.length d,.int .i64 y.c0,.int .i64 y.c1,.int .i64 y.c2] 26)).alloc (.cells #[.int .i64 e.day,.int .i64 e.kind,.string e.site,.int .i64 e.level,.string e.remain,.int .i64 e.cont,.bool e.order] 29)=wn at *
 rcases hi with ⟨rfl,hno⟩ | ⟨k,t,rfl,hfl⟩
 ·clear hno
  go_wp2_with fail
  go_ret
  exact⟨6,rfl,(fun h=>by cases h),hI.out.bel⟩
 have hkl:=(List.getElem?_eq_some_iff.1 hfl.1).1
 have hkk:(k:Int)<(l.length:Int):=by omega
 have htk:=hlo.out t (List.mem_of_getElem? hfl.1)
 obtain⟨b,o,hS2,hbl,hc⟩:=lotRow_at (hLz.out _ hI.out.bel) hfl.1
 have hfz:=Lib.hid hfl
 subst hS2
 have c0:=hc 0 _ rfl
 have c1:=hc 1 _ rfl
 have c2:=hc 2 _ rfl
 have c3:=hc 3 _ rfl
 have c4:=hc 4 _ rfl
 have c5:=hc 5 _ rfl
 rw[Nat.add_zero] at c0
 clear hc hfl hkl
 go_upto_region 5 with fail
 clear y0 y1 y2 y3 y4 e0 e1 e2 e3 e4 e5 e6
 clear c0 c1 c2 c3 c4 c5 hbl
 have hJ:Hid (RfJ w S R c d y e wn.heap.size t (wn.alloc (.cells #[.string t.remain,.int .i64 t.state,.string t.site,.int .i64 t.level,.int .i64 t.cont,.int .i64 t.since] 38))):=⟨hI.out.below (below_alloc _ _),BoxAt.new wn #[.string t.remain,.int .i64 t.state,.string t.site,.int .i64 t.level,.int .i64 t.cont,.int .i64 t.since] 38⟩
 have hOl:w.heap.size+1<wn.heap.size:=hI.out.e.lt
 clear hI
 generalize wn.alloc (.cells #[.string t.remain,.int .i64 t.state,.string t.site,.int .i64 t.level,.int .i64 t.cont,.int .i64 t.since] 38)=wo at *
 generalize wn.heap.size=O at *
 (obtain⟨y0,y1,y2,y3⟩:=hJ.out.i.y.c4;have y4:=hJ.out.i.y.c 4 _ rfl;obtain⟨e0,e1⟩:=hJ.out.i.e.c2;have e3:=hJ.out.i.e.c 3 _ rfl;have e6:=hJ.out.i.e.c 6 _ rfl;have t1:=hJ.out.t.c 1 _ rfl;have t2:=hJ.out.t.c 2 _ rfl;have t3:=hJ.out.t.c 3 _ rfl;have t4:=hJ.out.t.c 4 _ rfl;have t5:=hJ.out.t.c 5 _ rfl)
 by_cases hst:t.state=1
 ·have q1:(t.state != 1)=false:=by simp[hst]
  have hfin:Hid (∃ k t,FirstL l e.remain k t∧t.state=1):=⟨k,t,hfz.out,hst⟩
  obtain⟨s,hs⟩:=Option.isSome_iff_exists.1 (htk.site hst)
  have hsm:=hokz.out.site s (List.mem_of_find?_eq_some hs)
  have hrm:=siteErr_room hsm
  have hov:=hokz.out.over s.soil t.cont
  have hnum:=htk.num
  clear hst hfz htk hsm
  go_upto_region 7 with fail
  clear y0 y1 y2 y3 y4 e0 e1 e3 e6 t1 t2 t3 t4 t5
  have hsR:=Lib.hid (fun w1 (h:Below w.heap.size w w1)=>SiteR_any S R c d y t.site w1 (hYz.out w1 h))
  have hcl:=Lib.hid (fun w1 (h:Below w.heap.size w w1) {i} hi=>site_cell (hYz.out w1 h) hs (i:=i) hi)
  clear hs
  have hrest:=Lib.hid (fun w1 (h:Below w.heap.size w w1)=>RestR_any S R c d y s t.cont w1 (hYz.out w1 h).rests (hYz.out w1 h).rlen)
  have hoc:=Lib.hid (fun w1 (h:Below w.heap.size w w1) (j:Int)=>OccupiedR_any _ ac l s.name j w1 (hLz.out w1 h) hl)
  have hcv:=Lib.hid (fun w1 (h:Below w.heap.size w w1)=>CoveredR_any _ ac l s t.level w1 (hLz.out w1 h) hl hnum.1.1 (by omega) hrm)
  clear hLz
  go_cut [9] from 24 to 31 (fun x9 wc=>∃ B9,x9=.pointer (some ⟨B9,0,none⟩)∧Hid (BoxAt wc B9 [.string s.name,.int .i64 s.kind,.int .i64 s.soil,.int .i64 s.depth,.int .i64 s.step,.int .i64 s.room])∧Hid (Below wo.heap.size wo wc))
  case first =>
   clear hrest hoc hcv
   have hOw:=hJ.out.t.lt
   have hws:=hJ.out.i.bel.size
   have hLb:Hid (∀ x∈[(w.heap.size,0,.slice S y.sites.length c),(w.heap.size,1,.slice R y.rests.length d),(w.heap.size,2,.int .i64 y.c0),(w.heap.size,3,.int .i64 y.c1),(w.heap.size,4,.int .i64 y.c2),(O,2,Value.string t.site)],x.1<wo.heap.size):=fun x hx=>by
    simp only[List.mem_cons,List.not_mem_nil,or_false] at hx
    rcases hx with rfl | rfl | rfl | rfl | rfl | rfl <;> dsimp only <;> omega
   refine wp_region_held_drew (S:=Sx wo [(w.heap.size,0,.slice S y.sites.length c),(w.heap.size,1,.slice R y.rests.length d),(w.heap.size,2,.int .i64 y.c0),(w.heap.size,3,.int .i64 y.c1),(w.heap.size,4,.int .i64 y.c2),(O,2,.string t.site)]) (by kernel_rfl) (Sx.mk (by (obtain⟨y0,y1,y2,y3⟩:=hJ.out.i.y.c4;have y4:=hJ.out.i.y.c 4 _ rfl;obtain⟨e0,e1⟩:=hJ.out.i.e.c2;have e3:=hJ.out.i.e.c 3 _ rfl;have e6:=hJ.out.i.e.c 6 _ rfl;have t1:=hJ.out.t.c 1 _ rfl;have t2:=hJ.out.t.c 2 _ rfl;have t3:=hJ.out.t.c 3 _ rfl;have t4:=hJ.out.t.c 4 _ rfl;have t5:=hJ.out.t.c 5 _ rfl);simp only[cs_iff_cons];exact⟨y0,y1,y2,y3,y4,t2,cs_nil _⟩) (Below.refl _ _)).drew (fun hHeld=>?_)
   have hYs:Hid (wo.heap.size≤wo.drew.heap.size):=Nat.le_refl _
   have hbw:=Lib.hid hJ.out.i.bel
   clear hJ
   generalize wo.drew=X at *
   refine tkHx 0 24 ?_
   refine tkHx 1 25 ?_
   refine tkHx 2 26 ?_
   refine tkHx 3 27 ?_
   refine tkHx 4 28 ?_
   (refine wpAnyH_ready (rs:=[5,8]) (by decide +kernel) (by simp) ?_;refine AllReadyH.cons rfl (fun K hK=>?_) (AllReadyH.cons rfl (fun K hK=>?_) AllReadyH.nil))
   ·(rw[if_pos (by kernel_rfl)];go_simp)
    refine (hsR.out _ (below_step hbw.out hHeld.bel)).mono ?_
    rintro e9 wk ⟨i,rfl,hi,hbk⟩
    go_simp
    (refine hK.out _ _ (hHeld.step hbk) (fun hHeld=>?_);clear hK K;(try simp only[apS,apN,siA,scZ,scS]))
    obtain⟨k2,b2,o2,rfl,hkk2,hS2,hsc⟩:=hcl.out wo hbw.out hi
    subst hS2
    have hlt2:Hid (wo.heap.size≤wk.heap.size):=hHeld.bel.size
    refine tkHx 6 30 ?_
    refine tkHx 7 31 (hy:=by (intro w' hSw;obtain⟨q0,q1,q2,q3,q4,q5⟩:=(SiteC.below hsc hSw.bel).c;go_simp;(try with_reducible rfl))) ?_
    (refine ratHx 8 (fun K hK=>?_);go_simp)
    refine hK.out _ _ (hHeld.alloc _) (fun hHeld=>?_)
    clear hK K
    (try simp only[apS,apN,siA,scZ,scS])
    have hB9:=Lib.hid (BoxAt.new wk #[.string ⟨#[]⟩,.int .i64 0,.int .i64 0,.int .i64 0,.int .i64 0,.int .i64 0] 53)
    have hlt3:Hid (wk.heap.size<(wk.alloc (.cells #[.string ⟨#[]⟩,.int .i64 0,.int .i64 0,.int .i64 0,.int .i64 0,.int .i64 0] 53)).heap.size):=by show _<_;simp
    refine vstoreX 9 53 (.tmp 9) (.tmp 31) (wk.heap.size) [.string s.name,.int .i64 s.kind,.int .i64 s.soil,.int .i64 s.depth,.int .i64 s.step,.int .i64 s.room] hB9 rfl (fun W' hg=>hHeld.keep hg (fun x hx=>by have h1:=hLb.out x hx;have h2:=hlt2.out;have h3:=hlt3.out;exact⟨by omega,by omega⟩) hlt2.out) (fun W' hHeld hB9=>?_)
    refine wpAnyH_done (by kernel_rfl) ?_ _
    have hbe:=Lib.hid hHeld.bel
    clear hHeld
    go_wp2_with fail
    go_meet
    case rel=>exact⟨_,rfl,hB9,hbe⟩
   (rw[if_pos (by kernel_rfl)];go_simp)
   refine hK.out _ _ (hHeld.alloc _) (fun hHeld=>?_)
   clear hK K
   (try simp only[apS,apN,siA,scZ,scS])
   have hB90:=Lib.hid (BoxAt.new X #[.string ⟨#[]⟩,.int .i64 0,.int .i64 0,.int .i64 0,.int .i64 0,.int .i64 0] 53)
   have hlt2:Hid (wo.heap.size≤X.heap.size):=hYs
   (refine ratHx 5 (fun K hK=>?_);go_simp)
   refine (hsR.out _ (below_step hbw.out hHeld.bel)).mono ?_
   rintro e9 wk ⟨i,rfl,hi,hbk⟩
   go_simp
   have hB9:=Lib.hid (hB90.out.below hbk)
   have hlt3:Hid (X.heap.size<wk.heap.size):=hB9.out.lt
   (refine hK.out _ _ (hHeld.step hbk) (fun hHeld=>?_);clear hK K;(try simp only[apS,apN,siA,scZ,scS]))
   clear hB90
   obtain⟨k2,b2,o2,rfl,hkk2,hS2,hsc⟩:=hcl.out wo hbw.out hi
   subst hS2
   refine tkHx 6 30 ?_
   refine tkHx 7 31 (hy:=by (intro w' hSw;obtain⟨q0,q1,q2,q3,q4,q5⟩:=(SiteC.below hsc hSw.bel).c;go_simp;(try with_reducible rfl))) ?_
   refine vstoreX 9 53 (.tmp 9) (.tmp 31) (X.heap.size) [.string s.name,.int .i64 s.kind,.int .i64 s.soil,.int .i64 s.depth,.int .i64 s.step,.int .i64 s.room] hB9 rfl (fun W' hg=>hHeld.keep hg (fun x hx=>by have h1:=hLb.out x hx;have h2:=hlt2.out;have h3:=hlt3.out;exact⟨by omega,by omega⟩) hlt2.out) (fun W' hHeld hB9=>?_)
   refine wpAnyH_done (by kernel_rfl) ?_ _
   have hbe:=Lib.hid hHeld.bel
   clear hHeld
   go_wp2_with fail
   go_meet
   case rel=>exact⟨_,rfl,hB9,hbe⟩
  case rest =>
   obtain⟨B9,rfl,hs9,hbe⟩:=hcut
   replace hJ:=Lib.hid (hJ.out.below hbe.out)
   clear hbe hsR hcl hYz
   generalize Cal.restOf y.rests s.soil t.cont=q at *
   (obtain⟨y0,y1,y2,y3⟩:=hJ.out.i.y.c4;have y4:=hJ.out.i.y.c 4 _ rfl;obtain⟨e0,e1⟩:=hJ.out.i.e.c2;have e3:=hJ.out.i.e.c 3 _ rfl;have e6:=hJ.out.i.e.c 6 _ rfl;have t1:=hJ.out.t.c 1 _ rfl;have t2:=hJ.out.t.c 2 _ rfl;have t3:=hJ.out.t.c 3 _ rfl;have t4:=hJ.out.t.c 4 _ rfl;have t5:=hJ.out.t.c 5 _ rfl)
   (obtain⟨s0,s1,s2,s3⟩:=hs9.out.c4;have s4:=hs9.out.c 4 _ rfl;have s5:=hs9.out.c 5 _ rfl)
   by_cases k3:e.kind=3
   ·have q3:(e.kind == 3)=true:=by simp[k3]
    have hlv:=hlev k3
    clear k3
    by_cases z:s.kind=0
    ·have qz:(s.kind != 0)=false:=by simp[z]
     clear z
     by_cases lv:t.level≤e.level
     ·go_wp2_with fail
      go_ret
      exact⟨2,rfl,(fun h=>by cases h),hJ.out.i.bel⟩
     go_upto_region 14 with fail
     clear y0 y1 y2 y3 y4 e0 e1 e3 e6 t1 t2 t3 t4 t5
     clear s0 s1 s2 s3 s4 s5
     go_loopw [10] (fun i w2=>∃ n:Int,e.level≤n∧n≤t.level∧i=.int .i64 n∧w2=wc) (fun i _=>(t.level-intOf i).toNat)
     case atStart=>exact⟨e.level,Int.le_refl _,by omega,rfl,rfl⟩
     case round =>
      obtain⟨n,n0,n1,rfl,rfl⟩:=hrel
      (obtain⟨y0,y1,y2,y3⟩:=hJ.out.i.y.c4;have y4:=hJ.out.i.y.c 4 _ rfl;obtain⟨e0,e1⟩:=hJ.out.i.e.c2;have e3:=hJ.out.i.e.c 3 _ rfl;have e6:=hJ.out.i.e.c 6 _ rfl;have t1:=hJ.out.t.c 1 _ rfl;have t2:=hJ.out.t.c 2 _ rfl;have t3:=hJ.out.t.c 3 _ rfl;have t4:=hJ.out.t.c 4 _ rfl;have t5:=hJ.out.t.c 5 _ rfl)
      (obtain⟨s0,s1,s2,s3⟩:=hs9.out.c4;have s4:=hs9.out.c 4 _ rfl;have s5:=hs9.out.c 5 _ rfl)
      by_cases hn:n<t.level
      ·have hon:=Lib.hid (hoc.out _ hJ.out.i.bel n)
       go_wp2_with (go_at_call 73;refine hon.out.mono ?_;rintro e9 wk ⟨b1,rfl,rfl⟩;cases b1)
       ·go_wp2_with fail
        go_roundw
        case rel=>exact⟨n+1,by omega,by omega,by go_num,trivial⟩
        case measure=>simp[intOf];omega
       go_wp2_with fail
       go_ret
       exact⟨16,rfl,(fun h=>by cases h),hJ.out.i.bel⟩
      go_upto_region 18 with fail
      (obtain⟨y0,y1,y2,y3⟩:=hJ.out.i.y.c4;have y4:=hJ.out.i.y.c 4 _ rfl;obtain⟨e0,e1⟩:=hJ.out.i.e.c2;have e3:=hJ.out.i.e.c 3 _ rfl;have e6:=hJ.out.i.e.c 6 _ rfl;have t1:=hJ.out.t.c 1 _ rfl;have t2:=hJ.out.t.c 2 _ rfl;have t3:=hJ.out.t.c 3 _ rfl;have t4:=hJ.out.t.c 4 _ rfl;have t5:=hJ.out.t.c 5 _ rfl)
      (obtain⟨s0,s1,s2,s3⟩:=hs9.out.c4;have s4:=hs9.out.c 4 _ rfl;have s5:=hs9.out.c 5 _ rfl)
      go_wp2_with (go_at_call 74;clear y0 y1 y2 y3 y4 e0 e1 e3 e6 t1 t2 t3 t4 t5;clear s0 s1 s2 s3 s4 s5;refine (hcv.out _ hJ.out.i.bel).mono ?_;rintro e9 wx ⟨b2,rfl,hbx⟩;replace hJ:=Lib.hid (hJ.out.below hbx);replace hs9:=Lib.hid (hs9.out.below hbx);clear hbx;cases b2)
      ·(obtain⟨y0,y1,y2,y3⟩:=hJ.out.i.y.c4;have y4:=hJ.out.i.y.c 4 _ rfl;obtain⟨e0,e1⟩:=hJ.out.i.e.c2;have e3:=hJ.out.i.e.c 3 _ rfl;have e6:=hJ.out.i.e.c 6 _ rfl;have t1:=hJ.out.t.c 1 _ rfl;have t2:=hJ.out.t.c 2 _ rfl;have t3:=hJ.out.t.c 3 _ rfl;have t4:=hJ.out.t.c 4 _ rfl;have t5:=hJ.out.t.c 5 _ rfl)
       (obtain⟨s0,s1,s2,s3⟩:=hs9.out.c4;have s4:=hs9.out.c 4 _ rfl;have s5:=hs9.out.c 5 _ rfl)
       go_upto_region 20 with fail
       cases hord:e.order
       ·rw[hord] at e6
        have hbw:=Lib.hid hJ.out.i.bel
        refine wp_region_held_drew (S:=Sx wx [(w.heap.size+1,0,.int .i64 e.day),(w.heap.size+1,6,.bool false),(O,5,.int .i64 t.since),(O,4,.int .i64 t.cont),(w.heap.size,0,.slice S y.sites.length c),(w.heap.size,1,.slice R y.rests.length d),(w.heap.size,2,.int .i64 y.c0),(w.heap.size,3,.int .i64 y.c1),(w.heap.size,4,.int .i64 y.c2),(B9,0,.string s.name),(B9,1,.int .i64 s.kind),(B9,2,.int .i64 s.soil),(B9,3,.int .i64 s.depth),(B9,4,.int .i64 s.step),(B9,5,.int .i64 s.room)]) (by kernel_rfl) (Sx.mk (by simp only[cs_iff_cons];exact⟨e0,e6,t5,t4,y0,y1,y2,y3,y4,s0,s1,s2,s3,s4,s5,cs_nil _⟩) (Below.refl _ _)).drew (fun hHeld=>?_)
        clear y0 y1 y2 y3 y4 e0 e1 e3 e6 t1 t2 t3 t4 t5
        clear s0 s1 s2 s3 s4 s5
        clear hJ hs9
        refine tkHx 0 61 ?_
        refine tkHx 1 62 ?_
        refine tkHx 2 63 ?_
        refine tkHx 3 64 ?_
        refine tkHx 4 65 ?_
        refine tkHx 5 66 ?_
        refine tkHx 6 67 ?_
        refine tkHx 7 68 ?_
        refine tkHx 8 69 ?_
        refine tkHx 9 70 ?_
        refine tkHx 10 71 ?_
        refine tkHx 11 72 ?_
        (refine ratHx 12 (fun K hK=>?_);go_simp)
        refine (hrest.out _ (below_step hbw.out hHeld.bel)).mono ?_
        rintro e wn ⟨rfl,hbn⟩
        go_simp
        (refine hK.out _ _ (hHeld.step hbn) (fun hHeld=>?_);clear hK K;(try simp only[apS,apN,siA,scZ,scS]))
        refine tkHx 13 74 ?_
        refine tkHx 14 75 ?_
        refine tkHx 15 76 ?_
        refine wpAnyH_done (by kernel_rfl) ?_ _
        have hb9:=Lib.hid (below_step hbw.out hHeld.bel)
        clear hHeld
        by_cases hd:e.day<IntKind.i64.wrap (t.since+q)
        ·have hdq:=decide_eq_true hd
         go_wp2_with fail
         go_ret
         exact⟨17,rfl,(fun h=>by cases h),hb9.out⟩
        have hdq:=decide_eq_false hd
        go_wp2_with fail
        go_ret
        exact⟨0,rfl,(fun _=>hfin.out),hb9.out⟩
       rw[hord] at e6
       have hbw:=Lib.hid hJ.out.i.bel
       refine wp_region_held_drew (S:=Sx wx [(w.heap.size+1,0,.int .i64 e.day),(w.heap.size+1,6,.bool true),(O,5,.int .i64 t.since),(O,4,.int .i64 t.cont),(w.heap.size,0,.slice S y.sites.length c),(w.heap.size,1,.slice R y.rests.length d),(w.heap.size,2,.int .i64 y.c0),(w.heap.size,3,.int .i64 y.c1),(w.heap.size,4,.int .i64 y.c2),(B9,0,.string s.name),(B9,1,.int .i64 s.kind),(B9,2,.int .i64 s.soil),(B9,3,.int .i64 s.depth),(B9,4,.int .i64 s.step),(B9,5,.int .i64 s.room)]) (by kernel_rfl) (Sx.mk (by simp only[cs_iff_cons];exact⟨e0,e6,t5,t4,y0,y1,y2,y3,y4,s0,s1,s2,s3,s4,s5,cs_nil _⟩) (Below.refl _ _)).drew (fun hHeld=>?_)
       clear y0 y1 y2 y3 y4 e0 e1 e3 e6 t1 t2 t3 t4 t5
       clear s0 s1 s2 s3 s4 s5
       clear hJ hs9
       refine tkHx 0 61 ?_
       refine tkHx 1 62 ?_
       refine tkHx 2 63 ?_
       refine tkHx 3 64 ?_
       refine tkFx 4 65 ?_
       refine tkFx 5 66 ?_
       refine tkFx 6 67 ?_
       refine tkFx 7 68 ?_
       refine tkFx 8 69 ?_
       refine tkFx 9 70 ?_
       refine tkFx 10 71 ?_
       refine tkFx 11 72 ?_
       refine tkFx 12 73 ?_
       refine tkFx 13 74 ?_
       refine tkFx 14 75 ?_
       refine tkHx 15 76 ?_
       refine wpAnyH_done (by kernel_rfl) ?_ _
       have hb9:=Lib.hid (below_step hbw.out hHeld.bel)
       clear hHeld
       go_wp2_with fail
       go_ret
       exact⟨0,rfl,(fun _=>hfin.out),hb9.out⟩
      go_wp2_with fail
      go_ret
      exact⟨18,rfl,(fun h=>by cases h),hJ.out.i.bel⟩
    have qz:(s.kind != 0)=true:=by simp[z]
    clear z
    go_wp2_with fail
    go_ret
    exact⟨15,rfl,(fun h=>by cases h),hJ.out.i.bel⟩
   have q3:(e.kind == 3)=false:=by simp[k3]
   clear k3
   go_upto_region 18 with fail
   (obtain⟨y0,y1,y2,y3⟩:=hJ.out.i.y.c4;have y4:=hJ.out.i.y.c 4 _ rfl;obtain⟨e0,e1⟩:=hJ.out.i.e.c2;have e3:=hJ.out.i.e.c 3 _ rfl;have e6:=hJ.out.i.e.c 6 _ rfl;have t1:=hJ.out.t.c 1 _ rfl;have t2:=hJ.out.t.c 2 _ rfl;have t3:=hJ.out.t.c 3 _ rfl;have t4:=hJ.out.t.c 4 _ rfl;have t5:=hJ.out.t.c 5 _ rfl)
   (obtain⟨s0,s1,s2,s3⟩:=hs9.out.c4;have s4:=hs9.out.c 4 _ rfl;have s5:=hs9.out.c 5 _ rfl)
   go_wp2_with (go_at_call 74;clear y0 y1 y2 y3 y4 e0 e1 e3 e6 t1 t2 t3 t4 t5;clear s0 s1 s2 s3 s4 s5;refine (hcv.out _ hJ.out.i.bel).mono ?_;rintro e9 wx ⟨b2,rfl,hbx⟩;replace hJ:=Lib.hid (hJ.out.below hbx);replace hs9:=Lib.hid (hs9.out.below hbx);clear hbx;cases b2)
   ·(obtain⟨y0,y1,y2,y3⟩:=hJ.out.i.y.c4;have y4:=hJ.out.i.y.c 4 _ rfl;obtain⟨e0,e1⟩:=hJ.out.i.e.c2;have e3:=hJ.out.i.e.c 3 _ rfl;have e6:=hJ.out.i.e.c 6 _ rfl;have t1:=hJ.out.t.c 1 _ rfl;have t2:=hJ.out.t.c 2 _ rfl;have t3:=hJ.out.t.c 3 _ rfl;have t4:=hJ.out.t.c 4 _ rfl;have t5:=hJ.out.t.c 5 _ rfl)
    (obtain⟨s0,s1,s2,s3⟩:=hs9.out.c4;have s4:=hs9.out.c 4 _ rfl;have s5:=hs9.out.c 5 _ rfl)
    go_upto_region 20 with fail
    cases hord:e.order
    ·rw[hord] at e6
     have hbw:=Lib.hid hJ.out.i.bel
     refine wp_region_held_drew (S:=Sx wx [(w.heap.size+1,0,.int .i64 e.day),(w.heap.size+1,6,.bool false),(O,5,.int .i64 t.since),(O,4,.int .i64 t.cont),(w.heap.size,0,.slice S y.sites.length c),(w.heap.size,1,.slice R y.rests.length d),(w.heap.size,2,.int .i64 y.c0),(w.heap.size,3,.int .i64 y.c1),(w.heap.size,4,.int .i64 y.c2),(B9,0,.string s.name),(B9,1,.int .i64 s.kind),(B9,2,.int .i64 s.soil),(B9,3,.int .i64 s.depth),(B9,4,.int .i64 s.step),(B9,5,.int .i64 s.room)]) (by kernel_rfl) (Sx.mk (by simp only[cs_iff_cons];exact⟨e0,e6,t5,t4,y0,y1,y2,y3,y4,s0,s1,s2,s3,s4,s5,cs_nil _⟩) (Below.refl _ _)).drew (fun hHeld=>?_)
     clear y0 y1 y2 y3 y4 e0 e1 e3 e6 t1 t2 t3 t4 t5
     clear s0 s1 s2 s3 s4 s5
     clear hJ hs9
     refine tkHx 0 61 ?_
     refine tkHx 1 62 ?_
     refine tkHx 2 63 ?_
     refine tkHx 3 64 ?_
     refine tkHx 4 65 ?_
     refine tkHx 5 66 ?_
     refine tkHx 6 67 ?_
     refine tkHx 7 68 ?_
     refine tkHx 8 69 ?_
     refine tkHx 9 70 ?_
     refine tkHx 10 71 ?_
     refine tkHx 11 72 ?_
     (refine ratHx 12 (fun K hK=>?_);go_simp)
     refine (hrest.out _ (below_step hbw.out hHeld.bel)).mono ?_
     rintro e wn ⟨rfl,hbn⟩
     go_simp
     (refine hK.out _ _ (hHeld.step hbn) (fun hHeld=>?_);clear hK K;(try simp only[apS,apN,siA,scZ,scS]))
     refine tkHx 13 74 ?_
     refine tkHx 14 75 ?_
     refine tkHx 15 76 ?_
     refine wpAnyH_done (by kernel_rfl) ?_ _
     have hb9:=Lib.hid (below_step hbw.out hHeld.bel)
     clear hHeld
     by_cases hd:e.day<IntKind.i64.wrap (t.since+q)
     ·have hdq:=decide_eq_true hd
      go_wp2_with fail
      go_ret
      exact⟨17,rfl,(fun h=>by cases h),hb9.out⟩
     have hdq:=decide_eq_false hd
     go_wp2_with fail
     go_ret
     exact⟨0,rfl,(fun _=>hfin.out),hb9.out⟩
    rw[hord] at e6
    have hbw:=Lib.hid hJ.out.i.bel
    refine wp_region_held_drew (S:=Sx wx [(w.heap.size+1,0,.int .i64 e.day),(w.heap.size+1,6,.bool true),(O,5,.int .i64 t.since),(O,4,.int .i64 t.cont),(w.heap.size,0,.slice S y.sites.length c),(w.heap.size,1,.slice R y.rests.length d),(w.heap.size,2,.int .i64 y.c0),(w.heap.size,3,.int .i64 y.c1),(w.heap.size,4,.int .i64 y.c2),(B9,0,.string s.name),(B9,1,.int .i64 s.kind),(B9,2,.int .i64 s.soil),(B9,3,.int .i64 s.depth),(B9,4,.int .i64 s.step),(B9,5,.int .i64 s.room)]) (by kernel_rfl) (Sx.mk (by simp only[cs_iff_cons];exact⟨e0,e6,t5,t4,y0,y1,y2,y3,y4,s0,s1,s2,s3,s4,s5,cs_nil _⟩) (Below.refl _ _)).drew (fun hHeld=>?_)
    clear y0 y1 y2 y3 y4 e0 e1 e3 e6 t1 t2 t3 t4 t5
    clear s0 s1 s2 s3 s4 s5
    clear hJ hs9
    refine tkHx 0 61 ?_
    refine tkHx 1 62 ?_
    refine tkHx 2 63 ?_
    refine tkHx 3 64 ?_
    refine tkFx 4 65 ?_
    refine tkFx 5 66 ?_
    refine tkFx 6 67 ?_
    refine tkFx 7 68 ?_
    refine tkFx 8 69 ?_
    refine tkFx 9 70 ?_
    refine tkFx 10 71 ?_
    refine tkFx 11 72 ?_
    refine tkFx 12 73 ?_
    refine tkFx 13 74 ?_
    refine tkFx 14 75 ?_
    refine tkHx 15 76 ?_
    refine wpAnyH_done (by kernel_rfl) ?_ _
    have hb9:=Lib.hid (below_step hbw.out hHeld.bel)
    clear hHeld
    go_wp2_with fail
    go_ret
    exact⟨0,rfl,(fun _=>hfin.out),hb9.out⟩
   go_wp2_with fail
   go_ret
   exact⟨18,rfl,(fun h=>by cases h),hJ.out.i.bel⟩
 have q1:(t.state != 1)=true:=by simp[hst]
 clear hst
 go_wp2_with fail
 go_ret
 exact⟨28,rfl,(fun h=>by cases h),hJ.out.i.bel⟩
end Go.Proofs.YtcnfhnndppollaaDoor
namespace Go.Proofs.YtcnfhnndppollaaDoor
open Go Go.RowKit
def LtR (w:World) (y:Yd) (e:Ev) (en:Ending) (w':World):Prop:=∃ t:Lot,en=.returned (.agg #[.string t.remain,.int .i64 t.state,.string t.site,.int .i64 t.level,.int .i64 t.cont,.int .i64 t.since])∧t.remain=e.remain∧LotOk y t∧Below w.heap.size w w'
structure RlI (w:World) (S R:Option Addr) (c d:Nat) (y:Yd) (e:Ev) (nx:Lot) (W:World):Prop where
 i:RfI w S R c d y e W
 r:BoxAt W (w.heap.size+1+1) [.string ⟨#[]⟩,.int .i64 0,.string ⟨#[]⟩,.int .i64 0,.int .i64 0,.int .i64 0]
 nx:BoxAt W (w.heap.size+1+1+1) [.string nx.remain,.int .i64 nx.state,.string nx.site,.int .i64 nx.level,.int .i64 nx.cont,.int .i64 nx.since]
section
variable {w : World} {S R : Option Addr} {c d : Nat} {y : Yd} {e : Ev} {nx nx' : Lot} {W W' : World}
theorem RlI.below (h:RlI w S R c d y e nx W) (hb:Below W.heap.size W W'):RlI w S R c d y e nx W':=⟨h.i.below hb,h.r.below hb,h.nx.below hb⟩
theorem RlI.next (h:RlI w S R c d y e nx W) (hn:BoxAt W' (w.heap.size+1+1+1) [.string nx'.remain,.int .i64 nx'.state,.string nx'.site,.int .i64 nx'.level,.int .i64 nx'.cont,.int .i64 nx'.since]) (hg:W.grownBy W' (some (w.heap.size+1+1+1))):RlI w S R c d y e nx' W' :=
 ⟨⟨h.i.y.grown hg (by simp <;> omega),h.i.e.grown hg (by simp <;> omega),below_of_grownB h.i.bel hg (by omega)⟩,h.r.grown hg (by simp <;> omega),hn⟩
theorem RlI.start (w:World) (S R:Option Addr) (c d:Nat) (y:Yd) (e:Ev):RlI w S R c d y e (nx0 e) ((((w.alloc (.cells #[.slice S y.sites.length c,.slice R y.rests.length d,.int .i64 y.c0,.int .i64 y.c1,.int .i64 y.c2] 26)).alloc (.cells #[.int .i64 e.day,.int .i64 e.kind,.string e.site,.int .i64 e.level,.string e.remain,.int .i64 e.cont,.bool e.order] 29)).alloc (.cells #[.string ⟨#[]⟩,.int .i64 0,.string ⟨#[]⟩,.int .i64 0,.int .i64 0,.int .i64 0] 38)).alloc (.cells #[.string e.remain,.int .i64 0,.string ⟨#[]⟩,.int .i64 0,.int .i64 0,.int .i64 e.day] 38)):=by
 have h0:=RfI.start w S R c d y e
 obtain⟨X,hX⟩:∃ X,(w.alloc (.cells #[.slice S y.sites.length c,.slice R y.rests.length d,.int .i64 y.c0,.int .i64 y.c1,.int .i64 y.c2] 26)).alloc (.cells #[.int .i64 e.day,.int .i64 e.kind,.string e.site,.int .i64 e.level,.string e.remain,.int .i64 e.cont,.bool e.order] 29)=X:=⟨_,rfl⟩
 have hs:X.heap.size=w.heap.size+1+1:=by rw[←hX];simp
 rw[hX] at h0 ⊢
 have b1:=BoxAt.new X #[.string ⟨#[]⟩,.int .i64 0,.string ⟨#[]⟩,.int .i64 0,.int .i64 0,.int .i64 0] 38
 have b2:=BoxAt.new (X.alloc (.cells #[.string ⟨#[]⟩,.int .i64 0,.string ⟨#[]⟩,.int .i64 0,.int .i64 0,.int .i64 0] 38)) #[.string e.remain,.int .i64 0,.string ⟨#[]⟩,.int .i64 0,.int .i64 0,.int .i64 e.day] 38
 rw[World.size_alloc,hs] at b2
 rw[hs] at b1
 exact⟨h0.below (below_step (below_alloc _ _) (below_alloc _ _)),b1.alloc _,b2⟩
end
theorem lotOfR_put (S R:Option Addr) (c d:Nat) (y:Yd) (A:Option Addr) (ac:Nat) (l:List Lot) (e:Ev) (w:World) (hY:YdIn w S R y) (he:Cal.eventE e=0) (hk:e.kind=0∨e.kind=2) (hput:(Cal.siteOf y.sites e.site).isSome=true) :
  Calls Tryd.prog 53 #[.agg #[.slice S y.sites.length c,.slice R y.rests.length d,.int .i64 y.c0,.int .i64 y.c1,.int .i64 y.c2],.slice A l.length ac,.agg #[.int .i64 e.day,.int .i64 e.kind,.string e.site,.int .i64 e.level,.string e.remain,.int .i64 e.cont,.bool e.order]] w (LtR w y e):=by
 have hI:=Lib.hid (RlI.start w S R c d y e)
 have hall:=event_all he
 have hnum:=Lib.hid (show (0≤e.level∧e.level≤11)∧(0≤e.day∧e.day≤200000)∧(0≤e.cont∧e.cont≤2) from ⟨(hall.2.2.1 hk).1,hall.1,(hall.2.2.1 hk).2⟩)
 have hYz:=Lib.hid (fun w' (h:Below w.heap.size w w')=>hY.below h)
 obtain⟨s,hs⟩:=Option.isSome_iff_exists.1 hput
 have hsR:=Lib.hid (fun w1 (h:Below w.heap.size w w1)=>SiteR_any S R c d y e.site w1 (hYz.out w1 h))
 have hcl:=Lib.hid (fun w1 (h:Below w.heap.size w w1) {i} hi=>site_cell (hYz.out w1 h) hs (i:=i) hi)
 clear hall hY he hs
 have hkq:(e.kind == 0)=true∨((e.kind == 0)=false∧(e.kind == 2)=true):=by
  rcases hk with hk | hk
  ·left;simp[hk]
  right;simp[hk]
 have hputz:=Lib.hid hput
 clear hk hput
 have e0:=(RfI.start w S R c d y e).e.c 0 _ rfl
 have e4:=(RfI.start w S R c d y e).e.c 4 _ rfl
 rcases hkq with q0 | ⟨q0,q2⟩
 ·go_enter Tryd.func53,Tryd.ntmps53
  go_upto_region 2 with fail
  clear e0 e4
  obtain⟨Z0,hZ0⟩:∃ Z0,(((w.alloc (.cells #[.slice S y.sites.length c,.slice R y.rests.length d,.int .i64 y.c0,.int .i64 y.c1,.int .i64 y.c2] 26)).alloc (.cells #[.int .i64 e.day,.int .i64 e.kind,.string e.site,.int .i64 e.level,.string e.remain,.int .i64 e.cont,.bool e.order] 29)).alloc (.cells #[.string ⟨#[]⟩,.int .i64 0,.string ⟨#[]⟩,.int .i64 0,.int .i64 0,.int .i64 0] 38)).alloc (.cells #[.string e.remain,.int .i64 0,.string ⟨#[]⟩,.int .i64 0,.int .i64 0,.int .i64 e.day] 38)=Z0:=⟨_,rfl⟩
  rw[hZ0] at hI ⊢
  clear hZ0
  (obtain⟨y0,y1,y2,y3⟩:=hI.out.i.y.c4;have y4:=hI.out.i.y.c 4 _ rfl;obtain⟨e0,e1,e2,e3⟩:=hI.out.i.e.c4;have e4:=hI.out.i.e.c 4 _ rfl;have e5:=hI.out.i.e.c 5 _ rfl;obtain⟨n0,n1,n2,n3⟩:=hI.out.nx.c4;have n4:=hI.out.nx.c 4 _ rfl;have n5:=hI.out.nx.c 5 _ rfl;have f1:=hI.out.nx.free 1 (by simp))
  go_upto_region 5 with fail
  clear y0 y1 y2 y3 y4 e0 e1 e2 e3 e4 e5 n0 n1 n2 n3 n4 n5 f1
  replace hI:=Lib.hid (hI.out.below ((Below.refl Z0.heap.size Z0).drew))
  obtain⟨X,hX⟩:∃ X,Z0.drew=X:=⟨_,rfl⟩
  rw[hX] at hI
  refine wp_region_held_drew (S:=Sx w [(w.heap.size+1,2,.string e.site),(w.heap.size+1,3,.int .i64 e.level),(w.heap.size+1,5,.int .i64 e.cont)]) (by kernel_rfl) (by rw[hX];exact (Sx.mk (by simp only[cs_iff_cons];exact⟨hI.out.i.e.c 2 _ rfl,hI.out.i.e.c 3 _ rfl,hI.out.i.e.c 5 _ rfl,cs_nil _⟩) hI.out.i.bel)) (fun hHeld=>?_)
  rw[hX] at hHeld ⊢
  clear hX
  have hOs:=hI.out.nx.lt
  have hkp:∀ (X1 X2:World),Sx w [(w.heap.size+1,2,.string e.site),(w.heap.size+1,3,.int .i64 e.level),(w.heap.size+1,5,.int .i64 e.cont)] X1→X1.heap.size=X.heap.size→X1.grownBy X2 (some (w.heap.size+1+1+1))→Sx w [(w.heap.size+1,2,.string e.site),(w.heap.size+1,3,.int .i64 e.level),(w.heap.size+1,5,.int .i64 e.cont)] X2:=fun X1 X2 h hz hg=>h.keep hg (fun x hx=>by simp at hx;rcases hx with rfl | rfl | rfl <;> exact⟨by dsimp only;omega,by dsimp only;omega⟩) (by omega)
  have hkp:=Lib.hid hkp
  have hN0:=hI.out.nx
  have c1:=hN0.c 1 _ rfl;have g1:=hN0.free 1 (by simp)
  refine tkHx 0 19 ?_
  refine tkHx 1 20 ?_
  refine tkHx 2 21 ?_
  refine tkHx 3 22 ?_
  refine tkHx 4 23 ?_
  refine tkHx 5 24 ?_
  refine tkHx 6 25 ?_
  (refine ratHx 7 (fun K hK=>?_);go_simp)
  refine hK.out _ _ (hkp.out _ _ hHeld rfl (grown_set _ _ _ _)) (fun hHeld=>?_)
  clear hK K
  (try simp only[apS,apN,siA,scZ,scS])
  have hN1:=hN0.set 1 (.int .i64 1) (by simp)
  have c2:=hN1.c 2 _ rfl;have g2:=hN1.free 2 (by simp)
  clear c1 g1
  refine tkHx 8 26 ?_
  (refine ratHx 9 (fun K hK=>?_);go_simp)
  refine hK.out _ _ (hkp.out _ _ hHeld (World.size_setCell ..) (grown_set _ _ _ _)) (fun hHeld=>?_)
  clear hK K
  (try simp only[apS,apN,siA,scZ,scS])
  have hN2:=hN1.set 2 (.string e.site) (by simp)
  have c3:=hN2.c 3 _ rfl;have g3:=hN2.free 3 (by simp)
  clear c2 g2
  refine tkHx 10 27 ?_
  (refine ratHx 11 (fun K hK=>?_);go_simp)
  refine hK.out _ _ (hkp.out _ _ hHeld (by simp) (grown_set _ _ _ _)) (fun hHeld=>?_)
  clear hK K
  (try simp only[apS,apN,siA,scZ,scS])
  have hN3:=hN2.set 3 (.int .i64 e.level) (by simp)
  have c4:=hN3.c 4 _ rfl;have g4:=hN3.free 4 (by simp)
  clear c3 g3
  refine tkHx 12 28 ?_
  (refine ratHx 13 (fun K hK=>?_);go_simp)
  refine hK.out _ _ (hkp.out _ _ hHeld (by simp) (grown_set _ _ _ _)) (fun hHeld=>?_)
  clear hK K
  (try simp only[apS,apN,siA,scZ,scS])
  refine wpAnyH_done (by kernel_rfl) ?_ _
  have hN4:=hN3.set 4 (.int .i64 e.cont) (by simp)
  clear c4 g4 hHeld
  replace hI:=Lib.hid (hI.out.next (nx':=⟨e.remain,1,e.site,e.level,e.cont,e.day⟩) hN4 ((((grown_set _ _ _ _).trans (grown_set _ _ _ _)).trans (grown_set _ _ _ _)).trans (grown_set _ _ _ _)))
  clear hN0 hN1 hN2 hN3 hN4 hkp
  obtain⟨W,hW⟩:∃ W,(((X.setCell ⟨w.heap.size+1+1+1,1,none⟩ (.int .i64 1)).setCell ⟨w.heap.size+1+1+1,2,none⟩ (.string e.site)).setCell ⟨w.heap.size+1+1+1,3,none⟩ (.int .i64 e.level)).setCell ⟨w.heap.size+1+1+1,4,none⟩ (.int .i64 e.cont)=W:=⟨_,rfl⟩
  rw[hW] at hI ⊢
  clear hW
  (obtain⟨y0,y1,y2,y3⟩:=hI.out.i.y.c4;have y4:=hI.out.i.y.c 4 _ rfl;obtain⟨e0,e1,e2,e3⟩:=hI.out.i.e.c4;have e4:=hI.out.i.e.c 4 _ rfl;have e5:=hI.out.i.e.c 5 _ rfl;obtain⟨n0,n1,n2,n3⟩:=hI.out.nx.c4;have n4:=hI.out.nx.c 4 _ rfl;have n5:=hI.out.nx.c 5 _ rfl;have f1:=hI.out.nx.free 1 (by simp))
  go_upto_region 6 with fail
  clear y0 y1 y2 y3 y4 e0 e1 e2 e3 e4 e5 n0 n1 n2 n3 n4 n5 f1
  replace hI:=Lib.hid (hI.out.below ((Below.refl W.heap.size W).drew))
  obtain⟨X,hX⟩:∃ X,W.drew=X:=⟨_,rfl⟩
  rw[hX] at hI
  have hbX:=Lib.hid hI.out.i.bel
  refine wp_region_held_drew (S:=Sx X [(w.heap.size+1,2,.string e.site),(w.heap.size,0,.slice S y.sites.length c),(w.heap.size,1,.slice R y.rests.length d),(w.heap.size,2,.int .i64 y.c0),(w.heap.size,3,.int .i64 y.c1),(w.heap.size,4,.int .i64 y.c2)]) (by kernel_rfl) (by rw[hX];exact (Sx.mk (by simp only[cs_iff_cons];exact⟨hI.out.i.e.c 2 _ rfl,hI.out.i.y.c 0 _ rfl,hI.out.i.y.c 1 _ rfl,hI.out.i.y.c 2 _ rfl,hI.out.i.y.c 3 _ rfl,hI.out.i.y.c 4 _ rfl,cs_nil _⟩) (Below.refl _ _))) (fun hHeld=>?_)
  rw[hX] at hHeld ⊢
  clear hX
  refine tkHx 0 29 ?_
  refine tkHx 1 30 ?_
  refine tkHx 2 31 ?_
  refine tkHx 3 32 ?_
  refine tkHx 4 33 ?_
  (refine ratHx 5 (fun K hK=>?_);go_simp)
  refine (hsR.out _ hbX.out).mono ?_
  rintro e9 wk ⟨i,rfl,hi,hbk⟩
  go_simp
  (refine hK.out _ _ (hHeld.step hbk) (fun hHeld=>?_);clear hK K;(try simp only[apS,apN,siA,scZ,scS]))
  obtain⟨k2,b2,o2,rfl,hkk2,hS2,hsc⟩:=hcl.out X hbX.out hi
  subst hS2
  refine tkHx 6 35 ?_
  refine tkHx 7 36 ?_
  refine tkHx 8 37 (hy:=by (intro w' hSw;obtain⟨q0,q1,q2,q3,q4,q5⟩:=(SiteC.below hsc hSw.bel).c;go_simp;(try with_reducible rfl))) ?_
  refine tkHx 9 38 ?_
  refine wpAnyH_done (by kernel_rfl) ?_ _
  replace hI:=Lib.hid (hI.out.below hHeld.bel)
  clear hHeld hsc
  by_cases k3:s.kind=3
  ·have kq:(s.kind == 3)=true:=by simp[k3]
   clear k3
   (obtain⟨y0,y1,y2,y3⟩:=hI.out.i.y.c4;have y4:=hI.out.i.y.c 4 _ rfl;obtain⟨e0,e1,e2,e3⟩:=hI.out.i.e.c4;have e4:=hI.out.i.e.c 4 _ rfl;have e5:=hI.out.i.e.c 5 _ rfl;obtain⟨n0,n1,n2,n3⟩:=hI.out.nx.c4;have n4:=hI.out.nx.c 4 _ rfl;have n5:=hI.out.nx.c 5 _ rfl;have f1:=hI.out.nx.free 1 (by simp))
   go_upto_region 13 with fail
   clear y0 y1 y2 y3 y4 e0 e1 e2 e3 e4 e5 n0 n1 n2 n3 n4 n5 f1
   replace hI:=Lib.hid (hI.out.next (nx':=⟨e.remain,3,e.site,e.level,e.cont,e.day⟩) (hI.out.nx.set 1 (.int .i64 3) (by simp)) (grown_set _ _ _ _))
   obtain⟨Y,hY⟩:∃ Y,wk.setCell ⟨w.heap.size+1+1+1,1,none⟩ (.int .i64 3)=Y:=⟨_,rfl⟩
   rw[hY] at hI ⊢
   clear hY
   have hfin:Hid (LotOk y ⟨e.remain,3,e.site,e.level,e.cont,e.day⟩):=⟨hnum.out,fun h=>(by cases h)⟩
   (obtain⟨y0,y1,y2,y3⟩:=hI.out.i.y.c4;have y4:=hI.out.i.y.c 4 _ rfl;obtain⟨e0,e1,e2,e3⟩:=hI.out.i.e.c4;have e4:=hI.out.i.e.c 4 _ rfl;have e5:=hI.out.i.e.c 5 _ rfl;obtain⟨n0,n1,n2,n3⟩:=hI.out.nx.c4;have n4:=hI.out.nx.c 4 _ rfl;have n5:=hI.out.nx.c 5 _ rfl;have f1:=hI.out.nx.free 1 (by simp))
   go_wp2_with (refine wpList_store_box rfl 38 (.tmp 6) (.tmp 62) rfl (w.heap.size+1+1) _ [.string e.remain,.int .i64 3,.string e.site,.int .i64 e.level,.int .i64 e.cont,.int .i64 e.day] (by rfl) (by rfl) hI.out.r rfl ltSz (by kernel_rfl) ?_;intro w4 h4 hg4)
   refine bodyPost_ret (results_mid1 rfl _ _ (w.heap.size+1+1) [.string e.remain,.int .i64 3,.string e.site,.int .i64 e.level,.int .i64 e.cont,.int .i64 e.day] _ rfl h4.range Tryd.underlying38 rfl ltSz) rfl ?_
   exact⟨⟨e.remain,3,e.site,e.level,e.cont,e.day⟩,rfl,rfl,hfin.out,below_of_grownB hI.out.i.bel hg4 (by omega)⟩
  have kq:(s.kind == 3)=false:=by simp[k3]
  clear k3
  have hfin:Hid (LotOk y ⟨e.remain,1,e.site,e.level,e.cont,e.day⟩):=⟨hnum.out,fun _=>hputz.out⟩
  (obtain⟨y0,y1,y2,y3⟩:=hI.out.i.y.c4;have y4:=hI.out.i.y.c 4 _ rfl;obtain⟨e0,e1,e2,e3⟩:=hI.out.i.e.c4;have e4:=hI.out.i.e.c 4 _ rfl;have e5:=hI.out.i.e.c 5 _ rfl;obtain⟨n0,n1,n2,n3⟩:=hI.out.nx.c4;have n4:=hI.out.nx.c 4 _ rfl;have n5:=hI.out.nx.c 5 _ rfl;have f1:=hI.out.nx.free 1 (by simp))
  go_wp2_with (refine wpList_store_box rfl 38 (.tmp 6) (.tmp 62) rfl (w.heap.size+1+1) _ [.string e.remain,.int .i64 1,.string e.site,.int .i64 e.level,.int .i64 e.cont,.int .i64 e.day] (by rfl) (by rfl) hI.out.r rfl ltSz (by kernel_rfl) ?_;intro w4 h4 hg4)
  refine bodyPost_ret (results_mid1 rfl _ _ (w.heap.size+1+1) [.string e.remain,.int .i64 1,.string e.site,.int .i64 e.level,.int .i64 e.cont,.int .i64 e.day] _ rfl h4.range Tryd.underlying38 rfl ltSz) rfl ?_
  exact⟨⟨e.remain,1,e.site,e.level,e.cont,e.day⟩,rfl,rfl,hfin.out,below_of_grownB hI.out.i.bel hg4 (by omega)⟩
 go_enter Tryd.func53,Tryd.ntmps53
 go_upto_region 2 with fail
 clear e0 e4
 obtain⟨Z0,hZ0⟩:∃ Z0,(((w.alloc (.cells #[.slice S y.sites.length c,.slice R y.rests.length d,.int .i64 y.c0,.int .i64 y.c1,.int .i64 y.c2] 26)).alloc (.cells #[.int .i64 e.day,.int .i64 e.kind,.string e.site,.int .i64 e.level,.string e.remain,.int .i64 e.cont,.bool e.order] 29)).alloc (.cells #[.string ⟨#[]⟩,.int .i64 0,.string ⟨#[]⟩,.int .i64 0,.int .i64 0,.int .i64 0] 38)).alloc (.cells #[.string e.remain,.int .i64 0,.string ⟨#[]⟩,.int .i64 0,.int .i64 0,.int .i64 e.day] 38)=Z0:=⟨_,rfl⟩
 rw[hZ0] at hI ⊢
 clear hZ0
 (obtain⟨y0,y1,y2,y3⟩:=hI.out.i.y.c4;have y4:=hI.out.i.y.c 4 _ rfl;obtain⟨e0,e1,e2,e3⟩:=hI.out.i.e.c4;have e4:=hI.out.i.e.c 4 _ rfl;have e5:=hI.out.i.e.c 5 _ rfl;obtain⟨n0,n1,n2,n3⟩:=hI.out.nx.c4;have n4:=hI.out.nx.c 4 _ rfl;have n5:=hI.out.nx.c 5 _ rfl;have f1:=hI.out.nx.free 1 (by simp))
 go_upto_region 5 with fail
 clear y0 y1 y2 y3 y4 e0 e1 e2 e3 e4 e5 n0 n1 n2 n3 n4 n5 f1
 replace hI:=Lib.hid (hI.out.below ((Below.refl Z0.heap.size Z0).drew))
 obtain⟨X,hX⟩:∃ X,Z0.drew=X:=⟨_,rfl⟩
 rw[hX] at hI
 refine wp_region_held_drew (S:=Sx w [(w.heap.size+1,2,.string e.site),(w.heap.size+1,3,.int .i64 e.level),(w.heap.size+1,5,.int .i64 e.cont)]) (by kernel_rfl) (by rw[hX];exact (Sx.mk (by simp only[cs_iff_cons];exact⟨hI.out.i.e.c 2 _ rfl,hI.out.i.e.c 3 _ rfl,hI.out.i.e.c 5 _ rfl,cs_nil _⟩) hI.out.i.bel)) (fun hHeld=>?_)
 rw[hX] at hHeld ⊢
 clear hX
 have hOs:=hI.out.nx.lt
 have hkp:∀ (X1 X2:World),Sx w [(w.heap.size+1,2,.string e.site),(w.heap.size+1,3,.int .i64 e.level),(w.heap.size+1,5,.int .i64 e.cont)] X1→X1.heap.size=X.heap.size→X1.grownBy X2 (some (w.heap.size+1+1+1))→Sx w [(w.heap.size+1,2,.string e.site),(w.heap.size+1,3,.int .i64 e.level),(w.heap.size+1,5,.int .i64 e.cont)] X2:=fun X1 X2 h hz hg=>h.keep hg (fun x hx=>by simp at hx;rcases hx with rfl | rfl | rfl <;> exact⟨by dsimp only;omega,by dsimp only;omega⟩) (by omega)
 have hkp:=Lib.hid hkp
 have hN0:=hI.out.nx
 have c1:=hN0.c 1 _ rfl;have g1:=hN0.free 1 (by simp)
 refine tkHx 0 19 ?_
 refine tkHx 1 20 ?_
 refine tkHx 2 21 ?_
 refine tkHx 3 22 ?_
 refine tkHx 4 23 ?_
 refine tkHx 5 24 ?_
 refine tkHx 6 25 ?_
 (refine ratHx 7 (fun K hK=>?_);go_simp)
 refine hK.out _ _ (hkp.out _ _ hHeld rfl (grown_set _ _ _ _)) (fun hHeld=>?_)
 clear hK K
 (try simp only[apS,apN,siA,scZ,scS])
 have hN1:=hN0.set 1 (.int .i64 1) (by simp)
 have c2:=hN1.c 2 _ rfl;have g2:=hN1.free 2 (by simp)
 clear c1 g1
 refine tkHx 8 26 ?_
 (refine ratHx 9 (fun K hK=>?_);go_simp)
 refine hK.out _ _ (hkp.out _ _ hHeld (World.size_setCell ..) (grown_set _ _ _ _)) (fun hHeld=>?_)
 clear hK K
 (try simp only[apS,apN,siA,scZ,scS])
 have hN2:=hN1.set 2 (.string e.site) (by simp)
 have c3:=hN2.c 3 _ rfl;have g3:=hN2.free 3 (by simp)
 clear c2 g2
 refine tkHx 10 27 ?_
 (refine ratHx 11 (fun K hK=>?_);go_simp)
 refine hK.out _ _ (hkp.out _ _ hHeld (by simp) (grown_set _ _ _ _)) (fun hHeld=>?_)
 clear hK K
 (try simp only[apS,apN,siA,scZ,scS])
 have hN3:=hN2.set 3 (.int .i64 e.level) (by simp)
 have c4:=hN3.c 4 _ rfl;have g4:=hN3.free 4 (by simp)
 clear c3 g3
 refine tkHx 12 28 ?_
 (refine ratHx 13 (fun K hK=>?_);go_simp)
 refine hK.out _ _ (hkp.out _ _ hHeld (by simp) (grown_set _ _ _ _)) (fun hHeld=>?_)
 clear hK K
 (try simp only[apS,apN,siA,scZ,scS])
 refine wpAnyH_done (by kernel_rfl) ?_ _
 have hN4:=hN3.set 4 (.int .i64 e.cont) (by simp)
 clear c4 g4 hHeld
 replace hI:=Lib.hid (hI.out.next (nx':=⟨e.remain,1,e.site,e.level,e.cont,e.day⟩) hN4 ((((grown_set _ _ _ _).trans (grown_set _ _ _ _)).trans (grown_set _ _ _ _)).trans (grown_set _ _ _ _)))
 clear hN0 hN1 hN2 hN3 hN4 hkp
 obtain⟨W,hW⟩:∃ W,(((X.setCell ⟨w.heap.size+1+1+1,1,none⟩ (.int .i64 1)).setCell ⟨w.heap.size+1+1+1,2,none⟩ (.string e.site)).setCell ⟨w.heap.size+1+1+1,3,none⟩ (.int .i64 e.level)).setCell ⟨w.heap.size+1+1+1,4,none⟩ (.int .i64 e.cont)=W:=⟨_,rfl⟩
 rw[hW] at hI ⊢
 clear hW
 (obtain⟨y0,y1,y2,y3⟩:=hI.out.i.y.c4;have y4:=hI.out.i.y.c 4 _ rfl;obtain⟨e0,e1,e2,e3⟩:=hI.out.i.e.c4;have e4:=hI.out.i.e.c 4 _ rfl;have e5:=hI.out.i.e.c 5 _ rfl;obtain⟨n0,n1,n2,n3⟩:=hI.out.nx.c4;have n4:=hI.out.nx.c 4 _ rfl;have n5:=hI.out.nx.c 5 _ rfl;have f1:=hI.out.nx.free 1 (by simp))
 go_upto_region 6 with fail
 clear y0 y1 y2 y3 y4 e0 e1 e2 e3 e4 e5 n0 n1 n2 n3 n4 n5 f1
 replace hI:=Lib.hid (hI.out.below ((Below.refl W.heap.size W).drew))
 obtain⟨X,hX⟩:∃ X,W.drew=X:=⟨_,rfl⟩
 rw[hX] at hI
 have hbX:=Lib.hid hI.out.i.bel
 refine wp_region_held_drew (S:=Sx X [(w.heap.size+1,2,.string e.site),(w.heap.size,0,.slice S y.sites.length c),(w.heap.size,1,.slice R y.rests.length d),(w.heap.size,2,.int .i64 y.c0),(w.heap.size,3,.int .i64 y.c1),(w.heap.size,4,.int .i64 y.c2)]) (by kernel_rfl) (by rw[hX];exact (Sx.mk (by simp only[cs_iff_cons];exact⟨hI.out.i.e.c 2 _ rfl,hI.out.i.y.c 0 _ rfl,hI.out.i.y.c 1 _ rfl,hI.out.i.y.c 2 _ rfl,hI.out.i.y.c 3 _ rfl,hI.out.i.y.c 4 _ rfl,cs_nil _⟩) (Below.refl _ _))) (fun hHeld=>?_)
 rw[hX] at hHeld ⊢
 clear hX
 refine tkHx 0 29 ?_
 refine tkHx 1 30 ?_
 refine tkHx 2 31 ?_
 refine tkHx 3 32 ?_
 refine tkHx 4 33 ?_
 (refine ratHx 5 (fun K hK=>?_);go_simp)
 refine (hsR.out _ hbX.out).mono ?_
 rintro e9 wk ⟨i,rfl,hi,hbk⟩
 go_simp
 (refine hK.out _ _ (hHeld.step hbk) (fun hHeld=>?_);clear hK K;(try simp only[apS,apN,siA,scZ,scS]))
 obtain⟨k2,b2,o2,rfl,hkk2,hS2,hsc⟩:=hcl.out X hbX.out hi
 subst hS2
 refine tkHx 6 35 ?_
 refine tkHx 7 36 ?_
 refine tkHx 8 37 (hy:=by (intro w' hSw;obtain⟨q0,q1,q2,q3,q4,q5⟩:=(SiteC.below hsc hSw.bel).c;go_simp;(try with_reducible rfl))) ?_
 refine tkHx 9 38 ?_
 refine wpAnyH_done (by kernel_rfl) ?_ _
 replace hI:=Lib.hid (hI.out.below hHeld.bel)
 clear hHeld hsc
 by_cases k3:s.kind=3
 ·have kq:(s.kind == 3)=true:=by simp[k3]
  clear k3
  (obtain⟨y0,y1,y2,y3⟩:=hI.out.i.y.c4;have y4:=hI.out.i.y.c 4 _ rfl;obtain⟨e0,e1,e2,e3⟩:=hI.out.i.e.c4;have e4:=hI.out.i.e.c 4 _ rfl;have e5:=hI.out.i.e.c 5 _ rfl;obtain⟨n0,n1,n2,n3⟩:=hI.out.nx.c4;have n4:=hI.out.nx.c 4 _ rfl;have n5:=hI.out.nx.c 5 _ rfl;have f1:=hI.out.nx.free 1 (by simp))
  go_upto_region 13 with fail
  clear y0 y1 y2 y3 y4 e0 e1 e2 e3 e4 e5 n0 n1 n2 n3 n4 n5 f1
  replace hI:=Lib.hid (hI.out.next (nx':=⟨e.remain,3,e.site,e.level,e.cont,e.day⟩) (hI.out.nx.set 1 (.int .i64 3) (by simp)) (grown_set _ _ _ _))
  obtain⟨Y,hY⟩:∃ Y,wk.setCell ⟨w.heap.size+1+1+1,1,none⟩ (.int .i64 3)=Y:=⟨_,rfl⟩
  rw[hY] at hI ⊢
  clear hY
  have hfin:Hid (LotOk y ⟨e.remain,3,e.site,e.level,e.cont,e.day⟩):=⟨hnum.out,fun h=>(by cases h)⟩
  (obtain⟨y0,y1,y2,y3⟩:=hI.out.i.y.c4;have y4:=hI.out.i.y.c 4 _ rfl;obtain⟨e0,e1,e2,e3⟩:=hI.out.i.e.c4;have e4:=hI.out.i.e.c 4 _ rfl;have e5:=hI.out.i.e.c 5 _ rfl;obtain⟨n0,n1,n2,n3⟩:=hI.out.nx.c4;have n4:=hI.out.nx.c 4 _ rfl;have n5:=hI.out.nx.c 5 _ rfl;have f1:=hI.out.nx.free 1 (by simp))
  go_wp2_with (refine wpList_store_box rfl 38 (.tmp 6) (.tmp 62) rfl (w.heap.size+1+1) _ [.string e.remain,.int .i64 3,.string e.site,.int .i64 e.level,.int .i64 e.cont,.int .i64 e.day] (by rfl) (by rfl) hI.out.r rfl ltSz (by kernel_rfl) ?_;intro w4 h4 hg4)
  refine bodyPost_ret (results_mid1 rfl _ _ (w.heap.size+1+1) [.string e.remain,.int .i64 3,.string e.site,.int .i64 e.level,.int .i64 e.cont,.int .i64 e.day] _ rfl h4.range Tryd.underlying38 rfl ltSz) rfl ?_
  exact⟨⟨e.remain,3,e.site,e.level,e.cont,e.day⟩,rfl,rfl,hfin.out,below_of_grownB hI.out.i.bel hg4 (by omega)⟩
 have kq:(s.kind == 3)=false:=by simp[k3]
 clear k3
 have hfin:Hid (LotOk y ⟨e.remain,1,e.site,e.level,e.cont,e.day⟩):=⟨hnum.out,fun _=>hputz.out⟩
 (obtain⟨y0,y1,y2,y3⟩:=hI.out.i.y.c4;have y4:=hI.out.i.y.c 4 _ rfl;obtain⟨e0,e1,e2,e3⟩:=hI.out.i.e.c4;have e4:=hI.out.i.e.c 4 _ rfl;have e5:=hI.out.i.e.c 5 _ rfl;obtain⟨n0,n1,n2,n3⟩:=hI.out.nx.c4;have n4:=hI.out.nx.c 4 _ rfl;have n5:=hI.out.nx.c 5 _ rfl;have f1:=hI.out.nx.free 1 (by simp))
 go_wp2_with (refine wpList_store_box rfl 38 (.tmp 6) (.tmp 62) rfl (w.heap.size+1+1) _ [.string e.remain,.int .i64 1,.string e.site,.int .i64 e.level,.int .i64 e.cont,.int .i64 e.day] (by rfl) (by rfl) hI.out.r rfl ltSz (by kernel_rfl) ?_;intro w4 h4 hg4)
 refine bodyPost_ret (results_mid1 rfl _ _ (w.heap.size+1+1) [.string e.remain,.int .i64 1,.string e.site,.int .i64 e.level,.int .i64 e.cont,.int .i64 e.day] _ rfl h4.range Tryd.underlying38 rfl ltSz) rfl ?_
 exact⟨⟨e.remain,1,e.site,e.level,e.cont,e.day⟩,rfl,rfl,hfin.out,below_of_grownB hI.out.i.bel hg4 (by omega)⟩
theorem lotOfR_take (S R:Option Addr) (c d:Nat) (y:Yd) (A:Option Addr) (ac:Nat) (l:List Lot) (e:Ev) (w:World) (hL:LotsR w A y l) (he:Cal.eventE e=0) (hk:¬(e.kind=0∨e.kind=2)) (htk:∃ k t,FirstL l e.remain k t∧t.state=1) :
  Calls Tryd.prog 53 #[.agg #[.slice S y.sites.length c,.slice R y.rests.length d,.int .i64 y.c0,.int .i64 y.c1,.int .i64 y.c2],.slice A l.length ac,.agg #[.int .i64 e.day,.int .i64 e.kind,.string e.site,.int .i64 e.level,.string e.remain,.int .i64 e.cont,.bool e.order]] w (LtR w y e):=by
 have hI:=Lib.hid (RlI.start w S R c d y e)
 have hall:=event_all he
 have hday:=Lib.hid hall.1
 have hl:=hL.len
 have hF:=Lib.hid (fun w1 (h:Below w.heap.size w w1)=>findR_any A ac l e.remain w1 (hL.rows.below h) hl)
 have hLz:=Lib.hid (fun w' (h:Below w.heap.size w w')=>hL.rows.below h)
 have hlo:=Lib.hid hL.ok
 obtain⟨kk,tt,hft,hstt⟩:=htk
 have hftz:=Lib.hid hft
 have hsttz:=Lib.hid hstt
 clear hft hstt hL he
 have q0:(e.kind == 0)=false:=by simp;omega
 have q2:(e.kind == 2)=false:=by simp;omega
 have e0:=(RfI.start w S R c d y e).e.c 0 _ rfl
 have e4:=(RfI.start w S R c d y e).e.c 4 _ rfl
 by_cases k3:e.kind=3
 ·have q3:(e.kind == 3)=true:=by simp[k3]
  have hlev:=Lib.hid (hall.2.2.2 k3)
  clear k3 hall hk
  go_enter Tryd.func53,Tryd.ntmps53
  go_upto_region 2 with fail
  clear e0 e4
  obtain⟨Z0,hZ0⟩:∃ Z0,(((w.alloc (.cells #[.slice S y.sites.length c,.slice R y.rests.length d,.int .i64 y.c0,.int .i64 y.c1,.int .i64 y.c2] 26)).alloc (.cells #[.int .i64 e.day,.int .i64 e.kind,.string e.site,.int .i64 e.level,.string e.remain,.int .i64 e.cont,.bool e.order] 29)).alloc (.cells #[.string ⟨#[]⟩,.int .i64 0,.string ⟨#[]⟩,.int .i64 0,.int .i64 0,.int .i64 0] 38)).alloc (.cells #[.string e.remain,.int .i64 0,.string ⟨#[]⟩,.int .i64 0,.int .i64 0,.int .i64 e.day] 38)=Z0:=⟨_,rfl⟩
  rw[hZ0] at hI ⊢
  clear hZ0
  (obtain⟨y0,y1,y2,y3⟩:=hI.out.i.y.c4;have y4:=hI.out.i.y.c 4 _ rfl;obtain⟨e0,e1,e2,e3⟩:=hI.out.i.e.c4;have e4:=hI.out.i.e.c 4 _ rfl;have e5:=hI.out.i.e.c 5 _ rfl;obtain⟨n0,n1,n2,n3⟩:=hI.out.nx.c4;have n4:=hI.out.nx.c 4 _ rfl;have n5:=hI.out.nx.c 5 _ rfl;have f1:=hI.out.nx.free 1 (by simp))
  go_upto_region 10 with (go_at_call 70;refine (hF.out _ hI.out.i.bel).mono ?_;rintro e9 wn ⟨i,rfl,hi,rfl⟩;obtain⟨k,t,rfl,hfl⟩:∃ (k:Nat) (t:Lot),i=(k:Int)∧FirstL l e.remain k t:=(by rcases hi with ⟨_,h⟩ | h;exact absurd hftz.out.2.1 (h _ (List.mem_of_getElem? hftz.out.1));exact h);obtain⟨b,o,hS2,hbl,hc⟩:=lotRow_at (hLz.out _ hI.out.i.bel) hfl.1;have hkk:(k:Int)<(l.length:Int):=(by have:=(List.getElem?_eq_some_iff.1 hfl.1).1;omega);subst hS2;have c0:=hc 0 _ rfl;have c1:=hc 1 _ rfl;have c2:=hc 2 _ rfl;have c3:=hc 3 _ rfl;have c4:=hc 4 _ rfl;have c5:=hc 5 _ rfl;rw[Nat.add_zero] at c0;clear hc)
  obtain⟨_,hte⟩:=hfl.same hftz.out
  have htk:=hlo.out t (List.mem_of_getElem? hfl.1)
  have hst:t.state=1:=by rw[hte];exact hsttz.out
  have hnum:=Lib.hid htk.num
  have hsite:=Lib.hid (htk.site hst)
  clear htk hst hte hfl hF hLz c0 c1 c2 c3 c4 c5 hbl hkk
  clear y0 y1 y2 y3 y4 e0 e1 e2 e3 e4 e5 n0 n1 n2 n3 n4 n5 f1
  have hB8:=Lib.hid (BoxAt.new wn #[.string t.remain,.int .i64 t.state,.string t.site,.int .i64 t.level,.int .i64 t.cont,.int .i64 t.since] 38)
  have hZl:=hI.out.nx.lt
  replace hI:=Lib.hid (hI.out.below (below_alloc wn (.cells #[.string t.remain,.int .i64 t.state,.string t.site,.int .i64 t.level,.int .i64 t.cont,.int .i64 t.since] 38)))
  generalize wn.alloc (.cells #[.string t.remain,.int .i64 t.state,.string t.site,.int .i64 t.level,.int .i64 t.cont,.int .i64 t.since] 38)=Z1 at *
  generalize wn.heap.size=B8 at *
  replace hB8:=Lib.hid (hB8.out.below ((Below.refl Z1.heap.size Z1).drew))
  replace hI:=Lib.hid (hI.out.below ((Below.refl Z1.heap.size Z1).drew))
  obtain⟨X,hX⟩:∃ X,Z1.drew=X:=⟨_,rfl⟩
  rw[hX] at hI
  rw[hX] at hB8
  refine wp_region_held_drew (S:=Sx w [(w.heap.size+1,3,.int .i64 e.level),(B8,2,.string t.site),(B8,4,.int .i64 t.cont)]) (by kernel_rfl) (by rw[hX];exact (Sx.mk (by simp only[cs_iff_cons];exact⟨hI.out.i.e.c 3 _ rfl,hB8.out.c 2 _ rfl,hB8.out.c 4 _ rfl,cs_nil _⟩) hI.out.i.bel)) (fun hHeld=>?_)
  rw[hX] at hHeld ⊢
  clear hX
  have hOs:=hI.out.nx.lt
  have hB8l:=hB8.out.lt
  have hkp:∀ (X1 X2:World),Sx w [(w.heap.size+1,3,.int .i64 e.level),(B8,2,.string t.site),(B8,4,.int .i64 t.cont)] X1→X1.heap.size=X.heap.size→X1.grownBy X2 (some (w.heap.size+1+1+1))→Sx w [(w.heap.size+1,3,.int .i64 e.level),(B8,2,.string t.site),(B8,4,.int .i64 t.cont)] X2:=fun X1 X2 h hz hg=>h.keep hg (fun x hx=>by simp at hx;rcases hx with rfl | rfl | rfl <;> exact⟨by dsimp only;omega,by dsimp only;omega⟩) (by omega)
  have hkp:=Lib.hid hkp
  have hN0:=hI.out.nx
  have c1:=hN0.c 1 _ rfl;have g1:=hN0.free 1 (by simp)
  clear hZl hB8l hB8
  refine tkHx 0 49 ?_
  refine tkHx 1 50 ?_
  refine tkHx 2 51 ?_
  refine tkHx 3 52 ?_
  refine tkHx 4 53 ?_
  refine tkHx 5 54 ?_
  refine tkHx 6 55 ?_
  (refine ratHx 7 (fun K hK=>?_);go_simp)
  refine hK.out _ _ (hkp.out _ _ hHeld rfl (grown_set _ _ _ _)) (fun hHeld=>?_)
  clear hK K
  (try simp only[apS,apN,siA,scZ,scS])
  have hN1:=hN0.set 1 (.int .i64 1) (by simp)
  have c2:=hN1.c 2 _ rfl;have g2:=hN1.free 2 (by simp)
  clear c1 g1
  refine tkHx 8 56 ?_
  (refine ratHx 9 (fun K hK=>?_);go_simp)
  refine hK.out _ _ (hkp.out _ _ hHeld (World.size_setCell ..) (grown_set _ _ _ _)) (fun hHeld=>?_)
  clear hK K
  (try simp only[apS,apN,siA,scZ,scS])
  have hN2:=hN1.set 2 (.string t.site) (by simp)
  have c3:=hN2.c 3 _ rfl;have g3:=hN2.free 3 (by simp)
  clear c2 g2
  refine tkHx 10 57 ?_
  (refine ratHx 11 (fun K hK=>?_);go_simp)
  refine hK.out _ _ (hkp.out _ _ hHeld (by simp) (grown_set _ _ _ _)) (fun hHeld=>?_)
  clear hK K
  (try simp only[apS,apN,siA,scZ,scS])
  have hN3:=hN2.set 3 (.int .i64 e.level) (by simp)
  have c4:=hN3.c 4 _ rfl;have g4:=hN3.free 4 (by simp)
  clear c3 g3
  refine tkHx 12 58 ?_
  (refine ratHx 13 (fun K hK=>?_);go_simp)
  refine hK.out _ _ (hkp.out _ _ hHeld (by simp) (grown_set _ _ _ _)) (fun hHeld=>?_)
  clear hK K
  (try simp only[apS,apN,siA,scZ,scS])
  refine wpAnyH_done (by kernel_rfl) ?_ _
  have hN4:=hN3.set 4 (.int .i64 t.cont) (by simp)
  clear c4 g4 hHeld
  replace hI:=Lib.hid (hI.out.next (nx':=⟨e.remain,1,t.site,e.level,t.cont,e.day⟩) hN4 ((((grown_set _ _ _ _).trans (grown_set _ _ _ _)).trans (grown_set _ _ _ _)).trans (grown_set _ _ _ _)))
  clear hN0 hN1 hN2 hN3 hN4 hkp
  obtain⟨W,hW⟩:∃ W,(((X.setCell ⟨w.heap.size+1+1+1,1,none⟩ (.int .i64 1)).setCell ⟨w.heap.size+1+1+1,2,none⟩ (.string t.site)).setCell ⟨w.heap.size+1+1+1,3,none⟩ (.int .i64 e.level)).setCell ⟨w.heap.size+1+1+1,4,none⟩ (.int .i64 t.cont)=W:=⟨_,rfl⟩
  rw[hW] at hI ⊢
  clear hW
  have hfin:Hid (LotOk y ⟨e.remain,1,t.site,e.level,t.cont,e.day⟩):=⟨⟨hlev.out,hday.out,hnum.out.2.2⟩,fun _=>hsite.out⟩
  (obtain⟨y0,y1,y2,y3⟩:=hI.out.i.y.c4;have y4:=hI.out.i.y.c 4 _ rfl;obtain⟨e0,e1,e2,e3⟩:=hI.out.i.e.c4;have e4:=hI.out.i.e.c 4 _ rfl;have e5:=hI.out.i.e.c 5 _ rfl;obtain⟨n0,n1,n2,n3⟩:=hI.out.nx.c4;have n4:=hI.out.nx.c 4 _ rfl;have n5:=hI.out.nx.c 5 _ rfl;have f1:=hI.out.nx.free 1 (by simp))
  go_wp2_with (refine wpList_store_box rfl 38 (.tmp 6) (.tmp 62) rfl (w.heap.size+1+1) _ [.string e.remain,.int .i64 1,.string t.site,.int .i64 e.level,.int .i64 t.cont,.int .i64 e.day] (by rfl) (by rfl) hI.out.r rfl ltSz (by kernel_rfl) ?_;intro w4 h4 hg4)
  refine bodyPost_ret (results_mid1 rfl _ _ (w.heap.size+1+1) [.string e.remain,.int .i64 1,.string t.site,.int .i64 e.level,.int .i64 t.cont,.int .i64 e.day] _ rfl h4.range Tryd.underlying38 rfl ltSz) rfl ?_
  exact⟨⟨e.remain,1,t.site,e.level,t.cont,e.day⟩,rfl,rfl,hfin.out,below_of_grownB hI.out.i.bel hg4 (by omega)⟩
 have q3:(e.kind == 3)=false:=by simp[k3]
 by_cases k4:e.kind=4
 ·have q4:(e.kind == 4)=true:=by simp[k4]
  clear k3 k4 hk
  go_enter Tryd.func53,Tryd.ntmps53
  go_upto_region 2 with fail
  clear e0 e4
  obtain⟨Z0,hZ0⟩:∃ Z0,(((w.alloc (.cells #[.slice S y.sites.length c,.slice R y.rests.length d,.int .i64 y.c0,.int .i64 y.c1,.int .i64 y.c2] 26)).alloc (.cells #[.int .i64 e.day,.int .i64 e.kind,.string e.site,.int .i64 e.level,.string e.remain,.int .i64 e.cont,.bool e.order] 29)).alloc (.cells #[.string ⟨#[]⟩,.int .i64 0,.string ⟨#[]⟩,.int .i64 0,.int .i64 0,.int .i64 0] 38)).alloc (.cells #[.string e.remain,.int .i64 0,.string ⟨#[]⟩,.int .i64 0,.int .i64 0,.int .i64 e.day] 38)=Z0:=⟨_,rfl⟩
  rw[hZ0] at hI ⊢
  clear hZ0
  (obtain⟨y0,y1,y2,y3⟩:=hI.out.i.y.c4;have y4:=hI.out.i.y.c 4 _ rfl;obtain⟨e0,e1,e2,e3⟩:=hI.out.i.e.c4;have e4:=hI.out.i.e.c 4 _ rfl;have e5:=hI.out.i.e.c 5 _ rfl;obtain⟨n0,n1,n2,n3⟩:=hI.out.nx.c4;have n4:=hI.out.nx.c 4 _ rfl;have n5:=hI.out.nx.c 5 _ rfl;have f1:=hI.out.nx.free 1 (by simp))
  go_upto_region 13 with fail
  clear y0 y1 y2 y3 y4 e0 e1 e2 e3 e4 e5 n0 n1 n2 n3 n4 n5 f1
  replace hI:=Lib.hid (hI.out.next (nx':=⟨e.remain,2,⟨#[]⟩,0,0,e.day⟩) (hI.out.nx.set 1 (.int .i64 2) (by simp)) (grown_set _ _ _ _))
  obtain⟨Y,hY⟩:∃ Y,Z0.setCell ⟨w.heap.size+1+1+1,1,none⟩ (.int .i64 2)=Y:=⟨_,rfl⟩
  rw[hY] at hI ⊢
  clear hY
  have hfin:Hid (LotOk y ⟨e.remain,2,⟨#[]⟩,0,0,e.day⟩):=⟨⟨⟨Int.le_refl 0,by show (0:Int)≤11;decide⟩,hday.out,⟨Int.le_refl 0,by show (0:Int)≤2;decide⟩⟩,fun h=>(by cases h)⟩
  (obtain⟨y0,y1,y2,y3⟩:=hI.out.i.y.c4;have y4:=hI.out.i.y.c 4 _ rfl;obtain⟨e0,e1,e2,e3⟩:=hI.out.i.e.c4;have e4:=hI.out.i.e.c 4 _ rfl;have e5:=hI.out.i.e.c 5 _ rfl;obtain⟨n0,n1,n2,n3⟩:=hI.out.nx.c4;have n4:=hI.out.nx.c 4 _ rfl;have n5:=hI.out.nx.c 5 _ rfl;have f1:=hI.out.nx.free 1 (by simp))
  go_wp2_with (refine wpList_store_box rfl 38 (.tmp 6) (.tmp 62) rfl (w.heap.size+1+1) _ [.string e.remain,.int .i64 2,.string ⟨#[]⟩,.int .i64 0,.int .i64 0,.int .i64 e.day] (by rfl) (by rfl) hI.out.r rfl ltSz (by kernel_rfl) ?_;intro w4 h4 hg4)
  refine bodyPost_ret (results_mid1 rfl _ _ (w.heap.size+1+1) [.string e.remain,.int .i64 2,.string ⟨#[]⟩,.int .i64 0,.int .i64 0,.int .i64 e.day] _ rfl h4.range Tryd.underlying38 rfl ltSz) rfl ?_
  exact⟨⟨e.remain,2,⟨#[]⟩,0,0,e.day⟩,rfl,rfl,hfin.out,below_of_grownB hI.out.i.bel hg4 (by omega)⟩
 have q4:(e.kind == 4)=false:=by simp[k4]
 clear k3 k4 hk
 go_enter Tryd.func53,Tryd.ntmps53
 go_upto_region 2 with fail
 clear e0 e4
 obtain⟨Z0,hZ0⟩:∃ Z0,(((w.alloc (.cells #[.slice S y.sites.length c,.slice R y.rests.length d,.int .i64 y.c0,.int .i64 y.c1,.int .i64 y.c2] 26)).alloc (.cells #[.int .i64 e.day,.int .i64 e.kind,.string e.site,.int .i64 e.level,.string e.remain,.int .i64 e.cont,.bool e.order] 29)).alloc (.cells #[.string ⟨#[]⟩,.int .i64 0,.string ⟨#[]⟩,.int .i64 0,.int .i64 0,.int .i64 0] 38)).alloc (.cells #[.string e.remain,.int .i64 0,.string ⟨#[]⟩,.int .i64 0,.int .i64 0,.int .i64 e.day] 38)=Z0:=⟨_,rfl⟩
 rw[hZ0] at hI ⊢
 clear hZ0
 (obtain⟨y0,y1,y2,y3⟩:=hI.out.i.y.c4;have y4:=hI.out.i.y.c 4 _ rfl;obtain⟨e0,e1,e2,e3⟩:=hI.out.i.e.c4;have e4:=hI.out.i.e.c 4 _ rfl;have e5:=hI.out.i.e.c 5 _ rfl;obtain⟨n0,n1,n2,n3⟩:=hI.out.nx.c4;have n4:=hI.out.nx.c 4 _ rfl;have n5:=hI.out.nx.c 5 _ rfl;have f1:=hI.out.nx.free 1 (by simp))
 have hfin:Hid (LotOk y (nx0 e)):=⟨⟨⟨Int.le_refl 0,by show (0:Int)≤11;decide⟩,hday.out,⟨Int.le_refl 0,by show (0:Int)≤2;decide⟩⟩,fun h=>(by cases h)⟩
 clear y0 y1 y2 y3 y4 e0 e1 e2 e3 e4 e5 n0 n1 n2 n3 n4 n5 f1
 (obtain⟨y0,y1,y2,y3⟩:=hI.out.i.y.c4;have y4:=hI.out.i.y.c 4 _ rfl;obtain⟨e0,e1,e2,e3⟩:=hI.out.i.e.c4;have e4:=hI.out.i.e.c 4 _ rfl;have e5:=hI.out.i.e.c 5 _ rfl;obtain⟨n0,n1,n2,n3⟩:=hI.out.nx.c4;have n4:=hI.out.nx.c 4 _ rfl;have n5:=hI.out.nx.c 5 _ rfl;have f1:=hI.out.nx.free 1 (by simp))
 go_wp2_with (refine wpList_store_box rfl 38 (.tmp 6) (.tmp 62) rfl (w.heap.size+1+1) _ [.string e.remain,.int .i64 0,.string ⟨#[]⟩,.int .i64 0,.int .i64 0,.int .i64 e.day] (by rfl) (by rfl) hI.out.r rfl ltSz (by kernel_rfl) ?_;intro w4 h4 hg4)
 refine bodyPost_ret (results_mid1 rfl _ _ (w.heap.size+1+1) [.string e.remain,.int .i64 0,.string ⟨#[]⟩,.int .i64 0,.int .i64 0,.int .i64 e.day] _ rfl h4.range Tryd.underlying38 rfl ltSz) rfl ?_
 exact⟨nx0 e,rfl,rfl,hfin.out,below_of_grownB hI.out.i.bel hg4 (by omega)⟩
end Go.Proofs.YtcnfhnndppollaaDoor
