/- What the statements rest on: definitions and walks, part 19. -/
import Derived.Test.YthfokpchdlcidaaGreatJ18
import Derived.Test.YthfokpchdlcidaaGreatJ14
set_option maxRecDepth 100000
set_option maxHeartbeats 16000000
set_option linter.unusedSimpArgs false
set_option linter.unusedVariables false
namespace Go.Proofs.YthfokpchdlcidaaGreat
open Go Go.RowKit Go.Shelf
theorem tri_cells {w:World} {V:Option Addr} {x y z:Pt} (h:RowsAt w V 2 ([x,y,z].map ptR)):∃ b o,V=some ⟨b,o,none⟩∧b<w.heap.size∧w.cell? ⟨b,o,none⟩=some (.int .i64 x.x)∧w.cell? ⟨b,o+1,none⟩=some (.int .i64 x.y)∧w.cell? ⟨b,o+2,none⟩=some (.int .i64 y.x)∧w.cell? ⟨b,o+3,none⟩=some (.int .i64 y.y)∧w.cell? ⟨b,o+4,none⟩=some (.int .i64 z.x)∧w.cell? ⟨b,o+5,none⟩=some (.int .i64 z.y):=by
 obtain⟨b,o,rfl,hb,h0⟩:=h 0 (ptR x) rfl
 obtain⟨b1,o1,e1,_,h1⟩:=h 1 (ptR y) rfl
 obtain⟨b2,o2,e2,_,h2⟩:=h 2 (ptR z) rfl
 cases e1
 cases e2
 have a0:=h0 0 _ rfl
 have a1:=h0 1 _ rfl
 rw[Nat.zero_mul,Nat.zero_add] at a0 a1
 exact⟨b,o,rfl,hb,a0,a1,h1 0 _ rfl,h1 1 _ rfl,h2 0 _ rfl,h2 1 _ rfl⟩
def apAt (s t:List Pt) (i:Nat):Bool:=decide (Cal.crs (Cal.sd s i) (t[0]?.getD Cal.pt0)≤0) && (decide (Cal.crs (Cal.sd s i) (t[1]?.getD Cal.pt0)≤0) && decide (Cal.crs (Cal.sd s i) (t[2]?.getD Cal.pt0)≤0))
theorem ap_none {s t:List Pt} (h:∀ j,j<3→apAt s t j=false):Cal.apartR s t=false:=by
 unfold Cal.apartR
 rw[List.any_eq_false]
 intro j hj
 have:=h j (List.mem_range.1 hj)
 unfold apAt at this
 rw[this];decide
theorem ap_some {s t:List Pt} {j:Nat} (hj:j<3) (h:apAt s t j=true):Cal.apartR s t=true:=by
 unfold Cal.apartR
 rw[List.any_eq_true]
 exact⟨j,List.mem_range.2 hj,h⟩
theorem apartR_any (V:Option Addr) (d:Nat) (s:List Pt) (V2:Option Addr) (d2:Nat) (x y z:Pt) (w:World) (hS:Pts w V s) (hs3:s.length=3) (hT:RowsAt w V2 2 ([x,y,z].map ptR)) (hx:SmP x) (hy:SmP y) (hz:SmP z) :
  Calls Tryz.prog 92 #[.slice V 3 d,.slice V2 3 d2] w fun e w'=>e=.returned (.bool (Cal.apartR s [x,y,z]))∧Below w.heap.size w w':=by
 obtain⟨R,hR⟩:∃ R,Cal.apartR s [x,y,z]=R:=⟨_,rfl⟩
 rw[hR]
 replace hR:=Lib.hid hR
 have hPR:Hid (PtsR w V s):=⟨hS.rows,hS.size,hS.own⟩
 have hsm:=Lib.hid (fun k hk=>hS.sd k hk)
 have hb0:Hid (Below w.heap.size w w):=Below.refl _ _
 replace hT:=Lib.hid hT
 have hs3':=Lib.hid hs3
 clear hS hs3
 go_enter Tryz.func92,Tryz.ntmps92
 go_wp2_with fail
 go_loopw [5] (fun i wr=>∃ k:Nat,k≤3∧i=.int .i64 k∧Hid (∀ j,j<k→apAt s [x,y,z] j=false)∧Hid (Below w.heap.size w wr)) (fun i _=>3-(intOf i).toNat)
 case atStart=>exact⟨0,Nat.zero_le _,rfl,fun j h=>by omega,hb0⟩
 case round =>
  clear hb0
  obtain⟨k,hk,rfl,hno,hb⟩:=hrel
  by_cases hlt:k<3
  ·have hU:SmS (Cal.sd s k):=hsm.out k (by rw[hs3'.out];exact hlt)
   have hsd:Hid (∀ W,Below w.heap.size w W→Calls Tryz.prog 84 #[.slice V 3 d,.int .i64 (k:Int)] W fun e w'=>e=.returned (.agg #[.int .i64 (Cal.sd s k).a.x,.int .i64 (Cal.sd s k).a.y,.int .i64 (Cal.sd s k).b.x,.int .i64 (Cal.sd s k).b.y])∧Below W.heap.size W w'):=fun W hW=>by
    have:=sideR_any V d s k W (hPR.out.below hW) (by rw[hs3'.out];exact hlt) (by rw[hs3'.out];decide)
    rw[hs3'.out] at this
    exact this
   have hap:Hid (apAt s [x,y,z] k=(decide (Cal.crs (Cal.sd s k) x≤0) && (decide (Cal.crs (Cal.sd s k) y≤0) && decide (Cal.crs (Cal.sd s k) z≤0)))):=rfl
   generalize Cal.sd s k=u at *
   have hc0:Hid (∀ W,Calls Tryz.prog 93 #[.agg #[.int .i64 u.a.x,.int .i64 u.a.y],.agg #[.int .i64 u.b.x,.int .i64 u.b.y],.agg #[.int .i64 x.x,.int .i64 x.y]] W fun e w'=>e=.returned (.int .i64 (Cal.crs u x))∧Below W.heap.size W w'):=fun W=>crossR_any u.a u.b x W hU.a hU.b hx
   have hc1:Hid (∀ W,Calls Tryz.prog 93 #[.agg #[.int .i64 u.a.x,.int .i64 u.a.y],.agg #[.int .i64 u.b.x,.int .i64 u.b.y],.agg #[.int .i64 y.x,.int .i64 y.y]] W fun e w'=>e=.returned (.int .i64 (Cal.crs u y))∧Below W.heap.size W w'):=fun W=>crossR_any u.a u.b y W hU.a hU.b hy
   have hc2:Hid (∀ W,Calls Tryz.prog 93 #[.agg #[.int .i64 u.a.x,.int .i64 u.a.y],.agg #[.int .i64 u.b.x,.int .i64 u.b.y],.agg #[.int .i64 z.x,.int .i64 z.y]] W fun e w'=>e=.returned (.int .i64 (Cal.crs u z))∧Below W.heap.size W w'):=fun W=>crossR_any u.a u.b z W hU.a hU.b hz
   have hki:(k:Int)<3:=by omega
   generalize Cal.crs u x=k0 at *
   generalize Cal.crs u y=k1 at *
   generalize Cal.crs u z=k2 at *
   have next:apAt s [x,y,z] k=false→Hid (∀ j,j<k+1→apAt s [x,y,z] j=false):=fun h j hj=>by
    rcases Nat.lt_succ_iff_lt_or_eq.1 hj with h' | h'
    ·exact hno.out j h'
    rw[h'];exact h
   by_cases q0:k0≤0
   ·have f0:decide (k0≤0)=true:=decide_eq_true q0
    by_cases q1:k1≤0
    ·have f1:decide (k1≤0)=true:=decide_eq_true q1
     by_cases q2:k2≤0
     ·have f2:decide (k2≤0)=true:=decide_eq_true q2
      have hRt:Hid (R=true):=by show _=_;rw[←hR.out];exact ap_some hlt (by rw[hap.out,f0,f1,f2];rfl)
      clear next hap hno
      go_wp2_with (go_at_call 84;refine (hsd.out _ hb.out).mono ?_;rintro e w1 ⟨rfl,hb1⟩;have hB1:=Lib.hid (BoxAt.new w1 #[.int .i64 u.a.x,.int .i64 u.a.y,.int .i64 u.b.x,.int .i64 u.b.y] 90);have hbz:=Lib.hid (below_step (below_step hb.out hb1) (below_alloc w1 (.cells #[.int .i64 u.a.x,.int .i64 u.a.y,.int .i64 u.b.x,.int .i64 u.b.y] 90)));have hT1:=Lib.hid ((hT.out.below hb.out).below (below_step hb1 (below_alloc w1 (.cells #[.int .i64 u.a.x,.int .i64 u.a.y,.int .i64 u.b.x,.int .i64 u.b.y] 90))));clear hb1 hsd)
      obtain⟨bT,oT,rfl,hbT,m0,m1,m2,m3,m4,m5⟩:=tri_cells hT1.out
      obtain⟨c0,c1,c2,c3⟩:=hB1.out.c4
      go_wp2_with fail
      generalize hW2:w1.alloc (.cells #[.int .i64 u.a.x,.int .i64 u.a.y,.int .i64 u.b.x,.int .i64 u.b.y] 90)=W2 at *
      generalize w1.heap.size=B6 at *
      clear hW2
      refine wp_region_held_drew (S:=Sx W2 [(B6,0,.int .i64 u.a.x),(B6,1,.int .i64 u.a.y),(B6,2,.int .i64 u.b.x),(B6,3,.int .i64 u.b.y),(bT,oT,.int .i64 x.x),(bT,oT+1,.int .i64 x.y),(bT,oT+2,.int .i64 y.x),(bT,oT+3,.int .i64 y.y),(bT,oT+4,.int .i64 z.x),(bT,oT+5,.int .i64 z.y)]) (by kernel_rfl) (Sx.mk (by simp only[cs_iff_cons];exact⟨c0,c1,c2,c3,m0,m1,m2,m3,m4,m5,cs_nil _⟩) (Below.refl _ _)).drew (fun hHeld=>?_)
      clear c0 c1 c2 c3 m0 m1 m2 m3 m4 m5
      refine tkHx 0 14 ?_
      refine tkHx 1 15 ?_
      refine tkHx 2 16 ?_
      refine tkHx 3 17 ?_
      refine tkHx 4 18 ?_
      refine tkHx 5 19 ?_
      refine tkHx 6 20 ?_
      (refine ratHx 7 (fun K hK=>?_);go_simp)
      refine (hc0.out _).mono ?_
      rintro e wn ⟨rfl,hbn⟩
      go_simp
      (refine hK.out _ _ (hHeld.step hbn) (fun hHeld=>?_);clear hK K;(try simp only[apS,apN,siA,scZ,scS]))
      refine tkHx 8 22 ?_
      refine tkHx 9 23 ?_
      refine tkHx 10 24 ?_
      refine tkHx 11 25 ?_
      refine tkHx 12 26 ?_
      refine tkHx 13 27 ?_
      refine tkHx 14 28 ?_
      refine tkHx 15 29 ?_
      refine tkHx 16 30 ?_
      (refine ratHx 17 (fun K hK=>?_);go_simp)
      refine (hc1.out _).mono ?_
      rintro e wn ⟨rfl,hbn⟩
      go_simp
      (refine hK.out _ _ (hHeld.step hbn) (fun hHeld=>?_);clear hK K;(try simp only[apS,apN,siA,scZ,scS]))
      refine tkHx 18 32 ?_
      refine tkHx 19 33 ?_
      refine tkHx 20 34 ?_
      refine tkHx 21 35 ?_
      refine tkHx 22 36 ?_
      refine tkHx 23 37 ?_
      refine tkHx 24 38 ?_
      refine tkHx 25 39 ?_
      refine tkHx 26 40 ?_
      refine tkHx 27 41 ?_
      (refine ratHx 28 (fun K hK=>?_);go_simp)
      refine (hc2.out _).mono ?_
      rintro e wn ⟨rfl,hbn⟩
      go_simp
      (refine hK.out _ _ (hHeld.step hbn) (fun hHeld=>?_);clear hK K;(try simp only[apS,apN,siA,scZ,scS]))
      refine tkHx 29 43 ?_
      refine tkHx 30 44 ?_
      refine wpAnyH_done (by kernel_rfl) ?_ _
      (try simp only[apS,apN,siA,scZ,scS])
      have hbe:=Lib.hid (below_step hbz.out hHeld.bel)
      clear hHeld
      go_wp2_with fail
      go_ret
      exact⟨by rw[hRt.out];rfl,hbe.out⟩
     have f2:decide (k2≤0)=false:=decide_eq_false q2
     have hno2:=next (by rw[hap.out,f0,f1,f2];rfl)
     clear next hap hno
     go_wp2_with (go_at_call 84;refine (hsd.out _ hb.out).mono ?_;rintro e w1 ⟨rfl,hb1⟩;have hB1:=Lib.hid (BoxAt.new w1 #[.int .i64 u.a.x,.int .i64 u.a.y,.int .i64 u.b.x,.int .i64 u.b.y] 90);have hbz:=Lib.hid (below_step (below_step hb.out hb1) (below_alloc w1 (.cells #[.int .i64 u.a.x,.int .i64 u.a.y,.int .i64 u.b.x,.int .i64 u.b.y] 90)));have hT1:=Lib.hid ((hT.out.below hb.out).below (below_step hb1 (below_alloc w1 (.cells #[.int .i64 u.a.x,.int .i64 u.a.y,.int .i64 u.b.x,.int .i64 u.b.y] 90))));clear hb1 hsd)
     obtain⟨bT,oT,rfl,hbT,m0,m1,m2,m3,m4,m5⟩:=tri_cells hT1.out
     obtain⟨c0,c1,c2,c3⟩:=hB1.out.c4
     go_wp2_with fail
     generalize hW2:w1.alloc (.cells #[.int .i64 u.a.x,.int .i64 u.a.y,.int .i64 u.b.x,.int .i64 u.b.y] 90)=W2 at *
     generalize w1.heap.size=B6 at *
     clear hW2
     refine wp_region_held_drew (S:=Sx W2 [(B6,0,.int .i64 u.a.x),(B6,1,.int .i64 u.a.y),(B6,2,.int .i64 u.b.x),(B6,3,.int .i64 u.b.y),(bT,oT,.int .i64 x.x),(bT,oT+1,.int .i64 x.y),(bT,oT+2,.int .i64 y.x),(bT,oT+3,.int .i64 y.y),(bT,oT+4,.int .i64 z.x),(bT,oT+5,.int .i64 z.y)]) (by kernel_rfl) (Sx.mk (by simp only[cs_iff_cons];exact⟨c0,c1,c2,c3,m0,m1,m2,m3,m4,m5,cs_nil _⟩) (Below.refl _ _)).drew (fun hHeld=>?_)
     clear c0 c1 c2 c3 m0 m1 m2 m3 m4 m5
     refine tkHx 0 14 ?_
     refine tkHx 1 15 ?_
     refine tkHx 2 16 ?_
     refine tkHx 3 17 ?_
     refine tkHx 4 18 ?_
     refine tkHx 5 19 ?_
     refine tkHx 6 20 ?_
     (refine ratHx 7 (fun K hK=>?_);go_simp)
     refine (hc0.out _).mono ?_
     rintro e wn ⟨rfl,hbn⟩
     go_simp
     (refine hK.out _ _ (hHeld.step hbn) (fun hHeld=>?_);clear hK K;(try simp only[apS,apN,siA,scZ,scS]))
     refine tkHx 8 22 ?_
     refine tkHx 9 23 ?_
     refine tkHx 10 24 ?_
     refine tkHx 11 25 ?_
     refine tkHx 12 26 ?_
     refine tkHx 13 27 ?_
     refine tkHx 14 28 ?_
     refine tkHx 15 29 ?_
     refine tkHx 16 30 ?_
     (refine ratHx 17 (fun K hK=>?_);go_simp)
     refine (hc1.out _).mono ?_
     rintro e wn ⟨rfl,hbn⟩
     go_simp
     (refine hK.out _ _ (hHeld.step hbn) (fun hHeld=>?_);clear hK K;(try simp only[apS,apN,siA,scZ,scS]))
     refine tkHx 18 32 ?_
     refine tkHx 19 33 ?_
     refine tkHx 20 34 ?_
     refine tkHx 21 35 ?_
     refine tkHx 22 36 ?_
     refine tkHx 23 37 ?_
     refine tkHx 24 38 ?_
     refine tkHx 25 39 ?_
     refine tkHx 26 40 ?_
     refine tkHx 27 41 ?_
     (refine ratHx 28 (fun K hK=>?_);go_simp)
     refine (hc2.out _).mono ?_
     rintro e wn ⟨rfl,hbn⟩
     go_simp
     (refine hK.out _ _ (hHeld.step hbn) (fun hHeld=>?_);clear hK K;(try simp only[apS,apN,siA,scZ,scS]))
     refine tkHx 29 43 ?_
     refine tkHx 30 44 ?_
     refine wpAnyH_done (by kernel_rfl) ?_ _
     (try simp only[apS,apN,siA,scZ,scS])
     have hbe:=Lib.hid (below_step hbz.out hHeld.bel)
     clear hHeld
     go_wp2_with fail
     go_roundw
     case rel=>exact⟨k+1,by omega,by go_num,hno2,hbe⟩
     case measure=>simp[intOf];omega
    have f1:decide (k1≤0)=false:=decide_eq_false q1
    have hno2:=next (by rw[hap.out,f0,f1];rfl)
    clear next hap hno
    go_wp2_with (go_at_call 84;refine (hsd.out _ hb.out).mono ?_;rintro e w1 ⟨rfl,hb1⟩;have hB1:=Lib.hid (BoxAt.new w1 #[.int .i64 u.a.x,.int .i64 u.a.y,.int .i64 u.b.x,.int .i64 u.b.y] 90);have hbz:=Lib.hid (below_step (below_step hb.out hb1) (below_alloc w1 (.cells #[.int .i64 u.a.x,.int .i64 u.a.y,.int .i64 u.b.x,.int .i64 u.b.y] 90)));have hT1:=Lib.hid ((hT.out.below hb.out).below (below_step hb1 (below_alloc w1 (.cells #[.int .i64 u.a.x,.int .i64 u.a.y,.int .i64 u.b.x,.int .i64 u.b.y] 90))));clear hb1 hsd)
    obtain⟨bT,oT,rfl,hbT,m0,m1,m2,m3,m4,m5⟩:=tri_cells hT1.out
    obtain⟨c0,c1,c2,c3⟩:=hB1.out.c4
    go_wp2_with fail
    generalize hW2:w1.alloc (.cells #[.int .i64 u.a.x,.int .i64 u.a.y,.int .i64 u.b.x,.int .i64 u.b.y] 90)=W2 at *
    generalize w1.heap.size=B6 at *
    clear hW2
    refine wp_region_held_drew (S:=Sx W2 [(B6,0,.int .i64 u.a.x),(B6,1,.int .i64 u.a.y),(B6,2,.int .i64 u.b.x),(B6,3,.int .i64 u.b.y),(bT,oT,.int .i64 x.x),(bT,oT+1,.int .i64 x.y),(bT,oT+2,.int .i64 y.x),(bT,oT+3,.int .i64 y.y),(bT,oT+4,.int .i64 z.x),(bT,oT+5,.int .i64 z.y)]) (by kernel_rfl) (Sx.mk (by simp only[cs_iff_cons];exact⟨c0,c1,c2,c3,m0,m1,m2,m3,m4,m5,cs_nil _⟩) (Below.refl _ _)).drew (fun hHeld=>?_)
    clear c0 c1 c2 c3 m0 m1 m2 m3 m4 m5
    refine tkHx 0 14 ?_
    refine tkHx 1 15 ?_
    refine tkHx 2 16 ?_
    refine tkHx 3 17 ?_
    refine tkHx 4 18 ?_
    refine tkHx 5 19 ?_
    refine tkHx 6 20 ?_
    (refine ratHx 7 (fun K hK=>?_);go_simp)
    refine (hc0.out _).mono ?_
    rintro e wn ⟨rfl,hbn⟩
    go_simp
    (refine hK.out _ _ (hHeld.step hbn) (fun hHeld=>?_);clear hK K;(try simp only[apS,apN,siA,scZ,scS]))
    refine tkHx 8 22 ?_
    refine tkHx 9 23 ?_
    refine tkHx 10 24 ?_
    refine tkHx 11 25 ?_
    refine tkHx 12 26 ?_
    refine tkHx 13 27 ?_
    refine tkHx 14 28 ?_
    refine tkHx 15 29 ?_
    refine tkHx 16 30 ?_
    (refine ratHx 17 (fun K hK=>?_);go_simp)
    refine (hc1.out _).mono ?_
    rintro e wn ⟨rfl,hbn⟩
    go_simp
    (refine hK.out _ _ (hHeld.step hbn) (fun hHeld=>?_);clear hK K;(try simp only[apS,apN,siA,scZ,scS]))
    refine tkHx 18 32 ?_
    refine tkHx 19 33 ?_
    refine tkHx 20 34 ?_
    refine tkFx 21 35 ?_
    refine tkFx 22 36 ?_
    refine tkFx 23 37 ?_
    refine tkFx 24 38 ?_
    refine tkFx 25 39 ?_
    refine tkFx 26 40 ?_
    refine tkFx 27 41 ?_
    refine tkFx 28 42 ?_
    refine tkFx 29 43 ?_
    refine tkHx 30 44 ?_
    refine wpAnyH_done (by kernel_rfl) ?_ _
    (try simp only[apS,apN,siA,scZ,scS])
    have hbe:=Lib.hid (below_step hbz.out hHeld.bel)
    clear hHeld
    go_wp2_with fail
    go_roundw
    case rel=>exact⟨k+1,by omega,by go_num,hno2,hbe⟩
    case measure=>simp[intOf];omega
   have f0:decide (k0≤0)=false:=decide_eq_false q0
   have hno2:=next (by rw[hap.out,f0];rfl)
   clear next hap hno
   go_wp2_with (go_at_call 84;refine (hsd.out _ hb.out).mono ?_;rintro e w1 ⟨rfl,hb1⟩;have hB1:=Lib.hid (BoxAt.new w1 #[.int .i64 u.a.x,.int .i64 u.a.y,.int .i64 u.b.x,.int .i64 u.b.y] 90);have hbz:=Lib.hid (below_step (below_step hb.out hb1) (below_alloc w1 (.cells #[.int .i64 u.a.x,.int .i64 u.a.y,.int .i64 u.b.x,.int .i64 u.b.y] 90)));have hT1:=Lib.hid ((hT.out.below hb.out).below (below_step hb1 (below_alloc w1 (.cells #[.int .i64 u.a.x,.int .i64 u.a.y,.int .i64 u.b.x,.int .i64 u.b.y] 90))));clear hb1 hsd)
   obtain⟨bT,oT,rfl,hbT,m0,m1,m2,m3,m4,m5⟩:=tri_cells hT1.out
   obtain⟨c0,c1,c2,c3⟩:=hB1.out.c4
   go_wp2_with fail
   generalize hW2:w1.alloc (.cells #[.int .i64 u.a.x,.int .i64 u.a.y,.int .i64 u.b.x,.int .i64 u.b.y] 90)=W2 at *
   generalize w1.heap.size=B6 at *
   clear hW2
   refine wp_region_held_drew (S:=Sx W2 [(B6,0,.int .i64 u.a.x),(B6,1,.int .i64 u.a.y),(B6,2,.int .i64 u.b.x),(B6,3,.int .i64 u.b.y),(bT,oT,.int .i64 x.x),(bT,oT+1,.int .i64 x.y),(bT,oT+2,.int .i64 y.x),(bT,oT+3,.int .i64 y.y),(bT,oT+4,.int .i64 z.x),(bT,oT+5,.int .i64 z.y)]) (by kernel_rfl) (Sx.mk (by simp only[cs_iff_cons];exact⟨c0,c1,c2,c3,m0,m1,m2,m3,m4,m5,cs_nil _⟩) (Below.refl _ _)).drew (fun hHeld=>?_)
   clear c0 c1 c2 c3 m0 m1 m2 m3 m4 m5
   refine tkHx 0 14 ?_
   refine tkHx 1 15 ?_
   refine tkHx 2 16 ?_
   refine tkHx 3 17 ?_
   refine tkHx 4 18 ?_
   refine tkHx 5 19 ?_
   refine tkHx 6 20 ?_
   (refine ratHx 7 (fun K hK=>?_);go_simp)
   refine (hc0.out _).mono ?_
   rintro e wn ⟨rfl,hbn⟩
   go_simp
   (refine hK.out _ _ (hHeld.step hbn) (fun hHeld=>?_);clear hK K;(try simp only[apS,apN,siA,scZ,scS]))
   refine tkHx 8 22 ?_
   refine tkHx 9 23 ?_
   refine tkFx 10 24 ?_
   refine tkFx 11 25 ?_
   refine tkFx 12 26 ?_
   refine tkFx 13 27 ?_
   refine tkFx 14 28 ?_
   refine tkFx 15 29 ?_
   refine tkFx 16 30 ?_
   refine tkFx 17 31 ?_
   refine tkFx 18 32 ?_
   refine tkHx 19 33 ?_
   refine tkHx 20 34 ?_
   refine tkFx 21 35 ?_
   refine tkFx 22 36 ?_
   refine tkFx 23 37 ?_
   refine tkFx 24 38 ?_
   refine tkFx 25 39 ?_
   refine tkFx 26 40 ?_
   refine tkFx 27 41 ?_
   refine tkFx 28 42 ?_
   refine tkFx 29 43 ?_
   refine tkHx 30 44 ?_
   refine wpAnyH_done (by kernel_rfl) ?_ _
   (try simp only[apS,apN,siA,scZ,scS])
   have hbe:=Lib.hid (below_step hbz.out hHeld.bel)
   clear hHeld
   go_wp2_with fail
   go_roundw
   case rel=>exact⟨k+1,by omega,by go_num,hno2,hbe⟩
   case measure=>simp[intOf];omega
  have hk3:k=3:=by omega
  subst hk3
  have hRf:Hid (R=false):=by show _=_;rw[←hR.out];exact ap_none hno.out
  go_wp2_with fail
  go_ret
  exact⟨by rw[hRf.out];rfl,hb.out⟩
end Go.Proofs.YthfokpchdlcidaaGreat
namespace Go.Proofs.YthfokpchdlcidaaGreat
open Go Go.RowKit Go.Shelf
theorem rows_new {m:Nat} (w:World) (l:List (List Value)) (hw:∀ r∈l,r.length=m) (cs:Array Value) (hcs:cs=l.flatten.toArray) (t:TypeId):RowsAt (w.alloc (.cells cs t)) (some ⟨w.heap.size,0,none⟩) m l:=by
 subst hcs
 exact fun k r hr=>⟨w.heap.size,0,rfl,by simp,fun j v hv=>by rw[cell_alloc_at,Nat.zero_add];simpa using flat_get hw hr hv⟩
theorem ptsR_new (w:World) (ps:List Pt) (hl:ps.length≤1000000) (cs:Array Value) (hcs:cs=(ps.map ptR).flatten.toArray) (t:TypeId):PtsR (w.alloc (.cells cs t)) (some ⟨w.heap.size,0,none⟩) ps :=
 ⟨rows_new w _ (fun r hr=>by obtain⟨p,_,rfl⟩:=List.mem_map.1 hr;rfl) cs hcs t,hl,fun ad e _=>by cases e;simp⟩
theorem PtsR.far {w w':World} {b:Nat} {B:Nat} {ps:List Pt} (h:PtsR w (some ⟨b,0,none⟩) ps) (hg:w.grownBy w' (some B)) (hne:b≠B):PtsR w' (some ⟨b,0,none⟩) ps :=
 ⟨h.rows.farI hg (fun a e=>by cases e;exact fun h=>hne (by cases h;rfl)),h.size,fun ad e hl=>Nat.lt_of_lt_of_le (h.own ad e hl) hg.size⟩
theorem lawBox_any (x1 y1 x2 y2:Int) (w:World):Calls Tryz.prog 39 #[.int .i64 x1,.int .i64 y1,.int .i64 x2,.int .i64 y2] w fun e w'=>∃ b,e=.returned (.slice (some ⟨b,0,none⟩) 4 4)∧w.heap.size≤b∧PtsR w' (some ⟨b,0,none⟩) (Cal.boxP x1 y1 x2 y2)∧Below w.heap.size w w':=by
 have hp:=Lib.hid (fun t=>ptsR_new w (Cal.boxP x1 y1 x2 y2) (by simp[Cal.boxP]) #[.int .i64 x1,.int .i64 y1,.int .i64 x2,.int .i64 y1,.int .i64 x2,.int .i64 y2,.int .i64 x1,.int .i64 y2] rfl t)
 go_enter Tryz.func39,Tryz.ntmps39
 go_wp2_with fail
 go_ret
 exact⟨_,rfl,Nat.le_refl _,hp.out _,below_alloc _ _⟩
def triLevs (k:Int):List Lev:=[⟨0,1,100,1⟩,⟨1,2,50,1⟩,⟨0,2,156,k⟩]
theorem lawTri_any (k:Int) (w:World):Calls Tryz.prog 37 #[.int .i64 k] w fun e w'=>∃ A,e=.returned (.slice A 3 3)∧Levs w' A (triLevs k)∧Below w.heap.size w w':=by
 have hp:=Lib.hid (fun t=>rows_new (m:=4) w ((triLevs k).map Lev.cells) (fun r hr=>by obtain⟨p,_,rfl⟩:=List.mem_map.1 hr;rfl) #[.int .i64 0,.int .i64 1,.int .i64 100,.int .i64 1,.int .i64 1,.int .i64 2,.int .i64 50,.int .i64 1,.int .i64 0,.int .i64 2,.int .i64 156,.int .i64 k] rfl t)
 go_enter Tryz.func37,Tryz.ntmps37
 go_wp2_with fail
 go_ret
 exact⟨_,rfl,⟨hp.out _,by simp[triLevs]⟩,below_alloc _ _⟩
end Go.Proofs.YthfokpchdlcidaaGreat
namespace Go.Proofs.YthfokpchdlcidaaGreat
open Go Go.RowKit Go.Shelf
theorem ear_idx {n i:Nat} (hi:i<n) (hn:n≤1000000) :
  IntKind.i64.wrap ((i:Int)+(n:Int))=((i+n:Nat):Int)∧IntKind.i64.wrap (((i+n:Nat):Int)-1)=((i+n-1:Nat):Int)∧((i+n-1:Nat):Int).tmod (n:Int)=(((i+n-1) % n:Nat):Int) ∧
  IntKind.i64.wrap ((i:Int)+1)=((i+1:Nat):Int)∧((i+1:Nat):Int).tmod (n:Int)=(((i+1) % n:Nat):Int)∧IntKind.i64.wrap ((((i+n-1) % n:Nat)):Int)=(((i+n-1) % n:Nat):Int)∧IntKind.i64.wrap ((((i+1) % n:Nat)):Int)=(((i+1) % n:Nat):Int):=by
 have h1:=Nat.mod_lt (i+n-1) (show 0<n by omega)
 have h2:=Nat.mod_lt (i+1) (show 0<n by omega)
 refine⟨?_,?_,rfl,?_,rfl,wrap_small (by omega) (by omega),wrap_small (by omega) (by omega)⟩
 ·rw[wrap_small (by omega) (by omega)];omega
 ·rw[wrap_small (by omega) (by omega)];omega
 rw[wrap_small (by omega) (by omega)];omega
theorem three_new (Y:World) (c:Array Value) (t:TypeId):BoxAt (((Y.alloc (.cells c t)).alloc (.cells c t)).alloc (.cells c t)) Y.heap.size c.toList∧BoxAt (((Y.alloc (.cells c t)).alloc (.cells c t)).alloc (.cells c t)) (Y.heap.size+1) c.toList∧BoxAt (((Y.alloc (.cells c t)).alloc (.cells c t)).alloc (.cells c t)) (Y.heap.size+1+1) c.toList:=by
 refine⟨((BoxAt.new Y c t).alloc _).alloc _,?_,?_⟩
 ·have:=(BoxAt.new (Y.alloc (.cells c t)) c t).alloc (.cells c t)
  rwa [World.size_alloc] at this
 have:=BoxAt.new ((Y.alloc (.cells c t)).alloc (.cells c t)) c t
 rwa [World.size_alloc,World.size_alloc] at this
theorem earR_any (V:Option Addr) (d:Nat) (ps:List Pt) (i:Nat) (w:World) (hP:Pts w V ps) (hi:i<ps.length) :
  Calls Tryz.prog 121 #[.slice V ps.length d,.int .i64 (i:Int)] w fun e w'=>e=.returned (.int .i64 (Cal.earR ps i))∧Below w.heap.size w w':=by
 have hsz:=hP.size
 obtain⟨R,hR⟩:∃ R,Cal.earR ps i=R:=⟨_,rfl⟩
 rw[hR]
 have m1:=Nat.mod_lt (i+ps.length-1) (Nat.lt_of_le_of_lt (Nat.zero_le _) hi)
 have m2:=Nat.mod_lt (i+1) (Nat.lt_of_le_of_lt (Nat.zero_le _) hi)
 have r1:(((i+ps.length-1) % ps.length:Nat):Int)<(ps.length:Int):=Int.ofNat_lt.2 m1
 have r2:(((i+1) % ps.length:Nat):Int)<(ps.length:Int):=Int.ofNat_lt.2 m2
 have r3:(i:Int)<(ps.length:Int):=Int.ofNat_lt.2 hi
 have hn0:¬ps.length=0:=fun e=>by rw[e] at hi;exact absurd hi (Nat.not_lt_zero _)
 obtain⟨q1,q2,q3,q4,q5,q6,q7⟩:=ear_idx hi hsz
 have q1b:wrap64 ((i:Int)+(ps.length:Int))=((i+ps.length:Nat):Int):=by rw[←wrap_eq];exact q1
 have q2b:wrap64 (((i+ps.length:Nat):Int)-1)=((i+ps.length-1:Nat):Int):=by rw[←wrap_eq];exact q2
 have q4b:wrap64 ((i:Int)+1)=((i+1:Nat):Int):=by rw[←wrap_eq];exact q4
 have ea:Cal.earA ps i=ps[(i+ps.length-1) % ps.length]:=by unfold Cal.earA;rw[List.getElem?_eq_getElem m1];rfl
 have eb:Cal.earB ps i=ps[i]:=by unfold Cal.earB;rw[List.getElem?_eq_getElem hi];rfl
 have ec:Cal.earC ps i=ps[(i+1) % ps.length]:=by unfold Cal.earC;rw[List.getElem?_eq_getElem m2];rfl
 have sa:SmP (Cal.earA ps i):=by rw[ea];exact hP.sm _ (List.getElem_mem m1)
 have sb:SmP (Cal.earB ps i):=by rw[eb];exact hP.sm _ (List.getElem_mem hi)
 have sc:SmP (Cal.earC ps i):=by rw[ec];exact hP.sm _ (List.getElem_mem m2)
 obtain⟨b,o,rfl,hbl,a0,a1⟩:=pts_at hP.rows (List.getElem?_eq_getElem m1)
 obtain⟨b',o',hA,_,b0,b1⟩:=pts_at hP.rows (List.getElem?_eq_getElem hi)
 cases hA
 obtain⟨b',o',hA,_,c0,c1⟩:=pts_at hP.rows (List.getElem?_eq_getElem m2)
 cases hA
 rw[←ea] at a0 a1
 rw[←eb] at b0 b1
 rw[←ec] at c0 c1
 have hcr:Hid (∀ W,Calls Tryz.prog 93 #[.agg #[.int .i64 (Cal.earA ps i).x,.int .i64 (Cal.earA ps i).y],.agg #[.int .i64 (Cal.earB ps i).x,.int .i64 (Cal.earB ps i).y],.agg #[.int .i64 (Cal.earC ps i).x,.int .i64 (Cal.earC ps i).y]] W fun e w'=>e=.returned (.int .i64 (Cal.crs ⟨Cal.earA ps i,Cal.earB ps i⟩ (Cal.earC ps i)))∧Below W.heap.size W w'):=fun W=>crossR_any _ _ _ W sa sb sc
 have hwh:Hid (∀ W B q,SmP q→RowsAt W (some ⟨B,0,none⟩) 2 ([Cal.earA ps i,Cal.earB ps i,Cal.earC ps i].map ptR)→B<W.heap.size→Calls Tryz.prog 51 #[.slice (some ⟨B,0,none⟩) 3 3,.agg #[.int .i64 q.x,.int .i64 q.y]] W fun e w'=>e=.returned (.int .i64 (Cal.whereP [Cal.earA ps i,Cal.earB ps i,Cal.earC ps i] q))∧Below W.heap.size W w'):=fun W B q hq hr hB =>
  WhereR_any (some ⟨B,0,none⟩) 3 [Cal.earA ps i,Cal.earB ps i,Cal.earC ps i] q W ⟨hr,by simp,fun p hp=>by
   rcases List.mem_cons.1 hp with rfl | hp
   ·exact sa
   rcases List.mem_cons.1 hp with rfl | hp
   ·exact sb
   rw[List.mem_singleton.1 hp];exact sc,fun ad e _=>by cases e;exact hB⟩ hq (by simp)
 have hinE:Hid (∀ k (hk:k<ps.length),Cal.inEar ps i k=(!ptB ps[k] (Cal.earA ps i) && (!ptB ps[k] (Cal.earB ps i) && (!ptB ps[k] (Cal.earC ps i) && decide (0≤Cal.whereP [Cal.earA ps i,Cal.earB ps i,Cal.earC ps i] ps[k]))))):=fun k hk=>by
  unfold Cal.inEar
  rw[List.getElem?_eq_getElem hk];rfl
 have hRR:Hid (R=if Cal.crs ⟨Cal.earA ps i,Cal.earB ps i⟩ (Cal.earC ps i)≤0 then (if Cal.crs ⟨Cal.earA ps i,Cal.earB ps i⟩ (Cal.earC ps i)=0 then 0 else -1) else if (List.range ps.length).any (Cal.inEar ps i)=true then -1 else 1):=hR.symm
 replace hP:=Lib.hid hP
 clear sa sb sc ea eb ec hR
 generalize Cal.earA ps i=pa at *
 generalize Cal.earB ps i=pb at *
 generalize Cal.earC ps i=pc at *
 generalize Cal.crs ⟨pa,pb⟩ pc=X at *
 generalize hja:(i+ps.length-1) % ps.length=ja at *
 generalize hjc:(i+1) % ps.length=jc at *
 clear hja hjc
 generalize i+ps.length-1=u1 at *
 generalize i+ps.length=u2 at *
 generalize i+1=u3 at *
 go_enter Tryz.func121,Tryz.ntmps121
 go_wp2_with fail
 go_cut [5,6,7] from 10 to 32 (fun x5 x6 x7 wc=>∃ B5 B6 B7,x5=.pointer (some ⟨B5,0,none⟩)∧x6=.pointer (some ⟨B6,0,none⟩)∧x7=.pointer (some ⟨B7,0,none⟩)∧Hid (BoxAt wc B5 [.int .i64 pa.x,.int .i64 pa.y])∧Hid (BoxAt wc B6 [.int .i64 pb.x,.int .i64 pb.y])∧Hid (BoxAt wc B7 [.int .i64 pc.x,.int .i64 pc.y])∧Hid (Below w.heap.size w wc))
 case first =>
  have hLb:Hid (∀ x∈[(b,o+ja*2,Value.int .i64 pa.x),(b,o+ja*2+1,.int .i64 pa.y),(b,o+i*2,.int .i64 pb.x),(b,o+i*2+1,.int .i64 pb.y),(b,o+jc*2,.int .i64 pc.x),(b,o+jc*2+1,.int .i64 pc.y)],x.1<w.heap.size):=fun x hx=>by
   simp only[List.mem_cons,List.not_mem_nil,or_false] at hx
   rcases hx with rfl | rfl | rfl | rfl | rfl | rfl <;> exact hbl
  refine wp_region_held_drew (S:=Sx w [(b,o+ja*2,.int .i64 pa.x),(b,o+ja*2+1,.int .i64 pa.y),(b,o+i*2,.int .i64 pb.x),(b,o+i*2+1,.int .i64 pb.y),(b,o+jc*2,.int .i64 pc.x),(b,o+jc*2+1,.int .i64 pc.y)]) (by kernel_rfl) (Sx.mk (by simp only[cs_iff_cons];exact⟨a0,a1,b0,b1,c0,c1,cs_nil _⟩) (Below.refl _ _)).drew (fun hHeld=>?_)
  clear a0 a1 b0 b1 c0 c1
  have l0:Hid (w.heap.size≤w.drew.heap.size):=Nat.le_refl _
  generalize w.drew=Y at *
  have l1:Hid (w.heap.size≤Y.heap.size+1):=Nat.le_succ_of_le l0.out
  have l2:Hid (w.heap.size≤Y.heap.size+1+1):=Nat.le_succ_of_le l1.out
  obtain⟨g0,g1,g2⟩:=three_new Y #[.int .i64 0,.int .i64 0] 27
  replace g0:=Lib.hid g0
  replace g1:=Lib.hid g1
  replace g2:=Lib.hid g2
  have n01:Y.heap.size≠Y.heap.size+1:=by omega
  have n02:Y.heap.size≠Y.heap.size+1+1:=by omega
  have n12:Y.heap.size+1≠Y.heap.size+1+1:=by omega
  replace n01:=Lib.hid n01
  replace n02:=Lib.hid n02
  replace n12:=Lib.hid n12
  refine tkHx 0 10 ?_
  refine tkHx 1 11 ?_
  refine tkHx 2 12 ?_
  refine tkHx 3 13 ?_
  refine tkHx 4 14 ?_
  refine tkHx 5 15 ?_
  refine tkHx 6 16 ?_
  refine tkHx 7 17 ?_
  refine tkHx 8 18 ?_
  refine tkHx 9 19 ?_
  refine tkHx 10 20 ?_
  refine tkHx 11 21 ?_
  refine tkHx 12 22 ?_
  refine tkHx 13 23 ?_
  refine tkHx 14 24 ?_
  refine tkHx 15 25 ?_
  refine tkHx 16 26 ?_
  refine tkHx 17 27 ?_
  refine tkHx 18 28 ?_
  refine tkHx 19 29 ?_
  refine tkHx 20 30 ?_
  refine tkHx 21 31 ?_
  refine tkHx 22 32 ?_
  (refine wpAnyH_ready (rs:=[23,24,25]) (by decide +kernel) (by simp) ?_;refine AllReadyH.cons rfl (fun K hK=>?_) (AllReadyH.cons rfl (fun K hK=>?_) (AllReadyH.cons rfl (fun K hK=>?_) AllReadyH.nil)))
  ·(rw[if_pos (by kernel_rfl)];go_simp)
   (refine hK.out _ _ (hHeld.alloc _) (fun hHeld=>?_);clear hK K;(try simp only[apS,apN,siA,scZ,scS]))
   (refine wpAnyH_ready (rs:=[24,25]) (by decide +kernel) (by simp) ?_;refine AllReadyH.cons rfl (fun K hK=>?_) (AllReadyH.cons rfl (fun K hK=>?_) AllReadyH.nil))
   ·(rw[if_pos (by kernel_rfl)];go_simp)
    (refine hK.out _ _ (hHeld.alloc _) (fun hHeld=>?_);clear hK K;(try simp only[apS,apN,siA,scZ,scS]))
    (refine ratHx 25 (fun K hK=>?_);go_simp)
    (refine hK.out _ _ (hHeld.alloc _) (fun hHeld=>?_);clear hK K;(try simp only[apS,apN,siA,scZ,scS]))
    simp only[World.size_alloc] at *
    refine storeP 26 27 (.tmp 5) (.tmp 20) (Y.heap.size) [.int .i64 pa.x,.int .i64 pa.y] l0.out hLb.out hHeld g0 rfl g1 (Ne.symm n01.out) g2 (Ne.symm n02.out) (fun Z1 hHeld x5 x6 x7=>?_)
    refine storeP 27 27 (.tmp 6) (.tmp 24) (Y.heap.size+1) [.int .i64 pb.x,.int .i64 pb.y] l1.out hLb.out hHeld x6 rfl x5 n01.out x7 (Ne.symm n12.out) (fun Z2 hHeld x6 x5 x7=>?_)
    refine storeP 28 27 (.tmp 7) (.tmp 32) (Y.heap.size+1+1) [.int .i64 pc.x,.int .i64 pc.y] l2.out hLb.out hHeld x7 rfl x5 n02.out x6 n12.out (fun Z3 hHeld x7 x5 x6=>?_)
    refine wpAnyH_done (by kernel_rfl) ?_ _
    have hbe:=Lib.hid hHeld.bel
    go_wp2_with fail
    go_meet
    case rel=>exact⟨_,_,_,rfl,rfl,rfl,x5,x6,x7,hbe⟩
   (rw[if_pos (by kernel_rfl)];go_simp)
   (refine hK.out _ _ (hHeld.alloc _) (fun hHeld=>?_);clear hK K;(try simp only[apS,apN,siA,scZ,scS]))
   (refine ratHx 24 (fun K hK=>?_);go_simp)
   (refine hK.out _ _ (hHeld.alloc _) (fun hHeld=>?_);clear hK K;(try simp only[apS,apN,siA,scZ,scS]))
   simp only[World.size_alloc] at *
   refine storeP 26 27 (.tmp 5) (.tmp 20) (Y.heap.size) [.int .i64 pa.x,.int .i64 pa.y] l0.out hLb.out hHeld g0 rfl g2 (Ne.symm n02.out) g1 (Ne.symm n01.out) (fun Z1 hHeld x5 x6 x7=>?_)
   refine storeP 27 27 (.tmp 6) (.tmp 24) (Y.heap.size+1+1) [.int .i64 pb.x,.int .i64 pb.y] l2.out hLb.out hHeld x6 rfl x5 n02.out x7 (Ne.symm n12.out.symm) (fun Z2 hHeld x6 x5 x7=>?_)
   refine storeP 28 27 (.tmp 7) (.tmp 32) (Y.heap.size+1) [.int .i64 pc.x,.int .i64 pc.y] l1.out hLb.out hHeld x7 rfl x5 n01.out x6 n12.out.symm (fun Z3 hHeld x7 x5 x6=>?_)
   refine wpAnyH_done (by kernel_rfl) ?_ _
   have hbe:=Lib.hid hHeld.bel
   go_wp2_with fail
   go_meet
   case rel=>exact⟨_,_,_,rfl,rfl,rfl,x5,x6,x7,hbe⟩
  ·(rw[if_pos (by kernel_rfl)];go_simp)
   (refine hK.out _ _ (hHeld.alloc _) (fun hHeld=>?_);clear hK K;(try simp only[apS,apN,siA,scZ,scS]))
   (refine wpAnyH_ready (rs:=[23,25]) (by decide +kernel) (by simp) ?_;refine AllReadyH.cons rfl (fun K hK=>?_) (AllReadyH.cons rfl (fun K hK=>?_) AllReadyH.nil))
   ·(rw[if_pos (by kernel_rfl)];go_simp)
    (refine hK.out _ _ (hHeld.alloc _) (fun hHeld=>?_);clear hK K;(try simp only[apS,apN,siA,scZ,scS]))
    (refine ratHx 25 (fun K hK=>?_);go_simp)
    (refine hK.out _ _ (hHeld.alloc _) (fun hHeld=>?_);clear hK K;(try simp only[apS,apN,siA,scZ,scS]))
    simp only[World.size_alloc] at *
    refine storeP 26 27 (.tmp 5) (.tmp 20) (Y.heap.size+1) [.int .i64 pa.x,.int .i64 pa.y] l1.out hLb.out hHeld g1 rfl g0 (Ne.symm n01.out.symm) g2 (Ne.symm n12.out) (fun Z1 hHeld x5 x6 x7=>?_)
    refine storeP 27 27 (.tmp 6) (.tmp 24) (Y.heap.size) [.int .i64 pb.x,.int .i64 pb.y] l0.out hLb.out hHeld x6 rfl x5 n01.out.symm x7 (Ne.symm n02.out) (fun Z2 hHeld x6 x5 x7=>?_)
    refine storeP 28 27 (.tmp 7) (.tmp 32) (Y.heap.size+1+1) [.int .i64 pc.x,.int .i64 pc.y] l2.out hLb.out hHeld x7 rfl x5 n12.out x6 n02.out (fun Z3 hHeld x7 x5 x6=>?_)
    refine wpAnyH_done (by kernel_rfl) ?_ _
    have hbe:=Lib.hid hHeld.bel
    go_wp2_with fail
    go_meet
    case rel=>exact⟨_,_,_,rfl,rfl,rfl,x5,x6,x7,hbe⟩
   (rw[if_pos (by kernel_rfl)];go_simp)
   (refine hK.out _ _ (hHeld.alloc _) (fun hHeld=>?_);clear hK K;(try simp only[apS,apN,siA,scZ,scS]))
   (refine ratHx 23 (fun K hK=>?_);go_simp)
   (refine hK.out _ _ (hHeld.alloc _) (fun hHeld=>?_);clear hK K;(try simp only[apS,apN,siA,scZ,scS]))
   simp only[World.size_alloc] at *
   refine storeP 26 27 (.tmp 5) (.tmp 20) (Y.heap.size+1+1) [.int .i64 pa.x,.int .i64 pa.y] l2.out hLb.out hHeld g2 rfl g0 (Ne.symm n02.out.symm) g1 (Ne.symm n12.out.symm) (fun Z1 hHeld x5 x6 x7=>?_)
   refine storeP 27 27 (.tmp 6) (.tmp 24) (Y.heap.size) [.int .i64 pb.x,.int .i64 pb.y] l0.out hLb.out hHeld x6 rfl x5 n02.out.symm x7 (Ne.symm n01.out) (fun Z2 hHeld x6 x5 x7=>?_)
   refine storeP 28 27 (.tmp 7) (.tmp 32) (Y.heap.size+1) [.int .i64 pc.x,.int .i64 pc.y] l1.out hLb.out hHeld x7 rfl x5 n12.out.symm x6 n01.out (fun Z3 hHeld x7 x5 x6=>?_)
   refine wpAnyH_done (by kernel_rfl) ?_ _
   have hbe:=Lib.hid hHeld.bel
   go_wp2_with fail
   go_meet
   case rel=>exact⟨_,_,_,rfl,rfl,rfl,x5,x6,x7,hbe⟩
  (rw[if_pos (by kernel_rfl)];go_simp)
  (refine hK.out _ _ (hHeld.alloc _) (fun hHeld=>?_);clear hK K;(try simp only[apS,apN,siA,scZ,scS]))
  (refine wpAnyH_ready (rs:=[23,24]) (by decide +kernel) (by simp) ?_;refine AllReadyH.cons rfl (fun K hK=>?_) (AllReadyH.cons rfl (fun K hK=>?_) AllReadyH.nil))
  ·(rw[if_pos (by kernel_rfl)];go_simp)
   (refine hK.out _ _ (hHeld.alloc _) (fun hHeld=>?_);clear hK K;(try simp only[apS,apN,siA,scZ,scS]))
   (refine ratHx 24 (fun K hK=>?_);go_simp)
   (refine hK.out _ _ (hHeld.alloc _) (fun hHeld=>?_);clear hK K;(try simp only[apS,apN,siA,scZ,scS]))
   simp only[World.size_alloc] at *
   refine storeP 26 27 (.tmp 5) (.tmp 20) (Y.heap.size+1) [.int .i64 pa.x,.int .i64 pa.y] l1.out hLb.out hHeld g1 rfl g2 (Ne.symm n12.out) g0 (Ne.symm n01.out.symm) (fun Z1 hHeld x5 x6 x7=>?_)
   refine storeP 27 27 (.tmp 6) (.tmp 24) (Y.heap.size+1+1) [.int .i64 pb.x,.int .i64 pb.y] l2.out hLb.out hHeld x6 rfl x5 n12.out x7 (Ne.symm n02.out.symm) (fun Z2 hHeld x6 x5 x7=>?_)
   refine storeP 28 27 (.tmp 7) (.tmp 32) (Y.heap.size) [.int .i64 pc.x,.int .i64 pc.y] l0.out hLb.out hHeld x7 rfl x5 n01.out.symm x6 n02.out.symm (fun Z3 hHeld x7 x5 x6=>?_)
   refine wpAnyH_done (by kernel_rfl) ?_ _
   have hbe:=Lib.hid hHeld.bel
   go_wp2_with fail
   go_meet
   case rel=>exact⟨_,_,_,rfl,rfl,rfl,x5,x6,x7,hbe⟩
  (rw[if_pos (by kernel_rfl)];go_simp)
  (refine hK.out _ _ (hHeld.alloc _) (fun hHeld=>?_);clear hK K;(try simp only[apS,apN,siA,scZ,scS]))
  (refine ratHx 23 (fun K hK=>?_);go_simp)
  (refine hK.out _ _ (hHeld.alloc _) (fun hHeld=>?_);clear hK K;(try simp only[apS,apN,siA,scZ,scS]))
  simp only[World.size_alloc] at *
  refine storeP 26 27 (.tmp 5) (.tmp 20) (Y.heap.size+1+1) [.int .i64 pa.x,.int .i64 pa.y] l2.out hLb.out hHeld g2 rfl g1 (Ne.symm n12.out.symm) g0 (Ne.symm n02.out.symm) (fun Z1 hHeld x5 x6 x7=>?_)
  refine storeP 27 27 (.tmp 6) (.tmp 24) (Y.heap.size+1) [.int .i64 pb.x,.int .i64 pb.y] l1.out hLb.out hHeld x6 rfl x5 n12.out.symm x7 (Ne.symm n01.out.symm) (fun Z2 hHeld x6 x5 x7=>?_)
  refine storeP 28 27 (.tmp 7) (.tmp 32) (Y.heap.size) [.int .i64 pc.x,.int .i64 pc.y] l0.out hLb.out hHeld x7 rfl x5 n02.out.symm x6 n01.out.symm (fun Z3 hHeld x7 x5 x6=>?_)
  refine wpAnyH_done (by kernel_rfl) ?_ _
  have hbe:=Lib.hid hHeld.bel
  go_wp2_with fail
  go_meet
  case rel=>exact⟨_,_,_,rfl,rfl,rfl,x5,x6,x7,hbe⟩
 case rest =>
  obtain⟨B5,B6,B7,rfl,rfl,rfl,h5,h6,h7,hb⟩:=hcut
  clear a0 a1 b0 b1 c0 c1 q1 q2 q3 q4 q5 q6 q7 q1b q2b q4b
  obtain⟨x0,x1⟩:=h5.out.c2;obtain⟨y0,y1⟩:=h6.out.c2;obtain⟨z0,z1⟩:=h7.out.c2
  by_cases hX:X≤0
  ·by_cases hX0:X=0
   ·have hRe:Hid (R=0):=by show _=_;rw[hRR.out,if_pos hX,if_pos hX0]
    clear hRR hwh hinE
    go_wp2_with (go_at_call 93;refine (hcr.out _).mono ?_;rintro e w1 ⟨rfl,hb1⟩;have hbz:=Lib.hid (below_step hb.out hb1);clear hb1)
    go_ret
    exact⟨by rw[hRe.out];rfl,hbz.out⟩
   have hRe:Hid (R=-1):=by show _=_;rw[hRR.out,if_pos hX,if_neg hX0]
   clear hRR hwh hinE
   go_wp2_with (go_at_call 93;refine (hcr.out _).mono ?_;rintro e w1 ⟨rfl,hb1⟩;have hbz:=Lib.hid (below_step hb.out hb1);clear hb1)
   go_ret
   exact⟨by rw[hRe.out];rfl,hbz.out⟩
  replace hRR:Hid (R=if (List.range ps.length).any (Cal.inEar ps i)=true then -1 else 1):=by show _=_;rw[hRR.out,if_neg hX]
  go_wp2_with (go_at_call 93;refine (hcr.out _).mono ?_;rintro e w1 ⟨rfl,hb1⟩;replace h5:=Lib.hid (h5.out.below hb1);replace h6:=Lib.hid (h6.out.below hb1);replace h7:=Lib.hid (h7.out.below hb1);replace hb:=Lib.hid (below_step hb.out hb1);clear hb1 x0 x1 y0 y1 z0 z1)
  clear hcr
  go_loopw [9] (fun kv wr=>∃ k:Nat,k≤ps.length∧kv=.int .i64 k∧Hid (∀ j,j<k→Cal.inEar ps i j=false)∧Hid (BoxAt wr B5 [.int .i64 pa.x,.int .i64 pa.y])∧Hid (BoxAt wr B6 [.int .i64 pb.x,.int .i64 pb.y])∧Hid (BoxAt wr B7 [.int .i64 pc.x,.int .i64 pc.y])∧Hid (Below w.heap.size w wr)) (fun kv _=>ps.length-(intOf kv).toNat)
  case atStart=>exact⟨0,Nat.zero_le _,rfl,fun j h=>by omega,h5,h6,h7,hb⟩
  case round =>
   clear h5 h6 h7 hb
   obtain⟨k,hk,rfl,hno,h5,h6,h7,hb⟩:=hrel
   by_cases hlt:k<ps.length
   ·obtain⟨b9,o9,hA9,_,e0,e1⟩:=pts_at (hP.out.below hb.out).rows (List.getElem?_eq_getElem hlt)
    cases hA9
    have hqs:Hid (SmP ps[k]):=hP.out.sm _ (List.getElem_mem hlt)
    have hin:=hinE.out k hlt
    have hki:(k:Int)<(ps.length:Int):=by omega
    obtain⟨x0,x1⟩:=h5.out.c2;obtain⟨y0,y1⟩:=h6.out.c2;obtain⟨z0,z1⟩:=h7.out.c2
    generalize ps[k]=q at *
    have n1:=pt_neq q pa
    have n2:=pt_neq q pb
    have n3:=pt_neq q pc
    have next:Cal.inEar ps i k=false→Hid (∀ j,j<k+1→Cal.inEar ps i j=false):=fun h j hj=>by
     rcases Nat.lt_succ_iff_lt_or_eq.1 hj with h' | h'
     ·exact hno.out j h'
     rw[h'];exact h
    cases t1:ptB q pa
    ·rw[t1] at n1 hin
     cases t2:ptB q pb
     ·rw[t2] at n2 hin
      cases t3:ptB q pc
      ·rw[t3] at n3 hin
       clear t1 t2 t3
       obtain⟨Z,hZ⟩:∃ Z,Cal.whereP [pa,pb,pc] q=Z:=⟨_,rfl⟩
       replace hwh:=Lib.hid (fun W B (hr:RowsAt W (some ⟨B,0,none⟩) 2 ([pa,pb,pc].map ptR)) (hB:B<W.heap.size)=>hwh.out W B q hqs.out hr hB)
       rw[hZ] at hwh hin
       clear hZ
       by_cases hz:0≤Z
       ·have hRe:Hid (R=-1):=by
         show _=_
         rw[hRR.out,if_pos]
         exact List.any_eq_true.2 ⟨k,List.mem_range.2 hlt,by rw[hin,decide_eq_true hz];rfl⟩
        clear next hin hno hRR hinE h5 h6 h7
        go_wp2_with fail
        refine wp_region_held_drew (S:=Sx wr [(b,o+k*2,.int .i64 q.x),(b,o+k*2+1,.int .i64 q.y),(B5,0,.int .i64 pa.x),(B5,1,.int .i64 pa.y),(B6,0,.int .i64 pb.x),(B6,1,.int .i64 pb.y),(B7,0,.int .i64 pc.x),(B7,1,.int .i64 pc.y)]) (by kernel_rfl) (Sx.mk (by simp only[cs_iff_cons];exact⟨e0,e1,x0,x1,y0,y1,z0,z1,cs_nil _⟩) (Below.refl _ _)).drew (fun hHeld=>?_)
        clear e0 e1 x0 x1 y0 y1 z0 z1
        generalize wr.drew=Y at *
        refine tkHx 0 47 ?_
        refine tkHx 1 48 ?_
        refine tkHx 2 49 ?_
        refine tkHx 3 50 ?_
        refine tkHx 4 51 ?_
        refine tkHx 5 52 ?_
        refine tkHx 6 53 ?_
        refine tkHx 7 54 ?_
        refine tkHx 8 55 ?_
        refine tkHx 9 56 ?_
        refine tkHx 10 57 ?_
        refine tkHx 11 58 ?_
        refine tkHx 12 59 ?_
        refine tkHx 13 60 ?_
        refine tkHx 14 61 ?_
        refine tkHx 15 62 ?_
        refine tkHx 16 63 ?_
        refine tkHx 17 64 ?_
        refine tkHx 18 65 ?_
        refine tkHx 19 66 ?_
        refine tkHx 20 67 ?_
        refine tkHx 21 68 ?_
        refine tkHx 22 69 ?_
        refine tkHx 23 70 ?_
        refine tkHx 24 71 ?_
        refine tkHx 25 72 ?_
        refine tkHx 27 74 ?_
        refine tkHx 28 75 ?_
        refine tkHx 29 76 ?_
        refine tkHx 30 77 ?_
        (refine ratHx 26 (fun K hK=>?_);go_simp)
        refine hK.out _ _ (hHeld.alloc _) (fun hHeld=>?_)
        clear hK K
        (try simp only[apS,apN,siA,scZ,scS])
        have hrw:=Lib.hid (rows_new (m:=2) Y ([pa,pb,pc].map ptR) (fun r hr=>by obtain⟨p,_,rfl⟩:=List.mem_map.1 hr;rfl) #[.int .i64 pa.x,.int .i64 pa.y,.int .i64 pb.x,.int .i64 pb.y,.int .i64 pc.x,.int .i64 pc.y] rfl 27)
        have hwc:=Lib.hid (hwh.out _ _ hrw.out (by rw[World.size_alloc];exact Nat.lt_succ_self _))
        (refine ratHx 31 (fun K hK=>?_);go_simp)
        refine hwc.out.mono ?_
        rintro e wn ⟨rfl,hbn⟩
        go_simp
        (refine hK.out _ _ (hHeld.step hbn) (fun hHeld=>?_);clear hK K;(try simp only[apS,apN,siA,scZ,scS]))
        (try simp only[apS,apN,siA,scZ,scS])
        refine tkHx 32 79 ?_
        refine tkHx 33 80 ?_
        refine wpAnyH_done (by kernel_rfl) ?_ _
        (try simp only[apS,apN,siA,scZ,scS])
        have hbe:=Lib.hid (below_step hb.out hHeld.bel)
        clear hHeld
        go_wp2_with fail
        go_ret
        exact⟨by rw[hRe.out];rfl,hbe.out⟩
       have hno2:=next (by rw[hin,decide_eq_false hz];rfl)
       clear next hin hno
       go_wp2_with fail
       refine wp_region_held_drew (S:=Sx wr [(b,o+k*2,.int .i64 q.x),(b,o+k*2+1,.int .i64 q.y),(B5,0,.int .i64 pa.x),(B5,1,.int .i64 pa.y),(B6,0,.int .i64 pb.x),(B6,1,.int .i64 pb.y),(B7,0,.int .i64 pc.x),(B7,1,.int .i64 pc.y)]) (by kernel_rfl) (Sx.mk (by simp only[cs_iff_cons];exact⟨e0,e1,x0,x1,y0,y1,z0,z1,cs_nil _⟩) (Below.refl _ _)).drew (fun hHeld=>?_)
       clear e0 e1 x0 x1 y0 y1 z0 z1
       generalize wr.drew=Y at *
       refine tkHx 0 47 ?_
       refine tkHx 1 48 ?_
       refine tkHx 2 49 ?_
       refine tkHx 3 50 ?_
       refine tkHx 4 51 ?_
       refine tkHx 5 52 ?_
       refine tkHx 6 53 ?_
       refine tkHx 7 54 ?_
       refine tkHx 8 55 ?_
       refine tkHx 9 56 ?_
       refine tkHx 10 57 ?_
       refine tkHx 11 58 ?_
       refine tkHx 12 59 ?_
       refine tkHx 13 60 ?_
       refine tkHx 14 61 ?_
       refine tkHx 15 62 ?_
       refine tkHx 16 63 ?_
       refine tkHx 17 64 ?_
       refine tkHx 18 65 ?_
       refine tkHx 19 66 ?_
       refine tkHx 20 67 ?_
       refine tkHx 21 68 ?_
       refine tkHx 22 69 ?_
       refine tkHx 23 70 ?_
       refine tkHx 24 71 ?_
       refine tkHx 25 72 ?_
       refine tkHx 27 74 ?_
       refine tkHx 28 75 ?_
       refine tkHx 29 76 ?_
       refine tkHx 30 77 ?_
       (refine ratHx 26 (fun K hK=>?_);go_simp)
       refine hK.out _ _ (hHeld.alloc _) (fun hHeld=>?_)
       clear hK K
       (try simp only[apS,apN,siA,scZ,scS])
       have hrw:=Lib.hid (rows_new (m:=2) Y ([pa,pb,pc].map ptR) (fun r hr=>by obtain⟨p,_,rfl⟩:=List.mem_map.1 hr;rfl) #[.int .i64 pa.x,.int .i64 pa.y,.int .i64 pb.x,.int .i64 pb.y,.int .i64 pc.x,.int .i64 pc.y] rfl 27)
       have hwc:=Lib.hid (hwh.out _ _ hrw.out (by rw[World.size_alloc];exact Nat.lt_succ_self _))
       (refine ratHx 31 (fun K hK=>?_);go_simp)
       refine hwc.out.mono ?_
       rintro e wn ⟨rfl,hbn⟩
       go_simp
       (refine hK.out _ _ (hHeld.step hbn) (fun hHeld=>?_);clear hK K;(try simp only[apS,apN,siA,scZ,scS]))
       (try simp only[apS,apN,siA,scZ,scS])
       refine tkHx 32 79 ?_
       refine tkHx 33 80 ?_
       refine wpAnyH_done (by kernel_rfl) ?_ _
       (try simp only[apS,apN,siA,scZ,scS])
       have hbe:=Lib.hid (below_step hb.out hHeld.bel)
       have g5:=Lib.hid (h5.out.below hHeld.bel)
       have g6:=Lib.hid (h6.out.below hHeld.bel)
       have g7:=Lib.hid (h7.out.below hHeld.bel)
       clear hHeld
       go_wp2_with fail
       go_roundw
       case rel=>exact⟨k+1,by omega,by go_num,hno2,g5,g6,g7,hbe⟩
       case measure=>simp[intOf];omega
      rw[t3] at n3 hin
      have hno2:=next (by rw[hin];rfl)
      clear next hin hno t1 t2 t3 hwh
      go_wp2_with fail
      refine wp_region_held_drew (S:=Sx wr [(b,o+k*2,.int .i64 q.x),(b,o+k*2+1,.int .i64 q.y),(B5,0,.int .i64 pa.x),(B5,1,.int .i64 pa.y),(B6,0,.int .i64 pb.x),(B6,1,.int .i64 pb.y),(B7,0,.int .i64 pc.x),(B7,1,.int .i64 pc.y)]) (by kernel_rfl) (Sx.mk (by simp only[cs_iff_cons];exact⟨e0,e1,x0,x1,y0,y1,z0,z1,cs_nil _⟩) (Below.refl _ _)).drew (fun hHeld=>?_)
      clear e0 e1 x0 x1 y0 y1 z0 z1
      refine tkHx 0 47 ?_
      refine tkHx 1 48 ?_
      refine tkHx 2 49 ?_
      refine tkHx 3 50 ?_
      refine tkHx 4 51 ?_
      refine tkHx 5 52 ?_
      refine tkHx 6 53 ?_
      refine tkHx 7 54 ?_
      refine tkHx 8 55 ?_
      refine tkHx 9 56 ?_
      refine tkHx 10 57 ?_
      refine tkHx 11 58 ?_
      refine tkHx 12 59 ?_
      refine tkHx 13 60 ?_
      refine tkHx 14 61 ?_
      refine tkHx 15 62 ?_
      refine tkHx 16 63 ?_
      refine tkHx 17 64 ?_
      refine tkHx 18 65 ?_
      refine tkHx 19 66 ?_
      refine tkHx 20 67 ?_
      refine tkHx 21 68 ?_
      refine tkHx 22 69 ?_
      refine tkFx 23 70 ?_
      refine tkFx 24 71 ?_
      refine tkFx 25 72 ?_
      refine tkFx 26 73 ?_
      refine tkFx 27 74 ?_
      refine tkFx 28 75 ?_
      refine tkFx 29 76 ?_
      refine tkFx 30 77 ?_
      refine tkFx 31 78 ?_
      refine tkFx 32 79 ?_
      refine tkHx 33 80 ?_
      refine wpAnyH_done (by kernel_rfl) ?_ _
      (try simp only[apS,apN,siA,scZ,scS])
      have hbe:=Lib.hid (below_step hb.out hHeld.bel)
      have g5:=Lib.hid (h5.out.below hHeld.bel)
      have g6:=Lib.hid (h6.out.below hHeld.bel)
      have g7:=Lib.hid (h7.out.below hHeld.bel)
      clear hHeld
      go_wp2_with fail
      go_roundw
      case rel=>exact⟨k+1,by omega,by go_num,hno2,g5,g6,g7,hbe⟩
      case measure=>simp[intOf];omega
     rw[t2] at n2 hin
     have hno2:=next (by rw[hin];rfl)
     clear next hin hno t1 t2 n3 hwh
     go_wp2_with fail
     refine wp_region_held_drew (S:=Sx wr [(b,o+k*2,.int .i64 q.x),(b,o+k*2+1,.int .i64 q.y),(B5,0,.int .i64 pa.x),(B5,1,.int .i64 pa.y),(B6,0,.int .i64 pb.x),(B6,1,.int .i64 pb.y),(B7,0,.int .i64 pc.x),(B7,1,.int .i64 pc.y)]) (by kernel_rfl) (Sx.mk (by simp only[cs_iff_cons];exact⟨e0,e1,x0,x1,y0,y1,z0,z1,cs_nil _⟩) (Below.refl _ _)).drew (fun hHeld=>?_)
     clear e0 e1 x0 x1 y0 y1 z0 z1
     refine tkHx 0 47 ?_
     refine tkHx 1 48 ?_
     refine tkHx 2 49 ?_
     refine tkHx 3 50 ?_
     refine tkHx 4 51 ?_
     refine tkHx 5 52 ?_
     refine tkHx 6 53 ?_
     refine tkHx 7 54 ?_
     refine tkHx 8 55 ?_
     refine tkHx 9 56 ?_
     refine tkHx 10 57 ?_
     refine tkHx 11 58 ?_
     refine tkHx 12 59 ?_
     refine tkHx 13 60 ?_
     refine tkHx 14 61 ?_
     refine tkFx 15 62 ?_
     refine tkFx 16 63 ?_
     refine tkFx 17 64 ?_
     refine tkFx 18 65 ?_
     refine tkFx 19 66 ?_
     refine tkFx 20 67 ?_
     refine tkHx 21 68 ?_
     refine tkHx 22 69 ?_
     refine tkFx 23 70 ?_
     refine tkFx 24 71 ?_
     refine tkFx 25 72 ?_
     refine tkFx 26 73 ?_
     refine tkFx 27 74 ?_
     refine tkFx 28 75 ?_
     refine tkFx 29 76 ?_
     refine tkFx 30 77 ?_
     refine tkFx 31 78 ?_
     refine tkFx 32 79 ?_
     refine tkHx 33 80 ?_
     refine wpAnyH_done (by kernel_rfl) ?_ _
     (try simp only[apS,apN,siA,scZ,scS])
     have hbe:=Lib.hid (below_step hb.out hHeld.bel)
     have g5:=Lib.hid (h5.out.below hHeld.bel)
     have g6:=Lib.hid (h6.out.below hHeld.bel)
     have g7:=Lib.hid (h7.out.below hHeld.bel)
     clear hHeld
     go_wp2_with fail
     go_roundw
     case rel=>exact⟨k+1,by omega,by go_num,hno2,g5,g6,g7,hbe⟩
     case measure=>simp[intOf];omega
    rw[t1] at n1 hin
    have hno2:=next (by rw[hin];rfl)
    clear next hin hno t1 n2 n3 hwh
    go_wp2_with fail
    refine wp_region_held_drew (S:=Sx wr [(b,o+k*2,.int .i64 q.x),(b,o+k*2+1,.int .i64 q.y),(B5,0,.int .i64 pa.x),(B5,1,.int .i64 pa.y),(B6,0,.int .i64 pb.x),(B6,1,.int .i64 pb.y),(B7,0,.int .i64 pc.x),(B7,1,.int .i64 pc.y)]) (by kernel_rfl) (Sx.mk (by simp only[cs_iff_cons];exact⟨e0,e1,x0,x1,y0,y1,z0,z1,cs_nil _⟩) (Below.refl _ _)).drew (fun hHeld=>?_)
    clear e0 e1 x0 x1 y0 y1 z0 z1
    refine tkHx 0 47 ?_
    refine tkHx 1 48 ?_
    refine tkHx 2 49 ?_
    refine tkHx 3 50 ?_
    refine tkHx 4 51 ?_
    refine tkHx 5 52 ?_
    refine tkHx 6 53 ?_
    refine tkFx 7 54 ?_
    refine tkFx 8 55 ?_
    refine tkFx 9 56 ?_
    refine tkFx 10 57 ?_
    refine tkFx 11 58 ?_
    refine tkFx 12 59 ?_
    refine tkHx 13 60 ?_
    refine tkHx 14 61 ?_
    refine tkFx 15 62 ?_
    refine tkFx 16 63 ?_
    refine tkFx 17 64 ?_
    refine tkFx 18 65 ?_
    refine tkFx 19 66 ?_
    refine tkFx 20 67 ?_
    refine tkHx 21 68 ?_
    refine tkHx 22 69 ?_
    refine tkFx 23 70 ?_
    refine tkFx 24 71 ?_
    refine tkFx 25 72 ?_
    refine tkFx 26 73 ?_
    refine tkFx 27 74 ?_
    refine tkFx 28 75 ?_
    refine tkFx 29 76 ?_
    refine tkFx 30 77 ?_
    refine tkFx 31 78 ?_
    refine tkFx 32 79 ?_
    refine tkHx 33 80 ?_
    refine wpAnyH_done (by kernel_rfl) ?_ _
    (try simp only[apS,apN,siA,scZ,scS])
    have hbe:=Lib.hid (below_step hb.out hHeld.bel)
    have g5:=Lib.hid (h5.out.below hHeld.bel)
    have g6:=Lib.hid (h6.out.below hHeld.bel)
    have g7:=Lib.hid (h7.out.below hHeld.bel)
    clear hHeld
    go_wp2_with fail
    go_roundw
    case rel=>exact⟨k+1,by omega,by go_num,hno2,g5,g6,g7,hbe⟩
    case measure=>simp[intOf];omega
   obtain rfl:k=ps.length:=by omega
   have hRe:Hid (R=1):=by
    show _=_
    rw[hRR.out,if_neg]
    rw[List.any_eq_true]
    rintro⟨j,hj,h⟩
    rw[hno.out j (List.mem_range.1 hj)] at h
    cases h
   go_wp2_with fail
   go_ret
   exact⟨by rw[hRe.out];rfl,hb.out⟩
end Go.Proofs.YthfokpchdlcidaaGreat
namespace Go.Proofs.YthfokpchdlcidaaGreat
open Go Go.RowKit Go.Shelf
theorem elemTrs:Elem Tryz.prog 139 22 1 24:=Elem.mk' Tryz.underlying139 (z:=.slice none 0 0) (by kernel_rfl) rfl (by decide)
def triV (g:Nat):List Value:=[.slice (some ⟨g,0,none⟩) 3 3]
structure TrsO (w:World) (B:Nat) (v:Value) (T:List (List Pt)) (gs:List Nat):Prop where
 own:OwnL w B 22 1 v (gs.map triV)
 len:gs.length=T.length
 row:∀ (i g:Nat) (t:List Pt),gs[i]?=some g→T[i]?=some t→RowsAt w (some ⟨g,0,none⟩) 2 (t.map ptR)∧g<w.heap.size∧v.ownBlock≠some g
structure TrsR (w:World) (A:Option Addr) (T:List (List Pt)) (gs:List Nat):Prop where
 rows:RowsAt w A 1 (gs.map triV)
 len:gs.length=T.length
 row:∀ (i g:Nat) (t:List Pt),gs[i]?=some g→T[i]?=some t→RowsAt w (some ⟨g,0,none⟩) 2 (t.map ptR)∧g<w.heap.size
theorem TrsR.below {w w':World} {A:Option Addr} {T:List (List Pt)} {gs:List Nat} (h:TrsR w A T gs) (hb:Below w.heap.size w w'):TrsR w' A T gs :=
 ⟨h.rows.below hb,h.len,fun i g t h1 h2=>⟨(h.row i g t h1 h2).1.below hb,Nat.lt_of_lt_of_le (h.row i g t h1 h2).2 hb.size⟩⟩
theorem TrsO.nil (w:World) (B:Nat):TrsO w B (.slice none 0 0) [] []:=⟨OwnL.nil _ _ _ _,rfl,fun i g t h=>by simp at h⟩
theorem TrsO.below {w w':World} {B:Nat} {v:Value} {T:List (List Pt)} {gs:List Nat} (h:TrsO w B v T gs) (hb:Below w.heap.size w w'):TrsO w' B v T gs :=
 ⟨h.own.below hb,h.len,fun i g t h1 h2=>⟨(h.row i g t h1 h2).1.below hb,Nat.lt_of_lt_of_le (h.row i g t h1 h2).2.1 hb.size,(h.row i g t h1 h2).2.2⟩⟩
theorem TrsO.read {w:World} {B:Nat} {v:Value} {T:List (List Pt)} {gs:List Nat} (h:TrsO w B v T gs):∃ A c,v=.slice A T.length c∧TrsR w A T gs:=by
 obtain⟨A,c,e,hr⟩:=h.own.form
 rw[List.length_map,h.len] at e
 exact⟨A,c,e,hr,h.len,fun i g t h1 h2=>⟨(h.row i g t h1 h2).1,(h.row i g t h1 h2).2.1⟩⟩
theorem TrsR.at_ {w:World} {A:Option Addr} {T:List (List Pt)} {gs:List Nat} (h:TrsR w A T gs) {i:Nat} {t:List Pt} (hi:T[i]?=some t) :
  ∃ b o g,A=some ⟨b,o,none⟩∧b<w.heap.size∧w.cell? ⟨b,o+i,none⟩=some (.slice (some ⟨g,0,none⟩) 3 3)∧RowsAt w (some ⟨g,0,none⟩) 2 (t.map ptR)∧g<w.heap.size:=by
 have hl:i<gs.length:=by rw[h.len];exact (List.getElem?_eq_some_iff.1 hi).1
 have hg:gs[i]?=some gs[i]:=List.getElem?_eq_getElem hl
 obtain⟨b,o,hA,hb,hc⟩:=h.rows i (triV gs[i]) (by rw[List.getElem?_map,hg];rfl)
 have:=hc 0 _ rfl
 simp only[Nat.mul_one,Nat.add_zero] at this
 exact⟨b,o,gs[i],hA,hb,this,h.row i _ t hg hi⟩
theorem TrsO.push {w w':World} {B g:Nat} {v v':Value} {T:List (List Pt)} {gs:List Nat} {t:List Pt} (h:TrsO w B v T gs) (ht:RowsAt w (some ⟨g,0,none⟩) 2 (t.map ptR)) (hg0:g<w.heap.size) (hne:v.ownBlock≠some g)
  (hown:OwnL w' B 22 1 v' (gs.map triV ++ [triV g])) (hg:w.grownBy w' v.ownBlock) (hob:v'.ownBlock=v.ownBlock∨v'.ownBlock=some w.heap.size):TrsO w' B v' (T ++ [t]) (gs ++ [g]):=by
 have far:∀ g',g'<w.heap.size→v.ownBlock≠some g'→v'.ownBlock≠some g':=fun g' h1 h2=>by
  rcases hob with e | e
  ·rw[e];exact h2
  rw[e];intro e2;have:=Option.some.inj e2;omega
 refine⟨by rw[List.map_append];exact hown,by rw[List.length_append,List.length_append,h.len];rfl,fun i k q h1 h2=>?_⟩
 by_cases hl:i<gs.length
 ·rw[List.getElem?_append_left hl] at h1
  rw[List.getElem?_append_left (by rw[←h.len];exact hl)] at h2
  obtain⟨a1,a2,a3⟩:=h.row i k q h1 h2
  exact⟨a1.farI hg (fun a e=>by cases e;exact a3.symm),Nat.lt_of_lt_of_le a2 hg.size,far k a2 a3⟩
 have hi:i=gs.length:=by
  have:=(List.getElem?_eq_some_iff.1 h1).1
  rw[List.length_append,List.length_singleton] at this
  omega
 subst hi
 rw[List.getElem?_append_right (Nat.le_refl _),Nat.sub_self] at h1
 rw[List.getElem?_append_right (by rw[h.len];exact Nat.le_refl _),h.len,Nat.sub_self] at h2
 cases h1
 cases h2
 exact⟨ht.farI hg (fun a e=>by cases e;exact hne.symm),Nat.lt_of_lt_of_le hg0 hg.size,far g hg0 hne⟩
theorem find_none {f:Nat→Bool} {n:Nat} (h:∀ j,j<n→f j=false):(List.range n).find? f=none:=by
 rw[List.find?_eq_none]
 intro x hx
 rw[h x (List.mem_range.1 hx)];decide
theorem find_first {f:Nat→Bool} {n k:Nat} (hk:k<n) (h1:f k=true) (h2:∀ j,j<k→f j=false):(List.range n).find? f=some k:=by
 rw[List.find?_eq_some_iff_append]
 refine⟨h1,List.range k,(List.range' (k+1) (n-(k+1))),?_,fun a ha=>by rw[h2 a (List.mem_range.1 ha)];rfl⟩
 have e:n=k+(n-k):=by omega
 have e2:n-k=(n-(k+1))+1:=by omega
 conv=>lhs;rw[e,List.range_eq_range',←List.range'_append_1,e2,List.range'_succ]
 rw[List.range_eq_range',Nat.zero_add]
theorem trisR_none {q:List Pt} {f:Nat} (h2:¬q.length≤2) (h:∀ j,j<q.length→decide (0≤Cal.earR q j)=false):Cal.trisR f q=[]:=by
 cases f with
 | zero=>rfl
 | succ f =>
  unfold Cal.trisR
  rw[if_neg h2,show Cal.firstEar q=none from find_none h]
theorem trisR_some {q:List Pt} {f k:Nat} (h2:¬q.length≤2) (hk:k<q.length) (h1:decide (0≤Cal.earR q k)=true) (h:∀ j,j<k→decide (0≤Cal.earR q j)=false) (hf:0<f) :
  ∃ f',f=f'+1∧Cal.trisR f q=(if Cal.earR q k=1 then [Cal.triAt q k] else []) ++ Cal.trisR f' (q.eraseIdx k):=by
 obtain⟨f',rfl⟩:∃ f',f=f'+1:=⟨f-1,by omega⟩
 refine⟨f',rfl,?_⟩
 conv=>lhs;unfold Cal.trisR
 rw[if_neg h2,show Cal.firstEar q=some k from find_first hk h1 h]
theorem earR_one_or {q:List Pt} {k:Nat} (h:decide (0≤Cal.earR q k)=true):Cal.earR q k=1∨Cal.earR q k=0:=by
 have h:=of_decide_eq_true h
 unfold Cal.earR at h ⊢
 split
 ·split
  ·exact Or.inr rfl
  rename_i h1 h2;rw[if_pos h1,if_neg h2] at h;omega
 rename_i h1
 split
 ·rename_i h2;rw[if_neg h1,if_pos h2] at h;omega
 exact Or.inl rfl
theorem OwnL.capO {w:World} {B m n c:Nat} {E:TypeId} {A:Option Addr} {rows:List (List Value)} (h:OwnL w B E m (.slice A n c) rows) (hn:n=rows.length):n≤c:=by
 rcases h.own.2 with ⟨h1,h2⟩ | ⟨g,cap,cur,h1,_,_,h2,_⟩
 ·simp only[Value.slice.injEq] at h1;omega
 simp only[Value.slice.injEq] at h1;omega
end Go.Proofs.YthfokpchdlcidaaGreat
