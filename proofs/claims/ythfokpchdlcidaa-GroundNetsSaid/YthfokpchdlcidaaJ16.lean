/- What the statements rest on: definitions and walks, part 16. -/
import Derived.Test.YthfokpchdlcidaaJ15
import Derived.Test.YthfokpchdlcidaaJ14
set_option maxRecDepth 100000
set_option maxHeartbeats 16000000
set_option linter.unusedSimpArgs false
set_option linter.unusedVariables false
namespace Go.Proofs.Ythfokpchdlcidaa
open Go Go.RowKit Go.Shelf
attribute [local go_sem] Oper.semAt_some
theorem common_s (s t : Sd) (w : World) (hs : SmS s) (ht : SmS t) (h1 : Cal.trn s t.a = 0) (h2 : Cal.trn s t.b = 0) (h3 : 0 < Cal.alongS s t.a t.b) :
  Calls Try.prog 89 #[.agg #[.int .i64 s.a.x,.int .i64 s.a.y,.int .i64 s.b.x,.int .i64 s.b.y],.agg #[.int .i64 t.a.x,.int .i64 t.a.y,.int .i64 t.b.x,.int .i64 t.b.y]] w fun e w'=>e = .returned (.tuple #[.agg #[.int .i64 (comT s t).1.a.x,.int .i64 (comT s t).1.a.y,.int .i64 (comT s t).1.b.x,.int .i64 (comT s t).1.b.y],.bool (comT s t).2]) ∧ Below w.heap.size w w':=by
 have hmo : (Try.prog).follows Departure.mixedOrders = true:=by kernel_rfl
 obtain ⟨u,hut⟩ : ∃ u : Sd,u = ⟨t.b,t.a⟩:=⟨_,rfl⟩
 have hu : SmS u:=hut ▸ ⟨ht.b,ht.a⟩
 have hR : Hid (comT s t = (⟨if 0 < Cal.alongS s u.a s.a then u.a else s.a,if Cal.alongS s u.b s.b < 0 then u.b else s.b⟩,decide (Cal.alongS s (if 0 < Cal.alongS s u.a s.a then u.a else s.a) (if Cal.alongS s u.b s.b < 0 then u.b else s.b) < 0))):=by show _ = _;unfold comT;rw [if_pos ⟨h1,h2⟩,if_pos h3,hut]
 replace hut:=Lib.hid hut
 have d3 : decide (0 < Cal.alongS s t.a t.b) = true:=decide_eq_true h3
 replace h1:=Lib.hid h1
 replace h2:=Lib.hid h2
 replace h3:=Lib.hid h3
 have hI:=Lib.hid (CmI.first w s t)
 have m1 : Hid True:=trivial
 go_enter Try.func89,Try.ntmps89
 go_wp2_with (first
  |(go_at_call 81;clear m1;refine (turn_any s t.a _ hs ht.a).mono ?_;rintro e wn ⟨rfl,hbn⟩;rw [h1.out];replace hI:=Lib.hid (hI.out.below hbn);clear hbn;have a0:=hI.out.s.c 0 _ rfl;have a1:=hI.out.s.c 1 _ rfl;have a2:=hI.out.s.c 2 _ rfl;have a3:=hI.out.s.c 3 _ rfl;have b0:=hI.out.t.c 0 _ rfl;have b1:=hI.out.t.c 1 _ rfl;have b2:=hI.out.t.c 2 _ rfl;have b3:=hI.out.t.c 3 _ rfl;have f0:=hI.out.t.free 0 (by simp);have f1:=hI.out.t.free 1 (by simp);have f2:=hI.out.t.free 2 (by simp);have f3:=hI.out.t.free 3 (by simp))
  |(go_at_call 81;refine (turn_any s t.b _ hs ht.b).mono ?_;clear a0 a1 a2 a3 b0 b1 b2 b3 f0 f1 f2 f3;rintro e wn ⟨rfl,hbn⟩;rw [h2.out];replace hI:=Lib.hid (hI.out.below hbn);clear hbn;have a0:=hI.out.s.c 0 _ rfl;have a1:=hI.out.s.c 1 _ rfl;have a2:=hI.out.s.c 2 _ rfl;have a3:=hI.out.s.c 3 _ rfl;have b0:=hI.out.t.c 0 _ rfl;have b1:=hI.out.t.c 1 _ rfl;have b2:=hI.out.t.c 2 _ rfl;have b3:=hI.out.t.c 3 _ rfl;have f0:=hI.out.t.free 0 (by simp);have f1:=hI.out.t.free 1 (by simp);have f2:=hI.out.t.free 2 (by simp);have f3:=hI.out.t.free 3 (by simp))
  |(go_at_call 111;refine (along_any s t.a t.b _ hs ht.a ht.b).mono ?_;clear a0 a1 a2 a3 b0 b1 b2 b3 f0 f1 f2 f3;rintro e wn ⟨rfl,hbn⟩;replace hI:=Lib.hid (hI.out.below hbn);clear hbn;have a0:=hI.out.s.c 0 _ rfl;have a1:=hI.out.s.c 1 _ rfl;have a2:=hI.out.s.c 2 _ rfl;have a3:=hI.out.s.c 3 _ rfl;have b0:=hI.out.t.c 0 _ rfl;have b1:=hI.out.t.c 1 _ rfl;have b2:=hI.out.t.c 2 _ rfl;have b3:=hI.out.t.c 3 _ rfl;have f0:=hI.out.t.free 0 (by simp);have f1:=hI.out.t.free 1 (by simp);have f2:=hI.out.t.free 2 (by simp);have f3:=hI.out.t.free 3 (by simp)))
 replace hI:=Lib.hid hI.out.swap
 obtain ⟨W4,hW4⟩ : ∃ W4,(((wn.setCell ⟨w.heap.size + 1,0,none⟩ (.int .i64 t.b.x)).setCell ⟨w.heap.size + 1,1,none⟩ (.int .i64 t.b.y)).setCell ⟨w.heap.size + 1,2,none⟩ (.int .i64 t.a.x)).setCell ⟨w.heap.size + 1,3,none⟩ (.int .i64 t.a.y) = W4:=⟨_,rfl⟩
 rw [hW4,← hut.out] at hI
 rw [hW4]
 clear hW4
 clear a0 a1 a2 a3 b0 b1 b2 b3 f0 f1 f2 f3
 have a0:=hI.out.s.c 0 _ rfl;have a1:=hI.out.s.c 1 _ rfl;have a2:=hI.out.s.c 2 _ rfl;have a3:=hI.out.s.c 3 _ rfl;have b0:=hI.out.t.c 0 _ rfl;have b1:=hI.out.t.c 1 _ rfl;have b2:=hI.out.t.c 2 _ rfl;have b3:=hI.out.t.c 3 _ rfl;have f0:=hI.out.t.free 0 (by simp);have f1:=hI.out.t.free 1 (by simp);have f2:=hI.out.t.free 2 (by simp);have f3:=hI.out.t.free 3 (by simp)
 have l0:=hI.out.s.lt
 have l1:=hI.out.t.lt
 have l2:=hI.out.z.lt
 have n0 : ¬ w.heap.size = W4.heap.size:=by omega
 have n1 : ¬ w.heap.size + 1 = W4.heap.size:=by omega
 have n2 : ¬ w.heap.size + 1 + 1 = W4.heap.size:=by omega
 have hJ1:=Lib.hid (CmJ.new hI.out s.a s.b)
 have hJ2:=Lib.hid (CmJ.new hI.out s.b s.a).flip
 clear d3
 go_region_o
 ·clear n0 n1 n2 hJ2 l0 l1 l2
  clear a0 a1 a2 a3 b0 b1 b2 b3 f0 f1 f2 f3
  obtain ⟨Bf,hn⟩ : ∃ n,W4.heap.size = n:=⟨_,rfl⟩
  generalize ((W4.alloc (.cells #[.int .i64 s.a.x,.int .i64 s.a.y] 40)).alloc (.cells #[.int .i64 s.b.x,.int .i64 s.b.y] 40)).drew = X at hJ1 ⊢
  rw [hn] at hJ1 ⊢
  clear hI hn
  obtain ⟨Be,hBe⟩ : ∃ B,Bf + 1 = B:=⟨_,rfl⟩
  rw [hBe] at hJ1 ⊢
  clear hBe
  have hJ:=hJ1
  clear hJ1
  have k0:=hJ.out.hf
  have k1:=hJ.out.he
  have k2:=hJ.out.ne
  have n0 : ¬ Bf = Be:=k2
  have n1 : ¬ Be = Bf:=fun e=>k2 e.symm
  have n2 : ¬ Bf = w.heap.size:=by omega
  have n3 : ¬ Bf = w.heap.size + 1:=by omega
  have n4 : ¬ Be = w.heap.size:=by omega
  have n5 : ¬ Be = w.heap.size + 1:=by omega
  clear k2
  (have a0:=hJ.out.base.s.c 0 _ rfl;have a1:=hJ.out.base.s.c 1 _ rfl;have a2:=hJ.out.base.s.c 2 _ rfl;have a3:=hJ.out.base.s.c 3 _ rfl;have b0:=hJ.out.base.t.c 0 _ rfl;have b1:=hJ.out.base.t.c 1 _ rfl;have b2:=hJ.out.base.t.c 2 _ rfl;have b3:=hJ.out.base.t.c 3 _ rfl;have f0:=hJ.out.f.c 0 _ rfl;have f1:=hJ.out.f.c 1 _ rfl;have e0:=hJ.out.e.c 0 _ rfl;have e1:=hJ.out.e.c 1 _ rfl;have f2:=hJ.out.f.free 0 (by simp);have f3:=hJ.out.f.free 1 (by simp);have e2:=hJ.out.e.free 0 (by simp);have e3:=hJ.out.e.free 1 (by simp))
  by_cases c1 : 0 < Cal.alongS s u.a s.a
  ·have d1 : decide (0 < Cal.alongS s u.a s.a) = true:=decide_eq_true c1
   have hF : Hid ((if 0 < Cal.alongS s u.a s.a then u.a else s.a) = u.a):=if_pos c1
   replace c1:=Lib.hid c1
   have m2 : Hid True:=trivial
   go_wp2_with (go_at_call 111;clear m2;refine (along_any s u.a s.a _ hs hu.a hs.a).mono ?_;clear a0 a1 a2 a3 b0 b1 b2 b3 f0 f1 f2 f3 e0 e1 e2 e3;rintro e X2 ⟨rfl,hbn⟩;replace hJ:=Lib.hid (hJ.out.below hbn);clear hbn;(have a0:=hJ.out.base.s.c 0 _ rfl;have a1:=hJ.out.base.s.c 1 _ rfl;have a2:=hJ.out.base.s.c 2 _ rfl;have a3:=hJ.out.base.s.c 3 _ rfl;have b0:=hJ.out.base.t.c 0 _ rfl;have b1:=hJ.out.base.t.c 1 _ rfl;have b2:=hJ.out.base.t.c 2 _ rfl;have b3:=hJ.out.base.t.c 3 _ rfl;have f0:=hJ.out.f.c 0 _ rfl;have f1:=hJ.out.f.c 1 _ rfl;have e0:=hJ.out.e.c 0 _ rfl;have e1:=hJ.out.e.c 1 _ rfl;have f2:=hJ.out.f.free 0 (by simp);have f3:=hJ.out.f.free 1 (by simp);have e2:=hJ.out.e.free 0 (by simp);have e3:=hJ.out.e.free 1 (by simp)))
   replace hJ:=Lib.hid (hJ.out.setF u.a)
   clear a0 a1 a2 a3 b0 b1 b2 b3 f0 f1 f2 f3 e0 e1 e2 e3
   refine (along_any s u.b s.b _ hs hu.b hs.b).mono ?_
   rintro e X3 ⟨rfl,hbn⟩
   replace hJ:=Lib.hid (hJ.out.below hbn)
   clear hbn
   (have a0:=hJ.out.base.s.c 0 _ rfl;have a1:=hJ.out.base.s.c 1 _ rfl;have a2:=hJ.out.base.s.c 2 _ rfl;have a3:=hJ.out.base.s.c 3 _ rfl;have b0:=hJ.out.base.t.c 0 _ rfl;have b1:=hJ.out.base.t.c 1 _ rfl;have b2:=hJ.out.base.t.c 2 _ rfl;have b3:=hJ.out.base.t.c 3 _ rfl;have f0:=hJ.out.f.c 0 _ rfl;have f1:=hJ.out.f.c 1 _ rfl;have e0:=hJ.out.e.c 0 _ rfl;have e1:=hJ.out.e.c 1 _ rfl;have f2:=hJ.out.f.free 0 (by simp);have f3:=hJ.out.f.free 1 (by simp);have e2:=hJ.out.e.free 0 (by simp);have e3:=hJ.out.e.free 1 (by simp))
   by_cases c2 : Cal.alongS s u.b s.b < 0
   ·have d2 : decide (Cal.alongS s u.b s.b < 0) = true:=decide_eq_true c2
    have hE : Hid (comT s t = (⟨u.a,u.b⟩,decide (Cal.alongS s u.a u.b < 0))):=by show _ = _;rw [hR.out,hF.out,if_pos c2]
    replace c2:=Lib.hid c2
    go_wp2_with fail
    replace hJ:=Lib.hid (hJ.out.setE u.b)
    obtain ⟨Y,hY⟩ : ∃ Y,(X3.setCell ⟨Be,0,none⟩ (.int .i64 u.b.x)).setCell ⟨Be,1,none⟩ (.int .i64 u.b.y) = Y:=⟨_,rfl⟩
    rw [hY] at hJ ⊢
    clear hY
    clear a0 a1 a2 a3 b0 b1 b2 b3 f0 f1 f2 f3 e0 e1 e2 e3
    refine wp_region_held_drew (S:=CmK w s Bf Be u.a u.b) (by kernel_rfl) (hJ.out.k.below ((Below.refl _ _).drew)) (fun hHeld=>?_)
    refine tkCx 0 54 ?_
    refine tkCx 1 55 ?_
    refine tkCx 2 56 ?_
    refine tkCx 3 57 ?_
    refine tkCx 4 58 ?_
    refine tkCx 5 59 ?_
    (refine ratHx 6 (fun K hK=>?_);go_simp)
    refine (along_any s u.a u.b _ hs hu.a hu.b).mono ?_
    rintro e9 wn ⟨rfl,hbn⟩
    go_simp
    refine hK.out _ _ (hHeld.below hbn) (fun hHeld=>?_)
    clear hK K hbn
    (try simp only [apS,apN,siA,scZ,scS])
    refine tkCx 7 61 ?_
    obtain ⟨z0,z1,z2,z3,hz⟩:=hHeld.z
    have r0:=hz.c 0 _ rfl
    have r1:=hz.c 1 _ rfl
    have r2:=hz.c 2 _ rfl
    have r3:=hz.c 3 _ rfl
    have g0:=hz.free 0 (by simp)
    have g1:=hz.free 1 (by simp)
    have g2:=hz.free 2 (by simp)
    have g3:=hz.free 3 (by simp)
    have hz9:=Lib.hid ((((hz.set 0 (.int .i64 u.a.x) (by simp)).set 1 (.int .i64 u.a.y) (by simp)).set 2 (.int .i64 u.b.x) (by simp)).set 3 (.int .i64 u.b.y) (by simp))
    (refine ratHx 8 (fun K hK=>?_);go_simp)
    refine hK.out _ _ ((((hHeld.store 0 (by omega) _).store 1 (by omega) _).store 2 (by omega) _).store 3 (by omega) _) (fun hHeld=>?_)
    clear hK K
    (try simp only [apS,apN,siA,scZ,scS])
    refine tkCx 9 5 ?_
    refine wpAnyH_done (by kernel_rfl) ?_ _
    go_wp2_with fail
    refine bodyPost_ret (results_mid2 rfl _ _ (w.heap.size + 1 + 1) [.int .i64 u.a.x,.int .i64 u.a.y,.int .i64 u.b.x,.int .i64 u.b.y] _ rfl hz9.out.range Try.underlying72 rfl sgSize) rfl ⟨(by rw [hE.out];rfl),hHeld.bel⟩
   ·have d2 : decide (Cal.alongS s u.b s.b < 0) = false:=decide_eq_false c2
    have hE : Hid (comT s t = (⟨u.a,s.b⟩,decide (Cal.alongS s u.a s.b < 0))):=by show _ = _;rw [hR.out,hF.out,if_neg c2]
    replace c2:=Lib.hid c2
    go_wp2_with fail
    clear a0 a1 a2 a3 b0 b1 b2 b3 f0 f1 f2 f3 e0 e1 e2 e3
    refine wp_region_held_drew (S:=CmK w s Bf Be u.a s.b) (by kernel_rfl) (hJ.out.k.below ((Below.refl _ _).drew)) (fun hHeld=>?_)
    refine tkCx 0 54 ?_
    refine tkCx 1 55 ?_
    refine tkCx 2 56 ?_
    refine tkCx 3 57 ?_
    refine tkCx 4 58 ?_
    refine tkCx 5 59 ?_
    (refine ratHx 6 (fun K hK=>?_);go_simp)
    refine (along_any s u.a s.b _ hs hu.a hs.b).mono ?_
    rintro e9 wn ⟨rfl,hbn⟩
    go_simp
    refine hK.out _ _ (hHeld.below hbn) (fun hHeld=>?_)
    clear hK K hbn
    (try simp only [apS,apN,siA,scZ,scS])
    refine tkCx 7 61 ?_
    obtain ⟨z0,z1,z2,z3,hz⟩:=hHeld.z
    have r0:=hz.c 0 _ rfl
    have r1:=hz.c 1 _ rfl
    have r2:=hz.c 2 _ rfl
    have r3:=hz.c 3 _ rfl
    have g0:=hz.free 0 (by simp)
    have g1:=hz.free 1 (by simp)
    have g2:=hz.free 2 (by simp)
    have g3:=hz.free 3 (by simp)
    have hz9:=Lib.hid ((((hz.set 0 (.int .i64 u.a.x) (by simp)).set 1 (.int .i64 u.a.y) (by simp)).set 2 (.int .i64 s.b.x) (by simp)).set 3 (.int .i64 s.b.y) (by simp))
    (refine ratHx 8 (fun K hK=>?_);go_simp)
    refine hK.out _ _ ((((hHeld.store 0 (by omega) _).store 1 (by omega) _).store 2 (by omega) _).store 3 (by omega) _) (fun hHeld=>?_)
    clear hK K
    (try simp only [apS,apN,siA,scZ,scS])
    refine tkCx 9 5 ?_
    refine wpAnyH_done (by kernel_rfl) ?_ _
    go_wp2_with fail
    refine bodyPost_ret (results_mid2 rfl _ _ (w.heap.size + 1 + 1) [.int .i64 u.a.x,.int .i64 u.a.y,.int .i64 s.b.x,.int .i64 s.b.y] _ rfl hz9.out.range Try.underlying72 rfl sgSize) rfl ⟨(by rw [hE.out];rfl),hHeld.bel⟩
  ·have d1 : decide (0 < Cal.alongS s u.a s.a) = false:=decide_eq_false c1
   have hF : Hid ((if 0 < Cal.alongS s u.a s.a then u.a else s.a) = s.a):=if_neg c1
   replace c1:=Lib.hid c1
   have m2 : Hid True:=trivial
   go_wp2_with (go_at_call 111;clear m2;refine (along_any s u.a s.a _ hs hu.a hs.a).mono ?_;clear a0 a1 a2 a3 b0 b1 b2 b3 f0 f1 f2 f3 e0 e1 e2 e3;rintro e X2 ⟨rfl,hbn⟩;replace hJ:=Lib.hid (hJ.out.below hbn);clear hbn;(have a0:=hJ.out.base.s.c 0 _ rfl;have a1:=hJ.out.base.s.c 1 _ rfl;have a2:=hJ.out.base.s.c 2 _ rfl;have a3:=hJ.out.base.s.c 3 _ rfl;have b0:=hJ.out.base.t.c 0 _ rfl;have b1:=hJ.out.base.t.c 1 _ rfl;have b2:=hJ.out.base.t.c 2 _ rfl;have b3:=hJ.out.base.t.c 3 _ rfl;have f0:=hJ.out.f.c 0 _ rfl;have f1:=hJ.out.f.c 1 _ rfl;have e0:=hJ.out.e.c 0 _ rfl;have e1:=hJ.out.e.c 1 _ rfl;have f2:=hJ.out.f.free 0 (by simp);have f3:=hJ.out.f.free 1 (by simp);have e2:=hJ.out.e.free 0 (by simp);have e3:=hJ.out.e.free 1 (by simp)))
   clear a0 a1 a2 a3 b0 b1 b2 b3 f0 f1 f2 f3 e0 e1 e2 e3
   refine (along_any s u.b s.b _ hs hu.b hs.b).mono ?_
   rintro e X3 ⟨rfl,hbn⟩
   replace hJ:=Lib.hid (hJ.out.below hbn)
   clear hbn
   (have a0:=hJ.out.base.s.c 0 _ rfl;have a1:=hJ.out.base.s.c 1 _ rfl;have a2:=hJ.out.base.s.c 2 _ rfl;have a3:=hJ.out.base.s.c 3 _ rfl;have b0:=hJ.out.base.t.c 0 _ rfl;have b1:=hJ.out.base.t.c 1 _ rfl;have b2:=hJ.out.base.t.c 2 _ rfl;have b3:=hJ.out.base.t.c 3 _ rfl;have f0:=hJ.out.f.c 0 _ rfl;have f1:=hJ.out.f.c 1 _ rfl;have e0:=hJ.out.e.c 0 _ rfl;have e1:=hJ.out.e.c 1 _ rfl;have f2:=hJ.out.f.free 0 (by simp);have f3:=hJ.out.f.free 1 (by simp);have e2:=hJ.out.e.free 0 (by simp);have e3:=hJ.out.e.free 1 (by simp))
   by_cases c2 : Cal.alongS s u.b s.b < 0
   ·have d2 : decide (Cal.alongS s u.b s.b < 0) = true:=decide_eq_true c2
    have hE : Hid (comT s t = (⟨s.a,u.b⟩,decide (Cal.alongS s s.a u.b < 0))):=by show _ = _;rw [hR.out,hF.out,if_pos c2]
    replace c2:=Lib.hid c2
    go_wp2_with fail
    replace hJ:=Lib.hid (hJ.out.setE u.b)
    obtain ⟨Y,hY⟩ : ∃ Y,(X3.setCell ⟨Be,0,none⟩ (.int .i64 u.b.x)).setCell ⟨Be,1,none⟩ (.int .i64 u.b.y) = Y:=⟨_,rfl⟩
    rw [hY] at hJ ⊢
    clear hY
    clear a0 a1 a2 a3 b0 b1 b2 b3 f0 f1 f2 f3 e0 e1 e2 e3
    refine wp_region_held_drew (S:=CmK w s Bf Be s.a u.b) (by kernel_rfl) (hJ.out.k.below ((Below.refl _ _).drew)) (fun hHeld=>?_)
    refine tkCx 0 54 ?_
    refine tkCx 1 55 ?_
    refine tkCx 2 56 ?_
    refine tkCx 3 57 ?_
    refine tkCx 4 58 ?_
    refine tkCx 5 59 ?_
    (refine ratHx 6 (fun K hK=>?_);go_simp)
    refine (along_any s s.a u.b _ hs hs.a hu.b).mono ?_
    rintro e9 wn ⟨rfl,hbn⟩
    go_simp
    refine hK.out _ _ (hHeld.below hbn) (fun hHeld=>?_)
    clear hK K hbn
    (try simp only [apS,apN,siA,scZ,scS])
    refine tkCx 7 61 ?_
    obtain ⟨z0,z1,z2,z3,hz⟩:=hHeld.z
    have r0:=hz.c 0 _ rfl
    have r1:=hz.c 1 _ rfl
    have r2:=hz.c 2 _ rfl
    have r3:=hz.c 3 _ rfl
    have g0:=hz.free 0 (by simp)
    have g1:=hz.free 1 (by simp)
    have g2:=hz.free 2 (by simp)
    have g3:=hz.free 3 (by simp)
    have hz9:=Lib.hid ((((hz.set 0 (.int .i64 s.a.x) (by simp)).set 1 (.int .i64 s.a.y) (by simp)).set 2 (.int .i64 u.b.x) (by simp)).set 3 (.int .i64 u.b.y) (by simp))
    (refine ratHx 8 (fun K hK=>?_);go_simp)
    refine hK.out _ _ ((((hHeld.store 0 (by omega) _).store 1 (by omega) _).store 2 (by omega) _).store 3 (by omega) _) (fun hHeld=>?_)
    clear hK K
    (try simp only [apS,apN,siA,scZ,scS])
    refine tkCx 9 5 ?_
    refine wpAnyH_done (by kernel_rfl) ?_ _
    go_wp2_with fail
    refine bodyPost_ret (results_mid2 rfl _ _ (w.heap.size + 1 + 1) [.int .i64 s.a.x,.int .i64 s.a.y,.int .i64 u.b.x,.int .i64 u.b.y] _ rfl hz9.out.range Try.underlying72 rfl sgSize) rfl ⟨(by rw [hE.out];rfl),hHeld.bel⟩
   ·have d2 : decide (Cal.alongS s u.b s.b < 0) = false:=decide_eq_false c2
    have hE : Hid (comT s t = (⟨s.a,s.b⟩,decide (Cal.alongS s s.a s.b < 0))):=by show _ = _;rw [hR.out,hF.out,if_neg c2]
    replace c2:=Lib.hid c2
    go_wp2_with fail
    clear a0 a1 a2 a3 b0 b1 b2 b3 f0 f1 f2 f3 e0 e1 e2 e3
    refine wp_region_held_drew (S:=CmK w s Bf Be s.a s.b) (by kernel_rfl) (hJ.out.k.below ((Below.refl _ _).drew)) (fun hHeld=>?_)
    refine tkCx 0 54 ?_
    refine tkCx 1 55 ?_
    refine tkCx 2 56 ?_
    refine tkCx 3 57 ?_
    refine tkCx 4 58 ?_
    refine tkCx 5 59 ?_
    (refine ratHx 6 (fun K hK=>?_);go_simp)
    refine (along_any s s.a s.b _ hs hs.a hs.b).mono ?_
    rintro e9 wn ⟨rfl,hbn⟩
    go_simp
    refine hK.out _ _ (hHeld.below hbn) (fun hHeld=>?_)
    clear hK K hbn
    (try simp only [apS,apN,siA,scZ,scS])
    refine tkCx 7 61 ?_
    obtain ⟨z0,z1,z2,z3,hz⟩:=hHeld.z
    have r0:=hz.c 0 _ rfl
    have r1:=hz.c 1 _ rfl
    have r2:=hz.c 2 _ rfl
    have r3:=hz.c 3 _ rfl
    have g0:=hz.free 0 (by simp)
    have g1:=hz.free 1 (by simp)
    have g2:=hz.free 2 (by simp)
    have g3:=hz.free 3 (by simp)
    have hz9:=Lib.hid ((((hz.set 0 (.int .i64 s.a.x) (by simp)).set 1 (.int .i64 s.a.y) (by simp)).set 2 (.int .i64 s.b.x) (by simp)).set 3 (.int .i64 s.b.y) (by simp))
    (refine ratHx 8 (fun K hK=>?_);go_simp)
    refine hK.out _ _ ((((hHeld.store 0 (by omega) _).store 1 (by omega) _).store 2 (by omega) _).store 3 (by omega) _) (fun hHeld=>?_)
    clear hK K
    (try simp only [apS,apN,siA,scZ,scS])
    refine tkCx 9 5 ?_
    refine wpAnyH_done (by kernel_rfl) ?_ _
    go_wp2_with fail
    refine bodyPost_ret (results_mid2 rfl _ _ (w.heap.size + 1 + 1) [.int .i64 s.a.x,.int .i64 s.a.y,.int .i64 s.b.x,.int .i64 s.b.y] _ rfl hz9.out.range Try.underlying72 rfl sgSize) rfl ⟨(by rw [hE.out];rfl),hHeld.bel⟩
 ·clear n0 n1 n2 hJ1 l0 l1 l2
  clear a0 a1 a2 a3 b0 b1 b2 b3 f0 f1 f2 f3
  obtain ⟨Be,hn⟩ : ∃ n,W4.heap.size = n:=⟨_,rfl⟩
  generalize ((W4.alloc (.cells #[.int .i64 s.b.x,.int .i64 s.b.y] 40)).alloc (.cells #[.int .i64 s.a.x,.int .i64 s.a.y] 40)).drew = X at hJ2 ⊢
  rw [hn] at hJ2 ⊢
  clear hI hn
  obtain ⟨Bf,hBf⟩ : ∃ B,Be + 1 = B:=⟨_,rfl⟩
  rw [hBf] at hJ2 ⊢
  clear hBf
  have hJ:=hJ2
  clear hJ2
  have k0:=hJ.out.hf
  have k1:=hJ.out.he
  have k2:=hJ.out.ne
  have n0 : ¬ Bf = Be:=k2
  have n1 : ¬ Be = Bf:=fun e=>k2 e.symm
  have n2 : ¬ Bf = w.heap.size:=by omega
  have n3 : ¬ Bf = w.heap.size + 1:=by omega
  have n4 : ¬ Be = w.heap.size:=by omega
  have n5 : ¬ Be = w.heap.size + 1:=by omega
  clear k2
  (have a0:=hJ.out.base.s.c 0 _ rfl;have a1:=hJ.out.base.s.c 1 _ rfl;have a2:=hJ.out.base.s.c 2 _ rfl;have a3:=hJ.out.base.s.c 3 _ rfl;have b0:=hJ.out.base.t.c 0 _ rfl;have b1:=hJ.out.base.t.c 1 _ rfl;have b2:=hJ.out.base.t.c 2 _ rfl;have b3:=hJ.out.base.t.c 3 _ rfl;have f0:=hJ.out.f.c 0 _ rfl;have f1:=hJ.out.f.c 1 _ rfl;have e0:=hJ.out.e.c 0 _ rfl;have e1:=hJ.out.e.c 1 _ rfl;have f2:=hJ.out.f.free 0 (by simp);have f3:=hJ.out.f.free 1 (by simp);have e2:=hJ.out.e.free 0 (by simp);have e3:=hJ.out.e.free 1 (by simp))
  by_cases c1 : 0 < Cal.alongS s u.a s.a
  ·have d1 : decide (0 < Cal.alongS s u.a s.a) = true:=decide_eq_true c1
   have hF : Hid ((if 0 < Cal.alongS s u.a s.a then u.a else s.a) = u.a):=if_pos c1
   replace c1:=Lib.hid c1
   have m2 : Hid True:=trivial
   go_wp2_with (go_at_call 111;clear m2;refine (along_any s u.a s.a _ hs hu.a hs.a).mono ?_;clear a0 a1 a2 a3 b0 b1 b2 b3 f0 f1 f2 f3 e0 e1 e2 e3;rintro e X2 ⟨rfl,hbn⟩;replace hJ:=Lib.hid (hJ.out.below hbn);clear hbn;(have a0:=hJ.out.base.s.c 0 _ rfl;have a1:=hJ.out.base.s.c 1 _ rfl;have a2:=hJ.out.base.s.c 2 _ rfl;have a3:=hJ.out.base.s.c 3 _ rfl;have b0:=hJ.out.base.t.c 0 _ rfl;have b1:=hJ.out.base.t.c 1 _ rfl;have b2:=hJ.out.base.t.c 2 _ rfl;have b3:=hJ.out.base.t.c 3 _ rfl;have f0:=hJ.out.f.c 0 _ rfl;have f1:=hJ.out.f.c 1 _ rfl;have e0:=hJ.out.e.c 0 _ rfl;have e1:=hJ.out.e.c 1 _ rfl;have f2:=hJ.out.f.free 0 (by simp);have f3:=hJ.out.f.free 1 (by simp);have e2:=hJ.out.e.free 0 (by simp);have e3:=hJ.out.e.free 1 (by simp)))
   replace hJ:=Lib.hid (hJ.out.setF u.a)
   clear a0 a1 a2 a3 b0 b1 b2 b3 f0 f1 f2 f3 e0 e1 e2 e3
   refine (along_any s u.b s.b _ hs hu.b hs.b).mono ?_
   rintro e X3 ⟨rfl,hbn⟩
   replace hJ:=Lib.hid (hJ.out.below hbn)
   clear hbn
   (have a0:=hJ.out.base.s.c 0 _ rfl;have a1:=hJ.out.base.s.c 1 _ rfl;have a2:=hJ.out.base.s.c 2 _ rfl;have a3:=hJ.out.base.s.c 3 _ rfl;have b0:=hJ.out.base.t.c 0 _ rfl;have b1:=hJ.out.base.t.c 1 _ rfl;have b2:=hJ.out.base.t.c 2 _ rfl;have b3:=hJ.out.base.t.c 3 _ rfl;have f0:=hJ.out.f.c 0 _ rfl;have f1:=hJ.out.f.c 1 _ rfl;have e0:=hJ.out.e.c 0 _ rfl;have e1:=hJ.out.e.c 1 _ rfl;have f2:=hJ.out.f.free 0 (by simp);have f3:=hJ.out.f.free 1 (by simp);have e2:=hJ.out.e.free 0 (by simp);have e3:=hJ.out.e.free 1 (by simp))
   by_cases c2 : Cal.alongS s u.b s.b < 0
   ·have d2 : decide (Cal.alongS s u.b s.b < 0) = true:=decide_eq_true c2
    have hE : Hid (comT s t = (⟨u.a,u.b⟩,decide (Cal.alongS s u.a u.b < 0))):=by show _ = _;rw [hR.out,hF.out,if_pos c2]
    replace c2:=Lib.hid c2
    go_wp2_with fail
    replace hJ:=Lib.hid (hJ.out.setE u.b)
    obtain ⟨Y,hY⟩ : ∃ Y,(X3.setCell ⟨Be,0,none⟩ (.int .i64 u.b.x)).setCell ⟨Be,1,none⟩ (.int .i64 u.b.y) = Y:=⟨_,rfl⟩
    rw [hY] at hJ ⊢
    clear hY
    clear a0 a1 a2 a3 b0 b1 b2 b3 f0 f1 f2 f3 e0 e1 e2 e3
    refine wp_region_held_drew (S:=CmK w s Bf Be u.a u.b) (by kernel_rfl) (hJ.out.k.below ((Below.refl _ _).drew)) (fun hHeld=>?_)
    refine tkCx 0 54 ?_
    refine tkCx 1 55 ?_
    refine tkCx 2 56 ?_
    refine tkCx 3 57 ?_
    refine tkCx 4 58 ?_
    refine tkCx 5 59 ?_
    (refine ratHx 6 (fun K hK=>?_);go_simp)
    refine (along_any s u.a u.b _ hs hu.a hu.b).mono ?_
    rintro e9 wn ⟨rfl,hbn⟩
    go_simp
    refine hK.out _ _ (hHeld.below hbn) (fun hHeld=>?_)
    clear hK K hbn
    (try simp only [apS,apN,siA,scZ,scS])
    refine tkCx 7 61 ?_
    obtain ⟨z0,z1,z2,z3,hz⟩:=hHeld.z
    have r0:=hz.c 0 _ rfl
    have r1:=hz.c 1 _ rfl
    have r2:=hz.c 2 _ rfl
    have r3:=hz.c 3 _ rfl
    have g0:=hz.free 0 (by simp)
    have g1:=hz.free 1 (by simp)
    have g2:=hz.free 2 (by simp)
    have g3:=hz.free 3 (by simp)
    have hz9:=Lib.hid ((((hz.set 0 (.int .i64 u.a.x) (by simp)).set 1 (.int .i64 u.a.y) (by simp)).set 2 (.int .i64 u.b.x) (by simp)).set 3 (.int .i64 u.b.y) (by simp))
    (refine ratHx 8 (fun K hK=>?_);go_simp)
    refine hK.out _ _ ((((hHeld.store 0 (by omega) _).store 1 (by omega) _).store 2 (by omega) _).store 3 (by omega) _) (fun hHeld=>?_)
    clear hK K
    (try simp only [apS,apN,siA,scZ,scS])
    refine tkCx 9 5 ?_
    refine wpAnyH_done (by kernel_rfl) ?_ _
    go_wp2_with fail
    refine bodyPost_ret (results_mid2 rfl _ _ (w.heap.size + 1 + 1) [.int .i64 u.a.x,.int .i64 u.a.y,.int .i64 u.b.x,.int .i64 u.b.y] _ rfl hz9.out.range Try.underlying72 rfl sgSize) rfl ⟨(by rw [hE.out];rfl),hHeld.bel⟩
   ·have d2 : decide (Cal.alongS s u.b s.b < 0) = false:=decide_eq_false c2
    have hE : Hid (comT s t = (⟨u.a,s.b⟩,decide (Cal.alongS s u.a s.b < 0))):=by show _ = _;rw [hR.out,hF.out,if_neg c2]
    replace c2:=Lib.hid c2
    go_wp2_with fail
    clear a0 a1 a2 a3 b0 b1 b2 b3 f0 f1 f2 f3 e0 e1 e2 e3
    refine wp_region_held_drew (S:=CmK w s Bf Be u.a s.b) (by kernel_rfl) (hJ.out.k.below ((Below.refl _ _).drew)) (fun hHeld=>?_)
    refine tkCx 0 54 ?_
    refine tkCx 1 55 ?_
    refine tkCx 2 56 ?_
    refine tkCx 3 57 ?_
    refine tkCx 4 58 ?_
    refine tkCx 5 59 ?_
    (refine ratHx 6 (fun K hK=>?_);go_simp)
    refine (along_any s u.a s.b _ hs hu.a hs.b).mono ?_
    rintro e9 wn ⟨rfl,hbn⟩
    go_simp
    refine hK.out _ _ (hHeld.below hbn) (fun hHeld=>?_)
    clear hK K hbn
    (try simp only [apS,apN,siA,scZ,scS])
    refine tkCx 7 61 ?_
    obtain ⟨z0,z1,z2,z3,hz⟩:=hHeld.z
    have r0:=hz.c 0 _ rfl
    have r1:=hz.c 1 _ rfl
    have r2:=hz.c 2 _ rfl
    have r3:=hz.c 3 _ rfl
    have g0:=hz.free 0 (by simp)
    have g1:=hz.free 1 (by simp)
    have g2:=hz.free 2 (by simp)
    have g3:=hz.free 3 (by simp)
    have hz9:=Lib.hid ((((hz.set 0 (.int .i64 u.a.x) (by simp)).set 1 (.int .i64 u.a.y) (by simp)).set 2 (.int .i64 s.b.x) (by simp)).set 3 (.int .i64 s.b.y) (by simp))
    (refine ratHx 8 (fun K hK=>?_);go_simp)
    refine hK.out _ _ ((((hHeld.store 0 (by omega) _).store 1 (by omega) _).store 2 (by omega) _).store 3 (by omega) _) (fun hHeld=>?_)
    clear hK K
    (try simp only [apS,apN,siA,scZ,scS])
    refine tkCx 9 5 ?_
    refine wpAnyH_done (by kernel_rfl) ?_ _
    go_wp2_with fail
    refine bodyPost_ret (results_mid2 rfl _ _ (w.heap.size + 1 + 1) [.int .i64 u.a.x,.int .i64 u.a.y,.int .i64 s.b.x,.int .i64 s.b.y] _ rfl hz9.out.range Try.underlying72 rfl sgSize) rfl ⟨(by rw [hE.out];rfl),hHeld.bel⟩
  ·have d1 : decide (0 < Cal.alongS s u.a s.a) = false:=decide_eq_false c1
   have hF : Hid ((if 0 < Cal.alongS s u.a s.a then u.a else s.a) = s.a):=if_neg c1
   replace c1:=Lib.hid c1
   have m2 : Hid True:=trivial
   go_wp2_with (go_at_call 111;clear m2;refine (along_any s u.a s.a _ hs hu.a hs.a).mono ?_;clear a0 a1 a2 a3 b0 b1 b2 b3 f0 f1 f2 f3 e0 e1 e2 e3;rintro e X2 ⟨rfl,hbn⟩;replace hJ:=Lib.hid (hJ.out.below hbn);clear hbn;(have a0:=hJ.out.base.s.c 0 _ rfl;have a1:=hJ.out.base.s.c 1 _ rfl;have a2:=hJ.out.base.s.c 2 _ rfl;have a3:=hJ.out.base.s.c 3 _ rfl;have b0:=hJ.out.base.t.c 0 _ rfl;have b1:=hJ.out.base.t.c 1 _ rfl;have b2:=hJ.out.base.t.c 2 _ rfl;have b3:=hJ.out.base.t.c 3 _ rfl;have f0:=hJ.out.f.c 0 _ rfl;have f1:=hJ.out.f.c 1 _ rfl;have e0:=hJ.out.e.c 0 _ rfl;have e1:=hJ.out.e.c 1 _ rfl;have f2:=hJ.out.f.free 0 (by simp);have f3:=hJ.out.f.free 1 (by simp);have e2:=hJ.out.e.free 0 (by simp);have e3:=hJ.out.e.free 1 (by simp)))
   clear a0 a1 a2 a3 b0 b1 b2 b3 f0 f1 f2 f3 e0 e1 e2 e3
   refine (along_any s u.b s.b _ hs hu.b hs.b).mono ?_
   rintro e X3 ⟨rfl,hbn⟩
   replace hJ:=Lib.hid (hJ.out.below hbn)
   clear hbn
   (have a0:=hJ.out.base.s.c 0 _ rfl;have a1:=hJ.out.base.s.c 1 _ rfl;have a2:=hJ.out.base.s.c 2 _ rfl;have a3:=hJ.out.base.s.c 3 _ rfl;have b0:=hJ.out.base.t.c 0 _ rfl;have b1:=hJ.out.base.t.c 1 _ rfl;have b2:=hJ.out.base.t.c 2 _ rfl;have b3:=hJ.out.base.t.c 3 _ rfl;have f0:=hJ.out.f.c 0 _ rfl;have f1:=hJ.out.f.c 1 _ rfl;have e0:=hJ.out.e.c 0 _ rfl;have e1:=hJ.out.e.c 1 _ rfl;have f2:=hJ.out.f.free 0 (by simp);have f3:=hJ.out.f.free 1 (by simp);have e2:=hJ.out.e.free 0 (by simp);have e3:=hJ.out.e.free 1 (by simp))
   by_cases c2 : Cal.alongS s u.b s.b < 0
   ·have d2 : decide (Cal.alongS s u.b s.b < 0) = true:=decide_eq_true c2
    have hE : Hid (comT s t = (⟨s.a,u.b⟩,decide (Cal.alongS s s.a u.b < 0))):=by show _ = _;rw [hR.out,hF.out,if_pos c2]
    replace c2:=Lib.hid c2
    go_wp2_with fail
    replace hJ:=Lib.hid (hJ.out.setE u.b)
    obtain ⟨Y,hY⟩ : ∃ Y,(X3.setCell ⟨Be,0,none⟩ (.int .i64 u.b.x)).setCell ⟨Be,1,none⟩ (.int .i64 u.b.y) = Y:=⟨_,rfl⟩
    rw [hY] at hJ ⊢
    clear hY
    clear a0 a1 a2 a3 b0 b1 b2 b3 f0 f1 f2 f3 e0 e1 e2 e3
    refine wp_region_held_drew (S:=CmK w s Bf Be s.a u.b) (by kernel_rfl) (hJ.out.k.below ((Below.refl _ _).drew)) (fun hHeld=>?_)
    refine tkCx 0 54 ?_
    refine tkCx 1 55 ?_
    refine tkCx 2 56 ?_
    refine tkCx 3 57 ?_
    refine tkCx 4 58 ?_
    refine tkCx 5 59 ?_
    (refine ratHx 6 (fun K hK=>?_);go_simp)
    refine (along_any s s.a u.b _ hs hs.a hu.b).mono ?_
    rintro e9 wn ⟨rfl,hbn⟩
    go_simp
    refine hK.out _ _ (hHeld.below hbn) (fun hHeld=>?_)
    clear hK K hbn
    (try simp only [apS,apN,siA,scZ,scS])
    refine tkCx 7 61 ?_
    obtain ⟨z0,z1,z2,z3,hz⟩:=hHeld.z
    have r0:=hz.c 0 _ rfl
    have r1:=hz.c 1 _ rfl
    have r2:=hz.c 2 _ rfl
    have r3:=hz.c 3 _ rfl
    have g0:=hz.free 0 (by simp)
    have g1:=hz.free 1 (by simp)
    have g2:=hz.free 2 (by simp)
    have g3:=hz.free 3 (by simp)
    have hz9:=Lib.hid ((((hz.set 0 (.int .i64 s.a.x) (by simp)).set 1 (.int .i64 s.a.y) (by simp)).set 2 (.int .i64 u.b.x) (by simp)).set 3 (.int .i64 u.b.y) (by simp))
    (refine ratHx 8 (fun K hK=>?_);go_simp)
    refine hK.out _ _ ((((hHeld.store 0 (by omega) _).store 1 (by omega) _).store 2 (by omega) _).store 3 (by omega) _) (fun hHeld=>?_)
    clear hK K
    (try simp only [apS,apN,siA,scZ,scS])
    refine tkCx 9 5 ?_
    refine wpAnyH_done (by kernel_rfl) ?_ _
    go_wp2_with fail
    refine bodyPost_ret (results_mid2 rfl _ _ (w.heap.size + 1 + 1) [.int .i64 s.a.x,.int .i64 s.a.y,.int .i64 u.b.x,.int .i64 u.b.y] _ rfl hz9.out.range Try.underlying72 rfl sgSize) rfl ⟨(by rw [hE.out];rfl),hHeld.bel⟩
   ·have d2 : decide (Cal.alongS s u.b s.b < 0) = false:=decide_eq_false c2
    have hE : Hid (comT s t = (⟨s.a,s.b⟩,decide (Cal.alongS s s.a s.b < 0))):=by show _ = _;rw [hR.out,hF.out,if_neg c2]
    replace c2:=Lib.hid c2
    go_wp2_with fail
    clear a0 a1 a2 a3 b0 b1 b2 b3 f0 f1 f2 f3 e0 e1 e2 e3
    refine wp_region_held_drew (S:=CmK w s Bf Be s.a s.b) (by kernel_rfl) (hJ.out.k.below ((Below.refl _ _).drew)) (fun hHeld=>?_)
    refine tkCx 0 54 ?_
    refine tkCx 1 55 ?_
    refine tkCx 2 56 ?_
    refine tkCx 3 57 ?_
    refine tkCx 4 58 ?_
    refine tkCx 5 59 ?_
    (refine ratHx 6 (fun K hK=>?_);go_simp)
    refine (along_any s s.a s.b _ hs hs.a hs.b).mono ?_
    rintro e9 wn ⟨rfl,hbn⟩
    go_simp
    refine hK.out _ _ (hHeld.below hbn) (fun hHeld=>?_)
    clear hK K hbn
    (try simp only [apS,apN,siA,scZ,scS])
    refine tkCx 7 61 ?_
    obtain ⟨z0,z1,z2,z3,hz⟩:=hHeld.z
    have r0:=hz.c 0 _ rfl
    have r1:=hz.c 1 _ rfl
    have r2:=hz.c 2 _ rfl
    have r3:=hz.c 3 _ rfl
    have g0:=hz.free 0 (by simp)
    have g1:=hz.free 1 (by simp)
    have g2:=hz.free 2 (by simp)
    have g3:=hz.free 3 (by simp)
    have hz9:=Lib.hid ((((hz.set 0 (.int .i64 s.a.x) (by simp)).set 1 (.int .i64 s.a.y) (by simp)).set 2 (.int .i64 s.b.x) (by simp)).set 3 (.int .i64 s.b.y) (by simp))
    (refine ratHx 8 (fun K hK=>?_);go_simp)
    refine hK.out _ _ ((((hHeld.store 0 (by omega) _).store 1 (by omega) _).store 2 (by omega) _).store 3 (by omega) _) (fun hHeld=>?_)
    clear hK K
    (try simp only [apS,apN,siA,scZ,scS])
    refine tkCx 9 5 ?_
    refine wpAnyH_done (by kernel_rfl) ?_ _
    go_wp2_with fail
    refine bodyPost_ret (results_mid2 rfl _ _ (w.heap.size + 1 + 1) [.int .i64 s.a.x,.int .i64 s.a.y,.int .i64 s.b.x,.int .i64 s.b.y] _ rfl hz9.out.range Try.underlying72 rfl sgSize) rfl ⟨(by rw [hE.out];rfl),hHeld.bel⟩
end Go.Proofs.Ythfokpchdlcidaa
namespace Go.Proofs.Ythfokpchdlcidaa
open Go Go.RowKit Go.Shelf
attribute [local go_sem] Oper.semAt_some
theorem common_any (s t : Sd) (w : World) (hs : SmS s) (ht : SmS t) :
  Calls Try.prog 89 #[.agg #[.int .i64 s.a.x,.int .i64 s.a.y,.int .i64 s.b.x,.int .i64 s.b.y],.agg #[.int .i64 t.a.x,.int .i64 t.a.y,.int .i64 t.b.x,.int .i64 t.b.y]] w fun e w'=>e = .returned (.tuple #[.agg #[.int .i64 (comT s t).1.a.x,.int .i64 (comT s t).1.a.y,.int .i64 (comT s t).1.b.x,.int .i64 (comT s t).1.b.y],.bool (comT s t).2]) ∧ Below w.heap.size w w':=by
 have m1 : Hid True:=trivial
 rcases trn_cases s t.a with h1 | h1 | h1
 ·rcases trn_cases s t.b with h2 | h2 | h2
  ·by_cases h3 : 0 < Cal.alongS s t.a t.b
   ·exact common_s s t w hs ht h1 h2 h3
   ·exact common_t s t w hs ht h1 h2 h3
  ·have hR : Hid (comT s t = (⟨Cal.pt0,Cal.pt0⟩,false)):=by show _ = _;unfold comT;rw [if_neg (by omega)]
   replace h1:=Lib.hid h1
   replace h2:=Lib.hid h2
   have hI:=Lib.hid (CmI.first w s t)
   go_enter Try.func89,Try.ntmps89
   go_wp2_with (first | (go_at_call 81;clear m1;refine (turn_any s t.a _ hs ht.a).mono ?_;rintro e wn ⟨rfl,hbn⟩;rw [h1.out];replace hI:=Lib.hid (hI.out.below hbn);clear hbn;have a0:=hI.out.s.c 0 _ rfl;have a1:=hI.out.s.c 1 _ rfl;have a2:=hI.out.s.c 2 _ rfl;have a3:=hI.out.s.c 3 _ rfl;have b0:=hI.out.t.c 0 _ rfl;have b1:=hI.out.t.c 1 _ rfl;have b2:=hI.out.t.c 2 _ rfl;have b3:=hI.out.t.c 3 _ rfl;have f0:=hI.out.t.free 0 (by simp);have f1:=hI.out.t.free 1 (by simp);have f2:=hI.out.t.free 2 (by simp);have f3:=hI.out.t.free 3 (by simp);have g0:=hI.out.z.free 0 (by simp);have g1:=hI.out.z.free 1 (by simp);have g2:=hI.out.z.free 2 (by simp);have g3:=hI.out.z.free 3 (by simp);have r0:=hI.out.z.c 0 _ rfl;have r1:=hI.out.z.c 1 _ rfl;have r2:=hI.out.z.c 2 _ rfl;have r3:=hI.out.z.c 3 _ rfl) | (go_at_call 81;refine (turn_any s t.b _ hs ht.b).mono ?_;clear a0 a1 a2 a3 b0 b1 b2 b3 f0 f1 f2 f3;clear g0 g1 g2 g3 r0 r1 r2 r3;rintro e wn ⟨rfl,hbn⟩;rw [h2.out];replace hI:=Lib.hid (hI.out.below hbn);clear hbn;have a0:=hI.out.s.c 0 _ rfl;have a1:=hI.out.s.c 1 _ rfl;have a2:=hI.out.s.c 2 _ rfl;have a3:=hI.out.s.c 3 _ rfl;have b0:=hI.out.t.c 0 _ rfl;have b1:=hI.out.t.c 1 _ rfl;have b2:=hI.out.t.c 2 _ rfl;have b3:=hI.out.t.c 3 _ rfl;have f0:=hI.out.t.free 0 (by simp);have f1:=hI.out.t.free 1 (by simp);have f2:=hI.out.t.free 2 (by simp);have f3:=hI.out.t.free 3 (by simp);have g0:=hI.out.z.free 0 (by simp);have g1:=hI.out.z.free 1 (by simp);have g2:=hI.out.z.free 2 (by simp);have g3:=hI.out.z.free 3 (by simp);have r0:=hI.out.z.c 0 _ rfl;have r1:=hI.out.z.c 1 _ rfl;have r2:=hI.out.z.c 2 _ rfl;have r3:=hI.out.z.c 3 _ rfl))
   refine bodyPost_ret (results_mid2 rfl _ _ (w.heap.size + 1 + 1) [.int .i64 0,.int .i64 0,.int .i64 0,.int .i64 0] _ rfl ((((hI.out.z.set 0 (.int .i64 0) (by simp)).set 1 (.int .i64 0) (by simp)).set 2 (.int .i64 0) (by simp)).set 3 (.int .i64 0) (by simp)).range Try.underlying72 rfl sgSize) rfl ⟨by rw [hR.out];rfl,?_⟩
   exact (((hI.out.bel.setCell (p:=⟨w.heap.size + 1 + 1,0,none⟩) (show w.heap.size ≤ w.heap.size + 1 + 1 by omega) _).setCell (p:=⟨w.heap.size + 1 + 1,1,none⟩) (show w.heap.size ≤ w.heap.size + 1 + 1 by omega) _).setCell (p:=⟨w.heap.size + 1 + 1,2,none⟩) (show w.heap.size ≤ w.heap.size + 1 + 1 by omega) _).setCell (p:=⟨w.heap.size + 1 + 1,3,none⟩) (show w.heap.size ≤ w.heap.size + 1 + 1 by omega) _
  ·have hR : Hid (comT s t = (⟨Cal.pt0,Cal.pt0⟩,false)):=by show _ = _;unfold comT;rw [if_neg (by omega)]
   replace h1:=Lib.hid h1
   replace h2:=Lib.hid h2
   have hI:=Lib.hid (CmI.first w s t)
   go_enter Try.func89,Try.ntmps89
   go_wp2_with (first | (go_at_call 81;clear m1;refine (turn_any s t.a _ hs ht.a).mono ?_;rintro e wn ⟨rfl,hbn⟩;rw [h1.out];replace hI:=Lib.hid (hI.out.below hbn);clear hbn;have a0:=hI.out.s.c 0 _ rfl;have a1:=hI.out.s.c 1 _ rfl;have a2:=hI.out.s.c 2 _ rfl;have a3:=hI.out.s.c 3 _ rfl;have b0:=hI.out.t.c 0 _ rfl;have b1:=hI.out.t.c 1 _ rfl;have b2:=hI.out.t.c 2 _ rfl;have b3:=hI.out.t.c 3 _ rfl;have f0:=hI.out.t.free 0 (by simp);have f1:=hI.out.t.free 1 (by simp);have f2:=hI.out.t.free 2 (by simp);have f3:=hI.out.t.free 3 (by simp);have g0:=hI.out.z.free 0 (by simp);have g1:=hI.out.z.free 1 (by simp);have g2:=hI.out.z.free 2 (by simp);have g3:=hI.out.z.free 3 (by simp);have r0:=hI.out.z.c 0 _ rfl;have r1:=hI.out.z.c 1 _ rfl;have r2:=hI.out.z.c 2 _ rfl;have r3:=hI.out.z.c 3 _ rfl) | (go_at_call 81;refine (turn_any s t.b _ hs ht.b).mono ?_;clear a0 a1 a2 a3 b0 b1 b2 b3 f0 f1 f2 f3;clear g0 g1 g2 g3 r0 r1 r2 r3;rintro e wn ⟨rfl,hbn⟩;rw [h2.out];replace hI:=Lib.hid (hI.out.below hbn);clear hbn;have a0:=hI.out.s.c 0 _ rfl;have a1:=hI.out.s.c 1 _ rfl;have a2:=hI.out.s.c 2 _ rfl;have a3:=hI.out.s.c 3 _ rfl;have b0:=hI.out.t.c 0 _ rfl;have b1:=hI.out.t.c 1 _ rfl;have b2:=hI.out.t.c 2 _ rfl;have b3:=hI.out.t.c 3 _ rfl;have f0:=hI.out.t.free 0 (by simp);have f1:=hI.out.t.free 1 (by simp);have f2:=hI.out.t.free 2 (by simp);have f3:=hI.out.t.free 3 (by simp);have g0:=hI.out.z.free 0 (by simp);have g1:=hI.out.z.free 1 (by simp);have g2:=hI.out.z.free 2 (by simp);have g3:=hI.out.z.free 3 (by simp);have r0:=hI.out.z.c 0 _ rfl;have r1:=hI.out.z.c 1 _ rfl;have r2:=hI.out.z.c 2 _ rfl;have r3:=hI.out.z.c 3 _ rfl))
   refine bodyPost_ret (results_mid2 rfl _ _ (w.heap.size + 1 + 1) [.int .i64 0,.int .i64 0,.int .i64 0,.int .i64 0] _ rfl ((((hI.out.z.set 0 (.int .i64 0) (by simp)).set 1 (.int .i64 0) (by simp)).set 2 (.int .i64 0) (by simp)).set 3 (.int .i64 0) (by simp)).range Try.underlying72 rfl sgSize) rfl ⟨by rw [hR.out];rfl,?_⟩
   exact (((hI.out.bel.setCell (p:=⟨w.heap.size + 1 + 1,0,none⟩) (show w.heap.size ≤ w.heap.size + 1 + 1 by omega) _).setCell (p:=⟨w.heap.size + 1 + 1,1,none⟩) (show w.heap.size ≤ w.heap.size + 1 + 1 by omega) _).setCell (p:=⟨w.heap.size + 1 + 1,2,none⟩) (show w.heap.size ≤ w.heap.size + 1 + 1 by omega) _).setCell (p:=⟨w.heap.size + 1 + 1,3,none⟩) (show w.heap.size ≤ w.heap.size + 1 + 1 by omega) _
 ·have hR : Hid (comT s t = (⟨Cal.pt0,Cal.pt0⟩,false)):=by show _ = _;unfold comT;rw [if_neg (by omega)]
  replace h1:=Lib.hid h1
  have hI:=Lib.hid (CmI.first w s t)
  go_enter Try.func89,Try.ntmps89
  go_wp2_with (first | (go_at_call 81;clear m1;refine (turn_any s t.a _ hs ht.a).mono ?_;rintro e wn ⟨rfl,hbn⟩;rw [h1.out];replace hI:=Lib.hid (hI.out.below hbn);clear hbn;have a0:=hI.out.s.c 0 _ rfl;have a1:=hI.out.s.c 1 _ rfl;have a2:=hI.out.s.c 2 _ rfl;have a3:=hI.out.s.c 3 _ rfl;have b0:=hI.out.t.c 0 _ rfl;have b1:=hI.out.t.c 1 _ rfl;have b2:=hI.out.t.c 2 _ rfl;have b3:=hI.out.t.c 3 _ rfl;have f0:=hI.out.t.free 0 (by simp);have f1:=hI.out.t.free 1 (by simp);have f2:=hI.out.t.free 2 (by simp);have f3:=hI.out.t.free 3 (by simp);have g0:=hI.out.z.free 0 (by simp);have g1:=hI.out.z.free 1 (by simp);have g2:=hI.out.z.free 2 (by simp);have g3:=hI.out.z.free 3 (by simp);have r0:=hI.out.z.c 0 _ rfl;have r1:=hI.out.z.c 1 _ rfl;have r2:=hI.out.z.c 2 _ rfl;have r3:=hI.out.z.c 3 _ rfl) | (go_at_call 81;refine (turn_any s t.b _ hs ht.b).mono ?_;clear a0 a1 a2 a3 b0 b1 b2 b3 f0 f1 f2 f3;clear g0 g1 g2 g3 r0 r1 r2 r3;rintro e wn ⟨rfl,hbn⟩;rw [h2.out];replace hI:=Lib.hid (hI.out.below hbn);clear hbn;have a0:=hI.out.s.c 0 _ rfl;have a1:=hI.out.s.c 1 _ rfl;have a2:=hI.out.s.c 2 _ rfl;have a3:=hI.out.s.c 3 _ rfl;have b0:=hI.out.t.c 0 _ rfl;have b1:=hI.out.t.c 1 _ rfl;have b2:=hI.out.t.c 2 _ rfl;have b3:=hI.out.t.c 3 _ rfl;have f0:=hI.out.t.free 0 (by simp);have f1:=hI.out.t.free 1 (by simp);have f2:=hI.out.t.free 2 (by simp);have f3:=hI.out.t.free 3 (by simp);have g0:=hI.out.z.free 0 (by simp);have g1:=hI.out.z.free 1 (by simp);have g2:=hI.out.z.free 2 (by simp);have g3:=hI.out.z.free 3 (by simp);have r0:=hI.out.z.c 0 _ rfl;have r1:=hI.out.z.c 1 _ rfl;have r2:=hI.out.z.c 2 _ rfl;have r3:=hI.out.z.c 3 _ rfl))
  refine bodyPost_ret (results_mid2 rfl _ _ (w.heap.size + 1 + 1) [.int .i64 0,.int .i64 0,.int .i64 0,.int .i64 0] _ rfl ((((hI.out.z.set 0 (.int .i64 0) (by simp)).set 1 (.int .i64 0) (by simp)).set 2 (.int .i64 0) (by simp)).set 3 (.int .i64 0) (by simp)).range Try.underlying72 rfl sgSize) rfl ⟨by rw [hR.out];rfl,?_⟩
  exact (((hI.out.bel.setCell (p:=⟨w.heap.size + 1 + 1,0,none⟩) (show w.heap.size ≤ w.heap.size + 1 + 1 by omega) _).setCell (p:=⟨w.heap.size + 1 + 1,1,none⟩) (show w.heap.size ≤ w.heap.size + 1 + 1 by omega) _).setCell (p:=⟨w.heap.size + 1 + 1,2,none⟩) (show w.heap.size ≤ w.heap.size + 1 + 1 by omega) _).setCell (p:=⟨w.heap.size + 1 + 1,3,none⟩) (show w.heap.size ≤ w.heap.size + 1 + 1 by omega) _
 ·have hR : Hid (comT s t = (⟨Cal.pt0,Cal.pt0⟩,false)):=by show _ = _;unfold comT;rw [if_neg (by omega)]
  replace h1:=Lib.hid h1
  have hI:=Lib.hid (CmI.first w s t)
  go_enter Try.func89,Try.ntmps89
  go_wp2_with (first | (go_at_call 81;clear m1;refine (turn_any s t.a _ hs ht.a).mono ?_;rintro e wn ⟨rfl,hbn⟩;rw [h1.out];replace hI:=Lib.hid (hI.out.below hbn);clear hbn;have a0:=hI.out.s.c 0 _ rfl;have a1:=hI.out.s.c 1 _ rfl;have a2:=hI.out.s.c 2 _ rfl;have a3:=hI.out.s.c 3 _ rfl;have b0:=hI.out.t.c 0 _ rfl;have b1:=hI.out.t.c 1 _ rfl;have b2:=hI.out.t.c 2 _ rfl;have b3:=hI.out.t.c 3 _ rfl;have f0:=hI.out.t.free 0 (by simp);have f1:=hI.out.t.free 1 (by simp);have f2:=hI.out.t.free 2 (by simp);have f3:=hI.out.t.free 3 (by simp);have g0:=hI.out.z.free 0 (by simp);have g1:=hI.out.z.free 1 (by simp);have g2:=hI.out.z.free 2 (by simp);have g3:=hI.out.z.free 3 (by simp);have r0:=hI.out.z.c 0 _ rfl;have r1:=hI.out.z.c 1 _ rfl;have r2:=hI.out.z.c 2 _ rfl;have r3:=hI.out.z.c 3 _ rfl) | (go_at_call 81;refine (turn_any s t.b _ hs ht.b).mono ?_;clear a0 a1 a2 a3 b0 b1 b2 b3 f0 f1 f2 f3;clear g0 g1 g2 g3 r0 r1 r2 r3;rintro e wn ⟨rfl,hbn⟩;rw [h2.out];replace hI:=Lib.hid (hI.out.below hbn);clear hbn;have a0:=hI.out.s.c 0 _ rfl;have a1:=hI.out.s.c 1 _ rfl;have a2:=hI.out.s.c 2 _ rfl;have a3:=hI.out.s.c 3 _ rfl;have b0:=hI.out.t.c 0 _ rfl;have b1:=hI.out.t.c 1 _ rfl;have b2:=hI.out.t.c 2 _ rfl;have b3:=hI.out.t.c 3 _ rfl;have f0:=hI.out.t.free 0 (by simp);have f1:=hI.out.t.free 1 (by simp);have f2:=hI.out.t.free 2 (by simp);have f3:=hI.out.t.free 3 (by simp);have g0:=hI.out.z.free 0 (by simp);have g1:=hI.out.z.free 1 (by simp);have g2:=hI.out.z.free 2 (by simp);have g3:=hI.out.z.free 3 (by simp);have r0:=hI.out.z.c 0 _ rfl;have r1:=hI.out.z.c 1 _ rfl;have r2:=hI.out.z.c 2 _ rfl;have r3:=hI.out.z.c 3 _ rfl))
  refine bodyPost_ret (results_mid2 rfl _ _ (w.heap.size + 1 + 1) [.int .i64 0,.int .i64 0,.int .i64 0,.int .i64 0] _ rfl ((((hI.out.z.set 0 (.int .i64 0) (by simp)).set 1 (.int .i64 0) (by simp)).set 2 (.int .i64 0) (by simp)).set 3 (.int .i64 0) (by simp)).range Try.underlying72 rfl sgSize) rfl ⟨by rw [hR.out];rfl,?_⟩
  exact (((hI.out.bel.setCell (p:=⟨w.heap.size + 1 + 1,0,none⟩) (show w.heap.size ≤ w.heap.size + 1 + 1 by omega) _).setCell (p:=⟨w.heap.size + 1 + 1,1,none⟩) (show w.heap.size ≤ w.heap.size + 1 + 1 by omega) _).setCell (p:=⟨w.heap.size + 1 + 1,2,none⟩) (show w.heap.size ≤ w.heap.size + 1 + 1 by omega) _).setCell (p:=⟨w.heap.size + 1 + 1,3,none⟩) (show w.heap.size ≤ w.heap.size + 1 + 1 by omega) _
end Go.Proofs.Ythfokpchdlcidaa
namespace Go.Proofs.Ythfokpchdlcidaa
open Go Go.RowKit Go.Shelf
attribute [local go_sem] Oper.semAt_some
def sdR (s : Sd) : List Value:=[.int .i64 s.a.x,.int .i64 s.a.y,.int .i64 s.b.x,.int .i64 s.b.y]
def bdIn (s : Sd) (vs : List Pt) (j : Nat) : List Sd:=((Cal.sds vs).take j).filterMap (Cal.commonS s)
def bdTo (us vs : List Pt) (k : Nat) : List Sd:=((Cal.sds us).take k).flatMap fun s=>(Cal.sds vs).filterMap (Cal.commonS s)
theorem sds_take {ps : List Pt} {i : Nat} (h : i < ps.length) : (Cal.sds ps).take (i + 1) = (Cal.sds ps).take i ++ [Cal.sd ps i]:=by
 have hi : i < (Cal.sds ps).length:=by rw [sds_length];exact h
 have hg : (Cal.sds ps)[i] = Cal.sd ps i:=by have:=sds_get h;rw [List.getElem?_eq_getElem hi] at this;exact Option.some.inj this
 rw [List.take_succ_eq_append_getElem hi,hg]
theorem bdIn_yes {s : Sd} {vs : List Pt} {j : Nat} (h : j < vs.length) {x : Sd} (hx : Cal.commonS s (Cal.sd vs j) = some x) : bdIn s vs (j + 1) = bdIn s vs j ++ [x]:=by
 unfold bdIn
 rw [sds_take h,List.filterMap_append]
 simp [hx]
theorem bdIn_no {s : Sd} {vs : List Pt} {j : Nat} (h : j < vs.length) (hx : Cal.commonS s (Cal.sd vs j) = none) : bdIn s vs (j + 1) = bdIn s vs j:=by
 unfold bdIn
 rw [sds_take h,List.filterMap_append]
 simp [hx]
theorem bdTo_succ {us vs : List Pt} {k : Nat} (h : k < us.length) : bdTo us vs (k + 1) = bdTo us vs k ++ bdIn (Cal.sd us k) vs vs.length:=by
 unfold bdTo bdIn
 have hv : (Cal.sds vs).take vs.length = Cal.sds vs:=List.take_of_length_le (by rw [sds_length];exact Nat.le_refl _)
 rw [sds_take h,List.flatMap_append,hv]
 simp
theorem bdTo_all (us vs : List Pt) : bdTo us vs us.length = Cal.borderP us vs:=by
 unfold bdTo Cal.borderP
 rw [List.take_of_length_le (by rw [sds_length];exact Nat.le_refl _)]
theorem bdIn_zero (s : Sd) (vs : List Pt) : bdIn s vs 0 = []:=rfl
theorem elemSg : Elem Try.prog 65 72 4 32:=Elem.mk' Try.underlying65 (z:=.agg #[.int .i64 0,.int .i64 0,.int .i64 0,.int .i64 0]) (by kernel_rfl) rfl (by decide)
structure BdI (w : World) (Vb : Option Addr) (nb db N : Nat) (Ns : List Nat) (out : List Sd) (W : World) : Prop where
 b : BoxAt W w.heap.size [.slice Vb nb db]
 o : ∃ v,BoxAt W (w.heap.size + 1) [v] ∧ OwnL W (w.heap.size + 3) 72 4 v (out.map sdR) ∧ ∀ g,v.ownBlock = some g → g ∉ Ns
 bel : Below w.heap.size w W
 lt : w.heap.size + 3 ≤ N
 size : N ≤ W.heap.size
theorem BdI.below {w : World} {Vb : Option Addr} {nb db N : Nat} {Ns : List Nat} {out : List Sd} {X Y : World} (h : BdI w Vb nb db N Ns out X) (hb : Below X.heap.size X Y) : BdI w Vb nb db N Ns out Y:=by
 obtain ⟨h1,⟨v,h2,h3,h4⟩,h5,h6,h7⟩:=h
 exact ⟨h1.below hb,⟨v,h2.below hb,OwnL.below h3 hb,h4⟩,h5.trans (hb.mono h5.size),h6,Nat.le_trans h7 hb.size⟩
theorem BdI.kept {w : World} {Vb : Option Addr} {nb db N : Nat} {Ns : List Nat} {out : List Sd} {X Y : World} {row : Option Nat} (h : BdI w Vb nb db N Ns out X) (hg : X.grownBy Y row) (hr : ∀ r,row = some r → w.heap.size ≤ r ∧ ∃ o : Obj,X.heap[r]? = some o ∧ o.isCells = false) : BdI w Vb nb db N Ns out Y:=by
 obtain ⟨h1,⟨v,h2,h3,h4⟩,h5,h6,h7⟩:=h
 have ho : Others X row:=fun r e=>(hr r e).2
 exact ⟨h1.keptF hg ho,⟨v,h2.keptF hg ho,OwnL.keptF h3 hg ho,h4⟩,ownFrom_below (β:=Unit) (Nat.le_refl _) (Nat.le_refl _) () X Y row h5 hg hr,h6,Nat.le_trans h7 hg.size⟩
end Go.Proofs.Ythfokpchdlcidaa
