/- What the statements rest on: definitions and walks, part 19. -/
import Derived.Test.YtoojdkaimhlcbaaGreatJ18
set_option maxRecDepth 100000
set_option maxHeartbeats 16000000
set_option linter.unusedSimpArgs false
set_option linter.unusedVariables false
namespace Go.Proofs.YtoojdkaimhlcbaaGreat
open Go Go.RowKit Go.Shelf
attribute [local go_sem] Oper.semAt_some
theorem common_s (s t:Sd) (w:World) (hs:SmS s) (ht:SmS t) (h1:Cal.trn s t.a=0) (h2:Cal.trn s t.b=0) (h3:0<Cal.alongS s t.a t.b) :
  Calls Tryz.prog 58 #[.agg #[.int .i64 s.a.x,.int .i64 s.a.y,.int .i64 s.b.x,.int .i64 s.b.y],.agg #[.int .i64 t.a.x,.int .i64 t.a.y,.int .i64 t.b.x,.int .i64 t.b.y]] w fun e w'=>e=.returned (.tuple #[.agg #[.int .i64 (comT s t).1.a.x,.int .i64 (comT s t).1.a.y,.int .i64 (comT s t).1.b.x,.int .i64 (comT s t).1.b.y],.bool (comT s t).2])∧Below w.heap.size w w':=by
 have hmo:(Tryz.prog).follows Departure.mixedOrders=true:=by kernel_rfl
 obtain⟨u,hut⟩:∃ u:Sd,u=⟨t.b,t.a⟩:=⟨_,rfl⟩
 have hu:SmS u:=hut ▸ ⟨ht.b,ht.a⟩
 have hR:Hid (comT s t=(⟨if 0<Cal.alongS s u.a s.a then u.a else s.a,if Cal.alongS s u.b s.b<0 then u.b else s.b⟩,decide (Cal.alongS s (if 0<Cal.alongS s u.a s.a then u.a else s.a) (if Cal.alongS s u.b s.b<0 then u.b else s.b)<0))):=by show _=_;unfold comT;rw[if_pos ⟨h1,h2⟩,if_pos h3,hut]
 replace hut:=Lib.hid hut
 have d3:decide (0<Cal.alongS s t.a t.b)=true:=decide_eq_true h3
 replace h1:=Lib.hid h1
 replace h2:=Lib.hid h2
 replace h3:=Lib.hid h3
 have hI:=Lib.hid (CmI.first w s t)
 have m1:Hid True:=trivial
 go_enter Tryz.func58,Tryz.ntmps58
 go_wp2_with (first
  |(go_at_call 79;clear m1;refine (turn_any s t.a _ hs ht.a).mono ?_;rintro e wn ⟨rfl,hbn⟩;rw[h1.out];replace hI:=Lib.hid (hI.out.below hbn);clear hbn;obtain⟨a0,a1,a2,a3⟩:=hI.out.s.c4;obtain⟨b0,b1,b2,b3⟩:=hI.out.t.c4;obtain⟨f0,f1,f2,f3⟩:=hI.out.t.fr4)
  |(go_at_call 79;refine (turn_any s t.b _ hs ht.b).mono ?_;clear a0 a1 a2 a3 b0 b1 b2 b3 f0 f1 f2 f3;rintro e wn ⟨rfl,hbn⟩;rw[h2.out];replace hI:=Lib.hid (hI.out.below hbn);clear hbn;obtain⟨a0,a1,a2,a3⟩:=hI.out.s.c4;obtain⟨b0,b1,b2,b3⟩:=hI.out.t.c4;obtain⟨f0,f1,f2,f3⟩:=hI.out.t.fr4)
  |(go_at_call 80;refine (along_any s t.a t.b _ hs ht.a ht.b).mono ?_;clear a0 a1 a2 a3 b0 b1 b2 b3 f0 f1 f2 f3;rintro e wn ⟨rfl,hbn⟩;replace hI:=Lib.hid (hI.out.below hbn);clear hbn;obtain⟨a0,a1,a2,a3⟩:=hI.out.s.c4;obtain⟨b0,b1,b2,b3⟩:=hI.out.t.c4;obtain⟨f0,f1,f2,f3⟩:=hI.out.t.fr4))
 replace hI:=Lib.hid hI.out.swap
 obtain⟨W4,hW4⟩:∃ W4,(((wn.setCell ⟨w.heap.size+1,0,none⟩ (.int .i64 t.b.x)).setCell ⟨w.heap.size+1,1,none⟩ (.int .i64 t.b.y)).setCell ⟨w.heap.size+1,2,none⟩ (.int .i64 t.a.x)).setCell ⟨w.heap.size+1,3,none⟩ (.int .i64 t.a.y)=W4:=⟨_,rfl⟩
 rw[hW4,←hut.out] at hI
 rw[hW4]
 clear hW4
 clear a0 a1 a2 a3 b0 b1 b2 b3 f0 f1 f2 f3
 obtain⟨a0,a1,a2,a3⟩:=hI.out.s.c4;obtain⟨b0,b1,b2,b3⟩:=hI.out.t.c4;obtain⟨f0,f1,f2,f3⟩:=hI.out.t.fr4
 have l0:=hI.out.s.lt
 have l1:=hI.out.t.lt
 have l2:=hI.out.z.lt
 have n0:¬w.heap.size=W4.heap.size:=by omega
 have n1:¬w.heap.size+1=W4.heap.size:=by omega
 have n2:¬w.heap.size+1+1=W4.heap.size:=by omega
 have hJ1:=Lib.hid (CmJ.new hI.out s.a s.b)
 have hJ2:=Lib.hid (CmJ.new hI.out s.b s.a).flip
 clear d3
 go_region_o
 ·clear n0 n1 n2 hJ2 l0 l1 l2
  clear a0 a1 a2 a3 b0 b1 b2 b3 f0 f1 f2 f3
  obtain⟨Bf,hn⟩:∃ n,W4.heap.size=n:=⟨_,rfl⟩
  generalize ((W4.alloc (.cells #[.int .i64 s.a.x,.int .i64 s.a.y] 61)).alloc (.cells #[.int .i64 s.b.x,.int .i64 s.b.y] 61)).drew=X at hJ1 ⊢
  rw[hn] at hJ1 ⊢
  clear hI hn
  obtain⟨Be,hBe⟩:∃ B,Bf+1=B:=⟨_,rfl⟩
  rw[hBe] at hJ1 ⊢
  clear hBe
  have hJ:=hJ1
  clear hJ1
  have k0:=hJ.out.hf
  have k1:=hJ.out.he
  have k2:=hJ.out.ne
  have n0:¬Bf=Be:=k2
  have n1:¬Be=Bf:=fun e=>k2 e.symm
  have n2:¬Bf=w.heap.size:=by omega
  have n3:¬Bf=w.heap.size+1:=by omega
  have n4:¬Be=w.heap.size:=by omega
  have n5:¬Be=w.heap.size+1:=by omega
  clear k2
  (obtain⟨a0,a1,a2,a3⟩:=hJ.out.base.s.c4;obtain⟨b0,b1,b2,b3⟩:=hJ.out.base.t.c4;obtain⟨f0,f1⟩:=hJ.out.f.c2;obtain⟨e0,e1⟩:=hJ.out.e.c2;obtain⟨f2,f3⟩:=hJ.out.f.fr2;obtain⟨e2,e3⟩:=hJ.out.e.fr2)
  by_cases c1:0<Cal.alongS s u.a s.a
  ·have d1:decide (0<Cal.alongS s u.a s.a)=true:=decide_eq_true c1
   have hF:Hid ((if 0<Cal.alongS s u.a s.a then u.a else s.a)=u.a):=if_pos c1
   replace c1:=Lib.hid c1
   have m2:Hid True:=trivial
   go_wp2_with (go_at_call 80;clear m2;refine (along_any s u.a s.a _ hs hu.a hs.a).mono ?_;clear a0 a1 a2 a3 b0 b1 b2 b3 f0 f1 f2 f3 e0 e1 e2 e3;rintro e X2 ⟨rfl,hbn⟩;replace hJ:=Lib.hid (hJ.out.below hbn);clear hbn;(obtain⟨a0,a1,a2,a3⟩:=hJ.out.base.s.c4;obtain⟨b0,b1,b2,b3⟩:=hJ.out.base.t.c4;obtain⟨f0,f1⟩:=hJ.out.f.c2;obtain⟨e0,e1⟩:=hJ.out.e.c2;obtain⟨f2,f3⟩:=hJ.out.f.fr2;obtain⟨e2,e3⟩:=hJ.out.e.fr2))
   replace hJ:=Lib.hid (hJ.out.setF u.a)
   clear a0 a1 a2 a3 b0 b1 b2 b3 f0 f1 f2 f3 e0 e1 e2 e3
   refine (along_any s u.b s.b _ hs hu.b hs.b).mono ?_
   rintro e X3 ⟨rfl,hbn⟩
   replace hJ:=Lib.hid (hJ.out.below hbn)
   clear hbn
   (obtain⟨a0,a1,a2,a3⟩:=hJ.out.base.s.c4;obtain⟨b0,b1,b2,b3⟩:=hJ.out.base.t.c4;obtain⟨f0,f1⟩:=hJ.out.f.c2;obtain⟨e0,e1⟩:=hJ.out.e.c2;obtain⟨f2,f3⟩:=hJ.out.f.fr2;obtain⟨e2,e3⟩:=hJ.out.e.fr2)
   by_cases c2:Cal.alongS s u.b s.b<0
   ·have d2:decide (Cal.alongS s u.b s.b<0)=true:=decide_eq_true c2
    have hE:Hid (comT s t=(⟨u.a,u.b⟩,decide (Cal.alongS s u.a u.b<0))):=by show _=_;rw[hR.out,hF.out,if_pos c2]
    replace c2:=Lib.hid c2
    go_wp2_with fail
    replace hJ:=Lib.hid (hJ.out.setE u.b)
    obtain⟨Y,hY⟩:∃ Y,(X3.setCell ⟨Be,0,none⟩ (.int .i64 u.b.x)).setCell ⟨Be,1,none⟩ (.int .i64 u.b.y)=Y:=⟨_,rfl⟩
    rw[hY] at hJ ⊢
    clear hY
    clear a0 a1 a2 a3 b0 b1 b2 b3 f0 f1 f2 f3 e0 e1 e2 e3
    refine wp_region_held_drew (S:=CmK w s Bf Be u.a u.b) (by kernel_rfl) (hJ.out.k.below ((Below.refl _ _).drew)) (fun hHeld=>?_)
    refine tkCx 0 54 ?_
    refine tkCx 1 55 ?_
    refine tkCx 2 56 ?_
    refine tkCx 3 57 ?_
    refine tkCx 4 58 ?_
    refine tkCx 5 59 ?_
    (refine ratHx 6 (fun K hK=>?_);go_simp)
    refine (along_any s u.a u.b _ hs hu.a hu.b).mono ?_
    rintro e9 wn ⟨rfl,hbn⟩
    go_simp
    refine hK.out _ _ (hHeld.below hbn) (fun hHeld=>?_)
    clear hK K hbn
    (try simp only[apS,apN,siA,scZ,scS])
    refine tkCx 7 61 ?_
    obtain⟨z0,z1,z2,z3,hz⟩:=hHeld.z
    obtain⟨r0,r1,r2,r3⟩:=hz.c4;obtain⟨g0,g1,g2,g3⟩:=hz.fr4
    have hz9:=Lib.hid ((((hz.set 0 (.int .i64 u.a.x) (by simp)).set 1 (.int .i64 u.a.y) (by simp)).set 2 (.int .i64 u.b.x) (by simp)).set 3 (.int .i64 u.b.y) (by simp))
    (refine ratHx 8 (fun K hK=>?_);go_simp)
    refine hK.out _ _ ((((hHeld.store 0 (by omega) _).store 1 (by omega) _).store 2 (by omega) _).store 3 (by omega) _) (fun hHeld=>?_)
    clear hK K
    (try simp only[apS,apN,siA,scZ,scS])
    refine tkCx 9 5 ?_
    refine wpAnyH_done (by kernel_rfl) ?_ _
    go_wp2_with fail
    refine bodyPost_ret (results_mid2 rfl _ _ (w.heap.size+1+1) [.int .i64 u.a.x,.int .i64 u.a.y,.int .i64 u.b.x,.int .i64 u.b.y] _ rfl hz9.out.range Tryz.underlying63 rfl sgSize) rfl ⟨(by rw[hE.out];rfl),hHeld.bel⟩
   have d2:decide (Cal.alongS s u.b s.b<0)=false:=decide_eq_false c2
   have hE:Hid (comT s t=(⟨u.a,s.b⟩,decide (Cal.alongS s u.a s.b<0))):=by show _=_;rw[hR.out,hF.out,if_neg c2]
   replace c2:=Lib.hid c2
   go_wp2_with fail
   clear a0 a1 a2 a3 b0 b1 b2 b3 f0 f1 f2 f3 e0 e1 e2 e3
   refine wp_region_held_drew (S:=CmK w s Bf Be u.a s.b) (by kernel_rfl) (hJ.out.k.below ((Below.refl _ _).drew)) (fun hHeld=>?_)
   refine tkCx 0 54 ?_
   refine tkCx 1 55 ?_
   refine tkCx 2 56 ?_
   refine tkCx 3 57 ?_
   refine tkCx 4 58 ?_
   refine tkCx 5 59 ?_
   (refine ratHx 6 (fun K hK=>?_);go_simp)
   refine (along_any s u.a s.b _ hs hu.a hs.b).mono ?_
   rintro e9 wn ⟨rfl,hbn⟩
   go_simp
   refine hK.out _ _ (hHeld.below hbn) (fun hHeld=>?_)
   clear hK K hbn
   (try simp only[apS,apN,siA,scZ,scS])
   refine tkCx 7 61 ?_
   obtain⟨z0,z1,z2,z3,hz⟩:=hHeld.z
   obtain⟨r0,r1,r2,r3⟩:=hz.c4;obtain⟨g0,g1,g2,g3⟩:=hz.fr4
   have hz9:=Lib.hid ((((hz.set 0 (.int .i64 u.a.x) (by simp)).set 1 (.int .i64 u.a.y) (by simp)).set 2 (.int .i64 s.b.x) (by simp)).set 3 (.int .i64 s.b.y) (by simp))
   (refine ratHx 8 (fun K hK=>?_);go_simp)
   refine hK.out _ _ ((((hHeld.store 0 (by omega) _).store 1 (by omega) _).store 2 (by omega) _).store 3 (by omega) _) (fun hHeld=>?_)
   clear hK K
   (try simp only[apS,apN,siA,scZ,scS])
   refine tkCx 9 5 ?_
   refine wpAnyH_done (by kernel_rfl) ?_ _
   go_wp2_with fail
   refine bodyPost_ret (results_mid2 rfl _ _ (w.heap.size+1+1) [.int .i64 u.a.x,.int .i64 u.a.y,.int .i64 s.b.x,.int .i64 s.b.y] _ rfl hz9.out.range Tryz.underlying63 rfl sgSize) rfl ⟨(by rw[hE.out];rfl),hHeld.bel⟩
  have d1:decide (0<Cal.alongS s u.a s.a)=false:=decide_eq_false c1
  have hF:Hid ((if 0<Cal.alongS s u.a s.a then u.a else s.a)=s.a):=if_neg c1
  replace c1:=Lib.hid c1
  have m2:Hid True:=trivial
  go_wp2_with (go_at_call 80;clear m2;refine (along_any s u.a s.a _ hs hu.a hs.a).mono ?_;clear a0 a1 a2 a3 b0 b1 b2 b3 f0 f1 f2 f3 e0 e1 e2 e3;rintro e X2 ⟨rfl,hbn⟩;replace hJ:=Lib.hid (hJ.out.below hbn);clear hbn;(obtain⟨a0,a1,a2,a3⟩:=hJ.out.base.s.c4;obtain⟨b0,b1,b2,b3⟩:=hJ.out.base.t.c4;obtain⟨f0,f1⟩:=hJ.out.f.c2;obtain⟨e0,e1⟩:=hJ.out.e.c2;obtain⟨f2,f3⟩:=hJ.out.f.fr2;obtain⟨e2,e3⟩:=hJ.out.e.fr2))
  clear a0 a1 a2 a3 b0 b1 b2 b3 f0 f1 f2 f3 e0 e1 e2 e3
  refine (along_any s u.b s.b _ hs hu.b hs.b).mono ?_
  rintro e X3 ⟨rfl,hbn⟩
  replace hJ:=Lib.hid (hJ.out.below hbn)
  clear hbn
  (obtain⟨a0,a1,a2,a3⟩:=hJ.out.base.s.c4;obtain⟨b0,b1,b2,b3⟩:=hJ.out.base.t.c4;obtain⟨f0,f1⟩:=hJ.out.f.c2;obtain⟨e0,e1⟩:=hJ.out.e.c2;obtain⟨f2,f3⟩:=hJ.out.f.fr2;obtain⟨e2,e3⟩:=hJ.out.e.fr2)
  by_cases c2:Cal.alongS s u.b s.b<0
  ·have d2:decide (Cal.alongS s u.b s.b<0)=true:=decide_eq_true c2
   have hE:Hid (comT s t=(⟨s.a,u.b⟩,decide (Cal.alongS s s.a u.b<0))):=by show _=_;rw[hR.out,hF.out,if_pos c2]
   replace c2:=Lib.hid c2
   go_wp2_with fail
   replace hJ:=Lib.hid (hJ.out.setE u.b)
   obtain⟨Y,hY⟩:∃ Y,(X3.setCell ⟨Be,0,none⟩ (.int .i64 u.b.x)).setCell ⟨Be,1,none⟩ (.int .i64 u.b.y)=Y:=⟨_,rfl⟩
   rw[hY] at hJ ⊢
   clear hY
   clear a0 a1 a2 a3 b0 b1 b2 b3 f0 f1 f2 f3 e0 e1 e2 e3
   refine wp_region_held_drew (S:=CmK w s Bf Be s.a u.b) (by kernel_rfl) (hJ.out.k.below ((Below.refl _ _).drew)) (fun hHeld=>?_)
   refine tkCx 0 54 ?_
   refine tkCx 1 55 ?_
   refine tkCx 2 56 ?_
   refine tkCx 3 57 ?_
   refine tkCx 4 58 ?_
   refine tkCx 5 59 ?_
   (refine ratHx 6 (fun K hK=>?_);go_simp)
   refine (along_any s s.a u.b _ hs hs.a hu.b).mono ?_
   rintro e9 wn ⟨rfl,hbn⟩
   go_simp
   refine hK.out _ _ (hHeld.below hbn) (fun hHeld=>?_)
   clear hK K hbn
   (try simp only[apS,apN,siA,scZ,scS])
   refine tkCx 7 61 ?_
   obtain⟨z0,z1,z2,z3,hz⟩:=hHeld.z
   obtain⟨r0,r1,r2,r3⟩:=hz.c4;obtain⟨g0,g1,g2,g3⟩:=hz.fr4
   have hz9:=Lib.hid ((((hz.set 0 (.int .i64 s.a.x) (by simp)).set 1 (.int .i64 s.a.y) (by simp)).set 2 (.int .i64 u.b.x) (by simp)).set 3 (.int .i64 u.b.y) (by simp))
   (refine ratHx 8 (fun K hK=>?_);go_simp)
   refine hK.out _ _ ((((hHeld.store 0 (by omega) _).store 1 (by omega) _).store 2 (by omega) _).store 3 (by omega) _) (fun hHeld=>?_)
   clear hK K
   (try simp only[apS,apN,siA,scZ,scS])
   refine tkCx 9 5 ?_
   refine wpAnyH_done (by kernel_rfl) ?_ _
   go_wp2_with fail
   refine bodyPost_ret (results_mid2 rfl _ _ (w.heap.size+1+1) [.int .i64 s.a.x,.int .i64 s.a.y,.int .i64 u.b.x,.int .i64 u.b.y] _ rfl hz9.out.range Tryz.underlying63 rfl sgSize) rfl ⟨(by rw[hE.out];rfl),hHeld.bel⟩
  have d2:decide (Cal.alongS s u.b s.b<0)=false:=decide_eq_false c2
  have hE:Hid (comT s t=(⟨s.a,s.b⟩,decide (Cal.alongS s s.a s.b<0))):=by show _=_;rw[hR.out,hF.out,if_neg c2]
  replace c2:=Lib.hid c2
  go_wp2_with fail
  clear a0 a1 a2 a3 b0 b1 b2 b3 f0 f1 f2 f3 e0 e1 e2 e3
  refine wp_region_held_drew (S:=CmK w s Bf Be s.a s.b) (by kernel_rfl) (hJ.out.k.below ((Below.refl _ _).drew)) (fun hHeld=>?_)
  refine tkCx 0 54 ?_
  refine tkCx 1 55 ?_
  refine tkCx 2 56 ?_
  refine tkCx 3 57 ?_
  refine tkCx 4 58 ?_
  refine tkCx 5 59 ?_
  (refine ratHx 6 (fun K hK=>?_);go_simp)
  refine (along_any s s.a s.b _ hs hs.a hs.b).mono ?_
  rintro e9 wn ⟨rfl,hbn⟩
  go_simp
  refine hK.out _ _ (hHeld.below hbn) (fun hHeld=>?_)
  clear hK K hbn
  (try simp only[apS,apN,siA,scZ,scS])
  refine tkCx 7 61 ?_
  obtain⟨z0,z1,z2,z3,hz⟩:=hHeld.z
  obtain⟨r0,r1,r2,r3⟩:=hz.c4;obtain⟨g0,g1,g2,g3⟩:=hz.fr4
  have hz9:=Lib.hid ((((hz.set 0 (.int .i64 s.a.x) (by simp)).set 1 (.int .i64 s.a.y) (by simp)).set 2 (.int .i64 s.b.x) (by simp)).set 3 (.int .i64 s.b.y) (by simp))
  (refine ratHx 8 (fun K hK=>?_);go_simp)
  refine hK.out _ _ ((((hHeld.store 0 (by omega) _).store 1 (by omega) _).store 2 (by omega) _).store 3 (by omega) _) (fun hHeld=>?_)
  clear hK K
  (try simp only[apS,apN,siA,scZ,scS])
  refine tkCx 9 5 ?_
  refine wpAnyH_done (by kernel_rfl) ?_ _
  go_wp2_with fail
  refine bodyPost_ret (results_mid2 rfl _ _ (w.heap.size+1+1) [.int .i64 s.a.x,.int .i64 s.a.y,.int .i64 s.b.x,.int .i64 s.b.y] _ rfl hz9.out.range Tryz.underlying63 rfl sgSize) rfl ⟨(by rw[hE.out];rfl),hHeld.bel⟩
 clear n0 n1 n2 hJ1 l0 l1 l2
 clear a0 a1 a2 a3 b0 b1 b2 b3 f0 f1 f2 f3
 obtain⟨Be,hn⟩:∃ n,W4.heap.size=n:=⟨_,rfl⟩
 generalize ((W4.alloc (.cells #[.int .i64 s.b.x,.int .i64 s.b.y] 61)).alloc (.cells #[.int .i64 s.a.x,.int .i64 s.a.y] 61)).drew=X at hJ2 ⊢
 rw[hn] at hJ2 ⊢
 clear hI hn
 obtain⟨Bf,hBf⟩:∃ B,Be+1=B:=⟨_,rfl⟩
 rw[hBf] at hJ2 ⊢
 clear hBf
 have hJ:=hJ2
 clear hJ2
 have k0:=hJ.out.hf
 have k1:=hJ.out.he
 have k2:=hJ.out.ne
 have n0:¬Bf=Be:=k2
 have n1:¬Be=Bf:=fun e=>k2 e.symm
 have n2:¬Bf=w.heap.size:=by omega
 have n3:¬Bf=w.heap.size+1:=by omega
 have n4:¬Be=w.heap.size:=by omega
 have n5:¬Be=w.heap.size+1:=by omega
 clear k2
 (obtain⟨a0,a1,a2,a3⟩:=hJ.out.base.s.c4;obtain⟨b0,b1,b2,b3⟩:=hJ.out.base.t.c4;obtain⟨f0,f1⟩:=hJ.out.f.c2;obtain⟨e0,e1⟩:=hJ.out.e.c2;obtain⟨f2,f3⟩:=hJ.out.f.fr2;obtain⟨e2,e3⟩:=hJ.out.e.fr2)
 by_cases c1:0<Cal.alongS s u.a s.a
 ·have d1:decide (0<Cal.alongS s u.a s.a)=true:=decide_eq_true c1
  have hF:Hid ((if 0<Cal.alongS s u.a s.a then u.a else s.a)=u.a):=if_pos c1
  replace c1:=Lib.hid c1
  have m2:Hid True:=trivial
  go_wp2_with (go_at_call 80;clear m2;refine (along_any s u.a s.a _ hs hu.a hs.a).mono ?_;clear a0 a1 a2 a3 b0 b1 b2 b3 f0 f1 f2 f3 e0 e1 e2 e3;rintro e X2 ⟨rfl,hbn⟩;replace hJ:=Lib.hid (hJ.out.below hbn);clear hbn;(obtain⟨a0,a1,a2,a3⟩:=hJ.out.base.s.c4;obtain⟨b0,b1,b2,b3⟩:=hJ.out.base.t.c4;obtain⟨f0,f1⟩:=hJ.out.f.c2;obtain⟨e0,e1⟩:=hJ.out.e.c2;obtain⟨f2,f3⟩:=hJ.out.f.fr2;obtain⟨e2,e3⟩:=hJ.out.e.fr2))
  replace hJ:=Lib.hid (hJ.out.setF u.a)
  clear a0 a1 a2 a3 b0 b1 b2 b3 f0 f1 f2 f3 e0 e1 e2 e3
  refine (along_any s u.b s.b _ hs hu.b hs.b).mono ?_
  rintro e X3 ⟨rfl,hbn⟩
  replace hJ:=Lib.hid (hJ.out.below hbn)
  clear hbn
  (obtain⟨a0,a1,a2,a3⟩:=hJ.out.base.s.c4;obtain⟨b0,b1,b2,b3⟩:=hJ.out.base.t.c4;obtain⟨f0,f1⟩:=hJ.out.f.c2;obtain⟨e0,e1⟩:=hJ.out.e.c2;obtain⟨f2,f3⟩:=hJ.out.f.fr2;obtain⟨e2,e3⟩:=hJ.out.e.fr2)
  by_cases c2:Cal.alongS s u.b s.b<0
  ·have d2:decide (Cal.alongS s u.b s.b<0)=true:=decide_eq_true c2
   have hE:Hid (comT s t=(⟨u.a,u.b⟩,decide (Cal.alongS s u.a u.b<0))):=by show _=_;rw[hR.out,hF.out,if_pos c2]
   replace c2:=Lib.hid c2
   go_wp2_with fail
   replace hJ:=Lib.hid (hJ.out.setE u.b)
   obtain⟨Y,hY⟩:∃ Y,(X3.setCell ⟨Be,0,none⟩ (.int .i64 u.b.x)).setCell ⟨Be,1,none⟩ (.int .i64 u.b.y)=Y:=⟨_,rfl⟩
   rw[hY] at hJ ⊢
   clear hY
   clear a0 a1 a2 a3 b0 b1 b2 b3 f0 f1 f2 f3 e0 e1 e2 e3
   refine wp_region_held_drew (S:=CmK w s Bf Be u.a u.b) (by kernel_rfl) (hJ.out.k.below ((Below.refl _ _).drew)) (fun hHeld=>?_)
   refine tkCx 0 54 ?_
   refine tkCx 1 55 ?_
   refine tkCx 2 56 ?_
   refine tkCx 3 57 ?_
   refine tkCx 4 58 ?_
   refine tkCx 5 59 ?_
   (refine ratHx 6 (fun K hK=>?_);go_simp)
   refine (along_any s u.a u.b _ hs hu.a hu.b).mono ?_
   rintro e9 wn ⟨rfl,hbn⟩
   go_simp
   refine hK.out _ _ (hHeld.below hbn) (fun hHeld=>?_)
   clear hK K hbn
   (try simp only[apS,apN,siA,scZ,scS])
   refine tkCx 7 61 ?_
   obtain⟨z0,z1,z2,z3,hz⟩:=hHeld.z
   obtain⟨r0,r1,r2,r3⟩:=hz.c4;obtain⟨g0,g1,g2,g3⟩:=hz.fr4
   have hz9:=Lib.hid ((((hz.set 0 (.int .i64 u.a.x) (by simp)).set 1 (.int .i64 u.a.y) (by simp)).set 2 (.int .i64 u.b.x) (by simp)).set 3 (.int .i64 u.b.y) (by simp))
   (refine ratHx 8 (fun K hK=>?_);go_simp)
   refine hK.out _ _ ((((hHeld.store 0 (by omega) _).store 1 (by omega) _).store 2 (by omega) _).store 3 (by omega) _) (fun hHeld=>?_)
   clear hK K
   (try simp only[apS,apN,siA,scZ,scS])
   refine tkCx 9 5 ?_
   refine wpAnyH_done (by kernel_rfl) ?_ _
   go_wp2_with fail
   refine bodyPost_ret (results_mid2 rfl _ _ (w.heap.size+1+1) [.int .i64 u.a.x,.int .i64 u.a.y,.int .i64 u.b.x,.int .i64 u.b.y] _ rfl hz9.out.range Tryz.underlying63 rfl sgSize) rfl ⟨(by rw[hE.out];rfl),hHeld.bel⟩
  have d2:decide (Cal.alongS s u.b s.b<0)=false:=decide_eq_false c2
  have hE:Hid (comT s t=(⟨u.a,s.b⟩,decide (Cal.alongS s u.a s.b<0))):=by show _=_;rw[hR.out,hF.out,if_neg c2]
  replace c2:=Lib.hid c2
  go_wp2_with fail
  clear a0 a1 a2 a3 b0 b1 b2 b3 f0 f1 f2 f3 e0 e1 e2 e3
  refine wp_region_held_drew (S:=CmK w s Bf Be u.a s.b) (by kernel_rfl) (hJ.out.k.below ((Below.refl _ _).drew)) (fun hHeld=>?_)
  refine tkCx 0 54 ?_
  refine tkCx 1 55 ?_
  refine tkCx 2 56 ?_
  refine tkCx 3 57 ?_
  refine tkCx 4 58 ?_
  refine tkCx 5 59 ?_
  (refine ratHx 6 (fun K hK=>?_);go_simp)
  refine (along_any s u.a s.b _ hs hu.a hs.b).mono ?_
  rintro e9 wn ⟨rfl,hbn⟩
  go_simp
  refine hK.out _ _ (hHeld.below hbn) (fun hHeld=>?_)
  clear hK K hbn
  (try simp only[apS,apN,siA,scZ,scS])
  refine tkCx 7 61 ?_
  obtain⟨z0,z1,z2,z3,hz⟩:=hHeld.z
  obtain⟨r0,r1,r2,r3⟩:=hz.c4;obtain⟨g0,g1,g2,g3⟩:=hz.fr4
  have hz9:=Lib.hid ((((hz.set 0 (.int .i64 u.a.x) (by simp)).set 1 (.int .i64 u.a.y) (by simp)).set 2 (.int .i64 s.b.x) (by simp)).set 3 (.int .i64 s.b.y) (by simp))
  (refine ratHx 8 (fun K hK=>?_);go_simp)
  refine hK.out _ _ ((((hHeld.store 0 (by omega) _).store 1 (by omega) _).store 2 (by omega) _).store 3 (by omega) _) (fun hHeld=>?_)
  clear hK K
  (try simp only[apS,apN,siA,scZ,scS])
  refine tkCx 9 5 ?_
  refine wpAnyH_done (by kernel_rfl) ?_ _
  go_wp2_with fail
  refine bodyPost_ret (results_mid2 rfl _ _ (w.heap.size+1+1) [.int .i64 u.a.x,.int .i64 u.a.y,.int .i64 s.b.x,.int .i64 s.b.y] _ rfl hz9.out.range Tryz.underlying63 rfl sgSize) rfl ⟨(by rw[hE.out];rfl),hHeld.bel⟩
 have d1:decide (0<Cal.alongS s u.a s.a)=false:=decide_eq_false c1
 have hF:Hid ((if 0<Cal.alongS s u.a s.a then u.a else s.a)=s.a):=if_neg c1
 replace c1:=Lib.hid c1
 have m2:Hid True:=trivial
 go_wp2_with (go_at_call 80;clear m2;refine (along_any s u.a s.a _ hs hu.a hs.a).mono ?_;clear a0 a1 a2 a3 b0 b1 b2 b3 f0 f1 f2 f3 e0 e1 e2 e3;rintro e X2 ⟨rfl,hbn⟩;replace hJ:=Lib.hid (hJ.out.below hbn);clear hbn;(obtain⟨a0,a1,a2,a3⟩:=hJ.out.base.s.c4;obtain⟨b0,b1,b2,b3⟩:=hJ.out.base.t.c4;obtain⟨f0,f1⟩:=hJ.out.f.c2;obtain⟨e0,e1⟩:=hJ.out.e.c2;obtain⟨f2,f3⟩:=hJ.out.f.fr2;obtain⟨e2,e3⟩:=hJ.out.e.fr2))
 clear a0 a1 a2 a3 b0 b1 b2 b3 f0 f1 f2 f3 e0 e1 e2 e3
 refine (along_any s u.b s.b _ hs hu.b hs.b).mono ?_
 rintro e X3 ⟨rfl,hbn⟩
 replace hJ:=Lib.hid (hJ.out.below hbn)
 clear hbn
 (obtain⟨a0,a1,a2,a3⟩:=hJ.out.base.s.c4;obtain⟨b0,b1,b2,b3⟩:=hJ.out.base.t.c4;obtain⟨f0,f1⟩:=hJ.out.f.c2;obtain⟨e0,e1⟩:=hJ.out.e.c2;obtain⟨f2,f3⟩:=hJ.out.f.fr2;obtain⟨e2,e3⟩:=hJ.out.e.fr2)
 by_cases c2:Cal.alongS s u.b s.b<0
 ·have d2:decide (Cal.alongS s u.b s.b<0)=true:=decide_eq_true c2
  have hE:Hid (comT s t=(⟨s.a,u.b⟩,decide (Cal.alongS s s.a u.b<0))):=by show _=_;rw[hR.out,hF.out,if_pos c2]
  replace c2:=Lib.hid c2
  go_wp2_with fail
  replace hJ:=Lib.hid (hJ.out.setE u.b)
  obtain⟨Y,hY⟩:∃ Y,(X3.setCell ⟨Be,0,none⟩ (.int .i64 u.b.x)).setCell ⟨Be,1,none⟩ (.int .i64 u.b.y)=Y:=⟨_,rfl⟩
  rw[hY] at hJ ⊢
  clear hY
  clear a0 a1 a2 a3 b0 b1 b2 b3 f0 f1 f2 f3 e0 e1 e2 e3
  refine wp_region_held_drew (S:=CmK w s Bf Be s.a u.b) (by kernel_rfl) (hJ.out.k.below ((Below.refl _ _).drew)) (fun hHeld=>?_)
  refine tkCx 0 54 ?_
  refine tkCx 1 55 ?_
  refine tkCx 2 56 ?_
  refine tkCx 3 57 ?_
  refine tkCx 4 58 ?_
  refine tkCx 5 59 ?_
  (refine ratHx 6 (fun K hK=>?_);go_simp)
  refine (along_any s s.a u.b _ hs hs.a hu.b).mono ?_
  rintro e9 wn ⟨rfl,hbn⟩
  go_simp
  refine hK.out _ _ (hHeld.below hbn) (fun hHeld=>?_)
  clear hK K hbn
  (try simp only[apS,apN,siA,scZ,scS])
  refine tkCx 7 61 ?_
  obtain⟨z0,z1,z2,z3,hz⟩:=hHeld.z
  obtain⟨r0,r1,r2,r3⟩:=hz.c4;obtain⟨g0,g1,g2,g3⟩:=hz.fr4
  have hz9:=Lib.hid ((((hz.set 0 (.int .i64 s.a.x) (by simp)).set 1 (.int .i64 s.a.y) (by simp)).set 2 (.int .i64 u.b.x) (by simp)).set 3 (.int .i64 u.b.y) (by simp))
  (refine ratHx 8 (fun K hK=>?_);go_simp)
  refine hK.out _ _ ((((hHeld.store 0 (by omega) _).store 1 (by omega) _).store 2 (by omega) _).store 3 (by omega) _) (fun hHeld=>?_)
  clear hK K
  (try simp only[apS,apN,siA,scZ,scS])
  refine tkCx 9 5 ?_
  refine wpAnyH_done (by kernel_rfl) ?_ _
  go_wp2_with fail
  refine bodyPost_ret (results_mid2 rfl _ _ (w.heap.size+1+1) [.int .i64 s.a.x,.int .i64 s.a.y,.int .i64 u.b.x,.int .i64 u.b.y] _ rfl hz9.out.range Tryz.underlying63 rfl sgSize) rfl ⟨(by rw[hE.out];rfl),hHeld.bel⟩
 have d2:decide (Cal.alongS s u.b s.b<0)=false:=decide_eq_false c2
 have hE:Hid (comT s t=(⟨s.a,s.b⟩,decide (Cal.alongS s s.a s.b<0))):=by show _=_;rw[hR.out,hF.out,if_neg c2]
 replace c2:=Lib.hid c2
 go_wp2_with fail
 clear a0 a1 a2 a3 b0 b1 b2 b3 f0 f1 f2 f3 e0 e1 e2 e3
 refine wp_region_held_drew (S:=CmK w s Bf Be s.a s.b) (by kernel_rfl) (hJ.out.k.below ((Below.refl _ _).drew)) (fun hHeld=>?_)
 refine tkCx 0 54 ?_
 refine tkCx 1 55 ?_
 refine tkCx 2 56 ?_
 refine tkCx 3 57 ?_
 refine tkCx 4 58 ?_
 refine tkCx 5 59 ?_
 (refine ratHx 6 (fun K hK=>?_);go_simp)
 refine (along_any s s.a s.b _ hs hs.a hs.b).mono ?_
 rintro e9 wn ⟨rfl,hbn⟩
 go_simp
 refine hK.out _ _ (hHeld.below hbn) (fun hHeld=>?_)
 clear hK K hbn
 (try simp only[apS,apN,siA,scZ,scS])
 refine tkCx 7 61 ?_
 obtain⟨z0,z1,z2,z3,hz⟩:=hHeld.z
 obtain⟨r0,r1,r2,r3⟩:=hz.c4;obtain⟨g0,g1,g2,g3⟩:=hz.fr4
 have hz9:=Lib.hid ((((hz.set 0 (.int .i64 s.a.x) (by simp)).set 1 (.int .i64 s.a.y) (by simp)).set 2 (.int .i64 s.b.x) (by simp)).set 3 (.int .i64 s.b.y) (by simp))
 (refine ratHx 8 (fun K hK=>?_);go_simp)
 refine hK.out _ _ ((((hHeld.store 0 (by omega) _).store 1 (by omega) _).store 2 (by omega) _).store 3 (by omega) _) (fun hHeld=>?_)
 clear hK K
 (try simp only[apS,apN,siA,scZ,scS])
 refine tkCx 9 5 ?_
 refine wpAnyH_done (by kernel_rfl) ?_ _
 go_wp2_with fail
 refine bodyPost_ret (results_mid2 rfl _ _ (w.heap.size+1+1) [.int .i64 s.a.x,.int .i64 s.a.y,.int .i64 s.b.x,.int .i64 s.b.y] _ rfl hz9.out.range Tryz.underlying63 rfl sgSize) rfl ⟨(by rw[hE.out];rfl),hHeld.bel⟩
end Go.Proofs.YtoojdkaimhlcbaaGreat
namespace Go.Proofs.YtoojdkaimhlcbaaGreat
open Go Go.RowKit Go.Shelf
attribute [local go_sem] Oper.semAt_some
theorem common_any (s t:Sd) (w:World) (hs:SmS s) (ht:SmS t) :
  Calls Tryz.prog 58 #[.agg #[.int .i64 s.a.x,.int .i64 s.a.y,.int .i64 s.b.x,.int .i64 s.b.y],.agg #[.int .i64 t.a.x,.int .i64 t.a.y,.int .i64 t.b.x,.int .i64 t.b.y]] w fun e w'=>e=.returned (.tuple #[.agg #[.int .i64 (comT s t).1.a.x,.int .i64 (comT s t).1.a.y,.int .i64 (comT s t).1.b.x,.int .i64 (comT s t).1.b.y],.bool (comT s t).2])∧Below w.heap.size w w':=by
 have m1:Hid True:=trivial
 rcases trn_cases s t.a with h1 | h1 | h1
 ·rcases trn_cases s t.b with h2 | h2 | h2
  ·by_cases h3:0<Cal.alongS s t.a t.b
   ·exact common_s s t w hs ht h1 h2 h3
   exact common_t s t w hs ht h1 h2 h3
  ·have hR:Hid (comT s t=(⟨Cal.pt0,Cal.pt0⟩,false)):=by show _=_;unfold comT;rw[if_neg (by omega)]
   replace h1:=Lib.hid h1
   replace h2:=Lib.hid h2
   have hI:=Lib.hid (CmI.first w s t)
   go_enter Tryz.func58,Tryz.ntmps58
   go_wp2_with (first | (go_at_call 79;clear m1;refine (turn_any s t.a _ hs ht.a).mono ?_;rintro e wn ⟨rfl,hbn⟩;rw[h1.out];replace hI:=Lib.hid (hI.out.below hbn);clear hbn;obtain⟨a0,a1,a2,a3⟩:=hI.out.s.c4;obtain⟨b0,b1,b2,b3⟩:=hI.out.t.c4;obtain⟨f0,f1,f2,f3⟩:=hI.out.t.fr4;obtain⟨g0,g1,g2,g3⟩:=hI.out.z.fr4;obtain⟨r0,r1,r2,r3⟩:=hI.out.z.c4) | (go_at_call 79;refine (turn_any s t.b _ hs ht.b).mono ?_;clear a0 a1 a2 a3 b0 b1 b2 b3 f0 f1 f2 f3;clear g0 g1 g2 g3 r0 r1 r2 r3;rintro e wn ⟨rfl,hbn⟩;rw[h2.out];replace hI:=Lib.hid (hI.out.below hbn);clear hbn;obtain⟨a0,a1,a2,a3⟩:=hI.out.s.c4;obtain⟨b0,b1,b2,b3⟩:=hI.out.t.c4;obtain⟨f0,f1,f2,f3⟩:=hI.out.t.fr4;obtain⟨g0,g1,g2,g3⟩:=hI.out.z.fr4;obtain⟨r0,r1,r2,r3⟩:=hI.out.z.c4))
   refine bodyPost_ret (results_mid2 rfl _ _ (w.heap.size+1+1) [.int .i64 0,.int .i64 0,.int .i64 0,.int .i64 0] _ rfl ((((hI.out.z.set 0 (.int .i64 0) (by simp)).set 1 (.int .i64 0) (by simp)).set 2 (.int .i64 0) (by simp)).set 3 (.int .i64 0) (by simp)).range Tryz.underlying63 rfl sgSize) rfl ⟨by rw[hR.out];rfl,?_⟩
   exact (((hI.out.bel.setCell (p:=⟨w.heap.size+1+1,0,none⟩) (show w.heap.size≤w.heap.size+1+1 by omega) _).setCell (p:=⟨w.heap.size+1+1,1,none⟩) (show w.heap.size≤w.heap.size+1+1 by omega) _).setCell (p:=⟨w.heap.size+1+1,2,none⟩) (show w.heap.size≤w.heap.size+1+1 by omega) _).setCell (p:=⟨w.heap.size+1+1,3,none⟩) (show w.heap.size≤w.heap.size+1+1 by omega) _
  have hR:Hid (comT s t=(⟨Cal.pt0,Cal.pt0⟩,false)):=by show _=_;unfold comT;rw[if_neg (by omega)]
  replace h1:=Lib.hid h1
  replace h2:=Lib.hid h2
  have hI:=Lib.hid (CmI.first w s t)
  go_enter Tryz.func58,Tryz.ntmps58
  go_wp2_with (first | (go_at_call 79;clear m1;refine (turn_any s t.a _ hs ht.a).mono ?_;rintro e wn ⟨rfl,hbn⟩;rw[h1.out];replace hI:=Lib.hid (hI.out.below hbn);clear hbn;obtain⟨a0,a1,a2,a3⟩:=hI.out.s.c4;obtain⟨b0,b1,b2,b3⟩:=hI.out.t.c4;obtain⟨f0,f1,f2,f3⟩:=hI.out.t.fr4;obtain⟨g0,g1,g2,g3⟩:=hI.out.z.fr4;obtain⟨r0,r1,r2,r3⟩:=hI.out.z.c4) | (go_at_call 79;refine (turn_any s t.b _ hs ht.b).mono ?_;clear a0 a1 a2 a3 b0 b1 b2 b3 f0 f1 f2 f3;clear g0 g1 g2 g3 r0 r1 r2 r3;rintro e wn ⟨rfl,hbn⟩;rw[h2.out];replace hI:=Lib.hid (hI.out.below hbn);clear hbn;obtain⟨a0,a1,a2,a3⟩:=hI.out.s.c4;obtain⟨b0,b1,b2,b3⟩:=hI.out.t.c4;obtain⟨f0,f1,f2,f3⟩:=hI.out.t.fr4;obtain⟨g0,g1,g2,g3⟩:=hI.out.z.fr4;obtain⟨r0,r1,r2,r3⟩:=hI.out.z.c4))
  refine bodyPost_ret (results_mid2 rfl _ _ (w.heap.size+1+1) [.int .i64 0,.int .i64 0,.int .i64 0,.int .i64 0] _ rfl ((((hI.out.z.set 0 (.int .i64 0) (by simp)).set 1 (.int .i64 0) (by simp)).set 2 (.int .i64 0) (by simp)).set 3 (.int .i64 0) (by simp)).range Tryz.underlying63 rfl sgSize) rfl ⟨by rw[hR.out];rfl,?_⟩
  exact (((hI.out.bel.setCell (p:=⟨w.heap.size+1+1,0,none⟩) (show w.heap.size≤w.heap.size+1+1 by omega) _).setCell (p:=⟨w.heap.size+1+1,1,none⟩) (show w.heap.size≤w.heap.size+1+1 by omega) _).setCell (p:=⟨w.heap.size+1+1,2,none⟩) (show w.heap.size≤w.heap.size+1+1 by omega) _).setCell (p:=⟨w.heap.size+1+1,3,none⟩) (show w.heap.size≤w.heap.size+1+1 by omega) _
 ·have hR:Hid (comT s t=(⟨Cal.pt0,Cal.pt0⟩,false)):=by show _=_;unfold comT;rw[if_neg (by omega)]
  replace h1:=Lib.hid h1
  have hI:=Lib.hid (CmI.first w s t)
  go_enter Tryz.func58,Tryz.ntmps58
  go_wp2_with (first | (go_at_call 79;clear m1;refine (turn_any s t.a _ hs ht.a).mono ?_;rintro e wn ⟨rfl,hbn⟩;rw[h1.out];replace hI:=Lib.hid (hI.out.below hbn);clear hbn;obtain⟨a0,a1,a2,a3⟩:=hI.out.s.c4;obtain⟨b0,b1,b2,b3⟩:=hI.out.t.c4;obtain⟨f0,f1,f2,f3⟩:=hI.out.t.fr4;obtain⟨g0,g1,g2,g3⟩:=hI.out.z.fr4;obtain⟨r0,r1,r2,r3⟩:=hI.out.z.c4) | (go_at_call 79;refine (turn_any s t.b _ hs ht.b).mono ?_;clear a0 a1 a2 a3 b0 b1 b2 b3 f0 f1 f2 f3;clear g0 g1 g2 g3 r0 r1 r2 r3;rintro e wn ⟨rfl,hbn⟩;rw[h2.out];replace hI:=Lib.hid (hI.out.below hbn);clear hbn;obtain⟨a0,a1,a2,a3⟩:=hI.out.s.c4;obtain⟨b0,b1,b2,b3⟩:=hI.out.t.c4;obtain⟨f0,f1,f2,f3⟩:=hI.out.t.fr4;obtain⟨g0,g1,g2,g3⟩:=hI.out.z.fr4;obtain⟨r0,r1,r2,r3⟩:=hI.out.z.c4))
  refine bodyPost_ret (results_mid2 rfl _ _ (w.heap.size+1+1) [.int .i64 0,.int .i64 0,.int .i64 0,.int .i64 0] _ rfl ((((hI.out.z.set 0 (.int .i64 0) (by simp)).set 1 (.int .i64 0) (by simp)).set 2 (.int .i64 0) (by simp)).set 3 (.int .i64 0) (by simp)).range Tryz.underlying63 rfl sgSize) rfl ⟨by rw[hR.out];rfl,?_⟩
  exact (((hI.out.bel.setCell (p:=⟨w.heap.size+1+1,0,none⟩) (show w.heap.size≤w.heap.size+1+1 by omega) _).setCell (p:=⟨w.heap.size+1+1,1,none⟩) (show w.heap.size≤w.heap.size+1+1 by omega) _).setCell (p:=⟨w.heap.size+1+1,2,none⟩) (show w.heap.size≤w.heap.size+1+1 by omega) _).setCell (p:=⟨w.heap.size+1+1,3,none⟩) (show w.heap.size≤w.heap.size+1+1 by omega) _
 have hR:Hid (comT s t=(⟨Cal.pt0,Cal.pt0⟩,false)):=by show _=_;unfold comT;rw[if_neg (by omega)]
 replace h1:=Lib.hid h1
 have hI:=Lib.hid (CmI.first w s t)
 go_enter Tryz.func58,Tryz.ntmps58
 go_wp2_with (first | (go_at_call 79;clear m1;refine (turn_any s t.a _ hs ht.a).mono ?_;rintro e wn ⟨rfl,hbn⟩;rw[h1.out];replace hI:=Lib.hid (hI.out.below hbn);clear hbn;obtain⟨a0,a1,a2,a3⟩:=hI.out.s.c4;obtain⟨b0,b1,b2,b3⟩:=hI.out.t.c4;obtain⟨f0,f1,f2,f3⟩:=hI.out.t.fr4;obtain⟨g0,g1,g2,g3⟩:=hI.out.z.fr4;obtain⟨r0,r1,r2,r3⟩:=hI.out.z.c4) | (go_at_call 79;refine (turn_any s t.b _ hs ht.b).mono ?_;clear a0 a1 a2 a3 b0 b1 b2 b3 f0 f1 f2 f3;clear g0 g1 g2 g3 r0 r1 r2 r3;rintro e wn ⟨rfl,hbn⟩;rw[h2.out];replace hI:=Lib.hid (hI.out.below hbn);clear hbn;obtain⟨a0,a1,a2,a3⟩:=hI.out.s.c4;obtain⟨b0,b1,b2,b3⟩:=hI.out.t.c4;obtain⟨f0,f1,f2,f3⟩:=hI.out.t.fr4;obtain⟨g0,g1,g2,g3⟩:=hI.out.z.fr4;obtain⟨r0,r1,r2,r3⟩:=hI.out.z.c4))
 refine bodyPost_ret (results_mid2 rfl _ _ (w.heap.size+1+1) [.int .i64 0,.int .i64 0,.int .i64 0,.int .i64 0] _ rfl ((((hI.out.z.set 0 (.int .i64 0) (by simp)).set 1 (.int .i64 0) (by simp)).set 2 (.int .i64 0) (by simp)).set 3 (.int .i64 0) (by simp)).range Tryz.underlying63 rfl sgSize) rfl ⟨by rw[hR.out];rfl,?_⟩
 exact (((hI.out.bel.setCell (p:=⟨w.heap.size+1+1,0,none⟩) (show w.heap.size≤w.heap.size+1+1 by omega) _).setCell (p:=⟨w.heap.size+1+1,1,none⟩) (show w.heap.size≤w.heap.size+1+1 by omega) _).setCell (p:=⟨w.heap.size+1+1,2,none⟩) (show w.heap.size≤w.heap.size+1+1 by omega) _).setCell (p:=⟨w.heap.size+1+1,3,none⟩) (show w.heap.size≤w.heap.size+1+1 by omega) _
end Go.Proofs.YtoojdkaimhlcbaaGreat
namespace Go.Proofs.YtoojdkaimhlcbaaGreat
open Go Go.RowKit Go.Shelf
attribute [local go_sem] Oper.semAt_some
def sdR (s:Sd):List Value:=[.int .i64 s.a.x,.int .i64 s.a.y,.int .i64 s.b.x,.int .i64 s.b.y]
def bdIn (s:Sd) (vs:List Pt) (j:Nat):List Sd:=((Cal.sds vs).take j).filterMap (Cal.commonS s)
def bdTo (us vs:List Pt) (k:Nat):List Sd:=((Cal.sds us).take k).flatMap fun s=>(Cal.sds vs).filterMap (Cal.commonS s)
theorem sds_take {ps:List Pt} {i:Nat} (h:i<ps.length):(Cal.sds ps).take (i+1)=(Cal.sds ps).take i ++ [Cal.sd ps i]:=by
 have hi:i<(Cal.sds ps).length:=by rw[sds_length];exact h
 have hg:(Cal.sds ps)[i]=Cal.sd ps i:=by have:=sds_get h;rw[List.getElem?_eq_getElem hi] at this;exact Option.some.inj this
 rw[List.take_succ_eq_append_getElem hi,hg]
theorem bdIn_yes {s:Sd} {vs:List Pt} {j:Nat} (h:j<vs.length) {x:Sd} (hx:Cal.commonS s (Cal.sd vs j)=some x):bdIn s vs (j+1)=bdIn s vs j ++ [x]:=by
 unfold bdIn
 rw[sds_take h,List.filterMap_append]
 simp[hx]
theorem bdIn_no {s:Sd} {vs:List Pt} {j:Nat} (h:j<vs.length) (hx:Cal.commonS s (Cal.sd vs j)=none):bdIn s vs (j+1)=bdIn s vs j:=by
 unfold bdIn
 rw[sds_take h,List.filterMap_append]
 simp[hx]
theorem bdTo_succ {us vs:List Pt} {k:Nat} (h:k<us.length):bdTo us vs (k+1)=bdTo us vs k ++ bdIn (Cal.sd us k) vs vs.length:=by
 unfold bdTo bdIn
 have hv:(Cal.sds vs).take vs.length=Cal.sds vs:=List.take_of_length_le (by rw[sds_length];exact Nat.le_refl _)
 rw[sds_take h,List.flatMap_append,hv]
 simp
theorem bdTo_all (us vs:List Pt):bdTo us vs us.length=Cal.borderP us vs:=by
 unfold bdTo Cal.borderP
 rw[List.take_of_length_le (by rw[sds_length];exact Nat.le_refl _)]
theorem bdIn_zero (s:Sd) (vs:List Pt):bdIn s vs 0=[]:=rfl
theorem elemSg:Elem Tryz.prog 54 63 4 32:=Elem.mk' Tryz.underlying54 (z:=.agg #[.int .i64 0,.int .i64 0,.int .i64 0,.int .i64 0]) (by kernel_rfl) rfl (by decide)
structure BdI (w:World) (Vb:Option Addr) (nb db N:Nat) (Ns:List Nat) (out:List Sd) (W:World):Prop where
 b:BoxAt W w.heap.size [.slice Vb nb db]
 o:∃ v,BoxAt W (w.heap.size+1) [v]∧OwnL W (w.heap.size+3) 63 4 v (out.map sdR)∧∀ g,v.ownBlock=some g→g∉Ns
 bel:Below w.heap.size w W
 lt:w.heap.size+3≤N
 size:N≤W.heap.size
theorem BdI.below {w:World} {Vb:Option Addr} {nb db N:Nat} {Ns:List Nat} {out:List Sd} {X Y:World} (h:BdI w Vb nb db N Ns out X) (hb:Below X.heap.size X Y):BdI w Vb nb db N Ns out Y:=by
 obtain⟨h1,⟨v,h2,h3,h4⟩,h5,h6,h7⟩:=h
 exact⟨h1.below hb,⟨v,h2.below hb,OwnL.below h3 hb,h4⟩,h5.trans (hb.mono h5.size),h6,Nat.le_trans h7 hb.size⟩
theorem BdI.kept {w:World} {Vb:Option Addr} {nb db N:Nat} {Ns:List Nat} {out:List Sd} {X Y:World} {row:Option Nat} (h:BdI w Vb nb db N Ns out X) (hg:X.grownBy Y row) (hr:∀ r,row=some r→w.heap.size≤r∧∃ o:Obj,X.heap[r]?=some o∧o.isCells=false):BdI w Vb nb db N Ns out Y:=by
 obtain⟨h1,⟨v,h2,h3,h4⟩,h5,h6,h7⟩:=h
 have ho:Others X row:=fun r e=>(hr r e).2
 exact⟨h1.keptF hg ho,⟨v,h2.keptF hg ho,OwnL.keptF h3 hg ho,h4⟩,ownFrom_below (β:=Unit) (Nat.le_refl _) (Nat.le_refl _) () X Y row h5 hg hr,h6,Nat.le_trans h7 hg.size⟩
end Go.Proofs.YtoojdkaimhlcbaaGreat
namespace Go.Proofs.YtoojdkaimhlcbaaGreat
open Go Go.RowKit Go.Shelf
attribute [local go_sem] Oper.semAt_some
theorem BdI.any {w:World} {Vb:Option Addr} {nb db N:Nat} {Ns:List Nat} {out:List Sd} {X:World} (h:BdI w Vb nb db N Ns out X):BdI w Vb nb db N [] out X :=
 ⟨h.b,by obtain⟨v,h2,h3,h4⟩:=h.o;exact⟨v,h2,h3,fun g _ hm=>by cases hm⟩,h.bel,h.lt,h.size⟩
section
variable {n : Nat} {g : Operand} {qs : Array Tmp} {assign body : Code} {Q : Exit → Act → World → Prop} {a : Act} {w : World} {Bs n₀ : Nat} {V : Option Addr} {d : Nat} {ps : List Pt}
theorem wpIn_sides1X (h1:2≤n) (hg:a.eval g=.func (.func 71) #[] #[.pointer (some ⟨Bs,0,none⟩)]) (hq:qs.size=2)
  (hBs:w.cell? ⟨Bs,0,none⟩=some (.slice V ps.length d)) (hBw:Bs<w.heap.size) (hP:Pts w V ps) (hn:n₀≤w.heap.size) (hVn:∀ ad,V=some ad→0<ps.length→ad.block<n₀)
  (I:Nat→World→Prop) (Ix:Code→Nat→World→Prop) (hI:OwnFrom w.heap.size I) (hIx:∀ c,OwnFrom w.heap.size (Ix c)) (h0:I 0 w)
  (Af:Array Value→Nat→Sd→Nat→Array Value) (Ex:Nat→World→Prop) (hEx:∀ b,OwnFrom w.heap.size (fun (_:Unit) W=>Ex b W))
  (hassign:∀ (l:Nat) (k:Nat) (W:World) (K:Act→World→Prop),k<ps.length→I k W→(∀ By W',w.heap.size≤By→KeepsFrom w.heap.size W W'→KpS n₀ Bs (w.heap.size+1+1) W W'→I k W'→BoxAt W' By [.int .i64 (Cal.sd ps k).a.x,.int .i64 (Cal.sd ps k).a.y,.int .i64 (Cal.sd ps k).b.x,.int .i64 (Cal.sd ps k).b.y]→Ex By W'→K { tmps:=Af a.tmps k (Cal.sd ps k) By,defers:=[] } W') →
   assign.wpIn (Fence.wide.inRound l) (n-1-1) Tryz.prog (Exit.then K (fun _ _ _=>False)) { tmps:=(qs.zip #[.int .i64 (k:Int),.agg #[.int .i64 (Cal.sd ps k).a.x,.int .i64 (Cal.sd ps k).a.y,.int .i64 (Cal.sd ps k).b.x,.int .i64 (Cal.sd ps k).b.y]]).foldl (fun t (p,v)=>t.setIfInBounds p v) a.tmps,defers:=[] } W)
  (hbody:∀ (l:Nat) (k:Nat) (By:Nat) (W:World),w.heap.size≤l→(∃ r,W.heap[l]?=some (.loop r))→k<ps.length→I k W→w.heap.size≤By→BoxAt W By [.int .i64 (Cal.sd ps k).a.x,.int .i64 (Cal.sd ps k).a.y,.int .i64 (Cal.sd ps k).b.x,.int .i64 (Cal.sd ps k).b.y]→Ex By W→body.wpIn (Fence.wide.inRound l) (n-1-1) Tryz.prog (ixPost w.heap.size (KpS n₀ Bs (w.heap.size+1+1)) (I (k+1)) (fun c=>Ix c k) W) { tmps:=Af a.tmps k (Cal.sd ps k) By,defers:=[] } W)
  (hdone:∀ (D:Nat) (W:World),w.heap.size≤D→I ps.length W→W.heap[D]?=some (.deferred (some []))→Q .normal { a with defers:={ target:=.collected D,args:=#[] } :: a.defers } W)
  (hstop:∀ (D:Nat) (c:Code) (k:Nat) (W:World),w.heap.size≤D→k<ps.length→Ix c k W→W.heap[D]?=some (.deferred (some []))→c.wpIn Fence.wide n Tryz.prog Q { a with defers:={ target:=.collected D,args:=#[] } :: a.defers } W) :
  (Code.rangeFunc g qs assign body).wpIn Fence.wide n Tryz.prog Q a w :=
 wpIn_range_sides h1 hg hq hBs hBw hP hn hVn I Ix hI hIx h0
  (fun x a' W=>∃ By,w.heap.size≤By∧BoxAt W By [.int .i64 x.2.a.x,.int .i64 x.2.a.y,.int .i64 x.2.b.x,.int .i64 x.2.b.y]∧Ex By W∧a'={ tmps:=Af a.tmps x.1 x.2 By,defers:=[] })
  (fun x a' _ X Y row hs hg hr=>by obtain⟨By,e1,e2,e4,e3⟩:=hs;exact⟨By,e1,e2.keptF hg (fun r e=>(hr r e).2),hEx By () X Y row e4 hg hr,e3⟩)
  (fun l k W K hk hi hK=>hassign l k W K hk hi (fun By W' h1 h2 h3 h4 h5 h6=>hK _ _ h2 h3 h4 ⟨By,h1,h5,h6,rfl⟩))
  (fun l k a' W hl hr hk hi hax=>by obtain⟨By,h1,h2,h3,rfl⟩:=hax;exact hbody l k By W hl hr hk hi h1 h2 h3) hdone hstop
end
def BdX (w:World) (b:Nat) (W:World):Prop:=∃ v,BoxAt W (w.heap.size+1) [v]∧∀ g,v.ownBlock=some g→g≠b
theorem bdX_own (w:World) (b:Nat) (B:Nat):OwnFrom B (fun (_:Unit) W=>BdX w b W):=fun _ X Y row h hg hr=>by
 obtain⟨v,h1,h2⟩:=h
 exact⟨v,h1.keptF hg (fun r e=>(hr r e).2),h2⟩
theorem BdI.avoid2 {w:World} {Vb:Option Addr} {nb db N b:Nat} {Ns:List Nat} {out:List Sd} {X:World} (h:BdI w Vb nb db N Ns out X) (hx:BdX w b X):BdI w Vb nb db N [X.heap.size,b] out X:=by
 obtain⟨h1,⟨v,h2,h3,h4⟩,h5,h6,h7⟩:=h
 obtain⟨v',k1,k2⟩:=hx
 have e:v=v':=by
  have a1:=h2.c 0 _ rfl;have a2:=k1.c 0 _ rfl
  rw[a1] at a2
  exact Option.some.inj a2
 subst e
 refine⟨h1,⟨v,h2,h3,fun g hg hm=>?_⟩,h5,h6,h7⟩
 rcases List.mem_cons.1 hm with e | hm
 ·have:=(OwnL.lt h3 g hg).2;omega
 exact k2 g hg (List.mem_singleton.1 hm)
theorem bdIn_len (s:Sd) (vs:List Pt) (j:Nat):(bdIn s vs j).length≤vs.length:=by
 unfold bdIn
 refine Nat.le_trans (List.length_filterMap_le _ _) ?_
 rw[List.length_take,sds_length]
 exact Nat.min_le_right _ _
theorem bdTo_len (us vs:List Pt) (k:Nat):(bdTo us vs k).length≤us.length*vs.length:=by
 unfold bdTo
 have h:∀ L:List Sd,(L.flatMap fun s=>(Cal.sds vs).filterMap (Cal.commonS s)).length≤L.length*vs.length:=by
  intro L
  induction L with
  | nil=>simp
  | cons a L ih =>
   rw[List.flatMap_cons,List.length_append,List.length_cons,Nat.succ_mul]
   have:=List.length_filterMap_le (Cal.commonS a) (Cal.sds vs)
   rw[sds_length] at this
   omega
 refine Nat.le_trans (h _) (Nat.mul_le_mul_right _ ?_)
 rw[List.length_take,sds_length]
 exact Nat.min_le_right _ _
theorem sdR_wid (l:List Sd):∀ r∈l.map sdR,r.length=4:=fun r hr=>by obtain⟨s,_,rfl⟩:=List.mem_map.1 hr;rfl
theorem sdR_one (l:List Sd):∀ r∈l.map sdR,∀ u∈r,u.oneCell'=true:=fun r hr u hu=>by
 obtain⟨s,_,rfl⟩:=List.mem_map.1 hr
 simp only[sdR,List.mem_cons,List.not_mem_nil,or_false] at hu
 rcases hu with rfl | rfl | rfl | rfl <;> rfl
def BdJ (w:World) (Vb:Option Addr) (db:Nat) (us vs:List Pt) (k:Nat) (W:World):Prop:=BdI w Vb vs.length db (w.heap.size+3) [] (bdTo us vs k) W
def BdJ2 (w:World) (Vb:Option Addr) (db B Bs Bx S Bi:Nat) (W:World) (out:List Sd) (s:Sd) (vs:List Pt) (j:Nat) (Y:World):Prop :=
 BdI w Vb vs.length db (w.heap.size+3) [Bi,Bx] (out ++ bdIn s vs j) Y∧BoxAt Y Bx [.int .i64 s.a.x,.int .i64 s.a.y,.int .i64 s.b.x,.int .i64 s.b.y]∧Rd B w.heap.size Bs W Y∧S≤Y.heap.size
theorem bdJ_own (w:World) (Vb:Option Addr) (db:Nat) (us vs:List Pt) (B:Nat) (hB:w.heap.size≤B):OwnFrom B (BdJ w Vb db us vs):=fun _ _ _ _ hs hg hr =>
 BdI.kept hs hg (fun r e=>⟨Nat.le_trans hB (hr r e).1,(hr r e).2⟩)
theorem bdJ2_own (w:World) (Vb:Option Addr) (db B Bs Bx S Bi:Nat) (W:World) (out:List Sd) (s:Sd) (vs:List Pt) (B':Nat) (hB:W.heap.size≤B') (hn:w.heap.size≤W.heap.size) (hs:Bs<W.heap.size):OwnFrom B' (BdJ2 w Vb db B Bs Bx S Bi W out s vs):=fun k X Y row h hg hr =>
 ⟨h.1.kept hg (fun r e=>⟨by have:=(hr r e).1;omega,(hr r e).2⟩),h.2.1.keptF hg (fun r e=>(hr r e).2),rd_own (β:=Nat) hB hn hs k X Y row h.2.2.1 hg hr,Nat.le_trans h.2.2.2 hg.size⟩
theorem no_own (B:Nat):OwnFrom B (fun (_:Nat) (_:World)=>False):=fun _ _ _ _ h _ _=>h
theorem border_any (Va Vb:Option Addr) (da db:Nat) (us vs:List Pt) (w:World) (hA:Pts w Va us) (hB:Pts w Vb vs) (hla:us.length≤40) (hlb:vs.length≤40) :
  Calls Tryz.prog 42 #[.slice Va us.length da,.slice Vb vs.length db] w fun e w'=>∃ v,e=.returned v∧OwnL w' w.heap.size 63 4 v ((Cal.borderP us vs).map sdR)∧Below w.heap.size w w':=by
 refine (callsIn_wide (n:=6)).1 ?_
 refine callsIn_of_wp_marks Tryz.func42 rfl trivial ?_ rfl
 simp only[Tryz.ntmps42,List.size_toArray,List.length_cons,List.length_nil,Nat.reduceAdd,Nat.reduceSub,Array.replicate_succ,Array.replicate_zero,List.push_toArray,List.append_toArray,List.nil_append,List.cons_append]
 gi_wp2_with (refine⟨trivial,?_⟩;gi_at_call 52;refine (callsIn_wide.2 (sides_any _ _ _ _)).mono ?_;rintro e w' ⟨rfl,rfl⟩)
 have bB:=((BoxAt.new w #[.slice Vb vs.length db] 44).alloc (.cells #[.slice none 0 0] 54)).alloc (.cells #[.slice Va us.length da] 44)
 have bR:=(BoxAt.new (w.alloc (.cells #[.slice Vb vs.length db] 44)) #[.slice none 0 0] 54).alloc (.cells #[.slice Va us.length da] 44)
 have bS:=BoxAt.new ((w.alloc (.cells #[.slice Vb vs.length db] 44)).alloc (.cells #[.slice none 0 0] 54)) #[.slice Va us.length da] 44
 have hB0:Below w.heap.size w (((w.alloc (.cells #[.slice Vb vs.length db] 44)).alloc (.cells #[.slice none 0 0] 54)).alloc (.cells #[.slice Va us.length da] 44)):=below_step (below_step (below_alloc _ _) (below_alloc _ _)) (below_alloc _ _)
 have hs0:((((w.alloc (.cells #[.slice Vb vs.length db] 44)).alloc (.cells #[.slice none 0 0] 54)).alloc (.cells #[.slice Va us.length da] 44))).heap.size=w.heap.size+3:=by simp
 simp only[World.size_alloc] at bR bS
 obtain⟨W0,hW0⟩:∃ W0,(((w.alloc (.cells #[.slice Vb vs.length db] 44)).alloc (.cells #[.slice none 0 0] 54)).alloc (.cells #[.slice Va us.length da] 44))=W0:=⟨_,rfl⟩
 rw[hW0] at bB bR bS hB0 hs0 ⊢
 clear hW0
 have hs00:=Lib.hid hs0
 replace hs0:w.heap.size+3≤W0.heap.size:=Nat.le_of_eq hs0.symm
 have hA0:=hA.below hB0
 refine wpIn_sides1X (Bs:=w.heap.size+1+1) (n₀:=w.heap.size) (V:=Va) (d:=da) (ps:=us) (by omega) rfl rfl (bS.c 0 _ rfl) (by omega) hA0 (by omega) hA.own
  (BdJ w Vb db us vs) (fun _ _ _=>False) (bdJ_own w Vb db us vs _ (by omega)) (fun _=>no_own _) ⟨bB,⟨_,bR,OwnL.nil _ _ _ _,fun g h=>by cases h⟩,hB0,Nat.le_refl _,hs0⟩
  (fun T k t By=>((T.setIfInBounds 14 (.int .i64 (k:Int))).setIfInBounds 15 (.agg #[.int .i64 t.a.x,.int .i64 t.a.y,.int .i64 t.b.x,.int .i64 t.b.y])).setIfInBounds 7 (.pointer (some ⟨By,0,none⟩))) (BdX w) (fun b=>bdX_own w b _)
  ?assign ?body ?done ?stop
 case assign =>
  rintro l k W K hk hI hK
  gi_wp2
  have hz:=BdI.size hI
  exact hK W.heap.size _ (by have:=hs00.out;omega) ((KeepsOthers.alloc _ _).from _) (KpS.below (below_alloc _ _) hI.bel.size (by omega)) (BdI.below hI (below_alloc _ _)) (BoxAt.new W #[.int .i64 (Cal.sd us k).a.x,.int .i64 (Cal.sd us k).a.y,.int .i64 (Cal.sd us k).b.x,.int .i64 (Cal.sd us k).b.y] _) (by obtain⟨v,h2,h3,_⟩:=BdI.o hI;exact⟨v,h2.alloc _,fun g hg e=>by have:=(OwnL.lt h3 g hg).2;omega⟩)
 case body =>
  rintro l k Bx W hl ⟨r,hr⟩ hk hI hBx bX hX
  simp only[List.setIfInBounds_toArray,List.set_cons_zero,List.set_cons_succ]
  have hsd:=hA.sd k hk
  have hz:=BdI.size hI
  have hbl:=BdI.bel hI
  have b0:=(BdI.b hI).c 0 _ rfl
  have hIz:=Lib.hid (BdI.avoid2 hI hX)
  have bXz:=Lib.hid bX
  clear hI bX hX
  gi_wp2_with (refine⟨trivial,?_⟩;gi_at_call 52;refine (callsIn_wide.2 (sides_any _ _ _ _)).mono ?_;rintro e w' ⟨rfl,rfl⟩)
  have hbw:Below W.heap.size W (W.alloc (.cells #[.slice Vb vs.length db] 44)):=below_alloc _ _
  have bT:=BoxAt.new W #[.slice Vb vs.length db] 44
  have hI1:=hIz.out.below hbw
  have bX1:=bXz.out.below hbw
  have hs1:(W.alloc (.cells #[.slice Vb vs.length db] 44)).heap.size=W.heap.size+1:=by simp
  have hr1:(W.alloc (.cells #[.slice Vb vs.length db] 44)).heap[l]?=some (.loop r):=(hbw.block l (Array.getElem?_eq_some_iff.1 hr).1).trans hr
  obtain⟨W1,hW1⟩:∃ W1,W.alloc (.cells #[.slice Vb vs.length db] 44)=W1:=⟨_,rfl⟩
  rw[hW1] at bT hI1 hs1 hr1 hbw bX1 ⊢
  clear hW1
  replace hs1:W.heap.size+1≤W1.heap.size:=Nat.le_of_eq hs1.symm
  obtain⟨s,hs⟩:∃ s,Cal.sd us k=s:=⟨_,rfl⟩
  rw[hs] at bX1 hsd ⊢
  have hs:=Lib.hid hs
  obtain⟨out,hout⟩:∃ out,bdTo us vs k=out:=⟨_,rfl⟩
  have hI1:=hI1
  rw[hout] at hI1
  have hout:=Lib.hid hout
  refine wpIn_sides1N hr1 (Bs:=W.heap.size) (n₀:=w.heap.size) (V:=Vb) (d:=db) (ps:=vs) (by omega) rfl rfl (bT.c 0 _ rfl) (by omega) (hB.below hI1.bel) (by omega) hB.own
   (BdJ2 w Vb db W0.heap.size (w.heap.size+1+1) Bx W1.heap.size W.heap.size W out s vs) (fun _ _ _=>False) (bdJ2_own w Vb db _ _ _ _ _ W out s vs _ (by omega) (by omega) (by omega)) (fun _=>no_own _)
   ⟨by rw[bdIn_zero,List.append_nil];exact hI1,bX1,Rd.below hbw (by omega) (by omega),Nat.le_refl _⟩
   (fun T j t By=>((T.setIfInBounds 18 (.int .i64 (j:Int))).setIfInBounds 19 (.agg #[.int .i64 t.a.x,.int .i64 t.a.y,.int .i64 t.b.x,.int .i64 t.b.y])).setIfInBounds 9 (.pointer (some ⟨By,0,none⟩)))
   ?assign2 ?body2 ?done2 ?stop2
  case assign2 =>
   rintro l2 j Y K hj ⟨hI2,bX2,hR2,hz2⟩ hK
   gi_wp2
   exact hK Y.heap.size _ (by omega) ((KeepsOthers.alloc _ _).from _) (KpS.below (below_alloc _ _) (by omega) (by omega)) ⟨hI2.below (below_alloc _ _),bX2.alloc _,hR2.trans (Rd.below (below_alloc _ _) (by omega) (by omega)),by simp;omega⟩ (BoxAt.new Y #[.int .i64 (Cal.sd vs j).a.x,.int .i64 (Cal.sd vs j).a.y,.int .i64 (Cal.sd vs j).b.x,.int .i64 (Cal.sd vs j).b.y] _)
  case body2 =>
   rintro l2 j By Y hl2 ⟨r2,hr2⟩ hj ⟨hI2,bX2,hR2,hz2⟩ hBy bY
   simp only[List.setIfInBounds_toArray,List.set_cons_zero,List.set_cons_succ]
   have hse:=hB.sd j hj
   obtain⟨e0,e1,e2,e3⟩:=bX2.c4;obtain⟨g0,g1,g2,g3⟩:=bY.c4
   obtain⟨t,htt⟩:∃ t,Cal.sd vs j=t:=⟨_,rfl⟩
   rw[htt] at g0 g1 g2 g3 hse ⊢
   obtain⟨⟨x,c⟩,hcm⟩:∃ xc,comT s t=xc:=⟨_,rfl⟩
   have hcs:=comT_eq s t
   rw[hcm] at hcs
   have hcm:=Lib.hid hcm
   have hall:=Lib.hid (And.intro hI2 (And.intro bX2 hR2))
   clear hI2 bX2 hR2 bY
   cases c
   ·have hno:Hid (bdIn s vs (j+1)=bdIn s vs j):=bdIn_no hj (by rw[htt,hcs];rfl)
    clear hcs htt
    gi_wp2_with (refine⟨trivial,?_⟩;gi_at_call 58;refine (callsIn_wide.2 (common_any s t _ hsd hse)).mono ?_;rintro e wn ⟨rfl,hbn⟩;rw[hcm.out])
    obtain⟨hI2,bX2,hR2⟩:=hall.out
    have hb9:=below_step hbn (below_alloc wn (.cells #[.int .i64 x.a.x,.int .i64 x.a.y,.int .i64 x.b.x,.int .i64 x.b.y] 63))
    have hz4:=hb9.size
    refine⟨(keepsF_below hb9).from _,KpS.below hb9 (by omega) (by omega),by rw[hno.out];exact hI2.below hb9,bX2.below hb9,hR2.trans (Rd.below hb9 (by omega) (by omega)),by omega⟩
   have hyes:Hid (bdIn s vs (j+1)=bdIn s vs j ++ [x]):=bdIn_yes hj (by rw[htt,hcs];rfl)
   clear hcs htt
   obtain⟨v,hv,ho,hnb⟩:=hall.out.1.o
   have hlen:((out ++ bdIn s vs j).map sdR).length≤4000:=by
    rw[List.length_map,List.length_append]
    have h1:=bdIn_len s vs j
    have h2:=bdTo_len us vs k
    have h3:us.length*vs.length≤40*40:=Nat.mul_le_mul hla hlb
    rw[hout.out] at h2
    omega
   replace hlen:=Lib.hid hlen
   replace hv:=Lib.hid hv
   replace ho:=Lib.hid ho
   replace hnb:=Lib.hid hnb
   gi_wp2_with (first
    |(refine⟨trivial,?_⟩;gi_at_call 58;refine (callsIn_wide.2 (common_any s t _ hsd hse)).mono ?_;rintro e wn ⟨rfl,hbn⟩;rw[hcm.out];have hb9:=Lib.hid hbn;clear hbn e0 e1 e2 e3 g0 g1 g2 g3;have hv1:=Lib.hid (hv.out.below hb9.out);have ho1:=Lib.hid (OwnL.below ho.out hb9.out);have r0:=hv1.out.c 0 _ rfl;have hvl:=hv1.out.lt;have n0:¬w.heap.size+1=wn.heap.size:=(by omega);have hbA:=Lib.hid (below_step (below_alloc wn (.cells #[.int .i64 x.a.x,.int .i64 x.a.y,.int .i64 x.b.x,.int .i64 x.b.y] 63)) (below_alloc (wn.alloc (.cells #[.int .i64 x.a.x,.int .i64 x.a.y,.int .i64 x.b.x,.int .i64 x.b.y] 63)) (.cells #[.int .i64 x.a.x,.int .i64 x.a.y,.int .i64 x.b.x,.int .i64 x.b.y] 63)));have ho3:=Lib.hid (OwnL.below ho1.out hbA.out);have hsrc:Hid (RowsAt ((wn.alloc (.cells #[.int .i64 x.a.x,.int .i64 x.a.y,.int .i64 x.b.x,.int .i64 x.b.y] 63)).alloc (.cells #[.int .i64 x.a.x,.int .i64 x.a.y,.int .i64 x.b.x,.int .i64 x.b.y] 63)) (some ⟨wn.heap.size+1,0,none⟩) 4 ([x].map sdR)):=(by have h:=rowsAt_new (wn.alloc (.cells #[.int .i64 x.a.x,.int .i64 x.a.y,.int .i64 x.b.x,.int .i64 x.b.y] 63)) (sdR x) 63;rw[World.size_alloc] at h;exact h);have hYn:=hbA.out.size)
    |(gi_at_builtin;go_loud (refine wpListF_append_rows elemSg rfl _ _ rfl rfl rfl ho3.out (rows2:=[x].map sdR) hsrc.out rfl (sdR_wid [x]) (sdR_one [x]) (Nat.le_trans (Nat.add_le_add hlen.out (Nat.le_of_eq (show ([x].map sdR).length=1 from rfl))) (by decide)) (by decide) (Nat.le_trans (BdI.size hall.out.1) (Nat.le_trans hb9.out.size hYn)) ?_;intro v' w5 hown5 hg5 hob5;obtain⟨A5,c5,hv'',_⟩:=OwnL.form hown5;subst hv'';have hA5:=Lib.hid hown5;have hG5:=Lib.hid hg5;have hO5:=Lib.hid hob5;have hv5:=Lib.hid ((hv1.out.below hbA.out).grown hg5 (fun e=>by have:=(OwnL.lt ho3.out _ e.symm).1;omega));clear hown5 hg5 hob5;have q2:=hv5.out.c 0 _ rfl;have q3:=hv5.out.free 0 Nat.zero_lt_one)))
   obtain⟨hI2,bX2,hR2⟩:=hall.out
   have hzY:=BdI.size hI2
   have hb9z:=hb9.out.size
   have hbAz:=hbA.out.size
   have hown:=fun g e=>OwnL.lt ho3.out g e
   have hneW:some W.heap.size≠v.ownBlock:=fun e=>hnb.out _ e.symm (by simp)
   have hneX:some Bx≠v.ownBlock:=fun e=>hnb.out _ e.symm (by simp)
   have hne0:some w.heap.size≠v.ownBlock:=fun e=>by have:=(hown _ e.symm).1;omega
   have hneS:some (w.heap.size+1+1)≠v.ownBlock:=fun e=>by have:=(hown _ e.symm).1;omega
   have hYA:=hb9.out.trans (hbA.out.mono hb9z)
   have hB5:Below w.heap.size Y w5:=(hYA.mono (by omega)).grown hG5.out (by omega) (fun g e=>by have:=(hown g e).1;omega)
   have hKO:=fun u=>(((keepsF_below hb9.out).trans (keepsF_below hbA.out)).trans (OwnL.keepsF ho3.out hG5.out)).trans (KeepsOthers.setCell w5 ⟨w.heap.size+1,0,none⟩ u)
   have hblk:∀ b,b<Y.heap.size→some b≠v.ownBlock→w5.heap[b]?=Y.heap[b]?:=fun b hb hne=>(hG5.out.block b (by omega) hne).trans (hYA.block b hb)
   have hz5:=hG5.out.size
   refine⟨(hKO _).from _,⟨hB5.setCell (p:=⟨w.heap.size+1,0,none⟩) (Nat.le_succ _) _,(Below.heap_setCell w5 ⟨w.heap.size+1,0,none⟩ _ W.heap.size (show W.heap.size≠w.heap.size+1 by omega)).trans (hblk _ (by omega) hneW)⟩,?_,(bX2.ofBlock (hblk _ bX2.lt hneX) (by omega)).off 0 _ (by omega),hR2.trans ⟨(hKO _).from _,hB5.setCell (p:=⟨w.heap.size+1,0,none⟩) (Nat.le_succ _) _,(Below.heap_setCell w5 ⟨w.heap.size+1,0,none⟩ _ (w.heap.size+1+1) (show w.heap.size+1+1≠w.heap.size+1 by omega)).trans (hblk _ (by omega) hneS)⟩,by rw[World.size_setCell];omega⟩
   refine⟨(hI2.b.ofBlock (hblk _ (by omega) hne0) (by omega)).off 0 _ (by omega),⟨_,hv5.out.set 0 _ Nat.zero_lt_one,?_,fun g hg hm=>?_⟩,hI2.bel.trans (hB5.setCell (p:=⟨w.heap.size+1,0,none⟩) (Nat.le_succ _) _),Nat.le_refl _,by rw[World.size_setCell];omega⟩
   ·rw[hyes.out,←List.append_assoc,List.map_append]
    have hA9:=hA5.out
    have hl:(List.map sdR (out ++ bdIn s vs j) ++ List.map sdR [x]).length=out.length+((bdIn s vs j).length+1):=by simp[Nat.add_assoc]
    rw[hl] at hA9
    exact OwnL.offF (B':=w.heap.size+1) hA9 0 _ (show w.heap.size+1<w.heap.size+3 by omega)
   have hO:=hO5.out
   simp only[List.length_append,List.length_map,List.length_cons,List.length_nil,Nat.zero_add,Nat.add_assoc] at hO
   rcases hO with e | e
   ·rw[e] at hg;exact hnb.out g hg hm
   rw[hg] at e
   have e:=Option.some.inj e
   simp only[World.size_alloc] at e
   have hBx1:=bX2.lt
   simp only[List.mem_cons,List.not_mem_nil,or_false] at hm
   rcases hm with hm | hm <;> omega
  case done2 =>
   rintro Y ⟨hI2,bX2,hR2,hz2⟩
   gi_wp2
   refine⟨hR2.keeps,hR2.kp,?_⟩
   have h:=hI2.any
   rw[←hout.out,←hs.out,←bdTo_succ hk] at h
   exact h
  case stop2 =>
   rintro c j Y hj h0
   exact h0.elim
 case done =>
  rintro D W hD hI hK
  obtain⟨v,hv,ho,_⟩:=hI.o
  have r0:=hv.c 0 _ rfl
  have hAll:=Lib.hid (And.intro hI.bel (And.intro ho hK))
  clear hI hv ho hK
  gi_wp2
  obtain⟨hB,ho,hK⟩:=hAll.out
  have ho':Others W (some D):=fun r e=>by cases e;exact⟨_,hK,rfl⟩
  refine⟨by simp,.inl ⟨_,_,rfl,run_takeDeferred hK,?_⟩⟩
  exact⟨_,results_tmp (t:=4) rfl _ _ _,v,rfl,by rw[←bdTo_all];exact (OwnL.keptF ho (grownBy_putObj' W D (.deferred none)) ho').less (by omega),belowF_put hB (by omega) _⟩
 case stop =>
  rintro D c k W hD hk h0
  exact h0.elim
end Go.Proofs.YtoojdkaimhlcbaaGreat
namespace Go.Proofs.YtoojdkaimhlcbaaGreat
open Go Go.RowKit Go.Shelf
attribute [local go_sem] Oper.semAt_some
structure PA where
 V:Option Addr
 d:Nat
 ps:List Pt
def PA.v (p:PA):Value:=.slice p.V p.ps.length p.d
def firstE:List PA→Int
 | []=>0
 | p :: r=>if Cal.polyE p.ps=0 then firstE r else Cal.polyE p.ps
theorem firstE_cons (p:PA) (r:List PA):firstE (p :: r)=if Cal.polyE p.ps=0 then firstE r else Cal.polyE p.ps:=rfl
theorem checkAll_any (b o c:Nat) (L:List PA) (w:World) (hL:∀ k p,L[k]?=some p→w.cell? ⟨b,o+k,none⟩=some p.v) (hP:∀ p∈L,PtsR w p.V p.ps) (hl:L.length≤1000000) (hb:b<w.heap.size) :
  Calls Tryz.prog 40 #[.slice (some ⟨b,o,none⟩) L.length c] w fun e w'=>e=.returned (.int .i64 (firstE L))∧Below w.heap.size w w':=by
 replace hL:=Lib.hid hL
 replace hP:=Lib.hid hP
 have hB0:Hid (Below w.heap.size w w):=Below.refl _ _
 have hE0:Hid (firstE L=firstE (L.drop 0)):=rfl
 go_enter Tryz.func40,Tryz.ntmps40
 go_wp2_with fail
 go_loopw [8] (fun i wr=>∃ k:Nat,k≤L.length∧i=.int .i64 k∧Hid (firstE L=firstE (L.drop k))∧Hid (Below w.heap.size w wr)) (fun i _=>L.length-(intOf i).toNat)
 case atStart=>exact⟨0,Nat.zero_le _,rfl,hE0,hB0⟩
 case round =>
  clear hE0 hB0
  obtain⟨k,hk,rfl,hE,hB⟩:=hrel
  by_cases hlt:k<L.length
  ·have hk':L[k]?=some L[k]:=List.getElem?_eq_getElem hlt
   have c0:=(hB.out.cell (p:=⟨b,o+k,none⟩) hb).trans (hL.out k _ hk')
   have hp:=hP.out L[k] (List.getElem_mem hlt)
   have hd:L.drop k=L[k] :: L.drop (k+1):=List.drop_eq_getElem_cons hlt
   have hE1:=hE.out
   rw[hd,firstE_cons] at hE1
   replace hE1:=Lib.hid hE1
   clear hd hk' hE
   generalize L[k]=p at *
   obtain⟨V,d,ps⟩:=p
   unfold PA.v at c0
   dsimp only at c0 hp hE1
   have hp2:=Lib.hid (hp.below hB.out)
   clear hp
   by_cases h0:Cal.polyE ps=0
   ·have hE2:Hid (firstE L=firstE (L.drop (k+1))):=by show _=_;rw[hE1.out,if_pos h0]
    replace h0:=Lib.hid h0
    go_wp2_with (refine (CheckPolygon_any V d ps _ hp2.out).mono ?_;rintro e wn ⟨rfl,hbn⟩;rw[h0.out];have hB2:=Lib.hid (below_step hB.out hbn);clear hbn)
    go_roundw
    case rel=>exact⟨k+1,by omega,by go_num,hE2,hB2⟩
    case measure=>simp[intOf];omega
   have hE2:Hid (firstE L=Cal.polyE ps):=by show _=_;rw[hE1.out,if_neg h0]
   obtain⟨v,hv⟩:∃ v,Cal.polyE ps=v:=⟨_,rfl⟩
   rw[hv] at h0 hE2
   have hv:=Lib.hid hv
   go_wp2_with (refine (CheckPolygon_any V d ps _ hp2.out).mono ?_;rintro e wn ⟨rfl,hbn⟩;rw[hv.out];have hB2:=Lib.hid (below_step hB.out hbn);clear hbn)
   go_ret
   exact⟨by rw[hE2.out];rfl,hB2.out⟩
  obtain rfl:k=L.length:=by omega
  go_wp2_with fail
  go_ret
  exact⟨by rw[hE.out,List.drop_length];rfl,hB.out⟩
def brdE (us vs:List Pt):Int:=firstE [⟨none,0,us⟩,⟨none,0,vs⟩]
theorem brdE_eq (us vs:List Pt):brdE us vs=if Cal.polyE us=0 then Cal.polyE vs else Cal.polyE us:=by
 unfold brdE
 rw[firstE_cons,firstE_cons]
 split
 ·split
  ·rename_i h;rw[h];rfl
  rfl
 rfl
end Go.Proofs.YtoojdkaimhlcbaaGreat
namespace Go.Proofs.YtoojdkaimhlcbaaGreat
open Go Go.RowKit Go.Shelf
attribute [local go_sem] Oper.semAt_some
def bordE (us vs:List Pt):Int:=if brdE us vs=0 then (if Cal.overlapP us vs=true then 13 else 0) else brdE us vs
def bordL (E:Int) (us vs:List Pt):List Sd:=if E=0 then Cal.borderP us vs else []
theorem Border_any (Va Vb:Option Addr) (da db:Nat) (us vs:List Pt) (w:World) (hA:PtsR w Va us) (hB:PtsR w Vb vs) (hla:Cal.polyE us=0→us.length≤10) (hlb:Cal.polyE vs=0→vs.length≤10) :
  Calls Tryz.prog 17 #[.slice Va us.length da,.slice Vb vs.length db] w fun e w'=>∃ v,e=.returned (.tuple #[v,.int .i64 (bordE us vs)])∧OwnL w' w.heap.size 63 4 v ((bordL (bordE us vs) us vs).map sdR)∧Below w.heap.size w w':=by
 obtain⟨E,hE⟩:∃ E,bordE us vs=E:=⟨_,rfl⟩
 rw[hE]
 have hb1:Below w.heap.size w (w.alloc (.cells #[.slice Va us.length da,.slice Vb vs.length db] 44)):=below_alloc _ _
 have hx:=BoxAt.new w #[.slice Va us.length da,.slice Vb vs.length db] 44
 have hck:=Lib.hid (checkAll_any w.heap.size 0 2 [⟨Va,da,us⟩,⟨Vb,db,vs⟩] _ (fun k p hp=>by
  match k,hp with
  | 0,hp=>cases hp;exact hx.c 0 _ rfl
  | 1,hp=>cases hp;exact hx.c 1 _ rfl) (fun p hp=>by
  rcases List.mem_cons.1 hp with e | hp
  ·rw[e];exact hA.below hb1
  rw[List.mem_singleton.1 hp];exact hB.below hb1) (by simp) hx.lt)
 have hfe:Hid (firstE [⟨Va,da,us⟩,⟨Vb,db,vs⟩]=brdE us vs):=rfl
 replace hb1:=Lib.hid hb1
 clear hx
 replace hA:=Lib.hid hA
 replace hB:=Lib.hid hB
 by_cases h0:brdE us vs=0
 ·have hp:=brdE_eq us vs
  rw[h0] at hp
  have hu:Cal.polyE us=0:=by
   split at hp
   ·assumption
   rename_i h;exact absurd hp.symm h
  have hv:Cal.polyE vs=0:=by rw[if_pos hu] at hp;exact hp.symm
  have hPa:=Lib.hid (hA.out.plg hu (hla hu))
  have hPb:=Lib.hid (hB.out.plg hv (hlb hv))
  clear hp hu hv
  obtain⟨c,hc⟩:∃ c,Cal.overlapP us vs=c:=⟨_,rfl⟩
  have hR:Hid (E=if c=true then 13 else 0):=by show _=_;rw[←hE];unfold bordE;rw[if_pos h0,hc]
  clear hE
  replace h0:=Lib.hid h0
  replace hc:=Lib.hid hc
  cases c
  ·go_enter Tryz.func17,Tryz.ntmps17
   go_wp2_with (first
    |(go_at_call 40;refine hck.out.mono ?_;rintro e wn ⟨rfl,hbn⟩;rw[hfe.out,h0.out];have hb2:=Lib.hid (below_step hb1.out hbn);clear hbn)
    |(go_at_call 41;refine (overlap_any Va Vb da db us vs _ (hPa.out.below hb2.out) (hPb.out.below hb2.out)).mono ?_;rintro e wm ⟨rfl,hbn⟩;rw[hc.out];have hb3:=Lib.hid (below_step hb2.out hbn);clear hbn)
    |(go_at_call 42;refine (border_any Va Vb da db us vs _ (hPa.out.below hb3.out).v.pts (hPb.out.below hb3.out).v.pts (by have:=hPa.out.len;omega) (by have:=hPb.out.len;omega)).mono ?_;rintro e wk ⟨v,rfl,ho,hbn⟩;have hb4:=Lib.hid (below_step hb3.out hbn);replace ho:=Lib.hid ho;clear hbn))
   go_ret2
   exact⟨v,by rw[hR.out];rfl,by rw[hR.out];exact ho.out.less hb3.out.size,hb4.out⟩
  go_enter Tryz.func17,Tryz.ntmps17
  go_wp2_with (first
   |(go_at_call 40;refine hck.out.mono ?_;rintro e wn ⟨rfl,hbn⟩;rw[hfe.out,h0.out];have hb2:=Lib.hid (below_step hb1.out hbn);clear hbn)
   |(go_at_call 41;refine (overlap_any Va Vb da db us vs _ (hPa.out.below hb2.out) (hPb.out.below hb2.out)).mono ?_;rintro e wm ⟨rfl,hbn⟩;rw[hc.out];have hb3:=Lib.hid (below_step hb2.out hbn);clear hbn))
  go_ret2
  exact⟨_,by rw[hR.out];rfl,by rw[hR.out];exact OwnL.nil _ _ _ _,hb3.out⟩
 have hR:Hid (E=brdE us vs):=by show _=_;rw[←hE];unfold bordE;rw[if_neg h0]
 clear hE
 obtain⟨v,hv⟩:∃ v,brdE us vs=v:=⟨_,rfl⟩
 rw[hv] at h0 hR hfe
 have h1:=Lib.hid h0
 go_enter Tryz.func17,Tryz.ntmps17
 go_wp2_with (go_at_call 40;refine hck.out.mono ?_;rintro e wn ⟨rfl,hbn⟩;rw[hfe.out];have hb2:=Lib.hid (below_step hb1.out hbn);clear hbn)
 go_ret2
 exact⟨_,by rw[hR.out];rfl,by rw[hR.out];unfold bordL;rw[if_neg h1.out];exact OwnL.nil _ _ _ _,hb2.out⟩
end Go.Proofs.YtoojdkaimhlcbaaGreat
