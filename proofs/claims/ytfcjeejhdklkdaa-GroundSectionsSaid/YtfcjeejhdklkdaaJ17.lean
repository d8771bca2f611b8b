/- What the statements rest on: definitions and walks, part 17. -/
import Derived.Test.YtfcjeejhdklkdaaJ16
set_option maxRecDepth 100000
set_option maxHeartbeats 16000000
set_option linter.unusedSimpArgs false
set_option linter.unusedVariables false
namespace Go.Proofs.Ytfcjeejhdklkdaa
open Go Go.RowKit Go.Shelf
theorem crossesR_any (s t : Sd) (w : World) (hs : SmS s) (ht : SmS t) : Calls Try.prog 69 #[.agg #[.int .i64 s.a.x,.int .i64 s.a.y,.int .i64 s.b.x,.int .i64 s.b.y],.agg #[.int .i64 t.a.x,.int .i64 t.a.y,.int .i64 t.b.x,.int .i64 t.b.y]] w fun e w'=>e = .returned (.bool (Cal.crosS s t)) ∧ Below w.heap.size w w':=by
 obtain ⟨b0,b1,b2,b3,b4,b5⟩:=trn_box s t.a t.b
 obtain ⟨d0,d1,d2,d3,d4,d5⟩:=trn_box t s.a s.b
 have w1 : IntKind.i64.wrap (Cal.trn s t.a * Cal.trn s t.b) = Cal.trn s t.a * Cal.trn s t.b:=wrap_small (by omega) (by omega)
 have w2 : IntKind.i64.wrap (Cal.trn t s.a * Cal.trn t s.b) = Cal.trn t s.a * Cal.trn t s.b:=wrap_small (by omega) (by omega)
 clear b0 b1 b2 b3 b4 b5 d0 d1 d2 d3 d4 d5
 have g1:=Lib.hid (fun W=>crossR_any s.a s.b t.a W hs.a hs.b ht.a)
 have g2:=Lib.hid (fun W=>crossR_any s.a s.b t.b W hs.a hs.b ht.b)
 have g3:=Lib.hid (fun W=>crossR_any t.a t.b s.a W ht.a ht.b hs.a)
 have g4:=Lib.hid (fun W=>crossR_any t.a t.b s.b W ht.a ht.b hs.b)
 have k1 : Hid (∀ W,Calls Try.prog 96 #[.int .i64 (Cal.crs ⟨s.a,s.b⟩ t.a)] W fun e w'=>e = .returned (.int .i64 (Cal.trn s t.a)) ∧ Below W.heap.size W w'):=fun W=>signR_any _ W
 have k2 : Hid (∀ W,Calls Try.prog 96 #[.int .i64 (Cal.crs ⟨s.a,s.b⟩ t.b)] W fun e w'=>e = .returned (.int .i64 (Cal.trn s t.b)) ∧ Below W.heap.size W w'):=fun W=>signR_any _ W
 have k3 : Hid (∀ W,Calls Try.prog 96 #[.int .i64 (Cal.crs ⟨t.a,t.b⟩ s.a)] W fun e w'=>e = .returned (.int .i64 (Cal.trn t s.a)) ∧ Below W.heap.size W w'):=fun W=>signR_any _ W
 have k4 : Hid (∀ W,Calls Try.prog 96 #[.int .i64 (Cal.crs ⟨t.a,t.b⟩ s.b)] W fun e w'=>e = .returned (.int .i64 (Cal.trn t s.b)) ∧ Below W.heap.size W w'):=fun W=>signR_any _ W
 by_cases h : Cal.trn s t.a * Cal.trn s t.b < 0
 ·have hf : Hid (Cal.crosS s t = decide (Cal.trn t s.a * Cal.trn t s.b < 0)):=by show _ = _;unfold Cal.crosS;rw [decide_eq_true h,Bool.true_and]
  have hd:=decide_eq_true h
  go_enter Try.func69,Try.ntmps69
  go_wp2_with fail
  refine wp_region_held_drew (S:=Sx w [(w.heap.size,0,.int .i64 s.a.x),(w.heap.size,1,.int .i64 s.a.y),(w.heap.size,2,.int .i64 s.b.x),(w.heap.size,3,.int .i64 s.b.y),(w.heap.size + 1,0,.int .i64 t.a.x),(w.heap.size + 1,1,.int .i64 t.a.y),(w.heap.size + 1,2,.int .i64 t.b.x),(w.heap.size + 1,3,.int .i64 t.b.y)]) (by kernel_rfl) ⟨by simp [cs_iff_cons,cs_nil],blw⟩ (fun hHeld=>?_)
  refine tkHx 0 5 ?_
  refine tkHx 1 6 ?_
  refine tkHx 2 7 ?_
  refine tkHx 3 8 ?_
  refine tkHx 4 9 ?_
  refine tkHx 5 10 ?_
  refine tkHx 8 13 ?_
  refine tkHx 9 14 ?_
  refine tkHx 10 15 ?_
  refine tkHx 11 16 ?_
  refine tkHx 12 17 ?_
  refine tkHx 13 18 ?_
  (refine ratHx 6 (fun K hK=>?_);go_simp)
  refine (g1.out _).mono ?_
  rintro e wn ⟨rfl,hbn⟩
  go_simp
  (refine hK.out _ _ (hHeld.step hbn) (fun hHeld=>?_);clear hK K;(try simp only [apS,apN,siA,scZ,scS]))
  (refine ratHx 7 (fun K hK=>?_);go_simp)
  refine (k1.out _).mono ?_
  rintro e wn ⟨rfl,hbn⟩
  go_simp
  (refine hK.out _ _ (hHeld.step hbn) (fun hHeld=>?_);clear hK K;(try simp only [apS,apN,siA,scZ,scS]))
  (refine ratHx 14 (fun K hK=>?_);go_simp)
  refine (g2.out _).mono ?_
  rintro e wn ⟨rfl,hbn⟩
  go_simp
  (refine hK.out _ _ (hHeld.step hbn) (fun hHeld=>?_);clear hK K;(try simp only [apS,apN,siA,scZ,scS]))
  (refine ratHx 15 (fun K hK=>?_);go_simp)
  refine (k2.out _).mono ?_
  rintro e wn ⟨rfl,hbn⟩
  go_simp
  (refine hK.out _ _ (hHeld.step hbn) (fun hHeld=>?_);clear hK K;(try simp only [apS,apN,siA,scZ,scS]))
  refine tkHx 16 21 ?_
  refine tkHx 17 22 ?_
  refine tkHx 18 23 ?_
  refine tkHx 19 24 ?_
  refine tkHx 20 25 ?_
  refine tkHx 21 26 ?_
  refine tkHx 22 27 ?_
  refine tkHx 23 28 ?_
  refine tkHx 24 29 ?_
  refine tkHx 27 32 ?_
  refine tkHx 28 33 ?_
  refine tkHx 29 34 ?_
  refine tkHx 30 35 ?_
  refine tkHx 31 36 ?_
  refine tkHx 32 37 ?_
  (refine ratHx 25 (fun K hK=>?_);go_simp)
  refine (g3.out _).mono ?_
  rintro e wn ⟨rfl,hbn⟩
  go_simp
  (refine hK.out _ _ (hHeld.step hbn) (fun hHeld=>?_);clear hK K;(try simp only [apS,apN,siA,scZ,scS]))
  (refine ratHx 26 (fun K hK=>?_);go_simp)
  refine (k3.out _).mono ?_
  rintro e wn ⟨rfl,hbn⟩
  go_simp
  (refine hK.out _ _ (hHeld.step hbn) (fun hHeld=>?_);clear hK K;(try simp only [apS,apN,siA,scZ,scS]))
  (refine ratHx 33 (fun K hK=>?_);go_simp)
  refine (g4.out _).mono ?_
  rintro e wn ⟨rfl,hbn⟩
  go_simp
  (refine hK.out _ _ (hHeld.step hbn) (fun hHeld=>?_);clear hK K;(try simp only [apS,apN,siA,scZ,scS]))
  (refine ratHx 34 (fun K hK=>?_);go_simp)
  refine (k4.out _).mono ?_
  rintro e wn ⟨rfl,hbn⟩
  go_simp
  (refine hK.out _ _ (hHeld.step hbn) (fun hHeld=>?_);clear hK K;(try simp only [apS,apN,siA,scZ,scS]))
  refine tkHx 35 40 ?_
  refine tkHx 36 41 ?_
  refine tkHx 37 42 ?_
  refine tkHx 38 4 ?_
  refine wpAnyH_done (by kernel_rfl) ?_ _
  go_wp2_with fail
  go_ret
  exact ⟨ret_bool hf.out.symm,hHeld.bel⟩
 ·have hf : Hid (Cal.crosS s t = false):=by show _ = _;unfold Cal.crosS;rw [decide_eq_false h,Bool.false_and]
  have hd:=decide_eq_false h
  go_enter Try.func69,Try.ntmps69
  go_wp2_with fail
  refine wp_region_held_drew (S:=Sx w [(w.heap.size,0,.int .i64 s.a.x),(w.heap.size,1,.int .i64 s.a.y),(w.heap.size,2,.int .i64 s.b.x),(w.heap.size,3,.int .i64 s.b.y),(w.heap.size + 1,0,.int .i64 t.a.x),(w.heap.size + 1,1,.int .i64 t.a.y),(w.heap.size + 1,2,.int .i64 t.b.x),(w.heap.size + 1,3,.int .i64 t.b.y)]) (by kernel_rfl) ⟨by simp [cs_iff_cons,cs_nil],blw⟩ (fun hHeld=>?_)
  refine tkHx 0 5 ?_
  refine tkHx 1 6 ?_
  refine tkHx 2 7 ?_
  refine tkHx 3 8 ?_
  refine tkHx 4 9 ?_
  refine tkHx 5 10 ?_
  refine tkHx 8 13 ?_
  refine tkHx 9 14 ?_
  refine tkHx 10 15 ?_
  refine tkHx 11 16 ?_
  refine tkHx 12 17 ?_
  refine tkHx 13 18 ?_
  (refine ratHx 6 (fun K hK=>?_);go_simp)
  refine (g1.out _).mono ?_
  rintro e wn ⟨rfl,hbn⟩
  go_simp
  (refine hK.out _ _ (hHeld.step hbn) (fun hHeld=>?_);clear hK K;(try simp only [apS,apN,siA,scZ,scS]))
  (refine ratHx 7 (fun K hK=>?_);go_simp)
  refine (k1.out _).mono ?_
  rintro e wn ⟨rfl,hbn⟩
  go_simp
  (refine hK.out _ _ (hHeld.step hbn) (fun hHeld=>?_);clear hK K;(try simp only [apS,apN,siA,scZ,scS]))
  (refine ratHx 14 (fun K hK=>?_);go_simp)
  refine (g2.out _).mono ?_
  rintro e wn ⟨rfl,hbn⟩
  go_simp
  (refine hK.out _ _ (hHeld.step hbn) (fun hHeld=>?_);clear hK K;(try simp only [apS,apN,siA,scZ,scS]))
  (refine ratHx 15 (fun K hK=>?_);go_simp)
  refine (k2.out _).mono ?_
  rintro e wn ⟨rfl,hbn⟩
  go_simp
  (refine hK.out _ _ (hHeld.step hbn) (fun hHeld=>?_);clear hK K;(try simp only [apS,apN,siA,scZ,scS]))
  refine tkHx 16 21 ?_
  refine tkHx 17 22 ?_
  refine tkHx 18 23 ?_
  refine tkFx 19 24 ?_
  refine tkFx 20 25 ?_
  refine tkFx 21 26 ?_
  refine tkFx 22 27 ?_
  refine tkFx 23 28 ?_
  refine tkFx 24 29 ?_
  refine tkFx 25 30 ?_
  refine tkFx 26 31 ?_
  refine tkFx 27 32 ?_
  refine tkFx 28 33 ?_
  refine tkFx 29 34 ?_
  refine tkFx 30 35 ?_
  refine tkFx 31 36 ?_
  refine tkFx 32 37 ?_
  refine tkFx 33 38 ?_
  refine tkFx 34 39 ?_
  refine tkFx 35 40 ?_
  refine tkFx 36 41 ?_
  refine tkHx 37 42 ?_
  refine tkHx 38 4 ?_
  refine wpAnyH_done (by kernel_rfl) ?_ _
  go_wp2_with fail
  go_ret
  exact ⟨ret_bool hf.out.symm,hHeld.bel⟩
end Go.Proofs.Ytfcjeejhdklkdaa
namespace Go.Proofs.Ytfcjeejhdklkdaa
open Go Go.RowKit Go.Shelf
theorem onSg_split (s : Sd) (q : Pt) : Cal.onSg s q = (decide (Cal.crs s q = 0) && ((decide (min s.a.x s.b.x ≤ q.x) && decide (q.x ≤ max s.a.x s.b.x)) && (decide (min s.a.y s.b.y ≤ q.y) && decide (q.y ≤ max s.a.y s.b.y)))):=by
 unfold Cal.onSg
 rw [Bool.decide_and,Bool.decide_and]
theorem OnR_any (s : Sd) (q : Pt) (w : World) (hs : SmS s) (hq : SmP q) : Calls Try.prog 88 #[.agg #[.int .i64 s.a.x,.int .i64 s.a.y,.int .i64 s.b.x,.int .i64 s.b.y],.agg #[.int .i64 q.x,.int .i64 q.y]] w fun e w'=>e = .returned (.bool (Cal.hasP s q)) ∧ Below w.heap.size w w':=by
 rw [Cal.has_on,onSg_split]
 have hb:=Lib.hid (below_step (below_alloc w (.cells #[.int .i64 s.a.x,.int .i64 s.a.y,.int .i64 s.b.x,.int .i64 s.b.y] 97)) (below_alloc _ (.cells #[.int .i64 q.x,.int .i64 q.y] 75)))
 have hS:=Lib.hid ((BoxAt.new w #[.int .i64 s.a.x,.int .i64 s.a.y,.int .i64 s.b.x,.int .i64 s.b.y] 97).alloc (.cells #[.int .i64 q.x,.int .i64 q.y] 75))
 have hQ:=Lib.hid (BoxAt.new (w.alloc (.cells #[.int .i64 s.a.x,.int .i64 s.a.y,.int .i64 s.b.x,.int .i64 s.b.y] 97)) #[.int .i64 q.x,.int .i64 q.y] 75)
 have hc:=Lib.hid (fun W=>crossR_any s.a s.b q W hs.a hs.b hq)
 obtain ⟨bx,hbx⟩ : ∃ b,(decide (min s.a.x s.b.x ≤ q.x) && decide (q.x ≤ max s.a.x s.b.x)) = b:=⟨_,rfl⟩
 have h1:=Lib.hid (fun W=>by have:=Within_any q.x (min s.a.x s.b.x) (max s.a.x s.b.x) W;rw [hbx] at this;exact this)
 have h2:=Lib.hid (fun W=>Within_any q.y (min s.a.y s.b.y) (max s.a.y s.b.y) W)
 rw [hbx]
 replace hc : Hid (∀ W,Calls Try.prog 92 #[.agg #[.int .i64 s.a.x,.int .i64 s.a.y],.agg #[.int .i64 s.b.x,.int .i64 s.b.y],.agg #[.int .i64 q.x,.int .i64 q.y]] W fun e w'=>e = .returned (.int .i64 (Cal.crs s q)) ∧ Below W.heap.size W w'):=hc.out
 by_cases hz : Cal.crs s q = 0
 ·rw [hz] at hc ⊢
  cases bx
  ·go_enter Try.func88,Try.ntmps88
   go_wp2_with fail
   refine (hc.out _).mono ?_
   rintro e w1 ⟨rfl,hb1⟩
   have hS1:=hS.out.below hb1
   have hQ1:=hQ.out.below (by simpa using hb1)
   replace hb:=Lib.hid (below_step hb.out hb1)
   (have c0:=hS1.c 0 _ rfl;have c1:=hS1.c 1 _ rfl;have c2:=hS1.c 2 _ rfl;have c3:=hS1.c 3 _ rfl)
   (have d0:=hQ1.c 0 _ rfl;have d1:=hQ1.c 1 _ rfl)
   simp only [World.size_alloc] at d0 d1
   clear hS1 hQ1 hb1
   go_wp2_with fail
   refine (h1.out _).mono ?_
   rintro e _ ⟨rfl,rfl⟩
   go_wp2_with fail
   go_ret
   exact ⟨rfl,hb.out⟩
  ·go_enter Try.func88,Try.ntmps88
   go_wp2_with fail
   refine (hc.out _).mono ?_
   rintro e w1 ⟨rfl,hb1⟩
   have hS1:=hS.out.below hb1
   have hQ1:=hQ.out.below (by simpa using hb1)
   replace hb:=Lib.hid (below_step hb.out hb1)
   (have c0:=hS1.c 0 _ rfl;have c1:=hS1.c 1 _ rfl;have c2:=hS1.c 2 _ rfl;have c3:=hS1.c 3 _ rfl)
   (have d0:=hQ1.c 0 _ rfl;have d1:=hQ1.c 1 _ rfl)
   simp only [World.size_alloc] at d0 d1
   clear hS1 hQ1 hb1
   go_wp2_with fail
   refine (h1.out _).mono ?_
   rintro e _ ⟨rfl,rfl⟩
   go_wp2_with fail
   refine (h2.out _).mono ?_
   rintro e _ ⟨rfl,rfl⟩
   go_wp2_with fail
   go_ret
   exact ⟨rfl,hb.out⟩
 ·have hzd : decide (Cal.crs s q = 0) = false:=by simpa using hz
  rw [hzd]
  generalize Cal.crs s q = z at *
  clear hzd
  go_enter Try.func88,Try.ntmps88
  go_wp2_with fail
  refine (hc.out _).mono ?_
  rintro e w1 ⟨rfl,hb1⟩
  have hS1:=hS.out.below hb1
  have hQ1:=hQ.out.below (by simpa using hb1)
  replace hb:=Lib.hid (below_step hb.out hb1)
  (have c0:=hS1.c 0 _ rfl;have c1:=hS1.c 1 _ rfl;have c2:=hS1.c 2 _ rfl;have c3:=hS1.c 3 _ rfl)
  (have d0:=hQ1.c 0 _ rfl;have d1:=hQ1.c 1 _ rfl)
  simp only [World.size_alloc] at d0 d1
  clear hS1 hQ1 hb1
  go_wp2_with fail
  go_ret
  exact ⟨rfl,hb.out⟩
theorem touchR_any (s t : Sd) (w : World) (hs : SmS s) (ht : SmS t) (hx : ∀ W,Calls Try.prog 69 #[.agg #[.int .i64 s.a.x,.int .i64 s.a.y,.int .i64 s.b.x,.int .i64 s.b.y],.agg #[.int .i64 t.a.x,.int .i64 t.a.y,.int .i64 t.b.x,.int .i64 t.b.y]] W fun e w'=>e = .returned (.bool (Cal.crosS s t)) ∧ Below W.heap.size W w') : Calls Try.prog 89 #[.agg #[.int .i64 s.a.x,.int .i64 s.a.y,.int .i64 s.b.x,.int .i64 s.b.y],.agg #[.int .i64 t.a.x,.int .i64 t.a.y,.int .i64 t.b.x,.int .i64 t.b.y]] w fun e w'=>e = .returned (.bool (Cal.meetS s t)) ∧ Below w.heap.size w w':=by
 have hb:=Lib.hid (below_step (below_alloc w (.cells #[.int .i64 s.a.x,.int .i64 s.a.y,.int .i64 s.b.x,.int .i64 s.b.y] 97)) (below_alloc _ (.cells #[.int .i64 t.a.x,.int .i64 t.a.y,.int .i64 t.b.x,.int .i64 t.b.y] 97)))
 have hS:=Lib.hid ((BoxAt.new w #[.int .i64 s.a.x,.int .i64 s.a.y,.int .i64 s.b.x,.int .i64 s.b.y] 97).alloc (.cells #[.int .i64 t.a.x,.int .i64 t.a.y,.int .i64 t.b.x,.int .i64 t.b.y] 97))
 have hT:=Lib.hid (by have:=BoxAt.new (w.alloc (.cells #[.int .i64 s.a.x,.int .i64 s.a.y,.int .i64 s.b.x,.int .i64 s.b.y] 97)) #[.int .i64 t.a.x,.int .i64 t.a.y,.int .i64 t.b.x,.int .i64 t.b.y] 97;rw [World.size_alloc] at this;exact this)
 have hx:=Lib.hid hx
 have e1:=Lib.hid (fun W=>OnR_any s t.a W hs ht.a)
 have e2:=Lib.hid (fun W=>OnR_any s t.b W hs ht.b)
 have e3:=Lib.hid (fun W=>OnR_any t s.a W ht hs.a)
 have e4:=Lib.hid (fun W=>OnR_any t s.b W ht hs.b)
 unfold Cal.meetS
 generalize Cal.crosS s t = x0 at *
 generalize Cal.hasP s t.a = x1 at *
 generalize Cal.hasP s t.b = x2 at *
 generalize Cal.hasP t s.a = x3 at *
 generalize Cal.hasP t s.b = x4 at *
 cases x0
 ·cases x1
  ·cases x2
   ·cases x3
    ·go_enter Try.func89,Try.ntmps89
     go_wp2_with fail
     refine (hx.out _).mono ?_
     rintro e w1 ⟨rfl,hb1⟩
     replace hS:=Lib.hid (hS.out.below hb1)
     replace hT:=Lib.hid (hT.out.below hb1)
     replace hb:=Lib.hid (below_step hb.out hb1)
     clear hb1
     have c0:=hS.out.c 0 _ rfl
     have c1:=hS.out.c 1 _ rfl
     have c2:=hS.out.c 2 _ rfl
     have c3:=hS.out.c 3 _ rfl
     have d0:=hT.out.c 0 _ rfl
     have d1:=hT.out.c 1 _ rfl
     have d2:=hT.out.c 2 _ rfl
     have d3:=hT.out.c 3 _ rfl
     go_wp2_with fail
     refine (e1.out _).mono ?_
     rintro e w1 ⟨rfl,hb1⟩
     replace hS:=Lib.hid (hS.out.below hb1)
     replace hT:=Lib.hid (hT.out.below hb1)
     replace hb:=Lib.hid (below_step hb.out hb1)
     clear hb1
     have c0:=hS.out.c 0 _ rfl
     have c1:=hS.out.c 1 _ rfl
     have c2:=hS.out.c 2 _ rfl
     have c3:=hS.out.c 3 _ rfl
     have d0:=hT.out.c 0 _ rfl
     have d1:=hT.out.c 1 _ rfl
     have d2:=hT.out.c 2 _ rfl
     have d3:=hT.out.c 3 _ rfl
     go_wp2_with fail
     refine (e2.out _).mono ?_
     rintro e w1 ⟨rfl,hb1⟩
     replace hS:=Lib.hid (hS.out.below hb1)
     replace hT:=Lib.hid (hT.out.below hb1)
     replace hb:=Lib.hid (below_step hb.out hb1)
     clear hb1
     have c0:=hS.out.c 0 _ rfl
     have c1:=hS.out.c 1 _ rfl
     have c2:=hS.out.c 2 _ rfl
     have c3:=hS.out.c 3 _ rfl
     have d0:=hT.out.c 0 _ rfl
     have d1:=hT.out.c 1 _ rfl
     have d2:=hT.out.c 2 _ rfl
     have d3:=hT.out.c 3 _ rfl
     go_wp2_with fail
     refine (e3.out _).mono ?_
     rintro e w1 ⟨rfl,hb1⟩
     replace hS:=Lib.hid (hS.out.below hb1)
     replace hT:=Lib.hid (hT.out.below hb1)
     replace hb:=Lib.hid (below_step hb.out hb1)
     clear hb1
     have c0:=hS.out.c 0 _ rfl
     have c1:=hS.out.c 1 _ rfl
     have c2:=hS.out.c 2 _ rfl
     have c3:=hS.out.c 3 _ rfl
     have d0:=hT.out.c 0 _ rfl
     have d1:=hT.out.c 1 _ rfl
     have d2:=hT.out.c 2 _ rfl
     have d3:=hT.out.c 3 _ rfl
     go_wp2_with fail
     refine (e4.out _).mono ?_
     rintro e w1 ⟨rfl,hb1⟩
     replace hb:=Lib.hid (below_step hb.out hb1)
     go_wp2_with fail
     go_ret
     exact ⟨by simp,hb.out⟩
    ·go_enter Try.func89,Try.ntmps89
     go_wp2_with fail
     refine (hx.out _).mono ?_
     rintro e w1 ⟨rfl,hb1⟩
     replace hS:=Lib.hid (hS.out.below hb1)
     replace hT:=Lib.hid (hT.out.below hb1)
     replace hb:=Lib.hid (below_step hb.out hb1)
     clear hb1
     have c0:=hS.out.c 0 _ rfl
     have c1:=hS.out.c 1 _ rfl
     have c2:=hS.out.c 2 _ rfl
     have c3:=hS.out.c 3 _ rfl
     have d0:=hT.out.c 0 _ rfl
     have d1:=hT.out.c 1 _ rfl
     have d2:=hT.out.c 2 _ rfl
     have d3:=hT.out.c 3 _ rfl
     go_wp2_with fail
     refine (e1.out _).mono ?_
     rintro e w1 ⟨rfl,hb1⟩
     replace hS:=Lib.hid (hS.out.below hb1)
     replace hT:=Lib.hid (hT.out.below hb1)
     replace hb:=Lib.hid (below_step hb.out hb1)
     clear hb1
     have c0:=hS.out.c 0 _ rfl
     have c1:=hS.out.c 1 _ rfl
     have c2:=hS.out.c 2 _ rfl
     have c3:=hS.out.c 3 _ rfl
     have d0:=hT.out.c 0 _ rfl
     have d1:=hT.out.c 1 _ rfl
     have d2:=hT.out.c 2 _ rfl
     have d3:=hT.out.c 3 _ rfl
     go_wp2_with fail
     refine (e2.out _).mono ?_
     rintro e w1 ⟨rfl,hb1⟩
     replace hS:=Lib.hid (hS.out.below hb1)
     replace hT:=Lib.hid (hT.out.below hb1)
     replace hb:=Lib.hid (below_step hb.out hb1)
     clear hb1
     have c0:=hS.out.c 0 _ rfl
     have c1:=hS.out.c 1 _ rfl
     have c2:=hS.out.c 2 _ rfl
     have c3:=hS.out.c 3 _ rfl
     have d0:=hT.out.c 0 _ rfl
     have d1:=hT.out.c 1 _ rfl
     have d2:=hT.out.c 2 _ rfl
     have d3:=hT.out.c 3 _ rfl
     go_wp2_with fail
     refine (e3.out _).mono ?_
     rintro e w1 ⟨rfl,hb1⟩
     replace hS:=Lib.hid (hS.out.below hb1)
     replace hT:=Lib.hid (hT.out.below hb1)
     replace hb:=Lib.hid (below_step hb.out hb1)
     clear hb1
     have c0:=hS.out.c 0 _ rfl
     have c1:=hS.out.c 1 _ rfl
     have c2:=hS.out.c 2 _ rfl
     have c3:=hS.out.c 3 _ rfl
     have d0:=hT.out.c 0 _ rfl
     have d1:=hT.out.c 1 _ rfl
     have d2:=hT.out.c 2 _ rfl
     have d3:=hT.out.c 3 _ rfl
     go_wp2_with fail
     go_ret
     exact ⟨by simp,hb.out⟩
   ·go_enter Try.func89,Try.ntmps89
    go_wp2_with fail
    refine (hx.out _).mono ?_
    rintro e w1 ⟨rfl,hb1⟩
    replace hS:=Lib.hid (hS.out.below hb1)
    replace hT:=Lib.hid (hT.out.below hb1)
    replace hb:=Lib.hid (below_step hb.out hb1)
    clear hb1
    have c0:=hS.out.c 0 _ rfl
    have c1:=hS.out.c 1 _ rfl
    have c2:=hS.out.c 2 _ rfl
    have c3:=hS.out.c 3 _ rfl
    have d0:=hT.out.c 0 _ rfl
    have d1:=hT.out.c 1 _ rfl
    have d2:=hT.out.c 2 _ rfl
    have d3:=hT.out.c 3 _ rfl
    go_wp2_with fail
    refine (e1.out _).mono ?_
    rintro e w1 ⟨rfl,hb1⟩
    replace hS:=Lib.hid (hS.out.below hb1)
    replace hT:=Lib.hid (hT.out.below hb1)
    replace hb:=Lib.hid (below_step hb.out hb1)
    clear hb1
    have c0:=hS.out.c 0 _ rfl
    have c1:=hS.out.c 1 _ rfl
    have c2:=hS.out.c 2 _ rfl
    have c3:=hS.out.c 3 _ rfl
    have d0:=hT.out.c 0 _ rfl
    have d1:=hT.out.c 1 _ rfl
    have d2:=hT.out.c 2 _ rfl
    have d3:=hT.out.c 3 _ rfl
    go_wp2_with fail
    refine (e2.out _).mono ?_
    rintro e w1 ⟨rfl,hb1⟩
    replace hS:=Lib.hid (hS.out.below hb1)
    replace hT:=Lib.hid (hT.out.below hb1)
    replace hb:=Lib.hid (below_step hb.out hb1)
    clear hb1
    have c0:=hS.out.c 0 _ rfl
    have c1:=hS.out.c 1 _ rfl
    have c2:=hS.out.c 2 _ rfl
    have c3:=hS.out.c 3 _ rfl
    have d0:=hT.out.c 0 _ rfl
    have d1:=hT.out.c 1 _ rfl
    have d2:=hT.out.c 2 _ rfl
    have d3:=hT.out.c 3 _ rfl
    go_wp2_with fail
    go_ret
    exact ⟨by simp,hb.out⟩
  ·go_enter Try.func89,Try.ntmps89
   go_wp2_with fail
   refine (hx.out _).mono ?_
   rintro e w1 ⟨rfl,hb1⟩
   replace hS:=Lib.hid (hS.out.below hb1)
   replace hT:=Lib.hid (hT.out.below hb1)
   replace hb:=Lib.hid (below_step hb.out hb1)
   clear hb1
   have c0:=hS.out.c 0 _ rfl
   have c1:=hS.out.c 1 _ rfl
   have c2:=hS.out.c 2 _ rfl
   have c3:=hS.out.c 3 _ rfl
   have d0:=hT.out.c 0 _ rfl
   have d1:=hT.out.c 1 _ rfl
   have d2:=hT.out.c 2 _ rfl
   have d3:=hT.out.c 3 _ rfl
   go_wp2_with fail
   refine (e1.out _).mono ?_
   rintro e w1 ⟨rfl,hb1⟩
   replace hS:=Lib.hid (hS.out.below hb1)
   replace hT:=Lib.hid (hT.out.below hb1)
   replace hb:=Lib.hid (below_step hb.out hb1)
   clear hb1
   have c0:=hS.out.c 0 _ rfl
   have c1:=hS.out.c 1 _ rfl
   have c2:=hS.out.c 2 _ rfl
   have c3:=hS.out.c 3 _ rfl
   have d0:=hT.out.c 0 _ rfl
   have d1:=hT.out.c 1 _ rfl
   have d2:=hT.out.c 2 _ rfl
   have d3:=hT.out.c 3 _ rfl
   go_wp2_with fail
   go_ret
   exact ⟨by simp,hb.out⟩
 ·go_enter Try.func89,Try.ntmps89
  go_wp2_with fail
  refine (hx.out _).mono ?_
  rintro e w1 ⟨rfl,hb1⟩
  replace hS:=Lib.hid (hS.out.below hb1)
  replace hT:=Lib.hid (hT.out.below hb1)
  replace hb:=Lib.hid (below_step hb.out hb1)
  clear hb1
  have c0:=hS.out.c 0 _ rfl
  have c1:=hS.out.c 1 _ rfl
  have c2:=hS.out.c 2 _ rfl
  have c3:=hS.out.c 3 _ rfl
  have d0:=hT.out.c 0 _ rfl
  have d1:=hT.out.c 1 _ rfl
  have d2:=hT.out.c 2 _ rfl
  have d3:=hT.out.c 3 _ rfl
  go_wp2_with fail
  go_ret
  exact ⟨by simp,hb.out⟩
end Go.Proofs.Ytfcjeejhdklkdaa
namespace Go.Proofs.Ytfcjeejhdklkdaa
open Go Go.RowKit Go.Shelf
theorem DoubleR_any (V : Option Addr) (d : Nat) (ps : List Pt) (w : World) (hP : Pts w V ps) (hl : ps.length ≤ 40) : Calls Try.prog 35 #[.slice V ps.length d] w fun e w'=>e = .returned (.int .i64 (Cal.areaP ps)) ∧ Below w.heap.size w w':=by
 have hPR : Hid (PtsR w V ps):=⟨hP.rows,hP.size,hP.own⟩
 have hbox:=Lib.hid (fun k hk=>areaTo_box hP k hk)
 have hsm:=Lib.hid (fun k hk=>hP.sd k hk)
 have hb0 : Hid (Below w.heap.size w w):=Below.refl _ _
 have h00 : Hid (Cal.areaTo ps 0 = 0):=rfl
 unfold Cal.areaP
 clear hP
 go_enter Try.func35,Try.ntmps35
 go_wp2_with fail
 go_loopw [3,4] (fun n i wr=>∃ k : Nat,k ≤ ps.length ∧ i = .int .i64 k ∧ n = .int .i64 (Cal.areaTo ps k) ∧ Hid (Below w.heap.size w wr)) (fun _ i _=>ps.length - (intOf i).toNat)
 case atStart=>exact ⟨0,Nat.zero_le _,rfl,rfl,hb0⟩
 case round =>
  clear hb0
  obtain ⟨k,hk,rfl,rfl,hb⟩:=hrel
  by_cases hlt : k < ps.length
  ·have hs : SmS (Cal.sd ps k):=hsm.out k hlt
   have b1:=hbox.out k hk
   have b2:=hbox.out (k + 1) hlt
   have hst : Hid (Cal.areaTo ps (k + 1) = Cal.areaTo ps k + ((Cal.sd ps k).a.x * (Cal.sd ps k).b.y - (Cal.sd ps k).a.y * (Cal.sd ps k).b.x)):=rfl
   have hsd:=Lib.hid (fun W hW=>sideR_any V d ps k W (hPR.out.below hW) hlt (by omega))
   generalize Cal.areaTo ps k = acc at *
   generalize Cal.sd ps k = s at *
   have m1:=mul_le_of (a:=s.a.x) (b:=s.b.y) (M:=1000000) (N:=1000000) hs.a.x0 hs.a.x1 hs.b.y0 hs.b.y1
   have m2:=mul_le_of (a:=s.a.y) (b:=s.b.x) (M:=1000000) (N:=1000000) hs.a.y0 hs.a.y1 hs.b.x0 hs.b.x1
   have q1 : IntKind.i64.wrap (s.a.x * s.b.y) = s.a.x * s.b.y:=wrap_small (by omega) (by omega)
   have q2 : IntKind.i64.wrap (s.a.y * s.b.x) = s.a.y * s.b.x:=wrap_small (by omega) (by omega)
   have q3 : IntKind.i64.wrap (acc + s.a.x * s.b.y) = acc + s.a.x * s.b.y:=wrap_small (by omega) (by omega)
   have q4 : IntKind.i64.wrap (acc + s.a.x * s.b.y - s.a.y * s.b.x) = acc + s.a.x * s.b.y - s.a.y * s.b.x:=wrap_small (by omega) (by omega)
   have he : Hid (acc + s.a.x * s.b.y - s.a.y * s.b.x = Cal.areaTo ps (k + 1)):=by
    show _ = _
    rw [hst.out];omega
   clear m1 m2 b1 b2 hst hs
   go_wp2_with (go_at_call 67;refine (hsd.out _ hb.out).mono ?_;rintro e w1 ⟨rfl,hb1⟩;have hb2:=Lib.hid (below_step (below_step hb.out hb1) (below_alloc w1 (.cells #[.int .i64 s.a.x,.int .i64 s.a.y,.int .i64 s.b.x,.int .i64 s.b.y] 97)));clear hb1)
   go_roundw
   case rel=>exact ⟨k + 1,hlt,by go_num,by rw [he.out],hb2⟩
   case measure=>simp [intOf];omega
  ·have hke : k = ps.length:=by omega
   subst hke
   go_wp2_with fail
   go_ret
   exact ⟨rfl,hb.out⟩
end Go.Proofs.Ytfcjeejhdklkdaa
