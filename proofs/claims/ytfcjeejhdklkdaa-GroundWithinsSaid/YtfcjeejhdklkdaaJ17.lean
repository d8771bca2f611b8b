/- What the statements rest on: definitions and walks, part 17. -/
import Derived.Test.YtfcjeejhdklkdaaJ16
set_option maxRecDepth 100000
set_option maxHeartbeats 16000000
set_option linter.unusedSimpArgs false
set_option linter.unusedVariables false
namespace Go.Proofs.Ytfcjeejhdklkdaa
open Go Go.RowKit Go.Shelf
theorem onSg_split (s : Sd) (q : Pt) : Cal.onSg s q = (decide (Cal.crs s q = 0) && ((decide (min s.a.x s.b.x ≤ q.x) && decide (q.x ≤ max s.a.x s.b.x)) && (decide (min s.a.y s.b.y ≤ q.y) && decide (q.y ≤ max s.a.y s.b.y)))) := by
 unfold Cal.onSg
 rw [Bool.decide_and, Bool.decide_and]
theorem OnR_any (s : Sd) (q : Pt) (w : World) (hs : SmS s) (hq : SmP q) : Calls Try.prog 88 #[.agg #[.int .i64 s.a.x, .int .i64 s.a.y, .int .i64 s.b.x, .int .i64 s.b.y], .agg #[.int .i64 q.x, .int .i64 q.y]] w fun e w' => e = .returned (.bool (Cal.hasP s q)) ∧ Below w.heap.size w w' := by
 rw [Cal.has_on, onSg_split]
 have hb := Lib.hid (below_step (below_alloc w (.cells #[.int .i64 s.a.x, .int .i64 s.a.y, .int .i64 s.b.x, .int .i64 s.b.y] 97)) (below_alloc _ (.cells #[.int .i64 q.x, .int .i64 q.y] 75)))
 have hS := Lib.hid ((BoxAt.new w #[.int .i64 s.a.x, .int .i64 s.a.y, .int .i64 s.b.x, .int .i64 s.b.y] 97).alloc (.cells #[.int .i64 q.x, .int .i64 q.y] 75))
 have hQ := Lib.hid (BoxAt.new (w.alloc (.cells #[.int .i64 s.a.x, .int .i64 s.a.y, .int .i64 s.b.x, .int .i64 s.b.y] 97)) #[.int .i64 q.x, .int .i64 q.y] 75)
 have hc := Lib.hid (fun W => crossR_any s.a s.b q W hs.a hs.b hq)
 obtain ⟨bx, hbx⟩ : ∃ b, (decide (min s.a.x s.b.x ≤ q.x) && decide (q.x ≤ max s.a.x s.b.x)) = b := ⟨_, rfl⟩
 have h1 := Lib.hid (fun W => by have := Within_any q.x (min s.a.x s.b.x) (max s.a.x s.b.x) W; rw [hbx] at this; exact this)
 have h2 := Lib.hid (fun W => Within_any q.y (min s.a.y s.b.y) (max s.a.y s.b.y) W)
 rw [hbx]
 replace hc : Hid (∀ W, Calls Try.prog 92 #[.agg #[.int .i64 s.a.x, .int .i64 s.a.y], .agg #[.int .i64 s.b.x, .int .i64 s.b.y], .agg #[.int .i64 q.x, .int .i64 q.y]] W fun e w' => e = .returned (.int .i64 (Cal.crs s q)) ∧ Below W.heap.size W w') := hc.out
 by_cases hz : Cal.crs s q = 0
 ·rw [hz] at hc ⊢
  cases bx
  ·go_enter Try.func88, Try.ntmps88
   go_wp2_with fail
   refine (hc.out _).mono ?_
   rintro e w1 ⟨rfl, hb1⟩
   have hS1 := hS.out.below hb1
   have hQ1 := hQ.out.below (by simpa using hb1)
   replace hb := Lib.hid (below_step hb.out hb1)
   (have c0 := hS1.c 0 _ rfl; have c1 := hS1.c 1 _ rfl; have c2 := hS1.c 2 _ rfl; have c3 := hS1.c 3 _ rfl)
   (have d0 := hQ1.c 0 _ rfl; have d1 := hQ1.c 1 _ rfl)
   simp only [World.size_alloc] at d0 d1
   clear hS1 hQ1 hb1
   go_wp2_with fail
   refine (h1.out _).mono ?_
   rintro e _ ⟨rfl, rfl⟩
   go_wp2_with fail
   go_ret
   exact ⟨rfl, hb.out⟩
  ·go_enter Try.func88, Try.ntmps88
   go_wp2_with fail
   refine (hc.out _).mono ?_
   rintro e w1 ⟨rfl, hb1⟩
   have hS1 := hS.out.below hb1
   have hQ1 := hQ.out.below (by simpa using hb1)
   replace hb := Lib.hid (below_step hb.out hb1)
   (have c0 := hS1.c 0 _ rfl; have c1 := hS1.c 1 _ rfl; have c2 := hS1.c 2 _ rfl; have c3 := hS1.c 3 _ rfl)
   (have d0 := hQ1.c 0 _ rfl; have d1 := hQ1.c 1 _ rfl)
   simp only [World.size_alloc] at d0 d1
   clear hS1 hQ1 hb1
   go_wp2_with fail
   refine (h1.out _).mono ?_
   rintro e _ ⟨rfl, rfl⟩
   go_wp2_with fail
   refine (h2.out _).mono ?_
   rintro e _ ⟨rfl, rfl⟩
   go_wp2_with fail
   go_ret
   exact ⟨rfl, hb.out⟩
 ·have hzd : decide (Cal.crs s q = 0) = false := by simpa using hz
  rw [hzd]
  generalize Cal.crs s q = z at *
  clear hzd
  go_enter Try.func88, Try.ntmps88
  go_wp2_with fail
  refine (hc.out _).mono ?_
  rintro e w1 ⟨rfl, hb1⟩
  have hS1 := hS.out.below hb1
  have hQ1 := hQ.out.below (by simpa using hb1)
  replace hb := Lib.hid (below_step hb.out hb1)
  (have c0 := hS1.c 0 _ rfl; have c1 := hS1.c 1 _ rfl; have c2 := hS1.c 2 _ rfl; have c3 := hS1.c 3 _ rfl)
  (have d0 := hQ1.c 0 _ rfl; have d1 := hQ1.c 1 _ rfl)
  simp only [World.size_alloc] at d0 d1
  clear hS1 hQ1 hb1
  go_wp2_with fail
  go_ret
  exact ⟨rfl, hb.out⟩
theorem touchR_any (s t : Sd) (w : World) (hs : SmS s) (ht : SmS t) (hx : ∀ W, Calls Try.prog 69 #[.agg #[.int .i64 s.a.x, .int .i64 s.a.y, .int .i64 s.b.x, .int .i64 s.b.y], .agg #[.int .i64 t.a.x, .int .i64 t.a.y, .int .i64 t.b.x, .int .i64 t.b.y]] W fun e w' => e = .returned (.bool (Cal.crosS s t)) ∧ Below W.heap.size W w') : Calls Try.prog 89 #[.agg #[.int .i64 s.a.x, .int .i64 s.a.y, .int .i64 s.b.x, .int .i64 s.b.y], .agg #[.int .i64 t.a.x, .int .i64 t.a.y, .int .i64 t.b.x, .int .i64 t.b.y]] w fun e w' => e = .returned (.bool (Cal.meetS s t)) ∧ Below w.heap.size w w' := by
 have hb := Lib.hid (below_step (below_alloc w (.cells #[.int .i64 s.a.x, .int .i64 s.a.y, .int .i64 s.b.x, .int .i64 s.b.y] 97)) (below_alloc _ (.cells #[.int .i64 t.a.x, .int .i64 t.a.y, .int .i64 t.b.x, .int .i64 t.b.y] 97)))
 have hS := Lib.hid ((BoxAt.new w #[.int .i64 s.a.x, .int .i64 s.a.y, .int .i64 s.b.x, .int .i64 s.b.y] 97).alloc (.cells #[.int .i64 t.a.x, .int .i64 t.a.y, .int .i64 t.b.x, .int .i64 t.b.y] 97))
 have hT := Lib.hid (by have := BoxAt.new (w.alloc (.cells #[.int .i64 s.a.x, .int .i64 s.a.y, .int .i64 s.b.x, .int .i64 s.b.y] 97)) #[.int .i64 t.a.x, .int .i64 t.a.y, .int .i64 t.b.x, .int .i64 t.b.y] 97; rw [World.size_alloc] at this; exact this)
 have hx := Lib.hid hx
 have e1 := Lib.hid (fun W => OnR_any s t.a W hs ht.a)
 have e2 := Lib.hid (fun W => OnR_any s t.b W hs ht.b)
 have e3 := Lib.hid (fun W => OnR_any t s.a W ht hs.a)
 have e4 := Lib.hid (fun W => OnR_any t s.b W ht hs.b)
 unfold Cal.meetS
 generalize Cal.crosS s t = x0 at *
 generalize Cal.hasP s t.a = x1 at *
 generalize Cal.hasP s t.b = x2 at *
 generalize Cal.hasP t s.a = x3 at *
 generalize Cal.hasP t s.b = x4 at *
 cases x0
 ·cases x1
  ·cases x2
   ·cases x3
    ·go_enter Try.func89, Try.ntmps89
     go_wp2_with fail
     refine (hx.out _).mono ?_
     rintro e w1 ⟨rfl, hb1⟩
     replace hS := Lib.hid (hS.out.below hb1)
     replace hT := Lib.hid (hT.out.below hb1)
     replace hb := Lib.hid (below_step hb.out hb1)
     clear hb1
     have c0 := hS.out.c 0 _ rfl
     have c1 := hS.out.c 1 _ rfl
     have c2 := hS.out.c 2 _ rfl
     have c3 := hS.out.c 3 _ rfl
     have d0 := hT.out.c 0 _ rfl
     have d1 := hT.out.c 1 _ rfl
     have d2 := hT.out.c 2 _ rfl
     have d3 := hT.out.c 3 _ rfl
     go_wp2_with fail
     refine (e1.out _).mono ?_
     rintro e w1 ⟨rfl, hb1⟩
     replace hS := Lib.hid (hS.out.below hb1)
     replace hT := Lib.hid (hT.out.below hb1)
     replace hb := Lib.hid (below_step hb.out hb1)
     clear hb1
     have c0 := hS.out.c 0 _ rfl
     have c1 := hS.out.c 1 _ rfl
     have c2 := hS.out.c 2 _ rfl
     have c3 := hS.out.c 3 _ rfl
     have d0 := hT.out.c 0 _ rfl
     have d1 := hT.out.c 1 _ rfl
     have d2 := hT.out.c 2 _ rfl
     have d3 := hT.out.c 3 _ rfl
     go_wp2_with fail
     refine (e2.out _).mono ?_
     rintro e w1 ⟨rfl, hb1⟩
     replace hS := Lib.hid (hS.out.below hb1)
     replace hT := Lib.hid (hT.out.below hb1)
     replace hb := Lib.hid (below_step hb.out hb1)
     clear hb1
     have c0 := hS.out.c 0 _ rfl
     have c1 := hS.out.c 1 _ rfl
     have c2 := hS.out.c 2 _ rfl
     have c3 := hS.out.c 3 _ rfl
     have d0 := hT.out.c 0 _ rfl
     have d1 := hT.out.c 1 _ rfl
     have d2 := hT.out.c 2 _ rfl
     have d3 := hT.out.c 3 _ rfl
     go_wp2_with fail
     refine (e3.out _).mono ?_
     rintro e w1 ⟨rfl, hb1⟩
     replace hS := Lib.hid (hS.out.below hb1)
     replace hT := Lib.hid (hT.out.below hb1)
     replace hb := Lib.hid (below_step hb.out hb1)
     clear hb1
     have c0 := hS.out.c 0 _ rfl
     have c1 := hS.out.c 1 _ rfl
     have c2 := hS.out.c 2 _ rfl
     have c3 := hS.out.c 3 _ rfl
     have d0 := hT.out.c 0 _ rfl
     have d1 := hT.out.c 1 _ rfl
     have d2 := hT.out.c 2 _ rfl
     have d3 := hT.out.c 3 _ rfl
     go_wp2_with fail
     refine (e4.out _).mono ?_
     rintro e w1 ⟨rfl, hb1⟩
     replace hb := Lib.hid (below_step hb.out hb1)
     go_wp2_with fail
     go_ret
     exact ⟨by simp, hb.out⟩
    ·go_enter Try.func89, Try.ntmps89
     go_wp2_with fail
     refine (hx.out _).mono ?_
     rintro e w1 ⟨rfl, hb1⟩
     replace hS := Lib.hid (hS.out.below hb1)
     replace hT := Lib.hid (hT.out.below hb1)
     replace hb := Lib.hid (below_step hb.out hb1)
     clear hb1
     have c0 := hS.out.c 0 _ rfl
     have c1 := hS.out.c 1 _ rfl
     have c2 := hS.out.c 2 _ rfl
     have c3 := hS.out.c 3 _ rfl
     have d0 := hT.out.c 0 _ rfl
     have d1 := hT.out.c 1 _ rfl
     have d2 := hT.out.c 2 _ rfl
     have d3 := hT.out.c 3 _ rfl
     go_wp2_with fail
     refine (e1.out _).mono ?_
     rintro e w1 ⟨rfl, hb1⟩
     replace hS := Lib.hid (hS.out.below hb1)
     replace hT := Lib.hid (hT.out.below hb1)
     replace hb := Lib.hid (below_step hb.out hb1)
     clear hb1
     have c0 := hS.out.c 0 _ rfl
     have c1 := hS.out.c 1 _ rfl
     have c2 := hS.out.c 2 _ rfl
     have c3 := hS.out.c 3 _ rfl
     have d0 := hT.out.c 0 _ rfl
     have d1 := hT.out.c 1 _ rfl
     have d2 := hT.out.c 2 _ rfl
     have d3 := hT.out.c 3 _ rfl
     go_wp2_with fail
     refine (e2.out _).mono ?_
     rintro e w1 ⟨rfl, hb1⟩
     replace hS := Lib.hid (hS.out.below hb1)
     replace hT := Lib.hid (hT.out.below hb1)
     replace hb := Lib.hid (below_step hb.out hb1)
     clear hb1
     have c0 := hS.out.c 0 _ rfl
     have c1 := hS.out.c 1 _ rfl
     have c2 := hS.out.c 2 _ rfl
     have c3 := hS.out.c 3 _ rfl
     have d0 := hT.out.c 0 _ rfl
     have d1 := hT.out.c 1 _ rfl
     have d2 := hT.out.c 2 _ rfl
     have d3 := hT.out.c 3 _ rfl
     go_wp2_with fail
     refine (e3.out _).mono ?_
     rintro e w1 ⟨rfl, hb1⟩
     replace hS := Lib.hid (hS.out.below hb1)
     replace hT := Lib.hid (hT.out.below hb1)
     replace hb := Lib.hid (below_step hb.out hb1)
     clear hb1
     have c0 := hS.out.c 0 _ rfl
     have c1 := hS.out.c 1 _ rfl
     have c2 := hS.out.c 2 _ rfl
     have c3 := hS.out.c 3 _ rfl
     have d0 := hT.out.c 0 _ rfl
     have d1 := hT.out.c 1 _ rfl
     have d2 := hT.out.c 2 _ rfl
     have d3 := hT.out.c 3 _ rfl
     go_wp2_with fail
     go_ret
     exact ⟨by simp, hb.out⟩
   ·go_enter Try.func89, Try.ntmps89
    go_wp2_with fail
    refine (hx.out _).mono ?_
    rintro e w1 ⟨rfl, hb1⟩
    replace hS := Lib.hid (hS.out.below hb1)
    replace hT := Lib.hid (hT.out.below hb1)
    replace hb := Lib.hid (below_step hb.out hb1)
    clear hb1
    have c0 := hS.out.c 0 _ rfl
    have c1 := hS.out.c 1 _ rfl
    have c2 := hS.out.c 2 _ rfl
    have c3 := hS.out.c 3 _ rfl
    have d0 := hT.out.c 0 _ rfl
    have d1 := hT.out.c 1 _ rfl
    have d2 := hT.out.c 2 _ rfl
    have d3 := hT.out.c 3 _ rfl
    go_wp2_with fail
    refine (e1.out _).mono ?_
    rintro e w1 ⟨rfl, hb1⟩
    replace hS := Lib.hid (hS.out.below hb1)
    replace hT := Lib.hid (hT.out.below hb1)
    replace hb := Lib.hid (below_step hb.out hb1)
    clear hb1
    have c0 := hS.out.c 0 _ rfl
    have c1 := hS.out.c 1 _ rfl
    have c2 := hS.out.c 2 _ rfl
    have c3 := hS.out.c 3 _ rfl
    have d0 := hT.out.c 0 _ rfl
    have d1 := hT.out.c 1 _ rfl
    have d2 := hT.out.c 2 _ rfl
    have d3 := hT.out.c 3 _ rfl
    go_wp2_with fail
    refine (e2.out _).mono ?_
    rintro e w1 ⟨rfl, hb1⟩
    replace hS := Lib.hid (hS.out.below hb1)
    replace hT := Lib.hid (hT.out.below hb1)
    replace hb := Lib.hid (below_step hb.out hb1)
    clear hb1
    have c0 := hS.out.c 0 _ rfl
    have c1 := hS.out.c 1 _ rfl
    have c2 := hS.out.c 2 _ rfl
    have c3 := hS.out.c 3 _ rfl
    have d0 := hT.out.c 0 _ rfl
    have d1 := hT.out.c 1 _ rfl
    have d2 := hT.out.c 2 _ rfl
    have d3 := hT.out.c 3 _ rfl
    go_wp2_with fail
    go_ret
    exact ⟨by simp, hb.out⟩
  ·go_enter Try.func89, Try.ntmps89
   go_wp2_with fail
   refine (hx.out _).mono ?_
   rintro e w1 ⟨rfl, hb1⟩
   replace hS := Lib.hid (hS.out.below hb1)
   replace hT := Lib.hid (hT.out.below hb1)
   replace hb := Lib.hid (below_step hb.out hb1)
   clear hb1
   have c0 := hS.out.c 0 _ rfl
   have c1 := hS.out.c 1 _ rfl
   have c2 := hS.out.c 2 _ rfl
   have c3 := hS.out.c 3 _ rfl
   have d0 := hT.out.c 0 _ rfl
   have d1 := hT.out.c 1 _ rfl
   have d2 := hT.out.c 2 _ rfl
   have d3 := hT.out.c 3 _ rfl
   go_wp2_with fail
   refine (e1.out _).mono ?_
   rintro e w1 ⟨rfl, hb1⟩
   replace hS := Lib.hid (hS.out.below hb1)
   replace hT := Lib.hid (hT.out.below hb1)
   replace hb := Lib.hid (below_step hb.out hb1)
   clear hb1
   have c0 := hS.out.c 0 _ rfl
   have c1 := hS.out.c 1 _ rfl
   have c2 := hS.out.c 2 _ rfl
   have c3 := hS.out.c 3 _ rfl
   have d0 := hT.out.c 0 _ rfl
   have d1 := hT.out.c 1 _ rfl
   have d2 := hT.out.c 2 _ rfl
   have d3 := hT.out.c 3 _ rfl
   go_wp2_with fail
   go_ret
   exact ⟨by simp, hb.out⟩
 ·go_enter Try.func89, Try.ntmps89
  go_wp2_with fail
  refine (hx.out _).mono ?_
  rintro e w1 ⟨rfl, hb1⟩
  replace hS := Lib.hid (hS.out.below hb1)
  replace hT := Lib.hid (hT.out.below hb1)
  replace hb := Lib.hid (below_step hb.out hb1)
  clear hb1
  have c0 := hS.out.c 0 _ rfl
  have c1 := hS.out.c 1 _ rfl
  have c2 := hS.out.c 2 _ rfl
  have c3 := hS.out.c 3 _ rfl
  have d0 := hT.out.c 0 _ rfl
  have d1 := hT.out.c 1 _ rfl
  have d2 := hT.out.c 2 _ rfl
  have d3 := hT.out.c 3 _ rfl
  go_wp2_with fail
  go_ret
  exact ⟨by simp, hb.out⟩
end Go.Proofs.Ytfcjeejhdklkdaa
namespace Go.Proofs.Ytfcjeejhdklkdaa
open Go Go.RowKit Go.Shelf
theorem sdsR_drop {ps : List Pt} {k : Nat} (h : k < ps.length) : (Cal.sds ps).drop k = Cal.sd ps k :: (Cal.sds ps).drop (k + 1) := by
 have hk : k < (Cal.sds ps).length := by unfold Cal.sds; simpa using h
 rw [List.drop_eq_getElem_cons hk]
 congr 1
 simp [Cal.sds]
def sgnB (b : Bool) : Int := if b then 1 else -1
theorem trn_pos (s : Sd) (q : Pt) : decide (0 < Cal.trn s q) = decide (0 < Cal.crs s q) := by
 rw [decide_eq_decide]
 unfold Cal.trn Cal.cmpI
 split
 ·omega
 ·split <;> omega
theorem whereFrom_step (q : Pt) (b : Bool) (s : Sd) (r : List Sd) (hon : Cal.hasP s q = false) :
  Cal.whereFrom q b (s :: r) = Cal.whereFrom q (if (decide (s.a.y ≤ q.y) != decide (s.b.y ≤ q.y)) && (decide (0 < Cal.crs s q) == decide (s.a.y < s.b.y)) then !b else b) r := by
 rw [Cal.whereFrom, hon, trn_pos]
 have e1 : decide (q.y < s.a.y) = !decide (s.a.y ≤ q.y) := by rw [← decide_not, decide_eq_decide]; omega
 have e2 : decide (q.y < s.b.y) = !decide (s.b.y ≤ q.y) := by rw [← decide_not, decide_eq_decide]; omega
 rw [e1, e2]
 generalize decide (s.a.y ≤ q.y) = x
 generalize decide (s.b.y ≤ q.y) = y
 cases x <;> cases y <;> rfl
theorem WhereR_any (V : Option Addr) (d : Nat) (ps : List Pt) (q : Pt) (w : World) (hP : Pts w V ps) (hq : SmP q) (hl : ps.length ≤ 100000) : Calls Try.prog 70 #[.slice V ps.length d, .agg #[.int .i64 q.x, .int .i64 q.y]] w fun e w' => e = .returned (.int .i64 (Cal.whereP ps q)) ∧ Below w.heap.size w w' := by
 have hPR : Hid (PtsR w V ps) := ⟨hP.rows, hP.size, hP.own⟩
 have hsm := Lib.hid (fun k hk => hP.sd k hk)
 have hb0 := Lib.hid (below_alloc w (.cells #[.int .i64 q.x, .int .i64 q.y] 75))
 have hQ0 := Lib.hid (BoxAt.new w #[.int .i64 q.x, .int .i64 q.y] 75)
 have h00 : Hid (Cal.whereP ps q = Cal.whereFrom q false ((Cal.sds ps).drop 0)) := rfl
 generalize Cal.whereP ps q = z at *
 clear hP
 go_enter Try.func70, Try.ntmps70
 go_wp2_with fail
 go_loopw [5, 6] (fun n i wr => ∃ (k : Nat) (b : Bool), k ≤ ps.length ∧ i = .int .i64 k ∧ n = .int .i64 (sgnB b) ∧ Hid (z = Cal.whereFrom q b ((Cal.sds ps).drop k)) ∧ Hid (BoxAt wr w.heap.size [.int .i64 q.x, .int .i64 q.y]) ∧ Hid (Below w.heap.size w wr)) (fun _ i _ => ps.length - (intOf i).toNat)
 case atStart => exact ⟨0, false, Nat.zero_le _, rfl, rfl, h00, hQ0, hb0⟩
 case round =>
  clear hb0 hQ0 h00
  obtain ⟨k, b, hk, rfl, rfl, hz, hQ, hb⟩ := hrel
  by_cases hlt : k < ps.length
  ·have hs : SmS (Cal.sd ps k) := hsm.out k hlt
   have hsd := Lib.hid (fun W hW => sideR_any V d ps k W (hPR.out.below hW) hlt hl)
   have hz2 : z = Cal.whereFrom q b (Cal.sd ps k :: (Cal.sds ps).drop (k + 1)) := by rw [← sdsR_drop hlt]; exact hz.out
   clear hz
   generalize Cal.sd ps k = s at *
   have hon := Lib.hid (fun W => OnR_any s q W hs hq)
   have hcr : Hid (∀ W, Calls Try.prog 92 #[.agg #[.int .i64 s.a.x, .int .i64 s.a.y], .agg #[.int .i64 s.b.x, .int .i64 s.b.y], .agg #[.int .i64 q.x, .int .i64 q.y]] W fun e w' => e = .returned (.int .i64 (Cal.crs s q)) ∧ Below W.heap.size W w') := fun W => crossR_any s.a s.b q W hs.a hs.b hq
   cases hh : Cal.hasP s q
   ·rw [whereFrom_step q b s _ hh] at hz2
    have hz := Lib.hid hz2
    rw [hh] at hon
    clear hz2 hh hs
    have hneg : IntKind.i64.wrap (-(sgnB b)) = sgnB (!b) := by cases b <;> rfl
    by_cases h1 : s.a.y ≤ q.y
    ·by_cases h2 : s.b.y ≤ q.y
     ·have hz2 : Hid (z = Cal.whereFrom q b ((Cal.sds ps).drop (k + 1))) := by
       show _ = _
       have := hz.out
       rw [decide_eq_true h1, decide_eq_true h2] at this
       exact this
      clear hz
      have f0 := decide_eq_true h1
      have f1 := decide_eq_true h2
      go_wp2_with (first
       |(go_at_call 67; refine (hsd.out _ hb.out).mono ?_; rintro e w1 ⟨rfl, hb1⟩; have hQ1 := Lib.hid ((hQ.out.below hb1).below (below_alloc w1 (.cells #[.int .i64 s.a.x, .int .i64 s.a.y, .int .i64 s.b.x, .int .i64 s.b.y] 97))); have hbb1 := Lib.hid (below_step (below_step hb.out hb1) (below_alloc w1 (.cells #[.int .i64 s.a.x, .int .i64 s.a.y, .int .i64 s.b.x, .int .i64 s.b.y] 97))); have hB1 := Lib.hid (BoxAt.new w1 #[.int .i64 s.a.x, .int .i64 s.a.y, .int .i64 s.b.x, .int .i64 s.b.y] 97); have d0 := hQ1.out.c 0 _ rfl; have d1 := hQ1.out.c 1 _ rfl; clear hb1)
       |(go_at_call 88; refine (hon.out _).mono ?_; rintro e w2 ⟨rfl, hb2⟩; have hQ2 := Lib.hid (hQ1.out.below hb2); have hbb2 := Lib.hid (below_step hbb1.out hb2); have hB2 := Lib.hid (hB1.out.below hb2); clear hb2 d0 d1; have d0 := hQ2.out.c 0 _ rfl; have d1 := hQ2.out.c 1 _ rfl; have c0 := hB2.out.c 0 _ rfl; have c1 := hB2.out.c 1 _ rfl; have c2 := hB2.out.c 2 _ rfl; have c3 := hB2.out.c 3 _ rfl)
       |(go_at_call 92; refine (hcr.out _).mono ?_; rintro e w3 ⟨rfl, hb3⟩; have hQ3 := Lib.hid (hQ2.out.below hb3); have hbb3 := Lib.hid (below_step hbb2.out hb3); have hB3 := Lib.hid (hB2.out.below hb3); clear hb3 d0 d1 c0 c1 c2 c3; have d0 := hQ3.out.c 0 _ rfl; have d1 := hQ3.out.c 1 _ rfl; have c0 := hB3.out.c 0 _ rfl; have c1 := hB3.out.c 1 _ rfl; have c2 := hB3.out.c 2 _ rfl; have c3 := hB3.out.c 3 _ rfl))
      go_roundw
      case rel => exact ⟨k + 1, b, hlt, by go_num, rfl, hz2, hQ2, hbb2⟩
      case measure => simp [intOf]; omega
     ·have h4 : s.a.y < s.b.y := by omega
      by_cases h3 : 0 < Cal.crs s q
      ·have hz2 : Hid (z = Cal.whereFrom q (!b) ((Cal.sds ps).drop (k + 1))) := by
        show _ = _
        have := hz.out
        rw [decide_eq_true h1, decide_eq_false h2, decide_eq_true h3, decide_eq_true h4] at this
        exact this
       clear hz
       have f0 := decide_eq_true h1
       have f1 := decide_eq_false h2
       have f2 := decide_eq_true h3
       have f3 := decide_eq_true h4
       go_wp2_with (first
        |(go_at_call 67; refine (hsd.out _ hb.out).mono ?_; rintro e w1 ⟨rfl, hb1⟩; have hQ1 := Lib.hid ((hQ.out.below hb1).below (below_alloc w1 (.cells #[.int .i64 s.a.x, .int .i64 s.a.y, .int .i64 s.b.x, .int .i64 s.b.y] 97))); have hbb1 := Lib.hid (below_step (below_step hb.out hb1) (below_alloc w1 (.cells #[.int .i64 s.a.x, .int .i64 s.a.y, .int .i64 s.b.x, .int .i64 s.b.y] 97))); have hB1 := Lib.hid (BoxAt.new w1 #[.int .i64 s.a.x, .int .i64 s.a.y, .int .i64 s.b.x, .int .i64 s.b.y] 97); have d0 := hQ1.out.c 0 _ rfl; have d1 := hQ1.out.c 1 _ rfl; clear hb1)
        |(go_at_call 88; refine (hon.out _).mono ?_; rintro e w2 ⟨rfl, hb2⟩; have hQ2 := Lib.hid (hQ1.out.below hb2); have hbb2 := Lib.hid (below_step hbb1.out hb2); have hB2 := Lib.hid (hB1.out.below hb2); clear hb2 d0 d1; have d0 := hQ2.out.c 0 _ rfl; have d1 := hQ2.out.c 1 _ rfl; have c0 := hB2.out.c 0 _ rfl; have c1 := hB2.out.c 1 _ rfl; have c2 := hB2.out.c 2 _ rfl; have c3 := hB2.out.c 3 _ rfl)
        |(go_at_call 92; refine (hcr.out _).mono ?_; rintro e w3 ⟨rfl, hb3⟩; have hQ3 := Lib.hid (hQ2.out.below hb3); have hbb3 := Lib.hid (below_step hbb2.out hb3); have hB3 := Lib.hid (hB2.out.below hb3); clear hb3 d0 d1 c0 c1 c2 c3; have d0 := hQ3.out.c 0 _ rfl; have d1 := hQ3.out.c 1 _ rfl; have c0 := hB3.out.c 0 _ rfl; have c1 := hB3.out.c 1 _ rfl; have c2 := hB3.out.c 2 _ rfl; have c3 := hB3.out.c 3 _ rfl))
       go_roundw
       case rel => exact ⟨k + 1, !b, hlt, by go_num, rfl, hz2, hQ3, hbb3⟩
       case measure => simp [intOf]; omega
      ·have hz2 : Hid (z = Cal.whereFrom q b ((Cal.sds ps).drop (k + 1))) := by
        show _ = _
        have := hz.out
        rw [decide_eq_true h1, decide_eq_false h2, decide_eq_false h3, decide_eq_true h4] at this
        exact this
       clear hz
       have f0 := decide_eq_true h1
       have f1 := decide_eq_false h2
       have f2 := decide_eq_false h3
       have f3 := decide_eq_true h4
       go_wp2_with (first
        |(go_at_call 67; refine (hsd.out _ hb.out).mono ?_; rintro e w1 ⟨rfl, hb1⟩; have hQ1 := Lib.hid ((hQ.out.below hb1).below (below_alloc w1 (.cells #[.int .i64 s.a.x, .int .i64 s.a.y, .int .i64 s.b.x, .int .i64 s.b.y] 97))); have hbb1 := Lib.hid (below_step (below_step hb.out hb1) (below_alloc w1 (.cells #[.int .i64 s.a.x, .int .i64 s.a.y, .int .i64 s.b.x, .int .i64 s.b.y] 97))); have hB1 := Lib.hid (BoxAt.new w1 #[.int .i64 s.a.x, .int .i64 s.a.y, .int .i64 s.b.x, .int .i64 s.b.y] 97); have d0 := hQ1.out.c 0 _ rfl; have d1 := hQ1.out.c 1 _ rfl; clear hb1)
        |(go_at_call 88; refine (hon.out _).mono ?_; rintro e w2 ⟨rfl, hb2⟩; have hQ2 := Lib.hid (hQ1.out.below hb2); have hbb2 := Lib.hid (below_step hbb1.out hb2); have hB2 := Lib.hid (hB1.out.below hb2); clear hb2 d0 d1; have d0 := hQ2.out.c 0 _ rfl; have d1 := hQ2.out.c 1 _ rfl; have c0 := hB2.out.c 0 _ rfl; have c1 := hB2.out.c 1 _ rfl; have c2 := hB2.out.c 2 _ rfl; have c3 := hB2.out.c 3 _ rfl)
        |(go_at_call 92; refine (hcr.out _).mono ?_; rintro e w3 ⟨rfl, hb3⟩; have hQ3 := Lib.hid (hQ2.out.below hb3); have hbb3 := Lib.hid (below_step hbb2.out hb3); have hB3 := Lib.hid (hB2.out.below hb3); clear hb3 d0 d1 c0 c1 c2 c3; have d0 := hQ3.out.c 0 _ rfl; have d1 := hQ3.out.c 1 _ rfl; have c0 := hB3.out.c 0 _ rfl; have c1 := hB3.out.c 1 _ rfl; have c2 := hB3.out.c 2 _ rfl; have c3 := hB3.out.c 3 _ rfl))
       go_roundw
       case rel => exact ⟨k + 1, b, hlt, by go_num, rfl, hz2, hQ3, hbb3⟩
       case measure => simp [intOf]; omega
    ·by_cases h2 : s.b.y ≤ q.y
     ·have h4 : ¬ s.a.y < s.b.y := by omega
      by_cases h3 : 0 < Cal.crs s q
      ·have hz2 : Hid (z = Cal.whereFrom q b ((Cal.sds ps).drop (k + 1))) := by
        show _ = _
        have := hz.out
        rw [decide_eq_false h1, decide_eq_true h2, decide_eq_true h3, decide_eq_false h4] at this
        exact this
       clear hz
       have f0 := decide_eq_false h1
       have f1 := decide_eq_true h2
       have f2 := decide_eq_true h3
       have f3 := decide_eq_false h4
       go_wp2_with (first
        |(go_at_call 67; refine (hsd.out _ hb.out).mono ?_; rintro e w1 ⟨rfl, hb1⟩; have hQ1 := Lib.hid ((hQ.out.below hb1).below (below_alloc w1 (.cells #[.int .i64 s.a.x, .int .i64 s.a.y, .int .i64 s.b.x, .int .i64 s.b.y] 97))); have hbb1 := Lib.hid (below_step (below_step hb.out hb1) (below_alloc w1 (.cells #[.int .i64 s.a.x, .int .i64 s.a.y, .int .i64 s.b.x, .int .i64 s.b.y] 97))); have hB1 := Lib.hid (BoxAt.new w1 #[.int .i64 s.a.x, .int .i64 s.a.y, .int .i64 s.b.x, .int .i64 s.b.y] 97); have d0 := hQ1.out.c 0 _ rfl; have d1 := hQ1.out.c 1 _ rfl; clear hb1)
        |(go_at_call 88; refine (hon.out _).mono ?_; rintro e w2 ⟨rfl, hb2⟩; have hQ2 := Lib.hid (hQ1.out.below hb2); have hbb2 := Lib.hid (below_step hbb1.out hb2); have hB2 := Lib.hid (hB1.out.below hb2); clear hb2 d0 d1; have d0 := hQ2.out.c 0 _ rfl; have d1 := hQ2.out.c 1 _ rfl; have c0 := hB2.out.c 0 _ rfl; have c1 := hB2.out.c 1 _ rfl; have c2 := hB2.out.c 2 _ rfl; have c3 := hB2.out.c 3 _ rfl)
        |(go_at_call 92; refine (hcr.out _).mono ?_; rintro e w3 ⟨rfl, hb3⟩; have hQ3 := Lib.hid (hQ2.out.below hb3); have hbb3 := Lib.hid (below_step hbb2.out hb3); have hB3 := Lib.hid (hB2.out.below hb3); clear hb3 d0 d1 c0 c1 c2 c3; have d0 := hQ3.out.c 0 _ rfl; have d1 := hQ3.out.c 1 _ rfl; have c0 := hB3.out.c 0 _ rfl; have c1 := hB3.out.c 1 _ rfl; have c2 := hB3.out.c 2 _ rfl; have c3 := hB3.out.c 3 _ rfl))
       go_roundw
       case rel => exact ⟨k + 1, b, hlt, by go_num, rfl, hz2, hQ3, hbb3⟩
       case measure => simp [intOf]; omega
      ·have hz2 : Hid (z = Cal.whereFrom q (!b) ((Cal.sds ps).drop (k + 1))) := by
        show _ = _
        have := hz.out
        rw [decide_eq_false h1, decide_eq_true h2, decide_eq_false h3, decide_eq_false h4] at this
        exact this
       clear hz
       have f0 := decide_eq_false h1
       have f1 := decide_eq_true h2
       have f2 := decide_eq_false h3
       have f3 := decide_eq_false h4
       go_wp2_with (first
        |(go_at_call 67; refine (hsd.out _ hb.out).mono ?_; rintro e w1 ⟨rfl, hb1⟩; have hQ1 := Lib.hid ((hQ.out.below hb1).below (below_alloc w1 (.cells #[.int .i64 s.a.x, .int .i64 s.a.y, .int .i64 s.b.x, .int .i64 s.b.y] 97))); have hbb1 := Lib.hid (below_step (below_step hb.out hb1) (below_alloc w1 (.cells #[.int .i64 s.a.x, .int .i64 s.a.y, .int .i64 s.b.x, .int .i64 s.b.y] 97))); have hB1 := Lib.hid (BoxAt.new w1 #[.int .i64 s.a.x, .int .i64 s.a.y, .int .i64 s.b.x, .int .i64 s.b.y] 97); have d0 := hQ1.out.c 0 _ rfl; have d1 := hQ1.out.c 1 _ rfl; clear hb1)
        |(go_at_call 88; refine (hon.out _).mono ?_; rintro e w2 ⟨rfl, hb2⟩; have hQ2 := Lib.hid (hQ1.out.below hb2); have hbb2 := Lib.hid (below_step hbb1.out hb2); have hB2 := Lib.hid (hB1.out.below hb2); clear hb2 d0 d1; have d0 := hQ2.out.c 0 _ rfl; have d1 := hQ2.out.c 1 _ rfl; have c0 := hB2.out.c 0 _ rfl; have c1 := hB2.out.c 1 _ rfl; have c2 := hB2.out.c 2 _ rfl; have c3 := hB2.out.c 3 _ rfl)
        |(go_at_call 92; refine (hcr.out _).mono ?_; rintro e w3 ⟨rfl, hb3⟩; have hQ3 := Lib.hid (hQ2.out.below hb3); have hbb3 := Lib.hid (below_step hbb2.out hb3); have hB3 := Lib.hid (hB2.out.below hb3); clear hb3 d0 d1 c0 c1 c2 c3; have d0 := hQ3.out.c 0 _ rfl; have d1 := hQ3.out.c 1 _ rfl; have c0 := hB3.out.c 0 _ rfl; have c1 := hB3.out.c 1 _ rfl; have c2 := hB3.out.c 2 _ rfl; have c3 := hB3.out.c 3 _ rfl))
       go_roundw
       case rel => exact ⟨k + 1, !b, hlt, by go_num, rfl, hz2, hQ3, hbb3⟩
       case measure => simp [intOf]; omega
     ·have hz2 : Hid (z = Cal.whereFrom q b ((Cal.sds ps).drop (k + 1))) := by
       show _ = _
       have := hz.out
       rw [decide_eq_false h1, decide_eq_false h2] at this
       exact this
      clear hz
      have f0 := decide_eq_false h1
      have f1 := decide_eq_false h2
      go_wp2_with (first
       |(go_at_call 67; refine (hsd.out _ hb.out).mono ?_; rintro e w1 ⟨rfl, hb1⟩; have hQ1 := Lib.hid ((hQ.out.below hb1).below (below_alloc w1 (.cells #[.int .i64 s.a.x, .int .i64 s.a.y, .int .i64 s.b.x, .int .i64 s.b.y] 97))); have hbb1 := Lib.hid (below_step (below_step hb.out hb1) (below_alloc w1 (.cells #[.int .i64 s.a.x, .int .i64 s.a.y, .int .i64 s.b.x, .int .i64 s.b.y] 97))); have hB1 := Lib.hid (BoxAt.new w1 #[.int .i64 s.a.x, .int .i64 s.a.y, .int .i64 s.b.x, .int .i64 s.b.y] 97); have d0 := hQ1.out.c 0 _ rfl; have d1 := hQ1.out.c 1 _ rfl; clear hb1)
       |(go_at_call 88; refine (hon.out _).mono ?_; rintro e w2 ⟨rfl, hb2⟩; have hQ2 := Lib.hid (hQ1.out.below hb2); have hbb2 := Lib.hid (below_step hbb1.out hb2); have hB2 := Lib.hid (hB1.out.below hb2); clear hb2 d0 d1; have d0 := hQ2.out.c 0 _ rfl; have d1 := hQ2.out.c 1 _ rfl; have c0 := hB2.out.c 0 _ rfl; have c1 := hB2.out.c 1 _ rfl; have c2 := hB2.out.c 2 _ rfl; have c3 := hB2.out.c 3 _ rfl)
       |(go_at_call 92; refine (hcr.out _).mono ?_; rintro e w3 ⟨rfl, hb3⟩; have hQ3 := Lib.hid (hQ2.out.below hb3); have hbb3 := Lib.hid (below_step hbb2.out hb3); have hB3 := Lib.hid (hB2.out.below hb3); clear hb3 d0 d1 c0 c1 c2 c3; have d0 := hQ3.out.c 0 _ rfl; have d1 := hQ3.out.c 1 _ rfl; have c0 := hB3.out.c 0 _ rfl; have c1 := hB3.out.c 1 _ rfl; have c2 := hB3.out.c 2 _ rfl; have c3 := hB3.out.c 3 _ rfl))
      go_roundw
      case rel => exact ⟨k + 1, b, hlt, by go_num, rfl, hz2, hQ2, hbb2⟩
      case measure => simp [intOf]; omega
   ·have hz3 : Hid (z = 0) := by show _ = _; rw [hz2, Cal.whereFrom, hh]; rfl
    rw [hh] at hon
    clear hz2 hh hs
    go_wp2_with (first
     |(go_at_call 67; refine (hsd.out _ hb.out).mono ?_; rintro e w1 ⟨rfl, hb1⟩; have hQ1 := Lib.hid ((hQ.out.below hb1).below (below_alloc w1 (.cells #[.int .i64 s.a.x, .int .i64 s.a.y, .int .i64 s.b.x, .int .i64 s.b.y] 97))); have hbb1 := Lib.hid (below_step (below_step hb.out hb1) (below_alloc w1 (.cells #[.int .i64 s.a.x, .int .i64 s.a.y, .int .i64 s.b.x, .int .i64 s.b.y] 97))); have hB1 := Lib.hid (BoxAt.new w1 #[.int .i64 s.a.x, .int .i64 s.a.y, .int .i64 s.b.x, .int .i64 s.b.y] 97); have d0 := hQ1.out.c 0 _ rfl; have d1 := hQ1.out.c 1 _ rfl; clear hb1)
     |(go_at_call 88; refine (hon.out _).mono ?_; rintro e w2 ⟨rfl, hb2⟩; have hQ2 := Lib.hid (hQ1.out.below hb2); have hbb2 := Lib.hid (below_step hbb1.out hb2); have hB2 := Lib.hid (hB1.out.below hb2); clear hb2 d0 d1; have d0 := hQ2.out.c 0 _ rfl; have d1 := hQ2.out.c 1 _ rfl; have c0 := hB2.out.c 0 _ rfl; have c1 := hB2.out.c 1 _ rfl; have c2 := hB2.out.c 2 _ rfl; have c3 := hB2.out.c 3 _ rfl)
     |(go_at_call 92; refine (hcr.out _).mono ?_; rintro e w3 ⟨rfl, hb3⟩; have hQ3 := Lib.hid (hQ2.out.below hb3); have hbb3 := Lib.hid (below_step hbb2.out hb3); have hB3 := Lib.hid (hB2.out.below hb3); clear hb3 d0 d1 c0 c1 c2 c3; have d0 := hQ3.out.c 0 _ rfl; have d1 := hQ3.out.c 1 _ rfl; have c0 := hB3.out.c 0 _ rfl; have c1 := hB3.out.c 1 _ rfl; have c2 := hB3.out.c 2 _ rfl; have c3 := hB3.out.c 3 _ rfl))
    go_ret
    exact ⟨by rw [hz3.out]; rfl, hbb2.out⟩
  ·have hke : k = ps.length := by omega
   have hz3 : Hid (z = sgnB b) := by
    have := hz.out
    rw [hke, List.drop_of_length_le (by simp [Cal.sds])] at this
    exact this
   subst hke
   clear hz
   go_wp2_with fail
   go_ret
   exact ⟨by rw [hz3.out]; rfl, hb.out⟩
end Go.Proofs.Ytfcjeejhdklkdaa
