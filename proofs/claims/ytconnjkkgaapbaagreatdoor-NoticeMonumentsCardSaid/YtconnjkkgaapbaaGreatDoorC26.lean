/- Chapter 8 and what it rests on: definitions and walks, part 26. -/
import Derived.Test.YtconnjkkgaapbaaGreatDoorC25
import Derived.Test.YtconnjkkgaapbaaGreatDoorC17
import Derived.Test.YtconnjkkgaapbaaGreatDoorC23
namespace Go.Proofs.YtconnjkkgaapbaaGreatDoor
open Go Go.RowKit
/-- The error of a visit. -/
def Cal.visErr (v : Vis) : Int :=
  if (0 ≤ v.day ∧ v.day ≤ 200000) ∧ (0 ≤ v.kind ∧ v.kind ≤ 2) ∧ (0 ≤ v.tilt ∧ v.tilt ≤ 1000) ∧ (0 ≤ v.push ∧ v.push ≤ 5000) then (if v.kind ≠ 0 ∧ (v.tilt ≠ 0 ∨ v.push ≠ 0) then 3 else 0) else 2
set_option maxRecDepth 100000 in
set_option maxHeartbeats 4000000 in
theorem checkVisit_any (v : Vis) (w : World) : Calls Tryz.prog 80 #[.agg #[.int .i64 v.day, .int .i64 v.kind, .int .i64 v.tilt, .int .i64 v.push]] w fun e w' => e = .returned (.int .i64 (Cal.visErr v)) ∧ Below w.heap.size w w' := by
  by_cases h1 : 0 ≤ v.day ∧ v.day ≤ 200000
  · by_cases h2 : 0 ≤ v.kind ∧ v.kind ≤ 2
    · by_cases h3 : 0 ≤ v.tilt ∧ v.tilt ≤ 1000
      · by_cases h4 : 0 ≤ v.push ∧ v.push ≤ 5000
        · by_cases hk : v.kind = 0
          · have hfin : Hid (Cal.visErr v = 0) := by show _ = _; unfold Cal.visErr; rw [if_pos ⟨h1, h2, h3, h4⟩, if_neg (fun h => h.1 hk)]
            have kb : (v.kind != 0) = false := by simpa using hk
            obtain ⟨a0, a1⟩ := h1
            obtain ⟨b0, b1⟩ := h2
            obtain ⟨c0, c1⟩ := h3
            obtain ⟨d0, d1⟩ := h4
            clear hk
            go_enter Tryz.func80, Tryz.ntmps80
            go_wp2_with (first | (go_at_call 60; first | refine rin ?_ | refine rout ?_ | refine rany ?_) | ((first | (go_at_call 86) | (go_at_call 41) | (go_at_call 74) | (go_at_call 28) | (go_at_call 109) | (fail) | (fail)); first | refine rin ?_ | refine rout ?_ | refine rany ?_))
            go_ret
            exact ⟨ret_int hfin.out.symm, by exact blw⟩
          · have kb : (v.kind != 0) = true := by simpa using hk
            by_cases ht : v.tilt = 0
            · have tb : (v.tilt != 0) = false := by simpa using ht
              by_cases hp : v.push = 0
              · have hfin : Hid (Cal.visErr v = 0) := by show _ = _; unfold Cal.visErr; rw [if_pos ⟨h1, h2, h3, h4⟩, if_neg (fun h => h.2.elim (fun h => h ht) (fun h => h hp))]
                have pb : (v.push != 0) = false := by simpa using hp
                obtain ⟨a0, a1⟩ := h1
                obtain ⟨b0, b1⟩ := h2
                obtain ⟨c0, c1⟩ := h3
                obtain ⟨d0, d1⟩ := h4
                clear hk ht hp
                go_enter Tryz.func80, Tryz.ntmps80
                go_wp2_with (first | (go_at_call 60; first | refine rin ?_ | refine rout ?_ | refine rany ?_) | ((first | (go_at_call 86) | (go_at_call 41) | (go_at_call 74) | (go_at_call 28) | (go_at_call 109) | (fail) | (fail)); first | refine rin ?_ | refine rout ?_ | refine rany ?_))
                go_ret
                exact ⟨ret_int hfin.out.symm, by exact blw⟩
              · have hfin : Hid (Cal.visErr v = 3) := by show _ = _; unfold Cal.visErr; rw [if_pos ⟨h1, h2, h3, h4⟩, if_pos ⟨hk, .inr hp⟩]
                have pb : (v.push != 0) = true := by simpa using hp
                obtain ⟨a0, a1⟩ := h1
                obtain ⟨b0, b1⟩ := h2
                obtain ⟨c0, c1⟩ := h3
                obtain ⟨d0, d1⟩ := h4
                clear hk ht hp
                go_enter Tryz.func80, Tryz.ntmps80
                go_wp2_with (first | (go_at_call 60; first | refine rin ?_ | refine rout ?_ | refine rany ?_) | ((first | (go_at_call 86) | (go_at_call 41) | (go_at_call 74) | (go_at_call 28) | (go_at_call 109) | (fail) | (fail)); first | refine rin ?_ | refine rout ?_ | refine rany ?_))
                go_ret
                exact ⟨ret_int hfin.out.symm, by exact blw⟩
            · have hfin : Hid (Cal.visErr v = 3) := by show _ = _; unfold Cal.visErr; rw [if_pos ⟨h1, h2, h3, h4⟩, if_pos ⟨hk, .inl ht⟩]
              have tb : (v.tilt != 0) = true := by simpa using ht
              obtain ⟨a0, a1⟩ := h1
              obtain ⟨b0, b1⟩ := h2
              obtain ⟨c0, c1⟩ := h3
              obtain ⟨d0, d1⟩ := h4
              clear hk ht
              go_enter Tryz.func80, Tryz.ntmps80
              go_wp2_with (first | (go_at_call 60; first | refine rin ?_ | refine rout ?_ | refine rany ?_) | ((first | (go_at_call 86) | (go_at_call 41) | (go_at_call 74) | (go_at_call 28) | (go_at_call 109) | (fail) | (fail)); first | refine rin ?_ | refine rout ?_ | refine rany ?_))
              go_ret
              exact ⟨ret_int hfin.out.symm, by exact blw⟩
        · have hfin : Hid (Cal.visErr v = 2) := by show _ = _; unfold Cal.visErr; rw [if_neg (fun h => h4 h.2.2.2)]
          obtain ⟨a0, a1⟩ := h1
          obtain ⟨b0, b1⟩ := h2
          obtain ⟨c0, c1⟩ := h3
          have h4' : v.push < 0 ∨ 5000 < v.push := by omega
          clear h4
          go_enter Tryz.func80, Tryz.ntmps80
          go_wp2_with (first | (go_at_call 60; first | refine rin ?_ | refine rout ?_ | refine rany ?_) | ((first | (go_at_call 86) | (go_at_call 41) | (go_at_call 74) | (go_at_call 28) | (go_at_call 109) | (fail) | (fail)); first | refine rin ?_ | refine rout ?_ | refine rany ?_))
          go_ret
          exact ⟨ret_int hfin.out.symm, by exact blw⟩
      · have hfin : Hid (Cal.visErr v = 2) := by show _ = _; unfold Cal.visErr; rw [if_neg (fun h => h3 h.2.2.1)]
        obtain ⟨a0, a1⟩ := h1
        obtain ⟨b0, b1⟩ := h2
        have h3' : v.tilt < 0 ∨ 1000 < v.tilt := by omega
        clear h3
        go_enter Tryz.func80, Tryz.ntmps80
        go_wp2_with (first | (go_at_call 60; first | refine rin ?_ | refine rout ?_ | refine rany ?_) | ((first | (go_at_call 86) | (go_at_call 41) | (go_at_call 74) | (go_at_call 28) | (go_at_call 109) | (fail) | (fail)); first | refine rin ?_ | refine rout ?_ | refine rany ?_))
        go_ret
        exact ⟨ret_int hfin.out.symm, by exact blw⟩
    · have hfin : Hid (Cal.visErr v = 2) := by show _ = _; unfold Cal.visErr; rw [if_neg (fun h => h2 h.2.1)]
      obtain ⟨a0, a1⟩ := h1
      have h2' : v.kind < 0 ∨ 2 < v.kind := by omega
      clear h2
      go_enter Tryz.func80, Tryz.ntmps80
      go_wp2_with (first | (go_at_call 60; first | refine rin ?_ | refine rout ?_ | refine rany ?_) | ((first | (go_at_call 86) | (go_at_call 41) | (go_at_call 74) | (go_at_call 28) | (go_at_call 109) | (fail) | (fail)); first | refine rin ?_ | refine rout ?_ | refine rany ?_))
      go_ret
      exact ⟨ret_int hfin.out.symm, by exact blw⟩
  · have hfin : Hid (Cal.visErr v = 2) := by show _ = _; unfold Cal.visErr; rw [if_neg (fun h => h1 h.1)]
    have h1' : v.day < 0 ∨ 200000 < v.day := by omega
    clear h1
    go_enter Tryz.func80, Tryz.ntmps80
    go_wp2_with (first | (go_at_call 60; first | refine rin ?_ | refine rout ?_ | refine rany ?_) | ((first | (go_at_call 86) | (go_at_call 41) | (go_at_call 74) | (go_at_call 28) | (go_at_call 109) | (fail) | (fail)); first | refine rin ?_ | refine rout ?_ | refine rany ?_))
    go_ret
    exact ⟨ret_int hfin.out.symm, by exact blw⟩
/-- The grade behind a visit. -/
def Cal.gradeS (g : Grad) (v : Vis) : Int :=
  if v.kind = 0 then (if g.t2 ≤ v.tilt ∨ v.push ≤ g.p2 then 3 else if g.t1 ≤ v.tilt ∨ v.push ≤ g.p1 then 2 else if g.t0 ≤ v.tilt ∨ v.push ≤ g.p0 then 1 else 0) else 0
theorem Cal.grade_3 {g : Grad} {v : Vis} (hk : v.kind = 0) (h : g.t2 ≤ v.tilt ∨ v.push ≤ g.p2) : Cal.gradeS g v = 3 := by unfold Cal.gradeS; rw [if_pos hk, if_pos h]
theorem Cal.grade_2 {g : Grad} {v : Vis} (hk : v.kind = 0) (h3 : ¬ (g.t2 ≤ v.tilt ∨ v.push ≤ g.p2)) (h : g.t1 ≤ v.tilt ∨ v.push ≤ g.p1) : Cal.gradeS g v = 2 := by unfold Cal.gradeS; rw [if_pos hk, if_neg h3, if_pos h]
theorem Cal.grade_1 {g : Grad} {v : Vis} (hk : v.kind = 0) (h3 : ¬ (g.t2 ≤ v.tilt ∨ v.push ≤ g.p2)) (h2 : ¬ (g.t1 ≤ v.tilt ∨ v.push ≤ g.p1)) (h : g.t0 ≤ v.tilt ∨ v.push ≤ g.p0) : Cal.gradeS g v = 1 := by unfold Cal.gradeS; rw [if_pos hk, if_neg h3, if_neg h2, if_pos h]
theorem Cal.grade_0 {g : Grad} {v : Vis} (hk : v.kind = 0) (h3 : ¬ (g.t2 ≤ v.tilt ∨ v.push ≤ g.p2)) (h2 : ¬ (g.t1 ≤ v.tilt ∨ v.push ≤ g.p1)) (h : ¬ (g.t0 ≤ v.tilt ∨ v.push ≤ g.p0)) : Cal.gradeS g v = 0 := by unfold Cal.gradeS; rw [if_pos hk, if_neg h3, if_neg h2, if_neg h]
set_option maxRecDepth 100000 in
set_option maxHeartbeats 4000000 in
theorem grade_any (g : Grad) (v : Vis) (w : World) : Calls Tryz.prog 78 #[.agg #[.int .i64 g.t0, .int .i64 g.t1, .int .i64 g.t2, .int .i64 g.p0, .int .i64 g.p1, .int .i64 g.p2, .int .i64 g.m0, .int .i64 g.m1, .int .i64 g.m2, .int .i64 g.m3], .agg #[.int .i64 v.day, .int .i64 v.kind, .int .i64 v.tilt, .int .i64 v.push]] w fun e w' => e = .returned (.int .i64 (Cal.gradeS g v)) ∧ Below w.heap.size w w' := by
  by_cases hk : v.kind = 0
  · have kb : (v.kind != 0) = false := by simpa using hk
    have hkz := Lib.hid hk
    have hb : Hid (Below w.heap.size w ((w.alloc (.cells #[.int .i64 g.t0, .int .i64 g.t1, .int .i64 g.t2, .int .i64 g.p0, .int .i64 g.p1, .int .i64 g.p2, .int .i64 g.m0, .int .i64 g.m1, .int .i64 g.m2, .int .i64 g.m3] 77)).alloc (.cells #[.int .i64 v.day, .int .i64 v.kind, .int .i64 v.tilt, .int .i64 v.push] 88))) := below_step (below_alloc _ _) (below_alloc _ _)
    clear hk
    go_enter Tryz.func78, Tryz.ntmps78
    go_wp2_with fail
    go_loopw [5] (fun i wr => ∃ n : Nat, ((i = .int .i64 2) ∨ (i = .int .i64 1 ∧ Hid (¬ (g.t2 ≤ v.tilt ∨ v.push ≤ g.p2))) ∨ (i = .int .i64 0 ∧ Hid (¬ (g.t2 ≤ v.tilt ∨ v.push ≤ g.p2)) ∧ Hid (¬ (g.t1 ≤ v.tilt ∨ v.push ≤ g.p1))) ∨ (i = .int .i64 (-1) ∧ Hid (¬ (g.t2 ≤ v.tilt ∨ v.push ≤ g.p2)) ∧ Hid (¬ (g.t1 ≤ v.tilt ∨ v.push ≤ g.p1)) ∧ Hid (¬ (g.t0 ≤ v.tilt ∨ v.push ≤ g.p0)))) ∧ wr = World.drewN ((w.alloc (.cells #[.int .i64 g.t0, .int .i64 g.t1, .int .i64 g.t2, .int .i64 g.p0, .int .i64 g.p1, .int .i64 g.p2, .int .i64 g.m0, .int .i64 g.m1, .int .i64 g.m2, .int .i64 g.m3] 77)).alloc (.cells #[.int .i64 v.day, .int .i64 v.kind, .int .i64 v.tilt, .int .i64 v.push] 88)) n) (fun i _ => (intOf i + 1).toNat)
    case atStart => exact ⟨0, .inl rfl, rfl⟩
    case round =>
      obtain ⟨n, hi, rfl⟩ := hrel
      rcases hi with rfl | ⟨rfl, n3⟩ | ⟨rfl, n3, n2⟩ | ⟨rfl, n3, n2, n1⟩
      · by_cases ht : g.t2 ≤ v.tilt
        · have hfin : Hid (_ = _) := Cal.grade_3 hkz.out (.inl ht)
          have hd : decide (g.t2 ≤ v.tilt) = true := by simpa using ht
          clear ht
          go_wp2_with fail
          go_quiet (fail)
          go_wp2_with fail
          go_ret
          exact ⟨ret_int hfin.out.symm, below_drewN hb.out _⟩
        · have hd : decide (g.t2 ≤ v.tilt) = false := by simpa using ht
          by_cases hp : v.push ≤ g.p2
          · have hfin : Hid (_ = _) := Cal.grade_3 hkz.out (.inr hp)
            have hd2 : decide (v.push ≤ g.p2) = true := by simpa using hp
            clear ht hp
            go_wp2_with fail
            go_quiet (fail)
            go_wp2_with fail
            go_ret
            exact ⟨ret_int hfin.out.symm, below_drewN hb.out _⟩
          · have hno : Hid (¬ (g.t2 ≤ v.tilt ∨ v.push ≤ g.p2)) := fun h => h.elim ht hp
            have hd2 : decide (v.push ≤ g.p2) = false := by simpa using hp
            clear ht hp
            go_wp2_with fail
            go_quiet (fail)
            go_wp2_with fail
            go_roundw
            case rel => exact ⟨_, .inr (.inl ⟨rfl, hno⟩), rfl⟩
            case measure => simp [intOf]
      · by_cases ht : g.t1 ≤ v.tilt
        · have hfin : Hid (_ = _) := Cal.grade_2 hkz.out n3.out (.inl ht)
          have hd : decide (g.t1 ≤ v.tilt) = true := by simpa using ht
          clear ht
          go_wp2_with fail
          go_quiet (fail)
          go_wp2_with fail
          go_ret
          exact ⟨ret_int hfin.out.symm, below_drewN hb.out _⟩
        · have hd : decide (g.t1 ≤ v.tilt) = false := by simpa using ht
          by_cases hp : v.push ≤ g.p1
          · have hfin : Hid (_ = _) := Cal.grade_2 hkz.out n3.out (.inr hp)
            have hd2 : decide (v.push ≤ g.p1) = true := by simpa using hp
            clear ht hp
            go_wp2_with fail
            go_quiet (fail)
            go_wp2_with fail
            go_ret
            exact ⟨ret_int hfin.out.symm, below_drewN hb.out _⟩
          · have hno : Hid (¬ (g.t1 ≤ v.tilt ∨ v.push ≤ g.p1)) := fun h => h.elim ht hp
            have hd2 : decide (v.push ≤ g.p1) = false := by simpa using hp
            clear ht hp
            go_wp2_with fail
            go_quiet (fail)
            go_wp2_with fail
            go_roundw
            case rel => exact ⟨_, .inr (.inr (.inl ⟨rfl, n3, hno⟩)), rfl⟩
            case measure => simp [intOf]
      · by_cases ht : g.t0 ≤ v.tilt
        · have hfin : Hid (_ = _) := Cal.grade_1 hkz.out n3.out n2.out (.inl ht)
          have hd : decide (g.t0 ≤ v.tilt) = true := by simpa using ht
          clear ht
          go_wp2_with fail
          go_quiet (fail)
          go_wp2_with fail
          go_ret
          exact ⟨ret_int hfin.out.symm, below_drewN hb.out _⟩
        · have hd : decide (g.t0 ≤ v.tilt) = false := by simpa using ht
          by_cases hp : v.push ≤ g.p0
          · have hfin : Hid (_ = _) := Cal.grade_1 hkz.out n3.out n2.out (.inr hp)
            have hd2 : decide (v.push ≤ g.p0) = true := by simpa using hp
            clear ht hp
            go_wp2_with fail
            go_quiet (fail)
            go_wp2_with fail
            go_ret
            exact ⟨ret_int hfin.out.symm, below_drewN hb.out _⟩
          · have hno : Hid (¬ (g.t0 ≤ v.tilt ∨ v.push ≤ g.p0)) := fun h => h.elim ht hp
            have hd2 : decide (v.push ≤ g.p0) = false := by simpa using hp
            clear ht hp
            go_wp2_with fail
            go_quiet (fail)
            go_wp2_with fail
            go_roundw
            case rel => exact ⟨_, .inr (.inr (.inr ⟨rfl, n3, n2, hno⟩)), rfl⟩
            case measure => simp [intOf]
      · have hfin := Lib.hid (Cal.grade_0 hkz.out n3.out n2.out n1.out)
        go_wp2_with fail
        go_ret
        exact ⟨ret_int hfin.out.symm, below_drewN hb.out _⟩
  · have hfin : Hid (Cal.gradeS g v = 0) := by show _ = _; unfold Cal.gradeS; rw [if_neg hk]
    have kb : (v.kind != 0) = true := by simpa using hk
    clear hk
    go_enter Tryz.func78, Tryz.ntmps78
    go_wp2_with fail
    go_ret
    exact ⟨ret_int hfin.out.symm, by exact blw⟩
theorem grSize : (Tryz.prog.info? 77).map (·.size) = some 10 := by kernel_rfl
/-- GradeOf: the grade and the error. -/
def Cal.gradeOfS (g : Grad) (v : Vis) : Int × Int :=
  if Cal.gradErr g = 0 then (if Cal.visErr v = 0 then (if v.kind = 0 then (Cal.gradeS g v, 0) else (0, 15)) else (0, Cal.visErr v)) else (0, Cal.gradErr g)
theorem startgv (w : World) (g : Grad) (v : Vis) : Hid (BoxAt ((w.alloc (.cells #[.int .i64 g.t0, .int .i64 g.t1, .int .i64 g.t2, .int .i64 g.p0, .int .i64 g.p1, .int .i64 g.p2, .int .i64 g.m0, .int .i64 g.m1, .int .i64 g.m2, .int .i64 g.m3] 77)).alloc (.cells #[.int .i64 v.day, .int .i64 v.kind, .int .i64 v.tilt, .int .i64 v.push] 88)) w.heap.size [.int .i64 g.t0, .int .i64 g.t1, .int .i64 g.t2, .int .i64 g.p0, .int .i64 g.p1, .int .i64 g.p2, .int .i64 g.m0, .int .i64 g.m1, .int .i64 g.m2, .int .i64 g.m3]) ∧ Hid (BoxAt ((w.alloc (.cells #[.int .i64 g.t0, .int .i64 g.t1, .int .i64 g.t2, .int .i64 g.p0, .int .i64 g.p1, .int .i64 g.p2, .int .i64 g.m0, .int .i64 g.m1, .int .i64 g.m2, .int .i64 g.m3] 77)).alloc (.cells #[.int .i64 v.day, .int .i64 v.kind, .int .i64 v.tilt, .int .i64 v.push] 88)) (w.heap.size + 1) [.int .i64 v.day, .int .i64 v.kind, .int .i64 v.tilt, .int .i64 v.push]) ∧ Hid (Below w.heap.size w ((w.alloc (.cells #[.int .i64 g.t0, .int .i64 g.t1, .int .i64 g.t2, .int .i64 g.p0, .int .i64 g.p1, .int .i64 g.p2, .int .i64 g.m0, .int .i64 g.m1, .int .i64 g.m2, .int .i64 g.m3] 77)).alloc (.cells #[.int .i64 v.day, .int .i64 v.kind, .int .i64 v.tilt, .int .i64 v.push] 88))) := by
  have h := BoxAt.new (w.alloc (.cells #[.int .i64 g.t0, .int .i64 g.t1, .int .i64 g.t2, .int .i64 g.p0, .int .i64 g.p1, .int .i64 g.p2, .int .i64 g.m0, .int .i64 g.m1, .int .i64 g.m2, .int .i64 g.m3] 77)) #[.int .i64 v.day, .int .i64 v.kind, .int .i64 v.tilt, .int .i64 v.push] 88
  rw [World.size_alloc] at h
  exact ⟨(BoxAt.new w _ _).alloc _, h, below_step (below_alloc _ _) (below_alloc _ _)⟩
set_option maxRecDepth 100000 in
set_option maxHeartbeats 4000000 in
theorem GradeOf_any (g : Grad) (v : Vis) (w : World) : Calls Tryz.prog 51 #[.agg #[.int .i64 g.t0, .int .i64 g.t1, .int .i64 g.t2, .int .i64 g.p0, .int .i64 g.p1, .int .i64 g.p2, .int .i64 g.m0, .int .i64 g.m1, .int .i64 g.m2, .int .i64 g.m3], .agg #[.int .i64 v.day, .int .i64 v.kind, .int .i64 v.tilt, .int .i64 v.push]] w (IEPost w (Cal.gradeOfS g v)) := by
  obtain ⟨E, hge⟩ : ∃ E, Cal.gradErr g = E := ⟨_, rfl⟩
  by_cases h0 : E = 0
  · subst h0
    obtain ⟨F, hve⟩ : ∃ F, Cal.visErr v = F := ⟨_, rfl⟩
    by_cases h1 : F = 0
    · subst h1
      by_cases hk : v.kind = 0
      · have hfin : Hid (Cal.gradeOfS g v = (Cal.gradeS g v, 0)) := by show _ = _; unfold Cal.gradeOfS; rw [if_pos hge, if_pos hve, if_pos hk]
        have kb : (v.kind != 0) = false := by simpa using hk
        have hge := Lib.hid hge
        have hve := Lib.hid hve
        clear hk
        obtain ⟨h1, h2, hb⟩ := startgv w g v
        go_enter Tryz.func51, Tryz.ntmps51
        go_wp2_with (refine wpList_load_mid rfl 77 (.tmp 2) rfl (w.heap.size) 0 rfl [.int .i64 g.t0, .int .i64 g.t1, .int .i64 g.t2, .int .i64 g.p0, .int .i64 g.p1, .int .i64 g.p2, .int .i64 g.m0, .int .i64 g.m1, .int .i64 g.m2, .int .i64 g.m3] _ h1.out.range Tryz.underlying77 rfl grSize ?_)
        refine (CheckGrading_any g _).mono ?_
        rintro e w1 ⟨rfl, hb1⟩
        rw [hge.out]
        have k1 := Lib.hid (h1.out.below hb1)
        have k2 := Lib.hid (h2.out.below hb1)
        have hbw := Lib.hid (below_step hb.out hb1)
        clear hb1 h1 h2 hb
        have v0 := k2.out.c 0 _ rfl
        have v1 := k2.out.c 1 _ rfl
        have v2 := k2.out.c 2 _ rfl
        have v3 := k2.out.c 3 _ rfl
        go_wp2_with fail
        refine (checkVisit_any v _).mono ?_
        rintro e w2 ⟨rfl, hb2⟩
        rw [hve.out]
        have l1 := Lib.hid (k1.out.below hb2)
        have l2 := Lib.hid (k2.out.below hb2)
        have hbw2 := Lib.hid (below_step hbw.out hb2)
        clear hb2 k1 k2 v0 v1 v2 v3
        have v0 := l2.out.c 0 _ rfl
        have v1 := l2.out.c 1 _ rfl
        have v2 := l2.out.c 2 _ rfl
        have v3 := l2.out.c 3 _ rfl
        go_wp2_with (refine wpList_load_mid rfl 77 (.tmp 2) rfl (w.heap.size) 0 rfl [.int .i64 g.t0, .int .i64 g.t1, .int .i64 g.t2, .int .i64 g.p0, .int .i64 g.p1, .int .i64 g.p2, .int .i64 g.m0, .int .i64 g.m1, .int .i64 g.m2, .int .i64 g.m3] _ l1.out.range Tryz.underlying77 rfl grSize ?_)
        refine (grade_any g v _).mono ?_
        rintro e w3 ⟨rfl, hb3⟩
        have hbw3 := Lib.hid (below_step hbw2.out hb3)
        clear hb3
        go_wp2_with fail
        go_ret2
        exact ⟨by rw [hfin.out]; first | done | rfl, hbw3.out⟩
      · have hfin : Hid (Cal.gradeOfS g v = (0, 15)) := by show _ = _; unfold Cal.gradeOfS; rw [if_pos hge, if_pos hve, if_neg hk]
        have kb : (v.kind != 0) = true := by simpa using hk
        have hge := Lib.hid hge
        have hve := Lib.hid hve
        clear hk
        obtain ⟨h1, h2, hb⟩ := startgv w g v
        go_enter Tryz.func51, Tryz.ntmps51
        go_wp2_with (refine wpList_load_mid rfl 77 (.tmp 2) rfl (w.heap.size) 0 rfl [.int .i64 g.t0, .int .i64 g.t1, .int .i64 g.t2, .int .i64 g.p0, .int .i64 g.p1, .int .i64 g.p2, .int .i64 g.m0, .int .i64 g.m1, .int .i64 g.m2, .int .i64 g.m3] _ h1.out.range Tryz.underlying77 rfl grSize ?_)
        refine (CheckGrading_any g _).mono ?_
        rintro e w1 ⟨rfl, hb1⟩
        rw [hge.out]
        have k1 := Lib.hid (h1.out.below hb1)
        have k2 := Lib.hid (h2.out.below hb1)
        have hbw := Lib.hid (below_step hb.out hb1)
        clear hb1 h1 h2 hb
        have v0 := k2.out.c 0 _ rfl
        have v1 := k2.out.c 1 _ rfl
        have v2 := k2.out.c 2 _ rfl
        have v3 := k2.out.c 3 _ rfl
        go_wp2_with fail
        refine (checkVisit_any v _).mono ?_
        rintro e w2 ⟨rfl, hb2⟩
        rw [hve.out]
        have l1 := Lib.hid (k1.out.below hb2)
        have l2 := Lib.hid (k2.out.below hb2)
        have hbw2 := Lib.hid (below_step hbw.out hb2)
        clear hb2 k1 k2 v0 v1 v2 v3
        have v0 := l2.out.c 0 _ rfl
        have v1 := l2.out.c 1 _ rfl
        have v2 := l2.out.c 2 _ rfl
        have v3 := l2.out.c 3 _ rfl
        go_wp2_with (refine wpList_load_mid rfl 77 (.tmp 2) rfl (w.heap.size) 0 rfl [.int .i64 g.t0, .int .i64 g.t1, .int .i64 g.t2, .int .i64 g.p0, .int .i64 g.p1, .int .i64 g.p2, .int .i64 g.m0, .int .i64 g.m1, .int .i64 g.m2, .int .i64 g.m3] _ l1.out.range Tryz.underlying77 rfl grSize ?_)
        go_ret2
        exact ⟨by rw [hfin.out]; first | done | rfl, hbw2.out⟩
    · have hfin : Hid (Cal.gradeOfS g v = (0, F)) := by show _ = _; unfold Cal.gradeOfS; rw [if_pos hge, if_neg (by rw [hve]; exact h1), hve]
      have fb : (F != 0) = true := by simpa using h1
      have hge := Lib.hid hge
      have hve := Lib.hid hve
      clear h1
      obtain ⟨h1, h2, hb⟩ := startgv w g v
      go_enter Tryz.func51, Tryz.ntmps51
      go_wp2_with (refine wpList_load_mid rfl 77 (.tmp 2) rfl (w.heap.size) 0 rfl [.int .i64 g.t0, .int .i64 g.t1, .int .i64 g.t2, .int .i64 g.p0, .int .i64 g.p1, .int .i64 g.p2, .int .i64 g.m0, .int .i64 g.m1, .int .i64 g.m2, .int .i64 g.m3] _ h1.out.range Tryz.underlying77 rfl grSize ?_)
      refine (CheckGrading_any g _).mono ?_
      rintro e w1 ⟨rfl, hb1⟩
      rw [hge.out]
      have k1 := Lib.hid (h1.out.below hb1)
      have k2 := Lib.hid (h2.out.below hb1)
      have hbw := Lib.hid (below_step hb.out hb1)
      clear hb1 h1 h2 hb
      have v0 := k2.out.c 0 _ rfl
      have v1 := k2.out.c 1 _ rfl
      have v2 := k2.out.c 2 _ rfl
      have v3 := k2.out.c 3 _ rfl
      go_wp2_with fail
      refine (checkVisit_any v _).mono ?_
      rintro e w2 ⟨rfl, hb2⟩
      rw [hve.out]
      have hbw2 := Lib.hid (below_step hbw.out hb2)
      clear hb2
      go_wp2_with fail
      go_ret2
      exact ⟨by rw [hfin.out]; first | done | rfl, hbw2.out⟩
  · have hfin : Hid (Cal.gradeOfS g v = (0, E)) := by show _ = _; unfold Cal.gradeOfS; rw [if_neg (by rw [hge]; exact h0), hge]
    have fb : (E != 0) = true := by simpa using h0
    have hge := Lib.hid hge
    clear h0
    obtain ⟨h1, h2, hb⟩ := startgv w g v
    go_enter Tryz.func51, Tryz.ntmps51
    go_wp2_with (refine wpList_load_mid rfl 77 (.tmp 2) rfl (w.heap.size) 0 rfl [.int .i64 g.t0, .int .i64 g.t1, .int .i64 g.t2, .int .i64 g.p0, .int .i64 g.p1, .int .i64 g.p2, .int .i64 g.m0, .int .i64 g.m1, .int .i64 g.m2, .int .i64 g.m3] _ h1.out.range Tryz.underlying77 rfl grSize ?_)
    refine (CheckGrading_any g _).mono ?_
    rintro e w1 ⟨rfl, hb1⟩
    rw [hge.out]
    have k1 := Lib.hid (h1.out.below hb1)
    have k2 := Lib.hid (h2.out.below hb1)
    have hbw := Lib.hid (below_step hb.out hb1)
    clear hb1 h1 h2 hb
    have v0 := k2.out.c 0 _ rfl
    have v1 := k2.out.c 1 _ rfl
    have v2 := k2.out.c 2 _ rfl
    have v3 := k2.out.c 3 _ rfl
    go_wp2_with fail
    go_ret2
    exact ⟨by rw [hfin.out]; first | done | rfl, hbw.out⟩
end Go.Proofs.YtconnjkkgaapbaaGreatDoor
namespace Go.Proofs.YtconnjkkgaapbaaGreatDoor
open Go Go.RowKit
theorem triSize : (Tryz.prog.info? 74).map (·.size) = some 3 := by kernel_rfl
/-- The day from which the notice does not block, or -1. -/
def Cal.thirdS (p : Proc) (n : Note) : Int := if (Cal.expS p n).2 = 0 then (Cal.expS p n).1 else -1
def Cal.waitsE (p : Proc) (right rest : Int) (n : Note) : Int :=
  if Cal.procErr p = 0 then (if (-1 ≤ right ∧ right ≤ 200000) ∧ (-1 ≤ rest ∧ rest ≤ 200000) then (Cal.checkS p n).2 else 2) else Cal.procErr p
theorem start3r (w : World) (A : Option Addr) (c : Nat) (p : Proc) (right rest : Int) (N : Option Addr) (d : Nat) (n : Note) : Hid (BoxAt (((w.alloc (.cells #[.int .i64 p.runs.m, .int .i64 p.runs.d, .bool p.runs.k, .int .i64 p.obj.m, .int .i64 p.obj.d, .bool p.obj.k, .int .i64 p.wait.m, .int .i64 p.wait.d, .bool p.wait.k, .int .i64 p.exts, .int .i64 p.longest, .slice A p.hols.length c] 26)).alloc (.cells #[.int .i64 right, .int .i64 rest, .string n.name, .int .i64 n.opened, .slice N n.acts.length d] 44)).alloc (.cells #[.int .i64 0, .int .i64 0, .int .i64 0] 74)) w.heap.size [.int .i64 p.runs.m, .int .i64 p.runs.d, .bool p.runs.k, .int .i64 p.obj.m, .int .i64 p.obj.d, .bool p.obj.k, .int .i64 p.wait.m, .int .i64 p.wait.d, .bool p.wait.k, .int .i64 p.exts, .int .i64 p.longest, .slice A p.hols.length c]) ∧ Hid (BoxAt (((w.alloc (.cells #[.int .i64 p.runs.m, .int .i64 p.runs.d, .bool p.runs.k, .int .i64 p.obj.m, .int .i64 p.obj.d, .bool p.obj.k, .int .i64 p.wait.m, .int .i64 p.wait.d, .bool p.wait.k, .int .i64 p.exts, .int .i64 p.longest, .slice A p.hols.length c] 26)).alloc (.cells #[.int .i64 right, .int .i64 rest, .string n.name, .int .i64 n.opened, .slice N n.acts.length d] 44)).alloc (.cells #[.int .i64 0, .int .i64 0, .int .i64 0] 74)) (w.heap.size + 1) [.int .i64 right, .int .i64 rest, .string n.name, .int .i64 n.opened, .slice N n.acts.length d]) ∧ Hid (BoxAt (((w.alloc (.cells #[.int .i64 p.runs.m, .int .i64 p.runs.d, .bool p.runs.k, .int .i64 p.obj.m, .int .i64 p.obj.d, .bool p.obj.k, .int .i64 p.wait.m, .int .i64 p.wait.d, .bool p.wait.k, .int .i64 p.exts, .int .i64 p.longest, .slice A p.hols.length c] 26)).alloc (.cells #[.int .i64 right, .int .i64 rest, .string n.name, .int .i64 n.opened, .slice N n.acts.length d] 44)).alloc (.cells #[.int .i64 0, .int .i64 0, .int .i64 0] 74)) (w.heap.size + 1 + 1) [.int .i64 0, .int .i64 0, .int .i64 0]) ∧ Hid (Below w.heap.size w (((w.alloc (.cells #[.int .i64 p.runs.m, .int .i64 p.runs.d, .bool p.runs.k, .int .i64 p.obj.m, .int .i64 p.obj.d, .bool p.obj.k, .int .i64 p.wait.m, .int .i64 p.wait.d, .bool p.wait.k, .int .i64 p.exts, .int .i64 p.longest, .slice A p.hols.length c] 26)).alloc (.cells #[.int .i64 right, .int .i64 rest, .string n.name, .int .i64 n.opened, .slice N n.acts.length d] 44)).alloc (.cells #[.int .i64 0, .int .i64 0, .int .i64 0] 74))) := by
  have h2 := (BoxAt.new (w.alloc (.cells #[.int .i64 p.runs.m, .int .i64 p.runs.d, .bool p.runs.k, .int .i64 p.obj.m, .int .i64 p.obj.d, .bool p.obj.k, .int .i64 p.wait.m, .int .i64 p.wait.d, .bool p.wait.k, .int .i64 p.exts, .int .i64 p.longest, .slice A p.hols.length c] 26)) #[.int .i64 right, .int .i64 rest, .string n.name, .int .i64 n.opened, .slice N n.acts.length d] 44).alloc (.cells #[.int .i64 0, .int .i64 0, .int .i64 0] 74)
  rw [World.size_alloc] at h2
  have h3 := BoxAt.new ((w.alloc (.cells #[.int .i64 p.runs.m, .int .i64 p.runs.d, .bool p.runs.k, .int .i64 p.obj.m, .int .i64 p.obj.d, .bool p.obj.k, .int .i64 p.wait.m, .int .i64 p.wait.d, .bool p.wait.k, .int .i64 p.exts, .int .i64 p.longest, .slice A p.hols.length c] 26)).alloc (.cells #[.int .i64 right, .int .i64 rest, .string n.name, .int .i64 n.opened, .slice N n.acts.length d] 44)) #[.int .i64 0, .int .i64 0, .int .i64 0] 74
  rw [World.size_alloc, World.size_alloc] at h3
  exact ⟨((BoxAt.new w _ _).alloc _).alloc _, h2, h3, below_step (below_step (below_alloc _ _) (below_alloc _ _)) (below_alloc _ _)⟩
theorem start2r (w : World) (A : Option Addr) (c : Nat) (p : Proc) (right rest : Int) (N : Option Addr) (d : Nat) (n : Note) : Hid (BoxAt ((w.alloc (.cells #[.int .i64 p.runs.m, .int .i64 p.runs.d, .bool p.runs.k, .int .i64 p.obj.m, .int .i64 p.obj.d, .bool p.obj.k, .int .i64 p.wait.m, .int .i64 p.wait.d, .bool p.wait.k, .int .i64 p.exts, .int .i64 p.longest, .slice A p.hols.length c] 26)).alloc (.cells #[.int .i64 right, .int .i64 rest, .string n.name, .int .i64 n.opened, .slice N n.acts.length d] 44)) w.heap.size [.int .i64 p.runs.m, .int .i64 p.runs.d, .bool p.runs.k, .int .i64 p.obj.m, .int .i64 p.obj.d, .bool p.obj.k, .int .i64 p.wait.m, .int .i64 p.wait.d, .bool p.wait.k, .int .i64 p.exts, .int .i64 p.longest, .slice A p.hols.length c]) ∧ Hid (BoxAt ((w.alloc (.cells #[.int .i64 p.runs.m, .int .i64 p.runs.d, .bool p.runs.k, .int .i64 p.obj.m, .int .i64 p.obj.d, .bool p.obj.k, .int .i64 p.wait.m, .int .i64 p.wait.d, .bool p.wait.k, .int .i64 p.exts, .int .i64 p.longest, .slice A p.hols.length c] 26)).alloc (.cells #[.int .i64 right, .int .i64 rest, .string n.name, .int .i64 n.opened, .slice N n.acts.length d] 44)) (w.heap.size + 1) [.int .i64 right, .int .i64 rest, .string n.name, .int .i64 n.opened, .slice N n.acts.length d]) ∧ Hid (Below w.heap.size w ((w.alloc (.cells #[.int .i64 p.runs.m, .int .i64 p.runs.d, .bool p.runs.k, .int .i64 p.obj.m, .int .i64 p.obj.d, .bool p.obj.k, .int .i64 p.wait.m, .int .i64 p.wait.d, .bool p.wait.k, .int .i64 p.exts, .int .i64 p.longest, .slice A p.hols.length c] 26)).alloc (.cells #[.int .i64 right, .int .i64 rest, .string n.name, .int .i64 n.opened, .slice N n.acts.length d] 44))) := by
  have h2 := BoxAt.new (w.alloc (.cells #[.int .i64 p.runs.m, .int .i64 p.runs.d, .bool p.runs.k, .int .i64 p.obj.m, .int .i64 p.obj.d, .bool p.obj.k, .int .i64 p.wait.m, .int .i64 p.wait.d, .bool p.wait.k, .int .i64 p.exts, .int .i64 p.longest, .slice A p.hols.length c] 26)) #[.int .i64 right, .int .i64 rest, .string n.name, .int .i64 n.opened, .slice N n.acts.length d] 44
  rw [World.size_alloc] at h2
  exact ⟨(BoxAt.new w _ _).alloc _, h2, below_step (below_alloc _ _) (below_alloc _ _)⟩
def TriPost (w : World) (x y z E : Int) (e : Ending) (w' : World) : Prop := e = .returned (.tuple #[.agg #[.int .i64 x, .int .i64 y, .int .i64 z], .int .i64 E]) ∧ Below w.heap.size w w'
set_option maxRecDepth 100000 in
set_option maxHeartbeats 4000000 in
theorem waits_bad (A : Option Addr) (c : Nat) (p : Proc) (right rest : Int) (N : Option Addr) (d : Nat) (n : Note) (w : World) (hN : NB w A p N n) (hE : Cal.waitsE p right rest n ≠ 0) :
    Calls Tryz.prog 70 #[.agg #[.int .i64 p.runs.m, .int .i64 p.runs.d, .bool p.runs.k, .int .i64 p.obj.m, .int .i64 p.obj.d, .bool p.obj.k, .int .i64 p.wait.m, .int .i64 p.wait.d, .bool p.wait.k, .int .i64 p.exts, .int .i64 p.longest, .slice A p.hols.length c], .agg #[.int .i64 right, .int .i64 rest, .string n.name, .int .i64 n.opened, .slice N n.acts.length d]] w (TriPost w 0 0 0 (Cal.waitsE p right rest n)) := by
  have hN := Lib.hid hN
  by_cases h0 : Cal.procErr p = 0
  · have hp0 := Lib.hid h0
    by_cases hr : (-1 ≤ right ∧ right ≤ 200000) ∧ (-1 ≤ rest ∧ rest ≤ 200000)
    · have hC : Cal.waitsE p right rest n = (Cal.checkS p n).2 := by unfold Cal.waitsE; rw [if_pos h0, if_pos hr]
      rw [hC] at hE ⊢
      rcases hc : Cal.checkS p n with ⟨i, E⟩
      rw [hc] at hE
      have hE1 : (E != 0) = true := by simpa using hE
      have hcz := Lib.hid hc
      obtain ⟨⟨x0, x1⟩, x2, x3⟩ := hr
      clear hC hE hc h0
      obtain ⟨h1, h2, h3, hb⟩ := start3r w A c p right rest N d n
      have r0 := h2.out.c 0 _ rfl
      have r1 := h2.out.c 1 _ rfl
      have r2 := h2.out.c 2 _ rfl
      have r3 := h2.out.c 3 _ rfl
      have r4 := h2.out.c 4 _ rfl
      go_enter Tryz.func70, Tryz.ntmps70
      go_wp2_with (refine wpPr h1.out (.tmp 2) rfl ?_)
      refine (CheckProcedure_any A c p _ (hN.out.below hb.out).hols (hN.out.below hb.out).tab).mono ?_
      rintro e w1 ⟨rfl, hb1⟩
      rw [hp0.out]
      clear r0 r1 r2 r3 r4
      have g1 := Lib.hid (h1.out.below hb1)
      have g2 := Lib.hid (h2.out.below hb1)
      have g3 := Lib.hid (h3.out.below hb1)
      have hbw := Lib.hid (below_step hb.out hb1)
      clear hb1 h1 h2 h3 hb
      have r0 := g2.out.c 0 _ rfl
      have r1 := g2.out.c 1 _ rfl
      have r2 := g2.out.c 2 _ rfl
      have r3 := g2.out.c 3 _ rfl
      have r4 := g2.out.c 4 _ rfl
      go_wp2_with (first | first | (go_at_call 60; first | refine rin ?_ | refine rout ?_ | refine rany ?_) | ((first | (go_at_call 86) | (go_at_call 41) | (go_at_call 74) | (go_at_call 28) | (go_at_call 109) | (fail) | (fail)); first | refine rin ?_ | refine rout ?_ | refine rany ?_) | (refine wpPr g1.out (.tmp 2) rfl ?_))
      refine (CheckNotice_any A c p N d n _ (hN.out.below hbw.out)).mono ?_
      rintro e w2 ⟨he, hb2⟩
      rw [hcz.out] at he
      subst he
      clear r0 r1 r2 r3 r4
      have k3 := Lib.hid (g3.out.below hb2)
      have hbw2 := Lib.hid (below_step hbw.out hb2)
      clear hb2
      go_wp2_with ((refine wpList_store_box rfl 74 (.tmp 4) (.tmp 38) rfl (w.heap.size + 1 + 1) _ [.int .i64 0, .int .i64 0, .int .i64 0] (by rfl) (by rfl) k3.out rfl triSize (by kernel_rfl) ?_; intro w3 h6 hg6); have hb3 := Lib.hid (below_of_grownB hbw2.out hg6 (by omega)))
      (try simp only [Exit.inBlock, Exit.then])
      refine bodyPost_ret (results_mid2 rfl _ _ (w.heap.size + 1 + 1) [.int .i64 0, .int .i64 0, .int .i64 0] _ rfl h6.range Tryz.underlying74 rfl triSize) rfl ⟨by rfl, hb3.out⟩
    · have hC : Hid (Cal.waitsE p right rest n = 2) := by show _ = _; unfold Cal.waitsE; rw [if_pos h0, if_neg hr]
      rw [hC.out]
      clear hE h0
      by_cases hr1 : -1 ≤ right ∧ right ≤ 200000
      · obtain ⟨x0, x1⟩ := hr1
        have hr2 : rest < -1 ∨ 200000 < rest := by omega
        clear hr
        obtain ⟨h1, h2, h3, hb⟩ := start3r w A c p right rest N d n
        have r0 := h2.out.c 0 _ rfl
        have r1 := h2.out.c 1 _ rfl
        have r2 := h2.out.c 2 _ rfl
        have r3 := h2.out.c 3 _ rfl
        have r4 := h2.out.c 4 _ rfl
        go_enter Tryz.func70, Tryz.ntmps70
        go_wp2_with (refine wpPr h1.out (.tmp 2) rfl ?_)
        refine (CheckProcedure_any A c p _ (hN.out.below hb.out).hols (hN.out.below hb.out).tab).mono ?_
        rintro e w1 ⟨rfl, hb1⟩
        rw [hp0.out]
        clear r0 r1 r2 r3 r4
        have g1 := Lib.hid (h1.out.below hb1)
        have g2 := Lib.hid (h2.out.below hb1)
        have g3 := Lib.hid (h3.out.below hb1)
        have hbw := Lib.hid (below_step hb.out hb1)
        clear hb1 h1 h2 h3 hb
        have r0 := g2.out.c 0 _ rfl
        have r1 := g2.out.c 1 _ rfl
        have r2 := g2.out.c 2 _ rfl
        have r3 := g2.out.c 3 _ rfl
        have r4 := g2.out.c 4 _ rfl
        go_wp2_with (first | first | (go_at_call 60; first | refine rin ?_ | refine rout ?_ | refine rany ?_) | ((first | (go_at_call 86) | (go_at_call 41) | (go_at_call 74) | (go_at_call 28) | (go_at_call 109) | (fail) | (fail)); first | refine rin ?_ | refine rout ?_ | refine rany ?_) | ((refine wpList_store_box rfl 74 (.tmp 4) (.tmp 28) rfl (w.heap.size + 1 + 1) _ [.int .i64 0, .int .i64 0, .int .i64 0] (by rfl) (by rfl) g3.out rfl triSize (by kernel_rfl) ?_; intro w3 h6 hg6); have hb3 := Lib.hid (below_of_grownB hbw.out hg6 (by omega))))
        (try simp only [Exit.inBlock, Exit.then])
        refine bodyPost_ret (results_mid2 rfl _ _ (w.heap.size + 1 + 1) [.int .i64 0, .int .i64 0, .int .i64 0] _ rfl h6.range Tryz.underlying74 rfl triSize) rfl ⟨by rfl, hb3.out⟩
      · have hr2 : right < -1 ∨ 200000 < right := by omega
        clear hr hr1
        obtain ⟨h1, h2, h3, hb⟩ := start3r w A c p right rest N d n
        have r0 := h2.out.c 0 _ rfl
        have r1 := h2.out.c 1 _ rfl
        have r2 := h2.out.c 2 _ rfl
        have r3 := h2.out.c 3 _ rfl
        have r4 := h2.out.c 4 _ rfl
        go_enter Tryz.func70, Tryz.ntmps70
        go_wp2_with (refine wpPr h1.out (.tmp 2) rfl ?_)
        refine (CheckProcedure_any A c p _ (hN.out.below hb.out).hols (hN.out.below hb.out).tab).mono ?_
        rintro e w1 ⟨rfl, hb1⟩
        rw [hp0.out]
        clear r0 r1 r2 r3 r4
        have g1 := Lib.hid (h1.out.below hb1)
        have g2 := Lib.hid (h2.out.below hb1)
        have g3 := Lib.hid (h3.out.below hb1)
        have hbw := Lib.hid (below_step hb.out hb1)
        clear hb1 h1 h2 h3 hb
        have r0 := g2.out.c 0 _ rfl
        have r1 := g2.out.c 1 _ rfl
        have r2 := g2.out.c 2 _ rfl
        have r3 := g2.out.c 3 _ rfl
        have r4 := g2.out.c 4 _ rfl
        go_wp2_with (first | first | (go_at_call 60; first | refine rin ?_ | refine rout ?_ | refine rany ?_) | ((first | (go_at_call 86) | (go_at_call 41) | (go_at_call 74) | (go_at_call 28) | (go_at_call 109) | (fail) | (fail)); first | refine rin ?_ | refine rout ?_ | refine rany ?_) | ((refine wpList_store_box rfl 74 (.tmp 4) (.tmp 28) rfl (w.heap.size + 1 + 1) _ [.int .i64 0, .int .i64 0, .int .i64 0] (by rfl) (by rfl) g3.out rfl triSize (by kernel_rfl) ?_; intro w3 h6 hg6); have hb3 := Lib.hid (below_of_grownB hbw.out hg6 (by omega))))
        (try simp only [Exit.inBlock, Exit.then])
        refine bodyPost_ret (results_mid2 rfl _ _ (w.heap.size + 1 + 1) [.int .i64 0, .int .i64 0, .int .i64 0] _ rfl h6.range Tryz.underlying74 rfl triSize) rfl ⟨by rfl, hb3.out⟩
  · obtain ⟨E, hp⟩ : ∃ E, Cal.procErr p = E := ⟨_, rfl⟩
    have hC : Cal.waitsE p right rest n = E := by unfold Cal.waitsE; rw [if_neg h0, hp]
    rw [hC]
    have hp0 := Lib.hid hp
    have hE1 : (E != 0) = true := by rw [← hp]; simpa using h0
    clear hC hE h0 hp
    obtain ⟨h1, h2, h3, hb⟩ := start3r w A c p right rest N d n
    have r0 := h2.out.c 0 _ rfl
    have r1 := h2.out.c 1 _ rfl
    have r2 := h2.out.c 2 _ rfl
    have r3 := h2.out.c 3 _ rfl
    have r4 := h2.out.c 4 _ rfl
    go_enter Tryz.func70, Tryz.ntmps70
    go_wp2_with (refine wpPr h1.out (.tmp 2) rfl ?_)
    refine (CheckProcedure_any A c p _ (hN.out.below hb.out).hols (hN.out.below hb.out).tab).mono ?_
    rintro e w1 ⟨rfl, hb1⟩
    rw [hp0.out]
    clear r0 r1 r2 r3 r4
    have g1 := Lib.hid (h1.out.below hb1)
    have g2 := Lib.hid (h2.out.below hb1)
    have g3 := Lib.hid (h3.out.below hb1)
    have hbw := Lib.hid (below_step hb.out hb1)
    clear hb1 h1 h2 h3 hb
    have r0 := g2.out.c 0 _ rfl
    have r1 := g2.out.c 1 _ rfl
    have r2 := g2.out.c 2 _ rfl
    have r3 := g2.out.c 3 _ rfl
    have r4 := g2.out.c 4 _ rfl
    go_wp2_with ((refine wpList_store_box rfl 74 (.tmp 4) (.tmp 16) rfl (w.heap.size + 1 + 1) _ [.int .i64 0, .int .i64 0, .int .i64 0] (by rfl) (by rfl) g3.out rfl triSize (by kernel_rfl) ?_; intro w3 h6 hg6); have hb3 := Lib.hid (below_of_grownB hbw.out hg6 (by omega)))
    (try simp only [Exit.inBlock, Exit.then])
    refine bodyPost_ret (results_mid2 rfl _ _ (w.heap.size + 1 + 1) [.int .i64 0, .int .i64 0, .int .i64 0] _ rfl h6.range Tryz.underlying74 rfl triSize) rfl ⟨by rfl, hb3.out⟩
theorem Cal.waitsE_ok {p : Proc} {right rest : Int} {n : Note} (h : Cal.waitsE p right rest n = 0) : Cal.procErr p = 0 ∧ -1 ≤ right ∧ right ≤ 200000 ∧ -1 ≤ rest ∧ rest ≤ 200000 ∧ (Cal.checkS p n).2 = 0 := by
  unfold Cal.waitsE at h
  split at h
  · rename_i h0
    split at h
    · rename_i h1; exact ⟨h0, h1.1.1, h1.1.2, h1.2.1, h1.2.2, h⟩
    · omega
  · rename_i h0; exact absurd h h0
set_option maxRecDepth 100000 in
set_option maxHeartbeats 4000000 in
theorem waits_ok (A : Option Addr) (c : Nat) (p : Proc) (right rest : Int) (N : Option Addr) (d : Nat) (n : Note) (w : World) (hN : NB w A p N n) (hE : Cal.waitsE p right rest n = 0) :
    Calls Tryz.prog 70 #[.agg #[.int .i64 p.runs.m, .int .i64 p.runs.d, .bool p.runs.k, .int .i64 p.obj.m, .int .i64 p.obj.d, .bool p.obj.k, .int .i64 p.wait.m, .int .i64 p.wait.d, .bool p.wait.k, .int .i64 p.exts, .int .i64 p.longest, .slice A p.hols.length c], .agg #[.int .i64 right, .int .i64 rest, .string n.name, .int .i64 n.opened, .slice N n.acts.length d]] w (TriPost w right rest (Cal.thirdS p n) 0) := by
  have hN := Lib.hid hN
  obtain ⟨h0, x0, x1, x2, x3, hc2⟩ := Cal.waitsE_ok hE
  have hp0 := Lib.hid h0
  rcases hc : Cal.checkS p n with ⟨i, E⟩
  rw [hc] at hc2
  have hc2 : E = 0 := hc2
  subst hc2
  have hcz := Lib.hid hc
  clear hc hE h0
  rcases hex : Cal.expS p n with ⟨x, F⟩
  have hexz := Lib.hid hex
  by_cases hF : F = 0
  · subst hF
    have hthird : Cal.thirdS p n = x := by unfold Cal.thirdS; rw [hex]; rfl
    rw [hthird]
    clear hthird hex
    obtain ⟨h1, h2, h3, hb⟩ := start3r w A c p right rest N d n
    have r0 := h2.out.c 0 _ rfl
    have r1 := h2.out.c 1 _ rfl
    have r2 := h2.out.c 2 _ rfl
    have r3 := h2.out.c 3 _ rfl
    have r4 := h2.out.c 4 _ rfl
    go_enter Tryz.func70, Tryz.ntmps70
    go_wp2_with (refine wpPr h1.out (.tmp 2) rfl ?_)
    refine (CheckProcedure_any A c p _ (hN.out.below hb.out).hols (hN.out.below hb.out).tab).mono ?_
    rintro e w1 ⟨rfl, hb1⟩
    rw [hp0.out]
    clear r0 r1 r2 r3 r4
    have g1 := Lib.hid (h1.out.below hb1)
    have g2 := Lib.hid (h2.out.below hb1)
    have g3 := Lib.hid (h3.out.below hb1)
    have hbw := Lib.hid (below_step hb.out hb1)
    clear hb1 h1 h2 h3 hb
    have r0 := g2.out.c 0 _ rfl
    have r1 := g2.out.c 1 _ rfl
    have r2 := g2.out.c 2 _ rfl
    have r3 := g2.out.c 3 _ rfl
    have r4 := g2.out.c 4 _ rfl
    go_wp2_with (first | first | (go_at_call 60; first | refine rin ?_ | refine rout ?_ | refine rany ?_) | ((first | (go_at_call 86) | (go_at_call 41) | (go_at_call 74) | (go_at_call 28) | (go_at_call 109) | (fail) | (fail)); first | refine rin ?_ | refine rout ?_ | refine rany ?_) | (refine wpPr g1.out (.tmp 2) rfl ?_))
    refine (CheckNotice_any A c p N d n _ (hN.out.below hbw.out)).mono ?_
    rintro e w2 ⟨he, hb2⟩
    rw [hcz.out] at he
    subst he
    clear r0 r1 r2 r3 r4
    have k1 := Lib.hid (g1.out.below hb2)
    have k2 := Lib.hid (g2.out.below hb2)
    have k3 := Lib.hid (g3.out.below hb2)
    have hbw2 := Lib.hid (below_step hbw.out hb2)
    have hz := (g3.out.below hb2).lt
    have hN9 := Lib.hid (BoxAt.new w2 #[.int .i64 0, .int .i64 0, .int .i64 0] 74)
    clear hb2 g1 g2 g3
    have r0 := k2.out.c 0 _ rfl
    have r1 := k2.out.c 1 _ rfl
    have r2 := k2.out.c 2 _ rfl
    have r3 := k2.out.c 3 _ rfl
    have r4 := k2.out.c 4 _ rfl
    go_wp2_with (first
      | ((refine wpList_store_box rfl 74 (.tmp 9) (.tmp 44) rfl (w2.heap.size) _ [.int .i64 right, .int .i64 rest, .int .i64 (-1)] (by rfl) (by rfl) hN9.out rfl triSize (by kernel_rfl) ?_; intro w3 h9 hg9); have hb23 := below_of_grownB (below_alloc w2 _) hg9 (Nat.le_refl _); have hbw3 := Lib.hid (below_step hbw2.out hb23); have l1 := Lib.hid (k1.out.below hb23); have l2 := Lib.hid (k2.out.below hb23); have l3 := Lib.hid (k3.out.below hb23); have h9 := Lib.hid h9; clear hb23 hg9 r0 r1 r2 r3 r4; have r0 := l2.out.c 0 _ rfl; have r1 := l2.out.c 1 _ rfl; have r2 := l2.out.c 2 _ rfl; have r3 := l2.out.c 3 _ rfl; have r4 := l2.out.c 4 _ rfl)
      | (refine wpPr l1.out (.tmp 2) rfl ?_))
    refine (ExpiresAt_any A c p N d n _ (hN.out.below hbw3.out)).mono ?_
    rintro e w4 ⟨he, hb4⟩
    rw [hexz.out] at he
    subst he
    clear r0 r1 r2 r3 r4
    have m3 := Lib.hid (l3.out.below hb4)
    have m9 := Lib.hid (h9.out.below hb4)
    have hbw4 := Lib.hid (below_step hbw3.out hb4)
    clear hb4
    have z0 := m9.out.c 0 _ rfl
    have z1 := m9.out.c 1 _ rfl
    have z2 := m9.out.c 2 _ rfl
    have f2 := m9.out.free 2 (by simp)
    have h10 := Lib.hid (m9.out.set 2 (.int .i64 x) (by simp))
    have hg10 := grown_set w4 w2.heap.size 2 (.int .i64 x)
    have n3 := Lib.hid (m3.out.grown hg10 (by simp; omega))
    have hbw5 := Lib.hid (below_of_grownB hbw4.out hg10 (by have := hbw2.out.size; omega))
    have y0 := h10.out.c 0 _ rfl
    have y1 := h10.out.c 1 _ rfl
    have y2 := h10.out.c 2 _ rfl
    clear hg10
    go_wp2_with ((refine wpList_store_box rfl 74 (.tmp 4) (.tmp 56) rfl (w.heap.size + 1 + 1) _ [.int .i64 right, .int .i64 rest, .int .i64 x] (by rfl) (by rfl) n3.out rfl triSize (by kernel_rfl) ?_; intro w6 h6 hg6); have hb6 := Lib.hid (below_of_grownB hbw5.out hg6 (by omega)))
    (try simp only [Exit.inBlock, Exit.then])
    refine bodyPost_ret (results_mid2 rfl _ _ (w.heap.size + 1 + 1) [.int .i64 right, .int .i64 rest, .int .i64 x] _ rfl h6.range Tryz.underlying74 rfl triSize) rfl ⟨by rfl, hb6.out⟩
  · have hthird : Cal.thirdS p n = -1 := by unfold Cal.thirdS; rw [hex, if_neg hF]
    have hF1 : (F == 0) = false := by simpa using hF
    rw [hthird]
    clear hthird hex hF
    obtain ⟨h1, h2, h3, hb⟩ := start3r w A c p right rest N d n
    have r0 := h2.out.c 0 _ rfl
    have r1 := h2.out.c 1 _ rfl
    have r2 := h2.out.c 2 _ rfl
    have r3 := h2.out.c 3 _ rfl
    have r4 := h2.out.c 4 _ rfl
    go_enter Tryz.func70, Tryz.ntmps70
    go_wp2_with (refine wpPr h1.out (.tmp 2) rfl ?_)
    refine (CheckProcedure_any A c p _ (hN.out.below hb.out).hols (hN.out.below hb.out).tab).mono ?_
    rintro e w1 ⟨rfl, hb1⟩
    rw [hp0.out]
    clear r0 r1 r2 r3 r4
    have g1 := Lib.hid (h1.out.below hb1)
    have g2 := Lib.hid (h2.out.below hb1)
    have g3 := Lib.hid (h3.out.below hb1)
    have hbw := Lib.hid (below_step hb.out hb1)
    clear hb1 h1 h2 h3 hb
    have r0 := g2.out.c 0 _ rfl
    have r1 := g2.out.c 1 _ rfl
    have r2 := g2.out.c 2 _ rfl
    have r3 := g2.out.c 3 _ rfl
    have r4 := g2.out.c 4 _ rfl
    go_wp2_with (first | first | (go_at_call 60; first | refine rin ?_ | refine rout ?_ | refine rany ?_) | ((first | (go_at_call 86) | (go_at_call 41) | (go_at_call 74) | (go_at_call 28) | (go_at_call 109) | (fail) | (fail)); first | refine rin ?_ | refine rout ?_ | refine rany ?_) | (refine wpPr g1.out (.tmp 2) rfl ?_))
    refine (CheckNotice_any A c p N d n _ (hN.out.below hbw.out)).mono ?_
    rintro e w2 ⟨he, hb2⟩
    rw [hcz.out] at he
    subst he
    clear r0 r1 r2 r3 r4
    have k1 := Lib.hid (g1.out.below hb2)
    have k2 := Lib.hid (g2.out.below hb2)
    have k3 := Lib.hid (g3.out.below hb2)
    have hbw2 := Lib.hid (below_step hbw.out hb2)
    have hz := (g3.out.below hb2).lt
    have hN9 := Lib.hid (BoxAt.new w2 #[.int .i64 0, .int .i64 0, .int .i64 0] 74)
    clear hb2 g1 g2 g3
    have r0 := k2.out.c 0 _ rfl
    have r1 := k2.out.c 1 _ rfl
    have r2 := k2.out.c 2 _ rfl
    have r3 := k2.out.c 3 _ rfl
    have r4 := k2.out.c 4 _ rfl
    go_wp2_with (first
      | ((refine wpList_store_box rfl 74 (.tmp 9) (.tmp 44) rfl (w2.heap.size) _ [.int .i64 right, .int .i64 rest, .int .i64 (-1)] (by rfl) (by rfl) hN9.out rfl triSize (by kernel_rfl) ?_; intro w3 h9 hg9); have hb23 := below_of_grownB (below_alloc w2 _) hg9 (Nat.le_refl _); have hbw3 := Lib.hid (below_step hbw2.out hb23); have l1 := Lib.hid (k1.out.below hb23); have l2 := Lib.hid (k2.out.below hb23); have l3 := Lib.hid (k3.out.below hb23); have h9 := Lib.hid h9; clear hb23 hg9 r0 r1 r2 r3 r4; have r0 := l2.out.c 0 _ rfl; have r1 := l2.out.c 1 _ rfl; have r2 := l2.out.c 2 _ rfl; have r3 := l2.out.c 3 _ rfl; have r4 := l2.out.c 4 _ rfl)
      | (refine wpPr l1.out (.tmp 2) rfl ?_))
    refine (ExpiresAt_any A c p N d n _ (hN.out.below hbw3.out)).mono ?_
    rintro e w4 ⟨he, hb4⟩
    rw [hexz.out] at he
    subst he
    clear r0 r1 r2 r3 r4
    have m3 := Lib.hid (l3.out.below hb4)
    have m9 := Lib.hid (h9.out.below hb4)
    have hbw4 := Lib.hid (below_step hbw3.out hb4)
    clear hb4
    have z0 := m9.out.c 0 _ rfl
    have z1 := m9.out.c 1 _ rfl
    have z2 := m9.out.c 2 _ rfl
    go_wp2_with ((refine wpList_store_box rfl 74 (.tmp 4) (.tmp 56) rfl (w.heap.size + 1 + 1) _ [.int .i64 right, .int .i64 rest, .int .i64 (-1)] (by rfl) (by rfl) m3.out rfl triSize (by kernel_rfl) ?_; intro w6 h6 hg6); have hb6 := Lib.hid (below_of_grownB hbw4.out hg6 (by omega)))
    (try simp only [Exit.inBlock, Exit.then])
    refine bodyPost_ret (results_mid2 rfl _ _ (w.heap.size + 1 + 1) [.int .i64 right, .int .i64 rest, .int .i64 (-1)] _ rfl h6.range Tryz.underlying74 rfl triSize) rfl ⟨by rfl, hb6.out⟩
end Go.Proofs.YtconnjkkgaapbaaGreatDoor
