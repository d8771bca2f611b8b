/- Chapter 8 and what it rests on: definitions and walks, part 42. -/
import Derived.Test.YtbegbajlagcbdaaGreatDoorC40
import Derived.Test.YtbegbajlagcbdaaGreatDoorC41
namespace Go.Proofs.YtbegbajlagcbdaaGreatDoor
open Go Go.RowKit
/-- The error of a visit. -/
def Cal.visErr (v : Vis) : Int :=
  if (0 ≤ v.day ∧ v.day ≤ 200000) ∧ (0 ≤ v.kind ∧ v.kind ≤ 2) ∧ (0 ≤ v.tilt ∧ v.tilt ≤ 1000) ∧ (0 ≤ v.push ∧ v.push ≤ 5000) then (if v.kind ≠ 0 ∧ (v.tilt ≠ 0 ∨ v.push ≠ 0) then 3 else 0) else 2
set_option maxRecDepth 100000 in
set_option maxHeartbeats 4000000 in
theorem checkVisit_any (v : Vis) (w : World) : Calls Tryz.prog 99 #[.agg #[.int .i64 v.day, .int .i64 v.kind, .int .i64 v.tilt, .int .i64 v.push]] w fun e w' => e = .returned (.int .i64 (Cal.visErr v)) ∧ Below w.heap.size w w' := by
  by_cases h1 : 0 ≤ v.day ∧ v.day ≤ 200000
  · by_cases h2 : 0 ≤ v.kind ∧ v.kind ≤ 2
    · by_cases h3 : 0 ≤ v.tilt ∧ v.tilt ≤ 1000
      · by_cases h4 : 0 ≤ v.push ∧ v.push ≤ 5000
        · by_cases hk : v.kind = 0
          · have hfin : Hid (Cal.visErr v = 0) := by show _ = _; unfold Cal.visErr; rw [if_pos ⟨h1, h2, h3, h4⟩, if_neg (fun h => h.1 hk)]
            have kb : (v.kind != 0) = false := by simpa using hk
            obtain ⟨a0, a1⟩ := h1
            obtain ⟨b0, b1⟩ := h2
            obtain ⟨c0, c1⟩ := h3
            obtain ⟨d0, d1⟩ := h4
            clear hk
            go_enter Tryz.func99, Tryz.ntmps99
            go_wp2_with (first | (go_at_call 56; first | refine rin ?_ | refine rout ?_ | refine rany ?_) | ((first | (go_at_call 134) | (go_at_call 59) | (go_at_call 133) | (go_at_call 14) | (go_at_call 178) | (fail) | (go_at_call 139)); first | refine rin ?_ | refine rout ?_ | refine rany ?_))
            go_ret
            exact ⟨ret_int hfin.out.symm, by exact blw⟩
          · have kb : (v.kind != 0) = true := by simpa using hk
            by_cases ht : v.tilt = 0
            · have tb : (v.tilt != 0) = false := by simpa using ht
              by_cases hp : v.push = 0
              · have hfin : Hid (Cal.visErr v = 0) := by show _ = _; unfold Cal.visErr; rw [if_pos ⟨h1, h2, h3, h4⟩, if_neg (fun h => h.2.elim (fun h => h ht) (fun h => h hp))]
                have pb : (v.push != 0) = false := by simpa using hp
                obtain ⟨a0, a1⟩ := h1
                obtain ⟨b0, b1⟩ := h2
                obtain ⟨c0, c1⟩ := h3
                obtain ⟨d0, d1⟩ := h4
                clear hk ht hp
                go_enter Tryz.func99, Tryz.ntmps99
                go_wp2_with (first | (go_at_call 56; first | refine rin ?_ | refine rout ?_ | refine rany ?_) | ((first | (go_at_call 134) | (go_at_call 59) | (go_at_call 133) | (go_at_call 14) | (go_at_call 178) | (fail) | (go_at_call 139)); first | refine rin ?_ | refine rout ?_ | refine rany ?_))
                go_ret
                exact ⟨ret_int hfin.out.symm, by exact blw⟩
              · have hfin : Hid (Cal.visErr v = 3) := by show _ = _; unfold Cal.visErr; rw [if_pos ⟨h1, h2, h3, h4⟩, if_pos ⟨hk, .inr hp⟩]
                have pb : (v.push != 0) = true := by simpa using hp
                obtain ⟨a0, a1⟩ := h1
                obtain ⟨b0, b1⟩ := h2
                obtain ⟨c0, c1⟩ := h3
                obtain ⟨d0, d1⟩ := h4
                clear hk ht hp
                go_enter Tryz.func99, Tryz.ntmps99
                go_wp2_with (first | (go_at_call 56; first | refine rin ?_ | refine rout ?_ | refine rany ?_) | ((first | (go_at_call 134) | (go_at_call 59) | (go_at_call 133) | (go_at_call 14) | (go_at_call 178) | (fail) | (go_at_call 139)); first | refine rin ?_ | refine rout ?_ | refine rany ?_))
                go_ret
                exact ⟨ret_int hfin.out.symm, by exact blw⟩
            · have hfin : Hid (Cal.visErr v = 3) := by show _ = _; unfold Cal.visErr; rw [if_pos ⟨h1, h2, h3, h4⟩, if_pos ⟨hk, .inl ht⟩]
              have tb : (v.tilt != 0) = true := by simpa using ht
              obtain ⟨a0, a1⟩ := h1
              obtain ⟨b0, b1⟩ := h2
              obtain ⟨c0, c1⟩ := h3
              obtain ⟨d0, d1⟩ := h4
              clear hk ht
              go_enter Tryz.func99, Tryz.ntmps99
              go_wp2_with (first | (go_at_call 56; first | refine rin ?_ | refine rout ?_ | refine rany ?_) | ((first | (go_at_call 134) | (go_at_call 59) | (go_at_call 133) | (go_at_call 14) | (go_at_call 178) | (fail) | (go_at_call 139)); first | refine rin ?_ | refine rout ?_ | refine rany ?_))
              go_ret
              exact ⟨ret_int hfin.out.symm, by exact blw⟩
        · have hfin : Hid (Cal.visErr v = 2) := by show _ = _; unfold Cal.visErr; rw [if_neg (fun h => h4 h.2.2.2)]
          obtain ⟨a0, a1⟩ := h1
          obtain ⟨b0, b1⟩ := h2
          obtain ⟨c0, c1⟩ := h3
          have h4' : v.push < 0 ∨ 5000 < v.push := by omega
          clear h4
          go_enter Tryz.func99, Tryz.ntmps99
          go_wp2_with (first | (go_at_call 56; first | refine rin ?_ | refine rout ?_ | refine rany ?_) | ((first | (go_at_call 134) | (go_at_call 59) | (go_at_call 133) | (go_at_call 14) | (go_at_call 178) | (fail) | (go_at_call 139)); first | refine rin ?_ | refine rout ?_ | refine rany ?_))
          go_ret
          exact ⟨ret_int hfin.out.symm, by exact blw⟩
      · have hfin : Hid (Cal.visErr v = 2) := by show _ = _; unfold Cal.visErr; rw [if_neg (fun h => h3 h.2.2.1)]
        obtain ⟨a0, a1⟩ := h1
        obtain ⟨b0, b1⟩ := h2
        have h3' : v.tilt < 0 ∨ 1000 < v.tilt := by omega
        clear h3
        go_enter Tryz.func99, Tryz.ntmps99
        go_wp2_with (first | (go_at_call 56; first | refine rin ?_ | refine rout ?_ | refine rany ?_) | ((first | (go_at_call 134) | (go_at_call 59) | (go_at_call 133) | (go_at_call 14) | (go_at_call 178) | (fail) | (go_at_call 139)); first | refine rin ?_ | refine rout ?_ | refine rany ?_))
        go_ret
        exact ⟨ret_int hfin.out.symm, by exact blw⟩
    · have hfin : Hid (Cal.visErr v = 2) := by show _ = _; unfold Cal.visErr; rw [if_neg (fun h => h2 h.2.1)]
      obtain ⟨a0, a1⟩ := h1
      have h2' : v.kind < 0 ∨ 2 < v.kind := by omega
      clear h2
      go_enter Tryz.func99, Tryz.ntmps99
      go_wp2_with (first | (go_at_call 56; first | refine rin ?_ | refine rout ?_ | refine rany ?_) | ((first | (go_at_call 134) | (go_at_call 59) | (go_at_call 133) | (go_at_call 14) | (go_at_call 178) | (fail) | (go_at_call 139)); first | refine rin ?_ | refine rout ?_ | refine rany ?_))
      go_ret
      exact ⟨ret_int hfin.out.symm, by exact blw⟩
  · have hfin : Hid (Cal.visErr v = 2) := by show _ = _; unfold Cal.visErr; rw [if_neg (fun h => h1 h.1)]
    have h1' : v.day < 0 ∨ 200000 < v.day := by omega
    clear h1
    go_enter Tryz.func99, Tryz.ntmps99
    go_wp2_with (first | (go_at_call 56; first | refine rin ?_ | refine rout ?_ | refine rany ?_) | ((first | (go_at_call 134) | (go_at_call 59) | (go_at_call 133) | (go_at_call 14) | (go_at_call 178) | (fail) | (go_at_call 139)); first | refine rin ?_ | refine rout ?_ | refine rany ?_))
    go_ret
    exact ⟨ret_int hfin.out.symm, by exact blw⟩
/-- The grade behind a visit. -/
def Cal.gradeS (g : Grad) (v : Vis) : Int :=
  if v.kind = 0 then (if g.t2 ≤ v.tilt ∨ v.push ≤ g.p2 then 3 else if g.t1 ≤ v.tilt ∨ v.push ≤ g.p1 then 2 else if g.t0 ≤ v.tilt ∨ v.push ≤ g.p0 then 1 else 0) else 0
theorem Cal.grade_3 {g : Grad} {v : Vis} (hk : v.kind = 0) (h : g.t2 ≤ v.tilt ∨ v.push ≤ g.p2) : Cal.gradeS g v = 3 := by unfold Cal.gradeS; rw [if_pos hk, if_pos h]
theorem Cal.grade_2 {g : Grad} {v : Vis} (hk : v.kind = 0) (h3 : ¬ (g.t2 ≤ v.tilt ∨ v.push ≤ g.p2)) (h : g.t1 ≤ v.tilt ∨ v.push ≤ g.p1) : Cal.gradeS g v = 2 := by unfold Cal.gradeS; rw [if_pos hk, if_neg h3, if_pos h]
theorem Cal.grade_1 {g : Grad} {v : Vis} (hk : v.kind = 0) (h3 : ¬ (g.t2 ≤ v.tilt ∨ v.push ≤ g.p2)) (h2 : ¬ (g.t1 ≤ v.tilt ∨ v.push ≤ g.p1)) (h : g.t0 ≤ v.tilt ∨ v.push ≤ g.p0) : Cal.gradeS g v = 1 := by unfold Cal.gradeS; rw [if_pos hk, if_neg h3, if_neg h2, if_pos h]
theorem Cal.grade_0 {g : Grad} {v : Vis} (hk : v.kind = 0) (h3 : ¬ (g.t2 ≤ v.tilt ∨ v.push ≤ g.p2)) (h2 : ¬ (g.t1 ≤ v.tilt ∨ v.push ≤ g.p1)) (h : ¬ (g.t0 ≤ v.tilt ∨ v.push ≤ g.p0)) : Cal.gradeS g v = 0 := by unfold Cal.gradeS; rw [if_pos hk, if_neg h3, if_neg h2, if_neg h]
set_option maxRecDepth 100000 in
set_option maxHeartbeats 4000000 in
theorem grade_any (g : Grad) (v : Vis) (w : World) : Calls Tryz.prog 100 #[.agg #[.int .i64 g.t0, .int .i64 g.t1, .int .i64 g.t2, .int .i64 g.p0, .int .i64 g.p1, .int .i64 g.p2, .int .i64 g.m0, .int .i64 g.m1, .int .i64 g.m2, .int .i64 g.m3], .agg #[.int .i64 v.day, .int .i64 v.kind, .int .i64 v.tilt, .int .i64 v.push]] w fun e w' => e = .returned (.int .i64 (Cal.gradeS g v)) ∧ Below w.heap.size w w' := by
  by_cases hk : v.kind = 0
  · have kb : (v.kind != 0) = false := by simpa using hk
    have hkz := Lib.hid hk
    have hb : Hid (Below w.heap.size w ((w.alloc (.cells #[.int .i64 g.t0, .int .i64 g.t1, .int .i64 g.t2, .int .i64 g.p0, .int .i64 g.p1, .int .i64 g.p2, .int .i64 g.m0, .int .i64 g.m1, .int .i64 g.m2, .int .i64 g.m3] 25)).alloc (.cells #[.int .i64 v.day, .int .i64 v.kind, .int .i64 v.tilt, .int .i64 v.push] 106))) := below_step (below_alloc _ _) (below_alloc _ _)
    clear hk
    go_enter Tryz.func100, Tryz.ntmps100
    go_wp2_with fail
    go_loopw [5] (fun i wr => ∃ n : Nat, ((i = .int .i64 2) ∨ (i = .int .i64 1 ∧ Hid (¬ (g.t2 ≤ v.tilt ∨ v.push ≤ g.p2))) ∨ (i = .int .i64 0 ∧ Hid (¬ (g.t2 ≤ v.tilt ∨ v.push ≤ g.p2)) ∧ Hid (¬ (g.t1 ≤ v.tilt ∨ v.push ≤ g.p1))) ∨ (i = .int .i64 (-1) ∧ Hid (¬ (g.t2 ≤ v.tilt ∨ v.push ≤ g.p2)) ∧ Hid (¬ (g.t1 ≤ v.tilt ∨ v.push ≤ g.p1)) ∧ Hid (¬ (g.t0 ≤ v.tilt ∨ v.push ≤ g.p0)))) ∧ wr = World.drewN ((w.alloc (.cells #[.int .i64 g.t0, .int .i64 g.t1, .int .i64 g.t2, .int .i64 g.p0, .int .i64 g.p1, .int .i64 g.p2, .int .i64 g.m0, .int .i64 g.m1, .int .i64 g.m2, .int .i64 g.m3] 25)).alloc (.cells #[.int .i64 v.day, .int .i64 v.kind, .int .i64 v.tilt, .int .i64 v.push] 106)) n) (fun i _ => (intOf i + 1).toNat)
    case atStart => exact ⟨0, .inl rfl, rfl⟩
    case round =>
      obtain ⟨n, hi, rfl⟩ := hrel
      rcases hi with rfl | ⟨rfl, n3⟩ | ⟨rfl, n3, n2⟩ | ⟨rfl, n3, n2, n1⟩
      · by_cases ht : g.t2 ≤ v.tilt
        · have hfin : Hid (_ = _) := Cal.grade_3 hkz.out (.inl ht)
          have hd : decide (g.t2 ≤ v.tilt) = true := by simpa using ht
          clear ht
          go_wp2_with fail
          go_quiet (fail)
          go_wp2_with fail
          go_ret
          exact ⟨ret_int hfin.out.symm, below_drewN hb.out _⟩
        · have hd : decide (g.t2 ≤ v.tilt) = false := by simpa using ht
          by_cases hp : v.push ≤ g.p2
          · have hfin : Hid (_ = _) := Cal.grade_3 hkz.out (.inr hp)
            have hd2 : decide (v.push ≤ g.p2) = true := by simpa using hp
            clear ht hp
            go_wp2_with fail
            go_quiet (fail)
            go_wp2_with fail
            go_ret
            exact ⟨ret_int hfin.out.symm, below_drewN hb.out _⟩
          · have hno : Hid (¬ (g.t2 ≤ v.tilt ∨ v.push ≤ g.p2)) := fun h => h.elim ht hp
            have hd2 : decide (v.push ≤ g.p2) = false := by simpa using hp
            clear ht hp
            go_wp2_with fail
            go_quiet (fail)
            go_wp2_with fail
            go_roundw
            case rel => exact ⟨_, .inr (.inl ⟨rfl, hno⟩), rfl⟩
            case measure => simp [intOf]
      · by_cases ht : g.t1 ≤ v.tilt
        · have hfin : Hid (_ = _) := Cal.grade_2 hkz.out n3.out (.inl ht)
          have hd : decide (g.t1 ≤ v.tilt) = true := by simpa using ht
          clear ht
          go_wp2_with fail
          go_quiet (fail)
          go_wp2_with fail
          go_ret
          exact ⟨ret_int hfin.out.symm, below_drewN hb.out _⟩
        · have hd : decide (g.t1 ≤ v.tilt) = false := by simpa using ht
          by_cases hp : v.push ≤ g.p1
          · have hfin : Hid (_ = _) := Cal.grade_2 hkz.out n3.out (.inr hp)
            have hd2 : decide (v.push ≤ g.p1) = true := by simpa using hp
            clear ht hp
            go_wp2_with fail
            go_quiet (fail)
            go_wp2_with fail
            go_ret
            exact ⟨ret_int hfin.out.symm, below_drewN hb.out _⟩
          · have hno : Hid (¬ (g.t1 ≤ v.tilt ∨ v.push ≤ g.p1)) := fun h => h.elim ht hp
            have hd2 : decide (v.push ≤ g.p1) = false := by simpa using hp
            clear ht hp
            go_wp2_with fail
            go_quiet (fail)
            go_wp2_with fail
            go_roundw
            case rel => exact ⟨_, .inr (.inr (.inl ⟨rfl, n3, hno⟩)), rfl⟩
            case measure => simp [intOf]
      · by_cases ht : g.t0 ≤ v.tilt
        · have hfin : Hid (_ = _) := Cal.grade_1 hkz.out n3.out n2.out (.inl ht)
          have hd : decide (g.t0 ≤ v.tilt) = true := by simpa using ht
          clear ht
          go_wp2_with fail
          go_quiet (fail)
          go_wp2_with fail
          go_ret
          exact ⟨ret_int hfin.out.symm, below_drewN hb.out _⟩
        · have hd : decide (g.t0 ≤ v.tilt) = false := by simpa using ht
          by_cases hp : v.push ≤ g.p0
          · have hfin : Hid (_ = _) := Cal.grade_1 hkz.out n3.out n2.out (.inr hp)
            have hd2 : decide (v.push ≤ g.p0) = true := by simpa using hp
            clear ht hp
            go_wp2_with fail
            go_quiet (fail)
            go_wp2_with fail
            go_ret
            exact ⟨ret_int hfin.out.symm, below_drewN hb.out _⟩
          · have hno : Hid (¬ (g.t0 ≤ v.tilt ∨ v.push ≤ g.p0)) := fun h => h.elim ht hp
            have hd2 : decide (v.push ≤ g.p0) = false := by simpa using hp
            clear ht hp
            go_wp2_with fail
            go_quiet (fail)
            go_wp2_with fail
            go_roundw
            case rel => exact ⟨_, .inr (.inr (.inr ⟨rfl, n3, n2, hno⟩)), rfl⟩
            case measure => simp [intOf]
      · have hfin := Lib.hid (Cal.grade_0 hkz.out n3.out n2.out n1.out)
        go_wp2_with fail
        go_ret
        exact ⟨ret_int hfin.out.symm, below_drewN hb.out _⟩
  · have hfin : Hid (Cal.gradeS g v = 0) := by show _ = _; unfold Cal.gradeS; rw [if_neg hk]
    have kb : (v.kind != 0) = true := by simpa using hk
    clear hk
    go_enter Tryz.func100, Tryz.ntmps100
    go_wp2_with fail
    go_ret
    exact ⟨ret_int hfin.out.symm, by exact blw⟩
theorem grSize : (Tryz.prog.info? 25).map (·.size) = some 10 := by kernel_rfl
/-- GradeOf: the grade and the error. -/
def Cal.gradeOfS (g : Grad) (v : Vis) : Int × Int :=
  if Cal.gradErr g = 0 then (if Cal.visErr v = 0 then (if v.kind = 0 then (Cal.gradeS g v, 0) else (0, 15)) else (0, Cal.visErr v)) else (0, Cal.gradErr g)
theorem startgv (w : World) (g : Grad) (v : Vis) : Hid (BoxAt ((w.alloc (.cells #[.int .i64 g.t0, .int .i64 g.t1, .int .i64 g.t2, .int .i64 g.p0, .int .i64 g.p1, .int .i64 g.p2, .int .i64 g.m0, .int .i64 g.m1, .int .i64 g.m2, .int .i64 g.m3] 25)).alloc (.cells #[.int .i64 v.day, .int .i64 v.kind, .int .i64 v.tilt, .int .i64 v.push] 106)) w.heap.size [.int .i64 g.t0, .int .i64 g.t1, .int .i64 g.t2, .int .i64 g.p0, .int .i64 g.p1, .int .i64 g.p2, .int .i64 g.m0, .int .i64 g.m1, .int .i64 g.m2, .int .i64 g.m3]) ∧ Hid (BoxAt ((w.alloc (.cells #[.int .i64 g.t0, .int .i64 g.t1, .int .i64 g.t2, .int .i64 g.p0, .int .i64 g.p1, .int .i64 g.p2, .int .i64 g.m0, .int .i64 g.m1, .int .i64 g.m2, .int .i64 g.m3] 25)).alloc (.cells #[.int .i64 v.day, .int .i64 v.kind, .int .i64 v.tilt, .int .i64 v.push] 106)) (w.heap.size + 1) [.int .i64 v.day, .int .i64 v.kind, .int .i64 v.tilt, .int .i64 v.push]) ∧ Hid (Below w.heap.size w ((w.alloc (.cells #[.int .i64 g.t0, .int .i64 g.t1, .int .i64 g.t2, .int .i64 g.p0, .int .i64 g.p1, .int .i64 g.p2, .int .i64 g.m0, .int .i64 g.m1, .int .i64 g.m2, .int .i64 g.m3] 25)).alloc (.cells #[.int .i64 v.day, .int .i64 v.kind, .int .i64 v.tilt, .int .i64 v.push] 106))) := by
  have h := BoxAt.new (w.alloc (.cells #[.int .i64 g.t0, .int .i64 g.t1, .int .i64 g.t2, .int .i64 g.p0, .int .i64 g.p1, .int .i64 g.p2, .int .i64 g.m0, .int .i64 g.m1, .int .i64 g.m2, .int .i64 g.m3] 25)) #[.int .i64 v.day, .int .i64 v.kind, .int .i64 v.tilt, .int .i64 v.push] 106
  rw [World.size_alloc] at h
  exact ⟨(BoxAt.new w _ _).alloc _, h, below_step (below_alloc _ _) (below_alloc _ _)⟩
set_option maxRecDepth 100000 in
set_option maxHeartbeats 4000000 in
theorem GradeOf_any (g : Grad) (v : Vis) (w : World) : Calls Tryz.prog 47 #[.agg #[.int .i64 g.t0, .int .i64 g.t1, .int .i64 g.t2, .int .i64 g.p0, .int .i64 g.p1, .int .i64 g.p2, .int .i64 g.m0, .int .i64 g.m1, .int .i64 g.m2, .int .i64 g.m3], .agg #[.int .i64 v.day, .int .i64 v.kind, .int .i64 v.tilt, .int .i64 v.push]] w (IEPost w (Cal.gradeOfS g v)) := by
  obtain ⟨E, hge⟩ : ∃ E, Cal.gradErr g = E := ⟨_, rfl⟩
  by_cases h0 : E = 0
  · subst h0
    obtain ⟨F, hve⟩ : ∃ F, Cal.visErr v = F := ⟨_, rfl⟩
    by_cases h1 : F = 0
    · subst h1
      by_cases hk : v.kind = 0
      · have hfin : Hid (Cal.gradeOfS g v = (Cal.gradeS g v, 0)) := by show _ = _; unfold Cal.gradeOfS; rw [if_pos hge, if_pos hve, if_pos hk]
        have kb : (v.kind != 0) = false := by simpa using hk
        have hge := Lib.hid hge
        have hve := Lib.hid hve
        clear hk
        obtain ⟨h1, h2, hb⟩ := startgv w g v
        go_enter Tryz.func47, Tryz.ntmps47
        go_wp2_with (refine wpList_load_mid rfl 25 (.tmp 2) rfl (w.heap.size) 0 rfl [.int .i64 g.t0, .int .i64 g.t1, .int .i64 g.t2, .int .i64 g.p0, .int .i64 g.p1, .int .i64 g.p2, .int .i64 g.m0, .int .i64 g.m1, .int .i64 g.m2, .int .i64 g.m3] _ h1.out.range Tryz.underlying25 rfl grSize ?_)
        refine (CheckGrading_any g _).mono ?_
        rintro e w1 ⟨rfl, hb1⟩
        rw [hge.out]
        have k1 := Lib.hid (h1.out.below hb1)
        have k2 := Lib.hid (h2.out.below hb1)
        have hbw := Lib.hid (below_step hb.out hb1)
        clear hb1 h1 h2 hb
        have v0 := k2.out.c 0 _ rfl
        have v1 := k2.out.c 1 _ rfl
        have v2 := k2.out.c 2 _ rfl
        have v3 := k2.out.c 3 _ rfl
        go_wp2_with fail
        refine (checkVisit_any v _).mono ?_
        rintro e w2 ⟨rfl, hb2⟩
        rw [hve.out]
        have l1 := Lib.hid (k1.out.below hb2)
        have l2 := Lib.hid (k2.out.below hb2)
        have hbw2 := Lib.hid (below_step hbw.out hb2)
        clear hb2 k1 k2 v0 v1 v2 v3
        have v0 := l2.out.c 0 _ rfl
        have v1 := l2.out.c 1 _ rfl
        have v2 := l2.out.c 2 _ rfl
        have v3 := l2.out.c 3 _ rfl
        go_wp2_with (refine wpList_load_mid rfl 25 (.tmp 2) rfl (w.heap.size) 0 rfl [.int .i64 g.t0, .int .i64 g.t1, .int .i64 g.t2, .int .i64 g.p0, .int .i64 g.p1, .int .i64 g.p2, .int .i64 g.m0, .int .i64 g.m1, .int .i64 g.m2, .int .i64 g.m3] _ l1.out.range Tryz.underlying25 rfl grSize ?_)
        refine (grade_any g v _).mono ?_
        rintro e w3 ⟨rfl, hb3⟩
        have hbw3 := Lib.hid (below_step hbw2.out hb3)
        clear hb3
        go_wp2_with fail
        go_ret2
        exact ⟨by rw [hfin.out]; first | done | rfl, hbw3.out⟩
      · have hfin : Hid (Cal.gradeOfS g v = (0, 15)) := by show _ = _; unfold Cal.gradeOfS; rw [if_pos hge, if_pos hve, if_neg hk]
        have kb : (v.kind != 0) = true := by simpa using hk
        have hge := Lib.hid hge
        have hve := Lib.hid hve
        clear hk
        obtain ⟨h1, h2, hb⟩ := startgv w g v
        go_enter Tryz.func47, Tryz.ntmps47
        go_wp2_with (refine wpList_load_mid rfl 25 (.tmp 2) rfl (w.heap.size) 0 rfl [.int .i64 g.t0, .int .i64 g.t1, .int .i64 g.t2, .int .i64 g.p0, .int .i64 g.p1, .int .i64 g.p2, .int .i64 g.m0, .int .i64 g.m1, .int .i64 g.m2, .int .i64 g.m3] _ h1.out.range Tryz.underlying25 rfl grSize ?_)
        refine (CheckGrading_any g _).mono ?_
        rintro e w1 ⟨rfl, hb1⟩
        rw [hge.out]
        have k1 := Lib.hid (h1.out.below hb1)
        have k2 := Lib.hid (h2.out.below hb1)
        have hbw := Lib.hid (below_step hb.out hb1)
        clear hb1 h1 h2 hb
        have v0 := k2.out.c 0 _ rfl
        have v1 := k2.out.c 1 _ rfl
        have v2 := k2.out.c 2 _ rfl
        have v3 := k2.out.c 3 _ rfl
        go_wp2_with fail
        refine (checkVisit_any v _).mono ?_
        rintro e w2 ⟨rfl, hb2⟩
        rw [hve.out]
        have l1 := Lib.hid (k1.out.below hb2)
        have l2 := Lib.hid (k2.out.below hb2)
        have hbw2 := Lib.hid (below_step hbw.out hb2)
        clear hb2 k1 k2 v0 v1 v2 v3
        have v0 := l2.out.c 0 _ rfl
        have v1 := l2.out.c 1 _ rfl
        have v2 := l2.out.c 2 _ rfl
        have v3 := l2.out.c 3 _ rfl
        go_wp2_with (refine wpList_load_mid rfl 25 (.tmp 2) rfl (w.heap.size) 0 rfl [.int .i64 g.t0, .int .i64 g.t1, .int .i64 g.t2, .int .i64 g.p0, .int .i64 g.p1, .int .i64 g.p2, .int .i64 g.m0, .int .i64 g.m1, .int .i64 g.m2, .int .i64 g.m3] _ l1.out.range Tryz.underlying25 rfl grSize ?_)
        go_ret2
        exact ⟨by rw [hfin.out]; first | done | rfl, hbw2.out⟩
    · have hfin : Hid (Cal.gradeOfS g v = (0, F)) := by show _ = _; unfold Cal.gradeOfS; rw [if_pos hge, if_neg (by rw [hve]; exact h1), hve]
      have fb : (F != 0) = true := by simpa using h1
      have hge := Lib.hid hge
      have hve := Lib.hid hve
      clear h1
      obtain ⟨h1, h2, hb⟩ := startgv w g v
      go_enter Tryz.func47, Tryz.ntmps47
      go_wp2_with (refine wpList_load_mid rfl 25 (.tmp 2) rfl (w.heap.size) 0 rfl [.int .i64 g.t0, .int .i64 g.t1, .int .i64 g.t2, .int .i64 g.p0, .int .i64 g.p1, .int .i64 g.p2, .int .i64 g.m0, .int .i64 g.m1, .int .i64 g.m2, .int .i64 g.m3] _ h1.out.range Tryz.underlying25 rfl grSize ?_)
      refine (CheckGrading_any g _).mono ?_
      rintro e w1 ⟨rfl, hb1⟩
      rw [hge.out]
      have k1 := Lib.hid (h1.out.below hb1)
      have k2 := Lib.hid (h2.out.below hb1)
      have hbw := Lib.hid (below_step hb.out hb1)
      clear hb1 h1 h2 hb
      have v0 := k2.out.c 0 _ rfl
      have v1 := k2.out.c 1 _ rfl
      have v2 := k2.out.c 2 _ rfl
      have v3 := k2.out.c 3 _ rfl
      go_wp2_with fail
      refine (checkVisit_any v _).mono ?_
      rintro e w2 ⟨rfl, hb2⟩
      rw [hve.out]
      have hbw2 := Lib.hid (below_step hbw.out hb2)
      clear hb2
      go_wp2_with fail
      go_ret2
      exact ⟨by rw [hfin.out]; first | done | rfl, hbw2.out⟩
  · have hfin : Hid (Cal.gradeOfS g v = (0, E)) := by show _ = _; unfold Cal.gradeOfS; rw [if_neg (by rw [hge]; exact h0), hge]
    have fb : (E != 0) = true := by simpa using h0
    have hge := Lib.hid hge
    clear h0
    obtain ⟨h1, h2, hb⟩ := startgv w g v
    go_enter Tryz.func47, Tryz.ntmps47
    go_wp2_with (refine wpList_load_mid rfl 25 (.tmp 2) rfl (w.heap.size) 0 rfl [.int .i64 g.t0, .int .i64 g.t1, .int .i64 g.t2, .int .i64 g.p0, .int .i64 g.p1, .int .i64 g.p2, .int .i64 g.m0, .int .i64 g.m1, .int .i64 g.m2, .int .i64 g.m3] _ h1.out.range Tryz.underlying25 rfl grSize ?_)
    refine (CheckGrading_any g _).mono ?_
    rintro e w1 ⟨rfl, hb1⟩
    rw [hge.out]
    have k1 := Lib.hid (h1.out.below hb1)
    have k2 := Lib.hid (h2.out.below hb1)
    have hbw := Lib.hid (below_step hb.out hb1)
    clear hb1 h1 h2 hb
    have v0 := k2.out.c 0 _ rfl
    have v1 := k2.out.c 1 _ rfl
    have v2 := k2.out.c 2 _ rfl
    have v3 := k2.out.c 3 _ rfl
    go_wp2_with fail
    go_ret2
    exact ⟨by rw [hfin.out]; first | done | rfl, hbw.out⟩
end Go.Proofs.YtbegbajlagcbdaaGreatDoor
