/- Chapter 8 and what it rests on: definitions and walks, part 28. -/
import Derived.Test.YtbegbajlagcbdaaGreatDoorC27
import Derived.Test.YtbegbajlagcbdaaGreatDoorC24
import Derived.Deep.RegionWith
import Derived.Test.YtbegbajlagcbdaaGreatDoorC01
namespace Go.Proofs.YtbegbajlagcbdaaGreatDoor
open Go Go.RowKit
/-- The error of a visit. -/
def Cal.visErr (v : Vis) : Int :=
  if (0 ≤ v.day ∧ v.day ≤ 200000) ∧ (0 ≤ v.kind ∧ v.kind ≤ 2) ∧ (0 ≤ v.tilt ∧ v.tilt ≤ 1000) ∧ (0 ≤ v.push ∧ v.push ≤ 5000) then (if v.kind ≠ 0 ∧ (v.tilt ≠ 0 ∨ v.push ≠ 0) then 3 else 0) else 2
set_option maxRecDepth 100000 in
set_option maxHeartbeats 4000000 in
theorem checkVisit_any (v : Vis) (w : World) : Calls Tryz.prog 99 #[.agg #[.int .i64 v.day, .int .i64 v.kind, .int .i64 v.tilt, .int .i64 v.push]] w fun e w' => e = .returned (.int .i64 (Cal.visErr v)) ∧ Below w.heap.size w w' := by
  by_cases h1 : 0 ≤ v.day ∧ v.day ≤ 200000
  · by_cases h2 : 0 ≤ v.kind ∧ v.kind ≤ 2
    · by_cases h3 : 0 ≤ v.tilt ∧ v.tilt ≤ 1000
      · by_cases h4 : 0 ≤ v.push ∧ v.push ≤ 5000
        · by_cases hk : v.kind = 0
          · have hfin : Hid (Cal.visErr v = 0) := by show _ = _; unfold Cal.visErr; rw [if_pos ⟨h1, h2, h3, h4⟩, if_neg (fun h => h.1 hk)]
            have kb : (v.kind != 0) = false := by simpa using hk
            obtain ⟨a0, a1⟩ := h1
            obtain ⟨b0, b1⟩ := h2
            obtain ⟨c0, c1⟩ := h3
            obtain ⟨d0, d1⟩ := h4
            clear hk
            go_enter Tryz.func99, Tryz.ntmps99
            go_wp2_with (first | (go_at_call 56; first | refine rin ?_ | refine rout ?_ | refine rany ?_) | ((first | (go_at_call 134) | (go_at_call 59) | (go_at_call 133) | (go_at_call 14) | (go_at_call 178) | (fail) | (go_at_call 139)); first | refine rin ?_ | refine rout ?_ | refine rany ?_))
            go_ret
            exact ⟨ret_int hfin.out.symm, by exact blw⟩
          · have kb : (v.kind != 0) = true := by simpa using hk
            by_cases ht : v.tilt = 0
            · have tb : (v.tilt != 0) = false := by simpa using ht
              by_cases hp : v.push = 0
              · have hfin : Hid (Cal.visErr v = 0) := by show _ = _; unfold Cal.visErr; rw [if_pos ⟨h1, h2, h3, h4⟩, if_neg (fun h => h.2.elim (fun h => h ht) (fun h => h hp))]
                have pb : (v.push != 0) = false := by simpa using hp
                obtain ⟨a0, a1⟩ := h1
                obtain ⟨b0, b1⟩ := h2
                obtain ⟨c0, c1⟩ := h3
                obtain ⟨d0, d1⟩ := h4
                clear hk ht hp
                go_enter Tryz.func99, Tryz.ntmps99
                go_wp2_with (first | (go_at_call 56; first | refine rin ?_ | refine rout ?_ | refine rany ?_) | ((first | (go_at_call 134) | (go_at_call 59) | (go_at_call 133) | (go_at_call 14) | (go_at_call 178) | (fail) | (go_at_call 139)); first | refine rin ?_ | refine rout ?_ | refine rany ?_))
                go_ret
                exact ⟨ret_int hfin.out.symm, by exact blw⟩
              · have hfin : Hid (Cal.visErr v = 3) := by show _ = _; unfold Cal.visErr; rw [if_pos ⟨h1, h2, h3, h4⟩, if_pos ⟨hk, .inr hp⟩]
                have pb : (v.push != 0) = true := by simpa using hp
                obtain ⟨a0, a1⟩ := h1
                obtain ⟨b0, b1⟩ := h2
                obtain ⟨c0, c1⟩ := h3
                obtain ⟨d0, d1⟩ := h4
                clear hk ht hp
                go_enter Tryz.func99, Tryz.ntmps99
                go_wp2_with (first | (go_at_call 56; first | refine rin ?_ | refine rout ?_ | refine rany ?_) | ((first | (go_at_call 134) | (go_at_call 59) | (go_at_call 133) | (go_at_call 14) | (go_at_call 178) | (fail) | (go_at_call 139)); first | refine rin ?_ | refine rout ?_ | refine rany ?_))
                go_ret
                exact ⟨ret_int hfin.out.symm, by exact blw⟩
            · have hfin : Hid (Cal.visErr v = 3) := by show _ = _; unfold Cal.visErr; rw [if_pos ⟨h1, h2, h3, h4⟩, if_pos ⟨hk, .inl ht⟩]
              have tb : (v.tilt != 0) = true := by simpa using ht
              obtain ⟨a0, a1⟩ := h1
              obtain ⟨b0, b1⟩ := h2
              obtain ⟨c0, c1⟩ := h3
              obtain ⟨d0, d1⟩ := h4
              clear hk ht
              go_enter Tryz.func99, Tryz.ntmps99
              go_wp2_with (first | (go_at_call 56; first | refine rin ?_ | refine rout ?_ | refine rany ?_) | ((first | (go_at_call 134) | (go_at_call 59) | (go_at_call 133) | (go_at_call 14) | (go_at_call 178) | (fail) | (go_at_call 139)); first | refine rin ?_ | refine rout ?_ | refine rany ?_))
              go_ret
              exact ⟨ret_int hfin.out.symm, by exact blw⟩
        · have hfin : Hid (Cal.visErr v = 2) := by show _ = _; unfold Cal.visErr; rw [if_neg (fun h => h4 h.2.2.2)]
          obtain ⟨a0, a1⟩ := h1
          obtain ⟨b0, b1⟩ := h2
          obtain ⟨c0, c1⟩ := h3
          have h4' : v.push < 0 ∨ 5000 < v.push := by omega
          clear h4
          go_enter Tryz.func99, Tryz.ntmps99
          go_wp2_with (first | (go_at_call 56; first | refine rin ?_ | refine rout ?_ | refine rany ?_) | ((first | (go_at_call 134) | (go_at_call 59) | (go_at_call 133) | (go_at_call 14) | (go_at_call 178) | (fail) | (go_at_call 139)); first | refine rin ?_ | refine rout ?_ | refine rany ?_))
          go_ret
          exact ⟨ret_int hfin.out.symm, by exact blw⟩
      · have hfin : Hid (Cal.visErr v = 2) := by show _ = _; unfold Cal.visErr; rw [if_neg (fun h => h3 h.2.2.1)]
        obtain ⟨a0, a1⟩ := h1
        obtain ⟨b0, b1⟩ := h2
        have h3' : v.tilt < 0 ∨ 1000 < v.tilt := by omega
        clear h3
        go_enter Tryz.func99, Tryz.ntmps99
        go_wp2_with (first | (go_at_call 56; first | refine rin ?_ | refine rout ?_ | refine rany ?_) | ((first | (go_at_call 134) | (go_at_call 59) | (go_at_call 133) | (go_at_call 14) | (go_at_call 178) | (fail) | (go_at_call 139)); first | refine rin ?_ | refine rout ?_ | refine rany ?_))
        go_ret
        exact ⟨ret_int hfin.out.symm, by exact blw⟩
    · have hfin : Hid (Cal.visErr v = 2) := by show _ = _; unfold Cal.visErr; rw [if_neg (fun h => h2 h.2.1)]
      obtain ⟨a0, a1⟩ := h1
      have h2' : v.kind < 0 ∨ 2 < v.kind := by omega
      clear h2
      go_enter Tryz.func99, Tryz.ntmps99
      go_wp2_with (first | (go_at_call 56; first | refine rin ?_ | refine rout ?_ | refine rany ?_) | ((first | (go_at_call 134) | (go_at_call 59) | (go_at_call 133) | (go_at_call 14) | (go_at_call 178) | (fail) | (go_at_call 139)); first | refine rin ?_ | refine rout ?_ | refine rany ?_))
      go_ret
      exact ⟨ret_int hfin.out.symm, by exact blw⟩
  · have hfin : Hid (Cal.visErr v = 2) := by show _ = _; unfold Cal.visErr; rw [if_neg (fun h => h1 h.1)]
    have h1' : v.day < 0 ∨ 200000 < v.day := by omega
    clear h1
    go_enter Tryz.func99, Tryz.ntmps99
    go_wp2_with (first | (go_at_call 56; first | refine rin ?_ | refine rout ?_ | refine rany ?_) | ((first | (go_at_call 134) | (go_at_call 59) | (go_at_call 133) | (go_at_call 14) | (go_at_call 178) | (fail) | (go_at_call 139)); first | refine rin ?_ | refine rout ?_ | refine rany ?_))
    go_ret
    exact ⟨ret_int hfin.out.symm, by exact blw⟩
/-- The grade behind a visit. -/
def Cal.gradeS (g : Grad) (v : Vis) : Int :=
  if v.kind = 0 then (if g.t2 ≤ v.tilt ∨ v.push ≤ g.p2 then 3 else if g.t1 ≤ v.tilt ∨ v.push ≤ g.p1 then 2 else if g.t0 ≤ v.tilt ∨ v.push ≤ g.p0 then 1 else 0) else 0
theorem Cal.grade_3 {g : Grad} {v : Vis} (hk : v.kind = 0) (h : g.t2 ≤ v.tilt ∨ v.push ≤ g.p2) : Cal.gradeS g v = 3 := by unfold Cal.gradeS; rw [if_pos hk, if_pos h]
theorem Cal.grade_2 {g : Grad} {v : Vis} (hk : v.kind = 0) (h3 : ¬ (g.t2 ≤ v.tilt ∨ v.push ≤ g.p2)) (h : g.t1 ≤ v.tilt ∨ v.push ≤ g.p1) : Cal.gradeS g v = 2 := by unfold Cal.gradeS; rw [if_pos hk, if_neg h3, if_pos h]
theorem Cal.grade_1 {g : Grad} {v : Vis} (hk : v.kind = 0) (h3 : ¬ (g.t2 ≤ v.tilt ∨ v.push ≤ g.p2)) (h2 : ¬ (g.t1 ≤ v.tilt ∨ v.push ≤ g.p1)) (h : g.t0 ≤ v.tilt ∨ v.push ≤ g.p0) : Cal.gradeS g v = 1 := by unfold Cal.gradeS; rw [if_pos hk, if_neg h3, if_neg h2, if_pos h]
theorem Cal.grade_0 {g : Grad} {v : Vis} (hk : v.kind = 0) (h3 : ¬ (g.t2 ≤ v.tilt ∨ v.push ≤ g.p2)) (h2 : ¬ (g.t1 ≤ v.tilt ∨ v.push ≤ g.p1)) (h : ¬ (g.t0 ≤ v.tilt ∨ v.push ≤ g.p0)) : Cal.gradeS g v = 0 := by unfold Cal.gradeS; rw [if_pos hk, if_neg h3, if_neg h2, if_neg h]
set_option maxRecDepth 100000 in
set_option maxHeartbeats 4000000 in
theorem grade_any (g : Grad) (v : Vis) (w : World) : Calls Tryz.prog 100 #[.agg #[.int .i64 g.t0, .int .i64 g.t1, .int .i64 g.t2, .int .i64 g.p0, .int .i64 g.p1, .int .i64 g.p2, .int .i64 g.m0, .int .i64 g.m1, .int .i64 g.m2, .int .i64 g.m3], .agg #[.int .i64 v.day, .int .i64 v.kind, .int .i64 v.tilt, .int .i64 v.push]] w fun e w' => e = .returned (.int .i64 (Cal.gradeS g v)) ∧ Below w.heap.size w w' := by
  by_cases hk : v.kind = 0
  · have kb : (v.kind != 0) = false := by simpa using hk
    have hkz := Lib.hid hk
    have hb : Hid (Below w.heap.size w ((w.alloc (.cells #[.int .i64 g.t0, .int .i64 g.t1, .int .i64 g.t2, .int .i64 g.p0, .int .i64 g.p1, .int .i64 g.p2, .int .i64 g.m0, .int .i64 g.m1, .int .i64 g.m2, .int .i64 g.m3] 25)).alloc (.cells #[.int .i64 v.day, .int .i64 v.kind, .int .i64 v.tilt, .int .i64 v.push] 106))) := below_step (below_alloc _ _) (below_alloc _ _)
    clear hk
    go_enter Tryz.func100, Tryz.ntmps100
    go_wp2_with fail
    go_loopw [5] (fun i wr => ∃ n : Nat, ((i = .int .i64 2) ∨ (i = .int .i64 1 ∧ Hid (¬ (g.t2 ≤ v.tilt ∨ v.push ≤ g.p2))) ∨ (i = .int .i64 0 ∧ Hid (¬ (g.t2 ≤ v.tilt ∨ v.push ≤ g.p2)) ∧ Hid (¬ (g.t1 ≤ v.tilt ∨ v.push ≤ g.p1))) ∨ (i = .int .i64 (-1) ∧ Hid (¬ (g.t2 ≤ v.tilt ∨ v.push ≤ g.p2)) ∧ Hid (¬ (g.t1 ≤ v.tilt ∨ v.push ≤ g.p1)) ∧ Hid (¬ (g.t0 ≤ v.tilt ∨ v.push ≤ g.p0)))) ∧ wr = World.drewN ((w.alloc (.cells #[.int .i64 g.t0, .int .i64 g.t1, .int .i64 g.t2, .int .i64 g.p0, .int .i64 g.p1, .int .i64 g.p2, .int .i64 g.m0, .int .i64 g.m1, .int .i64 g.m2, .int .i64 g.m3] 25)).alloc (.cells #[.int .i64 v.day, .int .i64 v.kind, .int .i64 v.tilt, .int .i64 v.push] 106)) n) (fun i _ => (intOf i + 1).toNat)
    case atStart => exact ⟨0, .inl rfl, rfl⟩
    case round =>
      obtain ⟨n, hi, rfl⟩ := hrel
      rcases hi with rfl | ⟨rfl, n3⟩ | ⟨rfl, n3, n2⟩ | ⟨rfl, n3, n2, n1⟩
      · by_cases ht : g.t2 ≤ v.tilt
        · have hfin : Hid (_ = _) := Cal.grade_3 hkz.out (.inl ht)
          have hd : decide (g.t2 ≤ v.tilt) = true := by simpa using ht
          clear ht
          go_wp2_with fail
          go_quiet (fail)
          go_wp2_with fail
          go_ret
          exact ⟨ret_int hfin.out.symm, below_drewN hb.out _⟩
        · have hd : decide (g.t2 ≤ v.tilt) = false := by simpa using ht
          by_cases hp : v.push ≤ g.p2
          · have hfin : Hid (_ = _) := Cal.grade_3 hkz.out (.inr hp)
            have hd2 : decide (v.push ≤ g.p2) = true := by simpa using hp
            clear ht hp
            go_wp2_with fail
            go_quiet (fail)
            go_wp2_with fail
            go_ret
            exact ⟨ret_int hfin.out.symm, below_drewN hb.out _⟩
          · have hno : Hid (¬ (g.t2 ≤ v.tilt ∨ v.push ≤ g.p2)) := fun h => h.elim ht hp
            have hd2 : decide (v.push ≤ g.p2) = false := by simpa using hp
            clear ht hp
            go_wp2_with fail
            go_quiet (fail)
            go_wp2_with fail
            go_roundw
            case rel => exact ⟨_, .inr (.inl ⟨rfl, hno⟩), rfl⟩
            case measure => simp [intOf]
      · by_cases ht : g.t1 ≤ v.tilt
        · have hfin : Hid (_ = _) := Cal.grade_2 hkz.out n3.out (.inl ht)
          have hd : decide (g.t1 ≤ v.tilt) = true := by simpa using ht
          clear ht
          go_wp2_with fail
          go_quiet (fail)
          go_wp2_with fail
          go_ret
          exact ⟨ret_int hfin.out.symm, below_drewN hb.out _⟩
        · have hd : decide (g.t1 ≤ v.tilt) = false := by simpa using ht
          by_cases hp : v.push ≤ g.p1
          · have hfin : Hid (_ = _) := Cal.grade_2 hkz.out n3.out (.inr hp)
            have hd2 : decide (v.push ≤ g.p1) = true := by simpa using hp
            clear ht hp
            go_wp2_with fail
            go_quiet (fail)
            go_wp2_with fail
            go_ret
            exact ⟨ret_int hfin.out.symm, below_drewN hb.out _⟩
          · have hno : Hid (¬ (g.t1 ≤ v.tilt ∨ v.push ≤ g.p1)) := fun h => h.elim ht hp
            have hd2 : decide (v.push ≤ g.p1) = false := by simpa using hp
            clear ht hp
            go_wp2_with fail
            go_quiet (fail)
            go_wp2_with fail
            go_roundw
            case rel => exact ⟨_, .inr (.inr (.inl ⟨rfl, n3, hno⟩)), rfl⟩
            case measure => simp [intOf]
      · by_cases ht : g.t0 ≤ v.tilt
        · have hfin : Hid (_ = _) := Cal.grade_1 hkz.out n3.out n2.out (.inl ht)
          have hd : decide (g.t0 ≤ v.tilt) = true := by simpa using ht
          clear ht
          go_wp2_with fail
          go_quiet (fail)
          go_wp2_with fail
          go_ret
          exact ⟨ret_int hfin.out.symm, below_drewN hb.out _⟩
        · have hd : decide (g.t0 ≤ v.tilt) = false := by simpa using ht
          by_cases hp : v.push ≤ g.p0
          · have hfin : Hid (_ = _) := Cal.grade_1 hkz.out n3.out n2.out (.inr hp)
            have hd2 : decide (v.push ≤ g.p0) = true := by simpa using hp
            clear ht hp
            go_wp2_with fail
            go_quiet (fail)
            go_wp2_with fail
            go_ret
            exact ⟨ret_int hfin.out.symm, below_drewN hb.out _⟩
          · have hno : Hid (¬ (g.t0 ≤ v.tilt ∨ v.push ≤ g.p0)) := fun h => h.elim ht hp
            have hd2 : decide (v.push ≤ g.p0) = false := by simpa using hp
            clear ht hp
            go_wp2_with fail
            go_quiet (fail)
            go_wp2_with fail
            go_roundw
            case rel => exact ⟨_, .inr (.inr (.inr ⟨rfl, n3, n2, hno⟩)), rfl⟩
            case measure => simp [intOf]
      · have hfin := Lib.hid (Cal.grade_0 hkz.out n3.out n2.out n1.out)
        go_wp2_with fail
        go_ret
        exact ⟨ret_int hfin.out.symm, below_drewN hb.out _⟩
  · have hfin : Hid (Cal.gradeS g v = 0) := by show _ = _; unfold Cal.gradeS; rw [if_neg hk]
    have kb : (v.kind != 0) = true := by simpa using hk
    clear hk
    go_enter Tryz.func100, Tryz.ntmps100
    go_wp2_with fail
    go_ret
    exact ⟨ret_int hfin.out.symm, by exact blw⟩
theorem grSize : (Tryz.prog.info? 25).map (·.size) = some 10 := by kernel_rfl
/-- GradeOf: the grade and the error. -/
def Cal.gradeOfS (g : Grad) (v : Vis) : Int × Int :=
  if Cal.gradErr g = 0 then (if Cal.visErr v = 0 then (if v.kind = 0 then (Cal.gradeS g v, 0) else (0, 15)) else (0, Cal.visErr v)) else (0, Cal.gradErr g)
theorem startgv (w : World) (g : Grad) (v : Vis) : Hid (BoxAt ((w.alloc (.cells #[.int .i64 g.t0, .int .i64 g.t1, .int .i64 g.t2, .int .i64 g.p0, .int .i64 g.p1, .int .i64 g.p2, .int .i64 g.m0, .int .i64 g.m1, .int .i64 g.m2, .int .i64 g.m3] 25)).alloc (.cells #[.int .i64 v.day, .int .i64 v.kind, .int .i64 v.tilt, .int .i64 v.push] 106)) w.heap.size [.int .i64 g.t0, .int .i64 g.t1, .int .i64 g.t2, .int .i64 g.p0, .int .i64 g.p1, .int .i64 g.p2, .int .i64 g.m0, .int .i64 g.m1, .int .i64 g.m2, .int .i64 g.m3]) ∧ Hid (BoxAt ((w.alloc (.cells #[.int .i64 g.t0, .int .i64 g.t1, .int .i64 g.t2, .int .i64 g.p0, .int .i64 g.p1, .int .i64 g.p2, .int .i64 g.m0, .int .i64 g.m1, .int .i64 g.m2, .int .i64 g.m3] 25)).alloc (.cells #[.int .i64 v.day, .int .i64 v.kind, .int .i64 v.tilt, .int .i64 v.push] 106)) (w.heap.size + 1) [.int .i64 v.day, .int .i64 v.kind, .int .i64 v.tilt, .int .i64 v.push]) ∧ Hid (Below w.heap.size w ((w.alloc (.cells #[.int .i64 g.t0, .int .i64 g.t1, .int .i64 g.t2, .int .i64 g.p0, .int .i64 g.p1, .int .i64 g.p2, .int .i64 g.m0, .int .i64 g.m1, .int .i64 g.m2, .int .i64 g.m3] 25)).alloc (.cells #[.int .i64 v.day, .int .i64 v.kind, .int .i64 v.tilt, .int .i64 v.push] 106))) := by
  have h := BoxAt.new (w.alloc (.cells #[.int .i64 g.t0, .int .i64 g.t1, .int .i64 g.t2, .int .i64 g.p0, .int .i64 g.p1, .int .i64 g.p2, .int .i64 g.m0, .int .i64 g.m1, .int .i64 g.m2, .int .i64 g.m3] 25)) #[.int .i64 v.day, .int .i64 v.kind, .int .i64 v.tilt, .int .i64 v.push] 106
  rw [World.size_alloc] at h
  exact ⟨(BoxAt.new w _ _).alloc _, h, below_step (below_alloc _ _) (below_alloc _ _)⟩
set_option maxRecDepth 100000 in
set_option maxHeartbeats 4000000 in
theorem GradeOf_any (g : Grad) (v : Vis) (w : World) : Calls Tryz.prog 47 #[.agg #[.int .i64 g.t0, .int .i64 g.t1, .int .i64 g.t2, .int .i64 g.p0, .int .i64 g.p1, .int .i64 g.p2, .int .i64 g.m0, .int .i64 g.m1, .int .i64 g.m2, .int .i64 g.m3], .agg #[.int .i64 v.day, .int .i64 v.kind, .int .i64 v.tilt, .int .i64 v.push]] w (IEPost w (Cal.gradeOfS g v)) := by
  obtain ⟨E, hge⟩ : ∃ E, Cal.gradErr g = E := ⟨_, rfl⟩
  by_cases h0 : E = 0
  · subst h0
    obtain ⟨F, hve⟩ : ∃ F, Cal.visErr v = F := ⟨_, rfl⟩
    by_cases h1 : F = 0
    · subst h1
      by_cases hk : v.kind = 0
      · have hfin : Hid (Cal.gradeOfS g v = (Cal.gradeS g v, 0)) := by show _ = _; unfold Cal.gradeOfS; rw [if_pos hge, if_pos hve, if_pos hk]
        have kb : (v.kind != 0) = false := by simpa using hk
        have hge := Lib.hid hge
        have hve := Lib.hid hve
        clear hk
        obtain ⟨h1, h2, hb⟩ := startgv w g v
        go_enter Tryz.func47, Tryz.ntmps47
        go_wp2_with (refine wpList_load_mid rfl 25 (.tmp 2) rfl (w.heap.size) 0 rfl [.int .i64 g.t0, .int .i64 g.t1, .int .i64 g.t2, .int .i64 g.p0, .int .i64 g.p1, .int .i64 g.p2, .int .i64 g.m0, .int .i64 g.m1, .int .i64 g.m2, .int .i64 g.m3] _ h1.out.range Tryz.underlying25 rfl grSize ?_)
        refine (CheckGrading_any g _).mono ?_
        rintro e w1 ⟨rfl, hb1⟩
        rw [hge.out]
        have k1 := Lib.hid (h1.out.below hb1)
        have k2 := Lib.hid (h2.out.below hb1)
        have hbw := Lib.hid (below_step hb.out hb1)
        clear hb1 h1 h2 hb
        have v0 := k2.out.c 0 _ rfl
        have v1 := k2.out.c 1 _ rfl
        have v2 := k2.out.c 2 _ rfl
        have v3 := k2.out.c 3 _ rfl
        go_wp2_with fail
        refine (checkVisit_any v _).mono ?_
        rintro e w2 ⟨rfl, hb2⟩
        rw [hve.out]
        have l1 := Lib.hid (k1.out.below hb2)
        have l2 := Lib.hid (k2.out.below hb2)
        have hbw2 := Lib.hid (below_step hbw.out hb2)
        clear hb2 k1 k2 v0 v1 v2 v3
        have v0 := l2.out.c 0 _ rfl
        have v1 := l2.out.c 1 _ rfl
        have v2 := l2.out.c 2 _ rfl
        have v3 := l2.out.c 3 _ rfl
        go_wp2_with (refine wpList_load_mid rfl 25 (.tmp 2) rfl (w.heap.size) 0 rfl [.int .i64 g.t0, .int .i64 g.t1, .int .i64 g.t2, .int .i64 g.p0, .int .i64 g.p1, .int .i64 g.p2, .int .i64 g.m0, .int .i64 g.m1, .int .i64 g.m2, .int .i64 g.m3] _ l1.out.range Tryz.underlying25 rfl grSize ?_)
        refine (grade_any g v _).mono ?_
        rintro e w3 ⟨rfl, hb3⟩
        have hbw3 := Lib.hid (below_step hbw2.out hb3)
        clear hb3
        go_wp2_with fail
        go_ret2
        exact ⟨by rw [hfin.out]; first | done | rfl, hbw3.out⟩
      · have hfin : Hid (Cal.gradeOfS g v = (0, 15)) := by show _ = _; unfold Cal.gradeOfS; rw [if_pos hge, if_pos hve, if_neg hk]
        have kb : (v.kind != 0) = true := by simpa using hk
        have hge := Lib.hid hge
        have hve := Lib.hid hve
        clear hk
        obtain ⟨h1, h2, hb⟩ := startgv w g v
        go_enter Tryz.func47, Tryz.ntmps47
        go_wp2_with (refine wpList_load_mid rfl 25 (.tmp 2) rfl (w.heap.size) 0 rfl [.int .i64 g.t0, .int .i64 g.t1, .int .i64 g.t2, .int .i64 g.p0, .int .i64 g.p1, .int .i64 g.p2, .int .i64 g.m0, .int .i64 g.m1, .int .i64 g.m2, .int .i64 g.m3] _ h1.out.range Tryz.underlying25 rfl grSize ?_)
        refine (CheckGrading_any g _).mono ?_
        rintro e w1 ⟨rfl, hb1⟩
        rw [hge.out]
        have k1 := Lib.hid (h1.out.below hb1)
        have k2 := Lib.hid (h2.out.below hb1)
        have hbw := Lib.hid (below_step hb.out hb1)
        clear hb1 h1 h2 hb
        have v0 := k2.out.c 0 _ rfl
        have v1 := k2.out.c 1 _ rfl
        have v2 := k2.out.c 2 _ rfl
        have v3 := k2.out.c 3 _ rfl
        go_wp2_with fail
        refine (checkVisit_any v _).mono ?_
        rintro e w2 ⟨rfl, hb2⟩
        rw [hve.out]
        have l1 := Lib.hid (k1.out.below hb2)
        have l2 := Lib.hid (k2.out.below hb2)
        have hbw2 := Lib.hid (below_step hbw.out hb2)
        clear hb2 k1 k2 v0 v1 v2 v3
        have v0 := l2.out.c 0 _ rfl
        have v1 := l2.out.c 1 _ rfl
        have v2 := l2.out.c 2 _ rfl
        have v3 := l2.out.c 3 _ rfl
        go_wp2_with (refine wpList_load_mid rfl 25 (.tmp 2) rfl (w.heap.size) 0 rfl [.int .i64 g.t0, .int .i64 g.t1, .int .i64 g.t2, .int .i64 g.p0, .int .i64 g.p1, .int .i64 g.p2, .int .i64 g.m0, .int .i64 g.m1, .int .i64 g.m2, .int .i64 g.m3] _ l1.out.range Tryz.underlying25 rfl grSize ?_)
        go_ret2
        exact ⟨by rw [hfin.out]; first | done | rfl, hbw2.out⟩
    · have hfin : Hid (Cal.gradeOfS g v = (0, F)) := by show _ = _; unfold Cal.gradeOfS; rw [if_pos hge, if_neg (by rw [hve]; exact h1), hve]
      have fb : (F != 0) = true := by simpa using h1
      have hge := Lib.hid hge
      have hve := Lib.hid hve
      clear h1
      obtain ⟨h1, h2, hb⟩ := startgv w g v
      go_enter Tryz.func47, Tryz.ntmps47
      go_wp2_with (refine wpList_load_mid rfl 25 (.tmp 2) rfl (w.heap.size) 0 rfl [.int .i64 g.t0, .int .i64 g.t1, .int .i64 g.t2, .int .i64 g.p0, .int .i64 g.p1, .int .i64 g.p2, .int .i64 g.m0, .int .i64 g.m1, .int .i64 g.m2, .int .i64 g.m3] _ h1.out.range Tryz.underlying25 rfl grSize ?_)
      refine (CheckGrading_any g _).mono ?_
      rintro e w1 ⟨rfl, hb1⟩
      rw [hge.out]
      have k1 := Lib.hid (h1.out.below hb1)
      have k2 := Lib.hid (h2.out.below hb1)
      have hbw := Lib.hid (below_step hb.out hb1)
      clear hb1 h1 h2 hb
      have v0 := k2.out.c 0 _ rfl
      have v1 := k2.out.c 1 _ rfl
      have v2 := k2.out.c 2 _ rfl
      have v3 := k2.out.c 3 _ rfl
      go_wp2_with fail
      refine (checkVisit_any v _).mono ?_
      rintro e w2 ⟨rfl, hb2⟩
      rw [hve.out]
      have hbw2 := Lib.hid (below_step hbw.out hb2)
      clear hb2
      go_wp2_with fail
      go_ret2
      exact ⟨by rw [hfin.out]; first | done | rfl, hbw2.out⟩
  · have hfin : Hid (Cal.gradeOfS g v = (0, E)) := by show _ = _; unfold Cal.gradeOfS; rw [if_neg (by rw [hge]; exact h0), hge]
    have fb : (E != 0) = true := by simpa using h0
    have hge := Lib.hid hge
    clear h0
    obtain ⟨h1, h2, hb⟩ := startgv w g v
    go_enter Tryz.func47, Tryz.ntmps47
    go_wp2_with (refine wpList_load_mid rfl 25 (.tmp 2) rfl (w.heap.size) 0 rfl [.int .i64 g.t0, .int .i64 g.t1, .int .i64 g.t2, .int .i64 g.p0, .int .i64 g.p1, .int .i64 g.p2, .int .i64 g.m0, .int .i64 g.m1, .int .i64 g.m2, .int .i64 g.m3] _ h1.out.range Tryz.underlying25 rfl grSize ?_)
    refine (CheckGrading_any g _).mono ?_
    rintro e w1 ⟨rfl, hb1⟩
    rw [hge.out]
    have k1 := Lib.hid (h1.out.below hb1)
    have k2 := Lib.hid (h2.out.below hb1)
    have hbw := Lib.hid (below_step hb.out hb1)
    clear hb1 h1 h2 hb
    have v0 := k2.out.c 0 _ rfl
    have v1 := k2.out.c 1 _ rfl
    have v2 := k2.out.c 2 _ rfl
    have v3 := k2.out.c 3 _ rfl
    go_wp2_with fail
    go_ret2
    exact ⟨by rw [hfin.out]; first | done | rfl, hbw.out⟩
end Go.Proofs.YtbegbajlagcbdaaGreatDoor
namespace Go.Proofs.YtbegbajlagcbdaaGreatDoor
open Go Go.RowKit
structure Mon where
  name : ByteArray
  place : ByteArray
  visits : List Vis
def Vis.cells (v : Vis) : List Value := [.int .i64 v.day, .int .i64 v.kind, .int .i64 v.tilt, .int .i64 v.push]
/-- Visits in memory. -/
structure Viss (w : World) (A : Option Addr) (l : List Vis) : Prop where
  rows : RowsAt w A 4 (l.map Vis.cells)
  size : l.length ≤ 9223372036854775807
theorem Viss.below {w w' : World} {A : Option Addr} {l : List Vis} (h : Viss w A l) (hb : Below w.heap.size w w') : Viss w' A l := ⟨h.rows.below hb, h.size⟩
theorem Viss.at_ {w : World} {A : Option Addr} {l : List Vis} (h : Viss w A l) {k : Nat} {v : Vis} (hk : l[k]? = some v) :
    ∃ b o, A = some ⟨b, o, none⟩ ∧ b < w.heap.size ∧ w.cell? ⟨b, o + k * 4, none⟩ = some (.int .i64 v.day) ∧ w.cell? ⟨b, o + k * 4 + 1, none⟩ = some (.int .i64 v.kind) ∧ w.cell? ⟨b, o + k * 4 + 2, none⟩ = some (.int .i64 v.tilt) ∧ w.cell? ⟨b, o + k * 4 + 3, none⟩ = some (.int .i64 v.push) := by
  obtain ⟨b, o, hA, hlt, hc⟩ := h.rows k v.cells (by simp [hk])
  exact ⟨b, o, hA, hlt, hc 0 _ rfl, hc 1 _ rfl, hc 2 _ rfl, hc 3 _ rfl⟩
/-- The error of visits behind a day. -/
def Cal.visitsErr : Int → List Vis → Int
  | _, [] => 0
  | day, v :: l => if Cal.visErr v = 0 then (if v.day < day then 9 else Cal.visitsErr v.day l) else Cal.visErr v
def Cal.monErr (m : Mon) : Int := if nameB m.name = true ∧ nameB m.place = true then (if m.visits.length ≤ 40 then Cal.visitsErr 0 m.visits else 8) else 4
/-- What a monument hangs on in memory. -/
structure MB (w : World) (V : Option Addr) (m : Mon) : Prop where
  vis : Viss w V m.visits
  name : m.name.size ≤ maxLen
  place : m.place.size ≤ maxLen
theorem MB.below {w w' : World} {V : Option Addr} {m : Mon} (h : MB w V m) (hb : Below w.heap.size w w') : MB w' V m := ⟨h.vis.below hb, h.name, h.place⟩
theorem viSize : (Tryz.prog.info? 106).map (·.size) = some 4 := by kernel_rfl
set_option maxRecDepth 100000 in
set_option maxHeartbeats 4000000 in
theorem CheckMonument_any (V : Option Addr) (d : Nat) (m : Mon) (w : World) (hM : MB w V m) :
    Calls Tryz.prog 54 #[.agg #[.string m.name, .string m.place, .slice V m.visits.length d]] w fun e w' => e = .returned (.int .i64 (Cal.monErr m)) ∧ Below w.heap.size w w' := by
  have hsz := hM.vis.size
  have hM := Lib.hid hM
  obtain ⟨b1, q1⟩ : ∃ b, nameB m.name = b := ⟨_, rfl⟩
  obtain ⟨b2, q2⟩ : ∃ b, nameB m.place = b := ⟨_, rfl⟩
  cases b1
  · have hfin : Hid (Cal.monErr m = 4) := by show _ = _; unfold Cal.monErr; rw [if_neg (fun h => by rw [q1] at h; exact absurd h.1 (by decide))]
    have q1 := Lib.hid q1
    have q2 := Lib.hid q2
    have h1 := Lib.hid (BoxAt.new w #[.string m.name, .string m.place, .slice V m.visits.length d] 31)
    have hb := Lib.hid (below_alloc w (.cells #[.string m.name, .string m.place, .slice V m.visits.length d] 31))
    have c0 := h1.out.c 0 _ rfl
    have c1 := h1.out.c 1 _ rfl
    have c2 := h1.out.c 2 _ rfl
    go_enter Tryz.func54, Tryz.ntmps54
    go_wp2_with (first | (go_at_call_of 106 (Value.string m.name); refine (nisName_any m.name _ hM.out.name).mono ?_; rintro e w' ⟨rfl, rfl⟩; rw [q1.out]) | (go_at_call_of 106 (Value.string m.place); refine (nisName_any m.place _ hM.out.place).mono ?_; rintro e w' ⟨rfl, rfl⟩; rw [q2.out]))
    go_ret
    exact ⟨ret_int hfin.out.symm, hb.out⟩
  cases b2
  · have hfin : Hid (Cal.monErr m = 4) := by show _ = _; unfold Cal.monErr; rw [if_neg (fun h => by rw [q2] at h; exact absurd h.2 (by decide))]
    have q1 := Lib.hid q1
    have q2 := Lib.hid q2
    have h1 := Lib.hid (BoxAt.new w #[.string m.name, .string m.place, .slice V m.visits.length d] 31)
    have hb := Lib.hid (below_alloc w (.cells #[.string m.name, .string m.place, .slice V m.visits.length d] 31))
    have c0 := h1.out.c 0 _ rfl
    have c1 := h1.out.c 1 _ rfl
    have c2 := h1.out.c 2 _ rfl
    go_enter Tryz.func54, Tryz.ntmps54
    go_wp2_with (first | (go_at_call_of 106 (Value.string m.name); refine (nisName_any m.name _ hM.out.name).mono ?_; rintro e w' ⟨rfl, rfl⟩; rw [q1.out]) | (go_at_call_of 106 (Value.string m.place); refine (nisName_any m.place _ hM.out.place).mono ?_; rintro e w' ⟨rfl, rfl⟩; rw [q2.out]))
    go_ret
    exact ⟨ret_int hfin.out.symm, hb.out⟩
  by_cases hlen : m.visits.length ≤ 40
  · have hfin : Hid (Cal.monErr m = Cal.visitsErr 0 m.visits) := by show _ = _; unfold Cal.monErr; rw [if_pos ⟨q1, q2⟩, if_pos hlen]
    have q1 := Lib.hid q1
    have q2 := Lib.hid q2
    have h1 := Lib.hid (BoxAt.new w #[.string m.name, .string m.place, .slice V m.visits.length d] 31)
    have hb := Lib.hid (below_alloc w (.cells #[.string m.name, .string m.place, .slice V m.visits.length d] 31))
    have c0 := h1.out.c 0 _ rfl
    have c1 := h1.out.c 1 _ rfl
    have c2 := h1.out.c 2 _ rfl
    go_enter Tryz.func54, Tryz.ntmps54
    go_wp2_with (first | (go_at_call_of 106 (Value.string m.name); refine (nisName_any m.name _ hM.out.name).mono ?_; rintro e w' ⟨rfl, rfl⟩; rw [q1.out]) | (go_at_call_of 106 (Value.string m.place); refine (nisName_any m.place _ hM.out.place).mono ?_; rintro e w' ⟨rfl, rfl⟩; rw [q2.out]))
    clear c0 c1 c2
    go_loopw [3, 26] (fun t i wr => ∃ (k : Nat) (day : Int), k ≤ m.visits.length ∧ t = .int .i64 day ∧ i = .int .i64 k ∧ Hid (Cal.visitsErr 0 m.visits = Cal.visitsErr day (m.visits.drop k)) ∧ Hid (Below w.heap.size w wr)) (fun _ i _ => m.visits.length - (intOf i).toNat)
    case atStart => exact ⟨0, 0, Nat.zero_le _, rfl, rfl, rfl, hb⟩
    case round =>
      clear hb h1
      obtain ⟨k, day, hk, rfl, rfl, hE, hb⟩ := hrel
      by_cases hlt : k < m.visits.length
      · have hk' : m.visits[k]? = some m.visits[k] := List.getElem?_eq_getElem hlt
        have hd := List.drop_eq_getElem_cons hlt
        obtain ⟨b, o, rfl, hbl, e0, e1, e2, e3⟩ := (hM.out.vis.below hb.out).at_ hk'
        have hE0 := hE.out
        rw [hd] at hE0
        clear hk' hd hE
        generalize m.visits[k] = v at *
        have hN5 := Lib.hid (BoxAt.new wr #[.int .i64 0, .int .i64 0, .int .i64 0, .int .i64 0] 106)
        have hEq : Cal.visitsErr day (v :: m.visits.drop (k + 1)) = if Cal.visErr v = 0 then (if v.day < day then 9 else Cal.visitsErr v.day (m.visits.drop (k + 1))) else Cal.visErr v := rfl
        rw [hEq] at hE0
        clear hEq
        by_cases hv : Cal.visErr v = 0
        · have hvz := Lib.hid hv
          rw [if_pos hv] at hE0
          by_cases hday : v.day < day
          · have hf2 : Hid (Cal.monErr m = 9) := by show _ = _; rw [hfin.out, hE0, if_pos hday]
            have hdb : decide (v.day < day) = true := by simpa using hday
            clear hE0 hv hday
            go_wp2_with ((refine wpList_store_box rfl 106 (.tmp 5) (.tmp 29) rfl (wr.heap.size) _ [.int .i64 v.day, .int .i64 v.kind, .int .i64 v.tilt, .int .i64 v.push] (by rfl) (by rfl) hN5.out rfl viSize (by kernel_rfl) ?_; intro w3 h3 hg3); have hbn := below_of_grownB (below_alloc wr _) hg3 (Nat.le_refl _); have hb := Lib.hid (below_step hb.out hbn); have h3 := Lib.hid h3; clear hbn hg3 e0 e1 e2 e3; have f0 := h3.out.c 0 _ rfl; have f1 := h3.out.c 1 _ rfl; have f2 := h3.out.c 2 _ rfl; have f3 := h3.out.c 3 _ rfl)
            refine (checkVisit_any v _).mono ?_
            rintro e w4 ⟨rfl, hbn⟩
            rw [hvz.out]
            have g3 := Lib.hid (h3.out.below hbn)
            have hb := Lib.hid (below_step hb.out hbn)
            clear hbn f0 f1 f2 f3
            have f0 := g3.out.c 0 _ rfl
            go_wp2_with fail
            go_ret
            exact ⟨ret_int hf2.out.symm, hb.out⟩
          · rw [if_neg hday] at hE0
            have hE1 := Lib.hid hE0
            have hdb : decide (v.day < day) = false := by simpa using hday
            clear hE0 hv hday
            go_wp2_with ((refine wpList_store_box rfl 106 (.tmp 5) (.tmp 29) rfl (wr.heap.size) _ [.int .i64 v.day, .int .i64 v.kind, .int .i64 v.tilt, .int .i64 v.push] (by rfl) (by rfl) hN5.out rfl viSize (by kernel_rfl) ?_; intro w3 h3 hg3); have hbn := below_of_grownB (below_alloc wr _) hg3 (Nat.le_refl _); have hb := Lib.hid (below_step hb.out hbn); have h3 := Lib.hid h3; clear hbn hg3 e0 e1 e2 e3; have f0 := h3.out.c 0 _ rfl; have f1 := h3.out.c 1 _ rfl; have f2 := h3.out.c 2 _ rfl; have f3 := h3.out.c 3 _ rfl)
            refine (checkVisit_any v _).mono ?_
            rintro e w4 ⟨rfl, hbn⟩
            rw [hvz.out]
            have g3 := Lib.hid (h3.out.below hbn)
            have hb := Lib.hid (below_step hb.out hbn)
            clear hbn f0 f1 f2 f3
            have f0 := g3.out.c 0 _ rfl
            go_wp2_with fail
            go_roundw
            case rel => exact ⟨k + 1, v.day, by omega, rfl, by go_num, hE1, hb⟩
            case measure => simp [intOf]; omega
        · rw [if_neg hv] at hE0
          obtain ⟨F, hF⟩ : ∃ F, Cal.visErr v = F := ⟨_, rfl⟩
          have hf2 : Hid (Cal.monErr m = F) := by show _ = _; rw [hfin.out, hE0, hF]
          have hFb : (F != 0) = true := by rw [← hF]; simpa using hv
          have hFz := Lib.hid hF
          clear hE0 hv hF
          go_wp2_with ((refine wpList_store_box rfl 106 (.tmp 5) (.tmp 29) rfl (wr.heap.size) _ [.int .i64 v.day, .int .i64 v.kind, .int .i64 v.tilt, .int .i64 v.push] (by rfl) (by rfl) hN5.out rfl viSize (by kernel_rfl) ?_; intro w3 h3 hg3); have hbn := below_of_grownB (below_alloc wr _) hg3 (Nat.le_refl _); have hb := Lib.hid (below_step hb.out hbn); have h3 := Lib.hid h3; clear hbn hg3 e0 e1 e2 e3; have f0 := h3.out.c 0 _ rfl; have f1 := h3.out.c 1 _ rfl; have f2 := h3.out.c 2 _ rfl; have f3 := h3.out.c 3 _ rfl)
          refine (checkVisit_any v _).mono ?_
          rintro e w4 ⟨rfl, hbn⟩
          rw [hFz.out]
          have hb := Lib.hid (below_step hb.out hbn)
          clear hbn f0 f1 f2 f3
          go_wp2_with fail
          go_ret
          exact ⟨ret_int hf2.out.symm, hb.out⟩
      · have hge : m.visits.length = k := by omega
        have hf2 : Hid (Cal.monErr m = 0) := by show _ = _; rw [hfin.out, hE.out, List.drop_eq_nil_of_le (by omega)]; rfl
        clear hE
        go_wp2_with fail
        go_ret
        exact ⟨ret_int hf2.out.symm, hb.out⟩
  · have hfin : Hid (Cal.monErr m = 8) := by show _ = _; unfold Cal.monErr; rw [if_pos ⟨q1, q2⟩, if_neg hlen]
    have q1 := Lib.hid q1
    have q2 := Lib.hid q2
    have hlen' : 40 < m.visits.length := by omega
    clear hlen
    have h1 := Lib.hid (BoxAt.new w #[.string m.name, .string m.place, .slice V m.visits.length d] 31)
    have hb := Lib.hid (below_alloc w (.cells #[.string m.name, .string m.place, .slice V m.visits.length d] 31))
    have c0 := h1.out.c 0 _ rfl
    have c1 := h1.out.c 1 _ rfl
    have c2 := h1.out.c 2 _ rfl
    go_enter Tryz.func54, Tryz.ntmps54
    go_wp2_with (first | (go_at_call_of 106 (Value.string m.name); refine (nisName_any m.name _ hM.out.name).mono ?_; rintro e w' ⟨rfl, rfl⟩; rw [q1.out]) | (go_at_call_of 106 (Value.string m.place); refine (nisName_any m.place _ hM.out.place).mono ?_; rintro e w' ⟨rfl, rfl⟩; rw [q2.out]))
    go_ret
    exact ⟨ret_int hfin.out.symm, hb.out⟩
end Go.Proofs.YtbegbajlagcbdaaGreatDoor
namespace Go.Proofs.YtbegbajlagcbdaaGreatDoor
open Go Go.RowKit Go.ChangeShapes Go.WideShapes Go.Deep
section
variable {H : Type} {enc : TypeId × Value → H} {w : World} {spare : Nat → Bool} {held : Bool} {r : Reach} {b0 : Nat} {v : Value} {d : DataW H} {ps : List MemPlace}
set_option maxRecDepth 100000 in
theorem visits_of_trod {fuel : Nat} {x : DataW H × List MemPlace} (hf : DataW.trod enc Tryz.prog w 0 spare held fuel 29 [v] = some x) : ∃ (A : Option Addr) (l : List Vis) (c : Nat), v = .slice A l.length c ∧ Viss w A l := by
  obtain ⟨A, len, cap, hcs, hlen, hq⟩ := rows_of_open Tryz.underlying29 Tryz.underlying106 (by kernel_rfl) (by kernel_rfl) (by decide) hf
  have he : v = .slice A len cap := by simpa using hcs
  subst he
  have h1 : ∀ i, i < len → ∃ p : Vis, ∃ b o, A = some ⟨b, o, none⟩ ∧ b < w.heap.size ∧ ∀ j v, p.cells[j]? = some v → w.cell? ⟨b, o + (i * 4 + j), none⟩ = some v := fun i hi => by
    obtain ⟨b, o, n, hA, hb, hf⟩ := hq i hi
    obtain ⟨v0, y0, c0, t0⟩ := hf 0 _ rfl
    obtain ⟨v1, y1, c1, t1⟩ := hf 1 _ rfl
    obtain ⟨v2, y2, c2, t2⟩ := hf 2 _ rfl
    obtain ⟨v3, y3, c3, t3⟩ := hf 3 _ rfl
    obtain ⟨s0, e0, _, _⟩ := DataW.trod_int Tryz.underlying3 t0
    obtain ⟨s1, e1, _, _⟩ := DataW.trod_int Tryz.underlying3 t1
    obtain ⟨s2, e2, _, _⟩ := DataW.trod_int Tryz.underlying3 t2
    obtain ⟨s3, e3, _, _⟩ := DataW.trod_int Tryz.underlying3 t3
    cases e0; cases e1; cases e2; cases e3
    refine ⟨⟨s0, s1, s2, s3⟩, b, o, hA, hb, fun j v hv => ?_⟩
    match j, hv with
    | 0, hv => cases hv; exact c0
    | 1, hv => cases hv; exact c1
    | 2, hv => cases hv; exact c2
    | 3, hv => cases hv; exact c3
    | j + 4, hv => simp [Vis.cells] at hv
  obtain ⟨l, hl, hq'⟩ := list_of len h1
  subst hl
  refine ⟨A, l, cap, rfl, ⟨fun k r hr => ?_, by unfold maxLen at hlen; omega⟩⟩
  rw [List.getElem?_map] at hr
  cases hk : l[k]? with
  | none => rw [hk] at hr; cases hr
  | some p => rw [hk] at hr; cases hr; exact hq' k p hk
set_option maxRecDepth 100000 in
theorem mon_of_open (hval : Value.okWide Tryz.prog w r b0 31 v) (h : DataW.Trod enc Tryz.prog w 0 spare held 31 v d ps) :
    ∃ (V : Option Addr) (d : Nat) (m : Mon), v = .agg #[.string m.name, .string m.place, .slice V m.visits.length d] ∧ MB w V m := by
  have hu := Tryz.underlying31
  unfold Value.okWide at hval
  rw [hu] at hval
  obtain ⟨cs, rfl, hcs, _⟩ := hval
  obtain ⟨fuel, hf⟩ := h
  obtain ⟨m, xs, hlen, hxl, hi⟩ := trod_cells hu (by kernel_rfl) hf
  have h0 := hi 0 _ rfl
  have h1 := hi 1 _ rfl
  have h2 := hi 2 _ rfl
  rw [show Tryz.prog.cellsOf 31 = 3 by kernel_rfl] at hcs
  obtain ⟨l⟩ := cs
  match l, hcs with
  | [a, b, c], _ =>
    match xs, hxl with
    | [y0, y1, y2], _ =>
      simp [Value.cells] at h0 h1 h2
      obtain ⟨s0, e0, _, g0⟩ := DataW.trod_string Tryz.underlying9 h0
      obtain ⟨s1, e1, _, g1⟩ := DataW.trod_string Tryz.underlying9 h1
      obtain ⟨V, l, k, e2, ha⟩ := visits_of_trod h2
      cases e0; cases e1
      subst e2
      exact ⟨V, k, ⟨s0, s1, l⟩, rfl, ⟨ha, g0, g1⟩⟩
end
end Go.Proofs.YtbegbajlagcbdaaGreatDoor
