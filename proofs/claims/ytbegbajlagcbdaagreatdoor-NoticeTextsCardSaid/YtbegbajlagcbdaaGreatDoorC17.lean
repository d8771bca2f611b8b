/- Chapter 8 and what it rests on: definitions and walks, part 17. -/
import Derived.Test.YtbegbajlagcbdaaGreatDoorC16
import Derived.Test.YtbegbajlagcbdaaGreatDoorC12
namespace Go.Proofs.YtbegbajlagcbdaaGreatDoor
open Go Go.RowKit
def Cal.perE (m d : Int) (k : Bool) : Int := if 0 ≤ m ∧ m ≤ 1200 ∧ 0 ≤ d ∧ d ≤ (if k = true then 2000 else 36500) then 0 else 2
/-- A boxed period. -/
structure PerAt (w : World) (B : Nat) (m d : Int) (k : Bool) : Prop where
  c0 : w.cell? ⟨B, 0, none⟩ = some (.int .i64 m)
  c1 : w.cell? ⟨B, 1, none⟩ = some (.int .i64 d)
  c2 : w.cell? ⟨B, 2, none⟩ = some (.bool k)
  lt : B < w.heap.size
theorem PerAt.below {w w' : World} {B : Nat} {m d : Int} {k : Bool} (h : PerAt w B m d k) (hb : Below w.heap.size w w') : PerAt w' B m d k :=
  ⟨(hb.cell (p := ⟨B, 0, none⟩) h.lt).trans h.c0, (hb.cell (p := ⟨B, 1, none⟩) h.lt).trans h.c1, (hb.cell (p := ⟨B, 2, none⟩) h.lt).trans h.c2, Nat.lt_of_lt_of_le h.lt hb.size⟩
theorem PerAt.new (w : World) (m d : Int) (k : Bool) (t : TypeId) : PerAt (w.alloc (.cells #[.int .i64 m, .int .i64 d, .bool k] t)) w.heap.size m d k := ⟨by simp, by simp, by simp, by simp⟩
theorem CheckPeriod_any (m d : Int) (k : Bool) (w : World) : Calls Tryz.prog 115 #[.agg #[.int .i64 m, .int .i64 d, .bool k]] w fun e w' => e = .returned (.int .i64 (Cal.perE m d k)) ∧ Below w.heap.size w w' := by
  cases k
  · by_cases hm0 : 0 ≤ m
    · by_cases hm1 : m ≤ 1200
      · by_cases hd0 : 0 ≤ d
        · by_cases hd1 : d ≤ 36500
          · have hE : Hid (Cal.perE m d false = 0) := by show _ = _; unfold Cal.perE; rw [if_pos ⟨hm0, hm1, hd0, hd1⟩]
            go_enter Tryz.func115, Tryz.ntmps115
            go_wp2_with (((first | (go_at_call 134) | (go_at_call 59) | (go_at_call 133) | (go_at_call 14) | (go_at_call 178) | (fail) | (go_at_call 139)); first | refine rin ?_ | refine rout ?_ | refine rany ?_))
            go_ret
            exact ⟨ret_int hE.out.symm, below_alloc _ _⟩
          · have hE : Hid (Cal.perE m d false = 2) := by show _ = _; unfold Cal.perE; rw [if_neg (fun h => hd1 h.2.2.2)]
            go_enter Tryz.func115, Tryz.ntmps115
            go_wp2_with (((first | (go_at_call 134) | (go_at_call 59) | (go_at_call 133) | (go_at_call 14) | (go_at_call 178) | (fail) | (go_at_call 139)); first | refine rin ?_ | refine rout ?_ | refine rany ?_))
            go_ret
            exact ⟨ret_int hE.out.symm, below_alloc _ _⟩
        · have hE : Hid (Cal.perE m d false = 2) := by show _ = _; unfold Cal.perE; rw [if_neg (fun h => hd0 h.2.2.1)]
          go_enter Tryz.func115, Tryz.ntmps115
          go_wp2_with (((first | (go_at_call 134) | (go_at_call 59) | (go_at_call 133) | (go_at_call 14) | (go_at_call 178) | (fail) | (go_at_call 139)); first | refine rin ?_ | refine rout ?_ | refine rany ?_))
          go_ret
          exact ⟨ret_int hE.out.symm, below_alloc _ _⟩
      · have hE : Hid (Cal.perE m d false = 2) := by show _ = _; unfold Cal.perE; rw [if_neg (fun h => hm1 h.2.1)]
        go_enter Tryz.func115, Tryz.ntmps115
        go_wp2_with (((first | (go_at_call 134) | (go_at_call 59) | (go_at_call 133) | (go_at_call 14) | (go_at_call 178) | (fail) | (go_at_call 139)); first | refine rin ?_ | refine rout ?_ | refine rany ?_))
        go_ret
        exact ⟨ret_int hE.out.symm, below_alloc _ _⟩
    · have hE : Hid (Cal.perE m d false = 2) := by show _ = _; unfold Cal.perE; rw [if_neg (fun h => hm0 h.1)]
      go_enter Tryz.func115, Tryz.ntmps115
      go_wp2_with (((first | (go_at_call 134) | (go_at_call 59) | (go_at_call 133) | (go_at_call 14) | (go_at_call 178) | (fail) | (go_at_call 139)); first | refine rin ?_ | refine rout ?_ | refine rany ?_))
      go_ret
      exact ⟨ret_int hE.out.symm, below_alloc _ _⟩
  · by_cases hm0 : 0 ≤ m
    · by_cases hm1 : m ≤ 1200
      · by_cases hd0 : 0 ≤ d
        · by_cases hd1 : d ≤ 2000
          · have hE : Hid (Cal.perE m d true = 0) := by show _ = _; unfold Cal.perE; rw [if_pos ⟨hm0, hm1, hd0, hd1⟩]
            go_enter Tryz.func115, Tryz.ntmps115
            go_wp2_with (((first | (go_at_call 134) | (go_at_call 59) | (go_at_call 133) | (go_at_call 14) | (go_at_call 178) | (fail) | (go_at_call 139)); first | refine rin ?_ | refine rout ?_ | refine rany ?_))
            go_ret
            exact ⟨ret_int hE.out.symm, below_alloc _ _⟩
          · have hE : Hid (Cal.perE m d true = 2) := by show _ = _; unfold Cal.perE; rw [if_neg (fun h => hd1 h.2.2.2)]
            go_enter Tryz.func115, Tryz.ntmps115
            go_wp2_with (((first | (go_at_call 134) | (go_at_call 59) | (go_at_call 133) | (go_at_call 14) | (go_at_call 178) | (fail) | (go_at_call 139)); first | refine rin ?_ | refine rout ?_ | refine rany ?_))
            go_ret
            exact ⟨ret_int hE.out.symm, below_alloc _ _⟩
        · have hE : Hid (Cal.perE m d true = 2) := by show _ = _; unfold Cal.perE; rw [if_neg (fun h => hd0 h.2.2.1)]
          go_enter Tryz.func115, Tryz.ntmps115
          go_wp2_with (((first | (go_at_call 134) | (go_at_call 59) | (go_at_call 133) | (go_at_call 14) | (go_at_call 178) | (fail) | (go_at_call 139)); first | refine rin ?_ | refine rout ?_ | refine rany ?_))
          go_ret
          exact ⟨ret_int hE.out.symm, below_alloc _ _⟩
      · have hE : Hid (Cal.perE m d true = 2) := by show _ = _; unfold Cal.perE; rw [if_neg (fun h => hm1 h.2.1)]
        go_enter Tryz.func115, Tryz.ntmps115
        go_wp2_with (((first | (go_at_call 134) | (go_at_call 59) | (go_at_call 133) | (go_at_call 14) | (go_at_call 178) | (fail) | (go_at_call 139)); first | refine rin ?_ | refine rout ?_ | refine rany ?_))
        go_ret
        exact ⟨ret_int hE.out.symm, below_alloc _ _⟩
    · have hE : Hid (Cal.perE m d true = 2) := by show _ = _; unfold Cal.perE; rw [if_neg (fun h => hm0 h.1)]
      go_enter Tryz.func115, Tryz.ntmps115
      go_wp2_with (((first | (go_at_call 134) | (go_at_call 59) | (go_at_call 133) | (go_at_call 14) | (go_at_call 178) | (fail) | (go_at_call 139)); first | refine rin ?_ | refine rout ?_ | refine rany ?_))
      go_ret
      exact ⟨ret_int hE.out.symm, below_alloc _ _⟩
theorem CheckPeriodR_any (m d : Int) (k : Bool) (w : World) : Calls Tryz.prog 71 #[.agg #[.int .i64 m, .int .i64 d, .bool k]] w fun e w' => e = .returned (.int .i64 (Cal.perE m d k)) ∧ Below w.heap.size w w' := by
  cases k
  · by_cases hm0 : 0 ≤ m
    · by_cases hm1 : m ≤ 1200
      · by_cases hd0 : 0 ≤ d
        · by_cases hd1 : d ≤ 36500
          · have hE : Hid (Cal.perE m d false = 0) := by show _ = _; unfold Cal.perE; rw [if_pos ⟨hm0, hm1, hd0, hd1⟩]
            go_enter Tryz.func71, Tryz.ntmps71
            go_wp2_with (((first | (go_at_call 134) | (go_at_call 59) | (go_at_call 133) | (go_at_call 14) | (go_at_call 178) | (fail) | (go_at_call 139)); first | refine rin ?_ | refine rout ?_ | refine rany ?_))
            go_ret
            exact ⟨ret_int hE.out.symm, below_alloc _ _⟩
          · have hE : Hid (Cal.perE m d false = 2) := by show _ = _; unfold Cal.perE; rw [if_neg (fun h => hd1 h.2.2.2)]
            go_enter Tryz.func71, Tryz.ntmps71
            go_wp2_with (((first | (go_at_call 134) | (go_at_call 59) | (go_at_call 133) | (go_at_call 14) | (go_at_call 178) | (fail) | (go_at_call 139)); first | refine rin ?_ | refine rout ?_ | refine rany ?_))
            go_ret
            exact ⟨ret_int hE.out.symm, below_alloc _ _⟩
        · have hE : Hid (Cal.perE m d false = 2) := by show _ = _; unfold Cal.perE; rw [if_neg (fun h => hd0 h.2.2.1)]
          go_enter Tryz.func71, Tryz.ntmps71
          go_wp2_with (((first | (go_at_call 134) | (go_at_call 59) | (go_at_call 133) | (go_at_call 14) | (go_at_call 178) | (fail) | (go_at_call 139)); first | refine rin ?_ | refine rout ?_ | refine rany ?_))
          go_ret
          exact ⟨ret_int hE.out.symm, below_alloc _ _⟩
      · have hE : Hid (Cal.perE m d false = 2) := by show _ = _; unfold Cal.perE; rw [if_neg (fun h => hm1 h.2.1)]
        go_enter Tryz.func71, Tryz.ntmps71
        go_wp2_with (((first | (go_at_call 134) | (go_at_call 59) | (go_at_call 133) | (go_at_call 14) | (go_at_call 178) | (fail) | (go_at_call 139)); first | refine rin ?_ | refine rout ?_ | refine rany ?_))
        go_ret
        exact ⟨ret_int hE.out.symm, below_alloc _ _⟩
    · have hE : Hid (Cal.perE m d false = 2) := by show _ = _; unfold Cal.perE; rw [if_neg (fun h => hm0 h.1)]
      go_enter Tryz.func71, Tryz.ntmps71
      go_wp2_with (((first | (go_at_call 134) | (go_at_call 59) | (go_at_call 133) | (go_at_call 14) | (go_at_call 178) | (fail) | (go_at_call 139)); first | refine rin ?_ | refine rout ?_ | refine rany ?_))
      go_ret
      exact ⟨ret_int hE.out.symm, below_alloc _ _⟩
  · by_cases hm0 : 0 ≤ m
    · by_cases hm1 : m ≤ 1200
      · by_cases hd0 : 0 ≤ d
        · by_cases hd1 : d ≤ 2000
          · have hE : Hid (Cal.perE m d true = 0) := by show _ = _; unfold Cal.perE; rw [if_pos ⟨hm0, hm1, hd0, hd1⟩]
            go_enter Tryz.func71, Tryz.ntmps71
            go_wp2_with (((first | (go_at_call 134) | (go_at_call 59) | (go_at_call 133) | (go_at_call 14) | (go_at_call 178) | (fail) | (go_at_call 139)); first | refine rin ?_ | refine rout ?_ | refine rany ?_))
            go_ret
            exact ⟨ret_int hE.out.symm, below_alloc _ _⟩
          · have hE : Hid (Cal.perE m d true = 2) := by show _ = _; unfold Cal.perE; rw [if_neg (fun h => hd1 h.2.2.2)]
            go_enter Tryz.func71, Tryz.ntmps71
            go_wp2_with (((first | (go_at_call 134) | (go_at_call 59) | (go_at_call 133) | (go_at_call 14) | (go_at_call 178) | (fail) | (go_at_call 139)); first | refine rin ?_ | refine rout ?_ | refine rany ?_))
            go_ret
            exact ⟨ret_int hE.out.symm, below_alloc _ _⟩
        · have hE : Hid (Cal.perE m d true = 2) := by show _ = _; unfold Cal.perE; rw [if_neg (fun h => hd0 h.2.2.1)]
          go_enter Tryz.func71, Tryz.ntmps71
          go_wp2_with (((first | (go_at_call 134) | (go_at_call 59) | (go_at_call 133) | (go_at_call 14) | (go_at_call 178) | (fail) | (go_at_call 139)); first | refine rin ?_ | refine rout ?_ | refine rany ?_))
          go_ret
          exact ⟨ret_int hE.out.symm, below_alloc _ _⟩
      · have hE : Hid (Cal.perE m d true = 2) := by show _ = _; unfold Cal.perE; rw [if_neg (fun h => hm1 h.2.1)]
        go_enter Tryz.func71, Tryz.ntmps71
        go_wp2_with (((first | (go_at_call 134) | (go_at_call 59) | (go_at_call 133) | (go_at_call 14) | (go_at_call 178) | (fail) | (go_at_call 139)); first | refine rin ?_ | refine rout ?_ | refine rany ?_))
        go_ret
        exact ⟨ret_int hE.out.symm, below_alloc _ _⟩
    · have hE : Hid (Cal.perE m d true = 2) := by show _ = _; unfold Cal.perE; rw [if_neg (fun h => hm0 h.1)]
      go_enter Tryz.func71, Tryz.ntmps71
      go_wp2_with (((first | (go_at_call 134) | (go_at_call 59) | (go_at_call 133) | (go_at_call 14) | (go_at_call 178) | (fail) | (go_at_call 139)); first | refine rin ?_ | refine rout ?_ | refine rany ?_))
      go_ret
      exact ⟨ret_int hE.out.symm, below_alloc _ _⟩
theorem Cal.perE_ok {m d : Int} {k : Bool} (h : Cal.perE m d k = 0) : 0 ≤ m ∧ m ≤ 1200 ∧ 0 ≤ d ∧ d ≤ 36500 ∧ (k = true → d ≤ 2000) := by
  unfold Cal.perE at h
  cases k
  · simp only [Bool.false_eq_true, if_false] at h
    split at h
    · simp; omega
    · omega
  · simp only [if_true] at h
    split at h
    · simp; omega
    · omega
/-- Where the working days of a deadline begin to be counted, and how many. -/
def Cal.dlFrom (l : List Hol) (day m d : Int) (k : Bool) : Option Int :=
  if (Cal.laterS day m).2 = true then
    (if k = true then Cal.addW l (Cal.laterS day m).1 d else if (Cal.laterS day m).1 + d ≤ 200000 then Cal.addW l ((Cal.laterS day m).1 + d) 0 else none)
  else none
theorem Cal.laterS_ok {day m : Int} (h : (Cal.laterS day m).2 = true) (h0 : 0 ≤ day) (h1 : day ≤ 200000) : 0 ≤ (Cal.laterS day m).1 ∧ (Cal.laterS day m).1 ≤ 200000 := by
  refine ⟨Cal.laterS_nonneg h0 h1 m, ?_⟩
  rw [Cal.laterS_eq] at h ⊢
  split at h
  · rename_i hy
    rw [if_pos hy]
    simpa using h
  · cases h
theorem Cal.laterS_top (day m : Int) : (Cal.laterS day m).1 ≤ 500000 := by
  rw [Cal.laterS_eq]
  split
  · rename_i hy
    have := Cal.mval_hi (Cal.dD day) (Cal.idx day + m)
    have hs := Cal.mfirst_succ (Cal.idx day + m)
    have hf := Cal.first_bd ((Cal.idx day + m) / 12) ((Cal.idx day + m) % 12 + 1) hy.1 (by omega)
    have hm := Cal.mlen_bd ((Cal.idx day + m) / 12) ((Cal.idx day + m) % 12 + 1)
    unfold Cal.mfirst at hs this
    simp only
    omega
  · simp
def DlPostR (w : World) (l : List Hol) (day m d : Int) (k : Bool) (e : Ending) (w' : World) : Prop := e = .returned (Cal.addV (Cal.dlFrom l day m d k)) ∧ Below w.heap.size w w'
set_option maxRecDepth 100000 in
set_option maxHeartbeats 2000000 in
theorem DeadlineR_any (A : Option Addr) (c : Nat) (l : List Hol) (hok : Cal.HolsOk l) (day m d : Int) (k : Bool) (hp : Cal.perE m d k = 0) (d0 : 0 ≤ day) (d1 : day ≤ 200000) (w : World) (hl : Hols w A l) :
    Calls Tryz.prog 194 #[.slice A l.length c, .int .i64 day, .agg #[.int .i64 m, .int .i64 d, .bool k]] w (DlPostR w l day m d k) := by
  obtain ⟨m0, m1, q0, q1, q2⟩ := Cal.perE_ok hp
  clear hp
  have hl' := Lib.hid hl
  have hnew := Lib.hid (PerAt.new w m d k 44)
  have hadd := fun w1 => AddMonthsR_any day m d0 d1 (by omega) (by omega) w1
  have hok2 := fun h => Cal.laterS_ok (day := day) (m := m) h d0 d1
  have hx0 := Cal.laterS_nonneg d0 d1 m
  have hx1 := Cal.laterS_top day m
  rcases hq : Cal.laterS day m with ⟨x, b⟩
  rw [hq] at hok2 hx0 hx1
  simp only at hok2 hx0 hx1
  simp only [hq] at hadd
  have hadd := Lib.hid hadd
  clear hl
  cases b
  · have hfin : Hid (Cal.dlFrom l day m d k = none) := by show _ = _; unfold Cal.dlFrom; rw [hq]; rfl
    clear hq hok2
    go_enter Tryz.func194, Tryz.ntmps194
    go_wp2_with fail
    refine (hadd.out _).mono ?_
    rintro e w1 ⟨rfl, hb1⟩
    have hbw := Lib.hid (below_step (below_alloc w _) hb1)
    clear hb1
    go_wp2_with fail
    go_ret2
    exact ⟨by rw [hfin.out]; rfl, hbw.out⟩
  · obtain ⟨z0, z1⟩ := hok2 rfl
    clear hok2
    cases k
    · by_cases hsum : x + d ≤ 200000
      · have hfin : Hid (Cal.dlFrom l day m d false = Cal.addW l (x + d) 0) := by show _ = _; unfold Cal.dlFrom; rw [hq]; simp only [Bool.false_eq_true, if_false, if_true]; rw [if_pos hsum]
        have hAR := fun w1 hl => AddWorkingR_any A c l hok (x + d) 0 (by omega) (by omega) (by omega) hsum w1 hl
        unfold AddRPost at hAR
        clear hq
        go_enter Tryz.func194, Tryz.ntmps194
        go_wp2_with fail
        refine (hadd.out _).mono ?_
        rintro e w1 ⟨rfl, hb1⟩
        have hbw := Lib.hid (below_step (below_alloc w _) hb1)
        have hx1 := hnew.out.below hb1
        have x1 := hx1.c1
        have x2 := hx1.c2
        clear hb1 hx1
        cases hr : Cal.addW l (x + d) 0 with
        | none =>
          have hfin2 : Hid (Cal.dlFrom l day m d false = none) := by show _ = _; rw [hfin.out, hr]
          rw [hr] at hAR
          unfold Cal.addV at hAR
          have hAR := Lib.hid hAR
          clear hr
          go_wp2_with (((first | (go_at_call 134) | (go_at_call 59) | (go_at_call 133) | (go_at_call 14) | (go_at_call 178) | (fail) | (go_at_call 139)); first | refine rin ?_ | refine rout ?_ | refine rany ?_))
          refine (hAR.out _ (hl'.out.below hbw.out)).mono ?_
          rintro e w2 ⟨rfl, hb2⟩
          have hbw2 := Lib.hid (below_step hbw.out hb2)
          clear hb2
          go_wp2_with fail
          go_ret2
          exact ⟨by rw [hfin2.out]; rfl, hbw2.out⟩
        | some y =>
          have hfin2 : Hid (Cal.dlFrom l day m d false = some y) := by show _ = _; rw [hfin.out, hr]
          rw [hr] at hAR
          unfold Cal.addV at hAR
          have hAR := Lib.hid hAR
          clear hr
          go_wp2_with (((first | (go_at_call 134) | (go_at_call 59) | (go_at_call 133) | (go_at_call 14) | (go_at_call 178) | (fail) | (go_at_call 139)); first | refine rin ?_ | refine rout ?_ | refine rany ?_))
          refine (hAR.out _ (hl'.out.below hbw.out)).mono ?_
          rintro e w2 ⟨rfl, hb2⟩
          have hbw2 := Lib.hid (below_step hbw.out hb2)
          clear hb2
          go_wp2_with fail
          go_ret2
          exact ⟨by rw [hfin2.out]; rfl, hbw2.out⟩
      · have hfin : Hid (Cal.dlFrom l day m d false = none) := by show _ = _; unfold Cal.dlFrom; rw [hq]; simp only [Bool.false_eq_true, if_false, if_true]; rw [if_neg hsum]
        clear hq
        go_enter Tryz.func194, Tryz.ntmps194
        go_wp2_with fail
        refine (hadd.out _).mono ?_
        rintro e w1 ⟨rfl, hb1⟩
        have hbw := Lib.hid (below_step (below_alloc w _) hb1)
        have hx1 := hnew.out.below hb1
        have x1 := hx1.c1
        have x2 := hx1.c2
        clear hb1 hx1
        go_wp2_with (((first | (go_at_call 134) | (go_at_call 59) | (go_at_call 133) | (go_at_call 14) | (go_at_call 178) | (fail) | (go_at_call 139)); first | refine rin ?_ | refine rout ?_ | refine rany ?_))
        go_ret2
        exact ⟨by rw [hfin.out]; rfl, hbw.out⟩
    · have hfin : Hid (Cal.dlFrom l day m d true = Cal.addW l x d) := by show _ = _; unfold Cal.dlFrom; rw [hq]; simp
      have q3 := q2 rfl
      have hAR := fun w1 hl => AddWorkingR_any A c l hok x d (by omega) (by omega) (by omega) z1 w1 hl
      unfold AddRPost at hAR
      clear hq
      go_enter Tryz.func194, Tryz.ntmps194
      go_wp2_with fail
      refine (hadd.out _).mono ?_
      rintro e w1 ⟨rfl, hb1⟩
      have hbw := Lib.hid (below_step (below_alloc w _) hb1)
      have hx1 := hnew.out.below hb1
      have x1 := hx1.c1
      have x2 := hx1.c2
      clear hb1 hx1 q2
      cases hr : Cal.addW l x d with
      | none =>
        have hfin2 : Hid (Cal.dlFrom l day m d true = none) := by show _ = _; rw [hfin.out, hr]
        rw [hr] at hAR
        unfold Cal.addV at hAR
        have hAR := Lib.hid hAR
        clear hr
        go_wp2_with fail
        refine (hAR.out _ (hl'.out.below hbw.out)).mono ?_
        rintro e w2 ⟨rfl, hb2⟩
        have hbw2 := Lib.hid (below_step hbw.out hb2)
        clear hb2
        go_wp2_with fail
        go_ret2
        exact ⟨by rw [hfin2.out]; rfl, hbw2.out⟩
      | some y =>
        have hfin2 : Hid (Cal.dlFrom l day m d true = some y) := by show _ = _; rw [hfin.out, hr]
        rw [hr] at hAR
        unfold Cal.addV at hAR
        have hAR := Lib.hid hAR
        clear hr
        go_wp2_with fail
        refine (hAR.out _ (hl'.out.below hbw.out)).mono ?_
        rintro e w2 ⟨rfl, hb2⟩
        have hbw2 := Lib.hid (below_step hbw.out hb2)
        clear hb2
        go_wp2_with fail
        go_ret2
        exact ⟨by rw [hfin2.out]; rfl, hbw2.out⟩
/-- Deadline: the day and the error. -/
def Cal.dlS (l : List Hol) (day m d : Int) (k : Bool) : Int × Int :=
  if Cal.holsErr l = 0 then (if 0 ≤ day ∧ day ≤ 200000 then (if Cal.perE m d k = 0 then (match Cal.dlFrom l day m d k with | some x => (x, 0) | none => (0, 2)) else (0, Cal.perE m d k)) else (0, 2)) else (0, Cal.holsErr l)
def DlPost (w : World) (l : List Hol) (day m d : Int) (k : Bool) (e : Ending) (w' : World) : Prop := e = .returned (.tuple #[.int .i64 (Cal.dlS l day m d k).1, .int .i64 (Cal.dlS l day m d k).2]) ∧ Below w.heap.size w w'
set_option maxRecDepth 100000 in
set_option maxHeartbeats 4000000 in
theorem Deadline_any (A : Option Addr) (c : Nat) (l : List Hol) (day m d : Int) (k : Bool) (w : World) (hl : Hols w A l) (hT : Tab w) :
    Calls Tryz.prog 217 #[.slice A l.length c, .int .i64 day, .agg #[.int .i64 m, .int .i64 d, .bool k]] w (DlPost w l day m d k) := by
  have hl' := Lib.hid hl
  have hT' := Lib.hid hT
  have hnew := Lib.hid (PerAt.new w m d k 44)
  have hba := Lib.hid (below_alloc w (.cells #[.int .i64 m, .int .i64 d, .bool k] 44))
  clear hl hT
  by_cases h0 : Cal.holsErr l = 0
  · have h0z := Lib.hid h0
    have h1 : (Cal.holsErr l != 0) = false := by simpa using h0
    obtain ⟨hok, hlen⟩ := Cal.holsErr_ok h0
    clear h0
    by_cases hd : 0 ≤ day ∧ day ≤ 200000
    · obtain ⟨d0, d1⟩ := hd
      by_cases hp : Cal.perE m d k = 0
      · have hpz := Lib.hid hp
        have hp1 : (Cal.perE m d k != 0) = false := by simpa using hp
        obtain ⟨m0, m1, q0, q1, q2⟩ := Cal.perE_ok hp
        clear hp
        have hlat := fun w1 (h : Below w.heap.size w w1) => later_any day m d0 d1 (by omega) (by omega) w1 (hT'.out.below h)
        have hok2 := fun h => Cal.laterS_ok (day := day) (m := m) h d0 d1
        have hx0 := Cal.laterS_nonneg d0 d1 m
        have hx1 := Cal.laterS_top day m
        have hsp : Hid (Cal.dlS l day m d k = match Cal.dlFrom l day m d k with | some x => (x, 0) | none => (0, 2)) := by show _ = _; unfold Cal.dlS; rw [if_pos h0z.out, if_pos ⟨d0, d1⟩, if_pos hpz.out]
        rcases hq : Cal.laterS day m with ⟨x, b⟩
        rw [hq] at hok2 hx0 hx1
        simp only at hok2 hx0 hx1
        simp only [hq] at hlat
        have hlat := Lib.hid hlat
        cases b
        · have hfin : Hid (Cal.dlS l day m d k = (0, 2)) := by show _ = _; rw [hsp.out]; unfold Cal.dlFrom; rw [hq]; rfl
          clear hq hok2 q2
          cases k
          all_goals
            go_enter Tryz.func217, Tryz.ntmps217
            go_wp2_with fail
            refine (CheckHolidays_any _ _ l _ (hl'.out.below hba.out) (hT'.out.below hba.out)).mono ?_
            rintro e w1 ⟨rfl, hb1⟩
            have hx1 := Lib.hid (hnew.out.below hb1)
            have hbw1 := Lib.hid (below_step hba.out hb1)
            clear hb1
            have k0 := hx1.out.c0
            have k1 := hx1.out.c1
            have k2 := hx1.out.c2
            go_wp2_with (((first | (go_at_call 134) | (go_at_call 59) | (go_at_call 133) | (go_at_call 14) | (go_at_call 178) | (fail) | (go_at_call 139)); first | refine rin ?_ | refine rout ?_ | refine rany ?_))
            refine (CheckPeriod_any m d _ _).mono ?_
            rintro e w2 ⟨rfl, hb2⟩
            have hx2 := Lib.hid (hx1.out.below hb2)
            have hbw2 := Lib.hid (below_step hbw1.out hb2)
            clear hb2 k0 k1 k2
            have k0 := hx2.out.c0
            have k1 := hx2.out.c1
            have k2 := hx2.out.c2
            go_wp2_with fail
            refine (hlat.out _ hbw2.out).mono ?_
            rintro e w3 ⟨rfl, hb3⟩
            have hx3 := Lib.hid (hx2.out.below hb3)
            have hbw3 := Lib.hid (below_step hbw2.out hb3)
            clear hb3 k0 k1 k2
            have k1 := hx3.out.c1
            have k2 := hx3.out.c2
            go_wp2_with (((first | (go_at_call 134) | (go_at_call 59) | (go_at_call 133) | (go_at_call 14) | (go_at_call 178) | (fail) | (go_at_call 139)); first | refine rin ?_ | refine rout ?_ | refine rany ?_))
            go_ret2
            exact ⟨by rw [hfin.out]; rfl, hbw3.out⟩
        · obtain ⟨z0, z1⟩ := hok2 rfl
          clear hok2
          cases k
          · by_cases hsum : x + d ≤ 200000
            · have hfr : Cal.dlFrom l day m d false = Cal.addW l (x + d) 0 := by unfold Cal.dlFrom; rw [hq]; simp only [Bool.false_eq_true, if_false, if_true]; rw [if_pos hsum]
              have hfrz := Lib.hid hfr
              clear hq q2 hfr
              go_enter Tryz.func217, Tryz.ntmps217
              go_wp2_with fail
              refine (CheckHolidays_any _ _ l _ (hl'.out.below hba.out) (hT'.out.below hba.out)).mono ?_
              rintro e w1 ⟨rfl, hb1⟩
              have hx1 := Lib.hid (hnew.out.below hb1)
              have hbw1 := Lib.hid (below_step hba.out hb1)
              clear hb1
              have k0 := hx1.out.c0
              have k1 := hx1.out.c1
              have k2 := hx1.out.c2
              go_wp2_with (((first | (go_at_call 134) | (go_at_call 59) | (go_at_call 133) | (go_at_call 14) | (go_at_call 178) | (fail) | (go_at_call 139)); first | refine rin ?_ | refine rout ?_ | refine rany ?_))
              refine (CheckPeriod_any m d _ _).mono ?_
              rintro e w2 ⟨rfl, hb2⟩
              have hx2 := Lib.hid (hx1.out.below hb2)
              have hbw2 := Lib.hid (below_step hbw1.out hb2)
              clear hb2 k0 k1 k2
              have k0 := hx2.out.c0
              have k1 := hx2.out.c1
              have k2 := hx2.out.c2
              go_wp2_with fail
              refine (hlat.out _ hbw2.out).mono ?_
              rintro e w3 ⟨rfl, hb3⟩
              have hx3 := Lib.hid (hx2.out.below hb3)
              have hbw3 := Lib.hid (below_step hbw2.out hb3)
              clear hb3 k0 k1 k2
              have k1 := hx3.out.c1
              have k2 := hx3.out.c2
              go_wp2_with (((first | (go_at_call 134) | (go_at_call 59) | (go_at_call 133) | (go_at_call 14) | (go_at_call 178) | (fail) | (go_at_call 139)); first | refine rin ?_ | refine rout ?_ | refine rany ?_))
              refine (calendarOf_any A l.length c _).mono ?_
              rintro e w4 ⟨rfl, hw4⟩
              have hw4' : w4 = calWorld w3 A l.length c := hw4
              clear hw4 k1 k2
              go_wp2_with fail
              have ha := add_any (w3.heap.size + 1) w3.heap.size A c l (holidaysOf_any A c l hok (by omega)) (x + d) (0) (by omega) (by omega) (by omega) (by omega) (calWorld w3 A l.length c) (calWorld_cal w3 A c l (hl'.out.below hbw3.out) (hT'.out.below hbw3.out)) (calWorld_map _ _ _ _)
              refine ha.mono ?_
              clear ha hw4'
              rintro e w5 ⟨he, hg⟩
              have hbb := Lib.hid (below_of_grown (below_step hbw3.out (calWorld_below w3 A l.length c)) hg hbw3.out.size)
              clear hg
              cases hr : Cal.addW l (x + d) 0 with
              | none =>
                rw [hr] at he
                unfold Cal.addV at he
                subst he
                have hfin : Hid (Cal.dlS l day m d false = (0, 2)) := by show _ = _; rw [hsp.out, hfrz.out, hr]
                clear hr
                go_wp2_with fail
                go_ret2
                exact ⟨by rw [hfin.out]; rfl, hbb.out⟩
              | some y =>
                rw [hr] at he
                unfold Cal.addV at he
                subst he
                have hfin : Hid (Cal.dlS l day m d false = (y, 0)) := by show _ = _; rw [hsp.out, hfrz.out, hr]
                clear hr
                go_wp2_with fail
                go_ret2
                exact ⟨by rw [hfin.out]; rfl, hbb.out⟩
            · have hfr : Cal.dlFrom l day m d false = none := by unfold Cal.dlFrom; rw [hq]; simp only [Bool.false_eq_true, if_false, if_true]; rw [if_neg hsum]
              have hfin : Hid (Cal.dlS l day m d false = (0, 2)) := by show _ = _; rw [hsp.out, hfr]
              clear hq q2 hfr
              go_enter Tryz.func217, Tryz.ntmps217
              go_wp2_with fail
              refine (CheckHolidays_any _ _ l _ (hl'.out.below hba.out) (hT'.out.below hba.out)).mono ?_
              rintro e w1 ⟨rfl, hb1⟩
              have hx1 := Lib.hid (hnew.out.below hb1)
              have hbw1 := Lib.hid (below_step hba.out hb1)
              clear hb1
              have k0 := hx1.out.c0
              have k1 := hx1.out.c1
              have k2 := hx1.out.c2
              go_wp2_with (((first | (go_at_call 134) | (go_at_call 59) | (go_at_call 133) | (go_at_call 14) | (go_at_call 178) | (fail) | (go_at_call 139)); first | refine rin ?_ | refine rout ?_ | refine rany ?_))
              refine (CheckPeriod_any m d _ _).mono ?_
              rintro e w2 ⟨rfl, hb2⟩
              have hx2 := Lib.hid (hx1.out.below hb2)
              have hbw2 := Lib.hid (below_step hbw1.out hb2)
              clear hb2 k0 k1 k2
              have k0 := hx2.out.c0
              have k1 := hx2.out.c1
              have k2 := hx2.out.c2
              go_wp2_with fail
              refine (hlat.out _ hbw2.out).mono ?_
              rintro e w3 ⟨rfl, hb3⟩
              have hx3 := Lib.hid (hx2.out.below hb3)
              have hbw3 := Lib.hid (below_step hbw2.out hb3)
              clear hb3 k0 k1 k2
              have k1 := hx3.out.c1
              have k2 := hx3.out.c2
              go_wp2_with (((first | (go_at_call 134) | (go_at_call 59) | (go_at_call 133) | (go_at_call 14) | (go_at_call 178) | (fail) | (go_at_call 139)); first | refine rin ?_ | refine rout ?_ | refine rany ?_))
              go_ret2
              exact ⟨by rw [hfin.out]; rfl, hbw3.out⟩
          · have hfr : Cal.dlFrom l day m d true = Cal.addW l x d := by unfold Cal.dlFrom; rw [hq]; simp
            have hfrz := Lib.hid hfr
            have q3 := q2 rfl
            clear hq q2 hfr
            go_enter Tryz.func217, Tryz.ntmps217
            go_wp2_with fail
            refine (CheckHolidays_any _ _ l _ (hl'.out.below hba.out) (hT'.out.below hba.out)).mono ?_
            rintro e w1 ⟨rfl, hb1⟩
            have hx1 := Lib.hid (hnew.out.below hb1)
            have hbw1 := Lib.hid (below_step hba.out hb1)
            clear hb1
            have k0 := hx1.out.c0
            have k1 := hx1.out.c1
            have k2 := hx1.out.c2
            go_wp2_with (((first | (go_at_call 134) | (go_at_call 59) | (go_at_call 133) | (go_at_call 14) | (go_at_call 178) | (fail) | (go_at_call 139)); first | refine rin ?_ | refine rout ?_ | refine rany ?_))
            refine (CheckPeriod_any m d _ _).mono ?_
            rintro e w2 ⟨rfl, hb2⟩
            have hx2 := Lib.hid (hx1.out.below hb2)
            have hbw2 := Lib.hid (below_step hbw1.out hb2)
            clear hb2 k0 k1 k2
            have k0 := hx2.out.c0
            have k1 := hx2.out.c1
            have k2 := hx2.out.c2
            go_wp2_with fail
            refine (hlat.out _ hbw2.out).mono ?_
            rintro e w3 ⟨rfl, hb3⟩
            have hx3 := Lib.hid (hx2.out.below hb3)
            have hbw3 := Lib.hid (below_step hbw2.out hb3)
            clear hb3 k0 k1 k2
            have k1 := hx3.out.c1
            have k2 := hx3.out.c2
            go_wp2_with (((first | (go_at_call 134) | (go_at_call 59) | (go_at_call 133) | (go_at_call 14) | (go_at_call 178) | (fail) | (go_at_call 139)); first | refine rin ?_ | refine rout ?_ | refine rany ?_))
            refine (calendarOf_any A l.length c _).mono ?_
            rintro e w4 ⟨rfl, hw4⟩
            have hw4' : w4 = calWorld w3 A l.length c := hw4
            clear hw4 k1 k2
            go_wp2_with fail
            have ha := add_any (w3.heap.size + 1) w3.heap.size A c l (holidaysOf_any A c l hok (by omega)) (x) (d) (by omega) (by omega) (by omega) (by omega) (calWorld w3 A l.length c) (calWorld_cal w3 A c l (hl'.out.below hbw3.out) (hT'.out.below hbw3.out)) (calWorld_map _ _ _ _)
            refine ha.mono ?_
            clear ha hw4'
            rintro e w5 ⟨he, hg⟩
            have hbb := Lib.hid (below_of_grown (below_step hbw3.out (calWorld_below w3 A l.length c)) hg hbw3.out.size)
            clear hg
            cases hr : Cal.addW l x d with
            | none =>
              rw [hr] at he
              unfold Cal.addV at he
              subst he
              have hfin : Hid (Cal.dlS l day m d true = (0, 2)) := by show _ = _; rw [hsp.out, hfrz.out, hr]
              clear hr
              go_wp2_with fail
              go_ret2
              exact ⟨by rw [hfin.out]; rfl, hbb.out⟩
            | some y =>
              rw [hr] at he
              unfold Cal.addV at he
              subst he
              have hfin : Hid (Cal.dlS l day m d true = (y, 0)) := by show _ = _; rw [hsp.out, hfrz.out, hr]
              clear hr
              go_wp2_with fail
              go_ret2
              exact ⟨by rw [hfin.out]; rfl, hbb.out⟩
      · have hpz := Lib.hid hp
        have hp1 : (Cal.perE m d k != 0) = true := by simpa using hp
        have hfin : Hid (Cal.dlS l day m d k = (0, Cal.perE m d k)) := by show _ = _; unfold Cal.dlS; rw [if_pos h0z.out, if_pos ⟨d0, d1⟩, if_neg hp]
        clear hp
        go_enter Tryz.func217, Tryz.ntmps217
        go_wp2_with fail
        refine (CheckHolidays_any _ _ l _ (hl'.out.below hba.out) (hT'.out.below hba.out)).mono ?_
        rintro e w1 ⟨rfl, hb1⟩
        have hx1 := Lib.hid (hnew.out.below hb1)
        have hbw1 := Lib.hid (below_step hba.out hb1)
        clear hb1
        have k0 := hx1.out.c0
        have k1 := hx1.out.c1
        have k2 := hx1.out.c2
        go_wp2_with (((first | (go_at_call 134) | (go_at_call 59) | (go_at_call 133) | (go_at_call 14) | (go_at_call 178) | (fail) | (go_at_call 139)); first | refine rin ?_ | refine rout ?_ | refine rany ?_))
        refine (CheckPeriod_any m d _ _).mono ?_
        rintro e w2 ⟨rfl, hb2⟩
        have hx2 := Lib.hid (hx1.out.below hb2)
        have hbw2 := Lib.hid (below_step hbw1.out hb2)
        clear hb2 k0 k1 k2
        have k0 := hx2.out.c0
        have k1 := hx2.out.c1
        have k2 := hx2.out.c2
        go_wp2_with fail
        go_ret2
        exact ⟨by rw [hfin.out]; rfl, hbw2.out⟩
    · have hd' : day < 0 ∨ 200000 < day := by omega
      have hfin : Hid (Cal.dlS l day m d k = (0, 2)) := by show _ = _; unfold Cal.dlS; rw [if_pos h0z.out, if_neg hd]
      clear hd
      go_enter Tryz.func217, Tryz.ntmps217
      go_wp2_with fail
      refine (CheckHolidays_any _ _ l _ (hl'.out.below hba.out) (hT'.out.below hba.out)).mono ?_
      rintro e w1 ⟨rfl, hb1⟩
      have hx1 := Lib.hid (hnew.out.below hb1)
      have hbw1 := Lib.hid (below_step hba.out hb1)
      clear hb1
      have k0 := hx1.out.c0
      have k1 := hx1.out.c1
      have k2 := hx1.out.c2
      go_wp2_with (((first | (go_at_call 134) | (go_at_call 59) | (go_at_call 133) | (go_at_call 14) | (go_at_call 178) | (fail) | (go_at_call 139)); first | refine rin ?_ | refine rout ?_ | refine rany ?_))
      go_ret2
      exact ⟨by rw [hfin.out]; rfl, hbw1.out⟩
  · have h0z := Lib.hid h0
    have h1 : (Cal.holsErr l != 0) = true := by simpa using h0
    have hfin : Hid (Cal.dlS l day m d k = (0, Cal.holsErr l)) := by show _ = _; unfold Cal.dlS; rw [if_neg h0]
    clear h0
    go_enter Tryz.func217, Tryz.ntmps217
    go_wp2_with fail
    refine (CheckHolidays_any _ _ l _ (hl'.out.below hba.out) (hT'.out.below hba.out)).mono ?_
    rintro e w1 ⟨rfl, hb1⟩
    have hx1 := Lib.hid (hnew.out.below hb1)
    have hbw1 := Lib.hid (below_step hba.out hb1)
    clear hb1
    have k0 := hx1.out.c0
    have k1 := hx1.out.c1
    have k2 := hx1.out.c2
    go_wp2_with (((first | (go_at_call 134) | (go_at_call 59) | (go_at_call 133) | (go_at_call 14) | (go_at_call 178) | (fail) | (go_at_call 139)); first | refine rin ?_ | refine rout ?_ | refine rany ?_))
    go_ret2
    exact ⟨by rw [hfin.out]; rfl, hbw1.out⟩
end Go.Proofs.YtbegbajlagcbdaaGreatDoor
