/- Chapter 8 and what it rests on: definitions and walks, part 75. -/
import Derived.Test.YtbegbajlagcbdaaGreatDoorC73
import Derived.Test.YtbegbajlagcbdaaGreatDoorC01
import Derived.Test.YtbegbajlagcbdaaGreatDoorC27
import Derived.Ground.SlsfProg
import Derived.Shelf.SlSortCmp.NoneTotal
import Derived.Test.YtbegbajlagcbdaaGreatDoorProg
namespace Go.Proofs.YtbegbajlagcbdaaGreatDoor
open Go Go.RowKit
def inR (m z : Int) : Prop := 0 ≤ z ∧ z ≤ m
theorem inB_yes {m z : Int} (h : inR m z) : inB m z = true := by unfold inB; simp [h.1, h.2]
theorem inB_no {m z : Int} (h : ¬ inR m z) : inB m z = false := by
  unfold inB inR at *
  by_cases h0 : 0 ≤ z
  · have : ¬ z ≤ m := fun h1 => h ⟨h0, h1⟩
    simp [this]
  · simp [h0]
/-- What the loops of the reference have seen. -/
def Rng (g : Grad) : Prop := (inR 1000 g.t0 ∧ inR 5000 g.p0) ∧ (inR 1000 g.t1 ∧ inR 5000 g.p1) ∧ (inR 1000 g.t2 ∧ inR 5000 g.p2) ∧ inR 240 g.m0 ∧ inR 240 g.m1 ∧ inR 240 g.m2 ∧ inR 240 g.m3
def Ord (g : Grad) : Prop := (g.t0 ≤ g.t1 ∧ g.p1 ≤ g.p0) ∧ (g.t1 ≤ g.t2 ∧ g.p2 ≤ g.p1) ∧ g.m1 ≤ g.m0 ∧ g.m2 ≤ g.m1 ∧ g.m3 ≤ g.m2
theorem inB_iff {m z : Int} : inB m z = true ↔ inR m z := by unfold inB inR; simp
theorem range_iff {g : Grad} : g.range = true ↔ Rng g := by
  unfold Grad.range Rng allB
  simp only [List.all_cons, List.all_nil, Bool.and_true, Bool.and_eq_true, inB_iff]
  constructor
  · rintro ⟨⟨a, b, c⟩, ⟨d, e, f⟩, h⟩; exact ⟨⟨a, d⟩, ⟨b, e⟩, ⟨c, f⟩, h⟩
  · rintro ⟨⟨a, d⟩, ⟨b, e⟩, ⟨c, f⟩, h⟩; exact ⟨⟨a, b, c⟩, ⟨d, e, f⟩, h⟩
theorem up3_iff {a b c : Int} : upB [a, b, c] = true ↔ a ≤ b ∧ b ≤ c := by
  unfold upB
  rw [decide_eq_true_eq]
  constructor
  · intro h; exact ⟨h 0 (by simp), h 1 (by simp)⟩
  · rintro ⟨h1, h2⟩ j hj
    match j, hj with
    | 0, _ => exact h1
    | 1, _ => exact h2
theorem down3_iff {a b c : Int} : downB [a, b, c] = true ↔ b ≤ a ∧ c ≤ b := by
  unfold downB
  rw [decide_eq_true_eq]
  constructor
  · intro h; exact ⟨h 0 (by simp), h 1 (by simp)⟩
  · rintro ⟨h1, h2⟩ j hj
    match j, hj with
    | 0, _ => exact h1
    | 1, _ => exact h2
theorem down4_iff {a b c d : Int} : downB [a, b, c, d] = true ↔ b ≤ a ∧ c ≤ b ∧ d ≤ c := by
  unfold downB
  rw [decide_eq_true_eq]
  constructor
  · intro h; exact ⟨h 0 (by simp), h 1 (by simp), h 2 (by simp)⟩
  · rintro ⟨h1, h2, h3⟩ j hj
    match j, hj with
    | 0, _ => exact h1
    | 1, _ => exact h2
    | 2, _ => exact h3
theorem order_iff {g : Grad} : g.order = true ↔ Ord g := by
  unfold Grad.order Ord
  simp only [Bool.and_eq_true, up3_iff, down3_iff, down4_iff]
  constructor
  · rintro ⟨⟨a, b⟩, ⟨c, d⟩, e⟩; exact ⟨⟨a, c⟩, ⟨b, d⟩, e⟩
  · rintro ⟨⟨a, c⟩, ⟨b, d⟩, e⟩; exact ⟨⟨a, b⟩, ⟨c, d⟩, e⟩
theorem Cal.gradErr_2 {g : Grad} (h : ¬ Rng g) : Cal.gradErr g = 2 := by unfold Cal.gradErr; rw [if_neg (fun x => h (range_iff.1 x))]
theorem Cal.gradErr_9 {g : Grad} (h : Rng g) (h2 : ¬ Ord g) : Cal.gradErr g = 9 := by unfold Cal.gradErr; rw [if_pos (range_iff.2 h), if_neg (fun x => h2 (order_iff.1 x))]
theorem Cal.gradErr_0 {g : Grad} (h : Rng g) (h2 : Ord g) : Cal.gradErr g = 0 := by unfold Cal.gradErr; rw [if_pos (range_iff.2 h), if_pos (order_iff.2 h2)]
set_option maxRecDepth 100000 in
set_option maxHeartbeats 4000000 in
theorem CheckGradingR_any (g : Grad) (w : World) : Calls Tryz.prog 12 #[.agg #[.int .i64 g.t0, .int .i64 g.t1, .int .i64 g.t2, .int .i64 g.p0, .int .i64 g.p1, .int .i64 g.p2, .int .i64 g.m0, .int .i64 g.m1, .int .i64 g.m2, .int .i64 g.m3]] w fun e w' => e = .returned (.int .i64 (Cal.gradErr g)) ∧ Below w.heap.size w w' := by
  have hb : Hid (Below w.heap.size w ((w.alloc (.cells #[.int .i64 g.t0, .int .i64 g.t1, .int .i64 g.t2, .int .i64 g.p0, .int .i64 g.p1, .int .i64 g.p2, .int .i64 g.m0, .int .i64 g.m1, .int .i64 g.m2, .int .i64 g.m3] 25)))) := below_alloc _ _
  go_enter Tryz.func12, Tryz.ntmps12
  go_wp2_with fail
  go_loop [3] (fun i => (i = .int .i64 0) ∨ (i = .int .i64 1 ∧ Hid (inR 1000 g.t0 ∧ inR 5000 g.p0)) ∨ (i = .int .i64 2 ∧ Hid (inR 1000 g.t0 ∧ inR 5000 g.p0) ∧ Hid (inR 1000 g.t1 ∧ inR 5000 g.p1)) ∨ (i = .int .i64 3 ∧ Hid (inR 1000 g.t0 ∧ inR 5000 g.p0) ∧ Hid (inR 1000 g.t1 ∧ inR 5000 g.p1) ∧ Hid (inR 1000 g.t2 ∧ inR 5000 g.p2))) (fun i => (3 - intOf i).toNat)
  case atStart => exact .inl rfl
  case round =>
    rcases hrel with rfl | ⟨rfl, q0⟩ | ⟨rfl, q0, q1⟩ | ⟨rfl, q0, q1, q2⟩
    · by_cases ht : inR 1000 g.t0
      · obtain ⟨ta, tb⟩ := ht
        by_cases hp : inR 5000 g.p0
        · have hz : Hid (inR 1000 g.t0 ∧ inR 5000 g.p0) := ⟨⟨ta, tb⟩, hp⟩
          obtain ⟨pa, pb⟩ := hp
          go_wp2_with (((first | (go_at_call 134) | (go_at_call 59) | (go_at_call 133) | (go_at_call 14) | (go_at_call 178) | (fail) | (go_at_call 139)); first | refine rin ?_ | refine rout ?_ | refine rany ?_))
          go_round
          case rel => exact .inr (.inl ⟨rfl, hz⟩)
          case measure => simp [intOf]
        · have hfin : Hid (Cal.gradErr g = 2) := Cal.gradErr_2 (fun h => hp (h.1).2)
          have hp' : g.p0 < 0 ∨ 5000 < g.p0 := by unfold inR at hp; omega
          clear hp
          go_wp2_with (((first | (go_at_call 134) | (go_at_call 59) | (go_at_call 133) | (go_at_call 14) | (go_at_call 178) | (fail) | (go_at_call 139)); first | refine rin ?_ | refine rout ?_ | refine rany ?_))
          go_ret
          exact ⟨ret_int hfin.out.symm, hb.out⟩
      · have hfin : Hid (Cal.gradErr g = 2) := Cal.gradErr_2 (fun h => ht (h.1).1)
        have ht' : g.t0 < 0 ∨ 1000 < g.t0 := by unfold inR at ht; omega
        clear ht
        go_wp2_with (((first | (go_at_call 134) | (go_at_call 59) | (go_at_call 133) | (go_at_call 14) | (go_at_call 178) | (fail) | (go_at_call 139)); first | refine rin ?_ | refine rout ?_ | refine rany ?_))
        go_ret
        exact ⟨ret_int hfin.out.symm, hb.out⟩
    · by_cases ht : inR 1000 g.t1
      · obtain ⟨ta, tb⟩ := ht
        by_cases hp : inR 5000 g.p1
        · have hz : Hid (inR 1000 g.t1 ∧ inR 5000 g.p1) := ⟨⟨ta, tb⟩, hp⟩
          obtain ⟨pa, pb⟩ := hp
          go_wp2_with (((first | (go_at_call 134) | (go_at_call 59) | (go_at_call 133) | (go_at_call 14) | (go_at_call 178) | (fail) | (go_at_call 139)); first | refine rin ?_ | refine rout ?_ | refine rany ?_))
          go_round
          case rel => exact .inr (.inr (.inl ⟨rfl, q0, hz⟩))
          case measure => simp [intOf]
        · have hfin : Hid (Cal.gradErr g = 2) := Cal.gradErr_2 (fun h => hp (h.2.1).2)
          have hp' : g.p1 < 0 ∨ 5000 < g.p1 := by unfold inR at hp; omega
          clear hp
          go_wp2_with (((first | (go_at_call 134) | (go_at_call 59) | (go_at_call 133) | (go_at_call 14) | (go_at_call 178) | (fail) | (go_at_call 139)); first | refine rin ?_ | refine rout ?_ | refine rany ?_))
          go_ret
          exact ⟨ret_int hfin.out.symm, hb.out⟩
      · have hfin : Hid (Cal.gradErr g = 2) := Cal.gradErr_2 (fun h => ht (h.2.1).1)
        have ht' : g.t1 < 0 ∨ 1000 < g.t1 := by unfold inR at ht; omega
        clear ht
        go_wp2_with (((first | (go_at_call 134) | (go_at_call 59) | (go_at_call 133) | (go_at_call 14) | (go_at_call 178) | (fail) | (go_at_call 139)); first | refine rin ?_ | refine rout ?_ | refine rany ?_))
        go_ret
        exact ⟨ret_int hfin.out.symm, hb.out⟩
    · by_cases ht : inR 1000 g.t2
      · obtain ⟨ta, tb⟩ := ht
        by_cases hp : inR 5000 g.p2
        · have hz : Hid (inR 1000 g.t2 ∧ inR 5000 g.p2) := ⟨⟨ta, tb⟩, hp⟩
          obtain ⟨pa, pb⟩ := hp
          go_wp2_with (((first | (go_at_call 134) | (go_at_call 59) | (go_at_call 133) | (go_at_call 14) | (go_at_call 178) | (fail) | (go_at_call 139)); first | refine rin ?_ | refine rout ?_ | refine rany ?_))
          go_round
          case rel => exact .inr (.inr (.inr ⟨rfl, q0, q1, hz⟩))
          case measure => simp [intOf]
        · have hfin : Hid (Cal.gradErr g = 2) := Cal.gradErr_2 (fun h => hp (h.2.2.1).2)
          have hp' : g.p2 < 0 ∨ 5000 < g.p2 := by unfold inR at hp; omega
          clear hp
          go_wp2_with (((first | (go_at_call 134) | (go_at_call 59) | (go_at_call 133) | (go_at_call 14) | (go_at_call 178) | (fail) | (go_at_call 139)); first | refine rin ?_ | refine rout ?_ | refine rany ?_))
          go_ret
          exact ⟨ret_int hfin.out.symm, hb.out⟩
      · have hfin : Hid (Cal.gradErr g = 2) := Cal.gradErr_2 (fun h => ht (h.2.2.1).1)
        have ht' : g.t2 < 0 ∨ 1000 < g.t2 := by unfold inR at ht; omega
        clear ht
        go_wp2_with (((first | (go_at_call 134) | (go_at_call 59) | (go_at_call 133) | (go_at_call 14) | (go_at_call 178) | (fail) | (go_at_call 139)); first | refine rin ?_ | refine rout ?_ | refine rany ?_))
        go_ret
        exact ⟨ret_int hfin.out.symm, hb.out⟩
    · go_wp2_with fail
      go_loop [4] (fun i => (i = .int .i64 0) ∨ (i = .int .i64 1 ∧ Hid (inR 240 g.m0)) ∨ (i = .int .i64 2 ∧ Hid (inR 240 g.m0) ∧ Hid (inR 240 g.m1)) ∨ (i = .int .i64 3 ∧ Hid (inR 240 g.m0) ∧ Hid (inR 240 g.m1) ∧ Hid (inR 240 g.m2)) ∨ (i = .int .i64 4 ∧ Hid (inR 240 g.m0) ∧ Hid (inR 240 g.m1) ∧ Hid (inR 240 g.m2) ∧ Hid (inR 240 g.m3))) (fun i => (4 - intOf i).toNat)
      case atStart => exact .inl rfl
      case round =>
        rcases hrel with rfl | ⟨rfl, m0⟩ | ⟨rfl, m0, m1⟩ | ⟨rfl, m0, m1, m2⟩ | ⟨rfl, m0, m1, m2, m3⟩
        · by_cases ht : inR 240 g.m0
          · have hz := Lib.hid ht
            obtain ⟨ta, tb⟩ := ht
            go_wp2_with (((first | (go_at_call 134) | (go_at_call 59) | (go_at_call 133) | (go_at_call 14) | (go_at_call 178) | (fail) | (go_at_call 139)); first | refine rin ?_ | refine rout ?_ | refine rany ?_))
            go_round
            case rel => exact .inr (.inl ⟨rfl, hz⟩)
            case measure => simp [intOf]
          · have hfin : Hid (Cal.gradErr g = 2) := Cal.gradErr_2 (fun h => ht (h.2.2.2.1))
            have ht' : g.m0 < 0 ∨ 240 < g.m0 := by unfold inR at ht; omega
            clear ht
            go_wp2_with (((first | (go_at_call 134) | (go_at_call 59) | (go_at_call 133) | (go_at_call 14) | (go_at_call 178) | (fail) | (go_at_call 139)); first | refine rin ?_ | refine rout ?_ | refine rany ?_))
            go_ret
            exact ⟨ret_int hfin.out.symm, hb.out⟩
        · by_cases ht : inR 240 g.m1
          · have hz := Lib.hid ht
            obtain ⟨ta, tb⟩ := ht
            go_wp2_with (((first | (go_at_call 134) | (go_at_call 59) | (go_at_call 133) | (go_at_call 14) | (go_at_call 178) | (fail) | (go_at_call 139)); first | refine rin ?_ | refine rout ?_ | refine rany ?_))
            go_round
            case rel => exact .inr (.inr (.inl ⟨rfl, m0, hz⟩))
            case measure => simp [intOf]
          · have hfin : Hid (Cal.gradErr g = 2) := Cal.gradErr_2 (fun h => ht (h.2.2.2.2.1))
            have ht' : g.m1 < 0 ∨ 240 < g.m1 := by unfold inR at ht; omega
            clear ht
            go_wp2_with (((first | (go_at_call 134) | (go_at_call 59) | (go_at_call 133) | (go_at_call 14) | (go_at_call 178) | (fail) | (go_at_call 139)); first | refine rin ?_ | refine rout ?_ | refine rany ?_))
            go_ret
            exact ⟨ret_int hfin.out.symm, hb.out⟩
        · by_cases ht : inR 240 g.m2
          · have hz := Lib.hid ht
            obtain ⟨ta, tb⟩ := ht
            go_wp2_with (((first | (go_at_call 134) | (go_at_call 59) | (go_at_call 133) | (go_at_call 14) | (go_at_call 178) | (fail) | (go_at_call 139)); first | refine rin ?_ | refine rout ?_ | refine rany ?_))
            go_round
            case rel => exact .inr (.inr (.inr (.inl ⟨rfl, m0, m1, hz⟩)))
            case measure => simp [intOf]
          · have hfin : Hid (Cal.gradErr g = 2) := Cal.gradErr_2 (fun h => ht (h.2.2.2.2.2.1))
            have ht' : g.m2 < 0 ∨ 240 < g.m2 := by unfold inR at ht; omega
            clear ht
            go_wp2_with (((first | (go_at_call 134) | (go_at_call 59) | (go_at_call 133) | (go_at_call 14) | (go_at_call 178) | (fail) | (go_at_call 139)); first | refine rin ?_ | refine rout ?_ | refine rany ?_))
            go_ret
            exact ⟨ret_int hfin.out.symm, hb.out⟩
        · by_cases ht : inR 240 g.m3
          · have hz := Lib.hid ht
            obtain ⟨ta, tb⟩ := ht
            go_wp2_with (((first | (go_at_call 134) | (go_at_call 59) | (go_at_call 133) | (go_at_call 14) | (go_at_call 178) | (fail) | (go_at_call 139)); first | refine rin ?_ | refine rout ?_ | refine rany ?_))
            go_round
            case rel => exact .inr (.inr (.inr (.inr ⟨rfl, m0, m1, m2, hz⟩)))
            case measure => simp [intOf]
          · have hfin : Hid (Cal.gradErr g = 2) := Cal.gradErr_2 (fun h => ht (h.2.2.2.2.2.2))
            have ht' : g.m3 < 0 ∨ 240 < g.m3 := by unfold inR at ht; omega
            clear ht
            go_wp2_with (((first | (go_at_call 134) | (go_at_call 59) | (go_at_call 133) | (go_at_call 14) | (go_at_call 178) | (fail) | (go_at_call 139)); first | refine rin ?_ | refine rout ?_ | refine rany ?_))
            go_ret
            exact ⟨ret_int hfin.out.symm, hb.out⟩
        · have hR : Hid (Rng g) := ⟨q0.out, q1.out, q2.out, m0.out, m1.out, m2.out, m3.out⟩
          clear q0 q1 q2 m0 m1 m2 m3
          go_wp2_with fail
          go_loopw [5] (fun i wr => ∃ k : Nat, ((i = .int .i64 1) ∨ (i = .int .i64 2 ∧ Hid (g.t0 ≤ g.t1 ∧ g.p1 ≤ g.p0)) ∨ (i = .int .i64 3 ∧ Hid (g.t0 ≤ g.t1 ∧ g.p1 ≤ g.p0) ∧ Hid (g.t1 ≤ g.t2 ∧ g.p2 ≤ g.p1))) ∧ wr = World.drewN ((w.alloc (.cells #[.int .i64 g.t0, .int .i64 g.t1, .int .i64 g.t2, .int .i64 g.p0, .int .i64 g.p1, .int .i64 g.p2, .int .i64 g.m0, .int .i64 g.m1, .int .i64 g.m2, .int .i64 g.m3] 25))) k) (fun i _ => (3 - intOf i).toNat)
          case atStart => exact ⟨0, .inl rfl, rfl⟩
          case round =>
            obtain ⟨k, hi, rfl⟩ := hrel
            rcases hi with rfl | ⟨rfl, o1⟩ | ⟨rfl, o1, o2⟩
            · by_cases ht : g.t1 < g.t0
              · have hfin : Hid (Cal.gradErr g = 9) := Cal.gradErr_9 hR.out (fun h => absurd (h.1).1 (by omega))
                have hd : decide (g.t1 < g.t0) = true := by simpa using ht
                clear ht
                go_wp2_with fail
                go_quiet (fail)
                go_wp2_with fail
                go_ret
                exact ⟨ret_int hfin.out.symm, by first | exact below_drewN hb.out _ | exact below_drewN (below_drewN hb.out _) _⟩
              · have hd : decide (g.t1 < g.t0) = false := by simpa using ht
                by_cases hp : g.p0 < g.p1
                · have hfin : Hid (Cal.gradErr g = 9) := Cal.gradErr_9 hR.out (fun h => absurd (h.1).2 (by omega))
                  have hd2 : decide (g.p0 < g.p1) = true := by simpa using hp
                  clear ht hp
                  go_wp2_with fail
                  go_quiet (fail)
                  go_wp2_with fail
                  go_ret
                  exact ⟨ret_int hfin.out.symm, by first | exact below_drewN hb.out _ | exact below_drewN (below_drewN hb.out _) _⟩
                · have hz : Hid (g.t0 ≤ g.t1 ∧ g.p1 ≤ g.p0) := ⟨by omega, by omega⟩
                  have hd2 : decide (g.p0 < g.p1) = false := by simpa using hp
                  clear ht hp
                  go_wp2_with fail
                  go_quiet (fail)
                  go_wp2_with fail
                  go_roundw
                  case rel => exact ⟨_, .inr (.inl ⟨rfl, hz⟩), rfl⟩
                  case measure => simp [intOf]
            · by_cases ht : g.t2 < g.t1
              · have hfin : Hid (Cal.gradErr g = 9) := Cal.gradErr_9 hR.out (fun h => absurd (h.2.1).1 (by omega))
                have hd : decide (g.t2 < g.t1) = true := by simpa using ht
                clear ht
                go_wp2_with fail
                go_quiet (fail)
                go_wp2_with fail
                go_ret
                exact ⟨ret_int hfin.out.symm, by first | exact below_drewN hb.out _ | exact below_drewN (below_drewN hb.out _) _⟩
              · have hd : decide (g.t2 < g.t1) = false := by simpa using ht
                by_cases hp : g.p1 < g.p2
                · have hfin : Hid (Cal.gradErr g = 9) := Cal.gradErr_9 hR.out (fun h => absurd (h.2.1).2 (by omega))
                  have hd2 : decide (g.p1 < g.p2) = true := by simpa using hp
                  clear ht hp
                  go_wp2_with fail
                  go_quiet (fail)
                  go_wp2_with fail
                  go_ret
                  exact ⟨ret_int hfin.out.symm, by first | exact below_drewN hb.out _ | exact below_drewN (below_drewN hb.out _) _⟩
                · have hz : Hid (g.t1 ≤ g.t2 ∧ g.p2 ≤ g.p1) := ⟨by omega, by omega⟩
                  have hd2 : decide (g.p1 < g.p2) = false := by simpa using hp
                  clear ht hp
                  go_wp2_with fail
                  go_quiet (fail)
                  go_wp2_with fail
                  go_roundw
                  case rel => exact ⟨_, .inr (.inr ⟨rfl, o1, hz⟩), rfl⟩
                  case measure => simp [intOf]
            · go_wp2_with fail
              go_loopw [6] (fun i wr => ∃ k : Nat, ((i = .int .i64 1) ∨ (i = .int .i64 2 ∧ Hid (g.m1 ≤ g.m0)) ∨ (i = .int .i64 3 ∧ Hid (g.m1 ≤ g.m0) ∧ Hid (g.m2 ≤ g.m1)) ∨ (i = .int .i64 4 ∧ Hid (g.m1 ≤ g.m0) ∧ Hid (g.m2 ≤ g.m1) ∧ Hid (g.m3 ≤ g.m2))) ∧ wr = World.drewN ((w.alloc (.cells #[.int .i64 g.t0, .int .i64 g.t1, .int .i64 g.t2, .int .i64 g.p0, .int .i64 g.p1, .int .i64 g.p2, .int .i64 g.m0, .int .i64 g.m1, .int .i64 g.m2, .int .i64 g.m3] 25))) k) (fun i _ => (4 - intOf i).toNat)
              case atStart => exact ⟨_, .inl rfl, rfl⟩
              case round =>
                obtain ⟨k, hi, rfl⟩ := hrel
                rcases hi with rfl | ⟨rfl, x1⟩ | ⟨rfl, x1, x2⟩ | ⟨rfl, x1, x2, x3⟩
                · by_cases hp : g.m0 < g.m1
                  · have hfin : Hid (Cal.gradErr g = 9) := Cal.gradErr_9 hR.out (fun h => absurd (h.2.2.1) (by omega))
                    have hd2 : decide (g.m0 < g.m1) = true := by simpa using hp
                    clear hp
                    go_wp2_with fail
                    go_quiet (fail)
                    go_wp2_with fail
                    go_ret
                    exact ⟨ret_int hfin.out.symm, by first | exact below_drewN hb.out _ | exact below_drewN (below_drewN hb.out _) _⟩
                  · have hz : Hid (g.m1 ≤ g.m0) := by show _ ≤ _; omega
                    have hd2 : decide (g.m0 < g.m1) = false := by simpa using hp
                    clear hp
                    go_wp2_with fail
                    go_quiet (fail)
                    go_wp2_with fail
                    go_roundw
                    case rel => exact ⟨_, .inr (.inl ⟨rfl, hz⟩), rfl⟩
                    case measure => simp [intOf]
                · by_cases hp : g.m1 < g.m2
                  · have hfin : Hid (Cal.gradErr g = 9) := Cal.gradErr_9 hR.out (fun h => absurd (h.2.2.2.1) (by omega))
                    have hd2 : decide (g.m1 < g.m2) = true := by simpa using hp
                    clear hp
                    go_wp2_with fail
                    go_quiet (fail)
                    go_wp2_with fail
                    go_ret
                    exact ⟨ret_int hfin.out.symm, by first | exact below_drewN hb.out _ | exact below_drewN (below_drewN hb.out _) _⟩
                  · have hz : Hid (g.m2 ≤ g.m1) := by show _ ≤ _; omega
                    have hd2 : decide (g.m1 < g.m2) = false := by simpa using hp
                    clear hp
                    go_wp2_with fail
                    go_quiet (fail)
                    go_wp2_with fail
                    go_roundw
                    case rel => exact ⟨_, .inr (.inr (.inl ⟨rfl, x1, hz⟩)), rfl⟩
                    case measure => simp [intOf]
                · by_cases hp : g.m2 < g.m3
                  · have hfin : Hid (Cal.gradErr g = 9) := Cal.gradErr_9 hR.out (fun h => absurd (h.2.2.2.2) (by omega))
                    have hd2 : decide (g.m2 < g.m3) = true := by simpa using hp
                    clear hp
                    go_wp2_with fail
                    go_quiet (fail)
                    go_wp2_with fail
                    go_ret
                    exact ⟨ret_int hfin.out.symm, by first | exact below_drewN hb.out _ | exact below_drewN (below_drewN hb.out _) _⟩
                  · have hz : Hid (g.m3 ≤ g.m2) := by show _ ≤ _; omega
                    have hd2 : decide (g.m2 < g.m3) = false := by simpa using hp
                    clear hp
                    go_wp2_with fail
                    go_quiet (fail)
                    go_wp2_with fail
                    go_roundw
                    case rel => exact ⟨_, .inr (.inr (.inr ⟨rfl, x1, x2, hz⟩)), rfl⟩
                    case measure => simp [intOf]
                · have hfin := Lib.hid (Cal.gradErr_0 hR.out ⟨o1.out, o2.out, x1.out, x2.out, x3.out⟩)
                  go_wp2_with fail
                  go_ret
                  exact ⟨ret_int hfin.out.symm, below_drewN hb.out _⟩
end Go.Proofs.YtbegbajlagcbdaaGreatDoor
namespace Go.Proofs.YtbegbajlagcbdaaGreatDoor
open Go Go.RowKit Go.ChangeShapes Go.WideShapes Go.Deep
section
variable {H : Type} {enc : TypeId × Value → H} {w : World} {spare : Nat → Bool} {held : Bool} {r : Reach} {b0 : Nat} {v : Value} {d : DataW H} {ps : List MemPlace}
set_option maxRecDepth 100000 in
theorem visit_of_open (hval : Value.okWide Tryz.prog w r b0 106 v) (h : DataW.Trod enc Tryz.prog w 0 spare held 106 v d ps) : ∃ z : Vis, v = .agg #[.int .i64 z.day, .int .i64 z.kind, .int .i64 z.tilt, .int .i64 z.push] := by
  have hu := Tryz.underlying106
  unfold Value.okWide at hval
  rw [hu] at hval
  obtain ⟨cs, rfl, hcs, _⟩ := hval
  obtain ⟨fuel, hf⟩ := h
  obtain ⟨m, xs, hlen, hxl, hi⟩ := trod_cells hu (by kernel_rfl) hf
  have h0 := hi 0 _ rfl
  have h1 := hi 1 _ rfl
  have h2 := hi 2 _ rfl
  have h3 := hi 3 _ rfl
  rw [show Tryz.prog.cellsOf 106 = 4 by kernel_rfl] at hcs
  obtain ⟨l⟩ := cs
  match l, hcs with
  | [a, b, c, e], _ =>
    match xs, hxl with
    | [y0, y1, y2, y3], _ =>
      simp [Value.cells] at h0 h1 h2 h3
      obtain ⟨s0, e0, _, _⟩ := DataW.trod_int Tryz.underlying3 h0
      obtain ⟨s1, e1, _, _⟩ := DataW.trod_int Tryz.underlying3 h1
      obtain ⟨s2, e2, _, _⟩ := DataW.trod_int Tryz.underlying3 h2
      obtain ⟨s3, e3, _, _⟩ := DataW.trod_int Tryz.underlying3 h3
      cases e0; cases e1; cases e2; cases e3
      exact ⟨⟨s0, s1, s2, s3⟩, rfl⟩
set_option maxRecDepth 100000 in
theorem tri_of_trod {fuel : Nat} {x : DataW H × List MemPlace} {a b c : Value} (hf : DataW.trod enc Tryz.prog w 0 spare held fuel 22 [a, b, c] = some x) : ∃ i j k : Int, a = .int .i64 i ∧ b = .int .i64 j ∧ c = .int .i64 k := by
  have hu := Tryz.underlying22
  obtain ⟨xs, m, _, _, hlen, hxl, hi⟩ := DataW.trod_array hu hf
  have h0 := hi 0 (by decide)
  have h1 := hi 1 (by decide)
  have h2 := hi 2 (by decide)
  rw [show Tryz.prog.cellsOf 3 = 1 by kernel_rfl] at h0 h1 h2
  match xs, hxl with
  | [y0, y1, y2], _ =>
    simp at h0 h1 h2
    obtain ⟨s0, e0, _, _⟩ := DataW.trod_int Tryz.underlying3 h0
    obtain ⟨s1, e1, _, _⟩ := DataW.trod_int Tryz.underlying3 h1
    obtain ⟨s2, e2, _, _⟩ := DataW.trod_int Tryz.underlying3 h2
    cases e0; cases e1; cases e2
    exact ⟨s0, s1, s2, rfl, rfl, rfl⟩
set_option maxRecDepth 100000 in
theorem quad_of_trod {fuel : Nat} {x : DataW H × List MemPlace} {a b c e : Value} (hf : DataW.trod enc Tryz.prog w 0 spare held fuel 23 [a, b, c, e] = some x) : ∃ i j k l : Int, a = .int .i64 i ∧ b = .int .i64 j ∧ c = .int .i64 k ∧ e = .int .i64 l := by
  have hu := Tryz.underlying23
  obtain ⟨xs, m, _, _, hlen, hxl, hi⟩ := DataW.trod_array hu hf
  have h0 := hi 0 (by decide)
  have h1 := hi 1 (by decide)
  have h2 := hi 2 (by decide)
  have h3 := hi 3 (by decide)
  rw [show Tryz.prog.cellsOf 3 = 1 by kernel_rfl] at h0 h1 h2 h3
  match xs, hxl with
  | [y0, y1, y2, y3], _ =>
    simp at h0 h1 h2 h3
    obtain ⟨s0, e0, _, _⟩ := DataW.trod_int Tryz.underlying3 h0
    obtain ⟨s1, e1, _, _⟩ := DataW.trod_int Tryz.underlying3 h1
    obtain ⟨s2, e2, _, _⟩ := DataW.trod_int Tryz.underlying3 h2
    obtain ⟨s3, e3, _, _⟩ := DataW.trod_int Tryz.underlying3 h3
    cases e0; cases e1; cases e2; cases e3
    exact ⟨s0, s1, s2, s3, rfl, rfl, rfl, rfl⟩
set_option maxRecDepth 100000 in
theorem grad_of_open (hval : Value.okWide Tryz.prog w r b0 25 v) (h : DataW.Trod enc Tryz.prog w 0 spare held 25 v d ps) : ∃ g : Grad, v = .agg #[.int .i64 g.t0, .int .i64 g.t1, .int .i64 g.t2, .int .i64 g.p0, .int .i64 g.p1, .int .i64 g.p2, .int .i64 g.m0, .int .i64 g.m1, .int .i64 g.m2, .int .i64 g.m3] := by
  have hu := Tryz.underlying25
  unfold Value.okWide at hval
  rw [hu] at hval
  obtain ⟨cs, rfl, hcs, _⟩ := hval
  obtain ⟨fuel, hf⟩ := h
  obtain ⟨xs, n, _, _, _, hxl, hi⟩ := DataW.trod_struct hu hf
  have h0 : DataW.trod enc Tryz.prog w 0 spare held n 22 (((Value.agg cs).cells.toList.drop 0).take (Tryz.prog.cellsOf 22)) = xs[0]? := hi 0 _ rfl
  have h1 : DataW.trod enc Tryz.prog w 0 spare held n 22 (((Value.agg cs).cells.toList.drop 3).take (Tryz.prog.cellsOf 22)) = xs[1]? := hi 1 _ rfl
  have h2 : DataW.trod enc Tryz.prog w 0 spare held n 23 (((Value.agg cs).cells.toList.drop 6).take (Tryz.prog.cellsOf 23)) = xs[2]? := hi 2 _ rfl
  rw [show Tryz.prog.cellsOf 25 = 10 by kernel_rfl] at hcs
  rw [show Tryz.prog.cellsOf 22 = 3 by kernel_rfl] at h0 h1
  rw [show Tryz.prog.cellsOf 23 = 4 by kernel_rfl] at h2
  obtain ⟨l⟩ := cs
  match l, hcs with
  | [a0, a1, a2, a3, a4, a5, a6, a7, a8, a9], _ =>
    match xs, hxl with
    | [y0, y1, y2], _ =>
      simp [Value.cells] at h0 h1 h2
      obtain ⟨i0, i1, i2, e0, e1, e2⟩ := tri_of_trod h0
      obtain ⟨i3, i4, i5, e3, e4, e5⟩ := tri_of_trod h1
      obtain ⟨i6, i7, i8, i9, e6, e7, e8, e9⟩ := quad_of_trod h2
      subst e0 e1 e2 e3 e4 e5 e6 e7 e8 e9
      exact ⟨⟨i0, i1, i2, i3, i4, i5, i6, i7, i8, i9⟩, rfl⟩
end
end Go.Proofs.YtbegbajlagcbdaaGreatDoor
namespace Go.Proofs
open Go.Shelf
def Tryz.laysSlF06_f57_ren : Go.Shelf.Ren := ⟨fun | 6 => 57 | 15 => 110 | 14 => 109 | 28 => 173 | 29 => 174 | 20 => 165 | 21 => 166 | 22 => 167 | 23 => 168 | 24 => 169 | 25 => 170 | 26 => 171 | 27 => 172 | 46 => 221 | 47 => 222 | 48 => 223 | 49 => 224 | 50 => 225 | 57 => 256 | n => n, fun | 22 => 117 | 24 => 120 | 25 => 125 | 3 => 3 | 39 => 197 | 0 => 0 | 53 => 251 | 55 => 253 | 4 => 4 | 46 => 245 | 45 => 244 | 50 => 199 | 5 => 5 | 9 => 9 | 66 => 286 | 70 => 227 | 76 => 308 | 77 => 63 | n => n, fun | n => n⟩
theorem Tryz.laysSlF06_f57 : Go.Proofs.SlLaysF0.n6 Tryz.prog Tryz.laysSlF06_f57_ren := {
  mixed := by kernel_rfl
  f6 := ⟨Tryz.f57.name, by decide, Tryz.func57.trans (congrArg some (by kernel_rfl))⟩
  f14 := ⟨Tryz.f109.name, by decide, Tryz.func109.trans (congrArg some (by kernel_rfl))⟩
  f15 := Tryz.func110.trans (congrArg some (by kernel_rfl))
  f20 := ⟨Tryz.f165.name, by decide, Tryz.func165.trans (congrArg some (by kernel_rfl))⟩
  f21 := ⟨Tryz.f166.name, by decide, Tryz.func166.trans (congrArg some (by kernel_rfl))⟩
  f22 := ⟨Tryz.f167.name, by decide, Tryz.func167.trans (congrArg some (by kernel_rfl))⟩
  f23 := ⟨Tryz.f168.name, by decide, Tryz.func168.trans (congrArg some (by kernel_rfl))⟩
  f24 := ⟨Tryz.f169.name, by decide, Tryz.func169.trans (congrArg some (by kernel_rfl))⟩
  f25 := ⟨Tryz.f170.name, by decide, Tryz.func170.trans (congrArg some (by kernel_rfl))⟩
  f26 := ⟨Tryz.f171.name, by decide, Tryz.func171.trans (congrArg some (by kernel_rfl))⟩
  f27 := ⟨Tryz.f172.name, by decide, Tryz.func172.trans (congrArg some (by kernel_rfl))⟩
  f28 := Tryz.func173.trans (congrArg some (by kernel_rfl))
  f29 := Tryz.func174.trans (congrArg some (by kernel_rfl))
  f46 := ⟨Tryz.f221.name, by decide, Tryz.func221.trans (congrArg some (by kernel_rfl))⟩
  f47 := Tryz.func222.trans (congrArg some (by kernel_rfl))
  f48 := Tryz.func223.trans (congrArg some (by kernel_rfl))
  f49 := ⟨Tryz.f224.name, by decide, Tryz.func224.trans (congrArg some (by kernel_rfl))⟩
  f50 := ⟨Tryz.f225.name, by decide, Tryz.func225.trans (congrArg some (by kernel_rfl))⟩
  f57 := ⟨Tryz.f256.name, by decide, Tryz.func256.trans (congrArg some (by kernel_rfl))⟩
  t0 := Tryz.underlying0
  a0 := Tryz.isAgg0
  z0 := Tryz.sizeOf0
  v0 := Tryz.zeroValue0
  t3 := Tryz.underlying3
  a3 := Tryz.isAgg3
  z3 := Tryz.sizeOf3
  v3 := Tryz.zeroValue3
  t4 := Tryz.underlying4
  a4 := Tryz.isAgg4
  z4 := Tryz.sizeOf4
  v4 := Tryz.zeroValue4
  t5 := Tryz.underlying5
  a5 := Tryz.isAgg5
  z5 := Tryz.sizeOf5
  v5 := Tryz.zeroValue5
  t9 := Tryz.underlying9
  a9 := Tryz.isAgg9
  z9 := Tryz.sizeOf9
  v9 := Tryz.zeroValue9
  t22 := Tryz.underlying117
  a22 := Tryz.isAgg117
  z22 := Tryz.sizeOf117
  v22 := Tryz.zeroValue117
  t25 := Tryz.underlying125
  a25 := Tryz.isAgg125
  z25 := Tryz.sizeOf125
  v25 := Tryz.zeroValue125
  t39 := Tryz.underlying197
  a39 := Tryz.isAgg197
  z39 := Tryz.sizeOf197
  v39 := Tryz.zeroValue197
  t45 := Tryz.underlying244
  a45 := Tryz.isAgg244
  z45 := Tryz.sizeOf244
  v45 := Tryz.zeroValue244
  t46 := Tryz.underlying245
  a46 := Tryz.isAgg245
  z46 := Tryz.sizeOf245
  v46 := Tryz.zeroValue245
  t50 := Tryz.underlying199
  a50 := Tryz.isAgg199
  z50 := Tryz.sizeOf199
  v50 := Tryz.zeroValue199
  t53 := Tryz.underlying251
  a53 := Tryz.isAgg251
  z53 := Tryz.sizeOf251
  v53 := Tryz.zeroValue251
  t55 := Tryz.underlying253
  a55 := Tryz.isAgg253
  z55 := Tryz.sizeOf253
  v55 := Tryz.zeroValue253
  t66 := Tryz.underlying286
  a66 := Tryz.isAgg286
  z66 := Tryz.sizeOf286
  v66 := Tryz.zeroValue286
  t70 := Tryz.underlying227
  a70 := Tryz.isAgg227
  z70 := Tryz.sizeOf227
  v70 := Tryz.zeroValue227
  t76 := Tryz.underlying308
  a76 := Tryz.isAgg308
  z76 := Tryz.sizeOf308
  v76 := Tryz.zeroValue308
  t77 := Tryz.underlying63
  a77 := Tryz.isAgg63
  z77 := Tryz.sizeOf63
  v77 := Tryz.zeroValue63 }
open Go.RowKit Go.Lib Go.Sort in
theorem Tryz.sortQ_none {α : Type} [Inhabited α] (p : Option Addr) (cap : Nat) (fv : Value) (w : World) :
    Calls Tryz.prog 57 #[.slice p 0 cap, fv] w fun e w' => e = .returned (.tuple #[]) ∧ w' = w := AnyF.slices_SortFunc_none Tryz.laysSlF06_f57 p cap fv w
open Go.RowKit Go.Lib Go.Sort in
theorem Tryz.sortQ_total {α : Type} [Inhabited α] (k : Nat) (aE : ∀ w, (isAgg (Tryz.laysSlF06_f57_ren.t 24)).run Tryz.prog w = .ok true w) (zE : ∀ w, (Go.sizeOf (Tryz.laysSlF06_f57_ren.t 24)).run Tryz.prog w = .ok k w) (enc : α → List Value) (hk : ∀ x, (enc x).length = k) (h1 : ∀ x, ∀ v ∈ enc x, v.oneCell' = true) (cf : α → α → Int) (hO : SWO (ltOf cf)) (g : Nat) (cb : Array Value) (blk off cap : Nat) (d : Array α) (w : World) (eg : ∀ args w, (callFunc g args).run Tryz.prog w = .ok (.enter g args) w) (hcmp : CmpLays Tryz.prog g cb enc k cf blk off d.size w) (hH : HoldsK enc k w blk off d) (hblk : blk < w.heap.size) (hsz : d.size < 4611686018427387904) (hT : ∀ x y, (ltOf cf) x y = false → (ltOf cf) y x = false → x = y) :
    Calls Tryz.prog 57 #[.slice (some ⟨blk, off, none⟩) d.size cap, .func (.func g) #[] cb] w fun e w' =>
      e = .returned (.tuple #[]) ∧ ∃ n os, w' = sortWorldK enc k w blk off n (d.toList.mergeSort fun x y => !(ltOf cf) y x).toArray os := AnyQ.slices_SortFunc_total Tryz.laysSlF06_f57 k aE zE enc hk h1 cf hO g cb blk off cap d w eg hcmp hH hblk hsz hT
end Go.Proofs
