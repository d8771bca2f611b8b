/- Chapter 8 and what it rests on: definitions and walks, part 35. -/
import Derived.Test.YtbinoelbjlgjkaaGreatDoorC33
import Derived.Test.YtbinoelbjlgjkaaGreatDoorC15
import Derived.Test.YtbinoelbjlgjkaaGreatDoorC25
import Derived.Test.YtbinoelbjlgjkaaGreatDoorC30
import Derived.Test.YtbinoelbjlgjkaaGreatDoorC29
namespace Go.Proofs.YtbinoelbjlgjkaaGreatDoor
open Go Go.RowKit
def inR (m z : Int) : Prop := 0 ≤ z ∧ z ≤ m
theorem inB_yes {m z : Int} (h : inR m z) : inB m z = true := by unfold inB; simp [h.1, h.2]
theorem inB_no {m z : Int} (h : ¬ inR m z) : inB m z = false := by
  unfold inB inR at *
  by_cases h0 : 0 ≤ z
  · have : ¬ z ≤ m := fun h1 => h ⟨h0, h1⟩
    simp [this]
  · simp [h0]
/-- What the loops of the reference have seen. -/
def Rng (g : Grad) : Prop := (inR 1000 g.t0 ∧ inR 5000 g.p0) ∧ (inR 1000 g.t1 ∧ inR 5000 g.p1) ∧ (inR 1000 g.t2 ∧ inR 5000 g.p2) ∧ inR 240 g.m0 ∧ inR 240 g.m1 ∧ inR 240 g.m2 ∧ inR 240 g.m3
def Ord (g : Grad) : Prop := (g.t0 ≤ g.t1 ∧ g.p1 ≤ g.p0) ∧ (g.t1 ≤ g.t2 ∧ g.p2 ≤ g.p1) ∧ g.m1 ≤ g.m0 ∧ g.m2 ≤ g.m1 ∧ g.m3 ≤ g.m2
theorem inB_iff {m z : Int} : inB m z = true ↔ inR m z := by unfold inB inR; simp
theorem range_iff {g : Grad} : g.range = true ↔ Rng g := by
  unfold Grad.range Rng allB
  simp only [List.all_cons, List.all_nil, Bool.and_true, Bool.and_eq_true, inB_iff]
  constructor
  · rintro ⟨⟨a, b, c⟩, ⟨d, e, f⟩, h⟩; exact ⟨⟨a, d⟩, ⟨b, e⟩, ⟨c, f⟩, h⟩
  · rintro ⟨⟨a, d⟩, ⟨b, e⟩, ⟨c, f⟩, h⟩; exact ⟨⟨a, b, c⟩, ⟨d, e, f⟩, h⟩
theorem up3_iff {a b c : Int} : upB [a, b, c] = true ↔ a ≤ b ∧ b ≤ c := by
  unfold upB
  rw [decide_eq_true_eq]
  constructor
  · intro h; exact ⟨h 0 (by simp), h 1 (by simp)⟩
  · rintro ⟨h1, h2⟩ j hj
    match j, hj with
    | 0, _ => exact h1
    | 1, _ => exact h2
theorem down3_iff {a b c : Int} : downB [a, b, c] = true ↔ b ≤ a ∧ c ≤ b := by
  unfold downB
  rw [decide_eq_true_eq]
  constructor
  · intro h; exact ⟨h 0 (by simp), h 1 (by simp)⟩
  · rintro ⟨h1, h2⟩ j hj
    match j, hj with
    | 0, _ => exact h1
    | 1, _ => exact h2
theorem down4_iff {a b c d : Int} : downB [a, b, c, d] = true ↔ b ≤ a ∧ c ≤ b ∧ d ≤ c := by
  unfold downB
  rw [decide_eq_true_eq]
  constructor
  · intro h; exact ⟨h 0 (by simp), h 1 (by simp), h 2 (by simp)⟩
  · rintro ⟨h1, h2, h3⟩ j hj
    match j, hj with
    | 0, _ => exact h1
    | 1, _ => exact h2
    | 2, _ => exact h3
theorem order_iff {g : Grad} : g.order = true ↔ Ord g := by
  unfold Grad.order Ord
  simp only [Bool.and_eq_true, up3_iff, down3_iff, down4_iff]
  constructor
  · rintro ⟨⟨a, b⟩, ⟨c, d⟩, e⟩; exact ⟨⟨a, c⟩, ⟨b, d⟩, e⟩
  · rintro ⟨⟨a, c⟩, ⟨b, d⟩, e⟩; exact ⟨⟨a, b⟩, ⟨c, d⟩, e⟩
theorem Cal.gradErr_2 {g : Grad} (h : ¬ Rng g) : Cal.gradErr g = 2 := by unfold Cal.gradErr; rw [if_neg (fun x => h (range_iff.1 x))]
theorem Cal.gradErr_9 {g : Grad} (h : Rng g) (h2 : ¬ Ord g) : Cal.gradErr g = 9 := by unfold Cal.gradErr; rw [if_pos (range_iff.2 h), if_neg (fun x => h2 (order_iff.1 x))]
theorem Cal.gradErr_0 {g : Grad} (h : Rng g) (h2 : Ord g) : Cal.gradErr g = 0 := by unfold Cal.gradErr; rw [if_pos (range_iff.2 h), if_pos (order_iff.2 h2)]
set_option maxRecDepth 100000 in
set_option maxHeartbeats 4000000 in
theorem CheckGradingR_any (g : Grad) (w : World) : Calls Tryz.prog 27 #[.agg #[.int .i64 g.t0, .int .i64 g.t1, .int .i64 g.t2, .int .i64 g.p0, .int .i64 g.p1, .int .i64 g.p2, .int .i64 g.m0, .int .i64 g.m1, .int .i64 g.m2, .int .i64 g.m3]] w fun e w' => e = .returned (.int .i64 (Cal.gradErr g)) ∧ Below w.heap.size w w' := by
  have hb : Hid (Below w.heap.size w ((w.alloc (.cells #[.int .i64 g.t0, .int .i64 g.t1, .int .i64 g.t2, .int .i64 g.p0, .int .i64 g.p1, .int .i64 g.p2, .int .i64 g.m0, .int .i64 g.m1, .int .i64 g.m2, .int .i64 g.m3] 51)))) := below_alloc _ _
  go_enter Tryz.func27, Tryz.ntmps27
  go_wp2_with fail
  go_loop [3] (fun i => (i = .int .i64 0) ∨ (i = .int .i64 1 ∧ Hid (inR 1000 g.t0 ∧ inR 5000 g.p0)) ∨ (i = .int .i64 2 ∧ Hid (inR 1000 g.t0 ∧ inR 5000 g.p0) ∧ Hid (inR 1000 g.t1 ∧ inR 5000 g.p1)) ∨ (i = .int .i64 3 ∧ Hid (inR 1000 g.t0 ∧ inR 5000 g.p0) ∧ Hid (inR 1000 g.t1 ∧ inR 5000 g.p1) ∧ Hid (inR 1000 g.t2 ∧ inR 5000 g.p2))) (fun i => (3 - intOf i).toNat)
  case atStart => exact .inl rfl
  case round =>
    rcases hrel with rfl | ⟨rfl, q0⟩ | ⟨rfl, q0, q1⟩ | ⟨rfl, q0, q1, q2⟩
    · by_cases ht : inR 1000 g.t0
      · obtain ⟨ta, tb⟩ := ht
        by_cases hp : inR 5000 g.p0
        · have hz : Hid (inR 1000 g.t0 ∧ inR 5000 g.p0) := ⟨⟨ta, tb⟩, hp⟩
          obtain ⟨pa, pb⟩ := hp
          go_wp2_with (((first | (go_at_call 123) | (go_at_call 92) | (go_at_call 126) | (go_at_call 29) | (go_at_call 222) | (fail) | (go_at_call 127)); first | refine rin ?_ | refine rout ?_ | refine rany ?_))
          go_round
          case rel => exact .inr (.inl ⟨rfl, hz⟩)
          case measure => simp [intOf]
        · have hfin : Hid (Cal.gradErr g = 2) := Cal.gradErr_2 (fun h => hp (h.1).2)
          have hp' : g.p0 < 0 ∨ 5000 < g.p0 := by unfold inR at hp; omega
          clear hp
          go_wp2_with (((first | (go_at_call 123) | (go_at_call 92) | (go_at_call 126) | (go_at_call 29) | (go_at_call 222) | (fail) | (go_at_call 127)); first | refine rin ?_ | refine rout ?_ | refine rany ?_))
          go_ret
          exact ⟨ret_int hfin.out.symm, hb.out⟩
      · have hfin : Hid (Cal.gradErr g = 2) := Cal.gradErr_2 (fun h => ht (h.1).1)
        have ht' : g.t0 < 0 ∨ 1000 < g.t0 := by unfold inR at ht; omega
        clear ht
        go_wp2_with (((first | (go_at_call 123) | (go_at_call 92) | (go_at_call 126) | (go_at_call 29) | (go_at_call 222) | (fail) | (go_at_call 127)); first | refine rin ?_ | refine rout ?_ | refine rany ?_))
        go_ret
        exact ⟨ret_int hfin.out.symm, hb.out⟩
    · by_cases ht : inR 1000 g.t1
      · obtain ⟨ta, tb⟩ := ht
        by_cases hp : inR 5000 g.p1
        · have hz : Hid (inR 1000 g.t1 ∧ inR 5000 g.p1) := ⟨⟨ta, tb⟩, hp⟩
          obtain ⟨pa, pb⟩ := hp
          go_wp2_with (((first | (go_at_call 123) | (go_at_call 92) | (go_at_call 126) | (go_at_call 29) | (go_at_call 222) | (fail) | (go_at_call 127)); first | refine rin ?_ | refine rout ?_ | refine rany ?_))
          go_round
          case rel => exact .inr (.inr (.inl ⟨rfl, q0, hz⟩))
          case measure => simp [intOf]
        · have hfin : Hid (Cal.gradErr g = 2) := Cal.gradErr_2 (fun h => hp (h.2.1).2)
          have hp' : g.p1 < 0 ∨ 5000 < g.p1 := by unfold inR at hp; omega
          clear hp
          go_wp2_with (((first | (go_at_call 123) | (go_at_call 92) | (go_at_call 126) | (go_at_call 29) | (go_at_call 222) | (fail) | (go_at_call 127)); first | refine rin ?_ | refine rout ?_ | refine rany ?_))
          go_ret
          exact ⟨ret_int hfin.out.symm, hb.out⟩
      · have hfin : Hid (Cal.gradErr g = 2) := Cal.gradErr_2 (fun h => ht (h.2.1).1)
        have ht' : g.t1 < 0 ∨ 1000 < g.t1 := by unfold inR at ht; omega
        clear ht
        go_wp2_with (((first | (go_at_call 123) | (go_at_call 92) | (go_at_call 126) | (go_at_call 29) | (go_at_call 222) | (fail) | (go_at_call 127)); first | refine rin ?_ | refine rout ?_ | refine rany ?_))
        go_ret
        exact ⟨ret_int hfin.out.symm, hb.out⟩
    · by_cases ht : inR 1000 g.t2
      · obtain ⟨ta, tb⟩ := ht
        by_cases hp : inR 5000 g.p2
        · have hz : Hid (inR 1000 g.t2 ∧ inR 5000 g.p2) := ⟨⟨ta, tb⟩, hp⟩
          obtain ⟨pa, pb⟩ := hp
          go_wp2_with (((first | (go_at_call 123) | (go_at_call 92) | (go_at_call 126) | (go_at_call 29) | (go_at_call 222) | (fail) | (go_at_call 127)); first | refine rin ?_ | refine rout ?_ | refine rany ?_))
          go_round
          case rel => exact .inr (.inr (.inr ⟨rfl, q0, q1, hz⟩))
          case measure => simp [intOf]
        · have hfin : Hid (Cal.gradErr g = 2) := Cal.gradErr_2 (fun h => hp (h.2.2.1).2)
          have hp' : g.p2 < 0 ∨ 5000 < g.p2 := by unfold inR at hp; omega
          clear hp
          go_wp2_with (((first | (go_at_call 123) | (go_at_call 92) | (go_at_call 126) | (go_at_call 29) | (go_at_call 222) | (fail) | (go_at_call 127)); first | refine rin ?_ | refine rout ?_ | refine rany ?_))
          go_ret
          exact ⟨ret_int hfin.out.symm, hb.out⟩
      · have hfin : Hid (Cal.gradErr g = 2) := Cal.gradErr_2 (fun h => ht (h.2.2.1).1)
        have ht' : g.t2 < 0 ∨ 1000 < g.t2 := by unfold inR at ht; omega
        clear ht
        go_wp2_with (((first | (go_at_call 123) | (go_at_call 92) | (go_at_call 126) | (go_at_call 29) | (go_at_call 222) | (fail) | (go_at_call 127)); first | refine rin ?_ | refine rout ?_ | refine rany ?_))
        go_ret
        exact ⟨ret_int hfin.out.symm, hb.out⟩
    · go_wp2_with fail
      go_loop [4] (fun i => (i = .int .i64 0) ∨ (i = .int .i64 1 ∧ Hid (inR 240 g.m0)) ∨ (i = .int .i64 2 ∧ Hid (inR 240 g.m0) ∧ Hid (inR 240 g.m1)) ∨ (i = .int .i64 3 ∧ Hid (inR 240 g.m0) ∧ Hid (inR 240 g.m1) ∧ Hid (inR 240 g.m2)) ∨ (i = .int .i64 4 ∧ Hid (inR 240 g.m0) ∧ Hid (inR 240 g.m1) ∧ Hid (inR 240 g.m2) ∧ Hid (inR 240 g.m3))) (fun i => (4 - intOf i).toNat)
      case atStart => exact .inl rfl
      case round =>
        rcases hrel with rfl | ⟨rfl, m0⟩ | ⟨rfl, m0, m1⟩ | ⟨rfl, m0, m1, m2⟩ | ⟨rfl, m0, m1, m2, m3⟩
        · by_cases ht : inR 240 g.m0
          · have hz := Lib.hid ht
            obtain ⟨ta, tb⟩ := ht
            go_wp2_with (((first | (go_at_call 123) | (go_at_call 92) | (go_at_call 126) | (go_at_call 29) | (go_at_call 222) | (fail) | (go_at_call 127)); first | refine rin ?_ | refine rout ?_ | refine rany ?_))
            go_round
            case rel => exact .inr (.inl ⟨rfl, hz⟩)
            case measure => simp [intOf]
          · have hfin : Hid (Cal.gradErr g = 2) := Cal.gradErr_2 (fun h => ht (h.2.2.2.1))
            have ht' : g.m0 < 0 ∨ 240 < g.m0 := by unfold inR at ht; omega
            clear ht
            go_wp2_with (((first | (go_at_call 123) | (go_at_call 92) | (go_at_call 126) | (go_at_call 29) | (go_at_call 222) | (fail) | (go_at_call 127)); first | refine rin ?_ | refine rout ?_ | refine rany ?_))
            go_ret
            exact ⟨ret_int hfin.out.symm, hb.out⟩
        · by_cases ht : inR 240 g.m1
          · have hz := Lib.hid ht
            obtain ⟨ta, tb⟩ := ht
            go_wp2_with (((first | (go_at_call 123) | (go_at_call 92) | (go_at_call 126) | (go_at_call 29) | (go_at_call 222) | (fail) | (go_at_call 127)); first | refine rin ?_ | refine rout ?_ | refine rany ?_))
            go_round
            case rel => exact .inr (.inr (.inl ⟨rfl, m0, hz⟩))
            case measure => simp [intOf]
          · have hfin : Hid (Cal.gradErr g = 2) := Cal.gradErr_2 (fun h => ht (h.2.2.2.2.1))
            have ht' : g.m1 < 0 ∨ 240 < g.m1 := by unfold inR at ht; omega
            clear ht
            go_wp2_with (((first | (go_at_call 123) | (go_at_call 92) | (go_at_call 126) | (go_at_call 29) | (go_at_call 222) | (fail) | (go_at_call 127)); first | refine rin ?_ | refine rout ?_ | refine rany ?_))
            go_ret
            exact ⟨ret_int hfin.out.symm, hb.out⟩
        · by_cases ht : inR 240 g.m2
          · have hz := Lib.hid ht
            obtain ⟨ta, tb⟩ := ht
            go_wp2_with (((first | (go_at_call 123) | (go_at_call 92) | (go_at_call 126) | (go_at_call 29) | (go_at_call 222) | (fail) | (go_at_call 127)); first | refine rin ?_ | refine rout ?_ | refine rany ?_))
            go_round
            case rel => exact .inr (.inr (.inr (.inl ⟨rfl, m0, m1, hz⟩)))
            case measure => simp [intOf]
          · have hfin : Hid (Cal.gradErr g = 2) := Cal.gradErr_2 (fun h => ht (h.2.2.2.2.2.1))
            have ht' : g.m2 < 0 ∨ 240 < g.m2 := by unfold inR at ht; omega
            clear ht
            go_wp2_with (((first | (go_at_call 123) | (go_at_call 92) | (go_at_call 126) | (go_at_call 29) | (go_at_call 222) | (fail) | (go_at_call 127)); first | refine rin ?_ | refine rout ?_ | refine rany ?_))
            go_ret
            exact ⟨ret_int hfin.out.symm, hb.out⟩
        · by_cases ht : inR 240 g.m3
          · have hz := Lib.hid ht
            obtain ⟨ta, tb⟩ := ht
            go_wp2_with (((first | (go_at_call 123) | (go_at_call 92) | (go_at_call 126) | (go_at_call 29) | (go_at_call 222) | (fail) | (go_at_call 127)); first | refine rin ?_ | refine rout ?_ | refine rany ?_))
            go_round
            case rel => exact .inr (.inr (.inr (.inr ⟨rfl, m0, m1, m2, hz⟩)))
            case measure => simp [intOf]
          · have hfin : Hid (Cal.gradErr g = 2) := Cal.gradErr_2 (fun h => ht (h.2.2.2.2.2.2))
            have ht' : g.m3 < 0 ∨ 240 < g.m3 := by unfold inR at ht; omega
            clear ht
            go_wp2_with (((first | (go_at_call 123) | (go_at_call 92) | (go_at_call 126) | (go_at_call 29) | (go_at_call 222) | (fail) | (go_at_call 127)); first | refine rin ?_ | refine rout ?_ | refine rany ?_))
            go_ret
            exact ⟨ret_int hfin.out.symm, hb.out⟩
        · have hR : Hid (Rng g) := ⟨q0.out, q1.out, q2.out, m0.out, m1.out, m2.out, m3.out⟩
          clear q0 q1 q2 m0 m1 m2 m3
          go_wp2_with fail
          go_loopw [5] (fun i wr => ∃ k : Nat, ((i = .int .i64 1) ∨ (i = .int .i64 2 ∧ Hid (g.t0 ≤ g.t1 ∧ g.p1 ≤ g.p0)) ∨ (i = .int .i64 3 ∧ Hid (g.t0 ≤ g.t1 ∧ g.p1 ≤ g.p0) ∧ Hid (g.t1 ≤ g.t2 ∧ g.p2 ≤ g.p1))) ∧ wr = World.drewN ((w.alloc (.cells #[.int .i64 g.t0, .int .i64 g.t1, .int .i64 g.t2, .int .i64 g.p0, .int .i64 g.p1, .int .i64 g.p2, .int .i64 g.m0, .int .i64 g.m1, .int .i64 g.m2, .int .i64 g.m3] 51))) k) (fun i _ => (3 - intOf i).toNat)
          case atStart => exact ⟨0, .inl rfl, rfl⟩
          case round =>
            obtain ⟨k, hi, rfl⟩ := hrel
            rcases hi with rfl | ⟨rfl, o1⟩ | ⟨rfl, o1, o2⟩
            · by_cases ht : g.t1 < g.t0
              · have hfin : Hid (Cal.gradErr g = 9) := Cal.gradErr_9 hR.out (fun h => absurd (h.1).1 (by omega))
                have hd : decide (g.t1 < g.t0) = true := by simpa using ht
                clear ht
                go_wp2_with fail
                go_quiet (fail)
                go_wp2_with fail
                go_ret
                exact ⟨ret_int hfin.out.symm, by first | exact below_drewN hb.out _ | exact below_drewN (below_drewN hb.out _) _⟩
              · have hd : decide (g.t1 < g.t0) = false := by simpa using ht
                by_cases hp : g.p0 < g.p1
                · have hfin : Hid (Cal.gradErr g = 9) := Cal.gradErr_9 hR.out (fun h => absurd (h.1).2 (by omega))
                  have hd2 : decide (g.p0 < g.p1) = true := by simpa using hp
                  clear ht hp
                  go_wp2_with fail
                  go_quiet (fail)
                  go_wp2_with fail
                  go_ret
                  exact ⟨ret_int hfin.out.symm, by first | exact below_drewN hb.out _ | exact below_drewN (below_drewN hb.out _) _⟩
                · have hz : Hid (g.t0 ≤ g.t1 ∧ g.p1 ≤ g.p0) := ⟨by omega, by omega⟩
                  have hd2 : decide (g.p0 < g.p1) = false := by simpa using hp
                  clear ht hp
                  go_wp2_with fail
                  go_quiet (fail)
                  go_wp2_with fail
                  go_roundw
                  case rel => exact ⟨_, .inr (.inl ⟨rfl, hz⟩), rfl⟩
                  case measure => simp [intOf]
            · by_cases ht : g.t2 < g.t1
              · have hfin : Hid (Cal.gradErr g = 9) := Cal.gradErr_9 hR.out (fun h => absurd (h.2.1).1 (by omega))
                have hd : decide (g.t2 < g.t1) = true := by simpa using ht
                clear ht
                go_wp2_with fail
                go_quiet (fail)
                go_wp2_with fail
                go_ret
                exact ⟨ret_int hfin.out.symm, by first | exact below_drewN hb.out _ | exact below_drewN (below_drewN hb.out _) _⟩
              · have hd : decide (g.t2 < g.t1) = false := by simpa using ht
                by_cases hp : g.p1 < g.p2
                · have hfin : Hid (Cal.gradErr g = 9) := Cal.gradErr_9 hR.out (fun h => absurd (h.2.1).2 (by omega))
                  have hd2 : decide (g.p1 < g.p2) = true := by simpa using hp
                  clear ht hp
                  go_wp2_with fail
                  go_quiet (fail)
                  go_wp2_with fail
                  go_ret
                  exact ⟨ret_int hfin.out.symm, by first | exact below_drewN hb.out _ | exact below_drewN (below_drewN hb.out _) _⟩
                · have hz : Hid (g.t1 ≤ g.t2 ∧ g.p2 ≤ g.p1) := ⟨by omega, by omega⟩
                  have hd2 : decide (g.p1 < g.p2) = false := by simpa using hp
                  clear ht hp
                  go_wp2_with fail
                  go_quiet (fail)
                  go_wp2_with fail
                  go_roundw
                  case rel => exact ⟨_, .inr (.inr ⟨rfl, o1, hz⟩), rfl⟩
                  case measure => simp [intOf]
            · go_wp2_with fail
              go_loopw [6] (fun i wr => ∃ k : Nat, ((i = .int .i64 1) ∨ (i = .int .i64 2 ∧ Hid (g.m1 ≤ g.m0)) ∨ (i = .int .i64 3 ∧ Hid (g.m1 ≤ g.m0) ∧ Hid (g.m2 ≤ g.m1)) ∨ (i = .int .i64 4 ∧ Hid (g.m1 ≤ g.m0) ∧ Hid (g.m2 ≤ g.m1) ∧ Hid (g.m3 ≤ g.m2))) ∧ wr = World.drewN ((w.alloc (.cells #[.int .i64 g.t0, .int .i64 g.t1, .int .i64 g.t2, .int .i64 g.p0, .int .i64 g.p1, .int .i64 g.p2, .int .i64 g.m0, .int .i64 g.m1, .int .i64 g.m2, .int .i64 g.m3] 51))) k) (fun i _ => (4 - intOf i).toNat)
              case atStart => exact ⟨_, .inl rfl, rfl⟩
              case round =>
                obtain ⟨k, hi, rfl⟩ := hrel
                rcases hi with rfl | ⟨rfl, x1⟩ | ⟨rfl, x1, x2⟩ | ⟨rfl, x1, x2, x3⟩
                · by_cases hp : g.m0 < g.m1
                  · have hfin : Hid (Cal.gradErr g = 9) := Cal.gradErr_9 hR.out (fun h => absurd (h.2.2.1) (by omega))
                    have hd2 : decide (g.m0 < g.m1) = true := by simpa using hp
                    clear hp
                    go_wp2_with fail
                    go_quiet (fail)
                    go_wp2_with fail
                    go_ret
                    exact ⟨ret_int hfin.out.symm, by first | exact below_drewN hb.out _ | exact below_drewN (below_drewN hb.out _) _⟩
                  · have hz : Hid (g.m1 ≤ g.m0) := by show _ ≤ _; omega
                    have hd2 : decide (g.m0 < g.m1) = false := by simpa using hp
                    clear hp
                    go_wp2_with fail
                    go_quiet (fail)
                    go_wp2_with fail
                    go_roundw
                    case rel => exact ⟨_, .inr (.inl ⟨rfl, hz⟩), rfl⟩
                    case measure => simp [intOf]
                · by_cases hp : g.m1 < g.m2
                  · have hfin : Hid (Cal.gradErr g = 9) := Cal.gradErr_9 hR.out (fun h => absurd (h.2.2.2.1) (by omega))
                    have hd2 : decide (g.m1 < g.m2) = true := by simpa using hp
                    clear hp
                    go_wp2_with fail
                    go_quiet (fail)
                    go_wp2_with fail
                    go_ret
                    exact ⟨ret_int hfin.out.symm, by first | exact below_drewN hb.out _ | exact below_drewN (below_drewN hb.out _) _⟩
                  · have hz : Hid (g.m2 ≤ g.m1) := by show _ ≤ _; omega
                    have hd2 : decide (g.m1 < g.m2) = false := by simpa using hp
                    clear hp
                    go_wp2_with fail
                    go_quiet (fail)
                    go_wp2_with fail
                    go_roundw
                    case rel => exact ⟨_, .inr (.inr (.inl ⟨rfl, x1, hz⟩)), rfl⟩
                    case measure => simp [intOf]
                · by_cases hp : g.m2 < g.m3
                  · have hfin : Hid (Cal.gradErr g = 9) := Cal.gradErr_9 hR.out (fun h => absurd (h.2.2.2.2) (by omega))
                    have hd2 : decide (g.m2 < g.m3) = true := by simpa using hp
                    clear hp
                    go_wp2_with fail
                    go_quiet (fail)
                    go_wp2_with fail
                    go_ret
                    exact ⟨ret_int hfin.out.symm, by first | exact below_drewN hb.out _ | exact below_drewN (below_drewN hb.out _) _⟩
                  · have hz : Hid (g.m3 ≤ g.m2) := by show _ ≤ _; omega
                    have hd2 : decide (g.m2 < g.m3) = false := by simpa using hp
                    clear hp
                    go_wp2_with fail
                    go_quiet (fail)
                    go_wp2_with fail
                    go_roundw
                    case rel => exact ⟨_, .inr (.inr (.inr ⟨rfl, x1, x2, hz⟩)), rfl⟩
                    case measure => simp [intOf]
                · have hfin := Lib.hid (Cal.gradErr_0 hR.out ⟨o1.out, o2.out, x1.out, x2.out, x3.out⟩)
                  go_wp2_with fail
                  go_ret
                  exact ⟨ret_int hfin.out.symm, below_drewN hb.out _⟩
end Go.Proofs.YtbinoelbjlgjkaaGreatDoor
namespace Go.Proofs.YtbinoelbjlgjkaaGreatDoor
open Go Go.RowKit Go.ChangeShapes Go.WideShapes Go.Deep
section
variable {H : Type} {enc : TypeId × Value → H} {w : World} {spare : Nat → Bool} {held : Bool} {r : Reach} {b0 : Nat} {v : Value} {d : DataW H} {ps : List MemPlace}
set_option maxRecDepth 100000 in
theorem visit_of_open (hval : Value.okWide Tryz.prog w r b0 156 v) (h : DataW.Trod enc Tryz.prog w 0 spare held 156 v d ps) : ∃ z : Vis, v = .agg #[.int .i64 z.day, .int .i64 z.kind, .int .i64 z.tilt, .int .i64 z.push] := by
  have hu := Tryz.underlying156
  unfold Value.okWide at hval
  rw [hu] at hval
  obtain ⟨cs, rfl, hcs, _⟩ := hval
  obtain ⟨fuel, hf⟩ := h
  obtain ⟨m, xs, hlen, hxl, hi⟩ := trod_cells hu (by kernel_rfl) hf
  have h0 := hi 0 _ rfl
  have h1 := hi 1 _ rfl
  have h2 := hi 2 _ rfl
  have h3 := hi 3 _ rfl
  rw [show Tryz.prog.cellsOf 156 = 4 by kernel_rfl] at hcs
  obtain ⟨l⟩ := cs
  match l, hcs with
  | [a, b, c, e], _ =>
    match xs, hxl with
    | [y0, y1, y2, y3], _ =>
      simp [Value.cells] at h0 h1 h2 h3
      obtain ⟨s0, e0, _, _⟩ := DataW.trod_int Tryz.underlying3 h0
      obtain ⟨s1, e1, _, _⟩ := DataW.trod_int Tryz.underlying3 h1
      obtain ⟨s2, e2, _, _⟩ := DataW.trod_int Tryz.underlying3 h2
      obtain ⟨s3, e3, _, _⟩ := DataW.trod_int Tryz.underlying3 h3
      cases e0; cases e1; cases e2; cases e3
      exact ⟨⟨s0, s1, s2, s3⟩, rfl⟩
set_option maxRecDepth 100000 in
theorem tri_of_trod {fuel : Nat} {x : DataW H × List MemPlace} {a b c : Value} (hf : DataW.trod enc Tryz.prog w 0 spare held fuel 48 [a, b, c] = some x) : ∃ i j k : Int, a = .int .i64 i ∧ b = .int .i64 j ∧ c = .int .i64 k := by
  have hu := Tryz.underlying48
  obtain ⟨xs, m, _, _, hlen, hxl, hi⟩ := DataW.trod_array hu hf
  have h0 := hi 0 (by decide)
  have h1 := hi 1 (by decide)
  have h2 := hi 2 (by decide)
  rw [show Tryz.prog.cellsOf 3 = 1 by kernel_rfl] at h0 h1 h2
  match xs, hxl with
  | [y0, y1, y2], _ =>
    simp at h0 h1 h2
    obtain ⟨s0, e0, _, _⟩ := DataW.trod_int Tryz.underlying3 h0
    obtain ⟨s1, e1, _, _⟩ := DataW.trod_int Tryz.underlying3 h1
    obtain ⟨s2, e2, _, _⟩ := DataW.trod_int Tryz.underlying3 h2
    cases e0; cases e1; cases e2
    exact ⟨s0, s1, s2, rfl, rfl, rfl⟩
set_option maxRecDepth 100000 in
theorem quad_of_trod {fuel : Nat} {x : DataW H × List MemPlace} {a b c e : Value} (hf : DataW.trod enc Tryz.prog w 0 spare held fuel 49 [a, b, c, e] = some x) : ∃ i j k l : Int, a = .int .i64 i ∧ b = .int .i64 j ∧ c = .int .i64 k ∧ e = .int .i64 l := by
  have hu := Tryz.underlying49
  obtain ⟨xs, m, _, _, hlen, hxl, hi⟩ := DataW.trod_array hu hf
  have h0 := hi 0 (by decide)
  have h1 := hi 1 (by decide)
  have h2 := hi 2 (by decide)
  have h3 := hi 3 (by decide)
  rw [show Tryz.prog.cellsOf 3 = 1 by kernel_rfl] at h0 h1 h2 h3
  match xs, hxl with
  | [y0, y1, y2, y3], _ =>
    simp at h0 h1 h2 h3
    obtain ⟨s0, e0, _, _⟩ := DataW.trod_int Tryz.underlying3 h0
    obtain ⟨s1, e1, _, _⟩ := DataW.trod_int Tryz.underlying3 h1
    obtain ⟨s2, e2, _, _⟩ := DataW.trod_int Tryz.underlying3 h2
    obtain ⟨s3, e3, _, _⟩ := DataW.trod_int Tryz.underlying3 h3
    cases e0; cases e1; cases e2; cases e3
    exact ⟨s0, s1, s2, s3, rfl, rfl, rfl, rfl⟩
set_option maxRecDepth 100000 in
theorem grad_of_open (hval : Value.okWide Tryz.prog w r b0 51 v) (h : DataW.Trod enc Tryz.prog w 0 spare held 51 v d ps) : ∃ g : Grad, v = .agg #[.int .i64 g.t0, .int .i64 g.t1, .int .i64 g.t2, .int .i64 g.p0, .int .i64 g.p1, .int .i64 g.p2, .int .i64 g.m0, .int .i64 g.m1, .int .i64 g.m2, .int .i64 g.m3] := by
  have hu := Tryz.underlying51
  unfold Value.okWide at hval
  rw [hu] at hval
  obtain ⟨cs, rfl, hcs, _⟩ := hval
  obtain ⟨fuel, hf⟩ := h
  obtain ⟨xs, n, _, _, _, hxl, hi⟩ := DataW.trod_struct hu hf
  have h0 : DataW.trod enc Tryz.prog w 0 spare held n 48 (((Value.agg cs).cells.toList.drop 0).take (Tryz.prog.cellsOf 48)) = xs[0]? := hi 0 _ rfl
  have h1 : DataW.trod enc Tryz.prog w 0 spare held n 48 (((Value.agg cs).cells.toList.drop 3).take (Tryz.prog.cellsOf 48)) = xs[1]? := hi 1 _ rfl
  have h2 : DataW.trod enc Tryz.prog w 0 spare held n 49 (((Value.agg cs).cells.toList.drop 6).take (Tryz.prog.cellsOf 49)) = xs[2]? := hi 2 _ rfl
  rw [show Tryz.prog.cellsOf 51 = 10 by kernel_rfl] at hcs
  rw [show Tryz.prog.cellsOf 48 = 3 by kernel_rfl] at h0 h1
  rw [show Tryz.prog.cellsOf 49 = 4 by kernel_rfl] at h2
  obtain ⟨l⟩ := cs
  match l, hcs with
  | [a0, a1, a2, a3, a4, a5, a6, a7, a8, a9], _ =>
    match xs, hxl with
    | [y0, y1, y2], _ =>
      simp [Value.cells] at h0 h1 h2
      obtain ⟨i0, i1, i2, e0, e1, e2⟩ := tri_of_trod h0
      obtain ⟨i3, i4, i5, e3, e4, e5⟩ := tri_of_trod h1
      obtain ⟨i6, i7, i8, i9, e6, e7, e8, e9⟩ := quad_of_trod h2
      subst e0 e1 e2 e3 e4 e5 e6 e7 e8 e9
      exact ⟨⟨i0, i1, i2, i3, i4, i5, i6, i7, i8, i9⟩, rfl⟩
end
end Go.Proofs.YtbinoelbjlgjkaaGreatDoor
namespace Go.Proofs.YtbinoelbjlgjkaaGreatDoor
open Go Go.RowKit Go.ChangeShapes Go.WideShapes Go.Deep
section
variable {H : Type} {enc : TypeId × Value → H} {w : World} {spare : Nat → Bool} {held : Bool} {r : Reach} {b0 : Nat} {v : Value} {d : DataW H} {ps : List MemPlace}
set_option maxRecDepth 100000 in
theorem visits_of_trod {fuel : Nat} {x : DataW H × List MemPlace} (hf : DataW.trod enc Tryz.prog w 0 spare held fuel 54 [v] = some x) : ∃ (A : Option Addr) (l : List Vis) (c : Nat), v = .slice A l.length c ∧ Viss w A l := by
  obtain ⟨A, len, cap, hcs, hlen, hq⟩ := rows_of_open Tryz.underlying54 Tryz.underlying156 (by kernel_rfl) (by kernel_rfl) (by decide) hf
  have he : v = .slice A len cap := by simpa using hcs
  subst he
  have h1 : ∀ i, i < len → ∃ p : Vis, ∃ b o, A = some ⟨b, o, none⟩ ∧ b < w.heap.size ∧ ∀ j v, p.cells[j]? = some v → w.cell? ⟨b, o + (i * 4 + j), none⟩ = some v := fun i hi => by
    obtain ⟨b, o, n, hA, hb, hf⟩ := hq i hi
    obtain ⟨v0, y0, c0, t0⟩ := hf 0 _ rfl
    obtain ⟨v1, y1, c1, t1⟩ := hf 1 _ rfl
    obtain ⟨v2, y2, c2, t2⟩ := hf 2 _ rfl
    obtain ⟨v3, y3, c3, t3⟩ := hf 3 _ rfl
    obtain ⟨s0, e0, _, _⟩ := DataW.trod_int Tryz.underlying3 t0
    obtain ⟨s1, e1, _, _⟩ := DataW.trod_int Tryz.underlying3 t1
    obtain ⟨s2, e2, _, _⟩ := DataW.trod_int Tryz.underlying3 t2
    obtain ⟨s3, e3, _, _⟩ := DataW.trod_int Tryz.underlying3 t3
    cases e0; cases e1; cases e2; cases e3
    refine ⟨⟨s0, s1, s2, s3⟩, b, o, hA, hb, fun j v hv => ?_⟩
    match j, hv with
    | 0, hv => cases hv; exact c0
    | 1, hv => cases hv; exact c1
    | 2, hv => cases hv; exact c2
    | 3, hv => cases hv; exact c3
    | j + 4, hv => simp [Vis.cells] at hv
  obtain ⟨l, hl, hq'⟩ := list_of len h1
  subst hl
  refine ⟨A, l, cap, rfl, ⟨fun k r hr => ?_, by unfold maxLen at hlen; omega⟩⟩
  rw [List.getElem?_map] at hr
  cases hk : l[k]? with
  | none => rw [hk] at hr; cases hr
  | some p => rw [hk] at hr; cases hr; exact hq' k p hk
set_option maxRecDepth 100000 in
theorem mon_of_open (hval : Value.okWide Tryz.prog w r b0 56 v) (h : DataW.Trod enc Tryz.prog w 0 spare held 56 v d ps) :
    ∃ (V : Option Addr) (d : Nat) (m : Mon), v = .agg #[.string m.name, .string m.place, .slice V m.visits.length d] ∧ MB w V m := by
  have hu := Tryz.underlying56
  unfold Value.okWide at hval
  rw [hu] at hval
  obtain ⟨cs, rfl, hcs, _⟩ := hval
  obtain ⟨fuel, hf⟩ := h
  obtain ⟨m, xs, hlen, hxl, hi⟩ := trod_cells hu (by kernel_rfl) hf
  have h0 := hi 0 _ rfl
  have h1 := hi 1 _ rfl
  have h2 := hi 2 _ rfl
  rw [show Tryz.prog.cellsOf 56 = 3 by kernel_rfl] at hcs
  obtain ⟨l⟩ := cs
  match l, hcs with
  | [a, b, c], _ =>
    match xs, hxl with
    | [y0, y1, y2], _ =>
      simp [Value.cells] at h0 h1 h2
      obtain ⟨s0, e0, _, g0⟩ := DataW.trod_string Tryz.underlying9 h0
      obtain ⟨s1, e1, _, g1⟩ := DataW.trod_string Tryz.underlying9 h1
      obtain ⟨V, l, k, e2, ha⟩ := visits_of_trod h2
      cases e0; cases e1
      subst e2
      exact ⟨V, k, ⟨s0, s1, l⟩, rfl, ⟨ha, g0, g1⟩⟩
end
end Go.Proofs.YtbinoelbjlgjkaaGreatDoor
namespace Go.Proofs.YtbinoelbjlgjkaaGreatDoor
open Go Go.RowKit Go.ChangeShapes Go.WideShapes Go.Deep
section
variable {H : Type} {enc : TypeId × Value → H} {w : World} {spare : Nat → Bool} {held : Bool} {r : Reach} {b0 : Nat} {v : Value} {d : DataW H} {ps : List MemPlace}
set_option maxRecDepth 100000 in
theorem hols_of_trod {fuel : Nat} {x : DataW H × List MemPlace} (hf : DataW.trod enc Tryz.prog w 0 spare held fuel 69 [v] = some x) : ∃ (A : Option Addr) (l : List Hol) (c : Nat), v = .slice A l.length c ∧ Hols w A l := by
  obtain ⟨A, len, cap, hcs, hlen, hq⟩ := rows_of_open Tryz.underlying69 Tryz.underlying245 (by kernel_rfl) (by kernel_rfl) (by decide) hf
  have he : v = .slice A len cap := by simpa using hcs
  subst he
  have h1 : ∀ i, i < len → ∃ p : Hol, p.name.size ≤ maxLen ∧ ∃ b o, A = some ⟨b, o, none⟩ ∧ b < w.heap.size ∧ ∀ j v, p.cells[j]? = some v → w.cell? ⟨b, o + (i * 5 + j), none⟩ = some v := fun i hi => by
    obtain ⟨b, o, n, hA, hb, hf⟩ := hq i hi
    obtain ⟨v0, y0, c0, t0⟩ := hf 0 _ rfl
    obtain ⟨v1, y1, c1, t1⟩ := hf 1 _ rfl
    obtain ⟨v2, y2, c2, t2⟩ := hf 2 _ rfl
    obtain ⟨v3, y3, c3, t3⟩ := hf 3 _ rfl
    obtain ⟨v4, y4, c4, t4⟩ := hf 4 _ rfl
    obtain ⟨s0, e0, _, g0⟩ := DataW.trod_string Tryz.underlying9 t0
    obtain ⟨s1, e1, _, _⟩ := DataW.trod_int Tryz.underlying3 t1
    obtain ⟨s2, e2, _, _⟩ := DataW.trod_int Tryz.underlying3 t2
    obtain ⟨s3, e3, _, _⟩ := DataW.trod_int Tryz.underlying3 t3
    obtain ⟨s4, e4, _, _⟩ := DataW.trod_int Tryz.underlying3 t4
    cases e0; cases e1; cases e2; cases e3; cases e4
    refine ⟨⟨s0, s1, s2, s3, s4⟩, g0, b, o, hA, hb, fun j v hv => ?_⟩
    match j, hv with
    | 0, hv => cases hv; exact c0
    | 1, hv => cases hv; exact c1
    | 2, hv => cases hv; exact c2
    | 3, hv => cases hv; exact c3
    | 4, hv => cases hv; exact c4
    | j + 5, hv => simp [Hol.cells] at hv
  obtain ⟨l, hl, hq'⟩ := list_of len h1
  subst hl
  refine ⟨A, l, cap, rfl, ⟨fun k r hr => ?_, by unfold maxLen at hlen; omega, fun k p hp => (hq' k p hp).1⟩⟩
  rw [List.getElem?_map] at hr
  cases hk : l[k]? with
  | none => rw [hk] at hr; cases hr
  | some p => rw [hk] at hr; cases hr; exact (hq' k p hk).2
set_option maxRecDepth 100000 in
theorem acts_of_trod {fuel : Nat} {x : DataW H × List MemPlace} (hf : DataW.trod enc Tryz.prog w 0 spare held fuel 112 [v] = some x) : ∃ (A : Option Addr) (l : List NAct) (c : Nat), v = .slice A l.length c ∧ Acts w A l := by
  obtain ⟨A, len, cap, hcs, hlen, hq⟩ := rows_of_open Tryz.underlying112 Tryz.underlying159 (by kernel_rfl) (by kernel_rfl) (by decide) hf
  have he : v = .slice A len cap := by simpa using hcs
  subst he
  have h1 : ∀ i, i < len → ∃ p : NAct, ∃ b o, A = some ⟨b, o, none⟩ ∧ b < w.heap.size ∧ ∀ j v, p.cells[j]? = some v → w.cell? ⟨b, o + (i * 3 + j), none⟩ = some v := fun i hi => by
    obtain ⟨b, o, n, hA, hb, hf⟩ := hq i hi
    obtain ⟨v0, y0, c0, t0⟩ := hf 0 _ rfl
    obtain ⟨v1, y1, c1, t1⟩ := hf 1 _ rfl
    obtain ⟨v2, y2, c2, t2⟩ := hf 2 _ rfl
    obtain ⟨s0, e0, _, _⟩ := DataW.trod_int Tryz.underlying3 t0
    obtain ⟨s1, e1, _, _⟩ := DataW.trod_int Tryz.underlying3 t1
    obtain ⟨s2, e2, _, _⟩ := DataW.trod_int Tryz.underlying3 t2
    cases e0; cases e1; cases e2
    refine ⟨⟨s0, s1, s2⟩, b, o, hA, hb, fun j v hv => ?_⟩
    match j, hv with
    | 0, hv => cases hv; exact c0
    | 1, hv => cases hv; exact c1
    | 2, hv => cases hv; exact c2
    | j + 3, hv => simp [NAct.cells] at hv
  obtain ⟨l, hl, hq'⟩ := list_of len h1
  subst hl
  refine ⟨A, l, cap, rfl, ⟨fun k r hr => ?_, by unfold maxLen at hlen; omega⟩⟩
  rw [List.getElem?_map] at hr
  cases hk : l[k]? with
  | none => rw [hk] at hr; cases hr
  | some p => rw [hk] at hr; cases hr; exact hq' k p hk
set_option maxRecDepth 100000 in
theorem per_of_trod {fuel : Nat} {x : DataW H × List MemPlace} {a b c : Value} (hf : DataW.trod enc Tryz.prog w 0 spare held fuel 68 [a, b, c] = some x) : ∃ q : Per, a = .int .i64 q.m ∧ b = .int .i64 q.d ∧ c = .bool q.k := by
  have hu := Tryz.underlying68
  obtain ⟨m, xs, hlen, hxl, hi⟩ := trod_cells hu (by kernel_rfl) hf
  have h0 := hi 0 _ rfl
  have h1 := hi 1 _ rfl
  have h2 := hi 2 _ rfl
  match xs, hxl with
  | [y0, y1, y2], _ =>
    simp at h0 h1 h2
    obtain ⟨s0, e0, _, _⟩ := DataW.trod_int Tryz.underlying3 h0
    obtain ⟨s1, e1, _, _⟩ := DataW.trod_int Tryz.underlying3 h1
    obtain ⟨s2, e2, _⟩ := DataW.trod_bool Tryz.underlying4 h2
    cases e0; cases e1; cases e2
    exact ⟨⟨s0, s1, s2⟩, rfl, rfl, rfl⟩
set_option maxRecDepth 100000 in
theorem proc_of_open (hval : Value.okWide Tryz.prog w r b0 71 v) (h : DataW.Trod enc Tryz.prog w 0 spare held 71 v d ps) :
    ∃ (A : Option Addr) (c : Nat) (p : Proc), v = .agg #[.int .i64 p.runs.m, .int .i64 p.runs.d, .bool p.runs.k, .int .i64 p.obj.m, .int .i64 p.obj.d, .bool p.obj.k, .int .i64 p.wait.m, .int .i64 p.wait.d, .bool p.wait.k, .int .i64 p.exts, .int .i64 p.longest, .slice A p.hols.length c] ∧ Hols w A p.hols := by
  have hu := Tryz.underlying71
  unfold Value.okWide at hval
  rw [hu] at hval
  obtain ⟨cs, rfl, hcs, _⟩ := hval
  obtain ⟨fuel, hf⟩ := h
  obtain ⟨xs, n, _, _, _, hxl, hi⟩ := DataW.trod_struct hu hf
  have h0 : DataW.trod enc Tryz.prog w 0 spare held n 68 (((Value.agg cs).cells.toList.drop 0).take (Tryz.prog.cellsOf 68)) = xs[0]? := hi 0 _ rfl
  have h1 : DataW.trod enc Tryz.prog w 0 spare held n 68 (((Value.agg cs).cells.toList.drop 3).take (Tryz.prog.cellsOf 68)) = xs[1]? := hi 1 _ rfl
  have h2 : DataW.trod enc Tryz.prog w 0 spare held n 68 (((Value.agg cs).cells.toList.drop 6).take (Tryz.prog.cellsOf 68)) = xs[2]? := hi 2 _ rfl
  have h3 : DataW.trod enc Tryz.prog w 0 spare held n 3 (((Value.agg cs).cells.toList.drop 9).take (Tryz.prog.cellsOf 3)) = xs[3]? := hi 3 _ rfl
  have h4 : DataW.trod enc Tryz.prog w 0 spare held n 3 (((Value.agg cs).cells.toList.drop 10).take (Tryz.prog.cellsOf 3)) = xs[4]? := hi 4 _ rfl
  have h5 : DataW.trod enc Tryz.prog w 0 spare held n 69 (((Value.agg cs).cells.toList.drop 11).take (Tryz.prog.cellsOf 69)) = xs[5]? := hi 5 _ rfl
  rw [show Tryz.prog.cellsOf 71 = 12 by kernel_rfl] at hcs
  rw [show Tryz.prog.cellsOf 3 = 1 by kernel_rfl] at h3 h4
  rw [show Tryz.prog.cellsOf 69 = 1 by kernel_rfl] at h5
  rw [show Tryz.prog.cellsOf 68 = 3 by kernel_rfl] at h0 h1 h2
  obtain ⟨l⟩ := cs
  match l, hcs with
  | [a0, a1, a2, a3, a4, a5, a6, a7, a8, a9, a10, a11], _ =>
    match xs, hxl with
    | [y0, y1, y2, y3, y4, y5], _ =>
      simp [Value.cells] at h0 h1 h2 h3 h4 h5
      obtain ⟨q0, e0, e1, e2⟩ := per_of_trod h0
      obtain ⟨q1, e3, e4, e5⟩ := per_of_trod h1
      obtain ⟨q2, e6, e7, e8⟩ := per_of_trod h2
      obtain ⟨s3, e9, _, _⟩ := DataW.trod_int Tryz.underlying3 h3
      obtain ⟨s4, e10, _, _⟩ := DataW.trod_int Tryz.underlying3 h4
      obtain ⟨A, l, c, e11, hl⟩ := hols_of_trod h5
      cases e9; cases e10
      subst e0 e1 e2 e3 e4 e5 e6 e7 e8 e11
      exact ⟨A, c, ⟨q0, q1, q2, s3, s4, l⟩, rfl, hl⟩
set_option maxRecDepth 100000 in
theorem note_of_open (hval : Value.okWide Tryz.prog w r b0 114 v) (h : DataW.Trod enc Tryz.prog w 0 spare held 114 v d ps) :
    ∃ (N : Option Addr) (d : Nat) (n : Note), v = .agg #[.string n.name, .int .i64 n.opened, .slice N n.acts.length d] ∧ Acts w N n.acts ∧ n.name.size ≤ maxLen := by
  have hu := Tryz.underlying114
  unfold Value.okWide at hval
  rw [hu] at hval
  obtain ⟨cs, rfl, hcs, _⟩ := hval
  obtain ⟨fuel, hf⟩ := h
  obtain ⟨m, xs, hlen, hxl, hi⟩ := trod_cells hu (by kernel_rfl) hf
  have h0 := hi 0 _ rfl
  have h1 := hi 1 _ rfl
  have h2 := hi 2 _ rfl
  rw [show Tryz.prog.cellsOf 114 = 3 by kernel_rfl] at hcs
  obtain ⟨l⟩ := cs
  match l, hcs with
  | [a, b, c], _ =>
    match xs, hxl with
    | [y0, y1, y2], _ =>
      simp [Value.cells] at h0 h1 h2
      obtain ⟨s0, e0, _, g0⟩ := DataW.trod_string Tryz.underlying9 h0
      obtain ⟨s1, e1, _, _⟩ := DataW.trod_int Tryz.underlying3 h1
      obtain ⟨N, l, k, e2, ha⟩ := acts_of_trod h2
      cases e0; cases e1
      subst e2
      exact ⟨N, k, ⟨s0, s1, l⟩, rfl, ha, g0⟩
end
end Go.Proofs.YtbinoelbjlgjkaaGreatDoor
