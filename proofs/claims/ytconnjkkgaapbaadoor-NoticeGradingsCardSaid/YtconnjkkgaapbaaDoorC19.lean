/- Chapter 8 and what it rests on: definitions and walks, part 19. -/
import Derived.Test.YtconnjkkgaapbaaDoorC18
namespace Go.Proofs.YtconnjkkgaapbaaDoor
open Go Go.RowKit
set_option maxRecDepth 100000 in
set_option maxHeartbeats 4000000 in
theorem VisitErrR_any (v : Vis) (w : World) : Calls Tryd.prog 9 #[.agg #[.int .i64 v.day, .int .i64 v.kind, .int .i64 v.tilt, .int .i64 v.push]] w fun e w' => e = .returned (.int .i64 (Cal.visErr v)) ∧ Below w.heap.size w w' := by
  by_cases h1 : 0 ≤ v.day ∧ v.day ≤ 200000
  · by_cases h2 : 0 ≤ v.kind ∧ v.kind ≤ 2
    · by_cases h3 : 0 ≤ v.tilt ∧ v.tilt ≤ 1000
      · by_cases h4 : 0 ≤ v.push ∧ v.push ≤ 5000
        · by_cases hk : v.kind = 0
          · have hfin : Hid (Cal.visErr v = 0) := by show _ = _; unfold Cal.visErr; rw [if_pos ⟨h1, h2, h3, h4⟩, if_neg (fun h => h.1 hk)]
            have kb : (v.kind != 0) = false := by simpa using hk
            obtain ⟨a0, a1⟩ := h1
            obtain ⟨b0, b1⟩ := h2
            obtain ⟨c0, c1⟩ := h3
            obtain ⟨d0, d1⟩ := h4
            clear hk
            go_enter Tryd.func9, Tryd.ntmps9
            go_wp2_with (((first | (go_at_call 64) | (go_at_call 14) | (go_at_call 39) | (go_at_call 30) | (fail) | (fail) | (fail)); first | refine rin ?_ | refine rout ?_ | refine rany ?_))
            go_ret
            exact ⟨ret_int hfin.out.symm, by exact blw⟩
          · have kb : (v.kind != 0) = true := by simpa using hk
            by_cases ht : v.tilt = 0
            · have tb : (v.tilt != 0) = false := by simpa using ht
              by_cases hp : v.push = 0
              · have hfin : Hid (Cal.visErr v = 0) := by show _ = _; unfold Cal.visErr; rw [if_pos ⟨h1, h2, h3, h4⟩, if_neg (fun h => h.2.elim (fun h => h ht) (fun h => h hp))]
                have pb : (v.push != 0) = false := by simpa using hp
                obtain ⟨a0, a1⟩ := h1
                obtain ⟨b0, b1⟩ := h2
                obtain ⟨c0, c1⟩ := h3
                obtain ⟨d0, d1⟩ := h4
                clear hk ht hp
                go_enter Tryd.func9, Tryd.ntmps9
                go_wp2_with (((first | (go_at_call 64) | (go_at_call 14) | (go_at_call 39) | (go_at_call 30) | (fail) | (fail) | (fail)); first | refine rin ?_ | refine rout ?_ | refine rany ?_))
                go_ret
                exact ⟨ret_int hfin.out.symm, by exact blw⟩
              · have hfin : Hid (Cal.visErr v = 3) := by show _ = _; unfold Cal.visErr; rw [if_pos ⟨h1, h2, h3, h4⟩, if_pos ⟨hk, .inr hp⟩]
                have pb : (v.push != 0) = true := by simpa using hp
                obtain ⟨a0, a1⟩ := h1
                obtain ⟨b0, b1⟩ := h2
                obtain ⟨c0, c1⟩ := h3
                obtain ⟨d0, d1⟩ := h4
                clear hk ht hp
                go_enter Tryd.func9, Tryd.ntmps9
                go_wp2_with (((first | (go_at_call 64) | (go_at_call 14) | (go_at_call 39) | (go_at_call 30) | (fail) | (fail) | (fail)); first | refine rin ?_ | refine rout ?_ | refine rany ?_))
                go_ret
                exact ⟨ret_int hfin.out.symm, by exact blw⟩
            · have hfin : Hid (Cal.visErr v = 3) := by show _ = _; unfold Cal.visErr; rw [if_pos ⟨h1, h2, h3, h4⟩, if_pos ⟨hk, .inl ht⟩]
              have tb : (v.tilt != 0) = true := by simpa using ht
              obtain ⟨a0, a1⟩ := h1
              obtain ⟨b0, b1⟩ := h2
              obtain ⟨c0, c1⟩ := h3
              obtain ⟨d0, d1⟩ := h4
              clear hk ht
              go_enter Tryd.func9, Tryd.ntmps9
              go_wp2_with (((first | (go_at_call 64) | (go_at_call 14) | (go_at_call 39) | (go_at_call 30) | (fail) | (fail) | (fail)); first | refine rin ?_ | refine rout ?_ | refine rany ?_))
              go_ret
              exact ⟨ret_int hfin.out.symm, by exact blw⟩
        · have hfin : Hid (Cal.visErr v = 2) := by show _ = _; unfold Cal.visErr; rw [if_neg (fun h => h4 h.2.2.2)]
          obtain ⟨a0, a1⟩ := h1
          obtain ⟨b0, b1⟩ := h2
          obtain ⟨c0, c1⟩ := h3
          have h4' : v.push < 0 ∨ 5000 < v.push := by omega
          clear h4
          go_enter Tryd.func9, Tryd.ntmps9
          go_wp2_with (((first | (go_at_call 64) | (go_at_call 14) | (go_at_call 39) | (go_at_call 30) | (fail) | (fail) | (fail)); first | refine rin ?_ | refine rout ?_ | refine rany ?_))
          go_ret
          exact ⟨ret_int hfin.out.symm, by exact blw⟩
      · have hfin : Hid (Cal.visErr v = 2) := by show _ = _; unfold Cal.visErr; rw [if_neg (fun h => h3 h.2.2.1)]
        obtain ⟨a0, a1⟩ := h1
        obtain ⟨b0, b1⟩ := h2
        have h3' : v.tilt < 0 ∨ 1000 < v.tilt := by omega
        clear h3
        go_enter Tryd.func9, Tryd.ntmps9
        go_wp2_with (((first | (go_at_call 64) | (go_at_call 14) | (go_at_call 39) | (go_at_call 30) | (fail) | (fail) | (fail)); first | refine rin ?_ | refine rout ?_ | refine rany ?_))
        go_ret
        exact ⟨ret_int hfin.out.symm, by exact blw⟩
    · have hfin : Hid (Cal.visErr v = 2) := by show _ = _; unfold Cal.visErr; rw [if_neg (fun h => h2 h.2.1)]
      obtain ⟨a0, a1⟩ := h1
      have h2' : v.kind < 0 ∨ 2 < v.kind := by omega
      clear h2
      go_enter Tryd.func9, Tryd.ntmps9
      go_wp2_with (((first | (go_at_call 64) | (go_at_call 14) | (go_at_call 39) | (go_at_call 30) | (fail) | (fail) | (fail)); first | refine rin ?_ | refine rout ?_ | refine rany ?_))
      go_ret
      exact ⟨ret_int hfin.out.symm, by exact blw⟩
  · have hfin : Hid (Cal.visErr v = 2) := by show _ = _; unfold Cal.visErr; rw [if_neg (fun h => h1 h.1)]
    have h1' : v.day < 0 ∨ 200000 < v.day := by omega
    clear h1
    go_enter Tryd.func9, Tryd.ntmps9
    go_wp2_with (((first | (go_at_call 64) | (go_at_call 14) | (go_at_call 39) | (go_at_call 30) | (fail) | (fail) | (fail)); first | refine rin ?_ | refine rout ?_ | refine rany ?_))
    go_ret
    exact ⟨ret_int hfin.out.symm, by exact blw⟩
def hit (t p tilt push : Int) : Bool := decide (t ≤ tilt) || decide (push ≤ p)
def gr1 (g : Grad) (v : Vis) : Int := if g.t0 ≤ v.tilt ∨ v.push ≤ g.p0 then 1 else 0
def gr2 (g : Grad) (v : Vis) : Int := if g.t1 ≤ v.tilt ∨ v.push ≤ g.p1 then 2 else gr1 g v
def gr3 (g : Grad) (v : Vis) : Int := if g.t2 ≤ v.tilt ∨ v.push ≤ g.p2 then 3 else gr2 g v
theorem gr3_eq {g : Grad} {v : Vis} (hk : v.kind = 0) : Cal.gradeS g v = gr3 g v := by
  unfold Cal.gradeS gr3 gr2 gr1; rw [if_pos hk]
set_option maxRecDepth 100000 in
set_option maxHeartbeats 4000000 in
theorem GradeOfR_any (g : Grad) (v : Vis) (w : World) : Calls Tryd.prog 10 #[.agg #[.int .i64 g.t0, .int .i64 g.t1, .int .i64 g.t2, .int .i64 g.p0, .int .i64 g.p1, .int .i64 g.p2, .int .i64 g.m0, .int .i64 g.m1, .int .i64 g.m2, .int .i64 g.m3], .agg #[.int .i64 v.day, .int .i64 v.kind, .int .i64 v.tilt, .int .i64 v.push]] w fun e w' => e = .returned (.int .i64 (Cal.gradeS g v)) ∧ Below w.heap.size w w' := by
  have hb : Hid (Below w.heap.size w ((w.alloc (.cells #[.int .i64 g.t0, .int .i64 g.t1, .int .i64 g.t2, .int .i64 g.p0, .int .i64 g.p1, .int .i64 g.p2, .int .i64 g.m0, .int .i64 g.m1, .int .i64 g.m2, .int .i64 g.m3] 25)).alloc (.cells #[.int .i64 v.day, .int .i64 v.kind, .int .i64 v.tilt, .int .i64 v.push] 27))) := below_step (below_alloc _ _) (below_alloc _ _)
  by_cases hk : v.kind = 0
  · have kb : (v.kind == 0) = true := by simpa using hk
    have hfin := Lib.hid (gr3_eq (g := g) hk)
    clear hk
    go_enter Tryd.func10, Tryd.ntmps10
    go_wp2_with fail
    go_loopw [5, 6] (fun o i wr => ∃ n : Nat, ((i = .int .i64 0 ∧ o = .int .i64 0) ∨ (i = .int .i64 1 ∧ ∃ x, o = .int .i64 x ∧ Hid (gr1 g v = x)) ∨ (i = .int .i64 2 ∧ ∃ x, o = .int .i64 x ∧ Hid (gr2 g v = x)) ∨ (i = .int .i64 3 ∧ ∃ x, o = .int .i64 x ∧ Hid (gr3 g v = x))) ∧ wr = World.drewN ((w.alloc (.cells #[.int .i64 g.t0, .int .i64 g.t1, .int .i64 g.t2, .int .i64 g.p0, .int .i64 g.p1, .int .i64 g.p2, .int .i64 g.m0, .int .i64 g.m1, .int .i64 g.m2, .int .i64 g.m3] 25)).alloc (.cells #[.int .i64 v.day, .int .i64 v.kind, .int .i64 v.tilt, .int .i64 v.push] 27)) n) (fun _ i _ => (3 - intOf i).toNat)
    case atStart => exact ⟨0, .inl ⟨rfl, rfl⟩, rfl⟩
    case round =>
      obtain ⟨n, hi, rfl⟩ := hrel
      rcases hi with ⟨rfl, rfl⟩ | ⟨rfl, x, rfl, n1⟩ | ⟨rfl, x, rfl, n2⟩ | ⟨rfl, x, rfl, n3⟩
      · by_cases ht : g.t0 ≤ v.tilt
        · have hd : decide (g.t0 ≤ v.tilt) = true := by simpa using ht
          have hnx : Hid (gr1 g v = 1) := if_pos (.inl ht)
          clear ht
          go_wp2_with fail
          go_quiet (fail)
          go_wp2_with fail
          go_roundw
          case rel => exact ⟨_, .inr (.inl ⟨rfl, _, rfl, hnx⟩), rfl⟩
          case measure => simp [intOf]
        · have hd : decide (g.t0 ≤ v.tilt) = false := by simpa using ht
          by_cases hp : v.push ≤ g.p0
          · have hd2 : decide (v.push ≤ g.p0) = true := by simpa using hp
            have hnx : Hid (gr1 g v = 1) := if_pos (.inr hp)
            clear ht hp
            go_wp2_with fail
            go_quiet (fail)
            go_wp2_with fail
            go_roundw
            case rel => exact ⟨_, .inr (.inl ⟨rfl, _, rfl, hnx⟩), rfl⟩
            case measure => simp [intOf]
          · have hd2 : decide (v.push ≤ g.p0) = false := by simpa using hp
            have hnx : Hid (gr1 g v = 0) := if_neg (fun h => h.elim ht hp)
            clear ht hp
            go_wp2_with fail
            go_quiet (fail)
            go_wp2_with fail
            go_roundw
            case rel => exact ⟨_, .inr (.inl ⟨rfl, _, rfl, hnx⟩), rfl⟩
            case measure => simp [intOf]
      · by_cases ht : g.t1 ≤ v.tilt
        · have hd : decide (g.t1 ≤ v.tilt) = true := by simpa using ht
          have hnx : Hid (gr2 g v = 2) := if_pos (.inl ht)
          clear ht
          go_wp2_with fail
          go_quiet (fail)
          go_wp2_with fail
          go_roundw
          case rel => exact ⟨_, .inr (.inr (.inl ⟨rfl, _, rfl, by first | exact hnx | exact hnx.out.trans n1.out⟩)), rfl⟩
          case measure => simp [intOf]
        · have hd : decide (g.t1 ≤ v.tilt) = false := by simpa using ht
          by_cases hp : v.push ≤ g.p1
          · have hd2 : decide (v.push ≤ g.p1) = true := by simpa using hp
            have hnx : Hid (gr2 g v = 2) := if_pos (.inr hp)
            clear ht hp
            go_wp2_with fail
            go_quiet (fail)
            go_wp2_with fail
            go_roundw
            case rel => exact ⟨_, .inr (.inr (.inl ⟨rfl, _, rfl, by first | exact hnx | exact hnx.out.trans n1.out⟩)), rfl⟩
            case measure => simp [intOf]
          · have hd2 : decide (v.push ≤ g.p1) = false := by simpa using hp
            have hnx : Hid (gr2 g v = gr1 g v) := if_neg (fun h => h.elim ht hp)
            clear ht hp
            go_wp2_with fail
            go_quiet (fail)
            go_wp2_with fail
            go_roundw
            case rel => exact ⟨_, .inr (.inr (.inl ⟨rfl, _, rfl, by first | exact hnx | exact hnx.out.trans n1.out⟩)), rfl⟩
            case measure => simp [intOf]
      · by_cases ht : g.t2 ≤ v.tilt
        · have hd : decide (g.t2 ≤ v.tilt) = true := by simpa using ht
          have hnx : Hid (gr3 g v = 3) := if_pos (.inl ht)
          clear ht
          go_wp2_with fail
          go_quiet (fail)
          go_wp2_with fail
          go_roundw
          case rel => exact ⟨_, .inr (.inr (.inr ⟨rfl, _, rfl, by first | exact hnx | exact hnx.out.trans n2.out⟩)), rfl⟩
          case measure => simp [intOf]
        · have hd : decide (g.t2 ≤ v.tilt) = false := by simpa using ht
          by_cases hp : v.push ≤ g.p2
          · have hd2 : decide (v.push ≤ g.p2) = true := by simpa using hp
            have hnx : Hid (gr3 g v = 3) := if_pos (.inr hp)
            clear ht hp
            go_wp2_with fail
            go_quiet (fail)
            go_wp2_with fail
            go_roundw
            case rel => exact ⟨_, .inr (.inr (.inr ⟨rfl, _, rfl, by first | exact hnx | exact hnx.out.trans n2.out⟩)), rfl⟩
            case measure => simp [intOf]
          · have hd2 : decide (v.push ≤ g.p2) = false := by simpa using hp
            have hnx : Hid (gr3 g v = gr2 g v) := if_neg (fun h => h.elim ht hp)
            clear ht hp
            go_wp2_with fail
            go_quiet (fail)
            go_wp2_with fail
            go_roundw
            case rel => exact ⟨_, .inr (.inr (.inr ⟨rfl, _, rfl, by first | exact hnx | exact hnx.out.trans n2.out⟩)), rfl⟩
            case measure => simp [intOf]
      · go_wp2_with fail
        go_ret
        exact ⟨ret_int (hfin.out.trans n3.out).symm, below_drewN hb.out _⟩
  · have hfin : Hid (Cal.gradeS g v = 0) := by show _ = _; unfold Cal.gradeS; rw [if_neg hk]
    have kb : (v.kind == 0) = false := by simpa using hk
    clear hk
    go_enter Tryd.func10, Tryd.ntmps10
    go_wp2_with fail
    go_loopw [5, 6] (fun o i wr => o = .int .i64 0 ∧ i = .int .i64 0 ∧ wr = ((w.alloc (.cells #[.int .i64 g.t0, .int .i64 g.t1, .int .i64 g.t2, .int .i64 g.p0, .int .i64 g.p1, .int .i64 g.p2, .int .i64 g.m0, .int .i64 g.m1, .int .i64 g.m2, .int .i64 g.m3] 25)).alloc (.cells #[.int .i64 v.day, .int .i64 v.kind, .int .i64 v.tilt, .int .i64 v.push] 27))) (fun _ _ _ => 0)
    case atStart => exact ⟨rfl, rfl, rfl⟩
    case round =>
      obtain ⟨rfl, rfl, rfl⟩ := hrel
      go_wp2_with fail
      go_ret
      exact ⟨ret_int hfin.out.symm, hb.out⟩
end Go.Proofs.YtconnjkkgaapbaaDoor
namespace Go.Proofs.YtconnjkkgaapbaaDoor
open Go Go.RowKit
def inR (m z : Int) : Prop := 0 ≤ z ∧ z ≤ m
theorem inB_yes {m z : Int} (h : inR m z) : inB m z = true := by unfold inB; simp [h.1, h.2]
theorem inB_no {m z : Int} (h : ¬ inR m z) : inB m z = false := by
  unfold inB inR at *
  by_cases h0 : 0 ≤ z
  · have : ¬ z ≤ m := fun h1 => h ⟨h0, h1⟩
    simp [this]
  · simp [h0]
/-- What the loops of the reference have seen. -/
def Rng (g : Grad) : Prop := (inR 1000 g.t0 ∧ inR 5000 g.p0) ∧ (inR 1000 g.t1 ∧ inR 5000 g.p1) ∧ (inR 1000 g.t2 ∧ inR 5000 g.p2) ∧ inR 240 g.m0 ∧ inR 240 g.m1 ∧ inR 240 g.m2 ∧ inR 240 g.m3
def Ord (g : Grad) : Prop := (g.t0 ≤ g.t1 ∧ g.p1 ≤ g.p0) ∧ (g.t1 ≤ g.t2 ∧ g.p2 ≤ g.p1) ∧ g.m1 ≤ g.m0 ∧ g.m2 ≤ g.m1 ∧ g.m3 ≤ g.m2
theorem inB_iff {m z : Int} : inB m z = true ↔ inR m z := by unfold inB inR; simp
theorem range_iff {g : Grad} : g.range = true ↔ Rng g := by
  unfold Grad.range Rng allB
  simp only [List.all_cons, List.all_nil, Bool.and_true, Bool.and_eq_true, inB_iff]
  constructor
  · rintro ⟨⟨a, b, c⟩, ⟨d, e, f⟩, h⟩; exact ⟨⟨a, d⟩, ⟨b, e⟩, ⟨c, f⟩, h⟩
  · rintro ⟨⟨a, d⟩, ⟨b, e⟩, ⟨c, f⟩, h⟩; exact ⟨⟨a, b, c⟩, ⟨d, e, f⟩, h⟩
theorem up3_iff {a b c : Int} : upB [a, b, c] = true ↔ a ≤ b ∧ b ≤ c := by
  unfold upB
  rw [decide_eq_true_eq]
  constructor
  · intro h; exact ⟨h 0 (by simp), h 1 (by simp)⟩
  · rintro ⟨h1, h2⟩ j hj
    match j, hj with
    | 0, _ => exact h1
    | 1, _ => exact h2
theorem down3_iff {a b c : Int} : downB [a, b, c] = true ↔ b ≤ a ∧ c ≤ b := by
  unfold downB
  rw [decide_eq_true_eq]
  constructor
  · intro h; exact ⟨h 0 (by simp), h 1 (by simp)⟩
  · rintro ⟨h1, h2⟩ j hj
    match j, hj with
    | 0, _ => exact h1
    | 1, _ => exact h2
theorem down4_iff {a b c d : Int} : downB [a, b, c, d] = true ↔ b ≤ a ∧ c ≤ b ∧ d ≤ c := by
  unfold downB
  rw [decide_eq_true_eq]
  constructor
  · intro h; exact ⟨h 0 (by simp), h 1 (by simp), h 2 (by simp)⟩
  · rintro ⟨h1, h2, h3⟩ j hj
    match j, hj with
    | 0, _ => exact h1
    | 1, _ => exact h2
    | 2, _ => exact h3
theorem order_iff {g : Grad} : g.order = true ↔ Ord g := by
  unfold Grad.order Ord
  simp only [Bool.and_eq_true, up3_iff, down3_iff, down4_iff]
  constructor
  · rintro ⟨⟨a, b⟩, ⟨c, d⟩, e⟩; exact ⟨⟨a, c⟩, ⟨b, d⟩, e⟩
  · rintro ⟨⟨a, c⟩, ⟨b, d⟩, e⟩; exact ⟨⟨a, b⟩, ⟨c, d⟩, e⟩
theorem Cal.gradErr_2 {g : Grad} (h : ¬ Rng g) : Cal.gradErr g = 2 := by unfold Cal.gradErr; rw [if_neg (fun x => h (range_iff.1 x))]
theorem Cal.gradErr_9 {g : Grad} (h : Rng g) (h2 : ¬ Ord g) : Cal.gradErr g = 9 := by unfold Cal.gradErr; rw [if_pos (range_iff.2 h), if_neg (fun x => h2 (order_iff.1 x))]
theorem Cal.gradErr_0 {g : Grad} (h : Rng g) (h2 : Ord g) : Cal.gradErr g = 0 := by unfold Cal.gradErr; rw [if_pos (range_iff.2 h), if_pos (order_iff.2 h2)]
set_option maxRecDepth 100000 in
set_option maxHeartbeats 4000000 in
theorem CheckGradingR_any (g : Grad) (w : World) : Calls Tryd.prog 6 #[.agg #[.int .i64 g.t0, .int .i64 g.t1, .int .i64 g.t2, .int .i64 g.p0, .int .i64 g.p1, .int .i64 g.p2, .int .i64 g.m0, .int .i64 g.m1, .int .i64 g.m2, .int .i64 g.m3]] w fun e w' => e = .returned (.int .i64 (Cal.gradErr g)) ∧ Below w.heap.size w w' := by
  have hb : Hid (Below w.heap.size w ((w.alloc (.cells #[.int .i64 g.t0, .int .i64 g.t1, .int .i64 g.t2, .int .i64 g.p0, .int .i64 g.p1, .int .i64 g.p2, .int .i64 g.m0, .int .i64 g.m1, .int .i64 g.m2, .int .i64 g.m3] 25)))) := below_alloc _ _
  go_enter Tryd.func6, Tryd.ntmps6
  go_wp2_with fail
  go_loop [3] (fun i => (i = .int .i64 0) ∨ (i = .int .i64 1 ∧ Hid (inR 1000 g.t0 ∧ inR 5000 g.p0)) ∨ (i = .int .i64 2 ∧ Hid (inR 1000 g.t0 ∧ inR 5000 g.p0) ∧ Hid (inR 1000 g.t1 ∧ inR 5000 g.p1)) ∨ (i = .int .i64 3 ∧ Hid (inR 1000 g.t0 ∧ inR 5000 g.p0) ∧ Hid (inR 1000 g.t1 ∧ inR 5000 g.p1) ∧ Hid (inR 1000 g.t2 ∧ inR 5000 g.p2))) (fun i => (3 - intOf i).toNat)
  case atStart => exact .inl rfl
  case round =>
    rcases hrel with rfl | ⟨rfl, q0⟩ | ⟨rfl, q0, q1⟩ | ⟨rfl, q0, q1, q2⟩
    · by_cases ht : inR 1000 g.t0
      · obtain ⟨ta, tb⟩ := ht
        by_cases hp : inR 5000 g.p0
        · have hz : Hid (inR 1000 g.t0 ∧ inR 5000 g.p0) := ⟨⟨ta, tb⟩, hp⟩
          obtain ⟨pa, pb⟩ := hp
          go_wp2_with (((first | (go_at_call 64) | (go_at_call 14) | (go_at_call 39) | (go_at_call 30) | (fail) | (fail) | (fail)); first | refine rin ?_ | refine rout ?_ | refine rany ?_))
          go_round
          case rel => exact .inr (.inl ⟨rfl, hz⟩)
          case measure => simp [intOf]
        · have hfin : Hid (Cal.gradErr g = 2) := Cal.gradErr_2 (fun h => hp (h.1).2)
          have hp' : g.p0 < 0 ∨ 5000 < g.p0 := by unfold inR at hp; omega
          clear hp
          go_wp2_with (((first | (go_at_call 64) | (go_at_call 14) | (go_at_call 39) | (go_at_call 30) | (fail) | (fail) | (fail)); first | refine rin ?_ | refine rout ?_ | refine rany ?_))
          go_ret
          exact ⟨ret_int hfin.out.symm, hb.out⟩
      · have hfin : Hid (Cal.gradErr g = 2) := Cal.gradErr_2 (fun h => ht (h.1).1)
        have ht' : g.t0 < 0 ∨ 1000 < g.t0 := by unfold inR at ht; omega
        clear ht
        go_wp2_with (((first | (go_at_call 64) | (go_at_call 14) | (go_at_call 39) | (go_at_call 30) | (fail) | (fail) | (fail)); first | refine rin ?_ | refine rout ?_ | refine rany ?_))
        go_ret
        exact ⟨ret_int hfin.out.symm, hb.out⟩
    · by_cases ht : inR 1000 g.t1
      · obtain ⟨ta, tb⟩ := ht
        by_cases hp : inR 5000 g.p1
        · have hz : Hid (inR 1000 g.t1 ∧ inR 5000 g.p1) := ⟨⟨ta, tb⟩, hp⟩
          obtain ⟨pa, pb⟩ := hp
          go_wp2_with (((first | (go_at_call 64) | (go_at_call 14) | (go_at_call 39) | (go_at_call 30) | (fail) | (fail) | (fail)); first | refine rin ?_ | refine rout ?_ | refine rany ?_))
          go_round
          case rel => exact .inr (.inr (.inl ⟨rfl, q0, hz⟩))
          case measure => simp [intOf]
        · have hfin : Hid (Cal.gradErr g = 2) := Cal.gradErr_2 (fun h => hp (h.2.1).2)
          have hp' : g.p1 < 0 ∨ 5000 < g.p1 := by unfold inR at hp; omega
          clear hp
          go_wp2_with (((first | (go_at_call 64) | (go_at_call 14) | (go_at_call 39) | (go_at_call 30) | (fail) | (fail) | (fail)); first | refine rin ?_ | refine rout ?_ | refine rany ?_))
          go_ret
          exact ⟨ret_int hfin.out.symm, hb.out⟩
      · have hfin : Hid (Cal.gradErr g = 2) := Cal.gradErr_2 (fun h => ht (h.2.1).1)
        have ht' : g.t1 < 0 ∨ 1000 < g.t1 := by unfold inR at ht; omega
        clear ht
        go_wp2_with (((first | (go_at_call 64) | (go_at_call 14) | (go_at_call 39) | (go_at_call 30) | (fail) | (fail) | (fail)); first | refine rin ?_ | refine rout ?_ | refine rany ?_))
        go_ret
        exact ⟨ret_int hfin.out.symm, hb.out⟩
    · by_cases ht : inR 1000 g.t2
      · obtain ⟨ta, tb⟩ := ht
        by_cases hp : inR 5000 g.p2
        · have hz : Hid (inR 1000 g.t2 ∧ inR 5000 g.p2) := ⟨⟨ta, tb⟩, hp⟩
          obtain ⟨pa, pb⟩ := hp
          go_wp2_with (((first | (go_at_call 64) | (go_at_call 14) | (go_at_call 39) | (go_at_call 30) | (fail) | (fail) | (fail)); first | refine rin ?_ | refine rout ?_ | refine rany ?_))
          go_round
          case rel => exact .inr (.inr (.inr ⟨rfl, q0, q1, hz⟩))
          case measure => simp [intOf]
        · have hfin : Hid (Cal.gradErr g = 2) := Cal.gradErr_2 (fun h => hp (h.2.2.1).2)
          have hp' : g.p2 < 0 ∨ 5000 < g.p2 := by unfold inR at hp; omega
          clear hp
          go_wp2_with (((first | (go_at_call 64) | (go_at_call 14) | (go_at_call 39) | (go_at_call 30) | (fail) | (fail) | (fail)); first | refine rin ?_ | refine rout ?_ | refine rany ?_))
          go_ret
          exact ⟨ret_int hfin.out.symm, hb.out⟩
      · have hfin : Hid (Cal.gradErr g = 2) := Cal.gradErr_2 (fun h => ht (h.2.2.1).1)
        have ht' : g.t2 < 0 ∨ 1000 < g.t2 := by unfold inR at ht; omega
        clear ht
        go_wp2_with (((first | (go_at_call 64) | (go_at_call 14) | (go_at_call 39) | (go_at_call 30) | (fail) | (fail) | (fail)); first | refine rin ?_ | refine rout ?_ | refine rany ?_))
        go_ret
        exact ⟨ret_int hfin.out.symm, hb.out⟩
    · go_wp2_with fail
      go_loop [4] (fun i => (i = .int .i64 0) ∨ (i = .int .i64 1 ∧ Hid (inR 240 g.m0)) ∨ (i = .int .i64 2 ∧ Hid (inR 240 g.m0) ∧ Hid (inR 240 g.m1)) ∨ (i = .int .i64 3 ∧ Hid (inR 240 g.m0) ∧ Hid (inR 240 g.m1) ∧ Hid (inR 240 g.m2)) ∨ (i = .int .i64 4 ∧ Hid (inR 240 g.m0) ∧ Hid (inR 240 g.m1) ∧ Hid (inR 240 g.m2) ∧ Hid (inR 240 g.m3))) (fun i => (4 - intOf i).toNat)
      case atStart => exact .inl rfl
      case round =>
        rcases hrel with rfl | ⟨rfl, m0⟩ | ⟨rfl, m0, m1⟩ | ⟨rfl, m0, m1, m2⟩ | ⟨rfl, m0, m1, m2, m3⟩
        · by_cases ht : inR 240 g.m0
          · have hz := Lib.hid ht
            obtain ⟨ta, tb⟩ := ht
            go_wp2_with (((first | (go_at_call 64) | (go_at_call 14) | (go_at_call 39) | (go_at_call 30) | (fail) | (fail) | (fail)); first | refine rin ?_ | refine rout ?_ | refine rany ?_))
            go_round
            case rel => exact .inr (.inl ⟨rfl, hz⟩)
            case measure => simp [intOf]
          · have hfin : Hid (Cal.gradErr g = 2) := Cal.gradErr_2 (fun h => ht (h.2.2.2.1))
            have ht' : g.m0 < 0 ∨ 240 < g.m0 := by unfold inR at ht; omega
            clear ht
            go_wp2_with (((first | (go_at_call 64) | (go_at_call 14) | (go_at_call 39) | (go_at_call 30) | (fail) | (fail) | (fail)); first | refine rin ?_ | refine rout ?_ | refine rany ?_))
            go_ret
            exact ⟨ret_int hfin.out.symm, hb.out⟩
        · by_cases ht : inR 240 g.m1
          · have hz := Lib.hid ht
            obtain ⟨ta, tb⟩ := ht
            go_wp2_with (((first | (go_at_call 64) | (go_at_call 14) | (go_at_call 39) | (go_at_call 30) | (fail) | (fail) | (fail)); first | refine rin ?_ | refine rout ?_ | refine rany ?_))
            go_round
            case rel => exact .inr (.inr (.inl ⟨rfl, m0, hz⟩))
            case measure => simp [intOf]
          · have hfin : Hid (Cal.gradErr g = 2) := Cal.gradErr_2 (fun h => ht (h.2.2.2.2.1))
            have ht' : g.m1 < 0 ∨ 240 < g.m1 := by unfold inR at ht; omega
            clear ht
            go_wp2_with (((first | (go_at_call 64) | (go_at_call 14) | (go_at_call 39) | (go_at_call 30) | (fail) | (fail) | (fail)); first | refine rin ?_ | refine rout ?_ | refine rany ?_))
            go_ret
            exact ⟨ret_int hfin.out.symm, hb.out⟩
        · by_cases ht : inR 240 g.m2
          · have hz := Lib.hid ht
            obtain ⟨ta, tb⟩ := ht
            go_wp2_with (((first | (go_at_call 64) | (go_at_call 14) | (go_at_call 39) | (go_at_call 30) | (fail) | (fail) | (fail)); first | refine rin ?_ | refine rout ?_ | refine rany ?_))
            go_round
            case rel => exact .inr (.inr (.inr (.inl ⟨rfl, m0, m1, hz⟩)))
            case measure => simp [intOf]
          · have hfin : Hid (Cal.gradErr g = 2) := Cal.gradErr_2 (fun h => ht (h.2.2.2.2.2.1))
            have ht' : g.m2 < 0 ∨ 240 < g.m2 := by unfold inR at ht; omega
            clear ht
            go_wp2_with (((first | (go_at_call 64) | (go_at_call 14) | (go_at_call 39) | (go_at_call 30) | (fail) | (fail) | (fail)); first | refine rin ?_ | refine rout ?_ | refine rany ?_))
            go_ret
            exact ⟨ret_int hfin.out.symm, hb.out⟩
        · by_cases ht : inR 240 g.m3
          · have hz := Lib.hid ht
            obtain ⟨ta, tb⟩ := ht
            go_wp2_with (((first | (go_at_call 64) | (go_at_call 14) | (go_at_call 39) | (go_at_call 30) | (fail) | (fail) | (fail)); first | refine rin ?_ | refine rout ?_ | refine rany ?_))
            go_round
            case rel => exact .inr (.inr (.inr (.inr ⟨rfl, m0, m1, m2, hz⟩)))
            case measure => simp [intOf]
          · have hfin : Hid (Cal.gradErr g = 2) := Cal.gradErr_2 (fun h => ht (h.2.2.2.2.2.2))
            have ht' : g.m3 < 0 ∨ 240 < g.m3 := by unfold inR at ht; omega
            clear ht
            go_wp2_with (((first | (go_at_call 64) | (go_at_call 14) | (go_at_call 39) | (go_at_call 30) | (fail) | (fail) | (fail)); first | refine rin ?_ | refine rout ?_ | refine rany ?_))
            go_ret
            exact ⟨ret_int hfin.out.symm, hb.out⟩
        · have hR : Hid (Rng g) := ⟨q0.out, q1.out, q2.out, m0.out, m1.out, m2.out, m3.out⟩
          clear q0 q1 q2 m0 m1 m2 m3
          go_wp2_with fail
          go_loopw [5] (fun i wr => ∃ k : Nat, ((i = .int .i64 1) ∨ (i = .int .i64 2 ∧ Hid (g.t0 ≤ g.t1 ∧ g.p1 ≤ g.p0)) ∨ (i = .int .i64 3 ∧ Hid (g.t0 ≤ g.t1 ∧ g.p1 ≤ g.p0) ∧ Hid (g.t1 ≤ g.t2 ∧ g.p2 ≤ g.p1))) ∧ wr = World.drewN ((w.alloc (.cells #[.int .i64 g.t0, .int .i64 g.t1, .int .i64 g.t2, .int .i64 g.p0, .int .i64 g.p1, .int .i64 g.p2, .int .i64 g.m0, .int .i64 g.m1, .int .i64 g.m2, .int .i64 g.m3] 25))) k) (fun i _ => (3 - intOf i).toNat)
          case atStart => exact ⟨0, .inl rfl, rfl⟩
          case round =>
            obtain ⟨k, hi, rfl⟩ := hrel
            rcases hi with rfl | ⟨rfl, o1⟩ | ⟨rfl, o1, o2⟩
            · by_cases ht : g.t1 < g.t0
              · have hfin : Hid (Cal.gradErr g = 9) := Cal.gradErr_9 hR.out (fun h => absurd (h.1).1 (by omega))
                have hd : decide (g.t1 < g.t0) = true := by simpa using ht
                clear ht
                go_wp2_with fail
                go_quiet (fail)
                go_wp2_with fail
                go_ret
                exact ⟨ret_int hfin.out.symm, by first | exact below_drewN hb.out _ | exact below_drewN (below_drewN hb.out _) _⟩
              · have hd : decide (g.t1 < g.t0) = false := by simpa using ht
                by_cases hp : g.p0 < g.p1
                · have hfin : Hid (Cal.gradErr g = 9) := Cal.gradErr_9 hR.out (fun h => absurd (h.1).2 (by omega))
                  have hd2 : decide (g.p0 < g.p1) = true := by simpa using hp
                  clear ht hp
                  go_wp2_with fail
                  go_quiet (fail)
                  go_wp2_with fail
                  go_ret
                  exact ⟨ret_int hfin.out.symm, by first | exact below_drewN hb.out _ | exact below_drewN (below_drewN hb.out _) _⟩
                · have hz : Hid (g.t0 ≤ g.t1 ∧ g.p1 ≤ g.p0) := ⟨by omega, by omega⟩
                  have hd2 : decide (g.p0 < g.p1) = false := by simpa using hp
                  clear ht hp
                  go_wp2_with fail
                  go_quiet (fail)
                  go_wp2_with fail
                  go_roundw
                  case rel => exact ⟨_, .inr (.inl ⟨rfl, hz⟩), rfl⟩
                  case measure => simp [intOf]
            · by_cases ht : g.t2 < g.t1
              · have hfin : Hid (Cal.gradErr g = 9) := Cal.gradErr_9 hR.out (fun h => absurd (h.2.1).1 (by omega))
                have hd : decide (g.t2 < g.t1) = true := by simpa using ht
                clear ht
                go_wp2_with fail
                go_quiet (fail)
                go_wp2_with fail
                go_ret
                exact ⟨ret_int hfin.out.symm, by first | exact below_drewN hb.out _ | exact below_drewN (below_drewN hb.out _) _⟩
              · have hd : decide (g.t2 < g.t1) = false := by simpa using ht
                by_cases hp : g.p1 < g.p2
                · have hfin : Hid (Cal.gradErr g = 9) := Cal.gradErr_9 hR.out (fun h => absurd (h.2.1).2 (by omega))
                  have hd2 : decide (g.p1 < g.p2) = true := by simpa using hp
                  clear ht hp
                  go_wp2_with fail
                  go_quiet (fail)
                  go_wp2_with fail
                  go_ret
                  exact ⟨ret_int hfin.out.symm, by first | exact below_drewN hb.out _ | exact below_drewN (below_drewN hb.out _) _⟩
                · have hz : Hid (g.t1 ≤ g.t2 ∧ g.p2 ≤ g.p1) := ⟨by omega, by omega⟩
                  have hd2 : decide (g.p1 < g.p2) = false := by simpa using hp
                  clear ht hp
                  go_wp2_with fail
                  go_quiet (fail)
                  go_wp2_with fail
                  go_roundw
                  case rel => exact ⟨_, .inr (.inr ⟨rfl, o1, hz⟩), rfl⟩
                  case measure => simp [intOf]
            · go_wp2_with fail
              go_loopw [6] (fun i wr => ∃ k : Nat, ((i = .int .i64 1) ∨ (i = .int .i64 2 ∧ Hid (g.m1 ≤ g.m0)) ∨ (i = .int .i64 3 ∧ Hid (g.m1 ≤ g.m0) ∧ Hid (g.m2 ≤ g.m1)) ∨ (i = .int .i64 4 ∧ Hid (g.m1 ≤ g.m0) ∧ Hid (g.m2 ≤ g.m1) ∧ Hid (g.m3 ≤ g.m2))) ∧ wr = World.drewN ((w.alloc (.cells #[.int .i64 g.t0, .int .i64 g.t1, .int .i64 g.t2, .int .i64 g.p0, .int .i64 g.p1, .int .i64 g.p2, .int .i64 g.m0, .int .i64 g.m1, .int .i64 g.m2, .int .i64 g.m3] 25))) k) (fun i _ => (4 - intOf i).toNat)
              case atStart => exact ⟨_, .inl rfl, rfl⟩
              case round =>
                obtain ⟨k, hi, rfl⟩ := hrel
                rcases hi with rfl | ⟨rfl, x1⟩ | ⟨rfl, x1, x2⟩ | ⟨rfl, x1, x2, x3⟩
                · by_cases hp : g.m0 < g.m1
                  · have hfin : Hid (Cal.gradErr g = 9) := Cal.gradErr_9 hR.out (fun h => absurd (h.2.2.1) (by omega))
                    have hd2 : decide (g.m0 < g.m1) = true := by simpa using hp
                    clear hp
                    go_wp2_with fail
                    go_quiet (fail)
                    go_wp2_with fail
                    go_ret
                    exact ⟨ret_int hfin.out.symm, by first | exact below_drewN hb.out _ | exact below_drewN (below_drewN hb.out _) _⟩
                  · have hz : Hid (g.m1 ≤ g.m0) := by show _ ≤ _; omega
                    have hd2 : decide (g.m0 < g.m1) = false := by simpa using hp
                    clear hp
                    go_wp2_with fail
                    go_quiet (fail)
                    go_wp2_with fail
                    go_roundw
                    case rel => exact ⟨_, .inr (.inl ⟨rfl, hz⟩), rfl⟩
                    case measure => simp [intOf]
                · by_cases hp : g.m1 < g.m2
                  · have hfin : Hid (Cal.gradErr g = 9) := Cal.gradErr_9 hR.out (fun h => absurd (h.2.2.2.1) (by omega))
                    have hd2 : decide (g.m1 < g.m2) = true := by simpa using hp
                    clear hp
                    go_wp2_with fail
                    go_quiet (fail)
                    go_wp2_with fail
                    go_ret
                    exact ⟨ret_int hfin.out.symm, by first | exact below_drewN hb.out _ | exact below_drewN (below_drewN hb.out _) _⟩
                  · have hz : Hid (g.m2 ≤ g.m1) := by show _ ≤ _; omega
                    have hd2 : decide (g.m1 < g.m2) = false := by simpa using hp
                    clear hp
                    go_wp2_with fail
                    go_quiet (fail)
                    go_wp2_with fail
                    go_roundw
                    case rel => exact ⟨_, .inr (.inr (.inl ⟨rfl, x1, hz⟩)), rfl⟩
                    case measure => simp [intOf]
                · by_cases hp : g.m2 < g.m3
                  · have hfin : Hid (Cal.gradErr g = 9) := Cal.gradErr_9 hR.out (fun h => absurd (h.2.2.2.2) (by omega))
                    have hd2 : decide (g.m2 < g.m3) = true := by simpa using hp
                    clear hp
                    go_wp2_with fail
                    go_quiet (fail)
                    go_wp2_with fail
                    go_ret
                    exact ⟨ret_int hfin.out.symm, by first | exact below_drewN hb.out _ | exact below_drewN (below_drewN hb.out _) _⟩
                  · have hz : Hid (g.m3 ≤ g.m2) := by show _ ≤ _; omega
                    have hd2 : decide (g.m2 < g.m3) = false := by simpa using hp
                    clear hp
                    go_wp2_with fail
                    go_quiet (fail)
                    go_wp2_with fail
                    go_roundw
                    case rel => exact ⟨_, .inr (.inr (.inr ⟨rfl, x1, x2, hz⟩)), rfl⟩
                    case measure => simp [intOf]
                · have hfin := Lib.hid (Cal.gradErr_0 hR.out ⟨o1.out, o2.out, x1.out, x2.out, x3.out⟩)
                  go_wp2_with fail
                  go_ret
                  exact ⟨ret_int hfin.out.symm, below_drewN hb.out _⟩
end Go.Proofs.YtconnjkkgaapbaaDoor
