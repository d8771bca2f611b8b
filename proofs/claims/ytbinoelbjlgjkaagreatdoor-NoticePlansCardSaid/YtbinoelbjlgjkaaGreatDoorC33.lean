/- Chapter 8 and what it rests on: definitions and walks, part 33. -/
import Derived.Test.YtbinoelbjlgjkaaGreatDoorC30
namespace Go.Proofs.YtbinoelbjlgjkaaGreatDoor
open Go Go.RowKit
set_option maxRecDepth 100000 in
set_option maxHeartbeats 4000000 in
theorem VisitErrR_any (v : Vis) (w : World) : Calls Tryz.prog 154 #[.agg #[.int .i64 v.day, .int .i64 v.kind, .int .i64 v.tilt, .int .i64 v.push]] w fun e w' => e = .returned (.int .i64 (Cal.visErr v)) ∧ Below w.heap.size w w' := by
  by_cases h1 : 0 ≤ v.day ∧ v.day ≤ 200000
  · by_cases h2 : 0 ≤ v.kind ∧ v.kind ≤ 2
    · by_cases h3 : 0 ≤ v.tilt ∧ v.tilt ≤ 1000
      · by_cases h4 : 0 ≤ v.push ∧ v.push ≤ 5000
        · by_cases hk : v.kind = 0
          · have hfin : Hid (Cal.visErr v = 0) := by show _ = _; unfold Cal.visErr; rw [if_pos ⟨h1, h2, h3, h4⟩, if_neg (fun h => h.1 hk)]
            have kb : (v.kind != 0) = false := by simpa using hk
            obtain ⟨a0, a1⟩ := h1
            obtain ⟨b0, b1⟩ := h2
            obtain ⟨c0, c1⟩ := h3
            obtain ⟨d0, d1⟩ := h4
            clear hk
            go_enter Tryz.func154, Tryz.ntmps154
            go_wp2_with (((first | (go_at_call 123) | (go_at_call 92) | (go_at_call 126) | (go_at_call 29) | (go_at_call 222) | (fail) | (go_at_call 127)); first | refine rin ?_ | refine rout ?_ | refine rany ?_))
            go_ret
            exact ⟨ret_int hfin.out.symm, by exact blw⟩
          · have kb : (v.kind != 0) = true := by simpa using hk
            by_cases ht : v.tilt = 0
            · have tb : (v.tilt != 0) = false := by simpa using ht
              by_cases hp : v.push = 0
              · have hfin : Hid (Cal.visErr v = 0) := by show _ = _; unfold Cal.visErr; rw [if_pos ⟨h1, h2, h3, h4⟩, if_neg (fun h => h.2.elim (fun h => h ht) (fun h => h hp))]
                have pb : (v.push != 0) = false := by simpa using hp
                obtain ⟨a0, a1⟩ := h1
                obtain ⟨b0, b1⟩ := h2
                obtain ⟨c0, c1⟩ := h3
                obtain ⟨d0, d1⟩ := h4
                clear hk ht hp
                go_enter Tryz.func154, Tryz.ntmps154
                go_wp2_with (((first | (go_at_call 123) | (go_at_call 92) | (go_at_call 126) | (go_at_call 29) | (go_at_call 222) | (fail) | (go_at_call 127)); first | refine rin ?_ | refine rout ?_ | refine rany ?_))
                go_ret
                exact ⟨ret_int hfin.out.symm, by exact blw⟩
              · have hfin : Hid (Cal.visErr v = 3) := by show _ = _; unfold Cal.visErr; rw [if_pos ⟨h1, h2, h3, h4⟩, if_pos ⟨hk, .inr hp⟩]
                have pb : (v.push != 0) = true := by simpa using hp
                obtain ⟨a0, a1⟩ := h1
                obtain ⟨b0, b1⟩ := h2
                obtain ⟨c0, c1⟩ := h3
                obtain ⟨d0, d1⟩ := h4
                clear hk ht hp
                go_enter Tryz.func154, Tryz.ntmps154
                go_wp2_with (((first | (go_at_call 123) | (go_at_call 92) | (go_at_call 126) | (go_at_call 29) | (go_at_call 222) | (fail) | (go_at_call 127)); first | refine rin ?_ | refine rout ?_ | refine rany ?_))
                go_ret
                exact ⟨ret_int hfin.out.symm, by exact blw⟩
            · have hfin : Hid (Cal.visErr v = 3) := by show _ = _; unfold Cal.visErr; rw [if_pos ⟨h1, h2, h3, h4⟩, if_pos ⟨hk, .inl ht⟩]
              have tb : (v.tilt != 0) = true := by simpa using ht
              obtain ⟨a0, a1⟩ := h1
              obtain ⟨b0, b1⟩ := h2
              obtain ⟨c0, c1⟩ := h3
              obtain ⟨d0, d1⟩ := h4
              clear hk ht
              go_enter Tryz.func154, Tryz.ntmps154
              go_wp2_with (((first | (go_at_call 123) | (go_at_call 92) | (go_at_call 126) | (go_at_call 29) | (go_at_call 222) | (fail) | (go_at_call 127)); first | refine rin ?_ | refine rout ?_ | refine rany ?_))
              go_ret
              exact ⟨ret_int hfin.out.symm, by exact blw⟩
        · have hfin : Hid (Cal.visErr v = 2) := by show _ = _; unfold Cal.visErr; rw [if_neg (fun h => h4 h.2.2.2)]
          obtain ⟨a0, a1⟩ := h1
          obtain ⟨b0, b1⟩ := h2
          obtain ⟨c0, c1⟩ := h3
          have h4' : v.push < 0 ∨ 5000 < v.push := by omega
          clear h4
          go_enter Tryz.func154, Tryz.ntmps154
          go_wp2_with (((first | (go_at_call 123) | (go_at_call 92) | (go_at_call 126) | (go_at_call 29) | (go_at_call 222) | (fail) | (go_at_call 127)); first | refine rin ?_ | refine rout ?_ | refine rany ?_))
          go_ret
          exact ⟨ret_int hfin.out.symm, by exact blw⟩
      · have hfin : Hid (Cal.visErr v = 2) := by show _ = _; unfold Cal.visErr; rw [if_neg (fun h => h3 h.2.2.1)]
        obtain ⟨a0, a1⟩ := h1
        obtain ⟨b0, b1⟩ := h2
        have h3' : v.tilt < 0 ∨ 1000 < v.tilt := by omega
        clear h3
        go_enter Tryz.func154, Tryz.ntmps154
        go_wp2_with (((first | (go_at_call 123) | (go_at_call 92) | (go_at_call 126) | (go_at_call 29) | (go_at_call 222) | (fail) | (go_at_call 127)); first | refine rin ?_ | refine rout ?_ | refine rany ?_))
        go_ret
        exact ⟨ret_int hfin.out.symm, by exact blw⟩
    · have hfin : Hid (Cal.visErr v = 2) := by show _ = _; unfold Cal.visErr; rw [if_neg (fun h => h2 h.2.1)]
      obtain ⟨a0, a1⟩ := h1
      have h2' : v.kind < 0 ∨ 2 < v.kind := by omega
      clear h2
      go_enter Tryz.func154, Tryz.ntmps154
      go_wp2_with (((first | (go_at_call 123) | (go_at_call 92) | (go_at_call 126) | (go_at_call 29) | (go_at_call 222) | (fail) | (go_at_call 127)); first | refine rin ?_ | refine rout ?_ | refine rany ?_))
      go_ret
      exact ⟨ret_int hfin.out.symm, by exact blw⟩
  · have hfin : Hid (Cal.visErr v = 2) := by show _ = _; unfold Cal.visErr; rw [if_neg (fun h => h1 h.1)]
    have h1' : v.day < 0 ∨ 200000 < v.day := by omega
    clear h1
    go_enter Tryz.func154, Tryz.ntmps154
    go_wp2_with (((first | (go_at_call 123) | (go_at_call 92) | (go_at_call 126) | (go_at_call 29) | (go_at_call 222) | (fail) | (go_at_call 127)); first | refine rin ?_ | refine rout ?_ | refine rany ?_))
    go_ret
    exact ⟨ret_int hfin.out.symm, by exact blw⟩
def hit (t p tilt push : Int) : Bool := decide (t ≤ tilt) || decide (push ≤ p)
def gr1 (g : Grad) (v : Vis) : Int := if g.t0 ≤ v.tilt ∨ v.push ≤ g.p0 then 1 else 0
def gr2 (g : Grad) (v : Vis) : Int := if g.t1 ≤ v.tilt ∨ v.push ≤ g.p1 then 2 else gr1 g v
def gr3 (g : Grad) (v : Vis) : Int := if g.t2 ≤ v.tilt ∨ v.push ≤ g.p2 then 3 else gr2 g v
theorem gr3_eq {g : Grad} {v : Vis} (hk : v.kind = 0) : Cal.gradeS g v = gr3 g v := by
  unfold Cal.gradeS gr3 gr2 gr1; rw [if_pos hk]
set_option maxRecDepth 100000 in
set_option maxHeartbeats 4000000 in
theorem GradeOfR_any (g : Grad) (v : Vis) (w : World) : Calls Tryz.prog 157 #[.agg #[.int .i64 g.t0, .int .i64 g.t1, .int .i64 g.t2, .int .i64 g.p0, .int .i64 g.p1, .int .i64 g.p2, .int .i64 g.m0, .int .i64 g.m1, .int .i64 g.m2, .int .i64 g.m3], .agg #[.int .i64 v.day, .int .i64 v.kind, .int .i64 v.tilt, .int .i64 v.push]] w fun e w' => e = .returned (.int .i64 (Cal.gradeS g v)) ∧ Below w.heap.size w w' := by
  have hb : Hid (Below w.heap.size w ((w.alloc (.cells #[.int .i64 g.t0, .int .i64 g.t1, .int .i64 g.t2, .int .i64 g.p0, .int .i64 g.p1, .int .i64 g.p2, .int .i64 g.m0, .int .i64 g.m1, .int .i64 g.m2, .int .i64 g.m3] 51)).alloc (.cells #[.int .i64 v.day, .int .i64 v.kind, .int .i64 v.tilt, .int .i64 v.push] 156))) := below_step (below_alloc _ _) (below_alloc _ _)
  by_cases hk : v.kind = 0
  · have kb : (v.kind == 0) = true := by simpa using hk
    have hfin := Lib.hid (gr3_eq (g := g) hk)
    clear hk
    go_enter Tryz.func157, Tryz.ntmps157
    go_wp2_with fail
    go_loopw [5, 6] (fun o i wr => ∃ n : Nat, ((i = .int .i64 0 ∧ o = .int .i64 0) ∨ (i = .int .i64 1 ∧ ∃ x, o = .int .i64 x ∧ Hid (gr1 g v = x)) ∨ (i = .int .i64 2 ∧ ∃ x, o = .int .i64 x ∧ Hid (gr2 g v = x)) ∨ (i = .int .i64 3 ∧ ∃ x, o = .int .i64 x ∧ Hid (gr3 g v = x))) ∧ wr = World.drewN ((w.alloc (.cells #[.int .i64 g.t0, .int .i64 g.t1, .int .i64 g.t2, .int .i64 g.p0, .int .i64 g.p1, .int .i64 g.p2, .int .i64 g.m0, .int .i64 g.m1, .int .i64 g.m2, .int .i64 g.m3] 51)).alloc (.cells #[.int .i64 v.day, .int .i64 v.kind, .int .i64 v.tilt, .int .i64 v.push] 156)) n) (fun _ i _ => (3 - intOf i).toNat)
    case atStart => exact ⟨0, .inl ⟨rfl, rfl⟩, rfl⟩
    case round =>
      obtain ⟨n, hi, rfl⟩ := hrel
      rcases hi with ⟨rfl, rfl⟩ | ⟨rfl, x, rfl, n1⟩ | ⟨rfl, x, rfl, n2⟩ | ⟨rfl, x, rfl, n3⟩
      · by_cases ht : g.t0 ≤ v.tilt
        · have hd : decide (g.t0 ≤ v.tilt) = true := by simpa using ht
          have hnx : Hid (gr1 g v = 1) := if_pos (.inl ht)
          clear ht
          go_wp2_with fail
          go_quiet (fail)
          go_wp2_with fail
          go_roundw
          case rel => exact ⟨_, .inr (.inl ⟨rfl, _, rfl, hnx⟩), rfl⟩
          case measure => simp [intOf]
        · have hd : decide (g.t0 ≤ v.tilt) = false := by simpa using ht
          by_cases hp : v.push ≤ g.p0
          · have hd2 : decide (v.push ≤ g.p0) = true := by simpa using hp
            have hnx : Hid (gr1 g v = 1) := if_pos (.inr hp)
            clear ht hp
            go_wp2_with fail
            go_quiet (fail)
            go_wp2_with fail
            go_roundw
            case rel => exact ⟨_, .inr (.inl ⟨rfl, _, rfl, hnx⟩), rfl⟩
            case measure => simp [intOf]
          · have hd2 : decide (v.push ≤ g.p0) = false := by simpa using hp
            have hnx : Hid (gr1 g v = 0) := if_neg (fun h => h.elim ht hp)
            clear ht hp
            go_wp2_with fail
            go_quiet (fail)
            go_wp2_with fail
            go_roundw
            case rel => exact ⟨_, .inr (.inl ⟨rfl, _, rfl, hnx⟩), rfl⟩
            case measure => simp [intOf]
      · by_cases ht : g.t1 ≤ v.tilt
        · have hd : decide (g.t1 ≤ v.tilt) = true := by simpa using ht
          have hnx : Hid (gr2 g v = 2) := if_pos (.inl ht)
          clear ht
          go_wp2_with fail
          go_quiet (fail)
          go_wp2_with fail
          go_roundw
          case rel => exact ⟨_, .inr (.inr (.inl ⟨rfl, _, rfl, by first | exact hnx | exact hnx.out.trans n1.out⟩)), rfl⟩
          case measure => simp [intOf]
        · have hd : decide (g.t1 ≤ v.tilt) = false := by simpa using ht
          by_cases hp : v.push ≤ g.p1
          · have hd2 : decide (v.push ≤ g.p1) = true := by simpa using hp
            have hnx : Hid (gr2 g v = 2) := if_pos (.inr hp)
            clear ht hp
            go_wp2_with fail
            go_quiet (fail)
            go_wp2_with fail
            go_roundw
            case rel => exact ⟨_, .inr (.inr (.inl ⟨rfl, _, rfl, by first | exact hnx | exact hnx.out.trans n1.out⟩)), rfl⟩
            case measure => simp [intOf]
          · have hd2 : decide (v.push ≤ g.p1) = false := by simpa using hp
            have hnx : Hid (gr2 g v = gr1 g v) := if_neg (fun h => h.elim ht hp)
            clear ht hp
            go_wp2_with fail
            go_quiet (fail)
            go_wp2_with fail
            go_roundw
            case rel => exact ⟨_, .inr (.inr (.inl ⟨rfl, _, rfl, by first | exact hnx | exact hnx.out.trans n1.out⟩)), rfl⟩
            case measure => simp [intOf]
      · by_cases ht : g.t2 ≤ v.tilt
        · have hd : decide (g.t2 ≤ v.tilt) = true := by simpa using ht
          have hnx : Hid (gr3 g v = 3) := if_pos (.inl ht)
          clear ht
          go_wp2_with fail
          go_quiet (fail)
          go_wp2_with fail
          go_roundw
          case rel => exact ⟨_, .inr (.inr (.inr ⟨rfl, _, rfl, by first | exact hnx | exact hnx.out.trans n2.out⟩)), rfl⟩
          case measure => simp [intOf]
        · have hd : decide (g.t2 ≤ v.tilt) = false := by simpa using ht
          by_cases hp : v.push ≤ g.p2
          · have hd2 : decide (v.push ≤ g.p2) = true := by simpa using hp
            have hnx : Hid (gr3 g v = 3) := if_pos (.inr hp)
            clear ht hp
            go_wp2_with fail
            go_quiet (fail)
            go_wp2_with fail
            go_roundw
            case rel => exact ⟨_, .inr (.inr (.inr ⟨rfl, _, rfl, by first | exact hnx | exact hnx.out.trans n2.out⟩)), rfl⟩
            case measure => simp [intOf]
          · have hd2 : decide (v.push ≤ g.p2) = false := by simpa using hp
            have hnx : Hid (gr3 g v = gr2 g v) := if_neg (fun h => h.elim ht hp)
            clear ht hp
            go_wp2_with fail
            go_quiet (fail)
            go_wp2_with fail
            go_roundw
            case rel => exact ⟨_, .inr (.inr (.inr ⟨rfl, _, rfl, by first | exact hnx | exact hnx.out.trans n2.out⟩)), rfl⟩
            case measure => simp [intOf]
      · go_wp2_with fail
        go_ret
        exact ⟨ret_int (hfin.out.trans n3.out).symm, below_drewN hb.out _⟩
  · have hfin : Hid (Cal.gradeS g v = 0) := by show _ = _; unfold Cal.gradeS; rw [if_neg hk]
    have kb : (v.kind == 0) = false := by simpa using hk
    clear hk
    go_enter Tryz.func157, Tryz.ntmps157
    go_wp2_with fail
    go_loopw [5, 6] (fun o i wr => o = .int .i64 0 ∧ i = .int .i64 0 ∧ wr = ((w.alloc (.cells #[.int .i64 g.t0, .int .i64 g.t1, .int .i64 g.t2, .int .i64 g.p0, .int .i64 g.p1, .int .i64 g.p2, .int .i64 g.m0, .int .i64 g.m1, .int .i64 g.m2, .int .i64 g.m3] 51)).alloc (.cells #[.int .i64 v.day, .int .i64 v.kind, .int .i64 v.tilt, .int .i64 v.push] 156))) (fun _ _ _ => 0)
    case atStart => exact ⟨rfl, rfl, rfl⟩
    case round =>
      obtain ⟨rfl, rfl, rfl⟩ := hrel
      go_wp2_with fail
      go_ret
      exact ⟨ret_int hfin.out.symm, hb.out⟩
end Go.Proofs.YtbinoelbjlgjkaaGreatDoor
namespace Go.Proofs.YtbinoelbjlgjkaaGreatDoor
open Go Go.RowKit
theorem Cal.visErr_day {v : Vis} (h : Cal.visErr v = 0) : 0 ≤ v.day := by
  unfold Cal.visErr at h
  split at h
  · rename_i h1; exact h1.1.1
  · omega
theorem Cal.visitsErr_cons (day : Int) (v : Vis) (l : List Vis) : Cal.visitsErr day (v :: l) = if Cal.visErr v = 0 then (if v.day < day then 9 else Cal.visitsErr v.day l) else Cal.visErr v := rfl
def PrevV (l : List Vis) (k : Nat) (e0 : Int) : Prop := (k = 0 ∧ e0 = 0) ∨ (0 < k ∧ ∃ q, l[k - 1]? = some q ∧ q.day = e0)
set_option maxRecDepth 100000 in
set_option maxHeartbeats 4000000 in
theorem CheckMonumentR_any (V : Option Addr) (d : Nat) (m : Mon) (w : World) (hM : MB w V m) :
    Calls Tryz.prog 93 #[.agg #[.string m.name, .string m.place, .slice V m.visits.length d]] w fun e w' => e = .returned (.int .i64 (Cal.monErr m)) ∧ Below w.heap.size w w' := by
  have hsz := hM.vis.size
  have hM := Lib.hid hM
  obtain ⟨b1, q1⟩ : ∃ b, nameB m.name = b := ⟨_, rfl⟩
  obtain ⟨b2, q2⟩ : ∃ b, nameB m.place = b := ⟨_, rfl⟩
  cases b1
  · have hfin : Hid (Cal.monErr m = 4) := by show _ = _; unfold Cal.monErr; rw [if_neg (fun h => by rw [q1] at h; exact absurd h.1 (by decide))]
    have q1 := Lib.hid q1
    have q2 := Lib.hid q2
    have h1 := Lib.hid (BoxAt.new w #[.string m.name, .string m.place, .slice V m.visits.length d] 56)
    have hb := Lib.hid (below_alloc w (.cells #[.string m.name, .string m.place, .slice V m.visits.length d] 56))
    have c0 := h1.out.c 0 _ rfl
    have c1 := h1.out.c 1 _ rfl
    have c2 := h1.out.c 2 _ rfl
    go_enter Tryz.func93, Tryz.ntmps93
    go_wp2_with (first | (go_at_call_of 117 (Value.string m.name); refine (IsName_any m.name _ hM.out.name).mono ?_; rintro e w' ⟨rfl, rfl⟩; rw [q1.out]) | (go_at_call_of 117 (Value.string m.place); refine (IsName_any m.place _ hM.out.place).mono ?_; rintro e w' ⟨rfl, rfl⟩; rw [q2.out]))
    go_ret
    exact ⟨ret_int hfin.out.symm, hb.out⟩
  cases b2
  · have hfin : Hid (Cal.monErr m = 4) := by show _ = _; unfold Cal.monErr; rw [if_neg (fun h => by rw [q2] at h; exact absurd h.2 (by decide))]
    have q1 := Lib.hid q1
    have q2 := Lib.hid q2
    have h1 := Lib.hid (BoxAt.new w #[.string m.name, .string m.place, .slice V m.visits.length d] 56)
    have hb := Lib.hid (below_alloc w (.cells #[.string m.name, .string m.place, .slice V m.visits.length d] 56))
    have c0 := h1.out.c 0 _ rfl
    have c1 := h1.out.c 1 _ rfl
    have c2 := h1.out.c 2 _ rfl
    go_enter Tryz.func93, Tryz.ntmps93
    go_wp2_with (first | (go_at_call_of 117 (Value.string m.name); refine (IsName_any m.name _ hM.out.name).mono ?_; rintro e w' ⟨rfl, rfl⟩; rw [q1.out]) | (go_at_call_of 117 (Value.string m.place); refine (IsName_any m.place _ hM.out.place).mono ?_; rintro e w' ⟨rfl, rfl⟩; rw [q2.out]))
    go_ret
    exact ⟨ret_int hfin.out.symm, hb.out⟩
  by_cases hlen : m.visits.length ≤ 40
  · have hfin : Hid (Cal.monErr m = Cal.visitsErr 0 m.visits) := by show _ = _; unfold Cal.monErr; rw [if_pos ⟨q1, q2⟩, if_pos hlen]
    have q1 := Lib.hid q1
    have q2 := Lib.hid q2
    have h1 := Lib.hid (BoxAt.new w #[.string m.name, .string m.place, .slice V m.visits.length d] 56)
    have hb := Lib.hid (below_alloc w (.cells #[.string m.name, .string m.place, .slice V m.visits.length d] 56))
    have c0 := h1.out.c 0 _ rfl
    have c1 := h1.out.c 1 _ rfl
    have c2 := h1.out.c 2 _ rfl
    go_enter Tryz.func93, Tryz.ntmps93
    go_wp2_with (first | (go_at_call_of 117 (Value.string m.name); refine (IsName_any m.name _ hM.out.name).mono ?_; rintro e w' ⟨rfl, rfl⟩; rw [q1.out]) | (go_at_call_of 117 (Value.string m.place); refine (IsName_any m.place _ hM.out.place).mono ?_; rintro e w' ⟨rfl, rfl⟩; rw [q2.out]))
    clear c0 c1 c2
    go_loopw [3] (fun i wr => ∃ (k : Nat) (day : Int), k ≤ m.visits.length ∧ i = .int .i64 k ∧ Hid (PrevV m.visits k day) ∧ Hid (Cal.visitsErr 0 m.visits = Cal.visitsErr day (m.visits.drop k)) ∧ Hid (BoxAt wr w.heap.size [.string m.name, .string m.place, .slice V m.visits.length d]) ∧ Hid (Below w.heap.size w wr)) (fun i _ => m.visits.length - (intOf i).toNat)
    case atStart => exact ⟨0, 0, Nat.zero_le _, rfl, .inl ⟨rfl, rfl⟩, rfl, h1, hb⟩
    case round =>
      clear hb h1
      obtain ⟨k, day, hk, rfl, hprev, hE, h1, hb⟩ := hrel
      have c2 := h1.out.c 2 _ rfl
      by_cases hlt : k < m.visits.length
      · have hk' : m.visits[k]? = some m.visits[k] := List.getElem?_eq_getElem hlt
        have hk2 := Lib.hid hk'
        have hd := List.drop_eq_getElem_cons hlt
        obtain ⟨b, o, rfl, hbl, e0, e1, e2, e3⟩ := (hM.out.vis.below hb.out).at_ hk'
        have hE0 := hE.out
        rw [hd, Cal.visitsErr_cons] at hE0
        clear hk' hd hE
        generalize m.visits[k] = v at *
        by_cases hv : Cal.visErr v = 0
        · have hvz := Lib.hid hv
          have hd0 := Cal.visErr_day hv
          rw [if_pos hv] at hE0
          by_cases hk0 : k = 0
          · subst hk0
            have hday : day = 0 := by rcases hprev.out with ⟨_, h⟩ | ⟨h, _⟩ <;> omega
            rw [if_neg (by omega)] at hE0
            have hE1 := Lib.hid hE0
            simp only [Nat.zero_mul, Nat.add_zero] at e0 e1 e2 e3
            clear hE0 hv hday
            go_wp2_with fail
            refine (VisitErrR_any v _).mono ?_
            rintro e w4 ⟨rfl, hbn⟩
            rw [hvz.out]
            have g1 := Lib.hid (h1.out.below hbn)
            have hb := Lib.hid (below_step hb.out hbn)
            clear c2
            have c2 := g1.out.c 2 _ rfl
            have e0 := (hbn.cell (p := ⟨b, _, none⟩) hbl).trans e0
            go_wp2_with fail
            go_quiet (fail)
            go_wp2_with fail
            go_roundw
            case rel => exact ⟨1, v.day, by omega, rfl, .inr ⟨by omega, v, hk2.out, rfl⟩, hE1, Lib.hid (g1.out.below (below_drewN (Below.refl _ _) _)), Lib.hid (below_drewN hb.out _)⟩
            case measure => simp [intOf]; omega
          · have hk1 : 0 < k := by omega
            obtain ⟨q, hq1, hq2⟩ : ∃ q, m.visits[k - 1]? = some q ∧ q.day = day := by
              rcases hprev.out with ⟨h, _⟩ | ⟨_, h⟩
              · omega
              · exact h
            subst hq2
            obtain ⟨b', o', hA', hbl', d0, d1, d2, d3⟩ := (hM.out.vis.below hb.out).at_ hq1
            simp only [Option.some.injEq, Addr.mk.injEq, and_true] at hA'
            obtain ⟨rfl, rfl⟩ := hA'
            clear d1 d2 d3 hq1 hk0
            have hix : ((k : Int) - 1).toNat = k - 1 := by omega
            by_cases hday : v.day < q.day
            · have hf2 : Hid (Cal.monErr m = 9) := by show _ = _; rw [hfin.out, hE0, if_pos hday]
              have hdb : decide (v.day < q.day) = true := by simpa using hday
              clear hE0 hv hday
              go_wp2_with fail
              refine (VisitErrR_any v _).mono ?_
              rintro e w4 ⟨rfl, hbn⟩
              rw [hvz.out]
              have g1 := Lib.hid (h1.out.below hbn)
              have hb := Lib.hid (below_step hb.out hbn)
              clear c2
              have c2 := g1.out.c 2 _ rfl
              have e0 := (hbn.cell (p := ⟨b, _, none⟩) hbl).trans e0
              have d0 := (hbn.cell (p := ⟨b, _, none⟩) hbl).trans d0
              go_wp2_with fail
              go_quiet (fail)
              go_wp2_with fail
              go_ret
              exact ⟨ret_int hf2.out.symm, below_drewN hb.out _⟩
            · rw [if_neg hday] at hE0
              have hE1 := Lib.hid hE0
              have hdb : decide (v.day < q.day) = false := by simpa using hday
              clear hE0 hv hday
              go_wp2_with fail
              refine (VisitErrR_any v _).mono ?_
              rintro e w4 ⟨rfl, hbn⟩
              rw [hvz.out]
              have g1 := Lib.hid (h1.out.below hbn)
              have hb := Lib.hid (below_step hb.out hbn)
              clear c2
              have c2 := g1.out.c 2 _ rfl
              have e0 := (hbn.cell (p := ⟨b, _, none⟩) hbl).trans e0
              have d0 := (hbn.cell (p := ⟨b, _, none⟩) hbl).trans d0
              go_wp2_with fail
              go_quiet (fail)
              go_wp2_with fail
              go_roundw
              case rel => exact ⟨k + 1, v.day, by omega, by go_num, .inr ⟨by omega, v, hk2.out, rfl⟩, hE1, Lib.hid (g1.out.below (below_drewN (Below.refl _ _) _)), Lib.hid (below_drewN hb.out _)⟩
              case measure => simp [intOf]; omega
        · rw [if_neg hv] at hE0
          obtain ⟨F, hF⟩ : ∃ F, Cal.visErr v = F := ⟨_, rfl⟩
          have hf2 : Hid (Cal.monErr m = F) := by show _ = _; rw [hfin.out, hE0, hF]
          have hFb : (F != 0) = true := by rw [← hF]; simpa using hv
          have hFz := Lib.hid hF
          clear hE0 hv hF
          go_wp2_with fail
          refine (VisitErrR_any v _).mono ?_
          rintro e w4 ⟨rfl, hbn⟩
          rw [hFz.out]
          have g1 := Lib.hid (h1.out.below hbn)
          have hb := Lib.hid (below_step hb.out hbn)
          clear c2
          have c2 := g1.out.c 2 _ rfl
          have e0 := (hbn.cell (p := ⟨b, _, none⟩) hbl).trans e0
          go_wp2_with fail
          go_ret
          exact ⟨ret_int hf2.out.symm, hb.out⟩
      · have hge : m.visits.length = k := by omega
        have hf2 : Hid (Cal.monErr m = 0) := by show _ = _; rw [hfin.out, hE.out, List.drop_eq_nil_of_le (by omega)]; rfl
        clear hE
        go_wp2_with fail
        go_ret
        exact ⟨ret_int hf2.out.symm, hb.out⟩
  · have hfin : Hid (Cal.monErr m = 8) := by show _ = _; unfold Cal.monErr; rw [if_pos ⟨q1, q2⟩, if_neg hlen]
    have q1 := Lib.hid q1
    have q2 := Lib.hid q2
    have hlen' : 40 < m.visits.length := by omega
    clear hlen
    have h1 := Lib.hid (BoxAt.new w #[.string m.name, .string m.place, .slice V m.visits.length d] 56)
    have hb := Lib.hid (below_alloc w (.cells #[.string m.name, .string m.place, .slice V m.visits.length d] 56))
    have c0 := h1.out.c 0 _ rfl
    have c1 := h1.out.c 1 _ rfl
    have c2 := h1.out.c 2 _ rfl
    go_enter Tryz.func93, Tryz.ntmps93
    go_wp2_with (first | (go_at_call_of 117 (Value.string m.name); refine (IsName_any m.name _ hM.out.name).mono ?_; rintro e w' ⟨rfl, rfl⟩; rw [q1.out]) | (go_at_call_of 117 (Value.string m.place); refine (IsName_any m.place _ hM.out.place).mono ?_; rintro e w' ⟨rfl, rfl⟩; rw [q2.out]))
    go_ret
    exact ⟨ret_int hfin.out.symm, hb.out⟩
end Go.Proofs.YtbinoelbjlgjkaaGreatDoor
