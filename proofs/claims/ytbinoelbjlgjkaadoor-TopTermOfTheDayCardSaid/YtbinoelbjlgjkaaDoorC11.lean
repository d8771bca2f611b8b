/- Chapter 8 and what it rests on: definitions and walks, part 11. -/
import Derived.Test.YtbinoelbjlgjkaaDoorC10
import Derived.Deep.MidRow
namespace Go.Proofs.YtbinoelbjlgjkaaDoor
open Go Go.RowKit
structure Per where
  m : Int
  d : Int
  k : Bool
structure Proc where
  runs : Per
  obj : Per
  wait : Per
  exts : Int
  longest : Int
  hols : List Hol
structure NAct where
  day : Int
  kind : Int
  days : Int
/-- A notice behind some acts. -/
structure NSt where
  phase : Int
  last : Int
  deadline : Int
  object : Int
  objected : Int
  extended : Int
def Per.err (x : Per) : Int := Cal.perE x.m x.d x.k
/-- The error of a procedure. -/
def Cal.procErr (p : Proc) : Int :=
  if p.runs.err = 0 then (if p.obj.err = 0 then (if p.wait.err = 0 then
    (if 0 ≤ p.exts ∧ p.exts ≤ 12 ∧ 0 ≤ p.longest ∧ p.longest ≤ 3660 then Cal.holsErr p.hols else 2) else p.wait.err) else p.obj.err) else p.runs.err
theorem Cal.procErr_ok {p : Proc} (h : Cal.procErr p = 0) : p.runs.err = 0 ∧ p.obj.err = 0 ∧ p.wait.err = 0 ∧ 0 ≤ p.exts ∧ p.exts ≤ 12 ∧ 0 ≤ p.longest ∧ p.longest ≤ 3660 ∧ Cal.holsErr p.hols = 0 := by
  unfold Cal.procErr at h
  split at h
  · split at h
    · split at h
      · split at h
        · rename_i h1 h2 h3 h4; exact ⟨h1, h2, h3, h4.1, h4.2.1, h4.2.2.1, h4.2.2.2, h⟩
        · omega
      · rename_i h1; exact absurd h h1
    · rename_i h1; exact absurd h h1
  · rename_i h1; exact absurd h h1
/-- The error of an act alone. -/
def Cal.formErr (p : Proc) (a : NAct) : Int :=
  if 0 ≤ a.day ∧ a.day ≤ 200000 then (if 0 ≤ a.kind ∧ a.kind ≤ 7 then (if a.kind = 6 then (if 1 ≤ a.days ∧ a.days ≤ p.longest then 0 else 2) else if a.days = 0 then 0 else 3) else 15) else 2
/-- Whether a kind of act is accepted in a phase. -/
def Cal.accB (phase kind : Int) : Bool :=
  if kind = 0 then decide (phase = 0) else if kind = 2 then decide (phase = 2) else if kind = 4 ∨ kind = 5 then decide (phase = 3)
  else if kind = 7 then decide (phase = 1 ∨ phase = 2 ∨ phase = 3) else decide (phase = 1)
/-- The error of an act, but for the days that it leads to. -/
def Cal.mayErr (p : Proc) (s : NSt) (a : NAct) : Int :=
  if Cal.formErr p a = 0 then
    (if a.day < s.last then 9 else if Cal.accB s.phase a.kind = true then
      (if s.phase = 1 ∧ s.deadline < a.day then 21 else if a.kind = 3 ∧ min s.object s.deadline < a.day then 21 else if a.kind = 6 ∧ p.exts ≤ s.extended then 16 else 0)
     else 28)
  else Cal.formErr p a
/-- The state behind an act that is accepted, and the error. -/
def Cal.doneS (p : Proc) (s : NSt) (a : NAct) : NSt × Int :=
  if a.kind = 0 ∨ a.kind = 2 then
    ({ s with last := a.day, phase := 1, deadline := (Cal.dlS p.hols a.day p.runs.m p.runs.d p.runs.k).1, object := (Cal.dlS p.hols a.day p.obj.m p.obj.d p.obj.k).1 },
     if (Cal.dlS p.hols a.day p.runs.m p.runs.d p.runs.k).2 = 0 ∧ (Cal.dlS p.hols a.day p.obj.m p.obj.d p.obj.k).2 = 0 then 0 else 2)
  else if a.kind = 1 then ({ s with last := a.day, phase := 2 }, 0)
  else if a.kind = 3 then ({ s with last := a.day, phase := 3, objected := a.day }, 0)
  else if a.kind = 4 then ({ s with last := a.day, phase := 1, deadline := (Cal.addWorkingS p.hols (s.deadline + (a.day - s.objected)) 0).1 }, (Cal.addWorkingS p.hols (s.deadline + (a.day - s.objected)) 0).2)
  else if a.kind = 6 then ({ s with last := a.day, extended := s.extended + 1, deadline := (Cal.addWorkingS p.hols (s.deadline + a.days) 0).1 }, (Cal.addWorkingS p.hols (s.deadline + a.days) 0).2)
  else if a.kind = 5 then ({ s with last := a.day, phase := 5 }, 0)
  else ({ s with last := a.day, phase := 4 }, 0)
def Cal.actS (p : Proc) (s : NSt) (a : NAct) : NSt × Int := if Cal.mayErr p s a = 0 then Cal.doneS p s a else (s, Cal.mayErr p s a)
def Cal.openSt (opened : Int) : NSt := ⟨0, opened, 0, 0, 0, 0⟩
/-- Behind acts: the state, and the number and the error of the first one that is refused. -/
def Cal.runS (p : Proc) : List NAct → NSt → Nat → NSt × Nat × Int
  | [], s, _ => (s, 0, 0)
  | a :: l, s, i => if (Cal.actS p s a).2 = 0 then Cal.runS p l (Cal.actS p s a).1 (i + 1) else (s, i, (Cal.actS p s a).2)
/-- The state behind the acts up to a day. -/
def Cal.toldS (p : Proc) (day : Int) : List NAct → NSt → NSt → NSt
  | [], _, t => t
  | a :: l, s, t => Cal.toldS p day l (Cal.actS p s a).1 (if a.day ≤ day then (Cal.actS p s a).1 else t)
/-- The state behind the acts up to a day, as the reference counts them. -/
def Cal.atS (p : Proc) (day : Int) : List NAct → NSt → NSt
  | [], s => s
  | a :: l, s => if a.day ≤ day then Cal.atS p day l (Cal.actS p s a).1 else s
theorem Cal.runS_cons {p : Proc} {a : NAct} {l : List NAct} {s : NSt} {i : Nat} : (Cal.runS p (a :: l) s i).2.2 = 0 ↔ (Cal.actS p s a).2 = 0 ∧ (Cal.runS p l (Cal.actS p s a).1 (i + 1)).2.2 = 0 := by
  conv => lhs; unfold Cal.runS
  by_cases h : (Cal.actS p s a).2 = 0
  · rw [if_pos h]; exact ⟨fun h2 => ⟨h, h2⟩, fun h2 => h2.2⟩
  · rw [if_neg h]; exact ⟨fun h2 => absurd h2 h, fun h2 => absurd h2.1 h⟩
theorem Cal.mayErr_ok {p : Proc} {s : NSt} {a : NAct} (h : Cal.mayErr p s a = 0) : Cal.formErr p a = 0 ∧ s.last ≤ a.day ∧ Cal.accB s.phase a.kind = true ∧ ¬ (s.phase = 1 ∧ s.deadline < a.day) ∧ ¬ (a.kind = 3 ∧ min s.object s.deadline < a.day) ∧ ¬ (a.kind = 6 ∧ p.exts ≤ s.extended) := by
  unfold Cal.mayErr at h
  split at h
  · rename_i h0
    split at h
    · omega
    · rename_i h1
      split at h
      · rename_i h2
        split at h
        · omega
        · rename_i h3
          split at h
          · omega
          · rename_i h4
            split at h
            · omega
            · rename_i h5; exact ⟨h0, by omega, h2, h3, h4, h5⟩
      · omega
  · rename_i h0; exact absurd h h0
theorem Cal.formErr_ok {p : Proc} {a : NAct} (h : Cal.formErr p a = 0) : 0 ≤ a.day ∧ a.day ≤ 200000 ∧ 0 ≤ a.kind ∧ a.kind ≤ 7 ∧ (a.kind = 6 → 1 ≤ a.days ∧ a.days ≤ p.longest) ∧ (a.kind ≠ 6 → a.days = 0) := by
  unfold Cal.formErr at h
  split at h
  · rename_i h0
    split at h
    · rename_i h1
      split at h
      · rename_i h2
        split at h
        · rename_i h3; exact ⟨h0.1, h0.2, h1.1, h1.2, fun _ => h3, fun h => absurd h2 h⟩
        · omega
      · rename_i h2
        split at h
        · rename_i h3; exact ⟨h0.1, h0.2, h1.1, h1.2, fun h => absurd h h2, fun _ => h3⟩
        · omega
    · omega
  · omega
theorem Cal.doneS_last (p : Proc) (s : NSt) (a : NAct) : (Cal.doneS p s a).1.last = a.day := by
  unfold Cal.doneS
  repeat (first | rfl | split)
theorem Cal.actS_ok {p : Proc} {s : NSt} {a : NAct} (h : (Cal.actS p s a).2 = 0) : Cal.mayErr p s a = 0 ∧ Cal.actS p s a = Cal.doneS p s a := by
  unfold Cal.actS at h ⊢
  by_cases h0 : Cal.mayErr p s a = 0
  · exact ⟨h0, if_pos h0⟩
  · rw [if_neg h0] at h; exact absurd h h0
theorem Cal.actS_last {p : Proc} {s : NSt} {a : NAct} (h : (Cal.actS p s a).2 = 0) : (Cal.actS p s a).1.last = a.day ∧ s.last ≤ a.day := by
  obtain ⟨h1, h2⟩ := Cal.actS_ok h
  exact ⟨by rw [h2, Cal.doneS_last], (Cal.mayErr_ok h1).2.1⟩
theorem Cal.told_late {p : Proc} {day : Int} : ∀ {l : List NAct} {s t : NSt} {i : Nat}, (Cal.runS p l s i).2.2 = 0 → day < s.last → Cal.toldS p day l s t = t
  | [], _, _, _, _, _ => rfl
  | a :: l, s, t, i, h, hd => by
    obtain ⟨h1, h2⟩ := Cal.runS_cons.1 h
    have hl := Cal.actS_last h1
    unfold Cal.toldS
    rw [if_neg (by omega)]
    exact Cal.told_late h2 (by omega)
theorem Cal.told_at {p : Proc} {day : Int} : ∀ {l : List NAct} {s : NSt} {i : Nat}, (Cal.runS p l s i).2.2 = 0 → Cal.toldS p day l s s = Cal.atS p day l s
  | [], _, _, _ => rfl
  | a :: l, s, i, h => by
    obtain ⟨h1, h2⟩ := Cal.runS_cons.1 h
    have hl := Cal.actS_last h1
    unfold Cal.toldS Cal.atS
    by_cases hd : a.day ≤ day
    · rw [if_pos hd, if_pos hd]; exact Cal.told_at h2
    · rw [if_neg hd, if_neg hd]; exact Cal.told_late h2 (by omega)
/-- A notice. -/
structure Note where
  name : ByteArray
  opened : Int
  acts : List NAct
/-- The number of the act that is wrong, and the error, of a notice alone. -/
def Cal.noteS (p : Proc) (n : Note) : Int × Int :=
  if nameB n.name = true then (if 0 ≤ n.opened ∧ n.opened ≤ 200000 then (if n.acts.length ≤ 40 then
    (((Cal.runS p n.acts (Cal.openSt n.opened) 0).2.1 : Int), (Cal.runS p n.acts (Cal.openSt n.opened) 0).2.2) else (0, 8)) else (0, 2)) else (0, 4)
/-- The same of a procedure and a notice. -/
def Cal.checkS (p : Proc) (n : Note) : Int × Int := if Cal.procErr p = 0 then Cal.noteS p n else (0, Cal.procErr p)
/-- The error of asking on a day. -/
def Cal.onE (p : Proc) (n : Note) (day : Int) : Int :=
  if (Cal.checkS p n).2 = 0 then (if 0 ≤ day ∧ day ≤ 200000 then (if day < n.opened then 22 else 0) else 2) else (Cal.checkS p n).2
def Cal.zeroSt : NSt := ⟨0, 0, 0, 0, 0, 0⟩
def Cal.stAt (p : Proc) (n : Note) (day : Int) : NSt := Cal.atS p day n.acts (Cal.openSt n.opened)
def Cal.phaseS (p : Proc) (n : Note) (day : Int) : Int × Int :=
  if Cal.onE p n day = 0 then (if (Cal.stAt p n day).phase = 1 ∧ (Cal.stAt p n day).deadline < day then (6, 0) else ((Cal.stAt p n day).phase, 0)) else (0, Cal.onE p n day)
def Cal.dlAtS (p : Proc) (n : Note) (day : Int) : Int × Int :=
  if Cal.onE p n day = 0 then (if (Cal.stAt p n day).phase = 1 then ((Cal.stAt p n day).deadline, 0) else (0, 12)) else (0, Cal.onE p n day)
def Cal.objS (p : Proc) (n : Note) (day : Int) : Int × Int :=
  if Cal.onE p n day = 0 then (if (Cal.stAt p n day).phase = 1 then (min (Cal.stAt p n day).object (Cal.stAt p n day).deadline, 0) else (0, 12)) else (0, Cal.onE p n day)
/-- The day from which a notice may be acted on, and the error. -/
def Cal.expS (p : Proc) (n : Note) : Int × Int :=
  if (Cal.checkS p n).2 = 0 then (if (Cal.stAt p n 200000).phase = 1 then
    (if (Cal.dlS p.hols (Cal.stAt p n 200000).deadline p.wait.m p.wait.d p.wait.k).2 = 0 ∧ (Cal.dlS p.hols (Cal.stAt p n 200000).deadline p.wait.m p.wait.d p.wait.k).1 < 200000
     then ((Cal.dlS p.hols (Cal.stAt p n 200000).deadline p.wait.m p.wait.d p.wait.k).1 + 1, 0) else (0, 2)) else (0, 28)) else (0, (Cal.checkS p n).2)
/-! Bounds. -/
theorem Cal.addFrom_day {l : List Hol} {step : Int} : ∀ (f : Nat) (d left x : Int), Cal.addFrom l step f d left = some x → 0 ≤ x ∧ x ≤ 200000
  | 0, _, _, _, h => by cases h
  | f + 1, d, left, x, h => by
    unfold Cal.addFrom at h
    split at h
    · rename_i hd
      split at h
      · split at h
        · cases h; exact ⟨hd.1, hd.2⟩
        · exact Cal.addFrom_day f _ _ _ h
      · exact Cal.addFrom_day f _ _ _ h
    · cases h
theorem Cal.addW_day {l : List Hol} {day n x : Int} (h : Cal.addW l day n = some x) : 0 ≤ x ∧ x ≤ 200000 := by
  unfold Cal.addW at h
  split at h
  · exact Cal.addFrom_day _ _ _ _ h
  · split at h
    · exact Cal.addFrom_day _ _ _ _ h
    · exact Cal.addFrom_day _ _ _ _ h
theorem Cal.dlFrom_day {l : List Hol} {day m d x : Int} {k : Bool} (h : Cal.dlFrom l day m d k = some x) : 0 ≤ x ∧ x ≤ 200000 := by
  unfold Cal.dlFrom at h
  split at h
  · split at h
    · exact Cal.addW_day h
    · split at h
      · exact Cal.addW_day h
      · cases h
  · cases h
theorem Cal.dlS_day (l : List Hol) (day m d : Int) (k : Bool) : 0 ≤ (Cal.dlS l day m d k).1 ∧ (Cal.dlS l day m d k).1 ≤ 200000 := by
  unfold Cal.dlS
  split
  · split
    · split
      · split
        · rename_i h; exact Cal.dlFrom_day h
        · simp
      · simp
    · simp
  · simp
theorem Cal.addWorkingS_day (l : List Hol) (day n : Int) : 0 ≤ (Cal.addWorkingS l day n).1 ∧ (Cal.addWorkingS l day n).1 ≤ 200000 := by
  unfold Cal.addWorkingS
  split
  · split
    · split
      · rename_i h; exact Cal.addW_day h
      · simp
    · simp
  · simp
/-- What a state keeps. -/
structure StOk (s : NSt) : Prop where
  p0 : 0 ≤ s.phase
  p1 : s.phase ≤ 6
  l0 : 0 ≤ s.last
  l1 : s.last ≤ 200000
  d0 : 0 ≤ s.deadline
  d1 : s.deadline ≤ 200000
  o0 : 0 ≤ s.object
  o1 : s.object ≤ 200000
  j0 : 0 ≤ s.objected
  j1 : s.objected ≤ 200000
  x0 : 0 ≤ s.extended
  x1 : s.extended ≤ 12
theorem StOk.openSt {d : Int} (h0 : 0 ≤ d) (h1 : d ≤ 200000) : StOk (Cal.openSt d) := ⟨by simp [Cal.openSt], by simp [Cal.openSt], h0, h1, by simp [Cal.openSt], by simp [Cal.openSt], by simp [Cal.openSt], by simp [Cal.openSt], by simp [Cal.openSt], by simp [Cal.openSt], by simp [Cal.openSt], by simp [Cal.openSt]⟩
theorem StOk.act {p : Proc} {s : NSt} {a : NAct} (hs : StOk s) (he : p.exts ≤ 12) (h : (Cal.actS p s a).2 = 0) : StOk (Cal.actS p s a).1 := by
  obtain ⟨h1, h2⟩ := Cal.actS_ok h
  obtain ⟨hf, _, _, _, _, hx⟩ := Cal.mayErr_ok h1
  obtain ⟨a0, a1, k0, k1, _, _⟩ := Cal.formErr_ok hf
  rw [h2]
  have q1 := Cal.dlS_day p.hols a.day p.runs.m p.runs.d p.runs.k
  have q2 := Cal.dlS_day p.hols a.day p.obj.m p.obj.d p.obj.k
  have q3 := Cal.addWorkingS_day p.hols (s.deadline + (a.day - s.objected)) 0
  have q4 := Cal.addWorkingS_day p.hols (s.deadline + a.days) 0
  obtain ⟨p0, p1, l0, l1, d0, d1, o0, o1, j0, j1, x0, x1⟩ := hs
  unfold Cal.doneS
  split
  · exact ⟨by simp, by simp, a0, a1, q1.1, q1.2, q2.1, q2.2, j0, j1, x0, x1⟩
  · split
    · exact ⟨by simp, by simp, a0, a1, d0, d1, o0, o1, j0, j1, x0, x1⟩
    · split
      · exact ⟨by simp, by simp, a0, a1, d0, d1, o0, o1, a0, a1, x0, x1⟩
      · split
        · exact ⟨by simp, by simp, a0, a1, q3.1, q3.2, o0, o1, j0, j1, x0, x1⟩
        · split
          · rename_i hk
            have : s.extended < p.exts := by
              rcases Int.lt_or_le s.extended p.exts with h | h
              · exact h
              · exact absurd ⟨hk, h⟩ hx
            exact ⟨p0, p1, a0, a1, q4.1, q4.2, o0, o1, j0, j1, by show 0 ≤ s.extended + 1; omega, by show s.extended + 1 ≤ 12; omega⟩
          · split
            · exact ⟨by simp, by simp, a0, a1, d0, d1, o0, o1, j0, j1, x0, x1⟩
            · exact ⟨by simp, by simp, a0, a1, d0, d1, o0, o1, j0, j1, x0, x1⟩
/-! The reference's words. -/
/-- The phase behind an act, or -1. -/
def Cal.accI (ph k : Int) : Int :=
  if (ph = 0 ∧ k = 0) ∨ (ph = 2 ∧ k = 2) ∨ (ph = 3 ∧ k = 4) ∨ (ph = 1 ∧ k = 6) then 1 else if ph = 1 ∧ k = 1 then 2 else if ph = 1 ∧ k = 3 then 3 else if ph = 3 ∧ k = 5 then 5 else if (1 ≤ ph ∧ ph ≤ 3) ∧ k = 7 then 4 else -1
theorem Cal.kinds {k : Int} (h0 : 0 ≤ k) (h1 : k ≤ 7) : k = 0 ∨ k = 1 ∨ k = 2 ∨ k = 3 ∨ k = 4 ∨ k = 5 ∨ k = 6 ∨ k = 7 := by omega
theorem Cal.accI_acc {ph k : Int} (h0 : 0 ≤ k) (h1 : k ≤ 7) : Cal.accB ph k = true ↔ 0 ≤ Cal.accI ph k := by
  by_cases c0 : ph = 0
  · subst c0; rcases Cal.kinds h0 h1 with rfl | rfl | rfl | rfl | rfl | rfl | rfl | rfl <;> decide
  · by_cases c1 : ph = 1
    · subst c1; rcases Cal.kinds h0 h1 with rfl | rfl | rfl | rfl | rfl | rfl | rfl | rfl <;> decide
    · by_cases c2 : ph = 2
      · subst c2; rcases Cal.kinds h0 h1 with rfl | rfl | rfl | rfl | rfl | rfl | rfl | rfl <;> decide
      · by_cases c3 : ph = 3
        · subst c3; rcases Cal.kinds h0 h1 with rfl | rfl | rfl | rfl | rfl | rfl | rfl | rfl <;> decide
        · have hn : ¬ (1 ≤ ph ∧ ph ≤ 3) := by omega
          have hI : Cal.accI ph k = -1 := by unfold Cal.accI; simp [c0, c1, c2, c3, hn]
          have hB : Cal.accB ph k = false := by unfold Cal.accB; simp [c0, c1, c2, c3]
          rw [hI, hB]; simp
theorem Cal.accI_phase {p : Proc} {s : NSt} {a : NAct} (h0 : 0 ≤ a.kind) (h1 : a.kind ≤ 7) (h : Cal.accB s.phase a.kind = true) : (Cal.doneS p s a).1.phase = Cal.accI s.phase a.kind := by
  unfold Cal.accB at h
  unfold Cal.doneS Cal.accI
  rcases Cal.kinds h0 h1 with e | e | e | e | e | e | e | e
  all_goals
    simp only [e] at h ⊢
    simp at h
    first
      | (simp [h]; done)
      | (rcases h with h | h | h <;> simp [h])
/-- Whether an act comes too late. -/
def Cal.lateB (s : NSt) (a : NAct) : Bool :=
  if a.kind = 1 ∨ a.kind = 6 ∨ a.kind = 7 then decide (s.phase = 1 ∧ s.deadline < a.day) else if a.kind = 3 then decide (s.deadline < a.day ∨ s.object < a.day) else false
theorem Cal.late_acc {s : NSt} {a : NAct} (h0 : 0 ≤ a.kind) (h1 : a.kind ≤ 7) (h : Cal.accB s.phase a.kind = true) : Cal.lateB s a = decide ((s.phase = 1 ∧ s.deadline < a.day) ∨ (a.kind = 3 ∧ min s.object s.deadline < a.day)) := by
  unfold Cal.accB at h
  unfold Cal.lateB
  rcases Cal.kinds h0 h1 with e | e | e | e | e | e | e | e
  all_goals
    simp only [e] at h ⊢
    simp at h
    first
      | (simp [h]; done)
      | (simp [h]; rw [← Bool.decide_or, ← Bool.decide_or, decide_eq_decide]; omega)
end Go.Proofs.YtbinoelbjlgjkaaDoor
namespace Go.Proofs.YtbinoelbjlgjkaaDoor
open Go Go.RowKit
theorem nwithin_any (n lo hi : Int) (w : World) : Calls Tryd.prog 29 #[.int .i64 n, .int .i64 lo, .int .i64 hi] w fun e w' => e = .returned (.bool (decide (lo ≤ n) && decide (n ≤ hi))) ∧ w = w' := by
  by_cases h1 : lo ≤ n
  · by_cases h2 : n ≤ hi
    all_goals
      go_enter Tryd.func29, Tryd.ntmps29
      go_wp2
      go_ret
      exact ⟨by simp; omega, rfl⟩
  · go_enter Tryd.func29, Tryd.ntmps29
    go_wp2
    go_ret
    exact ⟨by simp; omega, rfl⟩
set_option maxRecDepth 100000 in
set_option maxHeartbeats 4000000 in
theorem formed_any (A : Option Addr) (c : Nat) (p : Proc) (s : NSt) (a : NAct) (w : World) :
    Calls Tryd.prog 54 #[.agg #[.int .i64 p.runs.m, .int .i64 p.runs.d, .bool p.runs.k, .int .i64 p.obj.m, .int .i64 p.obj.d, .bool p.obj.k, .int .i64 p.wait.m, .int .i64 p.wait.d, .bool p.wait.k, .int .i64 p.exts, .int .i64 p.longest, .slice A p.hols.length c, .int .i64 s.phase, .int .i64 s.last, .int .i64 s.deadline, .int .i64 s.object, .int .i64 s.objected, .int .i64 s.extended], .agg #[.int .i64 a.day, .int .i64 a.kind, .int .i64 a.days]] w fun e w' => e = .returned (.int .i64 (Cal.formErr p a)) ∧ Below w.heap.size w w' := by
  by_cases hd : 0 ≤ a.day ∧ a.day ≤ 200000
  · by_cases hk : 0 ≤ a.kind ∧ a.kind ≤ 7
    · by_cases h6 : a.kind = 6
      · by_cases hl : 1 ≤ a.days ∧ a.days ≤ p.longest
        · have hfin : Hid (Cal.formErr p a = 0) := by show _ = _; unfold Cal.formErr; rw [if_pos hd, if_pos hk, if_pos h6, if_pos hl]
          obtain ⟨d0, d1⟩ := hd
          obtain ⟨k0, k1⟩ := hk
          obtain ⟨l0, l1⟩ := hl
          go_enter Tryd.func54, Tryd.ntmps54
          go_wp2_with (first | (go_at_call 29; first | refine rin ?_ | refine rout ?_ | refine rany ?_) | ((first | (go_at_call 20) | (go_at_call 5) | (go_at_call 19) | (fail) | (fail) | (fail) | (fail)); first | refine rin ?_ | refine rout ?_ | refine rany ?_))
          go_ret
          exact ⟨ret_int hfin.out.symm, by exact blw⟩
        · have hfin : Hid (Cal.formErr p a = 2) := by show _ = _; unfold Cal.formErr; rw [if_pos hd, if_pos hk, if_pos h6, if_neg hl]
          obtain ⟨d0, d1⟩ := hd
          obtain ⟨k0, k1⟩ := hk
          have hl' : a.days < 1 ∨ p.longest < a.days := by omega
          clear hl
          go_enter Tryd.func54, Tryd.ntmps54
          go_wp2_with (first | (go_at_call 29; first | refine rin ?_ | refine rout ?_ | refine rany ?_) | ((first | (go_at_call 20) | (go_at_call 5) | (go_at_call 19) | (fail) | (fail) | (fail) | (fail)); first | refine rin ?_ | refine rout ?_ | refine rany ?_))
          go_ret
          exact ⟨ret_int hfin.out.symm, by exact blw⟩
      · by_cases hz : a.days = 0
        · have hfin : Hid (Cal.formErr p a = 0) := by show _ = _; unfold Cal.formErr; rw [if_pos hd, if_pos hk, if_neg h6, if_pos hz]
          obtain ⟨d0, d1⟩ := hd
          obtain ⟨k0, k1⟩ := hk
          have h6' : (a.kind == 6) = false := by simpa using h6
          have h6n : (a.kind != 6) = true := by simpa using h6
          clear h6
          go_enter Tryd.func54, Tryd.ntmps54
          go_wp2_with (first | (go_at_call 29; first | refine rin ?_ | refine rout ?_ | refine rany ?_) | ((first | (go_at_call 20) | (go_at_call 5) | (go_at_call 19) | (fail) | (fail) | (fail) | (fail)); first | refine rin ?_ | refine rout ?_ | refine rany ?_))
          go_ret
          exact ⟨ret_int hfin.out.symm, by exact blw⟩
        · have hfin : Hid (Cal.formErr p a = 3) := by show _ = _; unfold Cal.formErr; rw [if_pos hd, if_pos hk, if_neg h6, if_neg hz]
          obtain ⟨d0, d1⟩ := hd
          obtain ⟨k0, k1⟩ := hk
          have h6n : (a.kind != 6) = true := by simpa using h6
          have hzn : (a.days != 0) = true := by simpa using hz
          clear h6 hz
          go_enter Tryd.func54, Tryd.ntmps54
          go_wp2_with (first | (go_at_call 29; first | refine rin ?_ | refine rout ?_ | refine rany ?_) | ((first | (go_at_call 20) | (go_at_call 5) | (go_at_call 19) | (fail) | (fail) | (fail) | (fail)); first | refine rin ?_ | refine rout ?_ | refine rany ?_))
          go_ret
          exact ⟨ret_int hfin.out.symm, by exact blw⟩
    · have hfin : Hid (Cal.formErr p a = 15) := by show _ = _; unfold Cal.formErr; rw [if_pos hd, if_neg hk]
      obtain ⟨d0, d1⟩ := hd
      have hk' : a.kind < 0 ∨ 7 < a.kind := by omega
      clear hk
      go_enter Tryd.func54, Tryd.ntmps54
      go_wp2_with (first | (go_at_call 29; first | refine rin ?_ | refine rout ?_ | refine rany ?_) | ((first | (go_at_call 20) | (go_at_call 5) | (go_at_call 19) | (fail) | (fail) | (fail) | (fail)); first | refine rin ?_ | refine rout ?_ | refine rany ?_))
      go_ret
      exact ⟨ret_int hfin.out.symm, by exact blw⟩
  · have hfin : Hid (Cal.formErr p a = 2) := by show _ = _; unfold Cal.formErr; rw [if_neg hd]
    have hd' : a.day < 0 ∨ 200000 < a.day := by omega
    clear hd
    go_enter Tryd.func54, Tryd.ntmps54
    go_wp2_with (first | (go_at_call 29; first | refine rin ?_ | refine rout ?_ | refine rany ?_) | ((first | (go_at_call 20) | (go_at_call 5) | (go_at_call 19) | (fail) | (fail) | (fail) | (fail)); first | refine rin ?_ | refine rout ?_ | refine rany ?_))
    go_ret
    exact ⟨ret_int hfin.out.symm, by exact blw⟩
set_option maxRecDepth 100000 in
set_option maxHeartbeats 4000000 in
theorem accepts_any (A : Option Addr) (c : Nat) (p : Proc) (s : NSt) (k : Int) (w : World) :
    Calls Tryd.prog 55 #[.agg #[.int .i64 p.runs.m, .int .i64 p.runs.d, .bool p.runs.k, .int .i64 p.obj.m, .int .i64 p.obj.d, .bool p.obj.k, .int .i64 p.wait.m, .int .i64 p.wait.d, .bool p.wait.k, .int .i64 p.exts, .int .i64 p.longest, .slice A p.hols.length c, .int .i64 s.phase, .int .i64 s.last, .int .i64 s.deadline, .int .i64 s.object, .int .i64 s.objected, .int .i64 s.extended], .int .i64 k] w fun e w' => e = .returned (.bool (Cal.accB s.phase k)) ∧ Below w.heap.size w w' := by
  by_cases h0 : k = 0
  · subst h0
    have hfin : Hid (Cal.accB s.phase 0 = (s.phase == 0)) := by show _ = _; unfold Cal.accB; rw [if_pos rfl]; rfl
    go_enter Tryd.func55, Tryd.ntmps55
    go_wp2_with (first | (go_at_call 29; first | refine rin ?_ | refine rout ?_ | refine rany ?_) | ((first | (go_at_call 20) | (go_at_call 5) | (go_at_call 19) | (fail) | (fail) | (fail) | (fail)); first | refine rin ?_ | refine rout ?_ | refine rany ?_))
    go_ret
    exact ⟨ret_bool hfin.out.symm, by exact blw⟩
  have b0 : (k == 0) = false := by simpa using h0
  by_cases h2 : k = 2
  · subst h2
    have hfin : Hid (Cal.accB s.phase 2 = (s.phase == 2)) := by show _ = _; unfold Cal.accB; rw [if_neg h0, if_pos rfl]; rfl
    go_enter Tryd.func55, Tryd.ntmps55
    go_wp2_with (first | (go_at_call 29; first | refine rin ?_ | refine rout ?_ | refine rany ?_) | ((first | (go_at_call 20) | (go_at_call 5) | (go_at_call 19) | (fail) | (fail) | (fail) | (fail)); first | refine rin ?_ | refine rout ?_ | refine rany ?_))
    go_ret
    exact ⟨ret_bool hfin.out.symm, by exact blw⟩
  have b2 : (k == 2) = false := by simpa using h2
  by_cases h4 : k = 4
  · subst h4
    have hfin : Hid (Cal.accB s.phase 4 = (s.phase == 3)) := by show _ = _; unfold Cal.accB; rw [if_neg h0, if_neg h2, if_pos (.inl rfl)]; rfl
    go_enter Tryd.func55, Tryd.ntmps55
    go_wp2_with (first | (go_at_call 29; first | refine rin ?_ | refine rout ?_ | refine rany ?_) | ((first | (go_at_call 20) | (go_at_call 5) | (go_at_call 19) | (fail) | (fail) | (fail) | (fail)); first | refine rin ?_ | refine rout ?_ | refine rany ?_))
    go_ret
    exact ⟨ret_bool hfin.out.symm, by exact blw⟩
  have b4 : (k == 4) = false := by simpa using h4
  by_cases h5 : k = 5
  · subst h5
    have hfin : Hid (Cal.accB s.phase 5 = (s.phase == 3)) := by show _ = _; unfold Cal.accB; rw [if_neg h0, if_neg h2, if_pos (.inr rfl)]; rfl
    go_enter Tryd.func55, Tryd.ntmps55
    go_wp2_with (first | (go_at_call 29; first | refine rin ?_ | refine rout ?_ | refine rany ?_) | ((first | (go_at_call 20) | (go_at_call 5) | (go_at_call 19) | (fail) | (fail) | (fail) | (fail)); first | refine rin ?_ | refine rout ?_ | refine rany ?_))
    go_ret
    exact ⟨ret_bool hfin.out.symm, by exact blw⟩
  have b5 : (k == 5) = false := by simpa using h5
  have h45 : ¬ (k = 4 ∨ k = 5) := fun h => h.elim h4 h5
  by_cases h7 : k = 7
  · subst h7
    have hacc : Cal.accB s.phase 7 = decide (s.phase = 1 ∨ s.phase = 2 ∨ s.phase = 3) := by unfold Cal.accB; rw [if_neg h0, if_neg h2, if_neg h45, if_pos rfl]
    clear h0 h2 h4 h5 h45
    by_cases p1 : s.phase = 1
    · have hfin : Hid (Cal.accB s.phase 7 = true) := by show _ = _; rw [hacc, p1]; rfl
      clear hacc
      go_enter Tryd.func55, Tryd.ntmps55
      go_wp2_with (first | (go_at_call 29; first | refine rin ?_ | refine rout ?_ | refine rany ?_) | ((first | (go_at_call 20) | (go_at_call 5) | (go_at_call 19) | (fail) | (fail) | (fail) | (fail)); first | refine rin ?_ | refine rout ?_ | refine rany ?_))
      go_ret
      exact ⟨ret_bool hfin.out.symm, by exact blw⟩
    have q1 : (s.phase == 1) = false := by simpa using p1
    by_cases p2 : s.phase = 2
    · have hfin : Hid (Cal.accB s.phase 7 = true) := by show _ = _; rw [hacc, p2]; rfl
      clear hacc p1
      go_enter Tryd.func55, Tryd.ntmps55
      go_wp2_with (first | (go_at_call 29; first | refine rin ?_ | refine rout ?_ | refine rany ?_) | ((first | (go_at_call 20) | (go_at_call 5) | (go_at_call 19) | (fail) | (fail) | (fail) | (fail)); first | refine rin ?_ | refine rout ?_ | refine rany ?_))
      go_ret
      exact ⟨ret_bool hfin.out.symm, by exact blw⟩
    have q2 : (s.phase == 2) = false := by simpa using p2
    by_cases p3 : s.phase = 3
    · have hfin : Hid (Cal.accB s.phase 7 = true) := by show _ = _; rw [hacc, p3]; rfl
      clear hacc p1 p2
      go_enter Tryd.func55, Tryd.ntmps55
      go_wp2_with (first | (go_at_call 29; first | refine rin ?_ | refine rout ?_ | refine rany ?_) | ((first | (go_at_call 20) | (go_at_call 5) | (go_at_call 19) | (fail) | (fail) | (fail) | (fail)); first | refine rin ?_ | refine rout ?_ | refine rany ?_))
      go_ret
      exact ⟨ret_bool hfin.out.symm, by exact blw⟩
    · have hfin : Hid (Cal.accB s.phase 7 = false) := by show _ = _; rw [hacc]; simp [p1, p2, p3]
      have q3 : (s.phase == 3) = false := by simpa using p3
      clear hacc p1 p2 p3
      go_enter Tryd.func55, Tryd.ntmps55
      go_wp2_with (first | (go_at_call 29; first | refine rin ?_ | refine rout ?_ | refine rany ?_) | ((first | (go_at_call 20) | (go_at_call 5) | (go_at_call 19) | (fail) | (fail) | (fail) | (fail)); first | refine rin ?_ | refine rout ?_ | refine rany ?_))
      go_ret
      exact ⟨ret_bool hfin.out.symm, by exact blw⟩
  · have b7 : (k == 7) = false := by simpa using h7
    have hfin : Hid (Cal.accB s.phase k = (s.phase == 1)) := by show _ = _; unfold Cal.accB; rw [if_neg h0, if_neg h2, if_neg h45, if_neg h7]; rfl
    clear h0 h2 h4 h5 h7 h45
    go_enter Tryd.func55, Tryd.ntmps55
    go_wp2_with (first | (go_at_call 29; first | refine rin ?_ | refine rout ?_ | refine rany ?_) | ((first | (go_at_call 20) | (go_at_call 5) | (go_at_call 19) | (fail) | (fail) | (fail) | (fail)); first | refine rin ?_ | refine rout ?_ | refine rany ?_))
    go_ret
    exact ⟨ret_bool hfin.out.symm, by exact blw⟩
theorem until_any (A : Option Addr) (c : Nat) (p : Proc) (s : NSt) (w : World) :
    Calls Tryd.prog 56 #[.agg #[.int .i64 p.runs.m, .int .i64 p.runs.d, .bool p.runs.k, .int .i64 p.obj.m, .int .i64 p.obj.d, .bool p.obj.k, .int .i64 p.wait.m, .int .i64 p.wait.d, .bool p.wait.k, .int .i64 p.exts, .int .i64 p.longest, .slice A p.hols.length c, .int .i64 s.phase, .int .i64 s.last, .int .i64 s.deadline, .int .i64 s.object, .int .i64 s.objected, .int .i64 s.extended]] w fun e w' => e = .returned (.int .i64 (min s.object s.deadline)) ∧ Below w.heap.size w w' := by
  by_cases h : s.object ≤ s.deadline
  · have hfin : Hid (min s.object s.deadline = s.object) := by show _ = _; omega
    go_enter Tryd.func56, Tryd.ntmps56
    go_wp2
    go_ret
    exact ⟨by first | rfl | exact ret_int hfin.out.symm, by exact blw⟩
  · have hfin : Hid (min s.object s.deadline = s.deadline) := by show _ = _; omega
    have h' : s.deadline ≤ s.object := by omega
    go_enter Tryd.func56, Tryd.ntmps56
    go_wp2
    go_ret
    exact ⟨by first | rfl | exact ret_int hfin.out.symm, by exact blw⟩
/-- A boxed state. -/
structure StAt (w : World) (B : Nat) (A : Option Addr) (c : Nat) (p : Proc) (s : NSt) : Prop where
  range : w.rangeAt B 0 [.int .i64 p.runs.m, .int .i64 p.runs.d, .bool p.runs.k, .int .i64 p.obj.m, .int .i64 p.obj.d, .bool p.obj.k, .int .i64 p.wait.m, .int .i64 p.wait.d, .bool p.wait.k, .int .i64 p.exts, .int .i64 p.longest, .slice A p.hols.length c, .int .i64 s.phase, .int .i64 s.last, .int .i64 s.deadline, .int .i64 s.object, .int .i64 s.objected, .int .i64 s.extended]
  lt : B < w.heap.size
theorem StAt.below {w w' : World} {B : Nat} {A : Option Addr} {c : Nat} {p : Proc} {s : NSt} (h : StAt w B A c p s) (hb : Below w.heap.size w w') : StAt w' B A c p s :=
  ⟨fun j v hv => (hb.cell (p := ⟨B, 0 + j, none⟩) h.lt).trans (h.range j v hv), Nat.lt_of_lt_of_le h.lt hb.size⟩
theorem StAt.new (w : World) (A : Option Addr) (c : Nat) (p : Proc) (s : NSt) (t : TypeId) : StAt (w.alloc (.cells #[.int .i64 p.runs.m, .int .i64 p.runs.d, .bool p.runs.k, .int .i64 p.obj.m, .int .i64 p.obj.d, .bool p.obj.k, .int .i64 p.wait.m, .int .i64 p.wait.d, .bool p.wait.k, .int .i64 p.exts, .int .i64 p.longest, .slice A p.hols.length c, .int .i64 s.phase, .int .i64 s.last, .int .i64 s.deadline, .int .i64 s.object, .int .i64 s.objected, .int .i64 s.extended] t)) w.heap.size A c p s :=
  ⟨fun j v hv => by rw [Nat.zero_add, cell_alloc_at, ← hv]; simp, by simp⟩
theorem StAt.all {w : World} {B : Nat} {A : Option Addr} {c : Nat} {p : Proc} {s : NSt} (h : StAt w B A c p s) : w.cell? ⟨B, 0, none⟩ = some (.int .i64 p.runs.m) ∧ w.cell? ⟨B, 1, none⟩ = some (.int .i64 p.runs.d) ∧ w.cell? ⟨B, 2, none⟩ = some (.bool p.runs.k) ∧ w.cell? ⟨B, 3, none⟩ = some (.int .i64 p.obj.m) ∧ w.cell? ⟨B, 4, none⟩ = some (.int .i64 p.obj.d) ∧ w.cell? ⟨B, 5, none⟩ = some (.bool p.obj.k) ∧ w.cell? ⟨B, 6, none⟩ = some (.int .i64 p.wait.m) ∧ w.cell? ⟨B, 7, none⟩ = some (.int .i64 p.wait.d) ∧ w.cell? ⟨B, 8, none⟩ = some (.bool p.wait.k) ∧ w.cell? ⟨B, 9, none⟩ = some (.int .i64 p.exts) ∧ w.cell? ⟨B, 10, none⟩ = some (.int .i64 p.longest) ∧ w.cell? ⟨B, 11, none⟩ = some (.slice A p.hols.length c) ∧ w.cell? ⟨B, 12, none⟩ = some (.int .i64 s.phase) ∧ w.cell? ⟨B, 13, none⟩ = some (.int .i64 s.last) ∧ w.cell? ⟨B, 14, none⟩ = some (.int .i64 s.deadline) ∧ w.cell? ⟨B, 15, none⟩ = some (.int .i64 s.object) ∧ w.cell? ⟨B, 16, none⟩ = some (.int .i64 s.objected) ∧ w.cell? ⟨B, 17, none⟩ = some (.int .i64 s.extended) :=
  ⟨h.range 0 _ rfl, h.range 1 _ rfl, h.range 2 _ rfl, h.range 3 _ rfl, h.range 4 _ rfl, h.range 5 _ rfl, h.range 6 _ rfl, h.range 7 _ rfl, h.range 8 _ rfl, h.range 9 _ rfl, h.range 10 _ rfl, h.range 11 _ rfl, h.range 12 _ rfl, h.range 13 _ rfl, h.range 14 _ rfl, h.range 15 _ rfl, h.range 16 _ rfl, h.range 17 _ rfl⟩
/-- A boxed act. -/
structure ActAt (w : World) (B : Nat) (a : NAct) : Prop where
  c0 : w.cell? ⟨B, 0, none⟩ = some (.int .i64 a.day)
  c1 : w.cell? ⟨B, 1, none⟩ = some (.int .i64 a.kind)
  c2 : w.cell? ⟨B, 2, none⟩ = some (.int .i64 a.days)
  lt : B < w.heap.size
theorem ActAt.below {w w' : World} {B : Nat} {a : NAct} (h : ActAt w B a) (hb : Below w.heap.size w w') : ActAt w' B a :=
  ⟨(hb.cell (p := ⟨B, 0, none⟩) h.lt).trans h.c0, (hb.cell (p := ⟨B, 1, none⟩) h.lt).trans h.c1, (hb.cell (p := ⟨B, 2, none⟩) h.lt).trans h.c2, Nat.lt_of_lt_of_le h.lt hb.size⟩
theorem ActAt.new (w : World) (a : NAct) (t : TypeId) : ActAt (w.alloc (.cells #[.int .i64 a.day, .int .i64 a.kind, .int .i64 a.days] t)) w.heap.size a := ⟨by simp, by simp, by simp, by simp⟩
theorem StAt.c9 {w : World} {B : Nat} {A : Option Addr} {c : Nat} {p : Proc} {s : NSt} (h : StAt w B A c p s) : w.cell? ⟨B, 9, none⟩ = some (.int .i64 p.exts) := h.range 9 _ rfl
theorem StAt.c10 {w : World} {B : Nat} {A : Option Addr} {c : Nat} {p : Proc} {s : NSt} (h : StAt w B A c p s) : w.cell? ⟨B, 10, none⟩ = some (.int .i64 p.longest) := h.range 10 _ rfl
theorem StAt.c11 {w : World} {B : Nat} {A : Option Addr} {c : Nat} {p : Proc} {s : NSt} (h : StAt w B A c p s) : w.cell? ⟨B, 11, none⟩ = some (.slice A p.hols.length c) := h.range 11 _ rfl
theorem StAt.c12 {w : World} {B : Nat} {A : Option Addr} {c : Nat} {p : Proc} {s : NSt} (h : StAt w B A c p s) : w.cell? ⟨B, 12, none⟩ = some (.int .i64 s.phase) := h.range 12 _ rfl
theorem StAt.c13 {w : World} {B : Nat} {A : Option Addr} {c : Nat} {p : Proc} {s : NSt} (h : StAt w B A c p s) : w.cell? ⟨B, 13, none⟩ = some (.int .i64 s.last) := h.range 13 _ rfl
theorem StAt.c14 {w : World} {B : Nat} {A : Option Addr} {c : Nat} {p : Proc} {s : NSt} (h : StAt w B A c p s) : w.cell? ⟨B, 14, none⟩ = some (.int .i64 s.deadline) := h.range 14 _ rfl
theorem StAt.c15 {w : World} {B : Nat} {A : Option Addr} {c : Nat} {p : Proc} {s : NSt} (h : StAt w B A c p s) : w.cell? ⟨B, 15, none⟩ = some (.int .i64 s.object) := h.range 15 _ rfl
theorem StAt.c16 {w : World} {B : Nat} {A : Option Addr} {c : Nat} {p : Proc} {s : NSt} (h : StAt w B A c p s) : w.cell? ⟨B, 16, none⟩ = some (.int .i64 s.objected) := h.range 16 _ rfl
theorem StAt.c17 {w : World} {B : Nat} {A : Option Addr} {c : Nat} {p : Proc} {s : NSt} (h : StAt w B A c p s) : w.cell? ⟨B, 17, none⟩ = some (.int .i64 s.extended) := h.range 17 _ rfl
theorem stSize : (Tryd.prog.info? 55).map (·.size) = some 18 := by kernel_rfl
end Go.Proofs.YtbinoelbjlgjkaaDoor
