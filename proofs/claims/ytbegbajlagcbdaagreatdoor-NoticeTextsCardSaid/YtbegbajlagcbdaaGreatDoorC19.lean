/- Chapter 8 and what it rests on: definitions and walks, part 19. -/
import Derived.Test.YtbegbajlagcbdaaGreatDoorC18
import Derived.Deep.MidRow
import Derived.Test.YtbegbajlagcbdaaGreatDoorC01
import Derived.Deep.RegionHeld3
namespace Go.Proofs.YtbegbajlagcbdaaGreatDoor
open Go Go.RowKit
theorem nwithin_any (n lo hi : Int) (w : World) : Calls Tryz.prog 56 #[.int .i64 n, .int .i64 lo, .int .i64 hi] w fun e w' => e = .returned (.bool (decide (lo ≤ n) && decide (n ≤ hi))) ∧ w = w' := by
  by_cases h1 : lo ≤ n
  · by_cases h2 : n ≤ hi
    all_goals
      go_enter Tryz.func56, Tryz.ntmps56
      go_wp2
      go_ret
      exact ⟨by simp; omega, rfl⟩
  · go_enter Tryz.func56, Tryz.ntmps56
    go_wp2
    go_ret
    exact ⟨by simp; omega, rfl⟩
set_option maxRecDepth 100000 in
set_option maxHeartbeats 4000000 in
theorem formed_any (A : Option Addr) (c : Nat) (p : Proc) (s : NSt) (a : NAct) (w : World) :
    Calls Tryz.prog 257 #[.agg #[.int .i64 p.runs.m, .int .i64 p.runs.d, .bool p.runs.k, .int .i64 p.obj.m, .int .i64 p.obj.d, .bool p.obj.k, .int .i64 p.wait.m, .int .i64 p.wait.d, .bool p.wait.k, .int .i64 p.exts, .int .i64 p.longest, .slice A p.hols.length c, .int .i64 s.phase, .int .i64 s.last, .int .i64 s.deadline, .int .i64 s.object, .int .i64 s.objected, .int .i64 s.extended], .agg #[.int .i64 a.day, .int .i64 a.kind, .int .i64 a.days]] w fun e w' => e = .returned (.int .i64 (Cal.formErr p a)) ∧ Below w.heap.size w w' := by
  by_cases hd : 0 ≤ a.day ∧ a.day ≤ 200000
  · by_cases hk : 0 ≤ a.kind ∧ a.kind ≤ 7
    · by_cases h6 : a.kind = 6
      · by_cases hl : 1 ≤ a.days ∧ a.days ≤ p.longest
        · have hfin : Hid (Cal.formErr p a = 0) := by show _ = _; unfold Cal.formErr; rw [if_pos hd, if_pos hk, if_pos h6, if_pos hl]
          obtain ⟨d0, d1⟩ := hd
          obtain ⟨k0, k1⟩ := hk
          obtain ⟨l0, l1⟩ := hl
          go_enter Tryz.func257, Tryz.ntmps257
          go_wp2_with (first | (go_at_call 56; first | refine rin ?_ | refine rout ?_ | refine rany ?_) | ((first | (go_at_call 134) | (go_at_call 59) | (go_at_call 133) | (go_at_call 14) | (go_at_call 178) | (fail) | (go_at_call 139)); first | refine rin ?_ | refine rout ?_ | refine rany ?_))
          go_ret
          exact ⟨ret_int hfin.out.symm, by exact blw⟩
        · have hfin : Hid (Cal.formErr p a = 2) := by show _ = _; unfold Cal.formErr; rw [if_pos hd, if_pos hk, if_pos h6, if_neg hl]
          obtain ⟨d0, d1⟩ := hd
          obtain ⟨k0, k1⟩ := hk
          have hl' : a.days < 1 ∨ p.longest < a.days := by omega
          clear hl
          go_enter Tryz.func257, Tryz.ntmps257
          go_wp2_with (first | (go_at_call 56; first | refine rin ?_ | refine rout ?_ | refine rany ?_) | ((first | (go_at_call 134) | (go_at_call 59) | (go_at_call 133) | (go_at_call 14) | (go_at_call 178) | (fail) | (go_at_call 139)); first | refine rin ?_ | refine rout ?_ | refine rany ?_))
          go_ret
          exact ⟨ret_int hfin.out.symm, by exact blw⟩
      · by_cases hz : a.days = 0
        · have hfin : Hid (Cal.formErr p a = 0) := by show _ = _; unfold Cal.formErr; rw [if_pos hd, if_pos hk, if_neg h6, if_pos hz]
          obtain ⟨d0, d1⟩ := hd
          obtain ⟨k0, k1⟩ := hk
          have h6' : (a.kind == 6) = false := by simpa using h6
          have h6n : (a.kind != 6) = true := by simpa using h6
          clear h6
          go_enter Tryz.func257, Tryz.ntmps257
          go_wp2_with (first | (go_at_call 56; first | refine rin ?_ | refine rout ?_ | refine rany ?_) | ((first | (go_at_call 134) | (go_at_call 59) | (go_at_call 133) | (go_at_call 14) | (go_at_call 178) | (fail) | (go_at_call 139)); first | refine rin ?_ | refine rout ?_ | refine rany ?_))
          go_ret
          exact ⟨ret_int hfin.out.symm, by exact blw⟩
        · have hfin : Hid (Cal.formErr p a = 3) := by show _ = _; unfold Cal.formErr; rw [if_pos hd, if_pos hk, if_neg h6, if_neg hz]
          obtain ⟨d0, d1⟩ := hd
          obtain ⟨k0, k1⟩ := hk
          have h6n : (a.kind != 6) = true := by simpa using h6
          have hzn : (a.days != 0) = true := by simpa using hz
          clear h6 hz
          go_enter Tryz.func257, Tryz.ntmps257
          go_wp2_with (first | (go_at_call 56; first | refine rin ?_ | refine rout ?_ | refine rany ?_) | ((first | (go_at_call 134) | (go_at_call 59) | (go_at_call 133) | (go_at_call 14) | (go_at_call 178) | (fail) | (go_at_call 139)); first | refine rin ?_ | refine rout ?_ | refine rany ?_))
          go_ret
          exact ⟨ret_int hfin.out.symm, by exact blw⟩
    · have hfin : Hid (Cal.formErr p a = 15) := by show _ = _; unfold Cal.formErr; rw [if_pos hd, if_neg hk]
      obtain ⟨d0, d1⟩ := hd
      have hk' : a.kind < 0 ∨ 7 < a.kind := by omega
      clear hk
      go_enter Tryz.func257, Tryz.ntmps257
      go_wp2_with (first | (go_at_call 56; first | refine rin ?_ | refine rout ?_ | refine rany ?_) | ((first | (go_at_call 134) | (go_at_call 59) | (go_at_call 133) | (go_at_call 14) | (go_at_call 178) | (fail) | (go_at_call 139)); first | refine rin ?_ | refine rout ?_ | refine rany ?_))
      go_ret
      exact ⟨ret_int hfin.out.symm, by exact blw⟩
  · have hfin : Hid (Cal.formErr p a = 2) := by show _ = _; unfold Cal.formErr; rw [if_neg hd]
    have hd' : a.day < 0 ∨ 200000 < a.day := by omega
    clear hd
    go_enter Tryz.func257, Tryz.ntmps257
    go_wp2_with (first | (go_at_call 56; first | refine rin ?_ | refine rout ?_ | refine rany ?_) | ((first | (go_at_call 134) | (go_at_call 59) | (go_at_call 133) | (go_at_call 14) | (go_at_call 178) | (fail) | (go_at_call 139)); first | refine rin ?_ | refine rout ?_ | refine rany ?_))
    go_ret
    exact ⟨ret_int hfin.out.symm, by exact blw⟩
set_option maxRecDepth 100000 in
set_option maxHeartbeats 4000000 in
theorem accepts_any (A : Option Addr) (c : Nat) (p : Proc) (s : NSt) (k : Int) (w : World) :
    Calls Tryz.prog 258 #[.agg #[.int .i64 p.runs.m, .int .i64 p.runs.d, .bool p.runs.k, .int .i64 p.obj.m, .int .i64 p.obj.d, .bool p.obj.k, .int .i64 p.wait.m, .int .i64 p.wait.d, .bool p.wait.k, .int .i64 p.exts, .int .i64 p.longest, .slice A p.hols.length c, .int .i64 s.phase, .int .i64 s.last, .int .i64 s.deadline, .int .i64 s.object, .int .i64 s.objected, .int .i64 s.extended], .int .i64 k] w fun e w' => e = .returned (.bool (Cal.accB s.phase k)) ∧ Below w.heap.size w w' := by
  by_cases h0 : k = 0
  · subst h0
    have hfin : Hid (Cal.accB s.phase 0 = (s.phase == 0)) := by show _ = _; unfold Cal.accB; rw [if_pos rfl]; rfl
    go_enter Tryz.func258, Tryz.ntmps258
    go_wp2_with (first | (go_at_call 56; first | refine rin ?_ | refine rout ?_ | refine rany ?_) | ((first | (go_at_call 134) | (go_at_call 59) | (go_at_call 133) | (go_at_call 14) | (go_at_call 178) | (fail) | (go_at_call 139)); first | refine rin ?_ | refine rout ?_ | refine rany ?_))
    go_ret
    exact ⟨ret_bool hfin.out.symm, by exact blw⟩
  have b0 : (k == 0) = false := by simpa using h0
  by_cases h2 : k = 2
  · subst h2
    have hfin : Hid (Cal.accB s.phase 2 = (s.phase == 2)) := by show _ = _; unfold Cal.accB; rw [if_neg h0, if_pos rfl]; rfl
    go_enter Tryz.func258, Tryz.ntmps258
    go_wp2_with (first | (go_at_call 56; first | refine rin ?_ | refine rout ?_ | refine rany ?_) | ((first | (go_at_call 134) | (go_at_call 59) | (go_at_call 133) | (go_at_call 14) | (go_at_call 178) | (fail) | (go_at_call 139)); first | refine rin ?_ | refine rout ?_ | refine rany ?_))
    go_ret
    exact ⟨ret_bool hfin.out.symm, by exact blw⟩
  have b2 : (k == 2) = false := by simpa using h2
  by_cases h4 : k = 4
  · subst h4
    have hfin : Hid (Cal.accB s.phase 4 = (s.phase == 3)) := by show _ = _; unfold Cal.accB; rw [if_neg h0, if_neg h2, if_pos (.inl rfl)]; rfl
    go_enter Tryz.func258, Tryz.ntmps258
    go_wp2_with (first | (go_at_call 56; first | refine rin ?_ | refine rout ?_ | refine rany ?_) | ((first | (go_at_call 134) | (go_at_call 59) | (go_at_call 133) | (go_at_call 14) | (go_at_call 178) | (fail) | (go_at_call 139)); first | refine rin ?_ | refine rout ?_ | refine rany ?_))
    go_ret
    exact ⟨ret_bool hfin.out.symm, by exact blw⟩
  have b4 : (k == 4) = false := by simpa using h4
  by_cases h5 : k = 5
  · subst h5
    have hfin : Hid (Cal.accB s.phase 5 = (s.phase == 3)) := by show _ = _; unfold Cal.accB; rw [if_neg h0, if_neg h2, if_pos (.inr rfl)]; rfl
    go_enter Tryz.func258, Tryz.ntmps258
    go_wp2_with (first | (go_at_call 56; first | refine rin ?_ | refine rout ?_ | refine rany ?_) | ((first | (go_at_call 134) | (go_at_call 59) | (go_at_call 133) | (go_at_call 14) | (go_at_call 178) | (fail) | (go_at_call 139)); first | refine rin ?_ | refine rout ?_ | refine rany ?_))
    go_ret
    exact ⟨ret_bool hfin.out.symm, by exact blw⟩
  have b5 : (k == 5) = false := by simpa using h5
  have h45 : ¬ (k = 4 ∨ k = 5) := fun h => h.elim h4 h5
  by_cases h7 : k = 7
  · subst h7
    have hacc : Cal.accB s.phase 7 = decide (s.phase = 1 ∨ s.phase = 2 ∨ s.phase = 3) := by unfold Cal.accB; rw [if_neg h0, if_neg h2, if_neg h45, if_pos rfl]
    clear h0 h2 h4 h5 h45
    by_cases p1 : s.phase = 1
    · have hfin : Hid (Cal.accB s.phase 7 = true) := by show _ = _; rw [hacc, p1]; rfl
      clear hacc
      go_enter Tryz.func258, Tryz.ntmps258
      go_wp2_with (first | (go_at_call 56; first | refine rin ?_ | refine rout ?_ | refine rany ?_) | ((first | (go_at_call 134) | (go_at_call 59) | (go_at_call 133) | (go_at_call 14) | (go_at_call 178) | (fail) | (go_at_call 139)); first | refine rin ?_ | refine rout ?_ | refine rany ?_))
      go_ret
      exact ⟨ret_bool hfin.out.symm, by exact blw⟩
    have q1 : (s.phase == 1) = false := by simpa using p1
    by_cases p2 : s.phase = 2
    · have hfin : Hid (Cal.accB s.phase 7 = true) := by show _ = _; rw [hacc, p2]; rfl
      clear hacc p1
      go_enter Tryz.func258, Tryz.ntmps258
      go_wp2_with (first | (go_at_call 56; first | refine rin ?_ | refine rout ?_ | refine rany ?_) | ((first | (go_at_call 134) | (go_at_call 59) | (go_at_call 133) | (go_at_call 14) | (go_at_call 178) | (fail) | (go_at_call 139)); first | refine rin ?_ | refine rout ?_ | refine rany ?_))
      go_ret
      exact ⟨ret_bool hfin.out.symm, by exact blw⟩
    have q2 : (s.phase == 2) = false := by simpa using p2
    by_cases p3 : s.phase = 3
    · have hfin : Hid (Cal.accB s.phase 7 = true) := by show _ = _; rw [hacc, p3]; rfl
      clear hacc p1 p2
      go_enter Tryz.func258, Tryz.ntmps258
      go_wp2_with (first | (go_at_call 56; first | refine rin ?_ | refine rout ?_ | refine rany ?_) | ((first | (go_at_call 134) | (go_at_call 59) | (go_at_call 133) | (go_at_call 14) | (go_at_call 178) | (fail) | (go_at_call 139)); first | refine rin ?_ | refine rout ?_ | refine rany ?_))
      go_ret
      exact ⟨ret_bool hfin.out.symm, by exact blw⟩
    · have hfin : Hid (Cal.accB s.phase 7 = false) := by show _ = _; rw [hacc]; simp [p1, p2, p3]
      have q3 : (s.phase == 3) = false := by simpa using p3
      clear hacc p1 p2 p3
      go_enter Tryz.func258, Tryz.ntmps258
      go_wp2_with (first | (go_at_call 56; first | refine rin ?_ | refine rout ?_ | refine rany ?_) | ((first | (go_at_call 134) | (go_at_call 59) | (go_at_call 133) | (go_at_call 14) | (go_at_call 178) | (fail) | (go_at_call 139)); first | refine rin ?_ | refine rout ?_ | refine rany ?_))
      go_ret
      exact ⟨ret_bool hfin.out.symm, by exact blw⟩
  · have b7 : (k == 7) = false := by simpa using h7
    have hfin : Hid (Cal.accB s.phase k = (s.phase == 1)) := by show _ = _; unfold Cal.accB; rw [if_neg h0, if_neg h2, if_neg h45, if_neg h7]; rfl
    clear h0 h2 h4 h5 h7 h45
    go_enter Tryz.func258, Tryz.ntmps258
    go_wp2_with (first | (go_at_call 56; first | refine rin ?_ | refine rout ?_ | refine rany ?_) | ((first | (go_at_call 134) | (go_at_call 59) | (go_at_call 133) | (go_at_call 14) | (go_at_call 178) | (fail) | (go_at_call 139)); first | refine rin ?_ | refine rout ?_ | refine rany ?_))
    go_ret
    exact ⟨ret_bool hfin.out.symm, by exact blw⟩
theorem until_any (A : Option Addr) (c : Nat) (p : Proc) (s : NSt) (w : World) :
    Calls Tryz.prog 259 #[.agg #[.int .i64 p.runs.m, .int .i64 p.runs.d, .bool p.runs.k, .int .i64 p.obj.m, .int .i64 p.obj.d, .bool p.obj.k, .int .i64 p.wait.m, .int .i64 p.wait.d, .bool p.wait.k, .int .i64 p.exts, .int .i64 p.longest, .slice A p.hols.length c, .int .i64 s.phase, .int .i64 s.last, .int .i64 s.deadline, .int .i64 s.object, .int .i64 s.objected, .int .i64 s.extended]] w fun e w' => e = .returned (.int .i64 (min s.object s.deadline)) ∧ Below w.heap.size w w' := by
  by_cases h : s.object ≤ s.deadline
  · have hfin : Hid (min s.object s.deadline = s.object) := by show _ = _; omega
    go_enter Tryz.func259, Tryz.ntmps259
    go_wp2
    go_ret
    exact ⟨by first | rfl | exact ret_int hfin.out.symm, by exact blw⟩
  · have hfin : Hid (min s.object s.deadline = s.deadline) := by show _ = _; omega
    have h' : s.deadline ≤ s.object := by omega
    go_enter Tryz.func259, Tryz.ntmps259
    go_wp2
    go_ret
    exact ⟨by first | rfl | exact ret_int hfin.out.symm, by exact blw⟩
/-- A boxed state. -/
structure StAt (w : World) (B : Nat) (A : Option Addr) (c : Nat) (p : Proc) (s : NSt) : Prop where
  range : w.rangeAt B 0 [.int .i64 p.runs.m, .int .i64 p.runs.d, .bool p.runs.k, .int .i64 p.obj.m, .int .i64 p.obj.d, .bool p.obj.k, .int .i64 p.wait.m, .int .i64 p.wait.d, .bool p.wait.k, .int .i64 p.exts, .int .i64 p.longest, .slice A p.hols.length c, .int .i64 s.phase, .int .i64 s.last, .int .i64 s.deadline, .int .i64 s.object, .int .i64 s.objected, .int .i64 s.extended]
  lt : B < w.heap.size
theorem StAt.below {w w' : World} {B : Nat} {A : Option Addr} {c : Nat} {p : Proc} {s : NSt} (h : StAt w B A c p s) (hb : Below w.heap.size w w') : StAt w' B A c p s :=
  ⟨fun j v hv => (hb.cell (p := ⟨B, 0 + j, none⟩) h.lt).trans (h.range j v hv), Nat.lt_of_lt_of_le h.lt hb.size⟩
theorem StAt.new (w : World) (A : Option Addr) (c : Nat) (p : Proc) (s : NSt) (t : TypeId) : StAt (w.alloc (.cells #[.int .i64 p.runs.m, .int .i64 p.runs.d, .bool p.runs.k, .int .i64 p.obj.m, .int .i64 p.obj.d, .bool p.obj.k, .int .i64 p.wait.m, .int .i64 p.wait.d, .bool p.wait.k, .int .i64 p.exts, .int .i64 p.longest, .slice A p.hols.length c, .int .i64 s.phase, .int .i64 s.last, .int .i64 s.deadline, .int .i64 s.object, .int .i64 s.objected, .int .i64 s.extended] t)) w.heap.size A c p s :=
  ⟨fun j v hv => by rw [Nat.zero_add, cell_alloc_at, ← hv]; simp, by simp⟩
theorem StAt.all {w : World} {B : Nat} {A : Option Addr} {c : Nat} {p : Proc} {s : NSt} (h : StAt w B A c p s) : w.cell? ⟨B, 0, none⟩ = some (.int .i64 p.runs.m) ∧ w.cell? ⟨B, 1, none⟩ = some (.int .i64 p.runs.d) ∧ w.cell? ⟨B, 2, none⟩ = some (.bool p.runs.k) ∧ w.cell? ⟨B, 3, none⟩ = some (.int .i64 p.obj.m) ∧ w.cell? ⟨B, 4, none⟩ = some (.int .i64 p.obj.d) ∧ w.cell? ⟨B, 5, none⟩ = some (.bool p.obj.k) ∧ w.cell? ⟨B, 6, none⟩ = some (.int .i64 p.wait.m) ∧ w.cell? ⟨B, 7, none⟩ = some (.int .i64 p.wait.d) ∧ w.cell? ⟨B, 8, none⟩ = some (.bool p.wait.k) ∧ w.cell? ⟨B, 9, none⟩ = some (.int .i64 p.exts) ∧ w.cell? ⟨B, 10, none⟩ = some (.int .i64 p.longest) ∧ w.cell? ⟨B, 11, none⟩ = some (.slice A p.hols.length c) ∧ w.cell? ⟨B, 12, none⟩ = some (.int .i64 s.phase) ∧ w.cell? ⟨B, 13, none⟩ = some (.int .i64 s.last) ∧ w.cell? ⟨B, 14, none⟩ = some (.int .i64 s.deadline) ∧ w.cell? ⟨B, 15, none⟩ = some (.int .i64 s.object) ∧ w.cell? ⟨B, 16, none⟩ = some (.int .i64 s.objected) ∧ w.cell? ⟨B, 17, none⟩ = some (.int .i64 s.extended) :=
  ⟨h.range 0 _ rfl, h.range 1 _ rfl, h.range 2 _ rfl, h.range 3 _ rfl, h.range 4 _ rfl, h.range 5 _ rfl, h.range 6 _ rfl, h.range 7 _ rfl, h.range 8 _ rfl, h.range 9 _ rfl, h.range 10 _ rfl, h.range 11 _ rfl, h.range 12 _ rfl, h.range 13 _ rfl, h.range 14 _ rfl, h.range 15 _ rfl, h.range 16 _ rfl, h.range 17 _ rfl⟩
/-- A boxed act. -/
structure ActAt (w : World) (B : Nat) (a : NAct) : Prop where
  c0 : w.cell? ⟨B, 0, none⟩ = some (.int .i64 a.day)
  c1 : w.cell? ⟨B, 1, none⟩ = some (.int .i64 a.kind)
  c2 : w.cell? ⟨B, 2, none⟩ = some (.int .i64 a.days)
  lt : B < w.heap.size
theorem ActAt.below {w w' : World} {B : Nat} {a : NAct} (h : ActAt w B a) (hb : Below w.heap.size w w') : ActAt w' B a :=
  ⟨(hb.cell (p := ⟨B, 0, none⟩) h.lt).trans h.c0, (hb.cell (p := ⟨B, 1, none⟩) h.lt).trans h.c1, (hb.cell (p := ⟨B, 2, none⟩) h.lt).trans h.c2, Nat.lt_of_lt_of_le h.lt hb.size⟩
theorem ActAt.new (w : World) (a : NAct) (t : TypeId) : ActAt (w.alloc (.cells #[.int .i64 a.day, .int .i64 a.kind, .int .i64 a.days] t)) w.heap.size a := ⟨by simp, by simp, by simp, by simp⟩
theorem StAt.c9 {w : World} {B : Nat} {A : Option Addr} {c : Nat} {p : Proc} {s : NSt} (h : StAt w B A c p s) : w.cell? ⟨B, 9, none⟩ = some (.int .i64 p.exts) := h.range 9 _ rfl
theorem StAt.c10 {w : World} {B : Nat} {A : Option Addr} {c : Nat} {p : Proc} {s : NSt} (h : StAt w B A c p s) : w.cell? ⟨B, 10, none⟩ = some (.int .i64 p.longest) := h.range 10 _ rfl
theorem StAt.c11 {w : World} {B : Nat} {A : Option Addr} {c : Nat} {p : Proc} {s : NSt} (h : StAt w B A c p s) : w.cell? ⟨B, 11, none⟩ = some (.slice A p.hols.length c) := h.range 11 _ rfl
theorem StAt.c12 {w : World} {B : Nat} {A : Option Addr} {c : Nat} {p : Proc} {s : NSt} (h : StAt w B A c p s) : w.cell? ⟨B, 12, none⟩ = some (.int .i64 s.phase) := h.range 12 _ rfl
theorem StAt.c13 {w : World} {B : Nat} {A : Option Addr} {c : Nat} {p : Proc} {s : NSt} (h : StAt w B A c p s) : w.cell? ⟨B, 13, none⟩ = some (.int .i64 s.last) := h.range 13 _ rfl
theorem StAt.c14 {w : World} {B : Nat} {A : Option Addr} {c : Nat} {p : Proc} {s : NSt} (h : StAt w B A c p s) : w.cell? ⟨B, 14, none⟩ = some (.int .i64 s.deadline) := h.range 14 _ rfl
theorem StAt.c15 {w : World} {B : Nat} {A : Option Addr} {c : Nat} {p : Proc} {s : NSt} (h : StAt w B A c p s) : w.cell? ⟨B, 15, none⟩ = some (.int .i64 s.object) := h.range 15 _ rfl
theorem StAt.c16 {w : World} {B : Nat} {A : Option Addr} {c : Nat} {p : Proc} {s : NSt} (h : StAt w B A c p s) : w.cell? ⟨B, 16, none⟩ = some (.int .i64 s.objected) := h.range 16 _ rfl
theorem StAt.c17 {w : World} {B : Nat} {A : Option Addr} {c : Nat} {p : Proc} {s : NSt} (h : StAt w B A c p s) : w.cell? ⟨B, 17, none⟩ = some (.int .i64 s.extended) := h.range 17 _ rfl
theorem stSize : (Tryz.prog.info? 134).map (·.size) = some 18 := by kernel_rfl
end Go.Proofs.YtbegbajlagcbdaaGreatDoor
namespace Go.Proofs.YtbegbajlagcbdaaGreatDoor
open Go Go.RowKit
/-- A step that any order may take first; what it leaves is shown by the first of the two that are asked. -/
theorem tkH {P : Program} {ops : Array Oper} {Q : Exit → Act → World → Prop} {md : Region.Mode} {S : World → Prop} (i : Nat) {oi : Oper} {v : Value} {fuel : Nat} {listed : Array Bool} {a : Act} {w : World}
    (hy : ∀ w, S w → (execOp a.eval oi).run P w = .ok (.value v) w) (h : wpAnyH P md ops Q S fuel (listed.setIfInBounds i true) (a.put oi.dst v) w)
    (hi : ops[i]? = some oi := by exact rfl) (hs : Region.noSelect ops = true := by kernel_rfl) (hf : Region.free md ops listed i = true := by decide +kernel) (hr : (Region.ready md ops listed).contains i = true := by decide +kernel)
    (hQ : ∀ c a w, Q (.panic c) (a.put oi.dst v) w → Q (.panic c) a w := by exact fun _ _ _ h => h) (hw : Region.wanted oi (yielded ops a.tmps) = true := by kernel_rfl) (hS : S w := by assumption) : wpAnyH P md ops Q S (fuel + 1) listed a w :=
  wpAnyH_take hi hs hf hr hQ (Or.inl ⟨hw, hy⟩) hS h
end Go.Proofs.YtbegbajlagcbdaaGreatDoor
