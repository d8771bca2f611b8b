/- The walks: Source, Value, valueOf (rule); Has, atErr (reference and statements). -/
import Derived.Test.YtoigamkldccnkaaDoorW16
namespace Go.Proofs.YtoigamkldccnkaaDoor
open Go Go.RowKit
theorem Cal.src_form {l : List Prov} {name : ByteArray} {holds known : Int} (h : ¬ Cal.src l name holds known < 0) : ∃ (q : Nat) (p : Prov), Cal.src l name holds known = q ∧ l[q]? = some p := by
  have := Cal.srcTo_lt l name holds known l.length
  obtain ⟨q, hq⟩ := Int.eq_ofNat_of_zero_le (show 0 ≤ Cal.src l name holds known by omega)
  have hlt : q < l.length := by unfold Cal.src at hq; omega
  exact ⟨q, l[q], hq, List.getElem?_eq_getElem hlt⟩
/-- What holds: a value, or none. -/
def Cal.valOf (l : List Prov) (name : ByteArray) (holds known : Int) : Int × Bool :=
  if Cal.src l name holds known < 0 then (0, false) else match l[(Cal.src l name holds known).toNat]? with | some p => if p.repeal = true then (0, false) else (p.value, true) | none => (0, false)
theorem Cal.valOf_some {l : List Prov} {name : ByteArray} {holds known : Int} {q : Nat} {p : Prov} (h : Cal.src l name holds known = q) (hp : l[q]? = some p) : Cal.valOf l name holds known = if p.repeal = true then (0, false) else (p.value, true) := by
  unfold Cal.valOf; rw [h, if_neg (by omega)]; simp [hp]
/-- The number of the entry that decides, and the error. -/
def Cal.sourceS (l : List Prov) (name : ByteArray) (holds known : Int) : Int × Int :=
  if Cal.atErr l [holds, known] = 0 then (if Cal.src l name holds known < 0 then (0, 6) else (Cal.src l name holds known, 0)) else (0, Cal.atErr l [holds, known])
/-- The value, and the error. -/
def Cal.valueS (l : List Prov) (name : ByteArray) (holds known : Int) : Int × Int :=
  if Cal.atErr l [holds, known] = 0 then (if Cal.src l name holds known < 0 then (0, 6) else if (Cal.valOf l name holds known).2 = true then ((Cal.valOf l name holds known).1, 0) else (0, 12)) else (0, Cal.atErr l [holds, known])
theorem atRows (w : World) (t : TypeId) (holds known : Int) : RowsAt (w.alloc (.cells #[.int .i64 holds, .int .i64 known] t)) (some ⟨w.heap.size, 0, none⟩) 1 (intRows [holds, known]) := fun k r hr => by
  refine ⟨w.heap.size, 0, rfl, by simp, fun j v hv => ?_⟩
  match k, hr with
  | 0, hr => simp [intRows] at hr; subst hr; match j, hv with | 0, hv => simp at hv; subst hv; simp
  | 1, hr => simp [intRows] at hr; subst hr; match j, hv with | 0, hv => simp at hv; subst hv; simp
theorem Source_any (A : Option Addr) (c : Nat) (l : List Prov) (name : ByteArray) (holds known : Int) (w : World) (hl : Provs w A l) :
    Calls Tryd.prog 17 #[.slice A l.length c, .string name, .agg #[.int .i64 holds, .int .i64 known]] w fun e w' => e = .returned (.tuple #[.int .i64 (Cal.sourceS l name holds known).1, .int .i64 (Cal.sourceS l name holds known).2]) ∧ Below w.heap.size w w' := by
  have hat := Lib.hid (atRows w 23 holds known)
  have hl' := Lib.hid (fun w1 (h : Below w.heap.size w w1) => hl.below h)
  have hba := Lib.hid (below_alloc w (.cells #[.int .i64 holds, .int .i64 known] 23))
  clear hl
  by_cases h0 : Cal.atErr l [holds, known] = 0
  · have h0z := Lib.hid h0
    have h1 : (Cal.atErr l [holds, known] != 0) = false := by simpa using h0
    clear h0
    by_cases h2 : Cal.src l name holds known < 0
    · have hfin : Hid (Cal.sourceS l name holds known = (0, 6)) := by show _ = _; unfold Cal.sourceS; rw [if_pos h0z.out, if_pos h2]
      go_enter Tryd.func17, Tryd.ntmps17
      go_wp2_with (first | (go_at_call 65; refine (checkAt_any _ _ l _ 2 [holds, known] _ (hl'.out _ hba.out) hat.out (by simp)).mono ?_; rintro e w1 ⟨rfl, hb1⟩; obtain ⟨hc1, hf1⟩ := bcell hb1) | (go_at_call 66; refine (source_any _ _ l _ _ _ _ (hl'.out _ (below_step hba.out hb1))).mono ?_; rintro e w2 ⟨rfl, hb2⟩))
      go_ret2
      exact ⟨by rw [hfin.out]; rfl, below_step (below_step hba.out hb1) hb2⟩
    · have hfin : Hid (Cal.sourceS l name holds known = (Cal.src l name holds known, 0)) := by show _ = _; unfold Cal.sourceS; rw [if_pos h0z.out, if_neg h2]
      go_enter Tryd.func17, Tryd.ntmps17
      go_wp2_with (first | (go_at_call 65; refine (checkAt_any _ _ l _ 2 [holds, known] _ (hl'.out _ hba.out) hat.out (by simp)).mono ?_; rintro e w1 ⟨rfl, hb1⟩; obtain ⟨hc1, hf1⟩ := bcell hb1) | (go_at_call 66; refine (source_any _ _ l _ _ _ _ (hl'.out _ (below_step hba.out hb1))).mono ?_; rintro e w2 ⟨rfl, hb2⟩))
      go_ret2
      exact ⟨by rw [hfin.out]; rfl, below_step (below_step hba.out hb1) hb2⟩
  · have h0z := Lib.hid h0
    have h1 : (Cal.atErr l [holds, known] != 0) = true := by simpa using h0
    clear h0
    have hfin : Hid (Cal.sourceS l name holds known = (0, Cal.atErr l [holds, known])) := by show _ = _; unfold Cal.sourceS; rw [if_neg h0z.out]
    go_enter Tryd.func17, Tryd.ntmps17
    go_wp2_with (first | (go_at_call 65; refine (checkAt_any _ _ l _ 2 [holds, known] _ (hl'.out _ hba.out) hat.out (by simp)).mono ?_; rintro e w1 ⟨rfl, hb1⟩; obtain ⟨hc1, hf1⟩ := bcell hb1))
    go_ret2
    exact ⟨by rw [hfin.out]; rfl, below_step hba.out hb1⟩
theorem Value_any (A : Option Addr) (c : Nat) (l : List Prov) (name : ByteArray) (holds known : Int) (w : World) (hl : Provs w A l) :
    Calls Tryd.prog 18 #[.slice A l.length c, .string name, .agg #[.int .i64 holds, .int .i64 known]] w fun e w' => e = .returned (.tuple #[.int .i64 (Cal.valueS l name holds known).1, .int .i64 (Cal.valueS l name holds known).2]) ∧ Below w.heap.size w w' := by
  have hl' := Lib.hid (fun w1 (h : Below w.heap.size w w1) => hl.below h)
  have hba := Lib.hid (below_alloc w (.cells #[.int .i64 holds, .int .i64 known] 23))
  clear hl
  by_cases h0 : Cal.atErr l [holds, known] = 0
  · have h0z := Lib.hid h0
    clear h0
    by_cases h2 : Cal.src l name holds known < 0
    · have hfin : Hid (Cal.valueS l name holds known = (0, 6)) := by show _ = _; unfold Cal.valueS; rw [if_pos h0z.out, if_pos h2]
      have hs : Cal.sourceS l name holds known = (0, 6) := by unfold Cal.sourceS; rw [if_pos h0z.out, if_pos h2]
      clear h2
      go_enter Tryd.func18, Tryd.ntmps18
      go_wp2_with (go_at_call 17; refine (Source_any _ _ l _ _ _ _ (hl'.out _ hba.out)).mono ?_; rintro e w1 ⟨rfl, hb1⟩; obtain ⟨hc1, hf1⟩ := bcell hb1)
      go_ret2
      exact ⟨by rw [hfin.out]; rfl, below_step hba.out hb1⟩
    · obtain ⟨q, p, hq, hp⟩ := Cal.src_form h2
      have hv := Cal.valOf_some hq hp
      have hs : Cal.sourceS l name holds known = ((q : Int), 0) := by unfold Cal.sourceS; rw [if_pos h0z.out, if_neg h2, hq]
      obtain ⟨b, o, rfl, hbl, c0, c1, c2, c3, c4⟩ := (hl'.out _ (Below.refl _ w)).at_ hp
      have hqs : q < l.length := (List.getElem?_eq_some_iff.1 hp).1
      have hsz := (hl'.out _ (Below.refl _ w)).size
      clear hp c0 c2 c3
      cases hr : p.repeal
      · have hfin : Hid (Cal.valueS l name holds known = (p.value, 0)) := by show _ = _; unfold Cal.valueS; rw [if_pos h0z.out, if_neg h2, hv, hr]; simp
        rw [hr] at c4
        clear hv hq h2 hr
        go_enter Tryd.func18, Tryd.ntmps18
        go_wp2_with (go_at_call 17; refine (Source_any _ _ l _ _ _ _ (hl'.out _ hba.out)).mono ?_; rintro e w1 ⟨rfl, hb1⟩; obtain ⟨hc1, hf1⟩ := bcell hb1)
        go_ret2
        exact ⟨by rw [hfin.out]; rfl, below_step hba.out hb1⟩
      · have hfin : Hid (Cal.valueS l name holds known = (0, 12)) := by show _ = _; unfold Cal.valueS; rw [if_pos h0z.out, if_neg h2, hv, hr]; simp
        rw [hr] at c4
        clear hv hq h2 hr
        go_enter Tryd.func18, Tryd.ntmps18
        go_wp2_with (go_at_call 17; refine (Source_any _ _ l _ _ _ _ (hl'.out _ hba.out)).mono ?_; rintro e w1 ⟨rfl, hb1⟩; obtain ⟨hc1, hf1⟩ := bcell hb1)
        go_ret2
        exact ⟨by rw [hfin.out]; rfl, below_step hba.out hb1⟩
  · have h0z := Lib.hid h0
    have h1 : (Cal.atErr l [holds, known] != 0) = true := by simpa using h0
    have hfin : Hid (Cal.valueS l name holds known = (0, Cal.atErr l [holds, known])) := by show _ = _; unfold Cal.valueS; rw [if_neg h0z.out]
    have hs : Cal.sourceS l name holds known = (0, Cal.atErr l [holds, known]) := by unfold Cal.sourceS; rw [if_neg h0z.out]
    clear h0
    go_enter Tryd.func18, Tryd.ntmps18
    go_wp2_with (go_at_call 17; refine (Source_any _ _ l _ _ _ _ (hl'.out _ hba.out)).mono ?_; rintro e w1 ⟨rfl, hb1⟩; obtain ⟨hc1, hf1⟩ := bcell hb1)
    go_ret2
    exact ⟨by rw [hfin.out]; rfl, below_step hba.out hb1⟩
theorem atErr_any (A : Option Addr) (c : Nat) (l : List Prov) (holds known : Int) (w : World) (hl : Provs w A l) :
    Calls Tryd.prog 19 #[.slice A l.length c, .agg #[.int .i64 holds, .int .i64 known]] w fun e w' => e = .returned (.int .i64 (Cal.atErr l [holds, known])) ∧ Below w.heap.size w w' := by
  have hl' := Lib.hid (fun w1 (h : Below w.heap.size w w1) => hl.below h)
  have hba := Lib.hid (below_alloc w (.cells #[.int .i64 holds, .int .i64 known] 23))
  clear hl
  by_cases h0 : Cal.provsErr l = 0
  · have h0z := Lib.hid h0
    have h1 : (Cal.provsErr l != 0) = false := by simpa using h0
    clear h0
    by_cases hh : 0 ≤ holds ∧ holds ≤ 200000
    · obtain ⟨hh1, hh2⟩ := hh
      by_cases hk : 0 ≤ known ∧ known ≤ 200000
      · obtain ⟨hk1, hk2⟩ := hk
        have hfin : Hid (Cal.atErr l [holds, known] = 0) := by show _ = _; unfold Cal.atErr Cal.daysB; rw [if_pos h0z.out]; simp [Cal.dayB, hh1, hh2, hk1, hk2]
        go_enter Tryd.func19, Tryd.ntmps19
        go_wp2_with (first | (go_at_call 53; refine (CheckProvisionsR_any _ _ l _ (hl'.out _ hba.out)).mono ?_; rintro e w1 ⟨rfl, hb1⟩; obtain ⟨hc1, hf1⟩ := bcell hb1) | (go_at_call 32; first | (refine (calls_in (IsDay_any _ _) ?_ ?_).mono ?_; omega; omega; rintro e w' ⟨rfl, rfl⟩) | (refine (calls_out (IsDay_any _ _) ?_).mono ?_; omega; rintro e w' ⟨rfl, rfl⟩) | (refine (IsDay_any _ _).mono ?_; rintro e w' ⟨rfl, rfl⟩)))
        go_ret
        exact ⟨ret_int hfin.out.symm, below_step hba.out hb1⟩
      · have hk' : known < 0 ∨ 200000 < known := by omega
        have hfin : Hid (Cal.atErr l [holds, known] = 2) := by show _ = _; unfold Cal.atErr Cal.daysB; rw [if_pos h0z.out]; simp [Cal.dayB, hh1, hh2]; omega
        clear hk
        go_enter Tryd.func19, Tryd.ntmps19
        go_wp2_with (first | (go_at_call 53; refine (CheckProvisionsR_any _ _ l _ (hl'.out _ hba.out)).mono ?_; rintro e w1 ⟨rfl, hb1⟩; obtain ⟨hc1, hf1⟩ := bcell hb1) | (go_at_call 32; first | (refine (calls_in (IsDay_any _ _) ?_ ?_).mono ?_; omega; omega; rintro e w' ⟨rfl, rfl⟩) | (refine (calls_out (IsDay_any _ _) ?_).mono ?_; omega; rintro e w' ⟨rfl, rfl⟩) | (refine (IsDay_any _ _).mono ?_; rintro e w' ⟨rfl, rfl⟩)))
        go_ret
        exact ⟨ret_int hfin.out.symm, below_step hba.out hb1⟩
    · have hh' : holds < 0 ∨ 200000 < holds := by omega
      have hfin : Hid (Cal.atErr l [holds, known] = 2) := by show _ = _; unfold Cal.atErr Cal.daysB; rw [if_pos h0z.out]; simp [Cal.dayB]; omega
      clear hh
      go_enter Tryd.func19, Tryd.ntmps19
      go_wp2_with (first | (go_at_call 53; refine (CheckProvisionsR_any _ _ l _ (hl'.out _ hba.out)).mono ?_; rintro e w1 ⟨rfl, hb1⟩; obtain ⟨hc1, hf1⟩ := bcell hb1) | (go_at_call 32; first | (refine (calls_in (IsDay_any _ _) ?_ ?_).mono ?_; omega; omega; rintro e w' ⟨rfl, rfl⟩) | (refine (calls_out (IsDay_any _ _) ?_).mono ?_; omega; rintro e w' ⟨rfl, rfl⟩) | (refine (IsDay_any _ _).mono ?_; rintro e w' ⟨rfl, rfl⟩)))
      go_ret
      exact ⟨ret_int hfin.out.symm, below_step hba.out hb1⟩
  · have h0z := Lib.hid h0
    have h1 : (Cal.provsErr l != 0) = true := by simpa using h0
    have hfin : Hid (Cal.atErr l [holds, known] = Cal.provsErr l) := by show _ = _; unfold Cal.atErr; rw [if_neg h0z.out]
    clear h0
    go_enter Tryd.func19, Tryd.ntmps19
    go_wp2_with (first | (go_at_call 53; refine (CheckProvisionsR_any _ _ l _ (hl'.out _ hba.out)).mono ?_; rintro e w1 ⟨rfl, hb1⟩; obtain ⟨hc1, hf1⟩ := bcell hb1) | (go_at_call 32; first | (refine (calls_in (IsDay_any _ _) ?_ ?_).mono ?_; omega; omega; rintro e w' ⟨rfl, rfl⟩) | (refine (calls_out (IsDay_any _ _) ?_).mono ?_; omega; rintro e w' ⟨rfl, rfl⟩) | (refine (IsDay_any _ _).mono ?_; rintro e w' ⟨rfl, rfl⟩)))
    go_ret
    exact ⟨ret_int hfin.out.symm, below_step hba.out hb1⟩
end Go.Proofs.YtoigamkldccnkaaDoor
