/- Chapter 8 and what it rests on: definitions and walks, part 05. -/
import Derived.Test.YtbinoelbjlgjkaaGreatDoorC04
import Derived.Laws.AppendOwnNone
import Derived.Deep.AppendLies
namespace Go.Proofs.YtbinoelbjlgjkaaGreatDoor
open Go Go.RowKit
def Cal.dayB (n : Int) : Bool := decide (0 ≤ n) && decide (n ≤ 200000)
theorem Cal.dayB_no {n : Int} (h : Cal.dayB n = false) : n < 0 ∨ 200000 < n := by unfold Cal.dayB at h; simp at h; omega
theorem Cal.dayB_yes {n : Int} (h : Cal.dayB n = true) : 0 ≤ n ∧ n ≤ 200000 := by unfold Cal.dayB at h; simp at h; omega
def Cal.daysB (ns : List Int) : Bool := ns.all Cal.dayB
def intRows (ns : List Int) : List (List Value) := ns.map fun n => [.int .i64 n]
def FirstBad (ns : List Int) (e : Ending) : Prop := ∃ r : Int, e = .returned (.int .i64 r) ∧ r ≤ ns.length ∧ ((Cal.daysB ns = true ∧ r = -1) ∨ (Cal.daysB ns = false ∧ 0 ≤ r))
def goodTo (ns : List Int) (k : Nat) : Prop := ∀ (j : Nat) n, j < k → ns[j]? = some n → Cal.dayB n = true
theorem goodTo_all {ns : List Int} (h : goodTo ns ns.length) : Cal.daysB ns = true := by
  unfold Cal.daysB; rw [List.all_eq_true]; intro n hn
  obtain ⟨j, hj, rfl⟩ := List.getElem_of_mem hn
  exact h j _ hj (List.getElem?_eq_getElem hj)
theorem bad_all {ns : List Int} {k : Nat} {n : Int} (h : ns[k]? = some n) (h2 : Cal.dayB n = false) : Cal.daysB ns = false := by
  unfold Cal.daysB; rw [List.all_eq_false]; exact ⟨n, List.mem_of_getElem? h, by simp [h2]⟩
theorem IndexFunc_any (A : Option Addr) (c : Nat) (ns : List Int) (w : World) (hl : RowsAt w A 1 (intRows ns)) (hsz : ns.length ≤ 1000000) :
    Calls Tryz.prog 190 #[.slice A ns.length c, .func (.func 134) #[] #[]] w fun e w' => FirstBad ns e ∧ w = w' := by
  have hl' := Lib.hid hl
  clear hl
  have h0 : Hid (goodTo ns 0) := fun j n h _ => by omega
  go_enter Tryz.func190, Tryz.ntmps190
  go_wp2
  go_loop [8] (fun i => ∃ k : Nat, k ≤ ns.length ∧ i = .int .i64 k ∧ Hid (goodTo ns k)) (fun i => ns.length - (intOf i).toNat)
  case atStart => exact ⟨0, Nat.zero_le _, rfl, h0⟩
  case round =>
    obtain ⟨k, hk, rfl, hgood⟩ := hrel
    clear h0
    by_cases hlt : k < ns.length
    · have hk' : ns[k]? = some ns[k] := List.getElem?_eq_getElem hlt
      obtain ⟨b, o, rfl, hbl, hc⟩ := hl'.out k [.int .i64 ns[k]] (by simp [intRows, hk'])
      have c0 := hc 0 _ rfl
      simp only [Nat.mul_one, Nat.add_zero] at c0
      clear hc
      generalize ns[k] = n at *
      cases hd : Cal.dayB n
      · have hn := Cal.dayB_no hd
        have hfin := Lib.hid (bad_all hk' hd)
        clear hk' hd
        go_wp2_with (first | (go_at_call 126; first | refine rin ?_ | refine rout ?_ | refine rany ?_) | go_in)
        go_ret
        exact ⟨⟨k, rfl, by omega, .inr ⟨hfin.out, by omega⟩⟩, rfl⟩
      · obtain ⟨n1, n2⟩ := Cal.dayB_yes hd
        have hg2 : Hid (goodTo ns (k + 1)) := fun j m hj hm => by
          rcases Nat.lt_or_ge j k with h | h
          · exact hgood.out j m h hm
          · obtain rfl : j = k := by omega
            rw [hk'] at hm; cases hm; exact hd
        clear hk' hd
        go_wp2_with (first | (go_at_call 126; first | refine rin ?_ | refine rout ?_ | refine rany ?_) | go_in)
        go_round
        case rel => exact ⟨k + 1, by omega, by go_num, hg2⟩
        case measure => simp [intOf]; omega
    · obtain rfl : k = ns.length := by omega
      have hfin := Lib.hid (goodTo_all hgood.out)
      go_wp2
      go_ret
      exact ⟨⟨-1, rfl, by omega, .inl ⟨hfin.out, rfl⟩⟩, rfl⟩
theorem ContainsFunc_any (A : Option Addr) (c : Nat) (ns : List Int) (w : World) (hl : RowsAt w A 1 (intRows ns)) (hsz : ns.length ≤ 1000000) :
    Calls Tryz.prog 133 #[.slice A ns.length c, .func (.func 134) #[] #[]] w fun e w' => e = .returned (.bool (!Cal.daysB ns)) ∧ w = w' := by
  have hl' := Lib.hid hl
  clear hl
  go_enter Tryz.func133, Tryz.ntmps133
  go_wp2_with (go_at_call 190; refine (IndexFunc_any _ _ ns _ hl'.out hsz).mono ?_; rintro e w' ⟨⟨r, rfl, hr1, hr2⟩, rfl⟩; have hr3 := Lib.hid hr2; clear hr2)
  go_ret
  refine ⟨ret_bool ?_, rfl⟩
  rcases hr3.out with ⟨h1, rfl⟩ | ⟨h1, h2⟩
  · rw [h1]; simp
  · rw [h1]; simp; omega
/-- The error of entries and of days. -/
def Cal.atErr (l : List Prov) (ns : List Int) : Int := if Cal.provsErr l = 0 then (if Cal.daysB ns = true then 0 else 2) else Cal.provsErr l
theorem checkAt_any (A : Option Addr) (c : Nat) (l : List Prov) (A2 : Option Addr) (c2 : Nat) (ns : List Int) (w : World) (hl : Provs w A l) (hn : RowsAt w A2 1 (intRows ns)) (hsz : ns.length ≤ 1000000) :
    Calls Tryz.prog 70 #[.slice A l.length c, .slice A2 ns.length c2] w fun e w' => e = .returned (.int .i64 (Cal.atErr l ns)) ∧ Below w.heap.size w w' := by
  have hl' := Lib.hid hl
  have hn' := Lib.hid (fun w1 (h : Below w.heap.size w w1) => hn.below h)
  clear hl hn
  by_cases h0 : Cal.provsErr l = 0
  · have h0z := Lib.hid h0
    have h1 : (Cal.provsErr l != 0) = false := by simpa using h0
    clear h0
    cases hd : Cal.daysB ns
    all_goals
      have hdd := Lib.hid hd
      go_enter Tryz.func70, Tryz.ntmps70
      go_wp2_with (first | (go_at_call 66; refine (CheckProvisions_any _ _ l _ hl'.out).mono ?_; rintro e w1 ⟨rfl, hb1⟩) | (go_at_call 133; refine (ContainsFunc_any _ _ ns _ (hn'.out _ hb1) hsz).mono ?_; rintro e w' ⟨rfl, rfl⟩))
      go_ret
      exact ⟨ret_int (by unfold Cal.atErr; rw [h0z.out, hdd.out]; rfl), hb1⟩
  · have h0z := Lib.hid h0
    have h1 : (Cal.provsErr l != 0) = true := by simpa using h0
    clear h0
    go_enter Tryz.func70, Tryz.ntmps70
    go_wp2_with (first | (go_at_call 66; refine (CheckProvisions_any _ _ l _ hl'.out).mono ?_; rintro e w1 ⟨rfl, hb1⟩))
    go_ret
    exact ⟨ret_int (by unfold Cal.atErr; rw [if_neg h0z.out]), hb1⟩
end Go.Proofs.YtbinoelbjlgjkaaGreatDoor
namespace Go.Proofs.YtbinoelbjlgjkaaGreatDoor
open Go Go.RowKit
theorem Cal.src_form {l : List Prov} {name : ByteArray} {holds known : Int} (h : ¬ Cal.src l name holds known < 0) : ∃ (q : Nat) (p : Prov), Cal.src l name holds known = q ∧ l[q]? = some p := by
  have := Cal.srcTo_lt l name holds known l.length
  obtain ⟨q, hq⟩ := Int.eq_ofNat_of_zero_le (show 0 ≤ Cal.src l name holds known by omega)
  have hlt : q < l.length := by unfold Cal.src at hq; omega
  exact ⟨q, l[q], hq, List.getElem?_eq_getElem hlt⟩
/-- What holds: a value, or none. -/
def Cal.valOf (l : List Prov) (name : ByteArray) (holds known : Int) : Int × Bool :=
  if Cal.src l name holds known < 0 then (0, false) else match l[(Cal.src l name holds known).toNat]? with | some p => if p.repeal = true then (0, false) else (p.value, true) | none => (0, false)
theorem Cal.valOf_some {l : List Prov} {name : ByteArray} {holds known : Int} {q : Nat} {p : Prov} (h : Cal.src l name holds known = q) (hp : l[q]? = some p) : Cal.valOf l name holds known = if p.repeal = true then (0, false) else (p.value, true) := by
  unfold Cal.valOf; rw [h, if_neg (by omega)]; simp [hp]
/-- The number of the entry that decides, and the error. -/
def Cal.sourceS (l : List Prov) (name : ByteArray) (holds known : Int) : Int × Int :=
  if Cal.atErr l [holds, known] = 0 then (if Cal.src l name holds known < 0 then (0, 6) else (Cal.src l name holds known, 0)) else (0, Cal.atErr l [holds, known])
/-- The value, and the error. -/
def Cal.valueS (l : List Prov) (name : ByteArray) (holds known : Int) : Int × Int :=
  if Cal.atErr l [holds, known] = 0 then (if Cal.src l name holds known < 0 then (0, 6) else if (Cal.valOf l name holds known).2 = true then ((Cal.valOf l name holds known).1, 0) else (0, 12)) else (0, Cal.atErr l [holds, known])
theorem atRows (w : World) (t : TypeId) (holds known : Int) : RowsAt (w.alloc (.cells #[.int .i64 holds, .int .i64 known] t)) (some ⟨w.heap.size, 0, none⟩) 1 (intRows [holds, known]) := fun k r hr => by
  refine ⟨w.heap.size, 0, rfl, by simp, fun j v hv => ?_⟩
  match k, hr with
  | 0, hr => simp [intRows] at hr; subst hr; match j, hv with | 0, hv => simp at hv; subst hv; simp
  | 1, hr => simp [intRows] at hr; subst hr; match j, hv with | 0, hv => simp at hv; subst hv; simp
theorem Source_any (A : Option Addr) (c : Nat) (l : List Prov) (name : ByteArray) (holds known : Int) (w : World) (hl : Provs w A l) :
    Calls Tryz.prog 69 #[.slice A l.length c, .string name, .agg #[.int .i64 holds, .int .i64 known]] w fun e w' => e = .returned (.tuple #[.int .i64 (Cal.sourceS l name holds known).1, .int .i64 (Cal.sourceS l name holds known).2]) ∧ Below w.heap.size w w' := by
  have hat := Lib.hid (atRows w 25 holds known)
  have hl' := Lib.hid (fun w1 (h : Below w.heap.size w w1) => hl.below h)
  have hba := Lib.hid (below_alloc w (.cells #[.int .i64 holds, .int .i64 known] 25))
  clear hl
  by_cases h0 : Cal.atErr l [holds, known] = 0
  · have h0z := Lib.hid h0
    have h1 : (Cal.atErr l [holds, known] != 0) = false := by simpa using h0
    clear h0
    by_cases h2 : Cal.src l name holds known < 0
    · have hfin : Hid (Cal.sourceS l name holds known = (0, 6)) := by show _ = _; unfold Cal.sourceS; rw [if_pos h0z.out, if_pos h2]
      go_enter Tryz.func69, Tryz.ntmps69
      go_wp2_with (first | (go_at_call 70; refine (checkAt_any _ _ l _ 2 [holds, known] _ (hl'.out _ hba.out) hat.out (by simp)).mono ?_; rintro e w1 ⟨rfl, hb1⟩; obtain ⟨hc1, hf1⟩ := bcell hb1) | (go_at_call 132; refine (source_any _ _ l _ _ _ _ (hl'.out _ (below_step hba.out hb1))).mono ?_; rintro e w2 ⟨rfl, hb2⟩))
      go_ret2
      exact ⟨by rw [hfin.out]; rfl, below_step (below_step hba.out hb1) hb2⟩
    · have hfin : Hid (Cal.sourceS l name holds known = (Cal.src l name holds known, 0)) := by show _ = _; unfold Cal.sourceS; rw [if_pos h0z.out, if_neg h2]
      go_enter Tryz.func69, Tryz.ntmps69
      go_wp2_with (first | (go_at_call 70; refine (checkAt_any _ _ l _ 2 [holds, known] _ (hl'.out _ hba.out) hat.out (by simp)).mono ?_; rintro e w1 ⟨rfl, hb1⟩; obtain ⟨hc1, hf1⟩ := bcell hb1) | (go_at_call 132; refine (source_any _ _ l _ _ _ _ (hl'.out _ (below_step hba.out hb1))).mono ?_; rintro e w2 ⟨rfl, hb2⟩))
      go_ret2
      exact ⟨by rw [hfin.out]; rfl, below_step (below_step hba.out hb1) hb2⟩
  · have h0z := Lib.hid h0
    have h1 : (Cal.atErr l [holds, known] != 0) = true := by simpa using h0
    clear h0
    have hfin : Hid (Cal.sourceS l name holds known = (0, Cal.atErr l [holds, known])) := by show _ = _; unfold Cal.sourceS; rw [if_neg h0z.out]
    go_enter Tryz.func69, Tryz.ntmps69
    go_wp2_with (first | (go_at_call 70; refine (checkAt_any _ _ l _ 2 [holds, known] _ (hl'.out _ hba.out) hat.out (by simp)).mono ?_; rintro e w1 ⟨rfl, hb1⟩; obtain ⟨hc1, hf1⟩ := bcell hb1))
    go_ret2
    exact ⟨by rw [hfin.out]; rfl, below_step hba.out hb1⟩
theorem Value_any (A : Option Addr) (c : Nat) (l : List Prov) (name : ByteArray) (holds known : Int) (w : World) (hl : Provs w A l) :
    Calls Tryz.prog 16 #[.slice A l.length c, .string name, .agg #[.int .i64 holds, .int .i64 known]] w fun e w' => e = .returned (.tuple #[.int .i64 (Cal.valueS l name holds known).1, .int .i64 (Cal.valueS l name holds known).2]) ∧ Below w.heap.size w w' := by
  have hl' := Lib.hid (fun w1 (h : Below w.heap.size w w1) => hl.below h)
  have hba := Lib.hid (below_alloc w (.cells #[.int .i64 holds, .int .i64 known] 25))
  clear hl
  by_cases h0 : Cal.atErr l [holds, known] = 0
  · have h0z := Lib.hid h0
    clear h0
    by_cases h2 : Cal.src l name holds known < 0
    · have hfin : Hid (Cal.valueS l name holds known = (0, 6)) := by show _ = _; unfold Cal.valueS; rw [if_pos h0z.out, if_pos h2]
      have hs : Cal.sourceS l name holds known = (0, 6) := by unfold Cal.sourceS; rw [if_pos h0z.out, if_pos h2]
      clear h2
      go_enter Tryz.func16, Tryz.ntmps16
      go_wp2_with (go_at_call 69; refine (Source_any _ _ l _ _ _ _ (hl'.out _ hba.out)).mono ?_; rintro e w1 ⟨rfl, hb1⟩; obtain ⟨hc1, hf1⟩ := bcell hb1)
      go_ret2
      exact ⟨by rw [hfin.out]; rfl, below_step hba.out hb1⟩
    · obtain ⟨q, p, hq, hp⟩ := Cal.src_form h2
      have hv := Cal.valOf_some hq hp
      have hs : Cal.sourceS l name holds known = ((q : Int), 0) := by unfold Cal.sourceS; rw [if_pos h0z.out, if_neg h2, hq]
      obtain ⟨b, o, rfl, hbl, c0, c1, c2, c3, c4⟩ := (hl'.out _ (Below.refl _ w)).at_ hp
      have hqs : q < l.length := (List.getElem?_eq_some_iff.1 hp).1
      have hsz := (hl'.out _ (Below.refl _ w)).size
      clear hp c0 c2 c3
      cases hr : p.repeal
      · have hfin : Hid (Cal.valueS l name holds known = (p.value, 0)) := by show _ = _; unfold Cal.valueS; rw [if_pos h0z.out, if_neg h2, hv, hr]; simp
        rw [hr] at c4
        clear hv hq h2 hr
        go_enter Tryz.func16, Tryz.ntmps16
        go_wp2_with (go_at_call 69; refine (Source_any _ _ l _ _ _ _ (hl'.out _ hba.out)).mono ?_; rintro e w1 ⟨rfl, hb1⟩; obtain ⟨hc1, hf1⟩ := bcell hb1)
        go_ret2
        exact ⟨by rw [hfin.out]; rfl, below_step hba.out hb1⟩
      · have hfin : Hid (Cal.valueS l name holds known = (0, 12)) := by show _ = _; unfold Cal.valueS; rw [if_pos h0z.out, if_neg h2, hv, hr]; simp
        rw [hr] at c4
        clear hv hq h2 hr
        go_enter Tryz.func16, Tryz.ntmps16
        go_wp2_with (go_at_call 69; refine (Source_any _ _ l _ _ _ _ (hl'.out _ hba.out)).mono ?_; rintro e w1 ⟨rfl, hb1⟩; obtain ⟨hc1, hf1⟩ := bcell hb1)
        go_ret2
        exact ⟨by rw [hfin.out]; rfl, below_step hba.out hb1⟩
  · have h0z := Lib.hid h0
    have h1 : (Cal.atErr l [holds, known] != 0) = true := by simpa using h0
    have hfin : Hid (Cal.valueS l name holds known = (0, Cal.atErr l [holds, known])) := by show _ = _; unfold Cal.valueS; rw [if_neg h0z.out]
    have hs : Cal.sourceS l name holds known = (0, Cal.atErr l [holds, known]) := by unfold Cal.sourceS; rw [if_neg h0z.out]
    clear h0
    go_enter Tryz.func16, Tryz.ntmps16
    go_wp2_with (go_at_call 69; refine (Source_any _ _ l _ _ _ _ (hl'.out _ hba.out)).mono ?_; rintro e w1 ⟨rfl, hb1⟩; obtain ⟨hc1, hf1⟩ := bcell hb1)
    go_ret2
    exact ⟨by rw [hfin.out]; rfl, below_step hba.out hb1⟩
theorem atErr_any (A : Option Addr) (c : Nat) (l : List Prov) (holds known : Int) (w : World) (hl : Provs w A l) :
    Calls Tryz.prog 14 #[.slice A l.length c, .agg #[.int .i64 holds, .int .i64 known]] w fun e w' => e = .returned (.int .i64 (Cal.atErr l [holds, known])) ∧ Below w.heap.size w w' := by
  have hl' := Lib.hid (fun w1 (h : Below w.heap.size w w1) => hl.below h)
  have hba := Lib.hid (below_alloc w (.cells #[.int .i64 holds, .int .i64 known] 25))
  clear hl
  by_cases h0 : Cal.provsErr l = 0
  · have h0z := Lib.hid h0
    have h1 : (Cal.provsErr l != 0) = false := by simpa using h0
    clear h0
    by_cases hh : 0 ≤ holds ∧ holds ≤ 200000
    · obtain ⟨hh1, hh2⟩ := hh
      by_cases hk : 0 ≤ known ∧ known ≤ 200000
      · obtain ⟨hk1, hk2⟩ := hk
        have hfin : Hid (Cal.atErr l [holds, known] = 0) := by show _ = _; unfold Cal.atErr Cal.daysB; rw [if_pos h0z.out]; simp [Cal.dayB, hh1, hh2, hk1, hk2]
        go_enter Tryz.func14, Tryz.ntmps14
        go_wp2_with (first | (go_at_call 54; refine (CheckProvisionsR_any _ _ l _ (hl'.out _ hba.out)).mono ?_; rintro e w1 ⟨rfl, hb1⟩; obtain ⟨hc1, hf1⟩ := bcell hb1) | (go_at_call 29; first | refine rin ?_ | refine rout ?_ | refine rany ?_))
        go_ret
        exact ⟨ret_int hfin.out.symm, below_step hba.out hb1⟩
      · have hk' : known < 0 ∨ 200000 < known := by omega
        have hfin : Hid (Cal.atErr l [holds, known] = 2) := by show _ = _; unfold Cal.atErr Cal.daysB; rw [if_pos h0z.out]; simp [Cal.dayB, hh1, hh2]; omega
        clear hk
        go_enter Tryz.func14, Tryz.ntmps14
        go_wp2_with (first | (go_at_call 54; refine (CheckProvisionsR_any _ _ l _ (hl'.out _ hba.out)).mono ?_; rintro e w1 ⟨rfl, hb1⟩; obtain ⟨hc1, hf1⟩ := bcell hb1) | (go_at_call 29; first | refine rin ?_ | refine rout ?_ | refine rany ?_))
        go_ret
        exact ⟨ret_int hfin.out.symm, below_step hba.out hb1⟩
    · have hh' : holds < 0 ∨ 200000 < holds := by omega
      have hfin : Hid (Cal.atErr l [holds, known] = 2) := by show _ = _; unfold Cal.atErr Cal.daysB; rw [if_pos h0z.out]; simp [Cal.dayB]; omega
      clear hh
      go_enter Tryz.func14, Tryz.ntmps14
      go_wp2_with (first | (go_at_call 54; refine (CheckProvisionsR_any _ _ l _ (hl'.out _ hba.out)).mono ?_; rintro e w1 ⟨rfl, hb1⟩; obtain ⟨hc1, hf1⟩ := bcell hb1) | (go_at_call 29; first | refine rin ?_ | refine rout ?_ | refine rany ?_))
      go_ret
      exact ⟨ret_int hfin.out.symm, below_step hba.out hb1⟩
  · have h0z := Lib.hid h0
    have h1 : (Cal.provsErr l != 0) = true := by simpa using h0
    have hfin : Hid (Cal.atErr l [holds, known] = Cal.provsErr l) := by show _ = _; unfold Cal.atErr; rw [if_neg h0z.out]
    clear h0
    go_enter Tryz.func14, Tryz.ntmps14
    go_wp2_with (first | (go_at_call 54; refine (CheckProvisionsR_any _ _ l _ (hl'.out _ hba.out)).mono ?_; rintro e w1 ⟨rfl, hb1⟩; obtain ⟨hc1, hf1⟩ := bcell hb1) | (go_at_call 29; first | refine rin ?_ | refine rout ?_ | refine rany ?_))
    go_ret
    exact ⟨ret_int hfin.out.symm, below_step hba.out hb1⟩
end Go.Proofs.YtbinoelbjlgjkaaGreatDoor
namespace Go.Proofs.YtbinoelbjlgjkaaGreatDoor
open Go Go.RowKit

theorem flat_get {m : Nat} : ∀ {rows : List (List Value)} {k j : Nat} {r : List Value} {v : Value}, (∀ r ∈ rows, r.length = m) → rows[k]? = some r → r[j]? = some v → rows.flatten[k * m + j]? = some v
  | [], k, _, _, _, _, h, _ => by simp at h
  | q :: rows, 0, j, r, v, hw, h, hv => by
    simp only [List.getElem?_cons_zero, Option.some.injEq] at h
    subst h
    rw [List.flatten_cons, Nat.zero_mul, Nat.zero_add, List.getElem?_append_left (List.getElem?_eq_some_iff.1 hv).1, hv]
  | q :: rows, k + 1, j, r, v, hw, h, hv => by
    simp only [List.getElem?_cons_succ] at h
    have hq := hw q (List.mem_cons_self ..)
    have ih := flat_get (fun r hr => hw r (List.mem_cons_of_mem _ hr)) h hv
    rw [List.flatten_cons, List.getElem?_append_right (by rw [hq, Nat.succ_mul]; omega), hq, show (k + 1) * m + j - m = k * m + j by rw [Nat.succ_mul]; omega, ih]
theorem flat_len {m : Nat} : ∀ {rows : List (List Value)}, (∀ r ∈ rows, r.length = m) → rows.flatten.length = rows.length * m
  | [], _ => by simp
  | q :: rows, hw => by
    rw [List.flatten_cons, List.length_append, hw q (List.mem_cons_self ..), flat_len (fun r hr => hw r (List.mem_cons_of_mem _ hr)), List.length_cons, Nat.succ_mul]; omega
/-- What lies at a place of the flat list, as a row's cell. -/
theorem flat_of {m : Nat} (hm : 0 < m) {rows : List (List Value)} (hw : ∀ r ∈ rows, r.length = m) {i : Nat} {v : Value} (h : rows.flatten[i]? = some v) : ∃ r, rows[i / m]? = some r ∧ r[i % m]? = some v := by
  have hl := (List.getElem?_eq_some_iff.1 h).1
  rw [flat_len hw] at hl
  have hk : i / m < rows.length := Nat.div_lt_of_lt_mul (by rw [Nat.mul_comm]; exact hl)
  have hr := List.getElem?_eq_getElem hk
  have hlen := hw _ (List.getElem_mem hk)
  have hj : i % m < rows[i / m].length := by rw [hlen]; exact Nat.mod_lt _ hm
  refine ⟨_, hr, ?_⟩
  have h2 := flat_get hw hr (List.getElem?_eq_getElem hj)
  rw [Nat.mul_comm, Nat.div_add_mod] at h2
  rw [List.getElem?_eq_getElem hj, ← h2, h]

/-- A slice value of the call's own (its block from B on) that reads as rows. -/
structure OwnL (w : World) (B : Nat) (E : TypeId) (m : Nat) (v : Value) (rows : List (List Value)) : Prop where
  own : w.ownsRow B E m v rows.length rows.flatten
  wid : ∀ r ∈ rows, r.length = m
  one : ∀ r ∈ rows, ∀ u ∈ r, u.oneCell' = true
theorem addr_add (g j : Nat) (o : Nat) : (⟨g, o, none⟩ : Addr).add j = ⟨g, o + j, none⟩ := by unfold Addr.add; split <;> simp_all
theorem OwnL.form {w : World} {B : Nat} {E : TypeId} {m : Nat} {v : Value} {rows : List (List Value)} (h : OwnL w B E m v rows) : ∃ A c, v = .slice A rows.length c ∧ RowsAt w A m rows := by
  obtain ⟨hown, hw, _⟩ := h
  have hc := fun g (hg : v.ownBlock = some g) => hown.cells hg
  rcases hown.2 with ⟨rfl, h0⟩ | ⟨g, cap, cur, rfl, _, hg, _⟩
  · exact ⟨none, 0, by rw [h0], fun k r hr => by rw [List.eq_nil_of_length_eq_zero h0] at hr; simp at hr⟩
  · refine ⟨_, _, rfl, fun k r hr => ⟨g, 0, rfl, (Array.getElem?_eq_some_iff.1 hg).1, fun j u hu => ?_⟩⟩
    have := hc g rfl _ u (flat_get hw hr hu)
    rw [addr_add] at this
    exact this
theorem OwnL.nil (w : World) (B : Nat) (E : TypeId) (m : Nat) : OwnL w B E m (.slice none 0 0) [] := ⟨World.ownsRow_nil w B E m, fun r h => (by simp at h), fun r h => (by simp at h)⟩
theorem OwnL.made (w : World) (B : Nat) (E : TypeId) (m : Nat) (hb : B ≤ w.heap.size) : OwnL (w.alloc (.cells #[] E)) B E m (.slice (some ⟨w.heap.size, 0, none⟩) 0 0) [] :=
  ⟨World.ownsRow_made w #[] 0 hb (Nat.zero_le _) (by simp), fun r h => (by simp at h), fun r h => (by simp at h)⟩
theorem OwnL.less {w : World} {B B' : Nat} {E : TypeId} {m : Nat} {v : Value} {rows : List (List Value)} (h : OwnL w B E m v rows) (hB : B' ≤ B) : OwnL w B' E m v rows := by
  refine ⟨⟨h.own.1, ?_⟩, h.wid, h.one⟩
  rcases h.own.2 with h | ⟨g, cap, cur, h1, h2, h3⟩
  · exact .inl h
  · exact .inr ⟨g, cap, cur, h1, by omega, h3⟩
theorem OwnL.kept {w w' : World} {row : Option Nat} {B : Nat} {E : TypeId} {m : Nat} {v : Value} {rows : List (List Value)} (h : OwnL w B E m v rows) (hg : w.grownBy w' row) (hne : v.ownBlock = none ∨ v.ownBlock ≠ row) : OwnL w' B E m v rows :=
  ⟨h.own.kept hg hne, h.wid, h.one⟩
theorem OwnL.below {w w' : World} {B : Nat} {E : TypeId} {m : Nat} {v : Value} {rows : List (List Value)} (h : OwnL w B E m v rows) (hb : Below w.heap.size w w') : OwnL w' B E m v rows :=
  h.kept (row := none) ⟨hb.os, hb.tape, hb.output, hb.size, fun i hi _ => hb.block i hi⟩ (by cases v.ownBlock <;> simp)
theorem OwnL.lt {w : World} {B : Nat} {E : TypeId} {m : Nat} {v : Value} {rows : List (List Value)} (h : OwnL w B E m v rows) : ∀ g, v.ownBlock = some g → B ≤ g ∧ g < w.heap.size := h.own.lt
/-- What is known of an element's type. -/
structure Elem (P : Program) (t e : TypeId) (m bytes : Nat) : Prop where
  und : P.underlying t = some (.slice e)
  info : ∃ i z, P.info? e = some i ∧ i.zero = some z ∧ i.size = m ∧ i.bytes = bytes ∧ z.cells.size = m
  pos : 0 < m
theorem Elem.mk' {P : Program} {t e : TypeId} {m bytes : Nat} {z : Value} (hu : P.underlying t = some (.slice e)) (h : (P.info? e).map (fun i => (i.zero, i.size, i.bytes)) = some (some z, m, bytes)) (hz : z.cells.size = m) (hm : 0 < m) : Elem P t e m bytes := by
  obtain ⟨i, hi, h1, h2, h3⟩ := info_parts h
  exact ⟨hu, ⟨i, z, hi, h1, h2, h3, hz⟩, hm⟩
theorem run_append_none_any {P : Program} {w : World} (base : Nat) (t ty e : TypeId) (i : TypeInfo) (size c : Nat) (ht : P.underlying t = some (.slice e)) (hi : P.info? e = some i)
    (v : Value) (n : Nat) (xs : List Value) (hown : w.ownsRow base e size v n xs) :
    (Builtin.append_ #[t, t] ty #[v, .slice none 0 c]).run P w = .ok v w := by
  rcases hown.2 with ⟨rfl, rfl⟩ | ⟨g, cap, cur, rfl, _, _, hnc, _⟩
  · simp [Builtin.append_, run_underlying ht, sizeOf, typeInfo, hi, Builtin.lenOf, Builtin.firstCells]
  · simp [Builtin.append_, run_underlying ht, sizeOf, typeInfo, hi, Builtin.lenOf, Builtin.firstCells, hnc, storeCells]
theorem run_append_rows {P : Program} {t e : TypeId} {m bytes : Nat} (el : Elem P t e m bytes) (ty : TypeId) {w : World} {B : Nat} {v : Value} {rows : List (List Value)} (h : OwnL w B e m v rows)
    {A : Option Addr} {n c : Nat} {rows2 : List (List Value)} (h2 : RowsAt w A m rows2) (hn : n = rows2.length) (hw : ∀ r ∈ rows2, r.length = m) (h1 : ∀ r ∈ rows2, ∀ u ∈ r, u.oneCell' = true)
    (h63 : rows.length + rows2.length ≤ 4000000000) (hby : bytes ≤ 10000) (hbase : B ≤ w.heap.size) :
    ∃ v' w', (Builtin.append_ #[t, t] ty #[v, .slice A n c]).run P w = .ok v' w' ∧ OwnL w' B e m v' (rows ++ rows2) ∧ w.grownBy w' v.ownBlock ∧ (v'.ownBlock = v.ownBlock ∨ v'.ownBlock = some w.heap.size) := by
  subst hn
  obtain ⟨i, z, hi, hz, hsize, hb, hzs⟩ := el.info
  have hwid : ∀ r ∈ rows ++ rows2, r.length = m := fun r hr => by rcases List.mem_append.1 hr with h' | h'; exact h.wid r h'; exact hw r h'
  have hone : ∀ r ∈ rows ++ rows2, ∀ u ∈ r, u.oneCell' = true := fun r hr => by rcases List.mem_append.1 hr with h' | h'; exact h.one r h'; exact h1 r h'
  have hml : 4000000000 * 10000 ≤ 140737488355328 := by decide
  have hbb : (rows.length + rows2.length) * bytes ≤ 140737488355328 := Nat.le_trans (Nat.mul_le_mul h63 hby) hml
  cases A with
  | none =>
    have h0 : rows2 = [] := by
      cases rows2 with
      | nil => rfl
      | cons q r => obtain ⟨b, o, hA, _⟩ := h2 0 q rfl; cases hA
    subst h0
    refine ⟨v, w, run_append_none_any (P := P) (w := w) B t ty e i m c el.und hi v _ _ h.own, ?_, ⟨rfl, rfl, rfl, Nat.le_refl _, fun _ _ _ => rfl⟩, .inl rfl⟩
    rw [List.append_nil]; exact h
  | some ad =>
    have hlen2 : rows2.flatten.length = rows2.length * m := flat_len hw
    have hnews : ∀ j u, rows2.flatten[j]? = some u → w.cell? (ad.add j) = some u := fun j u hu => by
      obtain ⟨r, hr, hru⟩ := flat_of el.pos hw hu
      obtain ⟨b, o, hA, _, hc⟩ := h2 _ r hr
      cases hA
      have := hc _ u hru
      rw [addr_add, ← this]
      rw [show j / m * m + j % m = j by rw [Nat.mul_comm]; exact Nat.div_add_mod ..]
    have hon : ∀ u ∈ rows2.flatten, u.oneCell' = true := fun u hu => by obtain ⟨r, hr, hur⟩ := List.mem_flatten.1 hu; exact h1 r hr u hur
    obtain ⟨v', w', hr, ho, hg, _, hob⟩ := run_append_own_at (P := P) w B t ty e i z m bytes el.und hi hz hsize hb hzs el.pos v rows.length rows.flatten h.own ad rows2.length c rows2.flatten hlen2 hnews hon (by unfold maxLen; omega) hbb hbase
    refine ⟨v', w', hr, ⟨?_, hwid, hone⟩, hg, hob⟩
    rw [List.length_append, List.flatten_append]; exact ho
theorem wp_of_append {P : Program} {w w' : World} {o : Oper} {a : Act} {K : Act → World → Prop} {Q : Exit → Act → World → Prop} (s x : Operand) (t : TypeId)
    (ho : o.op = .call { callee := .builtin .append, args := #[s, x], argTypes := #[t, t] }) {v u v' : Value} (hs : a.eval s = v) (hx : a.eval x = u)
    (hr : (Builtin.append_ #[t, t] o.type #[v, u]).run P w = .ok v' w') (h : K (a.put o.dst v') w') : o.wp P a w K Q := by
  unfold Oper.wp execOp
  simp only [ho, resolve, invoke, builtin, Sem.run_bind, Sem.run_pure, Result.andThen_ok, List.map_toArray, List.map_cons, List.map_nil, hs, hx, hr]
  exact h
/-- At the list of a plain region's operations. -/
theorem wpList_append_rows {P : Program} {t e : TypeId} {m bytes : Nat} (el : Elem P t e m bytes) {w : World} {ops : Array Oper} {rest : List Oper} {o : Oper} {a : Act} {Q : Exit → Act → World → Prop} (hgd : o.guard = none) (s x : Operand)
    (ho : o.op = .call { callee := .builtin .append, args := #[s, x], argTypes := #[t, t] }) {v : Value} {A : Option Addr} {n c : Nat} (hs : a.eval s = v) (hx : a.eval x = .slice A n c)
    {B : Nat} {rows : List (List Value)} (h : OwnL w B e m v rows) {rows2 : List (List Value)} (h2 : RowsAt w A m rows2) (hn : n = rows2.length) (hw : ∀ r ∈ rows2, r.length = m) (h1 : ∀ r ∈ rows2, ∀ u ∈ r, u.oneCell' = true)
    (h63 : rows.length + rows2.length ≤ 4000000000) (hby : bytes ≤ 10000) (hbase : B ≤ w.heap.size)
    (hK : ∀ v' w', OwnL w' B e m v' (rows ++ rows2) → w.grownBy w' v.ownBlock → (v'.ownBlock = v.ownBlock ∨ v'.ownBlock = some w.heap.size) → wpList P ops Q rest (a.put o.dst v') w') : wpList P ops Q (o :: rest) a w :=
  wpList_plain hgd fun _ hK' => by
    obtain ⟨v', w', hr, h3, h4, h5⟩ := run_append_rows el o.type h h2 hn hw h1 h63 hby hbase
    exact wp_of_append s x t ho hs hx hr (hK' _ _ (hK v' w' h3 h4 h5))
/-- At a step of a region that draws its order. -/
theorem step_append_rows {P : Program} {t e : TypeId} {m bytes : Nat} (el : Elem P t e m bytes) {w : World} {ops : Array Oper} {o : Oper} {a : Act} {K : Act → World → Prop} {Q : Exit → Act → World → Prop} {E : Prop} (hgd : o.guard = none) (s x : Operand)
    (ho : o.op = .call { callee := .builtin .append, args := #[s, x], argTypes := #[t, t] }) {v : Value} {A : Option Addr} {n c : Nat} (hs : a.eval s = v) (hx : a.eval x = .slice A n c)
    {B : Nat} {rows : List (List Value)} (h : OwnL w B e m v rows) {rows2 : List (List Value)} (h2 : RowsAt w A m rows2) (hn : n = rows2.length) (hw : ∀ r ∈ rows2, r.length = m) (h1 : ∀ r ∈ rows2, ∀ u ∈ r, u.oneCell' = true)
    (h63 : rows.length + rows2.length ≤ 4000000000) (hby : bytes ≤ 10000) (hbase : B ≤ w.heap.size)
    (hK : ∀ v' w', OwnL w' B e m v' (rows ++ rows2) → w.grownBy w' v.ownBlock → (v'.ownBlock = v.ownBlock ∨ v'.ownBlock = some w.heap.size) → K (a.put o.dst v') w') : if Region.wanted o (yielded ops a.tmps) = true then Oper.wp P o a w K Q else E := by
  have hwt : Region.wanted o (yielded ops a.tmps) = true := by simp [Region.wanted, hgd]
  rw [if_pos hwt]
  obtain ⟨v', w', hr, h3, h4, h5⟩ := run_append_rows el o.type h h2 hn hw h1 h63 hby hbase
  exact wp_of_append s x t ho hs hx hr (hK v' w' h3 h4 h5)
/-- A row that has just been laid into a block of its own. -/
theorem rowsAt_new (w : World) (r : List Value) (t : TypeId) : RowsAt (w.alloc (.cells r.toArray t)) (some ⟨w.heap.size, 0, none⟩) r.length [r] := fun k q hq => by
  match k, hq with
  | 0, hq =>
    simp only [List.getElem?_cons_zero, Option.some.injEq] at hq
    subst hq
    refine ⟨w.heap.size, 0, rfl, by simp, fun j v hv => ?_⟩
    rw [cell_of_row _ _ _ r.toArray t (0, 0) (heap_alloc_new w _)]
    simpa using hv
theorem grown_below {w w' : World} {B : Nat} {v : Value} (h : w.grownBy w' v.ownBlock) (hB : ∀ g, v.ownBlock = some g → B ≤ g) (hs : B ≤ w.heap.size) : Below B w w' :=
  (Below.refl _ _).grown h hs (fun k e => hB k e)
end Go.Proofs.YtbinoelbjlgjkaaGreatDoor
namespace Go.Proofs.YtbinoelbjlgjkaaGreatDoor
open Go Go.RowKit
theorem Cal.valOf_no {l : List Prov} {name : ByteArray} {holds known : Int} (h : Cal.src l name holds known < 0) : Cal.valOf l name holds known = (0, false) := by unfold Cal.valOf; rw [if_pos h]
set_option maxHeartbeats 1000000 in
theorem valueOf_any (A : Option Addr) (c : Nat) (l : List Prov) (name : ByteArray) (holds known : Int) (w : World) (hl : Provs w A l) :
    Calls Tryz.prog 68 #[.slice A l.length c, .string name, .int .i64 holds, .int .i64 known] w fun e w' => e = .returned (.agg #[.int .i64 (Cal.valOf l name holds known).1, .bool (Cal.valOf l name holds known).2]) ∧ Below w.heap.size w w' := by
  have hl' := Lib.hid (fun w1 (h : Below w.heap.size w w1) => hl.below h)
  have hba := Lib.hid (below_alloc w (.cells #[.int .i64 0, .bool false] 133))
  clear hl
  by_cases h2 : Cal.src l name holds known < 0
  · have hfin : Hid (Cal.valOf l name holds known = (0, false)) := Cal.valOf_no h2
    go_enter Tryz.func68, Tryz.ntmps68
    go_wp2_with (go_at_call 132; refine (source_any _ _ l _ _ _ _ (hl'.out _ hba.out)).mono ?_; rintro e w1 ⟨rfl, hb1⟩; obtain ⟨hc1, hf1⟩ := bcell hb1)
    refine bodyPost_ret (v := .agg #[.int .i64 (0), .bool false]) (by simp [results, Tryz.results68, go_sem, hc1]) rfl ⟨by rw [hfin.out], ?_⟩
    have hbw := below_step (below_alloc w _) hb1
    have hbs := hbw.size
    exact blw
  · obtain ⟨q, p, hq, hp⟩ := Cal.src_form h2
    have hv := Cal.valOf_some hq hp
    obtain ⟨b, o, rfl, hbl, c0, c1, c2, c3, c4⟩ := (hl'.out _ (Below.refl _ w)).at_ hp
    have hqs : q < l.length := (List.getElem?_eq_some_iff.1 hp).1
    have hsz := (hl'.out _ (Below.refl _ w)).size
    clear hp c0 c2 c3
    cases hr : p.repeal
    · have hfin : Hid (Cal.valOf l name holds known = (p.value, true)) := by show _ = _; rw [hv, hr]; simp
      rw [hr] at c4
      clear hv h2 hr
      go_enter Tryz.func68, Tryz.ntmps68
      go_wp2_with (go_at_call 132; refine (source_any _ _ l _ _ _ _ (hl'.out _ hba.out)).mono ?_; rintro e w1 ⟨rfl, hb1⟩; obtain ⟨hc1, hf1⟩ := bcell hb1)
      refine bodyPost_ret (v := .agg #[.int .i64 (p.value), .bool true]) (by simp [results, Tryz.results68, go_sem, hc1]) rfl ⟨by rw [hfin.out], ?_⟩
      have hbw := below_step (below_alloc w _) hb1
      have hbs := hbw.size
      exact blw
    · have hfin : Hid (Cal.valOf l name holds known = (0, false)) := by show _ = _; rw [hv, hr]; simp
      rw [hr] at c4
      clear hv h2 hr
      go_enter Tryz.func68, Tryz.ntmps68
      go_wp2_with (go_at_call 132; refine (source_any _ _ l _ _ _ _ (hl'.out _ hba.out)).mono ?_; rintro e w1 ⟨rfl, hb1⟩; obtain ⟨hc1, hf1⟩ := bcell hb1)
      refine bodyPost_ret (v := .agg #[.int .i64 (0), .bool false]) (by simp [results, Tryz.results68, go_sem, hc1]) rfl ⟨by rw [hfin.out], ?_⟩
      have hbw := below_step (below_alloc w _) hb1
      have hbs := hbw.size
      exact blw
set_option maxHeartbeats 1000000 in
theorem Has_any (A : Option Addr) (c : Nat) (l : List Prov) (name : ByteArray) (holds known : Int) (w : World) (hl : Provs w A l) :
    Calls Tryz.prog 77 #[.slice A l.length c, .string name, .agg #[.int .i64 holds, .int .i64 known]] w fun e w' => e = .returned (.tuple #[.int .i64 (Cal.valOf l name holds known).1, .bool (Cal.valOf l name holds known).2]) ∧ Below w.heap.size w w' := by
  have hl' := Lib.hid (fun w1 (h : Below w.heap.size w w1) => hl.below h)
  have hba := Lib.hid (below_alloc w (.cells #[.int .i64 holds, .int .i64 known] 25))
  clear hl
  by_cases h2 : Cal.src l name holds known < 0
  · have hfin : Hid (Cal.valOf l name holds known = (0, false)) := Cal.valOf_no h2
    go_enter Tryz.func77, Tryz.ntmps77
    go_wp2_with (go_at_call 141; refine (SourceR_any _ _ l _ _ _ _ (hl'.out _ hba.out)).mono ?_; rintro e w1 ⟨rfl, hb1⟩; obtain ⟨hc1, hf1⟩ := bcell hb1)
    go_ret2
    exact ⟨by rw [hfin.out]; rfl, below_step hba.out hb1⟩
  · obtain ⟨q, p, hq, hp⟩ := Cal.src_form h2
    have hv := Cal.valOf_some hq hp
    obtain ⟨b, o, rfl, hbl, c0, c1, c2, c3, c4⟩ := (hl'.out _ (Below.refl _ w)).at_ hp
    have hqs : q < l.length := (List.getElem?_eq_some_iff.1 hp).1
    have hsz := (hl'.out _ (Below.refl _ w)).size
    clear hp c0 c2 c3
    cases hr : p.repeal
    · have hfin : Hid (Cal.valOf l name holds known = (p.value, true)) := by show _ = _; rw [hv, hr]; simp
      rw [hr] at c4
      clear hv h2 hr
      go_enter Tryz.func77, Tryz.ntmps77
      go_wp2_with (go_at_call 141; refine (SourceR_any _ _ l _ _ _ _ (hl'.out _ hba.out)).mono ?_; rintro e w1 ⟨rfl, hb1⟩; obtain ⟨hc1, hf1⟩ := bcell hb1)
      go_ret2
      exact ⟨by rw [hfin.out]; rfl, below_step hba.out hb1⟩
    · have hfin : Hid (Cal.valOf l name holds known = (0, false)) := by show _ = _; rw [hv, hr]; simp
      rw [hr] at c4
      clear hv h2 hr
      go_enter Tryz.func77, Tryz.ntmps77
      go_wp2_with (go_at_call 141; refine (SourceR_any _ _ l _ _ _ _ (hl'.out _ hba.out)).mono ?_; rintro e w1 ⟨rfl, hb1⟩; obtain ⟨hc1, hf1⟩ := bcell hb1)
      go_ret2
      exact ⟨by rw [hfin.out]; rfl, below_step hba.out hb1⟩
theorem elemProv : Elem Tryz.prog 22 24 5 48 := Elem.mk' Tryz.underlying22 (z := .agg #[.string ⟨#[]⟩, .int .i64 0, .int .i64 0, .int .i64 0, .bool false]) (by kernel_rfl) rfl (by decide)
theorem provCells_wid (l : List Prov) : ∀ r ∈ l.map Prov.cells, r.length = 5 := fun r hr => by obtain ⟨p, _, rfl⟩ := List.mem_map.1 hr; rfl
theorem provCells_one (l : List Prov) : ∀ r ∈ l.map Prov.cells, ∀ u ∈ r, u.oneCell' = true := fun r hr u hu => by
  obtain ⟨p, _, rfl⟩ := List.mem_map.1 hr
  simp only [Prov.cells, List.mem_cons, List.not_mem_nil, or_false] at hu
  rcases hu with rfl | rfl | rfl | rfl | rfl <;> rfl
theorem OwnL.provs {w : World} {B : Nat} {E : TypeId} {v : Value} {l : List Prov} (h : OwnL w B E 5 v (l.map Prov.cells)) (hs : l.length ≤ 1000000) (hn : ∀ (k : Nat) p, l[k]? = some p → p.name.size ≤ maxLen) : ∃ A c, v = .slice A l.length c ∧ Provs w A l := by
  obtain ⟨A, c, hv, hr⟩ := h.form
  exact ⟨A, c, by rw [hv, List.length_map], hr, by omega, hn⟩
def ClonePost (w : World) (l : List Prov) (e : Ending) (w' : World) : Prop := ∃ v, e = .returned v ∧ OwnL w' w.heap.size 24 5 v (l.map Prov.cells) ∧ Below w.heap.size w w'
theorem Clone_any (A : Option Addr) (c : Nat) (l : List Prov) (w : World) (hl : Provs w A l) (hs : l.length ≤ 1000000) :
    Calls Tryz.prog 67 #[.slice A l.length c] w (ClonePost w l) := by
  cases A with
  | none =>
    have h0 : l = [] := by
      cases l with
      | nil => rfl
      | cons q r => obtain ⟨b, o, hA, _⟩ := hl.rows 0 q.cells rfl; cases hA
    subst h0
    have hnil := fun w => Lib.run_eql_slice_nil (P := Tryz.prog) w 22 24 none 0 c 0 0 Tryz.underlying22
    go_enter Tryz.func67, Tryz.ntmps67
    go_wp2
    go_ret
    exact ⟨_, rfl, OwnL.nil _ _ _ _, Below.refl _ _⟩
  | some a =>
    have hnil := fun w => Lib.run_eql_slice_nil (P := Tryz.prog) w 22 24 (some a) l.length c 0 0 Tryz.underlying22
    have hl' := Lib.hid (fun w1 (h : Below w.heap.size w w1) => hl.below h)
    have hw := Lib.hid (provCells_wid l)
    have h1 := Lib.hid (provCells_one l)
    clear hl
    go_enter Tryz.func67, Tryz.ntmps67
    go_wp2_with (at_builtin; refine wpList_append_rows elemProv rfl _ _ rfl rfl rfl (OwnL.made w w.heap.size _ 5 (Nat.le_refl _)) (hl'.out _ (below_alloc _ _)).rows (List.length_map ..).symm hw.out h1.out (by simp; omega) (by decide) (by simp) ?_; intro v' w1 hown hg _)
    go_ret
    exact ⟨_, rfl, by simpa using hown, (below_alloc _ _).trans (grown_below hg (fun g e => by cases e; exact Nat.le_refl _) (by simp))⟩
end Go.Proofs.YtbinoelbjlgjkaaGreatDoor
