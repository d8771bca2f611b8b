/- The plain law of changes: what holds on a day is what the last change up to it says. -/
import Derived.Test.YtoigamkldccnkaaDoorW37
namespace Go.Proofs.YtoigamkldccnkaaDoor
open Go Go.RowKit
theorem Cal.knows_iff {name : ByteArray} {known : Int} {p : Prov} : Cal.knows name known p = true ↔ (p.name.toList == name.toList) = true ∧ p.en ≤ known := by
  unfold Cal.knows; rw [Bool.and_eq_true, decide_eq_true_iff]
theorem Cal.takes_same {l : List Prov} {name : ByteArray} {known x y : Int} {p : Prov} (h : Cal.knows name known p = true → (p.fr ≤ x ↔ p.fr ≤ y)) (best : Int) : Cal.takes l name x known p best = Cal.takes l name y known p best := by
  unfold Cal.takes
  by_cases hk : Cal.knows name known p = true
  · have := h hk
    by_cases hx : p.fr ≤ x
    · simp [hx, this.1 hx]
    · simp [hx, mt this.2 hx]
  · have hk' : ((p.name.toList == name.toList) && decide (p.en ≤ known)) = false := by
      unfold Cal.knows at hk; simpa using hk
    cases h1 : p.name.toList == name.toList
    · rfl
    · rw [h1] at hk'
      simp only [Bool.true_and] at hk'
      simp [hk']
theorem Cal.src_same {l : List Prov} {name : ByteArray} {known x y : Int} (h : ∀ p ∈ l, Cal.knows name known p = true → (p.fr ≤ x ↔ p.fr ≤ y)) (k : Nat) : Cal.srcTo l name x known k = Cal.srcTo l name y known k := by
  induction k with
  | zero => rfl
  | succ k ih =>
    unfold Cal.srcTo
    rw [ih]
    split
    · rfl
    · rename_i p hp
      rw [Cal.takes_same (h p (List.mem_of_getElem? hp))]
theorem Cal.valOf_same {l : List Prov} {name : ByteArray} {known x y : Int} (h : ∀ d ∈ Cal.frs l name known, (d ≤ x ↔ d ≤ y)) : Cal.valOf l name x known = Cal.valOf l name y known := by
  have hs : Cal.src l name x known = Cal.src l name y known := Cal.src_same (fun p hp hk => h p.fr (by unfold Cal.frs; exact List.mem_map.2 ⟨p, List.mem_filter.2 ⟨hp, hk⟩, rfl⟩)) _
  unfold Cal.valOf
  rw [hs]
theorem Cal.src_none {l : List Prov} {name : ByteArray} {known x : Int} (h : ∀ d ∈ Cal.frs l name known, x < d) (k : Nat) : Cal.srcTo l name x known k = -1 := by
  induction k with
  | zero => rfl
  | succ k ih =>
    unfold Cal.srcTo
    rw [ih]
    split
    · rfl
    · rename_i p hp
      rw [if_neg]
      intro ht
      unfold Cal.takes at ht
      simp only [Bool.and_eq_true, decide_eq_true_eq] at ht
      have := h p.fr (by unfold Cal.frs; exact List.mem_map.2 ⟨p, List.mem_filter.2 ⟨List.mem_of_getElem? hp, Cal.knows_iff.2 ⟨ht.1, ht.2.1⟩⟩, rfl⟩)
      omega
theorem Cal.valOf_none {l : List Prov} {name : ByteArray} {known x : Int} (h : ∀ d ∈ Cal.frs l name known, x < d) : Cal.valOf l name x known = (0, false) := by
  refine Cal.valOf_no ?_
  unfold Cal.src
  rw [Cal.src_none h]; omega
theorem Cal.valOf_zero {l : List Prov} {name : ByteArray} {known x : Int} (h : (Cal.valOf l name x known).2 = false) : (Cal.valOf l name x known).1 = 0 := by
  by_cases h2 : Cal.src l name x known < 0
  · rw [Cal.valOf_no h2]
  · obtain ⟨q, p, hq, hp⟩ := Cal.src_form h2
    rw [Cal.valOf_some hq hp] at h ⊢
    split
    · rfl
    · rename_i hr; rw [if_neg hr] at h; cases h
/-- The state after the changes up to a day. -/
def Cal.upto (at0 : Int) : List Chg → Int → Bool → Int × Bool
  | [], v, h => (v, h)
  | c :: cs, v, h => if c.day ≤ at0 then Cal.upto at0 cs c.value c.holds else (v, h)
theorem Cal.chg_day {l : List Prov} {name : ByteArray} {known : Int} : ∀ {ds : List Int} {v : Int} {h : Bool}, ∀ c ∈ Cal.chg l name known ds v h, c.day ∈ ds
  | [], _, _, c, hc => by cases hc
  | d :: ds, v, h, c, hc => by
    unfold Cal.chg at hc
    split at hc
    · exact List.mem_cons_of_mem _ (Cal.chg_day c hc)
    · rcases List.mem_cons.1 hc with rfl | hc
      · exact List.mem_cons_self ..
      · exact List.mem_cons_of_mem _ (Cal.chg_day c hc)
theorem Cal.upto_after {at0 : Int} {cs : List Chg} {v : Int} {h : Bool} (hd : ∀ c ∈ cs, at0 < c.day) : Cal.upto at0 cs v h = (v, h) := by
  cases cs with
  | nil => rfl
  | cons c cs => unfold Cal.upto; rw [if_neg (by have := hd c (List.mem_cons_self ..); omega)]
theorem Cal.upto_chg {l : List Prov} {name : ByteArray} {known at0 : Int} : ∀ (ds pre : List Int) (v : Int) (h : Bool), (pre ++ ds).Pairwise (· < ·) → (∀ d ∈ Cal.frs l name known, d ∈ pre ++ ds) → (∀ d ∈ pre, d ≤ at0) →
    (∀ x, (∀ d ∈ pre, d ≤ x) → (∀ d ∈ ds, x < d) → Cal.valOf l name x known = (v, h)) → Cal.upto at0 (Cal.chg l name known ds v h) v h = Cal.valOf l name at0 known
  | [], pre, v, h, _, _, hp, hv => (hv at0 hp (fun d hd => by cases hd)).symm
  | d :: ds, pre, v, h, hpw, hm, hp, hv => by
    have hpw' := List.pairwise_append.1 hpw
    have hds := List.pairwise_cons.1 hpw'.2.1
    by_cases hd : d ≤ at0
    · have ih := Cal.upto_chg (l := l) (name := name) (known := known) (at0 := at0) ds (pre ++ [d]) (Cal.valOf l name d known).1 (Cal.valOf l name d known).2 (by simpa using hpw) (fun x hx => by simpa using hm x hx)
        (fun x hx => by rcases List.mem_append.1 hx with h | h
                        · exact hp x h
                        · rw [List.mem_singleton] at h; omega)
        (fun x h1 h2 => by
          refine Cal.valOf_same fun y hy => ?_
          have hdx := h1 d (by simp)
          rcases List.mem_append.1 (hm y hy) with h | h
          · have := hpw'.2.2 y h d (List.mem_cons_self ..)
            have := h1 y (List.mem_append_left _ h)
            omega
          · rcases List.mem_cons.1 h with rfl | h
            · omega
            · have := hds.1 y h
              have := h2 y h
              omega)
      unfold Cal.chg
      split
      · rename_i he
        rw [← he.1, ← he.2]; exact ih
      · unfold Cal.upto
        rw [if_pos hd]; exact ih
    · have hbig : ∀ y ∈ d :: ds, at0 < y := fun y hy => by
        rcases List.mem_cons.1 hy with rfl | h
        · omega
        · have := hds.1 y h; omega
      rw [Cal.upto_after (fun c hc => hbig _ (Cal.chg_day c hc))]
      exact (hv at0 hp hbig).symm
theorem Cal.upto_chgL (l : List Prov) (name : ByteArray) (known at0 : Int) : Cal.upto at0 (Cal.chgL l name known) 0 false = Cal.valOf l name at0 known := by
  have hs := Cal.ups_spec (Cal.frs l name known)
  refine Cal.upto_chg _ [] 0 false hs.1 (fun d hd => (hs.2 d).2 hd) (fun d hd => by cases hd) fun x _ hx => ?_
  exact Cal.valOf_none fun d hd => hx d ((hs.2 d).2 hd)
theorem Cal.valueS_of {l : List Prov} {name : ByteArray} {holds known : Int} (h : Cal.atErr l [holds, known] = 0) : (Cal.valueS l name holds known).1 = (Cal.valOf l name holds known).1 ∧ ((Cal.valueS l name holds known).2 == 0) = (Cal.valOf l name holds known).2 := by
  unfold Cal.valueS
  rw [if_pos h]
  by_cases h2 : Cal.src l name holds known < 0
  · rw [if_pos h2, Cal.valOf_no h2]; exact ⟨rfl, rfl⟩
  · rw [if_neg h2]
    cases hv : (Cal.valOf l name holds known).2
    · exact ⟨(Cal.valOf_zero hv).symm, rfl⟩
    · exact ⟨rfl, rfl⟩
theorem Cal.daysB_cons (n : Int) (ns : List Int) : Cal.daysB (n :: ns) = (Cal.dayB n && Cal.daysB ns) := rfl
theorem Cal.atErr_more {l : List Prov} {holds known : Int} (h : Cal.atErr l [known] = 0) (hd : Cal.dayB holds = true) : Cal.atErr l [holds, known] = 0 := by
  unfold Cal.atErr at h ⊢
  rw [Cal.daysB_cons, hd, Bool.true_and]; exact h
theorem Cal.frs_ups {l : List Prov} {name : ByteArray} {known : Int} : (0 < (Cal.ups (Cal.frs l name known)).length) ↔ Cal.frs l name known ≠ [] := by
  have hs := (Cal.ups_spec (Cal.frs l name known)).2
  constructor
  · intro h e; rw [e, Cal.ups_nil] at h; simp at h
  · intro h
    cases hq : Cal.frs l name known with
    | nil => exact absurd hq h
    | cons a b => rw [← hq]; exact List.length_pos_of_mem ((hs a).2 (by rw [hq]; exact List.mem_cons_self ..))
end Go.Proofs.YtoigamkldccnkaaDoor
