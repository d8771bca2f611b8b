/- Chapter 8 and what it rests on: definitions and walks, part 48. -/
import Derived.Test.YtbinoelbjlgjkaaGreatDoorC14
import Derived.Test.YtbinoelbjlgjkaaGreatDoorC09
namespace Go.Proofs.YtbinoelbjlgjkaaGreatDoor
open Go Go.RowKit
theorem more_lt {l : List Prov} {p : Prov} {k : Nat} (h : k < l.length) : (l ++ [p])[k]? = l[k]? := by rw [List.getElem?_append_left h]
theorem more_last (l : List Prov) (p : Prov) : (l ++ [p])[l.length]? = some p := by simp
theorem Cal.frAt_more {l : List Prov} {p : Prov} {k : Nat} (h : k < l.length) : Cal.frAt (l ++ [p]) k = Cal.frAt l k := by unfold Cal.frAt; rw [more_lt h]
theorem Cal.takes_more {l : List Prov} {p q : Prov} {name : ByteArray} {holds known best : Int} (h : best < l.length) : Cal.takes (l ++ [p]) name holds known q best = Cal.takes l name holds known q best := by
  unfold Cal.takes
  by_cases hb : best < 0
  · simp [hb]
  · rw [Cal.frAt_more (by omega)]
theorem Cal.srcTo_more {l : List Prov} {p : Prov} {name : ByteArray} {holds known : Int} : ∀ k : Nat, k ≤ l.length → Cal.srcTo (l ++ [p]) name holds known k = Cal.srcTo l name holds known k
  | 0, _ => rfl
  | k + 1, h => by
    unfold Cal.srcTo
    rw [Cal.srcTo_more k (by omega), more_lt (by omega)]
    have := Cal.srcTo_lt l name holds known k
    rw [List.getElem?_eq_getElem (by omega)]
    simp only
    rw [Cal.takes_more (by omega)]
theorem Cal.src_more {l : List Prov} {p : Prov} {name : ByteArray} {holds known : Int} (h : known < p.en) : Cal.src (l ++ [p]) name holds known = Cal.src l name holds known := by
  unfold Cal.src
  rw [List.length_append, List.length_singleton]
  conv => lhs; unfold Cal.srcTo
  rw [more_last]
  simp only
  rw [if_neg, Cal.srcTo_more _ (Nat.le_refl _)]
  unfold Cal.takes
  simp only [Bool.and_eq_true, decide_eq_true_eq]
  omega
theorem Cal.valOf_more {l : List Prov} {p : Prov} {name : ByteArray} {holds known : Int} (h : known < p.en) : Cal.valOf (l ++ [p]) name holds known = Cal.valOf l name holds known := by
  unfold Cal.valOf
  rw [Cal.src_more h]
  have := Cal.srcTo_lt l name holds known l.length
  by_cases h0 : Cal.src l name holds known < 0
  · rw [if_pos h0, if_pos h0]
  · rw [if_neg h0, if_neg h0, more_lt (by unfold Cal.src at *; omega)]
theorem Cal.nextErr_ok {l : List Prov} {p : Prov} (h : Cal.nextErr l p = 0) : Cal.provsErr l = 0 ∧ Cal.provsErr (l ++ [p]) = 0 ∧ Cal.nextL l p = l ++ [p] := by
  have hL : Cal.nextL l p = l ++ [p] := by unfold Cal.nextL; rw [if_pos h]
  unfold Cal.nextErr at h
  split at h
  · rename_i h0
    split at h
    · rename_i h1; exact ⟨h0, h1, hL⟩
    · rename_i h1; exact absurd h h1
  · rename_i h0; exact absurd h h0
theorem Cal.atErr_next {l : List Prov} {p : Prov} (h : Cal.nextErr l p = 0) (ns : List Int) : Cal.atErr (l ++ [p]) ns = Cal.atErr l ns := by
  obtain ⟨h0, h1, _⟩ := Cal.nextErr_ok h
  unfold Cal.atErr
  rw [if_pos h0, if_pos h1]
theorem Cal.valueS_next {l : List Prov} {p : Prov} {name : ByteArray} {holds known : Int} (hE : Cal.nextErr l p = 0) (h : known < p.en) : Cal.valueS (l ++ [p]) name holds known = Cal.valueS l name holds known := by
  unfold Cal.valueS
  rw [Cal.atErr_next hE, Cal.src_more h, Cal.valOf_more h]
end Go.Proofs.YtbinoelbjlgjkaaGreatDoor
namespace Go.Proofs.YtbinoelbjlgjkaaGreatDoor
open Go Go.RowKit
theorem Cal.frs_more {l : List Prov} {p : Prov} {name : ByteArray} {known : Int} (h : known < p.en) : Cal.frs (l ++ [p]) name known = Cal.frs l name known := by
  unfold Cal.frs
  rw [List.filter_append]
  have : Cal.knows name known p = false := by
    cases hk : Cal.knows name known p
    · rfl
    · have := (Cal.knows_iff.1 hk).2; omega
  simp [this]
theorem Cal.chg_more {l : List Prov} {p : Prov} {name : ByteArray} {known : Int} (h : known < p.en) : ∀ (ds : List Int) (v : Int) (b : Bool), Cal.chg (l ++ [p]) name known ds v b = Cal.chg l name known ds v b
  | [], _, _ => rfl
  | d :: ds, v, b => by
    unfold Cal.chg
    rw [Cal.valOf_more h, Cal.chg_more h ds, Cal.chg_more h ds]
theorem Cal.chgL_more {l : List Prov} {p : Prov} {name : ByteArray} {known : Int} (h : known < p.en) : Cal.chgL (l ++ [p]) name known = Cal.chgL l name known := by
  unfold Cal.chgL
  rw [Cal.frs_more h, Cal.chg_more h]
theorem Cal.chgE_next {l : List Prov} {p : Prov} {name : ByteArray} {known : Int} (hE : Cal.nextErr l p = 0) (h : known < p.en) : Cal.chgE (l ++ [p]) name known = Cal.chgE l name known := by
  unfold Cal.chgE
  rw [Cal.atErr_next hE, Cal.frs_more h]
theorem Cal.chgR_next {l : List Prov} {p : Prov} {name : ByteArray} {known : Int} (hE : Cal.nextErr l p = 0) (h : known < p.en) : Cal.chgR (l ++ [p]) name known = Cal.chgR l name known := by
  unfold Cal.chgR
  rw [Cal.chgE_next hE h, Cal.chgL_more h]
end Go.Proofs.YtbinoelbjlgjkaaGreatDoor
