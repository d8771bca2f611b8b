/- The walks: Has, SameChanges and Changes of the reference. -/
import Derived.Test.YtoigamkldccnkaaDoorW35
import Derived.Deep.RegionHeld3
namespace Go.Proofs.YtoigamkldccnkaaDoor
open Go Go.RowKit
theorem intRows_at {w : World} {A : Option Addr} {zs : List Int} (h : RowsAt w A 1 (intRows zs)) {k : Nat} (hk : k < zs.length) : ∃ b o, A = some ⟨b, o, none⟩ ∧ b < w.heap.size ∧ w.cell? ⟨b, o + k, none⟩ = some (.int .i64 zs[k]) := by
  obtain ⟨b, o, hA, hb, hc⟩ := h k [.int .i64 zs[k]] (by simp [intRows, List.getElem?_eq_getElem hk])
  have := hc 0 _ rfl
  simp only [Nat.mul_one, Nat.add_zero] at this
  exact ⟨b, o, hA, hb, this⟩
def missTo (zs : List Int) (d : Int) (k : Nat) : Prop := ∀ (j : Nat) z, j < k → zs[j]? = some z → z ≠ d
def Cal.hasB (zs : List Int) (d : Int) : Bool := zs.contains d
theorem Cal.hasB_iff {zs : List Int} {d : Int} : Cal.hasB zs d = true ↔ d ∈ zs := List.contains_iff_mem
theorem Has_ints (A : Option Addr) (c : Nat) (zs : List Int) (d : Int) (w : World) (h : RowsAt w A 1 (intRows zs)) (hs : zs.length ≤ 1000000) :
    Calls Tryd.prog 97 #[.slice A zs.length c, .int .i64 d] w fun e w' => e = .returned (.bool (Cal.hasB zs d)) ∧ w = w' := by
  have h' := Lib.hid h
  have h0 : Hid (missTo zs d 0) := fun j z h _ => by omega
  clear h
  go_enter Tryd.func97, Tryd.ntmps97
  go_wp2
  go_loop [5] (fun i => ∃ k : Nat, k ≤ zs.length ∧ i = .int .i64 k ∧ Hid (missTo zs d k)) (fun i => zs.length - (intOf i).toNat)
  case atStart => exact ⟨0, Nat.zero_le _, rfl, h0⟩
  case round =>
    obtain ⟨k, hk, rfl, hm⟩ := hrel
    clear h0
    by_cases hlt : k < zs.length
    · obtain ⟨b, o, rfl, _, e1⟩ := intRows_at h'.out hlt
      have hzk := Lib.hid (List.getElem?_eq_getElem hlt)
      have hmem := Lib.hid (List.getElem_mem hlt)
      generalize zs[k] = z at *
      by_cases hz : z = d
      · have hfin : Hid (Cal.hasB zs d = true) := by show _ = _; rw [Cal.hasB_iff, ← hz]; exact hmem.out
        subst hz
        go_wp2
        go_ret
        exact ⟨ret_bool hfin.out.symm, rfl⟩
      · have hz' : (z == d) = false := by simpa using hz
        have hnx : Hid (missTo zs d (k + 1)) := fun j y hj hy => by
          rcases Nat.lt_or_ge j k with h | h
          · exact hm.out j y h hy
          · obtain rfl : j = k := by omega
            rw [hzk.out] at hy; cases hy; exact hz
        clear hz
        go_wp2
        go_round
        case rel => exact ⟨k + 1, by omega, by go_num, hnx⟩
        case measure => simp [intOf]; omega
    · obtain rfl : k = zs.length := by omega
      have hfin : Hid (Cal.hasB zs d = false) := by
        show _ = _
        rw [Bool.eq_false_iff]
        intro hc
        rw [Cal.hasB_iff] at hc
        obtain ⟨j, hj, he⟩ := List.getElem_of_mem hc
        exact hm.out j _ hj (List.getElem?_eq_getElem hj) he
      go_wp2
      go_ret
      exact ⟨ret_bool hfin.out.symm, rfl⟩
theorem SameChanges_any (A B : Option Addr) (c d : Nat) (l : List Chg) (w : World) (hA : RowsAt w A 3 (l.map Chg.cells)) (hB : RowsAt w B 3 (l.map Chg.cells)) (hs : l.length ≤ 1000000) :
    Calls Tryd.prog 57 #[.slice A l.length c, .slice B l.length d] w fun e w' => e = .returned (.bool true) ∧ Below w.heap.size w w' := by
  have hA' := Lib.hid hA
  have hB' := Lib.hid hB
  clear hA hB
  go_enter Tryd.func57, Tryd.ntmps57
  go_wp2
  go_loopw [5] (fun i wr => ∃ (k n : Nat), k ≤ l.length ∧ i = .int .i64 k ∧ wr = w.drewN n) (fun i _ => l.length - (intOf i).toNat)
  case atStart => exact ⟨0, 0, Nat.zero_le _, rfl, rfl⟩
  case round =>
    obtain ⟨k, n, hk, rfl, rfl⟩ := hrel
    by_cases hlt : k < l.length
    · have hk' : (l.map Chg.cells)[k]? = some l[k].cells := by simp [List.getElem?_eq_getElem hlt]
      obtain ⟨b, o, rfl, hbl, hc⟩ := hA'.out _ _ hk'
      obtain ⟨b', o', rfl, hbl', hc'⟩ := hB'.out _ _ hk'
      have c0 := hc 0 _ rfl
      have c1 := hc 1 _ rfl
      have c2 := hc 2 _ rfl
      have d0 := hc' 0 _ rfl
      have d1 := hc' 1 _ rfl
      have d2 := hc' 2 _ rfl
      generalize l[k] = p at *
      simp only [Nat.add_zero, ← Nat.add_assoc] at c0 c1 c2 d0 d1 d2
      clear hk' hc hc'
      go_wp2_with fail
      go_quiet (fail)
      go_wp2_with fail
      go_roundw
      case rel => exact ⟨k + 1, _, by omega, by go_num, rfl⟩
      case measure => simp [intOf]; omega
    · obtain rfl : k = l.length := by omega
      go_wp2
      go_ret
      exact ⟨rfl, below_drewN (Below.refl _ _) _⟩
/-! Parts of a slice of numbers. -/
theorem RowsAt.take {w : World} {A : Option Addr} {zs : List Int} (h : RowsAt w A 1 (intRows zs)) (k : Nat) : RowsAt w A 1 (intRows (zs.take k)) := fun j r hr => by
  refine h j r ?_
  unfold intRows at hr ⊢
  rw [List.map_take] at hr
  rw [List.getElem?_take] at hr
  split at hr
  · exact hr
  · cases hr
theorem RowsAt.drop {w : World} {A : Option Addr} {zs : List Int} (h : RowsAt w A 1 (intRows zs)) (k : Nat) : RowsAt w (A.map (·.add (k * 1))) 1 (intRows (zs.drop k)) := fun j r hr => by
  unfold intRows at hr
  rw [List.map_drop, List.getElem?_drop] at hr
  obtain ⟨b, o, hA, hb, hc⟩ := h _ r hr
  refine ⟨b, o + k, ?_, hb, fun i v hv => ?_⟩
  · rw [hA, Option.map_some, addr_add, Nat.mul_one]
  · have := hc i v hv
    rw [show o + k + (j * 1 + i) = o + ((k + j) * 1 + i) by omega]
    exact this
theorem sizeInt (w : World) : (sizeOf (Tryd.prog.elem 37)).run Tryd.prog w = .ok 1 w := by kernel_rfl
theorem undInts : Tryd.prog.underlying 37 = some (.slice (Tryd.prog.elem 37)) := by kernel_rfl
theorem IntsL.cutHi {w : World} {B c : Nat} {A : Option Addr} {zs : List Int} (h : IntsL w B (.slice A zs.length c) zs) {k : Nat} (hk : k ≤ zs.length) :
    ∃ A1 c1, (∀ w', (Instr.slice 37 (.slice A zs.length c) none (some (.int .i64 k)) none).run Tryd.prog w' = .ok (.slice A1 k c1) w') ∧ RowsAt w A1 1 (intRows (zs.take k)) := by
  obtain ⟨A0, c0, hv, hr⟩ := h.rows
  simp only [Value.slice.injEq] at hv
  obtain ⟨rfl, -, rfl⟩ := hv
  have hcap : zs.length ≤ c := by
    rcases h.own.2 with ⟨h1, h2⟩ | ⟨g, cap, cur, hv, _, _, h3, _⟩
    · omega
    · simp only [Value.slice.injEq, true_and] at hv; omega
  have hr1 := hr.take k
  refine ⟨if c = 0 then A else A.map (·.add (0 * 1)), c - 0, fun w' => ?_, ?_⟩
  · rw [run_slice_h w' 37 A zs.length c undInts .i64 k (by omega) (by omega), sizeInt]
    simp [Result.andThen, sliced]
  · split
    · exact hr1
    · have := hr1.drop 0
      rw [List.drop_zero] at this
      exact this
theorem IntsL.cutLo {w : World} {B c : Nat} {A : Option Addr} {zs : List Int} (h : IntsL w B (.slice A zs.length c) zs) {k : Nat} (hk : k ≤ zs.length) :
    ∃ A2 c2, (∀ w', (Instr.slice 37 (.slice A zs.length c) (some (.int .i64 k)) none none).run Tryd.prog w' = .ok (.slice A2 (zs.length - k) c2) w') ∧ RowsAt w A2 1 (intRows (zs.drop k)) := by
  obtain ⟨A0, c0, hv, hr⟩ := h.rows
  simp only [Value.slice.injEq] at hv
  obtain ⟨rfl, -, rfl⟩ := hv
  have hcap : zs.length ≤ c := by
    rcases h.own.2 with ⟨h1, h2⟩ | ⟨g, cap, cur, hv, _, _, h3, _⟩
    · omega
    · simp only [Value.slice.injEq, true_and] at hv; omega
  refine ⟨if c = k then A else A.map (·.add (k * 1)), c - k, fun w' => ?_, ?_⟩
  · rw [run_slice_l w' 37 A zs.length c undInts .i64 k (by omega) (by omega), sizeInt]
    simp [Result.andThen, sliced]
  · split
    · rename_i hck
      have : zs.drop k = [] := List.drop_eq_nil_of_le (by omega)
      rw [this]
      exact RowsAt.nil _ _ _
    · exact hr.drop k
/-! Insertion. -/
theorem Cal.ins_up {zs : List Int} {d : Int} {q : Nat} (hz : zs.Pairwise (· < ·)) (hd : d ∉ zs) (hq : q ≤ zs.length) (h1 : ∀ (j : Nat) z, q ≤ j → zs[j]? = some z → d < z) (h2 : ∀ z, 0 < q → zs[q - 1]? = some z → z ≤ d) : (zs.take q ++ [d] ++ zs.drop q).Pairwise (· < ·) := by
  have hz2 := hz
  rw [← List.take_append_drop q zs, List.pairwise_append] at hz2
  obtain ⟨p1, p2, p3⟩ := hz2
  rw [List.append_assoc, List.pairwise_append]
  have hlow : ∀ x ∈ zs.take q, x < d := fun x hx => by
    obtain ⟨j, hj, he⟩ := List.getElem_of_mem hx
    rw [List.length_take] at hj
    rw [List.getElem_take] at he
    have hq1 : q - 1 < zs.length := by omega
    have hl := h2 zs[q - 1] (by omega) (List.getElem?_eq_getElem hq1)
    have hle : zs[j] ≤ zs[q - 1] := by
      rcases Nat.lt_or_eq_of_le (show j ≤ q - 1 by omega) with h | h
      · exact Int.le_of_lt (List.pairwise_iff_getElem.1 hz j (q - 1) (by omega) hq1 h)
      · subst h; exact Int.le_refl _
    have hne : x ≠ d := fun h => hd (h ▸ List.mem_of_mem_take hx)
    omega
  have hhigh : ∀ x ∈ zs.drop q, d < x := fun x hx => by
    obtain ⟨j, hj, he⟩ := List.getElem_of_mem hx
    rw [List.length_drop] at hj
    rw [List.getElem_drop] at he
    exact h1 (q + j) x (by omega) (by rw [List.getElem?_eq_getElem (by omega), he])
  refine ⟨p1, ?_, ?_⟩
  · rw [List.singleton_append, List.pairwise_cons]
    exact ⟨hhigh, p2⟩
  · intro x hx y hy
    rw [List.singleton_append, List.mem_cons] at hy
    rcases hy with rfl | hy
    · exact hlow x hx
    · exact p3 x hx y hy
theorem Cal.ins_mem {zs : List Int} {d x : Int} {q : Nat} : x ∈ zs.take q ++ [d] ++ zs.drop q ↔ x = d ∨ x ∈ zs := by
  rw [List.mem_append, List.mem_append, List.mem_singleton]
  conv => rhs; rw [← List.take_append_drop q zs, List.mem_append]
  constructor
  · rintro ((h | h) | h)
    · exact .inr (.inl h)
    · exact .inl h
    · exact .inr (.inr h)
  · rintro (h | h | h)
    · exact .inl (.inr h)
    · exact .inl (.inl h)
    · exact .inr h
end Go.Proofs.YtoigamkldccnkaaDoor
