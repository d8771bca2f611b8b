/- Chapter 8 and what it rests on: definitions and walks, part 08. -/
import Derived.Lib.IndexBytes
import Derived.Lib.IndexLaws
import Derived.Lib.Split
import Derived.Lib.CountLaws
import Derived.Lib.AtoiTie
import Derived.Lib.AtoiAllCases
import Derived.Lib.ItoaNum
import Derived.Lib.ItoaMem
import Derived.Lib.Strings
import Derived.Test.YtbegbajlagcbdaaGreatDoorC07
import Derived.Test.YtbegbajlagcbdaaGreatDoorC05
namespace Go.Proofs.YtbegbajlagcbdaaGreatDoor.Cal
open Go.Lib
/-- A text divided at each byte c. -/
def cutT (c : UInt8) : List UInt8 → List (List UInt8)
  | [] => [[]]
  | x :: r => if x = c then [] :: cutT c r else (x :: (cutT c r).headD []) :: (cutT c r).tail
theorem cutT_ne (c : UInt8) (l : List UInt8) : cutT c l ≠ [] := by
  cases l with
  | nil => simp [cutT]
  | cons x r => unfold cutT; split <;> simp
theorem cutT_free {c : UInt8} {a : List UInt8} (h : c ∉ a) : cutT c a = [a] := by
  induction a with
  | nil => rfl
  | cons x r ih =>
    have hx : x ≠ c := fun e => h (e ▸ List.mem_cons_self)
    rw [cutT, if_neg hx, ih (fun hm => h (List.mem_cons_of_mem _ hm))]; rfl
theorem cutT_sep {c : UInt8} {a : List UInt8} (h : c ∉ a) (r : List UInt8) : cutT c (a ++ c :: r) = a :: cutT c r := by
  induction a with
  | nil => rw [List.nil_append, cutT, if_pos rfl]
  | cons x t ih =>
    have hx : x ≠ c := fun e => h (e ▸ List.mem_cons_self)
    rw [List.cons_append, cutT, if_neg hx, ih (fun hm => h (List.mem_cons_of_mem _ hm))]; rfl
theorem cutT_length (c : UInt8) (l : List UInt8) : (cutT c l).length = l.count c + 1 := by
  induction l with
  | nil => rfl
  | cons x r ih =>
    unfold cutT
    split
    · next h => subst h; rw [List.length_cons, ih, List.count_cons_self]
    · next h =>
      have hn := cutT_ne c r
      rw [List.length_cons, List.length_tail, ih, List.count_cons_of_ne h]
      omega
theorem cutT_mem {c : UInt8} : ∀ {l x : List UInt8}, x ∈ cutT c l → c ∉ x ∧ x.length ≤ l.length
  | [], x, h => by
    simp only [cutT, List.mem_singleton] at h
    subst h
    simp
  | y :: r, x, h => by
    unfold cutT at h
    split at h
    · rcases List.mem_cons.1 h with rfl | h
      · simp
      · obtain ⟨h1, h2⟩ := cutT_mem h
        exact ⟨h1, by rw [List.length_cons]; omega⟩
    · next hy =>
      rcases List.mem_cons.1 h with rfl | h
      · have hh : (cutT c r).headD [] ∈ cutT c r := by
          cases he : cutT c r with
          | nil => exact absurd he (cutT_ne c r)
          | cons a b => simp
        obtain ⟨h1, h2⟩ := cutT_mem hh
        refine ⟨fun hm => ?_, by rw [List.length_cons, List.length_cons]; omega⟩
        rcases List.mem_cons.1 hm with e | hm
        · exact hy e.symm
        · exact h1 hm
      · obtain ⟨h1, h2⟩ := cutT_mem (List.mem_of_mem_tail h)
        exact ⟨h1, by rw [List.length_cons]; omega⟩
/-- A cut that is under way: pieces that are done, a piece that has begun. -/
structure CutTo (c : UInt8) (l : List UInt8) (out : List (List UInt8)) (st i : Nat) : Prop where
  all : out ++ cutT c (l.drop st) = cutT c l
  free : c ∉ (l.drop st).take (i - st)
  le : st ≤ i
theorem CutTo.start (c : UInt8) (l : List UInt8) : CutTo c l [] 0 0 := ⟨rfl, by simp, Nat.le_refl _⟩
theorem CutTo.hit {c : UInt8} {l : List UInt8} {out : List (List UInt8)} {st i : Nat} (h : CutTo c l out st i) (hi : l[i]? = some c) : CutTo c l (out ++ [(l.drop st).take (i - st)]) (i + 1) (i + 1) := by
  have hle := h.le
  have hlt : i < l.length := (List.getElem?_eq_some_iff.1 hi).1
  have e : l.drop st = (l.drop st).take (i - st) ++ c :: l.drop (i + 1) := by
    conv => lhs; rw [← List.take_append_drop (i - st) (l.drop st)]
    rw [List.drop_drop, show st + (i - st) = i by omega, List.drop_eq_getElem_cons hlt]
    rw [List.getElem?_eq_getElem hlt] at hi
    rw [Option.some.inj hi]
  refine ⟨?_, by simp, Nat.le_refl _⟩
  rw [← h.all]
  conv => rhs; rw [e]
  rw [cutT_sep h.free, List.append_assoc]
  rfl
theorem CutTo.miss {c : UInt8} {l : List UInt8} {out : List (List UInt8)} {st i : Nat} {x : UInt8} (h : CutTo c l out st i) (hi : l[i]? = some x) (hx : x ≠ c) : CutTo c l out st (i + 1) := by
  have hle := h.le
  refine ⟨h.all, ?_, by omega⟩
  rw [show i + 1 - st = (i - st) + 1 by omega, List.take_add_one]
  have e : (l.drop st)[i - st]? = some x := by rw [List.getElem?_drop, show st + (i - st) = i by omega]; exact hi
  rw [e]
  simp only [Option.toList_some, List.mem_append, List.mem_singleton, not_or]
  exact ⟨h.free, fun e => hx e.symm⟩
theorem CutTo.done {c : UInt8} {l : List UInt8} {out : List (List UInt8)} {st : Nat} (h : CutTo c l out st l.length) : cutT c l = out ++ [l.drop st] := by
  have hf := h.free
  rw [List.take_of_length_le (by rw [List.length_drop]; omega)] at hf
  rw [← h.all, cutT_free hf]
theorem CutTo.len {c : UInt8} {l : List UInt8} {out : List (List UInt8)} {st i : Nat} (h : CutTo c l out st i) : out.length ≤ l.length := by
  have h1 := congrArg List.length h.all
  rw [List.length_append, cutT_length, cutT_length] at h1
  have := List.count_le_length (a := c) (l := l)
  omega
/-- The library's Split at one byte. -/
theorem index_byte_cases (l : List UInt8) (c : UInt8) : (index l [c] = -1 ∧ c ∉ l) ∨ ∃ i : Nat, index l [c] = i ∧ i < l.length ∧ c ∉ l.take i ∧ l = l.take i ++ c :: l.drop (i + 1) := by
  rcases index_spec l [c] with ⟨h1, h2⟩ | ⟨i, h1, h2, h3, h4⟩
  · refine .inl ⟨h1, fun hm => ?_⟩
    rw [index_one] at h1
    obtain ⟨k, hk, he⟩ := List.getElem_of_mem hm
    exact indexByte_none h1 k (by rw [List.getElem?_eq_getElem hk, he])
  · right
    have h1' := h1
    rw [index_one] at h1'
    obtain ⟨q1, q2⟩ := indexByte_some h1'
    obtain ⟨hlt, he⟩ := List.getElem?_eq_some_iff.1 q1
    refine ⟨i, h1, hlt, fun hm => ?_, ?_⟩
    · obtain ⟨k, hk, he2⟩ := List.getElem_of_mem hm
      rw [List.length_take] at hk
      rw [List.getElem_take] at he2
      exact q2 k (by omega) (by rw [List.getElem?_eq_getElem (by omega), he2])
    · conv => lhs; rw [← List.take_append_drop i l]
      rw [List.drop_eq_getElem_cons hlt, he]
theorem countB_one (c : UInt8) : ∀ (n : Nat) (s : ByteArray), s.data.toList.length ≤ n → countB s ⟨#[c]⟩ = s.data.toList.count c
  | 0, s, h => by
    have e : s.data.toList = [] := by cases hl : s.data.toList <;> simp_all
    show count s.data.toList [c] = _
    rw [e]
    rfl
  | n + 1, s, h => by
    rcases index_byte_cases s.data.toList c with ⟨h1, h2⟩ | ⟨i, h1, h2, h3, h4⟩
    · rw [countB_miss _ _ h1, List.count_eq_zero_of_not_mem h2]
    · have hs1 : (⟨#[c]⟩ : ByteArray).size = 1 := rfl
      rw [countB_hit s ⟨#[c]⟩ i (Nat.le_refl 1) h1, countB_one c n _ (by rw [extract_to_end, List.length_drop, hs1]; omega), extract_to_end]
      conv => rhs; rw [h4]
      rw [List.count_append, List.count_eq_zero_of_not_mem h3, List.count_cons_self]
      show 1 + (s.data.toList.drop (i + 1)).count c = _
      omega
theorem splitB_one (c : UInt8) : ∀ (k : Nat) (s : ByteArray), s.data.toList.count c ≤ k → (splitB ⟨#[c]⟩ 0 k s).map (fun x => x.data.toList) = cutT c s.data.toList
  | 0, s, h => by
    have hn : c ∉ s.data.toList := fun hm => by have := List.count_pos_iff.2 hm; omega
    rw [splitB_zero, cutT_free hn]
    rfl
  | k + 1, s, h => by
    rcases index_byte_cases s.data.toList c with ⟨h1, h2⟩ | ⟨i, h1, h2, h3, h4⟩
    · rw [splitB_miss _ _ _ _ h1, cutT_free h2]
      rfl
    · have hc : (s.data.toList.drop (i + 1)).count c ≤ k := by
        rw [h4, List.count_append, List.count_cons_self] at h
        have hl : (s.data.toList.take i ++ c :: s.data.toList.drop (i + 1)).drop (i + 1) = s.data.toList.drop (i + 1) := by rw [← h4]
        omega
      rw [splitB_hit _ _ _ _ i h1, List.map_cons, splitB_one c k _ (by rw [extract_to_end]; exact hc), extract_to_end]
      have e0 : (s.extract 0 (i + 0)).data.toList = s.data.toList.take i := by
        have := extract_toList s 0 (i + 0)
        rw [ByteArray.toList_eq] at this
        rw [this]
        simp
      rw [e0]
      conv => rhs; rw [h4]
      rw [cutT_sep h3]
      rfl
end Go.Proofs.YtbegbajlagcbdaaGreatDoor.Cal
namespace Go.Proofs.YtbegbajlagcbdaaGreatDoor.Cal
open Go.Lib
/-- How the reference reads a number of at most so many digits. -/
def numS (l : List UInt8) (digits : Nat) : Int × Bool :=
  let rest := if l.head? = some 45 then l.tail else l
  if rest.length < 1 ∨ digits < rest.length then (0, false) else
  match decNat rest with
  | none => (0, false)
  | some m => (if l.head? = some 45 then -(m : Int) else m, decide (itoa (if l.head? = some 45 then -(m : Int) else m) = l))
/-- How the program reads a number. -/
def numR (l : List UInt8) : Int × Bool :=
  match atoiAll l with
  | .ok v => (v, decide (itoa v = l) && decide ((trimPrefix l [45]).length ≤ 10))
  | .syntax => (0, false)
  | .range => (atoiSat l, false)
theorem decDigits_digit {u : Nat} : ∀ b ∈ decDigits u, 48 ≤ b.toNat ∧ b.toNat ≤ 57 := by
  induction u using Nat.strongRecOn with
  | ind u ih =>
    intro b hb
    rw [decDigits] at hb
    split at hb
    · next h =>
      rw [List.mem_singleton] at hb
      subst hb
      rw [UInt8.toNat_ofNat']
      omega
    · next h =>
      rcases List.mem_append.1 hb with hb | hb
      · exact ih (u / 10) (by omega) b hb
      · rw [List.mem_singleton] at hb
        subst hb
        rw [UInt8.toNat_ofNat']
        omega
theorem decDigits_nonempty (u : Nat) : decDigits u ≠ [] := fun h => by
  have h1 := decDigits_length u
  have h2 := nDigits_pos u
  rw [h] at h1
  simp at h1
  omega
theorem decFrom_append : ∀ (a : List UInt8) (acc : Nat) (b : UInt8) (n d : Nat), decFrom acc a = some n → digitVal b = some d → decFrom acc (a ++ [b]) = some (n * 10 + d)
  | [], acc, b, n, d, h, hd => by
    simp only [decFrom] at h
    cases h
    simp only [List.nil_append, decFrom, hd]
  | x :: r, acc, b, n, d, h, hd => by
    simp only [decFrom] at h
    split at h
    · next e he =>
      simp only [List.cons_append, decFrom, he]
      exact decFrom_append r _ b n d h hd
    · cases h
theorem digitVal_of {u : Nat} (h : u < 10) : digitVal (UInt8.ofNat (48 + u)) = some u := by
  unfold digitVal
  rw [UInt8.toNat_ofNat', if_pos (by omega)]
  congr 1
  omega
theorem decFrom_digits (u : Nat) : decFrom 0 (decDigits u) = some u := by
  induction u using Nat.strongRecOn with
  | ind u ih =>
    rw [decDigits]
    split
    · next h =>
      simp only [decFrom, digitVal_of h]
      congr 1
      omega
    · next h =>
      rw [decFrom_append _ 0 _ (u / 10) (u % 10) (ih (u / 10) (by omega)) (digitVal_of (by omega))]
      congr 1
      omega
theorem decNat_digits (u : Nat) : decNat (decDigits u) = some u := by
  unfold decNat
  rw [if_neg (by rw [List.isEmpty_iff]; exact decDigits_nonempty u)]
  exact decFrom_digits u
theorem decDigits_head (u : Nat) {c : UInt8} (hc : c.toNat < 48) : (decDigits u).head? ≠ some c := fun h => by
  have := (decDigits_digit c (List.mem_of_head? h)).1
  omega
/-- The numerals of numbers that the provisions have. -/
theorem numS_itoa {n : Int} (h0 : -1000000000 ≤ n) (h1 : n ≤ 1000000000) : numS (itoa n) 10 = (n, true) := by
  have hlen : ∀ u : Nat, u ≤ 1000000000 → 1 ≤ (decDigits u).length ∧ (decDigits u).length ≤ 10 := fun u hu => by
    rw [decDigits_length]
    refine ⟨nDigits_pos u, ?_⟩
    rcases Nat.lt_or_ge 10 (nDigits u) with h | h
    · exfalso
      have h2 := decDigits_length u
      rcases Nat.lt_or_ge u 10 with h3 | h3
      · rw [nDigits_small h3] at h; omega
      · have h4 : ∀ k u : Nat, u < 10 ^ k → 1 ≤ k → nDigits u ≤ k := by
          intro k
          induction k with
          | zero => intro u _ h; omega
          | succ k ih =>
            intro u hu _
            by_cases h10 : u < 10
            · rw [nDigits_small h10]; omega
            · rw [nDigits_big h10]
              have hk : 1 ≤ k := by
                rcases Nat.eq_zero_or_pos k with e | e
                · subst e; simp at hu; omega
                · exact e
              have := ih (u / 10) (by rw [Nat.pow_succ] at hu; omega) hk
              omega
        have := h4 10 u (by omega) (by omega)
        omega
    · exact h
  unfold numS
  by_cases hn : n < 0
  · have e : itoa n = 45 :: decDigits n.natAbs := by unfold itoa; rw [if_pos hn]
    have hl := hlen n.natAbs (by omega)
    rw [e]
    simp only [List.head?_cons, if_true, List.tail_cons]
    rw [if_neg (by omega), decNat_digits]
    have e2 : -((n.natAbs : Nat) : Int) = n := by omega
    simp only [e2, e, decide_true]
  · have e : itoa n = decDigits n.toNat := by unfold itoa; rw [if_neg hn]
    have hl := hlen n.toNat (by omega)
    have hh : (decDigits n.toNat).head? ≠ some 45 := decDigits_head _ (by decide)
    rw [e]
    simp only [if_neg hh]
    rw [if_neg (by omega), decNat_digits]
    have e2 : ((n.toNat : Nat) : Int) = n := by omega
    simp only [e2, e, decide_true]
theorem numS_false_long {l : List UInt8} (h : 18 < l.length) : (numS l 10).2 = false := by
  unfold numS
  have : 10 < (if l.head? = some 45 then l.tail else l).length := by
    split
    · rw [List.length_tail]; omega
    · omega
  simp only
  rw [if_pos (.inr this)]
theorem trimPrefix_minus (r : List UInt8) : trimPrefix (45 :: r) [45] = r := by simp [trimPrefix, hasPrefix]
theorem trimPrefix_other {l : List UInt8} (h : l.head? ≠ some 45) : trimPrefix l [45] = l := by
  cases l with
  | nil => simp [trimPrefix, hasPrefix]
  | cons b r =>
    have hb : b ≠ 45 := fun e => h (by rw [e]; rfl)
    simp [trimPrefix, hasPrefix, List.isPrefixOf, Ne.symm hb]
theorem num_same (l : List UInt8) : (numR l).2 = (numS l 10).2 ∧ ((numS l 10).2 = true → (numR l).1 = (numS l 10).1) := by
  rcases Nat.lt_or_ge 18 l.length with hl | hl
  · rw [numS_false_long hl]
    refine ⟨?_, fun h => by cases h⟩
    unfold numR
    split
    · have : ¬ (trimPrefix l [45]).length ≤ 10 := by
        by_cases hh : l.head? = some 45
        · cases l with
          | nil => simp at hh
          | cons b r =>
            simp only [List.head?_cons, Option.some.injEq] at hh
            subst hh
            rw [trimPrefix_minus]
            simp at hl
            omega
        · rw [trimPrefix_other hh]; omega
      simp [this]
    · rfl
    · rfl
  · unfold numR
    rw [atoiAll_short l hl]
    cases l with
    | nil => simp [atoi, NumEnd.ofOption, numS]
    | cons b r =>
      by_cases h45 : b = 45
      · subst h45
        have e : atoi (45 :: r) = (decNat r).map fun (m : Nat) => -(m : Int) := by simp [atoi]
        rw [e, trimPrefix_minus]
        unfold numS
        simp only [List.head?_cons, if_true, List.tail_cons]
        cases hd : decNat r with
        | none =>
          simp only [Option.map_none, NumEnd.ofOption]
          split <;> simp
        | some m =>
          simp only [Option.map_some, NumEnd.ofOption]
          have hr : 1 ≤ r.length := by
            cases r with
            | nil => simp [decNat] at hd
            | cons _ _ => simp
          by_cases h10 : 10 < r.length
          · rw [if_pos (.inr h10)]
            have : ¬ r.length ≤ 10 := by omega
            simp [this]
          · rw [if_neg (by omega)]
            have : r.length ≤ 10 := by omega
            simp [this]
      · by_cases h43 : b = 43
        · subst h43
          have e : atoi (43 :: r) = (decNat r).map fun (m : Nat) => (m : Int) := by simp [atoi]
          have hS : (numS (43 :: r) 10).2 = false := by
            have hd : decNat (43 :: r) = none := by simp [decNat, decFrom, digitVal]
            unfold numS
            simp only [List.head?_cons, Option.some.injEq, if_neg h45]
            rw [hd]
            split <;> rfl
          rw [hS, e]
          refine ⟨?_, fun h => by cases h⟩
          cases hd : decNat r with
          | none => rfl
          | some m =>
            simp only [Option.map_some, NumEnd.ofOption]
            have : ¬ itoa (m : Int) = 43 :: r := by
              rw [itoa_nonneg]
              intro h
              exact decDigits_head m (c := 43) (by decide) (by rw [h]; rfl)
            simp [this]
        · have e : atoi (b :: r) = (decNat (b :: r)).map fun (m : Nat) => (m : Int) := by simp [atoi, h45, h43]
          have hh : (b :: r).head? ≠ some 45 := by simpa using h45
          rw [e, trimPrefix_other hh]
          unfold numS
          simp only [if_neg hh]
          cases hd : decNat (b :: r) with
          | none =>
            simp only [Option.map_none, NumEnd.ofOption]
            split <;> simp
          | some m =>
            simp only [Option.map_some, NumEnd.ofOption]
            by_cases h10 : 10 < (b :: r).length
            · rw [if_pos (.inr h10)]
              have : ¬ (b :: r).length ≤ 10 := by omega
              simp only [this, decide_false, Bool.and_false]
              exact ⟨trivial, fun h => by cases h⟩
            · rw [if_neg (by rw [List.length_cons] at *; omega)]
              have : (b :: r).length ≤ 10 := by omega
              simp only [this, decide_true, Bool.and_true]
              exact ⟨trivial, fun _ => trivial⟩
end Go.Proofs.YtbegbajlagcbdaaGreatDoor.Cal
namespace Go.Proofs.YtbegbajlagcbdaaGreatDoor
open Go Go.RowKit
theorem ext_list (s : ByteArray) (a b : Nat) : (s.extract a b).data.toList = (s.data.toList.drop a).take (b - a) := by
  have h := Lib.extract_toList s a b
  rwa [ByteArray.toList_eq] at h
theorem list_at {s : ByteArray} {k : Nat} (h : k < s.size) : s.data.toList[k]? = some s[k] := Lib.data_getElem? s k h
theorem list_len (s : ByteArray) : s.data.toList.length = s.size := (Lib.size_eq s).symm
theorem encStr_txt (b : ByteArray) : encStr b.data.toList = .string b := by simp [encStr]
/-- One text is put behind an own slice. -/
theorem wpPushT {ops : Array Oper} {rest : List Oper} {op : Oper} {a : Act} {w : World} {Q : Exit → Act → World → Prop} {B : Nat} {v : Value} {zs : List Cal.Txt} {t : TypeId} (z : ByteArray) (h : TextsL w B v zs) (hB : B ≤ w.heap.size) (hlen : zs.length ≤ 1000000)
    (hgd : op.guard = none) (s x : Operand) (ho : op.op = .call { callee := .builtin .append, args := #[s, x], argTypes := #[165, 165] }) (hs : a.eval s = v) {c : Nat} (hx : a.eval x = .slice (some ⟨w.heap.size, 0, none⟩) 1 c)
    (k : ∀ v' w', TextsL w' B v' (zs ++ [z.data.toList]) → Below B w w' → wpList Tryz.prog ops Q rest (a.put op.dst v') w') : wpList Tryz.prog ops Q (op :: rest) a (w.alloc (.cells #[.string z] t)) := by
  have hsrc : RowsAt (w.alloc (.cells #[.string z] t)) (some ⟨w.heap.size, 0, none⟩) 1 (txtRows [z.data.toList]) := by
    have h := rowsAt_new w [.string z] t
    unfold txtRows
    rw [List.map_singleton, encStr_txt]
    exact h
  refine wpList_append_rows elemTxt hgd s x ho hs hx (OwnL.below h (below_alloc _ _)) hsrc rfl (txtRows_wid [z.data.toList]) (txtRows_one [z.data.toList]) (by simp only [txtRows_length, List.length_singleton]; omega) (by decide) (by simp; omega) ?_
  intro v' w2 hown2 hg2 _
  refine k v' w2 ?_ ?_
  · show OwnL _ _ _ _ _ _; unfold txtRows; rw [List.map_append]; exact hown2
  · exact ((Below.refl B w).alloc hB _).trans (grown_below hg2 (fun g e => (OwnL.lt h g e).1) (by simp; omega))
set_option maxRecDepth 100000 in
set_option maxHeartbeats 4000000 in
theorem Cut_any (s : ByteArray) (c : UInt8) (w : World) (hs : s.size ≤ 1000000) :
    Calls Tryz.prog 96 #[.string s, .int .u8 (c.toNat : Int)] w fun e w' => ∃ v, e = .returned v ∧ TextsL w' w.heap.size v (Cal.cutT c s.data.toList) ∧ Below w.heap.size w w' := by
  have hll := Lib.hid (list_len s)
  have hc0 : Hid (Cal.CutTo c s.data.toList [] 0 0) := Cal.CutTo.start _ _
  have ho0 : Hid (TextsL (w.alloc (.cells #[] 9)) w.heap.size (.slice (some ⟨w.heap.size, 0, none⟩) 0 0) []) := OwnL.made w w.heap.size 9 1 (Nat.le_refl _)
  have hb0 : Hid (Below w.heap.size w (w.alloc (.cells #[] 9))) := below_alloc _ _
  go_enter Tryz.func96, Tryz.ntmps96
  go_wp2_with fail
  go_loopw [5, 6, 7] (fun o q i wr => ∃ (out : List Cal.Txt) (st k : Nat), k ≤ s.size ∧ st ≤ k ∧ q = .int .i64 st ∧ i = .int .i64 k ∧ Hid (Cal.CutTo c s.data.toList out st k) ∧ Hid (TextsL wr w.heap.size o out) ∧ Hid (Below w.heap.size w wr)) (fun _ _ i _ => s.size - (intOf i).toNat)
  case atStart => exact ⟨[], 0, 0, Nat.zero_le _, Nat.le_refl _, rfl, rfl, hc0, ho0, hb0⟩
  case round =>
    clear hc0 ho0 hb0
    obtain ⟨out, st, k, hk, hst, rfl, rfl, hc, ho, hb⟩ := hrel
    have hol := hc.out.len
    rw [hll.out] at hol
    have hsz := hb.out.size
    obtain ⟨A5, c5, hv5, _⟩ := ho.out.rows
    subst hv5
    by_cases hlt : k < s.size
    · have hk' := list_at hlt
      by_cases hx : s[k] = c
      · have hxb : ((s[k].toNat : Int) == (c.toNat : Int)) = true := by simp [hx]
        have hc2 : Hid (Cal.CutTo c s.data.toList (out ++ [(s.extract st k).data.toList]) (k + 1) (k + 1)) := by
          show Cal.CutTo _ _ _ _ _
          rw [ext_list]
          exact hc.out.hit (by rw [hk', hx])
        have ho60 : out.length ≤ 1000000 := by omega
        clear hx hk'
        go_wp2_with (at_builtin; refine wpPushT (s.extract st k) ho.out hsz ho60 rfl _ _ rfl rfl (by first | rfl | (rw [World.size_alloc]; rfl)) ?_; intro v' w6 hown6 hb6; have ho3 := Lib.hid hown6; have hb3 := Lib.hid (hb.out.trans hb6))
        go_roundw
        case rel => exact ⟨_, k + 1, k + 1, by omega, Nat.le_refl _, by go_num, by go_num, hc2, ho3, hb3⟩
        case measure => simp [intOf]; omega
      · have hxb : ((s[k].toNat : Int) == (c.toNat : Int)) = false := by
          rw [beq_eq_false_iff_ne]
          intro h
          exact hx (UInt8.toNat_inj.1 (by omega))
        have hc2 : Hid (Cal.CutTo c s.data.toList out st (k + 1)) := hc.out.miss hk' hx
        clear hx hk'
        go_wp2_with fail
        go_roundw
        case rel => exact ⟨out, st, k + 1, by omega, by omega, rfl, by go_num, hc2, ho, hb⟩
        case measure => simp [intOf]; omega
    · obtain rfl : k = s.size := by omega
      have hfin : Hid (Cal.cutT c s.data.toList = out ++ [(s.extract st s.size).data.toList]) := by
        show _ = _
        rw [Lib.extract_to_end]
        have h := hc.out
        rw [← hll.out] at h
        exact h.done
      have ho60 : out.length ≤ 1000000 := by omega
      go_wp2_with (at_builtin; refine wpPushT (s.extract st s.size) ho.out hsz ho60 rfl _ _ rfl rfl (by first | rfl | (rw [World.size_alloc]; rfl)) ?_; intro v' w6 hown6 hb6; have ho3 := Lib.hid hown6; have hb3 := Lib.hid (hb.out.trans hb6))
      go_ret
      exact ⟨_, rfl, by rw [hfin.out]; exact ho3.out, hb3.out⟩
theorem digit_any (x : Int) (w : World) : Calls Tryz.prog 151 #[.int .u8 x] w fun e w' => e = .returned (.bool (decide (48 ≤ x ∧ x ≤ 57))) ∧ w = w' := by
  by_cases h1 : 48 ≤ x
  · by_cases h2 : x ≤ 57
    · have hfin : Hid (decide (48 ≤ x ∧ x ≤ 57) = true) := by show _ = _; simp [h1, h2]
      go_enter Tryz.func151, Tryz.ntmps151
      go_wp2
      go_ret
      exact ⟨ret_bool hfin.out.symm, rfl⟩
    · have hfin : Hid (decide (48 ≤ x ∧ x ≤ 57) = false) := by show _ = _; simp; omega
      have h2' : decide (x ≤ 57) = false := by simpa using h2
      clear h2
      go_enter Tryz.func151, Tryz.ntmps151
      go_wp2
      go_ret
      exact ⟨ret_bool hfin.out.symm, rfl⟩
  · have hfin : Hid (decide (48 ≤ x ∧ x ≤ 57) = false) := by show _ = _; simp; omega
    have h1' : decide (48 ≤ x) = false := by simpa using h1
    clear h1
    go_enter Tryz.func151, Tryz.ntmps151
    go_wp2
    go_ret
    exact ⟨ret_bool hfin.out.symm, rfl⟩
theorem DecimalD_any (n : Int) (h0 : -9223372036854775808 ≤ n) (h1 : n ≤ 9223372036854775807) (w : World) :
    Calls Tryz.prog 89 #[.int .i64 n] w fun e w' => ∃ d : ByteArray, e = .returned (.string d) ∧ d.data.toList = Lib.itoa n ∧ Below w.heap.size w w' :=
  (Decimal_any n h0 h1 w).mono fun _ _ ⟨he, hb⟩ => ⟨_, he, by simp, hb⟩
def NumRes (w : World) (r : Int × Bool) (e : Ending) (w' : World) : Prop := e = .returned (.tuple #[.int .i64 r.1, .bool r.2]) ∧ Below w.heap.size w w'
theorem beq_list {a b : ByteArray} {l : List UInt8} (h : a.data.toList = l) : (a.toList == b.toList) = decide (l = b.data.toList) := by
  rw [ByteArray.toList_eq, ByteArray.toList_eq, h, Bool.eq_iff_iff]; simp
/-- How far the digits of a text are read. -/
def DecTo (l : List UInt8) (k m : Nat) : Prop := Lib.decFrom 0 (l.take k) = some m ∧ m < 10 ^ k
theorem DecTo.start (l : List UInt8) : DecTo l 0 0 := ⟨rfl, by decide⟩
theorem DecTo.step {s : ByteArray} {k m : Nat} (h : DecTo s.data.toList k m) (hk : k < s.size) (h1 : 48 ≤ (s[k].toNat : Int)) (h2 : (s[k].toNat : Int) ≤ 57) : DecTo s.data.toList (k + 1) (m * 10 + (s[k].toNat - 48)) := by
  refine ⟨Lib.decFrom_take _ k 0 m s[k] _ h.1 (list_at hk) (by unfold Lib.digitVal; rw [if_pos (by omega)]), ?_⟩
  have := h.2
  rw [Nat.pow_succ]
  omega
theorem decFrom_bad : ∀ (l : List UInt8) (acc k : Nat) (b : UInt8), l[k]? = some b → ¬ (48 ≤ b.toNat ∧ b.toNat ≤ 57) → Lib.decFrom acc l = none
  | [], acc, k, b, h, _ => by simp at h
  | x :: r, acc, 0, b, h, hb => by
    simp only [List.getElem?_cons_zero, Option.some.injEq] at h
    subst h
    simp only [Lib.decFrom, Lib.digitVal, if_neg hb]
  | x :: r, acc, k + 1, b, h, hb => by
    simp only [Lib.decFrom]
    split
    · exact decFrom_bad r _ k b (by simpa using h) hb
    · rfl
theorem DecTo.bad {s : ByteArray} {k : Nat} (hk : k < s.size) (h : ¬ (48 ≤ (s[k].toNat : Int) ∧ (s[k].toNat : Int) ≤ 57)) : Lib.decNat s.data.toList = none := by
  unfold Lib.decNat
  split
  · rfl
  · exact decFrom_bad _ 0 k s[k] (list_at hk) (by omega)
theorem DecTo.done {s : ByteArray} {m : Nat} (h : DecTo s.data.toList s.size m) (h1 : 1 ≤ s.size) : Lib.decNat s.data.toList = some m := by
  have hl := list_len s
  have h0 := h.1
  rw [List.take_of_length_le (by omega)] at h0
  unfold Lib.decNat
  rw [if_neg (by rw [List.isEmpty_iff]; intro e; rw [e] at hl; simp at hl; omega)]
  exact h0
/-- What stands behind the sign. -/
def NumForm (l rl : List UInt8) (mi : Bool) : Prop := (mi = true ∧ l = 45 :: rl) ∨ (mi = false ∧ l.head? ≠ some 45 ∧ rl = l)
theorem numS_form {l rl : List UInt8} {mi : Bool} (h : NumForm l rl mi) : (if l.head? = some 45 then l.tail else l) = rl ∧ ∀ m : Nat, (if l.head? = some 45 then -(m : Int) else m) = (if mi = true then -(m : Int) else m) := by
  rcases h with ⟨rfl, rfl⟩ | ⟨rfl, h1, rfl⟩
  · simp
  · simp [h1]
theorem numS_len {l rl : List UInt8} {mi : Bool} {d : Nat} (h : NumForm l rl mi) (hl : rl.length < 1 ∨ d < rl.length) : Cal.numS l d = (0, false) := by
  unfold Cal.numS
  simp only [(numS_form h).1]
  rw [if_pos hl]
theorem numS_none {l rl : List UInt8} {mi : Bool} {d : Nat} (h : NumForm l rl mi) (hd : Lib.decNat rl = none) : Cal.numS l d = (0, false) := by
  unfold Cal.numS
  simp only [(numS_form h).1, hd]
  split <;> rfl
theorem numS_some {l rl : List UInt8} {mi : Bool} {d m : Nat} (h : NumForm l rl mi) (h1 : 1 ≤ rl.length) (h2 : rl.length ≤ d) (hd : Lib.decNat rl = some m) :
    Cal.numS l d = (if mi = true then -(m : Int) else m, decide (Lib.itoa (if mi = true then -(m : Int) else m) = l)) := by
  unfold Cal.numS
  simp only [(numS_form h).1, hd, (numS_form h).2]
  rw [if_neg (by omega)]
set_option maxRecDepth 100000 in
set_option maxHeartbeats 4000000 in
theorem Number_any (s : ByteArray) (d : Nat) (w : World) (hd : d ≤ 18) (hs : s.size ≤ 1000000) :
    Calls Tryz.prog 146 #[.string s, .int .i64 d] w (NumRes w (Cal.numS s.data.toList d)) := by
  have hll := Lib.hid (list_len s)
  by_cases h0 : 0 < s.size
  · by_cases hx : s[0] = 45
    · have hxb : ((s[0].toNat : Int) == 45) = true := by rw [hx]; rfl
      obtain ⟨r, hr⟩ : ∃ r, s.extract 1 s.size = r := ⟨_, rfl⟩
      have hrl : r.data.toList = s.data.toList.drop 1 := by rw [← hr, Lib.extract_to_end]
      have hform : Hid (NumForm s.data.toList r.data.toList true) := by
        refine .inl ⟨rfl, ?_⟩
        have h := list_at h0
        rw [hrl]
        cases hl : s.data.toList with
        | nil => rw [hl] at h; simp at h
        | cons a b =>
          rw [hl] at h
          simp only [List.getElem?_cons_zero, Option.some.injEq] at h
          rw [h, hx]
          first | done | rfl
      have hrz : r.size ≤ s.size := by rw [← list_len r, hrl, List.length_drop, hll.out]; omega
      clear hx hrl
      by_cases hr1 : r.size < 1
      · have hfin := Lib.hid (numS_len (d := d) hform.out (.inl (by have := list_len r; omega)))
        go_enter Tryz.func146, Tryz.ntmps146
        go_wp2
        all_goals go_ret2
        all_goals exact ⟨by rw [hfin.out]; rfl, Below.refl _ _⟩
      · by_cases hr2 : d < r.size
        · have hfin := Lib.hid (numS_len (d := d) hform.out (.inr (by have := list_len r; omega)))
          have hr1' : 1 ≤ r.size := by omega
          have hr1'' : 0 < r.size := by omega
          clear hr1
          go_enter Tryz.func146, Tryz.ntmps146
          go_wp2
          all_goals go_ret2
          all_goals exact ⟨by rw [hfin.out]; rfl, Below.refl _ _⟩
        · have hr1' : 1 ≤ r.size := by omega
          have hr1'' : 0 < r.size := by omega
          have hr2' : r.size ≤ d := by omega
          have hq1 : decide ((r.size : Int) < 1) = false := decide_eq_false (by omega)
          have hq2 : decide ((d : Int) < (r.size : Int)) = false := decide_eq_false (by omega)
          have hq3 : decide (d < r.size) = false := decide_eq_false (by omega)
          have hq4 : decide (r.size < 1) = false := decide_eq_false (by omega)
          clear hr1 hr2
          have hD0 : Hid (DecTo r.data.toList 0 0) := DecTo.start _
          have hW0 : Hid (Below w.heap.size w w) := Below.refl _ _
          go_enter Tryz.func146, Tryz.ntmps146
          go_wp2
          go_loopw [8, 9] (fun n i wr => ∃ k m : Nat, k ≤ r.size ∧ n = .int .i64 m ∧ i = .int .i64 k ∧ Hid (DecTo r.data.toList k m) ∧ Hid (Below w.heap.size w wr)) (fun _ i _ => r.size - (intOf i).toNat)
          case atStart => exact ⟨0, 0, Nat.zero_le _, rfl, rfl, hD0, hW0⟩
          case round =>
            clear hD0 hW0
            obtain ⟨k, m, hk, rfl, rfl, hD, hW⟩ := hrel
            by_cases hlt : k < r.size
            · have hm := hD.out.2
              have hm17 : m < 100000000000000000 := Nat.lt_of_lt_of_le hm (Nat.le_trans (Nat.pow_le_pow_right (by decide) (show k ≤ 17 by omega)) (by decide))
              clear hm
              by_cases hx : 48 ≤ (r[k].toNat : Int) ∧ (r[k].toNat : Int) ≤ 57
              · have hdec : decide (48 ≤ (r[k].toNat : Int) ∧ (r[k].toNat : Int) ≤ 57) = true := by simpa using hx
                have hnx := Lib.hid (hD.out.step hlt hx.1 hx.2)
                obtain ⟨x0, x1⟩ := hx
                have hdec := Lib.hid hdec
                go_wp2_with fail
                refine (digit_any _ _).mono ?_
                rintro e w' ⟨rfl, rfl⟩
                rw [hdec.out]
                go_wp2_with fail
                go_roundw
                case rel => exact ⟨k + 1, m * 10 + (r[k].toNat - 48), by omega, by first | go_num | (congr 1; omega), by go_num, hnx, hW⟩
                case measure => simp [intOf]; omega
              · have hdec : decide (48 ≤ (r[k].toNat : Int) ∧ (r[k].toNat : Int) ≤ 57) = false := by simpa using hx
                have hfin := Lib.hid (numS_none (d := d) hform.out (DecTo.bad hlt hx))
                have hdec := Lib.hid hdec
                clear hx
                go_wp2_with fail
                refine (digit_any _ _).mono ?_
                rintro e w' ⟨rfl, rfl⟩
                rw [hdec.out]
                go_wp2_with fail
                go_ret2
                exact ⟨by rw [hfin.out]; rfl, hW.out⟩
            · obtain rfl : k = r.size := by omega
              have hm := hD.out.2
              have hm18 : m < 1000000000000000000 := Nat.lt_of_lt_of_le hm (Nat.le_trans (Nat.pow_le_pow_right (by decide) (show r.size ≤ 18 by omega)) (by decide))
              clear hm
              have hfin0 := numS_some (d := d) hform.out (by have := list_len r; omega) (by have := list_len r; omega) (hD.out.done hr1')
              (try simp only [if_true] at hfin0); (try simp only [Bool.false_eq_true, if_false] at hfin0)
              have hfin := Lib.hid hfin0
              clear hfin0
              go_wp2_with fail
              refine (DecimalD_any (-(m : Int)) (by omega) (by omega) _).mono ?_
              rintro e w1 ⟨dd, rfl, hdd, hb⟩
              have hq := beq_list (b := s) hdd
              clear hdd
              obtain ⟨bb, hbb⟩ : ∃ bb, bb = decide (Lib.itoa (-(m : Int)) = s.data.toList) := ⟨_, rfl⟩
              rw [← hbb] at hq
              have hbb := Lib.hid hbb
              have hb := Lib.hid (below_step hW.out hb)
              go_wp2_with fail
              go_ret2
              exact ⟨by rw [hfin.out, ← hbb.out]; first | done | rfl, hb.out⟩
    · have hxb : ((s[0].toNat : Int) == 45) = false := by
        rw [beq_eq_false_iff_ne]
        intro h
        exact hx (UInt8.toNat_inj.1 (by show s[0].toNat = 45; omega))
      have hform : Hid (NumForm s.data.toList s.data.toList false) := by
        refine .inr ⟨rfl, fun h => ?_, rfl⟩
        have h2 := list_at h0
        cases hl : s.data.toList with
        | nil => rw [hl] at h; simp at h
        | cons a b =>
          rw [hl] at h h2
          simp only [List.getElem?_cons_zero, Option.some.injEq, List.head?_cons] at h h2
          exact hx (by rw [← h2, h])
      clear hx
      by_cases hr1 : s.size < 1
      · have hfin := Lib.hid (numS_len (d := d) hform.out (.inl (by have := list_len s; omega)))
        go_enter Tryz.func146, Tryz.ntmps146
        go_wp2
        all_goals go_ret2
        all_goals exact ⟨by rw [hfin.out]; rfl, Below.refl _ _⟩
      · by_cases hr2 : d < s.size
        · have hfin := Lib.hid (numS_len (d := d) hform.out (.inr (by have := list_len s; omega)))
          have hr1' : 1 ≤ s.size := by omega
          have hr1'' : 0 < s.size := by omega
          clear hr1
          go_enter Tryz.func146, Tryz.ntmps146
          go_wp2
          all_goals go_ret2
          all_goals exact ⟨by rw [hfin.out]; rfl, Below.refl _ _⟩
        · have hr1' : 1 ≤ s.size := by omega
          have hr1'' : 0 < s.size := by omega
          have hr2' : s.size ≤ d := by omega
          have hq1 : decide ((s.size : Int) < 1) = false := decide_eq_false (by omega)
          have hq2 : decide ((d : Int) < (s.size : Int)) = false := decide_eq_false (by omega)
          have hq3 : decide (d < s.size) = false := decide_eq_false (by omega)
          have hq4 : decide (s.size < 1) = false := decide_eq_false (by omega)
          clear hr1 hr2
          have hD0 : Hid (DecTo s.data.toList 0 0) := DecTo.start _
          have hW0 : Hid (Below w.heap.size w w) := Below.refl _ _
          go_enter Tryz.func146, Tryz.ntmps146
          go_wp2
          go_loopw [8, 9] (fun n i wr => ∃ k m : Nat, k ≤ s.size ∧ n = .int .i64 m ∧ i = .int .i64 k ∧ Hid (DecTo s.data.toList k m) ∧ Hid (Below w.heap.size w wr)) (fun _ i _ => s.size - (intOf i).toNat)
          case atStart => exact ⟨0, 0, Nat.zero_le _, rfl, rfl, hD0, hW0⟩
          case round =>
            clear hD0 hW0
            obtain ⟨k, m, hk, rfl, rfl, hD, hW⟩ := hrel
            by_cases hlt : k < s.size
            · have hm := hD.out.2
              have hm17 : m < 100000000000000000 := Nat.lt_of_lt_of_le hm (Nat.le_trans (Nat.pow_le_pow_right (by decide) (show k ≤ 17 by omega)) (by decide))
              clear hm
              by_cases hx : 48 ≤ (s[k].toNat : Int) ∧ (s[k].toNat : Int) ≤ 57
              · have hdec : decide (48 ≤ (s[k].toNat : Int) ∧ (s[k].toNat : Int) ≤ 57) = true := by simpa using hx
                have hnx := Lib.hid (hD.out.step hlt hx.1 hx.2)
                obtain ⟨x0, x1⟩ := hx
                have hdec := Lib.hid hdec
                go_wp2_with fail
                refine (digit_any _ _).mono ?_
                rintro e w' ⟨rfl, rfl⟩
                rw [hdec.out]
                go_wp2_with fail
                go_roundw
                case rel => exact ⟨k + 1, m * 10 + (s[k].toNat - 48), by omega, by first | go_num | (congr 1; omega), by go_num, hnx, hW⟩
                case measure => simp [intOf]; omega
              · have hdec : decide (48 ≤ (s[k].toNat : Int) ∧ (s[k].toNat : Int) ≤ 57) = false := by simpa using hx
                have hfin := Lib.hid (numS_none (d := d) hform.out (DecTo.bad hlt hx))
                have hdec := Lib.hid hdec
                clear hx
                go_wp2_with fail
                refine (digit_any _ _).mono ?_
                rintro e w' ⟨rfl, rfl⟩
                rw [hdec.out]
                go_wp2_with fail
                go_ret2
                exact ⟨by rw [hfin.out]; rfl, hW.out⟩
            · obtain rfl : k = s.size := by omega
              have hm := hD.out.2
              have hm18 : m < 1000000000000000000 := Nat.lt_of_lt_of_le hm (Nat.le_trans (Nat.pow_le_pow_right (by decide) (show s.size ≤ 18 by omega)) (by decide))
              clear hm
              have hfin0 := numS_some (d := d) hform.out (by have := list_len s; omega) (by have := list_len s; omega) (hD.out.done hr1')
              (try simp only [if_true] at hfin0); (try simp only [Bool.false_eq_true, if_false] at hfin0)
              have hfin := Lib.hid hfin0
              clear hfin0
              go_wp2_with fail
              refine (DecimalD_any ((m : Int)) (by omega) (by omega) _).mono ?_
              rintro e w1 ⟨dd, rfl, hdd, hb⟩
              have hq := beq_list (b := s) hdd
              clear hdd
              obtain ⟨bb, hbb⟩ : ∃ bb, bb = decide (Lib.itoa ((m : Int)) = s.data.toList) := ⟨_, rfl⟩
              rw [← hbb] at hq
              have hbb := Lib.hid hbb
              have hb := Lib.hid (below_step hW.out hb)
              go_wp2_with fail
              go_ret2
              exact ⟨by rw [hfin.out, ← hbb.out]; first | done | rfl, hb.out⟩
  · have hfin := Lib.hid (numS_len (l := s.data.toList) (rl := s.data.toList) (mi := false) (d := d) (.inr ⟨rfl, by
      cases hl : s.data.toList with
      | nil => simp
      | cons a b => have := hll.out; rw [hl] at this; simp at this; omega, rfl⟩) (.inl (by have := hll.out; omega)))
    have h0' : s.size = 0 := by omega
    clear h0
    go_enter Tryz.func146, Tryz.ntmps146
    go_wp2
    all_goals go_ret2
    all_goals exact ⟨by rw [hfin.out]; rfl, Below.refl _ _⟩
end Go.Proofs.YtbegbajlagcbdaaGreatDoor
