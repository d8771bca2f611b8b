/- Chapter 8 and what it rests on: definitions and walks, part 34. -/
import Derived.Test.YtbegbajlagcbdaaGreatDoorC08
import Derived.Test.YtbegbajlagcbdaaGreatDoorC18
import Derived.Lib.ItoaLen
import Derived.Test.YtbegbajlagcbdaaGreatDoorC10
import Derived.Test.YtbegbajlagcbdaaGreatDoorC07
namespace Go.Proofs.YtbegbajlagcbdaaGreatDoor.Cal
open Go.Lib
/-- How the program reads a number of at most so many digits. -/
def numRd (l : List UInt8) (d : Nat) : Int × Bool :=
  match atoiAll l with
  | .ok v => (v, decide (itoa v = l) && decide ((trimPrefix l [45]).length ≤ d))
  | .syntax => (0, false)
  | .range => (atoiSat l, false)
theorem numS_long {l : List UInt8} {d : Nat} (h : 18 < l.length) (hd0 : d ≤ 16) : (numS l d).2 = false := by
  unfold numS
  have : d < (if l.head? = some 45 then l.tail else l).length := by
    split
    · rw [List.length_tail]; omega
    · omega
  simp only
  rw [if_pos (.inr this)]
theorem numd_same (l : List UInt8) {d : Nat} (hd0 : d ≤ 16) : (numRd l d).2 = (numS l d).2 ∧ ((numS l d).2 = true → (numRd l d).1 = (numS l d).1) := by
  rcases Nat.lt_or_ge 18 l.length with hl | hl
  · rw [numS_long hl hd0]
    refine ⟨?_, fun h => by cases h⟩
    unfold numRd
    split
    · have : ¬ (trimPrefix l [45]).length ≤ d := by
        by_cases hh : l.head? = some 45
        · cases l with
          | nil => simp at hh
          | cons b r =>
            simp only [List.head?_cons, Option.some.injEq] at hh
            subst hh
            rw [trimPrefix_minus]
            simp at hl
            omega
        · rw [trimPrefix_other hh]; omega
      simp [this]
    · rfl
    · rfl
  · unfold numRd
    rw [atoiAll_short l hl]
    cases l with
    | nil => simp [atoi, NumEnd.ofOption, numS]
    | cons b r =>
      by_cases h45 : b = 45
      · subst h45
        have e : atoi (45 :: r) = (decNat r).map fun (m : Nat) => -(m : Int) := by simp [atoi]
        rw [e, trimPrefix_minus]
        unfold numS
        simp only [List.head?_cons, if_true, List.tail_cons]
        cases hd : decNat r with
        | none =>
          simp only [Option.map_none, NumEnd.ofOption]
          split <;> simp
        | some m =>
          simp only [Option.map_some, NumEnd.ofOption]
          have hr : 1 ≤ r.length := by
            cases r with
            | nil => simp [decNat] at hd
            | cons _ _ => simp
          by_cases h10 : d < r.length
          · rw [if_pos (.inr h10)]
            have : ¬ r.length ≤ d := by omega
            simp [this]
          · rw [if_neg (by omega)]
            have : r.length ≤ d := by omega
            simp [this]
      · by_cases h43 : b = 43
        · subst h43
          have e : atoi (43 :: r) = (decNat r).map fun (m : Nat) => (m : Int) := by simp [atoi]
          have hS : (numS (43 :: r) d).2 = false := by
            have hd : decNat (43 :: r) = none := by simp [decNat, decFrom, digitVal]
            unfold numS
            simp only [List.head?_cons, Option.some.injEq, if_neg h45]
            rw [hd]
            split <;> rfl
          rw [hS, e]
          refine ⟨?_, fun h => by cases h⟩
          cases hd : decNat r with
          | none => rfl
          | some m =>
            simp only [Option.map_some, NumEnd.ofOption]
            have : ¬ itoa (m : Int) = 43 :: r := by
              rw [itoa_nonneg]
              intro h
              exact decDigits_head m (c := 43) (by decide) (by rw [h]; rfl)
            simp [this]
        · have e : atoi (b :: r) = (decNat (b :: r)).map fun (m : Nat) => (m : Int) := by simp [atoi, h45, h43]
          have hh : (b :: r).head? ≠ some 45 := by simpa using h45
          rw [e, trimPrefix_other hh]
          unfold numS
          simp only [if_neg hh]
          cases hd : decNat (b :: r) with
          | none =>
            simp only [Option.map_none, NumEnd.ofOption]
            split <;> simp
          | some m =>
            simp only [Option.map_some, NumEnd.ofOption]
            by_cases h10 : d < (b :: r).length
            · rw [if_pos (.inr h10)]
              have : ¬ (b :: r).length ≤ d := by omega
              simp only [this, decide_false, Bool.and_false]
              exact ⟨trivial, fun h => by cases h⟩
            · rw [if_neg (by rw [List.length_cons] at *; omega)]
              have : (b :: r).length ≤ d := by omega
              simp only [this, decide_true, Bool.and_true]
              exact ⟨trivial, fun _ => trivial⟩
/-- What was read as a number is its numeral. -/
theorem numS_text {l : List UInt8} {d : Nat} (h : (numS l d).2 = true) : itoa (numS l d).1 = l := by
  unfold numS at h ⊢
  by_cases h45 : l.head? = some 45
  · simp only [h45, if_true] at h ⊢
    by_cases h1 : l.tail.length < 1 ∨ d < l.tail.length
    · rw [if_pos h1] at h; cases h
    · rw [if_neg h1] at h ⊢
      cases hd : decNat l.tail with
      | none => rw [hd] at h; cases h
      | some m => rw [hd] at h; exact of_decide_eq_true h
  · simp only [h45, if_false] at h ⊢
    by_cases h1 : l.length < 1 ∨ d < l.length
    · rw [if_pos h1] at h; cases h
    · rw [if_neg h1] at h ⊢
      cases hd : decNat l with
      | none => rw [hd] at h; cases h
      | some m => rw [hd] at h; exact of_decide_eq_true h
theorem numS_bds {l : List UInt8} {d : Nat} (hd0 : d ≤ 16) (h : (numS l d).2 = true) : -9223372036854775808 ≤ (numS l d).1 ∧ (numS l d).1 ≤ 9223372036854775807 := by
  obtain ⟨h1, h2⟩ := numd_same l hd0
  rw [← h2 h]
  rw [← h1] at h
  unfold numRd at h ⊢
  cases hA : atoiAll l with
  | ok v => exact atoiAll_bounds hA
  | «syntax» => rw [hA] at h; cases h
  | range => rw [hA] at h; cases h
/-- The numbers of words, behind others; none: one is no number. -/
def numsF (acc : List Int) : List (List UInt8) → Option (List Int)
  | [] => some acc
  | x :: r => if (numS x 7).2 = true then numsF (acc ++ [(numS x 7).1]) r else none
theorem numsF_cons (acc : List Int) (x : List UInt8) (r : List (List UInt8)) : numsF acc (x :: r) = if (numS x 7).2 = true then numsF (acc ++ [(numS x 7).1]) r else none := rfl
/-- Pieces, put together. -/
def joinT (c : UInt8) : List (List UInt8) → List UInt8
  | [] => []
  | [x] => x
  | x :: y :: r => x ++ c :: joinT c (y :: r)
theorem joinT_cons (c : UInt8) (x : List UInt8) {r : List (List UInt8)} (h : r ≠ []) : joinT c (x :: r) = x ++ c :: joinT c r := by
  cases r with
  | nil => exact absurd rfl h
  | cons y r => rfl
theorem joinT_head (c x : UInt8) (h : List UInt8) (t : List (List UInt8)) : joinT c ((x :: h) :: t) = x :: joinT c (h :: t) := by
  cases t with
  | nil => rfl
  | cons y r => rfl
theorem joinT_cut (c : UInt8) : ∀ l : List UInt8, joinT c (cutT c l) = l
  | [] => rfl
  | x :: r => by
    unfold cutT
    split
    · next h => rw [joinT_cons _ _ (cutT_ne c r), joinT_cut c r, h]; rfl
    · rw [joinT_head]
      cases he : cutT c r with
      | nil => exact absurd he (cutT_ne c r)
      | cons a b =>
        have := joinT_cut c r
        rw [he] at this
        show x :: joinT c (a :: b) = _
        rw [this]
/-- The words of a notice's lines. -/
def wNotice : List UInt8 := [110, 111, 116, 105, 99, 101]
def wAct : List UInt8 := [97, 99, 116]
def actT (a : NAct) : List UInt8 := wAct ++ 32 :: (itoa a.day ++ 32 :: (itoa a.kind ++ 32 :: (itoa a.days ++ [10])))
def actsT : List NAct → List UInt8
  | [] => []
  | a :: r => actT a ++ actsT r
theorem actsT_snoc : ∀ (l : List NAct) (a : NAct), actsT (l ++ [a]) = actsT l ++ actT a
  | [], a => by show actT a ++ [] = _; simp [actsT]
  | b :: r, a => by
    show actT b ++ actsT (r ++ [a]) = (actT b ++ actsT r) ++ _
    rw [actsT_snoc r a, List.append_assoc]
def headT (name : List UInt8) (opened : Int) : List UInt8 := wNotice ++ 32 :: (name ++ 32 :: (itoa opened ++ [10]))
/-- The text of a notice. -/
def noteT (n : Note) : List UInt8 := headT n.name.data.toList n.opened ++ actsT n.acts
/-- The notice behind one more line, k lines having been read. -/
def nLine (k : Nat) (s : Note) (x : List UInt8) : Option Note :=
  if k = 0 then (match cutT 32 x with
    | [a, b, c] => if a = wNotice ∧ (numS c 7).2 = true then some ⟨⟨b.toArray⟩, (numS c 7).1, s.acts⟩ else none
    | _ => none)
  else (match cutT 32 x with
    | [a, b, c, d] => if a = wAct ∧ (numS b 7).2 = true ∧ (numS c 7).2 = true ∧ (numS d 7).2 = true then some ⟨s.name, s.opened, s.acts ++ [⟨(numS b 7).1, (numS c 7).1, (numS d 7).1⟩]⟩ else none
    | _ => none)
/-- The notice of lines; the number of the first wrong one. The last piece is behind the last line's end. -/
def nLines (k : Nat) (s : Note) : List (List UInt8) → Except Nat Note
  | [] => .error 0
  | x :: r => if r = [] then (if x = [] ∧ 0 < k then .ok s else .error (k + 1)) else match nLine k s x with
    | some s' => nLines (k + 1) s' r
    | none => .error (k + 1)
theorem nLines_last (k : Nat) (s : Note) (x : List UInt8) : nLines k s [x] = if x = [] ∧ 0 < k then .ok s else .error (k + 1) := rfl
theorem nLines_good {k : Nat} {s s' : Note} {x : List UInt8} {r : List (List UInt8)} (hr : r ≠ []) (h : nLine k s x = some s') : nLines k s (x :: r) = nLines (k + 1) s' r := by
  conv => lhs; unfold nLines
  rw [if_neg hr, h]
theorem nLines_bad {k : Nat} {s : Note} {x : List UInt8} {r : List (List UInt8)} (hr : r ≠ []) (h : nLine k s x = none) : nLines k s (x :: r) = .error (k + 1) := by
  unfold nLines
  rw [if_neg hr, h]
def note0 : Note := ⟨⟨#[]⟩, 0, []⟩
def finN : Except Nat Note → Note × Int × Int
  | .error k => (note0, k, 7)
  | .ok n => if 40 < n.acts.length then (note0, 0, 8) else (n, 0, 0)
/-- What the text of a notice says. -/
def parseN (l : List UInt8) : Note × Int × Int := if 60000 < l.length then (note0, 0, 8) else finN (nLines 0 note0 (cutT 10 l))
theorem join3 {x a b c : List UInt8} (h : cutT 32 x = [a, b, c]) : x = a ++ 32 :: (b ++ 32 :: c) := by
  have := joinT_cut 32 x
  rw [h] at this
  exact this.symm
theorem join4 {x a b c d : List UInt8} (h : cutT 32 x = [a, b, c, d]) : x = a ++ 32 :: (b ++ 32 :: (c ++ 32 :: d)) := by
  have := joinT_cut 32 x
  rw [h] at this
  exact this.symm
/-- What a line says, in so many words. -/
theorem nLine_0 {s s' : Note} {x : List UInt8} (h : nLine 0 s x = some s') : ∃ b c, cutT 32 x = [wNotice, b, c] ∧ (numS c 7).2 = true ∧ s' = ⟨⟨b.toArray⟩, (numS c 7).1, s.acts⟩ := by
  unfold nLine at h
  rw [if_pos rfl] at h
  split at h
  · rename_i a b c hz
    split at h
    · rename_i h1
      obtain ⟨rfl, h2⟩ := h1
      exact ⟨b, c, hz, h2, (Option.some.inj h).symm⟩
    · cases h
  · cases h
theorem nLine_s {k : Nat} {s s' : Note} {x : List UInt8} (h : nLine (k + 1) s x = some s') : ∃ b c d, cutT 32 x = [wAct, b, c, d] ∧ (numS b 7).2 = true ∧ (numS c 7).2 = true ∧ (numS d 7).2 = true ∧ s' = ⟨s.name, s.opened, s.acts ++ [⟨(numS b 7).1, (numS c 7).1, (numS d 7).1⟩]⟩ := by
  unfold nLine at h
  rw [if_neg (by omega)] at h
  split at h
  · rename_i a b c d hz
    split at h
    · rename_i h1
      obtain ⟨rfl, h2, h3, h4⟩ := h1
      exact ⟨b, c, d, hz, h2, h3, h4, (Option.some.inj h).symm⟩
    · cases h
  · cases h
theorem nLine_text {k : Nat} {s s' : Note} {x : List UInt8} (h : nLine k s x = some s') (h0 : k = 0 → s.acts = []) : (if k = 0 then [] else noteT s) ++ (x ++ [10]) = noteT s' := by
  cases k with
  | zero =>
    obtain ⟨b, c, hz, h2, rfl⟩ := nLine_0 h
    rw [if_pos rfl, join3 hz]
    unfold noteT headT
    simp only [h0 rfl, actsT, numS_text h2]
    simp
  | succ k =>
    obtain ⟨b, c, d, hz, h2, h3, h4, rfl⟩ := nLine_s h
    rw [if_neg (by omega), join4 hz]
    unfold noteT
    simp only [actsT_snoc, actT, numS_text h2, numS_text h3, numS_text h4]
    simp
theorem nLines_text : ∀ (ps : List (List UInt8)) {k : Nat} {s s' : Note}, nLines k s ps = .ok s' → (k = 0 → s.acts = []) → (if k = 0 then [] else noteT s) ++ joinT 10 ps = noteT s'
  | [], k, s, s', h, _ => by cases h
  | x :: r, k, s, s', h, h0 => by
    by_cases hr : r = []
    · subst hr
      rw [nLines_last] at h
      split at h
      · rename_i h1
        cases h
        rw [h1.1, if_neg (by omega)]
        show noteT s ++ [] = _
        simp
      · cases h
    · cases hl : nLine k s x with
      | none => rw [nLines_bad hr hl] at h; cases h
      | some s1 =>
        rw [nLines_good hr hl] at h
        have h1 := nLine_text hl h0
        have h2 := nLines_text r h (fun e => by omega)
        rw [if_neg (by omega), ← h1] at h2
        rw [joinT_cons _ _ hr, ← h2]
        simp
/-- What was read is written again. -/
theorem parseN_text {l : List UInt8} {n : Note} {k E : Int} (h : parseN l = (n, k, E)) (hE : E = 0) : noteT n = l ∧ n.acts.length ≤ 40 := by
  unfold parseN at h
  split at h
  · cases h; cases hE
  · cases hn : nLines 0 note0 (cutT 10 l) with
    | error j => rw [hn] at h; cases h; cases hE
    | ok n' =>
      rw [hn] at h
      unfold finN at h
      simp only at h
      split at h
      · cases h; cases hE
      · cases h
        have := nLines_text _ hn (fun _ => rfl)
        rw [joinT_cut, if_pos rfl] at this
        exact ⟨this.symm, by omega⟩
theorem actT_len {a : NAct} (h : (-9223372036854775808 ≤ a.day ∧ a.day ≤ 9223372036854775807) ∧ (-9223372036854775808 ≤ a.kind ∧ a.kind ≤ 9223372036854775807) ∧ (-9223372036854775808 ≤ a.days ∧ a.days ≤ 9223372036854775807)) : (actT a).length ≤ 70 := by
  obtain ⟨⟨h1, h2⟩, ⟨h3, h4⟩, h5, h6⟩ := h
  have e1 := itoa_length_le a.day h1 h2
  have e2 := itoa_length_le a.kind h3 h4
  have e3 := itoa_length_le a.days h5 h6
  unfold actT wAct
  simp only [List.length_append, List.length_cons, List.length_nil]
  omega
end Go.Proofs.YtbegbajlagcbdaaGreatDoor.Cal
namespace Go.Proofs.YtbegbajlagcbdaaGreatDoor
open Go Go.RowKit
theorem txtRows_get {w : World} {A : Option Addr} {zs : List Cal.Txt} (h : RowsAt w A 1 (txtRows zs)) {k : Nat} (hk : k < zs.length) : ∃ b o, A = some ⟨b, o, none⟩ ∧ b < w.heap.size ∧ ∃ zb : ByteArray, zb.data.toList = zs[k] ∧ w.cell? ⟨b, o + k, none⟩ = some (.string zb) := by
  obtain ⟨b, o, hA, hb, hc⟩ := h k [encStr zs[k]] (by simp [txtRows, List.getElem?_eq_getElem hk])
  have := hc 0 _ rfl
  simp only [Nat.mul_one, Nat.add_zero] at this
  exact ⟨b, o, hA, hb, ⟨zs[k].toArray⟩, rfl, this⟩
def NumsPost (w : World) (r : Option (List Int)) (e : Ending) (w' : World) : Prop := ∃ v, e = .returned (.tuple #[v, .bool r.isSome]) ∧ IntsL w' w.heap.size v (r.getD []) ∧ Below w.heap.size w w'
theorem numsPost_none {w w' : World} {r : Option (List Int)} (h : r = none) (hb : Below w.heap.size w w') : NumsPost w r (.returned (.tuple #[.slice none 0 0, .bool false])) w' := by
  subst h
  exact ⟨_, rfl, OwnL.nil _ _ _ _, hb⟩
/-- What the loop keeps: out, the words, the frame. -/
structure NmI (w : World) (A : Option Addr) (zs : List (List UInt8)) (acc : List Int) (v : Value) (W : World) : Prop where
  own : IntsL W w.heap.size v acc
  rows : RowsAt W A 1 (txtRows zs)
  fr : Below w.heap.size w W
  base : ∀ a, A = some a → 0 < zs.length → a.block < w.heap.size
theorem NmI.below {w : World} {A : Option Addr} {zs : List (List UInt8)} {acc : List Int} {v : Value} {W W' : World} (h : NmI w A zs acc v W) (hb : Below W.heap.size W W') : NmI w A zs acc v W' :=
  ⟨OwnL.below h.own hb, h.rows.below hb, below_step h.fr hb, h.base⟩
theorem NmI.app {w : World} {A : Option Addr} {zs : List (List UInt8)} {acc : List Int} {v v' : Value} {W W7 : World} {z : Int} (h : NmI w A zs acc v W) (hown : OwnL W7 w.heap.size 3 1 v' (intRows acc ++ intRows [z])) (hg : W.grownBy W7 v.ownBlock) : NmI w A zs (acc ++ [z]) v' W7 := by
  refine ⟨?_, fun k r hr => ?_, h.fr.trans (grown_below hg (fun g e => (OwnL.lt h.own g e).1) h.fr.size), h.base⟩
  · unfold IntsL intRows at *
    rw [List.map_append]
    exact hown
  · obtain ⟨b, o, hA', hlt, hc⟩ := h.rows k r hr
    exact ⟨b, o, hA', Nat.lt_of_lt_of_le hlt hg.size, fun j u hu => hg.cell (hc j u hu) (fun e => by have := (OwnL.lt h.own b e.symm).1; have := h.base _ hA' (by have := (List.getElem?_eq_some_iff.1 hr).1; rw [txtRows_length] at this; omega); simp at this; omega)⟩
theorem numRd_ok {l : List UInt8} {v : Int} (h : Lib.atoiAll l = .ok v) : (Cal.numS l 7).2 = (decide (Lib.itoa v = l) && decide ((Lib.trimPrefix l [45]).length ≤ 7)) ∧ ((Cal.numS l 7).2 = true → (Cal.numS l 7).1 = v) := by
  have e : Cal.numRd l 7 = (v, decide (Lib.itoa v = l) && decide ((Lib.trimPrefix l [45]).length ≤ 7)) := by unfold Cal.numRd; rw [h]
  obtain ⟨h1, h2⟩ := Cal.numd_same l (d := 7) (by decide)
  rw [e] at h1 h2
  exact ⟨h1.symm, fun h => (h2 h).symm⟩
theorem numRd_no {l : List UInt8} (h : ∀ v, Lib.atoiAll l ≠ .ok v) : (Cal.numS l 7).2 = false := by
  have e : (Cal.numRd l 7).2 = false := by
    unfold Cal.numRd
    cases hA : Lib.atoiAll l with
    | ok v => exact absurd hA (h v)
    | «syntax» => rfl
    | range => rfl
  rw [← (Cal.numd_same l (d := 7) (by decide)).1, e]
set_option maxRecDepth 100000 in
set_option maxHeartbeats 4000000 in
theorem numbers_any (A : Option Addr) (c : Nat) (zs : List (List UInt8)) (cnt : Int) (w : World) (hT : TxtT w) (hr : RowsAt w A 1 (txtRows zs)) (hz : zs.length ≤ 1000000) (hzs : ∀ z ∈ zs, z.length ≤ 1000000) :
    Calls Tryz.prog 156 #[.slice A zs.length c, .int .i64 cnt] w (NumsPost w (if (zs.length : Int) = cnt then Cal.numsF [] zs else none)) := by
  obtain ⟨R, hR⟩ : ∃ R, R = (if (zs.length : Int) = cnt then Cal.numsF [] zs else none) := ⟨_, rfl⟩
  rw [← hR]
  by_cases hc : (zs.length : Int) = cnt
  · have hres : Hid (R = Cal.numsF [] zs) := hR.trans (if_pos hc)
    have hc1 : ((zs.length : Int) != cnt) = false := by simpa using hc
    have hN0 : Hid (NmI w A zs [] (.slice none 0 0) w) := ⟨OwnL.nil _ _ _ _, hr, Below.refl _ _, fun a e h0 => by
      obtain ⟨b, o, e2, hlt, _⟩ := txtRows_get hr h0
      rw [e2] at e; cases e; exact hlt⟩
    have hzs := Lib.hid hzs
    have hT := Lib.hid (fun w' (h : Below w.heap.size w w') => hT.below h)
    subst hc
    clear hr hc1 hR
    go_enter Tryz.func156, Tryz.ntmps156
    go_wp2
    go_loopw [6, 17] (fun o i wr => ∃ (acc : List Int) (k : Nat), k ≤ zs.length ∧ Hid (acc.length = k) ∧ i = .int .i64 k ∧ Hid (NmI w A zs acc o wr) ∧ Hid (Cal.numsF acc (zs.drop k) = Cal.numsF [] zs)) (fun _ i _ => zs.length - (intOf i).toNat)
    case atStart => exact ⟨[], 0, Nat.zero_le _, rfl, rfl, hN0, rfl⟩
    case round =>
      obtain ⟨acc, k, hk, hka, rfl, hN, hinv⟩ := hrel
      clear hN0
      have hacl : acc.length ≤ 1000000 := by have := hka.out; omega
      obtain ⟨A4, c4, hu, _⟩ := IntsL.rows hN.out.own
      subst hu
      by_cases hlt : k < zs.length
      · have hzk := hzs.out _ (List.getElem_mem hlt)
        obtain ⟨b2, o2, rfl, hbl, zb, hzb, e1⟩ := txtRows_get hN.out.rows hlt
        have hzbs : zb.size ≤ 1000000 := by rw [← list_len, hzb]; omega
        have hstep : Cal.numsF acc (zs.drop k) = if (Cal.numS zb.data.toList 7).2 = true then Cal.numsF (acc ++ [(Cal.numS zb.data.toList 7).1]) (zs.drop (k + 1)) else none := by
          rw [List.drop_eq_getElem_cons hlt, Cal.numsF_cons, hzb]
        rw [hinv.out] at hstep
        clear hzb hzk hinv
        cases hA : Lib.atoiAll zb.data.toList with
        | ok v =>
          obtain ⟨v0, v1⟩ := Lib.atoiAll_bounds hA
          obtain ⟨hok, hval⟩ := numRd_ok hA
          have hA := Lib.hid hA
          go_wp2_with fail
          refine (Tryz.strconv_Atoi_ok zb (by omega) v hA.out _).mono ?_
          rintro e w1 ⟨rfl, hw⟩
          have hb : Below wr.heap.size wr w1 := by
            rcases hw with rfl | ⟨t, rfl⟩
            · exact Below.refl _ _
            · exact Lib.bytesWorld_below _ _ _
          have hN := Lib.hid (hN.out.below hb)
          clear hw hb e1
          go_wp2_with fail
          refine (Itoa_any v v0 v1 _ (hT.out _ hN.out.fr).pow).mono ?_
          rintro e w2 ⟨d, rfl, hd, _, hb2⟩
          have hq := beq_list (b := zb) hd
          have hN := Lib.hid (hN.out.below hb2)
          clear hd hb2
          obtain ⟨bb, hbb⟩ : ∃ bb, bb = decide (Lib.itoa v = zb.data.toList) := ⟨_, rfl⟩
          rw [← hbb] at hq hok
          clear hbb
          cases bb
          · have hfin : Hid (Cal.numsF [] zs = none) := by show _ = _; rw [hstep, hok]; rfl
            clear hstep hok hval
            go_wp2_with fail
            go_ret2
            exact numsPost_none (hres.out.trans hfin.out) hN.out.fr
          · have hstep := Lib.hid hstep
            have hok := Lib.hid hok
            have hval := Lib.hid hval
            go_wp2_with fail
            refine (Tryz.strings_TrimPrefix zb ⟨#[45]⟩ _).mono ?_
            rintro e w3 ⟨rfl, rfl⟩
            have hlen : (⟨(Lib.trimPrefix zb.data.toList [45]).toArray⟩ : ByteArray).size = (Lib.trimPrefix zb.data.toList [45]).length := by show Array.size _ = _; simp
            obtain ⟨tp, htp⟩ : ∃ tp : ByteArray, tp = ⟨(Lib.trimPrefix zb.data.toList [45]).toArray⟩ := ⟨_, rfl⟩
            rw [← htp] at hlen
            rw [show (⟨(Lib.trimPrefix zb.data.toList (⟨#[45]⟩ : ByteArray).data.toList).toArray⟩ : ByteArray) = tp from htp.symm]
            have hok2 := hok.out
            rw [← hlen] at hok2
            clear htp hlen
            by_cases h10 : tp.size ≤ 7
            · have hall : (Cal.numS zb.data.toList 7).2 = true := by rw [hok2]; simp [h10]
              have hnx : Hid (Cal.numsF (acc ++ [v]) (zs.drop (k + 1)) = Cal.numsF [] zs) := by
                show _ = _
                rw [hstep.out, if_pos hall, hval.out hall]
              have h10'' : decide (7 < (tp.size : Int)) = false := decide_eq_false (by omega)
              clear hok2 hall
              go_wp2_with (at_builtin; have hNa := hN.out.below (below_alloc w3 (.cells #[.int .i64 v] 3)); have hO := hNa.own; have hsrc : RowsAt (w3.alloc (.cells #[.int .i64 v] 3)) (some ⟨w3.heap.size, 0, none⟩) 1 (intRows [v]) := rowsAt_new w3 [.int .i64 v] 3; refine wpList_append_rows elemInt rfl _ _ rfl rfl rfl hO hsrc rfl (intRows_wid [v]) (intRows_one [v]) (by simp only [intRows_length, List.length_singleton]; omega) (by decide) hNa.fr.size ?_; intro v' w7 hown7 hg7 _; have hN7 := Lib.hid (hNa.app hown7 hg7); clear hown7 hg7 hO hNa hsrc)
              go_roundw
              case rel => exact ⟨acc ++ [v], k + 1, by omega, by show _ = _; rw [List.length_append, hka.out]; rfl, by go_num, hN7, hnx⟩
              case measure => simp [intOf]; omega
            · have hfin : Hid (Cal.numsF [] zs = none) := by show _ = _; rw [hstep.out, hok2]; simp [h10]
              have h10'' : 7 < tp.size := by omega
              clear hok2 h10
              go_wp2_with fail
              go_ret2
              exact numsPost_none (hres.out.trans hfin.out) hN.out.fr
        | «syntax» =>
          have hfin : Hid (Cal.numsF [] zs = none) := by show _ = _; rw [hstep, numRd_no (by rw [hA]; intro v h; cases h)]; rfl
          obtain ⟨t, p, hce⟩ := (hT.out _ hN.out.fr).syn
          have hA := Lib.hid hA
          have hce := Lib.hid hce
          clear hstep
          go_wp2_with fail
          refine (Tryz.strconv_Atoi_syntax zb (by omega) hA.out _ _ hce.out (.inr ⟨_, _, rfl⟩)).mono ?_
          rintro e w1 ⟨N, rfl, _, _, hb⟩
          have hb := Lib.hid (below_step hN.out.fr hb)
          go_wp2_with fail
          go_ret2
          exact numsPost_none (hres.out.trans hfin.out) hb.out
        | range =>
          have hfin : Hid (Cal.numsF [] zs = none) := by show _ = _; rw [hstep, numRd_no (by rw [hA]; intro v h; cases h)]; rfl
          obtain ⟨t, p, hce⟩ := (hT.out _ hN.out.fr).ran
          have hA := Lib.hid hA
          have hce := Lib.hid hce
          clear hstep
          go_wp2_with fail
          refine (Tryz.strconv_Atoi_range zb (by omega) hA.out _ _ hce.out (.inr ⟨_, _, rfl⟩)).mono ?_
          rintro e w1 ⟨N, rfl, _, _, hb⟩
          have hb := Lib.hid (below_step hN.out.fr hb)
          go_wp2_with fail
          go_ret2
          exact numsPost_none (hres.out.trans hfin.out) hb.out
      · obtain rfl : k = zs.length := by omega
        have hfin : Hid (Cal.numsF [] zs = some acc) := by show _ = _; rw [← hinv.out, List.drop_length]; rfl
        go_wp2
        go_ret2
        rw [hres.out, hfin.out]
        exact ⟨_, rfl, hN.out.own, hN.out.fr⟩
  · have hres : Hid (R = none) := hR.trans (if_neg hc)
    have hc1 : ((zs.length : Int) != cnt) = true := by simpa using hc
    clear hc hr hT hR
    go_enter Tryz.func156, Tryz.ntmps156
    go_wp2
    go_ret2
    exact numsPost_none hres.out (Below.refl _ _)
set_option maxRecDepth 100000 in
set_option maxHeartbeats 4000000 in
theorem numbersR_any (A : Option Addr) (c : Nat) (zs : List (List UInt8)) (w : World) (hr : RowsAt w A 1 (txtRows zs)) (hz : zs.length ≤ 1000000) (hzs : ∀ z ∈ zs, z.length ≤ 1000000) :
    Calls Tryz.prog 98 #[.slice A zs.length c] w (NumsPost w (Cal.numsF [] zs)) := by
  have hN0 : Hid (NmI w A zs [] (.slice none 0 0) w) := ⟨OwnL.nil _ _ _ _, hr, Below.refl _ _, fun a e h0 => by
    obtain ⟨b, o, e2, hlt, _⟩ := txtRows_get hr h0
    rw [e2] at e; cases e; exact hlt⟩
  have hzs := Lib.hid hzs
  clear hr
  go_enter Tryz.func98, Tryz.ntmps98
  go_wp2
  go_loopw [4, 5] (fun o i wr => ∃ (acc : List Int) (k : Nat), k ≤ zs.length ∧ Hid (acc.length = k) ∧ i = .int .i64 k ∧ Hid (NmI w A zs acc o wr) ∧ Hid (Cal.numsF acc (zs.drop k) = Cal.numsF [] zs)) (fun _ i _ => zs.length - (intOf i).toNat)
  case atStart => exact ⟨[], 0, Nat.zero_le _, rfl, rfl, hN0, rfl⟩
  case round =>
    obtain ⟨acc, k, hk, hka, rfl, hN, hinv⟩ := hrel
    clear hN0
    have hacl : acc.length ≤ 1000000 := by have := hka.out; omega
    obtain ⟨A4, c4, hu, _⟩ := IntsL.rows hN.out.own
    subst hu
    by_cases hlt : k < zs.length
    · have hzk := hzs.out _ (List.getElem_mem hlt)
      obtain ⟨b2, o2, rfl, hbl, zb, hzb, e1⟩ := txtRows_get hN.out.rows hlt
      have hzbs : zb.size ≤ 1000000 := by rw [← list_len, hzb]; omega
      have hstep : Cal.numsF acc (zs.drop k) = if (Cal.numS zb.data.toList 7).2 = true then Cal.numsF (acc ++ [(Cal.numS zb.data.toList 7).1]) (zs.drop (k + 1)) else none := by
        rw [List.drop_eq_getElem_cons hlt, Cal.numsF_cons, hzb]
      rw [hinv.out] at hstep
      clear hzb hzk hinv
      go_wp2_with fail
      refine (Number_any zb 7 _ (by decide) hzbs).mono ?_
      generalize Cal.numS zb.data.toList 7 = q at *
      obtain ⟨z, ok⟩ := q
      rintro e w5 ⟨rfl, hbn⟩
      have hN := Lib.hid (hN.out.below hbn)
      dsimp only at hstep ⊢
      clear hbn e1
      cases ok
      · have hfin : Hid (Cal.numsF [] zs = none) := by rw [if_neg (by decide)] at hstep; exact hstep
        clear hstep
        go_wp2_with fail
        go_ret2
        exact numsPost_none hfin.out hN.out.fr
      · have hnx : Hid (Cal.numsF (acc ++ [z]) (zs.drop (k + 1)) = Cal.numsF [] zs) := by rw [if_pos rfl] at hstep; exact hstep.symm
        clear hstep
        go_wp2_with (at_builtin; have hNa := hN.out.below (below_alloc w5 (.cells #[.int .i64 z] 3)); have hO := hNa.own; have hsrc : RowsAt (w5.alloc (.cells #[.int .i64 z] 3)) (some ⟨w5.heap.size, 0, none⟩) 1 (intRows [z]) := rowsAt_new w5 [.int .i64 z] 3; refine wpList_append_rows elemInt rfl _ _ rfl rfl rfl hO hsrc rfl (intRows_wid [z]) (intRows_one [z]) (by simp only [intRows_length, List.length_singleton]; omega) (by decide) hNa.fr.size ?_; intro v' w7 hown7 hg7 _; have hN7 := Lib.hid (hNa.app hown7 hg7); clear hown7 hg7 hO hNa hsrc)
        go_roundw
        case rel => exact ⟨acc ++ [z], k + 1, by omega, by show _ = _; rw [List.length_append, hka.out]; rfl, by go_num, hN7, hnx⟩
        case measure => simp [intOf]; omega
    · obtain rfl : k = zs.length := by omega
      have hfin : Hid (Cal.numsF [] zs = some acc) := by show _ = _; rw [← hinv.out, List.drop_length]; rfl
      go_wp2
      go_ret2
      rw [hfin.out]
      exact ⟨_, rfl, hN.out.own, hN.out.fr⟩
end Go.Proofs.YtbegbajlagcbdaaGreatDoor
