/- The walk of a statement. -/
import Derived.Test.YtbinoelbjlgjkaaGreatDoorC14
namespace Go.Proofs.YtbinoelbjlgjkaaGreatDoor
open Go Go.RowKit
/-- A bool that bounds the list where it is true. -/
def LawsOut (l : List Prov) (e : Ending) : Prop := ∃ b : Bool, e = .returned (.bool b) ∧ (b = true → l.length ≤ 210 ∧ ∀ (k : Nat) p, l[k]? = some p → p.name.size ≤ 30)
def shortTo (l : List Prov) (k : Nat) : Prop := ∀ (j : Nat) p, j < k → l[j]? = some p → p.name.size ≤ 30
theorem Laws_any (A : Option Addr) (c : Nat) (l : List Prov) (w : World) (hl : Provs w A l) :
    Calls Tryz.prog 13 #[.slice A l.length c] w fun e w' => LawsOut l e ∧ w = w' := by
  have hsz := hl.size
  by_cases h1 : l.length ≤ 12 ∨ (200 < l.length ∧ l.length ≤ 210)
  · have hl' := Lib.hid hl
    have h0 : Hid (shortTo l 0) := fun j p h _ => by omega
    have h210 : l.length ≤ 210 := by omega
    clear hl
    have hmain : Calls Tryz.prog 13 #[.slice A l.length c] w fun e w' => LawsOut l e ∧ w = w' := by
      rcases h1 with h1 | ⟨h1, h2⟩
      all_goals
        go_enter Tryz.func13, Tryz.ntmps13
        go_wp2
        go_loop [3] (fun i => ∃ k : Nat, k ≤ l.length ∧ i = .int .i64 k ∧ Hid (shortTo l k)) (fun i => l.length - (intOf i).toNat)
        case atStart => exact ⟨0, Nat.zero_le _, rfl, h0⟩
        case round =>
          obtain ⟨k, hk, rfl, hshort⟩ := hrel
          clear h0
          by_cases hlt : k < l.length
          · have hk' : l[k]? = some l[k] := List.getElem?_eq_getElem hlt
            obtain ⟨b, o, rfl, hbl, c0, c1, c2, c3, c4⟩ := hl'.out.at_ hk'
            have hnm := hl'.out.names k _ hk'
            unfold maxLen at hnm
            clear c1 c2 c3 c4
            generalize l[k] = p at *
            by_cases hs : p.name.size ≤ 30
            · have hg2 : Hid (shortTo l (k + 1)) := fun j q hj hq => by
                rcases Nat.lt_or_ge j k with h | h
                · exact hshort.out j q h hq
                · obtain rfl : j = k := by omega
                  rw [hk'] at hq; cases hq; exact hs
              clear hk'
              go_wp2
              go_round
              case rel => exact ⟨k + 1, by omega, by go_num, hg2⟩
              case measure => simp [intOf]; omega
            · clear hk'
              go_wp2
              go_ret
              exact ⟨⟨false, rfl, fun h => by cases h⟩, rfl⟩
          · obtain rfl : k = l.length := by omega
            go_wp2
            go_ret
            exact ⟨⟨true, rfl, fun _ => ⟨h210, fun j p hp => hshort.out j p (List.getElem?_eq_some_iff.1 hp).1 hp⟩⟩, rfl⟩
    exact hmain
  · have h2 : 12 < l.length := by omega
    have h3 : l.length ≤ 200 ∨ 210 < l.length := by omega
    clear h1
    rcases h3 with h3 | h3
    · go_enter Tryz.func13, Tryz.ntmps13
      go_wp2
      go_ret
      exact ⟨⟨false, rfl, fun h => by cases h⟩, rfl⟩
    · go_enter Tryz.func13, Tryz.ntmps13
      go_wp2
      go_ret
      exact ⟨⟨false, rfl, fun h => by cases h⟩, rfl⟩
/-- The boxed pair of days. -/
structure AtCells (w : World) (B : Nat) (holds known : Int) : Prop where
  c0 : w.cell? ⟨B, 0, none⟩ = some (.int .i64 holds)
  c1 : w.cell? ⟨B, 1, none⟩ = some (.int .i64 known)
  lt : B < w.heap.size
theorem AtCells.below {w w' : World} {B : Nat} {holds known : Int} (h : AtCells w B holds known) (hb : Below w.heap.size w w') : AtCells w' B holds known :=
  ⟨(hb.cell (p := ⟨B, 0, none⟩) h.lt).trans h.c0, (hb.cell (p := ⟨B, 1, none⟩) h.lt).trans h.c1, Nat.lt_of_lt_of_le h.lt hb.size⟩
theorem AtCells.new (w : World) (holds known : Int) (t : TypeId) : AtCells (w.alloc (.cells #[.int .i64 holds, .int .i64 known] t)) w.heap.size holds known := ⟨by simp, by simp, by simp⟩
end Go.Proofs.YtbinoelbjlgjkaaGreatDoor
