/- The walk of the statement RuleSources. -/
import Derived.Test.YtoigamkldccnkaaDoorAwake
namespace Go.Proofs.YtoigamkldccnkaaDoor
open Go Go.RowKit
/-- A bool that bounds the list where it is true. -/
def LawsOut (l : List Prov) (e : Ending) : Prop := ∃ b : Bool, e = .returned (.bool b) ∧ (b = true → l.length ≤ 210 ∧ ∀ (k : Nat) p, l[k]? = some p → p.name.size ≤ 30)
def shortTo (l : List Prov) (k : Nat) : Prop := ∀ (j : Nat) p, j < k → l[j]? = some p → p.name.size ≤ 30
theorem Laws_any (A : Option Addr) (c : Nat) (l : List Prov) (w : World) (hl : Provs w A l) :
    Calls Tryd.prog 16 #[.slice A l.length c] w fun e w' => LawsOut l e ∧ w = w' := by
  have hsz := hl.size
  by_cases h1 : l.length ≤ 12 ∨ (200 < l.length ∧ l.length ≤ 210)
  · have hl' := Lib.hid hl
    have h0 : Hid (shortTo l 0) := fun j p h _ => by omega
    have h210 : l.length ≤ 210 := by omega
    clear hl
    have hmain : Calls Tryd.prog 16 #[.slice A l.length c] w fun e w' => LawsOut l e ∧ w = w' := by
      rcases h1 with h1 | ⟨h1, h2⟩
      all_goals
        go_enter Tryd.func16, Tryd.ntmps16
        go_wp2
        go_loop [3] (fun i => ∃ k : Nat, k ≤ l.length ∧ i = .int .i64 k ∧ Hid (shortTo l k)) (fun i => l.length - (intOf i).toNat)
        case atStart => exact ⟨0, Nat.zero_le _, rfl, h0⟩
        case round =>
          obtain ⟨k, hk, rfl, hshort⟩ := hrel
          clear h0
          by_cases hlt : k < l.length
          · have hk' : l[k]? = some l[k] := List.getElem?_eq_getElem hlt
            obtain ⟨b, o, rfl, hbl, c0, c1, c2, c3, c4⟩ := hl'.out.at_ hk'
            have hnm := hl'.out.names k _ hk'
            unfold maxLen at hnm
            clear c1 c2 c3 c4
            generalize l[k] = p at *
            by_cases hs : p.name.size ≤ 30
            · have hg2 : Hid (shortTo l (k + 1)) := fun j q hj hq => by
                rcases Nat.lt_or_ge j k with h | h
                · exact hshort.out j q h hq
                · obtain rfl : j = k := by omega
                  rw [hk'] at hq; cases hq; exact hs
              clear hk'
              go_wp2
              go_round
              case rel => exact ⟨k + 1, by omega, by go_num, hg2⟩
              case measure => simp [intOf]; omega
            · clear hk'
              go_wp2
              go_ret
              exact ⟨⟨false, rfl, fun h => by cases h⟩, rfl⟩
          · obtain rfl : k = l.length := by omega
            go_wp2
            go_ret
            exact ⟨⟨true, rfl, fun _ => ⟨h210, fun j p hp => hshort.out j p (List.getElem?_eq_some_iff.1 hp).1 hp⟩⟩, rfl⟩
    exact hmain
  · have h2 : 12 < l.length := by omega
    have h3 : l.length ≤ 200 ∨ 210 < l.length := by omega
    clear h1
    rcases h3 with h3 | h3
    · go_enter Tryd.func16, Tryd.ntmps16
      go_wp2
      go_ret
      exact ⟨⟨false, rfl, fun h => by cases h⟩, rfl⟩
    · go_enter Tryd.func16, Tryd.ntmps16
      go_wp2
      go_ret
      exact ⟨⟨false, rfl, fun h => by cases h⟩, rfl⟩
/-- The boxed pair of days. -/
structure AtCells (w : World) (B : Nat) (holds known : Int) : Prop where
  c0 : w.cell? ⟨B, 0, none⟩ = some (.int .i64 holds)
  c1 : w.cell? ⟨B, 1, none⟩ = some (.int .i64 known)
  lt : B < w.heap.size
theorem AtCells.below {w w' : World} {B : Nat} {holds known : Int} (h : AtCells w B holds known) (hb : Below w.heap.size w w') : AtCells w' B holds known :=
  ⟨(hb.cell (p := ⟨B, 0, none⟩) h.lt).trans h.c0, (hb.cell (p := ⟨B, 1, none⟩) h.lt).trans h.c1, Nat.lt_of_lt_of_le h.lt hb.size⟩
theorem AtCells.new (w : World) (holds known : Int) (t : TypeId) : AtCells (w.alloc (.cells #[.int .i64 holds, .int .i64 known] t)) w.heap.size holds known := ⟨by simp, by simp, by simp⟩
set_option maxRecDepth 100000 in
set_option maxHeartbeats 2000000 in
theorem RuleSources_any (A : Option Addr) (c : Nat) (l : List Prov) (name : ByteArray) (holds known : Int) (w : World) (hl : Provs w A l) (hn : name.size ≤ maxLen) (hT : Tab w) :
    Calls Tryd.prog 3 #[.slice A l.length c, .string name, .agg #[.int .i64 holds, .int .i64 known]] w fun e w' => e = .returned (.bool true) ∧ Below w.heap.size w w' := by
  unfold maxLen at hn
  have hl' := Lib.hid hl
  have hT' := Lib.hid hT
  have hat := Lib.hid (AtCells.new w holds known 23)
  clear hl hT
  by_cases hns : name.size ≤ 30
  · by_cases h0 : Cal.atErr l [holds, known] = 0
    · by_cases h2 : Cal.src l name holds known < 0
      · have hs : Cal.sourceS l name holds known = (0, 6) := by unfold Cal.sourceS; rw [if_pos h0, if_pos h2]
        have hv : Cal.valueS l name holds known = (0, 6) := by unfold Cal.valueS; rw [if_pos h0, if_pos h2]
        have h1 : (Cal.atErr l [holds, known] != 0) = false := by simpa using h0
        clear h0
        go_enter Tryd.func3, Tryd.ntmps3
        go_wp2_with fail
        refine (awake_any _ (hT'.out.alloc _)).mono ?_
        rintro e w1 ⟨rfl, hb1⟩
        have ha1 := Lib.hid (hat.out.below hb1)
        have hbw := Lib.hid (below_step (below_alloc w _) hb1)
        have k0 := ha1.out.c0
        have k1 := ha1.out.c1
        clear hb1
        go_wp2_with fail
        refine (Laws_any _ _ l _ (hl'.out.below hbw.out)).mono ?_
        rintro e w' ⟨⟨b, rfl, _⟩, rfl⟩
        cases b
        · go_wp2
          go_ret
          exact ⟨rfl, hbw.out⟩
        go_wp2_with fail
        refine (Source_any _ _ l name holds known _ (hl'.out.below hbw.out)).mono ?_
        rintro e w2 ⟨rfl, hb2⟩
        have ha2 := Lib.hid (ha1.out.below hb2)
        have hbw2 := Lib.hid (below_step hbw.out hb2)
        clear hb2 k0 k1
        have k0 := ha2.out.c0
        have k1 := ha2.out.c1
        go_wp2_with fail
        refine (Value_any _ _ l name holds known _ (hl'.out.below hbw2.out)).mono ?_
        rintro e w3 ⟨rfl, hb3⟩
        have ha3 := Lib.hid (ha2.out.below hb3)
        have hbw3 := Lib.hid (below_step hbw2.out hb3)
        clear hb3 k0 k1
        have k0 := ha3.out.c0
        have k1 := ha3.out.c1
        go_wp2_with fail
        refine (atErr_any _ _ l holds known _ (hl'.out.below hbw3.out)).mono ?_
        rintro e w4 ⟨rfl, hb4⟩
        have ha4 := Lib.hid (ha3.out.below hb4)
        have hbw4 := Lib.hid (below_step hbw3.out hb4)
        clear hb4 k0 k1
        have k0 := ha4.out.c0
        have k1 := ha4.out.c1
        go_wp2_with fail
        refine (SourceR_any _ _ l name holds known _ (hl'.out.below hbw4.out)).mono ?_
        rintro e w5 ⟨rfl, hb5⟩
        have hbw5 := Lib.hid (below_step hbw4.out hb5)
        clear hb5 k0 k1
        go_wp2
        go_ret
        exact ⟨rfl, hbw5.out⟩
      · obtain ⟨q, p, hq, hp⟩ := Cal.src_form h2
        have hv0 := Cal.valOf_some hq hp
        have hs : Cal.sourceS l name holds known = ((q : Int), 0) := by unfold Cal.sourceS; rw [if_pos h0, if_neg h2, hq]
        have h1 : (Cal.atErr l [holds, known] != 0) = false := by simpa using h0
        have hp' := Lib.hid hp
        have hql : q < l.length := (List.getElem?_eq_some_iff.1 hp).1
        have hsz := hl'.out.size
        obtain ⟨b, o, rfl, hbl, _⟩ := hl'.out.at_ hp
        cases hr : p.repeal
        · have hv : Cal.valueS l name holds known = (p.value, 0) := by unfold Cal.valueS; rw [if_pos h0, if_neg h2, hv0, hr]; simp
          have hr' := Lib.hid hr
          clear h0 h2 hv0 hp hr
          go_enter Tryd.func3, Tryd.ntmps3
          go_wp2_with fail
          refine (awake_any _ (hT'.out.alloc _)).mono ?_
          rintro e w1 ⟨rfl, hb1⟩
          have ha1 := Lib.hid (hat.out.below hb1)
          have hbw := Lib.hid (below_step (below_alloc w _) hb1)
          have k0 := ha1.out.c0
          have k1 := ha1.out.c1
          clear hb1
          go_wp2_with fail
          refine (Laws_any _ _ l _ (hl'.out.below hbw.out)).mono ?_
          rintro e w' ⟨⟨b, rfl, _⟩, rfl⟩
          cases b
          · go_wp2
            go_ret
            exact ⟨rfl, hbw.out⟩
          go_wp2_with fail
          refine (Source_any _ _ l name holds known _ (hl'.out.below hbw.out)).mono ?_
          rintro e w2 ⟨rfl, hb2⟩
          have ha2 := Lib.hid (ha1.out.below hb2)
          have hbw2 := Lib.hid (below_step hbw.out hb2)
          clear hb2 k0 k1
          have k0 := ha2.out.c0
          have k1 := ha2.out.c1
          go_wp2_with fail
          refine (Value_any _ _ l name holds known _ (hl'.out.below hbw2.out)).mono ?_
          rintro e w3 ⟨rfl, hb3⟩
          have ha3 := Lib.hid (ha2.out.below hb3)
          have hbw3 := Lib.hid (below_step hbw2.out hb3)
          clear hb3 k0 k1
          have k0 := ha3.out.c0
          have k1 := ha3.out.c1
          go_wp2_with fail
          refine (atErr_any _ _ l holds known _ (hl'.out.below hbw3.out)).mono ?_
          rintro e w4 ⟨rfl, hb4⟩
          have ha4 := Lib.hid (ha3.out.below hb4)
          have hbw4 := Lib.hid (below_step hbw3.out hb4)
          clear hb4 k0 k1
          have k0 := ha4.out.c0
          have k1 := ha4.out.c1
          go_wp2_with fail
          refine (SourceR_any _ _ l name holds known _ (hl'.out.below hbw4.out)).mono ?_
          rintro e w5 ⟨rfl, hb5⟩
          have hbw5 := Lib.hid (below_step hbw4.out hb5)
          clear hb5 k0 k1
          obtain ⟨b', o', hA', hbl', c0, c1, c2, c3, c4⟩ := (hl'.out.below hbw5.out).at_ hp'.out
          simp only [Option.some.injEq, Addr.mk.injEq, and_true] at hA'
          obtain ⟨rfl, rfl⟩ := hA'
          rw [hr'.out] at c4
          clear c0 c2 c3 hbl
          go_wp2
          go_ret
          exact ⟨rfl, hbw5.out⟩
        · have hv : Cal.valueS l name holds known = (0, 12) := by unfold Cal.valueS; rw [if_pos h0, if_neg h2, hv0, hr]; simp
          have hr' := Lib.hid hr
          clear h0 h2 hv0 hp hr
          go_enter Tryd.func3, Tryd.ntmps3
          go_wp2_with fail
          refine (awake_any _ (hT'.out.alloc _)).mono ?_
          rintro e w1 ⟨rfl, hb1⟩
          have ha1 := Lib.hid (hat.out.below hb1)
          have hbw := Lib.hid (below_step (below_alloc w _) hb1)
          have k0 := ha1.out.c0
          have k1 := ha1.out.c1
          clear hb1
          go_wp2_with fail
          refine (Laws_any _ _ l _ (hl'.out.below hbw.out)).mono ?_
          rintro e w' ⟨⟨b, rfl, _⟩, rfl⟩
          cases b
          · go_wp2
            go_ret
            exact ⟨rfl, hbw.out⟩
          go_wp2_with fail
          refine (Source_any _ _ l name holds known _ (hl'.out.below hbw.out)).mono ?_
          rintro e w2 ⟨rfl, hb2⟩
          have ha2 := Lib.hid (ha1.out.below hb2)
          have hbw2 := Lib.hid (below_step hbw.out hb2)
          clear hb2 k0 k1
          have k0 := ha2.out.c0
          have k1 := ha2.out.c1
          go_wp2_with fail
          refine (Value_any _ _ l name holds known _ (hl'.out.below hbw2.out)).mono ?_
          rintro e w3 ⟨rfl, hb3⟩
          have ha3 := Lib.hid (ha2.out.below hb3)
          have hbw3 := Lib.hid (below_step hbw2.out hb3)
          clear hb3 k0 k1
          have k0 := ha3.out.c0
          have k1 := ha3.out.c1
          go_wp2_with fail
          refine (atErr_any _ _ l holds known _ (hl'.out.below hbw3.out)).mono ?_
          rintro e w4 ⟨rfl, hb4⟩
          have ha4 := Lib.hid (ha3.out.below hb4)
          have hbw4 := Lib.hid (below_step hbw3.out hb4)
          clear hb4 k0 k1
          have k0 := ha4.out.c0
          have k1 := ha4.out.c1
          go_wp2_with fail
          refine (SourceR_any _ _ l name holds known _ (hl'.out.below hbw4.out)).mono ?_
          rintro e w5 ⟨rfl, hb5⟩
          have hbw5 := Lib.hid (below_step hbw4.out hb5)
          clear hb5 k0 k1
          obtain ⟨b', o', hA', hbl', c0, c1, c2, c3, c4⟩ := (hl'.out.below hbw5.out).at_ hp'.out
          simp only [Option.some.injEq, Addr.mk.injEq, and_true] at hA'
          obtain ⟨rfl, rfl⟩ := hA'
          rw [hr'.out] at c4
          clear c0 c2 c3 hbl
          go_wp2
          go_ret
          exact ⟨rfl, hbw5.out⟩
    · have hs : Cal.sourceS l name holds known = (0, Cal.atErr l [holds, known]) := by unfold Cal.sourceS; rw [if_neg h0]
      have hv : Cal.valueS l name holds known = (0, Cal.atErr l [holds, known]) := by unfold Cal.valueS; rw [if_neg h0]
      have h1 : (Cal.atErr l [holds, known] != 0) = true := by simpa using h0
      clear h0
      go_enter Tryd.func3, Tryd.ntmps3
      go_wp2_with fail
      refine (awake_any _ (hT'.out.alloc _)).mono ?_
      rintro e w1 ⟨rfl, hb1⟩
      have ha1 := Lib.hid (hat.out.below hb1)
      have hbw := Lib.hid (below_step (below_alloc w _) hb1)
      have k0 := ha1.out.c0
      have k1 := ha1.out.c1
      clear hb1
      go_wp2_with fail
      refine (Laws_any _ _ l _ (hl'.out.below hbw.out)).mono ?_
      rintro e w' ⟨⟨b, rfl, _⟩, rfl⟩
      cases b
      · go_wp2
        go_ret
        exact ⟨rfl, hbw.out⟩
      go_wp2_with fail
      refine (Source_any _ _ l name holds known _ (hl'.out.below hbw.out)).mono ?_
      rintro e w2 ⟨rfl, hb2⟩
      have ha2 := Lib.hid (ha1.out.below hb2)
      have hbw2 := Lib.hid (below_step hbw.out hb2)
      clear hb2 k0 k1
      have k0 := ha2.out.c0
      have k1 := ha2.out.c1
      go_wp2_with fail
      refine (Value_any _ _ l name holds known _ (hl'.out.below hbw2.out)).mono ?_
      rintro e w3 ⟨rfl, hb3⟩
      have ha3 := Lib.hid (ha2.out.below hb3)
      have hbw3 := Lib.hid (below_step hbw2.out hb3)
      clear hb3 k0 k1
      have k0 := ha3.out.c0
      have k1 := ha3.out.c1
      go_wp2_with fail
      refine (atErr_any _ _ l holds known _ (hl'.out.below hbw3.out)).mono ?_
      rintro e w4 ⟨rfl, hb4⟩
      have ha4 := Lib.hid (ha3.out.below hb4)
      have hbw4 := Lib.hid (below_step hbw3.out hb4)
      clear hb4 k0 k1
      have k0 := ha4.out.c0
      have k1 := ha4.out.c1
      go_wp2
      go_ret
      exact ⟨rfl, hbw4.out⟩
  · go_enter Tryd.func3, Tryd.ntmps3
    go_wp2_with fail
    refine (awake_any _ (hT'.out.alloc _)).mono ?_
    rintro e w1 ⟨rfl, hb1⟩
    have hbw := Lib.hid (below_step (below_alloc w _) hb1)
    clear hb1
    go_wp2_with fail
    refine (Laws_any _ _ l _ (hl'.out.below hbw.out)).mono ?_
    rintro e w' ⟨⟨b, rfl, _⟩, rfl⟩
    cases b
    all_goals
      go_wp2
      go_ret
      exact ⟨rfl, hbw.out⟩
end Go.Proofs.YtoigamkldccnkaaDoor
