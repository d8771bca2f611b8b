/- The walk of the statement RuleProvisions. -/
import Derived.Test.YtoigamkldccnkaaDoorLSources
import Derived.Test.YtoigamkldccnkaaDoorW25
namespace Go.Proofs.YtoigamkldccnkaaDoor
open Go Go.RowKit
theorem same_any (A B : Option Addr) (c d : Nat) (l : List Prov) (w : World) (hA : Provs w A l) (hB : Provs w B l) :
    Calls Tryd.prog 54 #[.slice A l.length c, .slice B l.length d] w fun e w' => e = .returned (.bool true) ∧ Below w.heap.size w w' := by
  have hsz := hA.size
  have hA' := Lib.hid (fun (q : Nat) p (h : l[q]? = some p) => hA.at_ h)
  have hB' := Lib.hid (fun (q : Nat) p (h : l[q]? = some p) => hB.at_ h)
  clear hA hB
  go_enter Tryd.func54, Tryd.ntmps54
  go_wp2
  go_loopw [5] (fun i wr => ∃ (k n : Nat), k ≤ l.length ∧ i = .int .i64 k ∧ wr = w.drewN n) (fun i _ => l.length - (intOf i).toNat)
  case atStart => exact ⟨0, 0, Nat.zero_le _, rfl, rfl⟩
  case round =>
    obtain ⟨k, n, hk, rfl, rfl⟩ := hrel
    by_cases hlt : k < l.length
    · have hk' : l[k]? = some l[k] := List.getElem?_eq_getElem hlt
      obtain ⟨b, o, rfl, hbl, c0, c1, c2, c3, c4⟩ := hA'.out _ _ hk'
      obtain ⟨b', o', rfl, hbl', d0, d1, d2, d3, d4⟩ := hB'.out _ _ hk'
      generalize l[k] = p at *
      clear hk'
      go_wp2_with fail
      go_quiet (fail)
      go_wp2_with fail
      go_roundw
      case rel => exact ⟨k + 1, _, by omega, by go_num, rfl⟩
      case measure => simp [intOf]; omega
    · obtain rfl : k = l.length := by omega
      go_wp2
      go_ret
      exact ⟨rfl, below_drewN (Below.refl _ _) _⟩
set_option maxRecDepth 100000 in
set_option maxHeartbeats 2000000 in
theorem RuleProvisions_any (A : Option Addr) (c : Nat) (l : List Prov) (p : Prov) (w : World) (hl : Provs w A l) (hp : p.name.size ≤ maxLen) (hT : Tab w) :
    Calls Tryd.prog 10 #[.slice A l.length c, .agg #[.string p.name, .int .i64 p.value, .int .i64 p.fr, .int .i64 p.en, .bool p.repeal]] w fun e w' => e = .returned (.bool true) ∧ Below w.heap.size w w' := by
  have hp' := Lib.hid hp
  unfold maxLen at hp
  have hl' := Lib.hid hl
  have hT' := Lib.hid hT
  have hnew := Lib.hid (ProvAt.new w p 32)
  clear hl hT
  by_cases hns : p.name.size ≤ 30
  · go_enter Tryd.func10, Tryd.ntmps10
    go_wp2_with fail
    refine (awake_any _ (hT'.out.alloc _)).mono ?_
    rintro e w1 ⟨rfl, hb1⟩
    have ha1 := Lib.hid (hnew.out.below hb1)
    have hbw := Lib.hid (below_step (below_alloc w _) hb1)
    have k0 := ha1.out.c0
    clear hb1
    go_wp2_with fail
    refine (Laws_any _ _ l _ (hl'.out.below hbw.out)).mono ?_
    rintro e w' ⟨⟨b, rfl, _⟩, rfl⟩
    cases b
    · go_wp2
      go_ret
      exact ⟨rfl, hbw.out⟩
    have k1 := ha1.out.c1
    have k2 := ha1.out.c2
    have k3 := ha1.out.c3
    have k4 := ha1.out.c4
    go_wp2_with fail
    refine (Next_any _ _ l p _ (hl'.out.below hbw.out) hp'.out).mono ?_
    rintro e w2 ⟨A2, c2, rfl, hl2, hb2⟩
    have ha2 := Lib.hid (ha1.out.below hb2)
    have hbw2 := Lib.hid (below_step hbw.out hb2)
    have hl2' := Lib.hid hl2
    clear hb2 hl2 k0 k1 k2 k3 k4
    have k0 := ha2.out.c0
    have k1 := ha2.out.c1
    have k2 := ha2.out.c2
    have k3 := ha2.out.c3
    have k4 := ha2.out.c4
    go_wp2_with fail
    refine (NextR_any _ _ l p _ (hl'.out.below hbw2.out) hp'.out).mono ?_
    rintro e w3 ⟨A3, c3, rfl, hl3, hb3⟩
    have hbw3 := Lib.hid (below_step hbw2.out hb3)
    have hl2'' := Lib.hid (hl2'.out.below hb3)
    have hl3' := Lib.hid hl3
    clear hb3 hl3 k0 k1 k2 k3 k4
    generalize Cal.nextL l p = m at *
    generalize Cal.nextErr l p = r at *
    go_wp2_with fail
    refine (CheckProvisions_any _ _ l _ (hl'.out.below hbw3.out)).mono ?_
    rintro e w4 ⟨rfl, hb4⟩
    have hbw4 := Lib.hid (below_step hbw3.out hb4)
    have hb4' := Lib.hid hb4
    clear hb4
    go_wp2_with fail
    refine (CheckProvisionsR_any _ _ l _ (hl'.out.below hbw4.out)).mono ?_
    rintro e w5 ⟨rfl, hb5⟩
    have hbw5 := Lib.hid (below_step hbw4.out hb5)
    have hb45 := Lib.hid (below_step hb4'.out hb5)
    clear hb5
    go_wp2_with fail
    refine (same_any _ _ _ _ m _ (hl2''.out.below hb45.out) (hl3'.out.below hb45.out)).mono ?_
    rintro e w6 ⟨rfl, hb6⟩
    have hbw6 := Lib.hid (below_step hbw5.out hb6)
    clear hb6
    go_wp2
    go_ret
    exact ⟨rfl, hbw6.out⟩
  · go_enter Tryd.func10, Tryd.ntmps10
    go_wp2_with fail
    refine (awake_any _ (hT'.out.alloc _)).mono ?_
    rintro e w1 ⟨rfl, hb1⟩
    have ha1 := Lib.hid (hnew.out.below hb1)
    have hbw := Lib.hid (below_step (below_alloc w _) hb1)
    have k0 := ha1.out.c0
    clear hb1
    go_wp2_with fail
    refine (Laws_any _ _ l _ (hl'.out.below hbw.out)).mono ?_
    rintro e w' ⟨⟨b, rfl, _⟩, rfl⟩
    cases b
    all_goals
      go_wp2
      go_ret
      exact ⟨rfl, hbw.out⟩
end Go.Proofs.YtoigamkldccnkaaDoor
