/- The walks: Source of the reference, CheckProvisions of the reference. -/
import Derived.Test.YtoigamkldccnkaaDoorW13
namespace Go.Proofs.YtoigamkldccnkaaDoor
open Go Go.RowKit
set_option maxHeartbeats 2000000 in
theorem SourceR_any (A : Option Addr) (c : Nat) (l : List Prov) (name : ByteArray) (holds known : Int) (w : World) (hl : Provs w A l) :
    Calls Tryd.prog 20 #[.slice A l.length c, .string name, .agg #[.int .i64 holds, .int .i64 known]] w fun e w' => e = .returned (.int .i64 (Cal.src l name holds known)) ∧ Below w.heap.size w w' := by
  have hsz := hl.size
  have hat := Lib.hid (fun (q : Nat) p (h : l[q]? = some p) => hl.at_ h)
  clear hl
  have h0 : Hid ((-1 : Int) = Cal.srcTo l name holds known 0) := rfl
  go_enter Tryd.func20, Tryd.ntmps20
  go_wp2
  go_loopw [7, 8] (fun bs i wr => ∃ (k : Nat) (best : Int) (n : Nat), k ≤ l.length ∧ i = .int .i64 k ∧ bs = .int .i64 best ∧ -1 ≤ best ∧ best < k ∧ Hid (best = Cal.srcTo l name holds known k) ∧ wr = (w.alloc (.cells #[.int .i64 holds, .int .i64 known] 23)).drewN n) (fun _ i _ => l.length - (intOf i).toNat)
  case atStart => exact ⟨0, -1, 0, Nat.zero_le _, rfl, rfl, by omega, by omega, h0, rfl⟩
  case round =>
    obtain ⟨k, best, n, hk, rfl, rfl, hb1, hb2, hbest, rfl⟩ := hrel
    clear h0
    by_cases hlt : k < l.length
    · have hk' : l[k]? = some l[k] := List.getElem?_eq_getElem hlt
      obtain ⟨b, o, rfl, hbl, c0, c1, c2, c3, c4⟩ := hat.out k _ hk'
      generalize l[k] = p at *
      cases h1 : p.name.toList == name.toList
      · have hst : Hid (best = Cal.srcTo l name holds known (k + 1)) := Cal.srcTo_keep hbest.out hk' (by unfold Cal.takes; simp [h1])
        clear hk'
        go_wp2_with fail
        go_quiet (fail)
        go_wp2_with fail
        go_roundw
        case rel => exact ⟨k + 1, best, _, by omega, by go_num, rfl, by omega, by omega, hst, rfl⟩
        case measure => simp [intOf]; omega
      · by_cases h2 : p.en ≤ known
        · by_cases h3 : p.fr ≤ holds
          · by_cases h4 : best < 0
            · have hst : Hid ((k : Int) = Cal.srcTo l name holds known (k + 1)) := Cal.srcTo_set hbest.out hk' (by unfold Cal.takes; simp [h1, h2, h3, h4])
              clear hk'
              go_wp2_with fail
              go_quiet (fail)
              go_wp2_with fail
              go_roundw
              case rel => exact ⟨k + 1, k, _, by omega, by go_num, rfl, by omega, by omega, hst, rfl⟩
              case measure => simp [intOf]; omega
            · obtain ⟨q, rfl⟩ := Int.eq_ofNat_of_zero_le (show 0 ≤ best by omega)
              have hq' : l[q]? = some l[q] := List.getElem?_eq_getElem (by omega)
              obtain ⟨b', o', hA', hbl', d0, d1, d2, d3, d4⟩ := hat.out q _ hq'
              have hfr := Lib.hid (Cal.frAt_eq hq')
              generalize l[q] = pq at *
              clear hq'
              simp only [Option.some.injEq, Addr.mk.injEq, and_true] at hA'
              obtain ⟨rfl, rfl⟩ := hA'
              clear d0 d1 d3 d4
              have h4' : decide ((q : Int) < 0) = false := by simp
              by_cases h5 : pq.fr ≤ p.fr
              · have hst : Hid ((k : Int) = Cal.srcTo l name holds known (k + 1)) := Cal.srcTo_set hbest.out hk' (by unfold Cal.takes; simp [h1, h2, h3, hfr.out, h5])
                clear hk'
                go_wp2_with fail
                go_quiet (fail)
                go_wp2_with fail
                go_roundw
                case rel => exact ⟨k + 1, k, _, by omega, by go_num, rfl, by omega, by omega, hst, rfl⟩
                case measure => simp [intOf]; omega
              · have hst : Hid ((q : Int) = Cal.srcTo l name holds known (k + 1)) := Cal.srcTo_keep hbest.out hk' (by unfold Cal.takes; simp [h1, h2, h3, hfr.out, h5])
                clear hk'
                go_wp2_with fail
                go_quiet (fail)
                go_wp2_with fail
                go_roundw
                case rel => exact ⟨k + 1, q, _, by omega, by go_num, rfl, by omega, by omega, hst, rfl⟩
                case measure => simp [intOf]; omega
          · have h3' : decide (p.fr ≤ holds) = false := by simpa using h3
            have hst : Hid (best = Cal.srcTo l name holds known (k + 1)) := Cal.srcTo_keep hbest.out hk' (by unfold Cal.takes; simp [h1, h2, h3])
            clear hk'
            go_wp2_with fail
            go_quiet (fail)
            go_wp2_with fail
            go_roundw
            case rel => exact ⟨k + 1, best, _, by omega, by go_num, rfl, by omega, by omega, hst, rfl⟩
            case measure => simp [intOf]; omega
        · have h2' : decide (p.en ≤ known) = false := by simpa using h2
          have hst : Hid (best = Cal.srcTo l name holds known (k + 1)) := Cal.srcTo_keep hbest.out hk' (by unfold Cal.takes; simp [h1, h2])
          clear hk'
          go_wp2_with fail
          go_quiet (fail)
          go_wp2_with fail
          go_roundw
          case rel => exact ⟨k + 1, best, _, by omega, by go_num, rfl, by omega, by omega, hst, rfl⟩
          case measure => simp [intOf]; omega
    · obtain rfl : k = l.length := by omega
      go_wp2
      go_ret
      exact ⟨ret_int hbest.out, below_drewN (below_alloc _ _) _⟩
end Go.Proofs.YtoigamkldccnkaaDoor
