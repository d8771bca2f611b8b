/- The walks: source (rule) and Source (reference), CheckProvisions of the reference. -/
import Derived.Test.YtoigamkldccnkaaDoorW12
namespace Go.Proofs.YtoigamkldccnkaaDoor
open Go Go.RowKit
def Cal.frAt (l : List Prov) (i : Nat) : Int := match l[i]? with | some q => q.fr | none => 0
theorem Cal.frAt_eq {l : List Prov} {i : Nat} {q : Prov} (h : l[i]? = some q) : Cal.frAt l i = q.fr := by unfold Cal.frAt; rw [h]
def Cal.takes (l : List Prov) (name : ByteArray) (holds known : Int) (p : Prov) (best : Int) : Bool :=
  (p.name.toList == name.toList) && (decide (p.en ≤ known) && (decide (p.fr ≤ holds) && (decide (best < 0) || decide (Cal.frAt l best.toNat ≤ p.fr))))
/-- The entry that decides, of the first k ones, or -1. -/
def Cal.srcTo (l : List Prov) (name : ByteArray) (holds known : Int) : Nat → Int
  | 0 => -1
  | k + 1 => match l[k]? with
    | none => Cal.srcTo l name holds known k
    | some p => if Cal.takes l name holds known p (Cal.srcTo l name holds known k) = true then (k : Int) else Cal.srcTo l name holds known k
theorem Cal.srcTo_set {l : List Prov} {name : ByteArray} {holds known : Int} {k : Nat} {p : Prov} {best : Int} (hb : best = Cal.srcTo l name holds known k) (hk : l[k]? = some p) (h : Cal.takes l name holds known p best = true) :
    (k : Int) = Cal.srcTo l name holds known (k + 1) := by
  conv => rhs; unfold Cal.srcTo
  rw [hk, ← hb]; exact (if_pos h).symm
theorem Cal.srcTo_keep {l : List Prov} {name : ByteArray} {holds known : Int} {k : Nat} {p : Prov} {best : Int} (hb : best = Cal.srcTo l name holds known k) (hk : l[k]? = some p) (h : Cal.takes l name holds known p best = false) :
    best = Cal.srcTo l name holds known (k + 1) := by
  conv => rhs; unfold Cal.srcTo
  rw [hk, ← hb]; exact (if_neg (by rw [h]; simp)).symm
theorem Cal.srcTo_lt (l : List Prov) (name : ByteArray) (holds known : Int) (k : Nat) : -1 ≤ Cal.srcTo l name holds known k ∧ Cal.srcTo l name holds known k < k := by
  induction k with
  | zero => simp [Cal.srcTo]
  | succ k ih =>
    unfold Cal.srcTo
    split
    · omega
    · split <;> omega
def Cal.src (l : List Prov) (name : ByteArray) (holds known : Int) : Int := Cal.srcTo l name holds known l.length
set_option maxHeartbeats 2000000 in
theorem source_any (A : Option Addr) (c : Nat) (l : List Prov) (name : ByteArray) (holds known : Int) (w : World) (hl : Provs w A l) :
    Calls Tryd.prog 66 #[.slice A l.length c, .string name, .int .i64 holds, .int .i64 known] w fun e w' => e = .returned (.int .i64 (Cal.src l name holds known)) ∧ Below w.heap.size w w' := by
  have hsz := hl.size
  have hl' := Lib.hid hl
  clear hl
  have h0 : Hid ((-1 : Int) = Cal.srcTo l name holds known 0) := rfl
  go_enter Tryd.func66, Tryd.ntmps66
  go_wp2
  go_loopw [9, 14] (fun bs i wr => ∃ (k : Nat) (best : Int), k ≤ l.length ∧ i = .int .i64 k ∧ bs = .int .i64 best ∧ -1 ≤ best ∧ best < k ∧ Hid (best = Cal.srcTo l name holds known k) ∧ Below w.heap.size w wr) (fun _ i _ => l.length - (intOf i).toNat)
  case atStart => exact ⟨0, -1, Nat.zero_le _, rfl, rfl, by omega, by omega, h0, Below.refl _ _⟩
  case round =>
    obtain ⟨k, best, hk, rfl, rfl, hb1, hb2, hbest, hb⟩ := hrel
    clear h0
    have hbs := hb.size
    by_cases hlt : k < l.length
    · have hk' : l[k]? = some l[k] := List.getElem?_eq_getElem hlt
      have hat := Lib.hid (fun (q : Nat) p (h : l[q]? = some p) => (hl'.out.below hb).at_ h)
      obtain ⟨b, o, rfl, hbl, c0, c1, c2, c3, c4⟩ := (hl'.out.below hb).at_ hk'
      generalize l[k] = p at *
      cases h1 : p.name.toList == name.toList
      · have hst : Hid (best = Cal.srcTo l name holds known (k + 1)) := Cal.srcTo_keep hbest.out hk' (by unfold Cal.takes; simp [h1])
        clear hk'
        go_wp2_with fail
        go_quiet (fail)
        go_wp2_with fail
        go_roundw
        case rel => exact ⟨k + 1, best, by omega, by go_num, rfl, by omega, by omega, hst, below_drewN (hb.alloc hbs _) _⟩
        case measure => simp [intOf]; omega
      · by_cases h2 : p.en ≤ known
        · by_cases h3 : p.fr ≤ holds
          · by_cases h4 : best < 0
            · have hst : Hid ((k : Int) = Cal.srcTo l name holds known (k + 1)) := Cal.srcTo_set hbest.out hk' (by unfold Cal.takes; simp [h1, h2, h3, h4])
              clear hk'
              go_wp2_with fail
              go_quiet (fail)
              go_wp2_with fail
              go_roundw
              case rel => exact ⟨k + 1, k, by omega, by go_num, rfl, by omega, by omega, hst, below_drewN (hb.alloc hbs _) _⟩
              case measure => simp [intOf]; omega
            · obtain ⟨q, rfl⟩ := Int.eq_ofNat_of_zero_le (show 0 ≤ best by omega)
              have hq' : l[q]? = some l[q] := List.getElem?_eq_getElem (by omega)
              obtain ⟨b', o', hA', hbl', d0, d1, d2, d3, d4⟩ := hat.out q _ hq'
              have hfr := Lib.hid (Cal.frAt_eq hq')
              generalize l[q] = pq at *
              clear hq'
              simp only [Option.some.injEq, Addr.mk.injEq, and_true] at hA'
              obtain ⟨rfl, rfl⟩ := hA'
              clear d0 d1 d3 d4
              have h4' : decide ((q : Int) < 0) = false := by simp
              by_cases h5 : pq.fr ≤ p.fr
              · have hst : Hid ((k : Int) = Cal.srcTo l name holds known (k + 1)) := Cal.srcTo_set hbest.out hk' (by unfold Cal.takes; simp [h1, h2, h3, hfr.out, h5])
                clear hk'
                go_wp2_with fail
                go_quiet (fail)
                go_wp2_with fail
                go_roundw
                case rel => exact ⟨k + 1, k, by omega, by go_num, rfl, by omega, by omega, hst, below_drewN (hb.alloc hbs _) _⟩
                case measure => simp [intOf]; omega
              · have hst : Hid ((q : Int) = Cal.srcTo l name holds known (k + 1)) := Cal.srcTo_keep hbest.out hk' (by unfold Cal.takes; simp [h1, h2, h3, hfr.out, h5])
                clear hk'
                go_wp2_with fail
                go_quiet (fail)
                go_wp2_with fail
                go_roundw
                case rel => exact ⟨k + 1, q, by omega, by go_num, rfl, by omega, by omega, hst, below_drewN (hb.alloc hbs _) _⟩
                case measure => simp [intOf]; omega
          · have h3' : decide (p.fr ≤ holds) = false := by simpa using h3
            have hst : Hid (best = Cal.srcTo l name holds known (k + 1)) := Cal.srcTo_keep hbest.out hk' (by unfold Cal.takes; simp [h1, h2, h3])
            clear hk'
            go_wp2_with fail
            go_quiet (fail)
            go_wp2_with fail
            go_roundw
            case rel => exact ⟨k + 1, best, by omega, by go_num, rfl, by omega, by omega, hst, below_drewN (hb.alloc hbs _) _⟩
            case measure => simp [intOf]; omega
        · have h2' : decide (p.en ≤ known) = false := by simpa using h2
          have hst : Hid (best = Cal.srcTo l name holds known (k + 1)) := Cal.srcTo_keep hbest.out hk' (by unfold Cal.takes; simp [h1, h2])
          clear hk'
          go_wp2_with fail
          go_quiet (fail)
          go_wp2_with fail
          go_roundw
          case rel => exact ⟨k + 1, best, by omega, by go_num, rfl, by omega, by omega, hst, below_drewN (hb.alloc hbs _) _⟩
          case measure => simp [intOf]; omega
    · obtain rfl : k = l.length := by omega
      go_wp2
      go_ret
      exact ⟨ret_int hbest.out, hb⟩
end Go.Proofs.YtoigamkldccnkaaDoor
