/- The walks: CheckProvisions, both. -/
import Derived.Test.YtoigamkldccnkaaDoorW11
import Derived.Test.YtoigamkldccnkaaDoorData
namespace Go.Proofs.YtoigamkldccnkaaDoor
open Go Go.RowKit
/-- The error of provisions, from the entry on, the one before entered on day e0. -/
def Cal.provErrOf (p : Prov) : Int := Cal.provErr p.name p.value p.fr p.en p.repeal
def Cal.provsErrFrom (e0 : Int) : List Prov → Int
  | [] => 0
  | p :: r => if Cal.provErrOf p = 0 then (if p.en < e0 then 9 else Cal.provsErrFrom p.en r) else Cal.provErrOf p
theorem Cal.provsErrFrom_cons (e0 : Int) (p : Prov) (r : List Prov) : Cal.provsErrFrom e0 (p :: r) = if Cal.provErrOf p = 0 then (if p.en < e0 then 9 else Cal.provsErrFrom p.en r) else Cal.provErrOf p := rfl
def Cal.provsErr (l : List Prov) : Int := if 200 < l.length then 8 else Cal.provsErrFrom 0 l
theorem CheckProvisions_any (A : Option Addr) (c : Nat) (l : List Prov) (w : World) (hl : Provs w A l) :
    Calls Tryd.prog 52 #[.slice A l.length c] w fun e w' => e = .returned (.int .i64 (Cal.provsErr l)) ∧ Below w.heap.size w w' := by
  have hsz := hl.size
  by_cases hbig : 200 < l.length
  · have hfin : Hid (Cal.provsErr l = 8) := by show _ = _; unfold Cal.provsErr; rw [if_pos hbig]
    go_enter Tryd.func52, Tryd.ntmps52
    go_wp2
    go_ret
    exact ⟨ret_int hfin.out.symm, Below.refl _ _⟩
  · have hfin : Hid (Cal.provsErr l = Cal.provsErrFrom 0 l) := by show _ = _; unfold Cal.provsErr; rw [if_neg hbig]
    have hl' := Lib.hid hl
    clear hl
    go_enter Tryd.func52, Tryd.ntmps52
    go_wp2
    go_loopw [3, 12] (fun en i wr => ∃ (k : Nat) (e0 : Int), k ≤ l.length ∧ i = .int .i64 k ∧ en = .int .i64 e0 ∧ Hid (Cal.provsErr l = Cal.provsErrFrom e0 (l.drop k)) ∧ Below w.heap.size w wr) (fun _ i _ => l.length - (intOf i).toNat)
    case atStart => exact ⟨0, 0, Nat.zero_le _, rfl, rfl, hfin, Below.refl _ _⟩
    case round =>
      obtain ⟨k, e0, hk, rfl, rfl, hinv, hb⟩ := hrel
      clear hfin
      by_cases hlt : k < l.length
      · have hk' : l[k]? = some l[k] := List.getElem?_eq_getElem hlt
        have hd := Lib.hid (List.drop_eq_getElem_cons hlt)
        have hnm := hl'.out.names k _ hk'
        obtain ⟨b, o, rfl, hbl, c0, c1, c2, c3, c4⟩ := (hl'.out.below hb).at_ hk'
        clear hk'
        generalize l[k] = p at *
        have hbs := hb.size
        by_cases hp0 : Cal.provErrOf p = 0
        · have hpz := Lib.hid hp0
          have hp1 : (Cal.provErr p.name p.value p.fr p.en p.repeal != 0) = false := by simpa [Cal.provErrOf] using hp0
          clear hp0
          by_cases hlt2 : p.en < e0
          · have hfin : Hid (Cal.provsErr l = 9) := by show _ = _; rw [hinv.out, hd.out, Cal.provsErrFrom_cons, if_pos hpz.out, if_pos hlt2]
            go_wp2_with (go_at_call 93; refine (checkProvision_any _ _ _ _ _ _ hnm).mono ?_; rintro e w1 ⟨rfl, hb1⟩; obtain ⟨hc1, hf1⟩ := bcell hb1)
            go_ret
            exact ⟨ret_int hfin.out.symm, below_step (hb.alloc hbs _) hb1⟩
          · have hnx : Hid (Cal.provsErr l = Cal.provsErrFrom p.en (l.drop (k + 1))) := by show _ = _; rw [hinv.out, hd.out, Cal.provsErrFrom_cons, if_pos hpz.out, if_neg hlt2]
            go_wp2_with (go_at_call 93; refine (checkProvision_any _ _ _ _ _ _ hnm).mono ?_; rintro e w1 ⟨rfl, hb1⟩; obtain ⟨hc1, hf1⟩ := bcell hb1)
            go_roundw
            case rel => exact ⟨k + 1, p.en, by omega, by go_num, rfl, hnx, below_step (hb.alloc hbs _) hb1⟩
            case measure => simp [intOf]; omega
        · have hp1 : (Cal.provErr p.name p.value p.fr p.en p.repeal != 0) = true := by simpa [Cal.provErrOf] using hp0
          have hfin : Hid (Cal.provsErr l = Cal.provErr p.name p.value p.fr p.en p.repeal) := by show _ = _; rw [hinv.out, hd.out, Cal.provsErrFrom_cons, if_neg hp0]; rfl
          clear hp0
          go_wp2_with (go_at_call 93; refine (checkProvision_any _ _ _ _ _ _ hnm).mono ?_; rintro e w1 ⟨rfl, hb1⟩; obtain ⟨hc1, hf1⟩ := bcell hb1)
          go_ret
          exact ⟨ret_int hfin.out.symm, below_step (hb.alloc hbs _) hb1⟩
      · obtain rfl : k = l.length := by omega
        have hfin : Hid (Cal.provsErr l = 0) := by show _ = _; rw [hinv.out, List.drop_length]; rfl
        clear hinv
        go_wp2
        go_ret
        exact ⟨ret_int hfin.out.symm, hb⟩
end Go.Proofs.YtoigamkldccnkaaDoor
