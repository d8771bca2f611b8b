/- Chapter 8 and what it rests on: definitions and walks, part 09. -/
import Derived.Test.YtbegbajlagcbdaaGreatDoorC04
import Derived.Test.YtbegbajlagcbdaaGreatDoorC01
namespace Go.Proofs.YtbegbajlagcbdaaGreatDoor
open Go Go.RowKit
/-- The error of a provision by itself. -/
def Cal.provErr (nm : ByteArray) (value fr en : Int) (repeal : Bool) : Int :=
  if nameB nm = true then (if -1000000000 ≤ value ∧ value ≤ 1000000000 ∧ 0 ≤ fr ∧ fr ≤ 200000 ∧ 0 ≤ en ∧ en ≤ 200000 then (if repeal = true ∧ value ≠ 0 then 3 else 0) else 2) else 4
set_option maxHeartbeats 4000000 in
theorem checkProvision_any (nm : ByteArray) (value fr en : Int) (repeal : Bool) (w : World) (hs : nm.size ≤ maxLen) :
    Calls Tryz.prog 85 #[.agg #[.string nm, .int .i64 value, .int .i64 fr, .int .i64 en, .bool repeal]] w fun e w' => e = .returned (.int .i64 (Cal.provErr nm value fr en repeal)) ∧ Below w.heap.size w w' := by
  cases hn : nameB nm
  · go_enter Tryz.func85, Tryz.ntmps85
    go_wp2_with (first | (go_at_call 134; first | refine rin ?_ | refine rout ?_ | refine rany ?_) | (go_at_call 133; first | refine rin ?_ | refine rout ?_ | refine rany ?_) | (go_at_call 145; refine (isName_any _ _ hs).mono ?_; rintro e w' ⟨rfl, rfl⟩))
    go_ret
    exact ⟨ret_int (by unfold Cal.provErr; repeat' split
                       all_goals first | rfl | omega | simp_all), by exact blw⟩
  · by_cases hva : -1000000000 ≤ value
    · by_cases hvb : value ≤ 1000000000
      · by_cases hfa : 0 ≤ fr
        · by_cases hfb : fr ≤ 200000
          · by_cases hia : 0 ≤ en
            · by_cases hib : en ≤ 200000
              · cases repeal
                · go_enter Tryz.func85, Tryz.ntmps85
                  go_wp2_with (first | (go_at_call 134; first | refine rin ?_ | refine rout ?_ | refine rany ?_) | (go_at_call 133; first | refine rin ?_ | refine rout ?_ | refine rany ?_) | (go_at_call 145; refine (isName_any _ _ hs).mono ?_; rintro e w' ⟨rfl, rfl⟩))
                  go_ret
                  exact ⟨ret_int (by unfold Cal.provErr; repeat' split
                                     all_goals first | rfl | omega | simp_all), by exact blw⟩
                · by_cases hz : value = 0
                  · subst hz
                    go_enter Tryz.func85, Tryz.ntmps85
                    go_wp2_with (first | (go_at_call 134; first | refine rin ?_ | refine rout ?_ | refine rany ?_) | (go_at_call 133; first | refine rin ?_ | refine rout ?_ | refine rany ?_) | (go_at_call 145; refine (isName_any _ _ hs).mono ?_; rintro e w' ⟨rfl, rfl⟩))
                    go_ret
                    exact ⟨ret_int (by unfold Cal.provErr; repeat' split
                                       all_goals first | rfl | omega | simp_all), by exact blw⟩
                  · have hze : (value == 0) = false := by simpa using hz
                    have hzn : (value != 0) = true := by simpa using hz
                    go_enter Tryz.func85, Tryz.ntmps85
                    go_wp2_with (first | (go_at_call 134; first | refine rin ?_ | refine rout ?_ | refine rany ?_) | (go_at_call 133; first | refine rin ?_ | refine rout ?_ | refine rany ?_) | (go_at_call 145; refine (isName_any _ _ hs).mono ?_; rintro e w' ⟨rfl, rfl⟩))
                    go_ret
                    exact ⟨ret_int (by unfold Cal.provErr; repeat' split
                                       all_goals first | rfl | omega | simp_all), by exact blw⟩
              · go_enter Tryz.func85, Tryz.ntmps85
                go_wp2_with (first | (go_at_call 134; first | refine rin ?_ | refine rout ?_ | refine rany ?_) | (go_at_call 133; first | refine rin ?_ | refine rout ?_ | refine rany ?_) | (go_at_call 145; refine (isName_any _ _ hs).mono ?_; rintro e w' ⟨rfl, rfl⟩))
                go_ret
                exact ⟨ret_int (by unfold Cal.provErr; repeat' split
                                   all_goals first | rfl | omega | simp_all), by exact blw⟩
            · go_enter Tryz.func85, Tryz.ntmps85
              go_wp2_with (first | (go_at_call 134; first | refine rin ?_ | refine rout ?_ | refine rany ?_) | (go_at_call 133; first | refine rin ?_ | refine rout ?_ | refine rany ?_) | (go_at_call 145; refine (isName_any _ _ hs).mono ?_; rintro e w' ⟨rfl, rfl⟩))
              go_ret
              exact ⟨ret_int (by unfold Cal.provErr; repeat' split
                                 all_goals first | rfl | omega | simp_all), by exact blw⟩
          · go_enter Tryz.func85, Tryz.ntmps85
            go_wp2_with (first | (go_at_call 134; first | refine rin ?_ | refine rout ?_ | refine rany ?_) | (go_at_call 133; first | refine rin ?_ | refine rout ?_ | refine rany ?_) | (go_at_call 145; refine (isName_any _ _ hs).mono ?_; rintro e w' ⟨rfl, rfl⟩))
            go_ret
            exact ⟨ret_int (by unfold Cal.provErr; repeat' split
                               all_goals first | rfl | omega | simp_all), by exact blw⟩
        · go_enter Tryz.func85, Tryz.ntmps85
          go_wp2_with (first | (go_at_call 134; first | refine rin ?_ | refine rout ?_ | refine rany ?_) | (go_at_call 133; first | refine rin ?_ | refine rout ?_ | refine rany ?_) | (go_at_call 145; refine (isName_any _ _ hs).mono ?_; rintro e w' ⟨rfl, rfl⟩))
          go_ret
          exact ⟨ret_int (by unfold Cal.provErr; repeat' split
                             all_goals first | rfl | omega | simp_all), by exact blw⟩
      · go_enter Tryz.func85, Tryz.ntmps85
        go_wp2_with (first | (go_at_call 134; first | refine rin ?_ | refine rout ?_ | refine rany ?_) | (go_at_call 133; first | refine rin ?_ | refine rout ?_ | refine rany ?_) | (go_at_call 145; refine (isName_any _ _ hs).mono ?_; rintro e w' ⟨rfl, rfl⟩))
        go_ret
        exact ⟨ret_int (by unfold Cal.provErr; repeat' split
                           all_goals first | rfl | omega | simp_all), by exact blw⟩
    · go_enter Tryz.func85, Tryz.ntmps85
      go_wp2_with (first | (go_at_call 134; first | refine rin ?_ | refine rout ?_ | refine rany ?_) | (go_at_call 133; first | refine rin ?_ | refine rout ?_ | refine rany ?_) | (go_at_call 145; refine (isName_any _ _ hs).mono ?_; rintro e w' ⟨rfl, rfl⟩))
      go_ret
      exact ⟨ret_int (by unfold Cal.provErr; repeat' split
                         all_goals first | rfl | omega | simp_all), by exact blw⟩
set_option maxHeartbeats 4000000 in
theorem ProvisionErr_any (nm : ByteArray) (value fr en : Int) (repeal : Bool) (w : World) (hs : nm.size ≤ maxLen) :
    Calls Tryz.prog 33 #[.agg #[.string nm, .int .i64 value, .int .i64 fr, .int .i64 en, .bool repeal]] w fun e w' => e = .returned (.int .i64 (Cal.provErr nm value fr en repeal)) ∧ Below w.heap.size w w' := by
  cases hn : nameB nm
  · go_enter Tryz.func33, Tryz.ntmps33
    go_wp2_with (first | (go_at_call 59; first | refine rin ?_ | refine rout ?_ | refine rany ?_) | (go_at_call 14; first | refine rin ?_ | refine rout ?_ | refine rany ?_) | (go_at_call 90; refine (IsName_any _ _ hs).mono ?_; rintro e w' ⟨rfl, rfl⟩))
    go_ret
    exact ⟨ret_int (by unfold Cal.provErr; repeat' split
                       all_goals first | rfl | omega | simp_all), by exact blw⟩
  · by_cases hva : -1000000000 ≤ value
    · by_cases hvb : value ≤ 1000000000
      · by_cases hfa : 0 ≤ fr
        · by_cases hfb : fr ≤ 200000
          · by_cases hia : 0 ≤ en
            · by_cases hib : en ≤ 200000
              · cases repeal
                · go_enter Tryz.func33, Tryz.ntmps33
                  go_wp2_with (first | (go_at_call 59; first | refine rin ?_ | refine rout ?_ | refine rany ?_) | (go_at_call 14; first | refine rin ?_ | refine rout ?_ | refine rany ?_) | (go_at_call 90; refine (IsName_any _ _ hs).mono ?_; rintro e w' ⟨rfl, rfl⟩))
                  go_ret
                  exact ⟨ret_int (by unfold Cal.provErr; repeat' split
                                     all_goals first | rfl | omega | simp_all), by exact blw⟩
                · by_cases hz : value = 0
                  · subst hz
                    go_enter Tryz.func33, Tryz.ntmps33
                    go_wp2_with (first | (go_at_call 59; first | refine rin ?_ | refine rout ?_ | refine rany ?_) | (go_at_call 14; first | refine rin ?_ | refine rout ?_ | refine rany ?_) | (go_at_call 90; refine (IsName_any _ _ hs).mono ?_; rintro e w' ⟨rfl, rfl⟩))
                    go_ret
                    exact ⟨ret_int (by unfold Cal.provErr; repeat' split
                                       all_goals first | rfl | omega | simp_all), by exact blw⟩
                  · have hze : (value == 0) = false := by simpa using hz
                    have hzn : (value != 0) = true := by simpa using hz
                    go_enter Tryz.func33, Tryz.ntmps33
                    go_wp2_with (first | (go_at_call 59; first | refine rin ?_ | refine rout ?_ | refine rany ?_) | (go_at_call 14; first | refine rin ?_ | refine rout ?_ | refine rany ?_) | (go_at_call 90; refine (IsName_any _ _ hs).mono ?_; rintro e w' ⟨rfl, rfl⟩))
                    go_ret
                    exact ⟨ret_int (by unfold Cal.provErr; repeat' split
                                       all_goals first | rfl | omega | simp_all), by exact blw⟩
              · go_enter Tryz.func33, Tryz.ntmps33
                go_wp2_with (first | (go_at_call 59; first | refine rin ?_ | refine rout ?_ | refine rany ?_) | (go_at_call 14; first | refine rin ?_ | refine rout ?_ | refine rany ?_) | (go_at_call 90; refine (IsName_any _ _ hs).mono ?_; rintro e w' ⟨rfl, rfl⟩))
                go_ret
                exact ⟨ret_int (by unfold Cal.provErr; repeat' split
                                   all_goals first | rfl | omega | simp_all), by exact blw⟩
            · go_enter Tryz.func33, Tryz.ntmps33
              go_wp2_with (first | (go_at_call 59; first | refine rin ?_ | refine rout ?_ | refine rany ?_) | (go_at_call 14; first | refine rin ?_ | refine rout ?_ | refine rany ?_) | (go_at_call 90; refine (IsName_any _ _ hs).mono ?_; rintro e w' ⟨rfl, rfl⟩))
              go_ret
              exact ⟨ret_int (by unfold Cal.provErr; repeat' split
                                 all_goals first | rfl | omega | simp_all), by exact blw⟩
          · go_enter Tryz.func33, Tryz.ntmps33
            go_wp2_with (first | (go_at_call 59; first | refine rin ?_ | refine rout ?_ | refine rany ?_) | (go_at_call 14; first | refine rin ?_ | refine rout ?_ | refine rany ?_) | (go_at_call 90; refine (IsName_any _ _ hs).mono ?_; rintro e w' ⟨rfl, rfl⟩))
            go_ret
            exact ⟨ret_int (by unfold Cal.provErr; repeat' split
                               all_goals first | rfl | omega | simp_all), by exact blw⟩
        · go_enter Tryz.func33, Tryz.ntmps33
          go_wp2_with (first | (go_at_call 59; first | refine rin ?_ | refine rout ?_ | refine rany ?_) | (go_at_call 14; first | refine rin ?_ | refine rout ?_ | refine rany ?_) | (go_at_call 90; refine (IsName_any _ _ hs).mono ?_; rintro e w' ⟨rfl, rfl⟩))
          go_ret
          exact ⟨ret_int (by unfold Cal.provErr; repeat' split
                             all_goals first | rfl | omega | simp_all), by exact blw⟩
      · go_enter Tryz.func33, Tryz.ntmps33
        go_wp2_with (first | (go_at_call 59; first | refine rin ?_ | refine rout ?_ | refine rany ?_) | (go_at_call 14; first | refine rin ?_ | refine rout ?_ | refine rany ?_) | (go_at_call 90; refine (IsName_any _ _ hs).mono ?_; rintro e w' ⟨rfl, rfl⟩))
        go_ret
        exact ⟨ret_int (by unfold Cal.provErr; repeat' split
                           all_goals first | rfl | omega | simp_all), by exact blw⟩
    · go_enter Tryz.func33, Tryz.ntmps33
      go_wp2_with (first | (go_at_call 59; first | refine rin ?_ | refine rout ?_ | refine rany ?_) | (go_at_call 14; first | refine rin ?_ | refine rout ?_ | refine rany ?_) | (go_at_call 90; refine (IsName_any _ _ hs).mono ?_; rintro e w' ⟨rfl, rfl⟩))
      go_ret
      exact ⟨ret_int (by unfold Cal.provErr; repeat' split
                         all_goals first | rfl | omega | simp_all), by exact blw⟩
end Go.Proofs.YtbegbajlagcbdaaGreatDoor
namespace Go.Proofs.YtbegbajlagcbdaaGreatDoor
open Go Go.RowKit
/-- The error of provisions, from the entry on, the one before entered on day e0. -/
def Cal.provErrOf (p : Prov) : Int := Cal.provErr p.name p.value p.fr p.en p.repeal
def Cal.provsErrFrom (e0 : Int) : List Prov → Int
  | [] => 0
  | p :: r => if Cal.provErrOf p = 0 then (if p.en < e0 then 9 else Cal.provsErrFrom p.en r) else Cal.provErrOf p
theorem Cal.provsErrFrom_cons (e0 : Int) (p : Prov) (r : List Prov) : Cal.provsErrFrom e0 (p :: r) = if Cal.provErrOf p = 0 then (if p.en < e0 then 9 else Cal.provsErrFrom p.en r) else Cal.provErrOf p := rfl
def Cal.provsErr (l : List Prov) : Int := if 200 < l.length then 8 else Cal.provsErrFrom 0 l
theorem CheckProvisions_any (A : Option Addr) (c : Nat) (l : List Prov) (w : World) (hl : Provs w A l) :
    Calls Tryz.prog 91 #[.slice A l.length c] w fun e w' => e = .returned (.int .i64 (Cal.provsErr l)) ∧ Below w.heap.size w w' := by
  have hsz := hl.size
  by_cases hbig : 200 < l.length
  · have hfin : Hid (Cal.provsErr l = 8) := by show _ = _; unfold Cal.provsErr; rw [if_pos hbig]
    go_enter Tryz.func91, Tryz.ntmps91
    go_wp2
    go_ret
    exact ⟨ret_int hfin.out.symm, Below.refl _ _⟩
  · have hfin : Hid (Cal.provsErr l = Cal.provsErrFrom 0 l) := by show _ = _; unfold Cal.provsErr; rw [if_neg hbig]
    have hl' := Lib.hid hl
    clear hl
    go_enter Tryz.func91, Tryz.ntmps91
    go_wp2
    go_loopw [3, 12] (fun en i wr => ∃ (k : Nat) (e0 : Int), k ≤ l.length ∧ i = .int .i64 k ∧ en = .int .i64 e0 ∧ Hid (Cal.provsErr l = Cal.provsErrFrom e0 (l.drop k)) ∧ Below w.heap.size w wr) (fun _ i _ => l.length - (intOf i).toNat)
    case atStart => exact ⟨0, 0, Nat.zero_le _, rfl, rfl, hfin, Below.refl _ _⟩
    case round =>
      obtain ⟨k, e0, hk, rfl, rfl, hinv, hb⟩ := hrel
      clear hfin
      by_cases hlt : k < l.length
      · have hk' : l[k]? = some l[k] := List.getElem?_eq_getElem hlt
        have hd := Lib.hid (List.drop_eq_getElem_cons hlt)
        have hnm := hl'.out.names k _ hk'
        obtain ⟨b, o, rfl, hbl, c0, c1, c2, c3, c4⟩ := (hl'.out.below hb).at_ hk'
        clear hk'
        generalize l[k] = p at *
        have hbs := hb.size
        by_cases hp0 : Cal.provErrOf p = 0
        · have hpz := Lib.hid hp0
          have hp1 : (Cal.provErr p.name p.value p.fr p.en p.repeal != 0) = false := by simpa [Cal.provErrOf] using hp0
          clear hp0
          by_cases hlt2 : p.en < e0
          · have hfin : Hid (Cal.provsErr l = 9) := by show _ = _; rw [hinv.out, hd.out, Cal.provsErrFrom_cons, if_pos hpz.out, if_pos hlt2]
            go_wp2_with (go_at_call 85; refine (checkProvision_any _ _ _ _ _ _ hnm).mono ?_; rintro e w1 ⟨rfl, hb1⟩; obtain ⟨hc1, hf1⟩ := bcell hb1)
            go_ret
            exact ⟨ret_int hfin.out.symm, below_step (hb.alloc hbs _) hb1⟩
          · have hnx : Hid (Cal.provsErr l = Cal.provsErrFrom p.en (l.drop (k + 1))) := by show _ = _; rw [hinv.out, hd.out, Cal.provsErrFrom_cons, if_pos hpz.out, if_neg hlt2]
            go_wp2_with (go_at_call 85; refine (checkProvision_any _ _ _ _ _ _ hnm).mono ?_; rintro e w1 ⟨rfl, hb1⟩; obtain ⟨hc1, hf1⟩ := bcell hb1)
            go_roundw
            case rel => exact ⟨k + 1, p.en, by omega, by go_num, rfl, hnx, below_step (hb.alloc hbs _) hb1⟩
            case measure => simp [intOf]; omega
        · have hp1 : (Cal.provErr p.name p.value p.fr p.en p.repeal != 0) = true := by simpa [Cal.provErrOf] using hp0
          have hfin : Hid (Cal.provsErr l = Cal.provErr p.name p.value p.fr p.en p.repeal) := by show _ = _; rw [hinv.out, hd.out, Cal.provsErrFrom_cons, if_neg hp0]; rfl
          clear hp0
          go_wp2_with (go_at_call 85; refine (checkProvision_any _ _ _ _ _ _ hnm).mono ?_; rintro e w1 ⟨rfl, hb1⟩; obtain ⟨hc1, hf1⟩ := bcell hb1)
          go_ret
          exact ⟨ret_int hfin.out.symm, below_step (hb.alloc hbs _) hb1⟩
      · obtain rfl : k = l.length := by omega
        have hfin : Hid (Cal.provsErr l = 0) := by show _ = _; rw [hinv.out, List.drop_length]; rfl
        clear hinv
        go_wp2
        go_ret
        exact ⟨ret_int hfin.out.symm, hb⟩
end Go.Proofs.YtbegbajlagcbdaaGreatDoor
namespace Go.Proofs.YtbegbajlagcbdaaGreatDoor
open Go Go.RowKit
def Cal.frAt (l : List Prov) (i : Nat) : Int := match l[i]? with | some q => q.fr | none => 0
theorem Cal.frAt_eq {l : List Prov} {i : Nat} {q : Prov} (h : l[i]? = some q) : Cal.frAt l i = q.fr := by unfold Cal.frAt; rw [h]
def Cal.takes (l : List Prov) (name : ByteArray) (holds known : Int) (p : Prov) (best : Int) : Bool :=
  (p.name.toList == name.toList) && (decide (p.en ≤ known) && (decide (p.fr ≤ holds) && (decide (best < 0) || decide (Cal.frAt l best.toNat ≤ p.fr))))
/-- The entry that decides, of the first k ones, or -1. -/
def Cal.srcTo (l : List Prov) (name : ByteArray) (holds known : Int) : Nat → Int
  | 0 => -1
  | k + 1 => match l[k]? with
    | none => Cal.srcTo l name holds known k
    | some p => if Cal.takes l name holds known p (Cal.srcTo l name holds known k) = true then (k : Int) else Cal.srcTo l name holds known k
theorem Cal.srcTo_set {l : List Prov} {name : ByteArray} {holds known : Int} {k : Nat} {p : Prov} {best : Int} (hb : best = Cal.srcTo l name holds known k) (hk : l[k]? = some p) (h : Cal.takes l name holds known p best = true) :
    (k : Int) = Cal.srcTo l name holds known (k + 1) := by
  conv => rhs; unfold Cal.srcTo
  rw [hk, ← hb]; exact (if_pos h).symm
theorem Cal.srcTo_keep {l : List Prov} {name : ByteArray} {holds known : Int} {k : Nat} {p : Prov} {best : Int} (hb : best = Cal.srcTo l name holds known k) (hk : l[k]? = some p) (h : Cal.takes l name holds known p best = false) :
    best = Cal.srcTo l name holds known (k + 1) := by
  conv => rhs; unfold Cal.srcTo
  rw [hk, ← hb]; exact (if_neg (by rw [h]; simp)).symm
theorem Cal.srcTo_lt (l : List Prov) (name : ByteArray) (holds known : Int) (k : Nat) : -1 ≤ Cal.srcTo l name holds known k ∧ Cal.srcTo l name holds known k < k := by
  induction k with
  | zero => simp [Cal.srcTo]
  | succ k ih =>
    unfold Cal.srcTo
    split
    · omega
    · split <;> omega
def Cal.src (l : List Prov) (name : ByteArray) (holds known : Int) : Int := Cal.srcTo l name holds known l.length
set_option maxHeartbeats 2000000 in
theorem source_any (A : Option Addr) (c : Nat) (l : List Prov) (name : ByteArray) (holds known : Int) (w : World) (hl : Provs w A l) :
    Calls Tryz.prog 207 #[.slice A l.length c, .string name, .int .i64 holds, .int .i64 known] w fun e w' => e = .returned (.int .i64 (Cal.src l name holds known)) ∧ Below w.heap.size w w' := by
  have hsz := hl.size
  have hl' := Lib.hid hl
  clear hl
  have h0 : Hid ((-1 : Int) = Cal.srcTo l name holds known 0) := rfl
  go_enter Tryz.func207, Tryz.ntmps207
  go_wp2
  go_loopw [9, 14] (fun bs i wr => ∃ (k : Nat) (best : Int), k ≤ l.length ∧ i = .int .i64 k ∧ bs = .int .i64 best ∧ -1 ≤ best ∧ best < k ∧ Hid (best = Cal.srcTo l name holds known k) ∧ Below w.heap.size w wr) (fun _ i _ => l.length - (intOf i).toNat)
  case atStart => exact ⟨0, -1, Nat.zero_le _, rfl, rfl, by omega, by omega, h0, Below.refl _ _⟩
  case round =>
    obtain ⟨k, best, hk, rfl, rfl, hb1, hb2, hbest, hb⟩ := hrel
    clear h0
    have hbs := hb.size
    by_cases hlt : k < l.length
    · have hk' : l[k]? = some l[k] := List.getElem?_eq_getElem hlt
      have hat := Lib.hid (fun (q : Nat) p (h : l[q]? = some p) => (hl'.out.below hb).at_ h)
      obtain ⟨b, o, rfl, hbl, c0, c1, c2, c3, c4⟩ := (hl'.out.below hb).at_ hk'
      generalize l[k] = p at *
      cases h1 : p.name.toList == name.toList
      · have hst : Hid (best = Cal.srcTo l name holds known (k + 1)) := Cal.srcTo_keep hbest.out hk' (by unfold Cal.takes; simp [h1])
        clear hk'
        go_wp2_with fail
        go_quiet (fail)
        go_wp2_with fail
        go_roundw
        case rel => exact ⟨k + 1, best, by omega, by go_num, rfl, by omega, by omega, hst, below_drewN (hb.alloc hbs _) _⟩
        case measure => simp [intOf]; omega
      · by_cases h2 : p.en ≤ known
        · by_cases h3 : p.fr ≤ holds
          · by_cases h4 : best < 0
            · have hst : Hid ((k : Int) = Cal.srcTo l name holds known (k + 1)) := Cal.srcTo_set hbest.out hk' (by unfold Cal.takes; simp [h1, h2, h3, h4])
              clear hk'
              go_wp2_with fail
              go_quiet (fail)
              go_wp2_with fail
              go_roundw
              case rel => exact ⟨k + 1, k, by omega, by go_num, rfl, by omega, by omega, hst, below_drewN (hb.alloc hbs _) _⟩
              case measure => simp [intOf]; omega
            · obtain ⟨q, rfl⟩ := Int.eq_ofNat_of_zero_le (show 0 ≤ best by omega)
              have hq' : l[q]? = some l[q] := List.getElem?_eq_getElem (by omega)
              obtain ⟨b', o', hA', hbl', d0, d1, d2, d3, d4⟩ := hat.out q _ hq'
              have hfr := Lib.hid (Cal.frAt_eq hq')
              generalize l[q] = pq at *
              clear hq'
              simp only [Option.some.injEq, Addr.mk.injEq, and_true] at hA'
              obtain ⟨rfl, rfl⟩ := hA'
              clear d0 d1 d3 d4
              have h4' : decide ((q : Int) < 0) = false := by simp
              by_cases h5 : pq.fr ≤ p.fr
              · have hst : Hid ((k : Int) = Cal.srcTo l name holds known (k + 1)) := Cal.srcTo_set hbest.out hk' (by unfold Cal.takes; simp [h1, h2, h3, hfr.out, h5])
                clear hk'
                go_wp2_with fail
                go_quiet (fail)
                go_wp2_with fail
                go_roundw
                case rel => exact ⟨k + 1, k, by omega, by go_num, rfl, by omega, by omega, hst, below_drewN (hb.alloc hbs _) _⟩
                case measure => simp [intOf]; omega
              · have hst : Hid ((q : Int) = Cal.srcTo l name holds known (k + 1)) := Cal.srcTo_keep hbest.out hk' (by unfold Cal.takes; simp [h1, h2, h3, hfr.out, h5])
                clear hk'
                go_wp2_with fail
                go_quiet (fail)
                go_wp2_with fail
                go_roundw
                case rel => exact ⟨k + 1, q, by omega, by go_num, rfl, by omega, by omega, hst, below_drewN (hb.alloc hbs _) _⟩
                case measure => simp [intOf]; omega
          · have h3' : decide (p.fr ≤ holds) = false := by simpa using h3
            have hst : Hid (best = Cal.srcTo l name holds known (k + 1)) := Cal.srcTo_keep hbest.out hk' (by unfold Cal.takes; simp [h1, h2, h3])
            clear hk'
            go_wp2_with fail
            go_quiet (fail)
            go_wp2_with fail
            go_roundw
            case rel => exact ⟨k + 1, best, by omega, by go_num, rfl, by omega, by omega, hst, below_drewN (hb.alloc hbs _) _⟩
            case measure => simp [intOf]; omega
        · have h2' : decide (p.en ≤ known) = false := by simpa using h2
          have hst : Hid (best = Cal.srcTo l name holds known (k + 1)) := Cal.srcTo_keep hbest.out hk' (by unfold Cal.takes; simp [h1, h2])
          clear hk'
          go_wp2_with fail
          go_quiet (fail)
          go_wp2_with fail
          go_roundw
          case rel => exact ⟨k + 1, best, by omega, by go_num, rfl, by omega, by omega, hst, below_drewN (hb.alloc hbs _) _⟩
          case measure => simp [intOf]; omega
    · obtain rfl : k = l.length := by omega
      go_wp2
      go_ret
      exact ⟨ret_int hbest.out, hb⟩
end Go.Proofs.YtbegbajlagcbdaaGreatDoor
namespace Go.Proofs.YtbegbajlagcbdaaGreatDoor
open Go Go.RowKit
end Go.Proofs.YtbegbajlagcbdaaGreatDoor
namespace Go.Proofs.YtbegbajlagcbdaaGreatDoor
open Go Go.RowKit
theorem Cal.provErr_en {p : Prov} (h : Cal.provErrOf p = 0) : 0 ≤ p.en := by
  unfold Cal.provErrOf Cal.provErr at h
  split at h
  · split at h
    · omega
    · omega
  · omega
def PrevEn (l : List Prov) (k : Nat) (e0 : Int) : Prop := (k = 0 ∧ e0 = 0) ∨ (0 < k ∧ ∃ q, l[k - 1]? = some q ∧ q.en = e0)
set_option maxHeartbeats 1000000 in
theorem CheckProvisionsR_any (A : Option Addr) (c : Nat) (l : List Prov) (w : World) (hl : Provs w A l) :
    Calls Tryz.prog 39 #[.slice A l.length c] w fun e w' => e = .returned (.int .i64 (Cal.provsErr l)) ∧ Below w.heap.size w w' := by
  have hsz := hl.size
  by_cases hbig : 200 < l.length
  · have hfin : Hid (Cal.provsErr l = 8) := by show _ = _; unfold Cal.provsErr; rw [if_pos hbig]
    go_enter Tryz.func39, Tryz.ntmps39
    go_wp2
    go_ret
    exact ⟨ret_int hfin.out.symm, Below.refl _ _⟩
  · have hfin : Hid (Cal.provsErr l = Cal.provsErrFrom 0 l) := by show _ = _; unfold Cal.provsErr; rw [if_neg hbig]
    have hl' := Lib.hid hl
    clear hl
    go_enter Tryz.func39, Tryz.ntmps39
    go_wp2
    go_loopw [3] (fun i wr => ∃ (k : Nat) (e0 : Int), k ≤ l.length ∧ i = .int .i64 k ∧ Hid (PrevEn l k e0) ∧ Hid (Cal.provsErr l = Cal.provsErrFrom e0 (l.drop k)) ∧ Below w.heap.size w wr) (fun i _ => l.length - (intOf i).toNat)
    case atStart => exact ⟨0, 0, Nat.zero_le _, rfl, .inl ⟨rfl, rfl⟩, hfin, Below.refl _ _⟩
    case round =>
      obtain ⟨k, e0, hk, rfl, hprev, hinv, hb⟩ := hrel
      clear hfin
      by_cases hlt : k < l.length
      · have hk' : l[k]? = some l[k] := List.getElem?_eq_getElem hlt
        have hk2 := Lib.hid hk'
        have hd := Lib.hid (List.drop_eq_getElem_cons hlt)
        have hnm := hl'.out.names k _ hk'
        obtain ⟨b, o, rfl, hbl, c0, c1, c2, c3, c4⟩ := (hl'.out.below hb).at_ hk'
        clear hk'
        generalize l[k] = p at *
        have hbs := hb.size
        by_cases hp0 : Cal.provErrOf p = 0
        · have hpz := Lib.hid hp0
          have hen := Cal.provErr_en hp0
          have hp1 : (Cal.provErr p.name p.value p.fr p.en p.repeal != 0) = false := by simpa [Cal.provErrOf] using hp0
          clear hp0
          by_cases hk0 : k = 0
          · subst hk0
            simp only [Nat.zero_mul, Nat.add_zero] at c0 c1 c2 c3 c4
            have hnx : Hid (Cal.provsErr l = Cal.provsErrFrom p.en (l.drop (0 + 1))) := by
              show _ = _; rw [hinv.out, hd.out, Cal.provsErrFrom_cons, if_pos hpz.out, if_neg (by rcases hprev.out with ⟨_, h⟩ | ⟨h, _⟩ <;> omega)]
            go_wp2_with (go_at_call 33; refine (ProvisionErr_any _ _ _ _ _ _ hnm).mono ?_; rintro e w1 ⟨rfl, hb1⟩; obtain ⟨hc1, hf1⟩ := bcell hb1)
            go_quiet (fail)
            go_wp2_with fail
            go_roundw
            case rel => exact ⟨1, p.en, by omega, rfl, .inr ⟨by omega, p, hk2.out, rfl⟩, hnx, below_drewN (below_step hb hb1) _⟩
            case measure => simp [intOf]; omega
          · have hk1 : 0 < k := by omega
            obtain ⟨q, hq1, hq2⟩ : ∃ q, l[k - 1]? = some q ∧ q.en = e0 := by
              rcases hprev.out with ⟨h, _⟩ | ⟨_, h⟩
              · omega
              · exact h
            subst hq2
            obtain ⟨b', o', hA', hbl', d0, d1, d2, d3, d4⟩ := (hl'.out.below hb).at_ hq1
            simp only [Option.some.injEq, Addr.mk.injEq, and_true] at hA'
            obtain ⟨rfl, rfl⟩ := hA'
            clear d0 d1 d2 d4 hq1 hk0
            have hix : ((k : Int) - 1).toNat = k - 1 := by omega
            by_cases hlt2 : p.en < q.en
            · have hfin : Hid (Cal.provsErr l = 9) := by show _ = _; rw [hinv.out, hd.out, Cal.provsErrFrom_cons, if_pos hpz.out, if_pos hlt2]
              go_wp2_with (go_at_call 33; refine (ProvisionErr_any _ _ _ _ _ _ hnm).mono ?_; rintro e w1 ⟨rfl, hb1⟩; obtain ⟨hc1, hf1⟩ := bcell hb1)
              go_quiet (fail)
              go_wp2_with fail
              go_ret
              exact ⟨ret_int hfin.out.symm, below_drewN (below_step hb hb1) _⟩
            · have hnx : Hid (Cal.provsErr l = Cal.provsErrFrom p.en (l.drop (k + 1))) := by show _ = _; rw [hinv.out, hd.out, Cal.provsErrFrom_cons, if_pos hpz.out, if_neg hlt2]
              go_wp2_with (go_at_call 33; refine (ProvisionErr_any _ _ _ _ _ _ hnm).mono ?_; rintro e w1 ⟨rfl, hb1⟩; obtain ⟨hc1, hf1⟩ := bcell hb1)
              go_quiet (fail)
              go_wp2_with fail
              go_roundw
              case rel => exact ⟨k + 1, p.en, by omega, by go_num, .inr ⟨by omega, p, hk2.out, rfl⟩, hnx, below_drewN (below_step hb hb1) _⟩
              case measure => simp [intOf]; omega
        · have hp1 : (Cal.provErr p.name p.value p.fr p.en p.repeal != 0) = true := by simpa [Cal.provErrOf] using hp0
          have hfin : Hid (Cal.provsErr l = Cal.provErr p.name p.value p.fr p.en p.repeal) := by show _ = _; rw [hinv.out, hd.out, Cal.provsErrFrom_cons, if_neg hp0]; rfl
          clear hp0
          go_wp2_with (go_at_call 33; refine (ProvisionErr_any _ _ _ _ _ _ hnm).mono ?_; rintro e w1 ⟨rfl, hb1⟩; obtain ⟨hc1, hf1⟩ := bcell hb1)
          go_ret
          exact ⟨ret_int hfin.out.symm, below_step hb hb1⟩
      · obtain rfl : k = l.length := by omega
        have hfin : Hid (Cal.provsErr l = 0) := by show _ = _; rw [hinv.out, List.drop_length]; rfl
        clear hinv
        go_wp2
        go_ret
        exact ⟨ret_int hfin.out.symm, hb⟩
end Go.Proofs.YtbegbajlagcbdaaGreatDoor
namespace Go.Proofs.YtbegbajlagcbdaaGreatDoor
open Go Go.RowKit
def Cal.dayB (n : Int) : Bool := decide (0 ≤ n) && decide (n ≤ 200000)
theorem Cal.dayB_no {n : Int} (h : Cal.dayB n = false) : n < 0 ∨ 200000 < n := by unfold Cal.dayB at h; simp at h; omega
theorem Cal.dayB_yes {n : Int} (h : Cal.dayB n = true) : 0 ≤ n ∧ n ≤ 200000 := by unfold Cal.dayB at h; simp at h; omega
def Cal.daysB (ns : List Int) : Bool := ns.all Cal.dayB
def intRows (ns : List Int) : List (List Value) := ns.map fun n => [.int .i64 n]
def FirstBad (ns : List Int) (e : Ending) : Prop := ∃ r : Int, e = .returned (.int .i64 r) ∧ r ≤ ns.length ∧ ((Cal.daysB ns = true ∧ r = -1) ∨ (Cal.daysB ns = false ∧ 0 ≤ r))
def goodTo (ns : List Int) (k : Nat) : Prop := ∀ (j : Nat) n, j < k → ns[j]? = some n → Cal.dayB n = true
theorem goodTo_all {ns : List Int} (h : goodTo ns ns.length) : Cal.daysB ns = true := by
  unfold Cal.daysB; rw [List.all_eq_true]; intro n hn
  obtain ⟨j, hj, rfl⟩ := List.getElem_of_mem hn
  exact h j _ hj (List.getElem?_eq_getElem hj)
theorem bad_all {ns : List Int} {k : Nat} {n : Int} (h : ns[k]? = some n) (h2 : Cal.dayB n = false) : Cal.daysB ns = false := by
  unfold Cal.daysB; rw [List.all_eq_false]; exact ⟨n, List.mem_of_getElem? h, by simp [h2]⟩
theorem IndexFunc_any (A : Option Addr) (c : Nat) (ns : List Int) (w : World) (hl : RowsAt w A 1 (intRows ns)) (hsz : ns.length ≤ 1000000) :
    Calls Tryz.prog 218 #[.slice A ns.length c, .func (.func 243) #[] #[]] w fun e w' => FirstBad ns e ∧ w = w' := by
  have hl' := Lib.hid hl
  clear hl
  have h0 : Hid (goodTo ns 0) := fun j n h _ => by omega
  go_enter Tryz.func218, Tryz.ntmps218
  go_wp2
  go_loop [8] (fun i => ∃ k : Nat, k ≤ ns.length ∧ i = .int .i64 k ∧ Hid (goodTo ns k)) (fun i => ns.length - (intOf i).toNat)
  case atStart => exact ⟨0, Nat.zero_le _, rfl, h0⟩
  case round =>
    obtain ⟨k, hk, rfl, hgood⟩ := hrel
    clear h0
    by_cases hlt : k < ns.length
    · have hk' : ns[k]? = some ns[k] := List.getElem?_eq_getElem hlt
      obtain ⟨b, o, rfl, hbl, hc⟩ := hl'.out k [.int .i64 ns[k]] (by simp [intRows, hk'])
      have c0 := hc 0 _ rfl
      simp only [Nat.mul_one, Nat.add_zero] at c0
      clear hc
      generalize ns[k] = n at *
      cases hd : Cal.dayB n
      · have hn := Cal.dayB_no hd
        have hfin := Lib.hid (bad_all hk' hd)
        clear hk' hd
        go_wp2_with (first | (go_at_call 133; first | refine rin ?_ | refine rout ?_ | refine rany ?_) | go_in)
        go_ret
        exact ⟨⟨k, rfl, by omega, .inr ⟨hfin.out, by omega⟩⟩, rfl⟩
      · obtain ⟨n1, n2⟩ := Cal.dayB_yes hd
        have hg2 : Hid (goodTo ns (k + 1)) := fun j m hj hm => by
          rcases Nat.lt_or_ge j k with h | h
          · exact hgood.out j m h hm
          · obtain rfl : j = k := by omega
            rw [hk'] at hm; cases hm; exact hd
        clear hk' hd
        go_wp2_with (first | (go_at_call 133; first | refine rin ?_ | refine rout ?_ | refine rany ?_) | go_in)
        go_round
        case rel => exact ⟨k + 1, by omega, by go_num, hg2⟩
        case measure => simp [intOf]; omega
    · obtain rfl : k = ns.length := by omega
      have hfin := Lib.hid (goodTo_all hgood.out)
      go_wp2
      go_ret
      exact ⟨⟨-1, rfl, by omega, .inl ⟨hfin.out, rfl⟩⟩, rfl⟩
theorem ContainsFunc_any (A : Option Addr) (c : Nat) (ns : List Int) (w : World) (hl : RowsAt w A 1 (intRows ns)) (hsz : ns.length ≤ 1000000) :
    Calls Tryz.prog 158 #[.slice A ns.length c, .func (.func 243) #[] #[]] w fun e w' => e = .returned (.bool (!Cal.daysB ns)) ∧ w = w' := by
  have hl' := Lib.hid hl
  clear hl
  go_enter Tryz.func158, Tryz.ntmps158
  go_wp2_with (go_at_call 218; refine (IndexFunc_any _ _ ns _ hl'.out hsz).mono ?_; rintro e w' ⟨⟨r, rfl, hr1, hr2⟩, rfl⟩; have hr3 := Lib.hid hr2; clear hr2)
  go_ret
  refine ⟨ret_bool ?_, rfl⟩
  rcases hr3.out with ⟨h1, rfl⟩ | ⟨h1, h2⟩
  · rw [h1]; simp
  · rw [h1]; simp; omega
/-- The error of entries and of days. -/
def Cal.atErr (l : List Prov) (ns : List Int) : Int := if Cal.provsErr l = 0 then (if Cal.daysB ns = true then 0 else 2) else Cal.provsErr l
theorem checkAt_any (A : Option Addr) (c : Nat) (l : List Prov) (A2 : Option Addr) (c2 : Nat) (ns : List Int) (w : World) (hl : Provs w A l) (hn : RowsAt w A2 1 (intRows ns)) (hsz : ns.length ≤ 1000000) :
    Calls Tryz.prog 206 #[.slice A l.length c, .slice A2 ns.length c2] w fun e w' => e = .returned (.int .i64 (Cal.atErr l ns)) ∧ Below w.heap.size w w' := by
  have hl' := Lib.hid hl
  have hn' := Lib.hid (fun w1 (h : Below w.heap.size w w1) => hn.below h)
  clear hl hn
  by_cases h0 : Cal.provsErr l = 0
  · have h0z := Lib.hid h0
    have h1 : (Cal.provsErr l != 0) = false := by simpa using h0
    clear h0
    cases hd : Cal.daysB ns
    all_goals
      have hdd := Lib.hid hd
      go_enter Tryz.func206, Tryz.ntmps206
      go_wp2_with (first | (go_at_call 91; refine (CheckProvisions_any _ _ l _ hl'.out).mono ?_; rintro e w1 ⟨rfl, hb1⟩) | (go_at_call 158; refine (ContainsFunc_any _ _ ns _ (hn'.out _ hb1) hsz).mono ?_; rintro e w' ⟨rfl, rfl⟩))
      go_ret
      exact ⟨ret_int (by unfold Cal.atErr; rw [h0z.out, hdd.out]; rfl), hb1⟩
  · have h0z := Lib.hid h0
    have h1 : (Cal.provsErr l != 0) = true := by simpa using h0
    clear h0
    go_enter Tryz.func206, Tryz.ntmps206
    go_wp2_with (first | (go_at_call 91; refine (CheckProvisions_any _ _ l _ hl'.out).mono ?_; rintro e w1 ⟨rfl, hb1⟩))
    go_ret
    exact ⟨ret_int (by unfold Cal.atErr; rw [if_neg h0z.out]), hb1⟩
end Go.Proofs.YtbegbajlagcbdaaGreatDoor
