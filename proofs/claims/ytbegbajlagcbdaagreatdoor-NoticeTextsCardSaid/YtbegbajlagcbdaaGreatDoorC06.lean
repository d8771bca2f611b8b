/- Chapter 8 and what it rests on: definitions and walks, part 06. -/
import Derived.Test.YtbegbajlagcbdaaGreatDoorC05
import Derived.Test.YtbegbajlagcbdaaGreatDoorC01
import Derived.Laws.AppendOwnNone
import Derived.Deep.AppendLies
import Derived.Lib.SlicesCompact
namespace Go.Proofs.YtbegbajlagcbdaaGreatDoor
open Go Go.RowKit
def Cal.frAt (l : List Prov) (i : Nat) : Int := match l[i]? with | some q => q.fr | none => 0
theorem Cal.frAt_eq {l : List Prov} {i : Nat} {q : Prov} (h : l[i]? = some q) : Cal.frAt l i = q.fr := by unfold Cal.frAt; rw [h]
def Cal.takes (l : List Prov) (name : ByteArray) (holds known : Int) (p : Prov) (best : Int) : Bool :=
  (p.name.toList == name.toList) && (decide (p.en ≤ known) && (decide (p.fr ≤ holds) && (decide (best < 0) || decide (Cal.frAt l best.toNat ≤ p.fr))))
/-- The entry that decides, of the first k ones, or -1. -/
def Cal.srcTo (l : List Prov) (name : ByteArray) (holds known : Int) : Nat → Int
  | 0 => -1
  | k + 1 => match l[k]? with
    | none => Cal.srcTo l name holds known k
    | some p => if Cal.takes l name holds known p (Cal.srcTo l name holds known k) = true then (k : Int) else Cal.srcTo l name holds known k
theorem Cal.srcTo_set {l : List Prov} {name : ByteArray} {holds known : Int} {k : Nat} {p : Prov} {best : Int} (hb : best = Cal.srcTo l name holds known k) (hk : l[k]? = some p) (h : Cal.takes l name holds known p best = true) :
    (k : Int) = Cal.srcTo l name holds known (k + 1) := by
  conv => rhs; unfold Cal.srcTo
  rw [hk, ← hb]; exact (if_pos h).symm
theorem Cal.srcTo_keep {l : List Prov} {name : ByteArray} {holds known : Int} {k : Nat} {p : Prov} {best : Int} (hb : best = Cal.srcTo l name holds known k) (hk : l[k]? = some p) (h : Cal.takes l name holds known p best = false) :
    best = Cal.srcTo l name holds known (k + 1) := by
  conv => rhs; unfold Cal.srcTo
  rw [hk, ← hb]; exact (if_neg (by rw [h]; simp)).symm
theorem Cal.srcTo_lt (l : List Prov) (name : ByteArray) (holds known : Int) (k : Nat) : -1 ≤ Cal.srcTo l name holds known k ∧ Cal.srcTo l name holds known k < k := by
  induction k with
  | zero => simp [Cal.srcTo]
  | succ k ih =>
    unfold Cal.srcTo
    split
    · omega
    · split <;> omega
def Cal.src (l : List Prov) (name : ByteArray) (holds known : Int) : Int := Cal.srcTo l name holds known l.length
set_option maxHeartbeats 2000000 in
theorem source_any (A : Option Addr) (c : Nat) (l : List Prov) (name : ByteArray) (holds known : Int) (w : World) (hl : Provs w A l) :
    Calls Tryz.prog 207 #[.slice A l.length c, .string name, .int .i64 holds, .int .i64 known] w fun e w' => e = .returned (.int .i64 (Cal.src l name holds known)) ∧ Below w.heap.size w w' := by
  have hsz := hl.size
  have hl' := Lib.hid hl
  clear hl
  have h0 : Hid ((-1 : Int) = Cal.srcTo l name holds known 0) := rfl
  go_enter Tryz.func207, Tryz.ntmps207
  go_wp2
  go_loopw [9, 14] (fun bs i wr => ∃ (k : Nat) (best : Int), k ≤ l.length ∧ i = .int .i64 k ∧ bs = .int .i64 best ∧ -1 ≤ best ∧ best < k ∧ Hid (best = Cal.srcTo l name holds known k) ∧ Below w.heap.size w wr) (fun _ i _ => l.length - (intOf i).toNat)
  case atStart => exact ⟨0, -1, Nat.zero_le _, rfl, rfl, by omega, by omega, h0, Below.refl _ _⟩
  case round =>
    obtain ⟨k, best, hk, rfl, rfl, hb1, hb2, hbest, hb⟩ := hrel
    clear h0
    have hbs := hb.size
    by_cases hlt : k < l.length
    · have hk' : l[k]? = some l[k] := List.getElem?_eq_getElem hlt
      have hat := Lib.hid (fun (q : Nat) p (h : l[q]? = some p) => (hl'.out.below hb).at_ h)
      obtain ⟨b, o, rfl, hbl, c0, c1, c2, c3, c4⟩ := (hl'.out.below hb).at_ hk'
      generalize l[k] = p at *
      cases h1 : p.name.toList == name.toList
      · have hst : Hid (best = Cal.srcTo l name holds known (k + 1)) := Cal.srcTo_keep hbest.out hk' (by unfold Cal.takes; simp [h1])
        clear hk'
        go_wp2_with fail
        go_quiet (fail)
        go_wp2_with fail
        go_roundw
        case rel => exact ⟨k + 1, best, by omega, by go_num, rfl, by omega, by omega, hst, below_drewN (hb.alloc hbs _) _⟩
        case measure => simp [intOf]; omega
      · by_cases h2 : p.en ≤ known
        · by_cases h3 : p.fr ≤ holds
          · by_cases h4 : best < 0
            · have hst : Hid ((k : Int) = Cal.srcTo l name holds known (k + 1)) := Cal.srcTo_set hbest.out hk' (by unfold Cal.takes; simp [h1, h2, h3, h4])
              clear hk'
              go_wp2_with fail
              go_quiet (fail)
              go_wp2_with fail
              go_roundw
              case rel => exact ⟨k + 1, k, by omega, by go_num, rfl, by omega, by omega, hst, below_drewN (hb.alloc hbs _) _⟩
              case measure => simp [intOf]; omega
            · obtain ⟨q, rfl⟩ := Int.eq_ofNat_of_zero_le (show 0 ≤ best by omega)
              have hq' : l[q]? = some l[q] := List.getElem?_eq_getElem (by omega)
              obtain ⟨b', o', hA', hbl', d0, d1, d2, d3, d4⟩ := hat.out q _ hq'
              have hfr := Lib.hid (Cal.frAt_eq hq')
              generalize l[q] = pq at *
              clear hq'
              simp only [Option.some.injEq, Addr.mk.injEq, and_true] at hA'
              obtain ⟨rfl, rfl⟩ := hA'
              clear d0 d1 d3 d4
              have h4' : decide ((q : Int) < 0) = false := by simp
              by_cases h5 : pq.fr ≤ p.fr
              · have hst : Hid ((k : Int) = Cal.srcTo l name holds known (k + 1)) := Cal.srcTo_set hbest.out hk' (by unfold Cal.takes; simp [h1, h2, h3, hfr.out, h5])
                clear hk'
                go_wp2_with fail
                go_quiet (fail)
                go_wp2_with fail
                go_roundw
                case rel => exact ⟨k + 1, k, by omega, by go_num, rfl, by omega, by omega, hst, below_drewN (hb.alloc hbs _) _⟩
                case measure => simp [intOf]; omega
              · have hst : Hid ((q : Int) = Cal.srcTo l name holds known (k + 1)) := Cal.srcTo_keep hbest.out hk' (by unfold Cal.takes; simp [h1, h2, h3, hfr.out, h5])
                clear hk'
                go_wp2_with fail
                go_quiet (fail)
                go_wp2_with fail
                go_roundw
                case rel => exact ⟨k + 1, q, by omega, by go_num, rfl, by omega, by omega, hst, below_drewN (hb.alloc hbs _) _⟩
                case measure => simp [intOf]; omega
          · have h3' : decide (p.fr ≤ holds) = false := by simpa using h3
            have hst : Hid (best = Cal.srcTo l name holds known (k + 1)) := Cal.srcTo_keep hbest.out hk' (by unfold Cal.takes; simp [h1, h2, h3])
            clear hk'
            go_wp2_with fail
            go_quiet (fail)
            go_wp2_with fail
            go_roundw
            case rel => exact ⟨k + 1, best, by omega, by go_num, rfl, by omega, by omega, hst, below_drewN (hb.alloc hbs _) _⟩
            case measure => simp [intOf]; omega
        · have h2' : decide (p.en ≤ known) = false := by simpa using h2
          have hst : Hid (best = Cal.srcTo l name holds known (k + 1)) := Cal.srcTo_keep hbest.out hk' (by unfold Cal.takes; simp [h1, h2])
          clear hk'
          go_wp2_with fail
          go_quiet (fail)
          go_wp2_with fail
          go_roundw
          case rel => exact ⟨k + 1, best, by omega, by go_num, rfl, by omega, by omega, hst, below_drewN (hb.alloc hbs _) _⟩
          case measure => simp [intOf]; omega
    · obtain rfl : k = l.length := by omega
      go_wp2
      go_ret
      exact ⟨ret_int hbest.out, hb⟩
end Go.Proofs.YtbegbajlagcbdaaGreatDoor
namespace Go.Proofs.YtbegbajlagcbdaaGreatDoor
open Go Go.RowKit
end Go.Proofs.YtbegbajlagcbdaaGreatDoor
namespace Go.Proofs.YtbegbajlagcbdaaGreatDoor
open Go Go.RowKit
theorem Cal.provErr_en {p : Prov} (h : Cal.provErrOf p = 0) : 0 ≤ p.en := by
  unfold Cal.provErrOf Cal.provErr at h
  split at h
  · split at h
    · omega
    · omega
  · omega
def PrevEn (l : List Prov) (k : Nat) (e0 : Int) : Prop := (k = 0 ∧ e0 = 0) ∨ (0 < k ∧ ∃ q, l[k - 1]? = some q ∧ q.en = e0)
set_option maxHeartbeats 1000000 in
theorem CheckProvisionsR_any (A : Option Addr) (c : Nat) (l : List Prov) (w : World) (hl : Provs w A l) :
    Calls Tryz.prog 39 #[.slice A l.length c] w fun e w' => e = .returned (.int .i64 (Cal.provsErr l)) ∧ Below w.heap.size w w' := by
  have hsz := hl.size
  by_cases hbig : 200 < l.length
  · have hfin : Hid (Cal.provsErr l = 8) := by show _ = _; unfold Cal.provsErr; rw [if_pos hbig]
    go_enter Tryz.func39, Tryz.ntmps39
    go_wp2
    go_ret
    exact ⟨ret_int hfin.out.symm, Below.refl _ _⟩
  · have hfin : Hid (Cal.provsErr l = Cal.provsErrFrom 0 l) := by show _ = _; unfold Cal.provsErr; rw [if_neg hbig]
    have hl' := Lib.hid hl
    clear hl
    go_enter Tryz.func39, Tryz.ntmps39
    go_wp2
    go_loopw [3] (fun i wr => ∃ (k : Nat) (e0 : Int), k ≤ l.length ∧ i = .int .i64 k ∧ Hid (PrevEn l k e0) ∧ Hid (Cal.provsErr l = Cal.provsErrFrom e0 (l.drop k)) ∧ Below w.heap.size w wr) (fun i _ => l.length - (intOf i).toNat)
    case atStart => exact ⟨0, 0, Nat.zero_le _, rfl, .inl ⟨rfl, rfl⟩, hfin, Below.refl _ _⟩
    case round =>
      obtain ⟨k, e0, hk, rfl, hprev, hinv, hb⟩ := hrel
      clear hfin
      by_cases hlt : k < l.length
      · have hk' : l[k]? = some l[k] := List.getElem?_eq_getElem hlt
        have hk2 := Lib.hid hk'
        have hd := Lib.hid (List.drop_eq_getElem_cons hlt)
        have hnm := hl'.out.names k _ hk'
        obtain ⟨b, o, rfl, hbl, c0, c1, c2, c3, c4⟩ := (hl'.out.below hb).at_ hk'
        clear hk'
        generalize l[k] = p at *
        have hbs := hb.size
        by_cases hp0 : Cal.provErrOf p = 0
        · have hpz := Lib.hid hp0
          have hen := Cal.provErr_en hp0
          have hp1 : (Cal.provErr p.name p.value p.fr p.en p.repeal != 0) = false := by simpa [Cal.provErrOf] using hp0
          clear hp0
          by_cases hk0 : k = 0
          · subst hk0
            simp only [Nat.zero_mul, Nat.add_zero] at c0 c1 c2 c3 c4
            have hnx : Hid (Cal.provsErr l = Cal.provsErrFrom p.en (l.drop (0 + 1))) := by
              show _ = _; rw [hinv.out, hd.out, Cal.provsErrFrom_cons, if_pos hpz.out, if_neg (by rcases hprev.out with ⟨_, h⟩ | ⟨h, _⟩ <;> omega)]
            go_wp2_with (go_at_call 33; refine (ProvisionErr_any _ _ _ _ _ _ hnm).mono ?_; rintro e w1 ⟨rfl, hb1⟩; obtain ⟨hc1, hf1⟩ := bcell hb1)
            go_quiet (fail)
            go_wp2_with fail
            go_roundw
            case rel => exact ⟨1, p.en, by omega, rfl, .inr ⟨by omega, p, hk2.out, rfl⟩, hnx, below_drewN (below_step hb hb1) _⟩
            case measure => simp [intOf]; omega
          · have hk1 : 0 < k := by omega
            obtain ⟨q, hq1, hq2⟩ : ∃ q, l[k - 1]? = some q ∧ q.en = e0 := by
              rcases hprev.out with ⟨h, _⟩ | ⟨_, h⟩
              · omega
              · exact h
            subst hq2
            obtain ⟨b', o', hA', hbl', d0, d1, d2, d3, d4⟩ := (hl'.out.below hb).at_ hq1
            simp only [Option.some.injEq, Addr.mk.injEq, and_true] at hA'
            obtain ⟨rfl, rfl⟩ := hA'
            clear d0 d1 d2 d4 hq1 hk0
            have hix : ((k : Int) - 1).toNat = k - 1 := by omega
            by_cases hlt2 : p.en < q.en
            · have hfin : Hid (Cal.provsErr l = 9) := by show _ = _; rw [hinv.out, hd.out, Cal.provsErrFrom_cons, if_pos hpz.out, if_pos hlt2]
              go_wp2_with (go_at_call 33; refine (ProvisionErr_any _ _ _ _ _ _ hnm).mono ?_; rintro e w1 ⟨rfl, hb1⟩; obtain ⟨hc1, hf1⟩ := bcell hb1)
              go_quiet (fail)
              go_wp2_with fail
              go_ret
              exact ⟨ret_int hfin.out.symm, below_drewN (below_step hb hb1) _⟩
            · have hnx : Hid (Cal.provsErr l = Cal.provsErrFrom p.en (l.drop (k + 1))) := by show _ = _; rw [hinv.out, hd.out, Cal.provsErrFrom_cons, if_pos hpz.out, if_neg hlt2]
              go_wp2_with (go_at_call 33; refine (ProvisionErr_any _ _ _ _ _ _ hnm).mono ?_; rintro e w1 ⟨rfl, hb1⟩; obtain ⟨hc1, hf1⟩ := bcell hb1)
              go_quiet (fail)
              go_wp2_with fail
              go_roundw
              case rel => exact ⟨k + 1, p.en, by omega, by go_num, .inr ⟨by omega, p, hk2.out, rfl⟩, hnx, below_drewN (below_step hb hb1) _⟩
              case measure => simp [intOf]; omega
        · have hp1 : (Cal.provErr p.name p.value p.fr p.en p.repeal != 0) = true := by simpa [Cal.provErrOf] using hp0
          have hfin : Hid (Cal.provsErr l = Cal.provErr p.name p.value p.fr p.en p.repeal) := by show _ = _; rw [hinv.out, hd.out, Cal.provsErrFrom_cons, if_neg hp0]; rfl
          clear hp0
          go_wp2_with (go_at_call 33; refine (ProvisionErr_any _ _ _ _ _ _ hnm).mono ?_; rintro e w1 ⟨rfl, hb1⟩; obtain ⟨hc1, hf1⟩ := bcell hb1)
          go_ret
          exact ⟨ret_int hfin.out.symm, below_step hb hb1⟩
      · obtain rfl : k = l.length := by omega
        have hfin : Hid (Cal.provsErr l = 0) := by show _ = _; rw [hinv.out, List.drop_length]; rfl
        clear hinv
        go_wp2
        go_ret
        exact ⟨ret_int hfin.out.symm, hb⟩
end Go.Proofs.YtbegbajlagcbdaaGreatDoor
namespace Go.Proofs.YtbegbajlagcbdaaGreatDoor
open Go Go.RowKit
def Cal.dayB (n : Int) : Bool := decide (0 ≤ n) && decide (n ≤ 200000)
theorem Cal.dayB_no {n : Int} (h : Cal.dayB n = false) : n < 0 ∨ 200000 < n := by unfold Cal.dayB at h; simp at h; omega
theorem Cal.dayB_yes {n : Int} (h : Cal.dayB n = true) : 0 ≤ n ∧ n ≤ 200000 := by unfold Cal.dayB at h; simp at h; omega
def Cal.daysB (ns : List Int) : Bool := ns.all Cal.dayB
def intRows (ns : List Int) : List (List Value) := ns.map fun n => [.int .i64 n]
def FirstBad (ns : List Int) (e : Ending) : Prop := ∃ r : Int, e = .returned (.int .i64 r) ∧ r ≤ ns.length ∧ ((Cal.daysB ns = true ∧ r = -1) ∨ (Cal.daysB ns = false ∧ 0 ≤ r))
def goodTo (ns : List Int) (k : Nat) : Prop := ∀ (j : Nat) n, j < k → ns[j]? = some n → Cal.dayB n = true
theorem goodTo_all {ns : List Int} (h : goodTo ns ns.length) : Cal.daysB ns = true := by
  unfold Cal.daysB; rw [List.all_eq_true]; intro n hn
  obtain ⟨j, hj, rfl⟩ := List.getElem_of_mem hn
  exact h j _ hj (List.getElem?_eq_getElem hj)
theorem bad_all {ns : List Int} {k : Nat} {n : Int} (h : ns[k]? = some n) (h2 : Cal.dayB n = false) : Cal.daysB ns = false := by
  unfold Cal.daysB; rw [List.all_eq_false]; exact ⟨n, List.mem_of_getElem? h, by simp [h2]⟩
theorem IndexFunc_any (A : Option Addr) (c : Nat) (ns : List Int) (w : World) (hl : RowsAt w A 1 (intRows ns)) (hsz : ns.length ≤ 1000000) :
    Calls Tryz.prog 218 #[.slice A ns.length c, .func (.func 243) #[] #[]] w fun e w' => FirstBad ns e ∧ w = w' := by
  have hl' := Lib.hid hl
  clear hl
  have h0 : Hid (goodTo ns 0) := fun j n h _ => by omega
  go_enter Tryz.func218, Tryz.ntmps218
  go_wp2
  go_loop [8] (fun i => ∃ k : Nat, k ≤ ns.length ∧ i = .int .i64 k ∧ Hid (goodTo ns k)) (fun i => ns.length - (intOf i).toNat)
  case atStart => exact ⟨0, Nat.zero_le _, rfl, h0⟩
  case round =>
    obtain ⟨k, hk, rfl, hgood⟩ := hrel
    clear h0
    by_cases hlt : k < ns.length
    · have hk' : ns[k]? = some ns[k] := List.getElem?_eq_getElem hlt
      obtain ⟨b, o, rfl, hbl, hc⟩ := hl'.out k [.int .i64 ns[k]] (by simp [intRows, hk'])
      have c0 := hc 0 _ rfl
      simp only [Nat.mul_one, Nat.add_zero] at c0
      clear hc
      generalize ns[k] = n at *
      cases hd : Cal.dayB n
      · have hn := Cal.dayB_no hd
        have hfin := Lib.hid (bad_all hk' hd)
        clear hk' hd
        go_wp2_with (first | (go_at_call 133; first | refine rin ?_ | refine rout ?_ | refine rany ?_) | go_in)
        go_ret
        exact ⟨⟨k, rfl, by omega, .inr ⟨hfin.out, by omega⟩⟩, rfl⟩
      · obtain ⟨n1, n2⟩ := Cal.dayB_yes hd
        have hg2 : Hid (goodTo ns (k + 1)) := fun j m hj hm => by
          rcases Nat.lt_or_ge j k with h | h
          · exact hgood.out j m h hm
          · obtain rfl : j = k := by omega
            rw [hk'] at hm; cases hm; exact hd
        clear hk' hd
        go_wp2_with (first | (go_at_call 133; first | refine rin ?_ | refine rout ?_ | refine rany ?_) | go_in)
        go_round
        case rel => exact ⟨k + 1, by omega, by go_num, hg2⟩
        case measure => simp [intOf]; omega
    · obtain rfl : k = ns.length := by omega
      have hfin := Lib.hid (goodTo_all hgood.out)
      go_wp2
      go_ret
      exact ⟨⟨-1, rfl, by omega, .inl ⟨hfin.out, rfl⟩⟩, rfl⟩
theorem ContainsFunc_any (A : Option Addr) (c : Nat) (ns : List Int) (w : World) (hl : RowsAt w A 1 (intRows ns)) (hsz : ns.length ≤ 1000000) :
    Calls Tryz.prog 158 #[.slice A ns.length c, .func (.func 243) #[] #[]] w fun e w' => e = .returned (.bool (!Cal.daysB ns)) ∧ w = w' := by
  have hl' := Lib.hid hl
  clear hl
  go_enter Tryz.func158, Tryz.ntmps158
  go_wp2_with (go_at_call 218; refine (IndexFunc_any _ _ ns _ hl'.out hsz).mono ?_; rintro e w' ⟨⟨r, rfl, hr1, hr2⟩, rfl⟩; have hr3 := Lib.hid hr2; clear hr2)
  go_ret
  refine ⟨ret_bool ?_, rfl⟩
  rcases hr3.out with ⟨h1, rfl⟩ | ⟨h1, h2⟩
  · rw [h1]; simp
  · rw [h1]; simp; omega
/-- The error of entries and of days. -/
def Cal.atErr (l : List Prov) (ns : List Int) : Int := if Cal.provsErr l = 0 then (if Cal.daysB ns = true then 0 else 2) else Cal.provsErr l
theorem checkAt_any (A : Option Addr) (c : Nat) (l : List Prov) (A2 : Option Addr) (c2 : Nat) (ns : List Int) (w : World) (hl : Provs w A l) (hn : RowsAt w A2 1 (intRows ns)) (hsz : ns.length ≤ 1000000) :
    Calls Tryz.prog 206 #[.slice A l.length c, .slice A2 ns.length c2] w fun e w' => e = .returned (.int .i64 (Cal.atErr l ns)) ∧ Below w.heap.size w w' := by
  have hl' := Lib.hid hl
  have hn' := Lib.hid (fun w1 (h : Below w.heap.size w w1) => hn.below h)
  clear hl hn
  by_cases h0 : Cal.provsErr l = 0
  · have h0z := Lib.hid h0
    have h1 : (Cal.provsErr l != 0) = false := by simpa using h0
    clear h0
    cases hd : Cal.daysB ns
    all_goals
      have hdd := Lib.hid hd
      go_enter Tryz.func206, Tryz.ntmps206
      go_wp2_with (first | (go_at_call 91; refine (CheckProvisions_any _ _ l _ hl'.out).mono ?_; rintro e w1 ⟨rfl, hb1⟩) | (go_at_call 158; refine (ContainsFunc_any _ _ ns _ (hn'.out _ hb1) hsz).mono ?_; rintro e w' ⟨rfl, rfl⟩))
      go_ret
      exact ⟨ret_int (by unfold Cal.atErr; rw [h0z.out, hdd.out]; rfl), hb1⟩
  · have h0z := Lib.hid h0
    have h1 : (Cal.provsErr l != 0) = true := by simpa using h0
    clear h0
    go_enter Tryz.func206, Tryz.ntmps206
    go_wp2_with (first | (go_at_call 91; refine (CheckProvisions_any _ _ l _ hl'.out).mono ?_; rintro e w1 ⟨rfl, hb1⟩))
    go_ret
    exact ⟨ret_int (by unfold Cal.atErr; rw [if_neg h0z.out]), hb1⟩
end Go.Proofs.YtbegbajlagcbdaaGreatDoor
namespace Go.Proofs.YtbegbajlagcbdaaGreatDoor
open Go Go.RowKit

theorem flat_get {m : Nat} : ∀ {rows : List (List Value)} {k j : Nat} {r : List Value} {v : Value}, (∀ r ∈ rows, r.length = m) → rows[k]? = some r → r[j]? = some v → rows.flatten[k * m + j]? = some v
  | [], k, _, _, _, _, h, _ => by simp at h
  | q :: rows, 0, j, r, v, hw, h, hv => by
    simp only [List.getElem?_cons_zero, Option.some.injEq] at h
    subst h
    rw [List.flatten_cons, Nat.zero_mul, Nat.zero_add, List.getElem?_append_left (List.getElem?_eq_some_iff.1 hv).1, hv]
  | q :: rows, k + 1, j, r, v, hw, h, hv => by
    simp only [List.getElem?_cons_succ] at h
    have hq := hw q (List.mem_cons_self ..)
    have ih := flat_get (fun r hr => hw r (List.mem_cons_of_mem _ hr)) h hv
    rw [List.flatten_cons, List.getElem?_append_right (by rw [hq, Nat.succ_mul]; omega), hq, show (k + 1) * m + j - m = k * m + j by rw [Nat.succ_mul]; omega, ih]
theorem flat_len {m : Nat} : ∀ {rows : List (List Value)}, (∀ r ∈ rows, r.length = m) → rows.flatten.length = rows.length * m
  | [], _ => by simp
  | q :: rows, hw => by
    rw [List.flatten_cons, List.length_append, hw q (List.mem_cons_self ..), flat_len (fun r hr => hw r (List.mem_cons_of_mem _ hr)), List.length_cons, Nat.succ_mul]; omega
/-- What lies at a place of the flat list, as a row's cell. -/
theorem flat_of {m : Nat} (hm : 0 < m) {rows : List (List Value)} (hw : ∀ r ∈ rows, r.length = m) {i : Nat} {v : Value} (h : rows.flatten[i]? = some v) : ∃ r, rows[i / m]? = some r ∧ r[i % m]? = some v := by
  have hl := (List.getElem?_eq_some_iff.1 h).1
  rw [flat_len hw] at hl
  have hk : i / m < rows.length := Nat.div_lt_of_lt_mul (by rw [Nat.mul_comm]; exact hl)
  have hr := List.getElem?_eq_getElem hk
  have hlen := hw _ (List.getElem_mem hk)
  have hj : i % m < rows[i / m].length := by rw [hlen]; exact Nat.mod_lt _ hm
  refine ⟨_, hr, ?_⟩
  have h2 := flat_get hw hr (List.getElem?_eq_getElem hj)
  rw [Nat.mul_comm, Nat.div_add_mod] at h2
  rw [List.getElem?_eq_getElem hj, ← h2, h]

/-- A slice value of the call's own (its block from B on) that reads as rows. -/
structure OwnL (w : World) (B : Nat) (E : TypeId) (m : Nat) (v : Value) (rows : List (List Value)) : Prop where
  own : w.ownsRow B E m v rows.length rows.flatten
  wid : ∀ r ∈ rows, r.length = m
  one : ∀ r ∈ rows, ∀ u ∈ r, u.oneCell' = true
theorem addr_add (g j : Nat) (o : Nat) : (⟨g, o, none⟩ : Addr).add j = ⟨g, o + j, none⟩ := by unfold Addr.add; split <;> simp_all
theorem OwnL.form {w : World} {B : Nat} {E : TypeId} {m : Nat} {v : Value} {rows : List (List Value)} (h : OwnL w B E m v rows) : ∃ A c, v = .slice A rows.length c ∧ RowsAt w A m rows := by
  obtain ⟨hown, hw, _⟩ := h
  have hc := fun g (hg : v.ownBlock = some g) => hown.cells hg
  rcases hown.2 with ⟨rfl, h0⟩ | ⟨g, cap, cur, rfl, _, hg, _⟩
  · exact ⟨none, 0, by rw [h0], fun k r hr => by rw [List.eq_nil_of_length_eq_zero h0] at hr; simp at hr⟩
  · refine ⟨_, _, rfl, fun k r hr => ⟨g, 0, rfl, (Array.getElem?_eq_some_iff.1 hg).1, fun j u hu => ?_⟩⟩
    have := hc g rfl _ u (flat_get hw hr hu)
    rw [addr_add] at this
    exact this
theorem OwnL.nil (w : World) (B : Nat) (E : TypeId) (m : Nat) : OwnL w B E m (.slice none 0 0) [] := ⟨World.ownsRow_nil w B E m, fun r h => (by simp at h), fun r h => (by simp at h)⟩
theorem OwnL.made (w : World) (B : Nat) (E : TypeId) (m : Nat) (hb : B ≤ w.heap.size) : OwnL (w.alloc (.cells #[] E)) B E m (.slice (some ⟨w.heap.size, 0, none⟩) 0 0) [] :=
  ⟨World.ownsRow_made w #[] 0 hb (Nat.zero_le _) (by simp), fun r h => (by simp at h), fun r h => (by simp at h)⟩
theorem OwnL.less {w : World} {B B' : Nat} {E : TypeId} {m : Nat} {v : Value} {rows : List (List Value)} (h : OwnL w B E m v rows) (hB : B' ≤ B) : OwnL w B' E m v rows := by
  refine ⟨⟨h.own.1, ?_⟩, h.wid, h.one⟩
  rcases h.own.2 with h | ⟨g, cap, cur, h1, h2, h3⟩
  · exact .inl h
  · exact .inr ⟨g, cap, cur, h1, by omega, h3⟩
theorem OwnL.kept {w w' : World} {row : Option Nat} {B : Nat} {E : TypeId} {m : Nat} {v : Value} {rows : List (List Value)} (h : OwnL w B E m v rows) (hg : w.grownBy w' row) (hne : v.ownBlock = none ∨ v.ownBlock ≠ row) : OwnL w' B E m v rows :=
  ⟨h.own.kept hg hne, h.wid, h.one⟩
theorem OwnL.below {w w' : World} {B : Nat} {E : TypeId} {m : Nat} {v : Value} {rows : List (List Value)} (h : OwnL w B E m v rows) (hb : Below w.heap.size w w') : OwnL w' B E m v rows :=
  h.kept (row := none) ⟨hb.os, hb.tape, hb.output, hb.size, fun i hi _ => hb.block i hi⟩ (by cases v.ownBlock <;> simp)
theorem OwnL.lt {w : World} {B : Nat} {E : TypeId} {m : Nat} {v : Value} {rows : List (List Value)} (h : OwnL w B E m v rows) : ∀ g, v.ownBlock = some g → B ≤ g ∧ g < w.heap.size := h.own.lt
/-- What is known of an element's type. -/
structure Elem (P : Program) (t e : TypeId) (m bytes : Nat) : Prop where
  und : P.underlying t = some (.slice e)
  info : ∃ i z, P.info? e = some i ∧ i.zero = some z ∧ i.size = m ∧ i.bytes = bytes ∧ z.cells.size = m
  pos : 0 < m
theorem Elem.mk' {P : Program} {t e : TypeId} {m bytes : Nat} {z : Value} (hu : P.underlying t = some (.slice e)) (h : (P.info? e).map (fun i => (i.zero, i.size, i.bytes)) = some (some z, m, bytes)) (hz : z.cells.size = m) (hm : 0 < m) : Elem P t e m bytes := by
  obtain ⟨i, hi, h1, h2, h3⟩ := info_parts h
  exact ⟨hu, ⟨i, z, hi, h1, h2, h3, hz⟩, hm⟩
theorem run_append_none_any {P : Program} {w : World} (base : Nat) (t ty e : TypeId) (i : TypeInfo) (size c : Nat) (ht : P.underlying t = some (.slice e)) (hi : P.info? e = some i)
    (v : Value) (n : Nat) (xs : List Value) (hown : w.ownsRow base e size v n xs) :
    (Builtin.append_ #[t, t] ty #[v, .slice none 0 c]).run P w = .ok v w := by
  rcases hown.2 with ⟨rfl, rfl⟩ | ⟨g, cap, cur, rfl, _, _, hnc, _⟩
  · simp [Builtin.append_, run_underlying ht, sizeOf, typeInfo, hi, Builtin.lenOf, Builtin.firstCells]
  · simp [Builtin.append_, run_underlying ht, sizeOf, typeInfo, hi, Builtin.lenOf, Builtin.firstCells, hnc, storeCells]
theorem run_append_rows {P : Program} {t e : TypeId} {m bytes : Nat} (el : Elem P t e m bytes) (ty : TypeId) {w : World} {B : Nat} {v : Value} {rows : List (List Value)} (h : OwnL w B e m v rows)
    {A : Option Addr} {n c : Nat} {rows2 : List (List Value)} (h2 : RowsAt w A m rows2) (hn : n = rows2.length) (hw : ∀ r ∈ rows2, r.length = m) (h1 : ∀ r ∈ rows2, ∀ u ∈ r, u.oneCell' = true)
    (h63 : rows.length + rows2.length ≤ 4000000000) (hby : bytes ≤ 10000) (hbase : B ≤ w.heap.size) :
    ∃ v' w', (Builtin.append_ #[t, t] ty #[v, .slice A n c]).run P w = .ok v' w' ∧ OwnL w' B e m v' (rows ++ rows2) ∧ w.grownBy w' v.ownBlock ∧ (v'.ownBlock = v.ownBlock ∨ v'.ownBlock = some w.heap.size) := by
  subst hn
  obtain ⟨i, z, hi, hz, hsize, hb, hzs⟩ := el.info
  have hwid : ∀ r ∈ rows ++ rows2, r.length = m := fun r hr => by rcases List.mem_append.1 hr with h' | h'; exact h.wid r h'; exact hw r h'
  have hone : ∀ r ∈ rows ++ rows2, ∀ u ∈ r, u.oneCell' = true := fun r hr => by rcases List.mem_append.1 hr with h' | h'; exact h.one r h'; exact h1 r h'
  have hml : 4000000000 * 10000 ≤ 140737488355328 := by decide
  have hbb : (rows.length + rows2.length) * bytes ≤ 140737488355328 := Nat.le_trans (Nat.mul_le_mul h63 hby) hml
  cases A with
  | none =>
    have h0 : rows2 = [] := by
      cases rows2 with
      | nil => rfl
      | cons q r => obtain ⟨b, o, hA, _⟩ := h2 0 q rfl; cases hA
    subst h0
    refine ⟨v, w, run_append_none_any (P := P) (w := w) B t ty e i m c el.und hi v _ _ h.own, ?_, ⟨rfl, rfl, rfl, Nat.le_refl _, fun _ _ _ => rfl⟩, .inl rfl⟩
    rw [List.append_nil]; exact h
  | some ad =>
    have hlen2 : rows2.flatten.length = rows2.length * m := flat_len hw
    have hnews : ∀ j u, rows2.flatten[j]? = some u → w.cell? (ad.add j) = some u := fun j u hu => by
      obtain ⟨r, hr, hru⟩ := flat_of el.pos hw hu
      obtain ⟨b, o, hA, _, hc⟩ := h2 _ r hr
      cases hA
      have := hc _ u hru
      rw [addr_add, ← this]
      rw [show j / m * m + j % m = j by rw [Nat.mul_comm]; exact Nat.div_add_mod ..]
    have hon : ∀ u ∈ rows2.flatten, u.oneCell' = true := fun u hu => by obtain ⟨r, hr, hur⟩ := List.mem_flatten.1 hu; exact h1 r hr u hur
    obtain ⟨v', w', hr, ho, hg, _, hob⟩ := run_append_own_at (P := P) w B t ty e i z m bytes el.und hi hz hsize hb hzs el.pos v rows.length rows.flatten h.own ad rows2.length c rows2.flatten hlen2 hnews hon (by unfold maxLen; omega) hbb hbase
    refine ⟨v', w', hr, ⟨?_, hwid, hone⟩, hg, hob⟩
    rw [List.length_append, List.flatten_append]; exact ho
theorem wp_of_append {P : Program} {w w' : World} {o : Oper} {a : Act} {K : Act → World → Prop} {Q : Exit → Act → World → Prop} (s x : Operand) (t : TypeId)
    (ho : o.op = .call { callee := .builtin .append, args := #[s, x], argTypes := #[t, t] }) {v u v' : Value} (hs : a.eval s = v) (hx : a.eval x = u)
    (hr : (Builtin.append_ #[t, t] o.type #[v, u]).run P w = .ok v' w') (h : K (a.put o.dst v') w') : o.wp P a w K Q := by
  unfold Oper.wp execOp
  simp only [ho, resolve, invoke, builtin, Sem.run_bind, Sem.run_pure, Result.andThen_ok, List.map_toArray, List.map_cons, List.map_nil, hs, hx, hr]
  exact h
/-- At the list of a plain region's operations. -/
theorem wpList_append_rows {P : Program} {t e : TypeId} {m bytes : Nat} (el : Elem P t e m bytes) {w : World} {ops : Array Oper} {rest : List Oper} {o : Oper} {a : Act} {Q : Exit → Act → World → Prop} (hgd : o.guard = none) (s x : Operand)
    (ho : o.op = .call { callee := .builtin .append, args := #[s, x], argTypes := #[t, t] }) {v : Value} {A : Option Addr} {n c : Nat} (hs : a.eval s = v) (hx : a.eval x = .slice A n c)
    {B : Nat} {rows : List (List Value)} (h : OwnL w B e m v rows) {rows2 : List (List Value)} (h2 : RowsAt w A m rows2) (hn : n = rows2.length) (hw : ∀ r ∈ rows2, r.length = m) (h1 : ∀ r ∈ rows2, ∀ u ∈ r, u.oneCell' = true)
    (h63 : rows.length + rows2.length ≤ 4000000000) (hby : bytes ≤ 10000) (hbase : B ≤ w.heap.size)
    (hK : ∀ v' w', OwnL w' B e m v' (rows ++ rows2) → w.grownBy w' v.ownBlock → (v'.ownBlock = v.ownBlock ∨ v'.ownBlock = some w.heap.size) → wpList P ops Q rest (a.put o.dst v') w') : wpList P ops Q (o :: rest) a w :=
  wpList_plain hgd fun _ hK' => by
    obtain ⟨v', w', hr, h3, h4, h5⟩ := run_append_rows el o.type h h2 hn hw h1 h63 hby hbase
    exact wp_of_append s x t ho hs hx hr (hK' _ _ (hK v' w' h3 h4 h5))
/-- At a step of a region that draws its order. -/
theorem step_append_rows {P : Program} {t e : TypeId} {m bytes : Nat} (el : Elem P t e m bytes) {w : World} {ops : Array Oper} {o : Oper} {a : Act} {K : Act → World → Prop} {Q : Exit → Act → World → Prop} {E : Prop} (hgd : o.guard = none) (s x : Operand)
    (ho : o.op = .call { callee := .builtin .append, args := #[s, x], argTypes := #[t, t] }) {v : Value} {A : Option Addr} {n c : Nat} (hs : a.eval s = v) (hx : a.eval x = .slice A n c)
    {B : Nat} {rows : List (List Value)} (h : OwnL w B e m v rows) {rows2 : List (List Value)} (h2 : RowsAt w A m rows2) (hn : n = rows2.length) (hw : ∀ r ∈ rows2, r.length = m) (h1 : ∀ r ∈ rows2, ∀ u ∈ r, u.oneCell' = true)
    (h63 : rows.length + rows2.length ≤ 4000000000) (hby : bytes ≤ 10000) (hbase : B ≤ w.heap.size)
    (hK : ∀ v' w', OwnL w' B e m v' (rows ++ rows2) → w.grownBy w' v.ownBlock → (v'.ownBlock = v.ownBlock ∨ v'.ownBlock = some w.heap.size) → K (a.put o.dst v') w') : if Region.wanted o (yielded ops a.tmps) = true then Oper.wp P o a w K Q else E := by
  have hwt : Region.wanted o (yielded ops a.tmps) = true := by simp [Region.wanted, hgd]
  rw [if_pos hwt]
  obtain ⟨v', w', hr, h3, h4, h5⟩ := run_append_rows el o.type h h2 hn hw h1 h63 hby hbase
  exact wp_of_append s x t ho hs hx hr (hK v' w' h3 h4 h5)
/-- A row that has just been laid into a block of its own. -/
theorem rowsAt_new (w : World) (r : List Value) (t : TypeId) : RowsAt (w.alloc (.cells r.toArray t)) (some ⟨w.heap.size, 0, none⟩) r.length [r] := fun k q hq => by
  match k, hq with
  | 0, hq =>
    simp only [List.getElem?_cons_zero, Option.some.injEq] at hq
    subst hq
    refine ⟨w.heap.size, 0, rfl, by simp, fun j v hv => ?_⟩
    rw [cell_of_row _ _ _ r.toArray t (0, 0) (heap_alloc_new w _)]
    simpa using hv
theorem grown_below {w w' : World} {B : Nat} {v : Value} (h : w.grownBy w' v.ownBlock) (hB : ∀ g, v.ownBlock = some g → B ≤ g) (hs : B ≤ w.heap.size) : Below B w w' :=
  (Below.refl _ _).grown h hs (fun k e => hB k e)
end Go.Proofs.YtbegbajlagcbdaaGreatDoor
namespace Go.Proofs.YtbegbajlagcbdaaGreatDoor.Cal
open Go.Lib
abbrev Txt := List UInt8
theorem txt_lt_of {a b : Txt} (h1 : a ≤ b) (h2 : a ≠ b) : a < b := by
  rcases Classical.em (a < b) with h | h
  · exact h
  · exact absurd (List.le_antisymm h1 (List.not_lt.1 h)) h2
theorem txt_up_ext : ∀ {xs ys : List Txt}, xs.Pairwise (· < ·) → ys.Pairwise (· < ·) → (∀ d, d ∈ xs ↔ d ∈ ys) → xs = ys
  | [], [], _, _, _ => rfl
  | [], y :: ys, _, _, h => absurd ((h y).2 (List.mem_cons_self ..)) (by simp)
  | x :: xs, [], _, _, h => absurd ((h x).1 (List.mem_cons_self ..)) (by simp)
  | x :: xs, y :: ys, hx, hy, h => by
    rw [List.pairwise_cons] at hx hy
    have e : x = y := by
      rcases List.mem_cons.1 ((h x).1 (List.mem_cons_self ..)) with he | hm
      · exact he
      · rcases List.mem_cons.1 ((h y).2 (List.mem_cons_self ..)) with he | hm2
        · exact he.symm
        · exact absurd (List.lt_trans (hx.1 y hm2) (hy.1 x hm)) (List.lt_irrefl _)
    subst e
    congr 1
    refine txt_up_ext hx.2 hy.2 fun d => ⟨fun hd => ?_, fun hd => ?_⟩
    · rcases List.mem_cons.1 ((h d).1 (List.mem_cons_of_mem _ hd)) with he | hm
      · have := hx.1 d hd; rw [he] at this; exact absurd this (List.lt_irrefl _)
      · exact hm
    · rcases List.mem_cons.1 ((h d).2 (List.mem_cons_of_mem _ hd)) with he | hm
      · have := hy.1 d hd; rw [he] at this; exact absurd this (List.lt_irrefl _)
      · exact hm
theorem txt_compact_spec (d : Array Txt) (hs : ∀ i j, i ≤ j → j < d.size → d[i]! ≤ d[j]!) : ∀ m, m ≤ d.size →
    (compactUpTo d m).Pairwise (· < ·) ∧ ∀ x, x ∈ compactUpTo d m ↔ ∃ j, j < m ∧ d[j]! = x
  | 0, _ => ⟨List.Pairwise.nil, fun x => ⟨fun h => by simp [compactUpTo] at h, fun ⟨j, hj, _⟩ => by omega⟩⟩
  | m + 1, hm => by
    obtain ⟨ih1, ih2⟩ := txt_compact_spec d hs m (by omega)
    rw [compactUpTo_succ]
    by_cases hk : keeps d m = true
    · rw [if_pos hk]
      refine ⟨?_, fun x => ?_⟩
      · rw [List.pairwise_append]
        refine ⟨ih1, List.pairwise_singleton .., fun a ha b hb => ?_⟩
        obtain ⟨j, hj, rfl⟩ := (ih2 a).1 ha
        simp only [List.mem_singleton] at hb
        subst hb
        have hm0 : m ≠ 0 := by omega
        have hne : d[m]! ≠ d[m - 1]! := by simpa [keeps, hm0] using hk
        have h1 := hs j (m - 1) (by omega) (by omega)
        have h2 := txt_lt_of (hs (m - 1) m (by omega) (by omega)) (Ne.symm hne)
        exact List.lt_of_le_of_lt h1 h2
      · rw [List.mem_append, ih2, List.mem_singleton]
        constructor
        · rintro (⟨j, hj, rfl⟩ | rfl)
          · exact ⟨j, by omega, rfl⟩
          · exact ⟨m, by omega, rfl⟩
        · rintro ⟨j, hj, rfl⟩
          by_cases he : j = m
          · right; rw [he]
          · exact .inl ⟨j, by omega, rfl⟩
    · rw [if_neg hk, List.append_nil]
      refine ⟨ih1, fun x => ?_⟩
      rw [ih2]
      constructor
      · rintro ⟨j, hj, rfl⟩; exact ⟨j, by omega, rfl⟩
      · rintro ⟨j, hj, rfl⟩
        by_cases he : j = m
        · subst he
          have hk' : ¬ (j = 0 ∨ d[j]! ≠ d[j - 1]!) := by simpa [keeps] using hk
          refine ⟨j - 1, by omega, ?_⟩
          have : ¬ d[j]! ≠ d[j - 1]! := fun h => hk' (.inr h)
          exact (Classical.not_not.1 this).symm
        · exact ⟨j, by omega, rfl⟩
/-- The texts of a list, ascending, each once. -/
def tups (zs : List Txt) : List Txt := compact (zs.mergeSort fun x y => decide (x ≤ y))
theorem txt_sort_up (zs : List Txt) : (zs.mergeSort fun x y => decide (x ≤ y)).Pairwise (· ≤ ·) := by
  have := List.pairwise_mergeSort (le := fun x y : Txt => decide (x ≤ y)) (fun a b c => by simp only [decide_eq_true_eq]; exact List.le_trans) (fun a b => by simp only [Bool.or_eq_true, decide_eq_true_eq]; exact List.le_total a b) zs
  exact this.imp fun h => by simpa using h
theorem tups_spec (zs : List Txt) : (tups zs).Pairwise (· < ·) ∧ ∀ d, d ∈ tups zs ↔ d ∈ zs := by
  have hp := txt_sort_up zs
  have hsize : (zs.mergeSort fun x y => decide (x ≤ y)).toArray.size = (zs.mergeSort fun x y => decide (x ≤ y)).length := by simp
  obtain ⟨h1, h2⟩ := txt_compact_spec (zs.mergeSort fun x y => decide (x ≤ y)).toArray (fun i j hij hj => by
    rcases Nat.lt_or_eq_of_le hij with hlt | rfl
    · have := List.pairwise_iff_getElem.1 hp i j (by omega) (by omega) hlt
      rw [getElem!_pos _ i (by omega), getElem!_pos _ j (by omega)]
      simpa using this
    · exact List.le_refl _) _ (Nat.le_of_eq hsize.symm)
  refine ⟨h1, fun d => ?_⟩
  unfold tups compact
  rw [h2]
  constructor
  · rintro ⟨j, hj, rfl⟩
    rw [getElem!_pos _ j (by omega)]
    have : (zs.mergeSort fun x y => decide (x ≤ y)).toArray[j]'(by omega) ∈ (zs.mergeSort fun x y => decide (x ≤ y)) := by simp
    exact List.mem_mergeSort.1 this
  · intro hd
    obtain ⟨j, hj, he⟩ := List.getElem_of_mem (List.mem_mergeSort.2 hd)
    refine ⟨j, hj, ?_⟩
    rw [getElem!_pos _ j (by simpa using hj)]
    simpa using he
theorem tups_eq {zs ys : List Txt} (h : ys.Pairwise (· < ·)) (hm : ∀ d, d ∈ ys ↔ d ∈ zs) : tups zs = ys :=
  txt_up_ext (tups_spec zs).1 h fun d => by rw [(tups_spec zs).2, hm]
theorem tups_nil : tups [] = [] := tups_eq List.Pairwise.nil fun _ => Iff.rfl
theorem tups_length (zs : List Txt) : (tups zs).length ≤ zs.length := by
  have h : (zs.mergeSort fun x y => decide (x ≤ y)).length = zs.length := List.length_mergeSort zs
  unfold tups compact compactUpTo
  rw [List.length_map]
  exact Nat.le_trans (List.length_filter_le _ _) (by rw [List.length_range]; omega)
/-- One more text, at its place. -/
theorem tins_up {xs : List Txt} {d : Txt} {q : Nat} (h : xs.Pairwise (· < ·)) (hd : d ∉ xs) (hq : q ≤ xs.length) (h1 : ∀ (j : Nat) z, q ≤ j → xs[j]? = some z → d < z) (h2 : ∀ z, 0 < q → xs[q - 1]? = some z → z ≤ d) : (xs.take q ++ [d] ++ xs.drop q).Pairwise (· < ·) := by
  have hlow : ∀ a ∈ xs.take q, a < d := fun a ha => by
    obtain ⟨i, hi, rfl⟩ := List.getElem_of_mem ha
    rw [List.length_take] at hi
    rw [List.getElem_take]
    have hq1 : q - 1 < xs.length := by omega
    have e2 := h2 _ (by omega) (List.getElem?_eq_getElem hq1)
    have hne : xs[q - 1] ≠ d := fun e => hd (e ▸ List.getElem_mem hq1)
    have e3 := txt_lt_of e2 hne
    rcases Nat.lt_or_eq_of_le (show i ≤ q - 1 by omega) with hlt | he
    · exact List.lt_trans (List.pairwise_iff_getElem.1 h i (q - 1) (by omega) hq1 hlt) e3
    · subst he; exact e3
  have hhigh : ∀ b ∈ xs.drop q, d < b := fun b hb => by
    obtain ⟨i, hi, rfl⟩ := List.getElem_of_mem hb
    rw [List.length_drop] at hi
    rw [List.getElem_drop]
    exact h1 (q + i) _ (by omega) (List.getElem?_eq_getElem (by omega))
  rw [List.pairwise_append, List.pairwise_append]
  refine ⟨⟨h.sublist (List.take_sublist _ _), List.pairwise_singleton .., fun a ha b hb => ?_⟩, h.sublist (List.drop_sublist _ _), fun a ha b hb => ?_⟩
  · rw [List.mem_singleton] at hb; subst hb; exact hlow a ha
  · rcases List.mem_append.1 ha with ha | ha
    · exact List.lt_trans (hlow a ha) (hhigh b hb)
    · rw [List.mem_singleton] at ha; subst ha; exact hhigh b hb
theorem tins_mem {xs : List Txt} {d x : Txt} {q : Nat} : x ∈ xs.take q ++ [d] ++ xs.drop q ↔ x = d ∨ x ∈ xs := by
  conv => rhs; rw [← List.take_append_drop q xs]
  simp only [List.mem_append, List.mem_singleton]
  constructor
  · rintro ((h | h) | h)
    · exact .inr (.inl h)
    · exact .inl h
    · exact .inr (.inr h)
  · rintro (h | h | h)
    · exact .inl (.inr h)
    · exact .inl (.inl h)
    · exact .inr h
end Go.Proofs.YtbegbajlagcbdaaGreatDoor.Cal
