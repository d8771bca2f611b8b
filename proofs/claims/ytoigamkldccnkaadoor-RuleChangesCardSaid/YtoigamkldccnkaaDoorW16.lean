/- The walks: checkAt, Source, Value, valueOf (rule); Has, atErr (reference and statements). -/
import Derived.Test.YtoigamkldccnkaaDoorW15
namespace Go.Proofs.YtoigamkldccnkaaDoor
open Go Go.RowKit
def Cal.dayB (n : Int) : Bool := decide (0 ≤ n) && decide (n ≤ 200000)
theorem Cal.dayB_no {n : Int} (h : Cal.dayB n = false) : n < 0 ∨ 200000 < n := by unfold Cal.dayB at h; simp at h; omega
theorem Cal.dayB_yes {n : Int} (h : Cal.dayB n = true) : 0 ≤ n ∧ n ≤ 200000 := by unfold Cal.dayB at h; simp at h; omega
def Cal.daysB (ns : List Int) : Bool := ns.all Cal.dayB
def intRows (ns : List Int) : List (List Value) := ns.map fun n => [.int .i64 n]
def FirstBad (ns : List Int) (e : Ending) : Prop := ∃ r : Int, e = .returned (.int .i64 r) ∧ r ≤ ns.length ∧ ((Cal.daysB ns = true ∧ r = -1) ∨ (Cal.daysB ns = false ∧ 0 ≤ r))
def goodTo (ns : List Int) (k : Nat) : Prop := ∀ (j : Nat) n, j < k → ns[j]? = some n → Cal.dayB n = true
theorem goodTo_all {ns : List Int} (h : goodTo ns ns.length) : Cal.daysB ns = true := by
  unfold Cal.daysB; rw [List.all_eq_true]; intro n hn
  obtain ⟨j, hj, rfl⟩ := List.getElem_of_mem hn
  exact h j _ hj (List.getElem?_eq_getElem hj)
theorem bad_all {ns : List Int} {k : Nat} {n : Int} (h : ns[k]? = some n) (h2 : Cal.dayB n = false) : Cal.daysB ns = false := by
  unfold Cal.daysB; rw [List.all_eq_false]; exact ⟨n, List.mem_of_getElem? h, by simp [h2]⟩
theorem IndexFunc_any (A : Option Addr) (c : Nat) (ns : List Int) (w : World) (hl : RowsAt w A 1 (intRows ns)) (hsz : ns.length ≤ 1000000) :
    Calls Tryd.prog 111 #[.slice A ns.length c, .func (.func 99) #[] #[]] w fun e w' => FirstBad ns e ∧ w = w' := by
  have hl' := Lib.hid hl
  clear hl
  have h0 : Hid (goodTo ns 0) := fun j n h _ => by omega
  go_enter Tryd.func111, Tryd.ntmps111
  go_wp2
  go_loop [8] (fun i => ∃ k : Nat, k ≤ ns.length ∧ i = .int .i64 k ∧ Hid (goodTo ns k)) (fun i => ns.length - (intOf i).toNat)
  case atStart => exact ⟨0, Nat.zero_le _, rfl, h0⟩
  case round =>
    obtain ⟨k, hk, rfl, hgood⟩ := hrel
    clear h0
    by_cases hlt : k < ns.length
    · have hk' : ns[k]? = some ns[k] := List.getElem?_eq_getElem hlt
      obtain ⟨b, o, rfl, hbl, hc⟩ := hl'.out k [.int .i64 ns[k]] (by simp [intRows, hk'])
      have c0 := hc 0 _ rfl
      simp only [Nat.mul_one, Nat.add_zero] at c0
      clear hc
      generalize ns[k] = n at *
      cases hd : Cal.dayB n
      · have hn := Cal.dayB_no hd
        have hfin := Lib.hid (bad_all hk' hd)
        clear hk' hd
        go_wp2_with (first | (go_at_call 75; first | (refine (calls_in (isDay_any _ _) ?_ ?_).mono ?_; omega; omega; rintro e w' ⟨rfl, rfl⟩) | (refine (calls_out (isDay_any _ _) ?_).mono ?_; omega; rintro e w' ⟨rfl, rfl⟩) | (refine (isDay_any _ _).mono ?_; rintro e w' ⟨rfl, rfl⟩)) | go_in)
        go_ret
        exact ⟨⟨k, rfl, by omega, .inr ⟨hfin.out, by omega⟩⟩, rfl⟩
      · obtain ⟨n1, n2⟩ := Cal.dayB_yes hd
        have hg2 : Hid (goodTo ns (k + 1)) := fun j m hj hm => by
          rcases Nat.lt_or_ge j k with h | h
          · exact hgood.out j m h hm
          · obtain rfl : j = k := by omega
            rw [hk'] at hm; cases hm; exact hd
        clear hk' hd
        go_wp2_with (first | (go_at_call 75; first | (refine (calls_in (isDay_any _ _) ?_ ?_).mono ?_; omega; omega; rintro e w' ⟨rfl, rfl⟩) | (refine (calls_out (isDay_any _ _) ?_).mono ?_; omega; rintro e w' ⟨rfl, rfl⟩) | (refine (isDay_any _ _).mono ?_; rintro e w' ⟨rfl, rfl⟩)) | go_in)
        go_round
        case rel => exact ⟨k + 1, by omega, by go_num, hg2⟩
        case measure => simp [intOf]; omega
    · obtain rfl : k = ns.length := by omega
      have hfin := Lib.hid (goodTo_all hgood.out)
      go_wp2
      go_ret
      exact ⟨⟨-1, rfl, by omega, .inl ⟨hfin.out, rfl⟩⟩, rfl⟩
theorem ContainsFunc_any (A : Option Addr) (c : Nat) (ns : List Int) (w : World) (hl : RowsAt w A 1 (intRows ns)) (hsz : ns.length ≤ 1000000) :
    Calls Tryd.prog 98 #[.slice A ns.length c, .func (.func 99) #[] #[]] w fun e w' => e = .returned (.bool (!Cal.daysB ns)) ∧ w = w' := by
  have hl' := Lib.hid hl
  clear hl
  go_enter Tryd.func98, Tryd.ntmps98
  go_wp2_with (go_at_call 111; refine (IndexFunc_any _ _ ns _ hl'.out hsz).mono ?_; rintro e w' ⟨⟨r, rfl, hr1, hr2⟩, rfl⟩; have hr3 := Lib.hid hr2; clear hr2)
  go_ret
  refine ⟨ret_bool ?_, rfl⟩
  rcases hr3.out with ⟨h1, rfl⟩ | ⟨h1, h2⟩
  · rw [h1]; simp
  · rw [h1]; simp; omega
/-- The error of entries and of days. -/
def Cal.atErr (l : List Prov) (ns : List Int) : Int := if Cal.provsErr l = 0 then (if Cal.daysB ns = true then 0 else 2) else Cal.provsErr l
theorem checkAt_any (A : Option Addr) (c : Nat) (l : List Prov) (A2 : Option Addr) (c2 : Nat) (ns : List Int) (w : World) (hl : Provs w A l) (hn : RowsAt w A2 1 (intRows ns)) (hsz : ns.length ≤ 1000000) :
    Calls Tryd.prog 65 #[.slice A l.length c, .slice A2 ns.length c2] w fun e w' => e = .returned (.int .i64 (Cal.atErr l ns)) ∧ Below w.heap.size w w' := by
  have hl' := Lib.hid hl
  have hn' := Lib.hid (fun w1 (h : Below w.heap.size w w1) => hn.below h)
  clear hl hn
  by_cases h0 : Cal.provsErr l = 0
  · have h0z := Lib.hid h0
    have h1 : (Cal.provsErr l != 0) = false := by simpa using h0
    clear h0
    cases hd : Cal.daysB ns
    all_goals
      have hdd := Lib.hid hd
      go_enter Tryd.func65, Tryd.ntmps65
      go_wp2_with (first | (go_at_call 52; refine (CheckProvisions_any _ _ l _ hl'.out).mono ?_; rintro e w1 ⟨rfl, hb1⟩) | (go_at_call 98; refine (ContainsFunc_any _ _ ns _ (hn'.out _ hb1) hsz).mono ?_; rintro e w' ⟨rfl, rfl⟩))
      go_ret
      exact ⟨ret_int (by unfold Cal.atErr; rw [h0z.out, hdd.out]; rfl), hb1⟩
  · have h0z := Lib.hid h0
    have h1 : (Cal.provsErr l != 0) = true := by simpa using h0
    clear h0
    go_enter Tryd.func65, Tryd.ntmps65
    go_wp2_with (first | (go_at_call 52; refine (CheckProvisions_any _ _ l _ hl'.out).mono ?_; rintro e w1 ⟨rfl, hb1⟩))
    go_ret
    exact ⟨ret_int (by unfold Cal.atErr; rw [if_neg h0z.out]), hb1⟩
end Go.Proofs.YtoigamkldccnkaaDoor
