/- The walks: CheckHolidays of the reference; Calendar of the statements. -/
import Derived.Test.YtoigamkldccnkaaDoorW18
namespace Go.Proofs.YtoigamkldccnkaaDoor
open Go Go.RowKit
def noneTo (l : List Hol) (nm : ByteArray) (q : Nat) : Prop := ∀ (j : Nat) p, j < q → l[j]? = some p → (p.name.toList == nm.toList) = false
theorem noneTo_all {l : List Hol} {nm : ByteArray} {k : Nat} (h : noneTo l nm k) : hasName (l.take k) nm = false := by
  unfold hasName
  rw [List.any_eq_false]
  intro p hp
  obtain ⟨j, hj, rfl⟩ := List.getElem_of_mem hp
  have hjl : j < l.length ∧ j < k := by rw [List.length_take] at hj; omega
  have := h j l[j] hjl.2 (List.getElem?_eq_getElem hjl.1)
  rw [List.getElem_take]; simp [this]
theorem hasName_of {l : List Hol} {nm : ByteArray} {k q : Nat} {p : Hol} (hq : q < k) (h : l[q]? = some p) (he : (p.name.toList == nm.toList) = true) : hasName (l.take k) nm = true := by
  unfold hasName
  rw [List.any_eq_true]
  exact ⟨p, List.mem_of_getElem? (i := q) (by rw [List.getElem?_take, if_pos hq, h]), he⟩
set_option maxRecDepth 100000 in
set_option maxHeartbeats 2000000 in
theorem CheckHolidaysR_any (A : Option Addr) (c : Nat) (l : List Hol) (w : World) (hl : Hols w A l) :
    Calls Tryd.prog 22 #[.slice A l.length c] w fun e w' => e = .returned (.int .i64 (Cal.holsErr l)) ∧ Below w.heap.size w w' := by
  have hsz := hl.size
  by_cases hbig : 40 < l.length
  · have hfin : Hid (Cal.holsErr l = 8) := by show _ = _; unfold Cal.holsErr; rw [if_pos hbig]
    go_enter Tryd.func22, Tryd.ntmps22
    go_wp2
    go_ret
    exact ⟨ret_int hfin.out.symm, Below.refl _ _⟩
  · have hfin : Hid (Cal.holsErr l = Cal.holsErrFrom (l.take 0) (l.drop 0)) := by show _ = _; unfold Cal.holsErr; rw [if_neg hbig]; rfl
    have hl' := Lib.hid hl
    clear hl
    go_enter Tryd.func22, Tryd.ntmps22
    go_wp2
    go_loopw [3] (fun i wr => ∃ k : Nat, k ≤ l.length ∧ i = .int .i64 k ∧ Hid (Cal.holsErr l = Cal.holsErrFrom (l.take k) (l.drop k)) ∧ Hid (Below w.heap.size w wr)) (fun i _ => l.length - (intOf i).toNat)
    case atStart => exact ⟨0, Nat.zero_le _, rfl, hfin, Below.refl _ _⟩
    case round =>
      obtain ⟨k, hk, rfl, hinv, hb⟩ := hrel
      clear hfin
      obtain ⟨wo, rfl⟩ : ∃ wo : World, wo = wr := ⟨_, rfl⟩
      by_cases hlt : k < l.length
      · have hk' : l[k]? = some l[k] := List.getElem?_eq_getElem hlt
        have hkz := Lib.hid hk'
        have hd := Lib.hid (List.drop_eq_getElem_cons hlt)
        have htk : Hid (l.take (k + 1) = l.take k ++ [l[k]]) := by show _ = _; rw [List.take_succ_eq_append_getElem hlt]
        have hnm := hl'.out.names k _ hk'
        have hat := Lib.hid (fun (q : Nat) p (h : l[q]? = some p) => (hl'.out.below hb.out).at_ h)
        obtain ⟨b, o, rfl, hbl, c0, c1, c2, c3, c4⟩ := hat.out k _ hk'
        clear hk'
        generalize l[k] = p at *
        have hbs := hb.out.size
        cases hn : nameB p.name
        · have hfin : Hid (Cal.holsErr l = 4) := by show _ = _; rw [hinv.out, hd.out, Cal.holsErrFrom_cons, hn]; rfl
          go_wp2_with (first | (go_at_call 67; refine (IsName_any _ _ hnm).mono ?_; rintro e w' ⟨rfl, rfl⟩))
          go_ret
          exact ⟨ret_int hfin.out.symm, hb.out⟩
        · go_wp2_with (first | (go_at_call 67; refine (IsName_any _ _ hnm).mono ?_; rintro e w' ⟨rfl, rfl⟩))
          have hnz := Lib.hid hn
          clear hn
          have hs0 : Hid (noneTo l p.name 0) := fun j q h _ => by omega
          go_loopw [4] (fun i wr => ∃ (q n : Nat), q ≤ k ∧ i = .int .i64 q ∧ Hid (noneTo l p.name q) ∧ wr = wo.drewN n) (fun i _ => k - (intOf i).toNat)
          case atStart => exact ⟨0, 0, Nat.zero_le _, rfl, hs0, rfl⟩
          case round =>
            obtain ⟨q, n, hq, rfl, hnone, rfl⟩ := hrel
            clear hs0
            by_cases hqk : q < k
            · have hq' : l[q]? = some l[q] := List.getElem?_eq_getElem (by omega)
              obtain ⟨b', o', hA', hbl', d0, d1, d2, d3, d4⟩ := hat.out q _ hq'
              generalize l[q] = pq at *
              simp only [Option.some.injEq, Addr.mk.injEq, and_true] at hA'
              obtain ⟨rfl, rfl⟩ := hA'
              clear c1 c2 c3 c4 d1 d2 d3 d4
              cases hm : pq.name.toList == p.name.toList
              · have hnx : Hid (noneTo l p.name (q + 1)) := fun j r hj hr => by
                  rcases Nat.lt_or_ge j q with h | h
                  · exact hnone.out j r h hr
                  · obtain rfl : j = q := by omega
                    rw [hq'] at hr; cases hr; exact hm
                clear hq'
                go_wp2_with fail
                go_quiet (fail)
                go_wp2_with fail
                go_roundw
                case rel => exact ⟨q + 1, _, by omega, by go_num, hnx, rfl⟩
                case measure => simp [intOf]; omega
              · have hfin : Hid (Cal.holsErr l = 5) := by show _ = _; rw [hinv.out, hd.out, Cal.holsErrFrom_cons, hnz.out, hasName_of hqk hq' hm]; rfl
                clear hq'
                go_wp2_with fail
                go_quiet (fail)
                go_wp2_with fail
                go_ret
                exact ⟨ret_int hfin.out.symm, below_drewN (below_drewN hb.out _) _⟩
            · obtain rfl : q = k := by omega
              have hno := Lib.hid (noneTo_all hnone.out)
              have hb' := Lib.hid (below_drewN hb.out n)
              by_cases hp0 : Cal.holErrOf p = 0
              · have hp1 : (Cal.holErr p.kind p.month p.day p.weekday != 0) = false := by simpa [Cal.holErrOf] using hp0
                have hnx : Hid (Cal.holsErr l = Cal.holsErrFrom (l.take (q + 1)) (l.drop (q + 1))) := by show _ = _; rw [hinv.out, hd.out, Cal.holsErrFrom_cons, hnz.out, hno.out, htk.out]; simp [hp0]
                clear hp0
                go_wp2_with fail
                refine (HolidayErr_any _ _ _ _ _ _).mono ?_
                rintro e w1 ⟨rfl, hb1⟩
                have hbw := Lib.hid (below_step hb'.out hb1)
                clear hb1
                go_wp2_with fail
                go_roundw
                case rel => exact ⟨q + 1, by omega, by go_num, hnx, hbw⟩
                case measure => simp [intOf]; omega
              · have hp1 : (Cal.holErr p.kind p.month p.day p.weekday != 0) = true := by simpa [Cal.holErrOf] using hp0
                have hfin : Hid (Cal.holsErr l = Cal.holErr p.kind p.month p.day p.weekday) := by show _ = _; rw [hinv.out, hd.out, Cal.holsErrFrom_cons, hnz.out, hno.out]; simp [hp0]; rfl
                clear hp0
                go_wp2_with fail
                refine (HolidayErr_any _ _ _ _ _ _).mono ?_
                rintro e w1 ⟨rfl, hb1⟩
                have hbw := Lib.hid (below_step hb'.out hb1)
                clear hb1
                go_wp2_with fail
                go_ret
                exact ⟨ret_int hfin.out.symm, hbw.out⟩
      · obtain rfl : k = l.length := by omega
        have hfin : Hid (Cal.holsErr l = 0) := by show _ = _; rw [hinv.out, List.drop_length]; rfl
        clear hinv
        go_wp2
        go_ret
        exact ⟨ret_int hfin.out.symm, hb.out⟩
/-- A bool that bounds the list where it is true. -/
def CalOut (l : List Hol) (e : Ending) : Prop := ∃ b : Bool, e = .returned (.bool b) ∧ (b = true → l.length ≤ 60)
theorem Calendar_any (A : Option Addr) (c : Nat) (l : List Hol) (w : World) (hl : Hols w A l) :
    Calls Tryd.prog 21 #[.slice A l.length c] w fun e w' => CalOut l e ∧ w = w' := by
  have hsz := hl.size
  by_cases h1 : l.length ≤ 8 ∨ (40 < l.length ∧ l.length ≤ 60)
  · have hl' := Lib.hid hl
    have h60 : l.length ≤ 60 := by omega
    clear hl
    rcases h1 with h1 | ⟨h1, h2⟩
    all_goals
      go_enter Tryd.func21, Tryd.ntmps21
      go_wp2
      go_loop [3] (fun i => ∃ k : Nat, k ≤ l.length ∧ i = .int .i64 k) (fun i => l.length - (intOf i).toNat)
      case atStart => exact ⟨0, Nat.zero_le _, rfl⟩
      case round =>
        obtain ⟨k, hk, rfl⟩ := hrel
        by_cases hlt : k < l.length
        · have hk' : l[k]? = some l[k] := List.getElem?_eq_getElem hlt
          obtain ⟨b, o, rfl, hbl, c0, c1, c2, c3, c4⟩ := hl'.out.at_ hk'
          have hnm := hl'.out.names k _ hk'
          unfold maxLen at hnm
          clear c1 c2 c3 c4 hk'
          generalize l[k] = p at *
          by_cases hs : p.name.size ≤ 30
          · go_wp2
            go_round
            case rel => exact ⟨k + 1, by omega, by go_num⟩
            case measure => simp [intOf]; omega
          · go_wp2
            go_ret
            exact ⟨⟨false, rfl, fun h => by cases h⟩, rfl⟩
        · obtain rfl : k = l.length := by omega
          go_wp2
          go_ret
          exact ⟨⟨true, rfl, fun _ => h60⟩, rfl⟩
  · have h2 : 8 < l.length := by omega
    have h3 : l.length ≤ 40 ∨ 60 < l.length := by omega
    clear h1 hl
    rcases h3 with h3 | h3
    · go_enter Tryd.func21, Tryd.ntmps21
      go_wp2
      go_ret
      exact ⟨⟨false, rfl, fun h => by cases h⟩, rfl⟩
    · go_enter Tryd.func21, Tryd.ntmps21
      go_wp2
      go_ret
      exact ⟨⟨false, rfl, fun h => by cases h⟩, rfl⟩
end Go.Proofs.YtoigamkldccnkaaDoor
