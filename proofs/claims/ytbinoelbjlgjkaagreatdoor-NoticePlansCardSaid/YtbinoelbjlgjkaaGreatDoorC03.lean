/- Chapter 8 and what it rests on: definitions and walks, part 03. -/
import Derived.Test.YtbinoelbjlgjkaaGreatDoorC02
namespace Go.Proofs.YtbinoelbjlgjkaaGreatDoor
open Go Go.RowKit

set_option maxHeartbeats 1000000 in
theorem AddMonthsR_any (day months : Int) (y0 : 0 ≤ day) (y1 : day ≤ 200000) (m0 : -100000 ≤ months) (m1 : months ≤ 100000) (w : World) :
    Calls Tryz.prog 156 #[.int .i64 day, .int .i64 months] w fun e w' => e = .returned (.tuple #[.int .i64 (Cal.laterS day months).1, .bool (Cal.laterS day months).2]) ∧ Below w.heap.size w w' := by
  have hd := Cal.date_spec day y0 (by omega)
  obtain ⟨dy0, dy1⟩ := Cal.dY_bd day y0 y1
  obtain ⟨dm1, dm2, dd1, dd2, dd3⟩ := hd
  have dd4 := Cal.mlen_bd (Cal.dY day) (Cal.dM day)
  clear dd3
  have hno := Lib.hid (@Cal.laterS_no day months)
  have hyes := Lib.hid (@Cal.laterS_yes day months)
  have eT : Cal.laterT day months = (Cal.dY day * 12 + Cal.dM day - 1 + months) := by unfold Cal.laterT; omega
  rw [eT] at hno hyes
  clear eT
  by_cases hy1 : 1800 ≤ (Cal.dY day * 12 + Cal.dM day - 1 + months) / 12
  · by_cases hy2 : (Cal.dY day * 12 + Cal.dM day - 1 + months) / 12 ≤ 2347
    · have hfin := Lib.hid (hyes.out hy1 hy2)
      have mb := Cal.mlen_bd ((Cal.dY day * 12 + Cal.dM day - 1 + months) / 12) ((Cal.dY day * 12 + Cal.dM day - 1 + months) % 12 + 1)
      have fb := Cal.first_bd ((Cal.dY day * 12 + Cal.dM day - 1 + months) / 12) ((Cal.dY day * 12 + Cal.dM day - 1 + months) % 12 + 1) hy1 (by omega)
      by_cases hmin : Cal.mlen ((Cal.dY day * 12 + Cal.dM day - 1 + months) / 12) ((Cal.dY day * 12 + Cal.dM day - 1 + months) % 12 + 1) < Cal.dD day
      · by_cases hn : Cal.first ((Cal.dY day * 12 + Cal.dM day - 1 + months) / 12) ((Cal.dY day * 12 + Cal.dM day - 1 + months) % 12 + 1) + Cal.mlen ((Cal.dY day * 12 + Cal.dM day - 1 + months) / 12) ((Cal.dY day * 12 + Cal.dM day - 1 + months) % 12 + 1) - 1 ≤ 200000
        · go_enter Tryz.func156, Tryz.ntmps156
          go_wp2_with (first | (go_at_call 219; refine (DateOf_any day y0 y1 _).mono ?_; rintro e w1 ⟨rfl, hb1⟩) | (go_at_call 220; refine (Floor_any _ _ (by omega) (by omega) (by omega) (by omega) _).mono ?_; rintro e w' ⟨rfl, rfl⟩) | (go_at_call 221; refine (Mod_any _ _ (by omega) (by omega) _).mono ?_; rintro e w' ⟨rfl, rfl⟩) | (((first | (go_at_call 123) | (go_at_call 92) | (go_at_call 126) | (go_at_call 29) | (go_at_call 222) | (fail) | (go_at_call 127)); first | refine rin ?_ | refine rout ?_ | refine rany ?_)))
          go_quiet (first | (go_at_call 224; exact quiet_left (MonthDays_any _ _ (by omega) (by omega) (by omega) _)) | (go_at_call 223; exact quiet_left (First_any _ _ (by omega) (by omega) (by omega) (by omega) _)))
          go_wp2_with (((first | (go_at_call 123) | (go_at_call 92) | (go_at_call 126) | (go_at_call 29) | (go_at_call 222) | (fail) | (go_at_call 127)); first | refine rin ?_ | refine rout ?_ | refine rany ?_))
          go_ret2
          exact ⟨by rw [hfin.out]; exact ret_ib (by omega) (by simp; omega), below_drewN (hb1.alloc hb1.size _) _⟩
        · go_enter Tryz.func156, Tryz.ntmps156
          go_wp2_with (first | (go_at_call 219; refine (DateOf_any day y0 y1 _).mono ?_; rintro e w1 ⟨rfl, hb1⟩) | (go_at_call 220; refine (Floor_any _ _ (by omega) (by omega) (by omega) (by omega) _).mono ?_; rintro e w' ⟨rfl, rfl⟩) | (go_at_call 221; refine (Mod_any _ _ (by omega) (by omega) _).mono ?_; rintro e w' ⟨rfl, rfl⟩) | (((first | (go_at_call 123) | (go_at_call 92) | (go_at_call 126) | (go_at_call 29) | (go_at_call 222) | (fail) | (go_at_call 127)); first | refine rin ?_ | refine rout ?_ | refine rany ?_)))
          go_quiet (first | (go_at_call 224; exact quiet_left (MonthDays_any _ _ (by omega) (by omega) (by omega) _)) | (go_at_call 223; exact quiet_left (First_any _ _ (by omega) (by omega) (by omega) (by omega) _)))
          go_wp2_with (((first | (go_at_call 123) | (go_at_call 92) | (go_at_call 126) | (go_at_call 29) | (go_at_call 222) | (fail) | (go_at_call 127)); first | refine rin ?_ | refine rout ?_ | refine rany ?_))
          go_ret2
          exact ⟨by rw [hfin.out]; exact ret_ib (by omega) (by simp; omega), below_drewN (hb1.alloc hb1.size _) _⟩
      · by_cases hn : Cal.first ((Cal.dY day * 12 + Cal.dM day - 1 + months) / 12) ((Cal.dY day * 12 + Cal.dM day - 1 + months) % 12 + 1) + Cal.dD day - 1 ≤ 200000
        · go_enter Tryz.func156, Tryz.ntmps156
          go_wp2_with (first | (go_at_call 219; refine (DateOf_any day y0 y1 _).mono ?_; rintro e w1 ⟨rfl, hb1⟩) | (go_at_call 220; refine (Floor_any _ _ (by omega) (by omega) (by omega) (by omega) _).mono ?_; rintro e w' ⟨rfl, rfl⟩) | (go_at_call 221; refine (Mod_any _ _ (by omega) (by omega) _).mono ?_; rintro e w' ⟨rfl, rfl⟩) | (((first | (go_at_call 123) | (go_at_call 92) | (go_at_call 126) | (go_at_call 29) | (go_at_call 222) | (fail) | (go_at_call 127)); first | refine rin ?_ | refine rout ?_ | refine rany ?_)))
          go_quiet (first | (go_at_call 224; exact quiet_left (MonthDays_any _ _ (by omega) (by omega) (by omega) _)) | (go_at_call 223; exact quiet_left (First_any _ _ (by omega) (by omega) (by omega) (by omega) _)))
          go_wp2_with (((first | (go_at_call 123) | (go_at_call 92) | (go_at_call 126) | (go_at_call 29) | (go_at_call 222) | (fail) | (go_at_call 127)); first | refine rin ?_ | refine rout ?_ | refine rany ?_))
          go_ret2
          exact ⟨by rw [hfin.out]; exact ret_ib (by omega) (by simp; omega), below_drewN (hb1.alloc hb1.size _) _⟩
        · go_enter Tryz.func156, Tryz.ntmps156
          go_wp2_with (first | (go_at_call 219; refine (DateOf_any day y0 y1 _).mono ?_; rintro e w1 ⟨rfl, hb1⟩) | (go_at_call 220; refine (Floor_any _ _ (by omega) (by omega) (by omega) (by omega) _).mono ?_; rintro e w' ⟨rfl, rfl⟩) | (go_at_call 221; refine (Mod_any _ _ (by omega) (by omega) _).mono ?_; rintro e w' ⟨rfl, rfl⟩) | (((first | (go_at_call 123) | (go_at_call 92) | (go_at_call 126) | (go_at_call 29) | (go_at_call 222) | (fail) | (go_at_call 127)); first | refine rin ?_ | refine rout ?_ | refine rany ?_)))
          go_quiet (first | (go_at_call 224; exact quiet_left (MonthDays_any _ _ (by omega) (by omega) (by omega) _)) | (go_at_call 223; exact quiet_left (First_any _ _ (by omega) (by omega) (by omega) (by omega) _)))
          go_wp2_with (((first | (go_at_call 123) | (go_at_call 92) | (go_at_call 126) | (go_at_call 29) | (go_at_call 222) | (fail) | (go_at_call 127)); first | refine rin ?_ | refine rout ?_ | refine rany ?_))
          go_ret2
          exact ⟨by rw [hfin.out]; exact ret_ib (by omega) (by simp; omega), below_drewN (hb1.alloc hb1.size _) _⟩
    · have hfin := Lib.hid (hno.out (by omega))
      go_enter Tryz.func156, Tryz.ntmps156
      go_wp2_with (first | (go_at_call 219; refine (DateOf_any day y0 y1 _).mono ?_; rintro e w1 ⟨rfl, hb1⟩) | (go_at_call 220; refine (Floor_any _ _ (by omega) (by omega) (by omega) (by omega) _).mono ?_; rintro e w' ⟨rfl, rfl⟩) | (go_at_call 221; refine (Mod_any _ _ (by omega) (by omega) _).mono ?_; rintro e w' ⟨rfl, rfl⟩) | (((first | (go_at_call 123) | (go_at_call 92) | (go_at_call 126) | (go_at_call 29) | (go_at_call 222) | (fail) | (go_at_call 127)); first | refine rin ?_ | refine rout ?_ | refine rany ?_)))
      go_ret2
      exact ⟨by rw [hfin.out]; rfl, hb1.alloc hb1.size _⟩
  · have hfin := Lib.hid (hno.out (by omega))
    go_enter Tryz.func156, Tryz.ntmps156
    go_wp2_with (first | (go_at_call 219; refine (DateOf_any day y0 y1 _).mono ?_; rintro e w1 ⟨rfl, hb1⟩) | (go_at_call 220; refine (Floor_any _ _ (by omega) (by omega) (by omega) (by omega) _).mono ?_; rintro e w' ⟨rfl, rfl⟩) | (go_at_call 221; refine (Mod_any _ _ (by omega) (by omega) _).mono ?_; rintro e w' ⟨rfl, rfl⟩) | (((first | (go_at_call 123) | (go_at_call 92) | (go_at_call 126) | (go_at_call 29) | (go_at_call 222) | (fail) | (go_at_call 127)); first | refine rin ?_ | refine rout ?_ | refine rany ?_)))
    go_ret2
    exact ⟨by rw [hfin.out]; rfl, hb1.alloc hb1.size _⟩

/-- AddMonths: the day and the error. -/
def Cal.addS (day months : Int) : Int × Int :=
  if 0 ≤ day ∧ day ≤ 200000 ∧ -12000 ≤ months ∧ months ≤ 12000 ∧ (Cal.laterS day months).2 = true then ((Cal.laterS day months).1, 0) else (0, 2)
theorem AddMonths_any (day months : Int) (w : World) (hT : Tab w) :
    Calls Tryz.prog 210 #[.int .i64 day, .int .i64 months] w fun e w' => e = .returned (.tuple #[.int .i64 (Cal.addS day months).1, .int .i64 (Cal.addS day months).2]) ∧ Below w.heap.size w w' := by
  have hT' := Lib.hid hT; clear hT
  by_cases hy : 0 ≤ day ∧ day ≤ 200000 ∧ -12000 ≤ months ∧ months ≤ 12000
  · obtain ⟨y0, y1, m0, m1⟩ := hy
    cases hb : (Cal.laterS day months).2
    · have hfin : Hid (Cal.addS day months = (0, 2)) := by show _ = _; unfold Cal.addS; rw [if_neg (by simp [hb])]
      go_enter Tryz.func210, Tryz.ntmps210
      go_wp2_with (first | (go_at_call 273; refine (later_any _ _ y0 y1 m0 m1 _ hT'.out).mono ?_; rintro e w1 ⟨rfl, hb1⟩) | (((first | (go_at_call 123) | (go_at_call 92) | (go_at_call 126) | (go_at_call 29) | (go_at_call 222) | (fail) | (go_at_call 127)); first | refine rin ?_ | refine rout ?_ | refine rany ?_)))
      go_ret2
      exact ⟨by rw [hfin.out]; rfl, hb1⟩
    · have hfin : Hid (Cal.addS day months = ((Cal.laterS day months).1, 0)) := by show _ = _; unfold Cal.addS; rw [if_pos ⟨y0, y1, m0, m1, hb⟩]
      go_enter Tryz.func210, Tryz.ntmps210
      go_wp2_with (first | (go_at_call 273; refine (later_any _ _ y0 y1 m0 m1 _ hT'.out).mono ?_; rintro e w1 ⟨rfl, hb1⟩) | (((first | (go_at_call 123) | (go_at_call 92) | (go_at_call 126) | (go_at_call 29) | (go_at_call 222) | (fail) | (go_at_call 127)); first | refine rin ?_ | refine rout ?_ | refine rany ?_)))
      go_ret2
      exact ⟨by rw [hfin.out]; rfl, hb1⟩
  · have hfin : Hid (Cal.addS day months = (0, 2)) := by show _ = _; unfold Cal.addS; rw [if_neg (fun h => hy ⟨h.1, h.2.1, h.2.2.1, h.2.2.2.1⟩)]
    by_cases y0 : 0 ≤ day ∧ day ≤ 200000
    · obtain ⟨y0, y1⟩ := y0
      have hm : months < -12000 ∨ 12000 < months := by omega
      clear hy
      go_enter Tryz.func210, Tryz.ntmps210
      go_wp2_with (((first | (go_at_call 123) | (go_at_call 92) | (go_at_call 126) | (go_at_call 29) | (go_at_call 222) | (fail) | (go_at_call 127)); first | refine rin ?_ | refine rout ?_ | refine rany ?_))
      go_ret2
      exact ⟨by rw [hfin.out]; rfl, Below.refl _ _⟩
    · clear hy
      have y0 : day < 0 ∨ 200000 < day := by omega
      go_enter Tryz.func210, Tryz.ntmps210
      go_wp2_with (((first | (go_at_call 123) | (go_at_call 92) | (go_at_call 126) | (go_at_call 29) | (go_at_call 222) | (fail) | (go_at_call 127)); first | refine rin ?_ | refine rout ?_ | refine rany ?_))
      all_goals
        go_ret2
        exact ⟨by rw [hfin.out]; rfl, Below.refl _ _⟩

theorem weekday_any (day : Int) (y0 : -2 ≤ day) (y1 : day ≤ 1000000) (w : World) :
    Calls Tryz.prog 286 #[.int .i64 day] w fun e w' => e = .returned (.int .i64 ((day + 2) % 7)) ∧ w = w' := by
  go_enter Tryz.func286, Tryz.ntmps286
  go_wp2
  go_ret
  exact ⟨rfl, rfl⟩
theorem WeekdayR_any (day : Int) (y0 : -2 ≤ day) (y1 : day ≤ 1000000) (w : World) :
    Calls Tryz.prog 172 #[.int .i64 day] w fun e w' => e = .returned (.int .i64 ((day + 2) % 7)) ∧ w = w' := by
  go_enter Tryz.func172, Tryz.ntmps172
  go_wp2
  go_ret
  exact ⟨rfl, rfl⟩
end Go.Proofs.YtbinoelbjlgjkaaGreatDoor
namespace Go.Proofs.YtbinoelbjlgjkaaGreatDoor
open Go Go.RowKit

theorem easter_any (y : Int) (y0 : 1800 ≤ y) (y1 : y ≤ 2347) (w : World) (hT : Tab w) :
    Calls Tryz.prog 128 #[.int .i64 y] w fun e w' => e = .returned (.int .i64 (Cal.easter y)) ∧ w = w' := by
  have hT' := Lib.hid hT; clear hT
  have hE := Lib.hid (show Cal.first y (Cal.eN y / 31) + Cal.eN y % 31 = Cal.easter y from rfl)
  have bH := Cal.eH_bd y; have bL := Cal.eL_bd y; have bM := Cal.eM_bd y; have bN := Cal.eN_bd y
  have eG : (y / 100 - (y / 100 + 8) / 25 + 1) / 3 = Cal.eG y := rfl
  have eH : (19 * (y % 19) + y / 100 - y / 100 / 4 - Cal.eG y + 15) % 30 = Cal.eH y := rfl
  have eL : (32 + 2 * (y / 100 % 4) + 2 * (y % 100 / 4) - Cal.eH y - y % 4) % 7 = Cal.eL y := by rw [show y % 4 = y % 100 % 4 by omega]; rfl
  have eM : (y % 19 + 11 * Cal.eH y + 22 * Cal.eL y) / 451 = Cal.eM y := rfl
  have eN : Cal.eH y + Cal.eL y - 7 * Cal.eM y + 114 = Cal.eN y := rfl
  have bG : 0 ≤ Cal.eG y ∧ Cal.eG y ≤ 1000 := by unfold Cal.eG; omega
  generalize Cal.eG y = G at *
  generalize hH : Cal.eH y = H at *
  generalize hL : Cal.eL y = L at *
  generalize hM : Cal.eM y = M at *
  generalize hN : Cal.eN y = N at *
  have hN := Lib.hid hN
  clear hH hL hM
  go_enter Tryz.func128, Tryz.ntmps128
  go_wp2_with (go_at_call 125; refine (dayOf_any _ _ _ (by omega) (by omega) (by omega) (by omega) (by omega) (by omega) _ hT'.out).mono ?_; rintro e w' ⟨rfl, rfl⟩)
  go_ret
  exact ⟨ret_int (by rw [← hE.out]; omega), rfl⟩
theorem easterR_any (y : Int) (y0 : 1800 ≤ y) (y1 : y ≤ 2347) (w : World) :
    Calls Tryz.prog 290 #[.int .i64 y] w fun e w' => e = .returned (.int .i64 (Cal.easter y)) ∧ w = w' := by
  have hE := Lib.hid (show Cal.first y (Cal.eN y / 31) + Cal.eN y % 31 = Cal.easter y from rfl)
  have fb := Cal.first_bd y (Cal.eN y / 31) y0 (by omega)
  have bH := Cal.eH_bd y; have bL := Cal.eL_bd y; have bM := Cal.eM_bd y; have bN := Cal.eN_bd y
  have eG : (y / 100 - (y / 100 + 8) / 25 + 1) / 3 = Cal.eG y := rfl
  have eH : (19 * (y % 19) + y / 100 - y / 100 / 4 - Cal.eG y + 15) % 30 = Cal.eH y := rfl
  have eL : (32 + 2 * (y / 100 % 4) + 2 * (y % 100 / 4) - Cal.eH y - y % 4) % 7 = Cal.eL y := by rw [show y % 4 = y % 100 % 4 by omega]; rfl
  have eM : (y % 19 + 11 * Cal.eH y + 22 * Cal.eL y) / 451 = Cal.eM y := rfl
  have eN : Cal.eH y + Cal.eL y - 7 * Cal.eM y + 114 = Cal.eN y := rfl
  have bG : 0 ≤ Cal.eG y ∧ Cal.eG y ≤ 1000 := by unfold Cal.eG; omega
  generalize Cal.eG y = G at *
  generalize hH : Cal.eH y = H at *
  generalize hL : Cal.eL y = L at *
  generalize hM : Cal.eM y = M at *
  generalize hN : Cal.eN y = N at *
  have hN := Lib.hid hN
  clear hH hL hM
  go_enter Tryz.func290, Tryz.ntmps290
  go_wp2_with (go_at_call 223; refine (First_any _ _ (by omega) (by omega) (by omega) (by omega) _).mono ?_; rintro e w' ⟨rfl, rfl⟩)
  go_ret
  exact ⟨ret_int (by rw [← hE.out]), rfl⟩
theorem Easter_any (y : Int) (y0 : 1800 ≤ y) (y1 : y ≤ 2346) (w : World) (hT : Tab w) :
    Calls Tryz.prog 63 #[.int .i64 y] w fun e w' => e = .returned (.tuple #[.int .i64 (Cal.easter y), .int .i64 0]) ∧ w = w' := by
  have hT' := Lib.hid hT; clear hT
  go_enter Tryz.func63, Tryz.ntmps63
  go_wp2_with (first | (go_at_call 128; refine (easter_any _ (by omega) (by omega) _ hT'.out).mono ?_; rintro e w' ⟨rfl, rfl⟩) | (((first | (go_at_call 123) | (go_at_call 92) | (go_at_call 126) | (go_at_call 29) | (go_at_call 222) | (fail) | (go_at_call 127)); first | refine rin ?_ | refine rout ?_ | refine rany ?_)))
  go_ret2
  exact ⟨rfl, rfl⟩
theorem Easter_no (y : Int) (y0 : y < 1800 ∨ 2346 < y) (w : World) :
    Calls Tryz.prog 63 #[.int .i64 y] w fun e w' => e = .returned (.tuple #[.int .i64 0, .int .i64 2]) ∧ w = w' := by
  go_enter Tryz.func63, Tryz.ntmps63
  go_wp2_with (((first | (go_at_call 123) | (go_at_call 92) | (go_at_call 126) | (go_at_call 29) | (go_at_call 222) | (fail) | (go_at_call 127)); first | refine rin ?_ | refine rout ?_ | refine rany ?_))
  go_ret2
  exact ⟨rfl, rfl⟩
end Go.Proofs.YtbinoelbjlgjkaaGreatDoor
namespace Go.Proofs.YtbinoelbjlgjkaaGreatDoor
open Go Go.RowKit

/-- The byte at a place, as a number. -/
def byteAt (s : ByteArray) (j : Nat) : Int := if h : j < s.size then (s[j].toNat : Int) else 0
theorem byteAt_eq {s : ByteArray} {j : Nat} (h : j < s.size) : byteAt s j = (s[j].toNat : Int) := by unfold byteAt; rw [dif_pos h]
def okAt (s : ByteArray) (j : Nat) : Bool := decide (97 ≤ byteAt s j ∧ byteAt s j ≤ 122) || decide (65 ≤ byteAt s j ∧ byteAt s j ≤ 90) || (decide (j ≠ 0) && (decide (byteAt s j = 45) || decide (48 ≤ byteAt s j ∧ byteAt s j ≤ 57)))
/-- Is a text a name? -/
def nameB (s : ByteArray) : Bool := decide (1 ≤ s.size ∧ s.size ≤ 12 ∧ ∀ j, j < s.size → okAt s j = true)
def okTo (s : ByteArray) (k : Nat) : Prop := ∀ j, j < k → okAt s j = true
theorem okTo_zero (s : ByteArray) : okTo s 0 := fun j h => by omega
theorem okTo_succ {s : ByteArray} {k : Nat} (h : okTo s k) (h2 : okAt s k = true) : okTo s (k + 1) := fun j hj => by
  rcases Nat.lt_or_ge j k with h3 | h3
  · exact h j h3
  · obtain rfl : j = k := by omega
    exact h2
theorem nameB_yes {s : ByteArray} (h1 : 1 ≤ s.size) (h2 : s.size ≤ 12) (h : okTo s s.size) : nameB s = true := by unfold nameB; simp; exact ⟨h1, h2, h⟩
theorem nameB_no {s : ByteArray} {k : Nat} (h : k < s.size) (h2 : okAt s k = false) : nameB s = false := by
  unfold nameB; rw [decide_eq_false_iff_not]; rintro ⟨_, _, h3⟩; rw [h3 k h] at h2; cases h2
theorem nameB_size {s : ByteArray} (h : s.size < 1 ∨ 12 < s.size) : nameB s = false := by
  unfold nameB; rw [decide_eq_false_iff_not]; rintro ⟨_, _, _⟩; omega
theorem isEmpty_yes {s : ByteArray} (h : s.size = 0) : s.toList.isEmpty = true := by rw [ByteArray.toList_eq]; simpa using Array.eq_empty_of_size_eq_zero h
theorem isEmpty_no {s : ByteArray} (h : 1 ≤ s.size) : s.toList.isEmpty = false := by
  rw [ByteArray.toList_eq]
  cases hh : s.data.toList with
  | nil => have : s.size = 0 := by have := congrArg List.length hh; simpa using this
           omega
  | cons a l => rfl
set_option maxHeartbeats 2000000 in
theorem isName_any (s : ByteArray) (w : World) (hs : s.size ≤ maxLen) :
    Calls Tryz.prog 177 #[.string s] w fun e w' => e = .returned (.bool (nameB s)) ∧ w = w' := by
  unfold maxLen at hs
  by_cases h0 : s.size = 0
  · have hfin := Lib.hid (nameB_size (s := s) (by omega))
    have he := isEmpty_yes h0
    have he2 : s.toList = [] := by simpa using he
    clear h0
    go_enter Tryz.func177, Tryz.ntmps177
    go_wp2
    go_ret
    exact ⟨ret_bool hfin.out.symm, rfl⟩
  have h1 : 1 ≤ s.size := by omega
  have he := isEmpty_no h1
  have he2 : ¬ s.toList = [] := by intro h; rw [h] at he; cases he
  clear h0
  by_cases h12 : s.size ≤ 12
  · have hok := okTo_zero s
    go_enter Tryz.func177, Tryz.ntmps177
    go_wp2
    go_loop [15] (fun i => ∃ k : Nat, k ≤ s.size ∧ i = .int .i64 k ∧ okTo s k) (fun i => s.size - (intOf i).toNat)
    case atStart => exact ⟨0, Nat.zero_le _, rfl, hok⟩
    case round =>
      obtain ⟨k, hk, rfl, hok2⟩ := hrel
      clear hok
      by_cases hlt : k < s.size
      · have hb := byteAt_eq hlt
        have hcl : (97 ≤ (s[k].toNat : Int) ∧ (s[k].toNat : Int) ≤ 122) ∨ (65 ≤ (s[k].toNat : Int) ∧ (s[k].toNat : Int) ≤ 90) ∨ (48 ≤ (s[k].toNat : Int) ∧ (s[k].toNat : Int) ≤ 57) ∨ (s[k].toNat : Int) = 45 ∨ (s[k].toNat : Int) < 45 ∨ (46 ≤ (s[k].toNat : Int) ∧ (s[k].toNat : Int) ≤ 47) ∨ (58 ≤ (s[k].toNat : Int) ∧ (s[k].toNat : Int) ≤ 64) ∨ (91 ≤ (s[k].toNat : Int) ∧ (s[k].toNat : Int) ≤ 96) ∨ 123 ≤ (s[k].toNat : Int) := by omega
        have c0 : 0 ≤ (s[k].toNat : Int) := by omega
        have hyes := Lib.hid (fun h : okAt s k = true => okTo_succ hok2 h)
        have hno := Lib.hid (fun h : okAt s k = false => nameB_no hlt h)
        by_cases hk0 : k = 0
        · subst hk0
          rcases hcl with ⟨ca, cb⟩ | ⟨ca, cb⟩ | ⟨ca, cb⟩ | ca | ca | ⟨ca, cb⟩ | ⟨ca, cb⟩ | ⟨ca, cb⟩ | ca
          all_goals first
            | (have hok : Hid (okTo s (0 + 1)) := hyes.out (by unfold okAt; rw [hb]; simp; omega)
               clear hyes hno hb
               go_wp2
               go_round
               case rel => exact ⟨1, by omega, rfl, hok.out⟩
               case measure => simp [intOf]; omega)
            | (have hfin : Hid (nameB s = false) := hno.out (by unfold okAt; rw [hb]; simp; omega)
               clear hyes hno hb
               try (have q0 : decide ((s[0].toNat : Int) ≤ 90) = false := by first | (simp; omega) | (simp; done))
               try (have q1 : decide ((s[0].toNat : Int) ≤ 122) = false := by first | (simp; omega) | (simp; done))
               try (have q2 : decide ((s[0].toNat : Int) ≤ 57) = false := by first | (simp; omega) | (simp; done))
               try (have q3 : ((s[0].toNat : Int) != 45) = true := by first | (simp; omega) | (simp; done))
               try (have q4 : ((s[0].toNat : Int) == 45) = false := by first | (simp; omega) | (simp; done))
               try (have q5 : decide (57 < (s[0].toNat : Int)) = true := by first | (simp; omega) | (simp; done))
               try (have q6 : decide (97 ≤ (s[0].toNat : Int)) = false := by first | (simp; omega) | (simp; done))
               try (have q7 : decide (65 ≤ (s[0].toNat : Int)) = false := by first | (simp; omega) | (simp; done))
               go_wp2
               go_ret
               exact ⟨ret_bool hfin.out.symm, rfl⟩)
        · have hk1 : 0 < (k : Int) := by omega
          have hk2 : ((k : Int) == 0) = false := by simp; omega
          rcases hcl with ⟨ca, cb⟩ | ⟨ca, cb⟩ | ⟨ca, cb⟩ | ca | ca | ⟨ca, cb⟩ | ⟨ca, cb⟩ | ⟨ca, cb⟩ | ca
          all_goals first
            | (have hok : Hid (okTo s (k + 1)) := hyes.out (by unfold okAt; rw [hb]; simp; omega)
               clear hyes hno hb hk0
               go_wp2
               go_round
               case rel => exact ⟨k + 1, by omega, by go_num, hok.out⟩
               case measure => simp [intOf]; omega)
            | (have hfin : Hid (nameB s = false) := hno.out (by unfold okAt; rw [hb]; simp; omega)
               clear hyes hno hb hk0
               try (have q0 : decide ((s[k].toNat : Int) ≤ 90) = false := by first | (simp; omega) | (simp; done))
               try (have q1 : decide ((s[k].toNat : Int) ≤ 122) = false := by first | (simp; omega) | (simp; done))
               try (have q2 : decide ((s[k].toNat : Int) ≤ 57) = false := by first | (simp; omega) | (simp; done))
               try (have q3 : ((s[k].toNat : Int) != 45) = true := by first | (simp; omega) | (simp; done))
               try (have q4 : ((s[k].toNat : Int) == 45) = false := by first | (simp; omega) | (simp; done))
               try (have q5 : decide (57 < (s[k].toNat : Int)) = true := by first | (simp; omega) | (simp; done))
               try (have q6 : decide (97 ≤ (s[k].toNat : Int)) = false := by first | (simp; omega) | (simp; done))
               try (have q7 : decide (65 ≤ (s[k].toNat : Int)) = false := by first | (simp; omega) | (simp; done))
               go_wp2
               go_ret
               exact ⟨ret_bool hfin.out.symm, rfl⟩)
      · obtain rfl : k = s.size := by omega
        have hfin := Lib.hid (nameB_yes h1 h12 hok2)
        go_wp2
        go_ret
        exact ⟨ret_bool hfin.out.symm, rfl⟩
  · have hfin := Lib.hid (nameB_size (s := s) (by omega))
    go_enter Tryz.func177, Tryz.ntmps177
    go_wp2
    go_ret
    exact ⟨ret_bool hfin.out.symm, rfl⟩
end Go.Proofs.YtbinoelbjlgjkaaGreatDoor
namespace Go.Proofs.YtbinoelbjlgjkaaGreatDoor
open Go Go.RowKit
set_option maxHeartbeats 2000000 in
theorem IsName_any (s : ByteArray) (w : World) (hs : s.size ≤ maxLen) :
    Calls Tryz.prog 117 #[.string s] w fun e w' => e = .returned (.bool (nameB s)) ∧ w = w' := by
  unfold maxLen at hs
  by_cases h0 : s.size < 1
  · have hfin := Lib.hid (nameB_size (s := s) (by omega))
    go_enter Tryz.func117, Tryz.ntmps117
    go_wp2
    go_ret
    exact ⟨ret_bool hfin.out.symm, rfl⟩
  have h1 : 1 ≤ s.size := by omega
  clear h0
  by_cases h12 : s.size ≤ 12
  · have hlt0 : 0 < s.size := h1
    have hb0 := byteAt_eq hlt0
    have hok := okTo_zero s
    have hyes := Lib.hid (fun h : okAt s 0 = true => okTo_succ hok h)
    have hno := Lib.hid (fun h : okAt s 0 = false => nameB_no hlt0 h)
    clear hok
    have hcl : (97 ≤ (s[0].toNat : Int) ∧ (s[0].toNat : Int) ≤ 122) ∨ (65 ≤ (s[0].toNat : Int) ∧ (s[0].toNat : Int) ≤ 90) ∨ (48 ≤ (s[0].toNat : Int) ∧ (s[0].toNat : Int) ≤ 57) ∨ (s[0].toNat : Int) = 45 ∨ (s[0].toNat : Int) < 45 ∨ (46 ≤ (s[0].toNat : Int) ∧ (s[0].toNat : Int) ≤ 47) ∨ (58 ≤ (s[0].toNat : Int) ∧ (s[0].toNat : Int) ≤ 64) ∨ (91 ≤ (s[0].toNat : Int) ∧ (s[0].toNat : Int) ≤ 96) ∨ 123 ≤ (s[0].toNat : Int) := by omega
    have c0 : 0 ≤ (s[0].toNat : Int) := by omega
    have hmain : okTo s 1 → ((97 ≤ (s[0].toNat : Int) ∧ (s[0].toNat : Int) ≤ 122) ∨ (65 ≤ (s[0].toNat : Int) ∧ (s[0].toNat : Int) ≤ 90)) → Calls Tryz.prog 117 #[.string s] w fun e w' => e = .returned (.bool (nameB s)) ∧ w = w' := by
      intro hok1 hc
      have hok1 := Lib.hid hok1
      clear hcl hyes hno hb0
      rcases hc with ⟨ca, cb⟩ | ⟨ca, cb⟩
      all_goals
        try (have q0 : decide ((s[0].toNat : Int) ≤ 90) = false := by first | (simp; omega) | (simp; done))
        try (have q1 : decide ((s[0].toNat : Int) ≤ 122) = false := by first | (simp; omega) | (simp; done))
        try (have q2 : decide ((s[0].toNat : Int) ≤ 57) = false := by first | (simp; omega) | (simp; done))
        try (have q3 : ((s[0].toNat : Int) != 45) = true := by first | (simp; omega) | (simp; done))
        try (have q4 : ((s[0].toNat : Int) == 45) = false := by first | (simp; omega) | (simp; done))
        try (have q5 : decide (97 ≤ (s[0].toNat : Int)) = false := by first | (simp; omega) | (simp; done))
        try (have q6 : decide (65 ≤ (s[0].toNat : Int)) = false := by first | (simp; omega) | (simp; done))
        try (have q7 : decide (48 ≤ (s[0].toNat : Int)) = false := by first | (simp; omega) | (simp; done))
        try (have q8 : decide ((s[0].toNat : Int) ≤ 90) = true := by first | (simp; omega) | (simp; done))
        try (have q9 : decide ((s[0].toNat : Int) ≤ 122) = true := by first | (simp; omega) | (simp; done))
        try (have q10 : decide ((s[0].toNat : Int) ≤ 57) = true := by first | (simp; omega) | (simp; done))
        go_enter Tryz.func117, Tryz.ntmps117
        go_wp2
        go_loop [3] (fun i => ∃ k : Nat, 1 ≤ k ∧ k ≤ s.size ∧ i = .int .i64 k ∧ okTo s k) (fun i => s.size - (intOf i).toNat)
        case atStart => exact ⟨1, by omega, by omega, rfl, hok1.out⟩
        case round =>
          obtain ⟨k, hk0, hk, rfl, hok2⟩ := hrel
          try clear q0
          try clear q1
          try clear q2
          try clear q3
          try clear q4
          try clear q5
          try clear q6
          try clear q7
          try clear q8
          try clear q9
          try clear q10
          clear ca cb c0
          by_cases hlt : k < s.size
          · have hb := byteAt_eq hlt
            have hcl : (97 ≤ (s[k].toNat : Int) ∧ (s[k].toNat : Int) ≤ 122) ∨ (65 ≤ (s[k].toNat : Int) ∧ (s[k].toNat : Int) ≤ 90) ∨ (48 ≤ (s[k].toNat : Int) ∧ (s[k].toNat : Int) ≤ 57) ∨ (s[k].toNat : Int) = 45 ∨ (s[k].toNat : Int) < 45 ∨ (46 ≤ (s[k].toNat : Int) ∧ (s[k].toNat : Int) ≤ 47) ∨ (58 ≤ (s[k].toNat : Int) ∧ (s[k].toNat : Int) ≤ 64) ∨ (91 ≤ (s[k].toNat : Int) ∧ (s[k].toNat : Int) ≤ 96) ∨ 123 ≤ (s[k].toNat : Int) := by omega
            have c0 : 0 ≤ (s[k].toNat : Int) := by omega
            have hyes := Lib.hid (fun h : okAt s k = true => okTo_succ hok2 h)
            have hno := Lib.hid (fun h : okAt s k = false => nameB_no hlt h)
            rcases hcl with ⟨ca, cb⟩ | ⟨ca, cb⟩ | ⟨ca, cb⟩ | ca | ca | ⟨ca, cb⟩ | ⟨ca, cb⟩ | ⟨ca, cb⟩ | ca
            all_goals first
              | (have hok : Hid (okTo s (k + 1)) := hyes.out (by unfold okAt; rw [hb]; simp; omega)
                 clear hyes hno hb
                 try (have q0 : decide ((s[k].toNat : Int) ≤ 90) = false := by first | (simp; omega) | (simp; done))
                 try (have q1 : decide ((s[k].toNat : Int) ≤ 122) = false := by first | (simp; omega) | (simp; done))
                 try (have q2 : decide ((s[k].toNat : Int) ≤ 57) = false := by first | (simp; omega) | (simp; done))
                 try (have q3 : ((s[k].toNat : Int) != 45) = true := by first | (simp; omega) | (simp; done))
                 try (have q4 : ((s[k].toNat : Int) == 45) = false := by first | (simp; omega) | (simp; done))
                 try (have q5 : decide (97 ≤ (s[k].toNat : Int)) = false := by first | (simp; omega) | (simp; done))
                 try (have q6 : decide (65 ≤ (s[k].toNat : Int)) = false := by first | (simp; omega) | (simp; done))
                 try (have q7 : decide (48 ≤ (s[k].toNat : Int)) = false := by first | (simp; omega) | (simp; done))
                 try (have q8 : decide ((s[k].toNat : Int) ≤ 90) = true := by first | (simp; omega) | (simp; done))
                 try (have q9 : decide ((s[k].toNat : Int) ≤ 122) = true := by first | (simp; omega) | (simp; done))
                 try (have q10 : decide ((s[k].toNat : Int) ≤ 57) = true := by first | (simp; omega) | (simp; done))
                 go_wp2
                 go_round
                 case rel => exact ⟨k + 1, by omega, by omega, by go_num, hok.out⟩
                 case measure => simp [intOf]; omega)
              | (have hfin : Hid (nameB s = false) := hno.out (by unfold okAt; rw [hb]; simp; omega)
                 clear hyes hno hb
                 try (have q0 : decide ((s[k].toNat : Int) ≤ 90) = false := by first | (simp; omega) | (simp; done))
                 try (have q1 : decide ((s[k].toNat : Int) ≤ 122) = false := by first | (simp; omega) | (simp; done))
                 try (have q2 : decide ((s[k].toNat : Int) ≤ 57) = false := by first | (simp; omega) | (simp; done))
                 try (have q3 : ((s[k].toNat : Int) != 45) = true := by first | (simp; omega) | (simp; done))
                 try (have q4 : ((s[k].toNat : Int) == 45) = false := by first | (simp; omega) | (simp; done))
                 try (have q5 : decide (97 ≤ (s[k].toNat : Int)) = false := by first | (simp; omega) | (simp; done))
                 try (have q6 : decide (65 ≤ (s[k].toNat : Int)) = false := by first | (simp; omega) | (simp; done))
                 try (have q7 : decide (48 ≤ (s[k].toNat : Int)) = false := by first | (simp; omega) | (simp; done))
                 try (have q8 : decide ((s[k].toNat : Int) ≤ 90) = true := by first | (simp; omega) | (simp; done))
                 try (have q9 : decide ((s[k].toNat : Int) ≤ 122) = true := by first | (simp; omega) | (simp; done))
                 try (have q10 : decide ((s[k].toNat : Int) ≤ 57) = true := by first | (simp; omega) | (simp; done))
                 go_wp2
                 go_ret
                 exact ⟨ret_bool hfin.out.symm, rfl⟩)
          · obtain rfl : k = s.size := by omega
            have hfin := Lib.hid (nameB_yes h1 h12 hok2)
            go_wp2
            go_ret
            exact ⟨ret_bool hfin.out.symm, rfl⟩
    rcases hcl with ⟨ca, cb⟩ | ⟨ca, cb⟩ | ⟨ca, cb⟩ | ca | ca | ⟨ca, cb⟩ | ⟨ca, cb⟩ | ⟨ca, cb⟩ | ca
    all_goals first
      | (have hok : okTo s (0 + 1) := hyes.out (by unfold okAt; rw [hb0]; simp; omega)
         exact hmain hok (by omega))
      | (have hfin : Hid (nameB s = false) := hno.out (by unfold okAt; rw [hb0]; simp; omega)
         clear hyes hno hb0 hmain
         try (have q0 : decide ((s[0].toNat : Int) ≤ 90) = false := by first | (simp; omega) | (simp; done))
         try (have q1 : decide ((s[0].toNat : Int) ≤ 122) = false := by first | (simp; omega) | (simp; done))
         try (have q2 : decide ((s[0].toNat : Int) ≤ 57) = false := by first | (simp; omega) | (simp; done))
         try (have q3 : ((s[0].toNat : Int) != 45) = true := by first | (simp; omega) | (simp; done))
         try (have q4 : ((s[0].toNat : Int) == 45) = false := by first | (simp; omega) | (simp; done))
         try (have q5 : decide (97 ≤ (s[0].toNat : Int)) = false := by first | (simp; omega) | (simp; done))
         try (have q6 : decide (65 ≤ (s[0].toNat : Int)) = false := by first | (simp; omega) | (simp; done))
         try (have q7 : decide (48 ≤ (s[0].toNat : Int)) = false := by first | (simp; omega) | (simp; done))
         try (have q8 : decide ((s[0].toNat : Int) ≤ 90) = true := by first | (simp; omega) | (simp; done))
         try (have q9 : decide ((s[0].toNat : Int) ≤ 122) = true := by first | (simp; omega) | (simp; done))
         try (have q10 : decide ((s[0].toNat : Int) ≤ 57) = true := by first | (simp; omega) | (simp; done))
         go_enter Tryz.func117, Tryz.ntmps117
         go_wp2
         go_ret
         exact ⟨ret_bool hfin.out.symm, rfl⟩)
  · have hfin := Lib.hid (nameB_size (s := s) (by omega))
    go_enter Tryz.func117, Tryz.ntmps117
    go_wp2
    go_ret
    exact ⟨ret_bool hfin.out.symm, rfl⟩
end Go.Proofs.YtbinoelbjlgjkaaGreatDoor
