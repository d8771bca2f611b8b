/- Chapter 8 and what it rests on: definitions and walks, part 16. -/
import Derived.Test.YtbegbajlagcbdaaGreatDoorC15
namespace Go.Proofs.YtbegbajlagcbdaaGreatDoor
open Go Go.RowKit
/-- IsWorking: whether, and the error. -/
def Cal.isWorkE (l : List Hol) (d : Int) : Int := if Cal.holsErr l = 0 then (if 0 ≤ d ∧ d ≤ 200000 then 0 else 2) else Cal.holsErr l
def Cal.isWorkB (l : List Hol) (d : Int) : Bool := if Cal.isWorkE l d = 0 then Cal.workB l d else false
theorem IsWorking_any (A : Option Addr) (c : Nat) (l : List Hol) (d : Int) (w : World) (hl : Hols w A l) (hT : Tab w) :
    Calls Tryz.prog 126 #[.slice A l.length c, .int .i64 d] w fun e w' => e = .returned (.tuple #[.bool (Cal.isWorkB l d), .int .i64 (Cal.isWorkE l d)]) ∧ Below w.heap.size w w' := by
  have hl' := Lib.hid hl
  have hT' := Lib.hid hT
  clear hl hT
  by_cases h0 : Cal.holsErr l = 0
  · have h0z := Lib.hid h0
    have h1 : (Cal.holsErr l != 0) = false := by simpa using h0
    obtain ⟨hok, hlen⟩ := Cal.holsErr_ok h0
    clear h0
    by_cases hd : 0 ≤ d ∧ d ≤ 200000
    · obtain ⟨d0, d1⟩ := hd
      have hE : Hid (Cal.isWorkE l d = 0) := by show _ = _; unfold Cal.isWorkE; rw [if_pos h0z.out, if_pos ⟨d0, d1⟩]
      have hB : Hid (Cal.isWorkB l d = Cal.worksB l d) := by show _ = _; unfold Cal.isWorkB; rw [if_pos hE.out, Cal.workB_eq hok d0 d1]
      go_enter Tryz.func126, Tryz.ntmps126
      go_wp2_with (first | (go_at_call 116; refine (CheckHolidays_any _ _ l _ hl'.out hT'.out).mono ?_; rintro e w1 ⟨rfl, hb1⟩) | (((first | (go_at_call 134) | (go_at_call 59) | (go_at_call 133) | (go_at_call 14) | (go_at_call 178) | (fail) | (go_at_call 139)); first | refine rin ?_ | refine rout ?_ | refine rany ?_)))
      refine (calendarOf_any A l.length c w1).mono ?_
      rintro e w2 ⟨rfl, hw2⟩
      have hw2' : w2 = calWorld w1 A l.length c := hw2
      clear hw2
      have hb1' := Lib.hid hb1
      clear hb1
      go_wp2_with fail
      have ha := works_any (w1.heap.size + 1) w1.heap.size A c l (holidaysOf_any A c l hok (by omega)) d d0 d1 0 0 (calWorld w1 A l.length c) (calWorld_cal w1 A c l (hl'.out.below hb1'.out) (hT'.out.below hb1'.out)) ⟨_, calWorld_map _ _ _ _, fun y v h => by cases h⟩ (by omega) (by omega)
      refine ha.mono ?_
      clear ha hw2'
      rintro e w3 ⟨rfl, hg, _⟩
      have hbb := Lib.hid (below_of_grown (below_step hb1'.out (calWorld_below w1 A l.length c)) hg hb1'.out.size)
      clear hg
      go_wp2
      go_ret2
      exact ⟨by rw [hE.out, hB.out]; rfl, hbb.out⟩
    · have hd' : d < 0 ∨ 200000 < d := by omega
      have hE : Hid (Cal.isWorkE l d = 2) := by show _ = _; unfold Cal.isWorkE; rw [if_pos h0z.out, if_neg hd]
      have hB : Hid (Cal.isWorkB l d = false) := by show _ = _; unfold Cal.isWorkB; rw [if_neg (by rw [hE.out]; decide)]
      clear hd
      go_enter Tryz.func126, Tryz.ntmps126
      go_wp2_with (first | (go_at_call 116; refine (CheckHolidays_any _ _ l _ hl'.out hT'.out).mono ?_; rintro e w1 ⟨rfl, hb1⟩) | (((first | (go_at_call 134) | (go_at_call 59) | (go_at_call 133) | (go_at_call 14) | (go_at_call 178) | (fail) | (go_at_call 139)); first | refine rin ?_ | refine rout ?_ | refine rany ?_)))
      go_ret2
      exact ⟨by rw [hE.out, hB.out]; rfl, hb1⟩
  · have h0z := Lib.hid h0
    have h1 : (Cal.holsErr l != 0) = true := by simpa using h0
    have hE : Hid (Cal.isWorkE l d = Cal.holsErr l) := by show _ = _; unfold Cal.isWorkE; rw [if_neg h0]
    have hB : Hid (Cal.isWorkB l d = false) := by show _ = _; unfold Cal.isWorkB; rw [if_neg (by rw [hE.out]; exact h0)]
    clear h0
    go_enter Tryz.func126, Tryz.ntmps126
    go_wp2_with (first | (go_at_call 116; refine (CheckHolidays_any _ _ l _ hl'.out hT'.out).mono ?_; rintro e w1 ⟨rfl, hb1⟩) | (((first | (go_at_call 134) | (go_at_call 59) | (go_at_call 133) | (go_at_call 14) | (go_at_call 178) | (fail) | (go_at_call 139)); first | refine rin ?_ | refine rout ?_ | refine rany ?_)))
    go_ret2
    exact ⟨by rw [hE.out, hB.out]; rfl, hb1⟩
theorem IsWorkingR_any (A : Option Addr) (c : Nat) (l : List Hol) (hok : Cal.HolsOk l) (d : Int) (d0 : 0 ≤ d) (d1 : d ≤ 200000) (w : World) (hl : Hols w A l) :
    Calls Tryz.prog 77 #[.slice A l.length c, .int .i64 d] w fun e w' => e = .returned (.bool (Cal.workB l d)) ∧ Below w.heap.size w w' := by
  by_cases hw : (d + 2) % 7 < 5
  · have hfin : Hid (Cal.workB l d = !Cal.anyB l d) := by show _ = _; unfold Cal.workB; simp [hw]
    go_enter Tryz.func77, Tryz.ntmps77
    go_wp2_with (first | (go_at_call 130; refine (WeekdayR_any _ (by omega) (by omega) _).mono ?_; rintro e w' ⟨rfl, rfl⟩) | (go_at_call 131; refine (anyOf_any A c l hok d d0 d1 _ hl).mono ?_; rintro e w1 ⟨rfl, hb1⟩))
    go_ret
    exact ⟨ret_bool hfin.out.symm, hb1⟩
  · have hfin : Hid (Cal.workB l d = false) := by show _ = _; unfold Cal.workB; simp [hw]
    have hw' : decide ((d + 2) % 7 < 5) = false := by simpa using hw
    go_enter Tryz.func77, Tryz.ntmps77
    go_wp2_with (first | (go_at_call 130; refine (WeekdayR_any _ (by omega) (by omega) _).mono ?_; rintro e w' ⟨rfl, rfl⟩))
    go_ret
    exact ⟨ret_bool hfin.out.symm, Below.refl _ _⟩
def AddRPost (w : World) (l : List Hol) (d n : Int) (e : Ending) (w' : World) : Prop := e = .returned (Cal.addV (Cal.addW l d n)) ∧ Below w.heap.size w w'
/-- What is left to add, behind day d. -/
def AddLeft (l : List Hol) (step : Int) (res : Option Int) (d m : Int) : Prop :=
  (1 ≤ m ∧ res = Cal.addFrom l step (stepsLeft step (d + step)) (d + step) (m - 1)) ∨ (m = 0 ∧ res = some d)
set_option maxRecDepth 100000 in
set_option maxHeartbeats 4000000 in
theorem AddWorkingR_any (A : Option Addr) (c : Nat) (l : List Hol) (hok : Cal.HolsOk l) (day n : Int) (n0 : -2000 ≤ n) (n1 : n ≤ 2000) (y0 : 0 ≤ day) (y1 : day ≤ 200000) (w : World) (hl : Hols w A l) :
    Calls Tryz.prog 234 #[.slice A l.length c, .int .i64 day, .int .i64 n] w (AddRPost w l day n) := by
  have hl' := Lib.hid hl
  clear hl
  rcases Int.lt_trichotomy n 0 with hn | hn | hn
  · have hs : Hid (AddLeft l (-1) (Cal.addW l day n) day (-n)) := .inl ⟨by omega, by unfold Cal.addW; rw [if_neg (by omega), if_pos hn]; rfl⟩
    have hne : (-n == 0) = false := by simp; omega
    go_enter Tryz.func234, Tryz.ntmps234
    go_wp2_with fail
    go_loopw [1, 2] (fun dv mv wr => ∃ (d m : Int), dv = .int .i64 d ∧ mv = .int .i64 m ∧ 0 ≤ d ∧ d ≤ 200000 ∧ 0 ≤ m ∧ m ≤ 2000 ∧ Hid (AddLeft l (-1) (Cal.addW l day n) d m) ∧ Hid (Below w.heap.size w wr)) (fun dv _ _ => stepsLeft (-1) (intOf dv))
    case atStart => exact ⟨day, -n, rfl, by go_num, y0, y1, by omega, by omega, hs, Below.refl _ _⟩
    case round =>
      obtain ⟨d, m, rfl, rfl, d0, d1, m0, m1, hleft, hb⟩ := hrel
      by_cases hm : m = 0
      · subst hm
        have hfin : Hid (Cal.addW l day n = some d) := by
          rcases hleft.out with ⟨h, _⟩ | ⟨_, h⟩
          · omega
          · exact h
        go_wp2_with fail
        go_ret2
        exact ⟨by rw [hfin.out]; rfl, hb.out⟩
      · have hm1 : 1 ≤ m := by omega
        have hres : Hid (Cal.addW l day n = Cal.addFrom l (-1) (stepsLeft (-1) (d + (-1))) (d + (-1)) (m - 1)) := by
          rcases hleft.out with ⟨_, h⟩ | ⟨h, _⟩
          · exact h
          · omega
        clear hm hleft
        by_cases hday : 0 ≤ d + (-1) ∧ d + (-1) ≤ 200000
        · obtain ⟨e0, e1⟩ := hday
          have hst : ((-1) : Int) = 1 ∨ ((-1) : Int) = -1 := by omega
          have hms := stepsLeft_succ hst (show isDayP d from ⟨d0, d1⟩)
          have hms := Lib.hid hms
          have hwe := Cal.workB_eq hok e0 e1
          have hc := IsWorkingR_any A c l hok (d + (-1)) e0 e1 wr (hl'.out.below hb.out)
          rcases (Bool.eq_false_or_eq_true (Cal.workB l (d + (-1)))).symm with hw | hw
          · have hnx : Hid (AddLeft l (-1) (Cal.addW l day n) (d + (-1)) m) := .inl ⟨hm1, by rw [hres.out, Cal.addFrom_skip hst ⟨e0, e1⟩ (by rw [hwe]; exact hw)]⟩
            rw [hw] at hc
            have hc := Lib.hid hc
            clear hw hwe hst
            go_wp2_with (((first | (go_at_call 134) | (go_at_call 59) | (go_at_call 133) | (go_at_call 14) | (go_at_call 178) | (fail) | (go_at_call 139)); first | refine rin ?_ | refine rout ?_ | refine rany ?_))
            refine hc.out.mono ?_
            clear hc
            rintro e w1 ⟨rfl, hb1⟩
            have hbw := Lib.hid (below_step hb.out hb1)
            clear hb1
            go_wp2_with fail
            go_roundw
            case rel => exact ⟨d + (-1), m, by go_num, rfl, e0, e1, m0, m1, hnx, hbw⟩
            case measure => have := hms.out; simp [intOf]; omega
          · have hnx : Hid (AddLeft l (-1) (Cal.addW l day n) (d + (-1)) (m - 1)) := by
              by_cases h1 : m = 1
              · subst h1
                right
                exact ⟨rfl, by rw [hres.out]; exact Cal.addFrom_hit hst ⟨e0, e1⟩ (by rw [hwe]; exact hw)⟩
              · left
                exact ⟨by omega, by rw [hres.out, Cal.addFrom_next hst ⟨e0, e1⟩ (by rw [hwe]; exact hw) (by omega)]⟩
            rw [hw] at hc
            have hc := Lib.hid hc
            clear hw hwe hst
            go_wp2_with (((first | (go_at_call 134) | (go_at_call 59) | (go_at_call 133) | (go_at_call 14) | (go_at_call 178) | (fail) | (go_at_call 139)); first | refine rin ?_ | refine rout ?_ | refine rany ?_))
            refine hc.out.mono ?_
            clear hc
            rintro e w1 ⟨rfl, hb1⟩
            have hbw := Lib.hid (below_step hb.out hb1)
            clear hb1
            go_wp2_with fail
            go_roundw
            case rel => exact ⟨d + (-1), m - 1, by go_num, rfl, e0, e1, by omega, by omega, hnx, hbw⟩
            case measure => have := hms.out; simp [intOf]; omega
        · have hfin : Hid (Cal.addW l day n = none) := by show _ = _; rw [hres.out]; exact Cal.addFrom_no (by unfold isDayP; exact hday)
          have hday' : d + (-1) < 0 ∨ 200000 < d + (-1) := by omega
          clear hday
          go_wp2_with (((first | (go_at_call 134) | (go_at_call 59) | (go_at_call 133) | (go_at_call 14) | (go_at_call 178) | (fail) | (go_at_call 139)); first | refine rin ?_ | refine rout ?_ | refine rany ?_))
          go_ret2
          exact ⟨by rw [hfin.out]; rfl, hb.out⟩
  · subst hn
    have hwe := Cal.workB_eq hok y0 y1
    have hc := IsWorkingR_any A c l hok day y0 y1 w hl'.out
    rcases (Bool.eq_false_or_eq_true (Cal.workB l day)).symm with hw | hw
    · obtain ⟨n, hnz⟩ : ∃ n : Int, Hid (n = 0) := ⟨0, rfl⟩
      have hs : Hid (AddLeft l 1 (Cal.addW l day n) day 1) := .inl ⟨by omega, by rw [hnz.out]; unfold Cal.addW; rw [if_pos rfl, Cal.addFrom_skip (.inl rfl) ⟨y0, y1⟩ (by rw [hwe]; exact hw)]; rfl⟩
      have hpost : AddRPost w l day 0 = AddRPost w l day n := by rw [hnz.out]
      rw [hw] at hc
      have hc := Lib.hid hc
      rw [hpost]
      clear hw hwe hpost
      go_enter Tryz.func234, Tryz.ntmps234
      go_wp2_with fail
      refine hc.out.mono ?_
      clear hc
      rintro e w1 ⟨rfl, hb1⟩
      have hbw1 := Lib.hid hb1
      clear hb1
      go_wp2_with fail
      go_loopw [1, 2] (fun dv mv wr => ∃ (d m : Int), dv = .int .i64 d ∧ mv = .int .i64 m ∧ 0 ≤ d ∧ d ≤ 200000 ∧ 0 ≤ m ∧ m ≤ 2000 ∧ Hid (AddLeft l (1) (Cal.addW l day n) d m) ∧ Hid (Below w.heap.size w wr)) (fun dv _ _ => stepsLeft (1) (intOf dv))
      case atStart => exact ⟨day, 1, rfl, rfl, y0, y1, by omega, by omega, hs, hbw1⟩
      case round =>
        obtain ⟨d, m, rfl, rfl, d0, d1, m0, m1, hleft, hb⟩ := hrel
        by_cases hm : m = 0
        · subst hm
          have hfin : Hid (Cal.addW l day n = some d) := by
            rcases hleft.out with ⟨h, _⟩ | ⟨_, h⟩
            · omega
            · exact h
          go_wp2_with fail
          go_ret2
          exact ⟨by rw [hfin.out]; rfl, hb.out⟩
        · have hm1 : 1 ≤ m := by omega
          have hres : Hid (Cal.addW l day n = Cal.addFrom l (1) (stepsLeft (1) (d + (1))) (d + (1)) (m - 1)) := by
            rcases hleft.out with ⟨_, h⟩ | ⟨h, _⟩
            · exact h
            · omega
          clear hm hleft
          by_cases hday : 0 ≤ d + (1) ∧ d + (1) ≤ 200000
          · obtain ⟨e0, e1⟩ := hday
            have hst : ((1) : Int) = 1 ∨ ((1) : Int) = -1 := by omega
            have hms := stepsLeft_succ hst (show isDayP d from ⟨d0, d1⟩)
            have hms := Lib.hid hms
            have hwe := Cal.workB_eq hok e0 e1
            have hc := IsWorkingR_any A c l hok (d + (1)) e0 e1 wr (hl'.out.below hb.out)
            rcases (Bool.eq_false_or_eq_true (Cal.workB l (d + (1)))).symm with hw | hw
            · have hnx : Hid (AddLeft l (1) (Cal.addW l day n) (d + (1)) m) := .inl ⟨hm1, by rw [hres.out, Cal.addFrom_skip hst ⟨e0, e1⟩ (by rw [hwe]; exact hw)]⟩
              rw [hw] at hc
              have hc := Lib.hid hc
              clear hw hwe hst
              go_wp2_with (((first | (go_at_call 134) | (go_at_call 59) | (go_at_call 133) | (go_at_call 14) | (go_at_call 178) | (fail) | (go_at_call 139)); first | refine rin ?_ | refine rout ?_ | refine rany ?_))
              refine hc.out.mono ?_
              clear hc
              rintro e w1 ⟨rfl, hb1⟩
              have hbw := Lib.hid (below_step hb.out hb1)
              clear hb1
              go_wp2_with fail
              go_roundw
              case rel => exact ⟨d + (1), m, by go_num, rfl, e0, e1, m0, m1, hnx, hbw⟩
              case measure => have := hms.out; simp [intOf]; omega
            · have hnx : Hid (AddLeft l (1) (Cal.addW l day n) (d + (1)) (m - 1)) := by
                by_cases h1 : m = 1
                · subst h1
                  right
                  exact ⟨rfl, by rw [hres.out]; exact Cal.addFrom_hit hst ⟨e0, e1⟩ (by rw [hwe]; exact hw)⟩
                · left
                  exact ⟨by omega, by rw [hres.out, Cal.addFrom_next hst ⟨e0, e1⟩ (by rw [hwe]; exact hw) (by omega)]⟩
              rw [hw] at hc
              have hc := Lib.hid hc
              clear hw hwe hst
              go_wp2_with (((first | (go_at_call 134) | (go_at_call 59) | (go_at_call 133) | (go_at_call 14) | (go_at_call 178) | (fail) | (go_at_call 139)); first | refine rin ?_ | refine rout ?_ | refine rany ?_))
              refine hc.out.mono ?_
              clear hc
              rintro e w1 ⟨rfl, hb1⟩
              have hbw := Lib.hid (below_step hb.out hb1)
              clear hb1
              go_wp2_with fail
              go_roundw
              case rel => exact ⟨d + (1), m - 1, by go_num, rfl, e0, e1, by omega, by omega, hnx, hbw⟩
              case measure => have := hms.out; simp [intOf]; omega
          · have hfin : Hid (Cal.addW l day n = none) := by show _ = _; rw [hres.out]; exact Cal.addFrom_no (by unfold isDayP; exact hday)
            have hday' : d + (1) < 0 ∨ 200000 < d + (1) := by omega
            clear hday
            go_wp2_with (((first | (go_at_call 134) | (go_at_call 59) | (go_at_call 133) | (go_at_call 14) | (go_at_call 178) | (fail) | (go_at_call 139)); first | refine rin ?_ | refine rout ?_ | refine rany ?_))
            go_ret2
            exact ⟨by rw [hfin.out]; rfl, hb.out⟩
    · have hfin : Hid (Cal.addW l day 0 = some day) := by show _ = _; unfold Cal.addW; rw [if_pos rfl]; exact Cal.addFrom_hit (.inl rfl) ⟨y0, y1⟩ (by rw [hwe]; exact hw)
      rw [hw] at hc
      have hc := Lib.hid hc
      clear hw hwe
      go_enter Tryz.func234, Tryz.ntmps234
      go_wp2_with fail
      refine hc.out.mono ?_
      clear hc
      rintro e w1 ⟨rfl, hb1⟩
      go_wp2
      go_ret2
      exact ⟨by rw [hfin.out]; rfl, hb1⟩
  · have hs : Hid (AddLeft l 1 (Cal.addW l day n) day n) := .inl ⟨by omega, by unfold Cal.addW; rw [if_neg (by omega), if_neg (by omega)]⟩
    have hne : (n == 0) = false := by simp; omega
    have hlo : decide (n < 0) = false := by simp; omega
    go_enter Tryz.func234, Tryz.ntmps234
    go_wp2_with fail
    go_loopw [1, 2] (fun dv mv wr => ∃ (d m : Int), dv = .int .i64 d ∧ mv = .int .i64 m ∧ 0 ≤ d ∧ d ≤ 200000 ∧ 0 ≤ m ∧ m ≤ 2000 ∧ Hid (AddLeft l (1) (Cal.addW l day n) d m) ∧ Hid (Below w.heap.size w wr)) (fun dv _ _ => stepsLeft (1) (intOf dv))
    case atStart => exact ⟨day, n, rfl, by go_num, y0, y1, by omega, by omega, hs, Below.refl _ _⟩
    case round =>
      obtain ⟨d, m, rfl, rfl, d0, d1, m0, m1, hleft, hb⟩ := hrel
      by_cases hm : m = 0
      · subst hm
        have hfin : Hid (Cal.addW l day n = some d) := by
          rcases hleft.out with ⟨h, _⟩ | ⟨_, h⟩
          · omega
          · exact h
        go_wp2_with fail
        go_ret2
        exact ⟨by rw [hfin.out]; rfl, hb.out⟩
      · have hm1 : 1 ≤ m := by omega
        have hres : Hid (Cal.addW l day n = Cal.addFrom l (1) (stepsLeft (1) (d + (1))) (d + (1)) (m - 1)) := by
          rcases hleft.out with ⟨_, h⟩ | ⟨h, _⟩
          · exact h
          · omega
        clear hm hleft
        by_cases hday : 0 ≤ d + (1) ∧ d + (1) ≤ 200000
        · obtain ⟨e0, e1⟩ := hday
          have hst : ((1) : Int) = 1 ∨ ((1) : Int) = -1 := by omega
          have hms := stepsLeft_succ hst (show isDayP d from ⟨d0, d1⟩)
          have hms := Lib.hid hms
          have hwe := Cal.workB_eq hok e0 e1
          have hc := IsWorkingR_any A c l hok (d + (1)) e0 e1 wr (hl'.out.below hb.out)
          rcases (Bool.eq_false_or_eq_true (Cal.workB l (d + (1)))).symm with hw | hw
          · have hnx : Hid (AddLeft l (1) (Cal.addW l day n) (d + (1)) m) := .inl ⟨hm1, by rw [hres.out, Cal.addFrom_skip hst ⟨e0, e1⟩ (by rw [hwe]; exact hw)]⟩
            rw [hw] at hc
            have hc := Lib.hid hc
            clear hw hwe hst
            go_wp2_with (((first | (go_at_call 134) | (go_at_call 59) | (go_at_call 133) | (go_at_call 14) | (go_at_call 178) | (fail) | (go_at_call 139)); first | refine rin ?_ | refine rout ?_ | refine rany ?_))
            refine hc.out.mono ?_
            clear hc
            rintro e w1 ⟨rfl, hb1⟩
            have hbw := Lib.hid (below_step hb.out hb1)
            clear hb1
            go_wp2_with fail
            go_roundw
            case rel => exact ⟨d + (1), m, by go_num, rfl, e0, e1, m0, m1, hnx, hbw⟩
            case measure => have := hms.out; simp [intOf]; omega
          · have hnx : Hid (AddLeft l (1) (Cal.addW l day n) (d + (1)) (m - 1)) := by
              by_cases h1 : m = 1
              · subst h1
                right
                exact ⟨rfl, by rw [hres.out]; exact Cal.addFrom_hit hst ⟨e0, e1⟩ (by rw [hwe]; exact hw)⟩
              · left
                exact ⟨by omega, by rw [hres.out, Cal.addFrom_next hst ⟨e0, e1⟩ (by rw [hwe]; exact hw) (by omega)]⟩
            rw [hw] at hc
            have hc := Lib.hid hc
            clear hw hwe hst
            go_wp2_with (((first | (go_at_call 134) | (go_at_call 59) | (go_at_call 133) | (go_at_call 14) | (go_at_call 178) | (fail) | (go_at_call 139)); first | refine rin ?_ | refine rout ?_ | refine rany ?_))
            refine hc.out.mono ?_
            clear hc
            rintro e w1 ⟨rfl, hb1⟩
            have hbw := Lib.hid (below_step hb.out hb1)
            clear hb1
            go_wp2_with fail
            go_roundw
            case rel => exact ⟨d + (1), m - 1, by go_num, rfl, e0, e1, by omega, by omega, hnx, hbw⟩
            case measure => have := hms.out; simp [intOf]; omega
        · have hfin : Hid (Cal.addW l day n = none) := by show _ = _; rw [hres.out]; exact Cal.addFrom_no (by unfold isDayP; exact hday)
          have hday' : d + (1) < 0 ∨ 200000 < d + (1) := by omega
          clear hday
          go_wp2_with (((first | (go_at_call 134) | (go_at_call 59) | (go_at_call 133) | (go_at_call 14) | (go_at_call 178) | (fail) | (go_at_call 139)); first | refine rin ?_ | refine rout ?_ | refine rany ?_))
          go_ret2
          exact ⟨by rw [hfin.out]; rfl, hb.out⟩
def AbsSome (e : Ending) : Prop := ∃ r : Int, e = .returned (.int .i64 r)
theorem Abs_pos (n : Int) (h : 0 ≤ n) (h2 : n ≤ 1000000) (w : World) : Calls Tryz.prog 149 #[.int .i64 n] w fun e w' => e = .returned (.int .i64 n) ∧ w = w' := by
  by_cases h0 : n = 0
  · subst h0
    go_enter Tryz.func149, Tryz.ntmps149
    go_wp2
    go_ret
    exact ⟨rfl, rfl⟩
  · go_enter Tryz.func149, Tryz.ntmps149
    go_wp2
    go_ret
    exact ⟨ret_int (by omega), rfl⟩
theorem Abs_neg (n : Int) (h : n < 0) (h2 : -1000000 ≤ n) (w : World) : Calls Tryz.prog 149 #[.int .i64 n] w fun e w' => e = .returned (.int .i64 (-n)) ∧ w = w' := by
  go_enter Tryz.func149, Tryz.ntmps149
  go_wp2
  go_ret
  exact ⟨ret_int (by omega), rfl⟩
theorem Abs_some (n : Int) (w : World) : Calls Tryz.prog 149 #[.int .i64 n] w fun e w' => AbsSome e ∧ w = w' := by
  go_enter Tryz.func149, Tryz.ntmps149
  go_wp2
  all_goals
    go_ret
    exact ⟨⟨_, rfl⟩, rfl⟩
end Go.Proofs.YtbegbajlagcbdaaGreatDoor
