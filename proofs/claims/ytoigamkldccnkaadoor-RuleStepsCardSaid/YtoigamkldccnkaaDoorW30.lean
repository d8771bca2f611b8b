/- The walks: Is, anyOf, HolidaysOf of the reference; HolidaysOf; Ints. -/
import Derived.Test.YtoigamkldccnkaaDoorW28
namespace Go.Proofs.YtoigamkldccnkaaDoor
open Go Go.RowKit
set_option maxHeartbeats 2000000 in
theorem Is_0 (nm : ByteArray) (month day wd d : Int) (m1 : 1 ≤ month) (m2 : month ≤ 12) (d0 : 0 ≤ d) (d1 : d ≤ 200000) (w : World) :
    Calls Tryd.prog 104 #[.agg #[.string nm, .int .i64 0, .int .i64 month, .int .i64 day, .int .i64 wd], .int .i64 d] w fun e w' => e = .returned (.bool (Cal.isB ⟨nm, 0, month, day, wd⟩ d)) ∧ Below w.heap.size w w' := by
  have hdt := fun w1 => DateOf_any d d0 d1 w1
  have hy := Cal.dY_bd d d0 d1
  have hd := Cal.date_spec d d0 (by omega)
  obtain ⟨dm1, dm2, dd1, dd2, -⟩ := hd
  have hml := Cal.mlen_bd (Cal.dY d) (Cal.dM d)
  have hei := Cal.easter_in (Cal.dY d)
  have hb1 := Cal.beg_mono hy.1
  have hb2 := Cal.beg_mono hy.2
  rw [Cal.beg_1800] at hb1
  rw [Cal.beg_2347] at hb2
  have hlp := Cal.lp_le (Cal.dY d)
  have hIs : Cal.isB ⟨nm, 0, month, day, wd⟩ d = decide (Cal.dM d = month ∧ Cal.dD d = day) := rfl
  generalize Cal.dM d = M at *
  generalize Cal.dD d = D at *
  generalize Cal.mlen (Cal.dY d) M = ML at *
  generalize Cal.easter (Cal.dY d) = ES at *
  generalize Cal.beg (Cal.dY d) = BG at *
  generalize Cal.lp (Cal.dY d) = LP at *
  generalize Cal.dY d = Y at *
  have hdt := Lib.hid hdt
  have hIs := Lib.hid hIs
  by_cases h1 : M = month
  · subst h1
    by_cases h2 : D = day
    · subst h2
      go_enter Tryd.func104, Tryd.ntmps104
      go_wp2_with fail
      refine (hdt.out _).mono ?_
      rintro e w1 ⟨rfl, hb⟩
      have hbw := Lib.hid ((below_step (below_alloc w _) hb).alloc (below_step (below_alloc w _) hb).size (.cells #[.int .i64 Y, .int .i64 M, .int .i64 D] 55))
      obtain ⟨hc, hf⟩ := bcell hb
      have hlt : w.heap.size < w1.heap.size := by have := hb.size; simp at this; omega
      have kne : w.heap.size ≠ w1.heap.size := by omega
      have kne2 : w1.heap.size ≠ w.heap.size := by omega
      clear hb hdt
      go_wp2
      go_ret
      exact ⟨ret_bool (by rw [hIs.out]; simp), hbw.out⟩
    · have h2' : (D == day) = false := by simpa using h2
      go_enter Tryd.func104, Tryd.ntmps104
      go_wp2_with fail
      refine (hdt.out _).mono ?_
      rintro e w1 ⟨rfl, hb⟩
      have hbw := Lib.hid ((below_step (below_alloc w _) hb).alloc (below_step (below_alloc w _) hb).size (.cells #[.int .i64 Y, .int .i64 M, .int .i64 D] 55))
      obtain ⟨hc, hf⟩ := bcell hb
      have hlt : w.heap.size < w1.heap.size := by have := hb.size; simp at this; omega
      have kne : w.heap.size ≠ w1.heap.size := by omega
      have kne2 : w1.heap.size ≠ w.heap.size := by omega
      clear hb hdt
      go_wp2
      go_ret
      exact ⟨ret_bool (by rw [hIs.out]; simp [h2]), hbw.out⟩
  · have h1' : (M == month) = false := by simpa using h1
    go_enter Tryd.func104, Tryd.ntmps104
    go_wp2_with fail
    refine (hdt.out _).mono ?_
    rintro e w1 ⟨rfl, hb⟩
    have hbw := Lib.hid ((below_step (below_alloc w _) hb).alloc (below_step (below_alloc w _) hb).size (.cells #[.int .i64 Y, .int .i64 M, .int .i64 D] 55))
    obtain ⟨hc, hf⟩ := bcell hb
    have hlt : w.heap.size < w1.heap.size := by have := hb.size; simp at this; omega
    have kne : w.heap.size ≠ w1.heap.size := by omega
    have kne2 : w1.heap.size ≠ w.heap.size := by omega
    clear hb hdt
    go_wp2
    go_ret
    exact ⟨ret_bool (by rw [hIs.out]; simp [h1]), hbw.out⟩
set_option maxHeartbeats 2000000 in
theorem Is_1 (nm : ByteArray) (month day wd d : Int) (k1 : -80 ≤ day) (k2 : day ≤ 240) (d0 : 0 ≤ d) (d1 : d ≤ 200000) (w : World) :
    Calls Tryd.prog 104 #[.agg #[.string nm, .int .i64 1, .int .i64 month, .int .i64 day, .int .i64 wd], .int .i64 d] w fun e w' => e = .returned (.bool (Cal.isB ⟨nm, 1, month, day, wd⟩ d)) ∧ Below w.heap.size w w' := by
  have hdt := fun w1 => DateOf_any d d0 d1 w1
  have hy := Cal.dY_bd d d0 d1
  have hd := Cal.date_spec d d0 (by omega)
  obtain ⟨dm1, dm2, dd1, dd2, -⟩ := hd
  have hml := Cal.mlen_bd (Cal.dY d) (Cal.dM d)
  have hei := Cal.easter_in (Cal.dY d)
  have hb1 := Cal.beg_mono hy.1
  have hb2 := Cal.beg_mono hy.2
  rw [Cal.beg_1800] at hb1
  rw [Cal.beg_2347] at hb2
  have hlp := Cal.lp_le (Cal.dY d)
  have hes := fun w1 => easterR_any (Cal.dY d) (by omega) (by omega) w1
  have hIs : Cal.isB ⟨nm, 1, month, day, wd⟩ d = decide (d = Cal.easter (Cal.dY d) + day) := rfl
  generalize Cal.dM d = M at *
  generalize Cal.dD d = D at *
  generalize Cal.mlen (Cal.dY d) M = ML at *
  generalize Cal.easter (Cal.dY d) = ES at *
  generalize Cal.beg (Cal.dY d) = BG at *
  generalize Cal.lp (Cal.dY d) = LP at *
  generalize Cal.dY d = Y at *
  have hdt := Lib.hid hdt
  have hIs := Lib.hid hIs
  have hes := Lib.hid hes
  go_enter Tryd.func104, Tryd.ntmps104
  go_wp2_with fail
  refine (hdt.out _).mono ?_
  rintro e w1 ⟨rfl, hb⟩
  have hbw := Lib.hid ((below_step (below_alloc w _) hb).alloc (below_step (below_alloc w _) hb).size (.cells #[.int .i64 Y, .int .i64 M, .int .i64 D] 55))
  obtain ⟨hc, hf⟩ := bcell hb
  have hlt : w.heap.size < w1.heap.size := by have := hb.size; simp at this; omega
  have kne : w.heap.size ≠ w1.heap.size := by omega
  have kne2 : w1.heap.size ≠ w.heap.size := by omega
  clear hb hdt
  go_wp2_with fail
  go_quiet (first | (go_at_call 38; exact quiet_left (hes.out _)))
  go_wp2
  go_ret
  exact ⟨ret_bool (by rw [hIs.out, Bool.eq_iff_iff]; simp), below_drewN hbw.out _⟩
set_option maxHeartbeats 2000000 in
theorem Is_2 (nm : ByteArray) (month day wd d : Int) (k1 : (1 ≤ day ∧ day ≤ 4) ∨ day = -1) (d0 : 0 ≤ d) (d1 : d ≤ 200000) (w : World) :
    Calls Tryd.prog 104 #[.agg #[.string nm, .int .i64 2, .int .i64 month, .int .i64 day, .int .i64 wd], .int .i64 d] w fun e w' => e = .returned (.bool (Cal.isB ⟨nm, 2, month, day, wd⟩ d)) ∧ Below w.heap.size w w' := by
  have hdt := fun w1 => DateOf_any d d0 d1 w1
  have hy := Cal.dY_bd d d0 d1
  have hd := Cal.date_spec d d0 (by omega)
  obtain ⟨dm1, dm2, dd1, dd2, -⟩ := hd
  have hml := Cal.mlen_bd (Cal.dY d) (Cal.dM d)
  have hei := Cal.easter_in (Cal.dY d)
  have hb1 := Cal.beg_mono hy.1
  have hb2 := Cal.beg_mono hy.2
  rw [Cal.beg_1800] at hb1
  rw [Cal.beg_2347] at hb2
  have hlp := Cal.lp_le (Cal.dY d)
  have hmd := fun w1 => MonthDays_any (Cal.dY d) (Cal.dM d) (by omega) dm1 dm2 w1
  have hIs : Cal.isB ⟨nm, 2, month, day, wd⟩ d = decide (Cal.dM d = month ∧ (d + 2) % 7 = wd ∧ (if day < 0 then Cal.mlen (Cal.dY d) (Cal.dM d) < Cal.dD d + 7 else (Cal.dD d - 1) / 7 = day - 1)) := rfl
  generalize Cal.dM d = M at *
  generalize Cal.dD d = D at *
  generalize Cal.mlen (Cal.dY d) M = ML at *
  generalize Cal.easter (Cal.dY d) = ES at *
  generalize Cal.beg (Cal.dY d) = BG at *
  generalize Cal.lp (Cal.dY d) = LP at *
  generalize Cal.dY d = Y at *
  have hdt := Lib.hid hdt
  have hIs := Lib.hid hIs
  have hmd := Lib.hid hmd
  by_cases h1 : M = month
  · subst h1
    have h1' : (M != M) = false := by simp
    by_cases h2 : (d + 2) % 7 = wd
    · have h2' : ((d + 2) % 7 != wd) = false := by simpa using h2
      have h2z := Lib.hid h2
      clear h2
      rcases k1 with ⟨k1, k2⟩ | rfl
      · go_enter Tryd.func104, Tryd.ntmps104
        go_wp2_with fail
        refine (hdt.out _).mono ?_
        rintro e w1 ⟨rfl, hb⟩
        have hbw := Lib.hid ((below_step (below_alloc w _) hb).alloc (below_step (below_alloc w _) hb).size (.cells #[.int .i64 Y, .int .i64 M, .int .i64 D] 55))
        obtain ⟨hc, hf⟩ := bcell hb
        have hlt : w.heap.size < w1.heap.size := by have := hb.size; simp at this; omega
        have kne : w.heap.size ≠ w1.heap.size := by omega
        have kne2 : w1.heap.size ≠ w.heap.size := by omega
        clear hb hdt
        go_wp2_with fail
        go_quiet (first | (go_at_call 49; exact quiet_left (WeekdayR_any _ (by omega) (by omega) _)))
        go_wp2
        go_ret
        exact ⟨ret_bool (by rw [hIs.out, Bool.eq_iff_iff]; simp [h2z.out, show ¬ day < 0 by omega]), below_drewN hbw.out _⟩
      · go_enter Tryd.func104, Tryd.ntmps104
        go_wp2_with fail
        refine (hdt.out _).mono ?_
        rintro e w1 ⟨rfl, hb⟩
        have hbw := Lib.hid ((below_step (below_alloc w _) hb).alloc (below_step (below_alloc w _) hb).size (.cells #[.int .i64 Y, .int .i64 M, .int .i64 D] 55))
        obtain ⟨hc, hf⟩ := bcell hb
        have hlt : w.heap.size < w1.heap.size := by have := hb.size; simp at this; omega
        have kne : w.heap.size ≠ w1.heap.size := by omega
        have kne2 : w1.heap.size ≠ w.heap.size := by omega
        clear hb hdt
        go_wp2_with fail
        go_quiet (first | (go_at_call 49; exact quiet_left (WeekdayR_any _ (by omega) (by omega) _)))
        go_wp2_with fail
        go_quiet (first | (go_at_call 47; exact quiet_add_left (hmd.out _)))
        go_wp2
        go_ret
        exact ⟨ret_bool (by rw [hIs.out, Bool.eq_iff_iff]; simp [h2z.out]), below_drewN (below_drewN hbw.out _) _⟩
    · have h2' : ((d + 2) % 7 != wd) = true := by simpa using h2
      have h2z := Lib.hid h2
      clear h2
      go_enter Tryd.func104, Tryd.ntmps104
      go_wp2_with fail
      refine (hdt.out _).mono ?_
      rintro e w1 ⟨rfl, hb⟩
      have hbw := Lib.hid ((below_step (below_alloc w _) hb).alloc (below_step (below_alloc w _) hb).size (.cells #[.int .i64 Y, .int .i64 M, .int .i64 D] 55))
      obtain ⟨hc, hf⟩ := bcell hb
      have hlt : w.heap.size < w1.heap.size := by have := hb.size; simp at this; omega
      have kne : w.heap.size ≠ w1.heap.size := by omega
      have kne2 : w1.heap.size ≠ w.heap.size := by omega
      clear hb hdt
      go_wp2_with fail
      go_quiet (first | (go_at_call 49; exact quiet_left (WeekdayR_any _ (by omega) (by omega) _)))
      go_wp2
      go_ret
      exact ⟨ret_bool (by rw [hIs.out]; simp [h2z.out]), below_drewN hbw.out _⟩
  · have h1' : (M != month) = true := by simpa using h1
    go_enter Tryd.func104, Tryd.ntmps104
    go_wp2_with fail
    refine (hdt.out _).mono ?_
    rintro e w1 ⟨rfl, hb⟩
    have hbw := Lib.hid ((below_step (below_alloc w _) hb).alloc (below_step (below_alloc w _) hb).size (.cells #[.int .i64 Y, .int .i64 M, .int .i64 D] 55))
    obtain ⟨hc, hf⟩ := bcell hb
    have hlt : w.heap.size < w1.heap.size := by have := hb.size; simp at this; omega
    have kne : w.heap.size ≠ w1.heap.size := by omega
    have kne2 : w1.heap.size ≠ w.heap.size := by omega
    clear hb hdt
    go_wp2_with fail
    go_quiet (fail)
    go_wp2
    go_ret
    exact ⟨ret_bool (by rw [hIs.out]; simp [h1]), below_drewN hbw.out _⟩
theorem Is_any (p : Hol) (hp : Cal.holErrOf p = 0) (d : Int) (d0 : 0 ≤ d) (d1 : d ≤ 200000) (w : World) :
    Calls Tryd.prog 104 #[.agg #[.string p.name, .int .i64 p.kind, .int .i64 p.month, .int .i64 p.day, .int .i64 p.weekday], .int .i64 d] w fun e w' => e = .returned (.bool (Cal.isB p d)) ∧ Below w.heap.size w w' := by
  have hc := Cal.hol_cases hp
  clear hp
  obtain ⟨nm, kind, month, day, wd⟩ := p
  simp only at hc ⊢
  rcases hc with ⟨rfl, m1, m2, k1, k2⟩ | ⟨rfl, k1, k2⟩ | ⟨rfl, m1, m2, k1, w1, w2⟩
  · exact Is_0 nm month day wd d m1 m2 d0 d1 w
  · exact Is_1 nm month day wd d k1 k2 d0 d1 w
  · exact Is_2 nm month day wd d k1 d0 d1 w
def freeTo (l : List Hol) (d : Int) (q : Nat) : Prop := ∀ (j : Nat) p, j < q → l[j]? = some p → Cal.isB p d = false
theorem freeTo_all {l : List Hol} {d : Int} (h : freeTo l d l.length) : Cal.anyB l d = false := by
  unfold Cal.anyB
  rw [List.any_eq_false]
  intro p hp
  obtain ⟨j, hj, rfl⟩ := List.getElem_of_mem hp
  simp [h j l[j] hj (List.getElem?_eq_getElem hj)]
theorem anyOf_any (A : Option Addr) (c : Nat) (l : List Hol) (hok : Cal.HolsOk l) (d : Int) (d0 : 0 ≤ d) (d1 : d ≤ 200000) (w : World) (hl : Hols w A l) :
    Calls Tryd.prog 74 #[.slice A l.length c, .int .i64 d] w fun e w' => e = .returned (.bool (Cal.anyB l d)) ∧ Below w.heap.size w w' := by
  have hsz := hl.size
  have hl' := Lib.hid hl
  have h0 : Hid (freeTo l d 0) := fun j p h _ => by omega
  clear hl
  go_enter Tryd.func74, Tryd.ntmps74
  go_wp2
  go_loopw [5] (fun i wr => ∃ q : Nat, q ≤ l.length ∧ i = .int .i64 q ∧ Hid (freeTo l d q) ∧ Hid (Below w.heap.size w wr)) (fun i _ => l.length - (intOf i).toNat)
  case atStart => exact ⟨0, Nat.zero_le _, rfl, h0, Below.refl _ _⟩
  case round =>
    obtain ⟨q, hq, rfl, hfree, hb⟩ := hrel
    clear h0
    by_cases hlt : q < l.length
    · have hq' : l[q]? = some l[q] := List.getElem?_eq_getElem hlt
      have hp := hok _ (List.getElem_mem hlt)
      obtain ⟨b, o, rfl, hbl, c0, c1, c2, c3, c4⟩ := (hl'.out.below hb.out).at_ hq'
      generalize l[q] = p at *
      have hqz := Lib.hid hq'
      clear hq'
      have hc := Is_any p hp d d0 d1 wr
      cases hb0 : Cal.isB p d
      · have hnx : Hid (freeTo l d (q + 1)) := fun j r hj hr => by
          rcases Nat.lt_or_ge j q with h | h
          · exact hfree.out j r h hr
          · obtain rfl : j = q := by omega
            rw [hqz.out] at hr; cases hr; exact hb0
        rw [hb0] at hc
        have hc := Lib.hid hc
        clear hb0
        go_wp2_with fail
        refine hc.out.mono ?_
        clear hc
        rintro e w1 ⟨rfl, hb1⟩
        have hbw := Lib.hid (below_step hb.out hb1)
        clear hb1
        go_wp2_with fail
        go_roundw
        case rel => exact ⟨q + 1, by omega, by go_num, hnx, hbw⟩
        case measure => simp [intOf]; omega
      · have hfin : Hid (Cal.anyB l d = true) := by show _ = _; unfold Cal.anyB; rw [List.any_eq_true]; exact ⟨p, List.mem_of_getElem? hqz.out, hb0⟩
        rw [hb0] at hc
        have hc := Lib.hid hc
        clear hb0
        go_wp2_with fail
        refine hc.out.mono ?_
        clear hc
        rintro e w1 ⟨rfl, hb1⟩
        have hbw := Lib.hid (below_step hb.out hb1)
        clear hb1
        go_wp2_with fail
        go_ret
        exact ⟨ret_bool hfin.out.symm, hbw.out⟩
    · obtain rfl : q = l.length := by omega
      have hfin := Lib.hid (freeTo_all hfree.out)
      go_wp2
      go_ret
      exact ⟨ret_bool hfin.out.symm, hb.out⟩
end Go.Proofs.YtoigamkldccnkaaDoor
