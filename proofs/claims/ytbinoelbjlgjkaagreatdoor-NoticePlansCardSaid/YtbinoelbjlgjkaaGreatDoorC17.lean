/- Chapter 8 and what it rests on: definitions and walks, part 17. -/
import Derived.Test.YtbinoelbjlgjkaaGreatDoorC16
namespace Go.Proofs.YtbinoelbjlgjkaaGreatDoor
open Go Go.RowKit
set_option maxHeartbeats 2000000 in
theorem Is_0 (nm : ByteArray) (month day wd d : Int) (m1 : 1 ≤ month) (m2 : month ≤ 12) (d0 : 0 ≤ d) (d1 : d ≤ 200000) (w : World) :
    Calls Tryz.prog 244 #[.agg #[.string nm, .int .i64 0, .int .i64 month, .int .i64 day, .int .i64 wd], .int .i64 d] w fun e w' => e = .returned (.bool (Cal.isB ⟨nm, 0, month, day, wd⟩ d)) ∧ Below w.heap.size w w' := by
  have hdt := fun w1 => DateOf_any d d0 d1 w1
  have hy := Cal.dY_bd d d0 d1
  have hd := Cal.date_spec d d0 (by omega)
  obtain ⟨dm1, dm2, dd1, dd2, -⟩ := hd
  have hml := Cal.mlen_bd (Cal.dY d) (Cal.dM d)
  have hei := Cal.easter_in (Cal.dY d)
  have hb1 := Cal.beg_mono hy.1
  have hb2 := Cal.beg_mono hy.2
  rw [Cal.beg_1800] at hb1
  rw [Cal.beg_2347] at hb2
  have hlp := Cal.lp_le (Cal.dY d)
  have hIs : Cal.isB ⟨nm, 0, month, day, wd⟩ d = decide (Cal.dM d = month ∧ Cal.dD d = day) := rfl
  generalize Cal.dM d = M at *
  generalize Cal.dD d = D at *
  generalize Cal.mlen (Cal.dY d) M = ML at *
  generalize Cal.easter (Cal.dY d) = ES at *
  generalize Cal.beg (Cal.dY d) = BG at *
  generalize Cal.lp (Cal.dY d) = LP at *
  generalize Cal.dY d = Y at *
  have hdt := Lib.hid hdt
  have hIs := Lib.hid hIs
  by_cases h1 : M = month
  · subst h1
    by_cases h2 : D = day
    · subst h2
      go_enter Tryz.func244, Tryz.ntmps244
      go_wp2_with fail
      refine (hdt.out _).mono ?_
      rintro e w1 ⟨rfl, hb⟩
      have hbw := Lib.hid ((below_step (below_alloc w _) hb).alloc (below_step (below_alloc w _) hb).size (.cells #[.int .i64 Y, .int .i64 M, .int .i64 D] 126))
      obtain ⟨hc, hf⟩ := bcell hb
      have hlt : w.heap.size < w1.heap.size := by have := hb.size; simp at this; omega
      have kne : w.heap.size ≠ w1.heap.size := by omega
      have kne2 : w1.heap.size ≠ w.heap.size := by omega
      clear hb hdt
      go_wp2
      go_ret
      exact ⟨ret_bool (by rw [hIs.out]; simp), hbw.out⟩
    · have h2' : (D == day) = false := by simpa using h2
      go_enter Tryz.func244, Tryz.ntmps244
      go_wp2_with fail
      refine (hdt.out _).mono ?_
      rintro e w1 ⟨rfl, hb⟩
      have hbw := Lib.hid ((below_step (below_alloc w _) hb).alloc (below_step (below_alloc w _) hb).size (.cells #[.int .i64 Y, .int .i64 M, .int .i64 D] 126))
      obtain ⟨hc, hf⟩ := bcell hb
      have hlt : w.heap.size < w1.heap.size := by have := hb.size; simp at this; omega
      have kne : w.heap.size ≠ w1.heap.size := by omega
      have kne2 : w1.heap.size ≠ w.heap.size := by omega
      clear hb hdt
      go_wp2
      go_ret
      exact ⟨ret_bool (by rw [hIs.out]; simp [h2]), hbw.out⟩
  · have h1' : (M == month) = false := by simpa using h1
    go_enter Tryz.func244, Tryz.ntmps244
    go_wp2_with fail
    refine (hdt.out _).mono ?_
    rintro e w1 ⟨rfl, hb⟩
    have hbw := Lib.hid ((below_step (below_alloc w _) hb).alloc (below_step (below_alloc w _) hb).size (.cells #[.int .i64 Y, .int .i64 M, .int .i64 D] 126))
    obtain ⟨hc, hf⟩ := bcell hb
    have hlt : w.heap.size < w1.heap.size := by have := hb.size; simp at this; omega
    have kne : w.heap.size ≠ w1.heap.size := by omega
    have kne2 : w1.heap.size ≠ w.heap.size := by omega
    clear hb hdt
    go_wp2
    go_ret
    exact ⟨ret_bool (by rw [hIs.out]; simp [h1]), hbw.out⟩
set_option maxHeartbeats 2000000 in
theorem Is_1 (nm : ByteArray) (month day wd d : Int) (k1 : -80 ≤ day) (k2 : day ≤ 240) (d0 : 0 ≤ d) (d1 : d ≤ 200000) (w : World) :
    Calls Tryz.prog 244 #[.agg #[.string nm, .int .i64 1, .int .i64 month, .int .i64 day, .int .i64 wd], .int .i64 d] w fun e w' => e = .returned (.bool (Cal.isB ⟨nm, 1, month, day, wd⟩ d)) ∧ Below w.heap.size w w' := by
  have hdt := fun w1 => DateOf_any d d0 d1 w1
  have hy := Cal.dY_bd d d0 d1
  have hd := Cal.date_spec d d0 (by omega)
  obtain ⟨dm1, dm2, dd1, dd2, -⟩ := hd
  have hml := Cal.mlen_bd (Cal.dY d) (Cal.dM d)
  have hei := Cal.easter_in (Cal.dY d)
  have hb1 := Cal.beg_mono hy.1
  have hb2 := Cal.beg_mono hy.2
  rw [Cal.beg_1800] at hb1
  rw [Cal.beg_2347] at hb2
  have hlp := Cal.lp_le (Cal.dY d)
  have hes := fun w1 => easterR_any (Cal.dY d) (by omega) (by omega) w1
  have hIs : Cal.isB ⟨nm, 1, month, day, wd⟩ d = decide (d = Cal.easter (Cal.dY d) + day) := rfl
  generalize Cal.dM d = M at *
  generalize Cal.dD d = D at *
  generalize Cal.mlen (Cal.dY d) M = ML at *
  generalize Cal.easter (Cal.dY d) = ES at *
  generalize Cal.beg (Cal.dY d) = BG at *
  generalize Cal.lp (Cal.dY d) = LP at *
  generalize Cal.dY d = Y at *
  have hdt := Lib.hid hdt
  have hIs := Lib.hid hIs
  have hes := Lib.hid hes
  go_enter Tryz.func244, Tryz.ntmps244
  go_wp2_with fail
  refine (hdt.out _).mono ?_
  rintro e w1 ⟨rfl, hb⟩
  have hbw := Lib.hid ((below_step (below_alloc w _) hb).alloc (below_step (below_alloc w _) hb).size (.cells #[.int .i64 Y, .int .i64 M, .int .i64 D] 126))
  obtain ⟨hc, hf⟩ := bcell hb
  have hlt : w.heap.size < w1.heap.size := by have := hb.size; simp at this; omega
  have kne : w.heap.size ≠ w1.heap.size := by omega
  have kne2 : w1.heap.size ≠ w.heap.size := by omega
  clear hb hdt
  go_wp2_with fail
  go_quiet (first | (go_at_call 290; exact quiet_left (hes.out _)))
  go_wp2
  go_ret
  exact ⟨ret_bool (by rw [hIs.out, Bool.eq_iff_iff]; simp), below_drewN hbw.out _⟩
set_option maxHeartbeats 2000000 in
theorem Is_2 (nm : ByteArray) (month day wd d : Int) (k1 : (1 ≤ day ∧ day ≤ 4) ∨ day = -1) (d0 : 0 ≤ d) (d1 : d ≤ 200000) (w : World) :
    Calls Tryz.prog 244 #[.agg #[.string nm, .int .i64 2, .int .i64 month, .int .i64 day, .int .i64 wd], .int .i64 d] w fun e w' => e = .returned (.bool (Cal.isB ⟨nm, 2, month, day, wd⟩ d)) ∧ Below w.heap.size w w' := by
  have hdt := fun w1 => DateOf_any d d0 d1 w1
  have hy := Cal.dY_bd d d0 d1
  have hd := Cal.date_spec d d0 (by omega)
  obtain ⟨dm1, dm2, dd1, dd2, -⟩ := hd
  have hml := Cal.mlen_bd (Cal.dY d) (Cal.dM d)
  have hei := Cal.easter_in (Cal.dY d)
  have hb1 := Cal.beg_mono hy.1
  have hb2 := Cal.beg_mono hy.2
  rw [Cal.beg_1800] at hb1
  rw [Cal.beg_2347] at hb2
  have hlp := Cal.lp_le (Cal.dY d)
  have hmd := fun w1 => MonthDays_any (Cal.dY d) (Cal.dM d) (by omega) dm1 dm2 w1
  have hIs : Cal.isB ⟨nm, 2, month, day, wd⟩ d = decide (Cal.dM d = month ∧ (d + 2) % 7 = wd ∧ (if day < 0 then Cal.mlen (Cal.dY d) (Cal.dM d) < Cal.dD d + 7 else (Cal.dD d - 1) / 7 = day - 1)) := rfl
  generalize Cal.dM d = M at *
  generalize Cal.dD d = D at *
  generalize Cal.mlen (Cal.dY d) M = ML at *
  generalize Cal.easter (Cal.dY d) = ES at *
  generalize Cal.beg (Cal.dY d) = BG at *
  generalize Cal.lp (Cal.dY d) = LP at *
  generalize Cal.dY d = Y at *
  have hdt := Lib.hid hdt
  have hIs := Lib.hid hIs
  have hmd := Lib.hid hmd
  by_cases h1 : M = month
  · subst h1
    have h1' : (M != M) = false := by simp
    by_cases h2 : (d + 2) % 7 = wd
    · have h2' : ((d + 2) % 7 != wd) = false := by simpa using h2
      have h2z := Lib.hid h2
      clear h2
      rcases k1 with ⟨k1, k2⟩ | rfl
      · go_enter Tryz.func244, Tryz.ntmps244
        go_wp2_with fail
        refine (hdt.out _).mono ?_
        rintro e w1 ⟨rfl, hb⟩
        have hbw := Lib.hid ((below_step (below_alloc w _) hb).alloc (below_step (below_alloc w _) hb).size (.cells #[.int .i64 Y, .int .i64 M, .int .i64 D] 126))
        obtain ⟨hc, hf⟩ := bcell hb
        have hlt : w.heap.size < w1.heap.size := by have := hb.size; simp at this; omega
        have kne : w.heap.size ≠ w1.heap.size := by omega
        have kne2 : w1.heap.size ≠ w.heap.size := by omega
        clear hb hdt
        go_wp2_with fail
        go_quiet (first | (go_at_call 172; exact quiet_left (WeekdayR_any _ (by omega) (by omega) _)))
        go_wp2
        go_ret
        exact ⟨ret_bool (by rw [hIs.out, Bool.eq_iff_iff]; simp [h2z.out, show ¬ day < 0 by omega]), below_drewN hbw.out _⟩
      · go_enter Tryz.func244, Tryz.ntmps244
        go_wp2_with fail
        refine (hdt.out _).mono ?_
        rintro e w1 ⟨rfl, hb⟩
        have hbw := Lib.hid ((below_step (below_alloc w _) hb).alloc (below_step (below_alloc w _) hb).size (.cells #[.int .i64 Y, .int .i64 M, .int .i64 D] 126))
        obtain ⟨hc, hf⟩ := bcell hb
        have hlt : w.heap.size < w1.heap.size := by have := hb.size; simp at this; omega
        have kne : w.heap.size ≠ w1.heap.size := by omega
        have kne2 : w1.heap.size ≠ w.heap.size := by omega
        clear hb hdt
        go_wp2_with fail
        go_quiet (first | (go_at_call 172; exact quiet_left (WeekdayR_any _ (by omega) (by omega) _)))
        go_wp2_with fail
        go_quiet (first | (go_at_call 224; exact quiet_add_left (hmd.out _)))
        go_wp2
        go_ret
        exact ⟨ret_bool (by rw [hIs.out, Bool.eq_iff_iff]; simp [h2z.out]), below_drewN (below_drewN hbw.out _) _⟩
    · have h2' : ((d + 2) % 7 != wd) = true := by simpa using h2
      have h2z := Lib.hid h2
      clear h2
      go_enter Tryz.func244, Tryz.ntmps244
      go_wp2_with fail
      refine (hdt.out _).mono ?_
      rintro e w1 ⟨rfl, hb⟩
      have hbw := Lib.hid ((below_step (below_alloc w _) hb).alloc (below_step (below_alloc w _) hb).size (.cells #[.int .i64 Y, .int .i64 M, .int .i64 D] 126))
      obtain ⟨hc, hf⟩ := bcell hb
      have hlt : w.heap.size < w1.heap.size := by have := hb.size; simp at this; omega
      have kne : w.heap.size ≠ w1.heap.size := by omega
      have kne2 : w1.heap.size ≠ w.heap.size := by omega
      clear hb hdt
      go_wp2_with fail
      go_quiet (first | (go_at_call 172; exact quiet_left (WeekdayR_any _ (by omega) (by omega) _)))
      go_wp2
      go_ret
      exact ⟨ret_bool (by rw [hIs.out]; simp [h2z.out]), below_drewN hbw.out _⟩
  · have h1' : (M != month) = true := by simpa using h1
    go_enter Tryz.func244, Tryz.ntmps244
    go_wp2_with fail
    refine (hdt.out _).mono ?_
    rintro e w1 ⟨rfl, hb⟩
    have hbw := Lib.hid ((below_step (below_alloc w _) hb).alloc (below_step (below_alloc w _) hb).size (.cells #[.int .i64 Y, .int .i64 M, .int .i64 D] 126))
    obtain ⟨hc, hf⟩ := bcell hb
    have hlt : w.heap.size < w1.heap.size := by have := hb.size; simp at this; omega
    have kne : w.heap.size ≠ w1.heap.size := by omega
    have kne2 : w1.heap.size ≠ w.heap.size := by omega
    clear hb hdt
    go_wp2_with fail
    go_quiet (fail)
    go_wp2
    go_ret
    exact ⟨ret_bool (by rw [hIs.out]; simp [h1]), below_drewN hbw.out _⟩
theorem Is_any (p : Hol) (hp : Cal.holErrOf p = 0) (d : Int) (d0 : 0 ≤ d) (d1 : d ≤ 200000) (w : World) :
    Calls Tryz.prog 244 #[.agg #[.string p.name, .int .i64 p.kind, .int .i64 p.month, .int .i64 p.day, .int .i64 p.weekday], .int .i64 d] w fun e w' => e = .returned (.bool (Cal.isB p d)) ∧ Below w.heap.size w w' := by
  have hc := Cal.hol_cases hp
  clear hp
  obtain ⟨nm, kind, month, day, wd⟩ := p
  simp only at hc ⊢
  rcases hc with ⟨rfl, m1, m2, k1, k2⟩ | ⟨rfl, k1, k2⟩ | ⟨rfl, m1, m2, k1, w1, w2⟩
  · exact Is_0 nm month day wd d m1 m2 d0 d1 w
  · exact Is_1 nm month day wd d k1 k2 d0 d1 w
  · exact Is_2 nm month day wd d k1 d0 d1 w
def freeTo (l : List Hol) (d : Int) (q : Nat) : Prop := ∀ (j : Nat) p, j < q → l[j]? = some p → Cal.isB p d = false
theorem freeTo_all {l : List Hol} {d : Int} (h : freeTo l d l.length) : Cal.anyB l d = false := by
  unfold Cal.anyB
  rw [List.any_eq_false]
  intro p hp
  obtain ⟨j, hj, rfl⟩ := List.getElem_of_mem hp
  simp [h j l[j] hj (List.getElem?_eq_getElem hj)]
theorem anyOf_any (A : Option Addr) (c : Nat) (l : List Hol) (hok : Cal.HolsOk l) (d : Int) (d0 : 0 ≤ d) (d1 : d ≤ 200000) (w : World) (hl : Hols w A l) :
    Calls Tryz.prog 173 #[.slice A l.length c, .int .i64 d] w fun e w' => e = .returned (.bool (Cal.anyB l d)) ∧ Below w.heap.size w w' := by
  have hsz := hl.size
  have hl' := Lib.hid hl
  have h0 : Hid (freeTo l d 0) := fun j p h _ => by omega
  clear hl
  go_enter Tryz.func173, Tryz.ntmps173
  go_wp2
  go_loopw [5] (fun i wr => ∃ q : Nat, q ≤ l.length ∧ i = .int .i64 q ∧ Hid (freeTo l d q) ∧ Hid (Below w.heap.size w wr)) (fun i _ => l.length - (intOf i).toNat)
  case atStart => exact ⟨0, Nat.zero_le _, rfl, h0, Below.refl _ _⟩
  case round =>
    obtain ⟨q, hq, rfl, hfree, hb⟩ := hrel
    clear h0
    by_cases hlt : q < l.length
    · have hq' : l[q]? = some l[q] := List.getElem?_eq_getElem hlt
      have hp := hok _ (List.getElem_mem hlt)
      obtain ⟨b, o, rfl, hbl, c0, c1, c2, c3, c4⟩ := (hl'.out.below hb.out).at_ hq'
      generalize l[q] = p at *
      have hqz := Lib.hid hq'
      clear hq'
      have hc := Is_any p hp d d0 d1 wr
      cases hb0 : Cal.isB p d
      · have hnx : Hid (freeTo l d (q + 1)) := fun j r hj hr => by
          rcases Nat.lt_or_ge j q with h | h
          · exact hfree.out j r h hr
          · obtain rfl : j = q := by omega
            rw [hqz.out] at hr; cases hr; exact hb0
        rw [hb0] at hc
        have hc := Lib.hid hc
        clear hb0
        go_wp2_with fail
        refine hc.out.mono ?_
        clear hc
        rintro e w1 ⟨rfl, hb1⟩
        have hbw := Lib.hid (below_step hb.out hb1)
        clear hb1
        go_wp2_with fail
        go_roundw
        case rel => exact ⟨q + 1, by omega, by go_num, hnx, hbw⟩
        case measure => simp [intOf]; omega
      · have hfin : Hid (Cal.anyB l d = true) := by show _ = _; unfold Cal.anyB; rw [List.any_eq_true]; exact ⟨p, List.mem_of_getElem? hqz.out, hb0⟩
        rw [hb0] at hc
        have hc := Lib.hid hc
        clear hb0
        go_wp2_with fail
        refine hc.out.mono ?_
        clear hc
        rintro e w1 ⟨rfl, hb1⟩
        have hbw := Lib.hid (below_step hb.out hb1)
        clear hb1
        go_wp2_with fail
        go_ret
        exact ⟨ret_bool hfin.out.symm, hbw.out⟩
    · obtain rfl : q = l.length := by omega
      have hfin := Lib.hid (freeTo_all hfree.out)
      go_wp2
      go_ret
      exact ⟨ret_bool hfin.out.symm, hb.out⟩
end Go.Proofs.YtbinoelbjlgjkaaGreatDoor
namespace Go.Proofs.YtbinoelbjlgjkaaGreatDoor
open Go Go.RowKit
/-- The days from a on, n of them, that are holidays. -/
def Cal.anyTo (l : List Hol) (a : Int) : Nat → List Int
  | 0 => []
  | n + 1 => Cal.anyTo l a n ++ if Cal.anyB l (a + n) = true then [a + n] else []
theorem Cal.anyTo_spec (l : List Hol) (a : Int) : ∀ n, (Cal.anyTo l a n).Pairwise (· < ·) ∧ ∀ d, d ∈ Cal.anyTo l a n ↔ a ≤ d ∧ d < a + n ∧ Cal.anyB l d = true
  | 0 => ⟨List.Pairwise.nil, fun d => ⟨fun h => by simp [Cal.anyTo] at h, fun ⟨_, _, _⟩ => by omega⟩⟩
  | n + 1 => by
    obtain ⟨h1, h2⟩ := Cal.anyTo_spec l a n
    unfold Cal.anyTo
    by_cases hb : Cal.anyB l (a + n) = true
    · rw [if_pos hb]
      refine ⟨?_, fun d => ?_⟩
      · rw [List.pairwise_append]
        refine ⟨h1, List.pairwise_singleton .., fun x hx z hz => ?_⟩
        simp only [List.mem_singleton] at hz
        have := (h2 x).1 hx
        omega
      · rw [List.mem_append, h2, List.mem_singleton]
        constructor
        · rintro (⟨a1, a2, a3⟩ | rfl)
          · exact ⟨a1, by omega, a3⟩
          · exact ⟨by omega, by omega, hb⟩
        · rintro ⟨a1, a2, a3⟩
          by_cases he : d = a + n
          · exact .inr he
          · exact .inl ⟨a1, by omega, a3⟩
    · rw [if_neg hb, List.append_nil]
      refine ⟨h1, fun d => ?_⟩
      rw [h2]
      constructor
      · rintro ⟨a1, a2, a3⟩; exact ⟨a1, by omega, a3⟩
      · rintro ⟨a1, a2, a3⟩
        refine ⟨a1, ?_, a3⟩
        by_cases he : d = a + n
        · subst he; exact absurd a3 hb
        · omega
theorem Cal.anyTo_ups {l : List Hol} (hl : Cal.HolsOk l) {y : Int} (y1 : 1800 ≤ y) (y2 : y ≤ 2346) {n : Nat} (hn : Cal.beg y + n = Cal.beg (y + 1)) : Cal.anyTo l (Cal.beg y) n = Cal.ups (Cal.hols l y) := by
  obtain ⟨h1, h2⟩ := Cal.anyTo_spec l (Cal.beg y) n
  have ht := Cal.beg_top y1 y2
  refine (Cal.ups_eq h1 fun d => ?_).symm
  rw [h2]
  constructor
  · rintro ⟨a1, a2, a3⟩
    have := (Cal.anyB_iff hl (by omega) (by omega)).1 a3
    rwa [Cal.dY_of y1 y2 a1 (by omega)] at this
  · intro hd
    obtain ⟨a1, a2⟩ := Cal.hols_in hl hd
    refine ⟨a1, by omega, (Cal.anyB_iff hl (by omega) (by omega)).2 ?_⟩
    rwa [Cal.dY_of y1 y2 a1 a2]
def HolsPost (w : World) (l : List Hol) (y : Int) (e : Ending) (w' : World) : Prop := ∃ v, e = .returned v ∧ SliceOf w' w.heap.size v (Cal.ups (Cal.hols l y)) ∧ Below w.heap.size w w'
/-- HolidaysOf: the error, and the days. -/
def Cal.hofE (l : List Hol) (y : Int) : Int := if Cal.holsErr l = 0 then (if 1800 ≤ y ∧ y ≤ 2346 then 0 else 2) else Cal.holsErr l
def Cal.hofL (l : List Hol) (y : Int) : List Int := if Cal.hofE l y = 0 then Cal.ups (Cal.hols l y) else []
def HofPost (w : World) (l : List Hol) (y : Int) (e : Ending) (w' : World) : Prop := ∃ v, e = .returned (.tuple #[v, .int .i64 (Cal.hofE l y)]) ∧ SliceOf w' w.heap.size v (Cal.hofL l y) ∧ Below w.heap.size w w'
theorem hofPost_err {w w' : World} {l : List Hol} {y r : Int} (h : Cal.hofE l y = r) (hr : r ≠ 0) (hb : Below w.heap.size w w') : HofPost w l y (.returned (.tuple #[.slice none 0 0, .int .i64 r])) w' := by
  have hL : Cal.hofL l y = [] := by unfold Cal.hofL; rw [if_neg (by rw [h]; exact hr)]
  exact ⟨_, by rw [h], by rw [hL]; exact ⟨none, 0, rfl, by simp, fun h => absurd rfl h⟩, hb⟩
theorem Ints_any (v u : Value) (zs : List Int) (B1 B2 : Nat) (w : World) (h1 : SliceOf w B1 v zs) (h2 : SliceOf w B2 u zs) :
    Calls Tryz.prog 30 #[v, u] w fun e w' => e = .returned (.bool true) ∧ Below w.heap.size w w' := by
  by_cases hne : zs = []
  · subst hne
    obtain ⟨A, c, rfl, _⟩ := h1
    obtain ⟨A2, c2, rfl, _⟩ := h2
    go_enter Tryz.func30, Tryz.ntmps30
    go_wp2
    go_loopw [5] (fun i wr => i = .int .i64 0 ∧ wr = w) (fun _ _ => 0)
    case atStart => exact ⟨rfl, rfl⟩
    case round =>
      obtain ⟨rfl, rfl⟩ := hrel
      go_wp2
      go_ret
      exact ⟨rfl, Below.refl _ _⟩
  · obtain ⟨g, c, rfl, hsz, hc⟩ := h1.cells hne
    obtain ⟨g2, c2, rfl, _, hc2⟩ := h2.cells hne
    have hc := Lib.hid hc
    have hc2 := Lib.hid hc2
    clear h1 h2 hne
    go_enter Tryz.func30, Tryz.ntmps30
    go_wp2
    go_loopw [5] (fun i wr => ∃ (k n : Nat), k ≤ zs.length ∧ i = .int .i64 k ∧ wr = w.drewN n) (fun i _ => zs.length - (intOf i).toNat)
    case atStart => exact ⟨0, 0, Nat.zero_le _, rfl, rfl⟩
    case round =>
      obtain ⟨k, n, hk, rfl, rfl⟩ := hrel
      by_cases hlt : k < zs.length
      · have e1 := hc.out k hlt
        have e2 := hc2.out k hlt
        generalize zs.getD k 0 = z at *
        simp only [Nat.zero_add] at e1 e2
        go_wp2_with fail
        go_quiet (fail)
        go_wp2_with fail
        go_roundw
        case rel => exact ⟨k + 1, _, by omega, by go_num, rfl⟩
        case measure => simp [intOf]; omega
      · obtain rfl : k = zs.length := by omega
        go_wp2
        go_ret
        exact ⟨rfl, below_drewN (Below.refl _ _) _⟩
end Go.Proofs.YtbinoelbjlgjkaaGreatDoor
