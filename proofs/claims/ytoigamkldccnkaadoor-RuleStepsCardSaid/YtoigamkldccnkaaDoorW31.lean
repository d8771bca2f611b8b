/- The walks: HolidaysOf, both; Ints. -/
import Derived.Test.YtoigamkldccnkaaDoorW30
namespace Go.Proofs.YtoigamkldccnkaaDoor
open Go Go.RowKit
/-- The days from a on, n of them, that are holidays. -/
def Cal.anyTo (l : List Hol) (a : Int) : Nat → List Int
  | 0 => []
  | n + 1 => Cal.anyTo l a n ++ if Cal.anyB l (a + n) = true then [a + n] else []
theorem Cal.anyTo_spec (l : List Hol) (a : Int) : ∀ n, (Cal.anyTo l a n).Pairwise (· < ·) ∧ ∀ d, d ∈ Cal.anyTo l a n ↔ a ≤ d ∧ d < a + n ∧ Cal.anyB l d = true
  | 0 => ⟨List.Pairwise.nil, fun d => ⟨fun h => by simp [Cal.anyTo] at h, fun ⟨_, _, _⟩ => by omega⟩⟩
  | n + 1 => by
    obtain ⟨h1, h2⟩ := Cal.anyTo_spec l a n
    unfold Cal.anyTo
    by_cases hb : Cal.anyB l (a + n) = true
    · rw [if_pos hb]
      refine ⟨?_, fun d => ?_⟩
      · rw [List.pairwise_append]
        refine ⟨h1, List.pairwise_singleton .., fun x hx z hz => ?_⟩
        simp only [List.mem_singleton] at hz
        have := (h2 x).1 hx
        omega
      · rw [List.mem_append, h2, List.mem_singleton]
        constructor
        · rintro (⟨a1, a2, a3⟩ | rfl)
          · exact ⟨a1, by omega, a3⟩
          · exact ⟨by omega, by omega, hb⟩
        · rintro ⟨a1, a2, a3⟩
          by_cases he : d = a + n
          · exact .inr he
          · exact .inl ⟨a1, by omega, a3⟩
    · rw [if_neg hb, List.append_nil]
      refine ⟨h1, fun d => ?_⟩
      rw [h2]
      constructor
      · rintro ⟨a1, a2, a3⟩; exact ⟨a1, by omega, a3⟩
      · rintro ⟨a1, a2, a3⟩
        refine ⟨a1, ?_, a3⟩
        by_cases he : d = a + n
        · subst he; exact absurd a3 hb
        · omega
theorem Cal.anyTo_ups {l : List Hol} (hl : Cal.HolsOk l) {y : Int} (y1 : 1800 ≤ y) (y2 : y ≤ 2346) {n : Nat} (hn : Cal.beg y + n = Cal.beg (y + 1)) : Cal.anyTo l (Cal.beg y) n = Cal.ups (Cal.hols l y) := by
  obtain ⟨h1, h2⟩ := Cal.anyTo_spec l (Cal.beg y) n
  have ht := Cal.beg_top y1 y2
  refine (Cal.ups_eq h1 fun d => ?_).symm
  rw [h2]
  constructor
  · rintro ⟨a1, a2, a3⟩
    have := (Cal.anyB_iff hl (by omega) (by omega)).1 a3
    rwa [Cal.dY_of y1 y2 a1 (by omega)] at this
  · intro hd
    obtain ⟨a1, a2⟩ := Cal.hols_in hl hd
    refine ⟨a1, by omega, (Cal.anyB_iff hl (by omega) (by omega)).2 ?_⟩
    rwa [Cal.dY_of y1 y2 a1 a2]
def HolsPost (w : World) (l : List Hol) (y : Int) (e : Ending) (w' : World) : Prop := ∃ v, e = .returned v ∧ SliceOf w' w.heap.size v (Cal.ups (Cal.hols l y)) ∧ Below w.heap.size w w'
set_option maxRecDepth 100000 in
set_option maxHeartbeats 2000000 in
theorem HolidaysOfR_any (A : Option Addr) (c : Nat) (l : List Hol) (hok : Cal.HolsOk l) (y : Int) (y1 : 1800 ≤ y) (y2 : y ≤ 2346) (w : World) (hl : Hols w A l) :
    Calls Tryd.prog 27 #[.slice A l.length c, .int .i64 y] w (HolsPost w l y) := by
  have hl' := Lib.hid hl
  have hF0 := fun w1 => First_any y 1 (by omega) (by omega) (by omega) (by omega) w1
  have hF1 := fun w1 => First_any (y + 1) 1 (by omega) (by omega) (by omega) (by omega) w1
  have hbs := Cal.beg_succ y
  have hlp := Cal.lp_01 y
  have ht := Cal.beg_top y1 y2
  simp only [Cal.first_1] at hF0 hF1
  obtain ⟨N, hN⟩ : ∃ N : Nat, Cal.beg y + N = Cal.beg (y + 1) := ⟨(Cal.beg (y + 1) - Cal.beg y).toNat, by omega⟩
  have hN2 : N ≤ 366 := by omega
  have hups := Lib.hid (Cal.anyTo_ups hok y1 y2 hN)
  have hul : (Cal.ups (Cal.hols l y)).length ≤ 366 := by
    rw [← hups.out]
    have : ∀ n, (Cal.anyTo l (Cal.beg y) n).length ≤ n := fun n => by
      induction n with
      | zero => simp [Cal.anyTo]
      | succ n ih => unfold Cal.anyTo; rw [List.length_append]; split <;> simp <;> omega
    exact Nat.le_trans (this N) hN2
  have hult := Lib.hid hul
  have hlt0 : Hid (∀ n, (Cal.anyTo l (Cal.beg y) n).length ≤ n) := fun n => by
    induction n with
    | zero => simp [Cal.anyTo]
    | succ n ih => unfold Cal.anyTo; rw [List.length_append]; split <;> simp <;> omega
  rw [← hN] at hF1
  have hF0 := Lib.hid hF0
  have hF1 := Lib.hid hF1
  have t1 := ht.1
  have t2 : Cal.beg y + N ≤ 199787 := by omega
  have h0 : Hid (IntsL w w.heap.size (.slice none 0 0) (Cal.anyTo l (Cal.beg y) 0)) := OwnL.nil _ _ _ _
  clear hl hbs hlp ht hul hN
  generalize Cal.beg y = a at *
  go_enter Tryd.func27, Tryd.ntmps27
  go_wp2_with fail
  refine (hF0.out _).mono ?_
  rintro e w' ⟨rfl, rfl⟩
  go_wp2_with fail
  go_loopw [5, 6] (fun o i wr => ∃ n : Nat, n ≤ N ∧ i = .int .i64 (a + n) ∧ Hid (IntsL wr w.heap.size o (Cal.anyTo l a n)) ∧ Hid (Below w.heap.size w wr)) (fun _ i _ => (a + N - intOf i).toNat)
  case atStart => exact ⟨0, Nat.zero_le _, by go_num, h0, Below.refl _ _⟩
  case round =>
    obtain ⟨n, hn, rfl, hown, hb⟩ := hrel
    clear h0
    have hbs := hb.out.size
    have hln := hlt0.out n
    by_cases hlt : n < N
    · have hc := anyOf_any A c l hok (a + n) (by omega) (by omega) wr (hl'.out.below hb.out)
      cases hb0 : Cal.anyB l (a + n)
      · have hnx : Hid (Cal.anyTo l a (n + 1) = Cal.anyTo l a n) := by show _ = _; conv => lhs; unfold Cal.anyTo
                                                                       rw [hb0]; simp
        rw [hb0] at hc
        have hc := Lib.hid hc
        clear hb0
        go_wp2_with fail
        refine (hF1.out _).mono ?_
        rintro e w' ⟨rfl, rfl⟩
        go_wp2_with fail
        refine hc.out.mono ?_
        clear hc
        rintro e w1 ⟨rfl, hb1⟩
        have hbw := Lib.hid (below_step hb.out hb1)
        have hown1 := Lib.hid (hown.out.below hb1)
        clear hb1 hown
        go_wp2_with fail
        go_roundw
        case rel => exact ⟨n + 1, by omega, by go_num, by rw [hnx.out]; exact hown1, hbw⟩
        case measure => simp [intOf]; omega
      · have hnx : Hid (Cal.anyTo l a (n + 1) = Cal.anyTo l a n ++ [a + n]) := by show _ = _; conv => lhs; unfold Cal.anyTo
                                                                                  rw [hb0]; simp
        rw [hb0] at hc
        have hc := Lib.hid hc
        clear hb0
        go_wp2_with fail
        refine (hF1.out _).mono ?_
        rintro e w' ⟨rfl, rfl⟩
        go_wp2_with fail
        refine hc.out.mono ?_
        clear hc
        rintro e w1 ⟨rfl, hb1⟩
        have hbw := Lib.hid (below_step hb.out hb1)
        have hown1 := Lib.hid (hown.out.below hb1)
        clear hb1 hown
        have hbs1 := hbw.out.size
        generalize Cal.anyTo l a n = zs at *
        go_wp2_with (at_builtin; refine wpList_append_rows elemInt rfl _ _ rfl rfl rfl (hown1.out.below (below_alloc _ _)) (rowsAt_new _ [.int .i64 (a + n)] _) rfl (intRows_wid [a + n]) (intRows_one [a + n]) (by rw [intRows_length]; simp; omega) (by decide) (by simp; omega) ?_; intro v' w2 hown2 hg2 _)
        have hb2 : Below w.heap.size w w2 := (hbw.out.alloc hbs1 _).trans (grown_below hg2 (fun g e => (OwnL.lt hown1.out g e).1) (by simp; omega))
        have hown2' : IntsL w2 w.heap.size v' (zs ++ [a + n]) := by unfold IntsL intRows; rw [List.map_append]; exact hown2
        have hb2 := Lib.hid hb2
        have hown2' := Lib.hid hown2'
        clear hown2 hg2
        go_wp2_with fail
        go_roundw
        case rel => exact ⟨n + 1, by omega, by go_num, by rw [hnx.out]; exact hown2', hb2⟩
        case measure => simp [intOf]; omega
    · obtain rfl : n = N := by omega
      go_wp2_with fail
      refine (hF1.out _).mono ?_
      rintro e w' ⟨rfl, rfl⟩
      go_wp2_with fail
      go_ret
      exact ⟨_, rfl, IntsL.slice (by rw [← hups.out]; exact hown.out) (Nat.le_trans hult.out (by decide)), hb.out⟩
/-- HolidaysOf: the error, and the days. -/
def Cal.hofE (l : List Hol) (y : Int) : Int := if Cal.holsErr l = 0 then (if 1800 ≤ y ∧ y ≤ 2346 then 0 else 2) else Cal.holsErr l
def Cal.hofL (l : List Hol) (y : Int) : List Int := if Cal.hofE l y = 0 then Cal.ups (Cal.hols l y) else []
def HofPost (w : World) (l : List Hol) (y : Int) (e : Ending) (w' : World) : Prop := ∃ v, e = .returned (.tuple #[v, .int .i64 (Cal.hofE l y)]) ∧ SliceOf w' w.heap.size v (Cal.hofL l y) ∧ Below w.heap.size w w'
theorem hofPost_err {w w' : World} {l : List Hol} {y r : Int} (h : Cal.hofE l y = r) (hr : r ≠ 0) (hb : Below w.heap.size w w') : HofPost w l y (.returned (.tuple #[.slice none 0 0, .int .i64 r])) w' := by
  have hL : Cal.hofL l y = [] := by unfold Cal.hofL; rw [if_neg (by rw [h]; exact hr)]
  exact ⟨_, by rw [h], by rw [hL]; exact ⟨none, 0, rfl, by simp, fun h => absurd rfl h⟩, hb⟩
theorem HolidaysOf_any (A : Option Addr) (c : Nat) (l : List Hol) (y : Int) (w : World) (hl : Hols w A l) (hT : Tab w) :
    Calls Tryd.prog 23 #[.slice A l.length c, .int .i64 y] w (HofPost w l y) := by
  have hl' := Lib.hid hl
  have hT' := Lib.hid hT
  clear hl hT
  by_cases h0 : Cal.holsErr l = 0
  · have h0z := Lib.hid h0
    have h1 : (Cal.holsErr l != 0) = false := by simpa using h0
    obtain ⟨hok, hlen⟩ := Cal.holsErr_ok h0
    clear h0
    by_cases hy : 1800 ≤ y ∧ y ≤ 2346
    · obtain ⟨y1, y2⟩ := hy
      have hE : Hid (Cal.hofE l y = 0) := by show _ = _; unfold Cal.hofE; rw [if_pos h0z.out, if_pos ⟨y1, y2⟩]
      have hL : Hid (Cal.hofL l y = Cal.ups (Cal.hols l y)) := by show _ = _; unfold Cal.hofL; rw [if_pos hE.out]
      go_enter Tryd.func23, Tryd.ntmps23
      go_wp2_with (first | (go_at_call 24; refine (CheckHolidays_any _ _ l _ hl'.out hT'.out).mono ?_; rintro e w1 ⟨rfl, hb1⟩) | (first | (go_at_call 78; first | (refine (calls_in (within_any _ _ _ _) ?_ ?_).mono ?_; omega; omega; rintro e w' ⟨rfl, rfl⟩) | (refine (calls_out (within_any _ _ _ _) ?_).mono ?_; omega; rintro e w' ⟨rfl, rfl⟩) | (refine (within_any _ _ _ _).mono ?_; rintro e w' ⟨rfl, rfl⟩)) | (go_at_call 29; first | (refine (calls_in (Within_any _ _ _ _) ?_ ?_).mono ?_; omega; omega; rintro e w' ⟨rfl, rfl⟩) | (refine (calls_out (Within_any _ _ _ _) ?_).mono ?_; omega; rintro e w' ⟨rfl, rfl⟩) | (refine (Within_any _ _ _ _).mono ?_; rintro e w' ⟨rfl, rfl⟩)) | (go_at_call 75; first | (refine (calls_in (isDay_any _ _) ?_ ?_).mono ?_; omega; omega; rintro e w' ⟨rfl, rfl⟩) | (refine (calls_out (isDay_any _ _) ?_).mono ?_; omega; rintro e w' ⟨rfl, rfl⟩) | (refine (isDay_any _ _).mono ?_; rintro e w' ⟨rfl, rfl⟩)) | (go_at_call 32; first | (refine (calls_in (IsDay_any _ _) ?_ ?_).mono ?_; omega; omega; rintro e w' ⟨rfl, rfl⟩) | (refine (calls_out (IsDay_any _ _) ?_).mono ?_; omega; rintro e w' ⟨rfl, rfl⟩) | (refine (IsDay_any _ _).mono ?_; rintro e w' ⟨rfl, rfl⟩)) | (go_at_call 46; first | (refine (calls_in (IsYear_any _ _) ?_ ?_).mono ?_; omega; omega; rintro e w' ⟨rfl, rfl⟩) | (refine (calls_out (IsYear_any _ _) ?_).mono ?_; omega; rintro e w' ⟨rfl, rfl⟩) | (refine (IsYear_any _ _).mono ?_; rintro e w' ⟨rfl, rfl⟩)) | (go_at_call 25; first | (refine (calls_in (IsFull_any _ _) ?_ ?_).mono ?_; omega; omega; rintro e w' ⟨rfl, rfl⟩) | (refine (calls_out (IsFull_any _ _) ?_).mono ?_; omega; rintro e w' ⟨rfl, rfl⟩) | (refine (IsFull_any _ _).mono ?_; rintro e w' ⟨rfl, rfl⟩)) | (go_at_call 69; first | (refine (calls_in (isFull_any _ _) ?_ ?_).mono ?_; omega; omega; rintro e w' ⟨rfl, rfl⟩) | (refine (calls_out (isFull_any _ _) ?_).mono ?_; omega; rintro e w' ⟨rfl, rfl⟩) | (refine (isFull_any _ _).mono ?_; rintro e w' ⟨rfl, rfl⟩))))
      refine (holidaysOf_any A c l hok (by omega) y w1 (by omega) (by omega) (hl'.out.below hb1) (hT'.out.below hb1)).mono ?_
      have hb1 := Lib.hid hb1
      rintro e w2 ⟨v, zs, rfl, hs, ha, hb2⟩
      have hz : zs = Cal.ups (Cal.hols l y) := (Cal.ups_eq ha.1 ha.2).symm
      subst hz
      have hs := Lib.hid (hs.less hb1.out.size)
      have hb2 := Lib.hid (below_step hb1.out hb2)
      clear ha
      go_wp2_with fail
      go_ret2
      exact ⟨v, by rw [hE.out]; rfl, by rw [hL.out]; exact hs.out, hb2.out⟩
    · have hy' : y < 1800 ∨ 2346 < y := by omega
      have hE : Hid (Cal.hofE l y = 2) := by show _ = _; unfold Cal.hofE; rw [if_pos h0z.out, if_neg hy]
      clear hy
      go_enter Tryd.func23, Tryd.ntmps23
      go_wp2_with (first | (go_at_call 24; refine (CheckHolidays_any _ _ l _ hl'.out hT'.out).mono ?_; rintro e w1 ⟨rfl, hb1⟩) | (first | (go_at_call 78; first | (refine (calls_in (within_any _ _ _ _) ?_ ?_).mono ?_; omega; omega; rintro e w' ⟨rfl, rfl⟩) | (refine (calls_out (within_any _ _ _ _) ?_).mono ?_; omega; rintro e w' ⟨rfl, rfl⟩) | (refine (within_any _ _ _ _).mono ?_; rintro e w' ⟨rfl, rfl⟩)) | (go_at_call 29; first | (refine (calls_in (Within_any _ _ _ _) ?_ ?_).mono ?_; omega; omega; rintro e w' ⟨rfl, rfl⟩) | (refine (calls_out (Within_any _ _ _ _) ?_).mono ?_; omega; rintro e w' ⟨rfl, rfl⟩) | (refine (Within_any _ _ _ _).mono ?_; rintro e w' ⟨rfl, rfl⟩)) | (go_at_call 75; first | (refine (calls_in (isDay_any _ _) ?_ ?_).mono ?_; omega; omega; rintro e w' ⟨rfl, rfl⟩) | (refine (calls_out (isDay_any _ _) ?_).mono ?_; omega; rintro e w' ⟨rfl, rfl⟩) | (refine (isDay_any _ _).mono ?_; rintro e w' ⟨rfl, rfl⟩)) | (go_at_call 32; first | (refine (calls_in (IsDay_any _ _) ?_ ?_).mono ?_; omega; omega; rintro e w' ⟨rfl, rfl⟩) | (refine (calls_out (IsDay_any _ _) ?_).mono ?_; omega; rintro e w' ⟨rfl, rfl⟩) | (refine (IsDay_any _ _).mono ?_; rintro e w' ⟨rfl, rfl⟩)) | (go_at_call 46; first | (refine (calls_in (IsYear_any _ _) ?_ ?_).mono ?_; omega; omega; rintro e w' ⟨rfl, rfl⟩) | (refine (calls_out (IsYear_any _ _) ?_).mono ?_; omega; rintro e w' ⟨rfl, rfl⟩) | (refine (IsYear_any _ _).mono ?_; rintro e w' ⟨rfl, rfl⟩)) | (go_at_call 25; first | (refine (calls_in (IsFull_any _ _) ?_ ?_).mono ?_; omega; omega; rintro e w' ⟨rfl, rfl⟩) | (refine (calls_out (IsFull_any _ _) ?_).mono ?_; omega; rintro e w' ⟨rfl, rfl⟩) | (refine (IsFull_any _ _).mono ?_; rintro e w' ⟨rfl, rfl⟩)) | (go_at_call 69; first | (refine (calls_in (isFull_any _ _) ?_ ?_).mono ?_; omega; omega; rintro e w' ⟨rfl, rfl⟩) | (refine (calls_out (isFull_any _ _) ?_).mono ?_; omega; rintro e w' ⟨rfl, rfl⟩) | (refine (isFull_any _ _).mono ?_; rintro e w' ⟨rfl, rfl⟩))))
      go_ret2
      exact hofPost_err hE.out (by decide) hb1
  · have h0z := Lib.hid h0
    have h1 : (Cal.holsErr l != 0) = true := by simpa using h0
    have hE : Hid (Cal.hofE l y = Cal.holsErr l) := by show _ = _; unfold Cal.hofE; rw [if_neg h0]
    clear h0
    go_enter Tryd.func23, Tryd.ntmps23
    go_wp2_with (first | (go_at_call 24; refine (CheckHolidays_any _ _ l _ hl'.out hT'.out).mono ?_; rintro e w1 ⟨rfl, hb1⟩) | (first | (go_at_call 78; first | (refine (calls_in (within_any _ _ _ _) ?_ ?_).mono ?_; omega; omega; rintro e w' ⟨rfl, rfl⟩) | (refine (calls_out (within_any _ _ _ _) ?_).mono ?_; omega; rintro e w' ⟨rfl, rfl⟩) | (refine (within_any _ _ _ _).mono ?_; rintro e w' ⟨rfl, rfl⟩)) | (go_at_call 29; first | (refine (calls_in (Within_any _ _ _ _) ?_ ?_).mono ?_; omega; omega; rintro e w' ⟨rfl, rfl⟩) | (refine (calls_out (Within_any _ _ _ _) ?_).mono ?_; omega; rintro e w' ⟨rfl, rfl⟩) | (refine (Within_any _ _ _ _).mono ?_; rintro e w' ⟨rfl, rfl⟩)) | (go_at_call 75; first | (refine (calls_in (isDay_any _ _) ?_ ?_).mono ?_; omega; omega; rintro e w' ⟨rfl, rfl⟩) | (refine (calls_out (isDay_any _ _) ?_).mono ?_; omega; rintro e w' ⟨rfl, rfl⟩) | (refine (isDay_any _ _).mono ?_; rintro e w' ⟨rfl, rfl⟩)) | (go_at_call 32; first | (refine (calls_in (IsDay_any _ _) ?_ ?_).mono ?_; omega; omega; rintro e w' ⟨rfl, rfl⟩) | (refine (calls_out (IsDay_any _ _) ?_).mono ?_; omega; rintro e w' ⟨rfl, rfl⟩) | (refine (IsDay_any _ _).mono ?_; rintro e w' ⟨rfl, rfl⟩)) | (go_at_call 46; first | (refine (calls_in (IsYear_any _ _) ?_ ?_).mono ?_; omega; omega; rintro e w' ⟨rfl, rfl⟩) | (refine (calls_out (IsYear_any _ _) ?_).mono ?_; omega; rintro e w' ⟨rfl, rfl⟩) | (refine (IsYear_any _ _).mono ?_; rintro e w' ⟨rfl, rfl⟩)) | (go_at_call 25; first | (refine (calls_in (IsFull_any _ _) ?_ ?_).mono ?_; omega; omega; rintro e w' ⟨rfl, rfl⟩) | (refine (calls_out (IsFull_any _ _) ?_).mono ?_; omega; rintro e w' ⟨rfl, rfl⟩) | (refine (IsFull_any _ _).mono ?_; rintro e w' ⟨rfl, rfl⟩)) | (go_at_call 69; first | (refine (calls_in (isFull_any _ _) ?_ ?_).mono ?_; omega; omega; rintro e w' ⟨rfl, rfl⟩) | (refine (calls_out (isFull_any _ _) ?_).mono ?_; omega; rintro e w' ⟨rfl, rfl⟩) | (refine (isFull_any _ _).mono ?_; rintro e w' ⟨rfl, rfl⟩))))
    go_ret2
    exact hofPost_err hE.out h0z.out hb1
theorem Ints_any (v u : Value) (zs : List Int) (B1 B2 : Nat) (w : World) (h1 : SliceOf w B1 v zs) (h2 : SliceOf w B2 u zs) :
    Calls Tryd.prog 26 #[v, u] w fun e w' => e = .returned (.bool true) ∧ Below w.heap.size w w' := by
  by_cases hne : zs = []
  · subst hne
    obtain ⟨A, c, rfl, _⟩ := h1
    obtain ⟨A2, c2, rfl, _⟩ := h2
    go_enter Tryd.func26, Tryd.ntmps26
    go_wp2
    go_loopw [5] (fun i wr => i = .int .i64 0 ∧ wr = w) (fun _ _ => 0)
    case atStart => exact ⟨rfl, rfl⟩
    case round =>
      obtain ⟨rfl, rfl⟩ := hrel
      go_wp2
      go_ret
      exact ⟨rfl, Below.refl _ _⟩
  · obtain ⟨g, c, rfl, hsz, hc⟩ := h1.cells hne
    obtain ⟨g2, c2, rfl, _, hc2⟩ := h2.cells hne
    have hc := Lib.hid hc
    have hc2 := Lib.hid hc2
    clear h1 h2 hne
    go_enter Tryd.func26, Tryd.ntmps26
    go_wp2
    go_loopw [5] (fun i wr => ∃ (k n : Nat), k ≤ zs.length ∧ i = .int .i64 k ∧ wr = w.drewN n) (fun i _ => zs.length - (intOf i).toNat)
    case atStart => exact ⟨0, 0, Nat.zero_le _, rfl, rfl⟩
    case round =>
      obtain ⟨k, n, hk, rfl, rfl⟩ := hrel
      by_cases hlt : k < zs.length
      · have e1 := hc.out k hlt
        have e2 := hc2.out k hlt
        generalize zs.getD k 0 = z at *
        simp only [Nat.zero_add] at e1 e2
        go_wp2_with fail
        go_quiet (fail)
        go_wp2_with fail
        go_roundw
        case rel => exact ⟨k + 1, _, by omega, by go_num, rfl⟩
        case measure => simp [intOf]; omega
      · obtain rfl : k = zs.length := by omega
        go_wp2
        go_ret
        exact ⟨rfl, below_drewN (Below.refl _ _) _⟩
end Go.Proofs.YtoigamkldccnkaaDoor
