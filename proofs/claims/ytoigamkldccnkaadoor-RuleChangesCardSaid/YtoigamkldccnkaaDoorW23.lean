/- The walks: calendarOf, AddWorking; the holidays of a year of an empty list. -/
import Derived.Test.YtoigamkldccnkaaDoorW22
namespace Go.Proofs.YtoigamkldccnkaaDoor
open Go Go.RowKit Go.Shelf
theorem calendarOf_any (A : Option Addr) (n c : Nat) (W : World) :
    Calls Tryd.prog 76 #[.slice A n c] W fun e W' => e = .returned (.pointer (some ⟨W.heap.size + 1, 0, none⟩)) ∧ W' = (W.alloc (.map #[] 0)).alloc (.cells #[.slice A n c, .map (some W.heap.size)] 127) := by
  have hmm := @run_makeMap Tryd.prog
  go_enter Tryd.func76, Tryd.ntmps76
  go_wp2
  go_ret
  exact ⟨rfl, rfl⟩
theorem holCalls_nil (A : Option Addr) (c : Nat) : HolCalls A c [] := by
  intro y W y0 y1 _ hT
  clear hT
  go_enter Tryd.func70, Tryd.ntmps70
  go_wp2
  go_loop [5, 12] (fun o i => ∃ k : Nat, k ≤ 0 ∧ i = .int .i64 k ∧ o = .slice none 0 0) (fun _ i => (intOf i).toNat)
  case atStart => exact ⟨0, Nat.le_refl _, rfl, rfl⟩
  case round =>
    obtain ⟨k, hk, rfl, rfl⟩ := hrel
    go_wp2_with fail
    refine (Tryd.slices_Sort_int_none none 0 W).mono ?_
    rintro e w' ⟨rfl, hw⟩
    subst hw
    go_wp2_with fail
    refine (Tryd.slices_Compact_int_empty none 0 _).mono ?_
    rintro e w' ⟨rfl, hw⟩
    subst hw
    go_wp2
    go_ret
    exact ⟨.slice none 0 0, [], rfl, ⟨none, 0, rfl, by simp, fun h => absurd rfl h⟩, ⟨List.Pairwise.nil, fun d => by simp [Cal.hols]⟩, Below.refl _ _⟩
def Cal.addWorkingS (l : List Hol) (day n : Int) : Int × Int :=
  if Cal.holsErr l = 0 then (if 0 ≤ day ∧ day ≤ 200000 ∧ -2000 ≤ n ∧ n ≤ 2000 then (match Cal.addW l day n with | some x => (x, 0) | none => (0, 2)) else (0, 2)) else (0, Cal.holsErr l)
theorem cell_alloc_at (W : World) (cs : Array Value) (t : TypeId) (j : Nat) : (W.alloc (.cells cs t)).cell? ⟨W.heap.size, j, none⟩ = cs[j]? :=
  cell_of_row _ _ _ cs t (0, 0) (World.alloc_heap_new W _)
/-- The world behind calendarOf. -/
def calWorld (W : World) (A : Option Addr) (n c : Nat) : World := (W.alloc (.map #[] 0)).alloc (.cells #[.slice A n c, .map (some W.heap.size)] 127)
theorem calWorld_below (W : World) (A : Option Addr) (n c : Nat) : Below W.heap.size W (calWorld W A n c) := below_step (below_alloc _ _) (below_alloc _ _)
theorem calWorld_cal (W : World) (A : Option Addr) (c : Nat) (l : List Hol) (hl : Hols W A l) (hT : Tab W) : Calend (calWorld W A l.length c) (W.heap.size + 1) W.heap.size A c l := by
  have h := cell_alloc_at (W.alloc (.map #[] 0)) #[.slice A l.length c, .map (some W.heap.size)] 127
  rw [World.size_alloc] at h
  exact ⟨h 0, h 1, by unfold calWorld; simp, hl.below (calWorld_below _ _ _ _), hT.below (calWorld_below _ _ _ _)⟩
theorem calWorld_map (W : World) (A : Option Addr) (n c : Nat) : MapIs Tryd.prog 3 intLit (calWorld W A n c) W.heap.size 0 fun _ => none := (MapIs.made Tryd.prog 3 intLit W).alloc _
theorem below_of_grown {w W W' : World} {m : Nat} (h : Below w.heap.size w W) (hg : W.grownBy W' (some m)) (hm : w.heap.size ≤ m) : Below w.heap.size w W' := h.grown hg h.size (fun k e => by cases e; exact hm)
set_option maxHeartbeats 1000000 in
theorem AddWorking_any (A : Option Addr) (c : Nat) (l : List Hol) (hHol : Cal.holsErr l = 0 → HolCalls A c l) (day n : Int) (w : World) (hl : Hols w A l) (hT : Tab w) :
    Calls Tryd.prog 31 #[.slice A l.length c, .int .i64 day, .int .i64 n] w fun e w' => e = .returned (.tuple #[.int .i64 (Cal.addWorkingS l day n).1, .int .i64 (Cal.addWorkingS l day n).2]) ∧ Below w.heap.size w w' := by
  by_cases h0 : Cal.holsErr l = 0
  · have h0z := Lib.hid h0
    have hHC := Lib.hid (hHol h0)
    have h1 : (Cal.holsErr l != 0) = false := by simpa using h0
    clear h0 hHol
    by_cases hd : 0 ≤ day ∧ day ≤ 200000
    · obtain ⟨d0, d1⟩ := hd
      by_cases hn : -2000 ≤ n ∧ n ≤ 2000
      · obtain ⟨n0, n1⟩ := hn
        have hl' := Lib.hid hl
        have hT' := Lib.hid hT
        have hs : Hid (Cal.addWorkingS l day n = match Cal.addW l day n with | some x => (x, 0) | none => (0, 2)) := by show _ = _; unfold Cal.addWorkingS; rw [if_pos h0z.out, if_pos ⟨d0, d1, n0, n1⟩]
        clear hl hT
        go_enter Tryd.func31, Tryd.ntmps31
        go_wp2_with (first | (go_at_call 24; refine (CheckHolidays_any _ _ l _ hl'.out hT'.out).mono ?_; rintro e w1 ⟨rfl, hb1⟩) | (go_at_call 75; first | (refine (calls_in (isDay_any _ _) ?_ ?_).mono ?_; omega; omega; rintro e w' ⟨rfl, rfl⟩) | (refine (calls_out (isDay_any _ _) ?_).mono ?_; omega; rintro e w' ⟨rfl, rfl⟩) | (refine (isDay_any _ _).mono ?_; rintro e w' ⟨rfl, rfl⟩)) | (go_at_call 78; first | (refine (calls_in (within_any _ _ _ _) ?_ ?_).mono ?_; omega; omega; rintro e w' ⟨rfl, rfl⟩) | (refine (calls_out (within_any _ _ _ _) ?_).mono ?_; omega; rintro e w' ⟨rfl, rfl⟩) | (refine (within_any _ _ _ _).mono ?_; rintro e w' ⟨rfl, rfl⟩)))
        refine (calendarOf_any A l.length c w1).mono ?_
        rintro e w2 ⟨rfl, hw2⟩
        have hw2' : w2 = calWorld w1 A l.length c := hw2
        clear hw2
        have hb1' := Lib.hid hb1
        clear hb1
        go_wp2_with fail
        have ha := add_any (w1.heap.size + 1) w1.heap.size A c l hHC.out day n n0 n1 d0 d1 (calWorld w1 A l.length c) (calWorld_cal w1 A c l (hl'.out.below hb1'.out) (hT'.out.below hb1'.out)) (calWorld_map _ _ _ _)
        refine ha.mono ?_
        clear ha hw2'
        rintro e w3 ⟨he, hg⟩
        have hbb := Lib.hid (below_of_grown (below_step hb1'.out (calWorld_below w1 A l.length c)) hg hb1'.out.size)
        clear hg
        cases hr : Cal.addW l day n with
        | none =>
          rw [hr] at he
          unfold Cal.addV at he
          subst he
          have hfin : Hid (Cal.addWorkingS l day n = (0, 2)) := by show _ = _; rw [hs.out, hr]
          clear hr
          go_wp2
          go_ret2
          exact ⟨by rw [hfin.out]; rfl, hbb.out⟩
        | some x =>
          rw [hr] at he
          unfold Cal.addV at he
          subst he
          have hfin : Hid (Cal.addWorkingS l day n = (x, 0)) := by show _ = _; rw [hs.out, hr]
          clear hr
          go_wp2
          go_ret2
          exact ⟨by rw [hfin.out]; rfl, hbb.out⟩
      · have hfin : Hid (Cal.addWorkingS l day n = (0, 2)) := by show _ = _; unfold Cal.addWorkingS; rw [if_pos h0z.out, if_neg (by omega)]
        have hl' := Lib.hid hl
        have hT' := Lib.hid hT
        have hn' : n < -2000 ∨ 2000 < n := by omega
        clear hl hT hn
        go_enter Tryd.func31, Tryd.ntmps31
        go_wp2_with (first | (go_at_call 24; refine (CheckHolidays_any _ _ l _ hl'.out hT'.out).mono ?_; rintro e w1 ⟨rfl, hb1⟩) | (go_at_call 75; first | (refine (calls_in (isDay_any _ _) ?_ ?_).mono ?_; omega; omega; rintro e w' ⟨rfl, rfl⟩) | (refine (calls_out (isDay_any _ _) ?_).mono ?_; omega; rintro e w' ⟨rfl, rfl⟩) | (refine (isDay_any _ _).mono ?_; rintro e w' ⟨rfl, rfl⟩)) | (go_at_call 78; first | (refine (calls_in (within_any _ _ _ _) ?_ ?_).mono ?_; omega; omega; rintro e w' ⟨rfl, rfl⟩) | (refine (calls_out (within_any _ _ _ _) ?_).mono ?_; omega; rintro e w' ⟨rfl, rfl⟩) | (refine (within_any _ _ _ _).mono ?_; rintro e w' ⟨rfl, rfl⟩)))
        go_ret2
        exact ⟨by rw [hfin.out]; rfl, hb1⟩
    · have hfin : Hid (Cal.addWorkingS l day n = (0, 2)) := by show _ = _; unfold Cal.addWorkingS; rw [if_pos h0z.out, if_neg (by omega)]
      have hl' := Lib.hid hl
      have hT' := Lib.hid hT
      have hd' : day < 0 ∨ 200000 < day := by omega
      clear hl hT hd
      go_enter Tryd.func31, Tryd.ntmps31
      go_wp2_with (first | (go_at_call 24; refine (CheckHolidays_any _ _ l _ hl'.out hT'.out).mono ?_; rintro e w1 ⟨rfl, hb1⟩) | (go_at_call 75; first | (refine (calls_in (isDay_any _ _) ?_ ?_).mono ?_; omega; omega; rintro e w' ⟨rfl, rfl⟩) | (refine (calls_out (isDay_any _ _) ?_).mono ?_; omega; rintro e w' ⟨rfl, rfl⟩) | (refine (isDay_any _ _).mono ?_; rintro e w' ⟨rfl, rfl⟩)) | (go_at_call 78; first | (refine (calls_in (within_any _ _ _ _) ?_ ?_).mono ?_; omega; omega; rintro e w' ⟨rfl, rfl⟩) | (refine (calls_out (within_any _ _ _ _) ?_).mono ?_; omega; rintro e w' ⟨rfl, rfl⟩) | (refine (within_any _ _ _ _).mono ?_; rintro e w' ⟨rfl, rfl⟩)))
      go_ret2
      exact ⟨by rw [hfin.out]; rfl, hb1⟩
  · have h0z := Lib.hid h0
    have h1 : (Cal.holsErr l != 0) = true := by simpa using h0
    have hfin : Hid (Cal.addWorkingS l day n = (0, Cal.holsErr l)) := by show _ = _; unfold Cal.addWorkingS; rw [if_neg h0z.out]
    have hl' := Lib.hid hl
    have hT' := Lib.hid hT
    clear hl hT h0 hHol
    go_enter Tryd.func31, Tryd.ntmps31
    go_wp2_with (first | (go_at_call 24; refine (CheckHolidays_any _ _ l _ hl'.out hT'.out).mono ?_; rintro e w1 ⟨rfl, hb1⟩))
    go_ret2
    exact ⟨by rw [hfin.out]; rfl, hb1⟩
end Go.Proofs.YtoigamkldccnkaaDoor
