/- Chapter 8 and what it rests on: definitions and walks, part 15. -/
import Derived.Test.YtbegbajlagcbdaaGreatDoorC14
import Derived.Test.YtbegbajlagcbdaaGreatDoorC12
import Derived.Test.YtbegbajlagcbdaaGreatDoorC07
namespace Go.Proofs.YtbegbajlagcbdaaGreatDoor
open Go Go.RowKit Go.Shelf
theorem calendarOf_any (A : Option Addr) (n c : Nat) (W : World) :
    Calls Tryz.prog 135 #[.slice A n c] W fun e W' => e = .returned (.pointer (some ⟨W.heap.size + 1, 0, none⟩)) ∧ W' = (W.alloc (.map #[] 0)).alloc (.cells #[.slice A n c, .map (some W.heap.size)] 272) := by
  have hmm := @run_makeMap Tryz.prog
  go_enter Tryz.func135, Tryz.ntmps135
  go_wp2
  go_ret
  exact ⟨rfl, rfl⟩
theorem holCalls_nil (A : Option Addr) (c : Nat) : HolCalls A c [] := by
  intro y W y0 y1 _ hT
  clear hT
  go_enter Tryz.func239, Tryz.ntmps239
  go_wp2
  go_loop [5, 12] (fun o i => ∃ k : Nat, k ≤ 0 ∧ i = .int .i64 k ∧ o = .slice none 0 0) (fun _ i => (intOf i).toNat)
  case atStart => exact ⟨0, Nat.le_refl _, rfl, rfl⟩
  case round =>
    obtain ⟨k, hk, rfl, rfl⟩ := hrel
    go_wp2_with fail
    refine (Tryz.slices_Sort_int_none none 0 W).mono ?_
    rintro e w' ⟨rfl, hw⟩
    subst hw
    go_wp2_with fail
    refine (Tryz.slices_Compact_int_empty none 0 _).mono ?_
    rintro e w' ⟨rfl, hw⟩
    subst hw
    go_wp2
    go_ret
    exact ⟨.slice none 0 0, [], rfl, ⟨none, 0, rfl, by simp, fun h => absurd rfl h⟩, ⟨List.Pairwise.nil, fun d => by simp [Cal.hols]⟩, Below.refl _ _⟩
def Cal.addWorkingS (l : List Hol) (day n : Int) : Int × Int :=
  if Cal.holsErr l = 0 then (if 0 ≤ day ∧ day ≤ 200000 ∧ -2000 ≤ n ∧ n ≤ 2000 then (match Cal.addW l day n with | some x => (x, 0) | none => (0, 2)) else (0, 2)) else (0, Cal.holsErr l)
theorem cell_alloc_at (W : World) (cs : Array Value) (t : TypeId) (j : Nat) : (W.alloc (.cells cs t)).cell? ⟨W.heap.size, j, none⟩ = cs[j]? :=
  cell_of_row _ _ _ cs t (0, 0) (World.alloc_heap_new W _)
/-- The world behind calendarOf. -/
def calWorld (W : World) (A : Option Addr) (n c : Nat) : World := (W.alloc (.map #[] 0)).alloc (.cells #[.slice A n c, .map (some W.heap.size)] 272)
theorem calWorld_below (W : World) (A : Option Addr) (n c : Nat) : Below W.heap.size W (calWorld W A n c) := below_step (below_alloc _ _) (below_alloc _ _)
theorem calWorld_cal (W : World) (A : Option Addr) (c : Nat) (l : List Hol) (hl : Hols W A l) (hT : Tab W) : Calend (calWorld W A l.length c) (W.heap.size + 1) W.heap.size A c l := by
  have h := cell_alloc_at (W.alloc (.map #[] 0)) #[.slice A l.length c, .map (some W.heap.size)] 272
  rw [World.size_alloc] at h
  exact ⟨h 0, h 1, by unfold calWorld; simp, hl.below (calWorld_below _ _ _ _), hT.below (calWorld_below _ _ _ _)⟩
theorem calWorld_map (W : World) (A : Option Addr) (n c : Nat) : MapIs Tryz.prog 3 intLit (calWorld W A n c) W.heap.size 0 fun _ => none := (MapIs.made Tryz.prog 3 intLit W).alloc _
theorem below_of_grown {w W W' : World} {m : Nat} (h : Below w.heap.size w W) (hg : W.grownBy W' (some m)) (hm : w.heap.size ≤ m) : Below w.heap.size w W' := h.grown hg h.size (fun k e => by cases e; exact hm)
set_option maxHeartbeats 1000000 in
theorem AddWorking_any (A : Option Addr) (c : Nat) (l : List Hol) (hHol : Cal.holsErr l = 0 → HolCalls A c l) (day n : Int) (w : World) (hl : Hols w A l) (hT : Tab w) :
    Calls Tryz.prog 79 #[.slice A l.length c, .int .i64 day, .int .i64 n] w fun e w' => e = .returned (.tuple #[.int .i64 (Cal.addWorkingS l day n).1, .int .i64 (Cal.addWorkingS l day n).2]) ∧ Below w.heap.size w w' := by
  by_cases h0 : Cal.holsErr l = 0
  · have h0z := Lib.hid h0
    have hHC := Lib.hid (hHol h0)
    have h1 : (Cal.holsErr l != 0) = false := by simpa using h0
    clear h0 hHol
    by_cases hd : 0 ≤ day ∧ day ≤ 200000
    · obtain ⟨d0, d1⟩ := hd
      by_cases hn : -2000 ≤ n ∧ n ≤ 2000
      · obtain ⟨n0, n1⟩ := hn
        have hl' := Lib.hid hl
        have hT' := Lib.hid hT
        have hs : Hid (Cal.addWorkingS l day n = match Cal.addW l day n with | some x => (x, 0) | none => (0, 2)) := by show _ = _; unfold Cal.addWorkingS; rw [if_pos h0z.out, if_pos ⟨d0, d1, n0, n1⟩]
        clear hl hT
        go_enter Tryz.func79, Tryz.ntmps79
        go_wp2_with (first | (go_at_call 116; refine (CheckHolidays_any _ _ l _ hl'.out hT'.out).mono ?_; rintro e w1 ⟨rfl, hb1⟩) | (go_at_call 133; first | refine rin ?_ | refine rout ?_ | refine rany ?_) | (go_at_call 134; first | refine rin ?_ | refine rout ?_ | refine rany ?_))
        refine (calendarOf_any A l.length c w1).mono ?_
        rintro e w2 ⟨rfl, hw2⟩
        have hw2' : w2 = calWorld w1 A l.length c := hw2
        clear hw2
        have hb1' := Lib.hid hb1
        clear hb1
        go_wp2_with fail
        have ha := add_any (w1.heap.size + 1) w1.heap.size A c l hHC.out day n n0 n1 d0 d1 (calWorld w1 A l.length c) (calWorld_cal w1 A c l (hl'.out.below hb1'.out) (hT'.out.below hb1'.out)) (calWorld_map _ _ _ _)
        refine ha.mono ?_
        clear ha hw2'
        rintro e w3 ⟨he, hg⟩
        have hbb := Lib.hid (below_of_grown (below_step hb1'.out (calWorld_below w1 A l.length c)) hg hb1'.out.size)
        clear hg
        cases hr : Cal.addW l day n with
        | none =>
          rw [hr] at he
          unfold Cal.addV at he
          subst he
          have hfin : Hid (Cal.addWorkingS l day n = (0, 2)) := by show _ = _; rw [hs.out, hr]
          clear hr
          go_wp2
          go_ret2
          exact ⟨by rw [hfin.out]; rfl, hbb.out⟩
        | some x =>
          rw [hr] at he
          unfold Cal.addV at he
          subst he
          have hfin : Hid (Cal.addWorkingS l day n = (x, 0)) := by show _ = _; rw [hs.out, hr]
          clear hr
          go_wp2
          go_ret2
          exact ⟨by rw [hfin.out]; rfl, hbb.out⟩
      · have hfin : Hid (Cal.addWorkingS l day n = (0, 2)) := by show _ = _; unfold Cal.addWorkingS; rw [if_pos h0z.out, if_neg (by omega)]
        have hl' := Lib.hid hl
        have hT' := Lib.hid hT
        have hn' : n < -2000 ∨ 2000 < n := by omega
        clear hl hT hn
        go_enter Tryz.func79, Tryz.ntmps79
        go_wp2_with (first | (go_at_call 116; refine (CheckHolidays_any _ _ l _ hl'.out hT'.out).mono ?_; rintro e w1 ⟨rfl, hb1⟩) | (go_at_call 133; first | refine rin ?_ | refine rout ?_ | refine rany ?_) | (go_at_call 134; first | refine rin ?_ | refine rout ?_ | refine rany ?_))
        go_ret2
        exact ⟨by rw [hfin.out]; rfl, hb1⟩
    · have hfin : Hid (Cal.addWorkingS l day n = (0, 2)) := by show _ = _; unfold Cal.addWorkingS; rw [if_pos h0z.out, if_neg (by omega)]
      have hl' := Lib.hid hl
      have hT' := Lib.hid hT
      have hd' : day < 0 ∨ 200000 < day := by omega
      clear hl hT hd
      go_enter Tryz.func79, Tryz.ntmps79
      go_wp2_with (first | (go_at_call 116; refine (CheckHolidays_any _ _ l _ hl'.out hT'.out).mono ?_; rintro e w1 ⟨rfl, hb1⟩) | (go_at_call 133; first | refine rin ?_ | refine rout ?_ | refine rany ?_) | (go_at_call 134; first | refine rin ?_ | refine rout ?_ | refine rany ?_))
      go_ret2
      exact ⟨by rw [hfin.out]; rfl, hb1⟩
  · have h0z := Lib.hid h0
    have h1 : (Cal.holsErr l != 0) = true := by simpa using h0
    have hfin : Hid (Cal.addWorkingS l day n = (0, Cal.holsErr l)) := by show _ = _; unfold Cal.addWorkingS; rw [if_neg h0z.out]
    have hl' := Lib.hid hl
    have hT' := Lib.hid hT
    clear hl hT h0 hHol
    go_enter Tryz.func79, Tryz.ntmps79
    go_wp2_with (first | (go_at_call 116; refine (CheckHolidays_any _ _ l _ hl'.out hT'.out).mono ?_; rintro e w1 ⟨rfl, hb1⟩))
    go_ret2
    exact ⟨by rw [hfin.out]; rfl, hb1⟩
end Go.Proofs.YtbegbajlagcbdaaGreatDoor
namespace Go.Proofs.YtbegbajlagcbdaaGreatDoor
open Go Go.RowKit
set_option maxHeartbeats 1000000 in
theorem on_0 (nm : ByteArray) (month day wd y : Int) (m1 : 1 ≤ month) (m2 : month ≤ 12) (d1 : 1 ≤ day) (d2 : day ≤ 31) (y1 : 1800 ≤ y) (y2 : y ≤ 2347) (w : World) (hT : Tab w) :
    Calls Tryz.prog 269 #[.agg #[.string nm, .int .i64 0, .int .i64 month, .int .i64 day, .int .i64 wd], .int .i64 y] w fun e w' => e = .returned (.tuple #[.int .i64 (Cal.first y month + day - 1), .bool (decide (day ≤ Cal.mlen y month))]) ∧ Below w.heap.size w w' := by
  have hT' := Lib.hid (fun o n => (hT.alloc o).drewN n); clear hT
  have hfb := Cal.first_bd y month y1 (by omega)
  have hmb := Cal.mlen_bd y month
  go_enter Tryz.func269, Tryz.ntmps269
  go_wp2_with fail
  go_quiet (first | (go_at_call 137; exact quiet_left (length_any _ _ (by omega) m1 m2 _ (hT'.out _ _))) | (go_at_call 138; exact quiet_left (dayOf_any _ _ _ (by omega) (by omega) m1 m2 (by omega) (by omega) _ (hT'.out _ _))))
  go_wp2
  go_ret2
  exact ⟨ret_ib (by omega) rfl, below_drewN (below_alloc _ _) _⟩
set_option maxHeartbeats 1000000 in
theorem on_1 (nm : ByteArray) (month day wd y : Int) (d1 : -80 ≤ day) (d2 : day ≤ 240) (y1 : 1800 ≤ y) (y2 : y ≤ 2347) (w : World) (hT : Tab w) :
    Calls Tryz.prog 269 #[.agg #[.string nm, .int .i64 1, .int .i64 month, .int .i64 day, .int .i64 wd], .int .i64 y] w fun e w' => e = .returned (.tuple #[.int .i64 (Cal.easter y + day), .bool true]) ∧ Below w.heap.size w w' := by
  have hT' := Lib.hid (fun o n => (hT.alloc o).drewN n); clear hT
  have he := Cal.easter_in y
  have hb1 := Cal.beg_mono y1
  have hb2 := Cal.beg_mono y2
  rw [Cal.beg_1800] at hb1
  rw [Cal.beg_2347] at hb2
  have hl := Cal.lp_le y
  go_enter Tryz.func269, Tryz.ntmps269
  go_wp2_with fail
  go_quiet (first | (go_at_call 140; exact quiet_left (easter_any _ (by omega) (by omega) _ (hT'.out _ _))))
  go_wp2
  go_ret2
  exact ⟨rfl, below_drewN (below_alloc _ _) _⟩
set_option maxHeartbeats 2000000 in
theorem on_2 (nm : ByteArray) (month day wd y : Int) (m1 : 1 ≤ month) (m2 : month ≤ 12) (d1 : 1 ≤ day) (d2 : day ≤ 4) (w1 : 0 ≤ wd) (w2 : wd ≤ 6) (y1 : 1800 ≤ y) (y2 : y ≤ 2347) (w : World) (hT : Tab w) :
    Calls Tryz.prog 269 #[.agg #[.string nm, .int .i64 2, .int .i64 month, .int .i64 day, .int .i64 wd], .int .i64 y] w fun e w' => e = .returned (.tuple #[.int .i64 ((Cal.first y month + (wd - (Cal.first y month + 2) % 7 + 7) % 7) + 7 * (day - 1)), .bool true]) ∧ Below w.heap.size w w' := by
  have hT' := Lib.hid (fun o n => (hT.alloc o).drewN n); clear hT
  have hfb := Cal.first_bd y month y1 (by omega)
  have hmb := Cal.mlen_bd y month
  go_enter Tryz.func269, Tryz.ntmps269
  go_wp2_with (first | (go_at_call 138; refine (dayOf_any _ _ _ (by omega) (by omega) m1 m2 (by omega) (by omega) _ (hT'.out _ 0)).mono ?_; rintro e w' ⟨rfl, rfl⟩))
  go_quiet (first | (go_at_call 237; exact quiet_left (weekday_any _ (by omega) (by omega) _)))
  go_wp2
  go_ret2
  exact ⟨ret_ib (by omega) rfl, below_drewN (below_alloc _ _) _⟩
set_option maxHeartbeats 2000000 in
theorem on_3 (nm : ByteArray) (month wd y : Int) (m1 : 1 ≤ month) (m2 : month ≤ 12) (w1 : 0 ≤ wd) (w2 : wd ≤ 6) (y1 : 1800 ≤ y) (y2 : y ≤ 2347) (w : World) (hT : Tab w) :
    Calls Tryz.prog 269 #[.agg #[.string nm, .int .i64 2, .int .i64 month, .int .i64 (-1), .int .i64 wd], .int .i64 y] w fun e w' => e = .returned (.tuple #[.int .i64 (Cal.first y month + Cal.mlen y month - 1 - (Cal.first y month + Cal.mlen y month - 1 - (Cal.first y month + (wd - (Cal.first y month + 2) % 7 + 7) % 7)) % 7), .bool true]) ∧ Below w.heap.size w w' := by
  have hT' := Lib.hid (fun o n => (hT.alloc o).drewN n); clear hT
  have hfb := Cal.first_bd y month y1 (by omega)
  have hmb := Cal.mlen_bd y month
  go_enter Tryz.func269, Tryz.ntmps269
  go_wp2_with (first | (go_at_call 138; refine (dayOf_any _ _ _ (by omega) (by omega) m1 m2 (by omega) (by omega) _ (hT'.out _ 0)).mono ?_; rintro e w' ⟨rfl, rfl⟩))
  go_quiet (first | (go_at_call 237; exact quiet_left (weekday_any _ (by omega) (by omega) _)))
  go_wp2_with fail
  go_quiet (first | (go_at_call 137; exact quiet_add_left (length_any _ _ (by omega) m1 m2 _ (hT'.out _ _))) | (go_at_call 138; exact quiet_add_left (dayOf_any _ _ _ (by omega) (by omega) m1 m2 (by omega) (by omega) _ (hT'.out _ _))))
  go_wp2
  go_ret2
  exact ⟨ret_ib (by omega) rfl, below_drewN (below_alloc _ _) _⟩
def OnPost (w : World) (p : Hol) (y : Int) (e : Ending) (w' : World) : Prop := ∃ (D : Int) (b : Bool), e = .returned (.tuple #[.int .i64 D, .bool b]) ∧ Cal.onS p y = (if b = true then some D else none) ∧ Below w.heap.size w w'
theorem on_any (p : Hol) (hp : Cal.holErrOf p = 0) (y : Int) (y1 : 1800 ≤ y) (y2 : y ≤ 2347) (w : World) (hT : Tab w) :
    Calls Tryz.prog 269 #[.agg #[.string p.name, .int .i64 p.kind, .int .i64 p.month, .int .i64 p.day, .int .i64 p.weekday], .int .i64 y] w (OnPost w p y) := by
  have hc := Cal.hol_cases hp
  clear hp
  obtain ⟨nm, kind, month, day, wd⟩ := p
  simp only at hc ⊢
  rcases hc with ⟨rfl, m1, m2, d1, d2⟩ | ⟨rfl, d1, d2⟩ | ⟨rfl, m1, m2, ⟨d1, d2⟩ | rfl, w1, w2⟩
  · exact (on_0 nm month day wd y m1 m2 d1 d2 y1 y2 w hT).mono fun e w' ⟨he, hb⟩ => ⟨_, _, he, by unfold Cal.onS; simp, hb⟩
  · exact (on_1 nm month day wd y d1 d2 y1 y2 w hT).mono fun e w' ⟨he, hb⟩ => ⟨_, _, he, by unfold Cal.onS; simp, hb⟩
  · exact (on_2 nm month day wd y m1 m2 d1 d2 w1 w2 y1 y2 w hT).mono fun e w' ⟨he, hb⟩ => ⟨_, _, he, by unfold Cal.onS; simp only; rw [if_neg (by decide), if_neg (by decide), if_pos (by omega)]; rfl, hb⟩
  · exact (on_3 nm month wd y m1 m2 w1 w2 y1 y2 w hT).mono fun e w' ⟨he, hb⟩ => ⟨_, _, he, by unfold Cal.onS; simp only; rw [if_neg (by decide), if_neg (by decide), if_neg (by decide)]; rfl, hb⟩
theorem Cal.hols_snoc {l : List Hol} {k : Nat} (hlt : k < l.length) (y : Int) : Cal.hols (l.take (k + 1)) y = Cal.hols (l.take k) y ++ (match Cal.onS l[k] y with | some d => [d] | none => []) := by
  unfold Cal.hols
  rw [List.take_succ_eq_append_getElem hlt, List.filterMap_append]
  congr 1
  cases h : Cal.onS l[k] y <;> simp [h]
theorem Cal.hols_length (l : List Hol) (y : Int) : (Cal.hols l y).length ≤ l.length := List.length_filterMap_le _ _
theorem IntsL.slice {w : World} {B : Nat} {v : Value} {zs : List Int} (h : IntsL w B v zs) (hs : zs.length ≤ 1000000) : SliceOf w B v zs := by
  obtain ⟨A, c, rfl, _⟩ := h.rows
  refine ⟨A, c, rfl, hs, fun hne => ?_⟩
  rcases h.own.2 with ⟨_, h0⟩ | ⟨g, cap, cur, hv, hb, hg, h1, h2, h3, h4⟩
  · exact absurd (List.eq_nil_of_length_eq_zero h0) hne
  · simp only [Value.slice.injEq, true_and] at hv
    obtain ⟨rfl, rfl⟩ := hv
    refine ⟨g, cur, _, rfl, hb, hg, fun j x hx => ?_⟩
    have hj : j < zs.length := (List.getElem?_eq_some_iff.1 hx).1
    have := congrArg (·[j]?) h4
    simp only [List.getElem?_take, Nat.mul_one, hj, if_true, List.getElem?_map, hx] at this
    rw [Array.getElem?_toList] at this
    exact this
theorem IntsL.grown {w w' : World} {B : Nat} {v : Value} {zs : List Int} (h : IntsL w B v zs) (hg : w.grownBy w' v.ownBlock) (hs : B ≤ w.heap.size) : Below B w w' :=
  grown_below hg (fun g e => (OwnL.lt h g e).1) hs
theorem Tab.hid {w : World} (h : Tab w) : ∀ w', Below w.heap.size w w' → Tab w' := fun _ hb => h.below hb
set_option maxRecDepth 100000 in
set_option maxHeartbeats 2000000 in
theorem holidaysOf_any (A : Option Addr) (c : Nat) (l : List Hol) (hok : Cal.HolsOk l) (hlen : l.length ≤ 1000) : HolCalls A c l := by
  intro y w y1 y2 hl hT
  have hT' := Lib.hid hT.hid
  have hl' := Lib.hid hl
  have hsz := hl.size
  have h0 : Hid (IntsL w w.heap.size (.slice none 0 0) (Cal.hols (l.take 0) y)) := OwnL.nil _ _ _ _
  clear hl hT
  go_enter Tryz.func239, Tryz.ntmps239
  go_wp2
  go_loopw [5, 12] (fun o i wr => ∃ k : Nat, k ≤ l.length ∧ i = .int .i64 k ∧ Hid (IntsL wr w.heap.size o (Cal.hols (l.take k) y)) ∧ Hid (Below w.heap.size w wr)) (fun _ i _ => l.length - (intOf i).toNat)
  case atStart => exact ⟨0, Nat.zero_le _, rfl, h0, Below.refl _ _⟩
  case round =>
    obtain ⟨k, hk, rfl, hown, hb⟩ := hrel
    clear h0
    by_cases hlt : k < l.length
    · have hk' : l[k]? = some l[k] := List.getElem?_eq_getElem hlt
      have hsn := Lib.hid (Cal.hols_snoc hlt y)
      have hp := hok _ (List.getElem_mem hlt)
      have hln := Cal.hols_length (l.take k) y
      rw [List.length_take] at hln
      obtain ⟨b, o, rfl, hbl, c0, c1, c2, c3, c4⟩ := (hl'.out.below hb.out).at_ hk'
      clear hk'
      generalize l[k] = p at *
      have hbs := hb.out.size
      go_wp2_with fail
      refine (on_any p hp y y1 y2 _ (hT'.out _ (hb.out.alloc hbs _))).mono ?_
      rintro e w1 ⟨D, bb, rfl, hon, hb1⟩
      have hbw1 := Lib.hid (below_step (hb.out.alloc hbs _) hb1)
      have hb1' := below_step (below_alloc _ _) hb1
      have hown1 := Lib.hid (hown.out.below hb1')
      clear hb1 hb1' hown
      cases bb
      · have hnx : Hid (Cal.hols (l.take (k + 1)) y = Cal.hols (l.take k) y) := by show _ = _; rw [hsn.out, hon]; simp
        clear hon
        go_wp2_with fail
        go_roundw
        case rel => exact ⟨k + 1, by omega, by go_num, by rw [hnx.out]; exact hown1, hbw1⟩
        case measure => simp [intOf]; omega
      · have hnx : Hid (Cal.hols (l.take (k + 1)) y = Cal.hols (l.take k) y ++ [D]) := by show _ = _; rw [hsn.out, hon]; simp
        clear hon
        have hbs1 := hbw1.out.size
        generalize Cal.hols (l.take k) y = zs at *
        go_wp2_with (at_builtin; refine wpList_append_rows elemInt rfl _ _ rfl rfl rfl (hown1.out.below (below_alloc _ _)) (rowsAt_new _ [.int .i64 D] _) rfl (intRows_wid [D]) (intRows_one [D]) (by rw [intRows_length]; simp; omega) (by decide) (by simp; omega) ?_; intro v' w2 hown2 hg2 _)
        have hb2 : Below w.heap.size w w2 := (hbw1.out.alloc hbs1 _).trans (grown_below hg2 (fun g e => (OwnL.lt hown1.out g e).1) (by simp; omega))
        have hown2' : IntsL w2 w.heap.size v' (zs ++ [D]) := by unfold IntsL intRows; rw [List.map_append]; exact hown2
        have hb2 := Lib.hid hb2
        have hown2' := Lib.hid hown2'
        clear hown2 hg2
        go_wp2_with fail
        go_roundw
        case rel => exact ⟨k + 1, by omega, by go_num, by rw [hnx.out]; exact hown2', hb2⟩
        case measure => simp [intOf]; omega
    · obtain rfl : k = l.length := by omega
      have hln := Cal.hols_length l y
      have hown := Lib.hid (show IntsL _ _ _ (Cal.hols l y) by have := hown.out; rwa [List.take_length] at this)
      have hbs := hb.out.size
      go_wp2_with fail
      refine (Sort_own _ w.heap.size _ _ hown.out (by omega)).mono ?_
      rintro e w1 ⟨rfl, hs1, hg1⟩
      have hb1 := hown.out.grown hg1 hbs
      have hbs1 := hb1.size
      have hlm : ((Cal.hols l y).mergeSort fun x y => decide (x ≤ y)).length = (Cal.hols l y).length := List.length_mergeSort _
      go_wp2_with fail
      refine (Compact_own _ w.heap.size _ _ hs1 (by omega)).mono ?_
      rintro e w2 ⟨v2, rfl, hs2, hg2, _⟩
      have hb2 := hs1.grown hg2 (by omega)
      have hu := Cal.ups_spec (Cal.hols l y)
      have hul := Cal.ups_length (Cal.hols l y)
      go_wp2
      go_ret
      exact ⟨v2, Cal.ups (Cal.hols l y), rfl, IntsL.slice hs2 (Nat.le_trans hul (by omega)), hu, hb.out.trans (hb1.trans hb2)⟩
end Go.Proofs.YtbegbajlagcbdaaGreatDoor
namespace Go.Proofs.YtbegbajlagcbdaaGreatDoor
open Go Go.RowKit
set_option maxHeartbeats 2000000 in
theorem Is_0 (nm : ByteArray) (month day wd d : Int) (m1 : 1 ≤ month) (m2 : month ≤ 12) (d0 : 0 ≤ d) (d1 : d ≤ 200000) (w : World) :
    Calls Tryz.prog 202 #[.agg #[.string nm, .int .i64 0, .int .i64 month, .int .i64 day, .int .i64 wd], .int .i64 d] w fun e w' => e = .returned (.bool (Cal.isB ⟨nm, 0, month, day, wd⟩ d)) ∧ Below w.heap.size w w' := by
  have hdt := fun w1 => DateOf_any d d0 d1 w1
  have hy := Cal.dY_bd d d0 d1
  have hd := Cal.date_spec d d0 (by omega)
  obtain ⟨dm1, dm2, dd1, dd2, -⟩ := hd
  have hml := Cal.mlen_bd (Cal.dY d) (Cal.dM d)
  have hei := Cal.easter_in (Cal.dY d)
  have hb1 := Cal.beg_mono hy.1
  have hb2 := Cal.beg_mono hy.2
  rw [Cal.beg_1800] at hb1
  rw [Cal.beg_2347] at hb2
  have hlp := Cal.lp_le (Cal.dY d)
  have hIs : Cal.isB ⟨nm, 0, month, day, wd⟩ d = decide (Cal.dM d = month ∧ Cal.dD d = day) := rfl
  generalize Cal.dM d = M at *
  generalize Cal.dD d = D at *
  generalize Cal.mlen (Cal.dY d) M = ML at *
  generalize Cal.easter (Cal.dY d) = ES at *
  generalize Cal.beg (Cal.dY d) = BG at *
  generalize Cal.lp (Cal.dY d) = LP at *
  generalize Cal.dY d = Y at *
  have hdt := Lib.hid hdt
  have hIs := Lib.hid hIs
  by_cases h1 : M = month
  · subst h1
    by_cases h2 : D = day
    · subst h2
      go_enter Tryz.func202, Tryz.ntmps202
      go_wp2_with fail
      refine (hdt.out _).mono ?_
      rintro e w1 ⟨rfl, hb⟩
      have hbw := Lib.hid ((below_step (below_alloc w _) hb).alloc (below_step (below_alloc w _) hb).size (.cells #[.int .i64 Y, .int .i64 M, .int .i64 D] 156))
      obtain ⟨hc, hf⟩ := bcell hb
      have hlt : w.heap.size < w1.heap.size := by have := hb.size; simp at this; omega
      have kne : w.heap.size ≠ w1.heap.size := by omega
      have kne2 : w1.heap.size ≠ w.heap.size := by omega
      clear hb hdt
      go_wp2
      go_ret
      exact ⟨ret_bool (by rw [hIs.out]; simp), hbw.out⟩
    · have h2' : (D == day) = false := by simpa using h2
      go_enter Tryz.func202, Tryz.ntmps202
      go_wp2_with fail
      refine (hdt.out _).mono ?_
      rintro e w1 ⟨rfl, hb⟩
      have hbw := Lib.hid ((below_step (below_alloc w _) hb).alloc (below_step (below_alloc w _) hb).size (.cells #[.int .i64 Y, .int .i64 M, .int .i64 D] 156))
      obtain ⟨hc, hf⟩ := bcell hb
      have hlt : w.heap.size < w1.heap.size := by have := hb.size; simp at this; omega
      have kne : w.heap.size ≠ w1.heap.size := by omega
      have kne2 : w1.heap.size ≠ w.heap.size := by omega
      clear hb hdt
      go_wp2
      go_ret
      exact ⟨ret_bool (by rw [hIs.out]; simp [h2]), hbw.out⟩
  · have h1' : (M == month) = false := by simpa using h1
    go_enter Tryz.func202, Tryz.ntmps202
    go_wp2_with fail
    refine (hdt.out _).mono ?_
    rintro e w1 ⟨rfl, hb⟩
    have hbw := Lib.hid ((below_step (below_alloc w _) hb).alloc (below_step (below_alloc w _) hb).size (.cells #[.int .i64 Y, .int .i64 M, .int .i64 D] 156))
    obtain ⟨hc, hf⟩ := bcell hb
    have hlt : w.heap.size < w1.heap.size := by have := hb.size; simp at this; omega
    have kne : w.heap.size ≠ w1.heap.size := by omega
    have kne2 : w1.heap.size ≠ w.heap.size := by omega
    clear hb hdt
    go_wp2
    go_ret
    exact ⟨ret_bool (by rw [hIs.out]; simp [h1]), hbw.out⟩
set_option maxHeartbeats 2000000 in
theorem Is_1 (nm : ByteArray) (month day wd d : Int) (k1 : -80 ≤ day) (k2 : day ≤ 240) (d0 : 0 ≤ d) (d1 : d ≤ 200000) (w : World) :
    Calls Tryz.prog 202 #[.agg #[.string nm, .int .i64 1, .int .i64 month, .int .i64 day, .int .i64 wd], .int .i64 d] w fun e w' => e = .returned (.bool (Cal.isB ⟨nm, 1, month, day, wd⟩ d)) ∧ Below w.heap.size w w' := by
  have hdt := fun w1 => DateOf_any d d0 d1 w1
  have hy := Cal.dY_bd d d0 d1
  have hd := Cal.date_spec d d0 (by omega)
  obtain ⟨dm1, dm2, dd1, dd2, -⟩ := hd
  have hml := Cal.mlen_bd (Cal.dY d) (Cal.dM d)
  have hei := Cal.easter_in (Cal.dY d)
  have hb1 := Cal.beg_mono hy.1
  have hb2 := Cal.beg_mono hy.2
  rw [Cal.beg_1800] at hb1
  rw [Cal.beg_2347] at hb2
  have hlp := Cal.lp_le (Cal.dY d)
  have hes := fun w1 => easterR_any (Cal.dY d) (by omega) (by omega) w1
  have hIs : Cal.isB ⟨nm, 1, month, day, wd⟩ d = decide (d = Cal.easter (Cal.dY d) + day) := rfl
  generalize Cal.dM d = M at *
  generalize Cal.dD d = D at *
  generalize Cal.mlen (Cal.dY d) M = ML at *
  generalize Cal.easter (Cal.dY d) = ES at *
  generalize Cal.beg (Cal.dY d) = BG at *
  generalize Cal.lp (Cal.dY d) = LP at *
  generalize Cal.dY d = Y at *
  have hdt := Lib.hid hdt
  have hIs := Lib.hid hIs
  have hes := Lib.hid hes
  go_enter Tryz.func202, Tryz.ntmps202
  go_wp2_with fail
  refine (hdt.out _).mono ?_
  rintro e w1 ⟨rfl, hb⟩
  have hbw := Lib.hid ((below_step (below_alloc w _) hb).alloc (below_step (below_alloc w _) hb).size (.cells #[.int .i64 Y, .int .i64 M, .int .i64 D] 156))
  obtain ⟨hc, hf⟩ := bcell hb
  have hlt : w.heap.size < w1.heap.size := by have := hb.size; simp at this; omega
  have kne : w.heap.size ≠ w1.heap.size := by omega
  have kne2 : w1.heap.size ≠ w.heap.size := by omega
  clear hb hdt
  go_wp2_with fail
  go_quiet (first | (go_at_call 241; exact quiet_left (hes.out _)))
  go_wp2
  go_ret
  exact ⟨ret_bool (by rw [hIs.out, Bool.eq_iff_iff]; simp), below_drewN hbw.out _⟩
set_option maxHeartbeats 2000000 in
theorem Is_2 (nm : ByteArray) (month day wd d : Int) (k1 : (1 ≤ day ∧ day ≤ 4) ∨ day = -1) (d0 : 0 ≤ d) (d1 : d ≤ 200000) (w : World) :
    Calls Tryz.prog 202 #[.agg #[.string nm, .int .i64 2, .int .i64 month, .int .i64 day, .int .i64 wd], .int .i64 d] w fun e w' => e = .returned (.bool (Cal.isB ⟨nm, 2, month, day, wd⟩ d)) ∧ Below w.heap.size w w' := by
  have hdt := fun w1 => DateOf_any d d0 d1 w1
  have hy := Cal.dY_bd d d0 d1
  have hd := Cal.date_spec d d0 (by omega)
  obtain ⟨dm1, dm2, dd1, dd2, -⟩ := hd
  have hml := Cal.mlen_bd (Cal.dY d) (Cal.dM d)
  have hei := Cal.easter_in (Cal.dY d)
  have hb1 := Cal.beg_mono hy.1
  have hb2 := Cal.beg_mono hy.2
  rw [Cal.beg_1800] at hb1
  rw [Cal.beg_2347] at hb2
  have hlp := Cal.lp_le (Cal.dY d)
  have hmd := fun w1 => MonthDays_any (Cal.dY d) (Cal.dM d) (by omega) dm1 dm2 w1
  have hIs : Cal.isB ⟨nm, 2, month, day, wd⟩ d = decide (Cal.dM d = month ∧ (d + 2) % 7 = wd ∧ (if day < 0 then Cal.mlen (Cal.dY d) (Cal.dM d) < Cal.dD d + 7 else (Cal.dD d - 1) / 7 = day - 1)) := rfl
  generalize Cal.dM d = M at *
  generalize Cal.dD d = D at *
  generalize Cal.mlen (Cal.dY d) M = ML at *
  generalize Cal.easter (Cal.dY d) = ES at *
  generalize Cal.beg (Cal.dY d) = BG at *
  generalize Cal.lp (Cal.dY d) = LP at *
  generalize Cal.dY d = Y at *
  have hdt := Lib.hid hdt
  have hIs := Lib.hid hIs
  have hmd := Lib.hid hmd
  by_cases h1 : M = month
  · subst h1
    have h1' : (M != M) = false := by simp
    by_cases h2 : (d + 2) % 7 = wd
    · have h2' : ((d + 2) % 7 != wd) = false := by simpa using h2
      have h2z := Lib.hid h2
      clear h2
      rcases k1 with ⟨k1, k2⟩ | rfl
      · go_enter Tryz.func202, Tryz.ntmps202
        go_wp2_with fail
        refine (hdt.out _).mono ?_
        rintro e w1 ⟨rfl, hb⟩
        have hbw := Lib.hid ((below_step (below_alloc w _) hb).alloc (below_step (below_alloc w _) hb).size (.cells #[.int .i64 Y, .int .i64 M, .int .i64 D] 156))
        obtain ⟨hc, hf⟩ := bcell hb
        have hlt : w.heap.size < w1.heap.size := by have := hb.size; simp at this; omega
        have kne : w.heap.size ≠ w1.heap.size := by omega
        have kne2 : w1.heap.size ≠ w.heap.size := by omega
        clear hb hdt
        go_wp2_with fail
        go_quiet (first | (go_at_call 130; exact quiet_left (WeekdayR_any _ (by omega) (by omega) _)))
        go_wp2
        go_ret
        exact ⟨ret_bool (by rw [hIs.out, Bool.eq_iff_iff]; simp [h2z.out, show ¬ day < 0 by omega]), below_drewN hbw.out _⟩
      · go_enter Tryz.func202, Tryz.ntmps202
        go_wp2_with fail
        refine (hdt.out _).mono ?_
        rintro e w1 ⟨rfl, hb⟩
        have hbw := Lib.hid ((below_step (below_alloc w _) hb).alloc (below_step (below_alloc w _) hb).size (.cells #[.int .i64 Y, .int .i64 M, .int .i64 D] 156))
        obtain ⟨hc, hf⟩ := bcell hb
        have hlt : w.heap.size < w1.heap.size := by have := hb.size; simp at this; omega
        have kne : w.heap.size ≠ w1.heap.size := by omega
        have kne2 : w1.heap.size ≠ w.heap.size := by omega
        clear hb hdt
        go_wp2_with fail
        go_quiet (first | (go_at_call 130; exact quiet_left (WeekdayR_any _ (by omega) (by omega) _)))
        go_wp2_with fail
        go_quiet (first | (go_at_call 180; exact quiet_add_left (hmd.out _)))
        go_wp2
        go_ret
        exact ⟨ret_bool (by rw [hIs.out, Bool.eq_iff_iff]; simp [h2z.out]), below_drewN (below_drewN hbw.out _) _⟩
    · have h2' : ((d + 2) % 7 != wd) = true := by simpa using h2
      have h2z := Lib.hid h2
      clear h2
      go_enter Tryz.func202, Tryz.ntmps202
      go_wp2_with fail
      refine (hdt.out _).mono ?_
      rintro e w1 ⟨rfl, hb⟩
      have hbw := Lib.hid ((below_step (below_alloc w _) hb).alloc (below_step (below_alloc w _) hb).size (.cells #[.int .i64 Y, .int .i64 M, .int .i64 D] 156))
      obtain ⟨hc, hf⟩ := bcell hb
      have hlt : w.heap.size < w1.heap.size := by have := hb.size; simp at this; omega
      have kne : w.heap.size ≠ w1.heap.size := by omega
      have kne2 : w1.heap.size ≠ w.heap.size := by omega
      clear hb hdt
      go_wp2_with fail
      go_quiet (first | (go_at_call 130; exact quiet_left (WeekdayR_any _ (by omega) (by omega) _)))
      go_wp2
      go_ret
      exact ⟨ret_bool (by rw [hIs.out]; simp [h2z.out]), below_drewN hbw.out _⟩
  · have h1' : (M != month) = true := by simpa using h1
    go_enter Tryz.func202, Tryz.ntmps202
    go_wp2_with fail
    refine (hdt.out _).mono ?_
    rintro e w1 ⟨rfl, hb⟩
    have hbw := Lib.hid ((below_step (below_alloc w _) hb).alloc (below_step (below_alloc w _) hb).size (.cells #[.int .i64 Y, .int .i64 M, .int .i64 D] 156))
    obtain ⟨hc, hf⟩ := bcell hb
    have hlt : w.heap.size < w1.heap.size := by have := hb.size; simp at this; omega
    have kne : w.heap.size ≠ w1.heap.size := by omega
    have kne2 : w1.heap.size ≠ w.heap.size := by omega
    clear hb hdt
    go_wp2_with fail
    go_quiet (fail)
    go_wp2
    go_ret
    exact ⟨ret_bool (by rw [hIs.out]; simp [h1]), below_drewN hbw.out _⟩
theorem Is_any (p : Hol) (hp : Cal.holErrOf p = 0) (d : Int) (d0 : 0 ≤ d) (d1 : d ≤ 200000) (w : World) :
    Calls Tryz.prog 202 #[.agg #[.string p.name, .int .i64 p.kind, .int .i64 p.month, .int .i64 p.day, .int .i64 p.weekday], .int .i64 d] w fun e w' => e = .returned (.bool (Cal.isB p d)) ∧ Below w.heap.size w w' := by
  have hc := Cal.hol_cases hp
  clear hp
  obtain ⟨nm, kind, month, day, wd⟩ := p
  simp only at hc ⊢
  rcases hc with ⟨rfl, m1, m2, k1, k2⟩ | ⟨rfl, k1, k2⟩ | ⟨rfl, m1, m2, k1, w1, w2⟩
  · exact Is_0 nm month day wd d m1 m2 d0 d1 w
  · exact Is_1 nm month day wd d k1 k2 d0 d1 w
  · exact Is_2 nm month day wd d k1 d0 d1 w
def freeTo (l : List Hol) (d : Int) (q : Nat) : Prop := ∀ (j : Nat) p, j < q → l[j]? = some p → Cal.isB p d = false
theorem freeTo_all {l : List Hol} {d : Int} (h : freeTo l d l.length) : Cal.anyB l d = false := by
  unfold Cal.anyB
  rw [List.any_eq_false]
  intro p hp
  obtain ⟨j, hj, rfl⟩ := List.getElem_of_mem hp
  simp [h j l[j] hj (List.getElem?_eq_getElem hj)]
theorem anyOf_any (A : Option Addr) (c : Nat) (l : List Hol) (hok : Cal.HolsOk l) (d : Int) (d0 : 0 ≤ d) (d1 : d ≤ 200000) (w : World) (hl : Hols w A l) :
    Calls Tryz.prog 131 #[.slice A l.length c, .int .i64 d] w fun e w' => e = .returned (.bool (Cal.anyB l d)) ∧ Below w.heap.size w w' := by
  have hsz := hl.size
  have hl' := Lib.hid hl
  have h0 : Hid (freeTo l d 0) := fun j p h _ => by omega
  clear hl
  go_enter Tryz.func131, Tryz.ntmps131
  go_wp2
  go_loopw [5] (fun i wr => ∃ q : Nat, q ≤ l.length ∧ i = .int .i64 q ∧ Hid (freeTo l d q) ∧ Hid (Below w.heap.size w wr)) (fun i _ => l.length - (intOf i).toNat)
  case atStart => exact ⟨0, Nat.zero_le _, rfl, h0, Below.refl _ _⟩
  case round =>
    obtain ⟨q, hq, rfl, hfree, hb⟩ := hrel
    clear h0
    by_cases hlt : q < l.length
    · have hq' : l[q]? = some l[q] := List.getElem?_eq_getElem hlt
      have hp := hok _ (List.getElem_mem hlt)
      obtain ⟨b, o, rfl, hbl, c0, c1, c2, c3, c4⟩ := (hl'.out.below hb.out).at_ hq'
      generalize l[q] = p at *
      have hqz := Lib.hid hq'
      clear hq'
      have hc := Is_any p hp d d0 d1 wr
      cases hb0 : Cal.isB p d
      · have hnx : Hid (freeTo l d (q + 1)) := fun j r hj hr => by
          rcases Nat.lt_or_ge j q with h | h
          · exact hfree.out j r h hr
          · obtain rfl : j = q := by omega
            rw [hqz.out] at hr; cases hr; exact hb0
        rw [hb0] at hc
        have hc := Lib.hid hc
        clear hb0
        go_wp2_with fail
        refine hc.out.mono ?_
        clear hc
        rintro e w1 ⟨rfl, hb1⟩
        have hbw := Lib.hid (below_step hb.out hb1)
        clear hb1
        go_wp2_with fail
        go_roundw
        case rel => exact ⟨q + 1, by omega, by go_num, hnx, hbw⟩
        case measure => simp [intOf]; omega
      · have hfin : Hid (Cal.anyB l d = true) := by show _ = _; unfold Cal.anyB; rw [List.any_eq_true]; exact ⟨p, List.mem_of_getElem? hqz.out, hb0⟩
        rw [hb0] at hc
        have hc := Lib.hid hc
        clear hb0
        go_wp2_with fail
        refine hc.out.mono ?_
        clear hc
        rintro e w1 ⟨rfl, hb1⟩
        have hbw := Lib.hid (below_step hb.out hb1)
        clear hb1
        go_wp2_with fail
        go_ret
        exact ⟨ret_bool hfin.out.symm, hbw.out⟩
    · obtain rfl : q = l.length := by omega
      have hfin := Lib.hid (freeTo_all hfree.out)
      go_wp2
      go_ret
      exact ⟨ret_bool hfin.out.symm, hb.out⟩
end Go.Proofs.YtbegbajlagcbdaaGreatDoor
namespace Go.Proofs.YtbegbajlagcbdaaGreatDoor
open Go Go.RowKit
/-- The days from a on, n of them, that are holidays. -/
def Cal.anyTo (l : List Hol) (a : Int) : Nat → List Int
  | 0 => []
  | n + 1 => Cal.anyTo l a n ++ if Cal.anyB l (a + n) = true then [a + n] else []
theorem Cal.anyTo_spec (l : List Hol) (a : Int) : ∀ n, (Cal.anyTo l a n).Pairwise (· < ·) ∧ ∀ d, d ∈ Cal.anyTo l a n ↔ a ≤ d ∧ d < a + n ∧ Cal.anyB l d = true
  | 0 => ⟨List.Pairwise.nil, fun d => ⟨fun h => by simp [Cal.anyTo] at h, fun ⟨_, _, _⟩ => by omega⟩⟩
  | n + 1 => by
    obtain ⟨h1, h2⟩ := Cal.anyTo_spec l a n
    unfold Cal.anyTo
    by_cases hb : Cal.anyB l (a + n) = true
    · rw [if_pos hb]
      refine ⟨?_, fun d => ?_⟩
      · rw [List.pairwise_append]
        refine ⟨h1, List.pairwise_singleton .., fun x hx z hz => ?_⟩
        simp only [List.mem_singleton] at hz
        have := (h2 x).1 hx
        omega
      · rw [List.mem_append, h2, List.mem_singleton]
        constructor
        · rintro (⟨a1, a2, a3⟩ | rfl)
          · exact ⟨a1, by omega, a3⟩
          · exact ⟨by omega, by omega, hb⟩
        · rintro ⟨a1, a2, a3⟩
          by_cases he : d = a + n
          · exact .inr he
          · exact .inl ⟨a1, by omega, a3⟩
    · rw [if_neg hb, List.append_nil]
      refine ⟨h1, fun d => ?_⟩
      rw [h2]
      constructor
      · rintro ⟨a1, a2, a3⟩; exact ⟨a1, by omega, a3⟩
      · rintro ⟨a1, a2, a3⟩
        refine ⟨a1, ?_, a3⟩
        by_cases he : d = a + n
        · subst he; exact absurd a3 hb
        · omega
theorem Cal.anyTo_ups {l : List Hol} (hl : Cal.HolsOk l) {y : Int} (y1 : 1800 ≤ y) (y2 : y ≤ 2346) {n : Nat} (hn : Cal.beg y + n = Cal.beg (y + 1)) : Cal.anyTo l (Cal.beg y) n = Cal.ups (Cal.hols l y) := by
  obtain ⟨h1, h2⟩ := Cal.anyTo_spec l (Cal.beg y) n
  have ht := Cal.beg_top y1 y2
  refine (Cal.ups_eq h1 fun d => ?_).symm
  rw [h2]
  constructor
  · rintro ⟨a1, a2, a3⟩
    have := (Cal.anyB_iff hl (by omega) (by omega)).1 a3
    rwa [Cal.dY_of y1 y2 a1 (by omega)] at this
  · intro hd
    obtain ⟨a1, a2⟩ := Cal.hols_in hl hd
    refine ⟨a1, by omega, (Cal.anyB_iff hl (by omega) (by omega)).2 ?_⟩
    rwa [Cal.dY_of y1 y2 a1 a2]
def HolsPost (w : World) (l : List Hol) (y : Int) (e : Ending) (w' : World) : Prop := ∃ v, e = .returned v ∧ SliceOf w' w.heap.size v (Cal.ups (Cal.hols l y)) ∧ Below w.heap.size w w'
/-- HolidaysOf: the error, and the days. -/
def Cal.hofE (l : List Hol) (y : Int) : Int := if Cal.holsErr l = 0 then (if 1800 ≤ y ∧ y ≤ 2346 then 0 else 2) else Cal.holsErr l
def Cal.hofL (l : List Hol) (y : Int) : List Int := if Cal.hofE l y = 0 then Cal.ups (Cal.hols l y) else []
def HofPost (w : World) (l : List Hol) (y : Int) (e : Ending) (w' : World) : Prop := ∃ v, e = .returned (.tuple #[v, .int .i64 (Cal.hofE l y)]) ∧ SliceOf w' w.heap.size v (Cal.hofL l y) ∧ Below w.heap.size w w'
theorem hofPost_err {w w' : World} {l : List Hol} {y r : Int} (h : Cal.hofE l y = r) (hr : r ≠ 0) (hb : Below w.heap.size w w') : HofPost w l y (.returned (.tuple #[.slice none 0 0, .int .i64 r])) w' := by
  have hL : Cal.hofL l y = [] := by unfold Cal.hofL; rw [if_neg (by rw [h]; exact hr)]
  exact ⟨_, by rw [h], by rw [hL]; exact ⟨none, 0, rfl, by simp, fun h => absurd rfl h⟩, hb⟩
theorem Ints_any (v u : Value) (zs : List Int) (B1 B2 : Nat) (w : World) (h1 : SliceOf w B1 v zs) (h2 : SliceOf w B2 u zs) :
    Calls Tryz.prog 15 #[v, u] w fun e w' => e = .returned (.bool true) ∧ Below w.heap.size w w' := by
  by_cases hne : zs = []
  · subst hne
    obtain ⟨A, c, rfl, _⟩ := h1
    obtain ⟨A2, c2, rfl, _⟩ := h2
    go_enter Tryz.func15, Tryz.ntmps15
    go_wp2
    go_loopw [5] (fun i wr => i = .int .i64 0 ∧ wr = w) (fun _ _ => 0)
    case atStart => exact ⟨rfl, rfl⟩
    case round =>
      obtain ⟨rfl, rfl⟩ := hrel
      go_wp2
      go_ret
      exact ⟨rfl, Below.refl _ _⟩
  · obtain ⟨g, c, rfl, hsz, hc⟩ := h1.cells hne
    obtain ⟨g2, c2, rfl, _, hc2⟩ := h2.cells hne
    have hc := Lib.hid hc
    have hc2 := Lib.hid hc2
    clear h1 h2 hne
    go_enter Tryz.func15, Tryz.ntmps15
    go_wp2
    go_loopw [5] (fun i wr => ∃ (k n : Nat), k ≤ zs.length ∧ i = .int .i64 k ∧ wr = w.drewN n) (fun i _ => zs.length - (intOf i).toNat)
    case atStart => exact ⟨0, 0, Nat.zero_le _, rfl, rfl⟩
    case round =>
      obtain ⟨k, n, hk, rfl, rfl⟩ := hrel
      by_cases hlt : k < zs.length
      · have e1 := hc.out k hlt
        have e2 := hc2.out k hlt
        generalize zs.getD k 0 = z at *
        simp only [Nat.zero_add] at e1 e2
        go_wp2_with fail
        go_quiet (fail)
        go_wp2_with fail
        go_roundw
        case rel => exact ⟨k + 1, _, by omega, by go_num, rfl⟩
        case measure => simp [intOf]; omega
      · obtain rfl : k = zs.length := by omega
        go_wp2
        go_ret
        exact ⟨rfl, below_drewN (Below.refl _ _) _⟩
end Go.Proofs.YtbegbajlagcbdaaGreatDoor
