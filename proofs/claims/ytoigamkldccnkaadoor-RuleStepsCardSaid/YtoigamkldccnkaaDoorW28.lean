/- The walks: on; holidaysOf. -/
import Derived.Test.YtoigamkldccnkaaDoorCalHol
import Derived.Test.YtoigamkldccnkaaDoorW27
import Derived.Test.YtoigamkldccnkaaDoorW23
namespace Go.Proofs.YtoigamkldccnkaaDoor
open Go Go.RowKit
set_option maxHeartbeats 1000000 in
theorem on_0 (nm : ByteArray) (month day wd y : Int) (m1 : 1 ≤ month) (m2 : month ≤ 12) (d1 : 1 ≤ day) (d2 : day ≤ 31) (y1 : 1800 ≤ y) (y2 : y ≤ 2347) (w : World) (hT : Tab w) :
    Calls Tryd.prog 102 #[.agg #[.string nm, .int .i64 0, .int .i64 month, .int .i64 day, .int .i64 wd], .int .i64 y] w fun e w' => e = .returned (.tuple #[.int .i64 (Cal.first y month + day - 1), .bool (decide (day ≤ Cal.mlen y month))]) ∧ Below w.heap.size w w' := by
  have hT' := Lib.hid (fun o n => (hT.alloc o).drewN n); clear hT
  have hfb := Cal.first_bd y month y1 (by omega)
  have hmb := Cal.mlen_bd y month
  go_enter Tryd.func102, Tryd.ntmps102
  go_wp2_with fail
  go_quiet (first | (go_at_call 87; exact quiet_left (length_any _ _ (by omega) m1 m2 _ (hT'.out _ _))) | (go_at_call 88; exact quiet_left (dayOf_any _ _ _ (by omega) (by omega) m1 m2 (by omega) (by omega) _ (hT'.out _ _))))
  go_wp2
  go_ret2
  exact ⟨ret_ib (by omega) rfl, below_drewN (below_alloc _ _) _⟩
set_option maxHeartbeats 1000000 in
theorem on_1 (nm : ByteArray) (month day wd y : Int) (d1 : -80 ≤ day) (d2 : day ≤ 240) (y1 : 1800 ≤ y) (y2 : y ≤ 2347) (w : World) (hT : Tab w) :
    Calls Tryd.prog 102 #[.agg #[.string nm, .int .i64 1, .int .i64 month, .int .i64 day, .int .i64 wd], .int .i64 y] w fun e w' => e = .returned (.tuple #[.int .i64 (Cal.easter y + day), .bool true]) ∧ Below w.heap.size w w' := by
  have hT' := Lib.hid (fun o n => (hT.alloc o).drewN n); clear hT
  have he := Cal.easter_in y
  have hb1 := Cal.beg_mono y1
  have hb2 := Cal.beg_mono y2
  rw [Cal.beg_1800] at hb1
  rw [Cal.beg_2347] at hb2
  have hl := Cal.lp_le y
  go_enter Tryd.func102, Tryd.ntmps102
  go_wp2_with fail
  go_quiet (first | (go_at_call 80; exact quiet_left (easter_any _ (by omega) (by omega) _ (hT'.out _ _))))
  go_wp2
  go_ret2
  exact ⟨rfl, below_drewN (below_alloc _ _) _⟩
set_option maxHeartbeats 2000000 in
theorem on_2 (nm : ByteArray) (month day wd y : Int) (m1 : 1 ≤ month) (m2 : month ≤ 12) (d1 : 1 ≤ day) (d2 : day ≤ 4) (w1 : 0 ≤ wd) (w2 : wd ≤ 6) (y1 : 1800 ≤ y) (y2 : y ≤ 2347) (w : World) (hT : Tab w) :
    Calls Tryd.prog 102 #[.agg #[.string nm, .int .i64 2, .int .i64 month, .int .i64 day, .int .i64 wd], .int .i64 y] w fun e w' => e = .returned (.tuple #[.int .i64 ((Cal.first y month + (wd - (Cal.first y month + 2) % 7 + 7) % 7) + 7 * (day - 1)), .bool true]) ∧ Below w.heap.size w w' := by
  have hT' := Lib.hid (fun o n => (hT.alloc o).drewN n); clear hT
  have hfb := Cal.first_bd y month y1 (by omega)
  have hmb := Cal.mlen_bd y month
  go_enter Tryd.func102, Tryd.ntmps102
  go_wp2_with (first | (go_at_call 88; refine (dayOf_any _ _ _ (by omega) (by omega) m1 m2 (by omega) (by omega) _ (hT'.out _ 0)).mono ?_; rintro e w' ⟨rfl, rfl⟩))
  go_quiet (first | (go_at_call 81; exact quiet_left (weekday_any _ (by omega) (by omega) _)))
  go_wp2
  go_ret2
  exact ⟨ret_ib (by omega) rfl, below_drewN (below_alloc _ _) _⟩
set_option maxHeartbeats 2000000 in
theorem on_3 (nm : ByteArray) (month wd y : Int) (m1 : 1 ≤ month) (m2 : month ≤ 12) (w1 : 0 ≤ wd) (w2 : wd ≤ 6) (y1 : 1800 ≤ y) (y2 : y ≤ 2347) (w : World) (hT : Tab w) :
    Calls Tryd.prog 102 #[.agg #[.string nm, .int .i64 2, .int .i64 month, .int .i64 (-1), .int .i64 wd], .int .i64 y] w fun e w' => e = .returned (.tuple #[.int .i64 (Cal.first y month + Cal.mlen y month - 1 - (Cal.first y month + Cal.mlen y month - 1 - (Cal.first y month + (wd - (Cal.first y month + 2) % 7 + 7) % 7)) % 7), .bool true]) ∧ Below w.heap.size w w' := by
  have hT' := Lib.hid (fun o n => (hT.alloc o).drewN n); clear hT
  have hfb := Cal.first_bd y month y1 (by omega)
  have hmb := Cal.mlen_bd y month
  go_enter Tryd.func102, Tryd.ntmps102
  go_wp2_with (first | (go_at_call 88; refine (dayOf_any _ _ _ (by omega) (by omega) m1 m2 (by omega) (by omega) _ (hT'.out _ 0)).mono ?_; rintro e w' ⟨rfl, rfl⟩))
  go_quiet (first | (go_at_call 81; exact quiet_left (weekday_any _ (by omega) (by omega) _)))
  go_wp2_with fail
  go_quiet (first | (go_at_call 87; exact quiet_add_left (length_any _ _ (by omega) m1 m2 _ (hT'.out _ _))) | (go_at_call 88; exact quiet_add_left (dayOf_any _ _ _ (by omega) (by omega) m1 m2 (by omega) (by omega) _ (hT'.out _ _))))
  go_wp2
  go_ret2
  exact ⟨ret_ib (by omega) rfl, below_drewN (below_alloc _ _) _⟩
def OnPost (w : World) (p : Hol) (y : Int) (e : Ending) (w' : World) : Prop := ∃ (D : Int) (b : Bool), e = .returned (.tuple #[.int .i64 D, .bool b]) ∧ Cal.onS p y = (if b = true then some D else none) ∧ Below w.heap.size w w'
theorem on_any (p : Hol) (hp : Cal.holErrOf p = 0) (y : Int) (y1 : 1800 ≤ y) (y2 : y ≤ 2347) (w : World) (hT : Tab w) :
    Calls Tryd.prog 102 #[.agg #[.string p.name, .int .i64 p.kind, .int .i64 p.month, .int .i64 p.day, .int .i64 p.weekday], .int .i64 y] w (OnPost w p y) := by
  have hc := Cal.hol_cases hp
  clear hp
  obtain ⟨nm, kind, month, day, wd⟩ := p
  simp only at hc ⊢
  rcases hc with ⟨rfl, m1, m2, d1, d2⟩ | ⟨rfl, d1, d2⟩ | ⟨rfl, m1, m2, ⟨d1, d2⟩ | rfl, w1, w2⟩
  · exact (on_0 nm month day wd y m1 m2 d1 d2 y1 y2 w hT).mono fun e w' ⟨he, hb⟩ => ⟨_, _, he, by unfold Cal.onS; simp, hb⟩
  · exact (on_1 nm month day wd y d1 d2 y1 y2 w hT).mono fun e w' ⟨he, hb⟩ => ⟨_, _, he, by unfold Cal.onS; simp, hb⟩
  · exact (on_2 nm month day wd y m1 m2 d1 d2 w1 w2 y1 y2 w hT).mono fun e w' ⟨he, hb⟩ => ⟨_, _, he, by unfold Cal.onS; simp only; rw [if_neg (by decide), if_neg (by decide), if_pos (by omega)]; rfl, hb⟩
  · exact (on_3 nm month wd y m1 m2 w1 w2 y1 y2 w hT).mono fun e w' ⟨he, hb⟩ => ⟨_, _, he, by unfold Cal.onS; simp only; rw [if_neg (by decide), if_neg (by decide), if_neg (by decide)]; rfl, hb⟩
theorem Cal.hols_snoc {l : List Hol} {k : Nat} (hlt : k < l.length) (y : Int) : Cal.hols (l.take (k + 1)) y = Cal.hols (l.take k) y ++ (match Cal.onS l[k] y with | some d => [d] | none => []) := by
  unfold Cal.hols
  rw [List.take_succ_eq_append_getElem hlt, List.filterMap_append]
  congr 1
  cases h : Cal.onS l[k] y <;> simp [h]
theorem Cal.hols_length (l : List Hol) (y : Int) : (Cal.hols l y).length ≤ l.length := List.length_filterMap_le _ _
theorem IntsL.slice {w : World} {B : Nat} {v : Value} {zs : List Int} (h : IntsL w B v zs) (hs : zs.length ≤ 1000000) : SliceOf w B v zs := by
  obtain ⟨A, c, rfl, _⟩ := h.rows
  refine ⟨A, c, rfl, hs, fun hne => ?_⟩
  rcases h.own.2 with ⟨_, h0⟩ | ⟨g, cap, cur, hv, hb, hg, h1, h2, h3, h4⟩
  · exact absurd (List.eq_nil_of_length_eq_zero h0) hne
  · simp only [Value.slice.injEq, true_and] at hv
    obtain ⟨rfl, rfl⟩ := hv
    refine ⟨g, cur, _, rfl, hb, hg, fun j x hx => ?_⟩
    have hj : j < zs.length := (List.getElem?_eq_some_iff.1 hx).1
    have := congrArg (·[j]?) h4
    simp only [List.getElem?_take, Nat.mul_one, hj, if_true, List.getElem?_map, hx] at this
    rw [Array.getElem?_toList] at this
    exact this
theorem IntsL.grown {w w' : World} {B : Nat} {v : Value} {zs : List Int} (h : IntsL w B v zs) (hg : w.grownBy w' v.ownBlock) (hs : B ≤ w.heap.size) : Below B w w' :=
  grown_below hg (fun g e => (OwnL.lt h g e).1) hs
theorem Tab.hid {w : World} (h : Tab w) : ∀ w', Below w.heap.size w w' → Tab w' := fun _ hb => h.below hb
set_option maxRecDepth 100000 in
set_option maxHeartbeats 2000000 in
theorem holidaysOf_any (A : Option Addr) (c : Nat) (l : List Hol) (hok : Cal.HolsOk l) (hlen : l.length ≤ 1000) : HolCalls A c l := by
  intro y w y1 y2 hl hT
  have hT' := Lib.hid hT.hid
  have hl' := Lib.hid hl
  have hsz := hl.size
  have h0 : Hid (IntsL w w.heap.size (.slice none 0 0) (Cal.hols (l.take 0) y)) := OwnL.nil _ _ _ _
  clear hl hT
  go_enter Tryd.func70, Tryd.ntmps70
  go_wp2
  go_loopw [5, 12] (fun o i wr => ∃ k : Nat, k ≤ l.length ∧ i = .int .i64 k ∧ Hid (IntsL wr w.heap.size o (Cal.hols (l.take k) y)) ∧ Hid (Below w.heap.size w wr)) (fun _ i _ => l.length - (intOf i).toNat)
  case atStart => exact ⟨0, Nat.zero_le _, rfl, h0, Below.refl _ _⟩
  case round =>
    obtain ⟨k, hk, rfl, hown, hb⟩ := hrel
    clear h0
    by_cases hlt : k < l.length
    · have hk' : l[k]? = some l[k] := List.getElem?_eq_getElem hlt
      have hsn := Lib.hid (Cal.hols_snoc hlt y)
      have hp := hok _ (List.getElem_mem hlt)
      have hln := Cal.hols_length (l.take k) y
      rw [List.length_take] at hln
      obtain ⟨b, o, rfl, hbl, c0, c1, c2, c3, c4⟩ := (hl'.out.below hb.out).at_ hk'
      clear hk'
      generalize l[k] = p at *
      have hbs := hb.out.size
      go_wp2_with fail
      refine (on_any p hp y y1 y2 _ (hT'.out _ (hb.out.alloc hbs _))).mono ?_
      rintro e w1 ⟨D, bb, rfl, hon, hb1⟩
      have hbw1 := Lib.hid (below_step (hb.out.alloc hbs _) hb1)
      have hb1' := below_step (below_alloc _ _) hb1
      have hown1 := Lib.hid (hown.out.below hb1')
      clear hb1 hb1' hown
      cases bb
      · have hnx : Hid (Cal.hols (l.take (k + 1)) y = Cal.hols (l.take k) y) := by show _ = _; rw [hsn.out, hon]; simp
        clear hon
        go_wp2_with fail
        go_roundw
        case rel => exact ⟨k + 1, by omega, by go_num, by rw [hnx.out]; exact hown1, hbw1⟩
        case measure => simp [intOf]; omega
      · have hnx : Hid (Cal.hols (l.take (k + 1)) y = Cal.hols (l.take k) y ++ [D]) := by show _ = _; rw [hsn.out, hon]; simp
        clear hon
        have hbs1 := hbw1.out.size
        generalize Cal.hols (l.take k) y = zs at *
        go_wp2_with (at_builtin; refine wpList_append_rows elemInt rfl _ _ rfl rfl rfl (hown1.out.below (below_alloc _ _)) (rowsAt_new _ [.int .i64 D] _) rfl (intRows_wid [D]) (intRows_one [D]) (by rw [intRows_length]; simp; omega) (by decide) (by simp; omega) ?_; intro v' w2 hown2 hg2 _)
        have hb2 : Below w.heap.size w w2 := (hbw1.out.alloc hbs1 _).trans (grown_below hg2 (fun g e => (OwnL.lt hown1.out g e).1) (by simp; omega))
        have hown2' : IntsL w2 w.heap.size v' (zs ++ [D]) := by unfold IntsL intRows; rw [List.map_append]; exact hown2
        have hb2 := Lib.hid hb2
        have hown2' := Lib.hid hown2'
        clear hown2 hg2
        go_wp2_with fail
        go_roundw
        case rel => exact ⟨k + 1, by omega, by go_num, by rw [hnx.out]; exact hown2', hb2⟩
        case measure => simp [intOf]; omega
    · obtain rfl : k = l.length := by omega
      have hln := Cal.hols_length l y
      have hown := Lib.hid (show IntsL _ _ _ (Cal.hols l y) by have := hown.out; rwa [List.take_length] at this)
      have hbs := hb.out.size
      go_wp2_with fail
      refine (Sort_own _ w.heap.size _ _ hown.out (by omega)).mono ?_
      rintro e w1 ⟨rfl, hs1, hg1⟩
      have hb1 := hown.out.grown hg1 hbs
      have hbs1 := hb1.size
      have hlm : ((Cal.hols l y).mergeSort fun x y => decide (x ≤ y)).length = (Cal.hols l y).length := List.length_mergeSort _
      go_wp2_with fail
      refine (Compact_own _ w.heap.size _ _ hs1 (by omega)).mono ?_
      rintro e w2 ⟨v2, rfl, hs2, hg2, _⟩
      have hb2 := hs1.grown hg2 (by omega)
      have hu := Cal.ups_spec (Cal.hols l y)
      have hul := Cal.ups_length (Cal.hols l y)
      go_wp2
      go_ret
      exact ⟨v2, Cal.ups (Cal.hols l y), rfl, IntsL.slice hs2 (Nat.le_trans hul (by omega)), hu, hb.out.trans (hb1.trans hb2)⟩
end Go.Proofs.YtoigamkldccnkaaDoor
