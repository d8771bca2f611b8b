/- Chapter 8 and what it rests on: definitions and walks, part 27. -/
import Derived.Test.YtbegbajlagcbdaaGreatDoorC20
import Derived.Test.YtbegbajlagcbdaaGreatDoorC07
namespace Go.Proofs.YtbegbajlagcbdaaGreatDoor
open Go Go.RowKit
/-- Numbers from an address on. -/
structure NumsAt (w : World) (b o : Nat) (zs : List Int) : Prop where
  c : ∀ (k : Nat) z, zs[k]? = some z → w.cell? ⟨b, o + k, none⟩ = some (.int .i64 z)
  lt : b < w.heap.size
  le : zs.length ≤ 1000000
theorem NumsAt.below {w w' : World} {b o : Nat} {zs : List Int} (h : NumsAt w b o zs) (hb : Below w.heap.size w w') : NumsAt w' b o zs := ⟨fun k z hz => (hb.cell (p := ⟨b, o + k, none⟩) h.lt).trans (h.c k z hz), Nat.lt_of_lt_of_le h.lt hb.size, h.le⟩
def inB (most z : Int) : Bool := decide (0 ≤ z) && decide (z ≤ most)
def allB (zs : List Int) (most : Int) : Bool := zs.all (inB most)
theorem all1_any (z most : Int) (B : Nat) (w : World) (h : w.cell? ⟨B, 0, none⟩ = some (.int .i64 most)) : Calls Tryz.prog 159 #[.int .i64 z, .pointer (some ⟨B, 0, none⟩)] w fun e w' => e = .returned (.bool (!(inB most z))) ∧ w = w' := by
  go_enter Tryz.func159, Tryz.ntmps159
  go_wp2_with (go_at_call 56; refine (nwithin_any _ _ _ _).mono ?_; rintro e w' ⟨rfl, rfl⟩)
  go_ret
  exact ⟨ret_bool (by simp [inB]), rfl⟩
def IdxPost (zs : List Int) (most : Int) (w : World) (e : Ending) (w' : World) : Prop := (∃ i : Int, e = .returned (.int .i64 i) ∧ -1 ≤ i ∧ decide (0 ≤ i) = !(allB zs most)) ∧ w = w'
theorem IndexAll_any (zs : List Int) (most : Int) (B b o c : Nat) (w : World) (h : w.cell? ⟨B, 0, none⟩ = some (.int .i64 most)) (hz : NumsAt w b o zs) :
    Calls Tryz.prog 218 #[.slice (some ⟨b, o, none⟩) zs.length c, .func (.func 159) #[] #[.pointer (some ⟨B, 0, none⟩)]] w (IdxPost zs most w) := by
  have hz := Lib.hid hz
  have hle := hz.out.le
  have hinit : Hid ((zs.take 0).all (inB most) = true) := rfl
  go_enter Tryz.func218, Tryz.ntmps218
  go_wp2
  go_loop [8] (fun i => ∃ k : Nat, k ≤ zs.length ∧ i = .int .i64 k ∧ Hid ((zs.take k).all (inB most) = true)) (fun i => zs.length - (intOf i).toNat)
  case atStart => exact ⟨0, Nat.zero_le _, rfl, hinit⟩
  case round =>
    obtain ⟨k, hk, rfl, hall⟩ := hrel
    clear hinit
    by_cases hlt : k < zs.length
    · have hkz := hz.out.c k _ (List.getElem?_eq_getElem hlt)
      have htk : zs.take (k + 1) = zs.take k ++ [zs[k]] := List.take_succ_eq_append_getElem hlt
      have hmem : zs[k] ∈ zs := List.getElem_mem hlt
      generalize zs[k] = z at *
      cases hin : inB most z
      · have hfin : Hid (allB zs most = false) := by
          show _ = _
          unfold allB
          rw [List.all_eq_false]
          exact ⟨z, hmem, by rw [hin]; simp⟩
        have hinz := Lib.hid hin
        clear hin htk hmem
        go_wp2_with (go_at_call 159; refine (all1_any z most B _ h).mono ?_; rintro e w' ⟨rfl, rfl⟩; rw [hinz.out])
        go_ret
        exact ⟨⟨k, rfl, by omega, by rw [hfin.out]; simp⟩, rfl⟩
      · have hnx : Hid ((zs.take (k + 1)).all (inB most) = true) := by show _ = _; rw [htk, List.all_append, hall.out]; simp [hin]
        have hinz := Lib.hid hin
        clear hin htk hmem
        go_wp2_with (go_at_call 159; refine (all1_any z most B _ h).mono ?_; rintro e w' ⟨rfl, rfl⟩; rw [hinz.out])
        go_round
        case rel => exact ⟨k + 1, by omega, by go_num, hnx⟩
        case measure => simp [intOf]; omega
    · have hfin : Hid (allB zs most = true) := by
        have h := hall.out
        rw [List.take_of_length_le (by omega)] at h
        exact h
      have hge : zs.length = k := by omega
      clear hall
      go_wp2
      go_ret
      exact ⟨⟨-1, rfl, by omega, by rw [hfin.out]; rfl⟩, rfl⟩
theorem ContainsAll_any (zs : List Int) (most : Int) (B b o c : Nat) (w : World) (h : w.cell? ⟨B, 0, none⟩ = some (.int .i64 most)) (hz : NumsAt w b o zs) :
    Calls Tryz.prog 158 #[.slice (some ⟨b, o, none⟩) zs.length c, .func (.func 159) #[] #[.pointer (some ⟨B, 0, none⟩)]] w fun e w' => e = .returned (.bool (!(allB zs most))) ∧ w = w' := by
  have hi := Lib.hid (IndexAll_any zs most B b o c w h hz)
  go_enter Tryz.func158, Tryz.ntmps158
  go_wp2_with fail
  refine hi.out.mono ?_
  rintro e w' ⟨⟨i, rfl, hi1, hi2⟩, rfl⟩
  have hi2 := Lib.hid hi2
  go_wp2_with fail
  go_ret
  exact ⟨by first | rfl | exact ret_bool hi2.out, rfl⟩
theorem all_any (zs : List Int) (most : Int) (b o c : Nat) (w : World) (hz : NumsAt w b o zs) :
    Calls Tryz.prog 103 #[.slice (some ⟨b, o, none⟩) zs.length c, .int .i64 most] w fun e w' => e = .returned (.bool (allB zs most)) ∧ Below w.heap.size w w' := by
  have hb := Lib.hid (below_alloc w (.cells #[.int .i64 most] 3))
  have hz := Lib.hid hz
  have hc : Hid ((w.alloc (.cells #[.int .i64 most] 3)).cell? ⟨w.heap.size, 0, none⟩ = some (.int .i64 most)) := by show _ = _; rw [cell_alloc_at]; rfl
  go_enter Tryz.func103, Tryz.ntmps103
  go_wp2_with fail
  refine (ContainsAll_any zs most _ b o c _ hc.out (hz.out.below hb.out)).mono ?_
  rintro e w' ⟨rfl, rfl⟩
  go_wp2_with fail
  go_ret
  exact ⟨ret_bool (by simp), hb.out⟩
end Go.Proofs.YtbegbajlagcbdaaGreatDoor
namespace Go.Proofs.YtbegbajlagcbdaaGreatDoor
open Go Go.RowKit
theorem less_any (x y : Int) (w : World) : Calls Tryz.prog 160 #[.int .i64 x, .int .i64 y] w fun e w' => e = .returned (.bool (decide (x < y))) ∧ w = w' := (Tryz.cmp_Less_int2 x y w).mono fun _ _ h => ⟨h.1, h.2.symm⟩
theorem falls1_any (x y : Int) (w : World) : Calls Tryz.prog 162 #[.int .i64 x, .int .i64 y] w fun e w' => e = .returned (.int .i64 (Lib.compareInt y x)) ∧ w = w' := by
  go_enter Tryz.func162, Tryz.ntmps162
  go_wp2_with fail
  refine (Tryz.cmp_Compare_int y x w).mono ?_
  rintro e w' ⟨rfl, rfl⟩
  go_wp2_with fail
  go_ret
  exact ⟨rfl, rfl⟩
theorem cmp_neg (x y : Int) : decide (Lib.compareInt x y < 0) = decide (x < y) := by
  unfold Lib.compareInt
  split
  · rename_i h; simp [h]
  · split <;> simp <;> omega
/-- Whether numbers never fall from a place on, and never rise. -/
def upTo (zs : List Int) (k : Nat) : Prop := ∀ j, k ≤ j → j + 1 < zs.length → zs.getD j 0 ≤ zs.getD (j + 1) 0
def downTo (zs : List Int) (k : Nat) : Prop := ∀ j, k ≤ j → j + 1 < zs.length → zs.getD (j + 1) 0 ≤ zs.getD j 0
def upB (zs : List Int) : Bool := decide (∀ j, j < zs.length - 1 → zs.getD j 0 ≤ zs.getD (j + 1) 0)
def downB (zs : List Int) : Bool := decide (∀ j, j < zs.length - 1 → zs.getD (j + 1) 0 ≤ zs.getD j 0)
theorem upB_yes {zs : List Int} (h : upTo zs 0) : upB zs = true := by unfold upB; rw [decide_eq_true_eq]; exact fun j hj => h j (Nat.zero_le _) (by omega)
theorem downB_yes {zs : List Int} (h : downTo zs 0) : downB zs = true := by unfold downB; rw [decide_eq_true_eq]; exact fun j hj => h j (Nat.zero_le _) (by omega)
theorem upB_no {zs : List Int} {k : Nat} (hk : k + 1 < zs.length) (h : zs.getD (k + 1) 0 < zs.getD k 0) : upB zs = false := by unfold upB; rw [decide_eq_false_iff_not]; intro h2; have := h2 k (by omega); omega
theorem downB_no {zs : List Int} {k : Nat} (hk : k + 1 < zs.length) (h : zs.getD k 0 < zs.getD (k + 1) 0) : downB zs = false := by unfold downB; rw [decide_eq_false_iff_not]; intro h2; have := h2 k (by omega); omega
theorem NumsAt.d {w : World} {b o : Nat} {zs : List Int} (h : NumsAt w b o zs) {k : Nat} (hk : k < zs.length) : w.cell? ⟨b, o + k, none⟩ = some (.int .i64 (zs.getD k 0)) := h.c k _ (by rw [List.getD_eq_getElem?_getD, List.getElem?_eq_getElem hk]; rfl)
set_option maxHeartbeats 1000000 in
theorem IsSorted_any (zs : List Int) (b o c : Nat) (w : World) (hz : NumsAt w b o zs) :
    Calls Tryz.prog 104 #[.slice (some ⟨b, o, none⟩) zs.length c] w fun e w' => e = .returned (.bool (upB zs)) ∧ Below w.heap.size w w' := by
  have hz0 := Lib.hid hz
  have hle := hz.le
  have hinit : Hid (upTo zs (zs.length - 1)) := fun j h1 h2 => by omega
  go_enter Tryz.func104, Tryz.ntmps104
  go_wp2
  go_loopw [3] (fun i wr => ∃ (k n : Nat), (k = 0 ∨ k < zs.length) ∧ ((zs.length = 0 ∧ i = .int .i64 (-1)) ∨ (0 < zs.length ∧ i = .int .i64 k)) ∧ Hid (upTo zs k) ∧ wr = w.drewN n) (fun i _ => (intOf i).toNat)
  case atStart => exact ⟨zs.length - 1, 0, by omega, by rcases Nat.eq_zero_or_pos zs.length with h | h; exact .inl ⟨h, by rw [h]; rfl⟩; exact .inr ⟨h, by congr 1; omega⟩, hinit, rfl⟩
  case round =>
    obtain ⟨k, n, hk, hi, hinv, rfl⟩ := hrel
    clear hinit
    rcases hi with ⟨h0, rfl⟩ | ⟨hpos, rfl⟩
    · have hfin : Hid (_ = true) := upB_yes (zs := zs) (fun j h1 h2 => by omega)
      go_wp2
      go_ret
      exact ⟨ret_bool hfin.out.symm, below_drewN (Below.refl _ _) _⟩
    · rcases Nat.eq_zero_or_pos k with rfl | hkp
      · have hfin : Hid (_ = true) := upB_yes (zs := zs) hinv.out
        go_wp2
        go_ret
        exact ⟨ret_bool hfin.out.symm, below_drewN (Below.refl _ _) _⟩
      · obtain ⟨q, hq0⟩ : ∃ q, k = q + 1 := ⟨k - 1, by omega⟩
        have hk2 : q + 1 < zs.length := by omega
        have d1 := hz0.out.d (k := k) (by omega)
        have d0 := hz0.out.d (k := q) (by omega)
        have hdiff : IntKind.i64.wrap ((k : Int) - 1) = (q : Int) := by rw [IntWalk.i64_in _ (by omega)]; omega
        have p1 : 0 < (k : Int) := by omega
        have p2 : (0 : Int) ≤ (k : Int) := by omega
        have p3 : (k : Int) < zs.length := by omega
        have p4 : (q : Int) < zs.length := by omega
        have p5 : (0 : Int) ≤ (q : Int) := by omega
        rw [hq0] at hinv
        have hs := Lib.hid (fun (h : ¬ _ < _) => show upTo zs q from fun j h1 h2 => by
          rcases Nat.lt_or_ge q j with h3 | h3
          · exact hinv.out j h3 h2
          · obtain rfl : j = q := by omega
            exact Int.not_lt.1 h)
        have hn := Lib.hid (fun h => upB_no hk2 h)
        rw [← hq0] at hs hn
        have hq := Lib.hid hq0
        have hk2z := Lib.hid hk2
        clear hinv hq0 hk2 hk
        generalize zs.getD k 0 = x1 at *
        generalize zs.getD q 0 = x0 at *
        by_cases hx : x1 < x0
        · have hfin := Lib.hid (hn.out hx)
          have hd : decide (x1 < x0) = true := by simpa using hx
          clear hx hs hn
          go_wp2_with fail
          refine wp_region_held_drew (S := (fun w' => w'.cell? ⟨b, o + k, none⟩ = some (.int .i64 x1) ∧ w'.cell? ⟨b, o + q, none⟩ = some (.int .i64 x0))) (by kernel_rfl) ⟨d1, d0⟩ (fun hHeld => ?_)
          (refine tkH 0 (v := ?_) ?_ ?_; rotate_left; focus (intro w' hSw; (try dsimp only at hSw); go_simp; (try with_reducible rfl)); (try simp only [Act.put, List.setIfInBounds_toArray, List.set_cons_zero, List.set_cons_succ]))
          (refine tkH 1 (v := ?_) ?_ ?_; rotate_left; focus (intro w' hSw; (try dsimp only at hSw); go_simp; (try with_reducible rfl)); (try simp only [Act.put, List.setIfInBounds_toArray, List.set_cons_zero, List.set_cons_succ]))
          (refine tkH 2 (v := ?_) ?_ ?_; rotate_left; focus (intro w' hSw; (try dsimp only at hSw); go_simp; (try with_reducible rfl)); (try simp only [Act.put, List.setIfInBounds_toArray, List.set_cons_zero, List.set_cons_succ]))
          (refine tkH 3 (v := ?_) ?_ ?_; rotate_left; focus (intro w' hSw; (try dsimp only at hSw); go_simp; (try with_reducible rfl)); (try simp only [Act.put, List.setIfInBounds_toArray, List.set_cons_zero, List.set_cons_succ]))
          (refine tkH 4 (v := ?_) ?_ ?_; rotate_left; focus (intro w' hSw; (try dsimp only at hSw); go_simp; (try with_reducible rfl)); (try simp only [Act.put, List.setIfInBounds_toArray, List.set_cons_zero, List.set_cons_succ]))
          (refine tkH 5 (v := ?_) ?_ ?_; rotate_left; focus (intro w' hSw; (try dsimp only at hSw); go_simp; (try with_reducible rfl)); (try simp only [Act.put, List.setIfInBounds_toArray, List.set_cons_zero, List.set_cons_succ]))
          (refine tkH 6 (v := ?_) ?_ ?_; rotate_left; focus (intro w' hSw; (try dsimp only at hSw); go_simp; (try with_reducible rfl)); (try simp only [Act.put, List.setIfInBounds_toArray, List.set_cons_zero, List.set_cons_succ]))
          (refine tkH 7 (v := ?_) ?_ ?_; rotate_left; focus (intro w' hSw; (try dsimp only at hSw); go_simp; (try with_reducible rfl)); (try simp only [Act.put, List.setIfInBounds_toArray, List.set_cons_zero, List.set_cons_succ]))
          (refine tkH 8 (v := ?_) ?_ ?_; rotate_left; focus (intro w' hSw; (try dsimp only at hSw); go_simp; (try with_reducible rfl)); (try simp only [Act.put, List.setIfInBounds_toArray, List.set_cons_zero, List.set_cons_succ]))
          (refine wpAnyH_ready (rs := [9]) (by decide +kernel) (by simp) ?_; refine AllReadyH.cons rfl (fun K hK => ?_) AllReadyH.nil; rw [if_pos (by kernel_rfl)]; go_simp)
          refine (less_any _ _ _).mono ?_
          rintro e w' ⟨rfl, rfl⟩
          go_simp
          (refine hK.out _ _ ⟨d1, d0⟩ (fun hHeld => ?_); clear hK K; (try simp only [Act.put, List.setIfInBounds_toArray]); (try simp only [List.set_cons_zero, List.set_cons_succ]))
          refine wpAnyH_done (by kernel_rfl) ?_ _
          clear hHeld
          go_wp2_with fail
          go_ret
          exact ⟨ret_bool hfin.out.symm, below_drewN (below_drewN (Below.refl _ _) _) 1⟩
        · have hnx := Lib.hid (hs.out hx)
          have hd : decide (x1 < x0) = false := by simpa using hx
          clear hx hs hn
          go_wp2_with fail
          refine wp_region_held_drew (S := (fun w' => w'.cell? ⟨b, o + k, none⟩ = some (.int .i64 x1) ∧ w'.cell? ⟨b, o + q, none⟩ = some (.int .i64 x0))) (by kernel_rfl) ⟨d1, d0⟩ (fun hHeld => ?_)
          (refine tkH 0 (v := ?_) ?_ ?_; rotate_left; focus (intro w' hSw; (try dsimp only at hSw); go_simp; (try with_reducible rfl)); (try simp only [Act.put, List.setIfInBounds_toArray, List.set_cons_zero, List.set_cons_succ]))
          (refine tkH 1 (v := ?_) ?_ ?_; rotate_left; focus (intro w' hSw; (try dsimp only at hSw); go_simp; (try with_reducible rfl)); (try simp only [Act.put, List.setIfInBounds_toArray, List.set_cons_zero, List.set_cons_succ]))
          (refine tkH 2 (v := ?_) ?_ ?_; rotate_left; focus (intro w' hSw; (try dsimp only at hSw); go_simp; (try with_reducible rfl)); (try simp only [Act.put, List.setIfInBounds_toArray, List.set_cons_zero, List.set_cons_succ]))
          (refine tkH 3 (v := ?_) ?_ ?_; rotate_left; focus (intro w' hSw; (try dsimp only at hSw); go_simp; (try with_reducible rfl)); (try simp only [Act.put, List.setIfInBounds_toArray, List.set_cons_zero, List.set_cons_succ]))
          (refine tkH 4 (v := ?_) ?_ ?_; rotate_left; focus (intro w' hSw; (try dsimp only at hSw); go_simp; (try with_reducible rfl)); (try simp only [Act.put, List.setIfInBounds_toArray, List.set_cons_zero, List.set_cons_succ]))
          (refine tkH 5 (v := ?_) ?_ ?_; rotate_left; focus (intro w' hSw; (try dsimp only at hSw); go_simp; (try with_reducible rfl)); (try simp only [Act.put, List.setIfInBounds_toArray, List.set_cons_zero, List.set_cons_succ]))
          (refine tkH 6 (v := ?_) ?_ ?_; rotate_left; focus (intro w' hSw; (try dsimp only at hSw); go_simp; (try with_reducible rfl)); (try simp only [Act.put, List.setIfInBounds_toArray, List.set_cons_zero, List.set_cons_succ]))
          (refine tkH 7 (v := ?_) ?_ ?_; rotate_left; focus (intro w' hSw; (try dsimp only at hSw); go_simp; (try with_reducible rfl)); (try simp only [Act.put, List.setIfInBounds_toArray, List.set_cons_zero, List.set_cons_succ]))
          (refine tkH 8 (v := ?_) ?_ ?_; rotate_left; focus (intro w' hSw; (try dsimp only at hSw); go_simp; (try with_reducible rfl)); (try simp only [Act.put, List.setIfInBounds_toArray, List.set_cons_zero, List.set_cons_succ]))
          (refine wpAnyH_ready (rs := [9]) (by decide +kernel) (by simp) ?_; refine AllReadyH.cons rfl (fun K hK => ?_) AllReadyH.nil; rw [if_pos (by kernel_rfl)]; go_simp)
          refine (less_any _ _ _).mono ?_
          rintro e w' ⟨rfl, rfl⟩
          go_simp
          (refine hK.out _ _ ⟨d1, d0⟩ (fun hHeld => ?_); clear hK K; (try simp only [Act.put, List.setIfInBounds_toArray]); (try simp only [List.set_cons_zero, List.set_cons_succ]))
          refine wpAnyH_done (by kernel_rfl) ?_ _
          clear hHeld
          go_wp2_with fail
          go_roundw
          case rel => exact ⟨q, n + 1, by have := hk2z.out; omega, .inr ⟨hpos, by first | rfl | go_num⟩, hnx, rfl⟩
          case measure => have := hq.out; simp [intOf]; omega
set_option maxHeartbeats 1000000 in
theorem IsSortedFunc_any (zs : List Int) (b o c : Nat) (w : World) (hz : NumsAt w b o zs) :
    Calls Tryz.prog 161 #[.slice (some ⟨b, o, none⟩) zs.length c, .func (.func 162) #[] #[]] w fun e w' => e = .returned (.bool (downB zs)) ∧ Below w.heap.size w w' := by
  have hz0 := Lib.hid hz
  have hle := hz.le
  have hinit : Hid (downTo zs (zs.length - 1)) := fun j h1 h2 => by omega
  go_enter Tryz.func161, Tryz.ntmps161
  go_wp2
  go_loopw [5] (fun i wr => ∃ (k n : Nat), (k = 0 ∨ k < zs.length) ∧ ((zs.length = 0 ∧ i = .int .i64 (-1)) ∨ (0 < zs.length ∧ i = .int .i64 k)) ∧ Hid (downTo zs k) ∧ wr = w.drewN n) (fun i _ => (intOf i).toNat)
  case atStart => exact ⟨zs.length - 1, 0, by omega, by rcases Nat.eq_zero_or_pos zs.length with h | h; exact .inl ⟨h, by rw [h]; rfl⟩; exact .inr ⟨h, by congr 1; omega⟩, hinit, rfl⟩
  case round =>
    obtain ⟨k, n, hk, hi, hinv, rfl⟩ := hrel
    clear hinit
    rcases hi with ⟨h0, rfl⟩ | ⟨hpos, rfl⟩
    · have hfin : Hid (_ = true) := downB_yes (zs := zs) (fun j h1 h2 => by omega)
      go_wp2
      go_ret
      exact ⟨ret_bool hfin.out.symm, below_drewN (Below.refl _ _) _⟩
    · rcases Nat.eq_zero_or_pos k with rfl | hkp
      · have hfin : Hid (_ = true) := downB_yes (zs := zs) hinv.out
        go_wp2
        go_ret
        exact ⟨ret_bool hfin.out.symm, below_drewN (Below.refl _ _) _⟩
      · obtain ⟨q, hq0⟩ : ∃ q, k = q + 1 := ⟨k - 1, by omega⟩
        have hk2 : q + 1 < zs.length := by omega
        have d1 := hz0.out.d (k := k) (by omega)
        have d0 := hz0.out.d (k := q) (by omega)
        have hdiff : IntKind.i64.wrap ((k : Int) - 1) = (q : Int) := by rw [IntWalk.i64_in _ (by omega)]; omega
        have p1 : 0 < (k : Int) := by omega
        have p2 : (0 : Int) ≤ (k : Int) := by omega
        have p3 : (k : Int) < zs.length := by omega
        have p4 : (q : Int) < zs.length := by omega
        have p5 : (0 : Int) ≤ (q : Int) := by omega
        rw [hq0] at hinv
        have hs := Lib.hid (fun (h : ¬ _ < _) => show downTo zs q from fun j h1 h2 => by
          rcases Nat.lt_or_ge q j with h3 | h3
          · exact hinv.out j h3 h2
          · obtain rfl : j = q := by omega
            exact Int.not_lt.1 h)
        have hn := Lib.hid (fun h => downB_no hk2 h)
        rw [← hq0] at hs hn
        have hq := Lib.hid hq0
        have hk2z := Lib.hid hk2
        clear hinv hq0 hk2 hk
        generalize zs.getD k 0 = x1 at *
        generalize zs.getD q 0 = x0 at *
        by_cases hx : x0 < x1
        · have hfin := Lib.hid (hn.out hx)
          have hd : decide (Lib.compareInt x0 x1 < 0) = true := by rw [cmp_neg]; simpa using hx
          clear hx hs hn
          go_wp2_with fail
          refine wp_region_held_drew (S := (fun w' => w'.cell? ⟨b, o + k, none⟩ = some (.int .i64 x1) ∧ w'.cell? ⟨b, o + q, none⟩ = some (.int .i64 x0))) (by kernel_rfl) ⟨d1, d0⟩ (fun hHeld => ?_)
          (refine tkH 0 (v := ?_) ?_ ?_; rotate_left; focus (intro w' hSw; (try dsimp only at hSw); go_simp; (try with_reducible rfl)); (try simp only [Act.put, List.setIfInBounds_toArray, List.set_cons_zero, List.set_cons_succ]))
          (refine tkH 1 (v := ?_) ?_ ?_; rotate_left; focus (intro w' hSw; (try dsimp only at hSw); go_simp; (try with_reducible rfl)); (try simp only [Act.put, List.setIfInBounds_toArray, List.set_cons_zero, List.set_cons_succ]))
          (refine tkH 2 (v := ?_) ?_ ?_; rotate_left; focus (intro w' hSw; (try dsimp only at hSw); go_simp; (try with_reducible rfl)); (try simp only [Act.put, List.setIfInBounds_toArray, List.set_cons_zero, List.set_cons_succ]))
          (refine tkH 3 (v := ?_) ?_ ?_; rotate_left; focus (intro w' hSw; (try dsimp only at hSw); go_simp; (try with_reducible rfl)); (try simp only [Act.put, List.setIfInBounds_toArray, List.set_cons_zero, List.set_cons_succ]))
          (refine tkH 4 (v := ?_) ?_ ?_; rotate_left; focus (intro w' hSw; (try dsimp only at hSw); go_simp; (try with_reducible rfl)); (try simp only [Act.put, List.setIfInBounds_toArray, List.set_cons_zero, List.set_cons_succ]))
          (refine tkH 5 (v := ?_) ?_ ?_; rotate_left; focus (intro w' hSw; (try dsimp only at hSw); go_simp; (try with_reducible rfl)); (try simp only [Act.put, List.setIfInBounds_toArray, List.set_cons_zero, List.set_cons_succ]))
          (refine tkH 6 (v := ?_) ?_ ?_; rotate_left; focus (intro w' hSw; (try dsimp only at hSw); go_simp; (try with_reducible rfl)); (try simp only [Act.put, List.setIfInBounds_toArray, List.set_cons_zero, List.set_cons_succ]))
          (refine tkH 7 (v := ?_) ?_ ?_; rotate_left; focus (intro w' hSw; (try dsimp only at hSw); go_simp; (try with_reducible rfl)); (try simp only [Act.put, List.setIfInBounds_toArray, List.set_cons_zero, List.set_cons_succ]))
          (refine tkH 8 (v := ?_) ?_ ?_; rotate_left; focus (intro w' hSw; (try dsimp only at hSw); go_simp; (try with_reducible rfl)); (try simp only [Act.put, List.setIfInBounds_toArray, List.set_cons_zero, List.set_cons_succ]))
          (refine tkH 9 (v := ?_) ?_ ?_; rotate_left; focus (intro w' hSw; (try dsimp only at hSw); go_simp; (try with_reducible rfl)); (try simp only [Act.put, List.setIfInBounds_toArray, List.set_cons_zero, List.set_cons_succ]))
          (refine wpAnyH_ready (rs := [10]) (by decide +kernel) (by simp) ?_; refine AllReadyH.cons rfl (fun K hK => ?_) AllReadyH.nil; rw [if_pos (by kernel_rfl)]; go_simp)
          refine (falls1_any _ _ _).mono ?_
          rintro e w' ⟨rfl, rfl⟩
          go_simp
          (refine hK.out _ _ ⟨d1, d0⟩ (fun hHeld => ?_); clear hK K; (try simp only [Act.put, List.setIfInBounds_toArray]); (try simp only [List.set_cons_zero, List.set_cons_succ]))
          (refine tkH 11 (v := ?_) ?_ ?_; rotate_left; focus (intro w' hSw; (try dsimp only at hSw); go_simp; (try with_reducible rfl)); (try simp only [Act.put, List.setIfInBounds_toArray, List.set_cons_zero, List.set_cons_succ]))
          refine wpAnyH_done (by kernel_rfl) ?_ _
          clear hHeld
          go_wp2_with fail
          go_ret
          exact ⟨ret_bool hfin.out.symm, below_drewN (below_drewN (Below.refl _ _) _) 1⟩
        · have hnx := Lib.hid (hs.out hx)
          have hd : decide (Lib.compareInt x0 x1 < 0) = false := by rw [cmp_neg]; simpa using hx
          clear hx hs hn
          go_wp2_with fail
          refine wp_region_held_drew (S := (fun w' => w'.cell? ⟨b, o + k, none⟩ = some (.int .i64 x1) ∧ w'.cell? ⟨b, o + q, none⟩ = some (.int .i64 x0))) (by kernel_rfl) ⟨d1, d0⟩ (fun hHeld => ?_)
          (refine tkH 0 (v := ?_) ?_ ?_; rotate_left; focus (intro w' hSw; (try dsimp only at hSw); go_simp; (try with_reducible rfl)); (try simp only [Act.put, List.setIfInBounds_toArray, List.set_cons_zero, List.set_cons_succ]))
          (refine tkH 1 (v := ?_) ?_ ?_; rotate_left; focus (intro w' hSw; (try dsimp only at hSw); go_simp; (try with_reducible rfl)); (try simp only [Act.put, List.setIfInBounds_toArray, List.set_cons_zero, List.set_cons_succ]))
          (refine tkH 2 (v := ?_) ?_ ?_; rotate_left; focus (intro w' hSw; (try dsimp only at hSw); go_simp; (try with_reducible rfl)); (try simp only [Act.put, List.setIfInBounds_toArray, List.set_cons_zero, List.set_cons_succ]))
          (refine tkH 3 (v := ?_) ?_ ?_; rotate_left; focus (intro w' hSw; (try dsimp only at hSw); go_simp; (try with_reducible rfl)); (try simp only [Act.put, List.setIfInBounds_toArray, List.set_cons_zero, List.set_cons_succ]))
          (refine tkH 4 (v := ?_) ?_ ?_; rotate_left; focus (intro w' hSw; (try dsimp only at hSw); go_simp; (try with_reducible rfl)); (try simp only [Act.put, List.setIfInBounds_toArray, List.set_cons_zero, List.set_cons_succ]))
          (refine tkH 5 (v := ?_) ?_ ?_; rotate_left; focus (intro w' hSw; (try dsimp only at hSw); go_simp; (try with_reducible rfl)); (try simp only [Act.put, List.setIfInBounds_toArray, List.set_cons_zero, List.set_cons_succ]))
          (refine tkH 6 (v := ?_) ?_ ?_; rotate_left; focus (intro w' hSw; (try dsimp only at hSw); go_simp; (try with_reducible rfl)); (try simp only [Act.put, List.setIfInBounds_toArray, List.set_cons_zero, List.set_cons_succ]))
          (refine tkH 7 (v := ?_) ?_ ?_; rotate_left; focus (intro w' hSw; (try dsimp only at hSw); go_simp; (try with_reducible rfl)); (try simp only [Act.put, List.setIfInBounds_toArray, List.set_cons_zero, List.set_cons_succ]))
          (refine tkH 8 (v := ?_) ?_ ?_; rotate_left; focus (intro w' hSw; (try dsimp only at hSw); go_simp; (try with_reducible rfl)); (try simp only [Act.put, List.setIfInBounds_toArray, List.set_cons_zero, List.set_cons_succ]))
          (refine tkH 9 (v := ?_) ?_ ?_; rotate_left; focus (intro w' hSw; (try dsimp only at hSw); go_simp; (try with_reducible rfl)); (try simp only [Act.put, List.setIfInBounds_toArray, List.set_cons_zero, List.set_cons_succ]))
          (refine wpAnyH_ready (rs := [10]) (by decide +kernel) (by simp) ?_; refine AllReadyH.cons rfl (fun K hK => ?_) AllReadyH.nil; rw [if_pos (by kernel_rfl)]; go_simp)
          refine (falls1_any _ _ _).mono ?_
          rintro e w' ⟨rfl, rfl⟩
          go_simp
          (refine hK.out _ _ ⟨d1, d0⟩ (fun hHeld => ?_); clear hK K; (try simp only [Act.put, List.setIfInBounds_toArray]); (try simp only [List.set_cons_zero, List.set_cons_succ]))
          (refine tkH 11 (v := ?_) ?_ ?_; rotate_left; focus (intro w' hSw; (try dsimp only at hSw); go_simp; (try with_reducible rfl)); (try simp only [Act.put, List.setIfInBounds_toArray, List.set_cons_zero, List.set_cons_succ]))
          refine wpAnyH_done (by kernel_rfl) ?_ _
          clear hHeld
          go_wp2_with fail
          go_roundw
          case rel => exact ⟨q, n + 1, by have := hk2z.out; omega, .inr ⟨hpos, by first | rfl | go_num⟩, hnx, rfl⟩
          case measure => have := hq.out; simp [intOf]; omega
theorem falls_any (zs : List Int) (b o c : Nat) (w : World) (hz : NumsAt w b o zs) :
    Calls Tryz.prog 105 #[.slice (some ⟨b, o, none⟩) zs.length c] w fun e w' => e = .returned (.bool (downB zs)) ∧ Below w.heap.size w w' := by
  go_enter Tryz.func105, Tryz.ntmps105
  go_wp2_with fail
  refine (IsSortedFunc_any zs b o c _ hz).mono ?_
  rintro e w' ⟨rfl, hb⟩
  have hb := Lib.hid hb
  go_wp2_with fail
  go_ret
  exact ⟨rfl, hb.out⟩
end Go.Proofs.YtbegbajlagcbdaaGreatDoor
namespace Go.Proofs.YtbegbajlagcbdaaGreatDoor
open Go Go.RowKit
structure Grad where
  t0 : Int
  t1 : Int
  t2 : Int
  p0 : Int
  p1 : Int
  p2 : Int
  m0 : Int
  m1 : Int
  m2 : Int
  m3 : Int
structure Vis where
  day : Int
  kind : Int
  tilt : Int
  push : Int
def Grad.range (g : Grad) : Bool := allB [g.t0, g.t1, g.t2] 1000 && (allB [g.p0, g.p1, g.p2] 5000 && allB [g.m0, g.m1, g.m2, g.m3] 240)
def Grad.order (g : Grad) : Bool := upB [g.t0, g.t1, g.t2] && (downB [g.p0, g.p1, g.p2] && downB [g.m0, g.m1, g.m2, g.m3])
/-- The error of a grading. -/
def Cal.gradErr (g : Grad) : Int := if g.range = true then (if g.order = true then 0 else 9) else 2
theorem BoxAt.nums {w : World} {B : Nat} {cs : List Value} (h : BoxAt w B cs) (o : Nat) (zs : List Int) (hl : zs.length ≤ 1000000) (hc : ∀ (k : Nat) z, zs[k]? = some z → cs[o + k]? = some (.int .i64 z)) : NumsAt w B o zs := ⟨fun k z hz => h.c _ _ (hc k z hz), h.lt, hl⟩
theorem gt {w : World} {B : Nat} {g : Grad} (h : BoxAt w B [.int .i64 g.t0, .int .i64 g.t1, .int .i64 g.t2, .int .i64 g.p0, .int .i64 g.p1, .int .i64 g.p2, .int .i64 g.m0, .int .i64 g.m1, .int .i64 g.m2, .int .i64 g.m3]) : NumsAt w B 0 [g.t0, g.t1, g.t2] := h.nums 0 _ (by simp) (fun k z hz => by match k, hz with | 0, hz => cases hz; rfl | 1, hz => cases hz; rfl | 2, hz => cases hz; rfl)
theorem gp {w : World} {B : Nat} {g : Grad} (h : BoxAt w B [.int .i64 g.t0, .int .i64 g.t1, .int .i64 g.t2, .int .i64 g.p0, .int .i64 g.p1, .int .i64 g.p2, .int .i64 g.m0, .int .i64 g.m1, .int .i64 g.m2, .int .i64 g.m3]) : NumsAt w B 3 [g.p0, g.p1, g.p2] := h.nums 3 _ (by simp) (fun k z hz => by match k, hz with | 0, hz => cases hz; rfl | 1, hz => cases hz; rfl | 2, hz => cases hz; rfl)
theorem gm {w : World} {B : Nat} {g : Grad} (h : BoxAt w B [.int .i64 g.t0, .int .i64 g.t1, .int .i64 g.t2, .int .i64 g.p0, .int .i64 g.p1, .int .i64 g.p2, .int .i64 g.m0, .int .i64 g.m1, .int .i64 g.m2, .int .i64 g.m3]) : NumsAt w B 6 [g.m0, g.m1, g.m2, g.m3] := h.nums 6 _ (by simp) (fun k z hz => by match k, hz with | 0, hz => cases hz; rfl | 1, hz => cases hz; rfl | 2, hz => cases hz; rfl | 3, hz => cases hz; rfl)
set_option maxRecDepth 100000 in
set_option maxHeartbeats 4000000 in
theorem CheckGrading_any (g : Grad) (w : World) : Calls Tryz.prog 53 #[.agg #[.int .i64 g.t0, .int .i64 g.t1, .int .i64 g.t2, .int .i64 g.p0, .int .i64 g.p1, .int .i64 g.p2, .int .i64 g.m0, .int .i64 g.m1, .int .i64 g.m2, .int .i64 g.m3]] w fun e w' => e = .returned (.int .i64 (Cal.gradErr g)) ∧ Below w.heap.size w w' := by
  have h1 := Lib.hid (BoxAt.new w #[.int .i64 g.t0, .int .i64 g.t1, .int .i64 g.t2, .int .i64 g.p0, .int .i64 g.p1, .int .i64 g.p2, .int .i64 g.m0, .int .i64 g.m1, .int .i64 g.m2, .int .i64 g.m3] 25)
  have hb := Lib.hid (below_alloc w (.cells #[.int .i64 g.t0, .int .i64 g.t1, .int .i64 g.t2, .int .i64 g.p0, .int .i64 g.p1, .int .i64 g.p2, .int .i64 g.m0, .int .i64 g.m1, .int .i64 g.m2, .int .i64 g.m3] 25))
  cases e1 : allB [g.t0, g.t1, g.t2] 1000
  · have hfin : Hid (Cal.gradErr g = 2) := by show _ = _; unfold Cal.gradErr Grad.range; rw [e1]; rfl
    have e1 := Lib.hid e1
    go_enter Tryz.func53, Tryz.ntmps53
    go_wp2_with fail
    refine (all_any [g.t0, g.t1, g.t2] 1000 _ 0 3 _ (gt h1.out)).mono ?_
    rintro e w9 ⟨rfl, hbn⟩
    have hb := Lib.hid (below_step hb.out hbn)
    have h1 := Lib.hid (h1.out.below hbn)
    clear hbn
    rw [e1.out]
    go_wp2_with fail
    go_ret
    exact ⟨ret_int hfin.out.symm, hb.out⟩
  have e1 := Lib.hid e1
  cases e2 : allB [g.p0, g.p1, g.p2] 5000
  · have hfin : Hid (Cal.gradErr g = 2) := by show _ = _; unfold Cal.gradErr Grad.range; rw [e1.out, e2]; rfl
    have e2 := Lib.hid e2
    go_enter Tryz.func53, Tryz.ntmps53
    go_wp2_with fail
    refine (all_any [g.t0, g.t1, g.t2] 1000 _ 0 3 _ (gt h1.out)).mono ?_
    rintro e w9 ⟨rfl, hbn⟩
    have hb := Lib.hid (below_step hb.out hbn)
    have h1 := Lib.hid (h1.out.below hbn)
    clear hbn
    rw [e1.out]
    go_wp2_with fail
    refine (all_any [g.p0, g.p1, g.p2] 5000 _ 3 3 _ (gp h1.out)).mono ?_
    rintro e w9 ⟨rfl, hbn⟩
    have hb := Lib.hid (below_step hb.out hbn)
    have h1 := Lib.hid (h1.out.below hbn)
    clear hbn
    rw [e2.out]
    go_wp2_with fail
    go_ret
    exact ⟨ret_int hfin.out.symm, hb.out⟩
  have e2 := Lib.hid e2
  cases e3 : allB [g.m0, g.m1, g.m2, g.m3] 240
  · have hfin : Hid (Cal.gradErr g = 2) := by show _ = _; unfold Cal.gradErr Grad.range; rw [e1.out, e2.out, e3]; rfl
    have e3 := Lib.hid e3
    go_enter Tryz.func53, Tryz.ntmps53
    go_wp2_with fail
    refine (all_any [g.t0, g.t1, g.t2] 1000 _ 0 3 _ (gt h1.out)).mono ?_
    rintro e w9 ⟨rfl, hbn⟩
    have hb := Lib.hid (below_step hb.out hbn)
    have h1 := Lib.hid (h1.out.below hbn)
    clear hbn
    rw [e1.out]
    go_wp2_with fail
    refine (all_any [g.p0, g.p1, g.p2] 5000 _ 3 3 _ (gp h1.out)).mono ?_
    rintro e w9 ⟨rfl, hbn⟩
    have hb := Lib.hid (below_step hb.out hbn)
    have h1 := Lib.hid (h1.out.below hbn)
    clear hbn
    rw [e2.out]
    go_wp2_with fail
    refine (all_any [g.m0, g.m1, g.m2, g.m3] 240 _ 6 4 _ (gm h1.out)).mono ?_
    rintro e w9 ⟨rfl, hbn⟩
    have hb := Lib.hid (below_step hb.out hbn)
    have h1 := Lib.hid (h1.out.below hbn)
    clear hbn
    rw [e3.out]
    go_wp2_with fail
    go_ret
    exact ⟨ret_int hfin.out.symm, hb.out⟩
  have e3 := Lib.hid e3
  have hr : Hid (g.range = true) := by show _ = _; unfold Grad.range; rw [e1.out, e2.out, e3.out]; rfl
  cases e4 : upB [g.t0, g.t1, g.t2]
  · have hfin : Hid (Cal.gradErr g = 9) := by show _ = _; unfold Cal.gradErr Grad.order; rw [if_pos hr.out, e4]; rfl
    have e4 := Lib.hid e4
    go_enter Tryz.func53, Tryz.ntmps53
    go_wp2_with fail
    refine (all_any [g.t0, g.t1, g.t2] 1000 _ 0 3 _ (gt h1.out)).mono ?_
    rintro e w9 ⟨rfl, hbn⟩
    have hb := Lib.hid (below_step hb.out hbn)
    have h1 := Lib.hid (h1.out.below hbn)
    clear hbn
    rw [e1.out]
    go_wp2_with fail
    refine (all_any [g.p0, g.p1, g.p2] 5000 _ 3 3 _ (gp h1.out)).mono ?_
    rintro e w9 ⟨rfl, hbn⟩
    have hb := Lib.hid (below_step hb.out hbn)
    have h1 := Lib.hid (h1.out.below hbn)
    clear hbn
    rw [e2.out]
    go_wp2_with fail
    refine (all_any [g.m0, g.m1, g.m2, g.m3] 240 _ 6 4 _ (gm h1.out)).mono ?_
    rintro e w9 ⟨rfl, hbn⟩
    have hb := Lib.hid (below_step hb.out hbn)
    have h1 := Lib.hid (h1.out.below hbn)
    clear hbn
    rw [e3.out]
    go_wp2_with fail
    refine (IsSorted_any [g.t0, g.t1, g.t2] _ 0 3 _ (gt h1.out)).mono ?_
    rintro e w9 ⟨rfl, hbn⟩
    have hb := Lib.hid (below_step hb.out hbn)
    have h1 := Lib.hid (h1.out.below hbn)
    clear hbn
    rw [e4.out]
    go_wp2_with fail
    go_ret
    exact ⟨ret_int hfin.out.symm, hb.out⟩
  have e4 := Lib.hid e4
  cases e5 : downB [g.p0, g.p1, g.p2]
  · have hfin : Hid (Cal.gradErr g = 9) := by show _ = _; unfold Cal.gradErr Grad.order; rw [if_pos hr.out, e4.out, e5]; rfl
    have e5 := Lib.hid e5
    go_enter Tryz.func53, Tryz.ntmps53
    go_wp2_with fail
    refine (all_any [g.t0, g.t1, g.t2] 1000 _ 0 3 _ (gt h1.out)).mono ?_
    rintro e w9 ⟨rfl, hbn⟩
    have hb := Lib.hid (below_step hb.out hbn)
    have h1 := Lib.hid (h1.out.below hbn)
    clear hbn
    rw [e1.out]
    go_wp2_with fail
    refine (all_any [g.p0, g.p1, g.p2] 5000 _ 3 3 _ (gp h1.out)).mono ?_
    rintro e w9 ⟨rfl, hbn⟩
    have hb := Lib.hid (below_step hb.out hbn)
    have h1 := Lib.hid (h1.out.below hbn)
    clear hbn
    rw [e2.out]
    go_wp2_with fail
    refine (all_any [g.m0, g.m1, g.m2, g.m3] 240 _ 6 4 _ (gm h1.out)).mono ?_
    rintro e w9 ⟨rfl, hbn⟩
    have hb := Lib.hid (below_step hb.out hbn)
    have h1 := Lib.hid (h1.out.below hbn)
    clear hbn
    rw [e3.out]
    go_wp2_with fail
    refine (IsSorted_any [g.t0, g.t1, g.t2] _ 0 3 _ (gt h1.out)).mono ?_
    rintro e w9 ⟨rfl, hbn⟩
    have hb := Lib.hid (below_step hb.out hbn)
    have h1 := Lib.hid (h1.out.below hbn)
    clear hbn
    rw [e4.out]
    go_wp2_with fail
    refine (falls_any [g.p0, g.p1, g.p2] _ 3 3 _ (gp h1.out)).mono ?_
    rintro e w9 ⟨rfl, hbn⟩
    have hb := Lib.hid (below_step hb.out hbn)
    have h1 := Lib.hid (h1.out.below hbn)
    clear hbn
    rw [e5.out]
    go_wp2_with fail
    go_ret
    exact ⟨ret_int hfin.out.symm, hb.out⟩
  have e5 := Lib.hid e5
  cases e6 : downB [g.m0, g.m1, g.m2, g.m3]
  · have hfin : Hid (Cal.gradErr g = 9) := by show _ = _; unfold Cal.gradErr Grad.order; rw [if_pos hr.out, e4.out, e5.out, e6]; rfl
    have e6 := Lib.hid e6
    go_enter Tryz.func53, Tryz.ntmps53
    go_wp2_with fail
    refine (all_any [g.t0, g.t1, g.t2] 1000 _ 0 3 _ (gt h1.out)).mono ?_
    rintro e w9 ⟨rfl, hbn⟩
    have hb := Lib.hid (below_step hb.out hbn)
    have h1 := Lib.hid (h1.out.below hbn)
    clear hbn
    rw [e1.out]
    go_wp2_with fail
    refine (all_any [g.p0, g.p1, g.p2] 5000 _ 3 3 _ (gp h1.out)).mono ?_
    rintro e w9 ⟨rfl, hbn⟩
    have hb := Lib.hid (below_step hb.out hbn)
    have h1 := Lib.hid (h1.out.below hbn)
    clear hbn
    rw [e2.out]
    go_wp2_with fail
    refine (all_any [g.m0, g.m1, g.m2, g.m3] 240 _ 6 4 _ (gm h1.out)).mono ?_
    rintro e w9 ⟨rfl, hbn⟩
    have hb := Lib.hid (below_step hb.out hbn)
    have h1 := Lib.hid (h1.out.below hbn)
    clear hbn
    rw [e3.out]
    go_wp2_with fail
    refine (IsSorted_any [g.t0, g.t1, g.t2] _ 0 3 _ (gt h1.out)).mono ?_
    rintro e w9 ⟨rfl, hbn⟩
    have hb := Lib.hid (below_step hb.out hbn)
    have h1 := Lib.hid (h1.out.below hbn)
    clear hbn
    rw [e4.out]
    go_wp2_with fail
    refine (falls_any [g.p0, g.p1, g.p2] _ 3 3 _ (gp h1.out)).mono ?_
    rintro e w9 ⟨rfl, hbn⟩
    have hb := Lib.hid (below_step hb.out hbn)
    have h1 := Lib.hid (h1.out.below hbn)
    clear hbn
    rw [e5.out]
    go_wp2_with fail
    refine (falls_any [g.m0, g.m1, g.m2, g.m3] _ 6 4 _ (gm h1.out)).mono ?_
    rintro e w9 ⟨rfl, hbn⟩
    have hb := Lib.hid (below_step hb.out hbn)
    have h1 := Lib.hid (h1.out.below hbn)
    clear hbn
    rw [e6.out]
    go_wp2_with fail
    go_ret
    exact ⟨ret_int hfin.out.symm, hb.out⟩
  · have hfin : Hid (Cal.gradErr g = 0) := by show _ = _; unfold Cal.gradErr Grad.order; rw [if_pos hr.out, e4.out, e5.out, e6]; rfl
    have e6 := Lib.hid e6
    go_enter Tryz.func53, Tryz.ntmps53
    go_wp2_with fail
    refine (all_any [g.t0, g.t1, g.t2] 1000 _ 0 3 _ (gt h1.out)).mono ?_
    rintro e w9 ⟨rfl, hbn⟩
    have hb := Lib.hid (below_step hb.out hbn)
    have h1 := Lib.hid (h1.out.below hbn)
    clear hbn
    rw [e1.out]
    go_wp2_with fail
    refine (all_any [g.p0, g.p1, g.p2] 5000 _ 3 3 _ (gp h1.out)).mono ?_
    rintro e w9 ⟨rfl, hbn⟩
    have hb := Lib.hid (below_step hb.out hbn)
    have h1 := Lib.hid (h1.out.below hbn)
    clear hbn
    rw [e2.out]
    go_wp2_with fail
    refine (all_any [g.m0, g.m1, g.m2, g.m3] 240 _ 6 4 _ (gm h1.out)).mono ?_
    rintro e w9 ⟨rfl, hbn⟩
    have hb := Lib.hid (below_step hb.out hbn)
    have h1 := Lib.hid (h1.out.below hbn)
    clear hbn
    rw [e3.out]
    go_wp2_with fail
    refine (IsSorted_any [g.t0, g.t1, g.t2] _ 0 3 _ (gt h1.out)).mono ?_
    rintro e w9 ⟨rfl, hbn⟩
    have hb := Lib.hid (below_step hb.out hbn)
    have h1 := Lib.hid (h1.out.below hbn)
    clear hbn
    rw [e4.out]
    go_wp2_with fail
    refine (falls_any [g.p0, g.p1, g.p2] _ 3 3 _ (gp h1.out)).mono ?_
    rintro e w9 ⟨rfl, hbn⟩
    have hb := Lib.hid (below_step hb.out hbn)
    have h1 := Lib.hid (h1.out.below hbn)
    clear hbn
    rw [e5.out]
    go_wp2_with fail
    refine (falls_any [g.m0, g.m1, g.m2, g.m3] _ 6 4 _ (gm h1.out)).mono ?_
    rintro e w9 ⟨rfl, hbn⟩
    have hb := Lib.hid (below_step hb.out hbn)
    have h1 := Lib.hid (h1.out.below hbn)
    clear hbn
    rw [e6.out]
    go_wp2_with fail
    go_ret
    exact ⟨ret_int hfin.out.symm, hb.out⟩
end Go.Proofs.YtbegbajlagcbdaaGreatDoor
