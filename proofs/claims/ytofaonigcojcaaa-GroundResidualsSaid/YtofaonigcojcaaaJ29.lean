/- What the statements rest on: definitions and walks, part 29. -/
import Derived.Test.YtofaonigcojcaaaJ28
namespace Go.Proofs.Ytofaonigcojcaaa
open Go Go.RowKit Go.Shelf
/-- The differences fit the heights. -/
structure FitL (l : List Lev) (fr : List (Int × Int)) (p : Int) : Prop where
  p1 : 1 ≤ p
  p2 : p ≤ 4000000000
  all : ∀ h ∈ fr, 1 ≤ h.2 ∧ Cal.bigH h = false
  at_ : ∀ x ∈ l, (0 ≤ x.f ∧ x.f < fr.length) ∧ (0 ≤ x.t ∧ x.t < fr.length) ∧ -100000 ≤ x.d ∧ x.d ≤ 100000 ∧ 1 ≤ x.w ∧ x.w ≤ 10
  box : ∀ x ∈ l, -16400000000000000 ≤ Cal.resV p fr x ∧ Cal.resV p fr x ≤ 16400000000000000
theorem FitL.of {n : Int} {l : List Lev} {fr : List (Int × Int)} (hz : Cal.netE n l = 0) (he : Cal.sclE n fr = 0) : FitL l fr (Cal.sclP n fr) := by
  obtain ⟨hlen, _, p1, p2, hall⟩ := Cal.sclE_zero he
  refine ⟨p1, p2, fun h hh => ⟨(hall h hh).1, (hall h hh).2.2.1⟩, fun x hx => ?_, Cal.resV_box hz he⟩
  have := Cal.levE_zero ((Cal.netE_zero hz).2.2.2.1 x hx)
  omega
def Cal.lowR (p : Int) (fr : List (Int × Int)) (x : Lev) : Int × Int := (Cal.lowN (Cal.resV p fr x) p, Cal.lowD (Cal.resV p fr x) p)
set_option maxRecDepth 100000 in
set_option maxHeartbeats 4000000 in
theorem ResidualsR_any (A : Option Addr) (c : Nat) (l : List Lev) (B : Option Addr) (d : Nat) (fr : List (Int × Int)) (p : Int) (w : World) (hL : Levs w A l) (hF : RowsAt w B 2 (fr.map frR)) (hfit : FitL l fr p) :
    Calls Try.prog 27 #[.slice A l.length c, .slice B fr.length d, .int .i64 p] w fun e w' => ∃ v, e = .returned v ∧ OwnL w' w.heap.size 59 2 v ((l.map (Cal.lowR p fr)).map frR) ∧ Below w.heap.size w w' := by
  have hsz := hL.size
  replace hL := Lib.hid hL
  replace hF := Lib.hid hF
  have hf := Lib.hid hfit
  have hp1 := hfit.p1
  have hp2 := hfit.p2
  have hO0 : Hid (OwnL w w.heap.size 59 2 (.slice none 0 0) (((l.take 0).map (Cal.lowR p fr)).map frR)) := by show OwnL _ _ _ _ _ _; rw [List.take_zero]; exact OwnL.nil _ _ _ _
  have hbw : Hid (Below w.heap.size w w) := Below.refl _ _
  clear hfit
  go_enter Try.func27, Try.ntmps27
  go_wp2_with fail
  go_loopw [7, 8] (fun ov i wz => ∃ (k : Nat) (v : Value), k ≤ l.length ∧ i = .int .i64 k ∧ ov = v ∧ Hid (OwnL wz w.heap.size 59 2 v (((l.take k).map (Cal.lowR p fr)).map frR)) ∧ Hid (Below w.heap.size w wz)) (fun _ i _ => l.length - (intOf i).toNat)
  case atStart => exact ⟨0, _, Nat.zero_le _, rfl, rfl, hO0, hbw⟩
  case round =>
    clear hO0 hbw
    obtain ⟨k, v, hk, rfl, rfl, hO, hbw⟩ := hrel
    by_cases hlt : k < l.length
    · have hk' : l[k]? = some l[k] := List.getElem?_eq_getElem hlt
      have htk : Hid (((l.take (k + 1)).map (Cal.lowR p fr)).map frR = (((l.take k).map (Cal.lowR p fr)).map frR) ++ [[.int .i64 (Cal.lowN (Cal.resV p fr l[k]) p), .int .i64 (Cal.lowD (Cal.resV p fr l[k]) p)]]) := by show _ = _; rw [List.take_succ_eq_append_getElem hlt, List.map_append, List.map_append]; rfl
      have hol : (((l.take k).map (Cal.lowR p fr)).map frR).length ≤ 1000000 := by rw [List.length_map, List.length_map, List.length_take]; omega
      obtain ⟨rows, hrows⟩ : ∃ rows, ((l.take k).map (Cal.lowR p fr)).map frR = rows := ⟨_, rfl⟩
      rw [hrows] at hO htk hol
      obtain ⟨a1, a2, a3, a4, _, _⟩ := hf.out.at_ _ (List.getElem_mem hlt)
      have hbk := hf.out.box _ (List.getElem_mem hlt)
      have hki : (k : Int) < (l.length : Int) := by omega
      generalize l[k] = x at *
      obtain ⟨b, o, rfl, hbl, c0, c1, c2, c3⟩ := lev_at (hL.out.below hbw.out).rows hk'
      have hcall := Lib.hid (fun W hb => residualR_any x B d fr p W (hF.out.below hb) hp1 hp2 hf.out.all a1 a2 ⟨a3, a4⟩)
      generalize Cal.resV p fr x = r at *
      have hlow := Lib.hid (fun W => LowestR_any r p W (by omega) (by omega) (by omega))
      have hws := Lib.hid hbw.out.size
      clear hrows hbk hk' a1 a2 a3 a4
      go_wp2_with (first
        | (go_at_call 70; refine (hcall.out _ hbw.out).mono ?_; rintro e0 x2 ⟨rfl, hbx2⟩; have hz2 := Lib.hid hbx2; clear hbx2 hcall)
        | (go_at_call 67; refine (hlow.out _).mono ?_; rintro e0 x3 ⟨rfl, hbx3⟩; have hz3 := Lib.hid (hz2.out.trans (hbx3.mono hz2.out.size)); have hO3 := Lib.hid ((hO.out.below hz3.out).below (below_alloc x3 (.cells #[.int .i64 (Cal.lowN r p), .int .i64 (Cal.lowD r p)] 59))); have hsrc := Lib.hid (rowsAt_new x3 [.int .i64 (Cal.lowN r p), .int .i64 (Cal.lowD r p)] 59); clear hbx3 hlow)
        | (at_builtin; go_must (refine wpList_append_rows elemFr rfl _ _ rfl rfl rfl hO3.out hsrc.out rfl (fun r hr => by rw [List.mem_singleton.1 hr]; rfl) (fun r hr u hu => by rw [List.mem_singleton.1 hr] at hu; rcases List.mem_cons.1 hu with e | hu; rw [e]; rfl; rw [List.mem_singleton.1 hu]; rfl) (by simp only [List.length_singleton]; omega) (by decide) (by have h1 := hws.out; have h2 := hz3.out.size; simp; omega) ?_); intro v' x4 hown7 hg7 hob7))
      have hO4 : Hid (OwnL x4 w.heap.size 59 2 v' (((l.take (k + 1)).map (Cal.lowR p fr)).map frR)) := by show OwnL _ _ _ _ _ _; rw [htk.out]; exact hown7
      have hb4 : Hid (Below w.heap.size w x4) := (below_step (below_step hbw.out hz3.out) (below_alloc x3 (.cells #[.int .i64 (Cal.lowN r p), .int .i64 (Cal.lowD r p)] 59))).trans (grown_below hg7 (fun g e => (OwnL.lt hO3.out g e).1) (by have h1 := hws.out; have h2 := hz3.out.size; simp; omega))
      clear hown7 hg7 hob7 hO3 hz3 hz2 hsrc htk
      go_wp2_with fail
      go_roundw
      case rel => exact ⟨k + 1, _, by omega, by go_num, rfl, hO4, hb4⟩
      case measure => simp [intOf]; omega
    · obtain rfl : k = l.length := by omega
      rw [List.take_length] at hO
      go_wp2_with fail
      go_ret
      exact ⟨_, rfl, hO.out, hbw.out⟩
end Go.Proofs.Ytofaonigcojcaaa
namespace Go.Proofs.Ytofaonigcojcaaa
open Go Go.RowKit Go.Shelf
set_option maxRecDepth 100000 in
set_option maxHeartbeats 4000000 in
theorem SameFracs_any (A : Option Addr) (c : Nat) (x : List (Int × Int)) (B : Option Addr) (d : Nat) (y : List (Int × Int)) (w : World) (hA : RowsAt w A 2 (x.map frR)) (hB : RowsAt w B 2 (y.map frR)) (hs : x.length ≤ 1000000) :
    Calls Try.prog 22 #[.slice A x.length c, .slice B y.length d] w fun e w' => e = .returned (.bool (decide (x = y))) ∧ Below w.heap.size w w' := by
  obtain ⟨R, hR⟩ : ∃ R, decide (x = y) = R := ⟨_, rfl⟩
  rw [hR]
  replace hR := Lib.hid hR
  have hb0 : Hid (Below w.heap.size w w) := Below.refl _ _
  by_cases hlen : x.length = y.length
  · have h0 : Hid (x.take 0 = y.take 0) := by show _ = _; rw [List.take_zero, List.take_zero]
    replace hA := Lib.hid hA
    replace hB := Lib.hid hB
    have hl2 := Lib.hid hlen
    obtain ⟨n, hn⟩ : ∃ n, x.length = n := ⟨_, rfl⟩
    have hny : y.length = n := by omega
    rw [hn, hny]
    have hn2 := Lib.hid hn
    have hny2 := Lib.hid hny
    have hns : n ≤ 1000000 := by omega
    clear hlen hn hny hs
    go_enter Try.func22, Try.ntmps22
    go_wp2_with fail
    go_loopw [5] (fun i wz => ∃ k : Nat, k ≤ n ∧ i = .int .i64 k ∧ Hid (x.take k = y.take k) ∧ Hid (Below w.heap.size w wz)) (fun i _ => n - (intOf i).toNat)
    case atStart => exact ⟨0, Nat.zero_le _, rfl, h0, hb0⟩
    case round =>
      clear h0 hb0
      obtain ⟨k, hk, rfl, heq, hb⟩ := hrel
      by_cases hlt : k < n
      · have hlx : k < x.length := by rw [hn2.out]; exact hlt
        have hly : k < y.length := by rw [hny2.out]; exact hlt
        have hk1 : x[k]? = some x[k] := List.getElem?_eq_getElem hlx
        have hk2 : y[k]? = some y[k] := List.getElem?_eq_getElem hly
        have hnx : x[k] = y[k] → x.take (k + 1) = y.take (k + 1) := fun e => by
          rw [List.take_succ_eq_append_getElem hlx, List.take_succ_eq_append_getElem hly, heq.out, e]
        have hki : (k : Int) < (n : Int) := by omega
        generalize x[k] = xk at *
        generalize y[k] = yk at *
        obtain ⟨b1, o1, rfl, _, c0, c1⟩ := fr_at (hA.out.below hb.out) hk1
        obtain ⟨b2, o2, rfl, _, c2, c3⟩ := fr_at (hB.out.below hb.out) hk2
        obtain ⟨xn, xd⟩ := xk
        obtain ⟨yn, yd⟩ := yk
        dsimp only at *
        by_cases hn1 : xn = yn
        · by_cases hd1 : xd = yd
          · have hnx2 := Lib.hid (hnx (by rw [hn1, hd1]))
            subst hn1 hd1
            clear hnx hk1 hk2
            go_wp2_with fail
            refine wp_region_held_drew (S := Sx wr [(b1, o1 + k * 2, .int .i64 xn), (b1, o1 + k * 2 + 1, .int .i64 xd), (b2, o2 + k * 2, .int .i64 xn), (b2, o2 + k * 2 + 1, .int .i64 xd)]) (by kernel_rfl) (Sx.mk (by simp only [cs_iff_cons]; exact ⟨c0, c1, c2, c3, cs_nil _⟩) (Below.refl _ _)).drew (fun hHeld => ?_)
            clear c0 c1 c2 c3
            (refine tkH2 0 17 (v := ?_) ?_ ?_; rotate_left; focus (intro w' hSw; replace hSw := hSw.cs; (try simp only [cs_iff_cons] at hSw); go_simp; (try with_reducible rfl)); (try simp only [Act.put, List.setIfInBounds_toArray, List.set_cons_zero, List.set_cons_succ]))
            (refine tkH2 1 18 (v := ?_) ?_ ?_; rotate_left; focus (intro w' hSw; replace hSw := hSw.cs; (try simp only [cs_iff_cons] at hSw); go_simp; (try with_reducible rfl)); (try simp only [Act.put, List.setIfInBounds_toArray, List.set_cons_zero, List.set_cons_succ]))
            (refine tkH2 2 19 (v := ?_) ?_ ?_; rotate_left; focus (intro w' hSw; replace hSw := hSw.cs; (try simp only [cs_iff_cons] at hSw); go_simp; (try with_reducible rfl)); (try simp only [Act.put, List.setIfInBounds_toArray, List.set_cons_zero, List.set_cons_succ]))
            (refine tkH2 3 20 (v := ?_) ?_ ?_; rotate_left; focus (intro w' hSw; replace hSw := hSw.cs; (try simp only [cs_iff_cons] at hSw); go_simp; (try with_reducible rfl)); (try simp only [Act.put, List.setIfInBounds_toArray, List.set_cons_zero, List.set_cons_succ]))
            (refine tkH2 4 21 (v := ?_) ?_ ?_; rotate_left; focus (intro w' hSw; replace hSw := hSw.cs; (try simp only [cs_iff_cons] at hSw); go_simp; (try with_reducible rfl)); (try simp only [Act.put, List.setIfInBounds_toArray, List.set_cons_zero, List.set_cons_succ]))
            (refine tkH2 5 22 (v := ?_) ?_ ?_; rotate_left; focus (intro w' hSw; replace hSw := hSw.cs; (try simp only [cs_iff_cons] at hSw); go_simp; (try with_reducible rfl)); (try simp only [Act.put, List.setIfInBounds_toArray, List.set_cons_zero, List.set_cons_succ]))
            (refine tkH2 6 23 (v := ?_) ?_ ?_; rotate_left; focus (intro w' hSw; replace hSw := hSw.cs; (try simp only [cs_iff_cons] at hSw); go_simp; (try with_reducible rfl)); (try simp only [Act.put, List.setIfInBounds_toArray, List.set_cons_zero, List.set_cons_succ]))
            (refine tkH2 7 24 (v := ?_) ?_ ?_; rotate_left; focus (intro w' hSw; replace hSw := hSw.cs; (try simp only [cs_iff_cons] at hSw); go_simp; (try with_reducible rfl)); (try simp only [Act.put, List.setIfInBounds_toArray, List.set_cons_zero, List.set_cons_succ]))
            (refine tkH2 8 25 (v := ?_) ?_ ?_; rotate_left; focus (intro w' hSw; replace hSw := hSw.cs; (try simp only [cs_iff_cons] at hSw); go_simp; (try with_reducible rfl)); (try simp only [Act.put, List.setIfInBounds_toArray, List.set_cons_zero, List.set_cons_succ]))
            refine wpAnyH_done (by kernel_rfl) ?_ _
            ((try simp only [Act.put, List.setIfInBounds_toArray]); (try simp only [List.set_cons_zero, List.set_cons_succ]))
            have hb2 := Lib.hid (below_step hb.out hHeld.bel)
            clear hHeld
            go_wp2_with fail
            go_roundw
            case rel => exact ⟨k + 1, by omega, by go_num, hnx2, hb2⟩
            case measure => simp [intOf]; omega
          · have hxy : ¬ (xn, xd) = (yn, yd) := fun e => hd1 (Prod.mk.inj e).2
            have hf : Hid (R = false) := by
              show _ = _
              rw [← hR.out]
              exact decide_eq_false (fun e => hxy (by
                have h1 : x[k]? = y[k]? := by rw [e]
                rw [hk1, hk2] at h1
                exact Option.some.inj h1))
            clear hnx hk1 hk2
            have hdb : (xd == yd) = false := by simpa using hd1
            subst hn1
            clear hxy
            go_wp2_with fail
            refine wp_region_held_drew (S := Sx wr [(b1, o1 + k * 2, .int .i64 xn), (b1, o1 + k * 2 + 1, .int .i64 xd), (b2, o2 + k * 2, .int .i64 xn), (b2, o2 + k * 2 + 1, .int .i64 yd)]) (by kernel_rfl) (Sx.mk (by simp only [cs_iff_cons]; exact ⟨c0, c1, c2, c3, cs_nil _⟩) (Below.refl _ _)).drew (fun hHeld => ?_)
            clear c0 c1 c2 c3
            (refine tkH2 0 17 (v := ?_) ?_ ?_; rotate_left; focus (intro w' hSw; replace hSw := hSw.cs; (try simp only [cs_iff_cons] at hSw); go_simp; (try with_reducible rfl)); (try simp only [Act.put, List.setIfInBounds_toArray, List.set_cons_zero, List.set_cons_succ]))
            (refine tkH2 1 18 (v := ?_) ?_ ?_; rotate_left; focus (intro w' hSw; replace hSw := hSw.cs; (try simp only [cs_iff_cons] at hSw); go_simp; (try with_reducible rfl)); (try simp only [Act.put, List.setIfInBounds_toArray, List.set_cons_zero, List.set_cons_succ]))
            (refine tkH2 2 19 (v := ?_) ?_ ?_; rotate_left; focus (intro w' hSw; replace hSw := hSw.cs; (try simp only [cs_iff_cons] at hSw); go_simp; (try with_reducible rfl)); (try simp only [Act.put, List.setIfInBounds_toArray, List.set_cons_zero, List.set_cons_succ]))
            (refine tkH2 3 20 (v := ?_) ?_ ?_; rotate_left; focus (intro w' hSw; replace hSw := hSw.cs; (try simp only [cs_iff_cons] at hSw); go_simp; (try with_reducible rfl)); (try simp only [Act.put, List.setIfInBounds_toArray, List.set_cons_zero, List.set_cons_succ]))
            (refine tkH2 4 21 (v := ?_) ?_ ?_; rotate_left; focus (intro w' hSw; replace hSw := hSw.cs; (try simp only [cs_iff_cons] at hSw); go_simp; (try with_reducible rfl)); (try simp only [Act.put, List.setIfInBounds_toArray, List.set_cons_zero, List.set_cons_succ]))
            (refine tkH2 5 22 (v := ?_) ?_ ?_; rotate_left; focus (intro w' hSw; replace hSw := hSw.cs; (try simp only [cs_iff_cons] at hSw); go_simp; (try with_reducible rfl)); (try simp only [Act.put, List.setIfInBounds_toArray, List.set_cons_zero, List.set_cons_succ]))
            (refine tkH2 6 23 (v := ?_) ?_ ?_; rotate_left; focus (intro w' hSw; replace hSw := hSw.cs; (try simp only [cs_iff_cons] at hSw); go_simp; (try with_reducible rfl)); (try simp only [Act.put, List.setIfInBounds_toArray, List.set_cons_zero, List.set_cons_succ]))
            (refine tkH2 7 24 (v := ?_) ?_ ?_; rotate_left; focus (intro w' hSw; replace hSw := hSw.cs; (try simp only [cs_iff_cons] at hSw); go_simp; (try with_reducible rfl)); (try simp only [Act.put, List.setIfInBounds_toArray, List.set_cons_zero, List.set_cons_succ]))
            (refine tkH2 8 25 (v := ?_) ?_ ?_; rotate_left; focus (intro w' hSw; replace hSw := hSw.cs; (try simp only [cs_iff_cons] at hSw); go_simp; (try with_reducible rfl)); (try simp only [Act.put, List.setIfInBounds_toArray, List.set_cons_zero, List.set_cons_succ]))
            refine wpAnyH_done (by kernel_rfl) ?_ _
            ((try simp only [Act.put, List.setIfInBounds_toArray]); (try simp only [List.set_cons_zero, List.set_cons_succ]))
            have hb2 := Lib.hid (below_step hb.out hHeld.bel)
            clear hHeld
            go_wp2_with fail
            go_ret
            exact ⟨by rw [hf.out]; rfl, hb2.out⟩
        · have hxy : ¬ (xn, xd) = (yn, yd) := fun e => hn1 (Prod.mk.inj e).1
          have hf : Hid (R = false) := by
            show _ = _
            rw [← hR.out]
            exact decide_eq_false (fun e => hxy (by
              have h1 : x[k]? = y[k]? := by rw [e]
              rw [hk1, hk2] at h1
              exact Option.some.inj h1))
          clear hnx hk1 hk2
          have hnb : (xn == yn) = false := by simpa using hn1
          clear hxy
          go_wp2_with fail
          refine wp_region_held_drew (S := Sx wr [(b1, o1 + k * 2, .int .i64 xn), (b1, o1 + k * 2 + 1, .int .i64 xd), (b2, o2 + k * 2, .int .i64 yn), (b2, o2 + k * 2 + 1, .int .i64 yd)]) (by kernel_rfl) (Sx.mk (by simp only [cs_iff_cons]; exact ⟨c0, c1, c2, c3, cs_nil _⟩) (Below.refl _ _)).drew (fun hHeld => ?_)
          clear c0 c1 c2 c3
          (refine tkH2 0 17 (v := ?_) ?_ ?_; rotate_left; focus (intro w' hSw; replace hSw := hSw.cs; (try simp only [cs_iff_cons] at hSw); go_simp; (try with_reducible rfl)); (try simp only [Act.put, List.setIfInBounds_toArray, List.set_cons_zero, List.set_cons_succ]))
          (refine tkH2 1 18 (v := ?_) ?_ ?_; rotate_left; focus (intro w' hSw; replace hSw := hSw.cs; (try simp only [cs_iff_cons] at hSw); go_simp; (try with_reducible rfl)); (try simp only [Act.put, List.setIfInBounds_toArray, List.set_cons_zero, List.set_cons_succ]))
          (refine tkH2 2 19 (v := ?_) ?_ ?_; rotate_left; focus (intro w' hSw; replace hSw := hSw.cs; (try simp only [cs_iff_cons] at hSw); go_simp; (try with_reducible rfl)); (try simp only [Act.put, List.setIfInBounds_toArray, List.set_cons_zero, List.set_cons_succ]))
          (refine tkH2 3 20 (v := ?_) ?_ ?_; rotate_left; focus (intro w' hSw; replace hSw := hSw.cs; (try simp only [cs_iff_cons] at hSw); go_simp; (try with_reducible rfl)); (try simp only [Act.put, List.setIfInBounds_toArray, List.set_cons_zero, List.set_cons_succ]))
          (refine tkH2 4 21 (v := ?_) ?_ ?_; rotate_left; focus (intro w' hSw; replace hSw := hSw.cs; (try simp only [cs_iff_cons] at hSw); go_simp; (try with_reducible rfl)); (try simp only [Act.put, List.setIfInBounds_toArray, List.set_cons_zero, List.set_cons_succ]))
          (refine tkH2 5 22 (v := ?_) ?_ ?_; rotate_left; focus (intro w' hSw; replace hSw := hSw.cs; (try simp only [cs_iff_cons] at hSw); go_simp; (try with_reducible rfl)); (try simp only [Act.put, List.setIfInBounds_toArray, List.set_cons_zero, List.set_cons_succ]))
          (refine tkH2 6 23 (v := ?_) ?_ ?_; rotate_left; focus (intro w' hSw; replace hSw := hSw.cs; (try simp only [cs_iff_cons] at hSw); go_simp; (try with_reducible rfl)); (try simp only [Act.put, List.setIfInBounds_toArray, List.set_cons_zero, List.set_cons_succ]))
          (refine tkH2 7 24 (v := ?_) ?_ ?_; rotate_left; focus (intro w' hSw; replace hSw := hSw.cs; (try simp only [cs_iff_cons] at hSw); go_simp; (try with_reducible rfl)); (try simp only [Act.put, List.setIfInBounds_toArray, List.set_cons_zero, List.set_cons_succ]))
          (refine tkH2 8 25 (v := ?_) ?_ ?_; rotate_left; focus (intro w' hSw; replace hSw := hSw.cs; (try simp only [cs_iff_cons] at hSw); go_simp; (try with_reducible rfl)); (try simp only [Act.put, List.setIfInBounds_toArray, List.set_cons_zero, List.set_cons_succ]))
          refine wpAnyH_done (by kernel_rfl) ?_ _
          ((try simp only [Act.put, List.setIfInBounds_toArray]); (try simp only [List.set_cons_zero, List.set_cons_succ]))
          have hb2 := Lib.hid (below_step hb.out hHeld.bel)
          clear hHeld
          go_wp2_with fail
          go_ret
          exact ⟨by rw [hf.out]; rfl, hb2.out⟩
      · obtain rfl : k = n := by omega
        have hf : Hid (R = true) := by
          show _ = _
          rw [← hR.out]
          have := heq.out
          rw [List.take_of_length_le (Nat.le_of_eq hn2.out), List.take_of_length_le (Nat.le_of_eq hny2.out)] at this
          exact decide_eq_true this
        go_wp2_with fail
        go_ret
        exact ⟨by rw [hf.out]; rfl, hb.out⟩
  · have hf : Hid (R = false) := by
      show _ = _
      rw [← hR.out]
      exact decide_eq_false (fun e => hlen (by rw [e]))
    have hlb : ((x.length : Int) == (y.length : Int)) = false := by simp; omega
    have hln : ¬ (x.length : Int) = (y.length : Int) := by omega
    go_enter Try.func22, Try.ntmps22
    go_wp2_with fail
    go_ret
    exact ⟨by rw [hf.out]; rfl, hb0.out⟩
end Go.Proofs.Ytofaonigcojcaaa
namespace Go.Proofs.Ytofaonigcojcaaa
open Go Go.RowKit Go.Shelf
set_option maxRecDepth 100000 in
set_option maxHeartbeats 4000000 in
theorem UnbalancedR_any (n : Nat) (A : Option Addr) (c : Nat) (l : List Lev) (B : Option Addr) (d : Nat) (fr : List (Int × Int)) (p : Int) (w : World) (hL : Levs w A l) (hF : RowsAt w B 2 (fr.map frR)) (hfit : FitL l fr p) (hn : 1 ≤ n) (hn6 : n ≤ 6) (hfn : fr.length = n) (hne : ∀ x ∈ l, x.f ≠ x.t)
    (hbox : ∀ k, k ≤ l.length → ∀ i, -(164000000000000000 * (k : Int)) ≤ Cal.sumsK p fr l k i ∧ Cal.sumsK p fr l k i ≤ 164000000000000000 * (k : Int)) (hl20 : l.length ≤ 20) :
    Calls Try.prog 28 #[.int .i64 (n : Int), .slice A l.length c, .slice B fr.length d, .int .i64 p] w fun e w' => e = .returned (.int .i64 (Cal.unbP n fr (Cal.sumsAll p fr l))) ∧ Below w.heap.size w w' := by
  have h0 : fr[0]? = some fr[0] := List.getElem?_eq_getElem (by omega)
  have hnum : Cal.num0 fr = fr[0].1 := by unfold Cal.num0; rw [h0]; rfl
  obtain ⟨R, hR⟩ : ∃ R, Cal.unbP n fr (Cal.sumsAll p fr l) = R := ⟨_, rfl⟩
  rw [hR]
  unfold Cal.unbP at hR
  rw [hnum] at hR
  obtain ⟨bF, oF, rfl, hbF, m0, m1⟩ := fr_at hF h0
  rw [Nat.zero_mul, Nat.add_zero] at m0
  have hf0 : (0 : Int) < (fr.length : Int) := by omega
  have hf00 : 0 < fr.length := by omega
  have hb0 : Hid (Below w.heap.size w w) := Below.refl _ _
  clear h0 hnum
  subst hfn
  generalize fr[0].1 = nm at *
  by_cases hnm : nm = 0
  · rw [if_pos hnm] at hR
    subst hnm
    have hsz := hL.size
    replace hL := Lib.hid hL
    replace hF := Lib.hid hF
    replace hne := Lib.hid hne
    replace hbox := Lib.hid hbox
    replace hfit := Lib.hid hfit
    replace hR := Lib.hid hR
    have hG : Hid (Cal.sumsK p fr l l.length = Cal.sumsAll p fr l) := rfl
    have hst : Hid (Cal.badP fr.length (Cal.sumsAll p fr l) = Cal.badAt (Cal.sumsAll p fr l) (fr.length - 1) 1) := rfl
    go_enter Try.func28, Try.ntmps28
    go_wp2_with fail
    clear m0 m1
    go_loopw [9, 10, 11] (fun pv _ _ wz => ∃ q : Nat, 1 ≤ q ∧ q ≤ fr.length ∧ pv = .int .i64 q ∧ Hid (Cal.badP fr.length (Cal.sumsAll p fr l) = Cal.badAt (Cal.sumsAll p fr l) (fr.length - q) q) ∧ Hid (Below w.heap.size w wz)) (fun pv _ _ _ => fr.length - (intOf pv).toNat)
    case atStart => exact ⟨1, Nat.le_refl _, hn, rfl, hst, hb0⟩
    case round =>
      clear hst hb0
      obtain ⟨q, hq1, hqn, rfl, hbp, hb⟩ := hrel
      by_cases hql : q < fr.length
      · have hS0 : Hid (Cal.sumsK p fr l 0 q = 0) := rfl
        go_wp2_with fail
        go_loopw [10, 11] (fun sv i wz => ∃ k : Nat, k ≤ l.length ∧ i = .int .i64 k ∧ sv = .int .i64 (Cal.sumsK p fr l k q) ∧ Hid (Below w.heap.size w wz)) (fun _ i _ => l.length - (intOf i).toNat)
        case atStart => exact ⟨0, Nat.zero_le _, rfl, rfl, hb⟩
        case round =>
          clear hb hS0
          obtain ⟨k, hk, rfl, rfl, hb⟩ := hrel
          by_cases hlt : k < l.length
          · have hk' : l[k]? = some l[k] := List.getElem?_eq_getElem hlt
            obtain ⟨a1, a2, a3, a4, a5, a6⟩ := hfit.out.at_ _ (List.getElem_mem hlt)
            have hrb := hfit.out.box _ (List.getElem_mem hlt)
            have hnee := hne.out _ (List.getElem_mem hlt)
            have hsa := Cal.sumsK_at (p := p) (fr := fr) hlt q
            obtain ⟨g1, g2⟩ := hbox.out k hk q
            have hki : (k : Int) < (l.length : Int) := by omega
            generalize l[k] = x at *
            obtain ⟨b, o, rfl, hbl, c0, c1, c2, c3⟩ := lev_at (hL.out.below hb.out).rows hk'
            have hcall := Lib.hid (fun W hb => residualR_any x _ d fr p W (hF.out.below hb) hfit.out.p1 hfit.out.p2 hfit.out.all a1 a2 ⟨a3, a4⟩)
            generalize Cal.resV p fr x = rv at *
            obtain ⟨xf, xt, xd, xw⟩ := x
            dsimp only at *
            obtain ⟨f, rfl⟩ : ∃ f : Nat, xf = (f : Int) := ⟨xf.toNat, by omega⟩
            obtain ⟨t, rfl⟩ : ∃ t : Nat, xt = (t : Int) := ⟨xt.toNat, by omega⟩
            have hft : ¬ f = t := fun e => hnee (by rw [e])
            have hm := mul_le_of (a := xw) (b := rv) (M := 10) (N := 16400000000000000) (by omega) (by omega) hrb.1 hrb.2
            have hsa2 : Hid (Cal.sumsK p fr l (k + 1) q = Cal.sumsK p fr l k q + xw * rv * (Cal.dl t q - Cal.dl f q)) := hsa
            clear hsa
            generalize hz : xw * rv = z at *
            generalize hGk : Cal.sumsK p fr l k q = S at *
            generalize hGk1 : Cal.sumsK p fr l (k + 1) q = S1 at *
            have hw1 : IntKind.i64.wrap z = z := wrap_small (by omega) (by omega)
            have hw1b : wrap64 z = z := by rw [← wrap_eq]; exact hw1
            have hw2 : IntKind.i64.wrap (S + z) = S + z := wrap_small (by omega) (by omega)
            have hw2b : wrap64 (S + z) = S + z := by rw [← wrap_eq]; exact hw2
            have hw3 : IntKind.i64.wrap (S - z) = S - z := wrap_small (by omega) (by omega)
            have hw3b : wrap64 (S - z) = S - z := by rw [← wrap_eq]; exact hw3
            clear hk' a1 a2 a3 a4 a5 a6 hrb hnee g1 g2 hm hGk
            replace hGk1 := Lib.hid hGk1
            by_cases htq : t = q
            · have hfq : ¬ f = q := fun e => hft (by omega)
              have hv : Hid (S1 = S + z) := by show _ = _; rw [hsa2.out]; unfold Cal.dl; rw [if_pos htq.symm, if_neg (fun e => hfq e.symm)]; omega
              subst htq
              have hfb : ((f : Int) == (t : Int)) = false := by simp; omega
              have hfc : ¬ (f : Int) = (t : Int) := by omega
              clear hsa2
              go_wp2_with fail
              refine wp_region_held_drew (S := Sx wr [(b, o + k * 4, .int .i64 (f : Int)), (b, o + k * 4 + 1, .int .i64 (t : Int)), (b, o + k * 4 + 2, .int .i64 xd), (b, o + k * 4 + 3, .int .i64 xw)]) (by kernel_rfl) (Sx.mk (by simp only [cs_iff_cons]; exact ⟨c0, c1, c2, c3, cs_nil _⟩) (Below.refl _ _)).drew (fun hHeld => ?_)
              clear c0 c1 c2 c3
              (refine tkH2 0 35 (v := ?_) ?_ ?_; rotate_left; focus (intro w' hSw; replace hSw := hSw.cs; (try simp only [cs_iff_cons] at hSw); go_simp; (try with_reducible rfl)); (try simp only [Act.put, List.setIfInBounds_toArray, List.set_cons_zero, List.set_cons_succ]))
              (refine tkH2 1 36 (v := ?_) ?_ ?_; rotate_left; focus (intro w' hSw; replace hSw := hSw.cs; (try simp only [cs_iff_cons] at hSw); go_simp; (try with_reducible rfl)); (try simp only [Act.put, List.setIfInBounds_toArray, List.set_cons_zero, List.set_cons_succ]))
              (refine tkH2 2 37 (v := ?_) ?_ ?_; rotate_left; focus (intro w' hSw; replace hSw := hSw.cs; (try simp only [cs_iff_cons] at hSw); go_simp; (try with_reducible rfl)); (try simp only [Act.put, List.setIfInBounds_toArray, List.set_cons_zero, List.set_cons_succ]))
              (refine tkH2 3 38 (v := ?_) ?_ ?_; rotate_left; focus (intro w' hSw; replace hSw := hSw.cs; (try simp only [cs_iff_cons] at hSw); go_simp; (try with_reducible rfl)); (try simp only [Act.put, List.setIfInBounds_toArray, List.set_cons_zero, List.set_cons_succ]))
              (refine tkH2 4 39 (v := ?_) ?_ ?_; rotate_left; focus (intro w' hSw; replace hSw := hSw.cs; (try simp only [cs_iff_cons] at hSw); go_simp; (try with_reducible rfl)); (try simp only [Act.put, List.setIfInBounds_toArray, List.set_cons_zero, List.set_cons_succ]))
              (refine tkH2 5 40 (v := ?_) ?_ ?_; rotate_left; focus (intro w' hSw; replace hSw := hSw.cs; (try simp only [cs_iff_cons] at hSw); go_simp; (try with_reducible rfl)); (try simp only [Act.put, List.setIfInBounds_toArray, List.set_cons_zero, List.set_cons_succ]))
              (refine tkH2 6 41 (v := ?_) ?_ ?_; rotate_left; focus (intro w' hSw; replace hSw := hSw.cs; (try simp only [cs_iff_cons] at hSw); go_simp; (try with_reducible rfl)); (try simp only [Act.put, List.setIfInBounds_toArray, List.set_cons_zero, List.set_cons_succ]))
              (refine tkH2 7 42 (v := ?_) ?_ ?_; rotate_left; focus (intro w' hSw; replace hSw := hSw.cs; (try simp only [cs_iff_cons] at hSw); go_simp; (try with_reducible rfl)); (try simp only [Act.put, List.setIfInBounds_toArray, List.set_cons_zero, List.set_cons_succ]))
              (refine tkH2 8 43 (v := ?_) ?_ ?_; rotate_left; focus (intro w' hSw; replace hSw := hSw.cs; (try simp only [cs_iff_cons] at hSw); go_simp; (try with_reducible rfl)); (try simp only [Act.put, List.setIfInBounds_toArray, List.set_cons_zero, List.set_cons_succ]))
              (refine tkH2 9 44 (v := ?_) ?_ ?_; rotate_left; focus (intro w' hSw; replace hSw := hSw.cs; (try simp only [cs_iff_cons] at hSw); go_simp; (try with_reducible rfl)); (try simp only [Act.put, List.setIfInBounds_toArray, List.set_cons_zero, List.set_cons_succ]))
              (refine tkH2 10 45 (v := ?_) ?_ ?_; rotate_left; focus (intro w' hSw; replace hSw := hSw.cs; (try simp only [cs_iff_cons] at hSw); go_simp; (try with_reducible rfl)); (try simp only [Act.put, List.setIfInBounds_toArray, List.set_cons_zero, List.set_cons_succ]))
              (refine tkH2 11 46 (v := ?_) ?_ ?_; rotate_left; focus (intro w' hSw; replace hSw := hSw.cs; (try simp only [cs_iff_cons] at hSw); go_simp; (try with_reducible rfl)); (try simp only [Act.put, List.setIfInBounds_toArray, List.set_cons_zero, List.set_cons_succ]))
              (refine wpAnyH_ready (rs := [12]) (by decide +kernel) (by simp) ?_; refine AllReadyH.cons rfl (fun K hK => ?_) AllReadyH.nil; rw [if_pos (by kernel_rfl)]; go_simp)
              refine (hcall.out _ (below_step hb.out hHeld.bel)).mono ?_
              rintro e wn ⟨rfl, hbn⟩
              go_simp
              (refine hK.out _ _ (hHeld.step hbn) (fun hHeld => ?_); clear hK K; (try simp only [Act.put, List.setIfInBounds_toArray]); (try simp only [List.set_cons_zero, List.set_cons_succ]))
              (refine tkH2 13 48 (v := ?_) ?_ ?_; rotate_left; focus (intro w' hSw; replace hSw := hSw.cs; (try simp only [cs_iff_cons] at hSw); go_simp; (try with_reducible rfl)); (try simp only [Act.put, List.setIfInBounds_toArray, List.set_cons_zero, List.set_cons_succ]))
              (refine tkH2 14 49 (v := ?_) ?_ ?_; rotate_left; focus (intro w' hSw; replace hSw := hSw.cs; (try simp only [cs_iff_cons] at hSw); go_simp; (try with_reducible rfl)); (try simp only [Act.put, List.setIfInBounds_toArray, List.set_cons_zero, List.set_cons_succ]))
              (refine tkH2 15 10 (v := ?_) ?_ ?_; rotate_left; focus (intro w' hSw; replace hSw := hSw.cs; (try simp only [cs_iff_cons] at hSw); go_simp; (try with_reducible rfl)); (try simp only [Act.put, List.setIfInBounds_toArray, List.set_cons_zero, List.set_cons_succ]))
              refine wpAnyH_done (by kernel_rfl) ?_ _
              ((try simp only [Act.put, List.setIfInBounds_toArray]); (try simp only [List.set_cons_zero, List.set_cons_succ]))
              have hcs := hHeld.cs
              simp only [cs_iff_cons] at hcs
              obtain ⟨c0, c1, c2, c3, _⟩ := hcs
              replace hb := Lib.hid (below_step hb.out hHeld.bel)
              clear hHeld
              go_wp2_with fail
              go_roundw
              case rel => exact ⟨k + 1, by omega, by go_num, by rw [hGk1.out, hv.out], hb⟩
              case measure => simp [intOf]; omega
            · have htb : ((t : Int) == (q : Int)) = false := by simp; omega
              have htc : ¬ (t : Int) = (q : Int) := by omega
              by_cases hfq : f = q
              · have hv : Hid (S1 = S - z) := by show _ = _; rw [hsa2.out]; unfold Cal.dl; rw [if_neg (fun e => htq e.symm), if_pos hfq.symm]; omega
                subst hfq
                clear hsa2
                go_wp2_with fail
                refine wp_region_held_drew (S := Sx wr [(b, o + k * 4, .int .i64 (f : Int)), (b, o + k * 4 + 1, .int .i64 (t : Int)), (b, o + k * 4 + 2, .int .i64 xd), (b, o + k * 4 + 3, .int .i64 xw)]) (by kernel_rfl) (Sx.mk (by simp only [cs_iff_cons]; exact ⟨c0, c1, c2, c3, cs_nil _⟩) (Below.refl _ _)).drew (fun hHeld => ?_)
                clear c0 c1 c2 c3
                (refine tkH2 0 57 (v := ?_) ?_ ?_; rotate_left; focus (intro w' hSw; replace hSw := hSw.cs; (try simp only [cs_iff_cons] at hSw); go_simp; (try with_reducible rfl)); (try simp only [Act.put, List.setIfInBounds_toArray, List.set_cons_zero, List.set_cons_succ]))
                (refine tkH2 1 58 (v := ?_) ?_ ?_; rotate_left; focus (intro w' hSw; replace hSw := hSw.cs; (try simp only [cs_iff_cons] at hSw); go_simp; (try with_reducible rfl)); (try simp only [Act.put, List.setIfInBounds_toArray, List.set_cons_zero, List.set_cons_succ]))
                (refine tkH2 2 59 (v := ?_) ?_ ?_; rotate_left; focus (intro w' hSw; replace hSw := hSw.cs; (try simp only [cs_iff_cons] at hSw); go_simp; (try with_reducible rfl)); (try simp only [Act.put, List.setIfInBounds_toArray, List.set_cons_zero, List.set_cons_succ]))
                (refine tkH2 3 60 (v := ?_) ?_ ?_; rotate_left; focus (intro w' hSw; replace hSw := hSw.cs; (try simp only [cs_iff_cons] at hSw); go_simp; (try with_reducible rfl)); (try simp only [Act.put, List.setIfInBounds_toArray, List.set_cons_zero, List.set_cons_succ]))
                (refine tkH2 4 61 (v := ?_) ?_ ?_; rotate_left; focus (intro w' hSw; replace hSw := hSw.cs; (try simp only [cs_iff_cons] at hSw); go_simp; (try with_reducible rfl)); (try simp only [Act.put, List.setIfInBounds_toArray, List.set_cons_zero, List.set_cons_succ]))
                (refine tkH2 5 62 (v := ?_) ?_ ?_; rotate_left; focus (intro w' hSw; replace hSw := hSw.cs; (try simp only [cs_iff_cons] at hSw); go_simp; (try with_reducible rfl)); (try simp only [Act.put, List.setIfInBounds_toArray, List.set_cons_zero, List.set_cons_succ]))
                (refine tkH2 6 63 (v := ?_) ?_ ?_; rotate_left; focus (intro w' hSw; replace hSw := hSw.cs; (try simp only [cs_iff_cons] at hSw); go_simp; (try with_reducible rfl)); (try simp only [Act.put, List.setIfInBounds_toArray, List.set_cons_zero, List.set_cons_succ]))
                (refine tkH2 7 64 (v := ?_) ?_ ?_; rotate_left; focus (intro w' hSw; replace hSw := hSw.cs; (try simp only [cs_iff_cons] at hSw); go_simp; (try with_reducible rfl)); (try simp only [Act.put, List.setIfInBounds_toArray, List.set_cons_zero, List.set_cons_succ]))
                (refine tkH2 8 65 (v := ?_) ?_ ?_; rotate_left; focus (intro w' hSw; replace hSw := hSw.cs; (try simp only [cs_iff_cons] at hSw); go_simp; (try with_reducible rfl)); (try simp only [Act.put, List.setIfInBounds_toArray, List.set_cons_zero, List.set_cons_succ]))
                (refine tkH2 9 66 (v := ?_) ?_ ?_; rotate_left; focus (intro w' hSw; replace hSw := hSw.cs; (try simp only [cs_iff_cons] at hSw); go_simp; (try with_reducible rfl)); (try simp only [Act.put, List.setIfInBounds_toArray, List.set_cons_zero, List.set_cons_succ]))
                (refine tkH2 10 67 (v := ?_) ?_ ?_; rotate_left; focus (intro w' hSw; replace hSw := hSw.cs; (try simp only [cs_iff_cons] at hSw); go_simp; (try with_reducible rfl)); (try simp only [Act.put, List.setIfInBounds_toArray, List.set_cons_zero, List.set_cons_succ]))
                (refine tkH2 11 68 (v := ?_) ?_ ?_; rotate_left; focus (intro w' hSw; replace hSw := hSw.cs; (try simp only [cs_iff_cons] at hSw); go_simp; (try with_reducible rfl)); (try simp only [Act.put, List.setIfInBounds_toArray, List.set_cons_zero, List.set_cons_succ]))
                (refine wpAnyH_ready (rs := [12]) (by decide +kernel) (by simp) ?_; refine AllReadyH.cons rfl (fun K hK => ?_) AllReadyH.nil; rw [if_pos (by kernel_rfl)]; go_simp)
                refine (hcall.out _ (below_step hb.out hHeld.bel)).mono ?_
                rintro e wn ⟨rfl, hbn⟩
                go_simp
                (refine hK.out _ _ (hHeld.step hbn) (fun hHeld => ?_); clear hK K; (try simp only [Act.put, List.setIfInBounds_toArray]); (try simp only [List.set_cons_zero, List.set_cons_succ]))
                (refine tkH2 13 70 (v := ?_) ?_ ?_; rotate_left; focus (intro w' hSw; replace hSw := hSw.cs; (try simp only [cs_iff_cons] at hSw); go_simp; (try with_reducible rfl)); (try simp only [Act.put, List.setIfInBounds_toArray, List.set_cons_zero, List.set_cons_succ]))
                (refine tkH2 14 71 (v := ?_) ?_ ?_; rotate_left; focus (intro w' hSw; replace hSw := hSw.cs; (try simp only [cs_iff_cons] at hSw); go_simp; (try with_reducible rfl)); (try simp only [Act.put, List.setIfInBounds_toArray, List.set_cons_zero, List.set_cons_succ]))
                (refine tkH2 15 10 (v := ?_) ?_ ?_; rotate_left; focus (intro w' hSw; replace hSw := hSw.cs; (try simp only [cs_iff_cons] at hSw); go_simp; (try with_reducible rfl)); (try simp only [Act.put, List.setIfInBounds_toArray, List.set_cons_zero, List.set_cons_succ]))
                refine wpAnyH_done (by kernel_rfl) ?_ _
                ((try simp only [Act.put, List.setIfInBounds_toArray]); (try simp only [List.set_cons_zero, List.set_cons_succ]))
                have hcs := hHeld.cs
                simp only [cs_iff_cons] at hcs
                obtain ⟨c0, c1, c2, c3, _⟩ := hcs
                replace hb := Lib.hid (below_step hb.out hHeld.bel)
                clear hHeld
                go_wp2_with fail
                go_roundw
                case rel => exact ⟨k + 1, by omega, by go_num, by rw [hGk1.out, hv.out], hb⟩
                case measure => simp [intOf]; omega
              · have hv : Hid (S1 = S) := by show _ = _; rw [hsa2.out]; unfold Cal.dl; rw [if_neg (fun e => htq e.symm), if_neg (fun e => hfq e.symm)]; omega
                have hfb : ((f : Int) == (q : Int)) = false := by simp; omega
                have hfc : ¬ (f : Int) = (q : Int) := by omega
                clear hsa2
                go_wp2_with fail
                go_roundw
                case rel => exact ⟨k + 1, by omega, by go_num, by rw [hGk1.out, hv.out], hb⟩
                case measure => simp [intOf]; omega
          · obtain rfl : k = l.length := by omega
            have hbp2 := hbp.out
            rw [show fr.length - q = (fr.length - (q + 1)) + 1 by omega, Cal.badAt_step, ← hG.out] at hbp2
            generalize hS : Cal.sumsK p fr l l.length q = S at *
            rw [hG.out] at hbp2
            clear hS
            by_cases hS0 : S = 0
            · rw [if_neg (by simpa using hS0)] at hbp2
              have hnx := Lib.hid hbp2
              clear hbp hbp2
              subst hS0
              go_wp2_with fail
              go_roundw
              case rel => exact ⟨q + 1, by omega, by omega, by go_num, hnx, hb⟩
              case measure => simp [intOf]; omega
            · rw [if_pos hS0] at hbp2
              have e1 : Hid (R = (q : Int)) := by show _ = _; rw [← hR.out, hbp2]
              have hsb : (S == 0) = false := by simpa using hS0
              have hsc : (S != 0) = true := by simpa using hS0
              clear hbp hbp2
              go_wp2_with fail
              go_ret
              exact ⟨by rw [e1.out]; rfl, hb.out⟩
      · have hqe : q = fr.length := by omega
        have hbp2 : Cal.badP fr.length (Cal.sumsAll p fr l) = none := by rw [hbp.out, hqe, Nat.sub_self]; rfl
        have e1 : Hid (R = -1) := by show _ = _; rw [← hR.out, hbp2]
        subst hqe
        clear hbp hbp2
        go_wp2_with fail
        go_ret
        exact ⟨by rw [e1.out]; rfl, hb.out⟩
  · rw [if_neg hnm] at hR
    subst hR
    have hnb : (nm == 0) = false := by simpa using hnm
    have hnc : (nm != 0) = true := by simpa using hnm
    go_enter Try.func28, Try.ntmps28
    go_wp2_with fail
    go_ret
    exact ⟨rfl, hb0.out⟩
end Go.Proofs.Ytofaonigcojcaaa
