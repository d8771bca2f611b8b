/- What the statements rest on: definitions and walks, part 15. -/
import Derived.Test.YtfcjeejhdklkdaaJ14
import Derived.Test.YtfcjeejhdklkdaaJ07
namespace Go.Proofs.Ytfcjeejhdklkdaa
open Go Go.RowKit Go.Shelf
/-- A box with one value, laid first, stays. -/
structure BxI (w : World) (v : Value) (W : World) : Prop where
  a : W.cell? ⟨w.heap.size, 0, none⟩ = some v
  bel : Below w.heap.size w W
  lt : w.heap.size < W.heap.size
theorem BxI.below {w : World} {v : Value} {X Y : World} (h : BxI w v X) (hb : Below X.heap.size X Y) : BxI w v Y := ⟨(hb.cell (p := ⟨w.heap.size, 0, none⟩) h.lt).trans h.a, below_step h.bel hb, Nat.lt_of_lt_of_le h.lt hb.size⟩
theorem field_lev1 (a b c d : Int) (w : World) : (Instr.field 41 (.agg #[.int .i64 a, .int .i64 b, .int .i64 c, .int .i64 d]) 1).run Try.prog w = .ok (.int .i64 b) w := by kernel_rfl
set_option maxRecDepth 100000 in
set_option maxHeartbeats 4000000 in
theorem Misclosure_any (N : Int) (A : Option Addr) (c : Nat) (l : List Lev) (O : Option Addr) (c2 : Nat) (lp : List Int) (w : World) (hL : Levs w A l) (hI : RowsAt w O 1 (intRows lp)) (hs : lp.length ≤ 1000000) (hi : ∀ n ∈ lp, -9223372036854775808 ≤ n ∧ n ≤ 9223372036854775807) :
    Calls Try.prog 14 #[.int .i64 N, .slice A l.length c, .slice O lp.length c2] w fun e w' => e = .returned (.tuple #[.int .i64 (Cal.misSN N l lp), .int .i64 (Cal.misEN N l lp)]) ∧ Below w.heap.size w w' := by
  have hX : Hid (BxI w (.slice A l.length c) (w.alloc (.cells #[.slice A l.length c] 22))) := ⟨by simp, below_alloc _ _, by simp⟩
  have hck := Lib.hid (fun W (hb : Below w.heap.size w W) => CheckNet_any N A c l W (hL.below hb))
  have hsz := hL.size
  obtain ⟨E, hE⟩ : ∃ E, Cal.misEN N l lp = E := ⟨_, rfl⟩
  obtain ⟨S, hS⟩ : ∃ S, Cal.misSN N l lp = S := ⟨_, rfl⟩
  rw [hE, hS]
  unfold Cal.misEN at hE
  unfold Cal.misSN at hS
  by_cases hz : Cal.netE N l = 0
  · rw [if_pos hz] at hE hS
    obtain ⟨_, _, hl20, hlev, _⟩ := Cal.netE_zero hz
    have hv : Hid (∀ x ∈ l, -100000 ≤ x.d ∧ x.d ≤ 100000) := fun x hx => by
      have := Cal.levE_zero (hlev x hx); omega
    replace hz := Lib.hid hz
    by_cases hlen : lp.length < 1 ∨ 100 < lp.length
    · have hE2 : Hid (E = 10) := by show _ = _; rw [← hE]; unfold Cal.misE; rw [if_pos hlen]
      have hS2 : Hid (S = 0) := by show _ = _; rw [← hS]; unfold Cal.misS; rw [hE, if_neg (by rw [hE2.out]; decide)]
      clear hE hS
      replace hL := Lib.hid hL
      rcases hlen with h1 | h1
      · have h1 : (lp.length : Int) < 1 := by omega
        go_enter Try.func14, Try.ntmps14
        go_wp2_with (go_at_call 22; refine (hck.out _ hX.out.bel).mono ?_; rintro e0 w1 ⟨rfl, hb1⟩; rw [hz.out]; replace hX := Lib.hid (hX.out.below hb1); clear hck hb1)
        go_ret2
        exact ⟨by rw [hE2.out, hS2.out]; rfl, hX.out.bel⟩
      · have h2 : ¬ (lp.length : Int) < 1 := by omega
        have h1 : 100 < (lp.length : Int) := by omega
        go_enter Try.func14, Try.ntmps14
        go_wp2_with (go_at_call 22; refine (hck.out _ hX.out.bel).mono ?_; rintro e0 w1 ⟨rfl, hb1⟩; rw [hz.out]; replace hX := Lib.hid (hX.out.below hb1); clear hck hb1)
        go_ret2
        exact ⟨by rw [hE2.out, hS2.out]; rfl, hX.out.bel⟩
    · have hE2 : Hid (E = if lp.any (Cal.badL l) = true then 6 else if Cal.chain (Cal.lastT 0 (lp.map (Cal.stepL l))) (lp.map (Cal.stepL l)) = true then 0 else 29) := by show _ = _; rw [← hE]; unfold Cal.misE; rw [if_neg hlen]
      have hS2 : Hid (S = if E = 0 then Cal.sumD (lp.map (Cal.stepL l)) else 0) := by show _ = _; rw [← hS, ← hE]; rfl
      have h1 : ¬ (lp.length : Int) < 1 := by omega
      have h2 : ¬ 100 < (lp.length : Int) := by omega
      clear hE hS
      replace hL := Lib.hid hL
      replace hI := Lib.hid hI
      go_enter Try.func14, Try.ntmps14
      go_wp2_with (go_at_call 22; refine (hck.out _ hX.out.bel).mono ?_; rintro e0 w1 ⟨rfl, hb1⟩; rw [hz.out]; replace hX := Lib.hid (hX.out.below hb1); clear hck hb1)
      go_loopw [34] (fun i wr => ∃ k : Nat, k ≤ lp.length ∧ i = .int .i64 k ∧ Hid ((lp.take k).any (Cal.badL l) = false) ∧ Hid (BxI w (.slice A l.length c) wr)) (fun i _ => lp.length - (intOf i).toNat)
      case atStart => exact ⟨0, Nat.zero_le _, rfl, rfl, hX⟩
      case round =>
        clear hX
        obtain ⟨k, hk, rfl, hno, hX⟩ := hrel
        by_cases hlt : k < lp.length
        · obtain ⟨b, o, rfl, hbl, e0⟩ := intsI_at (hI.out.below hX.out.bel) hlt
          have hr := hi _ (List.getElem_mem hlt)
          have hno2 := Cal.any_take (f := Cal.badL l) hlt
          rw [hno.out, Bool.false_or] at hno2
          have hit := Cal.any_hit (f := Cal.badL l) hlt
          have hx0 := hX.out.a
          generalize lp[k] = n at *
          have hsize := Lib.hid (fun W => size_any n W hr.1 hr.2)
          have hu : IntKind.u64.wrap (l.length : Int) = (l.length : Int) := by rw [wrap_u64]; omega
          by_cases hn0 : n = 0
          · have hE3 : Hid (E = 6) := by show _ = _; rw [hE2.out, if_pos (hit (by rw [hn0]; simp [Cal.badL]))]
            have hS3 : Hid (S = 0) := by show _ = _; rw [hS2.out, if_neg (by rw [hE3.out]; decide)]
            clear hno2 hit hE2 hS2 hsize hr hu
            subst hn0
            go_wp2_with fail
            refine wp_region_held_drew (S := Sx wr []) (by kernel_rfl) (Sx.mk (cs_nil _) (Below.refl _ _)).drew (fun hHeld => ?_)
            refine tkHx 0 38 ?_
            refine tkHx 1 39 ?_
            refine tkHx 2 40 ?_
            refine tkFx 3 41 ?_
            refine tkFx 4 42 ?_
            refine tkFx 5 43 ?_
            refine tkFx 6 44 ?_
            refine tkFx 7 45 ?_
            refine tkFx 8 46 ?_
            refine tkHx 9 47 ?_
            refine wpAnyH_done (by kernel_rfl) ?_ _
            ((try simp only [Act.put, List.setIfInBounds_toArray]); (try simp only [List.set_cons_zero, List.set_cons_succ]))
            have hb9 := Lib.hid (hX.out.below hHeld.bel)
            clear hHeld
            go_wp2_with fail
            go_ret2
            exact ⟨by rw [hE3.out, hS3.out]; rfl, hb9.out.bel⟩
          · have hn0b : (n == 0) = false := by simpa using hn0
            by_cases hbig : l.length < n.natAbs
            · have hE3 : Hid (E = 6) := by show _ = _; rw [hE2.out, if_pos (hit (by simp [Cal.badL]; omega))]
              have hS3 : Hid (S = 0) := by show _ = _; rw [hS2.out, if_neg (by rw [hE3.out]; decide)]
              have hg : (l.length : Int) < (n.natAbs : Int) := by omega
              clear hno2 hit hE2 hS2 hr hbig
              generalize n.natAbs = na at *
              go_wp2_with fail
              refine wp_region_held_drew (S := Sx wr [(w.heap.size, 0, .slice A l.length c)]) (by kernel_rfl) (Sx.mk (by simp only [cs_iff_cons]; exact ⟨hx0, cs_nil _⟩) (Below.refl _ _)).drew (fun hHeld => ?_)
              refine tkHx 0 38 ?_
              refine tkHx 1 39 ?_
              refine tkHx 2 40 ?_
              refine tkHx 3 41 ?_
              refine tkHx 5 43 ?_
              refine tkHx 6 44 ?_
              refine tkHx 7 45 ?_
              (refine ratHx 4 (fun K hK => ?_); go_simp)
              refine (hsize.out _).mono ?_
              rintro e0 wz ⟨rfl, rfl⟩
              go_simp
              (refine hK.out _ _ hHeld (fun hHeld => ?_); clear hK K; (try simp only [Act.put, List.setIfInBounds_toArray]); (try simp only [List.set_cons_zero, List.set_cons_succ]))
              refine tkHx 8 46 ?_
              refine tkHx 9 47 ?_
              refine wpAnyH_done (by kernel_rfl) ?_ _
              ((try simp only [Act.put, List.setIfInBounds_toArray]); (try simp only [List.set_cons_zero, List.set_cons_succ]))
              have hb9 := Lib.hid (hX.out.below hHeld.bel)
              clear hHeld
              go_wp2_with fail
              go_ret2
              exact ⟨by rw [hE3.out, hS3.out]; rfl, hb9.out.bel⟩
            · have hno3 : Hid ((lp.take (k + 1)).any (Cal.badL l) = false) := by show _ = _; rw [hno2]; simp [Cal.badL]; omega
              have hg : ¬ (l.length : Int) < (n.natAbs : Int) := by omega
              clear hno2 hit hr hbig hno
              generalize n.natAbs = na at *
              go_wp2_with fail
              refine wp_region_held_drew (S := Sx wr [(w.heap.size, 0, .slice A l.length c)]) (by kernel_rfl) (Sx.mk (by simp only [cs_iff_cons]; exact ⟨hx0, cs_nil _⟩) (Below.refl _ _)).drew (fun hHeld => ?_)
              refine tkHx 0 38 ?_
              refine tkHx 1 39 ?_
              refine tkHx 2 40 ?_
              refine tkHx 3 41 ?_
              refine tkHx 5 43 ?_
              refine tkHx 6 44 ?_
              refine tkHx 7 45 ?_
              (refine ratHx 4 (fun K hK => ?_); go_simp)
              refine (hsize.out _).mono ?_
              rintro e0 wz ⟨rfl, rfl⟩
              go_simp
              (refine hK.out _ _ hHeld (fun hHeld => ?_); clear hK K; (try simp only [Act.put, List.setIfInBounds_toArray]); (try simp only [List.set_cons_zero, List.set_cons_succ]))
              refine tkHx 8 46 ?_
              refine tkHx 9 47 ?_
              refine wpAnyH_done (by kernel_rfl) ?_ _
              ((try simp only [Act.put, List.setIfInBounds_toArray]); (try simp only [List.set_cons_zero, List.set_cons_succ]))
              have hb9 := Lib.hid (hX.out.below hHeld.bel)
              clear hHeld
              go_wp2_with fail
              go_roundw
              case rel => exact ⟨k + 1, by omega, by go_num, hno3, hb9⟩
              case measure => simp [intOf]; omega
        · obtain rfl : k = lp.length := by omega
          have hno2 : lp.any (Cal.badL l) = false := by have := hno.out; rwa [List.take_length] at this
          have hE3 : Hid (E = if Cal.chain (Cal.lastT 0 (lp.map (Cal.stepL l))) (lp.map (Cal.stepL l)) = true then 0 else 29) := by show _ = _; rw [hE2.out, hno2, if_neg (by decide)]
          have hst : Hid (∀ n W, n ∈ lp → BxI w (.slice A l.length c) W → Calls Try.prog 48 #[.int .i64 n, .pointer (some ⟨w.heap.size, 0, none⟩)] W fun e w' => e = .returned (.agg #[.int .i64 (Cal.stepL l n).f, .int .i64 (Cal.stepL l n).t, .int .i64 (Cal.stepL l n).d, .int .i64 (Cal.stepL l n).w]) ∧ Below W.heap.size W w') := fun n W hn hX => stepG_any l A c n w.heap.size W hX.a hX.lt (hL.out.below hX.bel) hv.out (List.any_eq_false.1 hno2 n hn |> (by simpa using ·))
          have hbx : Hid (∀ n ∈ lp, -100000 ≤ (Cal.stepL l n).d ∧ (Cal.stepL l n).d ≤ 100000) := fun n hn => Cal.stepL_box hv.out (List.any_eq_false.1 hno2 n hn |> (by simpa using ·))
          obtain ⟨m, hm⟩ : ∃ m, lp.length = m + 1 := ⟨lp.length - 1, by omega⟩
          have hml : m < lp.length := by omega
          obtain ⟨b, o, rfl, hbl, e0⟩ := intsI_at (hI.out.below hX.out.bel) hml
          have hm1 : IntKind.i64.wrap ((lp.length : Int) - 1) = (m : Int) := by rw [wrap_small (by omega) (by omega)]; omega
          have hm2 : (m : Int) < (lp.length : Int) := by omega
          have hlast : Hid (Cal.lastT 0 (lp.map (Cal.stepL l)) = (Cal.stepL l lp[m]).t) := Cal.lastT_get (k := m) (by rw [List.getElem?_map, List.getElem?_eq_getElem hml]; rfl) (by rw [List.length_map]; exact hm)
          have hmem := Lib.hid (List.getElem_mem hml)
          generalize lp[m] = n at *
          have hxl : Hid ((lp.map (Cal.stepL l)).length = lp.length) := List.length_map ..
          have hxg : Hid (∀ k (h : k < lp.length), ∃ hk : k < (lp.map (Cal.stepL l)).length, (lp.map (Cal.stepL l))[k] = Cal.stepL l lp[k]) := fun k h => ⟨by rw [List.length_map]; exact h, List.getElem_map ..⟩
          clear hno hno2 hE2 hm hlt hk
          generalize lp.map (Cal.stepL l) = xs at *
          have hf1 := field_lev1
          go_wp2_with (go_at_call 48; refine (hst.out _ _ hmem.out hX.out).mono ?_; rintro e1 w3 ⟨rfl, hb3⟩; rw [← hlast.out]; replace hX := Lib.hid (hX.out.below hb3); clear hb3 e0)
          obtain ⟨a0, ha0⟩ : ∃ a0, Cal.lastT 0 xs = a0 := ⟨_, rfl⟩
          rw [ha0] at hE3 ⊢
          clear hmem ha0 hlast hm1 hm2 hml
          go_loopw [12, 13, 60] (fun av sv i wr => ∃ k : Nat, k ≤ lp.length ∧ i = .int .i64 k ∧ av = .int .i64 (Cal.lastT a0 (xs.take k)) ∧ sv = .int .i64 (Cal.sumD (xs.take k)) ∧ Hid (Cal.chain a0 (xs.take k) = true) ∧ Hid (-(100000 * (k : Int)) ≤ Cal.sumD (xs.take k) ∧ Cal.sumD (xs.take k) ≤ 100000 * (k : Int)) ∧ Hid (BxI w (.slice A l.length c) wr)) (fun _ _ i _ => lp.length - (intOf i).toNat)
          case atStart => exact ⟨0, Nat.zero_le _, rfl, rfl, rfl, rfl, ⟨by simp [Cal.sumD], by simp [Cal.sumD]⟩, hX⟩
          case round =>
            clear hX
            obtain ⟨k, hk, rfl, rfl, rfl, hch, hsm, hX⟩ := hrel
            by_cases hlt : k < lp.length
            · obtain ⟨b', o', hA, hbl, e0⟩ := intsI_at (hI.out.below hX.out.bel) hlt
              cases hA
              obtain ⟨hkx, hkg⟩ := hxg.out k hlt
              have hct := Cal.chain_take (a := a0) hkx
              have hlt2 := Cal.lastT_take (a := a0) hkx
              have hsd := Cal.sumD_take hkx
              have hbr := fun h => Cal.chain_break (a := a0) hkx h
              rw [hkg] at hct hlt2 hsd hbr
              rw [hch.out, Bool.true_and] at hct
              have hd := hbx.out _ (List.getElem_mem hlt)
              have hsm1 := hsm.out
              have hmem := Lib.hid (List.getElem_mem hlt)
              have hstk := Lib.hid (fun W hX => hst.out _ W hmem.out hX)
              generalize lp[k] = n at *
              generalize Cal.stepL l n = x at *
              generalize Cal.lastT a0 (xs.take k) = at_ at *
              generalize Cal.sumD (xs.take k) = sm at *
              obtain ⟨xf, xt, xd, xw⟩ := x
              dsimp only at *
              have hadd : IntKind.i64.wrap (sm + xd) = sm + xd := wrap_small (by omega) (by omega)
              have hsm2 : Hid (-(100000 * ((k + 1 : Nat) : Int)) ≤ Cal.sumD (xs.take (k + 1)) ∧ Cal.sumD (xs.take (k + 1)) ≤ 100000 * ((k + 1 : Nat) : Int)) := by
                show _ ∧ _
                rw [hsd]; omega
              by_cases heq : xf = at_
              · have hch2 : Hid (Cal.chain a0 (xs.take (k + 1)) = true) := by show _ = _; rw [hct, heq]; simp
                replace hlt2 := Lib.hid hlt2
                replace hsd := Lib.hid hsd
                clear hct hbr hkx hkg hd hsm1 hsm
                subst heq
                go_wp2_with (go_at_call 48; refine (hstk.out _ hX.out).mono ?_; rintro e1 w3 ⟨rfl, hb3⟩; replace hX := Lib.hid (hX.out.below hb3); clear hb3 e0)
                have y1 : (w3.alloc (.cells #[.int .i64 xf, .int .i64 xt, .int .i64 xd, .int .i64 xw] 41)).cell? ⟨w3.heap.size, 1, none⟩ = some (.int .i64 xt) := by simp
                have y2 : (w3.alloc (.cells #[.int .i64 xf, .int .i64 xt, .int .i64 xd, .int .i64 xw] 41)).cell? ⟨w3.heap.size, 2, none⟩ = some (.int .i64 xd) := by simp
                refine wp_region_held_drew (S := Sx (w3.alloc (.cells #[.int .i64 xf, .int .i64 xt, .int .i64 xd, .int .i64 xw] 41)) [(w3.heap.size, 1, .int .i64 xt), (w3.heap.size, 2, .int .i64 xd)]) (by kernel_rfl) (Sx.mk (by simp only [cs_iff_cons]; exact ⟨y1, y2, cs_nil _⟩) (Below.refl _ _)).drew (fun hHeld => ?_)
                clear y1 y2
                refine tkHx 0 71 ?_
                refine tkHx 1 72 ?_
                refine tkHx 2 73 ?_
                refine tkHx 3 74 ?_
                refine tkHx 4 75 ?_
                refine tkHx 5 76 ?_
                refine tkHx 6 12 ?_
                refine tkHx 7 13 ?_
                refine wpAnyH_done (by kernel_rfl) ?_ _
                ((try simp only [Act.put, List.setIfInBounds_toArray]); (try simp only [List.set_cons_zero, List.set_cons_succ]))
                have hb9 := Lib.hid ((hX.out.below (below_alloc w3 (.cells #[.int .i64 xf, .int .i64 xt, .int .i64 xd, .int .i64 xw] 41))).below hHeld.bel)
                clear hHeld
                go_wp2_with fail
                go_roundw
                case rel => exact ⟨k + 1, by omega, by go_num, by rw [hlt2.out], by rw [hsd.out], hch2, hsm2, hb9⟩
                case measure => simp [intOf]; omega
              · have hch0 : Cal.chain a0 xs = false := hbr heq
                have hE4 : Hid (E = 29) := by show _ = _; rw [hE3.out, hch0, if_neg (by decide)]
                have hS4 : Hid (S = 0) := by show _ = _; rw [hS2.out, if_neg (by rw [hE4.out]; decide)]
                clear hct hbr hkx hkg hd hsm1 hsm hlt2 hsd hch0
                go_wp2_with (go_at_call 48; refine (hstk.out _ hX.out).mono ?_; rintro e1 w3 ⟨rfl, hb3⟩; replace hX := Lib.hid (hX.out.below hb3); clear hb3 e0)
                go_ret2
                exact ⟨by rw [hE4.out, hS4.out]; rfl, below_step hX.out.bel (below_alloc _ _)⟩
            · obtain rfl : k = lp.length := by omega
              have htk : xs.take lp.length = xs := List.take_of_length_le (Nat.le_of_eq hxl.out)
              rw [htk] at hch hsm ⊢
              have hE4 : Hid (E = 0) := by show _ = _; rw [hE3.out, if_pos hch.out]
              have hS4 : Hid (S = Cal.sumD xs) := by show _ = _; rw [hS2.out, if_pos hE4.out]
              clear hch hsm htk
              go_wp2_with fail
              go_ret2
              exact ⟨by rw [hE4.out, hS4.out]; rfl, hX.out.bel⟩
  · rw [if_neg hz] at hE hS
    subst hE hS
    replace hL := Lib.hid hL
    have h0b : (Cal.netE N l == 0) = false := by simpa using hz
    have h0c : (Cal.netE N l != 0) = true := by simpa using hz
    go_enter Try.func14, Try.ntmps14
    go_wp2_with (go_at_call 22; refine (hck.out _ hX.out.bel).mono ?_; rintro e0 w1 ⟨rfl, hb1⟩; replace hX := Lib.hid (hX.out.below hb1); clear hck hb1)
    go_ret2
    exact ⟨rfl, hX.out.bel⟩
end Go.Proofs.Ytfcjeejhdklkdaa
