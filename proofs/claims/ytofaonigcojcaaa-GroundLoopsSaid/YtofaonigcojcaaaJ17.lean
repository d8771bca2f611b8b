/- What the statements rest on: definitions and walks, part 17. -/
import Derived.Test.YtofaonigcojcaaaJ16
import Derived.Test.YtofaonigcojcaaaJ14
import Derived.Test.YtofaonigcojcaaaJ05
namespace Go.Proofs.Ytofaonigcojcaaa
open Go Go.RowKit Go.Shelf
theorem absG_any (n : Int) (h1 : -9223372036854775807 ≤ n) (h2 : n ≤ 9223372036854775807) (w : World) : Calls Try.prog 34 #[.int .i64 n] w fun e w' => e = .returned (.int .i64 (n.natAbs : Int)) ∧ w = w' := by
  have hng : IntKind.i64.wrap (-n) = -n := wrap_small (by omega) (by omega)
  have hf : Hid ((n.natAbs : Int) = max n (-n)) := by show _ = _; omega
  go_enter Try.func34, Try.ntmps34
  go_wp2
  go_ret
  exact ⟨ret_int hf.out.symm, rfl⟩
set_option maxRecDepth 100000 in
set_option maxHeartbeats 4000000 in
theorem MisclosureR_any (A : Option Addr) (c : Nat) (l : List Lev) (O : Option Addr) (c2 : Nat) (lp : List Int) (w : World) (hL : Levs w A l) (hI : RowsAt w O 1 (intRows lp)) (hs : lp.length ≤ 1000000) (hv : ∀ x ∈ l, -100000 ≤ x.d ∧ x.d ≤ 100000) :
    Calls Try.prog 30 #[.slice A l.length c, .slice O lp.length c2] w fun e w' => e = .returned (.tuple #[.int .i64 (Cal.misS l lp), .int .i64 (Cal.misE l lp)]) ∧ Below w.heap.size w w' := by
  have hsz := hL.size
  have hb0 : Hid (Below w.heap.size w w) := Below.refl _ _
  obtain ⟨E, hE⟩ : ∃ E, Cal.misE l lp = E := ⟨_, rfl⟩
  obtain ⟨S, hS⟩ : ∃ S, Cal.misS l lp = S := ⟨_, rfl⟩
  rw [hE, hS]
  have hW := Lib.hid (fun W => Within_any (lp.length : Int) 1 100 W)
  by_cases hlen : lp.length < 1 ∨ 100 < lp.length
  · have hE2 : Hid (E = 10) := by show _ = _; rw [← hE]; unfold Cal.misE; rw [if_pos hlen]
    have hS2 : Hid (S = 0) := by show _ = _; rw [← hS]; unfold Cal.misS; rw [hE, if_neg (by rw [hE2.out]; decide)]
    clear hE hS
    have hww : Hid ((decide ((1 : Int) ≤ (lp.length : Int)) && decide ((lp.length : Int) ≤ 100)) = false) := by
      show _ = _
      by_cases q1 : (1 : Int) ≤ (lp.length : Int) <;> by_cases q2 : (lp.length : Int) ≤ 100 <;> simp [q1, q2] <;> omega
    go_enter Try.func30, Try.ntmps30
    go_wp2_with (go_at_call 31; refine (hW.out _).mono ?_; rintro e0 wn ⟨rfl, rfl⟩; rw [hww.out])
    go_ret2
    exact ⟨by rw [hE2.out, hS2.out]; rfl, hb0.out⟩
  · have hE2 : Hid (E = if lp.any (Cal.badL l) = true then 6 else if Cal.chain (Cal.lastT 0 (lp.map (Cal.stepL l))) (lp.map (Cal.stepL l)) = true then 0 else 29) := by show _ = _; rw [← hE]; unfold Cal.misE; rw [if_neg hlen]
    have hS2 : Hid (S = if E = 0 then Cal.sumD (lp.map (Cal.stepL l)) else 0) := by show _ = _; rw [← hS, ← hE]; rfl
    have hww : Hid ((decide ((1 : Int) ≤ (lp.length : Int)) && decide ((lp.length : Int) ≤ 100)) = true) := by show _ = _; simp; omega
    have hlen2 := Lib.hid hlen
    clear hE hS hlen
    replace hL := Lib.hid hL
    replace hI := Lib.hid hI
    replace hv := Lib.hid hv
    have hng : IntKind.i64.wrap (-(l.length : Int)) = -(l.length : Int) := wrap_small (by omega) (by omega)
    go_enter Try.func30, Try.ntmps30
    go_wp2_with (go_at_call 31; refine (hW.out _).mono ?_; rintro e0 wn ⟨rfl, rfl⟩; rw [hww.out]; clear hW hww)
    go_loopw [6] (fun i wr => ∃ k : Nat, k ≤ lp.length ∧ i = .int .i64 k ∧ Hid ((lp.take k).any (Cal.badL l) = false) ∧ Hid (Below w.heap.size w wr)) (fun i _ => lp.length - (intOf i).toNat)
    case atStart => exact ⟨0, Nat.zero_le _, rfl, rfl, hb0⟩
    case round =>
      clear hb0
      obtain ⟨k, hk, rfl, hno, hX⟩ := hrel
      by_cases hlt : k < lp.length
      · obtain ⟨b, o, rfl, hbl, e0⟩ := intsI_at (hI.out.below hX.out) hlt
        have hno2 := Cal.any_take (f := Cal.badL l) hlt
        rw [hno.out, Bool.false_or] at hno2
        have hit := Cal.any_hit (f := Cal.badL l) hlt
        have hki : (k : Int) < (lp.length : Int) := by omega
        generalize lp[k] = n at *
        by_cases hn0 : n = 0
        · have hE3 : Hid (E = 6) := by show _ = _; rw [hE2.out, if_pos (hit (by rw [hn0]; simp [Cal.badL]))]
          have hS3 : Hid (S = 0) := by show _ = _; rw [hS2.out, if_neg (by rw [hE3.out]; decide)]
          clear hno2 hit hE2 hS2
          subst hn0
          go_wp2_with fail
          go_ret2
          exact ⟨by rw [hE3.out, hS3.out]; rfl, hX.out⟩
        · have hn0b : (n == 0) = false := by simpa using hn0
          by_cases hbig : l.length < n.natAbs
          · have hE3 : Hid (E = 6) := by show _ = _; rw [hE2.out, if_pos (hit (by simp [Cal.badL]; omega))]
            have hS3 : Hid (S = 0) := by show _ = _; rw [hS2.out, if_neg (by rw [hE3.out]; decide)]
            have hg : Hid ((decide (-(l.length : Int) ≤ n) && decide (n ≤ (l.length : Int))) = false) := by
              show _ = _
              by_cases q1 : -(l.length : Int) ≤ n <;> by_cases q2 : n ≤ (l.length : Int) <;> simp [q1, q2] <;> omega
            clear hno2 hit hE2 hS2 hbig
            go_wp2_with (go_at_call 31; refine (Within_any _ _ _ _).mono ?_; rintro e0 wn ⟨rfl, rfl⟩; rw [hg.out])
            go_ret2
            exact ⟨by rw [hE3.out, hS3.out]; rfl, hX.out⟩
          · have hno3 : Hid ((lp.take (k + 1)).any (Cal.badL l) = false) := by show _ = _; rw [hno2]; simp [Cal.badL]; omega
            have hg : Hid ((decide (-(l.length : Int) ≤ n) && decide (n ≤ (l.length : Int))) = true) := by show _ = _; simp; omega
            clear hno2 hit hbig hno
            go_wp2_with (go_at_call 31; refine (Within_any _ _ _ _).mono ?_; rintro e0 wn ⟨rfl, rfl⟩; rw [hg.out])
            go_roundw
            case rel => exact ⟨k + 1, by omega, by go_num, hno3, hX⟩
            case measure => simp [intOf]; omega
      · obtain rfl : k = lp.length := by omega
        have hno2 : lp.any (Cal.badL l) = false := by have := hno.out; rwa [List.take_length] at this
        have hE3 : Hid (E = if Cal.chain (Cal.lastT 0 (lp.map (Cal.stepL l))) (lp.map (Cal.stepL l)) = true then 0 else 29) := by show _ = _; rw [hE2.out, hno2, if_neg (by decide)]
        have hgood : Hid (∀ n ∈ lp, Cal.badL l n = false) := fun n hn => (List.any_eq_false.1 hno2 n hn |> (by simpa using ·))
        have hl1 : 1 ≤ lp.length := by have := hlen2.out; omega
        have hbx : Hid (∀ n ∈ lp, -100000 ≤ (Cal.stepL l n).d ∧ (Cal.stepL l n).d ≤ 100000) := fun n hn => Cal.stepL_box hv.out (hgood.out n hn)
        have hxl : Hid ((lp.map (Cal.stepL l)).length = lp.length) := List.length_map ..
        have hxg : Hid (∀ k (h : k < lp.length), ∃ hk : k < (lp.map (Cal.stepL l)).length, (lp.map (Cal.stepL l))[k] = Cal.stepL l lp[k]) := fun k h => ⟨by rw [List.length_map]; exact h, List.getElem_map ..⟩
        clear hno hno2 hE2 hlt hk
        generalize lp.map (Cal.stepL l) = xs at *
        obtain ⟨f0, hf0⟩ : ∃ f0, (Cal.stepL l lp[0]).f = f0 := ⟨_, rfl⟩
        have hcf : Hid (Cal.chain (Cal.lastT 0 xs) xs = (Cal.chain f0 xs && decide (Cal.lastT f0 xs = f0))) := by
          obtain ⟨h0, h1⟩ := hxg.out 0 (by omega)
          exact Cal.chain_from (by rw [List.getElem?_eq_getElem h0, h1]) hf0
        replace hf0 := Lib.hid hf0
        replace hE3 : Hid (E = if (Cal.chain f0 xs && decide (Cal.lastT f0 xs = f0)) = true then 0 else 29) := by show _ = _; rw [hE3.out, hcf.out]
        clear hcf hlen2 hng
        go_wp2_with fail
        go_loopw [7, 8, 9, 10] (fun sv fv lv i wr => ∃ (k : Nat) (fc lc : Int), k ≤ lp.length ∧ i = .int .i64 k ∧ sv = .int .i64 (Cal.sumD (xs.take k)) ∧ fv = .int .i64 fc ∧ lv = .int .i64 lc ∧ Hid (k = 0 ∨ (fc = f0 ∧ lc = Cal.lastT f0 (xs.take k))) ∧ Hid (Cal.chain f0 (xs.take k) = true) ∧ Hid (-(100000 * (k : Int)) ≤ Cal.sumD (xs.take k) ∧ Cal.sumD (xs.take k) ≤ 100000 * (k : Int)) ∧ Hid (Below w.heap.size w wr)) (fun _ _ _ i _ => lp.length - (intOf i).toNat)
        case atStart => exact ⟨0, _, _, Nat.zero_le _, rfl, rfl, rfl, rfl, .inl rfl, rfl, ⟨by simp [Cal.sumD], by simp [Cal.sumD]⟩, hX⟩
        case round =>
          clear hX
          obtain ⟨k, fc, lc, hk, rfl, rfl, rfl, rfl, hfl, hch, hsm, hX⟩ := hrel
          by_cases hlt : k < lp.length
          · obtain ⟨b, o, rfl, hbl, e0⟩ := intsI_at (hI.out.below hX.out) hlt
            have hki : (k : Int) < (lp.length : Int) := by omega
            obtain ⟨hkx, hkg⟩ := hxg.out k hlt
            have hct := Cal.chain_take (a := f0) hkx
            have hlt2 := Cal.lastT_take (a := f0) hkx
            have hsd := Cal.sumD_take hkx
            have hbr := fun h => Cal.chain_break (a := f0) hkx h
            rw [hkg] at hct hlt2 hsd hbr
            rw [hch.out, Bool.true_and] at hct
            have hmem := List.getElem_mem hlt
            have hd := hbx.out _ hmem
            have hsm1 := hsm.out
            obtain ⟨q, y, hq, hn1, hql, hy, hye⟩ := Cal.stepL_mem (hgood.out _ hmem)
            have hf0k : k = 0 → (Cal.stepL l lp[k]).f = f0 := fun h => by subst h; exact hf0.out
            generalize lp[k] = n at *
            obtain ⟨b2, o2, rfl, hbl2, c0, c1, c2, c3⟩ := lev_at (hL.out.below hX.out).rows hy
            have habs := Lib.hid (fun W => absG_any n (by omega) (by omega) W)
            have hq1 : IntKind.i64.wrap ((n.natAbs : Int) - 1) = (q : Int) := by rw [wrap_small (by omega) (by omega)]; omega
            have hqi : (q : Int) < (l.length : Int) := by omega
            have hyd := hv.out _ (List.mem_of_getElem? hy)
            obtain ⟨yf, yt, yd, yw⟩ := y
            dsimp only at *
            have hyn : IntKind.i64.wrap (-yd) = -yd := wrap_small (by omega) (by omega)
            replace hye := Lib.hid hye
            replace hct := Lib.hid hct
            replace hlt2 := Lib.hid hlt2
            replace hsd := Lib.hid hsd
            replace hbr := Lib.hid hbr
            replace hd := Lib.hid hd
            replace hf0k := Lib.hid hf0k
            generalize n.natAbs = na at *
            generalize hxs : Cal.stepL l n = x at *
            clear hxs hy hq hn1 hmem hkg hyd
            go_upto_region 13 with (go_at_call 34; refine (habs.out _).mono ?_; rintro e1 wn ⟨rfl, rfl⟩)
            by_cases hneg : n < 0
            · have hres : x = ⟨yt, yf, -yd, yw⟩ := by
                rw [hye.out, if_pos hneg]; rfl
              subst hres
              dsimp only at *
              go_upto_region 15 with fail
              have hB := Lib.hid (BoxAt.new wr #[.int .i64 (Lev.mk yt yf (-yd) yw).f, .int .i64 (Lev.mk yt yf (-yd) yw).t, .int .i64 (Lev.mk yt yf (-yd) yw).d, .int .i64 (Lev.mk yt yf (-yd) yw).w] 57)
              have hX2 := Lib.hid (below_step hX.out (below_alloc wr (.cells #[.int .i64 (Lev.mk yt yf (-yd) yw).f, .int .i64 (Lev.mk yt yf (-yd) yw).t, .int .i64 (Lev.mk yt yf (-yd) yw).d, .int .i64 (Lev.mk yt yf (-yd) yw).w] 57)))
              dsimp only at hB hX2
              generalize wr.alloc (.cells #[.int .i64 (yt), .int .i64 (yf), .int .i64 (-yd), .int .i64 (yw)] 57) = wc at *
              clear hX
              have hX := hX2
              clear hX2 hye habs hq1 hqi c0 c1 c2 c3 hyn e0 hbl hbl2
              generalize wr.heap.size = Bx at *
              have d0 := hB.out.c 0 _ rfl
              have d1 := hB.out.c 1 _ rfl
              have d2 := hB.out.c 2 _ rfl
              have hBl := hB.out.lt
              have hdd := hd.out
              have hadd : IntKind.i64.wrap (Cal.sumD (xs.take k) + (-yd)) = Cal.sumD (xs.take k) + (-yd) := wrap_small (by omega) (by omega)
              have hsm2 : Hid (-(100000 * ((k + 1 : Nat) : Int)) ≤ Cal.sumD (xs.take (k + 1)) ∧ Cal.sumD (xs.take (k + 1)) ≤ 100000 * ((k + 1 : Nat) : Int)) := by
                show _ ∧ _
                rw [hsd.out]; omega
              have hend : Hid (yt = Cal.lastT f0 (xs.take k) → Cal.chain f0 (xs.take (k + 1)) = true) := fun h => by rw [hct.out]; simpa using h
              clear hdd hsm1 hd hsm
              by_cases hk0 : k = 0
              · subst hk0
                have hff : Hid (yt = f0) := hf0k.out rfl
                have hch2 := Lib.hid (hend.out (by rw [hff.out]; rfl))
                clear hend hbr hct hfl hch hf0k
                generalize Cal.sumD (xs.take 0) = sm at *
                go_wp2_with fail
                refine wp_region_held_drew (S := Sx wc [(Bx, 2, .int .i64 ((-yd))), (Bx, 1, .int .i64 (yf))]) (by kernel_rfl) (Sx.mk (by simp only [cs_iff_cons]; exact ⟨d2, d1, cs_nil _⟩) (Below.refl _ _)).drew (fun hHeld => ?_)
                (refine tkH2 0 78 (v := ?_) ?_ ?_; rotate_left; focus (intro w' hSw; replace hSw := hSw.cs; (try simp only [cs_iff_cons] at hSw); go_simp; (try with_reducible rfl)); (try simp only [Act.put, List.setIfInBounds_toArray, List.set_cons_zero, List.set_cons_succ]))
                (refine tkH2 1 79 (v := ?_) ?_ ?_; rotate_left; focus (intro w' hSw; replace hSw := hSw.cs; (try simp only [cs_iff_cons] at hSw); go_simp; (try with_reducible rfl)); (try simp only [Act.put, List.setIfInBounds_toArray, List.set_cons_zero, List.set_cons_succ]))
                (refine tkH2 2 80 (v := ?_) ?_ ?_; rotate_left; focus (intro w' hSw; replace hSw := hSw.cs; (try simp only [cs_iff_cons] at hSw); go_simp; (try with_reducible rfl)); (try simp only [Act.put, List.setIfInBounds_toArray, List.set_cons_zero, List.set_cons_succ]))
                (refine tkH2 3 81 (v := ?_) ?_ ?_; rotate_left; focus (intro w' hSw; replace hSw := hSw.cs; (try simp only [cs_iff_cons] at hSw); go_simp; (try with_reducible rfl)); (try simp only [Act.put, List.setIfInBounds_toArray, List.set_cons_zero, List.set_cons_succ]))
                (refine tkH2 4 82 (v := ?_) ?_ ?_; rotate_left; focus (intro w' hSw; replace hSw := hSw.cs; (try simp only [cs_iff_cons] at hSw); go_simp; (try with_reducible rfl)); (try simp only [Act.put, List.setIfInBounds_toArray, List.set_cons_zero, List.set_cons_succ]))
                (refine tkH2 5 83 (v := ?_) ?_ ?_; rotate_left; focus (intro w' hSw; replace hSw := hSw.cs; (try simp only [cs_iff_cons] at hSw); go_simp; (try with_reducible rfl)); (try simp only [Act.put, List.setIfInBounds_toArray, List.set_cons_zero, List.set_cons_succ]))
                (refine tkH2 6 7 (v := ?_) ?_ ?_; rotate_left; focus (intro w' hSw; replace hSw := hSw.cs; (try simp only [cs_iff_cons] at hSw); go_simp; (try with_reducible rfl)); (try simp only [Act.put, List.setIfInBounds_toArray, List.set_cons_zero, List.set_cons_succ]))
                (refine tkH2 7 9 (v := ?_) ?_ ?_; rotate_left; focus (intro w' hSw; replace hSw := hSw.cs; (try simp only [cs_iff_cons] at hSw); go_simp; (try with_reducible rfl)); (try simp only [Act.put, List.setIfInBounds_toArray, List.set_cons_zero, List.set_cons_succ]))
                refine wpAnyH_done (by kernel_rfl) ?_ _
                ((try simp only [Act.put, List.setIfInBounds_toArray]); (try simp only [List.set_cons_zero, List.set_cons_succ]))
                have hb9 := Lib.hid (below_step hX.out hHeld.bel)
                clear hHeld d0 d1 d2
                go_wp2_with fail
                go_roundw
                case rel => exact ⟨1, yt, yf, by omega, by go_num, by rw [hsd.out], rfl, rfl, .inr ⟨hff.out, hlt2.out.symm⟩, hch2, hsm2, hb9⟩
                case measure => simp [intOf]; omega
              · have hk0b : ((k : Int) == 0) = false := by simp; omega
                have hk0c : ¬ (k : Int) = 0 := by omega
                obtain ⟨rfl, rfl⟩ : fc = f0 ∧ lc = Cal.lastT f0 (xs.take k) := by rcases hfl.out with h | h; omega; exact h
                generalize Cal.lastT fc (xs.take k) = lc at *
                generalize Cal.sumD (xs.take k) = sm at *
                clear hfl hch hf0k
                by_cases heq : yt = lc
                · have hch2 := Lib.hid (hend.out heq)
                  clear hend hbr hct
                  subst heq
                  go_wp2_with fail
                  refine wp_region_held_drew (S := Sx wc [(Bx, 2, .int .i64 ((-yd))), (Bx, 1, .int .i64 (yf))]) (by kernel_rfl) (Sx.mk (by simp only [cs_iff_cons]; exact ⟨d2, d1, cs_nil _⟩) (Below.refl _ _)).drew (fun hHeld => ?_)
                  (refine tkH2 0 78 (v := ?_) ?_ ?_; rotate_left; focus (intro w' hSw; replace hSw := hSw.cs; (try simp only [cs_iff_cons] at hSw); go_simp; (try with_reducible rfl)); (try simp only [Act.put, List.setIfInBounds_toArray, List.set_cons_zero, List.set_cons_succ]))
                  (refine tkH2 1 79 (v := ?_) ?_ ?_; rotate_left; focus (intro w' hSw; replace hSw := hSw.cs; (try simp only [cs_iff_cons] at hSw); go_simp; (try with_reducible rfl)); (try simp only [Act.put, List.setIfInBounds_toArray, List.set_cons_zero, List.set_cons_succ]))
                  (refine tkH2 2 80 (v := ?_) ?_ ?_; rotate_left; focus (intro w' hSw; replace hSw := hSw.cs; (try simp only [cs_iff_cons] at hSw); go_simp; (try with_reducible rfl)); (try simp only [Act.put, List.setIfInBounds_toArray, List.set_cons_zero, List.set_cons_succ]))
                  (refine tkH2 3 81 (v := ?_) ?_ ?_; rotate_left; focus (intro w' hSw; replace hSw := hSw.cs; (try simp only [cs_iff_cons] at hSw); go_simp; (try with_reducible rfl)); (try simp only [Act.put, List.setIfInBounds_toArray, List.set_cons_zero, List.set_cons_succ]))
                  (refine tkH2 4 82 (v := ?_) ?_ ?_; rotate_left; focus (intro w' hSw; replace hSw := hSw.cs; (try simp only [cs_iff_cons] at hSw); go_simp; (try with_reducible rfl)); (try simp only [Act.put, List.setIfInBounds_toArray, List.set_cons_zero, List.set_cons_succ]))
                  (refine tkH2 5 83 (v := ?_) ?_ ?_; rotate_left; focus (intro w' hSw; replace hSw := hSw.cs; (try simp only [cs_iff_cons] at hSw); go_simp; (try with_reducible rfl)); (try simp only [Act.put, List.setIfInBounds_toArray, List.set_cons_zero, List.set_cons_succ]))
                  (refine tkH2 6 7 (v := ?_) ?_ ?_; rotate_left; focus (intro w' hSw; replace hSw := hSw.cs; (try simp only [cs_iff_cons] at hSw); go_simp; (try with_reducible rfl)); (try simp only [Act.put, List.setIfInBounds_toArray, List.set_cons_zero, List.set_cons_succ]))
                  (refine tkH2 7 9 (v := ?_) ?_ ?_; rotate_left; focus (intro w' hSw; replace hSw := hSw.cs; (try simp only [cs_iff_cons] at hSw); go_simp; (try with_reducible rfl)); (try simp only [Act.put, List.setIfInBounds_toArray, List.set_cons_zero, List.set_cons_succ]))
                  refine wpAnyH_done (by kernel_rfl) ?_ _
                  ((try simp only [Act.put, List.setIfInBounds_toArray]); (try simp only [List.set_cons_zero, List.set_cons_succ]))
                  have hb9 := Lib.hid (below_step hX.out hHeld.bel)
                  clear hHeld d0 d1 d2
                  go_wp2_with fail
                  go_roundw
                  case rel => exact ⟨k + 1, fc, yf, by omega, by go_num, by rw [hsd.out], rfl, rfl, .inr ⟨rfl, hlt2.out.symm⟩, hch2, hsm2, hb9⟩
                  case measure => simp [intOf]; omega
                · have hE4 : Hid (E = 29) := by show _ = _; rw [hE3.out, hbr.out heq, Bool.false_and, if_neg (by decide)]
                  have hS4 : Hid (S = 0) := by show _ = _; rw [hS2.out, if_neg (by rw [hE4.out]; decide)]
                  have hxb : (yt == lc) = false := by simpa using heq
                  have hxc : (yt != lc) = true := by simpa using heq
                  clear hend hbr hct hE3 hS2
                  go_wp2_with fail
                  go_ret2
                  exact ⟨by rw [hE4.out, hS4.out]; rfl, hX.out⟩
            · have hres : x = ⟨yf, yt, yd, yw⟩ := by
                rw [hye.out, if_neg hneg]
              subst hres
              dsimp only at *
              go_upto_region 15 with fail
              have hB := Lib.hid (BoxAt.new wr #[.int .i64 (Lev.mk yf yt yd yw).f, .int .i64 (Lev.mk yf yt yd yw).t, .int .i64 (Lev.mk yf yt yd yw).d, .int .i64 (Lev.mk yf yt yd yw).w] 57)
              have hX2 := Lib.hid (below_step hX.out (below_alloc wr (.cells #[.int .i64 (Lev.mk yf yt yd yw).f, .int .i64 (Lev.mk yf yt yd yw).t, .int .i64 (Lev.mk yf yt yd yw).d, .int .i64 (Lev.mk yf yt yd yw).w] 57)))
              dsimp only at hB hX2
              generalize wr.alloc (.cells #[.int .i64 (yf), .int .i64 (yt), .int .i64 (yd), .int .i64 (yw)] 57) = wc at *
              clear hX
              have hX := hX2
              clear hX2 hye habs hq1 hqi c0 c1 c2 c3 hyn e0 hbl hbl2
              generalize wr.heap.size = Bx at *
              have d0 := hB.out.c 0 _ rfl
              have d1 := hB.out.c 1 _ rfl
              have d2 := hB.out.c 2 _ rfl
              have hBl := hB.out.lt
              have hdd := hd.out
              have hadd : IntKind.i64.wrap (Cal.sumD (xs.take k) + yd) = Cal.sumD (xs.take k) + yd := wrap_small (by omega) (by omega)
              have hsm2 : Hid (-(100000 * ((k + 1 : Nat) : Int)) ≤ Cal.sumD (xs.take (k + 1)) ∧ Cal.sumD (xs.take (k + 1)) ≤ 100000 * ((k + 1 : Nat) : Int)) := by
                show _ ∧ _
                rw [hsd.out]; omega
              have hend : Hid (yf = Cal.lastT f0 (xs.take k) → Cal.chain f0 (xs.take (k + 1)) = true) := fun h => by rw [hct.out]; simpa using h
              clear hdd hsm1 hd hsm
              by_cases hk0 : k = 0
              · subst hk0
                have hff : Hid (yf = f0) := hf0k.out rfl
                have hch2 := Lib.hid (hend.out (by rw [hff.out]; rfl))
                clear hend hbr hct hfl hch hf0k
                generalize Cal.sumD (xs.take 0) = sm at *
                go_wp2_with fail
                refine wp_region_held_drew (S := Sx wc [(Bx, 2, .int .i64 (yd)), (Bx, 1, .int .i64 (yt))]) (by kernel_rfl) (Sx.mk (by simp only [cs_iff_cons]; exact ⟨d2, d1, cs_nil _⟩) (Below.refl _ _)).drew (fun hHeld => ?_)
                (refine tkH2 0 78 (v := ?_) ?_ ?_; rotate_left; focus (intro w' hSw; replace hSw := hSw.cs; (try simp only [cs_iff_cons] at hSw); go_simp; (try with_reducible rfl)); (try simp only [Act.put, List.setIfInBounds_toArray, List.set_cons_zero, List.set_cons_succ]))
                (refine tkH2 1 79 (v := ?_) ?_ ?_; rotate_left; focus (intro w' hSw; replace hSw := hSw.cs; (try simp only [cs_iff_cons] at hSw); go_simp; (try with_reducible rfl)); (try simp only [Act.put, List.setIfInBounds_toArray, List.set_cons_zero, List.set_cons_succ]))
                (refine tkH2 2 80 (v := ?_) ?_ ?_; rotate_left; focus (intro w' hSw; replace hSw := hSw.cs; (try simp only [cs_iff_cons] at hSw); go_simp; (try with_reducible rfl)); (try simp only [Act.put, List.setIfInBounds_toArray, List.set_cons_zero, List.set_cons_succ]))
                (refine tkH2 3 81 (v := ?_) ?_ ?_; rotate_left; focus (intro w' hSw; replace hSw := hSw.cs; (try simp only [cs_iff_cons] at hSw); go_simp; (try with_reducible rfl)); (try simp only [Act.put, List.setIfInBounds_toArray, List.set_cons_zero, List.set_cons_succ]))
                (refine tkH2 4 82 (v := ?_) ?_ ?_; rotate_left; focus (intro w' hSw; replace hSw := hSw.cs; (try simp only [cs_iff_cons] at hSw); go_simp; (try with_reducible rfl)); (try simp only [Act.put, List.setIfInBounds_toArray, List.set_cons_zero, List.set_cons_succ]))
                (refine tkH2 5 83 (v := ?_) ?_ ?_; rotate_left; focus (intro w' hSw; replace hSw := hSw.cs; (try simp only [cs_iff_cons] at hSw); go_simp; (try with_reducible rfl)); (try simp only [Act.put, List.setIfInBounds_toArray, List.set_cons_zero, List.set_cons_succ]))
                (refine tkH2 6 7 (v := ?_) ?_ ?_; rotate_left; focus (intro w' hSw; replace hSw := hSw.cs; (try simp only [cs_iff_cons] at hSw); go_simp; (try with_reducible rfl)); (try simp only [Act.put, List.setIfInBounds_toArray, List.set_cons_zero, List.set_cons_succ]))
                (refine tkH2 7 9 (v := ?_) ?_ ?_; rotate_left; focus (intro w' hSw; replace hSw := hSw.cs; (try simp only [cs_iff_cons] at hSw); go_simp; (try with_reducible rfl)); (try simp only [Act.put, List.setIfInBounds_toArray, List.set_cons_zero, List.set_cons_succ]))
                refine wpAnyH_done (by kernel_rfl) ?_ _
                ((try simp only [Act.put, List.setIfInBounds_toArray]); (try simp only [List.set_cons_zero, List.set_cons_succ]))
                have hb9 := Lib.hid (below_step hX.out hHeld.bel)
                clear hHeld d0 d1 d2
                go_wp2_with fail
                go_roundw
                case rel => exact ⟨1, yf, yt, by omega, by go_num, by rw [hsd.out], rfl, rfl, .inr ⟨hff.out, hlt2.out.symm⟩, hch2, hsm2, hb9⟩
                case measure => simp [intOf]; omega
              · have hk0b : ((k : Int) == 0) = false := by simp; omega
                have hk0c : ¬ (k : Int) = 0 := by omega
                obtain ⟨rfl, rfl⟩ : fc = f0 ∧ lc = Cal.lastT f0 (xs.take k) := by rcases hfl.out with h | h; omega; exact h
                generalize Cal.lastT fc (xs.take k) = lc at *
                generalize Cal.sumD (xs.take k) = sm at *
                clear hfl hch hf0k
                by_cases heq : yf = lc
                · have hch2 := Lib.hid (hend.out heq)
                  clear hend hbr hct
                  subst heq
                  go_wp2_with fail
                  refine wp_region_held_drew (S := Sx wc [(Bx, 2, .int .i64 (yd)), (Bx, 1, .int .i64 (yt))]) (by kernel_rfl) (Sx.mk (by simp only [cs_iff_cons]; exact ⟨d2, d1, cs_nil _⟩) (Below.refl _ _)).drew (fun hHeld => ?_)
                  (refine tkH2 0 78 (v := ?_) ?_ ?_; rotate_left; focus (intro w' hSw; replace hSw := hSw.cs; (try simp only [cs_iff_cons] at hSw); go_simp; (try with_reducible rfl)); (try simp only [Act.put, List.setIfInBounds_toArray, List.set_cons_zero, List.set_cons_succ]))
                  (refine tkH2 1 79 (v := ?_) ?_ ?_; rotate_left; focus (intro w' hSw; replace hSw := hSw.cs; (try simp only [cs_iff_cons] at hSw); go_simp; (try with_reducible rfl)); (try simp only [Act.put, List.setIfInBounds_toArray, List.set_cons_zero, List.set_cons_succ]))
                  (refine tkH2 2 80 (v := ?_) ?_ ?_; rotate_left; focus (intro w' hSw; replace hSw := hSw.cs; (try simp only [cs_iff_cons] at hSw); go_simp; (try with_reducible rfl)); (try simp only [Act.put, List.setIfInBounds_toArray, List.set_cons_zero, List.set_cons_succ]))
                  (refine tkH2 3 81 (v := ?_) ?_ ?_; rotate_left; focus (intro w' hSw; replace hSw := hSw.cs; (try simp only [cs_iff_cons] at hSw); go_simp; (try with_reducible rfl)); (try simp only [Act.put, List.setIfInBounds_toArray, List.set_cons_zero, List.set_cons_succ]))
                  (refine tkH2 4 82 (v := ?_) ?_ ?_; rotate_left; focus (intro w' hSw; replace hSw := hSw.cs; (try simp only [cs_iff_cons] at hSw); go_simp; (try with_reducible rfl)); (try simp only [Act.put, List.setIfInBounds_toArray, List.set_cons_zero, List.set_cons_succ]))
                  (refine tkH2 5 83 (v := ?_) ?_ ?_; rotate_left; focus (intro w' hSw; replace hSw := hSw.cs; (try simp only [cs_iff_cons] at hSw); go_simp; (try with_reducible rfl)); (try simp only [Act.put, List.setIfInBounds_toArray, List.set_cons_zero, List.set_cons_succ]))
                  (refine tkH2 6 7 (v := ?_) ?_ ?_; rotate_left; focus (intro w' hSw; replace hSw := hSw.cs; (try simp only [cs_iff_cons] at hSw); go_simp; (try with_reducible rfl)); (try simp only [Act.put, List.setIfInBounds_toArray, List.set_cons_zero, List.set_cons_succ]))
                  (refine tkH2 7 9 (v := ?_) ?_ ?_; rotate_left; focus (intro w' hSw; replace hSw := hSw.cs; (try simp only [cs_iff_cons] at hSw); go_simp; (try with_reducible rfl)); (try simp only [Act.put, List.setIfInBounds_toArray, List.set_cons_zero, List.set_cons_succ]))
                  refine wpAnyH_done (by kernel_rfl) ?_ _
                  ((try simp only [Act.put, List.setIfInBounds_toArray]); (try simp only [List.set_cons_zero, List.set_cons_succ]))
                  have hb9 := Lib.hid (below_step hX.out hHeld.bel)
                  clear hHeld d0 d1 d2
                  go_wp2_with fail
                  go_roundw
                  case rel => exact ⟨k + 1, fc, yt, by omega, by go_num, by rw [hsd.out], rfl, rfl, .inr ⟨rfl, hlt2.out.symm⟩, hch2, hsm2, hb9⟩
                  case measure => simp [intOf]; omega
                · have hE4 : Hid (E = 29) := by show _ = _; rw [hE3.out, hbr.out heq, Bool.false_and, if_neg (by decide)]
                  have hS4 : Hid (S = 0) := by show _ = _; rw [hS2.out, if_neg (by rw [hE4.out]; decide)]
                  have hxb : (yf == lc) = false := by simpa using heq
                  have hxc : (yf != lc) = true := by simpa using heq
                  clear hend hbr hct hE3 hS2
                  go_wp2_with fail
                  go_ret2
                  exact ⟨by rw [hE4.out, hS4.out]; rfl, hX.out⟩
          · obtain rfl : k = lp.length := by omega
            have htk : xs.take lp.length = xs := List.take_of_length_le (Nat.le_of_eq hxl.out)
            rw [htk] at hch hsm hfl ⊢
            obtain ⟨rfl, rfl⟩ : fc = f0 ∧ lc = Cal.lastT f0 xs := by rcases hfl.out with h | h; omega; exact h
            by_cases heq : Cal.lastT fc xs = fc
            · have hE4 : Hid (E = 0) := by show _ = _; rw [hE3.out, hch.out, if_pos (by simpa using heq)]
              have hS4 : Hid (S = Cal.sumD xs) := by show _ = _; rw [hS2.out, if_pos hE4.out]
              clear hch hsm htk hfl hE3
              generalize Cal.lastT fc xs = lc at *
              subst heq
              go_wp2_with fail
              go_ret2
              exact ⟨by rw [hE4.out, hS4.out]; rfl, hX.out⟩
            · have hE4 : Hid (E = 29) := by show _ = _; rw [hE3.out, if_neg (by simp [heq])]
              have hS4 : Hid (S = 0) := by show _ = _; rw [hS2.out, if_neg (by rw [hE4.out]; decide)]
              clear hch hsm htk hfl hE3
              generalize Cal.lastT fc xs = lc at *
              have hnb : (lc == fc) = false := by simpa using heq
              go_wp2_with fail
              go_ret2
              exact ⟨by rw [hE4.out, hS4.out]; rfl, hX.out⟩
end Go.Proofs.Ytofaonigcojcaaa
namespace Go.Proofs.Ytofaonigcojcaaa
open Go Go.RowKit Go.Shelf
theorem rows_new {m : Nat} (w : World) (l : List (List Value)) (hw : ∀ r ∈ l, r.length = m) (cs : Array Value) (hcs : cs = l.flatten.toArray) (t : TypeId) : RowsAt (w.alloc (.cells cs t)) (some ⟨w.heap.size, 0, none⟩) m l := by
  subst hcs
  exact fun k r hr => ⟨w.heap.size, 0, rfl, by simp, fun j v hv => by rw [cell_alloc_at, Nat.zero_add]; simpa using flat_get hw hr hv⟩
theorem ptsR_new (w : World) (ps : List Pt) (hl : ps.length ≤ 1000000) (cs : Array Value) (hcs : cs = (ps.map ptR).flatten.toArray) (t : TypeId) : PtsR (w.alloc (.cells cs t)) (some ⟨w.heap.size, 0, none⟩) ps :=
  ⟨rows_new w _ (fun r hr => by obtain ⟨p, _, rfl⟩ := List.mem_map.1 hr; rfl) cs hcs t, hl, fun ad e _ => by cases e; simp⟩
theorem PtsR.far {w w' : World} {b : Nat} {B : Nat} {ps : List Pt} (h : PtsR w (some ⟨b, 0, none⟩) ps) (hg : w.grownBy w' (some B)) (hne : b ≠ B) : PtsR w' (some ⟨b, 0, none⟩) ps :=
  ⟨h.rows.farI hg (fun a e => by cases e; exact fun h => hne (by cases h; rfl)), h.size, fun ad e hl => Nat.lt_of_lt_of_le (h.own ad e hl) hg.size⟩
set_option maxHeartbeats 4000000 in
theorem lawBox_any (x1 y1 x2 y2 : Int) (w : World) : Calls Try.prog 53 #[.int .i64 x1, .int .i64 y1, .int .i64 x2, .int .i64 y2] w fun e w' => ∃ b, e = .returned (.slice (some ⟨b, 0, none⟩) 4 4) ∧ w.heap.size ≤ b ∧ PtsR w' (some ⟨b, 0, none⟩) (Cal.boxP x1 y1 x2 y2) ∧ Below w.heap.size w w' := by
  have hp := Lib.hid (fun t => ptsR_new w (Cal.boxP x1 y1 x2 y2) (by simp [Cal.boxP]) #[.int .i64 x1, .int .i64 y1, .int .i64 x2, .int .i64 y1, .int .i64 x2, .int .i64 y2, .int .i64 x1, .int .i64 y2] rfl t)
  go_enter Try.func53, Try.ntmps53
  go_wp2_with fail
  go_ret
  exact ⟨_, rfl, Nat.le_refl _, hp.out _, below_alloc _ _⟩
/-- The levellings of a triangle. -/
def triLevs (k : Int) : List Lev := [⟨0, 1, 100, 1⟩, ⟨1, 2, 50, 1⟩, ⟨0, 2, 156, k⟩]
set_option maxHeartbeats 4000000 in
theorem lawTri_any (k : Int) (w : World) : Calls Try.prog 52 #[.int .i64 k] w fun e w' => ∃ A, e = .returned (.slice A 3 3) ∧ Levs w' A (triLevs k) ∧ Below w.heap.size w w' := by
  have hp := Lib.hid (fun t => rows_new (m := 4) w ((triLevs k).map Lev.cells) (fun r hr => by obtain ⟨p, _, rfl⟩ := List.mem_map.1 hr; rfl) #[.int .i64 0, .int .i64 1, .int .i64 100, .int .i64 1, .int .i64 1, .int .i64 2, .int .i64 50, .int .i64 1, .int .i64 0, .int .i64 2, .int .i64 156, .int .i64 k] rfl t)
  go_enter Try.func52, Try.ntmps52
  go_wp2_with fail
  go_ret
  exact ⟨_, rfl, ⟨hp.out _, by simp [triLevs]⟩, below_alloc _ _⟩
end Go.Proofs.Ytofaonigcojcaaa
namespace Go.Proofs.Ytofaonigcojcaaa
open Go Go.RowKit Go.Shelf
/-- A point that is in range. -/
structure SmV (p : Pt) : Prop where
  x0 : -100000 ≤ p.x
  x1 : p.x ≤ 100000
  y0 : -100000 ≤ p.y
  y1 : p.y ≤ 100000
theorem SmV.sm {p : Pt} (h : SmV p) : SmP p := by obtain ⟨h0, h1, h2, h3⟩ := h; constructor <;> omega
theorem ptErr_smV {p : Pt} (h : Cal.ptErr p = 0) : SmV p := by
  unfold Cal.ptErr at h
  split at h
  · cases h
  · constructor <;> omega
structure PtsV (w : World) (V : Option Addr) (ps : List Pt) : Prop where
  rows : RowsAt w V 2 (ps.map ptR)
  size : ps.length ≤ 1000000
  sm : ∀ p ∈ ps, SmV p
  own : ∀ ad, V = some ad → 0 < ps.length → ad.block < w.heap.size
theorem PtsV.below {w w' : World} {V : Option Addr} {ps : List Pt} (h : PtsV w V ps) (hb : Below w.heap.size w w') : PtsV w' V ps :=
  ⟨h.rows.below hb, h.size, h.sm, fun ad e hl => Nat.lt_of_lt_of_le (h.own ad e hl) hb.size⟩
theorem PtsV.pts {w : World} {V : Option Addr} {ps : List Pt} (h : PtsV w V ps) : Pts w V ps := ⟨h.rows, h.size, fun p hp => (h.sm p hp).sm, h.own⟩
theorem polyE_zero {ps : List Pt} (h : Cal.polyE ps = 0) : 3 ≤ ps.length ∧ ps.length ≤ 40 ∧ Cal.ptsErr ps = 0 ∧ Cal.twiceP [] ps = false ∧ Cal.simpleP ps = true ∧ 0 ≤ Cal.areaP ps := by
  unfold Cal.polyE at h
  split at h
  · omega
  · rename_i h1
    split at h
    · rename_i h2
      split at h
      · omega
      · rename_i h3
        split at h
        · rename_i h4
          split at h
          · omega
          · exact ⟨by omega, by omega, h2, by simpa using h3, h4, by omega⟩
        · omega
    · rename_i h2; exact absurd h h2
theorem PtsR.ptsV {w : World} {V : Option Addr} {ps : List Pt} (h : PtsR w V ps) (h0 : Cal.polyE ps = 0) : PtsV w V ps :=
  ⟨h.rows, h.size, fun p hp => ptErr_smV (ptsErr_zero (polyE_zero h0).2.2.1 p hp), h.own⟩
theorem mk_points (W : World) (n : Nat) (hn : n ≤ 1000000) : (Instr.makeSlice 62 (.int .i64 (n : Int)) (.int .i64 (n : Int))).run Try.prog W = .ok (.slice (some ⟨W.heap.size, 0, none⟩) n n) (W.alloc (.cells (madeCells #[.int .i64 0, .int .i64 0] (n * 2)) 64)) := by
  have hq : (Try.prog.info? 64).map (fun i => (i.zero, i.size, decide (i.bytes ≤ 1000))) = some (some (.agg #[.int .i64 0, .int .i64 0]), 2, true) := by kernel_rfl
  obtain ⟨i, hi, hz, hs, hby⟩ : ∃ i, Try.prog.info? 64 = some i ∧ i.zero = some (.agg #[.int .i64 0, .int .i64 0]) ∧ i.size = 2 ∧ i.bytes ≤ 1000 := by
    cases hi : Try.prog.info? 64 with
    | none => rw [hi] at hq; cases hq
    | some i =>
      rw [hi, Option.map_some, Option.some.injEq, Prod.mk.injEq, Prod.mk.injEq, decide_eq_true_iff] at hq
      exact ⟨i, rfl, hq.1, hq.2.1, hq.2.2⟩
  have h := run_makeSlice (P := Try.prog) W 62 64 i (.agg #[.int .i64 0, .int .i64 0]) Try.underlying62 hi hz .i64 .i64 n n (by omega) (Int.le_refl _) (by rw [hs]; omega) (by
    have : ((i.bytes : Nat) : Int) * (n : Int) ≤ 1000 * 1000000 := Int.mul_le_mul (by omega) (by omega) (by omega) (by omega)
    omega) (by omega)
  rw [Int.toNat_natCast, hs] at h
  exact h
/-- The points that are doubled so far. -/
def DbF (ps : List Pt) (k : Nat) (cs : List Value) : Prop := cs.length = ps.length * 2 ∧ ∀ (i : Nat) (q : Pt), i < k → ps[i]? = some q → cs[i * 2]? = some (.int .i64 (2 * q.x)) ∧ cs[i * 2 + 1]? = some (.int .i64 (2 * q.y))
theorem DbF.step {ps : List Pt} {k : Nat} {cs : List Value} (h : DbF ps k cs) {q : Pt} (hk : ps[k]? = some q) : DbF ps (k + 1) ((cs.set (k * 2) (.int .i64 (2 * q.x))).set (k * 2 + 1) (.int .i64 (2 * q.y))) := by
  obtain ⟨h1, h2⟩ := h
  have hlt : k < ps.length := (List.getElem?_eq_some_iff.1 hk).1
  refine ⟨by simp [h1], fun i r hi hr => ?_⟩
  by_cases e : i = k
  · subst e
    rw [hk] at hr
    cases hr
    constructor
    · rw [List.getElem?_set_ne (by omega), List.getElem?_set_self (by rw [h1]; omega)]
    · rw [List.getElem?_set_self (by rw [List.length_set, h1]; omega)]
  · rw [List.getElem?_set_ne (by omega), List.getElem?_set_ne (by omega), List.getElem?_set_ne (by omega), List.getElem?_set_ne (by omega)]
    exact h2 i r (by omega) hr
theorem DbF.pts {w : World} {M : Nat} {ps : List Pt} {cs : List Value} (h : DbF ps ps.length cs) (hb : BoxAt w M cs) (hsz : ps.length ≤ 1000000) (hsm : ∀ p ∈ ps, SmV p) : Pts w (some ⟨M, 0, none⟩) (Cal.dblP ps) := by
  refine ⟨fun j r hr => ?_, by unfold Cal.dblP; rw [List.length_map]; exact hsz, fun p hp => ?_, fun ad e _ => by cases e; exact hb.lt⟩
  · unfold Cal.dblP at hr
    rw [List.map_map, List.getElem?_map] at hr
    cases hq : ps[j]? with
    | none => rw [hq] at hr; cases hr
    | some q =>
      rw [hq] at hr
      cases hr
      have hj : j < ps.length := (List.getElem?_eq_some_iff.1 hq).1
      obtain ⟨c0, c1⟩ := h.2 j q hj hq
      refine ⟨M, 0, rfl, hb.lt, fun i v hv => ?_⟩
      rw [Nat.zero_add]
      match i, hv with
      | 0, hv => cases hv; exact hb.c _ _ c0
      | 1, hv => cases hv; exact hb.c _ _ c1
  · unfold Cal.dblP at hp
    obtain ⟨q, hq, rfl⟩ := List.mem_map.1 hp
    obtain ⟨a0, a1, a2, a3⟩ := hsm q hq
    constructor <;> (dsimp only; omega)
set_option maxRecDepth 100000 in
set_option maxHeartbeats 2000000 in
theorem doubled_any (V : Option Addr) (d : Nat) (ps : List Pt) (w : World) (hP : PtsV w V ps) :
    Calls Try.prog 101 #[.slice V ps.length d] w fun e w' => e = .returned (.slice (some ⟨w.heap.size, 0, none⟩) ps.length ps.length) ∧ Pts w' (some ⟨w.heap.size, 0, none⟩) (Cal.dblP ps) ∧ Below w.heap.size w w' := by
  have hsz := hP.size
  have hP := Lib.hid hP
  have hmk := fun W => mk_points W ps.length hsz
  have hBx := BoxAt.new w (madeCells #[.int .i64 0, .int .i64 0] (ps.length * 2)) 64
  have hF : Hid (∃ cs, BoxAt (w.alloc (.cells (madeCells #[.int .i64 0, .int .i64 0] (ps.length * 2)) 64)) w.heap.size cs ∧ DbF ps 0 cs) := ⟨_, hBx, by rw [Array.length_toList, size_madeCells], fun i q hi => by omega⟩
  have hB0 : Hid (Below w.heap.size w (w.alloc (.cells (madeCells #[.int .i64 0, .int .i64 0] (ps.length * 2)) 64))) := below_alloc _ _
  have hl0 : Hid (w.heap.size < (w.alloc (.cells (madeCells #[.int .i64 0, .int .i64 0] (ps.length * 2)) 64)).heap.size) := by show _ < _; simp
  clear hBx
  go_enter Try.func101, Try.ntmps101
  go_wp2_with fail
  clear hmk
  generalize w.alloc (.cells (madeCells #[.int .i64 0, .int .i64 0] (ps.length * 2)) 64) = w1 at *
  go_loopw [11] (fun i wr => ∃ k : Nat, k ≤ ps.length ∧ i = .int .i64 k ∧ Hid (∃ cs, BoxAt wr w.heap.size cs ∧ DbF ps k cs) ∧ Hid (Below w.heap.size w wr)) (fun i _ => ps.length - (intOf i).toNat)
  case atStart => exact ⟨0, Nat.zero_le _, rfl, hF, hB0⟩
  case round =>
    clear hF hB0 hl0
    obtain ⟨k, hk, rfl, hC, hB⟩ := hrel
    by_cases hlt : k < ps.length
    · have hk' : ps[k]? = some ps[k] := List.getElem?_eq_getElem hlt
      have hst := Lib.hid (fun cs (h : DbF ps k cs) => h.step hk')
      have hsm := hP.out.sm _ (List.getElem_mem hlt)
      obtain ⟨b, o, rfl, hbl, c0, c1⟩ := pts_at (hP.out.below hB.out).rows hk'
      clear hk'
      generalize ps[k] = q at *
      obtain ⟨q0, q1, q2, q3⟩ := hsm
      obtain ⟨cs, hb, hd⟩ := hC.out
      have hkl : k * 2 + 1 < cs.length := by rw [hd.1]; omega
      have f0 := hb.free (k * 2) (by omega)
      have f1 := hb.free (k * 2 + 1) (by omega)
      obtain ⟨v0, hv0⟩ : ∃ v, cs[k * 2]? = some v := ⟨_, List.getElem?_eq_getElem (by omega)⟩
      obtain ⟨v1, hv1⟩ : ∃ v, cs[k * 2 + 1]? = some v := ⟨_, List.getElem?_eq_getElem (by omega)⟩
      have g0 := hb.c _ _ hv0
      have g1 := hb.c _ _ hv1
      have hMw := hb.lt
      have hall := Lib.hid (And.intro hb (And.intro (hst.out cs hd) hB.out))
      clear hb hd hst hC hB hv0 hv1
      have w1 : IntKind.i64.wrap (2 * q.x) = 2 * q.x := wrap_small (by omega) (by omega)
      have w2 : IntKind.i64.wrap (2 * q.y) = 2 * q.y := wrap_small (by omega) (by omega)
      go_wp2_with fail
      go_roundw
      case rel =>
        obtain ⟨hb, hd, hB⟩ := hall.out
        refine ⟨k + 1, by omega, by go_num, ⟨_, ((hb.set (k * 2) (.int .i64 (2 * q.x)) (by omega)).set (k * 2 + 1) (.int .i64 (2 * q.y)) (by rw [List.length_set]; omega)).alloc _, hd⟩, ?_⟩
        exact below_step ((hB.setCell (p := ⟨w.heap.size, k * 2, none⟩) (Nat.le_refl _) _).setCell (p := ⟨w.heap.size, k * 2 + 1, none⟩) (Nat.le_refl _) _) (below_alloc _ _)
      case measure => simp [intOf]; omega
    · obtain rfl : k = ps.length := by omega
      go_wp2_with fail
      go_ret
      obtain ⟨cs, hb, hd⟩ := hC.out
      exact ⟨rfl, hd.pts hb hsz hP.out.sm, hB.out⟩
end Go.Proofs.Ytofaonigcojcaaa
