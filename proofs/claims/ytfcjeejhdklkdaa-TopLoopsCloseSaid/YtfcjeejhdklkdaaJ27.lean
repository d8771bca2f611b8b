/- What the statements rest on: definitions and walks, part 27. -/
import Derived.Test.YtfcjeejhdklkdaaJ26
namespace Go.Proofs.Ytfcjeejhdklkdaa
open Go Go.RowKit Go.Shelf
theorem Sx.grow {w W W' : World} {L : List (Nat × Nat × Value)} {row : Option Nat} (h : Sx w L W) (hg : W.grownBy W' row) (hw : ∀ g, row = some g → w.heap.size ≤ g) (hL : ∀ x ∈ L, row ≠ some x.1 ∧ x.1 < W.heap.size) : Sx w L W' :=
  ⟨fun x hx => (World.cell?_of_block (a := ⟨x.1, x.2.1, none⟩) (hg.block x.1 (hL x hx).2 (fun e => (hL x hx).1 e.symm))).trans (h.cs x hx), h.bel.trans ((Below.refl _ _).grown hg h.bel.size (fun k e => hw k e))⟩
theorem wrap_u {n : Int} (h0 : 0 ≤ n) (h1 : n < 18446744073709551616) : IntKind.u64.wrap n = n := by rw [wrap_u64]; omega
/-- As sizes say it: a height is too great. -/
theorem Cal.big_nat {n d : Int} (hd : 1 ≤ d) : (Cal.bigH (n, d) = true ∧ (2000000 < n.natAbs / d.natAbs ∨ (n.natAbs / d.natAbs = 2000000 ∧ 0 < n.natAbs % d.natAbs))) ∨ (Cal.bigH (n, d) = false ∧ ¬ 2000000 < n.natAbs / d.natAbs ∧ (¬ n.natAbs / d.natAbs = 2000000 ∨ (n.natAbs / d.natAbs = 2000000 ∧ n.natAbs % d.natAbs = 0))) := by
  have h1 := Int.natAbs_tdiv n d
  have h2 := Int.natAbs_tmod n d
  have h3 : (n.tdiv d).natAbs = n.natAbs / d.natAbs := h1
  rcases Cal.big_cases (n := n) hd with ⟨a, b⟩ | ⟨a, b, c, e⟩
  · left; refine ⟨a, ?_⟩
    rw [← h3, ← h2]
    omega
  · right; refine ⟨a, ?_⟩
    rw [← h3, ← h2]
    omega
set_option maxRecDepth 100000 in
set_option maxHeartbeats 4000000 in
theorem scaled_any (N : Int) (A : Option Addr) (c : Nat) (fr : List (Int × Int)) (w : World) (hF : RowsAt w A 2 (fr.map frR)) (hs : fr.length ≤ 1000000)
    (hv : ∀ h ∈ fr, (-9223372036854775808 ≤ h.1 ∧ h.1 ≤ 9223372036854775807) ∧ (-9223372036854775808 ≤ h.2 ∧ h.2 ≤ 9223372036854775807)) :
    Calls Try.prog 83 #[.int .i64 N, .slice A fr.length c] w fun e w' => ∃ v, e = .returned (.tuple #[v, .int .i64 (Cal.sclP N fr), .int .i64 (Cal.sclE N fr)]) ∧ IntsL w' w.heap.size v (Cal.sclL N fr) ∧ Below w.heap.size w w' := by
  have hb0 : Hid (Below w.heap.size w w) := Below.refl _ _
  obtain ⟨E, hE⟩ : ∃ E, Cal.sclE N fr = E := ⟨_, rfl⟩
  obtain ⟨R, hR⟩ : ∃ R, Cal.sclP N fr = R := ⟨_, rfl⟩
  obtain ⟨L, hL⟩ : ∃ L, Cal.sclL N fr = L := ⟨_, rfl⟩
  rw [hE, hR, hL]
  replace hL : Hid ((if E = 0 then fr.map (Cal.sclH R) else []) = L) := by show _ = _; rw [← hL, ← hE, ← hR]; rfl
  unfold Cal.sclE at hE
  unfold Cal.sclP at hR
  by_cases hlen : (fr.length : Int) = N
  · rw [if_pos hlen] at hE hR
    have hS0 : Hid (Cal.scl 1 fr = Cal.scl 1 (fr.drop 0)) := rfl
    have hEE : Hid ((Cal.scl 1 fr).1 = E) := hE
    have hRR : Hid ((if (Cal.scl 1 fr).1 = 0 then (Cal.scl 1 fr).2 else 0) = R) := hR
    replace hF := Lib.hid hF
    replace hv := Lib.hid hv
    subst hlen
    clear hE hR
    go_enter Try.func83, Try.ntmps83
    go_wp2_with fail
    go_loopw [7, 25] (fun pv i wr => ∃ (k : Nat) (p : Int), k ≤ fr.length ∧ i = .int .i64 k ∧ pv = .int .i64 p ∧ 1 ≤ p ∧ p ≤ 4000000000 ∧ Hid (Cal.scl 1 fr = Cal.scl p (fr.drop k)) ∧ Hid (Below w.heap.size w wr)) (fun _ i _ => fr.length - (intOf i).toNat)
    case atStart => exact ⟨0, 1, Nat.zero_le _, rfl, rfl, by decide, by decide, hS0, hb0⟩
    case round =>
      clear hS0 hb0
      obtain ⟨k, p, hk, rfl, rfl, hp1, hp2, hS, hB0⟩ := hrel
      by_cases hlt : k < fr.length
      · have hk' : fr[k]? = some fr[k] := List.getElem?_eq_getElem hlt
        have hd := Cal.scl_drop (p := p) hlt
        obtain ⟨⟨n1, n2⟩, ⟨d1, d2⟩⟩ := hv.out _ (List.getElem_mem hlt)
        have hki : (k : Int) < (fr.length : Int) := by omega
        generalize fr[k] = h at *
        obtain ⟨b, o, rfl, hbl, c0, c1⟩ := fr_at (hF.out.below hB0.out) hk'
        obtain ⟨num, den⟩ := h
        dsimp only at *
        have hx := Lib.hid (BoxAt.new wr #[.int .i64 num, .int .i64 den] 38)
        have hB := Lib.hid (below_step hB0.out (below_alloc wr (.cells #[.int .i64 num, .int .i64 den] 38)))
        have hbad : Hid (∀ v, v ≠ 0 → Cal.hErr p (num, den) = v → E = v ∧ R = 0) := fun v hv0 hz => by
          rw [hz, if_neg hv0] at hd
          have e1 : Cal.scl 1 fr = (v, 0) := hS.out.trans hd
          have e2 := hEE.out
          have e3 := hRR.out
          rw [e1] at e2 e3
          rw [if_neg hv0] at e3
          exact ⟨e2.symm, e3.symm⟩
        have hgood : Hid (Cal.hErr p (num, den) = 0 → Cal.scl 1 fr = Cal.scl (p * Cal.more p den) (fr.drop (k + 1))) := fun hz => by
          rw [hz, if_pos rfl] at hd
          exact hS.out.trans hd
        clear hd hS hk'
        by_cases hd1 : den < 1
        · obtain ⟨e1, e2⟩ := hbad.out 3 (by decide) (by unfold Cal.hErr; exact if_pos hd1)
          replace e1 := Lib.hid e1
          replace e2 := Lib.hid e2
          clear hbad hgood
          go_wp2_with fail
          go_ret3
          exact ⟨_, by rw [e1.out, e2.out]; rfl, by rw [← hL.out, e1.out, if_neg (by decide)]; exact OwnL.nil _ _ _ _, hB.out⟩
        have y0 := hx.out.c 0 _ rfl
        have y1 := hx.out.c 1 _ rfl
        have hwd : IntKind.u64.wrap den = den := wrap_u (by omega) (by omega)
        have hsize := Lib.hid (fun W => size_any num W n1 n2)
        go_wp2_with fail
        refine wp_region_held_drew (S := Sx (wr.alloc (.cells #[.int .i64 num, .int .i64 den] 38)) [(wr.heap.size, 0, .int .i64 num), (wr.heap.size, 1, .int .i64 den)]) (by kernel_rfl) (Sx.mk (by simp only [cs_iff_cons]; exact ⟨y0, y1, cs_nil _⟩) (Below.refl _ _)).drew (fun hHeld => ?_)
        clear y0 y1 c0 c1
        refine tkHx 0 32 ?_
        refine tkHx 1 33 ?_
        refine tkHx 3 35 ?_
        refine tkHx 4 36 ?_
        refine tkHx 5 37 ?_
        (refine ratHx 2 (fun K hK => ?_); go_simp)
        refine (hsize.out _).mono ?_
        rintro e0 wz ⟨rfl, rfl⟩
        go_simp
        (refine hK.out _ _ hHeld (fun hHeld => ?_); clear hK K; (try simp only [Act.put, List.setIfInBounds_toArray]); (try simp only [List.set_cons_zero, List.set_cons_succ]))
        refine tkHx 6 10 ?_
        refine tkHx 7 11 ?_
        refine wpAnyH_done (by kernel_rfl) ?_ _
        ((try simp only [Act.put, List.setIfInBounds_toArray]); (try simp only [List.set_cons_zero, List.set_cons_succ]))
        replace hx := Lib.hid (hx.out.below hHeld.bel)
        replace hB := Lib.hid (below_step hB.out hHeld.bel)
        clear hHeld hwd hsize
        generalize (wr.alloc (.cells #[.int .i64 num, .int .i64 den] 38)).drew = w2 at *
        generalize wr.heap.size = Bx at *
        obtain ⟨nd, rfl⟩ : ∃ nd : Nat, den = (nd : Int) := ⟨den.toNat, by omega⟩
        have hgE : Hid (Int.gcd num (nd : Int) = Nat.gcd num.natAbs nd) := rfl
        have hbn := Cal.big_nat (n := num) (d := (nd : Int)) (by omega)
        rw [Int.natAbs_natCast] at hbn
        have hna : (num.natAbs : Int) ≤ 9223372036854775808 := by omega
        generalize num.natAbs = na at *
        go_wp2_with fail
        go_loopw [12, 13] (fun a b wi => ∃ x y : Nat, a = .int .u64 (x : Int) ∧ b = .int .u64 (y : Int) ∧ (x : Int) ≤ 9223372036854775808 ∧ (y : Int) ≤ 9223372036854775808 ∧ Hid (Nat.gcd x y = Nat.gcd na nd) ∧ Hid (BoxAt wi Bx [.int .i64 num, .int .i64 (nd : Int)]) ∧ Hid (Below w.heap.size w wi)) (fun _ b _ => (intOf b).toNat)
        case atStart => exact ⟨na, nd, rfl, rfl, hna, by omega, (show Nat.gcd na nd = Nat.gcd na nd from rfl), hx, hB⟩
        case round =>
          clear hx hB
          obtain ⟨x, y, rfl, rfl, hx1, hy1, hg, hx, hB⟩ := hrel
          by_cases hy : y = 0
          · subst hy
            have hxg : x = Nat.gcd na nd := by have := hg.out; rwa [Nat.gcd_zero_right] at this
            by_cases hx11 : x = 1
            · subst hx11
              have hgc : Int.gcd num (nd : Int) = 1 := by rw [hgE.out]; omega
              have hndn : ¬ (nd : Int) = 0 := by omega
              have hndn2 : ¬ nd = 0 := by omega
              have hdiv : (na : Int).tdiv (nd : Int) = ((na / nd : Nat) : Int) := rfl
              have hmod : (na : Int).tmod (nd : Int) = ((na % nd : Nat) : Int) := rfl
              have hq1 := Nat.div_le_self na nd
              have hq2 := Nat.mod_le na nd
              have y0 := hx.out.c 0 _ rfl
              have y1 := hx.out.c 1 _ rfl
              clear hgE hxg hg
              have hdivH := Lib.hid hdiv
              have hmodH := Lib.hid hmod
              clear hdiv hmod
              generalize na / nd = Q at *
              generalize na % nd = M at *
              have hdv : (na : Int).tdiv (nd : Int) = (Q : Int) := hdivH.out
              have hmv : (na : Int).tmod (nd : Int) = (M : Int) := hmodH.out
              have hw1 : IntKind.u64.wrap (Q : Int) = (Q : Int) := wrap_u (by omega) (by omega)
              have hw2 : IntKind.u64.wrap (M : Int) = (M : Int) := wrap_u (by omega) (by omega)
              rcases hbn with ⟨hbg, hcs⟩ | ⟨hbg, hcs1, hcs⟩
              · obtain ⟨e1, e2⟩ := hbad.out 2 (by decide) (by unfold Cal.hErr; rw [if_neg (by simpa using hd1), if_neg (by simpa using hgc), if_pos hbg])
                replace e1 := Lib.hid e1
                replace e2 := Lib.hid e2
                clear hbad hgood hbg hgc
                rcases hcs with hcs | ⟨hcs, hcs2⟩
                · have hcsi : (2000000 : Int) < (Q : Int) := by omega
                  go_wp2_with fail
                  go_ret3
                  exact ⟨_, by rw [e1.out, e2.out]; rfl, by rw [← hL.out, e1.out, if_neg (by decide)]; exact OwnL.nil _ _ _ _, hB.out⟩
                · subst hcs
                  have hcsi : (0 : Int) < (M : Int) := by omega
                  go_wp2_with fail
                  go_ret3
                  exact ⟨_, by rw [e1.out, e2.out]; rfl, by rw [← hL.out, e1.out, if_neg (by decide)]; exact OwnL.nil _ _ _ _, hB.out⟩
              · have hcsi : ¬ (2000000 : Int) < (Q : Int) := by omega
                clear hcs1
                rcases hcs with hcs | ⟨hcs, hcs2⟩
                · have hqb : ((Q : Int) == 2000000) = false := by simp; omega
                  have hqn : ¬ (Q : Int) = 2000000 := by omega
                  clear hcs
                  go_wp2_with fail
                  have hcall := Lib.hid (fun W => gcd_any p (nd : Int) W (by omega) (by omega))
                  have hg3 : (0 : Int) < (Int.gcd p (nd : Int) : Int) := by have := Cal.gcd_pos (a := p) (b := (nd : Int)) (by omega); omega
                  have hmo : Hid (Cal.more p (nd : Int) = (nd : Int).tdiv (Int.gcd p (nd : Int) : Int)) := rfl
                  have hte := Int.tdiv_eq_ediv_of_nonneg (a := (nd : Int)) (b := (Int.gcd p (nd : Int) : Int)) (by omega)
                  rw [hte] at hmo
                  have hm0 : 0 ≤ (nd : Int) / (Int.gcd p (nd : Int) : Int) := by rw [← hte]; exact Int.tdiv_nonneg (by omega) (by omega)
                  have hm1 : (nd : Int) / (Int.gcd p (nd : Int) : Int) ≤ (nd : Int) := by
                    rw [← hte]
                    have h0 : 0 ≤ (nd : Int).tdiv (Int.gcd p (nd : Int) : Int) := Int.tdiv_nonneg (by omega) (by omega)
                    have : ((nd : Int).tdiv (Int.gcd p (nd : Int) : Int)).natAbs ≤ (nd : Int).natAbs := by rw [Int.natAbs_tdiv]; exact Nat.div_le_self _ _
                    omega
                  clear hte
                  generalize Int.gcd p (nd : Int) = g2 at *
                  have hgn : ¬ (g2 : Int) = 0 := by omega
                  have hgn2 : ¬ g2 = 0 := by omega
                  have hw3 : IntKind.i64.wrap ((nd : Int) / (g2 : Int)) = (nd : Int) / (g2 : Int) := wrap_small (by omega) (by omega)
                  have hw3b : wrap64 ((nd : Int) / (g2 : Int)) = (nd : Int) / (g2 : Int) := by rw [← wrap_eq]; exact hw3
                  refine wp_region_held_drew (S := Sx wr [(Bx, 1, .int .i64 (nd : Int))]) (by kernel_rfl) (Sx.mk (by simp only [cs_iff_cons]; exact ⟨y1, cs_nil _⟩) (Below.refl _ _)).drew (fun hHeld => ?_)
                  clear y0 y1
                  refine tkHx 0 63 ?_
                  refine tkHx 1 64 ?_
                  refine tkHx 2 65 ?_
                  refine tkHx 3 66 ?_
                  refine tkHx 4 67 ?_
                  (refine ratHx 5 (fun K hK => ?_); go_simp)
                  refine (hcall.out _).mono ?_
                  rintro e wn ⟨rfl, hbn⟩
                  go_simp
                  (refine hK.out _ _ (hHeld.step hbn) (fun hHeld => ?_); clear hK K; (try simp only [Act.put, List.setIfInBounds_toArray]); (try simp only [List.set_cons_zero, List.set_cons_succ]))
                  refine tkHx 6 69 ?_
                  refine tkHx 7 15 ?_
                  refine wpAnyH_done (by kernel_rfl) ?_ _
                  ((try simp only [Act.put, List.setIfInBounds_toArray]); (try simp only [List.set_cons_zero, List.set_cons_succ]))
                  replace hx := Lib.hid (hx.out.below hHeld.bel)
                  replace hB := Lib.hid (below_step hB.out hHeld.bel)
                  clear hHeld hcall hdv hmv hw1 hw2 hdivH hmodH
                  have ht0 : 0 ≤ (4000000000 : Int).tdiv p := Int.tdiv_nonneg (by omega) (by omega)
                  have ht1 : (4000000000 : Int).tdiv p ≤ 4000000000 := by
                    have : ((4000000000 : Int).tdiv p).natAbs ≤ (4000000000 : Int).natAbs := by rw [Int.natAbs_tdiv]; exact Nat.div_le_self _ _
                    omega
                  have hw4 : IntKind.i64.wrap ((4000000000 : Int).tdiv p) = (4000000000 : Int).tdiv p := wrap_small (by omega) (by omega)
                  have hpn : ¬ p = 0 := by omega
                  have hhz : Hid (Cal.hErr p (num, (nd : Int)) = if (4000000000 : Int).tdiv p < (nd : Int) / (g2 : Int) then 8 else 0) := by
                    show _ = _
                    unfold Cal.hErr
                    dsimp only
                    rw [if_neg (by omega), if_neg (by simpa using hgc), if_neg (by rw [hbg]; decide), hmo.out]
                  by_cases hlg : (4000000000 : Int).tdiv p < (nd : Int) / (g2 : Int)
                  · obtain ⟨e1, e2⟩ := hbad.out 8 (by decide) (by rw [hhz.out, if_pos hlg])
                    replace e1 := Lib.hid e1
                    replace e2 := Lib.hid e2
                    clear hbad hgood hbg hmo hhz hm0 hm1 ht0 ht1 hgc
                    go_wp2_with fail
                    go_ret3
                    exact ⟨_, by rw [e1.out, e2.out]; rfl, by rw [← hL.out, e1.out, if_neg (by decide)]; exact OwnL.nil _ _ _ _, hB.out⟩
                  · have hnx := Lib.hid (hgood.out (by rw [hhz.out, if_neg hlg]))
                    have hpl := Cal.part_le (p := p) (d := (nd : Int)) (by omega) (by omega) (by rw [hmo.out]; exact Int.not_lt.1 hlg)
                    rw [hmo.out] at hpl
                    rw [hmo.out] at hnx
                    have hw5 : IntKind.i64.wrap (p * ((nd : Int) / (g2 : Int))) = p * ((nd : Int) / (g2 : Int)) := wrap_small (by omega) (by omega)
                    have hw5b : wrap64 (p * ((nd : Int) / (g2 : Int))) = p * ((nd : Int) / (g2 : Int)) := by rw [← wrap_eq]; exact hw5
                    clear hbad hgood hbg hmo hhz hm0 hm1 ht0 ht1 hgc
                    go_wp2_with fail
                    go_roundw
                    case rel => exact ⟨k + 1, _, by omega, by go_num, rfl, hpl.1, hpl.2, hnx, hB⟩
                    case measure => simp [intOf]; omega
                · subst hcs hcs2
                  go_wp2_with fail
                  have hcall := Lib.hid (fun W => gcd_any p (nd : Int) W (by omega) (by omega))
                  have hg3 : (0 : Int) < (Int.gcd p (nd : Int) : Int) := by have := Cal.gcd_pos (a := p) (b := (nd : Int)) (by omega); omega
                  have hmo : Hid (Cal.more p (nd : Int) = (nd : Int).tdiv (Int.gcd p (nd : Int) : Int)) := rfl
                  have hte := Int.tdiv_eq_ediv_of_nonneg (a := (nd : Int)) (b := (Int.gcd p (nd : Int) : Int)) (by omega)
                  rw [hte] at hmo
                  have hm0 : 0 ≤ (nd : Int) / (Int.gcd p (nd : Int) : Int) := by rw [← hte]; exact Int.tdiv_nonneg (by omega) (by omega)
                  have hm1 : (nd : Int) / (Int.gcd p (nd : Int) : Int) ≤ (nd : Int) := by
                    rw [← hte]
                    have h0 : 0 ≤ (nd : Int).tdiv (Int.gcd p (nd : Int) : Int) := Int.tdiv_nonneg (by omega) (by omega)
                    have : ((nd : Int).tdiv (Int.gcd p (nd : Int) : Int)).natAbs ≤ (nd : Int).natAbs := by rw [Int.natAbs_tdiv]; exact Nat.div_le_self _ _
                    omega
                  clear hte
                  generalize Int.gcd p (nd : Int) = g2 at *
                  have hgn : ¬ (g2 : Int) = 0 := by omega
                  have hgn2 : ¬ g2 = 0 := by omega
                  have hw3 : IntKind.i64.wrap ((nd : Int) / (g2 : Int)) = (nd : Int) / (g2 : Int) := wrap_small (by omega) (by omega)
                  have hw3b : wrap64 ((nd : Int) / (g2 : Int)) = (nd : Int) / (g2 : Int) := by rw [← wrap_eq]; exact hw3
                  refine wp_region_held_drew (S := Sx wr [(Bx, 1, .int .i64 (nd : Int))]) (by kernel_rfl) (Sx.mk (by simp only [cs_iff_cons]; exact ⟨y1, cs_nil _⟩) (Below.refl _ _)).drew (fun hHeld => ?_)
                  clear y0 y1
                  refine tkHx 0 63 ?_
                  refine tkHx 1 64 ?_
                  refine tkHx 2 65 ?_
                  refine tkHx 3 66 ?_
                  refine tkHx 4 67 ?_
                  (refine ratHx 5 (fun K hK => ?_); go_simp)
                  refine (hcall.out _).mono ?_
                  rintro e wn ⟨rfl, hbn⟩
                  go_simp
                  (refine hK.out _ _ (hHeld.step hbn) (fun hHeld => ?_); clear hK K; (try simp only [Act.put, List.setIfInBounds_toArray]); (try simp only [List.set_cons_zero, List.set_cons_succ]))
                  refine tkHx 6 69 ?_
                  refine tkHx 7 15 ?_
                  refine wpAnyH_done (by kernel_rfl) ?_ _
                  ((try simp only [Act.put, List.setIfInBounds_toArray]); (try simp only [List.set_cons_zero, List.set_cons_succ]))
                  replace hx := Lib.hid (hx.out.below hHeld.bel)
                  replace hB := Lib.hid (below_step hB.out hHeld.bel)
                  clear hHeld hcall hdv hmv hw1 hw2 hdivH hmodH
                  have ht0 : 0 ≤ (4000000000 : Int).tdiv p := Int.tdiv_nonneg (by omega) (by omega)
                  have ht1 : (4000000000 : Int).tdiv p ≤ 4000000000 := by
                    have : ((4000000000 : Int).tdiv p).natAbs ≤ (4000000000 : Int).natAbs := by rw [Int.natAbs_tdiv]; exact Nat.div_le_self _ _
                    omega
                  have hw4 : IntKind.i64.wrap ((4000000000 : Int).tdiv p) = (4000000000 : Int).tdiv p := wrap_small (by omega) (by omega)
                  have hpn : ¬ p = 0 := by omega
                  have hhz : Hid (Cal.hErr p (num, (nd : Int)) = if (4000000000 : Int).tdiv p < (nd : Int) / (g2 : Int) then 8 else 0) := by
                    show _ = _
                    unfold Cal.hErr
                    dsimp only
                    rw [if_neg (by omega), if_neg (by simpa using hgc), if_neg (by rw [hbg]; decide), hmo.out]
                  by_cases hlg : (4000000000 : Int).tdiv p < (nd : Int) / (g2 : Int)
                  · obtain ⟨e1, e2⟩ := hbad.out 8 (by decide) (by rw [hhz.out, if_pos hlg])
                    replace e1 := Lib.hid e1
                    replace e2 := Lib.hid e2
                    clear hbad hgood hbg hmo hhz hm0 hm1 ht0 ht1 hgc
                    go_wp2_with fail
                    go_ret3
                    exact ⟨_, by rw [e1.out, e2.out]; rfl, by rw [← hL.out, e1.out, if_neg (by decide)]; exact OwnL.nil _ _ _ _, hB.out⟩
                  · have hnx := Lib.hid (hgood.out (by rw [hhz.out, if_neg hlg]))
                    have hpl := Cal.part_le (p := p) (d := (nd : Int)) (by omega) (by omega) (by rw [hmo.out]; exact Int.not_lt.1 hlg)
                    rw [hmo.out] at hpl
                    rw [hmo.out] at hnx
                    have hw5 : IntKind.i64.wrap (p * ((nd : Int) / (g2 : Int))) = p * ((nd : Int) / (g2 : Int)) := wrap_small (by omega) (by omega)
                    have hw5b : wrap64 (p * ((nd : Int) / (g2 : Int))) = p * ((nd : Int) / (g2 : Int)) := by rw [← wrap_eq]; exact hw5
                    clear hbad hgood hbg hmo hhz hm0 hm1 ht0 ht1 hgc
                    go_wp2_with fail
                    go_roundw
                    case rel => exact ⟨k + 1, _, by omega, by go_num, rfl, hpl.1, hpl.2, hnx, hB⟩
                    case measure => simp [intOf]; omega
            · obtain ⟨e1, e2⟩ := hbad.out 3 (by decide) (by unfold Cal.hErr; rw [if_neg (by simpa using hd1), if_pos (by rw [hgE.out]; omega)])
              replace e1 := Lib.hid e1
              replace e2 := Lib.hid e2
              have hxb : ((x : Int) == 1) = false := by simp; omega
              have hxn : ¬ (x : Int) = 1 := by omega
              clear hbad hgood hbn hxg hgE
              go_wp2_with fail
              go_ret3
              exact ⟨_, by rw [e1.out, e2.out]; rfl, by rw [← hL.out, e1.out, if_neg (by decide)]; exact OwnL.nil _ _ _ _, hB.out⟩
          · have hyb : ((y : Int) == 0) = false := by simp; omega
            have hyn : ¬ (y : Int) = 0 := by omega
            have hr : Hid (IntKind.u64.wrap ((x : Int).tmod (y : Int)) = ((x % y : Nat) : Int)) := by
              show _ = _
              have : (x : Int).tmod (y : Int) = ((x % y : Nat) : Int) := rfl
              have h2 := Nat.mod_lt x (show 0 < y by omega)
              rw [this, wrap_u (by omega) (by omega)]
            have hg2 : Hid (Nat.gcd y (x % y) = Nat.gcd na nd) := by
              show _ = _
              rw [← hg.out, Nat.gcd_comm x y, Nat.gcd_rec y x, Nat.gcd_comm (x % y) y]
            have hlt2 := Nat.mod_lt x (show 0 < y by omega)
            clear hbad hgood hbn hgE
            go_wp2_with fail
            refine wp_region_held_drew (S := Sx wr []) (by kernel_rfl) (Sx.mk (cs_nil _) (Below.refl _ _)).drew (fun hHeld => ?_)
            refine tkHx 0 40 ?_
            refine tkHx 1 41 ?_
            refine tkHx 2 42 ?_
            refine tkHx 3 43 ?_
            refine tkHx 4 12 ?_
            refine tkHx 5 13 ?_
            refine wpAnyH_done (by kernel_rfl) ?_ _
            ((try simp only [Act.put, List.setIfInBounds_toArray]); (try simp only [List.set_cons_zero, List.set_cons_succ]))
            replace hx := Lib.hid (hx.out.below hHeld.bel)
            replace hB := Lib.hid (below_step hB.out hHeld.bel)
            clear hHeld
            go_wp2_with fail
            go_roundw
            case rel => exact ⟨y, x % y, rfl, by first | rfl | rw [hr.out], hy1, by omega, hg2, hx, hB⟩
            case measure =>
              have h5 := hr.out
              simp only [intOf]
              first | (rw [h5]; omega) | (rw [show (x : Int).tmod (y : Int) = ((x % y : Nat) : Int) from rfl]; omega) | omega
      · obtain rfl : k = fr.length := by omega
        have hS1 := hS.out
        rw [List.drop_length] at hS1
        have hz : Cal.scl 1 fr = (0, p) := hS1
        have e1 : Hid (E = 0) := by show _ = _; rw [← hEE.out, hz]
        have e2 : Hid (R = p) := by show _ = _; rw [← hRR.out, hz]; rfl
        have hall := (Cal.scl_good fr 1 (by decide) (by decide) (by rw [hz])).2.2.2
        rw [hz] at hall
        have hLL : Hid (L = fr.map (Cal.sclH p)) := by show _ = _; rw [← hL.out, e1.out, if_pos rfl, e2.out]
        have hB0s := Lib.hid hB0.out.size
        clear hS hS1 hz
        replace hall := Lib.hid hall
        generalize wr = w0 at *
        have hO0 : Hid (IntsL w0 w0.heap.size (.slice none 0 0) ((fr.take 0).map (Cal.sclH p))) := by show IntsL _ _ _ _; rw [List.take_zero]; exact OwnL.nil _ _ _ _
        have hbw : Hid (Below w0.heap.size w0 w0) := Below.refl _ _
        go_wp2_with fail
        go_loopw [16, 80] (fun ov i wz => ∃ (k : Nat) (v : Value), k ≤ fr.length ∧ i = .int .i64 k ∧ ov = v ∧ Hid (IntsL wz w0.heap.size v ((fr.take k).map (Cal.sclH p))) ∧ Hid (Below w0.heap.size w0 wz)) (fun _ i _ => fr.length - (intOf i).toNat)
        case atStart => exact ⟨0, _, Nat.zero_le _, rfl, rfl, hO0, hbw⟩
        case round =>
          clear hO0 hbw
          obtain ⟨k, v, hk, rfl, rfl, hO, hbw⟩ := hrel
          by_cases hlt : k < fr.length
          · have hk' : fr[k]? = some fr[k] := List.getElem?_eq_getElem hlt
            have htk : Hid ((fr.take (k + 1)).map (Cal.sclH p) = (fr.take k).map (Cal.sclH p) ++ [Cal.sclH p fr[k]]) := by show _ = _; rw [List.take_succ_eq_append_getElem hlt, List.map_append]; rfl
            have hlk : ((fr.take k).map (Cal.sclH p)).length ≤ 1000000 := by rw [List.length_map, List.length_take]; omega
            obtain ⟨a1, _, a3, _⟩ := hall.out _ (List.getElem_mem hlt)
            have hbx := Cal.sclH_box hp1 hp2 a1 a3
            have hki : (k : Int) < (fr.length : Int) := by omega
            generalize fr[k] = h at *
            have hb1 : Below w.heap.size w wr := hB0.out.trans (hbw.out.mono hB0s.out)
            obtain ⟨b, o, rfl, hbl, c0, c1⟩ := fr_at (hF.out.below hb1) hk'
            obtain ⟨num, den⟩ := h
            dsimp only at *
            have hdn : ¬ den = 0 := by omega
            have hq0 : 0 ≤ p.tdiv den := Int.tdiv_nonneg (by omega) (by omega)
            have hq1 : (p.tdiv den).natAbs ≤ p.natAbs := by rw [Int.natAbs_tdiv]; exact Nat.div_le_self _ _
            have hX : Cal.sclH p (num, den) = num * p.tdiv den := rfl
            rw [hX] at hbx htk
            have hw1 : IntKind.i64.wrap (p.tdiv den) = p.tdiv den := wrap_small (by omega) (by omega)
            have hw1b : wrap64 (p.tdiv den) = p.tdiv den := by rw [← wrap_eq]; exact hw1
            have hw2 : IntKind.i64.wrap (num * p.tdiv den) = num * p.tdiv den := wrap_small (by omega) (by omega)
            have hw2b : wrap64 (num * p.tdiv den) = num * p.tdiv den := by rw [← wrap_eq]; exact hw2
            have hx := Lib.hid (BoxAt.new wr #[.int .i64 num, .int .i64 den] 38)
            have hO1 := Lib.hid (OwnL.below hO.out (below_alloc wr (.cells #[.int .i64 num, .int .i64 den] 38)))
            have hbw1 := Lib.hid (below_step hbw.out (below_alloc wr (.cells #[.int .i64 num, .int .i64 den] 38)))
            have y0 := hx.out.c 0 _ rfl
            have y1 := hx.out.c 1 _ rfl
            have hown := Lib.hid (OwnL.lt hO.out)
            have hws : Hid (w0.heap.size ≤ wr.heap.size) := hbw.out.size
            clear hX hq0 hq1 hk' hb1 hO hbw
            go_wp2_with fail
            generalize hW1 : wr.alloc (.cells #[.int .i64 num, .int .i64 den] 38) = W1 at *
            have hW1s : Hid (wr.heap.size < W1.heap.size) := by show _ < _; rw [← hW1]; simp
            clear hW1
            generalize wr.heap.size = Bx at *
            refine wp_region_held_drew (S := Sx w0 [(Bx, 0, .int .i64 num), (Bx, 1, .int .i64 den)]) (by kernel_rfl) (Sx.mk (by simp only [cs_iff_cons]; exact ⟨y0, y1, cs_nil _⟩) hbw1.out).drew (fun hHeld => ?_)
            clear y0 y1
            replace hO1 := Lib.hid (OwnL.below hO1.out ((Below.refl _ _).drew))
            replace hW1s : Hid (Bx < W1.drew.heap.size) := hW1s.out
            generalize W1.drew = W2 at *
            refine tkHx 0 84 ?_
            refine tkHx 1 85 ?_
            refine tkHx 2 86 ?_
            refine tkHx 3 87 ?_
            refine tkHx 4 88 ?_
            refine tkHx 5 89 ?_
            refine tkHx 6 90 ?_
            refine tkHx 7 91 ?_
            (refine ratHx 8 (fun K hK => ?_); go_simp)
            refine hK.out _ _ (hHeld.alloc _) (fun hHeld => ?_)
            clear hK K
            ((try simp only [Act.put, List.setIfInBounds_toArray]); (try simp only [List.set_cons_zero, List.set_cons_succ]))
            (refine wpAnyH_ready (rs := [9]) (by decide +kernel) (by simp) ?_; refine AllReadyH.cons rfl (fun K hK => ?_) AllReadyH.nil)
            refine step_append_rows elemInt (by rfl) (.tmp 84) (.tmp 92) (by rfl) (by rfl) (by rfl) (OwnL.below hO1.out (below_alloc _ _)) (rowsAt_new _ [.int .i64 (num * p.tdiv den)] _) rfl (intRows_wid [num * p.tdiv den]) (intRows_one [num * p.tdiv den]) (by rw [intRows_length, List.length_singleton]; omega) (by decide) (by have h1 := hws.out; have h2 := hW1s.out; rw [World.size_alloc]; omega) ?_
            intro v' w5 hown5 hg5 hob5
            have hS5 : Sx w0 [(Bx, 0, Value.int .i64 num), (Bx, 1, Value.int .i64 den)] w5 := hHeld.grow hg5 (fun g e => (hown.out g e).1) (fun x hx => by
              have hxb : x.1 = Bx := by
                simp only [List.mem_cons, List.not_mem_nil, or_false] at hx
                rcases hx with rfl | rfl <;> rfl
              rw [hxb]
              refine ⟨fun e => by have := (hown.out _ e).2; omega, ?_⟩
              have h2 := hW1s.out
              rw [World.size_alloc]; omega)
            refine hK.out _ _ hS5 (fun hHeld => ?_)
            clear hK K hS5
            ((try simp only [Act.put, List.setIfInBounds_toArray]); (try simp only [List.set_cons_zero, List.set_cons_succ]))
            refine tkHx 10 16 ?_
            refine wpAnyH_done (by kernel_rfl) ?_ _
            ((try simp only [Act.put, List.setIfInBounds_toArray]); (try simp only [List.set_cons_zero, List.set_cons_succ]))
            have hO2 : Hid (IntsL w5 w0.heap.size v' ((fr.take (k + 1)).map (Cal.sclH p))) := by
              show IntsL _ _ _ _
              rw [htk.out]
              unfold IntsL intRows
              rw [List.map_append]
              exact hown5
            have hbw2 := Lib.hid hHeld.bel
            clear hHeld hown5 hg5 hob5 hO1 hown htk hW1s hx
            go_wp2_with fail
            go_roundw
            case rel => exact ⟨k + 1, _, by omega, by go_num, rfl, hO2, hbw2⟩
            case measure => simp [intOf]; omega
          · obtain rfl : k = fr.length := by omega
            rw [List.take_length, ← hLL.out] at hO
            have hbz : Hid (Below w.heap.size w wr) := hB0.out.trans (hbw.out.mono hB0s.out)
            have hOz := Lib.hid (IntsL.less hO.out hB0s.out)
            clear hO hbw
            go_wp2_with fail
            go_ret3
            exact ⟨_, by rw [e1.out, e2.out]; rfl, hOz.out, hbz.out⟩
  · rw [if_neg hlen] at hE hR
    subst hE hR
    have hlb : ((fr.length : Int) == N) = false := by simpa using hlen
    go_enter Try.func83, Try.ntmps83
    go_wp2_with fail
    go_ret3
    exact ⟨_, rfl, by rw [← hL.out, if_neg (by decide)]; exact OwnL.nil _ _ _ _, hb0.out⟩
end Go.Proofs.Ytfcjeejhdklkdaa
namespace Go.Proofs.Ytfcjeejhdklkdaa
open Go Go.RowKit Go.Shelf
set_option maxRecDepth 100000 in
set_option maxHeartbeats 4000000 in
theorem residuals_any (N : Int) (A : Option Addr) (c : Nat) (l : List Lev) (B : Option Addr) (d : Nat) (fr : List (Int × Int)) (w : World) (hL : Levs w A l) (hF : RowsAt w B 2 (fr.map frR)) (hs : fr.length ≤ 1000000)
    (hv : ∀ h ∈ fr, (-9223372036854775808 ≤ h.1 ∧ h.1 ≤ 9223372036854775807) ∧ (-9223372036854775808 ≤ h.2 ∧ h.2 ≤ 9223372036854775807)) :
    Calls Try.prog 55 #[.int .i64 N, .slice A l.length c, .slice B fr.length d] w fun e w' => ∃ v, e = .returned (.tuple #[v, .int .i64 (Cal.resPN N l fr), .int .i64 (Cal.resE N l fr)]) ∧ IntsL w' w.heap.size v (Cal.resLN N l fr) ∧ Below w.heap.size w w' := by
  have hb0 : Hid (Below w.heap.size w w) := Below.refl _ _
  obtain ⟨E, hE⟩ : ∃ E, Cal.resE N l fr = E := ⟨_, rfl⟩
  obtain ⟨R, hR⟩ : ∃ R, Cal.resPN N l fr = R := ⟨_, rfl⟩
  obtain ⟨L, hLn⟩ : ∃ L, Cal.resLN N l fr = L := ⟨_, rfl⟩
  rw [hE, hR, hLn]
  unfold Cal.resLN at hLn
  rw [hE] at hLn
  unfold Cal.resE at hE
  unfold Cal.resPN at hR
  have hck := Lib.hid (fun W (hb : Below w.heap.size w W) => CheckNet_any N A c l W (hL.below hb))
  have hsc := Lib.hid (fun W (hb : Below w.heap.size w W) => scaled_any N B d fr W (hF.below hb) hs hv)
  have hsz := hL.size
  replace hL := Lib.hid hL
  by_cases hz : Cal.netE N l = 0
  · rw [if_pos hz] at hE hR
    have hz0 := Lib.hid hz
    by_cases he : Cal.sclE N fr = 0
    · obtain ⟨hlen, _, hp1, hp2, hall⟩ := Cal.sclE_zero he
      have hLL : Hid (L = Cal.resL R fr l) := by show _ = _; rw [← hLn, ← hR, ← hE, if_pos he]
      have hsl : Cal.sclL N fr = fr.map (Cal.sclH R) := by unfold Cal.sclL; rw [if_pos he, hR]
      rw [hR] at hp1 hp2
      rw [hsl, he, hR] at hsc
      obtain ⟨_, _, hl20, hlev, _⟩ := Cal.netE_zero hz
      replace hall := Lib.hid hall
      replace hlev := Lib.hid hlev
      have hE2 : Hid (E = 0) := by show _ = _; rw [← hE, he]
      subst hlen
      clear hz he hE hR hLn hsl
      go_enter Try.func55, Try.ntmps55
      go_wp2_with (first
        | (go_at_call 22; refine (hck.out _ hb0.out).mono ?_; rintro e0 w1 ⟨rfl, hb1⟩; rw [hz0.out]; replace hb1 := Lib.hid hb1; clear hck)
        | (go_at_call 83; refine (hsc.out _ hb1.out).mono ?_; rintro e0 w2 ⟨vh, rfl, hH, hb2⟩; obtain ⟨A7, c7, rfl, hH7⟩ := hH.rows; replace hH7 := Lib.hid hH7; replace hb2 := Lib.hid (below_step hb1.out hb2); clear hsc hH))
      have hb2s := Lib.hid hb2.out.size
      have hO0 : Hid (IntsL w2 w2.heap.size (.slice none 0 0) ((l.take 0).map (Cal.resV R fr))) := by show IntsL _ _ _ _; rw [List.take_zero]; exact OwnL.nil _ _ _ _
      have hbw : Hid (Below w2.heap.size w2 w2) := Below.refl _ _
      go_loopw [13, 34] (fun ov i wz => ∃ (k : Nat) (v : Value), k ≤ l.length ∧ i = .int .i64 k ∧ ov = v ∧ Hid (IntsL wz w2.heap.size v ((l.take k).map (Cal.resV R fr))) ∧ Hid (Below w2.heap.size w2 wz)) (fun _ i _ => l.length - (intOf i).toNat)
      case atStart => exact ⟨0, _, Nat.zero_le _, rfl, rfl, hO0, hbw⟩
      case round =>
        clear hO0 hbw
        obtain ⟨k, v, hk, rfl, rfl, hO, hbw⟩ := hrel
        by_cases hlt : k < l.length
        · have hk' : l[k]? = some l[k] := List.getElem?_eq_getElem hlt
          have htk : Hid ((l.take (k + 1)).map (Cal.resV R fr) = (l.take k).map (Cal.resV R fr) ++ [Cal.resV R fr l[k]]) := by show _ = _; rw [List.take_succ_eq_append_getElem hlt, List.map_append]; rfl
          have hlk : ((l.take k).map (Cal.resV R fr)).length ≤ 1000000 := by rw [List.length_map, List.length_take]; omega
          have hlz := Cal.levE_zero (hlev.out _ (List.getElem_mem hlt))
          have hki : (k : Int) < (l.length : Int) := by omega
          generalize l[k] = x at *
          obtain ⟨b, o, rfl, hbl, c0, c1, c2, c3⟩ := lev_at (hL.out.below (hb2.out.trans (hbw.out.mono hb2s.out))).rows hk'
          obtain ⟨xf, xt, xd, xw⟩ := x
          dsimp only at *
          obtain ⟨⟨f0, f1⟩, ⟨t0, t1⟩, -, dl1, dl2, -, -⟩ := hlz
          obtain ⟨f, rfl⟩ : ∃ f : Nat, xf = (f : Int) := ⟨xf.toNat, by omega⟩
          obtain ⟨t, rfl⟩ : ∃ t : Nat, xt = (t : Int) := ⟨xt.toNat, by omega⟩
          have hfN : f < fr.length := by omega
          have htN : t < fr.length := by omega
          have hfM : f < (fr.map (Cal.sclH R)).length := by rw [List.length_map]; exact hfN
          have htM : t < (fr.map (Cal.sclH R)).length := by rw [List.length_map]; exact htN
          obtain ⟨b7, o7, rfl, hb7, g0⟩ := intsI_at hH7.out hfM
          obtain ⟨b7', o7', hA7, _, g1⟩ := intsI_at hH7.out htM
          cases hA7
          rw [List.getElem_map] at g0 g1
          have hX : Cal.resV R fr ⟨(f : Int), (t : Int), xd, xw⟩ = xd * R - Cal.sclH R fr[t] + Cal.sclH R fr[f] := by
            unfold Cal.resV Cal.hAt0
            dsimp only
            rw [Int.toNat_natCast, Int.toNat_natCast, List.getElem?_eq_getElem htN, List.getElem?_eq_getElem hfN]
            rfl
          obtain ⟨a1, _, a3, _⟩ := hall.out _ (List.getElem_mem hfN)
          obtain ⟨b1, _, b3, _⟩ := hall.out _ (List.getElem_mem htN)
          have hbxf := Cal.sclH_box hp1 hp2 a1 a3
          have hbxt := Cal.sclH_box hp1 hp2 b1 b3
          rw [hX] at htk
          generalize Cal.sclH R fr[t] = Ht at *
          generalize Cal.sclH R fr[f] = Hf at *
          have hm := mul_le_of (a := xd) (b := R) (M := 100000) (N := 4000000000) (by omega) (by omega) (by omega) (by omega)
          generalize hP : xd * R = P at *
          have hw1 : IntKind.i64.wrap P = P := wrap_small (by omega) (by omega)
          have hw1b : wrap64 P = P := by rw [← wrap_eq]; exact hw1
          have hw2 : IntKind.i64.wrap (P - Ht) = P - Ht := wrap_small (by omega) (by omega)
          have hw2b : wrap64 (P - Ht) = P - Ht := by rw [← wrap_eq]; exact hw2
          have hw3 : IntKind.i64.wrap (P - Ht + Hf) = P - Ht + Hf := wrap_small (by omega) (by omega)
          have hw3b : wrap64 (P - Ht + Hf) = P - Ht + Hf := by rw [← wrap_eq]; exact hw3
          have hx := Lib.hid (BoxAt.new wr #[.int .i64 (f : Int), .int .i64 (t : Int), .int .i64 xd, .int .i64 xw] 41)
          have hO1 := Lib.hid (OwnL.below hO.out (below_alloc wr (.cells #[.int .i64 (f : Int), .int .i64 (t : Int), .int .i64 xd, .int .i64 xw] 41)))
          have hbw1 := Lib.hid (below_step hbw.out (below_alloc wr (.cells #[.int .i64 (f : Int), .int .i64 (t : Int), .int .i64 xd, .int .i64 xw] 41)))
          have y0 := hx.out.c 0 _ rfl
          have y1 := hx.out.c 1 _ rfl
          have y2 := hx.out.c 2 _ rfl
          have g0 := (hbw1.out.cell (p := ⟨b7, o7 + f, none⟩) hb7).trans g0
          have g1 := (hbw1.out.cell (p := ⟨b7, o7 + t, none⟩) hb7).trans g1
          have hown := Lib.hid (OwnL.lt hO.out)
          have hfi : (f : Int) < (fr.length : Int) := by omega
          have hti : (t : Int) < (fr.length : Int) := by omega
          clear hX hk' hO hbw hbxf hbxt a1 a3 b1 b3 hm
          go_wp2_with fail
          generalize hW1 : wr.alloc (.cells #[.int .i64 (f : Int), .int .i64 (t : Int), .int .i64 xd, .int .i64 xw] 41) = W1 at *
          have hW1s : Hid (wr.heap.size < W1.heap.size) := by show _ < _; rw [← hW1]; simp
          clear hW1
          have hws : Hid (w2.heap.size ≤ W1.drew.heap.size) := hbw1.out.size
          have hLb : Hid (∀ x ∈ [(wr.heap.size, 0, Value.int .i64 (f : Int)), (wr.heap.size, 1, .int .i64 (t : Int)), (wr.heap.size, 2, .int .i64 xd), (b7, o7 + f, .int .i64 Hf), (b7, o7 + t, .int .i64 Ht)], x.1 < W1.drew.heap.size ∧ ∀ g, _ = some g → some g ≠ some x.1) := fun x hx => by
            have h1 := hW1s.out
            have h2 : W1.drew.heap.size = W1.heap.size := rfl
            have h3 := hws.out
            refine ⟨?_, fun g e e2 => ?_⟩
            · simp only [List.mem_cons, List.not_mem_nil, or_false] at hx
              rcases hx with rfl | rfl | rfl | rfl | rfl <;> dsimp only <;> omega
            · have h4 := hown.out g e
              have h5 : g = x.1 := Option.some.inj e2
              simp only [List.mem_cons, List.not_mem_nil, or_false] at hx
              rcases hx with rfl | rfl | rfl | rfl | rfl <;> dsimp only at h5 <;> omega
          refine wp_region_held_drew (S := Sx w2 [(wr.heap.size, 0, .int .i64 (f : Int)), (wr.heap.size, 1, .int .i64 (t : Int)), (wr.heap.size, 2, .int .i64 xd), (b7, o7 + f, .int .i64 Hf), (b7, o7 + t, .int .i64 Ht)]) (by kernel_rfl) (Sx.mk (by simp only [cs_iff_cons]; exact ⟨y0, y1, y2, g0, g1, cs_nil _⟩) hbw1.out).drew (fun hHeld => ?_)
          clear y0 y1 y2 g0 g1 hW1s
          replace hO1 := Lib.hid (OwnL.below hO1.out ((Below.refl _ _).drew))
          generalize W1.drew = W2 at *
          generalize wr.heap.size = Bx at *
          refine tkHx 0 38 ?_
          refine tkHx 1 39 ?_
          refine tkHx 2 40 ?_
          refine tkHx 3 41 ?_
          refine tkHx 4 42 ?_
          refine tkHx 5 43 ?_
          refine tkHx 6 44 ?_
          refine tkHx 7 45 ?_
          refine tkHx 8 46 ?_
          refine tkHx 9 47 ?_
          refine tkHx 10 48 ?_
          refine tkHx 11 49 ?_
          refine tkHx 12 50 ?_
          refine tkHx 13 51 ?_
          refine tkHx 14 52 ?_
          refine tkHx 15 53 ?_
          refine tkHx 16 54 ?_
          (refine ratHx 17 (fun K hK => ?_); go_simp)
          refine hK.out _ _ (hHeld.alloc _) (fun hHeld => ?_)
          clear hK K
          ((try simp only [Act.put, List.setIfInBounds_toArray]); (try simp only [List.set_cons_zero, List.set_cons_succ]))
          (refine wpAnyH_ready (rs := [18]) (by decide +kernel) (by simp) ?_; refine AllReadyH.cons rfl (fun K hK => ?_) AllReadyH.nil)
          refine step_append_rows elemInt (by rfl) (.tmp 38) (.tmp 55) (by rfl) (by rfl) (by rfl) (OwnL.below hO1.out (below_alloc _ _)) (rowsAt_new _ [.int .i64 (P - Ht + Hf)] _) rfl (intRows_wid [P - Ht + Hf]) (intRows_one [P - Ht + Hf]) (by rw [intRows_length, List.length_singleton]; omega) (by decide) (by have h1 := hws.out; rw [World.size_alloc]; omega) ?_
          intro v' w5 hown5 hg5 hob5
          refine hK.out _ _ (hHeld.grow hg5 (fun g e => (hown.out g e).1) (fun x hx => ⟨fun e => (hLb.out x hx).2 _ e rfl, by rw [World.size_alloc]; have := (hLb.out x hx).1; omega⟩)) (fun hHeld => ?_)
          clear hK K
          ((try simp only [Act.put, List.setIfInBounds_toArray]); (try simp only [List.set_cons_zero, List.set_cons_succ]))
          refine tkHx 19 13 ?_
          refine wpAnyH_done (by kernel_rfl) ?_ _
          ((try simp only [Act.put, List.setIfInBounds_toArray]); (try simp only [List.set_cons_zero, List.set_cons_succ]))
          have hO2 : Hid (IntsL w5 w2.heap.size v' ((l.take (k + 1)).map (Cal.resV R fr))) := by
            show IntsL _ _ _ _
            rw [htk.out]
            unfold IntsL intRows
            rw [List.map_append]
            exact hown5
          have hbw2 := Lib.hid hHeld.bel
          clear hHeld hown5 hg5 hob5 hO1 hown htk hx hLb
          go_wp2_with fail
          go_roundw
          case rel => exact ⟨k + 1, _, by omega, by go_num, rfl, hO2, hbw2⟩
          case measure => simp [intOf]; omega
        · obtain rfl : k = l.length := by omega
          rw [List.take_length] at hO
          rw [show l.map (Cal.resV R fr) = L from hLL.out.symm] at hO
          have hbz : Hid (Below w.heap.size w wr) := hb2.out.trans (hbw.out.mono hb2s.out)
          have hOz := Lib.hid (IntsL.less hO.out hb2s.out)
          clear hO hbw
          go_wp2_with fail
          go_ret3
          exact ⟨_, by rw [hE2.out]; rfl, hOz.out, hbz.out⟩
    · have hneb : (Cal.sclE N fr == 0) = false := by simpa using he
      have hnec : (Cal.sclE N fr != 0) = true := by simpa using he
      have hP0 : R = 0 := by rw [← hR]; unfold Cal.sclP; unfold Cal.sclE at he; split at he <;> rename_i h <;> first | rw [if_pos h, if_neg he] | rw [if_neg h]
      have hLL : L = [] := by rw [← hLn, ← hE, if_neg he]
      subst hP0 hLL
      rw [hR, hE] at hsc
      rw [hE] at hneb hnec
      clear he hR hE hLn
      go_enter Try.func55, Try.ntmps55
      go_wp2_with (first
        | (go_at_call 22; refine (hck.out _ hb0.out).mono ?_; rintro e0 w1 ⟨rfl, hb1⟩; rw [hz0.out]; replace hb1 := Lib.hid hb1; clear hck)
        | (go_at_call 83; refine (hsc.out _ hb1.out).mono ?_; rintro e0 w2 ⟨vh, rfl, hH, hb2⟩; clear hH; replace hb2 := Lib.hid (below_step hb1.out hb2); clear hsc))
      go_ret3
      exact ⟨_, rfl, OwnL.nil _ _ _ _, hb2.out⟩
  · rw [if_neg hz] at hE hR
    have hzb : (Cal.netE N l == 0) = false := by simpa using hz
    have hzc : (Cal.netE N l != 0) = true := by simpa using hz
    have hLL : L = [] := by rw [← hLn, ← hE, if_neg hz]
    subst hR hLL
    rw [hE] at hzb hzc hck
    clear hz hE hLn hsc
    go_enter Try.func55, Try.ntmps55
    go_wp2_with (go_at_call 22; refine (hck.out _ hb0.out).mono ?_; rintro e0 w1 ⟨rfl, hb1⟩; replace hb1 := Lib.hid hb1; clear hck)
    go_ret3
    exact ⟨_, rfl, OwnL.nil _ _ _ _, hb1.out⟩
end Go.Proofs.Ytfcjeejhdklkdaa
