/- What the statements rest on: definitions and walks, part 25. -/
import Derived.Test.YtfcjeejhdklkdaaJ24
set_option maxRecDepth 100000
set_option maxHeartbeats 16000000
set_option linter.unusedSimpArgs false
set_option linter.unusedVariables false
namespace Go.Proofs.Ytfcjeejhdklkdaa
open Go Go.RowKit Go.Shelf
theorem polyE_401 {ps : List Pt} (h : Cal.polyE ps = 0) : ps.length ≤ 40 := by
 unfold Cal.polyE at h
 split at h
 ·cases h
 ·omega
theorem badSide_no {a b : List Pt} {i : Nat} (h1 : ∀ k, k < a.length → Cal.crosS (Cal.sd b i) (Cal.sd a k) = false) (h2 : ¬ 0 < Cal.whereP a (Cal.sd b i).a) (h3 : Cal.entersR (Cal.sd b i) a = false) : Cal.badSide a b i = false := by
 unfold Cal.badSide
 rw [decide_eq_false h2, h3, Bool.or_false, Bool.or_false, List.any_eq_false]
 intro k hk
 rw [h1 k (List.mem_range.1 hk)]; decide
theorem badSide_cross {a b : List Pt} {i k : Nat} (hk : k < a.length) (h1 : Cal.crosS (Cal.sd b i) (Cal.sd a k) = true) : Cal.badSide a b i = true := by
 unfold Cal.badSide
 rw [List.any_eq_true.2 ⟨k, List.mem_range.2 hk, h1⟩]; rfl
theorem badSide_other {a b : List Pt} {i : Nat} (h : (decide (0 < Cal.whereP a (Cal.sd b i).a) || Cal.entersR (Cal.sd b i) a) = true) : Cal.badSide a b i = true := by
 unfold Cal.badSide
 rw [h, Bool.or_true]
theorem within_bad {a b : List Pt} {i : Nat} (hi : i < b.length) (h : Cal.badSide a b i = true) : Cal.withinR a b = false := by
 unfold Cal.withinR
 rw [List.any_eq_true.2 ⟨i, List.mem_range.2 hi, h⟩]; rfl
theorem within_fine {a b : List Pt} (h : ∀ i, i < b.length → Cal.badSide a b i = false) : Cal.withinR a b = decide (0 < Cal.whereP (Cal.mulP 3 b) (Cal.third3 (Cal.firstTri a))) := by
 unfold Cal.withinR
 have : (List.range b.length).any (Cal.badSide a b) = false := by
  rw [List.any_eq_false]
  intro i hi
  rw [h i (List.mem_range.1 hi)]; decide
 rw [this]; rfl
theorem WithinR_any (V : Option Addr) (d : Nat) (a : List Pt) (V2 : Option Addr) (d2 : Nat) (b : List Pt) (w : World) (hA : PtsR w V a) (hd : a.length ≤ d) (hB : PtsR w V2 b) (ha : Cal.polyE a = 0) (hb : Cal.polyE b = 0) :
  Calls Try.prog 34 #[.slice V a.length d, .slice V2 b.length d2] w fun e w' => e = .returned (.bool (Cal.withinR a b)) ∧ Below w.heap.size w w' := by
 obtain ⟨hpa, hia, _⟩ := Cal.polyE_poly ha
 obtain ⟨hpb, hib, _⟩ := Cal.polyE_poly hb
 have hla := polyE_401 ha
 have hlb := polyE_401 hb
 have h3b := hpb.three
 have hsa : ∀ p ∈ a, SmP p := fun p hp => ptErr_sm (hia p hp)
 have hsb : ∀ p ∈ b, SmP p := fun p hp => ptErr_sm (hib p hp)
 have hPa : Pts w V a := ⟨hA.rows, hA.size, hsa, hA.own⟩
 have hPb : Pts w V2 b := ⟨hB.rows, hB.size, hsb, hB.own⟩
 obtain ⟨R, hR⟩ : ∃ R, Cal.withinR a b = R := ⟨_, rfl⟩
 rw [hR]
 have hbad := Lib.hid (fun i (hi : i < b.length) h => hR ▸ within_bad (a := a) hi h)
 have hfine := Lib.hid (fun h => hR ▸ within_fine (a := a) (b := b) h)
 have hft : Hid (Cal.firstTri a ∈ Cal.trisOf a) := Cal.firstTri_mem (Cal.goodP_of ha)
 have hgood := Lib.hid (fun (l0 : 0 < (Cal.trisOf a).length) => (rfl : Cal.firstTri a = Cal.firstTri a))
 have htr := Lib.hid (fun W (hW : Below w.heap.size w W) => TrianglesR_any V d a W (hPa.below hW) hd)
 have hsdB := Lib.hid (fun i (hi : i < b.length) W (hW : Below w.heap.size w W) => sideR_any V2 d2 b i W (hB.below hW) hi (by omega))
 have hsdA := Lib.hid (fun k (hk : k < a.length) W (hW : Below w.heap.size w W) => sideR_any V d a k W (hA.below hW) hk (by omega))
 have hwh1 := Lib.hid (fun q (hq : SmP q) W (hW : Below w.heap.size w W) => WhereR_any V d a q W (hPa.below hW) hq (by omega))
 have hent := Lib.hid (fun s h1 h2 W (hW : Below w.heap.size w W) => entersR_any s V d a W h1 h2 (hA.below hW) hia (by omega))
 have hti : Hid (∀ W, Below w.heap.size w W → Calls Try.prog 72 #[.slice V2 b.length d2, .int .i64 3] W fun e w' => ∃ A c, e = .returned (.slice A (Cal.mulP 3 b).length c) ∧ Pts w' A (Cal.mulP 3 b) ∧ Below W.heap.size W w') := fun W hb => by
  refine (timesR_any V2 d2 b 3 W (hB.below hb) hib (by decide) (by decide)).mono ?_
  rintro e w' ⟨v, rfl, hO, hb'⟩
  obtain ⟨A5, c5, rfl, hr⟩ := OwnL.form hO
  rw [List.length_map]
  refine ⟨A5, c5, rfl, pts_own hO hr (by rw [Cal.mul_length]; omega) (fun p hp => ?_), hb'⟩
  obtain ⟨q, hq, rfl⟩ := List.mem_map.1 hp
  have := ptErr_box (hib q hq)
  exact ⟨by dsimp only; omega, by dsimp only; omega, by dsimp only; omega, by dsimp only; omega⟩
 have hmem := Lib.hid (trisR_mem a.length a)
 change Hid (∀ t ∈ Cal.trisOf a, _) at hmem
 have hia' := Lib.hid hia
 have hib' := Lib.hid hib
 have hsa' := Lib.hid hsa
 have hsB : Hid (∀ i, i < b.length → Cal.ptErr (Cal.sd b i).a = 0 ∧ Cal.ptErr (Cal.sd b i).b = 0) := fun i hi => by
  unfold Cal.sd
  rw [List.getElem?_eq_getElem hi, List.getElem?_eq_getElem (Nat.mod_lt (i + 1) (show 0 < b.length by omega))]
  exact ⟨hib _ (List.getElem_mem _), hib _ (List.getElem_mem _)⟩
 have hsA := Lib.hid (fun k (hk : k < a.length) => hPa.sd k hk)
 have hb0 : Hid (Below w.heap.size w w) := Below.refl _ _
 clear hA hB hia hib hsa hsb hPa hPb hpa hpb ha hb hR hgood
 go_enter Try.func34, Try.ntmps34
 go_wp2_with fail
 go_loopw [5] (fun iv wr => ∃ i : Nat, i ≤ b.length ∧ iv = .int .i64 i ∧ Hid (∀ j, j < i → Cal.badSide a b j = false) ∧ Hid (Below w.heap.size w wr)) (fun iv _ => b.length - (intOf iv).toNat)
 case atStart => exact ⟨0, Nat.zero_le _, rfl, fun j h => by omega, hb0⟩
 case round =>
  clear hb0
  obtain ⟨i, hi, rfl, hdone, hb⟩ := hrel
  by_cases hlt : i < b.length
  ·have hii : (i : Int) < (b.length : Int) := by omega
   have hsd1 := Lib.hid (hsdB.out i hlt)
   obtain ⟨he1, he2⟩ := hsB.out i hlt
   have hnc := Lib.hid (fun h1 h2 h3 => badSide_no (a := a) (b := b) (i := i) h1 h2 h3)
   have hyc := Lib.hid (fun k hk h1 => hbad.out i hlt (badSide_cross (a := a) (b := b) (i := i) (k := k) hk h1))
   have hyo := Lib.hid (fun h => hbad.out i hlt (badSide_other (a := a) (b := b) (i := i) h))
   generalize Cal.sd b i = s at *
   have hss : SmS s := ⟨ptErr_sm he1, ptErr_sm he2⟩
   have hwhs := Lib.hid (hwh1.out s.a hss.a)
   have hens := Lib.hid (hent.out s he1 he2)
   generalize hwo : wr = wo at *
   clear hwo wr
   go_wp2_with (go_at_call 67; refine (hsd1.out _ hb.out).mono ?_; rintro e w1 ⟨rfl, hb1⟩; have h6 := Lib.hid (BoxAt.new w1 #[.int .i64 s.a.x, .int .i64 s.a.y, .int .i64 s.b.x, .int .i64 s.b.y] 97); have hb2 := Lib.hid (below_step (below_step hb.out hb1) (below_alloc w1 (.cells #[.int .i64 s.a.x, .int .i64 s.a.y, .int .i64 s.b.x, .int .i64 s.b.y] 97))); clear hb1)
   generalize hwx : w1.alloc (.cells #[.int .i64 s.a.x, .int .i64 s.a.y, .int .i64 s.b.x, .int .i64 s.b.y] 97) = w2 at *
   generalize w1.heap.size = B6 at *
   clear hwx w1
   have hbm : Hid (Below w2.heap.size w2 w2) := Below.refl _ _
   go_loopw [7] (fun kv wr => ∃ k : Nat, k ≤ a.length ∧ kv = .int .i64 k ∧ Hid (∀ j, j < k → Cal.crosS s (Cal.sd a j) = false) ∧ Hid (Below w2.heap.size w2 wr)) (fun kv _ => a.length - (intOf kv).toNat)
   case atStart => exact ⟨0, Nat.zero_le _, rfl, fun j h => by omega, hbm⟩
   case round =>
    clear hbm
    obtain ⟨k, hk, rfl, hno, hbm⟩ := hrel
    have hbT := Lib.hid (hb2.out.trans (hbm.out.mono hb2.out.size))
    replace h6 := Lib.hid (h6.out.below hbm.out)
    (have s0 := h6.out.c 0 _ rfl; have s1 := h6.out.c 1 _ rfl; have s2 := h6.out.c 2 _ rfl; have s3 := h6.out.c 3 _ rfl)
    by_cases hlk : k < a.length
    ·have hkk : (k : Int) < (a.length : Int) := by omega
     have hst : SmS (Cal.sd a k) := hsA.out k hlk
     have hsd2 := Lib.hid (hsdA.out k hlk)
     have hcc := hyc.out k hlk
     generalize hta : Cal.sd a k = t at *
     replace hta := Lib.hid hta
     have hcr := Lib.hid (fun W => crossesR_any s t W hss hst)
     cases hh : Cal.crosS s t
     ·rw [hh] at hcr
      have hno2 : Hid (∀ j, j < k + 1 → Cal.crosS s (Cal.sd a j) = false) := fun j hj => by
       rcases Nat.lt_succ_iff_lt_or_eq.1 hj with h' | h'
       ·exact hno.out j h'
       ·rw [h', hta.out]; exact hh
      clear hh hno hcc
      go_wp2_with fail
      refine wp_region_held_drew (S := Sx wr [(B6, 0, .int .i64 s.a.x), (B6, 1, .int .i64 s.a.y), (B6, 2, .int .i64 s.b.x), (B6, 3, .int .i64 s.b.y)]) (by kernel_rfl) (Sx.mk (by simp only [cs_iff_cons]; exact ⟨s0, s1, s2, s3, cs_nil _⟩) (Below.refl _ _)).drew (fun hHeld => ?_)
      clear s0 s1 s2 s3
      refine tkHx 0 24 ?_
      refine tkHx 1 25 ?_
      refine tkHx 2 26 ?_
      (refine ratHx 3 (fun K hK => ?_); go_simp)
      refine (hsd2.out _ (hbT.out.trans (hHeld.bel.mono hbT.out.size))).mono ?_
      rintro e wn ⟨rfl, hbn⟩
      go_simp
      (refine hK.out _ _ (hHeld.step hbn) (fun hHeld => ?_); clear hK K; (try simp only [apS, apN, siA, scZ, scS]))
      (refine ratHx 4 (fun K hK => ?_); go_simp)
      refine (hcr.out _).mono ?_
      rintro e wn ⟨rfl, hbn⟩
      go_simp
      (refine hK.out _ _ (hHeld.step hbn) (fun hHeld => ?_); clear hK K; (try simp only [apS, apN, siA, scZ, scS]))
      refine wpAnyH_done (by kernel_rfl) ?_ _
      (try simp only [apS, apN, siA, scZ, scS])
      have hbe := Lib.hid (hbm.out.trans (hHeld.bel.mono hbm.out.size))
      clear hHeld
      go_wp2_with fail
      go_roundw
      case rel => exact ⟨k + 1, by omega, by go_num, hno2, hbe⟩
      case measure => simp [intOf]; omega
     ·rw [hh] at hcr
      have hRf : Hid (R = false) := hcc hh
      clear hh hno hcc
      go_wp2_with fail
      refine wp_region_held_drew (S := Sx wr [(B6, 0, .int .i64 s.a.x), (B6, 1, .int .i64 s.a.y), (B6, 2, .int .i64 s.b.x), (B6, 3, .int .i64 s.b.y)]) (by kernel_rfl) (Sx.mk (by simp only [cs_iff_cons]; exact ⟨s0, s1, s2, s3, cs_nil _⟩) (Below.refl _ _)).drew (fun hHeld => ?_)
      clear s0 s1 s2 s3
      refine tkHx 0 24 ?_
      refine tkHx 1 25 ?_
      refine tkHx 2 26 ?_
      (refine ratHx 3 (fun K hK => ?_); go_simp)
      refine (hsd2.out _ (hbT.out.trans (hHeld.bel.mono hbT.out.size))).mono ?_
      rintro e wn ⟨rfl, hbn⟩
      go_simp
      (refine hK.out _ _ (hHeld.step hbn) (fun hHeld => ?_); clear hK K; (try simp only [apS, apN, siA, scZ, scS]))
      (refine ratHx 4 (fun K hK => ?_); go_simp)
      refine (hcr.out _).mono ?_
      rintro e wn ⟨rfl, hbn⟩
      go_simp
      (refine hK.out _ _ (hHeld.step hbn) (fun hHeld => ?_); clear hK K; (try simp only [apS, apN, siA, scZ, scS]))
      refine wpAnyH_done (by kernel_rfl) ?_ _
      (try simp only [apS, apN, siA, scZ, scS])
      have hbe := Lib.hid (hbT.out.trans (hHeld.bel.mono hbT.out.size))
      clear hHeld
      go_wp2_with fail
      go_ret
      exact ⟨by rw [hRf.out]; rfl, hbe.out⟩
    ·obtain rfl : k = a.length := by omega
     have hnc2 := Lib.hid (hnc.out hno.out)
     generalize Cal.whereP a s.a = z at *
     by_cases h0 : 0 < z
     ·have hRf : Hid (R = false) := hyo.out (by rw [decide_eq_true h0]; rfl)
      clear hnc2 hyo hens
      go_wp2_with (go_at_call 70; refine (hwhs.out _ hbT.out).mono ?_; rintro e w3 ⟨rfl, hb3⟩; have hbe := Lib.hid (below_step hbT.out hb3); clear hb3 s0 s1 s2 s3)
      go_ret
      exact ⟨by rw [hRf.out]; rfl, hbe.out⟩
     ·generalize Cal.entersR s a = en at *
      cases en
      ·have hdone2 : Hid (∀ j, j < i + 1 → Cal.badSide a b j = false) := fun j hj => by
        rcases Nat.lt_succ_iff_lt_or_eq.1 hj with h' | h'
        ·exact hdone.out j h'
        ·rw [h']; exact hnc2.out (by omega) rfl
       clear hnc2 hyo hdone
       go_wp2_with (first
        |(go_at_call 70; refine (hwhs.out _ hbT.out).mono ?_; clear hwhs; rintro e w3 ⟨rfl, hb3⟩; have hbe := Lib.hid (below_step hbT.out hb3); replace h6 := Lib.hid (h6.out.below hb3); clear hb3 s0 s1 s2 s3; (have s0 := h6.out.c 0 _ rfl; have s1 := h6.out.c 1 _ rfl; have s2 := h6.out.c 2 _ rfl; have s3 := h6.out.c 3 _ rfl))
        |(go_at_call 71; refine (hens.out _ hbe.out).mono ?_; clear hens; rintro e w4 ⟨rfl, hb4⟩; have hbf := Lib.hid (below_step hbe.out hb4); clear hb4 s0 s1 s2 s3))
       go_roundw
       case rel => exact ⟨i + 1, by omega, by go_num, hdone2, hbf⟩
       case measure => simp [intOf]; omega
      ·have hRf : Hid (R = false) := hyo.out (by rw [Bool.or_true])
       clear hnc2 hyo hdone
       go_wp2_with (first
        |(go_at_call 70; refine (hwhs.out _ hbT.out).mono ?_; clear hwhs; rintro e w3 ⟨rfl, hb3⟩; have hbe := Lib.hid (below_step hbT.out hb3); replace h6 := Lib.hid (h6.out.below hb3); clear hb3 s0 s1 s2 s3; (have s0 := h6.out.c 0 _ rfl; have s1 := h6.out.c 1 _ rfl; have s2 := h6.out.c 2 _ rfl; have s3 := h6.out.c 3 _ rfl))
        |(go_at_call 71; refine (hens.out _ hbe.out).mono ?_; clear hens; rintro e w4 ⟨rfl, hb4⟩; have hbf := Lib.hid (below_step hbe.out hb4); clear hb4 s0 s1 s2 s3))
       go_ret
       exact ⟨by rw [hRf.out]; rfl, hbf.out⟩
  ·obtain rfl : i = b.length := by omega
   have hRe := hfine.out hdone.out
   have h0T : 0 < (Cal.trisOf a).length := List.length_pos_of_mem hft.out
   have hf0 : Cal.firstTri a = (Cal.trisOf a)[0] := by unfold Cal.firstTri; rw [List.getElem?_eq_getElem h0T]; rfl
   have htr2 : Hid (∀ W, Below w.heap.size w W → Calls Try.prog 64 #[.slice V a.length d] W fun e w' => ∃ b9 o9 c9 g x y z, e = .returned (.slice (some ⟨b9, o9, none⟩) (Cal.trisOf a).length c9) ∧ b9 < w'.heap.size ∧ w'.cell? ⟨b9, o9, none⟩ = some (.slice (some ⟨g, 0, none⟩) 3 3) ∧ (Cal.trisOf a)[0] = [x, y, z] ∧ Pts w' (some ⟨g, 0, none⟩) [x, y, z] ∧ (x ∈ a ∧ y ∈ a ∧ z ∈ a) ∧ Below W.heap.size W w') := fun W hW => by
    refine (htr.out W hW).mono ?_
    rintro e w' ⟨v, gs, rfl, hT, hb'⟩
    obtain ⟨A9, c9, rfl, hr9⟩ := hT.read
    obtain ⟨b9, o9, g, x, y, z, rfl, hb9, hc9, he9, _, _, _, hp9⟩ := hr9.tri hmem.out hsa'.out h0T
    obtain ⟨x', y', z', e2, h1, h2, h3⟩ := hmem.out _ (List.getElem_mem h0T)
    rw [he9] at e2
    simp only [List.cons.injEq, and_true] at e2
    obtain ⟨rfl, rfl, rfl⟩ := e2
    exact ⟨b9, o9, c9, g, x, y, z, rfl, hb9, hc9, he9, hp9, ⟨h1, h2, h3⟩, hb'⟩
   have hlT : (0 : Int) < ((Cal.trisOf a).length : Int) := by omega
   have hlT2 : (Cal.trisOf a).length ≤ 1000000 := Nat.le_trans (trisR_len _ _) (by omega)
   rw [hf0] at hRe
   clear hfine hdone htr hft hf0 hent hwh1 hsdA hsdB hbad hsA hsB
   obtain ⟨T0, hT0⟩ : ∃ T, (Cal.trisOf a)[0] = T := ⟨_, rfl⟩
   simp only [hT0] at hRe htr2
   clear hT0 hmem h0T
   generalize (Cal.trisOf a).length = lT at *
   go_wp2_with (go_at_call 64; refine (htr2.out _ hb.out).mono ?_; clear htr2; rintro e w3 ⟨b9, o9, c9, g, x, y, z, rfl, hb9, hc9, rfl, hp9, ⟨hx, hy, hz⟩, hb3⟩; have hbe := Lib.hid (below_step hb.out hb3); clear hb3)
   obtain ⟨b8, o8, hA8, _, x0, x1⟩ := pts_at hp9.rows (k := 0) (q := x) rfl
   cases hA8
   obtain ⟨b8, o8, hA8, _, y0, y1⟩ := pts_at hp9.rows (k := 1) (q := y) rfl
   cases hA8
   obtain ⟨b8, o8, hA8, _, z0, z1⟩ := pts_at hp9.rows (k := 2) (q := z) rfl
   cases hA8
   have bx := ptErr_box (hia'.out x hx)
   have by' := ptErr_box (hia'.out y hy)
   have bz := ptErr_box (hia'.out z hz)
   simp only [Nat.zero_mul, Nat.add_zero, Nat.zero_add, Nat.one_mul, Nat.reduceMul] at x0 x1 y0 y1 z0 z1
   have f1 : IntKind.i64.wrap (x.x + y.x) = x.x + y.x := wrap_small (by omega) (by omega)
   have f1b : wrap64 (x.x + y.x) = x.x + y.x := by rw [← wrap_eq]; exact f1
   have f2 : IntKind.i64.wrap (x.x + y.x + z.x) = x.x + y.x + z.x := wrap_small (by omega) (by omega)
   have f2b : wrap64 (x.x + y.x + z.x) = x.x + y.x + z.x := by rw [← wrap_eq]; exact f2
   have f3 : IntKind.i64.wrap (x.y + y.y) = x.y + y.y := wrap_small (by omega) (by omega)
   have f3b : wrap64 (x.y + y.y) = x.y + y.y := by rw [← wrap_eq]; exact f3
   have f4 : IntKind.i64.wrap (x.y + y.y + z.y) = x.y + y.y + z.y := wrap_small (by omega) (by omega)
   have f4b : wrap64 (x.y + y.y + z.y) = x.y + y.y + z.y := by rw [← wrap_eq]; exact f4
   have hms : SmP ⟨x.x + y.x + z.x, x.y + y.y + z.y⟩ := ⟨by dsimp only; omega, by dsimp only; omega, by dsimp only; omega, by dsimp only; omega⟩
   have hwh := Lib.hid (fun A c W hp => WhereR_any A c (Cal.mulP 3 b) ⟨x.x + y.x + z.x, x.y + y.y + z.y⟩ W hp hms (by rw [Cal.mul_length]; omega))
   replace hRe : Hid (R = decide (0 < Cal.whereP (Cal.mulP 3 b) ⟨x.x + y.x + z.x, x.y + y.y + z.y⟩)) := hRe
   generalize Cal.whereP (Cal.mulP 3 b) ⟨x.x + y.x + z.x, x.y + y.y + z.y⟩ = q at *
   clear bx by' bz hms hp9 hx hy hz
   go_wp2_with fail
   refine wp_region_held_drew (S := Sx w3 [(g, 0, .int .i64 x.x), (g, 1, .int .i64 x.y), (g, 2, .int .i64 y.x), (g, 3, .int .i64 y.y), (g, 4, .int .i64 z.x), (g, 5, .int .i64 z.y)]) (by kernel_rfl) (Sx.mk (by simp only [cs_iff_cons]; exact ⟨x0, x1, y0, y1, z0, z1, cs_nil _⟩) (Below.refl _ _)).drew (fun hHeld => ?_)
   clear x0 x1 y0 y1 z0 z1
   refine tkHx 0 43 ?_
   refine tkHx 2 45 ?_
   refine tkHx 3 46 ?_
   refine tkHx 4 47 ?_
   refine tkHx 5 48 ?_
   refine tkHx 6 49 ?_
   refine tkHx 7 50 ?_
   refine tkHx 8 51 ?_
   refine tkHx 9 52 ?_
   refine tkHx 10 53 ?_
   refine tkHx 11 54 ?_
   refine tkHx 12 55 ?_
   refine tkHx 13 56 ?_
   refine tkHx 14 57 ?_
   refine tkHx 15 58 ?_
   refine tkHx 16 59 ?_
   refine tkHx 17 60 ?_
   refine tkHx 18 61 ?_
   refine tkHx 19 62 ?_
   refine tkHx 20 63 ?_
   refine tkHx 21 64 ?_
   refine tkHx 22 65 ?_
   refine tkHx 23 66 ?_
   refine tkHx 24 67 ?_
   refine tkHx 25 68 ?_
   refine tkHx 26 69 ?_
   refine tkHx 27 70 ?_
   refine tkHx 28 71 ?_
   refine tkHx 29 72 ?_
   refine tkHx 30 73 ?_
   (refine ratHx 1 (fun K hK => ?_); go_simp)
   refine (hti.out _ (hbe.out.trans (hHeld.bel.mono hbe.out.size))).mono ?_
   rintro e wn ⟨A9, c9', rfl, hp9, hbn⟩
   go_simp
   (refine hK.out _ _ (hHeld.step hbn) (fun hHeld => ?_); clear hK K; (try simp only [apS, apN, siA, scZ, scS]))
   (refine ratHx 31 (fun K hK => ?_); go_simp)
   refine (hwh.out A9 c9' _ hp9).mono ?_
   rintro e wm ⟨rfl, hbm⟩
   go_simp
   (refine hK.out _ _ (hHeld.step hbm) (fun hHeld => ?_); clear hK K; (try simp only [apS, apN, siA, scZ, scS]))
   refine tkHx 32 75 ?_
   refine tkHx 33 4 ?_
   refine wpAnyH_done (by kernel_rfl) ?_ _
   (try simp only [apS, apN, siA, scZ, scS])
   have hbf := Lib.hid (hbe.out.trans (hHeld.bel.mono hbe.out.size))
   clear hHeld
   go_wp2_with fail
   go_ret
   exact ⟨by rw [hRe.out]; rfl, hbf.out⟩
end Go.Proofs.Ytfcjeejhdklkdaa
namespace Go.Proofs.Ytfcjeejhdklkdaa
open Go Go.RowKit Go.Shelf
attribute [local go_sem] Oper.semAt_some
structure WiI (w : World) (Va Vb : Option Addr) (na da nb db N : Nat) (Ds : List Nat) (W : World) : Prop where
 a : BoxAt W w.heap.size [.slice Va na da]
 b : BoxAt W (w.heap.size + 1) [.slice Vb nb db]
 r : ∃ v, BoxAt W (w.heap.size + 1 + 1) [v]
 bel : Below w.heap.size w W
 dd : ∀ D ∈ Ds, D < N ∧ W.heap[D]? = some (.deferred (some []))
 lt : w.heap.size + 3 ≤ N
 size : N ≤ W.heap.size
theorem WiI.belowN {w : World} {Va Vb : Option Addr} {na da nb db N : Nat} {Ds : List Nat} {X Y : World} (h : WiI w Va Vb na da nb db N Ds X) (hb : Below N X Y) : WiI w Va Vb na da nb db N Ds Y := by
 obtain ⟨h1, h2, ⟨v, h3⟩, h4, h5, h6, h7⟩ := h
 exact ⟨h1.belowN hb (by omega), h2.belowN hb (by omega), ⟨v, h3.belowN hb (by omega)⟩, h4.trans (hb.mono (by omega)), fun D hD => ⟨(h5 D hD).1, (hb.block _ (h5 D hD).1).trans (h5 D hD).2⟩, h6, Nat.le_trans h7 hb.size⟩
theorem WiI.below {w : World} {Va Vb : Option Addr} {na da nb db N : Nat} {Ds : List Nat} {X Y : World} (h : WiI w Va Vb na da nb db N Ds X) (hb : Below X.heap.size X Y) : WiI w Va Vb na da nb db N Ds Y := h.belowN (hb.mono h.size)
theorem WiI.kept {w : World} {Va Vb : Option Addr} {na da nb db N B : Nat} {Ds : List Nat} {X Y : World} {row : Option Nat} (h : WiI w Va Vb na da nb db N Ds X) (hg : X.grownBy Y row) (hB : N ≤ B) (hr : ∀ r, row = some r → B ≤ r ∧ ∃ o : Obj, X.heap[r]? = some o ∧ o.isCells = false) : WiI w Va Vb na da nb db N Ds Y :=
 h.belowN ((Below.refl _ _).grown hg h.size (fun r e => Nat.le_trans hB (hr r e).1))
theorem WiI.abM {w : World} {Va Vb : Option Addr} {na da nb db N : Nat} {Ds : List Nat} {X Y : World} (h : WiI w Va Vb na da nb db N Ds X) (ha : AbM (N + 1 + 1) X Y) : WiI w Va Vb na da nb db N Ds Y := h.belowN (ha.mono (by have := h.size; omega))
structure WiZ (w : World) (N : Nat) (Ds : List Nat) (W : World) : Prop where
 r : BoxAt W (w.heap.size + 1 + 1) [.bool false]
 bel : Below w.heap.size w W
 dd : ∀ D ∈ Ds, D < N ∧ W.heap[D]? = some (.deferred (some []))
 lt : w.heap.size + 3 ≤ N
 size : N ≤ W.heap.size
theorem WiZ.belowN {w : World} {N : Nat} {Ds : List Nat} {X Y : World} (h : WiZ w N Ds X) (hb : Below N X Y) : WiZ w N Ds Y := by
 obtain ⟨h3, h4, h5, h6, h7⟩ := h
 exact ⟨h3.belowN hb (by omega), h4.trans (hb.mono (by omega)), fun D hD => ⟨(h5 D hD).1, (hb.block _ (h5 D hD).1).trans (h5 D hD).2⟩, h6, Nat.le_trans h7 hb.size⟩
theorem WiI.no {w : World} {Va Vb : Option Addr} {na da nb db N : Nat} {Ds : List Nat} {X : World} (h : WiI w Va Vb na da nb db N Ds X) : WiZ w N Ds (X.setCell ⟨w.heap.size + 1 + 1, 0, none⟩ (.bool false)) := by
 obtain ⟨h1, h2, ⟨v, h3⟩, h4, h5, h6, h7⟩ := h
 refine ⟨h3.set 0 _ Nat.zero_lt_one, h4.setCell (p := ⟨w.heap.size + 1 + 1, 0, none⟩) (show w.heap.size ≤ w.heap.size + 1 + 1 by omega) _, fun D hD => ⟨(h5 D hD).1, ?_⟩, h6, by rw [World.size_setCell]; exact h7⟩
 exact (KeepsOthers.setCell X ⟨w.heap.size + 1 + 1, 0, none⟩ (.bool false)).same D _ (h5 D hD).2 rfl
def WiJ (w : World) (Va Vb : Option Addr) (na da nb db N : Nat) (Ds : List Nat) (f : Cal.Pc → Bool) (L : List Cal.Pc) (k : Nat) (W : World) : Prop := (∀ i x, i < k → L[i]? = some x → f x = true) ∧ WiI w Va Vb na da nb db N Ds W
def WiX (w : World) (N : Nat) (Ds : List Nat) (b : Bool) (c : Code) (_ : Nat) (W : World) : Prop := c = .ret ∧ b = false ∧ WiZ w N Ds W
theorem wiJ_own (w : World) (Va Vb : Option Addr) (na da nb db N : Nat) (Ds : List Nat) (f : Cal.Pc → Bool) (L : List Cal.Pc) {B : Nat} (hB : N ≤ B) : OwnFrom B (WiJ w Va Vb na da nb db N Ds f L) := fun _ _ _ _ h hg hr => ⟨h.1, h.2.kept hg hB hr⟩
theorem wiX_own (w : World) (N : Nat) (Ds : List Nat) (b : Bool) {B : Nat} (hB : N ≤ B) (c : Code) : OwnFrom B (WiX w N Ds b c) := fun _ _ _ _ h hg hr => ⟨h.1, h.2.1, h.2.2.belowN ((Below.refl _ _).grown hg h.2.2.size (fun r e => Nat.le_trans hB (hr r e).1))⟩
theorem pcs_all_false {l : List Cal.Pc} {f : Cal.Pc → Bool} {k : Nat} {x : Cal.Pc} (hk : l[k]? = some x) (h : f x = false) : l.all f = false := by
 rw [List.all_eq_false]
 exact ⟨x, List.mem_of_getElem? hk, by rw [h]; decide⟩
theorem pcs_all_true {l : List Cal.Pc} {f : Cal.Pc → Bool} (h : ∀ k x, k < l.length → l[k]? = some x → f x = true) : l.all f = true := by
 rw [List.all_eq_true]
 rintro x hx
 obtain ⟨k, hk, rfl⟩ := List.getElem_of_mem hx
 exact h k _ hk (List.getElem?_eq_getElem hk)
def inX (ds : List Pt) (x : Cal.Pc) : Bool := decide (0 ≤ Cal.whereP ds x.mid)
def ouX (ds : List Pt) (x : Cal.Pc) : Bool := decide (Cal.whereP ds x.mid ≤ 0)
theorem withinP_eq (us vs : List Pt) : Cal.withinP us vs = (!Cal.crossP us vs && ((Cal.pcsP us vs).all (inX (Cal.dblP vs)) && (Cal.pcsP vs us).all (ouX (Cal.dblP us)))) := rfl
theorem WiI.up {w : World} {Va Vb : Option Addr} {na da nb db N N' : Nat} {Ds : List Nat} {X : World} (h : WiI w Va Vb na da nb db N Ds X) (h1 : N ≤ N') (h2 : N' ≤ X.heap.size) : WiI w Va Vb na da nb db N' Ds X :=
 ⟨h.a, h.b, h.r, h.bel, fun D hD => ⟨Nat.lt_of_lt_of_le (h.dd D hD).1 h1, (h.dd D hD).2⟩, Nat.le_trans h.lt h1, h2⟩
theorem WiI.push {w : World} {Va Vb : Option Addr} {na da nb db N D : Nat} {Ds : List Nat} {X : World} (h : WiI w Va Vb na da nb db N Ds X) (hD : X.heap[D]? = some (.deferred (some []))) : WiI w Va Vb na da nb db X.heap.size (D :: Ds) X :=
 ⟨h.a, h.b, h.r, h.bel, fun E hE => by
  rcases List.mem_cons.1 hE with e | hE
  ·rw [e]; exact ⟨(Array.getElem?_eq_some_iff.1 hD).1, hD⟩
  ·exact ⟨Nat.lt_of_lt_of_le (h.dd E hE).1 h.size, (h.dd E hE).2⟩, Nat.le_trans h.lt h.size, Nat.le_refl _⟩
theorem withinG_any (Va Vb : Option Addr) (da db : Nat) (us vs : List Pt) (w : World) (hA : Plg w Va us) (hB : Plg w Vb vs) :
  Calls Try.prog 68 #[.slice Va us.length da, .slice Vb vs.length db] w fun e w' => e = .returned (.bool (Cal.withinP us vs)) ∧ Below w.heap.size w w' := by
 rw [withinP_eq]
 obtain ⟨c1, h1⟩ : ∃ c, Cal.crossP us vs = c := ⟨_, rfl⟩
 rw [h1]
 refine (callsIn_wide (n := 9)).1 ?_
 refine callsIn_of_wp_marks Try.func68 rfl trivial ?_ rfl
 simp only [Try.ntmps68, List.size_toArray, List.length_cons, List.length_nil, Nat.reduceAdd, Nat.reduceSub, Array.replicate_succ, Array.replicate_zero, List.push_toArray, List.append_toArray, List.nil_append, List.cons_append]
 have hA1 : Below w.heap.size w (((w.alloc (.cells #[.slice Va us.length da] 48)).alloc (.cells #[.slice Vb vs.length db] 48)).alloc (.cells #[.bool false] 4)) := below_step (below_step (below_alloc _ _) (below_alloc _ _)) (below_alloc _ _)
 have bA := Lib.hid (((BoxAt.new w #[.slice Va us.length da] 48).alloc (.cells #[.slice Vb vs.length db] 48)).alloc (.cells #[.bool false] 4))
 have bB := Lib.hid ((BoxAt.new (w.alloc (.cells #[.slice Va us.length da] 48)) #[.slice Vb vs.length db] 48).alloc (.cells #[.bool false] 4))
 have bR := Lib.hid (BoxAt.new ((w.alloc (.cells #[.slice Va us.length da] 48)).alloc (.cells #[.slice Vb vs.length db] 48)) #[.bool false] 4)
 simp only [World.size_alloc] at bB bR
 have hs3 : ((((w.alloc (.cells #[.slice Va us.length da] 48)).alloc (.cells #[.slice Vb vs.length db] 48)).alloc (.cells #[.bool false] 4))).heap.size = w.heap.size + 3 := by simp
 have hI : WiI w Va Vb us.length da vs.length db (w.heap.size + 3) [] (((w.alloc (.cells #[.slice Va us.length da] 48)).alloc (.cells #[.slice Vb vs.length db] 48)).alloc (.cells #[.bool false] 4)) := ⟨bA.out, bB.out, ⟨_, bR.out⟩, hA1, (fun D hD => by cases hD), Nat.le_refl _, Nat.le_of_eq hs3.symm⟩
 replace hI := Lib.hid hI
 have hAx := Lib.hid (hA.below hA1)
 have hBx := Lib.hid (hB.below hA1)
 replace h1 := Lib.hid h1
 clear bA bB bR hs3 hA1
 cases c1
 ·gi_wp2_with (first
   |(refine ⟨trivial, ?_⟩; gi_at_call 84; refine (callsIn_wide.2 (crossing_any _ _ _ _ _ _ _ hAx.out.v.pts hBx.out.v.pts)).mono ?_; rintro e w2 ⟨rfl, hb2⟩; rw [h1.out]; replace hI := Lib.hid (hI.out.below hb2); replace hAx := Lib.hid (hAx.out.below hb2); replace hBx := Lib.hid (hBx.out.below hb2); clear hb2; have a0 := hI.out.a.c 0 _ rfl; have b0 := hI.out.b.c 0 _ rfl)
   |(refine ⟨trivial, ?_⟩; gi_at_call 94; refine (callsIn_wide.2 (pieces_any _ _ _ _ _ _ _)).mono ?_; rintro e w3 ⟨rfl, rfl⟩))
  have bP := (BoxAt.new w2 #[.slice Va us.length da] 48).alloc (.cells #[.slice Vb vs.length db] 48)
  have bO := BoxAt.new (w2.alloc (.cells #[.slice Va us.length da] 48)) #[.slice Vb vs.length db] 48
  have hB0 : Below w2.heap.size w2 ((w2.alloc (.cells #[.slice Va us.length da] 48)).alloc (.cells #[.slice Vb vs.length db] 48)) := below_step (below_alloc _ _) (below_alloc _ _)
  have hs0 : ((w2.alloc (.cells #[.slice Va us.length da] 48)).alloc (.cells #[.slice Vb vs.length db] 48)).heap.size = w2.heap.size + 2 := by simp
  simp only [World.size_alloc] at bO
  obtain ⟨W0, hW0⟩ : ∃ W0, ((w2.alloc (.cells #[.slice Va us.length da] 48)).alloc (.cells #[.slice Vb vs.length db] 48)) = W0 := ⟨_, rfl⟩
  rw [hW0] at bP bO hB0 hs0 ⊢
  clear hW0
  replace hs0 : w2.heap.size + 2 ≤ W0.heap.size := Nat.le_of_eq hs0.symm
  have hsz2 := hI.out.size
  have hlt2 := hI.out.lt
  have hI0 := (hI.out.below hB0).up (N' := W0.heap.size) (by omega) (Nat.le_refl _)
  clear a0 b0
  refine wpIn_range_pieces (Bp := w2.heap.size) (Bo := w2.heap.size + 1) (n₀ := w.heap.size) (Vp := Va) (Vo := Vb) (dp := da) (do_ := db) (ps := us) (os := vs) rfl rfl (bP.c 0 _ rfl) (bO.c 0 _ rfl) (by omega) (by omega) (hAx.out.v.below hB0) (hBx.out.v.below hB0) hA.v.own hB.v.own (by omega) hB.len hA.nd
   (WiJ w Va Vb us.length da vs.length db W0.heap.size [] (inX (Cal.dblP vs)) (Cal.pcsP us vs)) (WiX w W0.heap.size [] ((Cal.pcsP us vs).all (inX (Cal.dblP vs)))) (wiJ_own w Va Vb _ _ _ _ _ [] _ _ (Nat.le_refl _)) (wiX_own w _ [] _ (Nat.le_refl _))
   (fun k X Y h ha => ⟨h.1, h.2.abM ha⟩) (fun c k X Y h ha => ⟨h.1, h.2.1, h.2.2.belowN (ha.mono (by have := h.2.2.size; omega))⟩) ⟨fun i x hi => by omega, hI0⟩
   (fun T x By => (T.setIfInBounds 13 (.agg #[.int .i64 x.mid.x, .int .i64 x.mid.y, .int .i64 (x.of.b.x - x.of.a.x), .int .i64 (x.of.b.y - x.of.a.y)])).setIfInBounds 5 (.pointer (some ⟨By, 0, none⟩)))
   ?assign ?body ?done ?stop
  case assign =>
   rintro l k x W K hx ⟨hc, hI⟩ hK
   gi_wp2
   have hz := hI.size
   exact hK W.heap.size _ hz ((KeepsOthers.alloc _ _).from _) (KpP.below (below_alloc _ _) hI.bel.size (by omega) (by omega)) ⟨hc, hI.below (below_alloc _ _)⟩ (BoxAt.new W #[.int .i64 x.mid.x, .int .i64 x.mid.y, .int .i64 (x.of.b.x - x.of.a.x), .int .i64 (x.of.b.y - x.of.a.y)] _)
  case body =>
   rintro l k x Bx W hl ⟨r, hr⟩ hx ⟨hc, hI⟩ hBx bX
   simp only [List.setIfInBounds_toArray, List.set_cons_zero, List.set_cons_succ]
   have hsx := pcs_sm hA.v.sm hB.v.sm hA.nd (List.mem_of_getElem? hx)
   have hz := hI.size
   have b0 := hI.b.c 0 _ rfl
   have c0 := bX.c 0 _ rfl
   have c1 := bX.c 1 _ rfl
   have hBW := Lib.hid (hB.v.below hI.bel)
   have hIz := Lib.hid hI
   have hcz := Lib.hid hc
   clear hI bX hc
   rcases whereP_cases (Cal.dblP vs) x.mid with hw | hw | hw
   ·have hex : Hid (inX (Cal.dblP vs) x = true) := by show _ = _; unfold inX; rw [hw]; rfl
    gi_wp2
    refine wpIn_region_held_drew (S := Sx W [(w.heap.size + 1, 0, .slice Vb vs.length db), (Bx, 0, .int .i64 x.mid.x), (Bx, 1, .int .i64 x.mid.y)]) (by kernel_rfl) (Sx.mk (by simp only [cs_iff_cons]; exact ⟨b0, c0, c1, cs_nil _⟩) (Below.refl _ _)).drew (fun hHeld => ?_)
    refine tkIx 0 14 ?_
    refine tkIx 2 16 ?_
    refine tkIx 3 17 ?_
    (refine ratI 1 (fun _ => trivial) (by decide +kernel) rfl (fun K hK => ?_); rw [if_pos (by kernel_rfl)]; go_simp)
    refine ⟨trivial, ?_⟩
    refine (callsIn_wide.2 (doubled_any2 _ _ _ _ (hBW.out.below hHeld.bel))).mono ?_
    rintro e wn ⟨rfl, hD, hbn⟩
    go_simp
    replace hD := Lib.hid hD
    (refine hK.out _ _ (hHeld.step hbn) (fun hHeld => ?_); clear hK K; (try simp only [apS, apN, siA, scZ, scS]))
    (refine ratI 4 (fun _ => trivial) (by decide +kernel) rfl (fun K hK => ?_); rw [if_pos (by kernel_rfl)]; go_simp)
    refine ⟨trivial, ?_⟩
    refine (callsIn_wide.2 (where_any _ _ _ _ _ hD.out hsx.1)).mono ?_
    rintro e wn ⟨rfl, hbn⟩
    rw [hw]
    go_simp
    (refine hK.out _ _ (hHeld.step hbn) (fun hHeld => ?_); clear hK K; (try simp only [apS, apN, siA, scZ, scS]))
    refine tkIx 5 19 ?_
    refine wpAnyInH_done (by decide +kernel) ?_ _
    gi_wp2
    have hbl := hIz.out.bel.size
    have hz5 := hHeld.bel.size
    refine ⟨(keepsF_below hHeld.bel).from _, KpP.below hHeld.bel (by omega) (by omega) (by omega), fun i y hi hy => ?_, hIz.out.below hHeld.bel⟩
    by_cases hik : i = k
    ·subst hik; rw [hx] at hy; cases hy; exact hex.out
    ·exact hcz.out i y (by omega) hy
   ·have hex : Hid (inX (Cal.dblP vs) x = true) := by show _ = _; unfold inX; rw [hw]; rfl
    gi_wp2
    refine wpIn_region_held_drew (S := Sx W [(w.heap.size + 1, 0, .slice Vb vs.length db), (Bx, 0, .int .i64 x.mid.x), (Bx, 1, .int .i64 x.mid.y)]) (by kernel_rfl) (Sx.mk (by simp only [cs_iff_cons]; exact ⟨b0, c0, c1, cs_nil _⟩) (Below.refl _ _)).drew (fun hHeld => ?_)
    refine tkIx 0 14 ?_
    refine tkIx 2 16 ?_
    refine tkIx 3 17 ?_
    (refine ratI 1 (fun _ => trivial) (by decide +kernel) rfl (fun K hK => ?_); rw [if_pos (by kernel_rfl)]; go_simp)
    refine ⟨trivial, ?_⟩
    refine (callsIn_wide.2 (doubled_any2 _ _ _ _ (hBW.out.below hHeld.bel))).mono ?_
    rintro e wn ⟨rfl, hD, hbn⟩
    go_simp
    replace hD := Lib.hid hD
    (refine hK.out _ _ (hHeld.step hbn) (fun hHeld => ?_); clear hK K; (try simp only [apS, apN, siA, scZ, scS]))
    (refine ratI 4 (fun _ => trivial) (by decide +kernel) rfl (fun K hK => ?_); rw [if_pos (by kernel_rfl)]; go_simp)
    refine ⟨trivial, ?_⟩
    refine (callsIn_wide.2 (where_any _ _ _ _ _ hD.out hsx.1)).mono ?_
    rintro e wn ⟨rfl, hbn⟩
    rw [hw]
    go_simp
    (refine hK.out _ _ (hHeld.step hbn) (fun hHeld => ?_); clear hK K; (try simp only [apS, apN, siA, scZ, scS]))
    refine tkIx 5 19 ?_
    refine wpAnyInH_done (by decide +kernel) ?_ _
    gi_wp2
    have hbl := hIz.out.bel.size
    have hz5 := hHeld.bel.size
    refine ⟨(keepsF_below hHeld.bel).from _, KpP.below hHeld.bel (by omega) (by omega) (by omega), fun i y hi hy => ?_, hIz.out.below hHeld.bel⟩
    by_cases hik : i = k
    ·subst hik; rw [hx] at hy; cases hy; exact hex.out
    ·exact hcz.out i y (by omega) hy
   ·have hex : Hid (inX (Cal.dblP vs) x = false) := by show _ = _; unfold inX; rw [hw]; rfl
    gi_wp2
    refine wpIn_region_held_drew (S := Sx W [(w.heap.size + 1, 0, .slice Vb vs.length db), (Bx, 0, .int .i64 x.mid.x), (Bx, 1, .int .i64 x.mid.y)]) (by kernel_rfl) (Sx.mk (by simp only [cs_iff_cons]; exact ⟨b0, c0, c1, cs_nil _⟩) (Below.refl _ _)).drew (fun hHeld => ?_)
    refine tkIx 0 14 ?_
    refine tkIx 2 16 ?_
    refine tkIx 3 17 ?_
    (refine ratI 1 (fun _ => trivial) (by decide +kernel) rfl (fun K hK => ?_); rw [if_pos (by kernel_rfl)]; go_simp)
    refine ⟨trivial, ?_⟩
    refine (callsIn_wide.2 (doubled_any2 _ _ _ _ (hBW.out.below hHeld.bel))).mono ?_
    rintro e wn ⟨rfl, hD, hbn⟩
    go_simp
    replace hD := Lib.hid hD
    (refine hK.out _ _ (hHeld.step hbn) (fun hHeld => ?_); clear hK K; (try simp only [apS, apN, siA, scZ, scS]))
    (refine ratI 4 (fun _ => trivial) (by decide +kernel) rfl (fun K hK => ?_); rw [if_pos (by kernel_rfl)]; go_simp)
    refine ⟨trivial, ?_⟩
    refine (callsIn_wide.2 (where_any _ _ _ _ _ hD.out hsx.1)).mono ?_
    rintro e wn ⟨rfl, hbn⟩
    rw [hw]
    go_simp
    (refine hK.out _ _ (hHeld.step hbn) (fun hHeld => ?_); clear hK K; (try simp only [apS, apN, siA, scZ, scS]))
    refine tkIx 5 19 ?_
    refine wpAnyInH_done (by decide +kernel) ?_ _
    have hI7 := Lib.hid (hIz.out.below hHeld.bel)
    obtain ⟨rv, hrv⟩ := hI7.out.r
    have r0 := hrv.c 0 _ rfl
    have r1 := hrv.free 0 Nat.zero_lt_one
    clear hrv
    gi_wp2
    have hbl := hIz.out.bel.size
    have hlt := hIz.out.lt
    have hz5 := hHeld.bel.size
    exact ⟨((keepsF_below hHeld.bel).trans (KeepsOthers.setCell _ _ _)).from _, (KpP.below hHeld.bel (by omega) (by omega) (by omega)).trans (KpP.set _ (by omega) (by omega) (by omega) (by omega)), rfl, pcs_all_false hx hex.out, hI7.out.no⟩
  case done =>
   rintro D W hD ⟨hc, hI⟩ hK
   replace hI := Lib.hid (hI.push hK)
   replace hc := Lib.hid (pcs_all_true hc)
   replace hK := Lib.hid hK
   have a0 := hI.out.a.c 0 _ rfl
   have b0 := hI.out.b.c 0 _ rfl
   gi_wp2_with (refine ⟨trivial, ?_⟩; gi_at_call 94; refine (callsIn_wide.2 (pieces_any _ _ _ _ _ _ _)).mono ?_; rintro e w3 ⟨rfl, rfl⟩)
   have hbelW := hI.out.bel
   have bP := (BoxAt.new W #[.slice Vb vs.length db] 48).alloc (.cells #[.slice Va us.length da] 48)
   have bO := BoxAt.new (W.alloc (.cells #[.slice Vb vs.length db] 48)) #[.slice Va us.length da] 48
   have hB6 : Below W.heap.size W ((W.alloc (.cells #[.slice Vb vs.length db] 48)).alloc (.cells #[.slice Va us.length da] 48)) := below_step (below_alloc _ _) (below_alloc _ _)
   have hs6 : ((W.alloc (.cells #[.slice Vb vs.length db] 48)).alloc (.cells #[.slice Va us.length da] 48)).heap.size = W.heap.size + 2 := by simp
   simp only [World.size_alloc] at bO
   obtain ⟨W6, hW6⟩ : ∃ W6, ((W.alloc (.cells #[.slice Vb vs.length db] 48)).alloc (.cells #[.slice Va us.length da] 48)) = W6 := ⟨_, rfl⟩
   rw [hW6] at bP bO hB6 hs6 ⊢
   clear hW6
   replace hs6 : W.heap.size + 2 ≤ W6.heap.size := Nat.le_of_eq hs6.symm
   have hszW := hI.out.size
   have hltW := hI.out.lt
   have hI6 := (hI.out.below hB6).up (N' := W6.heap.size) (by omega) (Nat.le_refl _)
   clear a0 b0
   refine wpIn_range_pieces (Bp := W.heap.size) (Bo := W.heap.size + 1) (n₀ := w.heap.size) (Vp := Vb) (Vo := Va) (dp := db) (do_ := da) (ps := vs) (os := us) rfl rfl (bP.c 0 _ rfl) (bO.c 0 _ rfl) (by omega) (by omega) ((hB.v.below hbelW).below hB6) ((hA.v.below hbelW).below hB6) hB.v.own hA.v.own (by omega) hA.len hB.nd
    (WiJ w Va Vb us.length da vs.length db W6.heap.size [D] (ouX (Cal.dblP us)) (Cal.pcsP vs us)) (WiX w W6.heap.size [D] ((Cal.pcsP vs us).all (ouX (Cal.dblP us)))) (wiJ_own w Va Vb _ _ _ _ _ [D] _ _ (Nat.le_refl _)) (wiX_own w _ [D] _ (Nat.le_refl _))
    (fun k X Y h ha => ⟨h.1, h.2.abM ha⟩) (fun c k X Y h ha => ⟨h.1, h.2.1, h.2.2.belowN (ha.mono (by have := h.2.2.size; omega))⟩) ⟨fun i x hi => by omega, hI6⟩
    (fun T x By => (T.setIfInBounds 23 (.agg #[.int .i64 x.mid.x, .int .i64 x.mid.y, .int .i64 (x.of.b.x - x.of.a.x), .int .i64 (x.of.b.y - x.of.a.y)])).setIfInBounds 6 (.pointer (some ⟨By, 0, none⟩)))
    ?assign2 ?body2 ?done2 ?stop2
   case assign2 =>
    rintro l k x Y K hx ⟨hc, hI⟩ hK
    gi_wp2
    have hz := hI.size
    exact hK Y.heap.size _ hz ((KeepsOthers.alloc _ _).from _) (KpP.below (below_alloc _ _) hI.bel.size (by omega) (by omega)) ⟨hc, hI.below (below_alloc _ _)⟩ (BoxAt.new Y #[.int .i64 x.mid.x, .int .i64 x.mid.y, .int .i64 (x.of.b.x - x.of.a.x), .int .i64 (x.of.b.y - x.of.a.y)] _)
   case body2 =>
    clear hI6 hI hK hbelW hI0
    rintro l k x Bx Y hl ⟨r, hr⟩ hx ⟨hc2, hI⟩ hBx bX
    simp only [List.setIfInBounds_toArray, List.set_cons_zero, List.set_cons_succ]
    have hsx := pcs_sm hB.v.sm hA.v.sm hB.nd (List.mem_of_getElem? hx)
    have hz := hI.size
    have b0 := hI.a.c 0 _ rfl
    have c0 := bX.c 0 _ rfl
    have c1 := bX.c 1 _ rfl
    have hBW := Lib.hid (hA.v.below hI.bel)
    have hIz := Lib.hid hI
    have hcz := Lib.hid hc2
    clear hI bX hc2
    rcases whereP_cases (Cal.dblP us) x.mid with hw | hw | hw
    ·have hex : Hid (ouX (Cal.dblP us) x = false) := by show _ = _; unfold ouX; rw [hw]; rfl
     gi_wp2
     refine wpIn_region_held_drew (S := Sx Y [(w.heap.size, 0, .slice Va us.length da), (Bx, 0, .int .i64 x.mid.x), (Bx, 1, .int .i64 x.mid.y)]) (by kernel_rfl) (Sx.mk (by simp only [cs_iff_cons]; exact ⟨b0, c0, c1, cs_nil _⟩) (Below.refl _ _)).drew (fun hHeld => ?_)
     refine tkIx 0 24 ?_
     refine tkIx 2 26 ?_
     refine tkIx 3 27 ?_
     (refine ratI 1 (fun _ => trivial) (by decide +kernel) rfl (fun K hK => ?_); rw [if_pos (by kernel_rfl)]; go_simp)
     refine ⟨trivial, ?_⟩
     refine (callsIn_wide.2 (doubled_any2 _ _ _ _ (hBW.out.below hHeld.bel))).mono ?_
     rintro e wn ⟨rfl, hD, hbn⟩
     go_simp
     replace hD := Lib.hid hD
     (refine hK.out _ _ (hHeld.step hbn) (fun hHeld => ?_); clear hK K; (try simp only [apS, apN, siA, scZ, scS]))
     (refine ratI 4 (fun _ => trivial) (by decide +kernel) rfl (fun K hK => ?_); rw [if_pos (by kernel_rfl)]; go_simp)
     refine ⟨trivial, ?_⟩
     refine (callsIn_wide.2 (where_any _ _ _ _ _ hD.out hsx.1)).mono ?_
     rintro e wn ⟨rfl, hbn⟩
     rw [hw]
     go_simp
     (refine hK.out _ _ (hHeld.step hbn) (fun hHeld => ?_); clear hK K; (try simp only [apS, apN, siA, scZ, scS]))
     refine tkIx 5 29 ?_
     refine wpAnyInH_done (by decide +kernel) ?_ _
     have hI7 := Lib.hid (hIz.out.below hHeld.bel)
     obtain ⟨rv, hrv⟩ := hI7.out.r
     have r0 := hrv.c 0 _ rfl
     have r1 := hrv.free 0 Nat.zero_lt_one
     clear hrv
     gi_wp2
     have hbl := hIz.out.bel.size
     have hlt := hIz.out.lt
     have hz5 := hHeld.bel.size
     exact ⟨((keepsF_below hHeld.bel).trans (KeepsOthers.setCell _ _ _)).from _, (KpP.below hHeld.bel (by omega) (by omega) (by omega)).trans (KpP.set _ (by omega) (by omega) (by omega) (by omega)), rfl, pcs_all_false hx hex.out, hI7.out.no⟩
    ·have hex : Hid (ouX (Cal.dblP us) x = true) := by show _ = _; unfold ouX; rw [hw]; rfl
     gi_wp2
     refine wpIn_region_held_drew (S := Sx Y [(w.heap.size, 0, .slice Va us.length da), (Bx, 0, .int .i64 x.mid.x), (Bx, 1, .int .i64 x.mid.y)]) (by kernel_rfl) (Sx.mk (by simp only [cs_iff_cons]; exact ⟨b0, c0, c1, cs_nil _⟩) (Below.refl _ _)).drew (fun hHeld => ?_)
     refine tkIx 0 24 ?_
     refine tkIx 2 26 ?_
     refine tkIx 3 27 ?_
     (refine ratI 1 (fun _ => trivial) (by decide +kernel) rfl (fun K hK => ?_); rw [if_pos (by kernel_rfl)]; go_simp)
     refine ⟨trivial, ?_⟩
     refine (callsIn_wide.2 (doubled_any2 _ _ _ _ (hBW.out.below hHeld.bel))).mono ?_
     rintro e wn ⟨rfl, hD, hbn⟩
     go_simp
     replace hD := Lib.hid hD
     (refine hK.out _ _ (hHeld.step hbn) (fun hHeld => ?_); clear hK K; (try simp only [apS, apN, siA, scZ, scS]))
     (refine ratI 4 (fun _ => trivial) (by decide +kernel) rfl (fun K hK => ?_); rw [if_pos (by kernel_rfl)]; go_simp)
     refine ⟨trivial, ?_⟩
     refine (callsIn_wide.2 (where_any _ _ _ _ _ hD.out hsx.1)).mono ?_
     rintro e wn ⟨rfl, hbn⟩
     rw [hw]
     go_simp
     (refine hK.out _ _ (hHeld.step hbn) (fun hHeld => ?_); clear hK K; (try simp only [apS, apN, siA, scZ, scS]))
     refine tkIx 5 29 ?_
     refine wpAnyInH_done (by decide +kernel) ?_ _
     gi_wp2
     have hbl := hIz.out.bel.size
     have hz5 := hHeld.bel.size
     refine ⟨(keepsF_below hHeld.bel).from _, KpP.below hHeld.bel (by omega) (by omega) (by omega), fun i y hi hy => ?_, hIz.out.below hHeld.bel⟩
     by_cases hik : i = k
     ·subst hik; rw [hx] at hy; cases hy; exact hex.out
     ·exact hcz.out i y (by omega) hy
    ·have hex : Hid (ouX (Cal.dblP us) x = true) := by show _ = _; unfold ouX; rw [hw]; rfl
     gi_wp2
     refine wpIn_region_held_drew (S := Sx Y [(w.heap.size, 0, .slice Va us.length da), (Bx, 0, .int .i64 x.mid.x), (Bx, 1, .int .i64 x.mid.y)]) (by kernel_rfl) (Sx.mk (by simp only [cs_iff_cons]; exact ⟨b0, c0, c1, cs_nil _⟩) (Below.refl _ _)).drew (fun hHeld => ?_)
     refine tkIx 0 24 ?_
     refine tkIx 2 26 ?_
     refine tkIx 3 27 ?_
     (refine ratI 1 (fun _ => trivial) (by decide +kernel) rfl (fun K hK => ?_); rw [if_pos (by kernel_rfl)]; go_simp)
     refine ⟨trivial, ?_⟩
     refine (callsIn_wide.2 (doubled_any2 _ _ _ _ (hBW.out.below hHeld.bel))).mono ?_
     rintro e wn ⟨rfl, hD, hbn⟩
     go_simp
     replace hD := Lib.hid hD
     (refine hK.out _ _ (hHeld.step hbn) (fun hHeld => ?_); clear hK K; (try simp only [apS, apN, siA, scZ, scS]))
     (refine ratI 4 (fun _ => trivial) (by decide +kernel) rfl (fun K hK => ?_); rw [if_pos (by kernel_rfl)]; go_simp)
     refine ⟨trivial, ?_⟩
     refine (callsIn_wide.2 (where_any _ _ _ _ _ hD.out hsx.1)).mono ?_
     rintro e wn ⟨rfl, hbn⟩
     rw [hw]
     go_simp
     (refine hK.out _ _ (hHeld.step hbn) (fun hHeld => ?_); clear hK K; (try simp only [apS, apN, siA, scZ, scS]))
     refine tkIx 5 29 ?_
     refine wpAnyInH_done (by decide +kernel) ?_ _
     gi_wp2
     have hbl := hIz.out.bel.size
     have hz5 := hHeld.bel.size
     refine ⟨(keepsF_below hHeld.bel).from _, KpP.below hHeld.bel (by omega) (by omega) (by omega), fun i y hi hy => ?_, hIz.out.below hHeld.bel⟩
     by_cases hik : i = k
     ·subst hik; rw [hx] at hy; cases hy; exact hex.out
     ·exact hcz.out i y (by omega) hy
   case done2 =>
    rintro D2 Z hD2 ⟨hc2, hI⟩ hK2
    obtain ⟨v, hr⟩ := hI.r
    have r0 := hr.c 0 _ rfl
    have r1 := hr.free 0 Nat.zero_lt_one
    have hc3 := pcs_all_true hc2
    have hAll := Lib.hid (And.intro hc3 (And.intro hI (And.intro hK2 hr)))
    clear hc2 hc3 hI hK2 hr
    gi_wp2
    obtain ⟨hc3, hI, hK2, hr⟩ := hAll.out
    have hd := hI.dd D List.mem_cons_self
    have hlt3 := hI.lt
    have hr1 := hr.set 0 (.bool true) Nat.zero_lt_one
    have hko := KeepsOthers.setCell Z ⟨w.heap.size + 1 + 1, 0, none⟩ (.bool true)
    have hK' := hko.same D2 _ hK2 rfl
    have hK1 := hko.same D _ hd.2 rfl
    have ho' : Others (Z.setCell ⟨w.heap.size + 1 + 1, 0, none⟩ (.bool true)) (some D2) := fun r e => by cases e; exact ⟨_, hK', rfl⟩
    have hK1' : (World.putObj (Z.setCell ⟨w.heap.size + 1 + 1, 0, none⟩ (.bool true)) D2 (.deferred none)).heap[D]? = some (.deferred (some [])) := (World.putObj_heap_other (by omega)).trans hK1
    have hr2 := (hr1).keptF (grownBy_putObj' _ D2 (.deferred none)) ho'
    have ho2 : Others (World.putObj (Z.setCell ⟨w.heap.size + 1 + 1, 0, none⟩ (.bool true)) D2 (.deferred none)) (some D) := fun r e => by cases e; exact ⟨_, hK1', rfl⟩
    have q5 := (hr2.keptF (grownBy_putObj' _ D (.deferred none)) ho2).c 0 _ rfl
    refine ⟨by simp, .inl ⟨_, _, rfl, run_takeDeferred hK', by simp, .inl ⟨_, _, rfl, run_takeDeferred hK1', ?_⟩⟩⟩
    exact ⟨_, results_c1 rfl _ _ ⟨w.heap.size + 1 + 1, 0, none⟩ (.bool true) rfl (by simp [loadVar, go_sem, q5]), by rw [hc.out, hc3]; rfl, belowF_put (belowF_put (hI.bel.setCell (p := ⟨w.heap.size + 1 + 1, 0, none⟩) (show w.heap.size ≤ w.heap.size + 1 + 1 by omega) _) (by omega) _) (by omega) _⟩
   case stop2 =>
    rintro D2 c k Z hD2 hk ⟨rfl, h0, hZ⟩ hK2
    have hAll := Lib.hid (And.intro h0 (And.intro hZ hK2))
    clear h0 hZ hK2
    gi_wp2
    obtain ⟨h0, hZ, hK'⟩ := hAll.out
    have hd := hZ.dd D List.mem_cons_self
    have hlt3 := hZ.lt
    have hK1 := hd.2
    have ho' : Others Z (some D2) := fun r e => by cases e; exact ⟨_, hK', rfl⟩
    have hK1' : (World.putObj Z D2 (.deferred none)).heap[D]? = some (.deferred (some [])) := (World.putObj_heap_other (by omega)).trans hK1
    have hr2 := (hZ.r).keptF (grownBy_putObj' _ D2 (.deferred none)) ho'
    have ho2 : Others (World.putObj Z D2 (.deferred none)) (some D) := fun r e => by cases e; exact ⟨_, hK1', rfl⟩
    have q5 := (hr2.keptF (grownBy_putObj' _ D (.deferred none)) ho2).c 0 _ rfl
    refine ⟨by simp, .inl ⟨_, _, rfl, run_takeDeferred hK', by simp, .inl ⟨_, _, rfl, run_takeDeferred hK1', ?_⟩⟩⟩
    exact ⟨_, results_c1 rfl _ _ ⟨w.heap.size + 1 + 1, 0, none⟩ (.bool false) rfl (by simp [loadVar, go_sem, q5]), by rw [hc.out, h0]; rfl, belowF_put (belowF_put hZ.bel (by omega) _) (by omega) _⟩
  case stop =>
   rintro D c k W hD hk ⟨rfl, h0, hZ⟩ hK
   have hAll := Lib.hid (And.intro h0 (And.intro hZ hK))
   clear h0 hZ hK
   gi_wp2
   obtain ⟨h0, hZ, hK⟩ := hAll.out
   have ho' : Others W (some D) := fun r e => by cases e; exact ⟨_, hK, rfl⟩
   refine ⟨by simp, .inl ⟨_, _, rfl, run_takeDeferred hK, ?_⟩⟩
   have q5 := (hZ.r.keptF (grownBy_putObj' W D (.deferred none)) ho').c 0 _ rfl
   exact ⟨_, results_c1 rfl _ _ ⟨w.heap.size + 1 + 1, 0, none⟩ (.bool false) rfl (by simp [loadVar, go_sem, q5]), by rw [h0]; rfl, belowF_put hZ.bel (by omega) _⟩
 ·gi_wp2_with (refine ⟨trivial, ?_⟩; gi_at_call 84; refine (callsIn_wide.2 (crossing_any _ _ _ _ _ _ _ hAx.out.v.pts hBx.out.v.pts)).mono ?_; rintro e w2 ⟨rfl, hb2⟩; rw [h1.out]; replace hI := Lib.hid (hI.out.below hb2); clear hb2; obtain ⟨rv, hrv⟩ := hI.out.r; have r0 := hrv.c 0 _ rfl; have r1 := hrv.free 0 Nat.zero_lt_one; replace hrv := Lib.hid hrv)
  have q5 := (hrv.out.set 0 (.bool false) Nat.zero_lt_one).c 0 _ rfl
  exact ⟨_, results_c1 rfl _ _ ⟨w.heap.size + 1 + 1, 0, none⟩ (.bool false) rfl (by simp [loadVar, go_sem, q5]), rfl, hI.out.bel.setCell (p := ⟨w.heap.size + 1 + 1, 0, none⟩) (show w.heap.size ≤ w.heap.size + 1 + 1 by omega) _⟩
end Go.Proofs.Ytfcjeejhdklkdaa
