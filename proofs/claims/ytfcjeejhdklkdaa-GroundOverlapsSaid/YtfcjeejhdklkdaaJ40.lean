/- What the statements rest on: definitions and walks, part 40. -/
import Derived.Test.YtfcjeejhdklkdaaJ31
import Derived.Test.YtfcjeejhdklkdaaJ33
set_option maxRecDepth 100000
set_option maxHeartbeats 16000000
set_option linter.unusedSimpArgs false
set_option linter.unusedVariables false
namespace Go.Proofs.Ytfcjeejhdklkdaa
namespace Cal
open Geo (RP at' Pos In Out Off Near)
section
variable {a b : List Pt}
theorem overlap_symm (ha : polyE a = 0) (hb : polyE b = 0) : overlapP a b = overlapP b a := by
 rw [Bool.eq_iff_iff, overlap_over ha hb, overlap_over hb ha]
 exact ⟨Geo.Over.symm, Geo.Over.symm⟩
end
end Cal
end Go.Proofs.Ytfcjeejhdklkdaa
namespace Go.Proofs.Ytfcjeejhdklkdaa
open Go Go.RowKit Go.Shelf
theorem GroundOverlaps_any (V : Option Addr) (d : Nat) (a : List Pt) (V2 : Option Addr) (d2 : Nat) (c : List Pt) (w : World) (hR : RowsAt w V 2 (a.map ptR)) (hd : a.length ≤ d) (hR2 : RowsAt w V2 2 (c.map ptR)) (hd2 : c.length ≤ d2) :
  Calls Try.prog 7 #[.slice V a.length d, .slice V2 c.length d2] w fun e w' => e = .returned (.bool true) ∧ Below w.heap.size w w' := by
 have hf1 := Lib.hid (fun W => few2_any V a.length d W)
 have hf2 := Lib.hid (fun W => few2_any V2 c.length d2 W)
 cases h1 : fewL a.length
 ·rw [h1] at hf1
  clear hR hR2 hf2 h1
  go_enter Try.func7, Try.ntmps7
  go_wp2_with (first | (go_at_call 20; refine (lawAwake_any _).mono ?_; rintro e w1 ⟨rfl, hb1⟩; replace hb1 := Lib.hid hb1) | (go_at_call 26; refine (hf1.out _).mono ?_; rintro e w2 ⟨rfl, hb2⟩; replace hb2 := Lib.hid (below_step hb1.out hb2); clear hf1))
  go_ret
  exact ⟨rfl, hb2.out⟩
 cases h2 : fewL c.length
 ·rw [h1] at hf1
  rw [h2] at hf2
  clear hR hR2 h1 h2
  go_enter Try.func7, Try.ntmps7
  go_wp2_with (first | (go_at_call 20; refine (lawAwake_any _).mono ?_; rintro e w1 ⟨rfl, hb1⟩; replace hb1 := Lib.hid hb1) | (go_at_call 26; refine (hf1.out _).mono ?_; rintro e w2 ⟨rfl, hb2⟩; replace hb2 := Lib.hid (below_step hb1.out hb2); clear hf1) | (go_at_call 26; refine (hf2.out _).mono ?_; rintro e w3 ⟨rfl, hb3⟩; replace hb3 := Lib.hid (below_step hb2.out hb3); clear hf2))
  go_ret
  exact ⟨rfl, hb3.out⟩
 have hA := ptsR_of hR (by have := fewL_le h1; omega)
 have hC := ptsR_of hR2 (by have := fewL_le h2; omega)
 have hov := Lib.hid (fun W (hb : Below w.heap.size w W) => OverlapX_any V V2 d d2 a c W (hA.below hb) (hC.below hb) (few_le h1) (few_le h2))
 have hov2 := Lib.hid (fun W (hb : Below w.heap.size w W) => OverlapX_any V2 V d2 d c a W (hC.below hb) (hA.below hb) (few_le h2) (few_le h1))
 have htw := Lib.hid (fun W (hb : Below w.heap.size w W) => two_any V V2 d d2 a c W (hA.below hb) (hC.below hb))
 rw [h1] at hf1
 rw [h2] at hf2
 by_cases h0 : brdE a c = 0
 ·have hp := brdE_eq a c
  rw [h0] at hp
  have ha : Cal.polyE a = 0 := by
   split at hp
   ·assumption
   ·rename_i h; exact absurd hp.symm h
  have hc : Cal.polyE c = 0 := by rw [if_pos ha] at hp; exact hp.symm
  have h02 : brdE c a = 0 := by rw [brdE_eq, if_pos hc, ha]
  have hs := Cal.overlap_symm ha hc
  have hr : Cal.overR a c = Cal.overlapP a c := by
   rw [Bool.eq_iff_iff, Cal.overR_over (Cal.goodP_of ha) (Cal.goodP_of hc), Cal.overlap_over ha hc]
  have hpa := (hA.plg ha (few_le h1 ha)).v.pts
  have hpc := (hC.plg hc (few_le h2 hc)).v.pts
  have hrf := Lib.hid (fun W (hb : Below w.heap.size w W) => OverlapR_any V d a V2 d2 c W (hpa.below hb) hd (hpc.below hb) hd2)
  rw [hr] at hrf
  rw [h0, if_pos rfl] at hov
  rw [h02, if_pos rfl, ← hs] at hov2
  rw [h0] at htw
  clear hp ha hc h0 h02 hs hr hpa hpc hA hC hR hR2 h1 h2
  generalize Cal.overlapP a c = Z at *
  go_enter Try.func7, Try.ntmps7
  go_wp2_with (first
   |(go_at_call 20; refine (lawAwake_any _).mono ?_; rintro e w1 ⟨rfl, hb1⟩; replace hb1 := Lib.hid hb1)
   |(go_at_call 26; refine (hf1.out _).mono ?_; rintro e w2 ⟨rfl, hb2⟩; replace hb2 := Lib.hid (below_step hb1.out hb2); clear hf1)
   |(go_at_call 26; refine (hf2.out _).mono ?_; rintro e w3 ⟨rfl, hb3⟩; replace hb3 := Lib.hid (below_step hb2.out hb3); clear hf2)
   |(go_at_call 32; refine (hov.out _ hb3.out).mono ?_; clear hov; rintro e w4 ⟨rfl, hb4⟩; replace hb4 := Lib.hid (below_step hb3.out hb4))
   |(go_at_call 28; refine (htw.out _ hb4.out).mono ?_; clear htw; rintro e w5 ⟨rfl, hb5⟩; replace hb5 := Lib.hid (below_step hb4.out hb5))
   |(go_at_call 32; refine (hov2.out _ hb5.out).mono ?_; clear hov2; rintro e w6 ⟨rfl, hb6⟩; replace hb6 := Lib.hid (below_step hb5.out hb6))
   |(go_at_call 29; refine (hrf.out _ hb6.out).mono ?_; clear hrf; rintro e w7 ⟨rfl, hb7⟩; replace hb7 := Lib.hid (below_step hb6.out hb7)))
  go_ret
  exact ⟨by simp, hb7.out⟩
 ·rw [if_neg h0] at hov
  clear hA hC hR hR2 h1 h2 hov2
  have hb1' : (brdE a c == 0) = false := by simpa using h0
  have hb2' : (brdE a c != 0) = true := by simpa using h0
  generalize brdE a c = E at *
  go_enter Try.func7, Try.ntmps7
  go_wp2_with (first
   |(go_at_call 20; refine (lawAwake_any _).mono ?_; rintro e w1 ⟨rfl, hb1⟩; replace hb1 := Lib.hid hb1)
   |(go_at_call 26; refine (hf1.out _).mono ?_; rintro e w2 ⟨rfl, hb2⟩; replace hb2 := Lib.hid (below_step hb1.out hb2); clear hf1)
   |(go_at_call 26; refine (hf2.out _).mono ?_; rintro e w3 ⟨rfl, hb3⟩; replace hb3 := Lib.hid (below_step hb2.out hb3); clear hf2)
   |(go_at_call 32; refine (hov.out _ hb3.out).mono ?_; clear hov; rintro e w4 ⟨rfl, hb4⟩; replace hb4 := Lib.hid (below_step hb3.out hb4))
   |(go_at_call 28; refine (htw.out _ hb4.out).mono ?_; clear htw; rintro e w5 ⟨rfl, hb5⟩; replace hb5 := Lib.hid (below_step hb4.out hb5)))
  go_ret
  exact ⟨rfl, hb5.out⟩
end Go.Proofs.Ytfcjeejhdklkdaa
