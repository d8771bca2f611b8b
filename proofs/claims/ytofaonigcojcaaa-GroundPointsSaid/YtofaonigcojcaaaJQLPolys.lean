/- The walk of a statement. -/
import Derived.Test.YtofaonigcojcaaaJ34
import Derived.Test.YtofaonigcojcaaaJ17
import Derived.Test.YtofaonigcojcaaaJ25
namespace Go.Proofs.Ytofaonigcojcaaa
open Go Go.RowKit Go.Shelf
set_option maxHeartbeats 4000000 in
theorem few2_any (V : Option Addr) (n d : Nat) (w : World) : Calls Try.prog 40 #[.slice V n d] w fun e w' => e = .returned (.bool (fewL n)) ∧ Below w.heap.size w w' := by
  by_cases hn : n ≤ 1000000
  · exact few_any V n d w hn
  · have hf : Hid (fewL n = false) := by show _ = _; unfold fewL; rw [decide_eq_false (by omega), decide_eq_false (by omega : ¬ n ≤ 60)]; simp
    have hi : ¬ (n : Int) ≤ 10 := by omega
    have hi2 : (40 : Int) < n := by omega
    have hi3 : ¬ (n : Int) ≤ 60 := by omega
    go_enter Try.func40, Try.ntmps40
    go_wp2_with fail
    go_ret
    exact ⟨by rw [hf.out]; rfl, blw⟩
theorem fewL_le {n : Nat} (h : fewL n = true) : n ≤ 60 := by
  unfold fewL at h
  rw [Bool.or_eq_true, Bool.and_eq_true, decide_eq_true_iff, decide_eq_true_iff, decide_eq_true_iff] at h
  omega
theorem ptsR_of {w : World} {V : Option Addr} {ps : List Pt} (h : RowsAt w V 2 (ps.map ptR)) (hl : ps.length ≤ 1000000) : PtsR w V ps :=
  ⟨h, hl, fun ad e h0 => by
    obtain ⟨b, o, hA, hb, _⟩ := h 0 (ptR ps[0]) (by simp [h0])
    rw [e] at hA
    cases hA
    exact hb⟩
set_option maxRecDepth 100000 in
set_option maxHeartbeats 4000000 in
theorem GroundPolygons_any (V : Option Addr) (d : Nat) (ps : List Pt) (w : World) (hR : RowsAt w V 2 (ps.map ptR)) : Calls Try.prog 10 #[.slice V ps.length d] w fun e w' => e = .returned (.bool true) ∧ Below w.heap.size w w' := by
  have hfw := Lib.hid (fun W => few2_any V ps.length d W)
  cases hf : fewL ps.length
  · rw [hf] at hfw
    clear hR hf
    go_enter Try.func10, Try.ntmps10
    go_wp2_with (go_at_call 13; refine (lawAwake_any _).mono ?_; rintro e w1 ⟨rfl, hb1⟩; replace hb1 := Lib.hid hb1)
    go_wp2_with (first
      | (go_at_call 40; refine (hfw.out _).mono ?_; rintro e w2 ⟨rfl, hb2⟩; replace hb2 := Lib.hid (below_step hb1.out hb2); clear hfw)
      | (go_at_call 37; refine (har.out _ hb2.out).mono ?_; rintro e w3 ⟨rfl, hb3⟩; replace hb3 := Lib.hid (below_step hb2.out hb3); clear har)
      | (go_at_call 41; refine (hcr.out _ hb3.out).mono ?_; rintro e w4 ⟨rfl, hb4⟩; replace hb4 := Lib.hid (below_step hb3.out hb4); clear hcr)
      | (go_at_call 42; refine (hcp.out _ hb4.out).mono ?_; rintro e w5 ⟨rfl, hb5⟩; replace hb5 := Lib.hid (below_step hb4.out hb5); clear hcp)
      | (go_at_call 43; refine (hdb.out _ hb5.out).mono ?_; rintro e w6 ⟨rfl, hb6⟩; replace hb6 := Lib.hid (below_step hb5.out hb6); clear hdb))
    go_ret
    exact ⟨rfl, hb2.out⟩
  rw [hf] at hfw
  have hP := ptsR_of hR (by have := fewL_le hf; omega)
  have har := Lib.hid (fun W (hb : Below w.heap.size w W) => Area_any V d ps W (hP.below hb))
  have hcr := Lib.hid (fun W (hb : Below w.heap.size w W) => CheckPolyR_any V d ps W (hP.below hb))
  have hcp := Lib.hid (fun W (hb : Below w.heap.size w W) => CheckPolygon_any V d ps W (hP.below hb))
  rw [Cal.polyR_eq] at hcr
  by_cases h0 : Cal.polyE ps = 0
  · have hV := hP.ptsV h0
    have hle : ps.length ≤ 40 := by
      unfold Cal.polyE at h0
      split at h0
      · cases h0
      · omega
    have hdb := Lib.hid (fun W (hb : Below w.heap.size w W) => DoubleR_any V d ps W (hV.pts.below hb) hle)
    rw [if_pos h0, h0] at har
    rw [h0] at hcr hcp
    clear hV hR hP h0 hle hf
    generalize Cal.areaP ps = Ar at *
    go_enter Try.func10, Try.ntmps10
    go_wp2_with (go_at_call 13; refine (lawAwake_any _).mono ?_; rintro e w1 ⟨rfl, hb1⟩; replace hb1 := Lib.hid hb1)
    go_wp2_with (first
      | (go_at_call 40; refine (hfw.out _).mono ?_; rintro e w2 ⟨rfl, hb2⟩; replace hb2 := Lib.hid (below_step hb1.out hb2); clear hfw)
      | (go_at_call 37; refine (har.out _ hb2.out).mono ?_; rintro e w3 ⟨rfl, hb3⟩; replace hb3 := Lib.hid (below_step hb2.out hb3); clear har)
      | (go_at_call 41; refine (hcr.out _ hb3.out).mono ?_; rintro e w4 ⟨rfl, hb4⟩; replace hb4 := Lib.hid (below_step hb3.out hb4); clear hcr)
      | (go_at_call 42; refine (hcp.out _ hb4.out).mono ?_; rintro e w5 ⟨rfl, hb5⟩; replace hb5 := Lib.hid (below_step hb4.out hb5); clear hcp)
      | (go_at_call 43; refine (hdb.out _ hb5.out).mono ?_; rintro e w6 ⟨rfl, hb6⟩; replace hb6 := Lib.hid (below_step hb5.out hb6); clear hdb))
    go_ret
    exact ⟨rfl, hb6.out⟩
  · have hb1' : (Cal.polyE ps == 0) = false := by simpa using h0
    have hb2' : (Cal.polyE ps != 0) = true := by simpa using h0
    rw [if_neg h0] at har
    clear hR hP hf
    generalize Cal.polyE ps = E at *
    go_enter Try.func10, Try.ntmps10
    go_wp2_with (go_at_call 13; refine (lawAwake_any _).mono ?_; rintro e w1 ⟨rfl, hb1⟩; replace hb1 := Lib.hid hb1)
    go_wp2_with (first
      | (go_at_call 40; refine (hfw.out _).mono ?_; rintro e w2 ⟨rfl, hb2⟩; replace hb2 := Lib.hid (below_step hb1.out hb2); clear hfw)
      | (go_at_call 37; refine (har.out _ hb2.out).mono ?_; rintro e w3 ⟨rfl, hb3⟩; replace hb3 := Lib.hid (below_step hb2.out hb3); clear har)
      | (go_at_call 41; refine (hcr.out _ hb3.out).mono ?_; rintro e w4 ⟨rfl, hb4⟩; replace hb4 := Lib.hid (below_step hb3.out hb4); clear hcr)
      | (go_at_call 42; refine (hcp.out _ hb4.out).mono ?_; rintro e w5 ⟨rfl, hb5⟩; replace hb5 := Lib.hid (below_step hb4.out hb5); clear hcp)
      | (go_at_call 43; refine (hdb.out _ hb5.out).mono ?_; rintro e w6 ⟨rfl, hb6⟩; replace hb6 := Lib.hid (below_step hb5.out hb6); clear hdb))
    go_ret
    exact ⟨rfl, hb5.out⟩
end Go.Proofs.Ytofaonigcojcaaa
