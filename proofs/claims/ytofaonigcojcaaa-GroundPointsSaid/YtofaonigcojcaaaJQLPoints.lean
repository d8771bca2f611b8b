/- The walk of a statement. -/
import Derived.Test.YtofaonigcojcaaaJQLPolys
import Derived.Test.YtofaonigcojcaaaJ35
namespace Go.Proofs.Ytofaonigcojcaaa
open Go Go.RowKit Go.Shelf
set_option maxRecDepth 100000 in
set_option maxHeartbeats 4000000 in
theorem GroundPoints_any (V : Option Addr) (d : Nat) (ps : List Pt) (q : Pt) (w : World) (hR : RowsAt w V 2 (ps.map ptR)) : Calls Try.prog 11 #[.slice V ps.length d, .agg #[.int .i64 q.x, .int .i64 q.y]] w fun e w' => e = .returned (.bool true) ∧ Below w.heap.size w w' := by
  have hfw := Lib.hid (fun W => few2_any V ps.length d W)
  have hb0 := Lib.hid (below_alloc w (.cells #[.int .i64 q.x, .int .i64 q.y] 64))
  have hQ := Lib.hid (BoxAt.new w #[.int .i64 q.x, .int .i64 q.y] 64)
  have d0 := hQ.out.c 0 _ rfl
  have d1 := hQ.out.c 1 _ rfl
  cases hf : fewL ps.length
  · rw [hf] at hfw
    clear hR hf
    go_enter Try.func11, Try.ntmps11
    go_wp2_with (go_at_call 13; refine (lawAwake_any _).mono ?_; rintro e w1 ⟨rfl, hb1⟩; (replace hQ := Lib.hid (hQ.out.below hb1); clear d0 d1; have d0 := hQ.out.c 0 _ rfl; have d1 := hQ.out.c 1 _ rfl); replace hb1 := Lib.hid (below_step hb0.out hb1))
    go_wp2_with (first
      | (go_at_call 40; refine (hfw.out _).mono ?_; rintro e w2 ⟨rfl, hb2⟩; (replace hQ := Lib.hid (hQ.out.below hb2); clear d0 d1; have d0 := hQ.out.c 0 _ rfl; have d1 := hQ.out.c 1 _ rfl); replace hb2 := Lib.hid (below_step hb1.out hb2); clear hfw)
      | (go_at_call 44; refine (hwh.out _ hb2.out).mono ?_; rintro e w3 ⟨rfl, hb3⟩; (replace hQ := Lib.hid (hQ.out.below hb3); clear d0 d1; have d0 := hQ.out.c 0 _ rfl; have d1 := hQ.out.c 1 _ rfl); replace hb3 := Lib.hid (below_step hb2.out hb3); clear hwh)
      | (go_at_call 41; refine (hcr.out _ hb3.out).mono ?_; rintro e w4 ⟨rfl, hb4⟩; (replace hQ := Lib.hid (hQ.out.below hb4); clear d0 d1; have d0 := hQ.out.c 0 _ rfl; have d1 := hQ.out.c 1 _ rfl); replace hb4 := Lib.hid (below_step hb3.out hb4); clear hcr)
      | (go_at_call 35; refine (hin.out _).mono ?_; rintro e w5 ⟨rfl, hb5⟩; (replace hQ := Lib.hid (hQ.out.below hb5); clear d0 d1; have d0 := hQ.out.c 0 _ rfl; have d1 := hQ.out.c 1 _ rfl); replace hb5 := Lib.hid (below_step hb4.out hb5); clear hin)
      | (go_at_call 45; refine (hwr.out _ hb5.out).mono ?_; rintro e w6 ⟨rfl, hb6⟩; replace hb6 := Lib.hid (below_step hb5.out hb6); clear hwr))
    go_ret
    exact ⟨rfl, hb2.out⟩
  rw [hf] at hfw
  have hP := ptsR_of hR (by have := fewL_le hf; omega)
  have hwh := Lib.hid (fun W (hb : Below w.heap.size w W) => Where_any V d ps q W (hP.below hb))
  have hcr := Lib.hid (fun W (hb : Below w.heap.size w W) => CheckPolyR_any V d ps W (hP.below hb))
  have hin := Lib.hid (fun W => InPlaceR_any q W)
  rw [Cal.polyR_eq] at hcr
  by_cases h0 : Cal.polyE ps = 0
  · have hV := hP.ptsV h0
    have hle : ps.length ≤ 40 := by
      unfold Cal.polyE at h0
      split at h0
      · cases h0
      · omega
    have hwE : whE ps q = Cal.ptErr q := by unfold whE; rw [if_pos h0]
    rw [hwE] at hwh
    rw [h0] at hcr
    by_cases h1 : Cal.ptErr q = 0
    · have hi : inPl q = true := (inPl_err q).2 h1
      have hwr := Lib.hid (fun W (hb : Below w.heap.size w W) => WhereR_any V d ps q W (hV.pts.below hb) (smP_of h1) (by omega))
      rw [if_pos h1, h1] at hwh
      rw [hi] at hin
      clear hV hP hR h0 hle hf hwE h1 hi
      generalize Cal.whereP ps q = R at *
      go_enter Try.func11, Try.ntmps11
      go_wp2_with (go_at_call 13; refine (lawAwake_any _).mono ?_; rintro e w1 ⟨rfl, hb1⟩; (replace hQ := Lib.hid (hQ.out.below hb1); clear d0 d1; have d0 := hQ.out.c 0 _ rfl; have d1 := hQ.out.c 1 _ rfl); replace hb1 := Lib.hid (below_step hb0.out hb1))
      go_wp2_with (first
        | (go_at_call 40; refine (hfw.out _).mono ?_; rintro e w2 ⟨rfl, hb2⟩; (replace hQ := Lib.hid (hQ.out.below hb2); clear d0 d1; have d0 := hQ.out.c 0 _ rfl; have d1 := hQ.out.c 1 _ rfl); replace hb2 := Lib.hid (below_step hb1.out hb2); clear hfw)
        | (go_at_call 44; refine (hwh.out _ hb2.out).mono ?_; rintro e w3 ⟨rfl, hb3⟩; (replace hQ := Lib.hid (hQ.out.below hb3); clear d0 d1; have d0 := hQ.out.c 0 _ rfl; have d1 := hQ.out.c 1 _ rfl); replace hb3 := Lib.hid (below_step hb2.out hb3); clear hwh)
        | (go_at_call 41; refine (hcr.out _ hb3.out).mono ?_; rintro e w4 ⟨rfl, hb4⟩; (replace hQ := Lib.hid (hQ.out.below hb4); clear d0 d1; have d0 := hQ.out.c 0 _ rfl; have d1 := hQ.out.c 1 _ rfl); replace hb4 := Lib.hid (below_step hb3.out hb4); clear hcr)
        | (go_at_call 35; refine (hin.out _).mono ?_; rintro e w5 ⟨rfl, hb5⟩; (replace hQ := Lib.hid (hQ.out.below hb5); clear d0 d1; have d0 := hQ.out.c 0 _ rfl; have d1 := hQ.out.c 1 _ rfl); replace hb5 := Lib.hid (below_step hb4.out hb5); clear hin)
        | (go_at_call 45; refine (hwr.out _ hb5.out).mono ?_; rintro e w6 ⟨rfl, hb6⟩; replace hb6 := Lib.hid (below_step hb5.out hb6); clear hwr))
      go_ret
      exact ⟨rfl, hb6.out⟩
    · have hi : inPl q = false := by
        cases e : inPl q
        · rfl
        · exact absurd ((inPl_err q).1 e) h1
      have h2 : Cal.ptErr q = 2 := by
        unfold Cal.ptErr at h1 ⊢
        split
        · rfl
        · rename_i h; rw [if_neg h] at h1; exact absurd rfl h1
      rw [if_neg h1, h2] at hwh
      rw [hi] at hin
      clear hV hP hR h0 hle hf hwE h1 hi h2
      go_enter Try.func11, Try.ntmps11
      go_wp2_with (go_at_call 13; refine (lawAwake_any _).mono ?_; rintro e w1 ⟨rfl, hb1⟩; (replace hQ := Lib.hid (hQ.out.below hb1); clear d0 d1; have d0 := hQ.out.c 0 _ rfl; have d1 := hQ.out.c 1 _ rfl); replace hb1 := Lib.hid (below_step hb0.out hb1))
      go_wp2_with (first
        | (go_at_call 40; refine (hfw.out _).mono ?_; rintro e w2 ⟨rfl, hb2⟩; (replace hQ := Lib.hid (hQ.out.below hb2); clear d0 d1; have d0 := hQ.out.c 0 _ rfl; have d1 := hQ.out.c 1 _ rfl); replace hb2 := Lib.hid (below_step hb1.out hb2); clear hfw)
        | (go_at_call 44; refine (hwh.out _ hb2.out).mono ?_; rintro e w3 ⟨rfl, hb3⟩; (replace hQ := Lib.hid (hQ.out.below hb3); clear d0 d1; have d0 := hQ.out.c 0 _ rfl; have d1 := hQ.out.c 1 _ rfl); replace hb3 := Lib.hid (below_step hb2.out hb3); clear hwh)
        | (go_at_call 41; refine (hcr.out _ hb3.out).mono ?_; rintro e w4 ⟨rfl, hb4⟩; (replace hQ := Lib.hid (hQ.out.below hb4); clear d0 d1; have d0 := hQ.out.c 0 _ rfl; have d1 := hQ.out.c 1 _ rfl); replace hb4 := Lib.hid (below_step hb3.out hb4); clear hcr)
        | (go_at_call 35; refine (hin.out _).mono ?_; rintro e w5 ⟨rfl, hb5⟩; (replace hQ := Lib.hid (hQ.out.below hb5); clear d0 d1; have d0 := hQ.out.c 0 _ rfl; have d1 := hQ.out.c 1 _ rfl); replace hb5 := Lib.hid (below_step hb4.out hb5); clear hin)
        | (go_at_call 45; refine (hwr.out _ hb5.out).mono ?_; rintro e w6 ⟨rfl, hb6⟩; replace hb6 := Lib.hid (below_step hb5.out hb6); clear hwr))
      go_ret
      exact ⟨rfl, hb5.out⟩
  · have hb1' : (Cal.polyE ps == 0) = false := by simpa using h0
    have hb2' : (Cal.polyE ps != 0) = true := by simpa using h0
    have hwE : whE ps q = Cal.polyE ps := by unfold whE; rw [if_neg h0]
    rw [hwE, if_neg h0] at hwh
    clear hR hP hf hwE
    generalize Cal.polyE ps = E at *
    go_enter Try.func11, Try.ntmps11
    go_wp2_with (go_at_call 13; refine (lawAwake_any _).mono ?_; rintro e w1 ⟨rfl, hb1⟩; (replace hQ := Lib.hid (hQ.out.below hb1); clear d0 d1; have d0 := hQ.out.c 0 _ rfl; have d1 := hQ.out.c 1 _ rfl); replace hb1 := Lib.hid (below_step hb0.out hb1))
    go_wp2_with (first
      | (go_at_call 40; refine (hfw.out _).mono ?_; rintro e w2 ⟨rfl, hb2⟩; (replace hQ := Lib.hid (hQ.out.below hb2); clear d0 d1; have d0 := hQ.out.c 0 _ rfl; have d1 := hQ.out.c 1 _ rfl); replace hb2 := Lib.hid (below_step hb1.out hb2); clear hfw)
      | (go_at_call 44; refine (hwh.out _ hb2.out).mono ?_; rintro e w3 ⟨rfl, hb3⟩; (replace hQ := Lib.hid (hQ.out.below hb3); clear d0 d1; have d0 := hQ.out.c 0 _ rfl; have d1 := hQ.out.c 1 _ rfl); replace hb3 := Lib.hid (below_step hb2.out hb3); clear hwh)
      | (go_at_call 41; refine (hcr.out _ hb3.out).mono ?_; rintro e w4 ⟨rfl, hb4⟩; (replace hQ := Lib.hid (hQ.out.below hb4); clear d0 d1; have d0 := hQ.out.c 0 _ rfl; have d1 := hQ.out.c 1 _ rfl); replace hb4 := Lib.hid (below_step hb3.out hb4); clear hcr)
      | (go_at_call 35; refine (hin.out _).mono ?_; rintro e w5 ⟨rfl, hb5⟩; (replace hQ := Lib.hid (hQ.out.below hb5); clear d0 d1; have d0 := hQ.out.c 0 _ rfl; have d1 := hQ.out.c 1 _ rfl); replace hb5 := Lib.hid (below_step hb4.out hb5); clear hin)
      | (go_at_call 45; refine (hwr.out _ hb5.out).mono ?_; rintro e w6 ⟨rfl, hb6⟩; replace hb6 := Lib.hid (below_step hb5.out hb6); clear hwr))
    go_ret
    exact ⟨rfl, hb4.out⟩
end Go.Proofs.Ytofaonigcojcaaa
