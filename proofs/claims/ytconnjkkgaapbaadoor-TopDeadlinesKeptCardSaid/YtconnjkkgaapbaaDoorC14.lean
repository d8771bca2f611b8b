/- Chapter 8 and what it rests on: definitions and walks, part 14. -/
import Derived.Test.YtconnjkkgaapbaaDoorC13
import Derived.Test.YtconnjkkgaapbaaDoorC01
namespace Go.Proofs.YtconnjkkgaapbaaDoor
open Go Go.RowKit
structure Grad where
  t0 : Int
  t1 : Int
  t2 : Int
  p0 : Int
  p1 : Int
  p2 : Int
  m0 : Int
  m1 : Int
  m2 : Int
  m3 : Int
structure Vis where
  day : Int
  kind : Int
  tilt : Int
  push : Int
def Grad.range (g : Grad) : Bool := allB [g.t0, g.t1, g.t2] 1000 && (allB [g.p0, g.p1, g.p2] 5000 && allB [g.m0, g.m1, g.m2, g.m3] 240)
def Grad.order (g : Grad) : Bool := upB [g.t0, g.t1, g.t2] && (downB [g.p0, g.p1, g.p2] && downB [g.m0, g.m1, g.m2, g.m3])
/-- The error of a grading. -/
def Cal.gradErr (g : Grad) : Int := if g.range = true then (if g.order = true then 0 else 9) else 2
theorem BoxAt.nums {w : World} {B : Nat} {cs : List Value} (h : BoxAt w B cs) (o : Nat) (zs : List Int) (hl : zs.length ≤ 1000000) (hc : ∀ (k : Nat) z, zs[k]? = some z → cs[o + k]? = some (.int .i64 z)) : NumsAt w B o zs := ⟨fun k z hz => h.c _ _ (hc k z hz), h.lt, hl⟩
theorem gt {w : World} {B : Nat} {g : Grad} (h : BoxAt w B [.int .i64 g.t0, .int .i64 g.t1, .int .i64 g.t2, .int .i64 g.p0, .int .i64 g.p1, .int .i64 g.p2, .int .i64 g.m0, .int .i64 g.m1, .int .i64 g.m2, .int .i64 g.m3]) : NumsAt w B 0 [g.t0, g.t1, g.t2] := h.nums 0 _ (by simp) (fun k z hz => by match k, hz with | 0, hz => cases hz; rfl | 1, hz => cases hz; rfl | 2, hz => cases hz; rfl)
theorem gp {w : World} {B : Nat} {g : Grad} (h : BoxAt w B [.int .i64 g.t0, .int .i64 g.t1, .int .i64 g.t2, .int .i64 g.p0, .int .i64 g.p1, .int .i64 g.p2, .int .i64 g.m0, .int .i64 g.m1, .int .i64 g.m2, .int .i64 g.m3]) : NumsAt w B 3 [g.p0, g.p1, g.p2] := h.nums 3 _ (by simp) (fun k z hz => by match k, hz with | 0, hz => cases hz; rfl | 1, hz => cases hz; rfl | 2, hz => cases hz; rfl)
theorem gm {w : World} {B : Nat} {g : Grad} (h : BoxAt w B [.int .i64 g.t0, .int .i64 g.t1, .int .i64 g.t2, .int .i64 g.p0, .int .i64 g.p1, .int .i64 g.p2, .int .i64 g.m0, .int .i64 g.m1, .int .i64 g.m2, .int .i64 g.m3]) : NumsAt w B 6 [g.m0, g.m1, g.m2, g.m3] := h.nums 6 _ (by simp) (fun k z hz => by match k, hz with | 0, hz => cases hz; rfl | 1, hz => cases hz; rfl | 2, hz => cases hz; rfl | 3, hz => cases hz; rfl)
set_option maxRecDepth 100000 in
set_option maxHeartbeats 4000000 in
theorem CheckGrading_any (g : Grad) (w : World) : Calls Tryd.prog 8 #[.agg #[.int .i64 g.t0, .int .i64 g.t1, .int .i64 g.t2, .int .i64 g.p0, .int .i64 g.p1, .int .i64 g.p2, .int .i64 g.m0, .int .i64 g.m1, .int .i64 g.m2, .int .i64 g.m3]] w fun e w' => e = .returned (.int .i64 (Cal.gradErr g)) ∧ Below w.heap.size w w' := by
  have h1 := Lib.hid (BoxAt.new w #[.int .i64 g.t0, .int .i64 g.t1, .int .i64 g.t2, .int .i64 g.p0, .int .i64 g.p1, .int .i64 g.p2, .int .i64 g.m0, .int .i64 g.m1, .int .i64 g.m2, .int .i64 g.m3] 25)
  have hb := Lib.hid (below_alloc w (.cells #[.int .i64 g.t0, .int .i64 g.t1, .int .i64 g.t2, .int .i64 g.p0, .int .i64 g.p1, .int .i64 g.p2, .int .i64 g.m0, .int .i64 g.m1, .int .i64 g.m2, .int .i64 g.m3] 25))
  cases e1 : allB [g.t0, g.t1, g.t2] 1000
  · have hfin : Hid (Cal.gradErr g = 2) := by show _ = _; unfold Cal.gradErr Grad.range; rw [e1]; rfl
    have e1 := Lib.hid e1
    go_enter Tryd.func8, Tryd.ntmps8
    go_wp2_with fail
    refine (all_any [g.t0, g.t1, g.t2] 1000 _ 0 3 _ (gt h1.out)).mono ?_
    rintro e w9 ⟨rfl, hbn⟩
    have hb := Lib.hid (below_step hb.out hbn)
    have h1 := Lib.hid (h1.out.below hbn)
    clear hbn
    rw [e1.out]
    go_wp2_with fail
    go_ret
    exact ⟨ret_int hfin.out.symm, hb.out⟩
  have e1 := Lib.hid e1
  cases e2 : allB [g.p0, g.p1, g.p2] 5000
  · have hfin : Hid (Cal.gradErr g = 2) := by show _ = _; unfold Cal.gradErr Grad.range; rw [e1.out, e2]; rfl
    have e2 := Lib.hid e2
    go_enter Tryd.func8, Tryd.ntmps8
    go_wp2_with fail
    refine (all_any [g.t0, g.t1, g.t2] 1000 _ 0 3 _ (gt h1.out)).mono ?_
    rintro e w9 ⟨rfl, hbn⟩
    have hb := Lib.hid (below_step hb.out hbn)
    have h1 := Lib.hid (h1.out.below hbn)
    clear hbn
    rw [e1.out]
    go_wp2_with fail
    refine (all_any [g.p0, g.p1, g.p2] 5000 _ 3 3 _ (gp h1.out)).mono ?_
    rintro e w9 ⟨rfl, hbn⟩
    have hb := Lib.hid (below_step hb.out hbn)
    have h1 := Lib.hid (h1.out.below hbn)
    clear hbn
    rw [e2.out]
    go_wp2_with fail
    go_ret
    exact ⟨ret_int hfin.out.symm, hb.out⟩
  have e2 := Lib.hid e2
  cases e3 : allB [g.m0, g.m1, g.m2, g.m3] 240
  · have hfin : Hid (Cal.gradErr g = 2) := by show _ = _; unfold Cal.gradErr Grad.range; rw [e1.out, e2.out, e3]; rfl
    have e3 := Lib.hid e3
    go_enter Tryd.func8, Tryd.ntmps8
    go_wp2_with fail
    refine (all_any [g.t0, g.t1, g.t2] 1000 _ 0 3 _ (gt h1.out)).mono ?_
    rintro e w9 ⟨rfl, hbn⟩
    have hb := Lib.hid (below_step hb.out hbn)
    have h1 := Lib.hid (h1.out.below hbn)
    clear hbn
    rw [e1.out]
    go_wp2_with fail
    refine (all_any [g.p0, g.p1, g.p2] 5000 _ 3 3 _ (gp h1.out)).mono ?_
    rintro e w9 ⟨rfl, hbn⟩
    have hb := Lib.hid (below_step hb.out hbn)
    have h1 := Lib.hid (h1.out.below hbn)
    clear hbn
    rw [e2.out]
    go_wp2_with fail
    refine (all_any [g.m0, g.m1, g.m2, g.m3] 240 _ 6 4 _ (gm h1.out)).mono ?_
    rintro e w9 ⟨rfl, hbn⟩
    have hb := Lib.hid (below_step hb.out hbn)
    have h1 := Lib.hid (h1.out.below hbn)
    clear hbn
    rw [e3.out]
    go_wp2_with fail
    go_ret
    exact ⟨ret_int hfin.out.symm, hb.out⟩
  have e3 := Lib.hid e3
  have hr : Hid (g.range = true) := by show _ = _; unfold Grad.range; rw [e1.out, e2.out, e3.out]; rfl
  cases e4 : upB [g.t0, g.t1, g.t2]
  · have hfin : Hid (Cal.gradErr g = 9) := by show _ = _; unfold Cal.gradErr Grad.order; rw [if_pos hr.out, e4]; rfl
    have e4 := Lib.hid e4
    go_enter Tryd.func8, Tryd.ntmps8
    go_wp2_with fail
    refine (all_any [g.t0, g.t1, g.t2] 1000 _ 0 3 _ (gt h1.out)).mono ?_
    rintro e w9 ⟨rfl, hbn⟩
    have hb := Lib.hid (below_step hb.out hbn)
    have h1 := Lib.hid (h1.out.below hbn)
    clear hbn
    rw [e1.out]
    go_wp2_with fail
    refine (all_any [g.p0, g.p1, g.p2] 5000 _ 3 3 _ (gp h1.out)).mono ?_
    rintro e w9 ⟨rfl, hbn⟩
    have hb := Lib.hid (below_step hb.out hbn)
    have h1 := Lib.hid (h1.out.below hbn)
    clear hbn
    rw [e2.out]
    go_wp2_with fail
    refine (all_any [g.m0, g.m1, g.m2, g.m3] 240 _ 6 4 _ (gm h1.out)).mono ?_
    rintro e w9 ⟨rfl, hbn⟩
    have hb := Lib.hid (below_step hb.out hbn)
    have h1 := Lib.hid (h1.out.below hbn)
    clear hbn
    rw [e3.out]
    go_wp2_with fail
    refine (IsSorted_any [g.t0, g.t1, g.t2] _ 0 3 _ (gt h1.out)).mono ?_
    rintro e w9 ⟨rfl, hbn⟩
    have hb := Lib.hid (below_step hb.out hbn)
    have h1 := Lib.hid (h1.out.below hbn)
    clear hbn
    rw [e4.out]
    go_wp2_with fail
    go_ret
    exact ⟨ret_int hfin.out.symm, hb.out⟩
  have e4 := Lib.hid e4
  cases e5 : downB [g.p0, g.p1, g.p2]
  · have hfin : Hid (Cal.gradErr g = 9) := by show _ = _; unfold Cal.gradErr Grad.order; rw [if_pos hr.out, e4.out, e5]; rfl
    have e5 := Lib.hid e5
    go_enter Tryd.func8, Tryd.ntmps8
    go_wp2_with fail
    refine (all_any [g.t0, g.t1, g.t2] 1000 _ 0 3 _ (gt h1.out)).mono ?_
    rintro e w9 ⟨rfl, hbn⟩
    have hb := Lib.hid (below_step hb.out hbn)
    have h1 := Lib.hid (h1.out.below hbn)
    clear hbn
    rw [e1.out]
    go_wp2_with fail
    refine (all_any [g.p0, g.p1, g.p2] 5000 _ 3 3 _ (gp h1.out)).mono ?_
    rintro e w9 ⟨rfl, hbn⟩
    have hb := Lib.hid (below_step hb.out hbn)
    have h1 := Lib.hid (h1.out.below hbn)
    clear hbn
    rw [e2.out]
    go_wp2_with fail
    refine (all_any [g.m0, g.m1, g.m2, g.m3] 240 _ 6 4 _ (gm h1.out)).mono ?_
    rintro e w9 ⟨rfl, hbn⟩
    have hb := Lib.hid (below_step hb.out hbn)
    have h1 := Lib.hid (h1.out.below hbn)
    clear hbn
    rw [e3.out]
    go_wp2_with fail
    refine (IsSorted_any [g.t0, g.t1, g.t2] _ 0 3 _ (gt h1.out)).mono ?_
    rintro e w9 ⟨rfl, hbn⟩
    have hb := Lib.hid (below_step hb.out hbn)
    have h1 := Lib.hid (h1.out.below hbn)
    clear hbn
    rw [e4.out]
    go_wp2_with fail
    refine (falls_any [g.p0, g.p1, g.p2] _ 3 3 _ (gp h1.out)).mono ?_
    rintro e w9 ⟨rfl, hbn⟩
    have hb := Lib.hid (below_step hb.out hbn)
    have h1 := Lib.hid (h1.out.below hbn)
    clear hbn
    rw [e5.out]
    go_wp2_with fail
    go_ret
    exact ⟨ret_int hfin.out.symm, hb.out⟩
  have e5 := Lib.hid e5
  cases e6 : downB [g.m0, g.m1, g.m2, g.m3]
  · have hfin : Hid (Cal.gradErr g = 9) := by show _ = _; unfold Cal.gradErr Grad.order; rw [if_pos hr.out, e4.out, e5.out, e6]; rfl
    have e6 := Lib.hid e6
    go_enter Tryd.func8, Tryd.ntmps8
    go_wp2_with fail
    refine (all_any [g.t0, g.t1, g.t2] 1000 _ 0 3 _ (gt h1.out)).mono ?_
    rintro e w9 ⟨rfl, hbn⟩
    have hb := Lib.hid (below_step hb.out hbn)
    have h1 := Lib.hid (h1.out.below hbn)
    clear hbn
    rw [e1.out]
    go_wp2_with fail
    refine (all_any [g.p0, g.p1, g.p2] 5000 _ 3 3 _ (gp h1.out)).mono ?_
    rintro e w9 ⟨rfl, hbn⟩
    have hb := Lib.hid (below_step hb.out hbn)
    have h1 := Lib.hid (h1.out.below hbn)
    clear hbn
    rw [e2.out]
    go_wp2_with fail
    refine (all_any [g.m0, g.m1, g.m2, g.m3] 240 _ 6 4 _ (gm h1.out)).mono ?_
    rintro e w9 ⟨rfl, hbn⟩
    have hb := Lib.hid (below_step hb.out hbn)
    have h1 := Lib.hid (h1.out.below hbn)
    clear hbn
    rw [e3.out]
    go_wp2_with fail
    refine (IsSorted_any [g.t0, g.t1, g.t2] _ 0 3 _ (gt h1.out)).mono ?_
    rintro e w9 ⟨rfl, hbn⟩
    have hb := Lib.hid (below_step hb.out hbn)
    have h1 := Lib.hid (h1.out.below hbn)
    clear hbn
    rw [e4.out]
    go_wp2_with fail
    refine (falls_any [g.p0, g.p1, g.p2] _ 3 3 _ (gp h1.out)).mono ?_
    rintro e w9 ⟨rfl, hbn⟩
    have hb := Lib.hid (below_step hb.out hbn)
    have h1 := Lib.hid (h1.out.below hbn)
    clear hbn
    rw [e5.out]
    go_wp2_with fail
    refine (falls_any [g.m0, g.m1, g.m2, g.m3] _ 6 4 _ (gm h1.out)).mono ?_
    rintro e w9 ⟨rfl, hbn⟩
    have hb := Lib.hid (below_step hb.out hbn)
    have h1 := Lib.hid (h1.out.below hbn)
    clear hbn
    rw [e6.out]
    go_wp2_with fail
    go_ret
    exact ⟨ret_int hfin.out.symm, hb.out⟩
  · have hfin : Hid (Cal.gradErr g = 0) := by show _ = _; unfold Cal.gradErr Grad.order; rw [if_pos hr.out, e4.out, e5.out, e6]; rfl
    have e6 := Lib.hid e6
    go_enter Tryd.func8, Tryd.ntmps8
    go_wp2_with fail
    refine (all_any [g.t0, g.t1, g.t2] 1000 _ 0 3 _ (gt h1.out)).mono ?_
    rintro e w9 ⟨rfl, hbn⟩
    have hb := Lib.hid (below_step hb.out hbn)
    have h1 := Lib.hid (h1.out.below hbn)
    clear hbn
    rw [e1.out]
    go_wp2_with fail
    refine (all_any [g.p0, g.p1, g.p2] 5000 _ 3 3 _ (gp h1.out)).mono ?_
    rintro e w9 ⟨rfl, hbn⟩
    have hb := Lib.hid (below_step hb.out hbn)
    have h1 := Lib.hid (h1.out.below hbn)
    clear hbn
    rw [e2.out]
    go_wp2_with fail
    refine (all_any [g.m0, g.m1, g.m2, g.m3] 240 _ 6 4 _ (gm h1.out)).mono ?_
    rintro e w9 ⟨rfl, hbn⟩
    have hb := Lib.hid (below_step hb.out hbn)
    have h1 := Lib.hid (h1.out.below hbn)
    clear hbn
    rw [e3.out]
    go_wp2_with fail
    refine (IsSorted_any [g.t0, g.t1, g.t2] _ 0 3 _ (gt h1.out)).mono ?_
    rintro e w9 ⟨rfl, hbn⟩
    have hb := Lib.hid (below_step hb.out hbn)
    have h1 := Lib.hid (h1.out.below hbn)
    clear hbn
    rw [e4.out]
    go_wp2_with fail
    refine (falls_any [g.p0, g.p1, g.p2] _ 3 3 _ (gp h1.out)).mono ?_
    rintro e w9 ⟨rfl, hbn⟩
    have hb := Lib.hid (below_step hb.out hbn)
    have h1 := Lib.hid (h1.out.below hbn)
    clear hbn
    rw [e5.out]
    go_wp2_with fail
    refine (falls_any [g.m0, g.m1, g.m2, g.m3] _ 6 4 _ (gm h1.out)).mono ?_
    rintro e w9 ⟨rfl, hbn⟩
    have hb := Lib.hid (below_step hb.out hbn)
    have h1 := Lib.hid (h1.out.below hbn)
    clear hbn
    rw [e6.out]
    go_wp2_with fail
    go_ret
    exact ⟨ret_int hfin.out.symm, hb.out⟩
end Go.Proofs.YtconnjkkgaapbaaDoor
namespace Go.Proofs.YtconnjkkgaapbaaDoor
open Go Go.RowKit Go.ChangeShapes Go.WideShapes Go.Deep
section
variable {H : Type} {enc : TypeId × Value → H} {w : World} {spare : Nat → Bool} {held : Bool} {r : Reach} {b0 : Nat} {v : Value} {d : DataW H} {ps : List MemPlace}
set_option maxRecDepth 100000 in
theorem visit_of_open (hval : Value.okWide Tryd.prog w r b0 27 v) (h : DataW.Trod enc Tryd.prog w 0 spare held 27 v d ps) : ∃ z : Vis, v = .agg #[.int .i64 z.day, .int .i64 z.kind, .int .i64 z.tilt, .int .i64 z.push] := by
  have hu := Tryd.underlying27
  unfold Value.okWide at hval
  rw [hu] at hval
  obtain ⟨cs, rfl, hcs, _⟩ := hval
  obtain ⟨fuel, hf⟩ := h
  obtain ⟨m, xs, hlen, hxl, hi⟩ := trod_cells hu (by kernel_rfl) hf
  have h0 := hi 0 _ rfl
  have h1 := hi 1 _ rfl
  have h2 := hi 2 _ rfl
  have h3 := hi 3 _ rfl
  rw [show Tryd.prog.cellsOf 27 = 4 by kernel_rfl] at hcs
  obtain ⟨l⟩ := cs
  match l, hcs with
  | [a, b, c, e], _ =>
    match xs, hxl with
    | [y0, y1, y2, y3], _ =>
      simp [Value.cells] at h0 h1 h2 h3
      obtain ⟨s0, e0, _, _⟩ := DataW.trod_int Tryd.underlying3 h0
      obtain ⟨s1, e1, _, _⟩ := DataW.trod_int Tryd.underlying3 h1
      obtain ⟨s2, e2, _, _⟩ := DataW.trod_int Tryd.underlying3 h2
      obtain ⟨s3, e3, _, _⟩ := DataW.trod_int Tryd.underlying3 h3
      cases e0; cases e1; cases e2; cases e3
      exact ⟨⟨s0, s1, s2, s3⟩, rfl⟩
set_option maxRecDepth 100000 in
theorem tri_of_trod {fuel : Nat} {x : DataW H × List MemPlace} {a b c : Value} (hf : DataW.trod enc Tryd.prog w 0 spare held fuel 22 [a, b, c] = some x) : ∃ i j k : Int, a = .int .i64 i ∧ b = .int .i64 j ∧ c = .int .i64 k := by
  have hu := Tryd.underlying22
  obtain ⟨xs, m, _, _, hlen, hxl, hi⟩ := DataW.trod_array hu hf
  have h0 := hi 0 (by decide)
  have h1 := hi 1 (by decide)
  have h2 := hi 2 (by decide)
  rw [show Tryd.prog.cellsOf 3 = 1 by kernel_rfl] at h0 h1 h2
  match xs, hxl with
  | [y0, y1, y2], _ =>
    simp at h0 h1 h2
    obtain ⟨s0, e0, _, _⟩ := DataW.trod_int Tryd.underlying3 h0
    obtain ⟨s1, e1, _, _⟩ := DataW.trod_int Tryd.underlying3 h1
    obtain ⟨s2, e2, _, _⟩ := DataW.trod_int Tryd.underlying3 h2
    cases e0; cases e1; cases e2
    exact ⟨s0, s1, s2, rfl, rfl, rfl⟩
set_option maxRecDepth 100000 in
theorem quad_of_trod {fuel : Nat} {x : DataW H × List MemPlace} {a b c e : Value} (hf : DataW.trod enc Tryd.prog w 0 spare held fuel 23 [a, b, c, e] = some x) : ∃ i j k l : Int, a = .int .i64 i ∧ b = .int .i64 j ∧ c = .int .i64 k ∧ e = .int .i64 l := by
  have hu := Tryd.underlying23
  obtain ⟨xs, m, _, _, hlen, hxl, hi⟩ := DataW.trod_array hu hf
  have h0 := hi 0 (by decide)
  have h1 := hi 1 (by decide)
  have h2 := hi 2 (by decide)
  have h3 := hi 3 (by decide)
  rw [show Tryd.prog.cellsOf 3 = 1 by kernel_rfl] at h0 h1 h2 h3
  match xs, hxl with
  | [y0, y1, y2, y3], _ =>
    simp at h0 h1 h2 h3
    obtain ⟨s0, e0, _, _⟩ := DataW.trod_int Tryd.underlying3 h0
    obtain ⟨s1, e1, _, _⟩ := DataW.trod_int Tryd.underlying3 h1
    obtain ⟨s2, e2, _, _⟩ := DataW.trod_int Tryd.underlying3 h2
    obtain ⟨s3, e3, _, _⟩ := DataW.trod_int Tryd.underlying3 h3
    cases e0; cases e1; cases e2; cases e3
    exact ⟨s0, s1, s2, s3, rfl, rfl, rfl, rfl⟩
set_option maxRecDepth 100000 in
theorem grad_of_open (hval : Value.okWide Tryd.prog w r b0 25 v) (h : DataW.Trod enc Tryd.prog w 0 spare held 25 v d ps) : ∃ g : Grad, v = .agg #[.int .i64 g.t0, .int .i64 g.t1, .int .i64 g.t2, .int .i64 g.p0, .int .i64 g.p1, .int .i64 g.p2, .int .i64 g.m0, .int .i64 g.m1, .int .i64 g.m2, .int .i64 g.m3] := by
  have hu := Tryd.underlying25
  unfold Value.okWide at hval
  rw [hu] at hval
  obtain ⟨cs, rfl, hcs, _⟩ := hval
  obtain ⟨fuel, hf⟩ := h
  obtain ⟨xs, n, _, _, _, hxl, hi⟩ := DataW.trod_struct hu hf
  have h0 : DataW.trod enc Tryd.prog w 0 spare held n 22 (((Value.agg cs).cells.toList.drop 0).take (Tryd.prog.cellsOf 22)) = xs[0]? := hi 0 _ rfl
  have h1 : DataW.trod enc Tryd.prog w 0 spare held n 22 (((Value.agg cs).cells.toList.drop 3).take (Tryd.prog.cellsOf 22)) = xs[1]? := hi 1 _ rfl
  have h2 : DataW.trod enc Tryd.prog w 0 spare held n 23 (((Value.agg cs).cells.toList.drop 6).take (Tryd.prog.cellsOf 23)) = xs[2]? := hi 2 _ rfl
  rw [show Tryd.prog.cellsOf 25 = 10 by kernel_rfl] at hcs
  rw [show Tryd.prog.cellsOf 22 = 3 by kernel_rfl] at h0 h1
  rw [show Tryd.prog.cellsOf 23 = 4 by kernel_rfl] at h2
  obtain ⟨l⟩ := cs
  match l, hcs with
  | [a0, a1, a2, a3, a4, a5, a6, a7, a8, a9], _ =>
    match xs, hxl with
    | [y0, y1, y2], _ =>
      simp [Value.cells] at h0 h1 h2
      obtain ⟨i0, i1, i2, e0, e1, e2⟩ := tri_of_trod h0
      obtain ⟨i3, i4, i5, e3, e4, e5⟩ := tri_of_trod h1
      obtain ⟨i6, i7, i8, i9, e6, e7, e8, e9⟩ := quad_of_trod h2
      subst e0 e1 e2 e3 e4 e5 e6 e7 e8 e9
      exact ⟨⟨i0, i1, i2, i3, i4, i5, i6, i7, i8, i9⟩, rfl⟩
end
end Go.Proofs.YtconnjkkgaapbaaDoor
