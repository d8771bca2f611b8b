/- The walk of a statement. -/
import Derived.Test.YtconnjkkgaapbaaDoorC19
import Derived.Test.YtconnjkkgaapbaaDoorC21
namespace Go.Proofs.YtconnjkkgaapbaaDoor
open Go Go.RowKit
theorem Cal.grade_mono {g : Grad} {v u : Vis} (hv : v.kind = 0) (hu : u.kind = 0) (h1 : v.tilt ≤ u.tilt) (h2 : u.push ≤ v.push) : Cal.gradeS g v ≤ Cal.gradeS g u := by
  unfold Cal.gradeS
  rw [if_pos hv, if_pos hu]
  by_cases q3 : g.t2 ≤ v.tilt ∨ v.push ≤ g.p2
  · rw [if_pos q3, if_pos (by omega)]; omega
  · rw [if_neg q3]
    by_cases q2 : g.t1 ≤ v.tilt ∨ v.push ≤ g.p1
    · rw [if_pos q2]
      split
      · omega
      · rw [if_pos (by omega)]; omega
    · rw [if_neg q2]
      by_cases q1 : g.t0 ≤ v.tilt ∨ v.push ≤ g.p0
      · rw [if_pos q1]
        split
        · omega
        · split
          · omega
          · rw [if_pos (by omega)]; omega
      · rw [if_neg q1]
        split
        · omega
        · split
          · omega
          · split <;> omega
theorem Cal.gradeOf_kind {g : Grad} {u : Vis} {y : Int} (h : Cal.gradeOfS g u = (y, 0)) : u.kind = 0 ∧ y = Cal.gradeS g u := by
  unfold Cal.gradeOfS at h
  split at h
  · split at h
    · split at h
      · rename_i hk; exact ⟨hk, (Prod.mk.inj h).1.symm⟩
      · exact absurd (Prod.mk.inj h).2 (by omega)
    · rename_i hk; exact absurd (Prod.mk.inj h).2 hk
  · rename_i hk; exact absurd (Prod.mk.inj h).2 hk
theorem start3g (w : World) (g : Grad) (v u : Vis) : Hid (BoxAt (((w.alloc (.cells #[.int .i64 g.t0, .int .i64 g.t1, .int .i64 g.t2, .int .i64 g.p0, .int .i64 g.p1, .int .i64 g.p2, .int .i64 g.m0, .int .i64 g.m1, .int .i64 g.m2, .int .i64 g.m3] 25)).alloc (.cells #[.int .i64 v.day, .int .i64 v.kind, .int .i64 v.tilt, .int .i64 v.push] 27)).alloc (.cells #[.int .i64 u.day, .int .i64 u.kind, .int .i64 u.tilt, .int .i64 u.push] 27)) w.heap.size [.int .i64 g.t0, .int .i64 g.t1, .int .i64 g.t2, .int .i64 g.p0, .int .i64 g.p1, .int .i64 g.p2, .int .i64 g.m0, .int .i64 g.m1, .int .i64 g.m2, .int .i64 g.m3]) ∧ Hid (BoxAt (((w.alloc (.cells #[.int .i64 g.t0, .int .i64 g.t1, .int .i64 g.t2, .int .i64 g.p0, .int .i64 g.p1, .int .i64 g.p2, .int .i64 g.m0, .int .i64 g.m1, .int .i64 g.m2, .int .i64 g.m3] 25)).alloc (.cells #[.int .i64 v.day, .int .i64 v.kind, .int .i64 v.tilt, .int .i64 v.push] 27)).alloc (.cells #[.int .i64 u.day, .int .i64 u.kind, .int .i64 u.tilt, .int .i64 u.push] 27)) (w.heap.size + 1) [.int .i64 v.day, .int .i64 v.kind, .int .i64 v.tilt, .int .i64 v.push]) ∧ Hid (BoxAt (((w.alloc (.cells #[.int .i64 g.t0, .int .i64 g.t1, .int .i64 g.t2, .int .i64 g.p0, .int .i64 g.p1, .int .i64 g.p2, .int .i64 g.m0, .int .i64 g.m1, .int .i64 g.m2, .int .i64 g.m3] 25)).alloc (.cells #[.int .i64 v.day, .int .i64 v.kind, .int .i64 v.tilt, .int .i64 v.push] 27)).alloc (.cells #[.int .i64 u.day, .int .i64 u.kind, .int .i64 u.tilt, .int .i64 u.push] 27)) (w.heap.size + 1 + 1) [.int .i64 u.day, .int .i64 u.kind, .int .i64 u.tilt, .int .i64 u.push]) ∧ Hid (Below w.heap.size w (((w.alloc (.cells #[.int .i64 g.t0, .int .i64 g.t1, .int .i64 g.t2, .int .i64 g.p0, .int .i64 g.p1, .int .i64 g.p2, .int .i64 g.m0, .int .i64 g.m1, .int .i64 g.m2, .int .i64 g.m3] 25)).alloc (.cells #[.int .i64 v.day, .int .i64 v.kind, .int .i64 v.tilt, .int .i64 v.push] 27)).alloc (.cells #[.int .i64 u.day, .int .i64 u.kind, .int .i64 u.tilt, .int .i64 u.push] 27))) := by
  have h2 := (BoxAt.new (w.alloc (.cells #[.int .i64 g.t0, .int .i64 g.t1, .int .i64 g.t2, .int .i64 g.p0, .int .i64 g.p1, .int .i64 g.p2, .int .i64 g.m0, .int .i64 g.m1, .int .i64 g.m2, .int .i64 g.m3] 25)) #[.int .i64 v.day, .int .i64 v.kind, .int .i64 v.tilt, .int .i64 v.push] 27).alloc (.cells #[.int .i64 u.day, .int .i64 u.kind, .int .i64 u.tilt, .int .i64 u.push] 27)
  rw [World.size_alloc] at h2
  have h3 := BoxAt.new ((w.alloc (.cells #[.int .i64 g.t0, .int .i64 g.t1, .int .i64 g.t2, .int .i64 g.p0, .int .i64 g.p1, .int .i64 g.p2, .int .i64 g.m0, .int .i64 g.m1, .int .i64 g.m2, .int .i64 g.m3] 25)).alloc (.cells #[.int .i64 v.day, .int .i64 v.kind, .int .i64 v.tilt, .int .i64 v.push] 27)) #[.int .i64 u.day, .int .i64 u.kind, .int .i64 u.tilt, .int .i64 u.push] 27
  rw [World.size_alloc, World.size_alloc] at h3
  exact ⟨((BoxAt.new w _ _).alloc _).alloc _, h2, h3, below_step (below_step (below_alloc _ _) (below_alloc _ _)) (below_alloc _ _)⟩
/-- A grading that is loaded whole, behind a guard that lets it. -/
theorem wpGr {ops : Array Oper} {rest : List Oper} {op : Oper} {a : Act} {w : World} {Q : Exit → Act → World → Prop} {B : Nat} {g : Grad} (h : BoxAt w B [.int .i64 g.t0, .int .i64 g.t1, .int .i64 g.t2, .int .i64 g.p0, .int .i64 g.p1, .int .i64 g.p2, .int .i64 g.m0, .int .i64 g.m1, .int .i64 g.m2, .int .i64 g.m3]) (x : Operand) (hx : a.eval x = .pointer (some ⟨B, 0, none⟩))
    (k : wpList Tryd.prog ops Q rest (a.put op.dst (.agg #[.int .i64 g.t0, .int .i64 g.t1, .int .i64 g.t2, .int .i64 g.p0, .int .i64 g.p1, .int .i64 g.p2, .int .i64 g.m0, .int .i64 g.m1, .int .i64 g.m2, .int .i64 g.m3])) w) (ho : op.op = .load 25 x := by exact rfl) (hw : Region.wanted op (yielded ops a.tmps) = true := by kernel_rfl) : wpList Tryd.prog ops Q (op :: rest) a w :=
  BigFrame.wpList_want hw fun _ hK => wp_load_mid 25 x ho B 0 hx [.int .i64 g.t0, .int .i64 g.t1, .int .i64 g.t2, .int .i64 g.p0, .int .i64 g.p1, .int .i64 g.p2, .int .i64 g.m0, .int .i64 g.m1, .int .i64 g.m2, .int .i64 g.m3] _ h.range Tryd.underlying25 rfl grSize (hK _ _ k)
set_option maxRecDepth 100000 in
set_option maxHeartbeats 8000000 in
theorem NoticeGradings_any (g : Grad) (v u : Vis) (w : World) (hT : Tab w) :
    Calls Tryd.prog 3 #[.agg #[.int .i64 g.t0, .int .i64 g.t1, .int .i64 g.t2, .int .i64 g.p0, .int .i64 g.p1, .int .i64 g.p2, .int .i64 g.m0, .int .i64 g.m1, .int .i64 g.m2, .int .i64 g.m3], .agg #[.int .i64 v.day, .int .i64 v.kind, .int .i64 v.tilt, .int .i64 v.push], .agg #[.int .i64 u.day, .int .i64 u.kind, .int .i64 u.tilt, .int .i64 u.push]] w fun e w' => e = .returned (.bool true) ∧ Below w.heap.size w w' := by
  have hT := Lib.hid hT
  obtain ⟨E, hE⟩ : ∃ E, Cal.gradErr g = E := ⟨_, rfl⟩
  have hEz := Lib.hid hE
  have hEE : (E != E) = false := by simp
  by_cases h0 : E = 0
  · subst h0
    obtain ⟨V, hV⟩ : ∃ V, Cal.visErr v = V := ⟨_, rfl⟩
    have hVz := Lib.hid hV
    by_cases hv0 : V = 0
    · subst hv0
      by_cases hk : v.kind = 0
      · have hkb : (v.kind != 0) = false := by simpa using hk
        obtain ⟨x, hx⟩ : ∃ x, Cal.gradeS g v = x := ⟨_, rfl⟩
        have hxz := Lib.hid hx
        have hof : Hid (Cal.gradeOfS g v = (x, 0)) := by show _ = _; unfold Cal.gradeOfS; rw [if_pos hE, if_pos hV, if_pos hk, hx]
        have hxx : (x != x) = false := by simp
        rcases hu : Cal.gradeOfS g u with ⟨y, H⟩
        have hou := Lib.hid hu
        by_cases hH : H = 0
        · subst hH
          by_cases h1 : u.tilt < v.tilt
          · have q1 : decide (u.tilt < v.tilt) = true := by simpa using h1
            clear h1 hu hx hk hV hE
            obtain ⟨g1, g2, g3, hb⟩ := start3g w g v u
            have c0 := g2.out.c 0 _ rfl
            have c1 := g2.out.c 1 _ rfl
            have c2 := g2.out.c 2 _ rfl
            have c3 := g2.out.c 3 _ rfl
            have d0 := g3.out.c 0 _ rfl
            have d1 := g3.out.c 1 _ rfl
            have d2 := g3.out.c 2 _ rfl
            have d3 := g3.out.c 3 _ rfl
            go_enter Tryd.func3, Tryd.ntmps3
            go_wp2_with fail
            refine (nawake_any _ (hT.out.below hb.out)).mono ?_
            rintro e w1 ⟨rfl, hbn⟩
            have g1 := Lib.hid (g1.out.below hbn)
            have g2 := Lib.hid (g2.out.below hbn)
            have g3 := Lib.hid (g3.out.below hbn)
            have hb := Lib.hid (below_step hb.out hbn)
            clear hbn c0 c1 c2 c3 d0 d1 d2 d3
            have c0 := g2.out.c 0 _ rfl
            have c1 := g2.out.c 1 _ rfl
            have c2 := g2.out.c 2 _ rfl
            have c3 := g2.out.c 3 _ rfl
            have d0 := g3.out.c 0 _ rfl
            have d1 := g3.out.c 1 _ rfl
            have d2 := g3.out.c 2 _ rfl
            have d3 := g3.out.c 3 _ rfl
            go_wp2_with (refine wpGr g1.out (.tmp 3) rfl ?_)
            refine (CheckGradingR_any g _).mono ?_
            rintro e wn ⟨he, hbn⟩
            subst he
            rw [hEz.out]
            have g1 := Lib.hid (g1.out.below hbn)
            have g2 := Lib.hid (g2.out.below hbn)
            have g3 := Lib.hid (g3.out.below hbn)
            have hb := Lib.hid (below_step hb.out hbn)
            clear hbn c0 c1 c2 c3 d0 d1 d2 d3
            have c0 := g2.out.c 0 _ rfl
            have c1 := g2.out.c 1 _ rfl
            have c2 := g2.out.c 2 _ rfl
            have c3 := g2.out.c 3 _ rfl
            have d0 := g3.out.c 0 _ rfl
            have d1 := g3.out.c 1 _ rfl
            have d2 := g3.out.c 2 _ rfl
            have d3 := g3.out.c 3 _ rfl
            go_wp2_with (refine wpGr g1.out (.tmp 3) rfl ?_)
            refine (GradeOf_any g v _).mono ?_
            rintro e wn ⟨he, hbn⟩
            rw [hof.out] at he
            subst he
            have g1 := Lib.hid (g1.out.below hbn)
            have g2 := Lib.hid (g2.out.below hbn)
            have g3 := Lib.hid (g3.out.below hbn)
            have hb := Lib.hid (below_step hb.out hbn)
            clear hbn c0 c1 c2 c3 d0 d1 d2 d3
            have c0 := g2.out.c 0 _ rfl
            have c1 := g2.out.c 1 _ rfl
            have c2 := g2.out.c 2 _ rfl
            have c3 := g2.out.c 3 _ rfl
            have d0 := g3.out.c 0 _ rfl
            have d1 := g3.out.c 1 _ rfl
            have d2 := g3.out.c 2 _ rfl
            have d3 := g3.out.c 3 _ rfl
            go_wp2_with (refine wpGr g1.out (.tmp 3) rfl ?_)
            refine (CheckGrading_any g _).mono ?_
            rintro e wn ⟨he, hbn⟩
            subst he
            rw [hEz.out]
            have g1 := Lib.hid (g1.out.below hbn)
            have g2 := Lib.hid (g2.out.below hbn)
            have g3 := Lib.hid (g3.out.below hbn)
            have hb := Lib.hid (below_step hb.out hbn)
            clear hbn c0 c1 c2 c3 d0 d1 d2 d3
            have c0 := g2.out.c 0 _ rfl
            have c1 := g2.out.c 1 _ rfl
            have c2 := g2.out.c 2 _ rfl
            have c3 := g2.out.c 3 _ rfl
            have d0 := g3.out.c 0 _ rfl
            have d1 := g3.out.c 1 _ rfl
            have d2 := g3.out.c 2 _ rfl
            have d3 := g3.out.c 3 _ rfl
            go_wp2_with (refine wpGr g1.out (.tmp 3) rfl ?_)
            refine (VisitErrR_any v _).mono ?_
            rintro e wn ⟨he, hbn⟩
            subst he
            rw [hVz.out]
            have g1 := Lib.hid (g1.out.below hbn)
            have g2 := Lib.hid (g2.out.below hbn)
            have g3 := Lib.hid (g3.out.below hbn)
            have hb := Lib.hid (below_step hb.out hbn)
            clear hbn c0 c1 c2 c3 d0 d1 d2 d3
            have c0 := g2.out.c 0 _ rfl
            have c1 := g2.out.c 1 _ rfl
            have c2 := g2.out.c 2 _ rfl
            have c3 := g2.out.c 3 _ rfl
            have d0 := g3.out.c 0 _ rfl
            have d1 := g3.out.c 1 _ rfl
            have d2 := g3.out.c 2 _ rfl
            have d3 := g3.out.c 3 _ rfl
            go_wp2_with (refine wpGr g1.out (.tmp 3) rfl ?_)
            refine (GradeOfR_any g v _).mono ?_
            rintro e wn ⟨he, hbn⟩
            subst he
            rw [hxz.out]
            have g1 := Lib.hid (g1.out.below hbn)
            have g2 := Lib.hid (g2.out.below hbn)
            have g3 := Lib.hid (g3.out.below hbn)
            have hb := Lib.hid (below_step hb.out hbn)
            clear hbn c0 c1 c2 c3 d0 d1 d2 d3
            have c0 := g2.out.c 0 _ rfl
            have c1 := g2.out.c 1 _ rfl
            have c2 := g2.out.c 2 _ rfl
            have c3 := g2.out.c 3 _ rfl
            have d0 := g3.out.c 0 _ rfl
            have d1 := g3.out.c 1 _ rfl
            have d2 := g3.out.c 2 _ rfl
            have d3 := g3.out.c 3 _ rfl
            go_wp2_with (refine wpGr g1.out (.tmp 3) rfl ?_)
            refine (GradeOf_any g u _).mono ?_
            rintro e wn ⟨he, hbn⟩
            rw [hou.out] at he
            subst he
            have g1 := Lib.hid (g1.out.below hbn)
            have g2 := Lib.hid (g2.out.below hbn)
            have g3 := Lib.hid (g3.out.below hbn)
            have hb := Lib.hid (below_step hb.out hbn)
            clear hbn c0 c1 c2 c3 d0 d1 d2 d3
            have c0 := g2.out.c 0 _ rfl
            have c1 := g2.out.c 1 _ rfl
            have c2 := g2.out.c 2 _ rfl
            have c3 := g2.out.c 3 _ rfl
            have d0 := g3.out.c 0 _ rfl
            have d1 := g3.out.c 1 _ rfl
            have d2 := g3.out.c 2 _ rfl
            have d3 := g3.out.c 3 _ rfl
            go_wp2_with fail
            go_ret
            exact ⟨by first | rfl | done, hb.out⟩
          · have q1 : decide (u.tilt < v.tilt) = false := by simpa using h1
            by_cases h2 : v.push < u.push
            · have q2 : decide (v.push < u.push) = true := by simpa using h2
              clear h1 h2 hu hx hk hV hE
              obtain ⟨g1, g2, g3, hb⟩ := start3g w g v u
              have c0 := g2.out.c 0 _ rfl
              have c1 := g2.out.c 1 _ rfl
              have c2 := g2.out.c 2 _ rfl
              have c3 := g2.out.c 3 _ rfl
              have d0 := g3.out.c 0 _ rfl
              have d1 := g3.out.c 1 _ rfl
              have d2 := g3.out.c 2 _ rfl
              have d3 := g3.out.c 3 _ rfl
              go_enter Tryd.func3, Tryd.ntmps3
              go_wp2_with fail
              refine (nawake_any _ (hT.out.below hb.out)).mono ?_
              rintro e w1 ⟨rfl, hbn⟩
              have g1 := Lib.hid (g1.out.below hbn)
              have g2 := Lib.hid (g2.out.below hbn)
              have g3 := Lib.hid (g3.out.below hbn)
              have hb := Lib.hid (below_step hb.out hbn)
              clear hbn c0 c1 c2 c3 d0 d1 d2 d3
              have c0 := g2.out.c 0 _ rfl
              have c1 := g2.out.c 1 _ rfl
              have c2 := g2.out.c 2 _ rfl
              have c3 := g2.out.c 3 _ rfl
              have d0 := g3.out.c 0 _ rfl
              have d1 := g3.out.c 1 _ rfl
              have d2 := g3.out.c 2 _ rfl
              have d3 := g3.out.c 3 _ rfl
              go_wp2_with (refine wpGr g1.out (.tmp 3) rfl ?_)
              refine (CheckGradingR_any g _).mono ?_
              rintro e wn ⟨he, hbn⟩
              subst he
              rw [hEz.out]
              have g1 := Lib.hid (g1.out.below hbn)
              have g2 := Lib.hid (g2.out.below hbn)
              have g3 := Lib.hid (g3.out.below hbn)
              have hb := Lib.hid (below_step hb.out hbn)
              clear hbn c0 c1 c2 c3 d0 d1 d2 d3
              have c0 := g2.out.c 0 _ rfl
              have c1 := g2.out.c 1 _ rfl
              have c2 := g2.out.c 2 _ rfl
              have c3 := g2.out.c 3 _ rfl
              have d0 := g3.out.c 0 _ rfl
              have d1 := g3.out.c 1 _ rfl
              have d2 := g3.out.c 2 _ rfl
              have d3 := g3.out.c 3 _ rfl
              go_wp2_with (refine wpGr g1.out (.tmp 3) rfl ?_)
              refine (GradeOf_any g v _).mono ?_
              rintro e wn ⟨he, hbn⟩
              rw [hof.out] at he
              subst he
              have g1 := Lib.hid (g1.out.below hbn)
              have g2 := Lib.hid (g2.out.below hbn)
              have g3 := Lib.hid (g3.out.below hbn)
              have hb := Lib.hid (below_step hb.out hbn)
              clear hbn c0 c1 c2 c3 d0 d1 d2 d3
              have c0 := g2.out.c 0 _ rfl
              have c1 := g2.out.c 1 _ rfl
              have c2 := g2.out.c 2 _ rfl
              have c3 := g2.out.c 3 _ rfl
              have d0 := g3.out.c 0 _ rfl
              have d1 := g3.out.c 1 _ rfl
              have d2 := g3.out.c 2 _ rfl
              have d3 := g3.out.c 3 _ rfl
              go_wp2_with (refine wpGr g1.out (.tmp 3) rfl ?_)
              refine (CheckGrading_any g _).mono ?_
              rintro e wn ⟨he, hbn⟩
              subst he
              rw [hEz.out]
              have g1 := Lib.hid (g1.out.below hbn)
              have g2 := Lib.hid (g2.out.below hbn)
              have g3 := Lib.hid (g3.out.below hbn)
              have hb := Lib.hid (below_step hb.out hbn)
              clear hbn c0 c1 c2 c3 d0 d1 d2 d3
              have c0 := g2.out.c 0 _ rfl
              have c1 := g2.out.c 1 _ rfl
              have c2 := g2.out.c 2 _ rfl
              have c3 := g2.out.c 3 _ rfl
              have d0 := g3.out.c 0 _ rfl
              have d1 := g3.out.c 1 _ rfl
              have d2 := g3.out.c 2 _ rfl
              have d3 := g3.out.c 3 _ rfl
              go_wp2_with (refine wpGr g1.out (.tmp 3) rfl ?_)
              refine (VisitErrR_any v _).mono ?_
              rintro e wn ⟨he, hbn⟩
              subst he
              rw [hVz.out]
              have g1 := Lib.hid (g1.out.below hbn)
              have g2 := Lib.hid (g2.out.below hbn)
              have g3 := Lib.hid (g3.out.below hbn)
              have hb := Lib.hid (below_step hb.out hbn)
              clear hbn c0 c1 c2 c3 d0 d1 d2 d3
              have c0 := g2.out.c 0 _ rfl
              have c1 := g2.out.c 1 _ rfl
              have c2 := g2.out.c 2 _ rfl
              have c3 := g2.out.c 3 _ rfl
              have d0 := g3.out.c 0 _ rfl
              have d1 := g3.out.c 1 _ rfl
              have d2 := g3.out.c 2 _ rfl
              have d3 := g3.out.c 3 _ rfl
              go_wp2_with (refine wpGr g1.out (.tmp 3) rfl ?_)
              refine (GradeOfR_any g v _).mono ?_
              rintro e wn ⟨he, hbn⟩
              subst he
              rw [hxz.out]
              have g1 := Lib.hid (g1.out.below hbn)
              have g2 := Lib.hid (g2.out.below hbn)
              have g3 := Lib.hid (g3.out.below hbn)
              have hb := Lib.hid (below_step hb.out hbn)
              clear hbn c0 c1 c2 c3 d0 d1 d2 d3
              have c0 := g2.out.c 0 _ rfl
              have c1 := g2.out.c 1 _ rfl
              have c2 := g2.out.c 2 _ rfl
              have c3 := g2.out.c 3 _ rfl
              have d0 := g3.out.c 0 _ rfl
              have d1 := g3.out.c 1 _ rfl
              have d2 := g3.out.c 2 _ rfl
              have d3 := g3.out.c 3 _ rfl
              go_wp2_with (refine wpGr g1.out (.tmp 3) rfl ?_)
              refine (GradeOf_any g u _).mono ?_
              rintro e wn ⟨he, hbn⟩
              rw [hou.out] at he
              subst he
              have g1 := Lib.hid (g1.out.below hbn)
              have g2 := Lib.hid (g2.out.below hbn)
              have g3 := Lib.hid (g3.out.below hbn)
              have hb := Lib.hid (below_step hb.out hbn)
              clear hbn c0 c1 c2 c3 d0 d1 d2 d3
              have c0 := g2.out.c 0 _ rfl
              have c1 := g2.out.c 1 _ rfl
              have c2 := g2.out.c 2 _ rfl
              have c3 := g2.out.c 3 _ rfl
              have d0 := g3.out.c 0 _ rfl
              have d1 := g3.out.c 1 _ rfl
              have d2 := g3.out.c 2 _ rfl
              have d3 := g3.out.c 3 _ rfl
              go_wp2_with fail
              go_ret
              exact ⟨by first | rfl | done, hb.out⟩
            · have q2 : decide (v.push < u.push) = false := by simpa using h2
              obtain ⟨uk, rfl⟩ := Cal.gradeOf_kind hu
              have hm := Cal.grade_mono (g := g) hk uk (by omega) (by omega)
              rw [hx] at hm
              generalize Cal.gradeS g u = y at *
              have q3 : decide (x ≤ y) = true := by simpa using hm
              clear h1 h2 hu hx hk hV hE uk hm
              obtain ⟨g1, g2, g3, hb⟩ := start3g w g v u
              have c0 := g2.out.c 0 _ rfl
              have c1 := g2.out.c 1 _ rfl
              have c2 := g2.out.c 2 _ rfl
              have c3 := g2.out.c 3 _ rfl
              have d0 := g3.out.c 0 _ rfl
              have d1 := g3.out.c 1 _ rfl
              have d2 := g3.out.c 2 _ rfl
              have d3 := g3.out.c 3 _ rfl
              go_enter Tryd.func3, Tryd.ntmps3
              go_wp2_with fail
              refine (nawake_any _ (hT.out.below hb.out)).mono ?_
              rintro e w1 ⟨rfl, hbn⟩
              have g1 := Lib.hid (g1.out.below hbn)
              have g2 := Lib.hid (g2.out.below hbn)
              have g3 := Lib.hid (g3.out.below hbn)
              have hb := Lib.hid (below_step hb.out hbn)
              clear hbn c0 c1 c2 c3 d0 d1 d2 d3
              have c0 := g2.out.c 0 _ rfl
              have c1 := g2.out.c 1 _ rfl
              have c2 := g2.out.c 2 _ rfl
              have c3 := g2.out.c 3 _ rfl
              have d0 := g3.out.c 0 _ rfl
              have d1 := g3.out.c 1 _ rfl
              have d2 := g3.out.c 2 _ rfl
              have d3 := g3.out.c 3 _ rfl
              go_wp2_with (refine wpGr g1.out (.tmp 3) rfl ?_)
              refine (CheckGradingR_any g _).mono ?_
              rintro e wn ⟨he, hbn⟩
              subst he
              rw [hEz.out]
              have g1 := Lib.hid (g1.out.below hbn)
              have g2 := Lib.hid (g2.out.below hbn)
              have g3 := Lib.hid (g3.out.below hbn)
              have hb := Lib.hid (below_step hb.out hbn)
              clear hbn c0 c1 c2 c3 d0 d1 d2 d3
              have c0 := g2.out.c 0 _ rfl
              have c1 := g2.out.c 1 _ rfl
              have c2 := g2.out.c 2 _ rfl
              have c3 := g2.out.c 3 _ rfl
              have d0 := g3.out.c 0 _ rfl
              have d1 := g3.out.c 1 _ rfl
              have d2 := g3.out.c 2 _ rfl
              have d3 := g3.out.c 3 _ rfl
              go_wp2_with (refine wpGr g1.out (.tmp 3) rfl ?_)
              refine (GradeOf_any g v _).mono ?_
              rintro e wn ⟨he, hbn⟩
              rw [hof.out] at he
              subst he
              have g1 := Lib.hid (g1.out.below hbn)
              have g2 := Lib.hid (g2.out.below hbn)
              have g3 := Lib.hid (g3.out.below hbn)
              have hb := Lib.hid (below_step hb.out hbn)
              clear hbn c0 c1 c2 c3 d0 d1 d2 d3
              have c0 := g2.out.c 0 _ rfl
              have c1 := g2.out.c 1 _ rfl
              have c2 := g2.out.c 2 _ rfl
              have c3 := g2.out.c 3 _ rfl
              have d0 := g3.out.c 0 _ rfl
              have d1 := g3.out.c 1 _ rfl
              have d2 := g3.out.c 2 _ rfl
              have d3 := g3.out.c 3 _ rfl
              go_wp2_with (refine wpGr g1.out (.tmp 3) rfl ?_)
              refine (CheckGrading_any g _).mono ?_
              rintro e wn ⟨he, hbn⟩
              subst he
              rw [hEz.out]
              have g1 := Lib.hid (g1.out.below hbn)
              have g2 := Lib.hid (g2.out.below hbn)
              have g3 := Lib.hid (g3.out.below hbn)
              have hb := Lib.hid (below_step hb.out hbn)
              clear hbn c0 c1 c2 c3 d0 d1 d2 d3
              have c0 := g2.out.c 0 _ rfl
              have c1 := g2.out.c 1 _ rfl
              have c2 := g2.out.c 2 _ rfl
              have c3 := g2.out.c 3 _ rfl
              have d0 := g3.out.c 0 _ rfl
              have d1 := g3.out.c 1 _ rfl
              have d2 := g3.out.c 2 _ rfl
              have d3 := g3.out.c 3 _ rfl
              go_wp2_with (refine wpGr g1.out (.tmp 3) rfl ?_)
              refine (VisitErrR_any v _).mono ?_
              rintro e wn ⟨he, hbn⟩
              subst he
              rw [hVz.out]
              have g1 := Lib.hid (g1.out.below hbn)
              have g2 := Lib.hid (g2.out.below hbn)
              have g3 := Lib.hid (g3.out.below hbn)
              have hb := Lib.hid (below_step hb.out hbn)
              clear hbn c0 c1 c2 c3 d0 d1 d2 d3
              have c0 := g2.out.c 0 _ rfl
              have c1 := g2.out.c 1 _ rfl
              have c2 := g2.out.c 2 _ rfl
              have c3 := g2.out.c 3 _ rfl
              have d0 := g3.out.c 0 _ rfl
              have d1 := g3.out.c 1 _ rfl
              have d2 := g3.out.c 2 _ rfl
              have d3 := g3.out.c 3 _ rfl
              go_wp2_with (refine wpGr g1.out (.tmp 3) rfl ?_)
              refine (GradeOfR_any g v _).mono ?_
              rintro e wn ⟨he, hbn⟩
              subst he
              rw [hxz.out]
              have g1 := Lib.hid (g1.out.below hbn)
              have g2 := Lib.hid (g2.out.below hbn)
              have g3 := Lib.hid (g3.out.below hbn)
              have hb := Lib.hid (below_step hb.out hbn)
              clear hbn c0 c1 c2 c3 d0 d1 d2 d3
              have c0 := g2.out.c 0 _ rfl
              have c1 := g2.out.c 1 _ rfl
              have c2 := g2.out.c 2 _ rfl
              have c3 := g2.out.c 3 _ rfl
              have d0 := g3.out.c 0 _ rfl
              have d1 := g3.out.c 1 _ rfl
              have d2 := g3.out.c 2 _ rfl
              have d3 := g3.out.c 3 _ rfl
              go_wp2_with (refine wpGr g1.out (.tmp 3) rfl ?_)
              refine (GradeOf_any g u _).mono ?_
              rintro e wn ⟨he, hbn⟩
              rw [hou.out] at he
              subst he
              have g1 := Lib.hid (g1.out.below hbn)
              have g2 := Lib.hid (g2.out.below hbn)
              have g3 := Lib.hid (g3.out.below hbn)
              have hb := Lib.hid (below_step hb.out hbn)
              clear hbn c0 c1 c2 c3 d0 d1 d2 d3
              have c0 := g2.out.c 0 _ rfl
              have c1 := g2.out.c 1 _ rfl
              have c2 := g2.out.c 2 _ rfl
              have c3 := g2.out.c 3 _ rfl
              have d0 := g3.out.c 0 _ rfl
              have d1 := g3.out.c 1 _ rfl
              have d2 := g3.out.c 2 _ rfl
              have d3 := g3.out.c 3 _ rfl
              go_wp2_with fail
              go_ret
              exact ⟨by first | rfl | done, hb.out⟩
        · have hHb : (H != 0) = true := by simpa using hH
          clear hH hu hx hk hV hE
          obtain ⟨g1, g2, g3, hb⟩ := start3g w g v u
          have c0 := g2.out.c 0 _ rfl
          have c1 := g2.out.c 1 _ rfl
          have c2 := g2.out.c 2 _ rfl
          have c3 := g2.out.c 3 _ rfl
          have d0 := g3.out.c 0 _ rfl
          have d1 := g3.out.c 1 _ rfl
          have d2 := g3.out.c 2 _ rfl
          have d3 := g3.out.c 3 _ rfl
          go_enter Tryd.func3, Tryd.ntmps3
          go_wp2_with fail
          refine (nawake_any _ (hT.out.below hb.out)).mono ?_
          rintro e w1 ⟨rfl, hbn⟩
          have g1 := Lib.hid (g1.out.below hbn)
          have g2 := Lib.hid (g2.out.below hbn)
          have g3 := Lib.hid (g3.out.below hbn)
          have hb := Lib.hid (below_step hb.out hbn)
          clear hbn c0 c1 c2 c3 d0 d1 d2 d3
          have c0 := g2.out.c 0 _ rfl
          have c1 := g2.out.c 1 _ rfl
          have c2 := g2.out.c 2 _ rfl
          have c3 := g2.out.c 3 _ rfl
          have d0 := g3.out.c 0 _ rfl
          have d1 := g3.out.c 1 _ rfl
          have d2 := g3.out.c 2 _ rfl
          have d3 := g3.out.c 3 _ rfl
          go_wp2_with (refine wpGr g1.out (.tmp 3) rfl ?_)
          refine (CheckGradingR_any g _).mono ?_
          rintro e wn ⟨he, hbn⟩
          subst he
          rw [hEz.out]
          have g1 := Lib.hid (g1.out.below hbn)
          have g2 := Lib.hid (g2.out.below hbn)
          have g3 := Lib.hid (g3.out.below hbn)
          have hb := Lib.hid (below_step hb.out hbn)
          clear hbn c0 c1 c2 c3 d0 d1 d2 d3
          have c0 := g2.out.c 0 _ rfl
          have c1 := g2.out.c 1 _ rfl
          have c2 := g2.out.c 2 _ rfl
          have c3 := g2.out.c 3 _ rfl
          have d0 := g3.out.c 0 _ rfl
          have d1 := g3.out.c 1 _ rfl
          have d2 := g3.out.c 2 _ rfl
          have d3 := g3.out.c 3 _ rfl
          go_wp2_with (refine wpGr g1.out (.tmp 3) rfl ?_)
          refine (GradeOf_any g v _).mono ?_
          rintro e wn ⟨he, hbn⟩
          rw [hof.out] at he
          subst he
          have g1 := Lib.hid (g1.out.below hbn)
          have g2 := Lib.hid (g2.out.below hbn)
          have g3 := Lib.hid (g3.out.below hbn)
          have hb := Lib.hid (below_step hb.out hbn)
          clear hbn c0 c1 c2 c3 d0 d1 d2 d3
          have c0 := g2.out.c 0 _ rfl
          have c1 := g2.out.c 1 _ rfl
          have c2 := g2.out.c 2 _ rfl
          have c3 := g2.out.c 3 _ rfl
          have d0 := g3.out.c 0 _ rfl
          have d1 := g3.out.c 1 _ rfl
          have d2 := g3.out.c 2 _ rfl
          have d3 := g3.out.c 3 _ rfl
          go_wp2_with (refine wpGr g1.out (.tmp 3) rfl ?_)
          refine (CheckGrading_any g _).mono ?_
          rintro e wn ⟨he, hbn⟩
          subst he
          rw [hEz.out]
          have g1 := Lib.hid (g1.out.below hbn)
          have g2 := Lib.hid (g2.out.below hbn)
          have g3 := Lib.hid (g3.out.below hbn)
          have hb := Lib.hid (below_step hb.out hbn)
          clear hbn c0 c1 c2 c3 d0 d1 d2 d3
          have c0 := g2.out.c 0 _ rfl
          have c1 := g2.out.c 1 _ rfl
          have c2 := g2.out.c 2 _ rfl
          have c3 := g2.out.c 3 _ rfl
          have d0 := g3.out.c 0 _ rfl
          have d1 := g3.out.c 1 _ rfl
          have d2 := g3.out.c 2 _ rfl
          have d3 := g3.out.c 3 _ rfl
          go_wp2_with (refine wpGr g1.out (.tmp 3) rfl ?_)
          refine (VisitErrR_any v _).mono ?_
          rintro e wn ⟨he, hbn⟩
          subst he
          rw [hVz.out]
          have g1 := Lib.hid (g1.out.below hbn)
          have g2 := Lib.hid (g2.out.below hbn)
          have g3 := Lib.hid (g3.out.below hbn)
          have hb := Lib.hid (below_step hb.out hbn)
          clear hbn c0 c1 c2 c3 d0 d1 d2 d3
          have c0 := g2.out.c 0 _ rfl
          have c1 := g2.out.c 1 _ rfl
          have c2 := g2.out.c 2 _ rfl
          have c3 := g2.out.c 3 _ rfl
          have d0 := g3.out.c 0 _ rfl
          have d1 := g3.out.c 1 _ rfl
          have d2 := g3.out.c 2 _ rfl
          have d3 := g3.out.c 3 _ rfl
          go_wp2_with (refine wpGr g1.out (.tmp 3) rfl ?_)
          refine (GradeOfR_any g v _).mono ?_
          rintro e wn ⟨he, hbn⟩
          subst he
          rw [hxz.out]
          have g1 := Lib.hid (g1.out.below hbn)
          have g2 := Lib.hid (g2.out.below hbn)
          have g3 := Lib.hid (g3.out.below hbn)
          have hb := Lib.hid (below_step hb.out hbn)
          clear hbn c0 c1 c2 c3 d0 d1 d2 d3
          have c0 := g2.out.c 0 _ rfl
          have c1 := g2.out.c 1 _ rfl
          have c2 := g2.out.c 2 _ rfl
          have c3 := g2.out.c 3 _ rfl
          have d0 := g3.out.c 0 _ rfl
          have d1 := g3.out.c 1 _ rfl
          have d2 := g3.out.c 2 _ rfl
          have d3 := g3.out.c 3 _ rfl
          go_wp2_with (refine wpGr g1.out (.tmp 3) rfl ?_)
          refine (GradeOf_any g u _).mono ?_
          rintro e wn ⟨he, hbn⟩
          rw [hou.out] at he
          subst he
          have g1 := Lib.hid (g1.out.below hbn)
          have g2 := Lib.hid (g2.out.below hbn)
          have g3 := Lib.hid (g3.out.below hbn)
          have hb := Lib.hid (below_step hb.out hbn)
          clear hbn c0 c1 c2 c3 d0 d1 d2 d3
          have c0 := g2.out.c 0 _ rfl
          have c1 := g2.out.c 1 _ rfl
          have c2 := g2.out.c 2 _ rfl
          have c3 := g2.out.c 3 _ rfl
          have d0 := g3.out.c 0 _ rfl
          have d1 := g3.out.c 1 _ rfl
          have d2 := g3.out.c 2 _ rfl
          have d3 := g3.out.c 3 _ rfl
          go_wp2_with fail
          go_ret
          exact ⟨by first | rfl | done, hb.out⟩
      · have hkb : (v.kind != 0) = true := by simpa using hk
        have hof : Hid (Cal.gradeOfS g v = (0, 15)) := by show _ = _; unfold Cal.gradeOfS; rw [if_pos hE, if_pos hV, if_neg hk]
        clear hk hV hE
        obtain ⟨g1, g2, g3, hb⟩ := start3g w g v u
        have c0 := g2.out.c 0 _ rfl
        have c1 := g2.out.c 1 _ rfl
        have c2 := g2.out.c 2 _ rfl
        have c3 := g2.out.c 3 _ rfl
        have d0 := g3.out.c 0 _ rfl
        have d1 := g3.out.c 1 _ rfl
        have d2 := g3.out.c 2 _ rfl
        have d3 := g3.out.c 3 _ rfl
        go_enter Tryd.func3, Tryd.ntmps3
        go_wp2_with fail
        refine (nawake_any _ (hT.out.below hb.out)).mono ?_
        rintro e w1 ⟨rfl, hbn⟩
        have g1 := Lib.hid (g1.out.below hbn)
        have g2 := Lib.hid (g2.out.below hbn)
        have g3 := Lib.hid (g3.out.below hbn)
        have hb := Lib.hid (below_step hb.out hbn)
        clear hbn c0 c1 c2 c3 d0 d1 d2 d3
        have c0 := g2.out.c 0 _ rfl
        have c1 := g2.out.c 1 _ rfl
        have c2 := g2.out.c 2 _ rfl
        have c3 := g2.out.c 3 _ rfl
        have d0 := g3.out.c 0 _ rfl
        have d1 := g3.out.c 1 _ rfl
        have d2 := g3.out.c 2 _ rfl
        have d3 := g3.out.c 3 _ rfl
        go_wp2_with (refine wpGr g1.out (.tmp 3) rfl ?_)
        refine (CheckGradingR_any g _).mono ?_
        rintro e wn ⟨he, hbn⟩
        subst he
        rw [hEz.out]
        have g1 := Lib.hid (g1.out.below hbn)
        have g2 := Lib.hid (g2.out.below hbn)
        have g3 := Lib.hid (g3.out.below hbn)
        have hb := Lib.hid (below_step hb.out hbn)
        clear hbn c0 c1 c2 c3 d0 d1 d2 d3
        have c0 := g2.out.c 0 _ rfl
        have c1 := g2.out.c 1 _ rfl
        have c2 := g2.out.c 2 _ rfl
        have c3 := g2.out.c 3 _ rfl
        have d0 := g3.out.c 0 _ rfl
        have d1 := g3.out.c 1 _ rfl
        have d2 := g3.out.c 2 _ rfl
        have d3 := g3.out.c 3 _ rfl
        go_wp2_with (refine wpGr g1.out (.tmp 3) rfl ?_)
        refine (GradeOf_any g v _).mono ?_
        rintro e wn ⟨he, hbn⟩
        rw [hof.out] at he
        subst he
        have g1 := Lib.hid (g1.out.below hbn)
        have g2 := Lib.hid (g2.out.below hbn)
        have g3 := Lib.hid (g3.out.below hbn)
        have hb := Lib.hid (below_step hb.out hbn)
        clear hbn c0 c1 c2 c3 d0 d1 d2 d3
        have c0 := g2.out.c 0 _ rfl
        have c1 := g2.out.c 1 _ rfl
        have c2 := g2.out.c 2 _ rfl
        have c3 := g2.out.c 3 _ rfl
        have d0 := g3.out.c 0 _ rfl
        have d1 := g3.out.c 1 _ rfl
        have d2 := g3.out.c 2 _ rfl
        have d3 := g3.out.c 3 _ rfl
        go_wp2_with (refine wpGr g1.out (.tmp 3) rfl ?_)
        refine (CheckGrading_any g _).mono ?_
        rintro e wn ⟨he, hbn⟩
        subst he
        rw [hEz.out]
        have g1 := Lib.hid (g1.out.below hbn)
        have g2 := Lib.hid (g2.out.below hbn)
        have g3 := Lib.hid (g3.out.below hbn)
        have hb := Lib.hid (below_step hb.out hbn)
        clear hbn c0 c1 c2 c3 d0 d1 d2 d3
        have c0 := g2.out.c 0 _ rfl
        have c1 := g2.out.c 1 _ rfl
        have c2 := g2.out.c 2 _ rfl
        have c3 := g2.out.c 3 _ rfl
        have d0 := g3.out.c 0 _ rfl
        have d1 := g3.out.c 1 _ rfl
        have d2 := g3.out.c 2 _ rfl
        have d3 := g3.out.c 3 _ rfl
        go_wp2_with (refine wpGr g1.out (.tmp 3) rfl ?_)
        refine (VisitErrR_any v _).mono ?_
        rintro e wn ⟨he, hbn⟩
        subst he
        rw [hVz.out]
        have g1 := Lib.hid (g1.out.below hbn)
        have g2 := Lib.hid (g2.out.below hbn)
        have g3 := Lib.hid (g3.out.below hbn)
        have hb := Lib.hid (below_step hb.out hbn)
        clear hbn c0 c1 c2 c3 d0 d1 d2 d3
        have c0 := g2.out.c 0 _ rfl
        have c1 := g2.out.c 1 _ rfl
        have c2 := g2.out.c 2 _ rfl
        have c3 := g2.out.c 3 _ rfl
        have d0 := g3.out.c 0 _ rfl
        have d1 := g3.out.c 1 _ rfl
        have d2 := g3.out.c 2 _ rfl
        have d3 := g3.out.c 3 _ rfl
        go_wp2_with fail
        go_ret
        exact ⟨by first | rfl | done, hb.out⟩
    · have hof : Hid (Cal.gradeOfS g v = (0, V)) := by show _ = _; unfold Cal.gradeOfS; rw [if_pos hE, if_neg (by rw [hV]; exact hv0), hV]
      have hV1 : (V != 0) = true := by simpa using hv0
      have hV2 : (V == 0) = false := by simpa using hv0
      have hVV : (V == V) = true := by simp
      clear hv0 hV hE
      obtain ⟨g1, g2, g3, hb⟩ := start3g w g v u
      have c0 := g2.out.c 0 _ rfl
      have c1 := g2.out.c 1 _ rfl
      have c2 := g2.out.c 2 _ rfl
      have c3 := g2.out.c 3 _ rfl
      have d0 := g3.out.c 0 _ rfl
      have d1 := g3.out.c 1 _ rfl
      have d2 := g3.out.c 2 _ rfl
      have d3 := g3.out.c 3 _ rfl
      go_enter Tryd.func3, Tryd.ntmps3
      go_wp2_with fail
      refine (nawake_any _ (hT.out.below hb.out)).mono ?_
      rintro e w1 ⟨rfl, hbn⟩
      have g1 := Lib.hid (g1.out.below hbn)
      have g2 := Lib.hid (g2.out.below hbn)
      have g3 := Lib.hid (g3.out.below hbn)
      have hb := Lib.hid (below_step hb.out hbn)
      clear hbn c0 c1 c2 c3 d0 d1 d2 d3
      have c0 := g2.out.c 0 _ rfl
      have c1 := g2.out.c 1 _ rfl
      have c2 := g2.out.c 2 _ rfl
      have c3 := g2.out.c 3 _ rfl
      have d0 := g3.out.c 0 _ rfl
      have d1 := g3.out.c 1 _ rfl
      have d2 := g3.out.c 2 _ rfl
      have d3 := g3.out.c 3 _ rfl
      go_wp2_with (refine wpGr g1.out (.tmp 3) rfl ?_)
      refine (CheckGradingR_any g _).mono ?_
      rintro e wn ⟨he, hbn⟩
      subst he
      rw [hEz.out]
      have g1 := Lib.hid (g1.out.below hbn)
      have g2 := Lib.hid (g2.out.below hbn)
      have g3 := Lib.hid (g3.out.below hbn)
      have hb := Lib.hid (below_step hb.out hbn)
      clear hbn c0 c1 c2 c3 d0 d1 d2 d3
      have c0 := g2.out.c 0 _ rfl
      have c1 := g2.out.c 1 _ rfl
      have c2 := g2.out.c 2 _ rfl
      have c3 := g2.out.c 3 _ rfl
      have d0 := g3.out.c 0 _ rfl
      have d1 := g3.out.c 1 _ rfl
      have d2 := g3.out.c 2 _ rfl
      have d3 := g3.out.c 3 _ rfl
      go_wp2_with (refine wpGr g1.out (.tmp 3) rfl ?_)
      refine (GradeOf_any g v _).mono ?_
      rintro e wn ⟨he, hbn⟩
      rw [hof.out] at he
      subst he
      have g1 := Lib.hid (g1.out.below hbn)
      have g2 := Lib.hid (g2.out.below hbn)
      have g3 := Lib.hid (g3.out.below hbn)
      have hb := Lib.hid (below_step hb.out hbn)
      clear hbn c0 c1 c2 c3 d0 d1 d2 d3
      have c0 := g2.out.c 0 _ rfl
      have c1 := g2.out.c 1 _ rfl
      have c2 := g2.out.c 2 _ rfl
      have c3 := g2.out.c 3 _ rfl
      have d0 := g3.out.c 0 _ rfl
      have d1 := g3.out.c 1 _ rfl
      have d2 := g3.out.c 2 _ rfl
      have d3 := g3.out.c 3 _ rfl
      go_wp2_with (refine wpGr g1.out (.tmp 3) rfl ?_)
      refine (CheckGrading_any g _).mono ?_
      rintro e wn ⟨he, hbn⟩
      subst he
      rw [hEz.out]
      have g1 := Lib.hid (g1.out.below hbn)
      have g2 := Lib.hid (g2.out.below hbn)
      have g3 := Lib.hid (g3.out.below hbn)
      have hb := Lib.hid (below_step hb.out hbn)
      clear hbn c0 c1 c2 c3 d0 d1 d2 d3
      have c0 := g2.out.c 0 _ rfl
      have c1 := g2.out.c 1 _ rfl
      have c2 := g2.out.c 2 _ rfl
      have c3 := g2.out.c 3 _ rfl
      have d0 := g3.out.c 0 _ rfl
      have d1 := g3.out.c 1 _ rfl
      have d2 := g3.out.c 2 _ rfl
      have d3 := g3.out.c 3 _ rfl
      go_wp2_with (refine wpGr g1.out (.tmp 3) rfl ?_)
      refine (VisitErrR_any v _).mono ?_
      rintro e wn ⟨he, hbn⟩
      subst he
      rw [hVz.out]
      have g1 := Lib.hid (g1.out.below hbn)
      have g2 := Lib.hid (g2.out.below hbn)
      have g3 := Lib.hid (g3.out.below hbn)
      have hb := Lib.hid (below_step hb.out hbn)
      clear hbn c0 c1 c2 c3 d0 d1 d2 d3
      have c0 := g2.out.c 0 _ rfl
      have c1 := g2.out.c 1 _ rfl
      have c2 := g2.out.c 2 _ rfl
      have c3 := g2.out.c 3 _ rfl
      have d0 := g3.out.c 0 _ rfl
      have d1 := g3.out.c 1 _ rfl
      have d2 := g3.out.c 2 _ rfl
      have d3 := g3.out.c 3 _ rfl
      go_wp2_with fail
      go_ret
      exact ⟨by first | rfl | done, hb.out⟩
  · have hof : Hid (Cal.gradeOfS g v = (0, E)) := by show _ = _; unfold Cal.gradeOfS; rw [if_neg (by rw [hE]; exact h0), hE]
    have hE1 : (E != 0) = true := by simpa using h0
    have hE2 : (E == 0) = false := by simpa using h0
    have hE3 : (E == E) = true := by simp
    clear h0 hE
    obtain ⟨g1, g2, g3, hb⟩ := start3g w g v u
    have c0 := g2.out.c 0 _ rfl
    have c1 := g2.out.c 1 _ rfl
    have c2 := g2.out.c 2 _ rfl
    have c3 := g2.out.c 3 _ rfl
    have d0 := g3.out.c 0 _ rfl
    have d1 := g3.out.c 1 _ rfl
    have d2 := g3.out.c 2 _ rfl
    have d3 := g3.out.c 3 _ rfl
    go_enter Tryd.func3, Tryd.ntmps3
    go_wp2_with fail
    refine (nawake_any _ (hT.out.below hb.out)).mono ?_
    rintro e w1 ⟨rfl, hbn⟩
    have g1 := Lib.hid (g1.out.below hbn)
    have g2 := Lib.hid (g2.out.below hbn)
    have g3 := Lib.hid (g3.out.below hbn)
    have hb := Lib.hid (below_step hb.out hbn)
    clear hbn c0 c1 c2 c3 d0 d1 d2 d3
    have c0 := g2.out.c 0 _ rfl
    have c1 := g2.out.c 1 _ rfl
    have c2 := g2.out.c 2 _ rfl
    have c3 := g2.out.c 3 _ rfl
    have d0 := g3.out.c 0 _ rfl
    have d1 := g3.out.c 1 _ rfl
    have d2 := g3.out.c 2 _ rfl
    have d3 := g3.out.c 3 _ rfl
    go_wp2_with (refine wpGr g1.out (.tmp 3) rfl ?_)
    refine (CheckGradingR_any g _).mono ?_
    rintro e wn ⟨he, hbn⟩
    subst he
    rw [hEz.out]
    have g1 := Lib.hid (g1.out.below hbn)
    have g2 := Lib.hid (g2.out.below hbn)
    have g3 := Lib.hid (g3.out.below hbn)
    have hb := Lib.hid (below_step hb.out hbn)
    clear hbn c0 c1 c2 c3 d0 d1 d2 d3
    have c0 := g2.out.c 0 _ rfl
    have c1 := g2.out.c 1 _ rfl
    have c2 := g2.out.c 2 _ rfl
    have c3 := g2.out.c 3 _ rfl
    have d0 := g3.out.c 0 _ rfl
    have d1 := g3.out.c 1 _ rfl
    have d2 := g3.out.c 2 _ rfl
    have d3 := g3.out.c 3 _ rfl
    go_wp2_with (refine wpGr g1.out (.tmp 3) rfl ?_)
    refine (GradeOf_any g v _).mono ?_
    rintro e wn ⟨he, hbn⟩
    rw [hof.out] at he
    subst he
    have g1 := Lib.hid (g1.out.below hbn)
    have g2 := Lib.hid (g2.out.below hbn)
    have g3 := Lib.hid (g3.out.below hbn)
    have hb := Lib.hid (below_step hb.out hbn)
    clear hbn c0 c1 c2 c3 d0 d1 d2 d3
    have c0 := g2.out.c 0 _ rfl
    have c1 := g2.out.c 1 _ rfl
    have c2 := g2.out.c 2 _ rfl
    have c3 := g2.out.c 3 _ rfl
    have d0 := g3.out.c 0 _ rfl
    have d1 := g3.out.c 1 _ rfl
    have d2 := g3.out.c 2 _ rfl
    have d3 := g3.out.c 3 _ rfl
    go_wp2_with (refine wpGr g1.out (.tmp 3) rfl ?_)
    refine (CheckGrading_any g _).mono ?_
    rintro e wn ⟨he, hbn⟩
    subst he
    rw [hEz.out]
    have g1 := Lib.hid (g1.out.below hbn)
    have g2 := Lib.hid (g2.out.below hbn)
    have g3 := Lib.hid (g3.out.below hbn)
    have hb := Lib.hid (below_step hb.out hbn)
    clear hbn c0 c1 c2 c3 d0 d1 d2 d3
    have c0 := g2.out.c 0 _ rfl
    have c1 := g2.out.c 1 _ rfl
    have c2 := g2.out.c 2 _ rfl
    have c3 := g2.out.c 3 _ rfl
    have d0 := g3.out.c 0 _ rfl
    have d1 := g3.out.c 1 _ rfl
    have d2 := g3.out.c 2 _ rfl
    have d3 := g3.out.c 3 _ rfl
    go_wp2_with fail
    go_ret
    exact ⟨by first | rfl | done, hb.out⟩
end Go.Proofs.YtconnjkkgaapbaaDoor
