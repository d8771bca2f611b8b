/- Chapter 8 and what it rests on: definitions and walks, part 36. -/
import Derived.Test.YtconnjkkgaapbaaGreatDoorC35
import Derived.Test.YtconnjkkgaapbaaGreatDoorC02
namespace Go.Proofs.YtconnjkkgaapbaaGreatDoor
open Go Go.RowKit
/-- The error of a grading, a monument and a day, ahead of all. -/
def Cal.byErr0 (g : Grad) (m : Mon) (day : Int) : Int := if Cal.gradErr g = 0 then (if Cal.monErr m = 0 then (if 0 ≤ day ∧ day ≤ 200000 then 0 else 2) else Cal.monErr m) else Cal.gradErr g
def Cal.byErr (g : Grad) (m : Mon) (day : Int) : Int := if Cal.byErr0 g m day = 0 then (if (Cal.lastV day m.visits).isSome = true then 0 else 6) else Cal.byErr0 g m day
theorem Cal.by_bad {g : Grad} {m : Mon} {day E : Int} (h : Cal.byErr0 g m day = E) (he : E ≠ 0) : Cal.byErr g m day = E := by unfold Cal.byErr; rw [if_neg (by rw [h]; exact he), h]
/-- A grading that is loaded whole. -/
theorem wpGrd {ops : Array Oper} {rest : List Oper} {op : Oper} {a : Act} {w : World} {Q : Exit → Act → World → Prop} {B : Nat} {g : Grad} (h : BoxAt w B [.int .i64 g.t0, .int .i64 g.t1, .int .i64 g.t2, .int .i64 g.p0, .int .i64 g.p1, .int .i64 g.p2, .int .i64 g.m0, .int .i64 g.m1, .int .i64 g.m2, .int .i64 g.m3]) (x : Operand) (hx : a.eval x = .pointer (some ⟨B, 0, none⟩))
    (k : wpList Tryz.prog ops Q rest (a.put op.dst (.agg #[.int .i64 g.t0, .int .i64 g.t1, .int .i64 g.t2, .int .i64 g.p0, .int .i64 g.p1, .int .i64 g.p2, .int .i64 g.m0, .int .i64 g.m1, .int .i64 g.m2, .int .i64 g.m3])) w) (ho : op.op = .load 77 x := by exact rfl) (hw : Region.wanted op (yielded ops a.tmps) = true := by kernel_rfl) : wpList Tryz.prog ops Q (op :: rest) a w :=
  BigFrame.wpList_want hw fun _ hK => wp_load_mid 77 x ho B 0 hx [.int .i64 g.t0, .int .i64 g.t1, .int .i64 g.t2, .int .i64 g.p0, .int .i64 g.p1, .int .i64 g.p2, .int .i64 g.m0, .int .i64 g.m1, .int .i64 g.m2, .int .i64 g.m3] _ h.range Tryz.underlying77 rfl grSize (hK _ _ k)
structure VB3 (w : World) (g : Grad) (V : Option Addr) (d : Nat) (m : Mon) (wr : World) : Prop where
  hb : Below w.heap.size w wr
  g1 : BoxAt wr w.heap.size [.int .i64 g.t0, .int .i64 g.t1, .int .i64 g.t2, .int .i64 g.p0, .int .i64 g.p1, .int .i64 g.p2, .int .i64 g.m0, .int .i64 g.m1, .int .i64 g.m2, .int .i64 g.m3]
  g2 : BoxAt wr (w.heap.size + 1) [.string m.name, .string m.place, .slice V m.visits.length d]
  g3 : BoxAt wr (w.heap.size + 1 + 1) [.int .i64 0, .int .i64 0, .int .i64 0, .int .i64 0]
  mb : MB wr V m
theorem VB3.step {w : World} {g : Grad} {V : Option Addr} {d : Nat} {m : Mon} {wr w' : World} (h : VB3 w g V d m wr) (hb : Below wr.heap.size wr w') : VB3 w g V d m w' :=
  ⟨below_step h.hb hb, h.g1.below hb, h.g2.below hb, h.g3.below hb, h.mb.below hb⟩
theorem start3v (w : World) (g : Grad) (V : Option Addr) (d : Nat) (m : Mon) (hM : MB w V m) : VB3 w g V d m (((w.alloc (.cells #[.int .i64 g.t0, .int .i64 g.t1, .int .i64 g.t2, .int .i64 g.p0, .int .i64 g.p1, .int .i64 g.p2, .int .i64 g.m0, .int .i64 g.m1, .int .i64 g.m2, .int .i64 g.m3] 77)).alloc (.cells #[.string m.name, .string m.place, .slice V m.visits.length d] 80)).alloc (.cells #[.int .i64 0, .int .i64 0, .int .i64 0, .int .i64 0] 88)) := by
  have h2 := (BoxAt.new (w.alloc (.cells #[.int .i64 g.t0, .int .i64 g.t1, .int .i64 g.t2, .int .i64 g.p0, .int .i64 g.p1, .int .i64 g.p2, .int .i64 g.m0, .int .i64 g.m1, .int .i64 g.m2, .int .i64 g.m3] 77)) #[.string m.name, .string m.place, .slice V m.visits.length d] 80).alloc (.cells #[.int .i64 0, .int .i64 0, .int .i64 0, .int .i64 0] 88)
  rw [World.size_alloc] at h2
  have h3 := BoxAt.new ((w.alloc (.cells #[.int .i64 g.t0, .int .i64 g.t1, .int .i64 g.t2, .int .i64 g.p0, .int .i64 g.p1, .int .i64 g.p2, .int .i64 g.m0, .int .i64 g.m1, .int .i64 g.m2, .int .i64 g.m3] 77)).alloc (.cells #[.string m.name, .string m.place, .slice V m.visits.length d] 80)) #[.int .i64 0, .int .i64 0, .int .i64 0, .int .i64 0] 88
  rw [World.size_alloc, World.size_alloc] at h3
  have hb : Below w.heap.size w (((w.alloc (.cells #[.int .i64 g.t0, .int .i64 g.t1, .int .i64 g.t2, .int .i64 g.p0, .int .i64 g.p1, .int .i64 g.p2, .int .i64 g.m0, .int .i64 g.m1, .int .i64 g.m2, .int .i64 g.m3] 77)).alloc (.cells #[.string m.name, .string m.place, .slice V m.visits.length d] 80)).alloc (.cells #[.int .i64 0, .int .i64 0, .int .i64 0, .int .i64 0] 88)) := below_step (below_step (below_alloc _ _) (below_alloc _ _)) (below_alloc _ _)
  exact ⟨hb, ((BoxAt.new w _ _).alloc _).alloc _, h2, h3, hM.below hb⟩
def VbPost (w : World) (g : Grad) (m : Mon) (day : Int) (e : Ending) (w' : World) : Prop :=
  ∃ u : Vis, e = .returned (.tuple #[.agg #[.int .i64 u.day, .int .i64 u.kind, .int .i64 u.tilt, .int .i64 u.push], .int .i64 (Cal.byErr g m day)]) ∧ (Cal.byErr g m day = 0 → Cal.lastV day m.visits = some u) ∧ Below w.heap.size w w'
set_option maxRecDepth 100000 in
set_option maxHeartbeats 8000000 in
theorem visitBy_any (g : Grad) (V : Option Addr) (d : Nat) (m : Mon) (day : Int) (w : World) (hM : MB w V m) :
    Calls Tryz.prog 77 #[.agg #[.int .i64 g.t0, .int .i64 g.t1, .int .i64 g.t2, .int .i64 g.p0, .int .i64 g.p1, .int .i64 g.p2, .int .i64 g.m0, .int .i64 g.m1, .int .i64 g.m2, .int .i64 g.m3], .agg #[.string m.name, .string m.place, .slice V m.visits.length d], .int .i64 day] w (VbPost w g m day) := by
  have hI := Lib.hid (start3v w g V d m hM)
  clear hM
  obtain ⟨E, hE⟩ : ∃ E, Cal.gradErr g = E := ⟨_, rfl⟩
  have hEz := Lib.hid hE
  by_cases h0 : E = 0
  · subst h0
    obtain ⟨F, hF⟩ : ∃ F, Cal.monErr m = F := ⟨_, rfl⟩
    have hMz := Lib.hid hF
    by_cases h1 : F = 0
    · subst h1
      by_cases h2 : 0 ≤ day ∧ day ≤ 200000
      · have hE0 : Cal.byErr0 g m day = 0 := by unfold Cal.byErr0; rw [if_pos hE, if_pos hF, if_pos h2]
        obtain ⟨d0, d1⟩ := h2
        clear hE hF
        obtain ⟨o, ho⟩ : ∃ o, Cal.lastV day m.visits = o := ⟨_, rfl⟩
        have hoz := Lib.hid ho
        cases o with
        | none =>
          have hfin : Hid (Cal.byErr g m day = 6) := by show _ = _; unfold Cal.byErr; rw [if_pos hE0, ho]; rfl
          clear ho hE0
          have c0 := hI.out.g2.c 0 _ rfl
          have c1 := hI.out.g2.c 1 _ rfl
          have c2 := hI.out.g2.c 2 _ rfl
          go_enter Tryz.func77, Tryz.ntmps77
          go_wp2_with first | (refine wpGrd hI.out.g1 (.tmp 3) rfl ?_) | first | (go_at_call 60; first | refine rin ?_ | refine rout ?_ | refine rany ?_) | ((first | (go_at_call 86) | (go_at_call 41) | (go_at_call 74) | (go_at_call 28) | (go_at_call 109) | (fail) | (fail)); first | refine rin ?_ | refine rout ?_ | refine rany ?_)
          refine (CheckGrading_any g _).mono ?_
          rintro e wn ⟨he, hbn⟩
          subst he
          rw [hEz.out]
          have hI := Lib.hid (hI.out.step hbn)
          clear hbn c0 c1 c2
          have c0 := hI.out.g2.c 0 _ rfl
          have c1 := hI.out.g2.c 1 _ rfl
          have c2 := hI.out.g2.c 2 _ rfl
          go_wp2_with first | (refine wpGrd hI.out.g1 (.tmp 3) rfl ?_) | first | (go_at_call 60; first | refine rin ?_ | refine rout ?_ | refine rany ?_) | ((first | (go_at_call 86) | (go_at_call 41) | (go_at_call 74) | (go_at_call 28) | (go_at_call 109) | (fail) | (fail)); first | refine rin ?_ | refine rout ?_ | refine rany ?_)
          refine (CheckMonument_any _ _ m _ hI.out.mb).mono ?_
          rintro e wn ⟨he, hbn⟩
          subst he
          rw [hMz.out]
          have hI := Lib.hid (hI.out.step hbn)
          clear hbn c0 c1 c2
          have c0 := hI.out.g2.c 0 _ rfl
          have c1 := hI.out.g2.c 1 _ rfl
          have c2 := hI.out.g2.c 2 _ rfl
          go_wp2_with first | (refine wpGrd hI.out.g1 (.tmp 3) rfl ?_) | first | (go_at_call 60; first | refine rin ?_ | refine rout ?_ | refine rany ?_) | ((first | (go_at_call 86) | (go_at_call 41) | (go_at_call 74) | (go_at_call 28) | (go_at_call 109) | (fail) | (fail)); first | refine rin ?_ | refine rout ?_ | refine rany ?_)
          have hlv := fun wr h => lastVisit_any V d m day wr h
          rw [hoz.out] at hlv
          refine (hlv _ hI.out.mb).mono ?_
          clear hlv
          rintro e wn ⟨u', rfl, hu, hbn⟩
          obtain rfl : zeroVis = u' := hu.symm
          clear hu
          have hI := Lib.hid (hI.out.step hbn)
          clear hbn c0 c1 c2
          have c0 := hI.out.g2.c 0 _ rfl
          have c1 := hI.out.g2.c 1 _ rfl
          have c2 := hI.out.g2.c 2 _ rfl
          have hN := Lib.hid ((hI.out.g3.alloc (.cells #[.int .i64 zeroVis.day, .int .i64 zeroVis.kind, .int .i64 zeroVis.tilt, .int .i64 zeroVis.push] 88)))
          have hbA := Lib.hid (below_step hI.out.hb (below_alloc wn (.cells #[.int .i64 zeroVis.day, .int .i64 zeroVis.kind, .int .i64 zeroVis.tilt, .int .i64 zeroVis.push] 88)))
          go_wp2_with first | (refine wpList_store_box rfl 88 (.tmp 6) (.tmp 36) rfl (w.heap.size + 1 + 1) _ [.int .i64 zeroVis.day, .int .i64 zeroVis.kind, .int .i64 zeroVis.tilt, .int .i64 zeroVis.push] (by rfl) (by rfl) hN.out rfl viSize (by kernel_rfl) ?_; intro w3 h3 hg3)
          (try simp only [Exit.inBlock, Exit.then])
          refine bodyPost_ret (results_mid2 rfl _ _ (w.heap.size + 1 + 1) [.int .i64 zeroVis.day, .int .i64 zeroVis.kind, .int .i64 zeroVis.tilt, .int .i64 zeroVis.push] _ rfl h3.range Tryz.underlying88 rfl viSize) rfl ⟨zeroVis, by rw [hfin.out]; rfl, fun h => by first | exact hoz.out | exact absurd (hfin.out.symm.trans h) (by decide), below_of_grownB hbA.out hg3 (by omega)⟩
        | some u =>
          have hfin : Hid (Cal.byErr g m day = 0) := by show _ = _; unfold Cal.byErr; rw [if_pos hE0, ho]; rfl
          clear ho hE0
          have c0 := hI.out.g2.c 0 _ rfl
          have c1 := hI.out.g2.c 1 _ rfl
          have c2 := hI.out.g2.c 2 _ rfl
          go_enter Tryz.func77, Tryz.ntmps77
          go_wp2_with first | (refine wpGrd hI.out.g1 (.tmp 3) rfl ?_) | first | (go_at_call 60; first | refine rin ?_ | refine rout ?_ | refine rany ?_) | ((first | (go_at_call 86) | (go_at_call 41) | (go_at_call 74) | (go_at_call 28) | (go_at_call 109) | (fail) | (fail)); first | refine rin ?_ | refine rout ?_ | refine rany ?_)
          refine (CheckGrading_any g _).mono ?_
          rintro e wn ⟨he, hbn⟩
          subst he
          rw [hEz.out]
          have hI := Lib.hid (hI.out.step hbn)
          clear hbn c0 c1 c2
          have c0 := hI.out.g2.c 0 _ rfl
          have c1 := hI.out.g2.c 1 _ rfl
          have c2 := hI.out.g2.c 2 _ rfl
          go_wp2_with first | (refine wpGrd hI.out.g1 (.tmp 3) rfl ?_) | first | (go_at_call 60; first | refine rin ?_ | refine rout ?_ | refine rany ?_) | ((first | (go_at_call 86) | (go_at_call 41) | (go_at_call 74) | (go_at_call 28) | (go_at_call 109) | (fail) | (fail)); first | refine rin ?_ | refine rout ?_ | refine rany ?_)
          refine (CheckMonument_any _ _ m _ hI.out.mb).mono ?_
          rintro e wn ⟨he, hbn⟩
          subst he
          rw [hMz.out]
          have hI := Lib.hid (hI.out.step hbn)
          clear hbn c0 c1 c2
          have c0 := hI.out.g2.c 0 _ rfl
          have c1 := hI.out.g2.c 1 _ rfl
          have c2 := hI.out.g2.c 2 _ rfl
          go_wp2_with first | (refine wpGrd hI.out.g1 (.tmp 3) rfl ?_) | first | (go_at_call 60; first | refine rin ?_ | refine rout ?_ | refine rany ?_) | ((first | (go_at_call 86) | (go_at_call 41) | (go_at_call 74) | (go_at_call 28) | (go_at_call 109) | (fail) | (fail)); first | refine rin ?_ | refine rout ?_ | refine rany ?_)
          have hlv := fun wr h => lastVisit_any V d m day wr h
          rw [hoz.out] at hlv
          refine (hlv _ hI.out.mb).mono ?_
          clear hlv
          rintro e wn ⟨u', rfl, hu, hbn⟩
          obtain rfl : u = u' := hu.symm
          clear hu
          have hI := Lib.hid (hI.out.step hbn)
          clear hbn c0 c1 c2
          have c0 := hI.out.g2.c 0 _ rfl
          have c1 := hI.out.g2.c 1 _ rfl
          have c2 := hI.out.g2.c 2 _ rfl
          have hN := Lib.hid ((hI.out.g3.alloc (.cells #[.int .i64 u.day, .int .i64 u.kind, .int .i64 u.tilt, .int .i64 u.push] 88)))
          have hbA := Lib.hid (below_step hI.out.hb (below_alloc wn (.cells #[.int .i64 u.day, .int .i64 u.kind, .int .i64 u.tilt, .int .i64 u.push] 88)))
          go_wp2_with first | (refine wpList_store_box rfl 88 (.tmp 6) (.tmp 37) rfl (w.heap.size + 1 + 1) _ [.int .i64 u.day, .int .i64 u.kind, .int .i64 u.tilt, .int .i64 u.push] (by rfl) (by rfl) hN.out rfl viSize (by kernel_rfl) ?_; intro w3 h3 hg3)
          (try simp only [Exit.inBlock, Exit.then])
          refine bodyPost_ret (results_mid2 rfl _ _ (w.heap.size + 1 + 1) [.int .i64 u.day, .int .i64 u.kind, .int .i64 u.tilt, .int .i64 u.push] _ rfl h3.range Tryz.underlying88 rfl viSize) rfl ⟨u, by rw [hfin.out]; rfl, fun h => by first | exact hoz.out | exact absurd (hfin.out.symm.trans h) (by decide), below_of_grownB hbA.out hg3 (by omega)⟩
      · have hfin : Hid (Cal.byErr g m day = 2) := Cal.by_bad (by unfold Cal.byErr0; rw [if_pos hE, if_pos hF, if_neg h2]) (by decide)
        have h2' : day < 0 ∨ 200000 < day := by omega
        clear h2 hE hF
        have c0 := hI.out.g2.c 0 _ rfl
        have c1 := hI.out.g2.c 1 _ rfl
        have c2 := hI.out.g2.c 2 _ rfl
        go_enter Tryz.func77, Tryz.ntmps77
        go_wp2_with first | (refine wpGrd hI.out.g1 (.tmp 3) rfl ?_) | first | (go_at_call 60; first | refine rin ?_ | refine rout ?_ | refine rany ?_) | ((first | (go_at_call 86) | (go_at_call 41) | (go_at_call 74) | (go_at_call 28) | (go_at_call 109) | (fail) | (fail)); first | refine rin ?_ | refine rout ?_ | refine rany ?_)
        refine (CheckGrading_any g _).mono ?_
        rintro e wn ⟨he, hbn⟩
        subst he
        rw [hEz.out]
        have hI := Lib.hid (hI.out.step hbn)
        clear hbn c0 c1 c2
        have c0 := hI.out.g2.c 0 _ rfl
        have c1 := hI.out.g2.c 1 _ rfl
        have c2 := hI.out.g2.c 2 _ rfl
        go_wp2_with first | (refine wpGrd hI.out.g1 (.tmp 3) rfl ?_) | first | (go_at_call 60; first | refine rin ?_ | refine rout ?_ | refine rany ?_) | ((first | (go_at_call 86) | (go_at_call 41) | (go_at_call 74) | (go_at_call 28) | (go_at_call 109) | (fail) | (fail)); first | refine rin ?_ | refine rout ?_ | refine rany ?_)
        refine (CheckMonument_any _ _ m _ hI.out.mb).mono ?_
        rintro e wn ⟨he, hbn⟩
        subst he
        rw [hMz.out]
        have hI := Lib.hid (hI.out.step hbn)
        clear hbn c0 c1 c2
        have c0 := hI.out.g2.c 0 _ rfl
        have c1 := hI.out.g2.c 1 _ rfl
        have c2 := hI.out.g2.c 2 _ rfl
        go_wp2_with first | (refine wpList_store_box rfl 88 (.tmp 6) (.tmp 27) rfl (w.heap.size + 1 + 1) _ [.int .i64 0, .int .i64 0, .int .i64 0, .int .i64 0] (by rfl) (by rfl) hI.out.g3 rfl viSize (by kernel_rfl) ?_; intro w3 h3 hg3) | first | (go_at_call 60; first | refine rin ?_ | refine rout ?_ | refine rany ?_) | ((first | (go_at_call 86) | (go_at_call 41) | (go_at_call 74) | (go_at_call 28) | (go_at_call 109) | (fail) | (fail)); first | refine rin ?_ | refine rout ?_ | refine rany ?_)
        (try simp only [Exit.inBlock, Exit.then])
        refine bodyPost_ret (results_mid2 rfl _ _ (w.heap.size + 1 + 1) [.int .i64 0, .int .i64 0, .int .i64 0, .int .i64 0] _ rfl h3.range Tryz.underlying88 rfl viSize) rfl ⟨zeroVis, by rw [hfin.out]; rfl, fun h => absurd (hfin.out.symm.trans h) (by first | exact hne.out | decide), below_of_grownB hI.out.hb hg3 (by omega)⟩
    · have hfin : Hid (Cal.byErr g m day = F) := Cal.by_bad (by unfold Cal.byErr0; rw [if_pos hE, if_neg (by rw [hF]; exact h1), hF]) h1
      have hne := Lib.hid h1
      have hb1 : (F != 0) = true := by simpa using h1
      clear hE hF h1
      have c0 := hI.out.g2.c 0 _ rfl
      have c1 := hI.out.g2.c 1 _ rfl
      have c2 := hI.out.g2.c 2 _ rfl
      go_enter Tryz.func77, Tryz.ntmps77
      go_wp2_with first | (refine wpGrd hI.out.g1 (.tmp 3) rfl ?_) | first | (go_at_call 60; first | refine rin ?_ | refine rout ?_ | refine rany ?_) | ((first | (go_at_call 86) | (go_at_call 41) | (go_at_call 74) | (go_at_call 28) | (go_at_call 109) | (fail) | (fail)); first | refine rin ?_ | refine rout ?_ | refine rany ?_)
      refine (CheckGrading_any g _).mono ?_
      rintro e wn ⟨he, hbn⟩
      subst he
      rw [hEz.out]
      have hI := Lib.hid (hI.out.step hbn)
      clear hbn c0 c1 c2
      have c0 := hI.out.g2.c 0 _ rfl
      have c1 := hI.out.g2.c 1 _ rfl
      have c2 := hI.out.g2.c 2 _ rfl
      go_wp2_with first | (refine wpGrd hI.out.g1 (.tmp 3) rfl ?_) | first | (go_at_call 60; first | refine rin ?_ | refine rout ?_ | refine rany ?_) | ((first | (go_at_call 86) | (go_at_call 41) | (go_at_call 74) | (go_at_call 28) | (go_at_call 109) | (fail) | (fail)); first | refine rin ?_ | refine rout ?_ | refine rany ?_)
      refine (CheckMonument_any _ _ m _ hI.out.mb).mono ?_
      rintro e wn ⟨he, hbn⟩
      subst he
      rw [hMz.out]
      have hI := Lib.hid (hI.out.step hbn)
      clear hbn c0 c1 c2
      have c0 := hI.out.g2.c 0 _ rfl
      have c1 := hI.out.g2.c 1 _ rfl
      have c2 := hI.out.g2.c 2 _ rfl
      go_wp2_with first | (refine wpList_store_box rfl 88 (.tmp 6) (.tmp 22) rfl (w.heap.size + 1 + 1) _ [.int .i64 0, .int .i64 0, .int .i64 0, .int .i64 0] (by rfl) (by rfl) hI.out.g3 rfl viSize (by kernel_rfl) ?_; intro w3 h3 hg3) | first | (go_at_call 60; first | refine rin ?_ | refine rout ?_ | refine rany ?_) | ((first | (go_at_call 86) | (go_at_call 41) | (go_at_call 74) | (go_at_call 28) | (go_at_call 109) | (fail) | (fail)); first | refine rin ?_ | refine rout ?_ | refine rany ?_)
      (try simp only [Exit.inBlock, Exit.then])
      refine bodyPost_ret (results_mid2 rfl _ _ (w.heap.size + 1 + 1) [.int .i64 0, .int .i64 0, .int .i64 0, .int .i64 0] _ rfl h3.range Tryz.underlying88 rfl viSize) rfl ⟨zeroVis, by rw [hfin.out]; rfl, fun h => absurd (hfin.out.symm.trans h) (by first | exact hne.out | decide), below_of_grownB hI.out.hb hg3 (by omega)⟩
  · have hfin : Hid (Cal.byErr g m day = E) := Cal.by_bad (by unfold Cal.byErr0; rw [if_neg (by rw [hE]; exact h0), hE]) h0
    have hne := Lib.hid h0
    have hb1 : (E != 0) = true := by simpa using h0
    clear hE h0
    have c0 := hI.out.g2.c 0 _ rfl
    have c1 := hI.out.g2.c 1 _ rfl
    have c2 := hI.out.g2.c 2 _ rfl
    go_enter Tryz.func77, Tryz.ntmps77
    go_wp2_with first | (refine wpGrd hI.out.g1 (.tmp 3) rfl ?_) | first | (go_at_call 60; first | refine rin ?_ | refine rout ?_ | refine rany ?_) | ((first | (go_at_call 86) | (go_at_call 41) | (go_at_call 74) | (go_at_call 28) | (go_at_call 109) | (fail) | (fail)); first | refine rin ?_ | refine rout ?_ | refine rany ?_)
    refine (CheckGrading_any g _).mono ?_
    rintro e wn ⟨he, hbn⟩
    subst he
    rw [hEz.out]
    have hI := Lib.hid (hI.out.step hbn)
    clear hbn c0 c1 c2
    have c0 := hI.out.g2.c 0 _ rfl
    have c1 := hI.out.g2.c 1 _ rfl
    have c2 := hI.out.g2.c 2 _ rfl
    go_wp2_with first | (refine wpList_store_box rfl 88 (.tmp 6) (.tmp 16) rfl (w.heap.size + 1 + 1) _ [.int .i64 0, .int .i64 0, .int .i64 0, .int .i64 0] (by rfl) (by rfl) hI.out.g3 rfl viSize (by kernel_rfl) ?_; intro w3 h3 hg3) | first | (go_at_call 60; first | refine rin ?_ | refine rout ?_ | refine rany ?_) | ((first | (go_at_call 86) | (go_at_call 41) | (go_at_call 74) | (go_at_call 28) | (go_at_call 109) | (fail) | (fail)); first | refine rin ?_ | refine rout ?_ | refine rany ?_)
    (try simp only [Exit.inBlock, Exit.then])
    refine bodyPost_ret (results_mid2 rfl _ _ (w.heap.size + 1 + 1) [.int .i64 0, .int .i64 0, .int .i64 0, .int .i64 0] _ rfl h3.range Tryz.underlying88 rfl viSize) rfl ⟨zeroVis, by rw [hfin.out]; rfl, fun h => absurd (hfin.out.symm.trans h) (by first | exact hne.out | decide), below_of_grownB hI.out.hb hg3 (by omega)⟩
end Go.Proofs.YtconnjkkgaapbaaGreatDoor
namespace Go.Proofs.YtconnjkkgaapbaaGreatDoor
open Go Go.RowKit
/-- The months of a grade. -/
def Grad.mo (g : Grad) (x : Int) : Int := if x = 0 then g.m0 else if x = 1 then g.m1 else if x = 2 then g.m2 else g.m3
def Cal.dueS (g : Grad) (v : Vis) : Int × Int := Cal.addS v.day (g.mo (Cal.gradeS g v))
theorem Cal.grade_cases (g : Grad) (v : Vis) : Cal.gradeS g v = 0 ∨ Cal.gradeS g v = 1 ∨ Cal.gradeS g v = 2 ∨ Cal.gradeS g v = 3 := by
  unfold Cal.gradeS
  split
  · split
    · exact .inr (.inr (.inr rfl))
    · split
      · exact .inr (.inr (.inl rfl))
      · split
        · exact .inr (.inl rfl)
        · exact .inl rfl
  · exact .inl rfl
structure VB2 (w : World) (g : Grad) (v : Vis) (wr : World) : Prop where
  hb : Below w.heap.size w wr
  g1 : BoxAt wr w.heap.size [.int .i64 g.t0, .int .i64 g.t1, .int .i64 g.t2, .int .i64 g.p0, .int .i64 g.p1, .int .i64 g.p2, .int .i64 g.m0, .int .i64 g.m1, .int .i64 g.m2, .int .i64 g.m3]
  g2 : BoxAt wr (w.heap.size + 1) [.int .i64 v.day, .int .i64 v.kind, .int .i64 v.tilt, .int .i64 v.push]
  tab : Tab wr
theorem VB2.step {w : World} {g : Grad} {v : Vis} {wr w' : World} (h : VB2 w g v wr) (hb : Below wr.heap.size wr w') : VB2 w g v w' :=
  ⟨below_step h.hb hb, h.g1.below hb, h.g2.below hb, h.tab.below hb⟩
theorem start2v (w : World) (g : Grad) (v : Vis) (hT : Tab w) : VB2 w g v ((w.alloc (.cells #[.int .i64 g.t0, .int .i64 g.t1, .int .i64 g.t2, .int .i64 g.p0, .int .i64 g.p1, .int .i64 g.p2, .int .i64 g.m0, .int .i64 g.m1, .int .i64 g.m2, .int .i64 g.m3] 77)).alloc (.cells #[.int .i64 v.day, .int .i64 v.kind, .int .i64 v.tilt, .int .i64 v.push] 88)) := by
  have h2 := BoxAt.new (w.alloc (.cells #[.int .i64 g.t0, .int .i64 g.t1, .int .i64 g.t2, .int .i64 g.p0, .int .i64 g.p1, .int .i64 g.p2, .int .i64 g.m0, .int .i64 g.m1, .int .i64 g.m2, .int .i64 g.m3] 77)) #[.int .i64 v.day, .int .i64 v.kind, .int .i64 v.tilt, .int .i64 v.push] 88
  rw [World.size_alloc] at h2
  have hb : Below w.heap.size w ((w.alloc (.cells #[.int .i64 g.t0, .int .i64 g.t1, .int .i64 g.t2, .int .i64 g.p0, .int .i64 g.p1, .int .i64 g.p2, .int .i64 g.m0, .int .i64 g.m1, .int .i64 g.m2, .int .i64 g.m3] 77)).alloc (.cells #[.int .i64 v.day, .int .i64 v.kind, .int .i64 v.tilt, .int .i64 v.push] 88)) := below_step (below_alloc _ _) (below_alloc _ _)
  exact ⟨hb, (BoxAt.new w _ _).alloc _, h2, hT.below hb⟩
set_option maxRecDepth 100000 in
set_option maxHeartbeats 8000000 in
theorem due_any (g : Grad) (v : Vis) (w : World) (hT : Tab w) :
    Calls Tryz.prog 79 #[.agg #[.int .i64 g.t0, .int .i64 g.t1, .int .i64 g.t2, .int .i64 g.p0, .int .i64 g.p1, .int .i64 g.p2, .int .i64 g.m0, .int .i64 g.m1, .int .i64 g.m2, .int .i64 g.m3], .agg #[.int .i64 v.day, .int .i64 v.kind, .int .i64 v.tilt, .int .i64 v.push]] w fun e w' => e = .returned (.tuple #[.int .i64 (Cal.dueS g v).1, .int .i64 (Cal.dueS g v).2]) ∧ Below w.heap.size w w' := by
  have hI := Lib.hid (start2v w g v hT)
  clear hT
  rcases Cal.grade_cases g v with hx | hx | hx | hx
  · have hfin : Hid (Cal.dueS g v = Cal.addS v.day g.m0) := by show _ = _; unfold Cal.dueS; rw [hx]; rfl
    have hxz := Lib.hid hx
    clear hx
    go_enter Tryz.func79, Tryz.ntmps79
    go_wp2_with fail
    refine wp_region_held_drew (S := (fun w' => BoxAt w' w.heap.size [.int .i64 g.t0, .int .i64 g.t1, .int .i64 g.t2, .int .i64 g.p0, .int .i64 g.p1, .int .i64 g.p2, .int .i64 g.m0, .int .i64 g.m1, .int .i64 g.m2, .int .i64 g.m3] ∧ w'.cell? ⟨w.heap.size + 1, 0, none⟩ = some (.int .i64 v.day) ∧ w'.cell? ⟨w.heap.size + 1, 1, none⟩ = some (.int .i64 v.kind) ∧ w'.cell? ⟨w.heap.size + 1, 2, none⟩ = some (.int .i64 v.tilt) ∧ w'.cell? ⟨w.heap.size + 1, 3, none⟩ = some (.int .i64 v.push) ∧ w'.cell? ⟨w.heap.size, 6, none⟩ = some (.int .i64 g.m0))) (by kernel_rfl) ⟨hI.out.g1.below (Below.refl _ _).drew, hI.out.g2.c 0 _ rfl, hI.out.g2.c 1 _ rfl, hI.out.g2.c 2 _ rfl, hI.out.g2.c 3 _ rfl, hI.out.g1.c 6 _ rfl⟩ (fun hHeld => ?_)
    (refine tkH 0 (v := ?_) ?_ ?_; rotate_left; focus (intro w' hSw; (try dsimp only at hSw); go_simp; (try with_reducible rfl)); (try simp only [Act.put, List.setIfInBounds_toArray, List.set_cons_zero, List.set_cons_succ]))
    (refine tkH 1 (v := ?_) ?_ ?_; rotate_left; focus (intro w' hSw; (try dsimp only at hSw); go_simp; (try with_reducible rfl)); (try simp only [Act.put, List.setIfInBounds_toArray, List.set_cons_zero, List.set_cons_succ]))
    (refine wpAnyH_take (i := 2) (v := _) rfl (by kernel_rfl) (by decide +kernel) (by decide +kernel) (fun _ _ _ h => h) (yieldsIf_load_mid (by kernel_rfl) 77 _ rfl (w.heap.size) 0 (by kernel_rfl) [.int .i64 g.t0, .int .i64 g.t1, .int .i64 g.t2, .int .i64 g.p0, .int .i64 g.p1, .int .i64 g.p2, .int .i64 g.m0, .int .i64 g.m1, .int .i64 g.m2, .int .i64 g.m3] _ (fun _ h => h.1.range) Tryz.underlying77 rfl grSize) (by assumption) ?_; (try simp only [Act.put, List.setIfInBounds_toArray]); (try simp only [List.set_cons_zero, List.set_cons_succ]))
    (refine tkH 3 (v := ?_) ?_ ?_; rotate_left; focus (intro w' hSw; (try dsimp only at hSw); go_simp; (try with_reducible rfl)); (try simp only [Act.put, List.setIfInBounds_toArray, List.set_cons_zero, List.set_cons_succ]))
    (refine tkH 5 (v := ?_) ?_ ?_; rotate_left; focus (intro w' hSw; (try dsimp only at hSw); go_simp; (try with_reducible rfl)); (try simp only [Act.put, List.setIfInBounds_toArray, List.set_cons_zero, List.set_cons_succ]))
    (refine wpAnyH_ready (rs := [4]) (by decide +kernel) (by simp) ?_; refine AllReadyH.cons rfl (fun K hK => ?_) AllReadyH.nil; rw [if_pos (by kernel_rfl)]; go_simp)
    refine (grade_any g v _).mono ?_
    rw [hxz.out]
    rintro e w5 ⟨rfl, hb5⟩
    have hb45 := below_of_drewN (n := 1) hb5
    have hI := Lib.hid (hI.out.step hb45)
    clear hb45 hb5
    go_simp
    (refine hK.out _ _ ⟨hI.out.g1, hI.out.g2.c 0 _ rfl, hI.out.g2.c 1 _ rfl, hI.out.g2.c 2 _ rfl, hI.out.g2.c 3 _ rfl, hI.out.g1.c 6 _ rfl⟩ (fun hHeld => ?_); clear hK K; (try simp only [Act.put, List.setIfInBounds_toArray]); (try simp only [List.set_cons_zero, List.set_cons_succ]))
    (refine tkH 6 (v := ?_) ?_ ?_; rotate_left; focus (intro w' hSw; (try dsimp only at hSw); go_simp; (try with_reducible rfl)); (try simp only [Act.put, List.setIfInBounds_toArray, List.set_cons_zero, List.set_cons_succ]))
    (refine tkH 7 (v := ?_) ?_ ?_; rotate_left; focus (intro w' hSw; (try dsimp only at hSw); go_simp; (try with_reducible rfl)); (try simp only [Act.put, List.setIfInBounds_toArray, List.set_cons_zero, List.set_cons_succ]))
    (refine wpAnyH_ready (rs := [8]) (by decide +kernel) (by simp) ?_; refine AllReadyH.cons rfl (fun K hK => ?_) AllReadyH.nil; rw [if_pos (by kernel_rfl)]; go_simp)
    refine (AddMonths_any _ _ _ hI.out.tab).mono ?_
    rintro e w6 ⟨rfl, hb6⟩
    have hI := Lib.hid (hI.out.step hb6)
    clear hb6
    go_simp
    (refine hK.out _ _ ⟨hI.out.g1, hI.out.g2.c 0 _ rfl, hI.out.g2.c 1 _ rfl, hI.out.g2.c 2 _ rfl, hI.out.g2.c 3 _ rfl, hI.out.g1.c 6 _ rfl⟩ (fun hHeld => ?_); clear hK K; (try simp only [Act.put, List.setIfInBounds_toArray]); (try simp only [List.set_cons_zero, List.set_cons_succ]))
    (refine tkH 9 (v := ?_) ?_ ?_; rotate_left; focus (intro w' hSw; (try dsimp only at hSw); go_simp; (try with_reducible rfl)); (try simp only [Act.put, List.setIfInBounds_toArray, List.set_cons_zero, List.set_cons_succ]))
    (refine tkH 10 (v := ?_) ?_ ?_; rotate_left; focus (intro w' hSw; (try dsimp only at hSw); go_simp; (try with_reducible rfl)); (try simp only [Act.put, List.setIfInBounds_toArray, List.set_cons_zero, List.set_cons_succ]))
    (refine tkH 11 (v := ?_) ?_ ?_; rotate_left; focus (intro w' hSw; (try dsimp only at hSw); go_simp; (try with_reducible rfl)); (try simp only [Act.put, List.setIfInBounds_toArray, List.set_cons_zero, List.set_cons_succ]))
    (refine tkH 12 (v := ?_) ?_ ?_; rotate_left; focus (intro w' hSw; (try dsimp only at hSw); go_simp; (try with_reducible rfl)); (try simp only [Act.put, List.setIfInBounds_toArray, List.set_cons_zero, List.set_cons_succ]))
    refine wpAnyH_done (by kernel_rfl) ?_ _
    go_wp2_with fail
    go_ret2
    exact ⟨by rw [hfin.out]; rfl, hI.out.hb⟩
  · have hfin : Hid (Cal.dueS g v = Cal.addS v.day g.m1) := by show _ = _; unfold Cal.dueS; rw [hx]; rfl
    have hxz := Lib.hid hx
    clear hx
    go_enter Tryz.func79, Tryz.ntmps79
    go_wp2_with fail
    refine wp_region_held_drew (S := (fun w' => BoxAt w' w.heap.size [.int .i64 g.t0, .int .i64 g.t1, .int .i64 g.t2, .int .i64 g.p0, .int .i64 g.p1, .int .i64 g.p2, .int .i64 g.m0, .int .i64 g.m1, .int .i64 g.m2, .int .i64 g.m3] ∧ w'.cell? ⟨w.heap.size + 1, 0, none⟩ = some (.int .i64 v.day) ∧ w'.cell? ⟨w.heap.size + 1, 1, none⟩ = some (.int .i64 v.kind) ∧ w'.cell? ⟨w.heap.size + 1, 2, none⟩ = some (.int .i64 v.tilt) ∧ w'.cell? ⟨w.heap.size + 1, 3, none⟩ = some (.int .i64 v.push) ∧ w'.cell? ⟨w.heap.size, 7, none⟩ = some (.int .i64 g.m1))) (by kernel_rfl) ⟨hI.out.g1.below (Below.refl _ _).drew, hI.out.g2.c 0 _ rfl, hI.out.g2.c 1 _ rfl, hI.out.g2.c 2 _ rfl, hI.out.g2.c 3 _ rfl, hI.out.g1.c 7 _ rfl⟩ (fun hHeld => ?_)
    (refine tkH 0 (v := ?_) ?_ ?_; rotate_left; focus (intro w' hSw; (try dsimp only at hSw); go_simp; (try with_reducible rfl)); (try simp only [Act.put, List.setIfInBounds_toArray, List.set_cons_zero, List.set_cons_succ]))
    (refine tkH 1 (v := ?_) ?_ ?_; rotate_left; focus (intro w' hSw; (try dsimp only at hSw); go_simp; (try with_reducible rfl)); (try simp only [Act.put, List.setIfInBounds_toArray, List.set_cons_zero, List.set_cons_succ]))
    (refine wpAnyH_take (i := 2) (v := _) rfl (by kernel_rfl) (by decide +kernel) (by decide +kernel) (fun _ _ _ h => h) (yieldsIf_load_mid (by kernel_rfl) 77 _ rfl (w.heap.size) 0 (by kernel_rfl) [.int .i64 g.t0, .int .i64 g.t1, .int .i64 g.t2, .int .i64 g.p0, .int .i64 g.p1, .int .i64 g.p2, .int .i64 g.m0, .int .i64 g.m1, .int .i64 g.m2, .int .i64 g.m3] _ (fun _ h => h.1.range) Tryz.underlying77 rfl grSize) (by assumption) ?_; (try simp only [Act.put, List.setIfInBounds_toArray]); (try simp only [List.set_cons_zero, List.set_cons_succ]))
    (refine tkH 3 (v := ?_) ?_ ?_; rotate_left; focus (intro w' hSw; (try dsimp only at hSw); go_simp; (try with_reducible rfl)); (try simp only [Act.put, List.setIfInBounds_toArray, List.set_cons_zero, List.set_cons_succ]))
    (refine tkH 5 (v := ?_) ?_ ?_; rotate_left; focus (intro w' hSw; (try dsimp only at hSw); go_simp; (try with_reducible rfl)); (try simp only [Act.put, List.setIfInBounds_toArray, List.set_cons_zero, List.set_cons_succ]))
    (refine wpAnyH_ready (rs := [4]) (by decide +kernel) (by simp) ?_; refine AllReadyH.cons rfl (fun K hK => ?_) AllReadyH.nil; rw [if_pos (by kernel_rfl)]; go_simp)
    refine (grade_any g v _).mono ?_
    rw [hxz.out]
    rintro e w5 ⟨rfl, hb5⟩
    have hb45 := below_of_drewN (n := 1) hb5
    have hI := Lib.hid (hI.out.step hb45)
    clear hb45 hb5
    go_simp
    (refine hK.out _ _ ⟨hI.out.g1, hI.out.g2.c 0 _ rfl, hI.out.g2.c 1 _ rfl, hI.out.g2.c 2 _ rfl, hI.out.g2.c 3 _ rfl, hI.out.g1.c 7 _ rfl⟩ (fun hHeld => ?_); clear hK K; (try simp only [Act.put, List.setIfInBounds_toArray]); (try simp only [List.set_cons_zero, List.set_cons_succ]))
    (refine tkH 6 (v := ?_) ?_ ?_; rotate_left; focus (intro w' hSw; (try dsimp only at hSw); go_simp; (try with_reducible rfl)); (try simp only [Act.put, List.setIfInBounds_toArray, List.set_cons_zero, List.set_cons_succ]))
    (refine tkH 7 (v := ?_) ?_ ?_; rotate_left; focus (intro w' hSw; (try dsimp only at hSw); go_simp; (try with_reducible rfl)); (try simp only [Act.put, List.setIfInBounds_toArray, List.set_cons_zero, List.set_cons_succ]))
    (refine wpAnyH_ready (rs := [8]) (by decide +kernel) (by simp) ?_; refine AllReadyH.cons rfl (fun K hK => ?_) AllReadyH.nil; rw [if_pos (by kernel_rfl)]; go_simp)
    refine (AddMonths_any _ _ _ hI.out.tab).mono ?_
    rintro e w6 ⟨rfl, hb6⟩
    have hI := Lib.hid (hI.out.step hb6)
    clear hb6
    go_simp
    (refine hK.out _ _ ⟨hI.out.g1, hI.out.g2.c 0 _ rfl, hI.out.g2.c 1 _ rfl, hI.out.g2.c 2 _ rfl, hI.out.g2.c 3 _ rfl, hI.out.g1.c 7 _ rfl⟩ (fun hHeld => ?_); clear hK K; (try simp only [Act.put, List.setIfInBounds_toArray]); (try simp only [List.set_cons_zero, List.set_cons_succ]))
    (refine tkH 9 (v := ?_) ?_ ?_; rotate_left; focus (intro w' hSw; (try dsimp only at hSw); go_simp; (try with_reducible rfl)); (try simp only [Act.put, List.setIfInBounds_toArray, List.set_cons_zero, List.set_cons_succ]))
    (refine tkH 10 (v := ?_) ?_ ?_; rotate_left; focus (intro w' hSw; (try dsimp only at hSw); go_simp; (try with_reducible rfl)); (try simp only [Act.put, List.setIfInBounds_toArray, List.set_cons_zero, List.set_cons_succ]))
    (refine tkH 11 (v := ?_) ?_ ?_; rotate_left; focus (intro w' hSw; (try dsimp only at hSw); go_simp; (try with_reducible rfl)); (try simp only [Act.put, List.setIfInBounds_toArray, List.set_cons_zero, List.set_cons_succ]))
    (refine tkH 12 (v := ?_) ?_ ?_; rotate_left; focus (intro w' hSw; (try dsimp only at hSw); go_simp; (try with_reducible rfl)); (try simp only [Act.put, List.setIfInBounds_toArray, List.set_cons_zero, List.set_cons_succ]))
    refine wpAnyH_done (by kernel_rfl) ?_ _
    go_wp2_with fail
    go_ret2
    exact ⟨by rw [hfin.out]; rfl, hI.out.hb⟩
  · have hfin : Hid (Cal.dueS g v = Cal.addS v.day g.m2) := by show _ = _; unfold Cal.dueS; rw [hx]; rfl
    have hxz := Lib.hid hx
    clear hx
    go_enter Tryz.func79, Tryz.ntmps79
    go_wp2_with fail
    refine wp_region_held_drew (S := (fun w' => BoxAt w' w.heap.size [.int .i64 g.t0, .int .i64 g.t1, .int .i64 g.t2, .int .i64 g.p0, .int .i64 g.p1, .int .i64 g.p2, .int .i64 g.m0, .int .i64 g.m1, .int .i64 g.m2, .int .i64 g.m3] ∧ w'.cell? ⟨w.heap.size + 1, 0, none⟩ = some (.int .i64 v.day) ∧ w'.cell? ⟨w.heap.size + 1, 1, none⟩ = some (.int .i64 v.kind) ∧ w'.cell? ⟨w.heap.size + 1, 2, none⟩ = some (.int .i64 v.tilt) ∧ w'.cell? ⟨w.heap.size + 1, 3, none⟩ = some (.int .i64 v.push) ∧ w'.cell? ⟨w.heap.size, 8, none⟩ = some (.int .i64 g.m2))) (by kernel_rfl) ⟨hI.out.g1.below (Below.refl _ _).drew, hI.out.g2.c 0 _ rfl, hI.out.g2.c 1 _ rfl, hI.out.g2.c 2 _ rfl, hI.out.g2.c 3 _ rfl, hI.out.g1.c 8 _ rfl⟩ (fun hHeld => ?_)
    (refine tkH 0 (v := ?_) ?_ ?_; rotate_left; focus (intro w' hSw; (try dsimp only at hSw); go_simp; (try with_reducible rfl)); (try simp only [Act.put, List.setIfInBounds_toArray, List.set_cons_zero, List.set_cons_succ]))
    (refine tkH 1 (v := ?_) ?_ ?_; rotate_left; focus (intro w' hSw; (try dsimp only at hSw); go_simp; (try with_reducible rfl)); (try simp only [Act.put, List.setIfInBounds_toArray, List.set_cons_zero, List.set_cons_succ]))
    (refine wpAnyH_take (i := 2) (v := _) rfl (by kernel_rfl) (by decide +kernel) (by decide +kernel) (fun _ _ _ h => h) (yieldsIf_load_mid (by kernel_rfl) 77 _ rfl (w.heap.size) 0 (by kernel_rfl) [.int .i64 g.t0, .int .i64 g.t1, .int .i64 g.t2, .int .i64 g.p0, .int .i64 g.p1, .int .i64 g.p2, .int .i64 g.m0, .int .i64 g.m1, .int .i64 g.m2, .int .i64 g.m3] _ (fun _ h => h.1.range) Tryz.underlying77 rfl grSize) (by assumption) ?_; (try simp only [Act.put, List.setIfInBounds_toArray]); (try simp only [List.set_cons_zero, List.set_cons_succ]))
    (refine tkH 3 (v := ?_) ?_ ?_; rotate_left; focus (intro w' hSw; (try dsimp only at hSw); go_simp; (try with_reducible rfl)); (try simp only [Act.put, List.setIfInBounds_toArray, List.set_cons_zero, List.set_cons_succ]))
    (refine tkH 5 (v := ?_) ?_ ?_; rotate_left; focus (intro w' hSw; (try dsimp only at hSw); go_simp; (try with_reducible rfl)); (try simp only [Act.put, List.setIfInBounds_toArray, List.set_cons_zero, List.set_cons_succ]))
    (refine wpAnyH_ready (rs := [4]) (by decide +kernel) (by simp) ?_; refine AllReadyH.cons rfl (fun K hK => ?_) AllReadyH.nil; rw [if_pos (by kernel_rfl)]; go_simp)
    refine (grade_any g v _).mono ?_
    rw [hxz.out]
    rintro e w5 ⟨rfl, hb5⟩
    have hb45 := below_of_drewN (n := 1) hb5
    have hI := Lib.hid (hI.out.step hb45)
    clear hb45 hb5
    go_simp
    (refine hK.out _ _ ⟨hI.out.g1, hI.out.g2.c 0 _ rfl, hI.out.g2.c 1 _ rfl, hI.out.g2.c 2 _ rfl, hI.out.g2.c 3 _ rfl, hI.out.g1.c 8 _ rfl⟩ (fun hHeld => ?_); clear hK K; (try simp only [Act.put, List.setIfInBounds_toArray]); (try simp only [List.set_cons_zero, List.set_cons_succ]))
    (refine tkH 6 (v := ?_) ?_ ?_; rotate_left; focus (intro w' hSw; (try dsimp only at hSw); go_simp; (try with_reducible rfl)); (try simp only [Act.put, List.setIfInBounds_toArray, List.set_cons_zero, List.set_cons_succ]))
    (refine tkH 7 (v := ?_) ?_ ?_; rotate_left; focus (intro w' hSw; (try dsimp only at hSw); go_simp; (try with_reducible rfl)); (try simp only [Act.put, List.setIfInBounds_toArray, List.set_cons_zero, List.set_cons_succ]))
    (refine wpAnyH_ready (rs := [8]) (by decide +kernel) (by simp) ?_; refine AllReadyH.cons rfl (fun K hK => ?_) AllReadyH.nil; rw [if_pos (by kernel_rfl)]; go_simp)
    refine (AddMonths_any _ _ _ hI.out.tab).mono ?_
    rintro e w6 ⟨rfl, hb6⟩
    have hI := Lib.hid (hI.out.step hb6)
    clear hb6
    go_simp
    (refine hK.out _ _ ⟨hI.out.g1, hI.out.g2.c 0 _ rfl, hI.out.g2.c 1 _ rfl, hI.out.g2.c 2 _ rfl, hI.out.g2.c 3 _ rfl, hI.out.g1.c 8 _ rfl⟩ (fun hHeld => ?_); clear hK K; (try simp only [Act.put, List.setIfInBounds_toArray]); (try simp only [List.set_cons_zero, List.set_cons_succ]))
    (refine tkH 9 (v := ?_) ?_ ?_; rotate_left; focus (intro w' hSw; (try dsimp only at hSw); go_simp; (try with_reducible rfl)); (try simp only [Act.put, List.setIfInBounds_toArray, List.set_cons_zero, List.set_cons_succ]))
    (refine tkH 10 (v := ?_) ?_ ?_; rotate_left; focus (intro w' hSw; (try dsimp only at hSw); go_simp; (try with_reducible rfl)); (try simp only [Act.put, List.setIfInBounds_toArray, List.set_cons_zero, List.set_cons_succ]))
    (refine tkH 11 (v := ?_) ?_ ?_; rotate_left; focus (intro w' hSw; (try dsimp only at hSw); go_simp; (try with_reducible rfl)); (try simp only [Act.put, List.setIfInBounds_toArray, List.set_cons_zero, List.set_cons_succ]))
    (refine tkH 12 (v := ?_) ?_ ?_; rotate_left; focus (intro w' hSw; (try dsimp only at hSw); go_simp; (try with_reducible rfl)); (try simp only [Act.put, List.setIfInBounds_toArray, List.set_cons_zero, List.set_cons_succ]))
    refine wpAnyH_done (by kernel_rfl) ?_ _
    go_wp2_with fail
    go_ret2
    exact ⟨by rw [hfin.out]; rfl, hI.out.hb⟩
  · have hfin : Hid (Cal.dueS g v = Cal.addS v.day g.m3) := by show _ = _; unfold Cal.dueS; rw [hx]; rfl
    have hxz := Lib.hid hx
    clear hx
    go_enter Tryz.func79, Tryz.ntmps79
    go_wp2_with fail
    refine wp_region_held_drew (S := (fun w' => BoxAt w' w.heap.size [.int .i64 g.t0, .int .i64 g.t1, .int .i64 g.t2, .int .i64 g.p0, .int .i64 g.p1, .int .i64 g.p2, .int .i64 g.m0, .int .i64 g.m1, .int .i64 g.m2, .int .i64 g.m3] ∧ w'.cell? ⟨w.heap.size + 1, 0, none⟩ = some (.int .i64 v.day) ∧ w'.cell? ⟨w.heap.size + 1, 1, none⟩ = some (.int .i64 v.kind) ∧ w'.cell? ⟨w.heap.size + 1, 2, none⟩ = some (.int .i64 v.tilt) ∧ w'.cell? ⟨w.heap.size + 1, 3, none⟩ = some (.int .i64 v.push) ∧ w'.cell? ⟨w.heap.size, 9, none⟩ = some (.int .i64 g.m3))) (by kernel_rfl) ⟨hI.out.g1.below (Below.refl _ _).drew, hI.out.g2.c 0 _ rfl, hI.out.g2.c 1 _ rfl, hI.out.g2.c 2 _ rfl, hI.out.g2.c 3 _ rfl, hI.out.g1.c 9 _ rfl⟩ (fun hHeld => ?_)
    (refine tkH 0 (v := ?_) ?_ ?_; rotate_left; focus (intro w' hSw; (try dsimp only at hSw); go_simp; (try with_reducible rfl)); (try simp only [Act.put, List.setIfInBounds_toArray, List.set_cons_zero, List.set_cons_succ]))
    (refine tkH 1 (v := ?_) ?_ ?_; rotate_left; focus (intro w' hSw; (try dsimp only at hSw); go_simp; (try with_reducible rfl)); (try simp only [Act.put, List.setIfInBounds_toArray, List.set_cons_zero, List.set_cons_succ]))
    (refine wpAnyH_take (i := 2) (v := _) rfl (by kernel_rfl) (by decide +kernel) (by decide +kernel) (fun _ _ _ h => h) (yieldsIf_load_mid (by kernel_rfl) 77 _ rfl (w.heap.size) 0 (by kernel_rfl) [.int .i64 g.t0, .int .i64 g.t1, .int .i64 g.t2, .int .i64 g.p0, .int .i64 g.p1, .int .i64 g.p2, .int .i64 g.m0, .int .i64 g.m1, .int .i64 g.m2, .int .i64 g.m3] _ (fun _ h => h.1.range) Tryz.underlying77 rfl grSize) (by assumption) ?_; (try simp only [Act.put, List.setIfInBounds_toArray]); (try simp only [List.set_cons_zero, List.set_cons_succ]))
    (refine tkH 3 (v := ?_) ?_ ?_; rotate_left; focus (intro w' hSw; (try dsimp only at hSw); go_simp; (try with_reducible rfl)); (try simp only [Act.put, List.setIfInBounds_toArray, List.set_cons_zero, List.set_cons_succ]))
    (refine tkH 5 (v := ?_) ?_ ?_; rotate_left; focus (intro w' hSw; (try dsimp only at hSw); go_simp; (try with_reducible rfl)); (try simp only [Act.put, List.setIfInBounds_toArray, List.set_cons_zero, List.set_cons_succ]))
    (refine wpAnyH_ready (rs := [4]) (by decide +kernel) (by simp) ?_; refine AllReadyH.cons rfl (fun K hK => ?_) AllReadyH.nil; rw [if_pos (by kernel_rfl)]; go_simp)
    refine (grade_any g v _).mono ?_
    rw [hxz.out]
    rintro e w5 ⟨rfl, hb5⟩
    have hb45 := below_of_drewN (n := 1) hb5
    have hI := Lib.hid (hI.out.step hb45)
    clear hb45 hb5
    go_simp
    (refine hK.out _ _ ⟨hI.out.g1, hI.out.g2.c 0 _ rfl, hI.out.g2.c 1 _ rfl, hI.out.g2.c 2 _ rfl, hI.out.g2.c 3 _ rfl, hI.out.g1.c 9 _ rfl⟩ (fun hHeld => ?_); clear hK K; (try simp only [Act.put, List.setIfInBounds_toArray]); (try simp only [List.set_cons_zero, List.set_cons_succ]))
    (refine tkH 6 (v := ?_) ?_ ?_; rotate_left; focus (intro w' hSw; (try dsimp only at hSw); go_simp; (try with_reducible rfl)); (try simp only [Act.put, List.setIfInBounds_toArray, List.set_cons_zero, List.set_cons_succ]))
    (refine tkH 7 (v := ?_) ?_ ?_; rotate_left; focus (intro w' hSw; (try dsimp only at hSw); go_simp; (try with_reducible rfl)); (try simp only [Act.put, List.setIfInBounds_toArray, List.set_cons_zero, List.set_cons_succ]))
    (refine wpAnyH_ready (rs := [8]) (by decide +kernel) (by simp) ?_; refine AllReadyH.cons rfl (fun K hK => ?_) AllReadyH.nil; rw [if_pos (by kernel_rfl)]; go_simp)
    refine (AddMonths_any _ _ _ hI.out.tab).mono ?_
    rintro e w6 ⟨rfl, hb6⟩
    have hI := Lib.hid (hI.out.step hb6)
    clear hb6
    go_simp
    (refine hK.out _ _ ⟨hI.out.g1, hI.out.g2.c 0 _ rfl, hI.out.g2.c 1 _ rfl, hI.out.g2.c 2 _ rfl, hI.out.g2.c 3 _ rfl, hI.out.g1.c 9 _ rfl⟩ (fun hHeld => ?_); clear hK K; (try simp only [Act.put, List.setIfInBounds_toArray]); (try simp only [List.set_cons_zero, List.set_cons_succ]))
    (refine tkH 9 (v := ?_) ?_ ?_; rotate_left; focus (intro w' hSw; (try dsimp only at hSw); go_simp; (try with_reducible rfl)); (try simp only [Act.put, List.setIfInBounds_toArray, List.set_cons_zero, List.set_cons_succ]))
    (refine tkH 10 (v := ?_) ?_ ?_; rotate_left; focus (intro w' hSw; (try dsimp only at hSw); go_simp; (try with_reducible rfl)); (try simp only [Act.put, List.setIfInBounds_toArray, List.set_cons_zero, List.set_cons_succ]))
    (refine tkH 11 (v := ?_) ?_ ?_; rotate_left; focus (intro w' hSw; (try dsimp only at hSw); go_simp; (try with_reducible rfl)); (try simp only [Act.put, List.setIfInBounds_toArray, List.set_cons_zero, List.set_cons_succ]))
    (refine tkH 12 (v := ?_) ?_ ?_; rotate_left; focus (intro w' hSw; (try dsimp only at hSw); go_simp; (try with_reducible rfl)); (try simp only [Act.put, List.setIfInBounds_toArray, List.set_cons_zero, List.set_cons_succ]))
    refine wpAnyH_done (by kernel_rfl) ?_ _
    go_wp2_with fail
    go_ret2
    exact ⟨by rw [hfin.out]; rfl, hI.out.hb⟩
end Go.Proofs.YtconnjkkgaapbaaGreatDoor
