/- Chapter 8 and what it rests on: definitions and walks, part 19. -/
import Derived.Test.YtbinoelbjlgjkaaDoorC18
import Derived.Test.YtbinoelbjlgjkaaDoorC14
import Derived.Test.YtbinoelbjlgjkaaDoorC04
import Derived.Test.YtbinoelbjlgjkaaDoorC06
namespace Go.Proofs.YtbinoelbjlgjkaaDoor
open Go Go.RowKit
set_option maxRecDepth 100000 in
set_option maxHeartbeats 4000000 in
theorem DeadlineAt_any (A : Option Addr) (c : Nat) (p : Proc) (N : Option Addr) (d : Nat) (n : Note) (day : Int) (w : World) (hN : NB w A p N n) :
    Calls Tryd.prog 9 #[.agg #[.int .i64 p.runs.m, .int .i64 p.runs.d, .bool p.runs.k, .int .i64 p.obj.m, .int .i64 p.obj.d, .bool p.obj.k, .int .i64 p.wait.m, .int .i64 p.wait.d, .bool p.wait.k, .int .i64 p.exts, .int .i64 p.longest, .slice A p.hols.length c], .agg #[.string n.name, .int .i64 n.opened, .slice N n.acts.length d], .int .i64 day] w (IEPost w (Cal.dlAtS p n day)) := by
  have hN := Lib.hid hN
  by_cases hE : Cal.onE p n day = 0
  · have hon := Lib.hid (fun w1 h => on_ok A c p N d n day w1 h hE)
    obtain ⟨s, hs⟩ : ∃ s, Cal.stAt p n day = s := ⟨_, rfl⟩
    rw [hs] at hon
    by_cases hp : s.phase = 1
    · have hfin : Hid (Cal.dlAtS p n day = (s.deadline, 0)) := by show _ = _; unfold Cal.dlAtS; rw [if_pos hE, hs, if_pos hp]
      have hp1 : (s.phase != 1) = false := by simpa using hp
      clear hp hE hs
      obtain ⟨h1, h2, hb⟩ := start2 w A c p N d n
      have c0 := h2.out.c 0 _ rfl
      have c1 := h2.out.c 1 _ rfl
      have c2 := h2.out.c 2 _ rfl
      go_enter Tryd.func9, Tryd.ntmps9
      go_wp2_with (refine wpPr h1.out (.tmp 3) rfl ?_)
      clear c0 c1 c2
      refine (hon.out _ (hN.out.below hb.out)).mono ?_
      rintro e w1 ⟨he, hb1⟩
      subst he
      have hbw := Lib.hid (below_step hb.out hb1)
      have g1 := Lib.hid (h1.out.below hb1)
      have hz := (h1.out.below hb1).lt
      have hN8 := Lib.hid (BoxAt.new w1 #[.int .i64 0, .int .i64 0, .bool false, .int .i64 0, .int .i64 0, .bool false, .int .i64 0, .int .i64 0, .bool false, .int .i64 0, .int .i64 0, .slice none 0 0, .int .i64 0, .int .i64 0, .int .i64 0, .int .i64 0, .int .i64 0, .int .i64 0] 55)
      clear hb1 h1 h2 hb
      go_wp2_with ((refine wpList_store_box rfl 55 (.tmp 8) (.tmp 15) rfl (w1.heap.size) _ [.int .i64 p.runs.m, .int .i64 p.runs.d, .bool p.runs.k, .int .i64 p.obj.m, .int .i64 p.obj.d, .bool p.obj.k, .int .i64 p.wait.m, .int .i64 p.wait.d, .bool p.wait.k, .int .i64 p.exts, .int .i64 p.longest, .slice A p.hols.length c, .int .i64 s.phase, .int .i64 s.last, .int .i64 s.deadline, .int .i64 s.object, .int .i64 s.objected, .int .i64 s.extended] (by rfl) (by rfl) hN8.out rfl stSize (by kernel_rfl) ?_; intro w2 h8 hg8); have hb12 := below_of_grownB (below_alloc w1 _) hg8 (Nat.le_refl _); have hb2 := Lib.hid (below_step hbw.out hb12); have g2 := Lib.hid (g1.out.below hb12); have e12 := h8.c 12 _ rfl; have e14 := h8.c 14 _ rfl; have e9 := g2.out.c 11 _ rfl; have e6 := g2.out.c 6 _ rfl; have e7 := g2.out.c 7 _ rfl; have e8 := g2.out.c 8 _ rfl; have h8 := Lib.hid h8; clear hb12 hg8)
      go_ret2
      exact ⟨by rw [hfin.out]; first | done | rfl, hb2.out⟩
    · have hfin : Hid (Cal.dlAtS p n day = (0, 12)) := by show _ = _; unfold Cal.dlAtS; rw [if_pos hE, hs, if_neg hp]
      have hp1 : (s.phase != 1) = true := by simpa using hp
      clear hp hE hs
      obtain ⟨h1, h2, hb⟩ := start2 w A c p N d n
      have c0 := h2.out.c 0 _ rfl
      have c1 := h2.out.c 1 _ rfl
      have c2 := h2.out.c 2 _ rfl
      go_enter Tryd.func9, Tryd.ntmps9
      go_wp2_with (refine wpPr h1.out (.tmp 3) rfl ?_)
      clear c0 c1 c2
      refine (hon.out _ (hN.out.below hb.out)).mono ?_
      rintro e w1 ⟨he, hb1⟩
      subst he
      have hbw := Lib.hid (below_step hb.out hb1)
      have g1 := Lib.hid (h1.out.below hb1)
      have hz := (h1.out.below hb1).lt
      have hN8 := Lib.hid (BoxAt.new w1 #[.int .i64 0, .int .i64 0, .bool false, .int .i64 0, .int .i64 0, .bool false, .int .i64 0, .int .i64 0, .bool false, .int .i64 0, .int .i64 0, .slice none 0 0, .int .i64 0, .int .i64 0, .int .i64 0, .int .i64 0, .int .i64 0, .int .i64 0] 55)
      clear hb1 h1 h2 hb
      go_wp2_with ((refine wpList_store_box rfl 55 (.tmp 8) (.tmp 15) rfl (w1.heap.size) _ [.int .i64 p.runs.m, .int .i64 p.runs.d, .bool p.runs.k, .int .i64 p.obj.m, .int .i64 p.obj.d, .bool p.obj.k, .int .i64 p.wait.m, .int .i64 p.wait.d, .bool p.wait.k, .int .i64 p.exts, .int .i64 p.longest, .slice A p.hols.length c, .int .i64 s.phase, .int .i64 s.last, .int .i64 s.deadline, .int .i64 s.object, .int .i64 s.objected, .int .i64 s.extended] (by rfl) (by rfl) hN8.out rfl stSize (by kernel_rfl) ?_; intro w2 h8 hg8); have hb12 := below_of_grownB (below_alloc w1 _) hg8 (Nat.le_refl _); have hb2 := Lib.hid (below_step hbw.out hb12); have g2 := Lib.hid (g1.out.below hb12); have e12 := h8.c 12 _ rfl; have e14 := h8.c 14 _ rfl; have e9 := g2.out.c 11 _ rfl; have e6 := g2.out.c 6 _ rfl; have e7 := g2.out.c 7 _ rfl; have e8 := g2.out.c 8 _ rfl; have h8 := Lib.hid h8; clear hb12 hg8)
      go_ret2
      exact ⟨by rw [hfin.out]; first | done | rfl, hb2.out⟩
  · have hon := fun w1 h => on_bad A c p N d n day w1 h hE
    have hfin : Cal.dlAtS p n day = (0, Cal.onE p n day) := by unfold Cal.dlAtS; rw [if_neg hE]
    have hE1 : (Cal.onE p n day != 0) = true := by simpa using hE
    generalize Cal.onE p n day = E at *
    have hon := Lib.hid hon
    have hfin := Lib.hid hfin
    clear hE
    obtain ⟨h1, h2, hb⟩ := start2 w A c p N d n
    have c0 := h2.out.c 0 _ rfl
    have c1 := h2.out.c 1 _ rfl
    have c2 := h2.out.c 2 _ rfl
    go_enter Tryd.func9, Tryd.ntmps9
    go_wp2_with (refine wpPr h1.out (.tmp 3) rfl ?_)
    clear c0 c1 c2
    refine (hon.out _ (hN.out.below hb.out)).mono ?_
    rintro e w1 ⟨he, hb1⟩
    subst he
    have hbw := Lib.hid (below_step hb.out hb1)
    have g1 := Lib.hid (h1.out.below hb1)
    have hz := (h1.out.below hb1).lt
    have hN8 := Lib.hid (BoxAt.new w1 #[.int .i64 0, .int .i64 0, .bool false, .int .i64 0, .int .i64 0, .bool false, .int .i64 0, .int .i64 0, .bool false, .int .i64 0, .int .i64 0, .slice none 0 0, .int .i64 0, .int .i64 0, .int .i64 0, .int .i64 0, .int .i64 0, .int .i64 0] 55)
    clear hb1 h1 h2 hb
    go_wp2_with ((refine wpList_store_box rfl 55 (.tmp 8) (.tmp 15) rfl (w1.heap.size) _ [.int .i64 0, .int .i64 0, .bool false, .int .i64 0, .int .i64 0, .bool false, .int .i64 0, .int .i64 0, .bool false, .int .i64 0, .int .i64 0, .slice none 0 0, .int .i64 0, .int .i64 0, .int .i64 0, .int .i64 0, .int .i64 0, .int .i64 0] (by rfl) (by rfl) hN8.out rfl stSize (by kernel_rfl) ?_; intro w2 h8 hg8); have hb12 := below_of_grownB (below_alloc w1 _) hg8 (Nat.le_refl _); have hb2 := Lib.hid (below_step hbw.out hb12); have g2 := Lib.hid (g1.out.below hb12); have e12 := h8.c 12 _ rfl; have e14 := h8.c 14 _ rfl; have e9 := g2.out.c 11 _ rfl; have e6 := g2.out.c 6 _ rfl; have e7 := g2.out.c 7 _ rfl; have e8 := g2.out.c 8 _ rfl; have h8 := Lib.hid h8; clear hb12 hg8)
    go_ret2
    exact ⟨by rw [hfin.out]; first | done | rfl, hb2.out⟩
end Go.Proofs.YtbinoelbjlgjkaaDoor
namespace Go.Proofs.YtbinoelbjlgjkaaDoor
open Go Go.RowKit
/-- Numbers from an address on. -/
structure NumsAt (w : World) (b o : Nat) (zs : List Int) : Prop where
  c : ∀ (k : Nat) z, zs[k]? = some z → w.cell? ⟨b, o + k, none⟩ = some (.int .i64 z)
  lt : b < w.heap.size
  le : zs.length ≤ 1000000
theorem NumsAt.below {w w' : World} {b o : Nat} {zs : List Int} (h : NumsAt w b o zs) (hb : Below w.heap.size w w') : NumsAt w' b o zs := ⟨fun k z hz => (hb.cell (p := ⟨b, o + k, none⟩) h.lt).trans (h.c k z hz), Nat.lt_of_lt_of_le h.lt hb.size, h.le⟩
def inB (most z : Int) : Bool := decide (0 ≤ z) && decide (z ≤ most)
def allB (zs : List Int) (most : Int) : Bool := zs.all (inB most)
def IdxPost (zs : List Int) (most : Int) (w : World) (e : Ending) (w' : World) : Prop := (∃ i : Int, e = .returned (.int .i64 i) ∧ -1 ≤ i ∧ decide (0 ≤ i) = !(allB zs most)) ∧ w = w'
end Go.Proofs.YtbinoelbjlgjkaaDoor
namespace Go.Proofs.YtbinoelbjlgjkaaDoor
open Go Go.RowKit
theorem less_any (x y : Int) (w : World) : Calls Tryd.prog 60 #[.int .i64 x, .int .i64 y] w fun e w' => e = .returned (.bool (decide (x < y))) ∧ w = w' := (Tryd.cmp_Less_int2 x y w).mono fun _ _ h => ⟨h.1, h.2.symm⟩
theorem cmp_neg (x y : Int) : decide (Lib.compareInt x y < 0) = decide (x < y) := by
  unfold Lib.compareInt
  split
  · rename_i h; simp [h]
  · split <;> simp <;> omega
/-- Whether numbers never fall from a place on, and never rise. -/
def upTo (zs : List Int) (k : Nat) : Prop := ∀ j, k ≤ j → j + 1 < zs.length → zs.getD j 0 ≤ zs.getD (j + 1) 0
def downTo (zs : List Int) (k : Nat) : Prop := ∀ j, k ≤ j → j + 1 < zs.length → zs.getD (j + 1) 0 ≤ zs.getD j 0
def upB (zs : List Int) : Bool := decide (∀ j, j < zs.length - 1 → zs.getD j 0 ≤ zs.getD (j + 1) 0)
def downB (zs : List Int) : Bool := decide (∀ j, j < zs.length - 1 → zs.getD (j + 1) 0 ≤ zs.getD j 0)
theorem upB_yes {zs : List Int} (h : upTo zs 0) : upB zs = true := by unfold upB; rw [decide_eq_true_eq]; exact fun j hj => h j (Nat.zero_le _) (by omega)
theorem downB_yes {zs : List Int} (h : downTo zs 0) : downB zs = true := by unfold downB; rw [decide_eq_true_eq]; exact fun j hj => h j (Nat.zero_le _) (by omega)
theorem upB_no {zs : List Int} {k : Nat} (hk : k + 1 < zs.length) (h : zs.getD (k + 1) 0 < zs.getD k 0) : upB zs = false := by unfold upB; rw [decide_eq_false_iff_not]; intro h2; have := h2 k (by omega); omega
theorem downB_no {zs : List Int} {k : Nat} (hk : k + 1 < zs.length) (h : zs.getD k 0 < zs.getD (k + 1) 0) : downB zs = false := by unfold downB; rw [decide_eq_false_iff_not]; intro h2; have := h2 k (by omega); omega
theorem NumsAt.d {w : World} {b o : Nat} {zs : List Int} (h : NumsAt w b o zs) {k : Nat} (hk : k < zs.length) : w.cell? ⟨b, o + k, none⟩ = some (.int .i64 (zs.getD k 0)) := h.c k _ (by rw [List.getD_eq_getElem?_getD, List.getElem?_eq_getElem hk]; rfl)
end Go.Proofs.YtbinoelbjlgjkaaDoor
namespace Go.Proofs.YtbinoelbjlgjkaaDoor
open Go Go.RowKit
structure Grad where
  t0 : Int
  t1 : Int
  t2 : Int
  p0 : Int
  p1 : Int
  p2 : Int
  m0 : Int
  m1 : Int
  m2 : Int
  m3 : Int
structure Vis where
  day : Int
  kind : Int
  tilt : Int
  push : Int
def Grad.range (g : Grad) : Bool := allB [g.t0, g.t1, g.t2] 1000 && (allB [g.p0, g.p1, g.p2] 5000 && allB [g.m0, g.m1, g.m2, g.m3] 240)
def Grad.order (g : Grad) : Bool := upB [g.t0, g.t1, g.t2] && (downB [g.p0, g.p1, g.p2] && downB [g.m0, g.m1, g.m2, g.m3])
/-- The error of a grading. -/
def Cal.gradErr (g : Grad) : Int := if g.range = true then (if g.order = true then 0 else 9) else 2
theorem BoxAt.nums {w : World} {B : Nat} {cs : List Value} (h : BoxAt w B cs) (o : Nat) (zs : List Int) (hl : zs.length ≤ 1000000) (hc : ∀ (k : Nat) z, zs[k]? = some z → cs[o + k]? = some (.int .i64 z)) : NumsAt w B o zs := ⟨fun k z hz => h.c _ _ (hc k z hz), h.lt, hl⟩
theorem gt {w : World} {B : Nat} {g : Grad} (h : BoxAt w B [.int .i64 g.t0, .int .i64 g.t1, .int .i64 g.t2, .int .i64 g.p0, .int .i64 g.p1, .int .i64 g.p2, .int .i64 g.m0, .int .i64 g.m1, .int .i64 g.m2, .int .i64 g.m3]) : NumsAt w B 0 [g.t0, g.t1, g.t2] := h.nums 0 _ (by simp) (fun k z hz => by match k, hz with | 0, hz => cases hz; rfl | 1, hz => cases hz; rfl | 2, hz => cases hz; rfl)
theorem gp {w : World} {B : Nat} {g : Grad} (h : BoxAt w B [.int .i64 g.t0, .int .i64 g.t1, .int .i64 g.t2, .int .i64 g.p0, .int .i64 g.p1, .int .i64 g.p2, .int .i64 g.m0, .int .i64 g.m1, .int .i64 g.m2, .int .i64 g.m3]) : NumsAt w B 3 [g.p0, g.p1, g.p2] := h.nums 3 _ (by simp) (fun k z hz => by match k, hz with | 0, hz => cases hz; rfl | 1, hz => cases hz; rfl | 2, hz => cases hz; rfl)
theorem gm {w : World} {B : Nat} {g : Grad} (h : BoxAt w B [.int .i64 g.t0, .int .i64 g.t1, .int .i64 g.t2, .int .i64 g.p0, .int .i64 g.p1, .int .i64 g.p2, .int .i64 g.m0, .int .i64 g.m1, .int .i64 g.m2, .int .i64 g.m3]) : NumsAt w B 6 [g.m0, g.m1, g.m2, g.m3] := h.nums 6 _ (by simp) (fun k z hz => by match k, hz with | 0, hz => cases hz; rfl | 1, hz => cases hz; rfl | 2, hz => cases hz; rfl | 3, hz => cases hz; rfl)
end Go.Proofs.YtbinoelbjlgjkaaDoor
namespace Go.Proofs.YtbinoelbjlgjkaaDoor
open Go Go.RowKit
/-- The error of a visit. -/
def Cal.visErr (v : Vis) : Int :=
  if (0 ≤ v.day ∧ v.day ≤ 200000) ∧ (0 ≤ v.kind ∧ v.kind ≤ 2) ∧ (0 ≤ v.tilt ∧ v.tilt ≤ 1000) ∧ (0 ≤ v.push ∧ v.push ≤ 5000) then (if v.kind ≠ 0 ∧ (v.tilt ≠ 0 ∨ v.push ≠ 0) then 3 else 0) else 2
/-- The grade behind a visit. -/
def Cal.gradeS (g : Grad) (v : Vis) : Int :=
  if v.kind = 0 then (if g.t2 ≤ v.tilt ∨ v.push ≤ g.p2 then 3 else if g.t1 ≤ v.tilt ∨ v.push ≤ g.p1 then 2 else if g.t0 ≤ v.tilt ∨ v.push ≤ g.p0 then 1 else 0) else 0
theorem Cal.grade_3 {g : Grad} {v : Vis} (hk : v.kind = 0) (h : g.t2 ≤ v.tilt ∨ v.push ≤ g.p2) : Cal.gradeS g v = 3 := by unfold Cal.gradeS; rw [if_pos hk, if_pos h]
theorem Cal.grade_2 {g : Grad} {v : Vis} (hk : v.kind = 0) (h3 : ¬ (g.t2 ≤ v.tilt ∨ v.push ≤ g.p2)) (h : g.t1 ≤ v.tilt ∨ v.push ≤ g.p1) : Cal.gradeS g v = 2 := by unfold Cal.gradeS; rw [if_pos hk, if_neg h3, if_pos h]
theorem Cal.grade_1 {g : Grad} {v : Vis} (hk : v.kind = 0) (h3 : ¬ (g.t2 ≤ v.tilt ∨ v.push ≤ g.p2)) (h2 : ¬ (g.t1 ≤ v.tilt ∨ v.push ≤ g.p1)) (h : g.t0 ≤ v.tilt ∨ v.push ≤ g.p0) : Cal.gradeS g v = 1 := by unfold Cal.gradeS; rw [if_pos hk, if_neg h3, if_neg h2, if_pos h]
theorem Cal.grade_0 {g : Grad} {v : Vis} (hk : v.kind = 0) (h3 : ¬ (g.t2 ≤ v.tilt ∨ v.push ≤ g.p2)) (h2 : ¬ (g.t1 ≤ v.tilt ∨ v.push ≤ g.p1)) (h : ¬ (g.t0 ≤ v.tilt ∨ v.push ≤ g.p0)) : Cal.gradeS g v = 0 := by unfold Cal.gradeS; rw [if_pos hk, if_neg h3, if_neg h2, if_neg h]
/-- GradeOf: the grade and the error. -/
def Cal.gradeOfS (g : Grad) (v : Vis) : Int × Int :=
  if Cal.gradErr g = 0 then (if Cal.visErr v = 0 then (if v.kind = 0 then (Cal.gradeS g v, 0) else (0, 15)) else (0, Cal.visErr v)) else (0, Cal.gradErr g)
end Go.Proofs.YtbinoelbjlgjkaaDoor
namespace Go.Proofs.YtbinoelbjlgjkaaDoor
open Go Go.RowKit
/-- The day from which the notice does not block, or -1. -/
def Cal.thirdS (p : Proc) (n : Note) : Int := if (Cal.expS p n).2 = 0 then (Cal.expS p n).1 else -1
def Cal.waitsE (p : Proc) (right rest : Int) (n : Note) : Int :=
  if Cal.procErr p = 0 then (if (-1 ≤ right ∧ right ≤ 200000) ∧ (-1 ≤ rest ∧ rest ≤ 200000) then (Cal.checkS p n).2 else 2) else Cal.procErr p
def TriPost (w : World) (x y z E : Int) (e : Ending) (w' : World) : Prop := e = .returned (.tuple #[.agg #[.int .i64 x, .int .i64 y, .int .i64 z], .int .i64 E]) ∧ Below w.heap.size w w'
theorem Cal.waitsE_ok {p : Proc} {right rest : Int} {n : Note} (h : Cal.waitsE p right rest n = 0) : Cal.procErr p = 0 ∧ -1 ≤ right ∧ right ≤ 200000 ∧ -1 ≤ rest ∧ rest ≤ 200000 ∧ (Cal.checkS p n).2 = 0 := by
  unfold Cal.waitsE at h
  split at h
  · rename_i h0
    split at h
    · rename_i h1; exact ⟨h0, h1.1.1, h1.1.2, h1.2.1, h1.2.2, h⟩
    · omega
  · rename_i h0; exact absurd h h0
end Go.Proofs.YtbinoelbjlgjkaaDoor
namespace Go.Proofs.YtbinoelbjlgjkaaDoor
open Go Go.RowKit
/-- The first day on which nothing blocks, and the error. -/
def Cal.earlS (p : Proc) (right rest : Int) (n : Note) : Int × Int :=
  if Cal.waitsE p right rest n = 0 then (if right < 0 ∨ rest < 0 ∨ Cal.thirdS p n < 0 then (0, 12) else (max (max right rest) (Cal.thirdS p n), 0)) else (0, Cal.waitsE p right rest n)
theorem min3_lt (x y z : Int) : ((if z < (if y < x then y else x) then z else (if y < x then y else x)) < 0) ↔ (x < 0 ∨ y < 0 ∨ z < 0) := by
  split <;> split at * <;> omega
theorem ntSize : (Tryd.prog.info? 35).map (·.size) = some 3 := by kernel_rfl
theorem elemAct : Elem Tryd.prog 33 38 3 24 := Elem.mk' Tryd.underlying33 (z := .agg #[.int .i64 0, .int .i64 0, .int .i64 0]) (by kernel_rfl) rfl (by decide)
theorem actCells_wid (l : List NAct) : ∀ r ∈ l.map NAct.cells, r.length = 3 := fun r hr => by obtain ⟨n, _, rfl⟩ := List.mem_map.1 hr; rfl
theorem actCells_one (l : List NAct) : ∀ r ∈ l.map NAct.cells, ∀ u ∈ r, u.oneCell' = true := fun r hr u hu => by
  obtain ⟨n, _, rfl⟩ := List.mem_map.1 hr
  simp only [NAct.cells, List.mem_cons, List.not_mem_nil, or_false] at hu
  rcases hu with rfl | rfl | rfl <;> rfl
end Go.Proofs.YtbinoelbjlgjkaaDoor
namespace Go.Proofs.YtbinoelbjlgjkaaDoor
open Go Go.RowKit
def monthP : Proc := ⟨⟨1, 0, false⟩, ⟨0, 10, false⟩, ⟨0, 0, false⟩, 1, 30, []⟩
def nName : ByteArray := ⟨#[110]⟩
def awakeActs : List NAct := [⟨0, 0, 0⟩, ⟨12, 3, 0⟩, ⟨20, 4, 0⟩, ⟨41, 6, 4⟩]
def awakeNote : Note := ⟨nName, 0, awakeActs⟩
def scaleG : Grad := ⟨50, 100, 200, 300, 200, 100, 60, 24, 12, 0⟩
theorem grade_awake : Cal.gradeOfS scaleG ⟨0, 0, 120, 350⟩ = (2, 0) := by decide +kernel
theorem dl_awake : Cal.dlAtS monthP awakeNote 41 = (47, 0) := by decide +kernel
theorem earl_awake : Cal.earlS monthP 40 100 awakeNote = (100, 0) := by decide +kernel
theorem Month_any (w : World) : Calls Tryd.prog 11 #[] w fun e w' => e = .returned (.agg #[.int .i64 1, .int .i64 0, .bool false, .int .i64 0, .int .i64 10, .bool false, .int .i64 0, .int .i64 0, .bool false, .int .i64 1, .int .i64 30, .slice none 0 0]) ∧ Below w.heap.size w w' := by
  have h1 := Lib.hid (BoxAt.new w #[.int .i64 0, .int .i64 0, .bool false, .int .i64 0, .int .i64 0, .bool false, .int .i64 0, .int .i64 0, .bool false, .int .i64 0, .int .i64 0, .slice none 0 0] 44)
  go_enter Tryd.func11, Tryd.ntmps11
  go_wp2_with (refine wpList_store_box rfl 44 (.tmp 0) (.tmp 3) rfl (w.heap.size) _ [.int .i64 1, .int .i64 0, .bool false, .int .i64 0, .int .i64 10, .bool false, .int .i64 0, .int .i64 0, .bool false, .int .i64 1, .int .i64 30, .slice none 0 0] (by rfl) (by rfl) h1.out rfl prSize (by kernel_rfl) ?_; intro w2 h2 hg2)
  (try simp only [Exit.inBlock, Exit.then])
  refine bodyPost_ret (results_mid1 rfl _ _ (w.heap.size) [.int .i64 1, .int .i64 0, .bool false, .int .i64 0, .int .i64 10, .bool false, .int .i64 0, .int .i64 0, .bool false, .int .i64 1, .int .i64 30, .slice none 0 0] _ rfl h2.range Tryd.underlying44 rfl prSize) rfl ⟨rfl, below_of_grownB (below_alloc w _) hg2 (Nat.le_refl _)⟩
theorem Opened_any (A : Option Addr) (k c : Nat) (w : World) : Calls Tryd.prog 8 #[.slice A k c] w fun e w' => e = .returned (.agg #[.string ⟨#[110]⟩, .int .i64 0, .slice A k c]) ∧ Below w.heap.size w w' := by
  have h1 := Lib.hid (BoxAt.new w #[.string ⟨#[]⟩, .int .i64 0, .slice none 0 0] 35)
  go_enter Tryd.func8, Tryd.ntmps8
  go_wp2_with (refine wpList_store_box rfl 35 (.tmp 2) (.tmp 4) rfl (w.heap.size) _ [.string ⟨#[110]⟩, .int .i64 0, .slice A k c] (by rfl) (by rfl) h1.out rfl ntSize (by kernel_rfl) ?_; intro w2 h2 hg2)
  (try simp only [Exit.inBlock, Exit.then])
  refine bodyPost_ret (results_mid1 rfl _ _ (w.heap.size) [.string ⟨#[110]⟩, .int .i64 0, .slice A k c] _ rfl h2.range Tryd.underlying35 rfl ntSize) rfl ⟨rfl, below_of_grownB (below_alloc w _) hg2 (Nat.le_refl _)⟩
theorem acts_new (w : World) (l : List NAct) (hl : l.length ≤ 1000000) (t : TypeId) : Acts (w.alloc (.cells (l.map NAct.cells).flatten.toArray t)) (some ⟨w.heap.size, 0, none⟩) l :=
  ⟨fun k r hr => ⟨w.heap.size, 0, rfl, by simp, fun j v hv => by rw [cell_alloc_at, Nat.zero_add]; simpa using flat_get (actCells_wid l) hr hv⟩, by omega⟩
def awakeCells : Array Value := #[.int .i64 0, .int .i64 0, .int .i64 0, .int .i64 12, .int .i64 3, .int .i64 0, .int .i64 20, .int .i64 4, .int .i64 0, .int .i64 41, .int .i64 6, .int .i64 4]
theorem NB.awake {w : World} {A : Option Addr} (hT : Tab w) (ha : Acts w A awakeActs) : NB w none monthP A awakeNote := ⟨Hols.nil _ _, hT, ha, by decide⟩
end Go.Proofs.YtbinoelbjlgjkaaDoor
namespace Go.Proofs.YtbinoelbjlgjkaaDoor
open Go Go.RowKit
/-- What a procedure hangs on in memory. -/
structure PB (w : World) (A : Option Addr) (p : Proc) : Prop where
  hols : Hols w A p.hols
  tab : Tab w
theorem PB.below {w w' : World} {A : Option Addr} {p : Proc} (h : PB w A p) (hb : Below w.heap.size w w') : PB w' A p := ⟨h.hols.below hb, h.tab.below hb⟩
theorem PB.nb {w : World} {A N : Option Addr} {p : Proc} {n : Note} (h : PB w A p) (ha : Acts w N n.acts) (hn : n.name.size ≤ maxLen) : NB w A p N n := ⟨h.hols, h.tab, ha, hn⟩
def servNote : Note := ⟨nName, 0, [⟨0, 0, 0⟩]⟩
theorem dl_served : Cal.dlAtS monthP servNote 0 = (33, 0) := by decide +kernel
theorem rule_served : Cal.dlS [] 0 1 0 false = (33, 0) := by decide +kernel
set_option maxRecDepth 100000 in
set_option maxHeartbeats 4000000 in
theorem served_any (w : World) (hT : Tab w) : Calls Tryd.prog 4 #[] w fun e w' => e = .returned (.bool true) ∧ Below w.heap.size w w' := by
  have hT := Lib.hid hT
  have hdl := fun w1 A (h : NB w1 none monthP A servNote) => DeadlineAt_any none 0 monthP A 1 servNote 0 w1 h
  rw [dl_served] at hdl
  have hdl := Lib.hid hdl
  have hrd := fun w1 (h : Tab w1) => Deadline_any none 0 [] 0 1 0 false w1 (Hols.nil _ _) h
  unfold DlPost at hrd
  rw [rule_served] at hrd
  have hrd := Lib.hid hrd
  go_enter Tryd.func4, Tryd.ntmps4
  go_wp2_with fail
  have ha3 := Lib.hid (acts_new w [⟨0, 0, 0⟩] (by decide) 38)
  have hb3 := Lib.hid (below_alloc w (.cells #[.int .i64 0, .int .i64 0, .int .i64 0] 38))
  refine (Opened_any (some ⟨w.heap.size, 0, none⟩) 1 1 _).mono ?_
  rintro e w4 ⟨rfl, hb4⟩
  have ha4 := Lib.hid (ha3.out.below hb4)
  have hb4 := Lib.hid (below_step hb3.out hb4)
  generalize some (⟨w.heap.size, 0, none⟩ : Addr) = A at *
  have hN := Lib.hid (BoxAt.new w4 #[.string ⟨#[]⟩, .int .i64 0, .slice none 0 0] 35)
  go_wp2_with ((refine wpList_store_box rfl 35 (.tmp 1) (.tmp 8) rfl (w4.heap.size) _ [.string ⟨#[110]⟩, .int .i64 0, .slice A 1 1] (by rfl) (by rfl) hN.out rfl ntSize (by kernel_rfl) ?_; intro w5 h5 hg5))
  have hb45 := below_of_grownB (below_alloc w4 _) hg5 (Nat.le_refl _)
  have hb5 := Lib.hid (below_step hb4.out hb45)
  have ha5 := Lib.hid (ha4.out.below hb45)
  have h5 := Lib.hid h5
  clear hb45 hg5 hN
  generalize w4.heap.size = B at *
  refine wp_region_held_drew (S := (fun w' => w'.cell? ⟨B, 0, none⟩ = some (.string ⟨#[110]⟩) ∧ w'.cell? ⟨B, 1, none⟩ = some (.int .i64 0) ∧ w'.cell? ⟨B, 2, none⟩ = some (.slice A 1 1))) (by kernel_rfl) ⟨h5.out.c 0 _ rfl, h5.out.c 1 _ rfl, h5.out.c 2 _ rfl⟩ (fun hHeld => ?_)
  (refine tkH 1 (v := ?_) ?_ ?_; rotate_left; focus (intro w' hSw; (try dsimp only at hSw); go_simp; (try with_reducible rfl)); (try simp only [Act.put, List.setIfInBounds_toArray, List.set_cons_zero, List.set_cons_succ]))
  (refine wpAnyH_ready (rs := [0]) (by decide +kernel) (by simp) ?_; refine AllReadyH.cons rfl (fun K hK => ?_) AllReadyH.nil; rw [if_pos (by kernel_rfl)]; go_simp)
  refine (Month_any _).mono ?_
  rintro e w6 ⟨rfl, hb6⟩
  have hb56 := below_of_drewN (n := 1) hb6
  have h6 := Lib.hid (h5.out.below hb56)
  have ha6 := Lib.hid (ha5.out.below hb56)
  have hb6 := Lib.hid (below_step hb5.out hb56)
  clear hb56
  go_simp
  (refine hK.out _ _ ⟨h6.out.c 0 _ rfl, h6.out.c 1 _ rfl, h6.out.c 2 _ rfl⟩ (fun hHeld => ?_); clear hK K; (try simp only [Act.put, List.setIfInBounds_toArray]); (try simp only [List.set_cons_zero, List.set_cons_succ]))
  (refine wpAnyH_ready (rs := [2]) (by decide +kernel) (by simp) ?_; refine AllReadyH.cons rfl (fun K hK => ?_) AllReadyH.nil; rw [if_pos (by kernel_rfl)]; go_simp)
  refine (hdl.out _ A ⟨Hols.nil _ _, hT.out.below hb6.out, ha6.out, by decide⟩).mono ?_
  rintro e w7 ⟨rfl, hb7⟩
  have h7 := Lib.hid (h6.out.below hb7)
  have hb7 := Lib.hid (below_step hb6.out hb7)
  go_simp
  (refine hK.out _ _ ⟨h7.out.c 0 _ rfl, h7.out.c 1 _ rfl, h7.out.c 2 _ rfl⟩ (fun hHeld => ?_); clear hK K; (try simp only [Act.put, List.setIfInBounds_toArray]); (try simp only [List.set_cons_zero, List.set_cons_succ]))
  (refine tkH 3 (v := ?_) ?_ ?_; rotate_left; focus (intro w' hSw; (try dsimp only at hSw); go_simp; (try with_reducible rfl)); (try simp only [Act.put, List.setIfInBounds_toArray, List.set_cons_zero, List.set_cons_succ]))
  (refine tkH 4 (v := ?_) ?_ ?_; rotate_left; focus (intro w' hSw; (try dsimp only at hSw); go_simp; (try with_reducible rfl)); (try simp only [Act.put, List.setIfInBounds_toArray, List.set_cons_zero, List.set_cons_succ]))
  (refine tkH 5 (v := ?_) ?_ ?_; rotate_left; focus (intro w' hSw; (try dsimp only at hSw); go_simp; (try with_reducible rfl)); (try simp only [Act.put, List.setIfInBounds_toArray, List.set_cons_zero, List.set_cons_succ]))
  (refine tkH 6 (v := ?_) ?_ ?_; rotate_left; focus (intro w' hSw; (try dsimp only at hSw); go_simp; (try with_reducible rfl)); (try simp only [Act.put, List.setIfInBounds_toArray, List.set_cons_zero, List.set_cons_succ]))
  (refine tkH 7 (v := ?_) ?_ ?_; rotate_left; focus (intro w' hSw; (try dsimp only at hSw); go_simp; (try with_reducible rfl)); (try simp only [Act.put, List.setIfInBounds_toArray, List.set_cons_zero, List.set_cons_succ]))
  refine wpAnyH_done (by kernel_rfl) ?_ _
  clear hHeld h5 h6 ha5 ha6
  go_wp2_with fail
  refine (hrd.out _ (hT.out.below hb7.out)).mono ?_
  rintro e w8 ⟨rfl, hb8⟩
  have hb8 := Lib.hid (below_step hb7.out hb8)
  go_wp2_with fail
  go_ret
  exact ⟨rfl, hb8.out⟩
end Go.Proofs.YtbinoelbjlgjkaaDoor
namespace Go.Proofs.YtbinoelbjlgjkaaDoor
open Go Go.RowKit
def CloneAPost (w : World) (l : List NAct) (e : Ending) (w' : World) : Prop := ∃ v, e = .returned v ∧ OwnL w' w.heap.size 38 3 v (l.map NAct.cells) ∧ Below w.heap.size w w'
theorem start4 (w : World) (A : Option Addr) (c : Nat) (p : Proc) (N : Option Addr) (d : Nat) (n : Note) (a : NAct) : Hid (BoxAt ((((w.alloc (.cells #[.int .i64 p.runs.m, .int .i64 p.runs.d, .bool p.runs.k, .int .i64 p.obj.m, .int .i64 p.obj.d, .bool p.obj.k, .int .i64 p.wait.m, .int .i64 p.wait.d, .bool p.wait.k, .int .i64 p.exts, .int .i64 p.longest, .slice A p.hols.length c] 44)).alloc (.cells #[.string n.name, .int .i64 n.opened, .slice N n.acts.length d] 35)).alloc (.cells #[.int .i64 a.day, .int .i64 a.kind, .int .i64 a.days] 38)).alloc (.cells #[.string ⟨#[]⟩, .int .i64 0, .slice none 0 0] 35)) w.heap.size [.int .i64 p.runs.m, .int .i64 p.runs.d, .bool p.runs.k, .int .i64 p.obj.m, .int .i64 p.obj.d, .bool p.obj.k, .int .i64 p.wait.m, .int .i64 p.wait.d, .bool p.wait.k, .int .i64 p.exts, .int .i64 p.longest, .slice A p.hols.length c]) ∧ Hid (BoxAt ((((w.alloc (.cells #[.int .i64 p.runs.m, .int .i64 p.runs.d, .bool p.runs.k, .int .i64 p.obj.m, .int .i64 p.obj.d, .bool p.obj.k, .int .i64 p.wait.m, .int .i64 p.wait.d, .bool p.wait.k, .int .i64 p.exts, .int .i64 p.longest, .slice A p.hols.length c] 44)).alloc (.cells #[.string n.name, .int .i64 n.opened, .slice N n.acts.length d] 35)).alloc (.cells #[.int .i64 a.day, .int .i64 a.kind, .int .i64 a.days] 38)).alloc (.cells #[.string ⟨#[]⟩, .int .i64 0, .slice none 0 0] 35)) (w.heap.size + 1) [.string n.name, .int .i64 n.opened, .slice N n.acts.length d]) ∧ Hid (BoxAt ((((w.alloc (.cells #[.int .i64 p.runs.m, .int .i64 p.runs.d, .bool p.runs.k, .int .i64 p.obj.m, .int .i64 p.obj.d, .bool p.obj.k, .int .i64 p.wait.m, .int .i64 p.wait.d, .bool p.wait.k, .int .i64 p.exts, .int .i64 p.longest, .slice A p.hols.length c] 44)).alloc (.cells #[.string n.name, .int .i64 n.opened, .slice N n.acts.length d] 35)).alloc (.cells #[.int .i64 a.day, .int .i64 a.kind, .int .i64 a.days] 38)).alloc (.cells #[.string ⟨#[]⟩, .int .i64 0, .slice none 0 0] 35)) (w.heap.size + 1 + 1) [.int .i64 a.day, .int .i64 a.kind, .int .i64 a.days]) ∧ Hid (BoxAt ((((w.alloc (.cells #[.int .i64 p.runs.m, .int .i64 p.runs.d, .bool p.runs.k, .int .i64 p.obj.m, .int .i64 p.obj.d, .bool p.obj.k, .int .i64 p.wait.m, .int .i64 p.wait.d, .bool p.wait.k, .int .i64 p.exts, .int .i64 p.longest, .slice A p.hols.length c] 44)).alloc (.cells #[.string n.name, .int .i64 n.opened, .slice N n.acts.length d] 35)).alloc (.cells #[.int .i64 a.day, .int .i64 a.kind, .int .i64 a.days] 38)).alloc (.cells #[.string ⟨#[]⟩, .int .i64 0, .slice none 0 0] 35)) (w.heap.size + 1 + 1 + 1) [.string ⟨#[]⟩, .int .i64 0, .slice none 0 0]) ∧ Hid (Below w.heap.size w ((((w.alloc (.cells #[.int .i64 p.runs.m, .int .i64 p.runs.d, .bool p.runs.k, .int .i64 p.obj.m, .int .i64 p.obj.d, .bool p.obj.k, .int .i64 p.wait.m, .int .i64 p.wait.d, .bool p.wait.k, .int .i64 p.exts, .int .i64 p.longest, .slice A p.hols.length c] 44)).alloc (.cells #[.string n.name, .int .i64 n.opened, .slice N n.acts.length d] 35)).alloc (.cells #[.int .i64 a.day, .int .i64 a.kind, .int .i64 a.days] 38)).alloc (.cells #[.string ⟨#[]⟩, .int .i64 0, .slice none 0 0] 35))) := by
  have h3 := (BoxAt.new (W2n w A c p N d n) #[.int .i64 a.day, .int .i64 a.kind, .int .i64 a.days] 38).alloc (.cells #[.string ⟨#[]⟩, .int .i64 0, .slice none 0 0] 35)
  rw [W2n_size] at h3
  have h4 := BoxAt.new ((W2n w A c p N d n).alloc (.cells #[.int .i64 a.day, .int .i64 a.kind, .int .i64 a.days] 38)) #[.string ⟨#[]⟩, .int .i64 0, .slice none 0 0] 35
  rw [World.size_alloc, W2n_size] at h4
  exact ⟨((W2n_pr w A c p N d n).alloc _).alloc _, ((W2n_note w A c p N d n).alloc _).alloc _, h3, h4, below_step (below_step (W2n_below w A c p N d n) (below_alloc _ _)) (below_alloc _ _)⟩
/-- The error of one more act. -/
def Cal.addE (p : Proc) (n : Note) (a : NAct) : Int :=
  if (Cal.checkS p n).2 = 0 then (if 40 ≤ n.acts.length then 8 else (Cal.actS p (Cal.stAt p n 200000) a).2) else (Cal.checkS p n).2
def AddBad (w : World) (E : Int) (e : Ending) (w' : World) : Prop := e = .returned (.tuple #[.agg #[.string ⟨#[]⟩, .int .i64 0, .slice none 0 0], .int .i64 E]) ∧ Below w.heap.size w w'
end Go.Proofs.YtbinoelbjlgjkaaDoor
