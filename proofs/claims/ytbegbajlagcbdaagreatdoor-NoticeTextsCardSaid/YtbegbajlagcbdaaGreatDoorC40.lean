/- Chapter 8 and what it rests on: definitions and walks, part 40. -/
import Derived.Test.YtbegbajlagcbdaaGreatDoorC39
import Derived.Test.YtbegbajlagcbdaaGreatDoorC25
namespace Go.Proofs.YtbegbajlagcbdaaGreatDoor
open Go Go.RowKit
structure Grad where
  t0 : Int
  t1 : Int
  t2 : Int
  p0 : Int
  p1 : Int
  p2 : Int
  m0 : Int
  m1 : Int
  m2 : Int
  m3 : Int
structure Vis where
  day : Int
  kind : Int
  tilt : Int
  push : Int
def Grad.range (g : Grad) : Bool := allB [g.t0, g.t1, g.t2] 1000 && (allB [g.p0, g.p1, g.p2] 5000 && allB [g.m0, g.m1, g.m2, g.m3] 240)
def Grad.order (g : Grad) : Bool := upB [g.t0, g.t1, g.t2] && (downB [g.p0, g.p1, g.p2] && downB [g.m0, g.m1, g.m2, g.m3])
/-- The error of a grading. -/
def Cal.gradErr (g : Grad) : Int := if g.range = true then (if g.order = true then 0 else 9) else 2
theorem BoxAt.nums {w : World} {B : Nat} {cs : List Value} (h : BoxAt w B cs) (o : Nat) (zs : List Int) (hl : zs.length ≤ 1000000) (hc : ∀ (k : Nat) z, zs[k]? = some z → cs[o + k]? = some (.int .i64 z)) : NumsAt w B o zs := ⟨fun k z hz => h.c _ _ (hc k z hz), h.lt, hl⟩
theorem gt {w : World} {B : Nat} {g : Grad} (h : BoxAt w B [.int .i64 g.t0, .int .i64 g.t1, .int .i64 g.t2, .int .i64 g.p0, .int .i64 g.p1, .int .i64 g.p2, .int .i64 g.m0, .int .i64 g.m1, .int .i64 g.m2, .int .i64 g.m3]) : NumsAt w B 0 [g.t0, g.t1, g.t2] := h.nums 0 _ (by simp) (fun k z hz => by match k, hz with | 0, hz => cases hz; rfl | 1, hz => cases hz; rfl | 2, hz => cases hz; rfl)
theorem gp {w : World} {B : Nat} {g : Grad} (h : BoxAt w B [.int .i64 g.t0, .int .i64 g.t1, .int .i64 g.t2, .int .i64 g.p0, .int .i64 g.p1, .int .i64 g.p2, .int .i64 g.m0, .int .i64 g.m1, .int .i64 g.m2, .int .i64 g.m3]) : NumsAt w B 3 [g.p0, g.p1, g.p2] := h.nums 3 _ (by simp) (fun k z hz => by match k, hz with | 0, hz => cases hz; rfl | 1, hz => cases hz; rfl | 2, hz => cases hz; rfl)
theorem gm {w : World} {B : Nat} {g : Grad} (h : BoxAt w B [.int .i64 g.t0, .int .i64 g.t1, .int .i64 g.t2, .int .i64 g.p0, .int .i64 g.p1, .int .i64 g.p2, .int .i64 g.m0, .int .i64 g.m1, .int .i64 g.m2, .int .i64 g.m3]) : NumsAt w B 6 [g.m0, g.m1, g.m2, g.m3] := h.nums 6 _ (by simp) (fun k z hz => by match k, hz with | 0, hz => cases hz; rfl | 1, hz => cases hz; rfl | 2, hz => cases hz; rfl | 3, hz => cases hz; rfl)
set_option maxRecDepth 100000 in
set_option maxHeartbeats 4000000 in
theorem CheckGrading_any (g : Grad) (w : World) : Calls Tryz.prog 53 #[.agg #[.int .i64 g.t0, .int .i64 g.t1, .int .i64 g.t2, .int .i64 g.p0, .int .i64 g.p1, .int .i64 g.p2, .int .i64 g.m0, .int .i64 g.m1, .int .i64 g.m2, .int .i64 g.m3]] w fun e w' => e = .returned (.int .i64 (Cal.gradErr g)) ∧ Below w.heap.size w w' := by
  have h1 := Lib.hid (BoxAt.new w #[.int .i64 g.t0, .int .i64 g.t1, .int .i64 g.t2, .int .i64 g.p0, .int .i64 g.p1, .int .i64 g.p2, .int .i64 g.m0, .int .i64 g.m1, .int .i64 g.m2, .int .i64 g.m3] 25)
  have hb := Lib.hid (below_alloc w (.cells #[.int .i64 g.t0, .int .i64 g.t1, .int .i64 g.t2, .int .i64 g.p0, .int .i64 g.p1, .int .i64 g.p2, .int .i64 g.m0, .int .i64 g.m1, .int .i64 g.m2, .int .i64 g.m3] 25))
  cases e1 : allB [g.t0, g.t1, g.t2] 1000
  · have hfin : Hid (Cal.gradErr g = 2) := by show _ = _; unfold Cal.gradErr Grad.range; rw [e1]; rfl
    have e1 := Lib.hid e1
    go_enter Tryz.func53, Tryz.ntmps53
    go_wp2_with fail
    refine (all_any [g.t0, g.t1, g.t2] 1000 _ 0 3 _ (gt h1.out)).mono ?_
    rintro e w9 ⟨rfl, hbn⟩
    have hb := Lib.hid (below_step hb.out hbn)
    have h1 := Lib.hid (h1.out.below hbn)
    clear hbn
    rw [e1.out]
    go_wp2_with fail
    go_ret
    exact ⟨ret_int hfin.out.symm, hb.out⟩
  have e1 := Lib.hid e1
  cases e2 : allB [g.p0, g.p1, g.p2] 5000
  · have hfin : Hid (Cal.gradErr g = 2) := by show _ = _; unfold Cal.gradErr Grad.range; rw [e1.out, e2]; rfl
    have e2 := Lib.hid e2
    go_enter Tryz.func53, Tryz.ntmps53
    go_wp2_with fail
    refine (all_any [g.t0, g.t1, g.t2] 1000 _ 0 3 _ (gt h1.out)).mono ?_
    rintro e w9 ⟨rfl, hbn⟩
    have hb := Lib.hid (below_step hb.out hbn)
    have h1 := Lib.hid (h1.out.below hbn)
    clear hbn
    rw [e1.out]
    go_wp2_with fail
    refine (all_any [g.p0, g.p1, g.p2] 5000 _ 3 3 _ (gp h1.out)).mono ?_
    rintro e w9 ⟨rfl, hbn⟩
    have hb := Lib.hid (below_step hb.out hbn)
    have h1 := Lib.hid (h1.out.below hbn)
    clear hbn
    rw [e2.out]
    go_wp2_with fail
    go_ret
    exact ⟨ret_int hfin.out.symm, hb.out⟩
  have e2 := Lib.hid e2
  cases e3 : allB [g.m0, g.m1, g.m2, g.m3] 240
  · have hfin : Hid (Cal.gradErr g = 2) := by show _ = _; unfold Cal.gradErr Grad.range; rw [e1.out, e2.out, e3]; rfl
    have e3 := Lib.hid e3
    go_enter Tryz.func53, Tryz.ntmps53
    go_wp2_with fail
    refine (all_any [g.t0, g.t1, g.t2] 1000 _ 0 3 _ (gt h1.out)).mono ?_
    rintro e w9 ⟨rfl, hbn⟩
    have hb := Lib.hid (below_step hb.out hbn)
    have h1 := Lib.hid (h1.out.below hbn)
    clear hbn
    rw [e1.out]
    go_wp2_with fail
    refine (all_any [g.p0, g.p1, g.p2] 5000 _ 3 3 _ (gp h1.out)).mono ?_
    rintro e w9 ⟨rfl, hbn⟩
    have hb := Lib.hid (below_step hb.out hbn)
    have h1 := Lib.hid (h1.out.below hbn)
    clear hbn
    rw [e2.out]
    go_wp2_with fail
    refine (all_any [g.m0, g.m1, g.m2, g.m3] 240 _ 6 4 _ (gm h1.out)).mono ?_
    rintro e w9 ⟨rfl, hbn⟩
    have hb := Lib.hid (below_step hb.out hbn)
    have h1 := Lib.hid (h1.out.below hbn)
    clear hbn
    rw [e3.out]
    go_wp2_with fail
    go_ret
    exact ⟨ret_int hfin.out.symm, hb.out⟩
  have e3 := Lib.hid e3
  have hr : Hid (g.range = true) := by show _ = _; unfold Grad.range; rw [e1.out, e2.out, e3.out]; rfl
  cases e4 : upB [g.t0, g.t1, g.t2]
  · have hfin : Hid (Cal.gradErr g = 9) := by show _ = _; unfold Cal.gradErr Grad.order; rw [if_pos hr.out, e4]; rfl
    have e4 := Lib.hid e4
    go_enter Tryz.func53, Tryz.ntmps53
    go_wp2_with fail
    refine (all_any [g.t0, g.t1, g.t2] 1000 _ 0 3 _ (gt h1.out)).mono ?_
    rintro e w9 ⟨rfl, hbn⟩
    have hb := Lib.hid (below_step hb.out hbn)
    have h1 := Lib.hid (h1.out.below hbn)
    clear hbn
    rw [e1.out]
    go_wp2_with fail
    refine (all_any [g.p0, g.p1, g.p2] 5000 _ 3 3 _ (gp h1.out)).mono ?_
    rintro e w9 ⟨rfl, hbn⟩
    have hb := Lib.hid (below_step hb.out hbn)
    have h1 := Lib.hid (h1.out.below hbn)
    clear hbn
    rw [e2.out]
    go_wp2_with fail
    refine (all_any [g.m0, g.m1, g.m2, g.m3] 240 _ 6 4 _ (gm h1.out)).mono ?_
    rintro e w9 ⟨rfl, hbn⟩
    have hb := Lib.hid (below_step hb.out hbn)
    have h1 := Lib.hid (h1.out.below hbn)
    clear hbn
    rw [e3.out]
    go_wp2_with fail
    refine (IsSorted_any [g.t0, g.t1, g.t2] _ 0 3 _ (gt h1.out)).mono ?_
    rintro e w9 ⟨rfl, hbn⟩
    have hb := Lib.hid (below_step hb.out hbn)
    have h1 := Lib.hid (h1.out.below hbn)
    clear hbn
    rw [e4.out]
    go_wp2_with fail
    go_ret
    exact ⟨ret_int hfin.out.symm, hb.out⟩
  have e4 := Lib.hid e4
  cases e5 : downB [g.p0, g.p1, g.p2]
  · have hfin : Hid (Cal.gradErr g = 9) := by show _ = _; unfold Cal.gradErr Grad.order; rw [if_pos hr.out, e4.out, e5]; rfl
    have e5 := Lib.hid e5
    go_enter Tryz.func53, Tryz.ntmps53
    go_wp2_with fail
    refine (all_any [g.t0, g.t1, g.t2] 1000 _ 0 3 _ (gt h1.out)).mono ?_
    rintro e w9 ⟨rfl, hbn⟩
    have hb := Lib.hid (below_step hb.out hbn)
    have h1 := Lib.hid (h1.out.below hbn)
    clear hbn
    rw [e1.out]
    go_wp2_with fail
    refine (all_any [g.p0, g.p1, g.p2] 5000 _ 3 3 _ (gp h1.out)).mono ?_
    rintro e w9 ⟨rfl, hbn⟩
    have hb := Lib.hid (below_step hb.out hbn)
    have h1 := Lib.hid (h1.out.below hbn)
    clear hbn
    rw [e2.out]
    go_wp2_with fail
    refine (all_any [g.m0, g.m1, g.m2, g.m3] 240 _ 6 4 _ (gm h1.out)).mono ?_
    rintro e w9 ⟨rfl, hbn⟩
    have hb := Lib.hid (below_step hb.out hbn)
    have h1 := Lib.hid (h1.out.below hbn)
    clear hbn
    rw [e3.out]
    go_wp2_with fail
    refine (IsSorted_any [g.t0, g.t1, g.t2] _ 0 3 _ (gt h1.out)).mono ?_
    rintro e w9 ⟨rfl, hbn⟩
    have hb := Lib.hid (below_step hb.out hbn)
    have h1 := Lib.hid (h1.out.below hbn)
    clear hbn
    rw [e4.out]
    go_wp2_with fail
    refine (falls_any [g.p0, g.p1, g.p2] _ 3 3 _ (gp h1.out)).mono ?_
    rintro e w9 ⟨rfl, hbn⟩
    have hb := Lib.hid (below_step hb.out hbn)
    have h1 := Lib.hid (h1.out.below hbn)
    clear hbn
    rw [e5.out]
    go_wp2_with fail
    go_ret
    exact ⟨ret_int hfin.out.symm, hb.out⟩
  have e5 := Lib.hid e5
  cases e6 : downB [g.m0, g.m1, g.m2, g.m3]
  · have hfin : Hid (Cal.gradErr g = 9) := by show _ = _; unfold Cal.gradErr Grad.order; rw [if_pos hr.out, e4.out, e5.out, e6]; rfl
    have e6 := Lib.hid e6
    go_enter Tryz.func53, Tryz.ntmps53
    go_wp2_with fail
    refine (all_any [g.t0, g.t1, g.t2] 1000 _ 0 3 _ (gt h1.out)).mono ?_
    rintro e w9 ⟨rfl, hbn⟩
    have hb := Lib.hid (below_step hb.out hbn)
    have h1 := Lib.hid (h1.out.below hbn)
    clear hbn
    rw [e1.out]
    go_wp2_with fail
    refine (all_any [g.p0, g.p1, g.p2] 5000 _ 3 3 _ (gp h1.out)).mono ?_
    rintro e w9 ⟨rfl, hbn⟩
    have hb := Lib.hid (below_step hb.out hbn)
    have h1 := Lib.hid (h1.out.below hbn)
    clear hbn
    rw [e2.out]
    go_wp2_with fail
    refine (all_any [g.m0, g.m1, g.m2, g.m3] 240 _ 6 4 _ (gm h1.out)).mono ?_
    rintro e w9 ⟨rfl, hbn⟩
    have hb := Lib.hid (below_step hb.out hbn)
    have h1 := Lib.hid (h1.out.below hbn)
    clear hbn
    rw [e3.out]
    go_wp2_with fail
    refine (IsSorted_any [g.t0, g.t1, g.t2] _ 0 3 _ (gt h1.out)).mono ?_
    rintro e w9 ⟨rfl, hbn⟩
    have hb := Lib.hid (below_step hb.out hbn)
    have h1 := Lib.hid (h1.out.below hbn)
    clear hbn
    rw [e4.out]
    go_wp2_with fail
    refine (falls_any [g.p0, g.p1, g.p2] _ 3 3 _ (gp h1.out)).mono ?_
    rintro e w9 ⟨rfl, hbn⟩
    have hb := Lib.hid (below_step hb.out hbn)
    have h1 := Lib.hid (h1.out.below hbn)
    clear hbn
    rw [e5.out]
    go_wp2_with fail
    refine (falls_any [g.m0, g.m1, g.m2, g.m3] _ 6 4 _ (gm h1.out)).mono ?_
    rintro e w9 ⟨rfl, hbn⟩
    have hb := Lib.hid (below_step hb.out hbn)
    have h1 := Lib.hid (h1.out.below hbn)
    clear hbn
    rw [e6.out]
    go_wp2_with fail
    go_ret
    exact ⟨ret_int hfin.out.symm, hb.out⟩
  · have hfin : Hid (Cal.gradErr g = 0) := by show _ = _; unfold Cal.gradErr Grad.order; rw [if_pos hr.out, e4.out, e5.out, e6]; rfl
    have e6 := Lib.hid e6
    go_enter Tryz.func53, Tryz.ntmps53
    go_wp2_with fail
    refine (all_any [g.t0, g.t1, g.t2] 1000 _ 0 3 _ (gt h1.out)).mono ?_
    rintro e w9 ⟨rfl, hbn⟩
    have hb := Lib.hid (below_step hb.out hbn)
    have h1 := Lib.hid (h1.out.below hbn)
    clear hbn
    rw [e1.out]
    go_wp2_with fail
    refine (all_any [g.p0, g.p1, g.p2] 5000 _ 3 3 _ (gp h1.out)).mono ?_
    rintro e w9 ⟨rfl, hbn⟩
    have hb := Lib.hid (below_step hb.out hbn)
    have h1 := Lib.hid (h1.out.below hbn)
    clear hbn
    rw [e2.out]
    go_wp2_with fail
    refine (all_any [g.m0, g.m1, g.m2, g.m3] 240 _ 6 4 _ (gm h1.out)).mono ?_
    rintro e w9 ⟨rfl, hbn⟩
    have hb := Lib.hid (below_step hb.out hbn)
    have h1 := Lib.hid (h1.out.below hbn)
    clear hbn
    rw [e3.out]
    go_wp2_with fail
    refine (IsSorted_any [g.t0, g.t1, g.t2] _ 0 3 _ (gt h1.out)).mono ?_
    rintro e w9 ⟨rfl, hbn⟩
    have hb := Lib.hid (below_step hb.out hbn)
    have h1 := Lib.hid (h1.out.below hbn)
    clear hbn
    rw [e4.out]
    go_wp2_with fail
    refine (falls_any [g.p0, g.p1, g.p2] _ 3 3 _ (gp h1.out)).mono ?_
    rintro e w9 ⟨rfl, hbn⟩
    have hb := Lib.hid (below_step hb.out hbn)
    have h1 := Lib.hid (h1.out.below hbn)
    clear hbn
    rw [e5.out]
    go_wp2_with fail
    refine (falls_any [g.m0, g.m1, g.m2, g.m3] _ 6 4 _ (gm h1.out)).mono ?_
    rintro e w9 ⟨rfl, hbn⟩
    have hb := Lib.hid (below_step hb.out hbn)
    have h1 := Lib.hid (h1.out.below hbn)
    clear hbn
    rw [e6.out]
    go_wp2_with fail
    go_ret
    exact ⟨ret_int hfin.out.symm, hb.out⟩
end Go.Proofs.YtbegbajlagcbdaaGreatDoor
namespace Go.Proofs.YtbegbajlagcbdaaGreatDoor
open Go Go.RowKit
set_option maxHeartbeats 2000000 in
theorem nisName_any (s : ByteArray) (w : World) (hs : s.size ≤ maxLen) :
    Calls Tryz.prog 106 #[.string s] w fun e w' => e = .returned (.bool (nameB s)) ∧ w = w' := by
  unfold maxLen at hs
  by_cases h0 : s.size = 0
  · have hfin := Lib.hid (nameB_size (s := s) (by omega))
    have he := isEmpty_yes h0
    have he2 : s.toList = [] := by simpa using he
    clear h0
    go_enter Tryz.func106, Tryz.ntmps106
    go_wp2
    go_ret
    exact ⟨ret_bool hfin.out.symm, rfl⟩
  have h1 : 1 ≤ s.size := by omega
  have he := isEmpty_no h1
  have he2 : ¬ s.toList = [] := by intro h; rw [h] at he; cases he
  clear h0
  by_cases h12 : s.size ≤ 12
  · have hok := okTo_zero s
    go_enter Tryz.func106, Tryz.ntmps106
    go_wp2
    go_loop [15] (fun i => ∃ k : Nat, k ≤ s.size ∧ i = .int .i64 k ∧ okTo s k) (fun i => s.size - (intOf i).toNat)
    case atStart => exact ⟨0, Nat.zero_le _, rfl, hok⟩
    case round =>
      obtain ⟨k, hk, rfl, hok2⟩ := hrel
      clear hok
      by_cases hlt : k < s.size
      · have hb := byteAt_eq hlt
        have hcl : (97 ≤ (s[k].toNat : Int) ∧ (s[k].toNat : Int) ≤ 122) ∨ (65 ≤ (s[k].toNat : Int) ∧ (s[k].toNat : Int) ≤ 90) ∨ (48 ≤ (s[k].toNat : Int) ∧ (s[k].toNat : Int) ≤ 57) ∨ (s[k].toNat : Int) = 45 ∨ (s[k].toNat : Int) < 45 ∨ (46 ≤ (s[k].toNat : Int) ∧ (s[k].toNat : Int) ≤ 47) ∨ (58 ≤ (s[k].toNat : Int) ∧ (s[k].toNat : Int) ≤ 64) ∨ (91 ≤ (s[k].toNat : Int) ∧ (s[k].toNat : Int) ≤ 96) ∨ 123 ≤ (s[k].toNat : Int) := by omega
        have c0 : 0 ≤ (s[k].toNat : Int) := by omega
        have hyes := Lib.hid (fun h : okAt s k = true => okTo_succ hok2 h)
        have hno := Lib.hid (fun h : okAt s k = false => nameB_no hlt h)
        by_cases hk0 : k = 0
        · subst hk0
          rcases hcl with ⟨ca, cb⟩ | ⟨ca, cb⟩ | ⟨ca, cb⟩ | ca | ca | ⟨ca, cb⟩ | ⟨ca, cb⟩ | ⟨ca, cb⟩ | ca
          all_goals first
            | (have hok : Hid (okTo s (0 + 1)) := hyes.out (by unfold okAt; rw [hb]; simp; omega)
               clear hyes hno hb
               go_wp2
               go_round
               case rel => exact ⟨1, by omega, rfl, hok.out⟩
               case measure => simp [intOf]; omega)
            | (have hfin : Hid (nameB s = false) := hno.out (by unfold okAt; rw [hb]; simp; omega)
               clear hyes hno hb
               try (have q0 : decide ((s[0].toNat : Int) ≤ 90) = false := by first | (simp; omega) | (simp; done))
               try (have q1 : decide ((s[0].toNat : Int) ≤ 122) = false := by first | (simp; omega) | (simp; done))
               try (have q2 : decide ((s[0].toNat : Int) ≤ 57) = false := by first | (simp; omega) | (simp; done))
               try (have q3 : ((s[0].toNat : Int) != 45) = true := by first | (simp; omega) | (simp; done))
               try (have q4 : ((s[0].toNat : Int) == 45) = false := by first | (simp; omega) | (simp; done))
               try (have q5 : decide (57 < (s[0].toNat : Int)) = true := by first | (simp; omega) | (simp; done))
               try (have q6 : decide (97 ≤ (s[0].toNat : Int)) = false := by first | (simp; omega) | (simp; done))
               try (have q7 : decide (65 ≤ (s[0].toNat : Int)) = false := by first | (simp; omega) | (simp; done))
               go_wp2
               go_ret
               exact ⟨ret_bool hfin.out.symm, rfl⟩)
        · have hk1 : 0 < (k : Int) := by omega
          have hk2 : ((k : Int) == 0) = false := by simp; omega
          rcases hcl with ⟨ca, cb⟩ | ⟨ca, cb⟩ | ⟨ca, cb⟩ | ca | ca | ⟨ca, cb⟩ | ⟨ca, cb⟩ | ⟨ca, cb⟩ | ca
          all_goals first
            | (have hok : Hid (okTo s (k + 1)) := hyes.out (by unfold okAt; rw [hb]; simp; omega)
               clear hyes hno hb hk0
               go_wp2
               go_round
               case rel => exact ⟨k + 1, by omega, by go_num, hok.out⟩
               case measure => simp [intOf]; omega)
            | (have hfin : Hid (nameB s = false) := hno.out (by unfold okAt; rw [hb]; simp; omega)
               clear hyes hno hb hk0
               try (have q0 : decide ((s[k].toNat : Int) ≤ 90) = false := by first | (simp; omega) | (simp; done))
               try (have q1 : decide ((s[k].toNat : Int) ≤ 122) = false := by first | (simp; omega) | (simp; done))
               try (have q2 : decide ((s[k].toNat : Int) ≤ 57) = false := by first | (simp; omega) | (simp; done))
               try (have q3 : ((s[k].toNat : Int) != 45) = true := by first | (simp; omega) | (simp; done))
               try (have q4 : ((s[k].toNat : Int) == 45) = false := by first | (simp; omega) | (simp; done))
               try (have q5 : decide (57 < (s[k].toNat : Int)) = true := by first | (simp; omega) | (simp; done))
               try (have q6 : decide (97 ≤ (s[k].toNat : Int)) = false := by first | (simp; omega) | (simp; done))
               try (have q7 : decide (65 ≤ (s[k].toNat : Int)) = false := by first | (simp; omega) | (simp; done))
               go_wp2
               go_ret
               exact ⟨ret_bool hfin.out.symm, rfl⟩)
      · obtain rfl : k = s.size := by omega
        have hfin := Lib.hid (nameB_yes h1 h12 hok2)
        go_wp2
        go_ret
        exact ⟨ret_bool hfin.out.symm, rfl⟩
  · have hfin := Lib.hid (nameB_size (s := s) (by omega))
    go_enter Tryz.func106, Tryz.ntmps106
    go_wp2
    go_ret
    exact ⟨ret_bool hfin.out.symm, rfl⟩
end Go.Proofs.YtbegbajlagcbdaaGreatDoor
namespace Go.Proofs.YtbegbajlagcbdaaGreatDoor
open Go Go.RowKit
def CpI (p : Proc) (k : Int) : Prop := (1 ≤ k → p.runs.err = 0) ∧ (2 ≤ k → p.obj.err = 0) ∧ (3 ≤ k → p.wait.err = 0)
theorem Cal.procErr_1 {p : Proc} (h : ¬ p.runs.err = 0) : Cal.procErr p = p.runs.err := by unfold Cal.procErr; rw [if_neg h]
theorem Cal.procErr_2 {p : Proc} (h1 : p.runs.err = 0) (h : ¬ p.obj.err = 0) : Cal.procErr p = p.obj.err := by unfold Cal.procErr; rw [if_pos h1, if_neg h]
theorem Cal.procErr_3 {p : Proc} (h1 : p.runs.err = 0) (h2 : p.obj.err = 0) (h : ¬ p.wait.err = 0) : Cal.procErr p = p.wait.err := by unfold Cal.procErr; rw [if_pos h1, if_pos h2, if_neg h]
theorem Cal.procErr_4 {p : Proc} (h1 : p.runs.err = 0) (h2 : p.obj.err = 0) (h3 : p.wait.err = 0) : Cal.procErr p = if 0 ≤ p.exts ∧ p.exts ≤ 12 ∧ 0 ≤ p.longest ∧ p.longest ≤ 3660 then Cal.holsErr p.hols else 2 := by unfold Cal.procErr; rw [if_pos h1, if_pos h2, if_pos h3]
theorem per_ix0 (p : Proc) (w : World) : (Instr.index 140 (.agg #[.int .i64 p.runs.m, .int .i64 p.runs.d, .bool p.runs.k, .int .i64 p.obj.m, .int .i64 p.obj.d, .bool p.obj.k, .int .i64 p.wait.m, .int .i64 p.wait.d, .bool p.wait.k]) (.int .i64 0)).run Tryz.prog w = .ok (.agg #[.int .i64 p.runs.m, .int .i64 p.runs.d, .bool p.runs.k]) w := by kernel_rfl
theorem per_ix1 (p : Proc) (w : World) : (Instr.index 140 (.agg #[.int .i64 p.runs.m, .int .i64 p.runs.d, .bool p.runs.k, .int .i64 p.obj.m, .int .i64 p.obj.d, .bool p.obj.k, .int .i64 p.wait.m, .int .i64 p.wait.d, .bool p.wait.k]) (.int .i64 1)).run Tryz.prog w = .ok (.agg #[.int .i64 p.obj.m, .int .i64 p.obj.d, .bool p.obj.k]) w := by kernel_rfl
theorem per_ix2 (p : Proc) (w : World) : (Instr.index 140 (.agg #[.int .i64 p.runs.m, .int .i64 p.runs.d, .bool p.runs.k, .int .i64 p.obj.m, .int .i64 p.obj.d, .bool p.obj.k, .int .i64 p.wait.m, .int .i64 p.wait.d, .bool p.wait.k]) (.int .i64 2)).run Tryz.prog w = .ok (.agg #[.int .i64 p.wait.m, .int .i64 p.wait.d, .bool p.wait.k]) w := by kernel_rfl
set_option maxRecDepth 100000 in
set_option maxHeartbeats 4000000 in
theorem CheckProcedure_any (A : Option Addr) (c : Nat) (p : Proc) (w : World) (hl : Hols w A p.hols) (hT : Tab w) :
    Calls Tryz.prog 65 #[.agg #[.int .i64 p.runs.m, .int .i64 p.runs.d, .bool p.runs.k, .int .i64 p.obj.m, .int .i64 p.obj.d, .bool p.obj.k, .int .i64 p.wait.m, .int .i64 p.wait.d, .bool p.wait.k, .int .i64 p.exts, .int .i64 p.longest, .slice A p.hols.length c]] w fun e w' => e = .returned (.int .i64 (Cal.procErr p)) ∧ Below w.heap.size w w' := by
  have hl := Lib.hid hl
  have hT := Lib.hid hT
  have h1 := Lib.hid (BoxAt.new w #[.int .i64 p.runs.m, .int .i64 p.runs.d, .bool p.runs.k, .int .i64 p.obj.m, .int .i64 p.obj.d, .bool p.obj.k, .int .i64 p.wait.m, .int .i64 p.wait.d, .bool p.wait.k, .int .i64 p.exts, .int .i64 p.longest, .slice A p.hols.length c] 47)
  have hb := Lib.hid (below_alloc w (.cells #[.int .i64 p.runs.m, .int .i64 p.runs.d, .bool p.runs.k, .int .i64 p.obj.m, .int .i64 p.obj.d, .bool p.obj.k, .int .i64 p.wait.m, .int .i64 p.wait.d, .bool p.wait.k, .int .i64 p.exts, .int .i64 p.longest, .slice A p.hols.length c] 47))
  have i0 := per_ix0 p
  have i1 := per_ix1 p
  have i2 := per_ix2 p
  go_enter Tryz.func65, Tryz.ntmps65
  go_wp2_with fail
  go_loopw [13] (fun i wr => ∃ k : Int, ((k = 0) ∨ (k = 1 ∧ Hid (p.runs.err = 0)) ∨ (k = 2 ∧ Hid (p.runs.err = 0) ∧ Hid (p.obj.err = 0)) ∨ (k = 3 ∧ Hid (p.runs.err = 0) ∧ Hid (p.obj.err = 0) ∧ Hid (p.wait.err = 0))) ∧ i = .int .i64 k ∧ Hid (Below w.heap.size w wr) ∧ Hid (BoxAt wr w.heap.size [.int .i64 p.runs.m, .int .i64 p.runs.d, .bool p.runs.k, .int .i64 p.obj.m, .int .i64 p.obj.d, .bool p.obj.k, .int .i64 p.wait.m, .int .i64 p.wait.d, .bool p.wait.k, .int .i64 p.exts, .int .i64 p.longest, .slice A p.hols.length c])) (fun i _ => 3 - (intOf i).toNat)
  case atStart => exact ⟨0, .inl rfl, rfl, hb, h1⟩
  case round =>
    obtain ⟨k, hk, rfl, hb, hp⟩ := hrel
    rcases hk with rfl | ⟨rfl, r1⟩ | ⟨rfl, r1, r2⟩ | ⟨rfl, r1, r2, r3⟩
    · by_cases he : p.runs.err = 0
      · have he1 : (Cal.perE p.runs.m p.runs.d p.runs.k != 0) = false := by have : Cal.perE p.runs.m p.runs.d p.runs.k = 0 := he; simpa using this
        have hez := Lib.hid he
        clear he
        go_wp2_with fail
        refine (CheckPeriod_any p.runs.m p.runs.d p.runs.k _).mono ?_
        rintro e w2 ⟨rfl, hb2⟩
        have hb3 := Lib.hid (below_step (below_step hb.out (below_alloc wr _)) hb2)
        have hp3 := Lib.hid ((hp.out.alloc _).below hb2)
        clear hb2
        go_wp2_with fail
        go_roundw
        case rel => exact ⟨1, .inr (.inl ⟨rfl, hez⟩), rfl, hb3, hp3⟩
        case measure => simp [intOf]
      · have he1 : (Cal.perE p.runs.m p.runs.d p.runs.k != 0) = true := by have : ¬ Cal.perE p.runs.m p.runs.d p.runs.k = 0 := he; simpa using this
        have hfin : Hid (Cal.procErr p = Cal.perE p.runs.m p.runs.d p.runs.k) := Cal.procErr_1 he
        clear he
        go_wp2_with fail
        refine (CheckPeriod_any p.runs.m p.runs.d p.runs.k _).mono ?_
        rintro e w2 ⟨rfl, hb2⟩
        have hb3 := Lib.hid (below_step (below_step hb.out (below_alloc wr _)) hb2)
        clear hb2
        go_wp2_with fail
        go_ret
        exact ⟨ret_int hfin.out.symm, hb3.out⟩
    · by_cases he : p.obj.err = 0
      · have he1 : (Cal.perE p.obj.m p.obj.d p.obj.k != 0) = false := by have : Cal.perE p.obj.m p.obj.d p.obj.k = 0 := he; simpa using this
        have hez := Lib.hid he
        clear he
        go_wp2_with fail
        refine (CheckPeriod_any p.obj.m p.obj.d p.obj.k _).mono ?_
        rintro e w2 ⟨rfl, hb2⟩
        have hb3 := Lib.hid (below_step (below_step hb.out (below_alloc wr _)) hb2)
        have hp3 := Lib.hid ((hp.out.alloc _).below hb2)
        clear hb2
        go_wp2_with fail
        go_roundw
        case rel => exact ⟨2, .inr (.inr (.inl ⟨rfl, r1, hez⟩)), rfl, hb3, hp3⟩
        case measure => simp [intOf]
      · have he1 : (Cal.perE p.obj.m p.obj.d p.obj.k != 0) = true := by have : ¬ Cal.perE p.obj.m p.obj.d p.obj.k = 0 := he; simpa using this
        have hfin : Hid (Cal.procErr p = Cal.perE p.obj.m p.obj.d p.obj.k) := Cal.procErr_2 r1.out he
        clear he
        go_wp2_with fail
        refine (CheckPeriod_any p.obj.m p.obj.d p.obj.k _).mono ?_
        rintro e w2 ⟨rfl, hb2⟩
        have hb3 := Lib.hid (below_step (below_step hb.out (below_alloc wr _)) hb2)
        clear hb2
        go_wp2_with fail
        go_ret
        exact ⟨ret_int hfin.out.symm, hb3.out⟩
    · by_cases he : p.wait.err = 0
      · have he1 : (Cal.perE p.wait.m p.wait.d p.wait.k != 0) = false := by have : Cal.perE p.wait.m p.wait.d p.wait.k = 0 := he; simpa using this
        have hez := Lib.hid he
        clear he
        go_wp2_with fail
        refine (CheckPeriod_any p.wait.m p.wait.d p.wait.k _).mono ?_
        rintro e w2 ⟨rfl, hb2⟩
        have hb3 := Lib.hid (below_step (below_step hb.out (below_alloc wr _)) hb2)
        have hp3 := Lib.hid ((hp.out.alloc _).below hb2)
        clear hb2
        go_wp2_with fail
        go_roundw
        case rel => exact ⟨3, .inr (.inr (.inr ⟨rfl, r1, r2, hez⟩)), rfl, hb3, hp3⟩
        case measure => simp [intOf]
      · have he1 : (Cal.perE p.wait.m p.wait.d p.wait.k != 0) = true := by have : ¬ Cal.perE p.wait.m p.wait.d p.wait.k = 0 := he; simpa using this
        have hfin : Hid (Cal.procErr p = Cal.perE p.wait.m p.wait.d p.wait.k) := Cal.procErr_3 r1.out r2.out he
        clear he
        go_wp2_with fail
        refine (CheckPeriod_any p.wait.m p.wait.d p.wait.k _).mono ?_
        rintro e w2 ⟨rfl, hb2⟩
        have hb3 := Lib.hid (below_step (below_step hb.out (below_alloc wr _)) hb2)
        clear hb2
        go_wp2_with fail
        go_ret
        exact ⟨ret_int hfin.out.symm, hb3.out⟩
    · have hE := Cal.procErr_4 r1.out r2.out r3.out
      have c9 := hp.out.c 9 _ rfl
      have c10 := hp.out.c 10 _ rfl
      have c11 := hp.out.c 11 _ rfl
      by_cases hx : 0 ≤ p.exts ∧ p.exts ≤ 12
      · by_cases hy : 0 ≤ p.longest ∧ p.longest ≤ 3660
        · rw [if_pos ⟨hx.1, hx.2, hy.1, hy.2⟩] at hE
          have hfin := Lib.hid hE
          obtain ⟨x0, x1⟩ := hx
          obtain ⟨y0, y1⟩ := hy
          clear hE
          go_wp2_with (first | (go_at_call 56; first | refine rin ?_ | refine rout ?_ | refine rany ?_) | ((first | (go_at_call 134) | (go_at_call 59) | (go_at_call 133) | (go_at_call 14) | (go_at_call 178) | (fail) | (go_at_call 139)); first | refine rin ?_ | refine rout ?_ | refine rany ?_))
          refine (CheckHolidays_any _ _ p.hols _ (hl.out.below hb.out) (hT.out.below hb.out)).mono ?_
          rintro e w2 ⟨rfl, hb2⟩
          have hb3 := Lib.hid (below_step hb.out hb2)
          clear hb2
          go_wp2_with fail
          go_ret
          exact ⟨ret_int hfin.out.symm, hb3.out⟩
        · rw [if_neg (fun h => hy ⟨h.2.2.1, h.2.2.2⟩)] at hE
          have hfin := Lib.hid hE
          obtain ⟨x0, x1⟩ := hx
          have hy' : p.longest < 0 ∨ 3660 < p.longest := by omega
          clear hE hy
          go_wp2_with (first | (go_at_call 56; first | refine rin ?_ | refine rout ?_ | refine rany ?_) | ((first | (go_at_call 134) | (go_at_call 59) | (go_at_call 133) | (go_at_call 14) | (go_at_call 178) | (fail) | (go_at_call 139)); first | refine rin ?_ | refine rout ?_ | refine rany ?_))
          go_ret
          exact ⟨ret_int hfin.out.symm, hb.out⟩
      · rw [if_neg (fun h => hx ⟨h.1, h.2.1⟩)] at hE
        have hfin := Lib.hid hE
        have hx' : p.exts < 0 ∨ 12 < p.exts := by omega
        clear hE hx
        go_wp2_with (first | (go_at_call 56; first | refine rin ?_ | refine rout ?_ | refine rany ?_) | ((first | (go_at_call 134) | (go_at_call 59) | (go_at_call 133) | (go_at_call 14) | (go_at_call 178) | (fail) | (go_at_call 139)); first | refine rin ?_ | refine rout ?_ | refine rany ?_))
        go_ret
        exact ⟨ret_int hfin.out.symm, hb.out⟩
end Go.Proofs.YtbegbajlagcbdaaGreatDoor
