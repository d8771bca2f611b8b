/- Chapter 8 and what it rests on: definitions and walks, part 44. -/
import Derived.Test.YtbegbajlagcbdaaGreatDoorC43
import Derived.Test.YtbegbajlagcbdaaGreatDoorC06
namespace Go.Proofs.YtbegbajlagcbdaaGreatDoor
open Go Go.RowKit
theorem triSize : (Tryz.prog.info? 22).map (·.size) = some 3 := by kernel_rfl
/-- The day from which the notice does not block, or -1. -/
def Cal.thirdS (p : Proc) (n : Note) : Int := if (Cal.expS p n).2 = 0 then (Cal.expS p n).1 else -1
def Cal.waitsE (p : Proc) (right rest : Int) (n : Note) : Int :=
  if Cal.procErr p = 0 then (if (-1 ≤ right ∧ right ≤ 200000) ∧ (-1 ≤ rest ∧ rest ≤ 200000) then (Cal.checkS p n).2 else 2) else Cal.procErr p
theorem start3r (w : World) (A : Option Addr) (c : Nat) (p : Proc) (right rest : Int) (N : Option Addr) (d : Nat) (n : Note) : Hid (BoxAt (((w.alloc (.cells #[.int .i64 p.runs.m, .int .i64 p.runs.d, .bool p.runs.k, .int .i64 p.obj.m, .int .i64 p.obj.d, .bool p.obj.k, .int .i64 p.wait.m, .int .i64 p.wait.d, .bool p.wait.k, .int .i64 p.exts, .int .i64 p.longest, .slice A p.hols.length c] 47)).alloc (.cells #[.int .i64 right, .int .i64 rest, .string n.name, .int .i64 n.opened, .slice N n.acts.length d] 114)).alloc (.cells #[.int .i64 0, .int .i64 0, .int .i64 0] 22)) w.heap.size [.int .i64 p.runs.m, .int .i64 p.runs.d, .bool p.runs.k, .int .i64 p.obj.m, .int .i64 p.obj.d, .bool p.obj.k, .int .i64 p.wait.m, .int .i64 p.wait.d, .bool p.wait.k, .int .i64 p.exts, .int .i64 p.longest, .slice A p.hols.length c]) ∧ Hid (BoxAt (((w.alloc (.cells #[.int .i64 p.runs.m, .int .i64 p.runs.d, .bool p.runs.k, .int .i64 p.obj.m, .int .i64 p.obj.d, .bool p.obj.k, .int .i64 p.wait.m, .int .i64 p.wait.d, .bool p.wait.k, .int .i64 p.exts, .int .i64 p.longest, .slice A p.hols.length c] 47)).alloc (.cells #[.int .i64 right, .int .i64 rest, .string n.name, .int .i64 n.opened, .slice N n.acts.length d] 114)).alloc (.cells #[.int .i64 0, .int .i64 0, .int .i64 0] 22)) (w.heap.size + 1) [.int .i64 right, .int .i64 rest, .string n.name, .int .i64 n.opened, .slice N n.acts.length d]) ∧ Hid (BoxAt (((w.alloc (.cells #[.int .i64 p.runs.m, .int .i64 p.runs.d, .bool p.runs.k, .int .i64 p.obj.m, .int .i64 p.obj.d, .bool p.obj.k, .int .i64 p.wait.m, .int .i64 p.wait.d, .bool p.wait.k, .int .i64 p.exts, .int .i64 p.longest, .slice A p.hols.length c] 47)).alloc (.cells #[.int .i64 right, .int .i64 rest, .string n.name, .int .i64 n.opened, .slice N n.acts.length d] 114)).alloc (.cells #[.int .i64 0, .int .i64 0, .int .i64 0] 22)) (w.heap.size + 1 + 1) [.int .i64 0, .int .i64 0, .int .i64 0]) ∧ Hid (Below w.heap.size w (((w.alloc (.cells #[.int .i64 p.runs.m, .int .i64 p.runs.d, .bool p.runs.k, .int .i64 p.obj.m, .int .i64 p.obj.d, .bool p.obj.k, .int .i64 p.wait.m, .int .i64 p.wait.d, .bool p.wait.k, .int .i64 p.exts, .int .i64 p.longest, .slice A p.hols.length c] 47)).alloc (.cells #[.int .i64 right, .int .i64 rest, .string n.name, .int .i64 n.opened, .slice N n.acts.length d] 114)).alloc (.cells #[.int .i64 0, .int .i64 0, .int .i64 0] 22))) := by
  have h2 := (BoxAt.new (w.alloc (.cells #[.int .i64 p.runs.m, .int .i64 p.runs.d, .bool p.runs.k, .int .i64 p.obj.m, .int .i64 p.obj.d, .bool p.obj.k, .int .i64 p.wait.m, .int .i64 p.wait.d, .bool p.wait.k, .int .i64 p.exts, .int .i64 p.longest, .slice A p.hols.length c] 47)) #[.int .i64 right, .int .i64 rest, .string n.name, .int .i64 n.opened, .slice N n.acts.length d] 114).alloc (.cells #[.int .i64 0, .int .i64 0, .int .i64 0] 22)
  rw [World.size_alloc] at h2
  have h3 := BoxAt.new ((w.alloc (.cells #[.int .i64 p.runs.m, .int .i64 p.runs.d, .bool p.runs.k, .int .i64 p.obj.m, .int .i64 p.obj.d, .bool p.obj.k, .int .i64 p.wait.m, .int .i64 p.wait.d, .bool p.wait.k, .int .i64 p.exts, .int .i64 p.longest, .slice A p.hols.length c] 47)).alloc (.cells #[.int .i64 right, .int .i64 rest, .string n.name, .int .i64 n.opened, .slice N n.acts.length d] 114)) #[.int .i64 0, .int .i64 0, .int .i64 0] 22
  rw [World.size_alloc, World.size_alloc] at h3
  exact ⟨((BoxAt.new w _ _).alloc _).alloc _, h2, h3, below_step (below_step (below_alloc _ _) (below_alloc _ _)) (below_alloc _ _)⟩
theorem start2r (w : World) (A : Option Addr) (c : Nat) (p : Proc) (right rest : Int) (N : Option Addr) (d : Nat) (n : Note) : Hid (BoxAt ((w.alloc (.cells #[.int .i64 p.runs.m, .int .i64 p.runs.d, .bool p.runs.k, .int .i64 p.obj.m, .int .i64 p.obj.d, .bool p.obj.k, .int .i64 p.wait.m, .int .i64 p.wait.d, .bool p.wait.k, .int .i64 p.exts, .int .i64 p.longest, .slice A p.hols.length c] 47)).alloc (.cells #[.int .i64 right, .int .i64 rest, .string n.name, .int .i64 n.opened, .slice N n.acts.length d] 114)) w.heap.size [.int .i64 p.runs.m, .int .i64 p.runs.d, .bool p.runs.k, .int .i64 p.obj.m, .int .i64 p.obj.d, .bool p.obj.k, .int .i64 p.wait.m, .int .i64 p.wait.d, .bool p.wait.k, .int .i64 p.exts, .int .i64 p.longest, .slice A p.hols.length c]) ∧ Hid (BoxAt ((w.alloc (.cells #[.int .i64 p.runs.m, .int .i64 p.runs.d, .bool p.runs.k, .int .i64 p.obj.m, .int .i64 p.obj.d, .bool p.obj.k, .int .i64 p.wait.m, .int .i64 p.wait.d, .bool p.wait.k, .int .i64 p.exts, .int .i64 p.longest, .slice A p.hols.length c] 47)).alloc (.cells #[.int .i64 right, .int .i64 rest, .string n.name, .int .i64 n.opened, .slice N n.acts.length d] 114)) (w.heap.size + 1) [.int .i64 right, .int .i64 rest, .string n.name, .int .i64 n.opened, .slice N n.acts.length d]) ∧ Hid (Below w.heap.size w ((w.alloc (.cells #[.int .i64 p.runs.m, .int .i64 p.runs.d, .bool p.runs.k, .int .i64 p.obj.m, .int .i64 p.obj.d, .bool p.obj.k, .int .i64 p.wait.m, .int .i64 p.wait.d, .bool p.wait.k, .int .i64 p.exts, .int .i64 p.longest, .slice A p.hols.length c] 47)).alloc (.cells #[.int .i64 right, .int .i64 rest, .string n.name, .int .i64 n.opened, .slice N n.acts.length d] 114))) := by
  have h2 := BoxAt.new (w.alloc (.cells #[.int .i64 p.runs.m, .int .i64 p.runs.d, .bool p.runs.k, .int .i64 p.obj.m, .int .i64 p.obj.d, .bool p.obj.k, .int .i64 p.wait.m, .int .i64 p.wait.d, .bool p.wait.k, .int .i64 p.exts, .int .i64 p.longest, .slice A p.hols.length c] 47)) #[.int .i64 right, .int .i64 rest, .string n.name, .int .i64 n.opened, .slice N n.acts.length d] 114
  rw [World.size_alloc] at h2
  exact ⟨(BoxAt.new w _ _).alloc _, h2, below_step (below_alloc _ _) (below_alloc _ _)⟩
def TriPost (w : World) (x y z E : Int) (e : Ending) (w' : World) : Prop := e = .returned (.tuple #[.agg #[.int .i64 x, .int .i64 y, .int .i64 z], .int .i64 E]) ∧ Below w.heap.size w w'
set_option maxRecDepth 100000 in
set_option maxHeartbeats 4000000 in
theorem waits_bad (A : Option Addr) (c : Nat) (p : Proc) (right rest : Int) (N : Option Addr) (d : Nat) (n : Note) (w : World) (hN : NB w A p N n) (hE : Cal.waitsE p right rest n ≠ 0) :
    Calls Tryz.prog 102 #[.agg #[.int .i64 p.runs.m, .int .i64 p.runs.d, .bool p.runs.k, .int .i64 p.obj.m, .int .i64 p.obj.d, .bool p.obj.k, .int .i64 p.wait.m, .int .i64 p.wait.d, .bool p.wait.k, .int .i64 p.exts, .int .i64 p.longest, .slice A p.hols.length c], .agg #[.int .i64 right, .int .i64 rest, .string n.name, .int .i64 n.opened, .slice N n.acts.length d]] w (TriPost w 0 0 0 (Cal.waitsE p right rest n)) := by
  have hN := Lib.hid hN
  by_cases h0 : Cal.procErr p = 0
  · have hp0 := Lib.hid h0
    by_cases hr : (-1 ≤ right ∧ right ≤ 200000) ∧ (-1 ≤ rest ∧ rest ≤ 200000)
    · have hC : Cal.waitsE p right rest n = (Cal.checkS p n).2 := by unfold Cal.waitsE; rw [if_pos h0, if_pos hr]
      rw [hC] at hE ⊢
      rcases hc : Cal.checkS p n with ⟨i, E⟩
      rw [hc] at hE
      have hE1 : (E != 0) = true := by simpa using hE
      have hcz := Lib.hid hc
      obtain ⟨⟨x0, x1⟩, x2, x3⟩ := hr
      clear hC hE hc h0
      obtain ⟨h1, h2, h3, hb⟩ := start3r w A c p right rest N d n
      have r0 := h2.out.c 0 _ rfl
      have r1 := h2.out.c 1 _ rfl
      have r2 := h2.out.c 2 _ rfl
      have r3 := h2.out.c 3 _ rfl
      have r4 := h2.out.c 4 _ rfl
      go_enter Tryz.func102, Tryz.ntmps102
      go_wp2_with (refine wpPr h1.out (.tmp 2) rfl ?_)
      refine (CheckProcedure_any A c p _ (hN.out.below hb.out).hols (hN.out.below hb.out).tab).mono ?_
      rintro e w1 ⟨rfl, hb1⟩
      rw [hp0.out]
      clear r0 r1 r2 r3 r4
      have g1 := Lib.hid (h1.out.below hb1)
      have g2 := Lib.hid (h2.out.below hb1)
      have g3 := Lib.hid (h3.out.below hb1)
      have hbw := Lib.hid (below_step hb.out hb1)
      clear hb1 h1 h2 h3 hb
      have r0 := g2.out.c 0 _ rfl
      have r1 := g2.out.c 1 _ rfl
      have r2 := g2.out.c 2 _ rfl
      have r3 := g2.out.c 3 _ rfl
      have r4 := g2.out.c 4 _ rfl
      go_wp2_with (first | first | (go_at_call 56; first | refine rin ?_ | refine rout ?_ | refine rany ?_) | ((first | (go_at_call 134) | (go_at_call 59) | (go_at_call 133) | (go_at_call 14) | (go_at_call 178) | (fail) | (go_at_call 139)); first | refine rin ?_ | refine rout ?_ | refine rany ?_) | (refine wpPr g1.out (.tmp 2) rfl ?_))
      refine (CheckNotice_any A c p N d n _ (hN.out.below hbw.out)).mono ?_
      rintro e w2 ⟨he, hb2⟩
      rw [hcz.out] at he
      subst he
      clear r0 r1 r2 r3 r4
      have k3 := Lib.hid (g3.out.below hb2)
      have hbw2 := Lib.hid (below_step hbw.out hb2)
      clear hb2
      go_wp2_with ((refine wpList_store_box rfl 22 (.tmp 4) (.tmp 38) rfl (w.heap.size + 1 + 1) _ [.int .i64 0, .int .i64 0, .int .i64 0] (by rfl) (by rfl) k3.out rfl triSize (by kernel_rfl) ?_; intro w3 h6 hg6); have hb3 := Lib.hid (below_of_grownB hbw2.out hg6 (by omega)))
      (try simp only [Exit.inBlock, Exit.then])
      refine bodyPost_ret (results_mid2 rfl _ _ (w.heap.size + 1 + 1) [.int .i64 0, .int .i64 0, .int .i64 0] _ rfl h6.range Tryz.underlying22 rfl triSize) rfl ⟨by rfl, hb3.out⟩
    · have hC : Hid (Cal.waitsE p right rest n = 2) := by show _ = _; unfold Cal.waitsE; rw [if_pos h0, if_neg hr]
      rw [hC.out]
      clear hE h0
      by_cases hr1 : -1 ≤ right ∧ right ≤ 200000
      · obtain ⟨x0, x1⟩ := hr1
        have hr2 : rest < -1 ∨ 200000 < rest := by omega
        clear hr
        obtain ⟨h1, h2, h3, hb⟩ := start3r w A c p right rest N d n
        have r0 := h2.out.c 0 _ rfl
        have r1 := h2.out.c 1 _ rfl
        have r2 := h2.out.c 2 _ rfl
        have r3 := h2.out.c 3 _ rfl
        have r4 := h2.out.c 4 _ rfl
        go_enter Tryz.func102, Tryz.ntmps102
        go_wp2_with (refine wpPr h1.out (.tmp 2) rfl ?_)
        refine (CheckProcedure_any A c p _ (hN.out.below hb.out).hols (hN.out.below hb.out).tab).mono ?_
        rintro e w1 ⟨rfl, hb1⟩
        rw [hp0.out]
        clear r0 r1 r2 r3 r4
        have g1 := Lib.hid (h1.out.below hb1)
        have g2 := Lib.hid (h2.out.below hb1)
        have g3 := Lib.hid (h3.out.below hb1)
        have hbw := Lib.hid (below_step hb.out hb1)
        clear hb1 h1 h2 h3 hb
        have r0 := g2.out.c 0 _ rfl
        have r1 := g2.out.c 1 _ rfl
        have r2 := g2.out.c 2 _ rfl
        have r3 := g2.out.c 3 _ rfl
        have r4 := g2.out.c 4 _ rfl
        go_wp2_with (first | first | (go_at_call 56; first | refine rin ?_ | refine rout ?_ | refine rany ?_) | ((first | (go_at_call 134) | (go_at_call 59) | (go_at_call 133) | (go_at_call 14) | (go_at_call 178) | (fail) | (go_at_call 139)); first | refine rin ?_ | refine rout ?_ | refine rany ?_) | ((refine wpList_store_box rfl 22 (.tmp 4) (.tmp 28) rfl (w.heap.size + 1 + 1) _ [.int .i64 0, .int .i64 0, .int .i64 0] (by rfl) (by rfl) g3.out rfl triSize (by kernel_rfl) ?_; intro w3 h6 hg6); have hb3 := Lib.hid (below_of_grownB hbw.out hg6 (by omega))))
        (try simp only [Exit.inBlock, Exit.then])
        refine bodyPost_ret (results_mid2 rfl _ _ (w.heap.size + 1 + 1) [.int .i64 0, .int .i64 0, .int .i64 0] _ rfl h6.range Tryz.underlying22 rfl triSize) rfl ⟨by rfl, hb3.out⟩
      · have hr2 : right < -1 ∨ 200000 < right := by omega
        clear hr hr1
        obtain ⟨h1, h2, h3, hb⟩ := start3r w A c p right rest N d n
        have r0 := h2.out.c 0 _ rfl
        have r1 := h2.out.c 1 _ rfl
        have r2 := h2.out.c 2 _ rfl
        have r3 := h2.out.c 3 _ rfl
        have r4 := h2.out.c 4 _ rfl
        go_enter Tryz.func102, Tryz.ntmps102
        go_wp2_with (refine wpPr h1.out (.tmp 2) rfl ?_)
        refine (CheckProcedure_any A c p _ (hN.out.below hb.out).hols (hN.out.below hb.out).tab).mono ?_
        rintro e w1 ⟨rfl, hb1⟩
        rw [hp0.out]
        clear r0 r1 r2 r3 r4
        have g1 := Lib.hid (h1.out.below hb1)
        have g2 := Lib.hid (h2.out.below hb1)
        have g3 := Lib.hid (h3.out.below hb1)
        have hbw := Lib.hid (below_step hb.out hb1)
        clear hb1 h1 h2 h3 hb
        have r0 := g2.out.c 0 _ rfl
        have r1 := g2.out.c 1 _ rfl
        have r2 := g2.out.c 2 _ rfl
        have r3 := g2.out.c 3 _ rfl
        have r4 := g2.out.c 4 _ rfl
        go_wp2_with (first | first | (go_at_call 56; first | refine rin ?_ | refine rout ?_ | refine rany ?_) | ((first | (go_at_call 134) | (go_at_call 59) | (go_at_call 133) | (go_at_call 14) | (go_at_call 178) | (fail) | (go_at_call 139)); first | refine rin ?_ | refine rout ?_ | refine rany ?_) | ((refine wpList_store_box rfl 22 (.tmp 4) (.tmp 28) rfl (w.heap.size + 1 + 1) _ [.int .i64 0, .int .i64 0, .int .i64 0] (by rfl) (by rfl) g3.out rfl triSize (by kernel_rfl) ?_; intro w3 h6 hg6); have hb3 := Lib.hid (below_of_grownB hbw.out hg6 (by omega))))
        (try simp only [Exit.inBlock, Exit.then])
        refine bodyPost_ret (results_mid2 rfl _ _ (w.heap.size + 1 + 1) [.int .i64 0, .int .i64 0, .int .i64 0] _ rfl h6.range Tryz.underlying22 rfl triSize) rfl ⟨by rfl, hb3.out⟩
  · obtain ⟨E, hp⟩ : ∃ E, Cal.procErr p = E := ⟨_, rfl⟩
    have hC : Cal.waitsE p right rest n = E := by unfold Cal.waitsE; rw [if_neg h0, hp]
    rw [hC]
    have hp0 := Lib.hid hp
    have hE1 : (E != 0) = true := by rw [← hp]; simpa using h0
    clear hC hE h0 hp
    obtain ⟨h1, h2, h3, hb⟩ := start3r w A c p right rest N d n
    have r0 := h2.out.c 0 _ rfl
    have r1 := h2.out.c 1 _ rfl
    have r2 := h2.out.c 2 _ rfl
    have r3 := h2.out.c 3 _ rfl
    have r4 := h2.out.c 4 _ rfl
    go_enter Tryz.func102, Tryz.ntmps102
    go_wp2_with (refine wpPr h1.out (.tmp 2) rfl ?_)
    refine (CheckProcedure_any A c p _ (hN.out.below hb.out).hols (hN.out.below hb.out).tab).mono ?_
    rintro e w1 ⟨rfl, hb1⟩
    rw [hp0.out]
    clear r0 r1 r2 r3 r4
    have g1 := Lib.hid (h1.out.below hb1)
    have g2 := Lib.hid (h2.out.below hb1)
    have g3 := Lib.hid (h3.out.below hb1)
    have hbw := Lib.hid (below_step hb.out hb1)
    clear hb1 h1 h2 h3 hb
    have r0 := g2.out.c 0 _ rfl
    have r1 := g2.out.c 1 _ rfl
    have r2 := g2.out.c 2 _ rfl
    have r3 := g2.out.c 3 _ rfl
    have r4 := g2.out.c 4 _ rfl
    go_wp2_with ((refine wpList_store_box rfl 22 (.tmp 4) (.tmp 16) rfl (w.heap.size + 1 + 1) _ [.int .i64 0, .int .i64 0, .int .i64 0] (by rfl) (by rfl) g3.out rfl triSize (by kernel_rfl) ?_; intro w3 h6 hg6); have hb3 := Lib.hid (below_of_grownB hbw.out hg6 (by omega)))
    (try simp only [Exit.inBlock, Exit.then])
    refine bodyPost_ret (results_mid2 rfl _ _ (w.heap.size + 1 + 1) [.int .i64 0, .int .i64 0, .int .i64 0] _ rfl h6.range Tryz.underlying22 rfl triSize) rfl ⟨by rfl, hb3.out⟩
theorem Cal.waitsE_ok {p : Proc} {right rest : Int} {n : Note} (h : Cal.waitsE p right rest n = 0) : Cal.procErr p = 0 ∧ -1 ≤ right ∧ right ≤ 200000 ∧ -1 ≤ rest ∧ rest ≤ 200000 ∧ (Cal.checkS p n).2 = 0 := by
  unfold Cal.waitsE at h
  split at h
  · rename_i h0
    split at h
    · rename_i h1; exact ⟨h0, h1.1.1, h1.1.2, h1.2.1, h1.2.2, h⟩
    · omega
  · rename_i h0; exact absurd h h0
set_option maxRecDepth 100000 in
set_option maxHeartbeats 4000000 in
theorem waits_ok (A : Option Addr) (c : Nat) (p : Proc) (right rest : Int) (N : Option Addr) (d : Nat) (n : Note) (w : World) (hN : NB w A p N n) (hE : Cal.waitsE p right rest n = 0) :
    Calls Tryz.prog 102 #[.agg #[.int .i64 p.runs.m, .int .i64 p.runs.d, .bool p.runs.k, .int .i64 p.obj.m, .int .i64 p.obj.d, .bool p.obj.k, .int .i64 p.wait.m, .int .i64 p.wait.d, .bool p.wait.k, .int .i64 p.exts, .int .i64 p.longest, .slice A p.hols.length c], .agg #[.int .i64 right, .int .i64 rest, .string n.name, .int .i64 n.opened, .slice N n.acts.length d]] w (TriPost w right rest (Cal.thirdS p n) 0) := by
  have hN := Lib.hid hN
  obtain ⟨h0, x0, x1, x2, x3, hc2⟩ := Cal.waitsE_ok hE
  have hp0 := Lib.hid h0
  rcases hc : Cal.checkS p n with ⟨i, E⟩
  rw [hc] at hc2
  have hc2 : E = 0 := hc2
  subst hc2
  have hcz := Lib.hid hc
  clear hc hE h0
  rcases hex : Cal.expS p n with ⟨x, F⟩
  have hexz := Lib.hid hex
  by_cases hF : F = 0
  · subst hF
    have hthird : Cal.thirdS p n = x := by unfold Cal.thirdS; rw [hex]; rfl
    rw [hthird]
    clear hthird hex
    obtain ⟨h1, h2, h3, hb⟩ := start3r w A c p right rest N d n
    have r0 := h2.out.c 0 _ rfl
    have r1 := h2.out.c 1 _ rfl
    have r2 := h2.out.c 2 _ rfl
    have r3 := h2.out.c 3 _ rfl
    have r4 := h2.out.c 4 _ rfl
    go_enter Tryz.func102, Tryz.ntmps102
    go_wp2_with (refine wpPr h1.out (.tmp 2) rfl ?_)
    refine (CheckProcedure_any A c p _ (hN.out.below hb.out).hols (hN.out.below hb.out).tab).mono ?_
    rintro e w1 ⟨rfl, hb1⟩
    rw [hp0.out]
    clear r0 r1 r2 r3 r4
    have g1 := Lib.hid (h1.out.below hb1)
    have g2 := Lib.hid (h2.out.below hb1)
    have g3 := Lib.hid (h3.out.below hb1)
    have hbw := Lib.hid (below_step hb.out hb1)
    clear hb1 h1 h2 h3 hb
    have r0 := g2.out.c 0 _ rfl
    have r1 := g2.out.c 1 _ rfl
    have r2 := g2.out.c 2 _ rfl
    have r3 := g2.out.c 3 _ rfl
    have r4 := g2.out.c 4 _ rfl
    go_wp2_with (first | first | (go_at_call 56; first | refine rin ?_ | refine rout ?_ | refine rany ?_) | ((first | (go_at_call 134) | (go_at_call 59) | (go_at_call 133) | (go_at_call 14) | (go_at_call 178) | (fail) | (go_at_call 139)); first | refine rin ?_ | refine rout ?_ | refine rany ?_) | (refine wpPr g1.out (.tmp 2) rfl ?_))
    refine (CheckNotice_any A c p N d n _ (hN.out.below hbw.out)).mono ?_
    rintro e w2 ⟨he, hb2⟩
    rw [hcz.out] at he
    subst he
    clear r0 r1 r2 r3 r4
    have k1 := Lib.hid (g1.out.below hb2)
    have k2 := Lib.hid (g2.out.below hb2)
    have k3 := Lib.hid (g3.out.below hb2)
    have hbw2 := Lib.hid (below_step hbw.out hb2)
    have hz := (g3.out.below hb2).lt
    have hN9 := Lib.hid (BoxAt.new w2 #[.int .i64 0, .int .i64 0, .int .i64 0] 22)
    clear hb2 g1 g2 g3
    have r0 := k2.out.c 0 _ rfl
    have r1 := k2.out.c 1 _ rfl
    have r2 := k2.out.c 2 _ rfl
    have r3 := k2.out.c 3 _ rfl
    have r4 := k2.out.c 4 _ rfl
    go_wp2_with (first
      | ((refine wpList_store_box rfl 22 (.tmp 9) (.tmp 44) rfl (w2.heap.size) _ [.int .i64 right, .int .i64 rest, .int .i64 (-1)] (by rfl) (by rfl) hN9.out rfl triSize (by kernel_rfl) ?_; intro w3 h9 hg9); have hb23 := below_of_grownB (below_alloc w2 _) hg9 (Nat.le_refl _); have hbw3 := Lib.hid (below_step hbw2.out hb23); have l1 := Lib.hid (k1.out.below hb23); have l2 := Lib.hid (k2.out.below hb23); have l3 := Lib.hid (k3.out.below hb23); have h9 := Lib.hid h9; clear hb23 hg9 r0 r1 r2 r3 r4; have r0 := l2.out.c 0 _ rfl; have r1 := l2.out.c 1 _ rfl; have r2 := l2.out.c 2 _ rfl; have r3 := l2.out.c 3 _ rfl; have r4 := l2.out.c 4 _ rfl)
      | (refine wpPr l1.out (.tmp 2) rfl ?_))
    refine (ExpiresAt_any A c p N d n _ (hN.out.below hbw3.out)).mono ?_
    rintro e w4 ⟨he, hb4⟩
    rw [hexz.out] at he
    subst he
    clear r0 r1 r2 r3 r4
    have m3 := Lib.hid (l3.out.below hb4)
    have m9 := Lib.hid (h9.out.below hb4)
    have hbw4 := Lib.hid (below_step hbw3.out hb4)
    clear hb4
    have z0 := m9.out.c 0 _ rfl
    have z1 := m9.out.c 1 _ rfl
    have z2 := m9.out.c 2 _ rfl
    have f2 := m9.out.free 2 (by simp)
    have h10 := Lib.hid (m9.out.set 2 (.int .i64 x) (by simp))
    have hg10 := grown_set w4 w2.heap.size 2 (.int .i64 x)
    have n3 := Lib.hid (m3.out.grown hg10 (by simp; omega))
    have hbw5 := Lib.hid (below_of_grownB hbw4.out hg10 (by have := hbw2.out.size; omega))
    have y0 := h10.out.c 0 _ rfl
    have y1 := h10.out.c 1 _ rfl
    have y2 := h10.out.c 2 _ rfl
    clear hg10
    go_wp2_with ((refine wpList_store_box rfl 22 (.tmp 4) (.tmp 56) rfl (w.heap.size + 1 + 1) _ [.int .i64 right, .int .i64 rest, .int .i64 x] (by rfl) (by rfl) n3.out rfl triSize (by kernel_rfl) ?_; intro w6 h6 hg6); have hb6 := Lib.hid (below_of_grownB hbw5.out hg6 (by omega)))
    (try simp only [Exit.inBlock, Exit.then])
    refine bodyPost_ret (results_mid2 rfl _ _ (w.heap.size + 1 + 1) [.int .i64 right, .int .i64 rest, .int .i64 x] _ rfl h6.range Tryz.underlying22 rfl triSize) rfl ⟨by rfl, hb6.out⟩
  · have hthird : Cal.thirdS p n = -1 := by unfold Cal.thirdS; rw [hex, if_neg hF]
    have hF1 : (F == 0) = false := by simpa using hF
    rw [hthird]
    clear hthird hex hF
    obtain ⟨h1, h2, h3, hb⟩ := start3r w A c p right rest N d n
    have r0 := h2.out.c 0 _ rfl
    have r1 := h2.out.c 1 _ rfl
    have r2 := h2.out.c 2 _ rfl
    have r3 := h2.out.c 3 _ rfl
    have r4 := h2.out.c 4 _ rfl
    go_enter Tryz.func102, Tryz.ntmps102
    go_wp2_with (refine wpPr h1.out (.tmp 2) rfl ?_)
    refine (CheckProcedure_any A c p _ (hN.out.below hb.out).hols (hN.out.below hb.out).tab).mono ?_
    rintro e w1 ⟨rfl, hb1⟩
    rw [hp0.out]
    clear r0 r1 r2 r3 r4
    have g1 := Lib.hid (h1.out.below hb1)
    have g2 := Lib.hid (h2.out.below hb1)
    have g3 := Lib.hid (h3.out.below hb1)
    have hbw := Lib.hid (below_step hb.out hb1)
    clear hb1 h1 h2 h3 hb
    have r0 := g2.out.c 0 _ rfl
    have r1 := g2.out.c 1 _ rfl
    have r2 := g2.out.c 2 _ rfl
    have r3 := g2.out.c 3 _ rfl
    have r4 := g2.out.c 4 _ rfl
    go_wp2_with (first | first | (go_at_call 56; first | refine rin ?_ | refine rout ?_ | refine rany ?_) | ((first | (go_at_call 134) | (go_at_call 59) | (go_at_call 133) | (go_at_call 14) | (go_at_call 178) | (fail) | (go_at_call 139)); first | refine rin ?_ | refine rout ?_ | refine rany ?_) | (refine wpPr g1.out (.tmp 2) rfl ?_))
    refine (CheckNotice_any A c p N d n _ (hN.out.below hbw.out)).mono ?_
    rintro e w2 ⟨he, hb2⟩
    rw [hcz.out] at he
    subst he
    clear r0 r1 r2 r3 r4
    have k1 := Lib.hid (g1.out.below hb2)
    have k2 := Lib.hid (g2.out.below hb2)
    have k3 := Lib.hid (g3.out.below hb2)
    have hbw2 := Lib.hid (below_step hbw.out hb2)
    have hz := (g3.out.below hb2).lt
    have hN9 := Lib.hid (BoxAt.new w2 #[.int .i64 0, .int .i64 0, .int .i64 0] 22)
    clear hb2 g1 g2 g3
    have r0 := k2.out.c 0 _ rfl
    have r1 := k2.out.c 1 _ rfl
    have r2 := k2.out.c 2 _ rfl
    have r3 := k2.out.c 3 _ rfl
    have r4 := k2.out.c 4 _ rfl
    go_wp2_with (first
      | ((refine wpList_store_box rfl 22 (.tmp 9) (.tmp 44) rfl (w2.heap.size) _ [.int .i64 right, .int .i64 rest, .int .i64 (-1)] (by rfl) (by rfl) hN9.out rfl triSize (by kernel_rfl) ?_; intro w3 h9 hg9); have hb23 := below_of_grownB (below_alloc w2 _) hg9 (Nat.le_refl _); have hbw3 := Lib.hid (below_step hbw2.out hb23); have l1 := Lib.hid (k1.out.below hb23); have l2 := Lib.hid (k2.out.below hb23); have l3 := Lib.hid (k3.out.below hb23); have h9 := Lib.hid h9; clear hb23 hg9 r0 r1 r2 r3 r4; have r0 := l2.out.c 0 _ rfl; have r1 := l2.out.c 1 _ rfl; have r2 := l2.out.c 2 _ rfl; have r3 := l2.out.c 3 _ rfl; have r4 := l2.out.c 4 _ rfl)
      | (refine wpPr l1.out (.tmp 2) rfl ?_))
    refine (ExpiresAt_any A c p N d n _ (hN.out.below hbw3.out)).mono ?_
    rintro e w4 ⟨he, hb4⟩
    rw [hexz.out] at he
    subst he
    clear r0 r1 r2 r3 r4
    have m3 := Lib.hid (l3.out.below hb4)
    have m9 := Lib.hid (h9.out.below hb4)
    have hbw4 := Lib.hid (below_step hbw3.out hb4)
    clear hb4
    have z0 := m9.out.c 0 _ rfl
    have z1 := m9.out.c 1 _ rfl
    have z2 := m9.out.c 2 _ rfl
    go_wp2_with ((refine wpList_store_box rfl 22 (.tmp 4) (.tmp 56) rfl (w.heap.size + 1 + 1) _ [.int .i64 right, .int .i64 rest, .int .i64 (-1)] (by rfl) (by rfl) m3.out rfl triSize (by kernel_rfl) ?_; intro w6 h6 hg6); have hb6 := Lib.hid (below_of_grownB hbw4.out hg6 (by omega)))
    (try simp only [Exit.inBlock, Exit.then])
    refine bodyPost_ret (results_mid2 rfl _ _ (w.heap.size + 1 + 1) [.int .i64 right, .int .i64 rest, .int .i64 (-1)] _ rfl h6.range Tryz.underlying22 rfl triSize) rfl ⟨by rfl, hb6.out⟩
end Go.Proofs.YtbegbajlagcbdaaGreatDoor
namespace Go.Proofs.YtbegbajlagcbdaaGreatDoor
open Go Go.RowKit
/-- The first day on which nothing blocks, and the error. -/
def Cal.earlS (p : Proc) (right rest : Int) (n : Note) : Int × Int :=
  if Cal.waitsE p right rest n = 0 then (if right < 0 ∨ rest < 0 ∨ Cal.thirdS p n < 0 then (0, 12) else (max (max right rest) (Cal.thirdS p n), 0)) else (0, Cal.waitsE p right rest n)
theorem min3_lt (x y z : Int) : ((if z < (if y < x then y else x) then z else (if y < x then y else x)) < 0) ↔ (x < 0 ∨ y < 0 ∨ z < 0) := by
  split <;> split at * <;> omega
set_option maxRecDepth 100000 in
set_option maxHeartbeats 4000000 in
theorem earl_walk (A : Option Addr) (c : Nat) (p : Proc) (right rest z E : Int) (x y : Int) (N : Option Addr) (d : Nat) (n : Note) (w : World) (r : Int × Int) (hN : NB w A p N n)
    (hr : (E ≠ 0 ∧ r = (0, E)) ∨ (E = 0 ∧ (x < 0 ∨ y < 0 ∨ z < 0) ∧ r = (0, 12)) ∨ (E = 0 ∧ ¬ (x < 0 ∨ y < 0 ∨ z < 0) ∧ r = (max (max x y) z, 0)))
    (hw : Hid (∀ w1, NB w1 A p N n → Calls Tryz.prog 102 #[.agg #[.int .i64 p.runs.m, .int .i64 p.runs.d, .bool p.runs.k, .int .i64 p.obj.m, .int .i64 p.obj.d, .bool p.obj.k, .int .i64 p.wait.m, .int .i64 p.wait.d, .bool p.wait.k, .int .i64 p.exts, .int .i64 p.longest, .slice A p.hols.length c], .agg #[.int .i64 right, .int .i64 rest, .string n.name, .int .i64 n.opened, .slice N n.acts.length d]] w1 (TriPost w1 x y z E))) :
    Calls Tryz.prog 52 #[.agg #[.int .i64 p.runs.m, .int .i64 p.runs.d, .bool p.runs.k, .int .i64 p.obj.m, .int .i64 p.obj.d, .bool p.obj.k, .int .i64 p.wait.m, .int .i64 p.wait.d, .bool p.wait.k, .int .i64 p.exts, .int .i64 p.longest, .slice A p.hols.length c], .agg #[.int .i64 right, .int .i64 rest, .string n.name, .int .i64 n.opened, .slice N n.acts.length d]] w (IEPost w r) := by
  have hN := Lib.hid hN
  rcases hr with ⟨hE, hr⟩ | ⟨rfl, hneg, hr⟩ | ⟨rfl, hneg, hr⟩
  · have hfin := Lib.hid hr
    have hE1 : (E != 0) = true := by simpa using hE
    clear hr hE
    obtain ⟨h1, h2, hb⟩ := start2r w A c p right rest N d n
    have r0 := h2.out.c 0 _ rfl
    have r1 := h2.out.c 1 _ rfl
    have r2 := h2.out.c 2 _ rfl
    have r3 := h2.out.c 3 _ rfl
    have r4 := h2.out.c 4 _ rfl
    go_enter Tryz.func52, Tryz.ntmps52
    go_wp2_with (refine wpPr h1.out (.tmp 2) rfl ?_)
    clear r0 r1 r2 r3 r4
    refine (hw.out _ (hN.out.below hb.out)).mono ?_
    rintro e w1 ⟨he, hb1⟩
    subst he
    have hbw := Lib.hid (below_step hb.out hb1)
    have hN6 := Lib.hid (BoxAt.new w1 #[.int .i64 0, .int .i64 0, .int .i64 0] 22)
    clear hb1 h1 h2 hb
    go_wp2_with ((refine wpList_store_box rfl 22 (.tmp 6) (.tmp 12) rfl (w1.heap.size) _ [.int .i64 x, .int .i64 y, .int .i64 z] (by rfl) (by rfl) hN6.out rfl triSize (by kernel_rfl) ?_; intro w2 h6 hg6); have hb2 := Lib.hid (below_step hbw.out (below_of_grownB (below_alloc w1 _) hg6 (Nat.le_refl _))); have c0 := h6.c 0 _ rfl; have c1 := h6.c 1 _ rfl; have c2 := h6.c 2 _ rfl)
    go_ret2
    exact ⟨by rw [hfin.out]; first | done | rfl, hb2.out⟩
  · have hfin := Lib.hid hr
    have hm : decide ((if z < (if y < x then y else x) then z else (if y < x then y else x)) < 0) = true := by simpa only [decide_eq_true_eq] using (min3_lt x y z).2 hneg
    clear hr hneg
    obtain ⟨h1, h2, hb⟩ := start2r w A c p right rest N d n
    have r0 := h2.out.c 0 _ rfl
    have r1 := h2.out.c 1 _ rfl
    have r2 := h2.out.c 2 _ rfl
    have r3 := h2.out.c 3 _ rfl
    have r4 := h2.out.c 4 _ rfl
    go_enter Tryz.func52, Tryz.ntmps52
    go_wp2_with (refine wpPr h1.out (.tmp 2) rfl ?_)
    clear r0 r1 r2 r3 r4
    refine (hw.out _ (hN.out.below hb.out)).mono ?_
    rintro e w1 ⟨he, hb1⟩
    subst he
    have hbw := Lib.hid (below_step hb.out hb1)
    have hN6 := Lib.hid (BoxAt.new w1 #[.int .i64 0, .int .i64 0, .int .i64 0] 22)
    clear hb1 h1 h2 hb
    go_wp2_with ((refine wpList_store_box rfl 22 (.tmp 6) (.tmp 12) rfl (w1.heap.size) _ [.int .i64 x, .int .i64 y, .int .i64 z] (by rfl) (by rfl) hN6.out rfl triSize (by kernel_rfl) ?_; intro w2 h6 hg6); have hb2 := Lib.hid (below_step hbw.out (below_of_grownB (below_alloc w1 _) hg6 (Nat.le_refl _))); have c0 := h6.c 0 _ rfl; have c1 := h6.c 1 _ rfl; have c2 := h6.c 2 _ rfl)
    all_goals
      go_ret2
      exact ⟨by rw [hfin.out]; first | done | rfl, hb2.out⟩
  · have hfin := Lib.hid hr
    have hm : decide ((if z < (if y < x then y else x) then z else (if y < x then y else x)) < 0) = false := by simpa only [decide_eq_false_iff_not] using (fun h => hneg ((min3_lt x y z).1 h))
    clear hr hneg
    obtain ⟨h1, h2, hb⟩ := start2r w A c p right rest N d n
    have r0 := h2.out.c 0 _ rfl
    have r1 := h2.out.c 1 _ rfl
    have r2 := h2.out.c 2 _ rfl
    have r3 := h2.out.c 3 _ rfl
    have r4 := h2.out.c 4 _ rfl
    go_enter Tryz.func52, Tryz.ntmps52
    go_wp2_with (refine wpPr h1.out (.tmp 2) rfl ?_)
    clear r0 r1 r2 r3 r4
    refine (hw.out _ (hN.out.below hb.out)).mono ?_
    rintro e w1 ⟨he, hb1⟩
    subst he
    have hbw := Lib.hid (below_step hb.out hb1)
    have hN6 := Lib.hid (BoxAt.new w1 #[.int .i64 0, .int .i64 0, .int .i64 0] 22)
    clear hb1 h1 h2 hb
    go_wp2_with ((refine wpList_store_box rfl 22 (.tmp 6) (.tmp 12) rfl (w1.heap.size) _ [.int .i64 x, .int .i64 y, .int .i64 z] (by rfl) (by rfl) hN6.out rfl triSize (by kernel_rfl) ?_; intro w2 h6 hg6); have hb2 := Lib.hid (below_step hbw.out (below_of_grownB (below_alloc w1 _) hg6 (Nat.le_refl _))); have c0 := h6.c 0 _ rfl; have c1 := h6.c 1 _ rfl; have c2 := h6.c 2 _ rfl)
    all_goals
      go_ret2
      exact ⟨by rw [hfin.out]; exact ret_int2 (by first | omega | (simp only []; omega)) rfl, hb2.out⟩
theorem Earliest_any (A : Option Addr) (c : Nat) (p : Proc) (right rest : Int) (N : Option Addr) (d : Nat) (n : Note) (w : World) (hN : NB w A p N n) :
    Calls Tryz.prog 52 #[.agg #[.int .i64 p.runs.m, .int .i64 p.runs.d, .bool p.runs.k, .int .i64 p.obj.m, .int .i64 p.obj.d, .bool p.obj.k, .int .i64 p.wait.m, .int .i64 p.wait.d, .bool p.wait.k, .int .i64 p.exts, .int .i64 p.longest, .slice A p.hols.length c], .agg #[.int .i64 right, .int .i64 rest, .string n.name, .int .i64 n.opened, .slice N n.acts.length d]] w (IEPost w (Cal.earlS p right rest n)) := by
  by_cases hE : Cal.waitsE p right rest n = 0
  · refine earl_walk A c p right rest (Cal.thirdS p n) 0 right rest N d n w _ hN ?_ (fun w1 h => waits_ok A c p right rest N d n w1 h hE)
    unfold Cal.earlS
    rw [if_pos hE]
    by_cases h : right < 0 ∨ rest < 0 ∨ Cal.thirdS p n < 0
    · exact .inr (.inl ⟨rfl, h, if_pos h⟩)
    · exact .inr (.inr ⟨rfl, h, if_neg h⟩)
  · refine earl_walk A c p right rest 0 _ 0 0 N d n w _ hN (.inl ⟨hE, ?_⟩) (fun w1 h => waits_bad A c p right rest N d n w1 h hE)
    unfold Cal.earlS
    rw [if_neg hE]
theorem ntSize : (Tryz.prog.info? 93).map (·.size) = some 3 := by kernel_rfl
theorem elemActA : Elem Tryz.prog 91 109 3 24 := Elem.mk' Tryz.underlying91 (z := .agg #[.int .i64 0, .int .i64 0, .int .i64 0]) (by kernel_rfl) rfl (by decide)
theorem actCellsA_wid (l : List NAct) : ∀ r ∈ l.map NAct.cells, r.length = 3 := fun r hr => by obtain ⟨n, _, rfl⟩ := List.mem_map.1 hr; rfl
theorem actCellsA_one (l : List NAct) : ∀ r ∈ l.map NAct.cells, ∀ u ∈ r, u.oneCell' = true := fun r hr u hu => by
  obtain ⟨n, _, rfl⟩ := List.mem_map.1 hr
  simp only [NAct.cells, List.mem_cons, List.not_mem_nil, or_false] at hu
  rcases hu with rfl | rfl | rfl <;> rfl
end Go.Proofs.YtbegbajlagcbdaaGreatDoor
