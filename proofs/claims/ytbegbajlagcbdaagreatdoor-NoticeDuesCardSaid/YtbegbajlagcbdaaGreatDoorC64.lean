/- Chapter 8 and what it rests on: definitions and walks, part 64. -/
import Derived.Test.YtbegbajlagcbdaaGreatDoorC63
namespace Go.Proofs.YtbegbajlagcbdaaGreatDoor
open Go Go.RowKit
theorem acc_none {ph k : Int} (h0 : (ph == 0) = false) (h1 : (ph == 1) = false) (h2 : (ph == 2) = false) (h3 : (ph == 3) = false) : Cal.accI ph k = -1 := by
  have e0 : ph ≠ 0 := by simpa using h0
  have e1 : ph ≠ 1 := by simpa using h1
  have e2 : ph ≠ 2 := by simpa using h2
  have e3 : ph ≠ 3 := by simpa using h3
  have hn : ¬ (1 ≤ ph ∧ ph ≤ 3) := by omega
  unfold Cal.accI
  simp [e0, e1, e2, e3, hn]
set_option maxRecDepth 100000 in
set_option maxHeartbeats 4000000 in
theorem accepted_any (ph k : Int) (k0 : 0 ≤ k) (k1 : k ≤ 7) (w : World) : Calls Tryz.prog 192 #[.int .i64 ph, .int .i64 k] w fun e w' => e = .returned (.int .i64 (Cal.accI ph k)) ∧ w = w' := by
  by_cases hp : ph = 0 ∨ ph = 1 ∨ ph = 2 ∨ ph = 3
  · rcases hp with rfl | rfl | rfl | rfl
    all_goals
      rcases Cal.kinds k0 k1 with rfl | rfl | rfl | rfl | rfl | rfl | rfl | rfl
      all_goals
        clear k0 k1
        go_enter Tryz.func192, Tryz.ntmps192
        go_wp2_with (((first | (go_at_call 134) | (go_at_call 59) | (go_at_call 133) | (go_at_call 14) | (go_at_call 178) | (fail) | (go_at_call 139)); first | refine rin ?_ | refine rout ?_ | refine rany ?_))
        go_ret
        exact ⟨by first | rfl | decide, rfl⟩
  · have h0 : (ph == 0) = false := by simp; omega
    have h1 : (ph == 1) = false := by simp; omega
    have h2 : (ph == 2) = false := by simp; omega
    have h3 : (ph == 3) = false := by simp; omega
    have hfin := Lib.hid (acc_none (k := k) h0 h1 h2 h3)
    have hr : ph < 1 ∨ 3 < ph := by omega
    clear hp k0 k1
    go_enter Tryz.func192, Tryz.ntmps192
    go_wp2_with (((first | (go_at_call 134) | (go_at_call 59) | (go_at_call 133) | (go_at_call 14) | (go_at_call 178) | (fail) | (go_at_call 139)); first | refine rin ?_ | refine rout ?_ | refine rany ?_))
    go_ret
    exact ⟨ret_int hfin.out.symm, rfl⟩
set_option maxRecDepth 100000 in
set_option maxHeartbeats 4000000 in
theorem late_any (s : NSt) (a : NAct) (w : World) : Calls Tryz.prog 193 #[.agg #[.int .i64 s.phase, .int .i64 s.deadline, .int .i64 s.object, .int .i64 s.last, .int .i64 s.objected, .int .i64 s.extended], .agg #[.int .i64 a.day, .int .i64 a.kind, .int .i64 a.days]] w fun e w' => e = .returned (.bool (Cal.lateB s a)) ∧ Below w.heap.size w w' := by
  by_cases h1 : a.kind = 1 ∨ a.kind = 6 ∨ a.kind = 7
  · have hL : Cal.lateB s a = decide (s.phase = 1 ∧ s.deadline < a.day) := if_pos h1
    by_cases hp : s.phase = 1
    · have hpb : (s.phase == 1) = true := by simpa using hp
      have hfin : Hid (Cal.lateB s a = decide (s.deadline < a.day)) := by show _ = _; rw [hL]; simp [hp]
      clear hp hL
      rcases h1 with h1 | h1 | h1
      · have k1 : (a.kind == 1) = true := by simpa using h1
        clear h1
        go_enter Tryz.func193, Tryz.ntmps193
        go_wp2_with fail
        go_ret
        exact ⟨ret_bool hfin.out.symm, by exact blw⟩
      · have k1 : (a.kind == 1) = false := by rw [h1]; rfl
        have k6 : (a.kind == 6) = true := by simpa using h1
        clear h1
        go_enter Tryz.func193, Tryz.ntmps193
        go_wp2_with fail
        go_ret
        exact ⟨ret_bool hfin.out.symm, by exact blw⟩
      · have k1 : (a.kind == 1) = false := by rw [h1]; rfl
        have k6 : (a.kind == 6) = false := by rw [h1]; rfl
        have k7 : (a.kind == 7) = true := by simpa using h1
        clear h1
        go_enter Tryz.func193, Tryz.ntmps193
        go_wp2_with fail
        go_ret
        exact ⟨ret_bool hfin.out.symm, by exact blw⟩
    · have hpb : (s.phase == 1) = false := by simpa using hp
      have hfin : Hid (Cal.lateB s a = false) := by show _ = _; rw [hL]; simp [hp]
      clear hp hL
      rcases h1 with h1 | h1 | h1
      · have k1 : (a.kind == 1) = true := by simpa using h1
        clear h1
        go_enter Tryz.func193, Tryz.ntmps193
        go_wp2_with fail
        go_ret
        exact ⟨ret_bool hfin.out.symm, by exact blw⟩
      · have k1 : (a.kind == 1) = false := by rw [h1]; rfl
        have k6 : (a.kind == 6) = true := by simpa using h1
        clear h1
        go_enter Tryz.func193, Tryz.ntmps193
        go_wp2_with fail
        go_ret
        exact ⟨ret_bool hfin.out.symm, by exact blw⟩
      · have k1 : (a.kind == 1) = false := by rw [h1]; rfl
        have k6 : (a.kind == 6) = false := by rw [h1]; rfl
        have k7 : (a.kind == 7) = true := by simpa using h1
        clear h1
        go_enter Tryz.func193, Tryz.ntmps193
        go_wp2_with fail
        go_ret
        exact ⟨ret_bool hfin.out.symm, by exact blw⟩
  · have k1 : (a.kind == 1) = false := by simp; omega
    have k6 : (a.kind == 6) = false := by simp; omega
    have k7 : (a.kind == 7) = false := by simp; omega
    by_cases h3 : a.kind = 3
    · have hL : Cal.lateB s a = decide (s.deadline < a.day ∨ s.object < a.day) := by unfold Cal.lateB; rw [if_neg h1, if_pos h3]
      have k3 : (a.kind == 3) = true := by simpa using h3
      by_cases hd : s.deadline < a.day
      · have hfin : Hid (Cal.lateB s a = true) := by show _ = _; rw [hL]; simp [hd]
        clear h1 h3 hL
        go_enter Tryz.func193, Tryz.ntmps193
        go_wp2_with fail
        go_ret
        exact ⟨ret_bool hfin.out.symm, by exact blw⟩
      · have hd' : decide (s.deadline < a.day) = false := by simpa using hd
        have hfin : Hid (Cal.lateB s a = decide (s.object < a.day)) := by show _ = _; rw [hL]; simp [hd]
        clear h1 h3 hL hd
        go_enter Tryz.func193, Tryz.ntmps193
        go_wp2_with fail
        go_ret
        exact ⟨ret_bool hfin.out.symm, by exact blw⟩
    · have hfin : Hid (Cal.lateB s a = false) := by show _ = _; unfold Cal.lateB; rw [if_neg h1, if_neg h3]
      have k3 : (a.kind == 3) = false := by simpa using h3
      clear h1 h3
      go_enter Tryz.func193, Tryz.ntmps193
      go_wp2_with fail
      go_ret
      exact ⟨ret_bool hfin.out.symm, by exact blw⟩
/-- A deadline that is moved. -/
def Cal.movedS (p : Proc) (x : Int) : Option Int := if 0 ≤ x ∧ x ≤ 200000 then Cal.addW p.hols x 0 else none
set_option maxRecDepth 100000 in
set_option maxHeartbeats 4000000 in
theorem moved_any (A : Option Addr) (c : Nat) (p : Proc) (hok : Cal.HolsOk p.hols) (x y : Int) (hlo : -1000000 ≤ x + y) (hhi : x + y ≤ 1000000) (w : World) (hl : Hols w A p.hols) :
    Calls Tryz.prog 195 #[.agg #[.int .i64 p.runs.m, .int .i64 p.runs.d, .bool p.runs.k, .int .i64 p.obj.m, .int .i64 p.obj.d, .bool p.obj.k, .int .i64 p.wait.m, .int .i64 p.wait.d, .bool p.wait.k, .int .i64 p.exts, .int .i64 p.longest, .slice A p.hols.length c], .int .i64 x, .int .i64 y] w fun e w' => e = .returned (Cal.addV (Cal.movedS p (x + y))) ∧ Below w.heap.size w w' := by
  have hl := Lib.hid hl
  have hwr : IntKind.i64.wrap (x + y) = x + y := IntWalk.i64_in _ (by omega)
  have h1 := Lib.hid (BoxAt.new w #[.int .i64 p.runs.m, .int .i64 p.runs.d, .bool p.runs.k, .int .i64 p.obj.m, .int .i64 p.obj.d, .bool p.obj.k, .int .i64 p.wait.m, .int .i64 p.wait.d, .bool p.wait.k, .int .i64 p.exts, .int .i64 p.longest, .slice A p.hols.length c] 47)
  have hb := Lib.hid (below_alloc w (.cells #[.int .i64 p.runs.m, .int .i64 p.runs.d, .bool p.runs.k, .int .i64 p.obj.m, .int .i64 p.obj.d, .bool p.obj.k, .int .i64 p.wait.m, .int .i64 p.wait.d, .bool p.wait.k, .int .i64 p.exts, .int .i64 p.longest, .slice A p.hols.length c] 47))
  have c11 := h1.out.c 11 _ rfl
  by_cases hd : 0 ≤ x + y ∧ x + y ≤ 200000
  · have hAR := fun w1 hl => AddWorkingR_any A c p.hols hok (x + y) 0 (by omega) (by omega) hd.1 hd.2 w1 hl
    have hM : Hid (Cal.movedS p (x + y) = Cal.addW p.hols (x + y) 0) := if_pos hd
    unfold AddRPost at hAR
    obtain ⟨d0, d1⟩ := hd
    cases hr : Cal.addW p.hols (x + y) 0 with
    | none =>
      rw [hr] at hAR
      have hfin : Hid (Cal.movedS p (x + y) = none) := by show _ = _; rw [hM.out, hr]
      rw [hfin.out]
      unfold Cal.addV at hAR ⊢
      have hAR := Lib.hid hAR
      clear hr
      go_enter Tryz.func195, Tryz.ntmps195
      go_wp2_with (((first | (go_at_call 134) | (go_at_call 59) | (go_at_call 133) | (go_at_call 14) | (go_at_call 178) | (fail) | (go_at_call 139)); first | refine rin ?_ | refine rout ?_ | refine rany ?_))
      refine (hAR.out _ (hl.out.below hb.out)).mono ?_
      rintro e w2 ⟨rfl, hb2⟩
      have hb2 := Lib.hid (below_step hb.out hb2)
      go_wp2_with fail
      go_ret2
      exact ⟨rfl, hb2.out⟩
    | some q =>
      rw [hr] at hAR
      have hfin : Hid (Cal.movedS p (x + y) = some q) := by show _ = _; rw [hM.out, hr]
      rw [hfin.out]
      unfold Cal.addV at hAR ⊢
      have hAR := Lib.hid hAR
      clear hr
      go_enter Tryz.func195, Tryz.ntmps195
      go_wp2_with (((first | (go_at_call 134) | (go_at_call 59) | (go_at_call 133) | (go_at_call 14) | (go_at_call 178) | (fail) | (go_at_call 139)); first | refine rin ?_ | refine rout ?_ | refine rany ?_))
      refine (hAR.out _ (hl.out.below hb.out)).mono ?_
      rintro e w2 ⟨rfl, hb2⟩
      have hb2 := Lib.hid (below_step hb.out hb2)
      go_wp2_with fail
      go_ret2
      exact ⟨rfl, hb2.out⟩
  · have hfin : Hid (Cal.movedS p (x + y) = none) := if_neg hd
    have hd' : x + y < 0 ∨ 200000 < x + y := by omega
    clear hd
    rw [hfin.out]
    unfold Cal.addV
    go_enter Tryz.func195, Tryz.ntmps195
    go_wp2_with (((first | (go_at_call 134) | (go_at_call 59) | (go_at_call 133) | (go_at_call 14) | (go_at_call 178) | (fail) | (go_at_call 139)); first | refine rin ?_ | refine rout ?_ | refine rany ?_))
    go_ret2
    exact ⟨rfl, hb.out⟩
end Go.Proofs.YtbegbajlagcbdaaGreatDoor
namespace Go.Proofs.YtbegbajlagcbdaaGreatDoor
open Go Go.RowKit
theorem rsSize : (Tryz.prog.info? 145).map (·.size) = some 6 := by kernel_rfl
theorem start4s (w : World) (A : Option Addr) (c : Nat) (p : Proc) (s : NSt) (a : NAct) : Hid (BoxAt ((((w.alloc (.cells #[.int .i64 p.runs.m, .int .i64 p.runs.d, .bool p.runs.k, .int .i64 p.obj.m, .int .i64 p.obj.d, .bool p.obj.k, .int .i64 p.wait.m, .int .i64 p.wait.d, .bool p.wait.k, .int .i64 p.exts, .int .i64 p.longest, .slice A p.hols.length c] 47)).alloc (.cells #[.int .i64 s.phase, .int .i64 s.deadline, .int .i64 s.object, .int .i64 s.last, .int .i64 s.objected, .int .i64 s.extended] 145)).alloc (.cells #[.int .i64 a.day, .int .i64 a.kind, .int .i64 a.days] 109)).alloc (.cells #[.int .i64 0, .int .i64 0, .int .i64 0, .int .i64 0, .int .i64 0, .int .i64 0] 145)) w.heap.size [.int .i64 p.runs.m, .int .i64 p.runs.d, .bool p.runs.k, .int .i64 p.obj.m, .int .i64 p.obj.d, .bool p.obj.k, .int .i64 p.wait.m, .int .i64 p.wait.d, .bool p.wait.k, .int .i64 p.exts, .int .i64 p.longest, .slice A p.hols.length c]) ∧ Hid (BoxAt ((((w.alloc (.cells #[.int .i64 p.runs.m, .int .i64 p.runs.d, .bool p.runs.k, .int .i64 p.obj.m, .int .i64 p.obj.d, .bool p.obj.k, .int .i64 p.wait.m, .int .i64 p.wait.d, .bool p.wait.k, .int .i64 p.exts, .int .i64 p.longest, .slice A p.hols.length c] 47)).alloc (.cells #[.int .i64 s.phase, .int .i64 s.deadline, .int .i64 s.object, .int .i64 s.last, .int .i64 s.objected, .int .i64 s.extended] 145)).alloc (.cells #[.int .i64 a.day, .int .i64 a.kind, .int .i64 a.days] 109)).alloc (.cells #[.int .i64 0, .int .i64 0, .int .i64 0, .int .i64 0, .int .i64 0, .int .i64 0] 145)) (w.heap.size + 1) [.int .i64 s.phase, .int .i64 s.deadline, .int .i64 s.object, .int .i64 s.last, .int .i64 s.objected, .int .i64 s.extended]) ∧ Hid (BoxAt ((((w.alloc (.cells #[.int .i64 p.runs.m, .int .i64 p.runs.d, .bool p.runs.k, .int .i64 p.obj.m, .int .i64 p.obj.d, .bool p.obj.k, .int .i64 p.wait.m, .int .i64 p.wait.d, .bool p.wait.k, .int .i64 p.exts, .int .i64 p.longest, .slice A p.hols.length c] 47)).alloc (.cells #[.int .i64 s.phase, .int .i64 s.deadline, .int .i64 s.object, .int .i64 s.last, .int .i64 s.objected, .int .i64 s.extended] 145)).alloc (.cells #[.int .i64 a.day, .int .i64 a.kind, .int .i64 a.days] 109)).alloc (.cells #[.int .i64 0, .int .i64 0, .int .i64 0, .int .i64 0, .int .i64 0, .int .i64 0] 145)) (w.heap.size + 1 + 1) [.int .i64 a.day, .int .i64 a.kind, .int .i64 a.days]) ∧ Hid (BoxAt ((((w.alloc (.cells #[.int .i64 p.runs.m, .int .i64 p.runs.d, .bool p.runs.k, .int .i64 p.obj.m, .int .i64 p.obj.d, .bool p.obj.k, .int .i64 p.wait.m, .int .i64 p.wait.d, .bool p.wait.k, .int .i64 p.exts, .int .i64 p.longest, .slice A p.hols.length c] 47)).alloc (.cells #[.int .i64 s.phase, .int .i64 s.deadline, .int .i64 s.object, .int .i64 s.last, .int .i64 s.objected, .int .i64 s.extended] 145)).alloc (.cells #[.int .i64 a.day, .int .i64 a.kind, .int .i64 a.days] 109)).alloc (.cells #[.int .i64 0, .int .i64 0, .int .i64 0, .int .i64 0, .int .i64 0, .int .i64 0] 145)) (w.heap.size + 1 + 1 + 1) [.int .i64 0, .int .i64 0, .int .i64 0, .int .i64 0, .int .i64 0, .int .i64 0]) ∧ Hid (Below w.heap.size w ((((w.alloc (.cells #[.int .i64 p.runs.m, .int .i64 p.runs.d, .bool p.runs.k, .int .i64 p.obj.m, .int .i64 p.obj.d, .bool p.obj.k, .int .i64 p.wait.m, .int .i64 p.wait.d, .bool p.wait.k, .int .i64 p.exts, .int .i64 p.longest, .slice A p.hols.length c] 47)).alloc (.cells #[.int .i64 s.phase, .int .i64 s.deadline, .int .i64 s.object, .int .i64 s.last, .int .i64 s.objected, .int .i64 s.extended] 145)).alloc (.cells #[.int .i64 a.day, .int .i64 a.kind, .int .i64 a.days] 109)).alloc (.cells #[.int .i64 0, .int .i64 0, .int .i64 0, .int .i64 0, .int .i64 0, .int .i64 0] 145))) := by
  have h2 := BoxAt.new (w.alloc (.cells #[.int .i64 p.runs.m, .int .i64 p.runs.d, .bool p.runs.k, .int .i64 p.obj.m, .int .i64 p.obj.d, .bool p.obj.k, .int .i64 p.wait.m, .int .i64 p.wait.d, .bool p.wait.k, .int .i64 p.exts, .int .i64 p.longest, .slice A p.hols.length c] 47)) #[.int .i64 s.phase, .int .i64 s.deadline, .int .i64 s.object, .int .i64 s.last, .int .i64 s.objected, .int .i64 s.extended] 145
  rw [World.size_alloc] at h2
  have h3 := BoxAt.new ((w.alloc (.cells #[.int .i64 p.runs.m, .int .i64 p.runs.d, .bool p.runs.k, .int .i64 p.obj.m, .int .i64 p.obj.d, .bool p.obj.k, .int .i64 p.wait.m, .int .i64 p.wait.d, .bool p.wait.k, .int .i64 p.exts, .int .i64 p.longest, .slice A p.hols.length c] 47)).alloc (.cells #[.int .i64 s.phase, .int .i64 s.deadline, .int .i64 s.object, .int .i64 s.last, .int .i64 s.objected, .int .i64 s.extended] 145)) #[.int .i64 a.day, .int .i64 a.kind, .int .i64 a.days] 109
  rw [World.size_alloc, World.size_alloc] at h3
  have h4 := BoxAt.new (((w.alloc (.cells #[.int .i64 p.runs.m, .int .i64 p.runs.d, .bool p.runs.k, .int .i64 p.obj.m, .int .i64 p.obj.d, .bool p.obj.k, .int .i64 p.wait.m, .int .i64 p.wait.d, .bool p.wait.k, .int .i64 p.exts, .int .i64 p.longest, .slice A p.hols.length c] 47)).alloc (.cells #[.int .i64 s.phase, .int .i64 s.deadline, .int .i64 s.object, .int .i64 s.last, .int .i64 s.objected, .int .i64 s.extended] 145)).alloc (.cells #[.int .i64 a.day, .int .i64 a.kind, .int .i64 a.days] 109)) #[.int .i64 0, .int .i64 0, .int .i64 0, .int .i64 0, .int .i64 0, .int .i64 0] 145
  rw [World.size_alloc, World.size_alloc, World.size_alloc] at h4
  exact ⟨(((BoxAt.new w _ _).alloc _).alloc _).alloc _, (h2.alloc _).alloc _, h3.alloc _, h4, below_step (below_step (below_step (below_alloc _ _) (below_alloc _ _)) (below_alloc _ _)) (below_alloc _ _)⟩
def StepPost (w : World) (r : NSt × Int) (e : Ending) (w' : World) : Prop :=
  (∃ s' : NSt, e = .returned (.tuple #[.agg #[.int .i64 s'.phase, .int .i64 s'.deadline, .int .i64 s'.object, .int .i64 s'.last, .int .i64 s'.objected, .int .i64 s'.extended], .int .i64 r.2]) ∧ (r.2 = 0 → s' = r.1)) ∧ Below w.heap.size w w'
theorem Cal.actS_err {p : Proc} {s : NSt} {a : NAct} {E : Int} (h : Cal.mayErr p s a = E) (hE : E ≠ 0) : Cal.actS p s a = (s, E) := by
  unfold Cal.actS; rw [if_neg (by rw [h]; exact hE), h]
theorem Cal.mayErr_form {p : Proc} {s : NSt} {a : NAct} {E : Int} (h : Cal.formErr p a = E) (hE : E ≠ 0) : Cal.mayErr p s a = E := by unfold Cal.mayErr; rw [if_neg (by rw [h]; exact hE), h]
set_option maxRecDepth 100000 in
set_option maxHeartbeats 4000000 in
theorem step_form (A : Option Addr) (c : Nat) (p : Proc) (s : NSt) (a : NAct) (w : World) (hF : Cal.formErr p a ≠ 0) :
    Calls Tryz.prog 122 #[.agg #[.int .i64 p.runs.m, .int .i64 p.runs.d, .bool p.runs.k, .int .i64 p.obj.m, .int .i64 p.obj.d, .bool p.obj.k, .int .i64 p.wait.m, .int .i64 p.wait.d, .bool p.wait.k, .int .i64 p.exts, .int .i64 p.longest, .slice A p.hols.length c], .agg #[.int .i64 s.phase, .int .i64 s.deadline, .int .i64 s.object, .int .i64 s.last, .int .i64 s.objected, .int .i64 s.extended], .agg #[.int .i64 a.day, .int .i64 a.kind, .int .i64 a.days]] w (StepPost w (Cal.actS p s a)) := by
  by_cases hd : 0 ≤ a.day ∧ a.day ≤ 200000
  · by_cases hk : 0 ≤ a.kind ∧ a.kind ≤ 7
    · by_cases h6 : a.kind = 6
      · have hl : ¬ (1 ≤ a.days ∧ a.days ≤ p.longest) := fun h => hF (by unfold Cal.formErr; rw [if_pos hd, if_pos hk, if_pos h6, if_pos h])
        have hfin := Lib.hid (Cal.actS_err (s := s) (Cal.mayErr_form (s := s) (show Cal.formErr p a = 2 by unfold Cal.formErr; rw [if_pos hd, if_pos hk, if_pos h6, if_neg hl]) (by decide)) (by decide))
        obtain ⟨d0, d1⟩ := hd
        obtain ⟨k0, k1⟩ := hk
        have h6a : (a.kind == 6) = true := by simpa using h6
        have h6b : (a.kind != 6) = false := by simpa using h6
        have hl' : a.days < 1 ∨ p.longest < a.days := by omega
        clear hl h6 hF
        obtain ⟨h1, h2, h3, h4, hb⟩ := start4s w A c p s a
        have p9 := h1.out.c 9 _ rfl
        have p10 := h1.out.c 10 _ rfl
        have p11 := h1.out.c 11 _ rfl
        have p0 := h1.out.c 0 _ rfl
        have p1 := h1.out.c 1 _ rfl
        have p2 := h1.out.c 2 _ rfl
        have p3 := h1.out.c 3 _ rfl
        have p4 := h1.out.c 4 _ rfl
        have p5 := h1.out.c 5 _ rfl
        have s0 := h2.out.c 0 _ rfl
        have s1 := h2.out.c 1 _ rfl
        have s2 := h2.out.c 2 _ rfl
        have s3 := h2.out.c 3 _ rfl
        have s4 := h2.out.c 4 _ rfl
        have s5 := h2.out.c 5 _ rfl
        have a0 := h3.out.c 0 _ rfl
        have a1 := h3.out.c 1 _ rfl
        have a2 := h3.out.c 2 _ rfl
        go_enter Tryz.func122, Tryz.ntmps122
        go_wp2_with (first | ((first | (go_at_call 134) | (go_at_call 59) | (go_at_call 133) | (go_at_call 14) | (go_at_call 178) | (fail) | (go_at_call 139)); first | refine rin ?_ | refine rout ?_ | refine rany ?_) | (go_at_call 192; refine (accepted_any s.phase a.kind k0 k1 _).mono ?_; rintro e w' ⟨rfl, rfl⟩) | (refine wpList_store_box rfl 145 (.tmp 6) _ rfl (w.heap.size + 1 + 1 + 1) _ [.int .i64 s.phase, .int .i64 s.deadline, .int .i64 s.object, .int .i64 s.last, .int .i64 s.objected, .int .i64 s.extended] (by rfl) (by rfl) h4.out rfl rsSize (by kernel_rfl) ?_; intro w66 h66 hg66; have hb66 := Lib.hid (below_of_grownB hb.out hg66 (by omega))))
        (try simp only [Exit.inBlock, Exit.then])
        rw [hfin.out]
        refine bodyPost_ret (results_mid2 rfl _ _ (w.heap.size + 1 + 1 + 1) [.int .i64 s.phase, .int .i64 s.deadline, .int .i64 s.object, .int .i64 s.last, .int .i64 s.objected, .int .i64 s.extended] _ rfl h66.range Tryz.underlying145 rfl rsSize) rfl ⟨⟨s, by rfl, fun _ => rfl⟩, hb66.out⟩
      · have hz : a.days ≠ 0 := fun h => hF (by unfold Cal.formErr; rw [if_pos hd, if_pos hk, if_neg h6, if_pos h])
        have hfin := Lib.hid (Cal.actS_err (s := s) (Cal.mayErr_form (s := s) (show Cal.formErr p a = 3 by unfold Cal.formErr; rw [if_pos hd, if_pos hk, if_neg h6, if_neg hz]) (by decide)) (by decide))
        obtain ⟨d0, d1⟩ := hd
        obtain ⟨k0, k1⟩ := hk
        have h6b : (a.kind != 6) = true := by simpa using h6
        have hzn : (a.days != 0) = true := by simpa using hz
        clear hz h6 hF
        obtain ⟨h1, h2, h3, h4, hb⟩ := start4s w A c p s a
        have p9 := h1.out.c 9 _ rfl
        have p10 := h1.out.c 10 _ rfl
        have p11 := h1.out.c 11 _ rfl
        have p0 := h1.out.c 0 _ rfl
        have p1 := h1.out.c 1 _ rfl
        have p2 := h1.out.c 2 _ rfl
        have p3 := h1.out.c 3 _ rfl
        have p4 := h1.out.c 4 _ rfl
        have p5 := h1.out.c 5 _ rfl
        have s0 := h2.out.c 0 _ rfl
        have s1 := h2.out.c 1 _ rfl
        have s2 := h2.out.c 2 _ rfl
        have s3 := h2.out.c 3 _ rfl
        have s4 := h2.out.c 4 _ rfl
        have s5 := h2.out.c 5 _ rfl
        have a0 := h3.out.c 0 _ rfl
        have a1 := h3.out.c 1 _ rfl
        have a2 := h3.out.c 2 _ rfl
        go_enter Tryz.func122, Tryz.ntmps122
        go_wp2_with (first | ((first | (go_at_call 134) | (go_at_call 59) | (go_at_call 133) | (go_at_call 14) | (go_at_call 178) | (fail) | (go_at_call 139)); first | refine rin ?_ | refine rout ?_ | refine rany ?_) | (go_at_call 192; refine (accepted_any s.phase a.kind k0 k1 _).mono ?_; rintro e w' ⟨rfl, rfl⟩) | (refine wpList_store_box rfl 145 (.tmp 6) _ rfl (w.heap.size + 1 + 1 + 1) _ [.int .i64 s.phase, .int .i64 s.deadline, .int .i64 s.object, .int .i64 s.last, .int .i64 s.objected, .int .i64 s.extended] (by rfl) (by rfl) h4.out rfl rsSize (by kernel_rfl) ?_; intro w66 h66 hg66; have hb66 := Lib.hid (below_of_grownB hb.out hg66 (by omega))))
        (try simp only [Exit.inBlock, Exit.then])
        rw [hfin.out]
        refine bodyPost_ret (results_mid2 rfl _ _ (w.heap.size + 1 + 1 + 1) [.int .i64 s.phase, .int .i64 s.deadline, .int .i64 s.object, .int .i64 s.last, .int .i64 s.objected, .int .i64 s.extended] _ rfl h66.range Tryz.underlying145 rfl rsSize) rfl ⟨⟨s, by rfl, fun _ => rfl⟩, hb66.out⟩
    · have hfin := Lib.hid (Cal.actS_err (s := s) (Cal.mayErr_form (s := s) (show Cal.formErr p a = 15 by unfold Cal.formErr; rw [if_pos hd, if_neg hk]) (by decide)) (by decide))
      obtain ⟨d0, d1⟩ := hd
      have hk' : a.kind < 0 ∨ 7 < a.kind := by omega
      clear hk hF
      obtain ⟨h1, h2, h3, h4, hb⟩ := start4s w A c p s a
      have p9 := h1.out.c 9 _ rfl
      have p10 := h1.out.c 10 _ rfl
      have p11 := h1.out.c 11 _ rfl
      have p0 := h1.out.c 0 _ rfl
      have p1 := h1.out.c 1 _ rfl
      have p2 := h1.out.c 2 _ rfl
      have p3 := h1.out.c 3 _ rfl
      have p4 := h1.out.c 4 _ rfl
      have p5 := h1.out.c 5 _ rfl
      have s0 := h2.out.c 0 _ rfl
      have s1 := h2.out.c 1 _ rfl
      have s2 := h2.out.c 2 _ rfl
      have s3 := h2.out.c 3 _ rfl
      have s4 := h2.out.c 4 _ rfl
      have s5 := h2.out.c 5 _ rfl
      have a0 := h3.out.c 0 _ rfl
      have a1 := h3.out.c 1 _ rfl
      have a2 := h3.out.c 2 _ rfl
      go_enter Tryz.func122, Tryz.ntmps122
      go_wp2_with (first | ((first | (go_at_call 134) | (go_at_call 59) | (go_at_call 133) | (go_at_call 14) | (go_at_call 178) | (fail) | (go_at_call 139)); first | refine rin ?_ | refine rout ?_ | refine rany ?_) | (refine wpList_store_box rfl 145 (.tmp 6) _ rfl (w.heap.size + 1 + 1 + 1) _ [.int .i64 s.phase, .int .i64 s.deadline, .int .i64 s.object, .int .i64 s.last, .int .i64 s.objected, .int .i64 s.extended] (by rfl) (by rfl) h4.out rfl rsSize (by kernel_rfl) ?_; intro w66 h66 hg66; have hb66 := Lib.hid (below_of_grownB hb.out hg66 (by omega))))
      (try simp only [Exit.inBlock, Exit.then])
      rw [hfin.out]
      refine bodyPost_ret (results_mid2 rfl _ _ (w.heap.size + 1 + 1 + 1) [.int .i64 s.phase, .int .i64 s.deadline, .int .i64 s.object, .int .i64 s.last, .int .i64 s.objected, .int .i64 s.extended] _ rfl h66.range Tryz.underlying145 rfl rsSize) rfl ⟨⟨s, by rfl, fun _ => rfl⟩, hb66.out⟩
  · have hfin := Lib.hid (Cal.actS_err (s := s) (Cal.mayErr_form (s := s) (show Cal.formErr p a = 2 by unfold Cal.formErr; rw [if_neg hd]) (by decide)) (by decide))
    have hd' : a.day < 0 ∨ 200000 < a.day := by omega
    clear hd hF
    obtain ⟨h1, h2, h3, h4, hb⟩ := start4s w A c p s a
    have p9 := h1.out.c 9 _ rfl
    have p10 := h1.out.c 10 _ rfl
    have p11 := h1.out.c 11 _ rfl
    have p0 := h1.out.c 0 _ rfl
    have p1 := h1.out.c 1 _ rfl
    have p2 := h1.out.c 2 _ rfl
    have p3 := h1.out.c 3 _ rfl
    have p4 := h1.out.c 4 _ rfl
    have p5 := h1.out.c 5 _ rfl
    have s0 := h2.out.c 0 _ rfl
    have s1 := h2.out.c 1 _ rfl
    have s2 := h2.out.c 2 _ rfl
    have s3 := h2.out.c 3 _ rfl
    have s4 := h2.out.c 4 _ rfl
    have s5 := h2.out.c 5 _ rfl
    have a0 := h3.out.c 0 _ rfl
    have a1 := h3.out.c 1 _ rfl
    have a2 := h3.out.c 2 _ rfl
    go_enter Tryz.func122, Tryz.ntmps122
    go_wp2_with (first | ((first | (go_at_call 134) | (go_at_call 59) | (go_at_call 133) | (go_at_call 14) | (go_at_call 178) | (fail) | (go_at_call 139)); first | refine rin ?_ | refine rout ?_ | refine rany ?_) | (refine wpList_store_box rfl 145 (.tmp 6) _ rfl (w.heap.size + 1 + 1 + 1) _ [.int .i64 s.phase, .int .i64 s.deadline, .int .i64 s.object, .int .i64 s.last, .int .i64 s.objected, .int .i64 s.extended] (by rfl) (by rfl) h4.out rfl rsSize (by kernel_rfl) ?_; intro w66 h66 hg66; have hb66 := Lib.hid (below_of_grownB hb.out hg66 (by omega))))
    (try simp only [Exit.inBlock, Exit.then])
    rw [hfin.out]
    refine bodyPost_ret (results_mid2 rfl _ _ (w.heap.size + 1 + 1 + 1) [.int .i64 s.phase, .int .i64 s.deadline, .int .i64 s.object, .int .i64 s.last, .int .i64 s.objected, .int .i64 s.extended] _ rfl h66.range Tryz.underlying145 rfl rsSize) rfl ⟨⟨s, by rfl, fun _ => rfl⟩, hb66.out⟩
/-- An act that is well formed, as the walks ask it. -/
structure Formed (p : Proc) (a : NAct) : Prop where
  d0 : 0 ≤ a.day
  d1 : a.day ≤ 200000
  k0 : 0 ≤ a.kind
  k1 : a.kind ≤ 7
  x : ((a.kind == 6) = true ∧ (a.kind != 6) = false ∧ 1 ≤ a.days ∧ a.days ≤ p.longest) ∨ ((a.kind == 6) = false ∧ (a.kind != 6) = true ∧ (a.days != 0) = false)
theorem Formed.of {p : Proc} {a : NAct} (h : Cal.formErr p a = 0) : Formed p a := by
  obtain ⟨d0, d1, k0, k1, x, y⟩ := Cal.formErr_ok h
  refine ⟨d0, d1, k0, k1, ?_⟩
  by_cases h6 : a.kind = 6
  · exact .inl ⟨by simpa using h6, by simpa using h6, (x h6).1, (x h6).2⟩
  · exact .inr ⟨by simpa using h6, by simpa using h6, by simpa using y h6⟩
set_option maxRecDepth 100000 in
set_option maxHeartbeats 4000000 in
theorem step_order (A : Option Addr) (c : Nat) (p : Proc) (s : NSt) (a : NAct) (w : World) (hF : Cal.formErr p a = 0) (hl : a.day < s.last) :
    Calls Tryz.prog 122 #[.agg #[.int .i64 p.runs.m, .int .i64 p.runs.d, .bool p.runs.k, .int .i64 p.obj.m, .int .i64 p.obj.d, .bool p.obj.k, .int .i64 p.wait.m, .int .i64 p.wait.d, .bool p.wait.k, .int .i64 p.exts, .int .i64 p.longest, .slice A p.hols.length c], .agg #[.int .i64 s.phase, .int .i64 s.deadline, .int .i64 s.object, .int .i64 s.last, .int .i64 s.objected, .int .i64 s.extended], .agg #[.int .i64 a.day, .int .i64 a.kind, .int .i64 a.days]] w (StepPost w (Cal.actS p s a)) := by
  have hfin := Lib.hid (Cal.actS_err (s := s) (show Cal.mayErr p s a = 9 by unfold Cal.mayErr; rw [if_pos hF, if_pos hl]) (by decide))
  obtain ⟨d0, d1, k0, k1, x⟩ := Formed.of hF
  clear hF
  rcases x with ⟨x0, x1, x2, x3⟩ | ⟨x0, x1, x2⟩
  · obtain ⟨h1, h2, h3, h4, hb⟩ := start4s w A c p s a
    have p9 := h1.out.c 9 _ rfl
    have p10 := h1.out.c 10 _ rfl
    have p11 := h1.out.c 11 _ rfl
    have p0 := h1.out.c 0 _ rfl
    have p1 := h1.out.c 1 _ rfl
    have p2 := h1.out.c 2 _ rfl
    have p3 := h1.out.c 3 _ rfl
    have p4 := h1.out.c 4 _ rfl
    have p5 := h1.out.c 5 _ rfl
    have s0 := h2.out.c 0 _ rfl
    have s1 := h2.out.c 1 _ rfl
    have s2 := h2.out.c 2 _ rfl
    have s3 := h2.out.c 3 _ rfl
    have s4 := h2.out.c 4 _ rfl
    have s5 := h2.out.c 5 _ rfl
    have a0 := h3.out.c 0 _ rfl
    have a1 := h3.out.c 1 _ rfl
    have a2 := h3.out.c 2 _ rfl
    go_enter Tryz.func122, Tryz.ntmps122
    go_wp2_with (first | ((first | (go_at_call 134) | (go_at_call 59) | (go_at_call 133) | (go_at_call 14) | (go_at_call 178) | (fail) | (go_at_call 139)); first | refine rin ?_ | refine rout ?_ | refine rany ?_) | (go_at_call 192; refine (accepted_any s.phase a.kind k0 k1 _).mono ?_; rintro e w' ⟨rfl, rfl⟩) | (refine wpList_store_box rfl 145 (.tmp 6) _ rfl (w.heap.size + 1 + 1 + 1) _ [.int .i64 s.phase, .int .i64 s.deadline, .int .i64 s.object, .int .i64 s.last, .int .i64 s.objected, .int .i64 s.extended] (by rfl) (by rfl) h4.out rfl rsSize (by kernel_rfl) ?_; intro w66 h66 hg66; have hb66 := Lib.hid (below_of_grownB hb.out hg66 (by omega))))
    (try simp only [Exit.inBlock, Exit.then])
    rw [hfin.out]
    refine bodyPost_ret (results_mid2 rfl _ _ (w.heap.size + 1 + 1 + 1) [.int .i64 s.phase, .int .i64 s.deadline, .int .i64 s.object, .int .i64 s.last, .int .i64 s.objected, .int .i64 s.extended] _ rfl h66.range Tryz.underlying145 rfl rsSize) rfl ⟨⟨s, by rfl, fun _ => rfl⟩, hb66.out⟩
  · obtain ⟨h1, h2, h3, h4, hb⟩ := start4s w A c p s a
    have p9 := h1.out.c 9 _ rfl
    have p10 := h1.out.c 10 _ rfl
    have p11 := h1.out.c 11 _ rfl
    have p0 := h1.out.c 0 _ rfl
    have p1 := h1.out.c 1 _ rfl
    have p2 := h1.out.c 2 _ rfl
    have p3 := h1.out.c 3 _ rfl
    have p4 := h1.out.c 4 _ rfl
    have p5 := h1.out.c 5 _ rfl
    have s0 := h2.out.c 0 _ rfl
    have s1 := h2.out.c 1 _ rfl
    have s2 := h2.out.c 2 _ rfl
    have s3 := h2.out.c 3 _ rfl
    have s4 := h2.out.c 4 _ rfl
    have s5 := h2.out.c 5 _ rfl
    have a0 := h3.out.c 0 _ rfl
    have a1 := h3.out.c 1 _ rfl
    have a2 := h3.out.c 2 _ rfl
    go_enter Tryz.func122, Tryz.ntmps122
    go_wp2_with (first | ((first | (go_at_call 134) | (go_at_call 59) | (go_at_call 133) | (go_at_call 14) | (go_at_call 178) | (fail) | (go_at_call 139)); first | refine rin ?_ | refine rout ?_ | refine rany ?_) | (go_at_call 192; refine (accepted_any s.phase a.kind k0 k1 _).mono ?_; rintro e w' ⟨rfl, rfl⟩) | (refine wpList_store_box rfl 145 (.tmp 6) _ rfl (w.heap.size + 1 + 1 + 1) _ [.int .i64 s.phase, .int .i64 s.deadline, .int .i64 s.object, .int .i64 s.last, .int .i64 s.objected, .int .i64 s.extended] (by rfl) (by rfl) h4.out rfl rsSize (by kernel_rfl) ?_; intro w66 h66 hg66; have hb66 := Lib.hid (below_of_grownB hb.out hg66 (by omega))))
    (try simp only [Exit.inBlock, Exit.then])
    rw [hfin.out]
    refine bodyPost_ret (results_mid2 rfl _ _ (w.heap.size + 1 + 1 + 1) [.int .i64 s.phase, .int .i64 s.deadline, .int .i64 s.object, .int .i64 s.last, .int .i64 s.objected, .int .i64 s.extended] _ rfl h66.range Tryz.underlying145 rfl rsSize) rfl ⟨⟨s, by rfl, fun _ => rfl⟩, hb66.out⟩
set_option maxRecDepth 100000 in
set_option maxHeartbeats 4000000 in
theorem step_state (A : Option Addr) (c : Nat) (p : Proc) (s : NSt) (a : NAct) (w : World) (hF : Cal.formErr p a = 0) (hl : ¬ a.day < s.last) (hac : Cal.accB s.phase a.kind = false) :
    Calls Tryz.prog 122 #[.agg #[.int .i64 p.runs.m, .int .i64 p.runs.d, .bool p.runs.k, .int .i64 p.obj.m, .int .i64 p.obj.d, .bool p.obj.k, .int .i64 p.wait.m, .int .i64 p.wait.d, .bool p.wait.k, .int .i64 p.exts, .int .i64 p.longest, .slice A p.hols.length c], .agg #[.int .i64 s.phase, .int .i64 s.deadline, .int .i64 s.object, .int .i64 s.last, .int .i64 s.objected, .int .i64 s.extended], .agg #[.int .i64 a.day, .int .i64 a.kind, .int .i64 a.days]] w (StepPost w (Cal.actS p s a)) := by
  have hfin := Lib.hid (Cal.actS_err (s := s) (show Cal.mayErr p s a = 28 by unfold Cal.mayErr; rw [if_pos hF, if_neg hl, if_neg (by rw [hac]; simp)]) (by decide))
  obtain ⟨d0, d1, k0, k1, x⟩ := Formed.of hF
  have hng : decide (Cal.accI s.phase a.kind < 0) = true := by
    rw [decide_eq_true_eq]
    rcases Int.lt_or_le (Cal.accI s.phase a.kind) 0 with h | h
    · exact h
    · rw [(Cal.accI_acc k0 k1).2 h] at hac; cases hac
  have hl' : decide (a.day < s.last) = false := by simpa using hl
  clear hF hl hac
  rcases x with ⟨x0, x1, x2, x3⟩ | ⟨x0, x1, x2⟩
  · obtain ⟨h1, h2, h3, h4, hb⟩ := start4s w A c p s a
    have p9 := h1.out.c 9 _ rfl
    have p10 := h1.out.c 10 _ rfl
    have p11 := h1.out.c 11 _ rfl
    have p0 := h1.out.c 0 _ rfl
    have p1 := h1.out.c 1 _ rfl
    have p2 := h1.out.c 2 _ rfl
    have p3 := h1.out.c 3 _ rfl
    have p4 := h1.out.c 4 _ rfl
    have p5 := h1.out.c 5 _ rfl
    have s0 := h2.out.c 0 _ rfl
    have s1 := h2.out.c 1 _ rfl
    have s2 := h2.out.c 2 _ rfl
    have s3 := h2.out.c 3 _ rfl
    have s4 := h2.out.c 4 _ rfl
    have s5 := h2.out.c 5 _ rfl
    have a0 := h3.out.c 0 _ rfl
    have a1 := h3.out.c 1 _ rfl
    have a2 := h3.out.c 2 _ rfl
    go_enter Tryz.func122, Tryz.ntmps122
    go_wp2_with (first | ((first | (go_at_call 134) | (go_at_call 59) | (go_at_call 133) | (go_at_call 14) | (go_at_call 178) | (fail) | (go_at_call 139)); first | refine rin ?_ | refine rout ?_ | refine rany ?_) | (go_at_call 192; refine (accepted_any s.phase a.kind k0 k1 _).mono ?_; rintro e w' ⟨rfl, rfl⟩) | (refine wpList_store_box rfl 145 (.tmp 6) _ rfl (w.heap.size + 1 + 1 + 1) _ [.int .i64 s.phase, .int .i64 s.deadline, .int .i64 s.object, .int .i64 s.last, .int .i64 s.objected, .int .i64 s.extended] (by rfl) (by rfl) h4.out rfl rsSize (by kernel_rfl) ?_; intro w66 h66 hg66; have hb66 := Lib.hid (below_of_grownB hb.out hg66 (by omega))))
    (try simp only [Exit.inBlock, Exit.then])
    rw [hfin.out]
    refine bodyPost_ret (results_mid2 rfl _ _ (w.heap.size + 1 + 1 + 1) [.int .i64 s.phase, .int .i64 s.deadline, .int .i64 s.object, .int .i64 s.last, .int .i64 s.objected, .int .i64 s.extended] _ rfl h66.range Tryz.underlying145 rfl rsSize) rfl ⟨⟨s, by rfl, fun _ => rfl⟩, hb66.out⟩
  · obtain ⟨h1, h2, h3, h4, hb⟩ := start4s w A c p s a
    have p9 := h1.out.c 9 _ rfl
    have p10 := h1.out.c 10 _ rfl
    have p11 := h1.out.c 11 _ rfl
    have p0 := h1.out.c 0 _ rfl
    have p1 := h1.out.c 1 _ rfl
    have p2 := h1.out.c 2 _ rfl
    have p3 := h1.out.c 3 _ rfl
    have p4 := h1.out.c 4 _ rfl
    have p5 := h1.out.c 5 _ rfl
    have s0 := h2.out.c 0 _ rfl
    have s1 := h2.out.c 1 _ rfl
    have s2 := h2.out.c 2 _ rfl
    have s3 := h2.out.c 3 _ rfl
    have s4 := h2.out.c 4 _ rfl
    have s5 := h2.out.c 5 _ rfl
    have a0 := h3.out.c 0 _ rfl
    have a1 := h3.out.c 1 _ rfl
    have a2 := h3.out.c 2 _ rfl
    go_enter Tryz.func122, Tryz.ntmps122
    go_wp2_with (first | ((first | (go_at_call 134) | (go_at_call 59) | (go_at_call 133) | (go_at_call 14) | (go_at_call 178) | (fail) | (go_at_call 139)); first | refine rin ?_ | refine rout ?_ | refine rany ?_) | (go_at_call 192; refine (accepted_any s.phase a.kind k0 k1 _).mono ?_; rintro e w' ⟨rfl, rfl⟩) | (refine wpList_store_box rfl 145 (.tmp 6) _ rfl (w.heap.size + 1 + 1 + 1) _ [.int .i64 s.phase, .int .i64 s.deadline, .int .i64 s.object, .int .i64 s.last, .int .i64 s.objected, .int .i64 s.extended] (by rfl) (by rfl) h4.out rfl rsSize (by kernel_rfl) ?_; intro w66 h66 hg66; have hb66 := Lib.hid (below_of_grownB hb.out hg66 (by omega))))
    (try simp only [Exit.inBlock, Exit.then])
    rw [hfin.out]
    refine bodyPost_ret (results_mid2 rfl _ _ (w.heap.size + 1 + 1 + 1) [.int .i64 s.phase, .int .i64 s.deadline, .int .i64 s.object, .int .i64 s.last, .int .i64 s.objected, .int .i64 s.extended] _ rfl h66.range Tryz.underlying145 rfl rsSize) rfl ⟨⟨s, by rfl, fun _ => rfl⟩, hb66.out⟩
set_option maxRecDepth 100000 in
set_option maxHeartbeats 4000000 in
theorem step_late (A : Option Addr) (c : Nat) (p : Proc) (s : NSt) (a : NAct) (w : World) (hF : Cal.formErr p a = 0) (hl : ¬ a.day < s.last) (hac : Cal.accB s.phase a.kind = true) (hla : (s.phase = 1 ∧ s.deadline < a.day) ∨ (a.kind = 3 ∧ min s.object s.deadline < a.day)) :
    Calls Tryz.prog 122 #[.agg #[.int .i64 p.runs.m, .int .i64 p.runs.d, .bool p.runs.k, .int .i64 p.obj.m, .int .i64 p.obj.d, .bool p.obj.k, .int .i64 p.wait.m, .int .i64 p.wait.d, .bool p.wait.k, .int .i64 p.exts, .int .i64 p.longest, .slice A p.hols.length c], .agg #[.int .i64 s.phase, .int .i64 s.deadline, .int .i64 s.object, .int .i64 s.last, .int .i64 s.objected, .int .i64 s.extended], .agg #[.int .i64 a.day, .int .i64 a.kind, .int .i64 a.days]] w (StepPost w (Cal.actS p s a)) := by
  have hfin : Hid (Cal.actS p s a = (s, 21)) := Cal.actS_err (s := s) (by
    unfold Cal.mayErr; rw [if_pos hF, if_neg hl, if_pos hac]
    by_cases h1 : s.phase = 1 ∧ s.deadline < a.day
    · rw [if_pos h1]
    · rw [if_neg h1, if_pos (hla.resolve_left h1)]) (by decide)
  obtain ⟨d0, d1, k0, k1, x⟩ := Formed.of hF
  have hng : decide (Cal.accI s.phase a.kind < 0) = false := by
    have := (Cal.accI_acc k0 k1).1 hac
    rw [decide_eq_false_iff_not]; omega
  have hlate : Hid (Cal.lateB s a = true) := by show _ = _; rw [Cal.late_acc k0 k1 hac]; simpa using hla
  have hl' : decide (a.day < s.last) = false := by simpa using hl
  clear hF hl hac hla
  rcases x with ⟨x0, x1, x2, x3⟩ | ⟨x0, x1, x2⟩
  · obtain ⟨h1, h2, h3, h4, hb⟩ := start4s w A c p s a
    have p9 := h1.out.c 9 _ rfl
    have p10 := h1.out.c 10 _ rfl
    have p11 := h1.out.c 11 _ rfl
    have p0 := h1.out.c 0 _ rfl
    have p1 := h1.out.c 1 _ rfl
    have p2 := h1.out.c 2 _ rfl
    have p3 := h1.out.c 3 _ rfl
    have p4 := h1.out.c 4 _ rfl
    have p5 := h1.out.c 5 _ rfl
    have s0 := h2.out.c 0 _ rfl
    have s1 := h2.out.c 1 _ rfl
    have s2 := h2.out.c 2 _ rfl
    have s3 := h2.out.c 3 _ rfl
    have s4 := h2.out.c 4 _ rfl
    have s5 := h2.out.c 5 _ rfl
    have a0 := h3.out.c 0 _ rfl
    have a1 := h3.out.c 1 _ rfl
    have a2 := h3.out.c 2 _ rfl
    go_enter Tryz.func122, Tryz.ntmps122
    go_wp2_with (first | ((first | (go_at_call 134) | (go_at_call 59) | (go_at_call 133) | (go_at_call 14) | (go_at_call 178) | (fail) | (go_at_call 139)); first | refine rin ?_ | refine rout ?_ | refine rany ?_) | (go_at_call 192; refine (accepted_any s.phase a.kind k0 k1 _).mono ?_; rintro e w' ⟨rfl, rfl⟩))
    refine (late_any s a _).mono ?_
    rintro e w5 ⟨rfl, hb5⟩
    rw [hlate.out]
    clear p9 p10 p11 p0 p1 p2 p3 p4 p5 s0 s1 s2 s3 s4 s5 a0 a1 a2
    have g1 := Lib.hid (h1.out.below hb5)
    have g2 := Lib.hid (h2.out.below hb5)
    have g3 := Lib.hid (h3.out.below hb5)
    have g4 := Lib.hid (h4.out.below hb5)
    have hbw := Lib.hid (below_step hb.out hb5)
    clear h1 h2 h3 h4 hb hb5
    have p9 := g1.out.c 9 _ rfl
    have p10 := g1.out.c 10 _ rfl
    have p11 := g1.out.c 11 _ rfl
    have p0 := g1.out.c 0 _ rfl
    have p1 := g1.out.c 1 _ rfl
    have p2 := g1.out.c 2 _ rfl
    have p3 := g1.out.c 3 _ rfl
    have p4 := g1.out.c 4 _ rfl
    have p5 := g1.out.c 5 _ rfl
    have s0 := g2.out.c 0 _ rfl
    have s1 := g2.out.c 1 _ rfl
    have s2 := g2.out.c 2 _ rfl
    have s3 := g2.out.c 3 _ rfl
    have s4 := g2.out.c 4 _ rfl
    have s5 := g2.out.c 5 _ rfl
    have a0 := g3.out.c 0 _ rfl
    have a1 := g3.out.c 1 _ rfl
    have a2 := g3.out.c 2 _ rfl
    go_wp2_with (refine wpList_store_box rfl 145 (.tmp 6) _ rfl (w.heap.size + 1 + 1 + 1) _ [.int .i64 s.phase, .int .i64 s.deadline, .int .i64 s.object, .int .i64 s.last, .int .i64 s.objected, .int .i64 s.extended] (by rfl) (by rfl) g4.out rfl rsSize (by kernel_rfl) ?_; intro w66 h66 hg66; have hb66 := Lib.hid (below_of_grownB hbw.out hg66 (by omega)))
    (try simp only [Exit.inBlock, Exit.then])
    rw [hfin.out]
    refine bodyPost_ret (results_mid2 rfl _ _ (w.heap.size + 1 + 1 + 1) [.int .i64 s.phase, .int .i64 s.deadline, .int .i64 s.object, .int .i64 s.last, .int .i64 s.objected, .int .i64 s.extended] _ rfl h66.range Tryz.underlying145 rfl rsSize) rfl ⟨⟨s, by rfl, fun _ => rfl⟩, hb66.out⟩
  · obtain ⟨h1, h2, h3, h4, hb⟩ := start4s w A c p s a
    have p9 := h1.out.c 9 _ rfl
    have p10 := h1.out.c 10 _ rfl
    have p11 := h1.out.c 11 _ rfl
    have p0 := h1.out.c 0 _ rfl
    have p1 := h1.out.c 1 _ rfl
    have p2 := h1.out.c 2 _ rfl
    have p3 := h1.out.c 3 _ rfl
    have p4 := h1.out.c 4 _ rfl
    have p5 := h1.out.c 5 _ rfl
    have s0 := h2.out.c 0 _ rfl
    have s1 := h2.out.c 1 _ rfl
    have s2 := h2.out.c 2 _ rfl
    have s3 := h2.out.c 3 _ rfl
    have s4 := h2.out.c 4 _ rfl
    have s5 := h2.out.c 5 _ rfl
    have a0 := h3.out.c 0 _ rfl
    have a1 := h3.out.c 1 _ rfl
    have a2 := h3.out.c 2 _ rfl
    go_enter Tryz.func122, Tryz.ntmps122
    go_wp2_with (first | ((first | (go_at_call 134) | (go_at_call 59) | (go_at_call 133) | (go_at_call 14) | (go_at_call 178) | (fail) | (go_at_call 139)); first | refine rin ?_ | refine rout ?_ | refine rany ?_) | (go_at_call 192; refine (accepted_any s.phase a.kind k0 k1 _).mono ?_; rintro e w' ⟨rfl, rfl⟩))
    refine (late_any s a _).mono ?_
    rintro e w5 ⟨rfl, hb5⟩
    rw [hlate.out]
    clear p9 p10 p11 p0 p1 p2 p3 p4 p5 s0 s1 s2 s3 s4 s5 a0 a1 a2
    have g1 := Lib.hid (h1.out.below hb5)
    have g2 := Lib.hid (h2.out.below hb5)
    have g3 := Lib.hid (h3.out.below hb5)
    have g4 := Lib.hid (h4.out.below hb5)
    have hbw := Lib.hid (below_step hb.out hb5)
    clear h1 h2 h3 h4 hb hb5
    have p9 := g1.out.c 9 _ rfl
    have p10 := g1.out.c 10 _ rfl
    have p11 := g1.out.c 11 _ rfl
    have p0 := g1.out.c 0 _ rfl
    have p1 := g1.out.c 1 _ rfl
    have p2 := g1.out.c 2 _ rfl
    have p3 := g1.out.c 3 _ rfl
    have p4 := g1.out.c 4 _ rfl
    have p5 := g1.out.c 5 _ rfl
    have s0 := g2.out.c 0 _ rfl
    have s1 := g2.out.c 1 _ rfl
    have s2 := g2.out.c 2 _ rfl
    have s3 := g2.out.c 3 _ rfl
    have s4 := g2.out.c 4 _ rfl
    have s5 := g2.out.c 5 _ rfl
    have a0 := g3.out.c 0 _ rfl
    have a1 := g3.out.c 1 _ rfl
    have a2 := g3.out.c 2 _ rfl
    go_wp2_with (refine wpList_store_box rfl 145 (.tmp 6) _ rfl (w.heap.size + 1 + 1 + 1) _ [.int .i64 s.phase, .int .i64 s.deadline, .int .i64 s.object, .int .i64 s.last, .int .i64 s.objected, .int .i64 s.extended] (by rfl) (by rfl) g4.out rfl rsSize (by kernel_rfl) ?_; intro w66 h66 hg66; have hb66 := Lib.hid (below_of_grownB hbw.out hg66 (by omega)))
    (try simp only [Exit.inBlock, Exit.then])
    rw [hfin.out]
    refine bodyPost_ret (results_mid2 rfl _ _ (w.heap.size + 1 + 1 + 1) [.int .i64 s.phase, .int .i64 s.deadline, .int .i64 s.object, .int .i64 s.last, .int .i64 s.objected, .int .i64 s.extended] _ rfl h66.range Tryz.underlying145 rfl rsSize) rfl ⟨⟨s, by rfl, fun _ => rfl⟩, hb66.out⟩
set_option maxRecDepth 100000 in
set_option maxHeartbeats 4000000 in
theorem step_full (A : Option Addr) (c : Nat) (p : Proc) (s : NSt) (a : NAct) (w : World) (hF : Cal.formErr p a = 0) (hl : ¬ a.day < s.last) (hac : Cal.accB s.phase a.kind = true) (hla : ¬ ((s.phase = 1 ∧ s.deadline < a.day) ∨ (a.kind = 3 ∧ min s.object s.deadline < a.day))) (h6 : a.kind = 6) (hx : p.exts ≤ s.extended) :
    Calls Tryz.prog 122 #[.agg #[.int .i64 p.runs.m, .int .i64 p.runs.d, .bool p.runs.k, .int .i64 p.obj.m, .int .i64 p.obj.d, .bool p.obj.k, .int .i64 p.wait.m, .int .i64 p.wait.d, .bool p.wait.k, .int .i64 p.exts, .int .i64 p.longest, .slice A p.hols.length c], .agg #[.int .i64 s.phase, .int .i64 s.deadline, .int .i64 s.object, .int .i64 s.last, .int .i64 s.objected, .int .i64 s.extended], .agg #[.int .i64 a.day, .int .i64 a.kind, .int .i64 a.days]] w (StepPost w (Cal.actS p s a)) := by
  have hfin : Hid (Cal.actS p s a = (s, 16)) := Cal.actS_err (s := s) (by
    unfold Cal.mayErr; rw [if_pos hF, if_neg hl, if_pos hac, if_neg (fun h => hla (.inl h)), if_neg (fun h => hla (.inr h)), if_pos ⟨h6, hx⟩]) (by decide)
  obtain ⟨d0, d1, k0, k1, x⟩ := Formed.of hF
  have hng : decide (Cal.accI s.phase a.kind < 0) = false := by
    have := (Cal.accI_acc k0 k1).1 hac
    rw [decide_eq_false_iff_not]; omega
  have hlate : Hid (Cal.lateB s a = false) := by show _ = _; rw [Cal.late_acc k0 k1 hac, decide_eq_false_iff_not]; exact hla
  have hl' : decide (a.day < s.last) = false := by simpa using hl
  clear hF hl hac hla
  rcases x with ⟨x0, x1, x2, x3⟩ | ⟨x0, x1, x2⟩
  · clear h6
    obtain ⟨h1, h2, h3, h4, hb⟩ := start4s w A c p s a
    have p9 := h1.out.c 9 _ rfl
    have p10 := h1.out.c 10 _ rfl
    have p11 := h1.out.c 11 _ rfl
    have p0 := h1.out.c 0 _ rfl
    have p1 := h1.out.c 1 _ rfl
    have p2 := h1.out.c 2 _ rfl
    have p3 := h1.out.c 3 _ rfl
    have p4 := h1.out.c 4 _ rfl
    have p5 := h1.out.c 5 _ rfl
    have s0 := h2.out.c 0 _ rfl
    have s1 := h2.out.c 1 _ rfl
    have s2 := h2.out.c 2 _ rfl
    have s3 := h2.out.c 3 _ rfl
    have s4 := h2.out.c 4 _ rfl
    have s5 := h2.out.c 5 _ rfl
    have a0 := h3.out.c 0 _ rfl
    have a1 := h3.out.c 1 _ rfl
    have a2 := h3.out.c 2 _ rfl
    go_enter Tryz.func122, Tryz.ntmps122
    go_wp2_with (first | ((first | (go_at_call 134) | (go_at_call 59) | (go_at_call 133) | (go_at_call 14) | (go_at_call 178) | (fail) | (go_at_call 139)); first | refine rin ?_ | refine rout ?_ | refine rany ?_) | (go_at_call 192; refine (accepted_any s.phase a.kind k0 k1 _).mono ?_; rintro e w' ⟨rfl, rfl⟩))
    refine (late_any s a _).mono ?_
    rintro e w5 ⟨rfl, hb5⟩
    rw [hlate.out]
    clear p9 p10 p11 p0 p1 p2 p3 p4 p5 s0 s1 s2 s3 s4 s5 a0 a1 a2
    have g1 := Lib.hid (h1.out.below hb5)
    have g2 := Lib.hid (h2.out.below hb5)
    have g3 := Lib.hid (h3.out.below hb5)
    have g4 := Lib.hid (h4.out.below hb5)
    have hbw := Lib.hid (below_step hb.out hb5)
    clear h1 h2 h3 h4 hb hb5
    have p9 := g1.out.c 9 _ rfl
    have p10 := g1.out.c 10 _ rfl
    have p11 := g1.out.c 11 _ rfl
    have p0 := g1.out.c 0 _ rfl
    have p1 := g1.out.c 1 _ rfl
    have p2 := g1.out.c 2 _ rfl
    have p3 := g1.out.c 3 _ rfl
    have p4 := g1.out.c 4 _ rfl
    have p5 := g1.out.c 5 _ rfl
    have s0 := g2.out.c 0 _ rfl
    have s1 := g2.out.c 1 _ rfl
    have s2 := g2.out.c 2 _ rfl
    have s3 := g2.out.c 3 _ rfl
    have s4 := g2.out.c 4 _ rfl
    have s5 := g2.out.c 5 _ rfl
    have a0 := g3.out.c 0 _ rfl
    have a1 := g3.out.c 1 _ rfl
    have a2 := g3.out.c 2 _ rfl
    go_wp2_with (refine wpList_store_box rfl 145 (.tmp 6) _ rfl (w.heap.size + 1 + 1 + 1) _ [.int .i64 s.phase, .int .i64 s.deadline, .int .i64 s.object, .int .i64 s.last, .int .i64 s.objected, .int .i64 s.extended] (by rfl) (by rfl) g4.out rfl rsSize (by kernel_rfl) ?_; intro w66 h66 hg66; have hb66 := Lib.hid (below_of_grownB hbw.out hg66 (by omega)))
    (try simp only [Exit.inBlock, Exit.then])
    rw [hfin.out]
    refine bodyPost_ret (results_mid2 rfl _ _ (w.heap.size + 1 + 1 + 1) [.int .i64 s.phase, .int .i64 s.deadline, .int .i64 s.object, .int .i64 s.last, .int .i64 s.objected, .int .i64 s.extended] _ rfl h66.range Tryz.underlying145 rfl rsSize) rfl ⟨⟨s, by rfl, fun _ => rfl⟩, hb66.out⟩
  · rw [h6] at x0; cases x0
end Go.Proofs.YtbegbajlagcbdaaGreatDoor
