/- What the statements rest on: definitions and walks, part 33. -/
import Derived.Test.YtfcjeejhdklkdaaJ25
set_option maxRecDepth 100000
set_option maxHeartbeats 16000000
set_option linter.unusedSimpArgs false
set_option linter.unusedVariables false
namespace Go.Proofs.Ytfcjeejhdklkdaa
open Go Go.RowKit Go.Shelf
attribute [local go_sem] Oper.semAt_some
theorem OverlapX_any (Va Vb : Option Addr) (da db : Nat) (us vs : List Pt) (w : World) (hA : PtsR w Va us) (hB : PtsR w Vb vs) (hla : Cal.polyE us = 0 → us.length ≤ 10) (hlb : Cal.polyE vs = 0 → vs.length ≤ 10) :
  Calls Try.prog 32 #[.slice Va us.length da, .slice Vb vs.length db] w fun e w' => e = .returned (.tuple #[.bool (if brdE us vs = 0 then Cal.overlapP us vs else false), .int .i64 (brdE us vs)]) ∧ Below w.heap.size w w' := by
 have hb1 : Below w.heap.size w (w.alloc (.cells #[.slice Va us.length da, .slice Vb vs.length db] 48)) := below_alloc _ _
 have hx := BoxAt.new w #[.slice Va us.length da, .slice Vb vs.length db] 48
 have hck := Lib.hid (checkAll_any w.heap.size 0 2 [⟨Va, da, us⟩, ⟨Vb, db, vs⟩] _ (fun k p hp => by
  match k, hp with
  | 0, hp => cases hp; exact hx.c 0 _ rfl
  | 1, hp => cases hp; exact hx.c 1 _ rfl) (fun p hp => by
  rcases List.mem_cons.1 hp with e | hp
  ·rw [e]; exact hA.below hb1
  ·rw [List.mem_singleton.1 hp]; exact hB.below hb1) (by simp) hx.lt)
 have hfe : Hid (firstE [⟨Va, da, us⟩, ⟨Vb, db, vs⟩] = brdE us vs) := rfl
 replace hb1 := Lib.hid hb1
 clear hx
 obtain ⟨R, hR⟩ : ∃ R, (if brdE us vs = 0 then Cal.overlapP us vs else false) = R := ⟨_, rfl⟩
 rw [hR]
 by_cases h0 : brdE us vs = 0
 ·have hp := brdE_eq us vs
  rw [h0] at hp
  have hu : Cal.polyE us = 0 := by
   split at hp
   ·assumption
   ·rename_i h; exact absurd hp.symm h
  have hv : Cal.polyE vs = 0 := by rw [if_pos hu] at hp; exact hp.symm
  have hPa := Lib.hid (hA.plg hu (hla hu))
  have hPb := Lib.hid (hB.plg hv (hlb hv))
  rw [if_pos h0] at hR
  rw [h0]
  have hin := Lib.hid (fun W (hW : Below w.heap.size w W) => overlap_any Va Vb da db us vs W (hPa.out.below hW) (hPb.out.below hW))
  rw [hR] at hin
  clear hp hu hv hA hB hR
  replace h0 := Lib.hid h0
  go_enter Try.func32, Try.ntmps32
  go_wp2_with (first
   |(go_at_call 60; refine hck.out.mono ?_; rintro e wn ⟨rfl, hbn⟩; rw [hfe.out, h0.out]; have hb2 := Lib.hid (below_step hb1.out hbn); clear hbn)
   |(go_at_call 61; refine (hin.out _ hb2.out).mono ?_; rintro e wm ⟨rfl, hbn⟩; have hb3 := Lib.hid (below_step hb2.out hbn); clear hbn))
  go_ret2
  exact ⟨rfl, hb3.out⟩
 ·rw [if_neg h0] at hR
  subst hR
  obtain ⟨v, hv⟩ : ∃ v, brdE us vs = v := ⟨_, rfl⟩
  rw [hv] at h0 hfe ⊢
  clear hA hB hv
  go_enter Try.func32, Try.ntmps32
  go_wp2_with (go_at_call 60; refine hck.out.mono ?_; rintro e wn ⟨rfl, hbn⟩; rw [hfe.out]; have hb2 := Lib.hid (below_step hb1.out hbn); clear hbn)
  go_ret2
  exact ⟨rfl, hb2.out⟩
end Go.Proofs.Ytfcjeejhdklkdaa
