/- The walk of a statement. -/
import Derived.Test.YtfcjeejhdklkdaaJ28
import Derived.Test.YtfcjeejhdklkdaaJ14
import Derived.Test.YtfcjeejhdklkdaaJ30
set_option maxRecDepth 100000
set_option maxHeartbeats 16000000
set_option linter.unusedSimpArgs false
set_option linter.unusedVariables false
namespace Go.Proofs.Ytfcjeejhdklkdaa
open Go Go.RowKit Go.Shelf
theorem few2_any (V : Option Addr) (n d : Nat) (w : World) : Calls Try.prog 26 #[.slice V n d] w fun e w' => e = .returned (.bool (fewL n)) ∧ Below w.heap.size w w' := by
 by_cases hn : n ≤ 1000000
 ·exact few_any V n d w hn
 ·have hf : Hid (fewL n = false) := by show _ = _; unfold fewL; rw [decide_eq_false (by omega), decide_eq_false (by omega : ¬ n ≤ 60)]; simp
  have hi : ¬ (n : Int) ≤ 10 := by omega
  have hi2 : (40 : Int) < n := by omega
  have hi3 : ¬ (n : Int) ≤ 60 := by omega
  go_enter Try.func26, Try.ntmps26
  go_wp2_with fail
  go_ret
  exact ⟨by rw [hf.out]; rfl, blw⟩
theorem fewL_le {n : Nat} (h : fewL n = true) : n ≤ 60 := by
 unfold fewL at h
 rw [Bool.or_eq_true, Bool.and_eq_true, decide_eq_true_iff, decide_eq_true_iff, decide_eq_true_iff] at h
 omega
theorem ptsR_of {w : World} {V : Option Addr} {ps : List Pt} (h : RowsAt w V 2 (ps.map ptR)) (hl : ps.length ≤ 1000000) : PtsR w V ps :=
 ⟨h, hl, fun ad e h0 => by
  obtain ⟨b, o, hA, hb, _⟩ := h 0 (ptR ps[0]) (by simp [h0])
  rw [e] at hA
  cases hA
  exact hb⟩
end Go.Proofs.Ytfcjeejhdklkdaa
