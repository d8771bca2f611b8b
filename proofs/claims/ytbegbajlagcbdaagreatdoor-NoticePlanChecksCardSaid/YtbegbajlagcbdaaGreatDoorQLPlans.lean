/- The walk of a statement. -/
import Derived.Test.YtbegbajlagcbdaaGreatDoorC32
import Derived.Test.YtbegbajlagcbdaaGreatDoorC34
import Derived.Test.YtbegbajlagcbdaaGreatDoorC37
namespace Go.Proofs.YtbegbajlagcbdaaGreatDoor
open Go Go.RowKit
theorem StpsL.arg {w : World} {B : Nat} {v : Value} {out : List Stp} (h : StpsL w B v out) : ∃ A c, v = .slice A out.length c ∧ StopArg w A c out := by
  obtain ⟨A, c, rfl, hr⟩ := OwnL.form h
  rw [List.length_map]
  refine ⟨A, c, rfl, hr, ?_⟩
  have := h.own.2
  rcases this with ⟨h1, h2⟩ | ⟨g, cap, cur, hv, _, _, h3, _⟩
  · simp only [List.length_map] at h1 h2; omega
  · simp only [Value.slice.injEq, List.length_map] at hv; simp only [List.length_map] at h3; omega
end Go.Proofs.YtbegbajlagcbdaaGreatDoor
