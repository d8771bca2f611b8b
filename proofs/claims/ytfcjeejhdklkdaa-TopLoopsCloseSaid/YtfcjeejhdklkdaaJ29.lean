/- What the statements rest on: definitions and walks, part 29. -/
import Derived.Test.YtfcjeejhdklkdaaJ28
namespace Go.Proofs.Ytfcjeejhdklkdaa
open Go Go.RowKit Go.Shelf
/-- The differences fit the heights. -/
structure FitL (l : List Lev) (fr : List (Int × Int)) (p : Int) : Prop where
  p1 : 1 ≤ p
  p2 : p ≤ 4000000000
  all : ∀ h ∈ fr, 1 ≤ h.2 ∧ Cal.bigH h = false
  at_ : ∀ x ∈ l, (0 ≤ x.f ∧ x.f < fr.length) ∧ (0 ≤ x.t ∧ x.t < fr.length) ∧ -100000 ≤ x.d ∧ x.d ≤ 100000 ∧ 1 ≤ x.w ∧ x.w ≤ 10
  box : ∀ x ∈ l, -16400000000000000 ≤ Cal.resV p fr x ∧ Cal.resV p fr x ≤ 16400000000000000
theorem FitL.of {n : Int} {l : List Lev} {fr : List (Int × Int)} (hz : Cal.netE n l = 0) (he : Cal.sclE n fr = 0) : FitL l fr (Cal.sclP n fr) := by
  obtain ⟨hlen, _, p1, p2, hall⟩ := Cal.sclE_zero he
  refine ⟨p1, p2, fun h hh => ⟨(hall h hh).1, (hall h hh).2.2.1⟩, fun x hx => ?_, Cal.resV_box hz he⟩
  have := Cal.levE_zero ((Cal.netE_zero hz).2.2.2.1 x hx)
  omega
def Cal.lowR (p : Int) (fr : List (Int × Int)) (x : Lev) : Int × Int := (Cal.lowN (Cal.resV p fr x) p, Cal.lowD (Cal.resV p fr x) p)
end Go.Proofs.Ytfcjeejhdklkdaa
