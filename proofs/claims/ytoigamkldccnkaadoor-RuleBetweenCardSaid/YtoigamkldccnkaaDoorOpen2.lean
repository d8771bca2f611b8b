/- From the reading of the arguments to what the walks ask: a provision, a period, steps. -/
import Derived.Test.YtoigamkldccnkaaDoorOpen
namespace Go.Proofs.YtoigamkldccnkaaDoor
open Go Go.RowKit Go.ChangeShapes Go.WideShapes Go.Deep
section
variable {H : Type} {enc : TypeId × Value → H} {w : World} {spare : Nat → Bool} {held : Bool} {r : Reach} {b0 : Nat} {v : Value} {d : DataW H} {ps : List MemPlace}
set_option maxRecDepth 100000 in
theorem prov_of_open (hval : Value.okWide Tryd.prog w r b0 32 v) (h : DataW.Trod enc Tryd.prog w 0 spare held 32 v d ps) :
    ∃ p : Prov, v = .agg #[.string p.name, .int .i64 p.value, .int .i64 p.fr, .int .i64 p.en, .bool p.repeal] ∧ p.name.size ≤ maxLen := by
  have hu := Tryd.underlying32
  unfold Value.okWide at hval
  rw [hu] at hval
  obtain ⟨cs, rfl, hcs, _⟩ := hval
  obtain ⟨fuel, hf⟩ := h
  obtain ⟨m, xs, hlen, hxl, hi⟩ := trod_cells hu (by kernel_rfl) hf
  have h0 := hi 0 _ rfl
  have h1 := hi 1 _ rfl
  have h2 := hi 2 _ rfl
  have h3 := hi 3 _ rfl
  have h4 := hi 4 _ rfl
  rw [show Tryd.prog.cellsOf 32 = 5 by kernel_rfl] at hcs
  obtain ⟨l⟩ := cs
  match l, hcs with
  | [a, b, c, e, f], _ =>
    match xs, hxl with
    | [y0, y1, y2, y3, y4], _ =>
      simp [Value.cells] at h0 h1 h2 h3 h4
      obtain ⟨s0, e0, _, g0⟩ := DataW.trod_string Tryd.underlying9 h0
      obtain ⟨s1, e1, _, _⟩ := DataW.trod_int Tryd.underlying3 h1
      obtain ⟨s2, e2, _, _⟩ := DataW.trod_int Tryd.underlying3 h2
      obtain ⟨s3, e3, _, _⟩ := DataW.trod_int Tryd.underlying3 h3
      obtain ⟨s4, e4, _⟩ := DataW.trod_bool Tryd.underlying4 h4
      cases e0; cases e1; cases e2; cases e3; cases e4
      exact ⟨⟨s0, s1, s2, s3, s4⟩, rfl, g0⟩
end
end Go.Proofs.YtoigamkldccnkaaDoor
