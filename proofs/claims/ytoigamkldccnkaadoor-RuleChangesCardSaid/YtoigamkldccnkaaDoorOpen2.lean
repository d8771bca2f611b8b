/- From the reading of the arguments to what the walks ask: a provision, a period, steps. -/
import Derived.Test.YtoigamkldccnkaaDoorOpen
namespace Go.Proofs.YtoigamkldccnkaaDoor
open Go Go.RowKit Go.ChangeShapes Go.WideShapes Go.Deep
section
variable {H : Type} {enc : TypeId × Value → H} {w : World} {spare : Nat → Bool} {held : Bool} {r : Reach} {b0 : Nat} {v : Value} {d : DataW H} {ps : List MemPlace}
set_option maxRecDepth 100000 in
theorem prov_of_open (hval : Value.okWide Tryd.prog w r b0 32 v) (h : DataW.Trod enc Tryd.prog w 0 spare held 32 v d ps) :
    ∃ p : Prov, v = .agg #[.string p.name, .int .i64 p.value, .int .i64 p.fr, .int .i64 p.en, .bool p.repeal] ∧ p.name.size ≤ maxLen := by
  have hu := Tryd.underlying32
  unfold Value.okWide at hval
  rw [hu] at hval
  obtain ⟨cs, rfl, hcs, _⟩ := hval
  obtain ⟨fuel, hf⟩ := h
  obtain ⟨m, xs, hlen, hxl, hi⟩ := trod_cells hu (by kernel_rfl) hf
  have h0 := hi 0 _ rfl
  have h1 := hi 1 _ rfl
  have h2 := hi 2 _ rfl
  have h3 := hi 3 _ rfl
  have h4 := hi 4 _ rfl
  rw [show Tryd.prog.cellsOf 32 = 5 by kernel_rfl] at hcs
  obtain ⟨l⟩ := cs
  match l, hcs with
  | [a, b, c, e, f], _ =>
    match xs, hxl with
    | [y0, y1, y2, y3, y4], _ =>
      simp [Value.cells] at h0 h1 h2 h3 h4
      obtain ⟨s0, e0, _, g0⟩ := DataW.trod_string Tryd.underlying9 h0
      obtain ⟨s1, e1, _, _⟩ := DataW.trod_int Tryd.underlying3 h1
      obtain ⟨s2, e2, _, _⟩ := DataW.trod_int Tryd.underlying3 h2
      obtain ⟨s3, e3, _, _⟩ := DataW.trod_int Tryd.underlying3 h3
      obtain ⟨s4, e4, _⟩ := DataW.trod_bool Tryd.underlying4 h4
      cases e0; cases e1; cases e2; cases e3; cases e4
      exact ⟨⟨s0, s1, s2, s3, s4⟩, rfl, g0⟩
set_option maxRecDepth 100000 in
theorem period_of_open (hval : Value.okWide Tryd.prog w r b0 87 v) (h : DataW.Trod enc Tryd.prog w 0 spare held 87 v d ps) :
    ∃ (x y : Int) (k : Bool), v = .agg #[.int .i64 x, .int .i64 y, .bool k] := by
  have hu := Tryd.underlying87
  unfold Value.okWide at hval
  rw [hu] at hval
  obtain ⟨cs, rfl, hcs, _⟩ := hval
  obtain ⟨fuel, hf⟩ := h
  obtain ⟨m, xs, hlen, hxl, hi⟩ := trod_cells hu (by kernel_rfl) hf
  have h0 := hi 0 _ rfl
  have h1 := hi 1 _ rfl
  have h2 := hi 2 _ rfl
  rw [show Tryd.prog.cellsOf 87 = 3 by kernel_rfl] at hcs
  obtain ⟨l⟩ := cs
  match l, hcs with
  | [a, b, c], _ =>
    match xs, hxl with
    | [y0, y1, y2], _ =>
      simp [Value.cells] at h0 h1 h2
      obtain ⟨s0, e0, _, g0⟩ := DataW.trod_int Tryd.underlying3 h0
      obtain ⟨s1, e1, _, g1⟩ := DataW.trod_int Tryd.underlying3 h1
      obtain ⟨s2, e2, _⟩ := DataW.trod_bool Tryd.underlying4 h2
      cases e0; cases e1; cases e2
      exact ⟨s0, s1, s2, rfl⟩
set_option maxRecDepth 100000 in
theorem steps_of_open (hval : Value.okWide Tryd.prog w r b0 94 v) (h : DataW.Trod enc Tryd.prog w 0 spare held 94 v d ps) :
    ∃ (f t x y : Int) (k : Bool), v = .agg #[.int .i64 f, .int .i64 t, .int .i64 x, .int .i64 y, .bool k] := by
  have hu := Tryd.underlying94
  have hu2 := Tryd.underlying87
  unfold Value.okWide at hval
  rw [hu] at hval
  obtain ⟨cs, rfl, hcs, _⟩ := hval
  obtain ⟨fuel, hf⟩ := h
  obtain ⟨xs, n, _, _, _, hxl, hi⟩ := DataW.trod_struct hu hf
  have h0 : DataW.trod enc Tryd.prog w 0 spare held n 3 (((Value.agg cs).cells.toList.drop 0).take (Tryd.prog.cellsOf 3)) = xs[0]? := hi 0 _ rfl
  have h1 : DataW.trod enc Tryd.prog w 0 spare held n 3 (((Value.agg cs).cells.toList.drop 1).take (Tryd.prog.cellsOf 3)) = xs[1]? := hi 1 _ rfl
  have h2 : DataW.trod enc Tryd.prog w 0 spare held n 87 (((Value.agg cs).cells.toList.drop 2).take (Tryd.prog.cellsOf 87)) = xs[2]? := hi 2 _ rfl
  rw [show Tryd.prog.cellsOf 94 = 5 by kernel_rfl] at hcs
  rw [show Tryd.prog.cellsOf 3 = 1 by kernel_rfl] at h0 h1
  rw [show Tryd.prog.cellsOf 87 = 3 by kernel_rfl] at h2
  obtain ⟨l⟩ := cs
  match l, hcs with
  | [a, b, c, e, f], _ =>
    match xs, hxl with
    | [y0, y1, y2], _ =>
      simp [Value.cells] at h0 h1 h2
      obtain ⟨m, zs, hlen, hzl, hj⟩ := trod_cells hu2 (by kernel_rfl) h2
      have j0 := hj 0 _ rfl
      have j1 := hj 1 _ rfl
      have j2 := hj 2 _ rfl
      match zs, hzl with
      | [z0, z1, z2], _ =>
        simp at j0 j1 j2
        obtain ⟨s0, e0, _, _⟩ := DataW.trod_int Tryd.underlying3 h0
        obtain ⟨s1, e1, _, _⟩ := DataW.trod_int Tryd.underlying3 h1
        obtain ⟨s2, e2, _, _⟩ := DataW.trod_int Tryd.underlying3 j0
        obtain ⟨s3, e3, _, _⟩ := DataW.trod_int Tryd.underlying3 j1
        obtain ⟨s4, e4, _⟩ := DataW.trod_bool Tryd.underlying4 j2
        cases e0; cases e1; cases e2; cases e3; cases e4
        exact ⟨s0, s1, s2, s3, s4, rfl⟩
end
end Go.Proofs.YtoigamkldccnkaaDoor
