/- What the statements rest on: definitions and walks, part 18. -/
import Derived.Test.YtfcjeejhdklkdaaJ10
set_option maxRecDepth 100000
set_option maxHeartbeats 16000000
set_option linter.unusedSimpArgs false
set_option linter.unusedVariables false
namespace Go.Proofs.Ytfcjeejhdklkdaa
open Go Go.RowKit Go.Shelf
attribute [local go_sem] Oper.semAt_some
theorem Two.one {b c o : Nat} {W W' : World} (h : Two b c W W') : W'.cell? ⟨b, o, none⟩ = W.cell? ⟨b, o, none⟩ := World.cell?_of_block (a := ⟨b, o, none⟩) h.1
end Go.Proofs.Ytfcjeejhdklkdaa
namespace Go.Proofs.Ytfcjeejhdklkdaa
open Go Go.RowKit
def Chk.part (order : List Int) (q : Chk order.length) : List Int := (order.drop q.1.1).take q.1.2
end Go.Proofs.Ytfcjeejhdklkdaa
namespace Go.Proofs.Ytfcjeejhdklkdaa
open Go Go.RowKit
structure Grad where
 t0 : Int
 t1 : Int
 t2 : Int
 p0 : Int
 p1 : Int
 p2 : Int
 m0 : Int
 m1 : Int
 m2 : Int
 m3 : Int
theorem BoxAt.nums {w : World} {B : Nat} {cs : List Value} (h : BoxAt w B cs) (o : Nat) (zs : List Int) (hl : zs.length ≤ 1000000) (hc : ∀ (k : Nat) z, zs[k]? = some z → cs[o + k]? = some (.int .i64 z)) : NumsAt w B o zs := ⟨fun k z hz => h.c _ _ (hc k z hz), h.lt, hl⟩
theorem gp {w : World} {B : Nat} {g : Grad} (h : BoxAt w B [.int .i64 g.t0, .int .i64 g.t1, .int .i64 g.t2, .int .i64 g.p0, .int .i64 g.p1, .int .i64 g.p2, .int .i64 g.m0, .int .i64 g.m1, .int .i64 g.m2, .int .i64 g.m3]) : NumsAt w B 3 [g.p0, g.p1, g.p2] := h.nums 3 _ (by simp) (fun k z hz => by match k, hz with | 0, hz => cases hz; rfl | 1, hz => cases hz; rfl | 2, hz => cases hz; rfl)
end Go.Proofs.Ytfcjeejhdklkdaa
namespace Go.Proofs.Ytfcjeejhdklkdaa.Cal
open Go.Lib
abbrev Txt := List UInt8
end Go.Proofs.Ytfcjeejhdklkdaa.Cal
namespace Go.Proofs.Ytfcjeejhdklkdaa
open Go Go.RowKit Go.Sort
def txtRows (zs : List Cal.Txt) : List (List Value) := zs.map fun n => [encStr n]
def TextsL (w : World) (B : Nat) (v : Value) (zs : List Cal.Txt) : Prop := OwnL w B 9 1 v (txtRows zs)
theorem txtRows_length (zs : List Cal.Txt) : (txtRows zs).length = zs.length := by unfold txtRows; simp
theorem txtRows_wid (zs : List Cal.Txt) : ∀ r ∈ txtRows zs, r.length = 1 := fun r hr => by obtain ⟨n, _, rfl⟩ := List.mem_map.1 hr; rfl
theorem txtRows_one (zs : List Cal.Txt) : ∀ r ∈ txtRows zs, ∀ u ∈ r, u.oneCell' = true := fun r hr u hu => by
 obtain ⟨n, _, rfl⟩ := List.mem_map.1 hr
 simp only [List.mem_singleton] at hu; subst hu; rfl
theorem txtRows_flat (zs : List Cal.Txt) : (txtRows zs).flatten = zs.map encStr := by
 induction zs with
 | nil => rfl
 | cons z zs ih => unfold txtRows at ih ⊢; rw [List.map_cons, List.flatten_cons, ih]; rfl
theorem TextsL.of {w : World} {B : Nat} {v : Value} {zs : List Cal.Txt} (h : w.ownsRow B 9 1 v zs.length (zs.map encStr)) : TextsL w B v zs :=
 ⟨by rw [txtRows_length, txtRows_flat]; exact h, txtRows_wid zs, txtRows_one zs⟩
end Go.Proofs.Ytfcjeejhdklkdaa
namespace Go.Proofs.Ytfcjeejhdklkdaa
open Go Go.RowKit Go.Shelf
attribute [local go_sem] Oper.semAt_some
theorem KpS.one {n₀ Bs B o : Nat} {X Y : World} (h : KpS n₀ Bs B X Y) : Y.cell? ⟨Bs, o, none⟩ = X.cell? ⟨Bs, o, none⟩ := World.cell?_of_block (a := ⟨Bs, o, none⟩) h.2
end Go.Proofs.Ytfcjeejhdklkdaa
namespace Go.Proofs.Ytfcjeejhdklkdaa
open Go Go.RowKit Go.ChangeShapes Go.WideShapes Go.Deep
section
variable {H : Type} {enc : TypeId × Value → H} {w : World} {spare : Nat → Bool} {held : Bool} {r : Reach} {b0 : Nat} {v : Value} {d : DataW H} {ps : List MemPlace}
theorem pts_of_open (hval : Value.okWide Try.prog w r b0 48 v) (h : DataW.Trod enc Try.prog w 0 spare held 48 v d ps) :
  ∃ (A : Option Addr) (l : List Pt) (c : Nat), v = .slice A l.length c ∧ RowsAt w A 2 (l.map ptR) ∧ (∀ p ∈ l, (-9223372036854775808 ≤ p.x ∧ p.x ≤ 9223372036854775807) ∧ (-9223372036854775808 ≤ p.y ∧ p.y ≤ 9223372036854775807)) ∧ l.length ≤ c := by
 obtain ⟨A, len, cap, rfl⟩ := okWide_slice Try.underlying48 hval
 obtain ⟨fuel, hf⟩ := h
 obtain ⟨A', len', cap', hcs, hlen, hq⟩ := rows_of_open Try.underlying48 Try.underlying75 (by kernel_rfl) (by kernel_rfl) (by decide) hf
 have he : A = A' ∧ len = len' ∧ cap = cap' := by simpa [Value.cells] using hcs
 obtain ⟨rfl, rfl, rfl⟩ := he
 have h1 : ∀ i, i < len → ∃ p : Pt, ((-9223372036854775808 ≤ p.x ∧ p.x ≤ 9223372036854775807) ∧ (-9223372036854775808 ≤ p.y ∧ p.y ≤ 9223372036854775807)) ∧ ∃ b o, A = some ⟨b, o, none⟩ ∧ b < w.heap.size ∧ ∀ j v, (ptR p)[j]? = some v → w.cell? ⟨b, o + (i * 2 + j), none⟩ = some v := fun i hi => by
  obtain ⟨b, o, n, hA, hb, hf⟩ := hq i hi
  obtain ⟨v0, y0, c0, t0⟩ := hf 0 _ rfl
  obtain ⟨v1, y1, c1, t1⟩ := hf 1 _ rfl
  obtain ⟨s0, e0, _, w0⟩ := DataW.trod_int Try.underlying3 t0
  obtain ⟨s1, e1, _, w1⟩ := DataW.trod_int Try.underlying3 t1
  cases e0; cases e1
  refine ⟨⟨s0, s1⟩, ⟨wf_bounds w0, wf_bounds w1⟩, b, o, hA, hb, fun j v hv => ?_⟩
  match j, hv with
  | 0, hv => cases hv; exact c0
  | 1, hv => cases hv; exact c1
  | j + 2, hv => simp [ptR] at hv
 obtain ⟨l, hl, hq'⟩ := list_of len h1
 subst hl
 refine ⟨A, l, cap, rfl, fun k r hr => ?_, fun p hp => ?_, hlen⟩
 ·rw [List.getElem?_map] at hr
  cases hk : l[k]? with
  | none => rw [hk] at hr; cases hr
  | some p => rw [hk] at hr; cases hr; exact (hq' k p hk).2
 ·obtain ⟨k, hk, rfl⟩ := List.getElem_of_mem hp
  exact (hq' k _ (List.getElem?_eq_getElem hk)).1
end
end Go.Proofs.Ytfcjeejhdklkdaa
