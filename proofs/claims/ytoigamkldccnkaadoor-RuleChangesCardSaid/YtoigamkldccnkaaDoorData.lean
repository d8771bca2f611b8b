/- Lists of structs in memory: rows of cells behind a slice; provisions and holidays. -/
import Derived.Test.YtoigamkldccnkaaDoorKit
namespace Go.Proofs.YtoigamkldccnkaaDoor
open Go Go.RowKit

/-- A slice's elements: rows of m cells, from an address on. -/
def RowsAt (w : World) (A : Option Addr) (m : Nat) (rows : List (List Value)) : Prop :=
  ∀ k r, rows[k]? = some r → ∃ b o, A = some ⟨b, o, none⟩ ∧ b < w.heap.size ∧ ∀ j v, r[j]? = some v → w.cell? ⟨b, o + (k * m + j), none⟩ = some v
theorem RowsAt.below {w w' : World} {A : Option Addr} {m : Nat} {rows : List (List Value)} (h : RowsAt w A m rows) (hb : Below w.heap.size w w') : RowsAt w' A m rows := fun k r hr => by
  obtain ⟨b, o, hA, hlt, hc⟩ := h k r hr
  exact ⟨b, o, hA, Nat.lt_of_lt_of_le hlt hb.size, fun j v hv => (hb.cell (p := ⟨b, o + (k * m + j), none⟩) hlt).trans (hc j v hv)⟩
theorem RowsAt.alloc {w : World} {A : Option Addr} {m : Nat} {rows : List (List Value)} (h : RowsAt w A m rows) (o : Obj) : RowsAt (w.alloc o) A m rows := h.below (below_alloc w o)
theorem RowsAt.drewN {w : World} {A : Option Addr} {m : Nat} {rows : List (List Value)} (h : RowsAt w A m rows) (n : Nat) : RowsAt (w.drewN n) A m rows := h
theorem RowsAt.nil (w : World) (A : Option Addr) (m : Nat) : RowsAt w A m [] := fun k r hr => by simp at hr

structure Prov where
  name : ByteArray
  value : Int
  fr : Int
  en : Int
  repeal : Bool
structure Hol where
  name : ByteArray
  kind : Int
  month : Int
  day : Int
  weekday : Int
def Prov.cells (p : Prov) : List Value := [.string p.name, .int .i64 p.value, .int .i64 p.fr, .int .i64 p.en, .bool p.repeal]
def Hol.cells (p : Hol) : List Value := [.string p.name, .int .i64 p.kind, .int .i64 p.month, .int .i64 p.day, .int .i64 p.weekday]
/-- A slice that reads as a list of provisions. -/
structure Provs (w : World) (A : Option Addr) (l : List Prov) : Prop where
  rows : RowsAt w A 5 (l.map Prov.cells)
  size : l.length ≤ 9223372036854775807
  names : ∀ (k : Nat) p, l[k]? = some p → p.name.size ≤ maxLen
structure Hols (w : World) (A : Option Addr) (l : List Hol) : Prop where
  rows : RowsAt w A 5 (l.map Hol.cells)
  size : l.length ≤ 9223372036854775807
  names : ∀ (k : Nat) p, l[k]? = some p → p.name.size ≤ maxLen
theorem Provs.below {w w' : World} {A : Option Addr} {l : List Prov} (h : Provs w A l) (hb : Below w.heap.size w w') : Provs w' A l := ⟨h.rows.below hb, h.size, h.names⟩
theorem Hols.below {w w' : World} {A : Option Addr} {l : List Hol} (h : Hols w A l) (hb : Below w.heap.size w w') : Hols w' A l := ⟨h.rows.below hb, h.size, h.names⟩
theorem Provs.drewN {w : World} {A : Option Addr} {l : List Prov} (h : Provs w A l) (n : Nat) : Provs (w.drewN n) A l := ⟨h.rows, h.size, h.names⟩
theorem Hols.drewN {w : World} {A : Option Addr} {l : List Hol} (h : Hols w A l) (n : Nat) : Hols (w.drewN n) A l := ⟨h.rows, h.size, h.names⟩
theorem Hols.nil (w : World) (A : Option Addr) : Hols w A [] := ⟨RowsAt.nil _ _ _, by simp, fun k p h => by simp at h⟩
/-- One element: where it lies, and its cells. -/
theorem Provs.at_ {w : World} {A : Option Addr} {l : List Prov} (h : Provs w A l) {k : Nat} {p : Prov} (hk : l[k]? = some p) :
    ∃ b o, A = some ⟨b, o, none⟩ ∧ b < w.heap.size ∧ w.cell? ⟨b, o + k * 5, none⟩ = some (.string p.name) ∧ w.cell? ⟨b, o + k * 5 + 1, none⟩ = some (.int .i64 p.value) ∧ w.cell? ⟨b, o + k * 5 + 2, none⟩ = some (.int .i64 p.fr) ∧ w.cell? ⟨b, o + k * 5 + 3, none⟩ = some (.int .i64 p.en) ∧ w.cell? ⟨b, o + k * 5 + 4, none⟩ = some (.bool p.repeal) := by
  obtain ⟨b, o, hA, hlt, hc⟩ := h.rows k p.cells (by simp [hk])
  exact ⟨b, o, hA, hlt, hc 0 _ rfl, hc 1 _ rfl, hc 2 _ rfl, hc 3 _ rfl, hc 4 _ rfl⟩
theorem Hols.at_ {w : World} {A : Option Addr} {l : List Hol} (h : Hols w A l) {k : Nat} {p : Hol} (hk : l[k]? = some p) :
    ∃ b o, A = some ⟨b, o, none⟩ ∧ b < w.heap.size ∧ w.cell? ⟨b, o + k * 5, none⟩ = some (.string p.name) ∧ w.cell? ⟨b, o + k * 5 + 1, none⟩ = some (.int .i64 p.kind) ∧ w.cell? ⟨b, o + k * 5 + 2, none⟩ = some (.int .i64 p.month) ∧ w.cell? ⟨b, o + k * 5 + 3, none⟩ = some (.int .i64 p.day) ∧ w.cell? ⟨b, o + k * 5 + 4, none⟩ = some (.int .i64 p.weekday) := by
  obtain ⟨b, o, hA, hlt, hc⟩ := h.rows k p.cells (by simp [hk])
  exact ⟨b, o, hA, hlt, hc 0 _ rfl, hc 1 _ rfl, hc 2 _ rfl, hc 3 _ rfl, hc 4 _ rfl⟩
end Go.Proofs.YtoigamkldccnkaaDoor
