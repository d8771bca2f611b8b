/- The walk of a statement. -/
import Derived.Test.YtbinoelbjlgjkaaGreatDoorC09
import Derived.Test.YtbinoelbjlgjkaaGreatDoorQLSources
namespace Go.Proofs.YtbinoelbjlgjkaaGreatDoor
open Go Go.RowKit
theorem chg_at {w : World} {A : Option Addr} {cs : List Chg} (h : RowsAt w A 3 (cs.map Chg.cells)) {k : Nat} {x : Chg} (hk : cs[k]? = some x) : ∃ b o, A = some ⟨b, o, none⟩ ∧ b < w.heap.size ∧ w.cell? ⟨b, o + k * 3, none⟩ = some (.int .i64 x.day) ∧ w.cell? ⟨b, o + k * 3 + 1, none⟩ = some (.int .i64 x.value) ∧ w.cell? ⟨b, o + k * 3 + 2, none⟩ = some (.bool x.holds) := by
  obtain ⟨b, o, hA, hb, hc⟩ := h k x.cells (by simp [hk])
  exact ⟨b, o, hA, hb, hc 0 _ rfl, hc 1 _ rfl, hc 2 _ rfl⟩
/-- What the statement's loop keeps. -/
structure LcI (w : World) (B lb : Nat) (holds known : Int) (A : Option Addr) (cs : List Chg) (ld lv : Int) (lh : Bool) (wr : World) : Prop where
  fr : Below w.heap.size w wr
  at0 : AtCells wr B holds known
  rows : RowsAt wr A 3 (cs.map Chg.cells)
  c0 : wr.cell? ⟨lb, 0, none⟩ = some (.int .i64 ld)
  c1 : wr.cell? ⟨lb, 1, none⟩ = some (.int .i64 lv)
  c2 : wr.cell? ⟨lb, 2, none⟩ = some (.bool lh)
  f0 : wr.frozen? ⟨lb, 0, none⟩ = false
  f1 : wr.frozen? ⟨lb, 1, none⟩ = false
  f2 : wr.frozen? ⟨lb, 2, none⟩ = false
  lt : lb < wr.heap.size
theorem LcI.below {w : World} {B lb : Nat} {holds known : Int} {A : Option Addr} {cs : List Chg} {ld lv : Int} {lh : Bool} {wr wr' : World} (h : LcI w B lb holds known A cs ld lv lh wr) (hb : Below wr.heap.size wr wr') : LcI w B lb holds known A cs ld lv lh wr' :=
  ⟨below_step h.fr hb, h.at0.below hb, h.rows.below hb, (hb.cell (p := ⟨lb, 0, none⟩) h.lt).trans h.c0, (hb.cell (p := ⟨lb, 1, none⟩) h.lt).trans h.c1, (hb.cell (p := ⟨lb, 2, none⟩) h.lt).trans h.c2, (hb.frozen (p := ⟨lb, 0, none⟩) h.lt).trans h.f0, (hb.frozen (p := ⟨lb, 1, none⟩) h.lt).trans h.f1, (hb.frozen (p := ⟨lb, 2, none⟩) h.lt).trans h.f2, Nat.lt_of_lt_of_le h.lt hb.size⟩
theorem LcI.store {w : World} {B lb : Nat} {holds known : Int} {A : Option Addr} {cs : List Chg} {ld lv : Int} {lh : Bool} {wr : World} (h : LcI w B lb holds known A cs ld lv lh wr) (hw : w.heap.size ≤ lb) (hB : B ≠ lb) (hA : ∀ a, A = some a → a.block ≠ lb) (d v : Int) (b : Bool) :
    LcI w B lb holds known A cs d v b (((wr.setCell ⟨lb, 0, none⟩ (.int .i64 d)).setCell ⟨lb, 1, none⟩ (.int .i64 v)).setCell ⟨lb, 2, none⟩ (.bool b)) := by
  have hg : wr.grownBy (((wr.setCell ⟨lb, 0, none⟩ (.int .i64 d)).setCell ⟨lb, 1, none⟩ (.int .i64 v)).setCell ⟨lb, 2, none⟩ (.bool b)) (some lb) := ⟨rfl, rfl, rfl, by simp [World.setCell], fun i _ hne => ((Below.heap_setCell _ _ _ i (fun e => hne (by rw [e]))).trans (Below.heap_setCell _ _ _ i (fun e => hne (by rw [e])))).trans (Below.heap_setCell _ _ _ i (fun e => hne (by rw [e])))⟩
  have hn : ∀ i j : Nat, i ≠ j → (⟨lb, i, none⟩ : Addr) ≠ ⟨lb, j, none⟩ := fun i j h e => by injection e with _ e _; omega
  have hBn : some B ≠ some lb := fun e => hB (by injection e)
  refine ⟨((h.fr.setCell hw _).setCell hw _).setCell hw _, ⟨hg.cell h.at0.c0 hBn, hg.cell h.at0.c1 hBn, Nat.lt_of_lt_of_le h.at0.lt hg.size⟩, h.rows.far' hg (fun a ha e => hA a ha (by injection e)), ?_, ?_, ?_, by rw [World.frozen?_setCell, World.frozen?_setCell, World.frozen?_setCell]; exact h.f0, by rw [World.frozen?_setCell, World.frozen?_setCell, World.frozen?_setCell]; exact h.f1, by rw [World.frozen?_setCell, World.frozen?_setCell, World.frozen?_setCell]; exact h.f2, by simpa [World.setCell] using h.lt⟩
  · rw [World.cell?_setCell_other _ _ _ _ (hn 2 0 (by decide)), World.cell?_setCell_other _ _ _ _ (hn 1 0 (by decide)), World.cell?_setCell_same' _ _ _ (by rw [h.c0]; rfl)]
  · rw [World.cell?_setCell_other _ _ _ _ (hn 2 1 (by decide)), World.cell?_setCell_same' _ _ _ (by rw [World.cell?_setCell_other _ _ _ _ (hn 0 1 (by decide)), h.c1]; rfl)]
  · rw [World.cell?_setCell_same' _ _ _ (by rw [World.cell?_setCell_other _ _ _ _ (hn 1 2 (by decide)), World.cell?_setCell_other _ _ _ _ (hn 0 2 (by decide)), h.c2]; rfl)]
theorem Changes_is (A : Option Addr) (c : Nat) (l : List Prov) (name : ByteArray) (known : Int) (E : Int) (R : List Chg) (hE : Cal.chgE l name known = E) (hR : Cal.chgR l name known = R) (w : World) (hl : Provs w A l) :
    Calls Tryz.prog 17 #[.slice A l.length c, .string name, .int .i64 known] w fun e w' => ∃ A2 c2, e = .returned (.tuple #[.slice A2 R.length c2, .int .i64 E]) ∧ RowsAt w' A2 3 (R.map Chg.cells) ∧ (∀ a, A2 = some a → a.block < w'.heap.size) ∧ Below w.heap.size w w' := by
  subst hE hR
  refine (Changes_any A c l name known w hl).mono ?_
  rintro e w' ⟨v, rfl, hown, hb⟩
  obtain ⟨A2, c2, rfl, hr⟩ := hown.form
  rw [List.length_map] at *
  exact ⟨A2, c2, rfl, hr, fun a ha => (hown.lt a.block (by rw [ha]; rfl)).2, hb⟩
theorem CheckR_is (A : Option Addr) (c : Nat) (l : List Prov) (E : Int) (hE : Cal.provsErr l = E) (w : World) (hl : Provs w A l) :
    Calls Tryz.prog 54 #[.slice A l.length c] w fun e w' => e = .returned (.int .i64 E) ∧ Below w.heap.size w w' := by
  subst hE; exact CheckProvisionsR_any A c l w hl
theorem IsDay_is (n : Int) (b : Bool) (hb : Cal.dayB n = b) (w : World) : Calls Tryz.prog 29 #[.int .i64 n] w fun e w' => e = .returned (.bool b) ∧ w = w' := by
  subst hb; exact IsDay_any n w
theorem Value_is (A : Option Addr) (c : Nat) (l : List Prov) (name : ByteArray) (holds known v e : Int) (hv : Cal.valueS l name holds known = (v, e)) (w : World) (hl : Provs w A l) :
    Calls Tryz.prog 16 #[.slice A l.length c, .string name, .agg #[.int .i64 holds, .int .i64 known]] w fun r w' => r = .returned (.tuple #[.int .i64 v, .int .i64 e]) ∧ Below w.heap.size w w' := by
  have h := Value_any A c l name holds known w hl
  rw [hv] at h; exact h
end Go.Proofs.YtbinoelbjlgjkaaGreatDoor
