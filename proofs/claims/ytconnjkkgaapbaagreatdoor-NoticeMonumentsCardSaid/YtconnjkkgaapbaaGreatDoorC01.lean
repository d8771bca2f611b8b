/- Chapter 8 and what it rests on: definitions and walks, part 01. -/
import Derived.Test.YtconnjkkgaapbaaGreatDoorRows
import Derived.WalkKit
import Derived.WalkSpells
import Derived.WalkLawsBesides
import Derived.ProofKit
import Derived.Lib.Hide
import Derived.Below
import Derived.LoopTactic
import Derived.Deep.LoopGhost
import Derived.Deep.Draws
import Derived.Deep.QuietTactic
import Derived.BigQuiet
import Derived.Deep.DeepFit
import Derived.Outline
import Derived.IntWalk
import Derived.ChangeSame
import Derived.Test.YtconnjkkgaapbaaGreatDoorTie
import Derived.Test.YtconnjkkgaapbaaGreatDoorCards
import Derived.RangeFuncOwn
import Derived.Deep.Slices
import Derived.Deep.Fields
import Derived.WideKeyArgs
import Derived.Lib.SmallJoins
import Derived.Deep.DeepHandedRow
import Derived.Lib.LaidTab
import Derived.OpenShut
import Derived.Carry
namespace Go.Proofs.YtconnjkkgaapbaaGreatDoor
open Go Go.RowKit Go.WideShapes Go.ChangeShapes

theorem ret_int {k : IntKind} {a b : Int} (h : a = b) : Ending.returned (.int k a) = .returned (.int k b) := by rw [h]
theorem ret_bool {a b : Bool} (h : a = b) : Ending.returned (.bool a) = .returned (.bool b) := by rw [h]
theorem ret_int2 {k l : IntKind} {a b c d : Int} (h : a = b) (h2 : c = d) : Ending.returned (.tuple #[.int k a, .int l c]) = .returned (.tuple #[.int k b, .int l d]) := by rw [h, h2]
theorem bcell {W w1 : World} (hb : Below W.heap.size W w1) : (∀ b o, b < W.heap.size → w1.cell? ⟨b, o, none⟩ = W.cell? ⟨b, o, none⟩) ∧ (∀ b o, b < W.heap.size → w1.frozen? ⟨b, o, none⟩ = W.frozen? ⟨b, o, none⟩) :=
  ⟨fun b o h => hb.cell (p := ⟨b, o, none⟩) h, fun b o h => hb.frozen (p := ⟨b, o, none⟩) h⟩
theorem below_drewN {B : Nat} {a w : World} (h : Below B a w) (n : Nat) : Below B a (w.drewN n) := ⟨h.os, h.tape, h.output, h.size, h.block⟩
theorem below_of_drewN {w w' : World} {n : Nat} (h : Below (w.drewN n).heap.size (w.drewN n) w') : Below w.heap.size w w' := ⟨h.os, h.tape, h.output, h.size, h.block⟩
theorem below_step {w a b : World} (h : Below w.heap.size w a) (k : Below a.heap.size a b) : Below w.heap.size w b := h.trans (k.mono h.size)
theorem below_alloc (w : World) (o : Obj) : Below w.heap.size w (w.alloc o) := (Below.refl _ _).alloc (Nat.le_refl _) o
theorem quiet_left {P : Program} {f : FuncId} {args : Array Value} {w : World} {n : Nat} {v : Value}
    (h : Calls P f args (w.drewN n) fun e w' => e = .returned v ∧ w.drewN n = w') : Calls P f args (w.drewN n) fun e w'' => e = .returned v ∧ ∃ m, w'' = w.drewN m :=
  h.mono fun _ _ ⟨he, hm⟩ => ⟨he, n, hm.symm⟩
theorem quiet_add_left {P : Program} {f : FuncId} {args : Array Value} {w : World} {a n : Nat} {v : Value}
    (h : Calls P f args (w.drewN (a + n)) fun e w' => e = .returned v ∧ w.drewN (a + n) = w') :
    Calls P f args (w.drewN (a + n)) fun e w'' => e = .returned v ∧ ∃ m, w'' = w.drewN (a + m) :=
  h.mono fun _ _ ⟨he, hm⟩ => ⟨he, n, hm.symm⟩
theorem calls_in {P : Program} {f : FuncId} {args : Array Value} {w : World} {p q : Prop} [Decidable p] [Decidable q] (h : Calls P f args w fun e w' => e = .returned (.bool (decide p && decide q)) ∧ w = w') (hp : p) (hq : q) :
    Calls P f args w fun e w' => e = .returned (.bool true) ∧ w = w' := h.mono fun _ _ ⟨he, hw⟩ => ⟨by rw [he]; simp [hp, hq], hw⟩
theorem calls_out {P : Program} {f : FuncId} {args : Array Value} {w : World} {p q : Prop} [Decidable p] [Decidable q] (h : Calls P f args w fun e w' => e = .returned (.bool (decide p && decide q)) ∧ w = w') (hn : ¬ (p ∧ q)) :
    Calls P f args w fun e w' => e = .returned (.bool false) ∧ w = w' := h.mono fun _ _ ⟨he, hw⟩ => ⟨by rw [he]; congr 2; by_cases hp : p <;> by_cases hq : q <;> simp_all, hw⟩
section
variable {f : FuncId} {args : Array Value} {w : World} {K : Ending → World → Prop} {p q : Prop} {dp : Decidable p} {dq : Decidable q}
/-! The callees that tell whether a number lies between two others: what each returns is found among the contracts by name. -/
theorem rin (k : K (.returned (.bool true)) w) (h : Calls Tryz.prog f args w fun e w' => e = .returned (.bool (decide p && decide q)) ∧ w = w' := by first | exact within_any _ _ _ _ | exact Within_any _ _ _ _ | exact isDay_any _ _ | exact IsDay_any _ _ | exact IsYear_any _ _ | exact IsFull_any _ _ | exact isFull_any _ _ | exact nwithin_any _ _ _ _) (hp : p := by omega) (hq : q := by omega) : Calls Tryz.prog f args w K :=
  (calls_in h hp hq).mono fun e w' ⟨he, hw⟩ => by subst he hw; exact k
theorem rout (k : K (.returned (.bool false)) w) (h : Calls Tryz.prog f args w fun e w' => e = .returned (.bool (decide p && decide q)) ∧ w = w' := by first | exact within_any _ _ _ _ | exact Within_any _ _ _ _ | exact isDay_any _ _ | exact IsDay_any _ _ | exact IsYear_any _ _ | exact IsFull_any _ _ | exact isFull_any _ _ | exact nwithin_any _ _ _ _) (hn : ¬ (p ∧ q) := by omega) : Calls Tryz.prog f args w K :=
  (calls_out h hn).mono fun e w' ⟨he, hw⟩ => by subst he hw; exact k
theorem rany (k : K (.returned (.bool (decide p && decide q))) w) (h : Calls Tryz.prog f args w fun e w' => e = .returned (.bool (decide p && decide q)) ∧ w = w' := by first | exact within_any _ _ _ _ | exact Within_any _ _ _ _ | exact isDay_any _ _ | exact IsDay_any _ _ | exact IsYear_any _ _ | exact IsFull_any _ _ | exact isFull_any _ _ | exact nwithin_any _ _ _ _) : Calls Tryz.prog f args w K :=
  h.mono fun e w' ⟨he, hw⟩ => by subst he hw; exact k
variable {n : Nat}
theorem qin (h : Calls Tryz.prog f args (w.drewN n) fun e w' => e = .returned (.bool (decide p && decide q)) ∧ w.drewN n = w' := by first | exact within_any _ _ _ _ | exact Within_any _ _ _ _ | exact isDay_any _ _ | exact IsDay_any _ _ | exact IsYear_any _ _ | exact IsFull_any _ _ | exact isFull_any _ _ | exact nwithin_any _ _ _ _) (hp : p := by omega) (hq : q := by omega) : Calls Tryz.prog f args (w.drewN n) fun e w'' => e = .returned (.bool true) ∧ ∃ m, w'' = w.drewN m := quiet_left (calls_in h hp hq)
theorem qout (h : Calls Tryz.prog f args (w.drewN n) fun e w' => e = .returned (.bool (decide p && decide q)) ∧ w.drewN n = w' := by first | exact within_any _ _ _ _ | exact Within_any _ _ _ _ | exact isDay_any _ _ | exact IsDay_any _ _ | exact IsYear_any _ _ | exact IsFull_any _ _ | exact isFull_any _ _ | exact nwithin_any _ _ _ _) (hn : ¬ (p ∧ q) := by omega) : Calls Tryz.prog f args (w.drewN n) fun e w'' => e = .returned (.bool false) ∧ ∃ m, w'' = w.drewN m := quiet_left (calls_out h hn)
theorem qany (h : Calls Tryz.prog f args (w.drewN n) fun e w' => e = .returned (.bool (decide p && decide q)) ∧ w.drewN n = w' := by first | exact within_any _ _ _ _ | exact Within_any _ _ _ _ | exact isDay_any _ _ | exact IsDay_any _ _ | exact IsYear_any _ _ | exact IsFull_any _ _ | exact isFull_any _ _ | exact nwithin_any _ _ _ _) : Calls Tryz.prog f args (w.drewN n) fun e w'' => e = .returned (.bool (decide p && decide q)) ∧ ∃ m, w'' = w.drewN m := quiet_left h
end
theorem blw {B : Nat} {a w : World} (h : Below B a w := by (repeat (first | assumption | exact Below.refl _ _ | exact below_alloc _ _ | refine below_drewN ?_ _ | refine Below.drew ?_ | (refine Below.setCell ?_ ?_ _; rotate_left; focus (first | omega | (simp; done) | (simp; omega))) | (refine Below.alloc ?_ ?_ _; rotate_left; focus (first | omega | (simp; done) | (simp; omega)))))) : Below B a w := h
section
variable {H : Type} {enc : TypeId × Value → H} {P : Program}
/-- The row's last step, where 'Below' alone is known of the world behind the call. -/
theorem post_of_below {f : Func} {s : ChangeSpec} {apart fresh handsOn again : Bool} {W W' : World} {args : Array Value} {v : Value} {ds gs : List (DataW H)} {before pa pv : List MemPlace}
    (hW : DataW.Whole enc P f.params.toList s.vars apart W args.toList ds gs before)
    (hres : ∀ (b : Nat) (sp : Nat → Bool) (hd : Bool), DataW.TrodAll enc P W' b sp hd f.resultTypes.toList (v.resultList f.resultTypes.size) (s.fn H (ds ++ gs)).results [])
    (hargs : ∀ sp : Nat → Bool, (∀ p ∈ before, sp p.block = true) → DataW.TrodAll enc P W' 0 sp true f.params.toList args.toList (s.fn H (ds ++ gs)).args pa)
    (hvars : ∀ sp : Nat → Bool, (∀ p ∈ before, sp p.block = true) → DataW.TrodVars enc P W' sp s.vars (s.fn H (ds ++ gs)).vars pv)
    (hps : before = pa ++ pv) (hb : Below W.heap.size W W')
    (hok : ∀ (j : Nat) (t : TypeId) (r : Value), f.resultTypes[j]? = some t → (v.resultList f.resultTypes.size)[j]? = some r → Value.okWide P W' .any 0 t r) :
    s.post enc P f apart fresh handsOn again W args v W' := by
  have hlt : ∀ p ∈ before, p.block < W.heap.size := fun p hp => hW.lt p hp
  have hold : ∀ p ∈ before, (fun b => decide (b < W.heap.size)) p.block = true := fun p hp => by simpa using hlt p hp
  refine ⟨ds, gs, before, [], pa, pv, hW, hres _ _ _, hargs _ hold, hvars _ hold, World.keptBut_mono (fun p hp => ⟨hp, ?_⟩) (hb.frame (· ∈ before)), fun _ => ?_⟩
  · rw [hps, List.mem_append] at hp
    exact Or.inr hp
  · obtain ⟨_, _, _, _, _, hz, hn⟩ := hW
    refine ⟨hok, _, _, ([] ++ pa) ++ pv, ⟨[] ++ pa, pv, trodAll_append (hargs _ (fun _ _ => rfl)) (hres _ _ _), hvars _ (fun _ _ => rfl), rfl, ?_, ?_⟩, ?_⟩
    · intro b off hp
      have hin : MemPlace.cell b off ∈ before := by rw [hps]; simpa using hp
      rw [hb.frozen (hlt _ hin)]
      exact hz b off hin
    · intro ha
      have := hn ha
      rw [hps] at this
      simpa using this
    · intro p hp _
      rw [hps]
      simpa using hp
end

/-- The table of the lengths, as its initialiser lays it. -/
def lenTab : List Int := [31, 28, 31, 30, 31, 30, 31, 31, 30, 31, 30, 31]
structure Tab (w : World) : Prop where
  lt : 0 < w.heap.size
  cell : ∀ i : Nat, i < 12 → w.cell? ⟨0, i, none⟩ = some (.int .i64 (lenTab.getD i 0))
theorem Tab.below {w w' : World} (h : Tab w) (hb : Below w.heap.size w w') : Tab w' :=
  ⟨Nat.lt_of_lt_of_le h.lt hb.size, fun i hi => (hb.cell (p := ⟨0, i, none⟩) h.lt).trans (h.cell i hi)⟩
theorem Tab.alloc {w : World} (h : Tab w) (o : Obj) : Tab (w.alloc o) := h.below (below_alloc w o)
theorem Tab.drewN {w : World} (h : Tab w) (n : Nat) : Tab (w.drewN n) := ⟨h.lt, h.cell⟩
theorem Tab.drew {w : World} (h : Tab w) : Tab w.drew := ⟨h.lt, h.cell⟩
end Go.Proofs.YtconnjkkgaapbaaGreatDoor
namespace Go.Proofs.YtconnjkkgaapbaaGreatDoor
open Go Go.RowKit

/-- A slice's elements: rows of m cells, from an address on. -/
def RowsAt (w : World) (A : Option Addr) (m : Nat) (rows : List (List Value)) : Prop :=
  ∀ k r, rows[k]? = some r → ∃ b o, A = some ⟨b, o, none⟩ ∧ b < w.heap.size ∧ ∀ j v, r[j]? = some v → w.cell? ⟨b, o + (k * m + j), none⟩ = some v
theorem RowsAt.below {w w' : World} {A : Option Addr} {m : Nat} {rows : List (List Value)} (h : RowsAt w A m rows) (hb : Below w.heap.size w w') : RowsAt w' A m rows := fun k r hr => by
  obtain ⟨b, o, hA, hlt, hc⟩ := h k r hr
  exact ⟨b, o, hA, Nat.lt_of_lt_of_le hlt hb.size, fun j v hv => (hb.cell (p := ⟨b, o + (k * m + j), none⟩) hlt).trans (hc j v hv)⟩
theorem RowsAt.alloc {w : World} {A : Option Addr} {m : Nat} {rows : List (List Value)} (h : RowsAt w A m rows) (o : Obj) : RowsAt (w.alloc o) A m rows := h.below (below_alloc w o)
theorem RowsAt.drewN {w : World} {A : Option Addr} {m : Nat} {rows : List (List Value)} (h : RowsAt w A m rows) (n : Nat) : RowsAt (w.drewN n) A m rows := h
theorem RowsAt.nil (w : World) (A : Option Addr) (m : Nat) : RowsAt w A m [] := fun k r hr => by simp at hr

structure Prov where
  name : ByteArray
  value : Int
  fr : Int
  en : Int
  repeal : Bool
structure Hol where
  name : ByteArray
  kind : Int
  month : Int
  day : Int
  weekday : Int
def Prov.cells (p : Prov) : List Value := [.string p.name, .int .i64 p.value, .int .i64 p.fr, .int .i64 p.en, .bool p.repeal]
def Hol.cells (p : Hol) : List Value := [.string p.name, .int .i64 p.kind, .int .i64 p.month, .int .i64 p.day, .int .i64 p.weekday]
/-- A slice that reads as a list of provisions. -/
structure Provs (w : World) (A : Option Addr) (l : List Prov) : Prop where
  rows : RowsAt w A 5 (l.map Prov.cells)
  size : l.length ≤ 9223372036854775807
  names : ∀ (k : Nat) p, l[k]? = some p → p.name.size ≤ maxLen
structure Hols (w : World) (A : Option Addr) (l : List Hol) : Prop where
  rows : RowsAt w A 5 (l.map Hol.cells)
  size : l.length ≤ 9223372036854775807
  names : ∀ (k : Nat) p, l[k]? = some p → p.name.size ≤ maxLen
theorem Provs.below {w w' : World} {A : Option Addr} {l : List Prov} (h : Provs w A l) (hb : Below w.heap.size w w') : Provs w' A l := ⟨h.rows.below hb, h.size, h.names⟩
theorem Hols.below {w w' : World} {A : Option Addr} {l : List Hol} (h : Hols w A l) (hb : Below w.heap.size w w') : Hols w' A l := ⟨h.rows.below hb, h.size, h.names⟩
theorem Provs.drewN {w : World} {A : Option Addr} {l : List Prov} (h : Provs w A l) (n : Nat) : Provs (w.drewN n) A l := ⟨h.rows, h.size, h.names⟩
theorem Hols.drewN {w : World} {A : Option Addr} {l : List Hol} (h : Hols w A l) (n : Nat) : Hols (w.drewN n) A l := ⟨h.rows, h.size, h.names⟩
theorem Hols.nil (w : World) (A : Option Addr) : Hols w A [] := ⟨RowsAt.nil _ _ _, by simp, fun k p h => by simp at h⟩
/-- One element: where it lies, and its cells. -/
theorem Provs.at_ {w : World} {A : Option Addr} {l : List Prov} (h : Provs w A l) {k : Nat} {p : Prov} (hk : l[k]? = some p) :
    ∃ b o, A = some ⟨b, o, none⟩ ∧ b < w.heap.size ∧ w.cell? ⟨b, o + k * 5, none⟩ = some (.string p.name) ∧ w.cell? ⟨b, o + k * 5 + 1, none⟩ = some (.int .i64 p.value) ∧ w.cell? ⟨b, o + k * 5 + 2, none⟩ = some (.int .i64 p.fr) ∧ w.cell? ⟨b, o + k * 5 + 3, none⟩ = some (.int .i64 p.en) ∧ w.cell? ⟨b, o + k * 5 + 4, none⟩ = some (.bool p.repeal) := by
  obtain ⟨b, o, hA, hlt, hc⟩ := h.rows k p.cells (by simp [hk])
  exact ⟨b, o, hA, hlt, hc 0 _ rfl, hc 1 _ rfl, hc 2 _ rfl, hc 3 _ rfl, hc 4 _ rfl⟩
theorem Hols.at_ {w : World} {A : Option Addr} {l : List Hol} (h : Hols w A l) {k : Nat} {p : Hol} (hk : l[k]? = some p) :
    ∃ b o, A = some ⟨b, o, none⟩ ∧ b < w.heap.size ∧ w.cell? ⟨b, o + k * 5, none⟩ = some (.string p.name) ∧ w.cell? ⟨b, o + k * 5 + 1, none⟩ = some (.int .i64 p.kind) ∧ w.cell? ⟨b, o + k * 5 + 2, none⟩ = some (.int .i64 p.month) ∧ w.cell? ⟨b, o + k * 5 + 3, none⟩ = some (.int .i64 p.day) ∧ w.cell? ⟨b, o + k * 5 + 4, none⟩ = some (.int .i64 p.weekday) := by
  obtain ⟨b, o, hA, hlt, hc⟩ := h.rows k p.cells (by simp [hk])
  exact ⟨b, o, hA, hlt, hc 0 _ rfl, hc 1 _ rfl, hc 2 _ rfl, hc 3 _ rfl, hc 4 _ rfl⟩
end Go.Proofs.YtconnjkkgaapbaaGreatDoor
namespace Go.Proofs.YtconnjkkgaapbaaGreatDoor
open Go Go.RowKit Go.ChangeShapes Go.WideShapes Go.Deep

theorem own : ownKnob Tryz.prog.godebug = none := by kernel_rfl
theorem laidOut : laidOutB Tryz.prog = true := by kernel_rfl
theorem gLen : Tryz.prog.globalNamed "mortsafe/rule.lengths" = some 0 := by kernel_rfl
theorem gLenType : (Tryz.prog.globals[0]?).map (·.type) = some 172 := by kernel_rfl
theorem cellsLen : Tryz.prog.cellsOf 172 = 12 := by kernel_rfl
theorem cellsInt : Tryz.prog.cellsOf 3 = 1 := by kernel_rfl
theorem tab_of {W : World} (h : laidMetH Tryz.prog [("mortsafe/rule.lengths", Rows.laid_mortsafe_rule_lengths)] W) : Tab W := by
  have ht : Lib.TabIs Tryz.prog W "mortsafe/rule.lengths" .i64 lenTab := Lib.tabIs_of_head (rest := []) gLen gLenType Tryz.underlying172 Tryz.underlying3 cellsInt cellsLen h
  have hc : ∀ i : Nat, i < 12 → W.cell? ⟨0, i, none⟩ = some (.int .i64 (lenTab.getD i 0)) := fun i hi => ht.cell gLen i (by simpa [lenTab] using hi)
  refine ⟨?_, hc⟩
  have := hc 0 (by decide)
  unfold World.cell? at this
  rcases Nat.lt_or_ge 0 W.heap.size with h | h
  · exact h
  · rw [Array.getElem?_eq_none h] at this; cases this

/-- A list out of its elements. -/
theorem list_of {α : Type} {Q : Nat → α → Prop} : ∀ n : Nat, (∀ i, i < n → ∃ p, Q i p) → ∃ l : List α, l.length = n ∧ ∀ (i : Nat) p, l[i]? = some p → Q i p
  | 0, _ => ⟨[], rfl, fun i p h => by simp at h⟩
  | n + 1, h => by
    obtain ⟨l, hl, hq⟩ := list_of n (fun i hi => h i (by omega))
    obtain ⟨p, hp⟩ := h n (by omega)
    refine ⟨l ++ [p], by simp [hl], fun i q hi => ?_⟩
    rw [List.getElem?_append] at hi
    split at hi
    · exact hq i q hi
    · have : i = n := by
        have := (List.getElem?_eq_some_iff.1 hi).1
        simp at this; omega
      subst this
      rw [hl] at hi; simp at hi; subst hi; exact hp
theorem addr_plain {w : World} {a : Addr} {k : Nat} {v : Value} (h : w.cell? (a.add k) = some v) (h0 : ∃ u, w.cell? (a.add 0) = some u) : a = ⟨a.block, a.off, none⟩ := by
  obtain ⟨u, h0⟩ := h0
  have := World.cell?_spot (show w.cell? a = some u by simpa [Addr.add] using h0)
  cases a; simp at this; subst this; rfl
section
variable {H : Type} {enc : TypeId × Value → H} {w : World} {spare : Nat → Bool} {held : Bool}
/-- The elements' cells of a slice of structs whose fields are a cell each. -/
theorem rows_of_open {t e : TypeId} {fs : Array Field} {fuel : Nat} {cs : List Value} {x : DataW H × List MemPlace} (ht : Tryz.prog.underlying t = some (.slice e)) (he : Tryz.prog.underlying e = some (.struct fs))
    (hone : oneCellFields Tryz.prog fs = true) (hC : Tryz.prog.cellsOf e = fs.size) (hpos : 0 < fs.size) (h : DataW.trod enc Tryz.prog w 0 spare held fuel t cs = some x) :
    ∃ (A : Option Addr) (len cap : Nat), cs = [.slice A len cap] ∧ len ≤ maxLen ∧ ∀ i, i < len → ∃ (b o n : Nat), A = some ⟨b, o, none⟩ ∧ b < w.heap.size ∧
      ∀ (j : Nat) (f : Field), fs[j]? = some f → ∃ (v : Value) (y : DataW H × List MemPlace), w.cell? ⟨b, o + (i * fs.size + j), none⟩ = some v ∧ DataW.trod enc Tryz.prog w 0 spare held n f.type [v] = some y := by
  rcases open_slice ht h with ⟨h0, _⟩ | ⟨a, len, cap, m, n, D, Pl, hcs, hb, hl, hm, hmm, hx, hi⟩
  · exact ⟨none, 0, 0, h0, by unfold maxLen; omega, fun i hi => by omega⟩
  · refine ⟨some a, len, cap, hcs, by omega, fun i him => ?_⟩
    have hlm : len ≤ m := by rw [hmm]; split <;> omega
    obtain ⟨cs', hc, ht'⟩ := hi i (by omega)
    obtain ⟨cs0, hc0, _⟩ := hi 0 (by omega)
    rw [hC] at hc hc0
    obtain ⟨ys, n', hn', hy, hlen, hyl, hf⟩ := DataW.trod_struct he ht'
    obtain ⟨hcl0, hcl1, hat⟩ := World.cells?_some hc
    obtain ⟨_, hcl01, hat0⟩ := World.cells?_some hc0
    have hz : ∃ u, w.cell? (a.add 0) = some u := by
      have h1 := hat0 0 hpos
      have hlen0 : 0 < cs0.length := by omega
      rw [List.getElem?_eq_getElem hlen0] at h1
      exact ⟨_, by simpa [Addr.add] using h1⟩
    have ha : a = ⟨a.block, a.off, none⟩ := by obtain ⟨u, hu⟩ := hz; exact addr_plain hu ⟨u, hu⟩
    refine ⟨a.block, a.off, n', by rw [← ha], ?_, fun j f hj => ?_⟩
    · obtain ⟨u, hu⟩ := hz
      obtain ⟨o, ho, _⟩ := cells_of_cell hu
      have := (Array.getElem?_eq_some_iff.1 ho).1
      simpa [Addr.add] using this
    · obtain ⟨ho, hk⟩ := hone_of hone j f hj
      have hjl : j < fs.size := (Array.getElem?_eq_some_iff.1 hj).1
      have hcell := hat j hjl
      have hlt : j < cs'.length := by omega
      have hv : cs'[j]? = some cs'[j] := List.getElem?_eq_getElem hlt
      have h1 := hf j f hj
      rw [ho, hk] at h1
      have hone' : (cs'.drop j).take 1 = [cs'[j]] := by rw [List.drop_eq_getElem_cons hlt]; rfl
      rw [hone'] at h1
      refine ⟨cs'[j], ys[j]'(by omega), ?_, h1.trans (List.getElem?_eq_getElem (by omega))⟩
      rw [hv, ha] at hcell
      rw [← hcell, Go.Deep.add_add, ← Go.WideShapes.add_plain]
end
section
variable {H : Type} {enc : TypeId × Value → H} {w : World} {spare : Nat → Bool} {held : Bool} {r : Reach} {b0 : Nat} {v : Value} {d : DataW H} {ps : List MemPlace}
set_option maxRecDepth 100000 in
theorem hols_of_open (hval : Value.okWide Tryz.prog w r b0 24 v) (h : DataW.Trod enc Tryz.prog w 0 spare held 24 v d ps) :
    ∃ (A : Option Addr) (l : List Hol) (c : Nat), v = .slice A l.length c ∧ Hols w A l := by
  obtain ⟨A, len, cap, rfl⟩ := okWide_slice Tryz.underlying24 hval
  obtain ⟨fuel, hf⟩ := h
  obtain ⟨A', len', cap', hcs, hlen, hq⟩ := rows_of_open Tryz.underlying24 Tryz.underlying130 (by kernel_rfl) (by kernel_rfl) (by decide) hf
  have he : A = A' ∧ len = len' ∧ cap = cap' := by simpa [Value.cells] using hcs
  obtain ⟨rfl, rfl, rfl⟩ := he
  have h1 : ∀ i, i < len → ∃ p : Hol, p.name.size ≤ maxLen ∧ ∃ b o, A = some ⟨b, o, none⟩ ∧ b < w.heap.size ∧ ∀ j v, p.cells[j]? = some v → w.cell? ⟨b, o + (i * 5 + j), none⟩ = some v := fun i hi => by
    obtain ⟨b, o, n, hA, hb, hf⟩ := hq i hi
    obtain ⟨v0, y0, c0, t0⟩ := hf 0 _ rfl
    obtain ⟨v1, y1, c1, t1⟩ := hf 1 _ rfl
    obtain ⟨v2, y2, c2, t2⟩ := hf 2 _ rfl
    obtain ⟨v3, y3, c3, t3⟩ := hf 3 _ rfl
    obtain ⟨v4, y4, c4, t4⟩ := hf 4 _ rfl
    obtain ⟨s0, e0, _, g0⟩ := DataW.trod_string Tryz.underlying9 t0
    obtain ⟨s1, e1, _, _⟩ := DataW.trod_int Tryz.underlying3 t1
    obtain ⟨s2, e2, _, _⟩ := DataW.trod_int Tryz.underlying3 t2
    obtain ⟨s3, e3, _, _⟩ := DataW.trod_int Tryz.underlying3 t3
    obtain ⟨s4, e4, _, _⟩ := DataW.trod_int Tryz.underlying3 t4
    cases e0; cases e1; cases e2; cases e3; cases e4
    refine ⟨⟨s0, s1, s2, s3, s4⟩, g0, b, o, hA, hb, fun j v hv => ?_⟩
    match j, hv with
    | 0, hv => cases hv; exact c0
    | 1, hv => cases hv; exact c1
    | 2, hv => cases hv; exact c2
    | 3, hv => cases hv; exact c3
    | 4, hv => cases hv; exact c4
    | j + 5, hv => simp [Hol.cells] at hv
  obtain ⟨l, hl, hq'⟩ := list_of len h1
  subst hl
  refine ⟨A, l, cap, rfl, ⟨fun k r hr => ?_, by unfold maxLen at hlen; omega, fun k p hp => (hq' k p hp).1⟩⟩
  rw [List.getElem?_map] at hr
  cases hk : l[k]? with
  | none => rw [hk] at hr; cases hr
  | some p => rw [hk] at hr; cases hr; exact (hq' k p hk).2
theorem trod_cells {t : TypeId} {fs : Array Field} {fuel : Nat} {cs : List Value} {x : DataW H × List MemPlace} (ht : Tryz.prog.underlying t = some (.struct fs)) (hone : oneCellFields Tryz.prog fs = true)
    (h : DataW.trod enc Tryz.prog w 0 spare held fuel t cs = some x) :
    ∃ (n : Nat) (xs : List (DataW H × List MemPlace)), cs.length = Tryz.prog.cellsOf t ∧ xs.length = fs.size ∧ ∀ (j : Nat) (f : Field), fs[j]? = some f → DataW.trod enc Tryz.prog w 0 spare held n f.type ((cs.drop j).take 1) = xs[j]? := by
  obtain ⟨xs, m, _, _, hlen, hxl, hi⟩ := DataW.trod_struct ht h
  refine ⟨m, xs, hlen, hxl, fun j f hj => ?_⟩
  obtain ⟨ho, hk⟩ := hone_of hone j f hj
  have := hi j f hj
  rwa [ho, hk] at this
set_option maxRecDepth 100000 in
theorem date_of_open (hval : Value.okWide Tryz.prog w r b0 147 v) (h : DataW.Trod enc Tryz.prog w 0 spare held 147 v d ps) :
    ∃ (x y z : Int), v = .agg #[.int .i64 x, .int .i64 y, .int .i64 z] ∧ (Lit.int .i64 x).wf = true ∧ (Lit.int .i64 y).wf = true ∧ (Lit.int .i64 z).wf = true := by
  have hu := Tryz.underlying147
  unfold Value.okWide at hval
  rw [hu] at hval
  obtain ⟨cs, rfl, hcs, _⟩ := hval
  obtain ⟨fuel, hf⟩ := h
  obtain ⟨m, xs, hlen, hxl, hi⟩ := trod_cells hu (by kernel_rfl) hf
  have h0 := hi 0 _ rfl
  have h1 := hi 1 _ rfl
  have h2 := hi 2 _ rfl
  rw [show Tryz.prog.cellsOf 147 = 3 by kernel_rfl] at hcs
  obtain ⟨l⟩ := cs
  match l, hcs with
  | [a, b, c], _ =>
    match xs, hxl with
    | [y0, y1, y2], _ =>
      simp [Value.cells] at h0 h1 h2
      obtain ⟨s0, e0, _, g0⟩ := DataW.trod_int Tryz.underlying3 h0
      obtain ⟨s1, e1, _, g1⟩ := DataW.trod_int Tryz.underlying3 h1
      obtain ⟨s2, e2, _, g2⟩ := DataW.trod_int Tryz.underlying3 h2
      cases e0; cases e1; cases e2
      exact ⟨s0, s1, s2, rfl, g0, g1, g2⟩
end
section
variable {H : Type} {enc : TypeId × Value → H}
theorem trodAll_stays {W W' : World} {sp' : Nat → Bool} : ∀ {ts : List TypeId} {vs : List Value} {ds : List (DataW H)} {ps : List MemPlace}, (∀ t ∈ ts, Tryz.prog.readableRec t = true ∧ t < Tryz.prog.types.size) →
    DataW.TrodAll enc Tryz.prog W 0 (fun _ => true) true ts vs ds ps → (∀ p ∈ ps, W.sameAt W' p) → (∀ p ∈ ps, sp' p.block = true) → DataW.TrodAll enc Tryz.prog W' 0 sp' true ts vs ds ps
  | [], vs, ds, ps, _, h, _, _ => by
    obtain ⟨rfl, rfl, rfl⟩ := trodAll_nil h
    exact rfl
  | t :: ts, vs, ds, ps, ht, h, hs, hp => by
    obtain ⟨v0, vs0, d0, ds0, p0, q0, rfl, rfl, rfl, h0, r0⟩ := trodAll_cons h
    have h1 := ht t (List.mem_cons_self ..)
    exact ⟨p0, q0, WideElems.Trod_stays laidOut h1.1 h1.2 h0 (fun p hm => hs p (List.mem_append_left _ hm)) (fun p hm => hp p (List.mem_append_left _ hm)),
      trodAll_stays (fun t hm => ht t (List.mem_cons_of_mem _ hm)) r0 (fun p hm => hs p (List.mem_append_right _ hm)) (fun p hm => hp p (List.mem_append_right _ hm)), rfl⟩
set_option maxRecDepth 100000 in
/-- The last step of every row of this kind: true, and the arguments as they were. -/
theorem post_true {f : Func} {s : ChangeSpec} {W W' : World} {args : Array Value} {ds gs : List (DataW H)} {before : List MemPlace} (hvars : s.vars = []) (hres : f.resultTypes = #[4])
    (hpar : ∀ t ∈ f.params.toList, Tryz.prog.readableRec t = true ∧ t < Tryz.prog.types.size)
    (hW : DataW.Whole enc Tryz.prog f.params.toList s.vars false W args.toList ds gs before) (hs : s.fn H (ds ++ gs) = { results := [.lit (.bool true)], args := ds }) (hb : Below W.heap.size W W') :
    s.post enc Tryz.prog f false true false false W args (.bool true) W' := by
  have hW' := hW
  have hlt : ∀ p ∈ before, p.block < W.heap.size := fun p hp => hW'.lt p hp
  obtain ⟨p, q, hA, hV, rfl, hfz, hnd⟩ := hW
  rw [hvars] at hV
  obtain ⟨rfl, rfl⟩ := trodVars_none hV
  simp only [List.append_nil] at hs hW' hlt
  refine post_of_below (pa := p) (pv := []) (ds := ds) (gs := []) (before := p) hW' ?_ ?_ ?_ (by simp) hb ?_
  · intro b sp hd
    rw [List.append_nil, hs, hres]
    exact trodAll_cons_mk (shut_bool Tryz.underlying4 _) trodAll_mk0
  · intro sp hsp
    rw [List.append_nil, hs]
    exact trodAll_stays hpar hA (fun x hx => hb.same (hlt x hx)) hsp
  · intro sp _
    rw [hvars, List.append_nil, hs]
    rfl
  · exact ok_one hres rfl (okWide_bool_mk Tryz.underlying4 _)
end
/-- A WORLD FOR THE WITNESS: the settled one, the table holding what its initialiser lays. -/
noncomputable def laidWorld (os : Os) : World :=
  { World.holding Tryz.prog os ⟨#[], #[], []⟩ with heap := (World.holding Tryz.prog os ⟨#[], #[], []⟩).heap.modify 0 fun
      | .cells _ t frozen => .cells #[.int .i64 31, .int .i64 28, .int .i64 31, .int .i64 30, .int .i64 31, .int .i64 30, .int .i64 31, .int .i64 31, .int .i64 30, .int .i64 31, .int .i64 30, .int .i64 31] t frozen
      | o => o }
end Go.Proofs.YtconnjkkgaapbaaGreatDoor
namespace Go.Proofs.YtconnjkkgaapbaaGreatDoor.Cal

def leapB (y : Int) : Bool := decide (y % 4 = 0) && (!decide (y % 100 = 0) || decide (y % 400 = 0))
def lp (y : Int) : Int := if leapB y = true then 1 else 0
def mlen (y m : Int) : Int :=
  if m = 2 then 28 + lp y else if m = 4 ∨ m = 6 ∨ m = 9 ∨ m = 11 then 30 else 31
def beg (y : Int) : Int := 365 * (y - 1800) + (y - 1) / 4 - (y - 1) / 100 + (y - 1) / 400 - 436
/-- The days of a year ahead of a month. -/
def cum (y m : Int) : Int :=
  if m ≤ 1 then 0 else if m = 2 then 31 else if m = 3 then 59 + lp y else if m = 4 then 90 + lp y else if m = 5 then 120 + lp y else if m = 6 then 151 + lp y
  else if m = 7 then 181 + lp y else if m = 8 then 212 + lp y else if m = 9 then 243 + lp y else if m = 10 then 273 + lp y else if m = 11 then 304 + lp y else if m = 12 then 334 + lp y else 365 + lp y
def first (y m : Int) : Int := beg y + cum y m

theorem lp_01 (y : Int) : lp y = 0 ∨ lp y = 1 := by unfold lp; split <;> simp
theorem lp_ge (y : Int) : 0 ≤ lp y := by rcases lp_01 y with h | h <;> omega
theorem lp_le (y : Int) : lp y ≤ 1 := by rcases lp_01 y with h | h <;> omega
theorem lp_eq (y : Int) : lp y = y / 4 - (y - 1) / 4 - (y / 100 - (y - 1) / 100) + (y / 400 - (y - 1) / 400) := by
  unfold lp leapB
  by_cases h4 : y % 4 = 0 <;> by_cases h100 : y % 100 = 0 <;> by_cases h400 : y % 400 = 0 <;> simp [h4, h100, h400] <;> omega
theorem beg_succ (y : Int) : beg (y + 1) = beg y + 365 + lp y := by
  rw [lp_eq]; unfold beg
  have : y + 1 - 1 = y := by omega
  rw [this]; omega
theorem beg_1800 : beg 1800 = 0 := by decide
theorem beg_mono {a b : Int} (h : a ≤ b) : beg a ≤ beg b := by unfold beg; omega
theorem beg_lt {a b : Int} (h : a < b) : beg a + 365 ≤ beg b := by
  have := beg_mono (a := a + 1) (b := b) (by omega)
  have := beg_succ a
  have := lp_ge a
  omega
theorem mlen_bd (y m : Int) : 28 ≤ mlen y m ∧ mlen y m ≤ 31 := by
  have := lp_01 y
  unfold mlen; repeat' split
  all_goals omega
theorem cum_bd (y m : Int) : 0 ≤ cum y m ∧ cum y m ≤ 366 := by
  have := lp_ge y; have := lp_le y
  unfold cum; omega
theorem cum_succ (y m : Int) (h1 : 1 ≤ m) (h2 : m ≤ 12) : cum y (m + 1) = cum y m + mlen y m := by
  have h : m = 1 ∨ m = 2 ∨ m = 3 ∨ m = 4 ∨ m = 5 ∨ m = 6 ∨ m = 7 ∨ m = 8 ∨ m = 9 ∨ m = 10 ∨ m = 11 ∨ m = 12 := by omega
  rcases h with rfl | rfl | rfl | rfl | rfl | rfl | rfl | rfl | rfl | rfl | rfl | rfl <;> simp [cum, mlen] <;> omega
theorem cum_1 (y : Int) : cum y 1 = 0 := rfl
theorem cum_13 (y : Int) : cum y 13 = 365 + lp y := by simp [cum]
theorem cum_mono (y : Int) {m k : Int} (h : m ≤ k) : cum y m ≤ cum y k := by
  have := lp_ge y; have := lp_le y
  unfold cum; omega
theorem first_1 (y : Int) : first y 1 = beg y := by simp [first, cum_1]
theorem first_13 (y : Int) : first y 13 = beg (y + 1) := by simp [first, cum_13, beg_succ]; omega
theorem first_succ (y m : Int) (h1 : 1 ≤ m) (h2 : m ≤ 12) : first y (m + 1) = first y m + mlen y m := by
  unfold first; rw [cum_succ y m h1 h2]; omega
theorem first_le (y : Int) {m k : Int} (h : m ≤ k) : first y m ≤ first y k := by
  unfold first; have := cum_mono y h; omega
theorem first_lo (y m : Int) : beg y ≤ first y m := by unfold first; have := cum_bd y m; omega
theorem first_hi (y m : Int) (h1 : 1 ≤ m) (h2 : m ≤ 12) : first y m + mlen y m ≤ beg (y + 1) := by
  rw [← first_succ y m h1 h2, ← first_13]; exact first_le y (by omega)

/-- y, m, d is the date of a day. -/
structure IsDate (y m d day : Int) : Prop where
  m1 : 1 ≤ m
  m2 : m ≤ 12
  d1 : 1 ≤ d
  d2 : d ≤ mlen y m
  day : first y m + d - 1 = day
theorem IsDate.lo {y m d day : Int} (h : IsDate y m d day) : beg y ≤ day := by
  have := first_lo y m; have := h.day; have := h.d1; omega
theorem IsDate.hi {y m d day : Int} (h : IsDate y m d day) : day < beg (y + 1) := by
  have := first_hi y m h.m1 h.m2; have := h.day; have := h.d2; omega
theorem year_unique {y y' day : Int} (a : beg y ≤ day) (b : day < beg (y + 1)) (a' : beg y' ≤ day) (b' : day < beg (y' + 1)) : y = y' := by
  rcases Int.lt_trichotomy y y' with h | h | h
  · have := beg_mono (a := y + 1) (b := y') (by omega); omega
  · exact h
  · have := beg_mono (a := y' + 1) (b := y) (by omega); omega
theorem month_unique {y m m' day : Int} (a : first y m ≤ day) (b : day < first y (m + 1)) (a' : first y m' ≤ day) (b' : day < first y (m' + 1)) : m = m' := by
  rcases Int.lt_trichotomy m m' with h | h | h
  · have := first_le y (m := m + 1) (k := m') (by omega); omega
  · exact h
  · have := first_le y (m := m' + 1) (k := m) (by omega); omega
theorem IsDate.unique {y m d y' m' d' day : Int} (h : IsDate y m d day) (h' : IsDate y' m' d' day) : y = y' ∧ m = m' ∧ d = d' := by
  obtain rfl := year_unique h.lo h.hi h'.lo h'.hi
  have e1 := h.day; have e2 := h'.day
  have := h.d1; have := h.d2; have := h'.d1; have := h'.d2
  have s1 := first_succ y m h.m1 h.m2
  have s2 := first_succ y m' h'.m1 h'.m2
  obtain rfl := month_unique (y := y) (m := m) (m' := m') (day := day) (by omega) (by omega) (by omega) (by omega)
  exact ⟨rfl, rfl, by omega⟩

/-! The date of a day, as a function. -/
def yearUp : Nat → Int → Int → Int
  | 0, _, y => y
  | n + 1, day, y => if beg (y + 1) ≤ day then yearUp n day (y + 1) else y
def monthUp : Nat → Int → Int → Int → Int
  | 0, _, _, m => m
  | n + 1, day, y, m => if first y (m + 1) ≤ day then monthUp n day y (m + 1) else m
def dY (day : Int) : Int := yearUp 600 day (1800 + day / 366)
def dM (day : Int) : Int := monthUp 12 day (dY day) 1
def dD (day : Int) : Int := day - first (dY day) (dM day) + 1
theorem yearUp_spec (n : Nat) (day y : Int) (a : beg y ≤ day) (b : day < beg (y + n + 1)) : beg (yearUp n day y) ≤ day ∧ day < beg (yearUp n day y + 1) := by
  induction n generalizing y with
  | zero => exact ⟨a, by simpa [yearUp] using b⟩
  | succ n ih =>
    unfold yearUp
    split
    · exact ih (y + 1) (by assumption) (by rw [show y + 1 + (n : Int) + 1 = y + ((n + 1 : Nat) : Int) + 1 by omega]; exact b)
    · exact ⟨a, by omega⟩
theorem monthUp_spec (n : Nat) (day y m : Int) (m1 : 1 ≤ m) (m2 : m + n = 13) (a : first y m ≤ day) (b : day < beg (y + 1)) (hn : 0 < n) :
    first y (monthUp n day y m) ≤ day ∧ day < first y (monthUp n day y m + 1) ∧ 1 ≤ monthUp n day y m ∧ monthUp n day y m ≤ 12 := by
  induction n generalizing m with
  | zero => omega
  | succ n ih =>
    unfold monthUp
    split
    · rename_i h
      rcases Nat.eq_zero_or_pos n with h0 | h0
      · subst h0
        have : m = 12 := by omega
        subst this
        have : first y (12 + 1) = beg (y + 1) := first_13 y
        omega
      · exact ih (m + 1) (by omega) (by omega) (by assumption) h0
    · exact ⟨a, by omega, m1, by omega⟩
theorem beg_guess (day : Int) (h : 0 ≤ day) : beg (1800 + day / 366) ≤ day := by unfold beg; omega
theorem beg_2348 : beg 2348 = 200152 := by decide
theorem year_hi (y day : Int) (h : beg y ≤ day) (h2 : day ≤ 200000) : y ≤ 2347 := by
  apply Classical.byContradiction; intro hn
  have := beg_mono (a := 2348) (b := y) (by omega)
  rw [beg_2348] at this; omega
theorem month_hi (y m day : Int) (hb : day < beg (y + 1)) (hm : m ≤ 12) (h : mlen y m ≤ day - beg y - cum y m) (h1 : 1 ≤ m) : m ≤ 11 := by
  apply Classical.byContradiction; intro hn
  obtain rfl : m = 12 := by omega
  have h13 := first_succ y 12 (by omega) (by omega)
  rw [show (12 : Int) + 1 = 13 from rfl, first_13] at h13
  unfold first at h13; omega
theorem year_lo (day : Int) (h : 0 ≤ day) : 1800 ≤ 1800 + day / 366 := by omega
theorem beg_guess_hi (day : Int) (h : 0 ≤ day) (h2 : day ≤ 210000) : day < beg (1800 + day / 366 + 600 + 1) := by unfold beg; omega
theorem date_spec (day : Int) (h : 0 ≤ day) (h2 : day ≤ 210000) : IsDate (dY day) (dM day) (dD day) day := by
  obtain ⟨a, b⟩ := yearUp_spec 600 day (1800 + day / 366) (beg_guess day h) (beg_guess_hi day h h2)
  obtain ⟨c, d, e, f⟩ := monthUp_spec 12 day (dY day) 1 (by omega) (by omega) (by rw [first_1]; exact a) b (by omega)
  exact ⟨e, f, by unfold dD; have : first (dY day) (dM day) ≤ day := c; omega, by
    have : day < first (dY day) (dM day + 1) := d
    have s := first_succ (dY day) (dM day) e f
    unfold dD; omega, by unfold dD; omega⟩
theorem date_eq {y m d day : Int} (h : IsDate y m d day) (h0 : 0 ≤ day) (h2 : day ≤ 210000) : dY day = y ∧ dM day = m ∧ dD day = d := (date_spec day h0 h2).unique h
theorem date_of (y m day : Int) (h0 : 0 ≤ day) (h2 : day ≤ 200000) (m1 : 1 ≤ m) (m2 : m ≤ 12) (ha : 0 ≤ day - beg y - cum y m) (hb : day - beg y - cum y m < mlen y m) :
    y = dY day ∧ m = dM day ∧ day - beg y - cum y m + 1 = dD day := by
  obtain ⟨a, b, c⟩ := date_eq (y := y) (m := m) (d := day - beg y - cum y m + 1) (day := day) ⟨m1, m2, by omega, by omega, by unfold first; omega⟩ h0 (by omega)
  exact ⟨a.symm, b.symm, c.symm⟩
theorem date_of' (y m day : Int) (h0 : 0 ≤ day) (h2 : day ≤ 200000) (m1 : 1 ≤ m) (m2 : m ≤ 12) (ha : first y m ≤ day) (hb : day < first y (m + 1)) :
    y = dY day ∧ m = dM day ∧ day - first y m + 1 = dD day := by
  rw [first_succ y m m1 m2] at hb
  obtain ⟨a, b, c⟩ := date_eq (y := y) (m := m) (d := day - first y m + 1) (day := day) ⟨m1, m2, by omega, by omega, by omega⟩ h0 (by omega)
  exact ⟨a.symm, b.symm, c.symm⟩
theorem first_bd (y m : Int) (h : 1800 ≤ y) (h2 : y ≤ 3000) : 0 ≤ first y m ∧ first y m ≤ 440000 := by
  have a := beg_mono h
  have b := beg_mono h2
  have c := cum_bd y m
  rw [beg_1800] at a
  have e3 : beg 3000 = 438291 := by decide
  unfold first; omega
theorem dY_bd (day : Int) (h : 0 ≤ day) (h2 : day ≤ 200000) : 1800 ≤ dY day ∧ dY day ≤ 2347 := by
  have hd := date_spec day h (by omega)
  have a := hd.lo; have b := hd.hi
  constructor
  · apply Classical.byContradiction; intro hn
    have := beg_mono (a := dY day + 1) (b := 1800) (by omega)
    rw [beg_1800] at this; omega
  · apply Classical.byContradiction; intro hn
    have := beg_mono (a := 2348) (b := dY day) (by omega)
    have : beg 2348 = 200152 := by decide
    omega

/-! Easter. -/
def eG (y : Int) : Int := (y / 100 - (y / 100 + 8) / 25 + 1) / 3
def eH (y : Int) : Int := (19 * (y % 19) + y / 100 - y / 100 / 4 - eG y + 15) % 30
def eL (y : Int) : Int := (32 + 2 * (y / 100 % 4) + 2 * (y % 100 / 4) - eH y - y % 100 % 4) % 7
def eM (y : Int) : Int := (y % 19 + 11 * eH y + 22 * eL y) / 451
def eN (y : Int) : Int := eH y + eL y - 7 * eM y + 114
def easter (y : Int) : Int := first y (eN y / 31) + eN y % 31
theorem eH_bd (y : Int) : 0 ≤ eH y ∧ eH y ≤ 29 := by unfold eH; omega
theorem eL_bd (y : Int) : 0 ≤ eL y ∧ eL y ≤ 6 := by unfold eL; omega
theorem eM_bd (y : Int) : 0 ≤ eM y ∧ eM y ≤ 1 := by have := eH_bd y; have := eL_bd y; unfold eM; omega
theorem eN_bd (y : Int) : 114 ≤ eN y ∧ eN y ≤ 149 := by
  have := eH_bd y; have := eL_bd y
  have h : eM y = (y % 19 + 11 * eH y + 22 * eL y) / 451 := rfl
  unfold eN; omega
end Go.Proofs.YtconnjkkgaapbaaGreatDoor.Cal
namespace Go.Proofs.YtconnjkkgaapbaaGreatDoor
open Go Go.RowKit

theorem within_any (n lo hi : Int) (w : World) :
    Calls Tryz.prog 86 #[.int .i64 n, .int .i64 lo, .int .i64 hi] w fun e w' => e = .returned (.bool (decide (lo ≤ n) && decide (n ≤ hi))) ∧ w = w' := by
  by_cases h1 : lo ≤ n
  · by_cases h2 : n ≤ hi
    all_goals
      go_enter Tryz.func86, Tryz.ntmps86
      go_wp2
      go_ret
      exact ⟨by simp; omega, rfl⟩
  · go_enter Tryz.func86, Tryz.ntmps86
    go_wp2
    go_ret
    exact ⟨by simp; omega, rfl⟩
theorem Within_any (n lo hi : Int) (w : World) :
    Calls Tryz.prog 41 #[.int .i64 n, .int .i64 lo, .int .i64 hi] w fun e w' => e = .returned (.bool (decide (lo ≤ n) && decide (n ≤ hi))) ∧ w = w' := by
  by_cases h1 : lo ≤ n
  · by_cases h2 : n ≤ hi
    all_goals
      go_enter Tryz.func41, Tryz.ntmps41
      go_wp2
      go_ret
      exact ⟨by simp; omega, rfl⟩
  · go_enter Tryz.func41, Tryz.ntmps41
    go_wp2
    go_ret
    exact ⟨by simp; omega, rfl⟩
theorem isDay_any (n : Int) (w : World) :
    Calls Tryz.prog 74 #[.int .i64 n] w fun e w' => e = .returned (.bool (decide (0 ≤ n) && decide (n ≤ 200000))) ∧ w = w' := by
  go_enter Tryz.func74, Tryz.ntmps74
  go_wp2_with (go_at_call 86; refine (within_any _ _ _ _).mono ?_; rintro e w' ⟨rfl, rfl⟩)
  go_ret
  exact ⟨rfl, rfl⟩
theorem isLeap_any (y : Int) (h0 : 0 ≤ y) (w : World) :
    Calls Tryz.prog 136 #[.int .i64 y] w fun e w' => e = .returned (.bool (Cal.leapB y)) ∧ w = w' := by
  by_cases h1 : y % 4 = 0
  · by_cases h2 : y % 100 = 0
    · by_cases h3 : y % 400 = 0
      all_goals
        go_enter Tryz.func136, Tryz.ntmps136
        go_wp2
        go_ret
        exact ⟨by simp [Cal.leapB, h1, h2, h3], rfl⟩
    · go_enter Tryz.func136, Tryz.ntmps136
      go_wp2
      go_ret
      exact ⟨by simp [Cal.leapB, h1, h2], rfl⟩
  · go_enter Tryz.func136, Tryz.ntmps136
    go_wp2
    go_ret
    exact ⟨by simp [Cal.leapB, h1], rfl⟩
theorem leap_any (y : Int) (h0 : 0 ≤ y) (w : World) :
    Calls Tryz.prog 130 #[.int .i64 y] w fun e w' => e = .returned (.bool (Cal.leapB y)) ∧ w = w' := by
  by_cases h1 : y % 4 = 0
  · by_cases h2 : y % 100 = 0
    · by_cases h3 : y % 400 = 0
      all_goals
        go_enter Tryz.func130, Tryz.ntmps130
        go_wp2
        go_ret
        exact ⟨by simp [Cal.leapB, h1, h2, h3], rfl⟩
    · go_enter Tryz.func130, Tryz.ntmps130
      go_wp2
      go_ret
      exact ⟨by simp [Cal.leapB, h1, h2], rfl⟩
  · by_cases h3 : y % 400 = 0
    · omega
    · go_enter Tryz.func130, Tryz.ntmps130
      go_wp2
      go_ret
      exact ⟨by simp [Cal.leapB, h1, h3], rfl⟩
theorem begin_any (y : Int) (w : World) (h0 : 1 ≤ y) (h1 : y ≤ 100000) :
    Calls Tryz.prog 122 #[.int .i64 y] w fun e w' => e = .returned (.int .i64 (Cal.beg y)) ∧ w = w' := by
  go_enter Tryz.func122, Tryz.ntmps122
  go_wp2
  go_ret
  exact ⟨rfl, rfl⟩
theorem length_any (y m : Int) (h0 : 0 ≤ y) (m1 : 1 ≤ m) (m2 : m ≤ 12) (w : World) (hT : Tab w) :
    Calls Tryz.prog 115 #[.int .i64 y, .int .i64 m] w fun e w' => e = .returned (.int .i64 (Cal.mlen y m)) ∧ w = w' := by
  have h : m = 1 ∨ m = 2 ∨ m = 3 ∨ m = 4 ∨ m = 5 ∨ m = 6 ∨ m = 7 ∨ m = 8 ∨ m = 9 ∨ m = 10 ∨ m = 11 ∨ m = 12 := by omega
  have hc := hT.cell
  have c0 := hc 0 (by decide); have c1 := hc 1 (by decide); have c2 := hc 2 (by decide); have c3 := hc 3 (by decide)
  have c4 := hc 4 (by decide); have c5 := hc 5 (by decide); have c6 := hc 6 (by decide); have c7 := hc 7 (by decide)
  have c8 := hc 8 (by decide); have c9 := hc 9 (by decide); have c10 := hc 10 (by decide); have c11 := hc 11 (by decide)
  simp only [lenTab, List.getD_cons_zero, List.getD_cons_succ] at c0 c1 c2 c3 c4 c5 c6 c7 c8 c9 c10 c11
  clear hc hT m1 m2
  rcases h with rfl | rfl | rfl | rfl | rfl | rfl | rfl | rfl | rfl | rfl | rfl | rfl
  case inr.inl =>
    cases hl : Cal.leapB y
    all_goals
      go_enter Tryz.func115, Tryz.ntmps115
      go_wp2_with (go_at_call 136; refine (isLeap_any _ (by omega) _).mono ?_; rintro e w' ⟨rfl, rfl⟩)
      go_ret
      exact ⟨by simp [Cal.mlen, Cal.lp, hl], rfl⟩
  all_goals
    go_enter Tryz.func115, Tryz.ntmps115
    go_wp2_with fail
    go_ret
    exact ⟨by simp [Cal.mlen], rfl⟩
end Go.Proofs.YtconnjkkgaapbaaGreatDoor
namespace Go.Proofs.YtconnjkkgaapbaaGreatDoor
open Go Go.RowKit


theorem dayOf_any (y m d : Int) (y0 : 1800 ≤ y) (y1 : y ≤ 3000) (m1 : 1 ≤ m) (m2 : m ≤ 12) (d0 : -100000 ≤ d) (d1 : d ≤ 100000) (w : World) (hT : Tab w) :
    Calls Tryz.prog 116 #[.int .i64 y, .int .i64 m, .int .i64 d] w fun e w' => e = .returned (.int .i64 (Cal.first y m + d - 1)) ∧ w = w' := by
  have hb := Cal.beg_mono y0
  have hb2 := Cal.beg_mono y1
  rw [Cal.beg_1800] at hb
  have e3 : Cal.beg 3000 = 438291 := by decide
  rw [e3] at hb2
  clear e3
  have hT' := Lib.hid hT; clear hT
  go_enter Tryz.func116, Tryz.ntmps116
  go_wp2_with (go_at_call 122; refine (begin_any _ _ (by omega) (by omega)).mono ?_; rintro e w' ⟨rfl, rfl⟩)
  go_loop [7, 8] (fun n i => ∃ k : Int, 1 ≤ k ∧ k ≤ m ∧ i = .int .i64 k ∧ n = .int .i64 (Cal.beg y + d - 1 + Cal.cum y k)) (fun _ i => (m - intOf i).toNat)
  case atStart => exact ⟨1, by omega, by omega, rfl, by simp [Cal.cum_1]⟩
  case round =>
    obtain ⟨k, k1, k2, rfl, rfl⟩ := hrel
    have cb := Cal.cum_bd y k
    by_cases hlt : k < m
    · have cs := Lib.hid (Cal.cum_succ y k (by omega) (by omega))
      have mb := Cal.mlen_bd y k
      go_wp2_with (go_at_call 115; refine (length_any _ _ (by omega) (by omega) (by omega) _ hT'.out).mono ?_; rintro e w' ⟨rfl, rfl⟩)
      go_round
      case rel => exact ⟨k + 1, by omega, by omega, rfl, by rw [cs.out]; go_num⟩
      case measure => simp [intOf]; omega
    · obtain rfl : k = m := by omega
      go_wp2
      go_ret
      exact ⟨ret_int (by unfold Cal.first; omega), rfl⟩

set_option maxHeartbeats 400000 in
theorem dateOf_any (day : Int) (y0 : 0 ≤ day) (y1 : day ≤ 200000) (w : World) (hT : Tab w) :
    Calls Tryz.prog 101 #[.int .i64 day] w fun e w' => e = .returned (.agg #[.int .i64 (Cal.dY day), .int .i64 (Cal.dM day), .int .i64 (Cal.dD day)]) ∧ Below w.heap.size w w' := by
  have hT' := Lib.hid hT; clear hT
  have g0 := Cal.beg_guess day y0
  have g1 := Cal.year_lo day y0
  go_enter Tryz.func101, Tryz.ntmps101
  go_wp2
  go_loopg [] 600 (fun k wr => ∃ y : Int, 1800 ≤ y ∧ y + k ≤ 3000 ∧ 2348 ≤ y + k ∧ Cal.beg y ≤ day ∧ wr = (w.alloc (.cells #[.int .i64 0, .int .i64 0, .int .i64 0] 147)).alloc (.cells #[.int .i64 y, .int .i64 1, .int .i64 0] 147))
  case atStart => exact ⟨_, g1, by omega, by omega, g0, rfl⟩
  case round =>
    obtain ⟨y, hy, hk, hk2, hb, rfl⟩ := hrel
    clear g0 g1
    have hyh := Cal.year_hi y day hb y1
    have hb0 := Cal.beg_mono hy
    rw [Cal.beg_1800] at hb0
    have hbs := Cal.beg_lt (a := y) (b := y + 1) (by omega)
    by_cases hlt : Cal.beg (y + 1) ≤ day
    · have hyh2 := Cal.year_hi (y + 1) day hlt y1
      go_wp2_with (go_at_call 122; refine (begin_any _ _ (by omega) (by omega)).mono ?_; rintro e w' ⟨rfl, rfl⟩)
      go_roundg (gk - 1)
      case measure => omega
      case rel => exact ⟨y + 1, by omega, by omega, by omega, hlt, rfl⟩
    · have hT2 := Lib.hid (fun o1 o2 => hT'.out.below (((Below.refl _ w).alloc (Nat.le_refl _) o1).alloc (by simp) o2))
      go_wp2_with (go_at_call 122; refine (begin_any _ _ (by omega) (by omega)).mono ?_; rintro e w' ⟨rfl, rfl⟩)
      go_loopg [0] 12 (fun k v wr => ∃ m : Int, 1 ≤ m ∧ m ≤ 12 ∧ m + k = 13 ∧ 0 ≤ day - Cal.beg y - Cal.cum y m ∧ v = .int .i64 (day - Cal.beg y - Cal.cum y m) ∧ wr = (w.alloc (.cells #[.int .i64 0, .int .i64 0, .int .i64 0] 147)).alloc (.cells #[.int .i64 y, .int .i64 m, .int .i64 0] 147))
      case atStart => exact ⟨1, by omega, by omega, by omega, by rw [Cal.cum_1]; omega, by rw [Cal.cum_1]; simp, rfl⟩
      case round =>
        obtain ⟨m, m1, m2, mk, hr, rfl, rfl⟩ := hrel
        have hcb := Cal.cum_bd y m
        have hmb := Cal.mlen_bd y m
        have mk2 := Lib.hid mk
        clear mk
        by_cases hge : Cal.mlen y m ≤ day - Cal.beg y - Cal.cum y m
        · have hm11 := Cal.month_hi y m day (by omega) m2 hge m1
          have hcs := Lib.hid (Cal.cum_succ y m m1 m2)
          go_wp2_with (go_at_call 115; refine (length_any _ _ (by omega) m1 m2 _ (hT2.out _ _)).mono ?_; rintro e w' ⟨rfl, rfl⟩)
          go_roundg (gk - 1)
          case measure => have := mk2.out; omega
          case rel => exact ⟨m + 1, by omega, by omega, by have := mk2.out; omega, by rw [hcs.out]; omega, by rw [hcs.out]; go_num, rfl⟩
        · obtain ⟨ey, em, ed⟩ := Cal.date_of y m day y0 y1 m1 m2 hr (by omega)
          have hfin := Lib.hid (And.intro ey (And.intro em ed))
          clear ey em ed
          go_wp2_with (go_at_call 115; refine (length_any _ _ (by omega) m1 m2 _ (hT2.out _ _)).mono ?_; rintro e w' ⟨rfl, rfl⟩)
          refine bodyPost_ret (v := .agg #[.int .i64 y, .int .i64 m, .int .i64 (day - Cal.beg y - Cal.cum y m + 1)]) (by simp [results, Tryz.results101, go_sem]) rfl ⟨?_, ?_⟩
          · obtain ⟨ey, em, ed⟩ := hfin.out
            rw [ey, em] at ed ⊢; rw [ed]
          · exact ((Below.refl _ _).alloc (Nat.le_refl _) _).alloc (by simp) _
end Go.Proofs.YtconnjkkgaapbaaGreatDoor
