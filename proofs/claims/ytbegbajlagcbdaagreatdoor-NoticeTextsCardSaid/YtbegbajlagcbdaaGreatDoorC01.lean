/- Chapter 8 and what it rests on: definitions and walks, part 01. -/
import Derived.Test.YtbegbajlagcbdaaGreatDoorRows
import Derived.WalkKit
import Derived.WalkSpells
import Derived.WalkLawsBesides
import Derived.ProofKit
import Derived.Lib.Hide
import Derived.Below
import Derived.LoopTactic
import Derived.Deep.LoopGhost
import Derived.Deep.Draws
import Derived.Deep.QuietTactic
import Derived.BigQuiet
import Derived.Deep.DeepFit
import Derived.Outline
import Derived.IntWalk
import Derived.ChangeSame
import Derived.Test.YtbegbajlagcbdaaGreatDoorTie
import Derived.Test.YtbegbajlagcbdaaGreatDoorCards
import Derived.RangeFuncOwn
import Derived.Deep.Slices
import Derived.Deep.Fields
import Derived.WideKeyArgs
import Derived.Lib.SmallJoins
import Derived.Deep.DeepHandedRow
import Derived.Lib.LaidTab
import Derived.OpenShut
import Derived.Carry
namespace Go.Proofs.YtbegbajlagcbdaaGreatDoor
open Go Go.RowKit Go.WideShapes Go.ChangeShapes

theorem ret_int {k : IntKind} {a b : Int} (h : a = b) : Ending.returned (.int k a) = .returned (.int k b) := by rw [h]
theorem ret_bool {a b : Bool} (h : a = b) : Ending.returned (.bool a) = .returned (.bool b) := by rw [h]
theorem ret_int2 {k l : IntKind} {a b c d : Int} (h : a = b) (h2 : c = d) : Ending.returned (.tuple #[.int k a, .int l c]) = .returned (.tuple #[.int k b, .int l d]) := by rw [h, h2]
theorem bcell {W w1 : World} (hb : Below W.heap.size W w1) : (∀ b o, b < W.heap.size → w1.cell? ⟨b, o, none⟩ = W.cell? ⟨b, o, none⟩) ∧ (∀ b o, b < W.heap.size → w1.frozen? ⟨b, o, none⟩ = W.frozen? ⟨b, o, none⟩) :=
  ⟨fun b o h => hb.cell (p := ⟨b, o, none⟩) h, fun b o h => hb.frozen (p := ⟨b, o, none⟩) h⟩
theorem below_drewN {B : Nat} {a w : World} (h : Below B a w) (n : Nat) : Below B a (w.drewN n) := ⟨h.os, h.tape, h.output, h.size, h.block⟩
theorem below_of_drewN {w w' : World} {n : Nat} (h : Below (w.drewN n).heap.size (w.drewN n) w') : Below w.heap.size w w' := ⟨h.os, h.tape, h.output, h.size, h.block⟩
theorem below_step {w a b : World} (h : Below w.heap.size w a) (k : Below a.heap.size a b) : Below w.heap.size w b := h.trans (k.mono h.size)
theorem below_alloc (w : World) (o : Obj) : Below w.heap.size w (w.alloc o) := (Below.refl _ _).alloc (Nat.le_refl _) o
theorem quiet_left {P : Program} {f : FuncId} {args : Array Value} {w : World} {n : Nat} {v : Value}
    (h : Calls P f args (w.drewN n) fun e w' => e = .returned v ∧ w.drewN n = w') : Calls P f args (w.drewN n) fun e w'' => e = .returned v ∧ ∃ m, w'' = w.drewN m :=
  h.mono fun _ _ ⟨he, hm⟩ => ⟨he, n, hm.symm⟩
theorem quiet_add_left {P : Program} {f : FuncId} {args : Array Value} {w : World} {a n : Nat} {v : Value}
    (h : Calls P f args (w.drewN (a + n)) fun e w' => e = .returned v ∧ w.drewN (a + n) = w') :
    Calls P f args (w.drewN (a + n)) fun e w'' => e = .returned v ∧ ∃ m, w'' = w.drewN (a + m) :=
  h.mono fun _ _ ⟨he, hm⟩ => ⟨he, n, hm.symm⟩
theorem calls_in {P : Program} {f : FuncId} {args : Array Value} {w : World} {p q : Prop} [Decidable p] [Decidable q] (h : Calls P f args w fun e w' => e = .returned (.bool (decide p && decide q)) ∧ w = w') (hp : p) (hq : q) :
    Calls P f args w fun e w' => e = .returned (.bool true) ∧ w = w' := h.mono fun _ _ ⟨he, hw⟩ => ⟨by rw [he]; simp [hp, hq], hw⟩
theorem calls_out {P : Program} {f : FuncId} {args : Array Value} {w : World} {p q : Prop} [Decidable p] [Decidable q] (h : Calls P f args w fun e w' => e = .returned (.bool (decide p && decide q)) ∧ w = w') (hn : ¬ (p ∧ q)) :
    Calls P f args w fun e w' => e = .returned (.bool false) ∧ w = w' := h.mono fun _ _ ⟨he, hw⟩ => ⟨by rw [he]; congr 2; by_cases hp : p <;> by_cases hq : q <;> simp_all, hw⟩
section
variable {f : FuncId} {args : Array Value} {w : World} {K : Ending → World → Prop} {p q : Prop} {dp : Decidable p} {dq : Decidable q}
/-! The callees that tell whether a number lies between two others: what each returns is found among the contracts by name. -/
theorem rin (k : K (.returned (.bool true)) w) (h : Calls Tryz.prog f args w fun e w' => e = .returned (.bool (decide p && decide q)) ∧ w = w' := by first | exact within_any _ _ _ _ | exact Within_any _ _ _ _ | exact isDay_any _ _ | exact IsDay_any _ _ | exact IsYear_any _ _ | exact IsFull_any _ _ | exact isFull_any _ _ | exact nwithin_any _ _ _ _) (hp : p := by omega) (hq : q := by omega) : Calls Tryz.prog f args w K :=
  (calls_in h hp hq).mono fun e w' ⟨he, hw⟩ => by subst he hw; exact k
theorem rout (k : K (.returned (.bool false)) w) (h : Calls Tryz.prog f args w fun e w' => e = .returned (.bool (decide p && decide q)) ∧ w = w' := by first | exact within_any _ _ _ _ | exact Within_any _ _ _ _ | exact isDay_any _ _ | exact IsDay_any _ _ | exact IsYear_any _ _ | exact IsFull_any _ _ | exact isFull_any _ _ | exact nwithin_any _ _ _ _) (hn : ¬ (p ∧ q) := by omega) : Calls Tryz.prog f args w K :=
  (calls_out h hn).mono fun e w' ⟨he, hw⟩ => by subst he hw; exact k
theorem rany (k : K (.returned (.bool (decide p && decide q))) w) (h : Calls Tryz.prog f args w fun e w' => e = .returned (.bool (decide p && decide q)) ∧ w = w' := by first | exact within_any _ _ _ _ | exact Within_any _ _ _ _ | exact isDay_any _ _ | exact IsDay_any _ _ | exact IsYear_any _ _ | exact IsFull_any _ _ | exact isFull_any _ _ | exact nwithin_any _ _ _ _) : Calls Tryz.prog f args w K :=
  h.mono fun e w' ⟨he, hw⟩ => by subst he hw; exact k
variable {n : Nat}
theorem qin (h : Calls Tryz.prog f args (w.drewN n) fun e w' => e = .returned (.bool (decide p && decide q)) ∧ w.drewN n = w' := by first | exact within_any _ _ _ _ | exact Within_any _ _ _ _ | exact isDay_any _ _ | exact IsDay_any _ _ | exact IsYear_any _ _ | exact IsFull_any _ _ | exact isFull_any _ _ | exact nwithin_any _ _ _ _) (hp : p := by omega) (hq : q := by omega) : Calls Tryz.prog f args (w.drewN n) fun e w'' => e = .returned (.bool true) ∧ ∃ m, w'' = w.drewN m := quiet_left (calls_in h hp hq)
theorem qout (h : Calls Tryz.prog f args (w.drewN n) fun e w' => e = .returned (.bool (decide p && decide q)) ∧ w.drewN n = w' := by first | exact within_any _ _ _ _ | exact Within_any _ _ _ _ | exact isDay_any _ _ | exact IsDay_any _ _ | exact IsYear_any _ _ | exact IsFull_any _ _ | exact isFull_any _ _ | exact nwithin_any _ _ _ _) (hn : ¬ (p ∧ q) := by omega) : Calls Tryz.prog f args (w.drewN n) fun e w'' => e = .returned (.bool false) ∧ ∃ m, w'' = w.drewN m := quiet_left (calls_out h hn)
theorem qany (h : Calls Tryz.prog f args (w.drewN n) fun e w' => e = .returned (.bool (decide p && decide q)) ∧ w.drewN n = w' := by first | exact within_any _ _ _ _ | exact Within_any _ _ _ _ | exact isDay_any _ _ | exact IsDay_any _ _ | exact IsYear_any _ _ | exact IsFull_any _ _ | exact isFull_any _ _ | exact nwithin_any _ _ _ _) : Calls Tryz.prog f args (w.drewN n) fun e w'' => e = .returned (.bool (decide p && decide q)) ∧ ∃ m, w'' = w.drewN m := quiet_left h
end
theorem blw {B : Nat} {a w : World} (h : Below B a w := by (repeat (first | assumption | exact Below.refl _ _ | exact below_alloc _ _ | refine below_drewN ?_ _ | refine Below.drew ?_ | (refine Below.setCell ?_ ?_ _; rotate_left; focus (first | omega | (simp; done) | (simp; omega))) | (refine Below.alloc ?_ ?_ _; rotate_left; focus (first | omega | (simp; done) | (simp; omega)))))) : Below B a w := h
section
variable {H : Type} {enc : TypeId × Value → H} {P : Program}
/-- The row's last step, where 'Below' alone is known of the world behind the call. -/
theorem post_of_below {f : Func} {s : ChangeSpec} {apart fresh handsOn again : Bool} {W W' : World} {args : Array Value} {v : Value} {ds gs : List (DataW H)} {before pa pv : List MemPlace}
    (hW : DataW.Whole enc P f.params.toList s.vars apart W args.toList ds gs before)
    (hres : ∀ (b : Nat) (sp : Nat → Bool) (hd : Bool), DataW.TrodAll enc P W' b sp hd f.resultTypes.toList (v.resultList f.resultTypes.size) (s.fn H (ds ++ gs)).results [])
    (hargs : ∀ sp : Nat → Bool, (∀ p ∈ before, sp p.block = true) → DataW.TrodAll enc P W' 0 sp true f.params.toList args.toList (s.fn H (ds ++ gs)).args pa)
    (hvars : ∀ sp : Nat → Bool, (∀ p ∈ before, sp p.block = true) → DataW.TrodVars enc P W' sp s.vars (s.fn H (ds ++ gs)).vars pv)
    (hps : before = pa ++ pv) (hb : Below W.heap.size W W')
    (hok : ∀ (j : Nat) (t : TypeId) (r : Value), f.resultTypes[j]? = some t → (v.resultList f.resultTypes.size)[j]? = some r → Value.okWide P W' .any 0 t r) :
    s.post enc P f apart fresh handsOn again W args v W' := by
  have hlt : ∀ p ∈ before, p.block < W.heap.size := fun p hp => hW.lt p hp
  have hold : ∀ p ∈ before, (fun b => decide (b < W.heap.size)) p.block = true := fun p hp => by simpa using hlt p hp
  refine ⟨ds, gs, before, [], pa, pv, hW, hres _ _ _, hargs _ hold, hvars _ hold, World.keptBut_mono (fun p hp => ⟨hp, ?_⟩) (hb.frame (· ∈ before)), fun _ => ?_⟩
  · rw [hps, List.mem_append] at hp
    exact Or.inr hp
  · obtain ⟨_, _, _, _, _, hz, hn⟩ := hW
    refine ⟨hok, _, _, ([] ++ pa) ++ pv, ⟨[] ++ pa, pv, trodAll_append (hargs _ (fun _ _ => rfl)) (hres _ _ _), hvars _ (fun _ _ => rfl), rfl, ?_, ?_⟩, ?_⟩
    · intro b off hp
      have hin : MemPlace.cell b off ∈ before := by rw [hps]; simpa using hp
      rw [hb.frozen (hlt _ hin)]
      exact hz b off hin
    · intro ha
      have := hn ha
      rw [hps] at this
      simpa using this
    · intro p hp _
      rw [hps]
      simpa using hp
end

/-- The table of the lengths, as its initialiser lays it. -/
def lenTab : List Int := [31, 28, 31, 30, 31, 30, 31, 31, 30, 31, 30, 31]
structure Tab (w : World) : Prop where
  lt : 0 < w.heap.size
  cell : ∀ i : Nat, i < 12 → w.cell? ⟨0, i, none⟩ = some (.int .i64 (lenTab.getD i 0))
theorem Tab.below {w w' : World} (h : Tab w) (hb : Below w.heap.size w w') : Tab w' :=
  ⟨Nat.lt_of_lt_of_le h.lt hb.size, fun i hi => (hb.cell (p := ⟨0, i, none⟩) h.lt).trans (h.cell i hi)⟩
theorem Tab.alloc {w : World} (h : Tab w) (o : Obj) : Tab (w.alloc o) := h.below (below_alloc w o)
theorem Tab.drewN {w : World} (h : Tab w) (n : Nat) : Tab (w.drewN n) := ⟨h.lt, h.cell⟩
theorem Tab.drew {w : World} (h : Tab w) : Tab w.drew := ⟨h.lt, h.cell⟩
end Go.Proofs.YtbegbajlagcbdaaGreatDoor
namespace Go.Proofs.YtbegbajlagcbdaaGreatDoor
open Go Go.RowKit

/-- A slice's elements: rows of m cells, from an address on. -/
def RowsAt (w : World) (A : Option Addr) (m : Nat) (rows : List (List Value)) : Prop :=
  ∀ k r, rows[k]? = some r → ∃ b o, A = some ⟨b, o, none⟩ ∧ b < w.heap.size ∧ ∀ j v, r[j]? = some v → w.cell? ⟨b, o + (k * m + j), none⟩ = some v
theorem RowsAt.below {w w' : World} {A : Option Addr} {m : Nat} {rows : List (List Value)} (h : RowsAt w A m rows) (hb : Below w.heap.size w w') : RowsAt w' A m rows := fun k r hr => by
  obtain ⟨b, o, hA, hlt, hc⟩ := h k r hr
  exact ⟨b, o, hA, Nat.lt_of_lt_of_le hlt hb.size, fun j v hv => (hb.cell (p := ⟨b, o + (k * m + j), none⟩) hlt).trans (hc j v hv)⟩
theorem RowsAt.alloc {w : World} {A : Option Addr} {m : Nat} {rows : List (List Value)} (h : RowsAt w A m rows) (o : Obj) : RowsAt (w.alloc o) A m rows := h.below (below_alloc w o)
theorem RowsAt.drewN {w : World} {A : Option Addr} {m : Nat} {rows : List (List Value)} (h : RowsAt w A m rows) (n : Nat) : RowsAt (w.drewN n) A m rows := h
theorem RowsAt.nil (w : World) (A : Option Addr) (m : Nat) : RowsAt w A m [] := fun k r hr => by simp at hr

structure Prov where
  name : ByteArray
  value : Int
  fr : Int
  en : Int
  repeal : Bool
structure Hol where
  name : ByteArray
  kind : Int
  month : Int
  day : Int
  weekday : Int
def Prov.cells (p : Prov) : List Value := [.string p.name, .int .i64 p.value, .int .i64 p.fr, .int .i64 p.en, .bool p.repeal]
def Hol.cells (p : Hol) : List Value := [.string p.name, .int .i64 p.kind, .int .i64 p.month, .int .i64 p.day, .int .i64 p.weekday]
/-- A slice that reads as a list of provisions. -/
structure Provs (w : World) (A : Option Addr) (l : List Prov) : Prop where
  rows : RowsAt w A 5 (l.map Prov.cells)
  size : l.length ≤ 9223372036854775807
  names : ∀ (k : Nat) p, l[k]? = some p → p.name.size ≤ maxLen
structure Hols (w : World) (A : Option Addr) (l : List Hol) : Prop where
  rows : RowsAt w A 5 (l.map Hol.cells)
  size : l.length ≤ 9223372036854775807
  names : ∀ (k : Nat) p, l[k]? = some p → p.name.size ≤ maxLen
theorem Provs.below {w w' : World} {A : Option Addr} {l : List Prov} (h : Provs w A l) (hb : Below w.heap.size w w') : Provs w' A l := ⟨h.rows.below hb, h.size, h.names⟩
theorem Hols.below {w w' : World} {A : Option Addr} {l : List Hol} (h : Hols w A l) (hb : Below w.heap.size w w') : Hols w' A l := ⟨h.rows.below hb, h.size, h.names⟩
theorem Provs.drewN {w : World} {A : Option Addr} {l : List Prov} (h : Provs w A l) (n : Nat) : Provs (w.drewN n) A l := ⟨h.rows, h.size, h.names⟩
theorem Hols.drewN {w : World} {A : Option Addr} {l : List Hol} (h : Hols w A l) (n : Nat) : Hols (w.drewN n) A l := ⟨h.rows, h.size, h.names⟩
theorem Hols.nil (w : World) (A : Option Addr) : Hols w A [] := ⟨RowsAt.nil _ _ _, by simp, fun k p h => by simp at h⟩
/-- One element: where it lies, and its cells. -/
theorem Provs.at_ {w : World} {A : Option Addr} {l : List Prov} (h : Provs w A l) {k : Nat} {p : Prov} (hk : l[k]? = some p) :
    ∃ b o, A = some ⟨b, o, none⟩ ∧ b < w.heap.size ∧ w.cell? ⟨b, o + k * 5, none⟩ = some (.string p.name) ∧ w.cell? ⟨b, o + k * 5 + 1, none⟩ = some (.int .i64 p.value) ∧ w.cell? ⟨b, o + k * 5 + 2, none⟩ = some (.int .i64 p.fr) ∧ w.cell? ⟨b, o + k * 5 + 3, none⟩ = some (.int .i64 p.en) ∧ w.cell? ⟨b, o + k * 5 + 4, none⟩ = some (.bool p.repeal) := by
  obtain ⟨b, o, hA, hlt, hc⟩ := h.rows k p.cells (by simp [hk])
  exact ⟨b, o, hA, hlt, hc 0 _ rfl, hc 1 _ rfl, hc 2 _ rfl, hc 3 _ rfl, hc 4 _ rfl⟩
theorem Hols.at_ {w : World} {A : Option Addr} {l : List Hol} (h : Hols w A l) {k : Nat} {p : Hol} (hk : l[k]? = some p) :
    ∃ b o, A = some ⟨b, o, none⟩ ∧ b < w.heap.size ∧ w.cell? ⟨b, o + k * 5, none⟩ = some (.string p.name) ∧ w.cell? ⟨b, o + k * 5 + 1, none⟩ = some (.int .i64 p.kind) ∧ w.cell? ⟨b, o + k * 5 + 2, none⟩ = some (.int .i64 p.month) ∧ w.cell? ⟨b, o + k * 5 + 3, none⟩ = some (.int .i64 p.day) ∧ w.cell? ⟨b, o + k * 5 + 4, none⟩ = some (.int .i64 p.weekday) := by
  obtain ⟨b, o, hA, hlt, hc⟩ := h.rows k p.cells (by simp [hk])
  exact ⟨b, o, hA, hlt, hc 0 _ rfl, hc 1 _ rfl, hc 2 _ rfl, hc 3 _ rfl, hc 4 _ rfl⟩
end Go.Proofs.YtbegbajlagcbdaaGreatDoor
namespace Go.Proofs.YtbegbajlagcbdaaGreatDoor
open Go Go.RowKit Go.ChangeShapes Go.WideShapes Go.Deep

theorem own : ownKnob Tryz.prog.godebug = none := by kernel_rfl
theorem laidOut : laidOutB Tryz.prog = true := by kernel_rfl
theorem gLen : Tryz.prog.globalNamed "mortsafe/rule.lengths" = some 0 := by kernel_rfl
theorem gLenType : (Tryz.prog.globals[0]?).map (·.type) = some 274 := by kernel_rfl
theorem cellsLen : Tryz.prog.cellsOf 274 = 12 := by kernel_rfl
theorem cellsInt : Tryz.prog.cellsOf 3 = 1 := by kernel_rfl
theorem tab_of {W : World} (h : laidMetH Tryz.prog [("mortsafe/rule.lengths", Rows.laid_mortsafe_rule_lengths)] W) : Tab W := by
  have ht : Lib.TabIs Tryz.prog W "mortsafe/rule.lengths" .i64 lenTab := Lib.tabIs_of_head (rest := []) gLen gLenType Tryz.underlying274 Tryz.underlying3 cellsInt cellsLen h
  have hc : ∀ i : Nat, i < 12 → W.cell? ⟨0, i, none⟩ = some (.int .i64 (lenTab.getD i 0)) := fun i hi => ht.cell gLen i (by simpa [lenTab] using hi)
  refine ⟨?_, hc⟩
  have := hc 0 (by decide)
  unfold World.cell? at this
  rcases Nat.lt_or_ge 0 W.heap.size with h | h
  · exact h
  · rw [Array.getElem?_eq_none h] at this; cases this

/-- A list out of its elements. -/
theorem list_of {α : Type} {Q : Nat → α → Prop} : ∀ n : Nat, (∀ i, i < n → ∃ p, Q i p) → ∃ l : List α, l.length = n ∧ ∀ (i : Nat) p, l[i]? = some p → Q i p
  | 0, _ => ⟨[], rfl, fun i p h => by simp at h⟩
  | n + 1, h => by
    obtain ⟨l, hl, hq⟩ := list_of n (fun i hi => h i (by omega))
    obtain ⟨p, hp⟩ := h n (by omega)
    refine ⟨l ++ [p], by simp [hl], fun i q hi => ?_⟩
    rw [List.getElem?_append] at hi
    split at hi
    · exact hq i q hi
    · have : i = n := by
        have := (List.getElem?_eq_some_iff.1 hi).1
        simp at this; omega
      subst this
      rw [hl] at hi; simp at hi; subst hi; exact hp
theorem addr_plain {w : World} {a : Addr} {k : Nat} {v : Value} (h : w.cell? (a.add k) = some v) (h0 : ∃ u, w.cell? (a.add 0) = some u) : a = ⟨a.block, a.off, none⟩ := by
  obtain ⟨u, h0⟩ := h0
  have := World.cell?_spot (show w.cell? a = some u by simpa [Addr.add] using h0)
  cases a; simp at this; subst this; rfl
section
variable {H : Type} {enc : TypeId × Value → H} {w : World} {spare : Nat → Bool} {held : Bool}
/-- The elements' cells of a slice of structs whose fields are a cell each. -/
theorem rows_of_open {t e : TypeId} {fs : Array Field} {fuel : Nat} {cs : List Value} {x : DataW H × List MemPlace} (ht : Tryz.prog.underlying t = some (.slice e)) (he : Tryz.prog.underlying e = some (.struct fs))
    (hone : oneCellFields Tryz.prog fs = true) (hC : Tryz.prog.cellsOf e = fs.size) (hpos : 0 < fs.size) (h : DataW.trod enc Tryz.prog w 0 spare held fuel t cs = some x) :
    ∃ (A : Option Addr) (len cap : Nat), cs = [.slice A len cap] ∧ len ≤ maxLen ∧ ∀ i, i < len → ∃ (b o n : Nat), A = some ⟨b, o, none⟩ ∧ b < w.heap.size ∧
      ∀ (j : Nat) (f : Field), fs[j]? = some f → ∃ (v : Value) (y : DataW H × List MemPlace), w.cell? ⟨b, o + (i * fs.size + j), none⟩ = some v ∧ DataW.trod enc Tryz.prog w 0 spare held n f.type [v] = some y := by
  rcases open_slice ht h with ⟨h0, _⟩ | ⟨a, len, cap, m, n, D, Pl, hcs, hb, hl, hm, hmm, hx, hi⟩
  · exact ⟨none, 0, 0, h0, by unfold maxLen; omega, fun i hi => by omega⟩
  · refine ⟨some a, len, cap, hcs, by omega, fun i him => ?_⟩
    have hlm : len ≤ m := by rw [hmm]; split <;> omega
    obtain ⟨cs', hc, ht'⟩ := hi i (by omega)
    obtain ⟨cs0, hc0, _⟩ := hi 0 (by omega)
    rw [hC] at hc hc0
    obtain ⟨ys, n', hn', hy, hlen, hyl, hf⟩ := DataW.trod_struct he ht'
    obtain ⟨hcl0, hcl1, hat⟩ := World.cells?_some hc
    obtain ⟨_, hcl01, hat0⟩ := World.cells?_some hc0
    have hz : ∃ u, w.cell? (a.add 0) = some u := by
      have h1 := hat0 0 hpos
      have hlen0 : 0 < cs0.length := by omega
      rw [List.getElem?_eq_getElem hlen0] at h1
      exact ⟨_, by simpa [Addr.add] using h1⟩
    have ha : a = ⟨a.block, a.off, none⟩ := by obtain ⟨u, hu⟩ := hz; exact addr_plain hu ⟨u, hu⟩
    refine ⟨a.block, a.off, n', by rw [← ha], ?_, fun j f hj => ?_⟩
    · obtain ⟨u, hu⟩ := hz
      obtain ⟨o, ho, _⟩ := cells_of_cell hu
      have := (Array.getElem?_eq_some_iff.1 ho).1
      simpa [Addr.add] using this
    · obtain ⟨ho, hk⟩ := hone_of hone j f hj
      have hjl : j < fs.size := (Array.getElem?_eq_some_iff.1 hj).1
      have hcell := hat j hjl
      have hlt : j < cs'.length := by omega
      have hv : cs'[j]? = some cs'[j] := List.getElem?_eq_getElem hlt
      have h1 := hf j f hj
      rw [ho, hk] at h1
      have hone' : (cs'.drop j).take 1 = [cs'[j]] := by rw [List.drop_eq_getElem_cons hlt]; rfl
      rw [hone'] at h1
      refine ⟨cs'[j], ys[j]'(by omega), ?_, h1.trans (List.getElem?_eq_getElem (by omega))⟩
      rw [hv, ha] at hcell
      rw [← hcell, Go.Deep.add_add, ← Go.WideShapes.add_plain]
end
section
variable {H : Type} {enc : TypeId × Value → H} {w : World} {spare : Nat → Bool} {held : Bool} {r : Reach} {b0 : Nat} {v : Value} {d : DataW H} {ps : List MemPlace}
set_option maxRecDepth 100000 in
theorem provs_of_open (hval : Value.okWide Tryz.prog w r b0 79 v) (h : DataW.Trod enc Tryz.prog w 0 spare held 79 v d ps) :
    ∃ (A : Option Addr) (l : List Prov) (c : Nat), v = .slice A l.length c ∧ Provs w A l := by
  obtain ⟨A, len, cap, rfl⟩ := okWide_slice Tryz.underlying79 hval
  obtain ⟨fuel, hf⟩ := h
  obtain ⟨A', len', cap', hcs, hlen, hq⟩ := rows_of_open Tryz.underlying79 Tryz.underlying71 (by kernel_rfl) (by kernel_rfl) (by decide) hf
  have he : A = A' ∧ len = len' ∧ cap = cap' := by simpa [Value.cells] using hcs
  obtain ⟨rfl, rfl, rfl⟩ := he
  have h1 : ∀ i, i < len → ∃ p : Prov, p.name.size ≤ maxLen ∧ ∃ b o, A = some ⟨b, o, none⟩ ∧ b < w.heap.size ∧ ∀ j v, p.cells[j]? = some v → w.cell? ⟨b, o + (i * 5 + j), none⟩ = some v := fun i hi => by
    obtain ⟨b, o, n, hA, hb, hf⟩ := hq i hi
    obtain ⟨v0, y0, c0, t0⟩ := hf 0 _ rfl
    obtain ⟨v1, y1, c1, t1⟩ := hf 1 _ rfl
    obtain ⟨v2, y2, c2, t2⟩ := hf 2 _ rfl
    obtain ⟨v3, y3, c3, t3⟩ := hf 3 _ rfl
    obtain ⟨v4, y4, c4, t4⟩ := hf 4 _ rfl
    obtain ⟨s0, e0, _, g0⟩ := DataW.trod_string Tryz.underlying9 t0
    obtain ⟨s1, e1, _, _⟩ := DataW.trod_int Tryz.underlying3 t1
    obtain ⟨s2, e2, _, _⟩ := DataW.trod_int Tryz.underlying3 t2
    obtain ⟨s3, e3, _, _⟩ := DataW.trod_int Tryz.underlying3 t3
    obtain ⟨s4, e4, _⟩ := DataW.trod_bool Tryz.underlying4 t4
    cases e0; cases e1; cases e2; cases e3; cases e4
    refine ⟨⟨s0, s1, s2, s3, s4⟩, g0, b, o, hA, hb, fun j v hv => ?_⟩
    match j, hv with
    | 0, hv => cases hv; exact c0
    | 1, hv => cases hv; exact c1
    | 2, hv => cases hv; exact c2
    | 3, hv => cases hv; exact c3
    | 4, hv => cases hv; exact c4
    | j + 5, hv => simp [Prov.cells] at hv
  obtain ⟨l, hl, hq'⟩ := list_of len h1
  subst hl
  refine ⟨A, l, cap, rfl, ⟨fun k r hr => ?_, by unfold maxLen at hlen; omega, fun k p hp => (hq' k p hp).1⟩⟩
  rw [List.getElem?_map] at hr
  cases hk : l[k]? with
  | none => rw [hk] at hr; cases hr
  | some p => rw [hk] at hr; cases hr; exact (hq' k p hk).2
set_option maxRecDepth 100000 in
theorem hols_of_open (hval : Value.okWide Tryz.prog w r b0 45 v) (h : DataW.Trod enc Tryz.prog w 0 spare held 45 v d ps) :
    ∃ (A : Option Addr) (l : List Hol) (c : Nat), v = .slice A l.length c ∧ Hols w A l := by
  obtain ⟨A, len, cap, rfl⟩ := okWide_slice Tryz.underlying45 hval
  obtain ⟨fuel, hf⟩ := h
  obtain ⟨A', len', cap', hcs, hlen, hq⟩ := rows_of_open Tryz.underlying45 Tryz.underlying202 (by kernel_rfl) (by kernel_rfl) (by decide) hf
  have he : A = A' ∧ len = len' ∧ cap = cap' := by simpa [Value.cells] using hcs
  obtain ⟨rfl, rfl, rfl⟩ := he
  have h1 : ∀ i, i < len → ∃ p : Hol, p.name.size ≤ maxLen ∧ ∃ b o, A = some ⟨b, o, none⟩ ∧ b < w.heap.size ∧ ∀ j v, p.cells[j]? = some v → w.cell? ⟨b, o + (i * 5 + j), none⟩ = some v := fun i hi => by
    obtain ⟨b, o, n, hA, hb, hf⟩ := hq i hi
    obtain ⟨v0, y0, c0, t0⟩ := hf 0 _ rfl
    obtain ⟨v1, y1, c1, t1⟩ := hf 1 _ rfl
    obtain ⟨v2, y2, c2, t2⟩ := hf 2 _ rfl
    obtain ⟨v3, y3, c3, t3⟩ := hf 3 _ rfl
    obtain ⟨v4, y4, c4, t4⟩ := hf 4 _ rfl
    obtain ⟨s0, e0, _, g0⟩ := DataW.trod_string Tryz.underlying9 t0
    obtain ⟨s1, e1, _, _⟩ := DataW.trod_int Tryz.underlying3 t1
    obtain ⟨s2, e2, _, _⟩ := DataW.trod_int Tryz.underlying3 t2
    obtain ⟨s3, e3, _, _⟩ := DataW.trod_int Tryz.underlying3 t3
    obtain ⟨s4, e4, _, _⟩ := DataW.trod_int Tryz.underlying3 t4
    cases e0; cases e1; cases e2; cases e3; cases e4
    refine ⟨⟨s0, s1, s2, s3, s4⟩, g0, b, o, hA, hb, fun j v hv => ?_⟩
    match j, hv with
    | 0, hv => cases hv; exact c0
    | 1, hv => cases hv; exact c1
    | 2, hv => cases hv; exact c2
    | 3, hv => cases hv; exact c3
    | 4, hv => cases hv; exact c4
    | j + 5, hv => simp [Hol.cells] at hv
  obtain ⟨l, hl, hq'⟩ := list_of len h1
  subst hl
  refine ⟨A, l, cap, rfl, ⟨fun k r hr => ?_, by unfold maxLen at hlen; omega, fun k p hp => (hq' k p hp).1⟩⟩
  rw [List.getElem?_map] at hr
  cases hk : l[k]? with
  | none => rw [hk] at hr; cases hr
  | some p => rw [hk] at hr; cases hr; exact (hq' k p hk).2
set_option maxRecDepth 100000 in
theorem pair_of_open (hval : Value.okWide Tryz.prog w r b0 49 v) (h : DataW.Trod enc Tryz.prog w 0 spare held 49 v d ps) :
    ∃ (x y : Int), v = .agg #[.int .i64 x, .int .i64 y] ∧ (Lit.int .i64 x).wf = true ∧ (Lit.int .i64 y).wf = true := by
  have hu := Tryz.underlying49
  unfold Value.okWide at hval
  rw [hu] at hval
  obtain ⟨cs, rfl, hcs, _⟩ := hval
  obtain ⟨fuel, hf⟩ := h
  obtain ⟨xs, m, _, _, hlen, hxl, hi⟩ := DataW.trod_array hu hf
  have h0 := hi 0 (by decide)
  have h1 := hi 1 (by decide)
  rw [show Tryz.prog.cellsOf 3 = 1 by kernel_rfl] at h0 h1
  rw [show Tryz.prog.cellsOf 49 = 2 by kernel_rfl] at hcs
  obtain ⟨l⟩ := cs
  match l, hcs with
  | [a, b], _ =>
    match xs, hxl with
    | [y0, y1], _ =>
      simp [Value.cells] at h0 h1
      obtain ⟨s0, e0, _, g0⟩ := DataW.trod_int Tryz.underlying3 h0
      obtain ⟨s1, e1, _, g1⟩ := DataW.trod_int Tryz.underlying3 h1
      cases e0; cases e1
      exact ⟨s0, s1, rfl, g0, g1⟩
theorem trod_cells {t : TypeId} {fs : Array Field} {fuel : Nat} {cs : List Value} {x : DataW H × List MemPlace} (ht : Tryz.prog.underlying t = some (.struct fs)) (hone : oneCellFields Tryz.prog fs = true)
    (h : DataW.trod enc Tryz.prog w 0 spare held fuel t cs = some x) :
    ∃ (n : Nat) (xs : List (DataW H × List MemPlace)), cs.length = Tryz.prog.cellsOf t ∧ xs.length = fs.size ∧ ∀ (j : Nat) (f : Field), fs[j]? = some f → DataW.trod enc Tryz.prog w 0 spare held n f.type ((cs.drop j).take 1) = xs[j]? := by
  obtain ⟨xs, m, _, _, hlen, hxl, hi⟩ := DataW.trod_struct ht h
  refine ⟨m, xs, hlen, hxl, fun j f hj => ?_⟩
  obtain ⟨ho, hk⟩ := hone_of hone j f hj
  have := hi j f hj
  rwa [ho, hk] at this
set_option maxRecDepth 100000 in
theorem date_of_open (hval : Value.okWide Tryz.prog w r b0 156 v) (h : DataW.Trod enc Tryz.prog w 0 spare held 156 v d ps) :
    ∃ (x y z : Int), v = .agg #[.int .i64 x, .int .i64 y, .int .i64 z] ∧ (Lit.int .i64 x).wf = true ∧ (Lit.int .i64 y).wf = true ∧ (Lit.int .i64 z).wf = true := by
  have hu := Tryz.underlying156
  unfold Value.okWide at hval
  rw [hu] at hval
  obtain ⟨cs, rfl, hcs, _⟩ := hval
  obtain ⟨fuel, hf⟩ := h
  obtain ⟨m, xs, hlen, hxl, hi⟩ := trod_cells hu (by kernel_rfl) hf
  have h0 := hi 0 _ rfl
  have h1 := hi 1 _ rfl
  have h2 := hi 2 _ rfl
  rw [show Tryz.prog.cellsOf 156 = 3 by kernel_rfl] at hcs
  obtain ⟨l⟩ := cs
  match l, hcs with
  | [a, b, c], _ =>
    match xs, hxl with
    | [y0, y1, y2], _ =>
      simp [Value.cells] at h0 h1 h2
      obtain ⟨s0, e0, _, g0⟩ := DataW.trod_int Tryz.underlying3 h0
      obtain ⟨s1, e1, _, g1⟩ := DataW.trod_int Tryz.underlying3 h1
      obtain ⟨s2, e2, _, g2⟩ := DataW.trod_int Tryz.underlying3 h2
      cases e0; cases e1; cases e2
      exact ⟨s0, s1, s2, rfl, g0, g1, g2⟩
end
section
variable {H : Type} {enc : TypeId × Value → H}
theorem trodAll_stays {W W' : World} {sp' : Nat → Bool} : ∀ {ts : List TypeId} {vs : List Value} {ds : List (DataW H)} {ps : List MemPlace}, (∀ t ∈ ts, Tryz.prog.readableRec t = true ∧ t < Tryz.prog.types.size) →
    DataW.TrodAll enc Tryz.prog W 0 (fun _ => true) true ts vs ds ps → (∀ p ∈ ps, W.sameAt W' p) → (∀ p ∈ ps, sp' p.block = true) → DataW.TrodAll enc Tryz.prog W' 0 sp' true ts vs ds ps
  | [], vs, ds, ps, _, h, _, _ => by
    obtain ⟨rfl, rfl, rfl⟩ := trodAll_nil h
    exact rfl
  | t :: ts, vs, ds, ps, ht, h, hs, hp => by
    obtain ⟨v0, vs0, d0, ds0, p0, q0, rfl, rfl, rfl, h0, r0⟩ := trodAll_cons h
    have h1 := ht t (List.mem_cons_self ..)
    exact ⟨p0, q0, WideElems.Trod_stays laidOut h1.1 h1.2 h0 (fun p hm => hs p (List.mem_append_left _ hm)) (fun p hm => hp p (List.mem_append_left _ hm)),
      trodAll_stays (fun t hm => ht t (List.mem_cons_of_mem _ hm)) r0 (fun p hm => hs p (List.mem_append_right _ hm)) (fun p hm => hp p (List.mem_append_right _ hm)), rfl⟩
set_option maxRecDepth 100000 in
/-- The last step of every row of this kind: true, and the arguments as they were. -/
theorem post_true {f : Func} {s : ChangeSpec} {W W' : World} {args : Array Value} {ds gs : List (DataW H)} {before : List MemPlace} (hvars : s.vars = []) (hres : f.resultTypes = #[4])
    (hpar : ∀ t ∈ f.params.toList, Tryz.prog.readableRec t = true ∧ t < Tryz.prog.types.size)
    (hW : DataW.Whole enc Tryz.prog f.params.toList s.vars false W args.toList ds gs before) (hs : s.fn H (ds ++ gs) = { results := [.lit (.bool true)], args := ds }) (hb : Below W.heap.size W W') :
    s.post enc Tryz.prog f false true false false W args (.bool true) W' := by
  have hW' := hW
  have hlt : ∀ p ∈ before, p.block < W.heap.size := fun p hp => hW'.lt p hp
  obtain ⟨p, q, hA, hV, rfl, hfz, hnd⟩ := hW
  rw [hvars] at hV
  obtain ⟨rfl, rfl⟩ := trodVars_none hV
  simp only [List.append_nil] at hs hW' hlt
  refine post_of_below (pa := p) (pv := []) (ds := ds) (gs := []) (before := p) hW' ?_ ?_ ?_ (by simp) hb ?_
  · intro b sp hd
    rw [List.append_nil, hs, hres]
    exact trodAll_cons_mk (shut_bool Tryz.underlying4 _) trodAll_mk0
  · intro sp hsp
    rw [List.append_nil, hs]
    exact trodAll_stays hpar hA (fun x hx => hb.same (hlt x hx)) hsp
  · intro sp _
    rw [hvars, List.append_nil, hs]
    rfl
  · exact ok_one hres rfl (okWide_bool_mk Tryz.underlying4 _)
end
/-- A WORLD FOR THE WITNESS: the settled one, the table holding what its initialiser lays. -/
noncomputable def laidWorld (os : Os) : World :=
  { World.holding Tryz.prog os ⟨#[], #[], []⟩ with heap := (World.holding Tryz.prog os ⟨#[], #[], []⟩).heap.modify 0 fun
      | .cells _ t frozen => .cells #[.int .i64 31, .int .i64 28, .int .i64 31, .int .i64 30, .int .i64 31, .int .i64 30, .int .i64 31, .int .i64 31, .int .i64 30, .int .i64 31, .int .i64 30, .int .i64 31] t frozen
      | o => o }
end Go.Proofs.YtbegbajlagcbdaaGreatDoor
namespace Go.Proofs.YtbegbajlagcbdaaGreatDoor
open Go Go.RowKit Go.ChangeShapes Go.WideShapes Go.Deep
section
variable {H : Type} {enc : TypeId × Value → H} {w : World} {spare : Nat → Bool} {held : Bool} {r : Reach} {b0 : Nat} {v : Value} {d : DataW H} {ps : List MemPlace}
set_option maxRecDepth 100000 in
theorem prov_of_open (hval : Value.okWide Tryz.prog w r b0 71 v) (h : DataW.Trod enc Tryz.prog w 0 spare held 71 v d ps) :
    ∃ p : Prov, v = .agg #[.string p.name, .int .i64 p.value, .int .i64 p.fr, .int .i64 p.en, .bool p.repeal] ∧ p.name.size ≤ maxLen := by
  have hu := Tryz.underlying71
  unfold Value.okWide at hval
  rw [hu] at hval
  obtain ⟨cs, rfl, hcs, _⟩ := hval
  obtain ⟨fuel, hf⟩ := h
  obtain ⟨m, xs, hlen, hxl, hi⟩ := trod_cells hu (by kernel_rfl) hf
  have h0 := hi 0 _ rfl
  have h1 := hi 1 _ rfl
  have h2 := hi 2 _ rfl
  have h3 := hi 3 _ rfl
  have h4 := hi 4 _ rfl
  rw [show Tryz.prog.cellsOf 71 = 5 by kernel_rfl] at hcs
  obtain ⟨l⟩ := cs
  match l, hcs with
  | [a, b, c, e, f], _ =>
    match xs, hxl with
    | [y0, y1, y2, y3, y4], _ =>
      simp [Value.cells] at h0 h1 h2 h3 h4
      obtain ⟨s0, e0, _, g0⟩ := DataW.trod_string Tryz.underlying9 h0
      obtain ⟨s1, e1, _, _⟩ := DataW.trod_int Tryz.underlying3 h1
      obtain ⟨s2, e2, _, _⟩ := DataW.trod_int Tryz.underlying3 h2
      obtain ⟨s3, e3, _, _⟩ := DataW.trod_int Tryz.underlying3 h3
      obtain ⟨s4, e4, _⟩ := DataW.trod_bool Tryz.underlying4 h4
      cases e0; cases e1; cases e2; cases e3; cases e4
      exact ⟨⟨s0, s1, s2, s3, s4⟩, rfl, g0⟩
set_option maxRecDepth 100000 in
theorem period_of_open (hval : Value.okWide Tryz.prog w r b0 44 v) (h : DataW.Trod enc Tryz.prog w 0 spare held 44 v d ps) :
    ∃ (x y : Int) (k : Bool), v = .agg #[.int .i64 x, .int .i64 y, .bool k] := by
  have hu := Tryz.underlying44
  unfold Value.okWide at hval
  rw [hu] at hval
  obtain ⟨cs, rfl, hcs, _⟩ := hval
  obtain ⟨fuel, hf⟩ := h
  obtain ⟨m, xs, hlen, hxl, hi⟩ := trod_cells hu (by kernel_rfl) hf
  have h0 := hi 0 _ rfl
  have h1 := hi 1 _ rfl
  have h2 := hi 2 _ rfl
  rw [show Tryz.prog.cellsOf 44 = 3 by kernel_rfl] at hcs
  obtain ⟨l⟩ := cs
  match l, hcs with
  | [a, b, c], _ =>
    match xs, hxl with
    | [y0, y1, y2], _ =>
      simp [Value.cells] at h0 h1 h2
      obtain ⟨s0, e0, _, g0⟩ := DataW.trod_int Tryz.underlying3 h0
      obtain ⟨s1, e1, _, g1⟩ := DataW.trod_int Tryz.underlying3 h1
      obtain ⟨s2, e2, _⟩ := DataW.trod_bool Tryz.underlying4 h2
      cases e0; cases e1; cases e2
      exact ⟨s0, s1, s2, rfl⟩
end
end Go.Proofs.YtbegbajlagcbdaaGreatDoor
namespace Go.Proofs.YtbegbajlagcbdaaGreatDoor
open Go Go.RowKit Go.ChangeShapes Go.WideShapes Go.Deep
theorem wf_bounds {n : Int} (h : (Lit.int .i64 n).wf = true) : -9223372036854775808 ≤ n ∧ n ≤ 9223372036854775807 := by
  simp only [Lit.wf, Bool.and_eq_true, decide_eq_true_eq] at h
  exact h
section
variable {H : Type} {enc : TypeId × Value → H} {w : World} {spare : Nat → Bool} {held : Bool} {r : Reach} {b0 : Nat} {v : Value} {d : DataW H} {ps : List MemPlace}
set_option maxRecDepth 100000 in
theorem prov_of_open2 (hval : Value.okWide Tryz.prog w r b0 71 v) (h : DataW.Trod enc Tryz.prog w 0 spare held 71 v d ps) :
    ∃ p : Prov, v = .agg #[.string p.name, .int .i64 p.value, .int .i64 p.fr, .int .i64 p.en, .bool p.repeal] ∧ p.name.size ≤ maxLen ∧ (Lit.int .i64 p.value).wf = true ∧ (Lit.int .i64 p.fr).wf = true ∧ (Lit.int .i64 p.en).wf = true := by
  have hu := Tryz.underlying71
  unfold Value.okWide at hval
  rw [hu] at hval
  obtain ⟨cs, rfl, hcs, _⟩ := hval
  obtain ⟨fuel, hf⟩ := h
  obtain ⟨m, xs, hlen, hxl, hi⟩ := trod_cells hu (by kernel_rfl) hf
  have h0 := hi 0 _ rfl
  have h1 := hi 1 _ rfl
  have h2 := hi 2 _ rfl
  have h3 := hi 3 _ rfl
  have h4 := hi 4 _ rfl
  rw [show Tryz.prog.cellsOf 71 = 5 by kernel_rfl] at hcs
  obtain ⟨l⟩ := cs
  match l, hcs with
  | [a, b, c, e, f], _ =>
    match xs, hxl with
    | [y0, y1, y2, y3, y4], _ =>
      simp [Value.cells] at h0 h1 h2 h3 h4
      obtain ⟨s0, e0, _, g0⟩ := DataW.trod_string Tryz.underlying9 h0
      obtain ⟨s1, e1, _, w1⟩ := DataW.trod_int Tryz.underlying3 h1
      obtain ⟨s2, e2, _, w2⟩ := DataW.trod_int Tryz.underlying3 h2
      obtain ⟨s3, e3, _, w3⟩ := DataW.trod_int Tryz.underlying3 h3
      obtain ⟨s4, e4, _⟩ := DataW.trod_bool Tryz.underlying4 h4
      cases e0; cases e1; cases e2; cases e3; cases e4
      exact ⟨⟨s0, s1, s2, s3, s4⟩, rfl, g0, w1, w2, w3⟩
end
end Go.Proofs.YtbegbajlagcbdaaGreatDoor
