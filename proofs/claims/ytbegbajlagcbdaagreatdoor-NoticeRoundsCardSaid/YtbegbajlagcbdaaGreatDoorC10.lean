/- Chapter 8 and what it rests on: definitions and walks, part 10. -/
import Derived.Test.YtbegbajlagcbdaaGreatDoorC01
import Derived.Laws.AppendOwnNone
import Derived.Deep.AppendLies
import Derived.Test.YtbegbajlagcbdaaGreatDoorC07
import Derived.Test.YtbegbajlagcbdaaGreatDoorC09
import Derived.Test.YtbegbajlagcbdaaGreatDoorC08
import Derived.Laws.OwnMore
import Derived.RangeFuncNested
import Derived.RangeFuncBound
import Derived.RangeFuncCalls
import Derived.RangeFuncLeaves
import Derived.Shelf.Abstract
import Derived.Shelf.RegionOpen
import Derived.OwnWalkIn
import Derived.TacticsInMore
import Derived.LoopNIn
import Derived.LoopIn
namespace Go.Proofs.YtbegbajlagcbdaaGreatDoor
open Go Go.RowKit

theorem flat_get {m : Nat} : ∀ {rows : List (List Value)} {k j : Nat} {r : List Value} {v : Value}, (∀ r ∈ rows, r.length = m) → rows[k]? = some r → r[j]? = some v → rows.flatten[k * m + j]? = some v
  | [], k, _, _, _, _, h, _ => by simp at h
  | q :: rows, 0, j, r, v, hw, h, hv => by
    simp only [List.getElem?_cons_zero, Option.some.injEq] at h
    subst h
    rw [List.flatten_cons, Nat.zero_mul, Nat.zero_add, List.getElem?_append_left (List.getElem?_eq_some_iff.1 hv).1, hv]
  | q :: rows, k + 1, j, r, v, hw, h, hv => by
    simp only [List.getElem?_cons_succ] at h
    have hq := hw q (List.mem_cons_self ..)
    have ih := flat_get (fun r hr => hw r (List.mem_cons_of_mem _ hr)) h hv
    rw [List.flatten_cons, List.getElem?_append_right (by rw [hq, Nat.succ_mul]; omega), hq, show (k + 1) * m + j - m = k * m + j by rw [Nat.succ_mul]; omega, ih]
theorem flat_len {m : Nat} : ∀ {rows : List (List Value)}, (∀ r ∈ rows, r.length = m) → rows.flatten.length = rows.length * m
  | [], _ => by simp
  | q :: rows, hw => by
    rw [List.flatten_cons, List.length_append, hw q (List.mem_cons_self ..), flat_len (fun r hr => hw r (List.mem_cons_of_mem _ hr)), List.length_cons, Nat.succ_mul]; omega
/-- What lies at a place of the flat list, as a row's cell. -/
theorem flat_of {m : Nat} (hm : 0 < m) {rows : List (List Value)} (hw : ∀ r ∈ rows, r.length = m) {i : Nat} {v : Value} (h : rows.flatten[i]? = some v) : ∃ r, rows[i / m]? = some r ∧ r[i % m]? = some v := by
  have hl := (List.getElem?_eq_some_iff.1 h).1
  rw [flat_len hw] at hl
  have hk : i / m < rows.length := Nat.div_lt_of_lt_mul (by rw [Nat.mul_comm]; exact hl)
  have hr := List.getElem?_eq_getElem hk
  have hlen := hw _ (List.getElem_mem hk)
  have hj : i % m < rows[i / m].length := by rw [hlen]; exact Nat.mod_lt _ hm
  refine ⟨_, hr, ?_⟩
  have h2 := flat_get hw hr (List.getElem?_eq_getElem hj)
  rw [Nat.mul_comm, Nat.div_add_mod] at h2
  rw [List.getElem?_eq_getElem hj, ← h2, h]

/-- A slice value of the call's own (its block from B on) that reads as rows. -/
structure OwnL (w : World) (B : Nat) (E : TypeId) (m : Nat) (v : Value) (rows : List (List Value)) : Prop where
  own : w.ownsRow B E m v rows.length rows.flatten
  wid : ∀ r ∈ rows, r.length = m
  one : ∀ r ∈ rows, ∀ u ∈ r, u.oneCell' = true
theorem addr_add (g j : Nat) (o : Nat) : (⟨g, o, none⟩ : Addr).add j = ⟨g, o + j, none⟩ := by unfold Addr.add; split <;> simp_all
theorem OwnL.form {w : World} {B : Nat} {E : TypeId} {m : Nat} {v : Value} {rows : List (List Value)} (h : OwnL w B E m v rows) : ∃ A c, v = .slice A rows.length c ∧ RowsAt w A m rows := by
  obtain ⟨hown, hw, _⟩ := h
  have hc := fun g (hg : v.ownBlock = some g) => hown.cells hg
  rcases hown.2 with ⟨rfl, h0⟩ | ⟨g, cap, cur, rfl, _, hg, _⟩
  · exact ⟨none, 0, by rw [h0], fun k r hr => by rw [List.eq_nil_of_length_eq_zero h0] at hr; simp at hr⟩
  · refine ⟨_, _, rfl, fun k r hr => ⟨g, 0, rfl, (Array.getElem?_eq_some_iff.1 hg).1, fun j u hu => ?_⟩⟩
    have := hc g rfl _ u (flat_get hw hr hu)
    rw [addr_add] at this
    exact this
theorem OwnL.nil (w : World) (B : Nat) (E : TypeId) (m : Nat) : OwnL w B E m (.slice none 0 0) [] := ⟨World.ownsRow_nil w B E m, fun r h => (by simp at h), fun r h => (by simp at h)⟩
theorem OwnL.made (w : World) (B : Nat) (E : TypeId) (m : Nat) (hb : B ≤ w.heap.size) : OwnL (w.alloc (.cells #[] E)) B E m (.slice (some ⟨w.heap.size, 0, none⟩) 0 0) [] :=
  ⟨World.ownsRow_made w #[] 0 hb (Nat.zero_le _) (by simp), fun r h => (by simp at h), fun r h => (by simp at h)⟩
theorem OwnL.less {w : World} {B B' : Nat} {E : TypeId} {m : Nat} {v : Value} {rows : List (List Value)} (h : OwnL w B E m v rows) (hB : B' ≤ B) : OwnL w B' E m v rows := by
  refine ⟨⟨h.own.1, ?_⟩, h.wid, h.one⟩
  rcases h.own.2 with h | ⟨g, cap, cur, h1, h2, h3⟩
  · exact .inl h
  · exact .inr ⟨g, cap, cur, h1, by omega, h3⟩
theorem OwnL.kept {w w' : World} {row : Option Nat} {B : Nat} {E : TypeId} {m : Nat} {v : Value} {rows : List (List Value)} (h : OwnL w B E m v rows) (hg : w.grownBy w' row) (hne : v.ownBlock = none ∨ v.ownBlock ≠ row) : OwnL w' B E m v rows :=
  ⟨h.own.kept hg hne, h.wid, h.one⟩
theorem OwnL.below {w w' : World} {B : Nat} {E : TypeId} {m : Nat} {v : Value} {rows : List (List Value)} (h : OwnL w B E m v rows) (hb : Below w.heap.size w w') : OwnL w' B E m v rows :=
  h.kept (row := none) ⟨hb.os, hb.tape, hb.output, hb.size, fun i hi _ => hb.block i hi⟩ (by cases v.ownBlock <;> simp)
theorem OwnL.lt {w : World} {B : Nat} {E : TypeId} {m : Nat} {v : Value} {rows : List (List Value)} (h : OwnL w B E m v rows) : ∀ g, v.ownBlock = some g → B ≤ g ∧ g < w.heap.size := h.own.lt
/-- What is known of an element's type. -/
structure Elem (P : Program) (t e : TypeId) (m bytes : Nat) : Prop where
  und : P.underlying t = some (.slice e)
  info : ∃ i z, P.info? e = some i ∧ i.zero = some z ∧ i.size = m ∧ i.bytes = bytes ∧ z.cells.size = m
  pos : 0 < m
theorem Elem.mk' {P : Program} {t e : TypeId} {m bytes : Nat} {z : Value} (hu : P.underlying t = some (.slice e)) (h : (P.info? e).map (fun i => (i.zero, i.size, i.bytes)) = some (some z, m, bytes)) (hz : z.cells.size = m) (hm : 0 < m) : Elem P t e m bytes := by
  obtain ⟨i, hi, h1, h2, h3⟩ := info_parts h
  exact ⟨hu, ⟨i, z, hi, h1, h2, h3, hz⟩, hm⟩
theorem run_append_none_any {P : Program} {w : World} (base : Nat) (t ty e : TypeId) (i : TypeInfo) (size c : Nat) (ht : P.underlying t = some (.slice e)) (hi : P.info? e = some i)
    (v : Value) (n : Nat) (xs : List Value) (hown : w.ownsRow base e size v n xs) :
    (Builtin.append_ #[t, t] ty #[v, .slice none 0 c]).run P w = .ok v w := by
  rcases hown.2 with ⟨rfl, rfl⟩ | ⟨g, cap, cur, rfl, _, _, hnc, _⟩
  · simp [Builtin.append_, run_underlying ht, sizeOf, typeInfo, hi, Builtin.lenOf, Builtin.firstCells]
  · simp [Builtin.append_, run_underlying ht, sizeOf, typeInfo, hi, Builtin.lenOf, Builtin.firstCells, hnc, storeCells]
theorem run_append_rows {P : Program} {t e : TypeId} {m bytes : Nat} (el : Elem P t e m bytes) (ty : TypeId) {w : World} {B : Nat} {v : Value} {rows : List (List Value)} (h : OwnL w B e m v rows)
    {A : Option Addr} {n c : Nat} {rows2 : List (List Value)} (h2 : RowsAt w A m rows2) (hn : n = rows2.length) (hw : ∀ r ∈ rows2, r.length = m) (h1 : ∀ r ∈ rows2, ∀ u ∈ r, u.oneCell' = true)
    (h63 : rows.length + rows2.length ≤ 4000000000) (hby : bytes ≤ 10000) (hbase : B ≤ w.heap.size) :
    ∃ v' w', (Builtin.append_ #[t, t] ty #[v, .slice A n c]).run P w = .ok v' w' ∧ OwnL w' B e m v' (rows ++ rows2) ∧ w.grownBy w' v.ownBlock ∧ (v'.ownBlock = v.ownBlock ∨ v'.ownBlock = some w.heap.size) := by
  subst hn
  obtain ⟨i, z, hi, hz, hsize, hb, hzs⟩ := el.info
  have hwid : ∀ r ∈ rows ++ rows2, r.length = m := fun r hr => by rcases List.mem_append.1 hr with h' | h'; exact h.wid r h'; exact hw r h'
  have hone : ∀ r ∈ rows ++ rows2, ∀ u ∈ r, u.oneCell' = true := fun r hr => by rcases List.mem_append.1 hr with h' | h'; exact h.one r h'; exact h1 r h'
  have hml : 4000000000 * 10000 ≤ 140737488355328 := by decide
  have hbb : (rows.length + rows2.length) * bytes ≤ 140737488355328 := Nat.le_trans (Nat.mul_le_mul h63 hby) hml
  cases A with
  | none =>
    have h0 : rows2 = [] := by
      cases rows2 with
      | nil => rfl
      | cons q r => obtain ⟨b, o, hA, _⟩ := h2 0 q rfl; cases hA
    subst h0
    refine ⟨v, w, run_append_none_any (P := P) (w := w) B t ty e i m c el.und hi v _ _ h.own, ?_, ⟨rfl, rfl, rfl, Nat.le_refl _, fun _ _ _ => rfl⟩, .inl rfl⟩
    rw [List.append_nil]; exact h
  | some ad =>
    have hlen2 : rows2.flatten.length = rows2.length * m := flat_len hw
    have hnews : ∀ j u, rows2.flatten[j]? = some u → w.cell? (ad.add j) = some u := fun j u hu => by
      obtain ⟨r, hr, hru⟩ := flat_of el.pos hw hu
      obtain ⟨b, o, hA, _, hc⟩ := h2 _ r hr
      cases hA
      have := hc _ u hru
      rw [addr_add, ← this]
      rw [show j / m * m + j % m = j by rw [Nat.mul_comm]; exact Nat.div_add_mod ..]
    have hon : ∀ u ∈ rows2.flatten, u.oneCell' = true := fun u hu => by obtain ⟨r, hr, hur⟩ := List.mem_flatten.1 hu; exact h1 r hr u hur
    obtain ⟨v', w', hr, ho, hg, _, hob⟩ := run_append_own_at (P := P) w B t ty e i z m bytes el.und hi hz hsize hb hzs el.pos v rows.length rows.flatten h.own ad rows2.length c rows2.flatten hlen2 hnews hon (by unfold maxLen; omega) hbb hbase
    refine ⟨v', w', hr, ⟨?_, hwid, hone⟩, hg, hob⟩
    rw [List.length_append, List.flatten_append]; exact ho
theorem wp_of_append {P : Program} {w w' : World} {o : Oper} {a : Act} {K : Act → World → Prop} {Q : Exit → Act → World → Prop} (s x : Operand) (t : TypeId)
    (ho : o.op = .call { callee := .builtin .append, args := #[s, x], argTypes := #[t, t] }) {v u v' : Value} (hs : a.eval s = v) (hx : a.eval x = u)
    (hr : (Builtin.append_ #[t, t] o.type #[v, u]).run P w = .ok v' w') (h : K (a.put o.dst v') w') : o.wp P a w K Q := by
  unfold Oper.wp execOp
  simp only [ho, resolve, invoke, builtin, Sem.run_bind, Sem.run_pure, Result.andThen_ok, List.map_toArray, List.map_cons, List.map_nil, hs, hx, hr]
  exact h
/-- At the list of a plain region's operations. -/
theorem wpList_append_rows {P : Program} {t e : TypeId} {m bytes : Nat} (el : Elem P t e m bytes) {w : World} {ops : Array Oper} {rest : List Oper} {o : Oper} {a : Act} {Q : Exit → Act → World → Prop} (hgd : o.guard = none) (s x : Operand)
    (ho : o.op = .call { callee := .builtin .append, args := #[s, x], argTypes := #[t, t] }) {v : Value} {A : Option Addr} {n c : Nat} (hs : a.eval s = v) (hx : a.eval x = .slice A n c)
    {B : Nat} {rows : List (List Value)} (h : OwnL w B e m v rows) {rows2 : List (List Value)} (h2 : RowsAt w A m rows2) (hn : n = rows2.length) (hw : ∀ r ∈ rows2, r.length = m) (h1 : ∀ r ∈ rows2, ∀ u ∈ r, u.oneCell' = true)
    (h63 : rows.length + rows2.length ≤ 4000000000) (hby : bytes ≤ 10000) (hbase : B ≤ w.heap.size)
    (hK : ∀ v' w', OwnL w' B e m v' (rows ++ rows2) → w.grownBy w' v.ownBlock → (v'.ownBlock = v.ownBlock ∨ v'.ownBlock = some w.heap.size) → wpList P ops Q rest (a.put o.dst v') w') : wpList P ops Q (o :: rest) a w :=
  wpList_plain hgd fun _ hK' => by
    obtain ⟨v', w', hr, h3, h4, h5⟩ := run_append_rows el o.type h h2 hn hw h1 h63 hby hbase
    exact wp_of_append s x t ho hs hx hr (hK' _ _ (hK v' w' h3 h4 h5))
/-- At a step of a region that draws its order. -/
theorem step_append_rows {P : Program} {t e : TypeId} {m bytes : Nat} (el : Elem P t e m bytes) {w : World} {ops : Array Oper} {o : Oper} {a : Act} {K : Act → World → Prop} {Q : Exit → Act → World → Prop} {E : Prop} (hgd : o.guard = none) (s x : Operand)
    (ho : o.op = .call { callee := .builtin .append, args := #[s, x], argTypes := #[t, t] }) {v : Value} {A : Option Addr} {n c : Nat} (hs : a.eval s = v) (hx : a.eval x = .slice A n c)
    {B : Nat} {rows : List (List Value)} (h : OwnL w B e m v rows) {rows2 : List (List Value)} (h2 : RowsAt w A m rows2) (hn : n = rows2.length) (hw : ∀ r ∈ rows2, r.length = m) (h1 : ∀ r ∈ rows2, ∀ u ∈ r, u.oneCell' = true)
    (h63 : rows.length + rows2.length ≤ 4000000000) (hby : bytes ≤ 10000) (hbase : B ≤ w.heap.size)
    (hK : ∀ v' w', OwnL w' B e m v' (rows ++ rows2) → w.grownBy w' v.ownBlock → (v'.ownBlock = v.ownBlock ∨ v'.ownBlock = some w.heap.size) → K (a.put o.dst v') w') : if Region.wanted o (yielded ops a.tmps) = true then Oper.wp P o a w K Q else E := by
  have hwt : Region.wanted o (yielded ops a.tmps) = true := by simp [Region.wanted, hgd]
  rw [if_pos hwt]
  obtain ⟨v', w', hr, h3, h4, h5⟩ := run_append_rows el o.type h h2 hn hw h1 h63 hby hbase
  exact wp_of_append s x t ho hs hx hr (hK v' w' h3 h4 h5)
/-- A row that has just been laid into a block of its own. -/
theorem rowsAt_new (w : World) (r : List Value) (t : TypeId) : RowsAt (w.alloc (.cells r.toArray t)) (some ⟨w.heap.size, 0, none⟩) r.length [r] := fun k q hq => by
  match k, hq with
  | 0, hq =>
    simp only [List.getElem?_cons_zero, Option.some.injEq] at hq
    subst hq
    refine ⟨w.heap.size, 0, rfl, by simp, fun j v hv => ?_⟩
    rw [cell_of_row _ _ _ r.toArray t (0, 0) (heap_alloc_new w _)]
    simpa using hv
theorem grown_below {w w' : World} {B : Nat} {v : Value} (h : w.grownBy w' v.ownBlock) (hB : ∀ g, v.ownBlock = some g → B ≤ g) (hs : B ≤ w.heap.size) : Below B w w' :=
  (Below.refl _ _).grown h hs (fun k e => hB k e)
end Go.Proofs.YtbegbajlagcbdaaGreatDoor
namespace Go.Proofs.YtbegbajlagcbdaaGreatDoor
open Go Go.RowKit Go.Sort
/-- A slice of the call's own that reads as numbers. -/
def IntsL (w : World) (B : Nat) (v : Value) (zs : List Int) : Prop := OwnL w B 3 1 v (intRows zs)
theorem intRows_length (zs : List Int) : (intRows zs).length = zs.length := by unfold intRows; simp
theorem intRows_wid (zs : List Int) : ∀ r ∈ intRows zs, r.length = 1 := fun r hr => by obtain ⟨n, _, rfl⟩ := List.mem_map.1 hr; rfl
theorem intRows_one (zs : List Int) : ∀ r ∈ intRows zs, ∀ u ∈ r, u.oneCell' = true := fun r hr u hu => by
  obtain ⟨n, _, rfl⟩ := List.mem_map.1 hr
  simp only [List.mem_singleton] at hu; subst hu; rfl
theorem intRows_flat (zs : List Int) : (intRows zs).flatten = zs.map (Value.int .i64) := by
  induction zs with
  | nil => rfl
  | cons z zs ih => unfold intRows at ih ⊢; rw [List.map_cons, List.flatten_cons, ih]; rfl
theorem elemInt : Elem Tryz.prog 32 3 1 8 := Elem.mk' Tryz.underlying32 (z := .int .i64 0) (by kernel_rfl) rfl (by decide)
theorem IntsL.own {w : World} {B : Nat} {v : Value} {zs : List Int} (h : IntsL w B v zs) : w.ownsRow B 3 1 v zs.length (zs.map (Value.int .i64)) := by
  have := OwnL.own h
  rwa [intRows_length, intRows_flat] at this
theorem IntsL.of {w : World} {B : Nat} {v : Value} {zs : List Int} (h : w.ownsRow B 3 1 v zs.length (zs.map (Value.int .i64))) : IntsL w B v zs :=
  ⟨by rw [intRows_length, intRows_flat]; exact h, intRows_wid zs, intRows_one zs⟩
theorem IntsL.rows {w : World} {B : Nat} {v : Value} {zs : List Int} (h : IntsL w B v zs) : ∃ A c, v = .slice A zs.length c ∧ RowsAt w A 1 (intRows zs) := by
  obtain ⟨A, c, hv, hr⟩ := OwnL.form h
  exact ⟨A, c, by rw [hv, intRows_length], hr⟩
theorem IntsL.block {w : World} {B g c : Nat} {zs : List Int} {A : Option Addr} (h : IntsL w B (.slice A zs.length c) zs) (hA : A = some ⟨g, 0, none⟩) :
    ∃ cur, w.heap[g]? = some (.cells cur 3 (0, 0)) ∧ B ≤ g ∧ zs.length ≤ c ∧ c ≤ maxLen ∧ cur.size = c ∧ cur.toList.take zs.length = zs.map (Value.int .i64) := by
  subst hA
  rcases h.own.2 with ⟨h1, _⟩ | ⟨g', cap, cur, hv, hb, hg, h1, h2, h3, h4⟩
  · cases h1
  · simp only [Value.slice.injEq, Option.some.injEq, Addr.mk.injEq, and_true, true_and] at hv
    obtain ⟨rfl, rfl⟩ := hv
    exact ⟨cur, hg, hb, h1, h2, by omega, by rwa [Nat.mul_one] at h4⟩
theorem putCells_take {cur : Array Value} {ys : List Int} (h : ys.length ≤ cur.size) : (putCells (Value.int .i64) 0 ys.toArray cur).toList.take ys.length = ys.map (Value.int .i64) ∧ (putCells (Value.int .i64) 0 ys.toArray cur).size = cur.size := by
  refine ⟨?_, by simp [putCells]⟩
  apply List.ext_getElem
  · simp [putCells]; omega
  · intro i h1 h2
    have hi : i < ys.length := by simpa using h2
    simp [putCells, hi]
theorem heap_putRow_same {w : World} {g : Nat} {cur : Array Value} {e : TypeId} {fr : Nat × Nat} {d : Array Int} (h : w.heap[g]? = some (.cells cur e fr)) : (putRow (Value.int .i64) w g 0 d).heap[g]? = some (.cells (putCells (Value.int .i64) 0 d cur) e fr) := by
  simp [putRow, mapBlock, Array.getElem?_modify, h, onCells]
theorem heap_putRow_other {w : World} {g : Nat} {d : Array Int} {k : Nat} (h : k ≠ g) : (putRow (Value.int .i64) w g 0 d).heap[k]? = w.heap[k]? := by
  simp [putRow, mapBlock, Array.getElem?_modify, Ne.symm h]
theorem IntsL.put {w : World} {B g c : Nat} {zs ys : List Int} (h : IntsL w B (.slice (some ⟨g, 0, none⟩) zs.length c) zs) (hl : ys.length = zs.length) :
    IntsL (putRow (Value.int .i64) w g 0 ys.toArray) B (.slice (some ⟨g, 0, none⟩) ys.length c) ys ∧ w.grownBy (putRow (Value.int .i64) w g 0 ys.toArray) (some g) := by
  obtain ⟨cur, hg, hb, h1, h2, h3, h4⟩ := h.block rfl
  obtain ⟨t1, t2⟩ := putCells_take (cur := cur) (ys := ys) (by omega)
  refine ⟨IntsL.of ⟨by simp, .inr ⟨g, c, _, rfl, hb, heap_putRow_same hg, by omega, h2, by rw [t2, h3]; simp, by rw [Nat.mul_one]; exact t1⟩⟩, rfl, rfl, rfl, by simp, fun k _ hk => heap_putRow_other (fun e => hk (by rw [e]))⟩
theorem IntsL.cut {w : World} {B g c : Nat} {xs ys : List Int} (h : IntsL w B (.slice (some ⟨g, 0, none⟩) (xs ++ ys).length c) (xs ++ ys)) : IntsL w B (.slice (some ⟨g, 0, none⟩) xs.length c) xs := by
  obtain ⟨cur, hg, hb, h1, h2, h3, h4⟩ := h.block rfl
  rw [List.length_append] at h1
  refine IntsL.of ⟨by simp, .inr ⟨g, c, cur, rfl, hb, hg, by omega, h2, by rw [h3]; simp, ?_⟩⟩
  rw [Nat.mul_one]
  have := congrArg (List.take xs.length) h4
  rw [List.take_take, List.map_append, List.length_append, Nat.min_eq_left (by omega), List.take_left' (by simp)] at this
  exact this
theorem IntsL.holds {w : World} {B g c : Nat} {zs : List Int} (h : IntsL w B (.slice (some ⟨g, 0, none⟩) zs.length c) zs) : Holds (Value.int .i64) w g 0 zs.toArray := fun j hj => by
  obtain ⟨cur, hg, hb, h1, h2, h3, h4⟩ := h.block rfl
  have hj' : j < zs.length := by simpa using hj
  constructor
  · rw [cell_of_row w g (0 + j) cur _ (0, 0) hg, Nat.zero_add]
    have := congrArg (·[j]?) h4
    simp only [List.getElem?_take, hj', if_true, List.getElem?_map] at this
    rw [Array.getElem?_toList] at this
    rw [this]
    simp [hj']
  · exact h.own.frozenAt (0 + j)
theorem IntsL.less {w : World} {B B' : Nat} {v : Value} {zs : List Int} (h : IntsL w B v zs) (hB : B' ≤ B) : IntsL w B' v zs := OwnL.less h hB
theorem IntsL.below {w w' : World} {B : Nat} {v : Value} {zs : List Int} (h : IntsL w B v zs) (hb : Below w.heap.size w w') : IntsL w' B v zs := OwnL.below h hb
theorem grow_below (w : World) (os : Array Obj) : Below w.heap.size w (grow w os) := ⟨rfl, rfl, rfl, by simp, fun k hk => by simp [grow, Array.getElem?_append_left hk]⟩
def SortPost (w : World) (B : Nat) (v : Value) (zs : List Int) (e : Ending) (w' : World) : Prop := e = .returned (.tuple #[]) ∧ IntsL w' B v (zs.mergeSort fun x y => decide (x ≤ y)) ∧ w.grownBy w' v.ownBlock
theorem Sort_own (w : World) (B : Nat) (v : Value) (zs : List Int) (h : IntsL w B v zs) (hs : zs.length ≤ 1000000) :
    Calls Tryz.prog 197 #[v] w (SortPost w B v zs) := by
  obtain ⟨A, c, rfl, hr⟩ := h.rows
  by_cases hne : zs = []
  · subst hne
    refine (Tryz.slices_Sort_int_none A c w).mono fun e w' ⟨he, hw⟩ => ?_
    subst hw
    exact ⟨he, by simpa using h, World.grownBy.refl _ _⟩
  · rcases h.own.2 with ⟨_, h0⟩ | ⟨g, cap, cur, hv, hb, hg, h1, h2, h3, h4⟩
    · exact absurd (List.eq_nil_of_length_eq_zero h0) hne
    · simp only [Value.slice.injEq, true_and] at hv
      obtain ⟨rfl, rfl⟩ := hv
      have hl : (zs.mergeSort fun x y => decide (x ≤ y)).length = zs.length := List.length_mergeSort zs
      refine (Tryz.slices_Sort_int g 0 c zs w h.holds (Array.getElem?_eq_some_iff.1 hg).1 (by omega)).mono fun e w' ⟨he, n, os, hw⟩ => ?_
      subst hw
      have hA : IntsL (Sort.ahead w n) B (.slice (some ⟨g, 0, none⟩) zs.length c) zs := h.below ⟨rfl, rfl, rfl, Nat.le_refl _, fun _ _ => rfl⟩
      obtain ⟨p1, p2⟩ := hA.put hl
      have p3 := p1.below (grow_below _ os)
      rw [hl] at p3
      refine ⟨he, p3, ⟨p2.os, p2.tape, p2.output, Nat.le_trans p2.size (grow_below _ os).size, fun k hk hne => ((grow_below _ os).block k (Nat.lt_of_lt_of_le hk p2.size)).trans (p2.block k hk hne)⟩⟩
def CompactPost (w : World) (B : Nat) (v : Value) (zs : List Int) (e : Ending) (w' : World) : Prop := ∃ v', e = .returned v' ∧ IntsL w' B v' (Lib.compact zs) ∧ w.grownBy w' v.ownBlock ∧ v'.ownBlock = v.ownBlock
theorem Compact_own (w : World) (B : Nat) (v : Value) (zs : List Int) (h : IntsL w B v zs) (hs : zs.length ≤ 1000000) :
    Calls Tryz.prog 125 #[v] w (CompactPost w B v zs) := by
  obtain ⟨A, c, rfl, hr⟩ := h.rows
  by_cases hne : zs = []
  · subst hne
    refine (Tryz.slices_Compact_int_empty A c w).mono fun e w' ⟨he, hw⟩ => ?_
    subst hw
    exact ⟨_, he, h, World.grownBy.refl _ _, rfl⟩
  · rcases h.own.2 with ⟨_, h0⟩ | ⟨g, cap, cur, hv, hb, hg, h1, h2, h3, h4⟩
    · exact absurd (List.eq_nil_of_length_eq_zero h0) hne
    · simp only [Value.slice.injEq, true_and] at hv
      obtain ⟨rfl, rfl⟩ := hv
      refine (Tryz.slices_Compact_int g 0 c zs w h.holds (by omega) h1).mono fun e w' ⟨he, n, hw⟩ => ?_
      subst hw
      have hA : IntsL (Sort.ahead w n) B (.slice (some ⟨g, 0, none⟩) zs.length c) zs := h.below ⟨rfl, rfl, rfl, Nat.le_refl _, fun _ _ => rfl⟩
      have hcl := Lib.compact_length_le zs
      have hl : (Lib.compact zs ++ List.replicate (zs.length - (Lib.compact zs).length) 0).length = zs.length := by simp; omega
      obtain ⟨p1, p2⟩ := hA.put hl
      exact ⟨_, he, p1.cut, ⟨p2.os, p2.tape, p2.output, p2.size, p2.block⟩, rfl⟩
end Go.Proofs.YtbegbajlagcbdaaGreatDoor
namespace Go.Proofs.YtbegbajlagcbdaaGreatDoor
open Go Go.RowKit

def isBook : Obj → Bool
  | .loop _ => true
  | .deferred _ => true
  | _ => false
theorem not_cells_of_book {o : Obj} (h : isBook o = true) : o.isCells = false := by cases o <;> simp_all [isBook, Obj.isCells]

def rawPost (Inext : World → Prop) (Ix : Code → World → Prop) (W : World) : Exit → Act → World → Prop
  | .normal, _, W' => KeepsOthers W W' ∧ Inext W'
  | .ret, _, W' => KeepsOthers W W' ∧ Ix .ret W'
  | .exit id, _, W' => KeepsOthers W W' ∧ Ix (.exit id) W'
  | .goto t, _, W' => KeepsOthers W W' ∧ Ix (.goto t) W'
  | .panic _, _, _ => False
  | .outgrown, _, _ => False

/-- What an iterator gives: J holds before each of its steps; 'Step': it goes on by itself; 'Ask': it calls yield in world B. -/
def SeqRaw {β : Type} (F : Fence) (n : Nat) (P : Program) (gf : Nat) (lb : Array Value) (encs : β → Array Value) (next : β → β) (Inv : β → World → Prop) (Step Ask : β → World → World → Prop) (End : β → Prop) (s0 : β) : Prop :=
  ∀ (l : Nat) (J : β → World → Prop) (Jx : World → Prop) (W : World), (∀ s A, J s A → Inv s A) → (∀ s A B, J s A → Step s A B → J (next s) B) →
    (∀ s A B, J s A → Ask s A B → YieldAt F (n - 1) P l (encs s) B fun e W' => (e = .returned (.bool true) ∧ J (next s) W') ∨ (e = .returned (.bool false) ∧ Jx W')) →
    J s0 W → CallsIn F n P gf (#[.func (.yield l) #[] #[]] ++ lb) W fun e W' => (∃ v, e = .returned v) ∧ ((∃ s, End s ∧ J s W') ∨ Jx W')

variable {F : Fence} {n : Nat} {P : Program}
theorem wpIn_rangeFunc_raw {β : Type} {g : Operand} {ps : Array Tmp} {assign body : Code} {Q : Exit → Act → World → Prop} {a : Act} {w : World}
    (hro : F.round = none) (h1 : 1 ≤ n) {gf : Nat} {lb : Array Value} (hg : a.eval g = .func (.func gf) #[] lb) (hFg : F.fn gf) (eg : ∀ args w, (callFunc gf args).run P w = .ok (.enter gf args) w)
    {encs : β → Array Value} {next : β → β} {Inv : β → World → Prop} {Step Ask : β → World → World → Prop} {End : β → Prop} {s0 : β}
    (hseq : SeqRaw F (n - 1) P gf lb encs next Inv Step Ask End s0) (hps : ∀ x, (encs x).size = ps.size)
    (hkS : ∀ s A B (k : Nat) (o : Obj), Inv s A → (Step s A B ∨ Ask s A B) → A.heap[k]? = some o → isBook o = true → B.heap[k]? = some o)
    (I IA : β → World → Prop) (Ix : Code → World → Prop)
    (hIInv : ∀ s A, I s A → Inv s A) (hIS : ∀ s A B, I s A → Step s A B → I (next s) B) (hIA : ∀ s A B, I s A → Ask s A B → IA s B)
    (hI1 : ∀ s A o, isBook o = true → I s A → I s (A.alloc o))
    (hI2 : ∀ s A (l : Nat) (o o' : Obj), w.heap.size ≤ l → A.heap[l]? = some o → isBook o = true → isBook o' = true → I s A → I s (A.putObj l o'))
    (hIA2 : ∀ s A (l : Nat) (o o' : Obj), w.heap.size ≤ l → A.heap[l]? = some o → isBook o = true → isBook o' = true → IA s A → IA s (A.putObj l o'))
    (hIx2 : ∀ c A (l : Nat) (o o' : Obj), w.heap.size ≤ l → A.heap[l]? = some o → isBook o = true → isBook o' = true → Ix c A → Ix c (A.putObj l o'))
    (h0 : I s0 w) (a₁ : β → Act)
    (hassign : ∀ (l : Nat) (x : β) (W : World) (K : Act → World → Prop), K (a₁ x) W →
      assign.wpIn (F.inRound l) (n - 1 - 1) P (Exit.then K (fun _ _ _ => False)) { tmps := (ps.zip (encs x)).foldl (fun t (p, v) => t.setIfInBounds p v) a.tmps, defers := [] } W)
    (hbody : ∀ (l : Nat) (x : β) (W : World), IA x W → body.wpIn (F.inRound l) (n - 1 - 1) P (rawPost (I (next x)) Ix W) (a₁ x) W)
    (hdone : ∀ (D : Nat) (s : β) (W : World), End s → I s W → w.heap.size ≤ D → W.heap[D]? = some (.deferred (some [])) → Q .normal { a with defers := { target := .collected D, args := #[] } :: a.defers } W)
    (hstop : ∀ (D : Nat) (c : Code) (W : World), Ix c W → w.heap.size ≤ D → W.heap[D]? = some (.deferred (some [])) → c.wpIn F n P Q { a with defers := { target := .collected D, args := #[] } :: a.defers } W) :
    (Code.rangeFunc g ps assign body).wpIn F n P Q a w := by
  refine wpIn_rangeFunc ?_
  intro fn hfn
  rw [hro]
  obtain ⟨rec, hrec⟩ : ∃ rec : LoopState → Option Code → Loop, rec = fun st pe => { state := st, pending := pe, fn, tmps := a.tmps, params := ps, assign, body, defers := w.heap.size } := ⟨_, rfl⟩
  obtain ⟨W1, hW1⟩ : ∃ W1, (w.alloc (.deferred (some []))).alloc (.loop (rec .ready none)) = W1 := ⟨_, rfl⟩
  have hL1 : W1.heap[w.heap.size + 1]? = some (.loop (rec .ready none)) := by
    rw [← hW1]; have := World.alloc_heap_new (w.alloc (.deferred (some []))) (.loop (rec .ready none)); rwa [World.size_alloc] at this
  have hK1 : W1.heap[w.heap.size]? = some (.deferred (some [])) := by
    rw [← hW1]; exact (Below.heap_alloc _ _ _ (by simp)).trans (World.alloc_heap_new w _)
  have hI1' : I s0 W1 := by rw [← hW1]; exact hI1 _ _ _ rfl (hI1 _ _ _ rfl h0)
  refine ⟨w.heap.size + 1, [{ target := .collected w.heap.size, args := #[] }], W1, { target := .fn (.func gf) lb, args := #[.func (.yield (w.heap.size + 1)) #[] #[]] }, W1, gf,
    #[.func (.yield (w.heap.size + 1)) #[] #[]] ++ lb, W1, ?_, ?_, ?_, ?_, fun _ => h1, ?_⟩
  · rw [← hW1, hrec]; exact run_enterLoop_outer _ _ _ _ _
  · simp only [resolve, hg]
    simp [go_sem]
  · intro f' hf'; simp [Target.leads] at hf'; subst hf'; exact hFg
  · simp [invoke, go_sem, eg]
  · refine (hseq (w.heap.size + 1)
      (fun s W => I s W ∧ W.heap[w.heap.size + 1]? = some (.loop (rec .ready none)) ∧ W.heap[w.heap.size]? = some (.deferred (some [])))
      (fun W => ∃ c, Ix c W ∧ W.heap[w.heap.size + 1]? = some (.loop (rec .done (some c))) ∧ W.heap[w.heap.size]? = some (.deferred (some [])))
      W1 (fun s A h => hIInv s A h.1)
      (fun s A B h hs => ⟨hIS s A B h.1 hs, hkS s A B _ _ (hIInv s A h.1) (.inl hs) h.2.1 rfl, hkS s A B _ _ (hIInv s A h.1) (.inl hs) h.2.2 rfl⟩)
      ?_ ⟨hI1', hL1, hK1⟩).mono ?_
    · rintro x A W ⟨hi, hl0, hk0⟩ hask
      have hl := hkS x A W _ _ (hIInv x A hi) (.inr hask) hl0 rfl
      have hk := hkS x A W _ _ (hIInv x A hi) (.inr hask) hk0 rfl
      have hia := hIA x A W hi hask
      have hlt : w.heap.size + 1 < W.heap.size := (Array.getElem?_eq_some_iff.1 hl).1
      have hy := run_yield (P := P) (args := encs x) hl (by rw [hrec]; exact hps x)
      rw [hrec] at hy
      refine ⟨fn, _, assign, body, hy, roundIn_of_wpIn hfn (hassign _ x W _ ⟨_, run_beginRound hl (by rw [hrec]), ?_⟩)⟩
      have hl2 : (W.putObj (w.heap.size + 1) (.loop { rec .ready none with state := .busy })).heap[w.heap.size + 1]? = some (.loop { rec .ready none with state := .busy }) := World.putObj_heap_same hlt
      have hk2 : (W.putObj (w.heap.size + 1) (.loop { rec .ready none with state := .busy })).heap[w.heap.size]? = some (.deferred (some [])) := (World.putObj_heap_other (by omega)).trans hk
      refine wpIn_mono (hbody _ x _ (hIA2 _ _ _ _ _ (by omega) hl rfl rfl hia)) ?_
      have fin : ∀ (jump : Option Code) (W3 : World), KeepsOthers (W.putObj (w.heap.size + 1) (.loop { rec .ready none with state := .busy })) W3 →
          (Instr.endRound (w.heap.size + 1) jump).run P W3 = .ok (.bool jump.isNone) (W3.putObj (w.heap.size + 1) (.loop (rec (if jump.isNone then .ready else .done) jump))) ∧
          W3.heap[w.heap.size + 1]? = some (.loop { rec .ready none with state := .busy }) ∧
          (W3.putObj (w.heap.size + 1) (.loop (rec (if jump.isNone then .ready else .done) jump))).heap[w.heap.size + 1]? = some (.loop (rec (if jump.isNone then .ready else .done) jump)) ∧
          (W3.putObj (w.heap.size + 1) (.loop (rec (if jump.isNone then .ready else .done) jump))).heap[w.heap.size]? = some (.deferred (some [])) := fun jump W3 hk3 => by
        have hl3 := hk3.same _ _ hl2 rfl
        have := run_endRound (P := P) jump hl3
        rw [hrec] at this ⊢
        exact ⟨this, by rw [hrec] at hl3; exact hl3, World.putObj_heap_same (Array.getElem?_eq_some_iff.1 hl3).1, (World.putObj_heap_other (by omega)).trans (hk3.same _ _ hk2 rfl)⟩
      rintro e a3 W3 hp
      cases e with
      | normal =>
        obtain ⟨hk3, hi3⟩ := hp
        obtain ⟨hr, hl3, hl4, hk4⟩ := fin none W3 hk3
        exact ⟨_, _, hr, .inl ⟨rfl, hI2 _ _ _ _ _ (by omega) hl3 rfl rfl hi3, hl4, hk4⟩⟩
      | ret =>
        obtain ⟨hk3, hi3⟩ := hp
        obtain ⟨hr, hl3, hl4, hk4⟩ := fin (some .ret) W3 hk3
        exact ⟨_, _, hr, .inr ⟨rfl, .ret, hIx2 _ _ _ _ _ (by omega) hl3 rfl rfl hi3, hl4, hk4⟩⟩
      | exit id =>
        obtain ⟨hk3, hi3⟩ := hp
        obtain ⟨hr, hl3, hl4, hk4⟩ := fin (some (.exit id)) W3 hk3
        exact ⟨_, _, hr, .inr ⟨rfl, .exit id, hIx2 _ _ _ _ _ (by omega) hl3 rfl rfl hi3, hl4, hk4⟩⟩
      | goto t =>
        obtain ⟨hk3, hi3⟩ := hp
        obtain ⟨hr, hl3, hl4, hk4⟩ := fin (some (.goto t)) W3 hk3
        exact ⟨_, _, hr, .inr ⟨rfl, .goto t, hIx2 _ _ _ _ _ (by omega) hl3 rfl rfl hi3, hl4, hk4⟩⟩
      | panic ch => exact hp.elim
      | outgrown => exact hp.elim
    · rintro e W2 ⟨⟨v, rfl⟩, (⟨s, hE, hi, hl, hk⟩ | ⟨c, hi, hl, hk⟩)⟩
      · exact ⟨none, _, by have := run_endLoop (P := P) hl (by rw [hrec]; simp); rw [hrec] at this; exact this, hdone _ s _ hE (hI2 _ _ _ _ _ (by omega) hl rfl rfl hi) (Nat.le_refl _) ((World.putObj_heap_other (by omega)).trans hk)⟩
      · exact ⟨some c, _, by have := run_endLoop (P := P) hl (by rw [hrec]; simp); rw [hrec] at this; exact this, hstop _ c _ (hIx2 _ _ _ _ _ (by omega) hl rfl rfl hi) (Nat.le_refl _) ((World.putObj_heap_other (by omega)).trans hk)⟩
end Go.Proofs.YtbegbajlagcbdaaGreatDoor
namespace Go.Proofs.YtbegbajlagcbdaaGreatDoor
open Go Go.RowKit Go.Shelf
attribute [local go_sem] Oper.semAt_some

/-- How many steps are left at most. -/
def stepsLeft (step d : Int) : Nat := if step = 1 then (200001 - d).toNat else (d + 1).toNat
structure Where where
  cb : Nat
  m : Nat
  A : Option Addr
  c : Nat
  l : List Hol
  B : Nat
  bf : Nat
  bs : Nat
  bc : Nat
  step : Int
  start : Int
def CacheAt (K : Where) (d : Int) (W : World) : Prop := ∃ n, CacheOk W K.B K.m n K.l ∧ n + stepsLeft K.step d ≤ 600000
/-- What holds ahead of each step. -/
structure DaysInv (K : Where) (d : Int) (W : World) : Prop where
  lo : -1 ≤ d
  hi : d ≤ 200001
  from_ : W.cell? ⟨K.bf, 0, none⟩ = some (.int .i64 K.start)
  st : W.cell? ⟨K.bs, 0, none⟩ = some (.int .i64 K.step)
  cal : W.cell? ⟨K.bc, 0, none⟩ = some (.pointer (some ⟨K.cb, 0, none⟩))
  cald : Calend W K.cb K.m K.A K.c K.l
  cache : CacheAt K d W
  size : K.B ≤ W.heap.size
def isDayP (d : Int) : Prop := 0 ≤ d ∧ d ≤ 200000
def DaysStep (K : Where) (d : Int) (A B : World) : Prop := isDayP d ∧ Cal.worksB K.l d = false ∧ A.grownBy B (some K.m) ∧ CacheAt K (d + K.step) B
def DaysAsk (K : Where) (d : Int) (A B : World) : Prop := isDayP d ∧ Cal.worksB K.l d = true ∧ A.grownBy B (some K.m) ∧ CacheAt K (d + K.step) B
theorem stepsLeft_succ {step d : Int} (h : step = 1 ∨ step = -1) (hd : isDayP d) : stepsLeft step (d + step) + 1 = stepsLeft step d := by
  obtain ⟨h1, h2⟩ := hd
  unfold stepsLeft
  rcases h with rfl | rfl <;> simp <;> omega
def IterPost (J : Int → World → Prop) (Jx : World → Prop) (e : Ending) (W' : World) : Prop := (∃ v, e = .returned v) ∧ ((∃ s, ¬ isDayP s ∧ J s W') ∨ Jx W')
set_option maxHeartbeats 1000000 in
theorem days_raw (K : Where) (hst : K.step = 1 ∨ K.step = -1) (hHol : HolCalls K.A K.c K.l) (n : Nat) :
    SeqRaw Fence.wide n Tryz.prog 242 #[.pointer (some ⟨K.bf, 0, none⟩), .pointer (some ⟨K.bs, 0, none⟩), .pointer (some ⟨K.bc, 0, none⟩)]
      (fun d : Int => #[.int .i64 d]) (fun d => d + K.step) (DaysInv K) (DaysStep K) (DaysAsk K) (fun d => ¬ isDayP d) K.start := by
  intro l J Jx W hInv hStep hAsk h0
  show CallsIn Fence.wide n Tryz.prog 242 _ W (IterPost J Jx)
  refine callsIn_of_wp Tryz.func242 rfl trivial ?_ rfl
  simp only [Tryz.ntmps242, List.size_toArray, List.length_cons, List.length_nil, Nat.reduceAdd, Nat.reduceSub, Array.replicate_succ, Array.replicate_zero, List.push_toArray, List.append_toArray, List.nil_append, List.cons_append]
  have hf0 := (hInv _ _ h0).from_
  gi_wp2
  clear hf0
  gi_loopw [5] (fun v wr => ∃ d : Int, v = .int .i64 d ∧ J d wr) (fun v _ => stepsLeft K.step (intOf v))
  case atStart => exact ⟨K.start, rfl, h0⟩
  case round =>
    obtain ⟨d, rfl, hJ⟩ := hrel
    have hi := hInv _ _ hJ
    have hlo := hi.lo
    have hhi := hi.hi
    have hc1 := hi.st
    have hc2 := hi.cal
    by_cases hday : isDayP d
    · obtain ⟨hd0, hd1⟩ := id hday
      obtain ⟨nn, hca, hnn⟩ := hi.cache
      have hsl := stepsLeft_succ hst hday
      have hcald := hi.cald
      have hms : ∃ es cl, wr.heap[K.m]? = some (.map es cl) := by obtain ⟨f, h, _⟩ := hca; exact h.isMap
      have hw := works_any K.cb K.m K.A K.c K.l hHol d hd0 hd1 K.B nn wr hcald hca (by omega) hi.size
      have hrow : ∀ r, some K.m = some r → ∃ o : Obj, wr.heap[r]? = some o ∧ o.isCells = false := fun r e => by cases e; obtain ⟨es, cl, h⟩ := hms; exact ⟨_, h, rfl⟩
      have hk1 : ∀ w1, wr.grownBy w1 (some K.m) → w1.cell? ⟨K.bs, 0, none⟩ = some (.int .i64 K.step) := fun w1 hg => cell_kept hc1 hg hrow
      have hns := Lib.hid hnn
      have hsl' := Lib.hid hsl
      have hAll := Lib.hid (And.intro hi (And.intro hJ (And.intro hw hk1)))
      have hstep1 : -1 ≤ K.step := by omega
      have hstep2 : K.step ≤ 1 := by omega
      clear hca hnn hsl hcald hms hw hrow hk1 hi hJ
      gi_wp2_with (refine ⟨trivial, fun h => (by cases h), ?_⟩; gi_at_call 133; refine (callsIn_wide.2 (calls_in (isDay_any _ _) hd0 hd1)).mono ?_; rintro e w' ⟨rfl, rfl⟩)
      obtain ⟨hi, hJ, hw, hk1⟩ := hAll.out
      refine ⟨trivial, fun h => (by cases h), ?_⟩
      refine (callsIn_wide.2 hw).mono ?_
      clear hi hJ hw hk1
      rintro e w1 ⟨rfl, hg1, hca1⟩
      have hcache : CacheAt K (d + K.step) w1 := ⟨_, hca1, by have := hns.out; have := hsl'.out; omega⟩
      have hc1' := hAll.out.2.2.2 w1 hg1
      cases hwk : Cal.worksB K.l d
      · have hnext := Lib.hid (hStep d wr w1 hAll.out.2.1 ⟨hday, hwk, hg1, hcache⟩)
        clear hg1 hca1 hcache
        gi_wp2_with fail
        refine ⟨fun _ h => (by cases h), ?_⟩
        gi_wp2
        go_roundw
        case rel => exact ⟨d + K.step, by go_num, hnext.out⟩
        case measure => have := hsl'.out; simp [intOf]; omega
      · obtain ⟨fn, tmps, assign, body, hy, hR⟩ := hAsk d wr w1 hAll.out.2.1 ⟨hday, hwk, hg1, hcache⟩
        clear hg1 hca1 hcache
        gi_wp2
        refine ⟨fun h => (by cases h), ?_⟩
        refine hR.mono ?_
        clear hy hR hc1'
        rintro e w2 (⟨rfl, hJ2⟩ | ⟨rfl, hJx⟩)
        · have hc2' := (hInv _ _ hJ2).st
          have hJ2 := Lib.hid hJ2
          gi_wp2
          go_roundw
          case rel => exact ⟨d + K.step, by go_num, hJ2.out⟩
          case measure => have := hsl'.out; simp [intOf]; omega
        · have hJx := Lib.hid hJx
          gi_wp2
          refine bodyPost_ret (results_none rfl _ _ _) rfl ?_
          exact ⟨⟨_, rfl⟩, .inr hJx.out⟩
    · have hday' : d < 0 ∨ 200000 < d := by unfold isDayP at hday; omega
      have hAll := Lib.hid hJ
      clear hi hJ
      gi_wp2_with (refine ⟨trivial, fun h => (by cases h), ?_⟩; gi_at_call 133; refine (callsIn_wide.2 (calls_out (isDay_any _ _) (by omega))).mono ?_; rintro e w' ⟨rfl, rfl⟩)
      refine bodyPost_end (results_none rfl _ _ _) rfl ?_
      exact ⟨⟨_, rfl⟩, .inl ⟨d, hday, hAll.out⟩⟩
end Go.Proofs.YtbegbajlagcbdaaGreatDoor
