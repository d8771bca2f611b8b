/- Slices of the call's own, as lists of rows of cells; append of rows onto them. Over whatever program. -/
import Derived.Test.YtoigamkldccnkaaDoorData
import Derived.Laws.AppendOwnNone
import Derived.Deep.AppendLies
namespace Go.Proofs.YtoigamkldccnkaaDoor
open Go Go.RowKit

theorem flat_get {m : Nat} : ∀ {rows : List (List Value)} {k j : Nat} {r : List Value} {v : Value}, (∀ r ∈ rows, r.length = m) → rows[k]? = some r → r[j]? = some v → rows.flatten[k * m + j]? = some v
  | [], k, _, _, _, _, h, _ => by simp at h
  | q :: rows, 0, j, r, v, hw, h, hv => by
    simp only [List.getElem?_cons_zero, Option.some.injEq] at h
    subst h
    rw [List.flatten_cons, Nat.zero_mul, Nat.zero_add, List.getElem?_append_left (List.getElem?_eq_some_iff.1 hv).1, hv]
  | q :: rows, k + 1, j, r, v, hw, h, hv => by
    simp only [List.getElem?_cons_succ] at h
    have hq := hw q (List.mem_cons_self ..)
    have ih := flat_get (fun r hr => hw r (List.mem_cons_of_mem _ hr)) h hv
    rw [List.flatten_cons, List.getElem?_append_right (by rw [hq, Nat.succ_mul]; omega), hq, show (k + 1) * m + j - m = k * m + j by rw [Nat.succ_mul]; omega, ih]
theorem flat_len {m : Nat} : ∀ {rows : List (List Value)}, (∀ r ∈ rows, r.length = m) → rows.flatten.length = rows.length * m
  | [], _ => by simp
  | q :: rows, hw => by
    rw [List.flatten_cons, List.length_append, hw q (List.mem_cons_self ..), flat_len (fun r hr => hw r (List.mem_cons_of_mem _ hr)), List.length_cons, Nat.succ_mul]; omega
/-- What lies at a place of the flat list, as a row's cell. -/
theorem flat_of {m : Nat} (hm : 0 < m) {rows : List (List Value)} (hw : ∀ r ∈ rows, r.length = m) {i : Nat} {v : Value} (h : rows.flatten[i]? = some v) : ∃ r, rows[i / m]? = some r ∧ r[i % m]? = some v := by
  have hl := (List.getElem?_eq_some_iff.1 h).1
  rw [flat_len hw] at hl
  have hk : i / m < rows.length := Nat.div_lt_of_lt_mul (by rw [Nat.mul_comm]; exact hl)
  have hr := List.getElem?_eq_getElem hk
  have hlen := hw _ (List.getElem_mem hk)
  have hj : i % m < rows[i / m].length := by rw [hlen]; exact Nat.mod_lt _ hm
  refine ⟨_, hr, ?_⟩
  have h2 := flat_get hw hr (List.getElem?_eq_getElem hj)
  rw [Nat.mul_comm, Nat.div_add_mod] at h2
  rw [List.getElem?_eq_getElem hj, ← h2, h]

/-- A slice value of the call's own (its block from B on) that reads as rows. -/
structure OwnL (w : World) (B : Nat) (E : TypeId) (m : Nat) (v : Value) (rows : List (List Value)) : Prop where
  own : w.ownsRow B E m v rows.length rows.flatten
  wid : ∀ r ∈ rows, r.length = m
  one : ∀ r ∈ rows, ∀ u ∈ r, u.oneCell' = true
theorem addr_add (g j : Nat) (o : Nat) : (⟨g, o, none⟩ : Addr).add j = ⟨g, o + j, none⟩ := by unfold Addr.add; split <;> simp_all
theorem OwnL.form {w : World} {B : Nat} {E : TypeId} {m : Nat} {v : Value} {rows : List (List Value)} (h : OwnL w B E m v rows) : ∃ A c, v = .slice A rows.length c ∧ RowsAt w A m rows := by
  obtain ⟨hown, hw, _⟩ := h
  have hc := fun g (hg : v.ownBlock = some g) => hown.cells hg
  rcases hown.2 with ⟨rfl, h0⟩ | ⟨g, cap, cur, rfl, _, hg, _⟩
  · exact ⟨none, 0, by rw [h0], fun k r hr => by rw [List.eq_nil_of_length_eq_zero h0] at hr; simp at hr⟩
  · refine ⟨_, _, rfl, fun k r hr => ⟨g, 0, rfl, (Array.getElem?_eq_some_iff.1 hg).1, fun j u hu => ?_⟩⟩
    have := hc g rfl _ u (flat_get hw hr hu)
    rw [addr_add] at this
    exact this
theorem OwnL.nil (w : World) (B : Nat) (E : TypeId) (m : Nat) : OwnL w B E m (.slice none 0 0) [] := ⟨World.ownsRow_nil w B E m, fun r h => (by simp at h), fun r h => (by simp at h)⟩
theorem OwnL.made (w : World) (B : Nat) (E : TypeId) (m : Nat) (hb : B ≤ w.heap.size) : OwnL (w.alloc (.cells #[] E)) B E m (.slice (some ⟨w.heap.size, 0, none⟩) 0 0) [] :=
  ⟨World.ownsRow_made w #[] 0 hb (Nat.zero_le _) (by simp), fun r h => (by simp at h), fun r h => (by simp at h)⟩
theorem OwnL.less {w : World} {B B' : Nat} {E : TypeId} {m : Nat} {v : Value} {rows : List (List Value)} (h : OwnL w B E m v rows) (hB : B' ≤ B) : OwnL w B' E m v rows := by
  refine ⟨⟨h.own.1, ?_⟩, h.wid, h.one⟩
  rcases h.own.2 with h | ⟨g, cap, cur, h1, h2, h3⟩
  · exact .inl h
  · exact .inr ⟨g, cap, cur, h1, by omega, h3⟩
theorem OwnL.kept {w w' : World} {row : Option Nat} {B : Nat} {E : TypeId} {m : Nat} {v : Value} {rows : List (List Value)} (h : OwnL w B E m v rows) (hg : w.grownBy w' row) (hne : v.ownBlock = none ∨ v.ownBlock ≠ row) : OwnL w' B E m v rows :=
  ⟨h.own.kept hg hne, h.wid, h.one⟩
theorem OwnL.below {w w' : World} {B : Nat} {E : TypeId} {m : Nat} {v : Value} {rows : List (List Value)} (h : OwnL w B E m v rows) (hb : Below w.heap.size w w') : OwnL w' B E m v rows :=
  h.kept (row := none) ⟨hb.os, hb.tape, hb.output, hb.size, fun i hi _ => hb.block i hi⟩ (by cases v.ownBlock <;> simp)
theorem OwnL.lt {w : World} {B : Nat} {E : TypeId} {m : Nat} {v : Value} {rows : List (List Value)} (h : OwnL w B E m v rows) : ∀ g, v.ownBlock = some g → B ≤ g ∧ g < w.heap.size := h.own.lt
/-- What is known of an element's type. -/
structure Elem (P : Program) (t e : TypeId) (m bytes : Nat) : Prop where
  und : P.underlying t = some (.slice e)
  info : ∃ i z, P.info? e = some i ∧ i.zero = some z ∧ i.size = m ∧ i.bytes = bytes ∧ z.cells.size = m
  pos : 0 < m
theorem Elem.mk' {P : Program} {t e : TypeId} {m bytes : Nat} {z : Value} (hu : P.underlying t = some (.slice e)) (h : (P.info? e).map (fun i => (i.zero, i.size, i.bytes)) = some (some z, m, bytes)) (hz : z.cells.size = m) (hm : 0 < m) : Elem P t e m bytes := by
  obtain ⟨i, hi, h1, h2, h3⟩ := info_parts h
  exact ⟨hu, ⟨i, z, hi, h1, h2, h3, hz⟩, hm⟩
theorem run_append_none_any {P : Program} {w : World} (base : Nat) (t ty e : TypeId) (i : TypeInfo) (size c : Nat) (ht : P.underlying t = some (.slice e)) (hi : P.info? e = some i)
    (v : Value) (n : Nat) (xs : List Value) (hown : w.ownsRow base e size v n xs) :
    (Builtin.append_ #[t, t] ty #[v, .slice none 0 c]).run P w = .ok v w := by
  rcases hown.2 with ⟨rfl, rfl⟩ | ⟨g, cap, cur, rfl, _, _, hnc, _⟩
  · simp [Builtin.append_, run_underlying ht, sizeOf, typeInfo, hi, Builtin.lenOf, Builtin.firstCells]
  · simp [Builtin.append_, run_underlying ht, sizeOf, typeInfo, hi, Builtin.lenOf, Builtin.firstCells, hnc, storeCells]
theorem run_append_rows {P : Program} {t e : TypeId} {m bytes : Nat} (el : Elem P t e m bytes) (ty : TypeId) {w : World} {B : Nat} {v : Value} {rows : List (List Value)} (h : OwnL w B e m v rows)
    {A : Option Addr} {n c : Nat} {rows2 : List (List Value)} (h2 : RowsAt w A m rows2) (hn : n = rows2.length) (hw : ∀ r ∈ rows2, r.length = m) (h1 : ∀ r ∈ rows2, ∀ u ∈ r, u.oneCell' = true)
    (h63 : rows.length + rows2.length ≤ 4000000000) (hby : bytes ≤ 10000) (hbase : B ≤ w.heap.size) :
    ∃ v' w', (Builtin.append_ #[t, t] ty #[v, .slice A n c]).run P w = .ok v' w' ∧ OwnL w' B e m v' (rows ++ rows2) ∧ w.grownBy w' v.ownBlock ∧ (v'.ownBlock = v.ownBlock ∨ v'.ownBlock = some w.heap.size) := by
  subst hn
  obtain ⟨i, z, hi, hz, hsize, hb, hzs⟩ := el.info
  have hwid : ∀ r ∈ rows ++ rows2, r.length = m := fun r hr => by rcases List.mem_append.1 hr with h' | h'; exact h.wid r h'; exact hw r h'
  have hone : ∀ r ∈ rows ++ rows2, ∀ u ∈ r, u.oneCell' = true := fun r hr => by rcases List.mem_append.1 hr with h' | h'; exact h.one r h'; exact h1 r h'
  have hml : 4000000000 * 10000 ≤ 140737488355328 := by decide
  have hbb : (rows.length + rows2.length) * bytes ≤ 140737488355328 := Nat.le_trans (Nat.mul_le_mul h63 hby) hml
  cases A with
  | none =>
    have h0 : rows2 = [] := by
      cases rows2 with
      | nil => rfl
      | cons q r => obtain ⟨b, o, hA, _⟩ := h2 0 q rfl; cases hA
    subst h0
    refine ⟨v, w, run_append_none_any (P := P) (w := w) B t ty e i m c el.und hi v _ _ h.own, ?_, ⟨rfl, rfl, rfl, Nat.le_refl _, fun _ _ _ => rfl⟩, .inl rfl⟩
    rw [List.append_nil]; exact h
  | some ad =>
    have hlen2 : rows2.flatten.length = rows2.length * m := flat_len hw
    have hnews : ∀ j u, rows2.flatten[j]? = some u → w.cell? (ad.add j) = some u := fun j u hu => by
      obtain ⟨r, hr, hru⟩ := flat_of el.pos hw hu
      obtain ⟨b, o, hA, _, hc⟩ := h2 _ r hr
      cases hA
      have := hc _ u hru
      rw [addr_add, ← this]
      rw [show j / m * m + j % m = j by rw [Nat.mul_comm]; exact Nat.div_add_mod ..]
    have hon : ∀ u ∈ rows2.flatten, u.oneCell' = true := fun u hu => by obtain ⟨r, hr, hur⟩ := List.mem_flatten.1 hu; exact h1 r hr u hur
    obtain ⟨v', w', hr, ho, hg, _, hob⟩ := run_append_own_at (P := P) w B t ty e i z m bytes el.und hi hz hsize hb hzs el.pos v rows.length rows.flatten h.own ad rows2.length c rows2.flatten hlen2 hnews hon (by unfold maxLen; omega) hbb hbase
    refine ⟨v', w', hr, ⟨?_, hwid, hone⟩, hg, hob⟩
    rw [List.length_append, List.flatten_append]; exact ho
theorem wp_of_append {P : Program} {w w' : World} {o : Oper} {a : Act} {K : Act → World → Prop} {Q : Exit → Act → World → Prop} (s x : Operand) (t : TypeId)
    (ho : o.op = .call { callee := .builtin .append, args := #[s, x], argTypes := #[t, t] }) {v u v' : Value} (hs : a.eval s = v) (hx : a.eval x = u)
    (hr : (Builtin.append_ #[t, t] o.type #[v, u]).run P w = .ok v' w') (h : K (a.put o.dst v') w') : o.wp P a w K Q := by
  unfold Oper.wp execOp
  simp only [ho, resolve, invoke, builtin, Sem.run_bind, Sem.run_pure, Result.andThen_ok, List.map_toArray, List.map_cons, List.map_nil, hs, hx, hr]
  exact h
/-- At the list of a plain region's operations. -/
theorem wpList_append_rows {P : Program} {t e : TypeId} {m bytes : Nat} (el : Elem P t e m bytes) {w : World} {ops : Array Oper} {rest : List Oper} {o : Oper} {a : Act} {Q : Exit → Act → World → Prop} (hgd : o.guard = none) (s x : Operand)
    (ho : o.op = .call { callee := .builtin .append, args := #[s, x], argTypes := #[t, t] }) {v : Value} {A : Option Addr} {n c : Nat} (hs : a.eval s = v) (hx : a.eval x = .slice A n c)
    {B : Nat} {rows : List (List Value)} (h : OwnL w B e m v rows) {rows2 : List (List Value)} (h2 : RowsAt w A m rows2) (hn : n = rows2.length) (hw : ∀ r ∈ rows2, r.length = m) (h1 : ∀ r ∈ rows2, ∀ u ∈ r, u.oneCell' = true)
    (h63 : rows.length + rows2.length ≤ 4000000000) (hby : bytes ≤ 10000) (hbase : B ≤ w.heap.size)
    (hK : ∀ v' w', OwnL w' B e m v' (rows ++ rows2) → w.grownBy w' v.ownBlock → (v'.ownBlock = v.ownBlock ∨ v'.ownBlock = some w.heap.size) → wpList P ops Q rest (a.put o.dst v') w') : wpList P ops Q (o :: rest) a w :=
  wpList_plain hgd fun _ hK' => by
    obtain ⟨v', w', hr, h3, h4, h5⟩ := run_append_rows el o.type h h2 hn hw h1 h63 hby hbase
    exact wp_of_append s x t ho hs hx hr (hK' _ _ (hK v' w' h3 h4 h5))
/-- At a step of a region that draws its order. -/
theorem step_append_rows {P : Program} {t e : TypeId} {m bytes : Nat} (el : Elem P t e m bytes) {w : World} {ops : Array Oper} {o : Oper} {a : Act} {K : Act → World → Prop} {Q : Exit → Act → World → Prop} {E : Prop} (hgd : o.guard = none) (s x : Operand)
    (ho : o.op = .call { callee := .builtin .append, args := #[s, x], argTypes := #[t, t] }) {v : Value} {A : Option Addr} {n c : Nat} (hs : a.eval s = v) (hx : a.eval x = .slice A n c)
    {B : Nat} {rows : List (List Value)} (h : OwnL w B e m v rows) {rows2 : List (List Value)} (h2 : RowsAt w A m rows2) (hn : n = rows2.length) (hw : ∀ r ∈ rows2, r.length = m) (h1 : ∀ r ∈ rows2, ∀ u ∈ r, u.oneCell' = true)
    (h63 : rows.length + rows2.length ≤ 4000000000) (hby : bytes ≤ 10000) (hbase : B ≤ w.heap.size)
    (hK : ∀ v' w', OwnL w' B e m v' (rows ++ rows2) → w.grownBy w' v.ownBlock → (v'.ownBlock = v.ownBlock ∨ v'.ownBlock = some w.heap.size) → K (a.put o.dst v') w') : if Region.wanted o (yielded ops a.tmps) = true then Oper.wp P o a w K Q else E := by
  have hwt : Region.wanted o (yielded ops a.tmps) = true := by simp [Region.wanted, hgd]
  rw [if_pos hwt]
  obtain ⟨v', w', hr, h3, h4, h5⟩ := run_append_rows el o.type h h2 hn hw h1 h63 hby hbase
  exact wp_of_append s x t ho hs hx hr (hK v' w' h3 h4 h5)
/-- A row that has just been laid into a block of its own. -/
theorem rowsAt_new (w : World) (r : List Value) (t : TypeId) : RowsAt (w.alloc (.cells r.toArray t)) (some ⟨w.heap.size, 0, none⟩) r.length [r] := fun k q hq => by
  match k, hq with
  | 0, hq =>
    simp only [List.getElem?_cons_zero, Option.some.injEq] at hq
    subst hq
    refine ⟨w.heap.size, 0, rfl, by simp, fun j v hv => ?_⟩
    rw [cell_of_row _ _ _ r.toArray t (0, 0) (heap_alloc_new w _)]
    simpa using hv
theorem grown_below {w w' : World} {B : Nat} {v : Value} (h : w.grownBy w' v.ownBlock) (hB : ∀ g, v.ownBlock = some g → B ≤ g) (hs : B ≤ w.heap.size) : Below B w w' :=
  (Below.refl _ _).grown h hs (fun k e => hB k e)
end Go.Proofs.YtoigamkldccnkaaDoor
