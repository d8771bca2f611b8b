/- Chapter 8 and what it rests on: definitions and walks, part 46. -/
import Derived.Test.YtbegbajlagcbdaaGreatDoorC25
import Derived.Test.YtbegbajlagcbdaaGreatDoorC13
import Derived.Test.YtbegbajlagcbdaaGreatDoorC06
import Derived.RangeFuncNested
import Derived.RangeFuncBound
import Derived.RangeFuncCalls
import Derived.RangeFuncLeaves
import Derived.RangeFuncBox
import Derived.Shelf.Abstract
import Derived.Shelf.RegionOpen
import Derived.OwnWalkIn
import Derived.TacticsInMore
import Derived.LoopNIn
import Derived.LoopIn
import Derived.Test.YtbegbajlagcbdaaGreatDoorC08
import Derived.Sort.LoopGhostIn
namespace Go.Proofs.YtbegbajlagcbdaaGreatDoor
open Go Go.RowKit Go.Shelf
theorem wpListF_append_rows {F : Fence} {n0 : Nat} {P : Program} {t e : TypeId} {m bytes : Nat} (el : Elem P t e m bytes) {w : World} {ops : Array Oper} {rest : List Oper} {o : Oper} {a : Act} {Q : Exit → Act → World → Prop} (hg : o.guard = none) (s x : Operand)
    (hop : o.op = Op.call { callee := Callee.builtin Builtin.append, args := #[s, x], argTypes := #[t, t] }) {v : Value} {A : Option Addr} {n c : Nat} (hs : a.eval s = v) (hx : a.eval x = .slice A n c)
    {B : Nat} {rows : List (List Value)} (h : OwnL w B e m v rows) {rows2 : List (List Value)} (h2 : RowsAt w A m rows2) (hn : n = rows2.length) (hw : ∀ r ∈ rows2, r.length = m) (h1 : ∀ r ∈ rows2, ∀ u ∈ r, u.oneCell' = true)
    (h63 : rows.length + rows2.length ≤ 4000000000) (hby : bytes ≤ 10000) (hbase : B ≤ w.heap.size)
    (hK : ∀ v' w', OwnL w' B e m v' (rows ++ rows2) → w.grownBy w' v.ownBlock → (v'.ownBlock = v.ownBlock ∨ v'.ownBlock = some w.heap.size) → wpListIn F n0 P ops Q rest (a.put o.dst v') w') : wpListIn F n0 P ops Q (o :: rest) a w := by
  refine wpListIn_plain hg fun K hK' => ?_
  obtain ⟨v', w', hrun, h3, h4, h5⟩ := run_append_rows el o.type h h2 hn hw h1 h63 hby hbase
  unfold Oper.wpIn
  refine ⟨?_, ?_⟩
  · simp [Oper.about, hop, resolve, Target.leads, Sem.run_pure]
  · rw [Oper.semAt_plain F _ _ (by rw [hop]; intro c hc'; cases hc')]
    simp only [execOp, hop, resolve, invoke, builtin, Sem.run_bind, Sem.run_pure, Result.andThen_ok, List.map_toArray, List.map_cons, List.map_nil, hs, hx]
    rw [hrun]
    exact hK' _ _ (hK v' w' h3 h4 h5)
theorem wpListF_load_mid {F : Fence} {n0 : Nat} {P : Program} {ops : Array Oper} {rest : List Oper} {o : Oper} {a : Act} {w : World} {Q : Exit → Act → World → Prop} (hg : o.guard = none) (ty : TypeId) (x : Operand) (ho : o.op = .load ty x)
    (b k : Nat) (hx : a.eval x = .pointer (some ⟨b, k, none⟩)) (cs : List Value) (d : TypeDesc) (hc : w.rangeAt b k cs)
    (hu : P.underlying ty = some d) (hd : d.isRow = true) (hi : (P.info? ty).map (·.size) = some cs.length)
    (h : wpListIn F n0 P ops Q rest (a.put o.dst (.agg cs.toArray)) w) : wpListIn F n0 P ops Q (o :: rest) a w := by
  refine wpListIn_plain hg fun K hK' => ?_
  unfold Oper.wpIn
  refine ⟨?_, ?_⟩
  · simp [Oper.about, ho]
  · rw [Oper.semAt_plain F _ _ (by rw [ho]; intro c hc'; cases hc')]
    simp only [execOp, ho, hx, Instr.loadAt, Instr.sureAddr, Sem.run_bind, Sem.run_pure, Result.andThen_ok, run_loadVar_mid w b k ty cs d hc hu hd hi]
    exact hK' _ _ h
theorem wpListF_store_box {F : Fence} {n0 : Nat} {P : Program} {ops : Array Oper} {rest : List Oper} {op : Oper} {a : Act} {w : World} {Q : Exit → Act → World → Prop} (hgd : op.guard = none) (ty : TypeId) (x y : Operand) (ho : op.op = .store ty x y)
    (b : Nat) (cs0 cs : List Value) (hx : a.eval x = .pointer (some ⟨b, 0, none⟩)) (hy : a.eval y = .agg cs.toArray) (hB : BoxAt w b cs0) (hl : cs.length = cs0.length)
    (hi : (P.info? ty).map (·.size) = some cs.length) (h1 : cs.toArray.all (·.oneCell') = true)
    (h : ∀ w', BoxAt w' b cs → w.grownBy w' (some b) → wpListIn F n0 P ops Q rest (a.put op.dst undef) w') : wpListIn F n0 P ops Q (op :: rest) a w := by
  refine wpListIn_plain hgd fun K hK' => ?_
  unfold Oper.wpIn
  refine ⟨?_, ?_⟩
  · simp [Oper.about, ho]
  · rw [Oper.semAt_plain F _ _ (by rw [ho]; intro c hc'; cases hc')]
    simp only [execOp, ho, hx, hy, Instr.storeAt, Instr.sureAddr, Sem.run_bind, Sem.run_pure, Result.andThen_ok, run_storeVar_mid w b 0 ty cs.toArray (by rw [List.size_toArray, hl]; exact hB.there) (by simpa using hi) h1]
    exact hK' _ _ (h _ (hB.put cs hl) (grown_setCells b cs 0 w))
theorem OwnL.keptF {W W' : World} {row : Option Nat} {B : Nat} {E : TypeId} {m : Nat} {v : Value} {rows : List (List Value)} (h : OwnL W B E m v rows) (hg : W.grownBy W' row) (hr : Others W row) : OwnL W' B E m v rows := by
  refine h.kept hg ?_
  rcases h.own.2 with ⟨rfl, _⟩ | ⟨g, cap, cur, rfl, _, hh, _⟩
  · exact .inl rfl
  · right
    intro e
    obtain ⟨o, ho, hc⟩ := hr g (by rw [← e]; rfl)
    rw [hh] at ho
    cases ho
    cases hc
theorem BoxAt.keptF {W W' : World} {row : Option Nat} {B : Nat} {cs : List Value} (h : BoxAt W B cs) (hg : W.grownBy W' row) (hr : Others W row) : BoxAt W' B cs :=
  ⟨fun j v hv => cell_kept (h.range j v hv) hg hr, fun j hj => by
    obtain ⟨v, hv⟩ : ∃ v, cs[j]? = some v := ⟨_, List.getElem?_eq_getElem hj⟩
    have := h.range j v hv
    rw [Nat.zero_add] at this
    exact (frozen_kept this hg hr).trans (h.free j hj), Nat.lt_of_lt_of_le h.lt hg.size⟩
theorem OwnL.keepsF {W W' : World} {B : Nat} {E : TypeId} {m : Nat} {v : Value} {rows : List (List Value)} (h : OwnL W B E m v rows) (hg : W.grownBy W' v.ownBlock) : KeepsOthers W W' := by
  refine KeepsOthers.of_grownBy hg fun j o e ho => ?_
  rcases h.own.2 with ⟨rfl, _⟩ | ⟨g, cap, cur, rfl, _, hh, _⟩
  · cases e
  · cases e
    rw [hh] at ho
    cases ho; rfl
theorem OwnL.offF {w : World} {B B' : Nat} {E : TypeId} {m : Nat} {v : Value} {rows : List (List Value)} (h : OwnL w B E m v rows) (o : Nat) (u : Value) (hne : B' < B) : OwnL (w.setCell ⟨B', o, none⟩ u) B E m v rows := by
  refine OwnL.kept h (grown_set _ B' o _) ?_
  cases hv : v.ownBlock with
  | none => exact .inl rfl
  | some g => right; intro e; have := (h.lt g hv).1; injection e with e; omega
theorem BoxAt.offF {w : World} {B B' : Nat} {cs : List Value} (h : BoxAt w B cs) (o : Nat) (v : Value) (hne : B ≠ B') : BoxAt (w.setCell ⟨B', o, none⟩ v) B cs := h.grown (grown_set w B' o v) (fun e => hne (by cases e; rfl))
theorem keepsF_below {W W' : World} (hb : Below W.heap.size W W') : KeepsOthers W W' := KeepsOthers.of_grownBy (below_grown hb none) (fun j o e => by cases e)
theorem belowF_put {w W : World} (h : Below w.heap.size w W) {D : Nat} (hD : w.heap.size ≤ D) (o : Obj) : Below w.heap.size w (W.putObj D o) :=
  h.grown (grownBy_putObj' W D o) h.size (fun k e => by cases e; exact hD)
theorem keepsF_box {W W' : World} {b : Nat} {cs : List Value} (hB : BoxAt W b cs) (h0 : 0 < cs.length) (hg : W.grownBy W' (some b)) : KeepsOthers W W' := by
  refine KeepsOthers.of_grownBy hg fun j o e ho => ?_
  cases e
  obtain ⟨v, hv⟩ : ∃ v, cs[0]? = some v := ⟨_, List.getElem?_eq_getElem h0⟩
  have := hB.c 0 v hv
  unfold World.cell? at this
  simp only [ho] at this
  cases o <;> simp_all [Obj.isCells]
theorem OwnCell.box {W : World} {b : Nat} {v : Value} (h : OwnCell W b v) : BoxAt W b [v] := by
  refine ⟨fun j u hu => ?_, fun j hj => ?_, ?_⟩
  · cases j with
    | zero => simp only [List.getElem?_cons_zero, Option.some.injEq] at hu; subst hu; exact h.cell
    | succ j => simp at hu
  · obtain rfl : j = 0 := by simp at hj; exact hj
    exact h.free
  · have h1 := h.cell
    unfold World.cell? at h1
    apply Classical.byContradiction
    intro hn
    simp [Array.getElem?_eq_none (Nat.le_of_not_lt hn)] at h1
theorem BoxAt.own {W : World} {b : Nat} {v : Value} (h : BoxAt W b [v]) : OwnCell W b v := ⟨h.c 0 _ rfl, h.free 0 Nat.zero_lt_one⟩
end Go.Proofs.YtbegbajlagcbdaaGreatDoor
namespace Go.Proofs.YtbegbajlagcbdaaGreatDoor
open Go Go.RowKit Go.Shelf
attribute [local go_sem] Oper.semAt_some
/-- The first line of a text, with its end; what comes behind it. -/
def nlAt (l : List UInt8) : Nat := (Lib.indexByte l 10).toNat + 1
def lnE (r : ByteArray) : ByteArray := if 10 ∈ r.data.toList then r.extract 0 (nlAt r.data.toList) else r
def lnN (r : ByteArray) : ByteArray := if 10 ∈ r.data.toList then r.extract (nlAt r.data.toList) r.size else ⟨#[]⟩
theorem ln_cases (r : ByteArray) : (Lib.indexByte r.data.toList 10 = -1 ∧ 10 ∉ r.data.toList) ∨
    ∃ i : Nat, Lib.indexByte r.data.toList 10 = i ∧ i < r.size ∧ 10 ∉ r.data.toList.take i ∧ r.data.toList = r.data.toList.take i ++ 10 :: r.data.toList.drop (i + 1) := by
  rw [← Lib.index_one, ← list_len]
  exact Cal.index_byte_cases r.data.toList 10
/-- A line that has an end: what it is, and what comes behind it. -/
theorem ln_hit {r : ByteArray} {i : Nat} (h1 : Lib.indexByte r.data.toList 10 = i) (h4 : r.data.toList = r.data.toList.take i ++ 10 :: r.data.toList.drop (i + 1)) :
    lnE r = r.extract 0 (i + 1) ∧ lnN r = r.extract (i + 1) r.size := by
  have hm : 10 ∈ r.data.toList := by rw [h4]; simp
  unfold lnE lnN nlAt
  rw [if_pos hm, if_pos hm, h1]
  exact ⟨rfl, rfl⟩
theorem ln_miss {r : ByteArray} (h : 10 ∉ r.data.toList) : lnE r = r ∧ lnN r = ⟨#[]⟩ := by
  unfold lnE lnN
  rw [if_neg h, if_neg h]
  exact ⟨rfl, rfl⟩
/-- What the iterator's cell holds ahead of each step. -/
structure LnInv (Bs : Nat) (r : ByteArray) (W : World) : Prop where
  cell : OwnCell W Bs (.string r)
  size : r.size ≤ 1000000
def LnStep (_ : ByteArray) (_ _ : World) : Prop := False
def LnAsk (Bs : Nat) (r : ByteArray) (A B : World) : Prop := 0 < r.size ∧ A.grownBy B (some Bs) ∧ OwnCell B Bs (.string (lnN r))
def LnPost (J : ByteArray → World → Prop) (Jx : World → Prop) (e : Ending) (W' : World) : Prop := (∃ v, e = .returned v) ∧ ((∃ s, s.size = 0 ∧ J s W') ∨ Jx W')
theorem ln_keep {Bs : Nat} (s : ByteArray) (A B : World) (k : Nat) (o : Obj) (h : LnInv Bs s A) (hs : LnStep s A B ∨ LnAsk Bs s A B) (hk : A.heap[k]? = some o) (hb : isBook o = true) : B.heap[k]? = some o := by
  have hg : A.grownBy B (some Bs) := by rcases hs with h | h; exact h.elim; exact h.2.1
  refine (hg.block k (Array.getElem?_eq_some_iff.1 hk).1 (fun e => ?_)).trans hk
  cases e
  have hc := h.cell.cell
  have hn := not_cells_of_book hb
  unfold World.cell? at hc
  simp only [hk] at hc
  cases o <;> simp_all [isBook]
theorem IndexByte10_any (s : ByteArray) (w : World) : Calls Tryz.prog 154 #[.string s, .int .u8 10] w fun e w' => e = .returned (.int .i64 (Lib.indexByte s.data.toList 10)) ∧ w = w' :=
  (Tryz.strings_IndexByte s 10 w).mono fun _ _ ⟨h1, h2⟩ => ⟨h1, h2.symm⟩
theorem Lines_any (s : ByteArray) (w : World) :
    Calls Tryz.prog 94 #[.string s] w fun e w' => e = .returned (.func (.func 153) #[] #[.pointer (some ⟨w.heap.size, 0, none⟩)]) ∧ w' = w.alloc (.cells #[.string s] 9) := by
  go_enter Tryz.func94, Tryz.ntmps94
  go_wp2
  go_ret
  exact ⟨rfl, rfl⟩
set_option maxRecDepth 100000 in
set_option maxHeartbeats 2000000 in
theorem lines_raw (Bs : Nat) (s : ByteArray) (n : Nat) (hn : 1 ≤ n) :
    SeqRaw Fence.wide n Tryz.prog 153 #[.pointer (some ⟨Bs, 0, none⟩)] (fun r : ByteArray => #[.string (lnE r)]) lnN (LnInv Bs) LnStep (LnAsk Bs) (fun r => r.size = 0) s := by
  intro l J Jx W hInv _ hAsk h0
  show CallsIn Fence.wide n Tryz.prog 153 _ W (LnPost J Jx)
  refine callsIn_of_wp Tryz.func153 rfl trivial ?_ rfl
  simp only [Tryz.ntmps153, List.size_toArray, List.length_cons, List.length_nil, Nat.reduceAdd, Nat.reduceSub, Array.replicate_succ, Array.replicate_zero, List.push_toArray, List.append_toArray, List.nil_append, List.cons_append]
  have hInv := Lib.hid hInv
  have hAsk := Lib.hid hAsk
  gi_wp2
  gi_loopg [] s.size (fun k wr => ∃ r : ByteArray, k = r.size ∧ J r wr)
  case atStart => exact ⟨s, rfl, h0⟩
  case round =>
    obtain ⟨r, rfl, hJ⟩ := hrel
    have hi := hInv.out _ _ hJ
    have hc := hi.cell.cell
    have hf := hi.cell.free
    have hsz := hi.size
    have hii := Lib.hid hi
    have hJz := Lib.hid hJ
    clear hi hJ h0
    by_cases h0 : r.size = 0
    · gi_wp2
      refine bodyPost_end (results_none rfl _ _ _) rfl ?_
      exact ⟨⟨_, rfl⟩, .inl ⟨r, h0, hJz.out⟩⟩
    · have h0' : 0 < r.size := by omega
      clear h0
      rcases ln_cases r with ⟨h1, h2⟩ | ⟨i, h1, h2, h3, h4⟩
      · obtain ⟨e1, e2⟩ := ln_miss h2
        have hy1 := hAsk.out r wr (wr.setCell ⟨Bs, 0, none⟩ (.string ⟨#[]⟩)) hJz.out ⟨h0', grown_set _ _ _ _, by rw [e2]; exact hii.out.cell.set_ _⟩
        rw [e1] at hy1
        have hnx : Hid (lnN r = ⟨#[]⟩) := e2
        clear e1 e2 h2
        obtain ⟨fn, tmps, assign, body, hy, hR⟩ := hy1
        gi_wp2_with (refine ⟨trivial, ?_⟩; gi_at_call 154; refine (callsIn_wide.2 (IndexByte10_any _ _)).mono ?_; rintro e w' ⟨rfl, rfl⟩; rw [h1])
        refine hR.mono ?_
        clear hy hR
        rintro e w2 (⟨rfl, hJ2⟩ | ⟨rfl, hJx⟩)
        · have hJ2 := Lib.hid hJ2
          gi_wp2
          gi_roundg (0 : Nat)
          case rel => exact ⟨lnN r, by rw [hnx.out]; rfl, hJ2.out⟩
          case measure => exact h0'
        · have hJx := Lib.hid hJx
          gi_wp2
          refine bodyPost_ret (results_none rfl _ _ _) rfl ?_
          exact ⟨⟨_, rfl⟩, .inr hJx.out⟩
      · obtain ⟨e1, e2⟩ := ln_hit h1 h4
        have hsz2 : Hid (i + 1 ≤ r.size ∧ (lnN r).size < r.size) := by
          refine ⟨h2, ?_⟩
          rw [e2, ByteArray.size_extract]
          omega
        have e1 := Lib.hid e1
        have e2 := Lib.hid e2
        clear h3 h4
        gi_wp2_with (refine ⟨trivial, ?_⟩; gi_at_call 154; refine (callsIn_wide.2 (IndexByte10_any _ _)).mono ?_; rintro e w' ⟨rfl, rfl⟩; rw [h1])
        gi_region
        have hy1 := hAsk.out r wr (wr.setCell ⟨Bs, 0, none⟩ (.string (r.extract (i + 1) r.size))).drew hJz.out ⟨h0', (grown_set _ _ _ _).trans (grown_drewN _ 1 _), by rw [e2.out]; exact ⟨(hii.out.cell.set_ _).cell, (hii.out.cell.set_ _).free⟩⟩
        rw [e1.out] at hy1
        obtain ⟨fn, tmps, assign, body, hy, hR⟩ := hy1
        gi_wp2_with fail
        refine hR.mono ?_
        clear hy hR
        rintro e w2 (⟨rfl, hJ2⟩ | ⟨rfl, hJx⟩)
        · have hJ2 := Lib.hid hJ2
          gi_wp2
          gi_roundg (lnN r).size
          case rel => exact ⟨lnN r, rfl, hJ2.out⟩
          case measure => exact hsz2.out.2
        · have hJx := Lib.hid hJx
          gi_wp2
          refine bodyPost_ret (results_none rfl _ _ _) rfl ?_
          exact ⟨⟨_, rfl⟩, .inr hJx.out⟩
end Go.Proofs.YtbegbajlagcbdaaGreatDoor
