/- Chapter 8 and what it rests on: definitions and walks, part 25. -/
import Derived.Test.YtbegbajlagcbdaaGreatDoorC01
import Derived.Test.YtbegbajlagcbdaaGreatDoorC24
import Derived.Test.YtbegbajlagcbdaaGreatDoorC10
import Derived.Test.YtbegbajlagcbdaaGreatDoorC11
import Derived.Test.YtbegbajlagcbdaaGreatDoorC20
import Derived.RangeFuncNested
import Derived.RangeFuncBound
import Derived.RangeFuncCalls
import Derived.RangeFuncLeaves
import Derived.RangeFuncBox
import Derived.Shelf.Abstract
import Derived.Shelf.RegionOpen
import Derived.OwnWalkIn
import Derived.TacticsInMore
import Derived.LoopNIn
import Derived.LoopIn
import Derived.Test.YtbegbajlagcbdaaGreatDoorC14
namespace Go.Proofs.YtbegbajlagcbdaaGreatDoor
open Go Go.RowKit Go.ChangeShapes Go.WideShapes Go.Deep
section
variable {H : Type} {enc : TypeId × Value → H} {w : World} {spare : Nat → Bool} {held : Bool} {r : Reach} {b0 : Nat} {v : Value} {d : DataW H} {ps : List MemPlace}
set_option maxRecDepth 100000 in
theorem hols_of_trod {fuel : Nat} {x : DataW H × List MemPlace} (hf : DataW.trod enc Tryz.prog w 0 spare held fuel 45 [v] = some x) : ∃ (A : Option Addr) (l : List Hol) (c : Nat), v = .slice A l.length c ∧ Hols w A l := by
  obtain ⟨A, len, cap, hcs, hlen, hq⟩ := rows_of_open Tryz.underlying45 Tryz.underlying202 (by kernel_rfl) (by kernel_rfl) (by decide) hf
  have he : v = .slice A len cap := by simpa using hcs
  subst he
  have h1 : ∀ i, i < len → ∃ p : Hol, p.name.size ≤ maxLen ∧ ∃ b o, A = some ⟨b, o, none⟩ ∧ b < w.heap.size ∧ ∀ j v, p.cells[j]? = some v → w.cell? ⟨b, o + (i * 5 + j), none⟩ = some v := fun i hi => by
    obtain ⟨b, o, n, hA, hb, hf⟩ := hq i hi
    obtain ⟨v0, y0, c0, t0⟩ := hf 0 _ rfl
    obtain ⟨v1, y1, c1, t1⟩ := hf 1 _ rfl
    obtain ⟨v2, y2, c2, t2⟩ := hf 2 _ rfl
    obtain ⟨v3, y3, c3, t3⟩ := hf 3 _ rfl
    obtain ⟨v4, y4, c4, t4⟩ := hf 4 _ rfl
    obtain ⟨s0, e0, _, g0⟩ := DataW.trod_string Tryz.underlying9 t0
    obtain ⟨s1, e1, _, _⟩ := DataW.trod_int Tryz.underlying3 t1
    obtain ⟨s2, e2, _, _⟩ := DataW.trod_int Tryz.underlying3 t2
    obtain ⟨s3, e3, _, _⟩ := DataW.trod_int Tryz.underlying3 t3
    obtain ⟨s4, e4, _, _⟩ := DataW.trod_int Tryz.underlying3 t4
    cases e0; cases e1; cases e2; cases e3; cases e4
    refine ⟨⟨s0, s1, s2, s3, s4⟩, g0, b, o, hA, hb, fun j v hv => ?_⟩
    match j, hv with
    | 0, hv => cases hv; exact c0
    | 1, hv => cases hv; exact c1
    | 2, hv => cases hv; exact c2
    | 3, hv => cases hv; exact c3
    | 4, hv => cases hv; exact c4
    | j + 5, hv => simp [Hol.cells] at hv
  obtain ⟨l, hl, hq'⟩ := list_of len h1
  subst hl
  refine ⟨A, l, cap, rfl, ⟨fun k r hr => ?_, by unfold maxLen at hlen; omega, fun k p hp => (hq' k p hp).1⟩⟩
  rw [List.getElem?_map] at hr
  cases hk : l[k]? with
  | none => rw [hk] at hr; cases hr
  | some p => rw [hk] at hr; cases hr; exact (hq' k p hk).2
set_option maxRecDepth 100000 in
theorem acts_of_trod {fuel : Nat} {x : DataW H × List MemPlace} (hf : DataW.trod enc Tryz.prog w 0 spare held fuel 91 [v] = some x) : ∃ (A : Option Addr) (l : List NAct) (c : Nat), v = .slice A l.length c ∧ Acts w A l := by
  obtain ⟨A, len, cap, hcs, hlen, hq⟩ := rows_of_open Tryz.underlying91 Tryz.underlying109 (by kernel_rfl) (by kernel_rfl) (by decide) hf
  have he : v = .slice A len cap := by simpa using hcs
  subst he
  have h1 : ∀ i, i < len → ∃ p : NAct, ∃ b o, A = some ⟨b, o, none⟩ ∧ b < w.heap.size ∧ ∀ j v, p.cells[j]? = some v → w.cell? ⟨b, o + (i * 3 + j), none⟩ = some v := fun i hi => by
    obtain ⟨b, o, n, hA, hb, hf⟩ := hq i hi
    obtain ⟨v0, y0, c0, t0⟩ := hf 0 _ rfl
    obtain ⟨v1, y1, c1, t1⟩ := hf 1 _ rfl
    obtain ⟨v2, y2, c2, t2⟩ := hf 2 _ rfl
    obtain ⟨s0, e0, _, _⟩ := DataW.trod_int Tryz.underlying3 t0
    obtain ⟨s1, e1, _, _⟩ := DataW.trod_int Tryz.underlying3 t1
    obtain ⟨s2, e2, _, _⟩ := DataW.trod_int Tryz.underlying3 t2
    cases e0; cases e1; cases e2
    refine ⟨⟨s0, s1, s2⟩, b, o, hA, hb, fun j v hv => ?_⟩
    match j, hv with
    | 0, hv => cases hv; exact c0
    | 1, hv => cases hv; exact c1
    | 2, hv => cases hv; exact c2
    | j + 3, hv => simp [NAct.cells] at hv
  obtain ⟨l, hl, hq'⟩ := list_of len h1
  subst hl
  refine ⟨A, l, cap, rfl, ⟨fun k r hr => ?_, by unfold maxLen at hlen; omega⟩⟩
  rw [List.getElem?_map] at hr
  cases hk : l[k]? with
  | none => rw [hk] at hr; cases hr
  | some p => rw [hk] at hr; cases hr; exact hq' k p hk
set_option maxRecDepth 100000 in
theorem per_of_trod {fuel : Nat} {x : DataW H × List MemPlace} {a b c : Value} (hf : DataW.trod enc Tryz.prog w 0 spare held fuel 44 [a, b, c] = some x) : ∃ q : Per, a = .int .i64 q.m ∧ b = .int .i64 q.d ∧ c = .bool q.k := by
  have hu := Tryz.underlying44
  obtain ⟨m, xs, hlen, hxl, hi⟩ := trod_cells hu (by kernel_rfl) hf
  have h0 := hi 0 _ rfl
  have h1 := hi 1 _ rfl
  have h2 := hi 2 _ rfl
  match xs, hxl with
  | [y0, y1, y2], _ =>
    simp at h0 h1 h2
    obtain ⟨s0, e0, _, _⟩ := DataW.trod_int Tryz.underlying3 h0
    obtain ⟨s1, e1, _, _⟩ := DataW.trod_int Tryz.underlying3 h1
    obtain ⟨s2, e2, _⟩ := DataW.trod_bool Tryz.underlying4 h2
    cases e0; cases e1; cases e2
    exact ⟨⟨s0, s1, s2⟩, rfl, rfl, rfl⟩
set_option maxRecDepth 100000 in
theorem proc_of_open (hval : Value.okWide Tryz.prog w r b0 47 v) (h : DataW.Trod enc Tryz.prog w 0 spare held 47 v d ps) :
    ∃ (A : Option Addr) (c : Nat) (p : Proc), v = .agg #[.int .i64 p.runs.m, .int .i64 p.runs.d, .bool p.runs.k, .int .i64 p.obj.m, .int .i64 p.obj.d, .bool p.obj.k, .int .i64 p.wait.m, .int .i64 p.wait.d, .bool p.wait.k, .int .i64 p.exts, .int .i64 p.longest, .slice A p.hols.length c] ∧ Hols w A p.hols := by
  have hu := Tryz.underlying47
  unfold Value.okWide at hval
  rw [hu] at hval
  obtain ⟨cs, rfl, hcs, _⟩ := hval
  obtain ⟨fuel, hf⟩ := h
  obtain ⟨xs, n, _, _, _, hxl, hi⟩ := DataW.trod_struct hu hf
  have h0 : DataW.trod enc Tryz.prog w 0 spare held n 44 (((Value.agg cs).cells.toList.drop 0).take (Tryz.prog.cellsOf 44)) = xs[0]? := hi 0 _ rfl
  have h1 : DataW.trod enc Tryz.prog w 0 spare held n 44 (((Value.agg cs).cells.toList.drop 3).take (Tryz.prog.cellsOf 44)) = xs[1]? := hi 1 _ rfl
  have h2 : DataW.trod enc Tryz.prog w 0 spare held n 44 (((Value.agg cs).cells.toList.drop 6).take (Tryz.prog.cellsOf 44)) = xs[2]? := hi 2 _ rfl
  have h3 : DataW.trod enc Tryz.prog w 0 spare held n 3 (((Value.agg cs).cells.toList.drop 9).take (Tryz.prog.cellsOf 3)) = xs[3]? := hi 3 _ rfl
  have h4 : DataW.trod enc Tryz.prog w 0 spare held n 3 (((Value.agg cs).cells.toList.drop 10).take (Tryz.prog.cellsOf 3)) = xs[4]? := hi 4 _ rfl
  have h5 : DataW.trod enc Tryz.prog w 0 spare held n 45 (((Value.agg cs).cells.toList.drop 11).take (Tryz.prog.cellsOf 45)) = xs[5]? := hi 5 _ rfl
  rw [show Tryz.prog.cellsOf 47 = 12 by kernel_rfl] at hcs
  rw [show Tryz.prog.cellsOf 3 = 1 by kernel_rfl] at h3 h4
  rw [show Tryz.prog.cellsOf 45 = 1 by kernel_rfl] at h5
  rw [show Tryz.prog.cellsOf 44 = 3 by kernel_rfl] at h0 h1 h2
  obtain ⟨l⟩ := cs
  match l, hcs with
  | [a0, a1, a2, a3, a4, a5, a6, a7, a8, a9, a10, a11], _ =>
    match xs, hxl with
    | [y0, y1, y2, y3, y4, y5], _ =>
      simp [Value.cells] at h0 h1 h2 h3 h4 h5
      obtain ⟨q0, e0, e1, e2⟩ := per_of_trod h0
      obtain ⟨q1, e3, e4, e5⟩ := per_of_trod h1
      obtain ⟨q2, e6, e7, e8⟩ := per_of_trod h2
      obtain ⟨s3, e9, _, _⟩ := DataW.trod_int Tryz.underlying3 h3
      obtain ⟨s4, e10, _, _⟩ := DataW.trod_int Tryz.underlying3 h4
      obtain ⟨A, l, c, e11, hl⟩ := hols_of_trod h5
      cases e9; cases e10
      subst e0 e1 e2 e3 e4 e5 e6 e7 e8 e11
      exact ⟨A, c, ⟨q0, q1, q2, s3, s4, l⟩, rfl, hl⟩
set_option maxRecDepth 100000 in
theorem note_of_open (hval : Value.okWide Tryz.prog w r b0 93 v) (h : DataW.Trod enc Tryz.prog w 0 spare held 93 v d ps) :
    ∃ (N : Option Addr) (d : Nat) (n : Note), v = .agg #[.string n.name, .int .i64 n.opened, .slice N n.acts.length d] ∧ Acts w N n.acts ∧ n.name.size ≤ maxLen := by
  have hu := Tryz.underlying93
  unfold Value.okWide at hval
  rw [hu] at hval
  obtain ⟨cs, rfl, hcs, _⟩ := hval
  obtain ⟨fuel, hf⟩ := h
  obtain ⟨m, xs, hlen, hxl, hi⟩ := trod_cells hu (by kernel_rfl) hf
  have h0 := hi 0 _ rfl
  have h1 := hi 1 _ rfl
  have h2 := hi 2 _ rfl
  rw [show Tryz.prog.cellsOf 93 = 3 by kernel_rfl] at hcs
  obtain ⟨l⟩ := cs
  match l, hcs with
  | [a, b, c], _ =>
    match xs, hxl with
    | [y0, y1, y2], _ =>
      simp [Value.cells] at h0 h1 h2
      obtain ⟨s0, e0, _, g0⟩ := DataW.trod_string Tryz.underlying9 h0
      obtain ⟨s1, e1, _, _⟩ := DataW.trod_int Tryz.underlying3 h1
      obtain ⟨N, l, k, e2, ha⟩ := acts_of_trod h2
      cases e0; cases e1
      subst e2
      exact ⟨N, k, ⟨s0, s1, l⟩, rfl, ha, g0⟩
end
end Go.Proofs.YtbegbajlagcbdaaGreatDoor
namespace Go.Proofs.YtbegbajlagcbdaaGreatDoor
open Go Go.RowKit Go.Shelf
attribute [local go_sem] Oper.semAt_some
theorem wpListIn_append_rows {F : Fence} {n0 : Nat} {P : Program} {t e : TypeId} {m bytes : Nat} (el : Elem P t e m bytes) {w : World} {ops : Array Oper} {rest : List Oper} {o : Oper} {a : Act} {Q : Exit → Act → World → Prop} (hg : o.guard = none) (s x : Operand)
    (hop : o.op = Op.call { callee := Callee.builtin Builtin.append, args := #[s, x], argTypes := #[t, t] }) {v : Value} {A : Option Addr} {n c : Nat} (hs : a.eval s = v) (hx : a.eval x = .slice A n c)
    {B : Nat} {rows : List (List Value)} (h : OwnL w B e m v rows) {rows2 : List (List Value)} (h2 : RowsAt w A m rows2) (hn : n = rows2.length) (hw : ∀ r ∈ rows2, r.length = m) (h1 : ∀ r ∈ rows2, ∀ u ∈ r, u.oneCell' = true)
    (h63 : rows.length + rows2.length ≤ 4000000000) (hby : bytes ≤ 10000) (hbase : B ≤ w.heap.size)
    (hK : ∀ v' w', OwnL w' B e m v' (rows ++ rows2) → w.grownBy w' v.ownBlock → (v'.ownBlock = v.ownBlock ∨ v'.ownBlock = some w.heap.size) → wpListIn F n0 P ops Q rest (a.put o.dst v') w') : wpListIn F n0 P ops Q (o :: rest) a w := by
  refine wpListIn_plain hg fun K hK' => ?_
  obtain ⟨v', w', hrun, h3, h4, h5⟩ := run_append_rows el o.type h h2 hn hw h1 h63 hby hbase
  unfold Oper.wpIn
  refine ⟨?_, ?_⟩
  · simp [Oper.about, hop, resolve, Target.leads, Sem.run_pure]
  · rw [Oper.semAt_plain F _ _ (by rw [hop]; intro c hc'; cases hc')]
    simp only [execOp, hop, resolve, invoke, builtin, Sem.run_bind, Sem.run_pure, Result.andThen_ok, List.map_toArray, List.map_cons, List.map_nil, hs, hx]
    rw [hrun]
    exact hK' _ _ (hK v' w' h3 h4 h5)
theorem OwnL.keptO {W W' : World} {row : Option Nat} {B : Nat} {E : TypeId} {m : Nat} {v : Value} {rows : List (List Value)} (h : OwnL W B E m v rows) (hg : W.grownBy W' row) (hr : Others W row) : OwnL W' B E m v rows := by
  refine h.kept hg ?_
  rcases h.own.2 with ⟨rfl, _⟩ | ⟨g, cap, cur, rfl, _, hh, _⟩
  · exact .inl rfl
  · right
    intro e
    obtain ⟨o, ho, hc⟩ := hr g (by rw [← e]; rfl)
    rw [hh] at ho
    cases ho
    cases hc
theorem BoxAt.keptO {W W' : World} {row : Option Nat} {B : Nat} {cs : List Value} (h : BoxAt W B cs) (hg : W.grownBy W' row) (hr : Others W row) : BoxAt W' B cs :=
  ⟨fun j v hv => cell_kept (h.range j v hv) hg hr, fun j hj => by
    obtain ⟨v, hv⟩ : ∃ v, cs[j]? = some v := ⟨_, List.getElem?_eq_getElem hj⟩
    have := h.range j v hv
    rw [Nat.zero_add] at this
    exact (frozen_kept this hg hr).trans (h.free j hj), Nat.lt_of_lt_of_le h.lt hg.size⟩
theorem OwnL.keeps {W W' : World} {B : Nat} {E : TypeId} {m : Nat} {v : Value} {rows : List (List Value)} (h : OwnL W B E m v rows) (hg : W.grownBy W' v.ownBlock) : KeepsOthers W W' := by
  refine KeepsOthers.of_grownBy hg fun j o e ho => ?_
  rcases h.own.2 with ⟨rfl, _⟩ | ⟨g, cap, cur, rfl, _, hh, _⟩
  · cases e
  · cases e
    rw [hh] at ho
    cases ho; rfl
def SeqPost (zs : List Int) (J Jx : List Int → World → Prop) (e : Ending) (W' : World) : Prop :=
  (∃ v, e = .returned v) ∧ ((∃ ys, ys = zs ∧ J ys W') ∨ (∃ pre, (∃ k, k ≤ zs.length ∧ pre = zs.take k) ∧ Jx pre W'))
set_option maxRecDepth 100000 in
set_option maxHeartbeats 4000000 in
theorem values1_in (n : Nat) (hn : 1 ≤ n) (l Bs n₀ : Nat) (A : Option Addr) (c : Nat) (zs : List Int) (hsz : zs.length ≤ 1000000) (J Jx : List Int → World → Prop)
    (hY : ∀ pre x W, J pre W → pre.length < zs.length → YieldAt Fence.wide (n - 1) Tryz.prog l #[.int .i64 x] W fun e W' =>
      (e = .returned (.bool true) ∧ J (pre ++ [x]) W' ∧ Below n₀ W W') ∨ (e = .returned (.bool false) ∧ Jx (pre ++ [x]) W'))
    (W : World) (hBs : W.cell? ⟨Bs, 0, none⟩ = some (.slice A zs.length c)) (hr : RowsAt W A 1 (intRows zs)) (hAn : ∀ ad, A = some ad → 0 < zs.length → ad.block < n₀) (h0 : J [] W) :
    CallsIn Fence.wide n Tryz.prog 198 #[.func (.yield l) #[] #[], .pointer (some ⟨Bs, 0, none⟩)] W (SeqPost zs J Jx) := by
  refine callsIn_of_wp Tryz.func198 rfl trivial ?_ rfl
  simp only [Tryz.ntmps198, List.size_toArray, List.length_cons, List.length_nil, Nat.reduceAdd, Nat.reduceSub, Array.replicate_succ, Array.replicate_zero, List.push_toArray, List.append_toArray, List.nil_append, List.cons_append]
  have hr := Lib.hid hr
  have hYz := Lib.hid hY
  have hAn := Lib.hid hAn
  clear hY
  gi_wp2
  gi_loopw [7, 4] (fun i v wr => ∃ (k : Nat), k ≤ zs.length ∧ i = .int .i64 k ∧ J (zs.take k) wr ∧ Below n₀ W wr) (fun i _ _ => zs.length - (intOf i).toNat)
  case atStart => exact ⟨0, Nat.zero_le _, rfl, h0, Below.refl _ _⟩
  case round =>
    obtain ⟨k, hk, rfl, hJ, hb⟩ := hrel
    by_cases hlt : k < zs.length
    · have hk' : zs[k]? = some zs[k] := List.getElem?_eq_getElem hlt
      have hst : Hid (zs.take (k + 1) = zs.take k ++ [zs[k]]) := List.take_succ_eq_append_getElem hlt
      obtain ⟨b, o, rfl, hbl, hc⟩ := hr.out k [.int .i64 zs[k]] (by simp [intRows, hk'])
      have e0 := hc 0 _ rfl
      simp only [Nat.mul_one, Nat.add_zero] at e0
      have hbn : b < n₀ := hAn.out _ rfl (by omega)
      have e0 := (hb.cell (p := ⟨b, _, none⟩) hbn).trans e0
      clear hk' hBs hc
      generalize zs[k] = x at *
      obtain ⟨fn, tmps, assign, body, hy, hR⟩ := hYz.out _ x wr hJ (by rw [List.length_take]; omega)
      have hbz := Lib.hid hb
      clear hb hJ
      gi_wp2
      refine hR.mono ?_
      clear hy hR
      rintro e w2 (⟨rfl, hJ2, hk2⟩ | ⟨rfl, hJx⟩)
      · have hall := Lib.hid (And.intro hJ2 hk2)
        clear hJ2 hk2
        gi_wp2
        go_roundw
        case rel => exact ⟨k + 1, by omega, by go_num, by rw [hst.out]; exact hall.out.1, hbz.out.trans hall.out.2⟩
        case measure => simp [intOf]; omega
      · have hJx := Lib.hid hJx
        gi_wp2
        refine bodyPost_ret (results_none rfl _ _ _) rfl ?_
        exact ⟨⟨_, rfl⟩, .inr ⟨_, ⟨k + 1, by omega, hst.out.symm⟩, hJx.out⟩⟩
    · obtain rfl : k = zs.length := by omega
      have hJz := Lib.hid hJ
      clear hJ
      gi_wp2
      refine bodyPost_end (results_none rfl _ _ _) rfl ?_
      exact ⟨⟨_, rfl⟩, .inl ⟨_, rfl, by have := hJz.out; rwa [List.take_length] at this⟩⟩
theorem values_any (A : Option Addr) (k c : Nat) (w : World) :
    Calls Tryz.prog 124 #[.slice A k c] w fun e w' => e = .returned (.func (.func 198) #[] #[.pointer (some ⟨w.heap.size, 0, none⟩)]) ∧ w' = w.alloc (.cells #[.slice A k c] 32) := by
  go_enter Tryz.func124, Tryz.ntmps124
  go_wp2
  go_ret
  exact ⟨rfl, rfl⟩
theorem values_stops (n : Nat) (hn : 1 ≤ n) (Bs n₀ : Nat) (A : Option Addr) (c : Nat) (zs : List Int) (hsz : zs.length ≤ 1000000) (w : World) (hBs : w.cell? ⟨Bs, 0, none⟩ = some (.slice A zs.length c)) (hBn : Bs < n₀) (hn₀ : n₀ ≤ w.heap.size) (hr : RowsAt w A 1 (intRows zs)) (hAn : ∀ ad, A = some ad → 0 < zs.length → ad.block < n₀) :
    SeqStopsK Fence.wide n Tryz.prog 198 #[.pointer (some ⟨Bs, 0, none⟩)] (fun x : Int => #[.int .i64 x]) (Below n₀) (fun ys => ys = zs) (fun pre => ∃ k, k ≤ zs.length ∧ pre = zs.take k) zs.length w :=
  fun l J Jx W hW _ _ hY h0 => values1_in n hn l Bs n₀ A c zs hsz J Jx hY W ((hW.cell (p := ⟨Bs, 0, none⟩) (Nat.lt_of_lt_of_le hBn hn₀)).trans hBs) (hr.below hW) hAn h0
end Go.Proofs.YtbegbajlagcbdaaGreatDoor
namespace Go.Proofs.YtbegbajlagcbdaaGreatDoor
open Go Go.RowKit Go.Shelf
attribute [local go_sem] Oper.semAt_some
def AsI (w : World) (pre : List Int) (W : World) : Prop := ∃ v, BoxAt W w.heap.size [v] ∧ IntsL W (w.heap.size + 1) v pre ∧ Below w.heap.size w W ∧ w.heap.size + 1 ≤ W.heap.size
theorem asI_own (w : World) (B : Nat) (hB : w.heap.size ≤ B) : OwnFrom B (AsI w) := fun pre X Y row hs hg hr => by
  obtain ⟨v, b, o, hb, hz⟩ := hs
  exact ⟨v, b.keptO hg (fun r e => (hr r e).2), OwnL.keptO o hg (fun r e => (hr r e).2), ownFrom_below (β := Unit) (Nat.le_refl _) hB () X Y row hb hg hr, Nat.le_trans hz hg.size⟩
theorem fr_putS {w W : World} (h : Below w.heap.size w W) {D : Nat} (hD : w.heap.size ≤ D) (o : Obj) : Below w.heap.size w (W.putObj D o) :=
  h.grown (grownBy_putObj' W D o) h.size (fun k e => by cases e; exact hD)
def SeqTo (w : World) (B : Nat) (zs : List Int) (e : Ending) (w' : World) : Prop := ∃ v, e = .returned v ∧ IntsL w' B v zs ∧ Below w.heap.size w w'
set_option maxRecDepth 100000 in
set_option maxHeartbeats 4000000 in
theorem appendSeq_any (gf : Nat) (lb : Array Value) (zs : List Int) (hsz : zs.length ≤ 1000000) (w : World) (Sp : List Int → Prop) (eg : ∀ args w, (callFunc gf args).run Tryz.prog w = .ok (.enter gf args) w)
    (hseq : ∀ W0, Below w.heap.size w W0 → SeqStopsK Fence.wide 3 Tryz.prog gf lb (fun x : Int => #[.int .i64 x]) (Below w.heap.size) (fun ys => ys = zs) Sp zs.length W0) :
    Calls Tryz.prog 235 #[.slice none 0 0, .func (.func gf) #[] lb] w (SeqTo w w.heap.size zs) := by
  refine (callsIn_wide (n := 4)).1 ?_
  refine callsIn_of_wp_marks Tryz.func235 rfl trivial ?_ rfl
  simp only [Tryz.ntmps235, List.size_toArray, List.length_cons, List.length_nil, Nat.reduceAdd, Nat.reduceSub, Array.replicate_succ, Array.replicate_zero, List.push_toArray, List.append_toArray, List.nil_append, List.cons_append]
  gi_wp2
  have bS := BoxAt.new w #[.slice none 0 0] 32
  have hB0 : Below w.heap.size w (w.alloc (.cells #[.slice none 0 0] 32)) := below_alloc _ _
  have hs0 : (w.alloc (.cells #[.slice none 0 0] 32)).heap.size = w.heap.size + 1 := by simp
  obtain ⟨W0, hW0⟩ : ∃ W0, w.alloc (.cells #[.slice none 0 0] 32) = W0 := ⟨_, rfl⟩
  rw [hW0] at bS hB0 hs0 ⊢
  clear hW0
  refine wpIn_rangeFunc_ownH rfl (by omega) (gf := gf) (lb := lb) rfl trivial eg (hseq W0 hB0) belowK_t (belowK_b (by omega)) (Below.refl _ _) (fun _ => rfl)
    (AsI w) (fun _ _ _ => False) (asI_own w _ (by omega)) (fun _ _ _ _ _ h => h.elim)
    ⟨_, bS, OwnL.nil _ _ _ _, hB0, by omega⟩
    (fun x a' W => a' = { tmps := #[.slice none 0 0, .func (.func gf) #[] lb, .pointer (some ⟨w.heap.size, 0, none⟩), undef, .slice none 0 0, .int .i64 x, .func (.func gf) #[] lb, .int .i64 x, undef, undef, undef, undef, undef], defers := [] })
    (fun x a' _ X Y row hs hg hr => hs)
    ?assign ?body ?done ?stop
  case assign =>
    rintro l pre x W K hI hK
    gi_wp2
    exact hK _ _ (KeepsFrom.refl _ _) (Below.refl _ _) hI rfl
  case body =>
    rintro l pre x a' W hl ⟨r, hr⟩ ⟨v, b, o, hb, hz⟩ rfl hlt
    obtain ⟨A4, c4, rfl, _⟩ := OwnL.form o
    have c0 := b.c 0 _ rfl
    have hsrc : RowsAt (W.alloc (.cells #[.int .i64 x] 3)) (some ⟨W.heap.size, 0, none⟩) 1 (intRows [x]) := rowsAt_new W [.int .i64 x] 3
    have o1 : IntsL (W.alloc (.cells #[.int .i64 x] 3)) (w.heap.size + 1) (.slice A4 (intRows pre).length c4) pre := OwnL.below o (below_alloc _ _)
    have b1 : BoxAt (W.alloc (.cells #[.int .i64 x] 3)) w.heap.size [.slice A4 (intRows pre).length c4] := b.below (below_alloc _ _)
    have hb1 : Below w.heap.size w (W.alloc (.cells #[.int .i64 x] 3)) := hb.alloc (by omega) _
    have hk1 : KeepsOthers W (W.alloc (.cells #[.int .i64 x] 3)) := KeepsOthers.alloc _ _
    have hn1 : Below w.heap.size W (W.alloc (.cells #[.int .i64 x] 3)) := (Below.refl _ _).alloc (by omega) _
    have hlt2 : w.heap.size < W.heap.size := by omega
    have hAll := Lib.hid (And.intro b1 (And.intro hb1 (And.intro hsrc (And.intro o1 (And.intro hk1 hn1)))))
    clear b hb hsrc o1 hk1 o b1 hb1 hn1
    generalize (intRows pre).length = np at *
    gi_wp2_with (gi_at_builtin; refine wpListIn_append_rows elemInt rfl _ _ rfl rfl rfl hAll.out.2.2.2.1 hAll.out.2.2.1 rfl (intRows_wid [x]) (intRows_one [x]) (by simp only [intRows_length, List.length_singleton]; omega) (by decide) (by simp; omega) ?_; intro v' w5 hown5 hg5 _; obtain ⟨A5, c5, hv5, _⟩ := OwnL.form hown5; obtain ⟨q5, hq5⟩ : ∃ q : Nat, q = (intRows pre ++ intRows [x]).length := ⟨_, rfl⟩; rw [← hq5] at hv5; subst hv5; clear hq5; have b5 := hAll.out.1.grown hg5 (fun e => by have := (OwnL.lt hAll.out.2.2.2.1 _ e.symm).1; omega); have y0 := b5.c 0 _ rfl; have y1 := b5.free 0 Nat.zero_lt_one; have hall5 := Lib.hid (And.intro b5 (And.intro hown5 (And.intro (hAll.out.2.2.2.2.1.trans (OwnL.keeps hAll.out.2.2.2.1 hg5)) (And.intro (hAll.out.2.2.2.2.2.trans (grown_below hg5 (fun g e => Nat.le_trans (Nat.le_succ _) (OwnL.lt hAll.out.2.2.2.1 g e).1) (by simp; omega))) (hAll.out.2.1.trans (grown_below hg5 (fun g e => Nat.le_trans (Nat.le_succ _) (OwnL.lt hAll.out.2.2.2.1 g e).1) (by simp; omega))))))); clear b5 hown5 hg5)
    obtain ⟨b5, o5, k5, n5, hb5⟩ := hall5.out
    have e5 : intRows (pre ++ [x]) = intRows pre ++ intRows [x] := by unfold intRows; rw [List.map_append]
    have o5 : OwnL w5 (w.heap.size + 1) 3 1 (.slice A5 q5 c5) (intRows (pre ++ [x])) := by rw [e5]; exact o5
    refine ⟨(k5.trans (KeepsOthers.setCell _ _ _)).from _, n5.setCell (p := ⟨w.heap.size, 0, none⟩) (Nat.le_refl _) _, _, b5.set 0 _ Nat.zero_lt_one, ?_, hb5.setCell (p := ⟨w.heap.size, 0, none⟩) (Nat.le_refl _) _, ?_⟩
    · refine OwnL.kept o5 (grown_set _ w.heap.size 0 _) ?_
      cases hv : (Value.slice A5 q5 c5).ownBlock with
      | none => exact .inl rfl
      | some g => right; intro e; have := (o5.lt g hv).1; injection e with e; omega
    · simp only [World.size_setCell]; have := hb5.size; have := n5.size; omega
  case done =>
    rintro D ys W hD rfl ⟨v, b, o, hb, hz⟩ hK
    obtain ⟨A4, c4, rfl, _⟩ := OwnL.form o
    have c0 := b.c 0 _ rfl
    have hAll := Lib.hid (And.intro b (And.intro o (And.intro hb hK)))
    clear b o hb hK
    generalize (intRows ys).length = np at *
    gi_wp2
    obtain ⟨b, o, hb, hK⟩ := hAll.out
    have ho' : Others W (some D) := fun r e => by cases e; exact ⟨_, hK, rfl⟩
    refine ⟨by simp, .inl ⟨_, _, rfl, run_takeDeferred hK, ?_⟩⟩
    exact ⟨.slice A4 np c4, results_tmp (t := 4) rfl _ _ _, _, rfl, OwnL.less (OwnL.keptO o (grownBy_putObj' W D (.deferred none)) ho') (Nat.le_succ _), fr_putS hb (by omega) _⟩
  case stop =>
    rintro D c pre W hD hpre h hK
    exact h.elim
theorem collect_any (gf : Nat) (lb : Array Value) (zs : List Int) (hsz : zs.length ≤ 1000000) (w : World) (Sp : List Int → Prop) (eg : ∀ args w, (callFunc gf args).run Tryz.prog w = .ok (.enter gf args) w)
    (hseq : ∀ W0, Below w.heap.size w W0 → SeqStopsK Fence.wide 3 Tryz.prog gf lb (fun x : Int => #[.int .i64 x]) (Below w.heap.size) (fun ys => ys = zs) Sp zs.length W0) :
    Calls Tryz.prog 196 #[.func (.func gf) #[] lb] w (SeqTo w w.heap.size zs) := by
  have h := Lib.hid (appendSeq_any gf lb zs hsz w Sp eg hseq)
  clear hseq eg
  go_enter Tryz.func196, Tryz.ntmps196
  go_wp2_with fail
  refine h.out.mono ?_
  rintro e w' ⟨v, rfl, hs, hb⟩
  go_wp2_with fail
  go_ret
  exact ⟨v, rfl, hs, hb⟩
/-- slices.Sorted of the values of a slice of numbers. -/
theorem sorted_any (A : Option Addr) (c : Nat) (zs : List Int) (hsz : zs.length ≤ 1000000) (Bs : Nat) (w : World) (hBs : w.cell? ⟨Bs, 0, none⟩ = some (.slice A zs.length c)) (hBl : Bs < w.heap.size) (hr : RowsAt w A 1 (intRows zs)) :
    Calls Tryz.prog 123 #[.func (.func 198) #[] #[.pointer (some ⟨Bs, 0, none⟩)]] w (SeqTo w w.heap.size (zs.mergeSort fun x y => decide (x ≤ y))) := by
  have hAn : ∀ ad, A = some ad → 0 < zs.length → ad.block < w.heap.size := fun ad e h => by
    obtain ⟨b, o, hA, hb, _⟩ := hr 0 [.int .i64 zs[0]] (by simp [intRows, List.getElem?_eq_getElem h])
    rw [e] at hA; cases hA; exact hb
  have h := Lib.hid (collect_any 198 #[.pointer (some ⟨Bs, 0, none⟩)] zs hsz w _ (enters_of Tryz.func198 (by kernel_rfl) rfl)
    (fun W0 hb => values_stops 3 (by omega) Bs w.heap.size A c zs hsz W0 ((hb.cell (p := ⟨Bs, 0, none⟩) hBl).trans hBs) hBl hb.size (hr.below hb) hAn))
  clear hr hAn hBs
  go_enter Tryz.func123, Tryz.ntmps123
  go_wp2_with fail
  refine h.out.mono ?_
  rintro e w1 ⟨v, rfl, hs, hb⟩
  have hs := Lib.hid hs
  have hb := Lib.hid hb
  clear h
  go_wp2_with fail
  refine (Sort_own _ w.heap.size _ _ hs.out hsz).mono ?_
  rintro e w2 ⟨rfl, hs2, hg2⟩
  have hb2 := hb.out.trans (grown_below hg2 (fun g e => (OwnL.lt hs.out g e).1) hb.out.size)
  go_wp2_with fail
  go_ret
  exact ⟨v, rfl, hs2, hb2⟩
end Go.Proofs.YtbegbajlagcbdaaGreatDoor
namespace Go.Proofs.YtbegbajlagcbdaaGreatDoor
open Go Go.RowKit Go.Shelf
attribute [local go_sem] Oper.semAt_some
/-- How many of k days from a on are working days. -/
def Cal.cnt (l : List Hol) (a : Int) : Nat → Int
  | 0 => 0
  | k + 1 => Cal.cnt l a k + if Cal.workB l (a + k) = true then 1 else 0
def Cal.betw (l : List Hol) (a b : Int) : Int := Cal.cnt l a (b - a).toNat
theorem Cal.cnt_bd (l : List Hol) (a : Int) : ∀ k, 0 ≤ Cal.cnt l a k ∧ Cal.cnt l a k ≤ k
  | 0 => by simp [Cal.cnt]
  | k + 1 => by
    have := Cal.cnt_bd l a k
    unfold Cal.cnt; split <;> omega
theorem Cal.betw_self (l : List Hol) (a : Int) : Cal.betw l a a = 0 := by unfold Cal.betw; simp [Cal.cnt]
theorem Cal.betw_succ {l : List Hol} {a d : Int} (h : a ≤ d) : Cal.betw l a (d + 1) = Cal.betw l a d + if Cal.workB l d = true then 1 else 0 := by
  unfold Cal.betw
  rw [show (d + 1 - a).toNat = (d - a).toNat + 1 by omega]
  conv => lhs; unfold Cal.cnt
  rw [show a + ((d - a).toNat : Int) = d by omega]
theorem Cal.betw_bd {l : List Hol} {a b : Int} (h : a ≤ b) : 0 ≤ Cal.betw l a b ∧ Cal.betw l a b ≤ b - a := by
  have := Cal.cnt_bd l a (b - a).toNat
  unfold Cal.betw; omega
theorem Cal.betw_stop {l : List Hol} {a b : Int} (h : a ≤ b) : ∀ k : Nat, (∀ x, b ≤ x → x < b + k → Cal.workB l x = false) → Cal.betw l a (b + k) = Cal.betw l a b
  | 0, _ => by simp
  | k + 1, hf => by
    have ih := Cal.betw_stop h k fun x h1 h2 => hf x h1 (by omega)
    rw [show b + ((k + 1 : Nat) : Int) = b + k + 1 by omega, Cal.betw_succ (by omega), hf (b + k) (by omega) (by omega), ih]
    simp
theorem Cal.betw_add {l : List Hol} {a b : Int} (h : a ≤ b) : ∀ k : Nat, Cal.betw l a (b + k) = Cal.betw l a b + Cal.betw l b (b + k)
  | 0 => by simp [Cal.betw_self]
  | k + 1 => by
    have ih := Cal.betw_add (l := l) h k
    rw [show b + ((k + 1 : Nat) : Int) = b + k + 1 by omega, Cal.betw_succ (by omega), Cal.betw_succ (by omega), ih]
    omega
/-- WorkingBetween: the number and the error. -/
def Cal.betwE (l : List Hol) (a b : Int) : Int := if Cal.holsErr l = 0 then (if 0 ≤ a ∧ a ≤ 200000 ∧ 0 ≤ b ∧ b ≤ 200000 then (if b < a then 9 else 0) else 2) else Cal.holsErr l
def Cal.betwN (l : List Hol) (a b : Int) : Int := if Cal.betwE l a b = 0 then Cal.betw l a b else 0
structure CalCell (W : World) (cb m : Nat) (A : Option Addr) (c n : Nat) : Prop where
  c0 : W.cell? ⟨cb, 0, none⟩ = some (.slice A n c)
  c1 : W.cell? ⟨cb, 1, none⟩ = some (.map (some m))
  lt : cb < W.heap.size
theorem CalCell.kept {W W' : World} {row : Option Nat} {cb m : Nat} {A : Option Addr} {c n : Nat} (h : CalCell W cb m A c n) (hg : W.grownBy W' row) (hr : Others W row) : CalCell W' cb m A c n :=
  ⟨cell_kept h.c0 hg hr, cell_kept h.c1 hg hr, Nat.lt_of_lt_of_le h.lt hg.size⟩
/-- What WorkingBetween keeps while it goes round. W0: the world when it had checked. -/
structure BetI (K : Where) (W0 : World) (n : Int) (d : Int) (W : World) : Prop where
  fr : Below W0.heap.size W0 W
  lo : -1 ≤ d
  hi : d ≤ 200001
  st : OwnCell W K.bs (.int .i64 K.step)
  from_ : OwnCell W K.bf (.int .i64 K.start)
  cal : OwnCell W K.bc (.pointer (some ⟨K.cb, 0, none⟩))
  cald : CalCell W K.cb K.m K.A K.c K.l.length
  num : OwnCell W W0.heap.size (.int .i64 n)
  cache : CacheAt K d W
  size : W0.heap.size + 6 ≤ W.heap.size
structure BetK (K : Where) (W0 : World) : Prop where
  b : K.B = W0.heap.size + 6
  m : K.m = W0.heap.size + 1
  cb : K.cb = W0.heap.size + 2
  bc : K.bc = W0.heap.size + 3
  bf : K.bf = W0.heap.size + 4
  bs : K.bs = W0.heap.size + 5
  hols : Hols W0 K.A K.l
  tab : Tab W0
  st : K.step = 1
theorem BetI.inv {K : Where} {W0 W : World} {n d : Int} (hK : BetK K W0) (h : BetI K W0 n d W) : DaysInv K d W :=
  ⟨h.lo, h.hi, h.from_.cell, h.st.cell, h.cal.cell, ⟨h.cald.c0, h.cald.c1, h.cald.lt, hK.hols.below h.fr, hK.tab.below h.fr⟩, h.cache, by rw [hK.b]; exact h.size⟩
theorem BetI.book {K : Where} {W0 W W' : World} {n d : Int} (h : BetI K W0 n d W) {row : Option Nat} (hg : W.grownBy W' row) (hr : ∀ r, row = some r → W0.heap.size ≤ r ∧ ∃ o : Obj, W.heap[r]? = some o ∧ isBook o = true) : BetI K W0 n d W' := by
  have ho : Others W row := fun r e => by obtain ⟨_, o, h1, h2⟩ := hr r e; exact ⟨o, h1, not_cells_of_book h2⟩
  refine ⟨h.fr.grown hg h.fr.size (fun k e => (hr k e).1), h.lo, h.hi, h.st.kept hg ho, h.from_.kept hg ho, h.cal.kept hg ho, h.cald.kept hg ho, h.num.kept hg ho, ?_, Nat.le_trans h.size hg.size⟩
  obtain ⟨q, hc, hn⟩ := h.cache
  have hmap : ∃ es cl, W.heap[K.m]? = some (.map es cl) := by obtain ⟨f, h, _⟩ := hc; exact h.isMap
  refine ⟨q, hc.keep (hg.block _ ?_ ?_) (fun g cs t _ hgc => (hg.block g (Array.getElem?_eq_some_iff.1 hgc).1 ?_).trans hgc), hn⟩
  · obtain ⟨es, cl, h⟩ := hmap; exact (Array.getElem?_eq_some_iff.1 h).1
  · intro e; obtain ⟨_, o, h1, h2⟩ := hr _ e.symm; obtain ⟨es, cl, h⟩ := hmap; rw [h] at h1; cases h1; cases h2
  · intro e; obtain ⟨_, o, h1, h2⟩ := hr _ e.symm; rw [hgc] at h1; cases h1; cases h2
theorem BetI.step {K : Where} {W0 W W' : World} {n d d' : Int} (hK : BetK K W0) (h : BetI K W0 n d W) (hg : W.grownBy W' (some K.m)) (hc : CacheAt K d' W') (h1 : -1 ≤ d') (h2 : d' ≤ 200001) : BetI K W0 n d' W' := by
  have ho := cacheOthers h.cache
  exact ⟨h.fr.grown hg h.fr.size (fun k e => by cases e; rw [hK.m]; omega), h1, h2, h.st.kept hg ho, h.from_.kept hg ho, h.cal.kept hg ho, h.cald.kept hg ho, h.num.kept hg ho, hc, Nat.le_trans h.size hg.size⟩
theorem BetI.store {K : Where} {W0 W : World} {n d : Int} (hK : BetK K W0) (h : BetI K W0 n d W) (u : Int) : BetI K W0 u d (W.setCell ⟨W0.heap.size, 0, none⟩ (.int .i64 u)) := by
  have hfar : ∀ (g : Nat), g ≠ W0.heap.size → (W.setCell ⟨W0.heap.size, 0, none⟩ (.int .i64 u)).heap[g]? = W.heap[g]? := fun g hg => Below.heap_setCell W ⟨W0.heap.size, 0, none⟩ (.int .i64 u) g hg
  have h1 := hK.bs; have h2 := hK.bf; have h3 := hK.bc; have h4 := hK.b; have h5 := hK.m; have h6 := hK.cb
  refine ⟨h.fr.setCell (Nat.le_refl _) _, h.lo, h.hi, h.st.far (by simp; omega) _, h.from_.far (by simp; omega) _, h.cal.far (by simp; omega) _, ?_, h.num.set_ _, ?_, by simpa [World.setCell] using h.size⟩
  · have hne : ∀ j, (⟨W0.heap.size, 0, none⟩ : Addr) ≠ ⟨K.cb, j, none⟩ := fun j e => by
      have := congrArg Addr.block e
      simp only at this
      omega
    exact ⟨(World.cell?_setCell_other W ⟨W0.heap.size, 0, none⟩ ⟨K.cb, 0, none⟩ _ (hne 0)).trans h.cald.c0, (World.cell?_setCell_other W ⟨W0.heap.size, 0, none⟩ ⟨K.cb, 1, none⟩ _ (hne 1)).trans h.cald.c1, by simpa [World.setCell] using h.cald.lt⟩
  · obtain ⟨q, hc, hn⟩ := h.cache
    exact ⟨q, hc.keep (hfar _ (by omega)) (fun g cs t hg hgc => (hfar g (by omega)).trans hgc), hn⟩
def BetInv (K : Where) (W0 : World) (to : Int) (d : Int) (W : World) : Prop :=
  BetI K W0 (Cal.betw K.l K.start d) d W ∧ K.start ≤ d ∧ ∀ x, to ≤ x → x < d → Cal.workB K.l x = false
def BetAsk (K : Where) (W0 : World) (to : Int) (d : Int) (W : World) : Prop :=
  isDayP d ∧ Cal.workB K.l d = true ∧ BetI K W0 (Cal.betw K.l K.start d) (d + 1) W ∧ K.start ≤ d ∧ ∀ x, to ≤ x → x < d → Cal.workB K.l x = false
def BetOut (K : Where) (W0 : World) (to : Int) (id : Nat) (c : Code) (W : World) : Prop :=
  c = .exit id ∧ Below W0.heap.size W0 W ∧ OwnCell W W0.heap.size (.int .i64 (Cal.betw K.l K.start to))
theorem BetInv.inv {K : Where} {W0 : World} {to : Int} (hK : BetK K W0) (d : Int) (W : World) (h : BetInv K W0 to d W) : DaysInv K d W := h.1.inv hK
theorem BetInv.step {K : Where} {W0 : World} {to : Int} (hK : BetK K W0) (hok : Cal.HolsOk K.l) (d : Int) (A B : World) (h : BetInv K W0 to d A) (hs : DaysStep K d A B) : BetInv K W0 to (d + K.step) B := by
  obtain ⟨h, h1, h2⟩ := h
  obtain ⟨hd, hw, hg, hc⟩ := hs
  have hst := hK.st
  obtain ⟨d1, d2⟩ := id hd
  rw [Cal.workB_eq hok d1 d2] at hw
  have e : Cal.betw K.l K.start (d + K.step) = Cal.betw K.l K.start d := by rw [hst, Cal.betw_succ h1, hw]; simp
  refine ⟨by rw [e]; exact h.step hK hg hc (by omega) (by omega), by omega, fun x hx1 hx2 => ?_⟩
  by_cases hx : x = d
  · rw [hx]; exact hw
  · exact h2 x hx1 (by omega)
theorem BetInv.ask {K : Where} {W0 : World} {to : Int} (hK : BetK K W0) (hok : Cal.HolsOk K.l) (d : Int) (A B : World) (h : BetInv K W0 to d A) (hs : DaysAsk K d A B) : BetAsk K W0 to d B := by
  obtain ⟨h, h1, h2⟩ := h
  obtain ⟨hd, hw, hg, hc⟩ := hs
  have hst := hK.st
  obtain ⟨d1, d2⟩ := id hd
  rw [Cal.workB_eq hok d1 d2] at hw
  rw [hst] at hc
  exact ⟨hd, hw, h.step hK hg hc (by omega) (by omega), h1, h2⟩
theorem BetInv.alloc {K : Where} {W0 : World} {to : Int} (d : Int) (A : World) (o : Obj) (_ : isBook o = true) (h : BetInv K W0 to d A) : BetInv K W0 to d (A.alloc o) :=
  ⟨h.1.book (World.grownBy_alloc A o none) (fun r e => by cases e), h.2⟩
theorem BetInv.put {K : Where} {W0 : World} {to : Int} (d : Int) (A : World) (r : Nat) (o o' : Obj) (hr : W0.heap.size ≤ r) (ho : A.heap[r]? = some o) (hb : isBook o = true) (h : BetInv K W0 to d A) : BetInv K W0 to d (A.putObj r o') :=
  ⟨h.1.book (grownBy_putObj' A r o') (fun r' e => by cases e; exact ⟨hr, o, ho, hb⟩), h.2⟩
theorem BetAsk.put {K : Where} {W0 : World} {to : Int} (d : Int) (A : World) (r : Nat) (o o' : Obj) (hr : W0.heap.size ≤ r) (ho : A.heap[r]? = some o) (hb : isBook o = true) (h : BetAsk K W0 to d A) : BetAsk K W0 to d (A.putObj r o') := by
  obtain ⟨hd, hw, h, h1⟩ := h
  exact ⟨hd, hw, h.book (grownBy_putObj' A r o') (fun r' e => by cases e; exact ⟨hr, o, ho, hb⟩), h1⟩
theorem BetOut.put {K : Where} {W0 : World} {to : Int} {id : Nat} (c : Code) (A : World) (r : Nat) (o o' : Obj) (hr : W0.heap.size ≤ r) (ho : A.heap[r]? = some o) (hb : isBook o = true) (h : BetOut K W0 to id c A) : BetOut K W0 to id c (A.putObj r o') := by
  obtain ⟨hc, hg, h1⟩ := h
  have ho' : Others A (some r) := fun r' e => by cases e; exact ⟨o, ho, not_cells_of_book hb⟩
  have hg' := grownBy_putObj' A r o'
  exact ⟨hc, hg.grown hg' hg.size (fun k e => by cases e; exact hr), h1.kept hg' ho'⟩
def betWorld (W : World) (A : Option Addr) (n c : Nat) (d : Int) : World :=
  (((((W.alloc (.cells #[.int .i64 0] 3)).alloc (.map #[] 0)).alloc (.cells #[.slice A n c, .map (some (W.heap.size + 1))] 272)).alloc (.cells #[.pointer (some ⟨W.heap.size + 2, 0, none⟩)] 222)).alloc (.cells #[.int .i64 d] 3)).alloc (.cells #[.int .i64 1] 3)
theorem bet_start (W : World) (A : Option Addr) (c : Nat) (l : List Hol) (d : Int) (h1 : 0 ≤ d) (h2 : d ≤ 200000) :
    BetI ⟨W.heap.size + 2, W.heap.size + 1, A, c, l, W.heap.size + 6, W.heap.size + 4, W.heap.size + 5, W.heap.size + 3, 1, d⟩ W 0 d (betWorld W A l.length c d) := by
  have n0 := own_new W (.int .i64 0) 3
  have m1 := MapIs.made Tryz.prog 3 intLit (W.alloc (.cells #[.int .i64 0] 3))
  have q2 := cell_alloc_at ((W.alloc (.cells #[.int .i64 0] 3)).alloc (.map #[] 0)) #[.slice A l.length c, .map (some (W.heap.size + 1))] 272
  have n3 := own_new (((W.alloc (.cells #[.int .i64 0] 3)).alloc (.map #[] 0)).alloc (.cells #[.slice A l.length c, .map (some (W.heap.size + 1))] 272)) (.pointer (some ⟨W.heap.size + 2, 0, none⟩)) 222
  have n4 := own_new ((((W.alloc (.cells #[.int .i64 0] 3)).alloc (.map #[] 0)).alloc (.cells #[.slice A l.length c, .map (some (W.heap.size + 1))] 272)).alloc (.cells #[.pointer (some ⟨W.heap.size + 2, 0, none⟩)] 222)) (.int .i64 d) 3
  have n5 := own_new (((((W.alloc (.cells #[.int .i64 0] 3)).alloc (.map #[] 0)).alloc (.cells #[.slice A l.length c, .map (some (W.heap.size + 1))] 272)).alloc (.cells #[.pointer (some ⟨W.heap.size + 2, 0, none⟩)] 222)).alloc (.cells #[.int .i64 d] 3)) (.int .i64 1) 3
  simp only [World.size_alloc] at m1 q2 n3 n4 n5
  have c2 : CalCell (((W.alloc (.cells #[.int .i64 0] 3)).alloc (.map #[] 0)).alloc (.cells #[.slice A l.length c, .map (some (W.heap.size + 1))] 272)) (W.heap.size + 2) (W.heap.size + 1) A c l.length := ⟨q2 0, q2 1, by simp⟩
  have hkc : ∀ {X : World} (o : Obj), CalCell X (W.heap.size + 2) (W.heap.size + 1) A c l.length → CalCell (X.alloc o) (W.heap.size + 2) (W.heap.size + 1) A c l.length := fun o h => h.kept (World.grownBy_alloc _ o none) (fun r e => by cases e)
  refine ⟨?_, by omega, by omega, n5, n4.alloc _, (n3.alloc _).alloc _, hkc _ (hkc _ (hkc _ c2)), ((((n0.alloc _).alloc _).alloc _).alloc _).alloc _, ⟨0, ⟨_, (((m1.alloc _).alloc _).alloc _).alloc _, fun y v h => by cases h⟩, ?_⟩, ?_⟩
  · exact below_step (below_step (below_step (below_step (below_step (below_alloc _ _) (below_alloc _ _)) (below_alloc _ _)) (below_alloc _ _)) (below_alloc _ _)) (below_alloc _ _)
  · unfold stepsLeft; simp only; split <;> omega
  · unfold betWorld; simp
def BetPost (w : World) (l : List Hol) (a b : Int) (e : Ending) (w' : World) : Prop := e = .returned (.tuple #[.int .i64 (Cal.betwN l a b), .int .i64 (Cal.betwE l a b)]) ∧ Below w.heap.size w w'
def BetRPost (w : World) (l : List Hol) (a b : Int) (e : Ending) (w' : World) : Prop := e = .returned (.int .i64 (Cal.betw l a b)) ∧ Below w.heap.size w w'
end Go.Proofs.YtbegbajlagcbdaaGreatDoor
