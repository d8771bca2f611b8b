/- Chapter 8 and what it rests on: definitions and walks, part 37. -/
import Derived.Test.YtbegbajlagcbdaaGreatDoorC01
import Derived.Test.YtbegbajlagcbdaaGreatDoorC36
import Derived.Test.YtbegbajlagcbdaaGreatDoorC46
namespace Go.Proofs.YtbegbajlagcbdaaGreatDoor
open Go Go.RowKit Go.ChangeShapes Go.WideShapes Go.Deep
theorem wfB {n : Int} (h : (Lit.int .i64 n).wf = true) : i64B n := by
  simp only [Lit.wf, Bool.and_eq_true, decide_eq_true_eq] at h
  exact h
section
variable {H : Type} {enc : TypeId × Value → H} {w : World} {spare : Nat → Bool} {held : Bool} {r : Reach} {b0 : Nat} {v : Value} {d : DataW H} {ps : List MemPlace}
set_option maxRecDepth 100000 in
theorem acts_of_trod2 {fuel : Nat} {x : DataW H × List MemPlace} (hf : DataW.trod enc Tryz.prog w 0 spare held fuel 91 [v] = some x) : ∃ (A : Option Addr) (l : List NAct) (c : Nat), v = .slice A l.length c ∧ Acts w A l ∧ ∀ a ∈ l, i64B a.day ∧ i64B a.kind ∧ i64B a.days := by
  obtain ⟨A, len, cap, hcs, hlen, hq⟩ := rows_of_open Tryz.underlying91 Tryz.underlying109 (by kernel_rfl) (by kernel_rfl) (by decide) hf
  have he : v = .slice A len cap := by simpa using hcs
  subst he
  have h1 : ∀ i, i < len → ∃ p : NAct, (i64B p.day ∧ i64B p.kind ∧ i64B p.days) ∧ ∃ b o, A = some ⟨b, o, none⟩ ∧ b < w.heap.size ∧ ∀ j v, p.cells[j]? = some v → w.cell? ⟨b, o + (i * 3 + j), none⟩ = some v := fun i hi => by
    obtain ⟨b, o, n, hA, hb, hf⟩ := hq i hi
    obtain ⟨v0, y0, c0, t0⟩ := hf 0 _ rfl
    obtain ⟨v1, y1, c1, t1⟩ := hf 1 _ rfl
    obtain ⟨v2, y2, c2, t2⟩ := hf 2 _ rfl
    obtain ⟨s0, e0, _, w0⟩ := DataW.trod_int Tryz.underlying3 t0
    obtain ⟨s1, e1, _, w1⟩ := DataW.trod_int Tryz.underlying3 t1
    obtain ⟨s2, e2, _, w2⟩ := DataW.trod_int Tryz.underlying3 t2
    cases e0; cases e1; cases e2
    refine ⟨⟨s0, s1, s2⟩, ⟨wfB w0, wfB w1, wfB w2⟩, b, o, hA, hb, fun j v hv => ?_⟩
    match j, hv with
    | 0, hv => cases hv; exact c0
    | 1, hv => cases hv; exact c1
    | 2, hv => cases hv; exact c2
    | j + 3, hv => simp [NAct.cells] at hv
  obtain ⟨l, hl, hq'⟩ := list_of len h1
  subst hl
  refine ⟨A, l, cap, rfl, ⟨fun k r hr => ?_, by unfold maxLen at hlen; omega⟩, fun a ha => ?_⟩
  rotate_left
  · obtain ⟨k, hk, rfl⟩ := List.getElem_of_mem ha
    exact (hq' k _ (List.getElem?_eq_getElem hk)).1
  rw [List.getElem?_map] at hr
  cases hk : l[k]? with
  | none => rw [hk] at hr; cases hr
  | some p => rw [hk] at hr; cases hr; exact (hq' k p hk).2
set_option maxRecDepth 100000 in
theorem note_of_open2 (hval : Value.okWide Tryz.prog w r b0 93 v) (h : DataW.Trod enc Tryz.prog w 0 spare held 93 v d ps) :
    ∃ (N : Option Addr) (d : Nat) (n : Note), v = .agg #[.string n.name, .int .i64 n.opened, .slice N n.acts.length d] ∧ Acts w N n.acts ∧ n.name.size ≤ maxLen ∧ NumsOk n := by
  have hu := Tryz.underlying93
  unfold Value.okWide at hval
  rw [hu] at hval
  obtain ⟨cs, rfl, hcs, _⟩ := hval
  obtain ⟨fuel, hf⟩ := h
  obtain ⟨m, xs, hlen, hxl, hi⟩ := trod_cells hu (by kernel_rfl) hf
  have h0 := hi 0 _ rfl
  have h1 := hi 1 _ rfl
  have h2 := hi 2 _ rfl
  rw [show Tryz.prog.cellsOf 93 = 3 by kernel_rfl] at hcs
  obtain ⟨l⟩ := cs
  match l, hcs with
  | [a, b, c], _ =>
    match xs, hxl with
    | [y0, y1, y2], _ =>
      simp [Value.cells] at h0 h1 h2
      obtain ⟨s0, e0, _, g0⟩ := DataW.trod_string Tryz.underlying9 h0
      obtain ⟨s1, e1, _, w1⟩ := DataW.trod_int Tryz.underlying3 h1
      obtain ⟨N, l, k, e2, ha, hab⟩ := acts_of_trod2 h2
      cases e0; cases e1
      subst e2
      exact ⟨N, k, ⟨s0, s1, l⟩, rfl, ha, g0, wfB w1, hab⟩
end
end Go.Proofs.YtbegbajlagcbdaaGreatDoor
namespace Go.Proofs.YtbegbajlagcbdaaGreatDoor
open Go Go.RowKit Go.Shelf
attribute [local go_sem] Oper.semAt_some
theorem ntSz : (Tryz.prog.info? 93).map (·.size) = some 3 := by kernel_rfl
def NParsePost (w : World) (r : Note × Int × Int) (e : Ending) (w' : World) : Prop :=
  ∃ N c, e = .returned (.tuple #[.agg #[.string r.1.name, .int .i64 r.1.opened, .slice N r.1.acts.length c], .int .i64 r.2.1, .int .i64 r.2.2]) ∧ Acts w' N r.1.acts ∧ Below w.heap.size w w'
theorem nparse_err {w w' : World} {r : Note × Int × Int} {k E : Int} (h : r = (Cal.note0, k, E)) (hb : Below w.heap.size w w') : NParsePost w r (.returned (.tuple #[.agg #[.string ⟨#[]⟩, .int .i64 0, .slice none 0 0], .int .i64 k, .int .i64 E])) w' := by
  subst h
  exact ⟨none, 0, rfl, ⟨RowsAt.nil _ _ _, by simp [Cal.note0]⟩, hb⟩
/-- Results: a wide cell, then two cells. -/
theorem results_midcc {P : Program} {fn : Func} {t u x : Tmp} {ty ty2 ty3 : TypeId} (h : fn.results = #[.cell t ty, .cell u ty2, .cell x ty3]) (tmps : Array Value) (w : World) (g : Nat) (cs : List Value) (d : TypeDesc)
    (hp : tmps.getD t undef = .pointer (some ⟨g, 0, none⟩)) (hc : w.rangeAt g 0 cs) (hu : P.underlying ty = some d) (hd : d.isRow = true) (hi : (P.info? ty).map (·.size) = some cs.length)
    (b : Addr) (v : Value) (hq : tmps.getD u undef = .pointer (some b)) (hv : (loadVar ty2 b).run P w = .ok v w)
    (b' : Addr) (v' : Value) (hq2 : tmps.getD x undef = .pointer (some b')) (hv2 : (loadVar ty3 b').run P w = .ok v' w) :
    (results fn tmps).run P w = .ok (.tuple #[.agg cs.toArray, v, v']) w := by
  have hp' : tmps[t]?.getD undef = .pointer (some ⟨g, 0, none⟩) := by simpa using hp
  have hq' : tmps[u]?.getD undef = .pointer (some b) := by simpa using hq
  have hq2' : tmps[x]?.getD undef = .pointer (some b') := by simpa using hq2
  simp [results, h, hp', hq', hq2', asAddr, run_loadVar_mid w g 0 ty cs d hc hu hd hi, hv, hv2]
theorem CutSfx_hit (x : ByteArray) (L : List UInt8) (h : x.data.toList = L ++ [10]) (w : World) (hs : x.size ≤ 1000000) :
    Calls Tryz.prog 95 #[.string x, .string ⟨#[10]⟩] w fun e w' => e = .returned (.tuple #[.string ⟨L.toArray⟩, .bool true]) ∧ w = w' := by
  refine (Tryz.strings_CutSuffix x ⟨#[10]⟩ w (by omega)).mono ?_
  rintro e w' ⟨rfl, rfl⟩
  have h1 : Lib.hasSuffix (L ++ [10]) [10] = true := by unfold Lib.hasSuffix; rw [List.isSuffixOf_iff_suffix]; exact ⟨L, rfl⟩
  have h2 : Lib.trimSuffix (L ++ [10]) [10] = L := by unfold Lib.trimSuffix; rw [if_pos h1]; simp
  have e0 : (⟨#[10]⟩ : ByteArray).data.toList = [10] := rfl
  rw [e0, h, h1, h2]
  exact ⟨rfl, rfl⟩
theorem CutSfx_miss (x : ByteArray) (h : 10 ∉ x.data.toList) (w : World) (hs : x.size ≤ 1000000) :
    Calls Tryz.prog 95 #[.string x, .string ⟨#[10]⟩] w fun e w' => e = .returned (.tuple #[.string x, .bool false]) ∧ w = w' := by
  refine (Tryz.strings_CutSuffix x ⟨#[10]⟩ w (by omega)).mono ?_
  rintro e w' ⟨rfl, rfl⟩
  have h1 : Lib.hasSuffix x.data.toList [10] = false := by
    unfold Lib.hasSuffix
    rw [← Bool.not_eq_true, List.isSuffixOf_iff_suffix]
    rintro ⟨t, ht⟩
    exact h (by rw [← ht]; simp)
  have h2 : Lib.trimSuffix x.data.toList [10] = x.data.toList := by unfold Lib.trimSuffix; rw [h1]; simp
  have e0 : (⟨#[10]⟩ : ByteArray).data.toList = [10] := rfl
  rw [e0, h1, h2]
  exact ⟨by first | rfl | simp, rfl⟩
theorem ln_stepN {r : ByteArray} {i : Nat} (h2 : i < r.size) (h3 : 10 ∉ r.data.toList.take i) (h4 : r.data.toList = r.data.toList.take i ++ 10 :: r.data.toList.drop (i + 1)) :
    Cal.cutT 10 r.data.toList = r.data.toList.take i :: Cal.cutT 10 (r.extract (i + 1) r.size).data.toList ∧ (r.extract 0 (i + 1)).data.toList = r.data.toList.take i ++ [10] ∧ (r.extract (i + 1) r.size).size + (i + 1) = r.size ∧ (r.extract 0 (i + 1)).size = i + 1 := by
  have e1 : (r.extract (i + 1) r.size).data.toList = r.data.toList.drop (i + 1) := by rw [Lib.extract_to_end]
  have e2 : (r.extract 0 (i + 1)).data.toList = r.data.toList.take (i + 1) := by rw [ext_list]; simp
  have hll := list_len r
  refine ⟨?_, ?_, ?_, ?_⟩
  · conv => lhs; rw [h4]
    rw [Cal.cutT_sep h3, e1]
  · rw [e2, List.take_succ_eq_append_getElem (by omega)]
    congr 2
    have h5 : r.data.toList[i]? = some 10 := by
      rw [h4, List.getElem?_append_right (by rw [List.length_take]; omega), List.length_take]
      rw [show i - min i r.data.toList.length = 0 by omega]; rfl
    rw [List.getElem?_eq_getElem (by omega)] at h5
    exact Option.some.inj h5
  · rw [← list_len, e1, List.length_drop]; omega
  · rw [← list_len, e2, List.length_take]; omega
theorem nread_any (B Bn : Nat) (s : Note) (v : Value) (T : ByteArray) (k : Nat) (w : World) (hT : TxtT w) (hS : NtS B Bn s v w) (hTs : T.size ≤ 100000) (hal : s.acts.length ≤ 100000) :
    Calls Tryz.prog 97 #[.pointer (some ⟨Bn, 0, none⟩), .string T, .int .i64 ((k : Int) + 1)] w (NReadPost w B Bn s v (Cal.nLine k s T.data.toList)) := by
  cases k with
  | zero => exact nread_first B Bn s v T w hT hS hTs
  | succ k => exact nread_next B Bn s v T (k + 1) _ (Nat.succ_pos k) (by omega) w hT hS hTs hal
theorem BoxAt.moved {W W' : World} {Bn b : Nat} {own : Option Nat} {cs : List Value} (h : BoxAt W b cs) (hm : Moved W W' Bn own) (h1 : b ≠ Bn) (h2 : some b ≠ own) : BoxAt W' b cs :=
  ⟨fun j v hv => (World.cell?_of_block (a := ⟨b, 0 + j, none⟩) (hm.block b h.lt h1 h2)).trans (h.range j v hv), fun j hj => (World.frozen?_of_block (a := ⟨b, j, none⟩) (hm.block b h.lt h1 h2)).trans (h.free j hj), Nat.lt_of_lt_of_le h.lt hm.size⟩
theorem cells_of_box {W : World} {b : Nat} {cs : List Value} {o : Obj} (hB : BoxAt W b cs) (h0 : 0 < cs.length) (ho : W.heap[b]? = some o) : o.isCells = true := by
  obtain ⟨v, hv⟩ : ∃ v, cs[0]? = some v := ⟨_, List.getElem?_eq_getElem h0⟩
  have := hB.c 0 v hv
  unfold World.cell? at this
  simp only [ho] at this
  cases o <;> simp_all [Obj.isCells]
theorem cells_of_own {W : World} {B g : Nat} {E : TypeId} {m : Nat} {v : Value} {rows : List (List Value)} {o : Obj} (h : OwnL W B E m v rows) (hg : v.ownBlock = some g) (ho : W.heap[g]? = some o) : o.isCells = true := by
  rcases h.own.2 with ⟨rfl, _⟩ | ⟨g', cap, cur, rfl, _, hh, _⟩
  · cases hg
  · cases hg
    rw [hh] at ho
    cases ho; rfl
theorem NtS.keeps {B Bn : Nat} {s : Note} {v : Value} {W W' : World} (h : NtS B Bn s v W) (hm : Moved W W' Bn v.ownBlock) : KeepsOthers W W' :=
  ⟨hm.size, fun k o ho hc => (hm.block k (Array.getElem?_eq_some_iff.1 ho).1 (fun e => by subst e; rw [cells_of_box h.box (by simp) ho] at hc; cases hc) (fun e => by rw [cells_of_own h.own e.symm ho] at hc; cases hc)).trans ho⟩
/-- What stands in memory ahead of a line. -/
structure NpS (w : World) (s : Note) (k : Int) (v : Value) (x : ByteArray) (W : World) : Prop where
  b0 : BoxAt W w.heap.size [.string ⟨#[]⟩, .int .i64 0, .slice none 0 0]
  b1 : BoxAt W (w.heap.size + 1) [.int .i64 0]
  b2 : BoxAt W (w.heap.size + 1 + 1) [.int .i64 0]
  nt : NtS (w.heap.size + 6) (w.heap.size + 1 + 1 + 1) s v W
  b4 : BoxAt W (w.heap.size + 1 + 1 + 1 + 1) [.int .i64 k]
  b5 : BoxAt W (w.heap.size + 1 + 1 + 1 + 1 + 1) [.string x]
  fr : Below w.heap.size w W
theorem NpS.below {w : World} {s : Note} {k : Int} {v : Value} {x : ByteArray} {W W' : World} (h : NpS w s k v x W) (hb : Below W.heap.size W W') : NpS w s k v x W' :=
  ⟨h.b0.below hb, h.b1.below hb, h.b2.below hb, h.nt.below hb, h.b4.below hb, h.b5.below hb, below_step h.fr hb⟩
theorem NtS.keptF {B Bn : Nat} {s : Note} {v : Value} {W W' : World} {row : Option Nat} (h : NtS B Bn s v W) (hg : W.grownBy W' row) (hr : Others W row) : NtS B Bn s v W' := ⟨h.box.keptF hg hr, OwnL.keptF h.own hg hr, Nat.le_trans h.base hg.size, h.lt⟩
theorem NpS.kept {w : World} {s : Note} {k : Int} {v : Value} {x : ByteArray} {W W' : World} {row : Option Nat} (h : NpS w s k v x W) (hg : W.grownBy W' row) (hr : Others W row) (hB : ∀ r, row = some r → w.heap.size ≤ r) : NpS w s k v x W' :=
  ⟨h.b0.keptF hg hr, h.b1.keptF hg hr, h.b2.keptF hg hr, h.nt.keptF hg hr, h.b4.keptF hg hr, h.b5.keptF hg hr, h.fr.grown hg (by have := h.fr.size; omega) hB⟩
theorem NpS.ask {w : World} {s : Note} {k : Int} {v : Value} {x y : ByteArray} {W W' : World} (h : NpS w s k v x W) (hg : W.grownBy W' (some (w.heap.size + 1 + 1 + 1 + 1 + 1))) (hc : OwnCell W' (w.heap.size + 1 + 1 + 1 + 1 + 1) (.string y)) : NpS w s k v y W' := by
  have hne : ∀ b, b < w.heap.size + 1 + 1 + 1 + 1 + 1 → some b ≠ some (w.heap.size + 1 + 1 + 1 + 1 + 1) := fun b hb e => by injection e with e; omega
  refine ⟨h.b0.grown hg (hne _ (by omega)), h.b1.grown hg (hne _ (by omega)), h.b2.grown hg (hne _ (by omega)), ⟨h.nt.box.grown hg (hne _ (by omega)), OwnL.kept h.nt.own hg ?_, Nat.le_trans h.nt.base hg.size, h.nt.lt⟩, h.b4.grown hg (hne _ (by omega)), hc.box, h.fr.grown hg h.fr.size (fun r e => by cases e; omega)⟩
  cases hv : v.ownBlock with
  | none => exact .inl rfl
  | some g => right; intro e; have := (h.nt.own.lt g hv).1; injection e with e; omega
/-- The line's number goes up. -/
theorem NpS.up {w : World} {s : Note} {k : Int} {v : Value} {x : ByteArray} {W : World} (h : NpS w s k v x W) (k' : Int) : NpS w s k' v x (W.setCell ⟨w.heap.size + 1 + 1 + 1 + 1, 0, none⟩ (.int .i64 k')) :=
  ⟨h.b0.offF 0 _ (by omega), h.b1.offF 0 _ (by omega), h.b2.offF 0 _ (by omega), ⟨h.nt.box.offF 0 _ (by omega), h.nt.own.offF 0 _ (by omega), by rw [World.size_setCell]; exact h.nt.base, h.nt.lt⟩, h.b4.set 0 _ Nat.zero_lt_one, h.b5.offF 0 _ (by omega), h.fr.setCell (p := ⟨w.heap.size + 1 + 1 + 1 + 1, 0, none⟩) (by show w.heap.size ≤ w.heap.size + 1 + 1 + 1 + 1; omega) _⟩
/-- A line is read. -/
theorem NpS.read {w : World} {s s' : Note} {k : Int} {v v' : Value} {x : ByteArray} {W W' : World} (h : NpS w s k v x W) (hn : NtS (w.heap.size + 6) (w.heap.size + 1 + 1 + 1) s' v' W') (hm : Moved W W' (w.heap.size + 1 + 1 + 1) v.ownBlock) : NpS w s' k v' x W' := by
  have hne : ∀ b, b < w.heap.size + 6 → some b ≠ v.ownBlock := fun b hb e => by have := (h.nt.own.lt b e.symm).1; omega
  exact ⟨h.b0.moved hm (by omega) (hne _ (by omega)), h.b1.moved hm (by omega) (hne _ (by omega)), h.b2.moved hm (by omega) (hne _ (by omega)), hn, h.b4.moved hm (by omega) (hne _ (by omega)), h.b5.moved hm (by omega) (hne _ (by omega)),
    ⟨hm.os.trans h.fr.os, hm.tape.trans h.fr.tape, hm.output.trans h.fr.output, Nat.le_trans h.fr.size hm.size, fun i hi => (hm.block i (Nat.lt_of_lt_of_le hi h.fr.size) (by omega) (hne _ (by omega))).trans (h.fr.block i hi)⟩⟩
/-- The results are stored. -/
theorem NpS.res {w : World} {s : Note} {k : Int} {v : Value} {x : ByteArray} {W : World} (h : NpS w s k v x W) (a0 a1 a2 : Value) (k0 k1 : Int) :
    BoxAt ((((((W).setCell ⟨w.heap.size, 0, none⟩ a0).setCell ⟨w.heap.size, 1, none⟩ a1).setCell ⟨w.heap.size, 2, none⟩ a2).setCell ⟨w.heap.size + 1, 0, none⟩ (.int .i64 k0)).setCell ⟨w.heap.size + 1 + 1, 0, none⟩ (.int .i64 k1)) w.heap.size [a0, a1, a2] ∧ BoxAt ((((((W).setCell ⟨w.heap.size, 0, none⟩ a0).setCell ⟨w.heap.size, 1, none⟩ a1).setCell ⟨w.heap.size, 2, none⟩ a2).setCell ⟨w.heap.size + 1, 0, none⟩ (.int .i64 k0)).setCell ⟨w.heap.size + 1 + 1, 0, none⟩ (.int .i64 k1)) (w.heap.size + 1) [.int .i64 k0] ∧ BoxAt ((((((W).setCell ⟨w.heap.size, 0, none⟩ a0).setCell ⟨w.heap.size, 1, none⟩ a1).setCell ⟨w.heap.size, 2, none⟩ a2).setCell ⟨w.heap.size + 1, 0, none⟩ (.int .i64 k0)).setCell ⟨w.heap.size + 1 + 1, 0, none⟩ (.int .i64 k1)) (w.heap.size + 1 + 1) [.int .i64 k1] ∧ OwnL ((((((W).setCell ⟨w.heap.size, 0, none⟩ a0).setCell ⟨w.heap.size, 1, none⟩ a1).setCell ⟨w.heap.size, 2, none⟩ a2).setCell ⟨w.heap.size + 1, 0, none⟩ (.int .i64 k0)).setCell ⟨w.heap.size + 1 + 1, 0, none⟩ (.int .i64 k1)) (w.heap.size + 6) 109 3 v (s.acts.map NAct.cells) ∧ Below w.heap.size w ((((((W).setCell ⟨w.heap.size, 0, none⟩ a0).setCell ⟨w.heap.size, 1, none⟩ a1).setCell ⟨w.heap.size, 2, none⟩ a2).setCell ⟨w.heap.size + 1, 0, none⟩ (.int .i64 k0)).setCell ⟨w.heap.size + 1 + 1, 0, none⟩ (.int .i64 k1)) ∧ KeepsOthers W ((((((W).setCell ⟨w.heap.size, 0, none⟩ a0).setCell ⟨w.heap.size, 1, none⟩ a1).setCell ⟨w.heap.size, 2, none⟩ a2).setCell ⟨w.heap.size + 1, 0, none⟩ (.int .i64 k0)).setCell ⟨w.heap.size + 1 + 1, 0, none⟩ (.int .i64 k1)) :=
  ⟨(((((h.b0.set 0 a0 (by decide : 0 < 3)).set 1 a1 (by decide : 1 < 3)).set 2 a2 (by decide : 2 < 3)).offF (B' := w.heap.size + 1) 0 (.int .i64 k0) (by omega)).offF (B' := w.heap.size + 1 + 1) 0 (.int .i64 k1) (by omega)),
    ((((h.b1.offF (B' := w.heap.size) 0 a0 (by omega)).offF (B' := w.heap.size) 1 a1 (by omega)).offF (B' := w.heap.size) 2 a2 (by omega)).set 0 (.int .i64 k0) Nat.zero_lt_one).offF (B' := w.heap.size + 1 + 1) 0 (.int .i64 k1) (by omega),
    ((((h.b2.offF (B' := w.heap.size) 0 a0 (by omega)).offF (B' := w.heap.size) 1 a1 (by omega)).offF (B' := w.heap.size) 2 a2 (by omega)).offF (B' := w.heap.size + 1) 0 (.int .i64 k0) (by omega)).set 0 (.int .i64 k1) Nat.zero_lt_one,
    ((((h.nt.own.offF (B' := w.heap.size) 0 a0 (by omega)).offF (B' := w.heap.size) 1 a1 (by omega)).offF (B' := w.heap.size) 2 a2 (by omega)).offF (B' := w.heap.size + 1) 0 (.int .i64 k0) (by omega)).offF (B' := w.heap.size + 1 + 1) 0 (.int .i64 k1) (by omega),
    ((((h.fr.setCell (p := ⟨w.heap.size, 0, none⟩) (Nat.le_refl _) a0).setCell (p := ⟨w.heap.size, 1, none⟩) (Nat.le_refl _) a1).setCell (p := ⟨w.heap.size, 2, none⟩) (Nat.le_refl _) a2).setCell (p := ⟨w.heap.size + 1, 0, none⟩) (Nat.le_succ _) (.int .i64 k0)).setCell (p := ⟨w.heap.size + 1 + 1, 0, none⟩) (by show w.heap.size ≤ w.heap.size + 1 + 1; omega) (.int .i64 k1),
    ((((KeepsOthers.setCell _ _ _).trans (KeepsOthers.setCell _ _ _)).trans (KeepsOthers.setCell _ _ _)).trans (KeepsOthers.setCell _ _ _)).trans (KeepsOthers.setCell _ _ _)⟩
def NpI (w : World) (s r x : ByteArray) (W : World) : Prop := ∃ (k : Nat) (st : Note) (v : Value), Cal.nLines k st (Cal.cutT 10 r.data.toList) = Cal.nLines 0 Cal.note0 (Cal.cutT 10 s.data.toList) ∧ st.acts.length ≤ k ∧ k + r.size ≤ s.size ∧ NpS w st k v x W
def NpX (w : World) (s : ByteArray) (c : Code) (W : World) : Prop := c = .ret ∧ ∃ k : Nat, Cal.nLines 0 Cal.note0 (Cal.cutT 10 s.data.toList) = .error k ∧ BoxAt W w.heap.size [.string ⟨#[]⟩, .int .i64 0, .slice none 0 0] ∧ BoxAt W (w.heap.size + 1) [.int .i64 k] ∧ BoxAt W (w.heap.size + 1 + 1) [.int .i64 7] ∧ Below w.heap.size w W
theorem NpI.kept {w : World} {s r x : ByteArray} {W W' : World} {row : Option Nat} (h : NpI w s r x W) (hg : W.grownBy W' row) (hr : Others W row) (hB : ∀ r, row = some r → w.heap.size ≤ r) : NpI w s r x W' := by
  obtain ⟨k, st, v, h1, h2, h3, h4⟩ := h
  exact ⟨k, st, v, h1, h2, h3, h4.kept hg hr hB⟩
theorem NpX.kept {w : World} {s : ByteArray} {c : Code} {W W' : World} {row : Option Nat} (h : NpX w s c W) (hg : W.grownBy W' row) (hr : Others W row) (hB : ∀ r, row = some r → w.heap.size ≤ r) : NpX w s c W' := by
  obtain ⟨h0, k, h1, b0, b1, b2, hb⟩ := h
  exact ⟨h0, k, h1, b0.keptF hg hr, b1.keptF hg hr, b2.keptF hg hr, hb.grown hg (by have := hb.size; omega) hB⟩
theorem othersBk {W : World} {l : Nat} {o : Obj} (h : W.heap[l]? = some o) (hb : isBook o = true) : Others W (some l) := fun r e => by cases e; exact ⟨o, h, not_cells_of_book hb⟩
theorem nLine_len {k : Nat} {s s' : Note} {x : List UInt8} (h : Cal.nLine k s x = some s') (h1 : s.acts.length ≤ k) : s'.acts.length ≤ k + 1 := by
  cases k with
  | zero => obtain ⟨b, c, _, _, rfl⟩ := Cal.nLine_0 h; exact Nat.le_succ_of_le h1
  | succ k => obtain ⟨b, c, d, _, _, _, _, rfl⟩ := Cal.nLine_s h; simp only [List.length_append, List.length_singleton]; omega
set_option maxRecDepth 100000 in
set_option maxHeartbeats 4000000 in
theorem NParse_big (s : ByteArray) (w : World) (h0 : 60000 < s.size) : Calls Tryz.prog 43 #[.string s] w (NParsePost w (Cal.parseN s.data.toList)) := by
  have hfin : Hid (Cal.parseN s.data.toList = (Cal.note0, 0, 8)) := by show _ = _; unfold Cal.parseN; rw [if_pos (by rw [list_len]; exact h0)]
  go_enter Tryz.func43, Tryz.ntmps43
  go_wp2
  have h0' := BoxAt.new w #[.string ⟨#[]⟩, .int .i64 0, .slice none 0 0] 93
  have hb := below_step (below_step (below_alloc w (.cells #[.string ⟨#[]⟩, .int .i64 0, .slice none 0 0] 93)) (below_alloc (w.alloc (.cells #[.string ⟨#[]⟩, .int .i64 0, .slice none 0 0] 93)) (.cells #[.int .i64 0] 3))) (below_alloc ((w.alloc (.cells #[.string ⟨#[]⟩, .int .i64 0, .slice none 0 0] 93)).alloc (.cells #[.int .i64 0] 3)) (.cells #[.int .i64 8] 33))
  refine bodyPost_ret (results_midcc rfl _ _ w.heap.size [.string ⟨#[]⟩, .int .i64 0, .slice none 0 0] _ rfl ((h0'.alloc _).alloc _).range Tryz.underlying93 rfl ntSz ⟨w.heap.size + 1, 0, none⟩ (.int .i64 0) rfl (by simp [go_sem]) ⟨w.heap.size + 1 + 1, 0, none⟩ (.int .i64 8) rfl (by simp [go_sem])) rfl ?_
  exact nparse_err hfin.out hb
theorem npS_start (w : World) (s : ByteArray) : NpS w Cal.note0 0 (.slice none 0 0) s ((((((w.alloc (.cells #[.string ⟨#[]⟩, .int .i64 0, .slice none 0 0] 93)).alloc (.cells #[.int .i64 0] 3)).alloc (.cells #[.int .i64 0] 33)).alloc (.cells #[.string ⟨#[]⟩, .int .i64 0, .slice none 0 0] 93)).alloc (.cells #[.int .i64 0] 3)).alloc (.cells #[.string s] 9)) := by
  have h0 := BoxAt.new w #[.string ⟨#[]⟩, .int .i64 0, .slice none 0 0] 93
  have h1 := BoxAt.new (w.alloc (.cells #[.string ⟨#[]⟩, .int .i64 0, .slice none 0 0] 93)) #[.int .i64 0] 3
  have h2 := BoxAt.new ((w.alloc (.cells #[.string ⟨#[]⟩, .int .i64 0, .slice none 0 0] 93)).alloc (.cells #[.int .i64 0] 3)) #[.int .i64 0] 33
  have h3 := BoxAt.new (((w.alloc (.cells #[.string ⟨#[]⟩, .int .i64 0, .slice none 0 0] 93)).alloc (.cells #[.int .i64 0] 3)).alloc (.cells #[.int .i64 0] 33)) #[.string ⟨#[]⟩, .int .i64 0, .slice none 0 0] 93
  have h4 := BoxAt.new ((((w.alloc (.cells #[.string ⟨#[]⟩, .int .i64 0, .slice none 0 0] 93)).alloc (.cells #[.int .i64 0] 3)).alloc (.cells #[.int .i64 0] 33)).alloc (.cells #[.string ⟨#[]⟩, .int .i64 0, .slice none 0 0] 93)) #[.int .i64 0] 3
  have h5 := BoxAt.new (((((w.alloc (.cells #[.string ⟨#[]⟩, .int .i64 0, .slice none 0 0] 93)).alloc (.cells #[.int .i64 0] 3)).alloc (.cells #[.int .i64 0] 33)).alloc (.cells #[.string ⟨#[]⟩, .int .i64 0, .slice none 0 0] 93)).alloc (.cells #[.int .i64 0] 3)) #[.string s] 9
  simp only [World.size_alloc] at h1 h2 h3 h4 h5
  exact ⟨((((h0.alloc _).alloc _).alloc _).alloc _).alloc _, (((h1.alloc _).alloc _).alloc _).alloc _, ((h2.alloc _).alloc _).alloc _, ⟨(h3.alloc _).alloc _, OwnL.nil _ _ _ _, by simp, by omega⟩, h4.alloc _, h5,
    below_step (below_step (below_step (below_step (below_step (below_alloc _ _) (below_alloc _ _)) (below_alloc _ _)) (below_alloc _ _)) (below_alloc _ _)) (below_alloc _ _)⟩
set_option maxRecDepth 100000 in
set_option maxHeartbeats 8000000 in
theorem NParse_ok (s : ByteArray) (w : World) (hX : TxtT w) (h0 : ¬ 60000 < s.size) : Calls Tryz.prog 43 #[.string s] w (NParsePost w (Cal.parseN s.data.toList)) := by
  have hpt : Hid (Cal.parseN s.data.toList = Cal.finN (Cal.nLines 0 Cal.note0 (Cal.cutT 10 s.data.toList))) := by show _ = _; unfold Cal.parseN; rw [if_neg (by rw [list_len]; exact h0)]
  have hs : s.size ≤ 60000 := by omega
  have hX := Lib.hid (fun W (h : Below w.heap.size w W) => hX.below h)
  clear h0
  refine (callsIn_wide (n := 4)).1 ?_
  refine callsIn_of_wp_marks Tryz.func43 rfl trivial ?_ rfl
  simp only [Tryz.ntmps43, List.size_toArray, List.length_cons, List.length_nil, Nat.reduceAdd, Nat.reduceSub, Array.replicate_succ, Array.replicate_zero, List.push_toArray, List.append_toArray, List.nil_append, List.cons_append]
  gi_wp2_with (refine ⟨trivial, ?_⟩; gi_at_call 94; refine (callsIn_wide.2 (Lines_any _ _)).mono ?_; rintro e w' ⟨rfl, rfl⟩)
  have hS0 := npS_start w s
  obtain ⟨W0, hW0⟩ : ∃ W0, (((((w.alloc (.cells #[.string ⟨#[]⟩, .int .i64 0, .slice none 0 0] 93)).alloc (.cells #[.int .i64 0] 3)).alloc (.cells #[.int .i64 0] 33)).alloc (.cells #[.string ⟨#[]⟩, .int .i64 0, .slice none 0 0] 93)).alloc (.cells #[.int .i64 0] 3)).alloc (.cells #[.string s] 9) = W0 := ⟨_, rfl⟩
  rw [hW0] at hS0 ⊢
  clear hW0
  have hz0 := hS0.nt.base
  refine wpIn_rangeFunc_raw rfl (by omega) (gf := 153) (lb := #[.pointer (some ⟨w.heap.size + 1 + 1 + 1 + 1 + 1, 0, none⟩)]) rfl trivial (enters_of Tryz.func153 (by kernel_rfl) rfl)
    (lines_raw (w.heap.size + 1 + 1 + 1 + 1 + 1) s 3 (by omega)) (fun _ => rfl) ln_keep
    (fun r W => NpI w s r r W) (fun r W => 0 < r.size ∧ NpI w s r (lnN r) W) (NpX w s)
    (fun r W h => by obtain ⟨k, st, v, h1, h2, h3, h4⟩ := h; exact ⟨h4.b5.own, by omega⟩) (fun _ _ _ _ h => h.elim)
    (fun r A B h k => by obtain ⟨kk, st, v, h1, h2, h3, h4⟩ := h; exact ⟨k.1, kk, st, v, h1, h2, h3, h4.ask k.2.1 k.2.2⟩)
    (fun r A o _ h => h.kept (World.grownBy_alloc A o none) (fun r e => by cases e) (fun r e => by cases e))
    (fun r A l o o' hl ho hb _ h => h.kept (grownBy_putObj' A l o') (othersBk ho hb) (fun r e => by cases e; omega))
    (fun r A l o o' hl ho hb _ h => ⟨h.1, h.2.kept (grownBy_putObj' A l o') (othersBk ho hb) (fun r e => by cases e; omega)⟩)
    (fun c A l o o' hl ho hb _ h => h.kept (grownBy_putObj' A l o') (othersBk ho hb) (fun r e => by cases e; omega))
    ⟨0, Cal.note0, _, rfl, by simp [Cal.note0], by simp, hS0⟩ ?a1 ?assign ?body ?done ?stop
  case assign =>
    intro l x W K hK
    gi_wp2
    exact hK
  case body =>
    rintro l0 r W ⟨hr0, k, st, v, hinv, hal, hlen, hS⟩
    have hz := hS.nt.base
    have c4 := hS.b4.c 0 _ rfl
    have f4 := hS.b4.free 0 Nat.zero_lt_one
    have hS1 := Lib.hid (hS.up ((k : Int) + 1))
    clear hS0 hz0
    rcases ln_cases r with ⟨h1, h2⟩ | ⟨i, h1, h2, h3, h4⟩
    · obtain ⟨e1, e2⟩ := ln_miss h2
      have hfin : Hid (Cal.nLines 0 Cal.note0 (Cal.cutT 10 s.data.toList) = .error (k + 1)) := by
        show _ = _
        rw [← hinv, Cal.cutT_free h2, Cal.nLines_last, if_neg (by rintro ⟨e, _⟩; have := list_len r; rw [e] at this; simp at this; omega)]
      have hcut := Lib.hid (fun W => CutSfx_miss r h2 W (by omega))
      simp only [e1]
      have hkk := Lib.hid (KeepsOthers.setCell W ⟨w.heap.size + 1 + 1 + 1 + 1, 0, none⟩ (.int .i64 ((k : Int) + 1)))
      clear e1 e2 h1 h2 hinv hS
      gi_wp2_with (refine ⟨trivial, ?_⟩; gi_at_call 95; refine (callsIn_wide.2 (hcut.out _)).mono ?_; rintro e w' ⟨rfl, rfl⟩)
      obtain ⟨w8, hw8⟩ : ∃ w8, W.setCell ⟨w.heap.size + 1 + 1 + 1 + 1, 0, none⟩ (.int .i64 ((k : Int) + 1)) = w8 := ⟨_, rfl⟩
      rw [hw8] at hS1 hkk ⊢
      clear hw8 c4 f4
      refine ⟨trivial, ?_⟩
      gi_wp2_with fail
      have z00 := hS1.out.b0.c 0 _ rfl
      have z01 := hS1.out.b0.c 1 _ rfl
      have z02 := hS1.out.b0.c 2 _ rfl
      have z1 := hS1.out.b1.c 0 _ rfl
      have z2 := hS1.out.b2.c 0 _ rfl
      have z4 := hS1.out.b4.c 0 _ rfl
      have f00 := hS1.out.b0.free 0 (by simp)
      have f01 := hS1.out.b0.free 1 (by simp)
      have f02 := hS1.out.b0.free 2 (by simp)
      have f1 := hS1.out.b1.free 0 Nat.zero_lt_one
      have f2 := hS1.out.b2.free 0 Nat.zero_lt_one
      have hmo : Tryz.prog.follows .mixedOrders = true := by kernel_rfl
      gi_region_elder_o
      all_goals gi_wp2_with fail
      all_goals (clear z00 z01 z02 z1 z2 z4 f00 f01 f02 f1 f2; obtain ⟨y0, y1, y2, _, y5, y6⟩ := hS1.out.res (.string ⟨#[]⟩) (.int .i64 0) (.slice none 0 0) ((k : Int) + 1) 7)
      all_goals exact ⟨(hkk.out.trans y6).trans (keepsF_below (Below.refl _ _).drew), rfl, k + 1, hfin.out, y0.below (Below.refl _ _).drew, y1.below (Below.refl _ _).drew, y2.below (Below.refl _ _).drew, y5.drew⟩
    · obtain ⟨e1, e2⟩ := ln_hit h1 h4
      obtain ⟨k1, k2, k3, k4⟩ := ln_stepN h2 h3 h4
      rw [e2] at hS1
      simp only [e1]
      obtain ⟨X, hX2⟩ : ∃ X, X = r.extract 0 (i + 1) := ⟨_, rfl⟩
      rw [← hX2] at k2 k4
      simp only [← hX2]
      have hcut := Lib.hid (fun W => CutSfx_hit X _ k2 W (by omega))
      obtain ⟨T, hT⟩ : ∃ T : ByteArray, T = ⟨(r.data.toList.take i).toArray⟩ := ⟨_, rfl⟩
      have hTl : T.data.toList = r.data.toList.take i := by rw [hT]
      rw [← hT] at hcut
      have hTs : T.size ≤ 100000 := by rw [← list_len, hTl, List.length_take]; omega
      rw [k1, ← hTl] at hinv
      obtain ⟨Y, hY⟩ : ∃ Y, Y = r.extract (i + 1) r.size := ⟨_, rfl⟩
      rw [← hY] at hS1 k3 hinv
      have hlnN : Hid (lnN r = Y) := by show _ = _; rw [e2, hY]
      have hkk := Lib.hid (KeepsOthers.setCell W ⟨w.heap.size + 1 + 1 + 1 + 1, 0, none⟩ (.int .i64 ((k : Int) + 1)))
      have hrd := Lib.hid (fun W1 h1 h2 => nread_any (w.heap.size + 6) (w.heap.size + 1 + 1 + 1) st v T k W1 h1 h2 hTs (by omega))
      cases hline : Cal.nLine k st T.data.toList with
      | some st' =>
        have hnx : Hid (Cal.nLines (k + 1) st' (Cal.cutT 10 Y.data.toList) = Cal.nLines 0 Cal.note0 (Cal.cutT 10 s.data.toList)) := by
          show _ = _
          rw [← hinv, Cal.nLines_good (Cal.cutT_ne _ _) hline]
        have hlen2 := Lib.hid (And.intro (nLine_len hline hal) k3)
        rw [hline] at hrd
        clear e1 e2 h1 h2 h3 h4 k1 k2 k3 k4 hinv hline hT hTl hX2 hY hS
        gi_wp2_with (first
          | (refine ⟨trivial, ?_⟩; gi_at_call 95; refine (callsIn_wide.2 (hcut.out _)).mono ?_; rintro e w' ⟨rfl, rfl⟩)
          | (refine ⟨trivial, ?_⟩; gi_at_call 97; refine (callsIn_wide.2 (hrd.out _ (hX.out _ hS1.out.fr) hS1.out.nt)).mono ?_; rintro e w5 ⟨v', rfl, hn5, hm5, _⟩))
        refine ⟨hkk.out.trans (hS1.out.nt.keeps hm5), k + 1, st', v', ?_, hlen2.out.1, ?_, ?_⟩
        · rw [hlnN.out]; exact hnx.out
        · have := hlen2.out.2
          rw [hlnN.out]
          omega
        · rw [hlnN.out]; exact hS1.out.read hn5 hm5
      | none =>
        have hfin : Hid (Cal.nLines 0 Cal.note0 (Cal.cutT 10 s.data.toList) = .error (k + 1)) := by
          show _ = _
          rw [← hinv, Cal.nLines_bad (Cal.cutT_ne _ _) hline]
        rw [hline] at hrd
        clear e1 e2 h1 h2 h3 h4 k1 k2 k3 k4 hinv hline hT hTl hX2 hY hS hlnN
        gi_wp2_with (first
          | (refine ⟨trivial, ?_⟩; gi_at_call 95; refine (callsIn_wide.2 (hcut.out _)).mono ?_; rintro e w' ⟨rfl, rfl⟩)
          | (refine ⟨trivial, ?_⟩; gi_at_call 97; refine (callsIn_wide.2 (hrd.out _ (hX.out _ hS1.out.fr) hS1.out.nt)).mono ?_; rintro e w5 ⟨v', rfl, hn5, hm5, _⟩))
        have hS8 := Lib.hid (hS1.out.read hn5 hm5)
        have hk8 := Lib.hid (hkk.out.trans (hS1.out.nt.keeps hm5))
        clear hn5 hm5 c4 f4
        have z00 := hS8.out.b0.c 0 _ rfl
        have z01 := hS8.out.b0.c 1 _ rfl
        have z02 := hS8.out.b0.c 2 _ rfl
        have z1 := hS8.out.b1.c 0 _ rfl
        have z2 := hS8.out.b2.c 0 _ rfl
        have z4 := hS8.out.b4.c 0 _ rfl
        have f00 := hS8.out.b0.free 0 (by simp)
        have f01 := hS8.out.b0.free 1 (by simp)
        have f02 := hS8.out.b0.free 2 (by simp)
        have f1 := hS8.out.b1.free 0 Nat.zero_lt_one
        have f2 := hS8.out.b2.free 0 Nat.zero_lt_one
        have hmo : Tryz.prog.follows .mixedOrders = true := by kernel_rfl
        gi_region_elder_o
        all_goals gi_wp2_with fail
        all_goals (clear z00 z01 z02 z1 z2 z4 f00 f01 f02 f1 f2; obtain ⟨y0, y1, y2, _, y5, y6⟩ := hS8.out.res (.string ⟨#[]⟩) (.int .i64 0) (.slice none 0 0) ((k : Int) + 1) 7)
        all_goals exact ⟨(hk8.out.trans y6).trans (keepsF_below (Below.refl _ _).drew), rfl, k + 1, hfin.out, y0.below (Below.refl _ _).drew, y1.below (Below.refl _ _).drew, y2.below (Below.refl _ _).drew, y5.drew⟩
  case done =>
    rintro D r W2 hE ⟨k, st, v, hinv, hal, hlen, hS⟩ hle hD
    have hr0 : r.data.toList = [] := by have := list_len r; rw [hE] at this; exact List.eq_nil_of_length_eq_zero this
    rw [hr0] at hinv
    have hinv : (if k = 0 then Except.error 1 else Except.ok st) = Cal.nLines 0 Cal.note0 (Cal.cutT 10 s.data.toList) := by
      rw [← hinv]
      show _ = Cal.nLines k st [[]]
      rw [Cal.nLines_last]
      by_cases hk : k = 0
      · rw [if_pos hk, if_neg (by omega), hk]
      · rw [if_neg hk, if_pos ⟨rfl, by omega⟩]
    have hD := Lib.hid hD
    obtain ⟨Av, cv, rfl, hrw⟩ := OwnL.form hS.nt.own
    obtain ⟨nv, hnv⟩ : ∃ nv, nv = (st.acts.map NAct.cells).length := ⟨_, rfl⟩
    have hnvz : Hid (nv = st.acts.length) := by show _ = _; rw [hnv, List.length_map]
    rw [← hnv] at hS
    clear hnv hr0 hE hS0
    have z00 := hS.b0.c 0 _ rfl
    have z01 := hS.b0.c 1 _ rfl
    have z02 := hS.b0.c 2 _ rfl
    have z1 := hS.b1.c 0 _ rfl
    have z2 := hS.b2.c 0 _ rfl
    have z4 := hS.b4.c 0 _ rfl
    have n0 := hS.nt.box.c 0 _ rfl
    have n1 := hS.nt.box.c 1 _ rfl
    have n2 := hS.nt.box.c 2 _ rfl
    have f00 := hS.b0.free 0 (by simp)
    have f01 := hS.b0.free 1 (by simp)
    have f02 := hS.b0.free 2 (by simp)
    have f1 := hS.b1.free 0 Nat.zero_lt_one
    have f2 := hS.b2.free 0 Nat.zero_lt_one
    have hS := Lib.hid hS
    by_cases hk : k = 0
    · rw [if_pos hk] at hinv
      have hfin : Hid (Cal.parseN s.data.toList = (Cal.note0, 1, 7)) := by show _ = _; rw [hpt.out, ← hinv]; rfl
      subst hk
      clear hinv
      gi_wp2_with fail
      obtain ⟨q0, q1, q2, q4, q5, q6⟩ := hS.out.res (.string ⟨#[]⟩) (.int .i64 0) (.slice none 0 0) (1) (7)
      obtain ⟨W9, hW9⟩ : ∃ W9, ((((W2.setCell ⟨w.heap.size, 0, none⟩ (.string ⟨#[]⟩)).setCell ⟨w.heap.size, 1, none⟩ (.int .i64 0)).setCell ⟨w.heap.size, 2, none⟩ (.slice none 0 0)).setCell ⟨w.heap.size + 1, 0, none⟩ (.int .i64 (1))).setCell ⟨w.heap.size + 1 + 1, 0, none⟩ (.int .i64 (7)) = W9 := ⟨_, rfl⟩
      rw [hW9] at q0 q1 q2 q4 q5 q6 ⊢
      clear hW9
      have hK' := q6.same D _ hD.out rfl
      have ho' : Others W9 (some D) := fun r e => by cases e; exact ⟨_, hK', rfl⟩
      refine ⟨by simp, .inl ⟨_, _, rfl, run_takeDeferred hK', ?_⟩⟩
      have r0 := q0.keptF (grownBy_putObj' W9 D (.deferred none)) ho'
      have r1 := (q1.keptF (grownBy_putObj' W9 D (.deferred none)) ho').c 0 _ rfl
      have r2 := (q2.keptF (grownBy_putObj' W9 D (.deferred none)) ho').c 0 _ rfl
      refine ⟨_, results_midcc rfl _ _ w.heap.size [.string ⟨#[]⟩, .int .i64 0, .slice none 0 0] _ rfl r0.range Tryz.underlying93 rfl ntSz ⟨w.heap.size + 1, 0, none⟩ (.int .i64 (1)) rfl (by simp [go_sem, r1]) ⟨w.heap.size + 1 + 1, 0, none⟩ (.int .i64 (7)) rfl (by simp [go_sem, r2]), ?_⟩
      exact nparse_err hfin.out (belowF_put q5 (by omega) _)
    · rw [if_neg hk] at hinv
      have hkb : ((k : Int) == 0) = false := by rw [beq_eq_false_iff_ne]; omega
      by_cases h40 : 40 < nv
      · have hfin : Hid (Cal.parseN s.data.toList = (Cal.note0, 0, 8)) := by
          show _ = _
          rw [hpt.out, ← hinv]
          show (if _ then _ else _) = _
          rw [if_pos (by rw [← hnvz.out]; exact h40)]
        clear hinv hk
        gi_wp2_with fail
        obtain ⟨q0, q1, q2, q4, q5, q6⟩ := hS.out.res (.string ⟨#[]⟩) (.int .i64 0) (.slice none 0 0) (0) (8)
        obtain ⟨W9, hW9⟩ : ∃ W9, ((((W2.setCell ⟨w.heap.size, 0, none⟩ (.string ⟨#[]⟩)).setCell ⟨w.heap.size, 1, none⟩ (.int .i64 0)).setCell ⟨w.heap.size, 2, none⟩ (.slice none 0 0)).setCell ⟨w.heap.size + 1, 0, none⟩ (.int .i64 (0))).setCell ⟨w.heap.size + 1 + 1, 0, none⟩ (.int .i64 (8)) = W9 := ⟨_, rfl⟩
        rw [hW9] at q0 q1 q2 q4 q5 q6 ⊢
        clear hW9
        have hK' := q6.same D _ hD.out rfl
        have ho' : Others W9 (some D) := fun r e => by cases e; exact ⟨_, hK', rfl⟩
        refine ⟨by simp, .inl ⟨_, _, rfl, run_takeDeferred hK', ?_⟩⟩
        have r0 := q0.keptF (grownBy_putObj' W9 D (.deferred none)) ho'
        have r1 := (q1.keptF (grownBy_putObj' W9 D (.deferred none)) ho').c 0 _ rfl
        have r2 := (q2.keptF (grownBy_putObj' W9 D (.deferred none)) ho').c 0 _ rfl
        refine ⟨_, results_midcc rfl _ _ w.heap.size [.string ⟨#[]⟩, .int .i64 0, .slice none 0 0] _ rfl r0.range Tryz.underlying93 rfl ntSz ⟨w.heap.size + 1, 0, none⟩ (.int .i64 (0)) rfl (by simp [go_sem, r1]) ⟨w.heap.size + 1 + 1, 0, none⟩ (.int .i64 (8)) rfl (by simp [go_sem, r2]), ?_⟩
        exact nparse_err hfin.out (belowF_put q5 (by omega) _)
      · have hfin : Hid (Cal.parseN s.data.toList = (st, 0, 0)) := by
          show _ = _
          rw [hpt.out, ← hinv]
          show (if _ then _ else _) = _
          rw [if_neg (by rw [← hnvz.out]; exact h40)]
        have h40' : nv ≤ 40 := by omega
        clear hinv hk h40
        gi_wp2_with fail
        obtain ⟨q0, q1, q2, q4, q5, q6⟩ := hS.out.res (.string st.name) (.int .i64 st.opened) (.slice Av nv cv) (0) (0)
        obtain ⟨W9, hW9⟩ : ∃ W9, ((((W2.setCell ⟨w.heap.size, 0, none⟩ (.string st.name)).setCell ⟨w.heap.size, 1, none⟩ (.int .i64 st.opened)).setCell ⟨w.heap.size, 2, none⟩ (.slice Av nv cv)).setCell ⟨w.heap.size + 1, 0, none⟩ (.int .i64 (0))).setCell ⟨w.heap.size + 1 + 1, 0, none⟩ (.int .i64 (0)) = W9 := ⟨_, rfl⟩
        rw [hW9] at q0 q1 q2 q4 q5 q6 ⊢
        clear hW9
        have hK' := q6.same D _ hD.out rfl
        have ho' : Others W9 (some D) := fun r e => by cases e; exact ⟨_, hK', rfl⟩
        refine ⟨by simp, .inl ⟨_, _, rfl, run_takeDeferred hK', ?_⟩⟩
        have r0 := q0.keptF (grownBy_putObj' W9 D (.deferred none)) ho'
        have r1 := (q1.keptF (grownBy_putObj' W9 D (.deferred none)) ho').c 0 _ rfl
        have r2 := (q2.keptF (grownBy_putObj' W9 D (.deferred none)) ho').c 0 _ rfl
        refine ⟨_, results_midcc rfl _ _ w.heap.size [.string st.name, .int .i64 st.opened, .slice Av nv cv] _ rfl r0.range Tryz.underlying93 rfl ntSz ⟨w.heap.size + 1, 0, none⟩ (.int .i64 (0)) rfl (by simp [go_sem, r1]) ⟨w.heap.size + 1 + 1, 0, none⟩ (.int .i64 (0)) rfl (by simp [go_sem, r2]), ?_⟩
        have q4' := q4.keptF (grownBy_putObj' W9 D (.deferred none)) ho'
        obtain ⟨A5, c5, hv5, hr5⟩ := OwnL.form q4'
        rw [hfin.out]
        refine ⟨Av, cv, by rw [hnvz.out], ⟨?_, by rw [← hnvz.out]; omega⟩, belowF_put q5 (by omega) _⟩
        simp only [Value.slice.injEq] at hv5
        obtain ⟨rfl, _, rfl⟩ := hv5
        exact hr5
  case stop =>
    rintro D c W2 ⟨rfl, k, hk, b0, b1, b2, hb⟩ hle hD
    have hfin : Hid (Cal.parseN s.data.toList = (Cal.note0, (k : Int), 7)) := by show _ = _; rw [hpt.out, hk]; rfl
    have hAll := Lib.hid (And.intro b0 (And.intro b1 (And.intro b2 hb)))
    clear hk b0 b1 b2 hb
    gi_wp2
    obtain ⟨b0, b1, b2, hb⟩ := hAll.out
    have ho' : Others W2 (some D) := fun r e => by cases e; exact ⟨_, hD, rfl⟩
    refine ⟨by simp, .inl ⟨_, _, rfl, run_takeDeferred hD, ?_⟩⟩
    have r0 := b0.keptF (grownBy_putObj' W2 D (.deferred none)) ho'
    have r1 := (b1.keptF (grownBy_putObj' W2 D (.deferred none)) ho').c 0 _ rfl
    have r2 := (b2.keptF (grownBy_putObj' W2 D (.deferred none)) ho').c 0 _ rfl
    refine ⟨_, results_midcc rfl _ _ w.heap.size [.string ⟨#[]⟩, .int .i64 0, .slice none 0 0] _ rfl r0.range Tryz.underlying93 rfl ntSz ⟨w.heap.size + 1, 0, none⟩ (.int .i64 k) rfl (by simp [go_sem, r1]) ⟨w.heap.size + 1 + 1, 0, none⟩ (.int .i64 7) rfl (by simp [go_sem, r2]), ?_⟩
    exact nparse_err hfin.out (belowF_put hb (by omega) _)
theorem NParse_any (s : ByteArray) (w : World) (hX : TxtT w) : Calls Tryz.prog 43 #[.string s] w (NParsePost w (Cal.parseN s.data.toList)) := by
  by_cases h : 60000 < s.size
  · exact NParse_big s w h
  · exact NParse_ok s w hX h
end Go.Proofs.YtbegbajlagcbdaaGreatDoor
