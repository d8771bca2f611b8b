/- Chapter 8 and what it rests on: definitions and walks, part 32. -/
import Derived.Test.YtbegbajlagcbdaaGreatDoorC31
namespace Go.Proofs.YtbegbajlagcbdaaGreatDoor
open Go Go.RowKit Go.Shelf
attribute [local go_sem] Oper.semAt_some
theorem elemPrv : Elem Tryz.prog 79 71 5 48 := Elem.mk' Tryz.underlying79 (z := .agg #[.string ⟨#[]⟩, .int .i64 0, .int .i64 0, .int .i64 0, .bool false]) (by kernel_rfl) rfl (by decide)
theorem prvCells_wid (l : List Prov) : ∀ r ∈ l.map Prov.cells, r.length = 5 := fun r hr => by obtain ⟨p, _, rfl⟩ := List.mem_map.1 hr; rfl
theorem prvCells_one (l : List Prov) : ∀ r ∈ l.map Prov.cells, ∀ u ∈ r, u.oneCell' = true := fun r hr u hu => by
  obtain ⟨p, _, rfl⟩ := List.mem_map.1 hr
  simp only [Prov.cells, List.mem_cons, List.not_mem_nil, or_false] at hu
  rcases hu with rfl | rfl | rfl | rfl | rfl <;> rfl
theorem OwnL.prvs {w : World} {B : Nat} {E : TypeId} {v : Value} {l : List Prov} (h : OwnL w B E 5 v (l.map Prov.cells)) (hs : l.length ≤ 1000000) (hn : ∀ (k : Nat) p, l[k]? = some p → p.name.size ≤ maxLen) : ∃ A c, v = .slice A l.length c ∧ Provs w A l := by
  obtain ⟨A, c, hv, hr⟩ := h.form
  exact ⟨A, c, by rw [hv, List.length_map], hr, by omega, hn⟩
/-- What Parse returns. -/
def ParsePost (w : World) (r : List Prov × Int × Int) (e : Ending) (w' : World) : Prop :=
  ∃ A c, e = .returned (.tuple #[.slice A r.1.length c, .int .i64 r.2.1, .int .i64 r.2.2]) ∧ Provs w' A r.1 ∧ Below w.heap.size w w'
theorem parsePost_err {w w' : World} {r : List Prov × Int × Int} {k E : Int} (h : r = ([], k, E)) (hb : Below w.heap.size w w') : ParsePost w r (.returned (.tuple #[.slice none 0 0, .int .i64 k, .int .i64 E])) w' := by
  subst h
  exact ⟨none, 0, rfl, ⟨RowsAt.nil _ _ _, by simp, fun k p h => by simp at h⟩, hb⟩
theorem CutSuffix_hit (x : ByteArray) (L : List UInt8) (h : x.data.toList = L ++ [10]) (w : World) (hs : x.size ≤ 1000000) :
    Calls Tryz.prog 95 #[.string x, .string ⟨#[10]⟩] w fun e w' => e = .returned (.tuple #[.string ⟨L.toArray⟩, .bool true]) ∧ w = w' := by
  refine (Tryz.strings_CutSuffix x ⟨#[10]⟩ w (by omega)).mono ?_
  rintro e w' ⟨rfl, rfl⟩
  have h1 : Lib.hasSuffix (L ++ [10]) [10] = true := by unfold Lib.hasSuffix; rw [List.isSuffixOf_iff_suffix]; exact ⟨L, rfl⟩
  have h2 : Lib.trimSuffix (L ++ [10]) [10] = L := by unfold Lib.trimSuffix; rw [if_pos h1]; simp
  have e0 : (⟨#[10]⟩ : ByteArray).data.toList = [10] := rfl
  rw [e0, h, h1, h2]
  exact ⟨rfl, rfl⟩
theorem CutSuffix_miss (x : ByteArray) (h : 10 ∉ x.data.toList) (w : World) (hs : x.size ≤ 1000000) :
    Calls Tryz.prog 95 #[.string x, .string ⟨#[10]⟩] w fun e w' => e = .returned (.tuple #[.string x, .bool false]) ∧ w = w' := by
  refine (Tryz.strings_CutSuffix x ⟨#[10]⟩ w (by omega)).mono ?_
  rintro e w' ⟨rfl, rfl⟩
  have h1 : Lib.hasSuffix x.data.toList [10] = false := by
    unfold Lib.hasSuffix
    rw [← Bool.not_eq_true, List.isSuffixOf_iff_suffix]
    rintro ⟨t, ht⟩
    exact h (by rw [← ht]; simp)
  have h2 : Lib.trimSuffix x.data.toList [10] = x.data.toList := by unfold Lib.trimSuffix; rw [h1]; simp
  have e0 : (⟨#[10]⟩ : ByteArray).data.toList = [10] := rfl
  rw [e0, h1, h2]
  exact ⟨by first | rfl | simp, rfl⟩
/-- What read makes of a line. -/
theorem readV_good {l : List UInt8} {p : Prov} (h : Cal.lineP l = some p) : readV l = (.agg #[.string p.name, .int .i64 p.value, .int .i64 p.fr, .int .i64 p.en, .bool p.repeal], 0) := by
  unfold Cal.lineP at h
  split at h
  · cases h
  · rename_i h0
    obtain ⟨⟨a, q⟩, hx, rfl⟩ := Option.map_eq_some_iff.1 h
    rw [readV_some h0 hx]
    rfl
theorem readV_bad {l : List UInt8} (h : Cal.lineP l = none) : ∃ E : Int, E ≠ 0 ∧ readV l = (.agg #[.string ⟨#[]⟩, .int .i64 0, .int .i64 0, .int .i64 0, .bool false], E) := by
  unfold Cal.lineP at h
  split at h
  · rename_i h0
    exact ⟨8, by decide, by rw [readV_long h0]; rfl⟩
  · rename_i h0
    exact ⟨7, by decide, by rw [readV_none h0 (Option.map_eq_none_iff.1 h)]; rfl⟩
/-- What stands in memory ahead of a line: acc what was read, x what the iterator's cell holds. -/
structure PaS (w : World) (acc : List Prov) (v : Value) (x : ByteArray) (W : World) : Prop where
  b0 : BoxAt W w.heap.size [.slice none 0 0]
  b1 : BoxAt W (w.heap.size + 1) [.int .i64 0]
  b2 : BoxAt W (w.heap.size + 1 + 1) [.int .i64 0]
  b3 : BoxAt W (w.heap.size + 1 + 1 + 1) [v]
  b4 : BoxAt W (w.heap.size + 1 + 1 + 1 + 1) [.string x]
  own : OwnL W (w.heap.size + 5) 71 5 v (acc.map Prov.cells)
  fr : Below w.heap.size w W
  size : w.heap.size + 5 ≤ W.heap.size
theorem PaS.below {w : World} {acc : List Prov} {v : Value} {x : ByteArray} {W W' : World} (h : PaS w acc v x W) (hb : Below W.heap.size W W') : PaS w acc v x W' :=
  ⟨h.b0.below hb, h.b1.below hb, h.b2.below hb, h.b3.below hb, h.b4.below hb, OwnL.below h.own hb, below_step h.fr hb, Nat.le_trans h.size hb.size⟩
theorem PaS.kept {w : World} {acc : List Prov} {v : Value} {x : ByteArray} {W W' : World} {row : Option Nat} (h : PaS w acc v x W) (hg : W.grownBy W' row) (hr : Others W row) (hB : ∀ r, row = some r → w.heap.size ≤ r) : PaS w acc v x W' :=
  ⟨h.b0.keptF hg hr, h.b1.keptF hg hr, h.b2.keptF hg hr, h.b3.keptF hg hr, h.b4.keptF hg hr, OwnL.keptF h.own hg hr, h.fr.grown hg (by have := h.fr.size; omega) hB, Nat.le_trans h.size hg.size⟩
theorem PaS.ask {w : World} {acc : List Prov} {v : Value} {x y : ByteArray} {W W' : World} (h : PaS w acc v x W) (hg : W.grownBy W' (some (w.heap.size + 1 + 1 + 1 + 1))) (hc : OwnCell W' (w.heap.size + 1 + 1 + 1 + 1) (.string y)) : PaS w acc v y W' := by
  refine ⟨h.b0.grown hg (fun e => by injection e with e; omega), h.b1.grown hg (fun e => by injection e with e; omega), h.b2.grown hg (fun e => by injection e with e; omega), h.b3.grown hg (fun e => by injection e with e; omega), hc.box, ?_, h.fr.grown hg h.fr.size (fun r e => by cases e; omega), Nat.le_trans h.size hg.size⟩
  refine OwnL.kept h.own hg ?_
  cases hv : v.ownBlock with
  | none => exact .inl rfl
  | some g => right; intro e; have := (h.own.lt g hv).1; injection e with e; omega
/-- The invariant of the lines: r is what is left. -/
def PaI (w : World) (s r x : ByteArray) (W : World) : Prop := ∃ acc v, Cal.linesR acc.length acc (Cal.cutT 10 r.data.toList) = Cal.linesR 0 [] (Cal.cutT 10 s.data.toList) ∧ (∀ p ∈ acc, p.name.size ≤ 200) ∧ acc.length + r.size ≤ s.size ∧ PaS w acc v x W
def PaX (w : World) (s : ByteArray) (c : Code) (W : World) : Prop := c = .ret ∧ ∃ k : Nat, Cal.linesR 0 [] (Cal.cutT 10 s.data.toList) = .error k ∧ BoxAt W w.heap.size [.slice none 0 0] ∧ BoxAt W (w.heap.size + 1) [.int .i64 k] ∧ BoxAt W (w.heap.size + 1 + 1) [.int .i64 7] ∧ Below w.heap.size w W
theorem PaI.kept {w : World} {s r x : ByteArray} {W W' : World} {row : Option Nat} (h : PaI w s r x W) (hg : W.grownBy W' row) (hr : Others W row) (hB : ∀ r, row = some r → w.heap.size ≤ r) : PaI w s r x W' := by
  obtain ⟨acc, v, h1, h2, h3, h4⟩ := h
  exact ⟨acc, v, h1, h2, h3, h4.kept hg hr hB⟩
theorem PaX.kept {w : World} {s : ByteArray} {c : Code} {W W' : World} {row : Option Nat} (h : PaX w s c W) (hg : W.grownBy W' row) (hr : Others W row) (hB : ∀ r, row = some r → w.heap.size ≤ r) : PaX w s c W' := by
  obtain ⟨h0, k, h1, b0, b1, b2, hb⟩ := h
  exact ⟨h0, k, h1, b0.keptF hg hr, b1.keptF hg hr, b2.keptF hg hr, hb.grown hg (by have := hb.size; omega) hB⟩
theorem PaS.app {w : World} {acc : List Prov} {v v' : Value} {x : ByteArray} {W W7 : World} {p : Prov} (h : PaS w acc v x W) (hown : OwnL W7 (w.heap.size + 5) 71 5 v' (acc.map Prov.cells ++ [p].map Prov.cells)) (hg : W.grownBy W7 v.ownBlock) :
    PaS w (acc ++ [p]) v' x (W7.setCell ⟨w.heap.size + 1 + 1 + 1, 0, none⟩ v') ∧ BoxAt W7 (w.heap.size + 1 + 1 + 1) [v] ∧ KeepsOthers W (W7.setCell ⟨w.heap.size + 1 + 1 + 1, 0, none⟩ v') := by
  have hne : ∀ b, b < w.heap.size + 5 → some b ≠ v.ownBlock := fun b hb e => by have := (h.own.lt b e.symm).1; omega
  rw [← List.map_append] at hown
  have b3 := h.b3.grown hg (hne _ (by omega))
  exact ⟨⟨(h.b0.grown hg (hne _ (by omega))).offF 0 _ (by omega), (h.b1.grown hg (hne _ (by omega))).offF 0 _ (by omega), (h.b2.grown hg (hne _ (by omega))).offF 0 _ (by omega), b3.set 0 _ Nat.zero_lt_one, (h.b4.grown hg (hne _ (by omega))).offF 0 _ (by omega),
    hown.offF 0 _ (by omega), (h.fr.trans (grown_below hg (fun g e => by have := (h.own.lt g e).1; omega) (by have := h.size; omega))).setCell (p := ⟨w.heap.size + 1 + 1 + 1, 0, none⟩) (by show w.heap.size ≤ w.heap.size + 1 + 1 + 1; omega) _, by rw [World.size_setCell]; exact Nat.le_trans h.size hg.size⟩, b3, (OwnL.keepsF h.own hg).trans (KeepsOthers.setCell _ _ _)⟩
theorem readV_form (l : List UInt8) : ∃ (p : Prov) (E : Int), readV l = (.agg #[.string p.name, .int .i64 p.value, .int .i64 p.fr, .int .i64 p.en, .bool p.repeal], E) ∧ (E = 0 → Cal.lineP l = some p) ∧ (E ≠ 0 → Cal.lineP l = none) := by
  cases h : Cal.lineP l with
  | some p => exact ⟨p, 0, readV_good h, fun _ => rfl, fun h => absurd rfl h⟩
  | none =>
    obtain ⟨E, hE, h1⟩ := readV_bad h
    exact ⟨⟨⟨#[]⟩, 0, 0, 0, false⟩, E, h1, fun h => absurd h hE, fun _ => rfl⟩
theorem othersBook {W : World} {l : Nat} {o : Obj} (h : W.heap[l]? = some o) (hb : isBook o = true) : Others W (some l) := fun r e => by cases e; exact ⟨o, h, not_cells_of_book hb⟩
/-- A line that has an end, taken off. -/
theorem ln_step {r : ByteArray} {i : Nat} (h2 : i < r.size) (h3 : 10 ∉ r.data.toList.take i) (h4 : r.data.toList = r.data.toList.take i ++ 10 :: r.data.toList.drop (i + 1)) :
    Cal.cutT 10 r.data.toList = r.data.toList.take i :: Cal.cutT 10 (r.extract (i + 1) r.size).data.toList ∧ (r.extract 0 (i + 1)).data.toList = r.data.toList.take i ++ [10] ∧ (r.extract (i + 1) r.size).size + (i + 1) = r.size ∧ (r.extract 0 (i + 1)).size = i + 1 := by
  have e1 : (r.extract (i + 1) r.size).data.toList = r.data.toList.drop (i + 1) := by rw [Lib.extract_to_end]
  have e2 : (r.extract 0 (i + 1)).data.toList = r.data.toList.take (i + 1) := by rw [ext_list]; simp
  have hll := list_len r
  refine ⟨?_, ?_, ?_, ?_⟩
  · conv => lhs; rw [h4]
    rw [Cal.cutT_sep h3, e1]
  · rw [e2, List.take_succ_eq_append_getElem (by omega)]
    congr 2
    have h5 : r.data.toList[i]? = some 10 := by
      rw [h4, List.getElem?_append_right (by rw [List.length_take]; omega), List.length_take]
      rw [show i - min i r.data.toList.length = 0 by omega]; rfl
    rw [List.getElem?_eq_getElem (by omega)] at h5
    exact Option.some.inj h5
  · rw [← list_len, e1, List.length_drop]; omega
  · rw [← list_len, e2, List.length_take]; omega
set_option maxRecDepth 100000 in
set_option maxHeartbeats 4000000 in
theorem Parse_big (s : ByteArray) (w : World) (h0 : 60000 < s.size) : Calls Tryz.prog 36 #[.string s] w (ParsePost w (Cal.parseT s.data.toList)) := by
  have hfin : Hid (Cal.parseT s.data.toList = ([], 0, 8)) := by show _ = _; unfold Cal.parseT; rw [if_pos (by rw [list_len]; exact h0)]
  go_enter Tryz.func36, Tryz.ntmps36
  go_wp2
  refine bodyPost_ret (v := .tuple #[.slice none 0 0, .int .i64 0, .int .i64 8]) (by simp [results, Tryz.results36, go_sem]) rfl ?_
  exact parsePost_err hfin.out (below_step (below_step (below_alloc _ _) (below_alloc _ _)) (below_alloc _ _))
theorem paS_start (w : World) (s : ByteArray) : PaS w [] (.slice none 0 0) s (((((w.alloc (.cells #[.slice none 0 0] 79)).alloc (.cells #[.int .i64 0] 3)).alloc (.cells #[.int .i64 0] 33)).alloc (.cells #[.slice none 0 0] 79)).alloc (.cells #[.string s] 9)) := by
  have h0 := BoxAt.new w #[.slice none 0 0] 79
  have h1 := BoxAt.new (w.alloc (.cells #[.slice none 0 0] 79)) #[.int .i64 0] 3
  have h2 := BoxAt.new ((w.alloc (.cells #[.slice none 0 0] 79)).alloc (.cells #[.int .i64 0] 3)) #[.int .i64 0] 33
  have h3 := BoxAt.new (((w.alloc (.cells #[.slice none 0 0] 79)).alloc (.cells #[.int .i64 0] 3)).alloc (.cells #[.int .i64 0] 33)) #[.slice none 0 0] 79
  have h4 := BoxAt.new ((((w.alloc (.cells #[.slice none 0 0] 79)).alloc (.cells #[.int .i64 0] 3)).alloc (.cells #[.int .i64 0] 33)).alloc (.cells #[.slice none 0 0] 79)) #[.string s] 9
  simp only [World.size_alloc] at h1 h2 h3 h4
  exact ⟨(((h0.alloc _).alloc _).alloc _).alloc _, ((h1.alloc _).alloc _).alloc _, (h2.alloc _).alloc _, h3.alloc _, h4, OwnL.nil _ _ _ _,
    below_step (below_step (below_step (below_step (below_alloc _ _) (below_alloc _ _)) (below_alloc _ _)) (below_alloc _ _)) (below_alloc _ _), by simp⟩
set_option maxRecDepth 100000 in
set_option maxHeartbeats 8000000 in
theorem Parse_ok (s : ByteArray) (w : World) (hX : TxtT w) (h0 : ¬ 60000 < s.size) : Calls Tryz.prog 36 #[.string s] w (ParsePost w (Cal.parseT s.data.toList)) := by
  have hpt : Hid (Cal.parseT s.data.toList = Cal.finT (Cal.linesR 0 [] (Cal.cutT 10 s.data.toList))) := by show _ = _; unfold Cal.parseT; rw [if_neg (by rw [list_len]; exact h0)]
  have hs : s.size ≤ 60000 := by omega
  have hX := Lib.hid (fun W (h : Below w.heap.size w W) => hX.below h)
  clear h0
  refine (callsIn_wide (n := 4)).1 ?_
  refine callsIn_of_wp_marks Tryz.func36 rfl trivial ?_ rfl
  simp only [Tryz.ntmps36, List.size_toArray, List.length_cons, List.length_nil, Nat.reduceAdd, Nat.reduceSub, Array.replicate_succ, Array.replicate_zero, List.push_toArray, List.append_toArray, List.nil_append, List.cons_append]
  gi_wp2_with (refine ⟨trivial, ?_⟩; gi_at_call 94; refine (callsIn_wide.2 (Lines_any _ _)).mono ?_; rintro e w' ⟨rfl, rfl⟩)
  have hS0 := paS_start w s
  obtain ⟨W0, hW0⟩ : ∃ W0, ((((w.alloc (.cells #[.slice none 0 0] 79)).alloc (.cells #[.int .i64 0] 3)).alloc (.cells #[.int .i64 0] 33)).alloc (.cells #[.slice none 0 0] 79)).alloc (.cells #[.string s] 9) = W0 := ⟨_, rfl⟩
  rw [hW0] at hS0 ⊢
  clear hW0
  have hz0 := hS0.size
  refine wpIn_rangeFunc_raw rfl (by omega) (gf := 153) (lb := #[.pointer (some ⟨w.heap.size + 1 + 1 + 1 + 1, 0, none⟩)]) rfl trivial (enters_of Tryz.func153 (by kernel_rfl) rfl)
    (lines_raw (w.heap.size + 1 + 1 + 1 + 1) s 3 (by omega)) (fun _ => rfl) ln_keep
    (fun r W => PaI w s r r W) (fun r W => 0 < r.size ∧ PaI w s r (lnN r) W) (PaX w s)
    (fun r W h => by obtain ⟨acc, v, h1, h2, h3, h4⟩ := h; exact ⟨h4.b4.own, by omega⟩) (fun _ _ _ _ h => h.elim)
    (fun r A B h k => by obtain ⟨acc, v, h1, h2, h3, h4⟩ := h; exact ⟨k.1, acc, v, h1, h2, h3, h4.ask k.2.1 k.2.2⟩)
    (fun r A o _ h => h.kept (World.grownBy_alloc A o none) (fun r e => by cases e) (fun r e => by cases e))
    (fun r A l o o' hl ho hb _ h => h.kept (grownBy_putObj' A l o') (othersBook ho hb) (fun r e => by cases e; omega))
    (fun r A l o o' hl ho hb _ h => ⟨h.1, h.2.kept (grownBy_putObj' A l o') (othersBook ho hb) (fun r e => by cases e; omega)⟩)
    (fun c A l o o' hl ho hb _ h => h.kept (grownBy_putObj' A l o') (othersBook ho hb) (fun r e => by cases e; omega))
    ⟨[], _, rfl, (fun p h => by cases h), by simp, hS0⟩ ?a1 ?assign ?body ?done ?stop
  case assign =>
    intro l x W K hK
    gi_wp2
    exact hK
  case body =>
    rintro l0 r W ⟨hr0, acc, v, hinv, hnm, hlen, hS⟩
    obtain ⟨A4, c4, rfl, _⟩ := OwnL.form hS.own
    obtain ⟨n4, hn4⟩ : ∃ n4, n4 = (acc.map Prov.cells).length := ⟨_, rfl⟩
    rw [← hn4] at hS
    have hz := hS.size
    have hS := Lib.hid hS
    clear hn4 hS0 hz0
    rcases ln_cases r with ⟨h1, h2⟩ | ⟨i, h1, h2, h3, h4⟩
    · obtain ⟨e1, e2⟩ := ln_miss h2
      have hfin : Hid (Cal.linesR 0 [] (Cal.cutT 10 s.data.toList) = .error (acc.length + 1)) := by
        show _ = _
        rw [← hinv, Cal.cutT_free h2, Cal.linesR_last, if_neg (by intro e; have := list_len r; rw [e] at this; simp at this; omega)]
      have hcut := Lib.hid (fun W => CutSuffix_miss r h2 W (by omega))
      simp only [e1]
      obtain ⟨p, E, hrd, _, _⟩ := readV_form r.data.toList
      have hrd := Lib.hid hrd
      have hTs : r.size ≤ 1000000 := by omega
      clear e1 e2 h1 h2 hinv
      gi_wp2_with (first
        | (refine ⟨trivial, ?_⟩; gi_at_call 95; refine (callsIn_wide.2 (hcut.out _)).mono ?_; rintro e w' ⟨rfl, rfl⟩)
        | (refine ⟨trivial, ?_⟩; gi_at_call 84; refine (callsIn_wide.2 (read_any (r) _ (hX.out _ hS.out.fr) hTs)).mono ?_; rintro e w5 ⟨rfl, hbn⟩; rw [hrd.out]; dsimp only; have hS5 := Lib.hid (hS.out.below hbn); have hk5 := Lib.hid (keepsF_below hbn); clear hbn)
        | (refine wpListF_store_box rfl 71 (.tmp 9) (.tmp 26) rfl w5.heap.size _ [.string p.name, .int .i64 p.value, .int .i64 p.fr, .int .i64 p.en, .bool p.repeal] (by rfl) (by rfl) (BoxAt.new w5 #[.string ⟨#[]⟩, .int .i64 0, .int .i64 0, .int .i64 0, .bool false] 71) rfl pvSize (by kernel_rfl) ?_; intro w6 h6 hg6; have hb56 := below_of_grownB (below_alloc w5 (.cells #[.string ⟨#[]⟩, .int .i64 0, .int .i64 0, .int .i64 0, .bool false] 71)) hg6 (Nat.le_refl _); have hS6 := Lib.hid (hS5.out.below hb56); have hk6 := Lib.hid (hk5.out.trans (keepsF_below hb56)); have c3 := hS6.out.b3.c 0 _ rfl; have h6 := Lib.hid h6; clear hg6 hb56)
        | (refine wpListF_load_mid rfl 71 (.tmp 9) rfl w5.heap.size 0 rfl [.string p.name, .int .i64 p.value, .int .i64 p.fr, .int .i64 p.en, .bool p.repeal] _ h6.out.range Tryz.underlying71 rfl pvSize ?_)
        | (gi_at_builtin; have hS6a := hS6.out.below (below_alloc w6 (.cells #[.string p.name, .int .i64 p.value, .int .i64 p.fr, .int .i64 p.en, .bool p.repeal] 71)); have hO := hS6a.own; have hsrc : RowsAt (w6.alloc (.cells #[.string p.name, .int .i64 p.value, .int .i64 p.fr, .int .i64 p.en, .bool p.repeal] 71)) (some ⟨w6.heap.size, 0, none⟩) 5 ([p].map Prov.cells) := rowsAt_new w6 p.cells 71; refine wpListF_append_rows elemPrv rfl _ _ rfl rfl rfl hO hsrc rfl (prvCells_wid [p]) (prvCells_one [p]) (by simp only [List.length_map, List.length_singleton]; omega) (by decide) hS6a.size ?_; intro v' w7 hown7 hg7 _; obtain ⟨A5, c5, hv5, _⟩ := OwnL.form hown7; obtain ⟨q5, hq5⟩ : ∃ q : Nat, q = (acc.map Prov.cells ++ [p].map Prov.cells).length := ⟨_, rfl⟩; rw [← hq5] at hv5; have hq6 : Hid (q5 = acc.length + 1) := (by show _ = _; rw [hq5]; simp); subst hv5; clear hq5; obtain ⟨hS7, b7, hk7⟩ := hS6a.app (p := p) hown7 hg7; have hk7 := Lib.hid ((hk6.out.trans (keepsF_below (below_alloc w6 (.cells #[.string p.name, .int .i64 p.value, .int .i64 p.fr, .int .i64 p.en, .bool p.repeal] 71)))).trans hk7); have hS7 := Lib.hid hS7; have y0 := b7.c 0 _ rfl; have y1 := b7.free 0 Nat.zero_lt_one; clear b7 hown7 hg7 hO hS6a hsrc))
      obtain ⟨w8, hw8⟩ : ∃ w8, w7.setCell ⟨w.heap.size + 1 + 1 + 1, 0, none⟩ (.slice A5 q5 c5) = w8 := ⟨_, rfl⟩
      rw [hw8] at hS7 hk7 ⊢
      clear hw8 y0 y1 c3
      have z3 := hS7.out.b3.c 0 _ rfl
      have z0 := hS7.out.b0.c 0 _ rfl
      have z1 := hS7.out.b1.c 0 _ rfl
      have z2 := hS7.out.b2.c 0 _ rfl
      have f0 := hS7.out.b0.free 0 Nat.zero_lt_one
      have f1 := hS7.out.b1.free 0 Nat.zero_lt_one
      have f2 := hS7.out.b2.free 0 Nat.zero_lt_one
      have hmo : Tryz.prog.follows .mixedOrders = true := by kernel_rfl
      gi_region_elder_o
      all_goals gi_wp2_with fail
      all_goals (clear z0 z1 z2 z3 f0 f1 f2; refine ⟨(((hk7.out.trans (KeepsOthers.setCell _ _ _)).trans (KeepsOthers.setCell _ _ _)).trans (KeepsOthers.setCell _ _ _)).trans (keepsF_below (Below.refl _ _).drew), rfl, acc.length + 1, hfin.out, ?_, ?_, ?_, ?_⟩)
      all_goals first
        | exact ((hS7.out.b0.set 0 (.slice none 0 0) Nat.zero_lt_one).offF (B' := w.heap.size + 1) 0 (.int .i64 q5) (by omega)).offF (B' := w.heap.size + 1 + 1) 0 (.int .i64 7) (by omega) |>.below (Below.refl _ _).drew
        | exact (by rw [← hq6.out]; exact ((hS7.out.b1.offF (B' := w.heap.size) 0 (.slice none 0 0) (by omega)).set 0 (.int .i64 q5) Nat.zero_lt_one).offF (B' := w.heap.size + 1 + 1) 0 (.int .i64 7) (by omega) |>.below (Below.refl _ _).drew)
        | exact ((hS7.out.b2.offF (B' := w.heap.size) 0 (.slice none 0 0) (by omega)).offF (B' := w.heap.size + 1) 0 (.int .i64 q5) (by omega)).set 0 (.int .i64 7) Nat.zero_lt_one |>.below (Below.refl _ _).drew
        | exact (((hS7.out.fr.setCell (p := ⟨w.heap.size, 0, none⟩) (by show w.heap.size ≤ w.heap.size; omega) (.slice none 0 0)).setCell (p := ⟨w.heap.size + 1, 0, none⟩) (by show w.heap.size ≤ w.heap.size + 1; omega) (.int .i64 q5)).setCell (p := ⟨w.heap.size + 1 + 1, 0, none⟩) (by show w.heap.size ≤ w.heap.size + 1 + 1; omega) (.int .i64 7)).drew
    · obtain ⟨e1, e2⟩ := ln_hit h1 h4
      obtain ⟨k1, k2, k3, k4⟩ := ln_step h2 h3 h4
      rw [e2] at hS
      simp only [e1]
      obtain ⟨X, hX2⟩ : ∃ X, X = r.extract 0 (i + 1) := ⟨_, rfl⟩
      rw [← hX2] at k2 k4
      simp only [← hX2]
      have hcut := Lib.hid (fun W => CutSuffix_hit X _ k2 W (by omega))
      obtain ⟨T, hT⟩ : ∃ T : ByteArray, T = ⟨(r.data.toList.take i).toArray⟩ := ⟨_, rfl⟩
      have hTl : T.data.toList = r.data.toList.take i := by rw [hT]
      rw [← hT] at hcut
      have hTs : T.size ≤ 1000000 := by rw [← list_len, hTl, List.length_take]; omega
      obtain ⟨p, E, hrd, hgood, hbad⟩ := readV_form T.data.toList
      have hrd := Lib.hid hrd
      rw [k1, ← hTl] at hinv
      obtain ⟨Y, hY⟩ : ∃ Y, Y = r.extract (i + 1) r.size := ⟨_, rfl⟩
      rw [← hY] at hS k3 hinv
      have hlnN : Hid (lnN r = Y) := by show _ = _; rw [e2, hY]
      by_cases hE : E = 0
      · have hlp := hgood hE
        subst hE
        have hnx : Hid (Cal.linesR (acc ++ [p]).length (acc ++ [p]) (Cal.cutT 10 Y.data.toList) = Cal.linesR 0 [] (Cal.cutT 10 s.data.toList)) := by
          show _ = _
          rw [← hinv, Cal.linesR_good (Cal.cutT_ne _ _) hlp]
          simp
        have hpn := Cal.lineP_name hlp
        have hYs := Lib.hid (And.intro hpn k3)
        clear e1 e2 h1 h2 h3 h4 k1 k2 k3 k4 hinv hgood hbad hlp hT hTl hX2 hY hpn
        gi_wp2_with (first
          | (refine ⟨trivial, ?_⟩; gi_at_call 95; refine (callsIn_wide.2 (hcut.out _)).mono ?_; rintro e w' ⟨rfl, rfl⟩)
          | (refine ⟨trivial, ?_⟩; gi_at_call 84; refine (callsIn_wide.2 (read_any (T) _ (hX.out _ hS.out.fr) hTs)).mono ?_; rintro e w5 ⟨rfl, hbn⟩; rw [hrd.out]; dsimp only; have hS5 := Lib.hid (hS.out.below hbn); have hk5 := Lib.hid (keepsF_below hbn); clear hbn)
          | (refine wpListF_store_box rfl 71 (.tmp 9) (.tmp 26) rfl w5.heap.size _ [.string p.name, .int .i64 p.value, .int .i64 p.fr, .int .i64 p.en, .bool p.repeal] (by rfl) (by rfl) (BoxAt.new w5 #[.string ⟨#[]⟩, .int .i64 0, .int .i64 0, .int .i64 0, .bool false] 71) rfl pvSize (by kernel_rfl) ?_; intro w6 h6 hg6; have hb56 := below_of_grownB (below_alloc w5 (.cells #[.string ⟨#[]⟩, .int .i64 0, .int .i64 0, .int .i64 0, .bool false] 71)) hg6 (Nat.le_refl _); have hS6 := Lib.hid (hS5.out.below hb56); have hk6 := Lib.hid (hk5.out.trans (keepsF_below hb56)); have c3 := hS6.out.b3.c 0 _ rfl; have h6 := Lib.hid h6; clear hg6 hb56)
          | (refine wpListF_load_mid rfl 71 (.tmp 9) rfl w5.heap.size 0 rfl [.string p.name, .int .i64 p.value, .int .i64 p.fr, .int .i64 p.en, .bool p.repeal] _ h6.out.range Tryz.underlying71 rfl pvSize ?_)
          | (gi_at_builtin; have hS6a := hS6.out.below (below_alloc w6 (.cells #[.string p.name, .int .i64 p.value, .int .i64 p.fr, .int .i64 p.en, .bool p.repeal] 71)); have hO := hS6a.own; have hsrc : RowsAt (w6.alloc (.cells #[.string p.name, .int .i64 p.value, .int .i64 p.fr, .int .i64 p.en, .bool p.repeal] 71)) (some ⟨w6.heap.size, 0, none⟩) 5 ([p].map Prov.cells) := rowsAt_new w6 p.cells 71; refine wpListF_append_rows elemPrv rfl _ _ rfl rfl rfl hO hsrc rfl (prvCells_wid [p]) (prvCells_one [p]) (by simp only [List.length_map, List.length_singleton]; omega) (by decide) hS6a.size ?_; intro v' w7 hown7 hg7 _; obtain ⟨A5, c5, hv5, _⟩ := OwnL.form hown7; obtain ⟨q5, hq5⟩ : ∃ q : Nat, q = (acc.map Prov.cells ++ [p].map Prov.cells).length := ⟨_, rfl⟩; rw [← hq5] at hv5; have hq6 : Hid (q5 = acc.length + 1) := (by show _ = _; rw [hq5]; simp); subst hv5; clear hq5; obtain ⟨hS7, b7, hk7⟩ := hS6a.app (p := p) hown7 hg7; have hk7 := Lib.hid ((hk6.out.trans (keepsF_below (below_alloc w6 (.cells #[.string p.name, .int .i64 p.value, .int .i64 p.fr, .int .i64 p.en, .bool p.repeal] 71)))).trans hk7); have hS7 := Lib.hid hS7; have y0 := b7.c 0 _ rfl; have y1 := b7.free 0 Nat.zero_lt_one; clear b7 hown7 hg7 hO hS6a hsrc))
        refine ⟨hk7.out, acc ++ [p], .slice A5 q5 c5, ?_, ?_, ?_, ?_⟩
        · rw [hlnN.out]; exact hnx.out
        · intro q hq
          rcases List.mem_append.1 hq with h | h
          · exact hnm q h
          · simp only [List.mem_singleton] at h; subst h; exact hYs.out.1
        · have := hYs.out.2
          rw [hlnN.out]
          simp only [List.length_append, List.length_singleton]
          omega
        · rw [hlnN.out]; exact hS7.out
      · have hlp := hbad hE
        have hfin : Hid (Cal.linesR 0 [] (Cal.cutT 10 s.data.toList) = .error (acc.length + 1)) := by
          show _ = _
          rw [← hinv, Cal.linesR_bad hlp (fun h => absurd h (Cal.cutT_ne _ _))]
        have hE1 : (E != 0) = true := by simpa using hE
        clear e1 e2 h1 h2 h3 h4 k1 k2 k3 k4 hinv hgood hbad hlp hT hTl hX2 hY hE hlnN
        gi_wp2_with (first
          | (refine ⟨trivial, ?_⟩; gi_at_call 95; refine (callsIn_wide.2 (hcut.out _)).mono ?_; rintro e w' ⟨rfl, rfl⟩)
          | (refine ⟨trivial, ?_⟩; gi_at_call 84; refine (callsIn_wide.2 (read_any (T) _ (hX.out _ hS.out.fr) hTs)).mono ?_; rintro e w5 ⟨rfl, hbn⟩; rw [hrd.out]; dsimp only; have hS5 := Lib.hid (hS.out.below hbn); have hk5 := Lib.hid (keepsF_below hbn); clear hbn)
          | (refine wpListF_store_box rfl 71 (.tmp 9) (.tmp 26) rfl w5.heap.size _ [.string p.name, .int .i64 p.value, .int .i64 p.fr, .int .i64 p.en, .bool p.repeal] (by rfl) (by rfl) (BoxAt.new w5 #[.string ⟨#[]⟩, .int .i64 0, .int .i64 0, .int .i64 0, .bool false] 71) rfl pvSize (by kernel_rfl) ?_; intro w6 h6 hg6; have hb56 := below_of_grownB (below_alloc w5 (.cells #[.string ⟨#[]⟩, .int .i64 0, .int .i64 0, .int .i64 0, .bool false] 71)) hg6 (Nat.le_refl _); have hS6 := Lib.hid (hS5.out.below hb56); have hk6 := Lib.hid (hk5.out.trans (keepsF_below hb56)); have c3 := hS6.out.b3.c 0 _ rfl; have h6 := Lib.hid h6; clear hg6 hb56)
          | (refine wpListF_load_mid rfl 71 (.tmp 9) rfl w5.heap.size 0 rfl [.string p.name, .int .i64 p.value, .int .i64 p.fr, .int .i64 p.en, .bool p.repeal] _ h6.out.range Tryz.underlying71 rfl pvSize ?_)
          | (gi_at_builtin; have hS6a := hS6.out.below (below_alloc w6 (.cells #[.string p.name, .int .i64 p.value, .int .i64 p.fr, .int .i64 p.en, .bool p.repeal] 71)); have hO := hS6a.own; have hsrc : RowsAt (w6.alloc (.cells #[.string p.name, .int .i64 p.value, .int .i64 p.fr, .int .i64 p.en, .bool p.repeal] 71)) (some ⟨w6.heap.size, 0, none⟩) 5 ([p].map Prov.cells) := rowsAt_new w6 p.cells 71; refine wpListF_append_rows elemPrv rfl _ _ rfl rfl rfl hO hsrc rfl (prvCells_wid [p]) (prvCells_one [p]) (by simp only [List.length_map, List.length_singleton]; omega) (by decide) hS6a.size ?_; intro v' w7 hown7 hg7 _; obtain ⟨A5, c5, hv5, _⟩ := OwnL.form hown7; obtain ⟨q5, hq5⟩ : ∃ q : Nat, q = (acc.map Prov.cells ++ [p].map Prov.cells).length := ⟨_, rfl⟩; rw [← hq5] at hv5; have hq6 : Hid (q5 = acc.length + 1) := (by show _ = _; rw [hq5]; simp); subst hv5; clear hq5; obtain ⟨hS7, b7, hk7⟩ := hS6a.app (p := p) hown7 hg7; have hk7 := Lib.hid ((hk6.out.trans (keepsF_below (below_alloc w6 (.cells #[.string p.name, .int .i64 p.value, .int .i64 p.fr, .int .i64 p.en, .bool p.repeal] 71)))).trans hk7); have hS7 := Lib.hid hS7; have y0 := b7.c 0 _ rfl; have y1 := b7.free 0 Nat.zero_lt_one; clear b7 hown7 hg7 hO hS6a hsrc))
        obtain ⟨w8, hw8⟩ : ∃ w8, w7.setCell ⟨w.heap.size + 1 + 1 + 1, 0, none⟩ (.slice A5 q5 c5) = w8 := ⟨_, rfl⟩
        rw [hw8] at hS7 hk7 ⊢
        clear hw8 y0 y1 c3
        have z3 := hS7.out.b3.c 0 _ rfl
        have z0 := hS7.out.b0.c 0 _ rfl
        have z1 := hS7.out.b1.c 0 _ rfl
        have z2 := hS7.out.b2.c 0 _ rfl
        have f0 := hS7.out.b0.free 0 Nat.zero_lt_one
        have f1 := hS7.out.b1.free 0 Nat.zero_lt_one
        have f2 := hS7.out.b2.free 0 Nat.zero_lt_one
        have hmo : Tryz.prog.follows .mixedOrders = true := by kernel_rfl
        gi_region_elder_o
        all_goals gi_wp2_with fail
        all_goals (clear z0 z1 z2 z3 f0 f1 f2; refine ⟨(((hk7.out.trans (KeepsOthers.setCell _ _ _)).trans (KeepsOthers.setCell _ _ _)).trans (KeepsOthers.setCell _ _ _)).trans (keepsF_below (Below.refl _ _).drew), rfl, acc.length + 1, hfin.out, ?_, ?_, ?_, ?_⟩)
        all_goals first
          | exact ((hS7.out.b0.set 0 (.slice none 0 0) Nat.zero_lt_one).offF (B' := w.heap.size + 1) 0 (.int .i64 q5) (by omega)).offF (B' := w.heap.size + 1 + 1) 0 (.int .i64 7) (by omega) |>.below (Below.refl _ _).drew
          | exact (by rw [← hq6.out]; exact ((hS7.out.b1.offF (B' := w.heap.size) 0 (.slice none 0 0) (by omega)).set 0 (.int .i64 q5) Nat.zero_lt_one).offF (B' := w.heap.size + 1 + 1) 0 (.int .i64 7) (by omega) |>.below (Below.refl _ _).drew)
          | exact ((hS7.out.b2.offF (B' := w.heap.size) 0 (.slice none 0 0) (by omega)).offF (B' := w.heap.size + 1) 0 (.int .i64 q5) (by omega)).set 0 (.int .i64 7) Nat.zero_lt_one |>.below (Below.refl _ _).drew
          | exact (((hS7.out.fr.setCell (p := ⟨w.heap.size, 0, none⟩) (by show w.heap.size ≤ w.heap.size; omega) (.slice none 0 0)).setCell (p := ⟨w.heap.size + 1, 0, none⟩) (by show w.heap.size ≤ w.heap.size + 1; omega) (.int .i64 q5)).setCell (p := ⟨w.heap.size + 1 + 1, 0, none⟩) (by show w.heap.size ≤ w.heap.size + 1 + 1; omega) (.int .i64 7)).drew
  case done =>
    rintro D r W2 hE ⟨acc, v, hinv, hnm, hlen, hS⟩ hle hD
    have hr0 : r.data.toList = [] := by have := list_len r; rw [hE] at this; exact List.eq_nil_of_length_eq_zero this
    have hok : Cal.linesR 0 [] (Cal.cutT 10 s.data.toList) = .ok acc := by
      rw [← hinv, hr0]
      show Cal.linesR acc.length acc [[]] = _
      rw [Cal.linesR_last, if_pos rfl]
    have hmaxn : ∀ (k : Nat) p, acc[k]? = some p → p.name.size ≤ maxLen := fun k p h => by have := hnm p (List.mem_of_getElem? h); unfold maxLen; omega
    have hacl : acc.length ≤ 1000000 := by omega
    obtain ⟨A4, c4, rfl, hpr⟩ := OwnL.prvs hS.own hacl hmaxn
    have hfin := hpt.out
    rw [hok] at hfin
    have z3 := hS.b3.c 0 _ rfl
    have hz := hS.size
    have hS := Lib.hid hS
    have hpr := Lib.hid hpr
    have hD := Lib.hid hD
    have hmx := Lib.hid (And.intro hacl hmaxn)
    clear hinv hnm hr0 hok hE hmaxn hacl hS0
    have hdn := fun (W W9 : World) (v' : Value) (k0 k1 : Int) (hS9 : PaS w acc (.slice A4 acc.length c4) r W) (hW9 : ((W.setCell ⟨w.heap.size, 0, none⟩ v').setCell ⟨w.heap.size + 1, 0, none⟩ (.int .i64 k0)).setCell ⟨w.heap.size + 1 + 1, 0, none⟩ (.int .i64 k1) = W9) =>
      (show BoxAt W9 w.heap.size [v'] ∧ BoxAt W9 (w.heap.size + 1) [.int .i64 k0] ∧ BoxAt W9 (w.heap.size + 1 + 1) [.int .i64 k1] ∧ OwnL W9 (w.heap.size + 5) 71 5 (.slice A4 acc.length c4) (acc.map Prov.cells) ∧ Below w.heap.size w W9 ∧ KeepsOthers W W9 from by
        rw [← hW9]
        exact ⟨((hS9.b0.set 0 v' Nat.zero_lt_one).offF (B' := w.heap.size + 1) 0 (.int .i64 k0) (by omega)).offF (B' := w.heap.size + 1 + 1) 0 (.int .i64 k1) (by omega),
          ((hS9.b1.offF (B' := w.heap.size) 0 v' (by omega)).set 0 (.int .i64 k0) Nat.zero_lt_one).offF (B' := w.heap.size + 1 + 1) 0 (.int .i64 k1) (by omega),
          ((hS9.b2.offF (B' := w.heap.size) 0 v' (by omega)).offF (B' := w.heap.size + 1) 0 (.int .i64 k0) (by omega)).set 0 (.int .i64 k1) Nat.zero_lt_one,
          ((hS9.own.offF (B' := w.heap.size) 0 v' (by omega)).offF (B' := w.heap.size + 1) 0 (.int .i64 k0) (by omega)).offF (B' := w.heap.size + 1 + 1) 0 (.int .i64 k1) (by omega),
          (((hS9.fr.setCell (p := ⟨w.heap.size, 0, none⟩) (by show w.heap.size ≤ w.heap.size; omega) v').setCell (p := ⟨w.heap.size + 1, 0, none⟩) (by show w.heap.size ≤ w.heap.size + 1; omega) (.int .i64 k0)).setCell (p := ⟨w.heap.size + 1 + 1, 0, none⟩) (by show w.heap.size ≤ w.heap.size + 1 + 1; omega) (.int .i64 k1)),
          ((KeepsOthers.setCell _ _ _).trans (KeepsOthers.setCell _ _ _)).trans (KeepsOthers.setCell _ _ _)⟩)
    have hdn := Lib.hid hdn
    by_cases hE0 : Cal.provsErr acc = 0
    · have hfin : Hid (Cal.parseT s.data.toList = (acc, 0, 0)) := by show _ = _; rw [hfin]; show (if _ then _ else _) = _; rw [if_pos hE0]
      have hE0z := Lib.hid hE0
      clear hE0
      gi_wp2_with (refine ⟨trivial, ?_⟩; gi_at_call 91; refine (callsIn_wide.2 (CheckProvisions_any A4 c4 acc _ hpr.out)).mono ?_; rintro e w8 ⟨rfl, hb8⟩; (try rw [hE0z.out]); have hS8 := Lib.hid (hS.out.below hb8); have hD8 := Lib.hid ((keepsF_below hb8).same D _ hD.out rfl); have z0 := hS8.out.b0.c 0 _ rfl; have z1 := hS8.out.b1.c 0 _ rfl; have z2 := hS8.out.b2.c 0 _ rfl; have z3 := hS8.out.b3.c 0 _ rfl; have f0 := hS8.out.b0.free 0 Nat.zero_lt_one; have f1 := hS8.out.b1.free 0 Nat.zero_lt_one; have f2 := hS8.out.b2.free 0 Nat.zero_lt_one; clear hb8)
      obtain ⟨W9, hW9⟩ : ∃ W9, ((w8.setCell ⟨w.heap.size, 0, none⟩ (.slice A4 acc.length c4)).setCell ⟨w.heap.size + 1, 0, none⟩ (.int .i64 (0))).setCell ⟨w.heap.size + 1 + 1, 0, none⟩ (.int .i64 (0)) = W9 := ⟨_, rfl⟩
      rw [hW9]
      obtain ⟨q0, q1, q2, q4, q5, q6⟩ := hdn.out w8 W9 _ _ _ hS8.out hW9
      have hK' := q6.same D _ hD8.out rfl
      have ho' : Others W9 (some D) := fun r e => by cases e; exact ⟨_, hK', rfl⟩
      refine ⟨by simp, .inl ⟨_, _, rfl, run_takeDeferred hK', ?_⟩⟩
      have r0 := (q0.keptF (grownBy_putObj' W9 D (.deferred none)) ho').c 0 _ rfl
      have r1 := (q1.keptF (grownBy_putObj' W9 D (.deferred none)) ho').c 0 _ rfl
      have r2 := (q2.keptF (grownBy_putObj' W9 D (.deferred none)) ho').c 0 _ rfl
      refine ⟨.tuple #[.slice A4 acc.length c4, .int .i64 (0), .int .i64 (0)], by simp [results, Tryz.results36, go_sem, r0, r1, r2], ?_⟩
      rw [hfin.out]
      obtain ⟨A5, c5, hv5, hp5⟩ := OwnL.prvs (q4.keptF (grownBy_putObj' W9 D (.deferred none)) ho') hmx.out.1 hmx.out.2
      cases hv5
      exact ⟨A4, c4, rfl, hp5, belowF_put q5 (by omega) _⟩
    · have hfin : Hid (Cal.parseT s.data.toList = ([], 0, Cal.provsErr acc)) := by show _ = _; rw [hfin]; show (if _ then _ else _) = _; rw [if_neg hE0]
      have hE1 : (Cal.provsErr acc != 0) = true := by simpa using hE0
      clear hE0
      gi_wp2_with (refine ⟨trivial, ?_⟩; gi_at_call 91; refine (callsIn_wide.2 (CheckProvisions_any A4 c4 acc _ hpr.out)).mono ?_; rintro e w8 ⟨rfl, hb8⟩; (try rw [hE0z.out]); have hS8 := Lib.hid (hS.out.below hb8); have hD8 := Lib.hid ((keepsF_below hb8).same D _ hD.out rfl); have z0 := hS8.out.b0.c 0 _ rfl; have z1 := hS8.out.b1.c 0 _ rfl; have z2 := hS8.out.b2.c 0 _ rfl; have z3 := hS8.out.b3.c 0 _ rfl; have f0 := hS8.out.b0.free 0 Nat.zero_lt_one; have f1 := hS8.out.b1.free 0 Nat.zero_lt_one; have f2 := hS8.out.b2.free 0 Nat.zero_lt_one; clear hb8)
      obtain ⟨W9, hW9⟩ : ∃ W9, ((w8.setCell ⟨w.heap.size, 0, none⟩ (.slice none 0 0)).setCell ⟨w.heap.size + 1, 0, none⟩ (.int .i64 (0))).setCell ⟨w.heap.size + 1 + 1, 0, none⟩ (.int .i64 (Cal.provsErr acc)) = W9 := ⟨_, rfl⟩
      rw [hW9]
      obtain ⟨q0, q1, q2, q4, q5, q6⟩ := hdn.out w8 W9 _ _ _ hS8.out hW9
      have hK' := q6.same D _ hD8.out rfl
      have ho' : Others W9 (some D) := fun r e => by cases e; exact ⟨_, hK', rfl⟩
      refine ⟨by simp, .inl ⟨_, _, rfl, run_takeDeferred hK', ?_⟩⟩
      have r0 := (q0.keptF (grownBy_putObj' W9 D (.deferred none)) ho').c 0 _ rfl
      have r1 := (q1.keptF (grownBy_putObj' W9 D (.deferred none)) ho').c 0 _ rfl
      have r2 := (q2.keptF (grownBy_putObj' W9 D (.deferred none)) ho').c 0 _ rfl
      refine ⟨.tuple #[.slice none 0 0, .int .i64 (0), .int .i64 (Cal.provsErr acc)], by simp [results, Tryz.results36, go_sem, r0, r1, r2], ?_⟩
      exact parsePost_err hfin.out (belowF_put q5 (by omega) _)
  case stop =>
    rintro D c W2 ⟨rfl, k, hk, b0, b1, b2, hb⟩ hle hD
    have hfin : Hid (Cal.parseT s.data.toList = ([], (k : Int), 7)) := by show _ = _; rw [hpt.out, hk]; rfl
    have hAll := Lib.hid (And.intro b0 (And.intro b1 (And.intro b2 hb)))
    clear hk b0 b1 b2 hb
    gi_wp2
    obtain ⟨b0, b1, b2, hb⟩ := hAll.out
    have ho' : Others W2 (some D) := fun r e => by cases e; exact ⟨_, hD, rfl⟩
    refine ⟨by simp, .inl ⟨_, _, rfl, run_takeDeferred hD, ?_⟩⟩
    have r0 := (b0.keptF (grownBy_putObj' W2 D (.deferred none)) ho').c 0 _ rfl
    have r1 := (b1.keptF (grownBy_putObj' W2 D (.deferred none)) ho').c 0 _ rfl
    have r2 := (b2.keptF (grownBy_putObj' W2 D (.deferred none)) ho').c 0 _ rfl
    refine ⟨.tuple #[.slice none 0 0, .int .i64 k, .int .i64 7], by simp [results, Tryz.results36, go_sem, r0, r1, r2], ?_⟩
    exact parsePost_err hfin.out (belowF_put hb (by omega) _)
theorem Parse_any (s : ByteArray) (w : World) (hX : TxtT w) : Calls Tryz.prog 36 #[.string s] w (ParsePost w (Cal.parseT s.data.toList)) := by
  by_cases h : 60000 < s.size
  · exact Parse_big s w h
  · exact Parse_ok s w hX h
end Go.Proofs.YtbegbajlagcbdaaGreatDoor
