/- What the statements rest on: definitions and walks, part 10. -/
import Derived.Test.YtfcjeejhdklkdaaJ09
import Derived.RangeFuncOwn
import Derived.Deep.Slices
import Derived.Deep.Fields
import Derived.WideKeyArgs
import Derived.ChangeSlices
import Derived.Lib.SmallJoins
import Derived.Deep.DeepHandedRow
import Derived.OpenShut
set_option maxRecDepth 100000
set_option maxHeartbeats 16000000
set_option linter.unusedSimpArgs false
set_option linter.unusedVariables false
namespace Go.Proofs.Ytfcjeejhdklkdaa
open Go Go.RowKit Go.Shelf Go.Maps Go.WideMaps
structure PtsR (w : World) (V : Option Addr) (ps : List Pt) : Prop where
 rows : RowsAt w V 2 (ps.map ptR)
 size : ps.length ≤ 1000000
 own : ∀ ad, V = some ad → 0 < ps.length → ad.block < w.heap.size
theorem PtsR.below {w w' : World} {V : Option Addr} {ps : List Pt} (h : PtsR w V ps) (hb : Below w.heap.size w w') : PtsR w' V ps :=
 ⟨h.rows.below hb, h.size, fun ad e hl => Nat.lt_of_lt_of_le (h.own ad e hl) hb.size⟩
theorem ptErr_zero {p : Pt} (h : Cal.ptErr p = 0) : SmP p := by
 unfold Cal.ptErr at h
 split at h
 ·cases h
 ·constructor <;> omega
theorem ptsErr_zero : ∀ {ps : List Pt}, Cal.ptsErr ps = 0 → ∀ p ∈ ps, Cal.ptErr p = 0
 | [], _, p, hp => by cases hp
 | q :: r, h, p, hp => by
  unfold Cal.ptsErr at h
  split at h
  ·rename_i hq
   rcases List.mem_cons.1 hp with rfl | hp
   ·exact hq
   ·exact ptsErr_zero h p hp
  ·rename_i hq
   exact absurd h hq
theorem PtsR.pts {w : World} {V : Option Addr} {ps : List Pt} (h : PtsR w V ps) (h0 : Cal.ptsErr ps = 0) : Pts w V ps :=
 ⟨h.rows, h.size, fun p hp => ptErr_zero (ptsErr_zero h0 p hp), h.own⟩
instance instPt : DecidableEq Pt := fun a b => decidable_of_iff (ptB a b = true) ptB_iff
def PtK : Type := { p : Pt // SmP p }
instance instPtK : DecidableEq PtK := fun a b => decidable_of_iff (a.1 = b.1) ⟨Subtype.ext, fun h => by rw [h]⟩
theorem pt_lits : ∃ lit : PtK → Lit, (∀ p : PtK, keyOf Try.prog 75 (.agg #[.int .i64 p.1.x, .int .i64 p.1.y]) = some (lit p)) ∧ ∀ p q, lit p = lit q → p = q := by
 have hk : ∀ p : PtK, keyOf Try.prog 75 (.agg #[.int .i64 p.1.x, .int .i64 p.1.y]) = some ((keyOf Try.prog 75 (.agg #[.int .i64 p.1.x, .int .i64 p.1.y])).getD (.bool true)) := fun p => by
  obtain ⟨l, hl⟩ := pt_key p.1 p.2
  rw [hl]
  rfl
 refine ⟨fun p => (keyOf Try.prog 75 (.agg #[.int .i64 p.1.x, .int .i64 p.1.y])).getD (.bool true), hk, fun p q h => ?_⟩
 have h1 := hk p
 have h2 := hk q
 dsimp only at h
 rw [← h] at h2
 have h3 := pt_keyed.inj h1 h2
 refine Subtype.ext ?_
 obtain ⟨⟨a, b⟩, hp⟩ := p
 obtain ⟨⟨c, d⟩, hq⟩ := q
 simp at h3
 simp [h3]
def SeenP (seen : List Pt) (f : PtK → Option Value) : Prop := ∀ x : PtK, (f x).getD (.bool false) = .bool (seen.any (ptB x.1))
theorem SeenP.start : SeenP [] (fun _ => none) := fun _ => rfl
theorem SeenP.step {seen : List Pt} {f : PtK → Option Value} (h : SeenP seen f) (q : PtK) : SeenP (q.1 :: seen) (setAt f q (.bool true)) := fun x => by
 rw [List.any_cons]
 by_cases e : x = q
 ·subst e
  rw [setAt_same, ptB_iff.2 rfl]
  rfl
 ·rw [setAt_other _ _ e, h x]
  have : ptB x.1 q.1 = false := by
   cases hb : ptB x.1 q.1
   ·rfl
   ·exact absurd (Subtype.ext (ptB_iff.1 hb)) e
  rw [this, Bool.false_or]
theorem ptsErr_drop {ps : List Pt} {k : Nat} (h : k < ps.length) : Cal.ptsErr (ps.drop k) = if Cal.ptErr ps[k] = 0 then Cal.ptsErr (ps.drop (k + 1)) else Cal.ptErr ps[k] := by
 rw [List.drop_eq_getElem_cons h]; rfl
theorem twiceP_drop {ps : List Pt} {k : Nat} (h : k < ps.length) (seen : List Pt) : Cal.twiceP seen (ps.drop k) = (seen.any (ptB ps[k]) || Cal.twiceP (ps[k] :: seen) (ps.drop (k + 1))) := by
 rw [List.drop_eq_getElem_cons h]; rfl
structure PmI (w : World) (lit : PtK → Lit) (M : Nat) (seen : List Pt) (n : Nat) (W : World) : Prop where
 map : ∃ f, MapIs Try.prog 75 lit W M n f ∧ SeenP seen f
 lt : M < W.heap.size
 bel : Below w.heap.size w W
section
variable {w : World} {lit : PtK → Lit} {M n : Nat} {seen : List Pt} {W W' : World}
theorem PmI.below (h : PmI w lit M seen n W) (hb : Below W.heap.size W W') : PmI w lit M seen n W' := by
 obtain ⟨⟨f, h1, h2⟩, h3, h4⟩ := h
 exact ⟨⟨f, h1.below hb h3, h2⟩, Nat.lt_of_lt_of_le h3 hb.size, below_step h4 hb⟩
theorem PmI.look (h : PmI w lit M seen n W) (hkey : ∀ p : PtK, keyOf Try.prog 75 (.agg #[.int .i64 p.1.x, .int .i64 p.1.y]) = some (lit p)) (q : PtK) : (Instr.lookup 134 (.map (some M)) (.agg #[.int .i64 q.1.x, .int .i64 q.1.y]) false).run Try.prog W = .ok (.bool (seen.any (ptB q.1))) W := by
 obtain ⟨f, h1, h2⟩ := h.map
 rw [h1.look pt_keyed Try.underlying134 (boolZero _) (hkey q), h2]
theorem PmI.update (h : PmI w lit M seen n W) (hkey : ∀ p : PtK, keyOf Try.prog 75 (.agg #[.int .i64 p.1.x, .int .i64 p.1.y]) = some (lit p)) (hinj : ∀ p q, lit p = lit q → p = q) (q : PtK) (hn : n < 1000000) (hM : w.heap.size ≤ M) :
  ∃ w', (Instr.mapUpdate 134 (.map (some M)) (.agg #[.int .i64 q.1.x, .int .i64 q.1.y]) (.bool true)).run Try.prog W = .ok () w' ∧ PmI w lit M (q.1 :: seen) (n + 1) w' ∧ w'.heap.size = W.heap.size := by
 obtain ⟨⟨f, h1, h2⟩, h3, h4⟩ := h
 obtain ⟨w2, hrun, hm2, hg2, hsz2⟩ := h1.store hinj pt_keyed Try.underlying134 (by unfold maxLen; omega) (val := .bool true) (hkey q)
 exact ⟨w2, hrun, ⟨⟨_, hm2, h2.step q⟩, by omega, h4.grown hg2 h4.size (fun k e => by cases e; exact hM)⟩, hsz2⟩
end
theorem CheckPolygon_any (V : Option Addr) (d : Nat) (ps : List Pt) (w : World) (hP : PtsR w V ps) :
  Calls Try.prog 74 #[.slice V ps.length d] w fun e w' => e = .returned (.int .i64 (Cal.polyE ps)) ∧ Below w.heap.size w w' := by
 have hsz := hP.size
 have hP := Lib.hid hP
 by_cases hn : ps.length < 3 ∨ 40 < ps.length
 ·have hf : Hid (Cal.polyE ps = 10) := by show _ = _; unfold Cal.polyE; rw [if_pos hn]
  rcases hn with hn | hn
  ·have h1 : (ps.length : Int) < 3 := by omega
   go_enter Try.func74, Try.ntmps74
   go_wp2_with fail
   go_ret
   exact ⟨ret_int hf.out.symm, blw⟩
  ·have h1 : ¬ (ps.length : Int) < 3 := by omega
   have h2 : 40 < (ps.length : Int) := by omega
   go_enter Try.func74, Try.ntmps74
   go_wp2_with fail
   go_ret
   exact ⟨ret_int hf.out.symm, blw⟩
 ·have hfE : Hid (Cal.polyE ps = if Cal.ptsErr ps = 0 then (if Cal.twiceP [] ps = true then 5 else if Cal.simpleP ps = true then (if Cal.areaP ps < 0 then 9 else 0) else 3) else Cal.ptsErr ps) := by show _ = _; unfold Cal.polyE; rw [if_neg hn]
  have h1 : ¬ (ps.length : Int) < 3 := by omega
  have h2 : ¬ 40 < (ps.length : Int) := by omega
  have hmm := @run_makeMap Try.prog
  have hl40 : ps.length ≤ 40 := by omega
  clear hn
  go_enter Try.func74, Try.ntmps74
  go_wp2_with fail
  go_loopw [19] (fun i wr => ∃ k : Nat, k ≤ ps.length ∧ i = .int .i64 k ∧ Hid (Cal.ptsErr ps = Cal.ptsErr (ps.drop k)) ∧ Hid (Below w.heap.size w wr)) (fun i _ => ps.length - (intOf i).toNat)
  case atStart => exact ⟨0, Nat.zero_le _, rfl, rfl, Below.refl _ _⟩
  case round =>
   obtain ⟨k, hk, rfl, hE, hB⟩ := hrel
   by_cases hlt : k < ps.length
   ·have hd := ptsErr_drop hlt
    have hk' : ps[k]? = some ps[k] := List.getElem?_eq_getElem hlt
    obtain ⟨b, o, rfl, hbl, c0, c1⟩ := pts_at (hP.out.below hB.out).rows hk'
    clear hk'
    generalize ps[k] = q at *
    by_cases h0 : Cal.ptErr q = 0
    ·rw [if_pos h0] at hd
     have hE2 : Hid (Cal.ptsErr ps = Cal.ptsErr (ps.drop (k + 1))) := hE.out.trans hd
     have h0 := Lib.hid h0
     clear hd hE
     go_wp2_with fail
     refine (checkPoint_any q _).mono ?_
     rintro e wn ⟨rfl, hbn⟩
     rw [h0.out]
     have hB2 := Lib.hid (below_step (below_step hB.out (below_alloc _ _)) hbn)
     clear hbn hB c0 c1
     go_wp2_with fail
     go_roundw
     case rel => exact ⟨k + 1, by omega, by go_num, hE2, hB2⟩
     case measure => simp [intOf]; omega
    ·rw [if_neg h0] at hd
     have hf2 : Hid (Cal.polyE ps = Cal.ptErr q) := by
      show _ = _
      rw [hfE.out, hE.out, hd, if_neg h0]
     clear hd hE
     go_wp2_with fail
     refine (checkPoint_any q _).mono ?_
     rintro e wn ⟨rfl, hbn⟩
     have hB2 := Lib.hid (below_step (below_step hB.out (below_alloc _ _)) hbn)
     clear hbn hB c0 c1
     go_wp2_with fail
     go_ret
     exact ⟨ret_int hf2.out.symm, hB2.out⟩
   ·obtain rfl : k = ps.length := by omega
    have hE0 : Cal.ptsErr ps = 0 := by rw [hE.out, List.drop_length]; rfl
    have hPP := Lib.hid (fun w' h => (hP.out.below (w' := w') h).pts hE0)
    rw [hE0, if_pos rfl] at hfE
    clear hE hE0
    go_wp2_with fail
    obtain ⟨lit, hkey, hinj⟩ := pt_lits
    have hM := MapIs.made Try.prog 75 lit wr
    have hlt0 : wr.heap.size < (wr.alloc (.map #[] 0)).heap.size := by simp
    have hB1 : Below w.heap.size w (wr.alloc (.map #[] 0)) := below_step hB.out (below_alloc _ _)
    have hMw : w.heap.size ≤ wr.heap.size := hB.out.size
    obtain ⟨w1, hw1⟩ : ∃ w1, wr.alloc (.map #[] 0) = w1 := ⟨_, rfl⟩
    rw [hw1] at hM hB1 hlt0 ⊢
    clear hw1 hmm hB
    generalize wr.heap.size = M at *
    have hI0 : Hid (PmI w lit M [] 0 w1) := ⟨⟨_, hM, SeenP.start⟩, hlt0, hB1⟩
    clear hM hlt0 hB1
    go_loopw [32] (fun i wr => ∃ (k : Nat) (seen : List Pt), k ≤ ps.length ∧ i = .int .i64 k ∧ Hid (Cal.twiceP [] ps = Cal.twiceP seen (ps.drop k)) ∧ Hid (PmI w lit M seen k wr)) (fun i _ => ps.length - (intOf i).toNat)
    case atStart => exact ⟨0, [], Nat.zero_le _, rfl, rfl, hI0⟩
    case round =>
     clear hI0
     obtain ⟨k, seen, hk, rfl, hE, hI⟩ := hrel
     by_cases hlt : k < ps.length
     ·have hd := twiceP_drop hlt seen
      have hk' : ps[k]? = some ps[k] := List.getElem?_eq_getElem hlt
      obtain ⟨b, o, rfl, hbl, c0, c1⟩ := pts_at (hPP.out _ hI.out.bel).rows hk'
      have hsm := (hPP.out _ hI.out.bel).sm _ (List.getElem_mem hlt)
      clear hk'
      generalize ps[k] = q at *
      have hI1 := Lib.hid (hI.out.below (below_alloc wr (.cells #[.int .i64 q.x, .int .i64 q.y] 75)))
      have hlk := hI1.out.look hkey ⟨q, hsm⟩
      dsimp only at hlk
      cases hs : seen.any (ptB q)
      ·rw [hs] at hlk hd
       have hE2 : Hid (Cal.twiceP [] ps = Cal.twiceP (q :: seen) (ps.drop (k + 1))) := hE.out.trans hd
       clear hd hE hs
       obtain ⟨w2, hup, hI2, hsz2⟩ := hI1.out.update hkey hinj ⟨q, hsm⟩ (by omega) hMw
       dsimp only at hup hI2
       have hI2 := Lib.hid hI2
       go_wp2_with fail
       go_roundw
       case rel => exact ⟨k + 1, q :: seen, by omega, by go_num, hE2, hI2⟩
       case measure => simp [intOf]; omega
      ·rw [hs] at hlk hd
       have hf2 : Hid (Cal.polyE ps = 5) := by
        show _ = _
        rw [hfE.out, hE.out, hd]
        rfl
       clear hd hE hs
       go_wp2_with fail
       go_ret
       exact ⟨ret_int hf2.out.symm, hI1.out.bel⟩
     ·obtain rfl : k = ps.length := by omega
      have hE0 : Cal.twiceP [] ps = false := by rw [hE.out, List.drop_length]; rfl
      rw [hE0, if_neg (by decide)] at hfE
      have hB := Lib.hid hI.out.bel
      clear hE hE0 hI
      by_cases hsi : Cal.simpleP ps = true
      ·rw [hsi, if_pos rfl] at hfE
       by_cases har : Cal.areaP ps < 0
       ·rw [if_pos har] at hfE
        have hsi := Lib.hid hsi
        have hard := decide_eq_true har
        go_wp2_with fail
        refine (simple_any V d ps _ (hPP.out _ hB.out)).mono ?_
        rintro e wn ⟨rfl, hbn⟩
        rw [hsi.out]
        have hB2 := Lib.hid (below_step hB.out hbn)
        clear hbn hB
        go_wp2_with fail
        refine (area_any V d ps _ (hPP.out _ hB2.out)).mono ?_
        rintro e wm ⟨rfl, hbn⟩
        have hB3 := Lib.hid (below_step hB2.out hbn)
        clear hbn
        go_wp2_with fail
        go_ret
        exact ⟨ret_int hfE.out.symm, hB3.out⟩
       ·rw [if_neg har] at hfE
        have hsi := Lib.hid hsi
        have hard := decide_eq_false har
        go_wp2_with fail
        refine (simple_any V d ps _ (hPP.out _ hB.out)).mono ?_
        rintro e wn ⟨rfl, hbn⟩
        rw [hsi.out]
        have hB2 := Lib.hid (below_step hB.out hbn)
        clear hbn hB
        go_wp2_with fail
        refine (area_any V d ps _ (hPP.out _ hB2.out)).mono ?_
        rintro e wm ⟨rfl, hbn⟩
        have hB3 := Lib.hid (below_step hB2.out hbn)
        clear hbn
        go_wp2_with fail
        go_ret
        exact ⟨ret_int hfE.out.symm, hB3.out⟩
      ·have hsi : Cal.simpleP ps = false := by simpa using hsi
       rw [hsi, if_neg (by decide)] at hfE
       have hsi := Lib.hid hsi
       go_wp2_with fail
       refine (simple_any V d ps _ (hPP.out _ hB.out)).mono ?_
       rintro e wn ⟨rfl, hbn⟩
       rw [hsi.out]
       have hB2 := Lib.hid (below_step hB.out hbn)
       clear hbn hB
       go_wp2_with fail
       go_ret
       exact ⟨ret_int hfE.out.symm, hB2.out⟩
end Go.Proofs.Ytfcjeejhdklkdaa
namespace Go.Proofs.Ytfcjeejhdklkdaa
open Go Go.RowKit Go.ChangeShapes Go.WideShapes Go.Deep
theorem own : ownKnob Try.prog.godebug = none := by kernel_rfl
theorem laidOut : laidOutB Try.prog = true := by kernel_rfl
theorem wf_bounds {n : Int} (h : (Lit.int .i64 n).wf = true) : -9223372036854775808 ≤ n ∧ n ≤ 9223372036854775807 := by
 simp only [Lit.wf, Bool.and_eq_true, decide_eq_true_eq] at h
 exact h
theorem list_of {α : Type} {Q : Nat → α → Prop} : ∀ n : Nat, (∀ i, i < n → ∃ p, Q i p) → ∃ l : List α, l.length = n ∧ ∀ (i : Nat) p, l[i]? = some p → Q i p
 | 0, _ => ⟨[], rfl, fun i p h => by simp at h⟩
 | n + 1, h => by
  obtain ⟨l, hl, hq⟩ := list_of n (fun i hi => h i (by omega))
  obtain ⟨p, hp⟩ := h n (by omega)
  refine ⟨l ++ [p], by simp [hl], fun i q hi => ?_⟩
  rw [List.getElem?_append] at hi
  split at hi
  ·exact hq i q hi
  ·have : i = n := by
    have := (List.getElem?_eq_some_iff.1 hi).1
    simp at this; omega
   subst this
   rw [hl] at hi; simp at hi; subst hi; exact hp
theorem addr_plain {w : World} {a : Addr} {k : Nat} {v : Value} (h : w.cell? (a.add k) = some v) (h0 : ∃ u, w.cell? (a.add 0) = some u) : a = ⟨a.block, a.off, none⟩ := by
 obtain ⟨u, h0⟩ := h0
 have := World.cell?_spot (show w.cell? a = some u by simpa [Addr.add] using h0)
 cases a; simp at this; subst this; rfl
section
variable {H : Type} {enc : TypeId × Value → H} {w : World} {spare : Nat → Bool} {held : Bool}
theorem rows_of_open {t e : TypeId} {fs : Array Field} {fuel : Nat} {cs : List Value} {x : DataW H × List MemPlace} (ht : Try.prog.underlying t = some (.slice e)) (he : Try.prog.underlying e = some (.struct fs))
  (hone : oneCellFields Try.prog fs = true) (hC : Try.prog.cellsOf e = fs.size) (hpos : 0 < fs.size) (h : DataW.trod enc Try.prog w 0 spare held fuel t cs = some x) :
  ∃ (A : Option Addr) (len cap : Nat), cs = [.slice A len cap] ∧ len ≤ cap ∧ ∀ i, i < len → ∃ (b o n : Nat), A = some ⟨b, o, none⟩ ∧ b < w.heap.size ∧
   ∀ (j : Nat) (f : Field), fs[j]? = some f → ∃ (v : Value) (y : DataW H × List MemPlace), w.cell? ⟨b, o + (i * fs.size + j), none⟩ = some v ∧ DataW.trod enc Try.prog w 0 spare held n f.type [v] = some y := by
 rcases open_slice ht h with ⟨h0, _⟩ | ⟨a, len, cap, m, n, D, Pl, hcs, hb, hl, hm, hmm, hx, hi⟩
 ·exact ⟨none, 0, 0, h0, Nat.le_refl _, fun i hi => by omega⟩
 ·refine ⟨some a, len, cap, hcs, hl, fun i him => ?_⟩
  have hlm : len ≤ m := by rw [hmm]; split <;> omega
  obtain ⟨cs', hc, ht'⟩ := hi i (by omega)
  obtain ⟨cs0, hc0, _⟩ := hi 0 (by omega)
  rw [hC] at hc hc0
  obtain ⟨ys, n', hn', hy, hlen, hyl, hf⟩ := DataW.trod_struct he ht'
  obtain ⟨hcl0, hcl1, hat⟩ := World.cells?_some hc
  obtain ⟨_, hcl01, hat0⟩ := World.cells?_some hc0
  have hz : ∃ u, w.cell? (a.add 0) = some u := by
   have h1 := hat0 0 hpos
   have hlen0 : 0 < cs0.length := by omega
   rw [List.getElem?_eq_getElem hlen0] at h1
   exact ⟨_, by simpa [Addr.add] using h1⟩
  have ha : a = ⟨a.block, a.off, none⟩ := by obtain ⟨u, hu⟩ := hz; exact addr_plain hu ⟨u, hu⟩
  refine ⟨a.block, a.off, n', by rw [← ha], ?_, fun j f hj => ?_⟩
  ·obtain ⟨u, hu⟩ := hz
   obtain ⟨o, ho, _⟩ := cells_of_cell hu
   have := (Array.getElem?_eq_some_iff.1 ho).1
   simpa [Addr.add] using this
  ·obtain ⟨ho, hk⟩ := hone_of hone j f hj
   have hjl : j < fs.size := (Array.getElem?_eq_some_iff.1 hj).1
   have hcell := hat j hjl
   have hlt : j < cs'.length := by omega
   have hv : cs'[j]? = some cs'[j] := List.getElem?_eq_getElem hlt
   have h1 := hf j f hj
   rw [ho, hk] at h1
   have hone' : (cs'.drop j).take 1 = [cs'[j]] := by rw [List.drop_eq_getElem_cons hlt]; rfl
   rw [hone'] at h1
   refine ⟨cs'[j], ys[j]'(by omega), ?_, h1.trans (List.getElem?_eq_getElem (by omega))⟩
   rw [hv, ha] at hcell
   rw [← hcell, Go.Deep.add_add, ← Go.WideShapes.add_plain]
end
section
variable {H : Type} {enc : TypeId × Value → H} {w : World} {spare : Nat → Bool} {held : Bool} {r : Reach} {b0 : Nat} {v : Value} {d : DataW H} {ps : List MemPlace}
theorem pts_of_open (hval : Value.okWide Try.prog w r b0 48 v) (h : DataW.Trod enc Try.prog w 0 spare held 48 v d ps) :
  ∃ (A : Option Addr) (l : List Pt) (c : Nat), v = .slice A l.length c ∧ RowsAt w A 2 (l.map ptR) ∧ (∀ p ∈ l, (-9223372036854775808 ≤ p.x ∧ p.x ≤ 9223372036854775807) ∧ (-9223372036854775808 ≤ p.y ∧ p.y ≤ 9223372036854775807)) ∧ l.length ≤ c := by
 obtain ⟨A, len, cap, rfl⟩ := okWide_slice Try.underlying48 hval
 obtain ⟨fuel, hf⟩ := h
 obtain ⟨A', len', cap', hcs, hlen, hq⟩ := rows_of_open Try.underlying48 Try.underlying75 (by kernel_rfl) (by kernel_rfl) (by decide) hf
 have he : A = A' ∧ len = len' ∧ cap = cap' := by simpa [Value.cells] using hcs
 obtain ⟨rfl, rfl, rfl⟩ := he
 have h1 : ∀ i, i < len → ∃ p : Pt, ((-9223372036854775808 ≤ p.x ∧ p.x ≤ 9223372036854775807) ∧ (-9223372036854775808 ≤ p.y ∧ p.y ≤ 9223372036854775807)) ∧ ∃ b o, A = some ⟨b, o, none⟩ ∧ b < w.heap.size ∧ ∀ j v, (ptR p)[j]? = some v → w.cell? ⟨b, o + (i * 2 + j), none⟩ = some v := fun i hi => by
  obtain ⟨b, o, n, hA, hb, hf⟩ := hq i hi
  obtain ⟨v0, y0, c0, t0⟩ := hf 0 _ rfl
  obtain ⟨v1, y1, c1, t1⟩ := hf 1 _ rfl
  obtain ⟨s0, e0, _, w0⟩ := DataW.trod_int Try.underlying3 t0
  obtain ⟨s1, e1, _, w1⟩ := DataW.trod_int Try.underlying3 t1
  cases e0; cases e1
  refine ⟨⟨s0, s1⟩, ⟨wf_bounds w0, wf_bounds w1⟩, b, o, hA, hb, fun j v hv => ?_⟩
  match j, hv with
  | 0, hv => cases hv; exact c0
  | 1, hv => cases hv; exact c1
  | j + 2, hv => simp [ptR] at hv
 obtain ⟨l, hl, hq'⟩ := list_of len h1
 subst hl
 refine ⟨A, l, cap, rfl, fun k r hr => ?_, fun p hp => ?_, hlen⟩
 ·rw [List.getElem?_map] at hr
  cases hk : l[k]? with
  | none => rw [hk] at hr; cases hr
  | some p => rw [hk] at hr; cases hr; exact (hq' k p hk).2
 ·obtain ⟨k, hk, rfl⟩ := List.getElem_of_mem hp
  exact (hq' k _ (List.getElem?_eq_getElem hk)).1
end
section
variable {H : Type} {enc : TypeId × Value → H}
theorem trodAll_stays {W W' : World} {sp' : Nat → Bool} : ∀ {ts : List TypeId} {vs : List Value} {ds : List (DataW H)} {ps : List MemPlace}, (∀ t ∈ ts, Try.prog.readableRec t = true ∧ t < Try.prog.types.size) →
  DataW.TrodAll enc Try.prog W 0 (fun _ => true) true ts vs ds ps → (∀ p ∈ ps, W.sameAt W' p) → (∀ p ∈ ps, sp' p.block = true) → DataW.TrodAll enc Try.prog W' 0 sp' true ts vs ds ps
 | [], vs, ds, ps, _, h, _, _ => by
  obtain ⟨rfl, rfl, rfl⟩ := trodAll_nil h
  exact rfl
 | t :: ts, vs, ds, ps, ht, h, hs, hp => by
  obtain ⟨v0, vs0, d0, ds0, p0, q0, rfl, rfl, rfl, h0, r0⟩ := trodAll_cons h
  have h1 := ht t (List.mem_cons_self ..)
  exact ⟨p0, q0, WideElems.Trod_stays laidOut h1.1 h1.2 h0 (fun p hm => hs p (List.mem_append_left _ hm)) (fun p hm => hp p (List.mem_append_left _ hm)),
   trodAll_stays (fun t hm => ht t (List.mem_cons_of_mem _ hm)) r0 (fun p hm => hs p (List.mem_append_right _ hm)) (fun p hm => hp p (List.mem_append_right _ hm)), rfl⟩
theorem post_true {f : Func} {s : ChangeSpec} {W W' : World} {args : Array Value} {ds gs : List (DataW H)} {before : List MemPlace} (hvars : s.vars = []) (hres : f.resultTypes = #[4])
  (hpar : ∀ t ∈ f.params.toList, Try.prog.readableRec t = true ∧ t < Try.prog.types.size)
  (hW : DataW.Whole enc Try.prog f.params.toList s.vars false W args.toList ds gs before) (hs : s.fn H (ds ++ gs) = { results := [.lit (.bool true)], args := ds }) (hb : Below W.heap.size W W') :
  s.post enc Try.prog f false true false false W args (.bool true) W' := by
 have hW' := hW
 have hlt : ∀ p ∈ before, p.block < W.heap.size := fun p hp => hW'.lt p hp
 obtain ⟨p, q, hA, hV, rfl, hfz, hnd⟩ := hW
 rw [hvars] at hV
 obtain ⟨rfl, rfl⟩ := trodVars_none hV
 simp only [List.append_nil] at hs hW' hlt
 refine post_of_below (pa := p) (pv := []) (ds := ds) (gs := []) (before := p) hW' ?_ ?_ ?_ (by simp) hb ?_
 ·intro b sp hd
  rw [List.append_nil, hs, hres]
  exact trodAll_cons_mk (shut_bool Try.underlying4 _) trodAll_mk0
 ·intro sp hsp
  rw [List.append_nil, hs]
  exact trodAll_stays hpar hA (fun x hx => hb.same (hlt x hx)) hsp
 ·intro sp _
  rw [hvars, List.append_nil, hs]
  rfl
 ·exact ok_one hres rfl (okWide_bool_mk Try.underlying4 _)
end
end Go.Proofs.Ytfcjeejhdklkdaa
