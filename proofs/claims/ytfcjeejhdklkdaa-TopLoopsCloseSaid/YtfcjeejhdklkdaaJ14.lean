/- What the statements rest on: definitions and walks, part 14. -/
import Derived.Test.YtfcjeejhdklkdaaJ03
import Derived.DeepKeys4
import Derived.Test.YtfcjeejhdklkdaaJ10
import Derived.Test.YtfcjeejhdklkdaaJ13
import Derived.Test.YtfcjeejhdklkdaaJ01
import Derived.Test.YtfcjeejhdklkdaaJ08
import Derived.RangeFuncOwn
import Derived.Deep.Slices
import Derived.Deep.Fields
import Derived.WideKeyArgs
import Derived.ChangeSame
import Derived.ChangeSlices
import Derived.Lib.SmallJoins
import Derived.Deep.DeepHandedRow
import Derived.OpenShut
import Derived.Carry
import Derived.Test.YtfcjeejhdklkdaaJ05
import Derived.Test.YtfcjeejhdklkdaaJ06
import Derived.Test.YtfcjeejhdklkdaaJ04
import Derived.Deep.CutRange
namespace Go.Proofs.Ytfcjeejhdklkdaa
open Go Go.RowKit Go.Shelf Go.Maps
theorem laid_ok : laidOutB Try.prog = true := by kernel_rfl
theorem pt_keyed : Keyed Try.prog 75 := Keyed.of_law (deep_law_laid laid_ok (m := 3) (by decide) (by decide +kernel) (by kernel_rfl) (by kernel_rfl))
theorem keyLits_int (d : Nat) (n : Int) (h0 : -9223372036854775808 ≤ n) (h1 : n ≤ 9223372036854775807) : (Try.prog).keyLits (d + 1) 3 [.int .i64 n] = some [.int .i64 n] := by
  have hu : (Try.prog).underlying 3 = _ := Try.underlying3
  unfold Program.keyLits
  rw [hu]
  dsimp only
  rw [if_pos]
  refine ⟨rfl, ?_⟩
  have e0 : IntKind.i64.min = -9223372036854775808 := by decide
  have e1 : IntKind.i64.max = 9223372036854775807 := by decide
  simp only [Lit.wf, Bool.and_eq_true, decide_eq_true_eq, e0, e1]
  exact ⟨h0, h1⟩
theorem pt_key (p : Pt) (hp : SmP p) : ∃ l, keyOf Try.prog 75 (.agg #[.int .i64 p.x, .int .i64 p.y]) = some l := by
  have hu : (Try.prog).underlying 75 = _ := Try.underlying75
  have hk : (Try.prog).keyType 75 = true := by kernel_rfl
  have hf : Value.formed Try.prog 75 (.agg #[.int .i64 p.x, .int .i64 p.y]) = true := by unfold Value.formed; rw [hu]; kernel_rfl
  unfold keyOf
  rw [hu]
  dsimp only
  rw [hk, hf, Bool.and_self, if_pos rfl]
  have hsz : 1 < (Try.prog).types.size := by decide +kernel
  obtain ⟨d, hd⟩ : ∃ d, (Try.prog).types.size + 1 = d + 1 + 1 := ⟨(Try.prog).types.size - 1, by omega⟩
  rw [hd]
  unfold Program.keyLits
  rw [hu]
  dsimp only
  have hc : (Try.prog).cellsOf 75 = 2 := by kernel_rfl
  have hi : (Try.prog).cellsOf 3 = 1 := by kernel_rfl
  have hcs : (Value.agg #[.int .i64 p.x, .int .i64 p.y]).cells.toList = [.int .i64 p.x, .int .i64 p.y] := rfl
  rw [hc, hcs, if_pos ⟨rfl, by decide +kernel⟩]
  have k1 := keyLits_int d p.x (by have := hp.x0; omega) (by have := hp.x1; omega)
  have k2 := keyLits_int d p.y (by have := hp.y0; omega) (by have := hp.y1; omega)
  simp [hi, k1, k2]
end Go.Proofs.Ytfcjeejhdklkdaa
namespace Go.Proofs.Ytfcjeejhdklkdaa
open Go Go.RowKit Go.Shelf Go.Maps Go.WideMaps
/-- A list of points lies in memory, whatever its coordinates are. -/
structure PtsR (w : World) (V : Option Addr) (ps : List Pt) : Prop where
  rows : RowsAt w V 2 (ps.map ptR)
  size : ps.length ≤ 1000000
  own : ∀ ad, V = some ad → 0 < ps.length → ad.block < w.heap.size
theorem PtsR.below {w w' : World} {V : Option Addr} {ps : List Pt} (h : PtsR w V ps) (hb : Below w.heap.size w w') : PtsR w' V ps :=
  ⟨h.rows.below hb, h.size, fun ad e hl => Nat.lt_of_lt_of_le (h.own ad e hl) hb.size⟩
theorem ptErr_zero {p : Pt} (h : Cal.ptErr p = 0) : SmP p := by
  unfold Cal.ptErr at h
  split at h
  · cases h
  · constructor <;> omega
theorem ptsErr_zero : ∀ {ps : List Pt}, Cal.ptsErr ps = 0 → ∀ p ∈ ps, Cal.ptErr p = 0
  | [], _, p, hp => by cases hp
  | q :: r, h, p, hp => by
    unfold Cal.ptsErr at h
    split at h
    · rename_i hq
      rcases List.mem_cons.1 hp with rfl | hp
      · exact hq
      · exact ptsErr_zero h p hp
    · rename_i hq
      exact absurd h hq
theorem PtsR.pts {w : World} {V : Option Addr} {ps : List Pt} (h : PtsR w V ps) (h0 : Cal.ptsErr ps = 0) : Pts w V ps :=
  ⟨h.rows, h.size, fun p hp => ptErr_zero (ptsErr_zero h0 p hp), h.own⟩
instance instPt : DecidableEq Pt := fun a b => decidable_of_iff (ptB a b = true) ptB_iff
def PtK : Type := { p : Pt // SmP p }
instance instPtK : DecidableEq PtK := fun a b => decidable_of_iff (a.1 = b.1) ⟨Subtype.ext, fun h => by rw [h]⟩
theorem pt_lits : ∃ lit : PtK → Lit, (∀ p : PtK, keyOf Try.prog 75 (.agg #[.int .i64 p.1.x, .int .i64 p.1.y]) = some (lit p)) ∧ ∀ p q, lit p = lit q → p = q := by
  have hk : ∀ p : PtK, keyOf Try.prog 75 (.agg #[.int .i64 p.1.x, .int .i64 p.1.y]) = some ((keyOf Try.prog 75 (.agg #[.int .i64 p.1.x, .int .i64 p.1.y])).getD (.bool true)) := fun p => by
    obtain ⟨l, hl⟩ := pt_key p.1 p.2
    rw [hl]
    rfl
  refine ⟨fun p => (keyOf Try.prog 75 (.agg #[.int .i64 p.1.x, .int .i64 p.1.y])).getD (.bool true), hk, fun p q h => ?_⟩
  have h1 := hk p
  have h2 := hk q
  dsimp only at h
  rw [← h] at h2
  have h3 := pt_keyed.inj h1 h2
  refine Subtype.ext ?_
  obtain ⟨⟨a, b⟩, hp⟩ := p
  obtain ⟨⟨c, d⟩, hq⟩ := q
  simp at h3
  simp [h3]
def SeenP (seen : List Pt) (f : PtK → Option Value) : Prop := ∀ x : PtK, (f x).getD (.bool false) = .bool (seen.any (ptB x.1))
theorem SeenP.start : SeenP [] (fun _ => none) := fun _ => rfl
theorem SeenP.step {seen : List Pt} {f : PtK → Option Value} (h : SeenP seen f) (q : PtK) : SeenP (q.1 :: seen) (setAt f q (.bool true)) := fun x => by
  rw [List.any_cons]
  by_cases e : x = q
  · subst e
    rw [setAt_same, ptB_iff.2 rfl]
    rfl
  · rw [setAt_other _ _ e, h x]
    have : ptB x.1 q.1 = false := by
      cases hb : ptB x.1 q.1
      · rfl
      · exact absurd (Subtype.ext (ptB_iff.1 hb)) e
    rw [this, Bool.false_or]
theorem ptsErr_drop {ps : List Pt} {k : Nat} (h : k < ps.length) : Cal.ptsErr (ps.drop k) = if Cal.ptErr ps[k] = 0 then Cal.ptsErr (ps.drop (k + 1)) else Cal.ptErr ps[k] := by
  rw [List.drop_eq_getElem_cons h]; rfl
theorem twiceP_drop {ps : List Pt} {k : Nat} (h : k < ps.length) (seen : List Pt) : Cal.twiceP seen (ps.drop k) = (seen.any (ptB ps[k]) || Cal.twiceP (ps[k] :: seen) (ps.drop (k + 1))) := by
  rw [List.drop_eq_getElem_cons h]; rfl
structure PmI (w : World) (lit : PtK → Lit) (M : Nat) (seen : List Pt) (n : Nat) (W : World) : Prop where
  map : ∃ f, MapIs Try.prog 75 lit W M n f ∧ SeenP seen f
  lt : M < W.heap.size
  bel : Below w.heap.size w W
section
variable {w : World} {lit : PtK → Lit} {M n : Nat} {seen : List Pt} {W W' : World}
theorem PmI.below (h : PmI w lit M seen n W) (hb : Below W.heap.size W W') : PmI w lit M seen n W' := by
  obtain ⟨⟨f, h1, h2⟩, h3, h4⟩ := h
  exact ⟨⟨f, h1.below hb h3, h2⟩, Nat.lt_of_lt_of_le h3 hb.size, below_step h4 hb⟩
theorem PmI.look (h : PmI w lit M seen n W) (hkey : ∀ p : PtK, keyOf Try.prog 75 (.agg #[.int .i64 p.1.x, .int .i64 p.1.y]) = some (lit p)) (q : PtK) : (Instr.lookup 134 (.map (some M)) (.agg #[.int .i64 q.1.x, .int .i64 q.1.y]) false).run Try.prog W = .ok (.bool (seen.any (ptB q.1))) W := by
  obtain ⟨f, h1, h2⟩ := h.map
  rw [h1.look pt_keyed Try.underlying134 (boolZero _) (hkey q), h2]
theorem PmI.update (h : PmI w lit M seen n W) (hkey : ∀ p : PtK, keyOf Try.prog 75 (.agg #[.int .i64 p.1.x, .int .i64 p.1.y]) = some (lit p)) (hinj : ∀ p q, lit p = lit q → p = q) (q : PtK) (hn : n < 1000000) (hM : w.heap.size ≤ M) :
    ∃ w', (Instr.mapUpdate 134 (.map (some M)) (.agg #[.int .i64 q.1.x, .int .i64 q.1.y]) (.bool true)).run Try.prog W = .ok () w' ∧ PmI w lit M (q.1 :: seen) (n + 1) w' ∧ w'.heap.size = W.heap.size := by
  obtain ⟨⟨f, h1, h2⟩, h3, h4⟩ := h
  obtain ⟨w2, hrun, hm2, hg2, hsz2⟩ := h1.store hinj pt_keyed Try.underlying134 (by unfold maxLen; omega) (val := .bool true) (hkey q)
  exact ⟨w2, hrun, ⟨⟨_, hm2, h2.step q⟩, by omega, h4.grown hg2 h4.size (fun k e => by cases e; exact hM)⟩, hsz2⟩
end
set_option maxRecDepth 100000 in
set_option maxHeartbeats 4000000 in
theorem CheckPolygon_any (V : Option Addr) (d : Nat) (ps : List Pt) (w : World) (hP : PtsR w V ps) :
    Calls Try.prog 74 #[.slice V ps.length d] w fun e w' => e = .returned (.int .i64 (Cal.polyE ps)) ∧ Below w.heap.size w w' := by
  have hsz := hP.size
  have hP := Lib.hid hP
  by_cases hn : ps.length < 3 ∨ 40 < ps.length
  · have hf : Hid (Cal.polyE ps = 10) := by show _ = _; unfold Cal.polyE; rw [if_pos hn]
    rcases hn with hn | hn
    · have h1 : (ps.length : Int) < 3 := by omega
      go_enter Try.func74, Try.ntmps74
      go_wp2_with fail
      go_ret
      exact ⟨ret_int hf.out.symm, blw⟩
    · have h1 : ¬ (ps.length : Int) < 3 := by omega
      have h2 : 40 < (ps.length : Int) := by omega
      go_enter Try.func74, Try.ntmps74
      go_wp2_with fail
      go_ret
      exact ⟨ret_int hf.out.symm, blw⟩
  · have hfE : Hid (Cal.polyE ps = if Cal.ptsErr ps = 0 then (if Cal.twiceP [] ps = true then 5 else if Cal.simpleP ps = true then (if Cal.areaP ps < 0 then 9 else 0) else 3) else Cal.ptsErr ps) := by show _ = _; unfold Cal.polyE; rw [if_neg hn]
    have h1 : ¬ (ps.length : Int) < 3 := by omega
    have h2 : ¬ 40 < (ps.length : Int) := by omega
    have hmm := @run_makeMap Try.prog
    have hl40 : ps.length ≤ 40 := by omega
    clear hn
    go_enter Try.func74, Try.ntmps74
    go_wp2_with fail
    go_loopw [19] (fun i wr => ∃ k : Nat, k ≤ ps.length ∧ i = .int .i64 k ∧ Hid (Cal.ptsErr ps = Cal.ptsErr (ps.drop k)) ∧ Hid (Below w.heap.size w wr)) (fun i _ => ps.length - (intOf i).toNat)
    case atStart => exact ⟨0, Nat.zero_le _, rfl, rfl, Below.refl _ _⟩
    case round =>
      obtain ⟨k, hk, rfl, hE, hB⟩ := hrel
      by_cases hlt : k < ps.length
      · have hd := ptsErr_drop hlt
        have hk' : ps[k]? = some ps[k] := List.getElem?_eq_getElem hlt
        obtain ⟨b, o, rfl, hbl, c0, c1⟩ := pts_at (hP.out.below hB.out).rows hk'
        clear hk'
        generalize ps[k] = q at *
        by_cases h0 : Cal.ptErr q = 0
        · rw [if_pos h0] at hd
          have hE2 : Hid (Cal.ptsErr ps = Cal.ptsErr (ps.drop (k + 1))) := hE.out.trans hd
          have h0 := Lib.hid h0
          clear hd hE
          go_wp2_with fail
          refine (checkPoint_any q _).mono ?_
          rintro e wn ⟨rfl, hbn⟩
          rw [h0.out]
          have hB2 := Lib.hid (below_step (below_step hB.out (below_alloc _ _)) hbn)
          clear hbn hB c0 c1
          go_wp2_with fail
          go_roundw
          case rel => exact ⟨k + 1, by omega, by go_num, hE2, hB2⟩
          case measure => simp [intOf]; omega
        · rw [if_neg h0] at hd
          have hf2 : Hid (Cal.polyE ps = Cal.ptErr q) := by
            show _ = _
            rw [hfE.out, hE.out, hd, if_neg h0]
          clear hd hE
          go_wp2_with fail
          refine (checkPoint_any q _).mono ?_
          rintro e wn ⟨rfl, hbn⟩
          have hB2 := Lib.hid (below_step (below_step hB.out (below_alloc _ _)) hbn)
          clear hbn hB c0 c1
          go_wp2_with fail
          go_ret
          exact ⟨ret_int hf2.out.symm, hB2.out⟩
      · obtain rfl : k = ps.length := by omega
        have hE0 : Cal.ptsErr ps = 0 := by rw [hE.out, List.drop_length]; rfl
        have hPP := Lib.hid (fun w' h => (hP.out.below (w' := w') h).pts hE0)
        rw [hE0, if_pos rfl] at hfE
        clear hE hE0
        go_wp2_with fail
        obtain ⟨lit, hkey, hinj⟩ := pt_lits
        have hM := MapIs.made Try.prog 75 lit wr
        have hlt0 : wr.heap.size < (wr.alloc (.map #[] 0)).heap.size := by simp
        have hB1 : Below w.heap.size w (wr.alloc (.map #[] 0)) := below_step hB.out (below_alloc _ _)
        have hMw : w.heap.size ≤ wr.heap.size := hB.out.size
        obtain ⟨w1, hw1⟩ : ∃ w1, wr.alloc (.map #[] 0) = w1 := ⟨_, rfl⟩
        rw [hw1] at hM hB1 hlt0 ⊢
        clear hw1 hmm hB
        generalize wr.heap.size = M at *
        have hI0 : Hid (PmI w lit M [] 0 w1) := ⟨⟨_, hM, SeenP.start⟩, hlt0, hB1⟩
        clear hM hlt0 hB1
        go_loopw [32] (fun i wr => ∃ (k : Nat) (seen : List Pt), k ≤ ps.length ∧ i = .int .i64 k ∧ Hid (Cal.twiceP [] ps = Cal.twiceP seen (ps.drop k)) ∧ Hid (PmI w lit M seen k wr)) (fun i _ => ps.length - (intOf i).toNat)
        case atStart => exact ⟨0, [], Nat.zero_le _, rfl, rfl, hI0⟩
        case round =>
          clear hI0
          obtain ⟨k, seen, hk, rfl, hE, hI⟩ := hrel
          by_cases hlt : k < ps.length
          · have hd := twiceP_drop hlt seen
            have hk' : ps[k]? = some ps[k] := List.getElem?_eq_getElem hlt
            obtain ⟨b, o, rfl, hbl, c0, c1⟩ := pts_at (hPP.out _ hI.out.bel).rows hk'
            have hsm := (hPP.out _ hI.out.bel).sm _ (List.getElem_mem hlt)
            clear hk'
            generalize ps[k] = q at *
            have hI1 := Lib.hid (hI.out.below (below_alloc wr (.cells #[.int .i64 q.x, .int .i64 q.y] 75)))
            have hlk := hI1.out.look hkey ⟨q, hsm⟩
            dsimp only at hlk
            cases hs : seen.any (ptB q)
            · rw [hs] at hlk hd
              have hE2 : Hid (Cal.twiceP [] ps = Cal.twiceP (q :: seen) (ps.drop (k + 1))) := hE.out.trans hd
              clear hd hE hs
              obtain ⟨w2, hup, hI2, hsz2⟩ := hI1.out.update hkey hinj ⟨q, hsm⟩ (by omega) hMw
              dsimp only at hup hI2
              have hI2 := Lib.hid hI2
              go_wp2_with fail
              go_roundw
              case rel => exact ⟨k + 1, q :: seen, by omega, by go_num, hE2, hI2⟩
              case measure => simp [intOf]; omega
            · rw [hs] at hlk hd
              have hf2 : Hid (Cal.polyE ps = 5) := by
                show _ = _
                rw [hfE.out, hE.out, hd]
                rfl
              clear hd hE hs
              go_wp2_with fail
              go_ret
              exact ⟨ret_int hf2.out.symm, hI1.out.bel⟩
          · obtain rfl : k = ps.length := by omega
            have hE0 : Cal.twiceP [] ps = false := by rw [hE.out, List.drop_length]; rfl
            rw [hE0, if_neg (by decide)] at hfE
            have hB := Lib.hid hI.out.bel
            clear hE hE0 hI
            by_cases hsi : Cal.simpleP ps = true
            · rw [hsi, if_pos rfl] at hfE
              by_cases har : Cal.areaP ps < 0
              · rw [if_pos har] at hfE
                have hsi := Lib.hid hsi
                have hard := decide_eq_true har
                go_wp2_with fail
                refine (simple_any V d ps _ (hPP.out _ hB.out)).mono ?_
                rintro e wn ⟨rfl, hbn⟩
                rw [hsi.out]
                have hB2 := Lib.hid (below_step hB.out hbn)
                clear hbn hB
                go_wp2_with fail
                refine (area_any V d ps _ (hPP.out _ hB2.out)).mono ?_
                rintro e wm ⟨rfl, hbn⟩
                have hB3 := Lib.hid (below_step hB2.out hbn)
                clear hbn
                go_wp2_with fail
                go_ret
                exact ⟨ret_int hfE.out.symm, hB3.out⟩
              · rw [if_neg har] at hfE
                have hsi := Lib.hid hsi
                have hard := decide_eq_false har
                go_wp2_with fail
                refine (simple_any V d ps _ (hPP.out _ hB.out)).mono ?_
                rintro e wn ⟨rfl, hbn⟩
                rw [hsi.out]
                have hB2 := Lib.hid (below_step hB.out hbn)
                clear hbn hB
                go_wp2_with fail
                refine (area_any V d ps _ (hPP.out _ hB2.out)).mono ?_
                rintro e wm ⟨rfl, hbn⟩
                have hB3 := Lib.hid (below_step hB2.out hbn)
                clear hbn
                go_wp2_with fail
                go_ret
                exact ⟨ret_int hfE.out.symm, hB3.out⟩
            · have hsi : Cal.simpleP ps = false := by simpa using hsi
              rw [hsi, if_neg (by decide)] at hfE
              have hsi := Lib.hid hsi
              go_wp2_with fail
              refine (simple_any V d ps _ (hPP.out _ hB.out)).mono ?_
              rintro e wn ⟨rfl, hbn⟩
              rw [hsi.out]
              have hB2 := Lib.hid (below_step hB.out hbn)
              clear hbn hB
              go_wp2_with fail
              go_ret
              exact ⟨ret_int hfE.out.symm, hB2.out⟩
end Go.Proofs.Ytfcjeejhdklkdaa
namespace Go.Proofs.Ytfcjeejhdklkdaa
open Go Go.RowKit Go.ChangeShapes Go.WideShapes Go.Deep
theorem own : ownKnob Try.prog.godebug = none := by kernel_rfl
theorem laidOut : laidOutB Try.prog = true := by kernel_rfl
theorem wf_bounds {n : Int} (h : (Lit.int .i64 n).wf = true) : -9223372036854775808 ≤ n ∧ n ≤ 9223372036854775807 := by
  simp only [Lit.wf, Bool.and_eq_true, decide_eq_true_eq] at h
  exact h
/-- A list out of its elements. -/
theorem list_of {α : Type} {Q : Nat → α → Prop} : ∀ n : Nat, (∀ i, i < n → ∃ p, Q i p) → ∃ l : List α, l.length = n ∧ ∀ (i : Nat) p, l[i]? = some p → Q i p
  | 0, _ => ⟨[], rfl, fun i p h => by simp at h⟩
  | n + 1, h => by
    obtain ⟨l, hl, hq⟩ := list_of n (fun i hi => h i (by omega))
    obtain ⟨p, hp⟩ := h n (by omega)
    refine ⟨l ++ [p], by simp [hl], fun i q hi => ?_⟩
    rw [List.getElem?_append] at hi
    split at hi
    · exact hq i q hi
    · have : i = n := by
        have := (List.getElem?_eq_some_iff.1 hi).1
        simp at this; omega
      subst this
      rw [hl] at hi; simp at hi; subst hi; exact hp
theorem addr_plain {w : World} {a : Addr} {k : Nat} {v : Value} (h : w.cell? (a.add k) = some v) (h0 : ∃ u, w.cell? (a.add 0) = some u) : a = ⟨a.block, a.off, none⟩ := by
  obtain ⟨u, h0⟩ := h0
  have := World.cell?_spot (show w.cell? a = some u by simpa [Addr.add] using h0)
  cases a; simp at this; subst this; rfl
section
variable {H : Type} {enc : TypeId × Value → H} {w : World} {spare : Nat → Bool} {held : Bool}
/-- The elements' cells of a slice of structs whose fields are a cell each. -/
theorem rows_of_open {t e : TypeId} {fs : Array Field} {fuel : Nat} {cs : List Value} {x : DataW H × List MemPlace} (ht : Try.prog.underlying t = some (.slice e)) (he : Try.prog.underlying e = some (.struct fs))
    (hone : oneCellFields Try.prog fs = true) (hC : Try.prog.cellsOf e = fs.size) (hpos : 0 < fs.size) (h : DataW.trod enc Try.prog w 0 spare held fuel t cs = some x) :
    ∃ (A : Option Addr) (len cap : Nat), cs = [.slice A len cap] ∧ len ≤ maxLen ∧ ∀ i, i < len → ∃ (b o n : Nat), A = some ⟨b, o, none⟩ ∧ b < w.heap.size ∧
      ∀ (j : Nat) (f : Field), fs[j]? = some f → ∃ (v : Value) (y : DataW H × List MemPlace), w.cell? ⟨b, o + (i * fs.size + j), none⟩ = some v ∧ DataW.trod enc Try.prog w 0 spare held n f.type [v] = some y := by
  rcases open_slice ht h with ⟨h0, _⟩ | ⟨a, len, cap, m, n, D, Pl, hcs, hb, hl, hm, hmm, hx, hi⟩
  · exact ⟨none, 0, 0, h0, by unfold maxLen; omega, fun i hi => by omega⟩
  · refine ⟨some a, len, cap, hcs, by omega, fun i him => ?_⟩
    have hlm : len ≤ m := by rw [hmm]; split <;> omega
    obtain ⟨cs', hc, ht'⟩ := hi i (by omega)
    obtain ⟨cs0, hc0, _⟩ := hi 0 (by omega)
    rw [hC] at hc hc0
    obtain ⟨ys, n', hn', hy, hlen, hyl, hf⟩ := DataW.trod_struct he ht'
    obtain ⟨hcl0, hcl1, hat⟩ := World.cells?_some hc
    obtain ⟨_, hcl01, hat0⟩ := World.cells?_some hc0
    have hz : ∃ u, w.cell? (a.add 0) = some u := by
      have h1 := hat0 0 hpos
      have hlen0 : 0 < cs0.length := by omega
      rw [List.getElem?_eq_getElem hlen0] at h1
      exact ⟨_, by simpa [Addr.add] using h1⟩
    have ha : a = ⟨a.block, a.off, none⟩ := by obtain ⟨u, hu⟩ := hz; exact addr_plain hu ⟨u, hu⟩
    refine ⟨a.block, a.off, n', by rw [← ha], ?_, fun j f hj => ?_⟩
    · obtain ⟨u, hu⟩ := hz
      obtain ⟨o, ho, _⟩ := cells_of_cell hu
      have := (Array.getElem?_eq_some_iff.1 ho).1
      simpa [Addr.add] using this
    · obtain ⟨ho, hk⟩ := hone_of hone j f hj
      have hjl : j < fs.size := (Array.getElem?_eq_some_iff.1 hj).1
      have hcell := hat j hjl
      have hlt : j < cs'.length := by omega
      have hv : cs'[j]? = some cs'[j] := List.getElem?_eq_getElem hlt
      have h1 := hf j f hj
      rw [ho, hk] at h1
      have hone' : (cs'.drop j).take 1 = [cs'[j]] := by rw [List.drop_eq_getElem_cons hlt]; rfl
      rw [hone'] at h1
      refine ⟨cs'[j], ys[j]'(by omega), ?_, h1.trans (List.getElem?_eq_getElem (by omega))⟩
      rw [hv, ha] at hcell
      rw [← hcell, Go.Deep.add_add, ← Go.WideShapes.add_plain]
end
section
variable {H : Type} {enc : TypeId × Value → H} {w : World} {spare : Nat → Bool} {held : Bool} {r : Reach} {b0 : Nat} {v : Value} {d : DataW H} {ps : List MemPlace}
theorem cellsInt1 : Try.prog.cellsOf 3 = 1 := by kernel_rfl
set_option maxRecDepth 100000 in
theorem ints_of_openW (hval : Value.okWide Try.prog w r b0 23 v) (h : DataW.Trod enc Try.prog w 0 spare held 23 v d ps) :
    ∃ (O : Option Addr) (zs : List Int) (c : Nat), v = .slice O zs.length c ∧ RowsAt w O 1 (intRows zs) ∧ ∀ n ∈ zs, -9223372036854775808 ≤ n ∧ n ≤ 9223372036854775807 := by
  obtain ⟨A, len, cap, rfl⟩ := okWide_slice Try.underlying23 hval
  obtain ⟨fuel, hf⟩ := h
  rcases Go.ChangeShapes.open_ints Try.underlying23 Try.underlying3 cellsInt1 hf with ⟨hcs, _⟩ | ⟨a, len', cap', zs, hcs, _, hlc, hcm, hzl, _, hcell, hwf⟩
  · have he : A = none ∧ len = 0 ∧ cap = 0 := by simpa [Value.cells] using hcs
    obtain ⟨rfl, rfl, rfl⟩ := he
    exact ⟨none, [], 0, rfl, fun k r hr => (by simp [intRows] at hr), fun n hn => by cases hn⟩
  · have he : A = some a ∧ len = len' ∧ cap = cap' := by simpa [Value.cells] using hcs
    obtain ⟨rfl, rfl, rfl⟩ := he
    have hle : len ≤ zs.length := by rw [hzl]; split <;> omega
    have hlen : (zs.take len).length = len := by rw [List.length_take]; omega
    refine ⟨some a, zs.take len, cap, by rw [hlen], fun k row hr => ?_, fun n hn => wf_bounds (hwf n (List.mem_of_mem_take hn))⟩
    have hk : k < len := by
      have := (List.getElem?_eq_some_iff.1 hr).1
      unfold intRows at this
      rw [List.length_map, hlen] at this
      exact this
    have hrow : row = [.int .i64 (zs.getD k 0)] := by
      unfold intRows at hr
      rw [List.getElem?_map, List.getElem?_take, if_pos hk, List.getElem?_eq_getElem (by omega)] at hr
      have := (Option.some.inj hr).symm
      rw [this]
      simp [List.getD, List.getElem?_eq_getElem (show k < zs.length by omega)]
    have h0 := hcell 0 (by omega)
    have ha : a = ⟨a.block, a.off, none⟩ := addr_plain h0 ⟨_, h0⟩
    refine ⟨a.block, a.off, by rw [← ha], ?_, fun j v hv => ?_⟩
    · obtain ⟨o, ho, _⟩ := cells_of_cell h0
      have := (Array.getElem?_eq_some_iff.1 ho).1
      simpa [Addr.add] using this
    · subst hrow
      match j, hv with
      | 0, hv =>
        cases hv
        have h1 := hcell k (by omega)
        rw [ha, Go.WideShapes.add_plain] at h1
        simpa using h1
      | j + 1, hv => simp at hv
set_option maxRecDepth 100000 in
theorem levs_of_open (hval : Value.okWide Try.prog w r b0 22 v) (h : DataW.Trod enc Try.prog w 0 spare held 22 v d ps) :
    ∃ (A : Option Addr) (l : List Lev) (c : Nat), v = .slice A l.length c ∧ RowsAt w A 4 (l.map Lev.cells) ∧ (∀ p ∈ l, (-9223372036854775808 ≤ p.f ∧ p.f ≤ 9223372036854775807) ∧ (-9223372036854775808 ≤ p.t ∧ p.t ≤ 9223372036854775807) ∧ (-9223372036854775808 ≤ p.d ∧ p.d ≤ 9223372036854775807) ∧ (-9223372036854775808 ≤ p.w ∧ p.w ≤ 9223372036854775807)) := by
  obtain ⟨A, len, cap, rfl⟩ := okWide_slice Try.underlying22 hval
  obtain ⟨fuel, hf⟩ := h
  obtain ⟨A', len', cap', hcs, hlen, hq⟩ := rows_of_open Try.underlying22 Try.underlying41 (by kernel_rfl) (by kernel_rfl) (by decide) hf
  have he : A = A' ∧ len = len' ∧ cap = cap' := by simpa [Value.cells] using hcs
  obtain ⟨rfl, rfl, rfl⟩ := he
  have h1 : ∀ i, i < len → ∃ p : Lev, ((-9223372036854775808 ≤ p.f ∧ p.f ≤ 9223372036854775807) ∧ (-9223372036854775808 ≤ p.t ∧ p.t ≤ 9223372036854775807) ∧ (-9223372036854775808 ≤ p.d ∧ p.d ≤ 9223372036854775807) ∧ (-9223372036854775808 ≤ p.w ∧ p.w ≤ 9223372036854775807)) ∧ ∃ b o, A = some ⟨b, o, none⟩ ∧ b < w.heap.size ∧ ∀ j v, (Lev.cells p)[j]? = some v → w.cell? ⟨b, o + (i * 4 + j), none⟩ = some v := fun i hi => by
    obtain ⟨b, o, n, hA, hb, hf⟩ := hq i hi
    obtain ⟨v0, y0, c0, t0⟩ := hf 0 _ rfl
    obtain ⟨v1, y1, c1, t1⟩ := hf 1 _ rfl
    obtain ⟨v2, y2, c2, t2⟩ := hf 2 _ rfl
    obtain ⟨v3, y3, c3, t3⟩ := hf 3 _ rfl
    obtain ⟨s0, e0, _, w0⟩ := DataW.trod_int Try.underlying3 t0
    obtain ⟨s1, e1, _, w1⟩ := DataW.trod_int Try.underlying3 t1
    obtain ⟨s2, e2, _, w2⟩ := DataW.trod_int Try.underlying3 t2
    obtain ⟨s3, e3, _, w3⟩ := DataW.trod_int Try.underlying3 t3
    cases e0; cases e1; cases e2; cases e3
    refine ⟨⟨s0, s1, s2, s3⟩, ⟨wf_bounds w0, wf_bounds w1, wf_bounds w2, wf_bounds w3⟩, b, o, hA, hb, fun j v hv => ?_⟩
    match j, hv with
    | 0, hv => cases hv; exact c0
    | 1, hv => cases hv; exact c1
    | 2, hv => cases hv; exact c2
    | 3, hv => cases hv; exact c3
    | j + 4, hv => simp [Lev.cells] at hv
  obtain ⟨l, hl, hq'⟩ := list_of len h1
  subst hl
  refine ⟨A, l, cap, rfl, fun k r hr => ?_, fun p hp => ?_⟩
  · rw [List.getElem?_map] at hr
    cases hk : l[k]? with
    | none => rw [hk] at hr; cases hr
    | some p => rw [hk] at hr; cases hr; exact (hq' k p hk).2
  · obtain ⟨k, hk, rfl⟩ := List.getElem_of_mem hp
    exact (hq' k _ (List.getElem?_eq_getElem hk)).1
end
section
variable {H : Type} {enc : TypeId × Value → H}
theorem trodAll_stays {W W' : World} {sp' : Nat → Bool} : ∀ {ts : List TypeId} {vs : List Value} {ds : List (DataW H)} {ps : List MemPlace}, (∀ t ∈ ts, Try.prog.readableRec t = true ∧ t < Try.prog.types.size) →
    DataW.TrodAll enc Try.prog W 0 (fun _ => true) true ts vs ds ps → (∀ p ∈ ps, W.sameAt W' p) → (∀ p ∈ ps, sp' p.block = true) → DataW.TrodAll enc Try.prog W' 0 sp' true ts vs ds ps
  | [], vs, ds, ps, _, h, _, _ => by
    obtain ⟨rfl, rfl, rfl⟩ := trodAll_nil h
    exact rfl
  | t :: ts, vs, ds, ps, ht, h, hs, hp => by
    obtain ⟨v0, vs0, d0, ds0, p0, q0, rfl, rfl, rfl, h0, r0⟩ := trodAll_cons h
    have h1 := ht t (List.mem_cons_self ..)
    exact ⟨p0, q0, WideElems.Trod_stays laidOut h1.1 h1.2 h0 (fun p hm => hs p (List.mem_append_left _ hm)) (fun p hm => hp p (List.mem_append_left _ hm)),
      trodAll_stays (fun t hm => ht t (List.mem_cons_of_mem _ hm)) r0 (fun p hm => hs p (List.mem_append_right _ hm)) (fun p hm => hp p (List.mem_append_right _ hm)), rfl⟩
set_option maxRecDepth 100000 in
/-- The last step of every row of this kind: true, and the arguments as they were. -/
theorem post_true {f : Func} {s : ChangeSpec} {W W' : World} {args : Array Value} {ds gs : List (DataW H)} {before : List MemPlace} (hvars : s.vars = []) (hres : f.resultTypes = #[4])
    (hpar : ∀ t ∈ f.params.toList, Try.prog.readableRec t = true ∧ t < Try.prog.types.size)
    (hW : DataW.Whole enc Try.prog f.params.toList s.vars false W args.toList ds gs before) (hs : s.fn H (ds ++ gs) = { results := [.lit (.bool true)], args := ds }) (hb : Below W.heap.size W W') :
    s.post enc Try.prog f false true false false W args (.bool true) W' := by
  have hW' := hW
  have hlt : ∀ p ∈ before, p.block < W.heap.size := fun p hp => hW'.lt p hp
  obtain ⟨p, q, hA, hV, rfl, hfz, hnd⟩ := hW
  rw [hvars] at hV
  obtain ⟨rfl, rfl⟩ := trodVars_none hV
  simp only [List.append_nil] at hs hW' hlt
  refine post_of_below (pa := p) (pv := []) (ds := ds) (gs := []) (before := p) hW' ?_ ?_ ?_ (by simp) hb ?_
  · intro b sp hd
    rw [List.append_nil, hs, hres]
    exact trodAll_cons_mk (shut_bool Try.underlying4 _) trodAll_mk0
  · intro sp hsp
    rw [List.append_nil, hs]
    exact trodAll_stays hpar hA (fun x hx => hb.same (hlt x hx)) hsp
  · intro sp _
    rw [hvars, List.append_nil, hs]
    rfl
  · exact ok_one hres rfl (okWide_bool_mk Try.underlying4 _)
end
end Go.Proofs.Ytfcjeejhdklkdaa
namespace Go.Proofs.Ytfcjeejhdklkdaa.Cal
def flipL (x : Lev) : Lev := ⟨x.t, x.f, -x.d, x.w⟩
def noL : Lev := ⟨0, 0, 0, 0⟩
/-- A difference as it is gone through. -/
def stepL (l : List Lev) (n : Int) : Lev := if n < 0 then flipL (l[n.natAbs - 1]?.getD noL) else l[n.natAbs - 1]?.getD noL
def badL (l : List Lev) (n : Int) : Bool := decide (n = 0 ∨ l.length < n.natAbs)
/-- Each begins where the one before it ends. -/
def chain : Int → List Lev → Bool
  | _, [] => true
  | a, x :: r => decide (x.f = a) && chain x.t r
def lastT : Int → List Lev → Int
  | a, [] => a
  | _, x :: r => lastT x.t r
def sumD : List Lev → Int
  | [] => 0
  | x :: r => x.d + sumD r
/-- The error of a loop. -/
def misE (l : List Lev) (lp : List Int) : Int :=
  if lp.length < 1 ∨ 100 < lp.length then 10 else if lp.any (badL l) = true then 6 else if chain (lastT 0 (lp.map (stepL l))) (lp.map (stepL l)) = true then 0 else 29
def misS (l : List Lev) (lp : List Int) : Int := if misE l lp = 0 then sumD (lp.map (stepL l)) else 0
theorem lastT_append (x : Lev) : ∀ (a : Int) (r : List Lev), lastT a (r ++ [x]) = x.t
  | _, [] => rfl
  | _, y :: r => lastT_append x y.t r
theorem lastT_any {a b : Int} : ∀ {r : List Lev}, r ≠ [] → lastT a r = lastT b r
  | [], h => absurd rfl h
  | _ :: _, _ => rfl
theorem chain_append : ∀ (r : List Lev) (a : Int) (s : List Lev), chain a (r ++ s) = (chain a r && chain (lastT a r) s)
  | [], _, _ => rfl
  | x :: r, a, s => by
    show (decide (x.f = a) && chain x.t (r ++ s)) = ((decide (x.f = a) && chain x.t r) && chain (lastT x.t r) s)
    rw [chain_append r x.t s, Bool.and_assoc]
theorem sumD_append : ∀ (r s : List Lev), sumD (r ++ s) = sumD r + sumD s
  | [], s => by show sumD s = 0 + sumD s; omega
  | x :: r, s => by
    show x.d + sumD (r ++ s) = x.d + sumD r + sumD s
    rw [sumD_append r s]; omega
/-- The sum so far stays small. -/
theorem sumD_box {K : Int} (hK : 0 ≤ K) : ∀ (r : List Lev), (∀ x ∈ r, -K ≤ x.d ∧ x.d ≤ K) → -(K * (r.length : Int)) ≤ sumD r ∧ sumD r ≤ K * (r.length : Int)
  | [], _ => by simp [sumD]
  | x :: r, h => by
    have ih := sumD_box hK r (fun y hy => h y (List.mem_cons_of_mem _ hy))
    have hx := h x (List.mem_cons_self ..)
    rw [List.length_cons]
    show _ ≤ x.d + sumD r ∧ x.d + sumD r ≤ _
    have : K * ((r.length + 1 : Nat) : Int) = K * (r.length : Int) + K := by rw [Int.natCast_add, Int.mul_add]; omega
    omega
theorem stepL_mem {l : List Lev} {n : Int} (h : badL l n = false) : ∃ (k : Nat) (x : Lev), k = n.natAbs - 1 ∧ 1 ≤ n.natAbs ∧ k < l.length ∧ l[k]? = some x ∧ stepL l n = if n < 0 then flipL x else x := by
  have h := of_decide_eq_false h
  have hk : n.natAbs - 1 < l.length := by omega
  exact ⟨n.natAbs - 1, l[n.natAbs - 1], rfl, by omega, hk, List.getElem?_eq_getElem hk, by unfold stepL; rw [List.getElem?_eq_getElem hk]; rfl⟩
theorem stepL_box {l : List Lev} {n : Int} (hv : ∀ x ∈ l, -100000 ≤ x.d ∧ x.d ≤ 100000) (h : badL l n = false) : -100000 ≤ (stepL l n).d ∧ (stepL l n).d ≤ 100000 := by
  obtain ⟨k, x, _, _, _, hx, e⟩ := stepL_mem h
  have := hv x (List.mem_of_getElem? hx)
  rw [e]
  split
  · show -100000 ≤ -x.d ∧ -x.d ≤ 100000; omega
  · exact this
theorem lastT_get {x : Lev} : ∀ {r : List Lev} {a : Int} {k : Nat}, r[k]? = some x → r.length = k + 1 → lastT a r = x.t
  | [], _, _, h, _ => by cases h
  | [y], _, k, h, hl => by
    obtain rfl : k = 0 := by simpa using hl.symm
    cases h; rfl
  | y :: z :: r, a, k, h, hl => by
    obtain ⟨k, rfl⟩ : ∃ q, k = q + 1 := ⟨k - 1, by simp at hl; omega⟩
    show lastT y.t (z :: r) = x.t
    exact lastT_get (by simpa using h) (by simpa using hl)
theorem any_take {f : Int → Bool} {lp : List Int} {k : Nat} (h : k < lp.length) : (lp.take (k + 1)).any f = ((lp.take k).any f || f lp[k]) := by
  rw [List.take_succ_eq_append_getElem h, List.any_append]; simp
theorem chain_take {a : Int} {r : List Lev} {k : Nat} (h : k < r.length) : chain a (r.take (k + 1)) = (chain a (r.take k) && decide (r[k].f = lastT a (r.take k))) := by
  rw [List.take_succ_eq_append_getElem h, chain_append]
  show (_ && (decide (r[k].f = lastT a (List.take k r)) && true)) = _
  rw [Bool.and_true]
theorem lastT_take {a : Int} {r : List Lev} {k : Nat} (h : k < r.length) : lastT a (r.take (k + 1)) = r[k].t := by
  rw [List.take_succ_eq_append_getElem h, lastT_append]
theorem sumD_take {r : List Lev} {k : Nat} (h : k < r.length) : sumD (r.take (k + 1)) = sumD (r.take k) + r[k].d := by
  rw [List.take_succ_eq_append_getElem h, sumD_append]
  show _ = _
  simp [sumD]
/-- A chain that breaks somewhere is none. -/
theorem chain_break {a : Int} {r : List Lev} {k : Nat} (h : k < r.length) (hb : r[k].f ≠ lastT a (r.take k)) : chain a r = false := by
  have e : r = r.take (k + 1) ++ r.drop (k + 1) := (List.take_append_drop _ _).symm
  rw [e, chain_append, chain_take h, decide_eq_false hb, Bool.and_false, Bool.false_and]
/-- The error of Misclosure, and its answer. -/
def misEN (n : Int) (l : List Lev) (lp : List Int) : Int := if netE n l = 0 then misE l lp else netE n l
def misSN (n : Int) (l : List Lev) (lp : List Int) : Int := if netE n l = 0 then misS l lp else 0
theorem any_hit {f : Int → Bool} {lp : List Int} {k : Nat} (h : k < lp.length) (hf : f lp[k] = true) : lp.any f = true := List.any_eq_true.2 ⟨lp[k], List.getElem_mem h, hf⟩
theorem mis_good {l : List Lev} {lp : List Int} (h : misE l lp = 0) : lp.length ≤ 100 ∧ ∀ n ∈ lp, badL l n = false := by
  unfold misE at h
  split at h
  · cases h
  · split at h
    · cases h
    · rename_i h1 hb
      exact ⟨by omega, fun n hn => by simpa using List.any_eq_false.1 (by simpa using hb) n hn⟩
theorem misS_box {l : List Lev} {lp : List Int} (hv : ∀ x ∈ l, -100000 ≤ x.d ∧ x.d ≤ 100000) : -10000000 ≤ misS l lp ∧ misS l lp ≤ 10000000 := by
  unfold misS
  split
  · rename_i h
    obtain ⟨hl, hg⟩ := mis_good h
    have := sumD_box (K := 100000) (by decide) (lp.map (stepL l)) (fun x hx => by
      obtain ⟨n, hn, rfl⟩ := List.mem_map.1 hx
      exact stepL_box hv (hg n hn))
    rw [List.length_map] at this
    omega
  · omega
end Go.Proofs.Ytfcjeejhdklkdaa.Cal
namespace Go.Proofs.Ytfcjeejhdklkdaa
open Go Go.RowKit Go.Shelf
theorem wrap_u64 (a : Int) : IntKind.u64.wrap a = a % 18446744073709551616 := by
  unfold IntKind.wrap
  simp [IntKind.bits, IntKind.signed]
theorem levSize : (Try.prog.info? 41).map (·.size) = some 4 := by kernel_rfl
theorem size_any (n : Int) (w : World) (h1 : -9223372036854775808 ≤ n) (h2 : n ≤ 9223372036854775807) : Calls Try.prog 49 #[.int .i64 n] w fun e w' => e = .returned (.int .u64 (n.natAbs : Int)) ∧ w = w' := by
  by_cases h : n < 0
  · have e1 : IntKind.u64.wrap n = n + 18446744073709551616 := by rw [wrap_u64]; omega
    have e2 : IntKind.u64.wrap (-(n + 18446744073709551616)) = (n.natAbs : Int) := by rw [wrap_u64]; omega
    have hf : Hid (IntKind.u64.wrap (-(n + 18446744073709551616)) = (n.natAbs : Int)) := e2
    clear e2
    go_enter Try.func49, Try.ntmps49
    go_wp2
    go_ret
    exact ⟨by rw [← hf.out]; rfl, rfl⟩
  · have e1 : IntKind.u64.wrap n = n := by rw [wrap_u64]; omega
    have hf : Hid ((n.natAbs : Int) = n) := by show _ = _; omega
    go_enter Try.func49, Try.ntmps49
    go_wp2
    go_ret
    exact ⟨by rw [hf.out]; rfl, rfl⟩
theorem Sx.putC {w W : World} {L : List (Nat × Nat × Value)} {b : Nat} {vs : List Value} (h : Sx w L W) (hb : w.heap.size ≤ b) (hL : ∀ x ∈ L, x.1 < w.heap.size) : Sx w L (W.setCells b 0 vs) :=
  ⟨fun x hx => (World.cell?_of_block (a := ⟨x.1, x.2.1, none⟩) ((grown_setCells b vs 0 W).block x.1 (Nat.lt_of_lt_of_le (hL x hx) h.bel.size) (fun e => by have := hL x hx; have := Option.some.inj e; omega))).trans (h.cs x hx), below_of_grownB h.bel (grown_setCells b vs 0 W) hb⟩
theorem BoxAt.aside1 {W : World} {B b o : Nat} {cs : List Value} (h : BoxAt W B cs) (hne : B ≠ b) (v : Value) : BoxAt (W.setCell ⟨b, o, none⟩ v) B cs :=
  h.grown (row := some b) ⟨rfl, rfl, rfl, by rw [World.size_setCell]; exact Nat.le_refl _, fun k _ hk => Below.heap_setCell W ⟨b, o, none⟩ v k (fun e => hk (by rw [e]))⟩ (fun e => hne (by cases e; rfl))
/-- A store of several cells behind which nothing of what is held is lost. -/
theorem storeC {P : Program} {ops : Array Oper} {Q : Exit → Act → World → Prop} {md : Region.Mode} {S : World → Prop} (i : Nat) {op : Oper} {fuel : Nat} {listed : Array Bool} {a : Act} {w : World} (ty : TypeId) (e f : Operand) (b o : Nat) (cells : Array Value)
    (hr : Region.ready md ops listed = [i]) (ho : ops[i]? = some op) (hst : op.op = .store ty e f) (hw : Region.wanted op (yielded ops a.tmps) = true)
    (hx : a.eval e = .pointer (some ⟨b, o, none⟩)) (hy : a.eval f = .agg cells) (ht : w.there b o cells.size) (hi : (P.info? ty).map (·.size) = some cells.size) (h1 : cells.all (·.oneCell') = true)
    (hS : S (w.setCells b o cells.toList)) (h : S (w.setCells b o cells.toList) → wpAnyH P md ops Q S fuel (listed.setIfInBounds i true) (a.put op.dst undef) (w.setCells b o cells.toList)) : wpAnyH P md ops Q S (fuel + 1) listed a w :=
  wpAnyH_ready (rs := [i]) hr (by simp) (AllReadyH.cons ho (fun K hK => by
    rw [if_pos hw]
    exact wp_store_mid ty e f hst b o cells hx hy ht hi h1 (hK.out _ _ hS h)) AllReadyH.nil)
set_option maxRecDepth 100000 in
set_option maxHeartbeats 4000000 in
theorem stepG_any (l : List Lev) (A : Option Addr) (c : Nat) (n : Int) (B : Nat) (w : World) (hB : w.cell? ⟨B, 0, none⟩ = some (.slice A l.length c)) (hBl : B < w.heap.size) (hL : Levs w A l) (hv : ∀ x ∈ l, -100000 ≤ x.d ∧ x.d ≤ 100000) (hbad : Cal.badL l n = false) :
    Calls Try.prog 48 #[.int .i64 n, .pointer (some ⟨B, 0, none⟩)] w fun e w' => e = .returned (.agg #[.int .i64 (Cal.stepL l n).f, .int .i64 (Cal.stepL l n).t, .int .i64 (Cal.stepL l n).d, .int .i64 (Cal.stepL l n).w]) ∧ Below w.heap.size w w' := by
  obtain ⟨k, x, hk, hn1, hlt, hx, he⟩ := Cal.stepL_mem hbad
  have hsz := hL.size
  have hxd := hv x (List.mem_of_getElem? hx)
  have hz := Lib.hid (BoxAt.new w #[.int .i64 0, .int .i64 0, .int .i64 0, .int .i64 0] 41)
  have hb := Lib.hid (below_alloc w (.cells #[.int .i64 0, .int .i64 0, .int .i64 0, .int .i64 0] 41))
  have hB1 := (hb.out.cell (p := ⟨B, 0, none⟩) hBl).trans hB
  obtain ⟨b, o, rfl, hbl, c0, c1, c2, c3⟩ := lev_at (hL.below hb.out).rows hx
  have hsize := Lib.hid (fun W => size_any n W (by omega) (by omega))
  have hk1 : IntKind.u64.wrap ((n.natAbs : Int) - 1) = (k : Int) := by rw [wrap_u64]; omega
  have hki : (k : Int) < (l.length : Int) := by omega
  obtain ⟨xf, xt, xd, xw⟩ := x
  dsimp only at *
  have hng : IntKind.i64.wrap (-xd) = -xd := wrap_small (by omega) (by omega)
  generalize hna : n.natAbs = na at *
  replace he := Lib.hid he
  clear hx hv hL hB hbad hxd hk hn1 hna
  go_enter Try.func48, Try.ntmps48
  go_wp2_with fail
  generalize hW1 : w.alloc (.cells #[.int .i64 0, .int .i64 0, .int .i64 0, .int .i64 0] 41) = W1 at *
  have hRl : w.heap.size < W1.heap.size := by rw [← hW1]; simp
  clear hW1
  have hBs := hb.out.size
  go_cut [4] from 4 to 10 (fun x4 wc => x4 = .pointer (some ⟨W1.heap.size, 0, none⟩) ∧ Hid (BoxAt wc W1.heap.size [.int .i64 xf, .int .i64 xt, .int .i64 xd, .int .i64 xw]) ∧ Hid (BoxAt wc w.heap.size [.int .i64 0, .int .i64 0, .int .i64 0, .int .i64 0]) ∧ Hid (Below w.heap.size w wc))
  case first =>
    refine wp_region_held_drew (S := Sx W1 [(B, 0, .slice (some ⟨b, o, none⟩) l.length c), (b, o + k * 4, .int .i64 xf), (b, o + k * 4 + 1, .int .i64 xt), (b, o + k * 4 + 2, .int .i64 xd), (b, o + k * 4 + 3, .int .i64 xw)]) (by kernel_rfl) (Sx.mk (by simp only [cs_iff_cons]; exact ⟨hB1, c0, c1, c2, c3, cs_nil _⟩) (Below.refl _ _)).drew (fun hHeld => ?_)
    clear hB1 c0 c1 c2 c3
    have hbl2 : ∀ x ∈ [(B, 0, Value.slice (some ⟨b, o, none⟩) l.length c), (b, o + k * 4, .int .i64 xf), (b, o + k * 4 + 1, .int .i64 xt), (b, o + k * 4 + 2, .int .i64 xd), (b, o + k * 4 + 3, .int .i64 xw)], x.1 < W1.heap.size := by
      intro x hx
      simp only [List.mem_cons, List.not_mem_nil, or_false] at hx
      rcases hx with rfl | rfl | rfl | rfl | rfl <;> dsimp only <;> omega
    have hbl3 := Lib.hid hbl2
    clear hbl2
    replace hz := Lib.hid (hz.out.below (Below.refl _ _).drew)
    replace hb := Lib.hid hb.out.drew
    replace hRl : w.heap.size < W1.drew.heap.size := hRl
    have hsz1 : Hid (W1.drew.heap.size = W1.heap.size) := rfl
    generalize W1.drew = W2 at *
    refine tkHx 0 5 ?_
    refine tkHx 1 6 ?_
    (refine wpAnyH_ready (rs := [2, 6]) (by decide +kernel) (by simp) ?_; refine AllReadyH.cons rfl (fun K hK => ?_) (AllReadyH.cons rfl (fun K hK => ?_) AllReadyH.nil))
    · (rw [if_pos (by kernel_rfl)]; go_simp)
      refine (hsize.out _).mono ?_
      rintro e0 w3 ⟨rfl, rfl⟩
      go_simp
      (refine hK.out _ _ hHeld (fun hHeld => ?_); clear hK K; (try simp only [Act.put, List.setIfInBounds_toArray]); (try simp only [List.set_cons_zero, List.set_cons_succ]))
      refine tkHx 3 8 ?_
      refine tkHx 4 9 ?_
      refine tkHx 5 10 ?_
      (refine ratHx 6 (fun K hK => ?_); go_simp)
      refine hK.out _ _ (hHeld.alloc _) (fun hHeld => ?_)
      clear hK K
      ((try simp only [Act.put, List.setIfInBounds_toArray]); (try simp only [List.set_cons_zero, List.set_cons_succ]))
      have hx0 := Lib.hid (BoxAt.new W2 #[.int .i64 0, .int .i64 0, .int .i64 0, .int .i64 0] 41)
      have hz0 := Lib.hid (hz.out.alloc (.cells #[.int .i64 0, .int .i64 0, .int .i64 0, .int .i64 0] 41))
      have hb0 := Lib.hid (below_step hb.out (below_alloc W2 (.cells #[.int .i64 0, .int .i64 0, .int .i64 0, .int .i64 0] 41)))
      ((try simp only [Act.put, List.setIfInBounds_toArray]); (try simp only [List.set_cons_zero, List.set_cons_succ]))
      refine storeC 7 41 (.tmp 4) (.tmp 10) W2.heap.size 0 #[.int .i64 xf, .int .i64 xt, .int .i64 xd, .int .i64 xw] (by decide +kernel) (by exact rfl) (by exact rfl) (by kernel_rfl) (by rfl) (by rfl) (by exact hx0.out.there) levSize (by kernel_rfl) (hHeld.putC (by rw [hsz1.out]; exact Nat.le_refl _) hbl3.out) (fun hHeld => ?_)
      ((try simp only [Act.put, List.setIfInBounds_toArray]); (try simp only [List.set_cons_zero, List.set_cons_succ]))
      refine wpAnyH_done (by kernel_rfl) ?_ _
      have hx5 := Lib.hid (hx0.out.put [.int .i64 xf, .int .i64 xt, .int .i64 xd, .int .i64 xw] rfl)
      have hz5 := Lib.hid (hz0.out.aside (B' := W2.heap.size) [.int .i64 xf, .int .i64 xt, .int .i64 xd, .int .i64 xw] (Nat.ne_of_lt hRl))
      have hb5 := Lib.hid (below_of_grownB hb0.out (grown_setCells W2.heap.size [.int .i64 xf, .int .i64 xt, .int .i64 xd, .int .i64 xw] 0 _) (Nat.le_of_lt hRl))
      clear hHeld hx0 hz0 hb0 hz hb hbl3 hBs hsize hk1 hki
      go_wp2_with fail
      go_meet
      case rel => exact ⟨by rw [← hsz1.out], by rw [← hsz1.out]; exact hx5, hz5, hb5⟩
    · (rw [if_pos (by kernel_rfl)]; go_simp)
      refine hK.out _ _ (hHeld.alloc _) (fun hHeld => ?_)
      clear hK K
      ((try simp only [Act.put, List.setIfInBounds_toArray]); (try simp only [List.set_cons_zero, List.set_cons_succ]))
      (refine ratHx 2 (fun K hK => ?_); go_simp)
      refine (hsize.out _).mono ?_
      rintro e0 w3 ⟨rfl, rfl⟩
      go_simp
      (refine hK.out _ _ hHeld (fun hHeld => ?_); clear hK K; (try simp only [Act.put, List.setIfInBounds_toArray]); (try simp only [List.set_cons_zero, List.set_cons_succ]))
      refine tkHx 3 8 ?_
      refine tkHx 4 9 ?_
      refine tkHx 5 10 ?_
      have hx0 := Lib.hid (BoxAt.new W2 #[.int .i64 0, .int .i64 0, .int .i64 0, .int .i64 0] 41)
      have hz0 := Lib.hid (hz.out.alloc (.cells #[.int .i64 0, .int .i64 0, .int .i64 0, .int .i64 0] 41))
      have hb0 := Lib.hid (below_step hb.out (below_alloc W2 (.cells #[.int .i64 0, .int .i64 0, .int .i64 0, .int .i64 0] 41)))
      ((try simp only [Act.put, List.setIfInBounds_toArray]); (try simp only [List.set_cons_zero, List.set_cons_succ]))
      refine storeC 7 41 (.tmp 4) (.tmp 10) W2.heap.size 0 #[.int .i64 xf, .int .i64 xt, .int .i64 xd, .int .i64 xw] (by decide +kernel) (by exact rfl) (by exact rfl) (by kernel_rfl) (by rfl) (by rfl) (by exact hx0.out.there) levSize (by kernel_rfl) (hHeld.putC (by rw [hsz1.out]; exact Nat.le_refl _) hbl3.out) (fun hHeld => ?_)
      ((try simp only [Act.put, List.setIfInBounds_toArray]); (try simp only [List.set_cons_zero, List.set_cons_succ]))
      refine wpAnyH_done (by kernel_rfl) ?_ _
      have hx5 := Lib.hid (hx0.out.put [.int .i64 xf, .int .i64 xt, .int .i64 xd, .int .i64 xw] rfl)
      have hz5 := Lib.hid (hz0.out.aside (B' := W2.heap.size) [.int .i64 xf, .int .i64 xt, .int .i64 xd, .int .i64 xw] (Nat.ne_of_lt hRl))
      have hb5 := Lib.hid (below_of_grownB hb0.out (grown_setCells W2.heap.size [.int .i64 xf, .int .i64 xt, .int .i64 xd, .int .i64 xw] 0 _) (Nat.le_of_lt hRl))
      clear hHeld hx0 hz0 hb0 hz hb hbl3 hBs hsize hk1 hki
      go_wp2_with fail
      go_meet
      case rel => exact ⟨by rw [← hsz1.out], by rw [← hsz1.out]; exact hx5, hz5, hb5⟩
  case rest =>
    obtain ⟨rfl, hx5, hz5, hb5⟩ := hcut
    clear hB1 c0 c1 c2 c3 hz hb hsize hk1 hki
    generalize W1.heap.size = Bx at *
    have x0 := hx5.out.c 0 _ rfl
    have x1 := hx5.out.c 1 _ rfl
    have x2 := hx5.out.c 2 _ rfl
    have f0 := hx5.out.free 0 (by simp)
    have f1 := hx5.out.free 1 (by simp)
    have f2 := hx5.out.free 2 (by simp)
    have hne : w.heap.size ≠ Bx := Nat.ne_of_lt hRl
    have hne2 := Lib.hid hne
    have hle := Lib.hid (Nat.le_of_lt hRl)
    clear hne
    by_cases hneg : n < 0
    · have hres : Hid (Cal.stepL l n = ⟨xt, xf, -xd, xw⟩) := by
        show _ = _
        rw [he.out, if_pos hneg]; rfl
      have hx8 := Lib.hid (((hx5.out.set 0 (.int .i64 xt) (by simp)).set 1 (.int .i64 xf) (by simp)).set 2 (.int .i64 (-xd)) (by simp))
      have hz8 := Lib.hid (((hz5.out.aside1 (o := 0) hne2.out (.int .i64 xt)).aside1 (o := 1) hne2.out (.int .i64 xf)).aside1 (o := 2) hne2.out (.int .i64 (-xd)))
      have hb8 := Lib.hid (((hb5.out.setCell (p := ⟨Bx, 0, none⟩) hle.out (.int .i64 xt)).setCell (p := ⟨Bx, 1, none⟩) hle.out (.int .i64 xf)).setCell (p := ⟨Bx, 2, none⟩) hle.out (.int .i64 (-xd)))
      clear he hx5 hz5 hb5
      go_wp2_with (first
        | (refine wpList_load_mid rfl 41 (.tmp 4) rfl Bx 0 rfl [.int .i64 xt, .int .i64 xf, .int .i64 (-xd), .int .i64 xw] _ hx8.out.range Try.underlying41 rfl levSize ?_)
        | (refine wpList_store_box rfl 41 (.tmp 3) (.tmp 23) rfl w.heap.size _ [.int .i64 xt, .int .i64 xf, .int .i64 (-xd), .int .i64 xw] (by rfl) (by rfl) hz8.out rfl levSize (by kernel_rfl) ?_; intro w9 h9 hg9))
      refine bodyPost_ret (results_mid1 rfl _ _ w.heap.size [.int .i64 xt, .int .i64 xf, .int .i64 (-xd), .int .i64 xw] _ rfl h9.range Try.underlying41 rfl levSize) rfl ⟨by rw [hres.out], below_of_grownB hb8.out hg9 (Nat.le_refl _)⟩
    · have hres : Hid (Cal.stepL l n = ⟨xf, xt, xd, xw⟩) := by
        show _ = _
        rw [he.out, if_neg hneg]
      clear he
      go_wp2_with (first
        | (refine wpList_load_mid rfl 41 (.tmp 4) rfl Bx 0 rfl [.int .i64 xf, .int .i64 xt, .int .i64 xd, .int .i64 xw] _ hx5.out.range Try.underlying41 rfl levSize ?_)
        | (refine wpList_store_box rfl 41 (.tmp 3) (.tmp 23) rfl w.heap.size _ [.int .i64 xf, .int .i64 xt, .int .i64 xd, .int .i64 xw] (by rfl) (by rfl) hz5.out rfl levSize (by kernel_rfl) ?_; intro w9 h9 hg9))
      refine bodyPost_ret (results_mid1 rfl _ _ w.heap.size [.int .i64 xf, .int .i64 xt, .int .i64 xd, .int .i64 xw] _ rfl h9.range Try.underlying41 rfl levSize) rfl ⟨by rw [hres.out], below_of_grownB hb5.out hg9 (Nat.le_refl _)⟩
end Go.Proofs.Ytfcjeejhdklkdaa
