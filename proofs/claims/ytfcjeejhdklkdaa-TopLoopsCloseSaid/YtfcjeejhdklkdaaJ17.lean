/- What the statements rest on: definitions and walks, part 17. -/
import Derived.Test.YtfcjeejhdklkdaaJ16
import Derived.Test.YtfcjeejhdklkdaaJ14
import Derived.Test.YtfcjeejhdklkdaaJ05
namespace Go.Proofs.Ytfcjeejhdklkdaa
open Go Go.RowKit Go.Shelf
theorem absG_any (n : Int) (h1 : -9223372036854775807 ≤ n) (h2 : n ≤ 9223372036854775807) (w : World) : Calls Try.prog 18 #[.int .i64 n] w fun e w' => e = .returned (.int .i64 (n.natAbs : Int)) ∧ w = w' := by
  have hng : IntKind.i64.wrap (-n) = -n := wrap_small (by omega) (by omega)
  have hf : Hid ((n.natAbs : Int) = max n (-n)) := by show _ = _; omega
  go_enter Try.func18, Try.ntmps18
  go_wp2
  go_ret
  exact ⟨ret_int hf.out.symm, rfl⟩
end Go.Proofs.Ytfcjeejhdklkdaa
namespace Go.Proofs.Ytfcjeejhdklkdaa
open Go Go.RowKit Go.Shelf
theorem rows_new {m : Nat} (w : World) (l : List (List Value)) (hw : ∀ r ∈ l, r.length = m) (cs : Array Value) (hcs : cs = l.flatten.toArray) (t : TypeId) : RowsAt (w.alloc (.cells cs t)) (some ⟨w.heap.size, 0, none⟩) m l := by
  subst hcs
  exact fun k r hr => ⟨w.heap.size, 0, rfl, by simp, fun j v hv => by rw [cell_alloc_at, Nat.zero_add]; simpa using flat_get hw hr hv⟩
theorem ptsR_new (w : World) (ps : List Pt) (hl : ps.length ≤ 1000000) (cs : Array Value) (hcs : cs = (ps.map ptR).flatten.toArray) (t : TypeId) : PtsR (w.alloc (.cells cs t)) (some ⟨w.heap.size, 0, none⟩) ps :=
  ⟨rows_new w _ (fun r hr => by obtain ⟨p, _, rfl⟩ := List.mem_map.1 hr; rfl) cs hcs t, hl, fun ad e _ => by cases e; simp⟩
theorem PtsR.far {w w' : World} {b : Nat} {B : Nat} {ps : List Pt} (h : PtsR w (some ⟨b, 0, none⟩) ps) (hg : w.grownBy w' (some B)) (hne : b ≠ B) : PtsR w' (some ⟨b, 0, none⟩) ps :=
  ⟨h.rows.farI hg (fun a e => by cases e; exact fun h => hne (by cases h; rfl)), h.size, fun ad e hl => Nat.lt_of_lt_of_le (h.own ad e hl) hg.size⟩
set_option maxHeartbeats 4000000 in
theorem lawBox_any (x1 y1 x2 y2 : Int) (w : World) : Calls Try.prog 56 #[.int .i64 x1, .int .i64 y1, .int .i64 x2, .int .i64 y2] w fun e w' => ∃ b, e = .returned (.slice (some ⟨b, 0, none⟩) 4 4) ∧ w.heap.size ≤ b ∧ PtsR w' (some ⟨b, 0, none⟩) (Cal.boxP x1 y1 x2 y2) ∧ Below w.heap.size w w' := by
  have hp := Lib.hid (fun t => ptsR_new w (Cal.boxP x1 y1 x2 y2) (by simp [Cal.boxP]) #[.int .i64 x1, .int .i64 y1, .int .i64 x2, .int .i64 y1, .int .i64 x2, .int .i64 y2, .int .i64 x1, .int .i64 y2] rfl t)
  go_enter Try.func56, Try.ntmps56
  go_wp2_with fail
  go_ret
  exact ⟨_, rfl, Nat.le_refl _, hp.out _, below_alloc _ _⟩
/-- The levellings of a triangle. -/
def triLevs (k : Int) : List Lev := [⟨0, 1, 100, 1⟩, ⟨1, 2, 50, 1⟩, ⟨0, 2, 156, k⟩]
set_option maxHeartbeats 4000000 in
theorem lawTri_any (k : Int) (w : World) : Calls Try.prog 45 #[.int .i64 k] w fun e w' => ∃ A, e = .returned (.slice A 3 3) ∧ Levs w' A (triLevs k) ∧ Below w.heap.size w w' := by
  have hp := Lib.hid (fun t => rows_new (m := 4) w ((triLevs k).map Lev.cells) (fun r hr => by obtain ⟨p, _, rfl⟩ := List.mem_map.1 hr; rfl) #[.int .i64 0, .int .i64 1, .int .i64 100, .int .i64 1, .int .i64 1, .int .i64 2, .int .i64 50, .int .i64 1, .int .i64 0, .int .i64 2, .int .i64 156, .int .i64 k] rfl t)
  go_enter Try.func45, Try.ntmps45
  go_wp2_with fail
  go_ret
  exact ⟨_, rfl, ⟨hp.out _, by simp [triLevs]⟩, below_alloc _ _⟩
end Go.Proofs.Ytfcjeejhdklkdaa
namespace Go.Proofs.Ytfcjeejhdklkdaa
open Go Go.RowKit Go.Shelf
/-- A point that is in range. -/
structure SmV (p : Pt) : Prop where
  x0 : -100000 ≤ p.x
  x1 : p.x ≤ 100000
  y0 : -100000 ≤ p.y
  y1 : p.y ≤ 100000
theorem SmV.sm {p : Pt} (h : SmV p) : SmP p := by obtain ⟨h0, h1, h2, h3⟩ := h; constructor <;> omega
theorem ptErr_smV {p : Pt} (h : Cal.ptErr p = 0) : SmV p := by
  unfold Cal.ptErr at h
  split at h
  · cases h
  · constructor <;> omega
structure PtsV (w : World) (V : Option Addr) (ps : List Pt) : Prop where
  rows : RowsAt w V 2 (ps.map ptR)
  size : ps.length ≤ 1000000
  sm : ∀ p ∈ ps, SmV p
  own : ∀ ad, V = some ad → 0 < ps.length → ad.block < w.heap.size
theorem PtsV.below {w w' : World} {V : Option Addr} {ps : List Pt} (h : PtsV w V ps) (hb : Below w.heap.size w w') : PtsV w' V ps :=
  ⟨h.rows.below hb, h.size, h.sm, fun ad e hl => Nat.lt_of_lt_of_le (h.own ad e hl) hb.size⟩
theorem PtsV.pts {w : World} {V : Option Addr} {ps : List Pt} (h : PtsV w V ps) : Pts w V ps := ⟨h.rows, h.size, fun p hp => (h.sm p hp).sm, h.own⟩
theorem polyE_zero {ps : List Pt} (h : Cal.polyE ps = 0) : 3 ≤ ps.length ∧ ps.length ≤ 40 ∧ Cal.ptsErr ps = 0 ∧ Cal.twiceP [] ps = false ∧ Cal.simpleP ps = true ∧ 0 ≤ Cal.areaP ps := by
  unfold Cal.polyE at h
  split at h
  · omega
  · rename_i h1
    split at h
    · rename_i h2
      split at h
      · omega
      · rename_i h3
        split at h
        · rename_i h4
          split at h
          · omega
          · exact ⟨by omega, by omega, h2, by simpa using h3, h4, by omega⟩
        · omega
    · rename_i h2; exact absurd h h2
theorem PtsR.ptsV {w : World} {V : Option Addr} {ps : List Pt} (h : PtsR w V ps) (h0 : Cal.polyE ps = 0) : PtsV w V ps :=
  ⟨h.rows, h.size, fun p hp => ptErr_smV (ptsErr_zero (polyE_zero h0).2.2.1 p hp), h.own⟩
theorem mk_points (W : World) (n : Nat) (hn : n ≤ 1000000) : (Instr.makeSlice 48 (.int .i64 (n : Int)) (.int .i64 (n : Int))).run Try.prog W = .ok (.slice (some ⟨W.heap.size, 0, none⟩) n n) (W.alloc (.cells (madeCells #[.int .i64 0, .int .i64 0] (n * 2)) 75)) := by
  have hq : (Try.prog.info? 75).map (fun i => (i.zero, i.size, decide (i.bytes ≤ 1000))) = some (some (.agg #[.int .i64 0, .int .i64 0]), 2, true) := by kernel_rfl
  obtain ⟨i, hi, hz, hs, hby⟩ : ∃ i, Try.prog.info? 75 = some i ∧ i.zero = some (.agg #[.int .i64 0, .int .i64 0]) ∧ i.size = 2 ∧ i.bytes ≤ 1000 := by
    cases hi : Try.prog.info? 75 with
    | none => rw [hi] at hq; cases hq
    | some i =>
      rw [hi, Option.map_some, Option.some.injEq, Prod.mk.injEq, Prod.mk.injEq, decide_eq_true_iff] at hq
      exact ⟨i, rfl, hq.1, hq.2.1, hq.2.2⟩
  have h := run_makeSlice (P := Try.prog) W 48 75 i (.agg #[.int .i64 0, .int .i64 0]) Try.underlying48 hi hz .i64 .i64 n n (by omega) (Int.le_refl _) (by rw [hs]; omega) (by
    have : ((i.bytes : Nat) : Int) * (n : Int) ≤ 1000 * 1000000 := Int.mul_le_mul (by omega) (by omega) (by omega) (by omega)
    omega) (by omega)
  rw [Int.toNat_natCast, hs] at h
  exact h
/-- The points that are doubled so far. -/
def DbF (ps : List Pt) (k : Nat) (cs : List Value) : Prop := cs.length = ps.length * 2 ∧ ∀ (i : Nat) (q : Pt), i < k → ps[i]? = some q → cs[i * 2]? = some (.int .i64 (2 * q.x)) ∧ cs[i * 2 + 1]? = some (.int .i64 (2 * q.y))
theorem DbF.step {ps : List Pt} {k : Nat} {cs : List Value} (h : DbF ps k cs) {q : Pt} (hk : ps[k]? = some q) : DbF ps (k + 1) ((cs.set (k * 2) (.int .i64 (2 * q.x))).set (k * 2 + 1) (.int .i64 (2 * q.y))) := by
  obtain ⟨h1, h2⟩ := h
  have hlt : k < ps.length := (List.getElem?_eq_some_iff.1 hk).1
  refine ⟨by simp [h1], fun i r hi hr => ?_⟩
  by_cases e : i = k
  · subst e
    rw [hk] at hr
    cases hr
    constructor
    · rw [List.getElem?_set_ne (by omega), List.getElem?_set_self (by rw [h1]; omega)]
    · rw [List.getElem?_set_self (by rw [List.length_set, h1]; omega)]
  · rw [List.getElem?_set_ne (by omega), List.getElem?_set_ne (by omega), List.getElem?_set_ne (by omega), List.getElem?_set_ne (by omega)]
    exact h2 i r (by omega) hr
theorem DbF.pts {w : World} {M : Nat} {ps : List Pt} {cs : List Value} (h : DbF ps ps.length cs) (hb : BoxAt w M cs) (hsz : ps.length ≤ 1000000) (hsm : ∀ p ∈ ps, SmV p) : Pts w (some ⟨M, 0, none⟩) (Cal.dblP ps) := by
  refine ⟨fun j r hr => ?_, by unfold Cal.dblP; rw [List.length_map]; exact hsz, fun p hp => ?_, fun ad e _ => by cases e; exact hb.lt⟩
  · unfold Cal.dblP at hr
    rw [List.map_map, List.getElem?_map] at hr
    cases hq : ps[j]? with
    | none => rw [hq] at hr; cases hr
    | some q =>
      rw [hq] at hr
      cases hr
      have hj : j < ps.length := (List.getElem?_eq_some_iff.1 hq).1
      obtain ⟨c0, c1⟩ := h.2 j q hj hq
      refine ⟨M, 0, rfl, hb.lt, fun i v hv => ?_⟩
      rw [Nat.zero_add]
      match i, hv with
      | 0, hv => cases hv; exact hb.c _ _ c0
      | 1, hv => cases hv; exact hb.c _ _ c1
  · unfold Cal.dblP at hp
    obtain ⟨q, hq, rfl⟩ := List.mem_map.1 hp
    obtain ⟨a0, a1, a2, a3⟩ := hsm q hq
    constructor <;> (dsimp only; omega)
set_option maxRecDepth 100000 in
set_option maxHeartbeats 2000000 in
theorem doubled_any (V : Option Addr) (d : Nat) (ps : List Pt) (w : World) (hP : PtsV w V ps) :
    Calls Try.prog 95 #[.slice V ps.length d] w fun e w' => e = .returned (.slice (some ⟨w.heap.size, 0, none⟩) ps.length ps.length) ∧ Pts w' (some ⟨w.heap.size, 0, none⟩) (Cal.dblP ps) ∧ Below w.heap.size w w' := by
  have hsz := hP.size
  have hP := Lib.hid hP
  have hmk := fun W => mk_points W ps.length hsz
  have hBx := BoxAt.new w (madeCells #[.int .i64 0, .int .i64 0] (ps.length * 2)) 75
  have hF : Hid (∃ cs, BoxAt (w.alloc (.cells (madeCells #[.int .i64 0, .int .i64 0] (ps.length * 2)) 75)) w.heap.size cs ∧ DbF ps 0 cs) := ⟨_, hBx, by rw [Array.length_toList, size_madeCells], fun i q hi => by omega⟩
  have hB0 : Hid (Below w.heap.size w (w.alloc (.cells (madeCells #[.int .i64 0, .int .i64 0] (ps.length * 2)) 75))) := below_alloc _ _
  have hl0 : Hid (w.heap.size < (w.alloc (.cells (madeCells #[.int .i64 0, .int .i64 0] (ps.length * 2)) 75)).heap.size) := by show _ < _; simp
  clear hBx
  go_enter Try.func95, Try.ntmps95
  go_wp2_with fail
  clear hmk
  generalize w.alloc (.cells (madeCells #[.int .i64 0, .int .i64 0] (ps.length * 2)) 75) = w1 at *
  go_loopw [11] (fun i wr => ∃ k : Nat, k ≤ ps.length ∧ i = .int .i64 k ∧ Hid (∃ cs, BoxAt wr w.heap.size cs ∧ DbF ps k cs) ∧ Hid (Below w.heap.size w wr)) (fun i _ => ps.length - (intOf i).toNat)
  case atStart => exact ⟨0, Nat.zero_le _, rfl, hF, hB0⟩
  case round =>
    clear hF hB0 hl0
    obtain ⟨k, hk, rfl, hC, hB⟩ := hrel
    by_cases hlt : k < ps.length
    · have hk' : ps[k]? = some ps[k] := List.getElem?_eq_getElem hlt
      have hst := Lib.hid (fun cs (h : DbF ps k cs) => h.step hk')
      have hsm := hP.out.sm _ (List.getElem_mem hlt)
      obtain ⟨b, o, rfl, hbl, c0, c1⟩ := pts_at (hP.out.below hB.out).rows hk'
      clear hk'
      generalize ps[k] = q at *
      obtain ⟨q0, q1, q2, q3⟩ := hsm
      obtain ⟨cs, hb, hd⟩ := hC.out
      have hkl : k * 2 + 1 < cs.length := by rw [hd.1]; omega
      have f0 := hb.free (k * 2) (by omega)
      have f1 := hb.free (k * 2 + 1) (by omega)
      obtain ⟨v0, hv0⟩ : ∃ v, cs[k * 2]? = some v := ⟨_, List.getElem?_eq_getElem (by omega)⟩
      obtain ⟨v1, hv1⟩ : ∃ v, cs[k * 2 + 1]? = some v := ⟨_, List.getElem?_eq_getElem (by omega)⟩
      have g0 := hb.c _ _ hv0
      have g1 := hb.c _ _ hv1
      have hMw := hb.lt
      have hall := Lib.hid (And.intro hb (And.intro (hst.out cs hd) hB.out))
      clear hb hd hst hC hB hv0 hv1
      have w1 : IntKind.i64.wrap (2 * q.x) = 2 * q.x := wrap_small (by omega) (by omega)
      have w2 : IntKind.i64.wrap (2 * q.y) = 2 * q.y := wrap_small (by omega) (by omega)
      go_wp2_with fail
      go_roundw
      case rel =>
        obtain ⟨hb, hd, hB⟩ := hall.out
        refine ⟨k + 1, by omega, by go_num, ⟨_, ((hb.set (k * 2) (.int .i64 (2 * q.x)) (by omega)).set (k * 2 + 1) (.int .i64 (2 * q.y)) (by rw [List.length_set]; omega)).alloc _, hd⟩, ?_⟩
        exact below_step ((hB.setCell (p := ⟨w.heap.size, k * 2, none⟩) (Nat.le_refl _) _).setCell (p := ⟨w.heap.size, k * 2 + 1, none⟩) (Nat.le_refl _) _) (below_alloc _ _)
      case measure => simp [intOf]; omega
    · obtain rfl : k = ps.length := by omega
      go_wp2_with fail
      go_ret
      obtain ⟨cs, hb, hd⟩ := hC.out
      exact ⟨rfl, hd.pts hb hsz hP.out.sm, hB.out⟩
end Go.Proofs.Ytfcjeejhdklkdaa
