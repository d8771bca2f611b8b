/- What the statements rest on: definitions and walks, part 30. -/
import Derived.Test.YtfcjeejhdklkdaaJ29
import Derived.Test.YtfcjeejhdklkdaaJ28
set_option maxRecDepth 100000
set_option maxHeartbeats 16000000
set_option linter.unusedSimpArgs false
set_option linter.unusedVariables false
namespace Go.Proofs.Ytfcjeejhdklkdaa
open Go Go.RowKit Go.Shelf
theorem sectL_zero {sec : List Pt} : ∀ {l bf : List Plo}, (sectL sec bf l).2.2 = 0 → ∀ k (h : k < l.length), (plotE sec (bf ++ l.take k) l[k]).2 = 0
 | [], _, _, k, h => by simp at h
 | p :: r, bf, hz, k, h => by
  unfold sectL at hz
  split at hz
  ·rename_i h0
   cases k with
   | zero => simpa using h0
   | succ k =>
    have := sectL_zero (l := r) (bf := bf ++ [p]) hz k (by simpa using h)
    simpa using this
  ·rename_i h0; exact absurd hz h0
theorem sectE_zero {name : ByteArray} {ps : List Pt} {l : List Plo} (h : (sectE name ps l).2.2 = 0) : nameB name = true ∧ Cal.polyE ps = 0 ∧ l.length ≤ 60 ∧ ∀ k (h : k < l.length), (plotE ps (l.take k) l[k]).2 = 0 := by
 unfold sectE at h
 split at h
 ·rename_i h1
  split at h
  ·rename_i h2
   split at h
   ·cases h
   ·refine ⟨h1, h2, by omega, fun k hk => ?_⟩
    have := sectL_zero h k hk
    simpa using this
  ·rename_i h2; exact absurd h h2
 ·cases h
def sumA : List Plo → Int
 | [] => 0
 | p :: r => Cal.areaP p.ps + sumA r
theorem sumA_take {l : List Plo} {k : Nat} (h : k < l.length) : sumA (l.take (k + 1)) = sumA (l.take k) + Cal.areaP l[k].ps := by
 rw [List.take_succ_eq_append_getElem h]
 have app : ∀ a b : List Plo, sumA (a ++ b) = sumA a + sumA b := fun a b => by
  induction a with
  | nil => simp [sumA]
  | cons x r ih => rw [List.cons_append, sumA, sumA, ih]; omega
 rw [app]
 simp [sumA]
theorem sumA_box : ∀ {l : List Plo}, (∀ p ∈ l, -20000000000000 ≤ Cal.areaP p.ps ∧ Cal.areaP p.ps ≤ 20000000000000) → -(20000000000000 * (l.length : Int)) ≤ sumA l ∧ sumA l ≤ 20000000000000 * (l.length : Int)
 | [], _ => by simp [sumA]
 | p :: r, h => by
  have ih := sumA_box (l := r) (fun q hq => h q (List.mem_cons_of_mem _ hq))
  have hp := h p (List.mem_cons_self ..)
  rw [sumA, List.length_cons]
  omega
theorem area_box {w : World} {V : Option Addr} {ps : List Pt} (h : Pts w V ps) (hl : ps.length ≤ 10) : -20000000000000 ≤ Cal.areaP ps ∧ Cal.areaP ps ≤ 20000000000000 := by
 have := areaTo_box h ps.length (Nat.le_refl _)
 unfold Cal.areaP
 omega
def gapS (s : Sct) : Int := if (sectE s.name s.ps s.l).2.2 = 0 then Cal.areaP s.ps - sumA s.l else 0
structure GpI (w : World) (s : Sct) (W : World) : Prop where
 a : BoxAt W w.heap.size [.string s.name, .slice s.V s.ps.length s.d, .slice s.S s.l.length s.e]
 bel : Below w.heap.size w W
theorem GpI.below {w : World} {s : Sct} {X Y : World} (h : GpI w s X) (hb : Below X.heap.size X Y) : GpI w s Y := ⟨h.a.below hb, below_step h.bel hb⟩
theorem Gap_any (s : Sct) (w : World) (hS : SctR w s) :
  Calls Try.prog 38 #[.agg #[.string s.name, .slice s.V s.ps.length s.d, .slice s.S s.l.length s.e]] w fun e w' => e = .returned (.tuple #[.int .i64 (gapS s), .int .i64 (sectE s.name s.ps s.l).2.2]) ∧ Below w.heap.size w w' := by
 have hI : Hid (GpI w s (w.alloc (.cells #[.string s.name, .slice s.V s.ps.length s.d, .slice s.S s.l.length s.e] 62))) := ⟨BoxAt.new w #[.string s.name, .slice s.V s.ps.length s.d, .slice s.S s.l.length s.e] 62, below_alloc _ _⟩
 have hcs := Lib.hid (fun W (hW : GpI w s W) => CheckSection_any s W (hS.below hW.bel))
 have hsz := hS.plots.size
 by_cases h0 : (sectE s.name s.ps s.l).2.2 = 0
 ·have hz := sectE_zero h0
  have hg : gapS s = Cal.areaP s.ps - sumA s.l := by unfold gapS; rw [if_pos h0]
  have hC := hS.pts.plg hz.2.1 (few_ok hS.few hz.2.1)
  have hCb := area_box hC.v.pts hC.len
  have hPl : Hid (∀ p ∈ s.l, Plg w p.V p.ps ∧ -20000000000000 ≤ Cal.areaP p.ps ∧ Cal.areaP p.ps ≤ 20000000000000) := fun p hp => by
   obtain ⟨k, hk, rfl⟩ := List.getElem_of_mem hp
   have h3 := (plotE_zero (hz.2.2.2 k hk)).2.2.1
   have hq := (hS.plots.pts _ hp).plg h3 (few_ok (hS.fews _ hp) h3)
   exact ⟨hq, area_box hq.v.pts hq.len⟩
  have hl60 := hz.2.2.1
  obtain ⟨R, hR⟩ : ∃ R, sectE s.name s.ps s.l = R := ⟨_, rfl⟩
  rw [hR] at h0 hcs
  rw [hg, hR]
  obtain ⟨R1, R2, R3⟩ := R
  dsimp only at h0 hcs ⊢
  subst h0
  obtain ⟨A, hA⟩ : ∃ A, Cal.areaP s.ps = A := ⟨_, rfl⟩
  rw [hA] at hCb ⊢
  replace hA := Lib.hid hA
  replace hC := Lib.hid hC
  have hrows := Lib.hid hS.plots.rows
  clear hz hg hR hS
  obtain ⟨nm, V, d, ps, S, e, l⟩ := s
  dsimp only at *
  have hS0 : Hid ((0 : Int) = sumA (l.take 0)) := rfl
  (have a0 := hI.out.a.c 0 _ rfl; have a1 := hI.out.a.c 1 _ rfl; have a2 := hI.out.a.c 2 _ rfl)
  go_enter Try.func38, Try.ntmps38
  go_wp2_with (first
   |(go_at_call 37; clear a0 a1 a2; refine (hcs.out _ hI.out).mono ?_; rintro e0 wn ⟨rfl, hbn⟩; replace hI := Lib.hid (hI.out.below hbn); clear hbn; have lt0 := hI.out.a.lt; (have a0 := hI.out.a.c 0 _ rfl; have a1 := hI.out.a.c 1 _ rfl; have a2 := hI.out.a.c 2 _ rfl))
   |(go_at_call 76; clear a0 a1 a2; refine (area_any V d ps _ (hC.out.below (below_step hI.out.bel (below_alloc _ _))).v.pts).mono ?_; rintro e0 wm ⟨rfl, hbn⟩; rw [hA.out]; replace hI := Lib.hid ((hI.out.below (below_alloc _ _)).below hbn); clear hbn lt0; (have a0 := hI.out.a.c 0 _ rfl; have a1 := hI.out.a.c 1 _ rfl; have a2 := hI.out.a.c 2 _ rfl)))
  clear a0 a1 a2
  go_loopw [6, 23] (fun v i wr => ∃ (k : Nat) (z : Int), k ≤ l.length ∧ i = .int .i64 k ∧ v = .int .i64 (A - z) ∧ Hid (z = sumA (l.take k)) ∧ Hid (GpI w _ wr)) (fun _ i _ => l.length - (intOf i).toNat)
  case atStart => exact ⟨0, 0, Nat.zero_le _, rfl, by go_num, hS0, hI⟩
  case round =>
   clear hS0 hI
   obtain ⟨k, z, hk, rfl, rfl, hz, hI⟩ := hrel
   by_cases hlt : k < l.length
   ·have hk' : l[k]? = some l[k] := List.getElem?_eq_getElem hlt
    have hst := sumA_take hlt
    have hp := hPl.out _ (List.getElem_mem hlt)
    have hb1 : ∀ m, -(20000000000000 * 60) ≤ sumA (l.take m) ∧ sumA (l.take m) ≤ 20000000000000 * 60 := fun m => by
     have := sumA_box (l := l.take m) (fun p hp => (hPl.out p (List.mem_of_mem_take hp)).2)
     rw [List.length_take] at this
     omega
    have hz1 := hb1 k
    rw [← hz.out] at hz1 hst
    clear hb1
    generalize l[k] = p at *
    obtain ⟨b, o, rfl, hbl, c0, c1⟩ := plo_at (hrows.out.below hI.out.bel) hk'
    obtain ⟨g, hg⟩ : ∃ g, Cal.areaP p.ps = g := ⟨_, rfl⟩
    have hPp := Lib.hid hp.1
    have hgb := hp.2
    rw [hg] at hgb hst
    replace hg := Lib.hid hg
    have hz2 : Hid (z + g = sumA (l.take (k + 1))) := hst.symm
    clear hst hp hk' hz
    have lt0 := hI.out.a.lt
    go_wp2_with (go_at_call 76; refine (area_any p.V p.d p.ps _ (hPp.out.below (below_step hI.out.bel (below_alloc _ _))).v.pts).mono ?_; rintro e0 wm ⟨rfl, hbn⟩; rw [hg.out]; replace hI := Lib.hid ((hI.out.below (below_alloc _ _)).below hbn); clear hbn lt0)
    go_roundw
    case rel => exact ⟨k + 1, z + g, by omega, by go_num, by go_num, hz2, hI⟩
    case measure => simp [intOf]; omega
   ·obtain rfl : k = l.length := by omega
    replace hz : Hid (z = sumA l) := by show _ = _; rw [hz.out, List.take_length]
    go_wp2_with fail
    go_ret2
    exact ⟨by rw [← hz.out]; rfl, hI.out.bel⟩
 ·have hg : gapS s = 0 := by unfold gapS; rw [if_neg h0]
  rw [hg]
  obtain ⟨R, hR⟩ : ∃ R, sectE s.name s.ps s.l = R := ⟨_, rfl⟩
  rw [hR] at h0 hcs
  rw [hR]
  obtain ⟨R1, R2, R3⟩ := R
  dsimp only at h0 hcs ⊢
  clear hR hg hS
  (have a0 := hI.out.a.c 0 _ rfl; have a1 := hI.out.a.c 1 _ rfl; have a2 := hI.out.a.c 2 _ rfl)
  go_enter Try.func38, Try.ntmps38
  go_wp2_with (go_at_call 37; clear a0 a1 a2; refine (hcs.out _ hI.out).mono ?_; rintro e0 wn ⟨rfl, hbn⟩; replace hI := Lib.hid (hI.out.below hbn); clear hbn)
  go_ret2
  exact ⟨rfl, hI.out.bel.trans (below_alloc _ _ |>.mono (by have := hI.out.bel.size; omega))⟩
end Go.Proofs.Ytfcjeejhdklkdaa
namespace Go.Proofs.Ytfcjeejhdklkdaa
open Go Go.RowKit Go.Shelf
def fieldS (A1 A2 A3 S : Option Addr) : Sct := ⟨⟨#[115]⟩, A1, 4, Cal.boxP 0 0 100 100, S, 2, [⟨⟨#[97]⟩, A2, 4, Cal.boxP 0 0 50 100⟩, ⟨⟨#[98]⟩, A3, 4, Cal.boxP 50 0 100 50⟩]⟩
theorem field_zero (A1 A2 A3 S : Option Addr) : (sectE (fieldS A1 A2 A3 S).name (fieldS A1 A2 A3 S).ps (fieldS A1 A2 A3 S).l).2.2 = 0 := by kernel_rfl
theorem field_gap (A1 A2 A3 S : Option Addr) : gapS (fieldS A1 A2 A3 S) = 5000 := by kernel_rfl
theorem secSize1 : (Try.prog.info? 62).map (·.size) = some 3 := by kernel_rfl
theorem Field_any (w : World) : Calls Try.prog 46 #[] w fun e w' => ∃ A1 A2 A3 S, e = .returned (.agg #[.string ⟨#[115]⟩, .slice A1 4 4, .slice S 2 2]) ∧ SctR w' (fieldS A1 A2 A3 S) ∧ Below w.heap.size w w' := by
 have h1 := Lib.hid (BoxAt.new w #[.string ⟨#[]⟩, .slice none 0 0, .slice none 0 0] 62)
 have hb0 := Lib.hid (below_alloc w (.cells #[.string ⟨#[]⟩, .slice none 0 0, .slice none 0 0] 62))
 go_enter Try.func46, Try.ntmps46
 go_wp2_with fail
 refine (lawBox_any _ _ _ _ _).mono ?_
 rintro e w1 ⟨A1, rfl, hA1, hp1, hb1⟩
 have hx1 := Lib.hid (h1.out.below hb1)
 have hp1 := Lib.hid hp1
 have hs1 : Hid (w.heap.size < A1) := by
  show w.heap.size < A1
  have := hb0.out.size
  simp only [World.size_alloc] at hA1 this; omega
 have hb1 := Lib.hid (below_step hb0.out hb1)
 go_wp2_with fail
 refine (lawBox_any _ _ _ _ _).mono ?_
 rintro e w2 ⟨A2, rfl, hA2, hp2, hb2⟩
 have hx2 := Lib.hid (hx1.out.below hb2)
 have hp1 := Lib.hid (hp1.out.below hb2)
 have hp2 := Lib.hid hp2
 have hs2 : Hid (w.heap.size < A2) := by
  show w.heap.size < A2
  have := hx1.out.lt
  omega
 have hb2 := Lib.hid (below_step hb1.out hb2)
 go_wp2_with fail
 refine (lawBox_any _ _ _ _ _).mono ?_
 rintro e w3 ⟨A3, rfl, hA3, hp3, hb3⟩
 have hx3 := Lib.hid (hx2.out.below hb3)
 have hp1 := Lib.hid (hp1.out.below hb3)
 have hp2 := Lib.hid (hp2.out.below hb3)
 have hp3 := Lib.hid hp3
 have hs3 : Hid (w.heap.size < A3) := by
  show w.heap.size < A3
  have := hx2.out.lt
  omega
 have hb3 := Lib.hid (below_step hb2.out hb3)
 clear h1 hx1 hx2 hb1 hb2 hb0
 have hrow := Lib.hid (fun t => rows_new (m := 2) w3 [[.string ⟨#[97]⟩, .slice (some ⟨A2, 0, none⟩) 4 4], [.string ⟨#[98]⟩, .slice (some ⟨A3, 0, none⟩) 4 4]] (fun r hr => by simp at hr; rcases hr with rfl | rfl <;> rfl) #[.string ⟨#[97]⟩, .slice (some ⟨A2, 0, none⟩) 4 4, .string ⟨#[98]⟩, .slice (some ⟨A3, 0, none⟩) 4 4] rfl t)
 have hx4 := Lib.hid (fun t => hx3.out.below (below_alloc w3 (.cells #[.string ⟨#[97]⟩, .slice (some ⟨A2, 0, none⟩) 4 4, .string ⟨#[98]⟩, .slice (some ⟨A3, 0, none⟩) 4 4] t)))
 have hbl := Lib.hid (fun t => below_alloc w3 (.cells #[.string ⟨#[97]⟩, .slice (some ⟨A2, 0, none⟩) 4 4, .string ⟨#[98]⟩, .slice (some ⟨A3, 0, none⟩) 4 4] t))
 go_wp2_with (refine wpList_store_box rfl 62 (.tmp 0) (.tmp 7) rfl (w.heap.size) _ [.string ⟨#[115]⟩, .slice (some ⟨A1, 0, none⟩) 4 4, .slice (some ⟨w3.heap.size, 0, none⟩) 2 2] (by rfl) (by rfl) (hx4.out _) rfl secSize1 (by kernel_rfl) ?_; intro w5 h5 hg5)
 (try simp only [Exit.inBlock, Exit.then])
 have hal := below_alloc w3 (.cells #[.string ⟨#[97]⟩, .slice (some ⟨A2, 0, none⟩) 4 4, .string ⟨#[98]⟩, .slice (some ⟨A3, 0, none⟩) 4 4] 73)
 have hb45 := below_of_grownB (below_step hb3.out hal) hg5 (Nat.le_refl _)
 have z1 := hs1.out
 have z2 := hs2.out
 have z3 := hs3.out
 have hps : ∀ b ps, PtsR w3 (some ⟨b, 0, none⟩) ps → b ≠ w.heap.size → PtsR w5 (some ⟨b, 0, none⟩) ps := fun b ps h hne => (h.below hal).far hg5 hne
 have k1 := hps A1 _ hp1.out (by omega)
 have k2 := hps A2 _ hp2.out (by omega)
 have k3 := hps A3 _ hp3.out (by omega)
 have k4 := (hrow.out 73).farI hg5 (fun a e => by cases e; exact fun h => by have := Option.some.inj h; dsimp only at this; have := hx3.out.lt; omega)
 refine bodyPost_ret (results_mid1 rfl _ _ (w.heap.size) [.string ⟨#[115]⟩, .slice (some ⟨A1, 0, none⟩) 4 4, .slice (some ⟨w3.heap.size, 0, none⟩) 2 2] _ rfl h5.range Try.underlying62 rfl secSize1) rfl ⟨_, some ⟨A2, 0, none⟩, some ⟨A3, 0, none⟩, _, rfl, ⟨show (1 : Nat) ≤ maxLen by decide, k1, .inl (show (4 : Nat) ≤ 10 by decide), ⟨k4, show (2 : Nat) ≤ 1000000 by decide, ?_, ?_⟩, Nat.le_refl _, ?_⟩, hb45⟩
 ·intro p hp
  rcases List.mem_cons.1 hp with rfl | hp
  ·exact k2
  ·rw [List.mem_singleton.1 hp]; exact k3
 ·intro p hp
  rcases List.mem_cons.1 hp with rfl | hp
  ·exact show (1 : Nat) ≤ maxLen by decide
  ·rw [List.mem_singleton.1 hp]; exact show (1 : Nat) ≤ maxLen by decide
 ·intro p hp
  rcases List.mem_cons.1 hp with rfl | hp
  ·exact .inl (show (4 : Nat) ≤ 10 by decide)
  ·rw [List.mem_singleton.1 hp]; exact .inl (show (4 : Nat) ≤ 10 by decide)
end Go.Proofs.Ytfcjeejhdklkdaa
namespace Go.Proofs.Ytfcjeejhdklkdaa
open Go Go.RowKit Go.Shelf
theorem ex_heights : Cal.netE 3 (triLevs 2) = 0 ∧ (Cal.heightsP 2 (triLevs 2)).length = 3 ∧ (Cal.heightsP 2 (triLevs 2))[1]? = some (512, 5) := by decide +kernel
theorem ex_bord : bordE (Cal.boxP 0 0 50 100) (Cal.boxP 50 0 100 50) = 0 := by decide +kernel
theorem ex_bord2 : (Cal.borderP (Cal.boxP 0 0 50 100) (Cal.boxP 50 0 100 50)).map sdR = [[.int .i64 50, .int .i64 0, .int .i64 50, .int .i64 50]] := by kernel_rfl
theorem lawAwake_any (w : World) : Calls Try.prog 20 #[] w fun e w' => e = .returned (.bool true) ∧ Below w.heap.size w w' := by
 have hgap := Lib.hid (fun A1 A2 A3 S W (h : SctR W (fieldS A1 A2 A3 S)) => by
  have := Gap_any (fieldS A1 A2 A3 S) W h
  rw [field_zero, field_gap] at this
  exact this)
 have hhts := Lib.hid (fun A c W (h : Levs W A (triLevs 2)) => by
  have := Heights_any 3 A c (triLevs 2) W h
  rw [ex_heights.1, if_pos rfl] at this
  exact this)
 have hbor := Lib.hid (fun A B c d W (h : PtsR W A (Cal.boxP 0 0 50 100)) (h2 : PtsR W B (Cal.boxP 50 0 100 50)) => by
  have := Border_any A B c d _ _ W h h2 (fun _ => by decide) (fun _ => by decide)
  rw [ex_bord] at this
  unfold bordL at this
  rw [if_pos rfl, ex_bord2] at this
  exact this)
 go_enter Try.func20, Try.ntmps20
 go_wp2_with fail
 refine (Field_any _).mono ?_
 rintro e w1 ⟨A1, A2, A3, S, rfl, hS1, hb1⟩
 have hS1 := Lib.hid hS1
 have hb1 := Lib.hid hb1
 go_wp2_with fail
 refine (hgap.out A1 A2 A3 S _ hS1.out).mono ?_
 rintro e w2 ⟨rfl, hb2⟩
 have hb2 := Lib.hid (below_step hb1.out hb2)
 clear hS1 hgap hb1
 go_wp2_with fail
 refine (lawTri_any _ _).mono ?_
 rintro e w3 ⟨A4, rfl, hL, hb3⟩
 have hL := Lib.hid hL
 have hb3 := Lib.hid (below_step hb2.out hb3)
 go_wp2_with fail
 refine (hhts.out A4 3 _ hL.out).mono ?_
 rintro e w4 ⟨v4, rfl, ho4, hb4⟩
 obtain ⟨A5, c5, rfl, hr5⟩ := ho4.form
 have hr5 := Lib.hid hr5
 have hb4 := Lib.hid (below_step hb3.out hb4)
 rw [List.length_map, show (Cal.heightsP ((3 : Int).toNat - 1) (triLevs 2)).length = 3 from ex_heights.2.1]
 clear hL hhts hb2 hb3 ho4
 go_wp2_with fail
 refine (lawBox_any _ _ _ _ _).mono ?_
 rintro e w5 ⟨B1, rfl, _, hp1, hb5⟩
 have hp1 := Lib.hid hp1
 have hr5 := Lib.hid (hr5.out.below hb5)
 have hb5 := Lib.hid (below_step hb4.out hb5)
 go_wp2_with fail
 refine (lawBox_any _ _ _ _ _).mono ?_
 rintro e w6 ⟨B2, rfl, _, hp2, hb6⟩
 have hp2 := Lib.hid hp2
 have hp1 := Lib.hid (hp1.out.below hb6)
 have hr5 := Lib.hid (hr5.out.below hb6)
 have hb6 := Lib.hid (below_step hb5.out hb6)
 go_wp2_with fail
 refine (hbor.out _ _ _ _ _ hp1.out hp2.out).mono ?_
 rintro e w7 ⟨v7, rfl, ho7, hb7⟩
 obtain ⟨A7, c7, rfl, hr7⟩ := ho7.form
 obtain ⟨b7, o7, rfl, hl7, hc7⟩ := hr7 0 _ rfl
 have d0 : w7.cell? ⟨b7, o7, none⟩ = some (.int .i64 50) := hc7 0 _ rfl
 have d1 : w7.cell? ⟨b7, o7 + 1, none⟩ = some (.int .i64 0) := by have this := hc7 1 _ rfl; rw [Nat.zero_mul, Nat.zero_add] at this; exact this
 have d2 : w7.cell? ⟨b7, o7 + 2, none⟩ = some (.int .i64 50) := by have this := hc7 2 _ rfl; rw [Nat.zero_mul, Nat.zero_add] at this; exact this
 have d3 : w7.cell? ⟨b7, o7 + 3, none⟩ = some (.int .i64 50) := by have this := hc7 3 _ rfl; rw [Nat.zero_mul, Nat.zero_add] at this; exact this
 have hr5 := hr5.out.below hb7
 obtain ⟨b5, o5, rfl, hl5, hc5⟩ := hr5 1 (frR (512, 5)) (by rw [List.getElem?_map, show (Cal.heightsP ((3 : Int).toNat - 1) (triLevs 2))[1]? = some (512, 5) from ex_heights.2.2]; rfl)
 have e0 : w7.cell? ⟨b5, o5 + 2, none⟩ = some (.int .i64 512) := hc5 0 _ rfl
 have e1 : w7.cell? ⟨b5, o5 + 3, none⟩ = some (.int .i64 5) := hc5 1 _ rfl
 have hb7 := Lib.hid (below_step hb6.out hb7)
 clear hp1 hp2 hbor hb4 hb5 hb6 hr5 hr7 hc7 hc5 ho7
 go_wp2_with fail
 go_ret
 exact ⟨rfl, hb7.out⟩
end Go.Proofs.Ytfcjeejhdklkdaa
namespace Go.Proofs.Ytfcjeejhdklkdaa
open Go Go.RowKit Go.Shelf
theorem few2_any (V : Option Addr) (n d : Nat) (w : World) : Calls Try.prog 26 #[.slice V n d] w fun e w' => e = .returned (.bool (fewL n)) ∧ Below w.heap.size w w' := by
 by_cases hn : n ≤ 1000000
 ·exact few_any V n d w hn
 ·have hf : Hid (fewL n = false) := by show _ = _; unfold fewL; rw [decide_eq_false (by omega), decide_eq_false (by omega : ¬ n ≤ 60)]; simp
  have hi : ¬ (n : Int) ≤ 10 := by omega
  have hi2 : (40 : Int) < n := by omega
  have hi3 : ¬ (n : Int) ≤ 60 := by omega
  go_enter Try.func26, Try.ntmps26
  go_wp2_with fail
  go_ret
  exact ⟨by rw [hf.out]; rfl, blw⟩
theorem fewL_le {n : Nat} (h : fewL n = true) : n ≤ 60 := by
 unfold fewL at h
 rw [Bool.or_eq_true, Bool.and_eq_true, decide_eq_true_iff, decide_eq_true_iff, decide_eq_true_iff] at h
 omega
theorem ptsR_of {w : World} {V : Option Addr} {ps : List Pt} (h : RowsAt w V 2 (ps.map ptR)) (hl : ps.length ≤ 1000000) : PtsR w V ps :=
 ⟨h, hl, fun ad e h0 => by
  obtain ⟨b, o, hA, hb, _⟩ := h 0 (ptR ps[0]) (by simp [h0])
  rw [e] at hA
  cases hA
  exact hb⟩
end Go.Proofs.Ytfcjeejhdklkdaa
namespace Go.Proofs.Ytfcjeejhdklkdaa
open Go Go.RowKit Go.Shelf
theorem polyE_40 {ps : List Pt} (h : Cal.polyE ps = 0) : ps.length ≤ 40 := by
 unfold Cal.polyE at h
 split at h
 ·cases h
 ·omega
theorem few_le {ps : List Pt} (hf : fewL ps.length = true) (h : Cal.polyE ps = 0) : ps.length ≤ 10 := by
 have h4 := polyE_40 h
 unfold fewL at hf
 rw [Bool.or_eq_true, Bool.and_eq_true, decide_eq_true_iff, decide_eq_true_iff, decide_eq_true_iff] at hf
 omega
end Go.Proofs.Ytfcjeejhdklkdaa
namespace Go.Proofs.Ytfcjeejhdklkdaa
namespace Geo
abbrev PL := List (Nat × (Nat → RP))
def windS (q : RP) : PL → Int
 | [] => 0
 | p :: l => wind p.1 p.2 q + windS q l
def areaS : PL → Rat
 | [] => 0
 | p :: l => area2 p.1 p.2 + areaS l
def momS (c : Rat) : PL → Rat
 | [] => 0
 | p :: l => mom (cutsTo p.2 c p.1) + momS c l
def cutsS (c : Rat) : PL → List (Rat × Int)
 | [] => []
 | p :: l => negL (cutsTo p.2 c p.1) ++ cutsS c l
theorem phi_cutsS (x c : Rat) : ∀ l : PL, phi (cutsS c l) x = - windS ⟨x, c⟩ l
 | [] => rfl
 | p :: l => by
  show phi (negL (cutsTo p.2 c p.1) ++ cutsS c l) x = -(wind p.1 p.2 ⟨x, c⟩ + windS ⟨x, c⟩ l)
  rw [phi_append, phi_neg, phi_cuts, phi_cutsS x c l]; omega
theorem mom_cutsS (c : Rat) : ∀ l : PL, mom (cutsS c l) = - momS c l
 | [] => by simp only [cutsS, mom, momS]; grind
 | p :: l => by
  show mom (negL (cutsTo p.2 c p.1) ++ cutsS c l) = -(mom (cutsTo p.2 c p.1) + momS c l)
  rw [mom_append, mom_neg, mom_cutsS c l]; grind
theorem tot_cutsS (c : Rat) : ∀ l : PL, (∀ p ∈ l, p.2 p.1 = p.2 0) → tot (cutsS c l) = 0
 | [], _ => rfl
 | p :: l, h => by
  show tot (negL (cutsTo p.2 c p.1) ++ cutsS c l) = 0
  rw [tot_append, tot_neg, tot_cuts0 (h p (List.mem_cons_self ..)), tot_cutsS c l (fun q hq => h q (List.mem_cons_of_mem _ hq))]; rfl
theorem mem_cutsS {c : Rat} {x : Rat} : ∀ {l : PL}, (∀ e ∈ cutsS c l, x ≠ e.1) → ∀ p ∈ l, ∀ e ∈ cutsTo p.2 c p.1, x ≠ e.1
 | [], _, p, hp => by cases hp
 | q :: l, h, p, hp => by
  have h' : ∀ e ∈ negL (cutsTo q.2 c q.1) ++ cutsS c l, x ≠ e.1 := h
  rcases List.mem_cons.1 hp with e | hp
  ·rw [e]
   exact mem_negL.1 fun e he => h' e (List.mem_append_left _ he)
  ·exact mem_cutsS (fun e he => h' e (List.mem_append_right _ he)) p hp
structure Whole (M : Int) (p : Nat × (Nat → RP)) : Prop where
 per : p.2 p.1 = p.2 0
 int : ∀ i, i ≤ p.1 → ∃ y : Int, (p.2 i).y = y ∧ -M ≤ y ∧ y < M
theorem areaS_slabs {M : Int} : ∀ l : PL, (∀ p ∈ l, Whole M p) → areaS l = 2 * sumQ (fun k => momS (slab M k) l) (2 * M).toNat
 | [], _ => by
  have z : ∀ n, sumQ (fun _ => (0 : Rat)) n = 0 := fun n => by
   induction n with
   | zero => rfl
   | succ n ih => simp only [sumQ, ih]; grind
  show (0 : Rat) = 2 * sumQ (fun _ => (0 : Rat)) _
  rw [z]; grind
 | p :: l, h => by
  show area2 p.1 p.2 + areaS l = 2 * sumQ (fun k => mom (cutsTo p.2 (slab M k) p.1) + momS (slab M k) l) _
  have hp := h p (List.mem_cons_self ..)
  rw [sumQ_add, areaS_slabs l (fun q hq => h q (List.mem_cons_of_mem _ hq)), area_slabs hp.per hp.int]
  grind
theorem Whole.cor {M : Int} {p : Nat × (Nat → RP)} (h : Whole M p) (k : Nat) : ∀ i, i ≤ p.1 → (p.2 i).y ≠ slab M k := fun i hi e => by
 obtain ⟨y, ey, _, _⟩ := h.int i hi
 rw [ey] at e
 exact slab_off M y k e
def OffS (l : PL) (q : RP) : Prop := ∀ p ∈ l, Off p.1 p.2 q
theorem fit_line {M : Int} {b : Nat × (Nat → RP)} {l : PL} (hb : Whole M b) (hl : ∀ p ∈ l, Whole M p) (k : Nat) (h : ∀ q, Off b.1 b.2 q → OffS l q → windS q l ≤ wind b.1 b.2 q) :
  0 ≤ mom (cutsTo b.2 (slab M k) b.1) - momS (slab M k) l ∧ (mom (cutsTo b.2 (slab M k) b.1) - momS (slab M k) l = 0 → ∀ x, Off b.1 b.2 ⟨x, slab M k⟩ → OffS l ⟨x, slab M k⟩ → windS ⟨x, slab M k⟩ l = wind b.1 b.2 ⟨x, slab M k⟩) := by
 have ht : tot (cutsTo b.2 (slab M k) b.1 ++ cutsS (slab M k) l) = 0 := by
  rw [tot_append, tot_cuts0 hb.per, tot_cutsS _ l (fun p hp => (hl p hp).per)]; rfl
 have hphi : ∀ x, phi (cutsTo b.2 (slab M k) b.1 ++ cutsS (slab M k) l) x = wind b.1 b.2 ⟨x, slab M k⟩ - windS ⟨x, slab M k⟩ l := fun x => by
  rw [phi_append, phi_cuts, phi_cutsS]; omega
 have hmom : mom (cutsTo b.2 (slab M k) b.1 ++ cutsS (slab M k) l) = mom (cutsTo b.2 (slab M k) b.1) - momS (slab M k) l := by
  rw [mom_append, mom_cutsS]; grind
 obtain ⟨h1, h2⟩ := line_pos ht (fun x hx => by
  rw [hphi]
  have o1 : Off b.1 b.2 ⟨x, slab M k⟩ := off_of_cuts (hb.cor k) fun e he => hx e (List.mem_append_left _ he)
  have o2 : OffS l ⟨x, slab M k⟩ := fun p hp => off_of_cuts ((hl p hp).cor k) (mem_cutsS (fun e he => hx e (List.mem_append_right _ he)) p hp)
  have := h _ o1 o2
  omega)
 rw [hmom] at h1 h2
 refine ⟨h1, fun hz x o1 o2 => ?_⟩
 have off_cut : ∀ p : Nat × (Nat → RP), Whole M p → Off p.1 p.2 ⟨x, slab M k⟩ → ∀ e ∈ cutsTo p.2 (slab M k) p.1, x ≠ e.1 := fun p hp ho e he hx => by
  obtain ⟨i, hi, hd, rfl⟩ := mem_cuts he
  obtain ⟨t, t0, t1, et⟩ := cut_on hd (hp.cor k i (by omega)) (hp.cor k (i + 1) (by omega))
  exact ho i t hi (by grind) (by grind) (by rw [← et, hx])
 have all : ∀ l : PL, (∀ p ∈ l, Whole M p) → OffS l ⟨x, slab M k⟩ → ∀ e ∈ cutsS (slab M k) l, x ≠ e.1 := fun l => by
  induction l with
  | nil => intro _ _ e he; cases he
  | cons p l ih =>
   intro hl ho e he
   have he' : e ∈ negL (cutsTo p.2 (slab M k) p.1) ++ cutsS (slab M k) l := he
   rcases List.mem_append.1 he' with h | h
   ·exact mem_negL.2 (off_cut p (hl p (List.mem_cons_self ..)) (ho p (List.mem_cons_self ..))) e h
   ·exact ih (fun q hq => hl q (List.mem_cons_of_mem _ hq)) (fun q hq => ho q (List.mem_cons_of_mem _ hq)) e h
 have := h2 hz x (fun e he => by
  rcases List.mem_append.1 he with h | h
  ·exact off_cut b hb o1 e h
  ·exact all l hl o2 e h)
 rw [hphi] at this
 omega
theorem fit_area {M : Int} {b : Nat × (Nat → RP)} {l : PL} (hb : Whole M b) (hl : ∀ p ∈ l, Whole M p) (h : ∀ q, Off b.1 b.2 q → OffS l q → windS q l ≤ wind b.1 b.2 q) :
  areaS l ≤ area2 b.1 b.2 ∧ (areaS l = area2 b.1 b.2 → ∀ k, k < (2 * M).toNat → ∀ x, Off b.1 b.2 ⟨x, slab M k⟩ → OffS l ⟨x, slab M k⟩ → windS ⟨x, slab M k⟩ l = wind b.1 b.2 ⟨x, slab M k⟩) := by
 have e1 := areaS_slabs l hl
 have e2 := area_slabs hb.per hb.int
 have hsub : sumQ (fun k => mom (cutsTo b.2 (slab M k) b.1) - momS (slab M k) l) (2 * M).toNat = sumQ (fun k => mom (cutsTo b.2 (slab M k) b.1)) (2 * M).toNat - sumQ (fun k => momS (slab M k) l) (2 * M).toNat := by
  have sub : ∀ (f g : Nat → Rat) (n : Nat), sumQ (fun k => f k - g k) n = sumQ f n - sumQ g n := fun f g n => by
   induction n with
   | zero => simp only [sumQ]; grind
   | succ n ih => simp only [sumQ, ih]; grind
  exact sub _ _ _
 obtain ⟨h1, h2⟩ := sumQ_nonneg (f := fun k => mom (cutsTo b.2 (slab M k) b.1) - momS (slab M k) l) (n := (2 * M).toNat) (fun k _ => (fit_line hb hl k h).1)
 rw [hsub] at h1 h2
 refine ⟨by grind, fun he k hk x o1 o2 => ?_⟩
 exact (fit_line hb hl k h).2 (h2 (by grind) k hk) x o1 o2
def sclR (K : Rat) (q : RP) : RP := ⟨K * q.x, K * q.y⟩
def sclPoly (K : Rat) (P : Nat → RP) : Nat → RP := fun i => sclR K (P i)
section
variable {K : Rat} (hK : 0 < K)
include hK
theorem scl_le {a b : Rat} : K * a ≤ K * b ↔ a ≤ b := by
 constructor
 ·intro h
  have := nonneg_of_mul (x := b - a) hK (by grind)
  grind
 ·intro h
  have := mul_nn (a := K) (b := b - a) (by grind) (by grind)
  grind
theorem scl_lt {a b : Rat} : K * a < K * b ↔ a < b := by
 constructor
 ·intro h
  have := pos_of_mul (x := b - a) hK (by grind)
  grind
 ·intro h
  have := mul_pp (a := K) (b := b - a) hK (by grind)
  grind
theorem wc_scl (a b q : RP) : wc (sclR K a) (sclR K b) (sclR K q) = wc a b q := by
 have hc : crs (sclR K a) (sclR K b) (sclR K q) = (K * K) * crs a b q := by unfold crs sclR; dsimp only; grind
 have hKK := mul_pp hK hK
 have p1 : 0 < (K * K) * crs a b q ↔ 0 < crs a b q := ⟨fun h => pos_of_mul (k := K * K) hKK (by grind), fun h => mul_pp hKK h⟩
 have p2 : (K * K) * crs a b q < 0 ↔ crs a b q < 0 := ⟨fun h => neg_of_mul (k := K * K) hKK (by grind), fun h => by have := mul_pp (a := K * K) (b := - crs a b q) hKK (by grind); grind⟩
 unfold wc
 rw [hc]
 show (if K * a.y ≤ K * q.y then (if K * q.y < K * b.y then (if 0 < (K * K) * crs a b q then 1 else 0) else 0) else (if K * b.y ≤ K * q.y then (if (K * K) * crs a b q < 0 then -1 else 0) else 0)) = _
 simp only [scl_le hK, scl_lt hK, p1, p2]
theorem wind_scl (n : Nat) (P : Nat → RP) (q : RP) : wind n (sclPoly K P) (sclR K q) = wind n P q := by
 unfold wind
 exact sumZ_congr fun i _ => wc_scl hK _ _ _
omit hK in
theorem area_scl (n : Nat) (P : Nat → RP) : area2 n (sclPoly K P) = (K * K) * area2 n P := by
 unfold area2
 induction n with
 | zero => simp only [sumQ]; grind
 | succ n ih =>
  simp only [sumQ] at ih ⊢
  rw [ih]
  unfold sclPoly sclR
  grind
theorem off_scl {n : Nat} {P : Nat → RP} {q : RP} : Off n (sclPoly K P) (sclR K q) ↔ Off n P q := by
 have e : ∀ i l, sclR K (at' (P i) (P (i + 1)) l) = at' (sclPoly K P i) (sclPoly K P (i + 1)) l := fun i l => by
  unfold sclPoly sclR at'
  rw [RP.mk.injEq]
  constructor <;> grind
 have inj : ∀ a b : RP, sclR K a = sclR K b → a = b := fun a b h => by
  unfold sclR at h
  rw [RP.mk.injEq] at h
  cases a; cases b
  rw [RP.mk.injEq]
  dsimp only at *
  have hK0 : K ≠ 0 := by grind
  constructor <;> grind
 constructor
 ·intro h i l hi l0 l1 eq
  exact h i l hi l0 l1 (by rw [eq, e])
 ·intro h i l hi l0 l1 eq
  rw [← e] at eq
  exact h i l hi l0 l1 (inj _ _ eq)
end
theorem unit_below {z : Rat} (h0 : 0 ≤ z) : ∀ N : Nat, z < (N : Rat) → ∃ k : Nat, k < N ∧ (k : Rat) ≤ z ∧ z < (k : Rat) + 1
 | 0, h => by
  exfalso
  have : ((0 : Nat) : Rat) = 0 := rfl
  grind
 | N + 1, h => by
  by_cases hN : z < (N : Rat)
  ·obtain ⟨k, hk, h1, h2⟩ := unit_below h0 N hN
   exact ⟨k, by omega, h1, h2⟩
  ·refine ⟨N, by omega, by grind, ?_⟩
   have : ((N + 1 : Nat) : Rat) = (N : Rat) + 1 := by rw [Rat.natCast_add]; rfl
   grind
theorem fine {e : Rat} (he : 0 < e) : ∃ K : Nat, 1 ≤ K ∧ 1 < (K : Rat) * e := by
 have e1 : 1 / e * e = 1 := Rat.div_mul_cancel (by grind)
 obtain ⟨K, hK⟩ : ∃ K : Nat, 1 / e < (K : Rat) := by
  have h0 : 0 ≤ 1 / e := by
   refine nonneg_of_mul he ?_
   rw [e1]; decide
  refine ⟨(1 / e).ceil.toNat + 1, ?_⟩
  have h1 : 1 / e ≤ ((1 / e).ceil : Rat) := Rat.le_ceil
  have h2 : ((1 / e).ceil : Rat) ≤ (((1 / e).ceil.toNat : Nat) : Rat) := by
   have : (1 / e).ceil ≤ ((1 / e).ceil.toNat : Int) := by omega
   have h3 := Rat.intCast_le_intCast.2 this
   exact h3
  have h3 : (((1 / e).ceil.toNat + 1 : Nat) : Rat) = (((1 / e).ceil.toNat : Nat) : Rat) + 1 := by rw [Rat.natCast_add]; rfl
  grind
 generalize 1 / e = x at *
 refine ⟨K, ?_, ?_⟩
 ·refine Classical.byContradiction fun hn => ?_
  have : K = 0 := by omega
  subst this
  have h0 : ((0 : Nat) : Rat) = 0 := rfl
  rw [h0] at hK
  have := mul_pp (a := -x) (b := e) (by grind) he
  grind
 ·have := mul_pp (a := (K : Rat) - x) (b := e) (by grind) he
  grind
end Geo
end Go.Proofs.Ytfcjeejhdklkdaa
namespace Go.Proofs.Ytfcjeejhdklkdaa
namespace Cal
open Geo (RP at' Simple Pos In Out Off wind wc Near Whole windS areaS OffS sclR sclPoly slab)
def big : Int := 100001
theorem poly_whole {ps : List Pt} (h : polyE ps = 0) : Whole big (ps.length, ring ps) := by
 obtain ⟨hp, hb, _⟩ := polyE_poly h
 have h3 := hp.three
 refine ⟨?_, fun i _ => ?_⟩
 ·have := hp.simple.per 0
  rwa [Nat.zero_add] at this
 ·refine ring_bound (fun p hp => ?_) (by omega) i
  have := hb p hp
  unfold ptErr at this
  split at this
  ·cases this
  ·omega
theorem in_band {ps : List Pt} (h : polyE ps = 0) {q : RP} (hq : In ps.length (ring ps) q) : -(100001 : Rat) ≤ q.y ∧ q.y < 100001 := by
 have hw := poly_whole h
 have hb : ∀ i, i ≤ ps.length → -(100001 : Rat) ≤ (ring ps i).y ∧ (ring ps i).y < 100001 := fun i hi => by
  obtain ⟨y, ey, h1, h2⟩ := hw.int i hi
  have e : (ring ps i).y = (y : Rat) := ey
  rw [e]
  unfold big at h1 h2
  have a := Rat.intCast_le_intCast.2 h1
  have b := Rat.intCast_lt_intCast.2 h2
  constructor
  ·exact a
  ·exact b
 constructor
 ·refine Classical.byContradiction fun hn => ?_
  have h0 : wind ps.length (ring ps) q = 0 := Geo.wind_zero fun i hi => Geo.wc_low (by have := hb i (by omega); grind) (by have := hb (i + 1) (by omega); grind)
  rw [hq.2] at h0
  exact absurd h0 (by decide)
 ·refine Classical.byContradiction fun hn => ?_
  have h0 : wind ps.length (ring ps) q = 0 := Geo.wind_zero fun i hi => Geo.wc_high (by have := hb i (by omega); grind) (by have := hb (i + 1) (by omega); grind)
  rw [hq.2] at h0
  exact absurd h0 (by decide)
theorem whole_scl {p : Nat × (Nat → RP)} {M : Int} (h : Whole M p) {K : Nat} (hK : 1 ≤ K) : Whole ((K : Int) * M) (p.1, sclPoly (K : Rat) p.2) := by
 refine ⟨?_, fun i hi => ?_⟩
 ·show sclR _ _ = sclR _ _
  rw [h.per]
 ·obtain ⟨y, ey, h1, h2⟩ := h.int i hi
  refine ⟨(K : Int) * y, ?_, ?_, Int.mul_lt_mul_of_pos_left h2 (by omega)⟩
  ·show (K : Rat) * (p.2 i).y = _
   rw [ey, Rat.intCast_mul]
   rfl
  ·rw [← Int.mul_neg]
   exact Int.mul_le_mul_of_nonneg_left h1 (by omega)
section
variable {a b : List Pt}
theorem within_area (ha : polyE a = 0) (hb : polyE b = 0) (hw : Geo.Within a.length (ring a) b.length (ring b)) :
  areaP a ≤ areaP b ∧ (areaP a = areaP b → Geo.Within b.length (ring b) a.length (ring a)) := by
 have pa := (goodP_of ha).pos
 have pb := (goodP_of hb).pos
 have wa := poly_whole ha
 have wb := poly_whole hb
 have pt : ∀ q, Off a.length (ring a) q → Off b.length (ring b) q → wind a.length (ring a) q ≤ wind b.length (ring b) q := fun q o1 o2 => by
  rcases pa.two o1 with h | h
  ·rw [h.2, (hw q h).2]; exact Int.le_refl _
  ·rw [h.2]
   rcases pb.two o2 with h | h <;> rw [h.2] <;> decide
 have one := Geo.fit_area (b := (b.length, ring b)) (l := [(a.length, ring a)]) wb (fun p hp => by rw [List.mem_singleton.1 hp]; exact wa) (fun q o1 o2 => by
  show wind a.length (ring a) q + 0 ≤ wind b.length (ring b) q
  have := pt q (o2 _ (List.mem_singleton.2 rfl)) o1
  omega)
 have ea : areaS [(a.length, ring a)] = ((areaP a : Int) : Rat) := by
  show Geo.area2 a.length (ring a) + 0 = _
  rw [area2_ring]; grind
 have eb : Geo.area2 (b.length, ring b).1 (b.length, ring b).2 = ((areaP b : Int) : Rat) := area2_ring
 rw [ea, eb] at one
 refine ⟨Rat.intCast_le_intCast.1 one.1, fun heq q hq => Classical.byContradiction fun hno => ?_⟩
 obtain ⟨r, hr1, hr2⟩ : ∃ r, In b.length (ring b) r ∧ Out a.length (ring a) r := by
  by_cases ho : Off a.length (ring a) q
  ·rcases pa.two ho with h | h
   ·exact absurd h hno
   ·exact ⟨q, hq, h⟩
  ·obtain ⟨e, e0, he⟩ := hq.near pb.sim
   obtain ⟨i, l, hi, l0, l1, eq⟩ : ∃ i l, i < a.length ∧ (0 : Rat) ≤ l ∧ l ≤ 1 ∧ q = at' (ring a i) (ring a (i + 1)) l := by
    refine Classical.byContradiction fun hn => ho fun i l hi l0 l1 eq => hn ⟨i, l, hi, l0, l1, eq⟩
   obtain ⟨r, hr, ho⟩ := pa.border_out hi l0 l1 e0
   exact ⟨r, he r (by rw [eq]; exact hr), ho⟩
 obtain ⟨e1, e10, k1⟩ := hr1.near pb.sim
 obtain ⟨e2, e20, k2⟩ := hr2.near pa.sim
 obtain ⟨e, e0, ee1, ee2⟩ : ∃ e : Rat, 0 < e ∧ e ≤ e1 ∧ e ≤ e2 := by
  rcases Rat.le_total (a := e1) (b := e2) with h | h
  ·exact ⟨e1, e10, by grind, h⟩
  ·exact ⟨e2, e20, h, by grind⟩
 obtain ⟨K, hK1, hKe⟩ := Geo.fine e0
 have hK : (0 : Rat) < (K : Rat) := by
  have := Rat.natCast_le_natCast.2 hK1
  have h1 : ((1 : Nat) : Rat) = 1 := rfl
  grind
 have band := in_band hb hr1
 obtain ⟨k, hk, kl, kh⟩ := Geo.unit_below (z := (K : Rat) * r.y + (K : Rat) * 100001) (by
   have := Geo.mul_nn (a := (K : Rat)) (b := r.y + 100001) (by grind) (by grind)
   grind) (2 * ((K : Int) * big)).toNat (by
   have h2 : ((2 * ((K : Int) * big)).toNat : Rat) = 2 * ((K : Rat) * 100001) := by
    have e : (2 * ((K : Int) * big)).toNat = 2 * (K * 100001) := by unfold big; omega
    rw [e, Rat.natCast_mul, Rat.natCast_mul]
    rfl
   rw [h2]
   have := Geo.mul_pp (a := (K : Rat)) (b := 100001 - r.y) hK (by grind)
   grind)
 have hslab : slab ((K : Int) * big) k = (k : Rat) - (K : Rat) * 100001 + 1 / 2 := by
  rw [Geo.slab_eq, Rat.intCast_mul]
  rfl
 have hs1 : slab ((K : Int) * big) k - (K : Rat) * r.y ≤ 1 / 2 := by rw [hslab]; grind
 have hs2 : -(1 / 2) ≤ slab ((K : Int) * big) k - (K : Rat) * r.y := by rw [hslab]; grind
 generalize hc : slab ((K : Int) * big) k = c at *
 obtain ⟨y, hy⟩ : ∃ y : Rat, (K : Rat) * y = c := ⟨c / (K : Rat), by
  have := Rat.div_mul_cancel (a := c) (b := (K : Rat)) (by grind)
  grind⟩
 have hnear : Near e r ⟨r.x, y⟩ := by
  have h1 : (K : Rat) * (y - r.y) ≤ 1 / 2 := by grind
  have h2 : -(1 / 2) ≤ (K : Rat) * (y - r.y) := by grind
  unfold Near
  dsimp only
  refine ⟨by grind, by grind, ?_, ?_⟩
  ·refine Classical.byContradiction fun hn => ?_
   have := Geo.mul_nn (a := (K : Rat)) (b := - (y - r.y) - e) (by grind) (by grind)
   grind
  ·refine Classical.byContradiction fun hn => ?_
   have := Geo.mul_nn (a := (K : Rat)) (b := (y - r.y) - e) (by grind) (by grind)
   grind
 have i1 := k1 _ (hnear.mono ee1)
 have i2 := k2 _ (hnear.mono ee2)
 have esc : (⟨(K : Rat) * r.x, c⟩ : RP) = sclR (K : Rat) ⟨r.x, y⟩ := by unfold sclR; rw [hy]
 have two := Geo.fit_area (M := (K : Int) * big) (b := (b.length, sclPoly (K : Rat) (ring b))) (l := [(a.length, sclPoly (K : Rat) (ring a))]) (whole_scl wb hK1) (fun p hp => by rw [List.mem_singleton.1 hp]; exact whole_scl wa hK1) (fun q o1 o2 => by
  have o2' := o2 _ (List.mem_singleton.2 rfl)
  have hq : q = sclR (K : Rat) ⟨q.x / (K : Rat), q.y / (K : Rat)⟩ := by
   unfold sclR
   have h1 := Rat.div_mul_cancel (a := q.x) (b := (K : Rat)) (by grind)
   have h2 := Rat.div_mul_cancel (a := q.y) (b := (K : Rat)) (by grind)
   cases q
   rw [RP.mk.injEq]
   dsimp only at *
   constructor <;> grind
  rw [hq] at o1 o2' ⊢
  show wind a.length (sclPoly (K : Rat) (ring a)) _ + 0 ≤ wind b.length (sclPoly (K : Rat) (ring b)) _
  dsimp only at o1 o2'
  rw [Geo.wind_scl hK, Geo.wind_scl hK]
  rw [Geo.off_scl hK] at o1 o2'
  have := pt _ o2' o1
  omega)
 have harea : areaS [(a.length, sclPoly (K : Rat) (ring a))] = Geo.area2 b.length (sclPoly (K : Rat) (ring b)) := by
  show Geo.area2 a.length (sclPoly (K : Rat) (ring a)) + 0 = _
  rw [Geo.area_scl, Geo.area_scl, area2_ring, area2_ring, heq]; grind
 have hline := two.2 harea k hk ((K : Rat) * r.x)
 rw [hc, esc] at hline
 have := hline ((Geo.off_scl hK).2 i1.1) (fun p hp => by rw [List.mem_singleton.1 hp]; exact (Geo.off_scl hK).2 i2.1)
 have e3 : windS (sclR (K : Rat) ⟨r.x, y⟩) [(a.length, sclPoly (K : Rat) (ring a))] = wind a.length (ring a) ⟨r.x, y⟩ := by
  show wind a.length _ _ + 0 = _
  rw [Geo.wind_scl hK]; omega
 rw [e3, i2.2] at this
 have e4 : wind (b.length, sclPoly (K : Rat) (ring b)).1 (b.length, sclPoly (K : Rat) (ring b)).2 (sclR (K : Rat) ⟨r.x, y⟩) = 1 := by
  show wind b.length _ _ = 1
  rw [Geo.wind_scl hK]
  exact i1.2
 rw [e4] at this
 exact absurd this (by decide)
end
end Cal
end Go.Proofs.Ytfcjeejhdklkdaa
namespace Go.Proofs.Ytfcjeejhdklkdaa
open Go Go.RowKit Go.Shelf
theorem Cal.within_facts {a b : List Pt} (ha : Cal.polyE a = 0) (hb : Cal.polyE b = 0) (h : Cal.withinP a b = true) : Cal.overlapP a b = true ∧ Cal.areaP a ≤ Cal.areaP b ∧ (Cal.areaP a == Cal.areaP b) = Cal.withinP b a := by
 have hw := (Cal.within_in ha hb).1 h
 obtain ⟨h1, h2⟩ := Cal.within_area ha hb hw
 have hP := (Cal.polyE_pos ha).1
 have h3 := hP.sim.three
 refine ⟨(Cal.overlap_over ha hb).2 ?_, h1, ?_⟩
 ·obtain ⟨q, _, hq⟩ := hP.border_in (i := 0) (by omega) (l := 0) (by grind) (by grind) (e := 1) (by grind)
  exact ⟨q, hq, hw q hq⟩
 ·rw [Bool.eq_iff_iff, beq_iff_eq, Cal.within_in hb ha]
  exact ⟨h2, fun h4 => Int.le_antisymm h1 (Cal.within_area hb ha h4).1⟩
theorem GroundWithins_any (V : Option Addr) (d : Nat) (a : List Pt) (V2 : Option Addr) (d2 : Nat) (c : List Pt) (w : World) (hR : RowsAt w V 2 (a.map ptR)) (hd : a.length ≤ d) (hR2 : RowsAt w V2 2 (c.map ptR)) :
  Calls Try.prog 8 #[.slice V a.length d, .slice V2 c.length d2] w fun e w' => e = .returned (.bool true) ∧ Below w.heap.size w w' := by
 have hf1 := Lib.hid (fun W => few2_any V a.length d W)
 have hf2 := Lib.hid (fun W => few2_any V2 c.length d2 W)
 cases h1 : fewL a.length
 ·rw [h1] at hf1
  clear hR hR2 hf2 h1
  go_enter Try.func8, Try.ntmps8
  go_wp2_with (first | (go_at_call 20; refine (lawAwake_any _).mono ?_; rintro e w1 ⟨rfl, hb1⟩; replace hb1 := Lib.hid hb1) | (go_at_call 26; refine (hf1.out _).mono ?_; rintro e w2 ⟨rfl, hb2⟩; replace hb2 := Lib.hid (below_step hb1.out hb2); clear hf1))
  go_ret
  exact ⟨rfl, hb2.out⟩
 cases h2 : fewL c.length
 ·rw [h1] at hf1
  rw [h2] at hf2
  clear hR hR2 h1 h2
  go_enter Try.func8, Try.ntmps8
  go_wp2_with (first | (go_at_call 20; refine (lawAwake_any _).mono ?_; rintro e w1 ⟨rfl, hb1⟩; replace hb1 := Lib.hid hb1) | (go_at_call 26; refine (hf1.out _).mono ?_; rintro e w2 ⟨rfl, hb2⟩; replace hb2 := Lib.hid (below_step hb1.out hb2); clear hf1) | (go_at_call 26; refine (hf2.out _).mono ?_; rintro e w3 ⟨rfl, hb3⟩; replace hb3 := Lib.hid (below_step hb2.out hb3); clear hf2))
  go_ret
  exact ⟨rfl, hb3.out⟩
 have hA := ptsR_of hR (by have := fewL_le h1; omega)
 have hC := ptsR_of hR2 (by have := fewL_le h2; omega)
 have hwi := Lib.hid (fun W (hb : Below w.heap.size w W) => WithinX_any V V2 d d2 a c W (hA.below hb) (hC.below hb) (few_le h1) (few_le h2))
 have hwb := Lib.hid (fun W (hb : Below w.heap.size w W) => WithinX_any V2 V d2 d c a W (hC.below hb) (hA.below hb) (few_le h2) (few_le h1))
 have hov := Lib.hid (fun W (hb : Below w.heap.size w W) => OverlapX_any V V2 d d2 a c W (hA.below hb) (hC.below hb) (few_le h1) (few_le h2))
 have htw := Lib.hid (fun W (hb : Below w.heap.size w W) => two_any V V2 d d2 a c W (hA.below hb) (hC.below hb))
 rw [h1] at hf1
 rw [h2] at hf2
 by_cases h0 : brdE a c = 0
 ·have hp := brdE_eq a c
  rw [h0] at hp
  have ha : Cal.polyE a = 0 := by
   split at hp
   ·assumption
   ·rename_i h; exact absurd hp.symm h
  have hc : Cal.polyE c = 0 := by rw [if_pos ha] at hp; exact hp.symm
  have h02 : brdE c a = 0 := by rw [brdE_eq, if_pos hc, ha]
  have hr : Cal.withinR a c = Cal.withinP a c := by
   rw [Bool.eq_iff_iff, Cal.withinR_in ha hc, Cal.within_in ha hc]
  have hrw := Lib.hid (fun W (hb : Below w.heap.size w W) => WithinR_any V d a V2 d2 c W (hA.below hb) hd (hC.below hb) ha hc)
  have hga := hA.plg ha (few_le h1 ha)
  have hgc := hC.plg hc (few_le h2 hc)
  have hd1 := Lib.hid (fun W (hb : Below w.heap.size w W) => DoubleR_any V d a W (hga.v.pts.below hb) (by have := hga.len; omega))
  have hd2' := Lib.hid (fun W (hb : Below w.heap.size w W) => DoubleR_any V2 d2 c W (hgc.v.pts.below hb) (by have := hgc.len; omega))
  have hfac := Lib.hid (Cal.within_facts ha hc)
  rw [hr] at hrw
  rw [h0, if_pos rfl] at hwi hov
  rw [h02, if_pos rfl] at hwb
  rw [h0] at htw
  clear hp ha hc h0 h02 hr hga hgc hA hC hR hR2 h1 h2
  generalize Cal.withinP a c = U at *
  generalize Cal.withinP c a = B at *
  generalize Cal.overlapP a c = O at *
  generalize Cal.areaP a = m at *
  generalize Cal.areaP c = n at *
  cases U
  ·clear hfac
   go_enter Try.func8, Try.ntmps8
   go_wp2_with (first
    |(go_at_call 20; refine (lawAwake_any _).mono ?_; rintro e w1 ⟨rfl, hb1⟩; replace hb1 := Lib.hid hb1)
    |(go_at_call 26; refine (hf1.out _).mono ?_; rintro e w2 ⟨rfl, hb2⟩; replace hb2 := Lib.hid (below_step hb1.out hb2); clear hf1)
    |(go_at_call 26; refine (hf2.out _).mono ?_; rintro e w3 ⟨rfl, hb3⟩; replace hb3 := Lib.hid (below_step hb2.out hb3); clear hf2)
    |(go_at_call 33; refine (hwi.out _ hb3.out).mono ?_; clear hwi; rintro e w4 ⟨rfl, hb4⟩; replace hb4 := Lib.hid (below_step hb3.out hb4))
    |(go_at_call 28; refine (htw.out _ hb4.out).mono ?_; clear htw; rintro e w5 ⟨rfl, hb5⟩; replace hb5 := Lib.hid (below_step hb4.out hb5))
    |(go_at_call 34; refine (hrw.out _ hb5.out).mono ?_; clear hrw; rintro e w6 ⟨rfl, hb6⟩; replace hb6 := Lib.hid (below_step hb5.out hb6))
    |(go_at_call 32; refine (hov.out _ hb6.out).mono ?_; clear hov; rintro e w7 ⟨rfl, hb7⟩; replace hb7 := Lib.hid (below_step hb6.out hb7))
    |(go_at_call 33; refine (hwb.out _ hb7.out).mono ?_; clear hwb; rintro e w8 ⟨rfl, hb8⟩; replace hb8 := Lib.hid (below_step hb7.out hb8))
    |(go_at_call 35; refine (hd1.out _ hb8.out).mono ?_; clear hd1; rintro e w9 ⟨rfl, hb9⟩; replace hb9 := Lib.hid (below_step hb8.out hb9))
    |(go_at_call 35; refine (hd2'.out _ hb9.out).mono ?_; clear hd2'; rintro e w10 ⟨rfl, hb10⟩; replace hb10 := Lib.hid (below_step hb9.out hb10)))
   go_ret
   exact ⟨rfl, hb10.out⟩
  ·obtain ⟨rfl, hle, hmn⟩ := hfac.out rfl
   clear hfac
   by_cases he : m = n
   ·subst he
    rw [beq_self_eq_true] at hmn
    subst hmn
    go_enter Try.func8, Try.ntmps8
    go_wp2_with (first
     |(go_at_call 20; refine (lawAwake_any _).mono ?_; rintro e w1 ⟨rfl, hb1⟩; replace hb1 := Lib.hid hb1)
     |(go_at_call 26; refine (hf1.out _).mono ?_; rintro e w2 ⟨rfl, hb2⟩; replace hb2 := Lib.hid (below_step hb1.out hb2); clear hf1)
     |(go_at_call 26; refine (hf2.out _).mono ?_; rintro e w3 ⟨rfl, hb3⟩; replace hb3 := Lib.hid (below_step hb2.out hb3); clear hf2)
     |(go_at_call 33; refine (hwi.out _ hb3.out).mono ?_; clear hwi; rintro e w4 ⟨rfl, hb4⟩; replace hb4 := Lib.hid (below_step hb3.out hb4))
     |(go_at_call 28; refine (htw.out _ hb4.out).mono ?_; clear htw; rintro e w5 ⟨rfl, hb5⟩; replace hb5 := Lib.hid (below_step hb4.out hb5))
     |(go_at_call 34; refine (hrw.out _ hb5.out).mono ?_; clear hrw; rintro e w6 ⟨rfl, hb6⟩; replace hb6 := Lib.hid (below_step hb5.out hb6))
     |(go_at_call 32; refine (hov.out _ hb6.out).mono ?_; clear hov; rintro e w7 ⟨rfl, hb7⟩; replace hb7 := Lib.hid (below_step hb6.out hb7))
     |(go_at_call 33; refine (hwb.out _ hb7.out).mono ?_; clear hwb; rintro e w8 ⟨rfl, hb8⟩; replace hb8 := Lib.hid (below_step hb7.out hb8))
     |(go_at_call 35; refine (hd1.out _ hb8.out).mono ?_; clear hd1; rintro e w9 ⟨rfl, hb9⟩; replace hb9 := Lib.hid (below_step hb8.out hb9))
     |(go_at_call 35; refine (hd2'.out _ hb9.out).mono ?_; clear hd2'; rintro e w10 ⟨rfl, hb10⟩; replace hb10 := Lib.hid (below_step hb9.out hb10)))
    go_ret
    exact ⟨by simp, hb10.out⟩
   ·have hnb : (m == n) = false := by simpa using he
    rw [hnb] at hmn
    subst hmn
    have hle2 := Lib.hid hle
    go_enter Try.func8, Try.ntmps8
    go_wp2_with (first
     |(go_at_call 20; refine (lawAwake_any _).mono ?_; rintro e w1 ⟨rfl, hb1⟩; replace hb1 := Lib.hid hb1)
     |(go_at_call 26; refine (hf1.out _).mono ?_; rintro e w2 ⟨rfl, hb2⟩; replace hb2 := Lib.hid (below_step hb1.out hb2); clear hf1)
     |(go_at_call 26; refine (hf2.out _).mono ?_; rintro e w3 ⟨rfl, hb3⟩; replace hb3 := Lib.hid (below_step hb2.out hb3); clear hf2)
     |(go_at_call 33; refine (hwi.out _ hb3.out).mono ?_; clear hwi; rintro e w4 ⟨rfl, hb4⟩; replace hb4 := Lib.hid (below_step hb3.out hb4))
     |(go_at_call 28; refine (htw.out _ hb4.out).mono ?_; clear htw; rintro e w5 ⟨rfl, hb5⟩; replace hb5 := Lib.hid (below_step hb4.out hb5))
     |(go_at_call 34; refine (hrw.out _ hb5.out).mono ?_; clear hrw; rintro e w6 ⟨rfl, hb6⟩; replace hb6 := Lib.hid (below_step hb5.out hb6))
     |(go_at_call 32; refine (hov.out _ hb6.out).mono ?_; clear hov; rintro e w7 ⟨rfl, hb7⟩; replace hb7 := Lib.hid (below_step hb6.out hb7))
     |(go_at_call 33; refine (hwb.out _ hb7.out).mono ?_; clear hwb; rintro e w8 ⟨rfl, hb8⟩; replace hb8 := Lib.hid (below_step hb7.out hb8))
     |(go_at_call 35; refine (hd1.out _ hb8.out).mono ?_; clear hd1; rintro e w9 ⟨rfl, hb9⟩; replace hb9 := Lib.hid (below_step hb8.out hb9))
     |(go_at_call 35; refine (hd2'.out _ hb9.out).mono ?_; clear hd2'; rintro e w10 ⟨rfl, hb10⟩; replace hb10 := Lib.hid (below_step hb9.out hb10)))
    go_ret
    exact ⟨by simp [hle2.out, he], hb10.out⟩
 ·rw [if_neg h0] at hwi
  clear hA hC hR hR2 h1 h2 hwb hov
  have hb1' : (brdE a c == 0) = false := by simpa using h0
  have hb2' : (brdE a c != 0) = true := by simpa using h0
  generalize brdE a c = E at *
  go_enter Try.func8, Try.ntmps8
  go_wp2_with (first | (go_at_call 20; refine (lawAwake_any _).mono ?_; rintro e w1 ⟨rfl, hb1⟩; replace hb1 := Lib.hid hb1) | (go_at_call 26; refine (hf1.out _).mono ?_; rintro e w2 ⟨rfl, hb2⟩; replace hb2 := Lib.hid (below_step hb1.out hb2); clear hf1) | (go_at_call 26; refine (hf2.out _).mono ?_; rintro e w3 ⟨rfl, hb3⟩; replace hb3 := Lib.hid (below_step hb2.out hb3); clear hf2) | (go_at_call 33; refine (hwi.out _ hb3.out).mono ?_; clear hwi; rintro e w4 ⟨rfl, hb4⟩; replace hb4 := Lib.hid (below_step hb3.out hb4)) | (go_at_call 28; refine (htw.out _ hb4.out).mono ?_; clear htw; rintro e w5 ⟨rfl, hb5⟩; replace hb5 := Lib.hid (below_step hb4.out hb5)))
  go_ret
  exact ⟨rfl, hb5.out⟩
end Go.Proofs.Ytfcjeejhdklkdaa
