/- What the statements rest on: definitions and walks, part 30. -/
import Derived.Test.YtfcjeejhdklkdaaJ29
import Derived.Test.YtfcjeejhdklkdaaJ22
import Derived.Test.YtfcjeejhdklkdaaJ06
import Derived.Test.YtfcjeejhdklkdaaJ27
import Derived.Test.YtfcjeejhdklkdaaJ02
import Derived.Test.YtfcjeejhdklkdaaJ19
set_option maxRecDepth 100000
set_option maxHeartbeats 16000000
set_option linter.unusedSimpArgs false
set_option linter.unusedVariables false
namespace Go.Proofs.Ytfcjeejhdklkdaa
open Go Go.RowKit Go.Shelf
theorem sectL_zero {sec : List Pt} : ∀ {l bf : List Plo}, (sectL sec bf l).2.2 = 0 → ∀ k (h : k < l.length), (plotE sec (bf ++ l.take k) l[k]).2 = 0
 | [], _, _, k, h => by simp at h
 | p :: r, bf, hz, k, h => by
  unfold sectL at hz
  split at hz
  ·rename_i h0
   cases k with
   | zero => simpa using h0
   | succ k =>
    have := sectL_zero (l := r) (bf := bf ++ [p]) hz k (by simpa using h)
    simpa using this
  ·rename_i h0; exact absurd hz h0
theorem sectE_zero {name : ByteArray} {ps : List Pt} {l : List Plo} (h : (sectE name ps l).2.2 = 0) : nameB name = true ∧ Cal.polyE ps = 0 ∧ l.length ≤ 60 ∧ ∀ k (h : k < l.length), (plotE ps (l.take k) l[k]).2 = 0 := by
 unfold sectE at h
 split at h
 ·rename_i h1
  split at h
  ·rename_i h2
   split at h
   ·cases h
   ·refine ⟨h1, h2, by omega, fun k hk => ?_⟩
    have := sectL_zero h k hk
    simpa using this
  ·rename_i h2; exact absurd h h2
 ·cases h
def sumA : List Plo → Int
 | [] => 0
 | p :: r => Cal.areaP p.ps + sumA r
theorem sumA_take {l : List Plo} {k : Nat} (h : k < l.length) : sumA (l.take (k + 1)) = sumA (l.take k) + Cal.areaP l[k].ps := by
 rw [List.take_succ_eq_append_getElem h]
 have app : ∀ a b : List Plo, sumA (a ++ b) = sumA a + sumA b := fun a b => by
  induction a with
  | nil => simp [sumA]
  | cons x r ih => rw [List.cons_append, sumA, sumA, ih]; omega
 rw [app]
 simp [sumA]
theorem sumA_box : ∀ {l : List Plo}, (∀ p ∈ l, -20000000000000 ≤ Cal.areaP p.ps ∧ Cal.areaP p.ps ≤ 20000000000000) → -(20000000000000 * (l.length : Int)) ≤ sumA l ∧ sumA l ≤ 20000000000000 * (l.length : Int)
 | [], _ => by simp [sumA]
 | p :: r, h => by
  have ih := sumA_box (l := r) (fun q hq => h q (List.mem_cons_of_mem _ hq))
  have hp := h p (List.mem_cons_self ..)
  rw [sumA, List.length_cons]
  omega
theorem area_box {w : World} {V : Option Addr} {ps : List Pt} (h : Pts w V ps) (hl : ps.length ≤ 10) : -20000000000000 ≤ Cal.areaP ps ∧ Cal.areaP ps ≤ 20000000000000 := by
 have := areaTo_box h ps.length (Nat.le_refl _)
 unfold Cal.areaP
 omega
def gapS (s : Sct) : Int := if (sectE s.name s.ps s.l).2.2 = 0 then Cal.areaP s.ps - sumA s.l else 0
structure GpI (w : World) (s : Sct) (W : World) : Prop where
 a : BoxAt W w.heap.size [.string s.name, .slice s.V s.ps.length s.d, .slice s.S s.l.length s.e]
 bel : Below w.heap.size w W
theorem GpI.below {w : World} {s : Sct} {X Y : World} (h : GpI w s X) (hb : Below X.heap.size X Y) : GpI w s Y := ⟨h.a.below hb, below_step h.bel hb⟩
theorem Gap_any (s : Sct) (w : World) (hS : SctR w s) :
  Calls Try.prog 38 #[.agg #[.string s.name, .slice s.V s.ps.length s.d, .slice s.S s.l.length s.e]] w fun e w' => e = .returned (.tuple #[.int .i64 (gapS s), .int .i64 (sectE s.name s.ps s.l).2.2]) ∧ Below w.heap.size w w' := by
 have hI : Hid (GpI w s (w.alloc (.cells #[.string s.name, .slice s.V s.ps.length s.d, .slice s.S s.l.length s.e] 62))) := ⟨BoxAt.new w #[.string s.name, .slice s.V s.ps.length s.d, .slice s.S s.l.length s.e] 62, below_alloc _ _⟩
 have hcs := Lib.hid (fun W (hW : GpI w s W) => CheckSection_any s W (hS.below hW.bel))
 have hsz := hS.plots.size
 by_cases h0 : (sectE s.name s.ps s.l).2.2 = 0
 ·have hz := sectE_zero h0
  have hg : gapS s = Cal.areaP s.ps - sumA s.l := by unfold gapS; rw [if_pos h0]
  have hC := hS.pts.plg hz.2.1 (few_ok hS.few hz.2.1)
  have hCb := area_box hC.v.pts hC.len
  have hPl : Hid (∀ p ∈ s.l, Plg w p.V p.ps ∧ -20000000000000 ≤ Cal.areaP p.ps ∧ Cal.areaP p.ps ≤ 20000000000000) := fun p hp => by
   obtain ⟨k, hk, rfl⟩ := List.getElem_of_mem hp
   have h3 := (plotE_zero (hz.2.2.2 k hk)).2.2.1
   have hq := (hS.plots.pts _ hp).plg h3 (few_ok (hS.fews _ hp) h3)
   exact ⟨hq, area_box hq.v.pts hq.len⟩
  have hl60 := hz.2.2.1
  obtain ⟨R, hR⟩ : ∃ R, sectE s.name s.ps s.l = R := ⟨_, rfl⟩
  rw [hR] at h0 hcs
  rw [hg, hR]
  obtain ⟨R1, R2, R3⟩ := R
  dsimp only at h0 hcs ⊢
  subst h0
  obtain ⟨A, hA⟩ : ∃ A, Cal.areaP s.ps = A := ⟨_, rfl⟩
  rw [hA] at hCb ⊢
  replace hA := Lib.hid hA
  replace hC := Lib.hid hC
  have hrows := Lib.hid hS.plots.rows
  clear hz hg hR hS
  obtain ⟨nm, V, d, ps, S, e, l⟩ := s
  dsimp only at *
  have hS0 : Hid ((0 : Int) = sumA (l.take 0)) := rfl
  (have a0 := hI.out.a.c 0 _ rfl; have a1 := hI.out.a.c 1 _ rfl; have a2 := hI.out.a.c 2 _ rfl)
  go_enter Try.func38, Try.ntmps38
  go_wp2_with (first
   | (go_at_call 37; clear a0 a1 a2; refine (hcs.out _ hI.out).mono ?_; rintro e0 wn ⟨rfl, hbn⟩; replace hI := Lib.hid (hI.out.below hbn); clear hbn; have lt0 := hI.out.a.lt; (have a0 := hI.out.a.c 0 _ rfl; have a1 := hI.out.a.c 1 _ rfl; have a2 := hI.out.a.c 2 _ rfl))
   | (go_at_call 76; clear a0 a1 a2; refine (area_any V d ps _ (hC.out.below (below_step hI.out.bel (below_alloc _ _))).v.pts).mono ?_; rintro e0 wm ⟨rfl, hbn⟩; rw [hA.out]; replace hI := Lib.hid ((hI.out.below (below_alloc _ _)).below hbn); clear hbn lt0; (have a0 := hI.out.a.c 0 _ rfl; have a1 := hI.out.a.c 1 _ rfl; have a2 := hI.out.a.c 2 _ rfl)))
  clear a0 a1 a2
  go_loopw [6, 23] (fun v i wr => ∃ (k : Nat) (z : Int), k ≤ l.length ∧ i = .int .i64 k ∧ v = .int .i64 (A - z) ∧ Hid (z = sumA (l.take k)) ∧ Hid (GpI w _ wr)) (fun _ i _ => l.length - (intOf i).toNat)
  case atStart => exact ⟨0, 0, Nat.zero_le _, rfl, by go_num, hS0, hI⟩
  case round =>
   clear hS0 hI
   obtain ⟨k, z, hk, rfl, rfl, hz, hI⟩ := hrel
   by_cases hlt : k < l.length
   ·have hk' : l[k]? = some l[k] := List.getElem?_eq_getElem hlt
    have hst := sumA_take hlt
    have hp := hPl.out _ (List.getElem_mem hlt)
    have hb1 : ∀ m, -(20000000000000 * 60) ≤ sumA (l.take m) ∧ sumA (l.take m) ≤ 20000000000000 * 60 := fun m => by
     have := sumA_box (l := l.take m) (fun p hp => (hPl.out p (List.mem_of_mem_take hp)).2)
     rw [List.length_take] at this
     omega
    have hz1 := hb1 k
    rw [← hz.out] at hz1 hst
    clear hb1
    generalize l[k] = p at *
    obtain ⟨b, o, rfl, hbl, c0, c1⟩ := plo_at (hrows.out.below hI.out.bel) hk'
    obtain ⟨g, hg⟩ : ∃ g, Cal.areaP p.ps = g := ⟨_, rfl⟩
    have hPp := Lib.hid hp.1
    have hgb := hp.2
    rw [hg] at hgb hst
    replace hg := Lib.hid hg
    have hz2 : Hid (z + g = sumA (l.take (k + 1))) := hst.symm
    clear hst hp hk' hz
    have lt0 := hI.out.a.lt
    go_wp2_with (go_at_call 76; refine (area_any p.V p.d p.ps _ (hPp.out.below (below_step hI.out.bel (below_alloc _ _))).v.pts).mono ?_; rintro e0 wm ⟨rfl, hbn⟩; rw [hg.out]; replace hI := Lib.hid ((hI.out.below (below_alloc _ _)).below hbn); clear hbn lt0)
    go_roundw
    case rel => exact ⟨k + 1, z + g, by omega, by go_num, by go_num, hz2, hI⟩
    case measure => simp [intOf]; omega
   ·obtain rfl : k = l.length := by omega
    replace hz : Hid (z = sumA l) := by show _ = _; rw [hz.out, List.take_length]
    go_wp2_with fail
    go_ret2
    exact ⟨by rw [← hz.out]; rfl, hI.out.bel⟩
 ·have hg : gapS s = 0 := by unfold gapS; rw [if_neg h0]
  rw [hg]
  obtain ⟨R, hR⟩ : ∃ R, sectE s.name s.ps s.l = R := ⟨_, rfl⟩
  rw [hR] at h0 hcs
  rw [hR]
  obtain ⟨R1, R2, R3⟩ := R
  dsimp only at h0 hcs ⊢
  clear hR hg hS
  (have a0 := hI.out.a.c 0 _ rfl; have a1 := hI.out.a.c 1 _ rfl; have a2 := hI.out.a.c 2 _ rfl)
  go_enter Try.func38, Try.ntmps38
  go_wp2_with (go_at_call 37; clear a0 a1 a2; refine (hcs.out _ hI.out).mono ?_; rintro e0 wn ⟨rfl, hbn⟩; replace hI := Lib.hid (hI.out.below hbn); clear hbn)
  go_ret2
  exact ⟨rfl, hI.out.bel.trans (below_alloc _ _ |>.mono (by have := hI.out.bel.size; omega))⟩
end Go.Proofs.Ytfcjeejhdklkdaa
namespace Go.Proofs.Ytfcjeejhdklkdaa
open Go Go.RowKit Go.Shelf
def fieldS (A1 A2 A3 S : Option Addr) : Sct := ⟨⟨#[115]⟩, A1, 4, Cal.boxP 0 0 100 100, S, 2, [⟨⟨#[97]⟩, A2, 4, Cal.boxP 0 0 50 100⟩, ⟨⟨#[98]⟩, A3, 4, Cal.boxP 50 0 100 50⟩]⟩
theorem field_zero (A1 A2 A3 S : Option Addr) : (sectE (fieldS A1 A2 A3 S).name (fieldS A1 A2 A3 S).ps (fieldS A1 A2 A3 S).l).2.2 = 0 := by kernel_rfl
theorem field_gap (A1 A2 A3 S : Option Addr) : gapS (fieldS A1 A2 A3 S) = 5000 := by kernel_rfl
theorem secSize1 : (Try.prog.info? 62).map (·.size) = some 3 := by kernel_rfl
theorem Field_any (w : World) : Calls Try.prog 46 #[] w fun e w' => ∃ A1 A2 A3 S, e = .returned (.agg #[.string ⟨#[115]⟩, .slice A1 4 4, .slice S 2 2]) ∧ SctR w' (fieldS A1 A2 A3 S) ∧ Below w.heap.size w w' := by
 have h1 := Lib.hid (BoxAt.new w #[.string ⟨#[]⟩, .slice none 0 0, .slice none 0 0] 62)
 have hb0 := Lib.hid (below_alloc w (.cells #[.string ⟨#[]⟩, .slice none 0 0, .slice none 0 0] 62))
 go_enter Try.func46, Try.ntmps46
 go_wp2_with fail
 refine (lawBox_any _ _ _ _ _).mono ?_
 rintro e w1 ⟨A1, rfl, hA1, hp1, hb1⟩
 have hx1 := Lib.hid (h1.out.below hb1)
 have hp1 := Lib.hid hp1
 have hs1 : Hid (w.heap.size < A1) := by
  show w.heap.size < A1
  have := hb0.out.size
  simp only [World.size_alloc] at hA1 this; omega
 have hb1 := Lib.hid (below_step hb0.out hb1)
 go_wp2_with fail
 refine (lawBox_any _ _ _ _ _).mono ?_
 rintro e w2 ⟨A2, rfl, hA2, hp2, hb2⟩
 have hx2 := Lib.hid (hx1.out.below hb2)
 have hp1 := Lib.hid (hp1.out.below hb2)
 have hp2 := Lib.hid hp2
 have hs2 : Hid (w.heap.size < A2) := by
  show w.heap.size < A2
  have := hx1.out.lt
  omega
 have hb2 := Lib.hid (below_step hb1.out hb2)
 go_wp2_with fail
 refine (lawBox_any _ _ _ _ _).mono ?_
 rintro e w3 ⟨A3, rfl, hA3, hp3, hb3⟩
 have hx3 := Lib.hid (hx2.out.below hb3)
 have hp1 := Lib.hid (hp1.out.below hb3)
 have hp2 := Lib.hid (hp2.out.below hb3)
 have hp3 := Lib.hid hp3
 have hs3 : Hid (w.heap.size < A3) := by
  show w.heap.size < A3
  have := hx2.out.lt
  omega
 have hb3 := Lib.hid (below_step hb2.out hb3)
 clear h1 hx1 hx2 hb1 hb2 hb0
 have hrow := Lib.hid (fun t => rows_new (m := 2) w3 [[.string ⟨#[97]⟩, .slice (some ⟨A2, 0, none⟩) 4 4], [.string ⟨#[98]⟩, .slice (some ⟨A3, 0, none⟩) 4 4]] (fun r hr => by simp at hr; rcases hr with rfl | rfl <;> rfl) #[.string ⟨#[97]⟩, .slice (some ⟨A2, 0, none⟩) 4 4, .string ⟨#[98]⟩, .slice (some ⟨A3, 0, none⟩) 4 4] rfl t)
 have hx4 := Lib.hid (fun t => hx3.out.below (below_alloc w3 (.cells #[.string ⟨#[97]⟩, .slice (some ⟨A2, 0, none⟩) 4 4, .string ⟨#[98]⟩, .slice (some ⟨A3, 0, none⟩) 4 4] t)))
 have hbl := Lib.hid (fun t => below_alloc w3 (.cells #[.string ⟨#[97]⟩, .slice (some ⟨A2, 0, none⟩) 4 4, .string ⟨#[98]⟩, .slice (some ⟨A3, 0, none⟩) 4 4] t))
 go_wp2_with (refine wpList_store_box rfl 62 (.tmp 0) (.tmp 7) rfl (w.heap.size) _ [.string ⟨#[115]⟩, .slice (some ⟨A1, 0, none⟩) 4 4, .slice (some ⟨w3.heap.size, 0, none⟩) 2 2] (by rfl) (by rfl) (hx4.out _) rfl secSize1 (by kernel_rfl) ?_; intro w5 h5 hg5)
 (try simp only [Exit.inBlock, Exit.then])
 have hal := below_alloc w3 (.cells #[.string ⟨#[97]⟩, .slice (some ⟨A2, 0, none⟩) 4 4, .string ⟨#[98]⟩, .slice (some ⟨A3, 0, none⟩) 4 4] 73)
 have hb45 := below_of_grownB (below_step hb3.out hal) hg5 (Nat.le_refl _)
 have z1 := hs1.out
 have z2 := hs2.out
 have z3 := hs3.out
 have hps : ∀ b ps, PtsR w3 (some ⟨b, 0, none⟩) ps → b ≠ w.heap.size → PtsR w5 (some ⟨b, 0, none⟩) ps := fun b ps h hne => (h.below hal).far hg5 hne
 have k1 := hps A1 _ hp1.out (by omega)
 have k2 := hps A2 _ hp2.out (by omega)
 have k3 := hps A3 _ hp3.out (by omega)
 have k4 := (hrow.out 73).farI hg5 (fun a e => by cases e; exact fun h => by have := Option.some.inj h; dsimp only at this; have := hx3.out.lt; omega)
 refine bodyPost_ret (results_mid1 rfl _ _ (w.heap.size) [.string ⟨#[115]⟩, .slice (some ⟨A1, 0, none⟩) 4 4, .slice (some ⟨w3.heap.size, 0, none⟩) 2 2] _ rfl h5.range Try.underlying62 rfl secSize1) rfl ⟨_, some ⟨A2, 0, none⟩, some ⟨A3, 0, none⟩, _, rfl, ⟨show (1 : Nat) ≤ maxLen by decide, k1, .inl (show (4 : Nat) ≤ 10 by decide), ⟨k4, show (2 : Nat) ≤ 1000000 by decide, ?_, ?_⟩, Nat.le_refl _, ?_⟩, hb45⟩
 ·intro p hp
  rcases List.mem_cons.1 hp with rfl | hp
  ·exact k2
  ·rw [List.mem_singleton.1 hp]; exact k3
 ·intro p hp
  rcases List.mem_cons.1 hp with rfl | hp
  ·exact show (1 : Nat) ≤ maxLen by decide
  ·rw [List.mem_singleton.1 hp]; exact show (1 : Nat) ≤ maxLen by decide
 ·intro p hp
  rcases List.mem_cons.1 hp with rfl | hp
  ·exact .inl (show (4 : Nat) ≤ 10 by decide)
  ·rw [List.mem_singleton.1 hp]; exact .inl (show (4 : Nat) ≤ 10 by decide)
end Go.Proofs.Ytfcjeejhdklkdaa
namespace Go.Proofs.Ytfcjeejhdklkdaa
open Go Go.RowKit Go.Shelf
theorem ex_heights : Cal.netE 3 (triLevs 2) = 0 ∧ (Cal.heightsP 2 (triLevs 2)).length = 3 ∧ (Cal.heightsP 2 (triLevs 2))[1]? = some (512, 5) := by decide +kernel
theorem ex_bord : bordE (Cal.boxP 0 0 50 100) (Cal.boxP 50 0 100 50) = 0 := by decide +kernel
theorem ex_bord2 : (Cal.borderP (Cal.boxP 0 0 50 100) (Cal.boxP 50 0 100 50)).map sdR = [[.int .i64 50, .int .i64 0, .int .i64 50, .int .i64 50]] := by kernel_rfl
theorem lawAwake_any (w : World) : Calls Try.prog 20 #[] w fun e w' => e = .returned (.bool true) ∧ Below w.heap.size w w' := by
 have hgap := Lib.hid (fun A1 A2 A3 S W (h : SctR W (fieldS A1 A2 A3 S)) => by
  have := Gap_any (fieldS A1 A2 A3 S) W h
  rw [field_zero, field_gap] at this
  exact this)
 have hhts := Lib.hid (fun A c W (h : Levs W A (triLevs 2)) => by
  have := Heights_any 3 A c (triLevs 2) W h
  rw [ex_heights.1, if_pos rfl] at this
  exact this)
 have hbor := Lib.hid (fun A B c d W (h : PtsR W A (Cal.boxP 0 0 50 100)) (h2 : PtsR W B (Cal.boxP 50 0 100 50)) => by
  have := Border_any A B c d _ _ W h h2 (fun _ => by decide) (fun _ => by decide)
  rw [ex_bord] at this
  unfold bordL at this
  rw [if_pos rfl, ex_bord2] at this
  exact this)
 go_enter Try.func20, Try.ntmps20
 go_wp2_with fail
 refine (Field_any _).mono ?_
 rintro e w1 ⟨A1, A2, A3, S, rfl, hS1, hb1⟩
 have hS1 := Lib.hid hS1
 have hb1 := Lib.hid hb1
 go_wp2_with fail
 refine (hgap.out A1 A2 A3 S _ hS1.out).mono ?_
 rintro e w2 ⟨rfl, hb2⟩
 have hb2 := Lib.hid (below_step hb1.out hb2)
 clear hS1 hgap hb1
 go_wp2_with fail
 refine (lawTri_any _ _).mono ?_
 rintro e w3 ⟨A4, rfl, hL, hb3⟩
 have hL := Lib.hid hL
 have hb3 := Lib.hid (below_step hb2.out hb3)
 go_wp2_with fail
 refine (hhts.out A4 3 _ hL.out).mono ?_
 rintro e w4 ⟨v4, rfl, ho4, hb4⟩
 obtain ⟨A5, c5, rfl, hr5⟩ := ho4.form
 have hr5 := Lib.hid hr5
 have hb4 := Lib.hid (below_step hb3.out hb4)
 rw [List.length_map, show (Cal.heightsP ((3 : Int).toNat - 1) (triLevs 2)).length = 3 from ex_heights.2.1]
 clear hL hhts hb2 hb3 ho4
 go_wp2_with fail
 refine (lawBox_any _ _ _ _ _).mono ?_
 rintro e w5 ⟨B1, rfl, _, hp1, hb5⟩
 have hp1 := Lib.hid hp1
 have hr5 := Lib.hid (hr5.out.below hb5)
 have hb5 := Lib.hid (below_step hb4.out hb5)
 go_wp2_with fail
 refine (lawBox_any _ _ _ _ _).mono ?_
 rintro e w6 ⟨B2, rfl, _, hp2, hb6⟩
 have hp2 := Lib.hid hp2
 have hp1 := Lib.hid (hp1.out.below hb6)
 have hr5 := Lib.hid (hr5.out.below hb6)
 have hb6 := Lib.hid (below_step hb5.out hb6)
 go_wp2_with fail
 refine (hbor.out _ _ _ _ _ hp1.out hp2.out).mono ?_
 rintro e w7 ⟨v7, rfl, ho7, hb7⟩
 obtain ⟨A7, c7, rfl, hr7⟩ := ho7.form
 obtain ⟨b7, o7, rfl, hl7, hc7⟩ := hr7 0 _ rfl
 have d0 : w7.cell? ⟨b7, o7, none⟩ = some (.int .i64 50) := hc7 0 _ rfl
 have d1 : w7.cell? ⟨b7, o7 + 1, none⟩ = some (.int .i64 0) := by have this := hc7 1 _ rfl; rw [Nat.zero_mul, Nat.zero_add] at this; exact this
 have d2 : w7.cell? ⟨b7, o7 + 2, none⟩ = some (.int .i64 50) := by have this := hc7 2 _ rfl; rw [Nat.zero_mul, Nat.zero_add] at this; exact this
 have d3 : w7.cell? ⟨b7, o7 + 3, none⟩ = some (.int .i64 50) := by have this := hc7 3 _ rfl; rw [Nat.zero_mul, Nat.zero_add] at this; exact this
 have hr5 := hr5.out.below hb7
 obtain ⟨b5, o5, rfl, hl5, hc5⟩ := hr5 1 (frR (512, 5)) (by rw [List.getElem?_map, show (Cal.heightsP ((3 : Int).toNat - 1) (triLevs 2))[1]? = some (512, 5) from ex_heights.2.2]; rfl)
 have e0 : w7.cell? ⟨b5, o5 + 2, none⟩ = some (.int .i64 512) := hc5 0 _ rfl
 have e1 : w7.cell? ⟨b5, o5 + 3, none⟩ = some (.int .i64 5) := hc5 1 _ rfl
 have hb7 := Lib.hid (below_step hb6.out hb7)
 clear hp1 hp2 hbor hb4 hb5 hb6 hr5 hr7 hc7 hc5 ho7
 go_wp2_with fail
 go_ret
 exact ⟨rfl, hb7.out⟩
end Go.Proofs.Ytfcjeejhdklkdaa
namespace Go.Proofs.Ytfcjeejhdklkdaa
namespace Cal
open Geo (RP at' Pos In Out Off Near)
section
variable {a b : List Pt}
theorem overlap_symm (ha : polyE a = 0) (hb : polyE b = 0) : overlapP a b = overlapP b a := by
 rw [Bool.eq_iff_iff, overlap_over ha hb, overlap_over hb ha]
 exact ⟨Geo.Over.symm, Geo.Over.symm⟩
end
end Cal
end Go.Proofs.Ytfcjeejhdklkdaa
