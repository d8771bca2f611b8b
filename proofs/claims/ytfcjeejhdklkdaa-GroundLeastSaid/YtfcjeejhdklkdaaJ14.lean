/- What the statements rest on: definitions and walks, part 14. -/
import Derived.Test.YtfcjeejhdklkdaaJ12
import Derived.Test.YtfcjeejhdklkdaaJ13
set_option maxRecDepth 100000
set_option maxHeartbeats 16000000
set_option linter.unusedSimpArgs false
set_option linter.unusedVariables false
namespace Go.Proofs.Ytfcjeejhdklkdaa
open Go Go.RowKit Go.Shelf
attribute [local go_sem] Oper.semAt_some
structure WiI (w : World) (Va Vb : Option Addr) (na da nb db N : Nat) (Ds : List Nat) (W : World) : Prop where
 a : BoxAt W w.heap.size [.slice Va na da]
 b : BoxAt W (w.heap.size + 1) [.slice Vb nb db]
 r : ∃ v, BoxAt W (w.heap.size + 1 + 1) [v]
 bel : Below w.heap.size w W
 dd : ∀ D ∈ Ds, D < N ∧ W.heap[D]? = some (.deferred (some []))
 lt : w.heap.size + 3 ≤ N
 size : N ≤ W.heap.size
theorem WiI.belowN {w : World} {Va Vb : Option Addr} {na da nb db N : Nat} {Ds : List Nat} {X Y : World} (h : WiI w Va Vb na da nb db N Ds X) (hb : Below N X Y) : WiI w Va Vb na da nb db N Ds Y := by
 obtain ⟨h1, h2, ⟨v, h3⟩, h4, h5, h6, h7⟩ := h
 exact ⟨h1.belowN hb (by omega), h2.belowN hb (by omega), ⟨v, h3.belowN hb (by omega)⟩, h4.trans (hb.mono (by omega)), fun D hD => ⟨(h5 D hD).1, (hb.block _ (h5 D hD).1).trans (h5 D hD).2⟩, h6, Nat.le_trans h7 hb.size⟩
theorem WiI.below {w : World} {Va Vb : Option Addr} {na da nb db N : Nat} {Ds : List Nat} {X Y : World} (h : WiI w Va Vb na da nb db N Ds X) (hb : Below X.heap.size X Y) : WiI w Va Vb na da nb db N Ds Y := h.belowN (hb.mono h.size)
theorem WiI.kept {w : World} {Va Vb : Option Addr} {na da nb db N B : Nat} {Ds : List Nat} {X Y : World} {row : Option Nat} (h : WiI w Va Vb na da nb db N Ds X) (hg : X.grownBy Y row) (hB : N ≤ B) (hr : ∀ r, row = some r → B ≤ r ∧ ∃ o : Obj, X.heap[r]? = some o ∧ o.isCells = false) : WiI w Va Vb na da nb db N Ds Y :=
 h.belowN ((Below.refl _ _).grown hg h.size (fun r e => Nat.le_trans hB (hr r e).1))
theorem WiI.abM {w : World} {Va Vb : Option Addr} {na da nb db N : Nat} {Ds : List Nat} {X Y : World} (h : WiI w Va Vb na da nb db N Ds X) (ha : AbM (N + 1 + 1) X Y) : WiI w Va Vb na da nb db N Ds Y := h.belowN (ha.mono (by have := h.size; omega))
structure WiZ (w : World) (N : Nat) (Ds : List Nat) (W : World) : Prop where
 r : BoxAt W (w.heap.size + 1 + 1) [.bool false]
 bel : Below w.heap.size w W
 dd : ∀ D ∈ Ds, D < N ∧ W.heap[D]? = some (.deferred (some []))
 lt : w.heap.size + 3 ≤ N
 size : N ≤ W.heap.size
theorem WiZ.belowN {w : World} {N : Nat} {Ds : List Nat} {X Y : World} (h : WiZ w N Ds X) (hb : Below N X Y) : WiZ w N Ds Y := by
 obtain ⟨h3, h4, h5, h6, h7⟩ := h
 exact ⟨h3.belowN hb (by omega), h4.trans (hb.mono (by omega)), fun D hD => ⟨(h5 D hD).1, (hb.block _ (h5 D hD).1).trans (h5 D hD).2⟩, h6, Nat.le_trans h7 hb.size⟩
theorem WiI.no {w : World} {Va Vb : Option Addr} {na da nb db N : Nat} {Ds : List Nat} {X : World} (h : WiI w Va Vb na da nb db N Ds X) : WiZ w N Ds (X.setCell ⟨w.heap.size + 1 + 1, 0, none⟩ (.bool false)) := by
 obtain ⟨h1, h2, ⟨v, h3⟩, h4, h5, h6, h7⟩ := h
 refine ⟨h3.set 0 _ Nat.zero_lt_one, h4.setCell (p := ⟨w.heap.size + 1 + 1, 0, none⟩) (show w.heap.size ≤ w.heap.size + 1 + 1 by omega) _, fun D hD => ⟨(h5 D hD).1, ?_⟩, h6, by rw [World.size_setCell]; exact h7⟩
 exact (KeepsOthers.setCell X ⟨w.heap.size + 1 + 1, 0, none⟩ (.bool false)).same D _ (h5 D hD).2 rfl
def WiJ (w : World) (Va Vb : Option Addr) (na da nb db N : Nat) (Ds : List Nat) (f : Cal.Pc → Bool) (L : List Cal.Pc) (k : Nat) (W : World) : Prop := (∀ i x, i < k → L[i]? = some x → f x = true) ∧ WiI w Va Vb na da nb db N Ds W
def WiX (w : World) (N : Nat) (Ds : List Nat) (b : Bool) (c : Code) (_ : Nat) (W : World) : Prop := c = .ret ∧ b = false ∧ WiZ w N Ds W
theorem wiJ_own (w : World) (Va Vb : Option Addr) (na da nb db N : Nat) (Ds : List Nat) (f : Cal.Pc → Bool) (L : List Cal.Pc) {B : Nat} (hB : N ≤ B) : OwnFrom B (WiJ w Va Vb na da nb db N Ds f L) := fun _ _ _ _ h hg hr => ⟨h.1, h.2.kept hg hB hr⟩
theorem wiX_own (w : World) (N : Nat) (Ds : List Nat) (b : Bool) {B : Nat} (hB : N ≤ B) (c : Code) : OwnFrom B (WiX w N Ds b c) := fun _ _ _ _ h hg hr => ⟨h.1, h.2.1, h.2.2.belowN ((Below.refl _ _).grown hg h.2.2.size (fun r e => Nat.le_trans hB (hr r e).1))⟩
theorem pcs_all_false {l : List Cal.Pc} {f : Cal.Pc → Bool} {k : Nat} {x : Cal.Pc} (hk : l[k]? = some x) (h : f x = false) : l.all f = false := by
 rw [List.all_eq_false]
 exact ⟨x, List.mem_of_getElem? hk, by rw [h]; decide⟩
theorem pcs_all_true {l : List Cal.Pc} {f : Cal.Pc → Bool} (h : ∀ k x, k < l.length → l[k]? = some x → f x = true) : l.all f = true := by
 rw [List.all_eq_true]
 rintro x hx
 obtain ⟨k, hk, rfl⟩ := List.getElem_of_mem hx
 exact h k _ hk (List.getElem?_eq_getElem hk)
def inX (ds : List Pt) (x : Cal.Pc) : Bool := decide (0 ≤ Cal.whereP ds x.mid)
def ouX (ds : List Pt) (x : Cal.Pc) : Bool := decide (Cal.whereP ds x.mid ≤ 0)
theorem withinP_eq (us vs : List Pt) : Cal.withinP us vs = (!Cal.crossP us vs && ((Cal.pcsP us vs).all (inX (Cal.dblP vs)) && (Cal.pcsP vs us).all (ouX (Cal.dblP us)))) := rfl
theorem WiI.up {w : World} {Va Vb : Option Addr} {na da nb db N N' : Nat} {Ds : List Nat} {X : World} (h : WiI w Va Vb na da nb db N Ds X) (h1 : N ≤ N') (h2 : N' ≤ X.heap.size) : WiI w Va Vb na da nb db N' Ds X :=
 ⟨h.a, h.b, h.r, h.bel, fun D hD => ⟨Nat.lt_of_lt_of_le (h.dd D hD).1 h1, (h.dd D hD).2⟩, Nat.le_trans h.lt h1, h2⟩
theorem WiI.push {w : World} {Va Vb : Option Addr} {na da nb db N D : Nat} {Ds : List Nat} {X : World} (h : WiI w Va Vb na da nb db N Ds X) (hD : X.heap[D]? = some (.deferred (some []))) : WiI w Va Vb na da nb db X.heap.size (D :: Ds) X :=
 ⟨h.a, h.b, h.r, h.bel, fun E hE => by
  rcases List.mem_cons.1 hE with e | hE
  ·rw [e]; exact ⟨(Array.getElem?_eq_some_iff.1 hD).1, hD⟩
  ·exact ⟨Nat.lt_of_lt_of_le (h.dd E hE).1 h.size, (h.dd E hE).2⟩, Nat.le_trans h.lt h.size, Nat.le_refl _⟩
theorem withinG_any (Va Vb : Option Addr) (da db : Nat) (us vs : List Pt) (w : World) (hA : Plg w Va us) (hB : Plg w Vb vs) :
  Calls Try.prog 68 #[.slice Va us.length da, .slice Vb vs.length db] w fun e w' => e = .returned (.bool (Cal.withinP us vs)) ∧ Below w.heap.size w w' := by
 rw [withinP_eq]
 obtain ⟨c1, h1⟩ : ∃ c, Cal.crossP us vs = c := ⟨_, rfl⟩
 rw [h1]
 refine (callsIn_wide (n := 9)).1 ?_
 refine callsIn_of_wp_marks Try.func68 rfl trivial ?_ rfl
 simp only [Try.ntmps68, List.size_toArray, List.length_cons, List.length_nil, Nat.reduceAdd, Nat.reduceSub, Array.replicate_succ, Array.replicate_zero, List.push_toArray, List.append_toArray, List.nil_append, List.cons_append]
 have hA1 : Below w.heap.size w (((w.alloc (.cells #[.slice Va us.length da] 48)).alloc (.cells #[.slice Vb vs.length db] 48)).alloc (.cells #[.bool false] 4)) := below_step (below_step (below_alloc _ _) (below_alloc _ _)) (below_alloc _ _)
 have bA := Lib.hid (((BoxAt.new w #[.slice Va us.length da] 48).alloc (.cells #[.slice Vb vs.length db] 48)).alloc (.cells #[.bool false] 4))
 have bB := Lib.hid ((BoxAt.new (w.alloc (.cells #[.slice Va us.length da] 48)) #[.slice Vb vs.length db] 48).alloc (.cells #[.bool false] 4))
 have bR := Lib.hid (BoxAt.new ((w.alloc (.cells #[.slice Va us.length da] 48)).alloc (.cells #[.slice Vb vs.length db] 48)) #[.bool false] 4)
 simp only [World.size_alloc] at bB bR
 have hs3 : ((((w.alloc (.cells #[.slice Va us.length da] 48)).alloc (.cells #[.slice Vb vs.length db] 48)).alloc (.cells #[.bool false] 4))).heap.size = w.heap.size + 3 := by simp
 have hI : WiI w Va Vb us.length da vs.length db (w.heap.size + 3) [] (((w.alloc (.cells #[.slice Va us.length da] 48)).alloc (.cells #[.slice Vb vs.length db] 48)).alloc (.cells #[.bool false] 4)) := ⟨bA.out, bB.out, ⟨_, bR.out⟩, hA1, (fun D hD => by cases hD), Nat.le_refl _, Nat.le_of_eq hs3.symm⟩
 replace hI := Lib.hid hI
 have hAx := Lib.hid (hA.below hA1)
 have hBx := Lib.hid (hB.below hA1)
 replace h1 := Lib.hid h1
 clear bA bB bR hs3 hA1
 cases c1
 ·gi_wp2_with (first
   |(refine ⟨trivial, ?_⟩; gi_at_call 84; refine (callsIn_wide.2 (crossing_any _ _ _ _ _ _ _ hAx.out.v.pts hBx.out.v.pts)).mono ?_; rintro e w2 ⟨rfl, hb2⟩; rw [h1.out]; replace hI := Lib.hid (hI.out.below hb2); replace hAx := Lib.hid (hAx.out.below hb2); replace hBx := Lib.hid (hBx.out.below hb2); clear hb2; have a0 := hI.out.a.c 0 _ rfl; have b0 := hI.out.b.c 0 _ rfl)
   |(refine ⟨trivial, ?_⟩; gi_at_call 94; refine (callsIn_wide.2 (pieces_any _ _ _ _ _ _ _)).mono ?_; rintro e w3 ⟨rfl, rfl⟩))
  have bP := (BoxAt.new w2 #[.slice Va us.length da] 48).alloc (.cells #[.slice Vb vs.length db] 48)
  have bO := BoxAt.new (w2.alloc (.cells #[.slice Va us.length da] 48)) #[.slice Vb vs.length db] 48
  have hB0 : Below w2.heap.size w2 ((w2.alloc (.cells #[.slice Va us.length da] 48)).alloc (.cells #[.slice Vb vs.length db] 48)) := below_step (below_alloc _ _) (below_alloc _ _)
  have hs0 : ((w2.alloc (.cells #[.slice Va us.length da] 48)).alloc (.cells #[.slice Vb vs.length db] 48)).heap.size = w2.heap.size + 2 := by simp
  simp only [World.size_alloc] at bO
  obtain ⟨W0, hW0⟩ : ∃ W0, ((w2.alloc (.cells #[.slice Va us.length da] 48)).alloc (.cells #[.slice Vb vs.length db] 48)) = W0 := ⟨_, rfl⟩
  rw [hW0] at bP bO hB0 hs0 ⊢
  clear hW0
  replace hs0 : w2.heap.size + 2 ≤ W0.heap.size := Nat.le_of_eq hs0.symm
  have hsz2 := hI.out.size
  have hlt2 := hI.out.lt
  have hI0 := (hI.out.below hB0).up (N' := W0.heap.size) (by omega) (Nat.le_refl _)
  clear a0 b0
  refine wpIn_range_pieces (Bp := w2.heap.size) (Bo := w2.heap.size + 1) (n₀ := w.heap.size) (Vp := Va) (Vo := Vb) (dp := da) (do_ := db) (ps := us) (os := vs) rfl rfl (bP.c 0 _ rfl) (bO.c 0 _ rfl) (by omega) (by omega) (hAx.out.v.below hB0) (hBx.out.v.below hB0) hA.v.own hB.v.own (by omega) hB.len hA.nd
   (WiJ w Va Vb us.length da vs.length db W0.heap.size [] (inX (Cal.dblP vs)) (Cal.pcsP us vs)) (WiX w W0.heap.size [] ((Cal.pcsP us vs).all (inX (Cal.dblP vs)))) (wiJ_own w Va Vb _ _ _ _ _ [] _ _ (Nat.le_refl _)) (wiX_own w _ [] _ (Nat.le_refl _))
   (fun k X Y h ha => ⟨h.1, h.2.abM ha⟩) (fun c k X Y h ha => ⟨h.1, h.2.1, h.2.2.belowN (ha.mono (by have := h.2.2.size; omega))⟩) ⟨fun i x hi => by omega, hI0⟩
   (fun T x By => (T.setIfInBounds 13 (.agg #[.int .i64 x.mid.x, .int .i64 x.mid.y, .int .i64 (x.of.b.x - x.of.a.x), .int .i64 (x.of.b.y - x.of.a.y)])).setIfInBounds 5 (.pointer (some ⟨By, 0, none⟩)))
   ?assign ?body ?done ?stop
  case assign =>
   rintro l k x W K hx ⟨hc, hI⟩ hK
   gi_wp2
   have hz := hI.size
   exact hK W.heap.size _ hz ((KeepsOthers.alloc _ _).from _) (KpP.below (below_alloc _ _) hI.bel.size (by omega) (by omega)) ⟨hc, hI.below (below_alloc _ _)⟩ (BoxAt.new W #[.int .i64 x.mid.x, .int .i64 x.mid.y, .int .i64 (x.of.b.x - x.of.a.x), .int .i64 (x.of.b.y - x.of.a.y)] _)
  case body =>
   rintro l k x Bx W hl ⟨r, hr⟩ hx ⟨hc, hI⟩ hBx bX
   simp only [List.setIfInBounds_toArray, List.set_cons_zero, List.set_cons_succ]
   have hsx := pcs_sm hA.v.sm hB.v.sm hA.nd (List.mem_of_getElem? hx)
   have hz := hI.size
   have b0 := hI.b.c 0 _ rfl
   have c0 := bX.c 0 _ rfl
   have c1 := bX.c 1 _ rfl
   have hBW := Lib.hid (hB.v.below hI.bel)
   have hIz := Lib.hid hI
   have hcz := Lib.hid hc
   clear hI bX hc
   rcases whereP_cases (Cal.dblP vs) x.mid with hw | hw | hw
   ·have hex : Hid (inX (Cal.dblP vs) x = true) := by show _ = _; unfold inX; rw [hw]; rfl
    gi_wp2
    refine wpIn_region_held_drew (S := Sx W [(w.heap.size + 1, 0, .slice Vb vs.length db), (Bx, 0, .int .i64 x.mid.x), (Bx, 1, .int .i64 x.mid.y)]) (by kernel_rfl) (Sx.mk (by simp only [cs_iff_cons]; exact ⟨b0, c0, c1, cs_nil _⟩) (Below.refl _ _)).drew (fun hHeld => ?_)
    refine tkIx 0 14 ?_
    refine tkIx 2 16 ?_
    refine tkIx 3 17 ?_
    (refine ratI 1 (fun _ => trivial) (by decide +kernel) rfl (fun K hK => ?_); rw [if_pos (by kernel_rfl)]; go_simp)
    refine ⟨trivial, ?_⟩
    refine (callsIn_wide.2 (doubled_any2 _ _ _ _ (hBW.out.below hHeld.bel))).mono ?_
    rintro e wn ⟨rfl, hD, hbn⟩
    go_simp
    replace hD := Lib.hid hD
    (refine hK.out _ _ (hHeld.step hbn) (fun hHeld => ?_); clear hK K; (try simp only [apS, apN, siA, scZ, scS]))
    (refine ratI 4 (fun _ => trivial) (by decide +kernel) rfl (fun K hK => ?_); rw [if_pos (by kernel_rfl)]; go_simp)
    refine ⟨trivial, ?_⟩
    refine (callsIn_wide.2 (where_any _ _ _ _ _ hD.out hsx.1)).mono ?_
    rintro e wn ⟨rfl, hbn⟩
    rw [hw]
    go_simp
    (refine hK.out _ _ (hHeld.step hbn) (fun hHeld => ?_); clear hK K; (try simp only [apS, apN, siA, scZ, scS]))
    refine tkIx 5 19 ?_
    refine wpAnyInH_done (by decide +kernel) ?_ _
    gi_wp2
    have hbl := hIz.out.bel.size
    have hz5 := hHeld.bel.size
    refine ⟨(keepsF_below hHeld.bel).from _, KpP.below hHeld.bel (by omega) (by omega) (by omega), fun i y hi hy => ?_, hIz.out.below hHeld.bel⟩
    by_cases hik : i = k
    ·subst hik; rw [hx] at hy; cases hy; exact hex.out
    ·exact hcz.out i y (by omega) hy
   ·have hex : Hid (inX (Cal.dblP vs) x = true) := by show _ = _; unfold inX; rw [hw]; rfl
    gi_wp2
    refine wpIn_region_held_drew (S := Sx W [(w.heap.size + 1, 0, .slice Vb vs.length db), (Bx, 0, .int .i64 x.mid.x), (Bx, 1, .int .i64 x.mid.y)]) (by kernel_rfl) (Sx.mk (by simp only [cs_iff_cons]; exact ⟨b0, c0, c1, cs_nil _⟩) (Below.refl _ _)).drew (fun hHeld => ?_)
    refine tkIx 0 14 ?_
    refine tkIx 2 16 ?_
    refine tkIx 3 17 ?_
    (refine ratI 1 (fun _ => trivial) (by decide +kernel) rfl (fun K hK => ?_); rw [if_pos (by kernel_rfl)]; go_simp)
    refine ⟨trivial, ?_⟩
    refine (callsIn_wide.2 (doubled_any2 _ _ _ _ (hBW.out.below hHeld.bel))).mono ?_
    rintro e wn ⟨rfl, hD, hbn⟩
    go_simp
    replace hD := Lib.hid hD
    (refine hK.out _ _ (hHeld.step hbn) (fun hHeld => ?_); clear hK K; (try simp only [apS, apN, siA, scZ, scS]))
    (refine ratI 4 (fun _ => trivial) (by decide +kernel) rfl (fun K hK => ?_); rw [if_pos (by kernel_rfl)]; go_simp)
    refine ⟨trivial, ?_⟩
    refine (callsIn_wide.2 (where_any _ _ _ _ _ hD.out hsx.1)).mono ?_
    rintro e wn ⟨rfl, hbn⟩
    rw [hw]
    go_simp
    (refine hK.out _ _ (hHeld.step hbn) (fun hHeld => ?_); clear hK K; (try simp only [apS, apN, siA, scZ, scS]))
    refine tkIx 5 19 ?_
    refine wpAnyInH_done (by decide +kernel) ?_ _
    gi_wp2
    have hbl := hIz.out.bel.size
    have hz5 := hHeld.bel.size
    refine ⟨(keepsF_below hHeld.bel).from _, KpP.below hHeld.bel (by omega) (by omega) (by omega), fun i y hi hy => ?_, hIz.out.below hHeld.bel⟩
    by_cases hik : i = k
    ·subst hik; rw [hx] at hy; cases hy; exact hex.out
    ·exact hcz.out i y (by omega) hy
   ·have hex : Hid (inX (Cal.dblP vs) x = false) := by show _ = _; unfold inX; rw [hw]; rfl
    gi_wp2
    refine wpIn_region_held_drew (S := Sx W [(w.heap.size + 1, 0, .slice Vb vs.length db), (Bx, 0, .int .i64 x.mid.x), (Bx, 1, .int .i64 x.mid.y)]) (by kernel_rfl) (Sx.mk (by simp only [cs_iff_cons]; exact ⟨b0, c0, c1, cs_nil _⟩) (Below.refl _ _)).drew (fun hHeld => ?_)
    refine tkIx 0 14 ?_
    refine tkIx 2 16 ?_
    refine tkIx 3 17 ?_
    (refine ratI 1 (fun _ => trivial) (by decide +kernel) rfl (fun K hK => ?_); rw [if_pos (by kernel_rfl)]; go_simp)
    refine ⟨trivial, ?_⟩
    refine (callsIn_wide.2 (doubled_any2 _ _ _ _ (hBW.out.below hHeld.bel))).mono ?_
    rintro e wn ⟨rfl, hD, hbn⟩
    go_simp
    replace hD := Lib.hid hD
    (refine hK.out _ _ (hHeld.step hbn) (fun hHeld => ?_); clear hK K; (try simp only [apS, apN, siA, scZ, scS]))
    (refine ratI 4 (fun _ => trivial) (by decide +kernel) rfl (fun K hK => ?_); rw [if_pos (by kernel_rfl)]; go_simp)
    refine ⟨trivial, ?_⟩
    refine (callsIn_wide.2 (where_any _ _ _ _ _ hD.out hsx.1)).mono ?_
    rintro e wn ⟨rfl, hbn⟩
    rw [hw]
    go_simp
    (refine hK.out _ _ (hHeld.step hbn) (fun hHeld => ?_); clear hK K; (try simp only [apS, apN, siA, scZ, scS]))
    refine tkIx 5 19 ?_
    refine wpAnyInH_done (by decide +kernel) ?_ _
    have hI7 := Lib.hid (hIz.out.below hHeld.bel)
    obtain ⟨rv, hrv⟩ := hI7.out.r
    have r0 := hrv.c 0 _ rfl
    have r1 := hrv.free 0 Nat.zero_lt_one
    clear hrv
    gi_wp2
    have hbl := hIz.out.bel.size
    have hlt := hIz.out.lt
    have hz5 := hHeld.bel.size
    exact ⟨((keepsF_below hHeld.bel).trans (KeepsOthers.setCell _ _ _)).from _, (KpP.below hHeld.bel (by omega) (by omega) (by omega)).trans (KpP.set _ (by omega) (by omega) (by omega) (by omega)), rfl, pcs_all_false hx hex.out, hI7.out.no⟩
  case done =>
   rintro D W hD ⟨hc, hI⟩ hK
   replace hI := Lib.hid (hI.push hK)
   replace hc := Lib.hid (pcs_all_true hc)
   replace hK := Lib.hid hK
   have a0 := hI.out.a.c 0 _ rfl
   have b0 := hI.out.b.c 0 _ rfl
   gi_wp2_with (refine ⟨trivial, ?_⟩; gi_at_call 94; refine (callsIn_wide.2 (pieces_any _ _ _ _ _ _ _)).mono ?_; rintro e w3 ⟨rfl, rfl⟩)
   have hbelW := hI.out.bel
   have bP := (BoxAt.new W #[.slice Vb vs.length db] 48).alloc (.cells #[.slice Va us.length da] 48)
   have bO := BoxAt.new (W.alloc (.cells #[.slice Vb vs.length db] 48)) #[.slice Va us.length da] 48
   have hB6 : Below W.heap.size W ((W.alloc (.cells #[.slice Vb vs.length db] 48)).alloc (.cells #[.slice Va us.length da] 48)) := below_step (below_alloc _ _) (below_alloc _ _)
   have hs6 : ((W.alloc (.cells #[.slice Vb vs.length db] 48)).alloc (.cells #[.slice Va us.length da] 48)).heap.size = W.heap.size + 2 := by simp
   simp only [World.size_alloc] at bO
   obtain ⟨W6, hW6⟩ : ∃ W6, ((W.alloc (.cells #[.slice Vb vs.length db] 48)).alloc (.cells #[.slice Va us.length da] 48)) = W6 := ⟨_, rfl⟩
   rw [hW6] at bP bO hB6 hs6 ⊢
   clear hW6
   replace hs6 : W.heap.size + 2 ≤ W6.heap.size := Nat.le_of_eq hs6.symm
   have hszW := hI.out.size
   have hltW := hI.out.lt
   have hI6 := (hI.out.below hB6).up (N' := W6.heap.size) (by omega) (Nat.le_refl _)
   clear a0 b0
   refine wpIn_range_pieces (Bp := W.heap.size) (Bo := W.heap.size + 1) (n₀ := w.heap.size) (Vp := Vb) (Vo := Va) (dp := db) (do_ := da) (ps := vs) (os := us) rfl rfl (bP.c 0 _ rfl) (bO.c 0 _ rfl) (by omega) (by omega) ((hB.v.below hbelW).below hB6) ((hA.v.below hbelW).below hB6) hB.v.own hA.v.own (by omega) hA.len hB.nd
    (WiJ w Va Vb us.length da vs.length db W6.heap.size [D] (ouX (Cal.dblP us)) (Cal.pcsP vs us)) (WiX w W6.heap.size [D] ((Cal.pcsP vs us).all (ouX (Cal.dblP us)))) (wiJ_own w Va Vb _ _ _ _ _ [D] _ _ (Nat.le_refl _)) (wiX_own w _ [D] _ (Nat.le_refl _))
    (fun k X Y h ha => ⟨h.1, h.2.abM ha⟩) (fun c k X Y h ha => ⟨h.1, h.2.1, h.2.2.belowN (ha.mono (by have := h.2.2.size; omega))⟩) ⟨fun i x hi => by omega, hI6⟩
    (fun T x By => (T.setIfInBounds 23 (.agg #[.int .i64 x.mid.x, .int .i64 x.mid.y, .int .i64 (x.of.b.x - x.of.a.x), .int .i64 (x.of.b.y - x.of.a.y)])).setIfInBounds 6 (.pointer (some ⟨By, 0, none⟩)))
    ?assign2 ?body2 ?done2 ?stop2
   case assign2 =>
    rintro l k x Y K hx ⟨hc, hI⟩ hK
    gi_wp2
    have hz := hI.size
    exact hK Y.heap.size _ hz ((KeepsOthers.alloc _ _).from _) (KpP.below (below_alloc _ _) hI.bel.size (by omega) (by omega)) ⟨hc, hI.below (below_alloc _ _)⟩ (BoxAt.new Y #[.int .i64 x.mid.x, .int .i64 x.mid.y, .int .i64 (x.of.b.x - x.of.a.x), .int .i64 (x.of.b.y - x.of.a.y)] _)
   case body2 =>
    clear hI6 hI hK hbelW hI0
    rintro l k x Bx Y hl ⟨r, hr⟩ hx ⟨hc2, hI⟩ hBx bX
    simp only [List.setIfInBounds_toArray, List.set_cons_zero, List.set_cons_succ]
    have hsx := pcs_sm hB.v.sm hA.v.sm hB.nd (List.mem_of_getElem? hx)
    have hz := hI.size
    have b0 := hI.a.c 0 _ rfl
    have c0 := bX.c 0 _ rfl
    have c1 := bX.c 1 _ rfl
    have hBW := Lib.hid (hA.v.below hI.bel)
    have hIz := Lib.hid hI
    have hcz := Lib.hid hc2
    clear hI bX hc2
    rcases whereP_cases (Cal.dblP us) x.mid with hw | hw | hw
    ·have hex : Hid (ouX (Cal.dblP us) x = false) := by show _ = _; unfold ouX; rw [hw]; rfl
     gi_wp2
     refine wpIn_region_held_drew (S := Sx Y [(w.heap.size, 0, .slice Va us.length da), (Bx, 0, .int .i64 x.mid.x), (Bx, 1, .int .i64 x.mid.y)]) (by kernel_rfl) (Sx.mk (by simp only [cs_iff_cons]; exact ⟨b0, c0, c1, cs_nil _⟩) (Below.refl _ _)).drew (fun hHeld => ?_)
     refine tkIx 0 24 ?_
     refine tkIx 2 26 ?_
     refine tkIx 3 27 ?_
     (refine ratI 1 (fun _ => trivial) (by decide +kernel) rfl (fun K hK => ?_); rw [if_pos (by kernel_rfl)]; go_simp)
     refine ⟨trivial, ?_⟩
     refine (callsIn_wide.2 (doubled_any2 _ _ _ _ (hBW.out.below hHeld.bel))).mono ?_
     rintro e wn ⟨rfl, hD, hbn⟩
     go_simp
     replace hD := Lib.hid hD
     (refine hK.out _ _ (hHeld.step hbn) (fun hHeld => ?_); clear hK K; (try simp only [apS, apN, siA, scZ, scS]))
     (refine ratI 4 (fun _ => trivial) (by decide +kernel) rfl (fun K hK => ?_); rw [if_pos (by kernel_rfl)]; go_simp)
     refine ⟨trivial, ?_⟩
     refine (callsIn_wide.2 (where_any _ _ _ _ _ hD.out hsx.1)).mono ?_
     rintro e wn ⟨rfl, hbn⟩
     rw [hw]
     go_simp
     (refine hK.out _ _ (hHeld.step hbn) (fun hHeld => ?_); clear hK K; (try simp only [apS, apN, siA, scZ, scS]))
     refine tkIx 5 29 ?_
     refine wpAnyInH_done (by decide +kernel) ?_ _
     have hI7 := Lib.hid (hIz.out.below hHeld.bel)
     obtain ⟨rv, hrv⟩ := hI7.out.r
     have r0 := hrv.c 0 _ rfl
     have r1 := hrv.free 0 Nat.zero_lt_one
     clear hrv
     gi_wp2
     have hbl := hIz.out.bel.size
     have hlt := hIz.out.lt
     have hz5 := hHeld.bel.size
     exact ⟨((keepsF_below hHeld.bel).trans (KeepsOthers.setCell _ _ _)).from _, (KpP.below hHeld.bel (by omega) (by omega) (by omega)).trans (KpP.set _ (by omega) (by omega) (by omega) (by omega)), rfl, pcs_all_false hx hex.out, hI7.out.no⟩
    ·have hex : Hid (ouX (Cal.dblP us) x = true) := by show _ = _; unfold ouX; rw [hw]; rfl
     gi_wp2
     refine wpIn_region_held_drew (S := Sx Y [(w.heap.size, 0, .slice Va us.length da), (Bx, 0, .int .i64 x.mid.x), (Bx, 1, .int .i64 x.mid.y)]) (by kernel_rfl) (Sx.mk (by simp only [cs_iff_cons]; exact ⟨b0, c0, c1, cs_nil _⟩) (Below.refl _ _)).drew (fun hHeld => ?_)
     refine tkIx 0 24 ?_
     refine tkIx 2 26 ?_
     refine tkIx 3 27 ?_
     (refine ratI 1 (fun _ => trivial) (by decide +kernel) rfl (fun K hK => ?_); rw [if_pos (by kernel_rfl)]; go_simp)
     refine ⟨trivial, ?_⟩
     refine (callsIn_wide.2 (doubled_any2 _ _ _ _ (hBW.out.below hHeld.bel))).mono ?_
     rintro e wn ⟨rfl, hD, hbn⟩
     go_simp
     replace hD := Lib.hid hD
     (refine hK.out _ _ (hHeld.step hbn) (fun hHeld => ?_); clear hK K; (try simp only [apS, apN, siA, scZ, scS]))
     (refine ratI 4 (fun _ => trivial) (by decide +kernel) rfl (fun K hK => ?_); rw [if_pos (by kernel_rfl)]; go_simp)
     refine ⟨trivial, ?_⟩
     refine (callsIn_wide.2 (where_any _ _ _ _ _ hD.out hsx.1)).mono ?_
     rintro e wn ⟨rfl, hbn⟩
     rw [hw]
     go_simp
     (refine hK.out _ _ (hHeld.step hbn) (fun hHeld => ?_); clear hK K; (try simp only [apS, apN, siA, scZ, scS]))
     refine tkIx 5 29 ?_
     refine wpAnyInH_done (by decide +kernel) ?_ _
     gi_wp2
     have hbl := hIz.out.bel.size
     have hz5 := hHeld.bel.size
     refine ⟨(keepsF_below hHeld.bel).from _, KpP.below hHeld.bel (by omega) (by omega) (by omega), fun i y hi hy => ?_, hIz.out.below hHeld.bel⟩
     by_cases hik : i = k
     ·subst hik; rw [hx] at hy; cases hy; exact hex.out
     ·exact hcz.out i y (by omega) hy
    ·have hex : Hid (ouX (Cal.dblP us) x = true) := by show _ = _; unfold ouX; rw [hw]; rfl
     gi_wp2
     refine wpIn_region_held_drew (S := Sx Y [(w.heap.size, 0, .slice Va us.length da), (Bx, 0, .int .i64 x.mid.x), (Bx, 1, .int .i64 x.mid.y)]) (by kernel_rfl) (Sx.mk (by simp only [cs_iff_cons]; exact ⟨b0, c0, c1, cs_nil _⟩) (Below.refl _ _)).drew (fun hHeld => ?_)
     refine tkIx 0 24 ?_
     refine tkIx 2 26 ?_
     refine tkIx 3 27 ?_
     (refine ratI 1 (fun _ => trivial) (by decide +kernel) rfl (fun K hK => ?_); rw [if_pos (by kernel_rfl)]; go_simp)
     refine ⟨trivial, ?_⟩
     refine (callsIn_wide.2 (doubled_any2 _ _ _ _ (hBW.out.below hHeld.bel))).mono ?_
     rintro e wn ⟨rfl, hD, hbn⟩
     go_simp
     replace hD := Lib.hid hD
     (refine hK.out _ _ (hHeld.step hbn) (fun hHeld => ?_); clear hK K; (try simp only [apS, apN, siA, scZ, scS]))
     (refine ratI 4 (fun _ => trivial) (by decide +kernel) rfl (fun K hK => ?_); rw [if_pos (by kernel_rfl)]; go_simp)
     refine ⟨trivial, ?_⟩
     refine (callsIn_wide.2 (where_any _ _ _ _ _ hD.out hsx.1)).mono ?_
     rintro e wn ⟨rfl, hbn⟩
     rw [hw]
     go_simp
     (refine hK.out _ _ (hHeld.step hbn) (fun hHeld => ?_); clear hK K; (try simp only [apS, apN, siA, scZ, scS]))
     refine tkIx 5 29 ?_
     refine wpAnyInH_done (by decide +kernel) ?_ _
     gi_wp2
     have hbl := hIz.out.bel.size
     have hz5 := hHeld.bel.size
     refine ⟨(keepsF_below hHeld.bel).from _, KpP.below hHeld.bel (by omega) (by omega) (by omega), fun i y hi hy => ?_, hIz.out.below hHeld.bel⟩
     by_cases hik : i = k
     ·subst hik; rw [hx] at hy; cases hy; exact hex.out
     ·exact hcz.out i y (by omega) hy
   case done2 =>
    rintro D2 Z hD2 ⟨hc2, hI⟩ hK2
    obtain ⟨v, hr⟩ := hI.r
    have r0 := hr.c 0 _ rfl
    have r1 := hr.free 0 Nat.zero_lt_one
    have hc3 := pcs_all_true hc2
    have hAll := Lib.hid (And.intro hc3 (And.intro hI (And.intro hK2 hr)))
    clear hc2 hc3 hI hK2 hr
    gi_wp2
    obtain ⟨hc3, hI, hK2, hr⟩ := hAll.out
    have hd := hI.dd D List.mem_cons_self
    have hlt3 := hI.lt
    have hr1 := hr.set 0 (.bool true) Nat.zero_lt_one
    have hko := KeepsOthers.setCell Z ⟨w.heap.size + 1 + 1, 0, none⟩ (.bool true)
    have hK' := hko.same D2 _ hK2 rfl
    have hK1 := hko.same D _ hd.2 rfl
    have ho' : Others (Z.setCell ⟨w.heap.size + 1 + 1, 0, none⟩ (.bool true)) (some D2) := fun r e => by cases e; exact ⟨_, hK', rfl⟩
    have hK1' : (World.putObj (Z.setCell ⟨w.heap.size + 1 + 1, 0, none⟩ (.bool true)) D2 (.deferred none)).heap[D]? = some (.deferred (some [])) := (World.putObj_heap_other (by omega)).trans hK1
    have hr2 := (hr1).keptF (grownBy_putObj' _ D2 (.deferred none)) ho'
    have ho2 : Others (World.putObj (Z.setCell ⟨w.heap.size + 1 + 1, 0, none⟩ (.bool true)) D2 (.deferred none)) (some D) := fun r e => by cases e; exact ⟨_, hK1', rfl⟩
    have q5 := (hr2.keptF (grownBy_putObj' _ D (.deferred none)) ho2).c 0 _ rfl
    refine ⟨by simp, .inl ⟨_, _, rfl, run_takeDeferred hK', by simp, .inl ⟨_, _, rfl, run_takeDeferred hK1', ?_⟩⟩⟩
    exact ⟨_, results_c1 rfl _ _ ⟨w.heap.size + 1 + 1, 0, none⟩ (.bool true) rfl (by simp [loadVar, go_sem, q5]), by rw [hc.out, hc3]; rfl, belowF_put (belowF_put (hI.bel.setCell (p := ⟨w.heap.size + 1 + 1, 0, none⟩) (show w.heap.size ≤ w.heap.size + 1 + 1 by omega) _) (by omega) _) (by omega) _⟩
   case stop2 =>
    rintro D2 c k Z hD2 hk ⟨rfl, h0, hZ⟩ hK2
    have hAll := Lib.hid (And.intro h0 (And.intro hZ hK2))
    clear h0 hZ hK2
    gi_wp2
    obtain ⟨h0, hZ, hK'⟩ := hAll.out
    have hd := hZ.dd D List.mem_cons_self
    have hlt3 := hZ.lt
    have hK1 := hd.2
    have ho' : Others Z (some D2) := fun r e => by cases e; exact ⟨_, hK', rfl⟩
    have hK1' : (World.putObj Z D2 (.deferred none)).heap[D]? = some (.deferred (some [])) := (World.putObj_heap_other (by omega)).trans hK1
    have hr2 := (hZ.r).keptF (grownBy_putObj' _ D2 (.deferred none)) ho'
    have ho2 : Others (World.putObj Z D2 (.deferred none)) (some D) := fun r e => by cases e; exact ⟨_, hK1', rfl⟩
    have q5 := (hr2.keptF (grownBy_putObj' _ D (.deferred none)) ho2).c 0 _ rfl
    refine ⟨by simp, .inl ⟨_, _, rfl, run_takeDeferred hK', by simp, .inl ⟨_, _, rfl, run_takeDeferred hK1', ?_⟩⟩⟩
    exact ⟨_, results_c1 rfl _ _ ⟨w.heap.size + 1 + 1, 0, none⟩ (.bool false) rfl (by simp [loadVar, go_sem, q5]), by rw [hc.out, h0]; rfl, belowF_put (belowF_put hZ.bel (by omega) _) (by omega) _⟩
  case stop =>
   rintro D c k W hD hk ⟨rfl, h0, hZ⟩ hK
   have hAll := Lib.hid (And.intro h0 (And.intro hZ hK))
   clear h0 hZ hK
   gi_wp2
   obtain ⟨h0, hZ, hK⟩ := hAll.out
   have ho' : Others W (some D) := fun r e => by cases e; exact ⟨_, hK, rfl⟩
   refine ⟨by simp, .inl ⟨_, _, rfl, run_takeDeferred hK, ?_⟩⟩
   have q5 := (hZ.r.keptF (grownBy_putObj' W D (.deferred none)) ho').c 0 _ rfl
   exact ⟨_, results_c1 rfl _ _ ⟨w.heap.size + 1 + 1, 0, none⟩ (.bool false) rfl (by simp [loadVar, go_sem, q5]), by rw [h0]; rfl, belowF_put hZ.bel (by omega) _⟩
 ·gi_wp2_with (refine ⟨trivial, ?_⟩; gi_at_call 84; refine (callsIn_wide.2 (crossing_any _ _ _ _ _ _ _ hAx.out.v.pts hBx.out.v.pts)).mono ?_; rintro e w2 ⟨rfl, hb2⟩; rw [h1.out]; replace hI := Lib.hid (hI.out.below hb2); clear hb2; obtain ⟨rv, hrv⟩ := hI.out.r; have r0 := hrv.c 0 _ rfl; have r1 := hrv.free 0 Nat.zero_lt_one; replace hrv := Lib.hid hrv)
  have q5 := (hrv.out.set 0 (.bool false) Nat.zero_lt_one).c 0 _ rfl
  exact ⟨_, results_c1 rfl _ _ ⟨w.heap.size + 1 + 1, 0, none⟩ (.bool false) rfl (by simp [loadVar, go_sem, q5]), rfl, hI.out.bel.setCell (p := ⟨w.heap.size + 1 + 1, 0, none⟩) (show w.heap.size ≤ w.heap.size + 1 + 1 by omega) _⟩
end Go.Proofs.Ytfcjeejhdklkdaa
namespace Go.Proofs.Ytfcjeejhdklkdaa
open Go Go.RowKit Go.Shelf
attribute [local go_sem] Oper.semAt_some
theorem common_s (s t : Sd) (w : World) (hs : SmS s) (ht : SmS t) (h1 : Cal.trn s t.a = 0) (h2 : Cal.trn s t.b = 0) (h3 : 0 < Cal.alongS s t.a t.b) :
  Calls Try.prog 87 #[.agg #[.int .i64 s.a.x, .int .i64 s.a.y, .int .i64 s.b.x, .int .i64 s.b.y], .agg #[.int .i64 t.a.x, .int .i64 t.a.y, .int .i64 t.b.x, .int .i64 t.b.y]] w fun e w' => e = .returned (.tuple #[.agg #[.int .i64 (comT s t).1.a.x, .int .i64 (comT s t).1.a.y, .int .i64 (comT s t).1.b.x, .int .i64 (comT s t).1.b.y], .bool (comT s t).2]) ∧ Below w.heap.size w w' := by
 have hmo : (Try.prog).follows Departure.mixedOrders = true := by kernel_rfl
 obtain ⟨u, hut⟩ : ∃ u : Sd, u = ⟨t.b, t.a⟩ := ⟨_, rfl⟩
 have hu : SmS u := hut ▸ ⟨ht.b, ht.a⟩
 have hR : Hid (comT s t = (⟨if 0 < Cal.alongS s u.a s.a then u.a else s.a, if Cal.alongS s u.b s.b < 0 then u.b else s.b⟩, decide (Cal.alongS s (if 0 < Cal.alongS s u.a s.a then u.a else s.a) (if Cal.alongS s u.b s.b < 0 then u.b else s.b) < 0))) := by show _ = _; unfold comT; rw [if_pos ⟨h1, h2⟩, if_pos h3, hut]
 replace hut := Lib.hid hut
 have d3 : decide (0 < Cal.alongS s t.a t.b) = true := decide_eq_true h3
 replace h1 := Lib.hid h1
 replace h2 := Lib.hid h2
 replace h3 := Lib.hid h3
 have hI := Lib.hid (CmI.first w s t)
 have m1 : Hid True := trivial
 go_enter Try.func87, Try.ntmps87
 go_wp2_with (first
  |(go_at_call 105; clear m1; refine (turn_any s t.a _ hs ht.a).mono ?_; rintro e wn ⟨rfl, hbn⟩; rw [h1.out]; replace hI := Lib.hid (hI.out.below hbn); clear hbn; have a0 := hI.out.s.c 0 _ rfl; have a1 := hI.out.s.c 1 _ rfl; have a2 := hI.out.s.c 2 _ rfl; have a3 := hI.out.s.c 3 _ rfl; have b0 := hI.out.t.c 0 _ rfl; have b1 := hI.out.t.c 1 _ rfl; have b2 := hI.out.t.c 2 _ rfl; have b3 := hI.out.t.c 3 _ rfl; have f0 := hI.out.t.free 0 (by simp); have f1 := hI.out.t.free 1 (by simp); have f2 := hI.out.t.free 2 (by simp); have f3 := hI.out.t.free 3 (by simp))
  |(go_at_call 105; refine (turn_any s t.b _ hs ht.b).mono ?_; clear a0 a1 a2 a3 b0 b1 b2 b3 f0 f1 f2 f3; rintro e wn ⟨rfl, hbn⟩; rw [h2.out]; replace hI := Lib.hid (hI.out.below hbn); clear hbn; have a0 := hI.out.s.c 0 _ rfl; have a1 := hI.out.s.c 1 _ rfl; have a2 := hI.out.s.c 2 _ rfl; have a3 := hI.out.s.c 3 _ rfl; have b0 := hI.out.t.c 0 _ rfl; have b1 := hI.out.t.c 1 _ rfl; have b2 := hI.out.t.c 2 _ rfl; have b3 := hI.out.t.c 3 _ rfl; have f0 := hI.out.t.free 0 (by simp); have f1 := hI.out.t.free 1 (by simp); have f2 := hI.out.t.free 2 (by simp); have f3 := hI.out.t.free 3 (by simp))
  |(go_at_call 110; refine (along_any s t.a t.b _ hs ht.a ht.b).mono ?_; clear a0 a1 a2 a3 b0 b1 b2 b3 f0 f1 f2 f3; rintro e wn ⟨rfl, hbn⟩; replace hI := Lib.hid (hI.out.below hbn); clear hbn; have a0 := hI.out.s.c 0 _ rfl; have a1 := hI.out.s.c 1 _ rfl; have a2 := hI.out.s.c 2 _ rfl; have a3 := hI.out.s.c 3 _ rfl; have b0 := hI.out.t.c 0 _ rfl; have b1 := hI.out.t.c 1 _ rfl; have b2 := hI.out.t.c 2 _ rfl; have b3 := hI.out.t.c 3 _ rfl; have f0 := hI.out.t.free 0 (by simp); have f1 := hI.out.t.free 1 (by simp); have f2 := hI.out.t.free 2 (by simp); have f3 := hI.out.t.free 3 (by simp)))
 replace hI := Lib.hid hI.out.swap
 obtain ⟨W4, hW4⟩ : ∃ W4, (((wn.setCell ⟨w.heap.size + 1, 0, none⟩ (.int .i64 t.b.x)).setCell ⟨w.heap.size + 1, 1, none⟩ (.int .i64 t.b.y)).setCell ⟨w.heap.size + 1, 2, none⟩ (.int .i64 t.a.x)).setCell ⟨w.heap.size + 1, 3, none⟩ (.int .i64 t.a.y) = W4 := ⟨_, rfl⟩
 rw [hW4, ← hut.out] at hI
 rw [hW4]
 clear hW4
 clear a0 a1 a2 a3 b0 b1 b2 b3 f0 f1 f2 f3
 have a0 := hI.out.s.c 0 _ rfl; have a1 := hI.out.s.c 1 _ rfl; have a2 := hI.out.s.c 2 _ rfl; have a3 := hI.out.s.c 3 _ rfl; have b0 := hI.out.t.c 0 _ rfl; have b1 := hI.out.t.c 1 _ rfl; have b2 := hI.out.t.c 2 _ rfl; have b3 := hI.out.t.c 3 _ rfl; have f0 := hI.out.t.free 0 (by simp); have f1 := hI.out.t.free 1 (by simp); have f2 := hI.out.t.free 2 (by simp); have f3 := hI.out.t.free 3 (by simp)
 have l0 := hI.out.s.lt
 have l1 := hI.out.t.lt
 have l2 := hI.out.z.lt
 have n0 : ¬ w.heap.size = W4.heap.size := by omega
 have n1 : ¬ w.heap.size + 1 = W4.heap.size := by omega
 have n2 : ¬ w.heap.size + 1 + 1 = W4.heap.size := by omega
 have hJ1 := Lib.hid (CmJ.new hI.out s.a s.b)
 have hJ2 := Lib.hid (CmJ.new hI.out s.b s.a).flip
 clear d3
 go_region_o
 ·clear n0 n1 n2 hJ2 l0 l1 l2
  clear a0 a1 a2 a3 b0 b1 b2 b3 f0 f1 f2 f3
  obtain ⟨Bf, hn⟩ : ∃ n, W4.heap.size = n := ⟨_, rfl⟩
  generalize ((W4.alloc (.cells #[.int .i64 s.a.x, .int .i64 s.a.y] 75)).alloc (.cells #[.int .i64 s.b.x, .int .i64 s.b.y] 75)).drew = X at hJ1 ⊢
  rw [hn] at hJ1 ⊢
  clear hI hn
  obtain ⟨Be, hBe⟩ : ∃ B, Bf + 1 = B := ⟨_, rfl⟩
  rw [hBe] at hJ1 ⊢
  clear hBe
  have hJ := hJ1
  clear hJ1
  have k0 := hJ.out.hf
  have k1 := hJ.out.he
  have k2 := hJ.out.ne
  have n0 : ¬ Bf = Be := k2
  have n1 : ¬ Be = Bf := fun e => k2 e.symm
  have n2 : ¬ Bf = w.heap.size := by omega
  have n3 : ¬ Bf = w.heap.size + 1 := by omega
  have n4 : ¬ Be = w.heap.size := by omega
  have n5 : ¬ Be = w.heap.size + 1 := by omega
  clear k2
  (have a0 := hJ.out.base.s.c 0 _ rfl; have a1 := hJ.out.base.s.c 1 _ rfl; have a2 := hJ.out.base.s.c 2 _ rfl; have a3 := hJ.out.base.s.c 3 _ rfl; have b0 := hJ.out.base.t.c 0 _ rfl; have b1 := hJ.out.base.t.c 1 _ rfl; have b2 := hJ.out.base.t.c 2 _ rfl; have b3 := hJ.out.base.t.c 3 _ rfl; have f0 := hJ.out.f.c 0 _ rfl; have f1 := hJ.out.f.c 1 _ rfl; have e0 := hJ.out.e.c 0 _ rfl; have e1 := hJ.out.e.c 1 _ rfl; have f2 := hJ.out.f.free 0 (by simp); have f3 := hJ.out.f.free 1 (by simp); have e2 := hJ.out.e.free 0 (by simp); have e3 := hJ.out.e.free 1 (by simp))
  by_cases c1 : 0 < Cal.alongS s u.a s.a
  ·have d1 : decide (0 < Cal.alongS s u.a s.a) = true := decide_eq_true c1
   have hF : Hid ((if 0 < Cal.alongS s u.a s.a then u.a else s.a) = u.a) := if_pos c1
   replace c1 := Lib.hid c1
   have m2 : Hid True := trivial
   go_wp2_with (go_at_call 110; clear m2; refine (along_any s u.a s.a _ hs hu.a hs.a).mono ?_; clear a0 a1 a2 a3 b0 b1 b2 b3 f0 f1 f2 f3 e0 e1 e2 e3; rintro e X2 ⟨rfl, hbn⟩; replace hJ := Lib.hid (hJ.out.below hbn); clear hbn; (have a0 := hJ.out.base.s.c 0 _ rfl; have a1 := hJ.out.base.s.c 1 _ rfl; have a2 := hJ.out.base.s.c 2 _ rfl; have a3 := hJ.out.base.s.c 3 _ rfl; have b0 := hJ.out.base.t.c 0 _ rfl; have b1 := hJ.out.base.t.c 1 _ rfl; have b2 := hJ.out.base.t.c 2 _ rfl; have b3 := hJ.out.base.t.c 3 _ rfl; have f0 := hJ.out.f.c 0 _ rfl; have f1 := hJ.out.f.c 1 _ rfl; have e0 := hJ.out.e.c 0 _ rfl; have e1 := hJ.out.e.c 1 _ rfl; have f2 := hJ.out.f.free 0 (by simp); have f3 := hJ.out.f.free 1 (by simp); have e2 := hJ.out.e.free 0 (by simp); have e3 := hJ.out.e.free 1 (by simp)))
   replace hJ := Lib.hid (hJ.out.setF u.a)
   clear a0 a1 a2 a3 b0 b1 b2 b3 f0 f1 f2 f3 e0 e1 e2 e3
   refine (along_any s u.b s.b _ hs hu.b hs.b).mono ?_
   rintro e X3 ⟨rfl, hbn⟩
   replace hJ := Lib.hid (hJ.out.below hbn)
   clear hbn
   (have a0 := hJ.out.base.s.c 0 _ rfl; have a1 := hJ.out.base.s.c 1 _ rfl; have a2 := hJ.out.base.s.c 2 _ rfl; have a3 := hJ.out.base.s.c 3 _ rfl; have b0 := hJ.out.base.t.c 0 _ rfl; have b1 := hJ.out.base.t.c 1 _ rfl; have b2 := hJ.out.base.t.c 2 _ rfl; have b3 := hJ.out.base.t.c 3 _ rfl; have f0 := hJ.out.f.c 0 _ rfl; have f1 := hJ.out.f.c 1 _ rfl; have e0 := hJ.out.e.c 0 _ rfl; have e1 := hJ.out.e.c 1 _ rfl; have f2 := hJ.out.f.free 0 (by simp); have f3 := hJ.out.f.free 1 (by simp); have e2 := hJ.out.e.free 0 (by simp); have e3 := hJ.out.e.free 1 (by simp))
   by_cases c2 : Cal.alongS s u.b s.b < 0
   ·have d2 : decide (Cal.alongS s u.b s.b < 0) = true := decide_eq_true c2
    have hE : Hid (comT s t = (⟨u.a, u.b⟩, decide (Cal.alongS s u.a u.b < 0))) := by show _ = _; rw [hR.out, hF.out, if_pos c2]
    replace c2 := Lib.hid c2
    go_wp2_with fail
    replace hJ := Lib.hid (hJ.out.setE u.b)
    obtain ⟨Y, hY⟩ : ∃ Y, (X3.setCell ⟨Be, 0, none⟩ (.int .i64 u.b.x)).setCell ⟨Be, 1, none⟩ (.int .i64 u.b.y) = Y := ⟨_, rfl⟩
    rw [hY] at hJ ⊢
    clear hY
    clear a0 a1 a2 a3 b0 b1 b2 b3 f0 f1 f2 f3 e0 e1 e2 e3
    refine wp_region_held_drew (S := CmK w s Bf Be u.a u.b) (by kernel_rfl) (hJ.out.k.below ((Below.refl _ _).drew)) (fun hHeld => ?_)
    refine tkCx 0 54 ?_
    refine tkCx 1 55 ?_
    refine tkCx 2 56 ?_
    refine tkCx 3 57 ?_
    refine tkCx 4 58 ?_
    refine tkCx 5 59 ?_
    (refine ratHx 6 (fun K hK => ?_); go_simp)
    refine (along_any s u.a u.b _ hs hu.a hu.b).mono ?_
    rintro e9 wn ⟨rfl, hbn⟩
    go_simp
    refine hK.out _ _ (hHeld.below hbn) (fun hHeld => ?_)
    clear hK K hbn
    (try simp only [apS, apN, siA, scZ, scS])
    refine tkCx 7 61 ?_
    obtain ⟨z0, z1, z2, z3, hz⟩ := hHeld.z
    have r0 := hz.c 0 _ rfl
    have r1 := hz.c 1 _ rfl
    have r2 := hz.c 2 _ rfl
    have r3 := hz.c 3 _ rfl
    have g0 := hz.free 0 (by simp)
    have g1 := hz.free 1 (by simp)
    have g2 := hz.free 2 (by simp)
    have g3 := hz.free 3 (by simp)
    have hz9 := Lib.hid ((((hz.set 0 (.int .i64 u.a.x) (by simp)).set 1 (.int .i64 u.a.y) (by simp)).set 2 (.int .i64 u.b.x) (by simp)).set 3 (.int .i64 u.b.y) (by simp))
    (refine ratHx 8 (fun K hK => ?_); go_simp)
    refine hK.out _ _ ((((hHeld.store 0 (by omega) _).store 1 (by omega) _).store 2 (by omega) _).store 3 (by omega) _) (fun hHeld => ?_)
    clear hK K
    (try simp only [apS, apN, siA, scZ, scS])
    refine tkCx 9 5 ?_
    refine wpAnyH_done (by kernel_rfl) ?_ _
    go_wp2_with fail
    refine bodyPost_ret (results_mid2 rfl _ _ (w.heap.size + 1 + 1) [.int .i64 u.a.x, .int .i64 u.a.y, .int .i64 u.b.x, .int .i64 u.b.y] _ rfl hz9.out.range Try.underlying97 rfl sgSize) rfl ⟨(by rw [hE.out]; rfl), hHeld.bel⟩
   ·have d2 : decide (Cal.alongS s u.b s.b < 0) = false := decide_eq_false c2
    have hE : Hid (comT s t = (⟨u.a, s.b⟩, decide (Cal.alongS s u.a s.b < 0))) := by show _ = _; rw [hR.out, hF.out, if_neg c2]
    replace c2 := Lib.hid c2
    go_wp2_with fail
    clear a0 a1 a2 a3 b0 b1 b2 b3 f0 f1 f2 f3 e0 e1 e2 e3
    refine wp_region_held_drew (S := CmK w s Bf Be u.a s.b) (by kernel_rfl) (hJ.out.k.below ((Below.refl _ _).drew)) (fun hHeld => ?_)
    refine tkCx 0 54 ?_
    refine tkCx 1 55 ?_
    refine tkCx 2 56 ?_
    refine tkCx 3 57 ?_
    refine tkCx 4 58 ?_
    refine tkCx 5 59 ?_
    (refine ratHx 6 (fun K hK => ?_); go_simp)
    refine (along_any s u.a s.b _ hs hu.a hs.b).mono ?_
    rintro e9 wn ⟨rfl, hbn⟩
    go_simp
    refine hK.out _ _ (hHeld.below hbn) (fun hHeld => ?_)
    clear hK K hbn
    (try simp only [apS, apN, siA, scZ, scS])
    refine tkCx 7 61 ?_
    obtain ⟨z0, z1, z2, z3, hz⟩ := hHeld.z
    have r0 := hz.c 0 _ rfl
    have r1 := hz.c 1 _ rfl
    have r2 := hz.c 2 _ rfl
    have r3 := hz.c 3 _ rfl
    have g0 := hz.free 0 (by simp)
    have g1 := hz.free 1 (by simp)
    have g2 := hz.free 2 (by simp)
    have g3 := hz.free 3 (by simp)
    have hz9 := Lib.hid ((((hz.set 0 (.int .i64 u.a.x) (by simp)).set 1 (.int .i64 u.a.y) (by simp)).set 2 (.int .i64 s.b.x) (by simp)).set 3 (.int .i64 s.b.y) (by simp))
    (refine ratHx 8 (fun K hK => ?_); go_simp)
    refine hK.out _ _ ((((hHeld.store 0 (by omega) _).store 1 (by omega) _).store 2 (by omega) _).store 3 (by omega) _) (fun hHeld => ?_)
    clear hK K
    (try simp only [apS, apN, siA, scZ, scS])
    refine tkCx 9 5 ?_
    refine wpAnyH_done (by kernel_rfl) ?_ _
    go_wp2_with fail
    refine bodyPost_ret (results_mid2 rfl _ _ (w.heap.size + 1 + 1) [.int .i64 u.a.x, .int .i64 u.a.y, .int .i64 s.b.x, .int .i64 s.b.y] _ rfl hz9.out.range Try.underlying97 rfl sgSize) rfl ⟨(by rw [hE.out]; rfl), hHeld.bel⟩
  ·have d1 : decide (0 < Cal.alongS s u.a s.a) = false := decide_eq_false c1
   have hF : Hid ((if 0 < Cal.alongS s u.a s.a then u.a else s.a) = s.a) := if_neg c1
   replace c1 := Lib.hid c1
   have m2 : Hid True := trivial
   go_wp2_with (go_at_call 110; clear m2; refine (along_any s u.a s.a _ hs hu.a hs.a).mono ?_; clear a0 a1 a2 a3 b0 b1 b2 b3 f0 f1 f2 f3 e0 e1 e2 e3; rintro e X2 ⟨rfl, hbn⟩; replace hJ := Lib.hid (hJ.out.below hbn); clear hbn; (have a0 := hJ.out.base.s.c 0 _ rfl; have a1 := hJ.out.base.s.c 1 _ rfl; have a2 := hJ.out.base.s.c 2 _ rfl; have a3 := hJ.out.base.s.c 3 _ rfl; have b0 := hJ.out.base.t.c 0 _ rfl; have b1 := hJ.out.base.t.c 1 _ rfl; have b2 := hJ.out.base.t.c 2 _ rfl; have b3 := hJ.out.base.t.c 3 _ rfl; have f0 := hJ.out.f.c 0 _ rfl; have f1 := hJ.out.f.c 1 _ rfl; have e0 := hJ.out.e.c 0 _ rfl; have e1 := hJ.out.e.c 1 _ rfl; have f2 := hJ.out.f.free 0 (by simp); have f3 := hJ.out.f.free 1 (by simp); have e2 := hJ.out.e.free 0 (by simp); have e3 := hJ.out.e.free 1 (by simp)))
   clear a0 a1 a2 a3 b0 b1 b2 b3 f0 f1 f2 f3 e0 e1 e2 e3
   refine (along_any s u.b s.b _ hs hu.b hs.b).mono ?_
   rintro e X3 ⟨rfl, hbn⟩
   replace hJ := Lib.hid (hJ.out.below hbn)
   clear hbn
   (have a0 := hJ.out.base.s.c 0 _ rfl; have a1 := hJ.out.base.s.c 1 _ rfl; have a2 := hJ.out.base.s.c 2 _ rfl; have a3 := hJ.out.base.s.c 3 _ rfl; have b0 := hJ.out.base.t.c 0 _ rfl; have b1 := hJ.out.base.t.c 1 _ rfl; have b2 := hJ.out.base.t.c 2 _ rfl; have b3 := hJ.out.base.t.c 3 _ rfl; have f0 := hJ.out.f.c 0 _ rfl; have f1 := hJ.out.f.c 1 _ rfl; have e0 := hJ.out.e.c 0 _ rfl; have e1 := hJ.out.e.c 1 _ rfl; have f2 := hJ.out.f.free 0 (by simp); have f3 := hJ.out.f.free 1 (by simp); have e2 := hJ.out.e.free 0 (by simp); have e3 := hJ.out.e.free 1 (by simp))
   by_cases c2 : Cal.alongS s u.b s.b < 0
   ·have d2 : decide (Cal.alongS s u.b s.b < 0) = true := decide_eq_true c2
    have hE : Hid (comT s t = (⟨s.a, u.b⟩, decide (Cal.alongS s s.a u.b < 0))) := by show _ = _; rw [hR.out, hF.out, if_pos c2]
    replace c2 := Lib.hid c2
    go_wp2_with fail
    replace hJ := Lib.hid (hJ.out.setE u.b)
    obtain ⟨Y, hY⟩ : ∃ Y, (X3.setCell ⟨Be, 0, none⟩ (.int .i64 u.b.x)).setCell ⟨Be, 1, none⟩ (.int .i64 u.b.y) = Y := ⟨_, rfl⟩
    rw [hY] at hJ ⊢
    clear hY
    clear a0 a1 a2 a3 b0 b1 b2 b3 f0 f1 f2 f3 e0 e1 e2 e3
    refine wp_region_held_drew (S := CmK w s Bf Be s.a u.b) (by kernel_rfl) (hJ.out.k.below ((Below.refl _ _).drew)) (fun hHeld => ?_)
    refine tkCx 0 54 ?_
    refine tkCx 1 55 ?_
    refine tkCx 2 56 ?_
    refine tkCx 3 57 ?_
    refine tkCx 4 58 ?_
    refine tkCx 5 59 ?_
    (refine ratHx 6 (fun K hK => ?_); go_simp)
    refine (along_any s s.a u.b _ hs hs.a hu.b).mono ?_
    rintro e9 wn ⟨rfl, hbn⟩
    go_simp
    refine hK.out _ _ (hHeld.below hbn) (fun hHeld => ?_)
    clear hK K hbn
    (try simp only [apS, apN, siA, scZ, scS])
    refine tkCx 7 61 ?_
    obtain ⟨z0, z1, z2, z3, hz⟩ := hHeld.z
    have r0 := hz.c 0 _ rfl
    have r1 := hz.c 1 _ rfl
    have r2 := hz.c 2 _ rfl
    have r3 := hz.c 3 _ rfl
    have g0 := hz.free 0 (by simp)
    have g1 := hz.free 1 (by simp)
    have g2 := hz.free 2 (by simp)
    have g3 := hz.free 3 (by simp)
    have hz9 := Lib.hid ((((hz.set 0 (.int .i64 s.a.x) (by simp)).set 1 (.int .i64 s.a.y) (by simp)).set 2 (.int .i64 u.b.x) (by simp)).set 3 (.int .i64 u.b.y) (by simp))
    (refine ratHx 8 (fun K hK => ?_); go_simp)
    refine hK.out _ _ ((((hHeld.store 0 (by omega) _).store 1 (by omega) _).store 2 (by omega) _).store 3 (by omega) _) (fun hHeld => ?_)
    clear hK K
    (try simp only [apS, apN, siA, scZ, scS])
    refine tkCx 9 5 ?_
    refine wpAnyH_done (by kernel_rfl) ?_ _
    go_wp2_with fail
    refine bodyPost_ret (results_mid2 rfl _ _ (w.heap.size + 1 + 1) [.int .i64 s.a.x, .int .i64 s.a.y, .int .i64 u.b.x, .int .i64 u.b.y] _ rfl hz9.out.range Try.underlying97 rfl sgSize) rfl ⟨(by rw [hE.out]; rfl), hHeld.bel⟩
   ·have d2 : decide (Cal.alongS s u.b s.b < 0) = false := decide_eq_false c2
    have hE : Hid (comT s t = (⟨s.a, s.b⟩, decide (Cal.alongS s s.a s.b < 0))) := by show _ = _; rw [hR.out, hF.out, if_neg c2]
    replace c2 := Lib.hid c2
    go_wp2_with fail
    clear a0 a1 a2 a3 b0 b1 b2 b3 f0 f1 f2 f3 e0 e1 e2 e3
    refine wp_region_held_drew (S := CmK w s Bf Be s.a s.b) (by kernel_rfl) (hJ.out.k.below ((Below.refl _ _).drew)) (fun hHeld => ?_)
    refine tkCx 0 54 ?_
    refine tkCx 1 55 ?_
    refine tkCx 2 56 ?_
    refine tkCx 3 57 ?_
    refine tkCx 4 58 ?_
    refine tkCx 5 59 ?_
    (refine ratHx 6 (fun K hK => ?_); go_simp)
    refine (along_any s s.a s.b _ hs hs.a hs.b).mono ?_
    rintro e9 wn ⟨rfl, hbn⟩
    go_simp
    refine hK.out _ _ (hHeld.below hbn) (fun hHeld => ?_)
    clear hK K hbn
    (try simp only [apS, apN, siA, scZ, scS])
    refine tkCx 7 61 ?_
    obtain ⟨z0, z1, z2, z3, hz⟩ := hHeld.z
    have r0 := hz.c 0 _ rfl
    have r1 := hz.c 1 _ rfl
    have r2 := hz.c 2 _ rfl
    have r3 := hz.c 3 _ rfl
    have g0 := hz.free 0 (by simp)
    have g1 := hz.free 1 (by simp)
    have g2 := hz.free 2 (by simp)
    have g3 := hz.free 3 (by simp)
    have hz9 := Lib.hid ((((hz.set 0 (.int .i64 s.a.x) (by simp)).set 1 (.int .i64 s.a.y) (by simp)).set 2 (.int .i64 s.b.x) (by simp)).set 3 (.int .i64 s.b.y) (by simp))
    (refine ratHx 8 (fun K hK => ?_); go_simp)
    refine hK.out _ _ ((((hHeld.store 0 (by omega) _).store 1 (by omega) _).store 2 (by omega) _).store 3 (by omega) _) (fun hHeld => ?_)
    clear hK K
    (try simp only [apS, apN, siA, scZ, scS])
    refine tkCx 9 5 ?_
    refine wpAnyH_done (by kernel_rfl) ?_ _
    go_wp2_with fail
    refine bodyPost_ret (results_mid2 rfl _ _ (w.heap.size + 1 + 1) [.int .i64 s.a.x, .int .i64 s.a.y, .int .i64 s.b.x, .int .i64 s.b.y] _ rfl hz9.out.range Try.underlying97 rfl sgSize) rfl ⟨(by rw [hE.out]; rfl), hHeld.bel⟩
 ·clear n0 n1 n2 hJ1 l0 l1 l2
  clear a0 a1 a2 a3 b0 b1 b2 b3 f0 f1 f2 f3
  obtain ⟨Be, hn⟩ : ∃ n, W4.heap.size = n := ⟨_, rfl⟩
  generalize ((W4.alloc (.cells #[.int .i64 s.b.x, .int .i64 s.b.y] 75)).alloc (.cells #[.int .i64 s.a.x, .int .i64 s.a.y] 75)).drew = X at hJ2 ⊢
  rw [hn] at hJ2 ⊢
  clear hI hn
  obtain ⟨Bf, hBf⟩ : ∃ B, Be + 1 = B := ⟨_, rfl⟩
  rw [hBf] at hJ2 ⊢
  clear hBf
  have hJ := hJ2
  clear hJ2
  have k0 := hJ.out.hf
  have k1 := hJ.out.he
  have k2 := hJ.out.ne
  have n0 : ¬ Bf = Be := k2
  have n1 : ¬ Be = Bf := fun e => k2 e.symm
  have n2 : ¬ Bf = w.heap.size := by omega
  have n3 : ¬ Bf = w.heap.size + 1 := by omega
  have n4 : ¬ Be = w.heap.size := by omega
  have n5 : ¬ Be = w.heap.size + 1 := by omega
  clear k2
  (have a0 := hJ.out.base.s.c 0 _ rfl; have a1 := hJ.out.base.s.c 1 _ rfl; have a2 := hJ.out.base.s.c 2 _ rfl; have a3 := hJ.out.base.s.c 3 _ rfl; have b0 := hJ.out.base.t.c 0 _ rfl; have b1 := hJ.out.base.t.c 1 _ rfl; have b2 := hJ.out.base.t.c 2 _ rfl; have b3 := hJ.out.base.t.c 3 _ rfl; have f0 := hJ.out.f.c 0 _ rfl; have f1 := hJ.out.f.c 1 _ rfl; have e0 := hJ.out.e.c 0 _ rfl; have e1 := hJ.out.e.c 1 _ rfl; have f2 := hJ.out.f.free 0 (by simp); have f3 := hJ.out.f.free 1 (by simp); have e2 := hJ.out.e.free 0 (by simp); have e3 := hJ.out.e.free 1 (by simp))
  by_cases c1 : 0 < Cal.alongS s u.a s.a
  ·have d1 : decide (0 < Cal.alongS s u.a s.a) = true := decide_eq_true c1
   have hF : Hid ((if 0 < Cal.alongS s u.a s.a then u.a else s.a) = u.a) := if_pos c1
   replace c1 := Lib.hid c1
   have m2 : Hid True := trivial
   go_wp2_with (go_at_call 110; clear m2; refine (along_any s u.a s.a _ hs hu.a hs.a).mono ?_; clear a0 a1 a2 a3 b0 b1 b2 b3 f0 f1 f2 f3 e0 e1 e2 e3; rintro e X2 ⟨rfl, hbn⟩; replace hJ := Lib.hid (hJ.out.below hbn); clear hbn; (have a0 := hJ.out.base.s.c 0 _ rfl; have a1 := hJ.out.base.s.c 1 _ rfl; have a2 := hJ.out.base.s.c 2 _ rfl; have a3 := hJ.out.base.s.c 3 _ rfl; have b0 := hJ.out.base.t.c 0 _ rfl; have b1 := hJ.out.base.t.c 1 _ rfl; have b2 := hJ.out.base.t.c 2 _ rfl; have b3 := hJ.out.base.t.c 3 _ rfl; have f0 := hJ.out.f.c 0 _ rfl; have f1 := hJ.out.f.c 1 _ rfl; have e0 := hJ.out.e.c 0 _ rfl; have e1 := hJ.out.e.c 1 _ rfl; have f2 := hJ.out.f.free 0 (by simp); have f3 := hJ.out.f.free 1 (by simp); have e2 := hJ.out.e.free 0 (by simp); have e3 := hJ.out.e.free 1 (by simp)))
   replace hJ := Lib.hid (hJ.out.setF u.a)
   clear a0 a1 a2 a3 b0 b1 b2 b3 f0 f1 f2 f3 e0 e1 e2 e3
   refine (along_any s u.b s.b _ hs hu.b hs.b).mono ?_
   rintro e X3 ⟨rfl, hbn⟩
   replace hJ := Lib.hid (hJ.out.below hbn)
   clear hbn
   (have a0 := hJ.out.base.s.c 0 _ rfl; have a1 := hJ.out.base.s.c 1 _ rfl; have a2 := hJ.out.base.s.c 2 _ rfl; have a3 := hJ.out.base.s.c 3 _ rfl; have b0 := hJ.out.base.t.c 0 _ rfl; have b1 := hJ.out.base.t.c 1 _ rfl; have b2 := hJ.out.base.t.c 2 _ rfl; have b3 := hJ.out.base.t.c 3 _ rfl; have f0 := hJ.out.f.c 0 _ rfl; have f1 := hJ.out.f.c 1 _ rfl; have e0 := hJ.out.e.c 0 _ rfl; have e1 := hJ.out.e.c 1 _ rfl; have f2 := hJ.out.f.free 0 (by simp); have f3 := hJ.out.f.free 1 (by simp); have e2 := hJ.out.e.free 0 (by simp); have e3 := hJ.out.e.free 1 (by simp))
   by_cases c2 : Cal.alongS s u.b s.b < 0
   ·have d2 : decide (Cal.alongS s u.b s.b < 0) = true := decide_eq_true c2
    have hE : Hid (comT s t = (⟨u.a, u.b⟩, decide (Cal.alongS s u.a u.b < 0))) := by show _ = _; rw [hR.out, hF.out, if_pos c2]
    replace c2 := Lib.hid c2
    go_wp2_with fail
    replace hJ := Lib.hid (hJ.out.setE u.b)
    obtain ⟨Y, hY⟩ : ∃ Y, (X3.setCell ⟨Be, 0, none⟩ (.int .i64 u.b.x)).setCell ⟨Be, 1, none⟩ (.int .i64 u.b.y) = Y := ⟨_, rfl⟩
    rw [hY] at hJ ⊢
    clear hY
    clear a0 a1 a2 a3 b0 b1 b2 b3 f0 f1 f2 f3 e0 e1 e2 e3
    refine wp_region_held_drew (S := CmK w s Bf Be u.a u.b) (by kernel_rfl) (hJ.out.k.below ((Below.refl _ _).drew)) (fun hHeld => ?_)
    refine tkCx 0 54 ?_
    refine tkCx 1 55 ?_
    refine tkCx 2 56 ?_
    refine tkCx 3 57 ?_
    refine tkCx 4 58 ?_
    refine tkCx 5 59 ?_
    (refine ratHx 6 (fun K hK => ?_); go_simp)
    refine (along_any s u.a u.b _ hs hu.a hu.b).mono ?_
    rintro e9 wn ⟨rfl, hbn⟩
    go_simp
    refine hK.out _ _ (hHeld.below hbn) (fun hHeld => ?_)
    clear hK K hbn
    (try simp only [apS, apN, siA, scZ, scS])
    refine tkCx 7 61 ?_
    obtain ⟨z0, z1, z2, z3, hz⟩ := hHeld.z
    have r0 := hz.c 0 _ rfl
    have r1 := hz.c 1 _ rfl
    have r2 := hz.c 2 _ rfl
    have r3 := hz.c 3 _ rfl
    have g0 := hz.free 0 (by simp)
    have g1 := hz.free 1 (by simp)
    have g2 := hz.free 2 (by simp)
    have g3 := hz.free 3 (by simp)
    have hz9 := Lib.hid ((((hz.set 0 (.int .i64 u.a.x) (by simp)).set 1 (.int .i64 u.a.y) (by simp)).set 2 (.int .i64 u.b.x) (by simp)).set 3 (.int .i64 u.b.y) (by simp))
    (refine ratHx 8 (fun K hK => ?_); go_simp)
    refine hK.out _ _ ((((hHeld.store 0 (by omega) _).store 1 (by omega) _).store 2 (by omega) _).store 3 (by omega) _) (fun hHeld => ?_)
    clear hK K
    (try simp only [apS, apN, siA, scZ, scS])
    refine tkCx 9 5 ?_
    refine wpAnyH_done (by kernel_rfl) ?_ _
    go_wp2_with fail
    refine bodyPost_ret (results_mid2 rfl _ _ (w.heap.size + 1 + 1) [.int .i64 u.a.x, .int .i64 u.a.y, .int .i64 u.b.x, .int .i64 u.b.y] _ rfl hz9.out.range Try.underlying97 rfl sgSize) rfl ⟨(by rw [hE.out]; rfl), hHeld.bel⟩
   ·have d2 : decide (Cal.alongS s u.b s.b < 0) = false := decide_eq_false c2
    have hE : Hid (comT s t = (⟨u.a, s.b⟩, decide (Cal.alongS s u.a s.b < 0))) := by show _ = _; rw [hR.out, hF.out, if_neg c2]
    replace c2 := Lib.hid c2
    go_wp2_with fail
    clear a0 a1 a2 a3 b0 b1 b2 b3 f0 f1 f2 f3 e0 e1 e2 e3
    refine wp_region_held_drew (S := CmK w s Bf Be u.a s.b) (by kernel_rfl) (hJ.out.k.below ((Below.refl _ _).drew)) (fun hHeld => ?_)
    refine tkCx 0 54 ?_
    refine tkCx 1 55 ?_
    refine tkCx 2 56 ?_
    refine tkCx 3 57 ?_
    refine tkCx 4 58 ?_
    refine tkCx 5 59 ?_
    (refine ratHx 6 (fun K hK => ?_); go_simp)
    refine (along_any s u.a s.b _ hs hu.a hs.b).mono ?_
    rintro e9 wn ⟨rfl, hbn⟩
    go_simp
    refine hK.out _ _ (hHeld.below hbn) (fun hHeld => ?_)
    clear hK K hbn
    (try simp only [apS, apN, siA, scZ, scS])
    refine tkCx 7 61 ?_
    obtain ⟨z0, z1, z2, z3, hz⟩ := hHeld.z
    have r0 := hz.c 0 _ rfl
    have r1 := hz.c 1 _ rfl
    have r2 := hz.c 2 _ rfl
    have r3 := hz.c 3 _ rfl
    have g0 := hz.free 0 (by simp)
    have g1 := hz.free 1 (by simp)
    have g2 := hz.free 2 (by simp)
    have g3 := hz.free 3 (by simp)
    have hz9 := Lib.hid ((((hz.set 0 (.int .i64 u.a.x) (by simp)).set 1 (.int .i64 u.a.y) (by simp)).set 2 (.int .i64 s.b.x) (by simp)).set 3 (.int .i64 s.b.y) (by simp))
    (refine ratHx 8 (fun K hK => ?_); go_simp)
    refine hK.out _ _ ((((hHeld.store 0 (by omega) _).store 1 (by omega) _).store 2 (by omega) _).store 3 (by omega) _) (fun hHeld => ?_)
    clear hK K
    (try simp only [apS, apN, siA, scZ, scS])
    refine tkCx 9 5 ?_
    refine wpAnyH_done (by kernel_rfl) ?_ _
    go_wp2_with fail
    refine bodyPost_ret (results_mid2 rfl _ _ (w.heap.size + 1 + 1) [.int .i64 u.a.x, .int .i64 u.a.y, .int .i64 s.b.x, .int .i64 s.b.y] _ rfl hz9.out.range Try.underlying97 rfl sgSize) rfl ⟨(by rw [hE.out]; rfl), hHeld.bel⟩
  ·have d1 : decide (0 < Cal.alongS s u.a s.a) = false := decide_eq_false c1
   have hF : Hid ((if 0 < Cal.alongS s u.a s.a then u.a else s.a) = s.a) := if_neg c1
   replace c1 := Lib.hid c1
   have m2 : Hid True := trivial
   go_wp2_with (go_at_call 110; clear m2; refine (along_any s u.a s.a _ hs hu.a hs.a).mono ?_; clear a0 a1 a2 a3 b0 b1 b2 b3 f0 f1 f2 f3 e0 e1 e2 e3; rintro e X2 ⟨rfl, hbn⟩; replace hJ := Lib.hid (hJ.out.below hbn); clear hbn; (have a0 := hJ.out.base.s.c 0 _ rfl; have a1 := hJ.out.base.s.c 1 _ rfl; have a2 := hJ.out.base.s.c 2 _ rfl; have a3 := hJ.out.base.s.c 3 _ rfl; have b0 := hJ.out.base.t.c 0 _ rfl; have b1 := hJ.out.base.t.c 1 _ rfl; have b2 := hJ.out.base.t.c 2 _ rfl; have b3 := hJ.out.base.t.c 3 _ rfl; have f0 := hJ.out.f.c 0 _ rfl; have f1 := hJ.out.f.c 1 _ rfl; have e0 := hJ.out.e.c 0 _ rfl; have e1 := hJ.out.e.c 1 _ rfl; have f2 := hJ.out.f.free 0 (by simp); have f3 := hJ.out.f.free 1 (by simp); have e2 := hJ.out.e.free 0 (by simp); have e3 := hJ.out.e.free 1 (by simp)))
   clear a0 a1 a2 a3 b0 b1 b2 b3 f0 f1 f2 f3 e0 e1 e2 e3
   refine (along_any s u.b s.b _ hs hu.b hs.b).mono ?_
   rintro e X3 ⟨rfl, hbn⟩
   replace hJ := Lib.hid (hJ.out.below hbn)
   clear hbn
   (have a0 := hJ.out.base.s.c 0 _ rfl; have a1 := hJ.out.base.s.c 1 _ rfl; have a2 := hJ.out.base.s.c 2 _ rfl; have a3 := hJ.out.base.s.c 3 _ rfl; have b0 := hJ.out.base.t.c 0 _ rfl; have b1 := hJ.out.base.t.c 1 _ rfl; have b2 := hJ.out.base.t.c 2 _ rfl; have b3 := hJ.out.base.t.c 3 _ rfl; have f0 := hJ.out.f.c 0 _ rfl; have f1 := hJ.out.f.c 1 _ rfl; have e0 := hJ.out.e.c 0 _ rfl; have e1 := hJ.out.e.c 1 _ rfl; have f2 := hJ.out.f.free 0 (by simp); have f3 := hJ.out.f.free 1 (by simp); have e2 := hJ.out.e.free 0 (by simp); have e3 := hJ.out.e.free 1 (by simp))
   by_cases c2 : Cal.alongS s u.b s.b < 0
   ·have d2 : decide (Cal.alongS s u.b s.b < 0) = true := decide_eq_true c2
    have hE : Hid (comT s t = (⟨s.a, u.b⟩, decide (Cal.alongS s s.a u.b < 0))) := by show _ = _; rw [hR.out, hF.out, if_pos c2]
    replace c2 := Lib.hid c2
    go_wp2_with fail
    replace hJ := Lib.hid (hJ.out.setE u.b)
    obtain ⟨Y, hY⟩ : ∃ Y, (X3.setCell ⟨Be, 0, none⟩ (.int .i64 u.b.x)).setCell ⟨Be, 1, none⟩ (.int .i64 u.b.y) = Y := ⟨_, rfl⟩
    rw [hY] at hJ ⊢
    clear hY
    clear a0 a1 a2 a3 b0 b1 b2 b3 f0 f1 f2 f3 e0 e1 e2 e3
    refine wp_region_held_drew (S := CmK w s Bf Be s.a u.b) (by kernel_rfl) (hJ.out.k.below ((Below.refl _ _).drew)) (fun hHeld => ?_)
    refine tkCx 0 54 ?_
    refine tkCx 1 55 ?_
    refine tkCx 2 56 ?_
    refine tkCx 3 57 ?_
    refine tkCx 4 58 ?_
    refine tkCx 5 59 ?_
    (refine ratHx 6 (fun K hK => ?_); go_simp)
    refine (along_any s s.a u.b _ hs hs.a hu.b).mono ?_
    rintro e9 wn ⟨rfl, hbn⟩
    go_simp
    refine hK.out _ _ (hHeld.below hbn) (fun hHeld => ?_)
    clear hK K hbn
    (try simp only [apS, apN, siA, scZ, scS])
    refine tkCx 7 61 ?_
    obtain ⟨z0, z1, z2, z3, hz⟩ := hHeld.z
    have r0 := hz.c 0 _ rfl
    have r1 := hz.c 1 _ rfl
    have r2 := hz.c 2 _ rfl
    have r3 := hz.c 3 _ rfl
    have g0 := hz.free 0 (by simp)
    have g1 := hz.free 1 (by simp)
    have g2 := hz.free 2 (by simp)
    have g3 := hz.free 3 (by simp)
    have hz9 := Lib.hid ((((hz.set 0 (.int .i64 s.a.x) (by simp)).set 1 (.int .i64 s.a.y) (by simp)).set 2 (.int .i64 u.b.x) (by simp)).set 3 (.int .i64 u.b.y) (by simp))
    (refine ratHx 8 (fun K hK => ?_); go_simp)
    refine hK.out _ _ ((((hHeld.store 0 (by omega) _).store 1 (by omega) _).store 2 (by omega) _).store 3 (by omega) _) (fun hHeld => ?_)
    clear hK K
    (try simp only [apS, apN, siA, scZ, scS])
    refine tkCx 9 5 ?_
    refine wpAnyH_done (by kernel_rfl) ?_ _
    go_wp2_with fail
    refine bodyPost_ret (results_mid2 rfl _ _ (w.heap.size + 1 + 1) [.int .i64 s.a.x, .int .i64 s.a.y, .int .i64 u.b.x, .int .i64 u.b.y] _ rfl hz9.out.range Try.underlying97 rfl sgSize) rfl ⟨(by rw [hE.out]; rfl), hHeld.bel⟩
   ·have d2 : decide (Cal.alongS s u.b s.b < 0) = false := decide_eq_false c2
    have hE : Hid (comT s t = (⟨s.a, s.b⟩, decide (Cal.alongS s s.a s.b < 0))) := by show _ = _; rw [hR.out, hF.out, if_neg c2]
    replace c2 := Lib.hid c2
    go_wp2_with fail
    clear a0 a1 a2 a3 b0 b1 b2 b3 f0 f1 f2 f3 e0 e1 e2 e3
    refine wp_region_held_drew (S := CmK w s Bf Be s.a s.b) (by kernel_rfl) (hJ.out.k.below ((Below.refl _ _).drew)) (fun hHeld => ?_)
    refine tkCx 0 54 ?_
    refine tkCx 1 55 ?_
    refine tkCx 2 56 ?_
    refine tkCx 3 57 ?_
    refine tkCx 4 58 ?_
    refine tkCx 5 59 ?_
    (refine ratHx 6 (fun K hK => ?_); go_simp)
    refine (along_any s s.a s.b _ hs hs.a hs.b).mono ?_
    rintro e9 wn ⟨rfl, hbn⟩
    go_simp
    refine hK.out _ _ (hHeld.below hbn) (fun hHeld => ?_)
    clear hK K hbn
    (try simp only [apS, apN, siA, scZ, scS])
    refine tkCx 7 61 ?_
    obtain ⟨z0, z1, z2, z3, hz⟩ := hHeld.z
    have r0 := hz.c 0 _ rfl
    have r1 := hz.c 1 _ rfl
    have r2 := hz.c 2 _ rfl
    have r3 := hz.c 3 _ rfl
    have g0 := hz.free 0 (by simp)
    have g1 := hz.free 1 (by simp)
    have g2 := hz.free 2 (by simp)
    have g3 := hz.free 3 (by simp)
    have hz9 := Lib.hid ((((hz.set 0 (.int .i64 s.a.x) (by simp)).set 1 (.int .i64 s.a.y) (by simp)).set 2 (.int .i64 s.b.x) (by simp)).set 3 (.int .i64 s.b.y) (by simp))
    (refine ratHx 8 (fun K hK => ?_); go_simp)
    refine hK.out _ _ ((((hHeld.store 0 (by omega) _).store 1 (by omega) _).store 2 (by omega) _).store 3 (by omega) _) (fun hHeld => ?_)
    clear hK K
    (try simp only [apS, apN, siA, scZ, scS])
    refine tkCx 9 5 ?_
    refine wpAnyH_done (by kernel_rfl) ?_ _
    go_wp2_with fail
    refine bodyPost_ret (results_mid2 rfl _ _ (w.heap.size + 1 + 1) [.int .i64 s.a.x, .int .i64 s.a.y, .int .i64 s.b.x, .int .i64 s.b.y] _ rfl hz9.out.range Try.underlying97 rfl sgSize) rfl ⟨(by rw [hE.out]; rfl), hHeld.bel⟩
end Go.Proofs.Ytfcjeejhdklkdaa
