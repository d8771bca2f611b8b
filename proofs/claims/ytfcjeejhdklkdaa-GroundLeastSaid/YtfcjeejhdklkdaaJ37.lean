/- What the statements rest on: definitions and walks, part 37. -/
import Derived.Test.YtfcjeejhdklkdaaJ36
import Derived.Test.YtfcjeejhdklkdaaJ26
set_option maxRecDepth 100000
set_option maxHeartbeats 16000000
set_option linter.unusedSimpArgs false
set_option linter.unusedVariables false
namespace Go.Proofs.Ytfcjeejhdklkdaa
open Go Go.RowKit Go.Shelf
theorem Sx.setG {w W : World} {L : List (Nat × Nat × Value)} {g o : Nat} (h : Sx w L W) (hb : w.heap.size ≤ g) (hL : ∀ x ∈ L, x.1 < w.heap.size) (v : Value) : Sx w L (W.setCell ⟨g, o, none⟩ v) :=
 ⟨fun x hx => (World.cell?_of_block (a := ⟨x.1, x.2.1, none⟩) (Below.heap_setCell W ⟨g, o, none⟩ v x.1 (fun e => by have h2 := hL x hx; dsimp only at e; omega))).trans (h.cs x hx), h.bel.setCell (p := ⟨g, o, none⟩) hb v⟩
structure HgI (w : World) (N : Nat) (S : Nat → Bool) (W : World) : Prop where
 row : W.rowIs w.heap.size 4 N (fun i => .bool (S i))
 bel : Below w.heap.size w W
theorem HgI.below {w : World} {N : Nat} {S : Nat → Bool} {W W' : World} (h : HgI w N S W) (hb : Below W.heap.size W W') : HgI w N S W' := ⟨h.row.of_block (hb.block _ h.row.lt), below_step h.bel hb⟩
theorem HgI.set {w : World} {N : Nat} {S T : Nat → Bool} {W : World} (h : HgI w N S W) (a : Nat) (hT : ∀ i, T i = if i = a then true else S i) : HgI w N T (W.setCell ⟨w.heap.size, a, none⟩ (.bool true)) :=
 ⟨(h.row.set a (.bool true)).congr (fun i _ => by rw [hT i]; split <;> rfl), h.bel.setCell (p := ⟨w.heap.size, a, none⟩) (Nat.le_refl _) _⟩
theorem mk_bools (W : World) (n : Nat) (hn : n ≤ 1000000) : (Instr.makeSlice 116 (.int .i64 (n : Int)) (.int .i64 (n : Int))).run Try.prog W = .ok (.slice (some ⟨W.heap.size, 0, none⟩) n n) (W.alloc (.cells (madeCells #[.bool false] n) 4)) :=
 run_make_row' _ _ _ 1 Try.underlying116 (by kernel_rfl) rfl .i64 .i64 n (by omega) (by omega) W
theorem hg_start (w : World) (N : Nat) : HgI w N Cal.only0 (w.alloc (.cells ((madeCells #[.bool false] N).setIfInBounds 0 (.bool true)) 4)) :=
 ⟨by
  have h1 : ((madeCells #[Value.bool false] N).setIfInBounds 0 (.bool true)).size = N := by simp [size_madeCells]
  have := World.rowIs_alloc w ((madeCells #[Value.bool false] N).setIfInBounds 0 (.bool true)) 4 (fun i => .bool (Cal.only0 i)) (fun i hi => by
   rw [Array.getElem?_setIfInBounds]
   rw [h1] at hi
   have h2 : (madeCells #[Value.bool false] N).size = N := by simp [size_madeCells]
   unfold Cal.only0
   by_cases h : i = 0
   ·subst h; simp [h2, hi]
   ·rw [if_neg (fun e => h e.symm)]; simp [madeCells, hi, Nat.mod_one, h])
  rw [h1] at this
  exact this, below_alloc _ _⟩
theorem hangsR_any (N : Nat) (A : Option Addr) (c : Nat) (l : List Lev) (w : World) (hN1 : 1 ≤ N) (hN6 : N ≤ 6) (hL : Levs w A l) (hv : ∀ x ∈ l, (0 ≤ x.f ∧ x.f < N) ∧ (0 ≤ x.t ∧ x.t < N) ∧ x.f ≠ x.t) :
  Calls Try.prog 47 #[.int .i64 (N : Int), .slice A l.length c] w fun e w' => e = .returned (.bool ((List.range N).all (Cal.swept N l))) ∧ Below w.heap.size w w' := by
 obtain ⟨R, hR⟩ : ∃ R, (List.range N).all (Cal.swept N l) = R := ⟨_, rfl⟩
 rw [hR]
 replace hR := Lib.hid hR
 have hsz := hL.size
 have hmk := fun W => mk_bools W N (by omega)
 have hr0 := World.rowIs_made w (.bool false) N 4
 have hH0 := Lib.hid (hg_start w N)
 have c0 := hr0.cell (i := 0) (by omega)
 have f0 := hr0.frozen 0
 have hN0 : 0 < N := by omega
 have hN0i : (0 : Int) < (N : Int) := by omega
 replace hL := Lib.hid hL
 replace hv := Lib.hid hv
 clear hr0
 go_enter Try.func47, Try.ntmps47
 go_wp2_with fail
 generalize (w.alloc (.cells ((madeCells #[.bool false] N).setIfInBounds 0 (.bool true)) 4)) = W1 at *
 clear c0 f0 hmk hN0 hN0i
 go_loopw [6, 7] (fun r _ wr => ∃ k : Nat, k ≤ N ∧ r = .int .i64 k ∧ Hid (HgI w N (Cal.sweeps (l.map Cal.edge) k Cal.only0) wr)) (fun r _ _ => N - (intOf r).toNat)
 case atStart => exact ⟨0, Nat.zero_le _, rfl, hH0⟩
 case round =>
  clear hH0
  obtain ⟨r, hr, rfl, hH⟩ := hrel
  by_cases hrl : r < N
  ·have hd0 : Hid (HgI w N (Cal.sweep1 ((l.map Cal.edge).take 0) (Cal.sweeps (l.map Cal.edge) r Cal.only0)) wr) := hH.out
   clear hH
   go_wp2_with fail
   go_loopw [7] (fun i wr => ∃ k : Nat, k ≤ l.length ∧ i = .int .i64 k ∧ Hid (HgI w N (Cal.sweep1 ((l.map Cal.edge).take k) (Cal.sweeps (l.map Cal.edge) r Cal.only0)) wr)) (fun i _ => l.length - (intOf i).toNat)
   case atStart => exact ⟨0, Nat.zero_le _, rfl, hd0⟩
   case round =>
    clear hd0
    obtain ⟨k, hk, rfl, hH⟩ := hrel
    by_cases hlt : k < l.length
    ·have hk' : l[k]? = some l[k] := List.getElem?_eq_getElem hlt
     have hv1 := hv.out _ (List.getElem_mem hlt)
     have hst := Cal.sweep1_take (l := l.map Cal.edge) (k := k) (by simpa using hlt) (Cal.sweeps (l.map Cal.edge) r Cal.only0)
     rw [List.getElem_map] at hst
     obtain ⟨S, hS⟩ : ∃ S, Cal.sweep1 ((l.map Cal.edge).take k) (Cal.sweeps (l.map Cal.edge) r Cal.only0) = S := ⟨_, rfl⟩
     obtain ⟨T, hT⟩ : ∃ T, Cal.sweep1 ((l.map Cal.edge).take (k + 1)) (Cal.sweeps (l.map Cal.edge) r Cal.only0) = T := ⟨_, rfl⟩
     rw [hS] at hst hH
     rw [hT] at hst
     have hT := Lib.hid hT
     generalize l[k] = x at *
     obtain ⟨b, o, rfl, hbl, c0, c1, c2, c3⟩ := lev_at (hL.out.below hH.out.bel).rows hk'
     obtain ⟨b', o', hA, hbw, _⟩ := lev_at hL.out.rows hk'
     cases hA
     obtain ⟨xf, xt, xd, xw⟩ := x
     dsimp only at *
     obtain ⟨⟨f0, f1⟩, ⟨t0, t1⟩, hft⟩ := hv1
     obtain ⟨f, rfl⟩ : ∃ f : Nat, xf = (f : Int) := ⟨xf.toNat, by omega⟩
     obtain ⟨t, rfl⟩ : ∃ t : Nat, xt = (t : Int) := ⟨xt.toNat, by omega⟩
     have hfN : f < N := by omega
     have htN : t < N := by omega
     have g0 := hH.out.row.cell hfN
     have g1 := hH.out.row.cell htN
     have hki : (k : Int) < (l.length : Int) := by omega
     have hstay : Hid ((S f || S t) = false → HgI w N T wr) := fun h => by
      have e : T = S := by rw [hst]; unfold Cal.stepE; exact if_neg (by show ¬ (S f || S t) = true; rw [h]; decide)
      rw [e]; exact hH.out
     have hgo : Hid ((S f || S t) = true → ∀ W, HgI w N S W → HgI w N T ((W.setCell ⟨w.heap.size, f, none⟩ (.bool true)).setCell ⟨w.heap.size, t, none⟩ (.bool true))) := fun h W hW => by
      have e : T = fun p => decide (p = f) || decide (p = t) || S p := by rw [hst]; unfold Cal.stepE; exact if_pos h
      refine (hW.set (T := fun i => if i = f then true else S i) f (fun i => rfl)).set t (fun i => ?_)
      rw [e]
      by_cases h1 : i = f <;> by_cases h2 : i = t <;> simp [h1, h2]
     clear hst hk' hS hft f0 t0
     by_cases hany : (S f || S t) = true
     ·have hgo := Lib.hid (hgo.out hany)
      clear hstay
      have hcase : S f = true ∨ (S f = false ∧ S t = true) := by
       cases h : S f
       ·right; rw [h, Bool.false_or] at hany; exact ⟨rfl, hany⟩
       ·left; rfl
      clear hany
      have hbb : Hid (∀ x ∈ [(b, o + k * 4, Value.int .i64 (f : Int)), (b, o + k * 4 + 1, Value.int .i64 (t : Int))], x.1 < w.heap.size) := fun x hx => by
       simp only [List.mem_cons, List.not_mem_nil, or_false] at hx
       rcases hx with rfl | rfl <;> exact hbw
      rcases hcase with h | ⟨h, h'⟩
      ·rw [h] at g0
       clear h hbw
       go_wp2_with fail
       refine wp_region_held_drew (S := Sx w [(b, o + k * 4, .int .i64 (f : Int)), (b, o + k * 4 + 1, .int .i64 (t : Int))]) (by kernel_rfl) (Sx.mk (by simp only [cs_iff_cons]; exact ⟨c0, c1, cs_nil _⟩) hH.out.bel).drew (fun hHeld => ?_)
       replace hH : Hid (HgI w N S wr.drew) := hH.out.below ((Below.refl _ _).drew)
       clear c0 c1 c2 c3 g0 g1
       generalize wr.drew = Y at *
       refine tkHx 0 42 ?_
       refine tkHx 1 43 ?_
       refine tkHx 2 44 ?_
       refine tkHx 3 45 ?_
       refine tkHx 4 46 ?_
       refine tkHx 5 47 ?_
       refine tkHx 6 48 ?_
       refine tkHx 7 49 ?_
       refine tkHx 8 50 ?_
       refine tkHx 9 51 ?_
       refine tkHx 10 52 ?_
       refine tkHx 11 53 ?_
       refine tkHx 12 54 ?_
       have s0 := hH.out.row.cell hfN
       have s1 := hH.out.row.frozen f
       (refine ratHx 13 (fun K hK => ?_); go_simp)
       refine hK.out _ _ (hHeld.setG (g := w.heap.size) (o := f) (Nat.le_refl _) hbb.out (.bool true)) (fun hHeld => ?_)
       clear hK K s0 s1
       have hH2 := Lib.hid (hgo.out Y hH.out)
       have r1 := (hH.out.row.set f (.bool true)).cell htN
       have r2 := (hH.out.row.set f (.bool true)).frozen t
       clear hH
       generalize Y.setCell ⟨w.heap.size, f, none⟩ (.bool true) = Z at *
       refine tkHx 14 55 ?_
       (refine ratHx 15 (fun K hK => ?_); go_simp)
       refine hK.out _ _ (hHeld.setG (g := w.heap.size) (o := t) (Nat.le_refl _) hbb.out (.bool true)) (fun hHeld => ?_)
       clear hK K r1 r2
       (try simp only [apS, apN, siA, scZ, scS])
       refine wpAnyH_done (by kernel_rfl) ?_ _
       generalize Z.setCell ⟨w.heap.size, t, none⟩ (.bool true) = Z2 at *
       clear hHeld
       go_wp2_with fail
       go_roundw
       case rel => exact ⟨k + 1, by omega, by go_num, by rw [hT.out]; exact hH2⟩
       case measure => simp [intOf]; omega
      ·rw [h] at g0
       rw [h'] at g1
       clear h h' hbw
       go_wp2_with fail
       refine wp_region_held_drew (S := Sx w [(b, o + k * 4, .int .i64 (f : Int)), (b, o + k * 4 + 1, .int .i64 (t : Int))]) (by kernel_rfl) (Sx.mk (by simp only [cs_iff_cons]; exact ⟨c0, c1, cs_nil _⟩) hH.out.bel).drew (fun hHeld => ?_)
       replace hH : Hid (HgI w N S wr.drew) := hH.out.below ((Below.refl _ _).drew)
       clear c0 c1 c2 c3 g0 g1
       generalize wr.drew = Y at *
       refine tkHx 0 42 ?_
       refine tkHx 1 43 ?_
       refine tkHx 2 44 ?_
       refine tkHx 3 45 ?_
       refine tkHx 4 46 ?_
       refine tkHx 5 47 ?_
       refine tkHx 6 48 ?_
       refine tkHx 7 49 ?_
       refine tkHx 8 50 ?_
       refine tkHx 9 51 ?_
       refine tkHx 10 52 ?_
       refine tkHx 11 53 ?_
       refine tkHx 12 54 ?_
       have s0 := hH.out.row.cell hfN
       have s1 := hH.out.row.frozen f
       (refine ratHx 13 (fun K hK => ?_); go_simp)
       refine hK.out _ _ (hHeld.setG (g := w.heap.size) (o := f) (Nat.le_refl _) hbb.out (.bool true)) (fun hHeld => ?_)
       clear hK K s0 s1
       have hH2 := Lib.hid (hgo.out Y hH.out)
       have r1 := (hH.out.row.set f (.bool true)).cell htN
       have r2 := (hH.out.row.set f (.bool true)).frozen t
       clear hH
       generalize Y.setCell ⟨w.heap.size, f, none⟩ (.bool true) = Z at *
       refine tkHx 14 55 ?_
       (refine ratHx 15 (fun K hK => ?_); go_simp)
       refine hK.out _ _ (hHeld.setG (g := w.heap.size) (o := t) (Nat.le_refl _) hbb.out (.bool true)) (fun hHeld => ?_)
       clear hK K r1 r2
       (try simp only [apS, apN, siA, scZ, scS])
       refine wpAnyH_done (by kernel_rfl) ?_ _
       generalize Z.setCell ⟨w.heap.size, t, none⟩ (.bool true) = Z2 at *
       clear hHeld
       go_wp2_with fail
       go_roundw
       case rel => exact ⟨k + 1, by omega, by go_num, by rw [hT.out]; exact hH2⟩
       case measure => simp [intOf]; omega
     ·have hany : (S f || S t) = false := by simpa using hany
      have hH := Lib.hid (hstay.out hany)
      obtain ⟨h1, h2⟩ : S f = false ∧ S t = false := by simpa using hany
      rw [h1] at g0
      rw [h2] at g1
      clear hstay hgo hany h1 h2
      go_wp2_with fail
      go_roundw
      case rel => exact ⟨k + 1, by omega, by go_num, by rw [hT.out]; exact hH⟩
      case measure => simp [intOf]; omega
    ·obtain rfl : k = l.length := by omega
     have hc2 : Hid (HgI w N (Cal.sweeps (l.map Cal.edge) (r + 1) Cal.only0) wr) := by
      show HgI _ _ _ _
      rw [Cal.sweeps_succ]
      have := hH.out
      rw [List.take_of_length_le (by simp)] at this
      exact this
     clear hH
     go_wp2_with fail
     go_roundw
     case rel => exact ⟨r + 1, by omega, by go_num, hc2⟩
     case measure => simp [intOf]; omega
  ·obtain rfl : r = N := by omega
   have hSw : Hid (∀ p, Cal.swept r l p = Cal.sweeps (l.map Cal.edge) r Cal.only0 p) := fun p => rfl
   generalize Cal.sweeps (l.map Cal.edge) r Cal.only0 = S at *
   go_wp2_with fail
   go_loopw [8] (fun i wr => ∃ k : Nat, k ≤ r ∧ i = .int .i64 k ∧ Hid (∀ p, p < k → S p = true) ∧ Hid (HgI w r S wr)) (fun i _ => r - (intOf i).toNat)
   case atStart => exact ⟨0, Nat.zero_le _, rfl, fun p hp => by omega, hH⟩
   case round =>
    clear hH
    obtain ⟨k, hk, rfl, hall, hH⟩ := hrel
    by_cases hlt : k < r
    ·have g0 := hH.out.row.cell hlt
     have hki : (k : Int) < (r : Int) := by omega
     cases hb : S k
     ·have hf : Hid (R = false) := by
       show _ = _
       rw [← hR.out, List.all_eq_false]
       exact ⟨k, List.mem_range.2 hlt, by rw [hSw.out, hb]; decide⟩
      rw [hb] at g0
      clear hb hall
      go_wp2_with fail
      go_ret
      exact ⟨by rw [hf.out]; rfl, hH.out.bel⟩
     ·have hall2 : Hid (∀ p, p < k + 1 → S p = true) := fun p hp => by
       rcases Nat.lt_succ_iff_lt_or_eq.1 hp with h | h
       ·exact hall.out p h
       ·rw [h]; exact hb
      rw [hb] at g0
      clear hb hall
      go_wp2_with fail
      go_roundw
      case rel => exact ⟨k + 1, by omega, by go_num, hall2, hH⟩
      case measure => simp [intOf]; omega
    ·obtain rfl : k = r := by omega
     have hf : Hid (R = true) := by
      show _ = _
      rw [← hR.out, List.all_eq_true]
      exact fun p hp => by rw [hSw.out]; exact hall.out p (List.mem_range.1 hp)
     go_wp2_with fail
     go_ret
     exact ⟨by rw [hf.out]; rfl, hH.out.bel⟩
theorem inN_w (p n : Int) : (decide ((0 : Int) ≤ p) && decide (p ≤ n - 1)) = inN p n := by
 unfold inN
 by_cases h1 : 0 ≤ p <;> by_cases h2 : p < n <;> simp [h1, h2] <;> omega
theorem CheckNetR_any (n : Int) (A : Option Addr) (c : Nat) (l : List Lev) (w : World) (hL : Levs w A l) :
  Calls Try.prog 13 #[.int .i64 n, .slice A l.length c] w fun e w' => e = .returned (.int .i64 (Cal.netE n l)) ∧ Below w.heap.size w w' := by
 have hsz := hL.size
 obtain ⟨R, hRR⟩ : ∃ R, Cal.netE n l = R := ⟨_, rfl⟩
 rw [hRR]
 have hb0 : Hid (Below w.heap.size w w) := Below.refl _ _
 by_cases hn : n < 1 ∨ 6 < n
 ·have hR : Hid (R = 2) := by show _ = _; rw [← hRR]; unfold Cal.netE; rw [if_pos hn]
  clear hRR
  have hw : Hid (∀ W, Calls Try.prog 19 #[.int .i64 n, .int .i64 1, .int .i64 6] W fun e w' => e = .returned (.bool false) ∧ W = w') := fun W => by
   refine (Within_any n 1 6 W).mono ?_
   rintro e w' ⟨rfl, rfl⟩
   refine ⟨?_, rfl⟩
   rcases hn with h | h
   ·rw [show decide ((1 : Int) ≤ n) = false from by simp; omega, Bool.false_and]
   ·rw [show decide (n ≤ 6) = false from by simp; omega, Bool.and_false]
  go_enter Try.func13, Try.ntmps13
  go_wp2_with (go_at_call 19; refine (hw.out _).mono ?_; rintro e0 wn ⟨rfl, rfl⟩)
  go_ret
  exact ⟨ret_int hR.out.symm, hb0.out⟩
 ·have hw : Hid (∀ W, Calls Try.prog 19 #[.int .i64 n, .int .i64 1, .int .i64 6] W fun e w' => e = .returned (.bool true) ∧ W = w') := fun W => by
   refine (Within_any n 1 6 W).mono ?_
   rintro e w' ⟨rfl, rfl⟩
   refine ⟨?_, rfl⟩
   rw [show decide ((1 : Int) ≤ n) = true from by simp; omega, show decide (n ≤ 6) = true from by simp; omega]; rfl
  by_cases hl : 20 < l.length
  ·have hR : Hid (R = 8) := by show _ = _; rw [← hRR]; unfold Cal.netE; rw [if_neg hn, if_pos hl]
   have hl1 : 20 < (l.length : Int) := by omega
   clear hRR hn
   go_enter Try.func13, Try.ntmps13
   go_wp2_with (go_at_call 19; refine (hw.out _).mono ?_; rintro e0 wn ⟨rfl, rfl⟩)
   go_ret
   exact ⟨ret_int hR.out.symm, hb0.out⟩
  ·have hR : Hid (R = if Cal.levsE n (l.drop 0) = 0 then (if (List.range n.toNat).all (Cal.swept n.toNat l) = true then 0 else 29) else Cal.levsE n (l.drop 0)) := by show _ = _; rw [← hRR]; unfold Cal.netE; rw [if_neg hn, if_neg hl]; rfl
   have hE0 : Hid (Cal.levsE n l = Cal.levsE n (l.drop 0)) := rfl
   have hl1 : ¬ 20 < (l.length : Int) := by omega
   replace hL := Lib.hid hL
   have hn1 : IntKind.i64.wrap (n - 1) = n - 1 := wrap_small (by omega) (by omega)
   have hin : Hid (∀ p W, Calls Try.prog 19 #[.int .i64 p, .int .i64 0, .int .i64 (n - 1)] W fun e w' => e = .returned (.bool (inN p n)) ∧ W = w') := fun p W => by
    have := Within_any p 0 (n - 1) W
    rw [inN_w p n] at this
    exact this
   have hd : Hid (∀ d W, Calls Try.prog 19 #[.int .i64 d, .int .i64 (-100000), .int .i64 100000] W fun e w' => e = .returned (.bool (decide (-100000 ≤ d) && decide (d ≤ 100000))) ∧ W = w') := fun d W => Within_any d _ _ W
   have hwt : Hid (∀ d W, Calls Try.prog 19 #[.int .i64 d, .int .i64 1, .int .i64 10] W fun e w' => e = .returned (.bool (decide ((1 : Int) ≤ d) && decide (d ≤ 10))) ∧ W = w') := fun d W => Within_any d _ _ W
   have hn12 := Lib.hid hn
   clear hRR hn
   go_enter Try.func13, Try.ntmps13
   go_wp2_with (go_at_call 19; refine (hw.out _).mono ?_; rintro e0 wn ⟨rfl, rfl⟩; clear hw)
   go_loopw [5] (fun i wr => ∃ k : Nat, k ≤ l.length ∧ i = .int .i64 k ∧ Hid (Cal.levsE n l = Cal.levsE n (l.drop k)) ∧ Hid (Below w.heap.size w wr)) (fun i _ => l.length - (intOf i).toNat)
   case atStart => exact ⟨0, Nat.zero_le _, rfl, hE0, hb0⟩
   case round =>
    clear hE0 hb0
    obtain ⟨k, hk, rfl, hE, hb⟩ := hrel
    by_cases hlt : k < l.length
    ·have hk' : l[k]? = some l[k] := List.getElem?_eq_getElem hlt
     have hd0 := Cal.levsE_drop (n := n) hlt
     have hcs := levE_cases n l[k]
     generalize l[k] = x at *
     obtain ⟨b, o, rfl, hbl, c0, c1, c2, c3⟩ := lev_at (hL.out.below hb.out).rows hk'
     have hki : (k : Int) < (l.length : Int) := by omega
     clear hk'
     obtain ⟨f, t, d, wt⟩ := x
     dsimp only at *
     have hRk : Hid (∀ v, v ≠ 0 → Cal.levE n ⟨f, t, d, wt⟩ = v → R = v) := fun v hv hz => by
      rw [hz, if_neg hv] at hd0
      rw [hR.out, show Cal.levsE n (l.drop 0) = v from hE.out.trans hd0, if_neg hv]
     have hE2 : Hid (Cal.levE n ⟨f, t, d, wt⟩ = 0 → Cal.levsE n l = Cal.levsE n (l.drop (k + 1))) := fun hz => by
      rw [hz, if_pos rfl] at hd0
      exact hE.out.trans hd0
     clear hd0 hE hR
     rcases hcs with ⟨h1, hz⟩ | ⟨h1, h2, hz⟩ | ⟨h1, h2, h3, hz⟩ | ⟨h1, h2, h3, hz, h4⟩ | ⟨h1, h2, h3, hz, h4, h5, h6, h7⟩
     ·have hR := Lib.hid (hRk.out _ (by decide) hz)
      replace h1 := Lib.hid h1
      have h2 := h1
      have hdv := h1
      clear hz hE2 hRk
      go_wp2_with (go_at_call 19; refine (hin.out _ _).mono ?_; rintro e0 wn ⟨rfl, rfl⟩; first | rw [h1.out] | rw [h2.out])
      go_ret
      exact ⟨ret_int hR.out.symm, hb.out⟩
     ·have hR := Lib.hid (hRk.out _ (by decide) hz)
      replace h1 := Lib.hid h1
      replace h2 := Lib.hid h2
      clear hz hE2 hRk
      go_wp2_with (go_at_call 19; refine (hin.out _ _).mono ?_; rintro e0 wn ⟨rfl, rfl⟩; first | rw [h1.out] | rw [h2.out])
      go_ret
      exact ⟨ret_int hR.out.symm, hb.out⟩
     ·have hR := Lib.hid (hRk.out _ (by decide) hz)
      replace h1 := Lib.hid h1
      replace h2 := Lib.hid h2
      clear hz hE2 hRk
      subst h3
      go_wp2_with (go_at_call 19; refine (hin.out _ _).mono ?_; rintro e0 wn ⟨rfl, rfl⟩; first | rw [h1.out] | rw [h2.out])
      refine wp_region_held_drew (S := Sx wr [(b, o + k * 4, .int .i64 f), (b, o + k * 4 + 1, .int .i64 f)]) (by kernel_rfl) (Sx.mk (by simp only [cs_iff_cons]; exact ⟨c0, c1, cs_nil _⟩) (Below.refl _ _)).drew (fun hHeld => ?_)
      refine tkHx 0 38 ?_
      refine tkHx 1 39 ?_
      refine tkHx 2 40 ?_
      refine tkHx 3 41 ?_
      refine tkHx 4 42 ?_
      refine tkHx 5 43 ?_
      refine tkHx 6 44 ?_
      refine tkHx 7 45 ?_
      refine tkHx 8 46 ?_
      refine tkHx 9 47 ?_
      refine tkHx 10 48 ?_
      refine wpAnyH_done (by kernel_rfl) ?_ _
      (try simp only [apS, apN, siA, scZ, scS])
      have hb9 := Lib.hid (below_step hb.out hHeld.bel)
      have c2' := (Below.cell (p := ⟨b, o + k * 4 + 2, none⟩) hHeld.bel hbl).trans c2
      have c3' := (Below.cell (p := ⟨b, o + k * 4 + 3, none⟩) hHeld.bel hbl).trans c3
      clear hHeld c0 c1 c2 c3
      go_wp2_with fail
      go_ret
      exact ⟨ret_int hR.out.symm, hb9.out⟩
     ·have hR := Lib.hid (hRk.out _ (by decide) hz)
      replace h1 := Lib.hid h1
      replace h2 := Lib.hid h2
      have h3b : (f == t) = false := by simpa using h3
      clear hz hE2 hRk
      by_cases hdd : (decide (-100000 ≤ d) && decide (d ≤ 100000)) = true
      ·have hww : Hid ((decide ((1 : Int) ≤ wt) && decide (wt ≤ 10)) = false) := by
        show _ = _
        rw [Bool.and_eq_true, decide_eq_true_eq, decide_eq_true_eq] at hdd
        by_cases q1 : (1 : Int) ≤ wt <;> by_cases q2 : wt ≤ 10 <;> simp [q1, q2] <;> omega
       replace hdd := Lib.hid hdd
       clear h4
       go_wp2_with (go_at_call 19; refine (hin.out _ _).mono ?_; rintro e0 wn ⟨rfl, rfl⟩; first | rw [h1.out] | rw [h2.out])
       refine wp_region_held_drew (S := Sx wr [(b, o + k * 4, .int .i64 f), (b, o + k * 4 + 1, .int .i64 t)]) (by kernel_rfl) (Sx.mk (by simp only [cs_iff_cons]; exact ⟨c0, c1, cs_nil _⟩) (Below.refl _ _)).drew (fun hHeld => ?_)
       refine tkHx 0 38 ?_
       refine tkHx 1 39 ?_
       refine tkHx 2 40 ?_
       refine tkHx 3 41 ?_
       refine tkHx 4 42 ?_
       refine tkHx 5 43 ?_
       refine tkHx 6 44 ?_
       refine tkHx 7 45 ?_
       refine tkHx 8 46 ?_
       refine tkHx 9 47 ?_
       refine tkHx 10 48 ?_
       refine wpAnyH_done (by kernel_rfl) ?_ _
       (try simp only [apS, apN, siA, scZ, scS])
       have hb9 := Lib.hid (below_step hb.out hHeld.bel)
       have c2' := (Below.cell (p := ⟨b, o + k * 4 + 2, none⟩) hHeld.bel hbl).trans c2
       have c3' := (Below.cell (p := ⟨b, o + k * 4 + 3, none⟩) hHeld.bel hbl).trans c3
       clear hHeld c0 c1 c2 c3
       go_wp2_with (go_at_call 19; refine (Within_any _ _ _ _).mono ?_; rintro e0 wn ⟨rfl, rfl⟩; first | rw [hdd.out] | rw [hww.out])
       go_ret
       exact ⟨ret_int hR.out.symm, hb9.out⟩
      ·replace hdd : Hid ((decide (-100000 ≤ d) && decide (d ≤ 100000)) = false) := by show _ = _; simpa using hdd
       have hww := hdd
       clear h4
       go_wp2_with (go_at_call 19; refine (hin.out _ _).mono ?_; rintro e0 wn ⟨rfl, rfl⟩; first | rw [h1.out] | rw [h2.out])
       refine wp_region_held_drew (S := Sx wr [(b, o + k * 4, .int .i64 f), (b, o + k * 4 + 1, .int .i64 t)]) (by kernel_rfl) (Sx.mk (by simp only [cs_iff_cons]; exact ⟨c0, c1, cs_nil _⟩) (Below.refl _ _)).drew (fun hHeld => ?_)
       refine tkHx 0 38 ?_
       refine tkHx 1 39 ?_
       refine tkHx 2 40 ?_
       refine tkHx 3 41 ?_
       refine tkHx 4 42 ?_
       refine tkHx 5 43 ?_
       refine tkHx 6 44 ?_
       refine tkHx 7 45 ?_
       refine tkHx 8 46 ?_
       refine tkHx 9 47 ?_
       refine tkHx 10 48 ?_
       refine wpAnyH_done (by kernel_rfl) ?_ _
       (try simp only [apS, apN, siA, scZ, scS])
       have hb9 := Lib.hid (below_step hb.out hHeld.bel)
       have c2' := (Below.cell (p := ⟨b, o + k * 4 + 2, none⟩) hHeld.bel hbl).trans c2
       have c3' := (Below.cell (p := ⟨b, o + k * 4 + 3, none⟩) hHeld.bel hbl).trans c3
       clear hHeld c0 c1 c2 c3
       go_wp2_with (go_at_call 19; refine (Within_any _ _ _ _).mono ?_; rintro e0 wn ⟨rfl, rfl⟩; first | rw [hdd.out] | rw [hww.out])
       go_ret
       exact ⟨ret_int hR.out.symm, hb9.out⟩
     ·replace hE2 := Lib.hid (hE2.out hz)
      replace h1 := Lib.hid h1
      replace h2 := Lib.hid h2
      have h3b : (f == t) = false := by simpa using h3
      have hdd : Hid ((decide (-100000 ≤ d) && decide (d ≤ 100000)) = true) := by show _ = _; simp; omega
      have hww : Hid ((decide ((1 : Int) ≤ wt) && decide (wt ≤ 10)) = true) := by show _ = _; simp; omega
      clear hz hRk h4 h5 h6 h7
      go_wp2_with (go_at_call 19; refine (hin.out _ _).mono ?_; rintro e0 wn ⟨rfl, rfl⟩; first | rw [h1.out] | rw [h2.out])
      refine wp_region_held_drew (S := Sx wr [(b, o + k * 4, .int .i64 f), (b, o + k * 4 + 1, .int .i64 t)]) (by kernel_rfl) (Sx.mk (by simp only [cs_iff_cons]; exact ⟨c0, c1, cs_nil _⟩) (Below.refl _ _)).drew (fun hHeld => ?_)
      refine tkHx 0 38 ?_
      refine tkHx 1 39 ?_
      refine tkHx 2 40 ?_
      refine tkHx 3 41 ?_
      refine tkHx 4 42 ?_
      refine tkHx 5 43 ?_
      refine tkHx 6 44 ?_
      refine tkHx 7 45 ?_
      refine tkHx 8 46 ?_
      refine tkHx 9 47 ?_
      refine tkHx 10 48 ?_
      refine wpAnyH_done (by kernel_rfl) ?_ _
      (try simp only [apS, apN, siA, scZ, scS])
      have hb9 := Lib.hid (below_step hb.out hHeld.bel)
      have c2' := (Below.cell (p := ⟨b, o + k * 4 + 2, none⟩) hHeld.bel hbl).trans c2
      have c3' := (Below.cell (p := ⟨b, o + k * 4 + 3, none⟩) hHeld.bel hbl).trans c3
      clear hHeld c0 c1 c2 c3
      go_wp2_with (go_at_call 19; refine (Within_any _ _ _ _).mono ?_; rintro e0 wn ⟨rfl, rfl⟩; first | rw [hdd.out] | rw [hww.out])
      go_roundw
      case rel => exact ⟨k + 1, by omega, by go_num, hE2, hb9⟩
      case measure => simp [intOf]; omega
    ·obtain rfl : k = l.length := by omega
     have hz : Cal.levsE n l = 0 := by rw [hE.out, List.drop_length]; rfl
     have hval := Cal.levsE_zero hz
     replace hR : Hid (R = if (List.range n.toNat).all (Cal.swept n.toNat l) = true then 0 else 29) := by show _ = _; rw [hR.out]; exact if_pos hz
     obtain ⟨N, rfl⟩ : ∃ N : Nat, n = (N : Int) := ⟨n.toNat, by have := hn12.out; omega⟩
     rw [Int.toNat_natCast] at hR
     have hhg := Lib.hid (fun W hb => hangsR_any N A c l W (by have := hn12.out; omega) (by have := hn12.out; omega) (hL.out.below hb) (fun x hx => by have := Cal.levE_zero (hval x hx); exact ⟨this.1, this.2.1, this.2.2.1⟩))
     clear hz hE hval hin hd hwt hn1
     cases hq : (List.range N).all (Cal.swept N l)
     ·have hR2 : Hid (R = 29) := by show _ = _; rw [hR.out, hq, if_neg (by decide)]
      rw [hq] at hhg
      clear hR hq
      go_wp2_with (go_at_call 47; refine (hhg.out _ hb.out).mono ?_; rintro e0 w3 ⟨rfl, hb3⟩; have hb4 := Lib.hid (below_step hb.out hb3); clear hb3)
      go_ret
      exact ⟨ret_int hR2.out.symm, hb4.out⟩
     ·have hR2 : Hid (R = 0) := by show _ = _; rw [hR.out, hq, if_pos rfl]
      rw [hq] at hhg
      clear hR hq
      go_wp2_with (go_at_call 47; refine (hhg.out _ hb.out).mono ?_; rintro e0 w3 ⟨rfl, hb3⟩; have hb4 := Lib.hid (below_step hb.out hb3); clear hb3)
      go_ret
      exact ⟨ret_int hR2.out.symm, hb4.out⟩
end Go.Proofs.Ytfcjeejhdklkdaa
namespace Go.Proofs.Ytfcjeejhdklkdaa.Cal
def bigH (h : Int × Int) : Bool := decide (2000000 * h.2 < (h.1.natAbs : Int))
def hErr (p : Int) (h : Int × Int) : Int := if h.2 < 1 then 3 else if Int.gcd h.1 h.2 ≠ 1 then 3 else if bigH h = true then 2 else if (4000000000 : Int).tdiv p < more p h.2 then 8 else 0
def scl : Int → List (Int × Int) → Int × Int
 | p, [] => (0, p)
 | p, h :: r => if hErr p h = 0 then scl (p * more p h.2) r else (hErr p h, 0)
theorem scl_drop {p : Int} {l : List (Int × Int)} {k : Nat} (h : k < l.length) : scl p (l.drop k) = if hErr p l[k] = 0 then scl (p * more p l[k].2) (l.drop (k + 1)) else (hErr p l[k], 0) := by
 rw [List.drop_eq_getElem_cons h]; rfl
def sclE (n : Int) (l : List (Int × Int)) : Int := if (l.length : Int) = n then (scl 1 l).1 else 10
def sclP (n : Int) (l : List (Int × Int)) : Int := if (l.length : Int) = n then (if (scl 1 l).1 = 0 then (scl 1 l).2 else 0) else 0
theorem hErr_zero {p : Int} {h : Int × Int} (e : hErr p h = 0) : 1 ≤ h.2 ∧ Int.gcd h.1 h.2 = 1 ∧ bigH h = false ∧ more p h.2 ≤ (4000000000 : Int).tdiv p := by
 unfold hErr at e
 split at e
 ·cases e
 ·split at e
  ·cases e
  ·split at e
   ·cases e
   ·split at e
    ·cases e
    ·rename_i h1 h2 h3 h4
     exact ⟨by omega, by simpa using h2, by simpa using h3, by omega⟩
theorem part_le {p d : Int} (hp : 1 ≤ p) (hd : 1 ≤ d) (h : more p d ≤ (4000000000 : Int).tdiv p) : 1 ≤ p * more p d ∧ p * more p d ≤ 4000000000 := by
 have h1 := more_pos (parts := p) (den := d) (by omega)
 have h2 : p * (4000000000 : Int).tdiv p ≤ 4000000000 := by
  rw [Int.tdiv_eq_ediv_of_nonneg (by omega)]
  exact Int.mul_ediv_self_le (by omega)
 have h3 := Int.mul_le_mul_of_nonneg_left h (by omega : 0 ≤ p)
 have h4 := Int.mul_pos (by omega : 0 < p) h1
 omega
theorem scl_good : ∀ (l : List (Int × Int)) (p : Int), 1 ≤ p → p ≤ 4000000000 → (scl p l).1 = 0 → 1 ≤ (scl p l).2 ∧ (scl p l).2 ≤ 4000000000 ∧ p ∣ (scl p l).2 ∧ ∀ h ∈ l, 1 ≤ h.2 ∧ Int.gcd h.1 h.2 = 1 ∧ bigH h = false ∧ h.2 ∣ (scl p l).2
 | [], p, h1, h2, _ => ⟨h1, h2, Int.dvd_refl _, fun h hh => by cases hh⟩
 | h :: r, p, h1, h2, e => by
  by_cases hz : hErr p h = 0
  ·obtain ⟨a, b, c, d⟩ := hErr_zero hz
   obtain ⟨q1, q2⟩ := part_le h1 a d
   have e' : scl p (h :: r) = scl (p * more p h.2) r := if_pos hz
   rw [e'] at e ⊢
   obtain ⟨g1, g2, g3, g4⟩ := scl_good r (p * more p h.2) q1 q2 e
   obtain ⟨d1, d2⟩ := dvd_parts_more (parts := p) (den := h.2)
   refine ⟨g1, g2, Int.dvd_trans d1 g3, fun x hx => ?_⟩
   rcases List.mem_cons.1 hx with rfl | hx
   ·exact ⟨a, b, c, Int.dvd_trans d2 g3⟩
   ·exact g4 x hx
  ·have e' : scl p (h :: r) = (hErr p h, 0) := if_neg hz
   rw [e'] at e
   exact absurd e hz
theorem scl_ok {all : Int} (ha : 1 ≤ all) (hb : all ≤ 4000000000) : ∀ (l : List (Int × Int)) (p : Int), 1 ≤ p → p ∣ all → (∀ h ∈ l, 1 ≤ h.2 ∧ Int.gcd h.1 h.2 = 1 ∧ bigH h = false ∧ h.2 ∣ all) → (scl p l).1 = 0
 | [], _, _, _, _ => rfl
 | h :: r, p, h1, h2, hl => by
  obtain ⟨a, b, c, d⟩ := hl h (List.mem_cons_self ..)
  have hm := parts_more_dvd (parts := p) (den := h.2) (by omega) (by omega) h2 d
  have hm1 := more_pos (parts := p) (den := h.2) (by omega)
  have hpm := Int.mul_pos (by omega : 0 < p) hm1
  have hle := Int.le_of_dvd (by omega) hm
  have hq : more p h.2 ≤ (4000000000 : Int).tdiv p := by
   rw [Int.tdiv_eq_ediv_of_nonneg (by omega)]
   rw [Int.le_ediv_iff_mul_le (by omega), Int.mul_comm]
   omega
  have hz : hErr p h = 0 := by
   unfold hErr
   rw [if_neg (by omega), if_neg (by simpa using b), if_neg (by rw [c]; decide), if_neg (by omega)]
  have e' : scl p (h :: r) = scl (p * more p h.2) r := if_pos hz
  rw [e']
  exact scl_ok ha hb r _ (by omega) hm (fun x hx => hl x (List.mem_cons_of_mem _ hx))
theorem sclE_zero {n : Int} {l : List (Int × Int)} (h : sclE n l = 0) : (l.length : Int) = n ∧ sclP n l = (scl 1 l).2 ∧ 1 ≤ sclP n l ∧ sclP n l ≤ 4000000000 ∧ ∀ h ∈ l, 1 ≤ h.2 ∧ Int.gcd h.1 h.2 = 1 ∧ bigH h = false ∧ h.2 ∣ sclP n l := by
 unfold sclE at h
 split at h
 ·rename_i hl
  have hg := scl_good l 1 (by decide) (by decide) h
  have e : sclP n l = (scl 1 l).2 := by unfold sclP; rw [if_pos hl, if_pos h]
  rw [e]
  exact ⟨hl, rfl, hg.1, hg.2.1, hg.2.2.2⟩
 ·cases h
end Go.Proofs.Ytfcjeejhdklkdaa.Cal
namespace Go.Proofs.Ytfcjeejhdklkdaa
open Go Go.RowKit Go.Shelf
theorem GcdR_any (a b : Int) (w : World) (hb : 0 < b) (hb2 : b ≤ 9223372036854775807) : Calls Try.prog 54 #[.int .i64 a, .int .i64 b] w fun e w' => e = .returned (.int .i64 (Int.gcd a b : Int)) ∧ Below w.heap.size w w' := by
 have hst : Hid (GcI a b a b) := ⟨rfl, .inl ⟨rfl, rfl⟩⟩
 have hb0 : Hid (Below w.heap.size w w) := Below.refl _ _
 go_enter Try.func54, Try.ntmps54
 go_wp2_with fail
 go_loopw [0, 1] (fun x y wr => ∃ p q : Int, x = .int .i64 p ∧ y = .int .i64 q ∧ Hid (GcI a b p q) ∧ Hid (Below w.heap.size w wr)) (fun _ y _ => (intOf y).natAbs)
 case atStart => exact ⟨a, b, rfl, rfl, hst, hb0⟩
 case round =>
  clear hst hb0
  obtain ⟨p, q, rfl, rfl, hs, hB⟩ := hrel
  by_cases hq : q = 0
  ·subst hq
   have hr : Hid ((Int.gcd a b : Int) = (p.natAbs : Int)) := by
    have h := hs.out.1
    rw [Cal.gcd_end] at h
    show _ = _
    rw [← h]
   have hp : -9223372036854775807 ≤ p ∧ p ≤ 9223372036854775807 := by
    rcases hs.out.2 with ⟨h1, h2⟩ | ⟨h1, h2⟩
    ·omega
    ·omega
   have habs := Lib.hid (fun W => absG_any p hp.1 hp.2 W)
   clear hs
   go_wp2_with (go_at_call 18; refine (habs.out _).mono ?_; rintro e1 wn ⟨rfl, rfl⟩)
   go_ret
   exact ⟨ret_int hr.out.symm, hB.out⟩
  ·have hlt := tmod_abs (a := p) hq
   have hqb : q.natAbs ≤ b.natAbs := by
    rcases hs.out.2 with ⟨h1, h2⟩ | ⟨h1, h2⟩
    ·rw [h2]; exact Nat.le_refl _
    ·omega
   have hw : IntKind.i64.wrap (p.tmod q) = p.tmod q := wrap_small (by omega) (by omega)
   have hs2 : Hid (GcI a b q (p.tmod q)) := ⟨(Cal.gcd_step p q).trans hs.out.1, .inr ⟨hlt, hqb⟩⟩
   clear hs
   go_wp2_with fail
   refine wp_region_held_drew (S := Sx wr []) (by kernel_rfl) (Sx.mk (cs_nil _) (Below.refl _ _)).drew (fun hHeld => ?_)
   refine tkHx 0 7 ?_
   refine tkHx 1 8 ?_
   refine tkHx 2 9 ?_
   refine tkHx 3 10 ?_
   refine tkHx 4 0 ?_
   refine tkHx 5 1 ?_
   refine wpAnyH_done (by kernel_rfl) ?_ _
   (try simp only [apS, apN, siA, scZ, scS])
   have hB2 := Lib.hid (hB.out.trans (hHeld.bel.mono hB.out.size))
   clear hHeld
   go_wp2_with fail
   go_roundw
   case rel => exact ⟨q, p.tmod q, rfl, by first | rfl | rw [hw], hs2, hB2⟩
   case measure => exact hlt
end Go.Proofs.Ytfcjeejhdklkdaa
namespace Go.Proofs.Ytfcjeejhdklkdaa
open Go Go.RowKit Go.Shelf
theorem fr_at {w : World} {A : Option Addr} {l : List (Int × Int)} (h : RowsAt w A 2 (l.map frR)) {k : Nat} {x : Int × Int} (hk : l[k]? = some x) :
  ∃ b o, A = some ⟨b, o, none⟩ ∧ b < w.heap.size ∧ w.cell? ⟨b, o + k * 2, none⟩ = some (.int .i64 x.1) ∧ w.cell? ⟨b, o + k * 2 + 1, none⟩ = some (.int .i64 x.2) := by
 obtain ⟨b, o, hA, hlt, hc⟩ := h k (frR x) (by simp [hk])
 exact ⟨b, o, hA, hlt, hc 0 _ rfl, hc 1 _ rfl⟩
theorem Cal.big_cases {n d : Int} (hd : 1 ≤ d) :
  (Cal.bigH (n, d) = true ∧ (2000000 < n.tdiv d ∨ (¬ 2000000 < n.tdiv d ∧ n.tdiv d < -2000000) ∨ (¬ 2000000 < n.tdiv d ∧ ¬ n.tdiv d < -2000000 ∧ ((n.tdiv d).natAbs : Int) = 2000000 ∧ n.tmod d ≠ 0))) ∨
  (Cal.bigH (n, d) = false ∧ ¬ 2000000 < n.tdiv d ∧ ¬ n.tdiv d < -2000000 ∧ (¬ ((n.tdiv d).natAbs : Int) = 2000000 ∨ (((n.tdiv d).natAbs : Int) = 2000000 ∧ n.tmod d = 0))) := by
 have h1 : (n.tdiv d).natAbs = n.natAbs / d.natAbs := Int.natAbs_tdiv n d
 have h2 := Int.natAbs_tmod n d
 have h3 := Nat.div_add_mod n.natAbs d.natAbs
 have h4 := Nat.mod_lt n.natAbs (show 0 < d.natAbs by omega)
 have hD : (d.natAbs : Int) = d := by omega
 generalize n.tdiv d = q at *
 generalize n.tmod d = r at *
 unfold Cal.bigH
 dsimp only
 by_cases hb : 2000000 * d < (n.natAbs : Int)
 ·left
  refine ⟨decide_eq_true hb, ?_⟩
  have hq : 2000000 ≤ q.natAbs := by
   rw [h1]
   refine (Nat.le_div_iff_mul_le (by omega)).2 ?_
   omega
  by_cases hq2 : q.natAbs = 2000000
  ·rw [← h1, hq2, ← h2] at h3
   omega
  ·omega
 ·right
  have hq : q.natAbs ≤ 2000000 := by
   rw [h1]
   refine Nat.le_of_lt_succ ((Nat.div_lt_iff_lt_mul (by omega)).2 ?_)
   rw [Nat.succ_mul]
   omega
  refine ⟨decide_eq_false hb, by omega, by omega, ?_⟩
  by_cases hq2 : q.natAbs = 2000000
  ·right
   rw [← h1, hq2, ← h2] at h3
   omega
  ·left; omega
theorem HeightsErrR_any (N : Int) (A : Option Addr) (c : Nat) (fr : List (Int × Int)) (w : World) (hF : RowsAt w A 2 (fr.map frR)) (hs : fr.length ≤ 1000000)
  (hv : ∀ h ∈ fr, (-9223372036854775808 ≤ h.1 ∧ h.1 ≤ 9223372036854775807) ∧ (-9223372036854775808 ≤ h.2 ∧ h.2 ≤ 9223372036854775807)) :
  Calls Try.prog 16 #[.int .i64 N, .slice A fr.length c] w fun e w' => e = .returned (.tuple #[.int .i64 (Cal.sclP N fr), .int .i64 (Cal.sclE N fr)]) ∧ Below w.heap.size w w' := by
 have hb0 : Hid (Below w.heap.size w w) := Below.refl _ _
 obtain ⟨E, hE⟩ : ∃ E, Cal.sclE N fr = E := ⟨_, rfl⟩
 obtain ⟨R, hR⟩ : ∃ R, Cal.sclP N fr = R := ⟨_, rfl⟩
 rw [hE, hR]
 unfold Cal.sclE at hE
 unfold Cal.sclP at hR
 by_cases hlen : (fr.length : Int) = N
 ·rw [if_pos hlen] at hE hR
  have hS0 : Hid (Cal.scl 1 fr = Cal.scl 1 (fr.drop 0)) := rfl
  have hEE : Hid ((Cal.scl 1 fr).1 = E) := hE
  have hRR : Hid ((if (Cal.scl 1 fr).1 = 0 then (Cal.scl 1 fr).2 else 0) = R) := hR
  replace hF := Lib.hid hF
  replace hv := Lib.hid hv
  subst hlen
  clear hE hR
  go_enter Try.func16, Try.ntmps16
  go_wp2_with fail
  go_loopw [6, 7] (fun pv i wr => ∃ (k : Nat) (p : Int), k ≤ fr.length ∧ i = .int .i64 k ∧ pv = .int .i64 p ∧ 1 ≤ p ∧ p ≤ 4000000000 ∧ Hid (Cal.scl 1 fr = Cal.scl p (fr.drop k)) ∧ Hid (Below w.heap.size w wr)) (fun _ i _ => fr.length - (intOf i).toNat)
  case atStart => exact ⟨0, 1, Nat.zero_le _, rfl, rfl, by decide, by decide, hS0, hb0⟩
  case round =>
   clear hS0 hb0
   obtain ⟨k, p, hk, rfl, rfl, hp1, hp2, hS, hB0⟩ := hrel
   by_cases hlt : k < fr.length
   ·have hk' : fr[k]? = some fr[k] := List.getElem?_eq_getElem hlt
    have hd := Cal.scl_drop (p := p) hlt
    obtain ⟨⟨n1, n2⟩, ⟨d1, d2⟩⟩ := hv.out _ (List.getElem_mem hlt)
    have hki : (k : Int) < (fr.length : Int) := by omega
    generalize fr[k] = h at *
    obtain ⟨b, o, rfl, hbl, c0, c1⟩ := fr_at (hF.out.below hB0.out) hk'
    obtain ⟨num, den⟩ := h
    dsimp only at *
    have hx := Lib.hid (BoxAt.new wr #[.int .i64 num, .int .i64 den] 38)
    have hB := Lib.hid (below_step hB0.out (below_alloc wr (.cells #[.int .i64 num, .int .i64 den] 38)))
    have hbad : Hid (∀ v, v ≠ 0 → Cal.hErr p (num, den) = v → E = v ∧ R = 0) := fun v hv0 hz => by
     rw [hz, if_neg hv0] at hd
     have e1 : Cal.scl 1 fr = (v, 0) := hS.out.trans hd
     have e2 := hEE.out
     have e3 := hRR.out
     rw [e1] at e2 e3
     rw [if_neg hv0] at e3
     exact ⟨e2.symm, e3.symm⟩
    have hgood : Hid (Cal.hErr p (num, den) = 0 → Cal.scl 1 fr = Cal.scl (p * Cal.more p den) (fr.drop (k + 1))) := fun hz => by
     rw [hz, if_pos rfl] at hd
     exact hS.out.trans hd
    clear hd hS hk'
    by_cases hd1 : den < 1
    ·obtain ⟨e1, e2⟩ := hbad.out 3 (by decide) (by unfold Cal.hErr; exact if_pos hd1)
     replace e1 := Lib.hid e1
     replace e2 := Lib.hid e2
     clear hbad hgood
     go_wp2_with fail
     go_ret2
     exact ⟨by rw [e1.out, e2.out]; rfl, hB.out⟩
    have hg1 := Lib.hid (fun W => GcdR_any num den W (by omega) (by omega))
    have hg2 := Lib.hid (fun W => GcdR_any p den W (by omega) (by omega))
    by_cases hgc : Int.gcd num den = 1
    ·have hgi : ((Int.gcd num den : Nat) : Int) = 1 := by omega
     rw [hgi] at hg1
     have hdn : ¬ den = 0 := by omega
     have hqr : (num.tdiv den).natAbs ≤ num.natAbs := by rw [Int.natAbs_tdiv]; exact Nat.div_le_self _ _
     have hq0 : 0 ≤ num → 0 ≤ num.tdiv den := fun h => Int.tdiv_nonneg h (by omega)
     have hq5 : num < 0 → num.tdiv den ≤ 0 := fun h => by
      have := Int.tdiv_nonneg (a := -num) (b := den) (by omega) (by omega)
      rw [Int.neg_tdiv] at this
      omega
     have hrr : (num.tmod den).natAbs < den.natAbs := tmod_abs (by omega)
     have hw1 : IntKind.i64.wrap (num.tdiv den) = num.tdiv den := wrap_small (by omega) (by omega)
     have hw2 : IntKind.i64.wrap (num.tmod den) = num.tmod den := wrap_small (by omega) (by omega)
     rcases Cal.big_cases (n := num) (d := den) (by omega) with ⟨hbg, hcs⟩ | ⟨hbg, hc1, hc2, hcs⟩
     ·obtain ⟨e1, e2⟩ := hbad.out 2 (by decide) (by unfold Cal.hErr; rw [if_neg hd1, if_neg (by simpa using hgc), if_pos hbg])
      replace e1 := Lib.hid e1
      replace e2 := Lib.hid e2
      clear hbad hgood hbg hqr hq0 hrr hgc hgi hq5
      rcases hcs with hc1 | ⟨hc1, hc2⟩ | ⟨hc1, hc2, hc3, hc4⟩
      ·have habs := hg2
       go_wp2_with (first
        |(go_at_call_of 54 (Value.int .i64 num); refine (hg1.out _).mono ?_; clear hg1; rintro e0 wn ⟨rfl, hbn⟩; replace hx := Lib.hid (hx.out.below hbn); replace hB := Lib.hid (below_step hB.out hbn); clear hbn; have y0 := hx.out.c 0 _ rfl; have y1 := hx.out.c 1 _ rfl)
        |(go_at_call 18; refine (habs.out _).mono ?_; rintro e0 wn ⟨rfl, rfl⟩)
        |(go_at_call_of 54 (Value.int .i64 p); refine (hg2.out _).mono ?_; clear hg2 y0 y1; rintro e0 wn ⟨rfl, hbn⟩; replace hx := Lib.hid (hx.out.below hbn); replace hB := Lib.hid (below_step hB.out hbn); clear hbn; have y0 := hx.out.c 0 _ rfl; have y1 := hx.out.c 1 _ rfl))
       go_ret2
       exact ⟨by rw [e1.out, e2.out]; rfl, hB.out⟩
      ·have habs := hg2
       go_wp2_with (first
        |(go_at_call_of 54 (Value.int .i64 num); refine (hg1.out _).mono ?_; clear hg1; rintro e0 wn ⟨rfl, hbn⟩; replace hx := Lib.hid (hx.out.below hbn); replace hB := Lib.hid (below_step hB.out hbn); clear hbn; have y0 := hx.out.c 0 _ rfl; have y1 := hx.out.c 1 _ rfl)
        |(go_at_call 18; refine (habs.out _).mono ?_; rintro e0 wn ⟨rfl, rfl⟩)
        |(go_at_call_of 54 (Value.int .i64 p); refine (hg2.out _).mono ?_; clear hg2 y0 y1; rintro e0 wn ⟨rfl, hbn⟩; replace hx := Lib.hid (hx.out.below hbn); replace hB := Lib.hid (below_step hB.out hbn); clear hbn; have y0 := hx.out.c 0 _ rfl; have y1 := hx.out.c 1 _ rfl))
       go_ret2
       exact ⟨by rw [e1.out, e2.out]; rfl, hB.out⟩
      ·have habs := Lib.hid (fun W => absG_any (num.tdiv den) (by omega) (by omega) W)
       rw [hc3] at habs
       have hc4b : (num.tmod den == 0) = false := by simpa using hc4
       have hc4c : (num.tmod den != 0) = true := by simpa using hc4
       clear hc3
       go_wp2_with (first
        |(go_at_call_of 54 (Value.int .i64 num); refine (hg1.out _).mono ?_; clear hg1; rintro e0 wn ⟨rfl, hbn⟩; replace hx := Lib.hid (hx.out.below hbn); replace hB := Lib.hid (below_step hB.out hbn); clear hbn; have y0 := hx.out.c 0 _ rfl; have y1 := hx.out.c 1 _ rfl)
        |(go_at_call 18; refine (habs.out _).mono ?_; rintro e0 wn ⟨rfl, rfl⟩)
        |(go_at_call_of 54 (Value.int .i64 p); refine (hg2.out _).mono ?_; clear hg2 y0 y1; rintro e0 wn ⟨rfl, hbn⟩; replace hx := Lib.hid (hx.out.below hbn); replace hB := Lib.hid (below_step hB.out hbn); clear hbn; have y0 := hx.out.c 0 _ rfl; have y1 := hx.out.c 1 _ rfl))
       go_ret2
       exact ⟨by rw [e1.out, e2.out]; rfl, hB.out⟩
     ·clear hqr hq0 hrr hgi hq5
      rcases hcs with hc3 | ⟨hc3, hc4⟩
      ·have habs := Lib.hid (fun W => absG_any (num.tdiv den) (by omega) (by omega) W)
       generalize (num.tdiv den).natAbs = aq at *
       have hc3b : ((aq : Int) == 2000000) = false := by simpa using hc3
       have hg3 : (0 : Int) < (Int.gcd p den : Int) := by have := Cal.gcd_pos (a := p) (b := den) (by omega); omega
       have hmo : Hid (Cal.more p den = den.tdiv (Int.gcd p den : Int)) := rfl
       have hm0 : 0 ≤ den.tdiv (Int.gcd p den : Int) := Int.tdiv_nonneg (by omega) (by omega)
       have hm1 : den.tdiv (Int.gcd p den : Int) ≤ den := by
        have : (den.tdiv (Int.gcd p den : Int)).natAbs ≤ den.natAbs := by rw [Int.natAbs_tdiv]; exact Nat.div_le_self _ _
        omega
       generalize Int.gcd p den = g2 at *
       have hgn : ¬ (g2 : Int) = 0 := by omega
       have hgn2 : ¬ g2 = 0 := by omega
       have hw3 : IntKind.i64.wrap (den.tdiv (g2 : Int)) = den.tdiv (g2 : Int) := wrap_small (by omega) (by omega)
       have ht0 : 0 ≤ (4000000000 : Int).tdiv p := Int.tdiv_nonneg (by omega) (by omega)
       have ht1 : (4000000000 : Int).tdiv p ≤ 4000000000 := by
        have : ((4000000000 : Int).tdiv p).natAbs ≤ (4000000000 : Int).natAbs := by rw [Int.natAbs_tdiv]; exact Nat.div_le_self _ _
        omega
       have hw4 : IntKind.i64.wrap ((4000000000 : Int).tdiv p) = (4000000000 : Int).tdiv p := wrap_small (by omega) (by omega)
       have hpn : ¬ p = 0 := by omega
       have hhz : Hid (Cal.hErr p (num, den) = if (4000000000 : Int).tdiv p < den.tdiv (g2 : Int) then 8 else 0) := by
        show _ = _
        unfold Cal.hErr
        dsimp only
        rw [if_neg hd1, if_neg (by simpa using hgc), if_neg (by rw [hbg]; decide), hmo.out]
       by_cases hlg : (4000000000 : Int).tdiv p < den.tdiv (g2 : Int)
       ·obtain ⟨e1, e2⟩ := hbad.out 8 (by decide) (by rw [hhz.out, if_pos hlg])
        replace e1 := Lib.hid e1
        replace e2 := Lib.hid e2
        clear hbad hgood hbg hmo hhz hm0 hm1 ht0 ht1 hgc
        go_wp2_with (first
         |(go_at_call_of 54 (Value.int .i64 num); refine (hg1.out _).mono ?_; clear hg1; rintro e0 wn ⟨rfl, hbn⟩; replace hx := Lib.hid (hx.out.below hbn); replace hB := Lib.hid (below_step hB.out hbn); clear hbn; have y0 := hx.out.c 0 _ rfl; have y1 := hx.out.c 1 _ rfl)
         |(go_at_call 18; refine (habs.out _).mono ?_; rintro e0 wn ⟨rfl, rfl⟩)
         |(go_at_call_of 54 (Value.int .i64 p); refine (hg2.out _).mono ?_; clear hg2 y0 y1; rintro e0 wn ⟨rfl, hbn⟩; replace hx := Lib.hid (hx.out.below hbn); replace hB := Lib.hid (below_step hB.out hbn); clear hbn; have y0 := hx.out.c 0 _ rfl; have y1 := hx.out.c 1 _ rfl))
        refine wp_region_held_drew (S := Sx wn [(wr.heap.size, 1, .int .i64 den)]) (by kernel_rfl) (Sx.mk (by simp only [cs_iff_cons]; exact ⟨y1, cs_nil _⟩) (Below.refl _ _)).drew (fun hHeld => ?_)
        clear y0 y1
        refine tkHx 0 70 ?_
        refine tkHx 1 71 ?_
        refine tkHx 2 72 ?_
        refine tkHx 3 73 ?_
        refine tkHx 4 74 ?_
        refine tkHx 5 75 ?_
        refine tkHx 6 76 ?_
        refine wpAnyH_done (by kernel_rfl) ?_ _
        (try simp only [apS, apN, siA, scZ, scS])
        replace hx := Lib.hid (hx.out.below hHeld.bel)
        replace hB := Lib.hid (below_step hB.out hHeld.bel)
        clear hHeld
        have y0 := hx.out.c 0 _ rfl
        have y1 := hx.out.c 1 _ rfl
        go_wp2_with (first
         |(go_at_call_of 54 (Value.int .i64 num); refine (hg1.out _).mono ?_; clear hg1; rintro e0 wn ⟨rfl, hbn⟩; replace hx := Lib.hid (hx.out.below hbn); replace hB := Lib.hid (below_step hB.out hbn); clear hbn; have y0 := hx.out.c 0 _ rfl; have y1 := hx.out.c 1 _ rfl)
         |(go_at_call 18; refine (habs.out _).mono ?_; rintro e0 wn ⟨rfl, rfl⟩)
         |(go_at_call_of 54 (Value.int .i64 p); refine (hg2.out _).mono ?_; clear hg2 y0 y1; rintro e0 wn ⟨rfl, hbn⟩; replace hx := Lib.hid (hx.out.below hbn); replace hB := Lib.hid (below_step hB.out hbn); clear hbn; have y0 := hx.out.c 0 _ rfl; have y1 := hx.out.c 1 _ rfl))
        go_ret2
        exact ⟨by rw [e1.out, e2.out]; rfl, hB.out⟩
       ·have hnx := Lib.hid (hgood.out (by rw [hhz.out, if_neg hlg]))
        have hpl := Cal.part_le (p := p) (d := den) (by omega) (by omega) (by rw [hmo.out]; omega)
        rw [hmo.out] at hpl
        rw [hmo.out] at hnx
        have hw5 : IntKind.i64.wrap (p * den.tdiv (g2 : Int)) = p * den.tdiv (g2 : Int) := wrap_small (by omega) (by omega)
        clear hbad hgood hbg hmo hhz hm0 hm1 ht0 ht1 hgc
        go_wp2_with (first
         |(go_at_call_of 54 (Value.int .i64 num); refine (hg1.out _).mono ?_; clear hg1; rintro e0 wn ⟨rfl, hbn⟩; replace hx := Lib.hid (hx.out.below hbn); replace hB := Lib.hid (below_step hB.out hbn); clear hbn; have y0 := hx.out.c 0 _ rfl; have y1 := hx.out.c 1 _ rfl)
         |(go_at_call 18; refine (habs.out _).mono ?_; rintro e0 wn ⟨rfl, rfl⟩)
         |(go_at_call_of 54 (Value.int .i64 p); refine (hg2.out _).mono ?_; clear hg2 y0 y1; rintro e0 wn ⟨rfl, hbn⟩; replace hx := Lib.hid (hx.out.below hbn); replace hB := Lib.hid (below_step hB.out hbn); clear hbn; have y0 := hx.out.c 0 _ rfl; have y1 := hx.out.c 1 _ rfl))
        refine wp_region_held_drew (S := Sx wn [(wr.heap.size, 1, .int .i64 den)]) (by kernel_rfl) (Sx.mk (by simp only [cs_iff_cons]; exact ⟨y1, cs_nil _⟩) (Below.refl _ _)).drew (fun hHeld => ?_)
        clear y0 y1
        refine tkHx 0 70 ?_
        refine tkHx 1 71 ?_
        refine tkHx 2 72 ?_
        refine tkHx 3 73 ?_
        refine tkHx 4 74 ?_
        refine tkHx 5 75 ?_
        refine tkHx 6 76 ?_
        refine wpAnyH_done (by kernel_rfl) ?_ _
        (try simp only [apS, apN, siA, scZ, scS])
        replace hx := Lib.hid (hx.out.below hHeld.bel)
        replace hB := Lib.hid (below_step hB.out hHeld.bel)
        clear hHeld
        have y0 := hx.out.c 0 _ rfl
        have y1 := hx.out.c 1 _ rfl
        go_wp2_with (first
         |(go_at_call_of 54 (Value.int .i64 num); refine (hg1.out _).mono ?_; clear hg1; rintro e0 wn ⟨rfl, hbn⟩; replace hx := Lib.hid (hx.out.below hbn); replace hB := Lib.hid (below_step hB.out hbn); clear hbn; have y0 := hx.out.c 0 _ rfl; have y1 := hx.out.c 1 _ rfl)
         |(go_at_call 18; refine (habs.out _).mono ?_; rintro e0 wn ⟨rfl, rfl⟩)
         |(go_at_call_of 54 (Value.int .i64 p); refine (hg2.out _).mono ?_; clear hg2 y0 y1; rintro e0 wn ⟨rfl, hbn⟩; replace hx := Lib.hid (hx.out.below hbn); replace hB := Lib.hid (below_step hB.out hbn); clear hbn; have y0 := hx.out.c 0 _ rfl; have y1 := hx.out.c 1 _ rfl))
        go_roundw
        case rel => exact ⟨k + 1, _, by omega, by go_num, rfl, hpl.1, hpl.2, hnx, hB⟩
        case measure => simp [intOf]; omega
      ·have habs := Lib.hid (fun W => absG_any (num.tdiv den) (by omega) (by omega) W)
       rw [hc3] at habs
       clear hc3
       have hg3 : (0 : Int) < (Int.gcd p den : Int) := by have := Cal.gcd_pos (a := p) (b := den) (by omega); omega
       have hmo : Hid (Cal.more p den = den.tdiv (Int.gcd p den : Int)) := rfl
       have hm0 : 0 ≤ den.tdiv (Int.gcd p den : Int) := Int.tdiv_nonneg (by omega) (by omega)
       have hm1 : den.tdiv (Int.gcd p den : Int) ≤ den := by
        have : (den.tdiv (Int.gcd p den : Int)).natAbs ≤ den.natAbs := by rw [Int.natAbs_tdiv]; exact Nat.div_le_self _ _
        omega
       generalize Int.gcd p den = g2 at *
       have hgn : ¬ (g2 : Int) = 0 := by omega
       have hgn2 : ¬ g2 = 0 := by omega
       have hw3 : IntKind.i64.wrap (den.tdiv (g2 : Int)) = den.tdiv (g2 : Int) := wrap_small (by omega) (by omega)
       have ht0 : 0 ≤ (4000000000 : Int).tdiv p := Int.tdiv_nonneg (by omega) (by omega)
       have ht1 : (4000000000 : Int).tdiv p ≤ 4000000000 := by
        have : ((4000000000 : Int).tdiv p).natAbs ≤ (4000000000 : Int).natAbs := by rw [Int.natAbs_tdiv]; exact Nat.div_le_self _ _
        omega
       have hw4 : IntKind.i64.wrap ((4000000000 : Int).tdiv p) = (4000000000 : Int).tdiv p := wrap_small (by omega) (by omega)
       have hpn : ¬ p = 0 := by omega
       have hhz : Hid (Cal.hErr p (num, den) = if (4000000000 : Int).tdiv p < den.tdiv (g2 : Int) then 8 else 0) := by
        show _ = _
        unfold Cal.hErr
        dsimp only
        rw [if_neg hd1, if_neg (by simpa using hgc), if_neg (by rw [hbg]; decide), hmo.out]
       by_cases hlg : (4000000000 : Int).tdiv p < den.tdiv (g2 : Int)
       ·obtain ⟨e1, e2⟩ := hbad.out 8 (by decide) (by rw [hhz.out, if_pos hlg])
        replace e1 := Lib.hid e1
        replace e2 := Lib.hid e2
        clear hbad hgood hbg hmo hhz hm0 hm1 ht0 ht1 hgc
        go_wp2_with (first
         |(go_at_call_of 54 (Value.int .i64 num); refine (hg1.out _).mono ?_; clear hg1; rintro e0 wn ⟨rfl, hbn⟩; replace hx := Lib.hid (hx.out.below hbn); replace hB := Lib.hid (below_step hB.out hbn); clear hbn; have y0 := hx.out.c 0 _ rfl; have y1 := hx.out.c 1 _ rfl)
         |(go_at_call 18; refine (habs.out _).mono ?_; rintro e0 wn ⟨rfl, rfl⟩)
         |(go_at_call_of 54 (Value.int .i64 p); refine (hg2.out _).mono ?_; clear hg2 y0 y1; rintro e0 wn ⟨rfl, hbn⟩; replace hx := Lib.hid (hx.out.below hbn); replace hB := Lib.hid (below_step hB.out hbn); clear hbn; have y0 := hx.out.c 0 _ rfl; have y1 := hx.out.c 1 _ rfl))
        refine wp_region_held_drew (S := Sx wn [(wr.heap.size, 1, .int .i64 den)]) (by kernel_rfl) (Sx.mk (by simp only [cs_iff_cons]; exact ⟨y1, cs_nil _⟩) (Below.refl _ _)).drew (fun hHeld => ?_)
        clear y0 y1
        refine tkHx 0 70 ?_
        refine tkHx 1 71 ?_
        refine tkHx 2 72 ?_
        refine tkHx 3 73 ?_
        refine tkHx 4 74 ?_
        refine tkHx 5 75 ?_
        refine tkHx 6 76 ?_
        refine wpAnyH_done (by kernel_rfl) ?_ _
        (try simp only [apS, apN, siA, scZ, scS])
        replace hx := Lib.hid (hx.out.below hHeld.bel)
        replace hB := Lib.hid (below_step hB.out hHeld.bel)
        clear hHeld
        have y0 := hx.out.c 0 _ rfl
        have y1 := hx.out.c 1 _ rfl
        go_wp2_with (first
         |(go_at_call_of 54 (Value.int .i64 num); refine (hg1.out _).mono ?_; clear hg1; rintro e0 wn ⟨rfl, hbn⟩; replace hx := Lib.hid (hx.out.below hbn); replace hB := Lib.hid (below_step hB.out hbn); clear hbn; have y0 := hx.out.c 0 _ rfl; have y1 := hx.out.c 1 _ rfl)
         |(go_at_call 18; refine (habs.out _).mono ?_; rintro e0 wn ⟨rfl, rfl⟩)
         |(go_at_call_of 54 (Value.int .i64 p); refine (hg2.out _).mono ?_; clear hg2 y0 y1; rintro e0 wn ⟨rfl, hbn⟩; replace hx := Lib.hid (hx.out.below hbn); replace hB := Lib.hid (below_step hB.out hbn); clear hbn; have y0 := hx.out.c 0 _ rfl; have y1 := hx.out.c 1 _ rfl))
        go_ret2
        exact ⟨by rw [e1.out, e2.out]; rfl, hB.out⟩
       ·have hnx := Lib.hid (hgood.out (by rw [hhz.out, if_neg hlg]))
        have hpl := Cal.part_le (p := p) (d := den) (by omega) (by omega) (by rw [hmo.out]; omega)
        rw [hmo.out] at hpl
        rw [hmo.out] at hnx
        have hw5 : IntKind.i64.wrap (p * den.tdiv (g2 : Int)) = p * den.tdiv (g2 : Int) := wrap_small (by omega) (by omega)
        clear hbad hgood hbg hmo hhz hm0 hm1 ht0 ht1 hgc
        go_wp2_with (first
         |(go_at_call_of 54 (Value.int .i64 num); refine (hg1.out _).mono ?_; clear hg1; rintro e0 wn ⟨rfl, hbn⟩; replace hx := Lib.hid (hx.out.below hbn); replace hB := Lib.hid (below_step hB.out hbn); clear hbn; have y0 := hx.out.c 0 _ rfl; have y1 := hx.out.c 1 _ rfl)
         |(go_at_call 18; refine (habs.out _).mono ?_; rintro e0 wn ⟨rfl, rfl⟩)
         |(go_at_call_of 54 (Value.int .i64 p); refine (hg2.out _).mono ?_; clear hg2 y0 y1; rintro e0 wn ⟨rfl, hbn⟩; replace hx := Lib.hid (hx.out.below hbn); replace hB := Lib.hid (below_step hB.out hbn); clear hbn; have y0 := hx.out.c 0 _ rfl; have y1 := hx.out.c 1 _ rfl))
        refine wp_region_held_drew (S := Sx wn [(wr.heap.size, 1, .int .i64 den)]) (by kernel_rfl) (Sx.mk (by simp only [cs_iff_cons]; exact ⟨y1, cs_nil _⟩) (Below.refl _ _)).drew (fun hHeld => ?_)
        clear y0 y1
        refine tkHx 0 70 ?_
        refine tkHx 1 71 ?_
        refine tkHx 2 72 ?_
        refine tkHx 3 73 ?_
        refine tkHx 4 74 ?_
        refine tkHx 5 75 ?_
        refine tkHx 6 76 ?_
        refine wpAnyH_done (by kernel_rfl) ?_ _
        (try simp only [apS, apN, siA, scZ, scS])
        replace hx := Lib.hid (hx.out.below hHeld.bel)
        replace hB := Lib.hid (below_step hB.out hHeld.bel)
        clear hHeld
        have y0 := hx.out.c 0 _ rfl
        have y1 := hx.out.c 1 _ rfl
        go_wp2_with (first
         |(go_at_call_of 54 (Value.int .i64 num); refine (hg1.out _).mono ?_; clear hg1; rintro e0 wn ⟨rfl, hbn⟩; replace hx := Lib.hid (hx.out.below hbn); replace hB := Lib.hid (below_step hB.out hbn); clear hbn; have y0 := hx.out.c 0 _ rfl; have y1 := hx.out.c 1 _ rfl)
         |(go_at_call 18; refine (habs.out _).mono ?_; rintro e0 wn ⟨rfl, rfl⟩)
         |(go_at_call_of 54 (Value.int .i64 p); refine (hg2.out _).mono ?_; clear hg2 y0 y1; rintro e0 wn ⟨rfl, hbn⟩; replace hx := Lib.hid (hx.out.below hbn); replace hB := Lib.hid (below_step hB.out hbn); clear hbn; have y0 := hx.out.c 0 _ rfl; have y1 := hx.out.c 1 _ rfl))
        go_roundw
        case rel => exact ⟨k + 1, _, by omega, by go_num, rfl, hpl.1, hpl.2, hnx, hB⟩
        case measure => simp [intOf]; omega
    ·obtain ⟨e1, e2⟩ := hbad.out 3 (by decide) (by unfold Cal.hErr; rw [if_neg hd1, if_pos (by simpa using hgc)])
     replace e1 := Lib.hid e1
     replace e2 := Lib.hid e2
     have habs := hg2
     clear hbad hgood
     generalize Int.gcd num den = gn at *
     have hgcb : ((gn : Int) == 1) = false := by simp; omega
     go_wp2_with (first
      |(go_at_call_of 54 (Value.int .i64 num); refine (hg1.out _).mono ?_; clear hg1; rintro e0 wn ⟨rfl, hbn⟩; replace hx := Lib.hid (hx.out.below hbn); replace hB := Lib.hid (below_step hB.out hbn); clear hbn; have y0 := hx.out.c 0 _ rfl; have y1 := hx.out.c 1 _ rfl)
      |(go_at_call 18; refine (habs.out _).mono ?_; rintro e0 wn ⟨rfl, rfl⟩)
      |(go_at_call_of 54 (Value.int .i64 p); refine (hg2.out _).mono ?_; clear hg2 y0 y1; rintro e0 wn ⟨rfl, hbn⟩; replace hx := Lib.hid (hx.out.below hbn); replace hB := Lib.hid (below_step hB.out hbn); clear hbn; have y0 := hx.out.c 0 _ rfl; have y1 := hx.out.c 1 _ rfl))
     go_ret2
     exact ⟨by rw [e1.out, e2.out]; rfl, hB.out⟩
   ·obtain rfl : k = fr.length := by omega
    have hS1 := hS.out
    rw [List.drop_length] at hS1
    have hz : Cal.scl 1 fr = (0, p) := hS1
    have e1 : Hid (E = 0) := by show _ = _; rw [← hEE.out, hz]
    have e2 : Hid (R = p) := by show _ = _; rw [← hRR.out, hz]; rfl
    clear hS hS1 hz
    go_wp2_with fail
    go_ret2
    exact ⟨by rw [e1.out, e2.out]; rfl, hB0.out⟩
 ·rw [if_neg hlen] at hE hR
  subst hE hR
  have hlb : ((fr.length : Int) == N) = false := by simpa using hlen
  go_enter Try.func16, Try.ntmps16
  go_wp2_with fail
  go_ret2
  exact ⟨rfl, hb0.out⟩
end Go.Proofs.Ytfcjeejhdklkdaa
