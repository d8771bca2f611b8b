/- What the statements rest on: definitions and walks, part 16. -/
import Derived.Test.YtfcjeejhdklkdaaJ15
import Derived.Test.YtfcjeejhdklkdaaJ07
namespace Go.Proofs.Ytfcjeejhdklkdaa
open Go Go.RowKit Go.Shelf
theorem Sx.setG {w W : World} {L : List (Nat × Nat × Value)} {g o : Nat} (h : Sx w L W) (hb : w.heap.size ≤ g) (hL : ∀ x ∈ L, x.1 < w.heap.size) (v : Value) : Sx w L (W.setCell ⟨g, o, none⟩ v) :=
  ⟨fun x hx => (World.cell?_of_block (a := ⟨x.1, x.2.1, none⟩) (Below.heap_setCell W ⟨g, o, none⟩ v x.1 (fun e => by have h2 := hL x hx; dsimp only at e; omega))).trans (h.cs x hx), h.bel.setCell (p := ⟨g, o, none⟩) hb v⟩
/-- The reached points in memory, in the call's first block. -/
structure HgI (w : World) (N : Nat) (S : Nat → Bool) (W : World) : Prop where
  row : W.rowIs w.heap.size 4 N (fun i => .bool (S i))
  bel : Below w.heap.size w W
theorem HgI.below {w : World} {N : Nat} {S : Nat → Bool} {W W' : World} (h : HgI w N S W) (hb : Below W.heap.size W W') : HgI w N S W' := ⟨h.row.of_block (hb.block _ h.row.lt), below_step h.bel hb⟩
theorem HgI.set {w : World} {N : Nat} {S T : Nat → Bool} {W : World} (h : HgI w N S W) (a : Nat) (hT : ∀ i, T i = if i = a then true else S i) : HgI w N T (W.setCell ⟨w.heap.size, a, none⟩ (.bool true)) :=
  ⟨(h.row.set a (.bool true)).congr (fun i _ => by rw [hT i]; split <;> rfl), h.bel.setCell (p := ⟨w.heap.size, a, none⟩) (Nat.le_refl _) _⟩
theorem mk_bools (W : World) (n : Nat) (hn : n ≤ 1000000) : (Instr.makeSlice 116 (.int .i64 (n : Int)) (.int .i64 (n : Int))).run Try.prog W = .ok (.slice (some ⟨W.heap.size, 0, none⟩) n n) (W.alloc (.cells (madeCells #[.bool false] n) 4)) :=
  run_make_row' _ _ _ 1 Try.underlying116 (by kernel_rfl) rfl .i64 .i64 n (by omega) (by omega) W
theorem hg_start (w : World) (N : Nat) : HgI w N Cal.only0 (w.alloc (.cells ((madeCells #[.bool false] N).setIfInBounds 0 (.bool true)) 4)) :=
  ⟨by
    have h1 : ((madeCells #[Value.bool false] N).setIfInBounds 0 (.bool true)).size = N := by simp [size_madeCells]
    have := World.rowIs_alloc w ((madeCells #[Value.bool false] N).setIfInBounds 0 (.bool true)) 4 (fun i => .bool (Cal.only0 i)) (fun i hi => by
      rw [Array.getElem?_setIfInBounds]
      rw [h1] at hi
      have h2 : (madeCells #[Value.bool false] N).size = N := by simp [size_madeCells]
      unfold Cal.only0
      by_cases h : i = 0
      · subst h; simp [h2, hi]
      · rw [if_neg (fun e => h e.symm)]; simp [madeCells, hi, Nat.mod_one, h])
    rw [h1] at this
    exact this, below_alloc _ _⟩
set_option maxRecDepth 100000 in
set_option maxHeartbeats 4000000 in
theorem hangsR_any (N : Nat) (A : Option Addr) (c : Nat) (l : List Lev) (w : World) (hN1 : 1 ≤ N) (hN6 : N ≤ 6) (hL : Levs w A l) (hv : ∀ x ∈ l, (0 ≤ x.f ∧ x.f < N) ∧ (0 ≤ x.t ∧ x.t < N) ∧ x.f ≠ x.t) :
    Calls Try.prog 47 #[.int .i64 (N : Int), .slice A l.length c] w fun e w' => e = .returned (.bool ((List.range N).all (Cal.swept N l))) ∧ Below w.heap.size w w' := by
  obtain ⟨R, hR⟩ : ∃ R, (List.range N).all (Cal.swept N l) = R := ⟨_, rfl⟩
  rw [hR]
  replace hR := Lib.hid hR
  have hsz := hL.size
  have hmk := fun W => mk_bools W N (by omega)
  have hr0 := World.rowIs_made w (.bool false) N 4
  have hH0 := Lib.hid (hg_start w N)
  have c0 := hr0.cell (i := 0) (by omega)
  have f0 := hr0.frozen 0
  have hN0 : 0 < N := by omega
  have hN0i : (0 : Int) < (N : Int) := by omega
  replace hL := Lib.hid hL
  replace hv := Lib.hid hv
  clear hr0
  go_enter Try.func47, Try.ntmps47
  go_wp2_with fail
  generalize (w.alloc (.cells ((madeCells #[.bool false] N).setIfInBounds 0 (.bool true)) 4)) = W1 at *
  clear c0 f0 hmk hN0 hN0i
  go_loopw [6, 7] (fun r _ wr => ∃ k : Nat, k ≤ N ∧ r = .int .i64 k ∧ Hid (HgI w N (Cal.sweeps (l.map Cal.edge) k Cal.only0) wr)) (fun r _ _ => N - (intOf r).toNat)
  case atStart => exact ⟨0, Nat.zero_le _, rfl, hH0⟩
  case round =>
    clear hH0
    obtain ⟨r, hr, rfl, hH⟩ := hrel
    by_cases hrl : r < N
    · have hd0 : Hid (HgI w N (Cal.sweep1 ((l.map Cal.edge).take 0) (Cal.sweeps (l.map Cal.edge) r Cal.only0)) wr) := hH.out
      clear hH
      go_wp2_with fail
      go_loopw [7] (fun i wr => ∃ k : Nat, k ≤ l.length ∧ i = .int .i64 k ∧ Hid (HgI w N (Cal.sweep1 ((l.map Cal.edge).take k) (Cal.sweeps (l.map Cal.edge) r Cal.only0)) wr)) (fun i _ => l.length - (intOf i).toNat)
      case atStart => exact ⟨0, Nat.zero_le _, rfl, hd0⟩
      case round =>
        clear hd0
        obtain ⟨k, hk, rfl, hH⟩ := hrel
        by_cases hlt : k < l.length
        · have hk' : l[k]? = some l[k] := List.getElem?_eq_getElem hlt
          have hv1 := hv.out _ (List.getElem_mem hlt)
          have hst := Cal.sweep1_take (l := l.map Cal.edge) (k := k) (by simpa using hlt) (Cal.sweeps (l.map Cal.edge) r Cal.only0)
          rw [List.getElem_map] at hst
          obtain ⟨S, hS⟩ : ∃ S, Cal.sweep1 ((l.map Cal.edge).take k) (Cal.sweeps (l.map Cal.edge) r Cal.only0) = S := ⟨_, rfl⟩
          obtain ⟨T, hT⟩ : ∃ T, Cal.sweep1 ((l.map Cal.edge).take (k + 1)) (Cal.sweeps (l.map Cal.edge) r Cal.only0) = T := ⟨_, rfl⟩
          rw [hS] at hst hH
          rw [hT] at hst
          have hT := Lib.hid hT
          generalize l[k] = x at *
          obtain ⟨b, o, rfl, hbl, c0, c1, c2, c3⟩ := lev_at (hL.out.below hH.out.bel).rows hk'
          obtain ⟨b', o', hA, hbw, _⟩ := lev_at hL.out.rows hk'
          cases hA
          obtain ⟨xf, xt, xd, xw⟩ := x
          dsimp only at *
          obtain ⟨⟨f0, f1⟩, ⟨t0, t1⟩, hft⟩ := hv1
          obtain ⟨f, rfl⟩ : ∃ f : Nat, xf = (f : Int) := ⟨xf.toNat, by omega⟩
          obtain ⟨t, rfl⟩ : ∃ t : Nat, xt = (t : Int) := ⟨xt.toNat, by omega⟩
          have hfN : f < N := by omega
          have htN : t < N := by omega
          have g0 := hH.out.row.cell hfN
          have g1 := hH.out.row.cell htN
          have hki : (k : Int) < (l.length : Int) := by omega
          have hstay : Hid ((S f || S t) = false → HgI w N T wr) := fun h => by
            have e : T = S := by rw [hst]; unfold Cal.stepE; exact if_neg (by show ¬ (S f || S t) = true; rw [h]; decide)
            rw [e]; exact hH.out
          have hgo : Hid ((S f || S t) = true → ∀ W, HgI w N S W → HgI w N T ((W.setCell ⟨w.heap.size, f, none⟩ (.bool true)).setCell ⟨w.heap.size, t, none⟩ (.bool true))) := fun h W hW => by
            have e : T = fun p => decide (p = f) || decide (p = t) || S p := by rw [hst]; unfold Cal.stepE; exact if_pos h
            refine (hW.set (T := fun i => if i = f then true else S i) f (fun i => rfl)).set t (fun i => ?_)
            rw [e]
            by_cases h1 : i = f <;> by_cases h2 : i = t <;> simp [h1, h2]
          clear hst hk' hS hft f0 t0
          by_cases hany : (S f || S t) = true
          · have hgo := Lib.hid (hgo.out hany)
            clear hstay
            have hcase : S f = true ∨ (S f = false ∧ S t = true) := by
              cases h : S f
              · right; rw [h, Bool.false_or] at hany; exact ⟨rfl, hany⟩
              · left; rfl
            clear hany
            have hbb : Hid (∀ x ∈ [(b, o + k * 4, Value.int .i64 (f : Int)), (b, o + k * 4 + 1, Value.int .i64 (t : Int))], x.1 < w.heap.size) := fun x hx => by
              simp only [List.mem_cons, List.not_mem_nil, or_false] at hx
              rcases hx with rfl | rfl <;> exact hbw
            rcases hcase with h | ⟨h, h'⟩
            · rw [h] at g0
              clear h hbw
              go_wp2_with fail
              refine wp_region_held_drew (S := Sx w [(b, o + k * 4, .int .i64 (f : Int)), (b, o + k * 4 + 1, .int .i64 (t : Int))]) (by kernel_rfl) (Sx.mk (by simp only [cs_iff_cons]; exact ⟨c0, c1, cs_nil _⟩) hH.out.bel).drew (fun hHeld => ?_)
              replace hH : Hid (HgI w N S wr.drew) := hH.out.below ((Below.refl _ _).drew)
              clear c0 c1 c2 c3 g0 g1
              generalize wr.drew = Y at *
              refine tkHx 0 42 ?_
              refine tkHx 1 43 ?_
              refine tkHx 2 44 ?_
              refine tkHx 3 45 ?_
              refine tkHx 4 46 ?_
              refine tkHx 5 47 ?_
              refine tkHx 6 48 ?_
              refine tkHx 7 49 ?_
              refine tkHx 8 50 ?_
              refine tkHx 9 51 ?_
              refine tkHx 10 52 ?_
              refine tkHx 11 53 ?_
              refine tkHx 12 54 ?_
              have s0 := hH.out.row.cell hfN
              have s1 := hH.out.row.frozen f
              (refine ratHx 13 (fun K hK => ?_); go_simp)
              refine hK.out _ _ (hHeld.setG (g := w.heap.size) (o := f) (Nat.le_refl _) hbb.out (.bool true)) (fun hHeld => ?_)
              clear hK K s0 s1
              have hH2 := Lib.hid (hgo.out Y hH.out)
              have r1 := (hH.out.row.set f (.bool true)).cell htN
              have r2 := (hH.out.row.set f (.bool true)).frozen t
              clear hH
              generalize Y.setCell ⟨w.heap.size, f, none⟩ (.bool true) = Z at *
              refine tkHx 14 55 ?_
              (refine ratHx 15 (fun K hK => ?_); go_simp)
              refine hK.out _ _ (hHeld.setG (g := w.heap.size) (o := t) (Nat.le_refl _) hbb.out (.bool true)) (fun hHeld => ?_)
              clear hK K r1 r2
              ((try simp only [Act.put, List.setIfInBounds_toArray]); (try simp only [List.set_cons_zero, List.set_cons_succ]))
              refine wpAnyH_done (by kernel_rfl) ?_ _
              generalize Z.setCell ⟨w.heap.size, t, none⟩ (.bool true) = Z2 at *
              clear hHeld
              go_wp2_with fail
              go_roundw
              case rel => exact ⟨k + 1, by omega, by go_num, by rw [hT.out]; exact hH2⟩
              case measure => simp [intOf]; omega
            · rw [h] at g0
              rw [h'] at g1
              clear h h' hbw
              go_wp2_with fail
              refine wp_region_held_drew (S := Sx w [(b, o + k * 4, .int .i64 (f : Int)), (b, o + k * 4 + 1, .int .i64 (t : Int))]) (by kernel_rfl) (Sx.mk (by simp only [cs_iff_cons]; exact ⟨c0, c1, cs_nil _⟩) hH.out.bel).drew (fun hHeld => ?_)
              replace hH : Hid (HgI w N S wr.drew) := hH.out.below ((Below.refl _ _).drew)
              clear c0 c1 c2 c3 g0 g1
              generalize wr.drew = Y at *
              refine tkHx 0 42 ?_
              refine tkHx 1 43 ?_
              refine tkHx 2 44 ?_
              refine tkHx 3 45 ?_
              refine tkHx 4 46 ?_
              refine tkHx 5 47 ?_
              refine tkHx 6 48 ?_
              refine tkHx 7 49 ?_
              refine tkHx 8 50 ?_
              refine tkHx 9 51 ?_
              refine tkHx 10 52 ?_
              refine tkHx 11 53 ?_
              refine tkHx 12 54 ?_
              have s0 := hH.out.row.cell hfN
              have s1 := hH.out.row.frozen f
              (refine ratHx 13 (fun K hK => ?_); go_simp)
              refine hK.out _ _ (hHeld.setG (g := w.heap.size) (o := f) (Nat.le_refl _) hbb.out (.bool true)) (fun hHeld => ?_)
              clear hK K s0 s1
              have hH2 := Lib.hid (hgo.out Y hH.out)
              have r1 := (hH.out.row.set f (.bool true)).cell htN
              have r2 := (hH.out.row.set f (.bool true)).frozen t
              clear hH
              generalize Y.setCell ⟨w.heap.size, f, none⟩ (.bool true) = Z at *
              refine tkHx 14 55 ?_
              (refine ratHx 15 (fun K hK => ?_); go_simp)
              refine hK.out _ _ (hHeld.setG (g := w.heap.size) (o := t) (Nat.le_refl _) hbb.out (.bool true)) (fun hHeld => ?_)
              clear hK K r1 r2
              ((try simp only [Act.put, List.setIfInBounds_toArray]); (try simp only [List.set_cons_zero, List.set_cons_succ]))
              refine wpAnyH_done (by kernel_rfl) ?_ _
              generalize Z.setCell ⟨w.heap.size, t, none⟩ (.bool true) = Z2 at *
              clear hHeld
              go_wp2_with fail
              go_roundw
              case rel => exact ⟨k + 1, by omega, by go_num, by rw [hT.out]; exact hH2⟩
              case measure => simp [intOf]; omega
          · have hany : (S f || S t) = false := by simpa using hany
            have hH := Lib.hid (hstay.out hany)
            obtain ⟨h1, h2⟩ : S f = false ∧ S t = false := by simpa using hany
            rw [h1] at g0
            rw [h2] at g1
            clear hstay hgo hany h1 h2
            go_wp2_with fail
            go_roundw
            case rel => exact ⟨k + 1, by omega, by go_num, by rw [hT.out]; exact hH⟩
            case measure => simp [intOf]; omega
        · obtain rfl : k = l.length := by omega
          have hc2 : Hid (HgI w N (Cal.sweeps (l.map Cal.edge) (r + 1) Cal.only0) wr) := by
            show HgI _ _ _ _
            rw [Cal.sweeps_succ]
            have := hH.out
            rw [List.take_of_length_le (by simp)] at this
            exact this
          clear hH
          go_wp2_with fail
          go_roundw
          case rel => exact ⟨r + 1, by omega, by go_num, hc2⟩
          case measure => simp [intOf]; omega
    · obtain rfl : r = N := by omega
      have hSw : Hid (∀ p, Cal.swept r l p = Cal.sweeps (l.map Cal.edge) r Cal.only0 p) := fun p => rfl
      generalize Cal.sweeps (l.map Cal.edge) r Cal.only0 = S at *
      go_wp2_with fail
      go_loopw [8] (fun i wr => ∃ k : Nat, k ≤ r ∧ i = .int .i64 k ∧ Hid (∀ p, p < k → S p = true) ∧ Hid (HgI w r S wr)) (fun i _ => r - (intOf i).toNat)
      case atStart => exact ⟨0, Nat.zero_le _, rfl, fun p hp => by omega, hH⟩
      case round =>
        clear hH
        obtain ⟨k, hk, rfl, hall, hH⟩ := hrel
        by_cases hlt : k < r
        · have g0 := hH.out.row.cell hlt
          have hki : (k : Int) < (r : Int) := by omega
          cases hb : S k
          · have hf : Hid (R = false) := by
              show _ = _
              rw [← hR.out, List.all_eq_false]
              exact ⟨k, List.mem_range.2 hlt, by rw [hSw.out, hb]; decide⟩
            rw [hb] at g0
            clear hb hall
            go_wp2_with fail
            go_ret
            exact ⟨by rw [hf.out]; rfl, hH.out.bel⟩
          · have hall2 : Hid (∀ p, p < k + 1 → S p = true) := fun p hp => by
              rcases Nat.lt_succ_iff_lt_or_eq.1 hp with h | h
              · exact hall.out p h
              · rw [h]; exact hb
            rw [hb] at g0
            clear hb hall
            go_wp2_with fail
            go_roundw
            case rel => exact ⟨k + 1, by omega, by go_num, hall2, hH⟩
            case measure => simp [intOf]; omega
        · obtain rfl : k = r := by omega
          have hf : Hid (R = true) := by
            show _ = _
            rw [← hR.out, List.all_eq_true]
            exact fun p hp => by rw [hSw.out]; exact hall.out p (List.mem_range.1 hp)
          go_wp2_with fail
          go_ret
          exact ⟨by rw [hf.out]; rfl, hH.out.bel⟩
theorem inN_w (p n : Int) : (decide ((0 : Int) ≤ p) && decide (p ≤ n - 1)) = inN p n := by
  unfold inN
  by_cases h1 : 0 ≤ p <;> by_cases h2 : p < n <;> simp [h1, h2] <;> omega
set_option maxRecDepth 100000 in
set_option maxHeartbeats 4000000 in
theorem CheckNetR_any (n : Int) (A : Option Addr) (c : Nat) (l : List Lev) (w : World) (hL : Levs w A l) :
    Calls Try.prog 13 #[.int .i64 n, .slice A l.length c] w fun e w' => e = .returned (.int .i64 (Cal.netE n l)) ∧ Below w.heap.size w w' := by
  have hsz := hL.size
  obtain ⟨R, hRR⟩ : ∃ R, Cal.netE n l = R := ⟨_, rfl⟩
  rw [hRR]
  have hb0 : Hid (Below w.heap.size w w) := Below.refl _ _
  by_cases hn : n < 1 ∨ 6 < n
  · have hR : Hid (R = 2) := by show _ = _; rw [← hRR]; unfold Cal.netE; rw [if_pos hn]
    clear hRR
    have hw : Hid (∀ W, Calls Try.prog 19 #[.int .i64 n, .int .i64 1, .int .i64 6] W fun e w' => e = .returned (.bool false) ∧ W = w') := fun W => by
      refine (Within_any n 1 6 W).mono ?_
      rintro e w' ⟨rfl, rfl⟩
      refine ⟨?_, rfl⟩
      rcases hn with h | h
      · rw [show decide ((1 : Int) ≤ n) = false from by simp; omega, Bool.false_and]
      · rw [show decide (n ≤ 6) = false from by simp; omega, Bool.and_false]
    go_enter Try.func13, Try.ntmps13
    go_wp2_with (go_at_call 19; refine (hw.out _).mono ?_; rintro e0 wn ⟨rfl, rfl⟩)
    go_ret
    exact ⟨ret_int hR.out.symm, hb0.out⟩
  · have hw : Hid (∀ W, Calls Try.prog 19 #[.int .i64 n, .int .i64 1, .int .i64 6] W fun e w' => e = .returned (.bool true) ∧ W = w') := fun W => by
      refine (Within_any n 1 6 W).mono ?_
      rintro e w' ⟨rfl, rfl⟩
      refine ⟨?_, rfl⟩
      rw [show decide ((1 : Int) ≤ n) = true from by simp; omega, show decide (n ≤ 6) = true from by simp; omega]; rfl
    by_cases hl : 20 < l.length
    · have hR : Hid (R = 8) := by show _ = _; rw [← hRR]; unfold Cal.netE; rw [if_neg hn, if_pos hl]
      have hl1 : 20 < (l.length : Int) := by omega
      clear hRR hn
      go_enter Try.func13, Try.ntmps13
      go_wp2_with (go_at_call 19; refine (hw.out _).mono ?_; rintro e0 wn ⟨rfl, rfl⟩)
      go_ret
      exact ⟨ret_int hR.out.symm, hb0.out⟩
    · have hR : Hid (R = if Cal.levsE n (l.drop 0) = 0 then (if (List.range n.toNat).all (Cal.swept n.toNat l) = true then 0 else 29) else Cal.levsE n (l.drop 0)) := by show _ = _; rw [← hRR]; unfold Cal.netE; rw [if_neg hn, if_neg hl]; rfl
      have hE0 : Hid (Cal.levsE n l = Cal.levsE n (l.drop 0)) := rfl
      have hl1 : ¬ 20 < (l.length : Int) := by omega
      replace hL := Lib.hid hL
      have hn1 : IntKind.i64.wrap (n - 1) = n - 1 := wrap_small (by omega) (by omega)
      have hin : Hid (∀ p W, Calls Try.prog 19 #[.int .i64 p, .int .i64 0, .int .i64 (n - 1)] W fun e w' => e = .returned (.bool (inN p n)) ∧ W = w') := fun p W => by
        have := Within_any p 0 (n - 1) W
        rw [inN_w p n] at this
        exact this
      have hd : Hid (∀ d W, Calls Try.prog 19 #[.int .i64 d, .int .i64 (-100000), .int .i64 100000] W fun e w' => e = .returned (.bool (decide (-100000 ≤ d) && decide (d ≤ 100000))) ∧ W = w') := fun d W => Within_any d _ _ W
      have hwt : Hid (∀ d W, Calls Try.prog 19 #[.int .i64 d, .int .i64 1, .int .i64 10] W fun e w' => e = .returned (.bool (decide ((1 : Int) ≤ d) && decide (d ≤ 10))) ∧ W = w') := fun d W => Within_any d _ _ W
      have hn12 := Lib.hid hn
      clear hRR hn
      go_enter Try.func13, Try.ntmps13
      go_wp2_with (go_at_call 19; refine (hw.out _).mono ?_; rintro e0 wn ⟨rfl, rfl⟩; clear hw)
      go_loopw [5] (fun i wr => ∃ k : Nat, k ≤ l.length ∧ i = .int .i64 k ∧ Hid (Cal.levsE n l = Cal.levsE n (l.drop k)) ∧ Hid (Below w.heap.size w wr)) (fun i _ => l.length - (intOf i).toNat)
      case atStart => exact ⟨0, Nat.zero_le _, rfl, hE0, hb0⟩
      case round =>
        clear hE0 hb0
        obtain ⟨k, hk, rfl, hE, hb⟩ := hrel
        by_cases hlt : k < l.length
        · have hk' : l[k]? = some l[k] := List.getElem?_eq_getElem hlt
          have hd0 := Cal.levsE_drop (n := n) hlt
          have hcs := levE_cases n l[k]
          generalize l[k] = x at *
          obtain ⟨b, o, rfl, hbl, c0, c1, c2, c3⟩ := lev_at (hL.out.below hb.out).rows hk'
          have hki : (k : Int) < (l.length : Int) := by omega
          clear hk'
          obtain ⟨f, t, d, wt⟩ := x
          dsimp only at *
          have hRk : Hid (∀ v, v ≠ 0 → Cal.levE n ⟨f, t, d, wt⟩ = v → R = v) := fun v hv hz => by
            rw [hz, if_neg hv] at hd0
            rw [hR.out, show Cal.levsE n (l.drop 0) = v from hE.out.trans hd0, if_neg hv]
          have hE2 : Hid (Cal.levE n ⟨f, t, d, wt⟩ = 0 → Cal.levsE n l = Cal.levsE n (l.drop (k + 1))) := fun hz => by
            rw [hz, if_pos rfl] at hd0
            exact hE.out.trans hd0
          clear hd0 hE hR
          rcases hcs with ⟨h1, hz⟩ | ⟨h1, h2, hz⟩ | ⟨h1, h2, h3, hz⟩ | ⟨h1, h2, h3, hz, h4⟩ | ⟨h1, h2, h3, hz, h4, h5, h6, h7⟩
          · have hR := Lib.hid (hRk.out _ (by decide) hz)
            replace h1 := Lib.hid h1
            have h2 := h1
            have hdv := h1
            clear hz hE2 hRk
            go_wp2_with (go_at_call 19; refine (hin.out _ _).mono ?_; rintro e0 wn ⟨rfl, rfl⟩; first | rw [h1.out] | rw [h2.out])
            go_ret
            exact ⟨ret_int hR.out.symm, hb.out⟩
          · have hR := Lib.hid (hRk.out _ (by decide) hz)
            replace h1 := Lib.hid h1
            replace h2 := Lib.hid h2
            clear hz hE2 hRk
            go_wp2_with (go_at_call 19; refine (hin.out _ _).mono ?_; rintro e0 wn ⟨rfl, rfl⟩; first | rw [h1.out] | rw [h2.out])
            go_ret
            exact ⟨ret_int hR.out.symm, hb.out⟩
          · have hR := Lib.hid (hRk.out _ (by decide) hz)
            replace h1 := Lib.hid h1
            replace h2 := Lib.hid h2
            clear hz hE2 hRk
            subst h3
            go_wp2_with (go_at_call 19; refine (hin.out _ _).mono ?_; rintro e0 wn ⟨rfl, rfl⟩; first | rw [h1.out] | rw [h2.out])
            refine wp_region_held_drew (S := Sx wr [(b, o + k * 4, .int .i64 f), (b, o + k * 4 + 1, .int .i64 f)]) (by kernel_rfl) (Sx.mk (by simp only [cs_iff_cons]; exact ⟨c0, c1, cs_nil _⟩) (Below.refl _ _)).drew (fun hHeld => ?_)
            refine tkHx 0 38 ?_
            refine tkHx 1 39 ?_
            refine tkHx 2 40 ?_
            refine tkHx 3 41 ?_
            refine tkHx 4 42 ?_
            refine tkHx 5 43 ?_
            refine tkHx 6 44 ?_
            refine tkHx 7 45 ?_
            refine tkHx 8 46 ?_
            refine tkHx 9 47 ?_
            refine tkHx 10 48 ?_
            refine wpAnyH_done (by kernel_rfl) ?_ _
            ((try simp only [Act.put, List.setIfInBounds_toArray]); (try simp only [List.set_cons_zero, List.set_cons_succ]))
            have hb9 := Lib.hid (below_step hb.out hHeld.bel)
            have c2' := (Below.cell (p := ⟨b, o + k * 4 + 2, none⟩) hHeld.bel hbl).trans c2
            have c3' := (Below.cell (p := ⟨b, o + k * 4 + 3, none⟩) hHeld.bel hbl).trans c3
            clear hHeld c0 c1 c2 c3
            go_wp2_with fail
            go_ret
            exact ⟨ret_int hR.out.symm, hb9.out⟩
          · have hR := Lib.hid (hRk.out _ (by decide) hz)
            replace h1 := Lib.hid h1
            replace h2 := Lib.hid h2
            have h3b : (f == t) = false := by simpa using h3
            clear hz hE2 hRk
            by_cases hdd : (decide (-100000 ≤ d) && decide (d ≤ 100000)) = true
            · have hww : Hid ((decide ((1 : Int) ≤ wt) && decide (wt ≤ 10)) = false) := by
                show _ = _
                rw [Bool.and_eq_true, decide_eq_true_eq, decide_eq_true_eq] at hdd
                by_cases q1 : (1 : Int) ≤ wt <;> by_cases q2 : wt ≤ 10 <;> simp [q1, q2] <;> omega
              replace hdd := Lib.hid hdd
              clear h4
              go_wp2_with (go_at_call 19; refine (hin.out _ _).mono ?_; rintro e0 wn ⟨rfl, rfl⟩; first | rw [h1.out] | rw [h2.out])
              refine wp_region_held_drew (S := Sx wr [(b, o + k * 4, .int .i64 f), (b, o + k * 4 + 1, .int .i64 t)]) (by kernel_rfl) (Sx.mk (by simp only [cs_iff_cons]; exact ⟨c0, c1, cs_nil _⟩) (Below.refl _ _)).drew (fun hHeld => ?_)
              refine tkHx 0 38 ?_
              refine tkHx 1 39 ?_
              refine tkHx 2 40 ?_
              refine tkHx 3 41 ?_
              refine tkHx 4 42 ?_
              refine tkHx 5 43 ?_
              refine tkHx 6 44 ?_
              refine tkHx 7 45 ?_
              refine tkHx 8 46 ?_
              refine tkHx 9 47 ?_
              refine tkHx 10 48 ?_
              refine wpAnyH_done (by kernel_rfl) ?_ _
              ((try simp only [Act.put, List.setIfInBounds_toArray]); (try simp only [List.set_cons_zero, List.set_cons_succ]))
              have hb9 := Lib.hid (below_step hb.out hHeld.bel)
              have c2' := (Below.cell (p := ⟨b, o + k * 4 + 2, none⟩) hHeld.bel hbl).trans c2
              have c3' := (Below.cell (p := ⟨b, o + k * 4 + 3, none⟩) hHeld.bel hbl).trans c3
              clear hHeld c0 c1 c2 c3
              go_wp2_with (go_at_call 19; refine (Within_any _ _ _ _).mono ?_; rintro e0 wn ⟨rfl, rfl⟩; first | rw [hdd.out] | rw [hww.out])
              go_ret
              exact ⟨ret_int hR.out.symm, hb9.out⟩
            · replace hdd : Hid ((decide (-100000 ≤ d) && decide (d ≤ 100000)) = false) := by show _ = _; simpa using hdd
              have hww := hdd
              clear h4
              go_wp2_with (go_at_call 19; refine (hin.out _ _).mono ?_; rintro e0 wn ⟨rfl, rfl⟩; first | rw [h1.out] | rw [h2.out])
              refine wp_region_held_drew (S := Sx wr [(b, o + k * 4, .int .i64 f), (b, o + k * 4 + 1, .int .i64 t)]) (by kernel_rfl) (Sx.mk (by simp only [cs_iff_cons]; exact ⟨c0, c1, cs_nil _⟩) (Below.refl _ _)).drew (fun hHeld => ?_)
              refine tkHx 0 38 ?_
              refine tkHx 1 39 ?_
              refine tkHx 2 40 ?_
              refine tkHx 3 41 ?_
              refine tkHx 4 42 ?_
              refine tkHx 5 43 ?_
              refine tkHx 6 44 ?_
              refine tkHx 7 45 ?_
              refine tkHx 8 46 ?_
              refine tkHx 9 47 ?_
              refine tkHx 10 48 ?_
              refine wpAnyH_done (by kernel_rfl) ?_ _
              ((try simp only [Act.put, List.setIfInBounds_toArray]); (try simp only [List.set_cons_zero, List.set_cons_succ]))
              have hb9 := Lib.hid (below_step hb.out hHeld.bel)
              have c2' := (Below.cell (p := ⟨b, o + k * 4 + 2, none⟩) hHeld.bel hbl).trans c2
              have c3' := (Below.cell (p := ⟨b, o + k * 4 + 3, none⟩) hHeld.bel hbl).trans c3
              clear hHeld c0 c1 c2 c3
              go_wp2_with (go_at_call 19; refine (Within_any _ _ _ _).mono ?_; rintro e0 wn ⟨rfl, rfl⟩; first | rw [hdd.out] | rw [hww.out])
              go_ret
              exact ⟨ret_int hR.out.symm, hb9.out⟩
          · replace hE2 := Lib.hid (hE2.out hz)
            replace h1 := Lib.hid h1
            replace h2 := Lib.hid h2
            have h3b : (f == t) = false := by simpa using h3
            have hdd : Hid ((decide (-100000 ≤ d) && decide (d ≤ 100000)) = true) := by show _ = _; simp; omega
            have hww : Hid ((decide ((1 : Int) ≤ wt) && decide (wt ≤ 10)) = true) := by show _ = _; simp; omega
            clear hz hRk h4 h5 h6 h7
            go_wp2_with (go_at_call 19; refine (hin.out _ _).mono ?_; rintro e0 wn ⟨rfl, rfl⟩; first | rw [h1.out] | rw [h2.out])
            refine wp_region_held_drew (S := Sx wr [(b, o + k * 4, .int .i64 f), (b, o + k * 4 + 1, .int .i64 t)]) (by kernel_rfl) (Sx.mk (by simp only [cs_iff_cons]; exact ⟨c0, c1, cs_nil _⟩) (Below.refl _ _)).drew (fun hHeld => ?_)
            refine tkHx 0 38 ?_
            refine tkHx 1 39 ?_
            refine tkHx 2 40 ?_
            refine tkHx 3 41 ?_
            refine tkHx 4 42 ?_
            refine tkHx 5 43 ?_
            refine tkHx 6 44 ?_
            refine tkHx 7 45 ?_
            refine tkHx 8 46 ?_
            refine tkHx 9 47 ?_
            refine tkHx 10 48 ?_
            refine wpAnyH_done (by kernel_rfl) ?_ _
            ((try simp only [Act.put, List.setIfInBounds_toArray]); (try simp only [List.set_cons_zero, List.set_cons_succ]))
            have hb9 := Lib.hid (below_step hb.out hHeld.bel)
            have c2' := (Below.cell (p := ⟨b, o + k * 4 + 2, none⟩) hHeld.bel hbl).trans c2
            have c3' := (Below.cell (p := ⟨b, o + k * 4 + 3, none⟩) hHeld.bel hbl).trans c3
            clear hHeld c0 c1 c2 c3
            go_wp2_with (go_at_call 19; refine (Within_any _ _ _ _).mono ?_; rintro e0 wn ⟨rfl, rfl⟩; first | rw [hdd.out] | rw [hww.out])
            go_roundw
            case rel => exact ⟨k + 1, by omega, by go_num, hE2, hb9⟩
            case measure => simp [intOf]; omega
        · obtain rfl : k = l.length := by omega
          have hz : Cal.levsE n l = 0 := by rw [hE.out, List.drop_length]; rfl
          have hval := Cal.levsE_zero hz
          replace hR : Hid (R = if (List.range n.toNat).all (Cal.swept n.toNat l) = true then 0 else 29) := by show _ = _; rw [hR.out]; exact if_pos hz
          obtain ⟨N, rfl⟩ : ∃ N : Nat, n = (N : Int) := ⟨n.toNat, by have := hn12.out; omega⟩
          rw [Int.toNat_natCast] at hR
          have hhg := Lib.hid (fun W hb => hangsR_any N A c l W (by have := hn12.out; omega) (by have := hn12.out; omega) (hL.out.below hb) (fun x hx => by have := Cal.levE_zero (hval x hx); exact ⟨this.1, this.2.1, this.2.2.1⟩))
          clear hz hE hval hin hd hwt hn1
          cases hq : (List.range N).all (Cal.swept N l)
          · have hR2 : Hid (R = 29) := by show _ = _; rw [hR.out, hq, if_neg (by decide)]
            rw [hq] at hhg
            clear hR hq
            go_wp2_with (go_at_call 47; refine (hhg.out _ hb.out).mono ?_; rintro e0 w3 ⟨rfl, hb3⟩; have hb4 := Lib.hid (below_step hb.out hb3); clear hb3)
            go_ret
            exact ⟨ret_int hR2.out.symm, hb4.out⟩
          · have hR2 : Hid (R = 0) := by show _ = _; rw [hR.out, hq, if_pos rfl]
            rw [hq] at hhg
            clear hR hq
            go_wp2_with (go_at_call 47; refine (hhg.out _ hb.out).mono ?_; rintro e0 w3 ⟨rfl, hb3⟩; have hb4 := Lib.hid (below_step hb.out hb3); clear hb3)
            go_ret
            exact ⟨ret_int hR2.out.symm, hb4.out⟩
end Go.Proofs.Ytfcjeejhdklkdaa
