/- Chapter 8 and what it rests on: definitions and walks, part 29. -/
import Derived.Test.YtbegbajlagcbdaaGreatDoorC26
import Derived.Test.YtbegbajlagcbdaaGreatDoorC16
namespace Go.Proofs.YtbegbajlagcbdaaGreatDoor
open Go Go.RowKit
/-- The error of a procedure, an order, the first day and how many are visited on a day. -/
def Cal.planE (p : Proc) (order : List Int) (x y : Int) : Int := if Cal.procErr p = 0 then Cal.ordE order x y else Cal.procErr p
theorem start2o (w : World) (A : Option Addr) (c : Nat) (p : Proc) (x y : Int) : Hid (BoxAt ((w.alloc (.cells #[.int .i64 p.runs.m, .int .i64 p.runs.d, .bool p.runs.k, .int .i64 p.obj.m, .int .i64 p.obj.d, .bool p.obj.k, .int .i64 p.wait.m, .int .i64 p.wait.d, .bool p.wait.k, .int .i64 p.exts, .int .i64 p.longest, .slice A p.hols.length c] 47)).alloc (.cells #[.int .i64 x, .int .i64 y] 49)) w.heap.size [.int .i64 p.runs.m, .int .i64 p.runs.d, .bool p.runs.k, .int .i64 p.obj.m, .int .i64 p.obj.d, .bool p.obj.k, .int .i64 p.wait.m, .int .i64 p.wait.d, .bool p.wait.k, .int .i64 p.exts, .int .i64 p.longest, .slice A p.hols.length c]) ∧ Hid (BoxAt ((w.alloc (.cells #[.int .i64 p.runs.m, .int .i64 p.runs.d, .bool p.runs.k, .int .i64 p.obj.m, .int .i64 p.obj.d, .bool p.obj.k, .int .i64 p.wait.m, .int .i64 p.wait.d, .bool p.wait.k, .int .i64 p.exts, .int .i64 p.longest, .slice A p.hols.length c] 47)).alloc (.cells #[.int .i64 x, .int .i64 y] 49)) (w.heap.size + 1) [.int .i64 x, .int .i64 y]) ∧ Hid (Below w.heap.size w ((w.alloc (.cells #[.int .i64 p.runs.m, .int .i64 p.runs.d, .bool p.runs.k, .int .i64 p.obj.m, .int .i64 p.obj.d, .bool p.obj.k, .int .i64 p.wait.m, .int .i64 p.wait.d, .bool p.wait.k, .int .i64 p.exts, .int .i64 p.longest, .slice A p.hols.length c] 47)).alloc (.cells #[.int .i64 x, .int .i64 y] 49))) := by
  have h2 := BoxAt.new (w.alloc (.cells #[.int .i64 p.runs.m, .int .i64 p.runs.d, .bool p.runs.k, .int .i64 p.obj.m, .int .i64 p.obj.d, .bool p.obj.k, .int .i64 p.wait.m, .int .i64 p.wait.d, .bool p.wait.k, .int .i64 p.exts, .int .i64 p.longest, .slice A p.hols.length c] 47)) #[.int .i64 x, .int .i64 y] 49
  rw [World.size_alloc] at h2
  exact ⟨(BoxAt.new w #[.int .i64 p.runs.m, .int .i64 p.runs.d, .bool p.runs.k, .int .i64 p.obj.m, .int .i64 p.obj.d, .bool p.obj.k, .int .i64 p.wait.m, .int .i64 p.wait.d, .bool p.wait.k, .int .i64 p.exts, .int .i64 p.longest, .slice A p.hols.length c] _).alloc _, h2, below_step (below_alloc _ _) (below_alloc _ _)⟩
set_option maxRecDepth 100000 in
set_option maxHeartbeats 4000000 in
theorem checkOrder_any (A : Option Addr) (c : Nat) (p : Proc) (O : Option Addr) (d : Nat) (order : List Int) (x y : Int) (w : World) (hl : Hols w A p.hols) (hT : Tab w) (hI : IntArg w O d order) (hs : order.length ≤ 1000000) :
    Calls Tryz.prog 75 #[.agg #[.int .i64 p.runs.m, .int .i64 p.runs.d, .bool p.runs.k, .int .i64 p.obj.m, .int .i64 p.obj.d, .bool p.obj.k, .int .i64 p.wait.m, .int .i64 p.wait.d, .bool p.wait.k, .int .i64 p.exts, .int .i64 p.longest, .slice A p.hols.length c], .slice O order.length d, .agg #[.int .i64 x, .int .i64 y]] w fun e w' => e = .returned (.int .i64 (Cal.planE p order x y)) ∧ Below w.heap.size w w' := by
  obtain ⟨g1, g2, hb⟩ := start2o w A c p x y
  have hl := Lib.hid hl
  have hT := Lib.hid hT
  have hI := Lib.hid hI
  by_cases h0 : Cal.procErr p = 0
  · have hp0 := Lib.hid h0
    have hC : Hid (Cal.planE p order x y = Cal.ordE order x y) := if_pos h0
    clear h0
    by_cases h60 : 60 < order.length
    · have hfin : Hid (Cal.planE p order x y = 8) := by show _ = _; rw [hC.out]; unfold Cal.ordE; rw [if_pos h60]
      clear hC
      go_enter Tryz.func75, Tryz.ntmps75
      go_wp2_with (refine wpPr g1.out (.tmp 3) rfl ?_)
      refine (CheckProcedure_any A c p _ (hl.out.below hb.out) (hT.out.below hb.out)).mono ?_
      rintro e w1 ⟨rfl, hbn⟩
      have g1 := Lib.hid (g1.out.below hbn)
      have g2 := Lib.hid (g2.out.below hbn)
      have hb := Lib.hid (below_step hb.out hbn)
      clear hbn
      rw [hp0.out]
      go_wp2_with fail
      refine (values_any O order.length d _).mono ?_
      rintro e w2 ⟨rfl, rfl⟩
      go_wp2_with fail
      refine (sorted_any O d order hs w1.heap.size _ (by simp) (by simp) ((hI.out.below hb.out).below (below_alloc _ _)).rows).mono ?_
      rintro e w3 ⟨v, rfl, hs3, hbn⟩
      have hbn := below_step (below_alloc _ _) hbn
      have hs3 := Lib.hid (OwnL.less hs3 (show w.heap.size + 2 ≤ _ by have := g2.out.lt; simp; omega))
      have g1 := Lib.hid (g1.out.below hbn)
      have g2 := Lib.hid (g2.out.below hbn)
      have hb := Lib.hid (below_step hb.out hbn)
      clear hbn
      go_wp2_with fail
      go_ret
      exact ⟨by rw [hfin.out]; first | done | rfl, hb.out⟩
    · by_cases hd : order.Nodup
      · have hE : Hid (Cal.planE p order x y = if 0 ≤ x ∧ x ≤ 200000 ∧ 1 ≤ y ∧ y ≤ 60 then 0 else 2) := by show _ = _; rw [hC.out]; unfold Cal.ordE; rw [if_neg h60, if_pos hd]
        clear hC
        by_cases hx : 0 ≤ x ∧ x ≤ 200000
        · by_cases hy : 1 ≤ y ∧ y ≤ 60
          · have hfin : Hid (Cal.planE p order x y = 0) := by show _ = _; rw [hE.out, if_pos ⟨hx.1, hx.2, hy.1, hy.2⟩]
            clear hE
            obtain ⟨x0, x1⟩ := hx
            obtain ⟨y0, y1⟩ := hy
            go_enter Tryz.func75, Tryz.ntmps75
            go_wp2_with (refine wpPr g1.out (.tmp 3) rfl ?_)
            refine (CheckProcedure_any A c p _ (hl.out.below hb.out) (hT.out.below hb.out)).mono ?_
            rintro e w1 ⟨rfl, hbn⟩
            have g1 := Lib.hid (g1.out.below hbn)
            have g2 := Lib.hid (g2.out.below hbn)
            have hb := Lib.hid (below_step hb.out hbn)
            clear hbn
            rw [hp0.out]
            go_wp2_with fail
            refine (values_any O order.length d _).mono ?_
            rintro e w2 ⟨rfl, rfl⟩
            go_wp2_with fail
            refine (sorted_any O d order hs w1.heap.size _ (by simp) (by simp) ((hI.out.below hb.out).below (below_alloc _ _)).rows).mono ?_
            rintro e w3 ⟨v, rfl, hs3, hbn⟩
            have hbn := below_step (below_alloc _ _) hbn
            have hs3 := Lib.hid (OwnL.less hs3 (show w.heap.size + 2 ≤ _ by have := g2.out.lt; simp; omega))
            have g1 := Lib.hid (g1.out.below hbn)
            have g2 := Lib.hid (g2.out.below hbn)
            have hb := Lib.hid (below_step hb.out hbn)
            clear hbn
            go_wp2_with fail
            refine (Compact_own _ _ v _ hs3.out (by rw [List.length_mergeSort]; exact hs)).mono ?_
            rintro e w4 ⟨v4, rfl, hs4, hg4, _⟩
            obtain ⟨A4, c4, rfl, _⟩ := OwnL.form hs4
            rw [intRows_length]
            have hqi := Cal.ups_len_iff order
            unfold Cal.ups at hqi
            generalize (Lib.compact (order.mergeSort fun x y => decide (x ≤ y))).length = q at hqi ⊢
            have g2 := Lib.hid (g2.out.grown hg4 (fun e => by have := (OwnL.lt hs3.out _ e.symm).1; omega))
            have hb := Lib.hid (hb.out.trans (grown_below hg4 (fun g e => Nat.le_trans (by omega) (OwnL.lt hs3.out g e).1) hb.out.size))
            have k0 := g2.out.c 0 _ rfl
            have k1 := g2.out.c 1 _ rfl
            clear hg4 hs4
            have hq : ¬ q < order.length := fun h => (hqi.1 h) hd
            clear hd hqi
            go_wp2_with (first | (go_at_call 56; first | refine rin ?_ | refine rout ?_ | refine rany ?_) | ((first | (go_at_call 134) | (go_at_call 59) | (go_at_call 133) | (go_at_call 14) | (go_at_call 178) | (fail) | (go_at_call 139)); first | refine rin ?_ | refine rout ?_ | refine rany ?_))
            go_ret
            exact ⟨by rw [hfin.out]; first | done | rfl, hb.out⟩
          · have hfin : Hid (Cal.planE p order x y = 2) := by show _ = _; rw [hE.out, if_neg (fun h => hy ⟨h.2.2.1, h.2.2.2⟩)]
            have hy' : y < 1 ∨ 60 < y := by omega
            obtain ⟨x0, x1⟩ := hx
            clear hE hy
            go_enter Tryz.func75, Tryz.ntmps75
            go_wp2_with (refine wpPr g1.out (.tmp 3) rfl ?_)
            refine (CheckProcedure_any A c p _ (hl.out.below hb.out) (hT.out.below hb.out)).mono ?_
            rintro e w1 ⟨rfl, hbn⟩
            have g1 := Lib.hid (g1.out.below hbn)
            have g2 := Lib.hid (g2.out.below hbn)
            have hb := Lib.hid (below_step hb.out hbn)
            clear hbn
            rw [hp0.out]
            go_wp2_with fail
            refine (values_any O order.length d _).mono ?_
            rintro e w2 ⟨rfl, rfl⟩
            go_wp2_with fail
            refine (sorted_any O d order hs w1.heap.size _ (by simp) (by simp) ((hI.out.below hb.out).below (below_alloc _ _)).rows).mono ?_
            rintro e w3 ⟨v, rfl, hs3, hbn⟩
            have hbn := below_step (below_alloc _ _) hbn
            have hs3 := Lib.hid (OwnL.less hs3 (show w.heap.size + 2 ≤ _ by have := g2.out.lt; simp; omega))
            have g1 := Lib.hid (g1.out.below hbn)
            have g2 := Lib.hid (g2.out.below hbn)
            have hb := Lib.hid (below_step hb.out hbn)
            clear hbn
            go_wp2_with fail
            refine (Compact_own _ _ v _ hs3.out (by rw [List.length_mergeSort]; exact hs)).mono ?_
            rintro e w4 ⟨v4, rfl, hs4, hg4, _⟩
            obtain ⟨A4, c4, rfl, _⟩ := OwnL.form hs4
            rw [intRows_length]
            have hqi := Cal.ups_len_iff order
            unfold Cal.ups at hqi
            generalize (Lib.compact (order.mergeSort fun x y => decide (x ≤ y))).length = q at hqi ⊢
            have g2 := Lib.hid (g2.out.grown hg4 (fun e => by have := (OwnL.lt hs3.out _ e.symm).1; omega))
            have hb := Lib.hid (hb.out.trans (grown_below hg4 (fun g e => Nat.le_trans (by omega) (OwnL.lt hs3.out g e).1) hb.out.size))
            have k0 := g2.out.c 0 _ rfl
            have k1 := g2.out.c 1 _ rfl
            clear hg4 hs4
            have hq : ¬ q < order.length := fun h => (hqi.1 h) hd
            clear hd hqi
            go_wp2_with (first | (go_at_call 56; first | refine rin ?_ | refine rout ?_ | refine rany ?_) | ((first | (go_at_call 134) | (go_at_call 59) | (go_at_call 133) | (go_at_call 14) | (go_at_call 178) | (fail) | (go_at_call 139)); first | refine rin ?_ | refine rout ?_ | refine rany ?_))
            go_ret
            exact ⟨by rw [hfin.out]; first | done | rfl, hb.out⟩
        · have hfin : Hid (Cal.planE p order x y = 2) := by show _ = _; rw [hE.out, if_neg (fun h => hx ⟨h.1, h.2.1⟩)]
          have hx' : x < 0 ∨ 200000 < x := by omega
          clear hE hx
          go_enter Tryz.func75, Tryz.ntmps75
          go_wp2_with (refine wpPr g1.out (.tmp 3) rfl ?_)
          refine (CheckProcedure_any A c p _ (hl.out.below hb.out) (hT.out.below hb.out)).mono ?_
          rintro e w1 ⟨rfl, hbn⟩
          have g1 := Lib.hid (g1.out.below hbn)
          have g2 := Lib.hid (g2.out.below hbn)
          have hb := Lib.hid (below_step hb.out hbn)
          clear hbn
          rw [hp0.out]
          go_wp2_with fail
          refine (values_any O order.length d _).mono ?_
          rintro e w2 ⟨rfl, rfl⟩
          go_wp2_with fail
          refine (sorted_any O d order hs w1.heap.size _ (by simp) (by simp) ((hI.out.below hb.out).below (below_alloc _ _)).rows).mono ?_
          rintro e w3 ⟨v, rfl, hs3, hbn⟩
          have hbn := below_step (below_alloc _ _) hbn
          have hs3 := Lib.hid (OwnL.less hs3 (show w.heap.size + 2 ≤ _ by have := g2.out.lt; simp; omega))
          have g1 := Lib.hid (g1.out.below hbn)
          have g2 := Lib.hid (g2.out.below hbn)
          have hb := Lib.hid (below_step hb.out hbn)
          clear hbn
          go_wp2_with fail
          refine (Compact_own _ _ v _ hs3.out (by rw [List.length_mergeSort]; exact hs)).mono ?_
          rintro e w4 ⟨v4, rfl, hs4, hg4, _⟩
          obtain ⟨A4, c4, rfl, _⟩ := OwnL.form hs4
          rw [intRows_length]
          have hqi := Cal.ups_len_iff order
          unfold Cal.ups at hqi
          generalize (Lib.compact (order.mergeSort fun x y => decide (x ≤ y))).length = q at hqi ⊢
          have g2 := Lib.hid (g2.out.grown hg4 (fun e => by have := (OwnL.lt hs3.out _ e.symm).1; omega))
          have hb := Lib.hid (hb.out.trans (grown_below hg4 (fun g e => Nat.le_trans (by omega) (OwnL.lt hs3.out g e).1) hb.out.size))
          have k0 := g2.out.c 0 _ rfl
          have k1 := g2.out.c 1 _ rfl
          clear hg4 hs4
          have hq : ¬ q < order.length := fun h => (hqi.1 h) hd
          clear hd hqi
          go_wp2_with (first | (go_at_call 56; first | refine rin ?_ | refine rout ?_ | refine rany ?_) | ((first | (go_at_call 134) | (go_at_call 59) | (go_at_call 133) | (go_at_call 14) | (go_at_call 178) | (fail) | (go_at_call 139)); first | refine rin ?_ | refine rout ?_ | refine rany ?_))
          go_ret
          exact ⟨by rw [hfin.out]; first | done | rfl, hb.out⟩
      · have hfin : Hid (Cal.planE p order x y = 5) := by show _ = _; rw [hC.out]; unfold Cal.ordE; rw [if_neg h60, if_neg hd]
        clear hC
        go_enter Tryz.func75, Tryz.ntmps75
        go_wp2_with (refine wpPr g1.out (.tmp 3) rfl ?_)
        refine (CheckProcedure_any A c p _ (hl.out.below hb.out) (hT.out.below hb.out)).mono ?_
        rintro e w1 ⟨rfl, hbn⟩
        have g1 := Lib.hid (g1.out.below hbn)
        have g2 := Lib.hid (g2.out.below hbn)
        have hb := Lib.hid (below_step hb.out hbn)
        clear hbn
        rw [hp0.out]
        go_wp2_with fail
        refine (values_any O order.length d _).mono ?_
        rintro e w2 ⟨rfl, rfl⟩
        go_wp2_with fail
        refine (sorted_any O d order hs w1.heap.size _ (by simp) (by simp) ((hI.out.below hb.out).below (below_alloc _ _)).rows).mono ?_
        rintro e w3 ⟨v, rfl, hs3, hbn⟩
        have hbn := below_step (below_alloc _ _) hbn
        have hs3 := Lib.hid (OwnL.less hs3 (show w.heap.size + 2 ≤ _ by have := g2.out.lt; simp; omega))
        have g1 := Lib.hid (g1.out.below hbn)
        have g2 := Lib.hid (g2.out.below hbn)
        have hb := Lib.hid (below_step hb.out hbn)
        clear hbn
        go_wp2_with fail
        refine (Compact_own _ _ v _ hs3.out (by rw [List.length_mergeSort]; exact hs)).mono ?_
        rintro e w4 ⟨v4, rfl, hs4, hg4, _⟩
        obtain ⟨A4, c4, rfl, _⟩ := OwnL.form hs4
        rw [intRows_length]
        have hqi := Cal.ups_len_iff order
        unfold Cal.ups at hqi
        generalize (Lib.compact (order.mergeSort fun x y => decide (x ≤ y))).length = q at hqi ⊢
        have g2 := Lib.hid (g2.out.grown hg4 (fun e => by have := (OwnL.lt hs3.out _ e.symm).1; omega))
        have hb := Lib.hid (hb.out.trans (grown_below hg4 (fun g e => Nat.le_trans (by omega) (OwnL.lt hs3.out g e).1) hb.out.size))
        have k0 := g2.out.c 0 _ rfl
        have k1 := g2.out.c 1 _ rfl
        clear hg4 hs4
        have hq : q < order.length := hqi.2 hd
        clear hd hqi
        go_wp2_with fail
        go_ret
        exact ⟨by rw [hfin.out]; first | done | rfl, hb.out⟩
  · have hp1 : (Cal.procErr p != 0) = true := by simpa using h0
    have hfin : Hid (Cal.planE p order x y = Cal.procErr p) := if_neg h0
    clear h0
    go_enter Tryz.func75, Tryz.ntmps75
    go_wp2_with (refine wpPr g1.out (.tmp 3) rfl ?_)
    refine (CheckProcedure_any A c p _ (hl.out.below hb.out) (hT.out.below hb.out)).mono ?_
    rintro e w1 ⟨rfl, hbn⟩
    have g1 := Lib.hid (g1.out.below hbn)
    have g2 := Lib.hid (g2.out.below hbn)
    have hb := Lib.hid (below_step hb.out hbn)
    clear hbn
    go_wp2_with fail
    go_ret
    exact ⟨by rw [hfin.out]; first | done | rfl, hb.out⟩
end Go.Proofs.YtbegbajlagcbdaaGreatDoor
namespace Go.Proofs.YtbegbajlagcbdaaGreatDoor
open Go Go.RowKit Go.Shelf
attribute [local go_sem] Oper.semAt_some
/-- A part of a slice of n rows. -/
def Chk (n : Nat) : Type := {q : Nat × Nat // q.1 + q.2 ≤ n ∧ 0 < q.2}
def Chk.enc {n : Nat} (O : Option Addr) (q : Chk n) : Value := .slice (O.map (·.add (q.1.1 * 1))) q.1.2 q.1.2
/-- The first a chunks of n rows, y rows each. -/
def IsChunks (y n a : Nat) (pre : List (Chk n)) : Prop := pre.map (·.1) = (List.range a).map (fun i => (i * y, min y (n - i * y))) ∧ (0 < a → (a - 1) * y < n)
theorem isChunks_nil (y n : Nat) : IsChunks y n 0 [] := ⟨rfl, fun h => absurd h (by omega)⟩
theorem isChunks_len {y n a : Nat} {pre : List (Chk n)} (h : IsChunks y n a pre) : pre.length = a := by have := congrArg List.length h.1; simpa using this
theorem isChunks_snoc {y n a i m : Nat} {pre : List (Chk n)} (h : IsChunks y n a pre) (hi : i = a * y) (hm : m = min y (n - i)) (hlt : i < n) (hp : i + m ≤ n ∧ 0 < m) : IsChunks y n (a + 1) (pre ++ [⟨(i, m), hp⟩]) := by
  subst hi
  subst hm
  refine ⟨?_, fun _ => by simpa using hlt⟩
  rw [List.map_append, h.1, List.range_succ, List.map_append]
  rfl
/-- Two blocks are as they were. -/
def Two (b c : Nat) (W W' : World) : Prop := W'.heap[b]? = W.heap[b]? ∧ W'.heap[c]? = W.heap[c]?
theorem Two.refl (b c : Nat) (W : World) : Two b c W W := ⟨rfl, rfl⟩
theorem Two.trans {b c : Nat} {W X Y : World} (h : Two b c W X) (g : Two b c X Y) : Two b c W Y := ⟨g.1.trans h.1, g.2.trans h.2⟩
theorem Two.one {b c o : Nat} {W W' : World} (h : Two b c W W') : W'.cell? ⟨b, o, none⟩ = W.cell? ⟨b, o, none⟩ := World.cell?_of_block (a := ⟨b, o, none⟩) h.1
theorem Two.other {b c o : Nat} {W W' : World} (h : Two b c W W') : W'.cell? ⟨c, o, none⟩ = W.cell? ⟨c, o, none⟩ := World.cell?_of_block (a := ⟨c, o, none⟩) h.2
def ChunkPost (y n : Nat) (J Jx : List (Chk n) → World → Prop) (e : Ending) (W' : World) : Prop :=
  (∃ v, e = .returned v) ∧ ((∃ ys, (∃ a, IsChunks y n a ys ∧ n ≤ a * y) ∧ J ys W') ∨ (∃ pre, (∃ a, IsChunks y n a pre) ∧ Jx pre W'))
theorem cutFrom {O : Option Addr} {n d i : Nat} (hi : i ≤ n) : ∃ A1 c1, ∀ w', (Instr.slice 32 (.slice O n d) (some (.int .i64 i)) none none).run Tryz.prog w' = .ok (.slice A1 (n - i) c1) w' := by
  refine ⟨if d = i then O else O.map (·.add (i * 1)), d - i, fun w' => ?_⟩
  rw [run_slice_l w' 32 O n d undInts1 .i64 i (by omega) (by omega), sizeInt1]
  simp [Result.andThen, sliced]
theorem cutPart {O : Option Addr} {n d i m : Nat} (h : i + m ≤ n ∧ 0 < m) (hd : n ≤ d) (w' : World) : (Instr.slice 32 (.slice O n d) (some (.int .i64 i)) (some (.int .i64 ((i : Int) + m))) (some (.int .i64 ((i : Int) + m)))).run Tryz.prog w' = .ok (Chk.enc (n := n) O ⟨(i, m), h⟩) w' := by
  rw [run_slice_lhm w' 32 O n d undInts1 .i64 .i64 .i64 i ((i : Int) + m) ((i : Int) + m) (by omega) (by omega) (by omega) (by omega), sizeInt1]
  have e1 : ((i : Int) + m).toNat = i + m := by omega
  have e2 : i + m ≠ i := by omega
  have e3 : i + m - i = m := by omega
  simp only [Result.andThen, sliced, e1, Int.toNat_natCast, e3, if_neg e2]
  rfl
set_option maxRecDepth 100000 in
set_option maxHeartbeats 4000000 in
theorem chunk1_in (n : Nat) (hn : 1 ≤ n) (l Bs By : Nat) (O : Option Addr) (d : Nat) (order : List Int) (y : Nat) (hy0 : 1 ≤ y) (hy1 : y ≤ 1000000) (hsz : order.length ≤ 1000000) (hcap : order.length ≤ d) (J Jx : List (Chk order.length) → World → Prop)
    (hY : ∀ pre x W, J pre W → pre.length < order.length → YieldAt Fence.wide (n - 1) Tryz.prog l #[Chk.enc O x] W fun e W' =>
      (e = .returned (.bool true) ∧ J (pre ++ [x]) W' ∧ Two Bs By W W') ∨ (e = .returned (.bool false) ∧ Jx (pre ++ [x]) W'))
    (W : World) (hJa : AbidesFrom W.heap.size J) (hBs : W.cell? ⟨Bs, 0, none⟩ = some (.slice O order.length d)) (hBy : W.cell? ⟨By, 0, none⟩ = some (.int .i64 y)) (h0 : J [] W) :
    CallsIn Fence.wide n Tryz.prog 132 #[.func (.yield l) #[] #[], .pointer (some ⟨Bs, 0, none⟩), .pointer (some ⟨By, 0, none⟩)] W (ChunkPost y order.length J Jx) := by
  refine callsIn_of_wp Tryz.func132 rfl trivial ?_ rfl
  simp only [Tryz.ntmps132, List.size_toArray, List.length_cons, List.length_nil, Nat.reduceAdd, Nat.reduceSub, Array.replicate_succ, Array.replicate_zero, List.push_toArray, List.append_toArray, List.nil_append, List.cons_append]
  have hYz := Lib.hid hY
  have hJa := Lib.hid hJa
  clear hY
  gi_wp2
  gi_loopw [4, 5] (fun i v wr => ∃ (a k : Nat) (pre : List (Chk order.length)), Hid (k = a * y) ∧ k ≤ 2000000 ∧ i = .int .i64 k ∧ IsChunks y order.length a pre ∧ J pre wr ∧ Two Bs By W wr) (fun i _ _ => order.length - (intOf i).toNat)
  case atStart => exact ⟨0, 0, [], by show _ = _; simp, by omega, rfl, isChunks_nil _ _, h0, Two.refl _ _ _⟩
  case round =>
    obtain ⟨a, k, pre, hka, hk2, rfl, hch, hJ, hb⟩ := hrel
    have s0 := hb.one.trans hBs
    have s1 := hb.other.trans hBy
    by_cases hlt : k < order.length
    · obtain ⟨A1, c1, hcut⟩ := cutFrom (O := O) (d := d) (Nat.le_of_lt hlt)
      obtain ⟨q, hq⟩ : ∃ q, q = order.length - k := ⟨_, rfl⟩
      rw [← hq] at hcut
      have hplen : Hid (pre.length < order.length) := by
        show _ < _
        rw [isChunks_len hch]
        have := hka.out
        have h2 : a * 1 ≤ a * y := Nat.mul_le_mul_left a hy0
        omega
      have hJd : Hid (J pre wr.drew) := hJa.out _ _ _ none hJ (grown_drewN wr 1 none) (fun r e => by cases e)
      have hbd : Hid (Two Bs By W wr.drew) := hb
      have hch := Lib.hid hch
      have r0 := hbd.out.one.trans hBs
      have r1 := hbd.out.other.trans hBy
      clear hJ hb hJa hBs hBy
      by_cases hyq : y ≤ q
      · have hp : k + y ≤ order.length ∧ 0 < y := by omega
        have hmin : min (y : Int) (q : Int) = (y : Int) := by omega
        have hpart := fun w' => cutPart (O := O) (d := d) hp hcap w'
        have hsn : Hid (IsChunks y order.length (a + 1) (pre ++ [⟨(k, y), hp⟩])) := isChunks_snoc hch.out hka.out (by rw [← hq]; omega) hlt hp
        have hka1 : Hid (k + y = (a + 1) * y) := by show _ = _; rw [hka.out, Nat.add_mul, Nat.one_mul]
        obtain ⟨cv, hcv⟩ : ∃ cv : Chk order.length, cv = ⟨(k, y), hp⟩ := ⟨_, rfl⟩
        rw [← hcv] at hsn
        simp only [← hcv] at hpart
        clear hcv
        obtain ⟨ev, hev⟩ : ∃ ev, ev = Chk.enc O cv := ⟨_, rfl⟩
        simp only [← hev] at hpart
        have hYq := hYz.out pre cv wr.drew hJd.out hplen.out
        rw [← hev] at hYq
        obtain ⟨fn, tmps, assign, body, hy, hR⟩ := hYq
        clear hev hp hYz hq
        gi_wp2
        gi_region
        gi_wp2
        refine hR.mono ?_
        clear hy hR
        rintro e w2 (⟨rfl, hJ2, hk2'⟩ | ⟨rfl, hJx⟩)
        · have r2 := hk2'.other.trans r1
          have hall := Lib.hid (And.intro hJ2 hk2')
          clear hJ2 hk2'
          gi_wp2
          go_roundw
          case rel => exact ⟨a + 1, k + y, _, hka1, by omega, by go_num, hsn.out, hall.out.1, hbd.out.trans hall.out.2⟩
          case measure => simp [intOf]; omega
        · have hJx := Lib.hid hJx
          gi_wp2
          refine bodyPost_ret (results_none rfl _ _ _) rfl ?_
          exact ⟨⟨_, rfl⟩, .inr ⟨_, ⟨a + 1, hsn.out⟩, hJx.out⟩⟩
      · have hp : k + q ≤ order.length ∧ 0 < q := by omega
        have hmin : min (y : Int) (q : Int) = (q : Int) := by omega
        have hpart := fun w' => cutPart (O := O) (d := d) hp hcap w'
        have hsn : Hid (IsChunks y order.length (a + 1) (pre ++ [⟨(k, q), hp⟩])) := isChunks_snoc hch.out hka.out (by rw [← hq]; omega) hlt hp
        have hka1 : Hid (k + y = (a + 1) * y) := by show _ = _; rw [hka.out, Nat.add_mul, Nat.one_mul]
        obtain ⟨cv, hcv⟩ : ∃ cv : Chk order.length, cv = ⟨(k, q), hp⟩ := ⟨_, rfl⟩
        rw [← hcv] at hsn
        simp only [← hcv] at hpart
        clear hcv
        obtain ⟨ev, hev⟩ : ∃ ev, ev = Chk.enc O cv := ⟨_, rfl⟩
        simp only [← hev] at hpart
        have hYq := hYz.out pre cv wr.drew hJd.out hplen.out
        rw [← hev] at hYq
        obtain ⟨fn, tmps, assign, body, hy, hR⟩ := hYq
        clear hev hp hYz hq
        gi_wp2
        gi_region
        gi_wp2
        refine hR.mono ?_
        clear hy hR
        rintro e w2 (⟨rfl, hJ2, hk2'⟩ | ⟨rfl, hJx⟩)
        · have r2 := hk2'.other.trans r1
          have hall := Lib.hid (And.intro hJ2 hk2')
          clear hJ2 hk2'
          gi_wp2
          go_roundw
          case rel => exact ⟨a + 1, k + y, _, hka1, by omega, by go_num, hsn.out, hall.out.1, hbd.out.trans hall.out.2⟩
          case measure => simp [intOf]; omega
        · have hJx := Lib.hid hJx
          gi_wp2
          refine bodyPost_ret (results_none rfl _ _ _) rfl ?_
          exact ⟨⟨_, rfl⟩, .inr ⟨_, ⟨a + 1, hsn.out⟩, hJx.out⟩⟩
    · have hJz := Lib.hid hJ
      have hfin : Hid (order.length ≤ a * y) := by show _ ≤ _; rw [← hka.out]; omega
      have hch := Lib.hid hch
      clear hJ
      gi_wp2
      refine bodyPost_end (results_none rfl _ _ _) rfl ?_
      exact ⟨⟨_, rfl⟩, .inl ⟨_, ⟨a, hch.out, hfin.out⟩, hJz.out⟩⟩
theorem chunk_stops (n : Nat) (hn : 1 ≤ n) (Bs By : Nat) (O : Option Addr) (d : Nat) (order : List Int) (y : Nat) (hy0 : 1 ≤ y) (hy1 : y ≤ 1000000) (hsz : order.length ≤ 1000000) (hcap : order.length ≤ d) (w : World) (hBs : w.cell? ⟨Bs, 0, none⟩ = some (.slice O order.length d)) (hBy : w.cell? ⟨By, 0, none⟩ = some (.int .i64 y)) (hBn : Bs < w.heap.size) (hByn : By < w.heap.size) :
    SeqStopsK Fence.wide n Tryz.prog 132 #[.pointer (some ⟨Bs, 0, none⟩), .pointer (some ⟨By, 0, none⟩)] (fun x : Chk order.length => #[Chk.enc O x]) (Two Bs By) (fun ys => ∃ a, IsChunks y order.length a ys ∧ order.length ≤ a * y) (fun pre => ∃ a, IsChunks y order.length a pre) order.length w :=
  fun l J Jx W hW hJa _ hY h0 => chunk1_in n hn l Bs By O d order y hy0 hy1 hsz hcap J Jx hY W hJa ((hW.cell (p := ⟨Bs, 0, none⟩) hBn).trans hBs) ((hW.cell (p := ⟨By, 0, none⟩) hByn).trans hBy) h0
theorem chunk_any (A : Option Addr) (k c : Nat) (y : Int) (hy : 1 ≤ y) (w : World) :
    Calls Tryz.prog 78 #[.slice A k c, .int .i64 y] w fun e w' => e = .returned (.func (.func 132) #[] #[.pointer (some ⟨w.heap.size, 0, none⟩), .pointer (some ⟨w.heap.size + 1, 0, none⟩)]) ∧ w' = (w.alloc (.cells #[.slice A k c] 32)).alloc (.cells #[.int .i64 y] 3) := by
  go_enter Tryz.func78, Tryz.ntmps78
  go_wp2
  go_ret
  exact ⟨rfl, rfl⟩
end Go.Proofs.YtbegbajlagcbdaaGreatDoor
namespace Go.Proofs.YtbegbajlagcbdaaGreatDoor
open Go Go.RowKit
/-- One chunk: the group's day, its stops. -/
def Cal.grpStep (l : List Hol) (s : List Stp × Int × Int) (g : List Int) : Option (List Stp × Int × Int) :=
  if (Cal.addWorkingS l s.2.1 s.2.2).2 = 0 then some (s.1 ++ g.map (fun o => ⟨o, (Cal.addWorkingS l s.2.1 s.2.2).1⟩), (Cal.addWorkingS l s.2.1 s.2.2).1, 1) else none
def Cal.grpTo (l : List Hol) (x : Int) (gs : List (List Int)) : Option (List Stp × Int × Int) := gs.foldl (fun s g => s.bind (Cal.grpStep l · g)) (some ([], x, 0))
theorem Cal.grpTo_snoc (l : List Hol) (x : Int) (gs : List (List Int)) (g : List Int) : Cal.grpTo l x (gs ++ [g]) = (Cal.grpTo l x gs).bind (Cal.grpStep l · g) := by simp [Cal.grpTo, List.foldl_append]
theorem Cal.planTo_day {l : List Hol} {y : Nat} {x : Int} {order : List Int} (x0 : 0 ≤ x) (x1 : x ≤ 200000) : ∀ {k : Nat} {out : List Stp} {day : Int}, Cal.planTo l y x order k = some (out, day) → 0 ≤ day ∧ day ≤ 200000
  | 0, out, day, h => by unfold Cal.planTo at h; cases h; exact ⟨x0, x1⟩
  | k + 1, out, day, h => by
    unfold Cal.planTo at h
    cases hq : Cal.planTo l y x order k with
    | none => rw [hq] at h; cases h
    | some r =>
      obtain ⟨o1, d1⟩ := r
      have ih := Cal.planTo_day x0 x1 hq
      rw [hq] at h
      simp only at h
      cases ho : order[k]? with
      | none => rw [ho] at h; cases h; exact ih
      | some o =>
        rw [ho] at h
        simp only at h
        cases hn : Cal.nextD l y k d1 with
        | none => rw [hn] at h; cases h
        | some n =>
          rw [hn] at h
          cases h
          unfold Cal.nextD at hn
          split at hn
          · exact Cal.addW_day hn
          · cases hn; exact ih
def Cal.grps (y : Nat) (order : List Int) (a : Nat) : List (List Int) := (List.range a).map fun i => (order.drop (i * y)).take (min y (order.length - i * y))
theorem Cal.grps_plan {l : List Hol} {y : Nat} {x : Int} {order : List Int} (h0 : Cal.holsErr l = 0) (x0 : 0 ≤ x) (x1 : x ≤ 200000) (hy : 0 < y) : ∀ a, (0 < a → (a - 1) * y < order.length) →
    Cal.grpTo l x (Cal.grps y order a) = (Cal.planTo l y x order (min (a * y) order.length)).map fun r => (r.1, r.2, if a = 0 then 0 else 1)
  | 0, _ => by
    rw [Nat.zero_mul, Nat.zero_min]
    rfl
  | a + 1, h => by
    have ha : a * y < order.length := by simpa using h (by omega)
    have ih := Cal.grps_plan h0 x0 x1 hy a (fun h1 => Nat.lt_of_le_of_lt (Nat.mul_le_mul_right y (Nat.sub_le a 1)) ha)
    rw [Nat.min_eq_left (Nat.le_of_lt ha)] at ih
    have hsn : Cal.grps y order (a + 1) = Cal.grps y order a ++ [(order.drop (a * y)).take (min y (order.length - a * y))] := by unfold Cal.grps; rw [List.range_succ, List.map_append]; rfl
    have hmul : (a + 1) * y = a * y + y := by rw [Nat.add_mul, Nat.one_mul]
    have hmin : min ((a + 1) * y) order.length = a * y + min y (order.length - a * y) := by rw [hmul]; clear hsn hmul ih h; generalize a * y = t at *; omega
    rw [hsn, Cal.grpTo_snoc, ih, hmin, if_neg (show ¬ a + 1 = 0 by omega)]
    obtain ⟨m, hm⟩ : ∃ m, m = min y (order.length - a * y) := ⟨_, rfl⟩
    rw [← hm]
    have hm1 : 0 < m := by omega
    have hm2 : m ≤ y := by omega
    have hm3 : a * y + m ≤ order.length := by omega
    cases hq : Cal.planTo l y x order (a * y) with
    | none => rw [Cal.planTo_none hq _ (by omega)]; rfl
    | some r =>
      obtain ⟨out, day⟩ := r
      obtain ⟨d0, d1⟩ := Cal.planTo_day x0 x1 hq
      have hstep : Cal.addWorkingS l day (if a = 0 then 0 else 1) = match Cal.nextD l y (a * y) day with | some n => (n, 0) | none => (0, 2) := by
        unfold Cal.nextD Cal.addWorkingS
        rw [Nat.mul_mod_left, if_pos rfl, if_pos h0]
        by_cases h1 : a = 0
        · subst h1
          rw [if_pos rfl, if_pos (by omega), Nat.zero_mul, if_neg (by omega)]
          rfl
        · have hp : 0 < a * y := Nat.mul_pos (by omega) hy
          rw [if_neg h1, if_pos (by omega), if_pos hp, Cal.addW_one]
          rfl
      show Cal.grpStep l (out, day, if a = 0 then 0 else 1) _ = _
      unfold Cal.grpStep
      simp only
      rw [hstep]
      cases hn : Cal.nextD l y (a * y) day with
      | none =>
        rw [if_neg (by simp), Cal.planTo_none (Cal.planTo_fail hq ha hn) _ (by omega)]
        rfl
      | some n =>
        have hc := Cal.planTo_chunk hy hq ha hn (m - 1) (by omega) (by omega)
        rw [show a * y + (m - 1) + 1 = a * y + m by omega, show m - 1 + 1 = m by omega] at hc
        rw [if_pos rfl, hc]
        rfl
/-- The rows of a chunk. -/
def Chk.part (order : List Int) (q : Chk order.length) : List Int := (order.drop q.1.1).take q.1.2
theorem isChunks_grps {y a : Nat} {order : List Int} {pre : List (Chk order.length)} (h : IsChunks y order.length a pre) : pre.map (Chk.part order) = Cal.grps y order a := by
  have h1 : pre.map (Chk.part order) = (pre.map (·.1)).map (fun r => (order.drop r.1).take r.2) := by rw [List.map_map]; rfl
  rw [h1, h.1, List.map_map]
  rfl
theorem Cal.grp_done {l : List Hol} {y a : Nat} {x : Int} {order : List Int} (h0 : Cal.holsErr l = 0) (x0 : 0 ≤ x) (x1 : x ≤ 200000) (hy : 0 < y) {ys : List (Chk order.length)} (h : IsChunks y order.length a ys) (hn : order.length ≤ a * y) {out : List Stp} {d s : Int} (hg : Cal.grpTo l x (ys.map (Chk.part order)) = some (out, d, s)) : Cal.planS l y x order = some out := by
  rw [isChunks_grps h, Cal.grps_plan h0 x0 x1 hy a h.2, Nat.min_eq_right hn] at hg
  unfold Cal.planS
  cases hq : Cal.planTo l y x order order.length with
  | none => rw [hq] at hg; cases hg
  | some r => rw [hq] at hg; cases hg; rfl
theorem Cal.grp_stop {l : List Hol} {y a : Nat} {x : Int} {order : List Int} (h0 : Cal.holsErr l = 0) (x0 : 0 ≤ x) (x1 : x ≤ 200000) (hy : 0 < y) {ys : List (Chk order.length)} (h : IsChunks y order.length a ys) (hg : Cal.grpTo l x (ys.map (Chk.part order)) = none) : Cal.planS l y x order = none := by
  rw [isChunks_grps h, Cal.grps_plan h0 x0 x1 hy a h.2] at hg
  unfold Cal.planS
  cases hq : Cal.planTo l y x order (min (a * y) order.length) with
  | some r => rw [hq] at hg; cases hg
  | none => rw [Cal.planTo_none hq order.length (by omega)]; rfl
end Go.Proofs.YtbegbajlagcbdaaGreatDoor
