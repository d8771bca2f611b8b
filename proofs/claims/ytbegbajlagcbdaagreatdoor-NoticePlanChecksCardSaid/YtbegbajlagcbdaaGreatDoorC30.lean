/- Chapter 8 and what it rests on: definitions and walks, part 30. -/
import Derived.Test.YtbegbajlagcbdaaGreatDoorC29
namespace Go.Proofs.YtbegbajlagcbdaaGreatDoor
open Go Go.RowKit Go.Shelf
attribute [local go_sem] Oper.semAt_some
theorem elemStop : Elem Tryz.prog 57 68 2 16 := Elem.mk' Tryz.underlying57 (z := .agg #[.int .i64 0, .int .i64 0]) (by kernel_rfl) rfl (by decide)
/-- An own slice of stops. -/
def StpsL (w : World) (B : Nat) (v : Value) (out : List Stp) : Prop := OwnL w B 68 2 v (out.map Stp.cells)
/-- What PlanRound returns. -/
def Cal.planR (p : Proc) (order : List Int) (x y : Int) : List Stp × Int := if Cal.planE p order x y = 0 then (match Cal.planS p.hols y.toNat x order with | some out => (out, 0) | none => ([], 2)) else ([], Cal.planE p order x y)
def PlanPost (w : World) (r : List Stp × Int) (e : Ending) (w' : World) : Prop := ∃ v, e = .returned (.tuple #[v, .int .i64 r.2]) ∧ StpsL w' w.heap.size v r.1 ∧ Below w.heap.size w w'
theorem wpListIn_load_mid {F : Fence} {n0 : Nat} {P : Program} {ops : Array Oper} {rest : List Oper} {o : Oper} {a : Act} {w : World} {Q : Exit → Act → World → Prop} (hg : o.guard = none) (ty : TypeId) (x : Operand) (ho : o.op = .load ty x)
    (b k : Nat) (hx : a.eval x = .pointer (some ⟨b, k, none⟩)) (cs : List Value) (d : TypeDesc) (hc : w.rangeAt b k cs)
    (hu : P.underlying ty = some d) (hd : d.isRow = true) (hi : (P.info? ty).map (·.size) = some cs.length)
    (h : wpListIn F n0 P ops Q rest (a.put o.dst (.agg cs.toArray)) w) : wpListIn F n0 P ops Q (o :: rest) a w := by
  refine wpListIn_plain hg fun K hK' => ?_
  unfold Oper.wpIn
  refine ⟨?_, ?_⟩
  · simp [Oper.about, ho]
  · rw [Oper.semAt_plain F _ _ (by rw [ho]; intro c hc'; cases hc')]
    simp only [execOp, ho, hx, Instr.loadAt, Instr.sureAddr, Sem.run_bind, Sem.run_pure, Result.andThen_ok, run_loadVar_mid w b k ty cs d hc hu hd hi]
    exact hK' _ _ h
theorem wpPrIn {F : Fence} {n0 : Nat} {ops : Array Oper} {rest : List Oper} {op : Oper} {a : Act} {w : World} {Q : Exit → Act → World → Prop} {B c : Nat} {A : Option Addr} {p : Proc} (h : BoxAt w B [.int .i64 p.runs.m, .int .i64 p.runs.d, .bool p.runs.k, .int .i64 p.obj.m, .int .i64 p.obj.d, .bool p.obj.k, .int .i64 p.wait.m, .int .i64 p.wait.d, .bool p.wait.k, .int .i64 p.exts, .int .i64 p.longest, .slice A p.hols.length c]) (x : Operand) (hx : a.eval x = .pointer (some ⟨B, 0, none⟩))
    (k : wpListIn F n0 Tryz.prog ops Q rest (a.put op.dst (.agg #[.int .i64 p.runs.m, .int .i64 p.runs.d, .bool p.runs.k, .int .i64 p.obj.m, .int .i64 p.obj.d, .bool p.obj.k, .int .i64 p.wait.m, .int .i64 p.wait.d, .bool p.wait.k, .int .i64 p.exts, .int .i64 p.longest, .slice A p.hols.length c])) w) (hgd : op.guard = none := by exact rfl) (ho : op.op = .load 47 x := by exact rfl) : wpListIn F n0 Tryz.prog ops Q (op :: rest) a w :=
  wpListIn_load_mid hgd 47 x ho B 0 hx [.int .i64 p.runs.m, .int .i64 p.runs.d, .bool p.runs.k, .int .i64 p.obj.m, .int .i64 p.obj.d, .bool p.obj.k, .int .i64 p.wait.m, .int .i64 p.wait.d, .bool p.wait.k, .int .i64 p.exts, .int .i64 p.longest, .slice A p.hols.length c] _ h.range Tryz.underlying47 rfl prSize k
theorem start4o (w : World) (A : Option Addr) (c : Nat) (p : Proc) (x y : Int) : Hid (BoxAt (((((w.alloc (.cells #[.int .i64 p.runs.m, .int .i64 p.runs.d, .bool p.runs.k, .int .i64 p.obj.m, .int .i64 p.obj.d, .bool p.obj.k, .int .i64 p.wait.m, .int .i64 p.wait.d, .bool p.wait.k, .int .i64 p.exts, .int .i64 p.longest, .slice A p.hols.length c] 47)).alloc (.cells #[.int .i64 x, .int .i64 y] 49))).alloc (.cells #[.slice none 0 0] 57)).alloc (.cells #[.int .i64 0] 33)) w.heap.size [.int .i64 p.runs.m, .int .i64 p.runs.d, .bool p.runs.k, .int .i64 p.obj.m, .int .i64 p.obj.d, .bool p.obj.k, .int .i64 p.wait.m, .int .i64 p.wait.d, .bool p.wait.k, .int .i64 p.exts, .int .i64 p.longest, .slice A p.hols.length c]) ∧ Hid (BoxAt (((((w.alloc (.cells #[.int .i64 p.runs.m, .int .i64 p.runs.d, .bool p.runs.k, .int .i64 p.obj.m, .int .i64 p.obj.d, .bool p.obj.k, .int .i64 p.wait.m, .int .i64 p.wait.d, .bool p.wait.k, .int .i64 p.exts, .int .i64 p.longest, .slice A p.hols.length c] 47)).alloc (.cells #[.int .i64 x, .int .i64 y] 49))).alloc (.cells #[.slice none 0 0] 57)).alloc (.cells #[.int .i64 0] 33)) (w.heap.size + 1) [.int .i64 x, .int .i64 y]) ∧ Hid (BoxAt (((((w.alloc (.cells #[.int .i64 p.runs.m, .int .i64 p.runs.d, .bool p.runs.k, .int .i64 p.obj.m, .int .i64 p.obj.d, .bool p.obj.k, .int .i64 p.wait.m, .int .i64 p.wait.d, .bool p.wait.k, .int .i64 p.exts, .int .i64 p.longest, .slice A p.hols.length c] 47)).alloc (.cells #[.int .i64 x, .int .i64 y] 49))).alloc (.cells #[.slice none 0 0] 57)).alloc (.cells #[.int .i64 0] 33)) (w.heap.size + 1 + 1) [.slice none 0 0]) ∧ Hid (BoxAt (((((w.alloc (.cells #[.int .i64 p.runs.m, .int .i64 p.runs.d, .bool p.runs.k, .int .i64 p.obj.m, .int .i64 p.obj.d, .bool p.obj.k, .int .i64 p.wait.m, .int .i64 p.wait.d, .bool p.wait.k, .int .i64 p.exts, .int .i64 p.longest, .slice A p.hols.length c] 47)).alloc (.cells #[.int .i64 x, .int .i64 y] 49))).alloc (.cells #[.slice none 0 0] 57)).alloc (.cells #[.int .i64 0] 33)) (w.heap.size + 1 + 1 + 1) [.int .i64 0]) ∧ Hid (Below w.heap.size w (((((w.alloc (.cells #[.int .i64 p.runs.m, .int .i64 p.runs.d, .bool p.runs.k, .int .i64 p.obj.m, .int .i64 p.obj.d, .bool p.obj.k, .int .i64 p.wait.m, .int .i64 p.wait.d, .bool p.wait.k, .int .i64 p.exts, .int .i64 p.longest, .slice A p.hols.length c] 47)).alloc (.cells #[.int .i64 x, .int .i64 y] 49))).alloc (.cells #[.slice none 0 0] 57)).alloc (.cells #[.int .i64 0] 33))) := by
  obtain ⟨g1, g2, hb⟩ := start2o w A c p x y
  have h3 := BoxAt.new ((w.alloc (.cells #[.int .i64 p.runs.m, .int .i64 p.runs.d, .bool p.runs.k, .int .i64 p.obj.m, .int .i64 p.obj.d, .bool p.obj.k, .int .i64 p.wait.m, .int .i64 p.wait.d, .bool p.wait.k, .int .i64 p.exts, .int .i64 p.longest, .slice A p.hols.length c] 47)).alloc (.cells #[.int .i64 x, .int .i64 y] 49)) #[.slice none 0 0] 57
  have h4 := BoxAt.new (((w.alloc (.cells #[.int .i64 p.runs.m, .int .i64 p.runs.d, .bool p.runs.k, .int .i64 p.obj.m, .int .i64 p.obj.d, .bool p.obj.k, .int .i64 p.wait.m, .int .i64 p.wait.d, .bool p.wait.k, .int .i64 p.exts, .int .i64 p.longest, .slice A p.hols.length c] 47)).alloc (.cells #[.int .i64 x, .int .i64 y] 49)).alloc (.cells #[.slice none 0 0] 57)) #[.int .i64 0] 33
  simp only [World.size_alloc] at h3 h4
  exact ⟨(g1.out.alloc _).alloc _, (g2.out.alloc _).alloc _, h3.alloc _, h4, below_step (below_step hb.out (below_alloc _ _)) (below_alloc _ _)⟩
/-- Results: two cells. -/
theorem BoxAt.off {w : World} {B B' : Nat} {cs : List Value} (h : BoxAt w B cs) (o : Nat) (v : Value) (hne : B ≠ B') : BoxAt (w.setCell ⟨B', o, none⟩ v) B cs := h.grown (grown_set w B' o v) (fun e => hne (by cases e; rfl))
set_option maxRecDepth 100000 in
set_option maxHeartbeats 4000000 in
theorem PlanRound_bad (A : Option Addr) (c : Nat) (p : Proc) (O : Option Addr) (d : Nat) (order : List Int) (x y : Int) (w : World) (hl : Hols w A p.hols) (hT : Tab w) (hI : IntArg w O d order) (hs : order.length ≤ 1000000) (h0 : ¬ Cal.planE p order x y = 0) :
    Calls Tryz.prog 27 #[.agg #[.int .i64 p.runs.m, .int .i64 p.runs.d, .bool p.runs.k, .int .i64 p.obj.m, .int .i64 p.obj.d, .bool p.obj.k, .int .i64 p.wait.m, .int .i64 p.wait.d, .bool p.wait.k, .int .i64 p.exts, .int .i64 p.longest, .slice A p.hols.length c], .slice O order.length d, .agg #[.int .i64 x, .int .i64 y]] w (PlanPost w (Cal.planR p order x y)) := by
  obtain ⟨g1, g2, g3, g4, hb⟩ := start4o w A c p x y
  have hl := Lib.hid hl
  have hT := Lib.hid hT
  have hI := Lib.hid hI
  have hp1 : (Cal.planE p order x y != 0) = true := by simpa using h0
  have hfin : Hid (Cal.planR p order x y = ([], Cal.planE p order x y)) := if_neg h0
  clear h0
  have k0 := g2.out.c 0 _ rfl
  have k1 := g2.out.c 1 _ rfl
  go_enter Tryz.func27, Tryz.ntmps27
  go_wp2_with (refine wpPr g1.out (.tmp 3) rfl ?_)
  refine (checkOrder_any A c p O d order x y _ (hl.out.below hb.out) (hT.out.below hb.out) (hI.out.below hb.out) hs).mono ?_
  rintro e w1 ⟨rfl, hbn⟩
  have g1 := Lib.hid (g1.out.below hbn)
  have g2 := Lib.hid (g2.out.below hbn)
  have g3 := Lib.hid (g3.out.below hbn)
  have g4 := Lib.hid (g4.out.below hbn)
  have hb := Lib.hid (below_step hb.out hbn)
  clear hbn k0 k1
  have k0 := g2.out.c 0 _ rfl
  have k1 := g2.out.c 1 _ rfl
  have f0 := g3.out.free 0 Nat.zero_lt_one
  have f1 := g4.out.free 0 Nat.zero_lt_one
  have c3 := g3.out.c 0 _ rfl
  have c4 := g4.out.c 0 _ rfl
  go_wp2_with fail
  have q0 := ((g3.out.set 0 (.slice none 0 0) Nat.zero_lt_one).off (B' := w.heap.size + 1 + 1 + 1) 0 (.int .i64 (Cal.planE p order x y)) (by omega)).c 0 _ rfl
  have q1 := ((g4.out.off (B' := w.heap.size + 1 + 1) 0 (.slice none 0 0) (by omega)).set 0 (.int .i64 (Cal.planE p order x y)) Nat.zero_lt_one).c 0 _ rfl
  refine bodyPost_ret (v := .tuple #[.slice none 0 0, .int .i64 (Cal.planE p order x y)]) (by simp [results, Tryz.results27, go_sem, q0, q1]) rfl ?_
  rw [hfin.out]
  exact ⟨_, rfl, OwnL.nil _ _ _ _, (hb.out.setCell (p := ⟨w.heap.size + 1 + 1, 0, none⟩) (by show w.heap.size ≤ w.heap.size + 1 + 1; omega) _).setCell (p := ⟨w.heap.size + 1 + 1 + 1, 0, none⟩) (by show w.heap.size ≤ w.heap.size + 1 + 1 + 1; omega) _⟩
/-! The invariant of the rounds. -/
def PI (b : Nat) (w1 : World) (out : List Stp) (day step : Int) (W : World) : Prop := ∃ v, BoxAt W b [v] ∧ StpsL W (b + 5) v out ∧ BoxAt W (b + 1) [.int .i64 day] ∧ BoxAt W (b + 1 + 1) [.int .i64 step] ∧ Below b w1 W ∧ b + 5 ≤ W.heap.size
theorem PI.below {b : Nat} {w1 W W' : World} {out : List Stp} {day step : Int} (h : PI b w1 out day step W) (hb : Below W.heap.size W W') : PI b w1 out day step W' := by
  obtain ⟨v, h1, h2, h3, h4, h5, h6⟩ := h
  exact ⟨v, h1.below hb, OwnL.below h2 hb, h3.below hb, h4.below hb, h5.trans (hb.mono (by omega)), Nat.le_trans h6 hb.size⟩
theorem StpsL.off {w : World} {B B' : Nat} {v : Value} {out : List Stp} (h : StpsL w B v out) (u : Value) (hne : B' < B) : StpsL (w.setCell ⟨B', 0, none⟩ u) B v out := by
  refine OwnL.kept h (grown_set _ B' 0 _) ?_
  cases hv : v.ownBlock with
  | none => exact .inl rfl
  | some g => right; intro e; have := (h.lt g hv).1; injection e with e; omega
theorem PI.setDay {b : Nat} {w1 W : World} {out : List Stp} {day step : Int} (h : PI b w1 out day step W) (d : Int) : PI b w1 out d step (W.setCell ⟨b + 1, 0, none⟩ (.int .i64 d)) := by
  obtain ⟨v, h1, h2, h3, h4, h5, h6⟩ := h
  exact ⟨v, h1.off 0 _ (by omega), h2.off _ (by omega), h3.set 0 _ Nat.zero_lt_one, h4.off 0 _ (by omega), h5.setCell (p := ⟨b + 1, 0, none⟩) (Nat.le_succ b) _, by rw [World.size_setCell]; exact h6⟩
theorem PI.setStep {b : Nat} {w1 W : World} {out : List Stp} {day step : Int} (h : PI b w1 out day step W) (d : Int) : PI b w1 out day d (W.setCell ⟨b + 1 + 1, 0, none⟩ (.int .i64 d)) := by
  obtain ⟨v, h1, h2, h3, h4, h5, h6⟩ := h
  exact ⟨v, h1.off 0 _ (by omega), h2.off _ (by omega), h3.off 0 _ (by omega), h4.set 0 _ Nat.zero_lt_one, h5.setCell (p := ⟨b + 1 + 1, 0, none⟩) (by show b ≤ b + 1 + 1; omega) _, by rw [World.size_setCell]; exact h6⟩
theorem PI.setOut {b : Nat} {w1 W : World} {v v' : Value} {out' : List Stp} {day step : Int} (h1 : BoxAt W b [v]) (h2 : StpsL W (b + 5) v' out') (h3 : BoxAt W (b + 1) [.int .i64 day]) (h4 : BoxAt W (b + 1 + 1) [.int .i64 step]) (h5 : Below b w1 W) (h6 : b + 5 ≤ W.heap.size) : PI b w1 out' day step (W.setCell ⟨b, 0, none⟩ v') :=
  ⟨v', h1.set 0 _ Nat.zero_lt_one, h2.off _ (by omega), h3.off 0 _ (by omega), h4.off 0 _ (by omega), h5.setCell (p := ⟨b, 0, none⟩) (Nat.le_refl b) _, by rw [World.size_setCell]; exact h6⟩
theorem PI.kept {b : Nat} {w1 X Y : World} {row : Option Nat} {out : List Stp} {day step : Int} (h : PI b w1 out day step X) (hg : X.grownBy Y row) (hr : Others X row) (hB : ∀ r, row = some r → b ≤ r) : PI b w1 out day step Y := by
  obtain ⟨v, h1, h2, h3, h4, h5, h6⟩ := h
  exact ⟨v, h1.keptO hg hr, OwnL.keptO h2 hg hr, h3.keptO hg hr, h4.keptO hg hr, h5.grown hg (by omega) hB, Nat.le_trans h6 hg.size⟩
theorem Two.of_grown {c e : Nat} {W W' : World} {row : Option Nat} (hg : W.grownBy W' row) (hc : c < W.heap.size) (he : e < W.heap.size) (nc : some c ≠ row) (ne : some e ≠ row) : Two c e W W' := ⟨hg.block c hc nc, hg.block e he ne⟩
theorem Two.of_below {c e : Nat} {W W' : World} (hb : Below W.heap.size W W') (hc : c < W.heap.size) (he : e < W.heap.size) : Two c e W W' := Two.of_grown (below_grown hb none) hc he (by simp) (by simp)
theorem Two.set {c e q : Nat} {W : World} (u : Value) (hc : c < W.heap.size) (he : e < W.heap.size) (nc : q < c) (ne : q < e) : Two c e W (W.setCell ⟨q, 0, none⟩ u) := Two.of_grown (grown_set W q 0 u) hc he (by intro h; cases h; omega) (by intro h; cases h; omega)
theorem keeps_below {W W' : World} (hb : Below W.heap.size W W') : KeepsOthers W W' := KeepsOthers.of_grownBy (below_grown hb none) (fun j o e => by cases e)
theorem Chk.part_length (order : List Int) (q : Chk order.length) : (Chk.part order q).length = q.1.2 := by unfold Chk.part; rw [List.length_take, List.length_drop]; have := q.2; omega
theorem RowsAt.dropR {w : World} {A : Option Addr} {zs : List Int} (h : RowsAt w A 1 (intRows zs)) (k : Nat) : RowsAt w (A.map (·.add (k * 1))) 1 (intRows (zs.drop k)) := fun j r hr => by
  unfold intRows at hr
  rw [List.map_drop, List.getElem?_drop] at hr
  obtain ⟨b, o, hA, hb, hc⟩ := h _ r hr
  refine ⟨b, o + k, ?_, hb, fun i v hv => ?_⟩
  · rw [hA, Option.map_some, addr_add, Nat.mul_one]
  · have := hc i v hv
    rw [show o + k + (j * 1 + i) = o + ((k + j) * 1 + i) by omega]
    exact this
theorem Chk.part_rows {w : World} {O : Option Addr} {order : List Int} (h : RowsAt w O 1 (intRows order)) (q : Chk order.length) : RowsAt w (O.map (·.add (q.1.1 * 1))) 1 (intRows (Chk.part order q)) := by
  have := (RowsAt.dropR h q.1.1).headR q.1.2
  unfold intRows at this ⊢
  unfold Chk.part
  rw [List.map_take]
  exact this
theorem Cal.addWorkingS_err {l : List Hol} (h : Cal.holsErr l = 0) (d n : Int) : (Cal.addWorkingS l d n).2 = 0 ∨ (Cal.addWorkingS l d n).2 = 2 := by
  unfold Cal.addWorkingS
  rw [if_pos h]
  split
  · split
    · exact .inl rfl
    · exact .inr rfl
  · exact .inr rfl
theorem Cal.planE_ok {p : Proc} {order : List Int} {x y : Int} (h : Cal.planE p order x y = 0) : Cal.procErr p = 0 ∧ order.length ≤ 60 ∧ order.Nodup ∧ 0 ≤ x ∧ x ≤ 200000 ∧ 1 ≤ y ∧ y ≤ 60 := by
  unfold Cal.planE at h
  by_cases h0 : Cal.procErr p = 0
  · rw [if_pos h0] at h
    unfold Cal.ordE at h
    by_cases h1 : 60 < order.length
    · rw [if_pos h1] at h; exact absurd h (by decide)
    · rw [if_neg h1] at h
      by_cases h2 : order.Nodup
      · rw [if_pos h2] at h
        by_cases h3 : 0 ≤ x ∧ x ≤ 200000 ∧ 1 ≤ y ∧ y ≤ 60
        · exact ⟨h0, by omega, h2, h3⟩
        · rw [if_neg h3] at h; exact absurd h (by decide)
      · rw [if_neg h2] at h; exact absurd h (by decide)
  · rw [if_neg h0] at h; exact absurd h h0
end Go.Proofs.YtbegbajlagcbdaaGreatDoor
namespace Go.Proofs.YtbegbajlagcbdaaGreatDoor
open Go Go.RowKit Go.Shelf
attribute [local go_sem] Oper.semAt_some
/-- The invariant over the chunks. -/
def PGI (p : Proc) (x : Int) (order : List Int) (b : Nat) (w1 : World) (pre : List (Chk order.length)) (W : World) : Prop := ∃ out day step, Cal.grpTo p.hols x (pre.map (Chk.part order)) = some (out, day, step) ∧ PI b w1 out day step W ∧ out.length ≤ 60 * pre.length
def PGX (w : World) (p : Proc) (x : Int) (order : List Int) (c : Code) (pre : List (Chk order.length)) (W : World) : Prop := c = .ret ∧ Cal.grpTo p.hols x (pre.map (Chk.part order)) = none ∧ BoxAt W (w.heap.size + 1 + 1) [.slice none 0 0] ∧ BoxAt W (w.heap.size + 1 + 1 + 1) [.int .i64 2] ∧ Below w.heap.size w W
theorem pgi_own (p : Proc) (x : Int) (order : List Int) (b : Nat) (w1 : World) (B : Nat) (hB : b ≤ B) : OwnFrom B (PGI p x order b w1) := fun pre X Y row hs hg hr => by
  obtain ⟨out, day, step, h1, h2, h3⟩ := hs
  exact ⟨out, day, step, h1, h2.kept hg (fun r e => (hr r e).2) (fun r e => Nat.le_trans hB (hr r e).1), h3⟩
theorem pgx_own (w : World) (p : Proc) (x : Int) (order : List Int) (B : Nat) (hB : w.heap.size ≤ B) (c : Code) : OwnFrom B (PGX w p x order c) := fun pre X Y row hs hg hr => by
  obtain ⟨e, h1, b1, b2, hb⟩ := hs
  exact ⟨e, h1, b1.keptO hg (fun r e => (hr r e).2), b2.keptO hg (fun r e => (hr r e).2), ownFrom_below (β := Unit) (Nat.le_refl _) hB () X Y row hb hg hr⟩
theorem stp_wid (l : List Stp) : ∀ r ∈ l.map Stp.cells, r.length = 2 := fun r hr => by obtain ⟨s, _, rfl⟩ := List.mem_map.1 hr; rfl
theorem stp_one (l : List Stp) : ∀ r ∈ l.map Stp.cells, ∀ u ∈ r, u.oneCell' = true := fun r hr u hu => by
  obtain ⟨s, _, rfl⟩ := List.mem_map.1 hr
  simp only [Stp.cells, List.mem_cons, List.not_mem_nil, or_false] at hu
  rcases hu with rfl | rfl <;> rfl
set_option maxRecDepth 100000 in
set_option maxHeartbeats 8000000 in
theorem PlanRound_ok (A : Option Addr) (c : Nat) (p : Proc) (O : Option Addr) (d : Nat) (order : List Int) (x : Int) (yn : Nat) (w : World) (hl : Hols w A p.hols) (hT : Tab w) (hI : IntArg w O d order) (h0 : Cal.planE p order x yn = 0) :
    Calls Tryz.prog 27 #[.agg #[.int .i64 p.runs.m, .int .i64 p.runs.d, .bool p.runs.k, .int .i64 p.obj.m, .int .i64 p.obj.d, .bool p.obj.k, .int .i64 p.wait.m, .int .i64 p.wait.d, .bool p.wait.k, .int .i64 p.exts, .int .i64 p.longest, .slice A p.hols.length c], .slice O order.length d, .agg #[.int .i64 x, .int .i64 (yn : Int)]] w (PlanPost w (Cal.planR p order x yn)) := by
  obtain ⟨g1, g2, g3, g4, hb⟩ := start4o w A c p x yn
  obtain ⟨hpe, hlen, _, x0, x1, y0, y1⟩ := Cal.planE_ok h0
  have hh0 := (Cal.procErr_ok hpe).2.2.2.2.2.2.2
  have hs : order.length ≤ 1000000 := by omega
  have hl := Lib.hid hl
  have hT := Lib.hid hT
  have hI := Lib.hid hI
  have hp0 := Lib.hid h0
  have hR : Hid (Cal.planR p order x yn = match Cal.planS p.hols yn x order with | some out => (out, 0) | none => ([], 2)) := by show _ = _; unfold Cal.planR; rw [if_pos h0, Int.toNat_natCast]; first | done | rfl
  clear h0 hpe
  have k0 := g2.out.c 0 _ rfl
  have k1 := g2.out.c 1 _ rfl
  refine (callsIn_wide (n := 4)).1 ?_
  refine callsIn_of_wp_marks Tryz.func27 rfl trivial ?_ rfl
  simp only [Tryz.ntmps27, List.size_toArray, List.length_cons, List.length_nil, Nat.reduceAdd, Nat.reduceSub, Array.replicate_succ, Array.replicate_zero, List.push_toArray, List.append_toArray, List.nil_append, List.cons_append]
  gi_wp2_with (first | (refine wpPrIn g1.out (.tmp 3) rfl ?_) | (refine ⟨trivial, ?_⟩; gi_at_call 75; refine (callsIn_wide.2 (checkOrder_any A c p O d order x yn _ (hl.out.below hb.out) (hT.out.below hb.out) (hI.out.below hb.out) hs)).mono ?_; rintro e w1 ⟨rfl, hbn⟩; rw [hp0.out]; have g1 := Lib.hid (g1.out.below hbn); have g2 := Lib.hid (g2.out.below hbn); have g3 := Lib.hid (g3.out.below hbn); have g4 := Lib.hid (g4.out.below hbn); have hb := Lib.hid (below_step hb.out hbn); clear hbn k0 k1; have k0 := g2.out.c 0 _ rfl; have k1 := g2.out.c 1 _ rfl; have l1 := g1.out.lt; have l2 := g2.out.lt; have l3 := g3.out.lt; have l4 := g4.out.lt) | (refine ⟨trivial, ?_⟩; gi_at_call 78; refine (callsIn_wide.2 (chunk_any _ _ _ _ y0 _)).mono ?_; rintro e w' ⟨rfl, rfl⟩))
  have hbW : Below w1.heap.size w1 (((((w1.alloc (.cells #[.slice none 0 0] 57)).alloc (.cells #[.int .i64 x] 3)).alloc (.cells #[.int .i64 0] 3)).alloc (.cells #[.slice O order.length d] 32)).alloc (.cells #[.int .i64 (yn : Int)] 3)) := below_step (below_step (below_step (below_step (below_alloc _ _) (below_alloc _ _)) (below_alloc _ _)) (below_alloc _ _)) (below_alloc _ _)
  have b1 := (((BoxAt.new w1 #[.slice none 0 0] 57).alloc (.cells #[.int .i64 x] 3)).alloc (.cells #[.int .i64 0] 3)).alloc (.cells #[.slice O order.length d] 32) |>.alloc (.cells #[.int .i64 (yn : Int)] 3)
  have b2 := (((BoxAt.new (w1.alloc (.cells #[.slice none 0 0] 57)) #[.int .i64 x] 3).alloc (.cells #[.int .i64 0] 3)).alloc (.cells #[.slice O order.length d] 32)).alloc (.cells #[.int .i64 (yn : Int)] 3)
  have b3 := ((BoxAt.new ((w1.alloc (.cells #[.slice none 0 0] 57)).alloc (.cells #[.int .i64 x] 3)) #[.int .i64 0] 3).alloc (.cells #[.slice O order.length d] 32)).alloc (.cells #[.int .i64 (yn : Int)] 3)
  have b4 := (BoxAt.new (((w1.alloc (.cells #[.slice none 0 0] 57)).alloc (.cells #[.int .i64 x] 3)).alloc (.cells #[.int .i64 0] 3)) #[.slice O order.length d] 32).alloc (.cells #[.int .i64 (yn : Int)] 3)
  have b5 := BoxAt.new ((((w1.alloc (.cells #[.slice none 0 0] 57)).alloc (.cells #[.int .i64 x] 3)).alloc (.cells #[.int .i64 0] 3)).alloc (.cells #[.slice O order.length d] 32)) #[.int .i64 (yn : Int)] 3
  have hs0 : (((((w1.alloc (.cells #[.slice none 0 0] 57)).alloc (.cells #[.int .i64 x] 3)).alloc (.cells #[.int .i64 0] 3)).alloc (.cells #[.slice O order.length d] 32)).alloc (.cells #[.int .i64 (yn : Int)] 3)).heap.size = w1.heap.size + 5 := by simp
  simp only [World.size_alloc] at b2 b3 b4 b5
  obtain ⟨W0, hW0⟩ : ∃ W0, ((((w1.alloc (.cells #[.slice none 0 0] 57)).alloc (.cells #[.int .i64 x] 3)).alloc (.cells #[.int .i64 0] 3)).alloc (.cells #[.slice O order.length d] 32)).alloc (.cells #[.int .i64 (yn : Int)] 3) = W0 := ⟨_, rfl⟩
  rw [hW0] at b1 b2 b3 b4 b5 hbW hs0 ⊢
  clear hW0
  refine wpIn_rangeFunc_ownH rfl (by omega) (gf := 132) (lb := #[.pointer (some ⟨w1.heap.size + 1 + 1 + 1, 0, none⟩), .pointer (some ⟨w1.heap.size + 1 + 1 + 1 + 1, 0, none⟩)]) rfl trivial (enters_of Tryz.func132 (by kernel_rfl) rfl)
    (chunk_stops 3 (by omega) (w1.heap.size + 1 + 1 + 1) (w1.heap.size + 1 + 1 + 1 + 1) O d order yn (by omega) (by omega) hs hI.out.cap W0 (b4.c 0 _ rfl) (b5.c 0 _ rfl) (by omega) (by omega)) (fun h k => h.trans k)
    (fun W l o o' hl hW _ _ => Two.of_grown (grownBy_putObj' W l o') (by have := (Array.getElem?_eq_some_iff.1 hW).1; omega) (by have := (Array.getElem?_eq_some_iff.1 hW).1; omega) (by intro e; cases e; omega) (by intro e; cases e; omega)) (Below.refl _ _) (fun _ => rfl)
    (PGI p x order w1.heap.size w1) (PGX w p x order) (pgi_own p x order _ w1 _ (by omega)) (fun c => pgx_own w p x order _ (by have := hb.out.size; omega) c)
    ⟨[], x, 0, rfl, ⟨_, b1, OwnL.nil _ _ _ _, b2, b3, hbW, by omega⟩, by simp⟩
    (fun q a' W => a' = { tmps := #[.agg #[.int .i64 p.runs.m, .int .i64 p.runs.d, .bool p.runs.k, .int .i64 p.obj.m, .int .i64 p.obj.d, .bool p.obj.k, .int .i64 p.wait.m, .int .i64 p.wait.d, .bool p.wait.k, .int .i64 p.exts, .int .i64 p.longest, .slice A p.hols.length c], .slice O order.length d, .agg #[.int .i64 x, .int .i64 (yn : Int)], .pointer (some ⟨w.heap.size, 0, none⟩), undef, .pointer (some ⟨w.heap.size + 1, 0, none⟩), .pointer (some ⟨w.heap.size + 1 + 1, 0, none⟩), .pointer (some ⟨w.heap.size + 1 + 1 + 1, 0, none⟩), .int .i64 0, .pointer (some ⟨w1.heap.size, 0, none⟩), .pointer (some ⟨w1.heap.size + 1, 0, none⟩), .pointer (some ⟨w1.heap.size + 1 + 1, 0, none⟩), Chk.enc O q, undef, undef, undef, .agg #[.int .i64 p.runs.m, .int .i64 p.runs.d, .bool p.runs.k, .int .i64 p.obj.m, .int .i64 p.obj.d, .bool p.obj.k, .int .i64 p.wait.m, .int .i64 p.wait.d, .bool p.wait.k, .int .i64 p.exts, .int .i64 p.longest, .slice A p.hols.length c], .slice O order.length d, .agg #[.int .i64 x, .int .i64 (yn : Int)], .int .i64 0, .int .i64 0, .bool false, undef, .pointer (some ⟨w.heap.size + 1, 0, none⟩), .int .i64 x, .slice O order.length d, .pointer (some ⟨w.heap.size + 1, 1, none⟩), .int .i64 (yn : Int), .func (.func 132) #[] #[.pointer (some ⟨w1.heap.size + 1 + 1 + 1, 0, none⟩), .pointer (some ⟨w1.heap.size + 1 + 1 + 1 + 1, 0, none⟩)], Chk.enc O q, undef, undef, undef, undef, undef, undef, undef, undef, undef, undef, undef, undef, undef, undef, undef, undef, undef, undef, undef, undef, undef, undef, undef, undef, undef], defers := [] })
    (fun x a' _ X Y row hs hg hr => hs)
    ?assign ?body ?done ?stop
  case assign =>
    rintro l pre q W K hI hK
    gi_wp2
    exact hK _ _ (KeepsFrom.refl _ _) (Two.refl _ _ _) hI rfl
  case body =>
    rintro l pre q a' W hl' ⟨r, hr⟩ ⟨out, day, step, hg, hP, hz⟩ rfl hlt
    have p5 : Below w1.heap.size w1 W := by obtain ⟨_, _, _, _, _, h, _⟩ := hP; exact h
    have p6 : w1.heap.size + 5 ≤ W.heap.size := by obtain ⟨_, _, _, _, _, _, h⟩ := hP; exact h
    have d0 : W.cell? ⟨w1.heap.size + 1, 0, none⟩ = some (.int .i64 day) := by obtain ⟨_, _, _, h, _⟩ := hP; exact h.c 0 _ rfl
    have d1 : W.cell? ⟨w1.heap.size + 1 + 1, 0, none⟩ = some (.int .i64 step) := by obtain ⟨_, _, _, _, h, _⟩ := hP; exact h.c 0 _ rfl
    have h11 := (g1.out.below p5).c 11 _ rfl
    have hbW := hb.out.trans (p5.mono hb.out.size)
    obtain ⟨D, hD⟩ : ∃ D, D = (Cal.addWorkingS p.hols day step).1 := ⟨_, rfl⟩
    have hadd : ∀ (E : Int), (Cal.addWorkingS p.hols day step).2 = E → Calls Tryz.prog 79 #[.slice A p.hols.length c, .int .i64 day, .int .i64 step] W fun e w' => e = .returned (.tuple #[.int .i64 D, .int .i64 E]) ∧ Below W.heap.size W w' := fun E hE => by
      rw [hD, ← hE]
      exact AddWorking_any A c p.hols (fun h => holidaysOf_any A c p.hols (Cal.holsErr_ok h).1 (by have := (Cal.holsErr_ok h).2; omega)) day step W (hl.out.below hbW) (hT.out.below hbW)
    have hq1 := Chk.part_length order q
    obtain ⟨G, hG⟩ : ∃ G, G = O.map (·.add (q.1.1 * 1)) := ⟨_, rfl⟩
    obtain ⟨g, hgq⟩ : ∃ g, g = Chk.part order q := ⟨_, rfl⟩
    have he : Chk.enc O q = .slice G g.length g.length := by unfold Chk.enc; rw [hG, hgq, hq1]
    have hgl : g.length ≤ 60 := by rw [hgq, hq1]; have := q.2; omega
    have hgr : ∀ W', Below w1.heap.size w1 W' → RowsAt W' G 1 (intRows g) := fun W' hb' => by rw [hG, hgq]; exact Chk.part_rows ((hI.out.below hb.out).below hb').rows q
    have hsn : Cal.grpTo p.hols x ((pre ++ [q]).map (Chk.part order)) = Cal.grpStep p.hols (out, day, step) g := by rw [List.map_append, List.map_singleton, Cal.grpTo_snoc, hg, ← hgq]; rfl
    have hol : out.length ≤ 3600 := by omega
    simp only [he]
    have hgr := Lib.hid hgr
    clear he hG hgq hq1 hg b1 b2 b3 b4 b5
    rcases Cal.addWorkingS_err hh0 day step with hE | hE
    · have hadd := Lib.hid (hadd 0 hE)
      have hst : Hid (Cal.grpStep p.hols (out, day, step) g = some (out ++ g.map (fun o => ⟨o, D⟩), D, 1)) := by show _ = _; unfold Cal.grpStep; simp only; rw [if_pos hE, ← hD]
      clear hE hD
      have hP := Lib.hid hP
      have hsn := Lib.hid hsn
      clear p5 hbW
      gi_wp2_with (refine ⟨trivial, ?_⟩; gi_at_call 79; refine (callsIn_wide.2 hadd.out).mono ?_; rintro e w5 ⟨rfl, hbn⟩; have hP5 := Lib.hid (hP.out.below hbn); have hk5 := Lib.hid (keeps_below hbn); have ht5 := Lib.hid (Two.of_below (c := w1.heap.size + 1 + 1 + 1) (e := w1.heap.size + 1 + 1 + 1 + 1) hbn (by omega) (by omega)); have p65 := Nat.le_trans p6 hbn.size; have d0 : w5.cell? ⟨w1.heap.size + 1, 0, none⟩ = some (.int .i64 day) := by {obtain ⟨_, _, _, h, _⟩ := hP5.out; exact h.c 0 _ rfl}; have f0 : w5.frozen? ⟨w1.heap.size + 1, 0, none⟩ = false := by {obtain ⟨_, _, _, h, _⟩ := hP5.out; exact h.free 0 Nat.zero_lt_one}; clear hbn)
      have hP6 := Lib.hid (hP5.out.setDay D)
      have hk6 := Lib.hid (hk5.out.trans (KeepsOthers.setCell w5 ⟨w1.heap.size + 1, 0, none⟩ (.int .i64 D)))
      have ht6 := Lib.hid (ht5.out.trans (Two.set (q := w1.heap.size + 1) (.int .i64 D) (by omega) (by omega) (by omega) (by omega)))
      obtain ⟨w6, hw6⟩ : ∃ w6, w5.setCell ⟨w1.heap.size + 1, 0, none⟩ (.int .i64 D) = w6 := ⟨_, rfl⟩
      rw [hw6] at hP6 hk6 ht6 ⊢
      clear hw6 hP5 hk5 ht5 d0 d1 f0 p65 h11
      gi_loopw [43, 15] (fun i u wr => ∃ k : Nat, k ≤ g.length ∧ i = .int .i64 k ∧ PI w1.heap.size w1 (out ++ (g.take k).map (fun o => ⟨o, D⟩)) D step wr ∧ KeepsOthers W wr ∧ Two (w1.heap.size + 1 + 1 + 1) (w1.heap.size + 1 + 1 + 1 + 1) W wr) (fun i _ _ => g.length - (intOf i).toNat)
      case atStart => exact ⟨0, Nat.zero_le _, rfl, by simpa using hP6.out, hk6.out, ht6.out⟩
      case round =>
        obtain ⟨k, hk, rfl, ⟨v, p1, p2, p3, p4, p5, p6⟩, hkk, htt⟩ := hrel
        clear hP6 hk6 ht6
        by_cases hlt2 : k < g.length
        · obtain ⟨bo, oo, rfl, hbo, hcell⟩ := ints_at (hgr.out _ p5) hlt2
          have hst2 := Lib.hid (List.take_succ_eq_append_getElem hlt2)
          generalize g[k] = z at *
          obtain ⟨R, hRe⟩ : ∃ R, R = (out ++ (g.take k).map (fun o => (⟨o, D⟩ : Stp))).map Stp.cells := ⟨_, rfl⟩
          have hRl : R.length ≤ 4000 := by rw [hRe]; simp only [List.length_map, List.length_append, List.length_take]; omega
          have hRn : Hid ((out ++ (g.take (k + 1)).map (fun o => (⟨o, D⟩ : Stp))).map Stp.cells = R ++ [⟨z, D⟩].map Stp.cells) := by show _ = _; rw [hst2.out, hRe]; simp only [List.map_append, List.append_assoc, List.map_cons, List.map_nil]
          have p2 : OwnL wr (w1.heap.size + 5) 68 2 v R := by rw [hRe]; exact p2
          clear hRe hst2
          obtain ⟨A4, c4, rfl, _⟩ := OwnL.form p2
          have c0 := p1.c 0 _ rfl
          have d0 := p3.c 0 _ rfl
          have hsrc : RowsAt (wr.alloc (.cells #[.int .i64 z, .int .i64 D] 68)) (some ⟨wr.heap.size, 0, none⟩) 2 ([⟨z, D⟩].map Stp.cells) := rowsAt_new wr [.int .i64 z, .int .i64 D] 68
          have ba := below_alloc wr (.cells #[.int .i64 z, .int .i64 D] 68)
          have hAll := Lib.hid (And.intro (p1.below ba) (And.intro (OwnL.below p2 ba) (And.intro hsrc (And.intro (p3.below ba) (And.intro (p4.below ba) (And.intro (p5.trans (ba.mono (by omega))) (And.intro (Nat.le_trans p6 ba.size) (And.intro (hkk.trans (keeps_below ba)) (htt.trans (Two.of_below ba (by omega) (by omega)))))))))))
          have lb : w1.heap.size < wr.heap.size := by omega
          have lb1 : w1.heap.size + 1 < wr.heap.size := by omega
          clear p1 p2 p3 p4 p5 hkk htt hsrc ba
          obtain ⟨np, hnp⟩ : ∃ np, np = R.length := ⟨_, rfl⟩
          rw [← hnp] at hAll c0
          clear hnp
          gi_wp2_with (gi_at_builtin; refine wpListIn_append_rows elemStop rfl _ _ rfl rfl rfl hAll.out.2.1 hAll.out.2.2.1 rfl (stp_wid _) (stp_one _) (by simp only [List.length_map, List.length_singleton]; omega) (by decide) hAll.out.2.2.2.2.2.2.1 ?_; intro v' w7 hown7 hg7 _; obtain ⟨A5, c5, hv5, _⟩ := OwnL.form hown7; obtain ⟨q5, hq5⟩ : ∃ q : Nat, q = (R ++ [(⟨z, D⟩ : Stp)].map Stp.cells).length := ⟨_, rfl⟩; rw [← hq5] at hv5; subst hv5; clear hq5; have b7 := hAll.out.1.grown hg7 (fun h => by have := (OwnL.lt hAll.out.2.1 _ h.symm).1; omega); have y0 := b7.c 0 _ rfl; have y1' := b7.free 0 Nat.zero_lt_one; have hall7 := Lib.hid (And.intro b7 (And.intro hown7 (And.intro (hAll.out.2.2.2.1.grown hg7 (fun h => by have := (OwnL.lt hAll.out.2.1 _ h.symm).1; omega)) (And.intro (hAll.out.2.2.2.2.1.grown hg7 (fun h => by have := (OwnL.lt hAll.out.2.1 _ h.symm).1; omega)) (And.intro (hAll.out.2.2.2.2.2.1.trans (grown_below hg7 (fun r h => by have := (OwnL.lt hAll.out.2.1 r h).1; omega) (by have := hAll.out.2.2.2.2.2.2.1; omega))) (And.intro (Nat.le_trans hAll.out.2.2.2.2.2.2.1 hg7.size) (And.intro (hAll.out.2.2.2.2.2.2.2.1.trans (OwnL.keeps hAll.out.2.1 hg7)) (hAll.out.2.2.2.2.2.2.2.2.trans (Two.of_grown hg7 (by have := hAll.out.2.2.2.2.2.2.1; omega) (by have := hAll.out.2.2.2.2.2.2.1; omega) (fun h => by have := (OwnL.lt hAll.out.2.1 _ h.symm).1; omega) (fun h => by have := (OwnL.lt hAll.out.2.1 _ h.symm).1; omega)))))))))); clear b7 hown7 hg7)
          obtain ⟨b7, o7, d7, s7, h7, z7, k7, t7⟩ := hall7.out
          have o7 : StpsL w7 (w1.heap.size + 5) (.slice A5 q5 c5) (out ++ (g.take (k + 1)).map (fun o => (⟨o, D⟩ : Stp))) := by unfold StpsL; rw [hRn.out]; exact o7
          go_roundw
          case rel => exact ⟨k + 1, by omega, by go_num, PI.setOut b7 o7 d7 s7 h7 z7, k7.trans (KeepsOthers.setCell _ _ _), t7.trans (Two.set (q := w1.heap.size) _ (by omega) (by omega) (by omega) (by omega))⟩
          case measure => simp [intOf]; omega
        · obtain rfl : k = g.length := by omega
          rw [List.take_length] at p2
          have f1 := p4.free 0 Nat.zero_lt_one
          have d1 := p4.c 0 _ rfl
          have hAll := Lib.hid (And.intro p1 (And.intro p2 (And.intro p3 (And.intro p4 (And.intro p5 (And.intro p6 (And.intro hkk htt)))))))
          clear p1 p2 p3 p4 p5 p6 hkk htt
          gi_wp2
          obtain ⟨p1, p2, p3, p4, p5, p6, hkk, htt⟩ := hAll.out
          refine ⟨(hkk.trans (KeepsOthers.setCell _ _ _)).from _, htt.trans (Two.set (q := w1.heap.size + 1 + 1) _ (by omega) (by omega) (by omega) (by omega)), _, D, 1, hsn.out.trans hst.out, PI.setStep ⟨v, p1, p2, p3, p4, p5, p6⟩ 1, ?_⟩
          simp only [List.length_append, List.length_map, List.length_singleton]
          omega
    · have hadd := Lib.hid (hadd 2 hE)
      have hst : Hid (Cal.grpStep p.hols (out, day, step) g = none) := by show _ = _; unfold Cal.grpStep; simp only; rw [if_neg (by rw [hE]; decide)]
      clear hE hD
      have hP := Lib.hid hP
      have hsn := Lib.hid hsn
      clear p5
      have hbW := Lib.hid hbW
      have g3 := Lib.hid g3
      gi_wp2_with (refine ⟨trivial, ?_⟩; gi_at_call 79; refine (callsIn_wide.2 hadd.out).mono ?_; rintro e w5 ⟨rfl, hbn⟩; have hP5 := Lib.hid (hP.out.below hbn); have hk5 := Lib.hid (keeps_below hbn); have p65 := Nat.le_trans p6 hbn.size; have d0 : w5.cell? ⟨w1.heap.size + 1, 0, none⟩ = some (.int .i64 day) := by {obtain ⟨_, _, _, h, _⟩ := hP5.out; exact h.c 0 _ rfl}; have f0 : w5.frozen? ⟨w1.heap.size + 1, 0, none⟩ = false := by {obtain ⟨_, _, _, h, _⟩ := hP5.out; exact h.free 0 Nat.zero_lt_one}; have b5 : Below w1.heap.size w1 w5 := by {obtain ⟨_, _, _, _, _, h, _⟩ := hP5.out; exact h}; have b35 := Lib.hid (g3.out.out.below b5); have b45 := Lib.hid (g4.out.below b5); have f3 := b35.out.free 0 Nat.zero_lt_one; have f4 := b45.out.free 0 Nat.zero_lt_one; have c3 := b35.out.c 0 _ rfl; have c4 := b45.out.c 0 _ rfl; have hb5 := Lib.hid (hbW.out.trans (hbn.mono hbW.out.size)); clear hbn b5)
      refine ⟨(((hk5.out.trans (KeepsOthers.setCell _ _ _)).trans (KeepsOthers.setCell _ _ _)).trans (KeepsOthers.setCell _ _ _)).from _, rfl, hsn.out.trans hst.out, ?_, ?_, ?_⟩
      · exact ((b35.out.off (B' := w1.heap.size + 1) 0 _ (by omega)).set 0 _ Nat.zero_lt_one).off (B' := w.heap.size + 1 + 1 + 1) 0 _ (by omega)
      · exact ((b45.out.off (B' := w1.heap.size + 1) 0 _ (by omega)).off (B' := w.heap.size + 1 + 1) 0 _ (by omega)).set 0 _ Nat.zero_lt_one
      · exact ((hb5.out.setCell (p := ⟨w1.heap.size + 1, 0, none⟩) (by show w.heap.size ≤ w1.heap.size + 1; omega) _).setCell (p := ⟨w.heap.size + 1 + 1, 0, none⟩) (by show w.heap.size ≤ w.heap.size + 1 + 1; omega) _).setCell (p := ⟨w.heap.size + 1 + 1 + 1, 0, none⟩) (by show w.heap.size ≤ w.heap.size + 1 + 1 + 1; omega) _
  case done =>
    rintro D ys W hD ⟨a, hch, hn⟩ ⟨out, day, step, hg, ⟨v, p1, p2, p3, p4, p5, p6⟩, hz⟩ hK
    obtain ⟨A4, c4, rfl, _⟩ := OwnL.form p2
    have hpl := Lib.hid (Cal.grp_done hh0 x0 x1 (by omega) hch hn hg)
    have c0 := p1.c 0 _ rfl
    have g3 := g3.out.below p5
    have g4 := g4.out.below p5
    have f3 := g3.free 0 Nat.zero_lt_one
    have f4 := g4.free 0 Nat.zero_lt_one
    have c3 := g3.c 0 _ rfl
    have c4' := g4.c 0 _ rfl
    have hAll := Lib.hid (And.intro g3 (And.intro g4 (And.intro p2 (And.intro p5 hK))))
    clear g3 g4 p2 p5 hK p1 p3 p4 b1 b2 b3 b4 b5 hch hg
    obtain ⟨n4, hn4⟩ : ∃ n4, n4 = (out.map Stp.cells).length := ⟨_, rfl⟩
    rw [← hn4] at hAll c0
    clear hn4
    gi_wp2
    obtain ⟨g3, g4, p2, p5, hK⟩ := hAll.out
    obtain ⟨W2, hW2⟩ : ∃ W2, (W.setCell ⟨w.heap.size + 1 + 1, 0, none⟩ (.slice A4 n4 c4)).setCell ⟨w.heap.size + 1 + 1 + 1, 0, none⟩ (.int .i64 0) = W2 := ⟨_, rfl⟩
    have q3 := (g3.set 0 (.slice A4 n4 c4) Nat.zero_lt_one).off (B' := w.heap.size + 1 + 1 + 1) 0 (.int .i64 0) (by omega)
    have q4 := (g4.off (B' := w.heap.size + 1 + 1) 0 (.slice A4 n4 c4) (by omega)).set 0 (.int .i64 0) Nat.zero_lt_one
    have q2 := StpsL.off (StpsL.off p2 (B' := w.heap.size + 1 + 1) (.slice A4 n4 c4) (by omega)) (B' := w.heap.size + 1 + 1 + 1) (.int .i64 0) (by omega)
    have q5 := ((hb.out.trans (p5.mono hb.out.size)).setCell (p := ⟨w.heap.size + 1 + 1, 0, none⟩) (by show w.heap.size ≤ w.heap.size + 1 + 1; omega) (.slice A4 n4 c4)).setCell (p := ⟨w.heap.size + 1 + 1 + 1, 0, none⟩) (by show w.heap.size ≤ w.heap.size + 1 + 1 + 1; omega) (.int .i64 0)
    have q6 : KeepsOthers W ((W.setCell ⟨w.heap.size + 1 + 1, 0, none⟩ (.slice A4 n4 c4)).setCell ⟨w.heap.size + 1 + 1 + 1, 0, none⟩ (.int .i64 0)) := (KeepsOthers.setCell _ _ _).trans (KeepsOthers.setCell _ _ _)
    rw [hW2] at q2 q3 q4 q5 q6 ⊢
    have hK' := q6.same D _ hK rfl
    have ho' : Others W2 (some D) := fun r e => by cases e; exact ⟨_, hK', rfl⟩
    refine ⟨by simp, .inl ⟨_, _, rfl, run_takeDeferred hK', ?_⟩⟩
    have r3 := (q3.keptO (grownBy_putObj' W2 D (.deferred none)) ho').c 0 _ rfl
    have r4 := (q4.keptO (grownBy_putObj' W2 D (.deferred none)) ho').c 0 _ rfl
    refine ⟨.tuple #[.slice A4 n4 c4, .int .i64 0], by simp [results, Tryz.results27, go_sem, r3, r4], ?_⟩
    rw [hR.out, hpl.out]
    exact ⟨_, rfl, OwnL.less (OwnL.keptO q2 (grownBy_putObj' W2 D (.deferred none)) ho') (by omega), fr_putS q5 (by omega) _⟩
  case stop =>
    rintro D c pre W hD ⟨a, hch⟩ ⟨rfl, hg, b1, b2, hbw⟩ hK
    have hpl := Lib.hid (Cal.grp_stop hh0 x0 x1 (by omega) hch hg)
    have hAll := Lib.hid (And.intro b1 (And.intro b2 hbw))
    clear b1 b2 hbw hch hg
    gi_wp2
    obtain ⟨b1, b2, hbw⟩ := hAll.out
    have ho' : Others W (some D) := fun r e => by cases e; exact ⟨_, hK, rfl⟩
    refine ⟨by simp, .inl ⟨_, _, rfl, run_takeDeferred hK, ?_⟩⟩
    have r3 := (b1.keptO (grownBy_putObj' W D (.deferred none)) ho').c 0 _ rfl
    have r4 := (b2.keptO (grownBy_putObj' W D (.deferred none)) ho').c 0 _ rfl
    refine ⟨.tuple #[.slice none 0 0, .int .i64 2], by simp [results, Tryz.results27, go_sem, r3, r4], ?_⟩
    rw [hR.out, hpl.out]
    exact ⟨_, rfl, OwnL.nil _ _ _ _, fr_putS hbw (by omega) _⟩
theorem PlanRound_any (A : Option Addr) (c : Nat) (p : Proc) (O : Option Addr) (d : Nat) (order : List Int) (x y : Int) (w : World) (hl : Hols w A p.hols) (hT : Tab w) (hI : IntArg w O d order) (hs : order.length ≤ 1000000) :
    Calls Tryz.prog 27 #[.agg #[.int .i64 p.runs.m, .int .i64 p.runs.d, .bool p.runs.k, .int .i64 p.obj.m, .int .i64 p.obj.d, .bool p.obj.k, .int .i64 p.wait.m, .int .i64 p.wait.d, .bool p.wait.k, .int .i64 p.exts, .int .i64 p.longest, .slice A p.hols.length c], .slice O order.length d, .agg #[.int .i64 x, .int .i64 y]] w (PlanPost w (Cal.planR p order x y)) := by
  by_cases h0 : Cal.planE p order x y = 0
  · obtain ⟨yn, rfl⟩ : ∃ yn : Nat, y = yn := ⟨y.toNat, by have := Cal.planE_ok h0; omega⟩
    exact PlanRound_ok A c p O d order x yn w hl hT hI h0
  · exact PlanRound_bad A c p O d order x y w hl hT hI hs h0
end Go.Proofs.YtbegbajlagcbdaaGreatDoor
