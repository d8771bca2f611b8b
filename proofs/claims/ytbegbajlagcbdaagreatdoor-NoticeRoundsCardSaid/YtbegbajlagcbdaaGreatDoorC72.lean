/- Chapter 8 and what it rests on: definitions and walks, part 72. -/
import Derived.Test.YtbegbajlagcbdaaGreatDoorC28
import Derived.Test.YtbegbajlagcbdaaGreatDoorC11
import Derived.RangeFuncNested
import Derived.RangeFuncBound
import Derived.RangeFuncCalls
import Derived.RangeFuncLeaves
import Derived.RangeFuncBox
import Derived.Shelf.Abstract
import Derived.Shelf.RegionOpen
import Derived.OwnWalkIn
import Derived.TacticsInMore
import Derived.LoopNIn
import Derived.LoopIn
namespace Go.Proofs.YtbegbajlagcbdaaGreatDoor
open Go Go.RowKit
/-- The last visit up to a day. -/
def Cal.lastV (day : Int) : List Vis → Option Vis
  | [] => none
  | v :: l => match Cal.lastV day l with | some u => some u | none => if v.day ≤ day then some v else none
theorem Cal.lastV_cons (day : Int) (v : Vis) (l : List Vis) : Cal.lastV day (v :: l) = match Cal.lastV day l with | some u => some u | none => if v.day ≤ day then some v else none := rfl
theorem Cal.lastV_app (day : Int) (b : List Vis) : ∀ a : List Vis, Cal.lastV day (a ++ b) = match Cal.lastV day b with | some u => some u | none => Cal.lastV day a
  | [] => by cases h : Cal.lastV day b <;> simp [h, Cal.lastV]
  | v :: a => by
    rw [List.cons_append, Cal.lastV_cons, Cal.lastV_app day b a]
    cases h : Cal.lastV day b with
    | none => rfl
    | some u => rfl
theorem Cal.lastV_snoc (day : Int) (a : List Vis) (v : Vis) : Cal.lastV day (a ++ [v]) = if v.day ≤ day then some v else Cal.lastV day a := by
  rw [Cal.lastV_app]
  by_cases h : v.day ≤ day
  · rw [if_pos h]; simp [Cal.lastV, h]
  · rw [if_neg h]; simp [Cal.lastV, h]
def zeroVis : Vis := ⟨0, 0, 0, 0⟩
def lastOr (o : Option Vis) : Vis := o.getD zeroVis
structure LasI (w : World) (V : Option Addr) (d : Nat) (m : Mon) (u : Vis) (wr : World) : Prop where
  hb : Below w.heap.size w wr
  g1 : BoxAt wr w.heap.size [.string m.name, .string m.place, .slice V m.visits.length d]
  g4 : BoxAt wr (w.heap.size + 1) [.int .i64 0, .int .i64 0, .int .i64 0, .int .i64 0]
  g6 : BoxAt wr (w.heap.size + 1 + 1) [.int .i64 u.day, .int .i64 u.kind, .int .i64 u.tilt, .int .i64 u.push]
theorem start3l (w : World) (V : Option Addr) (d : Nat) (m : Mon) : LasI w V d m zeroVis (((w.alloc (.cells #[.string m.name, .string m.place, .slice V m.visits.length d] 31)).alloc (.cells #[.int .i64 0, .int .i64 0, .int .i64 0, .int .i64 0] 106)).alloc (.cells #[.int .i64 0, .int .i64 0, .int .i64 0, .int .i64 0] 106)) := by
  have h2 := (BoxAt.new (w.alloc (.cells #[.string m.name, .string m.place, .slice V m.visits.length d] 31)) #[.int .i64 0, .int .i64 0, .int .i64 0, .int .i64 0] 106).alloc (.cells #[.int .i64 0, .int .i64 0, .int .i64 0, .int .i64 0] 106)
  rw [World.size_alloc] at h2
  have h3 := BoxAt.new ((w.alloc (.cells #[.string m.name, .string m.place, .slice V m.visits.length d] 31)).alloc (.cells #[.int .i64 0, .int .i64 0, .int .i64 0, .int .i64 0] 106)) #[.int .i64 0, .int .i64 0, .int .i64 0, .int .i64 0] 106
  rw [World.size_alloc, World.size_alloc] at h3
  exact ⟨below_step (below_step (below_alloc _ _) (below_alloc _ _)) (below_alloc _ _), ((BoxAt.new w _ _).alloc _).alloc _, h2, h3⟩
def LastPost (w : World) (o : Option Vis) (e : Ending) (w' : World) : Prop := ∃ u, e = .returned (.tuple #[.agg #[.int .i64 u.day, .int .i64 u.kind, .int .i64 u.tilt, .int .i64 u.push], .bool o.isSome]) ∧ u = lastOr o ∧ Below w.heap.size w w'
set_option maxRecDepth 100000 in
set_option maxHeartbeats 4000000 in
theorem LastR_any (V : Option Addr) (d : Nat) (m : Mon) (day : Int) (w : World) (hM : MB w V m) :
    Calls Tryz.prog 112 #[.agg #[.string m.name, .string m.place, .slice V m.visits.length d], .int .i64 day] w (LastPost w (Cal.lastV day m.visits)) := by
  have hsz := hM.vis.size
  have hM := Lib.hid hM
  have hI := Lib.hid (start3l w V d m)
  go_enter Tryz.func112, Tryz.ntmps112
  go_wp2_with fail
  go_loopw [7, 8] (fun f i wr => ∃ (k : Nat) (o : Option Vis) (u : Vis) (q : Bool), k ≤ m.visits.length ∧ i = .int .i64 k ∧ f = .bool q ∧ Hid (q = o.isSome) ∧ Hid (u = lastOr o) ∧ Hid (Cal.lastV day (m.visits.take k) = o) ∧ Hid (LasI w V d m u wr)) (fun _ i _ => m.visits.length - (intOf i).toNat)
  case atStart => exact ⟨0, none, zeroVis, false, Nat.zero_le _, rfl, rfl, rfl, rfl, rfl, hI⟩
  case round =>
    clear hI
    obtain ⟨k, o, u, q, hk, rfl, rfl, hq, hu, ho, hI⟩ := hrel
    have c2 := hI.out.g1.c 2 _ rfl
    by_cases hlt : k < m.visits.length
    · have hk' : m.visits[k]? = some m.visits[k] := List.getElem?_eq_getElem hlt
      have ht := List.take_succ_eq_append_getElem hlt
      obtain ⟨b, a0, rfl, hbl, e0, e1, e2, e3⟩ := (hM.out.vis.below hI.out.hb).at_ hk'
      clear hk'
      have hne : b ≠ w.heap.size + 1 + 1 := by
        intro e
        obtain ⟨b', o', hA, hb', _⟩ := (hM.out.vis).at_ (List.getElem?_eq_getElem hlt)
        simp only [Option.some.injEq, Addr.mk.injEq, and_true] at hA
        obtain ⟨rfl, _⟩ := hA
        omega
      generalize m.visits[k] = v at *
      have hsn := Cal.lastV_snoc day (m.visits.take k) v
      rw [← ht] at hsn
      by_cases hd : v.day ≤ day
      · have hdb : decide (v.day ≤ day) = true := by simpa using hd
        rw [if_pos hd] at hsn
        have hsn := Lib.hid hsn
        clear hd ht
        go_wp2_with ((refine wpList_store_box rfl 106 (.tmp 6) (.tmp 28) rfl (w.heap.size + 1 + 1) _ [.int .i64 v.day, .int .i64 v.kind, .int .i64 v.tilt, .int .i64 v.push] (by rfl) (by rfl) hI.out.g6 rfl viSize (by kernel_rfl) ?_; intro w3 h3 hg3); have hI3 : Hid (LasI w _ d m v w3) := ⟨below_of_grownB hI.out.hb hg3 (by omega), hI.out.g1.grown hg3 (by first | (simp; done) | (simp; omega)), hI.out.g4.grown hg3 (by first | (simp; done) | (simp; omega)), h3⟩)
        go_roundw
        case rel => exact ⟨k + 1, some v, v, true, by omega, by go_num, rfl, rfl, rfl, hsn, hI3⟩
        case measure => simp [intOf]; omega
      · have hdb : decide (v.day ≤ day) = false := by simpa using hd
        rw [if_neg hd, ho.out] at hsn
        have hsn := Lib.hid hsn
        clear hd ht
        go_wp2_with fail
        go_roundw
        case rel => exact ⟨k + 1, o, u, q, by omega, by go_num, rfl, hq, hu, hsn, hI⟩
        case measure => simp [intOf]; omega
    · have hge : m.visits.length = k := by omega
      have hfin : Hid (Cal.lastV day m.visits = o) := by show _ = _; rw [← ho.out, List.take_of_length_le (by omega)]
      have x0 := hI.out.g6.c 0 _ rfl
      have x1 := hI.out.g6.c 1 _ rfl
      have x2 := hI.out.g6.c 2 _ rfl
      have x3 := hI.out.g6.c 3 _ rfl
      go_wp2_with ((refine wpList_store_box rfl 106 (.tmp 4) (.tmp 29) rfl (w.heap.size + 1) _ [.int .i64 u.day, .int .i64 u.kind, .int .i64 u.tilt, .int .i64 u.push] (by rfl) (by rfl) hI.out.g4 rfl viSize (by kernel_rfl) ?_; intro w3 h3 hg3); have hb3 := Lib.hid (below_of_grownB hI.out.hb hg3 (by omega)))
      (try simp only [Exit.inBlock, Exit.then])
      rw [hfin.out]
      refine bodyPost_ret (results_mid2 rfl _ _ (w.heap.size + 1) [.int .i64 u.day, .int .i64 u.kind, .int .i64 u.tilt, .int .i64 u.push] _ rfl h3.range Tryz.underlying106 rfl viSize) rfl ⟨u, by rw [← hq.out]; rfl, hu.out, hb3.out⟩
end Go.Proofs.YtbegbajlagcbdaaGreatDoor
namespace Go.Proofs.YtbegbajlagcbdaaGreatDoor
open Go Go.RowKit Go.Shelf
attribute [local go_sem] Oper.semAt_some
/-- What has come of the visits, from the last one on, when k rounds are over. -/
def revAt (vs : List Vis) (k : Nat) : Nat × Vis := (vs.length - 1 - k, vs[vs.length - 1 - k]?.getD zeroVis)
def revTo (vs : List Vis) (k : Nat) : List (Nat × Vis) := (List.range k).map (revAt vs)
theorem revTo_succ (vs : List Vis) (k : Nat) : revTo vs (k + 1) = revTo vs k ++ [revAt vs k] := by simp [revTo, List.range_succ]
theorem revTo_length (vs : List Vis) (k : Nat) : (revTo vs k).length = k := by simp [revTo]
theorem revTo_step {vs : List Vis} {q : Nat} {v : Vis} (hq : q < vs.length) (hv : vs[q]? = some v) : revTo vs (vs.length - q) = revTo vs (vs.length - (q + 1)) ++ [(q, v)] := by
  have h1 : vs.length - q = vs.length - (q + 1) + 1 := by omega
  have h2 : vs.length - 1 - (vs.length - (q + 1)) = q := by omega
  rw [h1, revTo_succ]
  unfold revAt
  rw [h2, hv]
  rfl
theorem lastV_tail {vs : List Vis} {day : Int} : ∀ k, k ≤ vs.length → (∀ x ∈ revTo vs k, ¬ x.2.day ≤ day) → Cal.lastV day (vs.drop (vs.length - k)) = none
  | 0, _, _ => by rw [Nat.sub_zero, List.drop_eq_nil_of_le (Nat.le_refl _)]; rfl
  | k + 1, hk, h => by
    rw [revTo_succ] at h
    have ih := lastV_tail k (by omega) (fun x hx => h x (List.mem_append_left _ hx))
    have hx := h (revAt vs k) (by simp)
    have hlt : vs.length - (k + 1) < vs.length := by omega
    rw [List.drop_eq_getElem_cons hlt, Cal.lastV_cons, show vs.length - (k + 1) + 1 = vs.length - k by omega, ih]
    have he : (revAt vs k).2 = vs[vs.length - (k + 1)] := by
      unfold revAt
      rw [show vs.length - 1 - k = vs.length - (k + 1) by omega, List.getElem?_eq_getElem hlt]
      rfl
    rw [he] at hx
    simp only
    rw [if_neg hx]
theorem lastV_hit {vs : List Vis} {day : Int} {k : Nat} (hk : k < vs.length) (h : ∀ x ∈ revTo vs k, ¬ x.2.day ≤ day) (hx : (revAt vs k).2.day ≤ day) : Cal.lastV day vs = some (revAt vs k).2 := by
  have ht := lastV_tail k (by omega) h
  have hlt : vs.length - (k + 1) < vs.length := by omega
  have he : (revAt vs k).2 = vs[vs.length - (k + 1)] := by
    unfold revAt
    rw [show vs.length - 1 - k = vs.length - (k + 1) by omega, List.getElem?_eq_getElem hlt]
    rfl
  rw [he] at hx ⊢
  have hsplit : vs = vs.take (vs.length - (k + 1)) ++ vs[vs.length - (k + 1)] :: vs.drop (vs.length - k) := by
    have := List.take_append_drop (vs.length - (k + 1)) vs
    rw [List.drop_eq_getElem_cons hlt, show vs.length - (k + 1) + 1 = vs.length - k by omega] at this
    exact this.symm
  generalize vs[vs.length - (k + 1)] = v at *
  rw [hsplit, Cal.lastV_app, Cal.lastV_cons, ht]
  simp only
  rw [if_pos hx]
theorem BoxAt.kept {W W' : World} {row : Option Nat} {B : Nat} {cs : List Value} (h : BoxAt W B cs) (hg : W.grownBy W' row) (hr : Others W row) : BoxAt W' B cs :=
  ⟨fun j v hv => cell_kept (h.range j v hv) hg hr, fun j hj => by
    obtain ⟨v, hv⟩ : ∃ v, cs[j]? = some v := ⟨_, List.getElem?_eq_getElem hj⟩
    have := h.range j v hv
    rw [Nat.zero_add] at this
    exact (frozen_kept this hg hr).trans (h.free j hj), Nat.lt_of_lt_of_le h.lt hg.size⟩
def BackPost (vs : List Vis) (J Jx : List (Nat × Vis) → World → Prop) (e : Ending) (W' : World) : Prop :=
  (∃ v, e = .returned v) ∧ ((∃ ys, ys = revTo vs vs.length ∧ J ys W') ∨ (∃ pre, (∃ k, k ≤ vs.length ∧ pre = revTo vs k) ∧ Jx pre W'))
set_option maxRecDepth 100000 in
set_option maxHeartbeats 4000000 in
theorem back1_in (n : Nat) (hn : 1 ≤ n) (l Bs n₀ : Nat) (V : Option Addr) (d : Nat) (vs : List Vis) (J Jx : List (Nat × Vis) → World → Prop)
    (hY : ∀ pre x W, J pre W → pre.length < vs.length → YieldAt Fence.wide (n - 1) Tryz.prog l #[.int .i64 (x.1 : Int), .agg #[.int .i64 x.2.day, .int .i64 x.2.kind, .int .i64 x.2.tilt, .int .i64 x.2.push]] W fun e W' =>
      (e = .returned (.bool true) ∧ J (pre ++ [x]) W' ∧ Below n₀ W W') ∨ (e = .returned (.bool false) ∧ Jx (pre ++ [x]) W'))
    (W : World) (hBs : W.cell? ⟨Bs, 0, none⟩ = some (.slice V vs.length d)) (hBn : Bs < n₀) (hV : Viss W V vs) (hVn : ∀ ad, V = some ad → 0 < vs.length → ad.block < n₀) (h0 : J [] W) :
    CallsIn Fence.wide n Tryz.prog 219 #[.func (.yield l) #[] #[], .pointer (some ⟨Bs, 0, none⟩)] W (BackPost vs J Jx) := by
  have hsz := hV.size
  refine callsIn_of_wp Tryz.func219 rfl trivial ?_ rfl
  simp only [Tryz.ntmps219, List.size_toArray, List.length_cons, List.length_nil, Nat.reduceAdd, Nat.reduceSub, Array.replicate_succ, Array.replicate_zero, List.push_toArray, List.append_toArray, List.nil_append, List.cons_append]
  have hV := Lib.hid hV
  have hYz := Lib.hid hY
  have hVn := Lib.hid hVn
  clear hY
  gi_wp2
  gi_loopw [3] (fun i wr => ∃ (j : Nat) (z : Int), j ≤ vs.length ∧ z = (j : Int) - 1 ∧ i = .int .i64 z ∧ J (revTo vs (vs.length - j)) wr ∧ Below n₀ W wr) (fun i _ => (intOf i + 1).toNat)
  case atStart => exact ⟨vs.length, _, Nat.le_refl _, rfl, rfl, by rw [Nat.sub_self]; exact h0, Below.refl _ _⟩
  case round =>
    obtain ⟨j, z, hj, hz, rfl, hJ, hb⟩ := hrel
    have hBs' := (hb.cell (p := ⟨Bs, 0, none⟩) hBn).trans hBs
    cases j with
    | zero =>
      obtain rfl : z = -1 := by omega
      have hJz := Lib.hid hJ
      clear hJ hz
      gi_wp2
      refine bodyPost_end (results_none rfl _ _ _) rfl ?_
      exact ⟨⟨_, rfl⟩, .inl ⟨_, rfl, hJz.out⟩⟩
    | succ q =>
      obtain rfl : z = (q : Int) := by omega
      have hlt : q < vs.length := by omega
      have hk' : vs[q]? = some vs[q] := List.getElem?_eq_getElem hlt
      have hst := Lib.hid (revTo_step hlt hk')
      obtain ⟨b, o, rfl, hbl, e0, e1, e2, e3⟩ := hV.out.at_ hk'
      have hbn : b < n₀ := hVn.out _ rfl (by omega)
      have e0 := (hb.cell (p := ⟨b, _, none⟩) hbn).trans e0
      have e1 := (hb.cell (p := ⟨b, _, none⟩) hbn).trans e1
      have e2 := (hb.cell (p := ⟨b, _, none⟩) hbn).trans e2
      have e3 := (hb.cell (p := ⟨b, _, none⟩) hbn).trans e3
      clear hk' hz hBs
      generalize vs[q] = v at *
      obtain ⟨fn, tmps, assign, body, hy, hR⟩ := hYz.out _ (q, v) wr hJ (by rw [revTo_length]; omega)
      dsimp only at hy
      have hbz := Lib.hid hb
      clear hb hJ
      gi_wp2
      refine hR.mono ?_
      clear hy hR
      rintro e w2 (⟨rfl, hJ2, hk2⟩ | ⟨rfl, hJx⟩)
      · have hall := Lib.hid (And.intro hJ2 hk2)
        clear hJ2 hk2
        gi_wp2
        go_roundw
        case rel => exact ⟨q, (q : Int) - 1, by omega, rfl, rfl, by rw [hst.out]; exact hall.out.1, hbz.out.trans hall.out.2⟩
        case measure => simp [intOf]
      · have hJx := Lib.hid hJx
        gi_wp2
        refine bodyPost_ret (results_none rfl _ _ _) rfl ?_
        exact ⟨⟨_, rfl⟩, .inr ⟨_, ⟨vs.length - q, by omega, hst.out.symm⟩, hJx.out⟩⟩
theorem backward_any (V : Option Addr) (k d : Nat) (w : World) :
    Calls Tryz.prog 163 #[.slice V k d] w fun e w' => e = .returned (.func (.func 219) #[] #[.pointer (some ⟨w.heap.size, 0, none⟩)]) ∧ w' = w.alloc (.cells #[.slice V k d] 29) := by
  go_enter Tryz.func163, Tryz.ntmps163
  go_wp2
  go_ret
  exact ⟨rfl, rfl⟩
end Go.Proofs.YtbegbajlagcbdaaGreatDoor
namespace Go.Proofs.YtbegbajlagcbdaaGreatDoor
open Go Go.RowKit Go.Shelf
attribute [local go_sem] Oper.semAt_some
theorem back_stops (n : Nat) (hn : 1 ≤ n) (Bs n₀ : Nat) (V : Option Addr) (d : Nat) (vs : List Vis) (w : World) (hBs : w.cell? ⟨Bs, 0, none⟩ = some (.slice V vs.length d)) (hBn : Bs < n₀) (hn₀ : n₀ ≤ w.heap.size) (hV : Viss w V vs) (hVn : ∀ ad, V = some ad → 0 < vs.length → ad.block < n₀) :
    SeqStopsK Fence.wide n Tryz.prog 219 #[.pointer (some ⟨Bs, 0, none⟩)] (fun x : Nat × Vis => #[.int .i64 (x.1 : Int), .agg #[.int .i64 x.2.day, .int .i64 x.2.kind, .int .i64 x.2.tilt, .int .i64 x.2.push]]) (Below n₀) (fun ys => ys = revTo vs vs.length) (fun pre => ∃ k, k ≤ vs.length ∧ pre = revTo vs k) vs.length w :=
  fun l J Jx W hW _ _ hY h0 => back1_in n hn l Bs n₀ V d vs J Jx hY W ((hW.cell (p := ⟨Bs, 0, none⟩) (Nat.lt_of_lt_of_le hBn hn₀)).trans hBs) hBn (hV.below hW) hVn h0
/-- Results: a wide cell, then a cell. -/
theorem results_midc {P : Program} {fn : Func} {t u : Tmp} {ty ty2 : TypeId} (h : fn.results = #[.cell t ty, .cell u ty2]) (tmps : Array Value) (w : World) (g : Nat) (cs : List Value) (d : TypeDesc)
    (hp : tmps.getD t undef = .pointer (some ⟨g, 0, none⟩)) (hc : w.rangeAt g 0 cs) (hu : P.underlying ty = some d) (hd : d.isRow = true) (hi : (P.info? ty).map (·.size) = some cs.length)
    (b : Addr) (v : Value) (hq : tmps.getD u undef = .pointer (some b)) (hv : (loadVar ty2 b).run P w = .ok v w) :
    (results fn tmps).run P w = .ok (.tuple #[.agg cs.toArray, v]) w := by
  have hp' : tmps[t]?.getD undef = .pointer (some ⟨g, 0, none⟩) := by simpa using hp
  have hq' : tmps[u]?.getD undef = .pointer (some b) := by simpa using hq
  simp [results, h, hp', hq', asAddr, run_loadVar_mid w g 0 ty cs d hc hu hd hi, hv]
def LvI (W0 : World) (day : Int) (pre : List (Nat × Vis)) (W : World) : Prop := (∀ x ∈ pre, day < x.2.day) ∧ Below W0.heap.size W0 W
def LvX (w : World) (day : Int) (c : Code) (pre : List (Nat × Vis)) (W : World) : Prop :=
  c = .ret ∧ (∃ u : Vis, (∃ pre' i, pre = pre' ++ [(i, u)] ∧ (∀ x ∈ pre', day < x.2.day) ∧ u.day ≤ day) ∧ BoxAt W (w.heap.size + 1 + 1) [.int .i64 u.day, .int .i64 u.kind, .int .i64 u.tilt, .int .i64 u.push] ∧ BoxAt W (w.heap.size + 1 + 1 + 1) [.bool true]) ∧ Below w.heap.size w W
theorem lvI_own (W0 : World) (day : Int) : OwnFrom W0.heap.size (LvI W0 day) := OwnFrom.and (ownFrom_pure _ _) (ownFrom_below (Nat.le_refl _) (Nat.le_refl _))
theorem lvX_own (w : World) (B : Nat) (hB : w.heap.size ≤ B) (day : Int) (c : Code) : OwnFrom B (LvX w day c) := fun pre X Y row hs hg hr => by
  obtain ⟨e, ⟨u, hu, b1, b2⟩, hb⟩ := hs
  exact ⟨e, ⟨u, hu, b1.kept hg (fun r e => (hr r e).2), b2.kept hg (fun r e => (hr r e).2)⟩, ownFrom_below (β := Unit) (Nat.le_refl _) hB () X Y row hb hg hr⟩
theorem BoxAt.far {w : World} {B B' : Nat} {cs : List Value} (h : BoxAt w B cs) (o : Nat) (v : Value) (hne : B ≠ B') : BoxAt (w.setCell ⟨B', o, none⟩ v) B cs := h.grown (grown_set w B' o v) (fun e => hne (by cases e; rfl))
theorem fr_putB {w W : World} (h : Below w.heap.size w W) {D : Nat} (hD : w.heap.size ≤ D) (o : Obj) : Below w.heap.size w (W.putObj D o) :=
  h.grown (grownBy_putObj' W D o) h.size (fun k e => by cases e; exact hD)
theorem five (w W : World) (u0 u1 u2 u3 ub v0 v1 v2 v3 vb : Value) (hr : BoxAt W (w.heap.size + 1 + 1) [u0, u1, u2, u3]) (hb : BoxAt W (w.heap.size + 1 + 1 + 1) [ub]) (hB : Below w.heap.size w W) (W' : World)
    (hW : ((((W.setCell ⟨w.heap.size + 1 + 1, 0, none⟩ (v0)).setCell ⟨w.heap.size + 1 + 1, 1, none⟩ (v1)).setCell ⟨w.heap.size + 1 + 1, 2, none⟩ (v2)).setCell ⟨w.heap.size + 1 + 1, 3, none⟩ (v3)).setCell ⟨w.heap.size + 1 + 1 + 1, 0, none⟩ (vb) = W') : BoxAt W' (w.heap.size + 1 + 1) [v0, v1, v2, v3] ∧ BoxAt W' (w.heap.size + 1 + 1 + 1) [vb] ∧ Below w.heap.size w W' ∧ KeepsOthers W W' := by
  rw [← hW]
  refine ⟨?_, ?_, ?_, ?_⟩
  · exact ((((hr.set 0 v0 (by decide : 0 < 4)).set 1 v1 (by decide : 1 < 4)).set 2 v2 (by decide : 2 < 4)).set 3 v3 (by decide : 3 < 4)).far 0 vb (by omega)
  · exact ((((hb.far 0 v0 (by omega)).far 1 v1 (by omega)).far 2 v2 (by omega)).far 3 v3 (by omega)).set 0 vb (by decide : 0 < 1)
  · exact ((((hB.setCell (p := ⟨w.heap.size + 1 + 1, 0, none⟩) (by simp; omega) _).setCell (p := ⟨w.heap.size + 1 + 1, 1, none⟩) (by simp; omega) _).setCell (p := ⟨w.heap.size + 1 + 1, 2, none⟩) (by simp; omega) _).setCell (p := ⟨w.heap.size + 1 + 1, 3, none⟩) (by simp; omega) _).setCell (p := ⟨w.heap.size + 1 + 1 + 1, 0, none⟩) (by simp; omega) _
  · exact ((((KeepsOthers.setCell _ _ _).trans (KeepsOthers.setCell _ _ _)).trans (KeepsOthers.setCell _ _ _)).trans (KeepsOthers.setCell _ _ _)).trans (KeepsOthers.setCell _ _ _)
theorem lastVisit_any (V : Option Addr) (d : Nat) (m : Mon) (day : Int) (w : World) (hM : MB w V m) :
    Calls Tryz.prog 107 #[.agg #[.string m.name, .string m.place, .slice V m.visits.length d], .int .i64 day] w (LastPost w (Cal.lastV day m.visits)) := by
  have hsz := hM.vis.size
  have hM := Lib.hid hM
  refine (callsIn_wide (n := 4)).1 ?_
  refine callsIn_of_wp_marks Tryz.func107 rfl trivial ?_ rfl
  simp only [Tryz.ntmps107, List.size_toArray, List.length_cons, List.length_nil, Nat.reduceAdd, Nat.reduceSub, Array.replicate_succ, Array.replicate_zero, List.push_toArray, List.append_toArray, List.nil_append, List.cons_append]
  gi_wp2_with (refine ⟨trivial, ?_⟩; gi_at_call 163; refine (callsIn_wide.2 (backward_any _ _ _ _)).mono ?_; rintro e w' ⟨rfl, rfl⟩)
  have bV := ((((BoxAt.new w #[.string m.name, .string m.place, .slice V m.visits.length d] 31).alloc (.cells #[.int .i64 day] 3)).alloc (.cells #[.int .i64 0, .int .i64 0, .int .i64 0, .int .i64 0] 106)).alloc (.cells #[.bool false] 4)).alloc (.cells #[.slice V m.visits.length d] 29)
  have bD := (((BoxAt.new (w.alloc (.cells #[.string m.name, .string m.place, .slice V m.visits.length d] 31)) #[.int .i64 day] 3).alloc (.cells #[.int .i64 0, .int .i64 0, .int .i64 0, .int .i64 0] 106)).alloc (.cells #[.bool false] 4)).alloc (.cells #[.slice V m.visits.length d] 29)
  have bR := ((BoxAt.new ((w.alloc (.cells #[.string m.name, .string m.place, .slice V m.visits.length d] 31)).alloc (.cells #[.int .i64 day] 3)) #[.int .i64 0, .int .i64 0, .int .i64 0, .int .i64 0] 106).alloc (.cells #[.bool false] 4)).alloc (.cells #[.slice V m.visits.length d] 29)
  have bB := (BoxAt.new (((w.alloc (.cells #[.string m.name, .string m.place, .slice V m.visits.length d] 31)).alloc (.cells #[.int .i64 day] 3)).alloc (.cells #[.int .i64 0, .int .i64 0, .int .i64 0, .int .i64 0] 106)) #[.bool false] 4).alloc (.cells #[.slice V m.visits.length d] 29)
  have bS := BoxAt.new ((((w.alloc (.cells #[.string m.name, .string m.place, .slice V m.visits.length d] 31)).alloc (.cells #[.int .i64 day] 3)).alloc (.cells #[.int .i64 0, .int .i64 0, .int .i64 0, .int .i64 0] 106)).alloc (.cells #[.bool false] 4)) #[.slice V m.visits.length d] 29
  have hB0 : Below w.heap.size w (((((w.alloc (.cells #[.string m.name, .string m.place, .slice V m.visits.length d] 31)).alloc (.cells #[.int .i64 day] 3)).alloc (.cells #[.int .i64 0, .int .i64 0, .int .i64 0, .int .i64 0] 106)).alloc (.cells #[.bool false] 4)).alloc (.cells #[.slice V m.visits.length d] 29)) := below_step (below_step (below_step (below_step (below_alloc _ _) (below_alloc _ _)) (below_alloc _ _)) (below_alloc _ _)) (below_alloc _ _)
  have hs0 : (((((w.alloc (.cells #[.string m.name, .string m.place, .slice V m.visits.length d] 31)).alloc (.cells #[.int .i64 day] 3)).alloc (.cells #[.int .i64 0, .int .i64 0, .int .i64 0, .int .i64 0] 106)).alloc (.cells #[.bool false] 4)).alloc (.cells #[.slice V m.visits.length d] 29)).heap.size = w.heap.size + 5 := by simp
  simp only [World.size_alloc] at bD bR bB bS
  obtain ⟨W0, hW0⟩ : ∃ W0, ((((w.alloc (.cells #[.string m.name, .string m.place, .slice V m.visits.length d] 31)).alloc (.cells #[.int .i64 day] 3)).alloc (.cells #[.int .i64 0, .int .i64 0, .int .i64 0, .int .i64 0] 106)).alloc (.cells #[.bool false] 4)).alloc (.cells #[.slice V m.visits.length d] 29) = W0 := ⟨_, rfl⟩
  rw [hW0] at bV bD bR bB bS hB0 hs0 ⊢
  clear hW0
  have hVi := hM.out.vis.below hB0
  have hVn : ∀ ad, V = some ad → 0 < m.visits.length → ad.block < W0.heap.size := by
    intro ad e h
    obtain ⟨b, o, hA, hb, _⟩ := hM.out.vis.at_ (List.getElem?_eq_getElem h)
    rw [e] at hA
    cases hA
    exact Nat.lt_of_lt_of_le hb hB0.size
  refine wpIn_rangeFunc_ownH rfl (by omega) (gf := 219) (lb := #[.pointer (some ⟨w.heap.size + 1 + 1 + 1 + 1, 0, none⟩)]) rfl trivial (enters_of Tryz.func219 (by kernel_rfl) rfl)
    (back_stops 3 (by omega) (w.heap.size + 1 + 1 + 1 + 1) W0.heap.size V d m.visits W0 (bS.c 0 _ rfl) (by omega) (Nat.le_refl _) hVi hVn) belowK_t (belowK_b (Nat.le_refl _)) (Below.refl _ _) (fun _ => rfl)
    (LvI W0 day) (LvX w day) (lvI_own W0 day) (lvX_own w _ hB0.size day)
    ⟨fun x hx => by (cases hx), Below.refl _ _⟩
    (fun x a' W => ∃ Bx, W0.heap.size ≤ Bx ∧ BoxAt W Bx [.int .i64 x.2.day, .int .i64 x.2.kind, .int .i64 x.2.tilt, .int .i64 x.2.push] ∧ a' = { tmps := #[.agg #[.string m.name, .string m.place, .slice V m.visits.length d], .int .i64 day, .pointer (some ⟨w.heap.size, 0, none⟩), .pointer (some ⟨w.heap.size + 1, 0, none⟩), .pointer (some ⟨w.heap.size + 1 + 1, 0, none⟩), .pointer (some ⟨w.heap.size + 1 + 1 + 1, 0, none⟩), undef, .pointer (some ⟨Bx, 0, none⟩), .pointer (some ⟨w.heap.size, 2, none⟩), .slice V m.visits.length d, .func (.func 219) #[] #[.pointer (some ⟨w.heap.size + 1 + 1 + 1 + 1, 0, none⟩)], .int .i64 (x.1 : Int), .agg #[.int .i64 x.2.day, .int .i64 x.2.kind, .int .i64 x.2.tilt, .int .i64 x.2.push], undef, undef, undef, undef, undef, undef], defers := [] })
    (fun x a' _ X Y row hs hg hr => by obtain ⟨Bx, e1, e2, e3⟩ := hs; exact ⟨Bx, e1, e2.kept hg (fun r e => (hr r e).2), e3⟩)
    ?assign ?body ?done ?stop
  case assign =>
    rintro l pre x W K ⟨hp, hb⟩ hK
    gi_wp2
    exact hK _ _ ((KeepsOthers.alloc _ _).from _) ((Below.refl _ W).alloc hb.size _) ⟨hp, hb.alloc hb.size _⟩ ⟨W.heap.size, hb.size, BoxAt.new W #[.int .i64 x.2.day, .int .i64 x.2.kind, .int .i64 x.2.tilt, .int .i64 x.2.push] _, rfl⟩
  case body =>
    rintro l pre x a' W hl ⟨r, hr⟩ ⟨hp, hb⟩ ⟨Bx, hBx, bX, rfl⟩ hlt
    have c0 := bX.c 0 _ rfl
    have c1 := bX.c 1 _ rfl
    have c2 := bX.c 2 _ rfl
    have c3 := bX.c 3 _ rfl
    have cd := (bD.below hb).c 0 _ rfl
    have bR1 := bR.below hb
    have f0 := bR1.free 0 (by decide)
    have f1 := bR1.free 1 (by decide)
    have f2 := bR1.free 2 (by decide)
    have f3 := bR1.free 3 (by decide)
    have bB1 := bB.below hb
    have fb := bB1.free 0 (by decide)
    have r0 := bR1.c 0 _ rfl
    have r1 := bR1.c 1 _ rfl
    have r2 := bR1.c 2 _ rfl
    have r3 := bR1.c 3 _ rfl
    have rb := bB1.c 0 _ rfl
    obtain ⟨i, v⟩ := x
    dsimp only at c0 c1 c2 c3
    by_cases hd : v.day ≤ day
    · have hdb : decide (v.day ≤ day) = true := by simpa using hd
      have hAll := Lib.hid (And.intro hp (And.intro hb (And.intro hd (And.intro bR1 bB1))))
      clear hp hb hd bR1 bB1
      gi_wp2
      obtain ⟨hp, hb, hd, bR1, bB1⟩ := hAll.out
      obtain ⟨q1, q2, q3, q4⟩ := five w W _ _ _ _ _ (.int .i64 v.day) (.int .i64 v.kind) (.int .i64 v.tilt) (.int .i64 v.push) (.bool true) bR1 bB1 (hB0.trans (hb.mono hB0.size)) _ rfl
      exact ⟨q4.from _, rfl, ⟨v, ⟨pre, i, rfl, hp, hd⟩, q1, q2⟩, q3⟩
    · have hdb : decide (v.day ≤ day) = false := by simpa using hd
      have hd := Int.not_le.1 hd
      have hAll := Lib.hid (And.intro hp (And.intro hb hd))
      clear hp hb hd bR1 bB1
      gi_wp2
      obtain ⟨hp, hb, hd⟩ := hAll.out
      exact ⟨KeepsFrom.refl _ _, Below.refl _ _, fun x hx => (List.mem_append.1 hx).elim (hp x) (fun e => by obtain rfl := List.mem_singleton.1 e; exact hd), hb⟩
  case done =>
    rintro D ys W hD rfl ⟨hp, hb⟩ hK
    have bR1 := bR.below hb
    have f0 := bR1.free 0 (by decide)
    have f1 := bR1.free 1 (by decide)
    have f2 := bR1.free 2 (by decide)
    have f3 := bR1.free 3 (by decide)
    have bB1 := bB.below hb
    have fb := bB1.free 0 (by decide)
    have r0 := bR1.c 0 _ rfl
    have r1 := bR1.c 1 _ rfl
    have r2 := bR1.c 2 _ rfl
    have r3 := bR1.c 3 _ rfl
    have rb := bB1.c 0 _ rfl
    have hAll := Lib.hid (And.intro hp (And.intro hb (And.intro bR1 bB1)))
    clear hp hb bR1 bB1
    gi_wp2
    obtain ⟨hp, hb, bR1, bB1⟩ := hAll.out
    clear f0 f1 f2 f3 fb r0 r1 r2 r3 rb
    obtain ⟨W2, hW2⟩ : ∃ W2, ((((W.setCell ⟨w.heap.size + 1 + 1, 0, none⟩ (.int .i64 0)).setCell ⟨w.heap.size + 1 + 1, 1, none⟩ (.int .i64 0)).setCell ⟨w.heap.size + 1 + 1, 2, none⟩ (.int .i64 0)).setCell ⟨w.heap.size + 1 + 1, 3, none⟩ (.int .i64 0)).setCell ⟨w.heap.size + 1 + 1 + 1, 0, none⟩ (.bool false) = W2 := ⟨_, rfl⟩
    obtain ⟨q1, q2, q3, q4⟩ := five w W _ _ _ _ _ _ _ _ _ _ bR1 bB1 (hB0.trans (hb.mono hB0.size)) _ hW2
    rw [hW2]
    have hK' := q4.same D _ hK rfl
    have ho' : Others W2 (some D) := fun r e => by cases e; exact ⟨_, hK', rfl⟩
    refine ⟨by simp, .inl ⟨_, _, rfl, run_takeDeferred hK', ?_⟩⟩
    have q5 := (q2.kept (grownBy_putObj' W2 D (.deferred none)) ho').c 0 _ rfl
    refine ⟨.tuple #[.agg #[.int .i64 0, .int .i64 0, .int .i64 0, .int .i64 0], .bool false], results_midc rfl _ _ (w.heap.size + 1 + 1) [.int .i64 0, .int .i64 0, .int .i64 0, .int .i64 0] _ rfl (q1.kept (grownBy_putObj' W2 D (.deferred none)) ho').range Tryz.underlying106 rfl viSize ⟨w.heap.size + 1 + 1 + 1, 0, none⟩ (.bool false) rfl (by simp [loadVar, go_sem, q5]), zeroVis, ?_, ?_, ?_⟩
    · have hl := lastV_tail m.visits.length (Nat.le_refl _) (fun x hx => Int.not_le.2 (hp x hx))
      rw [Nat.sub_self, List.drop_zero] at hl
      rw [hl]; rfl
    · have hl := lastV_tail m.visits.length (Nat.le_refl _) (fun x hx => Int.not_le.2 (hp x hx))
      rw [Nat.sub_self, List.drop_zero] at hl
      rw [hl]; rfl
    · exact fr_putB q3 (by omega) _
  case stop =>
    rintro D c pre W hD hpre ⟨rfl, ⟨u, hu, b1, b2⟩, hb⟩ hK
    have hAll := Lib.hid (And.intro hu (And.intro b1 (And.intro b2 hb)))
    clear hu b1 b2 hb
    gi_wp2
    obtain ⟨hu, b1, b2, hb⟩ := hAll.out
    have ho' : Others W (some D) := fun r e => by cases e; exact ⟨_, hK, rfl⟩
    refine ⟨by simp, .inl ⟨_, _, rfl, run_takeDeferred hK, ?_⟩⟩
    have q5 := (b2.kept (grownBy_putObj' W D (.deferred none)) ho').c 0 _ rfl
    obtain ⟨pre', i, e, hp, hd⟩ := hu
    obtain ⟨k, hk, hpre⟩ := hpre
    rw [e] at hpre
    have hl : Cal.lastV day m.visits = some u := by
      cases k with
      | zero => simp [revTo] at hpre
      | succ k =>
        rw [revTo_succ] at hpre
        obtain ⟨h1, h2⟩ := List.append_inj' hpre rfl
        have h3 := List.singleton_inj.1 h2
        have h4 : (revAt m.visits k).2 = u := by rw [← h3]
        rw [← h4]
        exact lastV_hit (by omega) (by rw [← h1]; exact fun x hx => Int.not_le.2 (hp x hx)) (by rw [h4]; exact hd)
    refine ⟨.tuple #[.agg #[.int .i64 u.day, .int .i64 u.kind, .int .i64 u.tilt, .int .i64 u.push], .bool true], results_midc rfl _ _ (w.heap.size + 1 + 1) [.int .i64 u.day, .int .i64 u.kind, .int .i64 u.tilt, .int .i64 u.push] _ rfl (b1.kept (grownBy_putObj' W D (.deferred none)) ho').range Tryz.underlying106 rfl viSize ⟨w.heap.size + 1 + 1 + 1, 0, none⟩ (.bool true) rfl (by simp [loadVar, go_sem, q5]), u, ?_, ?_, ?_⟩
    · rw [hl]; rfl
    · rw [hl]; rfl
    · exact fr_putB hb (by omega) _
end Go.Proofs.YtbegbajlagcbdaaGreatDoor
namespace Go.Proofs.YtbegbajlagcbdaaGreatDoor
open Go Go.RowKit
/-- The error of a grading, a monument and a day, ahead of all. -/
def Cal.byErr0 (g : Grad) (m : Mon) (day : Int) : Int := if Cal.gradErr g = 0 then (if Cal.monErr m = 0 then (if 0 ≤ day ∧ day ≤ 200000 then 0 else 2) else Cal.monErr m) else Cal.gradErr g
def Cal.byErr (g : Grad) (m : Mon) (day : Int) : Int := if Cal.byErr0 g m day = 0 then (if (Cal.lastV day m.visits).isSome = true then 0 else 6) else Cal.byErr0 g m day
theorem Cal.by_bad {g : Grad} {m : Mon} {day E : Int} (h : Cal.byErr0 g m day = E) (he : E ≠ 0) : Cal.byErr g m day = E := by unfold Cal.byErr; rw [if_neg (by rw [h]; exact he), h]
/-- A grading that is loaded whole. -/
theorem wpGrd {ops : Array Oper} {rest : List Oper} {op : Oper} {a : Act} {w : World} {Q : Exit → Act → World → Prop} {B : Nat} {g : Grad} (h : BoxAt w B [.int .i64 g.t0, .int .i64 g.t1, .int .i64 g.t2, .int .i64 g.p0, .int .i64 g.p1, .int .i64 g.p2, .int .i64 g.m0, .int .i64 g.m1, .int .i64 g.m2, .int .i64 g.m3]) (x : Operand) (hx : a.eval x = .pointer (some ⟨B, 0, none⟩))
    (k : wpList Tryz.prog ops Q rest (a.put op.dst (.agg #[.int .i64 g.t0, .int .i64 g.t1, .int .i64 g.t2, .int .i64 g.p0, .int .i64 g.p1, .int .i64 g.p2, .int .i64 g.m0, .int .i64 g.m1, .int .i64 g.m2, .int .i64 g.m3])) w) (ho : op.op = .load 25 x := by exact rfl) (hw : Region.wanted op (yielded ops a.tmps) = true := by kernel_rfl) : wpList Tryz.prog ops Q (op :: rest) a w :=
  BigFrame.wpList_want hw fun _ hK => wp_load_mid 25 x ho B 0 hx [.int .i64 g.t0, .int .i64 g.t1, .int .i64 g.t2, .int .i64 g.p0, .int .i64 g.p1, .int .i64 g.p2, .int .i64 g.m0, .int .i64 g.m1, .int .i64 g.m2, .int .i64 g.m3] _ h.range Tryz.underlying25 rfl grSize (hK _ _ k)
structure VB3 (w : World) (g : Grad) (V : Option Addr) (d : Nat) (m : Mon) (wr : World) : Prop where
  hb : Below w.heap.size w wr
  g1 : BoxAt wr w.heap.size [.int .i64 g.t0, .int .i64 g.t1, .int .i64 g.t2, .int .i64 g.p0, .int .i64 g.p1, .int .i64 g.p2, .int .i64 g.m0, .int .i64 g.m1, .int .i64 g.m2, .int .i64 g.m3]
  g2 : BoxAt wr (w.heap.size + 1) [.string m.name, .string m.place, .slice V m.visits.length d]
  g3 : BoxAt wr (w.heap.size + 1 + 1) [.int .i64 0, .int .i64 0, .int .i64 0, .int .i64 0]
  mb : MB wr V m
theorem VB3.step {w : World} {g : Grad} {V : Option Addr} {d : Nat} {m : Mon} {wr w' : World} (h : VB3 w g V d m wr) (hb : Below wr.heap.size wr w') : VB3 w g V d m w' :=
  ⟨below_step h.hb hb, h.g1.below hb, h.g2.below hb, h.g3.below hb, h.mb.below hb⟩
theorem start3v (w : World) (g : Grad) (V : Option Addr) (d : Nat) (m : Mon) (hM : MB w V m) : VB3 w g V d m (((w.alloc (.cells #[.int .i64 g.t0, .int .i64 g.t1, .int .i64 g.t2, .int .i64 g.p0, .int .i64 g.p1, .int .i64 g.p2, .int .i64 g.m0, .int .i64 g.m1, .int .i64 g.m2, .int .i64 g.m3] 25)).alloc (.cells #[.string m.name, .string m.place, .slice V m.visits.length d] 31)).alloc (.cells #[.int .i64 0, .int .i64 0, .int .i64 0, .int .i64 0] 106)) := by
  have h2 := (BoxAt.new (w.alloc (.cells #[.int .i64 g.t0, .int .i64 g.t1, .int .i64 g.t2, .int .i64 g.p0, .int .i64 g.p1, .int .i64 g.p2, .int .i64 g.m0, .int .i64 g.m1, .int .i64 g.m2, .int .i64 g.m3] 25)) #[.string m.name, .string m.place, .slice V m.visits.length d] 31).alloc (.cells #[.int .i64 0, .int .i64 0, .int .i64 0, .int .i64 0] 106)
  rw [World.size_alloc] at h2
  have h3 := BoxAt.new ((w.alloc (.cells #[.int .i64 g.t0, .int .i64 g.t1, .int .i64 g.t2, .int .i64 g.p0, .int .i64 g.p1, .int .i64 g.p2, .int .i64 g.m0, .int .i64 g.m1, .int .i64 g.m2, .int .i64 g.m3] 25)).alloc (.cells #[.string m.name, .string m.place, .slice V m.visits.length d] 31)) #[.int .i64 0, .int .i64 0, .int .i64 0, .int .i64 0] 106
  rw [World.size_alloc, World.size_alloc] at h3
  have hb : Below w.heap.size w (((w.alloc (.cells #[.int .i64 g.t0, .int .i64 g.t1, .int .i64 g.t2, .int .i64 g.p0, .int .i64 g.p1, .int .i64 g.p2, .int .i64 g.m0, .int .i64 g.m1, .int .i64 g.m2, .int .i64 g.m3] 25)).alloc (.cells #[.string m.name, .string m.place, .slice V m.visits.length d] 31)).alloc (.cells #[.int .i64 0, .int .i64 0, .int .i64 0, .int .i64 0] 106)) := below_step (below_step (below_alloc _ _) (below_alloc _ _)) (below_alloc _ _)
  exact ⟨hb, ((BoxAt.new w _ _).alloc _).alloc _, h2, h3, hM.below hb⟩
def VbPost (w : World) (g : Grad) (m : Mon) (day : Int) (e : Ending) (w' : World) : Prop :=
  ∃ u : Vis, e = .returned (.tuple #[.agg #[.int .i64 u.day, .int .i64 u.kind, .int .i64 u.tilt, .int .i64 u.push], .int .i64 (Cal.byErr g m day)]) ∧ (Cal.byErr g m day = 0 → Cal.lastV day m.visits = some u) ∧ Below w.heap.size w w'
end Go.Proofs.YtbegbajlagcbdaaGreatDoor
