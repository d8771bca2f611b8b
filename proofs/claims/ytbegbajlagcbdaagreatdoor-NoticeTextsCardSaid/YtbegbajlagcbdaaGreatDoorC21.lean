/- Chapter 8 and what it rests on: definitions and walks, part 21. -/
import Derived.Test.YtbegbajlagcbdaaGreatDoorC20
namespace Go.Proofs.YtbegbajlagcbdaaGreatDoor
open Go Go.RowKit
theorem below_grown {w w' : World} (h : Below w.heap.size w w') (row : Option Nat) : w.grownBy w' row := ⟨h.os, h.tape, h.output, h.size, fun i hi _ => h.block i hi⟩
theorem grown_set (w : World) (B o : Nat) (u : Value) : w.grownBy (w.setCell ⟨B, o, none⟩ u) (some B) :=
  ⟨by simp [World.setCell], by simp [World.setCell], by simp [World.setCell], by simp, fun k _ hne => Below.heap_setCell w _ u k (fun e => hne (by rw [e]))⟩
theorem grown_drewN (w : World) (n : Nat) (row : Option Nat) : w.grownBy (w.drewN n) row := ⟨rfl, rfl, rfl, Nat.le_refl _, fun _ _ _ => rfl⟩
/-- A boxed state that may be written. -/
structure StW (w : World) (B : Nat) (A : Option Addr) (c : Nat) (p : Proc) (s : NSt) : Prop where
  at_ : StAt w B A c p s
  free : ∀ j, j < 18 → w.frozen? ⟨B, j, none⟩ = false
theorem StW.below {w w' : World} {B : Nat} {A : Option Addr} {c : Nat} {p : Proc} {s : NSt} (h : StW w B A c p s) (hb : Below w.heap.size w w') : StW w' B A c p s :=
  ⟨h.at_.below hb, fun j hj => (hb.frozen (p := ⟨B, j, none⟩) h.at_.lt).trans (h.free j hj)⟩
theorem StAt.grown {w w' : World} {row : Option Nat} {B : Nat} {A : Option Addr} {c : Nat} {p : Proc} {s : NSt} (h : StAt w B A c p s) (hg : w.grownBy w' row) (hne : some B ≠ row) : StAt w' B A c p s :=
  ⟨fun j v hv => (World.cell?_of_block (a := ⟨B, 0 + j, none⟩) (hg.block B h.lt hne)).trans (h.range j v hv), Nat.lt_of_lt_of_le h.lt hg.size⟩
theorem StW.grown {w w' : World} {row : Option Nat} {B : Nat} {A : Option Addr} {c : Nat} {p : Proc} {s : NSt} (h : StW w B A c p s) (hg : w.grownBy w' row) (hne : some B ≠ row) : StW w' B A c p s :=
  ⟨h.at_.grown hg hne, fun j hj => (World.frozen?_of_block (a := ⟨B, j, none⟩) (hg.block B h.at_.lt hne)).trans (h.free j hj)⟩
theorem StW.set {w : World} {B : Nat} {A : Option Addr} {c : Nat} {p : Proc} {s : NSt} (h : StW w B A c p s) (j : Nat) (v : Value) (s' : NSt) (hcs : ([.int .i64 p.runs.m, .int .i64 p.runs.d, .bool p.runs.k, .int .i64 p.obj.m, .int .i64 p.obj.d, .bool p.obj.k, .int .i64 p.wait.m, .int .i64 p.wait.d, .bool p.wait.k, .int .i64 p.exts, .int .i64 p.longest, .slice A p.hols.length c, .int .i64 s.phase, .int .i64 s.last, .int .i64 s.deadline, .int .i64 s.object, .int .i64 s.objected, .int .i64 s.extended] : List Value).set j v = [.int .i64 p.runs.m, .int .i64 p.runs.d, .bool p.runs.k, .int .i64 p.obj.m, .int .i64 p.obj.d, .bool p.obj.k, .int .i64 p.wait.m, .int .i64 p.wait.d, .bool p.wait.k, .int .i64 p.exts, .int .i64 p.longest, .slice A p.hols.length c, .int .i64 s'.phase, .int .i64 s'.last, .int .i64 s'.deadline, .int .i64 s'.object, .int .i64 s'.objected, .int .i64 s'.extended]) (hj : j < 18) : StW (w.setCell ⟨B, j, none⟩ v) B A c p s' := by
  refine ⟨⟨fun k u hu => ?_, by rw [World.size_setCell]; exact h.at_.lt⟩, fun k hk => by rw [World.frozen?_setCell]; exact h.free k hk⟩
  rw [← hcs] at hu
  rw [Nat.zero_add]
  by_cases e : j = k
  · subst e
    rw [List.getElem?_set_self (by simpa using hj)] at hu
    cases hu
    obtain ⟨x, hx⟩ : ∃ x, ([.int .i64 p.runs.m, .int .i64 p.runs.d, .bool p.runs.k, .int .i64 p.obj.m, .int .i64 p.obj.d, .bool p.obj.k, .int .i64 p.wait.m, .int .i64 p.wait.d, .bool p.wait.k, .int .i64 p.exts, .int .i64 p.longest, .slice A p.hols.length c, .int .i64 s.phase, .int .i64 s.last, .int .i64 s.deadline, .int .i64 s.object, .int .i64 s.objected, .int .i64 s.extended] : List Value)[j]? = some x := ⟨_, List.getElem?_eq_getElem (by simpa using hj)⟩
    have := h.at_.range j x hx
    rw [Nat.zero_add] at this
    exact World.cell?_setCell_same _ _ _ this
  · rw [List.getElem?_set_ne e] at hu
    have := h.at_.range k u hu
    rw [Nat.zero_add] at this
    rw [World.cell?_setCell_other _ _ _ _ (fun x => e (by injection x))]
    exact this
theorem StW.new (w : World) (A : Option Addr) (c : Nat) (p : Proc) (s : NSt) (t : TypeId) : StW (w.alloc (.cells #[.int .i64 p.runs.m, .int .i64 p.runs.d, .bool p.runs.k, .int .i64 p.obj.m, .int .i64 p.obj.d, .bool p.obj.k, .int .i64 p.wait.m, .int .i64 p.wait.d, .bool p.wait.k, .int .i64 p.exts, .int .i64 p.longest, .slice A p.hols.length c, .int .i64 s.phase, .int .i64 s.last, .int .i64 s.deadline, .int .i64 s.object, .int .i64 s.objected, .int .i64 s.extended] t)) w.heap.size A c p s :=
  ⟨StAt.new w A c p s t, fun j hj => by unfold World.frozen?; rw [World.alloc_heap_new]; simp⟩
theorem below_of_grownB {w0 w w' : World} {B : Nat} (h : Below w0.heap.size w0 w) (hg : w.grownBy w' (some B)) (hB : w0.heap.size ≤ B) : Below w0.heap.size w0 w' := h.grown hg h.size (fun k e => by cases e; exact hB)
/-- What begin leaves: the error, the state, the rest as it was. -/
def BegPost (w : World) (B : Nat) (A : Option Addr) (c : Nat) (p : Proc) (s' : NSt) (E : Int) (e : Ending) (w' : World) : Prop := e = .returned (.int .i64 E) ∧ StW w' B A c p s' ∧ w.grownBy w' (some B)
/-- What the walk of begin asks of the two deadlines. -/
def DlCalls (w0 : World) (A : Option Addr) (c n : Nat) (day m d : Int) (k : Bool) (x e : Int) : Prop :=
  ∀ w, Below w0.heap.size w0 w → Calls Tryz.prog 217 #[.slice A n c, .int .i64 day, .agg #[.int .i64 m, .int .i64 d, .bool k]] w fun en w' => en = .returned (.tuple #[.int .i64 x, .int .i64 e]) ∧ Below w.heap.size w w'
set_option maxRecDepth 100000 in
set_option maxHeartbeats 4000000 in
theorem begin_ok (A : Option Addr) (c : Nat) (p : Proc) (s : NSt) (day : Int) (B : Nat) (w0 w : World) (hb : Below w0.heap.size w0 w) (hB : w0.heap.size ≤ B) (hS : StW w B A c p s)
    (x1 x2 : Int) (h1 : DlCalls w0 A c p.hols.length day p.runs.m p.runs.d p.runs.k x1 0) (h2 : DlCalls w0 A c p.hols.length day p.obj.m p.obj.d p.obj.k x2 0) :
    Calls Tryz.prog 229 #[.pointer (some ⟨B, 0, none⟩), .int .i64 day] w (BegPost w B A c p { s with phase := 1, deadline := x1, object := x2 } 0) := by
  have hS := Lib.hid hS
  have hb := Lib.hid hb
  have h1 := Lib.hid h1
  have h2 := Lib.hid h2
  have hS1 := Lib.hid (hS.out.set 12 (.int .i64 1) { s with phase := 1 } rfl (by omega))
  have hg1 := Lib.hid (grown_set w B 12 (.int .i64 1))
  have c12 := hS.out.at_.c12
  have f12 := hS.out.free 12 (by omega)
  go_enter Tryz.func229, Tryz.ntmps229
  go_wp2_with fail
  generalize w.setCell ⟨B, 12, none⟩ (.int .i64 1) = w1 at hS1 hg1 ⊢
  clear c12 f12
  have d0 := hS1.out.at_.range 0 _ rfl
  have d1 := hS1.out.at_.range 1 _ rfl
  have d2 := hS1.out.at_.range 2 _ rfl
  rw [Nat.zero_add] at d0 d1 d2
  have d11 := hS1.out.at_.c11
  refine wp_region_held_drew (S := (fun w' => w'.cell? ⟨B, 0, none⟩ = some (.int .i64 p.runs.m) ∧ w'.cell? ⟨B, 1, none⟩ = some (.int .i64 p.runs.d) ∧ w'.cell? ⟨B, 2, none⟩ = some (.bool p.runs.k) ∧ w'.cell? ⟨B, 11, none⟩ = some (.slice A p.hols.length c))) (by kernel_rfl) ⟨d0, d1, d2, d11⟩ (fun hHeld => ?_)
  clear d0 d1 d2 d11
  (refine tkH 0 (v := ?_) ?_ ?_; rotate_left; focus (intro w' hSw; (try dsimp only at hSw); go_simp; (try with_reducible rfl)); (try simp only [Act.put, List.setIfInBounds_toArray, List.set_cons_zero, List.set_cons_succ]))
  (refine tkH 1 (v := ?_) ?_ ?_; rotate_left; focus (intro w' hSw; (try dsimp only at hSw); go_simp; (try with_reducible rfl)); (try simp only [Act.put, List.setIfInBounds_toArray, List.set_cons_zero, List.set_cons_succ]))
  (refine tkH 2 (v := ?_) ?_ ?_; rotate_left; focus (intro w' hSw; (try dsimp only at hSw); go_simp; (try with_reducible rfl)); (try simp only [Act.put, List.setIfInBounds_toArray, List.set_cons_zero, List.set_cons_succ]))
  (refine tkH 3 (v := ?_) ?_ ?_; rotate_left; focus (intro w' hSw; (try dsimp only at hSw); go_simp; (try with_reducible rfl)); (try simp only [Act.put, List.setIfInBounds_toArray, List.set_cons_zero, List.set_cons_succ]))
  (refine tkH 4 (v := ?_) ?_ ?_; rotate_left; focus (intro w' hSw; (try dsimp only at hSw); go_simp; (try with_reducible rfl)); (try simp only [Act.put, List.setIfInBounds_toArray, List.set_cons_zero, List.set_cons_succ]))
  (refine tkH 5 (v := ?_) ?_ ?_; rotate_left; focus (intro w' hSw; (try dsimp only at hSw); go_simp; (try with_reducible rfl)); (try simp only [Act.put, List.setIfInBounds_toArray, List.set_cons_zero, List.set_cons_succ]))
  (refine tkH 6 (v := ?_) ?_ ?_; rotate_left; focus (intro w' hSw; (try dsimp only at hSw); go_simp; (try with_reducible rfl)); (try simp only [Act.put, List.setIfInBounds_toArray, List.set_cons_zero, List.set_cons_succ]))
  (refine tkH 7 (v := ?_) ?_ ?_; rotate_left; focus (intro w' hSw; (try dsimp only at hSw); go_simp; (try with_reducible rfl)); (try simp only [Act.put, List.setIfInBounds_toArray, List.set_cons_zero, List.set_cons_succ]))
  (refine tkH 8 (v := ?_) ?_ ?_; rotate_left; focus (intro w' hSw; (try dsimp only at hSw); go_simp; (try with_reducible rfl)); (try simp only [Act.put, List.setIfInBounds_toArray, List.set_cons_zero, List.set_cons_succ]))
  (refine tkH 9 (v := ?_) ?_ ?_; rotate_left; focus (intro w' hSw; (try dsimp only at hSw); go_simp; (try with_reducible rfl)); (try simp only [Act.put, List.setIfInBounds_toArray, List.set_cons_zero, List.set_cons_succ]))
  (refine tkH 10 (v := ?_) ?_ ?_; rotate_left; focus (intro w' hSw; (try dsimp only at hSw); go_simp; (try with_reducible rfl)); (try simp only [Act.put, List.setIfInBounds_toArray, List.set_cons_zero, List.set_cons_succ]))
  (refine tkH 11 (v := ?_) ?_ ?_; rotate_left; focus (intro w' hSw; (try dsimp only at hSw); go_simp; (try with_reducible rfl)); (try simp only [Act.put, List.setIfInBounds_toArray, List.set_cons_zero, List.set_cons_succ]))
  (refine wpAnyH_ready (rs := [12]) (by decide +kernel) (by simp) ?_; refine AllReadyH.cons rfl (fun K hK => ?_) AllReadyH.nil; rw [if_pos (by kernel_rfl)]; go_simp)
  refine (h1.out _ ((below_of_grownB hb.out hg1.out hB).drew)).mono ?_
  rintro e w3 ⟨rfl, hb3⟩
  have hb13 := Lib.hid (below_of_drewN (n := 1) hb3)
  have hS3 := Lib.hid (hS1.out.below hb13.out)
  have hg3 := Lib.hid (hg1.out.trans (below_grown hb13.out (some B)))
  clear hb3
  have d0 := hS3.out.at_.range 0 _ rfl
  have d1 := hS3.out.at_.range 1 _ rfl
  have d2 := hS3.out.at_.range 2 _ rfl
  rw [Nat.zero_add] at d0 d1 d2
  have d11 := hS3.out.at_.c11
  go_simp
  (refine hK.out _ _ ⟨d0, d1, d2, d11⟩ (fun hHeld => ?_); clear hK K; (try simp only [Act.put, List.setIfInBounds_toArray]); (try simp only [List.set_cons_zero, List.set_cons_succ]))
  (refine tkH 13 (v := ?_) ?_ ?_; rotate_left; focus (intro w' hSw; (try dsimp only at hSw); go_simp; (try with_reducible rfl)); (try simp only [Act.put, List.setIfInBounds_toArray, List.set_cons_zero, List.set_cons_succ]))
  (refine tkH 14 (v := ?_) ?_ ?_; rotate_left; focus (intro w' hSw; (try dsimp only at hSw); go_simp; (try with_reducible rfl)); (try simp only [Act.put, List.setIfInBounds_toArray, List.set_cons_zero, List.set_cons_succ]))
  (refine tkH 15 (v := ?_) ?_ ?_; rotate_left; focus (intro w' hSw; (try dsimp only at hSw); go_simp; (try with_reducible rfl)); (try simp only [Act.put, List.setIfInBounds_toArray, List.set_cons_zero, List.set_cons_succ]))
  (refine tkH 16 (v := ?_) ?_ ?_; rotate_left; focus (intro w' hSw; (try dsimp only at hSw); go_simp; (try with_reducible rfl)); (try simp only [Act.put, List.setIfInBounds_toArray, List.set_cons_zero, List.set_cons_succ]))
  (refine tkH 17 (v := ?_) ?_ ?_; rotate_left; focus (intro w' hSw; (try dsimp only at hSw); go_simp; (try with_reducible rfl)); (try simp only [Act.put, List.setIfInBounds_toArray, List.set_cons_zero, List.set_cons_succ]))
  have c14 := hS3.out.at_.range 14 _ rfl
  rw [Nat.zero_add] at c14
  have f14 := hS3.out.free 14 (by omega)
  have e0 := hS3.out.set 14 (.int .i64 x1) { s with phase := 1, deadline := x1 } rfl (by omega)
  have q0 := e0.at_.range 0 _ rfl
  have q1 := e0.at_.range 1 _ rfl
  have q2 := e0.at_.range 2 _ rfl
  rw [Nat.zero_add] at q0 q1 q2
  have q11 := e0.at_.c11
  have hS4 := Lib.hid e0
  have hg4 := Lib.hid (hg3.out.trans (grown_set w3 B 14 (.int .i64 x1)))
  clear e0
  (refine wpAnyH_ready (rs := [18]) (by decide +kernel) (by simp) ?_; refine AllReadyH.cons rfl (fun K hK => ?_) AllReadyH.nil; rw [if_pos (by kernel_rfl)]; go_simp)
  (refine hK.out _ _ ⟨q0, q1, q2, q11⟩ (fun hHeld => ?_); clear hK K; (try simp only [Act.put, List.setIfInBounds_toArray]); (try simp only [List.set_cons_zero, List.set_cons_succ]))
  (refine tkH 19 (v := ?_) ?_ ?_; rotate_left; focus (intro w' hSw; (try dsimp only at hSw); go_simp; (try with_reducible rfl)); (try simp only [Act.put, List.setIfInBounds_toArray, List.set_cons_zero, List.set_cons_succ]))
  refine wpAnyH_done (by kernel_rfl) ?_ _
  clear hHeld c14 f14 d0 d1 d2 d11 q0 q1 q2 q11
  generalize w3.setCell ⟨B, 14, none⟩ (.int .i64 x1) = w4 at hS4 hg4 ⊢
  go_wp2_with fail
  have d0 := hS4.out.at_.range 3 _ rfl
  have d1 := hS4.out.at_.range 4 _ rfl
  have d2 := hS4.out.at_.range 5 _ rfl
  rw [Nat.zero_add] at d0 d1 d2
  have d11 := hS4.out.at_.c11
  refine wp_region_held_drew (S := (fun w' => w'.cell? ⟨B, 3, none⟩ = some (.int .i64 p.obj.m) ∧ w'.cell? ⟨B, 4, none⟩ = some (.int .i64 p.obj.d) ∧ w'.cell? ⟨B, 5, none⟩ = some (.bool p.obj.k) ∧ w'.cell? ⟨B, 11, none⟩ = some (.slice A p.hols.length c))) (by kernel_rfl) ⟨d0, d1, d2, d11⟩ (fun hHeld => ?_)
  clear d0 d1 d2 d11
  (refine tkH 0 (v := ?_) ?_ ?_; rotate_left; focus (intro w' hSw; (try dsimp only at hSw); go_simp; (try with_reducible rfl)); (try simp only [Act.put, List.setIfInBounds_toArray, List.set_cons_zero, List.set_cons_succ]))
  (refine tkH 1 (v := ?_) ?_ ?_; rotate_left; focus (intro w' hSw; (try dsimp only at hSw); go_simp; (try with_reducible rfl)); (try simp only [Act.put, List.setIfInBounds_toArray, List.set_cons_zero, List.set_cons_succ]))
  (refine tkH 2 (v := ?_) ?_ ?_; rotate_left; focus (intro w' hSw; (try dsimp only at hSw); go_simp; (try with_reducible rfl)); (try simp only [Act.put, List.setIfInBounds_toArray, List.set_cons_zero, List.set_cons_succ]))
  (refine tkH 3 (v := ?_) ?_ ?_; rotate_left; focus (intro w' hSw; (try dsimp only at hSw); go_simp; (try with_reducible rfl)); (try simp only [Act.put, List.setIfInBounds_toArray, List.set_cons_zero, List.set_cons_succ]))
  (refine tkH 4 (v := ?_) ?_ ?_; rotate_left; focus (intro w' hSw; (try dsimp only at hSw); go_simp; (try with_reducible rfl)); (try simp only [Act.put, List.setIfInBounds_toArray, List.set_cons_zero, List.set_cons_succ]))
  (refine tkH 5 (v := ?_) ?_ ?_; rotate_left; focus (intro w' hSw; (try dsimp only at hSw); go_simp; (try with_reducible rfl)); (try simp only [Act.put, List.setIfInBounds_toArray, List.set_cons_zero, List.set_cons_succ]))
  (refine tkH 6 (v := ?_) ?_ ?_; rotate_left; focus (intro w' hSw; (try dsimp only at hSw); go_simp; (try with_reducible rfl)); (try simp only [Act.put, List.setIfInBounds_toArray, List.set_cons_zero, List.set_cons_succ]))
  (refine tkH 7 (v := ?_) ?_ ?_; rotate_left; focus (intro w' hSw; (try dsimp only at hSw); go_simp; (try with_reducible rfl)); (try simp only [Act.put, List.setIfInBounds_toArray, List.set_cons_zero, List.set_cons_succ]))
  (refine tkH 8 (v := ?_) ?_ ?_; rotate_left; focus (intro w' hSw; (try dsimp only at hSw); go_simp; (try with_reducible rfl)); (try simp only [Act.put, List.setIfInBounds_toArray, List.set_cons_zero, List.set_cons_succ]))
  (refine tkH 9 (v := ?_) ?_ ?_; rotate_left; focus (intro w' hSw; (try dsimp only at hSw); go_simp; (try with_reducible rfl)); (try simp only [Act.put, List.setIfInBounds_toArray, List.set_cons_zero, List.set_cons_succ]))
  (refine tkH 10 (v := ?_) ?_ ?_; rotate_left; focus (intro w' hSw; (try dsimp only at hSw); go_simp; (try with_reducible rfl)); (try simp only [Act.put, List.setIfInBounds_toArray, List.set_cons_zero, List.set_cons_succ]))
  (refine tkH 11 (v := ?_) ?_ ?_; rotate_left; focus (intro w' hSw; (try dsimp only at hSw); go_simp; (try with_reducible rfl)); (try simp only [Act.put, List.setIfInBounds_toArray, List.set_cons_zero, List.set_cons_succ]))
  (refine wpAnyH_ready (rs := [12]) (by decide +kernel) (by simp) ?_; refine AllReadyH.cons rfl (fun K hK => ?_) AllReadyH.nil; rw [if_pos (by kernel_rfl)]; go_simp)
  refine (h2.out _ ((below_of_grownB hb.out hg4.out hB).drew)).mono ?_
  rintro e w5 ⟨rfl, hb3⟩
  have hb13 := Lib.hid (below_of_drewN (n := 1) hb3)
  have hS5 := Lib.hid (hS4.out.below hb13.out)
  have hg5 := Lib.hid (hg4.out.trans (below_grown hb13.out (some B)))
  clear hb3
  have d0 := hS5.out.at_.range 3 _ rfl
  have d1 := hS5.out.at_.range 4 _ rfl
  have d2 := hS5.out.at_.range 5 _ rfl
  rw [Nat.zero_add] at d0 d1 d2
  have d11 := hS5.out.at_.c11
  go_simp
  (refine hK.out _ _ ⟨d0, d1, d2, d11⟩ (fun hHeld => ?_); clear hK K; (try simp only [Act.put, List.setIfInBounds_toArray]); (try simp only [List.set_cons_zero, List.set_cons_succ]))
  (refine tkH 13 (v := ?_) ?_ ?_; rotate_left; focus (intro w' hSw; (try dsimp only at hSw); go_simp; (try with_reducible rfl)); (try simp only [Act.put, List.setIfInBounds_toArray, List.set_cons_zero, List.set_cons_succ]))
  (refine tkH 14 (v := ?_) ?_ ?_; rotate_left; focus (intro w' hSw; (try dsimp only at hSw); go_simp; (try with_reducible rfl)); (try simp only [Act.put, List.setIfInBounds_toArray, List.set_cons_zero, List.set_cons_succ]))
  (refine tkH 15 (v := ?_) ?_ ?_; rotate_left; focus (intro w' hSw; (try dsimp only at hSw); go_simp; (try with_reducible rfl)); (try simp only [Act.put, List.setIfInBounds_toArray, List.set_cons_zero, List.set_cons_succ]))
  (refine tkH 16 (v := ?_) ?_ ?_; rotate_left; focus (intro w' hSw; (try dsimp only at hSw); go_simp; (try with_reducible rfl)); (try simp only [Act.put, List.setIfInBounds_toArray, List.set_cons_zero, List.set_cons_succ]))
  (refine tkH 17 (v := ?_) ?_ ?_; rotate_left; focus (intro w' hSw; (try dsimp only at hSw); go_simp; (try with_reducible rfl)); (try simp only [Act.put, List.setIfInBounds_toArray, List.set_cons_zero, List.set_cons_succ]))
  have c14 := hS5.out.at_.range 15 _ rfl
  rw [Nat.zero_add] at c14
  have f14 := hS5.out.free 15 (by omega)
  have e0 := hS5.out.set 15 (.int .i64 x2) { s with phase := 1, deadline := x1, object := x2 } rfl (by omega)
  have q0 := e0.at_.range 3 _ rfl
  have q1 := e0.at_.range 4 _ rfl
  have q2 := e0.at_.range 5 _ rfl
  rw [Nat.zero_add] at q0 q1 q2
  have q11 := e0.at_.c11
  have hS6 := Lib.hid e0
  have hg6 := Lib.hid (hg5.out.trans (grown_set w5 B 15 (.int .i64 x2)))
  clear e0
  (refine wpAnyH_ready (rs := [18]) (by decide +kernel) (by simp) ?_; refine AllReadyH.cons rfl (fun K hK => ?_) AllReadyH.nil; rw [if_pos (by kernel_rfl)]; go_simp)
  (refine hK.out _ _ ⟨q0, q1, q2, q11⟩ (fun hHeld => ?_); clear hK K; (try simp only [Act.put, List.setIfInBounds_toArray]); (try simp only [List.set_cons_zero, List.set_cons_succ]))
  (refine tkH 19 (v := ?_) ?_ ?_; rotate_left; focus (intro w' hSw; (try dsimp only at hSw); go_simp; (try with_reducible rfl)); (try simp only [Act.put, List.setIfInBounds_toArray, List.set_cons_zero, List.set_cons_succ]))
  refine wpAnyH_done (by kernel_rfl) ?_ _
  clear hHeld c14 f14 d0 d1 d2 d11 q0 q1 q2 q11
  generalize w5.setCell ⟨B, 15, none⟩ (.int .i64 x2) = w6 at hS6 hg6 ⊢
  go_wp2_with fail
  go_ret
  exact ⟨rfl, hS6.out, hg6.out⟩
set_option maxRecDepth 100000 in
set_option maxHeartbeats 4000000 in
theorem begin_first (A : Option Addr) (c : Nat) (p : Proc) (s : NSt) (day : Int) (B : Nat) (w0 w : World) (hb : Below w0.heap.size w0 w) (hB : w0.heap.size ≤ B) (hS : StW w B A c p s)
    (x1 x2 e1 e2 : Int) (he : (e1 != 0) = true) (h1 : DlCalls w0 A c p.hols.length day p.runs.m p.runs.d p.runs.k x1 e1) (h2 : DlCalls w0 A c p.hols.length day p.obj.m p.obj.d p.obj.k x2 e2) :
    Calls Tryz.prog 229 #[.pointer (some ⟨B, 0, none⟩), .int .i64 day] w (BegPost w B A c p { s with phase := 1, deadline := x1, object := x2 } 2) := by
  have hS := Lib.hid hS
  have hb := Lib.hid hb
  have h1 := Lib.hid h1
  have h2 := Lib.hid h2
  have hS1 := Lib.hid (hS.out.set 12 (.int .i64 1) { s with phase := 1 } rfl (by omega))
  have hg1 := Lib.hid (grown_set w B 12 (.int .i64 1))
  have c12 := hS.out.at_.c12
  have f12 := hS.out.free 12 (by omega)
  go_enter Tryz.func229, Tryz.ntmps229
  go_wp2_with fail
  generalize w.setCell ⟨B, 12, none⟩ (.int .i64 1) = w1 at hS1 hg1 ⊢
  clear c12 f12
  have d0 := hS1.out.at_.range 0 _ rfl
  have d1 := hS1.out.at_.range 1 _ rfl
  have d2 := hS1.out.at_.range 2 _ rfl
  rw [Nat.zero_add] at d0 d1 d2
  have d11 := hS1.out.at_.c11
  refine wp_region_held_drew (S := (fun w' => w'.cell? ⟨B, 0, none⟩ = some (.int .i64 p.runs.m) ∧ w'.cell? ⟨B, 1, none⟩ = some (.int .i64 p.runs.d) ∧ w'.cell? ⟨B, 2, none⟩ = some (.bool p.runs.k) ∧ w'.cell? ⟨B, 11, none⟩ = some (.slice A p.hols.length c))) (by kernel_rfl) ⟨d0, d1, d2, d11⟩ (fun hHeld => ?_)
  clear d0 d1 d2 d11
  (refine tkH 0 (v := ?_) ?_ ?_; rotate_left; focus (intro w' hSw; (try dsimp only at hSw); go_simp; (try with_reducible rfl)); (try simp only [Act.put, List.setIfInBounds_toArray, List.set_cons_zero, List.set_cons_succ]))
  (refine tkH 1 (v := ?_) ?_ ?_; rotate_left; focus (intro w' hSw; (try dsimp only at hSw); go_simp; (try with_reducible rfl)); (try simp only [Act.put, List.setIfInBounds_toArray, List.set_cons_zero, List.set_cons_succ]))
  (refine tkH 2 (v := ?_) ?_ ?_; rotate_left; focus (intro w' hSw; (try dsimp only at hSw); go_simp; (try with_reducible rfl)); (try simp only [Act.put, List.setIfInBounds_toArray, List.set_cons_zero, List.set_cons_succ]))
  (refine tkH 3 (v := ?_) ?_ ?_; rotate_left; focus (intro w' hSw; (try dsimp only at hSw); go_simp; (try with_reducible rfl)); (try simp only [Act.put, List.setIfInBounds_toArray, List.set_cons_zero, List.set_cons_succ]))
  (refine tkH 4 (v := ?_) ?_ ?_; rotate_left; focus (intro w' hSw; (try dsimp only at hSw); go_simp; (try with_reducible rfl)); (try simp only [Act.put, List.setIfInBounds_toArray, List.set_cons_zero, List.set_cons_succ]))
  (refine tkH 5 (v := ?_) ?_ ?_; rotate_left; focus (intro w' hSw; (try dsimp only at hSw); go_simp; (try with_reducible rfl)); (try simp only [Act.put, List.setIfInBounds_toArray, List.set_cons_zero, List.set_cons_succ]))
  (refine tkH 6 (v := ?_) ?_ ?_; rotate_left; focus (intro w' hSw; (try dsimp only at hSw); go_simp; (try with_reducible rfl)); (try simp only [Act.put, List.setIfInBounds_toArray, List.set_cons_zero, List.set_cons_succ]))
  (refine tkH 7 (v := ?_) ?_ ?_; rotate_left; focus (intro w' hSw; (try dsimp only at hSw); go_simp; (try with_reducible rfl)); (try simp only [Act.put, List.setIfInBounds_toArray, List.set_cons_zero, List.set_cons_succ]))
  (refine tkH 8 (v := ?_) ?_ ?_; rotate_left; focus (intro w' hSw; (try dsimp only at hSw); go_simp; (try with_reducible rfl)); (try simp only [Act.put, List.setIfInBounds_toArray, List.set_cons_zero, List.set_cons_succ]))
  (refine tkH 9 (v := ?_) ?_ ?_; rotate_left; focus (intro w' hSw; (try dsimp only at hSw); go_simp; (try with_reducible rfl)); (try simp only [Act.put, List.setIfInBounds_toArray, List.set_cons_zero, List.set_cons_succ]))
  (refine tkH 10 (v := ?_) ?_ ?_; rotate_left; focus (intro w' hSw; (try dsimp only at hSw); go_simp; (try with_reducible rfl)); (try simp only [Act.put, List.setIfInBounds_toArray, List.set_cons_zero, List.set_cons_succ]))
  (refine tkH 11 (v := ?_) ?_ ?_; rotate_left; focus (intro w' hSw; (try dsimp only at hSw); go_simp; (try with_reducible rfl)); (try simp only [Act.put, List.setIfInBounds_toArray, List.set_cons_zero, List.set_cons_succ]))
  (refine wpAnyH_ready (rs := [12]) (by decide +kernel) (by simp) ?_; refine AllReadyH.cons rfl (fun K hK => ?_) AllReadyH.nil; rw [if_pos (by kernel_rfl)]; go_simp)
  refine (h1.out _ ((below_of_grownB hb.out hg1.out hB).drew)).mono ?_
  rintro e w3 ⟨rfl, hb3⟩
  have hb13 := Lib.hid (below_of_drewN (n := 1) hb3)
  have hS3 := Lib.hid (hS1.out.below hb13.out)
  have hg3 := Lib.hid (hg1.out.trans (below_grown hb13.out (some B)))
  clear hb3
  have d0 := hS3.out.at_.range 0 _ rfl
  have d1 := hS3.out.at_.range 1 _ rfl
  have d2 := hS3.out.at_.range 2 _ rfl
  rw [Nat.zero_add] at d0 d1 d2
  have d11 := hS3.out.at_.c11
  go_simp
  (refine hK.out _ _ ⟨d0, d1, d2, d11⟩ (fun hHeld => ?_); clear hK K; (try simp only [Act.put, List.setIfInBounds_toArray]); (try simp only [List.set_cons_zero, List.set_cons_succ]))
  (refine tkH 13 (v := ?_) ?_ ?_; rotate_left; focus (intro w' hSw; (try dsimp only at hSw); go_simp; (try with_reducible rfl)); (try simp only [Act.put, List.setIfInBounds_toArray, List.set_cons_zero, List.set_cons_succ]))
  (refine tkH 14 (v := ?_) ?_ ?_; rotate_left; focus (intro w' hSw; (try dsimp only at hSw); go_simp; (try with_reducible rfl)); (try simp only [Act.put, List.setIfInBounds_toArray, List.set_cons_zero, List.set_cons_succ]))
  (refine tkH 15 (v := ?_) ?_ ?_; rotate_left; focus (intro w' hSw; (try dsimp only at hSw); go_simp; (try with_reducible rfl)); (try simp only [Act.put, List.setIfInBounds_toArray, List.set_cons_zero, List.set_cons_succ]))
  (refine tkH 16 (v := ?_) ?_ ?_; rotate_left; focus (intro w' hSw; (try dsimp only at hSw); go_simp; (try with_reducible rfl)); (try simp only [Act.put, List.setIfInBounds_toArray, List.set_cons_zero, List.set_cons_succ]))
  (refine tkH 17 (v := ?_) ?_ ?_; rotate_left; focus (intro w' hSw; (try dsimp only at hSw); go_simp; (try with_reducible rfl)); (try simp only [Act.put, List.setIfInBounds_toArray, List.set_cons_zero, List.set_cons_succ]))
  have c14 := hS3.out.at_.range 14 _ rfl
  rw [Nat.zero_add] at c14
  have f14 := hS3.out.free 14 (by omega)
  have e0 := hS3.out.set 14 (.int .i64 x1) { s with phase := 1, deadline := x1 } rfl (by omega)
  have q0 := e0.at_.range 0 _ rfl
  have q1 := e0.at_.range 1 _ rfl
  have q2 := e0.at_.range 2 _ rfl
  rw [Nat.zero_add] at q0 q1 q2
  have q11 := e0.at_.c11
  have hS4 := Lib.hid e0
  have hg4 := Lib.hid (hg3.out.trans (grown_set w3 B 14 (.int .i64 x1)))
  clear e0
  (refine wpAnyH_ready (rs := [18]) (by decide +kernel) (by simp) ?_; refine AllReadyH.cons rfl (fun K hK => ?_) AllReadyH.nil; rw [if_pos (by kernel_rfl)]; go_simp)
  (refine hK.out _ _ ⟨q0, q1, q2, q11⟩ (fun hHeld => ?_); clear hK K; (try simp only [Act.put, List.setIfInBounds_toArray]); (try simp only [List.set_cons_zero, List.set_cons_succ]))
  (refine tkH 19 (v := ?_) ?_ ?_; rotate_left; focus (intro w' hSw; (try dsimp only at hSw); go_simp; (try with_reducible rfl)); (try simp only [Act.put, List.setIfInBounds_toArray, List.set_cons_zero, List.set_cons_succ]))
  refine wpAnyH_done (by kernel_rfl) ?_ _
  clear hHeld c14 f14 d0 d1 d2 d11 q0 q1 q2 q11
  generalize w3.setCell ⟨B, 14, none⟩ (.int .i64 x1) = w4 at hS4 hg4 ⊢
  go_wp2_with fail
  have d0 := hS4.out.at_.range 3 _ rfl
  have d1 := hS4.out.at_.range 4 _ rfl
  have d2 := hS4.out.at_.range 5 _ rfl
  rw [Nat.zero_add] at d0 d1 d2
  have d11 := hS4.out.at_.c11
  refine wp_region_held_drew (S := (fun w' => w'.cell? ⟨B, 3, none⟩ = some (.int .i64 p.obj.m) ∧ w'.cell? ⟨B, 4, none⟩ = some (.int .i64 p.obj.d) ∧ w'.cell? ⟨B, 5, none⟩ = some (.bool p.obj.k) ∧ w'.cell? ⟨B, 11, none⟩ = some (.slice A p.hols.length c))) (by kernel_rfl) ⟨d0, d1, d2, d11⟩ (fun hHeld => ?_)
  clear d0 d1 d2 d11
  (refine tkH 0 (v := ?_) ?_ ?_; rotate_left; focus (intro w' hSw; (try dsimp only at hSw); go_simp; (try with_reducible rfl)); (try simp only [Act.put, List.setIfInBounds_toArray, List.set_cons_zero, List.set_cons_succ]))
  (refine tkH 1 (v := ?_) ?_ ?_; rotate_left; focus (intro w' hSw; (try dsimp only at hSw); go_simp; (try with_reducible rfl)); (try simp only [Act.put, List.setIfInBounds_toArray, List.set_cons_zero, List.set_cons_succ]))
  (refine tkH 2 (v := ?_) ?_ ?_; rotate_left; focus (intro w' hSw; (try dsimp only at hSw); go_simp; (try with_reducible rfl)); (try simp only [Act.put, List.setIfInBounds_toArray, List.set_cons_zero, List.set_cons_succ]))
  (refine tkH 3 (v := ?_) ?_ ?_; rotate_left; focus (intro w' hSw; (try dsimp only at hSw); go_simp; (try with_reducible rfl)); (try simp only [Act.put, List.setIfInBounds_toArray, List.set_cons_zero, List.set_cons_succ]))
  (refine tkH 4 (v := ?_) ?_ ?_; rotate_left; focus (intro w' hSw; (try dsimp only at hSw); go_simp; (try with_reducible rfl)); (try simp only [Act.put, List.setIfInBounds_toArray, List.set_cons_zero, List.set_cons_succ]))
  (refine tkH 5 (v := ?_) ?_ ?_; rotate_left; focus (intro w' hSw; (try dsimp only at hSw); go_simp; (try with_reducible rfl)); (try simp only [Act.put, List.setIfInBounds_toArray, List.set_cons_zero, List.set_cons_succ]))
  (refine tkH 6 (v := ?_) ?_ ?_; rotate_left; focus (intro w' hSw; (try dsimp only at hSw); go_simp; (try with_reducible rfl)); (try simp only [Act.put, List.setIfInBounds_toArray, List.set_cons_zero, List.set_cons_succ]))
  (refine tkH 7 (v := ?_) ?_ ?_; rotate_left; focus (intro w' hSw; (try dsimp only at hSw); go_simp; (try with_reducible rfl)); (try simp only [Act.put, List.setIfInBounds_toArray, List.set_cons_zero, List.set_cons_succ]))
  (refine tkH 8 (v := ?_) ?_ ?_; rotate_left; focus (intro w' hSw; (try dsimp only at hSw); go_simp; (try with_reducible rfl)); (try simp only [Act.put, List.setIfInBounds_toArray, List.set_cons_zero, List.set_cons_succ]))
  (refine tkH 9 (v := ?_) ?_ ?_; rotate_left; focus (intro w' hSw; (try dsimp only at hSw); go_simp; (try with_reducible rfl)); (try simp only [Act.put, List.setIfInBounds_toArray, List.set_cons_zero, List.set_cons_succ]))
  (refine tkH 10 (v := ?_) ?_ ?_; rotate_left; focus (intro w' hSw; (try dsimp only at hSw); go_simp; (try with_reducible rfl)); (try simp only [Act.put, List.setIfInBounds_toArray, List.set_cons_zero, List.set_cons_succ]))
  (refine tkH 11 (v := ?_) ?_ ?_; rotate_left; focus (intro w' hSw; (try dsimp only at hSw); go_simp; (try with_reducible rfl)); (try simp only [Act.put, List.setIfInBounds_toArray, List.set_cons_zero, List.set_cons_succ]))
  (refine wpAnyH_ready (rs := [12]) (by decide +kernel) (by simp) ?_; refine AllReadyH.cons rfl (fun K hK => ?_) AllReadyH.nil; rw [if_pos (by kernel_rfl)]; go_simp)
  refine (h2.out _ ((below_of_grownB hb.out hg4.out hB).drew)).mono ?_
  rintro e w5 ⟨rfl, hb3⟩
  have hb13 := Lib.hid (below_of_drewN (n := 1) hb3)
  have hS5 := Lib.hid (hS4.out.below hb13.out)
  have hg5 := Lib.hid (hg4.out.trans (below_grown hb13.out (some B)))
  clear hb3
  have d0 := hS5.out.at_.range 3 _ rfl
  have d1 := hS5.out.at_.range 4 _ rfl
  have d2 := hS5.out.at_.range 5 _ rfl
  rw [Nat.zero_add] at d0 d1 d2
  have d11 := hS5.out.at_.c11
  go_simp
  (refine hK.out _ _ ⟨d0, d1, d2, d11⟩ (fun hHeld => ?_); clear hK K; (try simp only [Act.put, List.setIfInBounds_toArray]); (try simp only [List.set_cons_zero, List.set_cons_succ]))
  (refine tkH 13 (v := ?_) ?_ ?_; rotate_left; focus (intro w' hSw; (try dsimp only at hSw); go_simp; (try with_reducible rfl)); (try simp only [Act.put, List.setIfInBounds_toArray, List.set_cons_zero, List.set_cons_succ]))
  (refine tkH 14 (v := ?_) ?_ ?_; rotate_left; focus (intro w' hSw; (try dsimp only at hSw); go_simp; (try with_reducible rfl)); (try simp only [Act.put, List.setIfInBounds_toArray, List.set_cons_zero, List.set_cons_succ]))
  (refine tkH 15 (v := ?_) ?_ ?_; rotate_left; focus (intro w' hSw; (try dsimp only at hSw); go_simp; (try with_reducible rfl)); (try simp only [Act.put, List.setIfInBounds_toArray, List.set_cons_zero, List.set_cons_succ]))
  (refine tkH 16 (v := ?_) ?_ ?_; rotate_left; focus (intro w' hSw; (try dsimp only at hSw); go_simp; (try with_reducible rfl)); (try simp only [Act.put, List.setIfInBounds_toArray, List.set_cons_zero, List.set_cons_succ]))
  (refine tkH 17 (v := ?_) ?_ ?_; rotate_left; focus (intro w' hSw; (try dsimp only at hSw); go_simp; (try with_reducible rfl)); (try simp only [Act.put, List.setIfInBounds_toArray, List.set_cons_zero, List.set_cons_succ]))
  have c14 := hS5.out.at_.range 15 _ rfl
  rw [Nat.zero_add] at c14
  have f14 := hS5.out.free 15 (by omega)
  have e0 := hS5.out.set 15 (.int .i64 x2) { s with phase := 1, deadline := x1, object := x2 } rfl (by omega)
  have q0 := e0.at_.range 3 _ rfl
  have q1 := e0.at_.range 4 _ rfl
  have q2 := e0.at_.range 5 _ rfl
  rw [Nat.zero_add] at q0 q1 q2
  have q11 := e0.at_.c11
  have hS6 := Lib.hid e0
  have hg6 := Lib.hid (hg5.out.trans (grown_set w5 B 15 (.int .i64 x2)))
  clear e0
  (refine wpAnyH_ready (rs := [18]) (by decide +kernel) (by simp) ?_; refine AllReadyH.cons rfl (fun K hK => ?_) AllReadyH.nil; rw [if_pos (by kernel_rfl)]; go_simp)
  (refine hK.out _ _ ⟨q0, q1, q2, q11⟩ (fun hHeld => ?_); clear hK K; (try simp only [Act.put, List.setIfInBounds_toArray]); (try simp only [List.set_cons_zero, List.set_cons_succ]))
  (refine tkH 19 (v := ?_) ?_ ?_; rotate_left; focus (intro w' hSw; (try dsimp only at hSw); go_simp; (try with_reducible rfl)); (try simp only [Act.put, List.setIfInBounds_toArray, List.set_cons_zero, List.set_cons_succ]))
  refine wpAnyH_done (by kernel_rfl) ?_ _
  clear hHeld c14 f14 d0 d1 d2 d11 q0 q1 q2 q11
  generalize w5.setCell ⟨B, 15, none⟩ (.int .i64 x2) = w6 at hS6 hg6 ⊢
  go_wp2_with fail
  go_ret
  exact ⟨rfl, hS6.out, hg6.out⟩
set_option maxRecDepth 100000 in
set_option maxHeartbeats 4000000 in
theorem begin_second (A : Option Addr) (c : Nat) (p : Proc) (s : NSt) (day : Int) (B : Nat) (w0 w : World) (hb : Below w0.heap.size w0 w) (hB : w0.heap.size ≤ B) (hS : StW w B A c p s)
    (x1 x2 e2 : Int) (he : (e2 != 0) = true) (h1 : DlCalls w0 A c p.hols.length day p.runs.m p.runs.d p.runs.k x1 0) (h2 : DlCalls w0 A c p.hols.length day p.obj.m p.obj.d p.obj.k x2 e2) :
    Calls Tryz.prog 229 #[.pointer (some ⟨B, 0, none⟩), .int .i64 day] w (BegPost w B A c p { s with phase := 1, deadline := x1, object := x2 } 2) := by
  have hS := Lib.hid hS
  have hb := Lib.hid hb
  have h1 := Lib.hid h1
  have h2 := Lib.hid h2
  have hS1 := Lib.hid (hS.out.set 12 (.int .i64 1) { s with phase := 1 } rfl (by omega))
  have hg1 := Lib.hid (grown_set w B 12 (.int .i64 1))
  have c12 := hS.out.at_.c12
  have f12 := hS.out.free 12 (by omega)
  go_enter Tryz.func229, Tryz.ntmps229
  go_wp2_with fail
  generalize w.setCell ⟨B, 12, none⟩ (.int .i64 1) = w1 at hS1 hg1 ⊢
  clear c12 f12
  have d0 := hS1.out.at_.range 0 _ rfl
  have d1 := hS1.out.at_.range 1 _ rfl
  have d2 := hS1.out.at_.range 2 _ rfl
  rw [Nat.zero_add] at d0 d1 d2
  have d11 := hS1.out.at_.c11
  refine wp_region_held_drew (S := (fun w' => w'.cell? ⟨B, 0, none⟩ = some (.int .i64 p.runs.m) ∧ w'.cell? ⟨B, 1, none⟩ = some (.int .i64 p.runs.d) ∧ w'.cell? ⟨B, 2, none⟩ = some (.bool p.runs.k) ∧ w'.cell? ⟨B, 11, none⟩ = some (.slice A p.hols.length c))) (by kernel_rfl) ⟨d0, d1, d2, d11⟩ (fun hHeld => ?_)
  clear d0 d1 d2 d11
  (refine tkH 0 (v := ?_) ?_ ?_; rotate_left; focus (intro w' hSw; (try dsimp only at hSw); go_simp; (try with_reducible rfl)); (try simp only [Act.put, List.setIfInBounds_toArray, List.set_cons_zero, List.set_cons_succ]))
  (refine tkH 1 (v := ?_) ?_ ?_; rotate_left; focus (intro w' hSw; (try dsimp only at hSw); go_simp; (try with_reducible rfl)); (try simp only [Act.put, List.setIfInBounds_toArray, List.set_cons_zero, List.set_cons_succ]))
  (refine tkH 2 (v := ?_) ?_ ?_; rotate_left; focus (intro w' hSw; (try dsimp only at hSw); go_simp; (try with_reducible rfl)); (try simp only [Act.put, List.setIfInBounds_toArray, List.set_cons_zero, List.set_cons_succ]))
  (refine tkH 3 (v := ?_) ?_ ?_; rotate_left; focus (intro w' hSw; (try dsimp only at hSw); go_simp; (try with_reducible rfl)); (try simp only [Act.put, List.setIfInBounds_toArray, List.set_cons_zero, List.set_cons_succ]))
  (refine tkH 4 (v := ?_) ?_ ?_; rotate_left; focus (intro w' hSw; (try dsimp only at hSw); go_simp; (try with_reducible rfl)); (try simp only [Act.put, List.setIfInBounds_toArray, List.set_cons_zero, List.set_cons_succ]))
  (refine tkH 5 (v := ?_) ?_ ?_; rotate_left; focus (intro w' hSw; (try dsimp only at hSw); go_simp; (try with_reducible rfl)); (try simp only [Act.put, List.setIfInBounds_toArray, List.set_cons_zero, List.set_cons_succ]))
  (refine tkH 6 (v := ?_) ?_ ?_; rotate_left; focus (intro w' hSw; (try dsimp only at hSw); go_simp; (try with_reducible rfl)); (try simp only [Act.put, List.setIfInBounds_toArray, List.set_cons_zero, List.set_cons_succ]))
  (refine tkH 7 (v := ?_) ?_ ?_; rotate_left; focus (intro w' hSw; (try dsimp only at hSw); go_simp; (try with_reducible rfl)); (try simp only [Act.put, List.setIfInBounds_toArray, List.set_cons_zero, List.set_cons_succ]))
  (refine tkH 8 (v := ?_) ?_ ?_; rotate_left; focus (intro w' hSw; (try dsimp only at hSw); go_simp; (try with_reducible rfl)); (try simp only [Act.put, List.setIfInBounds_toArray, List.set_cons_zero, List.set_cons_succ]))
  (refine tkH 9 (v := ?_) ?_ ?_; rotate_left; focus (intro w' hSw; (try dsimp only at hSw); go_simp; (try with_reducible rfl)); (try simp only [Act.put, List.setIfInBounds_toArray, List.set_cons_zero, List.set_cons_succ]))
  (refine tkH 10 (v := ?_) ?_ ?_; rotate_left; focus (intro w' hSw; (try dsimp only at hSw); go_simp; (try with_reducible rfl)); (try simp only [Act.put, List.setIfInBounds_toArray, List.set_cons_zero, List.set_cons_succ]))
  (refine tkH 11 (v := ?_) ?_ ?_; rotate_left; focus (intro w' hSw; (try dsimp only at hSw); go_simp; (try with_reducible rfl)); (try simp only [Act.put, List.setIfInBounds_toArray, List.set_cons_zero, List.set_cons_succ]))
  (refine wpAnyH_ready (rs := [12]) (by decide +kernel) (by simp) ?_; refine AllReadyH.cons rfl (fun K hK => ?_) AllReadyH.nil; rw [if_pos (by kernel_rfl)]; go_simp)
  refine (h1.out _ ((below_of_grownB hb.out hg1.out hB).drew)).mono ?_
  rintro e w3 ⟨rfl, hb3⟩
  have hb13 := Lib.hid (below_of_drewN (n := 1) hb3)
  have hS3 := Lib.hid (hS1.out.below hb13.out)
  have hg3 := Lib.hid (hg1.out.trans (below_grown hb13.out (some B)))
  clear hb3
  have d0 := hS3.out.at_.range 0 _ rfl
  have d1 := hS3.out.at_.range 1 _ rfl
  have d2 := hS3.out.at_.range 2 _ rfl
  rw [Nat.zero_add] at d0 d1 d2
  have d11 := hS3.out.at_.c11
  go_simp
  (refine hK.out _ _ ⟨d0, d1, d2, d11⟩ (fun hHeld => ?_); clear hK K; (try simp only [Act.put, List.setIfInBounds_toArray]); (try simp only [List.set_cons_zero, List.set_cons_succ]))
  (refine tkH 13 (v := ?_) ?_ ?_; rotate_left; focus (intro w' hSw; (try dsimp only at hSw); go_simp; (try with_reducible rfl)); (try simp only [Act.put, List.setIfInBounds_toArray, List.set_cons_zero, List.set_cons_succ]))
  (refine tkH 14 (v := ?_) ?_ ?_; rotate_left; focus (intro w' hSw; (try dsimp only at hSw); go_simp; (try with_reducible rfl)); (try simp only [Act.put, List.setIfInBounds_toArray, List.set_cons_zero, List.set_cons_succ]))
  (refine tkH 15 (v := ?_) ?_ ?_; rotate_left; focus (intro w' hSw; (try dsimp only at hSw); go_simp; (try with_reducible rfl)); (try simp only [Act.put, List.setIfInBounds_toArray, List.set_cons_zero, List.set_cons_succ]))
  (refine tkH 16 (v := ?_) ?_ ?_; rotate_left; focus (intro w' hSw; (try dsimp only at hSw); go_simp; (try with_reducible rfl)); (try simp only [Act.put, List.setIfInBounds_toArray, List.set_cons_zero, List.set_cons_succ]))
  (refine tkH 17 (v := ?_) ?_ ?_; rotate_left; focus (intro w' hSw; (try dsimp only at hSw); go_simp; (try with_reducible rfl)); (try simp only [Act.put, List.setIfInBounds_toArray, List.set_cons_zero, List.set_cons_succ]))
  have c14 := hS3.out.at_.range 14 _ rfl
  rw [Nat.zero_add] at c14
  have f14 := hS3.out.free 14 (by omega)
  have e0 := hS3.out.set 14 (.int .i64 x1) { s with phase := 1, deadline := x1 } rfl (by omega)
  have q0 := e0.at_.range 0 _ rfl
  have q1 := e0.at_.range 1 _ rfl
  have q2 := e0.at_.range 2 _ rfl
  rw [Nat.zero_add] at q0 q1 q2
  have q11 := e0.at_.c11
  have hS4 := Lib.hid e0
  have hg4 := Lib.hid (hg3.out.trans (grown_set w3 B 14 (.int .i64 x1)))
  clear e0
  (refine wpAnyH_ready (rs := [18]) (by decide +kernel) (by simp) ?_; refine AllReadyH.cons rfl (fun K hK => ?_) AllReadyH.nil; rw [if_pos (by kernel_rfl)]; go_simp)
  (refine hK.out _ _ ⟨q0, q1, q2, q11⟩ (fun hHeld => ?_); clear hK K; (try simp only [Act.put, List.setIfInBounds_toArray]); (try simp only [List.set_cons_zero, List.set_cons_succ]))
  (refine tkH 19 (v := ?_) ?_ ?_; rotate_left; focus (intro w' hSw; (try dsimp only at hSw); go_simp; (try with_reducible rfl)); (try simp only [Act.put, List.setIfInBounds_toArray, List.set_cons_zero, List.set_cons_succ]))
  refine wpAnyH_done (by kernel_rfl) ?_ _
  clear hHeld c14 f14 d0 d1 d2 d11 q0 q1 q2 q11
  generalize w3.setCell ⟨B, 14, none⟩ (.int .i64 x1) = w4 at hS4 hg4 ⊢
  go_wp2_with fail
  have d0 := hS4.out.at_.range 3 _ rfl
  have d1 := hS4.out.at_.range 4 _ rfl
  have d2 := hS4.out.at_.range 5 _ rfl
  rw [Nat.zero_add] at d0 d1 d2
  have d11 := hS4.out.at_.c11
  refine wp_region_held_drew (S := (fun w' => w'.cell? ⟨B, 3, none⟩ = some (.int .i64 p.obj.m) ∧ w'.cell? ⟨B, 4, none⟩ = some (.int .i64 p.obj.d) ∧ w'.cell? ⟨B, 5, none⟩ = some (.bool p.obj.k) ∧ w'.cell? ⟨B, 11, none⟩ = some (.slice A p.hols.length c))) (by kernel_rfl) ⟨d0, d1, d2, d11⟩ (fun hHeld => ?_)
  clear d0 d1 d2 d11
  (refine tkH 0 (v := ?_) ?_ ?_; rotate_left; focus (intro w' hSw; (try dsimp only at hSw); go_simp; (try with_reducible rfl)); (try simp only [Act.put, List.setIfInBounds_toArray, List.set_cons_zero, List.set_cons_succ]))
  (refine tkH 1 (v := ?_) ?_ ?_; rotate_left; focus (intro w' hSw; (try dsimp only at hSw); go_simp; (try with_reducible rfl)); (try simp only [Act.put, List.setIfInBounds_toArray, List.set_cons_zero, List.set_cons_succ]))
  (refine tkH 2 (v := ?_) ?_ ?_; rotate_left; focus (intro w' hSw; (try dsimp only at hSw); go_simp; (try with_reducible rfl)); (try simp only [Act.put, List.setIfInBounds_toArray, List.set_cons_zero, List.set_cons_succ]))
  (refine tkH 3 (v := ?_) ?_ ?_; rotate_left; focus (intro w' hSw; (try dsimp only at hSw); go_simp; (try with_reducible rfl)); (try simp only [Act.put, List.setIfInBounds_toArray, List.set_cons_zero, List.set_cons_succ]))
  (refine tkH 4 (v := ?_) ?_ ?_; rotate_left; focus (intro w' hSw; (try dsimp only at hSw); go_simp; (try with_reducible rfl)); (try simp only [Act.put, List.setIfInBounds_toArray, List.set_cons_zero, List.set_cons_succ]))
  (refine tkH 5 (v := ?_) ?_ ?_; rotate_left; focus (intro w' hSw; (try dsimp only at hSw); go_simp; (try with_reducible rfl)); (try simp only [Act.put, List.setIfInBounds_toArray, List.set_cons_zero, List.set_cons_succ]))
  (refine tkH 6 (v := ?_) ?_ ?_; rotate_left; focus (intro w' hSw; (try dsimp only at hSw); go_simp; (try with_reducible rfl)); (try simp only [Act.put, List.setIfInBounds_toArray, List.set_cons_zero, List.set_cons_succ]))
  (refine tkH 7 (v := ?_) ?_ ?_; rotate_left; focus (intro w' hSw; (try dsimp only at hSw); go_simp; (try with_reducible rfl)); (try simp only [Act.put, List.setIfInBounds_toArray, List.set_cons_zero, List.set_cons_succ]))
  (refine tkH 8 (v := ?_) ?_ ?_; rotate_left; focus (intro w' hSw; (try dsimp only at hSw); go_simp; (try with_reducible rfl)); (try simp only [Act.put, List.setIfInBounds_toArray, List.set_cons_zero, List.set_cons_succ]))
  (refine tkH 9 (v := ?_) ?_ ?_; rotate_left; focus (intro w' hSw; (try dsimp only at hSw); go_simp; (try with_reducible rfl)); (try simp only [Act.put, List.setIfInBounds_toArray, List.set_cons_zero, List.set_cons_succ]))
  (refine tkH 10 (v := ?_) ?_ ?_; rotate_left; focus (intro w' hSw; (try dsimp only at hSw); go_simp; (try with_reducible rfl)); (try simp only [Act.put, List.setIfInBounds_toArray, List.set_cons_zero, List.set_cons_succ]))
  (refine tkH 11 (v := ?_) ?_ ?_; rotate_left; focus (intro w' hSw; (try dsimp only at hSw); go_simp; (try with_reducible rfl)); (try simp only [Act.put, List.setIfInBounds_toArray, List.set_cons_zero, List.set_cons_succ]))
  (refine wpAnyH_ready (rs := [12]) (by decide +kernel) (by simp) ?_; refine AllReadyH.cons rfl (fun K hK => ?_) AllReadyH.nil; rw [if_pos (by kernel_rfl)]; go_simp)
  refine (h2.out _ ((below_of_grownB hb.out hg4.out hB).drew)).mono ?_
  rintro e w5 ⟨rfl, hb3⟩
  have hb13 := Lib.hid (below_of_drewN (n := 1) hb3)
  have hS5 := Lib.hid (hS4.out.below hb13.out)
  have hg5 := Lib.hid (hg4.out.trans (below_grown hb13.out (some B)))
  clear hb3
  have d0 := hS5.out.at_.range 3 _ rfl
  have d1 := hS5.out.at_.range 4 _ rfl
  have d2 := hS5.out.at_.range 5 _ rfl
  rw [Nat.zero_add] at d0 d1 d2
  have d11 := hS5.out.at_.c11
  go_simp
  (refine hK.out _ _ ⟨d0, d1, d2, d11⟩ (fun hHeld => ?_); clear hK K; (try simp only [Act.put, List.setIfInBounds_toArray]); (try simp only [List.set_cons_zero, List.set_cons_succ]))
  (refine tkH 13 (v := ?_) ?_ ?_; rotate_left; focus (intro w' hSw; (try dsimp only at hSw); go_simp; (try with_reducible rfl)); (try simp only [Act.put, List.setIfInBounds_toArray, List.set_cons_zero, List.set_cons_succ]))
  (refine tkH 14 (v := ?_) ?_ ?_; rotate_left; focus (intro w' hSw; (try dsimp only at hSw); go_simp; (try with_reducible rfl)); (try simp only [Act.put, List.setIfInBounds_toArray, List.set_cons_zero, List.set_cons_succ]))
  (refine tkH 15 (v := ?_) ?_ ?_; rotate_left; focus (intro w' hSw; (try dsimp only at hSw); go_simp; (try with_reducible rfl)); (try simp only [Act.put, List.setIfInBounds_toArray, List.set_cons_zero, List.set_cons_succ]))
  (refine tkH 16 (v := ?_) ?_ ?_; rotate_left; focus (intro w' hSw; (try dsimp only at hSw); go_simp; (try with_reducible rfl)); (try simp only [Act.put, List.setIfInBounds_toArray, List.set_cons_zero, List.set_cons_succ]))
  (refine tkH 17 (v := ?_) ?_ ?_; rotate_left; focus (intro w' hSw; (try dsimp only at hSw); go_simp; (try with_reducible rfl)); (try simp only [Act.put, List.setIfInBounds_toArray, List.set_cons_zero, List.set_cons_succ]))
  have c14 := hS5.out.at_.range 15 _ rfl
  rw [Nat.zero_add] at c14
  have f14 := hS5.out.free 15 (by omega)
  have e0 := hS5.out.set 15 (.int .i64 x2) { s with phase := 1, deadline := x1, object := x2 } rfl (by omega)
  have q0 := e0.at_.range 3 _ rfl
  have q1 := e0.at_.range 4 _ rfl
  have q2 := e0.at_.range 5 _ rfl
  rw [Nat.zero_add] at q0 q1 q2
  have q11 := e0.at_.c11
  have hS6 := Lib.hid e0
  have hg6 := Lib.hid (hg5.out.trans (grown_set w5 B 15 (.int .i64 x2)))
  clear e0
  (refine wpAnyH_ready (rs := [18]) (by decide +kernel) (by simp) ?_; refine AllReadyH.cons rfl (fun K hK => ?_) AllReadyH.nil; rw [if_pos (by kernel_rfl)]; go_simp)
  (refine hK.out _ _ ⟨q0, q1, q2, q11⟩ (fun hHeld => ?_); clear hK K; (try simp only [Act.put, List.setIfInBounds_toArray]); (try simp only [List.set_cons_zero, List.set_cons_succ]))
  (refine tkH 19 (v := ?_) ?_ ?_; rotate_left; focus (intro w' hSw; (try dsimp only at hSw); go_simp; (try with_reducible rfl)); (try simp only [Act.put, List.setIfInBounds_toArray, List.set_cons_zero, List.set_cons_succ]))
  refine wpAnyH_done (by kernel_rfl) ?_ _
  clear hHeld c14 f14 d0 d1 d2 d11 q0 q1 q2 q11
  generalize w5.setCell ⟨B, 15, none⟩ (.int .i64 x2) = w6 at hS6 hg6 ⊢
  go_wp2_with fail
  go_ret
  exact ⟨rfl, hS6.out, hg6.out⟩
theorem dl_calls {A : Option Addr} {c : Nat} {l : List Hol} {w0 : World} (hl : Hols w0 A l) (hT : Tab w0) (day m d : Int) (k : Bool) : DlCalls w0 A c l.length day m d k (Cal.dlS l day m d k).1 (Cal.dlS l day m d k).2 :=
  fun w hb => Deadline_any A c l day m d k w (hl.below hb) (hT.below hb)
def Cal.begE (p : Proc) (day : Int) : Int := if (Cal.dlS p.hols day p.runs.m p.runs.d p.runs.k).2 = 0 ∧ (Cal.dlS p.hols day p.obj.m p.obj.d p.obj.k).2 = 0 then 0 else 2
theorem nbegin_any (A : Option Addr) (c : Nat) (p : Proc) (s : NSt) (day : Int) (B : Nat) (w0 w : World) (hb : Below w0.heap.size w0 w) (hB : w0.heap.size ≤ B) (hS : StW w B A c p s) (hl : Hols w0 A p.hols) (hT : Tab w0) :
    Calls Tryz.prog 229 #[.pointer (some ⟨B, 0, none⟩), .int .i64 day] w
      (BegPost w B A c p { s with phase := 1, deadline := (Cal.dlS p.hols day p.runs.m p.runs.d p.runs.k).1, object := (Cal.dlS p.hols day p.obj.m p.obj.d p.obj.k).1 } (Cal.begE p day)) := by
  have d1 := dl_calls (c := c) hl hT day p.runs.m p.runs.d p.runs.k
  have d2 := dl_calls (c := c) hl hT day p.obj.m p.obj.d p.obj.k
  by_cases h1 : (Cal.dlS p.hols day p.runs.m p.runs.d p.runs.k).2 = 0
  · rw [h1] at d1
    by_cases h2 : (Cal.dlS p.hols day p.obj.m p.obj.d p.obj.k).2 = 0
    · rw [h2] at d2
      have : Cal.begE p day = 0 := if_pos ⟨h1, h2⟩
      rw [this]
      exact begin_ok A c p s day B w0 w hb hB hS _ _ d1 d2
    · have : Cal.begE p day = 2 := if_neg (fun h => h2 h.2)
      rw [this]
      exact begin_second A c p s day B w0 w hb hB hS _ _ _ (by simpa using h2) d1 d2
  · have : Cal.begE p day = 2 := if_neg (fun h => h1 h.1)
    rw [this]
    exact begin_first A c p s day B w0 w hb hB hS _ _ _ _ (by simpa using h1) d1 d2
end Go.Proofs.YtbegbajlagcbdaaGreatDoor
