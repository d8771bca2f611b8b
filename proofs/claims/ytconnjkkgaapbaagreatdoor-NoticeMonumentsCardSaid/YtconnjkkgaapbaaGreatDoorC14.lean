/- Chapter 8 and what it rests on: definitions and walks, part 14. -/
import Derived.Test.YtconnjkkgaapbaaGreatDoorC13
namespace Go.Proofs.YtconnjkkgaapbaaGreatDoor
open Go Go.RowKit
def AddCalls (w0 : World) (A : Option Addr) (c n : Nat) (day x e : Int) : Prop :=
  ∀ w, Below w0.heap.size w0 w → Calls Tryz.prog 121 #[.slice A n c, .int .i64 day, .int .i64 0] w fun en w' => en = .returned (.tuple #[.int .i64 x, .int .i64 e]) ∧ Below w.heap.size w w'
theorem add_calls {A : Option Addr} {c : Nat} {l : List Hol} {w0 : World} (hl : Hols w0 A l) (hT : Tab w0) (day : Int) : AddCalls w0 A c l.length day (Cal.addWorkingS l day 0).1 (Cal.addWorkingS l day 0).2 :=
  fun w hb => AddWorking_any A c l (fun h => holidaysOf_any A c l (Cal.holsErr_ok h).1 (by have := (Cal.holsErr_ok h).2; omega)) day 0 w (hl.below hb) (hT.below hb)
set_option maxRecDepth 100000 in
set_option maxHeartbeats 4000000 in
theorem move_gen (A : Option Addr) (c : Nat) (p : Proc) (s : NSt) (days : Int) (B : Nat) (w0 w : World) (hb : Below w0.heap.size w0 w) (_hB : w0.heap.size ≤ B) (hS : StW w B A c p s)
    (x e : Int) (hlo : -1000000 ≤ s.deadline + days) (hhi : s.deadline + days ≤ 1000000) (h1 : AddCalls w0 A c p.hols.length (s.deadline + days) x e) :
    Calls Tryz.prog 99 #[.pointer (some ⟨B, 0, none⟩), .int .i64 days] w (BegPost w B A c p { s with deadline := x } e) := by
  have hS := Lib.hid hS
  have hb := Lib.hid hb
  have h1 := Lib.hid h1
  have hwr : IntKind.i64.wrap (s.deadline + days) = s.deadline + days := IntWalk.i64_in _ (by omega)
  go_enter Tryz.func99, Tryz.ntmps99
  go_wp2_with fail
  have d11 := hS.out.at_.c11
  have d14 := hS.out.at_.c14
  refine wp_region_held_drew (S := (fun w' => w'.cell? ⟨B, 11, none⟩ = some (.slice A p.hols.length c) ∧ w'.cell? ⟨B, 14, none⟩ = some (.int .i64 s.deadline))) (by kernel_rfl) ⟨d11, d14⟩ (fun hHeld => ?_)
  clear d11 d14
  (refine tkH 0 (v := ?_) ?_ ?_; rotate_left; focus (intro w' hSw; (try dsimp only at hSw); go_simp; (try with_reducible rfl)); (try simp only [Act.put, List.setIfInBounds_toArray, List.set_cons_zero, List.set_cons_succ]))
  (refine tkH 1 (v := ?_) ?_ ?_; rotate_left; focus (intro w' hSw; (try dsimp only at hSw); go_simp; (try with_reducible rfl)); (try simp only [Act.put, List.setIfInBounds_toArray, List.set_cons_zero, List.set_cons_succ]))
  (refine tkH 2 (v := ?_) ?_ ?_; rotate_left; focus (intro w' hSw; (try dsimp only at hSw); go_simp; (try with_reducible rfl)); (try simp only [Act.put, List.setIfInBounds_toArray, List.set_cons_zero, List.set_cons_succ]))
  (refine tkH 3 (v := ?_) ?_ ?_; rotate_left; focus (intro w' hSw; (try dsimp only at hSw); go_simp; (try with_reducible rfl)); (try simp only [Act.put, List.setIfInBounds_toArray, List.set_cons_zero, List.set_cons_succ]))
  (refine tkH 4 (v := ?_) ?_ ?_; rotate_left; focus (intro w' hSw; (try dsimp only at hSw); go_simp; (try with_reducible rfl)); (try simp only [Act.put, List.setIfInBounds_toArray, List.set_cons_zero, List.set_cons_succ]))
  (refine tkH 5 (v := ?_) ?_ ?_; rotate_left; focus (intro w' hSw; (try dsimp only at hSw); go_simp; (try with_reducible rfl)); (try simp only [Act.put, List.setIfInBounds_toArray, List.set_cons_zero, List.set_cons_succ]))
  (refine tkH 6 (v := ?_) ?_ ?_; rotate_left; focus (intro w' hSw; (try dsimp only at hSw); go_simp; (try with_reducible rfl)); (try simp only [Act.put, List.setIfInBounds_toArray, List.set_cons_zero, List.set_cons_succ]))
  (refine tkH 7 (v := ?_) ?_ ?_; rotate_left; focus (intro w' hSw; (try dsimp only at hSw); go_simp; (try with_reducible rfl)); (try simp only [Act.put, List.setIfInBounds_toArray, List.set_cons_zero, List.set_cons_succ]))
  (refine tkH 8 (v := ?_) ?_ ?_; rotate_left; focus (intro w' hSw; (try dsimp only at hSw); go_simp; (try with_reducible rfl)); (try simp only [Act.put, List.setIfInBounds_toArray, List.set_cons_zero, List.set_cons_succ]))
  (refine tkH 9 (v := ?_) ?_ ?_; rotate_left; focus (intro w' hSw; (try dsimp only at hSw); go_simp; (try with_reducible rfl)); (try simp only [Act.put, List.setIfInBounds_toArray, List.set_cons_zero, List.set_cons_succ]))
  (refine tkH 10 (v := ?_) ?_ ?_; rotate_left; focus (intro w' hSw; (try dsimp only at hSw); go_simp; (try with_reducible rfl)); (try simp only [Act.put, List.setIfInBounds_toArray, List.set_cons_zero, List.set_cons_succ]))
  (refine wpAnyH_ready (rs := [11]) (by decide +kernel) (by simp) ?_; refine AllReadyH.cons rfl (fun K hK => ?_) AllReadyH.nil; rw [if_pos (by kernel_rfl)]; go_simp)
  refine (h1.out _ hb.out.drew).mono ?_
  rintro e w3 ⟨rfl, hb3⟩
  have hb13 := Lib.hid (below_of_drewN (n := 1) hb3)
  have hS3 := Lib.hid (hS.out.below hb13.out)
  have hg3 := Lib.hid (below_grown hb13.out (some B))
  clear hb3
  go_simp
  (refine hK.out _ _ ⟨hS3.out.at_.c11, hS3.out.at_.c14⟩ (fun hHeld => ?_); clear hK K; (try simp only [Act.put, List.setIfInBounds_toArray]); (try simp only [List.set_cons_zero, List.set_cons_succ]))
  (refine tkH 12 (v := ?_) ?_ ?_; rotate_left; focus (intro w' hSw; (try dsimp only at hSw); go_simp; (try with_reducible rfl)); (try simp only [Act.put, List.setIfInBounds_toArray, List.set_cons_zero, List.set_cons_succ]))
  (refine tkH 13 (v := ?_) ?_ ?_; rotate_left; focus (intro w' hSw; (try dsimp only at hSw); go_simp; (try with_reducible rfl)); (try simp only [Act.put, List.setIfInBounds_toArray, List.set_cons_zero, List.set_cons_succ]))
  (refine tkH 14 (v := ?_) ?_ ?_; rotate_left; focus (intro w' hSw; (try dsimp only at hSw); go_simp; (try with_reducible rfl)); (try simp only [Act.put, List.setIfInBounds_toArray, List.set_cons_zero, List.set_cons_succ]))
  (refine tkH 15 (v := ?_) ?_ ?_; rotate_left; focus (intro w' hSw; (try dsimp only at hSw); go_simp; (try with_reducible rfl)); (try simp only [Act.put, List.setIfInBounds_toArray, List.set_cons_zero, List.set_cons_succ]))
  (refine tkH 16 (v := ?_) ?_ ?_; rotate_left; focus (intro w' hSw; (try dsimp only at hSw); go_simp; (try with_reducible rfl)); (try simp only [Act.put, List.setIfInBounds_toArray, List.set_cons_zero, List.set_cons_succ]))
  refine wpAnyH_done (by kernel_rfl) ?_ _
  clear hHeld
  have c14 := hS3.out.at_.c14
  have f14 := hS3.out.free 14 (by omega)
  have e0 := hS3.out.set 14 (.int .i64 x) { s with deadline := x } rfl (by omega)
  have hS4 := Lib.hid e0
  have hg4 := Lib.hid (hg3.out.trans (grown_set w3 B 14 (.int .i64 x)))
  clear e0
  go_wp2_with fail
  generalize w3.setCell ⟨B, 14, none⟩ (.int .i64 x) = w4 at hS4 hg4 ⊢
  clear c14 f14
  go_wp2_with fail
  go_ret
  exact ⟨rfl, hS4.out, hg4.out⟩
theorem nmove_any (A : Option Addr) (c : Nat) (p : Proc) (s : NSt) (days : Int) (B : Nat) (w0 w : World) (hb : Below w0.heap.size w0 w) (hB : w0.heap.size ≤ B) (hS : StW w B A c p s) (hl : Hols w0 A p.hols) (hT : Tab w0)
    (hlo : -1000000 ≤ s.deadline + days) (hhi : s.deadline + days ≤ 1000000) :
    Calls Tryz.prog 99 #[.pointer (some ⟨B, 0, none⟩), .int .i64 days] w (BegPost w B A c p { s with deadline := (Cal.addWorkingS p.hols (s.deadline + days) 0).1 } (Cal.addWorkingS p.hols (s.deadline + days) 0).2) :=
  move_gen A c p s days B w0 w hb hB hS _ _ hlo hhi (add_calls hl hT _)
end Go.Proofs.YtconnjkkgaapbaaGreatDoor
namespace Go.Proofs.YtconnjkkgaapbaaGreatDoor
open Go Go.RowKit
/-- A box that reads as a list of cells and may be written. -/
structure BoxAt (w : World) (B : Nat) (cs : List Value) : Prop where
  range : w.rangeAt B 0 cs
  free : ∀ j, j < cs.length → w.frozen? ⟨B, j, none⟩ = false
  lt : B < w.heap.size
theorem BoxAt.there {w : World} {B : Nat} {cs : List Value} (h : BoxAt w B cs) : w.there B 0 cs.length := fun j hj => ⟨h.range.isSome j hj, by rw [Nat.zero_add]; exact h.free j hj⟩
theorem BoxAt.grown {w w' : World} {row : Option Nat} {B : Nat} {cs : List Value} (h : BoxAt w B cs) (hg : w.grownBy w' row) (hne : some B ≠ row) : BoxAt w' B cs :=
  ⟨fun j v hv => (World.cell?_of_block (a := ⟨B, 0 + j, none⟩) (hg.block B h.lt hne)).trans (h.range j v hv), fun j hj => (World.frozen?_of_block (a := ⟨B, j, none⟩) (hg.block B h.lt hne)).trans (h.free j hj), Nat.lt_of_lt_of_le h.lt hg.size⟩
theorem BoxAt.below {w w' : World} {B : Nat} {cs : List Value} (h : BoxAt w B cs) (hb : Below w.heap.size w w') : BoxAt w' B cs := h.grown (below_grown hb none) (by simp)
theorem BoxAt.alloc {w : World} {B : Nat} {cs : List Value} (h : BoxAt w B cs) (o : Obj) : BoxAt (w.alloc o) B cs := h.below (below_alloc w o)
theorem BoxAt.new (w : World) (cs : Array Value) (t : TypeId) : BoxAt (w.alloc (.cells cs t)) w.heap.size cs.toList :=
  ⟨fun j v hv => by rw [Nat.zero_add, cell_alloc_at, ← hv]; simp, fun j hj => by unfold World.frozen?; rw [World.alloc_heap_new]; simp, by simp⟩
theorem grown_setCells (B : Nat) : ∀ (xs : List Value) (o : Nat) (w : World), w.grownBy (w.setCells B o xs) (some B)
  | [], _, w => World.grownBy.refl w _
  | v :: xs, o, w => (grown_set w B o v).trans (grown_setCells B xs (o + 1) _)
theorem size_setCells (B : Nat) : ∀ (xs : List Value) (o : Nat) (w : World), (w.setCells B o xs).heap.size = w.heap.size
  | [], _, _ => rfl
  | v :: xs, o, w => by unfold World.setCells; rw [size_setCells B xs]; simp
theorem BoxAt.put {w : World} {B : Nat} {cs : List Value} (h : BoxAt w B cs) (xs : List Value) (hl : xs.length = cs.length) : BoxAt (w.setCells B 0 xs) B xs :=
  ⟨World.rangeAt_setCells_same w B 0 xs (by rw [hl]; exact h.there), fun j hj => by rw [World.frozen?_setCells]; exact h.free j (by omega), by rw [size_setCells]; exact h.lt⟩
theorem BoxAt.aside {w : World} {B B' : Nat} {cs : List Value} (h : BoxAt w B cs) (xs : List Value) (hne : B ≠ B') : BoxAt (w.setCells B' 0 xs) B cs := h.grown (grown_setCells B' xs 0 w) (fun e => hne (by cases e; rfl))
theorem BoxAt.set {w : World} {B : Nat} {cs : List Value} (h : BoxAt w B cs) (j : Nat) (v : Value) (hj : j < cs.length) : BoxAt (w.setCell ⟨B, j, none⟩ v) B (cs.set j v) := by
  refine ⟨fun k u hu => ?_, fun k hk => by rw [World.frozen?_setCell]; exact h.free k (by simpa using hk), by rw [World.size_setCell]; exact h.lt⟩
  rw [Nat.zero_add]
  by_cases e : j = k
  · subst e
    rw [List.getElem?_set_self hj] at hu
    cases hu
    obtain ⟨x, hx⟩ : ∃ x, cs[j]? = some x := ⟨_, List.getElem?_eq_getElem hj⟩
    have := h.range j x hx
    rw [Nat.zero_add] at this
    exact World.cell?_setCell_same _ _ _ this
  · rw [List.getElem?_set_ne e] at hu
    have := h.range k u hu
    rw [Nat.zero_add] at this
    rw [World.cell?_setCell_other _ _ _ _ (fun x => e (by injection x))]
    exact this
theorem BoxAt.c {w : World} {B : Nat} {cs : List Value} (h : BoxAt w B cs) (j : Nat) (v : Value) (hv : cs[j]? = some v) : w.cell? ⟨B, j, none⟩ = some v := by
  have := h.range j v hv
  rw [Nat.zero_add] at this
  exact this
theorem StW.box {w : World} {B : Nat} {A : Option Addr} {c : Nat} {p : Proc} {s : NSt} (h : StW w B A c p s) : BoxAt w B [.int .i64 p.runs.m, .int .i64 p.runs.d, .bool p.runs.k, .int .i64 p.obj.m, .int .i64 p.obj.d, .bool p.obj.k, .int .i64 p.wait.m, .int .i64 p.wait.d, .bool p.wait.k, .int .i64 p.exts, .int .i64 p.longest, .slice A p.hols.length c, .int .i64 s.phase, .int .i64 s.last, .int .i64 s.deadline, .int .i64 s.object, .int .i64 s.objected, .int .i64 s.extended] := ⟨h.at_.range, h.free, h.at_.lt⟩
theorem BoxAt.st {w : World} {B : Nat} {A : Option Addr} {c : Nat} {p : Proc} {s : NSt} (h : BoxAt w B [.int .i64 p.runs.m, .int .i64 p.runs.d, .bool p.runs.k, .int .i64 p.obj.m, .int .i64 p.obj.d, .bool p.obj.k, .int .i64 p.wait.m, .int .i64 p.wait.d, .bool p.wait.k, .int .i64 p.exts, .int .i64 p.longest, .slice A p.hols.length c, .int .i64 s.phase, .int .i64 s.last, .int .i64 s.deadline, .int .i64 s.object, .int .i64 s.objected, .int .i64 s.extended]) : StW w B A c p s := ⟨⟨h.range, h.lt⟩, h.free⟩
theorem BoxAt.act {w : World} {B : Nat} {a : NAct} (h : BoxAt w B [.int .i64 a.day, .int .i64 a.kind, .int .i64 a.days]) : ActAt w B a := ⟨h.c 0 _ rfl, h.c 1 _ rfl, h.c 2 _ rfl, h.lt⟩
section
variable {P : Program}
/-- Results: a wide cell, then one or two slots. -/
theorem results_mid2 {fn : Func} {t u : Tmp} {ty : TypeId} (h : fn.results = #[.cell t ty, .tmp u]) (tmps : Array Value) (w : World) (g : Nat) (cs : List Value) (d : TypeDesc)
    (hp : tmps.getD t undef = .pointer (some ⟨g, 0, none⟩)) (hc : w.rangeAt g 0 cs) (hu : P.underlying ty = some d) (hd : d.isRow = true) (hi : (P.info? ty).map (·.size) = some cs.length) :
    (results fn tmps).run P w = .ok (.tuple #[.agg cs.toArray, tmps.getD u undef]) w := by
  have hp' : tmps[t]?.getD undef = .pointer (some ⟨g, 0, none⟩) := by simpa using hp
  simp [results, h, hp', asAddr, run_loadVar_mid w g 0 ty cs d hc hu hd hi]
theorem results_mid3 {fn : Func} {t u v : Tmp} {ty : TypeId} (h : fn.results = #[.cell t ty, .tmp u, .tmp v]) (tmps : Array Value) (w : World) (g : Nat) (cs : List Value) (d : TypeDesc)
    (hp : tmps.getD t undef = .pointer (some ⟨g, 0, none⟩)) (hc : w.rangeAt g 0 cs) (hu : P.underlying ty = some d) (hd : d.isRow = true) (hi : (P.info? ty).map (·.size) = some cs.length) :
    (results fn tmps).run P w = .ok (.tuple #[.agg cs.toArray, tmps.getD u undef, tmps.getD v undef]) w := by
  have hp' : tmps[t]?.getD undef = .pointer (some ⟨g, 0, none⟩) := by simpa using hp
  simp [results, h, hp', asAddr, run_loadVar_mid w g 0 ty cs d hc hu hd hi]
theorem results_mid1 {fn : Func} {t : Tmp} {ty : TypeId} (h : fn.results = #[.cell t ty]) (tmps : Array Value) (w : World) (g : Nat) (cs : List Value) (d : TypeDesc)
    (hp : tmps.getD t undef = .pointer (some ⟨g, 0, none⟩)) (hc : w.rangeAt g 0 cs) (hu : P.underlying ty = some d) (hd : d.isRow = true) (hi : (P.info? ty).map (·.size) = some cs.length) :
    (results fn tmps).run P w = .ok (.agg cs.toArray) w := by
  have hp' : tmps[t]?.getD undef = .pointer (some ⟨g, 0, none⟩) := by simpa using hp
  simp [results, h, hp', asAddr, run_loadVar_mid w g 0 ty cs d hc hu hd hi]
end
theorem stOne (A : Option Addr) (c : Nat) (p : Proc) (s : NSt) : (#[.int .i64 p.runs.m, .int .i64 p.runs.d, .bool p.runs.k, .int .i64 p.obj.m, .int .i64 p.obj.d, .bool p.obj.k, .int .i64 p.wait.m, .int .i64 p.wait.d, .bool p.wait.k, .int .i64 p.exts, .int .i64 p.longest, .slice A p.hols.length c, .int .i64 s.phase, .int .i64 s.last, .int .i64 s.deadline, .int .i64 s.object, .int .i64 s.objected, .int .i64 s.extended] : Array Value).all (·.oneCell') = true := by kernel_rfl
end Go.Proofs.YtconnjkkgaapbaaGreatDoor
namespace Go.Proofs.YtconnjkkgaapbaaGreatDoor
open Go Go.RowKit
def ActPost (w : World) (A : Option Addr) (c : Nat) (p : Proc) (r : NSt × Int) (e : Ending) (w' : World) : Prop :=
  e = .returned (.tuple #[.agg #[.int .i64 p.runs.m, .int .i64 p.runs.d, .bool p.runs.k, .int .i64 p.obj.m, .int .i64 p.obj.d, .bool p.obj.k, .int .i64 p.wait.m, .int .i64 p.wait.d, .bool p.wait.k, .int .i64 p.exts, .int .i64 p.longest, .slice A p.hols.length c, .int .i64 r.1.phase, .int .i64 r.1.last, .int .i64 r.1.deadline, .int .i64 r.1.object, .int .i64 r.1.objected, .int .i64 r.1.extended], .int .i64 r.2]) ∧ Below w.heap.size w w'
def W3 (w : World) (A : Option Addr) (c : Nat) (p : Proc) (s : NSt) (a : NAct) : World :=
  ((w.alloc (.cells #[.int .i64 p.runs.m, .int .i64 p.runs.d, .bool p.runs.k, .int .i64 p.obj.m, .int .i64 p.obj.d, .bool p.obj.k, .int .i64 p.wait.m, .int .i64 p.wait.d, .bool p.wait.k, .int .i64 p.exts, .int .i64 p.longest, .slice A p.hols.length c, .int .i64 s.phase, .int .i64 s.last, .int .i64 s.deadline, .int .i64 s.object, .int .i64 s.objected, .int .i64 s.extended] 104)).alloc (.cells #[.int .i64 a.day, .int .i64 a.kind, .int .i64 a.days] 64)).alloc (.cells #[.int .i64 0, .int .i64 0, .bool false, .int .i64 0, .int .i64 0, .bool false, .int .i64 0, .int .i64 0, .bool false, .int .i64 0, .int .i64 0, .slice none 0 0, .int .i64 0, .int .i64 0, .int .i64 0, .int .i64 0, .int .i64 0, .int .i64 0] 104)
theorem W3_st (w : World) (A : Option Addr) (c : Nat) (p : Proc) (s : NSt) (a : NAct) : StW (W3 w A c p s a) w.heap.size A c p s := BoxAt.st (((BoxAt.new w _ _).alloc _).alloc _)
theorem W3_act (w : World) (A : Option Addr) (c : Nat) (p : Proc) (s : NSt) (a : NAct) : ActAt (W3 w A c p s a) (w.heap.size + 1) a := by
  have h := (BoxAt.new (w.alloc (.cells #[.int .i64 p.runs.m, .int .i64 p.runs.d, .bool p.runs.k, .int .i64 p.obj.m, .int .i64 p.obj.d, .bool p.obj.k, .int .i64 p.wait.m, .int .i64 p.wait.d, .bool p.wait.k, .int .i64 p.exts, .int .i64 p.longest, .slice A p.hols.length c, .int .i64 s.phase, .int .i64 s.last, .int .i64 s.deadline, .int .i64 s.object, .int .i64 s.objected, .int .i64 s.extended] 104)) #[.int .i64 a.day, .int .i64 a.kind, .int .i64 a.days] 64).alloc (.cells #[.int .i64 0, .int .i64 0, .bool false, .int .i64 0, .int .i64 0, .bool false, .int .i64 0, .int .i64 0, .bool false, .int .i64 0, .int .i64 0, .slice none 0 0, .int .i64 0, .int .i64 0, .int .i64 0, .int .i64 0, .int .i64 0, .int .i64 0] 104)
  rw [World.size_alloc] at h
  exact BoxAt.act h
theorem W3_res (w : World) (A : Option Addr) (c : Nat) (p : Proc) (s : NSt) (a : NAct) : BoxAt (W3 w A c p s a) (w.heap.size + 1 + 1) [.int .i64 0, .int .i64 0, .bool false, .int .i64 0, .int .i64 0, .bool false, .int .i64 0, .int .i64 0, .bool false, .int .i64 0, .int .i64 0, .slice none 0 0, .int .i64 0, .int .i64 0, .int .i64 0, .int .i64 0, .int .i64 0, .int .i64 0] := by
  have h := BoxAt.new ((w.alloc (.cells #[.int .i64 p.runs.m, .int .i64 p.runs.d, .bool p.runs.k, .int .i64 p.obj.m, .int .i64 p.obj.d, .bool p.obj.k, .int .i64 p.wait.m, .int .i64 p.wait.d, .bool p.wait.k, .int .i64 p.exts, .int .i64 p.longest, .slice A p.hols.length c, .int .i64 s.phase, .int .i64 s.last, .int .i64 s.deadline, .int .i64 s.object, .int .i64 s.objected, .int .i64 s.extended] 104)).alloc (.cells #[.int .i64 a.day, .int .i64 a.kind, .int .i64 a.days] 64)) #[.int .i64 0, .int .i64 0, .bool false, .int .i64 0, .int .i64 0, .bool false, .int .i64 0, .int .i64 0, .bool false, .int .i64 0, .int .i64 0, .slice none 0 0, .int .i64 0, .int .i64 0, .int .i64 0, .int .i64 0, .int .i64 0, .int .i64 0] 104
  rw [World.size_alloc, World.size_alloc] at h
  exact h
theorem W3_below (w : World) (A : Option Addr) (c : Nat) (p : Proc) (s : NSt) (a : NAct) : Below w.heap.size w (W3 w A c p s a) := below_step (below_step (below_alloc _ _) (below_alloc _ _)) (below_alloc _ _)
set_option maxRecDepth 100000 in
set_option maxHeartbeats 4000000 in
theorem act_bad (A : Option Addr) (c : Nat) (p : Proc) (s : NSt) (a : NAct) (w : World) (E : Int) (hE : Hid (Cal.mayErr p s a = E)) (he : (E != 0) = true) :
    Calls Tryz.prog 72 #[.agg #[.int .i64 p.runs.m, .int .i64 p.runs.d, .bool p.runs.k, .int .i64 p.obj.m, .int .i64 p.obj.d, .bool p.obj.k, .int .i64 p.wait.m, .int .i64 p.wait.d, .bool p.wait.k, .int .i64 p.exts, .int .i64 p.longest, .slice A p.hols.length c, .int .i64 s.phase, .int .i64 s.last, .int .i64 s.deadline, .int .i64 s.object, .int .i64 s.objected, .int .i64 s.extended], .agg #[.int .i64 a.day, .int .i64 a.kind, .int .i64 a.days]] w (ActPost w A c p (s, E)) := by
  have hs0 := Lib.hid (W3_st w A c p s a)
  have ha0 := Lib.hid (W3_act w A c p s a)
  have hr0 := Lib.hid (W3_res w A c p s a)
  have hb0 := Lib.hid (W3_below w A c p s a)
  unfold W3 at hs0 ha0 hr0 hb0
  have q0 := ha0.out.c0
  have q1 := ha0.out.c1
  have q2 := ha0.out.c2
  go_enter Tryz.func72, Tryz.ntmps72
  go_wp2_with (refine wpList_load_mid rfl 104 (.tmp 2) rfl w.heap.size 0 rfl [.int .i64 p.runs.m, .int .i64 p.runs.d, .bool p.runs.k, .int .i64 p.obj.m, .int .i64 p.obj.d, .bool p.obj.k, .int .i64 p.wait.m, .int .i64 p.wait.d, .bool p.wait.k, .int .i64 p.exts, .int .i64 p.longest, .slice A p.hols.length c, .int .i64 s.phase, .int .i64 s.last, .int .i64 s.deadline, .int .i64 s.object, .int .i64 s.objected, .int .i64 s.extended] _ hs0.out.at_.range Tryz.underlying104 rfl stSize ?_)
  clear q0 q1 q2
  refine (may_any A c p s a _).mono ?_
  rintro e w1 ⟨rfl, hb1⟩
  have hs1 := Lib.hid (hs0.out.below hb1)
  have ha1 := Lib.hid (ha0.out.below hb1)
  have hr1 := Lib.hid (hr0.out.below hb1)
  have hbw := Lib.hid (below_step hb0.out hb1)
  clear hb1 hs0 ha0 hr0 hb0
  rw [hE.out]
  go_wp2_with (first
    | (refine wpList_load_mid rfl 104 (.tmp 2) rfl w.heap.size 0 rfl [.int .i64 p.runs.m, .int .i64 p.runs.d, .bool p.runs.k, .int .i64 p.obj.m, .int .i64 p.obj.d, .bool p.obj.k, .int .i64 p.wait.m, .int .i64 p.wait.d, .bool p.wait.k, .int .i64 p.exts, .int .i64 p.longest, .slice A p.hols.length c, .int .i64 s.phase, .int .i64 s.last, .int .i64 s.deadline, .int .i64 s.object, .int .i64 s.objected, .int .i64 s.extended] _ hs1.out.at_.range Tryz.underlying104 rfl stSize ?_)
    | ((refine wpList_store_mid rfl 104 (.tmp 4) (.tmp 13) rfl (w.heap.size + 1 + 1) 0 #[.int .i64 p.runs.m, .int .i64 p.runs.d, .bool p.runs.k, .int .i64 p.obj.m, .int .i64 p.obj.d, .bool p.obj.k, .int .i64 p.wait.m, .int .i64 p.wait.d, .bool p.wait.k, .int .i64 p.exts, .int .i64 p.longest, .slice A p.hols.length c, .int .i64 s.phase, .int .i64 s.last, .int .i64 s.deadline, .int .i64 s.object, .int .i64 s.objected, .int .i64 s.extended] (by rfl) (by rfl) ?_ ?_ ?_ ?_; (exact hr1.out.there); (exact stSize); kernel_rfl); have hr2 := Lib.hid (hr1.out.put [.int .i64 p.runs.m, .int .i64 p.runs.d, .bool p.runs.k, .int .i64 p.obj.m, .int .i64 p.obj.d, .bool p.obj.k, .int .i64 p.wait.m, .int .i64 p.wait.d, .bool p.wait.k, .int .i64 p.exts, .int .i64 p.longest, .slice A p.hols.length c, .int .i64 s.phase, .int .i64 s.last, .int .i64 s.deadline, .int .i64 s.object, .int .i64 s.objected, .int .i64 s.extended] rfl); have hb2 := Lib.hid (below_of_grownB hbw.out (grown_setCells (w.heap.size + 1 + 1) [.int .i64 p.runs.m, .int .i64 p.runs.d, .bool p.runs.k, .int .i64 p.obj.m, .int .i64 p.obj.d, .bool p.obj.k, .int .i64 p.wait.m, .int .i64 p.wait.d, .bool p.wait.k, .int .i64 p.exts, .int .i64 p.longest, .slice A p.hols.length c, .int .i64 s.phase, .int .i64 s.last, .int .i64 s.deadline, .int .i64 s.object, .int .i64 s.objected, .int .i64 s.extended] 0 w1) (by omega))))

  (try simp only [Exit.inBlock, Exit.then])
  refine bodyPost_ret (results_mid2 rfl _ _ (w.heap.size + 1 + 1) _ _ rfl hr2.out.range Tryz.underlying104 rfl stSize) rfl ⟨?_, hb2.out⟩
  rfl
theorem ActAt.grown {w w' : World} {row : Option Nat} {B : Nat} {a : NAct} (h : ActAt w B a) (hg : w.grownBy w' row) (hne : some B ≠ row) : ActAt w' B a :=
  ⟨(World.cell?_of_block (a := ⟨B, 0, none⟩) (hg.block B h.lt hne)).trans h.c0, (World.cell?_of_block (a := ⟨B, 1, none⟩) (hg.block B h.lt hne)).trans h.c1, (World.cell?_of_block (a := ⟨B, 2, none⟩) (hg.block B h.lt hne)).trans h.c2, Nat.lt_of_lt_of_le h.lt hg.size⟩
theorem ne2 (n : Nat) : some (n + 1 + 1) ≠ some n := by simp; omega
set_option maxRecDepth 100000 in
set_option maxHeartbeats 4000000 in
theorem act_served (A : Option Addr) (c : Nat) (p : Proc) (s s' : NSt) (a : NAct) (w : World) (hl : Hols w A p.hols) (hT : Tab w) (hm : Hid (Cal.mayErr p s a = 0)) (k0 : (a.kind == 0) = true) (hs' : Hid ({ s with last := a.day, phase := 1, deadline := (Cal.dlS p.hols a.day p.runs.m p.runs.d p.runs.k).1, object := (Cal.dlS p.hols a.day p.obj.m p.obj.d p.obj.k).1 } = s')) :
    Calls Tryz.prog 72 #[.agg #[.int .i64 p.runs.m, .int .i64 p.runs.d, .bool p.runs.k, .int .i64 p.obj.m, .int .i64 p.obj.d, .bool p.obj.k, .int .i64 p.wait.m, .int .i64 p.wait.d, .bool p.wait.k, .int .i64 p.exts, .int .i64 p.longest, .slice A p.hols.length c, .int .i64 s.phase, .int .i64 s.last, .int .i64 s.deadline, .int .i64 s.object, .int .i64 s.objected, .int .i64 s.extended], .agg #[.int .i64 a.day, .int .i64 a.kind, .int .i64 a.days]] w (ActPost w A c p (s', Cal.begE p a.day)) := by
  have hl := Lib.hid hl
  have hT := Lib.hid hT
  have hs0 := Lib.hid (W3_st w A c p s a)
  have ha0 := Lib.hid (W3_act w A c p s a)
  have hr0 := Lib.hid (W3_res w A c p s a)
  have hb0 := Lib.hid (W3_below w A c p s a)
  unfold W3 at hs0 ha0 hr0 hb0
  have q0 := ha0.out.c0
  have q1 := ha0.out.c1
  have q2 := ha0.out.c2
  go_enter Tryz.func72, Tryz.ntmps72
  go_wp2_with (refine wpList_load_mid rfl 104 (.tmp 2) rfl w.heap.size 0 rfl [.int .i64 p.runs.m, .int .i64 p.runs.d, .bool p.runs.k, .int .i64 p.obj.m, .int .i64 p.obj.d, .bool p.obj.k, .int .i64 p.wait.m, .int .i64 p.wait.d, .bool p.wait.k, .int .i64 p.exts, .int .i64 p.longest, .slice A p.hols.length c, .int .i64 s.phase, .int .i64 s.last, .int .i64 s.deadline, .int .i64 s.object, .int .i64 s.objected, .int .i64 s.extended] _ hs0.out.at_.range Tryz.underlying104 rfl stSize ?_)
  clear q0 q1 q2
  refine (may_any A c p s a _).mono ?_
  rintro e w1 ⟨rfl, hb1⟩
  have hs1 := Lib.hid (hs0.out.below hb1)
  have ha1 := Lib.hid (ha0.out.below hb1)
  have hr1 := Lib.hid (hr0.out.below hb1)
  have hbw := Lib.hid (below_step hb0.out hb1)
  clear hb1 hs0 ha0 hr0 hb0
  rw [hm.out]
  have d0 := ha1.out.c0
  have d1 := ha1.out.c1
  have c13 := hs1.out.at_.c13
  have f13 := hs1.out.free 13 (by omega)
  have hg2 := grown_set w1 w.heap.size 13 (.int .i64 a.day)
  have hs2 := Lib.hid (hs1.out.set 13 (.int .i64 a.day) { s with last := a.day } rfl (by omega))
  have hr2 := Lib.hid (hr1.out.grown hg2 (ne2 _))
  have hb2 := Lib.hid (below_of_grownB hbw.out hg2 (Nat.le_refl _))
  have ha2 := Lib.hid (ha1.out.grown hg2 (by simp))
  clear hg2
  have e0 := ha2.out.c0
  have e1 := ha2.out.c1
  have e2 := ha2.out.c2
  go_wp2_with fail
  clear c13 f13 d0 d1 e0 e1 e2
  refine (nbegin_any A c p { s with last := a.day } a.day w.heap.size w _ hb2.out (Nat.le_refl _) hs2.out hl.out hT.out).mono ?_
  rintro e w3 ⟨rfl, hs3, hg3⟩
  have hr3 := Lib.hid (hr2.out.grown hg3 (ne2 _))
  have hb3 := Lib.hid (below_of_grownB hb2.out hg3 (Nat.le_refl _))
  have hs3 : Hid (StW w3 w.heap.size A c p s') := hs'.out ▸ hs3
  clear hg3
  go_wp2_with (first
    | (refine wpList_load_mid rfl 104 (.tmp 2) rfl w.heap.size 0 rfl [.int .i64 p.runs.m, .int .i64 p.runs.d, .bool p.runs.k, .int .i64 p.obj.m, .int .i64 p.obj.d, .bool p.obj.k, .int .i64 p.wait.m, .int .i64 p.wait.d, .bool p.wait.k, .int .i64 p.exts, .int .i64 p.longest, .slice A p.hols.length c, .int .i64 s'.phase, .int .i64 s'.last, .int .i64 s'.deadline, .int .i64 s'.object, .int .i64 s'.objected, .int .i64 s'.extended] _ hs3.out.at_.range Tryz.underlying104 rfl stSize ?_)
    | (refine wpList_store_mid rfl 104 (.tmp 4) (.tmp 59) rfl (w.heap.size + 1 + 1) 0 #[.int .i64 p.runs.m, .int .i64 p.runs.d, .bool p.runs.k, .int .i64 p.obj.m, .int .i64 p.obj.d, .bool p.obj.k, .int .i64 p.wait.m, .int .i64 p.wait.d, .bool p.wait.k, .int .i64 p.exts, .int .i64 p.longest, .slice A p.hols.length c, .int .i64 s'.phase, .int .i64 s'.last, .int .i64 s'.deadline, .int .i64 s'.object, .int .i64 s'.objected, .int .i64 s'.extended] (by rfl) (by rfl) ?_ ?_ ?_ ?_; (exact hr3.out.there); (exact stSize); kernel_rfl))
  (try simp only [Exit.inBlock, Exit.then])
  refine bodyPost_ret (results_mid2 rfl _ _ (w.heap.size + 1 + 1) [.int .i64 p.runs.m, .int .i64 p.runs.d, .bool p.runs.k, .int .i64 p.obj.m, .int .i64 p.obj.d, .bool p.obj.k, .int .i64 p.wait.m, .int .i64 p.wait.d, .bool p.wait.k, .int .i64 p.exts, .int .i64 p.longest, .slice A p.hols.length c, .int .i64 s'.phase, .int .i64 s'.last, .int .i64 s'.deadline, .int .i64 s'.object, .int .i64 s'.objected, .int .i64 s'.extended] _ rfl (hr3.out.put [.int .i64 p.runs.m, .int .i64 p.runs.d, .bool p.runs.k, .int .i64 p.obj.m, .int .i64 p.obj.d, .bool p.obj.k, .int .i64 p.wait.m, .int .i64 p.wait.d, .bool p.wait.k, .int .i64 p.exts, .int .i64 p.longest, .slice A p.hols.length c, .int .i64 s'.phase, .int .i64 s'.last, .int .i64 s'.deadline, .int .i64 s'.object, .int .i64 s'.objected, .int .i64 s'.extended] rfl).range Tryz.underlying104 rfl stSize) rfl ⟨?_, below_of_grownB hb3.out (grown_setCells (w.heap.size + 1 + 1) [.int .i64 p.runs.m, .int .i64 p.runs.d, .bool p.runs.k, .int .i64 p.obj.m, .int .i64 p.obj.d, .bool p.obj.k, .int .i64 p.wait.m, .int .i64 p.wait.d, .bool p.wait.k, .int .i64 p.exts, .int .i64 p.longest, .slice A p.hols.length c, .int .i64 s'.phase, .int .i64 s'.last, .int .i64 s'.deadline, .int .i64 s'.object, .int .i64 s'.objected, .int .i64 s'.extended] 0 w3) (by omega)⟩
  rfl
set_option maxRecDepth 100000 in
set_option maxHeartbeats 4000000 in
theorem act_published (A : Option Addr) (c : Nat) (p : Proc) (s s' : NSt) (a : NAct) (w : World) (hl : Hols w A p.hols) (hT : Tab w) (hm : Hid (Cal.mayErr p s a = 0)) (k0 : (a.kind == 0) = false) (k2 : (a.kind == 2) = true) (hs' : Hid ({ s with last := a.day, phase := 1, deadline := (Cal.dlS p.hols a.day p.runs.m p.runs.d p.runs.k).1, object := (Cal.dlS p.hols a.day p.obj.m p.obj.d p.obj.k).1 } = s')) :
    Calls Tryz.prog 72 #[.agg #[.int .i64 p.runs.m, .int .i64 p.runs.d, .bool p.runs.k, .int .i64 p.obj.m, .int .i64 p.obj.d, .bool p.obj.k, .int .i64 p.wait.m, .int .i64 p.wait.d, .bool p.wait.k, .int .i64 p.exts, .int .i64 p.longest, .slice A p.hols.length c, .int .i64 s.phase, .int .i64 s.last, .int .i64 s.deadline, .int .i64 s.object, .int .i64 s.objected, .int .i64 s.extended], .agg #[.int .i64 a.day, .int .i64 a.kind, .int .i64 a.days]] w (ActPost w A c p (s', Cal.begE p a.day)) := by
  have hl := Lib.hid hl
  have hT := Lib.hid hT
  have hs0 := Lib.hid (W3_st w A c p s a)
  have ha0 := Lib.hid (W3_act w A c p s a)
  have hr0 := Lib.hid (W3_res w A c p s a)
  have hb0 := Lib.hid (W3_below w A c p s a)
  unfold W3 at hs0 ha0 hr0 hb0
  have q0 := ha0.out.c0
  have q1 := ha0.out.c1
  have q2 := ha0.out.c2
  go_enter Tryz.func72, Tryz.ntmps72
  go_wp2_with (refine wpList_load_mid rfl 104 (.tmp 2) rfl w.heap.size 0 rfl [.int .i64 p.runs.m, .int .i64 p.runs.d, .bool p.runs.k, .int .i64 p.obj.m, .int .i64 p.obj.d, .bool p.obj.k, .int .i64 p.wait.m, .int .i64 p.wait.d, .bool p.wait.k, .int .i64 p.exts, .int .i64 p.longest, .slice A p.hols.length c, .int .i64 s.phase, .int .i64 s.last, .int .i64 s.deadline, .int .i64 s.object, .int .i64 s.objected, .int .i64 s.extended] _ hs0.out.at_.range Tryz.underlying104 rfl stSize ?_)
  clear q0 q1 q2
  refine (may_any A c p s a _).mono ?_
  rintro e w1 ⟨rfl, hb1⟩
  have hs1 := Lib.hid (hs0.out.below hb1)
  have ha1 := Lib.hid (ha0.out.below hb1)
  have hr1 := Lib.hid (hr0.out.below hb1)
  have hbw := Lib.hid (below_step hb0.out hb1)
  clear hb1 hs0 ha0 hr0 hb0
  rw [hm.out]
  have d0 := ha1.out.c0
  have d1 := ha1.out.c1
  have c13 := hs1.out.at_.c13
  have f13 := hs1.out.free 13 (by omega)
  have hg2 := grown_set w1 w.heap.size 13 (.int .i64 a.day)
  have hs2 := Lib.hid (hs1.out.set 13 (.int .i64 a.day) { s with last := a.day } rfl (by omega))
  have hr2 := Lib.hid (hr1.out.grown hg2 (ne2 _))
  have hb2 := Lib.hid (below_of_grownB hbw.out hg2 (Nat.le_refl _))
  have ha2 := Lib.hid (ha1.out.grown hg2 (by simp))
  clear hg2
  have e0 := ha2.out.c0
  have e1 := ha2.out.c1
  have e2 := ha2.out.c2
  go_wp2_with fail
  clear c13 f13 d0 d1 e0 e1 e2
  refine (nbegin_any A c p { s with last := a.day } a.day w.heap.size w _ hb2.out (Nat.le_refl _) hs2.out hl.out hT.out).mono ?_
  rintro e w3 ⟨rfl, hs3, hg3⟩
  have hr3 := Lib.hid (hr2.out.grown hg3 (ne2 _))
  have hb3 := Lib.hid (below_of_grownB hb2.out hg3 (Nat.le_refl _))
  have hs3 : Hid (StW w3 w.heap.size A c p s') := hs'.out ▸ hs3
  clear hg3
  go_wp2_with (first
    | (refine wpList_load_mid rfl 104 (.tmp 2) rfl w.heap.size 0 rfl [.int .i64 p.runs.m, .int .i64 p.runs.d, .bool p.runs.k, .int .i64 p.obj.m, .int .i64 p.obj.d, .bool p.obj.k, .int .i64 p.wait.m, .int .i64 p.wait.d, .bool p.wait.k, .int .i64 p.exts, .int .i64 p.longest, .slice A p.hols.length c, .int .i64 s'.phase, .int .i64 s'.last, .int .i64 s'.deadline, .int .i64 s'.object, .int .i64 s'.objected, .int .i64 s'.extended] _ hs3.out.at_.range Tryz.underlying104 rfl stSize ?_)
    | (refine wpList_store_mid rfl 104 (.tmp 4) (.tmp 59) rfl (w.heap.size + 1 + 1) 0 #[.int .i64 p.runs.m, .int .i64 p.runs.d, .bool p.runs.k, .int .i64 p.obj.m, .int .i64 p.obj.d, .bool p.obj.k, .int .i64 p.wait.m, .int .i64 p.wait.d, .bool p.wait.k, .int .i64 p.exts, .int .i64 p.longest, .slice A p.hols.length c, .int .i64 s'.phase, .int .i64 s'.last, .int .i64 s'.deadline, .int .i64 s'.object, .int .i64 s'.objected, .int .i64 s'.extended] (by rfl) (by rfl) ?_ ?_ ?_ ?_; (exact hr3.out.there); (exact stSize); kernel_rfl))
  (try simp only [Exit.inBlock, Exit.then])
  refine bodyPost_ret (results_mid2 rfl _ _ (w.heap.size + 1 + 1) [.int .i64 p.runs.m, .int .i64 p.runs.d, .bool p.runs.k, .int .i64 p.obj.m, .int .i64 p.obj.d, .bool p.obj.k, .int .i64 p.wait.m, .int .i64 p.wait.d, .bool p.wait.k, .int .i64 p.exts, .int .i64 p.longest, .slice A p.hols.length c, .int .i64 s'.phase, .int .i64 s'.last, .int .i64 s'.deadline, .int .i64 s'.object, .int .i64 s'.objected, .int .i64 s'.extended] _ rfl (hr3.out.put [.int .i64 p.runs.m, .int .i64 p.runs.d, .bool p.runs.k, .int .i64 p.obj.m, .int .i64 p.obj.d, .bool p.obj.k, .int .i64 p.wait.m, .int .i64 p.wait.d, .bool p.wait.k, .int .i64 p.exts, .int .i64 p.longest, .slice A p.hols.length c, .int .i64 s'.phase, .int .i64 s'.last, .int .i64 s'.deadline, .int .i64 s'.object, .int .i64 s'.objected, .int .i64 s'.extended] rfl).range Tryz.underlying104 rfl stSize) rfl ⟨?_, below_of_grownB hb3.out (grown_setCells (w.heap.size + 1 + 1) [.int .i64 p.runs.m, .int .i64 p.runs.d, .bool p.runs.k, .int .i64 p.obj.m, .int .i64 p.obj.d, .bool p.obj.k, .int .i64 p.wait.m, .int .i64 p.wait.d, .bool p.wait.k, .int .i64 p.exts, .int .i64 p.longest, .slice A p.hols.length c, .int .i64 s'.phase, .int .i64 s'.last, .int .i64 s'.deadline, .int .i64 s'.object, .int .i64 s'.objected, .int .i64 s'.extended] 0 w3) (by omega)⟩
  rfl
set_option maxRecDepth 100000 in
set_option maxHeartbeats 4000000 in
theorem act_returned (A : Option Addr) (c : Nat) (p : Proc) (s s' : NSt) (a : NAct) (w : World) (hl : Hols w A p.hols) (hT : Tab w) (hm : Hid (Cal.mayErr p s a = 0)) (k0 : (a.kind == 0) = false) (k2 : (a.kind == 2) = false) (k1 : (a.kind == 1) = true) (hs' : Hid ({ s with last := a.day, phase := 2 } = s')) :
    Calls Tryz.prog 72 #[.agg #[.int .i64 p.runs.m, .int .i64 p.runs.d, .bool p.runs.k, .int .i64 p.obj.m, .int .i64 p.obj.d, .bool p.obj.k, .int .i64 p.wait.m, .int .i64 p.wait.d, .bool p.wait.k, .int .i64 p.exts, .int .i64 p.longest, .slice A p.hols.length c, .int .i64 s.phase, .int .i64 s.last, .int .i64 s.deadline, .int .i64 s.object, .int .i64 s.objected, .int .i64 s.extended], .agg #[.int .i64 a.day, .int .i64 a.kind, .int .i64 a.days]] w (ActPost w A c p (s', 0)) := by
  have hl := Lib.hid hl
  have hT := Lib.hid hT
  have hs0 := Lib.hid (W3_st w A c p s a)
  have ha0 := Lib.hid (W3_act w A c p s a)
  have hr0 := Lib.hid (W3_res w A c p s a)
  have hb0 := Lib.hid (W3_below w A c p s a)
  unfold W3 at hs0 ha0 hr0 hb0
  have q0 := ha0.out.c0
  have q1 := ha0.out.c1
  have q2 := ha0.out.c2
  go_enter Tryz.func72, Tryz.ntmps72
  go_wp2_with (refine wpList_load_mid rfl 104 (.tmp 2) rfl w.heap.size 0 rfl [.int .i64 p.runs.m, .int .i64 p.runs.d, .bool p.runs.k, .int .i64 p.obj.m, .int .i64 p.obj.d, .bool p.obj.k, .int .i64 p.wait.m, .int .i64 p.wait.d, .bool p.wait.k, .int .i64 p.exts, .int .i64 p.longest, .slice A p.hols.length c, .int .i64 s.phase, .int .i64 s.last, .int .i64 s.deadline, .int .i64 s.object, .int .i64 s.objected, .int .i64 s.extended] _ hs0.out.at_.range Tryz.underlying104 rfl stSize ?_)
  clear q0 q1 q2
  refine (may_any A c p s a _).mono ?_
  rintro e w1 ⟨rfl, hb1⟩
  have hs1 := Lib.hid (hs0.out.below hb1)
  have ha1 := Lib.hid (ha0.out.below hb1)
  have hr1 := Lib.hid (hr0.out.below hb1)
  have hbw := Lib.hid (below_step hb0.out hb1)
  clear hb1 hs0 ha0 hr0 hb0
  rw [hm.out]
  have d0 := ha1.out.c0
  have d1 := ha1.out.c1
  have c13 := hs1.out.at_.c13
  have f13 := hs1.out.free 13 (by omega)
  have hg2 := grown_set w1 w.heap.size 13 (.int .i64 a.day)
  have hs2 := Lib.hid (hs1.out.set 13 (.int .i64 a.day) { s with last := a.day } rfl (by omega))
  have hr2 := Lib.hid (hr1.out.grown hg2 (ne2 _))
  have hb2 := Lib.hid (below_of_grownB hbw.out hg2 (Nat.le_refl _))
  have ha2 := Lib.hid (ha1.out.grown hg2 (by simp))
  clear hg2
  have e0 := ha2.out.c0
  have e1 := ha2.out.c1
  have e2 := ha2.out.c2
  have c12 := hs2.out.at_.c12
  have f12 := hs2.out.free 12 (by omega)
  have hg3 := grown_set (w1.setCell ⟨w.heap.size, 13, none⟩ (.int .i64 a.day)) w.heap.size 12 (.int .i64 2)
  have hs3 : Hid (StW _ w.heap.size A c p s') := hs'.out ▸ hs2.out.set 12 (.int .i64 2) { s with last := a.day, phase := 2 } rfl (by omega)
  have hr3 := Lib.hid (hr2.out.grown hg3 (ne2 _))
  have hb3 := Lib.hid (below_of_grownB hb2.out hg3 (Nat.le_refl _))
  clear hg3
  go_wp2_with (first
    | (refine wpList_load_mid rfl 104 (.tmp 2) rfl w.heap.size 0 rfl [.int .i64 p.runs.m, .int .i64 p.runs.d, .bool p.runs.k, .int .i64 p.obj.m, .int .i64 p.obj.d, .bool p.obj.k, .int .i64 p.wait.m, .int .i64 p.wait.d, .bool p.wait.k, .int .i64 p.exts, .int .i64 p.longest, .slice A p.hols.length c, .int .i64 s'.phase, .int .i64 s'.last, .int .i64 s'.deadline, .int .i64 s'.object, .int .i64 s'.objected, .int .i64 s'.extended] _ hs3.out.at_.range Tryz.underlying104 rfl stSize ?_)
    | (refine wpList_store_mid rfl 104 (.tmp 4) (.tmp 59) rfl (w.heap.size + 1 + 1) 0 #[.int .i64 p.runs.m, .int .i64 p.runs.d, .bool p.runs.k, .int .i64 p.obj.m, .int .i64 p.obj.d, .bool p.obj.k, .int .i64 p.wait.m, .int .i64 p.wait.d, .bool p.wait.k, .int .i64 p.exts, .int .i64 p.longest, .slice A p.hols.length c, .int .i64 s'.phase, .int .i64 s'.last, .int .i64 s'.deadline, .int .i64 s'.object, .int .i64 s'.objected, .int .i64 s'.extended] (by rfl) (by rfl) ?_ ?_ ?_ ?_; (exact hr3.out.there); (exact stSize); kernel_rfl))
  (try simp only [Exit.inBlock, Exit.then])
  refine bodyPost_ret (results_mid2 rfl _ _ (w.heap.size + 1 + 1) [.int .i64 p.runs.m, .int .i64 p.runs.d, .bool p.runs.k, .int .i64 p.obj.m, .int .i64 p.obj.d, .bool p.obj.k, .int .i64 p.wait.m, .int .i64 p.wait.d, .bool p.wait.k, .int .i64 p.exts, .int .i64 p.longest, .slice A p.hols.length c, .int .i64 s'.phase, .int .i64 s'.last, .int .i64 s'.deadline, .int .i64 s'.object, .int .i64 s'.objected, .int .i64 s'.extended] _ rfl (hr3.out.put [.int .i64 p.runs.m, .int .i64 p.runs.d, .bool p.runs.k, .int .i64 p.obj.m, .int .i64 p.obj.d, .bool p.obj.k, .int .i64 p.wait.m, .int .i64 p.wait.d, .bool p.wait.k, .int .i64 p.exts, .int .i64 p.longest, .slice A p.hols.length c, .int .i64 s'.phase, .int .i64 s'.last, .int .i64 s'.deadline, .int .i64 s'.object, .int .i64 s'.objected, .int .i64 s'.extended] rfl).range Tryz.underlying104 rfl stSize) rfl ⟨?_, below_of_grownB hb3.out (grown_setCells (w.heap.size + 1 + 1) [.int .i64 p.runs.m, .int .i64 p.runs.d, .bool p.runs.k, .int .i64 p.obj.m, .int .i64 p.obj.d, .bool p.obj.k, .int .i64 p.wait.m, .int .i64 p.wait.d, .bool p.wait.k, .int .i64 p.exts, .int .i64 p.longest, .slice A p.hols.length c, .int .i64 s'.phase, .int .i64 s'.last, .int .i64 s'.deadline, .int .i64 s'.object, .int .i64 s'.objected, .int .i64 s'.extended] 0 _) (by omega)⟩
  rfl
set_option maxRecDepth 100000 in
set_option maxHeartbeats 4000000 in
theorem act_upheld (A : Option Addr) (c : Nat) (p : Proc) (s s' : NSt) (a : NAct) (w : World) (hl : Hols w A p.hols) (hT : Tab w) (hm : Hid (Cal.mayErr p s a = 0)) (k0 : (a.kind == 0) = false) (k2 : (a.kind == 2) = false) (k1 : (a.kind == 1) = false) (k3 : (a.kind == 3) = false) (k4 : (a.kind == 4) = false) (k6 : (a.kind == 6) = false) (k5 : (a.kind == 5) = true) (hs' : Hid ({ s with last := a.day, phase := 5 } = s')) :
    Calls Tryz.prog 72 #[.agg #[.int .i64 p.runs.m, .int .i64 p.runs.d, .bool p.runs.k, .int .i64 p.obj.m, .int .i64 p.obj.d, .bool p.obj.k, .int .i64 p.wait.m, .int .i64 p.wait.d, .bool p.wait.k, .int .i64 p.exts, .int .i64 p.longest, .slice A p.hols.length c, .int .i64 s.phase, .int .i64 s.last, .int .i64 s.deadline, .int .i64 s.object, .int .i64 s.objected, .int .i64 s.extended], .agg #[.int .i64 a.day, .int .i64 a.kind, .int .i64 a.days]] w (ActPost w A c p (s', 0)) := by
  have hl := Lib.hid hl
  have hT := Lib.hid hT
  have hs0 := Lib.hid (W3_st w A c p s a)
  have ha0 := Lib.hid (W3_act w A c p s a)
  have hr0 := Lib.hid (W3_res w A c p s a)
  have hb0 := Lib.hid (W3_below w A c p s a)
  unfold W3 at hs0 ha0 hr0 hb0
  have q0 := ha0.out.c0
  have q1 := ha0.out.c1
  have q2 := ha0.out.c2
  go_enter Tryz.func72, Tryz.ntmps72
  go_wp2_with (refine wpList_load_mid rfl 104 (.tmp 2) rfl w.heap.size 0 rfl [.int .i64 p.runs.m, .int .i64 p.runs.d, .bool p.runs.k, .int .i64 p.obj.m, .int .i64 p.obj.d, .bool p.obj.k, .int .i64 p.wait.m, .int .i64 p.wait.d, .bool p.wait.k, .int .i64 p.exts, .int .i64 p.longest, .slice A p.hols.length c, .int .i64 s.phase, .int .i64 s.last, .int .i64 s.deadline, .int .i64 s.object, .int .i64 s.objected, .int .i64 s.extended] _ hs0.out.at_.range Tryz.underlying104 rfl stSize ?_)
  clear q0 q1 q2
  refine (may_any A c p s a _).mono ?_
  rintro e w1 ⟨rfl, hb1⟩
  have hs1 := Lib.hid (hs0.out.below hb1)
  have ha1 := Lib.hid (ha0.out.below hb1)
  have hr1 := Lib.hid (hr0.out.below hb1)
  have hbw := Lib.hid (below_step hb0.out hb1)
  clear hb1 hs0 ha0 hr0 hb0
  rw [hm.out]
  have d0 := ha1.out.c0
  have d1 := ha1.out.c1
  have c13 := hs1.out.at_.c13
  have f13 := hs1.out.free 13 (by omega)
  have hg2 := grown_set w1 w.heap.size 13 (.int .i64 a.day)
  have hs2 := Lib.hid (hs1.out.set 13 (.int .i64 a.day) { s with last := a.day } rfl (by omega))
  have hr2 := Lib.hid (hr1.out.grown hg2 (ne2 _))
  have hb2 := Lib.hid (below_of_grownB hbw.out hg2 (Nat.le_refl _))
  have ha2 := Lib.hid (ha1.out.grown hg2 (by simp))
  clear hg2
  have e0 := ha2.out.c0
  have e1 := ha2.out.c1
  have e2 := ha2.out.c2
  have c12 := hs2.out.at_.c12
  have f12 := hs2.out.free 12 (by omega)
  have hg3 := grown_set (w1.setCell ⟨w.heap.size, 13, none⟩ (.int .i64 a.day)) w.heap.size 12 (.int .i64 5)
  have hs3 : Hid (StW _ w.heap.size A c p s') := hs'.out ▸ hs2.out.set 12 (.int .i64 5) { s with last := a.day, phase := 5 } rfl (by omega)
  have hr3 := Lib.hid (hr2.out.grown hg3 (ne2 _))
  have hb3 := Lib.hid (below_of_grownB hb2.out hg3 (Nat.le_refl _))
  clear hg3
  go_wp2_with (first
    | (refine wpList_load_mid rfl 104 (.tmp 2) rfl w.heap.size 0 rfl [.int .i64 p.runs.m, .int .i64 p.runs.d, .bool p.runs.k, .int .i64 p.obj.m, .int .i64 p.obj.d, .bool p.obj.k, .int .i64 p.wait.m, .int .i64 p.wait.d, .bool p.wait.k, .int .i64 p.exts, .int .i64 p.longest, .slice A p.hols.length c, .int .i64 s'.phase, .int .i64 s'.last, .int .i64 s'.deadline, .int .i64 s'.object, .int .i64 s'.objected, .int .i64 s'.extended] _ hs3.out.at_.range Tryz.underlying104 rfl stSize ?_)
    | (refine wpList_store_mid rfl 104 (.tmp 4) (.tmp 59) rfl (w.heap.size + 1 + 1) 0 #[.int .i64 p.runs.m, .int .i64 p.runs.d, .bool p.runs.k, .int .i64 p.obj.m, .int .i64 p.obj.d, .bool p.obj.k, .int .i64 p.wait.m, .int .i64 p.wait.d, .bool p.wait.k, .int .i64 p.exts, .int .i64 p.longest, .slice A p.hols.length c, .int .i64 s'.phase, .int .i64 s'.last, .int .i64 s'.deadline, .int .i64 s'.object, .int .i64 s'.objected, .int .i64 s'.extended] (by rfl) (by rfl) ?_ ?_ ?_ ?_; (exact hr3.out.there); (exact stSize); kernel_rfl))
  (try simp only [Exit.inBlock, Exit.then])
  refine bodyPost_ret (results_mid2 rfl _ _ (w.heap.size + 1 + 1) [.int .i64 p.runs.m, .int .i64 p.runs.d, .bool p.runs.k, .int .i64 p.obj.m, .int .i64 p.obj.d, .bool p.obj.k, .int .i64 p.wait.m, .int .i64 p.wait.d, .bool p.wait.k, .int .i64 p.exts, .int .i64 p.longest, .slice A p.hols.length c, .int .i64 s'.phase, .int .i64 s'.last, .int .i64 s'.deadline, .int .i64 s'.object, .int .i64 s'.objected, .int .i64 s'.extended] _ rfl (hr3.out.put [.int .i64 p.runs.m, .int .i64 p.runs.d, .bool p.runs.k, .int .i64 p.obj.m, .int .i64 p.obj.d, .bool p.obj.k, .int .i64 p.wait.m, .int .i64 p.wait.d, .bool p.wait.k, .int .i64 p.exts, .int .i64 p.longest, .slice A p.hols.length c, .int .i64 s'.phase, .int .i64 s'.last, .int .i64 s'.deadline, .int .i64 s'.object, .int .i64 s'.objected, .int .i64 s'.extended] rfl).range Tryz.underlying104 rfl stSize) rfl ⟨?_, below_of_grownB hb3.out (grown_setCells (w.heap.size + 1 + 1) [.int .i64 p.runs.m, .int .i64 p.runs.d, .bool p.runs.k, .int .i64 p.obj.m, .int .i64 p.obj.d, .bool p.obj.k, .int .i64 p.wait.m, .int .i64 p.wait.d, .bool p.wait.k, .int .i64 p.exts, .int .i64 p.longest, .slice A p.hols.length c, .int .i64 s'.phase, .int .i64 s'.last, .int .i64 s'.deadline, .int .i64 s'.object, .int .i64 s'.objected, .int .i64 s'.extended] 0 _) (by omega)⟩
  rfl
set_option maxRecDepth 100000 in
set_option maxHeartbeats 4000000 in
theorem act_remedied (A : Option Addr) (c : Nat) (p : Proc) (s s' : NSt) (a : NAct) (w : World) (hl : Hols w A p.hols) (hT : Tab w) (hm : Hid (Cal.mayErr p s a = 0)) (k0 : (a.kind == 0) = false) (k2 : (a.kind == 2) = false) (k1 : (a.kind == 1) = false) (k3 : (a.kind == 3) = false) (k4 : (a.kind == 4) = false) (k6 : (a.kind == 6) = false) (k5 : (a.kind == 5) = false) (k7 : (a.kind == 7) = true) (hs' : Hid ({ s with last := a.day, phase := 4 } = s')) :
    Calls Tryz.prog 72 #[.agg #[.int .i64 p.runs.m, .int .i64 p.runs.d, .bool p.runs.k, .int .i64 p.obj.m, .int .i64 p.obj.d, .bool p.obj.k, .int .i64 p.wait.m, .int .i64 p.wait.d, .bool p.wait.k, .int .i64 p.exts, .int .i64 p.longest, .slice A p.hols.length c, .int .i64 s.phase, .int .i64 s.last, .int .i64 s.deadline, .int .i64 s.object, .int .i64 s.objected, .int .i64 s.extended], .agg #[.int .i64 a.day, .int .i64 a.kind, .int .i64 a.days]] w (ActPost w A c p (s', 0)) := by
  have hl := Lib.hid hl
  have hT := Lib.hid hT
  have hs0 := Lib.hid (W3_st w A c p s a)
  have ha0 := Lib.hid (W3_act w A c p s a)
  have hr0 := Lib.hid (W3_res w A c p s a)
  have hb0 := Lib.hid (W3_below w A c p s a)
  unfold W3 at hs0 ha0 hr0 hb0
  have q0 := ha0.out.c0
  have q1 := ha0.out.c1
  have q2 := ha0.out.c2
  go_enter Tryz.func72, Tryz.ntmps72
  go_wp2_with (refine wpList_load_mid rfl 104 (.tmp 2) rfl w.heap.size 0 rfl [.int .i64 p.runs.m, .int .i64 p.runs.d, .bool p.runs.k, .int .i64 p.obj.m, .int .i64 p.obj.d, .bool p.obj.k, .int .i64 p.wait.m, .int .i64 p.wait.d, .bool p.wait.k, .int .i64 p.exts, .int .i64 p.longest, .slice A p.hols.length c, .int .i64 s.phase, .int .i64 s.last, .int .i64 s.deadline, .int .i64 s.object, .int .i64 s.objected, .int .i64 s.extended] _ hs0.out.at_.range Tryz.underlying104 rfl stSize ?_)
  clear q0 q1 q2
  refine (may_any A c p s a _).mono ?_
  rintro e w1 ⟨rfl, hb1⟩
  have hs1 := Lib.hid (hs0.out.below hb1)
  have ha1 := Lib.hid (ha0.out.below hb1)
  have hr1 := Lib.hid (hr0.out.below hb1)
  have hbw := Lib.hid (below_step hb0.out hb1)
  clear hb1 hs0 ha0 hr0 hb0
  rw [hm.out]
  have d0 := ha1.out.c0
  have d1 := ha1.out.c1
  have c13 := hs1.out.at_.c13
  have f13 := hs1.out.free 13 (by omega)
  have hg2 := grown_set w1 w.heap.size 13 (.int .i64 a.day)
  have hs2 := Lib.hid (hs1.out.set 13 (.int .i64 a.day) { s with last := a.day } rfl (by omega))
  have hr2 := Lib.hid (hr1.out.grown hg2 (ne2 _))
  have hb2 := Lib.hid (below_of_grownB hbw.out hg2 (Nat.le_refl _))
  have ha2 := Lib.hid (ha1.out.grown hg2 (by simp))
  clear hg2
  have e0 := ha2.out.c0
  have e1 := ha2.out.c1
  have e2 := ha2.out.c2
  have c12 := hs2.out.at_.c12
  have f12 := hs2.out.free 12 (by omega)
  have hg3 := grown_set (w1.setCell ⟨w.heap.size, 13, none⟩ (.int .i64 a.day)) w.heap.size 12 (.int .i64 4)
  have hs3 : Hid (StW _ w.heap.size A c p s') := hs'.out ▸ hs2.out.set 12 (.int .i64 4) { s with last := a.day, phase := 4 } rfl (by omega)
  have hr3 := Lib.hid (hr2.out.grown hg3 (ne2 _))
  have hb3 := Lib.hid (below_of_grownB hb2.out hg3 (Nat.le_refl _))
  clear hg3
  go_wp2_with (first
    | (refine wpList_load_mid rfl 104 (.tmp 2) rfl w.heap.size 0 rfl [.int .i64 p.runs.m, .int .i64 p.runs.d, .bool p.runs.k, .int .i64 p.obj.m, .int .i64 p.obj.d, .bool p.obj.k, .int .i64 p.wait.m, .int .i64 p.wait.d, .bool p.wait.k, .int .i64 p.exts, .int .i64 p.longest, .slice A p.hols.length c, .int .i64 s'.phase, .int .i64 s'.last, .int .i64 s'.deadline, .int .i64 s'.object, .int .i64 s'.objected, .int .i64 s'.extended] _ hs3.out.at_.range Tryz.underlying104 rfl stSize ?_)
    | (refine wpList_store_mid rfl 104 (.tmp 4) (.tmp 59) rfl (w.heap.size + 1 + 1) 0 #[.int .i64 p.runs.m, .int .i64 p.runs.d, .bool p.runs.k, .int .i64 p.obj.m, .int .i64 p.obj.d, .bool p.obj.k, .int .i64 p.wait.m, .int .i64 p.wait.d, .bool p.wait.k, .int .i64 p.exts, .int .i64 p.longest, .slice A p.hols.length c, .int .i64 s'.phase, .int .i64 s'.last, .int .i64 s'.deadline, .int .i64 s'.object, .int .i64 s'.objected, .int .i64 s'.extended] (by rfl) (by rfl) ?_ ?_ ?_ ?_; (exact hr3.out.there); (exact stSize); kernel_rfl))
  (try simp only [Exit.inBlock, Exit.then])
  refine bodyPost_ret (results_mid2 rfl _ _ (w.heap.size + 1 + 1) [.int .i64 p.runs.m, .int .i64 p.runs.d, .bool p.runs.k, .int .i64 p.obj.m, .int .i64 p.obj.d, .bool p.obj.k, .int .i64 p.wait.m, .int .i64 p.wait.d, .bool p.wait.k, .int .i64 p.exts, .int .i64 p.longest, .slice A p.hols.length c, .int .i64 s'.phase, .int .i64 s'.last, .int .i64 s'.deadline, .int .i64 s'.object, .int .i64 s'.objected, .int .i64 s'.extended] _ rfl (hr3.out.put [.int .i64 p.runs.m, .int .i64 p.runs.d, .bool p.runs.k, .int .i64 p.obj.m, .int .i64 p.obj.d, .bool p.obj.k, .int .i64 p.wait.m, .int .i64 p.wait.d, .bool p.wait.k, .int .i64 p.exts, .int .i64 p.longest, .slice A p.hols.length c, .int .i64 s'.phase, .int .i64 s'.last, .int .i64 s'.deadline, .int .i64 s'.object, .int .i64 s'.objected, .int .i64 s'.extended] rfl).range Tryz.underlying104 rfl stSize) rfl ⟨?_, below_of_grownB hb3.out (grown_setCells (w.heap.size + 1 + 1) [.int .i64 p.runs.m, .int .i64 p.runs.d, .bool p.runs.k, .int .i64 p.obj.m, .int .i64 p.obj.d, .bool p.obj.k, .int .i64 p.wait.m, .int .i64 p.wait.d, .bool p.wait.k, .int .i64 p.exts, .int .i64 p.longest, .slice A p.hols.length c, .int .i64 s'.phase, .int .i64 s'.last, .int .i64 s'.deadline, .int .i64 s'.object, .int .i64 s'.objected, .int .i64 s'.extended] 0 _) (by omega)⟩
  rfl
end Go.Proofs.YtconnjkkgaapbaaGreatDoor
