/- Chapter 8 and what it rests on: definitions and walks, part 23. -/
import Derived.Test.YtbegbajlagcbdaaGreatDoorC22
namespace Go.Proofs.YtbegbajlagcbdaaGreatDoor
open Go Go.RowKit
def ActPost (w : World) (A : Option Addr) (c : Nat) (p : Proc) (r : NSt × Int) (e : Ending) (w' : World) : Prop :=
  e = .returned (.tuple #[.agg #[.int .i64 p.runs.m, .int .i64 p.runs.d, .bool p.runs.k, .int .i64 p.obj.m, .int .i64 p.obj.d, .bool p.obj.k, .int .i64 p.wait.m, .int .i64 p.wait.d, .bool p.wait.k, .int .i64 p.exts, .int .i64 p.longest, .slice A p.hols.length c, .int .i64 r.1.phase, .int .i64 r.1.last, .int .i64 r.1.deadline, .int .i64 r.1.object, .int .i64 r.1.objected, .int .i64 r.1.extended], .int .i64 r.2]) ∧ Below w.heap.size w w'
def W3 (w : World) (A : Option Addr) (c : Nat) (p : Proc) (s : NSt) (a : NAct) : World :=
  ((w.alloc (.cells #[.int .i64 p.runs.m, .int .i64 p.runs.d, .bool p.runs.k, .int .i64 p.obj.m, .int .i64 p.obj.d, .bool p.obj.k, .int .i64 p.wait.m, .int .i64 p.wait.d, .bool p.wait.k, .int .i64 p.exts, .int .i64 p.longest, .slice A p.hols.length c, .int .i64 s.phase, .int .i64 s.last, .int .i64 s.deadline, .int .i64 s.object, .int .i64 s.objected, .int .i64 s.extended] 134)).alloc (.cells #[.int .i64 a.day, .int .i64 a.kind, .int .i64 a.days] 109)).alloc (.cells #[.int .i64 0, .int .i64 0, .bool false, .int .i64 0, .int .i64 0, .bool false, .int .i64 0, .int .i64 0, .bool false, .int .i64 0, .int .i64 0, .slice none 0 0, .int .i64 0, .int .i64 0, .int .i64 0, .int .i64 0, .int .i64 0, .int .i64 0] 134)
theorem W3_st (w : World) (A : Option Addr) (c : Nat) (p : Proc) (s : NSt) (a : NAct) : StW (W3 w A c p s a) w.heap.size A c p s := BoxAt.st (((BoxAt.new w _ _).alloc _).alloc _)
theorem W3_act (w : World) (A : Option Addr) (c : Nat) (p : Proc) (s : NSt) (a : NAct) : ActAt (W3 w A c p s a) (w.heap.size + 1) a := by
  have h := (BoxAt.new (w.alloc (.cells #[.int .i64 p.runs.m, .int .i64 p.runs.d, .bool p.runs.k, .int .i64 p.obj.m, .int .i64 p.obj.d, .bool p.obj.k, .int .i64 p.wait.m, .int .i64 p.wait.d, .bool p.wait.k, .int .i64 p.exts, .int .i64 p.longest, .slice A p.hols.length c, .int .i64 s.phase, .int .i64 s.last, .int .i64 s.deadline, .int .i64 s.object, .int .i64 s.objected, .int .i64 s.extended] 134)) #[.int .i64 a.day, .int .i64 a.kind, .int .i64 a.days] 109).alloc (.cells #[.int .i64 0, .int .i64 0, .bool false, .int .i64 0, .int .i64 0, .bool false, .int .i64 0, .int .i64 0, .bool false, .int .i64 0, .int .i64 0, .slice none 0 0, .int .i64 0, .int .i64 0, .int .i64 0, .int .i64 0, .int .i64 0, .int .i64 0] 134)
  rw [World.size_alloc] at h
  exact BoxAt.act h
theorem W3_res (w : World) (A : Option Addr) (c : Nat) (p : Proc) (s : NSt) (a : NAct) : BoxAt (W3 w A c p s a) (w.heap.size + 1 + 1) [.int .i64 0, .int .i64 0, .bool false, .int .i64 0, .int .i64 0, .bool false, .int .i64 0, .int .i64 0, .bool false, .int .i64 0, .int .i64 0, .slice none 0 0, .int .i64 0, .int .i64 0, .int .i64 0, .int .i64 0, .int .i64 0, .int .i64 0] := by
  have h := BoxAt.new ((w.alloc (.cells #[.int .i64 p.runs.m, .int .i64 p.runs.d, .bool p.runs.k, .int .i64 p.obj.m, .int .i64 p.obj.d, .bool p.obj.k, .int .i64 p.wait.m, .int .i64 p.wait.d, .bool p.wait.k, .int .i64 p.exts, .int .i64 p.longest, .slice A p.hols.length c, .int .i64 s.phase, .int .i64 s.last, .int .i64 s.deadline, .int .i64 s.object, .int .i64 s.objected, .int .i64 s.extended] 134)).alloc (.cells #[.int .i64 a.day, .int .i64 a.kind, .int .i64 a.days] 109)) #[.int .i64 0, .int .i64 0, .bool false, .int .i64 0, .int .i64 0, .bool false, .int .i64 0, .int .i64 0, .bool false, .int .i64 0, .int .i64 0, .slice none 0 0, .int .i64 0, .int .i64 0, .int .i64 0, .int .i64 0, .int .i64 0, .int .i64 0] 134
  rw [World.size_alloc, World.size_alloc] at h
  exact h
theorem W3_below (w : World) (A : Option Addr) (c : Nat) (p : Proc) (s : NSt) (a : NAct) : Below w.heap.size w (W3 w A c p s a) := below_step (below_step (below_alloc _ _) (below_alloc _ _)) (below_alloc _ _)
set_option maxRecDepth 100000 in
set_option maxHeartbeats 4000000 in
theorem act_bad (A : Option Addr) (c : Nat) (p : Proc) (s : NSt) (a : NAct) (w : World) (E : Int) (hE : Hid (Cal.mayErr p s a = E)) (he : (E != 0) = true) :
    Calls Tryz.prog 183 #[.agg #[.int .i64 p.runs.m, .int .i64 p.runs.d, .bool p.runs.k, .int .i64 p.obj.m, .int .i64 p.obj.d, .bool p.obj.k, .int .i64 p.wait.m, .int .i64 p.wait.d, .bool p.wait.k, .int .i64 p.exts, .int .i64 p.longest, .slice A p.hols.length c, .int .i64 s.phase, .int .i64 s.last, .int .i64 s.deadline, .int .i64 s.object, .int .i64 s.objected, .int .i64 s.extended], .agg #[.int .i64 a.day, .int .i64 a.kind, .int .i64 a.days]] w (ActPost w A c p (s, E)) := by
  have hs0 := Lib.hid (W3_st w A c p s a)
  have ha0 := Lib.hid (W3_act w A c p s a)
  have hr0 := Lib.hid (W3_res w A c p s a)
  have hb0 := Lib.hid (W3_below w A c p s a)
  unfold W3 at hs0 ha0 hr0 hb0
  have q0 := ha0.out.c0
  have q1 := ha0.out.c1
  have q2 := ha0.out.c2
  go_enter Tryz.func183, Tryz.ntmps183
  go_wp2_with (refine wpList_load_mid rfl 134 (.tmp 2) rfl w.heap.size 0 rfl [.int .i64 p.runs.m, .int .i64 p.runs.d, .bool p.runs.k, .int .i64 p.obj.m, .int .i64 p.obj.d, .bool p.obj.k, .int .i64 p.wait.m, .int .i64 p.wait.d, .bool p.wait.k, .int .i64 p.exts, .int .i64 p.longest, .slice A p.hols.length c, .int .i64 s.phase, .int .i64 s.last, .int .i64 s.deadline, .int .i64 s.object, .int .i64 s.objected, .int .i64 s.extended] _ hs0.out.at_.range Tryz.underlying134 rfl stSize ?_)
  clear q0 q1 q2
  refine (may_any A c p s a _).mono ?_
  rintro e w1 ⟨rfl, hb1⟩
  have hs1 := Lib.hid (hs0.out.below hb1)
  have ha1 := Lib.hid (ha0.out.below hb1)
  have hr1 := Lib.hid (hr0.out.below hb1)
  have hbw := Lib.hid (below_step hb0.out hb1)
  clear hb1 hs0 ha0 hr0 hb0
  rw [hE.out]
  go_wp2_with (first
    | (refine wpList_load_mid rfl 134 (.tmp 2) rfl w.heap.size 0 rfl [.int .i64 p.runs.m, .int .i64 p.runs.d, .bool p.runs.k, .int .i64 p.obj.m, .int .i64 p.obj.d, .bool p.obj.k, .int .i64 p.wait.m, .int .i64 p.wait.d, .bool p.wait.k, .int .i64 p.exts, .int .i64 p.longest, .slice A p.hols.length c, .int .i64 s.phase, .int .i64 s.last, .int .i64 s.deadline, .int .i64 s.object, .int .i64 s.objected, .int .i64 s.extended] _ hs1.out.at_.range Tryz.underlying134 rfl stSize ?_)
    | ((refine wpList_store_mid rfl 134 (.tmp 4) (.tmp 13) rfl (w.heap.size + 1 + 1) 0 #[.int .i64 p.runs.m, .int .i64 p.runs.d, .bool p.runs.k, .int .i64 p.obj.m, .int .i64 p.obj.d, .bool p.obj.k, .int .i64 p.wait.m, .int .i64 p.wait.d, .bool p.wait.k, .int .i64 p.exts, .int .i64 p.longest, .slice A p.hols.length c, .int .i64 s.phase, .int .i64 s.last, .int .i64 s.deadline, .int .i64 s.object, .int .i64 s.objected, .int .i64 s.extended] (by rfl) (by rfl) ?_ ?_ ?_ ?_; (exact hr1.out.there); (exact stSize); kernel_rfl); have hr2 := Lib.hid (hr1.out.put [.int .i64 p.runs.m, .int .i64 p.runs.d, .bool p.runs.k, .int .i64 p.obj.m, .int .i64 p.obj.d, .bool p.obj.k, .int .i64 p.wait.m, .int .i64 p.wait.d, .bool p.wait.k, .int .i64 p.exts, .int .i64 p.longest, .slice A p.hols.length c, .int .i64 s.phase, .int .i64 s.last, .int .i64 s.deadline, .int .i64 s.object, .int .i64 s.objected, .int .i64 s.extended] rfl); have hb2 := Lib.hid (below_of_grownB hbw.out (grown_setCells (w.heap.size + 1 + 1) [.int .i64 p.runs.m, .int .i64 p.runs.d, .bool p.runs.k, .int .i64 p.obj.m, .int .i64 p.obj.d, .bool p.obj.k, .int .i64 p.wait.m, .int .i64 p.wait.d, .bool p.wait.k, .int .i64 p.exts, .int .i64 p.longest, .slice A p.hols.length c, .int .i64 s.phase, .int .i64 s.last, .int .i64 s.deadline, .int .i64 s.object, .int .i64 s.objected, .int .i64 s.extended] 0 w1) (by omega))))

  (try simp only [Exit.inBlock, Exit.then])
  refine bodyPost_ret (results_mid2 rfl _ _ (w.heap.size + 1 + 1) _ _ rfl hr2.out.range Tryz.underlying134 rfl stSize) rfl ⟨?_, hb2.out⟩
  rfl
theorem ActAt.grown {w w' : World} {row : Option Nat} {B : Nat} {a : NAct} (h : ActAt w B a) (hg : w.grownBy w' row) (hne : some B ≠ row) : ActAt w' B a :=
  ⟨(World.cell?_of_block (a := ⟨B, 0, none⟩) (hg.block B h.lt hne)).trans h.c0, (World.cell?_of_block (a := ⟨B, 1, none⟩) (hg.block B h.lt hne)).trans h.c1, (World.cell?_of_block (a := ⟨B, 2, none⟩) (hg.block B h.lt hne)).trans h.c2, Nat.lt_of_lt_of_le h.lt hg.size⟩
theorem ne2 (n : Nat) : some (n + 1 + 1) ≠ some n := by simp; omega
set_option maxRecDepth 100000 in
set_option maxHeartbeats 4000000 in
theorem act_served (A : Option Addr) (c : Nat) (p : Proc) (s s' : NSt) (a : NAct) (w : World) (hl : Hols w A p.hols) (hT : Tab w) (hm : Hid (Cal.mayErr p s a = 0)) (k0 : (a.kind == 0) = true) (hs' : Hid ({ s with last := a.day, phase := 1, deadline := (Cal.dlS p.hols a.day p.runs.m p.runs.d p.runs.k).1, object := (Cal.dlS p.hols a.day p.obj.m p.obj.d p.obj.k).1 } = s')) :
    Calls Tryz.prog 183 #[.agg #[.int .i64 p.runs.m, .int .i64 p.runs.d, .bool p.runs.k, .int .i64 p.obj.m, .int .i64 p.obj.d, .bool p.obj.k, .int .i64 p.wait.m, .int .i64 p.wait.d, .bool p.wait.k, .int .i64 p.exts, .int .i64 p.longest, .slice A p.hols.length c, .int .i64 s.phase, .int .i64 s.last, .int .i64 s.deadline, .int .i64 s.object, .int .i64 s.objected, .int .i64 s.extended], .agg #[.int .i64 a.day, .int .i64 a.kind, .int .i64 a.days]] w (ActPost w A c p (s', Cal.begE p a.day)) := by
  have hl := Lib.hid hl
  have hT := Lib.hid hT
  have hs0 := Lib.hid (W3_st w A c p s a)
  have ha0 := Lib.hid (W3_act w A c p s a)
  have hr0 := Lib.hid (W3_res w A c p s a)
  have hb0 := Lib.hid (W3_below w A c p s a)
  unfold W3 at hs0 ha0 hr0 hb0
  have q0 := ha0.out.c0
  have q1 := ha0.out.c1
  have q2 := ha0.out.c2
  go_enter Tryz.func183, Tryz.ntmps183
  go_wp2_with (refine wpList_load_mid rfl 134 (.tmp 2) rfl w.heap.size 0 rfl [.int .i64 p.runs.m, .int .i64 p.runs.d, .bool p.runs.k, .int .i64 p.obj.m, .int .i64 p.obj.d, .bool p.obj.k, .int .i64 p.wait.m, .int .i64 p.wait.d, .bool p.wait.k, .int .i64 p.exts, .int .i64 p.longest, .slice A p.hols.length c, .int .i64 s.phase, .int .i64 s.last, .int .i64 s.deadline, .int .i64 s.object, .int .i64 s.objected, .int .i64 s.extended] _ hs0.out.at_.range Tryz.underlying134 rfl stSize ?_)
  clear q0 q1 q2
  refine (may_any A c p s a _).mono ?_
  rintro e w1 ⟨rfl, hb1⟩
  have hs1 := Lib.hid (hs0.out.below hb1)
  have ha1 := Lib.hid (ha0.out.below hb1)
  have hr1 := Lib.hid (hr0.out.below hb1)
  have hbw := Lib.hid (below_step hb0.out hb1)
  clear hb1 hs0 ha0 hr0 hb0
  rw [hm.out]
  have d0 := ha1.out.c0
  have d1 := ha1.out.c1
  have c13 := hs1.out.at_.c13
  have f13 := hs1.out.free 13 (by omega)
  have hg2 := grown_set w1 w.heap.size 13 (.int .i64 a.day)
  have hs2 := Lib.hid (hs1.out.set 13 (.int .i64 a.day) { s with last := a.day } rfl (by omega))
  have hr2 := Lib.hid (hr1.out.grown hg2 (ne2 _))
  have hb2 := Lib.hid (below_of_grownB hbw.out hg2 (Nat.le_refl _))
  have ha2 := Lib.hid (ha1.out.grown hg2 (by simp))
  clear hg2
  have e0 := ha2.out.c0
  have e1 := ha2.out.c1
  have e2 := ha2.out.c2
  go_wp2_with fail
  clear c13 f13 d0 d1 e0 e1 e2
  refine (nbegin_any A c p { s with last := a.day } a.day w.heap.size w _ hb2.out (Nat.le_refl _) hs2.out hl.out hT.out).mono ?_
  rintro e w3 ⟨rfl, hs3, hg3⟩
  have hr3 := Lib.hid (hr2.out.grown hg3 (ne2 _))
  have hb3 := Lib.hid (below_of_grownB hb2.out hg3 (Nat.le_refl _))
  have hs3 : Hid (StW w3 w.heap.size A c p s') := hs'.out ▸ hs3
  clear hg3
  go_wp2_with (first
    | (refine wpList_load_mid rfl 134 (.tmp 2) rfl w.heap.size 0 rfl [.int .i64 p.runs.m, .int .i64 p.runs.d, .bool p.runs.k, .int .i64 p.obj.m, .int .i64 p.obj.d, .bool p.obj.k, .int .i64 p.wait.m, .int .i64 p.wait.d, .bool p.wait.k, .int .i64 p.exts, .int .i64 p.longest, .slice A p.hols.length c, .int .i64 s'.phase, .int .i64 s'.last, .int .i64 s'.deadline, .int .i64 s'.object, .int .i64 s'.objected, .int .i64 s'.extended] _ hs3.out.at_.range Tryz.underlying134 rfl stSize ?_)
    | (refine wpList_store_mid rfl 134 (.tmp 4) (.tmp 59) rfl (w.heap.size + 1 + 1) 0 #[.int .i64 p.runs.m, .int .i64 p.runs.d, .bool p.runs.k, .int .i64 p.obj.m, .int .i64 p.obj.d, .bool p.obj.k, .int .i64 p.wait.m, .int .i64 p.wait.d, .bool p.wait.k, .int .i64 p.exts, .int .i64 p.longest, .slice A p.hols.length c, .int .i64 s'.phase, .int .i64 s'.last, .int .i64 s'.deadline, .int .i64 s'.object, .int .i64 s'.objected, .int .i64 s'.extended] (by rfl) (by rfl) ?_ ?_ ?_ ?_; (exact hr3.out.there); (exact stSize); kernel_rfl))
  (try simp only [Exit.inBlock, Exit.then])
  refine bodyPost_ret (results_mid2 rfl _ _ (w.heap.size + 1 + 1) [.int .i64 p.runs.m, .int .i64 p.runs.d, .bool p.runs.k, .int .i64 p.obj.m, .int .i64 p.obj.d, .bool p.obj.k, .int .i64 p.wait.m, .int .i64 p.wait.d, .bool p.wait.k, .int .i64 p.exts, .int .i64 p.longest, .slice A p.hols.length c, .int .i64 s'.phase, .int .i64 s'.last, .int .i64 s'.deadline, .int .i64 s'.object, .int .i64 s'.objected, .int .i64 s'.extended] _ rfl (hr3.out.put [.int .i64 p.runs.m, .int .i64 p.runs.d, .bool p.runs.k, .int .i64 p.obj.m, .int .i64 p.obj.d, .bool p.obj.k, .int .i64 p.wait.m, .int .i64 p.wait.d, .bool p.wait.k, .int .i64 p.exts, .int .i64 p.longest, .slice A p.hols.length c, .int .i64 s'.phase, .int .i64 s'.last, .int .i64 s'.deadline, .int .i64 s'.object, .int .i64 s'.objected, .int .i64 s'.extended] rfl).range Tryz.underlying134 rfl stSize) rfl ⟨?_, below_of_grownB hb3.out (grown_setCells (w.heap.size + 1 + 1) [.int .i64 p.runs.m, .int .i64 p.runs.d, .bool p.runs.k, .int .i64 p.obj.m, .int .i64 p.obj.d, .bool p.obj.k, .int .i64 p.wait.m, .int .i64 p.wait.d, .bool p.wait.k, .int .i64 p.exts, .int .i64 p.longest, .slice A p.hols.length c, .int .i64 s'.phase, .int .i64 s'.last, .int .i64 s'.deadline, .int .i64 s'.object, .int .i64 s'.objected, .int .i64 s'.extended] 0 w3) (by omega)⟩
  rfl
set_option maxRecDepth 100000 in
set_option maxHeartbeats 4000000 in
theorem act_published (A : Option Addr) (c : Nat) (p : Proc) (s s' : NSt) (a : NAct) (w : World) (hl : Hols w A p.hols) (hT : Tab w) (hm : Hid (Cal.mayErr p s a = 0)) (k0 : (a.kind == 0) = false) (k2 : (a.kind == 2) = true) (hs' : Hid ({ s with last := a.day, phase := 1, deadline := (Cal.dlS p.hols a.day p.runs.m p.runs.d p.runs.k).1, object := (Cal.dlS p.hols a.day p.obj.m p.obj.d p.obj.k).1 } = s')) :
    Calls Tryz.prog 183 #[.agg #[.int .i64 p.runs.m, .int .i64 p.runs.d, .bool p.runs.k, .int .i64 p.obj.m, .int .i64 p.obj.d, .bool p.obj.k, .int .i64 p.wait.m, .int .i64 p.wait.d, .bool p.wait.k, .int .i64 p.exts, .int .i64 p.longest, .slice A p.hols.length c, .int .i64 s.phase, .int .i64 s.last, .int .i64 s.deadline, .int .i64 s.object, .int .i64 s.objected, .int .i64 s.extended], .agg #[.int .i64 a.day, .int .i64 a.kind, .int .i64 a.days]] w (ActPost w A c p (s', Cal.begE p a.day)) := by
  have hl := Lib.hid hl
  have hT := Lib.hid hT
  have hs0 := Lib.hid (W3_st w A c p s a)
  have ha0 := Lib.hid (W3_act w A c p s a)
  have hr0 := Lib.hid (W3_res w A c p s a)
  have hb0 := Lib.hid (W3_below w A c p s a)
  unfold W3 at hs0 ha0 hr0 hb0
  have q0 := ha0.out.c0
  have q1 := ha0.out.c1
  have q2 := ha0.out.c2
  go_enter Tryz.func183, Tryz.ntmps183
  go_wp2_with (refine wpList_load_mid rfl 134 (.tmp 2) rfl w.heap.size 0 rfl [.int .i64 p.runs.m, .int .i64 p.runs.d, .bool p.runs.k, .int .i64 p.obj.m, .int .i64 p.obj.d, .bool p.obj.k, .int .i64 p.wait.m, .int .i64 p.wait.d, .bool p.wait.k, .int .i64 p.exts, .int .i64 p.longest, .slice A p.hols.length c, .int .i64 s.phase, .int .i64 s.last, .int .i64 s.deadline, .int .i64 s.object, .int .i64 s.objected, .int .i64 s.extended] _ hs0.out.at_.range Tryz.underlying134 rfl stSize ?_)
  clear q0 q1 q2
  refine (may_any A c p s a _).mono ?_
  rintro e w1 ⟨rfl, hb1⟩
  have hs1 := Lib.hid (hs0.out.below hb1)
  have ha1 := Lib.hid (ha0.out.below hb1)
  have hr1 := Lib.hid (hr0.out.below hb1)
  have hbw := Lib.hid (below_step hb0.out hb1)
  clear hb1 hs0 ha0 hr0 hb0
  rw [hm.out]
  have d0 := ha1.out.c0
  have d1 := ha1.out.c1
  have c13 := hs1.out.at_.c13
  have f13 := hs1.out.free 13 (by omega)
  have hg2 := grown_set w1 w.heap.size 13 (.int .i64 a.day)
  have hs2 := Lib.hid (hs1.out.set 13 (.int .i64 a.day) { s with last := a.day } rfl (by omega))
  have hr2 := Lib.hid (hr1.out.grown hg2 (ne2 _))
  have hb2 := Lib.hid (below_of_grownB hbw.out hg2 (Nat.le_refl _))
  have ha2 := Lib.hid (ha1.out.grown hg2 (by simp))
  clear hg2
  have e0 := ha2.out.c0
  have e1 := ha2.out.c1
  have e2 := ha2.out.c2
  go_wp2_with fail
  clear c13 f13 d0 d1 e0 e1 e2
  refine (nbegin_any A c p { s with last := a.day } a.day w.heap.size w _ hb2.out (Nat.le_refl _) hs2.out hl.out hT.out).mono ?_
  rintro e w3 ⟨rfl, hs3, hg3⟩
  have hr3 := Lib.hid (hr2.out.grown hg3 (ne2 _))
  have hb3 := Lib.hid (below_of_grownB hb2.out hg3 (Nat.le_refl _))
  have hs3 : Hid (StW w3 w.heap.size A c p s') := hs'.out ▸ hs3
  clear hg3
  go_wp2_with (first
    | (refine wpList_load_mid rfl 134 (.tmp 2) rfl w.heap.size 0 rfl [.int .i64 p.runs.m, .int .i64 p.runs.d, .bool p.runs.k, .int .i64 p.obj.m, .int .i64 p.obj.d, .bool p.obj.k, .int .i64 p.wait.m, .int .i64 p.wait.d, .bool p.wait.k, .int .i64 p.exts, .int .i64 p.longest, .slice A p.hols.length c, .int .i64 s'.phase, .int .i64 s'.last, .int .i64 s'.deadline, .int .i64 s'.object, .int .i64 s'.objected, .int .i64 s'.extended] _ hs3.out.at_.range Tryz.underlying134 rfl stSize ?_)
    | (refine wpList_store_mid rfl 134 (.tmp 4) (.tmp 59) rfl (w.heap.size + 1 + 1) 0 #[.int .i64 p.runs.m, .int .i64 p.runs.d, .bool p.runs.k, .int .i64 p.obj.m, .int .i64 p.obj.d, .bool p.obj.k, .int .i64 p.wait.m, .int .i64 p.wait.d, .bool p.wait.k, .int .i64 p.exts, .int .i64 p.longest, .slice A p.hols.length c, .int .i64 s'.phase, .int .i64 s'.last, .int .i64 s'.deadline, .int .i64 s'.object, .int .i64 s'.objected, .int .i64 s'.extended] (by rfl) (by rfl) ?_ ?_ ?_ ?_; (exact hr3.out.there); (exact stSize); kernel_rfl))
  (try simp only [Exit.inBlock, Exit.then])
  refine bodyPost_ret (results_mid2 rfl _ _ (w.heap.size + 1 + 1) [.int .i64 p.runs.m, .int .i64 p.runs.d, .bool p.runs.k, .int .i64 p.obj.m, .int .i64 p.obj.d, .bool p.obj.k, .int .i64 p.wait.m, .int .i64 p.wait.d, .bool p.wait.k, .int .i64 p.exts, .int .i64 p.longest, .slice A p.hols.length c, .int .i64 s'.phase, .int .i64 s'.last, .int .i64 s'.deadline, .int .i64 s'.object, .int .i64 s'.objected, .int .i64 s'.extended] _ rfl (hr3.out.put [.int .i64 p.runs.m, .int .i64 p.runs.d, .bool p.runs.k, .int .i64 p.obj.m, .int .i64 p.obj.d, .bool p.obj.k, .int .i64 p.wait.m, .int .i64 p.wait.d, .bool p.wait.k, .int .i64 p.exts, .int .i64 p.longest, .slice A p.hols.length c, .int .i64 s'.phase, .int .i64 s'.last, .int .i64 s'.deadline, .int .i64 s'.object, .int .i64 s'.objected, .int .i64 s'.extended] rfl).range Tryz.underlying134 rfl stSize) rfl ⟨?_, below_of_grownB hb3.out (grown_setCells (w.heap.size + 1 + 1) [.int .i64 p.runs.m, .int .i64 p.runs.d, .bool p.runs.k, .int .i64 p.obj.m, .int .i64 p.obj.d, .bool p.obj.k, .int .i64 p.wait.m, .int .i64 p.wait.d, .bool p.wait.k, .int .i64 p.exts, .int .i64 p.longest, .slice A p.hols.length c, .int .i64 s'.phase, .int .i64 s'.last, .int .i64 s'.deadline, .int .i64 s'.object, .int .i64 s'.objected, .int .i64 s'.extended] 0 w3) (by omega)⟩
  rfl
set_option maxRecDepth 100000 in
set_option maxHeartbeats 4000000 in
theorem act_returned (A : Option Addr) (c : Nat) (p : Proc) (s s' : NSt) (a : NAct) (w : World) (hl : Hols w A p.hols) (hT : Tab w) (hm : Hid (Cal.mayErr p s a = 0)) (k0 : (a.kind == 0) = false) (k2 : (a.kind == 2) = false) (k1 : (a.kind == 1) = true) (hs' : Hid ({ s with last := a.day, phase := 2 } = s')) :
    Calls Tryz.prog 183 #[.agg #[.int .i64 p.runs.m, .int .i64 p.runs.d, .bool p.runs.k, .int .i64 p.obj.m, .int .i64 p.obj.d, .bool p.obj.k, .int .i64 p.wait.m, .int .i64 p.wait.d, .bool p.wait.k, .int .i64 p.exts, .int .i64 p.longest, .slice A p.hols.length c, .int .i64 s.phase, .int .i64 s.last, .int .i64 s.deadline, .int .i64 s.object, .int .i64 s.objected, .int .i64 s.extended], .agg #[.int .i64 a.day, .int .i64 a.kind, .int .i64 a.days]] w (ActPost w A c p (s', 0)) := by
  have hl := Lib.hid hl
  have hT := Lib.hid hT
  have hs0 := Lib.hid (W3_st w A c p s a)
  have ha0 := Lib.hid (W3_act w A c p s a)
  have hr0 := Lib.hid (W3_res w A c p s a)
  have hb0 := Lib.hid (W3_below w A c p s a)
  unfold W3 at hs0 ha0 hr0 hb0
  have q0 := ha0.out.c0
  have q1 := ha0.out.c1
  have q2 := ha0.out.c2
  go_enter Tryz.func183, Tryz.ntmps183
  go_wp2_with (refine wpList_load_mid rfl 134 (.tmp 2) rfl w.heap.size 0 rfl [.int .i64 p.runs.m, .int .i64 p.runs.d, .bool p.runs.k, .int .i64 p.obj.m, .int .i64 p.obj.d, .bool p.obj.k, .int .i64 p.wait.m, .int .i64 p.wait.d, .bool p.wait.k, .int .i64 p.exts, .int .i64 p.longest, .slice A p.hols.length c, .int .i64 s.phase, .int .i64 s.last, .int .i64 s.deadline, .int .i64 s.object, .int .i64 s.objected, .int .i64 s.extended] _ hs0.out.at_.range Tryz.underlying134 rfl stSize ?_)
  clear q0 q1 q2
  refine (may_any A c p s a _).mono ?_
  rintro e w1 ⟨rfl, hb1⟩
  have hs1 := Lib.hid (hs0.out.below hb1)
  have ha1 := Lib.hid (ha0.out.below hb1)
  have hr1 := Lib.hid (hr0.out.below hb1)
  have hbw := Lib.hid (below_step hb0.out hb1)
  clear hb1 hs0 ha0 hr0 hb0
  rw [hm.out]
  have d0 := ha1.out.c0
  have d1 := ha1.out.c1
  have c13 := hs1.out.at_.c13
  have f13 := hs1.out.free 13 (by omega)
  have hg2 := grown_set w1 w.heap.size 13 (.int .i64 a.day)
  have hs2 := Lib.hid (hs1.out.set 13 (.int .i64 a.day) { s with last := a.day } rfl (by omega))
  have hr2 := Lib.hid (hr1.out.grown hg2 (ne2 _))
  have hb2 := Lib.hid (below_of_grownB hbw.out hg2 (Nat.le_refl _))
  have ha2 := Lib.hid (ha1.out.grown hg2 (by simp))
  clear hg2
  have e0 := ha2.out.c0
  have e1 := ha2.out.c1
  have e2 := ha2.out.c2
  have c12 := hs2.out.at_.c12
  have f12 := hs2.out.free 12 (by omega)
  have hg3 := grown_set (w1.setCell ⟨w.heap.size, 13, none⟩ (.int .i64 a.day)) w.heap.size 12 (.int .i64 2)
  have hs3 : Hid (StW _ w.heap.size A c p s') := hs'.out ▸ hs2.out.set 12 (.int .i64 2) { s with last := a.day, phase := 2 } rfl (by omega)
  have hr3 := Lib.hid (hr2.out.grown hg3 (ne2 _))
  have hb3 := Lib.hid (below_of_grownB hb2.out hg3 (Nat.le_refl _))
  clear hg3
  go_wp2_with (first
    | (refine wpList_load_mid rfl 134 (.tmp 2) rfl w.heap.size 0 rfl [.int .i64 p.runs.m, .int .i64 p.runs.d, .bool p.runs.k, .int .i64 p.obj.m, .int .i64 p.obj.d, .bool p.obj.k, .int .i64 p.wait.m, .int .i64 p.wait.d, .bool p.wait.k, .int .i64 p.exts, .int .i64 p.longest, .slice A p.hols.length c, .int .i64 s'.phase, .int .i64 s'.last, .int .i64 s'.deadline, .int .i64 s'.object, .int .i64 s'.objected, .int .i64 s'.extended] _ hs3.out.at_.range Tryz.underlying134 rfl stSize ?_)
    | (refine wpList_store_mid rfl 134 (.tmp 4) (.tmp 59) rfl (w.heap.size + 1 + 1) 0 #[.int .i64 p.runs.m, .int .i64 p.runs.d, .bool p.runs.k, .int .i64 p.obj.m, .int .i64 p.obj.d, .bool p.obj.k, .int .i64 p.wait.m, .int .i64 p.wait.d, .bool p.wait.k, .int .i64 p.exts, .int .i64 p.longest, .slice A p.hols.length c, .int .i64 s'.phase, .int .i64 s'.last, .int .i64 s'.deadline, .int .i64 s'.object, .int .i64 s'.objected, .int .i64 s'.extended] (by rfl) (by rfl) ?_ ?_ ?_ ?_; (exact hr3.out.there); (exact stSize); kernel_rfl))
  (try simp only [Exit.inBlock, Exit.then])
  refine bodyPost_ret (results_mid2 rfl _ _ (w.heap.size + 1 + 1) [.int .i64 p.runs.m, .int .i64 p.runs.d, .bool p.runs.k, .int .i64 p.obj.m, .int .i64 p.obj.d, .bool p.obj.k, .int .i64 p.wait.m, .int .i64 p.wait.d, .bool p.wait.k, .int .i64 p.exts, .int .i64 p.longest, .slice A p.hols.length c, .int .i64 s'.phase, .int .i64 s'.last, .int .i64 s'.deadline, .int .i64 s'.object, .int .i64 s'.objected, .int .i64 s'.extended] _ rfl (hr3.out.put [.int .i64 p.runs.m, .int .i64 p.runs.d, .bool p.runs.k, .int .i64 p.obj.m, .int .i64 p.obj.d, .bool p.obj.k, .int .i64 p.wait.m, .int .i64 p.wait.d, .bool p.wait.k, .int .i64 p.exts, .int .i64 p.longest, .slice A p.hols.length c, .int .i64 s'.phase, .int .i64 s'.last, .int .i64 s'.deadline, .int .i64 s'.object, .int .i64 s'.objected, .int .i64 s'.extended] rfl).range Tryz.underlying134 rfl stSize) rfl ⟨?_, below_of_grownB hb3.out (grown_setCells (w.heap.size + 1 + 1) [.int .i64 p.runs.m, .int .i64 p.runs.d, .bool p.runs.k, .int .i64 p.obj.m, .int .i64 p.obj.d, .bool p.obj.k, .int .i64 p.wait.m, .int .i64 p.wait.d, .bool p.wait.k, .int .i64 p.exts, .int .i64 p.longest, .slice A p.hols.length c, .int .i64 s'.phase, .int .i64 s'.last, .int .i64 s'.deadline, .int .i64 s'.object, .int .i64 s'.objected, .int .i64 s'.extended] 0 _) (by omega)⟩
  rfl
set_option maxRecDepth 100000 in
set_option maxHeartbeats 4000000 in
theorem act_upheld (A : Option Addr) (c : Nat) (p : Proc) (s s' : NSt) (a : NAct) (w : World) (hl : Hols w A p.hols) (hT : Tab w) (hm : Hid (Cal.mayErr p s a = 0)) (k0 : (a.kind == 0) = false) (k2 : (a.kind == 2) = false) (k1 : (a.kind == 1) = false) (k3 : (a.kind == 3) = false) (k4 : (a.kind == 4) = false) (k6 : (a.kind == 6) = false) (k5 : (a.kind == 5) = true) (hs' : Hid ({ s with last := a.day, phase := 5 } = s')) :
    Calls Tryz.prog 183 #[.agg #[.int .i64 p.runs.m, .int .i64 p.runs.d, .bool p.runs.k, .int .i64 p.obj.m, .int .i64 p.obj.d, .bool p.obj.k, .int .i64 p.wait.m, .int .i64 p.wait.d, .bool p.wait.k, .int .i64 p.exts, .int .i64 p.longest, .slice A p.hols.length c, .int .i64 s.phase, .int .i64 s.last, .int .i64 s.deadline, .int .i64 s.object, .int .i64 s.objected, .int .i64 s.extended], .agg #[.int .i64 a.day, .int .i64 a.kind, .int .i64 a.days]] w (ActPost w A c p (s', 0)) := by
  have hl := Lib.hid hl
  have hT := Lib.hid hT
  have hs0 := Lib.hid (W3_st w A c p s a)
  have ha0 := Lib.hid (W3_act w A c p s a)
  have hr0 := Lib.hid (W3_res w A c p s a)
  have hb0 := Lib.hid (W3_below w A c p s a)
  unfold W3 at hs0 ha0 hr0 hb0
  have q0 := ha0.out.c0
  have q1 := ha0.out.c1
  have q2 := ha0.out.c2
  go_enter Tryz.func183, Tryz.ntmps183
  go_wp2_with (refine wpList_load_mid rfl 134 (.tmp 2) rfl w.heap.size 0 rfl [.int .i64 p.runs.m, .int .i64 p.runs.d, .bool p.runs.k, .int .i64 p.obj.m, .int .i64 p.obj.d, .bool p.obj.k, .int .i64 p.wait.m, .int .i64 p.wait.d, .bool p.wait.k, .int .i64 p.exts, .int .i64 p.longest, .slice A p.hols.length c, .int .i64 s.phase, .int .i64 s.last, .int .i64 s.deadline, .int .i64 s.object, .int .i64 s.objected, .int .i64 s.extended] _ hs0.out.at_.range Tryz.underlying134 rfl stSize ?_)
  clear q0 q1 q2
  refine (may_any A c p s a _).mono ?_
  rintro e w1 ⟨rfl, hb1⟩
  have hs1 := Lib.hid (hs0.out.below hb1)
  have ha1 := Lib.hid (ha0.out.below hb1)
  have hr1 := Lib.hid (hr0.out.below hb1)
  have hbw := Lib.hid (below_step hb0.out hb1)
  clear hb1 hs0 ha0 hr0 hb0
  rw [hm.out]
  have d0 := ha1.out.c0
  have d1 := ha1.out.c1
  have c13 := hs1.out.at_.c13
  have f13 := hs1.out.free 13 (by omega)
  have hg2 := grown_set w1 w.heap.size 13 (.int .i64 a.day)
  have hs2 := Lib.hid (hs1.out.set 13 (.int .i64 a.day) { s with last := a.day } rfl (by omega))
  have hr2 := Lib.hid (hr1.out.grown hg2 (ne2 _))
  have hb2 := Lib.hid (below_of_grownB hbw.out hg2 (Nat.le_refl _))
  have ha2 := Lib.hid (ha1.out.grown hg2 (by simp))
  clear hg2
  have e0 := ha2.out.c0
  have e1 := ha2.out.c1
  have e2 := ha2.out.c2
  have c12 := hs2.out.at_.c12
  have f12 := hs2.out.free 12 (by omega)
  have hg3 := grown_set (w1.setCell ⟨w.heap.size, 13, none⟩ (.int .i64 a.day)) w.heap.size 12 (.int .i64 5)
  have hs3 : Hid (StW _ w.heap.size A c p s') := hs'.out ▸ hs2.out.set 12 (.int .i64 5) { s with last := a.day, phase := 5 } rfl (by omega)
  have hr3 := Lib.hid (hr2.out.grown hg3 (ne2 _))
  have hb3 := Lib.hid (below_of_grownB hb2.out hg3 (Nat.le_refl _))
  clear hg3
  go_wp2_with (first
    | (refine wpList_load_mid rfl 134 (.tmp 2) rfl w.heap.size 0 rfl [.int .i64 p.runs.m, .int .i64 p.runs.d, .bool p.runs.k, .int .i64 p.obj.m, .int .i64 p.obj.d, .bool p.obj.k, .int .i64 p.wait.m, .int .i64 p.wait.d, .bool p.wait.k, .int .i64 p.exts, .int .i64 p.longest, .slice A p.hols.length c, .int .i64 s'.phase, .int .i64 s'.last, .int .i64 s'.deadline, .int .i64 s'.object, .int .i64 s'.objected, .int .i64 s'.extended] _ hs3.out.at_.range Tryz.underlying134 rfl stSize ?_)
    | (refine wpList_store_mid rfl 134 (.tmp 4) (.tmp 59) rfl (w.heap.size + 1 + 1) 0 #[.int .i64 p.runs.m, .int .i64 p.runs.d, .bool p.runs.k, .int .i64 p.obj.m, .int .i64 p.obj.d, .bool p.obj.k, .int .i64 p.wait.m, .int .i64 p.wait.d, .bool p.wait.k, .int .i64 p.exts, .int .i64 p.longest, .slice A p.hols.length c, .int .i64 s'.phase, .int .i64 s'.last, .int .i64 s'.deadline, .int .i64 s'.object, .int .i64 s'.objected, .int .i64 s'.extended] (by rfl) (by rfl) ?_ ?_ ?_ ?_; (exact hr3.out.there); (exact stSize); kernel_rfl))
  (try simp only [Exit.inBlock, Exit.then])
  refine bodyPost_ret (results_mid2 rfl _ _ (w.heap.size + 1 + 1) [.int .i64 p.runs.m, .int .i64 p.runs.d, .bool p.runs.k, .int .i64 p.obj.m, .int .i64 p.obj.d, .bool p.obj.k, .int .i64 p.wait.m, .int .i64 p.wait.d, .bool p.wait.k, .int .i64 p.exts, .int .i64 p.longest, .slice A p.hols.length c, .int .i64 s'.phase, .int .i64 s'.last, .int .i64 s'.deadline, .int .i64 s'.object, .int .i64 s'.objected, .int .i64 s'.extended] _ rfl (hr3.out.put [.int .i64 p.runs.m, .int .i64 p.runs.d, .bool p.runs.k, .int .i64 p.obj.m, .int .i64 p.obj.d, .bool p.obj.k, .int .i64 p.wait.m, .int .i64 p.wait.d, .bool p.wait.k, .int .i64 p.exts, .int .i64 p.longest, .slice A p.hols.length c, .int .i64 s'.phase, .int .i64 s'.last, .int .i64 s'.deadline, .int .i64 s'.object, .int .i64 s'.objected, .int .i64 s'.extended] rfl).range Tryz.underlying134 rfl stSize) rfl ⟨?_, below_of_grownB hb3.out (grown_setCells (w.heap.size + 1 + 1) [.int .i64 p.runs.m, .int .i64 p.runs.d, .bool p.runs.k, .int .i64 p.obj.m, .int .i64 p.obj.d, .bool p.obj.k, .int .i64 p.wait.m, .int .i64 p.wait.d, .bool p.wait.k, .int .i64 p.exts, .int .i64 p.longest, .slice A p.hols.length c, .int .i64 s'.phase, .int .i64 s'.last, .int .i64 s'.deadline, .int .i64 s'.object, .int .i64 s'.objected, .int .i64 s'.extended] 0 _) (by omega)⟩
  rfl
set_option maxRecDepth 100000 in
set_option maxHeartbeats 4000000 in
theorem act_remedied (A : Option Addr) (c : Nat) (p : Proc) (s s' : NSt) (a : NAct) (w : World) (hl : Hols w A p.hols) (hT : Tab w) (hm : Hid (Cal.mayErr p s a = 0)) (k0 : (a.kind == 0) = false) (k2 : (a.kind == 2) = false) (k1 : (a.kind == 1) = false) (k3 : (a.kind == 3) = false) (k4 : (a.kind == 4) = false) (k6 : (a.kind == 6) = false) (k5 : (a.kind == 5) = false) (k7 : (a.kind == 7) = true) (hs' : Hid ({ s with last := a.day, phase := 4 } = s')) :
    Calls Tryz.prog 183 #[.agg #[.int .i64 p.runs.m, .int .i64 p.runs.d, .bool p.runs.k, .int .i64 p.obj.m, .int .i64 p.obj.d, .bool p.obj.k, .int .i64 p.wait.m, .int .i64 p.wait.d, .bool p.wait.k, .int .i64 p.exts, .int .i64 p.longest, .slice A p.hols.length c, .int .i64 s.phase, .int .i64 s.last, .int .i64 s.deadline, .int .i64 s.object, .int .i64 s.objected, .int .i64 s.extended], .agg #[.int .i64 a.day, .int .i64 a.kind, .int .i64 a.days]] w (ActPost w A c p (s', 0)) := by
  have hl := Lib.hid hl
  have hT := Lib.hid hT
  have hs0 := Lib.hid (W3_st w A c p s a)
  have ha0 := Lib.hid (W3_act w A c p s a)
  have hr0 := Lib.hid (W3_res w A c p s a)
  have hb0 := Lib.hid (W3_below w A c p s a)
  unfold W3 at hs0 ha0 hr0 hb0
  have q0 := ha0.out.c0
  have q1 := ha0.out.c1
  have q2 := ha0.out.c2
  go_enter Tryz.func183, Tryz.ntmps183
  go_wp2_with (refine wpList_load_mid rfl 134 (.tmp 2) rfl w.heap.size 0 rfl [.int .i64 p.runs.m, .int .i64 p.runs.d, .bool p.runs.k, .int .i64 p.obj.m, .int .i64 p.obj.d, .bool p.obj.k, .int .i64 p.wait.m, .int .i64 p.wait.d, .bool p.wait.k, .int .i64 p.exts, .int .i64 p.longest, .slice A p.hols.length c, .int .i64 s.phase, .int .i64 s.last, .int .i64 s.deadline, .int .i64 s.object, .int .i64 s.objected, .int .i64 s.extended] _ hs0.out.at_.range Tryz.underlying134 rfl stSize ?_)
  clear q0 q1 q2
  refine (may_any A c p s a _).mono ?_
  rintro e w1 ⟨rfl, hb1⟩
  have hs1 := Lib.hid (hs0.out.below hb1)
  have ha1 := Lib.hid (ha0.out.below hb1)
  have hr1 := Lib.hid (hr0.out.below hb1)
  have hbw := Lib.hid (below_step hb0.out hb1)
  clear hb1 hs0 ha0 hr0 hb0
  rw [hm.out]
  have d0 := ha1.out.c0
  have d1 := ha1.out.c1
  have c13 := hs1.out.at_.c13
  have f13 := hs1.out.free 13 (by omega)
  have hg2 := grown_set w1 w.heap.size 13 (.int .i64 a.day)
  have hs2 := Lib.hid (hs1.out.set 13 (.int .i64 a.day) { s with last := a.day } rfl (by omega))
  have hr2 := Lib.hid (hr1.out.grown hg2 (ne2 _))
  have hb2 := Lib.hid (below_of_grownB hbw.out hg2 (Nat.le_refl _))
  have ha2 := Lib.hid (ha1.out.grown hg2 (by simp))
  clear hg2
  have e0 := ha2.out.c0
  have e1 := ha2.out.c1
  have e2 := ha2.out.c2
  have c12 := hs2.out.at_.c12
  have f12 := hs2.out.free 12 (by omega)
  have hg3 := grown_set (w1.setCell ⟨w.heap.size, 13, none⟩ (.int .i64 a.day)) w.heap.size 12 (.int .i64 4)
  have hs3 : Hid (StW _ w.heap.size A c p s') := hs'.out ▸ hs2.out.set 12 (.int .i64 4) { s with last := a.day, phase := 4 } rfl (by omega)
  have hr3 := Lib.hid (hr2.out.grown hg3 (ne2 _))
  have hb3 := Lib.hid (below_of_grownB hb2.out hg3 (Nat.le_refl _))
  clear hg3
  go_wp2_with (first
    | (refine wpList_load_mid rfl 134 (.tmp 2) rfl w.heap.size 0 rfl [.int .i64 p.runs.m, .int .i64 p.runs.d, .bool p.runs.k, .int .i64 p.obj.m, .int .i64 p.obj.d, .bool p.obj.k, .int .i64 p.wait.m, .int .i64 p.wait.d, .bool p.wait.k, .int .i64 p.exts, .int .i64 p.longest, .slice A p.hols.length c, .int .i64 s'.phase, .int .i64 s'.last, .int .i64 s'.deadline, .int .i64 s'.object, .int .i64 s'.objected, .int .i64 s'.extended] _ hs3.out.at_.range Tryz.underlying134 rfl stSize ?_)
    | (refine wpList_store_mid rfl 134 (.tmp 4) (.tmp 59) rfl (w.heap.size + 1 + 1) 0 #[.int .i64 p.runs.m, .int .i64 p.runs.d, .bool p.runs.k, .int .i64 p.obj.m, .int .i64 p.obj.d, .bool p.obj.k, .int .i64 p.wait.m, .int .i64 p.wait.d, .bool p.wait.k, .int .i64 p.exts, .int .i64 p.longest, .slice A p.hols.length c, .int .i64 s'.phase, .int .i64 s'.last, .int .i64 s'.deadline, .int .i64 s'.object, .int .i64 s'.objected, .int .i64 s'.extended] (by rfl) (by rfl) ?_ ?_ ?_ ?_; (exact hr3.out.there); (exact stSize); kernel_rfl))
  (try simp only [Exit.inBlock, Exit.then])
  refine bodyPost_ret (results_mid2 rfl _ _ (w.heap.size + 1 + 1) [.int .i64 p.runs.m, .int .i64 p.runs.d, .bool p.runs.k, .int .i64 p.obj.m, .int .i64 p.obj.d, .bool p.obj.k, .int .i64 p.wait.m, .int .i64 p.wait.d, .bool p.wait.k, .int .i64 p.exts, .int .i64 p.longest, .slice A p.hols.length c, .int .i64 s'.phase, .int .i64 s'.last, .int .i64 s'.deadline, .int .i64 s'.object, .int .i64 s'.objected, .int .i64 s'.extended] _ rfl (hr3.out.put [.int .i64 p.runs.m, .int .i64 p.runs.d, .bool p.runs.k, .int .i64 p.obj.m, .int .i64 p.obj.d, .bool p.obj.k, .int .i64 p.wait.m, .int .i64 p.wait.d, .bool p.wait.k, .int .i64 p.exts, .int .i64 p.longest, .slice A p.hols.length c, .int .i64 s'.phase, .int .i64 s'.last, .int .i64 s'.deadline, .int .i64 s'.object, .int .i64 s'.objected, .int .i64 s'.extended] rfl).range Tryz.underlying134 rfl stSize) rfl ⟨?_, below_of_grownB hb3.out (grown_setCells (w.heap.size + 1 + 1) [.int .i64 p.runs.m, .int .i64 p.runs.d, .bool p.runs.k, .int .i64 p.obj.m, .int .i64 p.obj.d, .bool p.obj.k, .int .i64 p.wait.m, .int .i64 p.wait.d, .bool p.wait.k, .int .i64 p.exts, .int .i64 p.longest, .slice A p.hols.length c, .int .i64 s'.phase, .int .i64 s'.last, .int .i64 s'.deadline, .int .i64 s'.object, .int .i64 s'.objected, .int .i64 s'.extended] 0 _) (by omega)⟩
  rfl
end Go.Proofs.YtbegbajlagcbdaaGreatDoor
