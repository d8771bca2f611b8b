/- Chapter 8 and what it rests on: definitions and walks, part 25. -/
import Derived.Test.YtbegbajlagcbdaaGreatDoorC24
namespace Go.Proofs.YtbegbajlagcbdaaGreatDoor
open Go Go.RowKit
theorem wpList_store_box {P : Program} {ops : Array Oper} {rest : List Oper} {op : Oper} {a : Act} {w : World} {Q : Exit → Act → World → Prop} (hgd : op.guard = none) (ty : TypeId) (x y : Operand) (ho : op.op = .store ty x y)
    (b : Nat) (cs0 cs : List Value) (hx : a.eval x = .pointer (some ⟨b, 0, none⟩)) (hy : a.eval y = .agg cs.toArray) (hB : BoxAt w b cs0) (hl : cs.length = cs0.length)
    (hi : (P.info? ty).map (·.size) = some cs.length) (h1 : cs.toArray.all (·.oneCell') = true)
    (h : ∀ w', BoxAt w' b cs → w.grownBy w' (some b) → wpList P ops Q rest (a.put op.dst undef) w') : wpList P ops Q (op :: rest) a w :=
  wpList_store_mid hgd ty x y ho b 0 cs.toArray hx hy (by rw [List.size_toArray, hl]; exact hB.there) (by simpa using hi) h1 (h _ (hB.put cs hl) (grown_setCells b cs 0 w))
theorem acSize : (Tryz.prog.info? 109).map (·.size) = some 3 := by kernel_rfl
/-- The loop of follow. -/
structure FolI (w : World) (b6 b9 b10 : Nat) (A : Option Addr) (c : Nat) (p : Proc) (s t : NSt) (wr : World) : Prop where
  fr : Below w.heap.size w wr
  r : BoxAt wr b6 [.int .i64 0, .int .i64 0, .bool false, .int .i64 0, .int .i64 0, .bool false, .int .i64 0, .int .i64 0, .bool false, .int .i64 0, .int .i64 0, .slice none 0 0, .int .i64 0, .int .i64 0, .int .i64 0, .int .i64 0, .int .i64 0, .int .i64 0]
  s : BoxAt wr b9 [.int .i64 p.runs.m, .int .i64 p.runs.d, .bool p.runs.k, .int .i64 p.obj.m, .int .i64 p.obj.d, .bool p.obj.k, .int .i64 p.wait.m, .int .i64 p.wait.d, .bool p.wait.k, .int .i64 p.exts, .int .i64 p.longest, .slice A p.hols.length c, .int .i64 s.phase, .int .i64 s.last, .int .i64 s.deadline, .int .i64 s.object, .int .i64 s.objected, .int .i64 s.extended]
  t : BoxAt wr b10 [.int .i64 p.runs.m, .int .i64 p.runs.d, .bool p.runs.k, .int .i64 p.obj.m, .int .i64 p.obj.d, .bool p.obj.k, .int .i64 p.wait.m, .int .i64 p.wait.d, .bool p.wait.k, .int .i64 p.exts, .int .i64 p.longest, .slice A p.hols.length c, .int .i64 t.phase, .int .i64 t.last, .int .i64 t.deadline, .int .i64 t.object, .int .i64 t.objected, .int .i64 t.extended]
  h0 : w.heap.size ≤ b6
  h1 : b6 < b9
  h2 : b9 < b10
theorem FolI.below {w wr wr' : World} {b6 b9 b10 : Nat} {A : Option Addr} {c : Nat} {p : Proc} {s t : NSt} (h : FolI w b6 b9 b10 A c p s t wr) (hb : Below wr.heap.size wr wr') : FolI w b6 b9 b10 A c p s t wr' :=
  ⟨below_step h.fr hb, h.r.below hb, h.s.below hb, h.t.below hb, h.h0, h.h1, h.h2⟩
theorem FolI.newBox {w wr wr' : World} {b6 b9 b10 : Nat} {A : Option Addr} {c : Nat} {p : Proc} {s t : NSt} (h : FolI w b6 b9 b10 A c p s t wr) {o : Obj} (hg : (wr.alloc o).grownBy wr' (some wr.heap.size)) : FolI w b6 b9 b10 A c p s t wr' :=
  h.below (below_of_grownB (below_alloc wr o) hg (Nat.le_refl _))
theorem FolI.setS {w wr wr' : World} {b6 b9 b10 : Nat} {A : Option Addr} {c : Nat} {p : Proc} {s t s' : NSt} (h : FolI w b6 b9 b10 A c p s t wr) (hB : BoxAt wr' b9 [.int .i64 p.runs.m, .int .i64 p.runs.d, .bool p.runs.k, .int .i64 p.obj.m, .int .i64 p.obj.d, .bool p.obj.k, .int .i64 p.wait.m, .int .i64 p.wait.d, .bool p.wait.k, .int .i64 p.exts, .int .i64 p.longest, .slice A p.hols.length c, .int .i64 s'.phase, .int .i64 s'.last, .int .i64 s'.deadline, .int .i64 s'.object, .int .i64 s'.objected, .int .i64 s'.extended]) (hg : wr.grownBy wr' (some b9)) : FolI w b6 b9 b10 A c p s' t wr' :=
  ⟨below_of_grownB h.fr hg (by have := h.h0; have := h.h1; omega), h.r.grown hg (by have := h.h1; simp; omega), hB, h.t.grown hg (by have := h.h2; simp; omega), h.h0, h.h1, h.h2⟩
theorem FolI.setT {w wr wr' : World} {b6 b9 b10 : Nat} {A : Option Addr} {c : Nat} {p : Proc} {s t t' : NSt} (h : FolI w b6 b9 b10 A c p s t wr) (hB : BoxAt wr' b10 [.int .i64 p.runs.m, .int .i64 p.runs.d, .bool p.runs.k, .int .i64 p.obj.m, .int .i64 p.obj.d, .bool p.obj.k, .int .i64 p.wait.m, .int .i64 p.wait.d, .bool p.wait.k, .int .i64 p.exts, .int .i64 p.longest, .slice A p.hols.length c, .int .i64 t'.phase, .int .i64 t'.last, .int .i64 t'.deadline, .int .i64 t'.object, .int .i64 t'.objected, .int .i64 t'.extended]) (hg : wr.grownBy wr' (some b10)) : FolI w b6 b9 b10 A c p s t' wr' :=
  ⟨below_of_grownB h.fr hg (by have := h.h0; have := h.h1; have := h.h2; omega), h.r.grown hg (by have := h.h1; have := h.h2; simp; omega), h.s.grown hg (by have := h.h2; simp; omega), hB, h.h0, h.h1, h.h2⟩
/-- What follow tells. -/
def Cal.folS (p : Proc) (l : List NAct) (s0 : NSt) (day : Int) : NSt × Int × Int :=
  if (Cal.runS p l s0 0).2.2 = 0 then (Cal.toldS p day l s0 s0, 0, 0) else ((Cal.runS p l s0 0).1, ((Cal.runS p l s0 0).2.1 : Int), (Cal.runS p l s0 0).2.2)
def FolPost (w : World) (A : Option Addr) (c : Nat) (p : Proc) (r : NSt × Int × Int) (e : Ending) (w' : World) : Prop :=
  e = .returned (.tuple #[.agg #[.int .i64 p.runs.m, .int .i64 p.runs.d, .bool p.runs.k, .int .i64 p.obj.m, .int .i64 p.obj.d, .bool p.obj.k, .int .i64 p.wait.m, .int .i64 p.wait.d, .bool p.wait.k, .int .i64 p.exts, .int .i64 p.longest, .slice A p.hols.length c, .int .i64 r.1.phase, .int .i64 r.1.last, .int .i64 r.1.deadline, .int .i64 r.1.object, .int .i64 r.1.objected, .int .i64 r.1.extended], .int .i64 r.2.1, .int .i64 r.2.2]) ∧ Below w.heap.size w w'
def FolP (p : Proc) (l : List NAct) (s0 : NSt) (day : Int) (k : Nat) (s t : NSt) : Prop :=
  Cal.runS p (l.drop k) s k = Cal.runS p l s0 0 ∧ Cal.toldS p day (l.drop k) s t = Cal.toldS p day l s0 s0 ∧ StOk s
theorem Cal.runS_more (p : Proc) (a : NAct) (l : List NAct) (s : NSt) (i : Nat) : Cal.runS p (a :: l) s i = if (Cal.actS p s a).2 = 0 then Cal.runS p l (Cal.actS p s a).1 (i + 1) else (s, i, (Cal.actS p s a).2) := rfl
theorem Cal.toldS_more (p : Proc) (day : Int) (a : NAct) (l : List NAct) (s t : NSt) : Cal.toldS p day (a :: l) s t = Cal.toldS p day l (Cal.actS p s a).1 (if a.day ≤ day then (Cal.actS p s a).1 else t) := rfl
theorem FolP.bad {p : Proc} {l : List NAct} {s0 : NSt} {day : Int} {k : Nat} {s t : NSt} {a : NAct} (h : FolP p l s0 day k s t) (hd : l.drop k = a :: l.drop (k + 1)) {E : Int} (he : (Cal.actS p s a).2 = E) (hne : E ≠ 0) : Cal.folS p l s0 day = (s, (k : Int), E) := by
  have h1 := h.1
  rw [hd, Cal.runS_more, he, if_neg hne] at h1
  unfold Cal.folS
  rw [← h1, if_neg hne]
theorem FolP.next {p : Proc} {l : List NAct} {s0 : NSt} {day : Int} {k : Nat} {s t s' : NSt} {a : NAct} (h : FolP p l s0 day k s t) (hd : l.drop k = a :: l.drop (k + 1)) (hx : p.exts ≤ 12) (he : Cal.actS p s a = (s', 0)) :
    FolP p l s0 day (k + 1) s' (if a.day ≤ day then s' else t) := by
  obtain ⟨h1, h2, h3⟩ := h
  rw [hd, Cal.runS_more, he, if_pos rfl] at h1
  rw [hd, Cal.toldS_more, he] at h2
  have := h3.act (a := a) hx (by rw [he])
  rw [he] at this
  exact ⟨h1, h2, this⟩
theorem FolP.stop {p : Proc} {l : List NAct} {s0 : NSt} {day : Int} {k : Nat} {s t : NSt} (h : FolP p l s0 day k s t) (hk : l.length ≤ k) : Cal.folS p l s0 day = (t, 0, 0) := by
  obtain ⟨h1, h2, _⟩ := h
  rw [List.drop_eq_nil_of_le hk] at h1 h2
  have h1 : (s, 0, 0) = Cal.runS p l s0 0 := h1
  have h2 : t = Cal.toldS p day l s0 s0 := h2
  unfold Cal.folS
  rw [← h1, if_pos rfl, ← h2]
theorem start2 (w : World) (A : Option Addr) (c : Nat) (p : Proc) (N : Option Addr) (d : Nat) (n : Note) : Hid (BoxAt ((w.alloc (.cells #[.int .i64 p.runs.m, .int .i64 p.runs.d, .bool p.runs.k, .int .i64 p.obj.m, .int .i64 p.obj.d, .bool p.obj.k, .int .i64 p.wait.m, .int .i64 p.wait.d, .bool p.wait.k, .int .i64 p.exts, .int .i64 p.longest, .slice A p.hols.length c] 47)).alloc (.cells #[.string n.name, .int .i64 n.opened, .slice N n.acts.length d] 93)) w.heap.size [.int .i64 p.runs.m, .int .i64 p.runs.d, .bool p.runs.k, .int .i64 p.obj.m, .int .i64 p.obj.d, .bool p.obj.k, .int .i64 p.wait.m, .int .i64 p.wait.d, .bool p.wait.k, .int .i64 p.exts, .int .i64 p.longest, .slice A p.hols.length c]) ∧ Hid (BoxAt ((w.alloc (.cells #[.int .i64 p.runs.m, .int .i64 p.runs.d, .bool p.runs.k, .int .i64 p.obj.m, .int .i64 p.obj.d, .bool p.obj.k, .int .i64 p.wait.m, .int .i64 p.wait.d, .bool p.wait.k, .int .i64 p.exts, .int .i64 p.longest, .slice A p.hols.length c] 47)).alloc (.cells #[.string n.name, .int .i64 n.opened, .slice N n.acts.length d] 93)) (w.heap.size + 1) [.string n.name, .int .i64 n.opened, .slice N n.acts.length d]) ∧ Hid (Below w.heap.size w ((w.alloc (.cells #[.int .i64 p.runs.m, .int .i64 p.runs.d, .bool p.runs.k, .int .i64 p.obj.m, .int .i64 p.obj.d, .bool p.obj.k, .int .i64 p.wait.m, .int .i64 p.wait.d, .bool p.wait.k, .int .i64 p.exts, .int .i64 p.longest, .slice A p.hols.length c] 47)).alloc (.cells #[.string n.name, .int .i64 n.opened, .slice N n.acts.length d] 93))) :=
  ⟨W2n_pr w A c p N d n, W2n_note w A c p N d n, W2n_below w A c p N d n⟩
theorem start3 (w : World) (A : Option Addr) (c : Nat) (p : Proc) (N : Option Addr) (d : Nat) (n : Note) : Hid (BoxAt (((w.alloc (.cells #[.int .i64 p.runs.m, .int .i64 p.runs.d, .bool p.runs.k, .int .i64 p.obj.m, .int .i64 p.obj.d, .bool p.obj.k, .int .i64 p.wait.m, .int .i64 p.wait.d, .bool p.wait.k, .int .i64 p.exts, .int .i64 p.longest, .slice A p.hols.length c] 47)).alloc (.cells #[.string n.name, .int .i64 n.opened, .slice N n.acts.length d] 93)).alloc (.cells #[.int .i64 0, .int .i64 0, .bool false, .int .i64 0, .int .i64 0, .bool false, .int .i64 0, .int .i64 0, .bool false, .int .i64 0, .int .i64 0, .slice none 0 0, .int .i64 0, .int .i64 0, .int .i64 0, .int .i64 0, .int .i64 0, .int .i64 0] 134)) w.heap.size [.int .i64 p.runs.m, .int .i64 p.runs.d, .bool p.runs.k, .int .i64 p.obj.m, .int .i64 p.obj.d, .bool p.obj.k, .int .i64 p.wait.m, .int .i64 p.wait.d, .bool p.wait.k, .int .i64 p.exts, .int .i64 p.longest, .slice A p.hols.length c]) ∧ Hid (BoxAt (((w.alloc (.cells #[.int .i64 p.runs.m, .int .i64 p.runs.d, .bool p.runs.k, .int .i64 p.obj.m, .int .i64 p.obj.d, .bool p.obj.k, .int .i64 p.wait.m, .int .i64 p.wait.d, .bool p.wait.k, .int .i64 p.exts, .int .i64 p.longest, .slice A p.hols.length c] 47)).alloc (.cells #[.string n.name, .int .i64 n.opened, .slice N n.acts.length d] 93)).alloc (.cells #[.int .i64 0, .int .i64 0, .bool false, .int .i64 0, .int .i64 0, .bool false, .int .i64 0, .int .i64 0, .bool false, .int .i64 0, .int .i64 0, .slice none 0 0, .int .i64 0, .int .i64 0, .int .i64 0, .int .i64 0, .int .i64 0, .int .i64 0] 134)) (w.heap.size + 1) [.string n.name, .int .i64 n.opened, .slice N n.acts.length d]) ∧ Hid (BoxAt (((w.alloc (.cells #[.int .i64 p.runs.m, .int .i64 p.runs.d, .bool p.runs.k, .int .i64 p.obj.m, .int .i64 p.obj.d, .bool p.obj.k, .int .i64 p.wait.m, .int .i64 p.wait.d, .bool p.wait.k, .int .i64 p.exts, .int .i64 p.longest, .slice A p.hols.length c] 47)).alloc (.cells #[.string n.name, .int .i64 n.opened, .slice N n.acts.length d] 93)).alloc (.cells #[.int .i64 0, .int .i64 0, .bool false, .int .i64 0, .int .i64 0, .bool false, .int .i64 0, .int .i64 0, .bool false, .int .i64 0, .int .i64 0, .slice none 0 0, .int .i64 0, .int .i64 0, .int .i64 0, .int .i64 0, .int .i64 0, .int .i64 0] 134)) (w.heap.size + 1 + 1) [.int .i64 0, .int .i64 0, .bool false, .int .i64 0, .int .i64 0, .bool false, .int .i64 0, .int .i64 0, .bool false, .int .i64 0, .int .i64 0, .slice none 0 0, .int .i64 0, .int .i64 0, .int .i64 0, .int .i64 0, .int .i64 0, .int .i64 0]) ∧ Hid (Below w.heap.size w (((w.alloc (.cells #[.int .i64 p.runs.m, .int .i64 p.runs.d, .bool p.runs.k, .int .i64 p.obj.m, .int .i64 p.obj.d, .bool p.obj.k, .int .i64 p.wait.m, .int .i64 p.wait.d, .bool p.wait.k, .int .i64 p.exts, .int .i64 p.longest, .slice A p.hols.length c] 47)).alloc (.cells #[.string n.name, .int .i64 n.opened, .slice N n.acts.length d] 93)).alloc (.cells #[.int .i64 0, .int .i64 0, .bool false, .int .i64 0, .int .i64 0, .bool false, .int .i64 0, .int .i64 0, .bool false, .int .i64 0, .int .i64 0, .slice none 0 0, .int .i64 0, .int .i64 0, .int .i64 0, .int .i64 0, .int .i64 0, .int .i64 0] 134))) := by
  refine ⟨(W2n_pr w A c p N d n).alloc _, (W2n_note w A c p N d n).alloc _, ?_, below_step (W2n_below w A c p N d n) (below_alloc _ _)⟩
  have h3 := BoxAt.new (W2n w A c p N d n) #[.int .i64 0, .int .i64 0, .bool false, .int .i64 0, .int .i64 0, .bool false, .int .i64 0, .int .i64 0, .bool false, .int .i64 0, .int .i64 0, .slice none 0 0, .int .i64 0, .int .i64 0, .int .i64 0, .int .i64 0, .int .i64 0, .int .i64 0] 134
  rw [W2n_size] at h3
  exact h3
set_option maxRecDepth 100000 in
set_option maxHeartbeats 4000000 in
theorem follow_any (A : Option Addr) (c : Nat) (p : Proc) (N : Option Addr) (d : Nat) (n : Note) (day : Int) (w : World) (hl : Hols w A p.hols) (hT : Tab w) (ha : Acts w N n.acts)
    (hx : p.exts ≤ 12) (hy : p.longest ≤ 3660) (o0 : 0 ≤ n.opened) (o1 : n.opened ≤ 200000) :
    Calls Tryz.prog 118 #[.agg #[.int .i64 p.runs.m, .int .i64 p.runs.d, .bool p.runs.k, .int .i64 p.obj.m, .int .i64 p.obj.d, .bool p.obj.k, .int .i64 p.wait.m, .int .i64 p.wait.d, .bool p.wait.k, .int .i64 p.exts, .int .i64 p.longest, .slice A p.hols.length c], .agg #[.string n.name, .int .i64 n.opened, .slice N n.acts.length d], .int .i64 day] w (FolPost w A c p (Cal.folS p n.acts (Cal.openSt n.opened) day)) := by
  have hsz := ha.size
  have hl := Lib.hid hl
  have hT := Lib.hid hT
  have ha := Lib.hid ha
  have hP0 : Hid (FolP p n.acts (Cal.openSt n.opened) day 0 (Cal.openSt n.opened) (Cal.openSt n.opened)) := ⟨rfl, rfl, StOk.openSt o0 o1⟩
  obtain ⟨s0, hs0⟩ : ∃ s0, Cal.openSt n.opened = s0 := ⟨_, rfl⟩
  rw [hs0] at hP0 ⊢
  have hs0 := Lib.hid hs0
  obtain ⟨h1, h2, h3, hb⟩ := start3 w A c p N d n
  have c0 := h2.out.c 0 _ rfl
  have c1 := h2.out.c 1 _ rfl
  have c2 := h2.out.c 2 _ rfl
  go_enter Tryz.func118, Tryz.ntmps118
  go_wp2_with (refine wpPr h1.out (.tmp 3) rfl ?_)
  clear c0 c1 c2
  refine (first_any A c p N d n _).mono ?_
  rintro e w1 ⟨rfl, hb1⟩
  have hr1 := Lib.hid (h3.out.below hb1)
  have hn1 := Lib.hid (h2.out.below hb1)
  have hbw1 := Lib.hid (below_step hb.out hb1)
  have hz1 := hr1.out.lt
  have hN1 := Lib.hid (BoxAt.new w1 #[.int .i64 0, .int .i64 0, .bool false, .int .i64 0, .int .i64 0, .bool false, .int .i64 0, .int .i64 0, .bool false, .int .i64 0, .int .i64 0, .slice none 0 0, .int .i64 0, .int .i64 0, .int .i64 0, .int .i64 0, .int .i64 0, .int .i64 0] 134)
  clear hb1 h1 h2 h3 hb
  rw [hs0.out]
  go_wp2_with (first
    | ((refine wpList_store_box rfl 134 (.tmp 9) (.tmp 17) rfl (w1.heap.size) _ [.int .i64 p.runs.m, .int .i64 p.runs.d, .bool p.runs.k, .int .i64 p.obj.m, .int .i64 p.obj.d, .bool p.obj.k, .int .i64 p.wait.m, .int .i64 p.wait.d, .bool p.wait.k, .int .i64 p.exts, .int .i64 p.longest, .slice A p.hols.length c, .int .i64 s0.phase, .int .i64 s0.last, .int .i64 s0.deadline, .int .i64 s0.object, .int .i64 s0.objected, .int .i64 s0.extended] (by rfl) (by rfl) hN1.out rfl stSize (by kernel_rfl) ?_; intro w2 h9 hg9); have hb2 := Lib.hid (below_of_grownB (below_alloc w1 _) hg9 (Nat.le_refl _)); have hN2 := Lib.hid (BoxAt.new w2 #[.int .i64 0, .int .i64 0, .bool false, .int .i64 0, .int .i64 0, .bool false, .int .i64 0, .int .i64 0, .bool false, .int .i64 0, .int .i64 0, .slice none 0 0, .int .i64 0, .int .i64 0, .int .i64 0, .int .i64 0, .int .i64 0, .int .i64 0] 134); have h9 := Lib.hid h9)
    | (refine wpList_load_mid rfl 134 (.tmp 9) rfl w1.heap.size 0 rfl [.int .i64 p.runs.m, .int .i64 p.runs.d, .bool p.runs.k, .int .i64 p.obj.m, .int .i64 p.obj.d, .bool p.obj.k, .int .i64 p.wait.m, .int .i64 p.wait.d, .bool p.wait.k, .int .i64 p.exts, .int .i64 p.longest, .slice A p.hols.length c, .int .i64 s0.phase, .int .i64 s0.last, .int .i64 s0.deadline, .int .i64 s0.object, .int .i64 s0.objected, .int .i64 s0.extended] _ h9.out.range Tryz.underlying134 rfl stSize ?_)
    | ((refine wpList_store_box rfl 134 (.tmp 10) (.tmp 18) rfl (w2.heap.size) _ [.int .i64 p.runs.m, .int .i64 p.runs.d, .bool p.runs.k, .int .i64 p.obj.m, .int .i64 p.obj.d, .bool p.obj.k, .int .i64 p.wait.m, .int .i64 p.wait.d, .bool p.wait.k, .int .i64 p.exts, .int .i64 p.longest, .slice A p.hols.length c, .int .i64 s0.phase, .int .i64 s0.last, .int .i64 s0.deadline, .int .i64 s0.object, .int .i64 s0.objected, .int .i64 s0.extended] (by rfl) (by rfl) hN2.out rfl stSize (by kernel_rfl) ?_; intro w3 h10 hg10); have hb3 := Lib.hid (below_of_grownB (below_alloc w2 _) hg10 (Nat.le_refl _)); have c2 := ((hn1.out.below hb2.out).below hb3.out).c 2 _ rfl; have h10 := Lib.hid h10))
  have hI : FolI w (w.heap.size + 1 + 1) w1.heap.size w2.heap.size A c p s0 s0 w3 := ⟨below_step (below_step hbw1.out hb2.out) hb3.out, (hr1.out.below hb2.out).below hb3.out, h9.out.below hb3.out, h10.out, by omega, by omega, h9.out.lt⟩
  have hI := Lib.hid hI
  clear hb2 hb3 h9 h10 hg9 hg10 hN1 hN2 hr1 hn1 hbw1 hz1 c2
  generalize w1.heap.size = b9 at *
  generalize w2.heap.size = b10 at *
  generalize w.heap.size + 1 + 1 = b6 at *
  go_loopw [22] (fun i wr => ∃ (k : Nat) (s t : NSt), k ≤ n.acts.length ∧ i = .int .i64 k ∧ Hid (FolP p n.acts s0 day k s t) ∧ Hid (FolI w b6 b9 b10 A c p s t wr)) (fun i _ => n.acts.length - (intOf i).toNat)
  case atStart => exact ⟨0, s0, s0, Nat.zero_le _, rfl, hP0, hI⟩
  case round =>
    obtain ⟨k, s, t, hk, rfl, hP, hI⟩ := hrel
    clear hP0
    by_cases hlt : k < n.acts.length
    · have hk' : n.acts[k]? = some n.acts[k] := List.getElem?_eq_getElem hlt
      have hd := Lib.hid (List.drop_eq_getElem_cons hlt)
      obtain ⟨b, o, rfl, hbl, c0, c1, c2⟩ := (ha.out.below hI.out.fr).at_ hk'
      clear hk'
      generalize n.acts[k] = a at *
      have hN12 := Lib.hid (BoxAt.new wr #[.int .i64 0, .int .i64 0, .int .i64 0] 109)
      have hz9 := hI.out.s.lt
      have hz10 := hI.out.t.lt
      have hok := hP.out.2.2
      rcases hr : Cal.actS p s a with ⟨s', E⟩
      have hrz := Lib.hid hr
      clear hr
      by_cases hE : E = 0
      · subst hE
        have hnx := Lib.hid (hP.out.next hd.out hx hrz.out)
        by_cases hday : a.day ≤ day
        · rw [if_pos hday] at hnx
          go_wp2_with (first
            | (refine wpList_store_box rfl 109 (.tmp 12) (.tmp 26) rfl (wr.heap.size) _ [.int .i64 a.day, .int .i64 a.kind, .int .i64 a.days] (by rfl) (by rfl) hN12.out rfl acSize (by kernel_rfl) ?_; intro w4 h12 hg12; have hI4 := Lib.hid (hI.out.newBox hg12); have d0 := h12.c 0 _ rfl; have d1 := h12.c 1 _ rfl; have d2 := h12.c 2 _ rfl; have h12 := Lib.hid h12; clear hg12 c0 c1 c2)
            | (refine wpList_load_mid rfl 134 (.tmp 9) rfl b9 0 rfl [.int .i64 p.runs.m, .int .i64 p.runs.d, .bool p.runs.k, .int .i64 p.obj.m, .int .i64 p.obj.d, .bool p.obj.k, .int .i64 p.wait.m, .int .i64 p.wait.d, .bool p.wait.k, .int .i64 p.exts, .int .i64 p.longest, .slice A p.hols.length c, .int .i64 s.phase, .int .i64 s.last, .int .i64 s.deadline, .int .i64 s.object, .int .i64 s.objected, .int .i64 s.extended] _ hI4.out.s.range Tryz.underlying134 rfl stSize ?_))
          refine (act_any A c p s a _ (hl.out.below hI4.out.fr) (hT.out.below hI4.out.fr) hok hy).mono ?_
          rintro e w5 ⟨he, hb5⟩
          rw [hrz.out] at he
          subst he
          clear d0 d1 d2
          have hI5 := Lib.hid (hI4.out.below hb5)
          have h12' := Lib.hid (h12.out.below hb5)
          have hN13 := Lib.hid (BoxAt.new w5 #[.int .i64 0, .int .i64 0, .bool false, .int .i64 0, .int .i64 0, .bool false, .int .i64 0, .int .i64 0, .bool false, .int .i64 0, .int .i64 0, .slice none 0 0, .int .i64 0, .int .i64 0, .int .i64 0, .int .i64 0, .int .i64 0, .int .i64 0] 134)
          clear hb5
          go_wp2_with (first
            | ((refine wpList_store_box rfl 134 (.tmp 13) (.tmp 31) rfl (w5.heap.size) _ [.int .i64 p.runs.m, .int .i64 p.runs.d, .bool p.runs.k, .int .i64 p.obj.m, .int .i64 p.obj.d, .bool p.obj.k, .int .i64 p.wait.m, .int .i64 p.wait.d, .bool p.wait.k, .int .i64 p.exts, .int .i64 p.longest, .slice A p.hols.length c, .int .i64 s'.phase, .int .i64 s'.last, .int .i64 s'.deadline, .int .i64 s'.object, .int .i64 s'.objected, .int .i64 s'.extended] (by rfl) (by rfl) hN13.out rfl stSize (by kernel_rfl) ?_; intro w6 h13 hg13); have hI6 := Lib.hid (hI5.out.newBox hg13); have h12b := Lib.hid (h12'.out.below (below_of_grownB (below_alloc w5 _) hg13 (Nat.le_refl _))); have h13 := Lib.hid h13; clear hg13)
            | (refine wpList_load_mid rfl 134 (.tmp 13) rfl w5.heap.size 0 rfl [.int .i64 p.runs.m, .int .i64 p.runs.d, .bool p.runs.k, .int .i64 p.obj.m, .int .i64 p.obj.d, .bool p.obj.k, .int .i64 p.wait.m, .int .i64 p.wait.d, .bool p.wait.k, .int .i64 p.exts, .int .i64 p.longest, .slice A p.hols.length c, .int .i64 s'.phase, .int .i64 s'.last, .int .i64 s'.deadline, .int .i64 s'.object, .int .i64 s'.objected, .int .i64 s'.extended] _ h13.out.range Tryz.underlying134 rfl stSize ?_)
            | ((refine wpList_store_box rfl 134 (.tmp 9) (.tmp 38) rfl (b9) _ [.int .i64 p.runs.m, .int .i64 p.runs.d, .bool p.runs.k, .int .i64 p.obj.m, .int .i64 p.obj.d, .bool p.obj.k, .int .i64 p.wait.m, .int .i64 p.wait.d, .bool p.wait.k, .int .i64 p.exts, .int .i64 p.longest, .slice A p.hols.length c, .int .i64 s'.phase, .int .i64 s'.last, .int .i64 s'.deadline, .int .i64 s'.object, .int .i64 s'.objected, .int .i64 s'.extended] (by rfl) (by rfl) hI6.out.s rfl stSize (by kernel_rfl) ?_; intro w7 h9' hg9'); have hI7 := Lib.hid (hI6.out.setS h9' hg9'); have e0 := (h12b.out.grown hg9' (by simp; omega)).c 0 _ rfl; clear h9' hg9')
            | (refine wpList_load_mid rfl 134 (.tmp 9) rfl b9 0 rfl [.int .i64 p.runs.m, .int .i64 p.runs.d, .bool p.runs.k, .int .i64 p.obj.m, .int .i64 p.obj.d, .bool p.obj.k, .int .i64 p.wait.m, .int .i64 p.wait.d, .bool p.wait.k, .int .i64 p.exts, .int .i64 p.longest, .slice A p.hols.length c, .int .i64 s'.phase, .int .i64 s'.last, .int .i64 s'.deadline, .int .i64 s'.object, .int .i64 s'.objected, .int .i64 s'.extended] _ hI7.out.s.range Tryz.underlying134 rfl stSize ?_)
            | ((refine wpList_store_box rfl 134 (.tmp 10) (.tmp 43) rfl (b10) _ [.int .i64 p.runs.m, .int .i64 p.runs.d, .bool p.runs.k, .int .i64 p.obj.m, .int .i64 p.obj.d, .bool p.obj.k, .int .i64 p.wait.m, .int .i64 p.wait.d, .bool p.wait.k, .int .i64 p.exts, .int .i64 p.longest, .slice A p.hols.length c, .int .i64 s'.phase, .int .i64 s'.last, .int .i64 s'.deadline, .int .i64 s'.object, .int .i64 s'.objected, .int .i64 s'.extended] (by rfl) (by rfl) hI7.out.t rfl stSize (by kernel_rfl) ?_; intro w8 h10' hg10'); have hI8 := Lib.hid (hI7.out.setT h10' hg10'); clear h10' hg10'))
          go_roundw
          case rel => exact ⟨k + 1, s', s', by omega, by go_num, hnx, hI8⟩
          case measure => simp [intOf]; omega
        · rw [if_neg hday] at hnx
          have hday' : decide (a.day ≤ day) = false := by simpa using hday
          go_wp2_with (first
            | (refine wpList_store_box rfl 109 (.tmp 12) (.tmp 26) rfl (wr.heap.size) _ [.int .i64 a.day, .int .i64 a.kind, .int .i64 a.days] (by rfl) (by rfl) hN12.out rfl acSize (by kernel_rfl) ?_; intro w4 h12 hg12; have hI4 := Lib.hid (hI.out.newBox hg12); have d0 := h12.c 0 _ rfl; have d1 := h12.c 1 _ rfl; have d2 := h12.c 2 _ rfl; have h12 := Lib.hid h12; clear hg12 c0 c1 c2)
            | (refine wpList_load_mid rfl 134 (.tmp 9) rfl b9 0 rfl [.int .i64 p.runs.m, .int .i64 p.runs.d, .bool p.runs.k, .int .i64 p.obj.m, .int .i64 p.obj.d, .bool p.obj.k, .int .i64 p.wait.m, .int .i64 p.wait.d, .bool p.wait.k, .int .i64 p.exts, .int .i64 p.longest, .slice A p.hols.length c, .int .i64 s.phase, .int .i64 s.last, .int .i64 s.deadline, .int .i64 s.object, .int .i64 s.objected, .int .i64 s.extended] _ hI4.out.s.range Tryz.underlying134 rfl stSize ?_))
          refine (act_any A c p s a _ (hl.out.below hI4.out.fr) (hT.out.below hI4.out.fr) hok hy).mono ?_
          rintro e w5 ⟨he, hb5⟩
          rw [hrz.out] at he
          subst he
          clear d0 d1 d2
          have hI5 := Lib.hid (hI4.out.below hb5)
          have h12' := Lib.hid (h12.out.below hb5)
          have hN13 := Lib.hid (BoxAt.new w5 #[.int .i64 0, .int .i64 0, .bool false, .int .i64 0, .int .i64 0, .bool false, .int .i64 0, .int .i64 0, .bool false, .int .i64 0, .int .i64 0, .slice none 0 0, .int .i64 0, .int .i64 0, .int .i64 0, .int .i64 0, .int .i64 0, .int .i64 0] 134)
          clear hb5
          go_wp2_with (first
            | ((refine wpList_store_box rfl 134 (.tmp 13) (.tmp 31) rfl (w5.heap.size) _ [.int .i64 p.runs.m, .int .i64 p.runs.d, .bool p.runs.k, .int .i64 p.obj.m, .int .i64 p.obj.d, .bool p.obj.k, .int .i64 p.wait.m, .int .i64 p.wait.d, .bool p.wait.k, .int .i64 p.exts, .int .i64 p.longest, .slice A p.hols.length c, .int .i64 s'.phase, .int .i64 s'.last, .int .i64 s'.deadline, .int .i64 s'.object, .int .i64 s'.objected, .int .i64 s'.extended] (by rfl) (by rfl) hN13.out rfl stSize (by kernel_rfl) ?_; intro w6 h13 hg13); have hI6 := Lib.hid (hI5.out.newBox hg13); have h12b := Lib.hid (h12'.out.below (below_of_grownB (below_alloc w5 _) hg13 (Nat.le_refl _))); have h13 := Lib.hid h13; clear hg13)
            | (refine wpList_load_mid rfl 134 (.tmp 13) rfl w5.heap.size 0 rfl [.int .i64 p.runs.m, .int .i64 p.runs.d, .bool p.runs.k, .int .i64 p.obj.m, .int .i64 p.obj.d, .bool p.obj.k, .int .i64 p.wait.m, .int .i64 p.wait.d, .bool p.wait.k, .int .i64 p.exts, .int .i64 p.longest, .slice A p.hols.length c, .int .i64 s'.phase, .int .i64 s'.last, .int .i64 s'.deadline, .int .i64 s'.object, .int .i64 s'.objected, .int .i64 s'.extended] _ h13.out.range Tryz.underlying134 rfl stSize ?_)
            | ((refine wpList_store_box rfl 134 (.tmp 9) (.tmp 38) rfl (b9) _ [.int .i64 p.runs.m, .int .i64 p.runs.d, .bool p.runs.k, .int .i64 p.obj.m, .int .i64 p.obj.d, .bool p.obj.k, .int .i64 p.wait.m, .int .i64 p.wait.d, .bool p.wait.k, .int .i64 p.exts, .int .i64 p.longest, .slice A p.hols.length c, .int .i64 s'.phase, .int .i64 s'.last, .int .i64 s'.deadline, .int .i64 s'.object, .int .i64 s'.objected, .int .i64 s'.extended] (by rfl) (by rfl) hI6.out.s rfl stSize (by kernel_rfl) ?_; intro w7 h9' hg9'); have hI7 := Lib.hid (hI6.out.setS h9' hg9'); have e0 := (h12b.out.grown hg9' (by simp; omega)).c 0 _ rfl; clear h9' hg9')
            | (refine wpList_load_mid rfl 134 (.tmp 9) rfl b9 0 rfl [.int .i64 p.runs.m, .int .i64 p.runs.d, .bool p.runs.k, .int .i64 p.obj.m, .int .i64 p.obj.d, .bool p.obj.k, .int .i64 p.wait.m, .int .i64 p.wait.d, .bool p.wait.k, .int .i64 p.exts, .int .i64 p.longest, .slice A p.hols.length c, .int .i64 s'.phase, .int .i64 s'.last, .int .i64 s'.deadline, .int .i64 s'.object, .int .i64 s'.objected, .int .i64 s'.extended] _ hI7.out.s.range Tryz.underlying134 rfl stSize ?_)
            | ((refine wpList_store_box rfl 134 (.tmp 10) (.tmp 43) rfl (b10) _ [.int .i64 p.runs.m, .int .i64 p.runs.d, .bool p.runs.k, .int .i64 p.obj.m, .int .i64 p.obj.d, .bool p.obj.k, .int .i64 p.wait.m, .int .i64 p.wait.d, .bool p.wait.k, .int .i64 p.exts, .int .i64 p.longest, .slice A p.hols.length c, .int .i64 s'.phase, .int .i64 s'.last, .int .i64 s'.deadline, .int .i64 s'.object, .int .i64 s'.objected, .int .i64 s'.extended] (by rfl) (by rfl) hI7.out.t rfl stSize (by kernel_rfl) ?_; intro w8 h10' hg10'); have hI8 := Lib.hid (hI7.out.setT h10' hg10'); clear h10' hg10'))
          go_roundw
          case rel => exact ⟨k + 1, s', t, by omega, by go_num, hnx, hI7⟩
          case measure => simp [intOf]; omega
      · have hE1 : (E != 0) = true := by simpa using hE
        have hfin := Lib.hid (hP.out.bad hd.out (by rw [hrz.out]) hE)
        go_wp2_with (first
          | (refine wpList_store_box rfl 109 (.tmp 12) (.tmp 26) rfl (wr.heap.size) _ [.int .i64 a.day, .int .i64 a.kind, .int .i64 a.days] (by rfl) (by rfl) hN12.out rfl acSize (by kernel_rfl) ?_; intro w4 h12 hg12; have hI4 := Lib.hid (hI.out.newBox hg12); have d0 := h12.c 0 _ rfl; have d1 := h12.c 1 _ rfl; have d2 := h12.c 2 _ rfl; have h12 := Lib.hid h12; clear hg12 c0 c1 c2)
          | (refine wpList_load_mid rfl 134 (.tmp 9) rfl b9 0 rfl [.int .i64 p.runs.m, .int .i64 p.runs.d, .bool p.runs.k, .int .i64 p.obj.m, .int .i64 p.obj.d, .bool p.obj.k, .int .i64 p.wait.m, .int .i64 p.wait.d, .bool p.wait.k, .int .i64 p.exts, .int .i64 p.longest, .slice A p.hols.length c, .int .i64 s.phase, .int .i64 s.last, .int .i64 s.deadline, .int .i64 s.object, .int .i64 s.objected, .int .i64 s.extended] _ hI4.out.s.range Tryz.underlying134 rfl stSize ?_))
        refine (act_any A c p s a _ (hl.out.below hI4.out.fr) (hT.out.below hI4.out.fr) hok hy).mono ?_
        rintro e w5 ⟨he, hb5⟩
        rw [hrz.out] at he
        subst he
        clear d0 d1 d2
        have hI5 := Lib.hid (hI4.out.below hb5)
        have h12' := Lib.hid (h12.out.below hb5)
        have hN13 := Lib.hid (BoxAt.new w5 #[.int .i64 0, .int .i64 0, .bool false, .int .i64 0, .int .i64 0, .bool false, .int .i64 0, .int .i64 0, .bool false, .int .i64 0, .int .i64 0, .slice none 0 0, .int .i64 0, .int .i64 0, .int .i64 0, .int .i64 0, .int .i64 0, .int .i64 0] 134)
        clear hb5
        go_wp2_with (first
          | ((refine wpList_store_box rfl 134 (.tmp 13) (.tmp 31) rfl (w5.heap.size) _ [.int .i64 p.runs.m, .int .i64 p.runs.d, .bool p.runs.k, .int .i64 p.obj.m, .int .i64 p.obj.d, .bool p.obj.k, .int .i64 p.wait.m, .int .i64 p.wait.d, .bool p.wait.k, .int .i64 p.exts, .int .i64 p.longest, .slice A p.hols.length c, .int .i64 s'.phase, .int .i64 s'.last, .int .i64 s'.deadline, .int .i64 s'.object, .int .i64 s'.objected, .int .i64 s'.extended] (by rfl) (by rfl) hN13.out rfl stSize (by kernel_rfl) ?_; intro w6 h13 hg13); have hI6 := Lib.hid (hI5.out.newBox hg13))
          | (refine wpList_load_mid rfl 134 (.tmp 9) rfl b9 0 rfl [.int .i64 p.runs.m, .int .i64 p.runs.d, .bool p.runs.k, .int .i64 p.obj.m, .int .i64 p.obj.d, .bool p.obj.k, .int .i64 p.wait.m, .int .i64 p.wait.d, .bool p.wait.k, .int .i64 p.exts, .int .i64 p.longest, .slice A p.hols.length c, .int .i64 s.phase, .int .i64 s.last, .int .i64 s.deadline, .int .i64 s.object, .int .i64 s.objected, .int .i64 s.extended] _ hI6.out.s.range Tryz.underlying134 rfl stSize ?_)
          | ((refine wpList_store_box rfl 134 (.tmp 6) (.tmp 35) rfl (b6) _ [.int .i64 p.runs.m, .int .i64 p.runs.d, .bool p.runs.k, .int .i64 p.obj.m, .int .i64 p.obj.d, .bool p.obj.k, .int .i64 p.wait.m, .int .i64 p.wait.d, .bool p.wait.k, .int .i64 p.exts, .int .i64 p.longest, .slice A p.hols.length c, .int .i64 s.phase, .int .i64 s.last, .int .i64 s.deadline, .int .i64 s.object, .int .i64 s.objected, .int .i64 s.extended] (by rfl) (by rfl) hI6.out.r rfl stSize (by kernel_rfl) ?_; intro w7 h6 hg6); have hb7 := Lib.hid (below_of_grownB hI6.out.fr hg6 hI6.out.h0)))
        (try simp only [Exit.inBlock, Exit.then])
        rw [hfin.out]
        refine bodyPost_ret (results_mid3 rfl _ _ b6 [.int .i64 p.runs.m, .int .i64 p.runs.d, .bool p.runs.k, .int .i64 p.obj.m, .int .i64 p.obj.d, .bool p.obj.k, .int .i64 p.wait.m, .int .i64 p.wait.d, .bool p.wait.k, .int .i64 p.exts, .int .i64 p.longest, .slice A p.hols.length c, .int .i64 s.phase, .int .i64 s.last, .int .i64 s.deadline, .int .i64 s.object, .int .i64 s.objected, .int .i64 s.extended] _ rfl h6.range Tryz.underlying134 rfl stSize) rfl ⟨by rfl, hb7.out⟩
    · have hfin := Lib.hid (hP.out.stop (by omega : n.acts.length ≤ k))
      have hge : n.acts.length = k := by omega
      clear hP
      go_wp2_with (first
        | (refine wpList_load_mid rfl 134 (.tmp 10) rfl b10 0 rfl [.int .i64 p.runs.m, .int .i64 p.runs.d, .bool p.runs.k, .int .i64 p.obj.m, .int .i64 p.obj.d, .bool p.obj.k, .int .i64 p.wait.m, .int .i64 p.wait.d, .bool p.wait.k, .int .i64 p.exts, .int .i64 p.longest, .slice A p.hols.length c, .int .i64 t.phase, .int .i64 t.last, .int .i64 t.deadline, .int .i64 t.object, .int .i64 t.objected, .int .i64 t.extended] _ hI.out.t.range Tryz.underlying134 rfl stSize ?_)
        | ((refine wpList_store_box rfl 134 (.tmp 6) (.tmp 45) rfl (b6) _ [.int .i64 p.runs.m, .int .i64 p.runs.d, .bool p.runs.k, .int .i64 p.obj.m, .int .i64 p.obj.d, .bool p.obj.k, .int .i64 p.wait.m, .int .i64 p.wait.d, .bool p.wait.k, .int .i64 p.exts, .int .i64 p.longest, .slice A p.hols.length c, .int .i64 t.phase, .int .i64 t.last, .int .i64 t.deadline, .int .i64 t.object, .int .i64 t.objected, .int .i64 t.extended] (by rfl) (by rfl) hI.out.r rfl stSize (by kernel_rfl) ?_; intro w7 h6 hg6); have hb7 := Lib.hid (below_of_grownB hI.out.fr hg6 hI.out.h0)))
      (try simp only [Exit.inBlock, Exit.then])
      rw [hfin.out]
      refine bodyPost_ret (results_mid3 rfl _ _ b6 [.int .i64 p.runs.m, .int .i64 p.runs.d, .bool p.runs.k, .int .i64 p.obj.m, .int .i64 p.obj.d, .bool p.obj.k, .int .i64 p.wait.m, .int .i64 p.wait.d, .bool p.wait.k, .int .i64 p.exts, .int .i64 p.longest, .slice A p.hols.length c, .int .i64 t.phase, .int .i64 t.last, .int .i64 t.deadline, .int .i64 t.object, .int .i64 t.objected, .int .i64 t.extended] _ rfl h6.range Tryz.underlying134 rfl stSize) rfl ⟨by rfl, hb7.out⟩
end Go.Proofs.YtbegbajlagcbdaaGreatDoor
