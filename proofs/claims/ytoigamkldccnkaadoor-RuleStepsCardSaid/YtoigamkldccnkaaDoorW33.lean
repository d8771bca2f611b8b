/- The walk of WorkingBetween. -/
import Derived.Test.YtoigamkldccnkaaDoorW32
namespace Go.Proofs.YtoigamkldccnkaaDoor
open Go Go.RowKit Go.Shelf
attribute [local go_sem] Oper.semAt_some
/-- How many of k days from a on are working days. -/
def Cal.cnt (l : List Hol) (a : Int) : Nat → Int
  | 0 => 0
  | k + 1 => Cal.cnt l a k + if Cal.workB l (a + k) = true then 1 else 0
def Cal.betw (l : List Hol) (a b : Int) : Int := Cal.cnt l a (b - a).toNat
theorem Cal.cnt_bd (l : List Hol) (a : Int) : ∀ k, 0 ≤ Cal.cnt l a k ∧ Cal.cnt l a k ≤ k
  | 0 => by simp [Cal.cnt]
  | k + 1 => by
    have := Cal.cnt_bd l a k
    unfold Cal.cnt; split <;> omega
theorem Cal.betw_self (l : List Hol) (a : Int) : Cal.betw l a a = 0 := by unfold Cal.betw; simp [Cal.cnt]
theorem Cal.betw_succ {l : List Hol} {a d : Int} (h : a ≤ d) : Cal.betw l a (d + 1) = Cal.betw l a d + if Cal.workB l d = true then 1 else 0 := by
  unfold Cal.betw
  rw [show (d + 1 - a).toNat = (d - a).toNat + 1 by omega]
  conv => lhs; unfold Cal.cnt
  rw [show a + ((d - a).toNat : Int) = d by omega]
theorem Cal.betw_bd {l : List Hol} {a b : Int} (h : a ≤ b) : 0 ≤ Cal.betw l a b ∧ Cal.betw l a b ≤ b - a := by
  have := Cal.cnt_bd l a (b - a).toNat
  unfold Cal.betw; omega
theorem Cal.betw_stop {l : List Hol} {a b : Int} (h : a ≤ b) : ∀ k : Nat, (∀ x, b ≤ x → x < b + k → Cal.workB l x = false) → Cal.betw l a (b + k) = Cal.betw l a b
  | 0, _ => by simp
  | k + 1, hf => by
    have ih := Cal.betw_stop h k fun x h1 h2 => hf x h1 (by omega)
    rw [show b + ((k + 1 : Nat) : Int) = b + k + 1 by omega, Cal.betw_succ (by omega), hf (b + k) (by omega) (by omega), ih]
    simp
theorem Cal.betw_add {l : List Hol} {a b : Int} (h : a ≤ b) : ∀ k : Nat, Cal.betw l a (b + k) = Cal.betw l a b + Cal.betw l b (b + k)
  | 0 => by simp [Cal.betw_self]
  | k + 1 => by
    have ih := Cal.betw_add (l := l) h k
    rw [show b + ((k + 1 : Nat) : Int) = b + k + 1 by omega, Cal.betw_succ (by omega), Cal.betw_succ (by omega), ih]
    omega
/-- WorkingBetween: the number and the error. -/
def Cal.betwE (l : List Hol) (a b : Int) : Int := if Cal.holsErr l = 0 then (if 0 ≤ a ∧ a ≤ 200000 ∧ 0 ≤ b ∧ b ≤ 200000 then (if b < a then 9 else 0) else 2) else Cal.holsErr l
def Cal.betwN (l : List Hol) (a b : Int) : Int := if Cal.betwE l a b = 0 then Cal.betw l a b else 0
structure CalCell (W : World) (cb m : Nat) (A : Option Addr) (c n : Nat) : Prop where
  c0 : W.cell? ⟨cb, 0, none⟩ = some (.slice A n c)
  c1 : W.cell? ⟨cb, 1, none⟩ = some (.map (some m))
  lt : cb < W.heap.size
theorem CalCell.kept {W W' : World} {row : Option Nat} {cb m : Nat} {A : Option Addr} {c n : Nat} (h : CalCell W cb m A c n) (hg : W.grownBy W' row) (hr : Others W row) : CalCell W' cb m A c n :=
  ⟨cell_kept h.c0 hg hr, cell_kept h.c1 hg hr, Nat.lt_of_lt_of_le h.lt hg.size⟩
/-- What WorkingBetween keeps while it goes round. W0: the world when it had checked. -/
structure BetI (K : Where) (W0 : World) (n : Int) (d : Int) (W : World) : Prop where
  fr : Below W0.heap.size W0 W
  lo : -1 ≤ d
  hi : d ≤ 200001
  st : OwnCell W K.bs (.int .i64 K.step)
  from_ : OwnCell W K.bf (.int .i64 K.start)
  cal : OwnCell W K.bc (.pointer (some ⟨K.cb, 0, none⟩))
  cald : CalCell W K.cb K.m K.A K.c K.l.length
  num : OwnCell W W0.heap.size (.int .i64 n)
  cache : CacheAt K d W
  size : W0.heap.size + 6 ≤ W.heap.size
structure BetK (K : Where) (W0 : World) : Prop where
  b : K.B = W0.heap.size + 6
  m : K.m = W0.heap.size + 1
  cb : K.cb = W0.heap.size + 2
  bc : K.bc = W0.heap.size + 3
  bf : K.bf = W0.heap.size + 4
  bs : K.bs = W0.heap.size + 5
  hols : Hols W0 K.A K.l
  tab : Tab W0
  st : K.step = 1
theorem BetI.inv {K : Where} {W0 W : World} {n d : Int} (hK : BetK K W0) (h : BetI K W0 n d W) : DaysInv K d W :=
  ⟨h.lo, h.hi, h.from_.cell, h.st.cell, h.cal.cell, ⟨h.cald.c0, h.cald.c1, h.cald.lt, hK.hols.below h.fr, hK.tab.below h.fr⟩, h.cache, by rw [hK.b]; exact h.size⟩
theorem BetI.book {K : Where} {W0 W W' : World} {n d : Int} (h : BetI K W0 n d W) {row : Option Nat} (hg : W.grownBy W' row) (hr : ∀ r, row = some r → W0.heap.size ≤ r ∧ ∃ o : Obj, W.heap[r]? = some o ∧ isBook o = true) : BetI K W0 n d W' := by
  have ho : Others W row := fun r e => by obtain ⟨_, o, h1, h2⟩ := hr r e; exact ⟨o, h1, not_cells_of_book h2⟩
  refine ⟨h.fr.grown hg h.fr.size (fun k e => (hr k e).1), h.lo, h.hi, h.st.kept hg ho, h.from_.kept hg ho, h.cal.kept hg ho, h.cald.kept hg ho, h.num.kept hg ho, ?_, Nat.le_trans h.size hg.size⟩
  obtain ⟨q, hc, hn⟩ := h.cache
  have hmap : ∃ es cl, W.heap[K.m]? = some (.map es cl) := by obtain ⟨f, h, _⟩ := hc; exact h.isMap
  refine ⟨q, hc.keep (hg.block _ ?_ ?_) (fun g cs t _ hgc => (hg.block g (Array.getElem?_eq_some_iff.1 hgc).1 ?_).trans hgc), hn⟩
  · obtain ⟨es, cl, h⟩ := hmap; exact (Array.getElem?_eq_some_iff.1 h).1
  · intro e; obtain ⟨_, o, h1, h2⟩ := hr _ e.symm; obtain ⟨es, cl, h⟩ := hmap; rw [h] at h1; cases h1; cases h2
  · intro e; obtain ⟨_, o, h1, h2⟩ := hr _ e.symm; rw [hgc] at h1; cases h1; cases h2
theorem BetI.step {K : Where} {W0 W W' : World} {n d d' : Int} (hK : BetK K W0) (h : BetI K W0 n d W) (hg : W.grownBy W' (some K.m)) (hc : CacheAt K d' W') (h1 : -1 ≤ d') (h2 : d' ≤ 200001) : BetI K W0 n d' W' := by
  have ho := cacheOthers h.cache
  exact ⟨h.fr.grown hg h.fr.size (fun k e => by cases e; rw [hK.m]; omega), h1, h2, h.st.kept hg ho, h.from_.kept hg ho, h.cal.kept hg ho, h.cald.kept hg ho, h.num.kept hg ho, hc, Nat.le_trans h.size hg.size⟩
theorem BetI.store {K : Where} {W0 W : World} {n d : Int} (hK : BetK K W0) (h : BetI K W0 n d W) (u : Int) : BetI K W0 u d (W.setCell ⟨W0.heap.size, 0, none⟩ (.int .i64 u)) := by
  have hfar : ∀ (g : Nat), g ≠ W0.heap.size → (W.setCell ⟨W0.heap.size, 0, none⟩ (.int .i64 u)).heap[g]? = W.heap[g]? := fun g hg => Below.heap_setCell W ⟨W0.heap.size, 0, none⟩ (.int .i64 u) g hg
  have h1 := hK.bs; have h2 := hK.bf; have h3 := hK.bc; have h4 := hK.b; have h5 := hK.m; have h6 := hK.cb
  refine ⟨h.fr.setCell (Nat.le_refl _) _, h.lo, h.hi, h.st.far (by simp; omega) _, h.from_.far (by simp; omega) _, h.cal.far (by simp; omega) _, ?_, h.num.set_ _, ?_, by simpa [World.setCell] using h.size⟩
  · have hne : ∀ j, (⟨W0.heap.size, 0, none⟩ : Addr) ≠ ⟨K.cb, j, none⟩ := fun j e => by
      have := congrArg Addr.block e
      simp only at this
      omega
    exact ⟨(World.cell?_setCell_other W ⟨W0.heap.size, 0, none⟩ ⟨K.cb, 0, none⟩ _ (hne 0)).trans h.cald.c0, (World.cell?_setCell_other W ⟨W0.heap.size, 0, none⟩ ⟨K.cb, 1, none⟩ _ (hne 1)).trans h.cald.c1, by simpa [World.setCell] using h.cald.lt⟩
  · obtain ⟨q, hc, hn⟩ := h.cache
    exact ⟨q, hc.keep (hfar _ (by omega)) (fun g cs t hg hgc => (hfar g (by omega)).trans hgc), hn⟩
def BetInv (K : Where) (W0 : World) (to : Int) (d : Int) (W : World) : Prop :=
  BetI K W0 (Cal.betw K.l K.start d) d W ∧ K.start ≤ d ∧ ∀ x, to ≤ x → x < d → Cal.workB K.l x = false
def BetAsk (K : Where) (W0 : World) (to : Int) (d : Int) (W : World) : Prop :=
  isDayP d ∧ Cal.workB K.l d = true ∧ BetI K W0 (Cal.betw K.l K.start d) (d + 1) W ∧ K.start ≤ d ∧ ∀ x, to ≤ x → x < d → Cal.workB K.l x = false
def BetOut (K : Where) (W0 : World) (to : Int) (id : Nat) (c : Code) (W : World) : Prop :=
  c = .exit id ∧ Below W0.heap.size W0 W ∧ OwnCell W W0.heap.size (.int .i64 (Cal.betw K.l K.start to))
theorem BetInv.inv {K : Where} {W0 : World} {to : Int} (hK : BetK K W0) (d : Int) (W : World) (h : BetInv K W0 to d W) : DaysInv K d W := h.1.inv hK
theorem BetInv.step {K : Where} {W0 : World} {to : Int} (hK : BetK K W0) (hok : Cal.HolsOk K.l) (d : Int) (A B : World) (h : BetInv K W0 to d A) (hs : DaysStep K d A B) : BetInv K W0 to (d + K.step) B := by
  obtain ⟨h, h1, h2⟩ := h
  obtain ⟨hd, hw, hg, hc⟩ := hs
  have hst := hK.st
  obtain ⟨d1, d2⟩ := id hd
  rw [Cal.workB_eq hok d1 d2] at hw
  have e : Cal.betw K.l K.start (d + K.step) = Cal.betw K.l K.start d := by rw [hst, Cal.betw_succ h1, hw]; simp
  refine ⟨by rw [e]; exact h.step hK hg hc (by omega) (by omega), by omega, fun x hx1 hx2 => ?_⟩
  by_cases hx : x = d
  · rw [hx]; exact hw
  · exact h2 x hx1 (by omega)
theorem BetInv.ask {K : Where} {W0 : World} {to : Int} (hK : BetK K W0) (hok : Cal.HolsOk K.l) (d : Int) (A B : World) (h : BetInv K W0 to d A) (hs : DaysAsk K d A B) : BetAsk K W0 to d B := by
  obtain ⟨h, h1, h2⟩ := h
  obtain ⟨hd, hw, hg, hc⟩ := hs
  have hst := hK.st
  obtain ⟨d1, d2⟩ := id hd
  rw [Cal.workB_eq hok d1 d2] at hw
  rw [hst] at hc
  exact ⟨hd, hw, h.step hK hg hc (by omega) (by omega), h1, h2⟩
theorem BetInv.alloc {K : Where} {W0 : World} {to : Int} (d : Int) (A : World) (o : Obj) (_ : isBook o = true) (h : BetInv K W0 to d A) : BetInv K W0 to d (A.alloc o) :=
  ⟨h.1.book (World.grownBy_alloc A o none) (fun r e => by cases e), h.2⟩
theorem BetInv.put {K : Where} {W0 : World} {to : Int} (d : Int) (A : World) (r : Nat) (o o' : Obj) (hr : W0.heap.size ≤ r) (ho : A.heap[r]? = some o) (hb : isBook o = true) (h : BetInv K W0 to d A) : BetInv K W0 to d (A.putObj r o') :=
  ⟨h.1.book (grownBy_putObj' A r o') (fun r' e => by cases e; exact ⟨hr, o, ho, hb⟩), h.2⟩
theorem BetAsk.put {K : Where} {W0 : World} {to : Int} (d : Int) (A : World) (r : Nat) (o o' : Obj) (hr : W0.heap.size ≤ r) (ho : A.heap[r]? = some o) (hb : isBook o = true) (h : BetAsk K W0 to d A) : BetAsk K W0 to d (A.putObj r o') := by
  obtain ⟨hd, hw, h, h1⟩ := h
  exact ⟨hd, hw, h.book (grownBy_putObj' A r o') (fun r' e => by cases e; exact ⟨hr, o, ho, hb⟩), h1⟩
theorem BetOut.put {K : Where} {W0 : World} {to : Int} {id : Nat} (c : Code) (A : World) (r : Nat) (o o' : Obj) (hr : W0.heap.size ≤ r) (ho : A.heap[r]? = some o) (hb : isBook o = true) (h : BetOut K W0 to id c A) : BetOut K W0 to id c (A.putObj r o') := by
  obtain ⟨hc, hg, h1⟩ := h
  have ho' : Others A (some r) := fun r' e => by cases e; exact ⟨o, ho, not_cells_of_book hb⟩
  have hg' := grownBy_putObj' A r o'
  exact ⟨hc, hg.grown hg' hg.size (fun k e => by cases e; exact hr), h1.kept hg' ho'⟩
def betWorld (W : World) (A : Option Addr) (n c : Nat) (d : Int) : World :=
  (((((W.alloc (.cells #[.int .i64 0] 3)).alloc (.map #[] 0)).alloc (.cells #[.slice A n c, .map (some (W.heap.size + 1))] 127)).alloc (.cells #[.pointer (some ⟨W.heap.size + 2, 0, none⟩)] 105)).alloc (.cells #[.int .i64 d] 3)).alloc (.cells #[.int .i64 1] 3)
theorem bet_start (W : World) (A : Option Addr) (c : Nat) (l : List Hol) (d : Int) (h1 : 0 ≤ d) (h2 : d ≤ 200000) :
    BetI ⟨W.heap.size + 2, W.heap.size + 1, A, c, l, W.heap.size + 6, W.heap.size + 4, W.heap.size + 5, W.heap.size + 3, 1, d⟩ W 0 d (betWorld W A l.length c d) := by
  have n0 := own_new W (.int .i64 0) 3
  have m1 := MapIs.made Tryd.prog 3 intLit (W.alloc (.cells #[.int .i64 0] 3))
  have q2 := cell_alloc_at ((W.alloc (.cells #[.int .i64 0] 3)).alloc (.map #[] 0)) #[.slice A l.length c, .map (some (W.heap.size + 1))] 127
  have n3 := own_new (((W.alloc (.cells #[.int .i64 0] 3)).alloc (.map #[] 0)).alloc (.cells #[.slice A l.length c, .map (some (W.heap.size + 1))] 127)) (.pointer (some ⟨W.heap.size + 2, 0, none⟩)) 105
  have n4 := own_new ((((W.alloc (.cells #[.int .i64 0] 3)).alloc (.map #[] 0)).alloc (.cells #[.slice A l.length c, .map (some (W.heap.size + 1))] 127)).alloc (.cells #[.pointer (some ⟨W.heap.size + 2, 0, none⟩)] 105)) (.int .i64 d) 3
  have n5 := own_new (((((W.alloc (.cells #[.int .i64 0] 3)).alloc (.map #[] 0)).alloc (.cells #[.slice A l.length c, .map (some (W.heap.size + 1))] 127)).alloc (.cells #[.pointer (some ⟨W.heap.size + 2, 0, none⟩)] 105)).alloc (.cells #[.int .i64 d] 3)) (.int .i64 1) 3
  simp only [World.size_alloc] at m1 q2 n3 n4 n5
  have c2 : CalCell (((W.alloc (.cells #[.int .i64 0] 3)).alloc (.map #[] 0)).alloc (.cells #[.slice A l.length c, .map (some (W.heap.size + 1))] 127)) (W.heap.size + 2) (W.heap.size + 1) A c l.length := ⟨q2 0, q2 1, by simp⟩
  have hkc : ∀ {X : World} (o : Obj), CalCell X (W.heap.size + 2) (W.heap.size + 1) A c l.length → CalCell (X.alloc o) (W.heap.size + 2) (W.heap.size + 1) A c l.length := fun o h => h.kept (World.grownBy_alloc _ o none) (fun r e => by cases e)
  refine ⟨?_, by omega, by omega, n5, n4.alloc _, (n3.alloc _).alloc _, hkc _ (hkc _ (hkc _ c2)), ((((n0.alloc _).alloc _).alloc _).alloc _).alloc _, ⟨0, ⟨_, (((m1.alloc _).alloc _).alloc _).alloc _, fun y v h => by cases h⟩, ?_⟩, ?_⟩
  · exact below_step (below_step (below_step (below_step (below_step (below_alloc _ _) (below_alloc _ _)) (below_alloc _ _)) (below_alloc _ _)) (below_alloc _ _)) (below_alloc _ _)
  · unfold stepsLeft; simp only; split <;> omega
  · unfold betWorld; simp
def BetPost (w : World) (l : List Hol) (a b : Int) (e : Ending) (w' : World) : Prop := e = .returned (.tuple #[.int .i64 (Cal.betwN l a b), .int .i64 (Cal.betwE l a b)]) ∧ Below w.heap.size w w'
set_option maxRecDepth 100000 in
set_option maxHeartbeats 4000000 in
theorem WorkingBetween_in (A : Option Addr) (c : Nat) (l : List Hol) (h0 : Cal.holsErr l = 0) (a b : Int) (a0 : 0 ≤ a) (a1 : a ≤ 200000) (b0 : 0 ≤ b) (b1 : b ≤ 200000) (hab : a ≤ b) (w : World) (hl : Hols w A l) (hT : Tab w) :
    Calls Tryd.prog 39 #[.slice A l.length c, .int .i64 a, .int .i64 b] w (BetPost w l a b) := by
  have hE : Hid (Cal.betwE l a b = 0) := by show _ = _; unfold Cal.betwE; rw [if_pos h0, if_pos ⟨a0, a1, b0, b1⟩, if_neg (by omega)]
  have hN : Hid (Cal.betwN l a b = Cal.betw l a b) := by show _ = _; unfold Cal.betwN; rw [if_pos hE.out]
  obtain ⟨hok, hlen⟩ := Cal.holsErr_ok h0
  have h1 : (Cal.holsErr l != 0) = false := by simpa using h0
  have hl' := Lib.hid hl
  have hT' := Lib.hid hT
  have hba := Lib.hid (below_alloc w (.cells #[.int .i64 b] 3))
  clear hl hT h0
  refine (callsIn_wide (n := 4)).1 ?_
  refine callsIn_of_wp_marks Tryd.func39 rfl trivial ?_ rfl
  simp only [Tryd.ntmps39, List.size_toArray, List.length_cons, List.length_nil, Nat.reduceAdd, Nat.reduceSub, Array.replicate_succ, Array.replicate_zero, List.push_toArray, List.append_toArray, List.nil_append, List.cons_append]
  gi_wp2_with fail
  refine ⟨trivial, ?_⟩
  refine (callsIn_wide.2 (CheckHolidays_any _ _ l _ (hl'.out.below hba.out) (hT'.out.below hba.out))).mono ?_
  rintro e w1 ⟨rfl, hb1⟩
  have k0 : w1.cell? ⟨w.heap.size, 0, none⟩ = some (.int .i64 b) := (hb1.cell (p := ⟨w.heap.size, 0, none⟩) (by simp)).trans (by simp)
  have hlt : w.heap.size < w1.heap.size := by have := hb1.size; simp at this; omega
  have hb1' := Lib.hid (below_step hba.out hb1)
  clear hb1
  gi_wp2_with (refine ⟨trivial, ?_⟩; gi_at_call 75; refine (callsIn_wide.2 (calls_in (isDay_any _ _) (by omega) (by omega))).mono ?_; rintro e w' ⟨rfl, rfl⟩)
  refine ⟨trivial, ?_⟩
  refine (callsIn_wide.2 (calendarOf_any A l.length c _)).mono ?_
  rintro e w2 ⟨rfl, rfl⟩
  gi_wp2_with (refine ⟨trivial, ?_⟩; gi_at_call 83; refine (callsIn_wide.2 (days_any _ _ _ _)).mono ?_; rintro e w' ⟨rfl, rfl⟩)
  show (Code.rangeFunc _ _ _ _).wpIn _ _ _ _ _ (betWorld w1 A l.length c a)
  obtain ⟨W1, hW1⟩ : ∃ W1, W1 = betWorld w1 A l.length c a := ⟨_, rfl⟩
  rw [← hW1]
  have hK : BetK ⟨w1.heap.size + 2, w1.heap.size + 1, A, c, l, w1.heap.size + 6, w1.heap.size + 4, w1.heap.size + 5, w1.heap.size + 3, 1, a⟩ w1 := ⟨rfl, rfl, rfl, rfl, rfl, rfl, hl'.out.below hb1'.out, hT'.out.below hb1'.out, rfl⟩
  have hsz : w1.heap.size ≤ W1.heap.size := by rw [hW1]; unfold betWorld; simp; omega
  have h0 : BetInv ⟨w1.heap.size + 2, w1.heap.size + 1, A, c, l, w1.heap.size + 6, w1.heap.size + 4, w1.heap.size + 5, w1.heap.size + 3, 1, a⟩ w1 b a W1 := by
    refine ⟨?_, Int.le_refl _, fun x h1 h2 => by omega⟩
    rw [hW1, Cal.betw_self]
    exact bet_start w1 A c l a a0 a1
  generalize hKK : (⟨w1.heap.size + 2, w1.heap.size + 1, A, c, l, w1.heap.size + 6, w1.heap.size + 4, w1.heap.size + 5, w1.heap.size + 3, 1, a⟩ : Where) = KK at hK h0
  have hKl : Hid (KK.l = l) := by rw [← hKK]; rfl
  have hKs : Hid (KK.start = a) := by rw [← hKK]; rfl
  have hokK : Cal.HolsOk KK.l := by rw [hKl.out]; exact hok
  refine wpIn_rangeFunc_raw rfl (by omega) (gf := 107) (lb := #[.pointer (some ⟨w1.heap.size + 4, 0, none⟩), .pointer (some ⟨w1.heap.size + 5, 0, none⟩), .pointer (some ⟨w1.heap.size + 3, 0, none⟩)]) rfl trivial (enters_of Tryd.func107 (by kernel_rfl) rfl)
    (by have := days_raw KK (.inl hK.st) (by rw [← hKK]; exact holidaysOf_any A c l hok (by omega)) 3; rw [← hKK] at this ⊢; exact this) (fun _ => rfl) days_keep
    (BetInv KK w1 b) (BetAsk KK w1 b) (BetOut KK w1 b 1) (BetInv.inv hK) (BetInv.step hK hokK) (BetInv.ask hK hokK) BetInv.alloc
    ?i2 ?ia2 ?ix2 (by rw [← hKK]; rw [← hKK] at h0; exact h0) ?a1 ?assign ?body ?done ?stop
  case assign =>
    intro l x W K hK
    gi_wp2
    exact hK
  case i2 => exact fun s A l o o' hl ho hb _ h => BetInv.put s A l o o' (Nat.le_trans hsz hl) ho hb h
  case ia2 => exact fun s A l o o' hl ho hb _ h => BetAsk.put s A l o o' (Nat.le_trans hsz hl) ho hb h
  case ix2 => exact fun s A l o o' hl ho hb _ h => BetOut.put s A l o o' (Nat.le_trans hsz hl) ho hb h
  case body =>
    rintro l0 d Wd ⟨hd, hw, hI, h1, h2⟩
    have hcn := hI.num.cell
    have hfn := hI.num.free
    have hct : Wd.cell? ⟨w.heap.size, 0, none⟩ = some (.int .i64 b) := (hI.fr.cell (p := ⟨w.heap.size, 0, none⟩) hlt).trans k0
    have hbd := Cal.betw_bd (l := KK.l) h1
    have hd2 : d ≤ 200000 := hd.2
    have hs0 : 0 ≤ KK.start := by rw [hKs.out]; exact a0
    generalize hcnt : Cal.betw KK.l KK.start d = cnt at *
    have hcz := Lib.hid hcnt
    have hAll := Lib.hid (And.intro hd (And.intro hw (And.intro hI (And.intro h1 h2))))
    clear hd hw hI h2 hKK hcnt
    by_cases hdb : b ≤ d
    · gi_wp2
      obtain ⟨hd, hw, hI, h1, h2⟩ := hAll.out
      refine ⟨KeepsOthers.refl _, rfl, hI.fr, ?_⟩
      have e : Cal.betw KK.l KK.start b = cnt := by
        have := Cal.betw_stop (l := KK.l) (a := KK.start) (b := b) (by rw [hKs.out]; exact hab) (d - b).toNat (fun x hx1 hx2 => h2 x hx1 (by omega))
        rw [show b + ((d - b).toNat : Int) = d by omega] at this
        rw [← this, hcz.out]
      rw [e]; exact hI.num
    · gi_wp2
      obtain ⟨hd, hw, hI, h1, h2⟩ := hAll.out
      refine ⟨KeepsOthers.setCell _ _ _, ?_, ?_, ?_⟩
      · show BetI KK w1 (Cal.betw KK.l KK.start (d + KK.step)) (d + KK.step) _
        rw [hK.st, Cal.betw_succ h1, hw, if_pos rfl, hcz.out]
        exact hI.store hK _
      · show KK.start ≤ d + KK.step
        rw [hK.st]; omega
      · intro x hx1 hx2
        rw [hK.st] at hx2
        omega
  case done =>
    rintro D s W2 hE2 ⟨hI, h1, h2⟩ hle hD
    have e : Cal.betw KK.l KK.start s = Cal.betw l a b := by
      have hs : b ≤ s := by
        have := hI.lo; unfold isDayP at hE2; have := hKs.out; omega
      have := Cal.betw_stop (l := KK.l) (a := KK.start) (b := b) (by rw [hKs.out]; exact hab) (s - b).toNat (fun x hx1 hx2 => h2 x hx1 (by omega))
      rw [show b + ((s - b).toNat : Int) = s by omega] at this
      rw [this, hKl.out, hKs.out]
    have hcn := hI.num.cell
    rw [e] at hcn
    have hAll := Lib.hid (And.intro hI hD)
    clear hI hD hKK h0 e h2
    gi_wp2
    obtain ⟨hI, hD⟩ := hAll.out
    refine ⟨by simp, .inl ⟨_, _, rfl, run_takeDeferred hD, ?_⟩⟩
    refine ⟨.tuple #[.int .i64 (Cal.betw l a b), .int .i64 0], by simp [results, Tryd.results39, go_sem], ?_⟩
    exact ⟨by rw [hE.out, hN.out], below_step hb1'.out (hI.fr.grown (grownBy_putObj' W2 D (.deferred none)) hI.fr.size (fun k e => by cases e; exact Nat.le_trans hsz hle))⟩
  case stop =>
    rintro D c W2 ⟨rfl, hg, hx0⟩ hle hD
    have hcn := hx0.cell
    rw [hKl.out, hKs.out] at hcn
    gi_wp2
    refine ⟨by simp, .inl ⟨_, _, rfl, run_takeDeferred hD, ?_⟩⟩
    refine ⟨.tuple #[.int .i64 (Cal.betw l a b), .int .i64 0], by simp [results, Tryd.results39, go_sem], ?_⟩
    exact ⟨by rw [hE.out, hN.out], below_step hb1'.out (hg.grown (grownBy_putObj' W2 D (.deferred none)) hg.size (fun k e => by cases e; exact Nat.le_trans hsz hle))⟩
theorem WorkingBetween_any (A : Option Addr) (c : Nat) (l : List Hol) (a b : Int) (w : World) (hl : Hols w A l) (hT : Tab w) :
    Calls Tryd.prog 39 #[.slice A l.length c, .int .i64 a, .int .i64 b] w (BetPost w l a b) := by
  by_cases h0 : Cal.holsErr l = 0
  · by_cases hd : 0 ≤ a ∧ a ≤ 200000 ∧ 0 ≤ b ∧ b ≤ 200000
    · by_cases hab : a ≤ b
      · exact WorkingBetween_in A c l h0 a b hd.1 hd.2.1 hd.2.2.1 hd.2.2.2 hab w hl hT
      · have hE : Hid (Cal.betwE l a b = 9) := by show _ = _; unfold Cal.betwE; rw [if_pos h0, if_pos hd, if_pos (by omega)]
        have hN : Hid (Cal.betwN l a b = 0) := by show _ = _; unfold Cal.betwN; rw [if_neg (by rw [hE.out]; decide)]
        have h1 : (Cal.holsErr l != 0) = false := by simpa using h0
        have hl' := Lib.hid hl
        have hT' := Lib.hid hT
        have hba := Lib.hid (below_alloc w (.cells #[.int .i64 b] 3))
        obtain ⟨a0, a1, b0, b1⟩ := hd
        clear hl hT h0
        go_enter Tryd.func39, Tryd.ntmps39
        go_wp2_with fail
        refine (CheckHolidays_any _ _ l _ (hl'.out.below hba.out) (hT'.out.below hba.out)).mono ?_
        rintro e w1 ⟨rfl, hb1⟩
        have k0 : w1.cell? ⟨w.heap.size, 0, none⟩ = some (.int .i64 b) := (hb1.cell (p := ⟨w.heap.size, 0, none⟩) (by simp)).trans (by simp)
        have hb1' := Lib.hid (below_step hba.out hb1)
        clear hb1
        go_wp2_with (first | (go_at_call 78; first | (refine (calls_in (within_any _ _ _ _) ?_ ?_).mono ?_; omega; omega; rintro e w' ⟨rfl, rfl⟩) | (refine (calls_out (within_any _ _ _ _) ?_).mono ?_; omega; rintro e w' ⟨rfl, rfl⟩) | (refine (within_any _ _ _ _).mono ?_; rintro e w' ⟨rfl, rfl⟩)) | (go_at_call 29; first | (refine (calls_in (Within_any _ _ _ _) ?_ ?_).mono ?_; omega; omega; rintro e w' ⟨rfl, rfl⟩) | (refine (calls_out (Within_any _ _ _ _) ?_).mono ?_; omega; rintro e w' ⟨rfl, rfl⟩) | (refine (Within_any _ _ _ _).mono ?_; rintro e w' ⟨rfl, rfl⟩)) | (go_at_call 75; first | (refine (calls_in (isDay_any _ _) ?_ ?_).mono ?_; omega; omega; rintro e w' ⟨rfl, rfl⟩) | (refine (calls_out (isDay_any _ _) ?_).mono ?_; omega; rintro e w' ⟨rfl, rfl⟩) | (refine (isDay_any _ _).mono ?_; rintro e w' ⟨rfl, rfl⟩)) | (go_at_call 32; first | (refine (calls_in (IsDay_any _ _) ?_ ?_).mono ?_; omega; omega; rintro e w' ⟨rfl, rfl⟩) | (refine (calls_out (IsDay_any _ _) ?_).mono ?_; omega; rintro e w' ⟨rfl, rfl⟩) | (refine (IsDay_any _ _).mono ?_; rintro e w' ⟨rfl, rfl⟩)) | (go_at_call 46; first | (refine (calls_in (IsYear_any _ _) ?_ ?_).mono ?_; omega; omega; rintro e w' ⟨rfl, rfl⟩) | (refine (calls_out (IsYear_any _ _) ?_).mono ?_; omega; rintro e w' ⟨rfl, rfl⟩) | (refine (IsYear_any _ _).mono ?_; rintro e w' ⟨rfl, rfl⟩)) | (go_at_call 25; first | (refine (calls_in (IsFull_any _ _) ?_ ?_).mono ?_; omega; omega; rintro e w' ⟨rfl, rfl⟩) | (refine (calls_out (IsFull_any _ _) ?_).mono ?_; omega; rintro e w' ⟨rfl, rfl⟩) | (refine (IsFull_any _ _).mono ?_; rintro e w' ⟨rfl, rfl⟩)) | (go_at_call 69; first | (refine (calls_in (isFull_any _ _) ?_ ?_).mono ?_; omega; omega; rintro e w' ⟨rfl, rfl⟩) | (refine (calls_out (isFull_any _ _) ?_).mono ?_; omega; rintro e w' ⟨rfl, rfl⟩) | (refine (isFull_any _ _).mono ?_; rintro e w' ⟨rfl, rfl⟩)))
        go_ret2
        exact ⟨by rw [hE.out, hN.out]; rfl, hb1'.out⟩
    · have hE : Hid (Cal.betwE l a b = 2) := by show _ = _; unfold Cal.betwE; rw [if_pos h0, if_neg hd]
      have hN : Hid (Cal.betwN l a b = 0) := by show _ = _; unfold Cal.betwN; rw [if_neg (by rw [hE.out]; decide)]
      have h1 : (Cal.holsErr l != 0) = false := by simpa using h0
      have hl' := Lib.hid hl
      have hT' := Lib.hid hT
      have hba := Lib.hid (below_alloc w (.cells #[.int .i64 b] 3))
      clear hl hT h0
      by_cases ha : 0 ≤ a ∧ a ≤ 200000
      · obtain ⟨a0, a1⟩ := ha
        have hb' : b < 0 ∨ 200000 < b := by omega
        clear hd
        go_enter Tryd.func39, Tryd.ntmps39
        go_wp2_with fail
        refine (CheckHolidays_any _ _ l _ (hl'.out.below hba.out) (hT'.out.below hba.out)).mono ?_
        rintro e w1 ⟨rfl, hb1⟩
        have k0 : w1.cell? ⟨w.heap.size, 0, none⟩ = some (.int .i64 b) := (hb1.cell (p := ⟨w.heap.size, 0, none⟩) (by simp)).trans (by simp)
        have hb1' := Lib.hid (below_step hba.out hb1)
        clear hb1
        go_wp2_with (first | (go_at_call 78; first | (refine (calls_in (within_any _ _ _ _) ?_ ?_).mono ?_; omega; omega; rintro e w' ⟨rfl, rfl⟩) | (refine (calls_out (within_any _ _ _ _) ?_).mono ?_; omega; rintro e w' ⟨rfl, rfl⟩) | (refine (within_any _ _ _ _).mono ?_; rintro e w' ⟨rfl, rfl⟩)) | (go_at_call 29; first | (refine (calls_in (Within_any _ _ _ _) ?_ ?_).mono ?_; omega; omega; rintro e w' ⟨rfl, rfl⟩) | (refine (calls_out (Within_any _ _ _ _) ?_).mono ?_; omega; rintro e w' ⟨rfl, rfl⟩) | (refine (Within_any _ _ _ _).mono ?_; rintro e w' ⟨rfl, rfl⟩)) | (go_at_call 75; first | (refine (calls_in (isDay_any _ _) ?_ ?_).mono ?_; omega; omega; rintro e w' ⟨rfl, rfl⟩) | (refine (calls_out (isDay_any _ _) ?_).mono ?_; omega; rintro e w' ⟨rfl, rfl⟩) | (refine (isDay_any _ _).mono ?_; rintro e w' ⟨rfl, rfl⟩)) | (go_at_call 32; first | (refine (calls_in (IsDay_any _ _) ?_ ?_).mono ?_; omega; omega; rintro e w' ⟨rfl, rfl⟩) | (refine (calls_out (IsDay_any _ _) ?_).mono ?_; omega; rintro e w' ⟨rfl, rfl⟩) | (refine (IsDay_any _ _).mono ?_; rintro e w' ⟨rfl, rfl⟩)) | (go_at_call 46; first | (refine (calls_in (IsYear_any _ _) ?_ ?_).mono ?_; omega; omega; rintro e w' ⟨rfl, rfl⟩) | (refine (calls_out (IsYear_any _ _) ?_).mono ?_; omega; rintro e w' ⟨rfl, rfl⟩) | (refine (IsYear_any _ _).mono ?_; rintro e w' ⟨rfl, rfl⟩)) | (go_at_call 25; first | (refine (calls_in (IsFull_any _ _) ?_ ?_).mono ?_; omega; omega; rintro e w' ⟨rfl, rfl⟩) | (refine (calls_out (IsFull_any _ _) ?_).mono ?_; omega; rintro e w' ⟨rfl, rfl⟩) | (refine (IsFull_any _ _).mono ?_; rintro e w' ⟨rfl, rfl⟩)) | (go_at_call 69; first | (refine (calls_in (isFull_any _ _) ?_ ?_).mono ?_; omega; omega; rintro e w' ⟨rfl, rfl⟩) | (refine (calls_out (isFull_any _ _) ?_).mono ?_; omega; rintro e w' ⟨rfl, rfl⟩) | (refine (isFull_any _ _).mono ?_; rintro e w' ⟨rfl, rfl⟩)))
        go_ret2
        exact ⟨by rw [hE.out, hN.out]; rfl, hb1'.out⟩
      · have ha' : a < 0 ∨ 200000 < a := by omega
        clear hd ha
        go_enter Tryd.func39, Tryd.ntmps39
        go_wp2_with fail
        refine (CheckHolidays_any _ _ l _ (hl'.out.below hba.out) (hT'.out.below hba.out)).mono ?_
        rintro e w1 ⟨rfl, hb1⟩
        have k0 : w1.cell? ⟨w.heap.size, 0, none⟩ = some (.int .i64 b) := (hb1.cell (p := ⟨w.heap.size, 0, none⟩) (by simp)).trans (by simp)
        have hb1' := Lib.hid (below_step hba.out hb1)
        clear hb1
        go_wp2_with (first | (go_at_call 78; first | (refine (calls_in (within_any _ _ _ _) ?_ ?_).mono ?_; omega; omega; rintro e w' ⟨rfl, rfl⟩) | (refine (calls_out (within_any _ _ _ _) ?_).mono ?_; omega; rintro e w' ⟨rfl, rfl⟩) | (refine (within_any _ _ _ _).mono ?_; rintro e w' ⟨rfl, rfl⟩)) | (go_at_call 29; first | (refine (calls_in (Within_any _ _ _ _) ?_ ?_).mono ?_; omega; omega; rintro e w' ⟨rfl, rfl⟩) | (refine (calls_out (Within_any _ _ _ _) ?_).mono ?_; omega; rintro e w' ⟨rfl, rfl⟩) | (refine (Within_any _ _ _ _).mono ?_; rintro e w' ⟨rfl, rfl⟩)) | (go_at_call 75; first | (refine (calls_in (isDay_any _ _) ?_ ?_).mono ?_; omega; omega; rintro e w' ⟨rfl, rfl⟩) | (refine (calls_out (isDay_any _ _) ?_).mono ?_; omega; rintro e w' ⟨rfl, rfl⟩) | (refine (isDay_any _ _).mono ?_; rintro e w' ⟨rfl, rfl⟩)) | (go_at_call 32; first | (refine (calls_in (IsDay_any _ _) ?_ ?_).mono ?_; omega; omega; rintro e w' ⟨rfl, rfl⟩) | (refine (calls_out (IsDay_any _ _) ?_).mono ?_; omega; rintro e w' ⟨rfl, rfl⟩) | (refine (IsDay_any _ _).mono ?_; rintro e w' ⟨rfl, rfl⟩)) | (go_at_call 46; first | (refine (calls_in (IsYear_any _ _) ?_ ?_).mono ?_; omega; omega; rintro e w' ⟨rfl, rfl⟩) | (refine (calls_out (IsYear_any _ _) ?_).mono ?_; omega; rintro e w' ⟨rfl, rfl⟩) | (refine (IsYear_any _ _).mono ?_; rintro e w' ⟨rfl, rfl⟩)) | (go_at_call 25; first | (refine (calls_in (IsFull_any _ _) ?_ ?_).mono ?_; omega; omega; rintro e w' ⟨rfl, rfl⟩) | (refine (calls_out (IsFull_any _ _) ?_).mono ?_; omega; rintro e w' ⟨rfl, rfl⟩) | (refine (IsFull_any _ _).mono ?_; rintro e w' ⟨rfl, rfl⟩)) | (go_at_call 69; first | (refine (calls_in (isFull_any _ _) ?_ ?_).mono ?_; omega; omega; rintro e w' ⟨rfl, rfl⟩) | (refine (calls_out (isFull_any _ _) ?_).mono ?_; omega; rintro e w' ⟨rfl, rfl⟩) | (refine (isFull_any _ _).mono ?_; rintro e w' ⟨rfl, rfl⟩)))
        go_ret2
        exact ⟨by rw [hE.out, hN.out]; rfl, hb1'.out⟩
  · have h0z := Lib.hid h0
    have hE : Hid (Cal.betwE l a b = Cal.holsErr l) := by show _ = _; unfold Cal.betwE; rw [if_neg h0]
    have hN : Hid (Cal.betwN l a b = 0) := by show _ = _; unfold Cal.betwN; rw [if_neg (by rw [hE.out]; exact h0)]
    have h1 : (Cal.holsErr l != 0) = true := by simpa using h0
    have hl' := Lib.hid hl
    have hT' := Lib.hid hT
    have hba := Lib.hid (below_alloc w (.cells #[.int .i64 b] 3))
    clear hl hT h0
    go_enter Tryd.func39, Tryd.ntmps39
    go_wp2_with fail
    refine (CheckHolidays_any _ _ l _ (hl'.out.below hba.out) (hT'.out.below hba.out)).mono ?_
    rintro e w1 ⟨rfl, hb1⟩
    have k0 : w1.cell? ⟨w.heap.size, 0, none⟩ = some (.int .i64 b) := (hb1.cell (p := ⟨w.heap.size, 0, none⟩) (by simp)).trans (by simp)
    have hb1' := Lib.hid (below_step hba.out hb1)
    clear hb1
    go_wp2_with (first | (go_at_call 78; first | (refine (calls_in (within_any _ _ _ _) ?_ ?_).mono ?_; omega; omega; rintro e w' ⟨rfl, rfl⟩) | (refine (calls_out (within_any _ _ _ _) ?_).mono ?_; omega; rintro e w' ⟨rfl, rfl⟩) | (refine (within_any _ _ _ _).mono ?_; rintro e w' ⟨rfl, rfl⟩)) | (go_at_call 29; first | (refine (calls_in (Within_any _ _ _ _) ?_ ?_).mono ?_; omega; omega; rintro e w' ⟨rfl, rfl⟩) | (refine (calls_out (Within_any _ _ _ _) ?_).mono ?_; omega; rintro e w' ⟨rfl, rfl⟩) | (refine (Within_any _ _ _ _).mono ?_; rintro e w' ⟨rfl, rfl⟩)) | (go_at_call 75; first | (refine (calls_in (isDay_any _ _) ?_ ?_).mono ?_; omega; omega; rintro e w' ⟨rfl, rfl⟩) | (refine (calls_out (isDay_any _ _) ?_).mono ?_; omega; rintro e w' ⟨rfl, rfl⟩) | (refine (isDay_any _ _).mono ?_; rintro e w' ⟨rfl, rfl⟩)) | (go_at_call 32; first | (refine (calls_in (IsDay_any _ _) ?_ ?_).mono ?_; omega; omega; rintro e w' ⟨rfl, rfl⟩) | (refine (calls_out (IsDay_any _ _) ?_).mono ?_; omega; rintro e w' ⟨rfl, rfl⟩) | (refine (IsDay_any _ _).mono ?_; rintro e w' ⟨rfl, rfl⟩)) | (go_at_call 46; first | (refine (calls_in (IsYear_any _ _) ?_ ?_).mono ?_; omega; omega; rintro e w' ⟨rfl, rfl⟩) | (refine (calls_out (IsYear_any _ _) ?_).mono ?_; omega; rintro e w' ⟨rfl, rfl⟩) | (refine (IsYear_any _ _).mono ?_; rintro e w' ⟨rfl, rfl⟩)) | (go_at_call 25; first | (refine (calls_in (IsFull_any _ _) ?_ ?_).mono ?_; omega; omega; rintro e w' ⟨rfl, rfl⟩) | (refine (calls_out (IsFull_any _ _) ?_).mono ?_; omega; rintro e w' ⟨rfl, rfl⟩) | (refine (IsFull_any _ _).mono ?_; rintro e w' ⟨rfl, rfl⟩)) | (go_at_call 69; first | (refine (calls_in (isFull_any _ _) ?_ ?_).mono ?_; omega; omega; rintro e w' ⟨rfl, rfl⟩) | (refine (calls_out (isFull_any _ _) ?_).mono ?_; omega; rintro e w' ⟨rfl, rfl⟩) | (refine (isFull_any _ _).mono ?_; rintro e w' ⟨rfl, rfl⟩)))
    go_ret2
    exact ⟨by rw [hE.out, hN.out]; rfl, hb1'.out⟩
def BetRPost (w : World) (l : List Hol) (a b : Int) (e : Ending) (w' : World) : Prop := e = .returned (.int .i64 (Cal.betw l a b)) ∧ Below w.heap.size w w'
theorem WorkingBetweenR_any (A : Option Addr) (c : Nat) (l : List Hol) (hok : Cal.HolsOk l) (a b : Int) (a0 : 0 ≤ a) (hab : a ≤ b) (b1 : b ≤ 200000) (w : World) (hl : Hols w A l) :
    Calls Tryd.prog 40 #[.slice A l.length c, .int .i64 a, .int .i64 b] w (BetRPost w l a b) := by
  have hl' := Lib.hid hl
  have h0 : Hid ((0 : Int) = Cal.betw l a a) := (Cal.betw_self l a).symm
  clear hl
  go_enter Tryd.func40, Tryd.ntmps40
  go_wp2_with fail
  go_loopw [7, 8] (fun nv dv wr => ∃ (n d : Int), nv = .int .i64 n ∧ dv = .int .i64 d ∧ a ≤ d ∧ d ≤ b ∧ 0 ≤ n ∧ n ≤ 1000000 ∧ Hid (n = Cal.betw l a d) ∧ Hid (Below w.heap.size w wr)) (fun _ dv _ => (b - intOf dv).toNat)
  case atStart => exact ⟨0, a, rfl, rfl, Int.le_refl _, hab, by omega, by omega, h0, Below.refl _ _⟩
  case round =>
    obtain ⟨n, d, rfl, rfl, d0, d1, n0, n1, hn, hb⟩ := hrel
    clear h0
    by_cases hlt : d < b
    · have hc := IsWorkingR_any A c l hok d (by omega) (by omega) wr (hl'.out.below hb.out)
      have hs := Cal.betw_succ (l := l) d0
      have hbd := Cal.betw_bd (l := l) (show a ≤ d + 1 by omega)
      rcases (Bool.eq_false_or_eq_true (Cal.workB l d)).symm with hw | hw
      · have hnx : Hid (n = Cal.betw l a (d + 1)) := by show _ = _; rw [hs, hw, ← hn.out]; simp
        rw [hw] at hc
        have hc := Lib.hid hc
        clear hs hw hbd
        go_wp2_with fail
        refine hc.out.mono ?_
        clear hc
        rintro e w1 ⟨rfl, hb1⟩
        have hbw := Lib.hid (below_step hb.out hb1)
        clear hb1
        go_wp2_with fail
        go_roundw
        case rel => exact ⟨n, d + 1, rfl, by go_num, by omega, by omega, n0, n1, hnx, hbw⟩
        case measure => simp [intOf]; omega
      · have hnx : Hid (n + 1 = Cal.betw l a (d + 1)) := by show _ = _; rw [hs, hw, ← hn.out]; simp
        have hn2 : n + 1 ≤ 1000000 := by rw [hnx.out]; omega
        rw [hw] at hc
        have hc := Lib.hid hc
        clear hs hw hbd
        go_wp2_with fail
        refine hc.out.mono ?_
        clear hc
        rintro e w1 ⟨rfl, hb1⟩
        have hbw := Lib.hid (below_step hb.out hb1)
        clear hb1
        go_wp2_with fail
        go_roundw
        case rel => exact ⟨n + 1, d + 1, by go_num, by go_num, by omega, by omega, by omega, hn2, hnx, hbw⟩
        case measure => simp [intOf]; omega
    · obtain rfl : d = b := by omega
      go_wp2_with fail
      go_ret
      exact ⟨ret_int hn.out, hb.out⟩
end Go.Proofs.YtoigamkldccnkaaDoor
