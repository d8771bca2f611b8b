/- Chapter 8 and what it rests on: definitions and walks, part 14. -/
import Derived.Test.YtbegbajlagcbdaaGreatDoorC13
namespace Go.Proofs.YtbegbajlagcbdaaGreatDoor
open Go Go.RowKit Go.Shelf
attribute [local go_sem] Oper.semAt_some
def AddPost (W0 : World) (m : Nat) (res : Option Int) (e : Ending) (W' : World) : Prop := e = .returned (Cal.addV res) ∧ W0.grownBy W' (some m)
def AddInv (K : Where) (W0 : World) (res : Option Int) (d : Int) (W : World) : Prop :=
  ∃ left : Int, AddI K W0 res left d W ∧ 0 ≤ left ∧ left ≤ 3000 ∧ res = Cal.addFrom K.l K.step (stepsLeft K.step d) d left
def AddAsk (K : Where) (W0 : World) (res : Option Int) (d : Int) (W : World) : Prop :=
  isDayP d ∧ Cal.worksB K.l d = true ∧ ∃ left : Int, AddI K W0 res left (d + K.step) W ∧ 0 ≤ left ∧ left ≤ 3000 ∧ res = Cal.addFrom K.l K.step (stepsLeft K.step d) d left
def AddOut (K : Where) (W0 : World) (res : Option Int) (c : Code) (W : World) : Prop :=
  c = .ret ∧ W0.grownBy W (some K.m) ∧ (∃ x, res = some x ∧ OwnCell W W0.heap.size (.int .i64 x)) ∧ OwnCell W (W0.heap.size + 1) (.bool true)
theorem AddInv.inv {K : Where} {W0 : World} (hK : AddK K W0) {res : Option Int} (d : Int) (W : World) (h : AddInv K W0 res d W) : DaysInv K d W := by
  obtain ⟨left, h, _⟩ := h; exact h.inv hK
theorem AddInv.step {K : Where} {W0 : World} (hK : AddK K W0) {res : Option Int} (d : Int) (A B : World) (h : AddInv K W0 res d A) (hs : DaysStep K d A B) : AddInv K W0 res (d + K.step) B := by
  obtain ⟨left, h, h1, h2, h3⟩ := h
  obtain ⟨hd, hw, hg, hc⟩ := hs
  have := hK.st; have hd' := hd; obtain ⟨d1, d2⟩ := hd'
  exact ⟨left, h.step hg hc (by omega) (by omega), h1, h2, by rw [h3, Cal.addFrom_skip hK.st hd hw]⟩
theorem AddInv.ask {K : Where} {W0 : World} (hK : AddK K W0) {res : Option Int} (d : Int) (A B : World) (h : AddInv K W0 res d A) (hs : DaysAsk K d A B) : AddAsk K W0 res d B := by
  obtain ⟨left, h, h1, h2, h3⟩ := h
  obtain ⟨hd, hw, hg, hc⟩ := hs
  have := hK.st; have hd' := hd; obtain ⟨d1, d2⟩ := hd'
  exact ⟨hd, hw, left, h.step hg hc (by omega) (by omega), h1, h2, h3⟩
theorem AddInv.alloc {K : Where} {W0 : World} {res : Option Int} (d : Int) (A : World) (o : Obj) (_ : isBook o = true) (h : AddInv K W0 res d A) : AddInv K W0 res d (A.alloc o) := by
  obtain ⟨left, h, h1⟩ := h
  exact ⟨left, h.book (World.grownBy_alloc A o none) (fun r e => by cases e), h1⟩
theorem AddInv.put {K : Where} {W0 : World} {res : Option Int} (d : Int) (A : World) (r : Nat) (o o' : Obj) (hr : W0.heap.size ≤ r) (ho : A.heap[r]? = some o) (hb : isBook o = true) (h : AddInv K W0 res d A) : AddInv K W0 res d (A.putObj r o') := by
  obtain ⟨left, h, h1⟩ := h
  exact ⟨left, h.book (grownBy_putObj' A r o') (fun r' e => by cases e; exact ⟨hr, o, ho, hb⟩), h1⟩
theorem AddAsk.put {K : Where} {W0 : World} {res : Option Int} (d : Int) (A : World) (r : Nat) (o o' : Obj) (hr : W0.heap.size ≤ r) (ho : A.heap[r]? = some o) (hb : isBook o = true) (h : AddAsk K W0 res d A) : AddAsk K W0 res d (A.putObj r o') := by
  obtain ⟨hd, hw, left, h, h1⟩ := h
  exact ⟨hd, hw, left, h.book (grownBy_putObj' A r o') (fun r' e => by cases e; exact ⟨hr, o, ho, hb⟩), h1⟩
theorem AddOut.put {K : Where} {W0 : World} {res : Option Int} (c : Code) (A : World) (r : Nat) (o o' : Obj) (hr : W0.heap.size ≤ r) (ho : A.heap[r]? = some o) (hb : isBook o = true) (h : AddOut K W0 res c A) : AddOut K W0 res c (A.putObj r o') := by
  obtain ⟨hc, hg, ⟨x, hx, hx0⟩, h1⟩ := h
  have ho' : Others A (some r) := fun r' e => by cases e; exact ⟨o, ho, not_cells_of_book hb⟩
  have hg' := grownBy_putObj' A r o'
  exact ⟨hc, ⟨hg'.os.trans hg.os, hg'.tape.trans hg.tape, hg'.output.trans hg.output, Nat.le_trans hg.size hg'.size, fun i hi hne => (hg'.block i (Nat.lt_of_lt_of_le hi hg.size) (fun e => by cases e; omega)).trans (hg.block i hi hne)⟩,
    ⟨x, hx, hx0.kept hg' ho'⟩, h1.kept hg' ho'⟩
theorem days_keep {K : Where} (s : Int) (A B : World) (k : Nat) (o : Obj) (h : DaysInv K s A) (hs : DaysStep K s A B ∨ DaysAsk K s A B) (hk : A.heap[k]? = some o) (hb : isBook o = true) : B.heap[k]? = some o := by
  have hg : A.grownBy B (some K.m) := by rcases hs with h | h <;> exact h.2.2.1
  refine (hg.block k (Array.getElem?_eq_some_iff.1 hk).1 (fun e => ?_)).trans hk
  cases e
  obtain ⟨o', h1, h2⟩ := cacheOthers h.cache _ rfl
  obtain ⟨n, ⟨f, hm, _⟩, _⟩ := h.cache
  obtain ⟨es, cl, hm⟩ := hm.isMap
  rw [hm] at hk; cases hk; cases hb
theorem fr_set {W0 W : World} {row : Option Nat} (h : W0.grownBy W row) {p : Addr} (hp : W0.heap.size ≤ p.block) (u : Value) : W0.grownBy (W.setCell p u) row :=
  ⟨h.os, h.tape, h.output, by simpa [World.setCell] using h.size, fun i hi hne => (Below.heap_setCell W p u i (by omega)).trans (h.block i hi hne)⟩
theorem fr_put {W0 W : World} {row : Option Nat} (h : W0.grownBy W row) {r : Nat} (hp : W0.heap.size ≤ r) (o : Obj) : W0.grownBy (W.putObj r o) row :=
  ⟨h.os, h.tape, h.output, by simpa using h.size, fun i hi hne => (World.putObj_heap_other (by omega)).trans (h.block i hi hne)⟩
def addWorld (W : World) (cb : Nat) (d step left : Int) : World :=
  ((((((W.alloc (.cells #[.int .i64 0] 3)).alloc (.cells #[.bool false] 4)).alloc (.cells #[.int .i64 left] 3)).alloc (.cells #[.pointer (some ⟨cb, 0, none⟩)] 222)).alloc (.cells #[.int .i64 d] 3)).alloc (.cells #[.int .i64 step] 3))
theorem own_new (W : World) (v : Value) (t : TypeId) : OwnCell (W.alloc (.cells #[v] t)) W.heap.size v := ⟨by simp, by unfold World.frozen?; rw [World.alloc_heap_new]; rfl⟩
theorem OwnCell.alloc {W : World} {b : Nat} {v : Value} (h : OwnCell W b v) (o : Obj) : OwnCell (W.alloc o) b v := h.kept (World.grownBy_alloc W o none) (fun r e => by cases e)
theorem add_start (W : World) (cb m : Nat) (A : Option Addr) (c : Nat) (l : List Hol) (res : Option Int) (hm : MapIs Tryz.prog 3 intLit W m 0 fun _ => none) (d step left : Int) (h1 : -1 ≤ d) (h2 : d ≤ 200001) :
    AddI ⟨cb, m, A, c, l, W.heap.size + 6, W.heap.size + 4, W.heap.size + 5, W.heap.size + 3, step, d⟩ W res left d (addWorld W cb d step left) := by
  have hs : ∀ (o1 o2 o3 o4 o5 o6 : Obj), ((((((W.alloc o1).alloc o2).alloc o3).alloc o4).alloc o5).alloc o6).heap.size = W.heap.size + 6 := fun _ _ _ _ _ _ => by simp
  have n0 := own_new W (.int .i64 0) 3
  have n1 := own_new (W.alloc (.cells #[.int .i64 0] 3)) (.bool false) 4
  have n2 := own_new ((W.alloc (.cells #[.int .i64 0] 3)).alloc (.cells #[.bool false] 4)) (.int .i64 left) 3
  have n3 := own_new (((W.alloc (.cells #[.int .i64 0] 3)).alloc (.cells #[.bool false] 4)).alloc (.cells #[.int .i64 left] 3)) (.pointer (some ⟨cb, 0, none⟩)) 222
  have n4 := own_new ((((W.alloc (.cells #[.int .i64 0] 3)).alloc (.cells #[.bool false] 4)).alloc (.cells #[.int .i64 left] 3)).alloc (.cells #[.pointer (some ⟨cb, 0, none⟩)] 222)) (.int .i64 d) 3
  have n5 := own_new (((((W.alloc (.cells #[.int .i64 0] 3)).alloc (.cells #[.bool false] 4)).alloc (.cells #[.int .i64 left] 3)).alloc (.cells #[.pointer (some ⟨cb, 0, none⟩)] 222)).alloc (.cells #[.int .i64 d] 3)) (.int .i64 step) 3
  simp only [World.size_alloc] at n1 n2 n3 n4 n5
  refine ⟨grownBy_below (below_step (below_step (below_step (below_step (below_step (below_alloc _ _) (below_alloc _ _)) (below_alloc _ _)) (below_alloc _ _)) (below_alloc _ _)) (below_alloc _ _)), h1, h2, n5, n4.alloc _, (n3.alloc _).alloc _, ((n2.alloc _).alloc _).alloc _, ((((n0.alloc _).alloc _).alloc _).alloc _).alloc _, (((n1.alloc _).alloc _).alloc _).alloc _, ⟨0, ⟨_, (((((hm.alloc _).alloc _).alloc _).alloc _).alloc _).alloc _, fun y v h => by cases h⟩, ?_⟩, ?_⟩
  · unfold stepsLeft; simp only; split <;> omega
  · unfold addWorld; rw [hs]; exact Nat.le_refl _
set_option maxHeartbeats 1000000 in
                                                 theorem add_zero (cb m : Nat) (A : Option Addr) (c : Nat) (l : List Hol) (hHol : HolCalls A c l) (day n : Int) (hn : n = 0) (_hn1 : -2000 ≤ n) (_hn2 : n ≤ 2000) (y0 : 0 ≤ day) (y1 : day ≤ 200000) (W : World) (hcal : Calend W cb m A c l) (hm : MapIs Tryz.prog 3 intLit W m 0 fun _ => none) :
                                                     Calls Tryz.prog 136 #[.pointer (some ⟨cb, 0, none⟩), .int .i64 day, .int .i64 n] W (AddPost W m (Cal.addW l day n)) := by
                                                   have hn3 : (n != 0) = false := by simpa using hn
                                                   have hn4 : ¬ n < 0 := by omega
                                                   have hn5 := Lib.hid hn
                                                   clear hn
                                                   refine (callsIn_wide (n := 4)).1 ?_
                                                   refine callsIn_of_wp_marks Tryz.func136 rfl trivial ?_ rfl
                                                   simp only [Tryz.ntmps136, List.size_toArray, List.length_cons, List.length_nil, Nat.reduceAdd, Nat.reduceSub, Array.replicate_succ, Array.replicate_zero, List.push_toArray, List.append_toArray, List.nil_append, List.cons_append]
                                                   gi_wp2_with (refine ⟨trivial, ?_⟩; gi_at_call 203; refine (callsIn_wide.2 (days_any cb _ _ _)).mono ?_; rintro e w' ⟨rfl, rfl⟩)
                                                   show (Code.rangeFunc _ _ _ _).wpIn _ _ _ _ _ (addWorld W cb (day) (1) (n))
                                                   obtain ⟨W1, hW1⟩ : ∃ W1, W1 = addWorld W cb (day) (1) (n) := ⟨_, rfl⟩
                                                   rw [← hW1]
                                                   have hK : AddK ⟨cb, m, A, c, l, W.heap.size + 6, W.heap.size + 4, W.heap.size + 5, W.heap.size + 3, 1, day⟩ W := ⟨rfl, rfl, rfl, rfl, hcal, hm.isMap, .inl rfl⟩
                                                   have hsz : W.heap.size ≤ W1.heap.size := by rw [hW1]; unfold addWorld; simp; omega
                                                   have h0 : AddInv ⟨cb, m, A, c, l, W.heap.size + 6, W.heap.size + 4, W.heap.size + 5, W.heap.size + 3, 1, day⟩ W (Cal.addW l day n) (day) W1 := by
                                                     refine ⟨n, ?_, by rw [hn5.out]; omega, by omega, by unfold Cal.addW; rw [if_pos hn5.out, hn5.out]⟩
                                                     rw [hW1]; exact add_start W cb m A c l _ hm (day) (1) (n) (by omega) (by omega)
                                                   generalize hKK : (⟨cb, m, A, c, l, W.heap.size + 6, W.heap.size + 4, W.heap.size + 5, W.heap.size + 3, 1, day⟩ : Where) = KK at hK h0
                                                   have hKm : Hid (KK.m = m) := by rw [← hKK]; rfl
                                                   refine wpIn_rangeFunc_raw rfl (by omega) (gf := 242) (lb := #[.pointer (some ⟨W.heap.size + 4, 0, none⟩), .pointer (some ⟨W.heap.size + 5, 0, none⟩), .pointer (some ⟨W.heap.size + 3, 0, none⟩)]) rfl trivial (enters_of Tryz.func242 (by kernel_rfl) rfl)
                                                     (by have := days_raw KK hK.st (by rw [← hKK]; exact hHol) 3; rw [← hKK] at this ⊢; exact this) (fun _ => rfl) days_keep
                                                     (AddInv KK W (Cal.addW l day n)) (AddAsk KK W (Cal.addW l day n)) (AddOut KK W (Cal.addW l day n)) (AddInv.inv hK) (AddInv.step hK) (AddInv.ask hK) AddInv.alloc
                                                     ?i2 ?ia2 ?ix2 (by rw [← hKK]; rw [← hKK] at h0; exact h0) ?a1 ?assign ?body ?done ?stop
                                                   case assign =>
                                                     intro l x W K hK
                                                     gi_wp2
                                                     exact hK
                                                   case i2 => exact fun s A l o o' hl ho hb _ h => AddInv.put s A l o o' (Nat.le_trans hsz hl) ho hb h
                                                   case ia2 => exact fun s A l o o' hl ho hb _ h => AddAsk.put s A l o o' (Nat.le_trans hsz hl) ho hb h
                                                   case ix2 => exact fun s A l o o' hl ho hb _ h => AddOut.put s A l o o' (Nat.le_trans hsz hl) ho hb h
                                                   case body =>
                                                     rintro l0 d Wd ⟨hd, hw, left, hI, h1, h2, h3⟩
                                                     have hc2 := hI.left_.cell
                                                     have hf2 := hI.left_.free
                                                     have hc0 := hI.r0.cell
                                                     have hf0 := hI.r0.free
                                                     have hc1 := hI.r1.cell
                                                     have hf1 := hI.r1.free
                                                     have hAll := Lib.hid (And.intro hd (And.intro hw (And.intro hI h3)))
                                                     clear hd hw hI h3 hKK
                                                     by_cases hl0 : left = 0
                                                     · subst hl0
                                                       gi_wp2
                                                       obtain ⟨hd, hw, hI, h3⟩ := hAll.out
                                                       refine ⟨(KeepsOthers.setCell _ _ _).trans (KeepsOthers.setCell _ _ _), rfl, fr_set (fr_set hI.fr (by simp) _) (by simp) _, ⟨d, by rw [h3, Cal.addFrom_hit hK.st hd hw], ?_⟩, ?_⟩
                                                       · exact (hI.r0.set_ _).far (by simp) _
                                                       · exact (hI.r1.far (by simp) _).set_ _
                                                     · have hl1 : (left == 0) = false := by simpa using hl0
                                                       gi_wp2
                                                       obtain ⟨hd, hw, hI, h3⟩ := hAll.out
                                                       exact ⟨KeepsOthers.setCell _ _ _, left - 1, hI.store hK _, by omega, by omega, by rw [h3, Cal.addFrom_next hK.st hd hw hl0]⟩
                                                   case done =>
                                                     rintro D s W2 hE ⟨left, hI, h1, h2, h3⟩ hle hD
                                                     rw [Cal.addFrom_no hE] at h3
                                                     have hc0 := hI.r0.cell
                                                     have hf0 := hI.r0.free
                                                     have hc1 := hI.r1.cell
                                                     have hf1 := hI.r1.free
                                                     have hAll := Lib.hid (And.intro hI (And.intro h3 hD))
                                                     clear hI h3 hD hKK h0
                                                     gi_wp2
                                                     obtain ⟨hI, h3, hD⟩ := hAll.out
                                                     have hbk : ((W2.setCell ⟨W.heap.size, 0, none⟩ (.int .i64 0)).setCell ⟨W.heap.size + 1, 0, none⟩ (.bool false)).heap[D]? = some (.deferred (some [])) :=
                                                       (KeepsOthers.setCell _ _ _).same D _ ((KeepsOthers.setCell _ _ _).same D _ hD rfl) rfl
                                                     refine ⟨by simp, .inl ⟨_, _, rfl, run_takeDeferred hbk, ?_⟩⟩
                                                     have ho' : Others ((W2.setCell ⟨W.heap.size, 0, none⟩ (.int .i64 0)).setCell ⟨W.heap.size + 1, 0, none⟩ (.bool false)) (some D) := fun r e => by cases e; exact ⟨_, hbk, rfl⟩
                                                     have q0 := (((hI.r0.set_ (.int .i64 0)).far (p := ⟨W.heap.size + 1, 0, none⟩) (by simp) (.bool false)).kept (grownBy_putObj' _ D (.deferred none)) ho').cell
                                                     have q1 := (((hI.r1.far (p := ⟨W.heap.size, 0, none⟩) (by simp) (.int .i64 0)).set_ (.bool false)).kept (grownBy_putObj' _ D (.deferred none)) ho').cell
                                                     refine ⟨.tuple #[.int .i64 0, .bool false], by simp [results, Tryz.results136, go_sem, q0, q1], ?_⟩
                                                     exact ⟨by rw [h3]; rfl, by rw [← hKm.out]; exact fr_put (fr_set (fr_set hI.fr (Nat.le_refl _) _) (Nat.le_succ _) _) (Nat.le_trans hsz hle) _⟩
                                                   case stop =>
                                                     rintro D c W2 ⟨rfl, hg, ⟨x, hx, hx0⟩, hx1⟩ hle hD
                                                     have hc0 := hx0.cell
                                                     have hc1 := hx1.cell
                                                     gi_wp2
                                                     refine ⟨by simp, .inl ⟨_, _, rfl, run_takeDeferred hD, ?_⟩⟩
                                                     have ho' : Others W2 (some D) := fun r e => by cases e; exact ⟨_, hD, rfl⟩
                                                     have q0 := (hx0.kept (grownBy_putObj' _ D (.deferred none)) ho').cell
                                                     have q1 := (hx1.kept (grownBy_putObj' _ D (.deferred none)) ho').cell
                                                     refine ⟨.tuple #[.int .i64 x, .bool true], by simp [results, Tryz.results136, go_sem, q0, q1], ?_⟩
                                                     exact ⟨by rw [hx]; rfl, by rw [← hKm.out]; exact fr_put hg (Nat.le_trans hsz hle) _⟩
set_option maxHeartbeats 1000000 in
                                                                                                                                         theorem add_pos (cb m : Nat) (A : Option Addr) (c : Nat) (l : List Hol) (hHol : HolCalls A c l) (day n : Int) (hn : 0 < n) (_hn1 : -2000 ≤ n) (_hn2 : n ≤ 2000) (y0 : 0 ≤ day) (y1 : day ≤ 200000) (W : World) (hcal : Calend W cb m A c l) (hm : MapIs Tryz.prog 3 intLit W m 0 fun _ => none) :
                                                                                                                                             Calls Tryz.prog 136 #[.pointer (some ⟨cb, 0, none⟩), .int .i64 day, .int .i64 n] W (AddPost W m (Cal.addW l day n)) := by
                                                                                                                                           have hn3 : (n != 0) = true := by simp; omega
                                                                                                                                           have hn4 : ¬ n < 0 := by omega
                                                                                                                                           refine (callsIn_wide (n := 4)).1 ?_
                                                                                                                                           refine callsIn_of_wp_marks Tryz.func136 rfl trivial ?_ rfl
                                                                                                                                           simp only [Tryz.ntmps136, List.size_toArray, List.length_cons, List.length_nil, Nat.reduceAdd, Nat.reduceSub, Array.replicate_succ, Array.replicate_zero, List.push_toArray, List.append_toArray, List.nil_append, List.cons_append]
                                                                                                                                           gi_wp2_with (refine ⟨trivial, ?_⟩; gi_at_call 203; refine (callsIn_wide.2 (days_any cb _ _ _)).mono ?_; rintro e w' ⟨rfl, rfl⟩)
                                                                                                                                           show (Code.rangeFunc _ _ _ _).wpIn _ _ _ _ _ (addWorld W cb (day + 1) (1) (n - 1))
                                                                                                                                           obtain ⟨W1, hW1⟩ : ∃ W1, W1 = addWorld W cb (day + 1) (1) (n - 1) := ⟨_, rfl⟩
                                                                                                                                           rw [← hW1]
                                                                                                                                           have hK : AddK ⟨cb, m, A, c, l, W.heap.size + 6, W.heap.size + 4, W.heap.size + 5, W.heap.size + 3, 1, day + 1⟩ W := ⟨rfl, rfl, rfl, rfl, hcal, hm.isMap, .inl rfl⟩
                                                                                                                                           have hsz : W.heap.size ≤ W1.heap.size := by rw [hW1]; unfold addWorld; simp; omega
                                                                                                                                           have h0 : AddInv ⟨cb, m, A, c, l, W.heap.size + 6, W.heap.size + 4, W.heap.size + 5, W.heap.size + 3, 1, day + 1⟩ W (Cal.addW l day n) (day + 1) W1 := by
                                                                                                                                             refine ⟨n - 1, ?_, by omega, by omega, by unfold Cal.addW; rw [if_neg (by omega), if_neg (by omega)]⟩
                                                                                                                                             rw [hW1]; exact add_start W cb m A c l _ hm (day + 1) (1) (n - 1) (by omega) (by omega)
                                                                                                                                           generalize hKK : (⟨cb, m, A, c, l, W.heap.size + 6, W.heap.size + 4, W.heap.size + 5, W.heap.size + 3, 1, day + 1⟩ : Where) = KK at hK h0
                                                                                                                                           have hKm : Hid (KK.m = m) := by rw [← hKK]; rfl
                                                                                                                                           refine wpIn_rangeFunc_raw rfl (by omega) (gf := 242) (lb := #[.pointer (some ⟨W.heap.size + 4, 0, none⟩), .pointer (some ⟨W.heap.size + 5, 0, none⟩), .pointer (some ⟨W.heap.size + 3, 0, none⟩)]) rfl trivial (enters_of Tryz.func242 (by kernel_rfl) rfl)
                                                                                                                                             (by have := days_raw KK hK.st (by rw [← hKK]; exact hHol) 3; rw [← hKK] at this ⊢; exact this) (fun _ => rfl) days_keep
                                                                                                                                             (AddInv KK W (Cal.addW l day n)) (AddAsk KK W (Cal.addW l day n)) (AddOut KK W (Cal.addW l day n)) (AddInv.inv hK) (AddInv.step hK) (AddInv.ask hK) AddInv.alloc
                                                                                                                                             ?i2 ?ia2 ?ix2 (by rw [← hKK]; rw [← hKK] at h0; exact h0) ?a1 ?assign ?body ?done ?stop
                                                                                                                                           case assign =>
                                                                                                                                             intro l x W K hK
                                                                                                                                             gi_wp2
                                                                                                                                             exact hK
                                                                                                                                           case i2 => exact fun s A l o o' hl ho hb _ h => AddInv.put s A l o o' (Nat.le_trans hsz hl) ho hb h
                                                                                                                                           case ia2 => exact fun s A l o o' hl ho hb _ h => AddAsk.put s A l o o' (Nat.le_trans hsz hl) ho hb h
                                                                                                                                           case ix2 => exact fun s A l o o' hl ho hb _ h => AddOut.put s A l o o' (Nat.le_trans hsz hl) ho hb h
                                                                                                                                           case body =>
                                                                                                                                             rintro l0 d Wd ⟨hd, hw, left, hI, h1, h2, h3⟩
                                                                                                                                             have hc2 := hI.left_.cell
                                                                                                                                             have hf2 := hI.left_.free
                                                                                                                                             have hc0 := hI.r0.cell
                                                                                                                                             have hf0 := hI.r0.free
                                                                                                                                             have hc1 := hI.r1.cell
                                                                                                                                             have hf1 := hI.r1.free
                                                                                                                                             have hAll := Lib.hid (And.intro hd (And.intro hw (And.intro hI h3)))
                                                                                                                                             clear hd hw hI h3 hKK
                                                                                                                                             by_cases hl0 : left = 0
                                                                                                                                             · subst hl0
                                                                                                                                               gi_wp2
                                                                                                                                               obtain ⟨hd, hw, hI, h3⟩ := hAll.out
                                                                                                                                               refine ⟨(KeepsOthers.setCell _ _ _).trans (KeepsOthers.setCell _ _ _), rfl, fr_set (fr_set hI.fr (by simp) _) (by simp) _, ⟨d, by rw [h3, Cal.addFrom_hit hK.st hd hw], ?_⟩, ?_⟩
                                                                                                                                               · exact (hI.r0.set_ _).far (by simp) _
                                                                                                                                               · exact (hI.r1.far (by simp) _).set_ _
                                                                                                                                             · have hl1 : (left == 0) = false := by simpa using hl0
                                                                                                                                               gi_wp2
                                                                                                                                               obtain ⟨hd, hw, hI, h3⟩ := hAll.out
                                                                                                                                               exact ⟨KeepsOthers.setCell _ _ _, left - 1, hI.store hK _, by omega, by omega, by rw [h3, Cal.addFrom_next hK.st hd hw hl0]⟩
                                                                                                                                           case done =>
                                                                                                                                             rintro D s W2 hE ⟨left, hI, h1, h2, h3⟩ hle hD
                                                                                                                                             rw [Cal.addFrom_no hE] at h3
                                                                                                                                             have hc0 := hI.r0.cell
                                                                                                                                             have hf0 := hI.r0.free
                                                                                                                                             have hc1 := hI.r1.cell
                                                                                                                                             have hf1 := hI.r1.free
                                                                                                                                             have hAll := Lib.hid (And.intro hI (And.intro h3 hD))
                                                                                                                                             clear hI h3 hD hKK h0
                                                                                                                                             gi_wp2
                                                                                                                                             obtain ⟨hI, h3, hD⟩ := hAll.out
                                                                                                                                             have hbk : ((W2.setCell ⟨W.heap.size, 0, none⟩ (.int .i64 0)).setCell ⟨W.heap.size + 1, 0, none⟩ (.bool false)).heap[D]? = some (.deferred (some [])) :=
                                                                                                                                               (KeepsOthers.setCell _ _ _).same D _ ((KeepsOthers.setCell _ _ _).same D _ hD rfl) rfl
                                                                                                                                             refine ⟨by simp, .inl ⟨_, _, rfl, run_takeDeferred hbk, ?_⟩⟩
                                                                                                                                             have ho' : Others ((W2.setCell ⟨W.heap.size, 0, none⟩ (.int .i64 0)).setCell ⟨W.heap.size + 1, 0, none⟩ (.bool false)) (some D) := fun r e => by cases e; exact ⟨_, hbk, rfl⟩
                                                                                                                                             have q0 := (((hI.r0.set_ (.int .i64 0)).far (p := ⟨W.heap.size + 1, 0, none⟩) (by simp) (.bool false)).kept (grownBy_putObj' _ D (.deferred none)) ho').cell
                                                                                                                                             have q1 := (((hI.r1.far (p := ⟨W.heap.size, 0, none⟩) (by simp) (.int .i64 0)).set_ (.bool false)).kept (grownBy_putObj' _ D (.deferred none)) ho').cell
                                                                                                                                             refine ⟨.tuple #[.int .i64 0, .bool false], by simp [results, Tryz.results136, go_sem, q0, q1], ?_⟩
                                                                                                                                             exact ⟨by rw [h3]; rfl, by rw [← hKm.out]; exact fr_put (fr_set (fr_set hI.fr (Nat.le_refl _) _) (Nat.le_succ _) _) (Nat.le_trans hsz hle) _⟩
                                                                                                                                           case stop =>
                                                                                                                                             rintro D c W2 ⟨rfl, hg, ⟨x, hx, hx0⟩, hx1⟩ hle hD
                                                                                                                                             have hc0 := hx0.cell
                                                                                                                                             have hc1 := hx1.cell
                                                                                                                                             gi_wp2
                                                                                                                                             refine ⟨by simp, .inl ⟨_, _, rfl, run_takeDeferred hD, ?_⟩⟩
                                                                                                                                             have ho' : Others W2 (some D) := fun r e => by cases e; exact ⟨_, hD, rfl⟩
                                                                                                                                             have q0 := (hx0.kept (grownBy_putObj' _ D (.deferred none)) ho').cell
                                                                                                                                             have q1 := (hx1.kept (grownBy_putObj' _ D (.deferred none)) ho').cell
                                                                                                                                             refine ⟨.tuple #[.int .i64 x, .bool true], by simp [results, Tryz.results136, go_sem, q0, q1], ?_⟩
                                                                                                                                             exact ⟨by rw [hx]; rfl, by rw [← hKm.out]; exact fr_put hg (Nat.le_trans hsz hle) _⟩
set_option maxHeartbeats 1000000 in
                                                                                                                                                                                                                                 theorem add_neg (cb m : Nat) (A : Option Addr) (c : Nat) (l : List Hol) (hHol : HolCalls A c l) (day n : Int) (hn : n < 0) (_hn1 : -2000 ≤ n) (_hn2 : n ≤ 2000) (y0 : 0 ≤ day) (y1 : day ≤ 200000) (W : World) (hcal : Calend W cb m A c l) (hm : MapIs Tryz.prog 3 intLit W m 0 fun _ => none) :
                                                                                                                                                                                                                                     Calls Tryz.prog 136 #[.pointer (some ⟨cb, 0, none⟩), .int .i64 day, .int .i64 n] W (AddPost W m (Cal.addW l day n)) := by
                                                                                                                                                                                                                                   have hn3 : (n != 0) = true := by simp; omega
                                                                                                                                                                                                                                   refine (callsIn_wide (n := 4)).1 ?_
                                                                                                                                                                                                                                   refine callsIn_of_wp_marks Tryz.func136 rfl trivial ?_ rfl
                                                                                                                                                                                                                                   simp only [Tryz.ntmps136, List.size_toArray, List.length_cons, List.length_nil, Nat.reduceAdd, Nat.reduceSub, Array.replicate_succ, Array.replicate_zero, List.push_toArray, List.append_toArray, List.nil_append, List.cons_append]
                                                                                                                                                                                                                                   gi_wp2_with (refine ⟨trivial, ?_⟩; gi_at_call 203; refine (callsIn_wide.2 (days_any cb _ _ _)).mono ?_; rintro e w' ⟨rfl, rfl⟩)
                                                                                                                                                                                                                                   show (Code.rangeFunc _ _ _ _).wpIn _ _ _ _ _ (addWorld W cb (day - 1) (-1) (-n - 1))
                                                                                                                                                                                                                                   obtain ⟨W1, hW1⟩ : ∃ W1, W1 = addWorld W cb (day - 1) (-1) (-n - 1) := ⟨_, rfl⟩
                                                                                                                                                                                                                                   rw [← hW1]
                                                                                                                                                                                                                                   have hK : AddK ⟨cb, m, A, c, l, W.heap.size + 6, W.heap.size + 4, W.heap.size + 5, W.heap.size + 3, -1, day - 1⟩ W := ⟨rfl, rfl, rfl, rfl, hcal, hm.isMap, .inr rfl⟩
                                                                                                                                                                                                                                   have hsz : W.heap.size ≤ W1.heap.size := by rw [hW1]; unfold addWorld; simp; omega
                                                                                                                                                                                                                                   have h0 : AddInv ⟨cb, m, A, c, l, W.heap.size + 6, W.heap.size + 4, W.heap.size + 5, W.heap.size + 3, -1, day - 1⟩ W (Cal.addW l day n) (day - 1) W1 := by
                                                                                                                                                                                                                                     refine ⟨-n - 1, ?_, by omega, by omega, by unfold Cal.addW; rw [if_neg (by omega), if_pos hn]⟩
                                                                                                                                                                                                                                     rw [hW1]; exact add_start W cb m A c l _ hm (day - 1) (-1) (-n - 1) (by omega) (by omega)
                                                                                                                                                                                                                                   generalize hKK : (⟨cb, m, A, c, l, W.heap.size + 6, W.heap.size + 4, W.heap.size + 5, W.heap.size + 3, -1, day - 1⟩ : Where) = KK at hK h0
                                                                                                                                                                                                                                   have hKm : Hid (KK.m = m) := by rw [← hKK]; rfl
                                                                                                                                                                                                                                   refine wpIn_rangeFunc_raw rfl (by omega) (gf := 242) (lb := #[.pointer (some ⟨W.heap.size + 4, 0, none⟩), .pointer (some ⟨W.heap.size + 5, 0, none⟩), .pointer (some ⟨W.heap.size + 3, 0, none⟩)]) rfl trivial (enters_of Tryz.func242 (by kernel_rfl) rfl)
                                                                                                                                                                                                                                     (by have := days_raw KK hK.st (by rw [← hKK]; exact hHol) 3; rw [← hKK] at this ⊢; exact this) (fun _ => rfl) days_keep
                                                                                                                                                                                                                                     (AddInv KK W (Cal.addW l day n)) (AddAsk KK W (Cal.addW l day n)) (AddOut KK W (Cal.addW l day n)) (AddInv.inv hK) (AddInv.step hK) (AddInv.ask hK) AddInv.alloc
                                                                                                                                                                                                                                     ?i2 ?ia2 ?ix2 (by rw [← hKK]; rw [← hKK] at h0; exact h0) ?a1 ?assign ?body ?done ?stop
                                                                                                                                                                                                                                   case assign =>
                                                                                                                                                                                                                                     intro l x W K hK
                                                                                                                                                                                                                                     gi_wp2
                                                                                                                                                                                                                                     exact hK
                                                                                                                                                                                                                                   case i2 => exact fun s A l o o' hl ho hb _ h => AddInv.put s A l o o' (Nat.le_trans hsz hl) ho hb h
                                                                                                                                                                                                                                   case ia2 => exact fun s A l o o' hl ho hb _ h => AddAsk.put s A l o o' (Nat.le_trans hsz hl) ho hb h
                                                                                                                                                                                                                                   case ix2 => exact fun s A l o o' hl ho hb _ h => AddOut.put s A l o o' (Nat.le_trans hsz hl) ho hb h
                                                                                                                                                                                                                                   case body =>
                                                                                                                                                                                                                                     rintro l0 d Wd ⟨hd, hw, left, hI, h1, h2, h3⟩
                                                                                                                                                                                                                                     have hc2 := hI.left_.cell
                                                                                                                                                                                                                                     have hf2 := hI.left_.free
                                                                                                                                                                                                                                     have hc0 := hI.r0.cell
                                                                                                                                                                                                                                     have hf0 := hI.r0.free
                                                                                                                                                                                                                                     have hc1 := hI.r1.cell
                                                                                                                                                                                                                                     have hf1 := hI.r1.free
                                                                                                                                                                                                                                     have hAll := Lib.hid (And.intro hd (And.intro hw (And.intro hI h3)))
                                                                                                                                                                                                                                     clear hd hw hI h3 hKK
                                                                                                                                                                                                                                     by_cases hl0 : left = 0
                                                                                                                                                                                                                                     · subst hl0
                                                                                                                                                                                                                                       gi_wp2
                                                                                                                                                                                                                                       obtain ⟨hd, hw, hI, h3⟩ := hAll.out
                                                                                                                                                                                                                                       refine ⟨(KeepsOthers.setCell _ _ _).trans (KeepsOthers.setCell _ _ _), rfl, fr_set (fr_set hI.fr (by simp) _) (by simp) _, ⟨d, by rw [h3, Cal.addFrom_hit hK.st hd hw], ?_⟩, ?_⟩
                                                                                                                                                                                                                                       · exact (hI.r0.set_ _).far (by simp) _
                                                                                                                                                                                                                                       · exact (hI.r1.far (by simp) _).set_ _
                                                                                                                                                                                                                                     · have hl1 : (left == 0) = false := by simpa using hl0
                                                                                                                                                                                                                                       gi_wp2
                                                                                                                                                                                                                                       obtain ⟨hd, hw, hI, h3⟩ := hAll.out
                                                                                                                                                                                                                                       exact ⟨KeepsOthers.setCell _ _ _, left - 1, hI.store hK _, by omega, by omega, by rw [h3, Cal.addFrom_next hK.st hd hw hl0]⟩
                                                                                                                                                                                                                                   case done =>
                                                                                                                                                                                                                                     rintro D s W2 hE ⟨left, hI, h1, h2, h3⟩ hle hD
                                                                                                                                                                                                                                     rw [Cal.addFrom_no hE] at h3
                                                                                                                                                                                                                                     have hc0 := hI.r0.cell
                                                                                                                                                                                                                                     have hf0 := hI.r0.free
                                                                                                                                                                                                                                     have hc1 := hI.r1.cell
                                                                                                                                                                                                                                     have hf1 := hI.r1.free
                                                                                                                                                                                                                                     have hAll := Lib.hid (And.intro hI (And.intro h3 hD))
                                                                                                                                                                                                                                     clear hI h3 hD hKK h0
                                                                                                                                                                                                                                     gi_wp2
                                                                                                                                                                                                                                     obtain ⟨hI, h3, hD⟩ := hAll.out
                                                                                                                                                                                                                                     have hbk : ((W2.setCell ⟨W.heap.size, 0, none⟩ (.int .i64 0)).setCell ⟨W.heap.size + 1, 0, none⟩ (.bool false)).heap[D]? = some (.deferred (some [])) :=
                                                                                                                                                                                                                                       (KeepsOthers.setCell _ _ _).same D _ ((KeepsOthers.setCell _ _ _).same D _ hD rfl) rfl
                                                                                                                                                                                                                                     refine ⟨by simp, .inl ⟨_, _, rfl, run_takeDeferred hbk, ?_⟩⟩
                                                                                                                                                                                                                                     have ho' : Others ((W2.setCell ⟨W.heap.size, 0, none⟩ (.int .i64 0)).setCell ⟨W.heap.size + 1, 0, none⟩ (.bool false)) (some D) := fun r e => by cases e; exact ⟨_, hbk, rfl⟩
                                                                                                                                                                                                                                     have q0 := (((hI.r0.set_ (.int .i64 0)).far (p := ⟨W.heap.size + 1, 0, none⟩) (by simp) (.bool false)).kept (grownBy_putObj' _ D (.deferred none)) ho').cell
                                                                                                                                                                                                                                     have q1 := (((hI.r1.far (p := ⟨W.heap.size, 0, none⟩) (by simp) (.int .i64 0)).set_ (.bool false)).kept (grownBy_putObj' _ D (.deferred none)) ho').cell
                                                                                                                                                                                                                                     refine ⟨.tuple #[.int .i64 0, .bool false], by simp [results, Tryz.results136, go_sem, q0, q1], ?_⟩
                                                                                                                                                                                                                                     exact ⟨by rw [h3]; rfl, by rw [← hKm.out]; exact fr_put (fr_set (fr_set hI.fr (Nat.le_refl _) _) (Nat.le_succ _) _) (Nat.le_trans hsz hle) _⟩
                                                                                                                                                                                                                                   case stop =>
                                                                                                                                                                                                                                     rintro D c W2 ⟨rfl, hg, ⟨x, hx, hx0⟩, hx1⟩ hle hD
                                                                                                                                                                                                                                     have hc0 := hx0.cell
                                                                                                                                                                                                                                     have hc1 := hx1.cell
                                                                                                                                                                                                                                     gi_wp2
                                                                                                                                                                                                                                     refine ⟨by simp, .inl ⟨_, _, rfl, run_takeDeferred hD, ?_⟩⟩
                                                                                                                                                                                                                                     have ho' : Others W2 (some D) := fun r e => by cases e; exact ⟨_, hD, rfl⟩
                                                                                                                                                                                                                                     have q0 := (hx0.kept (grownBy_putObj' _ D (.deferred none)) ho').cell
                                                                                                                                                                                                                                     have q1 := (hx1.kept (grownBy_putObj' _ D (.deferred none)) ho').cell
                                                                                                                                                                                                                                     refine ⟨.tuple #[.int .i64 x, .bool true], by simp [results, Tryz.results136, go_sem, q0, q1], ?_⟩
                                                                                                                                                                                                                                     exact ⟨by rw [hx]; rfl, by rw [← hKm.out]; exact fr_put hg (Nat.le_trans hsz hle) _⟩
theorem add_any (cb m : Nat) (A : Option Addr) (c : Nat) (l : List Hol) (hHol : HolCalls A c l) (day n : Int) (hn1 : -2000 ≤ n) (hn2 : n ≤ 2000) (y0 : 0 ≤ day) (y1 : day ≤ 200000) (W : World) (hcal : Calend W cb m A c l) (hm : MapIs Tryz.prog 3 intLit W m 0 fun _ => none) :
    Calls Tryz.prog 136 #[.pointer (some ⟨cb, 0, none⟩), .int .i64 day, .int .i64 n] W (AddPost W m (Cal.addW l day n)) := by
  rcases Int.lt_trichotomy n 0 with h | h | h
  · exact add_neg cb m A c l hHol day n h hn1 hn2 y0 y1 W hcal hm
  · exact add_zero cb m A c l hHol day n h hn1 hn2 y0 y1 W hcal hm
  · exact add_pos cb m A c l hHol day n h hn1 hn2 y0 y1 W hcal hm
end Go.Proofs.YtbegbajlagcbdaaGreatDoor
