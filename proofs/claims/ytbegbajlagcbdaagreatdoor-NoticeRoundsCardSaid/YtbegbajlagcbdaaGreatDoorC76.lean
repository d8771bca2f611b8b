/- Chapter 8 and what it rests on: definitions and walks, part 76. -/
import Derived.Test.YtbegbajlagcbdaaGreatDoorC61
import Derived.Test.YtbegbajlagcbdaaGreatDoorC75
namespace Go.Proofs.YtbegbajlagcbdaaGreatDoor
open Go Go.RowKit Go.Sort Go.Lib
structure Turn where
  grade : Int
  day : Int
  number : Int
def Turn.cells (t : Turn) : List Value := [.int .i64 t.grade, .int .i64 t.day, .int .i64 t.number]
/-- before, as a function. -/
def turnCf (a b : Turn) : Int := firstNZ [compareInt b.grade a.grade, compareInt a.day b.day, compareInt a.number b.number]
theorem cmpI_lt {x y : Int} : compareInt x y < 0 ↔ x < y := by unfold compareInt; split <;> (try split) <;> omega
theorem cmpI_zero {x y : Int} : compareInt x y = 0 ↔ x = y := by unfold compareInt; split <;> (try split) <;> omega
theorem firstNZ_three {a b c : Int} : firstNZ [a, b, c] < 0 ↔ a < 0 ∨ (a = 0 ∧ (b < 0 ∨ (b = 0 ∧ c < 0))) := by
  simp only [firstNZ]
  split
  · split
    · split <;> omega
    · omega
  · omega
theorem turnCf_neg {a b : Turn} : ltOf turnCf a b = true ↔ b.grade < a.grade ∨ (b.grade = a.grade ∧ (a.day < b.day ∨ (a.day = b.day ∧ a.number < b.number))) := by
  unfold ltOf turnCf
  rw [decide_eq_true_iff, firstNZ_three, cmpI_lt, cmpI_zero, cmpI_lt, cmpI_zero, cmpI_lt]
theorem turnCf_not {a b : Turn} : ltOf turnCf a b = false ↔ ¬ (b.grade < a.grade ∨ (b.grade = a.grade ∧ (a.day < b.day ∨ (a.day = b.day ∧ a.number < b.number)))) := by
  rw [← turnCf_neg]; simp
theorem turnCf_swo : SWO (ltOf turnCf) where
  irrefl := fun x => by rw [turnCf_not]; omega
  trans := fun x y z h1 h2 => by rw [turnCf_neg] at *; omega
  ntrans := fun x y z h1 h2 => by rw [turnCf_not] at *; omega
theorem turnCf_total (x y : Turn) (h1 : ltOf turnCf x y = false) (h2 : ltOf turnCf y x = false) : x = y := by
  have h1 := turnCf_not.1 h1
  have h2 := turnCf_not.1 h2
  obtain ⟨a, b, c⟩ := x
  obtain ⟨a', b', c'⟩ := y
  simp only at h1 h2
  rcases Int.lt_trichotomy a a' with h | rfl | h
  · exact absurd (.inl h) h2
  · rcases Int.lt_trichotomy b b' with h | rfl | h
    · exact absurd (.inr ⟨rfl, .inl h⟩) h1
    · rcases Int.lt_trichotomy c c' with h | rfl | h
      · exact absurd (.inr ⟨rfl, .inr ⟨rfl, h⟩⟩) h1
      · rfl
      · exact absurd (.inr ⟨rfl, .inr ⟨rfl, h⟩⟩) h2
    · exact absurd (.inr ⟨rfl, .inl h⟩) h2
  · exact absurd (.inl h) h1
set_option maxRecDepth 100000 in
set_option maxHeartbeats 2000000 in
theorem before_any (a b : Turn) (w : World) : Calls Tryz.prog 58 #[.agg #[.int .i64 a.grade, .int .i64 a.day, .int .i64 a.number], .agg #[.int .i64 b.grade, .int .i64 b.day, .int .i64 b.number]] w fun e w' => e = .returned (.int .i64 (turnCf a b)) ∧ ∃ q os, w' = grow (w.drewN q) os := by
  have hS : (fun w' => (w'.cell? ⟨w.heap.size, 0, none⟩ = some (.int .i64 a.grade) ∧ w'.cell? ⟨w.heap.size, 1, none⟩ = some (.int .i64 a.day) ∧ w'.cell? ⟨w.heap.size, 2, none⟩ = some (.int .i64 a.number)) ∧ w'.cell? ⟨w.heap.size + 1, 0, none⟩ = some (.int .i64 b.grade) ∧ w'.cell? ⟨w.heap.size + 1, 1, none⟩ = some (.int .i64 b.day) ∧ w'.cell? ⟨w.heap.size + 1, 2, none⟩ = some (.int .i64 b.number)) ((w.alloc (.cells #[.int .i64 a.grade, .int .i64 a.day, .int .i64 a.number] 120)).alloc (.cells #[.int .i64 b.grade, .int .i64 b.day, .int .i64 b.number] 120)) := by simp
  have hS2 : ∀ o : Obj, (fun w' => (w'.cell? ⟨w.heap.size, 0, none⟩ = some (.int .i64 a.grade) ∧ w'.cell? ⟨w.heap.size, 1, none⟩ = some (.int .i64 a.day) ∧ w'.cell? ⟨w.heap.size, 2, none⟩ = some (.int .i64 a.number)) ∧ w'.cell? ⟨w.heap.size + 1, 0, none⟩ = some (.int .i64 b.grade) ∧ w'.cell? ⟨w.heap.size + 1, 1, none⟩ = some (.int .i64 b.day) ∧ w'.cell? ⟨w.heap.size + 1, 2, none⟩ = some (.int .i64 b.number)) (((w.alloc (.cells #[.int .i64 a.grade, .int .i64 a.day, .int .i64 a.number] 120)).alloc (.cells #[.int .i64 b.grade, .int .i64 b.day, .int .i64 b.number] 120)).alloc o) := fun o => by
    have hb := below_alloc ((w.alloc (.cells #[.int .i64 a.grade, .int .i64 a.day, .int .i64 a.number] 120)).alloc (.cells #[.int .i64 b.grade, .int .i64 b.day, .int .i64 b.number] 120)) o
    have k1 : w.heap.size < ((w.alloc (.cells #[.int .i64 a.grade, .int .i64 a.day, .int .i64 a.number] 120)).alloc (.cells #[.int .i64 b.grade, .int .i64 b.day, .int .i64 b.number] 120)).heap.size := by simp; omega
    have k2 : w.heap.size + 1 < ((w.alloc (.cells #[.int .i64 a.grade, .int .i64 a.day, .int .i64 a.number] 120)).alloc (.cells #[.int .i64 b.grade, .int .i64 b.day, .int .i64 b.number] 120)).heap.size := by simp
    exact ⟨⟨(hb.cell (p := ⟨w.heap.size, 0, none⟩) k1).trans hS.1.1, (hb.cell (p := ⟨w.heap.size, 1, none⟩) k1).trans hS.1.2.1, (hb.cell (p := ⟨w.heap.size, 2, none⟩) k1).trans hS.1.2.2⟩, (hb.cell (p := ⟨w.heap.size + 1, 0, none⟩) k2).trans hS.2.1, (hb.cell (p := ⟨w.heap.size + 1, 1, none⟩) k2).trans hS.2.2.1, (hb.cell (p := ⟨w.heap.size + 1, 2, none⟩) k2).trans hS.2.2.2⟩
  have hS2 := Lib.hid hS2
  go_enter Tryz.func58, Tryz.ntmps58
  go_wp2_with fail
  refine wp_region_held_drew (S := (fun w' => (w'.cell? ⟨w.heap.size, 0, none⟩ = some (.int .i64 a.grade) ∧ w'.cell? ⟨w.heap.size, 1, none⟩ = some (.int .i64 a.day) ∧ w'.cell? ⟨w.heap.size, 2, none⟩ = some (.int .i64 a.number)) ∧ w'.cell? ⟨w.heap.size + 1, 0, none⟩ = some (.int .i64 b.grade) ∧ w'.cell? ⟨w.heap.size + 1, 1, none⟩ = some (.int .i64 b.day) ∧ w'.cell? ⟨w.heap.size + 1, 2, none⟩ = some (.int .i64 b.number))) (by kernel_rfl) hS (fun hHeld => ?_)
  have hS := Lib.hid hS
  (refine tkH 0 (v := ?_) ?_ ?_; rotate_left; focus (intro w' hSw; (try dsimp only at hSw); go_simp; (try with_reducible rfl)); (try simp only [Act.put, List.setIfInBounds_toArray, List.set_cons_zero, List.set_cons_succ]))
  (refine tkH 1 (v := ?_) ?_ ?_; rotate_left; focus (intro w' hSw; (try dsimp only at hSw); go_simp; (try with_reducible rfl)); (try simp only [Act.put, List.setIfInBounds_toArray, List.set_cons_zero, List.set_cons_succ]))
  (refine tkH 2 (v := ?_) ?_ ?_; rotate_left; focus (intro w' hSw; (try dsimp only at hSw); go_simp; (try with_reducible rfl)); (try simp only [Act.put, List.setIfInBounds_toArray, List.set_cons_zero, List.set_cons_succ]))
  (refine tkH 3 (v := ?_) ?_ ?_; rotate_left; focus (intro w' hSw; (try dsimp only at hSw); go_simp; (try with_reducible rfl)); (try simp only [Act.put, List.setIfInBounds_toArray, List.set_cons_zero, List.set_cons_succ]))
  (refine tkH 5 (v := ?_) ?_ ?_; rotate_left; focus (intro w' hSw; (try dsimp only at hSw); go_simp; (try with_reducible rfl)); (try simp only [Act.put, List.setIfInBounds_toArray, List.set_cons_zero, List.set_cons_succ]))
  (refine tkH 6 (v := ?_) ?_ ?_; rotate_left; focus (intro w' hSw; (try dsimp only at hSw); go_simp; (try with_reducible rfl)); (try simp only [Act.put, List.setIfInBounds_toArray, List.set_cons_zero, List.set_cons_succ]))
  (refine tkH 7 (v := ?_) ?_ ?_; rotate_left; focus (intro w' hSw; (try dsimp only at hSw); go_simp; (try with_reducible rfl)); (try simp only [Act.put, List.setIfInBounds_toArray, List.set_cons_zero, List.set_cons_succ]))
  (refine tkH 8 (v := ?_) ?_ ?_; rotate_left; focus (intro w' hSw; (try dsimp only at hSw); go_simp; (try with_reducible rfl)); (try simp only [Act.put, List.setIfInBounds_toArray, List.set_cons_zero, List.set_cons_succ]))
  (refine tkH 10 (v := ?_) ?_ ?_; rotate_left; focus (intro w' hSw; (try dsimp only at hSw); go_simp; (try with_reducible rfl)); (try simp only [Act.put, List.setIfInBounds_toArray, List.set_cons_zero, List.set_cons_succ]))
  (refine tkH 11 (v := ?_) ?_ ?_; rotate_left; focus (intro w' hSw; (try dsimp only at hSw); go_simp; (try with_reducible rfl)); (try simp only [Act.put, List.setIfInBounds_toArray, List.set_cons_zero, List.set_cons_succ]))
  (refine tkH 12 (v := ?_) ?_ ?_; rotate_left; focus (intro w' hSw; (try dsimp only at hSw); go_simp; (try with_reducible rfl)); (try simp only [Act.put, List.setIfInBounds_toArray, List.set_cons_zero, List.set_cons_succ]))
  (refine tkH 13 (v := ?_) ?_ ?_; rotate_left; focus (intro w' hSw; (try dsimp only at hSw); go_simp; (try with_reducible rfl)); (try simp only [Act.put, List.setIfInBounds_toArray, List.set_cons_zero, List.set_cons_succ]))
  (refine wpAnyH_ready (rs := [4]) (by decide +kernel) (by simp) ?_; refine AllReadyH.cons rfl (fun K hK => ?_) AllReadyH.nil; rw [if_pos (by kernel_rfl)]; go_simp)
  (refine (cmpI_any _ _ _).mono ?_; rintro e w' ⟨rfl, rfl⟩; go_simp; (refine hK.out _ _ hS.out (fun hHeld => ?_); clear hK K; (try simp only [Act.put]); (try simp only [List.setIfInBounds_toArray]); (try simp only [List.set_cons_zero, List.set_cons_succ])))
  (refine wpAnyH_ready (rs := [9]) (by decide +kernel) (by simp) ?_; refine AllReadyH.cons rfl (fun K hK => ?_) AllReadyH.nil; rw [if_pos (by kernel_rfl)]; go_simp)
  (refine (cmpI_any _ _ _).mono ?_; rintro e w' ⟨rfl, rfl⟩; go_simp; (refine hK.out _ _ hS.out (fun hHeld => ?_); clear hK K; (try simp only [Act.put]); (try simp only [List.setIfInBounds_toArray]); (try simp only [List.set_cons_zero, List.set_cons_succ])))
  (refine wpAnyH_ready (rs := [14]) (by decide +kernel) (by simp) ?_; refine AllReadyH.cons rfl (fun K hK => ?_) AllReadyH.nil; rw [if_pos (by kernel_rfl)]; go_simp)
  (refine (cmpI_any _ _ _).mono ?_; rintro e w' ⟨rfl, rfl⟩; go_simp; (refine hK.out _ _ hS.out (fun hHeld => ?_); clear hK K; (try simp only [Act.put]); (try simp only [List.setIfInBounds_toArray]); (try simp only [List.set_cons_zero, List.set_cons_succ])))
  (refine wpAnyH_ready (rs := [15]) (by decide +kernel) (by simp) ?_; refine AllReadyH.cons rfl (fun K hK => ?_) AllReadyH.nil; rw [if_pos (by kernel_rfl)]; go_simp)
  (refine hK.out _ _ (hS2.out _) (fun hHeld => ?_); clear hK K; (try simp only [Act.put]); (try simp only [List.setIfInBounds_toArray]); (try simp only [List.set_cons_zero, List.set_cons_succ]))
  (refine wpAnyH_ready (rs := [16]) (by decide +kernel) (by simp) ?_; refine AllReadyH.cons rfl (fun K hK => ?_) AllReadyH.nil; rw [if_pos (by kernel_rfl)]; go_simp)
  refine (Or_any (some ⟨w.heap.size + 1 + 1, 0, none⟩) 3 [compareInt b.grade a.grade, compareInt a.day b.day, compareInt a.number b.number] (((w.alloc (.cells #[.int .i64 a.grade, .int .i64 a.day, .int .i64 a.number] 120)).alloc (.cells #[.int .i64 b.grade, .int .i64 b.day, .int .i64 b.number] 120)).alloc (.cells #[.int .i64 (compareInt b.grade a.grade), .int .i64 (compareInt a.day b.day), .int .i64 (compareInt a.number b.number)] 3)).drew (by have h := ints_new ((w.alloc (.cells #[.int .i64 a.grade, .int .i64 a.day, .int .i64 a.number] 120)).alloc (.cells #[.int .i64 b.grade, .int .i64 b.day, .int .i64 b.number] 120)) #[.int .i64 (compareInt b.grade a.grade), .int .i64 (compareInt a.day b.day), .int .i64 (compareInt a.number b.number)] 3 [compareInt b.grade a.grade, compareInt a.day b.day, compareInt a.number b.number] rfl; simp only [World.size_alloc] at h; exact h) (show 3 ≤ 1000000 by decide)).mono ?_
  rintro e w' ⟨rfl, rfl⟩
  go_simp
  (refine hK.out _ _ (hS2.out _) (fun hHeld => ?_); clear hK K; (try simp only [Act.put]); (try simp only [List.setIfInBounds_toArray]); (try simp only [List.set_cons_zero, List.set_cons_succ]))
  (refine wpAnyH_ready (rs := [17]) (by decide +kernel) (by simp) ?_; refine AllReadyH.cons rfl (fun K hK => ?_) AllReadyH.nil; rw [if_pos (by kernel_rfl)]; go_simp)
  (refine hK.out _ _ (hS2.out _) (fun hHeld => ?_); clear hK K; (try simp only [Act.put]); (try simp only [List.setIfInBounds_toArray]); (try simp only [List.set_cons_zero, List.set_cons_succ]))
  refine wpAnyH_done (by kernel_rfl) ?_ _
  go_wp2_with fail
  go_ret
  refine ⟨rfl, 1, #[(.cells #[.int .i64 a.grade, .int .i64 a.day, .int .i64 a.number] 120), (.cells #[.int .i64 b.grade, .int .i64 b.day, .int .i64 b.number] 120), .cells #[.int .i64 (compareInt b.grade a.grade), .int .i64 (compareInt a.day b.day), .int .i64 (compareInt a.number b.number)] 3], ?_⟩
  show ((w.drew.alloc (.cells #[.int .i64 a.grade, .int .i64 a.day, .int .i64 a.number] 120)).alloc (.cells #[.int .i64 b.grade, .int .i64 b.day, .int .i64 b.number] 120)).alloc (.cells #[.int .i64 (compareInt b.grade a.grade), .int .i64 (compareInt a.day b.day), .int .i64 (compareInt a.number b.number)] 3) = _
  rw [alloc_eq_grow, alloc_eq_grow, alloc_eq_grow, grow_grow, grow_grow]
  rfl
/-! The rows of a slice of its own, put anew. -/
theorem flatK_list {α : Type} [Inhabited α] (enc : α → List Value) (k : Nat) (hk0 : 0 < k) (hk : ∀ x, (enc x).length = k) (d : Array α) : (flatK enc k d).toList = (d.toList.map enc).flatten := by
  have hwid : ∀ r ∈ d.toList.map enc, r.length = k := fun r hr => by obtain ⟨x, _, rfl⟩ := List.mem_map.1 hr; exact hk x
  have hlen : (d.toList.map enc).flatten.length = d.size * k := by rw [flat_len hwid]; simp
  apply List.ext_getElem
  · rw [hlen, Array.length_toList, size_flatK]
  · intro t h1 h2
    rw [hlen] at h2
    have hd : t / k < d.size := by
      rw [Nat.div_lt_iff_lt_mul hk0]; exact h2
    have hm : t % k < k := Nat.mod_lt _ hk0
    have e1 : (d.toList.map enc)[t / k]? = some (enc d[t / k]) := by simp [hd]
    have e2 : (enc d[t / k])[t % k]? = some ((enc d[t / k])[t % k]'(by rw [hk]; exact hm)) := List.getElem?_eq_getElem _
    have e3 := flat_get hwid e1 e2
    rw [Nat.div_add_mod' t k, List.getElem?_eq_getElem (by rw [hlen]; exact h2)] at e3
    have e4 := get_flatK enc k d t (by exact h2)
    rw [getElem!_pos (flatK enc k d) t (by rw [size_flatK]; exact h2), getElem!_pos d (t / k) hd, getElem!_pos (enc d[t / k]) (t % k) (by rw [hk]; exact hm)] at e4
    rw [Array.getElem_toList, e4]
    exact (Option.some.inj e3).symm
theorem putId_take {cur : Array Value} {ys : List Value} (h : ys.length ≤ cur.size) : (putCells (id : Value → Value) 0 ys.toArray cur).toList.take ys.length = ys ∧ (putCells (id : Value → Value) 0 ys.toArray cur).size = cur.size := by
  refine ⟨?_, by simp [putCells]⟩
  apply List.ext_getElem
  · simp [putCells]; omega
  · intro i h1 h2
    simp [putCells, h2]
theorem OwnL.putRows {w : World} {B g c n : Nat} {E : TypeId} {m : Nat} {rows rows2 : List (List Value)} (h : OwnL w B E m (.slice (some ⟨g, 0, none⟩) n c) rows) (hl : rows2.length = rows.length) (hw : ∀ r ∈ rows2, r.length = m) (h1 : ∀ r ∈ rows2, ∀ u ∈ r, u.oneCell' = true) :
    OwnL (putRow (id : Value → Value) w g 0 rows2.flatten.toArray) B E m (.slice (some ⟨g, 0, none⟩) n c) rows2 ∧ w.grownBy (putRow (id : Value → Value) w g 0 rows2.flatten.toArray) (some g) := by
  have hlen2 : rows2.flatten.length = rows2.length * m := flat_len hw
  rcases h.own.2 with ⟨h0, _⟩ | ⟨g', cap, cur, hv, hb, hg, h2, h3, h4, h5⟩
  · cases h0
  · simp only [Value.slice.injEq, Option.some.injEq, Addr.mk.injEq, and_true] at hv
    obtain ⟨rfl, rfl, rfl⟩ := hv
    have hsz : rows2.flatten.length ≤ cur.size := by
      rw [hlen2, hl, h4]; exact Nat.mul_le_mul_right _ h2
    obtain ⟨t1, t2⟩ := putId_take hsz
    have hh : (putRow (id : Value → Value) w g 0 rows2.flatten.toArray).heap[g]? = some (.cells (putCells (id : Value → Value) 0 rows2.flatten.toArray cur) E (0, 0)) := by simp [putRow, mapBlock, Array.getElem?_modify, hg, onCells]
    refine ⟨⟨⟨by rw [hl, hlen2, hl], .inr ⟨g, c, _, by rw [hl], hb, hh, by rw [hl]; exact h2, h3, by rw [t2, h4], by rw [← hlen2]; exact t1⟩⟩, hw, h1⟩, rfl, rfl, rfl, by simp [putRow, mapBlock], fun k _ hk => ?_⟩
    have hne : k ≠ g := fun e => hk (by rw [e])
    simp [putRow, mapBlock, Array.getElem?_modify, Ne.symm hne]
/-- An own slice of turns. -/
def TurnsL (w : World) (B : Nat) (v : Value) (ts : List Turn) : Prop := OwnL w B 120 3 v (ts.map Turn.cells)
theorem elemTurn : Elem Tryz.prog 117 120 3 24 := Elem.mk' Tryz.underlying117 (z := .agg #[.int .i64 0, .int .i64 0, .int .i64 0]) (by kernel_rfl) rfl (by decide)
theorem tnSize : (Tryz.prog.info? 120).map (·.size) = some 3 := by kernel_rfl
theorem turn_wid (l : List Turn) : ∀ r ∈ l.map Turn.cells, r.length = 3 := fun r hr => by obtain ⟨s, _, rfl⟩ := List.mem_map.1 hr; rfl
theorem turn_one (l : List Turn) : ∀ r ∈ l.map Turn.cells, ∀ u ∈ r, u.oneCell' = true := fun r hr u hu => by
  obtain ⟨s, _, rfl⟩ := List.mem_map.1 hr
  simp only [Turn.cells, List.mem_cons, List.not_mem_nil, or_false] at hu
  rcases hu with rfl | rfl | rfl <;> rfl
def leT (x y : Turn) : Bool := !(ltOf turnCf) y x
def SortedT (w : World) (B : Nat) (v : Value) (ts : List Turn) (e : Ending) (w' : World) : Prop := e = .returned (.tuple #[]) ∧ TurnsL w' B v ts ∧ w.grownBy w' v.ownBlock
set_option maxRecDepth 100000 in
theorem SortTurns_own (w : World) (B : Nat) (v : Value) (ts : List Turn) (h : TurnsL w B v ts) (hs : ts.length ≤ 1000000) :
    Calls Tryz.prog 57 #[v, .func (.func 58) #[] #[]] w (SortedT w B v (ts.mergeSort leT)) := by
  haveI : Inhabited Turn := ⟨⟨0, 0, 0⟩⟩
  obtain ⟨A, c, rfl, hr⟩ := OwnL.form h
  by_cases hne : ts = []
  · subst hne
    refine (Tryz.sortQ_none (α := Nat) A c _ w).mono fun e w' ⟨he, hw⟩ => ?_
    subst hw
    exact ⟨he, by simpa using h, World.grownBy.refl _ _⟩
  · rcases h.own.2 with ⟨_, h0⟩ | ⟨g, cap, cur, hv, hb, hg, h1, h2, h3, h4⟩
    · rw [List.length_map] at h0
      exact absurd (List.eq_nil_of_length_eq_zero h0) hne
    · simp only [Value.slice.injEq, true_and] at hv
      obtain ⟨rfl, rfl⟩ := hv
      have hgw : g < w.heap.size := (Array.getElem?_eq_some_iff.1 hg).1
      have hfl := flatK_list Turn.cells 3 (by decide) (fun _ => rfl) ts.toArray
      have hH : HoldsK Turn.cells 3 w g 0 ts.toArray := fun j hj => by
        rw [size_flatK] at hj
        have hj' : j < ts.length * 3 := by simpa using hj
        have e1 : (flatK Turn.cells 3 ts.toArray)[j]? = cur[j]? := by
          have := congrArg (·[j]?) h4
          simp only [List.getElem?_take] at this
          rw [if_pos (by rw [List.length_map]; exact hj'), Array.getElem?_toList] at this
          rw [← Array.getElem?_toList, hfl, this]
        constructor
        · rw [cell_of_row w g (0 + j) cur _ (0, 0) hg, Nat.zero_add, ← e1, getElem!_pos (flatK Turn.cells 3 ts.toArray) j (by rw [size_flatK]; exact hj)]
          simp
        · exact h.own.frozenAt (0 + j)
      have hcmp : CmpLays Tryz.prog 58 #[] Turn.cells 3 turnCf g 0 ts.toArray.size w := fun m os dk _ x y => before_any x y _
      have hcon := Tryz.sortQ_total 3 (fun w => by kernel_rfl) (fun w => by kernel_rfl) Turn.cells (fun _ => rfl) (fun x v hv => turn_one [x] x.cells (by simp) v hv) turnCf turnCf_swo 58 #[] g 0 c ts.toArray w (enters_of Tryz.func58 (by kernel_rfl) rfl) hcmp hH hgw (by simp; omega) turnCf_total
      rw [show ts.toArray.size = (ts.map Turn.cells).length by simp] at hcon
      refine hcon.mono fun e w' ⟨he, m, os, hw⟩ => ?_
      subst hw
      have hA : OwnL (Sort.ahead w m) B 120 3 (.slice (some ⟨g, 0, none⟩) (ts.map Turn.cells).length c) (ts.map Turn.cells) := OwnL.below h ⟨rfl, rfl, rfl, Nat.le_refl _, fun _ _ => rfl⟩
      obtain ⟨p1, p2⟩ := hA.putRows (rows2 := (ts.mergeSort leT).map Turn.cells) (by simp [List.length_mergeSort]) (turn_wid _) (turn_one _)
      have hW : sortWorldK Turn.cells 3 w g 0 m (ts.toArray.toList.mergeSort fun x y => !(ltOf turnCf) y x).toArray os = grow (putRow (id : Value → Value) (Sort.ahead w m) g 0 ((ts.mergeSort leT).map Turn.cells).flatten.toArray) os := by
        show grow (putRow id (Sort.ahead w m) g 0 (flatK Turn.cells 3 _)) os = _
        have h5 := flatK_list Turn.cells 3 (by decide) (fun _ => rfl) (ts.toArray.toList.mergeSort fun x y => !(ltOf turnCf) y x).toArray
        rw [show flatK Turn.cells 3 (ts.toArray.toList.mergeSort fun x y => !(ltOf turnCf) y x).toArray = ((ts.mergeSort leT).map Turn.cells).flatten.toArray from by rw [← Array.toList_inj, h5]; rfl]
      rw [hW]
      have p3 := OwnL.below p1 (grow_below _ os)
      exact ⟨he, p3, ⟨p2.os, p2.tape, p2.output, Nat.le_trans p2.size (grow_below _ os).size, fun k hk hne => ((grow_below _ os).block k (Nat.lt_of_lt_of_le hk p2.size)).trans (p2.block k hk hne)⟩⟩
end Go.Proofs.YtbegbajlagcbdaaGreatDoor
