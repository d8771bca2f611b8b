/- Chapter 8 and what it rests on: definitions and walks, part 62. -/
import Derived.Test.YtbegbajlagcbdaaGreatDoorC61
import Derived.Test.YtbegbajlagcbdaaGreatDoorC35
import Derived.Test.YtbegbajlagcbdaaGreatDoorC06
import Derived.Laws.MakeOwn
import Derived.Carry
namespace Go.Proofs.YtbegbajlagcbdaaGreatDoor
open Go Go.RowKit Go.Sort Go.Lib
theorem compareInt_lt {x y : Int} : compareInt x y < 0 ↔ x < y := by unfold compareInt; split <;> (try split) <;> omega
theorem compareInt_zero {x y : Int} : compareInt x y = 0 ↔ x = y := by unfold compareInt; split <;> (try split) <;> omega
theorem firstNZ_two {a b : Int} : firstNZ [a, b] < 0 ↔ a < 0 ∨ (a = 0 ∧ b < 0) := by
  simp only [firstNZ]
  split
  · split <;> omega
  · omega
/-- The comparison in Due, as a function. -/
def dueCf (dl : Nat → Int) (n : Nat) (i k : Fin n) : Int := firstNZ [compareInt (dl i.val) (dl k.val), compareInt (i.val : Int) (k.val : Int)]
theorem dueCf_neg {dl : Nat → Int} {n : Nat} {i k : Fin n} : ltOf (dueCf dl n) i k = true ↔ dl i.val < dl k.val ∨ (dl i.val = dl k.val ∧ i.val < k.val) := by
  unfold ltOf dueCf
  rw [decide_eq_true_iff, firstNZ_two, compareInt_lt, compareInt_zero, compareInt_lt]
  omega
theorem dueCf_not {dl : Nat → Int} {n : Nat} {i k : Fin n} : ltOf (dueCf dl n) i k = false ↔ ¬ (dl i.val < dl k.val ∨ (dl i.val = dl k.val ∧ i.val < k.val)) := by
  rw [← dueCf_neg]; simp
theorem dueCf_swo (dl : Nat → Int) (n : Nat) : SWO (ltOf (dueCf dl n)) where
  irrefl := fun x => by rw [dueCf_not]; omega
  trans := fun x y z h1 h2 => by rw [dueCf_neg] at *; omega
  ntrans := fun x y z h1 h2 => by rw [dueCf_not] at *; omega
theorem dueCf_total {dl : Nat → Int} {n : Nat} (x y : Fin n) (h1 : ltOf (dueCf dl n) x y = false) (h2 : ltOf (dueCf dl n) y x = false) : x = y := by
  have h1 := dueCf_not.1 h1
  have h2 := dueCf_not.1 h2
  refine Fin.ext ?_
  rcases Int.lt_trichotomy (dl x.val) (dl y.val) with h | h | h
  · exact absurd (.inl h) h1
  · rcases Nat.lt_trichotomy x.val y.val with h3 | h3 | h3
    · exact absurd (.inr ⟨h, h3⟩) h1
    · exact h3
    · exact absurd (.inr ⟨h.symm, h3⟩) h2
  · exact absurd (.inl h) h2
theorem dueCf_le (dl : Nat → Int) (n : Nat) (x y : Fin n) : (!(ltOf (dueCf dl n) y x)) = Cal.leI (fun i => (dl i, 0)) x.val y.val := by
  cases h : ltOf (dueCf dl n) y x
  · rw [dueCf_not] at h
    symm
    show Cal.leI _ _ _ = true
    rw [Cal.leI_iff]
    show dl x.val < dl y.val ∨ dl x.val = dl y.val ∧ ((0 : Int) < 0 ∨ (0 : Int) = 0 ∧ x.val ≤ y.val)
    have h1 : ¬ dl y.val < dl x.val := fun h2 => h (.inl h2)
    have h2 : dl y.val = dl x.val → ¬ y.val < x.val := fun h2 h3 => h (.inr ⟨h2, h3⟩)
    by_cases h3 : dl y.val = dl x.val
    · have := h2 h3; exact .inr ⟨h3.symm, .inr ⟨rfl, by omega⟩⟩
    · exact .inl (by omega)
  · rw [dueCf_neg] at h
    symm
    show Cal.leI _ _ _ = false
    rw [Bool.eq_false_iff]
    intro hc
    rw [Cal.leI_iff] at hc
    have hc : dl x.val < dl y.val ∨ dl x.val = dl y.val ∧ ((0 : Int) < 0 ∨ (0 : Int) = 0 ∧ x.val ≤ y.val) := hc
    rcases h with h | ⟨h, h2⟩
    · omega
    · rcases hc with hc | ⟨_, hc | ⟨_, hc⟩⟩ <;> omega
/-- A row that is put by names of numbers is put by the numbers. -/
theorem putCells_map {α β : Type} [Inhabited α] [Inhabited β] (enc : β → Value) (f : α → β) (o : Nat) (d : Array α) (c : Array Value) : putCells (fun x => enc (f x)) o d c = putCells enc o (d.map f) c := by
  unfold putCells
  apply Array.ext
  · simp
  · intro i h1 h2
    simp only [Array.getElem_mapIdx, Array.size_map]
    by_cases hi : o ≤ i ∧ i < o + d.size
    · rw [if_pos hi, if_pos hi, getElem!_pos d _ (by omega), getElem!_pos (d.map f) _ (by simp; omega)]
      simp
    · rw [if_neg hi, if_neg hi]
theorem putRow_map {α β : Type} [Inhabited α] [Inhabited β] (enc : β → Value) (f : α → β) (w : World) (b o : Nat) (d : Array α) : putRow (fun x => enc (f x)) w b o d = putRow enc w b o (d.map f) := by
  unfold putRow
  congr 1
  funext c
  exact putCells_map enc f o d c
theorem heap_putRow_far {α : Type} [Inhabited α] {enc : α → Value} {w : World} {g : Nat} {d : Array α} {k : Nat} (h : k ≠ g) : (putRow enc w g 0 d).heap[k]? = w.heap[k]? := by
  simp [putRow, mapBlock, Array.getElem?_modify, Ne.symm h]
theorem sortWorld_far {α : Type} [Inhabited α] {enc : α → Value} {w : World} {g m : Nat} {d : Array α} {os : Array Obj} {k : Nat} (hk : k < w.heap.size) (h : k ≠ g) : (sortWorld enc w g 0 m d os).heap[k]? = w.heap[k]? := by
  have hs : (putRow enc (Sort.ahead w m) g 0 d).heap.size = w.heap.size := by simp [putRow, mapBlock, Sort.ahead]
  show ((putRow enc (Sort.ahead w m) g 0 d).heap ++ os)[k]? = _
  rw [Array.getElem?_append_left (by omega), heap_putRow_far h]
  rfl
def valI {n : Nat} (i : Fin n) : Int := (i.val : Int)
def encF (n : Nat) : Fin n → Value := fun i => Value.int .i64 (valI i)
def SortedPost (w : World) (B : Nat) (v : Value) (zs : List Int) (e : Ending) (w' : World) : Prop := e = .returned (.tuple #[]) ∧ IntsL w' B v zs ∧ w.grownBy w' v.ownBlock
set_option maxRecDepth 100000 in
theorem SortDue_own (w : World) (B : Nat) (v : Value) (S SB n : Nat) (dl : Nat → Int) (zs : List (Fin n)) (h : IntsL w B v (zs.map valI)) (hn : n ≤ 1000000) (hz : zs.length ≤ n) (hS : S < B) (hSB : SB < B) (hSw : S < w.heap.size) (hSBw : SB < w.heap.size)
    (c0 : w.cell? ⟨SB, 0, none⟩ = some (.slice (some ⟨S, 0, none⟩) n n)) (cd : ∀ i, i < n → w.cell? ⟨S, i * 18 + 14, none⟩ = some (.int .i64 (dl i))) :
    Calls Tryz.prog 67 #[v, .func (.func 68) #[] #[.pointer (some ⟨SB, 0, none⟩)]] w (SortedPost w B v (((zs.map Fin.val).mergeSort (Cal.leI fun i => (dl i, 0))).map fun (i : Nat) => (i : Int))) := by
  obtain ⟨A, c, rfl, hr⟩ := h.rows
  by_cases hne : zs = []
  · subst hne
    refine (Tryz.sortI_none (α := Nat) A c _ w).mono fun e w' ⟨he, hw⟩ => ?_
    subst hw
    exact ⟨he, by simpa using h, World.grownBy.refl _ _⟩
  · have hlen : 0 < zs.length := List.length_pos_iff.2 hne
    haveI : Inhabited (Fin n) := ⟨⟨0, by omega⟩⟩
    rcases h.own.2 with ⟨_, h0⟩ | ⟨g, cap, cur, hv, hb, hg, h1, h2, h3, h4⟩
    · rw [List.length_map] at h0; omega
    · simp only [Value.slice.injEq, true_and] at hv
      obtain ⟨rfl, rfl⟩ := hv
      have hgw : g < w.heap.size := (Array.getElem?_eq_some_iff.1 hg).1
      have hH : Holds (encF n) w g 0 zs.toArray := fun j hj => by
        have hj' : j < zs.length := by simpa using hj
        obtain ⟨q1, q2⟩ := h.holds j (by simpa using hj)
        refine ⟨q1.trans ?_, q2⟩
        rw [getElem!_pos zs.toArray j (by simpa using hj'), getElem!_pos (zs.map valI).toArray j (by simpa using hj')]
        simp [encF]
      have hcmp : CmpLays1 Tryz.prog 68 #[.pointer (some ⟨SB, 0, none⟩)] (encF n) (dueCf dl n) g 0 zs.toArray.size w := fun m os dk _ x y => by
        have e1 : ∀ a : Addr, a.block = SB ∨ a.block = S → (sortWorld (encF n) w g 0 m dk os).cell? a = w.cell? a := fun a ha => World.cell?_of_block (sortWorld_far (by rcases ha with h | h <;> omega) (by rcases ha with h | h <;> omega))
        have hsz : w.heap.size ≤ (sortWorld (encF n) w g 0 m dk os).heap.size := by simp [sortWorld, grow, putRow, mapBlock, Sort.ahead]
        exact dueCmp_any S SB n x.val y.val (dl x.val) (dl y.val) x.isLt y.isLt _ (by omega) (by omega) ((e1 _ (.inl rfl)).trans c0) ((e1 _ (.inr rfl)).trans (cd _ x.isLt)) ((e1 _ (.inr rfl)).trans (cd _ y.isLt))
      have hcon := Tryz.sortI_total (encF n) (fun _ => rfl) (dueCf dl n) (dueCf_swo dl n) 68 #[.pointer (some ⟨SB, 0, none⟩)] g 0 c zs.toArray w (enters_of Tryz.func68 (by kernel_rfl) rfl) hcmp hH hgw (by simp; omega) dueCf_total
      rw [show zs.toArray.size = (zs.map valI).length by simp] at hcon
      refine hcon.mono fun e w' ⟨he, m, os, hw⟩ => ?_
      subst hw
      have hys : ((zs.mergeSort fun x y => !(ltOf (dueCf dl n)) y x).toArray.map valI) = (((zs.map Fin.val).mergeSort (Cal.leI fun i => (dl i, 0))).map fun (i : Nat) => (i : Int)).toArray := by
        rw [← List.map_mergeSort (f := Fin.val) (r := fun x y => !(ltOf (dueCf dl n)) y x) (s := Cal.leI fun i => (dl i, 0)) (fun a _ b _ => dueCf_le dl n a b)]
        simp [valI, Function.comp_def]
      have hl : (((zs.map Fin.val).mergeSort (Cal.leI fun i => (dl i, 0))).map fun (i : Nat) => (i : Int)).length = (zs.map valI).length := by simp [List.length_mergeSort]
      have hA : IntsL (Sort.ahead w m) B (.slice (some ⟨g, 0, none⟩) (zs.map valI).length c) (zs.map valI) := h.below ⟨rfl, rfl, rfl, Nat.le_refl _, fun _ _ => rfl⟩
      obtain ⟨p1, p2⟩ := hA.put hl
      have hW : sortWorld (encF n) w g 0 m (zs.toArray.toList.mergeSort fun x y => !(ltOf (dueCf dl n)) y x).toArray os = grow (putRow (Value.int .i64) (Sort.ahead w m) g 0 (((zs.map Fin.val).mergeSort (Cal.leI fun i => (dl i, 0))).map fun (i : Nat) => (i : Int)).toArray) os := by
        show grow (putRow (fun x : Fin n => Value.int .i64 (valI x)) _ _ _ _) _ = _
        rw [putRow_map (Value.int .i64) (valI (n := n)), ← hys]
      rw [hW]
      have p3 := p1.below (grow_below _ os)
      rw [hl] at p3
      exact ⟨he, p3, ⟨p2.os, p2.tape, p2.output, Nat.le_trans p2.size (grow_below _ os).size, fun k hk hne => ((grow_below _ os).block k (Nat.lt_of_lt_of_le hk p2.size)).trans (p2.block k hk hne)⟩⟩
end Go.Proofs.YtbegbajlagcbdaaGreatDoor
namespace Go.Proofs.YtbegbajlagcbdaaGreatDoor
open Go Go.RowKit Go.Maps Go.WideMaps
theorem start2p (w : World) (A : Option Addr) (c : Nat) (p : Proc) (x y : Int) : Hid (BoxAt ((w.alloc (.cells #[.int .i64 p.runs.m, .int .i64 p.runs.d, .bool p.runs.k, .int .i64 p.obj.m, .int .i64 p.obj.d, .bool p.obj.k, .int .i64 p.wait.m, .int .i64 p.wait.d, .bool p.wait.k, .int .i64 p.exts, .int .i64 p.longest, .slice A p.hols.length c] 47)).alloc (.cells #[.int .i64 x, .int .i64 y] 49)) w.heap.size [.int .i64 p.runs.m, .int .i64 p.runs.d, .bool p.runs.k, .int .i64 p.obj.m, .int .i64 p.obj.d, .bool p.obj.k, .int .i64 p.wait.m, .int .i64 p.wait.d, .bool p.wait.k, .int .i64 p.exts, .int .i64 p.longest, .slice A p.hols.length c]) ∧ Hid (BoxAt ((w.alloc (.cells #[.int .i64 p.runs.m, .int .i64 p.runs.d, .bool p.runs.k, .int .i64 p.obj.m, .int .i64 p.obj.d, .bool p.obj.k, .int .i64 p.wait.m, .int .i64 p.wait.d, .bool p.wait.k, .int .i64 p.exts, .int .i64 p.longest, .slice A p.hols.length c] 47)).alloc (.cells #[.int .i64 x, .int .i64 y] 49)) (w.heap.size + 1) [.int .i64 x, .int .i64 y]) ∧ Hid (Below w.heap.size w ((w.alloc (.cells #[.int .i64 p.runs.m, .int .i64 p.runs.d, .bool p.runs.k, .int .i64 p.obj.m, .int .i64 p.obj.d, .bool p.obj.k, .int .i64 p.wait.m, .int .i64 p.wait.d, .bool p.wait.k, .int .i64 p.exts, .int .i64 p.longest, .slice A p.hols.length c] 47)).alloc (.cells #[.int .i64 x, .int .i64 y] 49))) := by
  have h2 := BoxAt.new (w.alloc (.cells #[.int .i64 p.runs.m, .int .i64 p.runs.d, .bool p.runs.k, .int .i64 p.obj.m, .int .i64 p.obj.d, .bool p.obj.k, .int .i64 p.wait.m, .int .i64 p.wait.d, .bool p.wait.k, .int .i64 p.exts, .int .i64 p.longest, .slice A p.hols.length c] 47)) #[.int .i64 x, .int .i64 y] 49
  rw [World.size_alloc] at h2
  exact ⟨(BoxAt.new w #[.int .i64 p.runs.m, .int .i64 p.runs.d, .bool p.runs.k, .int .i64 p.obj.m, .int .i64 p.obj.d, .bool p.obj.k, .int .i64 p.wait.m, .int .i64 p.wait.d, .bool p.wait.k, .int .i64 p.exts, .int .i64 p.longest, .slice A p.hols.length c] _).alloc _, h2, below_step (below_alloc _ _) (below_alloc _ _)⟩
/-- The set of names holds those that have been seen. -/
def SeenOf (seen : List (List UInt8)) (f : List UInt8 → Option Value) : Prop := ∀ nm, (f nm).getD (.bool false) = .bool (decide (nm ∈ seen))
theorem SeenOf.start : SeenOf [] (fun _ => none) := fun _ => by simp
theorem SeenOf.step {seen : List (List UInt8)} {f : List UInt8 → Option Value} (h : SeenOf seen f) (x : List UInt8) : SeenOf (seen ++ [x]) (setAt f x (.bool true)) := fun nm => by
  by_cases hn : nm = x
  · subst hn; rw [setAt_same]; simp
  · rw [setAt_other _ _ hn, h nm]; simp [hn]
/-- Rows of 18 cells in one block, the first of which are known. -/
structure StsAt (w : World) (S n b : Nat) (cs : Nat → List Value) : Prop where
  there : w.there S 0 (n * 18)
  rows : ∀ i, i < b → w.rangeAt S (i * 18) (cs i)
  lt : S < w.heap.size
theorem StsAt.grown {w w' : World} {row : Option Nat} {S n b : Nat} {cs : Nat → List Value} (h : StsAt w S n b cs) (hg : w.grownBy w' row) (hne : some S ≠ row) : StsAt w' S n b cs :=
  ⟨fun j hj => ⟨by rw [World.cell?_of_block (a := ⟨S, 0 + j, none⟩) (hg.block S h.lt hne)]; exact (h.there j hj).1, by rw [World.frozen?_of_block (a := ⟨S, 0 + j, none⟩) (hg.block S h.lt hne)]; exact (h.there j hj).2⟩,
    fun i hi j v hv => (World.cell?_of_block (a := ⟨S, i * 18 + j, none⟩) (hg.block S h.lt hne)).trans (h.rows i hi j v hv), Nat.lt_of_lt_of_le h.lt hg.size⟩
theorem StsAt.below {w w' : World} {S n b : Nat} {cs : Nat → List Value} (h : StsAt w S n b cs) (hb : Below w.heap.size w w') : StsAt w' S n b cs := h.grown (below_grown hb none) (by simp)
theorem StsAt.part {w : World} {S n b : Nat} {cs : Nat → List Value} (h : StsAt w S n b cs) {k : Nat} (hk : k < n) : w.there S (k * 18) 18 := fun j hj => by
  have := h.there (k * 18 + j) (by omega)
  rwa [Nat.zero_add] at this
theorem StsAt.put {w : World} {S n b : Nat} {cs : Nat → List Value} (h : StsAt w S n b cs) (hb : b < n) (hl : ∀ i, i ≤ b → (cs i).length = 18) : StsAt (w.setCells S (b * 18) (cs b)) S n (b + 1) cs := by
  refine ⟨World.there_setCells h.there _ _ _, fun i hi => ?_, by rw [size_setCells]; exact h.lt⟩
  rcases Nat.lt_or_ge i b with hib | hib
  · exact World.rangeAt_setCells_apart (h.rows i hib) _ _ _ (.inr (.inl (by rw [hl i (by omega)]; omega)))
  · obtain rfl : i = b := by omega
    exact World.rangeAt_setCells_same _ _ _ _ (by rw [hl i (Nat.le_refl _)]; exact h.part hb)
theorem madeStates (w : World) (n : Nat) (z : Array Value) (t : TypeId) (cs : Nat → List Value) : StsAt (w.alloc (.cells (madeCells z (n * 18)) t)) w.heap.size n 0 cs :=
  ⟨fun j hj => by
    refine ⟨?_, by unfold World.frozen?; rw [World.alloc_heap_new]; simp⟩
    rw [Nat.zero_add, cell_alloc_at, Array.getElem?_eq_getElem (by rw [size_madeCells]; exact hj)]
    rfl, fun i hi => by omega, by simp⟩
structure DueI (w : World) (A : Option Addr) (c : Nat) (p : Proc) (x y : Int) (M n : Nat) (cs : Nat → List Value) (seen : List (List UInt8)) (a b : Nat) (out : Value) (zs : List Int) (wr : World) : Prop where
  fr : Below w.heap.size w wr
  lo : w.heap.size + 2 ≤ M
  pr : BoxAt wr w.heap.size [.int .i64 p.runs.m, .int .i64 p.runs.d, .bool p.runs.k, .int .i64 p.obj.m, .int .i64 p.obj.d, .bool p.obj.k, .int .i64 p.wait.m, .int .i64 p.wait.d, .bool p.wait.k, .int .i64 p.exts, .int .i64 p.longest, .slice A p.hols.length c]
  bt : BoxAt wr (w.heap.size + 1) [.int .i64 x, .int .i64 y]
  map : ∃ f, MapIs Tryz.prog 9 strLit wr M a f ∧ SeenOf seen f
  sts : StsAt wr (M + 1) n b cs
  box : BoxAt wr (M + 1 + 1) [.slice (some ⟨M + 1, 0, none⟩) n n]
  out : IntsL wr (M + 3) out zs
  size : M + 3 ≤ wr.heap.size
section
variable {w : World} {A : Option Addr} {c : Nat} {p : Proc} {x y : Int} {M n : Nat} {cs : Nat → List Value} {seen : List (List UInt8)} {a b : Nat} {out : Value} {zs : List Int} {wr wr' : World}
theorem DueI.below (h : DueI w A c p x y M n cs seen a b out zs wr) (hb : Below wr.heap.size wr wr') : DueI w A c p x y M n cs seen a b out zs wr' := by
  obtain ⟨f, h1, h2⟩ := h.map
  exact ⟨below_step h.fr hb, h.lo, h.pr.below hb, h.bt.below hb, ⟨f, h1.below hb h1.lt, h2⟩, h.sts.below hb, h.box.below hb, h.out.below hb, Nat.le_trans h.size hb.size⟩
theorem DueI.mapped {seen' : List (List UInt8)} {a' : Nat} {f' : List UInt8 → Option Value} (h : DueI w A c p x y M n cs seen a b out zs wr) (hg : wr.grownBy wr' (some M)) (hm : MapIs Tryz.prog 9 strLit wr' M a' f') (hs : SeenOf seen' f') : DueI w A c p x y M n cs seen' a' b out zs wr' := by
  have hlo := h.lo
  refine ⟨below_of_grownB h.fr hg (by omega), h.lo, h.pr.grown hg (by simp; omega), h.bt.grown hg (by simp; omega), ⟨f', hm, hs⟩, h.sts.grown hg (by simp), h.box.grown hg (by simp; omega), OwnL.kept h.out hg ?_, Nat.le_trans h.size hg.size⟩
  cases hv : out.ownBlock with
  | none => exact .inl rfl
  | some g => right; intro e; have := (OwnL.lt h.out g hv).1; injection e with e; omega
theorem DueI.stored (h : DueI w A c p x y M n cs seen a b out zs wr) (hbn : b < n) (hl : ∀ i, i ≤ b → (cs i).length = 18) : DueI w A c p x y M n cs seen a (b + 1) out zs (wr.setCells (M + 1) (b * 18) (cs b)) := by
  have hlo := h.lo
  have hg := grown_setCells (M + 1) (cs b) (b * 18) wr
  obtain ⟨f, h1, h2⟩ := h.map
  refine ⟨below_of_grownB h.fr hg (by omega), h.lo, h.pr.grown hg (by simp; omega), h.bt.grown hg (by simp; omega), ⟨f, h1.kept hg (by simp), h2⟩, h.sts.put hbn hl, h.box.grown hg (by simp), OwnL.kept h.out hg ?_, Nat.le_trans h.size hg.size⟩
  cases hv : out.ownBlock with
  | none => exact .inl rfl
  | some g => right; intro e; have := (OwnL.lt h.out g hv).1; injection e with e; omega
theorem DueI.grown {out' : Value} {zs' : List Int} (h : DueI w A c p x y M n cs seen a b out zs wr) (hg : wr.grownBy wr' out.ownBlock) (ho : IntsL wr' (M + 3) out' zs') : DueI w A c p x y M n cs seen a b out' zs' wr' := by
  have hlo := h.lo
  have hb : Below (M + 3) wr wr' := grown_below hg (fun g e => (OwnL.lt h.out g e).1) h.size
  have hne : ∀ k, k < M + 3 → some k ≠ out.ownBlock := fun k hk e => by have := (OwnL.lt h.out k e.symm).1; omega
  obtain ⟨f, h1, h2⟩ := h.map
  exact ⟨h.fr.trans (hb.mono (by omega)), h.lo, h.pr.grown hg (hne _ (by omega)), h.bt.grown hg (hne _ (by omega)), ⟨f, h1.kept hg (hne _ (by omega)), h2⟩, h.sts.grown hg (hne _ (by omega)), h.box.grown hg (hne _ (by omega)), ho, Nat.le_trans h.size hg.size⟩
theorem DueI.pushed {out' : Value} {zs' : List Int} (h : DueI w A c p x y M n cs seen a b out zs wr) (hb : Below (M + 3) wr wr') (ho : IntsL wr' (M + 3) out' zs') : DueI w A c p x y M n cs seen a b out' zs' wr' := by
  have hlo := h.lo
  have hs := h.size
  obtain ⟨f, h1, h2⟩ := h.map
  have hg : ∀ B, B < M + 3 → wr'.heap[B]? = wr.heap[B]? := fun B hB => hb.block B hB
  have hbx : ∀ {B : Nat} {ds : List Value}, B < M + 3 → BoxAt wr B ds → BoxAt wr' B ds := fun hB hx =>
    ⟨fun j v hv => (World.cell?_of_block (a := ⟨_, 0 + j, none⟩) (hg _ hB)).trans (hx.range j v hv), fun j hj => (World.frozen?_of_block (a := ⟨_, j, none⟩) (hg _ hB)).trans (hx.free j hj), Nat.lt_of_lt_of_le hx.lt hb.size⟩
  refine ⟨h.fr.trans (hb.mono (by omega)), h.lo, hbx (by omega) h.pr, hbx (by omega) h.bt, ⟨f, h1.below hb (by omega), h2⟩, ⟨fun j hj => ?_, fun i hi j v hv => (World.cell?_of_block (a := ⟨M + 1, i * 18 + j, none⟩) (hg (M + 1) (by omega))).trans (h.sts.rows i hi j v hv), Nat.lt_of_lt_of_le h.sts.lt hb.size⟩, hbx (by omega) h.box, ho, Nat.le_trans hs hb.size⟩
  obtain ⟨q1, q2⟩ := h.sts.there j hj
  exact ⟨by rw [World.cell?_of_block (a := ⟨M + 1, 0 + j, none⟩) (hg (M + 1) (by omega))]; exact q1, by rw [World.frozen?_of_block (a := ⟨M + 1, 0 + j, none⟩) (hg (M + 1) (by omega))]; exact q2⟩
theorem DueI.look (h : DueI w A c p x y M n cs seen a b out zs wr) {s : ByteArray} (hs : s.size ≤ maxLen) : (Instr.lookup 116 (.map (some M)) (.string s) false).run Tryz.prog wr = .ok (.bool (decide (s.data.toList ∈ seen))) wr := by
  obtain ⟨f, h1, h2⟩ := h.map
  rw [h1.look (string_keyed Tryz.underlying9) Tryz.underlying116 (boolZero _) (keyOf_string_mk Tryz.underlying9 hs), h2]
theorem DueI.update (h : DueI w A c p x y M n cs seen a b out zs wr) {s : ByteArray} (hs : s.size ≤ maxLen) (ha : a < 1000000) :
    ∃ w', (Instr.mapUpdate 116 (.map (some M)) (.string s) (.bool true)).run Tryz.prog wr = .ok () w' ∧ DueI w A c p x y M n cs (seen ++ [s.data.toList]) (a + 1) b out zs w' ∧ wr.grownBy w' (some M) ∧ w'.heap.size = wr.heap.size := by
  obtain ⟨f, h1, h2⟩ := h.map
  obtain ⟨w2, hrun, hm2, hg2, hsz2⟩ := h1.store strLit_inj (string_keyed Tryz.underlying9) Tryz.underlying116 (by unfold maxLen; omega) (val := .bool true) (keyOf_string_mk Tryz.underlying9 hs)
  exact ⟨w2, hrun, h.mapped hg2 hm2 (h2.step _), hg2, hsz2⟩
end
/-- One number is put behind an own slice. -/
theorem wpPushI {ops : Array Oper} {rest : List Oper} {op : Oper} {a : Act} {w : World} {Q : Exit → Act → World → Prop} {B : Nat} {v : Value} {zs : List Int} {t : TypeId} (z : Int) (h : IntsL w B v zs) (hB : B ≤ w.heap.size) (hlen : zs.length ≤ 1000000)
    (hgd : op.guard = none) (s x : Operand) (ho : op.op = .call { callee := .builtin .append, args := #[s, x], argTypes := #[32, 32] }) (hs : a.eval s = v) {c : Nat} (hx : a.eval x = .slice (some ⟨w.heap.size, 0, none⟩) 1 c)
    (k : ∀ v' w', IntsL w' B v' (zs ++ [z]) → Below B w w' → wpList Tryz.prog ops Q rest (a.put op.dst v') w') : wpList Tryz.prog ops Q (op :: rest) a (w.alloc (.cells #[.int .i64 z] t)) := by
  refine wpList_append_rows elemInt hgd s x ho hs hx (OwnL.below h (below_alloc _ _)) (rowsAt_new _ [.int .i64 z] _) rfl (intRows_wid [z]) (intRows_one [z]) (by rw [intRows_length]; simp; omega) (by decide) (by simp; omega) ?_
  intro v' w2 hown2 hg2 _
  refine k v' w2 ?_ ?_
  · unfold IntsL intRows; rw [List.map_append]; exact hown2
  · exact ((Below.refl B w).alloc hB _).trans (grown_below hg2 (fun g e => (OwnL.lt h g e).1) (by simp; omega))
/-! What Due returns. -/
def Cal.nmE (e : NtE) : List UInt8 := e.n.name.data.toList
def Cal.ckE (p : Proc) (e : NtE) : Int := (Cal.checkS p e.n).2
def Cal.ntsE (p : Proc) (l : List NtE) : Int := if 40 < l.length then 8 else Cal.namesE (Cal.ckE p) Cal.nmE [] l
def Cal.stI (p : Proc) (l : List NtE) (i : Nat) : NSt := match l[i]? with | some e => Cal.stAt p e.n 200000 | none => ⟨0, 0, 0, 0, 0, 0⟩
theorem Cal.stI_at {p : Proc} {l : List NtE} {k : Nat} (h : k < l.length) : Cal.stI p l k = Cal.stAt p l[k].n 200000 := by unfold Cal.stI; rw [List.getElem?_eq_getElem h]
def Cal.duesB (p : Proc) (l : List NtE) (x y : Int) (i : Nat) : Bool := decide ((Cal.stI p l i).phase = 1) && (decide (x ≤ (Cal.stI p l i).deadline) && decide ((Cal.stI p l i).deadline ≤ y))
def Cal.dueK (p : Proc) (l : List NtE) (i : Nat) : Int × Int := ((Cal.stI p l i).deadline, 0)
def Cal.dueE (p : Proc) (l : List NtE) (x y : Int) : Int :=
  if Cal.procErr p = 0 then (if Cal.ntsE p l = 0 then (if 0 ≤ x ∧ x ≤ 200000 ∧ 0 ≤ y ∧ y ≤ 200000 then (if y < x then 9 else 0) else 2) else Cal.ntsE p l) else Cal.procErr p
def Cal.dueO (p : Proc) (l : List NtE) (x y : Int) : List Int := (Cal.dueI (Cal.dueK p l) (Cal.duesB p l x y) l.length).map fun (i : Nat) => (i : Int)
def Cal.dueL (p : Proc) (l : List NtE) (x y : Int) : List Int := if Cal.dueE p l x y = 0 then Cal.dueO p l x y else []
def DuePost (w : World) (p : Proc) (l : List NtE) (x y : Int) (e : Ending) (w' : World) : Prop := ∃ v, e = .returned (.tuple #[v, .int .i64 (Cal.dueE p l x y)]) ∧ IntsL w' w.heap.size v (Cal.dueL p l x y) ∧ Below w.heap.size w w'
theorem duePost_err {w w' : World} {p : Proc} {l : List NtE} {x y r : Int} (h : Cal.dueE p l x y = r) (hr : r ≠ 0) (hb : Below w.heap.size w w') : DuePost w p l x y (.returned (.tuple #[.slice none 0 0, .int .i64 r])) w' :=
  ⟨_, by rw [h], by unfold Cal.dueL; rw [h, if_neg hr]; exact OwnL.nil _ _ _ _, hb⟩
/-- The numbers that have been chosen, in memory. -/
def Cal.selZ (S : Nat → Bool) (k : Nat) : List Int := (Cal.selI S k).map fun (i : Nat) => (i : Int)
theorem Cal.selZ_yes {S : Nat → Bool} {k : Nat} (h : S k = true) : Cal.selZ S (k + 1) = Cal.selZ S k ++ [(k : Int)] := by unfold Cal.selZ; rw [Cal.selI_yes h]; simp
theorem Cal.selZ_no {S : Nat → Bool} {k : Nat} (h : S k = false) : Cal.selZ S (k + 1) = Cal.selZ S k := by unfold Cal.selZ; rw [Cal.selI_no h]
theorem Cal.selZ_length (S : Nat → Bool) (k : Nat) : (Cal.selZ S k).length ≤ k := by unfold Cal.selZ; rw [List.length_map]; exact Cal.selI_length S k
theorem Cal.selZ_fin (S : Nat → Bool) (n : Nat) : ∃ zs : List (Fin n), zs.map valI = Cal.selZ S n ∧ zs.map Fin.val = Cal.selI S n ∧ zs.length ≤ n := by
  have hm : ∀ i ∈ Cal.selI S n, i < n := fun i hi => (Cal.selI_mem.1 hi).1
  have h1 : (((Cal.selI S n).pmap (fun i h => (⟨i, h⟩ : Fin n)) hm).map Fin.val) = Cal.selI S n := by
    rw [List.map_pmap]; simp
  refine ⟨(Cal.selI S n).pmap (fun i h => ⟨i, h⟩) hm, ?_, h1, ?_⟩
  · unfold Cal.selZ
    conv => rhs; rw [← h1]
    rw [List.map_map]
    rfl
  · rw [List.length_pmap]; exact Cal.selI_length S n
end Go.Proofs.YtbegbajlagcbdaaGreatDoor
