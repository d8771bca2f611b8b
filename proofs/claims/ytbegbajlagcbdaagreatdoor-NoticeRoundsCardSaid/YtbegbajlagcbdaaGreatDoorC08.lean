/- Chapter 8 and what it rests on: definitions and walks, part 08. -/
import Derived.Test.YtbegbajlagcbdaaGreatDoorC06
import Derived.Test.YtbegbajlagcbdaaGreatDoorC07
import Derived.Test.YtbegbajlagcbdaaGreatDoorC03
import Derived.Lib.SlicesCompact
namespace Go.Proofs.YtbegbajlagcbdaaGreatDoor
open Go Go.RowKit Go.Maps Go.WideMaps

/-- The day of a holiday in a year; none: the year has none. -/
def Cal.onS (h : Hol) (y : Int) : Option Int :=
  if h.kind = 0 then (if h.day ≤ Cal.mlen y h.month then some (Cal.first y h.month + h.day - 1) else none)
  else if h.kind = 1 then some (Cal.easter y + h.day)
  else if 0 < h.day then some (Cal.first y h.month + (h.weekday - (Cal.first y h.month + 2) % 7 + 7) % 7 + 7 * (h.day - 1))
  else some (Cal.first y h.month + Cal.mlen y h.month - 1 - (Cal.first y h.month + Cal.mlen y h.month - 1 - (Cal.first y h.month + (h.weekday - (Cal.first y h.month + 2) % 7 + 7) % 7)) % 7)
def Cal.hols (l : List Hol) (y : Int) : List Int := l.filterMap fun h => Cal.onS h y
def Cal.worksB (l : List Hol) (d : Int) : Bool := decide ((d + 2) % 7 ≤ 4) && !(Cal.hols l (Cal.dY d)).contains d
/-- zs are the holidays of a year, ascending, each once. -/
def HolsAre (zs : List Int) (l : List Hol) (y : Int) : Prop := zs.Pairwise (· < ·) ∧ ∀ d, d ∈ zs ↔ d ∈ Cal.hols l y
/-- A slice of the call's own (its block from B on) that reads as numbers. -/
def SliceOf (W : World) (B : Nat) (v : Value) (zs : List Int) : Prop :=
  ∃ A c, v = .slice A zs.length c ∧ zs.length ≤ 1000000 ∧ (zs ≠ [] → ∃ g cs t, A = some ⟨g, 0, none⟩ ∧ B ≤ g ∧ W.heap[g]? = some (.cells cs t (0, 0)) ∧ ∀ (j : Nat) x, zs[j]? = some x → cs[j]? = some (.int .i64 x))
theorem SliceOf.keep {W W' : World} {B : Nat} {v : Value} {zs : List Int} (h : SliceOf W B v zs) (hk : ∀ (g : Nat) cs t, B ≤ g → W.heap[g]? = some (.cells cs t (0, 0)) → W'.heap[g]? = some (.cells cs t (0, 0))) : SliceOf W' B v zs := by
  obtain ⟨A, c, hv, hz, h⟩ := h
  exact ⟨A, c, hv, hz, fun hne => by obtain ⟨g, cs, t, h1, h2, h3, h4⟩ := h hne; exact ⟨g, cs, t, h1, h2, hk g cs t h2 h3, h4⟩⟩
theorem SliceOf.below {W W' : World} {B : Nat} {v : Value} {zs : List Int} (h : SliceOf W B v zs) (hb : Below W.heap.size W W') : SliceOf W' B v zs :=
  h.keep fun g _ _ _ hg => (hb.block g (Array.getElem?_eq_some_iff.1 hg).1).trans hg
theorem SliceOf.less {W : World} {B B' : Nat} {v : Value} {zs : List Int} (h : SliceOf W B v zs) (hB : B' ≤ B) : SliceOf W B' v zs := by
  obtain ⟨A, c, hv, hz, h⟩ := h
  exact ⟨A, c, hv, hz, fun hne => by obtain ⟨g, cs, t, h1, h2, h3, h4⟩ := h hne; exact ⟨g, cs, t, h1, by omega, h3, h4⟩⟩
theorem SliceOf.cells {W : World} {B : Nat} {v : Value} {zs : List Int} (h : SliceOf W B v zs) (hne : zs ≠ []) : ∃ g c, v = .slice (some ⟨g, 0, none⟩) zs.length c ∧ zs.length ≤ 1000000 ∧ ∀ j, j < zs.length → W.cell? ⟨g, 0 + j, none⟩ = some (.int .i64 (zs.getD j 0)) := by
  obtain ⟨A, c, hv, hz, h⟩ := h
  obtain ⟨g, cs, t, rfl, _, h3, h4⟩ := h hne
  refine ⟨g, c, hv, hz, fun j hj => ?_⟩
  have := h4 j zs[j] (List.getElem?_eq_getElem hj)
  rw [cell_of_row W g (0 + j) cs t (0, 0) h3, Nat.zero_add, this]
  simp [List.getD, hj]
def HolPost (W : World) (l : List Hol) (y : Int) (e : Ending) (W' : World) : Prop := ∃ v zs, e = .returned v ∧ SliceOf W' W.heap.size v zs ∧ HolsAre zs l y ∧ Below W.heap.size W W'
/-- What is asked of holidaysOf at a list. -/
def HolCalls (A : Option Addr) (c : Nat) (l : List Hol) : Prop := ∀ (y : Int) (W : World), 1800 ≤ y → y ≤ 2347 → Hols W A l → Tab W → Calls Tryz.prog 239 #[.slice A l.length c, .int .i64 y] W (HolPost W l y)
def intLit (x : Int) : Lit := .int .i64 x
theorem intLit_inj (x y : Int) (h : intLit x = intLit y) : x = y := by unfold intLit at h; cases h; rfl
def CacheOk (W : World) (B m n : Nat) (l : List Hol) : Prop := ∃ f : Int → Option Value, MapIs Tryz.prog 3 intLit W m n f ∧ ∀ y v, f y = some v → ∃ zs, SliceOf W B v zs ∧ HolsAre zs l y
theorem slZero (w : World) : (zeroValue 32).run Tryz.prog w = .ok (.slice none 0 0) w := by kernel_rfl
theorem CacheOk.keep {W W' : World} {B m n : Nat} {l : List Hol} (h : CacheOk W B m n l) (hm : W'.heap[m]? = W.heap[m]?) (hk : ∀ (g : Nat) cs t, B ≤ g → W.heap[g]? = some (.cells cs t (0, 0)) → W'.heap[g]? = some (.cells cs t (0, 0))) : CacheOk W' B m n l := by
  obtain ⟨f, h1, h2⟩ := h
  exact ⟨f, h1.same hm, fun y v hv => by obtain ⟨zs, a, b⟩ := h2 y v hv; exact ⟨zs, a.keep hk, b⟩⟩
theorem CacheOk.below {W W' : World} {B m n : Nat} {l : List Hol} (h : CacheOk W B m n l) (hb : Below W.heap.size W W') : CacheOk W' B m n l := by
  obtain ⟨f, h1, h2⟩ := h
  exact ⟨f, h1.below hb h1.lt, fun y v hv => by obtain ⟨zs, a, b⟩ := h2 y v hv; exact ⟨zs, a.below hb, b⟩⟩
theorem CacheOk.mono {W : World} {B m n n' : Nat} {l : List Hol} (h : CacheOk W B m n l) (hn : n ≤ n') : CacheOk W B m n' l := by
  obtain ⟨f, h1, h2⟩ := h; exact ⟨f, h1.mono hn, h2⟩
/-- The calendar in memory. -/
structure Calend (W : World) (cb m : Nat) (A : Option Addr) (c : Nat) (l : List Hol) : Prop where
  c0 : W.cell? ⟨cb, 0, none⟩ = some (.slice A l.length c)
  c1 : W.cell? ⟨cb, 1, none⟩ = some (.map (some m))
  lt : cb < W.heap.size
  hols : Hols W A l
  tab : Tab W
theorem field_date0 (x y z : Int) (w : World) : (Instr.field 156 (.agg #[.int .i64 x, .int .i64 y, .int .i64 z]) 0).run Tryz.prog w = .ok (.int .i64 x) w := by kernel_rfl
def WorksPost (W : World) (B m n : Nat) (l : List Hol) (d : Int) (e : Ending) (W' : World) : Prop := e = .returned (.bool (Cal.worksB l d)) ∧ W.grownBy W' (some m) ∧ CacheOk W' B m (n + 1) l
theorem HolsAre.contains {zs : List Int} {l : List Hol} {y : Int} (h : HolsAre zs l y) (d : Int) : zs.contains d = (Cal.hols l y).contains d := by
  rw [Bool.eq_iff_iff]; simp only [List.contains_iff_mem]; exact h.2 d
theorem HolsAre.sorted {zs : List Int} {l : List Hol} {y : Int} (h : HolsAre zs l y) : zs.Pairwise (· ≤ ·) := h.1.imp fun h => by omega
theorem grownBy_below {W W' : World} {row : Option Nat} (h : Below W.heap.size W W') : W.grownBy W' row := ⟨h.os, h.tape, h.output, h.size, fun i hi _ => h.block i hi⟩
theorem grownBy_drewN {W W' : World} {row : Option Nat} (h : W.grownBy W' row) (n : Nat) : W.grownBy (W'.drewN n) row := ⟨h.os, h.tape, h.output, h.size, h.block⟩
theorem grownBy_trans {a b c : World} {row : Option Nat} (h : a.grownBy b row) (k : b.grownBy c row) : a.grownBy c row :=
  ⟨k.os.trans h.os, k.tape.trans h.tape, k.output.trans h.output, Nat.le_trans h.size k.size, fun i hi hne => (k.block i (Nat.lt_of_lt_of_le hi h.size) hne).trans (h.block i hi hne)⟩
/-- BinarySearch of a day in a list of holidays. -/
theorem search_any (W : World) (B : Nat) (v : Value) (zs : List Int) (l : List Hol) (y d : Int) (h : SliceOf W B v zs) (hz : HolsAre zs l y) :
    Calls Tryz.prog 240 #[v, .int .i64 d] W fun e W' => ∃ k : Int, e = .returned (.tuple #[.int .i64 k, .bool ((Cal.hols l y).contains d)]) ∧ ∃ q, W' = W.drewN q := by
  rw [← hz.contains d]
  by_cases hne : zs = []
  · subst hne
    obtain ⟨A, c, rfl, _, _⟩ := h
    exact (Tryz.slices_BinarySearch_int_empty A c d W).mono fun e W' ⟨he, hw⟩ => ⟨0, by rw [he]; rfl, 0, hw⟩
  · obtain ⟨g, c, rfl, hsz, hc⟩ := h.cells hne
    have hs := hz.sorted
    refine (Tryz.slices_BinarySearch_int g 0 zs.length c zs d W (Nat.le_refl _) (by omega) hc (by rw [List.take_length]; exact hs)).mono fun e W' hq => ?_
    obtain ⟨he, q, hw⟩ := hq
    rw [List.take_length] at he
    exact ⟨_, he, q, hw⟩

set_option maxRecDepth 100000 in
set_option maxHeartbeats 1000000 in
theorem works_any (cb m : Nat) (A : Option Addr) (c : Nat) (l : List Hol) (hHol : HolCalls A c l) (day : Int) (y0 : 0 ≤ day) (y1 : day ≤ 200000) (B n : Nat) (W : World) (hcal : Calend W cb m A c l) (hca : CacheOk W B m n l) (hn : n ≤ 1000000) (hB : B ≤ W.heap.size) :
    Calls Tryz.prog 199 #[.pointer (some ⟨cb, 0, none⟩), .int .i64 day] W (WorksPost W B m n l day) := by
  by_cases hwd : (day + 2) % 7 ≤ 4
  · obtain ⟨dy0, dy1⟩ := Cal.dY_bd day y0 y1
    have hwd' := Lib.hid hwd
    have hT := Lib.hid hcal.tab
    have hlt := hcal.lt
    have hc0 := hcal.c0
    have hc1 := hcal.c1
    have hmlt : m < W.heap.size := by obtain ⟨f, h, _⟩ := hca; exact h.lt
    have hfin : ∀ b : Bool, (Cal.hols l (Cal.dY day)).contains day = b → Cal.worksB l day = !b := fun b h => by unfold Cal.worksB; rw [h]; simp [hwd]
    have hfin := Lib.hid hfin
    have hHol := Lib.hid hHol
    have hfld := fun w => field_date0 (Cal.dY day) (Cal.dM day) (Cal.dD day) w
    have hcal' := Lib.hid hcal
    clear hcal
    obtain ⟨f, hmap, hf⟩ := hca
    cases hv : f (Cal.dY day) with
    | some v =>
      obtain ⟨zs, hsl, hzs⟩ := hf _ _ hv
      have hlook := fun (w1 : World) (h1 : Below W.heap.size W w1) => (hmap.below h1 hmlt).look_ok (int_keyed Tryz.underlying3) Tryz.underlying270 (slZero _) (key := .int .i64 (Cal.dY day)) (kl := Cal.dY day) (keyOf_int_mk Tryz.underlying3 (WalkArith.wf_i64 (by omega)))
      rw [hv] at hlook
      have hlook := Lib.hid hlook
      have hall := Lib.hid (And.intro hmap (And.intro hf (And.intro hsl hzs)))
      clear hmap hf hsl hzs hv
      go_enter Tryz.func199, Tryz.ntmps199
      go_wp2_with (first | (go_at_call 237; refine (weekday_any _ (by omega) (by omega) _).mono ?_; rintro e w' ⟨rfl, rfl⟩) | (go_at_call 238; refine (dateOf_any day y0 y1 _ hT.out).mono ?_; rintro e w1 ⟨rfl, hb1⟩; obtain ⟨hc1', hf1'⟩ := bcell hb1; have hlk := hlook.out w1 hb1))
      obtain ⟨hmap, hf, hsl, hzs⟩ := hall.out
      refine (search_any w1 B v zs l (Cal.dY day) day (hsl.below hb1) hzs).mono ?_
      have hca' := Lib.hid (show CacheOk w1 B m (n + 1) l from (CacheOk.below ⟨f, hmap, hf⟩ hb1).mono (by omega))
      clear hmap hf hsl hzs
      rintro e w2 ⟨k, rfl, q, rfl⟩
      go_wp2
      go_ret
      exact ⟨ret_bool (by rw [hfin.out _ rfl]; simp), grownBy_drewN (grownBy_below hb1) _, hca'.out.keep rfl (fun _ _ _ _ h => h)⟩
    | none =>
      have hlook := fun (w1 : World) (h1 : Below W.heap.size W w1) => (hmap.below h1 hmlt).look_ok (int_keyed Tryz.underlying3) Tryz.underlying270 (slZero _) (key := .int .i64 (Cal.dY day)) (kl := Cal.dY day) (keyOf_int_mk Tryz.underlying3 (WalkArith.wf_i64 (by omega)))
      rw [hv] at hlook
      have hlook := Lib.hid hlook
      have hca' := Lib.hid (show CacheOk W B m n l from ⟨f, hmap, hf⟩)
      have hm' := Lib.hid hmap
      have hf' := Lib.hid hf
      clear hmap hf hv
      go_enter Tryz.func199, Tryz.ntmps199
      go_wp2_with (first | (go_at_call 237; refine (weekday_any _ (by omega) (by omega) _).mono ?_; rintro e w' ⟨rfl, rfl⟩) | (go_at_call 238; refine (dateOf_any day y0 y1 _ hT.out).mono ?_; rintro e w1 ⟨rfl, hb1⟩; obtain ⟨hc1', hf1'⟩ := bcell hb1; have hlk := hlook.out w1 hb1))
      refine (hHol.out (Cal.dY day) w1 dy0 dy1 (hcal'.out.hols.below hb1) (hT.out.below hb1)).mono ?_
      rintro e w2 ⟨v, zs, rfl, hsl, hzs, hb2⟩
      have hb12 := below_step hb1 hb2
      have hs1 := hb1.size
      have hs2 := hb2.size
      obtain ⟨w3, hrun, hm3, hg3, hsz3⟩ := (hm'.out.below hb12 hmlt).store intLit_inj (int_keyed Tryz.underlying3) Tryz.underlying270 (by unfold maxLen; omega) (val := v) (key := .int .i64 (Cal.dY day)) (kl := Cal.dY day) (keyOf_int_mk Tryz.underlying3 (WalkArith.wf_i64 (by omega)))
      have hd1 : w2.cell? ⟨cb, 0, none⟩ = some (.slice A l.length c) := (hb12.cell (p := ⟨cb, 0, none⟩) hlt).trans hc0
      have hd2 : w2.cell? ⟨cb, 1, none⟩ = some (.map (some m)) := (hb12.cell (p := ⟨cb, 1, none⟩) hlt).trans hc1
      have hmapAt := (hm'.out.below hb12 hmlt).isMap
      have hkeep : ∀ (g : Nat) cs t, w2.heap[g]? = some (.cells cs t (0, 0)) → w3.heap[g]? = some (.cells cs t (0, 0)) := fun g cs t hg =>
        (hg3.block g (Array.getElem?_eq_some_iff.1 hg).1 (fun e => by cases e; obtain ⟨es, cl, hes⟩ := hmapAt; rw [hg] at hes; cases hes)).trans hg
      have hsl3 : SliceOf w3 B v zs := (hsl.less (by omega)).keep fun g cs t _ hg => hkeep g cs t hg
      have hca3 : CacheOk w3 B m (n + 1) l := by
        refine ⟨_, hm3, fun y u hy => ?_⟩
        by_cases he : y = Cal.dY day
        · subst he; rw [setAt_same] at hy; cases hy; exact ⟨zs, hsl3, hzs⟩
        · rw [setAt_other _ _ he] at hy
          obtain ⟨zs', a, b⟩ := hf'.out y u hy
          exact ⟨zs', (a.below hb12).keep fun g cs t _ hg => hkeep g cs t hg, b⟩
      have hg03 : W.grownBy w3 (some m) := grownBy_trans (grownBy_below hb12) hg3
      have hall := Lib.hid (And.intro hsl3 (And.intro hca3 (And.intro hg03 hzs)))
      clear hmapAt hkeep hsl3 hca3 hg03 hsl hzs hm3 hg3 hsz3 hlk hc1' hf1'
      go_wp2_with fail
      obtain ⟨hsl3, hca3, hg03, hzs⟩ := hall.out
      refine (search_any w3 B v zs l (Cal.dY day) day hsl3 hzs).mono ?_
      clear hsl3 hca3 hg03 hzs
      rintro e w4 ⟨k, rfl, q, rfl⟩
      go_wp2
      go_ret
      exact ⟨ret_bool (by rw [hfin.out _ rfl]; simp), grownBy_drewN hall.out.2.2.1 _, hall.out.2.1.keep rfl (fun _ _ _ _ h => h)⟩
  · have hfin : Hid (Cal.worksB l day = false) := by show _ = _; unfold Cal.worksB; simp [hwd]
    go_enter Tryz.func199, Tryz.ntmps199
    go_wp2_with (first | (go_at_call 237; refine (weekday_any _ (by omega) (by omega) _).mono ?_; rintro e w' ⟨rfl, rfl⟩))
    go_ret
    exact ⟨ret_bool hfin.out.symm, World.grownBy.refl _ _, hca.mono (by omega)⟩
end Go.Proofs.YtbegbajlagcbdaaGreatDoor
namespace Go.Proofs.YtbegbajlagcbdaaGreatDoor.Cal
def idx (day : Int) : Int := 12 * dY day + dM day - 1
def mfirst (t : Int) : Int := first (t / 12) (t % 12 + 1)
def mval (d t : Int) : Int := mfirst t + min d (mlen (t / 12) (t % 12 + 1)) - 1
theorem mfirst_succ (t : Int) : mfirst (t + 1) = mfirst t + mlen (t / 12) (t % 12 + 1) := by
  unfold mfirst
  by_cases h : t % 12 = 11
  · have e1 : (t + 1) / 12 = t / 12 + 1 := by omega
    have e2 : (t + 1) % 12 + 1 = 1 := by omega
    have e3 : t % 12 + 1 = 12 := by omega
    rw [e1, e2, e3, first_1, ← first_13]
    exact first_succ (t / 12) 12 (by omega) (by omega)
  · have e1 : (t + 1) / 12 = t / 12 := by omega
    have e2 : (t + 1) % 12 + 1 = t % 12 + 1 + 1 := by omega
    rw [e1, e2]
    exact first_succ (t / 12) (t % 12 + 1) (by omega) (by omega)
theorem mfirst_add (t : Int) (n : Nat) : mfirst t ≤ mfirst (t + n) := by
  induction n with
  | zero => simp
  | succ n ih =>
    have h := mfirst_succ (t + n)
    have := mlen_bd ((t + n) / 12) ((t + n) % 12 + 1)
    rw [show t + ((n + 1 : Nat) : Int) = t + n + 1 by omega]
    omega
theorem mfirst_mono {t u : Int} (h : t ≤ u) : mfirst t ≤ mfirst u := by
  have := mfirst_add t (u - t).toNat
  rwa [show t + ((u - t).toNat : Int) = u by omega] at this
theorem mval_lo {d t : Int} (h : 1 ≤ d) : mfirst t ≤ mval d t := by
  have := mlen_bd (t / 12) (t % 12 + 1)
  unfold mval; omega
theorem mval_hi (d t : Int) : mval d t < mfirst (t + 1) := by
  rw [mfirst_succ]; unfold mval; omega
theorem mval_mono {d t u : Int} (hd : 1 ≤ d) (h : t ≤ u) : mval d t ≤ mval d u := by
  rcases Int.lt_or_eq_of_le h with h | rfl
  · have := mval_hi d t
    have := mfirst_mono (t := t + 1) (u := u) (by omega)
    have := mval_lo (d := d) (t := u) hd
    omega
  · exact Int.le_refl _
section
variable {day : Int} (h0 : 0 ≤ day) (h1 : day ≤ 200000)
include h0 h1
theorem idx_div : idx day / 12 = dY day ∧ idx day % 12 + 1 = dM day := by
  obtain ⟨m1, m2, _, _, _⟩ := date_spec day h0 (by omega)
  unfold idx; omega
theorem mfirst_idx : mfirst (idx day) ≤ day ∧ day < mfirst (idx day + 1) := by
  obtain ⟨m1, m2, d1, d2, hd⟩ := date_spec day h0 (by omega)
  obtain ⟨e1, e2⟩ := idx_div h0 h1
  rw [mfirst_succ]; unfold mfirst; rw [e1, e2]; omega
theorem mval_idx : mval (dD day) (idx day) = day := by
  obtain ⟨m1, m2, d1, d2, hd⟩ := date_spec day h0 (by omega)
  obtain ⟨e1, e2⟩ := idx_div h0 h1
  unfold mval mfirst; rw [e1, e2]; omega
theorem dD_pos : 1 ≤ dD day := (date_spec day h0 (by omega)).d1
theorem idx_bd : 21600 ≤ idx day ∧ idx day ≤ 28175 := by
  obtain ⟨m1, m2, _, _, _⟩ := date_spec day h0 (by omega)
  have := dY_bd day h0 h1
  unfold idx; omega
end
theorem laterT_idx (day m : Int) : laterT day m = idx day + m := by unfold laterT idx; omega
theorem laterS_eq (day m : Int) : laterS day m = if 1800 ≤ (idx day + m) / 12 ∧ (idx day + m) / 12 ≤ 2347 then (mval (dD day) (idx day + m), decide (mval (dD day) (idx day + m) ≤ 200000)) else (0, false) := by
  unfold laterS; rw [laterT_idx]; rfl
theorem laterS_in {day m : Int} (ha : 21600 ≤ idx day + m) (hb : idx day + m ≤ 28175) : laterS day m = (mval (dD day) (idx day + m), decide (mval (dD day) (idx day + m) ≤ 200000)) := by
  rw [laterS_eq, if_pos (by omega)]
theorem laterS_nonneg {day : Int} (h0 : 0 ≤ day) (h1 : day ≤ 200000) (m : Int) : 0 ≤ (laterS day m).1 := by
  rw [laterS_eq]
  split
  · rename_i hy
    have := mval_lo (t := idx day + m) (dD_pos h0 h1)
    have hf := first_bd ((idx day + m) / 12) ((idx day + m) % 12 + 1) hy.1 (by omega)
    unfold mfirst at this
    simp only; omega
  · exact Int.le_refl _
theorem idx_mono {a b : Int} (h0 : 0 ≤ a) (h : a ≤ b) (h1 : b ≤ 200000) : idx a ≤ idx b := by
  apply Classical.byContradiction
  intro hn
  have := (mfirst_idx h0 (by omega)).1
  have := (mfirst_idx (day := b) (by omega) h1).2
  have := mfirst_mono (t := idx b + 1) (u := idx a) (by omega)
  omega
def Good (a b m : Int) : Prop := (laterS a m).2 = true ∧ (laterS a m).1 ≤ b
instance (a b m : Int) : Decidable (Good a b m) := inferInstanceAs (Decidable (_ ∧ _))
/-- So many whole months from a day to another one. -/
def ageM (a b : Int) : Int := if Good a b (idx b - idx a) then idx b - idx a else idx b - idx a - 1
section
variable {a b : Int} (h0 : 0 ≤ a) (h : a ≤ b) (h1 : b ≤ 200000)
include h0 h h1
theorem good_in {m : Int} (hm : 0 ≤ m) (hi : idx a + m ≤ idx b) (hv : mval (dD a) (idx a + m) ≤ b) : Good a b m := by
  have ha := idx_bd h0 (show a ≤ 200000 by omega)
  have hb := idx_bd (show 0 ≤ b by omega) h1
  unfold Good
  rw [laterS_in (by omega) (by omega)]
  exact ⟨by simp; omega, hv⟩
theorem good_zero : laterS a 0 = (a, true) := by
  have ha := idx_bd h0 (show a ≤ 200000 by omega)
  rw [laterS_in (by omega) (by omega), Int.add_zero, mval_idx h0 (by omega)]
  simp; omega
theorem good_less {m : Int} (hm : 0 ≤ m) (hi : idx a + m < idx b) : Good a b m := by
  refine good_in h0 h h1 hm (by omega) ?_
  have := mval_hi (dD a) (idx a + m)
  have := mfirst_mono (t := idx a + m + 1) (u := idx b) (by omega)
  have := (mfirst_idx (show 0 ≤ b by omega) h1).1
  omega
theorem age_nonneg : 0 ≤ ageM a b := by
  have hi := idx_mono h0 h h1
  unfold ageM
  split
  · omega
  · rename_i hn
    by_cases he : idx b - idx a = 0
    · exfalso; apply hn; rw [he]
      unfold Good; rw [good_zero h0 h h1]; exact ⟨rfl, h⟩
    · omega
theorem age_good : Good a b (ageM a b) := by
  have h2 := age_nonneg h0 h h1
  by_cases hg : Good a b (idx b - idx a)
  · unfold ageM; rw [if_pos hg]; exact hg
  · have e : ageM a b = idx b - idx a - 1 := by unfold ageM; rw [if_neg hg]
    rw [e] at h2 ⊢
    exact good_less h0 h h1 h2 (by omega)
theorem age_next : ¬ Good a b (ageM a b + 1) := by
  have ha := idx_bd h0 (show a ≤ 200000 by omega)
  have hb := idx_bd (show 0 ≤ b by omega) h1
  by_cases hg : Good a b (idx b - idx a)
  · have e : ageM a b = idx b - idx a := by unfold ageM; rw [if_pos hg]
    rw [e]
    rintro ⟨g1, g2⟩
    rw [laterS_eq] at g1 g2
    rw [show idx a + (idx b - idx a + 1) = idx b + 1 by omega] at g1 g2
    by_cases hy : 1800 ≤ (idx b + 1) / 12 ∧ (idx b + 1) / 12 ≤ 2347
    · rw [if_pos hy] at g2
      have := mval_lo (t := idx b + 1) (dD_pos h0 (show a ≤ 200000 by omega))
      have := (mfirst_idx (show 0 ≤ b by omega) h1).2
      simp only at g2; omega
    · rw [if_neg hy] at g1; simp at g1
  · have e : ageM a b = idx b - idx a - 1 := by unfold ageM; rw [if_neg hg]
    rw [e, show idx b - idx a - 1 + 1 = idx b - idx a by omega]; exact hg
theorem age_lt {m : Int} (hm : 0 ≤ m) (hlt : m < ageM a b) : Good a b (m + 1) := by
  have hg := age_good h0 h h1
  have hle : ageM a b ≤ idx b - idx a := by unfold ageM; split <;> omega
  have ha := idx_bd h0 (show a ≤ 200000 by omega)
  have hb := idx_bd (show 0 ≤ b by omega) h1
  refine good_in h0 h h1 (by omega) (by omega) ?_
  obtain ⟨_, g2⟩ := hg
  rw [laterS_in (by omega) (by omega)] at g2
  have := mval_mono (t := idx a + (m + 1)) (u := idx a + ageM a b) (dD_pos h0 (show a ≤ 200000 by omega)) (by omega)
  simp only at g2; omega
theorem age_le : ageM a b ≤ 6600 := by
  have ha := idx_bd h0 (show a ≤ 200000 by omega)
  have hb := idx_bd (show 0 ≤ b by omega) h1
  unfold ageM; split <;> omega
end
end Go.Proofs.YtbegbajlagcbdaaGreatDoor.Cal
namespace Go.Proofs.YtbegbajlagcbdaaGreatDoor.Cal
open Go.Lib
theorem up_ext : ∀ {xs ys : List Int}, xs.Pairwise (· < ·) → ys.Pairwise (· < ·) → (∀ d, d ∈ xs ↔ d ∈ ys) → xs = ys
  | [], [], _, _, _ => rfl
  | [], y :: ys, _, _, h => absurd ((h y).2 (List.mem_cons_self ..)) (by simp)
  | x :: xs, [], _, _, h => absurd ((h x).1 (List.mem_cons_self ..)) (by simp)
  | x :: xs, y :: ys, hx, hy, h => by
    rw [List.pairwise_cons] at hx hy
    have e : x = y := by
      rcases Int.lt_trichotomy x y with hlt | he | hgt
      · exfalso
        rcases List.mem_cons.1 ((h x).1 (List.mem_cons_self ..)) with he | hm
        · omega
        · have := hy.1 x hm; omega
      · exact he
      · exfalso
        rcases List.mem_cons.1 ((h y).2 (List.mem_cons_self ..)) with he | hm
        · omega
        · have := hx.1 y hm; omega
    subst e
    congr 1
    refine up_ext hx.2 hy.2 fun d => ⟨fun hd => ?_, fun hd => ?_⟩
    · rcases List.mem_cons.1 ((h d).1 (List.mem_cons_of_mem _ hd)) with he | hm
      · have := hx.1 d hd; omega
      · exact hm
    · rcases List.mem_cons.1 ((h d).2 (List.mem_cons_of_mem _ hd)) with he | hm
      · have := hy.1 d hd; omega
      · exact hm
theorem compactUpTo_spec (d : Array Int) (hs : ∀ i j, i ≤ j → j < d.size → d[i]! ≤ d[j]!) : ∀ m, m ≤ d.size →
    (compactUpTo d m).Pairwise (· < ·) ∧ ∀ x, x ∈ compactUpTo d m ↔ ∃ j, j < m ∧ d[j]! = x
  | 0, _ => ⟨List.Pairwise.nil, fun x => ⟨fun h => by simp [compactUpTo] at h, fun ⟨j, hj, _⟩ => by omega⟩⟩
  | m + 1, hm => by
    obtain ⟨ih1, ih2⟩ := compactUpTo_spec d hs m (by omega)
    rw [compactUpTo_succ]
    by_cases hk : keeps d m = true
    · rw [if_pos hk]
      refine ⟨?_, fun x => ?_⟩
      · rw [List.pairwise_append]
        refine ⟨ih1, List.pairwise_singleton .., fun a ha b hb => ?_⟩
        obtain ⟨j, hj, rfl⟩ := (ih2 a).1 ha
        simp only [List.mem_singleton] at hb
        subst hb
        have hm0 : m ≠ 0 := by omega
        have hne : d[m]! ≠ d[m - 1]! := by simpa [keeps, hm0] using hk
        have h1 := hs j (m - 1) (by omega) (by omega)
        have h2 := hs (m - 1) m (by omega) (by omega)
        omega
      · rw [List.mem_append, ih2, List.mem_singleton]
        constructor
        · rintro (⟨j, hj, rfl⟩ | rfl)
          · exact ⟨j, by omega, rfl⟩
          · exact ⟨m, by omega, rfl⟩
        · rintro ⟨j, hj, rfl⟩
          by_cases he : j = m
          · right; rw [he]
          · exact .inl ⟨j, by omega, rfl⟩
    · rw [if_neg hk, List.append_nil]
      refine ⟨ih1, fun x => ?_⟩
      rw [ih2]
      constructor
      · rintro ⟨j, hj, rfl⟩; exact ⟨j, by omega, rfl⟩
      · rintro ⟨j, hj, rfl⟩
        by_cases he : j = m
        · subst he
          have hk' : ¬ (j = 0 ∨ d[j]! ≠ d[j - 1]!) := by simpa [keeps] using hk
          refine ⟨j - 1, by omega, ?_⟩
          have : ¬ d[j]! ≠ d[j - 1]! := fun h => hk' (.inr h)
          exact (Classical.not_not.1 this).symm
        · exact ⟨j, by omega, rfl⟩
/-- The numbers of a list, ascending, each once. -/
def ups (zs : List Int) : List Int := compact (zs.mergeSort fun x y => decide (x ≤ y))
theorem sort_up (zs : List Int) : (zs.mergeSort fun x y => decide (x ≤ y)).Pairwise (· ≤ ·) := by
  have := List.pairwise_mergeSort (le := fun x y : Int => decide (x ≤ y)) (fun a b c => by simp; omega) (fun a b => by simp; omega) zs
  exact this.imp fun h => by simpa using h
theorem ups_spec (zs : List Int) : (ups zs).Pairwise (· < ·) ∧ ∀ d, d ∈ ups zs ↔ d ∈ zs := by
  have hp := sort_up zs
  have hsize : (zs.mergeSort fun x y => decide (x ≤ y)).toArray.size = (zs.mergeSort fun x y => decide (x ≤ y)).length := by simp
  obtain ⟨h1, h2⟩ := compactUpTo_spec (zs.mergeSort fun x y => decide (x ≤ y)).toArray (fun i j hij hj => by
    rcases Nat.lt_or_eq_of_le hij with hlt | rfl
    · have := List.pairwise_iff_getElem.1 hp i j (by omega) (by omega) hlt
      rw [getElem!_pos _ i (by omega), getElem!_pos _ j (by omega)]
      simpa using this
    · exact Int.le_refl _) _ (Nat.le_of_eq hsize.symm)
  refine ⟨h1, fun d => ?_⟩
  unfold ups compact
  rw [h2]
  constructor
  · rintro ⟨j, hj, rfl⟩
    rw [getElem!_pos _ j (by omega)]
    have : (zs.mergeSort fun x y => decide (x ≤ y)).toArray[j]'(by omega) ∈ (zs.mergeSort fun x y => decide (x ≤ y)) := by simp
    exact List.mem_mergeSort.1 this
  · intro hd
    obtain ⟨j, hj, he⟩ := List.getElem_of_mem (List.mem_mergeSort.2 hd)
    refine ⟨j, hj, ?_⟩
    rw [getElem!_pos _ j (by simpa using hj)]
    simpa using he
theorem ups_eq {zs ys : List Int} (h : ys.Pairwise (· < ·)) (hm : ∀ d, d ∈ ys ↔ d ∈ zs) : ups zs = ys :=
  up_ext (ups_spec zs).1 h fun d => by rw [(ups_spec zs).2, hm]
theorem ups_nil : ups [] = [] := ups_eq List.Pairwise.nil fun _ => Iff.rfl
theorem ups_length (zs : List Int) : (ups zs).length ≤ zs.length := by
  have h : (zs.mergeSort fun x y => decide (x ≤ y)).length = zs.length := List.length_mergeSort zs
  unfold ups compact compactUpTo
  rw [List.length_map]
  exact Nat.le_trans (List.length_filter_le _ _) (by rw [List.length_range]; omega)
end Go.Proofs.YtbegbajlagcbdaaGreatDoor.Cal
namespace Go.Proofs.YtbegbajlagcbdaaGreatDoor.Cal
/-- Is a day a holiday? -/
def isB (h : Hol) (d : Int) : Bool :=
  if h.kind = 0 then decide (dM d = h.month ∧ dD d = h.day)
  else if h.kind = 1 then decide (d = easter (dY d) + h.day)
  else decide (dM d = h.month ∧ (d + 2) % 7 = h.weekday ∧ (if h.day < 0 then mlen (dY d) (dM d) < dD d + 7 else (dD d - 1) / 7 = h.day - 1))
def anyB (l : List Hol) (d : Int) : Bool := l.any fun h => isB h d
/-- What is known of a holiday that is right. -/
theorem hol_cases {h : Hol} (hh : holErrOf h = 0) :
    (h.kind = 0 ∧ 1 ≤ h.month ∧ h.month ≤ 12 ∧ 1 ≤ h.day ∧ h.day ≤ 31) ∨ (h.kind = 1 ∧ -80 ≤ h.day ∧ h.day ≤ 240) ∨
    (h.kind = 2 ∧ 1 ≤ h.month ∧ h.month ≤ 12 ∧ ((1 ≤ h.day ∧ h.day ≤ 4) ∨ h.day = -1) ∧ 0 ≤ h.weekday ∧ h.weekday ≤ 6) := by
  unfold holErrOf holErr at hh
  have := mlen_bd 1804 h.month
  by_cases h0 : h.kind = 0
  · rw [if_pos h0] at hh
    split at hh
    · left; omega
    · omega
  · rw [if_neg h0] at hh
    by_cases h1 : h.kind = 1
    · rw [if_pos h1] at hh
      split at hh
      · right; left; omega
      · omega
    · rw [if_neg h1] at hh
      by_cases h2 : h.kind = 2
      · rw [if_pos h2] at hh
        split at hh
        · split at hh
          · right; right; omega
          · omega
        · omega
      · rw [if_neg h2] at hh; omega
theorem easter_in (y : Int) : beg y + 80 ≤ easter y ∧ easter y ≤ beg y + 116 + lp y := by
  have hb := eN_bd y
  have hl := lp_ge y
  unfold easter
  have h : eN y / 31 = 3 ∨ eN y / 31 = 4 := by omega
  rcases h with h | h <;> rw [h] <;> simp [first, cum] <;> omega
section
variable {h : Hol} {d : Int} (hh : holErrOf h = 0) (h0 : 0 ≤ d) (h1 : d ≤ 200000)
include hh h0 h1
theorem isB_iff : isB h d = true ↔ onS h (dY d) = some d := by
  have hd := date_spec d h0 (by omega)
  have hy := dY_bd d h0 h1
  rcases hol_cases hh with ⟨hk, m1, m2, d1, d2⟩ | ⟨hk, d1, d2⟩ | ⟨hk, m1, m2, hdd, w1, w2⟩
  · unfold isB onS
    rw [if_pos hk, if_pos hk]
    simp only [decide_eq_true_eq]
    constructor
    · rintro ⟨e1, e2⟩
      have a := hd.d2; have b := hd.day
      rw [e1, e2] at a b
      rw [if_pos a, b]
    · intro e
      split at e
      · rename_i hle
        simp only [Option.some.injEq] at e
        have := (hd.unique ⟨m1, m2, d1, hle, e⟩)
        exact ⟨this.2.1, this.2.2⟩
      · cases e
  · unfold isB onS
    rw [if_neg (by omega), if_pos hk, if_neg (by omega), if_pos hk]
    simp only [decide_eq_true_eq, Option.some.injEq]
    omega
  · unfold isB onS
    have n0 : ¬ h.kind = 0 := by omega
    have n1 : ¬ h.kind = 1 := by omega
    rw [if_neg n0, if_neg n1, if_neg n0, if_neg n1]
    simp only [decide_eq_true_eq]
    have hml := mlen_bd (dY d) h.month
    have e1 := hd.d1; have e2 := hd.d2; have e3 := hd.day
    have huniq : ∀ k, 1 ≤ k → k ≤ mlen (dY d) h.month → first (dY d) h.month + k - 1 = d → dM d = h.month ∧ dD d = k := fun k a b c => by
      have := hd.unique ⟨m1, m2, a, b, c⟩
      exact ⟨this.2.1, this.2.2⟩
    generalize hF : first (dY d) h.month = F at *
    generalize hM : mlen (dY d) h.month = M at *
    rcases hdd with ⟨a1, a2⟩ | a1
    · rw [if_neg (by omega), if_pos (by omega)]
      simp only [Option.some.injEq]
      constructor
      · rintro ⟨b1, b2, b3⟩
        rw [b1, hM] at e2; rw [b1, hF] at e3
        omega
      · intro e
        obtain ⟨b1, b2⟩ := huniq (d - F + 1) (by omega) (by omega) (by omega)
        refine ⟨b1, ?_, ?_⟩
        · omega
        · rw [b2]; omega
    · rw [if_pos (by omega), if_neg (by omega)]
      simp only [Option.some.injEq]
      constructor
      · rintro ⟨b1, b2, b3⟩
        rw [b1, hM] at e2 b3; rw [b1, hF] at e3
        omega
      · intro e
        obtain ⟨b1, b2⟩ := huniq (d - F + 1) (by omega) (by omega) (by omega)
        refine ⟨b1, ?_, ?_⟩
        · omega
        · rw [b1, hM, b2]; omega
end
theorem onS_in {h : Hol} (hh : holErrOf h = 0) {y d : Int} (e : onS h y = some d) : beg y ≤ d ∧ d < beg (y + 1) := by
  have hs := beg_succ y
  have hl := lp_ge y
  rcases hol_cases hh with ⟨hk, m1, m2, d1, d2⟩ | ⟨hk, d1, d2⟩ | ⟨hk, m1, m2, hdd, w1, w2⟩
  · unfold onS at e
    rw [if_pos hk] at e
    split at e
    · simp only [Option.some.injEq] at e
      have := first_lo y h.month
      have := first_hi y h.month m1 m2
      omega
    · cases e
  · unfold onS at e
    rw [if_neg (by omega), if_pos hk] at e
    simp only [Option.some.injEq] at e
    have := easter_in y
    omega
  · unfold onS at e
    rw [if_neg (by omega), if_neg (by omega)] at e
    have := first_lo y h.month
    have := first_hi y h.month m1 m2
    have := mlen_bd y h.month
    rcases hdd with ⟨a1, a2⟩ | a1
    · rw [if_pos (by omega)] at e
      simp only [Option.some.injEq] at e
      omega
    · rw [if_neg (by omega)] at e
      simp only [Option.some.injEq] at e
      omega
def HolsOk (l : List Hol) : Prop := ∀ h ∈ l, holErrOf h = 0
theorem holsErrFrom_ok : ∀ {l seen : List Hol}, holsErrFrom seen l = 0 → HolsOk l
  | [], _, _ => fun h hm => by simp at hm
  | q :: l, seen, he => by
    rw [holsErrFrom_cons] at he
    split at he
    · split at he
      · omega
      · split at he
        · rename_i _ _ hq
          intro h hm
          rcases List.mem_cons.1 hm with rfl | hm
          · exact hq
          · exact holsErrFrom_ok he h hm
        · rename_i hq; exact absurd he hq
    · omega
theorem holsErr_ok {l : List Hol} (h : holsErr l = 0) : HolsOk l ∧ l.length ≤ 40 := by
  unfold holsErr at h
  split at h
  · omega
  · exact ⟨holsErrFrom_ok h, by omega⟩
theorem anyB_iff {l : List Hol} (hl : HolsOk l) {d : Int} (h0 : 0 ≤ d) (h1 : d ≤ 200000) : anyB l d = true ↔ d ∈ hols l (dY d) := by
  unfold anyB hols
  rw [List.any_eq_true, List.mem_filterMap]
  constructor
  · rintro ⟨h, hm, hb⟩; exact ⟨h, hm, (isB_iff (hl h hm) h0 h1).1 hb⟩
  · rintro ⟨h, hm, hb⟩; exact ⟨h, hm, (isB_iff (hl h hm) h0 h1).2 hb⟩
theorem hols_in {l : List Hol} (hl : HolsOk l) {y d : Int} (hd : d ∈ hols l y) : beg y ≤ d ∧ d < beg (y + 1) := by
  unfold hols at hd
  obtain ⟨h, hm, e⟩ := List.mem_filterMap.1 hd
  exact onS_in (hl h hm) e
theorem beg_2347 : beg 2347 = 199787 := by decide
theorem beg_top {y : Int} (h1 : 1800 ≤ y) (h2 : y ≤ 2346) : 0 ≤ beg y ∧ beg (y + 1) ≤ 199787 := by
  have a := beg_mono h1
  have b := beg_mono (a := y + 1) (b := 2347) (by omega)
  rw [beg_1800] at a
  have e : beg 2347 = 199787 := by decide
  rw [e] at b
  exact ⟨a, b⟩
theorem dY_of {y d : Int} (h1 : 1800 ≤ y) (h2 : y ≤ 2346) (a : beg y ≤ d) (b : d < beg (y + 1)) : dY d = y := by
  have ht := beg_top h1 h2
  have hd := date_spec d (by omega) (by omega)
  exact year_unique hd.lo hd.hi a b
/-- Is a day a working day? -/
def workB (l : List Hol) (d : Int) : Bool := decide ((d + 2) % 7 < 5) && !anyB l d
theorem workB_eq {l : List Hol} (hl : HolsOk l) {d : Int} (h0 : 0 ≤ d) (h1 : d ≤ 200000) : worksB l d = workB l d := by
  unfold worksB workB
  have e : (hols l (dY d)).contains d = anyB l d := by
    rw [Bool.eq_iff_iff, anyB_iff hl h0 h1]; simp
  rw [e]
  congr 1
  rw [Bool.eq_iff_iff]; simp; omega
end Go.Proofs.YtbegbajlagcbdaaGreatDoor.Cal
