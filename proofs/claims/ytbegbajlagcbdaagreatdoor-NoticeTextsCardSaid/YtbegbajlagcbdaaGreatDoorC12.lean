/- Chapter 8 and what it rests on: definitions and walks, part 12. -/
import Derived.Test.YtbegbajlagcbdaaGreatDoorC11
import Derived.Test.YtbegbajlagcbdaaGreatDoorC01
import Derived.Test.YtbegbajlagcbdaaGreatDoorC02
import Derived.Test.YtbegbajlagcbdaaGreatDoorC04
import Derived.Test.YtbegbajlagcbdaaGreatDoorC07
namespace Go.Proofs.YtbegbajlagcbdaaGreatDoor
open Go Go.RowKit Go.Maps Go.WideMaps
def Cal.holErrOf (h : Hol) : Int := Cal.holErr h.kind h.month h.day h.weekday
def hasName (seen : List Hol) (nm : ByteArray) : Bool := seen.any fun q => q.name.toList == nm.toList
/-- The error of holidays, behind those that have been seen. -/
def Cal.holsErrFrom (seen : List Hol) : List Hol → Int
  | [] => 0
  | h :: r => if nameB h.name = true then (if hasName seen h.name = true then 5 else if Cal.holErrOf h = 0 then Cal.holsErrFrom (seen ++ [h]) r else Cal.holErrOf h) else 4
theorem Cal.holsErrFrom_cons (seen : List Hol) (h : Hol) (r : List Hol) : Cal.holsErrFrom seen (h :: r) = if nameB h.name = true then (if hasName seen h.name = true then 5 else if Cal.holErrOf h = 0 then Cal.holsErrFrom (seen ++ [h]) r else Cal.holErrOf h) else 4 := rfl
def Cal.holsErr (l : List Hol) : Int := if 40 < l.length then 8 else Cal.holsErrFrom [] l
theorem boolZero (w : World) : (zeroValue 4).run Tryz.prog w = .ok (.bool false) w := by kernel_rfl
def strLit (x : List UInt8) : Lit := .string x
theorem strLit_inj (x y : List UInt8) (h : strLit x = strLit y) : x = y := by unfold strLit at h; cases h; rfl
/-- The set of names holds those that have been seen. -/
def NamesOf (seen : List Hol) (f : List UInt8 → Option Value) : Prop := ∀ nm : ByteArray, (f nm.data.toList).getD (.bool false) = .bool (hasName seen nm)
theorem NamesOf.start : NamesOf [] (fun _ => none) := fun _ => rfl
theorem NamesOf.step {seen : List Hol} {f : List UInt8 → Option Value} (h : NamesOf seen f) (q : Hol) : NamesOf (seen ++ [q]) (setAt f q.name.data.toList (.bool true)) := fun nm => by
  have e : hasName (seen ++ [q]) nm = (hasName seen nm || (q.name.toList == nm.toList)) := by simp [hasName]
  rw [e]
  by_cases hn : nm.data.toList = q.name.data.toList
  · rw [hn, setAt_same]
    have : (q.name.toList == nm.toList) = true := by rw [ByteArray.toList_eq, ByteArray.toList_eq, hn]; simp
    rw [this]; simp
  · rw [setAt_other _ _ hn, h nm]
    have : (q.name.toList == nm.toList) = false := by rw [ByteArray.toList_eq, ByteArray.toList_eq]; simp; exact fun h => hn (by rw [h])
    rw [this]; simp
theorem CheckHolidays_any (A : Option Addr) (c : Nat) (l : List Hol) (w : World) (hl : Hols w A l) (hT : Tab w) :
    Calls Tryz.prog 116 #[.slice A l.length c] w fun e w' => e = .returned (.int .i64 (Cal.holsErr l)) ∧ Below w.heap.size w w' := by
  have hsz := hl.size
  by_cases hbig : 40 < l.length
  · have hfin : Hid (Cal.holsErr l = 8) := by show _ = _; unfold Cal.holsErr; rw [if_pos hbig]
    go_enter Tryz.func116, Tryz.ntmps116
    go_wp2
    go_ret
    exact ⟨ret_int hfin.out.symm, Below.refl _ _⟩
  · have hfin : Hid (Cal.holsErr l = Cal.holsErrFrom (l.take 0) (l.drop 0)) := by show _ = _; unfold Cal.holsErr; rw [if_neg hbig]; rfl
    have hl' := Lib.hid hl
    have hT' := Lib.hid (fun w' (h : Below w.heap.size w w') => hT.below h)
    clear hl hT
    have hmm := @run_makeMap Tryz.prog
    have hst := Lib.hid (MapIs.made Tryz.prog 9 strLit w)
    go_enter Tryz.func116, Tryz.ntmps116
    go_wp2
    clear hmm
    go_loopw [13] (fun i wr => ∃ (k : Nat) (f : List UInt8 → Option Value), k ≤ l.length ∧ i = .int .i64 k ∧ Hid (Cal.holsErr l = Cal.holsErrFrom (l.take k) (l.drop k)) ∧ Hid (MapIs Tryz.prog 9 strLit wr w.heap.size k f) ∧ Hid (NamesOf (l.take k) f) ∧ w.heap.size < wr.heap.size ∧ Below w.heap.size w wr) (fun i _ => l.length - (intOf i).toNat)
    case atStart => exact ⟨0, _, Nat.zero_le _, rfl, hfin, hst.out, NamesOf.start, by simp, below_alloc _ _⟩
    case round =>
      obtain ⟨k, f, hk, rfl, hinv, hmap, hnames, hlt0, hb⟩ := hrel
      clear hfin hst
      by_cases hlt : k < l.length
      · have hk' : l[k]? = some l[k] := List.getElem?_eq_getElem hlt
        have hd := Lib.hid (List.drop_eq_getElem_cons hlt)
        have htk : Hid (l.take (k + 1) = l.take k ++ [l[k]]) := by show _ = _; rw [List.take_succ_eq_append_getElem hlt]
        have hnm := hl'.out.names k _ hk'
        obtain ⟨b, o, rfl, hbl, c0, c1, c2, c3, c4⟩ := (hl'.out.below hb).at_ hk'
        clear hk'
        generalize l[k] = p at *
        have hbs := hb.size
        cases hn : nameB p.name
        · have hfin : Hid (Cal.holsErr l = 4) := by show _ = _; rw [hinv.out, hd.out, Cal.holsErrFrom_cons, hn]; rfl
          go_wp2_with (first | (go_at_call 145; refine (isName_any _ _ hnm).mono ?_; rintro e w' ⟨rfl, rfl⟩))
          go_ret
          exact ⟨ret_int hfin.out.symm, hb.alloc hbs _⟩
        · have hlk := fun o => (hmap.out.alloc o).look (string_keyed Tryz.underlying9) Tryz.underlying116 (boolZero _) (keyOf_string_mk Tryz.underlying9 hnm)
          have hnp := hnames.out p.name
          have hlk2 : ∀ o, (Instr.lookup 116 (.map (some w.heap.size)) (.string p.name) false).run Tryz.prog (wr.alloc o) = .ok (.bool (hasName (l.take k) p.name)) (wr.alloc o) := fun o => by rw [hlk o, hnp]
          clear hlk hnp
          cases hs : hasName (l.take k) p.name
          · rw [hs] at hlk2
            obtain ⟨w2, hrun, hm2, hg2, hsz2⟩ := (hmap.out.alloc (.cells #[.string p.name, .int .i64 p.kind, .int .i64 p.month, .int .i64 p.day, .int .i64 p.weekday] 202)).store strLit_inj (string_keyed Tryz.underlying9) Tryz.underlying116 (by unfold maxLen; omega) (val := .bool true) (keyOf_string_mk Tryz.underlying9 hnm)
            have hm2 := Lib.hid hm2
            have hc2 : ∀ (j : Nat), w2.cell? ⟨wr.heap.size, j, none⟩ = (wr.alloc (.cells #[.string p.name, .int .i64 p.kind, .int .i64 p.month, .int .i64 p.day, .int .i64 p.weekday] 202)).cell? ⟨wr.heap.size, j, none⟩ := fun j => World.cell?_of_block (hg2.block _ (by simp) (by simp; omega))
            have hb2 : Below w.heap.size w w2 := (hb.alloc hbs _).grown hg2 (by simp; omega) (by simp)
            have hlt2 : w.heap.size < w2.heap.size := by rw [hsz2]; simp; omega
            have hg2 := Lib.hid hg2
            have hsz2 := Lib.hid hsz2
            have hT2 := Lib.hid (hT'.out _ hb2)
            by_cases hp0 : Cal.holErrOf p = 0
            · have hp1 : (Cal.holErr p.kind p.month p.day p.weekday != 0) = false := by simpa [Cal.holErrOf] using hp0
              have hnx : Hid (Cal.holsErr l = Cal.holsErrFrom (l.take (k + 1)) (l.drop (k + 1))) := by show _ = _; rw [hinv.out, hd.out, Cal.holsErrFrom_cons, hn, hs, htk.out]; simp [hp0]
              have hnms : Hid (NamesOf (l.take (k + 1)) (setAt f p.name.data.toList (.bool true))) := by show NamesOf _ _; rw [htk.out]; exact hnames.out.step p
              clear hp0
              go_wp2_with (first | (go_at_call 145; refine (isName_any _ _ hnm).mono ?_; rintro e w' ⟨rfl, rfl⟩) | (go_at_call 181; refine (checkHoliday_any _ _ _ _ _ _ hT2.out).mono ?_; rintro e w3 ⟨rfl, hb3⟩; obtain ⟨hc3, hf3⟩ := bcell hb3))
              go_roundw
              case rel => exact ⟨k + 1, _, by omega, by go_num, hnx, hm2.out.below hb3 hlt2, hnms, Nat.lt_of_lt_of_le hlt2 hb3.size, below_step hb2 hb3⟩
              case measure => simp [intOf]; omega
            · have hp1 : (Cal.holErr p.kind p.month p.day p.weekday != 0) = true := by simpa [Cal.holErrOf] using hp0
              have hfin : Hid (Cal.holsErr l = Cal.holErr p.kind p.month p.day p.weekday) := by show _ = _; rw [hinv.out, hd.out, Cal.holsErrFrom_cons, hn, hs]; simp [hp0]; rfl
              clear hp0
              go_wp2_with (first | (go_at_call 145; refine (isName_any _ _ hnm).mono ?_; rintro e w' ⟨rfl, rfl⟩) | (go_at_call 181; refine (checkHoliday_any _ _ _ _ _ _ hT2.out).mono ?_; rintro e w3 ⟨rfl, hb3⟩; obtain ⟨hc3, hf3⟩ := bcell hb3))
              go_ret
              exact ⟨ret_int hfin.out.symm, below_step hb2 hb3⟩
          · rw [hs] at hlk2
            have hfin : Hid (Cal.holsErr l = 5) := by show _ = _; rw [hinv.out, hd.out, Cal.holsErrFrom_cons, hn, hs]; rfl
            go_wp2_with (first | (go_at_call 145; refine (isName_any _ _ hnm).mono ?_; rintro e w' ⟨rfl, rfl⟩))
            go_ret
            exact ⟨ret_int hfin.out.symm, hb.alloc hbs _⟩
      · obtain rfl : k = l.length := by omega
        have hfin : Hid (Cal.holsErr l = 0) := by show _ = _; rw [hinv.out, List.drop_length]; rfl
        clear hinv
        go_wp2
        go_ret
        exact ⟨ret_int hfin.out.symm, hb⟩
end Go.Proofs.YtbegbajlagcbdaaGreatDoor
namespace Go.Proofs.YtbegbajlagcbdaaGreatDoor
open Go Go.RowKit Go.Maps Go.WideMaps

/-- The day of a holiday in a year; none: the year has none. -/
def Cal.onS (h : Hol) (y : Int) : Option Int :=
  if h.kind = 0 then (if h.day ≤ Cal.mlen y h.month then some (Cal.first y h.month + h.day - 1) else none)
  else if h.kind = 1 then some (Cal.easter y + h.day)
  else if 0 < h.day then some (Cal.first y h.month + (h.weekday - (Cal.first y h.month + 2) % 7 + 7) % 7 + 7 * (h.day - 1))
  else some (Cal.first y h.month + Cal.mlen y h.month - 1 - (Cal.first y h.month + Cal.mlen y h.month - 1 - (Cal.first y h.month + (h.weekday - (Cal.first y h.month + 2) % 7 + 7) % 7)) % 7)
def Cal.hols (l : List Hol) (y : Int) : List Int := l.filterMap fun h => Cal.onS h y
def Cal.worksB (l : List Hol) (d : Int) : Bool := decide ((d + 2) % 7 ≤ 4) && !(Cal.hols l (Cal.dY d)).contains d
/-- zs are the holidays of a year, ascending, each once. -/
def HolsAre (zs : List Int) (l : List Hol) (y : Int) : Prop := zs.Pairwise (· < ·) ∧ ∀ d, d ∈ zs ↔ d ∈ Cal.hols l y
/-- A slice of the call's own (its block from B on) that reads as numbers. -/
def SliceOf (W : World) (B : Nat) (v : Value) (zs : List Int) : Prop :=
  ∃ A c, v = .slice A zs.length c ∧ zs.length ≤ 1000000 ∧ (zs ≠ [] → ∃ g cs t, A = some ⟨g, 0, none⟩ ∧ B ≤ g ∧ W.heap[g]? = some (.cells cs t (0, 0)) ∧ ∀ (j : Nat) x, zs[j]? = some x → cs[j]? = some (.int .i64 x))
theorem SliceOf.keep {W W' : World} {B : Nat} {v : Value} {zs : List Int} (h : SliceOf W B v zs) (hk : ∀ (g : Nat) cs t, B ≤ g → W.heap[g]? = some (.cells cs t (0, 0)) → W'.heap[g]? = some (.cells cs t (0, 0))) : SliceOf W' B v zs := by
  obtain ⟨A, c, hv, hz, h⟩ := h
  exact ⟨A, c, hv, hz, fun hne => by obtain ⟨g, cs, t, h1, h2, h3, h4⟩ := h hne; exact ⟨g, cs, t, h1, h2, hk g cs t h2 h3, h4⟩⟩
theorem SliceOf.below {W W' : World} {B : Nat} {v : Value} {zs : List Int} (h : SliceOf W B v zs) (hb : Below W.heap.size W W') : SliceOf W' B v zs :=
  h.keep fun g _ _ _ hg => (hb.block g (Array.getElem?_eq_some_iff.1 hg).1).trans hg
theorem SliceOf.less {W : World} {B B' : Nat} {v : Value} {zs : List Int} (h : SliceOf W B v zs) (hB : B' ≤ B) : SliceOf W B' v zs := by
  obtain ⟨A, c, hv, hz, h⟩ := h
  exact ⟨A, c, hv, hz, fun hne => by obtain ⟨g, cs, t, h1, h2, h3, h4⟩ := h hne; exact ⟨g, cs, t, h1, by omega, h3, h4⟩⟩
theorem SliceOf.cells {W : World} {B : Nat} {v : Value} {zs : List Int} (h : SliceOf W B v zs) (hne : zs ≠ []) : ∃ g c, v = .slice (some ⟨g, 0, none⟩) zs.length c ∧ zs.length ≤ 1000000 ∧ ∀ j, j < zs.length → W.cell? ⟨g, 0 + j, none⟩ = some (.int .i64 (zs.getD j 0)) := by
  obtain ⟨A, c, hv, hz, h⟩ := h
  obtain ⟨g, cs, t, rfl, _, h3, h4⟩ := h hne
  refine ⟨g, c, hv, hz, fun j hj => ?_⟩
  have := h4 j zs[j] (List.getElem?_eq_getElem hj)
  rw [cell_of_row W g (0 + j) cs t (0, 0) h3, Nat.zero_add, this]
  simp [List.getD, hj]
def HolPost (W : World) (l : List Hol) (y : Int) (e : Ending) (W' : World) : Prop := ∃ v zs, e = .returned v ∧ SliceOf W' W.heap.size v zs ∧ HolsAre zs l y ∧ Below W.heap.size W W'
/-- What is asked of holidaysOf at a list. -/
def HolCalls (A : Option Addr) (c : Nat) (l : List Hol) : Prop := ∀ (y : Int) (W : World), 1800 ≤ y → y ≤ 2347 → Hols W A l → Tab W → Calls Tryz.prog 239 #[.slice A l.length c, .int .i64 y] W (HolPost W l y)
def intLit (x : Int) : Lit := .int .i64 x
theorem intLit_inj (x y : Int) (h : intLit x = intLit y) : x = y := by unfold intLit at h; cases h; rfl
def CacheOk (W : World) (B m n : Nat) (l : List Hol) : Prop := ∃ f : Int → Option Value, MapIs Tryz.prog 3 intLit W m n f ∧ ∀ y v, f y = some v → ∃ zs, SliceOf W B v zs ∧ HolsAre zs l y
theorem slZero (w : World) : (zeroValue 32).run Tryz.prog w = .ok (.slice none 0 0) w := by kernel_rfl
theorem CacheOk.keep {W W' : World} {B m n : Nat} {l : List Hol} (h : CacheOk W B m n l) (hm : W'.heap[m]? = W.heap[m]?) (hk : ∀ (g : Nat) cs t, B ≤ g → W.heap[g]? = some (.cells cs t (0, 0)) → W'.heap[g]? = some (.cells cs t (0, 0))) : CacheOk W' B m n l := by
  obtain ⟨f, h1, h2⟩ := h
  exact ⟨f, h1.same hm, fun y v hv => by obtain ⟨zs, a, b⟩ := h2 y v hv; exact ⟨zs, a.keep hk, b⟩⟩
theorem CacheOk.below {W W' : World} {B m n : Nat} {l : List Hol} (h : CacheOk W B m n l) (hb : Below W.heap.size W W') : CacheOk W' B m n l := by
  obtain ⟨f, h1, h2⟩ := h
  exact ⟨f, h1.below hb h1.lt, fun y v hv => by obtain ⟨zs, a, b⟩ := h2 y v hv; exact ⟨zs, a.below hb, b⟩⟩
theorem CacheOk.mono {W : World} {B m n n' : Nat} {l : List Hol} (h : CacheOk W B m n l) (hn : n ≤ n') : CacheOk W B m n' l := by
  obtain ⟨f, h1, h2⟩ := h; exact ⟨f, h1.mono hn, h2⟩
/-- The calendar in memory. -/
structure Calend (W : World) (cb m : Nat) (A : Option Addr) (c : Nat) (l : List Hol) : Prop where
  c0 : W.cell? ⟨cb, 0, none⟩ = some (.slice A l.length c)
  c1 : W.cell? ⟨cb, 1, none⟩ = some (.map (some m))
  lt : cb < W.heap.size
  hols : Hols W A l
  tab : Tab W
theorem field_date0 (x y z : Int) (w : World) : (Instr.field 156 (.agg #[.int .i64 x, .int .i64 y, .int .i64 z]) 0).run Tryz.prog w = .ok (.int .i64 x) w := by kernel_rfl
def WorksPost (W : World) (B m n : Nat) (l : List Hol) (d : Int) (e : Ending) (W' : World) : Prop := e = .returned (.bool (Cal.worksB l d)) ∧ W.grownBy W' (some m) ∧ CacheOk W' B m (n + 1) l
theorem HolsAre.contains {zs : List Int} {l : List Hol} {y : Int} (h : HolsAre zs l y) (d : Int) : zs.contains d = (Cal.hols l y).contains d := by
  rw [Bool.eq_iff_iff]; simp only [List.contains_iff_mem]; exact h.2 d
theorem HolsAre.sorted {zs : List Int} {l : List Hol} {y : Int} (h : HolsAre zs l y) : zs.Pairwise (· ≤ ·) := h.1.imp fun h => by omega
theorem grownBy_below {W W' : World} {row : Option Nat} (h : Below W.heap.size W W') : W.grownBy W' row := ⟨h.os, h.tape, h.output, h.size, fun i hi _ => h.block i hi⟩
theorem grownBy_drewN {W W' : World} {row : Option Nat} (h : W.grownBy W' row) (n : Nat) : W.grownBy (W'.drewN n) row := ⟨h.os, h.tape, h.output, h.size, h.block⟩
theorem grownBy_trans {a b c : World} {row : Option Nat} (h : a.grownBy b row) (k : b.grownBy c row) : a.grownBy c row :=
  ⟨k.os.trans h.os, k.tape.trans h.tape, k.output.trans h.output, Nat.le_trans h.size k.size, fun i hi hne => (k.block i (Nat.lt_of_lt_of_le hi h.size) hne).trans (h.block i hi hne)⟩
/-- BinarySearch of a day in a list of holidays. -/
theorem search_any (W : World) (B : Nat) (v : Value) (zs : List Int) (l : List Hol) (y d : Int) (h : SliceOf W B v zs) (hz : HolsAre zs l y) :
    Calls Tryz.prog 240 #[v, .int .i64 d] W fun e W' => ∃ k : Int, e = .returned (.tuple #[.int .i64 k, .bool ((Cal.hols l y).contains d)]) ∧ ∃ q, W' = W.drewN q := by
  rw [← hz.contains d]
  by_cases hne : zs = []
  · subst hne
    obtain ⟨A, c, rfl, _, _⟩ := h
    exact (Tryz.slices_BinarySearch_int_empty A c d W).mono fun e W' ⟨he, hw⟩ => ⟨0, by rw [he]; rfl, 0, hw⟩
  · obtain ⟨g, c, rfl, hsz, hc⟩ := h.cells hne
    have hs := hz.sorted
    refine (Tryz.slices_BinarySearch_int g 0 zs.length c zs d W (Nat.le_refl _) (by omega) hc (by rw [List.take_length]; exact hs)).mono fun e W' hq => ?_
    obtain ⟨he, q, hw⟩ := hq
    rw [List.take_length] at he
    exact ⟨_, he, q, hw⟩

set_option maxRecDepth 100000 in
set_option maxHeartbeats 1000000 in
theorem works_any (cb m : Nat) (A : Option Addr) (c : Nat) (l : List Hol) (hHol : HolCalls A c l) (day : Int) (y0 : 0 ≤ day) (y1 : day ≤ 200000) (B n : Nat) (W : World) (hcal : Calend W cb m A c l) (hca : CacheOk W B m n l) (hn : n ≤ 1000000) (hB : B ≤ W.heap.size) :
    Calls Tryz.prog 199 #[.pointer (some ⟨cb, 0, none⟩), .int .i64 day] W (WorksPost W B m n l day) := by
  by_cases hwd : (day + 2) % 7 ≤ 4
  · obtain ⟨dy0, dy1⟩ := Cal.dY_bd day y0 y1
    have hwd' := Lib.hid hwd
    have hT := Lib.hid hcal.tab
    have hlt := hcal.lt
    have hc0 := hcal.c0
    have hc1 := hcal.c1
    have hmlt : m < W.heap.size := by obtain ⟨f, h, _⟩ := hca; exact h.lt
    have hfin : ∀ b : Bool, (Cal.hols l (Cal.dY day)).contains day = b → Cal.worksB l day = !b := fun b h => by unfold Cal.worksB; rw [h]; simp [hwd]
    have hfin := Lib.hid hfin
    have hHol := Lib.hid hHol
    have hfld := fun w => field_date0 (Cal.dY day) (Cal.dM day) (Cal.dD day) w
    have hcal' := Lib.hid hcal
    clear hcal
    obtain ⟨f, hmap, hf⟩ := hca
    cases hv : f (Cal.dY day) with
    | some v =>
      obtain ⟨zs, hsl, hzs⟩ := hf _ _ hv
      have hlook := fun (w1 : World) (h1 : Below W.heap.size W w1) => (hmap.below h1 hmlt).look_ok (int_keyed Tryz.underlying3) Tryz.underlying270 (slZero _) (key := .int .i64 (Cal.dY day)) (kl := Cal.dY day) (keyOf_int_mk Tryz.underlying3 (WalkArith.wf_i64 (by omega)))
      rw [hv] at hlook
      have hlook := Lib.hid hlook
      have hall := Lib.hid (And.intro hmap (And.intro hf (And.intro hsl hzs)))
      clear hmap hf hsl hzs hv
      go_enter Tryz.func199, Tryz.ntmps199
      go_wp2_with (first | (go_at_call 237; refine (weekday_any _ (by omega) (by omega) _).mono ?_; rintro e w' ⟨rfl, rfl⟩) | (go_at_call 238; refine (dateOf_any day y0 y1 _ hT.out).mono ?_; rintro e w1 ⟨rfl, hb1⟩; obtain ⟨hc1', hf1'⟩ := bcell hb1; have hlk := hlook.out w1 hb1))
      obtain ⟨hmap, hf, hsl, hzs⟩ := hall.out
      refine (search_any w1 B v zs l (Cal.dY day) day (hsl.below hb1) hzs).mono ?_
      have hca' := Lib.hid (show CacheOk w1 B m (n + 1) l from (CacheOk.below ⟨f, hmap, hf⟩ hb1).mono (by omega))
      clear hmap hf hsl hzs
      rintro e w2 ⟨k, rfl, q, rfl⟩
      go_wp2
      go_ret
      exact ⟨ret_bool (by rw [hfin.out _ rfl]; simp), grownBy_drewN (grownBy_below hb1) _, hca'.out.keep rfl (fun _ _ _ _ h => h)⟩
    | none =>
      have hlook := fun (w1 : World) (h1 : Below W.heap.size W w1) => (hmap.below h1 hmlt).look_ok (int_keyed Tryz.underlying3) Tryz.underlying270 (slZero _) (key := .int .i64 (Cal.dY day)) (kl := Cal.dY day) (keyOf_int_mk Tryz.underlying3 (WalkArith.wf_i64 (by omega)))
      rw [hv] at hlook
      have hlook := Lib.hid hlook
      have hca' := Lib.hid (show CacheOk W B m n l from ⟨f, hmap, hf⟩)
      have hm' := Lib.hid hmap
      have hf' := Lib.hid hf
      clear hmap hf hv
      go_enter Tryz.func199, Tryz.ntmps199
      go_wp2_with (first | (go_at_call 237; refine (weekday_any _ (by omega) (by omega) _).mono ?_; rintro e w' ⟨rfl, rfl⟩) | (go_at_call 238; refine (dateOf_any day y0 y1 _ hT.out).mono ?_; rintro e w1 ⟨rfl, hb1⟩; obtain ⟨hc1', hf1'⟩ := bcell hb1; have hlk := hlook.out w1 hb1))
      refine (hHol.out (Cal.dY day) w1 dy0 dy1 (hcal'.out.hols.below hb1) (hT.out.below hb1)).mono ?_
      rintro e w2 ⟨v, zs, rfl, hsl, hzs, hb2⟩
      have hb12 := below_step hb1 hb2
      have hs1 := hb1.size
      have hs2 := hb2.size
      obtain ⟨w3, hrun, hm3, hg3, hsz3⟩ := (hm'.out.below hb12 hmlt).store intLit_inj (int_keyed Tryz.underlying3) Tryz.underlying270 (by unfold maxLen; omega) (val := v) (key := .int .i64 (Cal.dY day)) (kl := Cal.dY day) (keyOf_int_mk Tryz.underlying3 (WalkArith.wf_i64 (by omega)))
      have hd1 : w2.cell? ⟨cb, 0, none⟩ = some (.slice A l.length c) := (hb12.cell (p := ⟨cb, 0, none⟩) hlt).trans hc0
      have hd2 : w2.cell? ⟨cb, 1, none⟩ = some (.map (some m)) := (hb12.cell (p := ⟨cb, 1, none⟩) hlt).trans hc1
      have hmapAt := (hm'.out.below hb12 hmlt).isMap
      have hkeep : ∀ (g : Nat) cs t, w2.heap[g]? = some (.cells cs t (0, 0)) → w3.heap[g]? = some (.cells cs t (0, 0)) := fun g cs t hg =>
        (hg3.block g (Array.getElem?_eq_some_iff.1 hg).1 (fun e => by cases e; obtain ⟨es, cl, hes⟩ := hmapAt; rw [hg] at hes; cases hes)).trans hg
      have hsl3 : SliceOf w3 B v zs := (hsl.less (by omega)).keep fun g cs t _ hg => hkeep g cs t hg
      have hca3 : CacheOk w3 B m (n + 1) l := by
        refine ⟨_, hm3, fun y u hy => ?_⟩
        by_cases he : y = Cal.dY day
        · subst he; rw [setAt_same] at hy; cases hy; exact ⟨zs, hsl3, hzs⟩
        · rw [setAt_other _ _ he] at hy
          obtain ⟨zs', a, b⟩ := hf'.out y u hy
          exact ⟨zs', (a.below hb12).keep fun g cs t _ hg => hkeep g cs t hg, b⟩
      have hg03 : W.grownBy w3 (some m) := grownBy_trans (grownBy_below hb12) hg3
      have hall := Lib.hid (And.intro hsl3 (And.intro hca3 (And.intro hg03 hzs)))
      clear hmapAt hkeep hsl3 hca3 hg03 hsl hzs hm3 hg3 hsz3 hlk hc1' hf1'
      go_wp2_with fail
      obtain ⟨hsl3, hca3, hg03, hzs⟩ := hall.out
      refine (search_any w3 B v zs l (Cal.dY day) day hsl3 hzs).mono ?_
      clear hsl3 hca3 hg03 hzs
      rintro e w4 ⟨k, rfl, q, rfl⟩
      go_wp2
      go_ret
      exact ⟨ret_bool (by rw [hfin.out _ rfl]; simp), grownBy_drewN hall.out.2.2.1 _, hall.out.2.1.keep rfl (fun _ _ _ _ h => h)⟩
  · have hfin : Hid (Cal.worksB l day = false) := by show _ = _; unfold Cal.worksB; simp [hwd]
    go_enter Tryz.func199, Tryz.ntmps199
    go_wp2_with (first | (go_at_call 237; refine (weekday_any _ (by omega) (by omega) _).mono ?_; rintro e w' ⟨rfl, rfl⟩))
    go_ret
    exact ⟨ret_bool hfin.out.symm, World.grownBy.refl _ _, hca.mono (by omega)⟩
end Go.Proofs.YtbegbajlagcbdaaGreatDoor
namespace Go.Proofs.YtbegbajlagcbdaaGreatDoor.Cal
def idx (day : Int) : Int := 12 * dY day + dM day - 1
def mfirst (t : Int) : Int := first (t / 12) (t % 12 + 1)
def mval (d t : Int) : Int := mfirst t + min d (mlen (t / 12) (t % 12 + 1)) - 1
theorem mfirst_succ (t : Int) : mfirst (t + 1) = mfirst t + mlen (t / 12) (t % 12 + 1) := by
  unfold mfirst
  by_cases h : t % 12 = 11
  · have e1 : (t + 1) / 12 = t / 12 + 1 := by omega
    have e2 : (t + 1) % 12 + 1 = 1 := by omega
    have e3 : t % 12 + 1 = 12 := by omega
    rw [e1, e2, e3, first_1, ← first_13]
    exact first_succ (t / 12) 12 (by omega) (by omega)
  · have e1 : (t + 1) / 12 = t / 12 := by omega
    have e2 : (t + 1) % 12 + 1 = t % 12 + 1 + 1 := by omega
    rw [e1, e2]
    exact first_succ (t / 12) (t % 12 + 1) (by omega) (by omega)
theorem mfirst_add (t : Int) (n : Nat) : mfirst t ≤ mfirst (t + n) := by
  induction n with
  | zero => simp
  | succ n ih =>
    have h := mfirst_succ (t + n)
    have := mlen_bd ((t + n) / 12) ((t + n) % 12 + 1)
    rw [show t + ((n + 1 : Nat) : Int) = t + n + 1 by omega]
    omega
theorem mfirst_mono {t u : Int} (h : t ≤ u) : mfirst t ≤ mfirst u := by
  have := mfirst_add t (u - t).toNat
  rwa [show t + ((u - t).toNat : Int) = u by omega] at this
theorem mval_lo {d t : Int} (h : 1 ≤ d) : mfirst t ≤ mval d t := by
  have := mlen_bd (t / 12) (t % 12 + 1)
  unfold mval; omega
theorem mval_hi (d t : Int) : mval d t < mfirst (t + 1) := by
  rw [mfirst_succ]; unfold mval; omega
theorem mval_mono {d t u : Int} (hd : 1 ≤ d) (h : t ≤ u) : mval d t ≤ mval d u := by
  rcases Int.lt_or_eq_of_le h with h | rfl
  · have := mval_hi d t
    have := mfirst_mono (t := t + 1) (u := u) (by omega)
    have := mval_lo (d := d) (t := u) hd
    omega
  · exact Int.le_refl _
section
variable {day : Int} (h0 : 0 ≤ day) (h1 : day ≤ 200000)
include h0 h1
theorem idx_div : idx day / 12 = dY day ∧ idx day % 12 + 1 = dM day := by
  obtain ⟨m1, m2, _, _, _⟩ := date_spec day h0 (by omega)
  unfold idx; omega
theorem mfirst_idx : mfirst (idx day) ≤ day ∧ day < mfirst (idx day + 1) := by
  obtain ⟨m1, m2, d1, d2, hd⟩ := date_spec day h0 (by omega)
  obtain ⟨e1, e2⟩ := idx_div h0 h1
  rw [mfirst_succ]; unfold mfirst; rw [e1, e2]; omega
theorem mval_idx : mval (dD day) (idx day) = day := by
  obtain ⟨m1, m2, d1, d2, hd⟩ := date_spec day h0 (by omega)
  obtain ⟨e1, e2⟩ := idx_div h0 h1
  unfold mval mfirst; rw [e1, e2]; omega
theorem dD_pos : 1 ≤ dD day := (date_spec day h0 (by omega)).d1
theorem idx_bd : 21600 ≤ idx day ∧ idx day ≤ 28175 := by
  obtain ⟨m1, m2, _, _, _⟩ := date_spec day h0 (by omega)
  have := dY_bd day h0 h1
  unfold idx; omega
end
theorem laterT_idx (day m : Int) : laterT day m = idx day + m := by unfold laterT idx; omega
theorem laterS_eq (day m : Int) : laterS day m = if 1800 ≤ (idx day + m) / 12 ∧ (idx day + m) / 12 ≤ 2347 then (mval (dD day) (idx day + m), decide (mval (dD day) (idx day + m) ≤ 200000)) else (0, false) := by
  unfold laterS; rw [laterT_idx]; rfl
theorem laterS_in {day m : Int} (ha : 21600 ≤ idx day + m) (hb : idx day + m ≤ 28175) : laterS day m = (mval (dD day) (idx day + m), decide (mval (dD day) (idx day + m) ≤ 200000)) := by
  rw [laterS_eq, if_pos (by omega)]
theorem laterS_nonneg {day : Int} (h0 : 0 ≤ day) (h1 : day ≤ 200000) (m : Int) : 0 ≤ (laterS day m).1 := by
  rw [laterS_eq]
  split
  · rename_i hy
    have := mval_lo (t := idx day + m) (dD_pos h0 h1)
    have hf := first_bd ((idx day + m) / 12) ((idx day + m) % 12 + 1) hy.1 (by omega)
    unfold mfirst at this
    simp only; omega
  · exact Int.le_refl _
theorem idx_mono {a b : Int} (h0 : 0 ≤ a) (h : a ≤ b) (h1 : b ≤ 200000) : idx a ≤ idx b := by
  apply Classical.byContradiction
  intro hn
  have := (mfirst_idx h0 (by omega)).1
  have := (mfirst_idx (day := b) (by omega) h1).2
  have := mfirst_mono (t := idx b + 1) (u := idx a) (by omega)
  omega
def Good (a b m : Int) : Prop := (laterS a m).2 = true ∧ (laterS a m).1 ≤ b
instance (a b m : Int) : Decidable (Good a b m) := inferInstanceAs (Decidable (_ ∧ _))
/-- So many whole months from a day to another one. -/
def ageM (a b : Int) : Int := if Good a b (idx b - idx a) then idx b - idx a else idx b - idx a - 1
section
variable {a b : Int} (h0 : 0 ≤ a) (h : a ≤ b) (h1 : b ≤ 200000)
include h0 h h1
theorem good_in {m : Int} (hm : 0 ≤ m) (hi : idx a + m ≤ idx b) (hv : mval (dD a) (idx a + m) ≤ b) : Good a b m := by
  have ha := idx_bd h0 (show a ≤ 200000 by omega)
  have hb := idx_bd (show 0 ≤ b by omega) h1
  unfold Good
  rw [laterS_in (by omega) (by omega)]
  exact ⟨by simp; omega, hv⟩
theorem good_zero : laterS a 0 = (a, true) := by
  have ha := idx_bd h0 (show a ≤ 200000 by omega)
  rw [laterS_in (by omega) (by omega), Int.add_zero, mval_idx h0 (by omega)]
  simp; omega
theorem good_less {m : Int} (hm : 0 ≤ m) (hi : idx a + m < idx b) : Good a b m := by
  refine good_in h0 h h1 hm (by omega) ?_
  have := mval_hi (dD a) (idx a + m)
  have := mfirst_mono (t := idx a + m + 1) (u := idx b) (by omega)
  have := (mfirst_idx (show 0 ≤ b by omega) h1).1
  omega
theorem age_nonneg : 0 ≤ ageM a b := by
  have hi := idx_mono h0 h h1
  unfold ageM
  split
  · omega
  · rename_i hn
    by_cases he : idx b - idx a = 0
    · exfalso; apply hn; rw [he]
      unfold Good; rw [good_zero h0 h h1]; exact ⟨rfl, h⟩
    · omega
theorem age_good : Good a b (ageM a b) := by
  have h2 := age_nonneg h0 h h1
  by_cases hg : Good a b (idx b - idx a)
  · unfold ageM; rw [if_pos hg]; exact hg
  · have e : ageM a b = idx b - idx a - 1 := by unfold ageM; rw [if_neg hg]
    rw [e] at h2 ⊢
    exact good_less h0 h h1 h2 (by omega)
theorem age_next : ¬ Good a b (ageM a b + 1) := by
  have ha := idx_bd h0 (show a ≤ 200000 by omega)
  have hb := idx_bd (show 0 ≤ b by omega) h1
  by_cases hg : Good a b (idx b - idx a)
  · have e : ageM a b = idx b - idx a := by unfold ageM; rw [if_pos hg]
    rw [e]
    rintro ⟨g1, g2⟩
    rw [laterS_eq] at g1 g2
    rw [show idx a + (idx b - idx a + 1) = idx b + 1 by omega] at g1 g2
    by_cases hy : 1800 ≤ (idx b + 1) / 12 ∧ (idx b + 1) / 12 ≤ 2347
    · rw [if_pos hy] at g2
      have := mval_lo (t := idx b + 1) (dD_pos h0 (show a ≤ 200000 by omega))
      have := (mfirst_idx (show 0 ≤ b by omega) h1).2
      simp only at g2; omega
    · rw [if_neg hy] at g1; simp at g1
  · have e : ageM a b = idx b - idx a - 1 := by unfold ageM; rw [if_neg hg]
    rw [e, show idx b - idx a - 1 + 1 = idx b - idx a by omega]; exact hg
theorem age_lt {m : Int} (hm : 0 ≤ m) (hlt : m < ageM a b) : Good a b (m + 1) := by
  have hg := age_good h0 h h1
  have hle : ageM a b ≤ idx b - idx a := by unfold ageM; split <;> omega
  have ha := idx_bd h0 (show a ≤ 200000 by omega)
  have hb := idx_bd (show 0 ≤ b by omega) h1
  refine good_in h0 h h1 (by omega) (by omega) ?_
  obtain ⟨_, g2⟩ := hg
  rw [laterS_in (by omega) (by omega)] at g2
  have := mval_mono (t := idx a + (m + 1)) (u := idx a + ageM a b) (dD_pos h0 (show a ≤ 200000 by omega)) (by omega)
  simp only at g2; omega
theorem age_le : ageM a b ≤ 6600 := by
  have ha := idx_bd h0 (show a ≤ 200000 by omega)
  have hb := idx_bd (show 0 ≤ b by omega) h1
  unfold ageM; split <;> omega
end
end Go.Proofs.YtbegbajlagcbdaaGreatDoor.Cal
namespace Go.Proofs.YtbegbajlagcbdaaGreatDoor.Cal
/-- Is a day a holiday? -/
def isB (h : Hol) (d : Int) : Bool :=
  if h.kind = 0 then decide (dM d = h.month ∧ dD d = h.day)
  else if h.kind = 1 then decide (d = easter (dY d) + h.day)
  else decide (dM d = h.month ∧ (d + 2) % 7 = h.weekday ∧ (if h.day < 0 then mlen (dY d) (dM d) < dD d + 7 else (dD d - 1) / 7 = h.day - 1))
def anyB (l : List Hol) (d : Int) : Bool := l.any fun h => isB h d
/-- What is known of a holiday that is right. -/
theorem hol_cases {h : Hol} (hh : holErrOf h = 0) :
    (h.kind = 0 ∧ 1 ≤ h.month ∧ h.month ≤ 12 ∧ 1 ≤ h.day ∧ h.day ≤ 31) ∨ (h.kind = 1 ∧ -80 ≤ h.day ∧ h.day ≤ 240) ∨
    (h.kind = 2 ∧ 1 ≤ h.month ∧ h.month ≤ 12 ∧ ((1 ≤ h.day ∧ h.day ≤ 4) ∨ h.day = -1) ∧ 0 ≤ h.weekday ∧ h.weekday ≤ 6) := by
  unfold holErrOf holErr at hh
  have := mlen_bd 1804 h.month
  by_cases h0 : h.kind = 0
  · rw [if_pos h0] at hh
    split at hh
    · left; omega
    · omega
  · rw [if_neg h0] at hh
    by_cases h1 : h.kind = 1
    · rw [if_pos h1] at hh
      split at hh
      · right; left; omega
      · omega
    · rw [if_neg h1] at hh
      by_cases h2 : h.kind = 2
      · rw [if_pos h2] at hh
        split at hh
        · split at hh
          · right; right; omega
          · omega
        · omega
      · rw [if_neg h2] at hh; omega
theorem easter_in (y : Int) : beg y + 80 ≤ easter y ∧ easter y ≤ beg y + 116 + lp y := by
  have hb := eN_bd y
  have hl := lp_ge y
  unfold easter
  have h : eN y / 31 = 3 ∨ eN y / 31 = 4 := by omega
  rcases h with h | h <;> rw [h] <;> simp [first, cum] <;> omega
section
variable {h : Hol} {d : Int} (hh : holErrOf h = 0) (h0 : 0 ≤ d) (h1 : d ≤ 200000)
include hh h0 h1
theorem isB_iff : isB h d = true ↔ onS h (dY d) = some d := by
  have hd := date_spec d h0 (by omega)
  have hy := dY_bd d h0 h1
  rcases hol_cases hh with ⟨hk, m1, m2, d1, d2⟩ | ⟨hk, d1, d2⟩ | ⟨hk, m1, m2, hdd, w1, w2⟩
  · unfold isB onS
    rw [if_pos hk, if_pos hk]
    simp only [decide_eq_true_eq]
    constructor
    · rintro ⟨e1, e2⟩
      have a := hd.d2; have b := hd.day
      rw [e1, e2] at a b
      rw [if_pos a, b]
    · intro e
      split at e
      · rename_i hle
        simp only [Option.some.injEq] at e
        have := (hd.unique ⟨m1, m2, d1, hle, e⟩)
        exact ⟨this.2.1, this.2.2⟩
      · cases e
  · unfold isB onS
    rw [if_neg (by omega), if_pos hk, if_neg (by omega), if_pos hk]
    simp only [decide_eq_true_eq, Option.some.injEq]
    omega
  · unfold isB onS
    have n0 : ¬ h.kind = 0 := by omega
    have n1 : ¬ h.kind = 1 := by omega
    rw [if_neg n0, if_neg n1, if_neg n0, if_neg n1]
    simp only [decide_eq_true_eq]
    have hml := mlen_bd (dY d) h.month
    have e1 := hd.d1; have e2 := hd.d2; have e3 := hd.day
    have huniq : ∀ k, 1 ≤ k → k ≤ mlen (dY d) h.month → first (dY d) h.month + k - 1 = d → dM d = h.month ∧ dD d = k := fun k a b c => by
      have := hd.unique ⟨m1, m2, a, b, c⟩
      exact ⟨this.2.1, this.2.2⟩
    generalize hF : first (dY d) h.month = F at *
    generalize hM : mlen (dY d) h.month = M at *
    rcases hdd with ⟨a1, a2⟩ | a1
    · rw [if_neg (by omega), if_pos (by omega)]
      simp only [Option.some.injEq]
      constructor
      · rintro ⟨b1, b2, b3⟩
        rw [b1, hM] at e2; rw [b1, hF] at e3
        omega
      · intro e
        obtain ⟨b1, b2⟩ := huniq (d - F + 1) (by omega) (by omega) (by omega)
        refine ⟨b1, ?_, ?_⟩
        · omega
        · rw [b2]; omega
    · rw [if_pos (by omega), if_neg (by omega)]
      simp only [Option.some.injEq]
      constructor
      · rintro ⟨b1, b2, b3⟩
        rw [b1, hM] at e2 b3; rw [b1, hF] at e3
        omega
      · intro e
        obtain ⟨b1, b2⟩ := huniq (d - F + 1) (by omega) (by omega) (by omega)
        refine ⟨b1, ?_, ?_⟩
        · omega
        · rw [b1, hM, b2]; omega
end
theorem onS_in {h : Hol} (hh : holErrOf h = 0) {y d : Int} (e : onS h y = some d) : beg y ≤ d ∧ d < beg (y + 1) := by
  have hs := beg_succ y
  have hl := lp_ge y
  rcases hol_cases hh with ⟨hk, m1, m2, d1, d2⟩ | ⟨hk, d1, d2⟩ | ⟨hk, m1, m2, hdd, w1, w2⟩
  · unfold onS at e
    rw [if_pos hk] at e
    split at e
    · simp only [Option.some.injEq] at e
      have := first_lo y h.month
      have := first_hi y h.month m1 m2
      omega
    · cases e
  · unfold onS at e
    rw [if_neg (by omega), if_pos hk] at e
    simp only [Option.some.injEq] at e
    have := easter_in y
    omega
  · unfold onS at e
    rw [if_neg (by omega), if_neg (by omega)] at e
    have := first_lo y h.month
    have := first_hi y h.month m1 m2
    have := mlen_bd y h.month
    rcases hdd with ⟨a1, a2⟩ | a1
    · rw [if_pos (by omega)] at e
      simp only [Option.some.injEq] at e
      omega
    · rw [if_neg (by omega)] at e
      simp only [Option.some.injEq] at e
      omega
def HolsOk (l : List Hol) : Prop := ∀ h ∈ l, holErrOf h = 0
theorem holsErrFrom_ok : ∀ {l seen : List Hol}, holsErrFrom seen l = 0 → HolsOk l
  | [], _, _ => fun h hm => by simp at hm
  | q :: l, seen, he => by
    rw [holsErrFrom_cons] at he
    split at he
    · split at he
      · omega
      · split at he
        · rename_i _ _ hq
          intro h hm
          rcases List.mem_cons.1 hm with rfl | hm
          · exact hq
          · exact holsErrFrom_ok he h hm
        · rename_i hq; exact absurd he hq
    · omega
theorem holsErr_ok {l : List Hol} (h : holsErr l = 0) : HolsOk l ∧ l.length ≤ 40 := by
  unfold holsErr at h
  split at h
  · omega
  · exact ⟨holsErrFrom_ok h, by omega⟩
theorem anyB_iff {l : List Hol} (hl : HolsOk l) {d : Int} (h0 : 0 ≤ d) (h1 : d ≤ 200000) : anyB l d = true ↔ d ∈ hols l (dY d) := by
  unfold anyB hols
  rw [List.any_eq_true, List.mem_filterMap]
  constructor
  · rintro ⟨h, hm, hb⟩; exact ⟨h, hm, (isB_iff (hl h hm) h0 h1).1 hb⟩
  · rintro ⟨h, hm, hb⟩; exact ⟨h, hm, (isB_iff (hl h hm) h0 h1).2 hb⟩
theorem hols_in {l : List Hol} (hl : HolsOk l) {y d : Int} (hd : d ∈ hols l y) : beg y ≤ d ∧ d < beg (y + 1) := by
  unfold hols at hd
  obtain ⟨h, hm, e⟩ := List.mem_filterMap.1 hd
  exact onS_in (hl h hm) e
theorem beg_2347 : beg 2347 = 199787 := by decide
theorem beg_top {y : Int} (h1 : 1800 ≤ y) (h2 : y ≤ 2346) : 0 ≤ beg y ∧ beg (y + 1) ≤ 199787 := by
  have a := beg_mono h1
  have b := beg_mono (a := y + 1) (b := 2347) (by omega)
  rw [beg_1800] at a
  have e : beg 2347 = 199787 := by decide
  rw [e] at b
  exact ⟨a, b⟩
theorem dY_of {y d : Int} (h1 : 1800 ≤ y) (h2 : y ≤ 2346) (a : beg y ≤ d) (b : d < beg (y + 1)) : dY d = y := by
  have ht := beg_top h1 h2
  have hd := date_spec d (by omega) (by omega)
  exact year_unique hd.lo hd.hi a b
/-- Is a day a working day? -/
def workB (l : List Hol) (d : Int) : Bool := decide ((d + 2) % 7 < 5) && !anyB l d
theorem workB_eq {l : List Hol} (hl : HolsOk l) {d : Int} (h0 : 0 ≤ d) (h1 : d ≤ 200000) : worksB l d = workB l d := by
  unfold worksB workB
  have e : (hols l (dY d)).contains d = anyB l d := by
    rw [Bool.eq_iff_iff, anyB_iff hl h0 h1]; simp
  rw [e]
  congr 1
  rw [Bool.eq_iff_iff]; simp; omega
end Go.Proofs.YtbegbajlagcbdaaGreatDoor.Cal
