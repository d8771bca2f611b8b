/- Chapter 8 and what it rests on: definitions and walks, part 11. -/
import Derived.Test.YtbinoelbjlgjkaaGreatDoorC10
import Derived.Test.YtbinoelbjlgjkaaGreatDoorC04
import Derived.Test.YtbinoelbjlgjkaaGreatDoorC06
import Derived.RangeFuncNested
import Derived.RangeFuncBound
import Derived.RangeFuncCalls
import Derived.RangeFuncLeaves
import Derived.Shelf.Abstract
import Derived.Shelf.RegionOpen
import Derived.OwnWalkIn
import Derived.TacticsInMore
import Derived.LoopNIn
import Derived.LoopIn
namespace Go.Proofs.YtbinoelbjlgjkaaGreatDoor
open Go Go.RowKit Go.Maps Go.WideMaps
def Cal.holErrOf (h : Hol) : Int := Cal.holErr h.kind h.month h.day h.weekday
def hasName (seen : List Hol) (nm : ByteArray) : Bool := seen.any fun q => q.name.toList == nm.toList
/-- The error of holidays, behind those that have been seen. -/
def Cal.holsErrFrom (seen : List Hol) : List Hol → Int
  | [] => 0
  | h :: r => if nameB h.name = true then (if hasName seen h.name = true then 5 else if Cal.holErrOf h = 0 then Cal.holsErrFrom (seen ++ [h]) r else Cal.holErrOf h) else 4
theorem Cal.holsErrFrom_cons (seen : List Hol) (h : Hol) (r : List Hol) : Cal.holsErrFrom seen (h :: r) = if nameB h.name = true then (if hasName seen h.name = true then 5 else if Cal.holErrOf h = 0 then Cal.holsErrFrom (seen ++ [h]) r else Cal.holErrOf h) else 4 := rfl
def Cal.holsErr (l : List Hol) : Int := if 40 < l.length then 8 else Cal.holsErrFrom [] l
theorem boolZero (w : World) : (zeroValue 4).run Tryz.prog w = .ok (.bool false) w := by kernel_rfl
def strLit (x : List UInt8) : Lit := .string x
theorem strLit_inj (x y : List UInt8) (h : strLit x = strLit y) : x = y := by unfold strLit at h; cases h; rfl
/-- The set of names holds those that have been seen. -/
def NamesOf (seen : List Hol) (f : List UInt8 → Option Value) : Prop := ∀ nm : ByteArray, (f nm.data.toList).getD (.bool false) = .bool (hasName seen nm)
theorem NamesOf.start : NamesOf [] (fun _ => none) := fun _ => rfl
theorem NamesOf.step {seen : List Hol} {f : List UInt8 → Option Value} (h : NamesOf seen f) (q : Hol) : NamesOf (seen ++ [q]) (setAt f q.name.data.toList (.bool true)) := fun nm => by
  have e : hasName (seen ++ [q]) nm = (hasName seen nm || (q.name.toList == nm.toList)) := by simp [hasName]
  rw [e]
  by_cases hn : nm.data.toList = q.name.data.toList
  · rw [hn, setAt_same]
    have : (q.name.toList == nm.toList) = true := by rw [ByteArray.toList_eq, ByteArray.toList_eq, hn]; simp
    rw [this]; simp
  · rw [setAt_other _ _ hn, h nm]
    have : (q.name.toList == nm.toList) = false := by rw [ByteArray.toList_eq, ByteArray.toList_eq]; simp; exact fun h => hn (by rw [h])
    rw [this]; simp
theorem CheckHolidays_any (A : Option Addr) (c : Nat) (l : List Hol) (w : World) (hl : Hols w A l) (hT : Tab w) :
    Calls Tryz.prog 129 #[.slice A l.length c] w fun e w' => e = .returned (.int .i64 (Cal.holsErr l)) ∧ Below w.heap.size w w' := by
  have hsz := hl.size
  by_cases hbig : 40 < l.length
  · have hfin : Hid (Cal.holsErr l = 8) := by show _ = _; unfold Cal.holsErr; rw [if_pos hbig]
    go_enter Tryz.func129, Tryz.ntmps129
    go_wp2
    go_ret
    exact ⟨ret_int hfin.out.symm, Below.refl _ _⟩
  · have hfin : Hid (Cal.holsErr l = Cal.holsErrFrom (l.take 0) (l.drop 0)) := by show _ = _; unfold Cal.holsErr; rw [if_neg hbig]; rfl
    have hl' := Lib.hid hl
    have hT' := Lib.hid (fun w' (h : Below w.heap.size w w') => hT.below h)
    clear hl hT
    have hmm := @run_makeMap Tryz.prog
    have hst := Lib.hid (MapIs.made Tryz.prog 9 strLit w)
    go_enter Tryz.func129, Tryz.ntmps129
    go_wp2
    clear hmm
    go_loopw [13] (fun i wr => ∃ (k : Nat) (f : List UInt8 → Option Value), k ≤ l.length ∧ i = .int .i64 k ∧ Hid (Cal.holsErr l = Cal.holsErrFrom (l.take k) (l.drop k)) ∧ Hid (MapIs Tryz.prog 9 strLit wr w.heap.size k f) ∧ Hid (NamesOf (l.take k) f) ∧ w.heap.size < wr.heap.size ∧ Below w.heap.size w wr) (fun i _ => l.length - (intOf i).toNat)
    case atStart => exact ⟨0, _, Nat.zero_le _, rfl, hfin, hst.out, NamesOf.start, by simp, below_alloc _ _⟩
    case round =>
      obtain ⟨k, f, hk, rfl, hinv, hmap, hnames, hlt0, hb⟩ := hrel
      clear hfin hst
      by_cases hlt : k < l.length
      · have hk' : l[k]? = some l[k] := List.getElem?_eq_getElem hlt
        have hd := Lib.hid (List.drop_eq_getElem_cons hlt)
        have htk : Hid (l.take (k + 1) = l.take k ++ [l[k]]) := by show _ = _; rw [List.take_succ_eq_append_getElem hlt]
        have hnm := hl'.out.names k _ hk'
        obtain ⟨b, o, rfl, hbl, c0, c1, c2, c3, c4⟩ := (hl'.out.below hb).at_ hk'
        clear hk'
        generalize l[k] = p at *
        have hbs := hb.size
        cases hn : nameB p.name
        · have hfin : Hid (Cal.holsErr l = 4) := by show _ = _; rw [hinv.out, hd.out, Cal.holsErrFrom_cons, hn]; rfl
          go_wp2_with (first | (go_at_call 177; refine (isName_any _ _ hnm).mono ?_; rintro e w' ⟨rfl, rfl⟩))
          go_ret
          exact ⟨ret_int hfin.out.symm, hb.alloc hbs _⟩
        · have hlk := fun o => (hmap.out.alloc o).look (string_keyed Tryz.underlying9) Tryz.underlying166 (boolZero _) (keyOf_string_mk Tryz.underlying9 hnm)
          have hnp := hnames.out p.name
          have hlk2 : ∀ o, (Instr.lookup 166 (.map (some w.heap.size)) (.string p.name) false).run Tryz.prog (wr.alloc o) = .ok (.bool (hasName (l.take k) p.name)) (wr.alloc o) := fun o => by rw [hlk o, hnp]
          clear hlk hnp
          cases hs : hasName (l.take k) p.name
          · rw [hs] at hlk2
            obtain ⟨w2, hrun, hm2, hg2, hsz2⟩ := (hmap.out.alloc (.cells #[.string p.name, .int .i64 p.kind, .int .i64 p.month, .int .i64 p.day, .int .i64 p.weekday] 245)).store strLit_inj (string_keyed Tryz.underlying9) Tryz.underlying166 (by unfold maxLen; omega) (val := .bool true) (keyOf_string_mk Tryz.underlying9 hnm)
            have hm2 := Lib.hid hm2
            have hc2 : ∀ (j : Nat), w2.cell? ⟨wr.heap.size, j, none⟩ = (wr.alloc (.cells #[.string p.name, .int .i64 p.kind, .int .i64 p.month, .int .i64 p.day, .int .i64 p.weekday] 245)).cell? ⟨wr.heap.size, j, none⟩ := fun j => World.cell?_of_block (hg2.block _ (by simp) (by simp; omega))
            have hb2 : Below w.heap.size w w2 := (hb.alloc hbs _).grown hg2 (by simp; omega) (by simp)
            have hlt2 : w.heap.size < w2.heap.size := by rw [hsz2]; simp; omega
            have hg2 := Lib.hid hg2
            have hsz2 := Lib.hid hsz2
            have hT2 := Lib.hid (hT'.out _ hb2)
            by_cases hp0 : Cal.holErrOf p = 0
            · have hp1 : (Cal.holErr p.kind p.month p.day p.weekday != 0) = false := by simpa [Cal.holErrOf] using hp0
              have hnx : Hid (Cal.holsErr l = Cal.holsErrFrom (l.take (k + 1)) (l.drop (k + 1))) := by show _ = _; rw [hinv.out, hd.out, Cal.holsErrFrom_cons, hn, hs, htk.out]; simp [hp0]
              have hnms : Hid (NamesOf (l.take (k + 1)) (setAt f p.name.data.toList (.bool true))) := by show NamesOf _ _; rw [htk.out]; exact hnames.out.step p
              clear hp0
              go_wp2_with (first | (go_at_call 177; refine (isName_any _ _ hnm).mono ?_; rintro e w' ⟨rfl, rfl⟩) | (go_at_call 188; refine (checkHoliday_any _ _ _ _ _ _ hT2.out).mono ?_; rintro e w3 ⟨rfl, hb3⟩; obtain ⟨hc3, hf3⟩ := bcell hb3))
              go_roundw
              case rel => exact ⟨k + 1, _, by omega, by go_num, hnx, hm2.out.below hb3 hlt2, hnms, Nat.lt_of_lt_of_le hlt2 hb3.size, below_step hb2 hb3⟩
              case measure => simp [intOf]; omega
            · have hp1 : (Cal.holErr p.kind p.month p.day p.weekday != 0) = true := by simpa [Cal.holErrOf] using hp0
              have hfin : Hid (Cal.holsErr l = Cal.holErr p.kind p.month p.day p.weekday) := by show _ = _; rw [hinv.out, hd.out, Cal.holsErrFrom_cons, hn, hs]; simp [hp0]; rfl
              clear hp0
              go_wp2_with (first | (go_at_call 177; refine (isName_any _ _ hnm).mono ?_; rintro e w' ⟨rfl, rfl⟩) | (go_at_call 188; refine (checkHoliday_any _ _ _ _ _ _ hT2.out).mono ?_; rintro e w3 ⟨rfl, hb3⟩; obtain ⟨hc3, hf3⟩ := bcell hb3))
              go_ret
              exact ⟨ret_int hfin.out.symm, below_step hb2 hb3⟩
          · rw [hs] at hlk2
            have hfin : Hid (Cal.holsErr l = 5) := by show _ = _; rw [hinv.out, hd.out, Cal.holsErrFrom_cons, hn, hs]; rfl
            go_wp2_with (first | (go_at_call 177; refine (isName_any _ _ hnm).mono ?_; rintro e w' ⟨rfl, rfl⟩))
            go_ret
            exact ⟨ret_int hfin.out.symm, hb.alloc hbs _⟩
      · obtain rfl : k = l.length := by omega
        have hfin : Hid (Cal.holsErr l = 0) := by show _ = _; rw [hinv.out, List.drop_length]; rfl
        clear hinv
        go_wp2
        go_ret
        exact ⟨ret_int hfin.out.symm, hb⟩
end Go.Proofs.YtbinoelbjlgjkaaGreatDoor
namespace Go.Proofs.YtbinoelbjlgjkaaGreatDoor
open Go Go.RowKit Go.Maps Go.WideMaps

/-- The day of a holiday in a year; none: the year has none. -/
def Cal.onS (h : Hol) (y : Int) : Option Int :=
  if h.kind = 0 then (if h.day ≤ Cal.mlen y h.month then some (Cal.first y h.month + h.day - 1) else none)
  else if h.kind = 1 then some (Cal.easter y + h.day)
  else if 0 < h.day then some (Cal.first y h.month + (h.weekday - (Cal.first y h.month + 2) % 7 + 7) % 7 + 7 * (h.day - 1))
  else some (Cal.first y h.month + Cal.mlen y h.month - 1 - (Cal.first y h.month + Cal.mlen y h.month - 1 - (Cal.first y h.month + (h.weekday - (Cal.first y h.month + 2) % 7 + 7) % 7)) % 7)
def Cal.hols (l : List Hol) (y : Int) : List Int := l.filterMap fun h => Cal.onS h y
def Cal.worksB (l : List Hol) (d : Int) : Bool := decide ((d + 2) % 7 ≤ 4) && !(Cal.hols l (Cal.dY d)).contains d
/-- zs are the holidays of a year, ascending, each once. -/
def HolsAre (zs : List Int) (l : List Hol) (y : Int) : Prop := zs.Pairwise (· < ·) ∧ ∀ d, d ∈ zs ↔ d ∈ Cal.hols l y
/-- A slice of the call's own (its block from B on) that reads as numbers. -/
def SliceOf (W : World) (B : Nat) (v : Value) (zs : List Int) : Prop :=
  ∃ A c, v = .slice A zs.length c ∧ zs.length ≤ 1000000 ∧ (zs ≠ [] → ∃ g cs t, A = some ⟨g, 0, none⟩ ∧ B ≤ g ∧ W.heap[g]? = some (.cells cs t (0, 0)) ∧ ∀ (j : Nat) x, zs[j]? = some x → cs[j]? = some (.int .i64 x))
theorem SliceOf.keep {W W' : World} {B : Nat} {v : Value} {zs : List Int} (h : SliceOf W B v zs) (hk : ∀ (g : Nat) cs t, B ≤ g → W.heap[g]? = some (.cells cs t (0, 0)) → W'.heap[g]? = some (.cells cs t (0, 0))) : SliceOf W' B v zs := by
  obtain ⟨A, c, hv, hz, h⟩ := h
  exact ⟨A, c, hv, hz, fun hne => by obtain ⟨g, cs, t, h1, h2, h3, h4⟩ := h hne; exact ⟨g, cs, t, h1, h2, hk g cs t h2 h3, h4⟩⟩
theorem SliceOf.below {W W' : World} {B : Nat} {v : Value} {zs : List Int} (h : SliceOf W B v zs) (hb : Below W.heap.size W W') : SliceOf W' B v zs :=
  h.keep fun g _ _ _ hg => (hb.block g (Array.getElem?_eq_some_iff.1 hg).1).trans hg
theorem SliceOf.less {W : World} {B B' : Nat} {v : Value} {zs : List Int} (h : SliceOf W B v zs) (hB : B' ≤ B) : SliceOf W B' v zs := by
  obtain ⟨A, c, hv, hz, h⟩ := h
  exact ⟨A, c, hv, hz, fun hne => by obtain ⟨g, cs, t, h1, h2, h3, h4⟩ := h hne; exact ⟨g, cs, t, h1, by omega, h3, h4⟩⟩
theorem SliceOf.cells {W : World} {B : Nat} {v : Value} {zs : List Int} (h : SliceOf W B v zs) (hne : zs ≠ []) : ∃ g c, v = .slice (some ⟨g, 0, none⟩) zs.length c ∧ zs.length ≤ 1000000 ∧ ∀ j, j < zs.length → W.cell? ⟨g, 0 + j, none⟩ = some (.int .i64 (zs.getD j 0)) := by
  obtain ⟨A, c, hv, hz, h⟩ := h
  obtain ⟨g, cs, t, rfl, _, h3, h4⟩ := h hne
  refine ⟨g, c, hv, hz, fun j hj => ?_⟩
  have := h4 j zs[j] (List.getElem?_eq_getElem hj)
  rw [cell_of_row W g (0 + j) cs t (0, 0) h3, Nat.zero_add, this]
  simp [List.getD, hj]
def HolPost (W : World) (l : List Hol) (y : Int) (e : Ending) (W' : World) : Prop := ∃ v zs, e = .returned v ∧ SliceOf W' W.heap.size v zs ∧ HolsAre zs l y ∧ Below W.heap.size W W'
/-- What is asked of holidaysOf at a list. -/
def HolCalls (A : Option Addr) (c : Nat) (l : List Hol) : Prop := ∀ (y : Int) (W : World), 1800 ≤ y → y ≤ 2347 → Hols W A l → Tab W → Calls Tryz.prog 288 #[.slice A l.length c, .int .i64 y] W (HolPost W l y)
def intLit (x : Int) : Lit := .int .i64 x
theorem intLit_inj (x y : Int) (h : intLit x = intLit y) : x = y := by unfold intLit at h; cases h; rfl
def CacheOk (W : World) (B m n : Nat) (l : List Hol) : Prop := ∃ f : Int → Option Value, MapIs Tryz.prog 3 intLit W m n f ∧ ∀ y v, f y = some v → ∃ zs, SliceOf W B v zs ∧ HolsAre zs l y
theorem slZero (w : World) : (zeroValue 57).run Tryz.prog w = .ok (.slice none 0 0) w := by kernel_rfl
theorem CacheOk.keep {W W' : World} {B m n : Nat} {l : List Hol} (h : CacheOk W B m n l) (hm : W'.heap[m]? = W.heap[m]?) (hk : ∀ (g : Nat) cs t, B ≤ g → W.heap[g]? = some (.cells cs t (0, 0)) → W'.heap[g]? = some (.cells cs t (0, 0))) : CacheOk W' B m n l := by
  obtain ⟨f, h1, h2⟩ := h
  exact ⟨f, h1.same hm, fun y v hv => by obtain ⟨zs, a, b⟩ := h2 y v hv; exact ⟨zs, a.keep hk, b⟩⟩
theorem CacheOk.below {W W' : World} {B m n : Nat} {l : List Hol} (h : CacheOk W B m n l) (hb : Below W.heap.size W W') : CacheOk W' B m n l := by
  obtain ⟨f, h1, h2⟩ := h
  exact ⟨f, h1.below hb h1.lt, fun y v hv => by obtain ⟨zs, a, b⟩ := h2 y v hv; exact ⟨zs, a.below hb, b⟩⟩
theorem CacheOk.mono {W : World} {B m n n' : Nat} {l : List Hol} (h : CacheOk W B m n l) (hn : n ≤ n') : CacheOk W B m n' l := by
  obtain ⟨f, h1, h2⟩ := h; exact ⟨f, h1.mono hn, h2⟩
/-- The calendar in memory. -/
structure Calend (W : World) (cb m : Nat) (A : Option Addr) (c : Nat) (l : List Hol) : Prop where
  c0 : W.cell? ⟨cb, 0, none⟩ = some (.slice A l.length c)
  c1 : W.cell? ⟨cb, 1, none⟩ = some (.map (some m))
  lt : cb < W.heap.size
  hols : Hols W A l
  tab : Tab W
theorem field_date0 (x y z : Int) (w : World) : (Instr.field 126 (.agg #[.int .i64 x, .int .i64 y, .int .i64 z]) 0).run Tryz.prog w = .ok (.int .i64 x) w := by kernel_rfl
def WorksPost (W : World) (B m n : Nat) (l : List Hol) (d : Int) (e : Ending) (W' : World) : Prop := e = .returned (.bool (Cal.worksB l d)) ∧ W.grownBy W' (some m) ∧ CacheOk W' B m (n + 1) l
theorem HolsAre.contains {zs : List Int} {l : List Hol} {y : Int} (h : HolsAre zs l y) (d : Int) : zs.contains d = (Cal.hols l y).contains d := by
  rw [Bool.eq_iff_iff]; simp only [List.contains_iff_mem]; exact h.2 d
theorem HolsAre.sorted {zs : List Int} {l : List Hol} {y : Int} (h : HolsAre zs l y) : zs.Pairwise (· ≤ ·) := h.1.imp fun h => by omega
theorem grownBy_below {W W' : World} {row : Option Nat} (h : Below W.heap.size W W') : W.grownBy W' row := ⟨h.os, h.tape, h.output, h.size, fun i hi _ => h.block i hi⟩
theorem grownBy_drewN {W W' : World} {row : Option Nat} (h : W.grownBy W' row) (n : Nat) : W.grownBy (W'.drewN n) row := ⟨h.os, h.tape, h.output, h.size, h.block⟩
theorem grownBy_trans {a b c : World} {row : Option Nat} (h : a.grownBy b row) (k : b.grownBy c row) : a.grownBy c row :=
  ⟨k.os.trans h.os, k.tape.trans h.tape, k.output.trans h.output, Nat.le_trans h.size k.size, fun i hi hne => (k.block i (Nat.lt_of_lt_of_le hi h.size) hne).trans (h.block i hi hne)⟩
/-- BinarySearch of a day in a list of holidays. -/
theorem search_any (W : World) (B : Nat) (v : Value) (zs : List Int) (l : List Hol) (y d : Int) (h : SliceOf W B v zs) (hz : HolsAre zs l y) :
    Calls Tryz.prog 289 #[v, .int .i64 d] W fun e W' => ∃ k : Int, e = .returned (.tuple #[.int .i64 k, .bool ((Cal.hols l y).contains d)]) ∧ ∃ q, W' = W.drewN q := by
  rw [← hz.contains d]
  by_cases hne : zs = []
  · subst hne
    obtain ⟨A, c, rfl, _, _⟩ := h
    exact (Tryz.slices_BinarySearch_int_empty A c d W).mono fun e W' ⟨he, hw⟩ => ⟨0, by rw [he]; rfl, 0, hw⟩
  · obtain ⟨g, c, rfl, hsz, hc⟩ := h.cells hne
    have hs := hz.sorted
    refine (Tryz.slices_BinarySearch_int g 0 zs.length c zs d W (Nat.le_refl _) (by omega) hc (by rw [List.take_length]; exact hs)).mono fun e W' hq => ?_
    obtain ⟨he, q, hw⟩ := hq
    rw [List.take_length] at he
    exact ⟨_, he, q, hw⟩

set_option maxRecDepth 100000 in
set_option maxHeartbeats 1000000 in
theorem works_any (cb m : Nat) (A : Option Addr) (c : Nat) (l : List Hol) (hHol : HolCalls A c l) (day : Int) (y0 : 0 ≤ day) (y1 : day ≤ 200000) (B n : Nat) (W : World) (hcal : Calend W cb m A c l) (hca : CacheOk W B m n l) (hn : n ≤ 1000000) (hB : B ≤ W.heap.size) :
    Calls Tryz.prog 241 #[.pointer (some ⟨cb, 0, none⟩), .int .i64 day] W (WorksPost W B m n l day) := by
  by_cases hwd : (day + 2) % 7 ≤ 4
  · obtain ⟨dy0, dy1⟩ := Cal.dY_bd day y0 y1
    have hwd' := Lib.hid hwd
    have hT := Lib.hid hcal.tab
    have hlt := hcal.lt
    have hc0 := hcal.c0
    have hc1 := hcal.c1
    have hmlt : m < W.heap.size := by obtain ⟨f, h, _⟩ := hca; exact h.lt
    have hfin : ∀ b : Bool, (Cal.hols l (Cal.dY day)).contains day = b → Cal.worksB l day = !b := fun b h => by unfold Cal.worksB; rw [h]; simp [hwd]
    have hfin := Lib.hid hfin
    have hHol := Lib.hid hHol
    have hfld := fun w => field_date0 (Cal.dY day) (Cal.dM day) (Cal.dD day) w
    have hcal' := Lib.hid hcal
    clear hcal
    obtain ⟨f, hmap, hf⟩ := hca
    cases hv : f (Cal.dY day) with
    | some v =>
      obtain ⟨zs, hsl, hzs⟩ := hf _ _ hv
      have hlook := fun (w1 : World) (h1 : Below W.heap.size W w1) => (hmap.below h1 hmlt).look_ok (int_keyed Tryz.underlying3) Tryz.underlying274 (slZero _) (key := .int .i64 (Cal.dY day)) (kl := Cal.dY day) (keyOf_int_mk Tryz.underlying3 (WalkArith.wf_i64 (by omega)))
      rw [hv] at hlook
      have hlook := Lib.hid hlook
      have hall := Lib.hid (And.intro hmap (And.intro hf (And.intro hsl hzs)))
      clear hmap hf hsl hzs hv
      go_enter Tryz.func241, Tryz.ntmps241
      go_wp2_with (first | (go_at_call 286; refine (weekday_any _ (by omega) (by omega) _).mono ?_; rintro e w' ⟨rfl, rfl⟩) | (go_at_call 287; refine (dateOf_any day y0 y1 _ hT.out).mono ?_; rintro e w1 ⟨rfl, hb1⟩; obtain ⟨hc1', hf1'⟩ := bcell hb1; have hlk := hlook.out w1 hb1))
      obtain ⟨hmap, hf, hsl, hzs⟩ := hall.out
      refine (search_any w1 B v zs l (Cal.dY day) day (hsl.below hb1) hzs).mono ?_
      have hca' := Lib.hid (show CacheOk w1 B m (n + 1) l from (CacheOk.below ⟨f, hmap, hf⟩ hb1).mono (by omega))
      clear hmap hf hsl hzs
      rintro e w2 ⟨k, rfl, q, rfl⟩
      go_wp2
      go_ret
      exact ⟨ret_bool (by rw [hfin.out _ rfl]; simp), grownBy_drewN (grownBy_below hb1) _, hca'.out.keep rfl (fun _ _ _ _ h => h)⟩
    | none =>
      have hlook := fun (w1 : World) (h1 : Below W.heap.size W w1) => (hmap.below h1 hmlt).look_ok (int_keyed Tryz.underlying3) Tryz.underlying274 (slZero _) (key := .int .i64 (Cal.dY day)) (kl := Cal.dY day) (keyOf_int_mk Tryz.underlying3 (WalkArith.wf_i64 (by omega)))
      rw [hv] at hlook
      have hlook := Lib.hid hlook
      have hca' := Lib.hid (show CacheOk W B m n l from ⟨f, hmap, hf⟩)
      have hm' := Lib.hid hmap
      have hf' := Lib.hid hf
      clear hmap hf hv
      go_enter Tryz.func241, Tryz.ntmps241
      go_wp2_with (first | (go_at_call 286; refine (weekday_any _ (by omega) (by omega) _).mono ?_; rintro e w' ⟨rfl, rfl⟩) | (go_at_call 287; refine (dateOf_any day y0 y1 _ hT.out).mono ?_; rintro e w1 ⟨rfl, hb1⟩; obtain ⟨hc1', hf1'⟩ := bcell hb1; have hlk := hlook.out w1 hb1))
      refine (hHol.out (Cal.dY day) w1 dy0 dy1 (hcal'.out.hols.below hb1) (hT.out.below hb1)).mono ?_
      rintro e w2 ⟨v, zs, rfl, hsl, hzs, hb2⟩
      have hb12 := below_step hb1 hb2
      have hs1 := hb1.size
      have hs2 := hb2.size
      obtain ⟨w3, hrun, hm3, hg3, hsz3⟩ := (hm'.out.below hb12 hmlt).store intLit_inj (int_keyed Tryz.underlying3) Tryz.underlying274 (by unfold maxLen; omega) (val := v) (key := .int .i64 (Cal.dY day)) (kl := Cal.dY day) (keyOf_int_mk Tryz.underlying3 (WalkArith.wf_i64 (by omega)))
      have hd1 : w2.cell? ⟨cb, 0, none⟩ = some (.slice A l.length c) := (hb12.cell (p := ⟨cb, 0, none⟩) hlt).trans hc0
      have hd2 : w2.cell? ⟨cb, 1, none⟩ = some (.map (some m)) := (hb12.cell (p := ⟨cb, 1, none⟩) hlt).trans hc1
      have hmapAt := (hm'.out.below hb12 hmlt).isMap
      have hkeep : ∀ (g : Nat) cs t, w2.heap[g]? = some (.cells cs t (0, 0)) → w3.heap[g]? = some (.cells cs t (0, 0)) := fun g cs t hg =>
        (hg3.block g (Array.getElem?_eq_some_iff.1 hg).1 (fun e => by cases e; obtain ⟨es, cl, hes⟩ := hmapAt; rw [hg] at hes; cases hes)).trans hg
      have hsl3 : SliceOf w3 B v zs := (hsl.less (by omega)).keep fun g cs t _ hg => hkeep g cs t hg
      have hca3 : CacheOk w3 B m (n + 1) l := by
        refine ⟨_, hm3, fun y u hy => ?_⟩
        by_cases he : y = Cal.dY day
        · subst he; rw [setAt_same] at hy; cases hy; exact ⟨zs, hsl3, hzs⟩
        · rw [setAt_other _ _ he] at hy
          obtain ⟨zs', a, b⟩ := hf'.out y u hy
          exact ⟨zs', (a.below hb12).keep fun g cs t _ hg => hkeep g cs t hg, b⟩
      have hg03 : W.grownBy w3 (some m) := grownBy_trans (grownBy_below hb12) hg3
      have hall := Lib.hid (And.intro hsl3 (And.intro hca3 (And.intro hg03 hzs)))
      clear hmapAt hkeep hsl3 hca3 hg03 hsl hzs hm3 hg3 hsz3 hlk hc1' hf1'
      go_wp2_with fail
      obtain ⟨hsl3, hca3, hg03, hzs⟩ := hall.out
      refine (search_any w3 B v zs l (Cal.dY day) day hsl3 hzs).mono ?_
      clear hsl3 hca3 hg03 hzs
      rintro e w4 ⟨k, rfl, q, rfl⟩
      go_wp2
      go_ret
      exact ⟨ret_bool (by rw [hfin.out _ rfl]; simp), grownBy_drewN hall.out.2.2.1 _, hall.out.2.1.keep rfl (fun _ _ _ _ h => h)⟩
  · have hfin : Hid (Cal.worksB l day = false) := by show _ = _; unfold Cal.worksB; simp [hwd]
    go_enter Tryz.func241, Tryz.ntmps241
    go_wp2_with (first | (go_at_call 286; refine (weekday_any _ (by omega) (by omega) _).mono ?_; rintro e w' ⟨rfl, rfl⟩))
    go_ret
    exact ⟨ret_bool hfin.out.symm, World.grownBy.refl _ _, hca.mono (by omega)⟩
end Go.Proofs.YtbinoelbjlgjkaaGreatDoor
namespace Go.Proofs.YtbinoelbjlgjkaaGreatDoor
open Go Go.RowKit

def isBook : Obj → Bool
  | .loop _ => true
  | .deferred _ => true
  | _ => false
theorem not_cells_of_book {o : Obj} (h : isBook o = true) : o.isCells = false := by cases o <;> simp_all [isBook, Obj.isCells]

def rawPost (Inext : World → Prop) (Ix : Code → World → Prop) (W : World) : Exit → Act → World → Prop
  | .normal, _, W' => KeepsOthers W W' ∧ Inext W'
  | .ret, _, W' => KeepsOthers W W' ∧ Ix .ret W'
  | .exit id, _, W' => KeepsOthers W W' ∧ Ix (.exit id) W'
  | .goto t, _, W' => KeepsOthers W W' ∧ Ix (.goto t) W'
  | .panic _, _, _ => False
  | .outgrown, _, _ => False

/-- What an iterator gives: J holds before each of its steps; 'Step': it goes on by itself; 'Ask': it calls yield in world B. -/
def SeqRaw {β : Type} (F : Fence) (n : Nat) (P : Program) (gf : Nat) (lb : Array Value) (encs : β → Array Value) (next : β → β) (Inv : β → World → Prop) (Step Ask : β → World → World → Prop) (End : β → Prop) (s0 : β) : Prop :=
  ∀ (l : Nat) (J : β → World → Prop) (Jx : World → Prop) (W : World), (∀ s A, J s A → Inv s A) → (∀ s A B, J s A → Step s A B → J (next s) B) →
    (∀ s A B, J s A → Ask s A B → YieldAt F (n - 1) P l (encs s) B fun e W' => (e = .returned (.bool true) ∧ J (next s) W') ∨ (e = .returned (.bool false) ∧ Jx W')) →
    J s0 W → CallsIn F n P gf (#[.func (.yield l) #[] #[]] ++ lb) W fun e W' => (∃ v, e = .returned v) ∧ ((∃ s, End s ∧ J s W') ∨ Jx W')

variable {F : Fence} {n : Nat} {P : Program}
theorem wpIn_rangeFunc_raw {β : Type} {g : Operand} {ps : Array Tmp} {assign body : Code} {Q : Exit → Act → World → Prop} {a : Act} {w : World}
    (hro : F.round = none) (h1 : 1 ≤ n) {gf : Nat} {lb : Array Value} (hg : a.eval g = .func (.func gf) #[] lb) (hFg : F.fn gf) (eg : ∀ args w, (callFunc gf args).run P w = .ok (.enter gf args) w)
    {encs : β → Array Value} {next : β → β} {Inv : β → World → Prop} {Step Ask : β → World → World → Prop} {End : β → Prop} {s0 : β}
    (hseq : SeqRaw F (n - 1) P gf lb encs next Inv Step Ask End s0) (hps : ∀ x, (encs x).size = ps.size)
    (hkS : ∀ s A B (k : Nat) (o : Obj), Inv s A → (Step s A B ∨ Ask s A B) → A.heap[k]? = some o → isBook o = true → B.heap[k]? = some o)
    (I IA : β → World → Prop) (Ix : Code → World → Prop)
    (hIInv : ∀ s A, I s A → Inv s A) (hIS : ∀ s A B, I s A → Step s A B → I (next s) B) (hIA : ∀ s A B, I s A → Ask s A B → IA s B)
    (hI1 : ∀ s A o, isBook o = true → I s A → I s (A.alloc o))
    (hI2 : ∀ s A (l : Nat) (o o' : Obj), w.heap.size ≤ l → A.heap[l]? = some o → isBook o = true → isBook o' = true → I s A → I s (A.putObj l o'))
    (hIA2 : ∀ s A (l : Nat) (o o' : Obj), w.heap.size ≤ l → A.heap[l]? = some o → isBook o = true → isBook o' = true → IA s A → IA s (A.putObj l o'))
    (hIx2 : ∀ c A (l : Nat) (o o' : Obj), w.heap.size ≤ l → A.heap[l]? = some o → isBook o = true → isBook o' = true → Ix c A → Ix c (A.putObj l o'))
    (h0 : I s0 w) (a₁ : β → Act)
    (hassign : ∀ (l : Nat) (x : β) (W : World) (K : Act → World → Prop), K (a₁ x) W →
      assign.wpIn (F.inRound l) (n - 1 - 1) P (Exit.then K (fun _ _ _ => False)) { tmps := (ps.zip (encs x)).foldl (fun t (p, v) => t.setIfInBounds p v) a.tmps, defers := [] } W)
    (hbody : ∀ (l : Nat) (x : β) (W : World), IA x W → body.wpIn (F.inRound l) (n - 1 - 1) P (rawPost (I (next x)) Ix W) (a₁ x) W)
    (hdone : ∀ (D : Nat) (s : β) (W : World), End s → I s W → w.heap.size ≤ D → W.heap[D]? = some (.deferred (some [])) → Q .normal { a with defers := { target := .collected D, args := #[] } :: a.defers } W)
    (hstop : ∀ (D : Nat) (c : Code) (W : World), Ix c W → w.heap.size ≤ D → W.heap[D]? = some (.deferred (some [])) → c.wpIn F n P Q { a with defers := { target := .collected D, args := #[] } :: a.defers } W) :
    (Code.rangeFunc g ps assign body).wpIn F n P Q a w := by
  refine wpIn_rangeFunc ?_
  intro fn hfn
  rw [hro]
  obtain ⟨rec, hrec⟩ : ∃ rec : LoopState → Option Code → Loop, rec = fun st pe => { state := st, pending := pe, fn, tmps := a.tmps, params := ps, assign, body, defers := w.heap.size } := ⟨_, rfl⟩
  obtain ⟨W1, hW1⟩ : ∃ W1, (w.alloc (.deferred (some []))).alloc (.loop (rec .ready none)) = W1 := ⟨_, rfl⟩
  have hL1 : W1.heap[w.heap.size + 1]? = some (.loop (rec .ready none)) := by
    rw [← hW1]; have := World.alloc_heap_new (w.alloc (.deferred (some []))) (.loop (rec .ready none)); rwa [World.size_alloc] at this
  have hK1 : W1.heap[w.heap.size]? = some (.deferred (some [])) := by
    rw [← hW1]; exact (Below.heap_alloc _ _ _ (by simp)).trans (World.alloc_heap_new w _)
  have hI1' : I s0 W1 := by rw [← hW1]; exact hI1 _ _ _ rfl (hI1 _ _ _ rfl h0)
  refine ⟨w.heap.size + 1, [{ target := .collected w.heap.size, args := #[] }], W1, { target := .fn (.func gf) lb, args := #[.func (.yield (w.heap.size + 1)) #[] #[]] }, W1, gf,
    #[.func (.yield (w.heap.size + 1)) #[] #[]] ++ lb, W1, ?_, ?_, ?_, ?_, fun _ => h1, ?_⟩
  · rw [← hW1, hrec]; exact run_enterLoop_outer _ _ _ _ _
  · simp only [resolve, hg]
    simp [go_sem]
  · intro f' hf'; simp [Target.leads] at hf'; subst hf'; exact hFg
  · simp [invoke, go_sem, eg]
  · refine (hseq (w.heap.size + 1)
      (fun s W => I s W ∧ W.heap[w.heap.size + 1]? = some (.loop (rec .ready none)) ∧ W.heap[w.heap.size]? = some (.deferred (some [])))
      (fun W => ∃ c, Ix c W ∧ W.heap[w.heap.size + 1]? = some (.loop (rec .done (some c))) ∧ W.heap[w.heap.size]? = some (.deferred (some [])))
      W1 (fun s A h => hIInv s A h.1)
      (fun s A B h hs => ⟨hIS s A B h.1 hs, hkS s A B _ _ (hIInv s A h.1) (.inl hs) h.2.1 rfl, hkS s A B _ _ (hIInv s A h.1) (.inl hs) h.2.2 rfl⟩)
      ?_ ⟨hI1', hL1, hK1⟩).mono ?_
    · rintro x A W ⟨hi, hl0, hk0⟩ hask
      have hl := hkS x A W _ _ (hIInv x A hi) (.inr hask) hl0 rfl
      have hk := hkS x A W _ _ (hIInv x A hi) (.inr hask) hk0 rfl
      have hia := hIA x A W hi hask
      have hlt : w.heap.size + 1 < W.heap.size := (Array.getElem?_eq_some_iff.1 hl).1
      have hy := run_yield (P := P) (args := encs x) hl (by rw [hrec]; exact hps x)
      rw [hrec] at hy
      refine ⟨fn, _, assign, body, hy, roundIn_of_wpIn hfn (hassign _ x W _ ⟨_, run_beginRound hl (by rw [hrec]), ?_⟩)⟩
      have hl2 : (W.putObj (w.heap.size + 1) (.loop { rec .ready none with state := .busy })).heap[w.heap.size + 1]? = some (.loop { rec .ready none with state := .busy }) := World.putObj_heap_same hlt
      have hk2 : (W.putObj (w.heap.size + 1) (.loop { rec .ready none with state := .busy })).heap[w.heap.size]? = some (.deferred (some [])) := (World.putObj_heap_other (by omega)).trans hk
      refine wpIn_mono (hbody _ x _ (hIA2 _ _ _ _ _ (by omega) hl rfl rfl hia)) ?_
      have fin : ∀ (jump : Option Code) (W3 : World), KeepsOthers (W.putObj (w.heap.size + 1) (.loop { rec .ready none with state := .busy })) W3 →
          (Instr.endRound (w.heap.size + 1) jump).run P W3 = .ok (.bool jump.isNone) (W3.putObj (w.heap.size + 1) (.loop (rec (if jump.isNone then .ready else .done) jump))) ∧
          W3.heap[w.heap.size + 1]? = some (.loop { rec .ready none with state := .busy }) ∧
          (W3.putObj (w.heap.size + 1) (.loop (rec (if jump.isNone then .ready else .done) jump))).heap[w.heap.size + 1]? = some (.loop (rec (if jump.isNone then .ready else .done) jump)) ∧
          (W3.putObj (w.heap.size + 1) (.loop (rec (if jump.isNone then .ready else .done) jump))).heap[w.heap.size]? = some (.deferred (some [])) := fun jump W3 hk3 => by
        have hl3 := hk3.same _ _ hl2 rfl
        have := run_endRound (P := P) jump hl3
        rw [hrec] at this ⊢
        exact ⟨this, by rw [hrec] at hl3; exact hl3, World.putObj_heap_same (Array.getElem?_eq_some_iff.1 hl3).1, (World.putObj_heap_other (by omega)).trans (hk3.same _ _ hk2 rfl)⟩
      rintro e a3 W3 hp
      cases e with
      | normal =>
        obtain ⟨hk3, hi3⟩ := hp
        obtain ⟨hr, hl3, hl4, hk4⟩ := fin none W3 hk3
        exact ⟨_, _, hr, .inl ⟨rfl, hI2 _ _ _ _ _ (by omega) hl3 rfl rfl hi3, hl4, hk4⟩⟩
      | ret =>
        obtain ⟨hk3, hi3⟩ := hp
        obtain ⟨hr, hl3, hl4, hk4⟩ := fin (some .ret) W3 hk3
        exact ⟨_, _, hr, .inr ⟨rfl, .ret, hIx2 _ _ _ _ _ (by omega) hl3 rfl rfl hi3, hl4, hk4⟩⟩
      | exit id =>
        obtain ⟨hk3, hi3⟩ := hp
        obtain ⟨hr, hl3, hl4, hk4⟩ := fin (some (.exit id)) W3 hk3
        exact ⟨_, _, hr, .inr ⟨rfl, .exit id, hIx2 _ _ _ _ _ (by omega) hl3 rfl rfl hi3, hl4, hk4⟩⟩
      | goto t =>
        obtain ⟨hk3, hi3⟩ := hp
        obtain ⟨hr, hl3, hl4, hk4⟩ := fin (some (.goto t)) W3 hk3
        exact ⟨_, _, hr, .inr ⟨rfl, .goto t, hIx2 _ _ _ _ _ (by omega) hl3 rfl rfl hi3, hl4, hk4⟩⟩
      | panic ch => exact hp.elim
      | outgrown => exact hp.elim
    · rintro e W2 ⟨⟨v, rfl⟩, (⟨s, hE, hi, hl, hk⟩ | ⟨c, hi, hl, hk⟩)⟩
      · exact ⟨none, _, by have := run_endLoop (P := P) hl (by rw [hrec]; simp); rw [hrec] at this; exact this, hdone _ s _ hE (hI2 _ _ _ _ _ (by omega) hl rfl rfl hi) (Nat.le_refl _) ((World.putObj_heap_other (by omega)).trans hk)⟩
      · exact ⟨some c, _, by have := run_endLoop (P := P) hl (by rw [hrec]; simp); rw [hrec] at this; exact this, hstop _ c _ (hIx2 _ _ _ _ _ (by omega) hl rfl rfl hi) (Nat.le_refl _) ((World.putObj_heap_other (by omega)).trans hk)⟩
end Go.Proofs.YtbinoelbjlgjkaaGreatDoor
namespace Go.Proofs.YtbinoelbjlgjkaaGreatDoor
open Go Go.RowKit Go.Shelf
attribute [local go_sem] Oper.semAt_some

/-- How many steps are left at most. -/
def stepsLeft (step d : Int) : Nat := if step = 1 then (200001 - d).toNat else (d + 1).toNat
structure Where where
  cb : Nat
  m : Nat
  A : Option Addr
  c : Nat
  l : List Hol
  B : Nat
  bf : Nat
  bs : Nat
  bc : Nat
  step : Int
  start : Int
def CacheAt (K : Where) (d : Int) (W : World) : Prop := ∃ n, CacheOk W K.B K.m n K.l ∧ n + stepsLeft K.step d ≤ 600000
/-- What holds ahead of each step. -/
structure DaysInv (K : Where) (d : Int) (W : World) : Prop where
  lo : -1 ≤ d
  hi : d ≤ 200001
  from_ : W.cell? ⟨K.bf, 0, none⟩ = some (.int .i64 K.start)
  st : W.cell? ⟨K.bs, 0, none⟩ = some (.int .i64 K.step)
  cal : W.cell? ⟨K.bc, 0, none⟩ = some (.pointer (some ⟨K.cb, 0, none⟩))
  cald : Calend W K.cb K.m K.A K.c K.l
  cache : CacheAt K d W
  size : K.B ≤ W.heap.size
def isDayP (d : Int) : Prop := 0 ≤ d ∧ d ≤ 200000
def DaysStep (K : Where) (d : Int) (A B : World) : Prop := isDayP d ∧ Cal.worksB K.l d = false ∧ A.grownBy B (some K.m) ∧ CacheAt K (d + K.step) B
def DaysAsk (K : Where) (d : Int) (A B : World) : Prop := isDayP d ∧ Cal.worksB K.l d = true ∧ A.grownBy B (some K.m) ∧ CacheAt K (d + K.step) B
theorem stepsLeft_succ {step d : Int} (h : step = 1 ∨ step = -1) (hd : isDayP d) : stepsLeft step (d + step) + 1 = stepsLeft step d := by
  obtain ⟨h1, h2⟩ := hd
  unfold stepsLeft
  rcases h with rfl | rfl <;> simp <;> omega
def IterPost (J : Int → World → Prop) (Jx : World → Prop) (e : Ending) (W' : World) : Prop := (∃ v, e = .returned v) ∧ ((∃ s, ¬ isDayP s ∧ J s W') ∨ Jx W')
set_option maxHeartbeats 1000000 in
theorem days_raw (K : Where) (hst : K.step = 1 ∨ K.step = -1) (hHol : HolCalls K.A K.c K.l) (n : Nat) :
    SeqRaw Fence.wide n Tryz.prog 252 #[.pointer (some ⟨K.bf, 0, none⟩), .pointer (some ⟨K.bs, 0, none⟩), .pointer (some ⟨K.bc, 0, none⟩)]
      (fun d : Int => #[.int .i64 d]) (fun d => d + K.step) (DaysInv K) (DaysStep K) (DaysAsk K) (fun d => ¬ isDayP d) K.start := by
  intro l J Jx W hInv hStep hAsk h0
  show CallsIn Fence.wide n Tryz.prog 252 _ W (IterPost J Jx)
  refine callsIn_of_wp Tryz.func252 rfl trivial ?_ rfl
  simp only [Tryz.ntmps252, List.size_toArray, List.length_cons, List.length_nil, Nat.reduceAdd, Nat.reduceSub, Array.replicate_succ, Array.replicate_zero, List.push_toArray, List.append_toArray, List.nil_append, List.cons_append]
  have hf0 := (hInv _ _ h0).from_
  gi_wp2
  clear hf0
  gi_loopw [5] (fun v wr => ∃ d : Int, v = .int .i64 d ∧ J d wr) (fun v _ => stepsLeft K.step (intOf v))
  case atStart => exact ⟨K.start, rfl, h0⟩
  case round =>
    obtain ⟨d, rfl, hJ⟩ := hrel
    have hi := hInv _ _ hJ
    have hlo := hi.lo
    have hhi := hi.hi
    have hc1 := hi.st
    have hc2 := hi.cal
    by_cases hday : isDayP d
    · obtain ⟨hd0, hd1⟩ := id hday
      obtain ⟨nn, hca, hnn⟩ := hi.cache
      have hsl := stepsLeft_succ hst hday
      have hcald := hi.cald
      have hms : ∃ es cl, wr.heap[K.m]? = some (.map es cl) := by obtain ⟨f, h, _⟩ := hca; exact h.isMap
      have hw := works_any K.cb K.m K.A K.c K.l hHol d hd0 hd1 K.B nn wr hcald hca (by omega) hi.size
      have hrow : ∀ r, some K.m = some r → ∃ o : Obj, wr.heap[r]? = some o ∧ o.isCells = false := fun r e => by cases e; obtain ⟨es, cl, h⟩ := hms; exact ⟨_, h, rfl⟩
      have hk1 : ∀ w1, wr.grownBy w1 (some K.m) → w1.cell? ⟨K.bs, 0, none⟩ = some (.int .i64 K.step) := fun w1 hg => cell_kept hc1 hg hrow
      have hns := Lib.hid hnn
      have hsl' := Lib.hid hsl
      have hAll := Lib.hid (And.intro hi (And.intro hJ (And.intro hw hk1)))
      have hstep1 : -1 ≤ K.step := by omega
      have hstep2 : K.step ≤ 1 := by omega
      clear hca hnn hsl hcald hms hw hrow hk1 hi hJ
      gi_wp2_with (refine ⟨trivial, fun h => (by cases h), ?_⟩; gi_at_call 126; refine (callsIn_wide.2 (calls_in (isDay_any _ _) hd0 hd1)).mono ?_; rintro e w' ⟨rfl, rfl⟩)
      obtain ⟨hi, hJ, hw, hk1⟩ := hAll.out
      refine ⟨trivial, fun h => (by cases h), ?_⟩
      refine (callsIn_wide.2 hw).mono ?_
      clear hi hJ hw hk1
      rintro e w1 ⟨rfl, hg1, hca1⟩
      have hcache : CacheAt K (d + K.step) w1 := ⟨_, hca1, by have := hns.out; have := hsl'.out; omega⟩
      have hc1' := hAll.out.2.2.2 w1 hg1
      cases hwk : Cal.worksB K.l d
      · have hnext := Lib.hid (hStep d wr w1 hAll.out.2.1 ⟨hday, hwk, hg1, hcache⟩)
        clear hg1 hca1 hcache
        gi_wp2_with fail
        refine ⟨fun _ h => (by cases h), ?_⟩
        gi_wp2
        go_roundw
        case rel => exact ⟨d + K.step, by go_num, hnext.out⟩
        case measure => have := hsl'.out; simp [intOf]; omega
      · obtain ⟨fn, tmps, assign, body, hy, hR⟩ := hAsk d wr w1 hAll.out.2.1 ⟨hday, hwk, hg1, hcache⟩
        clear hg1 hca1 hcache
        gi_wp2
        refine ⟨fun h => (by cases h), ?_⟩
        refine hR.mono ?_
        clear hy hR hc1'
        rintro e w2 (⟨rfl, hJ2⟩ | ⟨rfl, hJx⟩)
        · have hc2' := (hInv _ _ hJ2).st
          have hJ2 := Lib.hid hJ2
          gi_wp2
          go_roundw
          case rel => exact ⟨d + K.step, by go_num, hJ2.out⟩
          case measure => have := hsl'.out; simp [intOf]; omega
        · have hJx := Lib.hid hJx
          gi_wp2
          refine bodyPost_ret (results_none rfl _ _ _) rfl ?_
          exact ⟨⟨_, rfl⟩, .inr hJx.out⟩
    · have hday' : d < 0 ∨ 200000 < d := by unfold isDayP at hday; omega
      have hAll := Lib.hid hJ
      clear hi hJ
      gi_wp2_with (refine ⟨trivial, fun h => (by cases h), ?_⟩; gi_at_call 126; refine (callsIn_wide.2 (calls_out (isDay_any _ _) (by omega))).mono ?_; rintro e w' ⟨rfl, rfl⟩)
      refine bodyPost_end (results_none rfl _ _ _) rfl ?_
      exact ⟨⟨_, rfl⟩, .inl ⟨d, hday, hAll.out⟩⟩
end Go.Proofs.YtbinoelbjlgjkaaGreatDoor
