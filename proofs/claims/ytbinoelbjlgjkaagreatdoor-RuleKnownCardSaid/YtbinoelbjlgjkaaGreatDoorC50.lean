/- Chapter 8 and what it rests on: definitions and walks, part 50. -/
import Derived.Test.YtbinoelbjlgjkaaGreatDoorC49
import Derived.Test.YtbinoelbjlgjkaaGreatDoorC46
import Derived.Laws.Externs
import Derived.Laws.IdiomCopy
import Derived.Laws.Concat
import Derived.Lib.AppendIntMem
import Derived.Lib.ItoaLen
import Derived.Test.YtbinoelbjlgjkaaGreatDoorC15
import Derived.Test.YtbinoelbjlgjkaaGreatDoorC05
import Derived.Laws.BytesString
namespace Go.Proofs.YtbinoelbjlgjkaaGreatDoor
open Go Go.RowKit Go.Shelf
set_option maxHeartbeats 1000000 in
set_option maxRecDepth 100000 in
theorem copyCheck_used (b : Nat) (w : World) (h0 : w.cell? ⟨b, 0, none⟩ = some (.pointer (some ⟨b, 0, none⟩))) :
    Calls Tryz.prog 139 #[.pointer (some ⟨b, 0, none⟩)] w fun e w' => e = .returned (.tuple #[]) ∧ w' = w := by
  obtain ⟨j, hj, _⟩ := Option.map_eq_some_iff.1 Tryz.Builder_Extra_169.sizeBuilder
  go_enter Tryz.func139, Tryz.ntmps139
  go_wp2
  rw [Lib.run_neq_ptr_same w _ Tryz.underlying140 hj]
  go_wp2
  go_end0
  exact ⟨rfl, rfl⟩
set_option maxHeartbeats 1000000 in
set_option maxRecDepth 100000 in
theorem copyCheck_fresh (b : Nat) (w : World) (h0 : w.cell? ⟨b, 0, none⟩ = some (.pointer none)) (hsh : w.shape? b = some (143, 2)) (hfz : w.frozen? ⟨b, 0, none⟩ = false) :
    Calls Tryz.prog 139 #[.pointer (some ⟨b, 0, none⟩)] w fun e w' => e = .returned (.tuple #[]) ∧ w' = w.setCell ⟨b, 0, none⟩ (.pointer (some ⟨b, 0, none⟩)) := by
  obtain ⟨j, hj, hjs⟩ := Option.map_eq_some_iff.1 Tryz.Builder_Extra_169.sizeBuilder
  go_enter Tryz.func139, Tryz.ntmps139
  go_wp2
  rw [Lib.run_to_unsafe w ⟨b, 0, none⟩ Tryz.underlying140 Tryz.underlying292 hj (by rw [hjs]; decide) hsh (Nat.zero_lt_succ 1)]
  simp only [Result.andThen]
  rw [Oper.upon_value]
  go_wp2
  rw [run_callFunc_extern Tryz.func203 (by kernel_rfl) (by kernel_rfl) (by kernel_rfl) (e := Extern.AbiNoEscape.same) (by kernel_rfl)]
  rw [Lib.run_noEscape]
  simp only [Result.andThen]
  rw [Oper.upon_value]
  go_wp2
  rw [Lib.run_from_unsafe w ⟨b, 0, none⟩ Tryz.underlying292 Tryz.underlying140 hj hsh Tryz.Builder_Extra_169.liesBuilder]
  simp only [Result.andThen]
  rw [Oper.upon_value]
  go_wp2
  go_end0
  exact ⟨rfl, rfl⟩
theorem copyCheck_any (B b : Nat) (bs : List Value) (w : World) (h : Lib.IsBuilderF 143 5 B b bs w) :
    Calls Tryz.prog 139 #[.pointer (some ⟨b, 0, none⟩)] w fun e w' => e = .returned (.tuple #[]) ∧ (Lib.BuilderAtF 143 5 B b (.pointer (some ⟨b, 0, none⟩)) bs w' ∧ Below B w w' ∧ Lib.OthersKept 5 (some b) w w') := by
  rcases h with h | h
  · refine (copyCheck_fresh b w h.cell0 h.shape h.frozen0).mono ?_
    rintro e w' ⟨rfl, rfl⟩
    exact ⟨rfl, h.used _, (Below.refl B w).setCell (p := ⟨b, 0, none⟩) h.1 _, (Lib.OthersKept.refl _ _ w).setCell ⟨b, 0, none⟩ rfl _⟩
  · refine (copyCheck_used b w h.cell0).mono ?_
    rintro e w' ⟨rfl, rfl⟩
    exact ⟨rfl, h, Below.refl B _, Lib.OthersKept.refl _ _ _⟩
set_option maxHeartbeats 2000000 in
set_option maxRecDepth 100000 in
theorem WriteString_any (B b : Nat) (bs : List Value) (s : ByteArray) (w : World) (h : Lib.IsBuilderF 143 5 B b bs w) (hlen : bs.length + s.size ≤ 140737488355328) (hBw : B ≤ w.heap.size) :
    Calls Tryz.prog 74 #[.pointer (some ⟨b, 0, none⟩), .string s] w fun e w' => e = .returned (.tuple #[.int .i64 s.size, .nilIface]) ∧ (Lib.BuilderAtF 143 5 B b (.pointer (some ⟨b, 0, none⟩)) (bs ++ Lib.strCells s) w' ∧ Below B w w' ∧ Lib.OthersKept 5 (some b) w w') := by
  obtain ⟨i0, hi, hz0, hz1, hz2⟩ := info_parts Tryz.Builder_Extra_169.infoByte
  go_enter Tryz.func74, Tryz.ntmps74
  go_wp2_with (go_at_call 139; refine (copyCheck_any B b bs _ h).mono ?_)
  rintro e w1 ⟨rfl, h1, hb1, hk1⟩
  obtain ⟨hB, v, hbk, hown, hne⟩ := h1
  have c0 : w1.cell? ⟨b, 0, none⟩ = some (.pointer (some ⟨b, 0, none⟩)) := by rw [Lib.cell_of_heap hbk]; rfl
  have c1 : w1.cell? ⟨b, 1, none⟩ = some v := by rw [Lib.cell_of_heap hbk]; rfl
  go_wp2_with (at_builtin; refine Lib.wpList_append_own_stringF _ rfl _ _ 141 9 rfl B 5 i0 Tryz.underlying141 Tryz.underlying9 hi hz0 hz1 hz2 _ _ _ rfl hown s rfl ?c3 ?c4 ?c5 ?_)
  case c3 => unfold maxLen; omega
  case c4 => omega
  case c5 => have := hb1.size; omega
  intro v' w2 hown' hgrow _
  have hlt : b < w1.heap.size := by
    rcases Nat.lt_or_ge b w1.heap.size with h' | h'
    · exact h'
    · simp [Array.getElem?_eq_none h'] at hbk
  have hb2 : w2.heap[b]? = some (.cells #[.pointer (some ⟨b, 0, none⟩), v] 143 (0, 0)) := by
    rw [hgrow.block b hlt (fun e => hne e.symm)]
    exact hbk
  have d0 : w2.cell? ⟨b, 0, none⟩ = some (.pointer (some ⟨b, 0, none⟩)) := by rw [Lib.cell_of_heap hb2]; rfl
  have d1 : w2.cell? ⟨b, 1, none⟩ = some v := by rw [Lib.cell_of_heap hb2]; rfl
  have f1 : w2.frozen? ⟨b, 1, none⟩ = false := Lib.frozen_of_heap hb2 1
  obtain ⟨ao, n', cap, rfl⟩ : ∃ ao n' cap, v' = .slice ao n' cap := by
    rcases hown'.2 with ⟨hv, _⟩ | ⟨g, cap, cur, fz, hv, _⟩
    · exact ⟨_, _, _, hv⟩
    · exact ⟨_, _, _, hv⟩
  go_wp2
  go_ret2
  refine ⟨rfl, ?_, ?_, (hk1.grown hgrow (Lib.ownsRowF_kind hown)).setCell ⟨b, 1, none⟩ rfl _⟩
  · exact Lib.BuilderAtF.put (T := 143) (e := 5) hB hb2 (bs' := bs ++ Lib.strCells s) (by simpa [Lib.strCells_length] using hown') Tryz.Builder_Extra_169.neB5
  · exact (hb1.grown hgrow (by have := hb1.size; omega) (fun k hk => (hown.lt k hk).1)).setCell (p := ⟨b, 1, none⟩) hB _
/-- A builder that holds a text. -/
def Bld (B b : Nat) (l : Cal.Txt) (w : World) : Prop := Lib.IsBuilderF 143 5 B b (Lib.byteCells l) w
theorem bld_new (w : World) : Bld w.heap.size w.heap.size [] (w.alloc (.cells #[.pointer none, .slice none 0 0] 143)) := Lib.IsBuilderF.of (Lib.fresh_isBuilder _ _ _)
def KeptPost (B b : Nat) (l : Cal.Txt) (w : World) (e : Ending) (w' : World) : Prop := (∃ n : Int, e = .returned (.tuple #[.int .i64 n, .nilIface])) ∧ Bld B b l w' ∧ Below B w w' ∧ Lib.OthersKept 5 (some b) w w'
theorem byteCells_app (l r : List UInt8) : Lib.byteCells (l ++ r) = Lib.byteCells l ++ Lib.byteCells r := by unfold Lib.byteCells; rw [List.map_append]
theorem Write_txt (B b : Nat) (l : Cal.Txt) (s : ByteArray) (r : Cal.Txt) (w : World) (hs : s.data.toList = r) (h : Bld B b l w) (hlen : l.length + r.length ≤ 1000000) (hBw : B ≤ w.heap.size) :
    Calls Tryz.prog 74 #[.pointer (some ⟨b, 0, none⟩), .string s] w (KeptPost B b (l ++ r) w) := by
  have e : s.size = r.length := by rw [← hs, Array.length_toList]; rfl
  have e2 : (Lib.byteCells l).length = l.length := by unfold Lib.byteCells; rw [List.length_map]
  refine (WriteString_any B b (Lib.byteCells l) s w h (by rw [e2, e]; omega) hBw).mono ?_
  rintro e w' ⟨rfl, h1, h2, h3⟩
  refine ⟨⟨_, rfl⟩, ?_, h2, h3⟩
  have e3 : Lib.strCells s = Lib.byteCells r := by rw [← hs]; rfl
  rw [e3, ← byteCells_app] at h1
  exact .inr h1
theorem TextsL.others {w w' : World} {B b : Nat} {v : Value} {zs : List Cal.Txt} (h : TextsL w B v zs) (hk : Lib.OthersKept 5 (some b) w w') (hb : v.ownBlock ≠ some b) : TextsL w' B v zs := by
  refine TextsL.of ?_
  rcases h.own.2 with ⟨h1, h2⟩ | ⟨g, cap, cur, hv, hB, hg, h1, h2, h3, h4⟩
  · exact ⟨h.own.1, .inl ⟨h1, h2⟩⟩
  · refine ⟨h.own.1, .inr ⟨g, cap, cur, hv, hB, ?_, h1, h2, h3, h4⟩⟩
    exact hk g _ hg (fun e => hb (by rw [hv]; exact e)) (fun c fz e => by injection e with _ e _; exact absurd e (by decide))
theorem Bld.below {w w' : World} {B b : Nat} {l : Cal.Txt} (h : Bld B b l w) (hb : Below w.heap.size w w') : Bld B b l w' := by
  have one : ∀ p, Lib.BuilderAtF 143 5 B b p (Lib.byteCells l) w → Lib.BuilderAtF 143 5 B b p (Lib.byteCells l) w' := fun p ⟨hB, v, hbk, hown, hne⟩ =>
    ⟨hB, v, (hb.block b (Array.getElem?_eq_some_iff.1 hbk).1).trans hbk, hown.kept (row := none) ⟨hb.os, hb.tape, hb.output, hb.size, fun k hk _ => hb.block k hk⟩ (by cases v.ownBlock <;> simp), hne⟩
  exact h.elim (fun x => .inl (one _ x)) (fun x => .inr (one _ x))
theorem Bld.lt {w : World} {B b : Nat} {l : Cal.Txt} (h : Bld B b l w) : b < w.heap.size := by
  rcases h with ⟨_, v, hbk, _⟩ | ⟨_, v, hbk, _⟩ <;> exact (Array.getElem?_eq_some_iff.1 hbk).1
theorem String_any (B b : Nat) (l : Cal.Txt) (w : World) (h : Bld B b l w) (hBw : B ≤ w.heap.size) :
    Calls Tryz.prog 76 #[.pointer (some ⟨b, 0, none⟩)] w fun e w' => e = .returned (.string ⟨l.toArray⟩) ∧ Bld B b l w' ∧ Below B w w' := Tryz.Builder_String_any_f B b l w h hBw
/-- The table that strconv.Itoa reads, as its initialiser lays it. -/
def Pow (w : World) : Prop := Lib.TabIs Tryz.prog w "internal/strconv.uint64pow10" .u64 Lib.pow10Tab
theorem Pow.below {w w' : World} (h : Pow w) (hb : Below w.heap.size w w') : Pow w' := Lib.tabBelow_of_tabIs h w' hb
def NumPost (w : World) (n : Int) (e : Ending) (w' : World) : Prop := ∃ d : ByteArray, e = .returned (.string d) ∧ d.data.toList = Lib.itoa n ∧ d.size ≤ 21 ∧ Below w.heap.size w w'
theorem num_size {n : Int} (h0 : -9223372036854775808 ≤ n) (h1 : n ≤ 9223372036854775807) : (⟨(Lib.itoa n).toArray⟩ : ByteArray).size ≤ 21 := by
  have e : (⟨(Lib.itoa n).toArray⟩ : ByteArray).size = (Lib.itoa n).length := by show (Lib.itoa n).toArray.size = _; rw [List.size_toArray]
  rw [e]; exact Lib.itoa_length_le n h0 h1
theorem Itoa_any (n : Int) (h0 : -9223372036854775808 ≤ n) (h1 : n ≤ 9223372036854775807) (w : World) (hP : Pow w) : Calls Tryz.prog 75 #[.int .i64 n] w (NumPost w n) := by
  refine (Tryz.strconv_Itoa n h0 h1 w hP).mono ?_
  rintro e w' ⟨rfl, k, os, rfl⟩
  exact ⟨_, rfl, by simp, num_size h0 h1, below_of_drewN (n := k) (grow_below _ os)⟩
end Go.Proofs.YtbinoelbjlgjkaaGreatDoor
namespace Go.Proofs.YtbinoelbjlgjkaaGreatDoor
open Go Go.RowKit Go.ChangeShapes Go.WideShapes Go.Deep
theorem laid_rest {P : Program} {x : String × DataW Unit} {r : List (String × DataW Unit)} {w : World} (h : laidMet P (x :: r) w) : laidMet P r w := by
  obtain ⟨ps, hv, hnd, hrows⟩ := h
  obtain ⟨n, d⟩ := x
  obtain ⟨g, t, cs, fuel, p, q, _, _, _, _, hq, rfl⟩ := hv
  exact ⟨q, hq, List.Nodup.sublist (List.sublist_append_right _ _) hnd, fun b off hm => hrows b off (List.mem_append_right _ hm)⟩
theorem gPow : Tryz.prog.globalNamed "internal/strconv.uint64pow10" = some 1 := by kernel_rfl
theorem gPowType : (Tryz.prog.globals[1]?).map (·.type) = some 356 := by kernel_rfl
theorem cellsPow : Tryz.prog.cellsOf 356 = 20 := by kernel_rfl
theorem cellsU64 : Tryz.prog.cellsOf 290 = 1 := by kernel_rfl
theorem pow_of {W : World} {r : List (String × DataW Unit)} (h : laidMet Tryz.prog (("internal/strconv.uint64pow10", Rows.laid_internal_strconv_uint64pow10) :: r) W) : Pow W :=
  Lib.tabIs_of_head (rest := r) gPow gPowType Tryz.underlying356 Tryz.underlying290 cellsU64 cellsPow h
theorem tabs_of4 {W : World} (h : laidMetH Tryz.prog [("math/bits.deBruijn32tab", Rows.laid_math_bits_deBruijn32tab), ("math/bits.deBruijn64tab", Rows.laid_math_bits_deBruijn64tab), ("internal/strconv.uint64pow10", Rows.laid_internal_strconv_uint64pow10), ("mortsafe/rule.lengths", Rows.laid_mortsafe_rule_lengths)] W) : Tab W ∧ Pow W := by
  have h' : laidMet Tryz.prog [("math/bits.deBruijn32tab", Rows.laid_math_bits_deBruijn32tab), ("math/bits.deBruijn64tab", Rows.laid_math_bits_deBruijn64tab), ("internal/strconv.uint64pow10", Rows.laid_internal_strconv_uint64pow10), ("mortsafe/rule.lengths", Rows.laid_mortsafe_rule_lengths)] W := h
  exact ⟨tab_of (laid_rest (laid_rest (laid_rest h'))), pow_of (laid_rest (laid_rest h'))⟩
theorem and_tt {a b : Bool} (h1 : a = true) (h2 : b = true) : (a && b) = true := by rw [h1, h2]; rfl
/-- The cells of a table of numbers. -/
def litCells : DataW Unit → Array Value
  | .agg xs => (xs.map fun | .lit (.int k z) => Value.int k z | _ => undef).toArray
  | _ => #[]
def layAt (g : Nat) (d : DataW Unit) (w : World) : World :=
  { w with heap := w.heap.modify g fun
      | .cells _ t frozen => .cells (litCells d) t frozen
      | o => o }
/-- A world at the program's start, with the four listed tables laid. -/
noncomputable def laidWorld4 (os : Os) : World :=
  layAt 0 Rows.laid_mortsafe_rule_lengths (layAt 1 Rows.laid_internal_strconv_uint64pow10 (layAt 5 Rows.laid_math_bits_deBruijn32tab (layAt 6 Rows.laid_math_bits_deBruijn64tab (World.holding Tryz.prog os ⟨#[], #[], []⟩))))
end Go.Proofs.YtbinoelbjlgjkaaGreatDoor
namespace Go.Proofs.YtbinoelbjlgjkaaGreatDoor
open Go Go.RowKit
def Cal.rest (u : Nat) : List UInt8 := if u = 0 then [] else Lib.decDigits u
theorem Cal.dec_step (u : Nat) : Lib.decDigits u = Cal.rest (u / 10) ++ [UInt8.ofNat (48 + u % 10)] := by
  rw [Lib.decDigits]
  split
  · rename_i h
    rw [show u / 10 = 0 by omega, show u % 10 = u by omega]
    rfl
  · rename_i h
    unfold Cal.rest
    rw [if_neg (by omega)]
/-- What the loop of Decimal keeps: the number's digits, those that are left ahead of those that are written. -/
def DecI (U u : Nat) (s : ByteArray) : Prop := (s.data.toList = [] ∧ u = U) ∨ (s.data.toList ≠ [] ∧ Cal.rest u ++ s.data.toList = Lib.decDigits U)
theorem DecI.step {U u : Nat} {s t : ByteArray} (h : DecI U u s) (hc : s.data.toList = [] ∨ u ≠ 0) (ht : t.data.toList = UInt8.ofNat (48 + u % 10) :: s.data.toList) : DecI U (u / 10) t := by
  refine .inr ⟨by rw [ht]; simp, ?_⟩
  rcases h with ⟨h1, rfl⟩ | ⟨h1, h2⟩
  · rw [ht, h1, Cal.dec_step u]
  · have hu : u ≠ 0 := hc.elim (fun h => absurd h h1) id
    rw [ht, ← h2]
    unfold Cal.rest
    rw [if_neg hu, Cal.dec_step u]
    unfold Cal.rest
    simp
theorem DecI.toDone {U u : Nat} {s : ByteArray} (h : DecI U u s) (hu : u = 0) (hc : s.data.toList ≠ []) : s.data.toList = Lib.decDigits U := by
  subst hu
  rcases h with ⟨h1, _⟩ | ⟨_, h2⟩
  · exact absurd h1 hc
  · unfold Cal.rest at h2; simpa using h2
theorem DecI.done {U : Nat} {s : ByteArray} (h : DecI U 0 s) (hc : s.data.toList ≠ []) : s.data.toList = Lib.decDigits U := by
  rcases h with ⟨h1, _⟩ | ⟨_, h2⟩
  · exact absurd h1 hc
  · unfold Cal.rest at h2; simpa using h2
theorem AbsD_pos (n : Int) (h : 0 ≤ n) (h2 : n ≤ 9) (w : World) : Calls Tryz.prog 142 #[.int .i64 n] w fun e w' => e = .returned (.int .i64 n) ∧ w = w' := by
  by_cases h0 : n = 0
  · subst h0
    go_enter Tryz.func142, Tryz.ntmps142
    go_wp2
    go_ret
    exact ⟨ret_int (by omega), rfl⟩
  · have h1 : 1 ≤ n := by omega
    clear h0
    go_enter Tryz.func142, Tryz.ntmps142
    go_wp2
    go_ret
    exact ⟨ret_int (by omega), rfl⟩
theorem AbsD_neg (n : Int) (h : n < 0) (h2 : -9 ≤ n) (w : World) : Calls Tryz.prog 142 #[.int .i64 n] w fun e w' => e = .returned (.int .i64 (-n)) ∧ w = w' := by
  go_enter Tryz.func142, Tryz.ntmps142
  go_wp2
  go_ret
  exact ⟨ret_int (by omega), rfl⟩
theorem AbsD_opp (d : Int) (h : 0 ≤ d) (h2 : d ≤ 9) (w : World) : Calls Tryz.prog 142 #[.int .i64 (-d)] w fun e w' => e = .returned (.int .i64 d) ∧ w = w' := by
  by_cases h0 : d = 0
  · subst h0; exact AbsD_pos 0 (by omega) (by omega) w
  · have := AbsD_neg (-d) (by omega) (by omega) w
    rwa [Int.neg_neg] at this
/-- A slice of one byte as a text. -/
theorem run_byte1 (w : World) (x : Int) : (convert 141 9 (.slice (some ⟨w.heap.size, 0, none⟩) 1 1)).run Tryz.prog (w.alloc (.cells #[.int .u8 x] 5)) = .ok (.string ⟨#[UInt8.ofNat x.toNat]⟩) (w.alloc (.cells #[.int .u8 x] 5)) := by
  rw [run_convert_bytes_string _ _ _ 5 _ _ _ Tryz.underlying141 Tryz.underlying5 Tryz.underlying9]
  rw [run_bytesToString (ns := [x])]
  · rfl
  · exact run_loadCells_list _ _ [.int .u8 x] (fun j v hv => by
      match j, hv with
      | 0, hv => simp at hv; subst hv; simp [Addr.add])
theorem DecI.size {U u : Nat} {s : ByteArray} (h : DecI U u s) (hU : (U : Int) ≤ 9223372036854775808) : s.size ≤ 40 := by
  have hl : (Lib.decDigits U).length ≤ 40 := by
    by_cases h0 : U = 0
    · subst h0; rw [Lib.decDigits_one (by omega)]; simp
    · have := Lib.itoa_length_le (-(U : Int)) (by omega) (by omega)
      rw [Lib.itoa_neg U (by omega)] at this
      simp at this
      omega
  have e : s.size = s.data.toList.length := by rw [Array.length_toList]; rfl
  rcases h with ⟨h1, _⟩ | ⟨_, h2⟩
  · rw [e, h1]; simp
  · have := congrArg List.length h2
    rw [List.length_append] at this
    omega
theorem nil_of {t : ByteArray} (h : (t.toList == []) = true) : t.data.toList = [] := by rw [ByteArray.toList_eq] at h; simpa using h
theorem size_nil {t : ByteArray} (h : t.data.toList = []) : t.size = 0 := by
  have e : t.size = t.data.toList.length := by rw [Array.length_toList]; rfl
  rw [e, h]; rfl
theorem ne_of {t : ByteArray} (h : (t.toList == []) = false) : t.data.toList ≠ [] := by rw [ByteArray.toList_eq] at h; simpa using h
theorem str_of {t : ByteArray} {l : List UInt8} (h : t.data.toList = l) : Value.string t = .string ⟨l.toArray⟩ := by rw [← h]
def decM (s m : Value) : Nat := 2 * (intOf m).natAbs + (match s with | .string t => if t.size = 0 then 1 else 0 | _ => 0)
theorem decM_pos {s s' m m' : Value} (h : (intOf m').natAbs < (intOf m).natAbs) : decM s' m' < decM s m := by
  unfold decM
  have : ∀ v : Value, (match v with | .string t => if t.size = 0 then 1 else 0 | _ => 0) ≤ 1 := fun v => by split <;> (try split) <;> omega
  have h1 := this s'
  omega
theorem decM_zero {t t' : ByteArray} {m m' : Value} (h : (intOf m').natAbs ≤ (intOf m).natAbs) (h1 : t.size = 0) (h2 : t'.size ≠ 0) : decM (.string t') m' < decM (.string t) m := by
  show 2 * _ + (if t'.size = 0 then 1 else 0) < 2 * _ + (if t.size = 0 then 1 else 0)
  rw [if_pos h1, if_neg h2]; omega
set_option maxRecDepth 100000 in
set_option maxHeartbeats 1000000 in
theorem Decimal_pos (n : Int) (h0 : 0 ≤ n) (h1 : n ≤ 9223372036854775807) (w : World) :
    Calls Tryz.prog 79 #[.int .i64 n] w fun e w' => e = .returned (.string ⟨(Lib.itoa n).toArray⟩) ∧ Below w.heap.size w w' := by
  obtain ⟨U, rfl⟩ : ∃ U : Nat, n = U := ⟨n.toNat, by omega⟩
  have hI0 : Hid (DecI U U ⟨#[]⟩) := .inl ⟨rfl, rfl⟩
  go_enter Tryz.func79, Tryz.ntmps79
  go_wp2_with fail
  go_loopw [3, 4] (fun s m wr => ∃ (t : ByteArray) (u : Nat), s = .string t ∧ m = .int .i64 u ∧ u ≤ U ∧ Hid (DecI U u t) ∧ Hid (Below w.heap.size w wr)) (fun s m _ => decM s m)
  case atStart => exact ⟨_, U, rfl, rfl, Nat.le_refl _, hI0, Below.refl _ _⟩
  case round =>
    obtain ⟨t, u, rfl, rfl, hu, hI, hb⟩ := hrel
    clear hI0
    have hd0 : 0 ≤ (u : Int) % 10 := by omega
    have hd9 : (u : Int) % 10 ≤ 9 := by omega
    cases ht : t.toList == []
    · by_cases hu0 : u = 0
      · have hfin : Hid (t.data.toList = Lib.decDigits U) := hI.out.toDone hu0 (ne_of ht)
        have hne : ((u : Int) != 0) = false := by simp; omega
        go_wp2_with fail
        go_ret
        exact ⟨by rw [str_of hfin.out, Lib.itoa_nonneg]; rfl, hb.out⟩
      · have hne : ((u : Int) != 0) = true := by simp; omega
        have hts := hI.out.size (by omega)
        have hcv := run_byte1 wr (48 + (u : Int) % 10)
        have hst : Hid (∀ x : ByteArray, x.data.toList = UInt8.ofNat (48 + u % 10) :: t.data.toList → DecI U (u / 10) x) := Lib.hid fun x hx => hI.out.step (by first | exact .inl (nil_of ht) | exact .inr hu0) hx
        go_wp2_with fail
        refine (AbsD_pos _ hd0 hd9 _).mono ?_
        rintro e w1 ⟨rfl, rfl⟩
        go_wp2_with fail
        go_roundw
        case rel => exact ⟨_, u / 10, rfl, by go_num, by omega, hst.out _ (by simp), hb.out.alloc hb.out.size _⟩
        case measure => first | exact decM_pos (by simp [intOf]; omega) | exact decM_zero (by simp [intOf]; omega) (size_nil (nil_of ht)) (by rw [ByteArray.size_append]; show 1 + _ ≠ 0; omega)
    · have hts := hI.out.size (by omega)
      have hcv := run_byte1 wr (48 + (u : Int) % 10)
      have hst : Hid (∀ x : ByteArray, x.data.toList = UInt8.ofNat (48 + u % 10) :: t.data.toList → DecI U (u / 10) x) := Lib.hid fun x hx => hI.out.step (by first | exact .inl (nil_of ht) | exact .inr hu0) hx
      go_wp2_with fail
      refine (AbsD_pos _ hd0 hd9 _).mono ?_
      rintro e w1 ⟨rfl, rfl⟩
      go_wp2_with fail
      go_roundw
      case rel => exact ⟨_, u / 10, rfl, by go_num, by omega, hst.out _ (by simp), hb.out.alloc hb.out.size _⟩
      case measure => first | exact decM_pos (by simp [intOf]; omega) | exact decM_zero (by simp [intOf]; omega) (size_nil (nil_of ht)) (by rw [ByteArray.size_append]; show 1 + _ ≠ 0; omega)
set_option maxRecDepth 100000 in
set_option maxHeartbeats 1000000 in
theorem Decimal_neg (n : Int) (h0 : n < 0) (h1 : -9223372036854775808 ≤ n) (w : World) :
    Calls Tryz.prog 79 #[.int .i64 n] w fun e w' => e = .returned (.string ⟨(Lib.itoa n).toArray⟩) ∧ Below w.heap.size w w' := by
  obtain ⟨U, rfl⟩ : ∃ U : Nat, n = -(U : Int) := ⟨n.natAbs, by omega⟩
  have hI0 : Hid (DecI U U ⟨#[]⟩) := .inl ⟨rfl, rfl⟩
  go_enter Tryz.func79, Tryz.ntmps79
  go_wp2_with fail
  go_loopw [3, 4] (fun s m wr => ∃ (t : ByteArray) (u : Nat), s = .string t ∧ m = .int .i64 (-(u : Int)) ∧ u ≤ U ∧ Hid (DecI U u t) ∧ Hid (Below w.heap.size w wr)) (fun s m _ => decM s m)
  case atStart => exact ⟨_, U, rfl, rfl, Nat.le_refl _, hI0, Below.refl _ _⟩
  case round =>
    obtain ⟨t, u, rfl, rfl, hu, hI, hb⟩ := hrel
    clear hI0
    have hd0 : 0 ≤ (u : Int) % 10 := by omega
    have hd9 : (u : Int) % 10 ≤ 9 := by omega
    cases ht : t.toList == []
    · by_cases hu0 : u = 0
      · have hts := hI.out.size (by omega)
        have hfin : Hid (t.data.toList = Lib.decDigits U) := hI.out.toDone hu0 (ne_of ht)
        have hne : ((-(u : Int)) != 0) = false := by simp; omega
        go_wp2_with fail
        go_ret
        exact ⟨by show Ending.returned (Value.string (⟨#[45]⟩ ++ t)) = _; rw [str_of (l := 45 :: Lib.decDigits U) (by simp [hfin.out]), Lib.itoa_neg U (by omega)], hb.out⟩
      · have hne : ((-(u : Int)) != 0) = true := by simp; omega
        have hts := hI.out.size (by omega)
        have hcv := run_byte1 wr (48 + (u : Int) % 10)
        have hst : Hid (∀ x : ByteArray, x.data.toList = UInt8.ofNat (48 + u % 10) :: t.data.toList → DecI U (u / 10) x) := Lib.hid fun x hx => hI.out.step (by first | exact .inl (nil_of ht) | exact .inr hu0) hx
        go_wp2_with fail
        refine (AbsD_opp _ hd0 hd9 _).mono ?_
        rintro e w1 ⟨rfl, rfl⟩
        go_wp2_with fail
        go_roundw
        case rel => exact ⟨_, u / 10, rfl, by go_num, by omega, hst.out _ (by simp), hb.out.alloc hb.out.size _⟩
        case measure => first | exact decM_pos (by simp [intOf]; omega) | exact decM_zero (by simp [intOf]; omega) (size_nil (nil_of ht)) (by rw [ByteArray.size_append]; show 1 + _ ≠ 0; omega)
    · have hts := hI.out.size (by omega)
      have hcv := run_byte1 wr (48 + (u : Int) % 10)
      have hst : Hid (∀ x : ByteArray, x.data.toList = UInt8.ofNat (48 + u % 10) :: t.data.toList → DecI U (u / 10) x) := Lib.hid fun x hx => hI.out.step (by first | exact .inl (nil_of ht) | exact .inr hu0) hx
      go_wp2_with fail
      refine (AbsD_opp _ hd0 hd9 _).mono ?_
      rintro e w1 ⟨rfl, rfl⟩
      go_wp2_with fail
      go_roundw
      case rel => exact ⟨_, u / 10, rfl, by go_num, by omega, hst.out _ (by simp), hb.out.alloc hb.out.size _⟩
      case measure => first | exact decM_pos (by simp [intOf]; omega) | exact decM_zero (by simp [intOf]; omega) (size_nil (nil_of ht)) (by rw [ByteArray.size_append]; show 1 + _ ≠ 0; omega)
/-- Decimal writes a number as strconv.Itoa does. -/
theorem Decimal_any (n : Int) (h0 : -9223372036854775808 ≤ n) (h1 : n ≤ 9223372036854775807) (w : World) :
    Calls Tryz.prog 79 #[.int .i64 n] w fun e w' => e = .returned (.string ⟨(Lib.itoa n).toArray⟩) ∧ Below w.heap.size w w' := by
  by_cases h : 0 ≤ n
  · exact Decimal_pos n h h1 w
  · exact Decimal_neg n (by omega) h0 w
end Go.Proofs.YtbinoelbjlgjkaaGreatDoor
