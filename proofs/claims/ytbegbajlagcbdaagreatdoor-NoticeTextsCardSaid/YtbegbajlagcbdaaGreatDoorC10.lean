/- Chapter 8 and what it rests on: definitions and walks, part 10. -/
import Derived.Test.YtbegbajlagcbdaaGreatDoorC09
import Derived.Test.YtbegbajlagcbdaaGreatDoorC07
import Derived.Laws.Externs
import Derived.Laws.IdiomCopy
import Derived.Laws.Concat
import Derived.Lib.AppendIntMem
import Derived.Lib.ItoaLen
import Derived.Test.YtbegbajlagcbdaaGreatDoorC08
import Derived.Test.YtbegbajlagcbdaaGreatDoorC01
import Derived.LaidLaws
import Derived.ChangeVars
import Derived.JoinedOf
import Derived.Test.YtbegbajlagcbdaaGreatDoorC05
namespace Go.Proofs.YtbegbajlagcbdaaGreatDoor
open Go Go.RowKit Go.Shelf
set_option maxHeartbeats 1000000 in
set_option maxRecDepth 100000 in
theorem copyCheck_used (b : Nat) (w : World) (h0 : w.cell? ⟨b, 0, none⟩ = some (.pointer (some ⟨b, 0, none⟩))) :
    Calls Tryz.prog 152 #[.pointer (some ⟨b, 0, none⟩)] w fun e w' => e = .returned (.tuple #[]) ∧ w' = w := by
  obtain ⟨j, hj, _⟩ := Option.map_eq_some_iff.1 Tryz.Builder_Extra_169.sizeBuilder
  go_enter Tryz.func152, Tryz.ntmps152
  go_wp2
  rw [Lib.run_neq_ptr_same w _ Tryz.underlying168 hj]
  go_wp2
  go_end0
  exact ⟨rfl, rfl⟩
set_option maxHeartbeats 1000000 in
set_option maxRecDepth 100000 in
theorem copyCheck_fresh (b : Nat) (w : World) (h0 : w.cell? ⟨b, 0, none⟩ = some (.pointer none)) (hsh : w.shape? b = some (171, 2)) (hfz : w.frozen? ⟨b, 0, none⟩ = false) :
    Calls Tryz.prog 152 #[.pointer (some ⟨b, 0, none⟩)] w fun e w' => e = .returned (.tuple #[]) ∧ w' = w.setCell ⟨b, 0, none⟩ (.pointer (some ⟨b, 0, none⟩)) := by
  obtain ⟨j, hj, hjs⟩ := Option.map_eq_some_iff.1 Tryz.Builder_Extra_169.sizeBuilder
  go_enter Tryz.func152, Tryz.ntmps152
  go_wp2
  rw [Lib.run_to_unsafe w ⟨b, 0, none⟩ Tryz.underlying168 Tryz.underlying281 hj (by rw [hjs]; decide) hsh (Nat.zero_lt_succ 1)]
  simp only [Result.andThen]
  rw [Oper.upon_value]
  go_wp2
  rw [run_callFunc_extern Tryz.func214 (by kernel_rfl) (by kernel_rfl) (by kernel_rfl) (e := Extern.AbiNoEscape.same) (by kernel_rfl)]
  rw [Lib.run_noEscape]
  simp only [Result.andThen]
  rw [Oper.upon_value]
  go_wp2
  rw [Lib.run_from_unsafe w ⟨b, 0, none⟩ Tryz.underlying281 Tryz.underlying168 hj hsh Tryz.Builder_Extra_169.liesBuilder]
  simp only [Result.andThen]
  rw [Oper.upon_value]
  go_wp2
  go_end0
  exact ⟨rfl, rfl⟩
theorem copyCheck_any (B b : Nat) (bs : List Value) (w : World) (h : Lib.IsBuilderF 171 5 B b bs w) :
    Calls Tryz.prog 152 #[.pointer (some ⟨b, 0, none⟩)] w fun e w' => e = .returned (.tuple #[]) ∧ (Lib.BuilderAtF 171 5 B b (.pointer (some ⟨b, 0, none⟩)) bs w' ∧ Below B w w' ∧ Lib.OthersKept 5 (some b) w w') := by
  rcases h with h | h
  · refine (copyCheck_fresh b w h.cell0 h.shape h.frozen0).mono ?_
    rintro e w' ⟨rfl, rfl⟩
    exact ⟨rfl, h.used _, (Below.refl B w).setCell (p := ⟨b, 0, none⟩) h.1 _, (Lib.OthersKept.refl _ _ w).setCell ⟨b, 0, none⟩ rfl _⟩
  · refine (copyCheck_used b w h.cell0).mono ?_
    rintro e w' ⟨rfl, rfl⟩
    exact ⟨rfl, h, Below.refl B _, Lib.OthersKept.refl _ _ _⟩
set_option maxHeartbeats 2000000 in
set_option maxRecDepth 100000 in
theorem WriteString_any (B b : Nat) (bs : List Value) (s : ByteArray) (w : World) (h : Lib.IsBuilderF 171 5 B b bs w) (hlen : bs.length + s.size ≤ 140737488355328) (hBw : B ≤ w.heap.size) :
    Calls Tryz.prog 92 #[.pointer (some ⟨b, 0, none⟩), .string s] w fun e w' => e = .returned (.tuple #[.int .i64 s.size, .nilIface]) ∧ (Lib.BuilderAtF 171 5 B b (.pointer (some ⟨b, 0, none⟩)) (bs ++ Lib.strCells s) w' ∧ Below B w w' ∧ Lib.OthersKept 5 (some b) w w') := by
  obtain ⟨i0, hi, hz0, hz1, hz2⟩ := info_parts Tryz.Builder_Extra_169.infoByte
  go_enter Tryz.func92, Tryz.ntmps92
  go_wp2_with (go_at_call 152; refine (copyCheck_any B b bs _ h).mono ?_)
  rintro e w1 ⟨rfl, h1, hb1, hk1⟩
  obtain ⟨hB, v, hbk, hown, hne⟩ := h1
  have c0 : w1.cell? ⟨b, 0, none⟩ = some (.pointer (some ⟨b, 0, none⟩)) := by rw [Lib.cell_of_heap hbk]; rfl
  have c1 : w1.cell? ⟨b, 1, none⟩ = some v := by rw [Lib.cell_of_heap hbk]; rfl
  go_wp2_with (at_builtin; refine Lib.wpList_append_own_stringF _ rfl _ _ 169 9 rfl B 5 i0 Tryz.underlying169 Tryz.underlying9 hi hz0 hz1 hz2 _ _ _ rfl hown s rfl ?c3 ?c4 ?c5 ?_)
  case c3 => unfold maxLen; omega
  case c4 => omega
  case c5 => have := hb1.size; omega
  intro v' w2 hown' hgrow _
  have hlt : b < w1.heap.size := by
    rcases Nat.lt_or_ge b w1.heap.size with h' | h'
    · exact h'
    · simp [Array.getElem?_eq_none h'] at hbk
  have hb2 : w2.heap[b]? = some (.cells #[.pointer (some ⟨b, 0, none⟩), v] 171 (0, 0)) := by
    rw [hgrow.block b hlt (fun e => hne e.symm)]
    exact hbk
  have d0 : w2.cell? ⟨b, 0, none⟩ = some (.pointer (some ⟨b, 0, none⟩)) := by rw [Lib.cell_of_heap hb2]; rfl
  have d1 : w2.cell? ⟨b, 1, none⟩ = some v := by rw [Lib.cell_of_heap hb2]; rfl
  have f1 : w2.frozen? ⟨b, 1, none⟩ = false := Lib.frozen_of_heap hb2 1
  obtain ⟨ao, n', cap, rfl⟩ : ∃ ao n' cap, v' = .slice ao n' cap := by
    rcases hown'.2 with ⟨hv, _⟩ | ⟨g, cap, cur, fz, hv, _⟩
    · exact ⟨_, _, _, hv⟩
    · exact ⟨_, _, _, hv⟩
  go_wp2
  go_ret2
  refine ⟨rfl, ?_, ?_, (hk1.grown hgrow (Lib.ownsRowF_kind hown)).setCell ⟨b, 1, none⟩ rfl _⟩
  · exact Lib.BuilderAtF.put (T := 171) (e := 5) hB hb2 (bs' := bs ++ Lib.strCells s) (by simpa [Lib.strCells_length] using hown') Tryz.Builder_Extra_169.neB5
  · exact (hb1.grown hgrow (by have := hb1.size; omega) (fun k hk => (hown.lt k hk).1)).setCell (p := ⟨b, 1, none⟩) hB _
/-- A builder that holds a text. -/
def Bld (B b : Nat) (l : Cal.Txt) (w : World) : Prop := Lib.IsBuilderF 171 5 B b (Lib.byteCells l) w
theorem bld_new (w : World) : Bld w.heap.size w.heap.size [] (w.alloc (.cells #[.pointer none, .slice none 0 0] 171)) := Lib.IsBuilderF.of (Lib.fresh_isBuilder _ _ _)
def KeptPost (B b : Nat) (l : Cal.Txt) (w : World) (e : Ending) (w' : World) : Prop := (∃ n : Int, e = .returned (.tuple #[.int .i64 n, .nilIface])) ∧ Bld B b l w' ∧ Below B w w' ∧ Lib.OthersKept 5 (some b) w w'
theorem byteCells_app (l r : List UInt8) : Lib.byteCells (l ++ r) = Lib.byteCells l ++ Lib.byteCells r := by unfold Lib.byteCells; rw [List.map_append]
theorem Write_txt (B b : Nat) (l : Cal.Txt) (s : ByteArray) (r : Cal.Txt) (w : World) (hs : s.data.toList = r) (h : Bld B b l w) (hlen : l.length + r.length ≤ 1000000) (hBw : B ≤ w.heap.size) :
    Calls Tryz.prog 92 #[.pointer (some ⟨b, 0, none⟩), .string s] w (KeptPost B b (l ++ r) w) := by
  have e : s.size = r.length := by rw [← hs, Array.length_toList]; rfl
  have e2 : (Lib.byteCells l).length = l.length := by unfold Lib.byteCells; rw [List.length_map]
  refine (WriteString_any B b (Lib.byteCells l) s w h (by rw [e2, e]; omega) hBw).mono ?_
  rintro e w' ⟨rfl, h1, h2, h3⟩
  refine ⟨⟨_, rfl⟩, ?_, h2, h3⟩
  have e3 : Lib.strCells s = Lib.byteCells r := by rw [← hs]; rfl
  rw [e3, ← byteCells_app] at h1
  exact .inr h1
theorem TextsL.others {w w' : World} {B b : Nat} {v : Value} {zs : List Cal.Txt} (h : TextsL w B v zs) (hk : Lib.OthersKept 5 (some b) w w') (hb : v.ownBlock ≠ some b) : TextsL w' B v zs := by
  refine TextsL.of ?_
  rcases h.own.2 with ⟨h1, h2⟩ | ⟨g, cap, cur, hv, hB, hg, h1, h2, h3, h4⟩
  · exact ⟨h.own.1, .inl ⟨h1, h2⟩⟩
  · refine ⟨h.own.1, .inr ⟨g, cap, cur, hv, hB, ?_, h1, h2, h3, h4⟩⟩
    exact hk g _ hg (fun e => hb (by rw [hv]; exact e)) (fun c fz e => by injection e with _ e _; exact absurd e (by decide))
theorem Bld.below {w w' : World} {B b : Nat} {l : Cal.Txt} (h : Bld B b l w) (hb : Below w.heap.size w w') : Bld B b l w' := by
  have one : ∀ p, Lib.BuilderAtF 171 5 B b p (Lib.byteCells l) w → Lib.BuilderAtF 171 5 B b p (Lib.byteCells l) w' := fun p ⟨hB, v, hbk, hown, hne⟩ =>
    ⟨hB, v, (hb.block b (Array.getElem?_eq_some_iff.1 hbk).1).trans hbk, hown.kept (row := none) ⟨hb.os, hb.tape, hb.output, hb.size, fun k hk _ => hb.block k hk⟩ (by cases v.ownBlock <;> simp), hne⟩
  exact h.elim (fun x => .inl (one _ x)) (fun x => .inr (one _ x))
theorem Bld.lt {w : World} {B b : Nat} {l : Cal.Txt} (h : Bld B b l w) : b < w.heap.size := by
  rcases h with ⟨_, v, hbk, _⟩ | ⟨_, v, hbk, _⟩ <;> exact (Array.getElem?_eq_some_iff.1 hbk).1
theorem String_any (B b : Nat) (l : Cal.Txt) (w : World) (h : Bld B b l w) (hBw : B ≤ w.heap.size) :
    Calls Tryz.prog 93 #[.pointer (some ⟨b, 0, none⟩)] w fun e w' => e = .returned (.string ⟨l.toArray⟩) ∧ Bld B b l w' ∧ Below B w w' := Tryz.Builder_String_any_f B b l w h hBw
/-- The table that strconv.Itoa reads, as its initialiser lays it. -/
def Pow (w : World) : Prop := Lib.TabIs Tryz.prog w "internal/strconv.uint64pow10" .u64 Lib.pow10Tab
theorem Pow.below {w w' : World} (h : Pow w) (hb : Below w.heap.size w w') : Pow w' := Lib.tabBelow_of_tabIs h w' hb
def NumPost (w : World) (n : Int) (e : Ending) (w' : World) : Prop := ∃ d : ByteArray, e = .returned (.string d) ∧ d.data.toList = Lib.itoa n ∧ d.size ≤ 21 ∧ Below w.heap.size w w'
theorem num_size {n : Int} (h0 : -9223372036854775808 ≤ n) (h1 : n ≤ 9223372036854775807) : (⟨(Lib.itoa n).toArray⟩ : ByteArray).size ≤ 21 := by
  have e : (⟨(Lib.itoa n).toArray⟩ : ByteArray).size = (Lib.itoa n).length := by show (Lib.itoa n).toArray.size = _; rw [List.size_toArray]
  rw [e]; exact Lib.itoa_length_le n h0 h1
theorem Itoa_any (n : Int) (h0 : -9223372036854775808 ≤ n) (h1 : n ≤ 9223372036854775807) (w : World) (hP : Pow w) : Calls Tryz.prog 87 #[.int .i64 n] w (NumPost w n) := by
  refine (Tryz.strconv_Itoa n h0 h1 w hP).mono ?_
  rintro e w' ⟨rfl, k, os, rfl⟩
  exact ⟨_, rfl, by simp, num_size h0 h1, below_of_drewN (n := k) (grow_below _ os)⟩
end Go.Proofs.YtbegbajlagcbdaaGreatDoor
namespace Go.Proofs.YtbegbajlagcbdaaGreatDoor
open Go Go.RowKit
theorem lt_of_cell {w : World} {a : Addr} {v : Value} (h : w.cell? a = some v) : a.block < w.heap.size := by
  cases hb : w.heap[a.block]? with
  | none => unfold World.cell? at h; rw [hb] at h; simp at h
  | some o => exact (Array.getElem?_eq_some_iff.1 hb).1
/-- What the library's variables hold that the texts' functions read. -/
structure TxtT (w : World) : Prop where
  pow : Pow w
  syn : ∃ t p, w.cell? ⟨3, 0, none⟩ = some (.iface t p)
  ran : ∃ t p, w.cell? ⟨4, 0, none⟩ = some (.iface t p)
  max : ∃ m : Int, w.cell? ⟨1, 0, none⟩ = some (.int .i64 m)
theorem TxtT.below {w w' : World} (h : TxtT w) (hb : Below w.heap.size w w') : TxtT w' := by
  obtain ⟨t1, p1, h1⟩ := h.syn
  obtain ⟨t2, p2, h2⟩ := h.ran
  obtain ⟨m, h3⟩ := h.max
  exact ⟨h.pow.below hb, ⟨t1, p1, (hb.cell (lt_of_cell h1)).trans h1⟩, ⟨t2, p2, (hb.cell (lt_of_cell h2)).trans h2⟩, ⟨m, (hb.cell (lt_of_cell h3)).trans h3⟩⟩
set_option maxRecDepth 100000 in
set_option maxHeartbeats 4000000 in
theorem number_any (s : ByteArray) (w : World) (hT : TxtT w) (hs : s.size ≤ 1000000) : Calls Tryz.prog 144 #[.string s] w (NumRes w (Cal.numR s.data.toList)) := by
  cases hA : Lib.atoiAll s.data.toList with
  | ok v =>
    obtain ⟨v0, v1⟩ := Lib.atoiAll_bounds hA
    have hR : Cal.numR s.data.toList = (v, decide (Lib.itoa v = s.data.toList) && decide ((Lib.trimPrefix s.data.toList [45]).length ≤ 10)) := by unfold Cal.numR; rw [hA]
    have hR := Lib.hid hR
    have hA := Lib.hid hA
    have hP := Lib.hid hT.pow
    clear hT
    go_enter Tryz.func144, Tryz.ntmps144
    go_wp2_with fail
    refine (Tryz.strconv_Atoi_ok s (by omega) v hA.out _).mono ?_
    rintro e w1 ⟨rfl, hw⟩
    have hb : Below w.heap.size w w1 := by
      rcases hw with rfl | ⟨t, rfl⟩
      · exact Below.refl _ _
      · exact Lib.bytesWorld_below _ _ _
    have hb := Lib.hid hb
    clear hw
    go_wp2_with fail
    refine (Itoa_any v v0 v1 _ (hP.out.below hb.out)).mono ?_
    rintro e w2 ⟨d, rfl, hd, _, hb2⟩
    have hq := beq_list (b := s) hd
    have hb := Lib.hid (below_step hb.out hb2)
    clear hd hb2
    obtain ⟨bb, hbb⟩ : ∃ bb, bb = decide (Lib.itoa v = s.data.toList) := ⟨_, rfl⟩
    rw [← hbb] at hq
    have hR2 := hR.out
    rw [← hbb] at hR2
    have hR := Lib.hid hR2
    clear hbb hR2
    cases bb
    · go_wp2_with fail
      go_ret2
      exact ⟨by rw [hR.out]; rfl, hb.out⟩
    · go_wp2_with fail
      refine (Tryz.strings_TrimPrefix s ⟨#[45]⟩ _).mono ?_
      rintro e w3 ⟨rfl, rfl⟩
      have hlen : (⟨(Lib.trimPrefix s.data.toList [45]).toArray⟩ : ByteArray).size = (Lib.trimPrefix s.data.toList [45]).length := by show Array.size _ = _; simp
      obtain ⟨tp, htp⟩ : ∃ tp : ByteArray, tp = ⟨(Lib.trimPrefix s.data.toList [45]).toArray⟩ := ⟨_, rfl⟩
      rw [← htp] at hlen
      rw [show (⟨(Lib.trimPrefix s.data.toList (⟨#[45]⟩ : ByteArray).data.toList).toArray⟩ : ByteArray) = tp from htp.symm]
      have hR2 := hR.out
      rw [← hlen] at hR2
      have hR := Lib.hid hR2
      clear htp hlen hR2
      by_cases h10 : tp.size ≤ 10
      · have hR : Hid (Cal.numR s.data.toList = (v, true)) := by show _ = _; rw [hR.out]; simp [h10]
        have h10' : decide (tp.size ≤ 10) = true := by simpa using h10
        have h10'' : decide ((tp.size : Int) ≤ 10) = true := decide_eq_true (by omega)
        go_wp2_with fail
        go_ret2
        exact ⟨by rw [hR.out]; rfl, hb.out⟩
      · have hR : Hid (Cal.numR s.data.toList = (v, false)) := by show _ = _; rw [hR.out]; simp [h10]
        have h10' : decide (tp.size ≤ 10) = false := by simpa using h10
        have h10'' : decide ((tp.size : Int) ≤ 10) = false := decide_eq_false (by omega)
        clear h10
        go_wp2_with fail
        go_ret2
        exact ⟨by rw [hR.out]; rfl, hb.out⟩
  | «syntax» =>
    have hR := Lib.hid (show Cal.numR s.data.toList = (0, false) by unfold Cal.numR; rw [hA])
    obtain ⟨t, p, hc⟩ := hT.syn
    have hA := Lib.hid hA
    have hc := Lib.hid hc
    clear hT
    go_enter Tryz.func144, Tryz.ntmps144
    go_wp2_with fail
    refine (Tryz.strconv_Atoi_syntax s (by omega) hA.out _ _ hc.out (.inr ⟨_, _, rfl⟩)).mono ?_
    rintro e w1 ⟨N, rfl, _, _, hb⟩
    have hb := Lib.hid hb
    go_wp2_with fail
    go_ret2
    exact ⟨by rw [hR.out]; rfl, hb.out⟩
  | range =>
    have hR := Lib.hid (show Cal.numR s.data.toList = (Lib.atoiSat s.data.toList, false) by unfold Cal.numR; rw [hA])
    obtain ⟨t, p, hc⟩ := hT.ran
    have hA := Lib.hid hA
    have hc := Lib.hid hc
    clear hT
    go_enter Tryz.func144, Tryz.ntmps144
    go_wp2_with fail
    refine (Tryz.strconv_Atoi_range s (by omega) hA.out _ _ hc.out (.inr ⟨_, _, rfl⟩)).mono ?_
    rintro e w1 ⟨N, rfl, _, _, hb⟩
    have hb := Lib.hid hb
    go_wp2_with fail
    go_ret2
    exact ⟨by rw [hR.out]; rfl, hb.out⟩
end Go.Proofs.YtbegbajlagcbdaaGreatDoor
namespace Go.Proofs.YtbegbajlagcbdaaGreatDoor
open Go Go.RowKit Go.ChangeShapes Go.WideShapes Go.Deep
theorem laid_rest {P : Program} {x : String × DataW Unit} {r : List (String × DataW Unit)} {w : World} (h : laidMet P (x :: r) w) : laidMet P r w := by
  obtain ⟨ps, hv, hnd, hrows⟩ := h
  obtain ⟨n, d⟩ := x
  obtain ⟨g, t, cs, fuel, p, q, _, _, _, _, hq, rfl⟩ := hv
  exact ⟨q, hq, List.Nodup.sublist (List.sublist_append_right _ _) hnd, fun b off hm => hrows b off (List.mem_append_right _ hm)⟩
theorem gPow : Tryz.prog.globalNamed "internal/strconv.uint64pow10" = some 2 := by kernel_rfl
theorem gPowType : (Tryz.prog.globals[2]?).map (·.type) = some 329 := by kernel_rfl
theorem cellsPow : Tryz.prog.cellsOf 329 = 20 := by kernel_rfl
theorem cellsU64 : Tryz.prog.cellsOf 253 = 1 := by kernel_rfl
theorem pow_of {W : World} {r : List (String × DataW Unit)} (h : laidMet Tryz.prog (("internal/strconv.uint64pow10", Rows.laid_internal_strconv_uint64pow10) :: r) W) : Pow W :=
  Lib.tabIs_of_head (rest := r) gPow gPowType Tryz.underlying329 Tryz.underlying253 cellsU64 cellsPow h
theorem tabs_of4 {W : World} (h : laidMetH Tryz.prog [("math/bits.deBruijn32tab", Rows.laid_math_bits_deBruijn32tab), ("math/bits.deBruijn64tab", Rows.laid_math_bits_deBruijn64tab), ("internal/strconv.uint64pow10", Rows.laid_internal_strconv_uint64pow10), ("mortsafe/rule.lengths", Rows.laid_mortsafe_rule_lengths)] W) : Tab W ∧ Pow W := by
  have h' : laidMet Tryz.prog [("math/bits.deBruijn32tab", Rows.laid_math_bits_deBruijn32tab), ("math/bits.deBruijn64tab", Rows.laid_math_bits_deBruijn64tab), ("internal/strconv.uint64pow10", Rows.laid_internal_strconv_uint64pow10), ("mortsafe/rule.lengths", Rows.laid_mortsafe_rule_lengths)] W := h
  exact ⟨tab_of (laid_rest (laid_rest (laid_rest h'))), pow_of (laid_rest (laid_rest h'))⟩
theorem and_tt {a b : Bool} (h1 : a = true) (h2 : b = true) : (a && b) = true := by rw [h1, h2]; rfl
/-- The cells of a table of numbers. -/
def litCells : DataW Unit → Array Value
  | .agg xs => (xs.map fun | .lit (.int k z) => Value.int k z | _ => undef).toArray
  | _ => #[]
def layAt (g : Nat) (d : DataW Unit) (w : World) : World :=
  { w with heap := w.heap.modify g fun
      | .cells _ t frozen => .cells (litCells d) t frozen
      | o => o }
/-- A world at the program's start, with the four listed tables laid. -/
noncomputable def laidWorld4 (os : Os) : World :=
  layAt 0 Rows.laid_mortsafe_rule_lengths (layAt 2 Rows.laid_internal_strconv_uint64pow10 (layAt 7 Rows.laid_math_bits_deBruijn32tab (layAt 8 Rows.laid_math_bits_deBruijn64tab (World.holding Tryz.prog os ⟨#[], #[], []⟩))))
end Go.Proofs.YtbegbajlagcbdaaGreatDoor
namespace Go.Proofs.YtbegbajlagcbdaaGreatDoor
open Go Go.ChangeShapes Go.WideShapes Go.RowKit
theorem starE : "*" ++ "errors.errorString" = "*errors.errorString" := by decide
theorem rowE (u : TypeId) (h : Tryz.prog.typeName? 3 u = some "*errors.errorString") : u = 347 :=
  typeName_ptr_named (nm := "errors.errorString") (by rw [starE]; kernel_rfl) (by kernel_rfl) (by decide) u (by rw [starE]; exact h)
theorem cellsE : Tryz.prog.cellsOf 349 = 1 := by kernel_rfl
theorem cellsStr : Tryz.prog.cellsOf 9 = 1 := by kernel_rfl
set_option maxRecDepth 100000 in
theorem err_of_head {n : String} {g : Nat} {bytes : List UInt8} {r : List (String × DataW Unit)} {W : World} (hg : Tryz.prog.globalNamed n = some g) (ht : (Tryz.prog.globals[g]?).map (·.type) = some 173)
    (h : laidMet Tryz.prog ((n, .iface "*errors.errorString" (.ptr (.agg [.lit (.string bytes)]))) :: r) W) : ∃ t p, W.cell? ⟨g, 0, none⟩ = some (.iface t p) := by
  obtain ⟨ps, ⟨g0, t0, cs0, f0, p0, q0, hg0, ht0, hv0, hd0, hq0, e0⟩, hnd, hrows⟩ := h
  obtain rfl := Option.some.inj (hg.symm.trans hg0)
  obtain rfl := Option.some.inj (ht.symm.trans ht0)
  subst e0
  obtain ⟨l0⟩ := cs0
  have ok0 : ∀ u v, l0 = [.iface u v] → Value.okWide Tryz.prog W .any 0 u v := fun u v e => by
    subst e
    exact (hrows g 0 (by simp [MemPlace.row])).2 u v (by simpa using World.var?_cell hg0 hv0 0)
  obtain ⟨a0, s0, rfl, hc0, hs0, hz0, rfl⟩ := errorString_of_trod Tryz.underlying173 rowE Tryz.underlying347 Tryz.underlying349 rfl rfl Tryz.underlying9 cellsE cellsStr hd0 ok0
  exact ⟨_, _, by simpa using World.var?_cell hg0 hv0 0⟩
theorem laid_head {P : Program} {x : String × DataW Unit} {r : List (String × DataW Unit)} {w : World} (h : laidMet P (x :: r) w) : laidMet P [x] w := by
  obtain ⟨ps, hv, hnd, hrows⟩ := h
  obtain ⟨n, d⟩ := x
  obtain ⟨g, t, cs, fuel, p, q, h1, h2, h3, h4, hq, rfl⟩ := hv
  refine ⟨_, ⟨g, t, cs, fuel, p, [], h1, h2, h3, h4, rfl, rfl⟩, ?_, ?_⟩
  · rw [List.append_nil]; exact List.Nodup.sublist (List.sublist_append_left _ _) hnd
  · intro b off hm; rw [List.append_nil] at hm; exact hrows b off (List.mem_append_left _ hm)
theorem gSyn : Tryz.prog.globalNamed "strconv.ErrSyntax" = some 3 := by kernel_rfl
theorem gSynT : (Tryz.prog.globals[3]?).map (·.type) = some 173 := by kernel_rfl
theorem gRan : Tryz.prog.globalNamed "strconv.ErrRange" = some 4 := by kernel_rfl
theorem gRanT : (Tryz.prog.globals[4]?).map (·.type) = some 173 := by kernel_rfl
theorem tabs_of8 {W : World} (h : laidMetH Tryz.prog [("math/bits.deBruijn32tab", Rows.laid_math_bits_deBruijn32tab), ("math/bits.deBruijn64tab", Rows.laid_math_bits_deBruijn64tab), ("internal/strconv.uint64pow10", Rows.laid_internal_strconv_uint64pow10), ("unicode/utf8.acceptRanges", Rows.laid_unicode_utf8_acceptRanges), ("strconv.ErrRange", Rows.laid_strconv_ErrRange), ("strconv.ErrSyntax", Rows.laid_strconv_ErrSyntax), ("mortsafe/rule.lengths", Rows.laid_mortsafe_rule_lengths), ("unicode/utf8.first", Rows.laid_unicode_utf8_first)] W) (hsh : W.ShapedOpen Tryz.prog) : Tab W ∧ TxtT W := by
  have h' : laidMet Tryz.prog [("math/bits.deBruijn32tab", Rows.laid_math_bits_deBruijn32tab), ("math/bits.deBruijn64tab", Rows.laid_math_bits_deBruijn64tab), ("internal/strconv.uint64pow10", Rows.laid_internal_strconv_uint64pow10), ("unicode/utf8.acceptRanges", Rows.laid_unicode_utf8_acceptRanges), ("strconv.ErrRange", Rows.laid_strconv_ErrRange), ("strconv.ErrSyntax", Rows.laid_strconv_ErrSyntax), ("mortsafe/rule.lengths", Rows.laid_mortsafe_rule_lengths), ("unicode/utf8.first", Rows.laid_unicode_utf8_first)] W := h
  have h3 := laid_rest (laid_rest h')
  have h5 := laid_rest (laid_rest h3)
  have h6 := laid_rest h5
  have h7 := laid_rest h6
  exact ⟨tab_of (laid_head h7), pow_of h3, err_of_head gSyn gSynT h6, err_of_head gRan gRanT h5, Tryz.laysM146.s1_3 W hsh⟩
def flatCells : DataW Unit → Array Value
  | .agg xs => (xs.flatMap fun | .lit (.int k z) => [Value.int k z] | .agg ys => (ys.map fun | .lit (.int k z) => Value.int k z | _ => undef) | _ => [undef]).toArray
  | _ => #[]
def layFlat (g : Nat) (d : DataW Unit) (w : World) : World :=
  { w with heap := w.heap.modify g fun
      | .cells _ t frozen => .cells (flatCells d) t frozen
      | o => o }
def layErr (g : Nat) (txt : List UInt8) (w : World) : World :=
  { w with heap := (w.heap.push (.cells #[.string ⟨txt.toArray⟩] 349 (0, 0))).modify g fun
      | .cells _ t frozen => .cells #[.iface 347 (.pointer (some ⟨w.heap.size, 0, none⟩))] t frozen
      | o => o }
/-- A world at the program's start, with the eight listed variables laid. -/
noncomputable def laidWorld8 (os : Os) : World :=
  layErr 4 [118, 97, 108, 117, 101, 32, 111, 117, 116, 32, 111, 102, 32, 114, 97, 110, 103, 101] (layErr 3 [105, 110, 118, 97, 108, 105, 100, 32, 115, 121, 110, 116, 97, 120] (layFlat 5 Rows.laid_unicode_utf8_first (layFlat 6 Rows.laid_unicode_utf8_acceptRanges (laidWorld4 os))))
theorem laid_met8 (os : Os) (args : Array Value) : laidMet Tryz.prog Rows.ruleFormatsRow.laid ((laidWorld8 os).forCall (fun _ _ => 0) ⟨#[], args, []⟩).memory :=
  laidMet_of_run' 400 (by kernel_rfl) (by kernel_rfl)
end Go.Proofs.YtbegbajlagcbdaaGreatDoor
namespace Go.Proofs.YtbegbajlagcbdaaGreatDoor
open Go.Lib
/-- The word of a repeal. -/
def Cal.repT : List UInt8 := [114, 101, 112, 101, 97, 108]
def Cal.wordsOf (b c d : List UInt8) : Option (Int × Int × Int × Bool) :=
  if (decide (b = Cal.repT) || (Cal.numS b 10).2) && ((Cal.numS c 10).2 && (Cal.numS d 10).2) then some (if b = Cal.repT then 0 else (Cal.numS b 10).1, (Cal.numS c 10).1, (Cal.numS d 10).1, decide (b = Cal.repT)) else none
/-- What a text of a provision says. -/
def Cal.words (l : List UInt8) : Option (List UInt8 × Int × Int × Int × Bool) :=
  match Cal.cutT 32 l with
  | [a, b, c, d] => if 10 ∈ l then none else (Cal.wordsOf b c d).map fun q => (a, q)
  | _ => none
/-- The text of a provision. -/
def Cal.fmtT (nm : List UInt8) (v f e : Int) (r : Bool) : List UInt8 := nm ++ 32 :: ((if r then Cal.repT else itoa v) ++ 32 :: (itoa f ++ 32 :: itoa e))
theorem Cal.itoa_bytes {n : Int} : ∀ b ∈ itoa n, b = 45 ∨ (48 ≤ b.toNat ∧ b.toNat ≤ 57) := fun b hb => by
  unfold itoa at hb
  split at hb
  · rcases List.mem_cons.1 hb with h | h
    · exact .inl h
    · exact .inr (Cal.decDigits_digit b h)
  · exact .inr (Cal.decDigits_digit b hb)
theorem Cal.itoa_free {n : Int} {c : UInt8} (h1 : c ≠ 45) (h2 : c.toNat < 48 ∨ 57 < c.toNat) : c ∉ itoa n := fun hm => by
  rcases Cal.itoa_bytes c hm with h | ⟨h3, h4⟩
  · exact h1 h
  · omega
theorem Cal.itoa_not_rep (n : Int) : itoa n ≠ Cal.repT := fun h => by
  have hm : (114 : UInt8) ∈ itoa n := by rw [h]; decide
  exact Cal.itoa_free (by decide) (.inr (by decide)) hm
theorem Cal.provErr_ok {nm : ByteArray} {v f e : Int} {r : Bool} (h : Cal.provErr nm v f e r = 0) :
    nameB nm = true ∧ (-1000000000 ≤ v ∧ v ≤ 1000000000) ∧ (0 ≤ f ∧ f ≤ 200000) ∧ (0 ≤ e ∧ e ≤ 200000) ∧ (r = true → v = 0) := by
  unfold Cal.provErr at h
  split at h
  · next h1 =>
    split at h
    · next h2 =>
      split at h
      · omega
      · next h3 =>
        refine ⟨h1, ⟨h2.1, h2.2.1⟩, ⟨h2.2.2.1, h2.2.2.2.1⟩, ⟨h2.2.2.2.2.1, h2.2.2.2.2.2⟩, fun hr => ?_⟩
        apply Classical.byContradiction
        exact fun hv => h3 ⟨hr, hv⟩
    · omega
  · omega
theorem Cal.name_free {nm : ByteArray} (h : nameB nm = true) {c : UInt8} (hc : c.toNat < 45) : c ∉ nm.data.toList := fun hm => by
  unfold nameB at h
  rw [decide_eq_true_iff] at h
  obtain ⟨k, hk, he⟩ := List.getElem_of_mem hm
  have hk' : k < nm.size := by rw [Lib.size_eq]; exact hk
  have hok := h.2.2 k hk'
  have hb := byteAt_eq hk'
  have he2 : nm[k] = c := by
    have h1 := Lib.data_getElem? nm k hk'
    rw [List.getElem?_eq_getElem hk, he] at h1
    exact (Option.some.inj h1).symm
  unfold okAt at hok
  rw [hb, he2] at hok
  simp at hok
  omega
theorem Cal.name_size {nm : ByteArray} (h : nameB nm = true) : nm.data.toList.length ≤ 12 := by
  unfold nameB at h
  rw [decide_eq_true_iff] at h
  rw [← Lib.size_eq]
  exact h.2.1
theorem Cal.words_fmt {nm : ByteArray} {v f e : Int} {r : Bool} (h : Cal.provErr nm v f e r = 0) :
    Cal.words (Cal.fmtT nm.data.toList v f e r) = some (nm.data.toList, v, f, e, r) ∧ (Cal.fmtT nm.data.toList v f e r).length ≤ 200 := by
  obtain ⟨hn, ⟨v0, v1⟩, ⟨f0, f1⟩, ⟨e0, e1⟩, hr⟩ := Cal.provErr_ok h
  have hfree : ∀ c : UInt8, c ≠ 45 → c.toNat < 45 → c ∉ (if r then Cal.repT else itoa v) := fun c h1 h2 => by
    cases r
    · exact Cal.itoa_free h1 (.inl (by omega))
    · intro hm
      simp only [if_true, Cal.repT, List.mem_cons, List.not_mem_nil, or_false] at hm
      rcases hm with rfl | rfl | rfl | rfl | rfl | rfl <;> revert h2 <;> decide
  have n32 := Cal.name_free hn (c := 32) (by decide)
  have n10 := Cal.name_free hn (c := 10) (by decide)
  have v32 := hfree 32 (by decide) (by decide)
  have v10 := hfree 10 (by decide) (by decide)
  have f32 : (32 : UInt8) ∉ itoa f := Cal.itoa_free (by decide) (.inl (by decide))
  have f10 : (10 : UInt8) ∉ itoa f := Cal.itoa_free (by decide) (.inl (by decide))
  have e32 : (32 : UInt8) ∉ itoa e := Cal.itoa_free (by decide) (.inl (by decide))
  have e10 : (10 : UInt8) ∉ itoa e := Cal.itoa_free (by decide) (.inl (by decide))
  have hcut : Cal.cutT 32 (Cal.fmtT nm.data.toList v f e r) = [nm.data.toList, (if r then Cal.repT else itoa v), itoa f, itoa e] := by
    unfold Cal.fmtT
    rw [Cal.cutT_sep n32, Cal.cutT_sep v32, Cal.cutT_sep f32, Cal.cutT_free e32]
  have h10 : (10 : UInt8) ∉ Cal.fmtT nm.data.toList v f e r := by
    unfold Cal.fmtT
    simp only [List.mem_append, List.mem_cons, not_or]
    exact ⟨n10, by decide, v10, by decide, f10, by decide, e10⟩
  constructor
  · unfold Cal.words
    rw [hcut]
    simp only [if_neg h10]
    unfold Cal.wordsOf
    rw [Cal.numS_itoa (by omega) (by omega), Cal.numS_itoa (n := e) (by omega) (by omega)]
    cases r
    · simp only [Bool.false_eq_true, if_false, Cal.itoa_not_rep v, decide_false, Bool.false_or, Cal.numS_itoa v0 v1, Bool.and_self, if_true, Option.map_some]
    · simp [hr rfl]
  · unfold Cal.fmtT
    have h1 := Cal.name_size hn
    have h2 : (if r then Cal.repT else itoa v).length ≤ 21 := by
      split
      · decide
      · exact itoa_length_le v (by omega) (by omega)
    have h3 := itoa_length_le f (by omega) (by omega)
    have h4 := itoa_length_le e (by omega) (by omega)
    simp only [List.length_append, List.length_cons]
    omega
end Go.Proofs.YtbegbajlagcbdaaGreatDoor
