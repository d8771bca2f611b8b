/- The walk of a statement. -/
import Derived.Test.YtbegbajlagcbdaaGreatDoorC29
import Derived.Test.YtbegbajlagcbdaaGreatDoorC30
namespace Go.Proofs.YtbegbajlagcbdaaGreatDoor
open Go Go.RowKit
/-- A provision that is loaded whole, behind a guard that lets it. -/
theorem wpPvD {ops : Array Oper} {rest : List Oper} {op : Oper} {a : Act} {w : World} {Q : Exit → Act → World → Prop} {B : Nat} {nm : ByteArray} {v f en : Int} {r : Bool} (h : BoxAt w B [.string nm, .int .i64 v, .int .i64 f, .int .i64 en, .bool r]) (x : Operand) (hx : a.eval x = .pointer (some ⟨B, 0, none⟩))
    (k : wpList Tryz.prog ops Q rest (a.put op.dst (.agg #[.string nm, .int .i64 v, .int .i64 f, .int .i64 en, .bool r])) w) (ho : op.op = .load 71 x := by exact rfl) (hw : Region.wanted op (yielded ops a.tmps) = true := by kernel_rfl) : wpList Tryz.prog ops Q (op :: rest) a w :=
  BigFrame.wpList_want hw fun _ hK => wp_load_mid 71 x ho B 0 hx [.string nm, .int .i64 v, .int .i64 f, .int .i64 en, .bool r] _ h.range Tryz.underlying71 rfl pvSize (hK _ _ k)
theorem parseV_form (l : List UInt8) : ∃ (Xa : ByteArray) (a b c : Int) (r : Bool) (E : Int), parseV l = (.agg #[.string Xa, .int .i64 a, .int .i64 b, .int .i64 c, .bool r], E) := by
  unfold parseV
  split
  · exact ⟨⟨#[]⟩, 0, 0, 0, false, 8, rfl⟩
  · split
    · split
      · exact ⟨_, _, _, _, _, _, rfl⟩
      · exact ⟨⟨#[]⟩, 0, 0, 0, false, _, rfl⟩
    · exact ⟨⟨#[]⟩, 0, 0, 0, false, 7, rfl⟩
theorem parseV_fmt {nm : ByteArray} {v f en : Int} {r : Bool} (h : Cal.provErr nm v f en r = 0) : parseV (Cal.fmtT nm.data.toList v f en r) = (.agg #[.string nm, .int .i64 v, .int .i64 f, .int .i64 en, .bool r], 0) := by
  obtain ⟨h1, h2⟩ := Cal.words_fmt h
  exact parseV_good (by omega) h1 h
theorem fmt_size {nm : ByteArray} {v f en : Int} {r : Bool} (hn : nm.size ≤ 60) (v0 : -9223372036854775808 ≤ v) (v1 : v ≤ 9223372036854775807) (f0 : -9223372036854775808 ≤ f) (f1 : f ≤ 9223372036854775807) (e0 : -9223372036854775808 ≤ en) (e1 : en ≤ 9223372036854775807) :
    (Cal.fmtT nm.data.toList v f en r).length ≤ 1000 := by
  unfold Cal.fmtT
  have h1 := list_len nm
  have h2 : (if r then Cal.repT else Lib.itoa v).length ≤ 21 := by
    split
    · decide
    · exact Lib.itoa_length_le v (by omega) (by omega)
  have h3 := Lib.itoa_length_le f (by omega) (by omega)
  have h4 := Lib.itoa_length_le en (by omega) (by omega)
  simp only [List.length_append, List.length_cons]
  omega
set_option maxRecDepth 100000 in
set_option maxHeartbeats 8000000 in
theorem RuleFormats_any (nm : ByteArray) (v f en : Int) (r : Bool) (s : ByteArray) (w : World) (hT : Tab w) (hX : TxtT w) (hnm : nm.size ≤ maxLen) (_hs : s.size ≤ maxLen) (v0 : -9223372036854775808 ≤ v) (v1 : v ≤ 9223372036854775807) (f0 : -9223372036854775808 ≤ f) (f1 : f ≤ 9223372036854775807) (e0 : -9223372036854775808 ≤ en) (e1 : en ≤ 9223372036854775807) :
    Calls Tryz.prog 6 #[.agg #[.string nm, .int .i64 v, .int .i64 f, .int .i64 en, .bool r], .string s] w fun e w' => e = .returned (.bool true) ∧ Below w.heap.size w w' := by
  have hT := Lib.hid hT
  have hX := Lib.hid (fun w' (h : Below w.heap.size w w') => hX.below h)
  by_cases h60 : nm.size ≤ 60
  · by_cases h300 : s.size ≤ 300
    · obtain ⟨Xa, a, b, c, ar, E, hpv⟩ := parseV_form s.data.toList
      have hpv := Lib.hid hpv
      have hs1 : s.size ≤ 1000000 := by omega
      have g1 := Lib.hid (BoxAt.new w #[.string nm, .int .i64 v, .int .i64 f, .int .i64 en, .bool r] 71)
      have hb := Lib.hid (below_alloc w (.cells #[.string nm, .int .i64 v, .int .i64 f, .int .i64 en, .bool r] 71))
      go_enter Tryz.func6, Tryz.ntmps6
      go_wp2_with fail
      refine (awake_any _ (hT.out.below hb.out)).mono ?_
      rintro e wn ⟨rfl, hbn⟩
      have g1 := Lib.hid (g1.out.below hbn)
      have hb := Lib.hid (below_step hb.out hbn)
      clear hbn
      have c0 := g1.out.c 0 _ rfl
      go_wp2_with fail
      refine (ParseProvision_any s _ (hX.out _ hb.out) hs1).mono ?_
      rintro e w1 ⟨rfl, hbn⟩
      have g1 := Lib.hid (g1.out.below hbn)
      have hb := Lib.hid (below_step hb.out hbn)
      clear hbn
      have c0 := g1.out.c 0 _ rfl
      rw [hpv.out]
      dsimp only
      go_wp2_with ((refine wpList_store_box rfl 71 (.tmp 5) (.tmp 26) rfl (w1.heap.size) _ [.string Xa, .int .i64 a, .int .i64 b, .int .i64 c, .bool ar] (by rfl) (by rfl) (BoxAt.new w1 #[.string ⟨#[]⟩, .int .i64 0, .int .i64 0, .int .i64 0, .bool false] 71) rfl pvSize (by kernel_rfl) ?_; intro w2 h5 hg5); have h5 := Lib.hid h5; have hbs := below_of_grownB (below_alloc w1 (.cells #[.string ⟨#[]⟩, .int .i64 0, .int .i64 0, .int .i64 0, .bool false] 71)) hg5 (Nat.le_refl _); have g1 := Lib.hid (g1.out.below hbs); have hb := Lib.hid (below_step hb.out hbs); have c0 := g1.out.c 0 _ rfl; clear hg5)
      refine (ParseProvisionR_any s _ hs1).mono ?_
      rintro e w3 ⟨rfl, hbn⟩
      have h5 := Lib.hid (h5.out.below hbn)
      have g1 := Lib.hid (g1.out.below hbn)
      have hb := Lib.hid (below_step hb.out hbn)
      clear hbn
      have c0 := g1.out.c 0 _ rfl
      rw [hpv.out]
      dsimp only
      go_wp2_with (first | (((refine wpList_store_box rfl 71 (.tmp 7) (.tmp 31) rfl (w3.heap.size) _ [.string Xa, .int .i64 a, .int .i64 b, .int .i64 c, .bool ar] (by rfl) (by rfl) (BoxAt.new w3 #[.string ⟨#[]⟩, .int .i64 0, .int .i64 0, .int .i64 0, .bool false] 71) rfl pvSize (by kernel_rfl) ?_; intro w4 h7 hg5); have h7 := Lib.hid h7; have hbs := below_of_grownB (below_alloc w3 (.cells #[.string ⟨#[]⟩, .int .i64 0, .int .i64 0, .int .i64 0, .bool false] 71)) hg5 (Nat.le_refl _); have g1 := Lib.hid (g1.out.below hbs); have hb := Lib.hid (below_step hb.out hbs); have c0 := g1.out.c 0 _ rfl; clear hg5); have h5 := Lib.hid (h5.out.below hbs)) | (refine wpList_load_mid rfl 71 (.tmp 5) rfl (w1.heap.size) 0 rfl [.string Xa, .int .i64 a, .int .i64 b, .int .i64 c, .bool ar] _ h5.out.range Tryz.underlying71 rfl pvSize ?_) | (refine wpList_load_mid rfl 71 (.tmp 7) rfl (w3.heap.size) 0 rfl [.string Xa, .int .i64 a, .int .i64 b, .int .i64 c, .bool ar] _ h7.out.range Tryz.underlying71 rfl pvSize ?_) | (refine wpList_load_mid rfl 71 (.tmp 2) rfl (w.heap.size) 0 rfl [.string nm, .int .i64 v, .int .i64 f, .int .i64 en, .bool r] _ g1.out.range Tryz.underlying71 rfl pvSize ?_))
      refine (Format_any nm v f en r _ (hX.out _ hb.out) h60 v0 v1 f0 f1 e0 e1).mono ?_
      rintro e w5 ⟨t, rfl, ht, hbn⟩
      have g1 := Lib.hid (g1.out.below hbn)
      have hb := Lib.hid (below_step hb.out hbn)
      clear hbn
      have c0 := g1.out.c 0 _ rfl
      have htz := Lib.hid ht
      go_wp2_with (refine wpList_load_mid rfl 71 (.tmp 2) rfl (w.heap.size) 0 rfl [.string nm, .int .i64 v, .int .i64 f, .int .i64 en, .bool r] _ g1.out.range Tryz.underlying71 rfl pvSize ?_)
      refine (FormatR_any nm v f en r _ h60 v0 v1 f0 f1 e0 e1).mono ?_
      rintro e w6 ⟨t', rfl, ht', hbn⟩
      obtain rfl : t = t' := by
        rcases t with ⟨⟨l1⟩⟩
        rcases t' with ⟨⟨l2⟩⟩
        have h1 : l1 = _ := ht
        have h2 : l2 = _ := ht'
        rw [h1, h2]
      have g1 := Lib.hid (g1.out.below hbn)
      have hb := Lib.hid (below_step hb.out hbn)
      clear hbn
      have c0 := g1.out.c 0 _ rfl
      clear ht ht'
      have hst : t.size ≤ 1000000 := by
        have h1 := list_len t
        rw [htz.out] at h1
        have := fmt_size (r := r) h60 v0 v1 f0 f1 e0 e1
        omega
      go_wp2_with fail
      refine (ParseProvision_any t _ (hX.out _ hb.out) hst).mono ?_
      rintro e w7 ⟨rfl, hbn⟩
      have g1 := Lib.hid (g1.out.below hbn)
      have hb := Lib.hid (below_step hb.out hbn)
      clear hbn
      have c0 := g1.out.c 0 _ rfl
      by_cases hE : Cal.provErr nm v f en r = 0
      · have hEz := Lib.hid hE
        have hpt := Lib.hid (parseV_fmt hE)
        clear hE
        rw [htz.out, hpt.out]
        dsimp only
        go_wp2_with (first | ((refine wpList_store_box rfl 71 (.tmp 10) (.tmp 50) rfl (w7.heap.size) _ [.string nm, .int .i64 v, .int .i64 f, .int .i64 en, .bool r] (by rfl) (by rfl) (BoxAt.new w7 #[.string ⟨#[]⟩, .int .i64 0, .int .i64 0, .int .i64 0, .bool false] 71) rfl pvSize (by kernel_rfl) ?_; intro w8 h9 hg5); have h9 := Lib.hid h9; have hbs := below_of_grownB (below_alloc w7 (.cells #[.string ⟨#[]⟩, .int .i64 0, .int .i64 0, .int .i64 0, .bool false] 71)) hg5 (Nat.le_refl _); have g1 := Lib.hid (g1.out.below hbs); have hb := Lib.hid (below_step hb.out hbs); have c0 := g1.out.c 0 _ rfl; clear hg5) | (refine wpList_load_mid rfl 71 (.tmp 2) rfl (w.heap.size) 0 rfl [.string nm, .int .i64 v, .int .i64 f, .int .i64 en, .bool r] _ g1.out.range Tryz.underlying71 rfl pvSize ?_))
        refine (ProvisionErr_any nm v f en r _ hnm).mono ?_
        rintro e w9 ⟨rfl, hbn⟩
        have h9 := Lib.hid (h9.out.below hbn)
        have g1 := Lib.hid (g1.out.below hbn)
        have hb := Lib.hid (below_step hb.out hbn)
        clear hbn
        have c0 := g1.out.c 0 _ rfl
        rw [hEz.out]
        go_wp2_with (first | (refine wpPvD h9.out (.tmp 10) rfl ?_) | (refine wpPvD g1.out (.tmp 2) rfl ?_))
        go_ret
        exact ⟨by first | rfl | done, hb.out⟩
      · obtain ⟨Xt, ta, tb, tc, tr, tE, hpt⟩ := parseV_form t.data.toList
        have hE1 : (Cal.provErr nm v f en r != 0) = true := by simpa using hE
        clear hE
        rw [hpt]
        clear hpt
        dsimp only
        go_wp2_with (first | ((refine wpList_store_box rfl 71 (.tmp 10) (.tmp 50) rfl (w7.heap.size) _ [.string Xt, .int .i64 ta, .int .i64 tb, .int .i64 tc, .bool tr] (by rfl) (by rfl) (BoxAt.new w7 #[.string ⟨#[]⟩, .int .i64 0, .int .i64 0, .int .i64 0, .bool false] 71) rfl pvSize (by kernel_rfl) ?_; intro w8 h9 hg5); have h9 := Lib.hid h9; have hbs := below_of_grownB (below_alloc w7 (.cells #[.string ⟨#[]⟩, .int .i64 0, .int .i64 0, .int .i64 0, .bool false] 71)) hg5 (Nat.le_refl _); have g1 := Lib.hid (g1.out.below hbs); have hb := Lib.hid (below_step hb.out hbs); have c0 := g1.out.c 0 _ rfl; clear hg5) | (refine wpList_load_mid rfl 71 (.tmp 2) rfl (w.heap.size) 0 rfl [.string nm, .int .i64 v, .int .i64 f, .int .i64 en, .bool r] _ g1.out.range Tryz.underlying71 rfl pvSize ?_))
        refine (ProvisionErr_any nm v f en r _ hnm).mono ?_
        rintro e w9 ⟨rfl, hbn⟩
        have g1 := Lib.hid (g1.out.below hbn)
        have hb := Lib.hid (below_step hb.out hbn)
        clear hbn
        have c0 := g1.out.c 0 _ rfl
        go_wp2_with fail
        go_ret
        exact ⟨by first | rfl | done, hb.out⟩
    · have h300' : 300 < s.size := by omega
      clear h300
      have g1 := Lib.hid (BoxAt.new w #[.string nm, .int .i64 v, .int .i64 f, .int .i64 en, .bool r] 71)
      have hb := Lib.hid (below_alloc w (.cells #[.string nm, .int .i64 v, .int .i64 f, .int .i64 en, .bool r] 71))
      go_enter Tryz.func6, Tryz.ntmps6
      go_wp2_with fail
      refine (awake_any _ (hT.out.below hb.out)).mono ?_
      rintro e wn ⟨rfl, hbn⟩
      have g1 := Lib.hid (g1.out.below hbn)
      have hb := Lib.hid (below_step hb.out hbn)
      clear hbn
      have c0 := g1.out.c 0 _ rfl
      go_wp2_with fail
      go_ret
      exact ⟨rfl, hb.out⟩
  · have h60' : 60 < nm.size := by omega
    clear h60
    have g1 := Lib.hid (BoxAt.new w #[.string nm, .int .i64 v, .int .i64 f, .int .i64 en, .bool r] 71)
    have hb := Lib.hid (below_alloc w (.cells #[.string nm, .int .i64 v, .int .i64 f, .int .i64 en, .bool r] 71))
    go_enter Tryz.func6, Tryz.ntmps6
    go_wp2_with fail
    refine (awake_any _ (hT.out.below hb.out)).mono ?_
    rintro e wn ⟨rfl, hbn⟩
    have g1 := Lib.hid (g1.out.below hbn)
    have hb := Lib.hid (below_step hb.out hbn)
    clear hbn
    have c0 := g1.out.c 0 _ rfl
    go_wp2_with fail
    go_ret
    exact ⟨rfl, hb.out⟩
end Go.Proofs.YtbegbajlagcbdaaGreatDoor
