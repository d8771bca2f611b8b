/- The walk of a statement. -/
import Derived.Test.YtbegbajlagcbdaaGreatDoorC39
import Derived.Test.YtbegbajlagcbdaaGreatDoorC45
namespace Go.Proofs.YtbegbajlagcbdaaGreatDoor
open Go Go.RowKit
/-- The answer is a bool; true: the notice is brief. -/
def BoolU (w : World) (n : Note) (e : Ending) (w' : World) : Prop := (∃ b : Bool, e = .returned (.bool b) ∧ (b = true → n.name.size ≤ 30 ∧ n.acts.length ≤ 50)) ∧ Below w.heap.size w w'
theorem BriefU_any (N : Option Addr) (d : Nat) (n : Note) (w : World) (hn : n.name.size ≤ maxLen) (ha : n.acts.length ≤ 9223372036854775807) : Calls Tryz.prog 41 #[.agg #[.string n.name, .int .i64 n.opened, .slice N n.acts.length d]] w (BoolU w n) := by
  unfold maxLen at hn
  by_cases h1 : n.name.size ≤ 30
  · by_cases h2 : n.acts.length ≤ 12
    · go_enter Tryz.func41, Tryz.ntmps41
      go_wp2_with fail
      go_ret
      exact ⟨⟨_, rfl, fun h => by first | omega | cases h | (split at h; (rename_i hq; have := of_decide_eq_true hq; omega); (have := of_decide_eq_true h; omega)) | (simp at h; omega)⟩, below_alloc _ _⟩
    · have h2' : 12 < n.acts.length := by omega
      clear h2
      by_cases h3 : 40 < n.acts.length
      · by_cases h4 : n.acts.length ≤ 50
        · go_enter Tryz.func41, Tryz.ntmps41
          go_wp2_with fail
          go_ret
          exact ⟨⟨_, rfl, fun h => by first | omega | cases h | (split at h; (rename_i hq; have := of_decide_eq_true hq; omega); (have := of_decide_eq_true h; omega)) | (simp at h; omega)⟩, below_alloc _ _⟩
        · have h4' : 50 < n.acts.length := by omega
          clear h4
          go_enter Tryz.func41, Tryz.ntmps41
          go_wp2_with fail
          go_ret
          exact ⟨⟨_, rfl, fun h => by first | omega | cases h | (split at h; (rename_i hq; have := of_decide_eq_true hq; omega); (have := of_decide_eq_true h; omega)) | (simp at h; omega)⟩, below_alloc _ _⟩
      · have h3' : n.acts.length ≤ 40 := by omega
        clear h3
        go_enter Tryz.func41, Tryz.ntmps41
        go_wp2_with fail
        go_ret
        exact ⟨⟨_, rfl, fun h => by first | omega | cases h | (split at h; (rename_i hq; have := of_decide_eq_true hq; omega); (have := of_decide_eq_true h; omega)) | (simp at h; omega)⟩, below_alloc _ _⟩
  · have h1' : 30 < n.name.size := by omega
    clear h1
    go_enter Tryz.func41, Tryz.ntmps41
    go_wp2_with fail
    go_ret
    exact ⟨⟨_, rfl, fun h => by first | omega | cases h | (split at h; (rename_i hq; have := of_decide_eq_true hq; omega); (have := of_decide_eq_true h; omega)) | (simp at h; omega)⟩, below_alloc _ _⟩
/-- A notice that is loaded whole, behind a guard that lets it. -/
theorem wpNtD {ops : Array Oper} {rest : List Oper} {op : Oper} {a : Act} {w : World} {Q : Exit → Act → World → Prop} {B : Nat} {c0 c1 c2 : Value} (h : BoxAt w B [c0, c1, c2]) (x : Operand) (hx : a.eval x = .pointer (some ⟨B, 0, none⟩))
    (k : wpList Tryz.prog ops Q rest (a.put op.dst (.agg #[c0, c1, c2])) w) (ho : op.op = .load 93 x := by exact rfl) (hw : Region.wanted op (yielded ops a.tmps) = true := by kernel_rfl) : wpList Tryz.prog ops Q (op :: rest) a w :=
  BigFrame.wpList_want hw fun _ hK => wp_load_mid 93 x ho B 0 hx [c0, c1, c2] _ h.range Tryz.underlying93 rfl ntSz (hK _ _ k)
set_option maxRecDepth 100000 in
set_option maxHeartbeats 8000000 in
theorem NoticeTexts_any (N : Option Addr) (d : Nat) (n : Note) (s : ByteArray) (w : World) (ha : Acts w N n.acts) (hn : n.name.size ≤ maxLen) (hok : NumsOk n) (hT : Tab w) (hX : TxtT w) :
    Calls Tryz.prog 8 #[.agg #[.string n.name, .int .i64 n.opened, .slice N n.acts.length d], .string s] w fun e w' => e = .returned (.bool true) ∧ Below w.heap.size w w' := by
  have hT := Lib.hid hT
  have hok := Lib.hid hok
  have ha := Lib.hid (fun w' (h : Below w.heap.size w w') => ha.below h)
  have hX := Lib.hid (fun w' (h : Below w.heap.size w w') => hX.below h)
  by_cases h1 : s.size ≤ 500 ∨ (60000 < s.size ∧ s.size ≤ 120000)
  · obtain ⟨m, k, E, hpv⟩ : ∃ m k E, Cal.parseN s.data.toList = (m, k, E) := ⟨_, _, _, rfl⟩
    have hpvz := Lib.hid hpv
    have hs6 : s.size ≤ 1000000 := by omega
    by_cases hE : E = 0
    · subst hE
      obtain ⟨htx, hm40⟩ := Cal.parseN_text hpv rfl
      obtain ⟨hmok, hmn⟩ := parseN_ok hpv
      have hmok := Lib.hid hmok
      have hQ : Hid ((Value.tuple #[.string ⟨(if m.acts.length ≤ 40 then Cal.noteT m else []).toArray⟩, .int .i64 (if m.acts.length ≤ 40 then 0 else 8)]) = .tuple #[.string s, .int .i64 0]) := by
        show _ = _
        rw [if_pos hm40, if_pos hm40, htx]
      clear hpv htx
      have hpv := hpvz
      by_cases h40 : n.acts.length ≤ 40
      · obtain ⟨t, ht⟩ : ∃ t : ByteArray, t = ⟨(Cal.noteT n).toArray⟩ := ⟨_, rfl⟩
        have hP : Hid ((Value.tuple #[.string ⟨(if n.acts.length ≤ 40 then Cal.noteT n else []).toArray⟩, .int .i64 (if n.acts.length ≤ 40 then 0 else 8)]) = .tuple #[.string t, .int .i64 0]) := by show _ = _; rw [if_pos h40, if_pos h40, ht]
        have htz := Lib.hid ht
        clear ht
        rcases h1 with h1 | ⟨h1, h2⟩
        all_goals
          have g1 := Lib.hid (BoxAt.new w #[.string n.name, .int .i64 n.opened, .slice N n.acts.length d] 93)
          have hb := Lib.hid (below_alloc w (.cells #[.string n.name, .int .i64 n.opened, .slice N n.acts.length d] 93))
          go_enter Tryz.func8, Tryz.ntmps8
          go_wp2_with fail
          refine (nawake_any _ (hT.out.below hb.out)).mono ?_
          rintro e w1 ⟨rfl, hbn⟩
          have g1 := Lib.hid (g1.out.below hbn)
          have hb := Lib.hid (below_step hb.out hbn)
          clear hbn
          go_wp2_with (refine wpList_load_mid rfl 93 (.tmp 2) rfl (w.heap.size) 0 rfl [.string n.name, .int .i64 n.opened, .slice N n.acts.length d] _ g1.out.range Tryz.underlying93 rfl ntSz ?_)
          refine (BriefU_any N d n _ hn (ha.out _ hb.out).size).mono ?_
          rintro e w2 ⟨⟨b, rfl, hbr⟩, hbn⟩
          have g1 := Lib.hid (g1.out.below hbn)
          have hb := Lib.hid (below_step hb.out hbn)
          clear hbn
          cases b
          · go_wp2_with fail
            go_ret
            exact ⟨rfl, hb.out⟩
          obtain ⟨hbr1, hbr2⟩ := hbr rfl
          clear hbr
          go_wp2_with (refine wpList_load_mid rfl 93 (.tmp 2) rfl (w.heap.size) 0 rfl [.string n.name, .int .i64 n.opened, .slice N n.acts.length d] _ g1.out.range Tryz.underlying93 rfl ntSz ?_)
          refine (NPrint_any N d n _ (ha.out _ hb.out) (hX.out _ hb.out) (by omega) hok.out).mono ?_
          rintro e w3 ⟨rfl, hbn⟩
          have g1 := Lib.hid (g1.out.below hbn)
          have hb := Lib.hid (below_step hb.out hbn)
          clear hbn
          rw [hP.out]
          go_wp2_with fail
          refine (NParse_any s _ (hX.out _ hb.out)).mono ?_
          rintro e w4 ⟨N1, c1, rfl, ha1, hbn⟩
          have g1 := Lib.hid (g1.out.below hbn)
          have hb := Lib.hid (below_step hb.out hbn)
          clear hbn
          have ha1 := Lib.hid ha1
          rw [hpv.out] at ha1 ⊢
          dsimp only
          go_wp2_with ((refine wpList_store_box rfl 93 (.tmp 7) (.tmp 43) rfl (w4.heap.size) _ [.string m.name, .int .i64 m.opened, .slice N1 m.acts.length c1] (by rfl) (by rfl) (BoxAt.new w4 #[.string ⟨#[]⟩, .int .i64 0, .slice none 0 0] 93) rfl ntSz (by kernel_rfl) ?_; intro w5 h5 hg5); have hbs := below_of_grownB (below_alloc w4 (.cells #[.string ⟨#[]⟩, .int .i64 0, .slice none 0 0] 93)) hg5 (Nat.le_refl _); have g1 := Lib.hid (g1.out.below hbs); have hb := Lib.hid (below_step hb.out hbs); have ha1 := Lib.hid (ha1.out.below hbs); have h5 := Lib.hid h5; clear hg5 hbs)
          refine (NParseR_any s _ (by omega)).mono ?_
          rintro e w6 ⟨N2, c2, rfl, ha2, hbn⟩
          have h5 := Lib.hid (h5.out.below hbn)
          have ha1 := Lib.hid (ha1.out.below hbn)
          have g1 := Lib.hid (g1.out.below hbn)
          have hb := Lib.hid (below_step hb.out hbn)
          clear hbn
          have ha2 := Lib.hid ha2
          rw [hpv.out] at ha2 ⊢
          dsimp only
          go_wp2_with (first | ((refine wpList_store_box rfl 93 (.tmp 10) (.tmp 49) rfl (w6.heap.size) _ [.string m.name, .int .i64 m.opened, .slice N2 m.acts.length c2] (by rfl) (by rfl) (BoxAt.new w6 #[.string ⟨#[]⟩, .int .i64 0, .slice none 0 0] 93) rfl ntSz (by kernel_rfl) ?_; intro w7 h7 hg7); have hbs := below_of_grownB (below_alloc w6 (.cells #[.string ⟨#[]⟩, .int .i64 0, .slice none 0 0] 93)) hg7 (Nat.le_refl _); have g1 := Lib.hid (g1.out.below hbs); have hb := Lib.hid (below_step hb.out hbs); have ha1 := Lib.hid (ha1.out.below hbs); have ha2 := Lib.hid (ha2.out.below hbs); have h5 := Lib.hid (h5.out.below hbs); have h7 := Lib.hid h7; clear hg7 hbs) | (refine wpList_load_mid rfl 93 (.tmp 7) rfl (w4.heap.size) 0 rfl [.string m.name, .int .i64 m.opened, .slice N1 m.acts.length c1] _ h5.out.range Tryz.underlying93 rfl ntSz ?_) | (refine wpList_load_mid rfl 93 (.tmp 10) rfl (w6.heap.size) 0 rfl [.string m.name, .int .i64 m.opened, .slice N2 m.acts.length c2] _ h7.out.range Tryz.underlying93 rfl ntSz ?_))
          refine (SameT_any N1 N2 c1 c2 m _ ha1.out ha2.out).mono ?_
          rintro e w8 ⟨rfl, hbn⟩
          have h5 := Lib.hid (h5.out.below hbn)
          have ha1 := Lib.hid (ha1.out.below hbn)
          have g1 := Lib.hid (g1.out.below hbn)
          have hb := Lib.hid (below_step hb.out hbn)
          clear hbn
          clear ha2 h7
          have k2 := g1.out.c 2 _ rfl
          go_wp2_with (refine wpNtD g1.out (.tmp 2) rfl ?_)
          refine (NPrintR_any N d n _ (ha.out _ hb.out) (by omega) hok.out h40).mono ?_
          rintro e wq ⟨rfl, hbn⟩
          have h5 := Lib.hid (h5.out.below hbn)
          have ha1 := Lib.hid (ha1.out.below hbn)
          have g1 := Lib.hid (g1.out.below hbn)
          have hb := Lib.hid (below_step hb.out hbn)
          clear hbn
          rw [← htz.out]
          go_wp2_with (refine wpList_load_mid rfl 93 (.tmp 7) rfl (w4.heap.size) 0 rfl [.string m.name, .int .i64 m.opened, .slice N1 m.acts.length c1] _ h5.out.range Tryz.underlying93 rfl ntSz ?_)
          refine (NPrint_any N1 c1 m _ ha1.out (hX.out _ hb.out) (by omega) hmok.out).mono ?_
          rintro e w9 ⟨rfl, hbn⟩
          have g1 := Lib.hid (g1.out.below hbn)
          have hb := Lib.hid (below_step hb.out hbn)
          clear hbn
          rw [hQ.out]
          go_wp2_with fail
          go_ret
          exact ⟨by first | rfl | done, hb.out⟩
      · have hP : Hid ((Value.tuple #[.string ⟨(if n.acts.length ≤ 40 then Cal.noteT n else []).toArray⟩, .int .i64 (if n.acts.length ≤ 40 then 0 else 8)]) = .tuple #[.string ⟨#[]⟩, .int .i64 8]) := by show _ = _; rw [if_neg h40, if_neg h40]
        have h40' : 40 < n.acts.length := by omega
        clear h40
        rcases h1 with h1 | ⟨h1, h2⟩
        all_goals
          have g1 := Lib.hid (BoxAt.new w #[.string n.name, .int .i64 n.opened, .slice N n.acts.length d] 93)
          have hb := Lib.hid (below_alloc w (.cells #[.string n.name, .int .i64 n.opened, .slice N n.acts.length d] 93))
          go_enter Tryz.func8, Tryz.ntmps8
          go_wp2_with fail
          refine (nawake_any _ (hT.out.below hb.out)).mono ?_
          rintro e w1 ⟨rfl, hbn⟩
          have g1 := Lib.hid (g1.out.below hbn)
          have hb := Lib.hid (below_step hb.out hbn)
          clear hbn
          go_wp2_with (refine wpList_load_mid rfl 93 (.tmp 2) rfl (w.heap.size) 0 rfl [.string n.name, .int .i64 n.opened, .slice N n.acts.length d] _ g1.out.range Tryz.underlying93 rfl ntSz ?_)
          refine (BriefU_any N d n _ hn (ha.out _ hb.out).size).mono ?_
          rintro e w2 ⟨⟨b, rfl, hbr⟩, hbn⟩
          have g1 := Lib.hid (g1.out.below hbn)
          have hb := Lib.hid (below_step hb.out hbn)
          clear hbn
          cases b
          · go_wp2_with fail
            go_ret
            exact ⟨rfl, hb.out⟩
          obtain ⟨hbr1, hbr2⟩ := hbr rfl
          clear hbr
          go_wp2_with (refine wpList_load_mid rfl 93 (.tmp 2) rfl (w.heap.size) 0 rfl [.string n.name, .int .i64 n.opened, .slice N n.acts.length d] _ g1.out.range Tryz.underlying93 rfl ntSz ?_)
          refine (NPrint_any N d n _ (ha.out _ hb.out) (hX.out _ hb.out) (by omega) hok.out).mono ?_
          rintro e w3 ⟨rfl, hbn⟩
          have g1 := Lib.hid (g1.out.below hbn)
          have hb := Lib.hid (below_step hb.out hbn)
          clear hbn
          rw [hP.out]
          go_wp2_with fail
          refine (NParse_any s _ (hX.out _ hb.out)).mono ?_
          rintro e w4 ⟨N1, c1, rfl, ha1, hbn⟩
          have g1 := Lib.hid (g1.out.below hbn)
          have hb := Lib.hid (below_step hb.out hbn)
          clear hbn
          have ha1 := Lib.hid ha1
          rw [hpv.out] at ha1 ⊢
          dsimp only
          go_wp2_with ((refine wpList_store_box rfl 93 (.tmp 7) (.tmp 43) rfl (w4.heap.size) _ [.string m.name, .int .i64 m.opened, .slice N1 m.acts.length c1] (by rfl) (by rfl) (BoxAt.new w4 #[.string ⟨#[]⟩, .int .i64 0, .slice none 0 0] 93) rfl ntSz (by kernel_rfl) ?_; intro w5 h5 hg5); have hbs := below_of_grownB (below_alloc w4 (.cells #[.string ⟨#[]⟩, .int .i64 0, .slice none 0 0] 93)) hg5 (Nat.le_refl _); have g1 := Lib.hid (g1.out.below hbs); have hb := Lib.hid (below_step hb.out hbs); have ha1 := Lib.hid (ha1.out.below hbs); have h5 := Lib.hid h5; clear hg5 hbs)
          refine (NParseR_any s _ (by omega)).mono ?_
          rintro e w6 ⟨N2, c2, rfl, ha2, hbn⟩
          have h5 := Lib.hid (h5.out.below hbn)
          have ha1 := Lib.hid (ha1.out.below hbn)
          have g1 := Lib.hid (g1.out.below hbn)
          have hb := Lib.hid (below_step hb.out hbn)
          clear hbn
          have ha2 := Lib.hid ha2
          rw [hpv.out] at ha2 ⊢
          dsimp only
          go_wp2_with (first | ((refine wpList_store_box rfl 93 (.tmp 10) (.tmp 49) rfl (w6.heap.size) _ [.string m.name, .int .i64 m.opened, .slice N2 m.acts.length c2] (by rfl) (by rfl) (BoxAt.new w6 #[.string ⟨#[]⟩, .int .i64 0, .slice none 0 0] 93) rfl ntSz (by kernel_rfl) ?_; intro w7 h7 hg7); have hbs := below_of_grownB (below_alloc w6 (.cells #[.string ⟨#[]⟩, .int .i64 0, .slice none 0 0] 93)) hg7 (Nat.le_refl _); have g1 := Lib.hid (g1.out.below hbs); have hb := Lib.hid (below_step hb.out hbs); have ha1 := Lib.hid (ha1.out.below hbs); have ha2 := Lib.hid (ha2.out.below hbs); have h5 := Lib.hid (h5.out.below hbs); have h7 := Lib.hid h7; clear hg7 hbs) | (refine wpList_load_mid rfl 93 (.tmp 7) rfl (w4.heap.size) 0 rfl [.string m.name, .int .i64 m.opened, .slice N1 m.acts.length c1] _ h5.out.range Tryz.underlying93 rfl ntSz ?_) | (refine wpList_load_mid rfl 93 (.tmp 10) rfl (w6.heap.size) 0 rfl [.string m.name, .int .i64 m.opened, .slice N2 m.acts.length c2] _ h7.out.range Tryz.underlying93 rfl ntSz ?_))
          refine (SameT_any N1 N2 c1 c2 m _ ha1.out ha2.out).mono ?_
          rintro e w8 ⟨rfl, hbn⟩
          have h5 := Lib.hid (h5.out.below hbn)
          have ha1 := Lib.hid (ha1.out.below hbn)
          have g1 := Lib.hid (g1.out.below hbn)
          have hb := Lib.hid (below_step hb.out hbn)
          clear hbn
          clear ha2 h7
          have k2 := g1.out.c 2 _ rfl
          skip
          go_wp2_with (refine wpList_load_mid rfl 93 (.tmp 7) rfl (w4.heap.size) 0 rfl [.string m.name, .int .i64 m.opened, .slice N1 m.acts.length c1] _ h5.out.range Tryz.underlying93 rfl ntSz ?_)
          refine (NPrint_any N1 c1 m _ ha1.out (hX.out _ hb.out) (by omega) hmok.out).mono ?_
          rintro e w9 ⟨rfl, hbn⟩
          have g1 := Lib.hid (g1.out.below hbn)
          have hb := Lib.hid (below_step hb.out hbn)
          clear hbn
          rw [hQ.out]
          go_wp2_with fail
          go_ret
          exact ⟨by first | rfl | done, hb.out⟩
    · have hE1 : (E != 0) = true := by simpa using hE
      clear hE hpv
      have hpv := hpvz
      by_cases h40 : n.acts.length ≤ 40
      · obtain ⟨t, ht⟩ : ∃ t : ByteArray, t = ⟨(Cal.noteT n).toArray⟩ := ⟨_, rfl⟩
        have hP : Hid ((Value.tuple #[.string ⟨(if n.acts.length ≤ 40 then Cal.noteT n else []).toArray⟩, .int .i64 (if n.acts.length ≤ 40 then 0 else 8)]) = .tuple #[.string t, .int .i64 0]) := by show _ = _; rw [if_pos h40, if_pos h40, ht]
        have htz := Lib.hid ht
        clear ht
        rcases h1 with h1 | ⟨h1, h2⟩
        all_goals
          have g1 := Lib.hid (BoxAt.new w #[.string n.name, .int .i64 n.opened, .slice N n.acts.length d] 93)
          have hb := Lib.hid (below_alloc w (.cells #[.string n.name, .int .i64 n.opened, .slice N n.acts.length d] 93))
          go_enter Tryz.func8, Tryz.ntmps8
          go_wp2_with fail
          refine (nawake_any _ (hT.out.below hb.out)).mono ?_
          rintro e w1 ⟨rfl, hbn⟩
          have g1 := Lib.hid (g1.out.below hbn)
          have hb := Lib.hid (below_step hb.out hbn)
          clear hbn
          go_wp2_with (refine wpList_load_mid rfl 93 (.tmp 2) rfl (w.heap.size) 0 rfl [.string n.name, .int .i64 n.opened, .slice N n.acts.length d] _ g1.out.range Tryz.underlying93 rfl ntSz ?_)
          refine (BriefU_any N d n _ hn (ha.out _ hb.out).size).mono ?_
          rintro e w2 ⟨⟨b, rfl, hbr⟩, hbn⟩
          have g1 := Lib.hid (g1.out.below hbn)
          have hb := Lib.hid (below_step hb.out hbn)
          clear hbn
          cases b
          · go_wp2_with fail
            go_ret
            exact ⟨rfl, hb.out⟩
          obtain ⟨hbr1, hbr2⟩ := hbr rfl
          clear hbr
          go_wp2_with (refine wpList_load_mid rfl 93 (.tmp 2) rfl (w.heap.size) 0 rfl [.string n.name, .int .i64 n.opened, .slice N n.acts.length d] _ g1.out.range Tryz.underlying93 rfl ntSz ?_)
          refine (NPrint_any N d n _ (ha.out _ hb.out) (hX.out _ hb.out) (by omega) hok.out).mono ?_
          rintro e w3 ⟨rfl, hbn⟩
          have g1 := Lib.hid (g1.out.below hbn)
          have hb := Lib.hid (below_step hb.out hbn)
          clear hbn
          rw [hP.out]
          go_wp2_with fail
          refine (NParse_any s _ (hX.out _ hb.out)).mono ?_
          rintro e w4 ⟨N1, c1, rfl, ha1, hbn⟩
          have g1 := Lib.hid (g1.out.below hbn)
          have hb := Lib.hid (below_step hb.out hbn)
          clear hbn
          have ha1 := Lib.hid ha1
          rw [hpv.out] at ha1 ⊢
          dsimp only
          go_wp2_with ((refine wpList_store_box rfl 93 (.tmp 7) (.tmp 43) rfl (w4.heap.size) _ [.string m.name, .int .i64 m.opened, .slice N1 m.acts.length c1] (by rfl) (by rfl) (BoxAt.new w4 #[.string ⟨#[]⟩, .int .i64 0, .slice none 0 0] 93) rfl ntSz (by kernel_rfl) ?_; intro w5 h5 hg5); have hbs := below_of_grownB (below_alloc w4 (.cells #[.string ⟨#[]⟩, .int .i64 0, .slice none 0 0] 93)) hg5 (Nat.le_refl _); have g1 := Lib.hid (g1.out.below hbs); have hb := Lib.hid (below_step hb.out hbs); have ha1 := Lib.hid (ha1.out.below hbs); have h5 := Lib.hid h5; clear hg5 hbs)
          refine (NParseR_any s _ (by omega)).mono ?_
          rintro e w6 ⟨N2, c2, rfl, ha2, hbn⟩
          have h5 := Lib.hid (h5.out.below hbn)
          have ha1 := Lib.hid (ha1.out.below hbn)
          have g1 := Lib.hid (g1.out.below hbn)
          have hb := Lib.hid (below_step hb.out hbn)
          clear hbn
          have ha2 := Lib.hid ha2
          rw [hpv.out] at ha2 ⊢
          dsimp only
          go_wp2_with (first | ((refine wpList_store_box rfl 93 (.tmp 10) (.tmp 49) rfl (w6.heap.size) _ [.string m.name, .int .i64 m.opened, .slice N2 m.acts.length c2] (by rfl) (by rfl) (BoxAt.new w6 #[.string ⟨#[]⟩, .int .i64 0, .slice none 0 0] 93) rfl ntSz (by kernel_rfl) ?_; intro w7 h7 hg7); have hbs := below_of_grownB (below_alloc w6 (.cells #[.string ⟨#[]⟩, .int .i64 0, .slice none 0 0] 93)) hg7 (Nat.le_refl _); have g1 := Lib.hid (g1.out.below hbs); have hb := Lib.hid (below_step hb.out hbs); have ha1 := Lib.hid (ha1.out.below hbs); have ha2 := Lib.hid (ha2.out.below hbs); have h5 := Lib.hid (h5.out.below hbs); have h7 := Lib.hid h7; clear hg7 hbs) | (refine wpList_load_mid rfl 93 (.tmp 7) rfl (w4.heap.size) 0 rfl [.string m.name, .int .i64 m.opened, .slice N1 m.acts.length c1] _ h5.out.range Tryz.underlying93 rfl ntSz ?_) | (refine wpList_load_mid rfl 93 (.tmp 10) rfl (w6.heap.size) 0 rfl [.string m.name, .int .i64 m.opened, .slice N2 m.acts.length c2] _ h7.out.range Tryz.underlying93 rfl ntSz ?_))
          refine (SameT_any N1 N2 c1 c2 m _ ha1.out ha2.out).mono ?_
          rintro e w8 ⟨rfl, hbn⟩
          have h5 := Lib.hid (h5.out.below hbn)
          have ha1 := Lib.hid (ha1.out.below hbn)
          have g1 := Lib.hid (g1.out.below hbn)
          have hb := Lib.hid (below_step hb.out hbn)
          clear hbn
          clear ha2 h7
          have k2 := g1.out.c 2 _ rfl
          go_wp2_with (refine wpNtD g1.out (.tmp 2) rfl ?_)
          refine (NPrintR_any N d n _ (ha.out _ hb.out) (by omega) hok.out h40).mono ?_
          rintro e wq ⟨rfl, hbn⟩
          have h5 := Lib.hid (h5.out.below hbn)
          have ha1 := Lib.hid (ha1.out.below hbn)
          have g1 := Lib.hid (g1.out.below hbn)
          have hb := Lib.hid (below_step hb.out hbn)
          clear hbn
          rw [← htz.out]
          go_wp2_with fail
          go_ret
          exact ⟨by first | rfl | done, hb.out⟩
      · have hP : Hid ((Value.tuple #[.string ⟨(if n.acts.length ≤ 40 then Cal.noteT n else []).toArray⟩, .int .i64 (if n.acts.length ≤ 40 then 0 else 8)]) = .tuple #[.string ⟨#[]⟩, .int .i64 8]) := by show _ = _; rw [if_neg h40, if_neg h40]
        have h40' : 40 < n.acts.length := by omega
        clear h40
        rcases h1 with h1 | ⟨h1, h2⟩
        all_goals
          have g1 := Lib.hid (BoxAt.new w #[.string n.name, .int .i64 n.opened, .slice N n.acts.length d] 93)
          have hb := Lib.hid (below_alloc w (.cells #[.string n.name, .int .i64 n.opened, .slice N n.acts.length d] 93))
          go_enter Tryz.func8, Tryz.ntmps8
          go_wp2_with fail
          refine (nawake_any _ (hT.out.below hb.out)).mono ?_
          rintro e w1 ⟨rfl, hbn⟩
          have g1 := Lib.hid (g1.out.below hbn)
          have hb := Lib.hid (below_step hb.out hbn)
          clear hbn
          go_wp2_with (refine wpList_load_mid rfl 93 (.tmp 2) rfl (w.heap.size) 0 rfl [.string n.name, .int .i64 n.opened, .slice N n.acts.length d] _ g1.out.range Tryz.underlying93 rfl ntSz ?_)
          refine (BriefU_any N d n _ hn (ha.out _ hb.out).size).mono ?_
          rintro e w2 ⟨⟨b, rfl, hbr⟩, hbn⟩
          have g1 := Lib.hid (g1.out.below hbn)
          have hb := Lib.hid (below_step hb.out hbn)
          clear hbn
          cases b
          · go_wp2_with fail
            go_ret
            exact ⟨rfl, hb.out⟩
          obtain ⟨hbr1, hbr2⟩ := hbr rfl
          clear hbr
          go_wp2_with (refine wpList_load_mid rfl 93 (.tmp 2) rfl (w.heap.size) 0 rfl [.string n.name, .int .i64 n.opened, .slice N n.acts.length d] _ g1.out.range Tryz.underlying93 rfl ntSz ?_)
          refine (NPrint_any N d n _ (ha.out _ hb.out) (hX.out _ hb.out) (by omega) hok.out).mono ?_
          rintro e w3 ⟨rfl, hbn⟩
          have g1 := Lib.hid (g1.out.below hbn)
          have hb := Lib.hid (below_step hb.out hbn)
          clear hbn
          rw [hP.out]
          go_wp2_with fail
          refine (NParse_any s _ (hX.out _ hb.out)).mono ?_
          rintro e w4 ⟨N1, c1, rfl, ha1, hbn⟩
          have g1 := Lib.hid (g1.out.below hbn)
          have hb := Lib.hid (below_step hb.out hbn)
          clear hbn
          have ha1 := Lib.hid ha1
          rw [hpv.out] at ha1 ⊢
          dsimp only
          go_wp2_with ((refine wpList_store_box rfl 93 (.tmp 7) (.tmp 43) rfl (w4.heap.size) _ [.string m.name, .int .i64 m.opened, .slice N1 m.acts.length c1] (by rfl) (by rfl) (BoxAt.new w4 #[.string ⟨#[]⟩, .int .i64 0, .slice none 0 0] 93) rfl ntSz (by kernel_rfl) ?_; intro w5 h5 hg5); have hbs := below_of_grownB (below_alloc w4 (.cells #[.string ⟨#[]⟩, .int .i64 0, .slice none 0 0] 93)) hg5 (Nat.le_refl _); have g1 := Lib.hid (g1.out.below hbs); have hb := Lib.hid (below_step hb.out hbs); have ha1 := Lib.hid (ha1.out.below hbs); have h5 := Lib.hid h5; clear hg5 hbs)
          refine (NParseR_any s _ (by omega)).mono ?_
          rintro e w6 ⟨N2, c2, rfl, ha2, hbn⟩
          have h5 := Lib.hid (h5.out.below hbn)
          have ha1 := Lib.hid (ha1.out.below hbn)
          have g1 := Lib.hid (g1.out.below hbn)
          have hb := Lib.hid (below_step hb.out hbn)
          clear hbn
          have ha2 := Lib.hid ha2
          rw [hpv.out] at ha2 ⊢
          dsimp only
          go_wp2_with (first | ((refine wpList_store_box rfl 93 (.tmp 10) (.tmp 49) rfl (w6.heap.size) _ [.string m.name, .int .i64 m.opened, .slice N2 m.acts.length c2] (by rfl) (by rfl) (BoxAt.new w6 #[.string ⟨#[]⟩, .int .i64 0, .slice none 0 0] 93) rfl ntSz (by kernel_rfl) ?_; intro w7 h7 hg7); have hbs := below_of_grownB (below_alloc w6 (.cells #[.string ⟨#[]⟩, .int .i64 0, .slice none 0 0] 93)) hg7 (Nat.le_refl _); have g1 := Lib.hid (g1.out.below hbs); have hb := Lib.hid (below_step hb.out hbs); have ha1 := Lib.hid (ha1.out.below hbs); have ha2 := Lib.hid (ha2.out.below hbs); have h5 := Lib.hid (h5.out.below hbs); have h7 := Lib.hid h7; clear hg7 hbs) | (refine wpList_load_mid rfl 93 (.tmp 7) rfl (w4.heap.size) 0 rfl [.string m.name, .int .i64 m.opened, .slice N1 m.acts.length c1] _ h5.out.range Tryz.underlying93 rfl ntSz ?_) | (refine wpList_load_mid rfl 93 (.tmp 10) rfl (w6.heap.size) 0 rfl [.string m.name, .int .i64 m.opened, .slice N2 m.acts.length c2] _ h7.out.range Tryz.underlying93 rfl ntSz ?_))
          refine (SameT_any N1 N2 c1 c2 m _ ha1.out ha2.out).mono ?_
          rintro e w8 ⟨rfl, hbn⟩
          have h5 := Lib.hid (h5.out.below hbn)
          have ha1 := Lib.hid (ha1.out.below hbn)
          have g1 := Lib.hid (g1.out.below hbn)
          have hb := Lib.hid (below_step hb.out hbn)
          clear hbn
          clear ha2 h7
          have k2 := g1.out.c 2 _ rfl
          go_wp2_with fail
          go_ret
          exact ⟨by first | rfl | done, hb.out⟩
  · have h2 : 500 < s.size := by omega
    have h3 : s.size ≤ 60000 ∨ 120000 < s.size := by omega
    clear h1
    rcases h3 with h3 | h3
    all_goals
      have g1 := Lib.hid (BoxAt.new w #[.string n.name, .int .i64 n.opened, .slice N n.acts.length d] 93)
      have hb := Lib.hid (below_alloc w (.cells #[.string n.name, .int .i64 n.opened, .slice N n.acts.length d] 93))
      go_enter Tryz.func8, Tryz.ntmps8
      go_wp2_with fail
      refine (nawake_any _ (hT.out.below hb.out)).mono ?_
      rintro e w1 ⟨rfl, hbn⟩
      have g1 := Lib.hid (g1.out.below hbn)
      have hb := Lib.hid (below_step hb.out hbn)
      clear hbn
      go_wp2_with (refine wpList_load_mid rfl 93 (.tmp 2) rfl (w.heap.size) 0 rfl [.string n.name, .int .i64 n.opened, .slice N n.acts.length d] _ g1.out.range Tryz.underlying93 rfl ntSz ?_)
      refine (BriefU_any N d n _ hn (ha.out _ hb.out).size).mono ?_
      rintro e w2 ⟨⟨b, rfl, hbr⟩, hbn⟩
      have g1 := Lib.hid (g1.out.below hbn)
      have hb := Lib.hid (below_step hb.out hbn)
      clear hbn
      cases b
      · go_wp2_with fail
        go_ret
        exact ⟨rfl, hb.out⟩
      go_wp2_with fail
      go_ret
      exact ⟨rfl, hb.out⟩
end Go.Proofs.YtbegbajlagcbdaaGreatDoor
