/- Chapter 8 and what it rests on: definitions and walks, part 28. -/
import Derived.Test.YtbegbajlagcbdaaGreatDoorC27
namespace Go.Proofs.YtbegbajlagcbdaaGreatDoor
open Go Go.RowKit
/-- What ParseProvision returns. -/
def parseV (l : List UInt8) : Value × Int := if 200 < l.length then (prov0, 8) else match Cal.words l with
  | some (a, q) => if Cal.provErr ⟨a.toArray⟩ q.1 q.2.1 q.2.2.1 q.2.2.2 = 0 then (provVal a q, 0) else (prov0, Cal.provErr ⟨a.toArray⟩ q.1 q.2.1 q.2.2.1 q.2.2.2)
  | none => (prov0, 7)
theorem parseV_long {l : List UInt8} (h : 200 < l.length) : parseV l = (prov0, 8) := by unfold parseV; rw [if_pos h]
theorem parseV_none {l : List UInt8} (h0 : ¬ 200 < l.length) (h : Cal.words l = none) : parseV l = (prov0, 7) := by unfold parseV; rw [if_neg h0, h]
theorem parseV_bad {l a : List UInt8} {q : Int × Int × Int × Bool} (h0 : ¬ 200 < l.length) (h : Cal.words l = some (a, q)) (hE : Cal.provErr ⟨a.toArray⟩ q.1 q.2.1 q.2.2.1 q.2.2.2 ≠ 0) : parseV l = (prov0, Cal.provErr ⟨a.toArray⟩ q.1 q.2.1 q.2.2.1 q.2.2.2) := by unfold parseV; rw [if_neg h0, h]; simp only [if_neg hE]
theorem parseV_good {l a : List UInt8} {q : Int × Int × Int × Bool} (h0 : ¬ 200 < l.length) (h : Cal.words l = some (a, q)) (hE : Cal.provErr ⟨a.toArray⟩ q.1 q.2.1 q.2.2.1 q.2.2.2 = 0) : parseV l = (provVal a q, 0) := by unfold parseV; rw [if_neg h0, h]; simp only [if_pos hE]
theorem words_name {l a : List UInt8} {q : Int × Int × Int × Bool} (h : Cal.words l = some (a, q)) : a.length ≤ l.length := by
  unfold Cal.words at h
  split at h
  · next a' b c d hz =>
    split at h
    · cases h
    · cases hq : Cal.wordsOf b c d with
      | none => rw [hq] at h; cases h
      | some x =>
        rw [hq] at h
        simp only [Option.map_some, Option.some.injEq, Prod.mk.injEq] at h
        have hm : a' ∈ Cal.cutT 32 l := by rw [hz]; simp
        have := (Cal.cutT_mem hm).2
        rw [← h.1]
        exact this
  · cases h
set_option maxRecDepth 100000 in
set_option maxHeartbeats 4000000 in
theorem ParseProvision_any (s : ByteArray) (w : World) (hT : TxtT w) (hs : s.size ≤ 1000000) : Calls Tryz.prog 29 #[.string s] w (ReadPost w (parseV s.data.toList)) := by
  have hT := Lib.hid (fun w' (h : Below w.heap.size w w') => hT.below h)
  by_cases h0 : 200 < s.data.toList.length
  · have hfin := Lib.hid (parseV_long h0)
    have hrd := Lib.hid (readV_long h0)
    clear h0
    have g2 := Lib.hid (BoxAt.new w #[.string ⟨#[]⟩, .int .i64 0, .int .i64 0, .int .i64 0, .bool false] 71)
    have hb := Lib.hid (below_alloc w (.cells #[.string ⟨#[]⟩, .int .i64 0, .int .i64 0, .int .i64 0, .bool false] 71))
    go_enter Tryz.func29, Tryz.ntmps29
    go_wp2_with fail
    refine (read_any s _ (hT.out _ hb.out) hs).mono ?_
    rintro e w1 ⟨rfl, hb1⟩
    rw [hrd.out]
    dsimp only [prov0]
    have g2 := Lib.hid (g2.out.below hb1)
    have hb := Lib.hid (below_step hb.out hb1)
    clear hb1
    have hlt := g2.out.lt
    have h4 := Lib.hid (BoxAt.new w1 #[.string ⟨#[]⟩, .int .i64 0, .int .i64 0, .int .i64 0, .bool false] 71)
    have g4 := Lib.hid (g2.out.below (below_alloc w1 (.cells #[.string ⟨#[]⟩, .int .i64 0, .int .i64 0, .int .i64 0, .bool false] 71)))
    have hb4 := Lib.hid (below_step hb.out (below_alloc w1 (.cells #[.string ⟨#[]⟩, .int .i64 0, .int .i64 0, .int .i64 0, .bool false] 71)))
    go_wp2_with (first | ((refine wpList_store_box rfl 71 (.tmp 4) (.tmp 9) rfl (w1.heap.size) _ [.string ⟨#[]⟩, .int .i64 0, .int .i64 0, .int .i64 0, .bool false] (by rfl) (by rfl) h4.out rfl pvSize (by kernel_rfl) ?_; intro w5 h5' hg5); have h5 := Lib.hid h5'; have g5 := Lib.hid (g4.out.grown hg5 (by simp; omega)); have hb5 := Lib.hid (below_of_grownB hb4.out hg5 (by omega)); have hl5 : w1.heap.size < w5.heap.size := h5.out.lt; clear hg5 h5') | (refine wpList_store_box rfl 71 (.tmp 2) (.tmp 17) rfl (w.heap.size) _ [.string ⟨#[]⟩, .int .i64 0, .int .i64 0, .int .i64 0, .bool false] (by rfl) (by rfl) g5.out rfl pvSize (by kernel_rfl) ?_; intro w4 h8 hg8))
    (try simp only [Exit.inBlock, Exit.then])
    refine bodyPost_ret (results_mid2 rfl _ _ w.heap.size [.string ⟨#[]⟩, .int .i64 0, .int .i64 0, .int .i64 0, .bool false] _ rfl h8.range Tryz.underlying71 rfl pvSize) rfl ⟨by rw [hfin.out]; rfl, below_of_grownB hb5.out hg8 (by omega)⟩
  · have hshort := Lib.hid h0
    cases hw : Cal.words s.data.toList with
    | none =>
      have hfin := Lib.hid (parseV_none h0 hw)
      have hrd := Lib.hid (readV_none h0 hw)
      clear h0 hw
      have g2 := Lib.hid (BoxAt.new w #[.string ⟨#[]⟩, .int .i64 0, .int .i64 0, .int .i64 0, .bool false] 71)
      have hb := Lib.hid (below_alloc w (.cells #[.string ⟨#[]⟩, .int .i64 0, .int .i64 0, .int .i64 0, .bool false] 71))
      go_enter Tryz.func29, Tryz.ntmps29
      go_wp2_with fail
      refine (read_any s _ (hT.out _ hb.out) hs).mono ?_
      rintro e w1 ⟨rfl, hb1⟩
      rw [hrd.out]
      dsimp only [prov0]
      have g2 := Lib.hid (g2.out.below hb1)
      have hb := Lib.hid (below_step hb.out hb1)
      clear hb1
      have hlt := g2.out.lt
      have h4 := Lib.hid (BoxAt.new w1 #[.string ⟨#[]⟩, .int .i64 0, .int .i64 0, .int .i64 0, .bool false] 71)
      have g4 := Lib.hid (g2.out.below (below_alloc w1 (.cells #[.string ⟨#[]⟩, .int .i64 0, .int .i64 0, .int .i64 0, .bool false] 71)))
      have hb4 := Lib.hid (below_step hb.out (below_alloc w1 (.cells #[.string ⟨#[]⟩, .int .i64 0, .int .i64 0, .int .i64 0, .bool false] 71)))
      go_wp2_with (first | ((refine wpList_store_box rfl 71 (.tmp 4) (.tmp 9) rfl (w1.heap.size) _ [.string ⟨#[]⟩, .int .i64 0, .int .i64 0, .int .i64 0, .bool false] (by rfl) (by rfl) h4.out rfl pvSize (by kernel_rfl) ?_; intro w5 h5' hg5); have h5 := Lib.hid h5'; have g5 := Lib.hid (g4.out.grown hg5 (by simp; omega)); have hb5 := Lib.hid (below_of_grownB hb4.out hg5 (by omega)); have hl5 : w1.heap.size < w5.heap.size := h5.out.lt; clear hg5 h5') | (refine wpList_store_box rfl 71 (.tmp 2) (.tmp 17) rfl (w.heap.size) _ [.string ⟨#[]⟩, .int .i64 0, .int .i64 0, .int .i64 0, .bool false] (by rfl) (by rfl) g5.out rfl pvSize (by kernel_rfl) ?_; intro w4 h8 hg8))
      (try simp only [Exit.inBlock, Exit.then])
      refine bodyPost_ret (results_mid2 rfl _ _ w.heap.size [.string ⟨#[]⟩, .int .i64 0, .int .i64 0, .int .i64 0, .bool false] _ rfl h8.range Tryz.underlying71 rfl pvSize) rfl ⟨by rw [hfin.out]; rfl, below_of_grownB hb5.out hg8 (by omega)⟩
    | some aq =>
      obtain ⟨a, v, f, en, r⟩ := aq
      have hrd := Lib.hid (readV_some h0 hw)
      have hnl := words_name hw
      have hlen := list_len s
      obtain ⟨Xa, hXa⟩ : ∃ X : ByteArray, X = ⟨a.toArray⟩ := ⟨_, rfl⟩
      have hXs : Xa.size ≤ maxLen := by
        have h1 : Xa.size = a.length := by rw [hXa]; show a.toArray.size = _; simp
        unfold maxLen; omega
      have hbad := fun h => parseV_bad (l := s.data.toList) (a := a) (q := (v, f, en, r)) h0 hw h
      have hgood := fun h => parseV_good (l := s.data.toList) (a := a) (q := (v, f, en, r)) h0 hw h
      dsimp only at hbad hgood
      rw [← hXa] at hbad hgood
      have hPV : provVal a (v, f, en, r) = .agg #[.string Xa, .int .i64 v, .int .i64 f, .int .i64 en, .bool r] := by rw [hXa]; rfl
      rw [hPV] at hgood
      have hrd2 := hrd.out
      rw [hPV] at hrd2
      have hrd := Lib.hid hrd2
      clear h0 hw hnl hlen hXa hPV hrd2
      by_cases hE : Cal.provErr Xa v f en r = 0
      · have hfin := Lib.hid (hgood hE)
        have hEz := Lib.hid hE
        clear hE hgood hbad
        have g2 := Lib.hid (BoxAt.new w #[.string ⟨#[]⟩, .int .i64 0, .int .i64 0, .int .i64 0, .bool false] 71)
        have hb := Lib.hid (below_alloc w (.cells #[.string ⟨#[]⟩, .int .i64 0, .int .i64 0, .int .i64 0, .bool false] 71))
        go_enter Tryz.func29, Tryz.ntmps29
        go_wp2_with fail
        refine (read_any s _ (hT.out _ hb.out) hs).mono ?_
        rintro e w1 ⟨rfl, hb1⟩
        rw [hrd.out]
        dsimp only
        have g2 := Lib.hid (g2.out.below hb1)
        have hb := Lib.hid (below_step hb.out hb1)
        clear hb1
        have hlt := g2.out.lt
        have h4 := Lib.hid (BoxAt.new w1 #[.string ⟨#[]⟩, .int .i64 0, .int .i64 0, .int .i64 0, .bool false] 71)
        have g4 := Lib.hid (g2.out.below (below_alloc w1 (.cells #[.string ⟨#[]⟩, .int .i64 0, .int .i64 0, .int .i64 0, .bool false] 71)))
        have hb4 := Lib.hid (below_step hb.out (below_alloc w1 (.cells #[.string ⟨#[]⟩, .int .i64 0, .int .i64 0, .int .i64 0, .bool false] 71)))
        go_wp2_with (first | ((refine wpList_store_box rfl 71 (.tmp 4) (.tmp 9) rfl (w1.heap.size) _ [.string Xa, .int .i64 v, .int .i64 f, .int .i64 en, .bool r] (by rfl) (by rfl) h4.out rfl pvSize (by kernel_rfl) ?_; intro w5 h5' hg5); have h5 := Lib.hid h5'; have g5 := Lib.hid (g4.out.grown hg5 (by simp; omega)); have hb5 := Lib.hid (below_of_grownB hb4.out hg5 (by omega)); have hl5 : w1.heap.size < w5.heap.size := h5.out.lt; clear hg5 h5') | (refine wpList_load_mid rfl 71 (.tmp 4) rfl (w1.heap.size) 0 rfl [.string Xa, .int .i64 v, .int .i64 f, .int .i64 en, .bool r] _ h5.out.range Tryz.underlying71 rfl pvSize ?_))
        refine (checkProvision_any Xa v f en r _ hXs).mono ?_
        rintro e w6 ⟨rfl, hb6⟩
        have h5 := Lib.hid (h5.out.below hb6)
        have g5 := Lib.hid (g5.out.below hb6)
        have hb5 := Lib.hid (below_step hb5.out hb6)
        clear hb6
        rw [hEz.out]
        go_wp2_with (first | (refine wpList_load_mid rfl 71 (.tmp 4) rfl (w1.heap.size) 0 rfl [.string Xa, .int .i64 v, .int .i64 f, .int .i64 en, .bool r] _ h5.out.range Tryz.underlying71 rfl pvSize ?_) | (refine wpList_store_box rfl 71 (.tmp 2) (.tmp 19) rfl (w.heap.size) _ [.string Xa, .int .i64 v, .int .i64 f, .int .i64 en, .bool r] (by rfl) (by rfl) g5.out rfl pvSize (by kernel_rfl) ?_; intro w4 h8 hg8))
        (try simp only [Exit.inBlock, Exit.then])
        refine bodyPost_ret (results_mid2 rfl _ _ w.heap.size [.string Xa, .int .i64 v, .int .i64 f, .int .i64 en, .bool r] _ rfl h8.range Tryz.underlying71 rfl pvSize) rfl ⟨by rw [hfin.out]; rfl, below_of_grownB hb5.out hg8 (by omega)⟩
      · have hfin := Lib.hid (hbad hE)
        have hE1 : (Cal.provErr Xa v f en r != 0) = true := by simpa using hE
        clear hE hgood hbad
        have g2 := Lib.hid (BoxAt.new w #[.string ⟨#[]⟩, .int .i64 0, .int .i64 0, .int .i64 0, .bool false] 71)
        have hb := Lib.hid (below_alloc w (.cells #[.string ⟨#[]⟩, .int .i64 0, .int .i64 0, .int .i64 0, .bool false] 71))
        go_enter Tryz.func29, Tryz.ntmps29
        go_wp2_with fail
        refine (read_any s _ (hT.out _ hb.out) hs).mono ?_
        rintro e w1 ⟨rfl, hb1⟩
        rw [hrd.out]
        dsimp only
        have g2 := Lib.hid (g2.out.below hb1)
        have hb := Lib.hid (below_step hb.out hb1)
        clear hb1
        have hlt := g2.out.lt
        have h4 := Lib.hid (BoxAt.new w1 #[.string ⟨#[]⟩, .int .i64 0, .int .i64 0, .int .i64 0, .bool false] 71)
        have g4 := Lib.hid (g2.out.below (below_alloc w1 (.cells #[.string ⟨#[]⟩, .int .i64 0, .int .i64 0, .int .i64 0, .bool false] 71)))
        have hb4 := Lib.hid (below_step hb.out (below_alloc w1 (.cells #[.string ⟨#[]⟩, .int .i64 0, .int .i64 0, .int .i64 0, .bool false] 71)))
        go_wp2_with (first | ((refine wpList_store_box rfl 71 (.tmp 4) (.tmp 9) rfl (w1.heap.size) _ [.string Xa, .int .i64 v, .int .i64 f, .int .i64 en, .bool r] (by rfl) (by rfl) h4.out rfl pvSize (by kernel_rfl) ?_; intro w5 h5' hg5); have h5 := Lib.hid h5'; have g5 := Lib.hid (g4.out.grown hg5 (by simp; omega)); have hb5 := Lib.hid (below_of_grownB hb4.out hg5 (by omega)); have hl5 : w1.heap.size < w5.heap.size := h5.out.lt; clear hg5 h5') | (refine wpList_load_mid rfl 71 (.tmp 4) rfl (w1.heap.size) 0 rfl [.string Xa, .int .i64 v, .int .i64 f, .int .i64 en, .bool r] _ h5.out.range Tryz.underlying71 rfl pvSize ?_))
        refine (checkProvision_any Xa v f en r _ hXs).mono ?_
        rintro e w6 ⟨rfl, hb6⟩
        have h5 := Lib.hid (h5.out.below hb6)
        have g5 := Lib.hid (g5.out.below hb6)
        have hb5 := Lib.hid (below_step hb5.out hb6)
        clear hb6
        go_wp2_with (refine wpList_store_box rfl 71 (.tmp 2) (.tmp 17) rfl (w.heap.size) _ [.string ⟨#[]⟩, .int .i64 0, .int .i64 0, .int .i64 0, .bool false] (by rfl) (by rfl) g5.out rfl pvSize (by kernel_rfl) ?_; intro w4 h8 hg8)
        (try simp only [Exit.inBlock, Exit.then])
        refine bodyPost_ret (results_mid2 rfl _ _ w.heap.size [.string ⟨#[]⟩, .int .i64 0, .int .i64 0, .int .i64 0, .bool false] _ rfl h8.range Tryz.underlying71 rfl pvSize) rfl ⟨by rw [hfin.out]; rfl, below_of_grownB hb5.out hg8 (by omega)⟩
set_option maxRecDepth 100000 in
set_option maxHeartbeats 4000000 in
theorem ParseProvisionR_any (s : ByteArray) (w : World) (hs : s.size ≤ 1000000) : Calls Tryz.prog 30 #[.string s] w (ReadPost w (parseV s.data.toList)) := by
  have hll := list_len s
  by_cases h0 : 200 < s.data.toList.length
  · have hfin := Lib.hid (parseV_long h0)
    have h0' : 200 < s.size := by omega
    clear h0 hll
    have g2 := Lib.hid (BoxAt.new w #[.string ⟨#[]⟩, .int .i64 0, .int .i64 0, .int .i64 0, .bool false] 71)
    have hb := Lib.hid (below_alloc w (.cells #[.string ⟨#[]⟩, .int .i64 0, .int .i64 0, .int .i64 0, .bool false] 71))
    go_enter Tryz.func30, Tryz.ntmps30
    have hb5 := hb
    go_wp2_with (refine wpList_store_box rfl 71 (.tmp 2) (.tmp 10) rfl (w.heap.size) _ [.string ⟨#[]⟩, .int .i64 0, .int .i64 0, .int .i64 0, .bool false] (by rfl) (by rfl) g2.out rfl pvSize (by kernel_rfl) ?_; intro w4 h8 hg8)
    (try simp only [Exit.inBlock, Exit.then])
    refine bodyPost_ret (results_mid2 rfl _ _ w.heap.size [.string ⟨#[]⟩, .int .i64 0, .int .i64 0, .int .i64 0, .bool false] _ rfl h8.range Tryz.underlying71 rfl pvSize) rfl ⟨by rw [hfin.out]; rfl, below_of_grownB hb5.out hg8 (by omega)⟩
  · have h0' : s.size ≤ 200 := by omega
    cases hw : Cal.words s.data.toList with
    | none =>
      have hfin := Lib.hid (parseV_none h0 hw)
      have hrd := Lib.hid (wordsV_none hw)
      clear h0 hw hll
      have g2 := Lib.hid (BoxAt.new w #[.string ⟨#[]⟩, .int .i64 0, .int .i64 0, .int .i64 0, .bool false] 71)
      have hb := Lib.hid (below_alloc w (.cells #[.string ⟨#[]⟩, .int .i64 0, .int .i64 0, .int .i64 0, .bool false] 71))
      go_enter Tryz.func30, Tryz.ntmps30
      go_wp2_with fail
      refine (words_any s _ hs).mono ?_
      rintro e w1 ⟨rfl, hb1⟩
      rw [hrd.out]
      dsimp only [prov0]
      have g2 := Lib.hid (g2.out.below hb1)
      have hb := Lib.hid (below_step hb.out hb1)
      clear hb1
      have hlt := g2.out.lt
      have h4 := Lib.hid (BoxAt.new w1 #[.string ⟨#[]⟩, .int .i64 0, .int .i64 0, .int .i64 0, .bool false] 71)
      have g4 := Lib.hid (g2.out.below (below_alloc w1 (.cells #[.string ⟨#[]⟩, .int .i64 0, .int .i64 0, .int .i64 0, .bool false] 71)))
      have hb4 := Lib.hid (below_step hb.out (below_alloc w1 (.cells #[.string ⟨#[]⟩, .int .i64 0, .int .i64 0, .int .i64 0, .bool false] 71)))
      go_wp2_with (first | ((refine wpList_store_box rfl 71 (.tmp 4) (.tmp 14) rfl (w1.heap.size) _ [.string ⟨#[]⟩, .int .i64 0, .int .i64 0, .int .i64 0, .bool false] (by rfl) (by rfl) h4.out rfl pvSize (by kernel_rfl) ?_; intro w5 h5' hg5); have h5 := Lib.hid h5'; have g5 := Lib.hid (g4.out.grown hg5 (by simp; omega)); have hb5 := Lib.hid (below_of_grownB hb4.out hg5 (by omega)); have hl5 : w1.heap.size < w5.heap.size := h5.out.lt; clear hg5 h5') | (refine wpList_store_box rfl 71 (.tmp 2) (.tmp 18) rfl (w.heap.size) _ [.string ⟨#[]⟩, .int .i64 0, .int .i64 0, .int .i64 0, .bool false] (by rfl) (by rfl) g5.out rfl pvSize (by kernel_rfl) ?_; intro w4 h8 hg8))
      (try simp only [Exit.inBlock, Exit.then])
      refine bodyPost_ret (results_mid2 rfl _ _ w.heap.size [.string ⟨#[]⟩, .int .i64 0, .int .i64 0, .int .i64 0, .bool false] _ rfl h8.range Tryz.underlying71 rfl pvSize) rfl ⟨by rw [hfin.out]; rfl, below_of_grownB hb5.out hg8 (by omega)⟩
    | some aq =>
      obtain ⟨a, v, f, en, r⟩ := aq
      have hrd := Lib.hid (wordsV_some h0 hw)
      have hnl := words_name hw
      obtain ⟨Xa, hXa⟩ : ∃ X : ByteArray, X = ⟨a.toArray⟩ := ⟨_, rfl⟩
      have hXs : Xa.size ≤ maxLen := by
        have h1 : Xa.size = a.length := by rw [hXa]; show a.toArray.size = _; simp
        unfold maxLen; omega
      have hbad := fun h => parseV_bad (l := s.data.toList) (a := a) (q := (v, f, en, r)) h0 hw h
      have hgood := fun h => parseV_good (l := s.data.toList) (a := a) (q := (v, f, en, r)) h0 hw h
      dsimp only at hbad hgood
      rw [← hXa] at hbad hgood
      have hPV : provVal a (v, f, en, r) = .agg #[.string Xa, .int .i64 v, .int .i64 f, .int .i64 en, .bool r] := by rw [hXa]; rfl
      rw [hPV] at hgood
      have hrd2 := hrd.out
      rw [hPV] at hrd2
      have hrd := Lib.hid hrd2
      clear h0 hw hnl hll hXa hPV hrd2
      by_cases hE : Cal.provErr Xa v f en r = 0
      · have hfin := Lib.hid (hgood hE)
        have hEz := Lib.hid hE
        clear hE hgood hbad
        have g2 := Lib.hid (BoxAt.new w #[.string ⟨#[]⟩, .int .i64 0, .int .i64 0, .int .i64 0, .bool false] 71)
        have hb := Lib.hid (below_alloc w (.cells #[.string ⟨#[]⟩, .int .i64 0, .int .i64 0, .int .i64 0, .bool false] 71))
        go_enter Tryz.func30, Tryz.ntmps30
        go_wp2_with fail
        refine (words_any s _ hs).mono ?_
        rintro e w1 ⟨rfl, hb1⟩
        rw [hrd.out]
        dsimp only
        have g2 := Lib.hid (g2.out.below hb1)
        have hb := Lib.hid (below_step hb.out hb1)
        clear hb1
        have hlt := g2.out.lt
        have h4 := Lib.hid (BoxAt.new w1 #[.string ⟨#[]⟩, .int .i64 0, .int .i64 0, .int .i64 0, .bool false] 71)
        have g4 := Lib.hid (g2.out.below (below_alloc w1 (.cells #[.string ⟨#[]⟩, .int .i64 0, .int .i64 0, .int .i64 0, .bool false] 71)))
        have hb4 := Lib.hid (below_step hb.out (below_alloc w1 (.cells #[.string ⟨#[]⟩, .int .i64 0, .int .i64 0, .int .i64 0, .bool false] 71)))
        go_wp2_with (first | ((refine wpList_store_box rfl 71 (.tmp 4) (.tmp 14) rfl (w1.heap.size) _ [.string Xa, .int .i64 v, .int .i64 f, .int .i64 en, .bool r] (by rfl) (by rfl) h4.out rfl pvSize (by kernel_rfl) ?_; intro w5 h5' hg5); have h5 := Lib.hid h5'; have g5 := Lib.hid (g4.out.grown hg5 (by simp; omega)); have hb5 := Lib.hid (below_of_grownB hb4.out hg5 (by omega)); have hl5 : w1.heap.size < w5.heap.size := h5.out.lt; clear hg5 h5') | (refine wpList_load_mid rfl 71 (.tmp 4) rfl (w1.heap.size) 0 rfl [.string Xa, .int .i64 v, .int .i64 f, .int .i64 en, .bool r] _ h5.out.range Tryz.underlying71 rfl pvSize ?_))
        refine (ProvisionErr_any Xa v f en r _ hXs).mono ?_
        rintro e w6 ⟨rfl, hb6⟩
        have h5 := Lib.hid (h5.out.below hb6)
        have g5 := Lib.hid (g5.out.below hb6)
        have hb5 := Lib.hid (below_step hb5.out hb6)
        clear hb6
        rw [hEz.out]
        go_wp2_with (first | (refine wpList_load_mid rfl 71 (.tmp 4) rfl (w1.heap.size) 0 rfl [.string Xa, .int .i64 v, .int .i64 f, .int .i64 en, .bool r] _ h5.out.range Tryz.underlying71 rfl pvSize ?_) | (refine wpList_store_box rfl 71 (.tmp 2) (.tmp 25) rfl (w.heap.size) _ [.string Xa, .int .i64 v, .int .i64 f, .int .i64 en, .bool r] (by rfl) (by rfl) g5.out rfl pvSize (by kernel_rfl) ?_; intro w4 h8 hg8))
        (try simp only [Exit.inBlock, Exit.then])
        refine bodyPost_ret (results_mid2 rfl _ _ w.heap.size [.string Xa, .int .i64 v, .int .i64 f, .int .i64 en, .bool r] _ rfl h8.range Tryz.underlying71 rfl pvSize) rfl ⟨by rw [hfin.out]; rfl, below_of_grownB hb5.out hg8 (by omega)⟩
      · have hfin := Lib.hid (hbad hE)
        have hE1 : (Cal.provErr Xa v f en r != 0) = true := by simpa using hE
        clear hE hgood hbad
        have g2 := Lib.hid (BoxAt.new w #[.string ⟨#[]⟩, .int .i64 0, .int .i64 0, .int .i64 0, .bool false] 71)
        have hb := Lib.hid (below_alloc w (.cells #[.string ⟨#[]⟩, .int .i64 0, .int .i64 0, .int .i64 0, .bool false] 71))
        go_enter Tryz.func30, Tryz.ntmps30
        go_wp2_with fail
        refine (words_any s _ hs).mono ?_
        rintro e w1 ⟨rfl, hb1⟩
        rw [hrd.out]
        dsimp only
        have g2 := Lib.hid (g2.out.below hb1)
        have hb := Lib.hid (below_step hb.out hb1)
        clear hb1
        have hlt := g2.out.lt
        have h4 := Lib.hid (BoxAt.new w1 #[.string ⟨#[]⟩, .int .i64 0, .int .i64 0, .int .i64 0, .bool false] 71)
        have g4 := Lib.hid (g2.out.below (below_alloc w1 (.cells #[.string ⟨#[]⟩, .int .i64 0, .int .i64 0, .int .i64 0, .bool false] 71)))
        have hb4 := Lib.hid (below_step hb.out (below_alloc w1 (.cells #[.string ⟨#[]⟩, .int .i64 0, .int .i64 0, .int .i64 0, .bool false] 71)))
        go_wp2_with (first | ((refine wpList_store_box rfl 71 (.tmp 4) (.tmp 14) rfl (w1.heap.size) _ [.string Xa, .int .i64 v, .int .i64 f, .int .i64 en, .bool r] (by rfl) (by rfl) h4.out rfl pvSize (by kernel_rfl) ?_; intro w5 h5' hg5); have h5 := Lib.hid h5'; have g5 := Lib.hid (g4.out.grown hg5 (by simp; omega)); have hb5 := Lib.hid (below_of_grownB hb4.out hg5 (by omega)); have hl5 : w1.heap.size < w5.heap.size := h5.out.lt; clear hg5 h5') | (refine wpList_load_mid rfl 71 (.tmp 4) rfl (w1.heap.size) 0 rfl [.string Xa, .int .i64 v, .int .i64 f, .int .i64 en, .bool r] _ h5.out.range Tryz.underlying71 rfl pvSize ?_))
        refine (ProvisionErr_any Xa v f en r _ hXs).mono ?_
        rintro e w6 ⟨rfl, hb6⟩
        have h5 := Lib.hid (h5.out.below hb6)
        have g5 := Lib.hid (g5.out.below hb6)
        have hb5 := Lib.hid (below_step hb5.out hb6)
        clear hb6
        go_wp2_with (refine wpList_store_box rfl 71 (.tmp 2) (.tmp 23) rfl (w.heap.size) _ [.string ⟨#[]⟩, .int .i64 0, .int .i64 0, .int .i64 0, .bool false] (by rfl) (by rfl) g5.out rfl pvSize (by kernel_rfl) ?_; intro w4 h8 hg8)
        (try simp only [Exit.inBlock, Exit.then])
        refine bodyPost_ret (results_mid2 rfl _ _ w.heap.size [.string ⟨#[]⟩, .int .i64 0, .int .i64 0, .int .i64 0, .bool false] _ rfl h8.range Tryz.underlying71 rfl pvSize) rfl ⟨by rw [hfin.out]; rfl, below_of_grownB hb5.out hg8 (by omega)⟩
end Go.Proofs.YtbegbajlagcbdaaGreatDoor
