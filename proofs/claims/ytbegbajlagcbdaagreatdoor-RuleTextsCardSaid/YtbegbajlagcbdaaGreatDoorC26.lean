/- Chapter 8 and what it rests on: definitions and walks, part 26. -/
import Derived.Test.YtbegbajlagcbdaaGreatDoorC10
import Derived.Test.YtbegbajlagcbdaaGreatDoorC25
import Derived.Test.YtbegbajlagcbdaaGreatDoorC19
namespace Go.Proofs.YtbegbajlagcbdaaGreatDoor
open Go Go.RowKit
theorem pvSize : (Tryz.prog.info? 71).map (·.size) = some 5 := by kernel_rfl
def provVal (a : List UInt8) (q : Int × Int × Int × Bool) : Value := .agg #[.string ⟨a.toArray⟩, .int .i64 q.1, .int .i64 q.2.1, .int .i64 q.2.2.1, .bool q.2.2.2]
def prov0 : Value := .agg #[.string ⟨#[]⟩, .int .i64 0, .int .i64 0, .int .i64 0, .bool false]
/-- What the reference's words returns. -/
def wordsV (l : List UInt8) : Value × Bool := if 200 < l.length then (prov0, false) else match Cal.words l with | some (a, q) => (provVal a q, true) | none => (prov0, false)
def WordsPost (w : World) (r : Value × Bool) (e : Ending) (w' : World) : Prop := e = .returned (.tuple #[r.1, .bool r.2]) ∧ Below w.heap.size w w'
def CutPost (w : World) (zs : List (List UInt8)) (e : Ending) (w' : World) : Prop := ∃ v, e = .returned v ∧ TextsL w' w.heap.size v zs ∧ Below w.heap.size w w'
theorem Cut32_any (s : ByteArray) (w : World) (hs : s.size ≤ 1000000) : Calls Tryz.prog 96 #[.string s, .int .u8 32] w (CutPost w (Cal.cutT 32 s.data.toList)) := Cut_any s 32 w hs
theorem Cut10_any (s : ByteArray) (w : World) (hs : s.size ≤ 1000000) : Calls Tryz.prog 96 #[.string s, .int .u8 10] w (CutPost w (Cal.cutT 10 s.data.toList)) := Cut_any s 10 w hs
theorem texts4 {w : World} {A : Option Addr} {a b c d : List UInt8} (h : RowsAt w A 1 (txtRows [a, b, c, d])) :
    ∃ bk o, A = some ⟨bk, o, none⟩ ∧ bk < w.heap.size ∧ w.cell? ⟨bk, o, none⟩ = some (.string ⟨a.toArray⟩) ∧ w.cell? ⟨bk, o + 1, none⟩ = some (.string ⟨b.toArray⟩) ∧ w.cell? ⟨bk, o + 2, none⟩ = some (.string ⟨c.toArray⟩) ∧ w.cell? ⟨bk, o + 3, none⟩ = some (.string ⟨d.toArray⟩) := by
  obtain ⟨bk, o, rfl, hlt, h0⟩ := h 0 [encStr a] rfl
  refine ⟨bk, o, rfl, hlt, h0 0 _ rfl, ?_, ?_, ?_⟩
  · obtain ⟨_, _, e, _, h1⟩ := h 1 [encStr b] rfl; cases e; exact h1 0 _ rfl
  · obtain ⟨_, _, e, _, h1⟩ := h 2 [encStr c] rfl; cases e; exact h1 0 _ rfl
  · obtain ⟨_, _, e, _, h1⟩ := h 3 [encStr d] rfl; cases e; exact h1 0 _ rfl
theorem cut4 {l : List UInt8} (h : (Cal.cutT 32 l).length = 4) : ∃ a b c d, Cal.cutT 32 l = [a, b, c, d] := by
  rcases hz : Cal.cutT 32 l with _ | ⟨a, _ | ⟨b, _ | ⟨c, _ | ⟨d, _ | ⟨e, r⟩⟩⟩⟩⟩ <;> rw [hz] at h <;> simp at h
  exact ⟨a, b, c, d, rfl⟩
theorem words_not4 {l : List UInt8} (h : (Cal.cutT 32 l).length ≠ 4) : Cal.words l = none := by
  unfold Cal.words
  split
  · next hz => rw [hz] at h; exact absurd rfl h
  · rfl
theorem words_line {l : List UInt8} (h : 10 ∈ l) : Cal.words l = none := by
  unfold Cal.words
  split
  · rw [if_pos h]
  · rfl
theorem words_four {l a b c d : List UInt8} (hz : Cal.cutT 32 l = [a, b, c, d]) (h : ¬ 10 ∈ l) : Cal.words l = (Cal.wordsOf b c d).map fun q => (a, q) := by
  unfold Cal.words
  rw [hz]
  simp only [if_neg h]
theorem wordsV_none {l : List UInt8} (h : Cal.words l = none) : wordsV l = (prov0, false) := by
  unfold wordsV
  rw [h]
  split <;> rfl
theorem wordsV_long {l : List UInt8} (h : 200 < l.length) : wordsV l = (prov0, false) := by unfold wordsV; rw [if_pos h]
theorem wordsV_some {l a : List UInt8} {q : Int × Int × Int × Bool} (h : ¬ 200 < l.length) (h2 : Cal.words l = some (a, q)) : wordsV l = (provVal a q, true) := by unfold wordsV; rw [if_neg h, h2]
theorem cut10_len (l : List UInt8) : 1 < (Cal.cutT 10 l).length ↔ 10 ∈ l := by
  rw [Cal.cutT_length, ← List.count_pos_iff]
  omega
theorem Number10_any (s : ByteArray) (w : World) (hs : s.size ≤ 1000000) : Calls Tryz.prog 146 #[.string s, .int .i64 10] w (NumRes w (Cal.numS s.data.toList 10)) := Number_any s 10 w (by decide) hs
theorem wordsOf_eq (b c d : List UInt8) (rb : Bool) (h : rb = decide (b = Cal.repT)) :
    Cal.wordsOf b c d = if (rb || (Cal.numS b 10).2) && ((Cal.numS c 10).2 && (Cal.numS d 10).2) then some (if rb = true then 0 else (Cal.numS b 10).1, (Cal.numS c 10).1, (Cal.numS d 10).1, rb) else none := by
  subst h
  unfold Cal.wordsOf
  by_cases hb : b = Cal.repT <;> simp [hb]
set_option maxRecDepth 100000 in
set_option maxHeartbeats 4000000 in
theorem words_any (s : ByteArray) (w : World) (hs : s.size ≤ 1000000) : Calls Tryz.prog 86 #[.string s] w (WordsPost w (wordsV s.data.toList)) := by
  have hll := Lib.hid (list_len s)
  by_cases hbig : 200 < s.size
  · have hfin := Lib.hid (wordsV_long (l := s.data.toList) (by rw [hll.out]; exact hbig))
    have g2 := Lib.hid (BoxAt.new w #[.string ⟨#[]⟩, .int .i64 0, .int .i64 0, .int .i64 0, .bool false] 71)
    have hb := Lib.hid (below_alloc w (.cells #[.string ⟨#[]⟩, .int .i64 0, .int .i64 0, .int .i64 0, .bool false] 71))
    go_enter Tryz.func86, Tryz.ntmps86
    go_wp2_with (refine wpList_store_box rfl 71 (.tmp 2) (.tmp 15) rfl (w.heap.size) _ [.string ⟨#[]⟩, .int .i64 0, .int .i64 0, .int .i64 0, .bool false] (by rfl) (by rfl) g2.out rfl pvSize (by kernel_rfl) ?_; intro w4 h8 hg8)
    (try simp only [Exit.inBlock, Exit.then])
    refine bodyPost_ret (results_mid2 rfl _ _ w.heap.size [.string ⟨#[]⟩, .int .i64 0, .int .i64 0, .int .i64 0, .bool false] _ rfl h8.range Tryz.underlying71 rfl pvSize) rfl ⟨by rw [hfin.out]; rfl, below_of_grownB hb.out hg8 (by omega)⟩
  · have hbig' : s.size ≤ 200 := by omega
    have hshort := Lib.hid (show ¬ 200 < s.data.toList.length by rw [hll.out]; exact hbig)
    clear hbig
    by_cases h4 : (Cal.cutT 32 s.data.toList).length = 4
    · obtain ⟨a, b, c, d, hz⟩ := cut4 h4
      have hzz := Lib.hid hz
      clear h4
      by_cases h10 : 10 ∈ s.data.toList
      · have hfin := Lib.hid (wordsV_none (words_line h10))
        have h1 := (cut10_len s.data.toList).2 h10
        clear h10 hz
        have g2 := Lib.hid (BoxAt.new w #[.string ⟨#[]⟩, .int .i64 0, .int .i64 0, .int .i64 0, .bool false] 71)
        have hb := Lib.hid (below_alloc w (.cells #[.string ⟨#[]⟩, .int .i64 0, .int .i64 0, .int .i64 0, .bool false] 71))
        go_enter Tryz.func86, Tryz.ntmps86
        go_wp2_with fail
        refine (Cut32_any s _ hs).mono ?_
        rintro e w1 ⟨v, rfl, hv, hb1⟩
        obtain ⟨A, cap, rfl, hrow⟩ := hv.rows
        have g2 := Lib.hid (g2.out.below hb1)
        have hb := Lib.hid (below_step hb.out hb1)
        clear hb1 hv
        rw [hzz.out]
        go_wp2_with fail
        refine (Cut10_any s _ hs).mono ?_
        rintro e w2 ⟨v, rfl, hv, hb1⟩
        obtain ⟨A2, c2, rfl, _⟩ := hv.rows
        have g2 := Lib.hid (g2.out.below hb1)
        have hb := Lib.hid (below_step hb.out hb1)
        clear hb1 hv
        generalize Cal.cutT 10 s.data.toList = zs at *
        go_wp2_with (refine wpList_store_box rfl 71 (.tmp 2) (.tmp 27) rfl (w.heap.size) _ [.string ⟨#[]⟩, .int .i64 0, .int .i64 0, .int .i64 0, .bool false] (by rfl) (by rfl) g2.out rfl pvSize (by kernel_rfl) ?_; intro w4 h8 hg8)
        (try simp only [Exit.inBlock, Exit.then])
        refine bodyPost_ret (results_mid2 rfl _ _ w.heap.size [.string ⟨#[]⟩, .int .i64 0, .int .i64 0, .int .i64 0, .bool false] _ rfl h8.range Tryz.underlying71 rfl pvSize) rfl ⟨by rw [hfin.out]; rfl, below_of_grownB hb.out hg8 (by omega)⟩
      · have hwf := Lib.hid (words_four hz h10)
        have h1 : ¬ 1 < (Cal.cutT 10 s.data.toList).length := fun h => h10 ((cut10_len _).1 h)
        have h1b : decide (1 < ((Cal.cutT 10 s.data.toList).length : Int)) = false := decide_eq_false (by omega)
        have hszs : ∀ x ∈ [a, b, c, d], x.length ≤ 200 := fun x hx => by
          rw [← hz] at hx
          have := (Cal.cutT_mem hx).2
          rw [hll.out] at this
          omega
        clear h10 hz
        have g2 := Lib.hid (BoxAt.new w #[.string ⟨#[]⟩, .int .i64 0, .int .i64 0, .int .i64 0, .bool false] 71)
        have hb := Lib.hid (below_alloc w (.cells #[.string ⟨#[]⟩, .int .i64 0, .int .i64 0, .int .i64 0, .bool false] 71))
        go_enter Tryz.func86, Tryz.ntmps86
        go_wp2_with fail
        refine (Cut32_any s _ hs).mono ?_
        rintro e w1 ⟨v, rfl, hv, hb1⟩
        obtain ⟨A, cap, rfl, hrow⟩ := hv.rows
        have g2 := Lib.hid (g2.out.below hb1)
        have hb := Lib.hid (below_step hb.out hb1)
        clear hb1 hv
        rw [hzz.out] at hrow ⊢
        go_wp2_with fail
        refine (Cut10_any s _ hs).mono ?_
        rintro e w2 ⟨v, rfl, hv, hb1⟩
        obtain ⟨A2, c2, rfl, _⟩ := hv.rows
        have g2 := Lib.hid (g2.out.below hb1)
        have hb := Lib.hid (below_step hb.out hb1)
        have hrow := hrow.below hb1
        clear hb1 hv
        generalize Cal.cutT 10 s.data.toList = zs at *
        obtain ⟨bk, o, rfl, hbl, t0, t1, t2, t3⟩ := texts4 hrow
        obtain ⟨Xa, hXa⟩ : ∃ X : ByteArray, X = ⟨a.toArray⟩ := ⟨_, rfl⟩
        obtain ⟨Xb, hXb⟩ : ∃ X : ByteArray, X = ⟨b.toArray⟩ := ⟨_, rfl⟩
        obtain ⟨Xc, hXc⟩ : ∃ X : ByteArray, X = ⟨c.toArray⟩ := ⟨_, rfl⟩
        obtain ⟨Xd, hXd⟩ : ∃ X : ByteArray, X = ⟨d.toArray⟩ := ⟨_, rfl⟩
        rw [← hXa] at t0
        rw [← hXb] at t1
        rw [← hXc] at t2
        rw [← hXd] at t3
        have qb : Xb.data.toList = b := by rw [hXb]
        have qc : Xc.data.toList = c := by rw [hXc]
        have qd : Xd.data.toList = d := by rw [hXd]
        have sb : Xb.size ≤ 200 := by rw [Lib.size_eq, qb]; exact hszs b (by simp)
        have sc : Xc.size ≤ 200 := by rw [Lib.size_eq, qc]; exact hszs c (by simp)
        have sd : Xd.size ≤ 200 := by rw [Lib.size_eq, qd]; exact hszs d (by simp)
        have hrep : (Xb.toList == [114, 101, 112, 101, 97, 108]) = decide (b = Cal.repT) := by rw [ByteArray.toList_eq, qb]; show (b == Cal.repT) = _; rw [Bool.eq_iff_iff]; simp
        obtain ⟨rb, hrb⟩ : ∃ rb, rb = decide (b = Cal.repT) := ⟨_, rfl⟩
        rw [← hrb] at hrep
        have hrbz := Lib.hid hrb
        have hXaz := Lib.hid hXa
        have hqq := Lib.hid (And.intro qb (And.intro qc qd))
        clear qb qc qd hXa hXb hXc hXd hszs hrow hrb
        go_wp2_with fail
        have cS := Lib.hid (fun w' (h : Below (w2).heap.size (w2) w') => (show ((fun w' => w'.cell? ⟨bk, o, none⟩ = some (.string Xa) ∧ w'.cell? ⟨bk, o + 1, none⟩ = some (.string Xb))) w' from ⟨(h.cell (p := ⟨bk, o, none⟩) hbl).trans t0, (h.cell (p := ⟨bk, o + 1, none⟩) hbl).trans t1⟩))
        have hdr := Lib.hid (show Below (w2).heap.size (w2) (w2).drew from (Below.refl _ _).drew)
        refine wp_region_held_drew (S := (fun w' => w'.cell? ⟨bk, o, none⟩ = some (.string Xa) ∧ w'.cell? ⟨bk, o + 1, none⟩ = some (.string Xb))) (by kernel_rfl) (cS.out _ hdr.out) (fun hHeld => ?_)
        have g2 := Lib.hid (g2.out.below hdr.out)
        have hb := Lib.hid (below_step hb.out hdr.out)
        replace hbl := Nat.lt_of_lt_of_le hbl hdr.out.size
        have t1 := (cS.out _ hdr.out).2
        have t2 : (w2).drew.cell? ⟨bk, o + 2, none⟩ = some (.string Xc) := t2
        have t3 : (w2).drew.cell? ⟨bk, o + 3, none⟩ = some (.string Xd) := t3
        generalize (w2).drew = w3 at *
        (refine tkH 0 (v := ?_) ?_ ?_; rotate_left; focus (intro w' hSw; (try dsimp only at hSw); go_simp; (try with_reducible rfl)); (try simp only [Act.put, List.setIfInBounds_toArray, List.set_cons_zero, List.set_cons_succ]))
        (refine tkH 1 (v := ?_) ?_ ?_; rotate_left; focus (intro w' hSw; (try dsimp only at hSw); go_simp; (try with_reducible rfl)); (try simp only [Act.put, List.setIfInBounds_toArray, List.set_cons_zero, List.set_cons_succ]))
        (refine tkH 2 (v := ?_) ?_ ?_; rotate_left; focus (intro w' hSw; (try dsimp only at hSw); go_simp; (try with_reducible rfl)); (try simp only [Act.put, List.setIfInBounds_toArray, List.set_cons_zero, List.set_cons_succ]))
        (refine tkH 3 (v := ?_) ?_ ?_; rotate_left; focus (intro w' hSw; (try dsimp only at hSw); go_simp; (try with_reducible rfl)); (try simp only [Act.put, List.setIfInBounds_toArray, List.set_cons_zero, List.set_cons_succ]))
        (refine tkH 4 (v := ?_) ?_ ?_; rotate_left; focus (intro w' hSw; (try dsimp only at hSw); go_simp; (try with_reducible rfl)); (try simp only [Act.put, List.setIfInBounds_toArray, List.set_cons_zero, List.set_cons_succ]))
        (refine tkH 5 (v := ?_) ?_ ?_; rotate_left; focus (intro w' hSw; (try dsimp only at hSw); go_simp; (try with_reducible rfl)); (try simp only [Act.put, List.setIfInBounds_toArray, List.set_cons_zero, List.set_cons_succ]))
        (refine tkH 6 (v := ?_) ?_ ?_; rotate_left; focus (intro w' hSw; (try dsimp only at hSw); go_simp; (try with_reducible rfl)); (try simp only [Act.put, List.setIfInBounds_toArray, List.set_cons_zero, List.set_cons_succ]))
        (refine tkH 7 (v := ?_) ?_ ?_; rotate_left; focus (intro w' hSw; (try dsimp only at hSw); go_simp; (try with_reducible rfl)); (try simp only [Act.put, List.setIfInBounds_toArray, List.set_cons_zero, List.set_cons_succ]))
        (refine wpAnyH_ready (rs := [8]) (by decide +kernel) (by simp) ?_; refine AllReadyH.cons rfl (fun K hK => ?_) AllReadyH.nil; rw [if_pos (by kernel_rfl)]; go_simp)
        have h5 := Lib.hid (BoxAt.new w3 #[.string ⟨#[]⟩, .int .i64 0, .int .i64 0, .int .i64 0, .bool false] 71)
        have hx := Lib.hid (below_step hdr.out (below_alloc w3 (.cells #[.string ⟨#[]⟩, .int .i64 0, .int .i64 0, .int .i64 0, .bool false] 71)))
        (refine hK.out _ _ (cS.out _ hx.out) (fun hHeld => ?_); clear hK K; (try simp only [Act.put]); (try simp only [List.setIfInBounds_toArray]); (try simp only [List.set_cons_zero, List.set_cons_succ]))
        refine wpAnyH_ready (rs := [9]) (by decide +kernel) (by simp) ?_
        refine AllReadyH.cons rfl (fun K hK => ?_) AllReadyH.nil
        rw [if_pos (by kernel_rfl)]
        refine wp_store_mid 71 (.tmp 5) (.tmp 35) rfl w3.heap.size 0 #[.string Xa, .int .i64 0, .int .i64 0, .int .i64 0, .bool rb] (by rfl) (by rfl) (by exact h5.out.there) pvSize (by kernel_rfl) ?_
        have hg8 := grown_setCells w3.heap.size [.string Xa, .int .i64 0, .int .i64 0, .int .i64 0, .bool rb] 0 (w3.alloc (.cells #[.string ⟨#[]⟩, .int .i64 0, .int .i64 0, .int .i64 0, .bool false] 71))
        have h5 := Lib.hid (h5.out.put [.string Xa, .int .i64 0, .int .i64 0, .int .i64 0, .bool rb] rfl)
        have hz3 := hdr.out.size
        have hxF := Lib.hid (below_of_grownB hx.out hg8 hz3)
        have hyF := below_of_grownB (below_alloc w3 (.cells #[.string ⟨#[]⟩, .int .i64 0, .int .i64 0, .int .i64 0, .bool false] 71)) hg8 (Nat.le_refl _)
        have hlt := g2.out.lt
        go_simp
        (refine hK.out _ _ (cS.out _ hxF.out) (fun hHeld => ?_); clear hK K; (try simp only [Act.put]); (try simp only [List.setIfInBounds_toArray]); (try simp only [List.set_cons_zero, List.set_cons_succ]))
        refine wpAnyH_done (by kernel_rfl) ?_ _
        clear hHeld
        have g2 := Lib.hid (g2.out.below hyF)
        have hb := Lib.hid (below_step hb.out hyF)
        have t1 := (hyF.cell (p := ⟨bk, o + 1, none⟩) hbl).trans t1
        have t2 := (hyF.cell (p := ⟨bk, o + 2, none⟩) hbl).trans t2
        have t3 := (hyF.cell (p := ⟨bk, o + 3, none⟩) hbl).trans t3
        replace hbl := Nat.lt_of_lt_of_le hbl hyF.size
        clear hyF hxF hx hg8 hz3 cS hdr t0
        generalize (w3.alloc (.cells #[.string ⟨#[]⟩, .int .i64 0, .int .i64 0, .int .i64 0, .bool false] 71)).setCells w3.heap.size 0 [.string Xa, .int .i64 0, .int .i64 0, .int .i64 0, .bool rb] = wq at *
        generalize w3.heap.size = X at *
        go_wp2_with fail
        refine (Number10_any Xb _ (by omega)).mono ?_
        rintro e w5 ⟨rfl, hbn⟩
        have g2 := Lib.hid (g2.out.below hbn)
        have h5 := Lib.hid (h5.out.below hbn)
        have hb := Lib.hid (below_step hb.out hbn)
        have t1 := (hbn.cell (p := ⟨bk, o + 1, none⟩) hbl).trans t1
        have t2 := (hbn.cell (p := ⟨bk, o + 2, none⟩) hbl).trans t2
        have t3 := (hbn.cell (p := ⟨bk, o + 3, none⟩) hbl).trans t3
        have hbl : bk < w5.heap.size := Nat.lt_of_lt_of_le hbl hbn.size
        clear hbn
        go_wp2_with fail
        refine (Number10_any Xc _ (by omega)).mono ?_
        rintro e w6 ⟨rfl, hbn⟩
        have g2 := Lib.hid (g2.out.below hbn)
        have h5 := Lib.hid (h5.out.below hbn)
        have hb := Lib.hid (below_step hb.out hbn)
        have t1 := (hbn.cell (p := ⟨bk, o + 1, none⟩) hbl).trans t1
        have t2 := (hbn.cell (p := ⟨bk, o + 2, none⟩) hbl).trans t2
        have t3 := (hbn.cell (p := ⟨bk, o + 3, none⟩) hbl).trans t3
        have hbl : bk < w6.heap.size := Nat.lt_of_lt_of_le hbl hbn.size
        clear hbn
        go_wp2_with fail
        refine (Number10_any Xd _ (by omega)).mono ?_
        rintro e w7 ⟨rfl, hbn⟩
        have g2 := Lib.hid (g2.out.below hbn)
        have h5 := Lib.hid (h5.out.below hbn)
        have hb := Lib.hid (below_step hb.out hbn)
        have t1 := (hbn.cell (p := ⟨bk, o + 1, none⟩) hbl).trans t1
        have t2 := (hbn.cell (p := ⟨bk, o + 2, none⟩) hbl).trans t2
        have t3 := (hbn.cell (p := ⟨bk, o + 3, none⟩) hbl).trans t3
        have hbl : bk < w7.heap.size := Nat.lt_of_lt_of_le hbl hbn.size
        clear hbn
        rw [hqq.out.1, hqq.out.2.1, hqq.out.2.2]
        have hwv := Lib.hid (hwf.out.trans (congrArg (Option.map fun q => (a, q)) (wordsOf_eq b c d rb hrbz.out)))
        generalize Cal.numS b 10 = nb at *
        generalize Cal.numS c 10 = nc at *
        generalize Cal.numS d 10 = nd at *
        obtain ⟨vb, kb⟩ := nb
        obtain ⟨vc, kc⟩ := nc
        obtain ⟨vd, kd⟩ := nd
        clear t1 t2 t3 hwf
        dsimp only
        have p4 := h5.out.c 4 _ rfl
        cases kd
        · have hno : Hid (Cal.words s.data.toList = none) := by show _ = _; rw [hwv.out]; simp
          have hfin := Lib.hid (wordsV_none hno.out)
          cases kb <;> cases rb <;> cases kc
          all_goals
            go_wp2_with (refine wpList_store_box rfl 71 (.tmp 2) (.tmp 72) rfl (w.heap.size) _ [.string ⟨#[]⟩, .int .i64 0, .int .i64 0, .int .i64 0, .bool false] (by rfl) (by rfl) g2.out rfl pvSize (by kernel_rfl) ?_; intro w4 h8 hg8)
            (try simp only [Exit.inBlock, Exit.then])
            refine bodyPost_ret (results_mid2 rfl _ _ w.heap.size [.string ⟨#[]⟩, .int .i64 0, .int .i64 0, .int .i64 0, .bool false] _ rfl h8.range Tryz.underlying71 rfl pvSize) rfl ⟨by rw [hfin.out]; rfl, below_of_grownB hb.out hg8 (by omega)⟩
        · cases kc
          · have hno : Hid (Cal.words s.data.toList = none) := by show _ = _; rw [hwv.out]; simp
            have hfin := Lib.hid (wordsV_none hno.out)
            cases kb <;> cases rb
            all_goals
              go_wp2_with (refine wpList_store_box rfl 71 (.tmp 2) (.tmp 72) rfl (w.heap.size) _ [.string ⟨#[]⟩, .int .i64 0, .int .i64 0, .int .i64 0, .bool false] (by rfl) (by rfl) g2.out rfl pvSize (by kernel_rfl) ?_; intro w4 h8 hg8)
              (try simp only [Exit.inBlock, Exit.then])
              refine bodyPost_ret (results_mid2 rfl _ _ w.heap.size [.string ⟨#[]⟩, .int .i64 0, .int .i64 0, .int .i64 0, .bool false] _ rfl h8.range Tryz.underlying71 rfl pvSize) rfl ⟨by rw [hfin.out]; rfl, below_of_grownB hb.out hg8 (by omega)⟩
          · cases rb
            · cases kb
              · have hno : Hid (Cal.words s.data.toList = none) := by show _ = _; rw [hwv.out]; simp
                have hfin := Lib.hid (wordsV_none hno.out)
                go_wp2_with (refine wpList_store_box rfl 71 (.tmp 2) (.tmp 72) rfl (w.heap.size) _ [.string ⟨#[]⟩, .int .i64 0, .int .i64 0, .int .i64 0, .bool false] (by rfl) (by rfl) g2.out rfl pvSize (by kernel_rfl) ?_; intro w4 h8 hg8)
                (try simp only [Exit.inBlock, Exit.then])
                refine bodyPost_ret (results_mid2 rfl _ _ w.heap.size [.string ⟨#[]⟩, .int .i64 0, .int .i64 0, .int .i64 0, .bool false] _ rfl h8.range Tryz.underlying71 rfl pvSize) rfl ⟨by rw [hfin.out]; rfl, below_of_grownB hb.out hg8 (by omega)⟩
              · have hfin := Lib.hid (wordsV_some (a := a) (q := (vb, vc, vd, false)) hshort.out (by rw [hwv.out]; simp))
                have p1 := h5.out.c 1 _ rfl
                have p2 := h5.out.c 2 _ rfl
                have p3 := h5.out.c 3 _ rfl
                have f1 := h5.out.free 1 (by simp)
                have f2 := h5.out.free 2 (by simp)
                have f3 := h5.out.free 3 (by simp)
                have hg9 := grown_setCells X [.int .i64 vb, .int .i64 vc, .int .i64 vd] 1 w7
                have h9 : Hid (BoxAt (((w7.setCell ⟨X, 1, none⟩ (.int .i64 vb)).setCell ⟨X, 2, none⟩ (.int .i64 vc)).setCell ⟨X, 3, none⟩ (.int .i64 vd)) X [.string Xa, .int .i64 vb, .int .i64 vc, .int .i64 vd, .bool false]) :=
                  (((h5.out.set 1 (.int .i64 vb) (by simp)).set 2 (.int .i64 vc) (by simp)).set 3 (.int .i64 vd) (by simp))
                have g9 : Hid (BoxAt (((w7.setCell ⟨X, 1, none⟩ (.int .i64 vb)).setCell ⟨X, 2, none⟩ (.int .i64 vc)).setCell ⟨X, 3, none⟩ (.int .i64 vd)) w.heap.size [.string ⟨#[]⟩, .int .i64 0, .int .i64 0, .int .i64 0, .bool false]) := g2.out.grown hg9 (by simp; omega)
                have hb9 : Hid (Below w.heap.size w (((w7.setCell ⟨X, 1, none⟩ (.int .i64 vb)).setCell ⟨X, 2, none⟩ (.int .i64 vc)).setCell ⟨X, 3, none⟩ (.int .i64 vd))) := below_of_grownB hb.out hg9 (by omega)
                clear hg9
                go_wp2_with (first | (refine wpList_load_mid rfl 71 (.tmp 5) rfl (X) 0 rfl [.string Xa, .int .i64 vb, .int .i64 vc, .int .i64 vd, .bool false] _ h9.out.range Tryz.underlying71 rfl pvSize ?_) | (refine wpList_store_box rfl 71 (.tmp 2) (.tmp 82) rfl (w.heap.size) _ [.string Xa, .int .i64 vb, .int .i64 vc, .int .i64 vd, .bool false] (by rfl) (by rfl) g9.out rfl pvSize (by kernel_rfl) ?_; intro w4 h8 hg8))
                (try simp only [Exit.inBlock, Exit.then])
                refine bodyPost_ret (results_mid2 rfl _ _ w.heap.size [.string Xa, .int .i64 vb, .int .i64 vc, .int .i64 vd, .bool false] _ rfl h8.range Tryz.underlying71 rfl pvSize) rfl ⟨by rw [hfin.out, hXaz.out]; rfl, below_of_grownB hb9.out hg8 (by omega)⟩
            · have hfin := Lib.hid (wordsV_some (a := a) (q := (0, vc, vd, true)) hshort.out (by rw [hwv.out]; simp))
              have p2 := h5.out.c 2 _ rfl
              have p3 := h5.out.c 3 _ rfl
              have f2 := h5.out.free 2 (by simp)
              have f3 := h5.out.free 3 (by simp)
              have hg9 := grown_setCells X [.int .i64 vc, .int .i64 vd] 2 w7
              have h9 : Hid (BoxAt ((w7.setCell ⟨X, 2, none⟩ (.int .i64 vc)).setCell ⟨X, 3, none⟩ (.int .i64 vd)) X [.string Xa, .int .i64 0, .int .i64 vc, .int .i64 vd, .bool true]) :=
                ((h5.out.set 2 (.int .i64 vc) (by simp)).set 3 (.int .i64 vd) (by simp))
              have g9 : Hid (BoxAt ((w7.setCell ⟨X, 2, none⟩ (.int .i64 vc)).setCell ⟨X, 3, none⟩ (.int .i64 vd)) w.heap.size [.string ⟨#[]⟩, .int .i64 0, .int .i64 0, .int .i64 0, .bool false]) := g2.out.grown hg9 (by simp; omega)
              have hb9 : Hid (Below w.heap.size w ((w7.setCell ⟨X, 2, none⟩ (.int .i64 vc)).setCell ⟨X, 3, none⟩ (.int .i64 vd))) := below_of_grownB hb.out hg9 (by omega)
              clear hg9
              cases kb
              all_goals
                go_wp2_with (first | (refine wpList_load_mid rfl 71 (.tmp 5) rfl (X) 0 rfl [.string Xa, .int .i64 0, .int .i64 vc, .int .i64 vd, .bool true] _ h9.out.range Tryz.underlying71 rfl pvSize ?_) | (refine wpList_store_box rfl 71 (.tmp 2) (.tmp 82) rfl (w.heap.size) _ [.string Xa, .int .i64 0, .int .i64 vc, .int .i64 vd, .bool true] (by rfl) (by rfl) g9.out rfl pvSize (by kernel_rfl) ?_; intro w4 h8 hg8))
                (try simp only [Exit.inBlock, Exit.then])
                refine bodyPost_ret (results_mid2 rfl _ _ w.heap.size [.string Xa, .int .i64 0, .int .i64 vc, .int .i64 vd, .bool true] _ rfl h8.range Tryz.underlying71 rfl pvSize) rfl ⟨by rw [hfin.out, hXaz.out]; rfl, below_of_grownB hb9.out hg8 (by omega)⟩
    · have hfin := Lib.hid (wordsV_none (words_not4 h4))
      have hne : (((Cal.cutT 32 s.data.toList).length : Int) != 4) = true := by simp; omega
      clear h4
      have g2 := Lib.hid (BoxAt.new w #[.string ⟨#[]⟩, .int .i64 0, .int .i64 0, .int .i64 0, .bool false] 71)
      have hb := Lib.hid (below_alloc w (.cells #[.string ⟨#[]⟩, .int .i64 0, .int .i64 0, .int .i64 0, .bool false] 71))
      go_enter Tryz.func86, Tryz.ntmps86
      go_wp2_with fail
      refine (Cut32_any s _ hs).mono ?_
      rintro e w1 ⟨v, rfl, hv, hb1⟩
      obtain ⟨A, cap, rfl, hrow⟩ := hv.rows
      have g2 := Lib.hid (g2.out.below hb1)
      have hb := Lib.hid (below_step hb.out hb1)
      clear hb1 hv
      generalize Cal.cutT 32 s.data.toList = zs at *
      go_wp2_with (refine wpList_store_box rfl 71 (.tmp 2) (.tmp 27) rfl (w.heap.size) _ [.string ⟨#[]⟩, .int .i64 0, .int .i64 0, .int .i64 0, .bool false] (by rfl) (by rfl) g2.out rfl pvSize (by kernel_rfl) ?_; intro w4 h8 hg8)
      (try simp only [Exit.inBlock, Exit.then])
      refine bodyPost_ret (results_mid2 rfl _ _ w.heap.size [.string ⟨#[]⟩, .int .i64 0, .int .i64 0, .int .i64 0, .bool false] _ rfl h8.range Tryz.underlying71 rfl pvSize) rfl ⟨by rw [hfin.out]; rfl, below_of_grownB hb.out hg8 (by omega)⟩
end Go.Proofs.YtbegbajlagcbdaaGreatDoor
