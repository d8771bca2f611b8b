/- Chapter 8 and what it rests on: definitions and walks, part 27. -/
import Derived.Test.YtbegbajlagcbdaaGreatDoorC26
namespace Go.Proofs.YtbegbajlagcbdaaGreatDoor
open Go Go.RowKit
theorem rowsT_new (w : World) (zs : List (List UInt8)) (arr : Array Value) (harr : arr.toList = zs.map encStr) (t : TypeId) : RowsAt (w.alloc (.cells arr t)) (some ⟨w.heap.size, 0, none⟩) 1 (txtRows zs) := fun k r hr => by
  unfold txtRows at hr
  rw [List.getElem?_map] at hr
  cases hz : zs[k]? with
  | none => rw [hz] at hr; cases hr
  | some z =>
    rw [hz] at hr
    simp only [Option.map_some, Option.some.injEq] at hr
    subst hr
    refine ⟨w.heap.size, 0, rfl, by simp, fun j v hv => ?_⟩
    cases j with
    | succ j => simp at hv
    | zero =>
      simp only [List.getElem?_cons_zero, Option.some.injEq] at hv
      subst hv
      rw [Nat.zero_add, Nat.mul_one, Nat.add_zero, cell_alloc_at, ← Array.getElem?_toList, harr, List.getElem?_map, hz]
      rfl
def SplitPost (w : World) (zs : List (List UInt8)) (e : Ending) (w' : World) : Prop := ∃ A c, e = .returned (.slice A zs.length c) ∧ RowsAt w' A 1 (txtRows zs) ∧ Below w.heap.size w w'
theorem Split32_any (s : ByteArray) (w : World) (hT : TxtT w) (hs : s.size ≤ 1000000) : Calls Tryz.prog 142 #[.string s, .string ⟨#[32]⟩] w (SplitPost w (Cal.cutT 32 s.data.toList)) := by
  obtain ⟨m, hm⟩ := hT.max
  refine (Tryz.strings_Split s ⟨#[32]⟩ m w (by omega) hm (Nat.le_refl 1)).mono ?_
  rintro e w' ⟨rfl, rfl⟩
  have hc : Lib.countB s ⟨#[32]⟩ = s.data.toList.count 32 := Cal.countB_one 32 _ s (Nat.le_refl _)
  have hsp := Cal.splitB_one 32 (Lib.countB s ⟨#[32]⟩) s (by rw [hc]; exact Nat.le_refl _)
  refine ⟨_, _, by rw [Cal.cutT_length, ← hc], rowsT_new w _ _ ?_ _, below_alloc _ _⟩
  rw [← hsp]
  simp [encStr]
theorem Contains10_any (s : ByteArray) (w : World) : Calls Tryz.prog 143 #[.string s, .string ⟨#[10]⟩] w fun e w' => e = .returned (.bool (decide (10 ∈ s.data.toList))) ∧ w = w' := by
  refine (Tryz.strings_Contains_one s 10 w).mono ?_
  rintro e w' ⟨rfl, rfl⟩
  refine ⟨?_, rfl⟩
  congr 2
  rw [decide_eq_decide, ← Lib.index_one]
  rcases Cal.index_byte_cases s.data.toList 10 with ⟨h1, h2⟩ | ⟨i, h1, h2, h3, h4⟩
  · rw [h1]; simp [h2]
  · rw [h1]
    refine ⟨fun _ => ?_, fun _ => by omega⟩
    rw [h4]
    simp
/-- What the program's read returns. -/
def readV (l : List UInt8) : Value × Int := if 200 < l.length then (prov0, 8) else match Cal.words l with | some (a, q) => (provVal a q, 0) | none => (prov0, 7)
def ReadPost (w : World) (r : Value × Int) (e : Ending) (w' : World) : Prop := e = .returned (.tuple #[r.1, .int .i64 r.2]) ∧ Below w.heap.size w w'
theorem readV_none {l : List UInt8} (h0 : ¬ 200 < l.length) (h : Cal.words l = none) : readV l = (prov0, 7) := by unfold readV; rw [if_neg h0, h]
theorem readV_long {l : List UInt8} (h : 200 < l.length) : readV l = (prov0, 8) := by unfold readV; rw [if_pos h]
theorem readV_some {l a : List UInt8} {q : Int × Int × Int × Bool} (h : ¬ 200 < l.length) (h2 : Cal.words l = some (a, q)) : readV l = (provVal a q, 0) := by unfold readV; rw [if_neg h, h2]
structure RdI (w : World) (X B bk o : Nat) (Xb Xc Xd : ByteArray) (cs : List Value) (wr : World) : Prop where
  fr : Below w.heap.size w wr
  g2 : BoxAt wr w.heap.size [.string ⟨#[]⟩, .int .i64 0, .int .i64 0, .int .i64 0, .bool false]
  h5 : BoxAt wr X cs
  hB : BoxAt wr B [.pointer (some ⟨X, 1, none⟩), .pointer (some ⟨X, 2, none⟩), .pointer (some ⟨X, 3, none⟩)]
  t1 : wr.cell? ⟨bk, o + 1, none⟩ = some (.string Xb)
  t2 : wr.cell? ⟨bk, o + 2, none⟩ = some (.string Xc)
  t3 : wr.cell? ⟨bk, o + 3, none⟩ = some (.string Xd)
  o0 : w.heap.size < X
  o1 : X < B
  o2 : bk < X
theorem RdI.below {w : World} {X B bk o : Nat} {Xb Xc Xd : ByteArray} {cs : List Value} {wr wr' : World} (h : RdI w X B bk o Xb Xc Xd cs wr) (hb : Below wr.heap.size wr wr') : RdI w X B bk o Xb Xc Xd cs wr' := by
  have hl : bk < wr.heap.size := Nat.lt_trans h.o2 h.h5.lt
  exact ⟨below_step h.fr hb, h.g2.below hb, h.h5.below hb, h.hB.below hb, (hb.cell (p := ⟨bk, o + 1, none⟩) hl).trans h.t1, (hb.cell (p := ⟨bk, o + 2, none⟩) hl).trans h.t2, (hb.cell (p := ⟨bk, o + 3, none⟩) hl).trans h.t3, h.o0, h.o1, h.o2⟩
theorem RdI.set {w : World} {X B bk o : Nat} {Xb Xc Xd : ByteArray} {cs : List Value} {wr : World} (h : RdI w X B bk o Xb Xc Xd cs wr) (j : Nat) (v : Value) (hj : j < cs.length) : RdI w X B bk o Xb Xc Xd (cs.set j v) (wr.setCell ⟨X, j, none⟩ v) := by
  have hg := grown_setCells X [v] j wr
  have hb : Below X wr (wr.setCell ⟨X, j, none⟩ v) := grown_below (v := .slice (some ⟨X, 0, none⟩) 0 0) hg (fun g e => by cases e; exact Nat.le_refl _) (Nat.le_of_lt h.h5.lt)
  have o0 := h.o0
  have o1 := h.o1
  exact ⟨below_of_grownB h.fr hg (by omega), h.g2.grown hg (by simp; omega), h.h5.set j v hj, h.hB.grown hg (by simp; omega), (hb.cell (p := ⟨bk, o + 1, none⟩) h.o2).trans h.t1, (hb.cell (p := ⟨bk, o + 2, none⟩) h.o2).trans h.t2, (hb.cell (p := ⟨bk, o + 3, none⟩) h.o2).trans h.t3, o0, o1, h.o2⟩
/-- What the provision holds, and whether all is good, after k numbers. -/
def rdL (Xa : ByteArray) (vb vc vd : Int) (rb : Bool) (k : Nat) : List Value := [.string Xa, .int .i64 (if k = 0 ∨ rb = true then 0 else vb), .int .i64 (if k ≤ 1 then 0 else vc), .int .i64 (if k ≤ 2 then 0 else vd), .bool rb]
def rdG (rb kb kc kd : Bool) (k : Nat) : Bool := (decide (k = 0) || (rb || kb)) && ((decide (k ≤ 1) || kc) && (decide (k ≤ 2) || kd))
theorem rdG_0 (rb kb kc kd : Bool) : rdG rb kb kc kd 0 = true := by simp [rdG]
theorem rdG_1 (rb kb kc kd : Bool) : rdG rb kb kc kd 1 = (rb || kb) := by simp [rdG]
theorem rdG_2 (rb kb kc kd : Bool) : rdG rb kb kc kd 2 = (rdG rb kb kc kd (0 + 1) && kc) := by simp [rdG]
theorem rdG_3 (rb kb kc kd : Bool) : rdG rb kb kc kd 3 = (rdG rb kb kc kd (0 + 1 + 1) && kd) := by simp [rdG, Bool.and_assoc]
theorem rdG_full (rb kb kc kd : Bool) : rdG rb kb kc kd (0 + 1 + 1 + 1) = ((rb || kb) && (kc && kd)) := by simp [rdG]
theorem words_num {l a b c d : List UInt8} {rb : Bool} (hw : Cal.words l = (Cal.wordsOf b c d).map fun q => (a, q)) (hrb : rb = decide (b = Cal.repT)) :
    (((rb || (Cal.numR b).2) && ((Cal.numR c).2 && (Cal.numR d).2)) = false → Cal.words l = none) ∧
    (((rb || (Cal.numR b).2) && ((Cal.numR c).2 && (Cal.numR d).2)) = true → Cal.words l = some (a, (if rb = true then 0 else (Cal.numR b).1), (Cal.numR c).1, (Cal.numR d).1, rb)) := by
  rw [hw, wordsOf_eq b c d rb hrb]
  obtain ⟨b1, b2⟩ := Cal.num_same b
  obtain ⟨c1, c2⟩ := Cal.num_same c
  obtain ⟨d1, d2⟩ := Cal.num_same d
  rw [b1, c1, d1]
  refine ⟨fun h => by rw [h]; rfl, fun h => ?_⟩
  rw [if_pos h]
  simp only [Bool.and_eq_true, Bool.or_eq_true] at h
  obtain ⟨h1, h2, h3⟩ := h
  rw [c2 h2, d2 h3]
  cases rb
  · simp only [Bool.false_eq_true, false_or] at h1
    rw [b2 h1]
    rfl
  · rfl
set_option maxRecDepth 100000 in
set_option maxHeartbeats 8000000 in
theorem read_any (s : ByteArray) (w : World) (hT : TxtT w) (hs : s.size ≤ 1000000) : Calls Tryz.prog 84 #[.string s] w (ReadPost w (readV s.data.toList)) := by
  have hll := Lib.hid (list_len s)
  have hT := Lib.hid (fun w' (h : Below w.heap.size w w') => hT.below h)
  by_cases hbig : 200 < s.size
  · have hfin := Lib.hid (readV_long (l := s.data.toList) (by rw [hll.out]; exact hbig))
    have g2 := Lib.hid (BoxAt.new w #[.string ⟨#[]⟩, .int .i64 0, .int .i64 0, .int .i64 0, .bool false] 71)
    have hb := Lib.hid (below_alloc w (.cells #[.string ⟨#[]⟩, .int .i64 0, .int .i64 0, .int .i64 0, .bool false] 71))
    go_enter Tryz.func84, Tryz.ntmps84
    go_wp2_with (refine wpList_store_box rfl 71 (.tmp 2) (.tmp 14) rfl (w.heap.size) _ [.string ⟨#[]⟩, .int .i64 0, .int .i64 0, .int .i64 0, .bool false] (by rfl) (by rfl) g2.out rfl pvSize (by kernel_rfl) ?_; intro w4 h8 hg8)
    (try simp only [Exit.inBlock, Exit.then])
    refine bodyPost_ret (results_mid2 rfl _ _ w.heap.size [.string ⟨#[]⟩, .int .i64 0, .int .i64 0, .int .i64 0, .bool false] _ rfl h8.range Tryz.underlying71 rfl pvSize) rfl ⟨by rw [hfin.out]; rfl, below_of_grownB hb.out hg8 (by omega)⟩
  · have hbig' : s.size ≤ 200 := by omega
    have hshort := Lib.hid (show ¬ 200 < s.data.toList.length by rw [hll.out]; exact hbig)
    clear hbig
    by_cases h4 : (Cal.cutT 32 s.data.toList).length = 4
    · obtain ⟨a, b, c, d, hz⟩ := cut4 h4
      have hzz := Lib.hid hz
      clear h4
      by_cases h10 : 10 ∈ s.data.toList
      · have hfin := Lib.hid (readV_none hshort.out (words_line h10))
        have hdec := Lib.hid (show decide (10 ∈ s.data.toList) = true by simpa using h10)
        clear h10 hz
        have g2 := Lib.hid (BoxAt.new w #[.string ⟨#[]⟩, .int .i64 0, .int .i64 0, .int .i64 0, .bool false] 71)
        have hb := Lib.hid (below_alloc w (.cells #[.string ⟨#[]⟩, .int .i64 0, .int .i64 0, .int .i64 0, .bool false] 71))
        go_enter Tryz.func84, Tryz.ntmps84
        go_wp2_with fail
        refine (Split32_any s _ (hT.out _ hb.out) hs).mono ?_
        rintro e w1 ⟨A, cap, rfl, hrow, hb1⟩
        have g2 := Lib.hid (g2.out.below hb1)
        have hb := Lib.hid (below_step hb.out hb1)
        clear hb1
        rw [hzz.out]
        go_wp2_with fail
        refine (Contains10_any s _).mono ?_
        rintro e w2 ⟨rfl, rfl⟩
        rw [hdec.out]
        go_wp2_with (refine wpList_store_box rfl 71 (.tmp 2) (.tmp 24) rfl (w.heap.size) _ [.string ⟨#[]⟩, .int .i64 0, .int .i64 0, .int .i64 0, .bool false] (by rfl) (by rfl) g2.out rfl pvSize (by kernel_rfl) ?_; intro w4 h8 hg8)
        (try simp only [Exit.inBlock, Exit.then])
        refine bodyPost_ret (results_mid2 rfl _ _ w.heap.size [.string ⟨#[]⟩, .int .i64 0, .int .i64 0, .int .i64 0, .bool false] _ rfl h8.range Tryz.underlying71 rfl pvSize) rfl ⟨by rw [hfin.out]; rfl, below_of_grownB hb.out hg8 (by omega)⟩
      · have hwf := Lib.hid (words_four hz h10)
        have hdec := Lib.hid (show decide (10 ∈ s.data.toList) = false by simpa using h10)
        have hszs : ∀ x ∈ [a, b, c, d], x.length ≤ 200 := fun x hx => by
          rw [← hz] at hx
          have := (Cal.cutT_mem hx).2
          rw [hll.out] at this
          omega
        clear h10 hz
        have g2 := Lib.hid (BoxAt.new w #[.string ⟨#[]⟩, .int .i64 0, .int .i64 0, .int .i64 0, .bool false] 71)
        have hb := Lib.hid (below_alloc w (.cells #[.string ⟨#[]⟩, .int .i64 0, .int .i64 0, .int .i64 0, .bool false] 71))
        go_enter Tryz.func84, Tryz.ntmps84
        go_wp2_with fail
        refine (Split32_any s _ (hT.out _ hb.out) hs).mono ?_
        rintro e w1 ⟨A, cap, rfl, hrow, hb1⟩
        have g2 := Lib.hid (g2.out.below hb1)
        have hb := Lib.hid (below_step hb.out hb1)
        clear hb1
        rw [hzz.out] at hrow ⊢
        go_wp2_with fail
        refine (Contains10_any s _).mono ?_
        rintro e w2 ⟨rfl, rfl⟩
        rw [hdec.out]
        obtain ⟨bk, o, rfl, hbl, t0, t1, t2, t3⟩ := texts4 hrow
        obtain ⟨Xa, hXa⟩ : ∃ X : ByteArray, X = ⟨a.toArray⟩ := ⟨_, rfl⟩
        obtain ⟨Xb, hXb⟩ : ∃ X : ByteArray, X = ⟨b.toArray⟩ := ⟨_, rfl⟩
        obtain ⟨Xc, hXc⟩ : ∃ X : ByteArray, X = ⟨c.toArray⟩ := ⟨_, rfl⟩
        obtain ⟨Xd, hXd⟩ : ∃ X : ByteArray, X = ⟨d.toArray⟩ := ⟨_, rfl⟩
        rw [← hXa] at t0
        rw [← hXb] at t1
        rw [← hXc] at t2
        rw [← hXd] at t3
        have qb : Xb.data.toList = b := by rw [hXb]
        have qc : Xc.data.toList = c := by rw [hXc]
        have qd : Xd.data.toList = d := by rw [hXd]
        have sb : Xb.size ≤ 200 := by rw [Lib.size_eq, qb]; exact hszs b (by simp)
        have sc : Xc.size ≤ 200 := by rw [Lib.size_eq, qc]; exact hszs c (by simp)
        have sd : Xd.size ≤ 200 := by rw [Lib.size_eq, qd]; exact hszs d (by simp)
        have hrep : (Xb.toList == [114, 101, 112, 101, 97, 108]) = decide (b = Cal.repT) := by rw [ByteArray.toList_eq, qb]; show (b == Cal.repT) = _; rw [Bool.eq_iff_iff]; simp
        obtain ⟨rb, hrb⟩ : ∃ rb, rb = decide (b = Cal.repT) := ⟨_, rfl⟩
        rw [← hrb] at hrep
        have hrbz := Lib.hid hrb
        have hXaz := Lib.hid hXa
        have hqq := Lib.hid (And.intro qb (And.intro qc qd))
        clear qb qc qd hXa hXb hXc hXd hszs hrow hrb
        go_wp2_with fail
        have cS := Lib.hid (fun w' (h : Below (w1).heap.size (w1) w') => (show ((fun w' => w'.cell? ⟨bk, o, none⟩ = some (.string Xa) ∧ w'.cell? ⟨bk, o + 1, none⟩ = some (.string Xb))) w' from ⟨(h.cell (p := ⟨bk, o, none⟩) hbl).trans t0, (h.cell (p := ⟨bk, o + 1, none⟩) hbl).trans t1⟩))
        have hdr := Lib.hid (show Below (w1).heap.size (w1) (w1).drew from (Below.refl _ _).drew)
        refine wp_region_held_drew (S := (fun w' => w'.cell? ⟨bk, o, none⟩ = some (.string Xa) ∧ w'.cell? ⟨bk, o + 1, none⟩ = some (.string Xb))) (by kernel_rfl) (cS.out _ hdr.out) (fun hHeld => ?_)
        have g2 := Lib.hid (g2.out.below hdr.out)
        have hb := Lib.hid (below_step hb.out hdr.out)
        replace hbl := Nat.lt_of_lt_of_le hbl hdr.out.size
        have t1 := (cS.out _ hdr.out).2
        have t2 : (w1).drew.cell? ⟨bk, o + 2, none⟩ = some (.string Xc) := t2
        have t3 : (w1).drew.cell? ⟨bk, o + 3, none⟩ = some (.string Xd) := t3
        generalize (w1).drew = w3 at *
        (refine tkH 0 (v := ?_) ?_ ?_; rotate_left; focus (intro w' hSw; (try dsimp only at hSw); go_simp; (try with_reducible rfl)); (try simp only [Act.put, List.setIfInBounds_toArray, List.set_cons_zero, List.set_cons_succ]))
        (refine tkH 1 (v := ?_) ?_ ?_; rotate_left; focus (intro w' hSw; (try dsimp only at hSw); go_simp; (try with_reducible rfl)); (try simp only [Act.put, List.setIfInBounds_toArray, List.set_cons_zero, List.set_cons_succ]))
        (refine tkH 2 (v := ?_) ?_ ?_; rotate_left; focus (intro w' hSw; (try dsimp only at hSw); go_simp; (try with_reducible rfl)); (try simp only [Act.put, List.setIfInBounds_toArray, List.set_cons_zero, List.set_cons_succ]))
        (refine tkH 3 (v := ?_) ?_ ?_; rotate_left; focus (intro w' hSw; (try dsimp only at hSw); go_simp; (try with_reducible rfl)); (try simp only [Act.put, List.setIfInBounds_toArray, List.set_cons_zero, List.set_cons_succ]))
        (refine tkH 4 (v := ?_) ?_ ?_; rotate_left; focus (intro w' hSw; (try dsimp only at hSw); go_simp; (try with_reducible rfl)); (try simp only [Act.put, List.setIfInBounds_toArray, List.set_cons_zero, List.set_cons_succ]))
        (refine tkH 5 (v := ?_) ?_ ?_; rotate_left; focus (intro w' hSw; (try dsimp only at hSw); go_simp; (try with_reducible rfl)); (try simp only [Act.put, List.setIfInBounds_toArray, List.set_cons_zero, List.set_cons_succ]))
        (refine tkH 6 (v := ?_) ?_ ?_; rotate_left; focus (intro w' hSw; (try dsimp only at hSw); go_simp; (try with_reducible rfl)); (try simp only [Act.put, List.setIfInBounds_toArray, List.set_cons_zero, List.set_cons_succ]))
        (refine tkH 7 (v := ?_) ?_ ?_; rotate_left; focus (intro w' hSw; (try dsimp only at hSw); go_simp; (try with_reducible rfl)); (try simp only [Act.put, List.setIfInBounds_toArray, List.set_cons_zero, List.set_cons_succ]))
        (refine wpAnyH_ready (rs := [8]) (by decide +kernel) (by simp) ?_; refine AllReadyH.cons rfl (fun K hK => ?_) AllReadyH.nil; rw [if_pos (by kernel_rfl)]; go_simp)
        have h5 := Lib.hid (BoxAt.new w3 #[.string ⟨#[]⟩, .int .i64 0, .int .i64 0, .int .i64 0, .bool false] 71)
        have hx := Lib.hid (below_step hdr.out (below_alloc w3 (.cells #[.string ⟨#[]⟩, .int .i64 0, .int .i64 0, .int .i64 0, .bool false] 71)))
        (refine hK.out _ _ (cS.out _ hx.out) (fun hHeld => ?_); clear hK K; (try simp only [Act.put]); (try simp only [List.setIfInBounds_toArray]); (try simp only [List.set_cons_zero, List.set_cons_succ]))
        refine wpAnyH_ready (rs := [9]) (by decide +kernel) (by simp) ?_
        refine AllReadyH.cons rfl (fun K hK => ?_) AllReadyH.nil
        rw [if_pos (by kernel_rfl)]
        refine wp_store_mid 71 (.tmp 5) (.tmp 32) rfl w3.heap.size 0 #[.string Xa, .int .i64 0, .int .i64 0, .int .i64 0, .bool rb] (by rfl) (by rfl) (by exact h5.out.there) pvSize (by kernel_rfl) ?_
        have hg8 := grown_setCells w3.heap.size [.string Xa, .int .i64 0, .int .i64 0, .int .i64 0, .bool rb] 0 (w3.alloc (.cells #[.string ⟨#[]⟩, .int .i64 0, .int .i64 0, .int .i64 0, .bool false] 71))
        have h5 := Lib.hid (h5.out.put [.string Xa, .int .i64 0, .int .i64 0, .int .i64 0, .bool rb] rfl)
        have hz3 := hdr.out.size
        have hxF := Lib.hid (below_of_grownB hx.out hg8 hz3)
        have hyF := below_of_grownB (below_alloc w3 (.cells #[.string ⟨#[]⟩, .int .i64 0, .int .i64 0, .int .i64 0, .bool false] 71)) hg8 (Nat.le_refl _)
        have hlt := g2.out.lt
        go_simp
        (refine hK.out _ _ (cS.out _ hxF.out) (fun hHeld => ?_); clear hK K; (try simp only [Act.put]); (try simp only [List.setIfInBounds_toArray]); (try simp only [List.set_cons_zero, List.set_cons_succ]))
        refine wpAnyH_done (by kernel_rfl) ?_ _
        clear hHeld
        have g2 := Lib.hid (g2.out.below hyF)
        have hb := Lib.hid (below_step hb.out hyF)
        have t1 := (hyF.cell (p := ⟨bk, o + 1, none⟩) hbl).trans t1
        have t2 := (hyF.cell (p := ⟨bk, o + 2, none⟩) hbl).trans t2
        have t3 := (hyF.cell (p := ⟨bk, o + 3, none⟩) hbl).trans t3
        have hblX := hbl
        replace hbl := Nat.lt_of_lt_of_le hbl hyF.size
        clear hyF hxF hx hg8 hz3 cS hdr t0
        generalize (w3.alloc (.cells #[.string ⟨#[]⟩, .int .i64 0, .int .i64 0, .int .i64 0, .bool false] 71)).setCells w3.heap.size 0 [.string Xa, .int .i64 0, .int .i64 0, .int .i64 0, .bool rb] = wq at *
        generalize w3.heap.size = X at *
        have hRd : Hid (RdI w X wq.heap.size bk o Xb Xc Xd [.string Xa, .int .i64 0, .int .i64 0, .int .i64 0, .bool rb] (wq.alloc (.cells #[.pointer (some ⟨X, 1, none⟩), .pointer (some ⟨X, 2, none⟩), .pointer (some ⟨X, 3, none⟩)] 227))) := by
          have hbA := below_alloc wq (.cells #[.pointer (some ⟨X, 1, none⟩), .pointer (some ⟨X, 2, none⟩), .pointer (some ⟨X, 3, none⟩)] 227)
          exact ⟨below_step hb.out hbA, g2.out.below hbA, h5.out.below hbA, BoxAt.new _ _ _, (hbA.cell (p := ⟨bk, o + 1, none⟩) hbl).trans t1, (hbA.cell (p := ⟨bk, o + 2, none⟩) hbl).trans t2, (hbA.cell (p := ⟨bk, o + 3, none⟩) hbl).trans t3, hlt, h5.out.lt, hblX⟩
        clear g2 h5 hb t1 t2 t3 hbl hblX
        obtain ⟨hwn, hws⟩ := words_num (a := a) hwf.out hrbz.out
        rw [← hqq.out.1, ← hqq.out.2.1, ← hqq.out.2.2] at hwn hws
        have hnum := Lib.hid (fun (Z : ByteArray) (hz : Z.size ≤ 1000000) w1 (h : Below w.heap.size w w1) => number_any Z w1 (hT.out _ h) hz)
        have hn1 := Lib.hid (fun w1 h => hnum.out Xb (by omega) w1 h)
        have hn2 := Lib.hid (fun w1 h => hnum.out Xc (by omega) w1 h)
        have hn3 := Lib.hid (fun w1 h => hnum.out Xd (by omega) w1 h)
        clear hnum
        generalize Cal.numR Xb.data.toList = nb at *
        generalize Cal.numR Xc.data.toList = nc at *
        generalize Cal.numR Xd.data.toList = nd at *
        obtain ⟨vb, kb⟩ := nb
        obtain ⟨vc, kc⟩ := nc
        obtain ⟨vd, kd⟩ := nd
        dsimp only at hwn hws
        have hwn := Lib.hid hwn
        have hws := Lib.hid hws
        have hRd0 : Hid (RdI w X wq.heap.size bk o Xb Xc Xd (rdL Xa vb vc vd rb 0) (wq.alloc (.cells #[.pointer (some ⟨X, 1, none⟩), .pointer (some ⟨X, 2, none⟩), .pointer (some ⟨X, 3, none⟩)] 227))) := by
          show RdI _ _ _ _ _ _ _ _ _ _
          have h := hRd.out
          simpa [rdL] using h
        clear hRd
        go_wp2_with fail
        generalize wq.heap.size = B at *
        go_loopw [6, 38] (fun g i wr => ∃ k : Nat, k ≤ 3 ∧ g = .bool (rdG rb kb kc kd k) ∧ i = .int .i64 k ∧ Hid (RdI w X B bk o Xb Xc Xd (rdL Xa vb vc vd rb k) wr)) (fun _ i _ => 3 - (intOf i).toNat)
        case atStart => exact ⟨0, by omega, by rw [rdG_0], rfl, hRd0⟩
        case round =>
          clear hRd0
          obtain ⟨k, hk, rfl, rfl, hR⟩ := hrel
          rcases k with _ | _ | _ | _ | k
          · rw [rdG_0]
            cases rb
            · have t1 := hR.out.t1
              have t2 := hR.out.t2
              have t3 := hR.out.t3
              have b0 := hR.out.hB.c 0 _ rfl
              have b1 := hR.out.hB.c 1 _ rfl
              have b2 := hR.out.hB.c 2 _ rfl
              have p4 := hR.out.h5.c 4 _ rfl
              have p1 := hR.out.h5.c 1 _ rfl
              have p2 := hR.out.h5.c 2 _ rfl
              have p3 := hR.out.h5.c 3 _ rfl
              have f1 := hR.out.h5.free 1 (by simp [rdL])
              have f2 := hR.out.h5.free 2 (by simp [rdL])
              have f3 := hR.out.h5.free 3 (by simp [rdL])
              go_wp2_with fail
              refine (hn1.out _ hR.out.fr).mono ?_
              rintro e w5 ⟨rfl, hb5⟩
              clear t1 t2 t3 b0 b1 b2 p1 p2 p3 p4 f1 f2 f3
              have hR := Lib.hid (hR.out.below hb5)
              clear hb5
              have hR2 := Lib.hid (hR.out.set 1 (.int .i64 vb) (by simp [rdL]))
              have t1 := hR.out.t1
              have t2 := hR.out.t2
              have t3 := hR.out.t3
              have b0 := hR.out.hB.c 0 _ rfl
              have b1 := hR.out.hB.c 1 _ rfl
              have b2 := hR.out.hB.c 2 _ rfl
              have p4 := hR.out.h5.c 4 _ rfl
              have p1 := hR.out.h5.c 1 _ rfl
              have p2 := hR.out.h5.c 2 _ rfl
              have p3 := hR.out.h5.c 3 _ rfl
              have f1 := hR.out.h5.free 1 (by simp [rdL])
              have f2 := hR.out.h5.free 2 (by simp [rdL])
              have f3 := hR.out.h5.free 3 (by simp [rdL])
              dsimp only
              go_wp2_with fail
              go_roundw
              case rel => exact ⟨1, by omega, by rw [rdG_1]; rfl, by go_num, by have h := hR2.out; show RdI _ _ _ _ _ _ _ _ _ _; simpa [rdL] using h⟩
              case measure => simp [intOf]
            · have t1 := hR.out.t1
              have t2 := hR.out.t2
              have t3 := hR.out.t3
              have b0 := hR.out.hB.c 0 _ rfl
              have b1 := hR.out.hB.c 1 _ rfl
              have b2 := hR.out.hB.c 2 _ rfl
              have p4 := hR.out.h5.c 4 _ rfl
              have p1 := hR.out.h5.c 1 _ rfl
              have p2 := hR.out.h5.c 2 _ rfl
              have p3 := hR.out.h5.c 3 _ rfl
              have f1 := hR.out.h5.free 1 (by simp [rdL])
              have f2 := hR.out.h5.free 2 (by simp [rdL])
              have f3 := hR.out.h5.free 3 (by simp [rdL])
              go_wp2_with fail
              go_roundw
              case rel => exact ⟨1, by omega, by rw [rdG_1]; rfl, by go_num, by have h := hR.out; show RdI _ _ _ _ _ _ _ _ _ _; simpa [rdL] using h⟩
              case measure => simp [intOf]
          · obtain ⟨g, hg⟩ : ∃ g, g = rdG rb kb kc kd (0 + 1) := ⟨_, rfl⟩
            rw [← hg]
            have hgz := Lib.hid hg
            clear hg
            cases g
            all_goals
              have t1 := hR.out.t1
              have t2 := hR.out.t2
              have t3 := hR.out.t3
              have b0 := hR.out.hB.c 0 _ rfl
              have b1 := hR.out.hB.c 1 _ rfl
              have b2 := hR.out.hB.c 2 _ rfl
              have p4 := hR.out.h5.c 4 _ rfl
              have p1 := hR.out.h5.c 1 _ rfl
              have p2 := hR.out.h5.c 2 _ rfl
              have p3 := hR.out.h5.c 3 _ rfl
              have f1 := hR.out.h5.free 1 (by simp [rdL])
              have f2 := hR.out.h5.free 2 (by simp [rdL])
              have f3 := hR.out.h5.free 3 (by simp [rdL])
              go_wp2_with fail
              refine (hn2.out _ hR.out.fr).mono ?_
              rintro e w5 ⟨rfl, hb5⟩
              clear t1 t2 t3 b0 b1 b2 p1 p2 p3 p4 f1 f2 f3
              have hR := Lib.hid (hR.out.below hb5)
              clear hb5
              have hR2 := Lib.hid (hR.out.set 2 (.int .i64 vc) (by simp [rdL]))
              have t1 := hR.out.t1
              have t2 := hR.out.t2
              have t3 := hR.out.t3
              have b0 := hR.out.hB.c 0 _ rfl
              have b1 := hR.out.hB.c 1 _ rfl
              have b2 := hR.out.hB.c 2 _ rfl
              have p4 := hR.out.h5.c 4 _ rfl
              have p1 := hR.out.h5.c 1 _ rfl
              have p2 := hR.out.h5.c 2 _ rfl
              have p3 := hR.out.h5.c 3 _ rfl
              have f1 := hR.out.h5.free 1 (by simp [rdL])
              have f2 := hR.out.h5.free 2 (by simp [rdL])
              have f3 := hR.out.h5.free 3 (by simp [rdL])
              dsimp only
              go_wp2_with fail
              go_roundw
              case rel => exact ⟨2, by omega, by rw [rdG_2, ← hgz.out]; rfl, by go_num, by have h := hR2.out; show RdI _ _ _ _ _ _ _ _ _ _; simpa [rdL] using h⟩
              case measure => simp [intOf]
          · obtain ⟨g, hg⟩ : ∃ g, g = rdG rb kb kc kd (0 + 1 + 1) := ⟨_, rfl⟩
            rw [← hg]
            have hgz := Lib.hid hg
            clear hg
            cases g
            all_goals
              have t1 := hR.out.t1
              have t2 := hR.out.t2
              have t3 := hR.out.t3
              have b0 := hR.out.hB.c 0 _ rfl
              have b1 := hR.out.hB.c 1 _ rfl
              have b2 := hR.out.hB.c 2 _ rfl
              have p4 := hR.out.h5.c 4 _ rfl
              have p1 := hR.out.h5.c 1 _ rfl
              have p2 := hR.out.h5.c 2 _ rfl
              have p3 := hR.out.h5.c 3 _ rfl
              have f1 := hR.out.h5.free 1 (by simp [rdL])
              have f2 := hR.out.h5.free 2 (by simp [rdL])
              have f3 := hR.out.h5.free 3 (by simp [rdL])
              go_wp2_with fail
              refine (hn3.out _ hR.out.fr).mono ?_
              rintro e w5 ⟨rfl, hb5⟩
              clear t1 t2 t3 b0 b1 b2 p1 p2 p3 p4 f1 f2 f3
              have hR := Lib.hid (hR.out.below hb5)
              clear hb5
              have hR2 := Lib.hid (hR.out.set 3 (.int .i64 vd) (by simp [rdL]))
              have t1 := hR.out.t1
              have t2 := hR.out.t2
              have t3 := hR.out.t3
              have b0 := hR.out.hB.c 0 _ rfl
              have b1 := hR.out.hB.c 1 _ rfl
              have b2 := hR.out.hB.c 2 _ rfl
              have p4 := hR.out.h5.c 4 _ rfl
              have p1 := hR.out.h5.c 1 _ rfl
              have p2 := hR.out.h5.c 2 _ rfl
              have p3 := hR.out.h5.c 3 _ rfl
              have f1 := hR.out.h5.free 1 (by simp [rdL])
              have f2 := hR.out.h5.free 2 (by simp [rdL])
              have f3 := hR.out.h5.free 3 (by simp [rdL])
              dsimp only
              go_wp2_with fail
              go_roundw
              case rel => exact ⟨3, by omega, by rw [rdG_3, ← hgz.out]; rfl, by go_num, by have h := hR2.out; show RdI _ _ _ _ _ _ _ _ _ _; simpa [rdL] using h⟩
              case measure => simp [intOf]
          · obtain ⟨g, hg⟩ : ∃ g, g = rdG rb kb kc kd (0 + 1 + 1 + 1) := ⟨_, rfl⟩
            rw [← hg]
            have hgz := Lib.hid (hg.trans (rdG_full rb kb kc kd))
            clear hg
            cases g
            · have hfin := Lib.hid (readV_none hshort.out (hwn.out hgz.out.symm))
              go_wp2_with (refine wpList_store_box rfl 71 (.tmp 2) (.tmp 68) rfl (w.heap.size) _ [.string ⟨#[]⟩, .int .i64 0, .int .i64 0, .int .i64 0, .bool false] (by rfl) (by rfl) hR.out.g2 rfl pvSize (by kernel_rfl) ?_; intro w4 h8 hg8)
              (try simp only [Exit.inBlock, Exit.then])
              refine bodyPost_ret (results_mid2 rfl _ _ w.heap.size [.string ⟨#[]⟩, .int .i64 0, .int .i64 0, .int .i64 0, .bool false] _ rfl h8.range Tryz.underlying71 rfl pvSize) rfl ⟨by rw [hfin.out]; rfl, below_of_grownB hR.out.fr hg8 (by omega)⟩
            · have hfin := Lib.hid (readV_some hshort.out (hws.out hgz.out.symm))
              have h9 : Hid (BoxAt wr X [.string Xa, .int .i64 (if rb = true then 0 else vb), .int .i64 vc, .int .i64 vd, .bool rb]) := by
                have h := hR.out.h5
                show BoxAt _ _ _
                simpa [rdL] using h
              obtain ⟨v1, hv1⟩ : ∃ v1 : Int, v1 = if rb = true then 0 else vb := ⟨_, rfl⟩
              rw [← hv1] at h9
              have hv1z := Lib.hid hv1
              clear hv1
              go_wp2_with (first | (refine wpList_load_mid rfl 71 (.tmp 5) rfl (X) 0 rfl [.string Xa, .int .i64 v1, .int .i64 vc, .int .i64 vd, .bool rb] _ h9.out.range Tryz.underlying71 rfl pvSize ?_) | (refine wpList_store_box rfl 71 (.tmp 2) (.tmp 69) rfl (w.heap.size) _ [.string Xa, .int .i64 v1, .int .i64 vc, .int .i64 vd, .bool rb] (by rfl) (by rfl) hR.out.g2 rfl pvSize (by kernel_rfl) ?_; intro w4 h8 hg8))
              (try simp only [Exit.inBlock, Exit.then])
              refine bodyPost_ret (results_mid2 rfl _ _ w.heap.size [.string Xa, .int .i64 v1, .int .i64 vc, .int .i64 vd, .bool rb] _ rfl h8.range Tryz.underlying71 rfl pvSize) rfl ⟨by rw [hfin.out, hXaz.out, hv1z.out]; rfl, below_of_grownB hR.out.fr hg8 (by omega)⟩
          · omega
    · have hfin := Lib.hid (readV_none hshort.out (words_not4 h4))
      have hne : (((Cal.cutT 32 s.data.toList).length : Int) != 4) = true := by simp; omega
      clear h4
      have g2 := Lib.hid (BoxAt.new w #[.string ⟨#[]⟩, .int .i64 0, .int .i64 0, .int .i64 0, .bool false] 71)
      have hb := Lib.hid (below_alloc w (.cells #[.string ⟨#[]⟩, .int .i64 0, .int .i64 0, .int .i64 0, .bool false] 71))
      go_enter Tryz.func84, Tryz.ntmps84
      go_wp2_with fail
      refine (Split32_any s _ (hT.out _ hb.out) hs).mono ?_
      rintro e w1 ⟨A, cap, rfl, hrow, hb1⟩
      have g2 := Lib.hid (g2.out.below hb1)
      have hb := Lib.hid (below_step hb.out hb1)
      clear hb1
      generalize Cal.cutT 32 s.data.toList = zs at *
      go_wp2_with (refine wpList_store_box rfl 71 (.tmp 2) (.tmp 24) rfl (w.heap.size) _ [.string ⟨#[]⟩, .int .i64 0, .int .i64 0, .int .i64 0, .bool false] (by rfl) (by rfl) g2.out rfl pvSize (by kernel_rfl) ?_; intro w4 h8 hg8)
      (try simp only [Exit.inBlock, Exit.then])
      refine bodyPost_ret (results_mid2 rfl _ _ w.heap.size [.string ⟨#[]⟩, .int .i64 0, .int .i64 0, .int .i64 0, .bool false] _ rfl h8.range Tryz.underlying71 rfl pvSize) rfl ⟨by rw [hfin.out]; rfl, below_of_grownB hb.out hg8 (by omega)⟩
end Go.Proofs.YtbegbajlagcbdaaGreatDoor
