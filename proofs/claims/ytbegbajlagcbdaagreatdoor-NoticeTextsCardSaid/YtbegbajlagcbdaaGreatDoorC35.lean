/- Chapter 8 and what it rests on: definitions and walks, part 35. -/
import Derived.Test.YtbegbajlagcbdaaGreatDoorC34
import Derived.Test.YtbegbajlagcbdaaGreatDoorC46
import Derived.Test.YtbegbajlagcbdaaGreatDoorC24
import Derived.Test.YtbegbajlagcbdaaGreatDoorC19
namespace Go.Proofs.YtbegbajlagcbdaaGreatDoor
open Go Go.RowKit
theorem rowsT_put (w : World) (zs : List (List UInt8)) (arr : Array Value) (harr : arr.toList = zs.map encStr) (t : TypeId) : RowsAt (w.alloc (.cells arr t)) (some ⟨w.heap.size, 0, none⟩) 1 (txtRows zs) := fun k r hr => by
  unfold txtRows at hr
  rw [List.getElem?_map] at hr
  cases hz : zs[k]? with
  | none => rw [hz] at hr; cases hr
  | some z =>
    rw [hz] at hr
    simp only [Option.map_some, Option.some.injEq] at hr
    subst hr
    refine ⟨w.heap.size, 0, rfl, by simp, fun j v hv => ?_⟩
    cases j with
    | succ j => simp at hv
    | zero =>
      simp only [List.getElem?_cons_zero, Option.some.injEq] at hv
      subst hv
      rw [Nat.zero_add, Nat.mul_one, Nat.add_zero, cell_alloc_at, ← Array.getElem?_toList, harr, List.getElem?_map, hz]
      rfl
/-- A text divided at its spaces: where the pieces lie. -/
def CutsPost (w : World) (zs : List (List UInt8)) (e : Ending) (w' : World) : Prop := ∃ b o c, e = .returned (.slice (some ⟨b, o, none⟩) zs.length c) ∧ zs.length ≤ c ∧ w.heap.size ≤ b ∧ RowsAt w' (some ⟨b, o, none⟩) 1 (txtRows zs) ∧ Below w.heap.size w w'
theorem SplitC_any (s : ByteArray) (w : World) (hT : TxtT w) (hs : s.size ≤ 1000000) : Calls Tryz.prog 142 #[.string s, .string ⟨#[32]⟩] w (CutsPost w (Cal.cutT 32 s.data.toList)) := by
  obtain ⟨m, hm⟩ := hT.max
  refine (Tryz.strings_Split s ⟨#[32]⟩ m w (by omega) hm (Nat.le_refl 1)).mono ?_
  rintro e w' ⟨rfl, rfl⟩
  have hc : Lib.countB s ⟨#[32]⟩ = s.data.toList.count 32 := Cal.countB_one 32 _ s (Nat.le_refl _)
  have hsp := Cal.splitB_one 32 (Lib.countB s ⟨#[32]⟩) s (by rw [hc]; exact Nat.le_refl _)
  refine ⟨_, _, _, by rw [Cal.cutT_length, ← hc], by rw [Cal.cutT_length, ← hc]; exact Nat.le_refl _, Nat.le_refl _, rowsT_put w _ _ ?_ _, below_alloc _ _⟩
  rw [← hsp]
  simp [encStr]
theorem sizeTxt (w : World) : (sizeOf (Tryz.prog.elem 165)).run Tryz.prog w = .ok 1 w := by kernel_rfl
theorem undTxt : Tryz.prog.underlying 165 = some (.slice (Tryz.prog.elem 165)) := by kernel_rfl
/-- The words from one on. -/
theorem txtDrop {b o c k : Nat} {zs : List (List UInt8)} (hcap : zs.length ≤ c) (hk : k < zs.length) :
    (∀ w', (Instr.slice 165 (.slice (some ⟨b, o, none⟩) zs.length c) (some (.int .i64 (k : Int))) none none).run Tryz.prog w' = .ok (.slice (some ⟨b, o + k, none⟩) (zs.drop k).length (c - k)) w') ∧ ∀ w', RowsAt w' (some ⟨b, o, none⟩) 1 (txtRows zs) → RowsAt w' (some ⟨b, o + k, none⟩) 1 (txtRows (zs.drop k)) := by
  refine ⟨fun w' => ?_, fun w' h j r hr => ?_⟩
  · rw [run_slice_l w' 165 (some ⟨b, o, none⟩) zs.length c undTxt .i64 k (by omega) (by omega), sizeTxt]
    have hck : c ≠ k := by omega
    simp [Result.andThen, sliced, hck, addr_add]
  · unfold txtRows at hr
    rw [List.map_drop, List.getElem?_drop] at hr
    obtain ⟨b', o', hA, hb, hc⟩ := h _ r hr
    cases hA
    refine ⟨b, o + k, rfl, hb, fun i v hv => ?_⟩
    have := hc i v hv
    rw [show o + k + (j * 1 + i) = o + ((k + j) * 1 + i) by omega]
    exact this
theorem txtDrop2 {b o c k : Nat} {zs : List (List UInt8)} (hcap : zs.length ≤ c) (hk : k ≤ zs.length) :
    ∃ A2 c2, (∀ w', (Instr.slice 165 (.slice (some ⟨b, o, none⟩) zs.length c) (some (.int .i64 (k : Int))) none none).run Tryz.prog w' = .ok (.slice A2 (zs.drop k).length c2) w') ∧ ∀ w', RowsAt w' (some ⟨b, o, none⟩) 1 (txtRows zs) → RowsAt w' A2 1 (txtRows (zs.drop k)) := by
  by_cases h : k < zs.length
  · obtain ⟨h1, h2⟩ := txtDrop (b := b) (o := o) hcap h
    exact ⟨_, _, h1, h2⟩
  · have hnil : zs.drop k = [] := List.drop_eq_nil_of_le (by omega)
    refine ⟨if c = k then some ⟨b, o, none⟩ else (some (⟨b, o, none⟩ : Addr)).map (·.add (k * 1)), c - k, fun w' => ?_, fun w' _ => by rw [hnil]; exact RowsAt.nil _ _ _⟩
    rw [run_slice_l w' 165 (some ⟨b, o, none⟩) zs.length c undTxt .i64 k (by omega) (by omega), sizeTxt]
    simp [Result.andThen, sliced]
/-- What one box and one own slice may have done. -/
structure Moved (W W' : World) (Bn : Nat) (own : Option Nat) : Prop where
  os : W'.os = W.os
  tape : W'.tape = W.tape
  output : W'.output = W.output
  size : W.heap.size ≤ W'.heap.size
  block : ∀ i, i < W.heap.size → i ≠ Bn → some i ≠ own → W'.heap[i]? = W.heap[i]?
theorem Moved.of_below {W W' : World} {Bn : Nat} {own : Option Nat} (h : Below W.heap.size W W') : Moved W W' Bn own := ⟨h.os, h.tape, h.output, h.size, fun i hi _ _ => h.block i hi⟩
/-- A notice in its box, its acts in an own slice. -/
structure NtS (B Bn : Nat) (s : Note) (v : Value) (W : World) : Prop where
  box : BoxAt W Bn [.string s.name, .int .i64 s.opened, v]
  own : OwnL W B 109 3 v (s.acts.map NAct.cells)
  base : B ≤ W.heap.size
  lt : Bn < B
theorem NtS.below {B Bn : Nat} {s : Note} {v : Value} {W W' : World} (h : NtS B Bn s v W) (hb : Below W.heap.size W W') : NtS B Bn s v W' := ⟨h.box.below hb, OwnL.below h.own hb, Nat.le_trans h.base hb.size, h.lt⟩
def NReadPost (w : World) (B Bn : Nat) (s : Note) (v : Value) (r : Option Note) (e : Ending) (w' : World) : Prop :=
  ∃ v', e = .returned (.bool r.isSome) ∧ NtS B Bn (r.getD s) v' w' ∧ Moved w w' Bn v.ownBlock ∧ (v'.ownBlock = v.ownBlock ∨ ∃ g, v'.ownBlock = some g ∧ w.heap.size ≤ g)
theorem nread_no {w w' : World} {B Bn : Nat} {s : Note} {v : Value} {r : Option Note} (h : r = none) (hS : NtS B Bn s v w') (hb : Below w.heap.size w w') : NReadPost w B Bn s v r (.returned (.bool false)) w' := by
  subst h
  exact ⟨v, rfl, hS, .of_below hb, .inl rfl⟩
theorem elemAct : Elem Tryz.prog 91 109 3 24 := Elem.mk' Tryz.underlying91 (z := .agg #[.int .i64 0, .int .i64 0, .int .i64 0]) (by kernel_rfl) rfl (by decide)
set_option maxRecDepth 100000 in
set_option maxHeartbeats 4000000 in
theorem nread_first (B Bn : Nat) (s : Note) (v : Value) (T : ByteArray) (w : World) (hT : TxtT w) (hS : NtS B Bn s v w) (hTs : T.size ≤ 100000) :
    Calls Tryz.prog 97 #[.pointer (some ⟨Bn, 0, none⟩), .string T, .int .i64 1] w (NReadPost w B Bn s v (Cal.nLine 0 s T.data.toList)) := by
  have hll := Lib.hid (list_len T)
  have hT := Lib.hid (fun w' (h : Below w.heap.size w w') => hT.below h)
  have hS := Lib.hid hS
  by_cases h3 : (Cal.cutT 32 T.data.toList).length = 3
  · obtain ⟨a, b, c, hz⟩ : ∃ a b c, Cal.cutT 32 T.data.toList = [a, b, c] := by
      rcases hz : Cal.cutT 32 T.data.toList with _ | ⟨a, _ | ⟨b, _ | ⟨c, _ | ⟨d, r⟩⟩⟩⟩ <;> rw [hz] at h3 <;> simp at h3
      exact ⟨a, b, c, rfl⟩
    have hnl : Cal.nLine 0 s T.data.toList = if a = Cal.wNotice ∧ (Cal.numS c 7).2 = true then some ⟨⟨b.toArray⟩, (Cal.numS c 7).1, s.acts⟩ else none := by unfold Cal.nLine; rw [if_pos rfl, hz]
    have hcl : c.length ≤ 1000000 := by
      have := (Cal.cutT_mem (c := 32) (l := T.data.toList) (x := c) (by rw [hz]; simp)).2
      rw [hll.out] at this; omega
    have hz := Lib.hid hz
    obtain ⟨R, hR⟩ : ∃ R, R = Cal.nLine 0 s T.data.toList := ⟨_, rfl⟩
    rw [← hR] at hnl ⊢
    have hnlz := Lib.hid hnl
    clear h3 hR hnl
    go_enter Tryz.func97, Tryz.ntmps97
    go_wp2_with fail
    refine (SplitC_any T _ (hT.out _ (Below.refl _ _)) (by omega)).mono ?_
    rintro e w1 ⟨bz, oz, cz, rfl, hcap, hbz, hrow, hb1⟩
    have hS1 := Lib.hid (hS.out.below hb1)
    have hb := Lib.hid hb1
    have hrow := Lib.hid hrow
    clear hb1
    rw [hz.out] at hrow hcap ⊢
    obtain ⟨_, _, eA, hbl, za, hza, ta⟩ := txtRows_get (k := 0) hrow.out (by simp)
    cases eA
    obtain ⟨_, _, eA, _, Xb, hXb, tb⟩ := txtRows_get (k := 1) hrow.out (by simp)
    cases eA
    have hXbz : Hid (Xb.data.toList = b) := hXb
    have hza' : za.data.toList = a := hza
    have ta : w1.cell? ⟨bz, oz, none⟩ = some (.string za) := ta
    clear hza hXb
    by_cases ha : a = Cal.wNotice
    · have hq : (za.toList == [110, 111, 116, 105, 99, 101]) = true := by rw [ByteArray.toList_eq, hza', ha]; rfl
      obtain ⟨hdr, hdrow⟩ := txtDrop (b := bz) (o := oz) (k := 2) hcap (by simp)
      have hdrow := Lib.hid (hdrow _ hrow.out)
      have hdr : ∀ w', (Instr.slice 165 (.slice (some ⟨bz, oz, none⟩) 3 cz) (some (.int .i64 2)) none none).run Tryz.prog w' = .ok (.slice (some ⟨bz, oz + 2, none⟩) 1 (cz - 2)) w' := hdr
      have haz := Lib.hid ha
      clear ha hza'
      go_wp2_with fail
      refine (numbers_any (some ⟨bz, oz + 2, none⟩) (cz - 2) [c] 1 _ (hT.out _ hb.out) hdrow.out (by simp) (by simpa using hcl)).mono ?_
      rintro e w2 ⟨vl, rfl, hlv, hb2⟩
      have hS2 := Lib.hid (hS1.out.below hb2)
      have hbb := Lib.hid (below_step hb.out hb2)
      have tb2 := (hb2.cell (p := ⟨bz, oz + 1, none⟩) hbl).trans tb
      have hbl2 := Nat.lt_of_lt_of_le hbl hb2.size
      have hg1 := hb2.size
      clear hb2 tb ta hq
      by_cases hok : (Cal.numS c 7).2 = true
      · have hr1 : (if (([c] : List (List UInt8)).length : Int) = 1 then Cal.numsF [] [c] else none) = some [(Cal.numS c 7).1] := by
          rw [if_pos (show (([c] : List (List UInt8)).length : Int) = 1 from rfl), Cal.numsF_cons, if_pos hok]; rfl
        rw [hr1] at hlv ⊢
        have hfin : Hid (R = some ⟨⟨b.toArray⟩, (Cal.numS c 7).1, s.acts⟩) := by show _ = _; rw [hnlz.out, if_pos ⟨haz.out, hok⟩]
        clear hr1 hok
        generalize (Cal.numS c 7).1 = z at *
        obtain ⟨Al, cl, rfl, hlr⟩ := IntsL.rows hlv
        obtain ⟨bl, ol, rfl, hbll, hlc⟩ := hlr 0 [.int .i64 z] rfl
        have l0 : w2.cell? ⟨bl, ol, none⟩ = some (.int .i64 z) := hlc 0 _ rfl
        have hgl : w1.heap.size ≤ bl := (OwnL.lt hlv bl rfl).1
        have hlt1 := hS1.out.box.lt
        have hltz := hS.out.box.lt
        clear hlr hlc hlv
        go_wp2_with fail
        have cS := fun (w' : World) (h1 : w'.heap[bz]? = w2.heap[bz]?) (h2 : w'.heap[bl]? = w2.heap[bl]?) => (show ((fun w' => w'.cell? ⟨bz, oz + 1, none⟩ = some (.string Xb) ∧ w'.cell? ⟨bl, ol, none⟩ = some (.int .i64 z))) w' from ⟨(World.cell?_of_block (a := ⟨bz, oz + 1, none⟩) h1).trans tb2, (World.cell?_of_block (a := ⟨bl, ol, none⟩) h2).trans l0⟩)
        have hxx := hS2.out.box
        have c0 := hxx.c 0 _ rfl
        have c1 := hxx.c 1 _ rfl
        have f0 := hxx.free 0 (by simp)
        have f1 := hxx.free 1 (by simp)
        have hS2a := hxx.set 0 (.string Xb) (by simp)
        have hS2b := hS2a.set 1 (.int .i64 z) (by simp)
        have hgr : w2.grownBy ((w2.setCell ⟨Bn, 0, none⟩ (.string Xb)).setCell ⟨Bn, 1, none⟩ (.int .i64 z)) (some Bn) := (grown_set _ _ _ _).trans (grown_set _ _ _ _)
        have hown := (hS2.out.own.offF (B' := Bn) 0 (.string Xb) hS2.out.lt).offF (B' := Bn) 1 (.int .i64 z) hS2.out.lt
        have hAll := Lib.hid (And.intro hS2b (And.intro hgr hown))
        have cS := Lib.hid cS
        clear hxx hS2a hS2b hgr hown c0 c1
        refine wp_region_held_drew (S := (fun w' => w'.cell? ⟨bz, oz + 1, none⟩ = some (.string Xb) ∧ w'.cell? ⟨bl, ol, none⟩ = some (.int .i64 z))) (by kernel_rfl) (cS.out _ rfl rfl) (fun hHeld => ?_)
        (refine tkH 0 (v := ?_) ?_ ?_; rotate_left; focus (intro w' hSw; (try dsimp only at hSw); go_simp; (try with_reducible rfl)); (try simp only [Act.put, List.setIfInBounds_toArray, List.set_cons_zero, List.set_cons_succ]))
        (refine tkH 1 (v := ?_) ?_ ?_; rotate_left; focus (intro w' hSw; (try dsimp only at hSw); go_simp; (try with_reducible rfl)); (try simp only [Act.put, List.setIfInBounds_toArray, List.set_cons_zero, List.set_cons_succ]))
        (refine tkH 2 (v := ?_) ?_ ?_; rotate_left; focus (intro w' hSw; (try dsimp only at hSw); go_simp; (try with_reducible rfl)); (try simp only [Act.put, List.setIfInBounds_toArray, List.set_cons_zero, List.set_cons_succ]))
        (refine tkH 3 (v := ?_) ?_ ?_; rotate_left; focus (intro w' hSw; (try dsimp only at hSw); go_simp; (try with_reducible rfl)); (try simp only [Act.put, List.setIfInBounds_toArray, List.set_cons_zero, List.set_cons_succ]))
        (refine tkH 4 (v := ?_) ?_ ?_; rotate_left; focus (intro w' hSw; (try dsimp only at hSw); go_simp; (try with_reducible rfl)); (try simp only [Act.put, List.setIfInBounds_toArray, List.set_cons_zero, List.set_cons_succ]))
        (refine tkH 5 (v := ?_) ?_ ?_; rotate_left; focus (intro w' hSw; (try dsimp only at hSw); go_simp; (try with_reducible rfl)); (try simp only [Act.put, List.setIfInBounds_toArray, List.set_cons_zero, List.set_cons_succ]))
        (refine tkH 6 (v := ?_) ?_ ?_; rotate_left; focus (intro w' hSw; (try dsimp only at hSw); go_simp; (try with_reducible rfl)); (try simp only [Act.put, List.setIfInBounds_toArray, List.set_cons_zero, List.set_cons_succ]))
        (refine tkH 7 (v := ?_) ?_ ?_; rotate_left; focus (intro w' hSw; (try dsimp only at hSw); go_simp; (try with_reducible rfl)); (try simp only [Act.put, List.setIfInBounds_toArray, List.set_cons_zero, List.set_cons_succ]))
        (refine tkH 8 (v := ?_) ?_ ?_; rotate_left; focus (intro w' hSw; (try dsimp only at hSw); go_simp; (try with_reducible rfl)); (try simp only [Act.put, List.setIfInBounds_toArray, List.set_cons_zero, List.set_cons_succ]))
        (refine tkH 9 (v := ?_) ?_ ?_; rotate_left; focus (intro w' hSw; (try dsimp only at hSw); go_simp; (try with_reducible rfl)); (try simp only [Act.put, List.setIfInBounds_toArray, List.set_cons_zero, List.set_cons_succ]))
        have c0 := (hS2.out.box.c 0 _ rfl)
        (refine wpAnyH_ready (rs := [10]) (by decide +kernel) (by simp) ?_; refine AllReadyH.cons rfl (fun K hK => ?_) AllReadyH.nil; rw [if_pos (by kernel_rfl)]; go_simp)
        (refine hK.out _ _ (cS.out _ (Below.heap_setCell _ ⟨Bn, 0, none⟩ _ bz (by show bz ≠ Bn; omega)) (Below.heap_setCell _ ⟨Bn, 0, none⟩ _ bl (by show bl ≠ Bn; omega))) (fun hHeld => ?_); clear hK K; (try simp only [Act.put]); (try simp only [List.setIfInBounds_toArray]); (try simp only [List.set_cons_zero, List.set_cons_succ]))
        have c1 := (hS2.out.box.c 1 _ rfl)
        (refine tkH 11 (v := ?_) ?_ ?_; rotate_left; focus (intro w' hSw; (try dsimp only at hSw); go_simp; (try with_reducible rfl)); (try simp only [Act.put, List.setIfInBounds_toArray, List.set_cons_zero, List.set_cons_succ]))
        (refine tkH 12 (v := ?_) ?_ ?_; rotate_left; focus (intro w' hSw; (try dsimp only at hSw); go_simp; (try with_reducible rfl)); (try simp only [Act.put, List.setIfInBounds_toArray, List.set_cons_zero, List.set_cons_succ]))
        (refine wpAnyH_ready (rs := [13]) (by decide +kernel) (by simp) ?_; refine AllReadyH.cons rfl (fun K hK => ?_) AllReadyH.nil; rw [if_pos (by kernel_rfl)]; go_simp)
        (refine hK.out _ _ (cS.out _ ((Below.heap_setCell _ ⟨Bn, 1, none⟩ _ bz (by show bz ≠ Bn; omega)).trans (Below.heap_setCell _ ⟨Bn, 0, none⟩ _ bz (by show bz ≠ Bn; omega))) ((Below.heap_setCell _ ⟨Bn, 1, none⟩ _ bl (by show bl ≠ Bn; omega)).trans (Below.heap_setCell _ ⟨Bn, 0, none⟩ _ bl (by show bl ≠ Bn; omega)))) (fun hHeld => ?_); clear hK K; (try simp only [Act.put]); (try simp only [List.setIfInBounds_toArray]); (try simp only [List.set_cons_zero, List.set_cons_succ]))
        refine wpAnyH_done (by kernel_rfl) ?_ _
        clear hHeld c0 c1 f0 f1 cS
        go_wp2_with fail
        go_ret
        rw [hfin.out]
        obtain ⟨x1, x2, x3⟩ := hAll.out
        refine ⟨v, rfl, ⟨?_, OwnL.below x3 (Below.refl _ _).drew, ?_, hS.out.lt⟩, ?_, .inl rfl⟩
        · have hb3 : (⟨b.toArray⟩ : ByteArray) = Xb := by rw [← hXbz.out]
          show BoxAt _ _ [.string ⟨b.toArray⟩, .int .i64 z, v]
          rw [hb3]
          exact x1.below (Below.refl _ _).drew
        · exact Nat.le_trans hS2.out.base x2.size
        · exact ⟨x2.os.trans hbb.out.os, x2.tape.trans hbb.out.tape, x2.output.trans hbb.out.output, Nat.le_trans hbb.out.size x2.size, fun i hi hne _ => (x2.block i (Nat.lt_of_lt_of_le hi hbb.out.size) (fun e => hne (by cases e; rfl))).trans (hbb.out.block i hi)⟩
      · have hr1 : (if (([c] : List (List UInt8)).length : Int) = 1 then Cal.numsF [] [c] else none) = none := by
          rw [if_pos (show (([c] : List (List UInt8)).length : Int) = 1 from rfl), Cal.numsF_cons, if_neg hok]
        rw [hr1]
        have hfin : Hid (R = none) := by show _ = _; rw [hnlz.out, if_neg (fun h => hok h.2)]
        clear hr1 hok hlv
        go_wp2_with fail
        go_ret
        exact nread_no hfin.out hS2.out hbb.out
    · have hfin : Hid (R = none) := by show _ = _; rw [hnlz.out, if_neg (fun h => ha h.1)]
      have hq : (za.toList == [110, 111, 116, 105, 99, 101]) = false := by
        rw [ByteArray.toList_eq, hza', beq_eq_false_iff_ne]; exact ha
      clear ha hza' tb
      go_wp2_with fail
      go_ret
      exact nread_no hfin.out hS1.out hb.out
  · have hfin : Hid (Cal.nLine 0 s T.data.toList = none) := by
      show _ = _
      unfold Cal.nLine
      rw [if_pos rfl]
      split
      · rename_i hz; rw [hz] at h3; exact absurd rfl h3
      · rfl
    obtain ⟨R, hR⟩ : ∃ R, R = Cal.nLine 0 s T.data.toList := ⟨_, rfl⟩
    rw [← hR] at hfin ⊢
    clear hR
    have hz0 : 0 < (Cal.cutT 32 T.data.toList).length := by rw [Cal.cutT_length]; omega
    have hn3 : (((Cal.cutT 32 T.data.toList).length : Int) == 3) = false := by rw [beq_eq_false_iff_ne]; omega
    clear h3
    go_enter Tryz.func97, Tryz.ntmps97
    go_wp2_with fail
    refine (SplitC_any T _ (hT.out _ (Below.refl _ _)) (by omega)).mono ?_
    rintro e w1 ⟨bz, oz, cz, rfl, hcap, hbz, hrow, hb1⟩
    have hS1 := Lib.hid (hS.out.below hb1)
    have hb := Lib.hid hb1
    have hrow := Lib.hid hrow
    clear hb1
    obtain ⟨_, _, eA, hbl, za, hza, ta⟩ := txtRows_get (k := 0) hrow.out hz0
    cases eA
    have ta : w1.cell? ⟨bz, oz, none⟩ = some (.string za) := ta
    generalize Cal.cutT 32 T.data.toList = zs at *
    go_wp2_with fail
    go_ret
    exact nread_no hfin.out hS1.out hb.out
theorem nums3 {r : List (List UInt8)} {R : Option (List Int)} (hR : R = if (r.length : Int) = 3 then Cal.numsF [] r else none) : R = none ∨ ∃ p q t, R = some [p, q, t] ∧ ∃ b c d, r = [b, c, d] ∧ (Cal.numS b 7).2 = true ∧ (Cal.numS c 7).2 = true ∧ (Cal.numS d 7).2 = true ∧ p = (Cal.numS b 7).1 ∧ q = (Cal.numS c 7).1 ∧ t = (Cal.numS d 7).1 := by
  by_cases h3 : (r.length : Int) = 3
  · obtain ⟨b, c, d, rfl⟩ : ∃ b c d, r = [b, c, d] := by
      rcases r with _ | ⟨b, _ | ⟨c, _ | ⟨d, _ | ⟨e, r⟩⟩⟩⟩ <;> simp at h3
      · exact ⟨b, c, d, rfl⟩
      · omega
    rw [if_pos h3, Cal.numsF_cons] at hR
    by_cases hb : (Cal.numS b 7).2 = true
    · rw [if_pos hb, Cal.numsF_cons] at hR
      by_cases hc : (Cal.numS c 7).2 = true
      · rw [if_pos hc, Cal.numsF_cons] at hR
        by_cases hd : (Cal.numS d 7).2 = true
        · rw [if_pos hd] at hR
          exact .inr ⟨_, _, _, hR, b, c, d, rfl, hb, hc, hd, rfl, rfl, rfl⟩
        · rw [if_neg hd] at hR; exact .inl hR
      · rw [if_neg hc] at hR; exact .inl hR
    · rw [if_neg hb] at hR; exact .inl hR
  · rw [if_neg h3] at hR; exact .inl hR
theorem nLine_act {k : Nat} {s : Note} {x : List UInt8} {r : List (List UInt8)} {R : Option (List Int)} (hk : 0 < k) (hz : Cal.cutT 32 x = Cal.wAct :: r) (hR : R = if (r.length : Int) = 3 then Cal.numsF [] r else none) :
    (R = none ∧ Cal.nLine k s x = none) ∨ ∃ p q t, R = some [p, q, t] ∧ Cal.nLine k s x = some ⟨s.name, s.opened, s.acts ++ [⟨p, q, t⟩]⟩ := by
  have hk0 : k ≠ 0 := by omega
  rcases nums3 hR with h | ⟨p, q, t, h, b, c, d, rfl, h1, h2, h3, rfl, rfl, rfl⟩
  · refine .inl ⟨h, ?_⟩
    unfold Cal.nLine
    rw [if_neg hk0, hz]
    split
    · rename_i a b c d he
      cases he
      rw [if_neg]
      rintro ⟨_, h1, h2, h3⟩
      rw [h, if_pos (show (([b, c, d] : List (List UInt8)).length : Int) = 3 from rfl), Cal.numsF_cons, if_pos h1, Cal.numsF_cons, if_pos h2, Cal.numsF_cons, if_pos h3] at hR
      cases hR
    · rfl
  · refine .inr ⟨_, _, _, h, ?_⟩
    unfold Cal.nLine
    rw [if_neg hk0, hz]
    show (if _ then _ else _) = _
    rw [if_pos ⟨rfl, h1, h2, h3⟩]
theorem nLine_other {k : Nat} {s : Note} {x a : List UInt8} {r : List (List UInt8)} (hk : 0 < k) (hz : Cal.cutT 32 x = a :: r) (ha : a ≠ Cal.wAct) : Cal.nLine k s x = none := by
  unfold Cal.nLine
  rw [if_neg (by omega), hz]
  split
  · rename_i a b c d he
    cases he
    rw [if_neg (fun h => ha h.1)]
  · rfl
theorem actCells_wid (l : List NAct) : ∀ r ∈ l.map NAct.cells, r.length = 3 := fun r hr => by obtain ⟨p, _, rfl⟩ := List.mem_map.1 hr; rfl
theorem actCells_one (l : List NAct) : ∀ r ∈ l.map NAct.cells, ∀ u ∈ r, u.oneCell' = true := fun r hr u hu => by
  obtain ⟨p, _, rfl⟩ := List.mem_map.1 hr
  simp only [NAct.cells, List.mem_cons, List.not_mem_nil, or_false] at hu
  rcases hu with rfl | rfl | rfl <;> rfl
set_option maxRecDepth 100000 in
set_option maxHeartbeats 4000000 in
theorem nread_next (B Bn : Nat) (s : Note) (v : Value) (T : ByteArray) (k : Nat) (m : Int) (hk : 0 < k) (hm : 1 < m) (w : World) (hT : TxtT w) (hS : NtS B Bn s v w) (hTs : T.size ≤ 100000) (hal : s.acts.length ≤ 100000) :
    Calls Tryz.prog 97 #[.pointer (some ⟨Bn, 0, none⟩), .string T, .int .i64 m] w (NReadPost w B Bn s v (Cal.nLine k s T.data.toList)) := by
  have hll := Lib.hid (list_len T)
  have hT := Lib.hid (fun w' (h : Below w.heap.size w w') => hT.below h)
  obtain ⟨Av, cv, rfl, _⟩ := OwnL.form hS.own
  obtain ⟨nv, hnv⟩ : ∃ nv, nv = (s.acts.map NAct.cells).length := ⟨_, rfl⟩
  rw [← hnv] at hS ⊢
  clear hnv
  have hS := Lib.hid hS
  have hm1 : (m == 1) = false := by rw [beq_eq_false_iff_ne]; omega
  obtain ⟨a, r, hz⟩ : ∃ a r, Cal.cutT 32 T.data.toList = a :: r := by
    cases h : Cal.cutT 32 T.data.toList with
    | nil => exact absurd h (Cal.cutT_ne _ _)
    | cons a r => exact ⟨a, r, rfl⟩
  have hrl : r.length ≤ 1000000 ∧ ∀ z ∈ r, z.length ≤ 1000000 := by
    refine ⟨?_, fun z h => ?_⟩
    · have h1 := Cal.cutT_length 32 T.data.toList
      rw [hz, List.length_cons] at h1
      have h2 := List.count_le_length (a := (32 : UInt8)) (l := T.data.toList)
      rw [hll.out] at h2
      omega
    · have := (Cal.cutT_mem (c := 32) (l := T.data.toList) (x := z) (by rw [hz]; simp [h])).2
      rw [hll.out] at this; omega
  have hzz := Lib.hid hz
  obtain ⟨R, hR⟩ : ∃ R, R = Cal.nLine k s T.data.toList := ⟨_, rfl⟩
  rw [← hR]
  have hR := Lib.hid hR.symm
  clear hz
  go_enter Tryz.func97, Tryz.ntmps97
  go_wp2_with fail
  refine (SplitC_any T _ (hT.out _ (Below.refl _ _)) (by omega)).mono ?_
  rintro e w1 ⟨bz, oz, cz, rfl, hcap, hbz, hrow, hb1⟩
  have hS1 := Lib.hid (hS.out.below hb1)
  have hb := Lib.hid hb1
  have hrow := Lib.hid hrow
  clear hb1
  rw [hzz.out] at hrow hcap ⊢
  obtain ⟨_, _, eA, hbl, za, hza, ta⟩ := txtRows_get (k := 0) hrow.out (by simp)
  cases eA
  have hza' : za.data.toList = a := hza
  have ta : w1.cell? ⟨bz, oz, none⟩ = some (.string za) := ta
  clear hza
  obtain ⟨n1, hn1⟩ : ∃ n1, n1 = r.length := ⟨_, rfl⟩
  have hlen : (a :: r).length = n1 + 1 := by rw [hn1]; rfl
  rw [hlen]
  rw [hlen] at hcap
  by_cases ha : a = Cal.wAct
  · have hq : (za.toList == [97, 99, 116]) = true := by rw [ByteArray.toList_eq, hza', ha]; rfl
    obtain ⟨A2, c2, hdr, hdrow⟩ := txtDrop2 (b := bz) (o := oz) (k := 1) (zs := a :: r) (by rw [hlen]; exact hcap) (by simp)
    have hdrow := Lib.hid (hdrow _ hrow.out)
    rw [hlen] at hdr
    have hdr : ∀ w', (Instr.slice 165 (.slice (some ⟨bz, oz, none⟩) (n1 + 1) cz) (some (.int .i64 1)) none none).run Tryz.prog w' = .ok (.slice A2 n1 c2) w' := by rw [hn1]; rw [hn1] at hdr; exact hdr
    have hline := nLine_act (s := s) (x := T.data.toList) (r := r) hk (by rw [hzz.out, ha]) rfl
    rw [hR.out] at hline
    have hnum := Lib.hid (fun w2 (h1 : TxtT w2) h2 => numbers_any A2 c2 r 3 w2 h1 h2 hrl.1 hrl.2)
    rw [← hn1] at hnum hline
    have hrl := Lib.hid hrl
    clear ha hza' hlen hn1
    generalize (if (n1 : Int) = 3 then Cal.numsF [] r else none) = Q at hnum hline
    rcases hline with ⟨rfl, hfin⟩ | ⟨p, q, t, rfl, hfin⟩
    · have hfin := Lib.hid hfin
      go_wp2_with fail
      refine (hnum.out _ (hT.out _ hb.out) hdrow.out).mono ?_
      rintro e w2 ⟨vl, rfl, hlv, hb2⟩
      have hS2 := Lib.hid (hS1.out.below hb2)
      have hbb := Lib.hid (below_step hb.out hb2)
      clear hb2 hlv ta hq
      go_wp2_with fail
      go_ret
      exact nread_no hfin.out hS2.out hbb.out
    · have hfin := Lib.hid hfin
      go_wp2_with fail
      refine (hnum.out _ (hT.out _ hb.out) hdrow.out).mono ?_
      rintro e w2 ⟨vl, rfl, hlv, hb2⟩
      have hS2 := Lib.hid (hS1.out.below hb2)
      have hbb := Lib.hid (below_step hb.out hb2)
      clear hb2 ta hq
      obtain ⟨Al, cl, rfl, hlr⟩ := IntsL.rows hlv
      obtain ⟨bl, ol, rfl, hbll, hlc⟩ := hlr 0 [.int .i64 p] rfl
      obtain ⟨_, _, eA, _, hlc1⟩ := hlr 1 [.int .i64 q] rfl
      cases eA
      obtain ⟨_, _, eA, _, hlc2⟩ := hlr 2 [.int .i64 t] rfl
      cases eA
      have l0 : w2.cell? ⟨bl, ol, none⟩ = some (.int .i64 p) := hlc 0 _ rfl
      have l1 : w2.cell? ⟨bl, ol + 1, none⟩ = some (.int .i64 q) := hlc1 0 _ rfl
      have l2 : w2.cell? ⟨bl, ol + 2, none⟩ = some (.int .i64 t) := hlc2 0 _ rfl
      have hgl : w1.heap.size ≤ bl := (OwnL.lt hlv bl rfl).1
      have hlt1 := hS1.out.box.lt
      have hbase1 := hS1.out.base
      clear hlr hlc hlc1 hlc2 hlv
      go_wp2_with fail
      have hgB : ∀ g, (Value.slice Av nv cv).ownBlock = some g → B ≤ g ∧ g < w1.heap.size := OwnL.lt hS1.out.own
      have hlw := hS.out.box.lt
      have cS := Lib.hid (fun (w' : World) (h2 : w'.heap[bl]? = w2.heap[bl]?) => (show ((fun w' => w'.cell? ⟨bl, ol, none⟩ = some (.int .i64 p) ∧ w'.cell? ⟨bl, ol + 1, none⟩ = some (.int .i64 q) ∧ w'.cell? ⟨bl, ol + 2, none⟩ = some (.int .i64 t))) w' from ⟨(World.cell?_of_block (a := ⟨bl, ol, none⟩) h2).trans l0, (World.cell?_of_block (a := ⟨bl, ol + 1, none⟩) h2).trans l1, (World.cell?_of_block (a := ⟨bl, ol + 2, none⟩) h2).trans l2⟩))
      have hSd := Lib.hid (hS2.out.below (Below.refl _ _).drew)
      have hSa := Lib.hid ((hS2.out.below (below_alloc w2 (.cells #[.int .i64 p, .int .i64 q, .int .i64 t] 109))).below (Below.refl _ _).drew)
      have hsrc : RowsAt (w2.alloc (.cells #[.int .i64 p, .int .i64 q, .int .i64 t] 109)).drew (some ⟨w2.heap.size, 0, none⟩) 3 ([(⟨p, q, t⟩ : NAct)].map NAct.cells) := rowsAt_new w2 [.int .i64 p, .int .i64 q, .int .i64 t] 109
      have hsrc := Lib.hid hsrc
      have c2 := hSd.out.box.c 2 _ rfl
      have c2a := hSa.out.box.c 2 _ rfl
      clear l0 l1 l2
      refine wp_region_held_drew (S := (fun w' => w'.cell? ⟨bl, ol, none⟩ = some (.int .i64 p) ∧ w'.cell? ⟨bl, ol + 1, none⟩ = some (.int .i64 q) ∧ w'.cell? ⟨bl, ol + 2, none⟩ = some (.int .i64 t))) (by kernel_rfl) (cS.out _ rfl) (fun hHeld => ?_)
      (refine tkH 0 (v := ?_) ?_ ?_; rotate_left; focus (intro w' hSw; (try dsimp only at hSw); go_simp; (try with_reducible rfl)); (try simp only [Act.put, List.setIfInBounds_toArray, List.set_cons_zero, List.set_cons_succ]))
      (refine tkH 1 (v := ?_) ?_ ?_; rotate_left; focus (intro w' hSw; (try dsimp only at hSw); go_simp; (try with_reducible rfl)); (try simp only [Act.put, List.setIfInBounds_toArray, List.set_cons_zero, List.set_cons_succ]))
      (refine tkH 2 (v := ?_) ?_ ?_; rotate_left; focus (intro w' hSw; (try dsimp only at hSw); go_simp; (try with_reducible rfl)); (try simp only [Act.put, List.setIfInBounds_toArray, List.set_cons_zero, List.set_cons_succ]))
      (refine tkH 3 (v := ?_) ?_ ?_; rotate_left; focus (intro w' hSw; (try dsimp only at hSw); go_simp; (try with_reducible rfl)); (try simp only [Act.put, List.setIfInBounds_toArray, List.set_cons_zero, List.set_cons_succ]))
      (refine tkH 5 (v := ?_) ?_ ?_; rotate_left; focus (intro w' hSw; (try dsimp only at hSw); go_simp; (try with_reducible rfl)); (try simp only [Act.put, List.setIfInBounds_toArray, List.set_cons_zero, List.set_cons_succ]))
      (refine tkH 6 (v := ?_) ?_ ?_; rotate_left; focus (intro w' hSw; (try dsimp only at hSw); go_simp; (try with_reducible rfl)); (try simp only [Act.put, List.setIfInBounds_toArray, List.set_cons_zero, List.set_cons_succ]))
      (refine tkH 7 (v := ?_) ?_ ?_; rotate_left; focus (intro w' hSw; (try dsimp only at hSw); go_simp; (try with_reducible rfl)); (try simp only [Act.put, List.setIfInBounds_toArray, List.set_cons_zero, List.set_cons_succ]))
      (refine tkH 8 (v := ?_) ?_ ?_; rotate_left; focus (intro w' hSw; (try dsimp only at hSw); go_simp; (try with_reducible rfl)); (try simp only [Act.put, List.setIfInBounds_toArray, List.set_cons_zero, List.set_cons_succ]))
      (refine tkH 9 (v := ?_) ?_ ?_; rotate_left; focus (intro w' hSw; (try dsimp only at hSw); go_simp; (try with_reducible rfl)); (try simp only [Act.put, List.setIfInBounds_toArray, List.set_cons_zero, List.set_cons_succ]))
      (refine tkH 10 (v := ?_) ?_ ?_; rotate_left; focus (intro w' hSw; (try dsimp only at hSw); go_simp; (try with_reducible rfl)); (try simp only [Act.put, List.setIfInBounds_toArray, List.set_cons_zero, List.set_cons_succ]))
      (refine tkH 11 (v := ?_) ?_ ?_; rotate_left; focus (intro w' hSw; (try dsimp only at hSw); go_simp; (try with_reducible rfl)); (try simp only [Act.put, List.setIfInBounds_toArray, List.set_cons_zero, List.set_cons_succ]))
      (refine tkH 12 (v := ?_) ?_ ?_; rotate_left; focus (intro w' hSw; (try dsimp only at hSw); go_simp; (try with_reducible rfl)); (try simp only [Act.put, List.setIfInBounds_toArray, List.set_cons_zero, List.set_cons_succ]))
      (refine tkH 13 (v := ?_) ?_ ?_; rotate_left; focus (intro w' hSw; (try dsimp only at hSw); go_simp; (try with_reducible rfl)); (try simp only [Act.put, List.setIfInBounds_toArray, List.set_cons_zero, List.set_cons_succ]))
      (refine tkH 14 (v := ?_) ?_ ?_; rotate_left; focus (intro w' hSw; (try dsimp only at hSw); go_simp; (try with_reducible rfl)); (try simp only [Act.put, List.setIfInBounds_toArray, List.set_cons_zero, List.set_cons_succ]))
      (refine wpAnyH_ready (rs := [4, 15]) (by decide +kernel) (by simp) ?_; refine AllReadyH.cons rfl (fun K hK => ?_) (AllReadyH.cons rfl (fun K hK => ?_) AllReadyH.nil))
      · (rw [if_pos (by kernel_rfl)]; go_simp)
        (refine hK.out _ _ (cS.out _ rfl) (fun hHeld => ?_); clear hK K; (try simp only [Act.put]); (try simp only [List.setIfInBounds_toArray]); (try simp only [List.set_cons_zero, List.set_cons_succ]))
        (refine wpAnyH_ready (rs := [15]) (by decide +kernel) (by simp) ?_; refine AllReadyH.cons rfl (fun K hK => ?_) AllReadyH.nil; rw [if_pos (by kernel_rfl)]; go_simp)
        (refine hK.out _ _ (cS.out _ (Below.heap_alloc _ _ _ hbll)) (fun hHeld => ?_); clear hK K; (try simp only [Act.put]); (try simp only [List.setIfInBounds_toArray]); (try simp only [List.set_cons_zero, List.set_cons_succ]))
        refine wpAnyH_ready (rs := [16]) (by decide +kernel) (by simp) ?_
        refine AllReadyH.cons rfl (fun K hK => ?_) AllReadyH.nil
        refine step_append_rows elemAct (by rfl) (.tmp 68) (.tmp 79) (by rfl) (by rfl) (by rfl) hSa.out.own hsrc.out rfl (actCells_wid [⟨p, q, t⟩]) (actCells_one [⟨p, q, t⟩]) (by simp only [List.length_map, List.length_singleton]; omega) (by decide) hSa.out.base ?_
        intro v' w7 hown7 hg7 hob7
        have hne : ∀ b, b < B → some b ≠ (Value.slice Av nv cv).ownBlock := fun b hb e => by have := (hgB b e.symm).1; omega
        have hbl7 : w7.heap[bl]? = w2.heap[bl]? := (hg7.block bl (by show bl < (w2.alloc (.cells #[.int .i64 p, .int .i64 q, .int .i64 t] 109)).heap.size; rw [World.size_alloc]; exact Nat.lt_succ_of_lt hbll) (fun e => by have := (hgB bl e.symm).2; omega)).trans (Below.heap_alloc _ _ _ hbll)
        have h7 := hSa.out.box.grown hg7 (hne _ hSa.out.lt)
        have y0 := h7.c 2 _ rfl
        have y1 := h7.free 2 (by simp)
        obtain ⟨A5, c5, hv5, _⟩ := OwnL.form hown7
        obtain ⟨q5, hq5⟩ : ∃ q5 : Nat, q5 = (s.acts.map NAct.cells ++ [(⟨p, q, t⟩ : NAct)].map NAct.cells).length := ⟨_, rfl⟩
        rw [← hq5] at hv5
        clear hq5
        subst hv5
        have hAll := Lib.hid (And.intro h7 (And.intro hown7 (And.intro hg7 hob7)))
        clear h7 hown7 hg7 hob7
        (refine hK.out _ _ (cS.out _ hbl7) (fun hHeld => ?_); clear hK K; (try simp only [Act.put]); (try simp only [List.setIfInBounds_toArray]); (try simp only [List.set_cons_zero, List.set_cons_succ]))
        (refine tkH 17 (v := ?_) ?_ ?_; rotate_left; focus (intro w' hSw; (try dsimp only at hSw); go_simp; (try with_reducible rfl)); (try simp only [Act.put, List.setIfInBounds_toArray, List.set_cons_zero, List.set_cons_succ]))
        (refine tkH 18 (v := ?_) ?_ ?_; rotate_left; focus (intro w' hSw; (try dsimp only at hSw); go_simp; (try with_reducible rfl)); (try simp only [Act.put, List.setIfInBounds_toArray, List.set_cons_zero, List.set_cons_succ]))
        (refine wpAnyH_ready (rs := [19]) (by decide +kernel) (by simp) ?_; refine AllReadyH.cons rfl (fun K hK => ?_) AllReadyH.nil; rw [if_pos (by kernel_rfl)]; go_simp)
        (refine hK.out _ _ (cS.out _ ((Below.heap_setCell _ ⟨Bn, 2, none⟩ _ bl (by show bl ≠ Bn; omega)).trans hbl7)) (fun hHeld => ?_); clear hK K; (try simp only [Act.put]); (try simp only [List.setIfInBounds_toArray]); (try simp only [List.set_cons_zero, List.set_cons_succ]))
        refine wpAnyH_done (by kernel_rfl) ?_ _
        clear hHeld c2 c2a y0 y1 cS
        go_wp2_with fail
        go_ret
        rw [hfin.out]
        obtain ⟨x1, x2, x3, x4⟩ := hAll.out
        refine ⟨.slice A5 q5 c5, rfl, ⟨x1.set 2 _ (by simp), ?_, ?_, hS.out.lt⟩, ?_, ?_⟩
        · show OwnL _ _ _ _ _ ((s.acts ++ [(⟨p, q, t⟩ : NAct)]).map NAct.cells)
          rw [List.map_append]
          exact x2.offF 2 _ hS.out.lt
        · rw [World.size_setCell]; exact Nat.le_trans hSa.out.base x3.size
        · have hz2 : (w2.alloc (.cells #[.int .i64 p, .int .i64 q, .int .i64 t] 109)).drew.heap.size = w2.heap.size + 1 := World.size_alloc _ _
          have hg0 := x3.size
          have hbz2 := hbb.out.size
          exact ⟨x3.os.trans hbb.out.os, x3.tape.trans hbb.out.tape, x3.output.trans hbb.out.output, by rw [World.size_setCell]; omega, fun i hi hn1 hn2 => ((Below.heap_setCell _ ⟨Bn, 2, none⟩ _ i hn1).trans (x3.block i (by omega) hn2)).trans ((Below.heap_alloc w2 _ i (by omega)).trans (hbb.out.block i hi))⟩
        · rcases x4 with h | h
          · exact .inl h
          · exact .inr ⟨_, h, by have hz2 : (w2.alloc (.cells #[.int .i64 p, .int .i64 q, .int .i64 t] 109)).drew.heap.size = w2.heap.size + 1 := World.size_alloc _ _
                                 have hbz2 := hbb.out.size
                                 omega⟩
      · (rw [if_pos (by kernel_rfl)]; go_simp)
        (refine hK.out _ _ (cS.out _ (Below.heap_alloc _ _ _ hbll)) (fun hHeld => ?_); clear hK K; (try simp only [Act.put]); (try simp only [List.setIfInBounds_toArray]); (try simp only [List.set_cons_zero, List.set_cons_succ]))
        (refine wpAnyH_ready (rs := [4]) (by decide +kernel) (by simp) ?_; refine AllReadyH.cons rfl (fun K hK => ?_) AllReadyH.nil; rw [if_pos (by kernel_rfl)]; go_simp)
        (refine hK.out _ _ (cS.out _ (Below.heap_alloc _ _ _ hbll)) (fun hHeld => ?_); clear hK K; (try simp only [Act.put]); (try simp only [List.setIfInBounds_toArray]); (try simp only [List.set_cons_zero, List.set_cons_succ]))
        refine wpAnyH_ready (rs := [16]) (by decide +kernel) (by simp) ?_
        refine AllReadyH.cons rfl (fun K hK => ?_) AllReadyH.nil
        refine step_append_rows elemAct (by rfl) (.tmp 68) (.tmp 79) (by rfl) (by rfl) (by rfl) hSa.out.own hsrc.out rfl (actCells_wid [⟨p, q, t⟩]) (actCells_one [⟨p, q, t⟩]) (by simp only [List.length_map, List.length_singleton]; omega) (by decide) hSa.out.base ?_
        intro v' w7 hown7 hg7 hob7
        have hne : ∀ b, b < B → some b ≠ (Value.slice Av nv cv).ownBlock := fun b hb e => by have := (hgB b e.symm).1; omega
        have hbl7 : w7.heap[bl]? = w2.heap[bl]? := (hg7.block bl (by show bl < (w2.alloc (.cells #[.int .i64 p, .int .i64 q, .int .i64 t] 109)).heap.size; rw [World.size_alloc]; exact Nat.lt_succ_of_lt hbll) (fun e => by have := (hgB bl e.symm).2; omega)).trans (Below.heap_alloc _ _ _ hbll)
        have h7 := hSa.out.box.grown hg7 (hne _ hSa.out.lt)
        have y0 := h7.c 2 _ rfl
        have y1 := h7.free 2 (by simp)
        obtain ⟨A5, c5, hv5, _⟩ := OwnL.form hown7
        obtain ⟨q5, hq5⟩ : ∃ q5 : Nat, q5 = (s.acts.map NAct.cells ++ [(⟨p, q, t⟩ : NAct)].map NAct.cells).length := ⟨_, rfl⟩
        rw [← hq5] at hv5
        clear hq5
        subst hv5
        have hAll := Lib.hid (And.intro h7 (And.intro hown7 (And.intro hg7 hob7)))
        clear h7 hown7 hg7 hob7
        (refine hK.out _ _ (cS.out _ hbl7) (fun hHeld => ?_); clear hK K; (try simp only [Act.put]); (try simp only [List.setIfInBounds_toArray]); (try simp only [List.set_cons_zero, List.set_cons_succ]))
        (refine tkH 17 (v := ?_) ?_ ?_; rotate_left; focus (intro w' hSw; (try dsimp only at hSw); go_simp; (try with_reducible rfl)); (try simp only [Act.put, List.setIfInBounds_toArray, List.set_cons_zero, List.set_cons_succ]))
        (refine tkH 18 (v := ?_) ?_ ?_; rotate_left; focus (intro w' hSw; (try dsimp only at hSw); go_simp; (try with_reducible rfl)); (try simp only [Act.put, List.setIfInBounds_toArray, List.set_cons_zero, List.set_cons_succ]))
        (refine wpAnyH_ready (rs := [19]) (by decide +kernel) (by simp) ?_; refine AllReadyH.cons rfl (fun K hK => ?_) AllReadyH.nil; rw [if_pos (by kernel_rfl)]; go_simp)
        (refine hK.out _ _ (cS.out _ ((Below.heap_setCell _ ⟨Bn, 2, none⟩ _ bl (by show bl ≠ Bn; omega)).trans hbl7)) (fun hHeld => ?_); clear hK K; (try simp only [Act.put]); (try simp only [List.setIfInBounds_toArray]); (try simp only [List.set_cons_zero, List.set_cons_succ]))
        refine wpAnyH_done (by kernel_rfl) ?_ _
        clear hHeld c2 c2a y0 y1 cS
        go_wp2_with fail
        go_ret
        rw [hfin.out]
        obtain ⟨x1, x2, x3, x4⟩ := hAll.out
        refine ⟨.slice A5 q5 c5, rfl, ⟨x1.set 2 _ (by simp), ?_, ?_, hS.out.lt⟩, ?_, ?_⟩
        · show OwnL _ _ _ _ _ ((s.acts ++ [(⟨p, q, t⟩ : NAct)]).map NAct.cells)
          rw [List.map_append]
          exact x2.offF 2 _ hS.out.lt
        · rw [World.size_setCell]; exact Nat.le_trans hSa.out.base x3.size
        · have hz2 : (w2.alloc (.cells #[.int .i64 p, .int .i64 q, .int .i64 t] 109)).drew.heap.size = w2.heap.size + 1 := World.size_alloc _ _
          have hg0 := x3.size
          have hbz2 := hbb.out.size
          exact ⟨x3.os.trans hbb.out.os, x3.tape.trans hbb.out.tape, x3.output.trans hbb.out.output, by rw [World.size_setCell]; omega, fun i hi hn1 hn2 => ((Below.heap_setCell _ ⟨Bn, 2, none⟩ _ i hn1).trans (x3.block i (by omega) hn2)).trans ((Below.heap_alloc w2 _ i (by omega)).trans (hbb.out.block i hi))⟩
        · rcases x4 with h | h
          · exact .inl h
          · exact .inr ⟨_, h, by have hz2 : (w2.alloc (.cells #[.int .i64 p, .int .i64 q, .int .i64 t] 109)).drew.heap.size = w2.heap.size + 1 := World.size_alloc _ _
                                 have hbz2 := hbb.out.size
                                 omega⟩
  · have hfin : Hid (R = none) := by show _ = _; rw [← hR.out]; exact nLine_other hk hzz.out ha
    have hq : (za.toList == [97, 99, 116]) = false := by
      rw [ByteArray.toList_eq, hza', beq_eq_false_iff_ne]; exact ha
    clear ha hza' hlen hn1
    go_wp2_with fail
    go_ret
    exact nread_no hfin.out hS1.out hb.out
end Go.Proofs.YtbegbajlagcbdaaGreatDoor
