/- Chapter 8 and what it rests on: definitions and walks, part 47. -/
import Derived.Test.YtbinoelbjlgjkaaGreatDoorC46
import Derived.Test.YtbinoelbjlgjkaaGreatDoorC09
import Derived.Test.YtbinoelbjlgjkaaGreatDoorC21
namespace Go.Proofs.YtbinoelbjlgjkaaGreatDoor
open Go Go.RowKit
theorem txtRows_at {w : World} {A : Option Addr} {zs : List Cal.Txt} (h : RowsAt w A 1 (txtRows zs)) {k : Nat} (hk : k < zs.length) : ∃ b o, A = some ⟨b, o, none⟩ ∧ b < w.heap.size ∧ ∃ zb : ByteArray, zb.toList = zs[k] ∧ w.cell? ⟨b, o + k, none⟩ = some (.string zb) := by
  obtain ⟨b, o, hA, hb, hc⟩ := h k [encStr zs[k]] (by simp [txtRows, List.getElem?_eq_getElem hk])
  have := hc 0 _ rfl
  simp only [Nat.mul_one, Nat.add_zero] at this
  exact ⟨b, o, hA, hb, ⟨zs[k].toArray⟩, by rw [ByteArray.toList_eq], this⟩
def missT (zs : List Cal.Txt) (d : Cal.Txt) (k : Nat) : Prop := ∀ (j : Nat) z, j < k → zs[j]? = some z → z ≠ d
theorem HasText_any (A : Option Addr) (c : Nat) (zs : List Cal.Txt) (d : ByteArray) (w : World) (h : RowsAt w A 1 (txtRows zs)) (hs : zs.length ≤ 1000000) :
    Calls Tryz.prog 78 #[.slice A zs.length c, .string d] w fun e w' => e = .returned (.bool (decide (d.toList ∈ zs))) ∧ w = w' := by
  have h' := Lib.hid h
  have h0 : Hid (missT zs d.toList 0) := fun j z h _ => by omega
  clear h
  go_enter Tryz.func78, Tryz.ntmps78
  go_wp2
  go_loop [5] (fun i => ∃ k : Nat, k ≤ zs.length ∧ i = .int .i64 k ∧ Hid (missT zs d.toList k)) (fun i => zs.length - (intOf i).toNat)
  case atStart => exact ⟨0, Nat.zero_le _, rfl, h0⟩
  case round =>
    obtain ⟨k, hk, rfl, hm⟩ := hrel
    clear h0
    by_cases hlt : k < zs.length
    · obtain ⟨b, o, rfl, _, zb, hzb, e1⟩ := txtRows_at h'.out hlt
      have hzk := Lib.hid (List.getElem?_eq_getElem hlt)
      have hmem := Lib.hid (List.getElem_mem hlt)
      rw [← hzb] at hzk hmem
      clear hzb
      by_cases hz : zb.toList = d.toList
      · have hfin : Hid (decide (d.toList ∈ zs) = true) := by show _ = _; rw [decide_eq_true_iff, ← hz]; exact hmem.out
        have hz' : (zb.toList == d.toList) = true := by simpa using hz
        clear hz
        go_wp2
        go_ret
        exact ⟨ret_bool hfin.out.symm, rfl⟩
      · have hz' : (zb.toList == d.toList) = false := by simpa using hz
        have hnx : Hid (missT zs d.toList (k + 1)) := fun j y hj hy => by
          rcases Nat.lt_or_ge j k with h | h
          · exact hm.out j y h hy
          · obtain rfl : j = k := by omega
            rw [hzk.out] at hy; cases hy; exact hz
        clear hz
        go_wp2
        go_round
        case rel => exact ⟨k + 1, by omega, by go_num, hnx⟩
        case measure => simp [intOf]; omega
    · obtain rfl : k = zs.length := by omega
      have hfin : Hid (decide (d.toList ∈ zs) = false) := by
        show _ = _
        rw [decide_eq_false_iff_not]
        intro hc
        obtain ⟨j, hj, he⟩ := List.getElem_of_mem hc
        exact hm.out j _ hj (List.getElem?_eq_getElem hj) he
      go_wp2
      go_ret
      exact ⟨ret_bool hfin.out.symm, rfl⟩
/-! Parts of a slice of texts. -/
theorem RowsAt.takeR {w : World} {A : Option Addr} {m : Nat} {rows : List (List Value)} (h : RowsAt w A m rows) (k : Nat) : RowsAt w A m (rows.take k) := fun j r hr => by
  refine h j r ?_
  rw [List.getElem?_take] at hr
  split at hr
  · exact hr
  · cases hr
theorem RowsAt.dropR {w : World} {A : Option Addr} {m : Nat} {rows : List (List Value)} (h : RowsAt w A m rows) (k : Nat) : RowsAt w (A.map (·.add (k * m))) m (rows.drop k) := fun j r hr => by
  rw [List.getElem?_drop] at hr
  obtain ⟨b, o, hA, hb, hc⟩ := h _ r hr
  refine ⟨b, o + k * m, ?_, hb, fun i v hv => ?_⟩
  · rw [hA, Option.map_some, addr_add]
  · have := hc i v hv
    rw [show o + k * m + (j * m + i) = o + ((k + j) * m + i) by rw [Nat.add_mul]; omega]
    exact this
theorem txtRows_take (zs : List Cal.Txt) (k : Nat) : (txtRows zs).take k = txtRows (zs.take k) := by unfold txtRows; rw [List.map_take]
theorem txtRows_drop (zs : List Cal.Txt) (k : Nat) : (txtRows zs).drop k = txtRows (zs.drop k) := by unfold txtRows; rw [List.map_drop]
theorem sizeTxt (w : World) : (sizeOf (Tryz.prog.elem 41)).run Tryz.prog w = .ok 1 w := by kernel_rfl
theorem undTxts : Tryz.prog.underlying 41 = some (.slice (Tryz.prog.elem 41)) := by kernel_rfl
theorem TextsL.cap {w : World} {B c : Nat} {A : Option Addr} {zs : List Cal.Txt} (h : TextsL w B (.slice A zs.length c) zs) : zs.length ≤ c := by
  rcases h.own.2 with ⟨h1, h2⟩ | ⟨g, cap, cur, hv, _, _, h3, _⟩
  · omega
  · simp only [Value.slice.injEq, true_and] at hv; omega
theorem TextsL.cutHi {w : World} {B c : Nat} {A : Option Addr} {zs : List Cal.Txt} (h : TextsL w B (.slice A zs.length c) zs) {k : Nat} (hk : k ≤ zs.length) :
    ∃ A1 c1, (∀ w', (Instr.slice 41 (.slice A zs.length c) none (some (.int .i64 k)) none).run Tryz.prog w' = .ok (.slice A1 k c1) w') ∧ RowsAt w A1 1 (txtRows (zs.take k)) := by
  obtain ⟨A0, c0, hv, hr⟩ := h.rows
  simp only [Value.slice.injEq] at hv
  obtain ⟨rfl, -, rfl⟩ := hv
  have hcap := h.cap
  have hr1 := hr.takeR k
  rw [txtRows_take] at hr1
  refine ⟨if c = 0 then A else A.map (·.add (0 * 1)), c - 0, fun w' => ?_, ?_⟩
  · rw [run_slice_h w' 41 A zs.length c undTxts .i64 k (by omega) (by omega), sizeTxt]
    simp [Result.andThen, sliced]
  · split
    · exact hr1
    · have := hr1.dropR 0
      rw [List.drop_zero] at this
      exact this
theorem TextsL.cutLo {w : World} {B c : Nat} {A : Option Addr} {zs : List Cal.Txt} (h : TextsL w B (.slice A zs.length c) zs) {k : Nat} (hk : k ≤ zs.length) :
    ∃ A2 c2, (∀ w', (Instr.slice 41 (.slice A zs.length c) (some (.int .i64 k)) none none).run Tryz.prog w' = .ok (.slice A2 (zs.length - k) c2) w') ∧ RowsAt w A2 1 (txtRows (zs.drop k)) := by
  obtain ⟨A0, c0, hv, hr⟩ := h.rows
  simp only [Value.slice.injEq] at hv
  obtain ⟨rfl, -, rfl⟩ := hv
  have hcap := h.cap
  refine ⟨if c = k then A else A.map (·.add (k * 1)), c - k, fun w' => ?_, ?_⟩
  · rw [run_slice_l w' 41 A zs.length c undTxts .i64 k (by omega) (by omega), sizeTxt]
    simp [Result.andThen, sliced]
  · split
    · rename_i hck
      have : zs.drop k = [] := List.drop_eq_nil_of_le (by omega)
      rw [this]
      exact RowsAt.nil _ _ _
    · have := hr.dropR k
      rw [txtRows_drop] at this
      exact this
/-- The names that have been collected of the first k entries. -/
def NmTo (l : List Prov) (holds known : Int) (k : Nat) (zs : List Cal.Txt) : Prop := zs = Cal.tups (Cal.nms l holds known k)
theorem NmTo.skip {l : List Prov} {holds known : Int} {k : Nat} {zs : List Cal.Txt} (h : NmTo l holds known k zs) (hlt : k < l.length) (hk : (Cal.valOf l l[k].name holds known).2 = false) : NmTo l holds known (k + 1) zs := by
  unfold NmTo at h ⊢
  rw [h, Cal.nms_snoc hlt, hk]; simp
theorem NmTo.known {l : List Prov} {holds known : Int} {k : Nat} {zs : List Cal.Txt} (h : NmTo l holds known k zs) (hlt : k < l.length) (hk : (Cal.valOf l l[k].name holds known).2 = true) (hm : l[k].name.toList ∈ zs) : NmTo l holds known (k + 1) zs := by
  rw [ByteArray.toList_eq] at hm
  unfold NmTo at h ⊢
  have hs := Cal.tups_spec (Cal.nms l holds known k)
  rw [← h] at hs
  refine (Cal.tups_eq hs.1 fun d => ?_).symm
  rw [Cal.nms_snoc hlt, hk, if_pos rfl, List.mem_append, List.mem_singleton, hs.2]
  constructor
  · exact .inl
  · rintro (h | rfl)
    · exact h
    · exact (hs.2 _).1 hm
def aboveT (zs : List Cal.Txt) (d : Cal.Txt) (q : Nat) : Prop := ∀ (j : Nat) z, q ≤ j → zs[j]? = some z → d < z
def lowT (zs : List Cal.Txt) (d : Cal.Txt) (q : Nat) : Prop := ∀ z, 0 < q → zs[q - 1]? = some z → z ≤ d
theorem NmTo.put {l : List Prov} {holds known : Int} {k : Nat} {zs : List Cal.Txt} (h : NmTo l holds known k zs) (hlt : k < l.length) (hk : (Cal.valOf l l[k].name holds known).2 = true) (hm : l[k].name.toList ∉ zs) {q : Nat} (hq : q ≤ zs.length) (h1 : aboveT zs l[k].name.toList q) (h2 : lowT zs l[k].name.toList q) : NmTo l holds known (k + 1) (zs.take q ++ [l[k].name.toList] ++ zs.drop q) := by
  unfold NmTo at h ⊢
  have hs := Cal.tups_spec (Cal.nms l holds known k)
  rw [← h] at hs
  refine (Cal.tups_eq (Cal.tins_up hs.1 hm hq h1 h2) fun d => ?_).symm
  rw [Cal.nms_snoc hlt, hk, if_pos rfl, Cal.tins_mem, hs.2, List.mem_append, List.mem_singleton, ByteArray.toList_eq]
  exact Or.comm
theorem NmTo.length {l : List Prov} {holds known : Int} {k : Nat} {zs : List Cal.Txt} (h : NmTo l holds known k zs) : zs.length ≤ k := by
  unfold NmTo at h
  rw [h]
  exact Nat.le_trans (Cal.tups_length _) (Cal.nms_length _ _ _ _)
theorem not_less {a b : Cal.Txt} (h : Op.bytesLess a b = true) : a ≤ b := by rw [bytesLess_eq, decide_eq_true_iff] at h; exact List.le_of_lt h
theorem gtr_of {a b : Cal.Txt} (h1 : Op.bytesLess a b = false) (h2 : (a == b) = false) : b < a := by
  rw [bytesLess_eq, decide_eq_false_iff_not] at h1
  exact Cal.txt_lt_of (List.not_lt.1 h1) (fun e => by rw [e] at h2; simp at h2)
set_option maxRecDepth 100000 in
set_option maxHeartbeats 8000000 in
theorem NamesR_any (A : Option Addr) (c : Nat) (l : List Prov) (holds known : Int) (hlen : l.length ≤ 1000) (w : World) (hl : Provs w A l) :
    Calls Tryz.prog 22 #[.slice A l.length c, .agg #[.int .i64 holds, .int .i64 known]] w (NmPost w (Cal.namesL l holds known)) := by
  have hl' := Lib.hid (fun w1 (h : Below w.heap.size w w1) => hl.below h)
  have hval := Lib.hid (fun nm w1 (h : Below w.heap.size w w1) => Has_any A c l nm holds known w1 (hl.below h))
  have hat0 := Lib.hid (AtCells.new w holds known 25)
  have hba := Lib.hid (below_alloc w (.cells #[.int .i64 holds, .int .i64 known] 25))
  have hst : Hid (TextsL (w.alloc (.cells #[.int .i64 holds, .int .i64 known] 25)) w.heap.size (.slice none 0 0) []) := OwnL.nil _ _ _ _
  have hu0 : Hid (NmTo l holds known 0 []) := by show NmTo _ _ _ _ _; unfold NmTo Cal.nms; simp [Cal.tups_nil]
  clear hl
  go_enter Tryz.func22, Tryz.ntmps22
  go_wp2_with fail
  go_loopw [5, 6] (fun o i wr => ∃ (k : Nat) (zs : List Cal.Txt), k ≤ l.length ∧ i = .int .i64 k ∧ Hid (TextsL wr w.heap.size o zs) ∧ Hid (NmTo l holds known k zs) ∧ Hid (AtCells wr w.heap.size holds known) ∧ Hid (Below w.heap.size w wr)) (fun _ i _ => l.length - (intOf i).toNat)
  case atStart => exact ⟨0, [], Nat.zero_le _, rfl, hst, hu0, hat0, hba⟩
  case round =>
    obtain ⟨k, zs, hk, rfl, hown0, hup, hat0', hb0⟩ := hrel
    clear hst hu0 hat0 hba
    have hbs0 := hat0'.out.lt
    have hzl := hup.out.length
    obtain ⟨A8, c8, rfl, _⟩ := hown0.out.rows
    by_cases hlt : k < l.length
    · have hk' : l[k]? = some l[k] := List.getElem?_eq_getElem hlt
      have hskip := Lib.hid (fun h => hup.out.skip hlt h)
      have hkn := Lib.hid (fun h => hup.out.known hlt h)
      have hput := Lib.hid (fun h => hup.out.put hlt h)
      obtain ⟨b, o, rfl, hbl0, c0, c1, c2, c3, c4⟩ := (hl'.out _ hb0.out).at_ hk'
      have hprov := Lib.hid hk'
      clear hk' c1 c2 c3 c4
      have hv0 := hval.out l[k].name
      generalize l[k] = p at *
      rcases hvq : Cal.valOf l p.name holds known with ⟨vv, vb⟩
      simp only [hvq] at hv0
      rw [hvq] at hskip hkn hput
      have hv0 := Lib.hid hv0
      clear hvq
      have k0 := hat0'.out.c0
      have k1 := hat0'.out.c1
      go_wp2_with fail
      refine wp_region_held_drew (S := (fun w' => w'.cell? ⟨b, o + k * 5, none⟩ = some (.string p.name) ∧ w'.cell? ⟨w.heap.size, 0, none⟩ = some (.int .i64 holds) ∧ w'.cell? ⟨w.heap.size, 1, none⟩ = some (.int .i64 known))) (by kernel_rfl) ⟨c0, k0, k1⟩ (fun hHeld => ?_)
      (refine tkH 0 (v := ?_) ?_ ?_; rotate_left; focus (intro w' hSw; (try dsimp only at hSw); go_simp; (try with_reducible rfl)); (try simp only [Act.put, List.setIfInBounds_toArray, List.set_cons_zero, List.set_cons_succ]))
      (refine tkH 1 (v := ?_) ?_ ?_; rotate_left; focus (intro w' hSw; (try dsimp only at hSw); go_simp; (try with_reducible rfl)); (try simp only [Act.put, List.setIfInBounds_toArray, List.set_cons_zero, List.set_cons_succ]))
      (refine tkH 2 (v := ?_) ?_ ?_; rotate_left; focus (intro w' hSw; (try dsimp only at hSw); go_simp; (try with_reducible rfl)); (try simp only [Act.put, List.setIfInBounds_toArray, List.set_cons_zero, List.set_cons_succ]))
      (refine tkH 3 (v := ?_) ?_ ?_; rotate_left; focus (intro w' hSw; (try dsimp only at hSw); go_simp; (try with_reducible rfl)); (try simp only [Act.put, List.setIfInBounds_toArray, List.set_cons_zero, List.set_cons_succ]))
      (refine tkH 4 (v := ?_) ?_ ?_; rotate_left; focus (intro w' hSw; (try dsimp only at hSw); go_simp; (try with_reducible rfl)); (try simp only [Act.put, List.setIfInBounds_toArray, List.set_cons_zero, List.set_cons_succ]))
      (refine tkH 5 (v := ?_) ?_ ?_; rotate_left; focus (intro w' hSw; (try dsimp only at hSw); go_simp; (try with_reducible rfl)); (try simp only [Act.put, List.setIfInBounds_toArray, List.set_cons_zero, List.set_cons_succ]))
      (refine tkH 6 (v := ?_) ?_ ?_; rotate_left; focus (intro w' hSw; (try dsimp only at hSw); go_simp; (try with_reducible rfl)); (try simp only [Act.put, List.setIfInBounds_toArray, List.set_cons_zero, List.set_cons_succ]))
      (refine wpAnyH_ready (rs := [7]) (by decide +kernel) (by simp) ?_; refine AllReadyH.cons rfl (fun K hK => ?_) AllReadyH.nil; rw [if_pos (by kernel_rfl)]; go_simp)
      refine (hv0.out _ (below_drewN hb0.out 1)).mono ?_
      rintro e wo ⟨rfl, hbn⟩
      have hbn := below_of_drewN (n := 1) hbn
      have hown := Lib.hid (hown0.out.below hbn)
      have hat := Lib.hid (hat0'.out.below hbn)
      have hb := Lib.hid (below_step hb0.out hbn)
      obtain ⟨b', o', hA', hbl, c0', _, _, _, _⟩ := (hl'.out _ hb.out).at_ hprov.out
      simp only [Option.some.injEq, Addr.mk.injEq, and_true] at hA'
      obtain ⟨rfl, rfl⟩ := hA'
      clear hbn c0 k0 k1 hHeld hv0 hown0 hat0' hb0 hbl0 hbs0
      have c0 := c0'
      clear c0'
      have k0 := hat.out.c0
      have k1 := hat.out.c1
      go_simp
      (refine hK.out _ _ ⟨c0, k0, k1⟩ (fun hHeld => ?_); clear hK K; (try simp only [Act.put, List.setIfInBounds_toArray]); (try simp only [List.set_cons_zero, List.set_cons_succ]))
      (refine tkH 8 (v := ?_) ?_ ?_; rotate_left; focus (intro w' hSw; (try dsimp only at hSw); go_simp; (try with_reducible rfl)); (try simp only [Act.put, List.setIfInBounds_toArray, List.set_cons_zero, List.set_cons_succ]))
      (refine tkH 9 (v := ?_) ?_ ?_; rotate_left; focus (intro w' hSw; (try dsimp only at hSw); go_simp; (try with_reducible rfl)); (try simp only [Act.put, List.setIfInBounds_toArray, List.set_cons_zero, List.set_cons_succ]))
      (refine tkH 10 (v := ?_) ?_ ?_; rotate_left; focus (intro w' hSw; (try dsimp only at hSw); go_simp; (try with_reducible rfl)); (try simp only [Act.put, List.setIfInBounds_toArray, List.set_cons_zero, List.set_cons_succ]))
      (refine tkH 11 (v := ?_) ?_ ?_; rotate_left; focus (intro w' hSw; (try dsimp only at hSw); go_simp; (try with_reducible rfl)); (try simp only [Act.put, List.setIfInBounds_toArray, List.set_cons_zero, List.set_cons_succ]))
      (refine tkH 12 (v := ?_) ?_ ?_; rotate_left; focus (intro w' hSw; (try dsimp only at hSw); go_simp; (try with_reducible rfl)); (try simp only [Act.put, List.setIfInBounds_toArray, List.set_cons_zero, List.set_cons_succ]))
      refine wpAnyH_done (by kernel_rfl) ?_ _
      clear hHeld k0 k1
      have hbs := hat.out.lt
      cases vb
      · have hnx : Hid (NmTo l holds known (k + 1) zs) := hskip.out rfl
        go_wp2_with fail
        go_roundw
        case rel => exact ⟨k + 1, zs, by omega, by go_num, hown, hnx, hat, hb⟩
        case measure => simp [intOf]; omega
      · obtain ⟨A9, c9, hv9, hr9⟩ := hown.out.rows
        simp only [Value.slice.injEq, true_and] at hv9
        obtain ⟨rfl, rfl⟩ := hv9
        have hr8 := Lib.hid hr9
        clear hr9
        have hhas := HasText_any A8 c8 zs p.name wo hr8.out (by omega)
        by_cases hh : p.name.toList ∈ zs
        · have hnx : Hid (NmTo l holds known (k + 1) zs) := hkn.out rfl hh
          rw [decide_eq_true hh] at hhas
          have hhas := Lib.hid hhas
          clear hh
          go_wp2_with fail
          refine hhas.out.mono ?_
          rintro e w' ⟨rfl, rfl⟩
          go_wp2_with fail
          go_roundw
          case rel => exact ⟨k + 1, zs, by omega, by go_num, hown, hnx, hat, hb⟩
          case measure => simp [intOf]; omega
        · have hnx : Hid (∀ q, q ≤ zs.length → aboveT zs p.name.toList q → lowT zs p.name.toList q → NmTo l holds known (k + 1) (zs.take q ++ [p.name.toList] ++ zs.drop q)) := fun q h1 h2 h3 => hput.out rfl hh h1 h2 h3
          rw [decide_eq_false hh] at hhas
          have hhas := Lib.hid hhas
          have hA0 : Hid (aboveT zs p.name.toList zs.length) := fun j z hj hz => by
            have := (List.getElem?_eq_some_iff.1 hz).1
            omega
          have hwid1 : ∀ r ∈ [[Value.string p.name]], r.length = 1 := fun r hr => by rw [List.mem_singleton] at hr; subst hr; rfl
          have hone1 : ∀ r ∈ [[Value.string p.name]], ∀ u ∈ r, u.oneCell' = true := fun r hr u hu => by rw [List.mem_singleton] at hr; subst hr; rw [List.mem_singleton] at hu; subst hu; rfl
          clear hh hskip hkn hput
          go_wp2_with fail
          refine hhas.out.mono ?_
          rintro e w' ⟨rfl, rfl⟩
          clear hhas
          go_wp2_with fail
          go_loopw [9] (fun i wr => ∃ (q n : Nat), q ≤ zs.length ∧ i = .int .i64 q ∧ Hid (aboveT zs p.name.toList q) ∧ wr = wo.drewN n) (fun i _ => (intOf i).toNat)
          case atStart => exact ⟨zs.length, 0, Nat.le_refl _, rfl, hA0, rfl⟩
          case round =>
            obtain ⟨q, n, hq, rfl, habove, rfl⟩ := hrel
            clear hA0
            by_cases hq0 : q = 0
            · have hlow : Hid (lowT zs p.name.toList q) := fun z h _ => by omega
              have hgz : decide ((0 : Int) < (q : Int)) = false := by simp; omega
              have hgz2 : decide (0 < q) = false := by simp; omega
              have hq00 : q ≤ 0 := by omega
              clear hq0
              go_wp2_with fail
              go_quiet (fail)
              go_wp2_with fail
              obtain ⟨W, hW⟩ : ∃ W, W = (wo.drewN n).drewN nq := ⟨_, rfl⟩
              rw [← hW]
              have hWb : Below wo.heap.size wo W := by rw [hW]; exact below_drewN (below_drewN (Below.refl _ _) _) _
              have hbw := Lib.hid (below_step hb.out hWb)
              have hat5 := Lib.hid (hat.out.below hWb)
              have hIW := hown.out.below hWb
              obtain ⟨A1, c1, hrun1, hR1⟩ := hIW.cutHi hq
              obtain ⟨A2, c2', hrun2, hR2⟩ := hIW.cutLo hq
              have hr1 := Lib.hid (fun w' (h : Below W.heap.size W w') => hR1.below h)
              have hr2 := Lib.hid (fun w' (h : Below W.heap.size W w') => hR2.below h)
              have c2W : W.cell? ⟨b, o + k * 5, none⟩ = some (.string p.name) := (hWb.cell (p := ⟨b, o + k * 5, none⟩) hbl).trans c0
              have cS : ∀ w', Below W.heap.size W w' → w'.cell? ⟨b, o + k * 5, none⟩ = some (.string p.name) := fun w' h => (h.cell (p := ⟨b, o + k * 5, none⟩) (Nat.lt_of_lt_of_le hbl hWb.size)).trans c2W
              have hkl : (k : Int) < (l.length : Int) := by omega
              have hk0 : (0 : Int) ≤ (k : Int) := by omega
              have hq0' : (0 : Int) ≤ (q : Int) := by omega
              have hql : (q : Int) ≤ (zs.length : Int) := by omega
              clear hW hWb hR1 hR2 c0 hIW
              have c2 := c2W
              clear c2W
              have o1 : OwnL (W.alloc (.cells #[] 9)).drew W.heap.size 9 1 (.slice (some ⟨W.heap.size, 0, none⟩) 0 0) [] := (OwnL.made W W.heap.size _ 1 (Nat.le_refl _)).below (below_drewN (Below.refl _ _) 1)
              have o2 : OwnL ((W.alloc (.cells #[] 9)).alloc (.cells #[.string p.name] 9)).drew W.heap.size 9 1 (.slice (some ⟨W.heap.size, 0, none⟩) 0 0) [] := (OwnL.made W W.heap.size _ 1 (Nat.le_refl _)).below (below_drewN (below_alloc _ _) 1)
              have o3 : OwnL ((W.alloc (.cells #[.string p.name] 9)).alloc (.cells #[] 9)).drew W.heap.size 9 1 (.slice (some ⟨W.heap.size + 1, 0, none⟩) 0 0) [] := by
                have h := (OwnL.made (W.alloc (.cells #[.string p.name] 9)) W.heap.size 9 1 (by simp)).below (below_drewN (Below.refl _ _) 1)
                simp only [World.size_alloc] at h
                exact h
              go_region_held3 (fun w' => w'.cell? ⟨b, o + k * 5, none⟩ = some (.string p.name)) (first | exact c2 | exact cS _ (below_alloc _ _) | exact cS _ (below_step (below_alloc _ _) (below_alloc _ _)) | exact cS _ (below_drewN (Below.refl _ _) 1) | exact cS _ (below_drewN (below_alloc _ _) 1) | exact cS _ (below_drewN (below_step (below_alloc _ _) (below_alloc _ _)) 1) | exact cS _ hb12 | exact cS _ (below_step hb12 (below_alloc _ _)) | exact cS _ hb13 | exact cS _ hb14 | fail) (first
                | (refine step_append_rows elemTxt (by rfl) (.tmp 57) (.tmp 60) (by rfl) (by rfl) (by rfl) (o1) (hr1.out _ (below_drewN (below_alloc _ _) 1)) (by simp only [txtRows_length, List.length_take]; omega) (txtRows_wid _) (txtRows_one _) (by simp only [txtRows_length, List.length_take, List.length_nil]; omega) (by decide) (by first | (simp; done) | (simp; omega)) ?_; intro v' w2 hown hg2 hob2; have hb12 : Below W.heap.size W w2 := (below_drewN (below_alloc _ _) 1).trans (grown_below hg2 (fun g e => by cases e; exact Nat.le_refl _) (by simp)))
                | (refine step_append_rows elemTxt (by rfl) (.tmp 57) (.tmp 60) (by rfl) (by rfl) (by rfl) (o2) (hr1.out _ (below_drewN (below_step (below_alloc _ _) (below_alloc _ _)) 1)) (by simp only [txtRows_length, List.length_take]; omega) (txtRows_wid _) (txtRows_one _) (by simp only [txtRows_length, List.length_take, List.length_nil]; omega) (by decide) (by first | (simp; done) | (simp; omega)) ?_; intro v' w2 hown hg2 hob2; have hb12 : Below W.heap.size W w2 := (below_drewN (below_step (below_alloc _ _) (below_alloc _ _)) 1).trans (grown_below hg2 (fun g e => by cases e; exact Nat.le_refl _) (by simp; omega)); have hsrc : RowsAt w2 (some ⟨W.heap.size + 1, 0, none⟩) 1 [[.string p.name]] := RowsAt.far' (by have h := rowsAt_new (W.alloc (.cells #[] 9)) [.string p.name] 9; simp only [World.size_alloc] at h; exact h) hg2 (fun a e => by cases e; simp [Value.ownBlock]))
                | (refine step_append_rows elemTxt (by rfl) (.tmp 57) (.tmp 60) (by rfl) (by rfl) (by rfl) (o3) (hr1.out _ (below_drewN (below_step (below_alloc _ _) (below_alloc _ _)) 1)) (by simp only [txtRows_length, List.length_take]; omega) (txtRows_wid _) (txtRows_one _) (by simp only [txtRows_length, List.length_take, List.length_nil]; omega) (by decide) (by first | (simp; done) | (simp; omega)) ?_; intro v' w2 hown hg2 hob2; have hb12 : Below W.heap.size W w2 := (below_drewN (below_step (below_alloc _ _) (below_alloc _ _)) 1).trans (grown_below hg2 (fun g e => by cases e; exact Nat.le_succ _) (by simp; omega)); have hsrc : RowsAt w2 (some ⟨W.heap.size, 0, none⟩) 1 [[.string p.name]] := RowsAt.far' (by exact (rowsAt_new W [.string p.name] 9).below (below_drewN (below_alloc _ (.cells #[] 9)) 1)) hg2 (fun a e => by cases e; simp [Value.ownBlock]))
                | (refine step_append_rows elemTxt (by rfl) (.tmp 61) (.tmp 67) (by rfl) (by rfl) (by rfl) hown hsrc rfl hwid1 hone1 (by simp only [txtRows_length, List.length_take, List.length_nil, List.length_append, List.length_singleton]; omega) (by decide) hb12.size ?_; intro v'' w3 hown3 hg3 hob3; have hb13 : Below W.heap.size W w3 := hb12.trans (grown_below hg3 (fun g e => (hown.lt g e).1) hb12.size))
                | (refine step_append_rows elemTxt (by rfl) (.tmp 61) (.tmp 67) (by rfl) (by rfl) (by rfl) (hown.below (below_alloc _ _)) (rowsAt_new _ [.string p.name] _) rfl hwid1 hone1 (by simp only [txtRows_length, List.length_take, List.length_nil, List.length_append, List.length_singleton]; omega) (by decide) (by have := hb12.size; simp; omega) ?_; intro v'' w3 hown3 hg3 hob3; have hb13 : Below W.heap.size W w3 := (hb12.alloc hb12.size _).trans (grown_below hg3 (fun g e => (hown.lt g e).1) (by have := hb12.size; simp; omega)))
                | (refine step_append_rows elemTxt (by rfl) (.tmp 68) (.tmp 71) (by rfl) (by rfl) (by rfl) hown3 (hr2.out _ hb13) (by simp only [txtRows_length, List.length_drop]) (txtRows_wid _) (txtRows_one _) (by simp only [txtRows_length, List.length_take, List.length_drop, List.length_nil, List.length_append, List.length_singleton]; omega) (by decide) hb13.size ?_; intro v4 w4 hown4 hg4 hob4; have hb14 : Below W.heap.size W w4 := hb13.trans (grown_below hg4 (fun g e => (hown3.lt g e).1) hb13.size))
                | fail)
              all_goals
                have hI4 : Hid (TextsL w4 w.heap.size v4 (zs.take q ++ [p.name.toList] ++ zs.drop q)) := by
                  have h := hown4.less hbw.out.size
                  show OwnL _ _ _ _ _ _
                  have e : txtRows (zs.take q ++ [p.name.toList] ++ zs.drop q) = [] ++ txtRows (zs.take q) ++ [[.string p.name]] ++ txtRows (zs.drop q) := by unfold txtRows; simp [ByteArray.toList_eq]
                  rw [e]; exact h
                have hbw4 := Lib.hid (below_step hbw.out hb14)
                have hat6 := Lib.hid (hat5.out.below hb14)
                clear o1 o2 o3 hown hown3 hown4 hg2 hg3 hg4 hob2 hob3 hob4 hb12 hb13 hb14
                go_wp2_with fail
                go_roundw
                case rel => exact ⟨k + 1, _, by omega, by go_num, hI4, hnx.out q hq habove.out hlow.out, hat6, hbw4⟩
                case measure => simp [intOf]; omega
            · have hqp : 0 < q := by omega
              have hq1 : q - 1 < zs.length := by omega
              obtain ⟨b2, o2, rfl, _, zb, hzb, e1⟩ := txtRows_at hr8.out hq1
              have hix : ((q : Int) - 1).toNat = q - 1 := by omega
              have hz9 := Lib.hid (List.getElem?_eq_getElem hq1)
              rw [← hzb] at hz9
              clear hzb
              have hstop : zb.toList ≤ p.name.toList → Hid (lowT zs p.name.toList q) := fun h y _ hy => by
                rw [hz9.out] at hy; cases hy; exact h
              have hgo : p.name.toList < zb.toList → Hid (aboveT zs p.name.toList (q - 1)) := fun h j y hj hy => by
                rcases Nat.lt_or_ge (q - 1) j with h' | h'
                · exact habove.out j y (by omega) hy
                · obtain rfl : j = q - 1 := by omega
                  rw [hz9.out] at hy; cases hy; exact h
              cases hl1 : Op.bytesLess zb.toList p.name.toList
              · cases hl2 : zb.toList == p.name.toList
                · have hnx2 := hgo (gtr_of hl1 hl2)
                  clear hq0 hstop hgo
                  go_wp2_with fail
                  go_quiet (fail)
                  go_wp2_with fail
                  go_roundw
                  case rel => exact ⟨q - 1, _, by omega, by go_num, hnx2, rfl⟩
                  case measure => simp [intOf]; omega
                · have hlow := hstop (by rw [eq_of_beq hl2]; exact List.le_refl _)
                  clear hq0 hstop hgo
                  go_wp2_with fail
                  go_quiet (fail)
                  go_wp2_with fail
                  clear e1 hix hz9 hl1 hl2
                  obtain ⟨W, hW⟩ : ∃ W, W = (wo.drewN n).drewN nq := ⟨_, rfl⟩
                  rw [← hW]
                  have hWb : Below wo.heap.size wo W := by rw [hW]; exact below_drewN (below_drewN (Below.refl _ _) _) _
                  have hbw := Lib.hid (below_step hb.out hWb)
                  have hat5 := Lib.hid (hat.out.below hWb)
                  have hIW := hown.out.below hWb
                  obtain ⟨A1, c1, hrun1, hR1⟩ := hIW.cutHi hq
                  obtain ⟨A2, c2', hrun2, hR2⟩ := hIW.cutLo hq
                  have hr1 := Lib.hid (fun w' (h : Below W.heap.size W w') => hR1.below h)
                  have hr2 := Lib.hid (fun w' (h : Below W.heap.size W w') => hR2.below h)
                  have c2W : W.cell? ⟨b, o + k * 5, none⟩ = some (.string p.name) := (hWb.cell (p := ⟨b, o + k * 5, none⟩) hbl).trans c0
                  have cS : ∀ w', Below W.heap.size W w' → w'.cell? ⟨b, o + k * 5, none⟩ = some (.string p.name) := fun w' h => (h.cell (p := ⟨b, o + k * 5, none⟩) (Nat.lt_of_lt_of_le hbl hWb.size)).trans c2W
                  have hkl : (k : Int) < (l.length : Int) := by omega
                  have hk0 : (0 : Int) ≤ (k : Int) := by omega
                  have hq0' : (0 : Int) ≤ (q : Int) := by omega
                  have hql : (q : Int) ≤ (zs.length : Int) := by omega
                  clear hW hWb hR1 hR2 c0 hIW
                  have c2 := c2W
                  clear c2W
                  have o1 : OwnL (W.alloc (.cells #[] 9)).drew W.heap.size 9 1 (.slice (some ⟨W.heap.size, 0, none⟩) 0 0) [] := (OwnL.made W W.heap.size _ 1 (Nat.le_refl _)).below (below_drewN (Below.refl _ _) 1)
                  have o2 : OwnL ((W.alloc (.cells #[] 9)).alloc (.cells #[.string p.name] 9)).drew W.heap.size 9 1 (.slice (some ⟨W.heap.size, 0, none⟩) 0 0) [] := (OwnL.made W W.heap.size _ 1 (Nat.le_refl _)).below (below_drewN (below_alloc _ _) 1)
                  have o3 : OwnL ((W.alloc (.cells #[.string p.name] 9)).alloc (.cells #[] 9)).drew W.heap.size 9 1 (.slice (some ⟨W.heap.size + 1, 0, none⟩) 0 0) [] := by
                    have h := (OwnL.made (W.alloc (.cells #[.string p.name] 9)) W.heap.size 9 1 (by simp)).below (below_drewN (Below.refl _ _) 1)
                    simp only [World.size_alloc] at h
                    exact h
                  go_region_held3 (fun w' => w'.cell? ⟨b, o + k * 5, none⟩ = some (.string p.name)) (first | exact c2 | exact cS _ (below_alloc _ _) | exact cS _ (below_step (below_alloc _ _) (below_alloc _ _)) | exact cS _ (below_drewN (Below.refl _ _) 1) | exact cS _ (below_drewN (below_alloc _ _) 1) | exact cS _ (below_drewN (below_step (below_alloc _ _) (below_alloc _ _)) 1) | exact cS _ hb12 | exact cS _ (below_step hb12 (below_alloc _ _)) | exact cS _ hb13 | exact cS _ hb14 | fail) (first
                    | (refine step_append_rows elemTxt (by rfl) (.tmp 57) (.tmp 60) (by rfl) (by rfl) (by rfl) (o1) (hr1.out _ (below_drewN (below_alloc _ _) 1)) (by simp only [txtRows_length, List.length_take]; omega) (txtRows_wid _) (txtRows_one _) (by simp only [txtRows_length, List.length_take, List.length_nil]; omega) (by decide) (by first | (simp; done) | (simp; omega)) ?_; intro v' w2 hown hg2 hob2; have hb12 : Below W.heap.size W w2 := (below_drewN (below_alloc _ _) 1).trans (grown_below hg2 (fun g e => by cases e; exact Nat.le_refl _) (by simp)))
                    | (refine step_append_rows elemTxt (by rfl) (.tmp 57) (.tmp 60) (by rfl) (by rfl) (by rfl) (o2) (hr1.out _ (below_drewN (below_step (below_alloc _ _) (below_alloc _ _)) 1)) (by simp only [txtRows_length, List.length_take]; omega) (txtRows_wid _) (txtRows_one _) (by simp only [txtRows_length, List.length_take, List.length_nil]; omega) (by decide) (by first | (simp; done) | (simp; omega)) ?_; intro v' w2 hown hg2 hob2; have hb12 : Below W.heap.size W w2 := (below_drewN (below_step (below_alloc _ _) (below_alloc _ _)) 1).trans (grown_below hg2 (fun g e => by cases e; exact Nat.le_refl _) (by simp; omega)); have hsrc : RowsAt w2 (some ⟨W.heap.size + 1, 0, none⟩) 1 [[.string p.name]] := RowsAt.far' (by have h := rowsAt_new (W.alloc (.cells #[] 9)) [.string p.name] 9; simp only [World.size_alloc] at h; exact h) hg2 (fun a e => by cases e; simp [Value.ownBlock]))
                    | (refine step_append_rows elemTxt (by rfl) (.tmp 57) (.tmp 60) (by rfl) (by rfl) (by rfl) (o3) (hr1.out _ (below_drewN (below_step (below_alloc _ _) (below_alloc _ _)) 1)) (by simp only [txtRows_length, List.length_take]; omega) (txtRows_wid _) (txtRows_one _) (by simp only [txtRows_length, List.length_take, List.length_nil]; omega) (by decide) (by first | (simp; done) | (simp; omega)) ?_; intro v' w2 hown hg2 hob2; have hb12 : Below W.heap.size W w2 := (below_drewN (below_step (below_alloc _ _) (below_alloc _ _)) 1).trans (grown_below hg2 (fun g e => by cases e; exact Nat.le_succ _) (by simp; omega)); have hsrc : RowsAt w2 (some ⟨W.heap.size, 0, none⟩) 1 [[.string p.name]] := RowsAt.far' (by exact (rowsAt_new W [.string p.name] 9).below (below_drewN (below_alloc _ (.cells #[] 9)) 1)) hg2 (fun a e => by cases e; simp [Value.ownBlock]))
                    | (refine step_append_rows elemTxt (by rfl) (.tmp 61) (.tmp 67) (by rfl) (by rfl) (by rfl) hown hsrc rfl hwid1 hone1 (by simp only [txtRows_length, List.length_take, List.length_nil, List.length_append, List.length_singleton]; omega) (by decide) hb12.size ?_; intro v'' w3 hown3 hg3 hob3; have hb13 : Below W.heap.size W w3 := hb12.trans (grown_below hg3 (fun g e => (hown.lt g e).1) hb12.size))
                    | (refine step_append_rows elemTxt (by rfl) (.tmp 61) (.tmp 67) (by rfl) (by rfl) (by rfl) (hown.below (below_alloc _ _)) (rowsAt_new _ [.string p.name] _) rfl hwid1 hone1 (by simp only [txtRows_length, List.length_take, List.length_nil, List.length_append, List.length_singleton]; omega) (by decide) (by have := hb12.size; simp; omega) ?_; intro v'' w3 hown3 hg3 hob3; have hb13 : Below W.heap.size W w3 := (hb12.alloc hb12.size _).trans (grown_below hg3 (fun g e => (hown.lt g e).1) (by have := hb12.size; simp; omega)))
                    | (refine step_append_rows elemTxt (by rfl) (.tmp 68) (.tmp 71) (by rfl) (by rfl) (by rfl) hown3 (hr2.out _ hb13) (by simp only [txtRows_length, List.length_drop]) (txtRows_wid _) (txtRows_one _) (by simp only [txtRows_length, List.length_take, List.length_drop, List.length_nil, List.length_append, List.length_singleton]; omega) (by decide) hb13.size ?_; intro v4 w4 hown4 hg4 hob4; have hb14 : Below W.heap.size W w4 := hb13.trans (grown_below hg4 (fun g e => (hown3.lt g e).1) hb13.size))
                    | fail)
                  all_goals
                    have hI4 : Hid (TextsL w4 w.heap.size v4 (zs.take q ++ [p.name.toList] ++ zs.drop q)) := by
                      have h := hown4.less hbw.out.size
                      show OwnL _ _ _ _ _ _
                      have e : txtRows (zs.take q ++ [p.name.toList] ++ zs.drop q) = [] ++ txtRows (zs.take q) ++ [[.string p.name]] ++ txtRows (zs.drop q) := by unfold txtRows; simp [ByteArray.toList_eq]
                      rw [e]; exact h
                    have hbw4 := Lib.hid (below_step hbw.out hb14)
                    have hat6 := Lib.hid (hat5.out.below hb14)
                    clear o1 o2 o3 hown hown3 hown4 hg2 hg3 hg4 hob2 hob3 hob4 hb12 hb13 hb14
                    go_wp2_with fail
                    go_roundw
                    case rel => exact ⟨k + 1, _, by omega, by go_num, hI4, hnx.out q hq habove.out hlow.out, hat6, hbw4⟩
                    case measure => simp [intOf]; omega
              · have hlow := hstop (not_less hl1)
                clear hq0 hstop hgo
                go_wp2_with fail
                go_quiet (fail)
                go_wp2_with fail
                clear e1 hix hz9 hl1
                obtain ⟨W, hW⟩ : ∃ W, W = (wo.drewN n).drewN nq := ⟨_, rfl⟩
                rw [← hW]
                have hWb : Below wo.heap.size wo W := by rw [hW]; exact below_drewN (below_drewN (Below.refl _ _) _) _
                have hbw := Lib.hid (below_step hb.out hWb)
                have hat5 := Lib.hid (hat.out.below hWb)
                have hIW := hown.out.below hWb
                obtain ⟨A1, c1, hrun1, hR1⟩ := hIW.cutHi hq
                obtain ⟨A2, c2', hrun2, hR2⟩ := hIW.cutLo hq
                have hr1 := Lib.hid (fun w' (h : Below W.heap.size W w') => hR1.below h)
                have hr2 := Lib.hid (fun w' (h : Below W.heap.size W w') => hR2.below h)
                have c2W : W.cell? ⟨b, o + k * 5, none⟩ = some (.string p.name) := (hWb.cell (p := ⟨b, o + k * 5, none⟩) hbl).trans c0
                have cS : ∀ w', Below W.heap.size W w' → w'.cell? ⟨b, o + k * 5, none⟩ = some (.string p.name) := fun w' h => (h.cell (p := ⟨b, o + k * 5, none⟩) (Nat.lt_of_lt_of_le hbl hWb.size)).trans c2W
                have hkl : (k : Int) < (l.length : Int) := by omega
                have hk0 : (0 : Int) ≤ (k : Int) := by omega
                have hq0' : (0 : Int) ≤ (q : Int) := by omega
                have hql : (q : Int) ≤ (zs.length : Int) := by omega
                clear hW hWb hR1 hR2 c0 hIW
                have c2 := c2W
                clear c2W
                have o1 : OwnL (W.alloc (.cells #[] 9)).drew W.heap.size 9 1 (.slice (some ⟨W.heap.size, 0, none⟩) 0 0) [] := (OwnL.made W W.heap.size _ 1 (Nat.le_refl _)).below (below_drewN (Below.refl _ _) 1)
                have o2 : OwnL ((W.alloc (.cells #[] 9)).alloc (.cells #[.string p.name] 9)).drew W.heap.size 9 1 (.slice (some ⟨W.heap.size, 0, none⟩) 0 0) [] := (OwnL.made W W.heap.size _ 1 (Nat.le_refl _)).below (below_drewN (below_alloc _ _) 1)
                have o3 : OwnL ((W.alloc (.cells #[.string p.name] 9)).alloc (.cells #[] 9)).drew W.heap.size 9 1 (.slice (some ⟨W.heap.size + 1, 0, none⟩) 0 0) [] := by
                  have h := (OwnL.made (W.alloc (.cells #[.string p.name] 9)) W.heap.size 9 1 (by simp)).below (below_drewN (Below.refl _ _) 1)
                  simp only [World.size_alloc] at h
                  exact h
                go_region_held3 (fun w' => w'.cell? ⟨b, o + k * 5, none⟩ = some (.string p.name)) (first | exact c2 | exact cS _ (below_alloc _ _) | exact cS _ (below_step (below_alloc _ _) (below_alloc _ _)) | exact cS _ (below_drewN (Below.refl _ _) 1) | exact cS _ (below_drewN (below_alloc _ _) 1) | exact cS _ (below_drewN (below_step (below_alloc _ _) (below_alloc _ _)) 1) | exact cS _ hb12 | exact cS _ (below_step hb12 (below_alloc _ _)) | exact cS _ hb13 | exact cS _ hb14 | fail) (first
                  | (refine step_append_rows elemTxt (by rfl) (.tmp 57) (.tmp 60) (by rfl) (by rfl) (by rfl) (o1) (hr1.out _ (below_drewN (below_alloc _ _) 1)) (by simp only [txtRows_length, List.length_take]; omega) (txtRows_wid _) (txtRows_one _) (by simp only [txtRows_length, List.length_take, List.length_nil]; omega) (by decide) (by first | (simp; done) | (simp; omega)) ?_; intro v' w2 hown hg2 hob2; have hb12 : Below W.heap.size W w2 := (below_drewN (below_alloc _ _) 1).trans (grown_below hg2 (fun g e => by cases e; exact Nat.le_refl _) (by simp)))
                  | (refine step_append_rows elemTxt (by rfl) (.tmp 57) (.tmp 60) (by rfl) (by rfl) (by rfl) (o2) (hr1.out _ (below_drewN (below_step (below_alloc _ _) (below_alloc _ _)) 1)) (by simp only [txtRows_length, List.length_take]; omega) (txtRows_wid _) (txtRows_one _) (by simp only [txtRows_length, List.length_take, List.length_nil]; omega) (by decide) (by first | (simp; done) | (simp; omega)) ?_; intro v' w2 hown hg2 hob2; have hb12 : Below W.heap.size W w2 := (below_drewN (below_step (below_alloc _ _) (below_alloc _ _)) 1).trans (grown_below hg2 (fun g e => by cases e; exact Nat.le_refl _) (by simp; omega)); have hsrc : RowsAt w2 (some ⟨W.heap.size + 1, 0, none⟩) 1 [[.string p.name]] := RowsAt.far' (by have h := rowsAt_new (W.alloc (.cells #[] 9)) [.string p.name] 9; simp only [World.size_alloc] at h; exact h) hg2 (fun a e => by cases e; simp [Value.ownBlock]))
                  | (refine step_append_rows elemTxt (by rfl) (.tmp 57) (.tmp 60) (by rfl) (by rfl) (by rfl) (o3) (hr1.out _ (below_drewN (below_step (below_alloc _ _) (below_alloc _ _)) 1)) (by simp only [txtRows_length, List.length_take]; omega) (txtRows_wid _) (txtRows_one _) (by simp only [txtRows_length, List.length_take, List.length_nil]; omega) (by decide) (by first | (simp; done) | (simp; omega)) ?_; intro v' w2 hown hg2 hob2; have hb12 : Below W.heap.size W w2 := (below_drewN (below_step (below_alloc _ _) (below_alloc _ _)) 1).trans (grown_below hg2 (fun g e => by cases e; exact Nat.le_succ _) (by simp; omega)); have hsrc : RowsAt w2 (some ⟨W.heap.size, 0, none⟩) 1 [[.string p.name]] := RowsAt.far' (by exact (rowsAt_new W [.string p.name] 9).below (below_drewN (below_alloc _ (.cells #[] 9)) 1)) hg2 (fun a e => by cases e; simp [Value.ownBlock]))
                  | (refine step_append_rows elemTxt (by rfl) (.tmp 61) (.tmp 67) (by rfl) (by rfl) (by rfl) hown hsrc rfl hwid1 hone1 (by simp only [txtRows_length, List.length_take, List.length_nil, List.length_append, List.length_singleton]; omega) (by decide) hb12.size ?_; intro v'' w3 hown3 hg3 hob3; have hb13 : Below W.heap.size W w3 := hb12.trans (grown_below hg3 (fun g e => (hown.lt g e).1) hb12.size))
                  | (refine step_append_rows elemTxt (by rfl) (.tmp 61) (.tmp 67) (by rfl) (by rfl) (by rfl) (hown.below (below_alloc _ _)) (rowsAt_new _ [.string p.name] _) rfl hwid1 hone1 (by simp only [txtRows_length, List.length_take, List.length_nil, List.length_append, List.length_singleton]; omega) (by decide) (by have := hb12.size; simp; omega) ?_; intro v'' w3 hown3 hg3 hob3; have hb13 : Below W.heap.size W w3 := (hb12.alloc hb12.size _).trans (grown_below hg3 (fun g e => (hown.lt g e).1) (by have := hb12.size; simp; omega)))
                  | (refine step_append_rows elemTxt (by rfl) (.tmp 68) (.tmp 71) (by rfl) (by rfl) (by rfl) hown3 (hr2.out _ hb13) (by simp only [txtRows_length, List.length_drop]) (txtRows_wid _) (txtRows_one _) (by simp only [txtRows_length, List.length_take, List.length_drop, List.length_nil, List.length_append, List.length_singleton]; omega) (by decide) hb13.size ?_; intro v4 w4 hown4 hg4 hob4; have hb14 : Below W.heap.size W w4 := hb13.trans (grown_below hg4 (fun g e => (hown3.lt g e).1) hb13.size))
                  | fail)
                all_goals
                  have hI4 : Hid (TextsL w4 w.heap.size v4 (zs.take q ++ [p.name.toList] ++ zs.drop q)) := by
                    have h := hown4.less hbw.out.size
                    show OwnL _ _ _ _ _ _
                    have e : txtRows (zs.take q ++ [p.name.toList] ++ zs.drop q) = [] ++ txtRows (zs.take q) ++ [[.string p.name]] ++ txtRows (zs.drop q) := by unfold txtRows; simp [ByteArray.toList_eq]
                    rw [e]; exact h
                  have hbw4 := Lib.hid (below_step hbw.out hb14)
                  have hat6 := Lib.hid (hat5.out.below hb14)
                  clear o1 o2 o3 hown hown3 hown4 hg2 hg3 hg4 hob2 hob3 hob4 hb12 hb13 hb14
                  go_wp2_with fail
                  go_roundw
                  case rel => exact ⟨k + 1, _, by omega, by go_num, hI4, hnx.out q hq habove.out hlow.out, hat6, hbw4⟩
                  case measure => simp [intOf]; omega
    · obtain rfl : k = l.length := by omega
      have hzE : Hid (zs = Cal.namesL l holds known) := hup.out
      go_wp2_with fail
      go_ret
      exact ⟨_, rfl, by rw [← hzE.out]; exact hown0.out, hb0.out⟩
end Go.Proofs.YtbinoelbjlgjkaaGreatDoor
