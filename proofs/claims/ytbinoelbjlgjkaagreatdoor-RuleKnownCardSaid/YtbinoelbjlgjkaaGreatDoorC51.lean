/- Chapter 8 and what it rests on: definitions and walks, part 51. -/
import Derived.Test.YtbinoelbjlgjkaaGreatDoorC50
import Derived.Test.YtbinoelbjlgjkaaGreatDoorC47
import Derived.Laws.Concat
namespace Go.Proofs.YtbinoelbjlgjkaaGreatDoor
open Go Go.RowKit
/-- The line of a name, and the text of names. -/
def Cal.line (l : List Prov) (holds known : Int) (nm : Cal.Txt) : Cal.Txt := nm ++ [32] ++ Lib.itoa (Cal.valOf l ⟨nm.toArray⟩ holds known).1 ++ [10]
def Cal.lines (l : List Prov) (holds known : Int) : List Cal.Txt → Cal.Txt
  | [] => []
  | nm :: r => Cal.line l holds known nm ++ Cal.lines l holds known r
theorem Cal.lines_snoc (l : List Prov) (holds known : Int) : ∀ (zs : List Cal.Txt) (nm : Cal.Txt), Cal.lines l holds known (zs ++ [nm]) = Cal.lines l holds known zs ++ Cal.line l holds known nm
  | [], nm => by show Cal.line l holds known nm ++ [] = _; simp [Cal.lines]
  | z :: zs, nm => by
    show Cal.line l holds known z ++ Cal.lines l holds known (zs ++ [nm]) = _
    rw [Cal.lines_snoc l holds known zs nm]
    simp [Cal.lines]
def Cal.consL (l : List Prov) (holds known : Int) : Cal.Txt := Cal.lines l holds known (Cal.namesL l holds known)
/-! What is known of provisions that are right. -/
theorem Cal.provsFrom_all : ∀ {l : List Prov} {e0 : Int}, Cal.provsErrFrom e0 l = 0 → ∀ p ∈ l, Cal.provErrOf p = 0
  | [], _, _, p, hp => by cases hp
  | q :: r, e0, h, p, hp => by
    rw [Cal.provsErrFrom_cons] at h
    split at h
    · rename_i h0
      split at h
      · omega
      · rcases List.mem_cons.1 hp with rfl | hp
        · exact h0
        · exact Cal.provsFrom_all h p hp
    · rename_i h0; exact absurd h h0
theorem Cal.provs_all {l : List Prov} (h : Cal.provsErr l = 0) : ∀ p ∈ l, nameB p.name = true ∧ -1000000000 ≤ p.value ∧ p.value ≤ 1000000000 := fun p hp => by
  unfold Cal.provsErr at h
  split at h
  · omega
  · have := Cal.provsFrom_all h p hp
    unfold Cal.provErrOf Cal.provErr at this
    split at this
    · rename_i h1
      split at this
      · rename_i h2; exact ⟨h1, h2.1, h2.2.1⟩
      · omega
    · omega
theorem Cal.valOf_bd {l : List Prov} (h : Cal.provsErr l = 0) (name : ByteArray) (holds known : Int) : -1000000000 ≤ (Cal.valOf l name holds known).1 ∧ (Cal.valOf l name holds known).1 ≤ 1000000000 := by
  by_cases h2 : Cal.src l name holds known < 0
  · rw [Cal.valOf_no h2]; decide
  · obtain ⟨q, p, hq, hp⟩ := Cal.src_form h2
    rw [Cal.valOf_some hq hp]
    split
    · decide
    · exact (Cal.provs_all h p (List.mem_of_getElem? hp)).2
theorem Cal.names_len {l : List Prov} (h : Cal.provsErr l = 0) (holds known : Int) : ∀ nm ∈ Cal.namesL l holds known, nm.length ≤ 12 := fun nm hm => by
  have := ((Cal.tups_spec _).2 nm).1 hm
  unfold Cal.nms at this
  obtain ⟨p, hp, rfl⟩ := List.mem_map.1 this
  have hp' := List.mem_of_mem_take (List.mem_filter.1 hp).1
  have h1 := (Cal.provs_all h p hp').1
  unfold nameB at h1
  have h2 := (decide_eq_true_iff.1 h1).2.1
  rw [Array.length_toList]; exact h2
theorem Cal.line_len {l : List Prov} (h : Cal.provsErr l = 0) {holds known : Int} {nm : Cal.Txt} (hn : nm.length ≤ 12) : (Cal.line l holds known nm).length ≤ 40 := by
  have hb := Cal.valOf_bd h ⟨nm.toArray⟩ holds known
  have := Lib.itoa_length_le (Cal.valOf l ⟨nm.toArray⟩ holds known).1 (by omega) (by omega)
  unfold Cal.line
  simp only [List.length_append, List.length_singleton]
  omega
theorem Cal.lines_len {l : List Prov} (h : Cal.provsErr l = 0) {holds known : Int} : ∀ {zs : List Cal.Txt}, (∀ nm ∈ zs, nm.length ≤ 12) → (Cal.lines l holds known zs).length ≤ 40 * zs.length
  | [], _ => Nat.le_refl _
  | z :: zs, hz => by
    have h1 := Cal.line_len (holds := holds) (known := known) h (hz z (List.mem_cons_self ..))
    have h2 := Cal.lines_len (holds := holds) (known := known) h (zs := zs) (fun nm hm => hz nm (List.mem_cons_of_mem _ hm))
    show (Cal.line l holds known z ++ Cal.lines l holds known zs).length ≤ _
    rw [List.length_append, List.length_cons]; omega
theorem Cal.atErr_provs {l : List Prov} {ns : List Int} (h : Cal.atErr l ns = 0) : Cal.provsErr l = 0 := by
  unfold Cal.atErr at h
  split at h
  · rename_i h0; exact h0
  · exact h
/-- The name's value where a name is read out of a slice. -/
theorem name_of {zb : ByteArray} {z : Cal.Txt} (h : zb.toList = z) : (⟨z.toArray⟩ : ByteArray) = zb := by rw [ByteArray.toList_eq] at h; subst h; rfl
def ConsPost (w : World) (l : List Prov) (holds known : Int) (e : Ending) (w' : World) : Prop :=
  e = .returned (.tuple #[.string ⟨(if Cal.atErr l [holds, known] = 0 then Cal.consL l holds known else []).toArray⟩, .int .i64 (Cal.atErr l [holds, known])]) ∧ Below w.heap.size w w'
set_option maxRecDepth 100000 in
set_option maxHeartbeats 4000000 in
theorem Consolidated_any (A : Option Addr) (c : Nat) (l : List Prov) (holds known : Int) (w : World) (hl : Provs w A l) (hP : Pow w) :
    Calls Tryz.prog 18 #[.slice A l.length c, .agg #[.int .i64 holds, .int .i64 known]] w (ConsPost w l holds known) := by
  have hat := Lib.hid (atRows w 25 holds known)
  have hat0 := Lib.hid (AtCells.new w holds known 25)
  have hl' := Lib.hid (fun w1 (h : Below w.heap.size w w1) => hl.below h)
  have hP' := Lib.hid (fun w1 (h : Below w.heap.size w w1) => hP.below h)
  have hba := Lib.hid (below_alloc w (.cells #[.int .i64 holds, .int .i64 known] 25))
  clear hl hP
  by_cases h0 : Cal.atErr l [holds, known] = 0
  · have h0z := Lib.hid h0
    have h1 : (Cal.atErr l [holds, known] != 0) = false := by simpa using h0
    have hlen := Cal.atErr_len h0
    have hpe := Lib.hid (Cal.atErr_provs h0)
    clear h0
    go_enter Tryz.func18, Tryz.ntmps18
    go_wp2_with fail
    refine (checkAt_any _ _ l _ 2 [holds, known] _ (hl'.out _ hba.out) hat.out (by simp)).mono ?_
    rintro e w1 ⟨rfl, hb1⟩
    have hat1 := Lib.hid (hat0.out.below hb1)
    have hbw := Lib.hid (below_step hba.out hb1)
    clear hb1 hat hat0 hba
    have hB0 := Lib.hid (bld_new w1)
    have hba := below_alloc w1 (.cells #[.pointer none, .slice none 0 0] 143)
    have hat2 := Lib.hid (hat1.out.below hba)
    have hbw2 := Lib.hid (below_step hbw.out hba)
    have k0 := hat2.out.c0
    have k1 := hat2.out.c1
    clear hba
    go_wp2_with fail
    refine (names_any A c l holds known (by omega) _ (hl'.out _ hbw2.out)).mono ?_
    rintro e w2 ⟨v, rfl, hs, hb2⟩
    have hN : Hid (Cal.consL l holds known = Cal.lines l holds known (Cal.namesL l holds known)) := rfl
    have hnl := Lib.hid (Cal.names_len hpe.out holds known)
    have hzl := Cal.namesL_length l holds known
    have hvb := Lib.hid (fun nm => Cal.valOf_bd hpe.out nm holds known)
    have hll := Lib.hid (fun zs h => Cal.lines_len (holds := holds) (known := known) hpe.out (zs := zs) h)
    have hln := Lib.hid (fun nm h => Cal.line_len (holds := holds) (known := known) (nm := nm) hpe.out h)
    have hval := Lib.hid (fun nm w1 (h : Below w.heap.size w w1) => valueOf_any A c l nm holds known w1 (hl'.out _ h))
    have hfld := fun v b w => field_dec0 v b w
    generalize Cal.namesL l holds known = zs at *
    obtain ⟨A9, c9, rfl, _⟩ := hs.rows
    have hne : (Value.slice A9 zs.length c9).ownBlock ≠ some w1.heap.size := fun e => by
      have := (OwnL.lt hs _ e).1
      simp at this; omega
    have hbb : w.heap.size < w1.heap.size := hat1.out.lt
    have hB2 : Hid (Bld w1.heap.size w1.heap.size (Cal.lines l holds known (zs.take 0)) w2) := hB0.out.below hb2
    have hT2 : Hid (TextsL w2 w1.heap.size (.slice A9 zs.length c9) zs) := OwnL.less hs (by simp)
    have hat3 := Lib.hid (hat2.out.below hb2)
    have hbw3 := Lib.hid (below_step hbw2.out hb2)
    clear hs hb2 hB0 hat2 hbw2 hbw hat1 k0 k1
    have hne := Lib.hid hne
    go_wp2_with fail
    go_loopw [20, 9] (fun i nm wr => ∃ (k : Nat), k ≤ zs.length ∧ i = .int .i64 k ∧ Hid (Bld w1.heap.size w1.heap.size (Cal.lines l holds known (zs.take k)) wr) ∧ Hid (TextsL wr w1.heap.size (.slice A9 zs.length c9) zs) ∧ Hid (AtCells wr w.heap.size holds known) ∧ Hid (Below w.heap.size w wr)) (fun i _ _ => zs.length - (intOf i).toNat)
    case atStart => exact ⟨0, Nat.zero_le _, rfl, hB2, hT2, hat3, hbw3⟩
    case round =>
      obtain ⟨k, hk, rfl, hB, hT, hat, hb⟩ := hrel
      clear hB2 hT2 hat3 hbw3
      have hbs := hat.out.lt
      have hbs2 := hB.out.lt
      by_cases hlt : k < zs.length
      · obtain ⟨A8, c8, hv8, hr8⟩ := hT.out.rows
        simp only [Value.slice.injEq, true_and] at hv8
        obtain ⟨rfl, rfl⟩ := hv8
        obtain ⟨b2, o2, rfl, _, zb, hzb, e1⟩ := txtRows_at hr8 hlt
        have hzs : zb.size ≤ 12 := by
          have h1 := hnl.out _ (List.getElem_mem hlt)
          rw [← hzb, ByteArray.toList_eq, Array.length_toList] at h1
          exact h1
        have hsn : Hid (Cal.lines l holds known (zs.take (k + 1)) = Cal.lines l holds known (zs.take k) ++ Cal.line l holds known zb.toList) := by
          show _ = _
          rw [List.take_succ_eq_append_getElem hlt, Cal.lines_snoc, hzb]
        have hlz : (Cal.lines l holds known (zs.take k)).length ≤ 40 * 200 := by
          have h1 := hll.out (zs.take k) (fun nm h => hnl.out nm (List.mem_of_mem_take h))
          rw [List.length_take] at h1
          omega
        have hl40 : (Cal.line l holds known zb.toList).length ≤ 40 := hln.out _ (by rw [ByteArray.toList_eq, Array.length_toList]; exact hzs)
        have hv0 := hval.out zb
        have hvb0 := hvb.out zb
        have hline : Hid (∀ x d : ByteArray, d.data.toList = Lib.itoa (Cal.valOf l zb holds known).1 → x.data.toList = zb.data.toList ++ [32] ++ d.data.toList ++ [10] → x.data.toList = Cal.line l holds known zb.toList) := fun x d hd hx => by
          rw [hx, hd]; unfold Cal.line; rw [name_of rfl, ByteArray.toList_eq]
        rcases hvq : Cal.valOf l zb holds known with ⟨vv, vb⟩
        rw [hvq] at hvb0 hline
        simp only [hvq] at hv0 hvb0
        obtain ⟨hv1, hv2⟩ := hvb0
        have hv0 := Lib.hid hv0
        have hlz := Lib.hid hlz
        have hl40 := Lib.hid hl40
        clear hvq hr8 hzb
        have k0 := hat.out.c0
        have k1 := hat.out.c1
        go_wp2_with fail
        refine (hv0.out _ hb.out).mono ?_
        rintro e w4 ⟨rfl, hb4⟩
        have hB4 := Lib.hid (hB.out.below hb4)
        have hT4 := Lib.hid (hT.out.below hb4)
        have hat4 := Lib.hid (hat.out.below hb4)
        have hbw4 := Lib.hid (below_step hb.out hb4)
        clear hb4 hB hT hat hb k0 k1 e1 hv0
        go_wp2_with fail
        refine (Itoa_any vv (by omega) (by omega) _ (hP'.out _ hbw4.out)).mono ?_
        rintro e w5 ⟨d, rfl, hd, hds, hb5⟩
        have hB5 := Lib.hid (hB4.out.below hb5)
        have hT5 := Lib.hid (hT4.out.below hb5)
        have hat5 := Lib.hid (hat4.out.below hb5)
        have hbw5 := Lib.hid (below_step hbw4.out hb5)
        have hd := Lib.hid hd
        have hbb5 : w1.heap.size ≤ w5.heap.size := Nat.le_of_lt hB5.out.lt
        clear hb5 hB4 hT4 hat4 hbw4
        go_wp2_with fail
        refine (Write_txt w1.heap.size w1.heap.size _ _ (Cal.line l holds known zb.toList) _ (hline.out _ d hd.out (by simp)) hB5.out (by have := hlz.out; have := hl40.out; omega) hbb5).mono ?_
        rintro e w6 ⟨⟨n6, rfl⟩, hB6, hb6, hk6⟩
        have hB6 := Lib.hid hB6
        have hT6 := Lib.hid (hT5.out.others hk6 hne.out)
        have hat6 : Hid (AtCells w6 w.heap.size holds known) := ⟨(hb6.cell (p := ⟨w.heap.size, 0, none⟩) hbb).trans hat5.out.c0, (hb6.cell (p := ⟨w.heap.size, 1, none⟩) hbb).trans hat5.out.c1, Nat.lt_of_lt_of_le hat5.out.lt hb6.size⟩
        have hbw6 := Lib.hid (hbw5.out.trans (hb6.mono (Nat.le_of_lt hbb)))
        clear hB5 hT5 hat5 hbw5 hk6 hb6
        go_wp2_with fail
        go_roundw
        case rel => exact ⟨k + 1, by omega, by go_num, by rw [hsn.out]; exact hB6, hT6, hat6, hbw6⟩
        case measure => simp [intOf]; omega
      · obtain rfl : k = zs.length := by omega
        have hB9 : Hid (Bld w1.heap.size w1.heap.size (Cal.consL l holds known) wr) := by
          have := hB.out
          rw [List.take_length] at this
          show Bld _ _ _ _
          rw [hN.out]; exact this
        clear hB
        go_wp2_with fail
        refine (String_any w1.heap.size w1.heap.size _ _ hB9.out (Nat.le_of_lt hbs2)).mono ?_
        rintro e w7 ⟨rfl, _, hb7⟩
        have hbw7 := Lib.hid (hb.out.trans (hb7.mono (Nat.le_of_lt hbb)))
        clear hb7
        go_wp2_with fail
        go_ret2
        exact ⟨by rw [if_pos h0z.out, h0z.out]; rfl, hbw7.out⟩
  · have h1 : (Cal.atErr l [holds, known] != 0) = true := by simpa using h0
    have h0z := Lib.hid h0
    clear h0
    go_enter Tryz.func18, Tryz.ntmps18
    go_wp2_with fail
    refine (checkAt_any _ _ l _ 2 [holds, known] _ (hl'.out _ hba.out) hat.out (by simp)).mono ?_
    rintro e w1 ⟨rfl, hb1⟩
    have hbw := Lib.hid (below_step hba.out hb1)
    clear hb1
    go_wp2_with fail
    go_ret2
    exact ⟨by rw [if_neg h0z.out]; rfl, hbw.out⟩
theorem dec_any (n : Int) (h0 : -9223372036854775808 ≤ n) (h1 : n ≤ 9223372036854775807) (w : World) : Calls Tryz.prog 79 #[.int .i64 n] w (NumPost w n) := by
  refine (Decimal_any n h0 h1 w).mono ?_
  rintro e w' ⟨rfl, hb⟩
  exact ⟨_, rfl, by simp, num_size h0 h1, hb⟩
set_option maxRecDepth 100000 in
set_option maxHeartbeats 8000000 in
theorem ConsolidatedR_any (A : Option Addr) (c : Nat) (l : List Prov) (holds known : Int) (w : World) (hl : Provs w A l) (hpe0 : Cal.provsErr l = 0) :
    Calls Tryz.prog 23 #[.slice A l.length c, .agg #[.int .i64 holds, .int .i64 known]] w fun e w' => e = .returned (.string ⟨(Cal.consL l holds known).toArray⟩) ∧ Below w.heap.size w w' := by
  have hat0 := Lib.hid (AtCells.new w holds known 25)
  have hl' := Lib.hid (fun w1 (h : Below w.heap.size w w1) => hl.below h)
  have hba := Lib.hid (below_alloc w (.cells #[.int .i64 holds, .int .i64 known] 25))
  have hlen := Cal.provsErr_le hpe0
  have hpe := Lib.hid hpe0
  clear hl hpe0
  have k0 := hat0.out.c0
  have k1 := hat0.out.c1
  go_enter Tryz.func23, Tryz.ntmps23
  go_wp2_with fail
  refine (NamesR_any A c l holds known (by omega) _ (hl'.out _ hba.out)).mono ?_
  rintro e w2 ⟨v, rfl, hs, hb2⟩
  have hN : Hid (Cal.consL l holds known = Cal.lines l holds known (Cal.namesL l holds known)) := rfl
  have hnl := Lib.hid (Cal.names_len hpe.out holds known)
  have hzl := Cal.namesL_length l holds known
  have hvb := Lib.hid (fun nm => Cal.valOf_bd hpe.out nm holds known)
  have hll := Lib.hid (fun zs h => Cal.lines_len (holds := holds) (known := known) hpe.out (zs := zs) h)
  have hval := Lib.hid (fun nm w1 (h : Below w.heap.size w w1) => Has_any A c l nm holds known w1 (hl'.out _ h))
  generalize Cal.namesL l holds known = zs at *
  obtain ⟨A9, c9, rfl, hr2⟩ := hs.rows
  have hr2 := Lib.hid hr2
  have hat3 := Lib.hid (hat0.out.below hb2)
  have hbw3 := Lib.hid (below_step hba.out hb2)
  clear hs hb2 hat0 hba k0 k1
  have hs0 : Hid ((⟨#[]⟩ : ByteArray).data.toList = Cal.lines l holds known (zs.take 0)) := rfl
  go_wp2_with fail
  go_loopw [5, 7] (fun s i wr => ∃ (k : Nat) (t : ByteArray), k ≤ zs.length ∧ i = .int .i64 k ∧ s = .string t ∧ Hid (t.data.toList = Cal.lines l holds known (zs.take k)) ∧ Hid (RowsAt wr A9 1 (txtRows zs)) ∧ Hid (AtCells wr w.heap.size holds known) ∧ Hid (Below w.heap.size w wr)) (fun _ i _ => zs.length - (intOf i).toNat)
  case atStart => exact ⟨0, ⟨#[]⟩, Nat.zero_le _, rfl, rfl, hs0, hr2, hat3, hbw3⟩
  case round =>
    obtain ⟨k, t, hk, rfl, rfl, ht, hr, hat, hb⟩ := hrel
    clear hs0 hr2 hat3 hbw3
    have hbs := hat.out.lt
    by_cases hlt : k < zs.length
    · obtain ⟨b2, o2, rfl, hbl2, zb, hzb, e1⟩ := txtRows_at hr.out hlt
      have hzs : zb.size ≤ 12 := by
        have h1 := hnl.out _ (List.getElem_mem hlt)
        rw [← hzb, ByteArray.toList_eq, Array.length_toList] at h1
        exact h1
      have hsn : Hid (Cal.lines l holds known (zs.take (k + 1)) = Cal.lines l holds known (zs.take k) ++ Cal.line l holds known zb.toList) := by
        show _ = _
        rw [List.take_succ_eq_append_getElem hlt, Cal.lines_snoc, hzb]
      have hts : t.size ≤ 8000 := by
        have h1 := hll.out (zs.take k) (fun nm h => hnl.out nm (List.mem_of_mem_take h))
        rw [List.length_take, ← ht.out, Array.length_toList] at h1
        have h2 : t.size ≤ 40 * min k zs.length := h1
        omega
      have hv0 := hval.out zb
      have hvb0 := hvb.out zb
      have hline : Hid (∀ x d : ByteArray, d.data.toList = Lib.itoa (Cal.valOf l zb holds known).1 → x.data.toList = t.data.toList ++ zb.data.toList ++ [32] ++ d.data.toList ++ [10] → x.data.toList = Cal.lines l holds known (zs.take (k + 1))) := fun x d hd hx => by
        rw [hx, hd, hsn.out, ht.out]; unfold Cal.line; rw [name_of rfl, ByteArray.toList_eq]; simp
      rcases hvq : Cal.valOf l zb holds known with ⟨vv, vb⟩
      rw [hvq] at hvb0 hline
      simp only [hvq] at hv0 hvb0
      obtain ⟨hv1, hv2⟩ := hvb0
      have hv0 := Lib.hid hv0
      clear hvq hzb hsn
      have k0 := hat.out.c0
      have k1 := hat.out.c1
      go_wp2_with fail
      refine wp_region_held_drew (S := (fun w' => w'.cell? ⟨b2, o2 + k, none⟩ = some (.string zb) ∧ w'.cell? ⟨w.heap.size, 0, none⟩ = some (.int .i64 holds) ∧ w'.cell? ⟨w.heap.size, 1, none⟩ = some (.int .i64 known))) (by kernel_rfl) ⟨e1, k0, k1⟩ (fun hHeld => ?_)
      (refine tkH 0 (v := ?_) ?_ ?_; rotate_left; focus (intro w' hSw; (try dsimp only at hSw); go_simp; (try with_reducible rfl)); (try simp only [Act.put, List.setIfInBounds_toArray, List.set_cons_zero, List.set_cons_succ]))
      (refine tkH 1 (v := ?_) ?_ ?_; rotate_left; focus (intro w' hSw; (try dsimp only at hSw); go_simp; (try with_reducible rfl)); (try simp only [Act.put, List.setIfInBounds_toArray, List.set_cons_zero, List.set_cons_succ]))
      (refine tkH 2 (v := ?_) ?_ ?_; rotate_left; focus (intro w' hSw; (try dsimp only at hSw); go_simp; (try with_reducible rfl)); (try simp only [Act.put, List.setIfInBounds_toArray, List.set_cons_zero, List.set_cons_succ]))
      (refine tkH 3 (v := ?_) ?_ ?_; rotate_left; focus (intro w' hSw; (try dsimp only at hSw); go_simp; (try with_reducible rfl)); (try simp only [Act.put, List.setIfInBounds_toArray, List.set_cons_zero, List.set_cons_succ]))
      (refine tkH 4 (v := ?_) ?_ ?_; rotate_left; focus (intro w' hSw; (try dsimp only at hSw); go_simp; (try with_reducible rfl)); (try simp only [Act.put, List.setIfInBounds_toArray, List.set_cons_zero, List.set_cons_succ]))
      (refine tkH 5 (v := ?_) ?_ ?_; rotate_left; focus (intro w' hSw; (try dsimp only at hSw); go_simp; (try with_reducible rfl)); (try simp only [Act.put, List.setIfInBounds_toArray, List.set_cons_zero, List.set_cons_succ]))
      (refine wpAnyH_ready (rs := [6]) (by decide +kernel) (by simp) ?_; refine AllReadyH.cons rfl (fun K hK => ?_) AllReadyH.nil; rw [if_pos (by kernel_rfl)]; go_simp)
      refine (hv0.out _ (below_drewN hb.out 1)).mono ?_
      rintro e w4 ⟨rfl, hbn⟩
      have hbn := below_of_drewN (n := 1) hbn
      have hr4 := Lib.hid (hr.out.below hbn)
      have hat4 := Lib.hid (hat.out.below hbn)
      have hb4 := Lib.hid (below_step hb.out hbn)
      have e4 : w4.cell? ⟨b2, o2 + k, none⟩ = some (.string zb) := (hbn.cell (p := ⟨b2, o2 + k, none⟩) hbl2).trans e1
      have hbl4 := Nat.lt_of_lt_of_le hbl2 hbn.size
      clear hbn e1 k0 k1 hHeld hv0 hr hat hb hbl2 hbs
      have k0 := hat4.out.c0
      have k1 := hat4.out.c1
      go_simp
      (refine hK.out _ _ ⟨e4, k0, k1⟩ (fun hHeld => ?_); clear hK K; (try simp only [Act.put, List.setIfInBounds_toArray]); (try simp only [List.set_cons_zero, List.set_cons_succ]))
      (refine tkH 7 (v := ?_) ?_ ?_; rotate_left; focus (intro w' hSw; (try dsimp only at hSw); go_simp; (try with_reducible rfl)); (try simp only [Act.put, List.setIfInBounds_toArray, List.set_cons_zero, List.set_cons_succ]))
      (refine tkH 8 (v := ?_) ?_ ?_; rotate_left; focus (intro w' hSw; (try dsimp only at hSw); go_simp; (try with_reducible rfl)); (try simp only [Act.put, List.setIfInBounds_toArray, List.set_cons_zero, List.set_cons_succ]))
      (refine tkH 9 (v := ?_) ?_ ?_; rotate_left; focus (intro w' hSw; (try dsimp only at hSw); go_simp; (try with_reducible rfl)); (try simp only [Act.put, List.setIfInBounds_toArray, List.set_cons_zero, List.set_cons_succ]))
      (refine tkH 10 (v := ?_) ?_ ?_; rotate_left; focus (intro w' hSw; (try dsimp only at hSw); go_simp; (try with_reducible rfl)); (try simp only [Act.put, List.setIfInBounds_toArray, List.set_cons_zero, List.set_cons_succ]))
      (refine tkH 11 (v := ?_) ?_ ?_; rotate_left; focus (intro w' hSw; (try dsimp only at hSw); go_simp; (try with_reducible rfl)); (try simp only [Act.put, List.setIfInBounds_toArray, List.set_cons_zero, List.set_cons_succ]))
      refine wpAnyH_done (by kernel_rfl) ?_ _
      clear hHeld k0 k1
      have ha1 := fun W => run_string_add_sum (P := Tryz.prog) W t zb (by omega)
      have ha2 := fun W => run_string_add_sum (P := Tryz.prog) W (t ++ zb) ⟨#[32]⟩ (by rw [ByteArray.size_append]; show _ + 1 ≤ _; omega)
      go_wp2_with fail
      refine wp_region_held_drew (S := (fun w' => w'.cell? ⟨b2, o2 + k, none⟩ = some (.string zb))) (by kernel_rfl) e4 (fun hHeld => ?_)
      (refine tkH 0 (v := ?_) ?_ ?_; rotate_left; focus (intro w' hSw; (try dsimp only at hSw); go_simp; (try with_reducible rfl)); (try simp only [Act.put, List.setIfInBounds_toArray, List.set_cons_zero, List.set_cons_succ]))
      (refine tkH 1 (v := ?_) ?_ ?_; rotate_left; focus (intro w' hSw; (try dsimp only at hSw); go_simp; (try with_reducible rfl)); (try simp only [Act.put, List.setIfInBounds_toArray, List.set_cons_zero, List.set_cons_succ]))
      (refine tkH 2 (v := ?_) ?_ ?_; rotate_left; focus (intro w' hSw; (try dsimp only at hSw); go_simp; (try with_reducible rfl)); (try simp only [Act.put, List.setIfInBounds_toArray, List.set_cons_zero, List.set_cons_succ]))
      (refine tkH 3 (v := ?_) ?_ ?_; rotate_left; focus (intro w' hSw; (try dsimp only at hSw); go_simp; (try with_reducible rfl)); (try simp only [Act.put, List.setIfInBounds_toArray, List.set_cons_zero, List.set_cons_succ]))
      (refine tkH 4 (v := ?_) ?_ ?_; rotate_left; focus (intro w' hSw; (try dsimp only at hSw); go_simp; (try with_reducible rfl)); (try simp only [Act.put, List.setIfInBounds_toArray, List.set_cons_zero, List.set_cons_succ]))
      (refine tkH 5 (v := ?_) ?_ ?_; rotate_left; focus (intro w' hSw; (try dsimp only at hSw); go_simp; (try with_reducible rfl)); (try simp only [Act.put, List.setIfInBounds_toArray, List.set_cons_zero, List.set_cons_succ]))
      (refine tkH 6 (v := ?_) ?_ ?_; rotate_left; focus (intro w' hSw; (try dsimp only at hSw); go_simp; (try with_reducible rfl)); (try simp only [Act.put, List.setIfInBounds_toArray, List.set_cons_zero, List.set_cons_succ]))
      (refine tkH 7 (v := ?_) ?_ ?_; rotate_left; focus (intro w' hSw; (try dsimp only at hSw); go_simp; (try with_reducible rfl)); (try simp only [Act.put, List.setIfInBounds_toArray, List.set_cons_zero, List.set_cons_succ]))
      (refine wpAnyH_ready (rs := [8]) (by decide +kernel) (by simp) ?_; refine AllReadyH.cons rfl (fun K hK => ?_) AllReadyH.nil; rw [if_pos (by kernel_rfl)]; go_simp)
      refine (dec_any vv (by omega) (by omega) _).mono ?_
      rintro e w5 ⟨d, rfl, hd, hds, hbn⟩
      have hbn := below_of_drewN (n := 1) hbn
      have hr5 := Lib.hid (hr4.out.below hbn)
      have hat5 := Lib.hid (hat4.out.below hbn)
      have hb5 := Lib.hid (below_step hb4.out hbn)
      have e5 : w5.cell? ⟨b2, o2 + k, none⟩ = some (.string zb) := (hbn.cell (p := ⟨b2, o2 + k, none⟩) hbl4).trans e4
      have ha3 := fun W => run_string_add_sum (P := Tryz.prog) W (t ++ zb ++ ⟨#[32]⟩) d (by rw [ByteArray.size_append, ByteArray.size_append]; show _ + 1 + _ ≤ _; omega)
      have ha4 := fun W => run_string_add_sum (P := Tryz.prog) W (t ++ zb ++ ⟨#[32]⟩ ++ d) ⟨#[10]⟩ (by rw [ByteArray.size_append, ByteArray.size_append, ByteArray.size_append]; show _ + 1 + _ + 1 ≤ _; omega)
      have hd := Lib.hid hd
      clear hbn e4 hHeld hr4 hat4 hb4 hbl4
      go_simp
      (refine hK.out _ _ e5 (fun hHeld => ?_); clear hK K; (try simp only [Act.put, List.setIfInBounds_toArray]); (try simp only [List.set_cons_zero, List.set_cons_succ]))
      (refine tkH 9 (v := ?_) ?_ ?_; rotate_left; focus (intro w' hSw; (try dsimp only at hSw); go_simp; (try with_reducible rfl)); (try simp only [Act.put, List.setIfInBounds_toArray, List.set_cons_zero, List.set_cons_succ]))
      (refine tkH 10 (v := ?_) ?_ ?_; rotate_left; focus (intro w' hSw; (try dsimp only at hSw); go_simp; (try with_reducible rfl)); (try simp only [Act.put, List.setIfInBounds_toArray, List.set_cons_zero, List.set_cons_succ]))
      (refine tkH 11 (v := ?_) ?_ ?_; rotate_left; focus (intro w' hSw; (try dsimp only at hSw); go_simp; (try with_reducible rfl)); (try simp only [Act.put, List.setIfInBounds_toArray, List.set_cons_zero, List.set_cons_succ]))
      refine wpAnyH_done (by kernel_rfl) ?_ _
      clear hHeld ha1 ha2 ha3 ha4
      have hnx : Hid ((t ++ zb ++ ⟨#[32]⟩ ++ d ++ ⟨#[10]⟩ : ByteArray).data.toList = Cal.lines l holds known (zs.take (k + 1))) := hline.out _ d hd.out (by simp)
      go_wp2_with fail
      go_roundw
      case rel => exact ⟨k + 1, _, by omega, by go_num, rfl, hnx, hr5, hat5, hb5⟩
      case measure => simp [intOf]; omega
    · obtain rfl : k = zs.length := by omega
      have hfin : Hid (t.data.toList = Cal.consL l holds known) := by
        have := ht.out
        rw [List.take_length] at this
        show _ = _
        rw [hN.out]; exact this
      go_wp2_with fail
      go_ret
      exact ⟨by rw [str_of hfin.out]; rfl, hb.out⟩
end Go.Proofs.YtbinoelbjlgjkaaGreatDoor
namespace Go.Proofs.YtbinoelbjlgjkaaGreatDoor
open Go Go.RowKit
theorem txtRows_at' {w : World} {A : Option Addr} {zs : List Cal.Txt} (h : RowsAt w A 1 (txtRows zs)) {k : Nat} (hk : k < zs.length) : ∃ b o, A = some ⟨b, o, none⟩ ∧ b < w.heap.size ∧ w.cell? ⟨b, o + k, none⟩ = some (.string ⟨zs[k].toArray⟩) := by
  obtain ⟨b, o, hA, hb, hc⟩ := h k [encStr zs[k]] (by simp [txtRows, List.getElem?_eq_getElem hk])
  have := hc 0 _ rfl
  simp only [Nat.mul_one, Nat.add_zero] at this
  exact ⟨b, o, hA, hb, this⟩
theorem Texts_same (A B : Option Addr) (c d : Nat) (l : List Cal.Txt) (w : World) (hA : RowsAt w A 1 (txtRows l)) (hB : RowsAt w B 1 (txtRows l)) (hs : l.length ≤ 1000000) :
    Calls Tryz.prog 21 #[.slice A l.length c, .slice B l.length d] w fun e w' => e = .returned (.bool true) ∧ Below w.heap.size w w' := by
  have hA' := Lib.hid hA
  have hB' := Lib.hid hB
  clear hA hB
  go_enter Tryz.func21, Tryz.ntmps21
  go_wp2
  go_loopw [5] (fun i wr => ∃ (k n : Nat), k ≤ l.length ∧ i = .int .i64 k ∧ wr = w.drewN n) (fun i _ => l.length - (intOf i).toNat)
  case atStart => exact ⟨0, 0, Nat.zero_le _, rfl, rfl⟩
  case round =>
    obtain ⟨k, n, hk, rfl, rfl⟩ := hrel
    by_cases hlt : k < l.length
    · obtain ⟨b, o, rfl, hbl, c0⟩ := txtRows_at' hA'.out hlt
      obtain ⟨b', o', rfl, hbl', d0⟩ := txtRows_at' hB'.out hlt
      generalize (⟨(l[k]).toArray⟩ : ByteArray) = x at *
      go_wp2_with fail
      go_quiet (fail)
      go_wp2_with fail
      go_roundw
      case rel => exact ⟨k + 1, _, by omega, by go_num, rfl⟩
      case measure => simp [intOf]; omega
    · obtain rfl : k = l.length := by omega
      go_wp2
      go_ret
      exact ⟨rfl, below_drewN (Below.refl _ _) _⟩
end Go.Proofs.YtbinoelbjlgjkaaGreatDoor
