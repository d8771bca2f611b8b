/- Chapter 8 and what it rests on: definitions and walks, part 38. -/
import Derived.Test.YtbegbajlagcbdaaGreatDoorC37
namespace Go.Proofs.YtbegbajlagcbdaaGreatDoor
open Go Go.RowKit
theorem CutC_any (s : ByteArray) (w : World) (hs : s.size ≤ 1000000) : Calls Tryz.prog 96 #[.string s, .int .u8 32] w (CutsPost w (Cal.cutT 32 s.data.toList)) := by
  refine (Cut_any s 32 w hs).mono ?_
  rintro e w' ⟨v, rfl, hv, hb⟩
  obtain ⟨A, c, rfl, hr⟩ := hv.rows
  have h0 : 0 < (Cal.cutT 32 s.data.toList).length := by rw [Cal.cutT_length]; omega
  obtain ⟨b, o, rfl, hlt, _⟩ := txtRows_get hr h0
  obtain ⟨g, cap, cur, hg, hB, _, h3, _⟩ : ∃ (g cap : Nat) (cur : Array Value), (Value.slice (some ⟨b, o, none⟩) (Cal.cutT 32 s.data.toList).length c) = .slice (some ⟨g, 0, none⟩) (txtRows (Cal.cutT 32 s.data.toList)).length cap ∧ w.heap.size ≤ g ∧ True ∧ (txtRows (Cal.cutT 32 s.data.toList)).length ≤ cap ∧ True := by
    rcases hv.own.2 with ⟨h1, h2⟩ | ⟨g, cap, cur, h1, h2, _, h3, _⟩
    · cases h1
    · exact ⟨g, cap, cur, by rw [h1, txtRows_length], h2, trivial, by rw [txtRows_length]; exact h3, trivial⟩
  simp only [Value.slice.injEq, Option.some.injEq, Addr.mk.injEq] at hg
  obtain ⟨⟨rfl, rfl, _⟩, _, rfl⟩ := hg
  exact ⟨_, _, _, rfl, by rw [txtRows_length] at h3; exact h3, hB, hr, hb⟩
theorem CutL_any (s : ByteArray) (w : World) (hs : s.size ≤ 1000000) : Calls Tryz.prog 96 #[.string s, .int .u8 10] w fun e w' => ∃ v, e = .returned v ∧ TextsL w' w.heap.size v (Cal.cutT 10 s.data.toList) ∧ Below w.heap.size w w' := Cut_any s 10 w hs
theorem results_midtt {P : Program} {fn : Func} {t u x : Tmp} {ty : TypeId} (h : fn.results = #[.cell t ty, .tmp u, .tmp x]) (tmps : Array Value) (w : World) (g : Nat) (cs : List Value) (d : TypeDesc)
    (hp : tmps.getD t undef = .pointer (some ⟨g, 0, none⟩)) (hc : w.rangeAt g 0 cs) (hu : P.underlying ty = some d) (hd : d.isRow = true) (hi : (P.info? ty).map (·.size) = some cs.length) :
    (results fn tmps).run P w = .ok (.tuple #[.agg cs.toArray, tmps.getD u undef, tmps.getD x undef]) w := by
  have hp' : tmps[t]?.getD undef = .pointer (some ⟨g, 0, none⟩) := by simpa using hp
  simp [results, h, hp', asAddr, run_loadVar_mid w g 0 ty cs d hc hu hd hi]
/-- What the loop keeps. -/
structure NrS (w : World) (B : Nat) (A : Option Addr) (zs : List (List UInt8)) (st : Note) (v : Value) (W : World) : Prop where
  b0 : BoxAt W w.heap.size [.string ⟨#[]⟩, .int .i64 0, .slice none 0 0]
  nt : NtS B (w.heap.size + 1) st v W
  rows : RowsAt W A 1 (txtRows zs)
  base : ∀ a, A = some a → a.block < B ∧ w.heap.size + 1 < a.block
  fr : Below w.heap.size w W
theorem NrS.below {w : World} {B : Nat} {A : Option Addr} {zs : List (List UInt8)} {st : Note} {v : Value} {W W' : World} (h : NrS w B A zs st v W) (hb : Below W.heap.size W W') : NrS w B A zs st v W' :=
  ⟨h.b0.below hb, h.nt.below hb, h.rows.below hb, h.base, below_step h.fr hb⟩
theorem NrS.moved {w : World} {B : Nat} {A : Option Addr} {zs : List (List UInt8)} {st st' : Note} {v v' : Value} {W W' : World} (h : NrS w B A zs st v W) (hn : NtS B (w.heap.size + 1) st' v' W') (hm : Moved W W' (w.heap.size + 1) v.ownBlock) : NrS w B A zs st' v' W' := by
  have hne : ∀ b, b < B → some b ≠ v.ownBlock := fun b hb e => by have := (h.nt.own.lt b e.symm).1; omega
  have hlt := h.nt.lt
  refine ⟨h.b0.moved hm (by omega) (hne _ (by omega)), hn, fun k r hr => ?_, h.base, ⟨hm.os.trans h.fr.os, hm.tape.trans h.fr.tape, hm.output.trans h.fr.output, Nat.le_trans h.fr.size hm.size, fun i hi => (hm.block i (Nat.lt_of_lt_of_le hi h.fr.size) (by omega) (hne _ (by omega))).trans (h.fr.block i hi)⟩⟩
  obtain ⟨b, o, hA, hb, hc⟩ := h.rows k r hr
  obtain ⟨h1, h2⟩ := h.base _ hA
  exact ⟨b, o, hA, Nat.lt_of_lt_of_le hb hm.size, fun j u hu => (World.cell?_of_block (a := ⟨b, o + (k * 1 + j), none⟩) (hm.block b hb (by simp at h2; omega) (hne _ h1))).trans (hc j u hu)⟩
set_option maxRecDepth 100000 in
set_option maxHeartbeats 4000000 in
theorem NParseR_any (s : ByteArray) (w : World) (hs : s.size ≤ 1000000) : Calls Tryz.prog 44 #[.string s] w (NParsePost w (Cal.parseN s.data.toList)) := by
  have hll := Lib.hid (list_len s)
  by_cases h0 : 60000 < s.size
  · have hfin : Hid (Cal.parseN s.data.toList = (Cal.note0, 0, 8)) := by show _ = _; unfold Cal.parseN; rw [if_pos (by rw [list_len]; exact h0)]
    have g0 := Lib.hid (BoxAt.new w #[.string ⟨#[]⟩, .int .i64 0, .slice none 0 0] 93)
    have hb := Lib.hid (below_alloc w (.cells #[.string ⟨#[]⟩, .int .i64 0, .slice none 0 0] 93))
    go_enter Tryz.func44, Tryz.ntmps44
    go_wp2_with (refine wpList_store_box rfl 93 (.tmp 2) (.tmp 15) rfl (w.heap.size) _ [.string ⟨#[]⟩, .int .i64 0, .slice none 0 0] (by rfl) (by rfl) g0.out rfl ntSz (by kernel_rfl) ?_; intro w4 h4 hg4)
    refine bodyPost_ret (results_midtt rfl _ _ w.heap.size [.string ⟨#[]⟩, .int .i64 0, .slice none 0 0] _ rfl h4.range Tryz.underlying93 rfl ntSz) rfl ?_
    exact nparse_err hfin.out (below_of_grownB hb.out hg4 (Nat.le_refl _))
  · have hpt : Hid (Cal.parseN s.data.toList = Cal.finN (Cal.nLines 0 Cal.note0 (Cal.cutT 10 s.data.toList))) := by show _ = _; unfold Cal.parseN; rw [if_neg (by rw [list_len]; exact h0)]
    have hzl : (Cal.cutT 10 s.data.toList).length ≤ s.size + 1 := by
      rw [Cal.cutT_length]
      have := List.count_le_length (a := (10 : UInt8)) (l := s.data.toList)
      rw [hll.out] at this
      omega
    have hz0 : 0 < (Cal.cutT 10 s.data.toList).length := by rw [Cal.cutT_length]; omega
    have hzm : Hid (∀ z ∈ Cal.cutT 10 s.data.toList, z.length ≤ s.size) := fun z hz => by have := (Cal.cutT_mem hz).2; rwa [hll.out] at this
    have g0 := BoxAt.new w #[.string ⟨#[]⟩, .int .i64 0, .slice none 0 0] 93
    have g1 := BoxAt.new (w.alloc (.cells #[.string ⟨#[]⟩, .int .i64 0, .slice none 0 0] 93)) #[.string ⟨#[]⟩, .int .i64 0, .slice none 0 0] 93
    rw [World.size_alloc] at g1
    have gg := Lib.hid (And.intro (g0.alloc (.cells #[.string ⟨#[]⟩, .int .i64 0, .slice none 0 0] 93)) (And.intro g1 (below_step (below_alloc w (.cells #[.string ⟨#[]⟩, .int .i64 0, .slice none 0 0] 93)) (below_alloc (w.alloc (.cells #[.string ⟨#[]⟩, .int .i64 0, .slice none 0 0] 93)) (.cells #[.string ⟨#[]⟩, .int .i64 0, .slice none 0 0] 93)))))
    have hsz2 : ((w.alloc (.cells #[.string ⟨#[]⟩, .int .i64 0, .slice none 0 0] 93)).alloc (.cells #[.string ⟨#[]⟩, .int .i64 0, .slice none 0 0] 93)).heap.size = w.heap.size + 2 := by simp
    clear g0 g1
    go_enter Tryz.func44, Tryz.ntmps44
    go_wp2_with fail
    refine (CutL_any s _ hs).mono ?_
    rintro e w1 ⟨v, rfl, hv, hb1⟩
    obtain ⟨A, cap, rfl, hrow⟩ := hv.rows
    have hS0 : Hid (NrS w w1.heap.size A (Cal.cutT 10 s.data.toList) Cal.note0 (.slice none 0 0) w1) := by
      refine ⟨gg.out.1.below hb1, ⟨gg.out.2.1.below hb1, OwnL.nil _ _ _ _, Nat.le_refl _, by have := hb1.size; omega⟩, hrow, fun a e => ?_, below_step gg.out.2.2 hb1⟩
      obtain ⟨b, o, e2, hlt, _⟩ := txtRows_get hrow hz0
      rw [e2] at e; cases e
      refine ⟨hlt, ?_⟩
      have h := OwnL.lt hv b (by rw [e2]; rfl)
      have := h.1
      show w.heap.size + 1 < b
      omega
    clear hv hb1 hrow gg
    generalize Cal.cutT 10 s.data.toList = zs at *
    go_wp2_with fail
    go_loopw [7] (fun i wr => ∃ (k : Nat) (st : Note) (v : Value), k < zs.length ∧ i = .int .i64 k ∧ Hid (NrS w w1.heap.size A zs st v wr) ∧ Hid (Cal.nLines k st (zs.drop k) = Cal.nLines 0 Cal.note0 zs) ∧ Hid (st.acts.length ≤ k)) (fun i _ => zs.length - (intOf i).toNat)
    case atStart => exact ⟨0, Cal.note0, _, hz0, rfl, hS0, rfl, Nat.le_refl _⟩
    case round =>
      obtain ⟨k, st, v, hk, rfl, hS, hinv, hal⟩ := hrel
      clear hS0
      have hzk := hzm.out _ (List.getElem_mem hk)
      obtain ⟨b2, o2, rfl, hbl, zb, hzb, e1⟩ := txtRows_get hS.out.rows hk
      have hzs : zb.size ≤ 1000000 := by rw [← list_len, hzb]; omega
      have hdr := Lib.hid (List.drop_eq_getElem_cons hk)
      obtain ⟨Av, cv, rfl, _⟩ := OwnL.form hS.out.nt.own
      obtain ⟨nv, hnv⟩ : ∃ nv, nv = (st.acts.map NAct.cells).length := ⟨_, rfl⟩
      have hnvz : Hid (nv = st.acts.length) := by show _ = _; rw [hnv, List.length_map]
      rw [← hnv] at hS
      clear hnv
      have hs0 := hS.out.fr.size
      by_cases hk0 : k = 0
      · subst hk0
        have e1 : wr.cell? ⟨b2, o2, none⟩ = some (.string zb) := e1
        by_cases hone : zs.length = 1
        · have hq3 : decide ((0 : Int) < (zs.length : Int) - 1) = false := decide_eq_false (by omega)
          have hq4 : zs.length ≤ 1 := by omega
          have hq5 : (zs.length : Int) ≤ 1 := by omega
          have hfin : Hid (Cal.parseN s.data.toList = (Cal.note0, ((0 + 1 : Nat) : Int), 7)) := by
            show _ = _
            rw [hpt.out, ← hinv.out, hdr.out, List.drop_eq_nil_of_le (by omega), Cal.nLines_last, if_neg (by rintro ⟨_, h⟩; omega)]
            rfl
          clear hdr hinv hzk hzb hone
          go_wp2_with fail
          refine (CutC_any zb _ hzs).mono ?_
          rintro e w5 ⟨bz, oz, cz, rfl, hcap, hbz, hrw, hb5⟩
          have hS5 := Lib.hid (hS.out.below hb5)
          have hrw := Lib.hid hrw
          clear hb5 e1
          generalize Cal.cutT 32 zb.data.toList = ws at *
          go_wp2_with (refine wpList_store_box rfl 93 (.tmp 2) (.tmp 78) rfl (w.heap.size) _ [.string ⟨#[]⟩, .int .i64 0, .slice none 0 0] (by rfl) (by rfl) hS5.out.b0 rfl ntSz (by kernel_rfl) ?_; intro w6 h6 hg6)
          refine bodyPost_ret (results_midtt rfl _ _ w.heap.size [.string ⟨#[]⟩, .int .i64 0, .slice none 0 0] _ rfl h6.range Tryz.underlying93 rfl ntSz) rfl ?_
          exact nparse_err (by rw [hfin.out]; simp; try omega) (below_of_grownB hS5.out.fr hg6 (Nat.le_refl _))
        · have hq3 : decide ((0 : Int) < (zs.length : Int) - 1) = true := decide_eq_true (by omega)
          have hq4 : 1 < zs.length := by omega
          have hq5 : (1 : Int) < (zs.length : Int) := by omega
          have hdn : zs.drop (0 + 1) ≠ [] := by intro e; have := congrArg List.length e; rw [List.length_drop] at this; simp at this; omega
          have hbad : Cal.nLine 0 st zb.data.toList = none → Hid (Cal.parseN s.data.toList = (Cal.note0, ((0 + 1 : Nat) : Int), 7)) := fun h => by
            show _ = _
            rw [hpt.out, ← hinv.out, hdr.out, ← hzb, Cal.nLines_bad hdn h]
            rfl
          have hgood : ∀ st', Cal.nLine 0 st zb.data.toList = some st' → Hid (Cal.nLines (0 + 1) st' (zs.drop (0 + 1)) = Cal.nLines 0 Cal.note0 zs) := fun st' h => by
            show _ = _
            rw [← hinv.out, hdr.out, ← hzb, Cal.nLines_good hdn h]
          by_cases h3 : (Cal.cutT 32 zb.data.toList).length = 3
          · obtain ⟨a, b, c, hz⟩ : ∃ a b c, Cal.cutT 32 zb.data.toList = [a, b, c] := by
              rcases hz : Cal.cutT 32 zb.data.toList with _ | ⟨a, _ | ⟨b, _ | ⟨c, _ | ⟨d, r⟩⟩⟩⟩ <;> rw [hz] at h3 <;> simp at h3
              exact ⟨a, b, c, rfl⟩
            have hnl : Cal.nLine 0 st zb.data.toList = if a = Cal.wNotice ∧ (Cal.numS c 7).2 = true then some ⟨⟨b.toArray⟩, (Cal.numS c 7).1, st.acts⟩ else none := by unfold Cal.nLine; rw [if_pos rfl, hz]
            have hcl : c.length ≤ 1000000 := by
              have := (Cal.cutT_mem (c := 32) (l := zb.data.toList) (x := c) (by rw [hz]; simp)).2
              rw [list_len] at this; omega
            have hzz := Lib.hid hz
            have hnlz := Lib.hid hnl
            have hbad := Lib.hid hbad
            have hgood := Lib.hid hgood
            clear h3 hz hnl hdr hinv hzk hzb hdn hone
            go_wp2_with fail
            refine (CutC_any zb _ hzs).mono ?_
            rintro e w5 ⟨bz, oz, cz, rfl, hcap, hbz, hrw, hb5⟩
            have hS5 := Lib.hid (hS.out.below hb5)
            have hrw := Lib.hid hrw
            clear hb5 e1
            rw [hzz.out] at hrw hcap ⊢
            obtain ⟨_, _, eA, hbl5, za, hza, ta⟩ := txtRows_get (k := 0) hrw.out (by simp)
            cases eA
            obtain ⟨_, _, eA, _, Xb, hXb, tb⟩ := txtRows_get (k := 1) hrw.out (by simp)
            cases eA
            have hXbz : Hid (Xb.data.toList = b) := hXb
            have hza' : za.data.toList = a := hza
            have ta : w5.cell? ⟨bz, oz, none⟩ = some (.string za) := ta
            clear hza hXb
            by_cases ha : a = Cal.wNotice
            · have hq : (za.toList == [110, 111, 116, 105, 99, 101]) = true := by rw [ByteArray.toList_eq, hza', ha]; rfl
              obtain ⟨hdr, hdrow⟩ := txtDrop (b := bz) (o := oz) (k := 2) hcap (by simp)
              have hdrow := Lib.hid (hdrow _ hrw.out)
              have hdr : ∀ w', (Instr.slice 165 (.slice (some ⟨bz, oz, none⟩) 3 cz) (some (.int .i64 2)) none none).run Tryz.prog w' = .ok (.slice (some ⟨bz, oz + 2, none⟩) 1 (cz - 2)) w' := hdr
              have haz := Lib.hid ha
              clear ha hza'
              go_wp2_with fail
              refine (numbersR_any (some ⟨bz, oz + 2, none⟩) (cz - 2) [c] _ hdrow.out (by simp) (by simpa using hcl)).mono ?_
              rintro e w2 ⟨vl, rfl, hlv, hb2⟩
              have hS2 := Lib.hid (hS5.out.below hb2)
              have tb2 := (hb2.cell (p := ⟨bz, oz + 1, none⟩) hbl5).trans tb
              have hg1 := hb2.size
              clear tb ta hq
              by_cases hok : (Cal.numS c 7).2 = true
              · have hr1 : Cal.numsF [] [c] = some [(Cal.numS c 7).1] := by rw [Cal.numsF_cons, if_pos hok]; rfl
                rw [hr1] at hlv ⊢
                have hnx := hgood.out _ (hnlz.out.trans (if_pos ⟨haz.out, hok⟩))
                clear hr1 hok
                generalize (Cal.numS c 7).1 = z at *
                obtain ⟨Al, cl, rfl, hlr⟩ := IntsL.rows hlv
                obtain ⟨bl, ol, rfl, hbll, hlc⟩ := hlr 0 [.int .i64 z] rfl
                have l0 : w2.cell? ⟨bl, ol, none⟩ = some (.int .i64 z) := hlc 0 _ rfl
                have hgl : w5.heap.size ≤ bl := (OwnL.lt hlv bl rfl).1
                have hlt1 := hS.out.nt.box.lt
                have hlt5 := hS5.out.nt.box.lt
                clear hlr hlc hlv hb2
                go_wp2_with fail
                have cS := Lib.hid (fun (w' : World) (h1 : w'.heap[bz]? = w2.heap[bz]?) (h2 : w'.heap[bl]? = w2.heap[bl]?) => (show ((fun w' => w'.cell? ⟨bz, oz + 1, none⟩ = some (.string Xb) ∧ w'.cell? ⟨bl, ol, none⟩ = some (.int .i64 z))) w' from ⟨(World.cell?_of_block (a := ⟨bz, oz + 1, none⟩) h1).trans tb2, (World.cell?_of_block (a := ⟨bl, ol, none⟩) h2).trans l0⟩))
                have hxx := hS2.out.nt.box
                have f0 := hxx.free 0 (by simp)
                have f1 := hxx.free 1 (by simp)
                have hS2a := hxx.set 0 (.string Xb) (by simp)
                have hS2b := hS2a.set 1 (.int .i64 z) (by simp)
                have hgr : w2.grownBy ((w2.setCell ⟨w.heap.size + 1, 0, none⟩ (.string Xb)).setCell ⟨w.heap.size + 1, 1, none⟩ (.int .i64 z)) (some (w.heap.size + 1)) := (grown_set _ _ _ _).trans (grown_set _ _ _ _)
                have hown := (hS2.out.nt.own.offF (B' := w.heap.size + 1) 0 (.string Xb) hS2.out.nt.lt).offF (B' := w.heap.size + 1) 1 (.int .i64 z) hS2.out.nt.lt
                have hAll := Lib.hid (And.intro hS2b (And.intro hgr hown))
                have c0 := hxx.c 0 _ rfl
                have c1 := hxx.c 1 _ rfl
                clear hxx hS2a hS2b hgr hown
                refine wp_region_held_drew (S := (fun w' => w'.cell? ⟨bz, oz + 1, none⟩ = some (.string Xb) ∧ w'.cell? ⟨bl, ol, none⟩ = some (.int .i64 z))) (by kernel_rfl) (cS.out _ rfl rfl) (fun hHeld => ?_)
                (refine tkH 0 (v := ?_) ?_ ?_; rotate_left; focus (intro w' hSw; (try dsimp only at hSw); go_simp; (try with_reducible rfl)); (try simp only [Act.put, List.setIfInBounds_toArray, List.set_cons_zero, List.set_cons_succ]))
                (refine tkH 1 (v := ?_) ?_ ?_; rotate_left; focus (intro w' hSw; (try dsimp only at hSw); go_simp; (try with_reducible rfl)); (try simp only [Act.put, List.setIfInBounds_toArray, List.set_cons_zero, List.set_cons_succ]))
                (refine tkH 2 (v := ?_) ?_ ?_; rotate_left; focus (intro w' hSw; (try dsimp only at hSw); go_simp; (try with_reducible rfl)); (try simp only [Act.put, List.setIfInBounds_toArray, List.set_cons_zero, List.set_cons_succ]))
                (refine tkH 3 (v := ?_) ?_ ?_; rotate_left; focus (intro w' hSw; (try dsimp only at hSw); go_simp; (try with_reducible rfl)); (try simp only [Act.put, List.setIfInBounds_toArray, List.set_cons_zero, List.set_cons_succ]))
                (refine tkH 4 (v := ?_) ?_ ?_; rotate_left; focus (intro w' hSw; (try dsimp only at hSw); go_simp; (try with_reducible rfl)); (try simp only [Act.put, List.setIfInBounds_toArray, List.set_cons_zero, List.set_cons_succ]))
                (refine tkH 5 (v := ?_) ?_ ?_; rotate_left; focus (intro w' hSw; (try dsimp only at hSw); go_simp; (try with_reducible rfl)); (try simp only [Act.put, List.setIfInBounds_toArray, List.set_cons_zero, List.set_cons_succ]))
                (refine tkH 6 (v := ?_) ?_ ?_; rotate_left; focus (intro w' hSw; (try dsimp only at hSw); go_simp; (try with_reducible rfl)); (try simp only [Act.put, List.setIfInBounds_toArray, List.set_cons_zero, List.set_cons_succ]))
                (refine wpAnyH_ready (rs := [7]) (by decide +kernel) (by simp) ?_; refine AllReadyH.cons rfl (fun K hK => ?_) AllReadyH.nil; rw [if_pos (by kernel_rfl)]; go_simp)
                (refine hK.out _ _ (cS.out _ (Below.heap_setCell _ ⟨w.heap.size + 1, 0, none⟩ _ bz (by show bz ≠ w.heap.size + 1; omega)) (Below.heap_setCell _ ⟨w.heap.size + 1, 0, none⟩ _ bl (by show bl ≠ w.heap.size + 1; omega))) (fun hHeld => ?_); clear hK K; (try simp only [Act.put]); (try simp only [List.setIfInBounds_toArray]); (try simp only [List.set_cons_zero, List.set_cons_succ]))
                (refine tkH 8 (v := ?_) ?_ ?_; rotate_left; focus (intro w' hSw; (try dsimp only at hSw); go_simp; (try with_reducible rfl)); (try simp only [Act.put, List.setIfInBounds_toArray, List.set_cons_zero, List.set_cons_succ]))
                (refine wpAnyH_ready (rs := [9]) (by decide +kernel) (by simp) ?_; refine AllReadyH.cons rfl (fun K hK => ?_) AllReadyH.nil; rw [if_pos (by kernel_rfl)]; go_simp)
                (refine hK.out _ _ (cS.out _ ((Below.heap_setCell _ ⟨w.heap.size + 1, 1, none⟩ _ bz (by show bz ≠ w.heap.size + 1; omega)).trans (Below.heap_setCell _ ⟨w.heap.size + 1, 0, none⟩ _ bz (by show bz ≠ w.heap.size + 1; omega))) ((Below.heap_setCell _ ⟨w.heap.size + 1, 1, none⟩ _ bl (by show bl ≠ w.heap.size + 1; omega)).trans (Below.heap_setCell _ ⟨w.heap.size + 1, 0, none⟩ _ bl (by show bl ≠ w.heap.size + 1; omega)))) (fun hHeld => ?_); clear hK K; (try simp only [Act.put]); (try simp only [List.setIfInBounds_toArray]); (try simp only [List.set_cons_zero, List.set_cons_succ]))
                refine wpAnyH_done (by kernel_rfl) ?_ _
                clear hHeld c0 c1 f0 f1 cS
                obtain ⟨x1, x2, x3⟩ := hAll.out
                have hS9 : Hid (NrS w w1.heap.size (some ⟨b2, o2, none⟩) zs ⟨⟨b.toArray⟩, z, st.acts⟩ (.slice Av nv cv) (((w2.setCell ⟨w.heap.size + 1, 0, none⟩ (.string Xb)).setCell ⟨w.heap.size + 1, 1, none⟩ (.int .i64 z)).drew)) := by
                  show NrS _ _ _ _ _ _ _
                  have hb3 : (⟨b.toArray⟩ : ByteArray) = Xb := by rw [← hXbz.out]
                  refine NrS.below (NrS.moved hS2.out ⟨?_, x3, Nat.le_trans hS2.out.nt.base x2.size, hS2.out.nt.lt⟩ ⟨x2.os, x2.tape, x2.output, x2.size, fun i hi hne _ => x2.block i hi (fun e => hne (by cases e; rfl))⟩) (Below.refl _ _).drew
                  show BoxAt _ _ [.string ⟨b.toArray⟩, .int .i64 z, .slice Av nv cv]
                  rw [hb3]
                  exact x1
                clear x1 x2 x3 hAll
                go_wp2_with fail
                go_roundw
                case rel => exact ⟨0 + 1, _, _, by omega, by go_num, hS9, hnx, Nat.le_succ_of_le hal.out⟩
                case measure => simp [intOf]; omega
              · have hr1 : Cal.numsF [] [c] = none := by rw [Cal.numsF_cons, if_neg hok]
                rw [hr1]
                have hfin := hbad.out (hnlz.out.trans (if_neg (fun h => hok h.2)))
                clear hr1 hok hlv hb2
                go_wp2_with (refine wpList_store_box rfl 93 (.tmp 2) (.tmp 92) rfl (w.heap.size) _ [.string ⟨#[]⟩, .int .i64 0, .slice none 0 0] (by rfl) (by rfl) hS2.out.b0 rfl ntSz (by kernel_rfl) ?_; intro w6 h6 hg6)
                refine bodyPost_ret (results_midtt rfl _ _ w.heap.size [.string ⟨#[]⟩, .int .i64 0, .slice none 0 0] _ rfl h6.range Tryz.underlying93 rfl ntSz) rfl ?_
                exact nparse_err (by rw [hfin.out]; simp; try omega) (below_of_grownB hS2.out.fr hg6 (Nat.le_refl _))
            · have hq : (za.toList == [110, 111, 116, 105, 99, 101]) = false := by
                rw [ByteArray.toList_eq, hza', beq_eq_false_iff_ne]; exact ha
              have hfin := hbad.out (hnlz.out.trans (if_neg (fun h => ha h.1)))
              clear ha hza' tb
              go_wp2_with (refine wpList_store_box rfl 93 (.tmp 2) (.tmp 78) rfl (w.heap.size) _ [.string ⟨#[]⟩, .int .i64 0, .slice none 0 0] (by rfl) (by rfl) hS5.out.b0 rfl ntSz (by kernel_rfl) ?_; intro w6 h6 hg6)
              refine bodyPost_ret (results_midtt rfl _ _ w.heap.size [.string ⟨#[]⟩, .int .i64 0, .slice none 0 0] _ rfl h6.range Tryz.underlying93 rfl ntSz) rfl ?_
              exact nparse_err (by rw [hfin.out]; simp; try omega) (below_of_grownB hS5.out.fr hg6 (Nat.le_refl _))
          · have hn3 : (((Cal.cutT 32 zb.data.toList).length : Int) == 3) = false := by rw [beq_eq_false_iff_ne]; omega
            have hfin := hbad (by
              unfold Cal.nLine
              rw [if_pos rfl]
              split
              · rename_i hz; rw [hz] at h3; exact absurd rfl h3
              · rfl)
            clear hdr hinv hzk hzb hone h3 hdn hbad hgood
            go_wp2_with fail
            refine (CutC_any zb _ hzs).mono ?_
            rintro e w5 ⟨bz, oz, cz, rfl, hcap, hbz, hrw, hb5⟩
            have hS5 := Lib.hid (hS.out.below hb5)
            have hrw := Lib.hid hrw
            clear hb5 e1
            generalize Cal.cutT 32 zb.data.toList = ws at *
            go_wp2_with (refine wpList_store_box rfl 93 (.tmp 2) (.tmp 78) rfl (w.heap.size) _ [.string ⟨#[]⟩, .int .i64 0, .slice none 0 0] (by rfl) (by rfl) hS5.out.b0 rfl ntSz (by kernel_rfl) ?_; intro w6 h6 hg6)
            refine bodyPost_ret (results_midtt rfl _ _ w.heap.size [.string ⟨#[]⟩, .int .i64 0, .slice none 0 0] _ rfl h6.range Tryz.underlying93 rfl ntSz) rfl ?_
            exact nparse_err (by rw [hfin.out]; simp; try omega) (below_of_grownB hS5.out.fr hg6 (Nat.le_refl _))
      · have hkb : ((k : Int) == 0) = false := by rw [beq_eq_false_iff_ne]; omega
        have hk1 : 0 < k := by omega
        by_cases hl : k + 1 = zs.length
        · have hq1 : ((k : Int) == (zs.length : Int) - 1) = true := by rw [beq_iff_eq]; omega
          have e1 : wr.cell? ⟨b2, o2 + (zs.length - 1), none⟩ = some (.string zb) := by rw [show zs.length - 1 = k by omega]; exact e1
          have hdl : zs.drop k = [zs[k]] := by rw [List.drop_eq_getElem_cons hk, List.drop_eq_nil_of_le (by omega)]
          have hz2 : 1 < zs.length := by omega
          have hkb2 : ((zs.length : Int) - 1 == 0) = false := by rw [beq_eq_false_iff_ne]; omega
          have hkb3 : ¬ zs.length = 1 := by omega
          have hkb4 : ¬ (zs.length : Int) = 1 := by omega
          have hkb5 : ¬ (zs.length : Int) - 1 = 0 := by omega
          have hq3 : decide ((k : Int) < (zs.length : Int) - 1) = false := decide_eq_false (by omega)
          have hq3a : (zs.length : Int) - 1 ≤ (k : Int) := by omega
          have hq3b : zs.length ≤ k + 1 := by omega
          have hq3c : (zs.length : Int) ≤ (k : Int) + 1 := by omega
          rw [hdl] at hinv
          by_cases hz : zb.size = 0
          · obtain rfl : zb = ⟨#[]⟩ := by
              rcases zb with ⟨⟨q⟩⟩
              have : q.length = 0 := hz
              rw [List.length_eq_zero_iff] at this
              rw [this]
            have hz1 : zs[k] = [] := hzb.symm
            have hok : Cal.nLines 0 Cal.note0 zs = .ok st := by rw [← hinv.out, hz1, Cal.nLines_last, if_pos ⟨rfl, hk1⟩]
            have hf0 := hpt.out
            rw [hok] at hf0
            have n0 := hS.out.nt.box.c 0 _ rfl
            have n1 := hS.out.nt.box.c 1 _ rfl
            have n2 := hS.out.nt.box.c 2 _ rfl
            clear hz hz1 hzb hinv hdl hdr hzk hok hl
            by_cases h40 : 40 < nv
            · have hfin : Hid (Cal.parseN s.data.toList = (Cal.note0, 0, 8)) := by
                show _ = _
                rw [hf0]
                show (if _ then _ else _) = _
                rw [if_pos (by rw [← hnvz.out]; exact h40)]
              clear hf0
              go_wp2_with (refine wpList_store_box rfl 93 (.tmp 2) (.tmp 124) rfl (w.heap.size) _ [.string ⟨#[]⟩, .int .i64 0, .slice none 0 0] (by rfl) (by rfl) hS.out.b0 rfl ntSz (by kernel_rfl) ?_; intro w6 h6 hg6)
              refine bodyPost_ret (results_midtt rfl _ _ w.heap.size [.string ⟨#[]⟩, .int .i64 0, .slice none 0 0] _ rfl h6.range Tryz.underlying93 rfl ntSz) rfl ?_
              exact nparse_err hfin.out (below_of_grownB hS.out.fr hg6 (Nat.le_refl _))
            · have hfin : Hid (Cal.parseN s.data.toList = (st, 0, 0)) := by
                show _ = _
                rw [hf0]
                show (if _ then _ else _) = _
                rw [if_neg (by rw [← hnvz.out]; exact h40)]
              have h40' : nv ≤ 40 := by omega
              have hAll := Lib.hid (OwnL.kept (w' := wr) hS.out.nt.own (World.grownBy.refl wr none) (by cases (Value.slice Av nv cv).ownBlock <;> simp))
              clear hf0 h40
              go_wp2_with (first | (refine wpList_load_mid rfl 93 (.tmp 5) rfl (w.heap.size + 1) 0 rfl [.string st.name, .int .i64 st.opened, .slice Av nv cv] _ hS.out.nt.box.range Tryz.underlying93 rfl ntSz ?_) | (refine wpList_store_box rfl 93 (.tmp 2) (.tmp 125) rfl (w.heap.size) _ [.string st.name, .int .i64 st.opened, .slice Av nv cv] (by rfl) (by rfl) hS.out.b0 rfl ntSz (by kernel_rfl) ?_; intro w6 h6 hg6))
              refine bodyPost_ret (results_midtt rfl _ _ w.heap.size [.string st.name, .int .i64 st.opened, .slice Av nv cv] _ rfl h6.range Tryz.underlying93 rfl ntSz) rfl ?_
              have q4 : OwnL w6 w1.heap.size 109 3 (.slice Av nv cv) (st.acts.map NAct.cells) := OwnL.kept hS.out.nt.own hg6 (by
                cases hv : (Value.slice Av nv cv).ownBlock with
                | none => exact .inl rfl
                | some g => right; intro e; have := (hS.out.nt.own.lt g hv).1; have := hS.out.nt.lt; injection e with e; omega)
              obtain ⟨A5, c5, hv5, hr5⟩ := OwnL.form q4
              rw [hfin.out]
              refine ⟨Av, cv, by rw [hnvz.out]; rfl, ⟨?_, by rw [← hnvz.out]; omega⟩, below_of_grownB hS.out.fr hg6 (Nat.le_refl _)⟩
              simp only [Value.slice.injEq] at hv5
              obtain ⟨rfl, _, rfl⟩ := hv5
              exact hr5
          · have hz0' : (zb.toList == []) = false := by
              rw [ByteArray.toList_eq, beq_eq_false_iff_ne]
              intro e
              exact hz (by rw [← list_len, e]; rfl)
            have hfin : Hid (Cal.parseN s.data.toList = (Cal.note0, ((k + 1 : Nat) : Int), 7)) := by
              show _ = _
              rw [hpt.out, ← hinv.out, Cal.nLines_last, if_neg]
              · rfl
              rintro ⟨e, _⟩
              rw [← hzb] at e
              exact hz (by rw [← list_len, e]; rfl)
            clear hdl hdr hinv hzk hl hz hzb
            go_wp2_with fail
            refine (CutC_any zb _ hzs).mono ?_
            rintro e w5 ⟨bz, oz, cz, rfl, hcap, hbz, hrw, hb5⟩
            have hS5 := Lib.hid (hS.out.below hb5)
            have hrw := Lib.hid hrw
            clear hb5 e1
            generalize Cal.cutT 32 zb.data.toList = ws at *
            go_wp2_with (refine wpList_store_box rfl 93 (.tmp 2) (.tmp 78) rfl (w.heap.size) _ [.string ⟨#[]⟩, .int .i64 0, .slice none 0 0] (by rfl) (by rfl) hS5.out.b0 rfl ntSz (by kernel_rfl) ?_; intro w6 h6 hg6)
            refine bodyPost_ret (results_midtt rfl _ _ w.heap.size [.string ⟨#[]⟩, .int .i64 0, .slice none 0 0] _ rfl h6.range Tryz.underlying93 rfl ntSz) rfl ?_
            exact nparse_err (by rw [hfin.out]; simp; try omega) (below_of_grownB hS5.out.fr hg6 (Nat.le_refl _))
        · have hq1 : ((k : Int) == (zs.length : Int) - 1) = false := by rw [beq_eq_false_iff_ne]; omega
          have hq3 : decide ((k : Int) < (zs.length : Int) - 1) = true := decide_eq_true (by omega)
          have hq4 : k + 1 < zs.length := by omega
          have hdn : zs.drop (k + 1) ≠ [] := by intro e; have := congrArg List.length e; rw [List.length_drop] at this; simp at this; omega
          have hbad : Cal.nLine k st zb.data.toList = none → Hid (Cal.parseN s.data.toList = (Cal.note0, ((k + 1 : Nat) : Int), 7)) := fun h => by
            show _ = _
            rw [hpt.out, ← hinv.out, hdr.out, ← hzb, Cal.nLines_bad hdn h]
            rfl
          have hgood : ∀ st', Cal.nLine k st zb.data.toList = some st' → Hid (Cal.nLines (k + 1) st' (zs.drop (k + 1)) = Cal.nLines 0 Cal.note0 zs) := fun st' h => by
            show _ = _
            rw [← hinv.out, hdr.out, ← hzb, Cal.nLines_good hdn h]
          by_cases h4 : (Cal.cutT 32 zb.data.toList).length = 4
          · obtain ⟨a, b, c, d, hz⟩ : ∃ a b c d, Cal.cutT 32 zb.data.toList = [a, b, c, d] := by
              rcases hz : Cal.cutT 32 zb.data.toList with _ | ⟨a, _ | ⟨b, _ | ⟨c, _ | ⟨d, _ | ⟨e, r⟩⟩⟩⟩⟩ <;> rw [hz] at h4 <;> simp at h4
              exact ⟨a, b, c, d, rfl⟩
            have hcl : ∀ z ∈ [b, c, d], z.length ≤ 1000000 := fun z h => by
              have := (Cal.cutT_mem (c := 32) (l := zb.data.toList) (x := z) (by rw [hz]; simp at h; simp [h])).2
              rw [list_len] at this; omega
            have hzz := Lib.hid hz
            have hbad := Lib.hid hbad
            have hgood := Lib.hid hgood
            have hcl := Lib.hid hcl
            clear h4 hz hdr hinv hzk hzb hdn hl
            go_wp2_with fail
            refine (CutC_any zb _ hzs).mono ?_
            rintro e w5 ⟨bz, oz, cz, rfl, hcap, hbz, hrw, hb5⟩
            have hS5 := Lib.hid (hS.out.below hb5)
            have hrw := Lib.hid hrw
            clear hb5 e1
            rw [hzz.out] at hrw hcap ⊢
            obtain ⟨_, _, eA, hbl5, za, hza, ta⟩ := txtRows_get (k := 0) hrw.out (by simp)
            cases eA
            have hza' : za.data.toList = a := hza
            have ta : w5.cell? ⟨bz, oz, none⟩ = some (.string za) := ta
            clear hza
            by_cases ha : a = Cal.wAct
            · have hq : (za.toList == [97, 99, 116]) = true := by rw [ByteArray.toList_eq, hza', ha]; rfl
              obtain ⟨hdr, hdrow⟩ := txtDrop (b := bz) (o := oz) (k := 1) hcap (by simp)
              have hdrow := Lib.hid (hdrow _ hrw.out)
              have hdr : ∀ w', (Instr.slice 165 (.slice (some ⟨bz, oz, none⟩) 4 cz) (some (.int .i64 1)) none none).run Tryz.prog w' = .ok (.slice (some ⟨bz, oz + 1, none⟩) 3 (cz - 1)) w' := hdr
              have hline := nLine_act (s := st) (x := zb.data.toList) (r := [b, c, d]) hk1 (by rw [hzz.out, ha]) rfl
              rw [if_pos (show (([b, c, d] : List (List UInt8)).length : Int) = 3 from rfl)] at hline
              have hnum := Lib.hid (fun w2 h2 => numbersR_any (some ⟨bz, oz + 1, none⟩) (cz - 1) [b, c, d] w2 h2 (by simp) hcl.out)
              clear ha hza'
              generalize Cal.numsF [] [b, c, d] = Q at hnum hline
              rcases hline with ⟨rfl, hnl⟩ | ⟨p, q, t, rfl, hnl⟩
              · have hfin := hbad.out hnl
                clear hnl
                go_wp2_with fail
                refine (hnum.out _ hdrow.out).mono ?_
                rintro e w2 ⟨vl, rfl, hlv, hb2⟩
                have hS2 := Lib.hid (hS5.out.below hb2)
                clear hb2 hlv ta hq
                go_wp2_with (refine wpList_store_box rfl 93 (.tmp 2) (.tmp 92) rfl (w.heap.size) _ [.string ⟨#[]⟩, .int .i64 0, .slice none 0 0] (by rfl) (by rfl) hS2.out.b0 rfl ntSz (by kernel_rfl) ?_; intro w6 h6 hg6)
                refine bodyPost_ret (results_midtt rfl _ _ w.heap.size [.string ⟨#[]⟩, .int .i64 0, .slice none 0 0] _ rfl h6.range Tryz.underlying93 rfl ntSz) rfl ?_
                exact nparse_err (by rw [hfin.out]; simp; try omega) (below_of_grownB hS2.out.fr hg6 (Nat.le_refl _))
              · have hnx := hgood.out _ hnl
                clear hnl
                go_wp2_with fail
                refine (hnum.out _ hdrow.out).mono ?_
                rintro e w2 ⟨vl, rfl, hlv, hb2⟩
                have hS2 := Lib.hid (hS5.out.below hb2)
                clear hb2 ta hq
                obtain ⟨Al, cl, rfl, hlr⟩ := IntsL.rows hlv
                obtain ⟨bl, ol, rfl, hbll, hlc⟩ := hlr 0 [.int .i64 p] rfl
                obtain ⟨_, _, eA, _, hlc1⟩ := hlr 1 [.int .i64 q] rfl
                cases eA
                obtain ⟨_, _, eA, _, hlc2⟩ := hlr 2 [.int .i64 t] rfl
                cases eA
                have l0 : w2.cell? ⟨bl, ol, none⟩ = some (.int .i64 p) := hlc 0 _ rfl
                have l1 : w2.cell? ⟨bl, ol + 1, none⟩ = some (.int .i64 q) := hlc1 0 _ rfl
                have l2 : w2.cell? ⟨bl, ol + 2, none⟩ = some (.int .i64 t) := hlc2 0 _ rfl
                have hgl : w5.heap.size ≤ bl := (OwnL.lt hlv bl rfl).1
                have hlt1 := hS.out.nt.box.lt
                have hlt5 := hS5.out.nt.box.lt
                have hal2 : st.acts.length ≤ 1000001 := by have := hal.out; omega
                clear hlr hlc hlc1 hlc2 hlv
                go_wp2_with fail
                have hgB : ∀ g, (Value.slice Av nv cv).ownBlock = some g → w1.heap.size ≤ g ∧ g < w5.heap.size := OwnL.lt hS5.out.nt.own
                have cS := Lib.hid (fun (w' : World) (h2 : w'.heap[bl]? = w2.heap[bl]?) => (show ((fun w' => w'.cell? ⟨bl, ol, none⟩ = some (.int .i64 p) ∧ w'.cell? ⟨bl, ol + 1, none⟩ = some (.int .i64 q) ∧ w'.cell? ⟨bl, ol + 2, none⟩ = some (.int .i64 t))) w' from ⟨(World.cell?_of_block (a := ⟨bl, ol, none⟩) h2).trans l0, (World.cell?_of_block (a := ⟨bl, ol + 1, none⟩) h2).trans l1, (World.cell?_of_block (a := ⟨bl, ol + 2, none⟩) h2).trans l2⟩))
                have hSd := Lib.hid (hS2.out.below (Below.refl _ _).drew)
                have hSa := Lib.hid ((hS2.out.below (below_alloc w2 (.cells #[.int .i64 p, .int .i64 q, .int .i64 t] 109))).below (Below.refl _ _).drew)
                have hsrc : RowsAt (w2.alloc (.cells #[.int .i64 p, .int .i64 q, .int .i64 t] 109)).drew (some ⟨w2.heap.size, 0, none⟩) 3 ([(⟨p, q, t⟩ : NAct)].map NAct.cells) := rowsAt_new w2 [.int .i64 p, .int .i64 q, .int .i64 t] 109
                have hsrc := Lib.hid hsrc
                have c2 := hSd.out.nt.box.c 2 _ rfl
                have c2a := hSa.out.nt.box.c 2 _ rfl
                clear l0 l1 l2
                refine wp_region_held_drew (S := (fun w' => w'.cell? ⟨bl, ol, none⟩ = some (.int .i64 p) ∧ w'.cell? ⟨bl, ol + 1, none⟩ = some (.int .i64 q) ∧ w'.cell? ⟨bl, ol + 2, none⟩ = some (.int .i64 t))) (by kernel_rfl) (cS.out _ rfl) (fun hHeld => ?_)
                (refine tkH 0 (v := ?_) ?_ ?_; rotate_left; focus (intro w' hSw; (try dsimp only at hSw); go_simp; (try with_reducible rfl)); (try simp only [Act.put, List.setIfInBounds_toArray, List.set_cons_zero, List.set_cons_succ]))
                (refine tkH 2 (v := ?_) ?_ ?_; rotate_left; focus (intro w' hSw; (try dsimp only at hSw); go_simp; (try with_reducible rfl)); (try simp only [Act.put, List.setIfInBounds_toArray, List.set_cons_zero, List.set_cons_succ]))
                (refine tkH 3 (v := ?_) ?_ ?_; rotate_left; focus (intro w' hSw; (try dsimp only at hSw); go_simp; (try with_reducible rfl)); (try simp only [Act.put, List.setIfInBounds_toArray, List.set_cons_zero, List.set_cons_succ]))
                (refine tkH 4 (v := ?_) ?_ ?_; rotate_left; focus (intro w' hSw; (try dsimp only at hSw); go_simp; (try with_reducible rfl)); (try simp only [Act.put, List.setIfInBounds_toArray, List.set_cons_zero, List.set_cons_succ]))
                (refine tkH 5 (v := ?_) ?_ ?_; rotate_left; focus (intro w' hSw; (try dsimp only at hSw); go_simp; (try with_reducible rfl)); (try simp only [Act.put, List.setIfInBounds_toArray, List.set_cons_zero, List.set_cons_succ]))
                (refine tkH 6 (v := ?_) ?_ ?_; rotate_left; focus (intro w' hSw; (try dsimp only at hSw); go_simp; (try with_reducible rfl)); (try simp only [Act.put, List.setIfInBounds_toArray, List.set_cons_zero, List.set_cons_succ]))
                (refine tkH 7 (v := ?_) ?_ ?_; rotate_left; focus (intro w' hSw; (try dsimp only at hSw); go_simp; (try with_reducible rfl)); (try simp only [Act.put, List.setIfInBounds_toArray, List.set_cons_zero, List.set_cons_succ]))
                (refine tkH 8 (v := ?_) ?_ ?_; rotate_left; focus (intro w' hSw; (try dsimp only at hSw); go_simp; (try with_reducible rfl)); (try simp only [Act.put, List.setIfInBounds_toArray, List.set_cons_zero, List.set_cons_succ]))
                (refine tkH 9 (v := ?_) ?_ ?_; rotate_left; focus (intro w' hSw; (try dsimp only at hSw); go_simp; (try with_reducible rfl)); (try simp only [Act.put, List.setIfInBounds_toArray, List.set_cons_zero, List.set_cons_succ]))
                (refine tkH 10 (v := ?_) ?_ ?_; rotate_left; focus (intro w' hSw; (try dsimp only at hSw); go_simp; (try with_reducible rfl)); (try simp only [Act.put, List.setIfInBounds_toArray, List.set_cons_zero, List.set_cons_succ]))
                (refine tkH 11 (v := ?_) ?_ ?_; rotate_left; focus (intro w' hSw; (try dsimp only at hSw); go_simp; (try with_reducible rfl)); (try simp only [Act.put, List.setIfInBounds_toArray, List.set_cons_zero, List.set_cons_succ]))
                (refine wpAnyH_ready (rs := [1, 12]) (by decide +kernel) (by simp) ?_; refine AllReadyH.cons rfl (fun K hK => ?_) (AllReadyH.cons rfl (fun K hK => ?_) AllReadyH.nil))
                · (rw [if_pos (by kernel_rfl)]; go_simp)
                  (refine hK.out _ _ (cS.out _ rfl) (fun hHeld => ?_); clear hK K; (try simp only [Act.put]); (try simp only [List.setIfInBounds_toArray]); (try simp only [List.set_cons_zero, List.set_cons_succ]))
                  (refine wpAnyH_ready (rs := [12]) (by decide +kernel) (by simp) ?_; refine AllReadyH.cons rfl (fun K hK => ?_) AllReadyH.nil; rw [if_pos (by kernel_rfl)]; go_simp)
                  (refine hK.out _ _ (cS.out _ (Below.heap_alloc _ _ _ hbll)) (fun hHeld => ?_); clear hK K; (try simp only [Act.put]); (try simp only [List.setIfInBounds_toArray]); (try simp only [List.set_cons_zero, List.set_cons_succ]))
                  refine wpAnyH_ready (rs := [13]) (by decide +kernel) (by simp) ?_
                  refine AllReadyH.cons rfl (fun K hK => ?_) AllReadyH.nil
                  refine step_append_rows elemAct (by rfl) (.tmp 106) (.tmp 117) (by rfl) (by rfl) (by rfl) hSa.out.nt.own hsrc.out rfl (actCells_wid [⟨p, q, t⟩]) (actCells_one [⟨p, q, t⟩]) (by simp only [List.length_map, List.length_singleton]; omega) (by decide) hSa.out.nt.base ?_
                  intro v' w7 hown7 hg7 _
                  have hne : ∀ b, b < w1.heap.size → some b ≠ (Value.slice Av nv cv).ownBlock := fun b hb e => by have := (hgB b e.symm).1; omega
                  have hbl7 : w7.heap[bl]? = w2.heap[bl]? := (hg7.block bl (by show bl < (w2.alloc (.cells #[.int .i64 p, .int .i64 q, .int .i64 t] 109)).heap.size; rw [World.size_alloc]; exact Nat.lt_succ_of_lt hbll) (fun e => by have := (hgB bl e.symm).2; omega)).trans (Below.heap_alloc _ _ _ hbll)
                  have h7 := hSa.out.nt.box.grown hg7 (hne _ hSa.out.nt.lt)
                  have y0 := h7.c 2 _ rfl
                  have y1 := h7.free 2 (by simp)
                  obtain ⟨A5, c5, hv5, _⟩ := OwnL.form hown7
                  obtain ⟨q5, hq5⟩ : ∃ q5 : Nat, q5 = (st.acts.map NAct.cells ++ [(⟨p, q, t⟩ : NAct)].map NAct.cells).length := ⟨_, rfl⟩
                  rw [← hq5] at hv5
                  clear hq5
                  subst hv5
                  have hAll := Lib.hid (And.intro h7 (And.intro hown7 hg7))
                  clear h7 hown7 hg7
                  (refine hK.out _ _ (cS.out _ hbl7) (fun hHeld => ?_); clear hK K; (try simp only [Act.put]); (try simp only [List.setIfInBounds_toArray]); (try simp only [List.set_cons_zero, List.set_cons_succ]))
                  (try (refine tkH 14 (v := ?_) ?_ ?_; rotate_left; focus (intro w' hSw; (try dsimp only at hSw); go_simp; (try with_reducible rfl)); (try simp only [Act.put, List.setIfInBounds_toArray, List.set_cons_zero, List.set_cons_succ])))
                  (refine wpAnyH_ready (rs := [15]) (by decide +kernel) (by simp) ?_; refine AllReadyH.cons rfl (fun K hK => ?_) AllReadyH.nil; rw [if_pos (by kernel_rfl)]; go_simp)
                  (refine hK.out _ _ (cS.out _ ((Below.heap_setCell _ ⟨w.heap.size + 1, 2, none⟩ _ bl (by show bl ≠ w.heap.size + 1; omega)).trans hbl7)) (fun hHeld => ?_); clear hK K; (try simp only [Act.put]); (try simp only [List.setIfInBounds_toArray]); (try simp only [List.set_cons_zero, List.set_cons_succ]))
                  refine wpAnyH_done (by kernel_rfl) ?_ _
                  clear hHeld c2 c2a y0 y1 cS
                  obtain ⟨x1, x2, x3⟩ := hAll.out
                  have hS9 : Hid (NrS w w1.heap.size (some ⟨b2, o2, none⟩) zs ⟨st.name, st.opened, st.acts ++ [⟨p, q, t⟩]⟩ (.slice A5 q5 c5) (w7.setCell ⟨w.heap.size + 1, 2, none⟩ (.slice A5 q5 c5))) := by
                    show NrS _ _ _ _ _ _ _
                    refine NrS.moved hSa.out ⟨x1.set 2 _ (by simp), ?_, by rw [World.size_setCell]; exact Nat.le_trans hSa.out.nt.base x3.size, hSa.out.nt.lt⟩ ⟨x3.os, x3.tape, x3.output, by rw [World.size_setCell]; exact x3.size, fun i hi hn1 hn2 => (Below.heap_setCell _ ⟨w.heap.size + 1, 2, none⟩ _ i hn1).trans (x3.block i hi hn2)⟩
                    show OwnL _ _ _ _ _ ((st.acts ++ [(⟨p, q, t⟩ : NAct)]).map NAct.cells)
                    rw [List.map_append]
                    exact x2.offF 2 _ hSa.out.nt.lt
                  clear x1 x2 x3 hAll
                  go_wp2_with fail
                  go_roundw
                  case rel => exact ⟨k + 1, _, _, by omega, by go_num, hS9, hnx, by show (st.acts ++ [(⟨p, q, t⟩ : NAct)]).length ≤ k + 1; have := hal.out; rw [List.length_append, List.length_singleton]; omega⟩
                  case measure => simp [intOf]; omega
                · (rw [if_pos (by kernel_rfl)]; go_simp)
                  (refine hK.out _ _ (cS.out _ (Below.heap_alloc _ _ _ hbll)) (fun hHeld => ?_); clear hK K; (try simp only [Act.put]); (try simp only [List.setIfInBounds_toArray]); (try simp only [List.set_cons_zero, List.set_cons_succ]))
                  (refine wpAnyH_ready (rs := [1]) (by decide +kernel) (by simp) ?_; refine AllReadyH.cons rfl (fun K hK => ?_) AllReadyH.nil; rw [if_pos (by kernel_rfl)]; go_simp)
                  (refine hK.out _ _ (cS.out _ (Below.heap_alloc _ _ _ hbll)) (fun hHeld => ?_); clear hK K; (try simp only [Act.put]); (try simp only [List.setIfInBounds_toArray]); (try simp only [List.set_cons_zero, List.set_cons_succ]))
                  refine wpAnyH_ready (rs := [13]) (by decide +kernel) (by simp) ?_
                  refine AllReadyH.cons rfl (fun K hK => ?_) AllReadyH.nil
                  refine step_append_rows elemAct (by rfl) (.tmp 106) (.tmp 117) (by rfl) (by rfl) (by rfl) hSa.out.nt.own hsrc.out rfl (actCells_wid [⟨p, q, t⟩]) (actCells_one [⟨p, q, t⟩]) (by simp only [List.length_map, List.length_singleton]; omega) (by decide) hSa.out.nt.base ?_
                  intro v' w7 hown7 hg7 _
                  have hne : ∀ b, b < w1.heap.size → some b ≠ (Value.slice Av nv cv).ownBlock := fun b hb e => by have := (hgB b e.symm).1; omega
                  have hbl7 : w7.heap[bl]? = w2.heap[bl]? := (hg7.block bl (by show bl < (w2.alloc (.cells #[.int .i64 p, .int .i64 q, .int .i64 t] 109)).heap.size; rw [World.size_alloc]; exact Nat.lt_succ_of_lt hbll) (fun e => by have := (hgB bl e.symm).2; omega)).trans (Below.heap_alloc _ _ _ hbll)
                  have h7 := hSa.out.nt.box.grown hg7 (hne _ hSa.out.nt.lt)
                  have y0 := h7.c 2 _ rfl
                  have y1 := h7.free 2 (by simp)
                  obtain ⟨A5, c5, hv5, _⟩ := OwnL.form hown7
                  obtain ⟨q5, hq5⟩ : ∃ q5 : Nat, q5 = (st.acts.map NAct.cells ++ [(⟨p, q, t⟩ : NAct)].map NAct.cells).length := ⟨_, rfl⟩
                  rw [← hq5] at hv5
                  clear hq5
                  subst hv5
                  have hAll := Lib.hid (And.intro h7 (And.intro hown7 hg7))
                  clear h7 hown7 hg7
                  (refine hK.out _ _ (cS.out _ hbl7) (fun hHeld => ?_); clear hK K; (try simp only [Act.put]); (try simp only [List.setIfInBounds_toArray]); (try simp only [List.set_cons_zero, List.set_cons_succ]))
                  (try (refine tkH 14 (v := ?_) ?_ ?_; rotate_left; focus (intro w' hSw; (try dsimp only at hSw); go_simp; (try with_reducible rfl)); (try simp only [Act.put, List.setIfInBounds_toArray, List.set_cons_zero, List.set_cons_succ])))
                  (refine wpAnyH_ready (rs := [15]) (by decide +kernel) (by simp) ?_; refine AllReadyH.cons rfl (fun K hK => ?_) AllReadyH.nil; rw [if_pos (by kernel_rfl)]; go_simp)
                  (refine hK.out _ _ (cS.out _ ((Below.heap_setCell _ ⟨w.heap.size + 1, 2, none⟩ _ bl (by show bl ≠ w.heap.size + 1; omega)).trans hbl7)) (fun hHeld => ?_); clear hK K; (try simp only [Act.put]); (try simp only [List.setIfInBounds_toArray]); (try simp only [List.set_cons_zero, List.set_cons_succ]))
                  refine wpAnyH_done (by kernel_rfl) ?_ _
                  clear hHeld c2 c2a y0 y1 cS
                  obtain ⟨x1, x2, x3⟩ := hAll.out
                  have hS9 : Hid (NrS w w1.heap.size (some ⟨b2, o2, none⟩) zs ⟨st.name, st.opened, st.acts ++ [⟨p, q, t⟩]⟩ (.slice A5 q5 c5) (w7.setCell ⟨w.heap.size + 1, 2, none⟩ (.slice A5 q5 c5))) := by
                    show NrS _ _ _ _ _ _ _
                    refine NrS.moved hSa.out ⟨x1.set 2 _ (by simp), ?_, by rw [World.size_setCell]; exact Nat.le_trans hSa.out.nt.base x3.size, hSa.out.nt.lt⟩ ⟨x3.os, x3.tape, x3.output, by rw [World.size_setCell]; exact x3.size, fun i hi hn1 hn2 => (Below.heap_setCell _ ⟨w.heap.size + 1, 2, none⟩ _ i hn1).trans (x3.block i hi hn2)⟩
                    show OwnL _ _ _ _ _ ((st.acts ++ [(⟨p, q, t⟩ : NAct)]).map NAct.cells)
                    rw [List.map_append]
                    exact x2.offF 2 _ hSa.out.nt.lt
                  clear x1 x2 x3 hAll
                  go_wp2_with fail
                  go_roundw
                  case rel => exact ⟨k + 1, _, _, by omega, by go_num, hS9, hnx, by show (st.acts ++ [(⟨p, q, t⟩ : NAct)]).length ≤ k + 1; have := hal.out; rw [List.length_append, List.length_singleton]; omega⟩
                  case measure => simp [intOf]; omega
            · have hq : (za.toList == [97, 99, 116]) = false := by
                rw [ByteArray.toList_eq, hza', beq_eq_false_iff_ne]; exact ha
              have hfin := hbad.out (nLine_other hk1 hzz.out ha)
              clear ha hza'
              go_wp2_with (refine wpList_store_box rfl 93 (.tmp 2) (.tmp 78) rfl (w.heap.size) _ [.string ⟨#[]⟩, .int .i64 0, .slice none 0 0] (by rfl) (by rfl) hS5.out.b0 rfl ntSz (by kernel_rfl) ?_; intro w6 h6 hg6)
              refine bodyPost_ret (results_midtt rfl _ _ w.heap.size [.string ⟨#[]⟩, .int .i64 0, .slice none 0 0] _ rfl h6.range Tryz.underlying93 rfl ntSz) rfl ?_
              exact nparse_err (by rw [hfin.out]; simp; try omega) (below_of_grownB hS5.out.fr hg6 (Nat.le_refl _))
          · have hn4 : (((Cal.cutT 32 zb.data.toList).length : Int) == 4) = false := by rw [beq_eq_false_iff_ne]; omega
            have hfin := hbad (by
              unfold Cal.nLine
              rw [if_neg hk0]
              split
              · rename_i hz; rw [hz] at h4; exact absurd rfl h4
              · rfl)
            clear hdr hinv hzk hzb hl h4 hdn hbad hgood
            go_wp2_with fail
            refine (CutC_any zb _ hzs).mono ?_
            rintro e w5 ⟨bz, oz, cz, rfl, hcap, hbz, hrw, hb5⟩
            have hS5 := Lib.hid (hS.out.below hb5)
            have hrw := Lib.hid hrw
            clear hb5 e1
            generalize Cal.cutT 32 zb.data.toList = ws at *
            go_wp2_with (refine wpList_store_box rfl 93 (.tmp 2) (.tmp 78) rfl (w.heap.size) _ [.string ⟨#[]⟩, .int .i64 0, .slice none 0 0] (by rfl) (by rfl) hS5.out.b0 rfl ntSz (by kernel_rfl) ?_; intro w6 h6 hg6)
            refine bodyPost_ret (results_midtt rfl _ _ w.heap.size [.string ⟨#[]⟩, .int .i64 0, .slice none 0 0] _ rfl h6.range Tryz.underlying93 rfl ntSz) rfl ?_
            exact nparse_err (by rw [hfin.out]; simp; try omega) (below_of_grownB hS5.out.fr hg6 (Nat.le_refl _))
end Go.Proofs.YtbegbajlagcbdaaGreatDoor
