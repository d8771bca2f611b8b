/- The walk of a statement. -/
import Derived.Test.YtbegbajlagcbdaaGreatDoorC78
import Derived.Test.YtbegbajlagcbdaaGreatDoorC80
import Derived.Test.YtbegbajlagcbdaaGreatDoorC71
import Derived.Test.YtbegbajlagcbdaaGreatDoorC75
import Derived.Test.YtbegbajlagcbdaaGreatDoorC13
namespace Go.Proofs.YtbegbajlagcbdaaGreatDoor
open Go Go.RowKit
def MonPost (w : World) (e : Ending) (w' : World) : Prop := (∃ b : Bool, e = .returned (.bool b)) ∧ Below w.heap.size w w'
theorem plainM_any (V : Option Addr) (d : Nat) (m : Mon) (w : World) (hM : MB w V m) : Calls Tryz.prog 10 #[.agg #[.string m.name, .string m.place, .slice V m.visits.length d]] w (MonPost w) := by
  have hn := hM.name
  have hp := hM.place
  have ha := hM.vis.size
  clear hM
  unfold maxLen at hn hp
  by_cases h1 : m.name.size ≤ 30
  · by_cases h0 : m.place.size ≤ 30
    · by_cases h2 : m.visits.length ≤ 8
      · go_enter Tryz.func10, Tryz.ntmps10
        go_wp2_with fail
        go_ret
        exact ⟨⟨_, rfl⟩, by exact blw⟩
      · have h2' : 8 < m.visits.length := by omega
        clear h2
        by_cases h3 : 40 < m.visits.length
        · by_cases h4 : m.visits.length ≤ 50
          · go_enter Tryz.func10, Tryz.ntmps10
            go_wp2_with fail
            go_ret
            exact ⟨⟨_, rfl⟩, by exact blw⟩
          · have h4' : 50 < m.visits.length := by omega
            clear h4
            go_enter Tryz.func10, Tryz.ntmps10
            go_wp2_with fail
            go_ret
            exact ⟨⟨_, rfl⟩, by exact blw⟩
        · have h3' : m.visits.length ≤ 40 := by omega
          clear h3
          go_enter Tryz.func10, Tryz.ntmps10
          go_wp2_with fail
          go_ret
          exact ⟨⟨_, rfl⟩, by exact blw⟩
    · have h0' : 30 < m.place.size := by omega
      clear h0
      go_enter Tryz.func10, Tryz.ntmps10
      go_wp2_with fail
      go_ret
      exact ⟨⟨_, rfl⟩, by exact blw⟩
  · have h1' : 30 < m.name.size := by omega
    clear h1
    go_enter Tryz.func10, Tryz.ntmps10
    go_wp2_with fail
    go_ret
    exact ⟨⟨_, rfl⟩, by exact blw⟩
def missJ (zs : List Int) (d : Int) (k : Nat) : Prop := ∀ (j : Nat) z, j < k → zs[j]? = some z → z ≠ d
theorem HasJ_any (A : Option Addr) (c : Nat) (zs : List Int) (d : Int) (w : World) (h : RowsAt w A 1 (intRows zs)) (hs : zs.length ≤ 1000000) :
    Calls Tryz.prog 17 #[.slice A zs.length c, .int .i64 d] w fun e w' => e = .returned (.bool (decide (d ∈ zs))) ∧ w = w' := by
  have h' := Lib.hid h
  have h0 : Hid (missJ zs d 0) := fun j z h _ => by omega
  clear h
  go_enter Tryz.func17, Tryz.ntmps17
  go_wp2
  go_loop [5] (fun i => ∃ k : Nat, k ≤ zs.length ∧ i = .int .i64 k ∧ Hid (missJ zs d k)) (fun i => zs.length - (intOf i).toNat)
  case atStart => exact ⟨0, Nat.zero_le _, rfl, h0⟩
  case round =>
    obtain ⟨k, hk, rfl, hm⟩ := hrel
    clear h0
    by_cases hlt : k < zs.length
    · obtain ⟨b, o, rfl, _, e1⟩ := intsI_at h'.out hlt
      have hzk := Lib.hid (List.getElem?_eq_getElem hlt)
      have hmem := Lib.hid (List.getElem_mem hlt)
      generalize zs[k] = z at *
      by_cases hz : z = d
      · have hfin : Hid (decide (d ∈ zs) = true) := by show _ = _; rw [decide_eq_true_iff, ← hz]; exact hmem.out
        subst hz
        go_wp2
        go_ret
        exact ⟨ret_bool hfin.out.symm, rfl⟩
      · have hz' : (z == d) = false := by simpa using hz
        have hnx : Hid (missJ zs d (k + 1)) := fun j y hj hy => by
          rcases Nat.lt_or_ge j k with h | h
          · exact hm.out j y h hy
          · obtain rfl : j = k := by omega
            rw [hzk.out] at hy; cases hy; exact hz
        clear hz
        go_wp2
        go_round
        case rel => exact ⟨k + 1, by omega, by go_num, hnx⟩
        case measure => simp [intOf]; omega
    · obtain rfl : k = zs.length := by omega
      have hfin : Hid (decide (d ∈ zs) = false) := by
        show _ = _
        rw [decide_eq_false_iff_not]
        intro hc
        obtain ⟨j, hj, he⟩ := List.getElem_of_mem hc
        exact hm.out j _ hj (List.getElem?_eq_getElem hj) he
      go_wp2
      go_ret
      exact ⟨ret_bool hfin.out.symm, rfl⟩
theorem nodup_take {zs : List Int} (h : zs.Nodup) {k : Nat} (hk : k < zs.length) : zs[k] ∉ zs.take k := by
  intro hm
  obtain ⟨j, hj, he⟩ := List.mem_iff_getElem.1 hm
  rw [List.getElem_take] at he
  rw [List.length_take] at hj
  exact List.pairwise_iff_getElem.1 h j k (by omega) hk (by omega) he
theorem Cal.rouO_nodup (g : Grad) (l : List MoE) (day : Int) : (Cal.rouO g l day).Nodup := by
  unfold Cal.rouO
  exact List.Pairwise.map _ (fun a b hab he => hab (by omega)) (Cal.dueI_nodup (Cal.rouK g l day) (Cal.rouS g l day) l.length)
theorem Cal.rouO_length (g : Grad) (l : List MoE) (day : Int) : (Cal.rouO g l day).length ≤ l.length := by
  unfold Cal.rouO
  rw [List.length_map]
  exact Cal.dueI_length _ _ _
set_option maxRecDepth 100000 in
set_option maxHeartbeats 8000000 in
theorem NoticeRounds_any (g : Grad) (L : Option Addr) (lc : Nat) (l : List MoE) (day : Int) (w : World) (hT : Tab w) (hN : Mos w L lc l) :
    Calls Tryz.prog 3 #[.agg #[.int .i64 g.t0, .int .i64 g.t1, .int .i64 g.t2, .int .i64 g.p0, .int .i64 g.p1, .int .i64 g.p2, .int .i64 g.m0, .int .i64 g.m1, .int .i64 g.m2, .int .i64 g.m3], .slice L l.length lc, .int .i64 day] w fun e w' => e = .returned (.bool true) ∧ Below w.heap.size w w' := by
  have hsz := hN.size
  have hT := Lib.hid hT
  have hN := Lib.hid hN
  by_cases hl1 : 5 < l.length ∧ l.length ≤ 60
  · obtain ⟨hl1, hl2⟩ := hl1
    have g1 := Lib.hid (BoxAt.new w #[.int .i64 g.t0, .int .i64 g.t1, .int .i64 g.t2, .int .i64 g.p0, .int .i64 g.p1, .int .i64 g.p2, .int .i64 g.m0, .int .i64 g.m1, .int .i64 g.m2, .int .i64 g.m3] 25)
    have hb := Lib.hid (below_alloc w (.cells #[.int .i64 g.t0, .int .i64 g.t1, .int .i64 g.t2, .int .i64 g.p0, .int .i64 g.p1, .int .i64 g.p2, .int .i64 g.m0, .int .i64 g.m1, .int .i64 g.m2, .int .i64 g.m3] 25))
    go_enter Tryz.func3, Tryz.ntmps3
    go_wp2_with fail
    refine (nawake_any _ (hT.out.below hb.out)).mono ?_
    rintro e wn ⟨rfl, hbn⟩
    have g1 := Lib.hid (g1.out.below hbn)
    have hb := Lib.hid (below_step hb.out hbn)
    clear hbn
    go_wp2_with fail
    go_ret
    exact ⟨by first | rfl | done, hb.out⟩
  · by_cases hl2 : 70 < l.length
    · have hl3 : 5 < l.length := by omega
      have hl4 : 60 < l.length := by omega
      clear hl1
      have g1 := Lib.hid (BoxAt.new w #[.int .i64 g.t0, .int .i64 g.t1, .int .i64 g.t2, .int .i64 g.p0, .int .i64 g.p1, .int .i64 g.p2, .int .i64 g.m0, .int .i64 g.m1, .int .i64 g.m2, .int .i64 g.m3] 25)
      have hb := Lib.hid (below_alloc w (.cells #[.int .i64 g.t0, .int .i64 g.t1, .int .i64 g.t2, .int .i64 g.p0, .int .i64 g.p1, .int .i64 g.p2, .int .i64 g.m0, .int .i64 g.m1, .int .i64 g.m2, .int .i64 g.m3] 25))
      go_enter Tryz.func3, Tryz.ntmps3
      go_wp2_with fail
      refine (nawake_any _ (hT.out.below hb.out)).mono ?_
      rintro e wn ⟨rfl, hbn⟩
      have g1 := Lib.hid (g1.out.below hbn)
      have hb := Lib.hid (below_step hb.out hbn)
      clear hbn
      go_wp2_with fail
      go_ret
      exact ⟨by first | rfl | done, hb.out⟩
    · have hl3 : l.length ≤ 70 := by omega
      by_cases h0 : Cal.gradErr g = 0
      · have hg0 := Lib.hid h0
        by_cases h1 : Cal.mosE l = 0
        · have hm0 := Lib.hid h1
          have hl5 : l.length ≤ 5 := by
            have := Cal.mosE_len h1
            omega
          have hEE : Cal.rouE g l day = if 0 ≤ day ∧ day ≤ 200000 then 0 else 2 := by unfold Cal.rouE; rw [if_pos h0, if_pos h1]
          clear h0 h1 hl1 hl2
          by_cases hx : 0 ≤ day ∧ day ≤ 200000
          · rw [if_pos hx] at hEE
            have hd := Lib.hid hx
            obtain ⟨x0, x1⟩ := hx
            have hE : Hid (Cal.rouE g l day = 0) := hEE
            have hL : Hid (Cal.rouL g l day = Cal.rouO g l day) := by show _ = _; unfold Cal.rouL; rw [hEE, if_pos rfl]
            clear hEE
            have g1 := Lib.hid (BoxAt.new w #[.int .i64 g.t0, .int .i64 g.t1, .int .i64 g.t2, .int .i64 g.p0, .int .i64 g.p1, .int .i64 g.p2, .int .i64 g.m0, .int .i64 g.m1, .int .i64 g.m2, .int .i64 g.m3] 25)
            have hb := Lib.hid (below_alloc w (.cells #[.int .i64 g.t0, .int .i64 g.t1, .int .i64 g.t2, .int .i64 g.p0, .int .i64 g.p1, .int .i64 g.p2, .int .i64 g.m0, .int .i64 g.m1, .int .i64 g.m2, .int .i64 g.m3] 25))
            go_enter Tryz.func3, Tryz.ntmps3
            go_wp2_with fail
            refine (nawake_any _ (hT.out.below hb.out)).mono ?_
            rintro e wn ⟨rfl, hbn⟩
            have g1 := Lib.hid (g1.out.below hbn)
            have hb := Lib.hid (below_step hb.out hbn)
            clear hbn
            go_wp2_with fail
            go_loopw [7] (fun i wr => ∃ k : Nat, k ≤ l.length ∧ i = .int .i64 k ∧ Hid (BoxAt wr w.heap.size [.int .i64 g.t0, .int .i64 g.t1, .int .i64 g.t2, .int .i64 g.p0, .int .i64 g.p1, .int .i64 g.p2, .int .i64 g.m0, .int .i64 g.m1, .int .i64 g.m2, .int .i64 g.m3]) ∧ Hid (Below w.heap.size w wr)) (fun i _ => l.length - (intOf i).toNat)
            case atStart => exact ⟨0, Nat.zero_le _, rfl, g1, hb⟩
            case round =>
              clear g1 hb
              obtain ⟨k, hk, rfl, g1, hb⟩ := hrel
              by_cases hlt : k < l.length
              · have hk' : l[k]? = some l[k] := List.getElem?_eq_getElem hlt
                have hMB := Lib.hid ((hN.out.below hb.out).each k _ hk')
                obtain ⟨b, oo, rfl, hbl, c0, c1, c2⟩ := (hN.out.below hb.out).at_ hk'
                have hkl : (k : Int) < (l.length : Int) := by omega
                have hk0 : (0 : Int) ≤ (k : Int) := by omega
                clear hk'
                generalize l[k] = e at *
                go_wp2_with fail
                refine (plainM_any e.V e.d e.m _ hMB.out).mono ?_
                rintro en wn ⟨⟨bb, rfl⟩, hbn⟩
                have g1 := Lib.hid (g1.out.below hbn)
                have hb := Lib.hid (below_step hb.out hbn)
                clear hbn
                clear c0 c1 c2
                cases bb
                · go_wp2_with fail
                  go_ret
                  exact ⟨by first | rfl | done, hb.out⟩
                · go_wp2_with fail
                  go_roundw
                  case rel => exact ⟨k + 1, by omega, by go_num, g1, hb⟩
                  case measure => simp [intOf]; omega
              · obtain rfl : k = l.length := by omega
                go_wp2_with (refine wpGrd g1.out (.tmp 3) rfl ?_)
                refine (Round_any g L lc l day _ (hT.out.below hb.out) (hN.out.below hb.out)).mono ?_
                rintro e wn ⟨v, rfl, hv, hbn⟩
                obtain ⟨A4, c4, rfl, _⟩ := hv.rows
                have hv := Lib.hid hv
                have g1 := Lib.hid (g1.out.below hbn)
                have hb := Lib.hid (below_step hb.out hbn)
                clear hbn
                rw [hE.out]
                rw [hL.out] at hv
                rw [hL.out]
                go_wp2_with (refine wpGrd g1.out (.tmp 3) rfl ?_)
                refine (CheckGradingR_any g _).mono ?_
                rintro e wn ⟨rfl, hbn⟩
                have hv := Lib.hid (IntsL.below hv.out hbn)
                have g1 := Lib.hid (g1.out.below hbn)
                have hb := Lib.hid (below_step hb.out hbn)
                clear hbn
                rw [hg0.out]
                go_wp2_with fail
                refine (CheckMonumentsR_any L lc l _ (hN.out.below hb.out)).mono ?_
                rintro e wn ⟨rfl, hbn⟩
                have hv := Lib.hid (IntsL.below hv.out hbn)
                have g1 := Lib.hid (g1.out.below hbn)
                have hb := Lib.hid (below_step hb.out hbn)
                clear hbn
                rw [hm0.out]
                go_wp2_with (first | ((first | (go_at_call 134) | (go_at_call 59) | (go_at_call 133) | (go_at_call 14) | (go_at_call 178) | (fail) | (go_at_call 139)); first | refine rin ?_ | refine rout ?_ | refine rany ?_) | (refine wpGrd g1.out (.tmp 3) rfl ?_))
                refine (RoundR_any g L lc l day _ (hT.out.below hb.out) (hN.out.below hb.out) hg0.out hm0.out hd.out).mono ?_
                rintro e wn ⟨u, rfl, hu, hbn⟩
                have hv := Lib.hid (IntsL.below hv.out hbn)
                have g1 := Lib.hid (g1.out.below hbn)
                have hb := Lib.hid (below_step hb.out hbn)
                clear hbn
                have hnd := Lib.hid (Cal.rouO_nodup g l day)
                have hzs60 : (Cal.rouO g l day).length ≤ 60 := Nat.le_trans (Cal.rouO_length g l day) (Cal.mosE_len hm0.out)
                obtain ⟨zs, hzs⟩ : ∃ zs, zs = Cal.rouO g l day := ⟨_, rfl⟩
                rw [← hzs] at hv hu hnd hzs60 ⊢
                clear hzs
                have hsz : zs.length ≤ 1000000 := by omega
                go_wp2_with fail
                refine (Ints_any _ _ _ _ _ _ (hv.out.slice hsz) (hu.slice hsz)).mono ?_
                rintro e wn ⟨rfl, hbn⟩
                have hv := Lib.hid (IntsL.below hv.out hbn)
                clear hu
                have g1 := Lib.hid (g1.out.below hbn)
                have hb := Lib.hid (below_step hb.out hbn)
                clear hbn
                go_wp2_with fail
                have hv := Lib.hid (fun w' h => IntsL.below hv.out (w' := w') h)
                have hbz := hb
                clear hb
                generalize wn = w0 at *
                have hb0 : Hid (Below w0.heap.size w0 w0) := Below.refl _ _
                go_loopw [11] (fun i wr => ∃ k : Nat, k ≤ zs.length ∧ i = .int .i64 k ∧ Hid (Below w0.heap.size w0 wr)) (fun i _ => zs.length - (intOf i).toNat)
                case atStart => exact ⟨0, Nat.zero_le _, rfl, hb0⟩
                case round =>
                  clear hb0
                  obtain ⟨k, hk, rfl, hbw⟩ := hrel
                  by_cases hlt : k < zs.length
                  · have hown := hv.out _ hbw.out
                    obtain ⟨A1, c1, hrun1, hR1⟩ := hown.hiI (k := k) (by omega)
                    obtain ⟨b2, o2, rfl, hbl2, a0⟩ := intsI_at hown.rowsI hlt
                    have hkl : (k : Int) < (zs.length : Int) := by omega
                    have hk0 : (0 : Int) ≤ (k : Int) := by omega
                    have hkk : (k : Int) ≤ (zs.length : Int) := by omega
                    have hmiss : decide (zs[k] ∈ zs.take k) = false := by simpa using nodup_take hnd.out hlt
                    have hlk : (zs.take k).length = k := by rw [List.length_take]; omega
                    have hR1 := Lib.hid (fun w' (h : Below wr.heap.size wr w') => hR1.below h)
                    clear hown
                    generalize zs[k] = z at *
                    go_wp2_with fail
                    refine wp_region_held_drew (S := (fun w' => w'.cell? ⟨b2, o2 + k, none⟩ = some (.int .i64 z))) (by kernel_rfl) a0 (fun hHeld => ?_)
                    (refine tkH 0 (v := ?_) ?_ ?_; rotate_left; focus (intro w' hSw; (try dsimp only at hSw); go_simp; (try with_reducible rfl)); (try simp only [Act.put, List.setIfInBounds_toArray, List.set_cons_zero, List.set_cons_succ]))
                    (refine tkH 1 (v := ?_) ?_ ?_; rotate_left; focus (intro w' hSw; (try dsimp only at hSw); go_simp; (try with_reducible rfl)); (try simp only [Act.put, List.setIfInBounds_toArray, List.set_cons_zero, List.set_cons_succ]))
                    (refine tkH 2 (v := ?_) ?_ ?_; rotate_left; focus (intro w' hSw; (try dsimp only at hSw); go_simp; (try with_reducible rfl)); (try simp only [Act.put, List.setIfInBounds_toArray, List.set_cons_zero, List.set_cons_succ]))
                    (refine tkH 3 (v := ?_) ?_ ?_; rotate_left; focus (intro w' hSw; (try dsimp only at hSw); go_simp; (try with_reducible rfl)); (try simp only [Act.put, List.setIfInBounds_toArray, List.set_cons_zero, List.set_cons_succ]))
                    (refine tkH 4 (v := ?_) ?_ ?_; rotate_left; focus (intro w' hSw; (try dsimp only at hSw); go_simp; (try with_reducible rfl)); (try simp only [Act.put, List.setIfInBounds_toArray, List.set_cons_zero, List.set_cons_succ]))
                    (refine tkH 5 (v := ?_) ?_ ?_; rotate_left; focus (intro w' hSw; (try dsimp only at hSw); go_simp; (try with_reducible rfl)); (try simp only [Act.put, List.setIfInBounds_toArray, List.set_cons_zero, List.set_cons_succ]))
                    (refine tkH 6 (v := ?_) ?_ ?_; rotate_left; focus (intro w' hSw; (try dsimp only at hSw); go_simp; (try with_reducible rfl)); (try simp only [Act.put, List.setIfInBounds_toArray, List.set_cons_zero, List.set_cons_succ]))
                    (refine wpAnyH_ready (rs := [7]) (by decide +kernel) (by simp) ?_; refine AllReadyH.cons rfl (fun K hK => ?_) AllReadyH.nil; rw [if_pos (by kernel_rfl)]; go_simp)
                    have hH := HasJ_any A1 c1 (zs.take k) z wr.drew (hR1.out _ (Below.refl _ _).drew) (by omega)
                    rw [hlk, hmiss] at hH
                    refine hH.mono ?_
                    rintro en wn ⟨rfl, rfl⟩
                    go_simp
                    (refine hK.out _ _ a0 (fun hHeld => ?_); clear hK K; (try simp only [Act.put]); (try simp only [List.setIfInBounds_toArray]); (try simp only [List.set_cons_zero, List.set_cons_succ]))
                    refine wpAnyH_done (by kernel_rfl) ?_ _
                    clear hHeld
                    go_wp2_with fail
                    go_roundw
                    case rel => exact ⟨k + 1, by omega, by go_num, Lib.hid hbw.out.drew⟩
                    case measure => simp [intOf]; omega
                  · obtain rfl : k = zs.length := by omega
                    go_wp2_with fail
                    go_ret
                    exact ⟨by first | rfl | done, below_step hbz.out hbw.out⟩
          · rw [if_neg hx] at hEE
            have hx' : day < 0 ∨ 200000 < day := by omega
            have hE : Hid (Cal.rouE g l day = 2) := hEE
            have hL : Hid (Cal.rouL g l day = []) := by show _ = _; unfold Cal.rouL; rw [hEE, if_neg (by decide)]
            clear hEE hx
            have g1 := Lib.hid (BoxAt.new w #[.int .i64 g.t0, .int .i64 g.t1, .int .i64 g.t2, .int .i64 g.p0, .int .i64 g.p1, .int .i64 g.p2, .int .i64 g.m0, .int .i64 g.m1, .int .i64 g.m2, .int .i64 g.m3] 25)
            have hb := Lib.hid (below_alloc w (.cells #[.int .i64 g.t0, .int .i64 g.t1, .int .i64 g.t2, .int .i64 g.p0, .int .i64 g.p1, .int .i64 g.p2, .int .i64 g.m0, .int .i64 g.m1, .int .i64 g.m2, .int .i64 g.m3] 25))
            go_enter Tryz.func3, Tryz.ntmps3
            go_wp2_with fail
            refine (nawake_any _ (hT.out.below hb.out)).mono ?_
            rintro e wn ⟨rfl, hbn⟩
            have g1 := Lib.hid (g1.out.below hbn)
            have hb := Lib.hid (below_step hb.out hbn)
            clear hbn
            go_wp2_with fail
            go_loopw [7] (fun i wr => ∃ k : Nat, k ≤ l.length ∧ i = .int .i64 k ∧ Hid (BoxAt wr w.heap.size [.int .i64 g.t0, .int .i64 g.t1, .int .i64 g.t2, .int .i64 g.p0, .int .i64 g.p1, .int .i64 g.p2, .int .i64 g.m0, .int .i64 g.m1, .int .i64 g.m2, .int .i64 g.m3]) ∧ Hid (Below w.heap.size w wr)) (fun i _ => l.length - (intOf i).toNat)
            case atStart => exact ⟨0, Nat.zero_le _, rfl, g1, hb⟩
            case round =>
              clear g1 hb
              obtain ⟨k, hk, rfl, g1, hb⟩ := hrel
              by_cases hlt : k < l.length
              · have hk' : l[k]? = some l[k] := List.getElem?_eq_getElem hlt
                have hMB := Lib.hid ((hN.out.below hb.out).each k _ hk')
                obtain ⟨b, oo, rfl, hbl, c0, c1, c2⟩ := (hN.out.below hb.out).at_ hk'
                have hkl : (k : Int) < (l.length : Int) := by omega
                have hk0 : (0 : Int) ≤ (k : Int) := by omega
                clear hk'
                generalize l[k] = e at *
                go_wp2_with fail
                refine (plainM_any e.V e.d e.m _ hMB.out).mono ?_
                rintro en wn ⟨⟨bb, rfl⟩, hbn⟩
                have g1 := Lib.hid (g1.out.below hbn)
                have hb := Lib.hid (below_step hb.out hbn)
                clear hbn
                clear c0 c1 c2
                cases bb
                · go_wp2_with fail
                  go_ret
                  exact ⟨by first | rfl | done, hb.out⟩
                · go_wp2_with fail
                  go_roundw
                  case rel => exact ⟨k + 1, by omega, by go_num, g1, hb⟩
                  case measure => simp [intOf]; omega
              · obtain rfl : k = l.length := by omega
                go_wp2_with (refine wpGrd g1.out (.tmp 3) rfl ?_)
                refine (Round_any g L lc l day _ (hT.out.below hb.out) (hN.out.below hb.out)).mono ?_
                rintro e wn ⟨v, rfl, hv, hbn⟩
                obtain ⟨A4, c4, rfl, _⟩ := hv.rows
                have hv := Lib.hid hv
                have g1 := Lib.hid (g1.out.below hbn)
                have hb := Lib.hid (below_step hb.out hbn)
                clear hbn
                rw [hE.out]
                rw [hL.out] at hv
                rw [hL.out]
                go_wp2_with (refine wpGrd g1.out (.tmp 3) rfl ?_)
                refine (CheckGradingR_any g _).mono ?_
                rintro e wn ⟨rfl, hbn⟩
                have hv := Lib.hid (IntsL.below hv.out hbn)
                have g1 := Lib.hid (g1.out.below hbn)
                have hb := Lib.hid (below_step hb.out hbn)
                clear hbn
                rw [hg0.out]
                go_wp2_with fail
                refine (CheckMonumentsR_any L lc l _ (hN.out.below hb.out)).mono ?_
                rintro e wn ⟨rfl, hbn⟩
                have hv := Lib.hid (IntsL.below hv.out hbn)
                have g1 := Lib.hid (g1.out.below hbn)
                have hb := Lib.hid (below_step hb.out hbn)
                clear hbn
                rw [hm0.out]
                go_wp2_with (first | ((first | (go_at_call 134) | (go_at_call 59) | (go_at_call 133) | (go_at_call 14) | (go_at_call 178) | (fail) | (go_at_call 139)); first | refine rin ?_ | refine rout ?_ | refine rany ?_) | fail)
                go_ret
                exact ⟨by first | rfl | done, hb.out⟩
        · have hE' : Cal.rouE g l day = Cal.mosE l := by unfold Cal.rouE; rw [if_pos h0, if_neg h1]
          have hE : Hid (Cal.rouE g l day = Cal.mosE l) := hE'
          have hL : Hid (Cal.rouL g l day = []) := by show _ = _; unfold Cal.rouL; rw [hE', if_neg h1]
          have h1b : (Cal.mosE l == 0) = false := by simpa using h1
          have h1c : (Cal.mosE l != 0) = true := by simpa using h1
          clear h0 h1 hE'
          by_cases hl5 : l.length ≤ 5
          · clear hl1 hl2 hl3
            have g1 := Lib.hid (BoxAt.new w #[.int .i64 g.t0, .int .i64 g.t1, .int .i64 g.t2, .int .i64 g.p0, .int .i64 g.p1, .int .i64 g.p2, .int .i64 g.m0, .int .i64 g.m1, .int .i64 g.m2, .int .i64 g.m3] 25)
            have hb := Lib.hid (below_alloc w (.cells #[.int .i64 g.t0, .int .i64 g.t1, .int .i64 g.t2, .int .i64 g.p0, .int .i64 g.p1, .int .i64 g.p2, .int .i64 g.m0, .int .i64 g.m1, .int .i64 g.m2, .int .i64 g.m3] 25))
            go_enter Tryz.func3, Tryz.ntmps3
            go_wp2_with fail
            refine (nawake_any _ (hT.out.below hb.out)).mono ?_
            rintro e wn ⟨rfl, hbn⟩
            have g1 := Lib.hid (g1.out.below hbn)
            have hb := Lib.hid (below_step hb.out hbn)
            clear hbn
            go_wp2_with fail
            go_loopw [7] (fun i wr => ∃ k : Nat, k ≤ l.length ∧ i = .int .i64 k ∧ Hid (BoxAt wr w.heap.size [.int .i64 g.t0, .int .i64 g.t1, .int .i64 g.t2, .int .i64 g.p0, .int .i64 g.p1, .int .i64 g.p2, .int .i64 g.m0, .int .i64 g.m1, .int .i64 g.m2, .int .i64 g.m3]) ∧ Hid (Below w.heap.size w wr)) (fun i _ => l.length - (intOf i).toNat)
            case atStart => exact ⟨0, Nat.zero_le _, rfl, g1, hb⟩
            case round =>
              clear g1 hb
              obtain ⟨k, hk, rfl, g1, hb⟩ := hrel
              by_cases hlt : k < l.length
              · have hk' : l[k]? = some l[k] := List.getElem?_eq_getElem hlt
                have hMB := Lib.hid ((hN.out.below hb.out).each k _ hk')
                obtain ⟨b, oo, rfl, hbl, c0, c1, c2⟩ := (hN.out.below hb.out).at_ hk'
                have hkl : (k : Int) < (l.length : Int) := by omega
                have hk0 : (0 : Int) ≤ (k : Int) := by omega
                clear hk'
                generalize l[k] = e at *
                go_wp2_with fail
                refine (plainM_any e.V e.d e.m _ hMB.out).mono ?_
                rintro en wn ⟨⟨bb, rfl⟩, hbn⟩
                have g1 := Lib.hid (g1.out.below hbn)
                have hb := Lib.hid (below_step hb.out hbn)
                clear hbn
                clear c0 c1 c2
                cases bb
                · go_wp2_with fail
                  go_ret
                  exact ⟨by first | rfl | done, hb.out⟩
                · go_wp2_with fail
                  go_roundw
                  case rel => exact ⟨k + 1, by omega, by go_num, g1, hb⟩
                  case measure => simp [intOf]; omega
              · obtain rfl : k = l.length := by omega
                go_wp2_with (refine wpGrd g1.out (.tmp 3) rfl ?_)
                refine (Round_any g L lc l day _ (hT.out.below hb.out) (hN.out.below hb.out)).mono ?_
                rintro e wn ⟨v, rfl, hv, hbn⟩
                obtain ⟨A4, c4, rfl, _⟩ := hv.rows
                have hv := Lib.hid hv
                have g1 := Lib.hid (g1.out.below hbn)
                have hb := Lib.hid (below_step hb.out hbn)
                clear hbn
                rw [hE.out]
                rw [hL.out] at hv
                rw [hL.out]
                go_wp2_with (refine wpGrd g1.out (.tmp 3) rfl ?_)
                refine (CheckGradingR_any g _).mono ?_
                rintro e wn ⟨rfl, hbn⟩
                have hv := Lib.hid (IntsL.below hv.out hbn)
                have g1 := Lib.hid (g1.out.below hbn)
                have hb := Lib.hid (below_step hb.out hbn)
                clear hbn
                rw [hg0.out]
                go_wp2_with fail
                refine (CheckMonumentsR_any L lc l _ (hN.out.below hb.out)).mono ?_
                rintro e wn ⟨rfl, hbn⟩
                have hv := Lib.hid (IntsL.below hv.out hbn)
                have g1 := Lib.hid (g1.out.below hbn)
                have hb := Lib.hid (below_step hb.out hbn)
                clear hbn
                go_wp2_with (first | ((first | (go_at_call 134) | (go_at_call 59) | (go_at_call 133) | (go_at_call 14) | (go_at_call 178) | (fail) | (go_at_call 139)); first | refine rin ?_ | refine rout ?_ | refine rany ?_) | fail)
                go_ret
                exact ⟨by first | rfl | done, hb.out⟩
          · have hl6 : 5 < l.length := by omega
            have hl7 : 60 < l.length := by omega
            clear hl1 hl2 hl5
            have g1 := Lib.hid (BoxAt.new w #[.int .i64 g.t0, .int .i64 g.t1, .int .i64 g.t2, .int .i64 g.p0, .int .i64 g.p1, .int .i64 g.p2, .int .i64 g.m0, .int .i64 g.m1, .int .i64 g.m2, .int .i64 g.m3] 25)
            have hb := Lib.hid (below_alloc w (.cells #[.int .i64 g.t0, .int .i64 g.t1, .int .i64 g.t2, .int .i64 g.p0, .int .i64 g.p1, .int .i64 g.p2, .int .i64 g.m0, .int .i64 g.m1, .int .i64 g.m2, .int .i64 g.m3] 25))
            go_enter Tryz.func3, Tryz.ntmps3
            go_wp2_with fail
            refine (nawake_any _ (hT.out.below hb.out)).mono ?_
            rintro e wn ⟨rfl, hbn⟩
            have g1 := Lib.hid (g1.out.below hbn)
            have hb := Lib.hid (below_step hb.out hbn)
            clear hbn
            go_wp2_with fail
            go_loopw [7] (fun i wr => ∃ k : Nat, k ≤ l.length ∧ i = .int .i64 k ∧ Hid (BoxAt wr w.heap.size [.int .i64 g.t0, .int .i64 g.t1, .int .i64 g.t2, .int .i64 g.p0, .int .i64 g.p1, .int .i64 g.p2, .int .i64 g.m0, .int .i64 g.m1, .int .i64 g.m2, .int .i64 g.m3]) ∧ Hid (Below w.heap.size w wr)) (fun i _ => l.length - (intOf i).toNat)
            case atStart => exact ⟨0, Nat.zero_le _, rfl, g1, hb⟩
            case round =>
              clear g1 hb
              obtain ⟨k, hk, rfl, g1, hb⟩ := hrel
              by_cases hlt : k < l.length
              · have hk' : l[k]? = some l[k] := List.getElem?_eq_getElem hlt
                have hMB := Lib.hid ((hN.out.below hb.out).each k _ hk')
                obtain ⟨b, oo, rfl, hbl, c0, c1, c2⟩ := (hN.out.below hb.out).at_ hk'
                have hkl : (k : Int) < (l.length : Int) := by omega
                have hk0 : (0 : Int) ≤ (k : Int) := by omega
                clear hk'
                generalize l[k] = e at *
                go_wp2_with fail
                refine (plainM_any e.V e.d e.m _ hMB.out).mono ?_
                rintro en wn ⟨⟨bb, rfl⟩, hbn⟩
                have g1 := Lib.hid (g1.out.below hbn)
                have hb := Lib.hid (below_step hb.out hbn)
                clear hbn
                clear c0 c1 c2
                cases bb
                · go_wp2_with fail
                  go_ret
                  exact ⟨by first | rfl | done, hb.out⟩
                · go_wp2_with fail
                  go_roundw
                  case rel => exact ⟨k + 1, by omega, by go_num, g1, hb⟩
                  case measure => simp [intOf]; omega
              · obtain rfl : k = l.length := by omega
                go_wp2_with (refine wpGrd g1.out (.tmp 3) rfl ?_)
                refine (Round_any g L lc l day _ (hT.out.below hb.out) (hN.out.below hb.out)).mono ?_
                rintro e wn ⟨v, rfl, hv, hbn⟩
                obtain ⟨A4, c4, rfl, _⟩ := hv.rows
                have hv := Lib.hid hv
                have g1 := Lib.hid (g1.out.below hbn)
                have hb := Lib.hid (below_step hb.out hbn)
                clear hbn
                rw [hE.out]
                rw [hL.out] at hv
                rw [hL.out]
                go_wp2_with (refine wpGrd g1.out (.tmp 3) rfl ?_)
                refine (CheckGradingR_any g _).mono ?_
                rintro e wn ⟨rfl, hbn⟩
                have hv := Lib.hid (IntsL.below hv.out hbn)
                have g1 := Lib.hid (g1.out.below hbn)
                have hb := Lib.hid (below_step hb.out hbn)
                clear hbn
                rw [hg0.out]
                go_wp2_with fail
                refine (CheckMonumentsR_any L lc l _ (hN.out.below hb.out)).mono ?_
                rintro e wn ⟨rfl, hbn⟩
                have hv := Lib.hid (IntsL.below hv.out hbn)
                have g1 := Lib.hid (g1.out.below hbn)
                have hb := Lib.hid (below_step hb.out hbn)
                clear hbn
                go_wp2_with (first | ((first | (go_at_call 134) | (go_at_call 59) | (go_at_call 133) | (go_at_call 14) | (go_at_call 178) | (fail) | (go_at_call 139)); first | refine rin ?_ | refine rout ?_ | refine rany ?_) | fail)
                go_ret
                exact ⟨by first | rfl | done, hb.out⟩
      · have hE' : Cal.rouE g l day = Cal.gradErr g := by unfold Cal.rouE; rw [if_neg h0]
        have hE : Hid (Cal.rouE g l day = Cal.gradErr g) := hE'
        have hL : Hid (Cal.rouL g l day = []) := by show _ = _; unfold Cal.rouL; rw [hE', if_neg h0]
        have h0b : (Cal.gradErr g == 0) = false := by simpa using h0
        have h0c : (Cal.gradErr g != 0) = true := by simpa using h0
        clear h0 hE'
        by_cases hl5 : l.length ≤ 5
        · clear hl1 hl2 hl3
          have g1 := Lib.hid (BoxAt.new w #[.int .i64 g.t0, .int .i64 g.t1, .int .i64 g.t2, .int .i64 g.p0, .int .i64 g.p1, .int .i64 g.p2, .int .i64 g.m0, .int .i64 g.m1, .int .i64 g.m2, .int .i64 g.m3] 25)
          have hb := Lib.hid (below_alloc w (.cells #[.int .i64 g.t0, .int .i64 g.t1, .int .i64 g.t2, .int .i64 g.p0, .int .i64 g.p1, .int .i64 g.p2, .int .i64 g.m0, .int .i64 g.m1, .int .i64 g.m2, .int .i64 g.m3] 25))
          go_enter Tryz.func3, Tryz.ntmps3
          go_wp2_with fail
          refine (nawake_any _ (hT.out.below hb.out)).mono ?_
          rintro e wn ⟨rfl, hbn⟩
          have g1 := Lib.hid (g1.out.below hbn)
          have hb := Lib.hid (below_step hb.out hbn)
          clear hbn
          go_wp2_with fail
          go_loopw [7] (fun i wr => ∃ k : Nat, k ≤ l.length ∧ i = .int .i64 k ∧ Hid (BoxAt wr w.heap.size [.int .i64 g.t0, .int .i64 g.t1, .int .i64 g.t2, .int .i64 g.p0, .int .i64 g.p1, .int .i64 g.p2, .int .i64 g.m0, .int .i64 g.m1, .int .i64 g.m2, .int .i64 g.m3]) ∧ Hid (Below w.heap.size w wr)) (fun i _ => l.length - (intOf i).toNat)
          case atStart => exact ⟨0, Nat.zero_le _, rfl, g1, hb⟩
          case round =>
            clear g1 hb
            obtain ⟨k, hk, rfl, g1, hb⟩ := hrel
            by_cases hlt : k < l.length
            · have hk' : l[k]? = some l[k] := List.getElem?_eq_getElem hlt
              have hMB := Lib.hid ((hN.out.below hb.out).each k _ hk')
              obtain ⟨b, oo, rfl, hbl, c0, c1, c2⟩ := (hN.out.below hb.out).at_ hk'
              have hkl : (k : Int) < (l.length : Int) := by omega
              have hk0 : (0 : Int) ≤ (k : Int) := by omega
              clear hk'
              generalize l[k] = e at *
              go_wp2_with fail
              refine (plainM_any e.V e.d e.m _ hMB.out).mono ?_
              rintro en wn ⟨⟨bb, rfl⟩, hbn⟩
              have g1 := Lib.hid (g1.out.below hbn)
              have hb := Lib.hid (below_step hb.out hbn)
              clear hbn
              clear c0 c1 c2
              cases bb
              · go_wp2_with fail
                go_ret
                exact ⟨by first | rfl | done, hb.out⟩
              · go_wp2_with fail
                go_roundw
                case rel => exact ⟨k + 1, by omega, by go_num, g1, hb⟩
                case measure => simp [intOf]; omega
            · obtain rfl : k = l.length := by omega
              go_wp2_with (refine wpGrd g1.out (.tmp 3) rfl ?_)
              refine (Round_any g L lc l day _ (hT.out.below hb.out) (hN.out.below hb.out)).mono ?_
              rintro e wn ⟨v, rfl, hv, hbn⟩
              obtain ⟨A4, c4, rfl, _⟩ := hv.rows
              have hv := Lib.hid hv
              have g1 := Lib.hid (g1.out.below hbn)
              have hb := Lib.hid (below_step hb.out hbn)
              clear hbn
              rw [hE.out]
              rw [hL.out] at hv
              rw [hL.out]
              go_wp2_with (refine wpGrd g1.out (.tmp 3) rfl ?_)
              refine (CheckGradingR_any g _).mono ?_
              rintro e wn ⟨rfl, hbn⟩
              have hv := Lib.hid (IntsL.below hv.out hbn)
              have g1 := Lib.hid (g1.out.below hbn)
              have hb := Lib.hid (below_step hb.out hbn)
              clear hbn
              go_wp2_with (first | ((first | (go_at_call 134) | (go_at_call 59) | (go_at_call 133) | (go_at_call 14) | (go_at_call 178) | (fail) | (go_at_call 139)); first | refine rin ?_ | refine rout ?_ | refine rany ?_) | fail)
              go_ret
              exact ⟨by first | rfl | done, hb.out⟩
        · have hl6 : 5 < l.length := by omega
          have hl7 : 60 < l.length := by omega
          clear hl1 hl2 hl5
          have g1 := Lib.hid (BoxAt.new w #[.int .i64 g.t0, .int .i64 g.t1, .int .i64 g.t2, .int .i64 g.p0, .int .i64 g.p1, .int .i64 g.p2, .int .i64 g.m0, .int .i64 g.m1, .int .i64 g.m2, .int .i64 g.m3] 25)
          have hb := Lib.hid (below_alloc w (.cells #[.int .i64 g.t0, .int .i64 g.t1, .int .i64 g.t2, .int .i64 g.p0, .int .i64 g.p1, .int .i64 g.p2, .int .i64 g.m0, .int .i64 g.m1, .int .i64 g.m2, .int .i64 g.m3] 25))
          go_enter Tryz.func3, Tryz.ntmps3
          go_wp2_with fail
          refine (nawake_any _ (hT.out.below hb.out)).mono ?_
          rintro e wn ⟨rfl, hbn⟩
          have g1 := Lib.hid (g1.out.below hbn)
          have hb := Lib.hid (below_step hb.out hbn)
          clear hbn
          go_wp2_with fail
          go_loopw [7] (fun i wr => ∃ k : Nat, k ≤ l.length ∧ i = .int .i64 k ∧ Hid (BoxAt wr w.heap.size [.int .i64 g.t0, .int .i64 g.t1, .int .i64 g.t2, .int .i64 g.p0, .int .i64 g.p1, .int .i64 g.p2, .int .i64 g.m0, .int .i64 g.m1, .int .i64 g.m2, .int .i64 g.m3]) ∧ Hid (Below w.heap.size w wr)) (fun i _ => l.length - (intOf i).toNat)
          case atStart => exact ⟨0, Nat.zero_le _, rfl, g1, hb⟩
          case round =>
            clear g1 hb
            obtain ⟨k, hk, rfl, g1, hb⟩ := hrel
            by_cases hlt : k < l.length
            · have hk' : l[k]? = some l[k] := List.getElem?_eq_getElem hlt
              have hMB := Lib.hid ((hN.out.below hb.out).each k _ hk')
              obtain ⟨b, oo, rfl, hbl, c0, c1, c2⟩ := (hN.out.below hb.out).at_ hk'
              have hkl : (k : Int) < (l.length : Int) := by omega
              have hk0 : (0 : Int) ≤ (k : Int) := by omega
              clear hk'
              generalize l[k] = e at *
              go_wp2_with fail
              refine (plainM_any e.V e.d e.m _ hMB.out).mono ?_
              rintro en wn ⟨⟨bb, rfl⟩, hbn⟩
              have g1 := Lib.hid (g1.out.below hbn)
              have hb := Lib.hid (below_step hb.out hbn)
              clear hbn
              clear c0 c1 c2
              cases bb
              · go_wp2_with fail
                go_ret
                exact ⟨by first | rfl | done, hb.out⟩
              · go_wp2_with fail
                go_roundw
                case rel => exact ⟨k + 1, by omega, by go_num, g1, hb⟩
                case measure => simp [intOf]; omega
            · obtain rfl : k = l.length := by omega
              go_wp2_with (refine wpGrd g1.out (.tmp 3) rfl ?_)
              refine (Round_any g L lc l day _ (hT.out.below hb.out) (hN.out.below hb.out)).mono ?_
              rintro e wn ⟨v, rfl, hv, hbn⟩
              obtain ⟨A4, c4, rfl, _⟩ := hv.rows
              have hv := Lib.hid hv
              have g1 := Lib.hid (g1.out.below hbn)
              have hb := Lib.hid (below_step hb.out hbn)
              clear hbn
              rw [hE.out]
              rw [hL.out] at hv
              rw [hL.out]
              go_wp2_with (refine wpGrd g1.out (.tmp 3) rfl ?_)
              refine (CheckGradingR_any g _).mono ?_
              rintro e wn ⟨rfl, hbn⟩
              have hv := Lib.hid (IntsL.below hv.out hbn)
              have g1 := Lib.hid (g1.out.below hbn)
              have hb := Lib.hid (below_step hb.out hbn)
              clear hbn
              go_wp2_with (first | ((first | (go_at_call 134) | (go_at_call 59) | (go_at_call 133) | (go_at_call 14) | (go_at_call 178) | (fail) | (go_at_call 139)); first | refine rin ?_ | refine rout ?_ | refine rany ?_) | fail)
              go_ret
              exact ⟨by first | rfl | done, hb.out⟩
end Go.Proofs.YtbegbajlagcbdaaGreatDoor
