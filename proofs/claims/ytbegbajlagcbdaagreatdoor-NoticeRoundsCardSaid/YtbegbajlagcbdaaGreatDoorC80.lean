/- Chapter 8 and what it rests on: definitions and walks, part 80. -/
import Derived.Test.YtbegbajlagcbdaaGreatDoorC79
import Derived.Deep.LoopGhost
import Derived.Deep.CutRange
import Derived.Deep.RegionHeld3
namespace Go.Proofs.YtbegbajlagcbdaaGreatDoor
open Go Go.RowKit
theorem Cal.mosE_len {l : List MoE} (h : Cal.mosE l = 0) : l.length ≤ 60 := by
  unfold Cal.mosE at h
  split at h <;> omega
theorem Cal.mosE_ok {l : List MoE} (h : Cal.mosE l = 0) : ∀ e ∈ l, Cal.monErr e.m = 0 := by
  unfold Cal.mosE at h
  split at h
  · omega
  · exact fun e he => Cal.namesE_ok h e he
theorem Cal.rou_sel {g : Grad} {l : List MoE} {day : Int} {k : Nat} (hg : Cal.gradErr g = 0) (hm : Cal.mosE l = 0) (hd : 0 ≤ day ∧ day ≤ 200000) (h : k < l.length) :
    Cal.rouS g l day k = decide ((Cal.nextS g l[k].m day).2 = 6 ∨ ((Cal.nextS g l[k].m day).2 = 0 ∧ (Cal.nextS g l[k].m day).1 ≤ day)) := by
  unfold Cal.rouS
  rw [Cal.turnI_at h]
  exact Cal.turn_sel hg (Cal.mosE_ok hm _ (List.getElem_mem h)) hd
theorem Cal.rou_rank {g : Grad} {l : List MoE} {day : Int} {k : Nat} (hg : Cal.gradErr g = 0) (hm : Cal.mosE l = 0) (hd : 0 ≤ day ∧ day ≤ 200000) (h : k < l.length) (hS : Cal.rouS g l day k = true) :
    Cal.rankS g l[k].m day = Cal.rouK g l day k := by
  unfold Cal.rouS at hS
  unfold Cal.rouK
  rw [Cal.turnI_at h] at hS ⊢
  exact Cal.turn_rank hg (Cal.mosE_ok hm _ (List.getElem_mem h)) hd hS
structure RrI (w : World) (g : Grad) (o : Value) (zo : List Int) (wr : World) : Prop where
  fr : Below w.heap.size w wr
  pr : BoxAt wr w.heap.size [.int .i64 g.t0, .int .i64 g.t1, .int .i64 g.t2, .int .i64 g.p0, .int .i64 g.p1, .int .i64 g.p2, .int .i64 g.m0, .int .i64 g.m1, .int .i64 g.m2, .int .i64 g.m3]
  out : IntsL wr (w.heap.size + 1) o zo
  size : w.heap.size + 1 ≤ wr.heap.size
theorem RrI.below {w : World} {g : Grad} {o : Value} {zo : List Int} {wr wr' : World} (h : RrI w g o zo wr) (hb : Below wr.heap.size wr wr') : RrI w g o zo wr' :=
  ⟨below_step h.fr hb, h.pr.below hb, IntsL.below h.out hb, Nat.le_trans h.size hb.size⟩
theorem RrI.put {w : World} {g : Grad} {o v : Value} {zo zs : List Int} {wr wr' : World} (h : RrI w g o zo wr) (hb : Below wr.heap.size wr wr') (ho : IntsL wr' wr.heap.size v zs) : RrI w g v zs wr' :=
  ⟨below_step h.fr hb, h.pr.below hb, ho.less h.size, Nat.le_trans h.size hb.size⟩
/-- What comes behind a place in the list is ordered later. -/
def rlater (g : Grad) (l : List MoE) (day : Int) (ds : List Nat) (k q : Nat) : Prop := ∀ (j : Nat) z, q ≤ j → ds[j]? = some z → Cal.ltK (Cal.rouK g l day k) (Cal.rouK g l day z) = true
set_option maxRecDepth 100000 in
set_option maxHeartbeats 8000000 in
theorem RoundR_any (g : Grad) (L : Option Addr) (lc : Nat) (l : List MoE) (day : Int) (w : World) (hT : Tab w) (hN : Mos w L lc l) (hg : Cal.gradErr g = 0) (hm : Cal.mosE l = 0) (hd : 0 ≤ day ∧ day ≤ 200000) :
    Calls Tryz.prog 16 #[.agg #[.int .i64 g.t0, .int .i64 g.t1, .int .i64 g.t2, .int .i64 g.p0, .int .i64 g.p1, .int .i64 g.p2, .int .i64 g.m0, .int .i64 g.m1, .int .i64 g.m2, .int .i64 g.m3], .slice L l.length lc, .int .i64 day] w fun e w' => ∃ v, e = .returned v ∧ IntsL w' w.heap.size v (Cal.rouO g l day) ∧ Below w.heap.size w w' := by
  have hlen := Cal.mosE_len hm
  have hok := Lib.hid (Cal.mosE_ok hm)
  have hrs := Lib.hid (fun (k : Nat) (h : k < l.length) => Cal.rou_sel hg hm hd h)
  have hrr := Lib.hid (fun (k : Nat) (h : k < l.length) => Cal.rou_rank hg hm hd h)
  have hT := Lib.hid (fun w' (h : Below w.heap.size w w') => hT.below h)
  have hN := Lib.hid (fun w' (h : Below w.heap.size w w') => hN.below h)
  have hg := Lib.hid hg
  have hd := Lib.hid hd
  clear hm
  have hI0 : Hid (RrI w g (.slice none 0 0) (numsOf (Cal.dueI (Cal.rouK g l day) (Cal.rouS g l day) 0)) (w.alloc (.cells #[.int .i64 g.t0, .int .i64 g.t1, .int .i64 g.t2, .int .i64 g.p0, .int .i64 g.p1, .int .i64 g.p2, .int .i64 g.m0, .int .i64 g.m1, .int .i64 g.m2, .int .i64 g.m3] 25))) := by
    rw [Cal.dueI_zero]
    exact ⟨below_alloc _ _, BoxAt.new _ _ _, OwnL.nil _ _ _ _, by simp⟩
  go_enter Tryz.func16, Tryz.ntmps16
  go_wp2_with fail
  go_loopg [7, 8] l.length (fun gk o i wr => ∃ k : Nat, gk + k = l.length ∧ i = .int .i64 k ∧ Hid (RrI w g o (numsOf (Cal.dueI (Cal.rouK g l day) (Cal.rouS g l day) k)) wr))
  case atStart => exact ⟨0, by omega, rfl, hI0⟩
  case round =>
    clear hI0
    obtain ⟨k, hgk, rfl, hI⟩ := hrel
    have hno := Lib.hid (fun h => Cal.dueI_no (K := Cal.rouK g l day) (S := Cal.rouS g l day) (n := k) h)
    have hins := Lib.hid (fun (q : Nat) h h1 h2 h3 => Cal.dueI_ins (K := Cal.rouK g l day) (S := Cal.rouS g l day) (i := k) (k := q) h h1 h2 h3)
    have hdm := Lib.hid (fun (z : Nat) h => (Cal.dueI_mem (K := Cal.rouK g l day) (S := Cal.rouS g l day) (n := k) (j := z)).1 h)
    obtain ⟨A7, c7, hv7, _⟩ := hI.out.out.rows
    subst hv7
    by_cases hlt : k < l.length
    · have hk' : l[k]? = some l[k] := List.getElem?_eq_getElem hlt
      have hnv := Lib.hid (fun w1 (h : Below w.heap.size w w1) => NextVisitR_any g l[k].V l[k].d l[k].m day w1 ((hN.out _ h).each k _ hk') (hT.out _ h) hg.out (hok.out _ (List.getElem_mem hlt)) hd.out)
      have hrkk := Lib.hid (fun w1 (h : Below w.heap.size w w1) => rank_any g l[k].V l[k].d l[k].m day w1 ((hN.out _ h).each k _ hk') (hT.out _ h) hg.out (hok.out _ (List.getElem_mem hlt)) hd.out)
      have hrz := Lib.hid (fun (z : Nat) (hz : z < l.length) w1 (h : Below w.heap.size w w1) => rank_any g l[z].V l[z].d l[z].m day w1 ((hN.out _ h).each z _ (List.getElem?_eq_getElem hz)) (hT.out _ h) hg.out (hok.out _ (List.getElem_mem hz)) hd.out)
      have hsel := Lib.hid (hrs.out k hlt)
      have hrnk := Lib.hid (hrr.out k hlt)
      obtain ⟨b, oo, rfl, hbl, c0, c1, c2⟩ := (hN.out _ hI.out.fr).at_ hk'
      have hkl : (k : Int) < (l.length : Int) := by omega
      have hk0 : (0 : Int) ≤ (k : Int) := by omega
      clear hk' hrs
      generalize l[k] = e at *
      generalize Cal.nextS g e.m day = nx at *
      generalize Cal.rankS g e.m day = mx at *
      have hzl1 : (numsOf (Cal.dueI (Cal.rouK g l day) (Cal.rouS g l day) k)).length = (Cal.dueI (Cal.rouK g l day) (Cal.rouS g l day) k).length := by unfold numsOf; simp
      have hzl3 := Cal.dueI_length (Cal.rouK g l day) (Cal.rouS g l day) k
      obtain ⟨ds, hds⟩ : ∃ ds, ds = Cal.dueI (Cal.rouK g l day) (Cal.rouS g l day) k := ⟨_, rfl⟩
      rw [← hds] at hzl1 hzl3 hno hins hI hdm ⊢
      clear hds
      obtain ⟨zo, hzo0⟩ : ∃ zo, zo = numsOf ds := ⟨_, rfl⟩
      rw [← hzo0] at hI hzl1 ⊢
      have hzo := Lib.hid hzo0
      have hzo60 : zo.length ≤ 60 := by omega
      have hzd : Hid (zo.length = ds.length) := hzl1
      clear hzo0 hzl1 hzl3
      go_wp2_with fail
      have cS := Lib.hid (fun w' (h : Below wr.heap.size wr w') => (show ((fun w' => BoxAt w' w.heap.size [.int .i64 g.t0, .int .i64 g.t1, .int .i64 g.t2, .int .i64 g.p0, .int .i64 g.p1, .int .i64 g.p2, .int .i64 g.m0, .int .i64 g.m1, .int .i64 g.m2, .int .i64 g.m3] ∧ (w'.cell? ⟨b, oo + k * 3, none⟩ = some (.string e.m.name) ∧ w'.cell? ⟨b, oo + k * 3 + 1, none⟩ = some (.string e.m.place) ∧ w'.cell? ⟨b, oo + k * 3 + 2, none⟩ = some (.slice e.V e.m.visits.length e.d)))) w' from ⟨hI.out.pr.below h, (h.cell (p := ⟨b, oo + k * 3, none⟩) hbl).trans c0, (h.cell (p := ⟨b, oo + k * 3 + 1, none⟩) hbl).trans c1, (h.cell (p := ⟨b, oo + k * 3 + 2, none⟩) hbl).trans c2⟩))
      have hdr := Lib.hid (show Below wr.heap.size wr wr.drew from (Below.refl _ _).drew)
      refine wp_region_held_drew (S := (fun w' => BoxAt w' w.heap.size [.int .i64 g.t0, .int .i64 g.t1, .int .i64 g.t2, .int .i64 g.p0, .int .i64 g.p1, .int .i64 g.p2, .int .i64 g.m0, .int .i64 g.m1, .int .i64 g.m2, .int .i64 g.m3] ∧ (w'.cell? ⟨b, oo + k * 3, none⟩ = some (.string e.m.name) ∧ w'.cell? ⟨b, oo + k * 3 + 1, none⟩ = some (.string e.m.place) ∧ w'.cell? ⟨b, oo + k * 3 + 2, none⟩ = some (.slice e.V e.m.visits.length e.d)))) (by kernel_rfl) (cS.out _ hdr.out) (fun hHeld => ?_)
      (refine wpAnyH_take (i := 0) (v := _) rfl (by kernel_rfl) (by decide +kernel) (by decide +kernel) (fun _ _ _ h => h) (yieldsIf_load_mid (by kernel_rfl) 25 _ rfl (w.heap.size) 0 (by kernel_rfl) [.int .i64 g.t0, .int .i64 g.t1, .int .i64 g.t2, .int .i64 g.p0, .int .i64 g.p1, .int .i64 g.p2, .int .i64 g.m0, .int .i64 g.m1, .int .i64 g.m2, .int .i64 g.m3] _ (fun _ h => h.1.range) Tryz.underlying25 rfl grSize) (by assumption) ?_; (try simp only [Act.put]); (try simp only [List.setIfInBounds_toArray]); (try simp only [List.set_cons_zero, List.set_cons_succ]))
      (refine tkH 1 (v := ?_) ?_ ?_; rotate_left; focus (intro w' hSw; (try dsimp only at hSw); go_simp; (try with_reducible rfl)); (try simp only [Act.put, List.setIfInBounds_toArray, List.set_cons_zero, List.set_cons_succ]))
      (refine tkH 2 (v := ?_) ?_ ?_; rotate_left; focus (intro w' hSw; (try dsimp only at hSw); go_simp; (try with_reducible rfl)); (try simp only [Act.put, List.setIfInBounds_toArray, List.set_cons_zero, List.set_cons_succ]))
      (refine tkH 3 (v := ?_) ?_ ?_; rotate_left; focus (intro w' hSw; (try dsimp only at hSw); go_simp; (try with_reducible rfl)); (try simp only [Act.put, List.setIfInBounds_toArray, List.set_cons_zero, List.set_cons_succ]))
      (refine tkH 4 (v := ?_) ?_ ?_; rotate_left; focus (intro w' hSw; (try dsimp only at hSw); go_simp; (try with_reducible rfl)); (try simp only [Act.put, List.setIfInBounds_toArray, List.set_cons_zero, List.set_cons_succ]))
      (refine tkH 5 (v := ?_) ?_ ?_; rotate_left; focus (intro w' hSw; (try dsimp only at hSw); go_simp; (try with_reducible rfl)); (try simp only [Act.put, List.setIfInBounds_toArray, List.set_cons_zero, List.set_cons_succ]))
      (refine wpAnyH_ready (rs := [6]) (by decide +kernel) (by simp) ?_; refine AllReadyH.cons rfl (fun K hK => ?_) AllReadyH.nil; rw [if_pos (by kernel_rfl)]; go_simp)
      refine (hnv.out _ (below_step hI.out.fr hdr.out)).mono ?_
      rintro en w5 ⟨rfl, hb5⟩
      have hx := Lib.hid (below_step hdr.out hb5)
      clear hb5 hdr
      go_simp
      (refine hK.out _ _ (cS.out _ hx.out) (fun hHeld => ?_); clear hK K; (try simp only [Act.put]); (try simp only [List.setIfInBounds_toArray]); (try simp only [List.set_cons_zero, List.set_cons_succ]))
      (refine tkH 7 (v := ?_) ?_ ?_; rotate_left; focus (intro w' hSw; (try dsimp only at hSw); go_simp; (try with_reducible rfl)); (try simp only [Act.put, List.setIfInBounds_toArray, List.set_cons_zero, List.set_cons_succ]))
      (refine tkH 8 (v := ?_) ?_ ?_; rotate_left; focus (intro w' hSw; (try dsimp only at hSw); go_simp; (try with_reducible rfl)); (try simp only [Act.put, List.setIfInBounds_toArray, List.set_cons_zero, List.set_cons_succ]))
      (refine tkH 9 (v := ?_) ?_ ?_; rotate_left; focus (intro w' hSw; (try dsimp only at hSw); go_simp; (try with_reducible rfl)); (try simp only [Act.put, List.setIfInBounds_toArray, List.set_cons_zero, List.set_cons_succ]))
      (refine tkH 10 (v := ?_) ?_ ?_; rotate_left; focus (intro w' hSw; (try dsimp only at hSw); go_simp; (try with_reducible rfl)); (try simp only [Act.put, List.setIfInBounds_toArray, List.set_cons_zero, List.set_cons_succ]))
      (refine wpAnyH_ready (rs := [11]) (by decide +kernel) (by simp) ?_; refine AllReadyH.cons rfl (fun K hK => ?_) AllReadyH.nil; rw [if_pos (by kernel_rfl)]; go_simp)
      (refine hK.out _ _ (cS.out _ hx.out) (fun hHeld => ?_); clear hK K; (try simp only [Act.put]); (try simp only [List.setIfInBounds_toArray]); (try simp only [List.set_cons_zero, List.set_cons_succ]))
      refine wpAnyH_done (by kernel_rfl) ?_ _
      clear hHeld cS hnv
      have c0 := (hx.out.cell (p := ⟨b, oo + k * 3, none⟩) hbl).trans c0
      have c1 := (hx.out.cell (p := ⟨b, oo + k * 3 + 1, none⟩) hbl).trans c1
      have c2 := (hx.out.cell (p := ⟨b, oo + k * 3 + 2, none⟩) hbl).trans c2
      have hbl : b < w5.heap.size := Nat.lt_of_lt_of_le hbl hx.out.size
      have hI := Lib.hid (hI.out.below hx.out)
      clear hx
      go_upto_region 6 with fail
      go_cut [40] from 14 to 95 (fun bq wx => ∃ bb : Bool, bq = .bool bb ∧ Hid (bb = !Cal.rouS g l day k) ∧ wx = w5)
      case first =>
        by_cases h6 : nx.2 = 6
        · have h6b : (nx.2 != 6) = false := by simpa using h6
          have hs := Lib.hid (show false = !Cal.rouS g l day k by rw [hsel.out]; simp [h6])
          clear h6
          go_wp2_with fail
          go_meet
          exact ⟨false, rfl, hs, rfl⟩
        · have h6b : (nx.2 != 6) = true := by simpa using h6
          by_cases h0 : nx.2 = 0
          · have h0b : (nx.2 != 0) = false := by simpa using h0
            by_cases hle : nx.1 ≤ day
            · have hgt : decide (day < nx.1) = false := by simpa using hle
              have hs := Lib.hid (show false = !Cal.rouS g l day k by rw [hsel.out]; simp [h0, hle])
              clear h6 h0 hle
              go_wp2_with fail
              go_meet
              exact ⟨false, rfl, hs, rfl⟩
            · have hgt : decide (day < nx.1) = true := by simpa using hle
              have hs := Lib.hid (show true = !Cal.rouS g l day k by rw [hsel.out]; simp [h0, hle])
              clear h6 h0 hle
              go_wp2_with fail
              go_meet
              exact ⟨true, rfl, hs, rfl⟩
          · have h0b : (nx.2 != 0) = true := by simpa using h0
            have hs := Lib.hid (show true = !Cal.rouS g l day k by rw [hsel.out]; simp [h6, h0])
            clear h6 h0
            go_wp2_with fail
            go_meet
            exact ⟨true, rfl, hs, rfl⟩
      case rest =>
      obtain ⟨bb, rfl, hbb, rfl⟩ := hcut
      obtain ⟨w5, rfl⟩ : ∃ x, x = wc := ⟨_, rfl⟩
      cases bb
      · have hselT : Hid (Cal.rouS g l day k = true) := by
          have h := hbb.out
          show _ = _
          cases hx : Cal.rouS g l day k
          · rw [hx] at h; exact h
          · rfl
        have hmx : Hid (mx = Cal.rouK g l day k) := hrnk.out hselT.out
        clear hbb hrnk hsel
        go_upto_region 7 with fail
        go_cut [11] from 14 to 95 (fun t wc => ∃ bs, t = .pointer (some ⟨bs, 0, none⟩) ∧ Hid (BoxAt wc bs [.int .i64 mx.1, .int .i64 mx.2]) ∧ Hid (RrI w g (.slice A7 zo.length c7) zo wc))
        case first =>
          have cS := Lib.hid (fun w' (h : Below w5.heap.size w5 w') => (show ((fun w' => BoxAt w' w.heap.size [.int .i64 g.t0, .int .i64 g.t1, .int .i64 g.t2, .int .i64 g.p0, .int .i64 g.p1, .int .i64 g.p2, .int .i64 g.m0, .int .i64 g.m1, .int .i64 g.m2, .int .i64 g.m3] ∧ (w'.cell? ⟨b, oo + k * 3, none⟩ = some (.string e.m.name) ∧ w'.cell? ⟨b, oo + k * 3 + 1, none⟩ = some (.string e.m.place) ∧ w'.cell? ⟨b, oo + k * 3 + 2, none⟩ = some (.slice e.V e.m.visits.length e.d)))) w' from ⟨hI.out.pr.below h, (h.cell (p := ⟨b, oo + k * 3, none⟩) hbl).trans c0, (h.cell (p := ⟨b, oo + k * 3 + 1, none⟩) hbl).trans c1, (h.cell (p := ⟨b, oo + k * 3 + 2, none⟩) hbl).trans c2⟩))
          have hdr := Lib.hid (show Below (w5).heap.size (w5) (w5).drew from (Below.refl _ _).drew)
          refine wp_region_held_drew (S := (fun w' => BoxAt w' w.heap.size [.int .i64 g.t0, .int .i64 g.t1, .int .i64 g.t2, .int .i64 g.p0, .int .i64 g.p1, .int .i64 g.p2, .int .i64 g.m0, .int .i64 g.m1, .int .i64 g.m2, .int .i64 g.m3] ∧ (w'.cell? ⟨b, oo + k * 3, none⟩ = some (.string e.m.name) ∧ w'.cell? ⟨b, oo + k * 3 + 1, none⟩ = some (.string e.m.place) ∧ w'.cell? ⟨b, oo + k * 3 + 2, none⟩ = some (.slice e.V e.m.visits.length e.d)))) (by kernel_rfl) (cS.out _ hdr.out) (fun hHeld => ?_)
          generalize (w5).drew = w6 at *
          (refine wpAnyH_take (i := 0) (v := _) rfl (by kernel_rfl) (by decide +kernel) (by decide +kernel) (fun _ _ _ h => h) (yieldsIf_load_mid (by kernel_rfl) 25 _ rfl (w.heap.size) 0 (by kernel_rfl) [.int .i64 g.t0, .int .i64 g.t1, .int .i64 g.t2, .int .i64 g.p0, .int .i64 g.p1, .int .i64 g.p2, .int .i64 g.m0, .int .i64 g.m1, .int .i64 g.m2, .int .i64 g.m3] _ (fun _ h => h.1.range) Tryz.underlying25 rfl grSize) (by assumption) ?_; (try simp only [Act.put]); (try simp only [List.setIfInBounds_toArray]); (try simp only [List.set_cons_zero, List.set_cons_succ]))
          (refine tkH 1 (v := ?_) ?_ ?_; rotate_left; focus (intro w' hSw; (try dsimp only at hSw); go_simp; (try with_reducible rfl)); (try simp only [Act.put, List.setIfInBounds_toArray, List.set_cons_zero, List.set_cons_succ]))
          (refine tkH 2 (v := ?_) ?_ ?_; rotate_left; focus (intro w' hSw; (try dsimp only at hSw); go_simp; (try with_reducible rfl)); (try simp only [Act.put, List.setIfInBounds_toArray, List.set_cons_zero, List.set_cons_succ]))
          (refine tkH 3 (v := ?_) ?_ ?_; rotate_left; focus (intro w' hSw; (try dsimp only at hSw); go_simp; (try with_reducible rfl)); (try simp only [Act.put, List.setIfInBounds_toArray, List.set_cons_zero, List.set_cons_succ]))
          (refine tkH 4 (v := ?_) ?_ ?_; rotate_left; focus (intro w' hSw; (try dsimp only at hSw); go_simp; (try with_reducible rfl)); (try simp only [Act.put, List.setIfInBounds_toArray, List.set_cons_zero, List.set_cons_succ]))
          (refine tkH 5 (v := ?_) ?_ ?_; rotate_left; focus (intro w' hSw; (try dsimp only at hSw); go_simp; (try with_reducible rfl)); (try simp only [Act.put, List.setIfInBounds_toArray, List.set_cons_zero, List.set_cons_succ]))
          (refine wpAnyH_ready (rs := [6, 7]) (by decide +kernel) (by simp) ?_; refine AllReadyH.cons rfl (fun K hK => ?_) (AllReadyH.cons rfl (fun K hK => ?_) AllReadyH.nil))
          · (rw [if_pos (by kernel_rfl)]; go_simp)
            refine (hrkk.out _ (below_step hI.out.fr hdr.out)).mono ?_
            rintro en w7 ⟨rfl, hb7⟩
            have hx := Lib.hid (below_step hdr.out hb7)
            clear hb7
            go_simp
            (refine hK.out _ _ (cS.out _ hx.out) (fun hHeld => ?_); clear hK K; (try simp only [Act.put]); (try simp only [List.setIfInBounds_toArray]); (try simp only [List.set_cons_zero, List.set_cons_succ]))
            (refine wpAnyH_ready (rs := [7]) (by decide +kernel) (by simp) ?_; refine AllReadyH.cons rfl (fun K hK => ?_) AllReadyH.nil; rw [if_pos (by kernel_rfl)]; go_simp)
            have h8 := Lib.hid (BoxAt.new w7 #[.int .i64 0, .int .i64 0] 49)
            have hx2 := Lib.hid (below_step hx.out (below_alloc w7 (.cells #[.int .i64 0, .int .i64 0] 49)))
            (refine hK.out _ _ (cS.out _ hx2.out) (fun hHeld => ?_); clear hK K; (try simp only [Act.put]); (try simp only [List.setIfInBounds_toArray]); (try simp only [List.set_cons_zero, List.set_cons_succ]))
            have hxs := hx.out.size
            refine wpAnyH_ready (rs := [8]) (by decide +kernel) (by simp) ?_
            refine AllReadyH.cons rfl (fun K hK => ?_) AllReadyH.nil
            rw [if_pos (by kernel_rfl)]
            refine wp_store_mid 49 (.tmp 11) (.tmp 47) rfl (w7.heap.size) 0 #[.int .i64 mx.1, .int .i64 mx.2] (by rfl) (by rfl) (by exact h8.out.there) pairSz (by kernel_rfl) ?_
            have hg8 := grown_setCells (w7.heap.size) [.int .i64 mx.1, .int .i64 mx.2] 0 (w7.alloc (.cells #[.int .i64 0, .int .i64 0] 49))
            have h8b := Lib.hid (h8.out.put [.int .i64 mx.1, .int .i64 mx.2] rfl)
            have hxf := below_of_grownB hx2.out hg8 (by omega)
            have hxF := Lib.hid hxf
            go_simp
            (refine hK.out _ _ (cS.out _ hxF.out) (fun hHeld => ?_); clear hK K; (try simp only [Act.put]); (try simp only [List.setIfInBounds_toArray]); (try simp only [List.set_cons_zero, List.set_cons_succ]))
            refine wpAnyH_done (by kernel_rfl) ?_ _
            clear hHeld
            go_wp2_with fail
            go_meet
            exact ⟨_, rfl, h8b, Lib.hid (hI.out.below hxF.out)⟩
          · (rw [if_pos (by kernel_rfl)]; go_simp)
            have h8 := Lib.hid (BoxAt.new w6 #[.int .i64 0, .int .i64 0] 49)
            have hx := Lib.hid (below_step hdr.out (below_alloc w6 (.cells #[.int .i64 0, .int .i64 0] 49)))
            (refine hK.out _ _ (cS.out _ hx.out) (fun hHeld => ?_); clear hK K; (try simp only [Act.put]); (try simp only [List.setIfInBounds_toArray]); (try simp only [List.set_cons_zero, List.set_cons_succ]))
            have hxs := hdr.out.size
            (refine wpAnyH_ready (rs := [6]) (by decide +kernel) (by simp) ?_; refine AllReadyH.cons rfl (fun K hK => ?_) AllReadyH.nil; rw [if_pos (by kernel_rfl)]; go_simp)
            refine (hrkk.out _ (below_step hI.out.fr hx.out)).mono ?_
            rintro en w7 ⟨rfl, hb7⟩
            have h8 := Lib.hid (h8.out.below hb7)
            have hx2 := Lib.hid (below_step hx.out hb7)
            clear hb7
            go_simp
            (refine hK.out _ _ (cS.out _ hx2.out) (fun hHeld => ?_); clear hK K; (try simp only [Act.put]); (try simp only [List.setIfInBounds_toArray]); (try simp only [List.set_cons_zero, List.set_cons_succ]))
            refine wpAnyH_ready (rs := [8]) (by decide +kernel) (by simp) ?_
            refine AllReadyH.cons rfl (fun K hK => ?_) AllReadyH.nil
            rw [if_pos (by kernel_rfl)]
            refine wp_store_mid 49 (.tmp 11) (.tmp 47) rfl (w6.heap.size) 0 #[.int .i64 mx.1, .int .i64 mx.2] (by rfl) (by rfl) (by exact h8.out.there) pairSz (by kernel_rfl) ?_
            have hg8 := grown_setCells (w6.heap.size) [.int .i64 mx.1, .int .i64 mx.2] 0 (w7)
            have h8b := Lib.hid (h8.out.put [.int .i64 mx.1, .int .i64 mx.2] rfl)
            have hxf := below_of_grownB hx2.out hg8 (by omega)
            have hxF := Lib.hid hxf
            go_simp
            (refine hK.out _ _ (cS.out _ hxF.out) (fun hHeld => ?_); clear hK K; (try simp only [Act.put]); (try simp only [List.setIfInBounds_toArray]); (try simp only [List.set_cons_zero, List.set_cons_succ]))
            refine wpAnyH_done (by kernel_rfl) ?_ _
            clear hHeld
            go_wp2_with fail
            go_meet
            exact ⟨_, rfl, h8b, Lib.hid (hI.out.below hxF.out)⟩
        case rest =>
        clear hI c0 c1 c2 hbl hrkk
        obtain ⟨bs, rfl, hM, hI⟩ := hcut
        have hq0 : Hid (rlater g l day ds k zo.length) := fun j z hj hz => by
          have := (List.getElem?_eq_some_iff.1 hz).1
          have := hzd.out
          omega
        go_wp2_with fail
        go_loopg [12] zo.length (fun gq i wi => gq ≤ zo.length ∧ i = .int .i64 gq ∧ Hid (rlater g l day ds k gq) ∧ Hid (BoxAt wi bs [.int .i64 mx.1, .int .i64 mx.2]) ∧ Hid (RrI w g (.slice A7 zo.length c7) zo wi))
        case atStart => exact ⟨Nat.le_refl _, rfl, hq0, hM, hI⟩
        case round =>
          clear hq0 hM hI
          obtain ⟨hq, rfl, hlat, hM, hI⟩ := hrel
          by_cases hg0 : gk = 0
          · have hgz : decide ((0 : Int) < (gk : Int)) = false := by simp; omega
            have hgz2 : decide (0 < gk) = false := by simp; omega
            have hlow : Hid (∀ z, 0 < gk → ds[gk - 1]? = some z → Cal.ltK (Cal.rouK g l day k) (Cal.rouK g l day z) = false) := fun _ h _ => by omega
            clear hg0
            obtain ⟨wz, hwz⟩ : ∃ wz, wz = wr := ⟨_, rfl⟩
            rw [← hwz] at hI hM ⊢
            clear hwz
            have hn1 : Hid (numsOf (Cal.dueI (Cal.rouK g l day) (Cal.rouS g l day) (k + 1)) = zo.take gk ++ [(k : Int)] ++ zo.drop gk) := by
              show _ = _
              rw [(hins.out gk hselT.out (by have := hzd.out; omega) (fun j z hj hz => hlat.out j z hj hz) (fun z hp hz => hlow.out z hp hz)).symm, numsOf_ins, ← hzo.out]
            clear hlat hlow hins hno hM
            go_upto_region 13 with fail
            obtain ⟨W, hWz⟩ : ∃ W, W = wz := ⟨_, rfl⟩
            rw [← hWz] at hI ⊢
            clear hWz
            obtain ⟨A1, c1, hrun1, hR1⟩ := (hI.out.out).hiI hq
            obtain ⟨A2, c2', hrun2, hR2⟩ := (hI.out.out).loI hq
            have hr1 := Lib.hid (fun w' (h : Below W.heap.size W w') => hR1.below h)
            have hr2 := Lib.hid (fun w' (h : Below W.heap.size W w') => hR2.below h)
            have d2 : True := trivial
            have cS : ∀ w', Below W.heap.size W w' → True := fun _ _ => trivial
            have hq0' : (0 : Int) ≤ (gk : Int) := by omega
            have hql : (gk : Int) ≤ (zo.length : Int) := by omega
            obtain ⟨q, rfl⟩ : ∃ q, q = gk := ⟨_, rfl⟩
            clear hR1 hR2
            have o1 : OwnL (W.alloc (.cells #[] 3)).drew W.heap.size 3 1 (.slice (some ⟨W.heap.size, 0, none⟩) 0 0) [] := (OwnL.made W W.heap.size _ 1 (Nat.le_refl _)).below (below_drewN (Below.refl _ _) 1)
            have o2 : OwnL ((W.alloc (.cells #[] 3)).alloc (.cells #[.int .i64 (k : Int)] 3)).drew W.heap.size 3 1 (.slice (some ⟨W.heap.size, 0, none⟩) 0 0) [] := (OwnL.made W W.heap.size _ 1 (Nat.le_refl _)).below (below_drewN (below_alloc _ _) 1)
            have o3 : OwnL ((W.alloc (.cells #[.int .i64 (k : Int)] 3)).alloc (.cells #[] 3)).drew W.heap.size 3 1 (.slice (some ⟨W.heap.size + 1, 0, none⟩) 0 0) [] := by
              have h := (OwnL.made (W.alloc (.cells #[.int .i64 (k : Int)] 3)) W.heap.size 3 1 (by simp)).below (below_drewN (Below.refl _ _) 1)
              simp only [World.size_alloc] at h
              exact h
            refine wp_region_held_drew (S := (fun _ => True)) (by kernel_rfl) d2 (fun hHeld => ?_)
            (refine tkH 1 (v := ?_) ?_ ?_; rotate_left; focus (intro w' hSw; (try dsimp only at hSw); go_simp; (try with_reducible rfl)); (try simp only [Act.put, List.setIfInBounds_toArray, List.set_cons_zero, List.set_cons_succ]))
            (refine tkH 2 (v := ?_) ?_ ?_; rotate_left; focus (intro w' hSw; (try dsimp only at hSw); go_simp; (try with_reducible rfl)); (try simp only [Act.put, List.setIfInBounds_toArray, List.set_cons_zero, List.set_cons_succ]))
            (refine tkH 3 (v := ?_) ?_ ?_; rotate_left; focus (intro w' hSw; (try dsimp only at hSw); go_simp; (try with_reducible rfl)); (try simp only [Act.put, List.setIfInBounds_toArray, List.set_cons_zero, List.set_cons_succ]))
            (refine tkH 5 (v := ?_) ?_ ?_; rotate_left; focus (intro w' hSw; (try dsimp only at hSw); go_simp; (try with_reducible rfl)); (try simp only [Act.put, List.setIfInBounds_toArray, List.set_cons_zero, List.set_cons_succ]))
            (refine tkH 8 (v := ?_) ?_ ?_; rotate_left; focus (intro w' hSw; (try dsimp only at hSw); go_simp; (try with_reducible rfl)); (try simp only [Act.put, List.setIfInBounds_toArray, List.set_cons_zero, List.set_cons_succ]))
            (refine tkH 9 (v := ?_) ?_ ?_; rotate_left; focus (intro w' hSw; (try dsimp only at hSw); go_simp; (try with_reducible rfl)); (try simp only [Act.put, List.setIfInBounds_toArray, List.set_cons_zero, List.set_cons_succ]))
            (refine tkH 10 (v := ?_) ?_ ?_; rotate_left; focus (intro w' hSw; (try dsimp only at hSw); go_simp; (try with_reducible rfl)); (try simp only [Act.put, List.setIfInBounds_toArray, List.set_cons_zero, List.set_cons_succ]))
            (refine wpAnyH_ready (rs := [0, 6]) (by decide +kernel) (by simp) ?_; refine AllReadyH.cons rfl (fun K hK => ?_) (AllReadyH.cons rfl (fun K hK => ?_) AllReadyH.nil))
            · (rw [if_pos (by kernel_rfl)]; go_simp)
              (refine hK.out _ _ (cS (W.alloc (.cells #[] 3)) (below_alloc _ _)) (fun hHeld => ?_); clear hK K; (try simp only [Act.put]); (try simp only [List.setIfInBounds_toArray]); (try simp only [List.set_cons_zero, List.set_cons_succ]))
              (refine wpAnyH_ready (rs := [4, 6]) (by decide +kernel) (by simp) ?_; refine AllReadyH.cons rfl (fun K hK => ?_) (AllReadyH.cons rfl (fun K hK => ?_) AllReadyH.nil))
              · refine step_append_rows elemInt (by rfl) (.tmp 84) (.tmp 87) (by rfl) (by rfl) (by rfl) (o1) (hr1.out _ (below_drewN (below_alloc _ _) 1)) (by simp only [intRows_length, List.length_take]; omega) (intRows_wid _) (intRows_one _) (by simp only [intRows_length, List.length_take, List.length_nil]; omega) (by decide) (by first | (simp; done) | (simp; omega)) ?_
                intro v' w2 hown hg2 hob2
                have hb12 : Below W.heap.size W w2 := (below_drewN (below_alloc _ _) 1).trans (grown_below hg2 (fun g e => by cases e; exact Nat.le_refl _) (by simp))
                (refine hK.out _ _ (cS w2 hb12) (fun hHeld => ?_); clear hK K; (try simp only [Act.put]); (try simp only [List.setIfInBounds_toArray]); (try simp only [List.set_cons_zero, List.set_cons_succ]))
                (refine wpAnyH_ready (rs := [6]) (by decide +kernel) (by simp) ?_; refine AllReadyH.cons rfl (fun K hK => ?_) AllReadyH.nil; rw [if_pos (by kernel_rfl)]; go_simp)
                (refine hK.out _ _ (cS (w2.alloc (.cells #[.int .i64 (k : Int)] 3)) (below_step hb12 (below_alloc _ _))) (fun hHeld => ?_); clear hK K; (try simp only [Act.put]); (try simp only [List.setIfInBounds_toArray]); (try simp only [List.set_cons_zero, List.set_cons_succ]))
                (refine wpAnyH_ready (rs := [7]) (by decide +kernel) (by simp) ?_; refine AllReadyH.cons rfl (fun K hK => ?_) AllReadyH.nil)
                refine step_append_rows elemInt (by rfl) (.tmp 88) (.tmp 90) (by rfl) (by rfl) (by rfl) (hown.below (below_alloc _ _)) (rowsAt_new _ [.int .i64 ((k : Int))] _) rfl (intRows_wid [(k : Int)]) (intRows_one [(k : Int)]) (by simp only [intRows_length, List.length_take, List.length_nil, List.length_append, List.length_singleton]; omega) (by decide) (by have := hb12.size; simp; omega) ?_
                intro v'' w3 hown3 hg3 hob3
                have hb13 : Below W.heap.size W w3 := (hb12.alloc hb12.size _).trans (grown_below hg3 (fun g e => (hown.lt g e).1) (by have := hb12.size; simp; omega))
                (refine hK.out _ _ (cS w3 hb13) (fun hHeld => ?_); clear hK K; (try simp only [Act.put]); (try simp only [List.setIfInBounds_toArray]); (try simp only [List.set_cons_zero, List.set_cons_succ]))
                (refine wpAnyH_ready (rs := [11]) (by decide +kernel) (by simp) ?_; refine AllReadyH.cons rfl (fun K hK => ?_) AllReadyH.nil)
                refine step_append_rows elemInt (by rfl) (.tmp 91) (.tmp 94) (by rfl) (by rfl) (by rfl) hown3 (hr2.out _ hb13) (by simp only [intRows_length, List.length_drop]) (intRows_wid _) (intRows_one _) (by simp only [intRows_length, List.length_take, List.length_drop, List.length_nil, List.length_append, List.length_singleton]; omega) (by decide) hb13.size ?_
                intro v4 w4 hown4 hg4 hob4
                have hb14 : Below W.heap.size W w4 := hb13.trans (grown_below hg4 (fun g e => (hown3.lt g e).1) hb13.size)
                have hI4 : Hid (IntsL w4 W.heap.size v4 (zo.take q ++ [(k : Int)] ++ zo.drop q)) := by
                  have h := hown4
                  show IntsL _ _ _ _
                  unfold IntsL
                  have e : intRows (zo.take q ++ [(k : Int)] ++ zo.drop q) = [] ++ intRows (zo.take q) ++ intRows [(k : Int)] ++ intRows (zo.drop q) := by unfold intRows; simp
                  rw [e]; exact h
                have hb14 := Lib.hid hb14
                clear o1 o2 o3 hown hown3 hown4 hg2 hg3 hg4 hob2 hob3 hob4 hb12 hb13
                (refine hK.out _ _ (cS w4 hb14.out) (fun hHeld => ?_); clear hK K; (try simp only [Act.put]); (try simp only [List.setIfInBounds_toArray]); (try simp only [List.set_cons_zero, List.set_cons_succ]))
                (refine wpAnyH_ready (rs := [12]) (by decide +kernel) (by simp) ?_; refine AllReadyH.cons rfl (fun K hK => ?_) AllReadyH.nil; rw [if_pos (by kernel_rfl)]; go_simp)
                (refine hK.out _ _ (cS w4 hb14.out) (fun hHeld => ?_); clear hK K; (try simp only [Act.put]); (try simp only [List.setIfInBounds_toArray]); (try simp only [List.set_cons_zero, List.set_cons_succ]))
                refine wpAnyH_done (by kernel_rfl) ?_ _
                clear hHeld
                go_wp2_with fail
                have hI := Lib.hid (hI.out.put hb14.out hI4.out)
                go_roundg (l.length - (k + 1))
                case measure => omega
                case rel => exact ⟨k + 1, by omega, by go_num, by rw [hn1.out]; exact hI⟩
              · (rw [if_pos (by kernel_rfl)]; go_simp)
                (refine hK.out _ _ (cS ((W.alloc (.cells #[] 3)).alloc (.cells #[.int .i64 (k : Int)] 3)) (below_step (below_alloc _ _) (below_alloc _ _))) (fun hHeld => ?_); clear hK K; (try simp only [Act.put]); (try simp only [List.setIfInBounds_toArray]); (try simp only [List.set_cons_zero, List.set_cons_succ]))
                (refine wpAnyH_ready (rs := [4]) (by decide +kernel) (by simp) ?_; refine AllReadyH.cons rfl (fun K hK => ?_) AllReadyH.nil)
                refine step_append_rows elemInt (by rfl) (.tmp 84) (.tmp 87) (by rfl) (by rfl) (by rfl) (o2) (hr1.out _ (below_drewN (below_step (below_alloc _ _) (below_alloc _ _)) 1)) (by simp only [intRows_length, List.length_take]; omega) (intRows_wid _) (intRows_one _) (by simp only [intRows_length, List.length_take, List.length_nil]; omega) (by decide) (by first | (simp; done) | (simp; omega)) ?_
                intro v' w2 hown hg2 hob2
                have hb12 : Below W.heap.size W w2 := (below_drewN (below_step (below_alloc _ _) (below_alloc _ _)) 1).trans (grown_below hg2 (fun g e => by cases e; exact Nat.le_refl _) (by simp; omega))
                have hsrc : RowsAt w2 (some ⟨W.heap.size + 1, 0, none⟩) 1 (intRows [(k : Int)]) := RowsAt.farI (by have h := rowsAt_new (W.alloc (.cells #[] 3)) [.int .i64 ((k : Int))] 3; simp only [World.size_alloc] at h; exact h) hg2 (fun a e => by cases e; simp [Value.ownBlock])
                (refine hK.out _ _ (cS w2 hb12) (fun hHeld => ?_); clear hK K; (try simp only [Act.put]); (try simp only [List.setIfInBounds_toArray]); (try simp only [List.set_cons_zero, List.set_cons_succ]))
                (refine wpAnyH_ready (rs := [7]) (by decide +kernel) (by simp) ?_; refine AllReadyH.cons rfl (fun K hK => ?_) AllReadyH.nil)
                refine step_append_rows elemInt (by rfl) (.tmp 88) (.tmp 90) (by rfl) (by rfl) (by rfl) (hown) (hsrc) rfl (intRows_wid [(k : Int)]) (intRows_one [(k : Int)]) (by simp only [intRows_length, List.length_take, List.length_nil, List.length_append, List.length_singleton]; omega) (by decide) hb12.size ?_
                intro v'' w3 hown3 hg3 hob3
                have hb13 : Below W.heap.size W w3 := hb12.trans (grown_below hg3 (fun g e => (hown.lt g e).1) hb12.size)
                (refine hK.out _ _ (cS w3 hb13) (fun hHeld => ?_); clear hK K; (try simp only [Act.put]); (try simp only [List.setIfInBounds_toArray]); (try simp only [List.set_cons_zero, List.set_cons_succ]))
                (refine wpAnyH_ready (rs := [11]) (by decide +kernel) (by simp) ?_; refine AllReadyH.cons rfl (fun K hK => ?_) AllReadyH.nil)
                refine step_append_rows elemInt (by rfl) (.tmp 91) (.tmp 94) (by rfl) (by rfl) (by rfl) hown3 (hr2.out _ hb13) (by simp only [intRows_length, List.length_drop]) (intRows_wid _) (intRows_one _) (by simp only [intRows_length, List.length_take, List.length_drop, List.length_nil, List.length_append, List.length_singleton]; omega) (by decide) hb13.size ?_
                intro v4 w4 hown4 hg4 hob4
                have hb14 : Below W.heap.size W w4 := hb13.trans (grown_below hg4 (fun g e => (hown3.lt g e).1) hb13.size)
                have hI4 : Hid (IntsL w4 W.heap.size v4 (zo.take q ++ [(k : Int)] ++ zo.drop q)) := by
                  have h := hown4
                  show IntsL _ _ _ _
                  unfold IntsL
                  have e : intRows (zo.take q ++ [(k : Int)] ++ zo.drop q) = [] ++ intRows (zo.take q) ++ intRows [(k : Int)] ++ intRows (zo.drop q) := by unfold intRows; simp
                  rw [e]; exact h
                have hb14 := Lib.hid hb14
                clear o1 o2 o3 hown hown3 hown4 hg2 hg3 hg4 hob2 hob3 hob4 hb12 hb13
                (refine hK.out _ _ (cS w4 hb14.out) (fun hHeld => ?_); clear hK K; (try simp only [Act.put]); (try simp only [List.setIfInBounds_toArray]); (try simp only [List.set_cons_zero, List.set_cons_succ]))
                (refine wpAnyH_ready (rs := [12]) (by decide +kernel) (by simp) ?_; refine AllReadyH.cons rfl (fun K hK => ?_) AllReadyH.nil; rw [if_pos (by kernel_rfl)]; go_simp)
                (refine hK.out _ _ (cS w4 hb14.out) (fun hHeld => ?_); clear hK K; (try simp only [Act.put]); (try simp only [List.setIfInBounds_toArray]); (try simp only [List.set_cons_zero, List.set_cons_succ]))
                refine wpAnyH_done (by kernel_rfl) ?_ _
                clear hHeld
                go_wp2_with fail
                have hI := Lib.hid (hI.out.put hb14.out hI4.out)
                go_roundg (l.length - (k + 1))
                case measure => omega
                case rel => exact ⟨k + 1, by omega, by go_num, by rw [hn1.out]; exact hI⟩
            · (rw [if_pos (by kernel_rfl)]; go_simp)
              (refine hK.out _ _ (cS (W.alloc (.cells #[.int .i64 (k : Int)] 3)) (below_alloc _ _)) (fun hHeld => ?_); clear hK K; (try simp only [Act.put]); (try simp only [List.setIfInBounds_toArray]); (try simp only [List.set_cons_zero, List.set_cons_succ]))
              (refine wpAnyH_ready (rs := [0]) (by decide +kernel) (by simp) ?_; refine AllReadyH.cons rfl (fun K hK => ?_) AllReadyH.nil; rw [if_pos (by kernel_rfl)]; go_simp)
              (refine hK.out _ _ (cS ((W.alloc (.cells #[.int .i64 (k : Int)] 3)).alloc (.cells #[] 3)) (below_step (below_alloc _ _) (below_alloc _ _))) (fun hHeld => ?_); clear hK K; (try simp only [Act.put]); (try simp only [List.setIfInBounds_toArray]); (try simp only [List.set_cons_zero, List.set_cons_succ]))
              (refine wpAnyH_ready (rs := [4]) (by decide +kernel) (by simp) ?_; refine AllReadyH.cons rfl (fun K hK => ?_) AllReadyH.nil)
              refine step_append_rows elemInt (by rfl) (.tmp 84) (.tmp 87) (by rfl) (by rfl) (by rfl) (o3) (hr1.out _ (below_drewN (below_step (below_alloc _ _) (below_alloc _ _)) 1)) (by simp only [intRows_length, List.length_take]; omega) (intRows_wid _) (intRows_one _) (by simp only [intRows_length, List.length_take, List.length_nil]; omega) (by decide) (by first | (simp; done) | (simp; omega)) ?_
              intro v' w2 hown hg2 hob2
              have hb12 : Below W.heap.size W w2 := (below_drewN (below_step (below_alloc _ _) (below_alloc _ _)) 1).trans (grown_below hg2 (fun g e => by cases e; exact Nat.le_succ _) (by simp; omega))
              have hsrc : RowsAt w2 (some ⟨W.heap.size, 0, none⟩) 1 (intRows [(k : Int)]) := RowsAt.farI (by exact (rowsAt_new W [.int .i64 ((k : Int))] 3).below (below_drewN (below_alloc _ (.cells #[] 3)) 1)) hg2 (fun a e => by cases e; simp [Value.ownBlock])
              (refine hK.out _ _ (cS w2 hb12) (fun hHeld => ?_); clear hK K; (try simp only [Act.put]); (try simp only [List.setIfInBounds_toArray]); (try simp only [List.set_cons_zero, List.set_cons_succ]))
              (refine wpAnyH_ready (rs := [7]) (by decide +kernel) (by simp) ?_; refine AllReadyH.cons rfl (fun K hK => ?_) AllReadyH.nil)
              refine step_append_rows elemInt (by rfl) (.tmp 88) (.tmp 90) (by rfl) (by rfl) (by rfl) (hown) (hsrc) rfl (intRows_wid [(k : Int)]) (intRows_one [(k : Int)]) (by simp only [intRows_length, List.length_take, List.length_nil, List.length_append, List.length_singleton]; omega) (by decide) hb12.size ?_
              intro v'' w3 hown3 hg3 hob3
              have hb13 : Below W.heap.size W w3 := hb12.trans (grown_below hg3 (fun g e => (hown.lt g e).1) hb12.size)
              (refine hK.out _ _ (cS w3 hb13) (fun hHeld => ?_); clear hK K; (try simp only [Act.put]); (try simp only [List.setIfInBounds_toArray]); (try simp only [List.set_cons_zero, List.set_cons_succ]))
              (refine wpAnyH_ready (rs := [11]) (by decide +kernel) (by simp) ?_; refine AllReadyH.cons rfl (fun K hK => ?_) AllReadyH.nil)
              refine step_append_rows elemInt (by rfl) (.tmp 91) (.tmp 94) (by rfl) (by rfl) (by rfl) hown3 (hr2.out _ hb13) (by simp only [intRows_length, List.length_drop]) (intRows_wid _) (intRows_one _) (by simp only [intRows_length, List.length_take, List.length_drop, List.length_nil, List.length_append, List.length_singleton]; omega) (by decide) hb13.size ?_
              intro v4 w4 hown4 hg4 hob4
              have hb14 : Below W.heap.size W w4 := hb13.trans (grown_below hg4 (fun g e => (hown3.lt g e).1) hb13.size)
              have hI4 : Hid (IntsL w4 W.heap.size v4 (zo.take q ++ [(k : Int)] ++ zo.drop q)) := by
                have h := hown4
                show IntsL _ _ _ _
                unfold IntsL
                have e : intRows (zo.take q ++ [(k : Int)] ++ zo.drop q) = [] ++ intRows (zo.take q) ++ intRows [(k : Int)] ++ intRows (zo.drop q) := by unfold intRows; simp
                rw [e]; exact h
              have hb14 := Lib.hid hb14
              clear o1 o2 o3 hown hown3 hown4 hg2 hg3 hg4 hob2 hob3 hob4 hb12 hb13
              (refine hK.out _ _ (cS w4 hb14.out) (fun hHeld => ?_); clear hK K; (try simp only [Act.put]); (try simp only [List.setIfInBounds_toArray]); (try simp only [List.set_cons_zero, List.set_cons_succ]))
              (refine wpAnyH_ready (rs := [12]) (by decide +kernel) (by simp) ?_; refine AllReadyH.cons rfl (fun K hK => ?_) AllReadyH.nil; rw [if_pos (by kernel_rfl)]; go_simp)
              (refine hK.out _ _ (cS w4 hb14.out) (fun hHeld => ?_); clear hK K; (try simp only [Act.put]); (try simp only [List.setIfInBounds_toArray]); (try simp only [List.set_cons_zero, List.set_cons_succ]))
              refine wpAnyH_done (by kernel_rfl) ?_ _
              clear hHeld
              go_wp2_with fail
              have hI := Lib.hid (hI.out.put hb14.out hI4.out)
              go_roundg (l.length - (k + 1))
              case measure => omega
              case rel => exact ⟨k + 1, by omega, by go_num, by rw [hn1.out]; exact hI⟩
          · have hgp : 0 < gk := by omega
            have hq1 : gk - 1 < zo.length := by omega
            have hqd : gk - 1 < ds.length := by have := hzd.out; omega
            obtain ⟨b2, o2, hA8, hbl2, a0⟩ := intsI_at hI.out.out.rowsI hq1
            subst hA8
            have hix : ((gk : Int) - 1).toNat = gk - 1 := by omega
            have hwrap : IntKind.i64.wrap ((gk : Int) - 1) = (gk : Int) - 1 := IntWalk.i64_in _ (by omega)
            have hgp1 : (1 : Int) ≤ (gk : Int) := by omega
            have hix0 : (0 : Int) ≤ (gk : Int) - 1 := by omega
            have hix1 : (gk : Int) - 1 < (zo.length : Int) := by omega
            have hz9 := Lib.hid (List.getElem?_eq_getElem hqd)
            have hze : zo[gk - 1] = (ds[gk - 1] : Int) := by
              have h : zo[gk - 1]? = (numsOf ds)[gk - 1]? := by rw [← hzo.out]
              rw [List.getElem?_eq_getElem hq1] at h
              unfold numsOf at h
              rw [List.getElem?_map, List.getElem?_eq_getElem hqd] at h
              exact Option.some.inj h
            rw [hze] at a0
            have hzm := hdm.out _ (List.getElem_mem hqd)
            clear hze
            generalize ds[gk - 1] = z at *
            obtain ⟨hzk, hzs⟩ := hzm
            have hzl : z < l.length := by omega
            have hzl2 : (z : Int) < (l.length : Int) := by omega
            have hz0 : (0 : Int) ≤ (z : Int) := by omega
            have hz' : l[z]? = some l[z] := List.getElem?_eq_getElem hzl
            have hrkz := Lib.hid (hrz.out z hzl)
            have hox := Lib.hid (hrr.out z hzl hzs)
            obtain ⟨b', oo', hA2, hbl, c0, c1, c2⟩ := (hN.out _ hI.out.fr).at_ hz'
            cases hA2
            clear hz' hzs
            generalize l[z] = f at *
            generalize Cal.rankS g f.m day = ox at *
            clear hg0
            go_upto_region 10 with fail
            go_cut [13] from 50 to 83 (fun t wx => ∃ bx, t = .pointer (some ⟨bx, 0, none⟩) ∧ Hid (BoxAt wx bx [.int .i64 ox.1, .int .i64 ox.2]) ∧ Hid (BoxAt wx bs [.int .i64 mx.1, .int .i64 mx.2]) ∧ Hid (RrI w g (.slice (some ⟨b2, o2, none⟩) zo.length c7) zo wx))
            case first =>
              have cS := Lib.hid (fun w' (h : Below wr.heap.size wr w') => (show ((fun w' => (BoxAt w' w.heap.size [.int .i64 g.t0, .int .i64 g.t1, .int .i64 g.t2, .int .i64 g.p0, .int .i64 g.p1, .int .i64 g.p2, .int .i64 g.m0, .int .i64 g.m1, .int .i64 g.m2, .int .i64 g.m3] ∧ w'.cell? ⟨b2, o2 + (gk - 1), none⟩ = some (.int .i64 z)) ∧ (w'.cell? ⟨b, oo + z * 3, none⟩ = some (.string f.m.name) ∧ w'.cell? ⟨b, oo + z * 3 + 1, none⟩ = some (.string f.m.place) ∧ w'.cell? ⟨b, oo + z * 3 + 2, none⟩ = some (.slice f.V f.m.visits.length f.d)))) w' from ⟨⟨hI.out.pr.below h, (h.cell (p := ⟨b2, o2 + (gk - 1), none⟩) hbl2).trans a0⟩, (h.cell (p := ⟨b, oo + z * 3, none⟩) hbl).trans c0, (h.cell (p := ⟨b, oo + z * 3 + 1, none⟩) hbl).trans c1, (h.cell (p := ⟨b, oo + z * 3 + 2, none⟩) hbl).trans c2⟩))
              have hdr := Lib.hid (show Below (wr).heap.size (wr) (wr).drew from (Below.refl _ _).drew)
              refine wp_region_held_drew (S := (fun w' => (BoxAt w' w.heap.size [.int .i64 g.t0, .int .i64 g.t1, .int .i64 g.t2, .int .i64 g.p0, .int .i64 g.p1, .int .i64 g.p2, .int .i64 g.m0, .int .i64 g.m1, .int .i64 g.m2, .int .i64 g.m3] ∧ w'.cell? ⟨b2, o2 + (gk - 1), none⟩ = some (.int .i64 z)) ∧ (w'.cell? ⟨b, oo + z * 3, none⟩ = some (.string f.m.name) ∧ w'.cell? ⟨b, oo + z * 3 + 1, none⟩ = some (.string f.m.place) ∧ w'.cell? ⟨b, oo + z * 3 + 2, none⟩ = some (.slice f.V f.m.visits.length f.d)))) (by kernel_rfl) (cS.out _ hdr.out) (fun hHeld => ?_)
              generalize (wr).drew = w6 at *
              (refine wpAnyH_take (i := 0) (v := _) rfl (by kernel_rfl) (by decide +kernel) (by decide +kernel) (fun _ _ _ h => h) (yieldsIf_load_mid (by kernel_rfl) 25 _ rfl (w.heap.size) 0 (by kernel_rfl) [.int .i64 g.t0, .int .i64 g.t1, .int .i64 g.t2, .int .i64 g.p0, .int .i64 g.p1, .int .i64 g.p2, .int .i64 g.m0, .int .i64 g.m1, .int .i64 g.m2, .int .i64 g.m3] _ (fun _ h => h.1.1.range) Tryz.underlying25 rfl grSize) (by assumption) ?_; (try simp only [Act.put]); (try simp only [List.setIfInBounds_toArray]); (try simp only [List.set_cons_zero, List.set_cons_succ]))
              (refine tkH 1 (v := ?_) ?_ ?_; rotate_left; focus (intro w' hSw; (try dsimp only at hSw); go_simp; (try with_reducible rfl)); (try simp only [Act.put, List.setIfInBounds_toArray, List.set_cons_zero, List.set_cons_succ]))
              (refine tkH 2 (v := ?_) ?_ ?_; rotate_left; focus (intro w' hSw; (try dsimp only at hSw); go_simp; (try with_reducible rfl)); (try simp only [Act.put, List.setIfInBounds_toArray, List.set_cons_zero, List.set_cons_succ]))
              (refine tkH 3 (v := ?_) ?_ ?_; rotate_left; focus (intro w' hSw; (try dsimp only at hSw); go_simp; (try with_reducible rfl)); (try simp only [Act.put, List.setIfInBounds_toArray, List.set_cons_zero, List.set_cons_succ]))
              (refine tkH 4 (v := ?_) ?_ ?_; rotate_left; focus (intro w' hSw; (try dsimp only at hSw); go_simp; (try with_reducible rfl)); (try simp only [Act.put, List.setIfInBounds_toArray, List.set_cons_zero, List.set_cons_succ]))
              (refine tkH 5 (v := ?_) ?_ ?_; rotate_left; focus (intro w' hSw; (try dsimp only at hSw); go_simp; (try with_reducible rfl)); (try simp only [Act.put, List.setIfInBounds_toArray, List.set_cons_zero, List.set_cons_succ]))
              (refine tkH 6 (v := ?_) ?_ ?_; rotate_left; focus (intro w' hSw; (try dsimp only at hSw); go_simp; (try with_reducible rfl)); (try simp only [Act.put, List.setIfInBounds_toArray, List.set_cons_zero, List.set_cons_succ]))
              (refine tkH 7 (v := ?_) ?_ ?_; rotate_left; focus (intro w' hSw; (try dsimp only at hSw); go_simp; (try with_reducible rfl)); (try simp only [Act.put, List.setIfInBounds_toArray, List.set_cons_zero, List.set_cons_succ]))
              (refine tkH 8 (v := ?_) ?_ ?_; rotate_left; focus (intro w' hSw; (try dsimp only at hSw); go_simp; (try with_reducible rfl)); (try simp only [Act.put, List.setIfInBounds_toArray, List.set_cons_zero, List.set_cons_succ]))
              (refine tkH 9 (v := ?_) ?_ ?_; rotate_left; focus (intro w' hSw; (try dsimp only at hSw); go_simp; (try with_reducible rfl)); (try simp only [Act.put, List.setIfInBounds_toArray, List.set_cons_zero, List.set_cons_succ]))
              (refine wpAnyH_ready (rs := [10, 11]) (by decide +kernel) (by simp) ?_; refine AllReadyH.cons rfl (fun K hK => ?_) (AllReadyH.cons rfl (fun K hK => ?_) AllReadyH.nil))
              · (rw [if_pos (by kernel_rfl)]; go_simp)
                refine (hrkz.out _ (below_step hI.out.fr hdr.out)).mono ?_
                rintro en w7 ⟨rfl, hb7⟩
                have hx := Lib.hid (below_step hdr.out hb7)
                clear hb7
                go_simp
                (refine hK.out _ _ (cS.out _ hx.out) (fun hHeld => ?_); clear hK K; (try simp only [Act.put]); (try simp only [List.setIfInBounds_toArray]); (try simp only [List.set_cons_zero, List.set_cons_succ]))
                (refine wpAnyH_ready (rs := [11]) (by decide +kernel) (by simp) ?_; refine AllReadyH.cons rfl (fun K hK => ?_) AllReadyH.nil; rw [if_pos (by kernel_rfl)]; go_simp)
                have h8 := Lib.hid (BoxAt.new w7 #[.int .i64 0, .int .i64 0] 49)
                have hx2 := Lib.hid (below_step hx.out (below_alloc w7 (.cells #[.int .i64 0, .int .i64 0] 49)))
                (refine hK.out _ _ (cS.out _ hx2.out) (fun hHeld => ?_); clear hK K; (try simp only [Act.put]); (try simp only [List.setIfInBounds_toArray]); (try simp only [List.set_cons_zero, List.set_cons_succ]))
                have hxs := hx.out.size
                refine wpAnyH_ready (rs := [12]) (by decide +kernel) (by simp) ?_
                refine AllReadyH.cons rfl (fun K hK => ?_) AllReadyH.nil
                rw [if_pos (by kernel_rfl)]
                refine wp_store_mid 49 (.tmp 13) (.tmp 62) rfl (w7.heap.size) 0 #[.int .i64 ox.1, .int .i64 ox.2] (by rfl) (by rfl) (by exact h8.out.there) pairSz (by kernel_rfl) ?_
                have hg8 := grown_setCells (w7.heap.size) [.int .i64 ox.1, .int .i64 ox.2] 0 (w7.alloc (.cells #[.int .i64 0, .int .i64 0] 49))
                have h8b := Lib.hid (h8.out.put [.int .i64 ox.1, .int .i64 ox.2] rfl)
                have hxf := below_of_grownB hx2.out hg8 (by omega)
                have hxF := Lib.hid hxf
                go_simp
                (refine hK.out _ _ (cS.out _ hxF.out) (fun hHeld => ?_); clear hK K; (try simp only [Act.put]); (try simp only [List.setIfInBounds_toArray]); (try simp only [List.set_cons_zero, List.set_cons_succ]))
                refine wpAnyH_done (by kernel_rfl) ?_ _
                clear hHeld
                go_wp2_with fail
                go_meet
                exact ⟨_, rfl, h8b, Lib.hid (hM.out.below hxF.out), Lib.hid (hI.out.below hxF.out)⟩
              · (rw [if_pos (by kernel_rfl)]; go_simp)
                have h8 := Lib.hid (BoxAt.new w6 #[.int .i64 0, .int .i64 0] 49)
                have hx := Lib.hid (below_step hdr.out (below_alloc w6 (.cells #[.int .i64 0, .int .i64 0] 49)))
                (refine hK.out _ _ (cS.out _ hx.out) (fun hHeld => ?_); clear hK K; (try simp only [Act.put]); (try simp only [List.setIfInBounds_toArray]); (try simp only [List.set_cons_zero, List.set_cons_succ]))
                have hxs := hdr.out.size
                (refine wpAnyH_ready (rs := [10]) (by decide +kernel) (by simp) ?_; refine AllReadyH.cons rfl (fun K hK => ?_) AllReadyH.nil; rw [if_pos (by kernel_rfl)]; go_simp)
                refine (hrkz.out _ (below_step hI.out.fr hx.out)).mono ?_
                rintro en w7 ⟨rfl, hb7⟩
                have h8 := Lib.hid (h8.out.below hb7)
                have hx2 := Lib.hid (below_step hx.out hb7)
                clear hb7
                go_simp
                (refine hK.out _ _ (cS.out _ hx2.out) (fun hHeld => ?_); clear hK K; (try simp only [Act.put]); (try simp only [List.setIfInBounds_toArray]); (try simp only [List.set_cons_zero, List.set_cons_succ]))
                refine wpAnyH_ready (rs := [12]) (by decide +kernel) (by simp) ?_
                refine AllReadyH.cons rfl (fun K hK => ?_) AllReadyH.nil
                rw [if_pos (by kernel_rfl)]
                refine wp_store_mid 49 (.tmp 13) (.tmp 62) rfl (w6.heap.size) 0 #[.int .i64 ox.1, .int .i64 ox.2] (by rfl) (by rfl) (by exact h8.out.there) pairSz (by kernel_rfl) ?_
                have hg8 := grown_setCells (w6.heap.size) [.int .i64 ox.1, .int .i64 ox.2] 0 (w7)
                have h8b := Lib.hid (h8.out.put [.int .i64 ox.1, .int .i64 ox.2] rfl)
                have hxf := below_of_grownB hx2.out hg8 (by omega)
                have hxF := Lib.hid hxf
                go_simp
                (refine hK.out _ _ (cS.out _ hxF.out) (fun hHeld => ?_); clear hK K; (try simp only [Act.put]); (try simp only [List.setIfInBounds_toArray]); (try simp only [List.set_cons_zero, List.set_cons_succ]))
                refine wpAnyH_done (by kernel_rfl) ?_ _
                clear hHeld
                go_wp2_with fail
                go_meet
                exact ⟨_, rfl, h8b, Lib.hid (hM.out.below hxF.out), Lib.hid (hI.out.below hxF.out)⟩
            case rest =>
            clear hI hM c0 c1 c2 a0 hbl hbl2 hrkz
            obtain ⟨bx, rfl, hX, hM, hI⟩ := hcut
            have d0 := hM.out.c 0 _ rfl
            have d1 := hM.out.c 1 _ rfl
            have e0 := hX.out.c 0 _ rfl
            have e1 := hX.out.c 1 _ rfl
            obtain ⟨wz, hwz⟩ : ∃ wz, wz = wc := ⟨_, rfl⟩
            rw [← hwz] at hI hM hX d0 d1 e0 e1 ⊢
            clear hwz
            go_upto_region 11 with fail
            go_cut [81] from 50 to 83 (fun bq wx => ∃ bb : Bool, bq = .bool bb ∧ Hid (bb = !Cal.ltK (Cal.rouK g l day k) (Cal.rouK g l day z)) ∧ wx = wz)
            case first =>
              have hlt := Lib.hid (Cal.ltK_iff (a := mx) (b := ox))
              by_cases h1 : ox.1 < mx.1
              · have hs := Lib.hid (show true = !Cal.ltK (Cal.rouK g l day k) (Cal.rouK g l day z) by
                  rw [← hox.out, ← hmx.out, eq_comm, Bool.not_eq_true', Bool.eq_false_iff]
                  intro h
                  have := hlt.out.1 h
                  omega)
                go_wp2_with fail
                go_meet
                exact ⟨true, rfl, hs, rfl⟩
              · by_cases h2 : ox.1 = mx.1
                · have h2b : (ox.1 == mx.1) = true := by simpa using h2
                  by_cases h3 : ox.2 ≤ mx.2
                  · have hs := Lib.hid (show true = !Cal.ltK (Cal.rouK g l day k) (Cal.rouK g l day z) by
                      rw [← hox.out, ← hmx.out, eq_comm, Bool.not_eq_true', Bool.eq_false_iff]
                      intro h
                      have := hlt.out.1 h
                      omega)
                    clear h2
                    go_wp2_with fail
                    go_meet
                    exact ⟨true, rfl, hs, rfl⟩
                  · have hs := Lib.hid (show false = !Cal.ltK (Cal.rouK g l day k) (Cal.rouK g l day z) by
                      rw [← hox.out, ← hmx.out, hlt.out.2 (by omega)]; rfl)
                    clear h2
                    go_wp2_with fail
                    go_meet
                    exact ⟨false, rfl, hs, rfl⟩
                · have h2b : (ox.1 == mx.1) = false := by simpa using h2
                  have hs := Lib.hid (show false = !Cal.ltK (Cal.rouK g l day k) (Cal.rouK g l day z) by
                    rw [← hox.out, ← hmx.out, hlt.out.2 (by omega)]; rfl)
                  clear h2
                  go_wp2_with fail
                  go_meet
                  exact ⟨false, rfl, hs, rfl⟩
            case rest =>
            clear d0 d1 e0 e1 hX
            obtain ⟨bb, rfl, hbb, rfl⟩ := hcut
            obtain ⟨wz, rfl⟩ : ∃ x, x = wc := ⟨_, rfl⟩
            cases bb
            · have hnx : Hid (rlater g l day ds k (gk - 1)) := fun j y hj hy => by
                rcases Nat.lt_or_ge (gk - 1) j with h | h
                · exact hlat.out j y (by omega) hy
                · obtain rfl : j = gk - 1 := by omega
                  rw [hz9.out] at hy
                  cases hy
                  have h := hbb.out
                  cases hx : Cal.ltK (Cal.rouK g l day k) (Cal.rouK g l day z)
                  · rw [hx] at h; exact absurd h (by decide)
                  · rfl
              clear hbb
              go_wp2_with fail
              go_roundg (gk - 1)
              case measure => omega
              case rel => exact ⟨by omega, by go_num, hnx, hM, hI⟩
            · have hlow : Hid (∀ y, 0 < gk → ds[gk - 1]? = some y → Cal.ltK (Cal.rouK g l day k) (Cal.rouK g l day y) = false) := fun y _ hy => by
                rw [hz9.out] at hy
                cases hy
                have h := hbb.out
                cases hx : Cal.ltK (Cal.rouK g l day k) (Cal.rouK g l day z)
                · rfl
                · rw [hx] at h; exact absurd h (by decide)
              clear hbb
              have hn1 : Hid (numsOf (Cal.dueI (Cal.rouK g l day) (Cal.rouS g l day) (k + 1)) = zo.take gk ++ [(k : Int)] ++ zo.drop gk) := by
                show _ = _
                rw [(hins.out gk hselT.out (by have := hzd.out; omega) (fun j z hj hz => hlat.out j z hj hz) (fun z hp hz => hlow.out z hp hz)).symm, numsOf_ins, ← hzo.out]
              clear hlat hlow hins hno hM
              go_upto_region 13 with fail
              obtain ⟨W, hWz⟩ : ∃ W, W = wz := ⟨_, rfl⟩
              rw [← hWz] at hI ⊢
              clear hWz
              obtain ⟨A1, c1, hrun1, hR1⟩ := (hI.out.out).hiI hq
              obtain ⟨A2, c2', hrun2, hR2⟩ := (hI.out.out).loI hq
              have hr1 := Lib.hid (fun w' (h : Below W.heap.size W w') => hR1.below h)
              have hr2 := Lib.hid (fun w' (h : Below W.heap.size W w') => hR2.below h)
              have d2 : True := trivial
              have cS : ∀ w', Below W.heap.size W w' → True := fun _ _ => trivial
              have hq0' : (0 : Int) ≤ (gk : Int) := by omega
              have hql : (gk : Int) ≤ (zo.length : Int) := by omega
              obtain ⟨q, rfl⟩ : ∃ q, q = gk := ⟨_, rfl⟩
              clear hR1 hR2
              have o1 : OwnL (W.alloc (.cells #[] 3)).drew W.heap.size 3 1 (.slice (some ⟨W.heap.size, 0, none⟩) 0 0) [] := (OwnL.made W W.heap.size _ 1 (Nat.le_refl _)).below (below_drewN (Below.refl _ _) 1)
              have o2 : OwnL ((W.alloc (.cells #[] 3)).alloc (.cells #[.int .i64 (k : Int)] 3)).drew W.heap.size 3 1 (.slice (some ⟨W.heap.size, 0, none⟩) 0 0) [] := (OwnL.made W W.heap.size _ 1 (Nat.le_refl _)).below (below_drewN (below_alloc _ _) 1)
              have o3 : OwnL ((W.alloc (.cells #[.int .i64 (k : Int)] 3)).alloc (.cells #[] 3)).drew W.heap.size 3 1 (.slice (some ⟨W.heap.size + 1, 0, none⟩) 0 0) [] := by
                have h := (OwnL.made (W.alloc (.cells #[.int .i64 (k : Int)] 3)) W.heap.size 3 1 (by simp)).below (below_drewN (Below.refl _ _) 1)
                simp only [World.size_alloc] at h
                exact h
              refine wp_region_held_drew (S := (fun _ => True)) (by kernel_rfl) d2 (fun hHeld => ?_)
              (refine tkH 1 (v := ?_) ?_ ?_; rotate_left; focus (intro w' hSw; (try dsimp only at hSw); go_simp; (try with_reducible rfl)); (try simp only [Act.put, List.setIfInBounds_toArray, List.set_cons_zero, List.set_cons_succ]))
              (refine tkH 2 (v := ?_) ?_ ?_; rotate_left; focus (intro w' hSw; (try dsimp only at hSw); go_simp; (try with_reducible rfl)); (try simp only [Act.put, List.setIfInBounds_toArray, List.set_cons_zero, List.set_cons_succ]))
              (refine tkH 3 (v := ?_) ?_ ?_; rotate_left; focus (intro w' hSw; (try dsimp only at hSw); go_simp; (try with_reducible rfl)); (try simp only [Act.put, List.setIfInBounds_toArray, List.set_cons_zero, List.set_cons_succ]))
              (refine tkH 5 (v := ?_) ?_ ?_; rotate_left; focus (intro w' hSw; (try dsimp only at hSw); go_simp; (try with_reducible rfl)); (try simp only [Act.put, List.setIfInBounds_toArray, List.set_cons_zero, List.set_cons_succ]))
              (refine tkH 8 (v := ?_) ?_ ?_; rotate_left; focus (intro w' hSw; (try dsimp only at hSw); go_simp; (try with_reducible rfl)); (try simp only [Act.put, List.setIfInBounds_toArray, List.set_cons_zero, List.set_cons_succ]))
              (refine tkH 9 (v := ?_) ?_ ?_; rotate_left; focus (intro w' hSw; (try dsimp only at hSw); go_simp; (try with_reducible rfl)); (try simp only [Act.put, List.setIfInBounds_toArray, List.set_cons_zero, List.set_cons_succ]))
              (refine tkH 10 (v := ?_) ?_ ?_; rotate_left; focus (intro w' hSw; (try dsimp only at hSw); go_simp; (try with_reducible rfl)); (try simp only [Act.put, List.setIfInBounds_toArray, List.set_cons_zero, List.set_cons_succ]))
              (refine wpAnyH_ready (rs := [0, 6]) (by decide +kernel) (by simp) ?_; refine AllReadyH.cons rfl (fun K hK => ?_) (AllReadyH.cons rfl (fun K hK => ?_) AllReadyH.nil))
              · (rw [if_pos (by kernel_rfl)]; go_simp)
                (refine hK.out _ _ (cS (W.alloc (.cells #[] 3)) (below_alloc _ _)) (fun hHeld => ?_); clear hK K; (try simp only [Act.put]); (try simp only [List.setIfInBounds_toArray]); (try simp only [List.set_cons_zero, List.set_cons_succ]))
                (refine wpAnyH_ready (rs := [4, 6]) (by decide +kernel) (by simp) ?_; refine AllReadyH.cons rfl (fun K hK => ?_) (AllReadyH.cons rfl (fun K hK => ?_) AllReadyH.nil))
                · refine step_append_rows elemInt (by rfl) (.tmp 84) (.tmp 87) (by rfl) (by rfl) (by rfl) (o1) (hr1.out _ (below_drewN (below_alloc _ _) 1)) (by simp only [intRows_length, List.length_take]; omega) (intRows_wid _) (intRows_one _) (by simp only [intRows_length, List.length_take, List.length_nil]; omega) (by decide) (by first | (simp; done) | (simp; omega)) ?_
                  intro v' w2 hown hg2 hob2
                  have hb12 : Below W.heap.size W w2 := (below_drewN (below_alloc _ _) 1).trans (grown_below hg2 (fun g e => by cases e; exact Nat.le_refl _) (by simp))
                  (refine hK.out _ _ (cS w2 hb12) (fun hHeld => ?_); clear hK K; (try simp only [Act.put]); (try simp only [List.setIfInBounds_toArray]); (try simp only [List.set_cons_zero, List.set_cons_succ]))
                  (refine wpAnyH_ready (rs := [6]) (by decide +kernel) (by simp) ?_; refine AllReadyH.cons rfl (fun K hK => ?_) AllReadyH.nil; rw [if_pos (by kernel_rfl)]; go_simp)
                  (refine hK.out _ _ (cS (w2.alloc (.cells #[.int .i64 (k : Int)] 3)) (below_step hb12 (below_alloc _ _))) (fun hHeld => ?_); clear hK K; (try simp only [Act.put]); (try simp only [List.setIfInBounds_toArray]); (try simp only [List.set_cons_zero, List.set_cons_succ]))
                  (refine wpAnyH_ready (rs := [7]) (by decide +kernel) (by simp) ?_; refine AllReadyH.cons rfl (fun K hK => ?_) AllReadyH.nil)
                  refine step_append_rows elemInt (by rfl) (.tmp 88) (.tmp 90) (by rfl) (by rfl) (by rfl) (hown.below (below_alloc _ _)) (rowsAt_new _ [.int .i64 ((k : Int))] _) rfl (intRows_wid [(k : Int)]) (intRows_one [(k : Int)]) (by simp only [intRows_length, List.length_take, List.length_nil, List.length_append, List.length_singleton]; omega) (by decide) (by have := hb12.size; simp; omega) ?_
                  intro v'' w3 hown3 hg3 hob3
                  have hb13 : Below W.heap.size W w3 := (hb12.alloc hb12.size _).trans (grown_below hg3 (fun g e => (hown.lt g e).1) (by have := hb12.size; simp; omega))
                  (refine hK.out _ _ (cS w3 hb13) (fun hHeld => ?_); clear hK K; (try simp only [Act.put]); (try simp only [List.setIfInBounds_toArray]); (try simp only [List.set_cons_zero, List.set_cons_succ]))
                  (refine wpAnyH_ready (rs := [11]) (by decide +kernel) (by simp) ?_; refine AllReadyH.cons rfl (fun K hK => ?_) AllReadyH.nil)
                  refine step_append_rows elemInt (by rfl) (.tmp 91) (.tmp 94) (by rfl) (by rfl) (by rfl) hown3 (hr2.out _ hb13) (by simp only [intRows_length, List.length_drop]) (intRows_wid _) (intRows_one _) (by simp only [intRows_length, List.length_take, List.length_drop, List.length_nil, List.length_append, List.length_singleton]; omega) (by decide) hb13.size ?_
                  intro v4 w4 hown4 hg4 hob4
                  have hb14 : Below W.heap.size W w4 := hb13.trans (grown_below hg4 (fun g e => (hown3.lt g e).1) hb13.size)
                  have hI4 : Hid (IntsL w4 W.heap.size v4 (zo.take q ++ [(k : Int)] ++ zo.drop q)) := by
                    have h := hown4
                    show IntsL _ _ _ _
                    unfold IntsL
                    have e : intRows (zo.take q ++ [(k : Int)] ++ zo.drop q) = [] ++ intRows (zo.take q) ++ intRows [(k : Int)] ++ intRows (zo.drop q) := by unfold intRows; simp
                    rw [e]; exact h
                  have hb14 := Lib.hid hb14
                  clear o1 o2 o3 hown hown3 hown4 hg2 hg3 hg4 hob2 hob3 hob4 hb12 hb13
                  (refine hK.out _ _ (cS w4 hb14.out) (fun hHeld => ?_); clear hK K; (try simp only [Act.put]); (try simp only [List.setIfInBounds_toArray]); (try simp only [List.set_cons_zero, List.set_cons_succ]))
                  (refine wpAnyH_ready (rs := [12]) (by decide +kernel) (by simp) ?_; refine AllReadyH.cons rfl (fun K hK => ?_) AllReadyH.nil; rw [if_pos (by kernel_rfl)]; go_simp)
                  (refine hK.out _ _ (cS w4 hb14.out) (fun hHeld => ?_); clear hK K; (try simp only [Act.put]); (try simp only [List.setIfInBounds_toArray]); (try simp only [List.set_cons_zero, List.set_cons_succ]))
                  refine wpAnyH_done (by kernel_rfl) ?_ _
                  clear hHeld
                  go_wp2_with fail
                  have hI := Lib.hid (hI.out.put hb14.out hI4.out)
                  go_roundg (l.length - (k + 1))
                  case measure => omega
                  case rel => exact ⟨k + 1, by omega, by go_num, by rw [hn1.out]; exact hI⟩
                · (rw [if_pos (by kernel_rfl)]; go_simp)
                  (refine hK.out _ _ (cS ((W.alloc (.cells #[] 3)).alloc (.cells #[.int .i64 (k : Int)] 3)) (below_step (below_alloc _ _) (below_alloc _ _))) (fun hHeld => ?_); clear hK K; (try simp only [Act.put]); (try simp only [List.setIfInBounds_toArray]); (try simp only [List.set_cons_zero, List.set_cons_succ]))
                  (refine wpAnyH_ready (rs := [4]) (by decide +kernel) (by simp) ?_; refine AllReadyH.cons rfl (fun K hK => ?_) AllReadyH.nil)
                  refine step_append_rows elemInt (by rfl) (.tmp 84) (.tmp 87) (by rfl) (by rfl) (by rfl) (o2) (hr1.out _ (below_drewN (below_step (below_alloc _ _) (below_alloc _ _)) 1)) (by simp only [intRows_length, List.length_take]; omega) (intRows_wid _) (intRows_one _) (by simp only [intRows_length, List.length_take, List.length_nil]; omega) (by decide) (by first | (simp; done) | (simp; omega)) ?_
                  intro v' w2 hown hg2 hob2
                  have hb12 : Below W.heap.size W w2 := (below_drewN (below_step (below_alloc _ _) (below_alloc _ _)) 1).trans (grown_below hg2 (fun g e => by cases e; exact Nat.le_refl _) (by simp; omega))
                  have hsrc : RowsAt w2 (some ⟨W.heap.size + 1, 0, none⟩) 1 (intRows [(k : Int)]) := RowsAt.farI (by have h := rowsAt_new (W.alloc (.cells #[] 3)) [.int .i64 ((k : Int))] 3; simp only [World.size_alloc] at h; exact h) hg2 (fun a e => by cases e; simp [Value.ownBlock])
                  (refine hK.out _ _ (cS w2 hb12) (fun hHeld => ?_); clear hK K; (try simp only [Act.put]); (try simp only [List.setIfInBounds_toArray]); (try simp only [List.set_cons_zero, List.set_cons_succ]))
                  (refine wpAnyH_ready (rs := [7]) (by decide +kernel) (by simp) ?_; refine AllReadyH.cons rfl (fun K hK => ?_) AllReadyH.nil)
                  refine step_append_rows elemInt (by rfl) (.tmp 88) (.tmp 90) (by rfl) (by rfl) (by rfl) (hown) (hsrc) rfl (intRows_wid [(k : Int)]) (intRows_one [(k : Int)]) (by simp only [intRows_length, List.length_take, List.length_nil, List.length_append, List.length_singleton]; omega) (by decide) hb12.size ?_
                  intro v'' w3 hown3 hg3 hob3
                  have hb13 : Below W.heap.size W w3 := hb12.trans (grown_below hg3 (fun g e => (hown.lt g e).1) hb12.size)
                  (refine hK.out _ _ (cS w3 hb13) (fun hHeld => ?_); clear hK K; (try simp only [Act.put]); (try simp only [List.setIfInBounds_toArray]); (try simp only [List.set_cons_zero, List.set_cons_succ]))
                  (refine wpAnyH_ready (rs := [11]) (by decide +kernel) (by simp) ?_; refine AllReadyH.cons rfl (fun K hK => ?_) AllReadyH.nil)
                  refine step_append_rows elemInt (by rfl) (.tmp 91) (.tmp 94) (by rfl) (by rfl) (by rfl) hown3 (hr2.out _ hb13) (by simp only [intRows_length, List.length_drop]) (intRows_wid _) (intRows_one _) (by simp only [intRows_length, List.length_take, List.length_drop, List.length_nil, List.length_append, List.length_singleton]; omega) (by decide) hb13.size ?_
                  intro v4 w4 hown4 hg4 hob4
                  have hb14 : Below W.heap.size W w4 := hb13.trans (grown_below hg4 (fun g e => (hown3.lt g e).1) hb13.size)
                  have hI4 : Hid (IntsL w4 W.heap.size v4 (zo.take q ++ [(k : Int)] ++ zo.drop q)) := by
                    have h := hown4
                    show IntsL _ _ _ _
                    unfold IntsL
                    have e : intRows (zo.take q ++ [(k : Int)] ++ zo.drop q) = [] ++ intRows (zo.take q) ++ intRows [(k : Int)] ++ intRows (zo.drop q) := by unfold intRows; simp
                    rw [e]; exact h
                  have hb14 := Lib.hid hb14
                  clear o1 o2 o3 hown hown3 hown4 hg2 hg3 hg4 hob2 hob3 hob4 hb12 hb13
                  (refine hK.out _ _ (cS w4 hb14.out) (fun hHeld => ?_); clear hK K; (try simp only [Act.put]); (try simp only [List.setIfInBounds_toArray]); (try simp only [List.set_cons_zero, List.set_cons_succ]))
                  (refine wpAnyH_ready (rs := [12]) (by decide +kernel) (by simp) ?_; refine AllReadyH.cons rfl (fun K hK => ?_) AllReadyH.nil; rw [if_pos (by kernel_rfl)]; go_simp)
                  (refine hK.out _ _ (cS w4 hb14.out) (fun hHeld => ?_); clear hK K; (try simp only [Act.put]); (try simp only [List.setIfInBounds_toArray]); (try simp only [List.set_cons_zero, List.set_cons_succ]))
                  refine wpAnyH_done (by kernel_rfl) ?_ _
                  clear hHeld
                  go_wp2_with fail
                  have hI := Lib.hid (hI.out.put hb14.out hI4.out)
                  go_roundg (l.length - (k + 1))
                  case measure => omega
                  case rel => exact ⟨k + 1, by omega, by go_num, by rw [hn1.out]; exact hI⟩
              · (rw [if_pos (by kernel_rfl)]; go_simp)
                (refine hK.out _ _ (cS (W.alloc (.cells #[.int .i64 (k : Int)] 3)) (below_alloc _ _)) (fun hHeld => ?_); clear hK K; (try simp only [Act.put]); (try simp only [List.setIfInBounds_toArray]); (try simp only [List.set_cons_zero, List.set_cons_succ]))
                (refine wpAnyH_ready (rs := [0]) (by decide +kernel) (by simp) ?_; refine AllReadyH.cons rfl (fun K hK => ?_) AllReadyH.nil; rw [if_pos (by kernel_rfl)]; go_simp)
                (refine hK.out _ _ (cS ((W.alloc (.cells #[.int .i64 (k : Int)] 3)).alloc (.cells #[] 3)) (below_step (below_alloc _ _) (below_alloc _ _))) (fun hHeld => ?_); clear hK K; (try simp only [Act.put]); (try simp only [List.setIfInBounds_toArray]); (try simp only [List.set_cons_zero, List.set_cons_succ]))
                (refine wpAnyH_ready (rs := [4]) (by decide +kernel) (by simp) ?_; refine AllReadyH.cons rfl (fun K hK => ?_) AllReadyH.nil)
                refine step_append_rows elemInt (by rfl) (.tmp 84) (.tmp 87) (by rfl) (by rfl) (by rfl) (o3) (hr1.out _ (below_drewN (below_step (below_alloc _ _) (below_alloc _ _)) 1)) (by simp only [intRows_length, List.length_take]; omega) (intRows_wid _) (intRows_one _) (by simp only [intRows_length, List.length_take, List.length_nil]; omega) (by decide) (by first | (simp; done) | (simp; omega)) ?_
                intro v' w2 hown hg2 hob2
                have hb12 : Below W.heap.size W w2 := (below_drewN (below_step (below_alloc _ _) (below_alloc _ _)) 1).trans (grown_below hg2 (fun g e => by cases e; exact Nat.le_succ _) (by simp; omega))
                have hsrc : RowsAt w2 (some ⟨W.heap.size, 0, none⟩) 1 (intRows [(k : Int)]) := RowsAt.farI (by exact (rowsAt_new W [.int .i64 ((k : Int))] 3).below (below_drewN (below_alloc _ (.cells #[] 3)) 1)) hg2 (fun a e => by cases e; simp [Value.ownBlock])
                (refine hK.out _ _ (cS w2 hb12) (fun hHeld => ?_); clear hK K; (try simp only [Act.put]); (try simp only [List.setIfInBounds_toArray]); (try simp only [List.set_cons_zero, List.set_cons_succ]))
                (refine wpAnyH_ready (rs := [7]) (by decide +kernel) (by simp) ?_; refine AllReadyH.cons rfl (fun K hK => ?_) AllReadyH.nil)
                refine step_append_rows elemInt (by rfl) (.tmp 88) (.tmp 90) (by rfl) (by rfl) (by rfl) (hown) (hsrc) rfl (intRows_wid [(k : Int)]) (intRows_one [(k : Int)]) (by simp only [intRows_length, List.length_take, List.length_nil, List.length_append, List.length_singleton]; omega) (by decide) hb12.size ?_
                intro v'' w3 hown3 hg3 hob3
                have hb13 : Below W.heap.size W w3 := hb12.trans (grown_below hg3 (fun g e => (hown.lt g e).1) hb12.size)
                (refine hK.out _ _ (cS w3 hb13) (fun hHeld => ?_); clear hK K; (try simp only [Act.put]); (try simp only [List.setIfInBounds_toArray]); (try simp only [List.set_cons_zero, List.set_cons_succ]))
                (refine wpAnyH_ready (rs := [11]) (by decide +kernel) (by simp) ?_; refine AllReadyH.cons rfl (fun K hK => ?_) AllReadyH.nil)
                refine step_append_rows elemInt (by rfl) (.tmp 91) (.tmp 94) (by rfl) (by rfl) (by rfl) hown3 (hr2.out _ hb13) (by simp only [intRows_length, List.length_drop]) (intRows_wid _) (intRows_one _) (by simp only [intRows_length, List.length_take, List.length_drop, List.length_nil, List.length_append, List.length_singleton]; omega) (by decide) hb13.size ?_
                intro v4 w4 hown4 hg4 hob4
                have hb14 : Below W.heap.size W w4 := hb13.trans (grown_below hg4 (fun g e => (hown3.lt g e).1) hb13.size)
                have hI4 : Hid (IntsL w4 W.heap.size v4 (zo.take q ++ [(k : Int)] ++ zo.drop q)) := by
                  have h := hown4
                  show IntsL _ _ _ _
                  unfold IntsL
                  have e : intRows (zo.take q ++ [(k : Int)] ++ zo.drop q) = [] ++ intRows (zo.take q) ++ intRows [(k : Int)] ++ intRows (zo.drop q) := by unfold intRows; simp
                  rw [e]; exact h
                have hb14 := Lib.hid hb14
                clear o1 o2 o3 hown hown3 hown4 hg2 hg3 hg4 hob2 hob3 hob4 hb12 hb13
                (refine hK.out _ _ (cS w4 hb14.out) (fun hHeld => ?_); clear hK K; (try simp only [Act.put]); (try simp only [List.setIfInBounds_toArray]); (try simp only [List.set_cons_zero, List.set_cons_succ]))
                (refine wpAnyH_ready (rs := [12]) (by decide +kernel) (by simp) ?_; refine AllReadyH.cons rfl (fun K hK => ?_) AllReadyH.nil; rw [if_pos (by kernel_rfl)]; go_simp)
                (refine hK.out _ _ (cS w4 hb14.out) (fun hHeld => ?_); clear hK K; (try simp only [Act.put]); (try simp only [List.setIfInBounds_toArray]); (try simp only [List.set_cons_zero, List.set_cons_succ]))
                refine wpAnyH_done (by kernel_rfl) ?_ _
                clear hHeld
                go_wp2_with fail
                have hI := Lib.hid (hI.out.put hb14.out hI4.out)
                go_roundg (l.length - (k + 1))
                case measure => omega
                case rel => exact ⟨k + 1, by omega, by go_num, by rw [hn1.out]; exact hI⟩
      · have hselF : Hid (Cal.rouS g l day k = false) := by
          have h := hbb.out
          show _ = _
          cases hx : Cal.rouS g l day k
          · rfl
          · rw [hx] at h; exact absurd h (by decide)
        go_wp2_with fail
        go_roundg (l.length - (k + 1))
        case measure => omega
        case rel => exact ⟨k + 1, by omega, by go_num, by rw [hno.out hselF.out, ← hzo.out]; exact hI⟩
    · obtain rfl : k = l.length := by omega
      go_wp2_with fail
      go_ret
      exact ⟨_, rfl, hI.out.out.less (by omega), hI.out.fr⟩
end Go.Proofs.YtbegbajlagcbdaaGreatDoor
