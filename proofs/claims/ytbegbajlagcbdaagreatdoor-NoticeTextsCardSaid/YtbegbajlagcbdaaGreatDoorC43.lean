/- Chapter 8 and what it rests on: definitions and walks, part 43. -/
import Derived.Test.YtbegbajlagcbdaaGreatDoorC41
namespace Go.Proofs.YtbegbajlagcbdaaGreatDoor
open Go Go.RowKit
set_option maxRecDepth 100000 in
set_option maxHeartbeats 4000000 in
theorem behind_bad (A : Option Addr) (c : Nat) (p : Proc) (N : Option Addr) (d : Nat) (n : Note) (w : World) (hN : NB w A p N n) (hE : (Cal.checkS p n).2 ≠ 0) :
    Calls Tryz.prog 66 #[.agg #[.int .i64 p.runs.m, .int .i64 p.runs.d, .bool p.runs.k, .int .i64 p.obj.m, .int .i64 p.obj.d, .bool p.obj.k, .int .i64 p.wait.m, .int .i64 p.wait.d, .bool p.wait.k, .int .i64 p.exts, .int .i64 p.longest, .slice A p.hols.length c], .agg #[.string n.name, .int .i64 n.opened, .slice N n.acts.length d]] w (ZeroPost w (Cal.checkS p n).2) := by
  have hN := Lib.hid hN
  rcases hc : Cal.checkS p n with ⟨i, E⟩
  have hC := Lib.hid hc
  rw [hc] at hE
  have h1 : (E != 0) = true := by simpa using hE
  clear hE hc
  obtain ⟨h1, h2, h3, hb⟩ := start3 w A c p N d n
  have c0 := h2.out.c 0 _ rfl
  have c1 := h2.out.c 1 _ rfl
  have c2 := h2.out.c 2 _ rfl
  go_enter Tryz.func66, Tryz.ntmps66
  go_wp2_with (refine wpPr h1.out (.tmp 2) rfl ?_)
  refine (CheckNotice_any A c p N d n _ (hN.out.below hb.out)).mono ?_
  rintro e w1 ⟨he, hb1⟩
  rw [hC.out] at he
  subst he
  clear c0 c1 c2
  have g1 := Lib.hid (h1.out.below hb1)
  have g2 := Lib.hid (h2.out.below hb1)
  have g3 := Lib.hid (h3.out.below hb1)
  have hbw := Lib.hid (below_step hb.out hb1)
  clear hb1 h1 h2 h3 hb
  go_wp2_with ((refine wpList_store_box rfl 134 (.tmp 4) (.tmp 19) rfl (w.heap.size + 1 + 1) _ [.int .i64 0, .int .i64 0, .bool false, .int .i64 0, .int .i64 0, .bool false, .int .i64 0, .int .i64 0, .bool false, .int .i64 0, .int .i64 0, .slice none 0 0, .int .i64 0, .int .i64 0, .int .i64 0, .int .i64 0, .int .i64 0, .int .i64 0] (by rfl) (by rfl) g3.out rfl stSize (by kernel_rfl) ?_; intro w3 h6 hg6); have hb3 := Lib.hid (below_of_grownB hbw.out hg6 (by omega)))
  (try simp only [Exit.inBlock, Exit.then])
  refine bodyPost_ret (results_mid2 rfl _ _ (w.heap.size + 1 + 1) [.int .i64 0, .int .i64 0, .bool false, .int .i64 0, .int .i64 0, .bool false, .int .i64 0, .int .i64 0, .bool false, .int .i64 0, .int .i64 0, .slice none 0 0, .int .i64 0, .int .i64 0, .int .i64 0, .int .i64 0, .int .i64 0, .int .i64 0] _ rfl h6.range Tryz.underlying134 rfl stSize) rfl ⟨by rfl, hb3.out⟩
set_option maxRecDepth 100000 in
set_option maxHeartbeats 4000000 in
theorem behind_ok (A : Option Addr) (c : Nat) (p : Proc) (N : Option Addr) (d : Nat) (n : Note) (w : World) (hN : NB w A p N n) (hE : (Cal.checkS p n).2 = 0) :
    Calls Tryz.prog 66 #[.agg #[.int .i64 p.runs.m, .int .i64 p.runs.d, .bool p.runs.k, .int .i64 p.obj.m, .int .i64 p.obj.d, .bool p.obj.k, .int .i64 p.wait.m, .int .i64 p.wait.d, .bool p.wait.k, .int .i64 p.exts, .int .i64 p.longest, .slice A p.hols.length c], .agg #[.string n.name, .int .i64 n.opened, .slice N n.acts.length d]] w (StPost w A c p (Cal.stAt p n 200000)) := by
  have hN := Lib.hid hN
  obtain ⟨hp, _, o0, o1, _, hrun⟩ := Cal.checkS_ok hE
  obtain ⟨_, _, _, _, x1, _, x2, _⟩ := Cal.procErr_ok hp
  have hfol := fun w1 (h : NB w1 A p N n) => follow_any A c p N d n 200000 w1 h.hols h.tab h.acts x1 x2 o0 o1
  rw [Cal.folS_at hrun] at hfol
  obtain ⟨s, hs⟩ : ∃ s, Cal.stAt p n 200000 = s := ⟨_, rfl⟩
  have hs2 : Cal.atS p 200000 n.acts (Cal.openSt n.opened) = s := hs
  rw [hs2] at hfol
  rw [hs]
  have hfol := Lib.hid hfol
  rcases hc : Cal.checkS p n with ⟨i, E⟩
  rw [hc] at hE
  have hE : E = 0 := hE
  subst hE
  have hC := Lib.hid hc
  clear hc hp hrun hs2 hs
  obtain ⟨h1, h2, h3, hb⟩ := start3 w A c p N d n
  have c0 := h2.out.c 0 _ rfl
  have c1 := h2.out.c 1 _ rfl
  have c2 := h2.out.c 2 _ rfl
  go_enter Tryz.func66, Tryz.ntmps66
  go_wp2_with (refine wpPr h1.out (.tmp 2) rfl ?_)
  refine (CheckNotice_any A c p N d n _ (hN.out.below hb.out)).mono ?_
  rintro e w1 ⟨he, hb1⟩
  rw [hC.out] at he
  subst he
  clear c0 c1 c2
  have g1 := Lib.hid (h1.out.below hb1)
  have g2 := Lib.hid (h2.out.below hb1)
  have g3 := Lib.hid (h3.out.below hb1)
  have hbw := Lib.hid (below_step hb.out hb1)
  clear hb1 h1 h2 h3 hb
  have c0 := g2.out.c 0 _ rfl
  have c1 := g2.out.c 1 _ rfl
  have c2 := g2.out.c 2 _ rfl
  go_wp2_with (refine wpPr g1.out (.tmp 2) rfl ?_)
  clear c0 c1 c2
  refine (hfol.out _ (hN.out.below hbw.out)).mono ?_
  rintro e w2 ⟨he, hb2⟩
  subst he
  have hbw2 := Lib.hid (below_step hbw.out hb2)
  have k3 := Lib.hid (g3.out.below hb2)
  have hz := (g3.out.below hb2).lt
  have hN10 := Lib.hid (BoxAt.new w2 #[.int .i64 0, .int .i64 0, .bool false, .int .i64 0, .int .i64 0, .bool false, .int .i64 0, .int .i64 0, .bool false, .int .i64 0, .int .i64 0, .slice none 0 0, .int .i64 0, .int .i64 0, .int .i64 0, .int .i64 0, .int .i64 0, .int .i64 0] 134)
  clear hb2
  go_wp2_with (first
    | ((refine wpList_store_box rfl 134 (.tmp 8) (.tmp 25) rfl (w2.heap.size) _ [.int .i64 p.runs.m, .int .i64 p.runs.d, .bool p.runs.k, .int .i64 p.obj.m, .int .i64 p.obj.d, .bool p.obj.k, .int .i64 p.wait.m, .int .i64 p.wait.d, .bool p.wait.k, .int .i64 p.exts, .int .i64 p.longest, .slice A p.hols.length c, .int .i64 s.phase, .int .i64 s.last, .int .i64 s.deadline, .int .i64 s.object, .int .i64 s.objected, .int .i64 s.extended] (by rfl) (by rfl) hN10.out rfl stSize (by kernel_rfl) ?_; intro w3 h10 hg10); have hb23 := below_of_grownB (below_alloc w2 _) hg10 (Nat.le_refl _); have hbw3 := Lib.hid (below_step hbw2.out hb23); have k3' := Lib.hid (k3.out.below hb23); clear hb23)
    | (refine wpList_load_mid rfl 134 (.tmp 8) rfl w2.heap.size 0 rfl [.int .i64 p.runs.m, .int .i64 p.runs.d, .bool p.runs.k, .int .i64 p.obj.m, .int .i64 p.obj.d, .bool p.obj.k, .int .i64 p.wait.m, .int .i64 p.wait.d, .bool p.wait.k, .int .i64 p.exts, .int .i64 p.longest, .slice A p.hols.length c, .int .i64 s.phase, .int .i64 s.last, .int .i64 s.deadline, .int .i64 s.object, .int .i64 s.objected, .int .i64 s.extended] _ h10.range Tryz.underlying134 rfl stSize ?_)
    | ((refine wpList_store_box rfl 134 (.tmp 4) (.tmp 28) rfl (w.heap.size + 1 + 1) _ [.int .i64 p.runs.m, .int .i64 p.runs.d, .bool p.runs.k, .int .i64 p.obj.m, .int .i64 p.obj.d, .bool p.obj.k, .int .i64 p.wait.m, .int .i64 p.wait.d, .bool p.wait.k, .int .i64 p.exts, .int .i64 p.longest, .slice A p.hols.length c, .int .i64 s.phase, .int .i64 s.last, .int .i64 s.deadline, .int .i64 s.object, .int .i64 s.objected, .int .i64 s.extended] (by rfl) (by rfl) k3'.out rfl stSize (by kernel_rfl) ?_; intro w4 h6 hg6); have hb4 := Lib.hid (below_of_grownB hbw3.out hg6 (by omega))))
  (try simp only [Exit.inBlock, Exit.then])
  refine bodyPost_ret (results_mid2 rfl _ _ (w.heap.size + 1 + 1) [.int .i64 p.runs.m, .int .i64 p.runs.d, .bool p.runs.k, .int .i64 p.obj.m, .int .i64 p.obj.d, .bool p.obj.k, .int .i64 p.wait.m, .int .i64 p.wait.d, .bool p.wait.k, .int .i64 p.exts, .int .i64 p.longest, .slice A p.hols.length c, .int .i64 s.phase, .int .i64 s.last, .int .i64 s.deadline, .int .i64 s.object, .int .i64 s.objected, .int .i64 s.extended] _ rfl h6.range Tryz.underlying134 rfl stSize) rfl ⟨by rfl, hb4.out⟩
set_option maxRecDepth 100000 in
set_option maxHeartbeats 4000000 in
theorem DeadlineAt_any (A : Option Addr) (c : Nat) (p : Proc) (N : Option Addr) (d : Nat) (n : Note) (day : Int) (w : World) (hN : NB w A p N n) :
    Calls Tryz.prog 50 #[.agg #[.int .i64 p.runs.m, .int .i64 p.runs.d, .bool p.runs.k, .int .i64 p.obj.m, .int .i64 p.obj.d, .bool p.obj.k, .int .i64 p.wait.m, .int .i64 p.wait.d, .bool p.wait.k, .int .i64 p.exts, .int .i64 p.longest, .slice A p.hols.length c], .agg #[.string n.name, .int .i64 n.opened, .slice N n.acts.length d], .int .i64 day] w (IEPost w (Cal.dlAtS p n day)) := by
  have hN := Lib.hid hN
  by_cases hE : Cal.onE p n day = 0
  · have hon := Lib.hid (fun w1 h => on_ok A c p N d n day w1 h hE)
    obtain ⟨s, hs⟩ : ∃ s, Cal.stAt p n day = s := ⟨_, rfl⟩
    rw [hs] at hon
    by_cases hp : s.phase = 1
    · have hfin : Hid (Cal.dlAtS p n day = (s.deadline, 0)) := by show _ = _; unfold Cal.dlAtS; rw [if_pos hE, hs, if_pos hp]
      have hp1 : (s.phase != 1) = false := by simpa using hp
      clear hp hE hs
      obtain ⟨h1, h2, hb⟩ := start2 w A c p N d n
      have c0 := h2.out.c 0 _ rfl
      have c1 := h2.out.c 1 _ rfl
      have c2 := h2.out.c 2 _ rfl
      go_enter Tryz.func50, Tryz.ntmps50
      go_wp2_with (refine wpPr h1.out (.tmp 3) rfl ?_)
      clear c0 c1 c2
      refine (hon.out _ (hN.out.below hb.out)).mono ?_
      rintro e w1 ⟨he, hb1⟩
      subst he
      have hbw := Lib.hid (below_step hb.out hb1)
      have g1 := Lib.hid (h1.out.below hb1)
      have hz := (h1.out.below hb1).lt
      have hN8 := Lib.hid (BoxAt.new w1 #[.int .i64 0, .int .i64 0, .bool false, .int .i64 0, .int .i64 0, .bool false, .int .i64 0, .int .i64 0, .bool false, .int .i64 0, .int .i64 0, .slice none 0 0, .int .i64 0, .int .i64 0, .int .i64 0, .int .i64 0, .int .i64 0, .int .i64 0] 134)
      clear hb1 h1 h2 hb
      go_wp2_with ((refine wpList_store_box rfl 134 (.tmp 8) (.tmp 15) rfl (w1.heap.size) _ [.int .i64 p.runs.m, .int .i64 p.runs.d, .bool p.runs.k, .int .i64 p.obj.m, .int .i64 p.obj.d, .bool p.obj.k, .int .i64 p.wait.m, .int .i64 p.wait.d, .bool p.wait.k, .int .i64 p.exts, .int .i64 p.longest, .slice A p.hols.length c, .int .i64 s.phase, .int .i64 s.last, .int .i64 s.deadline, .int .i64 s.object, .int .i64 s.objected, .int .i64 s.extended] (by rfl) (by rfl) hN8.out rfl stSize (by kernel_rfl) ?_; intro w2 h8 hg8); have hb12 := below_of_grownB (below_alloc w1 _) hg8 (Nat.le_refl _); have hb2 := Lib.hid (below_step hbw.out hb12); have g2 := Lib.hid (g1.out.below hb12); have e12 := h8.c 12 _ rfl; have e14 := h8.c 14 _ rfl; have e9 := g2.out.c 11 _ rfl; have e6 := g2.out.c 6 _ rfl; have e7 := g2.out.c 7 _ rfl; have e8 := g2.out.c 8 _ rfl; have h8 := Lib.hid h8; clear hb12 hg8)
      go_ret2
      exact ⟨by rw [hfin.out]; first | done | rfl, hb2.out⟩
    · have hfin : Hid (Cal.dlAtS p n day = (0, 12)) := by show _ = _; unfold Cal.dlAtS; rw [if_pos hE, hs, if_neg hp]
      have hp1 : (s.phase != 1) = true := by simpa using hp
      clear hp hE hs
      obtain ⟨h1, h2, hb⟩ := start2 w A c p N d n
      have c0 := h2.out.c 0 _ rfl
      have c1 := h2.out.c 1 _ rfl
      have c2 := h2.out.c 2 _ rfl
      go_enter Tryz.func50, Tryz.ntmps50
      go_wp2_with (refine wpPr h1.out (.tmp 3) rfl ?_)
      clear c0 c1 c2
      refine (hon.out _ (hN.out.below hb.out)).mono ?_
      rintro e w1 ⟨he, hb1⟩
      subst he
      have hbw := Lib.hid (below_step hb.out hb1)
      have g1 := Lib.hid (h1.out.below hb1)
      have hz := (h1.out.below hb1).lt
      have hN8 := Lib.hid (BoxAt.new w1 #[.int .i64 0, .int .i64 0, .bool false, .int .i64 0, .int .i64 0, .bool false, .int .i64 0, .int .i64 0, .bool false, .int .i64 0, .int .i64 0, .slice none 0 0, .int .i64 0, .int .i64 0, .int .i64 0, .int .i64 0, .int .i64 0, .int .i64 0] 134)
      clear hb1 h1 h2 hb
      go_wp2_with ((refine wpList_store_box rfl 134 (.tmp 8) (.tmp 15) rfl (w1.heap.size) _ [.int .i64 p.runs.m, .int .i64 p.runs.d, .bool p.runs.k, .int .i64 p.obj.m, .int .i64 p.obj.d, .bool p.obj.k, .int .i64 p.wait.m, .int .i64 p.wait.d, .bool p.wait.k, .int .i64 p.exts, .int .i64 p.longest, .slice A p.hols.length c, .int .i64 s.phase, .int .i64 s.last, .int .i64 s.deadline, .int .i64 s.object, .int .i64 s.objected, .int .i64 s.extended] (by rfl) (by rfl) hN8.out rfl stSize (by kernel_rfl) ?_; intro w2 h8 hg8); have hb12 := below_of_grownB (below_alloc w1 _) hg8 (Nat.le_refl _); have hb2 := Lib.hid (below_step hbw.out hb12); have g2 := Lib.hid (g1.out.below hb12); have e12 := h8.c 12 _ rfl; have e14 := h8.c 14 _ rfl; have e9 := g2.out.c 11 _ rfl; have e6 := g2.out.c 6 _ rfl; have e7 := g2.out.c 7 _ rfl; have e8 := g2.out.c 8 _ rfl; have h8 := Lib.hid h8; clear hb12 hg8)
      go_ret2
      exact ⟨by rw [hfin.out]; first | done | rfl, hb2.out⟩
  · have hon := fun w1 h => on_bad A c p N d n day w1 h hE
    have hfin : Cal.dlAtS p n day = (0, Cal.onE p n day) := by unfold Cal.dlAtS; rw [if_neg hE]
    have hE1 : (Cal.onE p n day != 0) = true := by simpa using hE
    generalize Cal.onE p n day = E at *
    have hon := Lib.hid hon
    have hfin := Lib.hid hfin
    clear hE
    obtain ⟨h1, h2, hb⟩ := start2 w A c p N d n
    have c0 := h2.out.c 0 _ rfl
    have c1 := h2.out.c 1 _ rfl
    have c2 := h2.out.c 2 _ rfl
    go_enter Tryz.func50, Tryz.ntmps50
    go_wp2_with (refine wpPr h1.out (.tmp 3) rfl ?_)
    clear c0 c1 c2
    refine (hon.out _ (hN.out.below hb.out)).mono ?_
    rintro e w1 ⟨he, hb1⟩
    subst he
    have hbw := Lib.hid (below_step hb.out hb1)
    have g1 := Lib.hid (h1.out.below hb1)
    have hz := (h1.out.below hb1).lt
    have hN8 := Lib.hid (BoxAt.new w1 #[.int .i64 0, .int .i64 0, .bool false, .int .i64 0, .int .i64 0, .bool false, .int .i64 0, .int .i64 0, .bool false, .int .i64 0, .int .i64 0, .slice none 0 0, .int .i64 0, .int .i64 0, .int .i64 0, .int .i64 0, .int .i64 0, .int .i64 0] 134)
    clear hb1 h1 h2 hb
    go_wp2_with ((refine wpList_store_box rfl 134 (.tmp 8) (.tmp 15) rfl (w1.heap.size) _ [.int .i64 0, .int .i64 0, .bool false, .int .i64 0, .int .i64 0, .bool false, .int .i64 0, .int .i64 0, .bool false, .int .i64 0, .int .i64 0, .slice none 0 0, .int .i64 0, .int .i64 0, .int .i64 0, .int .i64 0, .int .i64 0, .int .i64 0] (by rfl) (by rfl) hN8.out rfl stSize (by kernel_rfl) ?_; intro w2 h8 hg8); have hb12 := below_of_grownB (below_alloc w1 _) hg8 (Nat.le_refl _); have hb2 := Lib.hid (below_step hbw.out hb12); have g2 := Lib.hid (g1.out.below hb12); have e12 := h8.c 12 _ rfl; have e14 := h8.c 14 _ rfl; have e9 := g2.out.c 11 _ rfl; have e6 := g2.out.c 6 _ rfl; have e7 := g2.out.c 7 _ rfl; have e8 := g2.out.c 8 _ rfl; have h8 := Lib.hid h8; clear hb12 hg8)
    go_ret2
    exact ⟨by rw [hfin.out]; first | done | rfl, hb2.out⟩
set_option maxRecDepth 100000 in
set_option maxHeartbeats 4000000 in
theorem ExpiresAt_any (A : Option Addr) (c : Nat) (p : Proc) (N : Option Addr) (d : Nat) (n : Note) (w : World) (hN : NB w A p N n) :
    Calls Tryz.prog 157 #[.agg #[.int .i64 p.runs.m, .int .i64 p.runs.d, .bool p.runs.k, .int .i64 p.obj.m, .int .i64 p.obj.d, .bool p.obj.k, .int .i64 p.wait.m, .int .i64 p.wait.d, .bool p.wait.k, .int .i64 p.exts, .int .i64 p.longest, .slice A p.hols.length c], .agg #[.string n.name, .int .i64 n.opened, .slice N n.acts.length d]] w (IEPost w (Cal.expS p n)) := by
  have hN := Lib.hid hN
  by_cases hE : (Cal.checkS p n).2 = 0
  · have hon := Lib.hid (fun w1 h => behind_ok A c p N d n w1 h hE)
    obtain ⟨s, hs⟩ : ∃ s, Cal.stAt p n 200000 = s := ⟨_, rfl⟩
    rw [hs] at hon
    by_cases hp : s.phase = 1
    · have hfin : Cal.expS p n = if (Cal.dlS p.hols s.deadline p.wait.m p.wait.d p.wait.k).2 = 0 ∧ (Cal.dlS p.hols s.deadline p.wait.m p.wait.d p.wait.k).1 < 200000 then ((Cal.dlS p.hols s.deadline p.wait.m p.wait.d p.wait.k).1 + 1, 0) else (0, 2) := by unfold Cal.expS; rw [if_pos hE, hs, if_pos hp]
      have hp1 : (s.phase != 1) = false := by simpa using hp
      have hdl := fun w1 (h : NB w1 A p N n) => dl_calls (A := A) (c := c) (l := p.hols) (w0 := w1) h.hols h.tab s.deadline p.wait.m p.wait.d p.wait.k _ (Below.refl _ w1)
      have hday := Cal.dlS_day p.hols s.deadline p.wait.m p.wait.d p.wait.k
      clear hp hE hs
      rcases hr : Cal.dlS p.hols s.deadline p.wait.m p.wait.d p.wait.k with ⟨x, E⟩
      rw [hr] at hfin hdl hday
      simp only at hfin hday
      obtain ⟨x0, x1⟩ := hday
      have hdl : Hid (∀ w1, NB w1 A p N n → Calls Tryz.prog 217 #[.slice A p.hols.length c, .int .i64 s.deadline, .agg #[.int .i64 p.wait.m, .int .i64 p.wait.d, .bool p.wait.k]] w1 fun en w' => en = .returned (.tuple #[.int .i64 x, .int .i64 E]) ∧ Below w1.heap.size w1 w') := hdl
      clear hr
      by_cases hE : E = 0
      · subst hE
        by_cases hx : x < 200000
        · rw [if_pos ⟨rfl, hx⟩] at hfin
          have hfin := Lib.hid hfin
          have hwr : IntKind.i64.wrap (x + 1) = x + 1 := IntWalk.i64_in _ (by omega)
          obtain ⟨h1, h2, hb⟩ := start2 w A c p N d n
          have c0 := h2.out.c 0 _ rfl
          have c1 := h2.out.c 1 _ rfl
          have c2 := h2.out.c 2 _ rfl
          go_enter Tryz.func157, Tryz.ntmps157
          go_wp2_with (refine wpPr h1.out (.tmp 2) rfl ?_)
          clear c0 c1 c2
          refine (hon.out _ (hN.out.below hb.out)).mono ?_
          rintro e w1 ⟨he, hb1⟩
          subst he
          have hbw := Lib.hid (below_step hb.out hb1)
          have g1 := Lib.hid (h1.out.below hb1)
          have hz := (h1.out.below hb1).lt
          have hN8 := Lib.hid (BoxAt.new w1 #[.int .i64 0, .int .i64 0, .bool false, .int .i64 0, .int .i64 0, .bool false, .int .i64 0, .int .i64 0, .bool false, .int .i64 0, .int .i64 0, .slice none 0 0, .int .i64 0, .int .i64 0, .int .i64 0, .int .i64 0, .int .i64 0, .int .i64 0] 134)
          clear hb1 h1 h2 hb
          go_wp2_with ((refine wpList_store_box rfl 134 (.tmp 6) (.tmp 13) rfl (w1.heap.size) _ [.int .i64 p.runs.m, .int .i64 p.runs.d, .bool p.runs.k, .int .i64 p.obj.m, .int .i64 p.obj.d, .bool p.obj.k, .int .i64 p.wait.m, .int .i64 p.wait.d, .bool p.wait.k, .int .i64 p.exts, .int .i64 p.longest, .slice A p.hols.length c, .int .i64 s.phase, .int .i64 s.last, .int .i64 s.deadline, .int .i64 s.object, .int .i64 s.objected, .int .i64 s.extended] (by rfl) (by rfl) hN8.out rfl stSize (by kernel_rfl) ?_; intro w2 h8 hg8); have hb12 := below_of_grownB (below_alloc w1 _) hg8 (Nat.le_refl _); have hb2 := Lib.hid (below_step hbw.out hb12); have g2 := Lib.hid (g1.out.below hb12); have e12 := h8.c 12 _ rfl; have e14 := h8.c 14 _ rfl; have e9 := g2.out.c 11 _ rfl; have e6 := g2.out.c 6 _ rfl; have e7 := g2.out.c 7 _ rfl; have e8 := g2.out.c 8 _ rfl; have h8 := Lib.hid h8; clear hb12 hg8)
          refine (hdl.out _ (hN.out.below hb2.out)).mono ?_
          rintro e w3 ⟨rfl, hb3⟩
          have hb4 := Lib.hid (below_step hb2.out hb3)
          clear hb3 e12 e14 e9 e6 e7 e8
          go_wp2_with fail
          go_ret2
          exact ⟨by rw [hfin.out]; first | done | rfl, hb4.out⟩
        · rw [if_neg (fun h => hx h.2)] at hfin
          have hfin := Lib.hid hfin
          have hx' : 200000 ≤ x := by omega
          clear hx
          obtain ⟨h1, h2, hb⟩ := start2 w A c p N d n
          have c0 := h2.out.c 0 _ rfl
          have c1 := h2.out.c 1 _ rfl
          have c2 := h2.out.c 2 _ rfl
          go_enter Tryz.func157, Tryz.ntmps157
          go_wp2_with (refine wpPr h1.out (.tmp 2) rfl ?_)
          clear c0 c1 c2
          refine (hon.out _ (hN.out.below hb.out)).mono ?_
          rintro e w1 ⟨he, hb1⟩
          subst he
          have hbw := Lib.hid (below_step hb.out hb1)
          have g1 := Lib.hid (h1.out.below hb1)
          have hz := (h1.out.below hb1).lt
          have hN8 := Lib.hid (BoxAt.new w1 #[.int .i64 0, .int .i64 0, .bool false, .int .i64 0, .int .i64 0, .bool false, .int .i64 0, .int .i64 0, .bool false, .int .i64 0, .int .i64 0, .slice none 0 0, .int .i64 0, .int .i64 0, .int .i64 0, .int .i64 0, .int .i64 0, .int .i64 0] 134)
          clear hb1 h1 h2 hb
          go_wp2_with ((refine wpList_store_box rfl 134 (.tmp 6) (.tmp 13) rfl (w1.heap.size) _ [.int .i64 p.runs.m, .int .i64 p.runs.d, .bool p.runs.k, .int .i64 p.obj.m, .int .i64 p.obj.d, .bool p.obj.k, .int .i64 p.wait.m, .int .i64 p.wait.d, .bool p.wait.k, .int .i64 p.exts, .int .i64 p.longest, .slice A p.hols.length c, .int .i64 s.phase, .int .i64 s.last, .int .i64 s.deadline, .int .i64 s.object, .int .i64 s.objected, .int .i64 s.extended] (by rfl) (by rfl) hN8.out rfl stSize (by kernel_rfl) ?_; intro w2 h8 hg8); have hb12 := below_of_grownB (below_alloc w1 _) hg8 (Nat.le_refl _); have hb2 := Lib.hid (below_step hbw.out hb12); have g2 := Lib.hid (g1.out.below hb12); have e12 := h8.c 12 _ rfl; have e14 := h8.c 14 _ rfl; have e9 := g2.out.c 11 _ rfl; have e6 := g2.out.c 6 _ rfl; have e7 := g2.out.c 7 _ rfl; have e8 := g2.out.c 8 _ rfl; have h8 := Lib.hid h8; clear hb12 hg8)
          refine (hdl.out _ (hN.out.below hb2.out)).mono ?_
          rintro e w3 ⟨rfl, hb3⟩
          have hb4 := Lib.hid (below_step hb2.out hb3)
          clear hb3 e12 e14 e9 e6 e7 e8
          go_wp2_with fail
          go_ret2
          exact ⟨by rw [hfin.out]; first | done | rfl, hb4.out⟩
      · rw [if_neg (fun h => hE h.1)] at hfin
        have hfin := Lib.hid hfin
        have hE1 : (E != 0) = true := by simpa using hE
        clear hE
        obtain ⟨h1, h2, hb⟩ := start2 w A c p N d n
        have c0 := h2.out.c 0 _ rfl
        have c1 := h2.out.c 1 _ rfl
        have c2 := h2.out.c 2 _ rfl
        go_enter Tryz.func157, Tryz.ntmps157
        go_wp2_with (refine wpPr h1.out (.tmp 2) rfl ?_)
        clear c0 c1 c2
        refine (hon.out _ (hN.out.below hb.out)).mono ?_
        rintro e w1 ⟨he, hb1⟩
        subst he
        have hbw := Lib.hid (below_step hb.out hb1)
        have g1 := Lib.hid (h1.out.below hb1)
        have hz := (h1.out.below hb1).lt
        have hN8 := Lib.hid (BoxAt.new w1 #[.int .i64 0, .int .i64 0, .bool false, .int .i64 0, .int .i64 0, .bool false, .int .i64 0, .int .i64 0, .bool false, .int .i64 0, .int .i64 0, .slice none 0 0, .int .i64 0, .int .i64 0, .int .i64 0, .int .i64 0, .int .i64 0, .int .i64 0] 134)
        clear hb1 h1 h2 hb
        go_wp2_with ((refine wpList_store_box rfl 134 (.tmp 6) (.tmp 13) rfl (w1.heap.size) _ [.int .i64 p.runs.m, .int .i64 p.runs.d, .bool p.runs.k, .int .i64 p.obj.m, .int .i64 p.obj.d, .bool p.obj.k, .int .i64 p.wait.m, .int .i64 p.wait.d, .bool p.wait.k, .int .i64 p.exts, .int .i64 p.longest, .slice A p.hols.length c, .int .i64 s.phase, .int .i64 s.last, .int .i64 s.deadline, .int .i64 s.object, .int .i64 s.objected, .int .i64 s.extended] (by rfl) (by rfl) hN8.out rfl stSize (by kernel_rfl) ?_; intro w2 h8 hg8); have hb12 := below_of_grownB (below_alloc w1 _) hg8 (Nat.le_refl _); have hb2 := Lib.hid (below_step hbw.out hb12); have g2 := Lib.hid (g1.out.below hb12); have e12 := h8.c 12 _ rfl; have e14 := h8.c 14 _ rfl; have e9 := g2.out.c 11 _ rfl; have e6 := g2.out.c 6 _ rfl; have e7 := g2.out.c 7 _ rfl; have e8 := g2.out.c 8 _ rfl; have h8 := Lib.hid h8; clear hb12 hg8)
        refine (hdl.out _ (hN.out.below hb2.out)).mono ?_
        rintro e w3 ⟨rfl, hb3⟩
        have hb4 := Lib.hid (below_step hb2.out hb3)
        clear hb3 e12 e14 e9 e6 e7 e8
        go_wp2_with fail
        go_ret2
        exact ⟨by rw [hfin.out]; first | done | rfl, hb4.out⟩
    · have hfin : Hid (Cal.expS p n = (0, 28)) := by show _ = _; unfold Cal.expS; rw [if_pos hE, hs, if_neg hp]
      have hp1 : (s.phase != 1) = true := by simpa using hp
      clear hp hE hs
      obtain ⟨h1, h2, hb⟩ := start2 w A c p N d n
      have c0 := h2.out.c 0 _ rfl
      have c1 := h2.out.c 1 _ rfl
      have c2 := h2.out.c 2 _ rfl
      go_enter Tryz.func157, Tryz.ntmps157
      go_wp2_with (refine wpPr h1.out (.tmp 2) rfl ?_)
      clear c0 c1 c2
      refine (hon.out _ (hN.out.below hb.out)).mono ?_
      rintro e w1 ⟨he, hb1⟩
      subst he
      have hbw := Lib.hid (below_step hb.out hb1)
      have g1 := Lib.hid (h1.out.below hb1)
      have hz := (h1.out.below hb1).lt
      have hN8 := Lib.hid (BoxAt.new w1 #[.int .i64 0, .int .i64 0, .bool false, .int .i64 0, .int .i64 0, .bool false, .int .i64 0, .int .i64 0, .bool false, .int .i64 0, .int .i64 0, .slice none 0 0, .int .i64 0, .int .i64 0, .int .i64 0, .int .i64 0, .int .i64 0, .int .i64 0] 134)
      clear hb1 h1 h2 hb
      go_wp2_with ((refine wpList_store_box rfl 134 (.tmp 6) (.tmp 13) rfl (w1.heap.size) _ [.int .i64 p.runs.m, .int .i64 p.runs.d, .bool p.runs.k, .int .i64 p.obj.m, .int .i64 p.obj.d, .bool p.obj.k, .int .i64 p.wait.m, .int .i64 p.wait.d, .bool p.wait.k, .int .i64 p.exts, .int .i64 p.longest, .slice A p.hols.length c, .int .i64 s.phase, .int .i64 s.last, .int .i64 s.deadline, .int .i64 s.object, .int .i64 s.objected, .int .i64 s.extended] (by rfl) (by rfl) hN8.out rfl stSize (by kernel_rfl) ?_; intro w2 h8 hg8); have hb12 := below_of_grownB (below_alloc w1 _) hg8 (Nat.le_refl _); have hb2 := Lib.hid (below_step hbw.out hb12); have g2 := Lib.hid (g1.out.below hb12); have e12 := h8.c 12 _ rfl; have e14 := h8.c 14 _ rfl; have e9 := g2.out.c 11 _ rfl; have e6 := g2.out.c 6 _ rfl; have e7 := g2.out.c 7 _ rfl; have e8 := g2.out.c 8 _ rfl; have h8 := Lib.hid h8; clear hb12 hg8)
      go_ret2
      exact ⟨by rw [hfin.out]; first | done | rfl, hb2.out⟩
  · have hon := fun w1 h => behind_bad A c p N d n w1 h hE
    have hfin : Cal.expS p n = (0, (Cal.checkS p n).2) := by unfold Cal.expS; rw [if_neg hE]
    have hE1 : ((Cal.checkS p n).2 != 0) = true := by simpa using hE
    generalize (Cal.checkS p n).2 = E at *
    have hon := Lib.hid hon
    have hfin := Lib.hid hfin
    clear hE
    obtain ⟨h1, h2, hb⟩ := start2 w A c p N d n
    have c0 := h2.out.c 0 _ rfl
    have c1 := h2.out.c 1 _ rfl
    have c2 := h2.out.c 2 _ rfl
    go_enter Tryz.func157, Tryz.ntmps157
    go_wp2_with (refine wpPr h1.out (.tmp 2) rfl ?_)
    clear c0 c1 c2
    refine (hon.out _ (hN.out.below hb.out)).mono ?_
    rintro e w1 ⟨he, hb1⟩
    subst he
    have hbw := Lib.hid (below_step hb.out hb1)
    have g1 := Lib.hid (h1.out.below hb1)
    have hz := (h1.out.below hb1).lt
    have hN8 := Lib.hid (BoxAt.new w1 #[.int .i64 0, .int .i64 0, .bool false, .int .i64 0, .int .i64 0, .bool false, .int .i64 0, .int .i64 0, .bool false, .int .i64 0, .int .i64 0, .slice none 0 0, .int .i64 0, .int .i64 0, .int .i64 0, .int .i64 0, .int .i64 0, .int .i64 0] 134)
    clear hb1 h1 h2 hb
    go_wp2_with ((refine wpList_store_box rfl 134 (.tmp 6) (.tmp 13) rfl (w1.heap.size) _ [.int .i64 0, .int .i64 0, .bool false, .int .i64 0, .int .i64 0, .bool false, .int .i64 0, .int .i64 0, .bool false, .int .i64 0, .int .i64 0, .slice none 0 0, .int .i64 0, .int .i64 0, .int .i64 0, .int .i64 0, .int .i64 0, .int .i64 0] (by rfl) (by rfl) hN8.out rfl stSize (by kernel_rfl) ?_; intro w2 h8 hg8); have hb12 := below_of_grownB (below_alloc w1 _) hg8 (Nat.le_refl _); have hb2 := Lib.hid (below_step hbw.out hb12); have g2 := Lib.hid (g1.out.below hb12); have e12 := h8.c 12 _ rfl; have e14 := h8.c 14 _ rfl; have e9 := g2.out.c 11 _ rfl; have e6 := g2.out.c 6 _ rfl; have e7 := g2.out.c 7 _ rfl; have e8 := g2.out.c 8 _ rfl; have h8 := Lib.hid h8; clear hb12 hg8)
    go_ret2
    exact ⟨by rw [hfin.out]; first | done | rfl, hb2.out⟩
end Go.Proofs.YtbegbajlagcbdaaGreatDoor
