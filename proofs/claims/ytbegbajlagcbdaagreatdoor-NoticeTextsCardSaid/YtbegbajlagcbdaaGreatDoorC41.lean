/- Chapter 8 and what it rests on: definitions and walks, part 41. -/
import Derived.Test.YtbegbajlagcbdaaGreatDoorC40
namespace Go.Proofs.YtbegbajlagcbdaaGreatDoor
open Go Go.RowKit
/-- What a procedure and a notice hang on in memory. -/
structure NB (w : World) (A : Option Addr) (p : Proc) (N : Option Addr) (n : Note) : Prop where
  hols : Hols w A p.hols
  tab : Tab w
  acts : Acts w N n.acts
  name : n.name.size ≤ maxLen
theorem NB.below {w w' : World} {A : Option Addr} {p : Proc} {N : Option Addr} {n : Note} (h : NB w A p N n) (hb : Below w.heap.size w w') : NB w' A p N n := ⟨h.hols.below hb, h.tab.below hb, h.acts.below hb, h.name⟩
theorem Cal.runS_zero {p : Proc} : ∀ {l : List NAct} {s : NSt} {i : Nat}, (Cal.runS p l s i).2.2 = 0 → (Cal.runS p l s i).2.1 = 0
  | [], _, _, _ => rfl
  | a :: l, s, i, h => by
    obtain ⟨h1, h2⟩ := Cal.runS_cons.1 h
    rw [Cal.runS_more, if_pos h1]
    exact Cal.runS_zero h2
theorem Cal.folS_run (p : Proc) (l : List NAct) (s : NSt) (day : Int) : (Cal.folS p l s day).2 = (((Cal.runS p l s 0).2.1 : Int), (Cal.runS p l s 0).2.2) := by
  unfold Cal.folS
  by_cases h : (Cal.runS p l s 0).2.2 = 0
  · rw [if_pos h, Cal.runS_zero h, h]; rfl
  · rw [if_neg h]
theorem Cal.folS_at {p : Proc} {l : List NAct} {s : NSt} {day : Int} (h : (Cal.runS p l s 0).2.2 = 0) : Cal.folS p l s day = (Cal.atS p day l s, 0, 0) := by
  unfold Cal.folS
  rw [if_pos h, Cal.told_at h]
theorem Cal.checkS_ok {p : Proc} {n : Note} (h : (Cal.checkS p n).2 = 0) : Cal.procErr p = 0 ∧ nameB n.name = true ∧ 0 ≤ n.opened ∧ n.opened ≤ 200000 ∧ n.acts.length ≤ 40 ∧ (Cal.runS p n.acts (Cal.openSt n.opened) 0).2.2 = 0 := by
  unfold Cal.checkS at h
  split at h
  · rename_i h0
    unfold Cal.noteS at h
    split at h
    · rename_i h1
      split at h
      · rename_i h2
        split at h
        · rename_i h3; exact ⟨h0, h1, h2.1, h2.2, h3, h⟩
        · simp at h
      · simp at h
    · simp at h
  · rename_i h0; exact absurd h h0
def IEPost (w : World) (r : Int × Int) (e : Ending) (w' : World) : Prop := e = .returned (.tuple #[.int .i64 r.1, .int .i64 r.2]) ∧ Below w.heap.size w w'
set_option maxRecDepth 100000 in
set_option maxHeartbeats 4000000 in
theorem CheckNotice_any (A : Option Addr) (c : Nat) (p : Proc) (N : Option Addr) (d : Nat) (n : Note) (w : World) (hN : NB w A p N n) :
    Calls Tryz.prog 117 #[.agg #[.int .i64 p.runs.m, .int .i64 p.runs.d, .bool p.runs.k, .int .i64 p.obj.m, .int .i64 p.obj.d, .bool p.obj.k, .int .i64 p.wait.m, .int .i64 p.wait.d, .bool p.wait.k, .int .i64 p.exts, .int .i64 p.longest, .slice A p.hols.length c], .agg #[.string n.name, .int .i64 n.opened, .slice N n.acts.length d]] w (IEPost w (Cal.checkS p n)) := by
  have hsz := hN.acts.size
  have hN := Lib.hid hN
  by_cases h0 : Cal.procErr p = 0
  · have hp0 := Lib.hid h0
    have hC : Cal.checkS p n = Cal.noteS p n := if_pos h0
    obtain ⟨_, _, _, _, x1, _, x2, _⟩ := Cal.procErr_ok h0
    clear h0
    cases hn : nameB n.name
    · have hfin : Hid (Cal.checkS p n = (0, 4)) := by show _ = _; rw [hC]; unfold Cal.noteS; rw [hn]; rfl
      have hn := Lib.hid hn
      clear hC
      obtain ⟨h1, h2, hb⟩ := start2 w A c p N d n
      have c0 := h2.out.c 0 _ rfl
      have c1 := h2.out.c 1 _ rfl
      have c2 := h2.out.c 2 _ rfl
      go_enter Tryz.func117, Tryz.ntmps117
      go_wp2_with (refine wpPr h1.out (.tmp 2) rfl ?_)
      refine (CheckProcedure_any A c p _ (hN.out.below hb.out).hols (hN.out.below hb.out).tab).mono ?_
      rintro e w1 ⟨rfl, hb1⟩
      clear c0 c1 c2
      have g1 := Lib.hid (h1.out.below hb1)
      have g2 := Lib.hid (h2.out.below hb1)
      have hbw := Lib.hid (below_step hb.out hb1)
      clear hb1 h1 h2 hb
      rw [hp0.out]
      have c0 := g2.out.c 0 _ rfl
      go_wp2_with (first | (go_at_call 106; refine (nisName_any n.name _ hN.out.name).mono ?_; rintro e w' ⟨rfl, rfl⟩; rw [hn.out]))
      go_ret2
      exact ⟨by rw [hfin.out]; first | done | rfl, hbw.out⟩
    · by_cases ho : 0 ≤ n.opened ∧ n.opened ≤ 200000
      · by_cases hlen : n.acts.length ≤ 40
        · have hC2 : Cal.checkS p n = (Cal.folS p n.acts (Cal.openSt n.opened) 200000).2 := by rw [hC, Cal.folS_run]; unfold Cal.noteS; rw [hn, if_pos rfl, if_pos ho, if_pos hlen]
          obtain ⟨o0, o1⟩ := ho
          have hfol := fun w1 (h : NB w1 A p N n) => follow_any A c p N d n 200000 w1 h.hols h.tab h.acts x1 x2 o0 o1
          rcases hr : Cal.folS p n.acts (Cal.openSt n.opened) 200000 with ⟨s, i, E⟩
          rw [hr] at hC2 hfol
          have hfin : Hid (Cal.checkS p n = (i, E)) := hC2
          have hn := Lib.hid hn
          have hfol := Lib.hid hfol
          clear hC hC2 hr
          obtain ⟨h1, h2, hb⟩ := start2 w A c p N d n
          have c0 := h2.out.c 0 _ rfl
          have c1 := h2.out.c 1 _ rfl
          have c2 := h2.out.c 2 _ rfl
          go_enter Tryz.func117, Tryz.ntmps117
          go_wp2_with (refine wpPr h1.out (.tmp 2) rfl ?_)
          refine (CheckProcedure_any A c p _ (hN.out.below hb.out).hols (hN.out.below hb.out).tab).mono ?_
          rintro e w1 ⟨rfl, hb1⟩
          clear c0 c1 c2
          have g1 := Lib.hid (h1.out.below hb1)
          have g2 := Lib.hid (h2.out.below hb1)
          have hbw := Lib.hid (below_step hb.out hb1)
          clear hb1 h1 h2 hb
          rw [hp0.out]
          have c0 := g2.out.c 0 _ rfl
          have c1 := g2.out.c 1 _ rfl
          have c2 := g2.out.c 2 _ rfl
          go_wp2_with (first | (go_at_call 106; refine (nisName_any n.name _ hN.out.name).mono ?_; rintro e w' ⟨rfl, rfl⟩; rw [hn.out]) | first | (go_at_call 56; first | refine rin ?_ | refine rout ?_ | refine rany ?_) | ((first | (go_at_call 134) | (go_at_call 59) | (go_at_call 133) | (go_at_call 14) | (go_at_call 178) | (fail) | (go_at_call 139)); first | refine rin ?_ | refine rout ?_ | refine rany ?_) | (refine wpPr g1.out (.tmp 2) rfl ?_))
          clear c0 c1 c2
          refine (hfol.out _ (hN.out.below hbw.out)).mono ?_
          rintro e w2 ⟨he, hb2⟩
          subst he
          have hbw2 := Lib.hid (below_step hbw.out hb2)
          have hN7 := Lib.hid (BoxAt.new w2 #[.int .i64 0, .int .i64 0, .bool false, .int .i64 0, .int .i64 0, .bool false, .int .i64 0, .int .i64 0, .bool false, .int .i64 0, .int .i64 0, .slice none 0 0, .int .i64 0, .int .i64 0, .int .i64 0, .int .i64 0, .int .i64 0, .int .i64 0] 134)
          clear hb2
          go_wp2_with ((refine wpList_store_box rfl 134 (.tmp 7) (.tmp 34) rfl (w2.heap.size) _ [.int .i64 p.runs.m, .int .i64 p.runs.d, .bool p.runs.k, .int .i64 p.obj.m, .int .i64 p.obj.d, .bool p.obj.k, .int .i64 p.wait.m, .int .i64 p.wait.d, .bool p.wait.k, .int .i64 p.exts, .int .i64 p.longest, .slice A p.hols.length c, .int .i64 s.phase, .int .i64 s.last, .int .i64 s.deadline, .int .i64 s.object, .int .i64 s.objected, .int .i64 s.extended] (by rfl) (by rfl) hN7.out rfl stSize (by kernel_rfl) ?_; intro w3 h7 hg7); have hb3 := Lib.hid (below_step hbw2.out (below_of_grownB (below_alloc w2 _) hg7 (Nat.le_refl _))))
          go_ret2
          exact ⟨by rw [hfin.out]; first | done | rfl, hb3.out⟩
        · have hfin : Hid (Cal.checkS p n = (0, 8)) := by show _ = _; rw [hC]; unfold Cal.noteS; rw [hn, if_pos rfl, if_pos ho, if_neg hlen]
          obtain ⟨o0, o1⟩ := ho
          have hn := Lib.hid hn
          have hlen' : 40 < n.acts.length := by omega
          clear hC hlen
          obtain ⟨h1, h2, hb⟩ := start2 w A c p N d n
          have c0 := h2.out.c 0 _ rfl
          have c1 := h2.out.c 1 _ rfl
          have c2 := h2.out.c 2 _ rfl
          go_enter Tryz.func117, Tryz.ntmps117
          go_wp2_with (refine wpPr h1.out (.tmp 2) rfl ?_)
          refine (CheckProcedure_any A c p _ (hN.out.below hb.out).hols (hN.out.below hb.out).tab).mono ?_
          rintro e w1 ⟨rfl, hb1⟩
          clear c0 c1 c2
          have g1 := Lib.hid (h1.out.below hb1)
          have g2 := Lib.hid (h2.out.below hb1)
          have hbw := Lib.hid (below_step hb.out hb1)
          clear hb1 h1 h2 hb
          rw [hp0.out]
          have c0 := g2.out.c 0 _ rfl
          have c1 := g2.out.c 1 _ rfl
          have c2 := g2.out.c 2 _ rfl
          go_wp2_with (first | (go_at_call 106; refine (nisName_any n.name _ hN.out.name).mono ?_; rintro e w' ⟨rfl, rfl⟩; rw [hn.out]) | first | (go_at_call 56; first | refine rin ?_ | refine rout ?_ | refine rany ?_) | ((first | (go_at_call 134) | (go_at_call 59) | (go_at_call 133) | (go_at_call 14) | (go_at_call 178) | (fail) | (go_at_call 139)); first | refine rin ?_ | refine rout ?_ | refine rany ?_))
          go_ret2
          exact ⟨by rw [hfin.out]; first | done | rfl, hbw.out⟩
      · have hfin : Hid (Cal.checkS p n = (0, 2)) := by show _ = _; rw [hC]; unfold Cal.noteS; rw [hn, if_pos rfl, if_neg ho]
        have hn := Lib.hid hn
        have ho' : n.opened < 0 ∨ 200000 < n.opened := by omega
        clear hC ho
        obtain ⟨h1, h2, hb⟩ := start2 w A c p N d n
        have c0 := h2.out.c 0 _ rfl
        have c1 := h2.out.c 1 _ rfl
        have c2 := h2.out.c 2 _ rfl
        go_enter Tryz.func117, Tryz.ntmps117
        go_wp2_with (refine wpPr h1.out (.tmp 2) rfl ?_)
        refine (CheckProcedure_any A c p _ (hN.out.below hb.out).hols (hN.out.below hb.out).tab).mono ?_
        rintro e w1 ⟨rfl, hb1⟩
        clear c0 c1 c2
        have g1 := Lib.hid (h1.out.below hb1)
        have g2 := Lib.hid (h2.out.below hb1)
        have hbw := Lib.hid (below_step hb.out hb1)
        clear hb1 h1 h2 hb
        rw [hp0.out]
        have c0 := g2.out.c 0 _ rfl
        have c1 := g2.out.c 1 _ rfl
        go_wp2_with (first | (go_at_call 106; refine (nisName_any n.name _ hN.out.name).mono ?_; rintro e w' ⟨rfl, rfl⟩; rw [hn.out]) | first | (go_at_call 56; first | refine rin ?_ | refine rout ?_ | refine rany ?_) | ((first | (go_at_call 134) | (go_at_call 59) | (go_at_call 133) | (go_at_call 14) | (go_at_call 178) | (fail) | (go_at_call 139)); first | refine rin ?_ | refine rout ?_ | refine rany ?_))
        go_ret2
        exact ⟨by rw [hfin.out]; first | done | rfl, hbw.out⟩
  · have hp1 : (Cal.procErr p != 0) = true := by simpa using h0
    have hfin : Hid (Cal.checkS p n = (0, Cal.procErr p)) := by show _ = _; unfold Cal.checkS; rw [if_neg h0]
    clear h0
    obtain ⟨h1, h2, hb⟩ := start2 w A c p N d n
    have c0 := h2.out.c 0 _ rfl
    have c1 := h2.out.c 1 _ rfl
    have c2 := h2.out.c 2 _ rfl
    go_enter Tryz.func117, Tryz.ntmps117
    go_wp2_with (refine wpPr h1.out (.tmp 2) rfl ?_)
    refine (CheckProcedure_any A c p _ (hN.out.below hb.out).hols (hN.out.below hb.out).tab).mono ?_
    rintro e w1 ⟨rfl, hb1⟩
    clear c0 c1 c2
    have g1 := Lib.hid (h1.out.below hb1)
    have g2 := Lib.hid (h2.out.below hb1)
    have hbw := Lib.hid (below_step hb.out hb1)
    clear hb1 h1 h2 hb
    go_wp2_with fail
    go_ret2
    exact ⟨by rw [hfin.out]; first | done | rfl, hbw.out⟩
theorem Cal.onE_ok {p : Proc} {n : Note} {day : Int} (h : Cal.onE p n day = 0) : (Cal.checkS p n).2 = 0 ∧ 0 ≤ day ∧ day ≤ 200000 ∧ n.opened ≤ day := by
  unfold Cal.onE at h
  split at h
  · rename_i h0
    split at h
    · rename_i h1
      split at h
      · omega
      · exact ⟨h0, h1.1, h1.2, by omega⟩
    · omega
  · rename_i h0; exact absurd h h0
def ZeroPost (w : World) (E : Int) (e : Ending) (w' : World) : Prop := e = .returned (.tuple #[.agg #[.int .i64 0, .int .i64 0, .bool false, .int .i64 0, .int .i64 0, .bool false, .int .i64 0, .int .i64 0, .bool false, .int .i64 0, .int .i64 0, .slice none 0 0, .int .i64 0, .int .i64 0, .int .i64 0, .int .i64 0, .int .i64 0, .int .i64 0], .int .i64 E]) ∧ Below w.heap.size w w'
def StPost (w : World) (A : Option Addr) (c : Nat) (p : Proc) (s : NSt) (e : Ending) (w' : World) : Prop := e = .returned (.tuple #[.agg #[.int .i64 p.runs.m, .int .i64 p.runs.d, .bool p.runs.k, .int .i64 p.obj.m, .int .i64 p.obj.d, .bool p.obj.k, .int .i64 p.wait.m, .int .i64 p.wait.d, .bool p.wait.k, .int .i64 p.exts, .int .i64 p.longest, .slice A p.hols.length c, .int .i64 s.phase, .int .i64 s.last, .int .i64 s.deadline, .int .i64 s.object, .int .i64 s.objected, .int .i64 s.extended], .int .i64 0]) ∧ Below w.heap.size w w'
set_option maxRecDepth 100000 in
set_option maxHeartbeats 4000000 in
theorem on_bad (A : Option Addr) (c : Nat) (p : Proc) (N : Option Addr) (d : Nat) (n : Note) (day : Int) (w : World) (hN : NB w A p N n) (hE : Cal.onE p n day ≠ 0) :
    Calls Tryz.prog 101 #[.agg #[.int .i64 p.runs.m, .int .i64 p.runs.d, .bool p.runs.k, .int .i64 p.obj.m, .int .i64 p.obj.d, .bool p.obj.k, .int .i64 p.wait.m, .int .i64 p.wait.d, .bool p.wait.k, .int .i64 p.exts, .int .i64 p.longest, .slice A p.hols.length c], .agg #[.string n.name, .int .i64 n.opened, .slice N n.acts.length d], .int .i64 day] w (ZeroPost w (Cal.onE p n day)) := by
  have hN := Lib.hid hN
  rcases hc : Cal.checkS p n with ⟨i, E⟩
  have hC := Lib.hid hc
  by_cases h0 : E = 0
  · subst h0
    have hc2 : (Cal.checkS p n).2 = 0 := by rw [hc]
    clear hc
    by_cases hd : 0 ≤ day ∧ day ≤ 200000
    · have ho : day < n.opened := by
        rcases Int.lt_or_le day n.opened with h | h
        · exact h
        · exact absurd (by unfold Cal.onE; rw [if_pos hc2, if_pos hd, if_neg (by omega)]) hE
      have hfin : Hid (Cal.onE p n day = 22) := by show _ = _; unfold Cal.onE; rw [if_pos hc2, if_pos hd, if_pos ho]
      obtain ⟨d0, d1⟩ := hd
      clear hE hc2
      obtain ⟨h1, h2, h3, hb⟩ := start3 w A c p N d n
      have c0 := h2.out.c 0 _ rfl
      have c1 := h2.out.c 1 _ rfl
      have c2 := h2.out.c 2 _ rfl
      go_enter Tryz.func101, Tryz.ntmps101
      go_wp2_with (refine wpPr h1.out (.tmp 3) rfl ?_)
      refine (CheckNotice_any A c p N d n _ (hN.out.below hb.out)).mono ?_
      rintro e w1 ⟨he, hb1⟩
      rw [hC.out] at he
      subst he
      clear c0 c1 c2
      have g1 := Lib.hid (h1.out.below hb1)
      have g2 := Lib.hid (h2.out.below hb1)
      have g3 := Lib.hid (h3.out.below hb1)
      have hbw := Lib.hid (below_step hb.out hb1)
      clear hb1 h1 h2 h3 hb
      have c1 := g2.out.c 1 _ rfl
      go_wp2_with (first | ((refine wpList_store_box rfl 134 (.tmp 6) (.tmp 33) rfl (w.heap.size + 1 + 1) _ [.int .i64 0, .int .i64 0, .bool false, .int .i64 0, .int .i64 0, .bool false, .int .i64 0, .int .i64 0, .bool false, .int .i64 0, .int .i64 0, .slice none 0 0, .int .i64 0, .int .i64 0, .int .i64 0, .int .i64 0, .int .i64 0, .int .i64 0] (by rfl) (by rfl) g3.out rfl stSize (by kernel_rfl) ?_; intro w3 h6 hg6); have hb3 := Lib.hid (below_of_grownB hbw.out hg6 (by omega))) | first | (go_at_call 56; first | refine rin ?_ | refine rout ?_ | refine rany ?_) | ((first | (go_at_call 134) | (go_at_call 59) | (go_at_call 133) | (go_at_call 14) | (go_at_call 178) | (fail) | (go_at_call 139)); first | refine rin ?_ | refine rout ?_ | refine rany ?_))
      (try simp only [Exit.inBlock, Exit.then])
      refine bodyPost_ret (results_mid2 rfl _ _ (w.heap.size + 1 + 1) [.int .i64 0, .int .i64 0, .bool false, .int .i64 0, .int .i64 0, .bool false, .int .i64 0, .int .i64 0, .bool false, .int .i64 0, .int .i64 0, .slice none 0 0, .int .i64 0, .int .i64 0, .int .i64 0, .int .i64 0, .int .i64 0, .int .i64 0] _ rfl h6.range Tryz.underlying134 rfl stSize) rfl ⟨by rw [hfin.out]; rfl, hb3.out⟩
    · have hfin : Hid (Cal.onE p n day = 2) := by show _ = _; unfold Cal.onE; rw [if_pos hc2, if_neg hd]
      have hd' : day < 0 ∨ 200000 < day := by omega
      clear hd hE hc2
      obtain ⟨h1, h2, h3, hb⟩ := start3 w A c p N d n
      have c0 := h2.out.c 0 _ rfl
      have c1 := h2.out.c 1 _ rfl
      have c2 := h2.out.c 2 _ rfl
      go_enter Tryz.func101, Tryz.ntmps101
      go_wp2_with (refine wpPr h1.out (.tmp 3) rfl ?_)
      refine (CheckNotice_any A c p N d n _ (hN.out.below hb.out)).mono ?_
      rintro e w1 ⟨he, hb1⟩
      rw [hC.out] at he
      subst he
      clear c0 c1 c2
      have g1 := Lib.hid (h1.out.below hb1)
      have g2 := Lib.hid (h2.out.below hb1)
      have g3 := Lib.hid (h3.out.below hb1)
      have hbw := Lib.hid (below_step hb.out hb1)
      clear hb1 h1 h2 h3 hb
      go_wp2_with (first | ((refine wpList_store_box rfl 134 (.tmp 6) (.tmp 27) rfl (w.heap.size + 1 + 1) _ [.int .i64 0, .int .i64 0, .bool false, .int .i64 0, .int .i64 0, .bool false, .int .i64 0, .int .i64 0, .bool false, .int .i64 0, .int .i64 0, .slice none 0 0, .int .i64 0, .int .i64 0, .int .i64 0, .int .i64 0, .int .i64 0, .int .i64 0] (by rfl) (by rfl) g3.out rfl stSize (by kernel_rfl) ?_; intro w3 h6 hg6); have hb3 := Lib.hid (below_of_grownB hbw.out hg6 (by omega))) | first | (go_at_call 56; first | refine rin ?_ | refine rout ?_ | refine rany ?_) | ((first | (go_at_call 134) | (go_at_call 59) | (go_at_call 133) | (go_at_call 14) | (go_at_call 178) | (fail) | (go_at_call 139)); first | refine rin ?_ | refine rout ?_ | refine rany ?_))
      (try simp only [Exit.inBlock, Exit.then])
      refine bodyPost_ret (results_mid2 rfl _ _ (w.heap.size + 1 + 1) [.int .i64 0, .int .i64 0, .bool false, .int .i64 0, .int .i64 0, .bool false, .int .i64 0, .int .i64 0, .bool false, .int .i64 0, .int .i64 0, .slice none 0 0, .int .i64 0, .int .i64 0, .int .i64 0, .int .i64 0, .int .i64 0, .int .i64 0] _ rfl h6.range Tryz.underlying134 rfl stSize) rfl ⟨by rw [hfin.out]; rfl, hb3.out⟩
  · have hfin : Hid (Cal.onE p n day = E) := by show _ = _; unfold Cal.onE; rw [if_neg (by rw [hc]; exact h0), hc]
    have h1 : (E != 0) = true := by simpa using h0
    clear hE hc h0
    obtain ⟨h1, h2, h3, hb⟩ := start3 w A c p N d n
    have c0 := h2.out.c 0 _ rfl
    have c1 := h2.out.c 1 _ rfl
    have c2 := h2.out.c 2 _ rfl
    go_enter Tryz.func101, Tryz.ntmps101
    go_wp2_with (refine wpPr h1.out (.tmp 3) rfl ?_)
    refine (CheckNotice_any A c p N d n _ (hN.out.below hb.out)).mono ?_
    rintro e w1 ⟨he, hb1⟩
    rw [hC.out] at he
    subst he
    clear c0 c1 c2
    have g1 := Lib.hid (h1.out.below hb1)
    have g2 := Lib.hid (h2.out.below hb1)
    have g3 := Lib.hid (h3.out.below hb1)
    have hbw := Lib.hid (below_step hb.out hb1)
    clear hb1 h1 h2 h3 hb
    go_wp2_with (first | ((refine wpList_store_box rfl 134 (.tmp 6) (.tmp 21) rfl (w.heap.size + 1 + 1) _ [.int .i64 0, .int .i64 0, .bool false, .int .i64 0, .int .i64 0, .bool false, .int .i64 0, .int .i64 0, .bool false, .int .i64 0, .int .i64 0, .slice none 0 0, .int .i64 0, .int .i64 0, .int .i64 0, .int .i64 0, .int .i64 0, .int .i64 0] (by rfl) (by rfl) g3.out rfl stSize (by kernel_rfl) ?_; intro w3 h6 hg6); have hb3 := Lib.hid (below_of_grownB hbw.out hg6 (by omega))) | first | (go_at_call 56; first | refine rin ?_ | refine rout ?_ | refine rany ?_) | ((first | (go_at_call 134) | (go_at_call 59) | (go_at_call 133) | (go_at_call 14) | (go_at_call 178) | (fail) | (go_at_call 139)); first | refine rin ?_ | refine rout ?_ | refine rany ?_))
    (try simp only [Exit.inBlock, Exit.then])
    refine bodyPost_ret (results_mid2 rfl _ _ (w.heap.size + 1 + 1) [.int .i64 0, .int .i64 0, .bool false, .int .i64 0, .int .i64 0, .bool false, .int .i64 0, .int .i64 0, .bool false, .int .i64 0, .int .i64 0, .slice none 0 0, .int .i64 0, .int .i64 0, .int .i64 0, .int .i64 0, .int .i64 0, .int .i64 0] _ rfl h6.range Tryz.underlying134 rfl stSize) rfl ⟨by rw [hfin.out]; rfl, hb3.out⟩
set_option maxRecDepth 100000 in
set_option maxHeartbeats 4000000 in
theorem on_ok (A : Option Addr) (c : Nat) (p : Proc) (N : Option Addr) (d : Nat) (n : Note) (day : Int) (w : World) (hN : NB w A p N n) (hE : Cal.onE p n day = 0) :
    Calls Tryz.prog 101 #[.agg #[.int .i64 p.runs.m, .int .i64 p.runs.d, .bool p.runs.k, .int .i64 p.obj.m, .int .i64 p.obj.d, .bool p.obj.k, .int .i64 p.wait.m, .int .i64 p.wait.d, .bool p.wait.k, .int .i64 p.exts, .int .i64 p.longest, .slice A p.hols.length c], .agg #[.string n.name, .int .i64 n.opened, .slice N n.acts.length d], .int .i64 day] w (StPost w A c p (Cal.stAt p n day)) := by
  have hN := Lib.hid hN
  obtain ⟨hc2, d0, d1, d2⟩ := Cal.onE_ok hE
  obtain ⟨hp, _, o0, o1, _, hrun⟩ := Cal.checkS_ok hc2
  obtain ⟨_, _, _, _, x1, _, x2, _⟩ := Cal.procErr_ok hp
  have hfol := fun w1 (h : NB w1 A p N n) => follow_any A c p N d n day w1 h.hols h.tab h.acts x1 x2 o0 o1
  rw [Cal.folS_at hrun] at hfol
  obtain ⟨s, hs⟩ : ∃ s, Cal.stAt p n day = s := ⟨_, rfl⟩
  have hs2 : Cal.atS p day n.acts (Cal.openSt n.opened) = s := hs
  rw [hs2] at hfol
  rw [hs]
  have hfol := Lib.hid hfol
  rcases hc : Cal.checkS p n with ⟨i, E⟩
  rw [hc] at hc2
  have hc2 : E = 0 := hc2
  subst hc2
  have hC := Lib.hid hc
  clear hc hE hp hrun hs2 hs
  obtain ⟨h1, h2, h3, hb⟩ := start3 w A c p N d n
  have c0 := h2.out.c 0 _ rfl
  have c1 := h2.out.c 1 _ rfl
  have c2 := h2.out.c 2 _ rfl
  go_enter Tryz.func101, Tryz.ntmps101
  go_wp2_with (refine wpPr h1.out (.tmp 3) rfl ?_)
  refine (CheckNotice_any A c p N d n _ (hN.out.below hb.out)).mono ?_
  rintro e w1 ⟨he, hb1⟩
  rw [hC.out] at he
  subst he
  clear c0 c1 c2
  have g1 := Lib.hid (h1.out.below hb1)
  have g2 := Lib.hid (h2.out.below hb1)
  have g3 := Lib.hid (h3.out.below hb1)
  have hbw := Lib.hid (below_step hb.out hb1)
  clear hb1 h1 h2 h3 hb
  have c0 := g2.out.c 0 _ rfl
  have c1 := g2.out.c 1 _ rfl
  have c2 := g2.out.c 2 _ rfl
  go_wp2_with (first | first | (go_at_call 56; first | refine rin ?_ | refine rout ?_ | refine rany ?_) | ((first | (go_at_call 134) | (go_at_call 59) | (go_at_call 133) | (go_at_call 14) | (go_at_call 178) | (fail) | (go_at_call 139)); first | refine rin ?_ | refine rout ?_ | refine rany ?_) | (refine wpPr g1.out (.tmp 3) rfl ?_))
  clear c0 c1 c2
  refine (hfol.out _ (hN.out.below hbw.out)).mono ?_
  rintro e w2 ⟨he, hb2⟩
  subst he
  have hbw2 := Lib.hid (below_step hbw.out hb2)
  have k3 := Lib.hid (g3.out.below hb2)
  have hz := (g3.out.below hb2).lt
  have hN10 := Lib.hid (BoxAt.new w2 #[.int .i64 0, .int .i64 0, .bool false, .int .i64 0, .int .i64 0, .bool false, .int .i64 0, .int .i64 0, .bool false, .int .i64 0, .int .i64 0, .slice none 0 0, .int .i64 0, .int .i64 0, .int .i64 0, .int .i64 0, .int .i64 0, .int .i64 0] 134)
  clear hb2
  go_wp2_with (first
    | ((refine wpList_store_box rfl 134 (.tmp 10) (.tmp 39) rfl (w2.heap.size) _ [.int .i64 p.runs.m, .int .i64 p.runs.d, .bool p.runs.k, .int .i64 p.obj.m, .int .i64 p.obj.d, .bool p.obj.k, .int .i64 p.wait.m, .int .i64 p.wait.d, .bool p.wait.k, .int .i64 p.exts, .int .i64 p.longest, .slice A p.hols.length c, .int .i64 s.phase, .int .i64 s.last, .int .i64 s.deadline, .int .i64 s.object, .int .i64 s.objected, .int .i64 s.extended] (by rfl) (by rfl) hN10.out rfl stSize (by kernel_rfl) ?_; intro w3 h10 hg10); have hb23 := below_of_grownB (below_alloc w2 _) hg10 (Nat.le_refl _); have hbw3 := Lib.hid (below_step hbw2.out hb23); have k3' := Lib.hid (k3.out.below hb23); clear hb23)
    | (refine wpList_load_mid rfl 134 (.tmp 10) rfl w2.heap.size 0 rfl [.int .i64 p.runs.m, .int .i64 p.runs.d, .bool p.runs.k, .int .i64 p.obj.m, .int .i64 p.obj.d, .bool p.obj.k, .int .i64 p.wait.m, .int .i64 p.wait.d, .bool p.wait.k, .int .i64 p.exts, .int .i64 p.longest, .slice A p.hols.length c, .int .i64 s.phase, .int .i64 s.last, .int .i64 s.deadline, .int .i64 s.object, .int .i64 s.objected, .int .i64 s.extended] _ h10.range Tryz.underlying134 rfl stSize ?_)
    | ((refine wpList_store_box rfl 134 (.tmp 6) (.tmp 42) rfl (w.heap.size + 1 + 1) _ [.int .i64 p.runs.m, .int .i64 p.runs.d, .bool p.runs.k, .int .i64 p.obj.m, .int .i64 p.obj.d, .bool p.obj.k, .int .i64 p.wait.m, .int .i64 p.wait.d, .bool p.wait.k, .int .i64 p.exts, .int .i64 p.longest, .slice A p.hols.length c, .int .i64 s.phase, .int .i64 s.last, .int .i64 s.deadline, .int .i64 s.object, .int .i64 s.objected, .int .i64 s.extended] (by rfl) (by rfl) k3'.out rfl stSize (by kernel_rfl) ?_; intro w4 h6 hg6); have hb4 := Lib.hid (below_of_grownB hbw3.out hg6 (by omega))))
  (try simp only [Exit.inBlock, Exit.then])
  refine bodyPost_ret (results_mid2 rfl _ _ (w.heap.size + 1 + 1) [.int .i64 p.runs.m, .int .i64 p.runs.d, .bool p.runs.k, .int .i64 p.obj.m, .int .i64 p.obj.d, .bool p.obj.k, .int .i64 p.wait.m, .int .i64 p.wait.d, .bool p.wait.k, .int .i64 p.exts, .int .i64 p.longest, .slice A p.hols.length c, .int .i64 s.phase, .int .i64 s.last, .int .i64 s.deadline, .int .i64 s.object, .int .i64 s.objected, .int .i64 s.extended] _ rfl h6.range Tryz.underlying134 rfl stSize) rfl ⟨by rfl, hb4.out⟩
end Go.Proofs.YtbegbajlagcbdaaGreatDoor
