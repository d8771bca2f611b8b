/- Chapter 8 and what it rests on: definitions and walks, part 18. -/
import Derived.Test.YtconnjkkgaapbaaDoorC17
import Derived.Test.YtconnjkkgaapbaaDoorC14
namespace Go.Proofs.YtconnjkkgaapbaaDoor
open Go Go.RowKit
/-- What a procedure and a notice hang on in memory. -/
structure NB (w : World) (A : Option Addr) (p : Proc) (N : Option Addr) (n : Note) : Prop where
  hols : Hols w A p.hols
  tab : Tab w
  acts : Acts w N n.acts
  name : n.name.size ≤ maxLen
theorem NB.below {w w' : World} {A : Option Addr} {p : Proc} {N : Option Addr} {n : Note} (h : NB w A p N n) (hb : Below w.heap.size w w') : NB w' A p N n := ⟨h.hols.below hb, h.tab.below hb, h.acts.below hb, h.name⟩
theorem Cal.runS_zero {p : Proc} : ∀ {l : List NAct} {s : NSt} {i : Nat}, (Cal.runS p l s i).2.2 = 0 → (Cal.runS p l s i).2.1 = 0
  | [], _, _, _ => rfl
  | a :: l, s, i, h => by
    obtain ⟨h1, h2⟩ := Cal.runS_cons.1 h
    rw [Cal.runS_more, if_pos h1]
    exact Cal.runS_zero h2
theorem Cal.folS_run (p : Proc) (l : List NAct) (s : NSt) (day : Int) : (Cal.folS p l s day).2 = (((Cal.runS p l s 0).2.1 : Int), (Cal.runS p l s 0).2.2) := by
  unfold Cal.folS
  by_cases h : (Cal.runS p l s 0).2.2 = 0
  · rw [if_pos h, Cal.runS_zero h, h]; rfl
  · rw [if_neg h]
theorem Cal.folS_at {p : Proc} {l : List NAct} {s : NSt} {day : Int} (h : (Cal.runS p l s 0).2.2 = 0) : Cal.folS p l s day = (Cal.atS p day l s, 0, 0) := by
  unfold Cal.folS
  rw [if_pos h, Cal.told_at h]
theorem Cal.checkS_ok {p : Proc} {n : Note} (h : (Cal.checkS p n).2 = 0) : Cal.procErr p = 0 ∧ nameB n.name = true ∧ 0 ≤ n.opened ∧ n.opened ≤ 200000 ∧ n.acts.length ≤ 40 ∧ (Cal.runS p n.acts (Cal.openSt n.opened) 0).2.2 = 0 := by
  unfold Cal.checkS at h
  split at h
  · rename_i h0
    unfold Cal.noteS at h
    split at h
    · rename_i h1
      split at h
      · rename_i h2
        split at h
        · rename_i h3; exact ⟨h0, h1, h2.1, h2.2, h3, h⟩
        · simp at h
      · simp at h
    · simp at h
  · rename_i h0; exact absurd h h0
def IEPost (w : World) (r : Int × Int) (e : Ending) (w' : World) : Prop := e = .returned (.tuple #[.int .i64 r.1, .int .i64 r.2]) ∧ Below w.heap.size w w'
set_option maxRecDepth 100000 in
set_option maxHeartbeats 4000000 in
theorem CheckNotice_any (A : Option Addr) (c : Nat) (p : Proc) (N : Option Addr) (d : Nat) (n : Note) (w : World) (hN : NB w A p N n) :
    Calls Tryd.prog 57 #[.agg #[.int .i64 p.runs.m, .int .i64 p.runs.d, .bool p.runs.k, .int .i64 p.obj.m, .int .i64 p.obj.d, .bool p.obj.k, .int .i64 p.wait.m, .int .i64 p.wait.d, .bool p.wait.k, .int .i64 p.exts, .int .i64 p.longest, .slice A p.hols.length c], .agg #[.string n.name, .int .i64 n.opened, .slice N n.acts.length d]] w (IEPost w (Cal.checkS p n)) := by
  have hsz := hN.acts.size
  have hN := Lib.hid hN
  by_cases h0 : Cal.procErr p = 0
  · have hp0 := Lib.hid h0
    have hC : Cal.checkS p n = Cal.noteS p n := if_pos h0
    obtain ⟨_, _, _, _, x1, _, x2, _⟩ := Cal.procErr_ok h0
    clear h0
    cases hn : nameB n.name
    · have hfin : Hid (Cal.checkS p n = (0, 4)) := by show _ = _; rw [hC]; unfold Cal.noteS; rw [hn]; rfl
      have hn := Lib.hid hn
      clear hC
      obtain ⟨h1, h2, hb⟩ := start2 w A c p N d n
      have c0 := h2.out.c 0 _ rfl
      have c1 := h2.out.c 1 _ rfl
      have c2 := h2.out.c 2 _ rfl
      go_enter Tryd.func57, Tryd.ntmps57
      go_wp2_with (refine wpPr h1.out (.tmp 2) rfl ?_)
      refine (CheckProcedure_any A c p _ (hN.out.below hb.out).hols (hN.out.below hb.out).tab).mono ?_
      rintro e w1 ⟨rfl, hb1⟩
      clear c0 c1 c2
      have g1 := Lib.hid (h1.out.below hb1)
      have g2 := Lib.hid (h2.out.below hb1)
      have hbw := Lib.hid (below_step hb.out hb1)
      clear hb1 h1 h2 hb
      rw [hp0.out]
      have c0 := g2.out.c 0 _ rfl
      go_wp2_with (first | (go_at_call 78; refine (nisName_any n.name _ hN.out.name).mono ?_; rintro e w' ⟨rfl, rfl⟩; rw [hn.out]))
      go_ret2
      exact ⟨by rw [hfin.out]; first | done | rfl, hbw.out⟩
    · by_cases ho : 0 ≤ n.opened ∧ n.opened ≤ 200000
      · by_cases hlen : n.acts.length ≤ 40
        · have hC2 : Cal.checkS p n = (Cal.folS p n.acts (Cal.openSt n.opened) 200000).2 := by rw [hC, Cal.folS_run]; unfold Cal.noteS; rw [hn, if_pos rfl, if_pos ho, if_pos hlen]
          obtain ⟨o0, o1⟩ := ho
          have hfol := fun w1 (h : NB w1 A p N n) => follow_any A c p N d n 200000 w1 h.hols h.tab h.acts x1 x2 o0 o1
          rcases hr : Cal.folS p n.acts (Cal.openSt n.opened) 200000 with ⟨s, i, E⟩
          rw [hr] at hC2 hfol
          have hfin : Hid (Cal.checkS p n = (i, E)) := hC2
          have hn := Lib.hid hn
          have hfol := Lib.hid hfol
          clear hC hC2 hr
          obtain ⟨h1, h2, hb⟩ := start2 w A c p N d n
          have c0 := h2.out.c 0 _ rfl
          have c1 := h2.out.c 1 _ rfl
          have c2 := h2.out.c 2 _ rfl
          go_enter Tryd.func57, Tryd.ntmps57
          go_wp2_with (refine wpPr h1.out (.tmp 2) rfl ?_)
          refine (CheckProcedure_any A c p _ (hN.out.below hb.out).hols (hN.out.below hb.out).tab).mono ?_
          rintro e w1 ⟨rfl, hb1⟩
          clear c0 c1 c2
          have g1 := Lib.hid (h1.out.below hb1)
          have g2 := Lib.hid (h2.out.below hb1)
          have hbw := Lib.hid (below_step hb.out hb1)
          clear hb1 h1 h2 hb
          rw [hp0.out]
          have c0 := g2.out.c 0 _ rfl
          have c1 := g2.out.c 1 _ rfl
          have c2 := g2.out.c 2 _ rfl
          go_wp2_with (first | (go_at_call 78; refine (nisName_any n.name _ hN.out.name).mono ?_; rintro e w' ⟨rfl, rfl⟩; rw [hn.out]) | first | (go_at_call 48; first | refine rin ?_ | refine rout ?_ | refine rany ?_) | ((first | (go_at_call 64) | (go_at_call 14) | (go_at_call 39) | (go_at_call 30) | (fail) | (fail) | (fail)); first | refine rin ?_ | refine rout ?_ | refine rany ?_) | (refine wpPr g1.out (.tmp 2) rfl ?_))
          clear c0 c1 c2
          refine (hfol.out _ (hN.out.below hbw.out)).mono ?_
          rintro e w2 ⟨he, hb2⟩
          subst he
          have hbw2 := Lib.hid (below_step hbw.out hb2)
          have hN7 := Lib.hid (BoxAt.new w2 #[.int .i64 0, .int .i64 0, .bool false, .int .i64 0, .int .i64 0, .bool false, .int .i64 0, .int .i64 0, .bool false, .int .i64 0, .int .i64 0, .slice none 0 0, .int .i64 0, .int .i64 0, .int .i64 0, .int .i64 0, .int .i64 0, .int .i64 0] 75)
          clear hb2
          go_wp2_with ((refine wpList_store_box rfl 75 (.tmp 7) (.tmp 34) rfl (w2.heap.size) _ [.int .i64 p.runs.m, .int .i64 p.runs.d, .bool p.runs.k, .int .i64 p.obj.m, .int .i64 p.obj.d, .bool p.obj.k, .int .i64 p.wait.m, .int .i64 p.wait.d, .bool p.wait.k, .int .i64 p.exts, .int .i64 p.longest, .slice A p.hols.length c, .int .i64 s.phase, .int .i64 s.last, .int .i64 s.deadline, .int .i64 s.object, .int .i64 s.objected, .int .i64 s.extended] (by rfl) (by rfl) hN7.out rfl stSize (by kernel_rfl) ?_; intro w3 h7 hg7); have hb3 := Lib.hid (below_step hbw2.out (below_of_grownB (below_alloc w2 _) hg7 (Nat.le_refl _))))
          go_ret2
          exact ⟨by rw [hfin.out]; first | done | rfl, hb3.out⟩
        · have hfin : Hid (Cal.checkS p n = (0, 8)) := by show _ = _; rw [hC]; unfold Cal.noteS; rw [hn, if_pos rfl, if_pos ho, if_neg hlen]
          obtain ⟨o0, o1⟩ := ho
          have hn := Lib.hid hn
          have hlen' : 40 < n.acts.length := by omega
          clear hC hlen
          obtain ⟨h1, h2, hb⟩ := start2 w A c p N d n
          have c0 := h2.out.c 0 _ rfl
          have c1 := h2.out.c 1 _ rfl
          have c2 := h2.out.c 2 _ rfl
          go_enter Tryd.func57, Tryd.ntmps57
          go_wp2_with (refine wpPr h1.out (.tmp 2) rfl ?_)
          refine (CheckProcedure_any A c p _ (hN.out.below hb.out).hols (hN.out.below hb.out).tab).mono ?_
          rintro e w1 ⟨rfl, hb1⟩
          clear c0 c1 c2
          have g1 := Lib.hid (h1.out.below hb1)
          have g2 := Lib.hid (h2.out.below hb1)
          have hbw := Lib.hid (below_step hb.out hb1)
          clear hb1 h1 h2 hb
          rw [hp0.out]
          have c0 := g2.out.c 0 _ rfl
          have c1 := g2.out.c 1 _ rfl
          have c2 := g2.out.c 2 _ rfl
          go_wp2_with (first | (go_at_call 78; refine (nisName_any n.name _ hN.out.name).mono ?_; rintro e w' ⟨rfl, rfl⟩; rw [hn.out]) | first | (go_at_call 48; first | refine rin ?_ | refine rout ?_ | refine rany ?_) | ((first | (go_at_call 64) | (go_at_call 14) | (go_at_call 39) | (go_at_call 30) | (fail) | (fail) | (fail)); first | refine rin ?_ | refine rout ?_ | refine rany ?_))
          go_ret2
          exact ⟨by rw [hfin.out]; first | done | rfl, hbw.out⟩
      · have hfin : Hid (Cal.checkS p n = (0, 2)) := by show _ = _; rw [hC]; unfold Cal.noteS; rw [hn, if_pos rfl, if_neg ho]
        have hn := Lib.hid hn
        have ho' : n.opened < 0 ∨ 200000 < n.opened := by omega
        clear hC ho
        obtain ⟨h1, h2, hb⟩ := start2 w A c p N d n
        have c0 := h2.out.c 0 _ rfl
        have c1 := h2.out.c 1 _ rfl
        have c2 := h2.out.c 2 _ rfl
        go_enter Tryd.func57, Tryd.ntmps57
        go_wp2_with (refine wpPr h1.out (.tmp 2) rfl ?_)
        refine (CheckProcedure_any A c p _ (hN.out.below hb.out).hols (hN.out.below hb.out).tab).mono ?_
        rintro e w1 ⟨rfl, hb1⟩
        clear c0 c1 c2
        have g1 := Lib.hid (h1.out.below hb1)
        have g2 := Lib.hid (h2.out.below hb1)
        have hbw := Lib.hid (below_step hb.out hb1)
        clear hb1 h1 h2 hb
        rw [hp0.out]
        have c0 := g2.out.c 0 _ rfl
        have c1 := g2.out.c 1 _ rfl
        go_wp2_with (first | (go_at_call 78; refine (nisName_any n.name _ hN.out.name).mono ?_; rintro e w' ⟨rfl, rfl⟩; rw [hn.out]) | first | (go_at_call 48; first | refine rin ?_ | refine rout ?_ | refine rany ?_) | ((first | (go_at_call 64) | (go_at_call 14) | (go_at_call 39) | (go_at_call 30) | (fail) | (fail) | (fail)); first | refine rin ?_ | refine rout ?_ | refine rany ?_))
        go_ret2
        exact ⟨by rw [hfin.out]; first | done | rfl, hbw.out⟩
  · have hp1 : (Cal.procErr p != 0) = true := by simpa using h0
    have hfin : Hid (Cal.checkS p n = (0, Cal.procErr p)) := by show _ = _; unfold Cal.checkS; rw [if_neg h0]
    clear h0
    obtain ⟨h1, h2, hb⟩ := start2 w A c p N d n
    have c0 := h2.out.c 0 _ rfl
    have c1 := h2.out.c 1 _ rfl
    have c2 := h2.out.c 2 _ rfl
    go_enter Tryd.func57, Tryd.ntmps57
    go_wp2_with (refine wpPr h1.out (.tmp 2) rfl ?_)
    refine (CheckProcedure_any A c p _ (hN.out.below hb.out).hols (hN.out.below hb.out).tab).mono ?_
    rintro e w1 ⟨rfl, hb1⟩
    clear c0 c1 c2
    have g1 := Lib.hid (h1.out.below hb1)
    have g2 := Lib.hid (h2.out.below hb1)
    have hbw := Lib.hid (below_step hb.out hb1)
    clear hb1 h1 h2 hb
    go_wp2_with fail
    go_ret2
    exact ⟨by rw [hfin.out]; first | done | rfl, hbw.out⟩
theorem Cal.onE_ok {p : Proc} {n : Note} {day : Int} (h : Cal.onE p n day = 0) : (Cal.checkS p n).2 = 0 ∧ 0 ≤ day ∧ day ≤ 200000 ∧ n.opened ≤ day := by
  unfold Cal.onE at h
  split at h
  · rename_i h0
    split at h
    · rename_i h1
      split at h
      · omega
      · exact ⟨h0, h1.1, h1.2, by omega⟩
    · omega
  · rename_i h0; exact absurd h h0
def ZeroPost (w : World) (E : Int) (e : Ending) (w' : World) : Prop := e = .returned (.tuple #[.agg #[.int .i64 0, .int .i64 0, .bool false, .int .i64 0, .int .i64 0, .bool false, .int .i64 0, .int .i64 0, .bool false, .int .i64 0, .int .i64 0, .slice none 0 0, .int .i64 0, .int .i64 0, .int .i64 0, .int .i64 0, .int .i64 0, .int .i64 0], .int .i64 E]) ∧ Below w.heap.size w w'
def StPost (w : World) (A : Option Addr) (c : Nat) (p : Proc) (s : NSt) (e : Ending) (w' : World) : Prop := e = .returned (.tuple #[.agg #[.int .i64 p.runs.m, .int .i64 p.runs.d, .bool p.runs.k, .int .i64 p.obj.m, .int .i64 p.obj.d, .bool p.obj.k, .int .i64 p.wait.m, .int .i64 p.wait.d, .bool p.wait.k, .int .i64 p.exts, .int .i64 p.longest, .slice A p.hols.length c, .int .i64 s.phase, .int .i64 s.last, .int .i64 s.deadline, .int .i64 s.object, .int .i64 s.objected, .int .i64 s.extended], .int .i64 0]) ∧ Below w.heap.size w w'
set_option maxRecDepth 100000 in
set_option maxHeartbeats 4000000 in
theorem on_bad (A : Option Addr) (c : Nat) (p : Proc) (N : Option Addr) (d : Nat) (n : Note) (day : Int) (w : World) (hN : NB w A p N n) (hE : Cal.onE p n day ≠ 0) :
    Calls Tryd.prog 44 #[.agg #[.int .i64 p.runs.m, .int .i64 p.runs.d, .bool p.runs.k, .int .i64 p.obj.m, .int .i64 p.obj.d, .bool p.obj.k, .int .i64 p.wait.m, .int .i64 p.wait.d, .bool p.wait.k, .int .i64 p.exts, .int .i64 p.longest, .slice A p.hols.length c], .agg #[.string n.name, .int .i64 n.opened, .slice N n.acts.length d], .int .i64 day] w (ZeroPost w (Cal.onE p n day)) := by
  have hN := Lib.hid hN
  rcases hc : Cal.checkS p n with ⟨i, E⟩
  have hC := Lib.hid hc
  by_cases h0 : E = 0
  · subst h0
    have hc2 : (Cal.checkS p n).2 = 0 := by rw [hc]
    clear hc
    by_cases hd : 0 ≤ day ∧ day ≤ 200000
    · have ho : day < n.opened := by
        rcases Int.lt_or_le day n.opened with h | h
        · exact h
        · exact absurd (by unfold Cal.onE; rw [if_pos hc2, if_pos hd, if_neg (by omega)]) hE
      have hfin : Hid (Cal.onE p n day = 22) := by show _ = _; unfold Cal.onE; rw [if_pos hc2, if_pos hd, if_pos ho]
      obtain ⟨d0, d1⟩ := hd
      clear hE hc2
      obtain ⟨h1, h2, h3, hb⟩ := start3 w A c p N d n
      have c0 := h2.out.c 0 _ rfl
      have c1 := h2.out.c 1 _ rfl
      have c2 := h2.out.c 2 _ rfl
      go_enter Tryd.func44, Tryd.ntmps44
      go_wp2_with (refine wpPr h1.out (.tmp 3) rfl ?_)
      refine (CheckNotice_any A c p N d n _ (hN.out.below hb.out)).mono ?_
      rintro e w1 ⟨he, hb1⟩
      rw [hC.out] at he
      subst he
      clear c0 c1 c2
      have g1 := Lib.hid (h1.out.below hb1)
      have g2 := Lib.hid (h2.out.below hb1)
      have g3 := Lib.hid (h3.out.below hb1)
      have hbw := Lib.hid (below_step hb.out hb1)
      clear hb1 h1 h2 h3 hb
      have c1 := g2.out.c 1 _ rfl
      go_wp2_with (first | ((refine wpList_store_box rfl 75 (.tmp 6) (.tmp 33) rfl (w.heap.size + 1 + 1) _ [.int .i64 0, .int .i64 0, .bool false, .int .i64 0, .int .i64 0, .bool false, .int .i64 0, .int .i64 0, .bool false, .int .i64 0, .int .i64 0, .slice none 0 0, .int .i64 0, .int .i64 0, .int .i64 0, .int .i64 0, .int .i64 0, .int .i64 0] (by rfl) (by rfl) g3.out rfl stSize (by kernel_rfl) ?_; intro w3 h6 hg6); have hb3 := Lib.hid (below_of_grownB hbw.out hg6 (by omega))) | first | (go_at_call 48; first | refine rin ?_ | refine rout ?_ | refine rany ?_) | ((first | (go_at_call 64) | (go_at_call 14) | (go_at_call 39) | (go_at_call 30) | (fail) | (fail) | (fail)); first | refine rin ?_ | refine rout ?_ | refine rany ?_))
      (try simp only [Exit.inBlock, Exit.then])
      refine bodyPost_ret (results_mid2 rfl _ _ (w.heap.size + 1 + 1) [.int .i64 0, .int .i64 0, .bool false, .int .i64 0, .int .i64 0, .bool false, .int .i64 0, .int .i64 0, .bool false, .int .i64 0, .int .i64 0, .slice none 0 0, .int .i64 0, .int .i64 0, .int .i64 0, .int .i64 0, .int .i64 0, .int .i64 0] _ rfl h6.range Tryd.underlying75 rfl stSize) rfl ⟨by rw [hfin.out]; rfl, hb3.out⟩
    · have hfin : Hid (Cal.onE p n day = 2) := by show _ = _; unfold Cal.onE; rw [if_pos hc2, if_neg hd]
      have hd' : day < 0 ∨ 200000 < day := by omega
      clear hd hE hc2
      obtain ⟨h1, h2, h3, hb⟩ := start3 w A c p N d n
      have c0 := h2.out.c 0 _ rfl
      have c1 := h2.out.c 1 _ rfl
      have c2 := h2.out.c 2 _ rfl
      go_enter Tryd.func44, Tryd.ntmps44
      go_wp2_with (refine wpPr h1.out (.tmp 3) rfl ?_)
      refine (CheckNotice_any A c p N d n _ (hN.out.below hb.out)).mono ?_
      rintro e w1 ⟨he, hb1⟩
      rw [hC.out] at he
      subst he
      clear c0 c1 c2
      have g1 := Lib.hid (h1.out.below hb1)
      have g2 := Lib.hid (h2.out.below hb1)
      have g3 := Lib.hid (h3.out.below hb1)
      have hbw := Lib.hid (below_step hb.out hb1)
      clear hb1 h1 h2 h3 hb
      go_wp2_with (first | ((refine wpList_store_box rfl 75 (.tmp 6) (.tmp 27) rfl (w.heap.size + 1 + 1) _ [.int .i64 0, .int .i64 0, .bool false, .int .i64 0, .int .i64 0, .bool false, .int .i64 0, .int .i64 0, .bool false, .int .i64 0, .int .i64 0, .slice none 0 0, .int .i64 0, .int .i64 0, .int .i64 0, .int .i64 0, .int .i64 0, .int .i64 0] (by rfl) (by rfl) g3.out rfl stSize (by kernel_rfl) ?_; intro w3 h6 hg6); have hb3 := Lib.hid (below_of_grownB hbw.out hg6 (by omega))) | first | (go_at_call 48; first | refine rin ?_ | refine rout ?_ | refine rany ?_) | ((first | (go_at_call 64) | (go_at_call 14) | (go_at_call 39) | (go_at_call 30) | (fail) | (fail) | (fail)); first | refine rin ?_ | refine rout ?_ | refine rany ?_))
      (try simp only [Exit.inBlock, Exit.then])
      refine bodyPost_ret (results_mid2 rfl _ _ (w.heap.size + 1 + 1) [.int .i64 0, .int .i64 0, .bool false, .int .i64 0, .int .i64 0, .bool false, .int .i64 0, .int .i64 0, .bool false, .int .i64 0, .int .i64 0, .slice none 0 0, .int .i64 0, .int .i64 0, .int .i64 0, .int .i64 0, .int .i64 0, .int .i64 0] _ rfl h6.range Tryd.underlying75 rfl stSize) rfl ⟨by rw [hfin.out]; rfl, hb3.out⟩
  · have hfin : Hid (Cal.onE p n day = E) := by show _ = _; unfold Cal.onE; rw [if_neg (by rw [hc]; exact h0), hc]
    have h1 : (E != 0) = true := by simpa using h0
    clear hE hc h0
    obtain ⟨h1, h2, h3, hb⟩ := start3 w A c p N d n
    have c0 := h2.out.c 0 _ rfl
    have c1 := h2.out.c 1 _ rfl
    have c2 := h2.out.c 2 _ rfl
    go_enter Tryd.func44, Tryd.ntmps44
    go_wp2_with (refine wpPr h1.out (.tmp 3) rfl ?_)
    refine (CheckNotice_any A c p N d n _ (hN.out.below hb.out)).mono ?_
    rintro e w1 ⟨he, hb1⟩
    rw [hC.out] at he
    subst he
    clear c0 c1 c2
    have g1 := Lib.hid (h1.out.below hb1)
    have g2 := Lib.hid (h2.out.below hb1)
    have g3 := Lib.hid (h3.out.below hb1)
    have hbw := Lib.hid (below_step hb.out hb1)
    clear hb1 h1 h2 h3 hb
    go_wp2_with (first | ((refine wpList_store_box rfl 75 (.tmp 6) (.tmp 21) rfl (w.heap.size + 1 + 1) _ [.int .i64 0, .int .i64 0, .bool false, .int .i64 0, .int .i64 0, .bool false, .int .i64 0, .int .i64 0, .bool false, .int .i64 0, .int .i64 0, .slice none 0 0, .int .i64 0, .int .i64 0, .int .i64 0, .int .i64 0, .int .i64 0, .int .i64 0] (by rfl) (by rfl) g3.out rfl stSize (by kernel_rfl) ?_; intro w3 h6 hg6); have hb3 := Lib.hid (below_of_grownB hbw.out hg6 (by omega))) | first | (go_at_call 48; first | refine rin ?_ | refine rout ?_ | refine rany ?_) | ((first | (go_at_call 64) | (go_at_call 14) | (go_at_call 39) | (go_at_call 30) | (fail) | (fail) | (fail)); first | refine rin ?_ | refine rout ?_ | refine rany ?_))
    (try simp only [Exit.inBlock, Exit.then])
    refine bodyPost_ret (results_mid2 rfl _ _ (w.heap.size + 1 + 1) [.int .i64 0, .int .i64 0, .bool false, .int .i64 0, .int .i64 0, .bool false, .int .i64 0, .int .i64 0, .bool false, .int .i64 0, .int .i64 0, .slice none 0 0, .int .i64 0, .int .i64 0, .int .i64 0, .int .i64 0, .int .i64 0, .int .i64 0] _ rfl h6.range Tryd.underlying75 rfl stSize) rfl ⟨by rw [hfin.out]; rfl, hb3.out⟩
set_option maxRecDepth 100000 in
set_option maxHeartbeats 4000000 in
theorem on_ok (A : Option Addr) (c : Nat) (p : Proc) (N : Option Addr) (d : Nat) (n : Note) (day : Int) (w : World) (hN : NB w A p N n) (hE : Cal.onE p n day = 0) :
    Calls Tryd.prog 44 #[.agg #[.int .i64 p.runs.m, .int .i64 p.runs.d, .bool p.runs.k, .int .i64 p.obj.m, .int .i64 p.obj.d, .bool p.obj.k, .int .i64 p.wait.m, .int .i64 p.wait.d, .bool p.wait.k, .int .i64 p.exts, .int .i64 p.longest, .slice A p.hols.length c], .agg #[.string n.name, .int .i64 n.opened, .slice N n.acts.length d], .int .i64 day] w (StPost w A c p (Cal.stAt p n day)) := by
  have hN := Lib.hid hN
  obtain ⟨hc2, d0, d1, d2⟩ := Cal.onE_ok hE
  obtain ⟨hp, _, o0, o1, _, hrun⟩ := Cal.checkS_ok hc2
  obtain ⟨_, _, _, _, x1, _, x2, _⟩ := Cal.procErr_ok hp
  have hfol := fun w1 (h : NB w1 A p N n) => follow_any A c p N d n day w1 h.hols h.tab h.acts x1 x2 o0 o1
  rw [Cal.folS_at hrun] at hfol
  obtain ⟨s, hs⟩ : ∃ s, Cal.stAt p n day = s := ⟨_, rfl⟩
  have hs2 : Cal.atS p day n.acts (Cal.openSt n.opened) = s := hs
  rw [hs2] at hfol
  rw [hs]
  have hfol := Lib.hid hfol
  rcases hc : Cal.checkS p n with ⟨i, E⟩
  rw [hc] at hc2
  have hc2 : E = 0 := hc2
  subst hc2
  have hC := Lib.hid hc
  clear hc hE hp hrun hs2 hs
  obtain ⟨h1, h2, h3, hb⟩ := start3 w A c p N d n
  have c0 := h2.out.c 0 _ rfl
  have c1 := h2.out.c 1 _ rfl
  have c2 := h2.out.c 2 _ rfl
  go_enter Tryd.func44, Tryd.ntmps44
  go_wp2_with (refine wpPr h1.out (.tmp 3) rfl ?_)
  refine (CheckNotice_any A c p N d n _ (hN.out.below hb.out)).mono ?_
  rintro e w1 ⟨he, hb1⟩
  rw [hC.out] at he
  subst he
  clear c0 c1 c2
  have g1 := Lib.hid (h1.out.below hb1)
  have g2 := Lib.hid (h2.out.below hb1)
  have g3 := Lib.hid (h3.out.below hb1)
  have hbw := Lib.hid (below_step hb.out hb1)
  clear hb1 h1 h2 h3 hb
  have c0 := g2.out.c 0 _ rfl
  have c1 := g2.out.c 1 _ rfl
  have c2 := g2.out.c 2 _ rfl
  go_wp2_with (first | first | (go_at_call 48; first | refine rin ?_ | refine rout ?_ | refine rany ?_) | ((first | (go_at_call 64) | (go_at_call 14) | (go_at_call 39) | (go_at_call 30) | (fail) | (fail) | (fail)); first | refine rin ?_ | refine rout ?_ | refine rany ?_) | (refine wpPr g1.out (.tmp 3) rfl ?_))
  clear c0 c1 c2
  refine (hfol.out _ (hN.out.below hbw.out)).mono ?_
  rintro e w2 ⟨he, hb2⟩
  subst he
  have hbw2 := Lib.hid (below_step hbw.out hb2)
  have k3 := Lib.hid (g3.out.below hb2)
  have hz := (g3.out.below hb2).lt
  have hN10 := Lib.hid (BoxAt.new w2 #[.int .i64 0, .int .i64 0, .bool false, .int .i64 0, .int .i64 0, .bool false, .int .i64 0, .int .i64 0, .bool false, .int .i64 0, .int .i64 0, .slice none 0 0, .int .i64 0, .int .i64 0, .int .i64 0, .int .i64 0, .int .i64 0, .int .i64 0] 75)
  clear hb2
  go_wp2_with (first
    | ((refine wpList_store_box rfl 75 (.tmp 10) (.tmp 39) rfl (w2.heap.size) _ [.int .i64 p.runs.m, .int .i64 p.runs.d, .bool p.runs.k, .int .i64 p.obj.m, .int .i64 p.obj.d, .bool p.obj.k, .int .i64 p.wait.m, .int .i64 p.wait.d, .bool p.wait.k, .int .i64 p.exts, .int .i64 p.longest, .slice A p.hols.length c, .int .i64 s.phase, .int .i64 s.last, .int .i64 s.deadline, .int .i64 s.object, .int .i64 s.objected, .int .i64 s.extended] (by rfl) (by rfl) hN10.out rfl stSize (by kernel_rfl) ?_; intro w3 h10 hg10); have hb23 := below_of_grownB (below_alloc w2 _) hg10 (Nat.le_refl _); have hbw3 := Lib.hid (below_step hbw2.out hb23); have k3' := Lib.hid (k3.out.below hb23); clear hb23)
    | (refine wpList_load_mid rfl 75 (.tmp 10) rfl w2.heap.size 0 rfl [.int .i64 p.runs.m, .int .i64 p.runs.d, .bool p.runs.k, .int .i64 p.obj.m, .int .i64 p.obj.d, .bool p.obj.k, .int .i64 p.wait.m, .int .i64 p.wait.d, .bool p.wait.k, .int .i64 p.exts, .int .i64 p.longest, .slice A p.hols.length c, .int .i64 s.phase, .int .i64 s.last, .int .i64 s.deadline, .int .i64 s.object, .int .i64 s.objected, .int .i64 s.extended] _ h10.range Tryd.underlying75 rfl stSize ?_)
    | ((refine wpList_store_box rfl 75 (.tmp 6) (.tmp 42) rfl (w.heap.size + 1 + 1) _ [.int .i64 p.runs.m, .int .i64 p.runs.d, .bool p.runs.k, .int .i64 p.obj.m, .int .i64 p.obj.d, .bool p.obj.k, .int .i64 p.wait.m, .int .i64 p.wait.d, .bool p.wait.k, .int .i64 p.exts, .int .i64 p.longest, .slice A p.hols.length c, .int .i64 s.phase, .int .i64 s.last, .int .i64 s.deadline, .int .i64 s.object, .int .i64 s.objected, .int .i64 s.extended] (by rfl) (by rfl) k3'.out rfl stSize (by kernel_rfl) ?_; intro w4 h6 hg6); have hb4 := Lib.hid (below_of_grownB hbw3.out hg6 (by omega))))
  (try simp only [Exit.inBlock, Exit.then])
  refine bodyPost_ret (results_mid2 rfl _ _ (w.heap.size + 1 + 1) [.int .i64 p.runs.m, .int .i64 p.runs.d, .bool p.runs.k, .int .i64 p.obj.m, .int .i64 p.obj.d, .bool p.obj.k, .int .i64 p.wait.m, .int .i64 p.wait.d, .bool p.wait.k, .int .i64 p.exts, .int .i64 p.longest, .slice A p.hols.length c, .int .i64 s.phase, .int .i64 s.last, .int .i64 s.deadline, .int .i64 s.object, .int .i64 s.objected, .int .i64 s.extended] _ rfl h6.range Tryd.underlying75 rfl stSize) rfl ⟨by rfl, hb4.out⟩
end Go.Proofs.YtconnjkkgaapbaaDoor
namespace Go.Proofs.YtconnjkkgaapbaaDoor
open Go Go.RowKit
/-- The error of a visit. -/
def Cal.visErr (v : Vis) : Int :=
  if (0 ≤ v.day ∧ v.day ≤ 200000) ∧ (0 ≤ v.kind ∧ v.kind ≤ 2) ∧ (0 ≤ v.tilt ∧ v.tilt ≤ 1000) ∧ (0 ≤ v.push ∧ v.push ≤ 5000) then (if v.kind ≠ 0 ∧ (v.tilt ≠ 0 ∨ v.push ≠ 0) then 3 else 0) else 2
set_option maxRecDepth 100000 in
set_option maxHeartbeats 4000000 in
theorem checkVisit_any (v : Vis) (w : World) : Calls Tryd.prog 25 #[.agg #[.int .i64 v.day, .int .i64 v.kind, .int .i64 v.tilt, .int .i64 v.push]] w fun e w' => e = .returned (.int .i64 (Cal.visErr v)) ∧ Below w.heap.size w w' := by
  by_cases h1 : 0 ≤ v.day ∧ v.day ≤ 200000
  · by_cases h2 : 0 ≤ v.kind ∧ v.kind ≤ 2
    · by_cases h3 : 0 ≤ v.tilt ∧ v.tilt ≤ 1000
      · by_cases h4 : 0 ≤ v.push ∧ v.push ≤ 5000
        · by_cases hk : v.kind = 0
          · have hfin : Hid (Cal.visErr v = 0) := by show _ = _; unfold Cal.visErr; rw [if_pos ⟨h1, h2, h3, h4⟩, if_neg (fun h => h.1 hk)]
            have kb : (v.kind != 0) = false := by simpa using hk
            obtain ⟨a0, a1⟩ := h1
            obtain ⟨b0, b1⟩ := h2
            obtain ⟨c0, c1⟩ := h3
            obtain ⟨d0, d1⟩ := h4
            clear hk
            go_enter Tryd.func25, Tryd.ntmps25
            go_wp2_with (first | (go_at_call 48; first | refine rin ?_ | refine rout ?_ | refine rany ?_) | ((first | (go_at_call 64) | (go_at_call 14) | (go_at_call 39) | (go_at_call 30) | (fail) | (fail) | (fail)); first | refine rin ?_ | refine rout ?_ | refine rany ?_))
            go_ret
            exact ⟨ret_int hfin.out.symm, by exact blw⟩
          · have kb : (v.kind != 0) = true := by simpa using hk
            by_cases ht : v.tilt = 0
            · have tb : (v.tilt != 0) = false := by simpa using ht
              by_cases hp : v.push = 0
              · have hfin : Hid (Cal.visErr v = 0) := by show _ = _; unfold Cal.visErr; rw [if_pos ⟨h1, h2, h3, h4⟩, if_neg (fun h => h.2.elim (fun h => h ht) (fun h => h hp))]
                have pb : (v.push != 0) = false := by simpa using hp
                obtain ⟨a0, a1⟩ := h1
                obtain ⟨b0, b1⟩ := h2
                obtain ⟨c0, c1⟩ := h3
                obtain ⟨d0, d1⟩ := h4
                clear hk ht hp
                go_enter Tryd.func25, Tryd.ntmps25
                go_wp2_with (first | (go_at_call 48; first | refine rin ?_ | refine rout ?_ | refine rany ?_) | ((first | (go_at_call 64) | (go_at_call 14) | (go_at_call 39) | (go_at_call 30) | (fail) | (fail) | (fail)); first | refine rin ?_ | refine rout ?_ | refine rany ?_))
                go_ret
                exact ⟨ret_int hfin.out.symm, by exact blw⟩
              · have hfin : Hid (Cal.visErr v = 3) := by show _ = _; unfold Cal.visErr; rw [if_pos ⟨h1, h2, h3, h4⟩, if_pos ⟨hk, .inr hp⟩]
                have pb : (v.push != 0) = true := by simpa using hp
                obtain ⟨a0, a1⟩ := h1
                obtain ⟨b0, b1⟩ := h2
                obtain ⟨c0, c1⟩ := h3
                obtain ⟨d0, d1⟩ := h4
                clear hk ht hp
                go_enter Tryd.func25, Tryd.ntmps25
                go_wp2_with (first | (go_at_call 48; first | refine rin ?_ | refine rout ?_ | refine rany ?_) | ((first | (go_at_call 64) | (go_at_call 14) | (go_at_call 39) | (go_at_call 30) | (fail) | (fail) | (fail)); first | refine rin ?_ | refine rout ?_ | refine rany ?_))
                go_ret
                exact ⟨ret_int hfin.out.symm, by exact blw⟩
            · have hfin : Hid (Cal.visErr v = 3) := by show _ = _; unfold Cal.visErr; rw [if_pos ⟨h1, h2, h3, h4⟩, if_pos ⟨hk, .inl ht⟩]
              have tb : (v.tilt != 0) = true := by simpa using ht
              obtain ⟨a0, a1⟩ := h1
              obtain ⟨b0, b1⟩ := h2
              obtain ⟨c0, c1⟩ := h3
              obtain ⟨d0, d1⟩ := h4
              clear hk ht
              go_enter Tryd.func25, Tryd.ntmps25
              go_wp2_with (first | (go_at_call 48; first | refine rin ?_ | refine rout ?_ | refine rany ?_) | ((first | (go_at_call 64) | (go_at_call 14) | (go_at_call 39) | (go_at_call 30) | (fail) | (fail) | (fail)); first | refine rin ?_ | refine rout ?_ | refine rany ?_))
              go_ret
              exact ⟨ret_int hfin.out.symm, by exact blw⟩
        · have hfin : Hid (Cal.visErr v = 2) := by show _ = _; unfold Cal.visErr; rw [if_neg (fun h => h4 h.2.2.2)]
          obtain ⟨a0, a1⟩ := h1
          obtain ⟨b0, b1⟩ := h2
          obtain ⟨c0, c1⟩ := h3
          have h4' : v.push < 0 ∨ 5000 < v.push := by omega
          clear h4
          go_enter Tryd.func25, Tryd.ntmps25
          go_wp2_with (first | (go_at_call 48; first | refine rin ?_ | refine rout ?_ | refine rany ?_) | ((first | (go_at_call 64) | (go_at_call 14) | (go_at_call 39) | (go_at_call 30) | (fail) | (fail) | (fail)); first | refine rin ?_ | refine rout ?_ | refine rany ?_))
          go_ret
          exact ⟨ret_int hfin.out.symm, by exact blw⟩
      · have hfin : Hid (Cal.visErr v = 2) := by show _ = _; unfold Cal.visErr; rw [if_neg (fun h => h3 h.2.2.1)]
        obtain ⟨a0, a1⟩ := h1
        obtain ⟨b0, b1⟩ := h2
        have h3' : v.tilt < 0 ∨ 1000 < v.tilt := by omega
        clear h3
        go_enter Tryd.func25, Tryd.ntmps25
        go_wp2_with (first | (go_at_call 48; first | refine rin ?_ | refine rout ?_ | refine rany ?_) | ((first | (go_at_call 64) | (go_at_call 14) | (go_at_call 39) | (go_at_call 30) | (fail) | (fail) | (fail)); first | refine rin ?_ | refine rout ?_ | refine rany ?_))
        go_ret
        exact ⟨ret_int hfin.out.symm, by exact blw⟩
    · have hfin : Hid (Cal.visErr v = 2) := by show _ = _; unfold Cal.visErr; rw [if_neg (fun h => h2 h.2.1)]
      obtain ⟨a0, a1⟩ := h1
      have h2' : v.kind < 0 ∨ 2 < v.kind := by omega
      clear h2
      go_enter Tryd.func25, Tryd.ntmps25
      go_wp2_with (first | (go_at_call 48; first | refine rin ?_ | refine rout ?_ | refine rany ?_) | ((first | (go_at_call 64) | (go_at_call 14) | (go_at_call 39) | (go_at_call 30) | (fail) | (fail) | (fail)); first | refine rin ?_ | refine rout ?_ | refine rany ?_))
      go_ret
      exact ⟨ret_int hfin.out.symm, by exact blw⟩
  · have hfin : Hid (Cal.visErr v = 2) := by show _ = _; unfold Cal.visErr; rw [if_neg (fun h => h1 h.1)]
    have h1' : v.day < 0 ∨ 200000 < v.day := by omega
    clear h1
    go_enter Tryd.func25, Tryd.ntmps25
    go_wp2_with (first | (go_at_call 48; first | refine rin ?_ | refine rout ?_ | refine rany ?_) | ((first | (go_at_call 64) | (go_at_call 14) | (go_at_call 39) | (go_at_call 30) | (fail) | (fail) | (fail)); first | refine rin ?_ | refine rout ?_ | refine rany ?_))
    go_ret
    exact ⟨ret_int hfin.out.symm, by exact blw⟩
/-- The grade behind a visit. -/
def Cal.gradeS (g : Grad) (v : Vis) : Int :=
  if v.kind = 0 then (if g.t2 ≤ v.tilt ∨ v.push ≤ g.p2 then 3 else if g.t1 ≤ v.tilt ∨ v.push ≤ g.p1 then 2 else if g.t0 ≤ v.tilt ∨ v.push ≤ g.p0 then 1 else 0) else 0
theorem Cal.grade_3 {g : Grad} {v : Vis} (hk : v.kind = 0) (h : g.t2 ≤ v.tilt ∨ v.push ≤ g.p2) : Cal.gradeS g v = 3 := by unfold Cal.gradeS; rw [if_pos hk, if_pos h]
theorem Cal.grade_2 {g : Grad} {v : Vis} (hk : v.kind = 0) (h3 : ¬ (g.t2 ≤ v.tilt ∨ v.push ≤ g.p2)) (h : g.t1 ≤ v.tilt ∨ v.push ≤ g.p1) : Cal.gradeS g v = 2 := by unfold Cal.gradeS; rw [if_pos hk, if_neg h3, if_pos h]
theorem Cal.grade_1 {g : Grad} {v : Vis} (hk : v.kind = 0) (h3 : ¬ (g.t2 ≤ v.tilt ∨ v.push ≤ g.p2)) (h2 : ¬ (g.t1 ≤ v.tilt ∨ v.push ≤ g.p1)) (h : g.t0 ≤ v.tilt ∨ v.push ≤ g.p0) : Cal.gradeS g v = 1 := by unfold Cal.gradeS; rw [if_pos hk, if_neg h3, if_neg h2, if_pos h]
theorem Cal.grade_0 {g : Grad} {v : Vis} (hk : v.kind = 0) (h3 : ¬ (g.t2 ≤ v.tilt ∨ v.push ≤ g.p2)) (h2 : ¬ (g.t1 ≤ v.tilt ∨ v.push ≤ g.p1)) (h : ¬ (g.t0 ≤ v.tilt ∨ v.push ≤ g.p0)) : Cal.gradeS g v = 0 := by unfold Cal.gradeS; rw [if_pos hk, if_neg h3, if_neg h2, if_neg h]
set_option maxRecDepth 100000 in
set_option maxHeartbeats 4000000 in
theorem grade_any (g : Grad) (v : Vis) (w : World) : Calls Tryd.prog 26 #[.agg #[.int .i64 g.t0, .int .i64 g.t1, .int .i64 g.t2, .int .i64 g.p0, .int .i64 g.p1, .int .i64 g.p2, .int .i64 g.m0, .int .i64 g.m1, .int .i64 g.m2, .int .i64 g.m3], .agg #[.int .i64 v.day, .int .i64 v.kind, .int .i64 v.tilt, .int .i64 v.push]] w fun e w' => e = .returned (.int .i64 (Cal.gradeS g v)) ∧ Below w.heap.size w w' := by
  by_cases hk : v.kind = 0
  · have kb : (v.kind != 0) = false := by simpa using hk
    have hkz := Lib.hid hk
    have hb : Hid (Below w.heap.size w ((w.alloc (.cells #[.int .i64 g.t0, .int .i64 g.t1, .int .i64 g.t2, .int .i64 g.p0, .int .i64 g.p1, .int .i64 g.p2, .int .i64 g.m0, .int .i64 g.m1, .int .i64 g.m2, .int .i64 g.m3] 25)).alloc (.cells #[.int .i64 v.day, .int .i64 v.kind, .int .i64 v.tilt, .int .i64 v.push] 27))) := below_step (below_alloc _ _) (below_alloc _ _)
    clear hk
    go_enter Tryd.func26, Tryd.ntmps26
    go_wp2_with fail
    go_loopw [5] (fun i wr => ∃ n : Nat, ((i = .int .i64 2) ∨ (i = .int .i64 1 ∧ Hid (¬ (g.t2 ≤ v.tilt ∨ v.push ≤ g.p2))) ∨ (i = .int .i64 0 ∧ Hid (¬ (g.t2 ≤ v.tilt ∨ v.push ≤ g.p2)) ∧ Hid (¬ (g.t1 ≤ v.tilt ∨ v.push ≤ g.p1))) ∨ (i = .int .i64 (-1) ∧ Hid (¬ (g.t2 ≤ v.tilt ∨ v.push ≤ g.p2)) ∧ Hid (¬ (g.t1 ≤ v.tilt ∨ v.push ≤ g.p1)) ∧ Hid (¬ (g.t0 ≤ v.tilt ∨ v.push ≤ g.p0)))) ∧ wr = World.drewN ((w.alloc (.cells #[.int .i64 g.t0, .int .i64 g.t1, .int .i64 g.t2, .int .i64 g.p0, .int .i64 g.p1, .int .i64 g.p2, .int .i64 g.m0, .int .i64 g.m1, .int .i64 g.m2, .int .i64 g.m3] 25)).alloc (.cells #[.int .i64 v.day, .int .i64 v.kind, .int .i64 v.tilt, .int .i64 v.push] 27)) n) (fun i _ => (intOf i + 1).toNat)
    case atStart => exact ⟨0, .inl rfl, rfl⟩
    case round =>
      obtain ⟨n, hi, rfl⟩ := hrel
      rcases hi with rfl | ⟨rfl, n3⟩ | ⟨rfl, n3, n2⟩ | ⟨rfl, n3, n2, n1⟩
      · by_cases ht : g.t2 ≤ v.tilt
        · have hfin : Hid (_ = _) := Cal.grade_3 hkz.out (.inl ht)
          have hd : decide (g.t2 ≤ v.tilt) = true := by simpa using ht
          clear ht
          go_wp2_with fail
          go_quiet (fail)
          go_wp2_with fail
          go_ret
          exact ⟨ret_int hfin.out.symm, below_drewN hb.out _⟩
        · have hd : decide (g.t2 ≤ v.tilt) = false := by simpa using ht
          by_cases hp : v.push ≤ g.p2
          · have hfin : Hid (_ = _) := Cal.grade_3 hkz.out (.inr hp)
            have hd2 : decide (v.push ≤ g.p2) = true := by simpa using hp
            clear ht hp
            go_wp2_with fail
            go_quiet (fail)
            go_wp2_with fail
            go_ret
            exact ⟨ret_int hfin.out.symm, below_drewN hb.out _⟩
          · have hno : Hid (¬ (g.t2 ≤ v.tilt ∨ v.push ≤ g.p2)) := fun h => h.elim ht hp
            have hd2 : decide (v.push ≤ g.p2) = false := by simpa using hp
            clear ht hp
            go_wp2_with fail
            go_quiet (fail)
            go_wp2_with fail
            go_roundw
            case rel => exact ⟨_, .inr (.inl ⟨rfl, hno⟩), rfl⟩
            case measure => simp [intOf]
      · by_cases ht : g.t1 ≤ v.tilt
        · have hfin : Hid (_ = _) := Cal.grade_2 hkz.out n3.out (.inl ht)
          have hd : decide (g.t1 ≤ v.tilt) = true := by simpa using ht
          clear ht
          go_wp2_with fail
          go_quiet (fail)
          go_wp2_with fail
          go_ret
          exact ⟨ret_int hfin.out.symm, below_drewN hb.out _⟩
        · have hd : decide (g.t1 ≤ v.tilt) = false := by simpa using ht
          by_cases hp : v.push ≤ g.p1
          · have hfin : Hid (_ = _) := Cal.grade_2 hkz.out n3.out (.inr hp)
            have hd2 : decide (v.push ≤ g.p1) = true := by simpa using hp
            clear ht hp
            go_wp2_with fail
            go_quiet (fail)
            go_wp2_with fail
            go_ret
            exact ⟨ret_int hfin.out.symm, below_drewN hb.out _⟩
          · have hno : Hid (¬ (g.t1 ≤ v.tilt ∨ v.push ≤ g.p1)) := fun h => h.elim ht hp
            have hd2 : decide (v.push ≤ g.p1) = false := by simpa using hp
            clear ht hp
            go_wp2_with fail
            go_quiet (fail)
            go_wp2_with fail
            go_roundw
            case rel => exact ⟨_, .inr (.inr (.inl ⟨rfl, n3, hno⟩)), rfl⟩
            case measure => simp [intOf]
      · by_cases ht : g.t0 ≤ v.tilt
        · have hfin : Hid (_ = _) := Cal.grade_1 hkz.out n3.out n2.out (.inl ht)
          have hd : decide (g.t0 ≤ v.tilt) = true := by simpa using ht
          clear ht
          go_wp2_with fail
          go_quiet (fail)
          go_wp2_with fail
          go_ret
          exact ⟨ret_int hfin.out.symm, below_drewN hb.out _⟩
        · have hd : decide (g.t0 ≤ v.tilt) = false := by simpa using ht
          by_cases hp : v.push ≤ g.p0
          · have hfin : Hid (_ = _) := Cal.grade_1 hkz.out n3.out n2.out (.inr hp)
            have hd2 : decide (v.push ≤ g.p0) = true := by simpa using hp
            clear ht hp
            go_wp2_with fail
            go_quiet (fail)
            go_wp2_with fail
            go_ret
            exact ⟨ret_int hfin.out.symm, below_drewN hb.out _⟩
          · have hno : Hid (¬ (g.t0 ≤ v.tilt ∨ v.push ≤ g.p0)) := fun h => h.elim ht hp
            have hd2 : decide (v.push ≤ g.p0) = false := by simpa using hp
            clear ht hp
            go_wp2_with fail
            go_quiet (fail)
            go_wp2_with fail
            go_roundw
            case rel => exact ⟨_, .inr (.inr (.inr ⟨rfl, n3, n2, hno⟩)), rfl⟩
            case measure => simp [intOf]
      · have hfin := Lib.hid (Cal.grade_0 hkz.out n3.out n2.out n1.out)
        go_wp2_with fail
        go_ret
        exact ⟨ret_int hfin.out.symm, below_drewN hb.out _⟩
  · have hfin : Hid (Cal.gradeS g v = 0) := by show _ = _; unfold Cal.gradeS; rw [if_neg hk]
    have kb : (v.kind != 0) = true := by simpa using hk
    clear hk
    go_enter Tryd.func26, Tryd.ntmps26
    go_wp2_with fail
    go_ret
    exact ⟨ret_int hfin.out.symm, by exact blw⟩
theorem grSize : (Tryd.prog.info? 25).map (·.size) = some 10 := by kernel_rfl
/-- GradeOf: the grade and the error. -/
def Cal.gradeOfS (g : Grad) (v : Vis) : Int × Int :=
  if Cal.gradErr g = 0 then (if Cal.visErr v = 0 then (if v.kind = 0 then (Cal.gradeS g v, 0) else (0, 15)) else (0, Cal.visErr v)) else (0, Cal.gradErr g)
theorem startgv (w : World) (g : Grad) (v : Vis) : Hid (BoxAt ((w.alloc (.cells #[.int .i64 g.t0, .int .i64 g.t1, .int .i64 g.t2, .int .i64 g.p0, .int .i64 g.p1, .int .i64 g.p2, .int .i64 g.m0, .int .i64 g.m1, .int .i64 g.m2, .int .i64 g.m3] 25)).alloc (.cells #[.int .i64 v.day, .int .i64 v.kind, .int .i64 v.tilt, .int .i64 v.push] 27)) w.heap.size [.int .i64 g.t0, .int .i64 g.t1, .int .i64 g.t2, .int .i64 g.p0, .int .i64 g.p1, .int .i64 g.p2, .int .i64 g.m0, .int .i64 g.m1, .int .i64 g.m2, .int .i64 g.m3]) ∧ Hid (BoxAt ((w.alloc (.cells #[.int .i64 g.t0, .int .i64 g.t1, .int .i64 g.t2, .int .i64 g.p0, .int .i64 g.p1, .int .i64 g.p2, .int .i64 g.m0, .int .i64 g.m1, .int .i64 g.m2, .int .i64 g.m3] 25)).alloc (.cells #[.int .i64 v.day, .int .i64 v.kind, .int .i64 v.tilt, .int .i64 v.push] 27)) (w.heap.size + 1) [.int .i64 v.day, .int .i64 v.kind, .int .i64 v.tilt, .int .i64 v.push]) ∧ Hid (Below w.heap.size w ((w.alloc (.cells #[.int .i64 g.t0, .int .i64 g.t1, .int .i64 g.t2, .int .i64 g.p0, .int .i64 g.p1, .int .i64 g.p2, .int .i64 g.m0, .int .i64 g.m1, .int .i64 g.m2, .int .i64 g.m3] 25)).alloc (.cells #[.int .i64 v.day, .int .i64 v.kind, .int .i64 v.tilt, .int .i64 v.push] 27))) := by
  have h := BoxAt.new (w.alloc (.cells #[.int .i64 g.t0, .int .i64 g.t1, .int .i64 g.t2, .int .i64 g.p0, .int .i64 g.p1, .int .i64 g.p2, .int .i64 g.m0, .int .i64 g.m1, .int .i64 g.m2, .int .i64 g.m3] 25)) #[.int .i64 v.day, .int .i64 v.kind, .int .i64 v.tilt, .int .i64 v.push] 27
  rw [World.size_alloc] at h
  exact ⟨(BoxAt.new w _ _).alloc _, h, below_step (below_alloc _ _) (below_alloc _ _)⟩
set_option maxRecDepth 100000 in
set_option maxHeartbeats 4000000 in
theorem GradeOf_any (g : Grad) (v : Vis) (w : World) : Calls Tryd.prog 7 #[.agg #[.int .i64 g.t0, .int .i64 g.t1, .int .i64 g.t2, .int .i64 g.p0, .int .i64 g.p1, .int .i64 g.p2, .int .i64 g.m0, .int .i64 g.m1, .int .i64 g.m2, .int .i64 g.m3], .agg #[.int .i64 v.day, .int .i64 v.kind, .int .i64 v.tilt, .int .i64 v.push]] w (IEPost w (Cal.gradeOfS g v)) := by
  obtain ⟨E, hge⟩ : ∃ E, Cal.gradErr g = E := ⟨_, rfl⟩
  by_cases h0 : E = 0
  · subst h0
    obtain ⟨F, hve⟩ : ∃ F, Cal.visErr v = F := ⟨_, rfl⟩
    by_cases h1 : F = 0
    · subst h1
      by_cases hk : v.kind = 0
      · have hfin : Hid (Cal.gradeOfS g v = (Cal.gradeS g v, 0)) := by show _ = _; unfold Cal.gradeOfS; rw [if_pos hge, if_pos hve, if_pos hk]
        have kb : (v.kind != 0) = false := by simpa using hk
        have hge := Lib.hid hge
        have hve := Lib.hid hve
        clear hk
        obtain ⟨h1, h2, hb⟩ := startgv w g v
        go_enter Tryd.func7, Tryd.ntmps7
        go_wp2_with (refine wpList_load_mid rfl 25 (.tmp 2) rfl (w.heap.size) 0 rfl [.int .i64 g.t0, .int .i64 g.t1, .int .i64 g.t2, .int .i64 g.p0, .int .i64 g.p1, .int .i64 g.p2, .int .i64 g.m0, .int .i64 g.m1, .int .i64 g.m2, .int .i64 g.m3] _ h1.out.range Tryd.underlying25 rfl grSize ?_)
        refine (CheckGrading_any g _).mono ?_
        rintro e w1 ⟨rfl, hb1⟩
        rw [hge.out]
        have k1 := Lib.hid (h1.out.below hb1)
        have k2 := Lib.hid (h2.out.below hb1)
        have hbw := Lib.hid (below_step hb.out hb1)
        clear hb1 h1 h2 hb
        have v0 := k2.out.c 0 _ rfl
        have v1 := k2.out.c 1 _ rfl
        have v2 := k2.out.c 2 _ rfl
        have v3 := k2.out.c 3 _ rfl
        go_wp2_with fail
        refine (checkVisit_any v _).mono ?_
        rintro e w2 ⟨rfl, hb2⟩
        rw [hve.out]
        have l1 := Lib.hid (k1.out.below hb2)
        have l2 := Lib.hid (k2.out.below hb2)
        have hbw2 := Lib.hid (below_step hbw.out hb2)
        clear hb2 k1 k2 v0 v1 v2 v3
        have v0 := l2.out.c 0 _ rfl
        have v1 := l2.out.c 1 _ rfl
        have v2 := l2.out.c 2 _ rfl
        have v3 := l2.out.c 3 _ rfl
        go_wp2_with (refine wpList_load_mid rfl 25 (.tmp 2) rfl (w.heap.size) 0 rfl [.int .i64 g.t0, .int .i64 g.t1, .int .i64 g.t2, .int .i64 g.p0, .int .i64 g.p1, .int .i64 g.p2, .int .i64 g.m0, .int .i64 g.m1, .int .i64 g.m2, .int .i64 g.m3] _ l1.out.range Tryd.underlying25 rfl grSize ?_)
        refine (grade_any g v _).mono ?_
        rintro e w3 ⟨rfl, hb3⟩
        have hbw3 := Lib.hid (below_step hbw2.out hb3)
        clear hb3
        go_wp2_with fail
        go_ret2
        exact ⟨by rw [hfin.out]; first | done | rfl, hbw3.out⟩
      · have hfin : Hid (Cal.gradeOfS g v = (0, 15)) := by show _ = _; unfold Cal.gradeOfS; rw [if_pos hge, if_pos hve, if_neg hk]
        have kb : (v.kind != 0) = true := by simpa using hk
        have hge := Lib.hid hge
        have hve := Lib.hid hve
        clear hk
        obtain ⟨h1, h2, hb⟩ := startgv w g v
        go_enter Tryd.func7, Tryd.ntmps7
        go_wp2_with (refine wpList_load_mid rfl 25 (.tmp 2) rfl (w.heap.size) 0 rfl [.int .i64 g.t0, .int .i64 g.t1, .int .i64 g.t2, .int .i64 g.p0, .int .i64 g.p1, .int .i64 g.p2, .int .i64 g.m0, .int .i64 g.m1, .int .i64 g.m2, .int .i64 g.m3] _ h1.out.range Tryd.underlying25 rfl grSize ?_)
        refine (CheckGrading_any g _).mono ?_
        rintro e w1 ⟨rfl, hb1⟩
        rw [hge.out]
        have k1 := Lib.hid (h1.out.below hb1)
        have k2 := Lib.hid (h2.out.below hb1)
        have hbw := Lib.hid (below_step hb.out hb1)
        clear hb1 h1 h2 hb
        have v0 := k2.out.c 0 _ rfl
        have v1 := k2.out.c 1 _ rfl
        have v2 := k2.out.c 2 _ rfl
        have v3 := k2.out.c 3 _ rfl
        go_wp2_with fail
        refine (checkVisit_any v _).mono ?_
        rintro e w2 ⟨rfl, hb2⟩
        rw [hve.out]
        have l1 := Lib.hid (k1.out.below hb2)
        have l2 := Lib.hid (k2.out.below hb2)
        have hbw2 := Lib.hid (below_step hbw.out hb2)
        clear hb2 k1 k2 v0 v1 v2 v3
        have v0 := l2.out.c 0 _ rfl
        have v1 := l2.out.c 1 _ rfl
        have v2 := l2.out.c 2 _ rfl
        have v3 := l2.out.c 3 _ rfl
        go_wp2_with (refine wpList_load_mid rfl 25 (.tmp 2) rfl (w.heap.size) 0 rfl [.int .i64 g.t0, .int .i64 g.t1, .int .i64 g.t2, .int .i64 g.p0, .int .i64 g.p1, .int .i64 g.p2, .int .i64 g.m0, .int .i64 g.m1, .int .i64 g.m2, .int .i64 g.m3] _ l1.out.range Tryd.underlying25 rfl grSize ?_)
        go_ret2
        exact ⟨by rw [hfin.out]; first | done | rfl, hbw2.out⟩
    · have hfin : Hid (Cal.gradeOfS g v = (0, F)) := by show _ = _; unfold Cal.gradeOfS; rw [if_pos hge, if_neg (by rw [hve]; exact h1), hve]
      have fb : (F != 0) = true := by simpa using h1
      have hge := Lib.hid hge
      have hve := Lib.hid hve
      clear h1
      obtain ⟨h1, h2, hb⟩ := startgv w g v
      go_enter Tryd.func7, Tryd.ntmps7
      go_wp2_with (refine wpList_load_mid rfl 25 (.tmp 2) rfl (w.heap.size) 0 rfl [.int .i64 g.t0, .int .i64 g.t1, .int .i64 g.t2, .int .i64 g.p0, .int .i64 g.p1, .int .i64 g.p2, .int .i64 g.m0, .int .i64 g.m1, .int .i64 g.m2, .int .i64 g.m3] _ h1.out.range Tryd.underlying25 rfl grSize ?_)
      refine (CheckGrading_any g _).mono ?_
      rintro e w1 ⟨rfl, hb1⟩
      rw [hge.out]
      have k1 := Lib.hid (h1.out.below hb1)
      have k2 := Lib.hid (h2.out.below hb1)
      have hbw := Lib.hid (below_step hb.out hb1)
      clear hb1 h1 h2 hb
      have v0 := k2.out.c 0 _ rfl
      have v1 := k2.out.c 1 _ rfl
      have v2 := k2.out.c 2 _ rfl
      have v3 := k2.out.c 3 _ rfl
      go_wp2_with fail
      refine (checkVisit_any v _).mono ?_
      rintro e w2 ⟨rfl, hb2⟩
      rw [hve.out]
      have hbw2 := Lib.hid (below_step hbw.out hb2)
      clear hb2
      go_wp2_with fail
      go_ret2
      exact ⟨by rw [hfin.out]; first | done | rfl, hbw2.out⟩
  · have hfin : Hid (Cal.gradeOfS g v = (0, E)) := by show _ = _; unfold Cal.gradeOfS; rw [if_neg (by rw [hge]; exact h0), hge]
    have fb : (E != 0) = true := by simpa using h0
    have hge := Lib.hid hge
    clear h0
    obtain ⟨h1, h2, hb⟩ := startgv w g v
    go_enter Tryd.func7, Tryd.ntmps7
    go_wp2_with (refine wpList_load_mid rfl 25 (.tmp 2) rfl (w.heap.size) 0 rfl [.int .i64 g.t0, .int .i64 g.t1, .int .i64 g.t2, .int .i64 g.p0, .int .i64 g.p1, .int .i64 g.p2, .int .i64 g.m0, .int .i64 g.m1, .int .i64 g.m2, .int .i64 g.m3] _ h1.out.range Tryd.underlying25 rfl grSize ?_)
    refine (CheckGrading_any g _).mono ?_
    rintro e w1 ⟨rfl, hb1⟩
    rw [hge.out]
    have k1 := Lib.hid (h1.out.below hb1)
    have k2 := Lib.hid (h2.out.below hb1)
    have hbw := Lib.hid (below_step hb.out hb1)
    clear hb1 h1 h2 hb
    have v0 := k2.out.c 0 _ rfl
    have v1 := k2.out.c 1 _ rfl
    have v2 := k2.out.c 2 _ rfl
    have v3 := k2.out.c 3 _ rfl
    go_wp2_with fail
    go_ret2
    exact ⟨by rw [hfin.out]; first | done | rfl, hbw.out⟩
end Go.Proofs.YtconnjkkgaapbaaDoor
