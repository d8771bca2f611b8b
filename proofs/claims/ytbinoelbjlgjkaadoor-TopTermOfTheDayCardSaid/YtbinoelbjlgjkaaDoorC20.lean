/- Chapter 8 and what it rests on: definitions and walks, part 20. -/
import Derived.Test.YtbinoelbjlgjkaaDoorC05
import Derived.Test.YtbinoelbjlgjkaaDoorC19
import Derived.Test.YtbinoelbjlgjkaaDoorC09
namespace Go.Proofs.YtbinoelbjlgjkaaDoor
open Go Go.RowKit
theorem Cal.addFrom_ge {l : List Hol} : ∀ (f : Nat) (d left x : Int), Cal.addFrom l 1 f d left = some x → d ≤ x ∧ Cal.worksB l x = true
  | 0, _, _, _, h => by cases h
  | f + 1, d, left, x, h => by
    unfold Cal.addFrom at h
    split at h
    · split at h
      · rename_i hw
        split at h
        · cases h; exact ⟨Int.le_refl _, hw⟩
        · have := Cal.addFrom_ge f _ _ _ h; exact ⟨by omega, this.2⟩
      · have := Cal.addFrom_ge f _ _ _ h; exact ⟨by omega, this.2⟩
    · cases h
theorem Cal.addW_ge {l : List Hol} {day n x : Int} (n0 : 0 ≤ n) (h : Cal.addW l day n = some x) : day ≤ x ∧ Cal.worksB l x = true := by
  unfold Cal.addW at h
  split at h
  · exact Cal.addFrom_ge _ _ _ _ h
  · rw [if_neg (by omega)] at h
    have := Cal.addFrom_ge _ _ _ _ h; exact ⟨by omega, this.2⟩
theorem Cal.laterS_ge {day m : Int} (d0 : 0 ≤ day) (d1 : day ≤ 200000) (m0 : 0 ≤ m) (h : (Cal.laterS day m).2 = true) : day ≤ (Cal.laterS day m).1 := by
  rw [Cal.laterS_eq] at h ⊢
  split
  · have := Cal.mval_mono (Cal.dD_pos d0 d1) (show Cal.idx day ≤ Cal.idx day + m by omega)
    rw [Cal.mval_idx d0 d1] at this
    exact this
  · rename_i hn; rw [if_neg hn] at h; cases h
theorem Cal.dlFrom_ge {l : List Hol} {day m d x : Int} {k : Bool} (d0 : 0 ≤ day) (d1 : day ≤ 200000) (m0 : 0 ≤ m) (q0 : 0 ≤ d) (h : Cal.dlFrom l day m d k = some x) : day ≤ x ∧ Cal.worksB l x = true := by
  unfold Cal.dlFrom at h
  split at h
  · rename_i hl
    have := Cal.laterS_ge d0 d1 m0 hl
    split at h
    · have := Cal.addW_ge q0 h; exact ⟨by omega, this.2⟩
    · split at h
      · have := Cal.addW_ge (Int.le_refl 0) h; exact ⟨by omega, this.2⟩
      · cases h
  · cases h
theorem Cal.dlS_ok {l : List Hol} {day m d : Int} {k : Bool} (h : (Cal.dlS l day m d k).2 = 0) : Cal.holsErr l = 0 ∧ 0 ≤ day ∧ day ≤ 200000 ∧ Cal.perE m d k = 0 ∧ Cal.dlFrom l day m d k = some (Cal.dlS l day m d k).1 := by
  by_cases h0 : Cal.holsErr l = 0
  · by_cases hd : 0 ≤ day ∧ day ≤ 200000
    · by_cases hp : Cal.perE m d k = 0
      · cases hx : Cal.dlFrom l day m d k with
        | none => unfold Cal.dlS at h; rw [if_pos h0, if_pos hd, if_pos hp, hx] at h; simp at h
        | some x => exact ⟨h0, hd.1, hd.2, hp, by unfold Cal.dlS; rw [if_pos h0, if_pos hd, if_pos hp, hx]⟩
      · unfold Cal.dlS at h; rw [if_pos h0, if_pos hd, if_neg hp] at h; exact absurd h hp
    · unfold Cal.dlS at h; rw [if_pos h0, if_neg hd] at h; simp at h
  · unfold Cal.dlS at h; rw [if_neg h0] at h; exact absurd h h0
theorem Cal.dlS_ge {l : List Hol} {day m d : Int} {k : Bool} (h : (Cal.dlS l day m d k).2 = 0) : day ≤ (Cal.dlS l day m d k).1 ∧ Cal.worksB l (Cal.dlS l day m d k).1 = true := by
  obtain ⟨_, d0, d1, hp, hx⟩ := Cal.dlS_ok h
  obtain ⟨m0, _, q0, _, _⟩ := Cal.perE_ok hp
  exact Cal.dlFrom_ge d0 d1 m0 q0 hx
theorem Cal.addWorkingS_ok {l : List Hol} {day n : Int} (h : (Cal.addWorkingS l day n).2 = 0) : Cal.holsErr l = 0 ∧ 0 ≤ day ∧ day ≤ 200000 ∧ Cal.addW l day n = some (Cal.addWorkingS l day n).1 := by
  by_cases h0 : Cal.holsErr l = 0
  · by_cases hd : 0 ≤ day ∧ day ≤ 200000 ∧ -2000 ≤ n ∧ n ≤ 2000
    · cases hx : Cal.addW l day n with
      | none => unfold Cal.addWorkingS at h; rw [if_pos h0, if_pos hd, hx] at h; simp at h
      | some x => exact ⟨h0, hd.1, hd.2.1, by unfold Cal.addWorkingS; rw [if_pos h0, if_pos hd, hx]⟩
    · unfold Cal.addWorkingS at h; rw [if_pos h0, if_neg hd] at h; simp at h
  · unfold Cal.addWorkingS at h; rw [if_neg h0] at h; exact absurd h h0
theorem Cal.addWorkingS_ge {l : List Hol} {day : Int} (h : (Cal.addWorkingS l day 0).2 = 0) : day ≤ (Cal.addWorkingS l day 0).1 ∧ Cal.worksB l (Cal.addWorkingS l day 0).1 = true :=
  Cal.addW_ge (Int.le_refl 0) (Cal.addWorkingS_ok h).2.2.2
/-- What a state keeps, of its deadline. -/
structure StIn (s : NSt) : Prop where
  run : s.phase = 1 → s.last ≤ s.deadline
  con : s.phase = 3 → s.objected ≤ s.deadline
  five : s.phase ≤ 5
theorem StIn.openSt (d : Int) : StIn (Cal.openSt d) := ⟨fun h => absurd h (by simp [Cal.openSt]), fun h => absurd h (by simp [Cal.openSt]), by simp [Cal.openSt]⟩
theorem Cal.accB_4 {ph : Int} (h : Cal.accB ph 4 = true) : ph = 3 := by simpa [Cal.accB] using h
theorem Cal.accB_6 {ph : Int} (h : Cal.accB ph 6 = true) : ph = 1 := by simpa [Cal.accB] using h
theorem StIn.act {p : Proc} {s : NSt} {a : NAct} (hs : StIn s) (h : (Cal.actS p s a).2 = 0) : StIn (Cal.actS p s a).1 := by
  obtain ⟨h1, h2⟩ := Cal.actS_ok h
  obtain ⟨hf, _, hacc, hlate, hobj, _⟩ := Cal.mayErr_ok h1
  obtain ⟨a0, a1, k0, k1, hd6, _⟩ := Cal.formErr_ok hf
  rw [h2] at h ⊢
  unfold Cal.doneS at h ⊢
  by_cases k02 : a.kind = 0 ∨ a.kind = 2
  · rw [if_pos k02] at h ⊢
    simp only at h ⊢
    split at h
    · rename_i hh
      exact ⟨fun _ => (Cal.dlS_ge hh.1).1, fun e => absurd e (by simp), by simp⟩
    · simp at h
  · rw [if_neg k02] at h ⊢
    by_cases q1 : a.kind = 1
    · rw [if_pos q1]; exact ⟨fun e => absurd e (by simp), fun e => absurd e (by simp), by simp⟩
    · rw [if_neg q1] at h ⊢
      by_cases q3 : a.kind = 3
      · rw [if_pos q3]
        refine ⟨fun e => absurd e (by simp), fun _ => ?_, by simp⟩
        show a.day ≤ s.deadline
        have : ¬ (min s.object s.deadline < a.day) := fun hh => hobj ⟨q3, hh⟩
        omega
      · rw [if_neg q3] at h ⊢
        by_cases q4 : a.kind = 4
        · rw [if_pos q4] at h ⊢
          rw [q4] at hacc
          have h3 := hs.con (Cal.accB_4 hacc)
          have h5 := (Cal.addWorkingS_ge h).1
          refine ⟨fun _ => ?_, fun e => absurd e (by simp), by simp⟩
          show a.day ≤ (Cal.addWorkingS p.hols (s.deadline + (a.day - s.objected)) 0).1
          omega
        · rw [if_neg q4] at h ⊢
          by_cases q6 : a.kind = 6
          · rw [if_pos q6] at h ⊢
            rw [q6] at hacc
            have h3 := Cal.accB_6 hacc
            have h5 := (Cal.addWorkingS_ge h).1
            have h6 := (hd6 q6).1
            have h7 : a.day ≤ s.deadline := by
              rcases Int.lt_or_le s.deadline a.day with x | x
              · exact absurd ⟨h3, x⟩ hlate
              · exact x
            refine ⟨fun _ => ?_, fun e => ?_, hs.five⟩
            · show a.day ≤ (Cal.addWorkingS p.hols (s.deadline + a.days) 0).1
              omega
            · have e : s.phase = 3 := e
              omega
          · rw [if_neg q6] at h ⊢
            split
            · exact ⟨fun e => absurd e (by simp), fun e => absurd e (by simp), by simp⟩
            · exact ⟨fun e => absurd e (by simp), fun e => absurd e (by simp), by simp⟩
theorem Cal.runS_last {p : Proc} : ∀ {l : List NAct} {s : NSt} {i : Nat}, (Cal.runS p l s i).2.2 = 0 → s.last ≤ (Cal.runS p l s i).1.last
  | [], _, _, _ => Int.le_refl _
  | a :: l, s, i, h => by
    obtain ⟨h1, h2⟩ := Cal.runS_cons.1 h
    have hl := Cal.actS_last h1
    have := Cal.runS_last h2
    rw [Cal.runS_more, if_pos h1]
    omega
theorem Cal.atS_all {p : Proc} {day : Int} : ∀ {l : List NAct} {s : NSt} {i : Nat}, (Cal.runS p l s i).2.2 = 0 → (Cal.runS p l s i).1.last ≤ day → Cal.atS p day l s = (Cal.runS p l s i).1
  | [], _, _, _, _ => rfl
  | a :: l, s, i, h, hd => by
    obtain ⟨h1, h2⟩ := Cal.runS_cons.1 h
    have hl := Cal.actS_last h1
    have h3 := Cal.runS_last h2
    rw [Cal.runS_more, if_pos h1] at hd ⊢
    unfold Cal.atS
    rw [if_pos (by omega)]
    exact Cal.atS_all h2 hd
theorem Cal.runS_st {p : Proc} (he : p.exts ≤ 12) : ∀ {l : List NAct} {s : NSt} {i : Nat}, (Cal.runS p l s i).2.2 = 0 → StOk s → StIn s → StOk (Cal.runS p l s i).1 ∧ StIn (Cal.runS p l s i).1
  | [], _, _, _, h1, h2 => ⟨h1, h2⟩
  | a :: l, s, i, h, k1, k2 => by
    obtain ⟨h1, h2⟩ := Cal.runS_cons.1 h
    rw [Cal.runS_more, if_pos h1]
    exact Cal.runS_st he h2 (k1.act he h1) (k2.act h1)
/-- The state behind all acts of a notice that is right. -/
theorem Cal.end_ok {p : Proc} {n : Note} (h : (Cal.checkS p n).2 = 0) :
    StOk (Cal.stAt p n 200000) ∧ StIn (Cal.stAt p n 200000) ∧ n.opened ≤ (Cal.stAt p n 200000).last ∧ Cal.stAt p n 200000 = (Cal.runS p n.acts (Cal.openSt n.opened) 0).1 ∧ ∀ day, (Cal.stAt p n 200000).last ≤ day → Cal.stAt p n day = Cal.stAt p n 200000 := by
  obtain ⟨hp, _, o0, o1, _, hrun⟩ := Cal.checkS_ok h
  obtain ⟨_, _, _, _, x1, _, _, _⟩ := Cal.procErr_ok hp
  have hst := Cal.runS_st x1 hrun (StOk.openSt o0 o1) (StIn.openSt n.opened)
  have he : Cal.stAt p n 200000 = (Cal.runS p n.acts (Cal.openSt n.opened) 0).1 := Cal.atS_all hrun hst.1.l1
  have hl := Cal.runS_last hrun
  rw [he]
  exact ⟨hst.1, hst.2, hl, rfl, fun day hd => Cal.atS_all hrun hd⟩
/-- The notice has expired on the day from which it may be acted on. -/
theorem Cal.exp_phase {p : Proc} {n : Note} {x : Int} (h : Cal.expS p n = (x, 0)) : Cal.phaseS p n x = (6, 0) := by
  unfold Cal.expS at h
  by_cases hE : (Cal.checkS p n).2 = 0
  · rw [if_pos hE] at h
    obtain ⟨h1, h2, h3, _, h5⟩ := Cal.end_ok hE
    by_cases hp : (Cal.stAt p n 200000).phase = 1
    · rw [if_pos hp] at h
      split at h
      · rename_i hd
        have hge := (Cal.dlS_ge hd.1).1
        have hx : (Cal.dlS p.hols (Cal.stAt p n 200000).deadline p.wait.m p.wait.d p.wait.k).1 + 1 = x := (Prod.mk.inj h).1
        have hr := h2.run hp
        have l0 := h1.l0
        have hs := h5 x (by omega)
        unfold Cal.phaseS
        have ho : Cal.onE p n x = 0 := by unfold Cal.onE; rw [if_pos hE, if_pos ⟨by omega, by omega⟩, if_neg (by omega)]
        rw [if_pos ho, hs, if_pos ⟨hp, by omega⟩]
      · exact absurd (Prod.mk.inj h).2 (by omega)
    · rw [if_neg hp] at h
      exact absurd (Prod.mk.inj h).2 (by omega)
  · rw [if_neg hE] at h
    exact absurd (Prod.mk.inj h).2 hE
/-! One more act. -/
def Note.more (n : Note) (a : NAct) : Note := ⟨n.name, n.opened, n.acts ++ [a]⟩
theorem Cal.runS_add {p : Proc} {a : NAct} : ∀ {l : List NAct} {s : NSt} {i : Nat}, (Cal.runS p l s i).2.2 = 0 → (Cal.actS p (Cal.runS p l s i).1 a).2 = 0 → Cal.runS p (l ++ [a]) s i = ((Cal.actS p (Cal.runS p l s i).1 a).1, 0, 0)
  | [], s, i, _, h => by
    show Cal.runS p [a] s i = ((Cal.actS p s a).1, 0, 0)
    have h : (Cal.actS p s a).2 = 0 := h
    rw [Cal.runS_more, if_pos h]
    rfl
  | b :: l, s, i, h, ha => by
    obtain ⟨h1, h2⟩ := Cal.runS_cons.1 h
    have e : ∀ j, Cal.runS p (b :: l) s j = Cal.runS p l (Cal.actS p s b).1 (j + 1) := fun j => by rw [Cal.runS_more, if_pos h1]
    rw [e] at ha ⊢
    rw [List.cons_append, Cal.runS_more, if_pos h1]
    exact Cal.runS_add h2 ha
theorem Cal.atS_add {p : Proc} {day : Int} {a : NAct} (hd : day < a.day) : ∀ {l : List NAct} {s : NSt}, Cal.atS p day (l ++ [a]) s = Cal.atS p day l s
  | [], s => by
    show Cal.atS p day [a] s = s
    unfold Cal.atS
    rw [if_neg (by omega)]
  | b :: l, s => by
    rw [List.cons_append]
    unfold Cal.atS
    rw [Cal.atS_add hd]
theorem Cal.addE_ok {p : Proc} {n : Note} {a : NAct} (h : Cal.addE p n a = 0) : (Cal.checkS p n).2 = 0 ∧ n.acts.length < 40 ∧ (Cal.actS p (Cal.stAt p n 200000) a).2 = 0 := by
  unfold Cal.addE at h
  split at h
  · rename_i h0
    split at h
    · omega
    · exact ⟨h0, by omega, h⟩
  · rename_i h0; exact absurd h h0
theorem Cal.more_ok {p : Proc} {n : Note} {a : NAct} (h : Cal.addE p n a = 0) :
    Cal.checkS p (n.more a) = (0, 0) ∧ (Cal.stAt p n 200000).last ≤ a.day ∧ Cal.stAt p (n.more a) 200000 = (Cal.actS p (Cal.stAt p n 200000) a).1 ∧ (Cal.actS p (Cal.stAt p n 200000) a).1.last = a.day := by
  obtain ⟨hv, hlen, ha⟩ := Cal.addE_ok h
  obtain ⟨hp, hn, o0, o1, _, hrun⟩ := Cal.checkS_ok hv
  obtain ⟨_, _, _, he, _⟩ := Cal.end_ok hv
  obtain ⟨hl1, hl2⟩ := Cal.actS_last ha
  have ha' := ha
  rw [he] at ha'
  have hadd := Cal.runS_add hrun ha'
  have hc : Cal.checkS p (n.more a) = (0, 0) := by
    unfold Cal.checkS
    rw [if_pos hp]
    unfold Cal.noteS
    rw [show (n.more a).name = n.name from rfl, hn, if_pos rfl, show (n.more a).opened = n.opened from rfl, if_pos ⟨o0, o1⟩, show (n.more a).acts = n.acts ++ [a] from rfl, if_pos (by simp; omega), hadd]
    rfl
  have hc2 : (Cal.checkS p (n.more a)).2 = 0 := by rw [hc]
  obtain ⟨_, _, _, he2, _⟩ := Cal.end_ok hc2
  refine ⟨hc, hl2, ?_, hl1⟩
  rw [he2, he]
  show (Cal.runS p (n.acts ++ [a]) (Cal.openSt n.opened) 0).1 = _
  rw [hadd]
/-- An act that is added later changes no phase of the days before it. -/
theorem Cal.more_phase {p : Proc} {n : Note} {a : NAct} (h : Cal.addE p n a = 0) {day : Int} (h0 : n.opened ≤ day) (h1 : day < a.day) : ∃ x, Cal.phaseS p n day = (x, 0) ∧ Cal.phaseS p (n.more a) day = (x, 0) := by
  obtain ⟨hv, hlen, ha⟩ := Cal.addE_ok h
  obtain ⟨hp, hn, o0, o1, _, hrun⟩ := Cal.checkS_ok hv
  obtain ⟨hc, _, _, _⟩ := Cal.more_ok h
  obtain ⟨hm, _⟩ := Cal.actS_ok ha
  obtain ⟨_, a1, _⟩ := Cal.formErr_ok (Cal.mayErr_ok hm).1
  have e1 : Cal.onE p n day = 0 := by unfold Cal.onE; rw [if_pos hv, if_pos ⟨by omega, by omega⟩, if_neg (by omega)]
  have e2 : Cal.onE p (n.more a) day = 0 := by
    unfold Cal.onE
    rw [if_pos (by rw [hc]), if_pos ⟨by omega, by omega⟩, if_neg (by show ¬ day < n.opened; omega)]
  have hs : Cal.stAt p (n.more a) day = Cal.stAt p n day := Cal.atS_add h1
  refine ⟨(Cal.phaseS p n day).1, ?_, ?_⟩
  · unfold Cal.phaseS; rw [if_pos e1]; split <;> rfl
  · unfold Cal.phaseS; rw [if_pos e1, if_pos e2, hs]; split <;> rfl
/-- A deadline that an act moves. -/
theorem Cal.more_moves {p : Proc} {n : Note} {a : NAct} (h : Cal.addE p n a = 0) (h6 : a.kind = 6) : ∃ x y, Cal.dlAtS p n a.day = (x, 0) ∧ Cal.dlAtS p (n.more a) a.day = (y, 0) ∧ x ≤ y ∧ 0 ≤ y ∧ y ≤ 200000 ∧ Cal.holsErr p.hols = 0 ∧ Cal.worksB p.hols y = true := by
  obtain ⟨hv, hlen, ha⟩ := Cal.addE_ok h
  obtain ⟨hc, hla, hmo, hl2⟩ := Cal.more_ok h
  obtain ⟨hok, _, ho, _, hall⟩ := Cal.end_ok hv
  have hc2 : (Cal.checkS p (n.more a)).2 = 0 := by rw [hc]
  obtain ⟨_, _, _, _, hall2⟩ := Cal.end_ok hc2
  obtain ⟨hm, hdo⟩ := Cal.actS_ok ha
  obtain ⟨hf, _, hacc, _, _, _⟩ := Cal.mayErr_ok hm
  obtain ⟨a0, a1, _, _, hd6, _⟩ := Cal.formErr_ok hf
  rw [h6] at hacc
  have hph := Cal.accB_6 hacc
  have s1 := hall a.day hla
  have s2 := hall2 a.day (by rw [hmo, hl2]; omega)
  rw [hmo] at s2
  have e1 : Cal.onE p n a.day = 0 := by unfold Cal.onE; rw [if_pos hv, if_pos ⟨a0, a1⟩, if_neg (by omega)]
  have e2 : Cal.onE p (n.more a) a.day = 0 := by
    unfold Cal.onE
    rw [if_pos hc2, if_pos ⟨a0, a1⟩, if_neg (by show ¬ a.day < n.opened; omega)]
  have hd : Cal.doneS p (Cal.stAt p n 200000) a = ({ Cal.stAt p n 200000 with last := a.day, extended := (Cal.stAt p n 200000).extended + 1, deadline := (Cal.addWorkingS p.hols ((Cal.stAt p n 200000).deadline + a.days) 0).1 }, (Cal.addWorkingS p.hols ((Cal.stAt p n 200000).deadline + a.days) 0).2) := by
    unfold Cal.doneS
    simp [h6]
  rw [hdo, hd] at s2
  have hw : (Cal.addWorkingS p.hols ((Cal.stAt p n 200000).deadline + a.days) 0).2 = 0 := by rw [hdo, hd] at ha; exact ha
  obtain ⟨g1, g2⟩ := Cal.addWorkingS_ge hw
  have g3 := Cal.addWorkingS_day p.hols ((Cal.stAt p n 200000).deadline + a.days) 0
  have hd1 := (hd6 h6).1
  refine ⟨(Cal.stAt p n 200000).deadline, _, ?_, ?_, ?_, g3.1, g3.2, (Cal.addWorkingS_ok hw).1, g2⟩
  · unfold Cal.dlAtS; rw [if_pos e1, s1, if_pos hph]
  · unfold Cal.dlAtS; rw [if_pos e2, s2, if_pos hph]
  · omega
theorem Cal.phase_max {p : Proc} {n : Note} (hv : (Cal.checkS p n).2 = 0) : (Cal.phaseS p n 200000).2 = 0 ∧
    (((Cal.phaseS p n 200000).1 = 1 ∨ (Cal.phaseS p n 200000).1 = 6) ∧ (Cal.stAt p n 200000).phase = 1 ∨ (Cal.phaseS p n 200000).1 = (Cal.stAt p n 200000).phase ∧ (Cal.stAt p n 200000).phase ≠ 1 ∧ 0 ≤ (Cal.stAt p n 200000).phase ∧ (Cal.stAt p n 200000).phase ≤ 5) := by
  obtain ⟨hok, hin, ho, _, _⟩ := Cal.end_ok hv
  have l1 := hok.l1
  have e1 : Cal.onE p n 200000 = 0 := by unfold Cal.onE; rw [if_pos hv, if_pos ⟨by omega, by omega⟩, if_neg (by omega)]
  unfold Cal.phaseS
  rw [if_pos e1]
  by_cases h1 : (Cal.stAt p n 200000).phase = 1
  · split
    · exact ⟨rfl, .inl ⟨.inr rfl, h1⟩⟩
    · exact ⟨rfl, .inl ⟨.inl h1, h1⟩⟩
  · rw [if_neg (fun h => h1 h.1)]
    exact ⟨rfl, .inr ⟨rfl, h1, hok.p0, hin.five⟩⟩
theorem Cal.over_add {p : Proc} {n : Note} {a : NAct} (h : (Cal.stAt p n 200000).phase = 4 ∨ (Cal.stAt p n 200000).phase = 5) : Cal.addE p n a ≠ 0 := by
  intro hE
  obtain ⟨_, _, ha⟩ := Cal.addE_ok hE
  obtain ⟨hm, _⟩ := Cal.actS_ok ha
  have hacc := (Cal.mayErr_ok hm).2.2.1
  unfold Cal.accB at hacc
  rcases h with h | h <;> rw [h] at hacc <;> simp at hacc <;> omega
theorem Cal.exp_state {p : Proc} {n : Note} (hv : (Cal.checkS p n).2 = 0) (h : (Cal.stAt p n 200000).phase ≠ 1) : (Cal.expS p n).2 = 28 := by
  unfold Cal.expS; rw [if_pos hv, if_neg h]
theorem Cal.exp_run {p : Proc} {n : Note} (hv : (Cal.checkS p n).2 = 0) (h : (Cal.stAt p n 200000).phase = 1) : (Cal.expS p n).2 = 0 ∨ (Cal.expS p n).2 = 2 := by
  unfold Cal.expS; rw [if_pos hv, if_pos h]
  split
  · exact .inl rfl
  · exact .inr rfl
end Go.Proofs.YtbinoelbjlgjkaaDoor
namespace Go.Proofs.YtbinoelbjlgjkaaDoor
open Go Go.RowKit
def bareNote (day : Int) : Note := ⟨nName, day, []⟩
def servAct (day : Int) : NAct := ⟨day, 0, 0⟩
theorem nName_ok : nameB nName = true := by decide +kernel
theorem Cal.bare_ok {p : Proc} {day : Int} (hp : Cal.procErr p = 0) (d0 : 0 ≤ day) (d1 : day ≤ 200000) : Cal.checkS p (bareNote day) = (0, 0) := by
  unfold Cal.checkS
  rw [if_pos hp]
  unfold Cal.noteS bareNote
  rw [nName_ok, if_pos rfl, if_pos ⟨d0, d1⟩, if_pos (by simp)]
  rfl
theorem Cal.bare_act {p : Proc} {day : Int} (d0 : 0 ≤ day) (d1 : day ≤ 200000) : Cal.actS p (Cal.openSt day) (servAct day) = (⟨1, day, (Cal.dlS p.hols day p.runs.m p.runs.d p.runs.k).1, (Cal.dlS p.hols day p.obj.m p.obj.d p.obj.k).1, 0, 0⟩,
    if (Cal.dlS p.hols day p.runs.m p.runs.d p.runs.k).2 = 0 ∧ (Cal.dlS p.hols day p.obj.m p.obj.d p.obj.k).2 = 0 then 0 else 2) := by
  have hf : Cal.formErr p (servAct day) = 0 := by
    unfold Cal.formErr servAct
    simp only
    rw [if_pos ⟨d0, d1⟩, if_pos ⟨by omega, by omega⟩, if_neg (by omega), if_pos trivial]
  have hm : Cal.mayErr p (Cal.openSt day) (servAct day) = 0 := by
    unfold Cal.mayErr
    rw [if_pos hf, if_neg (by simp [Cal.openSt, servAct]), if_pos (by simp [Cal.accB, Cal.openSt, servAct]), if_neg (by simp [Cal.openSt]), if_neg (by simp [servAct]), if_neg (by simp [servAct])]
  unfold Cal.actS
  rw [if_pos hm]
  unfold Cal.doneS
  rw [if_pos (.inl rfl)]
  rfl
theorem Cal.bare_add {p : Proc} {day : Int} (hp : Cal.procErr p = 0) (d0 : 0 ≤ day) (d1 : day ≤ 200000) : Cal.addE p (bareNote day) (servAct day) = if (Cal.dlS p.hols day p.runs.m p.runs.d p.runs.k).2 = 0 ∧ (Cal.dlS p.hols day p.obj.m p.obj.d p.obj.k).2 = 0 then 0 else 2 := by
  unfold Cal.addE
  rw [if_pos (by rw [Cal.bare_ok hp d0 d1]), if_neg (by simp [bareNote])]
  show (Cal.actS p (Cal.openSt day) (servAct day)).2 = _
  rw [Cal.bare_act d0 d1]
/-- All that the statement says of a notice that has been served. -/
structure Dead (p : Proc) (day : Int) (n : Note) (D O : Int) : Prop where
  ok : Cal.checkS p n = (0, 0)
  dl : Cal.dlAtS p n day = (D, 0)
  obj : Cal.objS p n day = (min O D, 0)
  onDay : min O D < 200000 → Cal.addE p n ⟨min O D, 3, 0⟩ = 0
  late : min O D < 200000 → Cal.addE p n ⟨min O D + 1, 3, 0⟩ = 21
  exp : Cal.expS p n = if (Cal.dlS p.hols D p.wait.m p.wait.d p.wait.k).2 = 0 ∧ (Cal.dlS p.hols D p.wait.m p.wait.d p.wait.k).1 < 200000 then ((Cal.dlS p.hols D p.wait.m p.wait.d p.wait.k).1 + 1, 0) else (0, 2)
  works : (Cal.dlS p.hols D p.wait.m p.wait.d p.wait.k).2 = 0 → Cal.isWorkB p.hols (Cal.dlS p.hols D p.wait.m p.wait.d p.wait.k).1 = true ∧ Cal.isWorkE p.hols (Cal.dlS p.hols D p.wait.m p.wait.d p.wait.k).1 = 0
  d0 : 0 ≤ D
  d1 : D ≤ 200000
  o0 : 0 ≤ O
  o1 : O ≤ 200000
theorem Cal.dead {p : Proc} {day : Int} (hp : Cal.procErr p = 0) (d0 : 0 ≤ day) (d1 : day ≤ 200000) (h1 : (Cal.dlS p.hols day p.runs.m p.runs.d p.runs.k).2 = 0) (h2 : (Cal.dlS p.hols day p.obj.m p.obj.d p.obj.k).2 = 0) :
    Dead p day ((bareNote day).more (servAct day)) (Cal.dlS p.hols day p.runs.m p.runs.d p.runs.k).1 (Cal.dlS p.hols day p.obj.m p.obj.d p.obj.k).1 := by
  have hadd : Cal.addE p (bareNote day) (servAct day) = 0 := by rw [Cal.bare_add hp d0 d1, if_pos ⟨h1, h2⟩]
  obtain ⟨hc, _, hmo, _⟩ := Cal.more_ok hadd
  have hc2 : (Cal.checkS p ((bareNote day).more (servAct day))).2 = 0 := by rw [hc]
  obtain ⟨_, _, _, _, hall⟩ := Cal.end_ok hc2
  have hbare : Cal.stAt p (bareNote day) 200000 = Cal.openSt day := rfl
  rw [hbare, Cal.bare_act d0 d1] at hmo
  have g1 := (Cal.dlS_ge h1).1
  have g2 := (Cal.dlS_ge h2).1
  have b1 := Cal.dlS_day p.hols day p.runs.m p.runs.d p.runs.k
  have b2 := Cal.dlS_day p.hols day p.obj.m p.obj.d p.obj.k
  generalize (Cal.dlS p.hols day p.runs.m p.runs.d p.runs.k).1 = D at *
  generalize (Cal.dlS p.hols day p.obj.m p.obj.d p.obj.k).1 = O at *
  have hmo : Cal.stAt p ((bareNote day).more (servAct day)) 200000 = ⟨1, day, D, O, 0, 0⟩ := hmo
  have hsd := hall day (by rw [hmo]; exact Int.le_refl _)
  rw [hmo] at hsd
  have hlen : ¬ (40 ≤ ((bareNote day).more (servAct day)).acts.length) := by simp [Note.more, bareNote]
  have hop : ((bareNote day).more (servAct day)).opened = day := rfl
  generalize (bareNote day).more (servAct day) = n at *
  have ho : Cal.onE p n day = 0 := by unfold Cal.onE; rw [if_pos hc2, if_pos ⟨d0, d1⟩, hop, if_neg (by omega)]
  have hform : ∀ x, 0 ≤ x → x ≤ 200000 → Cal.formErr p ⟨x, 3, 0⟩ = 0 := fun x x0 x1 => by
    unfold Cal.formErr
    simp only
    rw [if_pos ⟨x0, x1⟩, if_pos ⟨by omega, by omega⟩, if_neg (by omega), if_pos trivial]
  have hmay : ∀ x, day ≤ x → x ≤ 200000 → Cal.mayErr p ⟨1, day, D, O, 0, 0⟩ ⟨x, 3, 0⟩ = if D < x ∨ min O D < x then 21 else 0 := fun x x0 x1 => by
    unfold Cal.mayErr
    rw [if_pos (hform x (by omega) x1), if_neg (show ¬ x < day by omega), if_pos (by rfl)]
    by_cases q1 : D < x
    · rw [if_pos ⟨rfl, q1⟩, if_pos (.inl q1)]
    · rw [if_neg (fun h => q1 h.2)]
      by_cases q2 : min O D < x
      · rw [if_pos ⟨rfl, q2⟩, if_pos (.inr q2)]
      · rw [if_neg (fun h => q2 h.2), if_neg (fun h => absurd h.1 (by show ¬ (3 : Int) = 6; omega)), if_neg (fun h => h.elim q1 q2)]
  refine ⟨hc, ?_, ?_, fun hlt => ?_, fun hlt => ?_, ?_, fun hw => ?_, b1.1, b1.2, b2.1, b2.2⟩
  · unfold Cal.dlAtS; rw [if_pos ho, hsd, if_pos rfl]
  · unfold Cal.objS; rw [if_pos ho, hsd, if_pos rfl]
  · unfold Cal.addE
    rw [if_pos hc2, if_neg hlen, hmo]
    unfold Cal.actS
    rw [if_pos (by rw [hmay _ (by omega) (by omega), if_neg (by omega)])]
    unfold Cal.doneS
    simp
  · unfold Cal.addE
    rw [if_pos hc2, if_neg hlen, hmo]
    unfold Cal.actS
    rw [if_neg (by rw [hmay _ (by omega) (by omega), if_pos (by omega)]; omega)]
    show Cal.mayErr p _ _ = 21
    rw [hmay _ (by omega) (by omega), if_pos (by omega)]
  · unfold Cal.expS; rw [if_pos hc2, hmo, if_pos rfl]
  · obtain ⟨hh, _, _, _, _⟩ := Cal.dlS_ok hw
    have hge := (Cal.dlS_ge hw).2
    have hb := Cal.dlS_day p.hols D p.wait.m p.wait.d p.wait.k
    generalize (Cal.dlS p.hols D p.wait.m p.wait.d p.wait.k).1 = y at *
    have hE : Cal.isWorkE p.hols y = 0 := by unfold Cal.isWorkE; rw [if_pos hh, if_pos ⟨hb.1, hb.2⟩]
    refine ⟨?_, hE⟩
    unfold Cal.isWorkB
    rw [if_pos hE, ← Cal.workB_eq (Cal.holsErr_ok hh).1 hb.1 hb.2]
    exact hge
end Go.Proofs.YtbinoelbjlgjkaaDoor
namespace Go.Proofs.YtbinoelbjlgjkaaDoor
open Go Go.RowKit Go.Shelf
attribute [local go_sem] Oper.semAt_some
/-- How many of k days from a on are working days. -/
def Cal.cnt (l : List Hol) (a : Int) : Nat → Int
  | 0 => 0
  | k + 1 => Cal.cnt l a k + if Cal.workB l (a + k) = true then 1 else 0
def Cal.betw (l : List Hol) (a b : Int) : Int := Cal.cnt l a (b - a).toNat
theorem Cal.cnt_bd (l : List Hol) (a : Int) : ∀ k, 0 ≤ Cal.cnt l a k ∧ Cal.cnt l a k ≤ k
  | 0 => by simp [Cal.cnt]
  | k + 1 => by
    have := Cal.cnt_bd l a k
    unfold Cal.cnt; split <;> omega
theorem Cal.betw_self (l : List Hol) (a : Int) : Cal.betw l a a = 0 := by unfold Cal.betw; simp [Cal.cnt]
theorem Cal.betw_succ {l : List Hol} {a d : Int} (h : a ≤ d) : Cal.betw l a (d + 1) = Cal.betw l a d + if Cal.workB l d = true then 1 else 0 := by
  unfold Cal.betw
  rw [show (d + 1 - a).toNat = (d - a).toNat + 1 by omega]
  conv => lhs; unfold Cal.cnt
  rw [show a + ((d - a).toNat : Int) = d by omega]
theorem Cal.betw_bd {l : List Hol} {a b : Int} (h : a ≤ b) : 0 ≤ Cal.betw l a b ∧ Cal.betw l a b ≤ b - a := by
  have := Cal.cnt_bd l a (b - a).toNat
  unfold Cal.betw; omega
theorem Cal.betw_stop {l : List Hol} {a b : Int} (h : a ≤ b) : ∀ k : Nat, (∀ x, b ≤ x → x < b + k → Cal.workB l x = false) → Cal.betw l a (b + k) = Cal.betw l a b
  | 0, _ => by simp
  | k + 1, hf => by
    have ih := Cal.betw_stop h k fun x h1 h2 => hf x h1 (by omega)
    rw [show b + ((k + 1 : Nat) : Int) = b + k + 1 by omega, Cal.betw_succ (by omega), hf (b + k) (by omega) (by omega), ih]
    simp
theorem Cal.betw_add {l : List Hol} {a b : Int} (h : a ≤ b) : ∀ k : Nat, Cal.betw l a (b + k) = Cal.betw l a b + Cal.betw l b (b + k)
  | 0 => by simp [Cal.betw_self]
  | k + 1 => by
    have ih := Cal.betw_add (l := l) h k
    rw [show b + ((k + 1 : Nat) : Int) = b + k + 1 by omega, Cal.betw_succ (by omega), Cal.betw_succ (by omega), ih]
    omega
/-- WorkingBetween: the number and the error. -/
def Cal.betwE (l : List Hol) (a b : Int) : Int := if Cal.holsErr l = 0 then (if 0 ≤ a ∧ a ≤ 200000 ∧ 0 ≤ b ∧ b ≤ 200000 then (if b < a then 9 else 0) else 2) else Cal.holsErr l
def Cal.betwN (l : List Hol) (a b : Int) : Int := if Cal.betwE l a b = 0 then Cal.betw l a b else 0
structure CalCell (W : World) (cb m : Nat) (A : Option Addr) (c n : Nat) : Prop where
  c0 : W.cell? ⟨cb, 0, none⟩ = some (.slice A n c)
  c1 : W.cell? ⟨cb, 1, none⟩ = some (.map (some m))
  lt : cb < W.heap.size
theorem CalCell.kept {W W' : World} {row : Option Nat} {cb m : Nat} {A : Option Addr} {c n : Nat} (h : CalCell W cb m A c n) (hg : W.grownBy W' row) (hr : Others W row) : CalCell W' cb m A c n :=
  ⟨cell_kept h.c0 hg hr, cell_kept h.c1 hg hr, Nat.lt_of_lt_of_le h.lt hg.size⟩
/-- What WorkingBetween keeps while it goes round. W0: the world when it had checked. -/
structure BetI (K : Where) (W0 : World) (n : Int) (d : Int) (W : World) : Prop where
  fr : Below W0.heap.size W0 W
  lo : -1 ≤ d
  hi : d ≤ 200001
  st : OwnCell W K.bs (.int .i64 K.step)
  from_ : OwnCell W K.bf (.int .i64 K.start)
  cal : OwnCell W K.bc (.pointer (some ⟨K.cb, 0, none⟩))
  cald : CalCell W K.cb K.m K.A K.c K.l.length
  num : OwnCell W W0.heap.size (.int .i64 n)
  cache : CacheAt K d W
  size : W0.heap.size + 6 ≤ W.heap.size
structure BetK (K : Where) (W0 : World) : Prop where
  b : K.B = W0.heap.size + 6
  m : K.m = W0.heap.size + 1
  cb : K.cb = W0.heap.size + 2
  bc : K.bc = W0.heap.size + 3
  bf : K.bf = W0.heap.size + 4
  bs : K.bs = W0.heap.size + 5
  hols : Hols W0 K.A K.l
  tab : Tab W0
  st : K.step = 1
theorem BetI.inv {K : Where} {W0 W : World} {n d : Int} (hK : BetK K W0) (h : BetI K W0 n d W) : DaysInv K d W :=
  ⟨h.lo, h.hi, h.from_.cell, h.st.cell, h.cal.cell, ⟨h.cald.c0, h.cald.c1, h.cald.lt, hK.hols.below h.fr, hK.tab.below h.fr⟩, h.cache, by rw [hK.b]; exact h.size⟩
theorem BetI.book {K : Where} {W0 W W' : World} {n d : Int} (h : BetI K W0 n d W) {row : Option Nat} (hg : W.grownBy W' row) (hr : ∀ r, row = some r → W0.heap.size ≤ r ∧ ∃ o : Obj, W.heap[r]? = some o ∧ isBook o = true) : BetI K W0 n d W' := by
  have ho : Others W row := fun r e => by obtain ⟨_, o, h1, h2⟩ := hr r e; exact ⟨o, h1, not_cells_of_book h2⟩
  refine ⟨h.fr.grown hg h.fr.size (fun k e => (hr k e).1), h.lo, h.hi, h.st.kept hg ho, h.from_.kept hg ho, h.cal.kept hg ho, h.cald.kept hg ho, h.num.kept hg ho, ?_, Nat.le_trans h.size hg.size⟩
  obtain ⟨q, hc, hn⟩ := h.cache
  have hmap : ∃ es cl, W.heap[K.m]? = some (.map es cl) := by obtain ⟨f, h, _⟩ := hc; exact h.isMap
  refine ⟨q, hc.keep (hg.block _ ?_ ?_) (fun g cs t _ hgc => (hg.block g (Array.getElem?_eq_some_iff.1 hgc).1 ?_).trans hgc), hn⟩
  · obtain ⟨es, cl, h⟩ := hmap; exact (Array.getElem?_eq_some_iff.1 h).1
  · intro e; obtain ⟨_, o, h1, h2⟩ := hr _ e.symm; obtain ⟨es, cl, h⟩ := hmap; rw [h] at h1; cases h1; cases h2
  · intro e; obtain ⟨_, o, h1, h2⟩ := hr _ e.symm; rw [hgc] at h1; cases h1; cases h2
theorem BetI.step {K : Where} {W0 W W' : World} {n d d' : Int} (hK : BetK K W0) (h : BetI K W0 n d W) (hg : W.grownBy W' (some K.m)) (hc : CacheAt K d' W') (h1 : -1 ≤ d') (h2 : d' ≤ 200001) : BetI K W0 n d' W' := by
  have ho := cacheOthers h.cache
  exact ⟨h.fr.grown hg h.fr.size (fun k e => by cases e; rw [hK.m]; omega), h1, h2, h.st.kept hg ho, h.from_.kept hg ho, h.cal.kept hg ho, h.cald.kept hg ho, h.num.kept hg ho, hc, Nat.le_trans h.size hg.size⟩
theorem BetI.store {K : Where} {W0 W : World} {n d : Int} (hK : BetK K W0) (h : BetI K W0 n d W) (u : Int) : BetI K W0 u d (W.setCell ⟨W0.heap.size, 0, none⟩ (.int .i64 u)) := by
  have hfar : ∀ (g : Nat), g ≠ W0.heap.size → (W.setCell ⟨W0.heap.size, 0, none⟩ (.int .i64 u)).heap[g]? = W.heap[g]? := fun g hg => Below.heap_setCell W ⟨W0.heap.size, 0, none⟩ (.int .i64 u) g hg
  have h1 := hK.bs; have h2 := hK.bf; have h3 := hK.bc; have h4 := hK.b; have h5 := hK.m; have h6 := hK.cb
  refine ⟨h.fr.setCell (Nat.le_refl _) _, h.lo, h.hi, h.st.far (by simp; omega) _, h.from_.far (by simp; omega) _, h.cal.far (by simp; omega) _, ?_, h.num.set_ _, ?_, by simpa [World.setCell] using h.size⟩
  · have hne : ∀ j, (⟨W0.heap.size, 0, none⟩ : Addr) ≠ ⟨K.cb, j, none⟩ := fun j e => by
      have := congrArg Addr.block e
      simp only at this
      omega
    exact ⟨(World.cell?_setCell_other W ⟨W0.heap.size, 0, none⟩ ⟨K.cb, 0, none⟩ _ (hne 0)).trans h.cald.c0, (World.cell?_setCell_other W ⟨W0.heap.size, 0, none⟩ ⟨K.cb, 1, none⟩ _ (hne 1)).trans h.cald.c1, by simpa [World.setCell] using h.cald.lt⟩
  · obtain ⟨q, hc, hn⟩ := h.cache
    exact ⟨q, hc.keep (hfar _ (by omega)) (fun g cs t hg hgc => (hfar g (by omega)).trans hgc), hn⟩
def BetInv (K : Where) (W0 : World) (to : Int) (d : Int) (W : World) : Prop :=
  BetI K W0 (Cal.betw K.l K.start d) d W ∧ K.start ≤ d ∧ ∀ x, to ≤ x → x < d → Cal.workB K.l x = false
def BetAsk (K : Where) (W0 : World) (to : Int) (d : Int) (W : World) : Prop :=
  isDayP d ∧ Cal.workB K.l d = true ∧ BetI K W0 (Cal.betw K.l K.start d) (d + 1) W ∧ K.start ≤ d ∧ ∀ x, to ≤ x → x < d → Cal.workB K.l x = false
def BetOut (K : Where) (W0 : World) (to : Int) (id : Nat) (c : Code) (W : World) : Prop :=
  c = .exit id ∧ Below W0.heap.size W0 W ∧ OwnCell W W0.heap.size (.int .i64 (Cal.betw K.l K.start to))
theorem BetInv.inv {K : Where} {W0 : World} {to : Int} (hK : BetK K W0) (d : Int) (W : World) (h : BetInv K W0 to d W) : DaysInv K d W := h.1.inv hK
theorem BetInv.step {K : Where} {W0 : World} {to : Int} (hK : BetK K W0) (hok : Cal.HolsOk K.l) (d : Int) (A B : World) (h : BetInv K W0 to d A) (hs : DaysStep K d A B) : BetInv K W0 to (d + K.step) B := by
  obtain ⟨h, h1, h2⟩ := h
  obtain ⟨hd, hw, hg, hc⟩ := hs
  have hst := hK.st
  obtain ⟨d1, d2⟩ := id hd
  rw [Cal.workB_eq hok d1 d2] at hw
  have e : Cal.betw K.l K.start (d + K.step) = Cal.betw K.l K.start d := by rw [hst, Cal.betw_succ h1, hw]; simp
  refine ⟨by rw [e]; exact h.step hK hg hc (by omega) (by omega), by omega, fun x hx1 hx2 => ?_⟩
  by_cases hx : x = d
  · rw [hx]; exact hw
  · exact h2 x hx1 (by omega)
theorem BetInv.ask {K : Where} {W0 : World} {to : Int} (hK : BetK K W0) (hok : Cal.HolsOk K.l) (d : Int) (A B : World) (h : BetInv K W0 to d A) (hs : DaysAsk K d A B) : BetAsk K W0 to d B := by
  obtain ⟨h, h1, h2⟩ := h
  obtain ⟨hd, hw, hg, hc⟩ := hs
  have hst := hK.st
  obtain ⟨d1, d2⟩ := id hd
  rw [Cal.workB_eq hok d1 d2] at hw
  rw [hst] at hc
  exact ⟨hd, hw, h.step hK hg hc (by omega) (by omega), h1, h2⟩
theorem BetInv.alloc {K : Where} {W0 : World} {to : Int} (d : Int) (A : World) (o : Obj) (_ : isBook o = true) (h : BetInv K W0 to d A) : BetInv K W0 to d (A.alloc o) :=
  ⟨h.1.book (World.grownBy_alloc A o none) (fun r e => by cases e), h.2⟩
theorem BetInv.put {K : Where} {W0 : World} {to : Int} (d : Int) (A : World) (r : Nat) (o o' : Obj) (hr : W0.heap.size ≤ r) (ho : A.heap[r]? = some o) (hb : isBook o = true) (h : BetInv K W0 to d A) : BetInv K W0 to d (A.putObj r o') :=
  ⟨h.1.book (grownBy_putObj' A r o') (fun r' e => by cases e; exact ⟨hr, o, ho, hb⟩), h.2⟩
theorem BetAsk.put {K : Where} {W0 : World} {to : Int} (d : Int) (A : World) (r : Nat) (o o' : Obj) (hr : W0.heap.size ≤ r) (ho : A.heap[r]? = some o) (hb : isBook o = true) (h : BetAsk K W0 to d A) : BetAsk K W0 to d (A.putObj r o') := by
  obtain ⟨hd, hw, h, h1⟩ := h
  exact ⟨hd, hw, h.book (grownBy_putObj' A r o') (fun r' e => by cases e; exact ⟨hr, o, ho, hb⟩), h1⟩
theorem BetOut.put {K : Where} {W0 : World} {to : Int} {id : Nat} (c : Code) (A : World) (r : Nat) (o o' : Obj) (hr : W0.heap.size ≤ r) (ho : A.heap[r]? = some o) (hb : isBook o = true) (h : BetOut K W0 to id c A) : BetOut K W0 to id c (A.putObj r o') := by
  obtain ⟨hc, hg, h1⟩ := h
  have ho' : Others A (some r) := fun r' e => by cases e; exact ⟨o, ho, not_cells_of_book hb⟩
  have hg' := grownBy_putObj' A r o'
  exact ⟨hc, hg.grown hg' hg.size (fun k e => by cases e; exact hr), h1.kept hg' ho'⟩
def betWorld (W : World) (A : Option Addr) (n c : Nat) (d : Int) : World :=
  (((((W.alloc (.cells #[.int .i64 0] 3)).alloc (.map #[] 0)).alloc (.cells #[.slice A n c, .map (some (W.heap.size + 1))] 79)).alloc (.cells #[.pointer (some ⟨W.heap.size + 2, 0, none⟩)] 61)).alloc (.cells #[.int .i64 d] 3)).alloc (.cells #[.int .i64 1] 3)
theorem bet_start (W : World) (A : Option Addr) (c : Nat) (l : List Hol) (d : Int) (h1 : 0 ≤ d) (h2 : d ≤ 200000) :
    BetI ⟨W.heap.size + 2, W.heap.size + 1, A, c, l, W.heap.size + 6, W.heap.size + 4, W.heap.size + 5, W.heap.size + 3, 1, d⟩ W 0 d (betWorld W A l.length c d) := by
  have n0 := own_new W (.int .i64 0) 3
  have m1 := MapIs.made Tryd.prog 3 intLit (W.alloc (.cells #[.int .i64 0] 3))
  have q2 := cell_alloc_at ((W.alloc (.cells #[.int .i64 0] 3)).alloc (.map #[] 0)) #[.slice A l.length c, .map (some (W.heap.size + 1))] 79
  have n3 := own_new (((W.alloc (.cells #[.int .i64 0] 3)).alloc (.map #[] 0)).alloc (.cells #[.slice A l.length c, .map (some (W.heap.size + 1))] 79)) (.pointer (some ⟨W.heap.size + 2, 0, none⟩)) 61
  have n4 := own_new ((((W.alloc (.cells #[.int .i64 0] 3)).alloc (.map #[] 0)).alloc (.cells #[.slice A l.length c, .map (some (W.heap.size + 1))] 79)).alloc (.cells #[.pointer (some ⟨W.heap.size + 2, 0, none⟩)] 61)) (.int .i64 d) 3
  have n5 := own_new (((((W.alloc (.cells #[.int .i64 0] 3)).alloc (.map #[] 0)).alloc (.cells #[.slice A l.length c, .map (some (W.heap.size + 1))] 79)).alloc (.cells #[.pointer (some ⟨W.heap.size + 2, 0, none⟩)] 61)).alloc (.cells #[.int .i64 d] 3)) (.int .i64 1) 3
  simp only [World.size_alloc] at m1 q2 n3 n4 n5
  have c2 : CalCell (((W.alloc (.cells #[.int .i64 0] 3)).alloc (.map #[] 0)).alloc (.cells #[.slice A l.length c, .map (some (W.heap.size + 1))] 79)) (W.heap.size + 2) (W.heap.size + 1) A c l.length := ⟨q2 0, q2 1, by simp⟩
  have hkc : ∀ {X : World} (o : Obj), CalCell X (W.heap.size + 2) (W.heap.size + 1) A c l.length → CalCell (X.alloc o) (W.heap.size + 2) (W.heap.size + 1) A c l.length := fun o h => h.kept (World.grownBy_alloc _ o none) (fun r e => by cases e)
  refine ⟨?_, by omega, by omega, n5, n4.alloc _, (n3.alloc _).alloc _, hkc _ (hkc _ (hkc _ c2)), ((((n0.alloc _).alloc _).alloc _).alloc _).alloc _, ⟨0, ⟨_, (((m1.alloc _).alloc _).alloc _).alloc _, fun y v h => by cases h⟩, ?_⟩, ?_⟩
  · exact below_step (below_step (below_step (below_step (below_step (below_alloc _ _) (below_alloc _ _)) (below_alloc _ _)) (below_alloc _ _)) (below_alloc _ _)) (below_alloc _ _)
  · unfold stepsLeft; simp only; split <;> omega
  · unfold betWorld; simp
def BetPost (w : World) (l : List Hol) (a b : Int) (e : Ending) (w' : World) : Prop := e = .returned (.tuple #[.int .i64 (Cal.betwN l a b), .int .i64 (Cal.betwE l a b)]) ∧ Below w.heap.size w w'
def BetRPost (w : World) (l : List Hol) (a b : Int) (e : Ending) (w' : World) : Prop := e = .returned (.int .i64 (Cal.betw l a b)) ∧ Below w.heap.size w w'
end Go.Proofs.YtbinoelbjlgjkaaDoor
