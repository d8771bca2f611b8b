/- What the statements rest on: definitions and walks, part 15. -/
import Derived.Test.YtfcjeejhdklkdaaJ14
import Derived.Test.YtfcjeejhdklkdaaJ12
set_option maxRecDepth 100000
set_option maxHeartbeats 16000000
set_option linter.unusedSimpArgs false
set_option linter.unusedVariables false
namespace Go.Proofs.Ytfcjeejhdklkdaa
open Go Go.RowKit Go.Shelf
attribute [local go_sem] Oper.semAt_some
theorem ptB_eq {p q : Pt} (h : p = q) : ptB p q = true := by subst h; unfold ptB; simp
theorem twiceP_get : ∀ (l s : List Pt), Cal.twiceP s l = false → (∀ p ∈ s, p ∉ l) ∧ l.Nodup
 | [], _, _ => ⟨fun _ _ h => (by cases h), List.nodup_nil⟩
 | q :: r, s, h => by
  unfold Cal.twiceP at h
  rw [Bool.or_eq_false_iff] at h
  obtain ⟨h1, h2⟩ := h
  obtain ⟨h3, h4⟩ := twiceP_get r (q :: s) h2
  rw [List.any_eq_false] at h1
  refine ⟨fun p hp hm => ?_, List.nodup_cons.2 ⟨h3 q List.mem_cons_self, h4⟩⟩
  rcases List.mem_cons.1 hm with e | hm
  ·exact h1 p hp (ptB_eq e.symm)
  ·exact h3 p (List.mem_cons_of_mem _ hp) hm
theorem sd_ne {ps : List Pt} (hn : ps.Nodup) (hl : 2 ≤ ps.length) (i : Nat) (hi : i < ps.length) : (Cal.sd ps i).a ≠ (Cal.sd ps i).b := by
 have hmod : (i + 1) % ps.length < ps.length := Nat.mod_lt _ (by omega)
 rw [sd_of (List.getElem?_eq_getElem hi) (List.getElem?_eq_getElem hmod)]
 intro e
 have h := (List.getElem_inj (h₀ := hi) (h₁ := hmod) hn).1 e
 by_cases h1 : i + 1 < ps.length
 ·rw [Nat.mod_eq_of_lt h1] at h; omega
 ·have : i + 1 = ps.length := by omega
  rw [this, Nat.mod_self] at h; omega
structure Plg (w : World) (V : Option Addr) (ps : List Pt) : Prop where
 v : PtsV w V ps
 len : ps.length ≤ 10
 nd : ∀ i, i < ps.length → (Cal.sd ps i).a ≠ (Cal.sd ps i).b
theorem Plg.below {w w' : World} {V : Option Addr} {ps : List Pt} (h : Plg w V ps) (hb : Below w.heap.size w w') : Plg w' V ps := ⟨h.v.below hb, h.len, h.nd⟩
theorem PtsR.plg {w : World} {V : Option Addr} {ps : List Pt} (h : PtsR w V ps) (h0 : Cal.polyE ps = 0) (hl : ps.length ≤ 10) : Plg w V ps :=
 ⟨h.ptsV h0, hl, sd_ne (twiceP_get _ _ (polyE_zero h0).2.2.2.1).2 (by have := (polyE_zero h0).1; omega)⟩
theorem overlap_any (Va Vb : Option Addr) (da db : Nat) (us vs : List Pt) (w : World) (hA : Plg w Va us) (hB : Plg w Vb vs) :
  Calls Try.prog 61 #[.slice Va us.length da, .slice Vb vs.length db] w fun e w' => e = .returned (.bool (Cal.overlapP us vs)) ∧ Below w.heap.size w w' := by
 obtain ⟨c1, h1⟩ : ∃ c, Cal.crossP us vs = c := ⟨_, rfl⟩
 obtain ⟨c2, h2⟩ : ∃ c, Cal.entersP us vs = c := ⟨_, rfl⟩
 obtain ⟨c3, h3⟩ : ∃ c, Cal.entersP vs us = c := ⟨_, rfl⟩
 replace hA := Lib.hid hA
 replace hB := Lib.hid hB
 have hR : Hid (Cal.overlapP us vs = (c1 || (c2 || c3))) := by show _ = _; unfold Cal.overlapP; rw [h1, h2, h3]
 replace h1 := Lib.hid h1
 replace h2 := Lib.hid h2
 replace h3 := Lib.hid h3
 have hb : Hid (Below w.heap.size w w) := Below.refl _ _
 have m1 : Hid True := trivial
 cases c1
 ·cases c2
  ·cases c3
   ·go_enter Try.func61, Try.ntmps61
    go_wp2_with (first | (go_at_call 84; refine (crossing_any _ _ _ _ _ _ _ (hA.out.v.below hb.out).pts (hB.out.v.below hb.out).pts).mono ?_; rintro e wn ⟨rfl, hbn⟩; rw [h1.out]; replace hb := Lib.hid (below_step hb.out hbn); clear hbn) | (go_at_call 85; clear m1; refine (enters_any _ _ _ _ _ _ _ (hA.out.v.below hb.out) (hB.out.v.below hb.out) hB.out.len hA.out.nd).mono ?_; rintro e wn ⟨rfl, hbn⟩; rw [h2.out]; replace hb := Lib.hid (below_step hb.out hbn); clear hbn) | (go_at_call 85; refine (enters_any _ _ _ _ _ _ _ (hB.out.v.below hb.out) (hA.out.v.below hb.out) hA.out.len hB.out.nd).mono ?_; rintro e wn ⟨rfl, hbn⟩; rw [h3.out]; replace hb := Lib.hid (below_step hb.out hbn); clear hbn))
    go_ret
    exact ⟨by rw [hR.out]; rfl, hb.out⟩
   ·go_enter Try.func61, Try.ntmps61
    go_wp2_with (first | (go_at_call 84; refine (crossing_any _ _ _ _ _ _ _ (hA.out.v.below hb.out).pts (hB.out.v.below hb.out).pts).mono ?_; rintro e wn ⟨rfl, hbn⟩; rw [h1.out]; replace hb := Lib.hid (below_step hb.out hbn); clear hbn) | (go_at_call 85; clear m1; refine (enters_any _ _ _ _ _ _ _ (hA.out.v.below hb.out) (hB.out.v.below hb.out) hB.out.len hA.out.nd).mono ?_; rintro e wn ⟨rfl, hbn⟩; rw [h2.out]; replace hb := Lib.hid (below_step hb.out hbn); clear hbn) | (go_at_call 85; refine (enters_any _ _ _ _ _ _ _ (hB.out.v.below hb.out) (hA.out.v.below hb.out) hA.out.len hB.out.nd).mono ?_; rintro e wn ⟨rfl, hbn⟩; rw [h3.out]; replace hb := Lib.hid (below_step hb.out hbn); clear hbn))
    go_ret
    exact ⟨by rw [hR.out]; rfl, hb.out⟩
  ·go_enter Try.func61, Try.ntmps61
   go_wp2_with (first | (go_at_call 84; refine (crossing_any _ _ _ _ _ _ _ (hA.out.v.below hb.out).pts (hB.out.v.below hb.out).pts).mono ?_; rintro e wn ⟨rfl, hbn⟩; rw [h1.out]; replace hb := Lib.hid (below_step hb.out hbn); clear hbn) | (go_at_call 85; clear m1; refine (enters_any _ _ _ _ _ _ _ (hA.out.v.below hb.out) (hB.out.v.below hb.out) hB.out.len hA.out.nd).mono ?_; rintro e wn ⟨rfl, hbn⟩; rw [h2.out]; replace hb := Lib.hid (below_step hb.out hbn); clear hbn) | (go_at_call 85; refine (enters_any _ _ _ _ _ _ _ (hB.out.v.below hb.out) (hA.out.v.below hb.out) hA.out.len hB.out.nd).mono ?_; rintro e wn ⟨rfl, hbn⟩; rw [h3.out]; replace hb := Lib.hid (below_step hb.out hbn); clear hbn))
   go_ret
   exact ⟨by rw [hR.out]; rfl, hb.out⟩
 ·go_enter Try.func61, Try.ntmps61
  go_wp2_with (first | (go_at_call 84; refine (crossing_any _ _ _ _ _ _ _ (hA.out.v.below hb.out).pts (hB.out.v.below hb.out).pts).mono ?_; rintro e wn ⟨rfl, hbn⟩; rw [h1.out]; replace hb := Lib.hid (below_step hb.out hbn); clear hbn) | (go_at_call 85; clear m1; refine (enters_any _ _ _ _ _ _ _ (hA.out.v.below hb.out) (hB.out.v.below hb.out) hB.out.len hA.out.nd).mono ?_; rintro e wn ⟨rfl, hbn⟩; rw [h2.out]; replace hb := Lib.hid (below_step hb.out hbn); clear hbn) | (go_at_call 85; refine (enters_any _ _ _ _ _ _ _ (hB.out.v.below hb.out) (hA.out.v.below hb.out) hA.out.len hB.out.nd).mono ?_; rintro e wn ⟨rfl, hbn⟩; rw [h3.out]; replace hb := Lib.hid (below_step hb.out hbn); clear hbn))
  go_ret
  exact ⟨by rw [hR.out]; rfl, hb.out⟩
end Go.Proofs.Ytfcjeejhdklkdaa
namespace Go.Proofs.Ytfcjeejhdklkdaa
namespace Cal
def turnsR (ps : List Pt) (i : Nat) : Bool := hasP (sd ps i) (sd ps ((i + 1) % ps.length)).b || hasP (sd ps ((i + 1) % ps.length)) (sd ps i).a
def simpleR (ps : List Pt) : Bool := (List.range ps.length).all fun i => !turnsR ps i && (List.range ps.length).all fun k => !badK ps i k
def polyR (p : List Pt) : Int :=
 if p.length < 3 ∨ 40 < p.length then 10 else if ptsErr p = 0 then (if twiceP [] p = true then 5 else if simpleR p = true then (if areaP p ≤ 0 then 9 else 0) else 3) else ptsErr p
theorem sq0I (z : Int) : 0 ≤ z * z := by
 rcases Int.le_total 0 z with h | h
 ·exact Int.mul_nonneg h h
 ·exact Int.mul_nonneg_of_nonpos_of_nonpos h h
theorem sq_pos {z : Int} (h : z ≠ 0) : 0 < z * z := by
 have := sq0I z
 rcases Int.lt_or_eq_of_le this with h1 | h1
 ·exact h1
 ·rcases Int.mul_eq_zero.1 h1.symm with h2 | h2 <;> exact absurd h2 h
theorem way_pos {p q : Pt} (h : p ≠ q) : 0 < (q.x - p.x) * (q.x - p.x) + (q.y - p.y) * (q.y - p.y) := by
 have s1 := sq0I (q.x - p.x)
 have s2 := sq0I (q.y - p.y)
 by_cases h1 : q.x - p.x = 0
 ·have h2 : q.y - p.y ≠ 0 := fun h2 => h (by cases p; cases q; rw [Pt.mk.injEq]; dsimp only at h1 h2; omega)
  have := sq_pos h2
  omega
 ·have := sq_pos h1
  omega
theorem lie_on {a b c : Pt} (hab : a ≠ b) (hbc : b ≠ c) : (hasP ⟨a, b⟩ c || hasP ⟨b, c⟩ a) = true ↔ (crs ⟨a, b⟩ c = 0 ∧ 0 < dotP b a c) := by
 rw [Bool.or_eq_true, has_iff, has_iff]
 dsimp only
 have hU := way_pos (Ne.symm hab)
 have hV := way_pos hbc
 have e0 : crs ⟨b, c⟩ a = crs ⟨a, b⟩ c := by unfold crs; dsimp only; grind
 have e1 : dotP c a b = ((c.x - b.x) * (c.x - b.x) + (c.y - b.y) * (c.y - b.y)) - dotP b a c := by unfold dotP; grind
 have e2 : dotP a b c = ((a.x - b.x) * (a.x - b.x) + (a.y - b.y) * (a.y - b.y)) - dotP b a c := by unfold dotP; grind
 have e3 : dotP b a c * dotP b a c + crs ⟨a, b⟩ c * crs ⟨a, b⟩ c = ((a.x - b.x) * (a.x - b.x) + (a.y - b.y) * (a.y - b.y)) * ((c.x - b.x) * (c.x - b.x) + (c.y - b.y) * (c.y - b.y)) := by
  unfold dotP crs; dsimp only; grind
 rw [e0, e1, e2]
 generalize (a.x - b.x) * (a.x - b.x) + (a.y - b.y) * (a.y - b.y) = U at *
 generalize (c.x - b.x) * (c.x - b.x) + (c.y - b.y) * (c.y - b.y) = V at *
 generalize dotP b a c = D at *
 generalize crs ⟨a, b⟩ c = C at *
 constructor
 ·rintro (⟨h1, h2⟩ | ⟨h1, h2⟩)
  ·exact ⟨h1, by omega⟩
  ·exact ⟨h1, by omega⟩
 ·rintro ⟨h1, h2⟩
  subst h1
  by_cases hv : V - D ≤ 0
  ·exact .inl ⟨rfl, hv⟩
  ·refine .inr ⟨rfl, ?_⟩
   refine Int.not_lt.1 fun hu => ?_
   have p1 := Int.mul_pos (a := U - D) (b := V) (by omega) (by omega)
   have p2 := Int.mul_pos (a := D) (b := V - D) h2 (by omega)
   grind
theorem back_turns {ps : List Pt} (h3 : 3 ≤ ps.length) (hnd : ps.Nodup) {i : Nat} (hi : i < ps.length) : turnsR ps i = backS ps ((i + 1) % ps.length) := by
 have hlt : (i + 1) % ps.length < ps.length := Nat.mod_lt _ (by omega)
 have e0 : ps[((i + 1) % ps.length + ps.length - 1) % ps.length]?.getD pt0 = cor ps i := by
  unfold cor
  have : ((i + 1) % ps.length + ps.length - 1) % ps.length = i % ps.length := by
   have a1 : ((i + 1) % ps.length + ps.length - 1) % ps.length = ((i + 1) % ps.length + (ps.length - 1)) % ps.length := by congr 1; omega
   rw [a1, Nat.mod_add_mod]
   have a2 : i + 1 + (ps.length - 1) = i + ps.length := by omega
   rw [a2, Nat.add_mod_right]
  rw [this]
 have e2 : cor ps ((i + 1) % ps.length + 1) = cor ps (i + 2) := by
  unfold cor
  rw [Nat.mod_add_mod]
 have n1 : cor ps i ≠ cor ps (i + 1) := cor_ne hnd (by omega) (Ne.symm (succ_mod_ne (by omega)))
 have n2 : cor ps (i + 1) ≠ cor ps (i + 2) := cor_ne hnd (by omega) (Ne.symm (succ_mod_ne (by omega)))
 rw [Bool.eq_iff_iff]
 unfold turnsR backS
 rw [sd_cor hi, sd_cor hlt, e0, cor_mod, e2]
 dsimp only
 rw [lie_on n1 n2, Bool.and_eq_true, beq_iff_eq, decide_eq_true_iff, trnZ]
 have e4 : crs ⟨cor ps (i + 1), cor ps (i + 2)⟩ (cor ps i) = crs ⟨cor ps i, cor ps (i + 1)⟩ (cor ps (i + 2)) := by unfold crs; dsimp only; grind
 rw [e4]
theorem simple_ref {ps : List Pt} (h3 : 3 ≤ ps.length) (hnd : ps.Nodup) : simpleR ps = simpleP ps := by
 rw [Bool.eq_iff_iff]
 unfold simpleR simpleP
 simp only [List.all_eq_true, List.mem_range, Bool.and_eq_true, Bool.not_eq_true']
 constructor
 ·intro h i hi
  refine ⟨?_, (h i hi).2⟩
  have hk : (i + (ps.length - 1)) % ps.length < ps.length := Nat.mod_lt _ (by omega)
  have := (h _ hk).1
  rw [back_turns h3 hnd hk] at this
  have e : ((i + (ps.length - 1)) % ps.length + 1) % ps.length = i := by
   rw [Nat.mod_add_mod]
   have : i + (ps.length - 1) + 1 = i + ps.length := by omega
   rw [this, Nat.add_mod_right, Nat.mod_eq_of_lt hi]
  rw [e] at this
  exact this
 ·intro h i hi
  refine ⟨?_, (h i hi).2⟩
  rw [back_turns h3 hnd hi]
  exact (h _ (Nat.mod_lt _ (by omega))).1
theorem ptsErr_mem : ∀ {ps : List Pt}, ptsErr ps = 0 → ∀ p ∈ ps, ptErr p = 0
 | [], _, p, hp => by cases hp
 | q :: r, h, p, hp => by
  unfold ptsErr at h
  split at h
  ·rename_i hq
   rcases List.mem_cons.1 hp with rfl | hp
   ·exact hq
   ·exact ptsErr_mem h p hp
  ·rename_i hq
   exact absurd h hq
theorem polyR_eq (ps : List Pt) : polyR ps = polyE ps := by
 unfold polyR polyE
 by_cases h1 : ps.length < 3 ∨ 40 < ps.length
 ·rw [if_pos h1, if_pos h1]
 ·rw [if_neg h1, if_neg h1]
  by_cases h2 : ptsErr ps = 0
  ·rw [if_pos h2, if_pos h2]
   by_cases h3 : twiceP [] ps = true
   ·rw [if_pos h3, if_pos h3]
   ·rw [if_neg h3, if_neg h3]
    have hnd := (twice_get ps [] (by simpa using h3)).2
    rw [simple_ref (by omega) hnd]
    by_cases h4 : simpleP ps = true
    ·rw [if_pos h4, if_pos h4]
     have hne := Poly.area_ne (ps := ps) ⟨by omega, hnd, h4⟩ (fun p hp => by
      have := ptsErr_mem h2 p hp
      unfold ptErr at this
      split at this
      ·cases this
      ·omega)
     by_cases h5 : areaP ps < 0
     ·rw [if_pos h5, if_pos (by omega)]
     ·rw [if_neg h5, if_neg (by omega)]
    ·rw [if_neg h4, if_neg h4]
  ·rw [if_neg h2, if_neg h2]
theorem polyE_poly {ps : List Pt} (h : polyE ps = 0) : Poly ps ∧ (∀ p ∈ ps, ptErr p = 0) ∧ 0 < areaP ps := by
 rw [← polyR_eq] at h
 unfold polyR at h
 split at h
 ·cases h
 ·rename_i h1
  split at h
  ·rename_i h2
   split at h
   ·cases h
   ·rename_i h3
    split at h
    ·rename_i h4
     split at h
     ·cases h
     ·have hnd := (twice_get ps [] (by simpa using h3)).2
      rw [simple_ref (by omega) hnd] at h4
      exact ⟨⟨by omega, hnd, h4⟩, ptsErr_mem h2, by omega⟩
    ·cases h
  ·rename_i h2; exact absurd h h2
end Cal
end Go.Proofs.Ytfcjeejhdklkdaa
namespace Go.Proofs.Ytfcjeejhdklkdaa
open Go Go.RowKit Go.Shelf
def fewL (n : Nat) : Bool := decide (n ≤ 10) || (decide (40 < n) && decide (n ≤ 60))
theorem few_any (V : Option Addr) (n d : Nat) (w : World) (hn : n ≤ 1000000) : Calls Try.prog 26 #[.slice V n d] w fun e w' => e = .returned (.bool (fewL n)) ∧ Below w.heap.size w w' := by
 have hlo : IntKind.i64.wrap (n : Int) = (n : Int) := wrap_small (by omega) (by omega)
 by_cases h1 : n ≤ 10
 ·have hf : Hid (fewL n = true) := by show _ = _; unfold fewL; rw [decide_eq_true h1]; rfl
  have hi : (n : Int) ≤ 10 := by omega
  go_enter Try.func26, Try.ntmps26
  go_wp2_with fail
  go_ret
  exact ⟨by rw [hf.out]; rfl, blw⟩
 ·have hi : ¬ (n : Int) ≤ 10 := by omega
  by_cases h2 : 40 < n
  ·have hi2 : (40 : Int) < n := by omega
   by_cases h3 : n ≤ 60
   ·have hf : Hid (fewL n = true) := by show _ = _; unfold fewL; rw [decide_eq_true h2, decide_eq_true h3]; simp
    have hi3 : (n : Int) ≤ 60 := by omega
    go_enter Try.func26, Try.ntmps26
    go_wp2_with fail
    go_ret
    exact ⟨by rw [hf.out]; rfl, blw⟩
   ·have hf : Hid (fewL n = false) := by show _ = _; unfold fewL; rw [decide_eq_false h1, decide_eq_false h3]; simp
    have hi3 : ¬ (n : Int) ≤ 60 := by omega
    go_enter Try.func26, Try.ntmps26
    go_wp2_with fail
    go_ret
    exact ⟨by rw [hf.out]; rfl, blw⟩
  ·have hf : Hid (fewL n = false) := by show _ = _; unfold fewL; rw [decide_eq_false h1, decide_eq_false h2]; simp
   have hi2 : ¬ (40 : Int) < n := by omega
   go_enter Try.func26, Try.ntmps26
   go_wp2_with fail
   go_ret
   exact ⟨by rw [hf.out]; rfl, blw⟩
theorem inPl_err (q : Pt) : inPl q = true ↔ Cal.ptErr q = 0 := by
 unfold inPl inR Cal.ptErr
 simp only [Bool.and_eq_true, decide_eq_true_eq]
 constructor
 ·intro h; rw [if_neg (by omega)]
 ·intro h
  split at h
  ·cases h
  ·omega
theorem ptErr_two {q : Pt} (h : Cal.ptErr q ≠ 0) : Cal.ptErr q = 2 := by
 unfold Cal.ptErr at h ⊢
 split
 ·rfl
 ·rename_i h1; rw [if_neg h1] at h; exact absurd rfl h
theorem ptsErr_first : ∀ (ps : List Pt) (k : Nat) (hk : k < ps.length), (∀ j (hj : j < k), Cal.ptErr (ps[j]'(Nat.lt_trans hj hk)) = 0) → Cal.ptErr ps[k] ≠ 0 → Cal.ptsErr ps = 2
 | q :: r, 0, _, _, h => by
  have h : Cal.ptErr q ≠ 0 := h
  unfold Cal.ptsErr
  rw [if_neg h]
  exact ptErr_two h
 | q :: r, k + 1, hk, hb, h => by
  have h0 : Cal.ptErr q = 0 := hb 0 (Nat.succ_pos k)
  unfold Cal.ptsErr
  rw [if_pos h0]
  exact ptsErr_first r k (by simpa using hk) (fun j hj => hb (j + 1) (by omega)) h
theorem ptsErr_all : ∀ (ps : List Pt), (∀ k (hk : k < ps.length), Cal.ptErr ps[k] = 0) → Cal.ptsErr ps = 0
 | [], _ => rfl
 | q :: r, h => by
  have h0 : Cal.ptErr q = 0 := h 0 (by simp)
  unfold Cal.ptsErr
  rw [if_pos h0]
  exact ptsErr_all r (fun k hk => h (k + 1) (by simpa using hk))
theorem twiceP_of : ∀ (l s : List Pt), (∀ p ∈ s, p ∉ l) → l.Nodup → Cal.twiceP s l = false
 | [], _, _, _ => rfl
 | q :: r, s, hs, hn => by
  unfold Cal.twiceP
  rw [List.nodup_cons] at hn
  rw [Bool.or_eq_false_iff]
  constructor
  ·rw [List.any_eq_false]
   intro p hp he
   have : q = p := ptB_iff.1 he
   exact hs p hp (this ▸ List.mem_cons_self)
  ·refine twiceP_of r (q :: s) (fun p hp => ?_) hn.2
   rcases List.mem_cons.1 hp with rfl | hp
   ·exact hn.1
   ·exact fun hm => hs p hp (List.mem_cons_of_mem _ hm)
theorem twiceP_pairs {ps : List Pt} (h : ∀ i (hi : i < ps.length) k (hk : k < i), ps[k]'(Nat.lt_trans hk hi) ≠ ps[i]) : Cal.twiceP [] ps = false := by
 refine twiceP_of ps [] (fun p hp => by cases hp) ?_
 rw [List.nodup_iff_pairwise_ne, List.pairwise_iff_getElem]
 exact fun i j hi hj hij => h j hj i hij
theorem twiceP_hit {ps : List Pt} {i k : Nat} (hi : i < ps.length) (hk : k < i) (he : ps[k]'(Nat.lt_trans hk hi) = ps[i]) : Cal.twiceP [] ps = true := by
 cases h : Cal.twiceP [] ps
 ·have hn := (twiceP_get ps [] h).2
  rw [List.nodup_iff_pairwise_ne, List.pairwise_iff_getElem] at hn
  exact absurd he (hn k i _ hi hk)
 ·rfl
end Go.Proofs.Ytfcjeejhdklkdaa
namespace Go.Proofs.Ytfcjeejhdklkdaa
open Go Go.RowKit Go.Shelf
theorem Sx.putC {w W : World} {L : List (Nat × Nat × Value)} {b : Nat} {vs : List Value} (h : Sx w L W) (hb : w.heap.size ≤ b) (hL : ∀ x ∈ L, x.1 < w.heap.size) : Sx w L (W.setCells b 0 vs) :=
 ⟨fun x hx => (World.cell?_of_block (a := ⟨x.1, x.2.1, none⟩) ((grown_setCells b vs 0 W).block x.1 (Nat.lt_of_lt_of_le (hL x hx) h.bel.size) (fun e => by have := hL x hx; have := Option.some.inj e; omega))).trans (h.cs x hx), below_of_grownB h.bel (grown_setCells b vs 0 W) hb⟩
end Go.Proofs.Ytfcjeejhdklkdaa
namespace Go.Proofs.Ytfcjeejhdklkdaa.Cal
def sclH (p : Int) (h : Int × Int) : Int := h.1 * p.tdiv h.2
def xs (p : Int) (fr : List (Int × Int)) (i : Nat) : Int := sclH p (fr[i]?.getD (0, 1))
end Go.Proofs.Ytfcjeejhdklkdaa.Cal
namespace Go.Proofs.Ytfcjeejhdklkdaa
open Go Go.RowKit Go.Shelf
theorem Sx.grow {w W W' : World} {L : List (Nat × Nat × Value)} {row : Option Nat} (h : Sx w L W) (hg : W.grownBy W' row) (hw : ∀ g, row = some g → w.heap.size ≤ g) (hL : ∀ x ∈ L, row ≠ some x.1 ∧ x.1 < W.heap.size) : Sx w L W' :=
 ⟨fun x hx => (World.cell?_of_block (a := ⟨x.1, x.2.1, none⟩) (hg.block x.1 (hL x hx).2 (fun e => (hL x hx).1 e.symm))).trans (h.cs x hx), h.bel.trans ((Below.refl _ _).grown hg h.bel.size (fun k e => hw k e))⟩
end Go.Proofs.Ytfcjeejhdklkdaa
namespace Go.Proofs.Ytfcjeejhdklkdaa
open Go Go.RowKit Go.Shelf
theorem undPtsW : Try.prog.underlying 48 = some (.slice (Try.prog.elem 48)) := by kernel_rfl
theorem sizePtW (w : World) : (sizeOf (Try.prog.elem 48)).run Try.prog w = .ok 2 w := by kernel_rfl
theorem elemPtW : Elem Try.prog 48 75 2 16 := Elem.mk' Try.underlying48 (z := .agg #[.int .i64 0, .int .i64 0]) (by kernel_rfl) rfl (by decide)
theorem cut_headP {t : TypeId} {m : Nat} (hu : Try.prog.underlying t = some (.slice (Try.prog.elem t))) (hz : ∀ w, (sizeOf (Try.prog.elem t)).run Try.prog w = .ok m w) {w : World} {A : Option Addr} {n c : Nat} {rows : List (List Value)} (hr : RowsAt w A m rows) (hc : n ≤ c) {k : Nat} (hk : k ≤ n) :
  ∃ A1 c1, (∀ w', (Instr.slice t (.slice A n c) none (some (.int .i64 (k : Int))) none).run Try.prog w' = .ok (.slice A1 k c1) w') ∧ RowsAt w A1 m (rows.take k) := by
 have hr1 : RowsAt w A m (rows.take k) := fun j r hr' => by
  refine hr j r ?_
  rw [List.getElem?_take] at hr'
  split at hr'
  ·exact hr'
  ·cases hr'
 refine ⟨if c = 0 then A else A.map (·.add (0 * m)), c - 0, fun w' => ?_, ?_⟩
 ·rw [run_slice_h w' t A n c hu .i64 k (by omega) (by omega), hz]
  simp [Result.andThen, sliced]
 ·split
  ·exact hr1
  ·intro j r hj
   obtain ⟨b, o, hA, hb, hcell⟩ := hr1 j r hj
   exact ⟨b, o, by rw [hA, Option.map_some, Nat.zero_mul]; rfl, hb, hcell⟩
theorem ptRows_wid (ps : List Pt) : ∀ r ∈ ps.map ptR, r.length = 2 := fun r hr => by obtain ⟨p, _, rfl⟩ := List.mem_map.1 hr; rfl
theorem ptRows_one (ps : List Pt) : ∀ r ∈ ps.map ptR, ∀ u ∈ r, u.oneCell' = true := fun r hr u hu => by
 obtain ⟨p, _, rfl⟩ := List.mem_map.1 hr
 unfold ptR at hu
 rcases List.mem_cons.1 hu with e | hu
 ·rw [e]; rfl
 ·rw [List.mem_singleton.1 hu]; rfl
theorem erase_rows {ps : List Pt} {k : Nat} : (ps.take k).map ptR ++ (ps.drop (k + 1)).map ptR = (ps.eraseIdx k).map ptR := by
 rw [← List.map_append, List.eraseIdx_eq_take_drop_succ]
theorem part_len {n k : Nat} (hk : k < n) (hn : n ≤ 1000000) : k ≤ 4000000000 ∧ k + (n - (k + 1)) ≤ 4000000000 ∧ min k n = k := by omega
theorem withoutR_any (V : Option Addr) (d : Nat) (ps : List Pt) (k : Nat) (w : World) (hP : RowsAt w V 2 (ps.map ptR)) (hd : ps.length ≤ d) (hk : k < ps.length) (hn : ps.length ≤ 1000000) :
  Calls Try.prog 91 #[.slice V ps.length d, .int .i64 (k : Int)] w fun e w' => ∃ v, e = .returned v ∧ OwnL w' w.heap.size 75 2 v ((ps.eraseIdx k).map ptR) ∧ Below w.heap.size w w' := by
 obtain ⟨A1, d1, hcut1, hr1⟩ := cut_headP undPtsW sizePtW hP hd (k := k) (by omega)
 obtain ⟨A2, d2, hcut2, _, hr2⟩ := cut_tail undPtsW sizePtW (n := ps.length) (c := d) (by rw [List.length_map]) hP hd (k := k + 1) (by omega)
 rw [← List.map_take] at hr1
 rw [← List.map_drop] at hr2
 have hcut1' : ∀ w', (Instr.slice 48 (.slice V ps.length d) none (some (.int .i64 (k : Int))) none).run Try.prog w' = .ok (.slice A1 k d1) w' := hcut1
 have hcut2' : ∀ w', (Instr.slice 48 (.slice V ps.length d) (some (.int .i64 ((k : Int) + 1))) none none).run Try.prog w' = .ok (.slice A2 (ps.length - (k + 1)) d2) w' := by
  have e : ((k + 1 : Nat) : Int) = (k : Int) + 1 := by omega
  rw [e] at hcut2
  exact hcut2
 have hk1 : IntKind.i64.wrap ((k : Int) + 1) = (k : Int) + 1 := wrap_small (by omega) (by omega)
 have hk1b : wrap64 ((k : Int) + 1) = (k : Int) + 1 := by rw [← wrap_eq]; exact hk1
 obtain ⟨q1, q2, q3⟩ := part_len hk hn
 have q1 := Lib.hid q1
 have q2 := Lib.hid q2
 have hl1 : Hid ((ps.take k).length = k) := by show _ = _; rw [List.length_take]; exact q3
 have hl2 : Hid ((ps.drop (k + 1)).length = ps.length - (k + 1)) := by show _ = _; rw [List.length_drop]
 replace hr1 := Lib.hid (hr1.below ((Below.refl _ _).drew))
 replace hr2 := Lib.hid (hr2.below ((Below.refl _ _).drew))
 have hws : Hid (w.heap.size ≤ w.drew.heap.size) := Nat.le_refl _
 clear q3 hcut1 hcut2 hP
 go_enter Try.func91, Try.ntmps91
 go_wp2_with fail
 refine wp_region_held_drew (S := Sx w []) (by kernel_rfl) (Sx.mk (cs_nil _) (Below.refl _ _)).drew (fun hHeld => ?_)
 generalize w.drew = Y at *
 refine tkHx 1 6 ?_
 refine tkHx 2 7 ?_
 refine tkHx 3 8 ?_
 refine tkHx 5 10 ?_
 refine tkHx 6 11 ?_
 refine tkHx 7 12 ?_
 refine tkHx 8 13 ?_
 (refine ratHx 0 (fun K hK => ?_); go_simp)
 refine hK.out _ _ (hHeld.alloc _) (fun hHeld => ?_)
 clear hK K
 (try simp only [apS, apN, siA, scZ, scS])
 have hmade := Lib.hid (OwnL.made Y Y.heap.size 75 2 (Nat.le_refl _))
 (refine wpAnyH_ready (rs := [4]) (by decide +kernel) (by simp) ?_; refine AllReadyH.cons rfl (fun K hK => ?_) AllReadyH.nil)
 refine step_append_rows elemPtW (by rfl) (.tmp 5) (.tmp 8) (by rfl) (by rfl) (by rfl) hmade.out (hr1.out.below (below_alloc _ _)) (by rw [List.length_map, hl1.out]) (ptRows_wid _) (ptRows_one _) (by rw [List.length_map, hl1.out, List.length_nil, Nat.zero_add]; exact q1.out) (by decide) (by rw [World.size_alloc]; exact Nat.le_succ _) ?_
 intro v1 w5 hown5 hg5 hob5
 have hb5 := Lib.hid (((Below.refl _ _).alloc (Nat.le_refl _) _).trans (grown_below hg5 (fun g e => (OwnL.lt hmade.out g e).1) (by rw [World.size_alloc]; exact Nat.le_succ _)) : Below Y.heap.size Y w5)
 refine hK.out _ _ (hHeld.grow hg5 (fun g e => Nat.le_trans hws.out (OwnL.lt hmade.out g e).1) (fun x hx => by cases hx)) (fun hHeld => ?_)
 clear hK K hg5 hob5
 (try simp only [apS, apN, siA, scZ, scS])
 (refine wpAnyH_ready (rs := [9]) (by decide +kernel) (by simp) ?_; refine AllReadyH.cons rfl (fun K hK => ?_) AllReadyH.nil)
 refine step_append_rows elemPtW (by rfl) (.tmp 9) (.tmp 13) (by rfl) (by rfl) (by rfl) hown5 (hr2.out.below hb5.out) (by rw [List.length_map, hl2.out]) (ptRows_wid _) (ptRows_one _) (by rw [List.length_map, hl2.out, List.nil_append, List.length_map, hl1.out]; exact q2.out) (by decide) hb5.out.size ?_
 intro v2 w6 hown6 hg6 hob6
 refine hK.out _ _ (hHeld.grow hg6 (fun g e => Nat.le_trans hws.out (OwnL.lt hown5 g e).1) (fun x hx => by cases hx)) (fun hHeld => ?_)
 clear hK K hg6 hob6
 rw [List.nil_append, erase_rows] at hown6
 (try simp only [apS, apN, siA, scZ, scS])
 dsimp only [List.getElem_toArray, List.getElem_cons_succ, List.getElem_cons_zero]
 (try simp only [apS, apN, siA, scZ, scS])
 refine tkHx 10 4 ?_
 refine wpAnyH_done (by kernel_rfl) ?_ _
 (try simp only [apS, apN, siA, scZ, scS])
 go_wp2_with fail
 go_ret
 exact ⟨v2, rfl, OwnL.less hown6 hws.out, hHeld.bel⟩
end Go.Proofs.Ytfcjeejhdklkdaa
