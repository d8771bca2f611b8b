/- What the statements rest on: definitions and walks, part 21. -/
import Derived.Test.YtfcjeejhdklkdaaJ20
import Derived.Test.YtfcjeejhdklkdaaJ12
import Derived.Test.YtfcjeejhdklkdaaJ13
set_option maxRecDepth 100000
set_option maxHeartbeats 16000000
set_option linter.unusedSimpArgs false
set_option linter.unusedVariables false
namespace Go.Proofs.Ytfcjeejhdklkdaa
namespace Cal
def turnsR (ps : List Pt) (i : Nat) : Bool := hasP (sd ps i) (sd ps ((i + 1) % ps.length)).b || hasP (sd ps ((i + 1) % ps.length)) (sd ps i).a
def simpleR (ps : List Pt) : Bool := (List.range ps.length).all fun i => !turnsR ps i && (List.range ps.length).all fun k => !badK ps i k
def polyR (p : List Pt) : Int :=
 if p.length < 3 ∨ 40 < p.length then 10 else if ptsErr p = 0 then (if twiceP [] p = true then 5 else if simpleR p = true then (if areaP p ≤ 0 then 9 else 0) else 3) else ptsErr p
theorem sq0I (z : Int) : 0 ≤ z * z := by
 rcases Int.le_total 0 z with h | h
 ·exact Int.mul_nonneg h h
 ·exact Int.mul_nonneg_of_nonpos_of_nonpos h h
theorem sq_pos {z : Int} (h : z ≠ 0) : 0 < z * z := by
 have := sq0I z
 rcases Int.lt_or_eq_of_le this with h1 | h1
 ·exact h1
 ·rcases Int.mul_eq_zero.1 h1.symm with h2 | h2 <;> exact absurd h2 h
theorem way_pos {p q : Pt} (h : p ≠ q) : 0 < (q.x - p.x) * (q.x - p.x) + (q.y - p.y) * (q.y - p.y) := by
 have s1 := sq0I (q.x - p.x)
 have s2 := sq0I (q.y - p.y)
 by_cases h1 : q.x - p.x = 0
 ·have h2 : q.y - p.y ≠ 0 := fun h2 => h (by cases p; cases q; rw [Pt.mk.injEq]; dsimp only at h1 h2; omega)
  have := sq_pos h2
  omega
 ·have := sq_pos h1
  omega
theorem lie_on {a b c : Pt} (hab : a ≠ b) (hbc : b ≠ c) : (hasP ⟨a, b⟩ c || hasP ⟨b, c⟩ a) = true ↔ (crs ⟨a, b⟩ c = 0 ∧ 0 < dotP b a c) := by
 rw [Bool.or_eq_true, has_iff, has_iff]
 dsimp only
 have hU := way_pos (Ne.symm hab)
 have hV := way_pos hbc
 have e0 : crs ⟨b, c⟩ a = crs ⟨a, b⟩ c := by unfold crs; dsimp only; grind
 have e1 : dotP c a b = ((c.x - b.x) * (c.x - b.x) + (c.y - b.y) * (c.y - b.y)) - dotP b a c := by unfold dotP; grind
 have e2 : dotP a b c = ((a.x - b.x) * (a.x - b.x) + (a.y - b.y) * (a.y - b.y)) - dotP b a c := by unfold dotP; grind
 have e3 : dotP b a c * dotP b a c + crs ⟨a, b⟩ c * crs ⟨a, b⟩ c = ((a.x - b.x) * (a.x - b.x) + (a.y - b.y) * (a.y - b.y)) * ((c.x - b.x) * (c.x - b.x) + (c.y - b.y) * (c.y - b.y)) := by
  unfold dotP crs; dsimp only; grind
 rw [e0, e1, e2]
 generalize (a.x - b.x) * (a.x - b.x) + (a.y - b.y) * (a.y - b.y) = U at *
 generalize (c.x - b.x) * (c.x - b.x) + (c.y - b.y) * (c.y - b.y) = V at *
 generalize dotP b a c = D at *
 generalize crs ⟨a, b⟩ c = C at *
 constructor
 ·rintro (⟨h1, h2⟩ | ⟨h1, h2⟩)
  ·exact ⟨h1, by omega⟩
  ·exact ⟨h1, by omega⟩
 ·rintro ⟨h1, h2⟩
  subst h1
  by_cases hv : V - D ≤ 0
  ·exact .inl ⟨rfl, hv⟩
  ·refine .inr ⟨rfl, ?_⟩
   refine Int.not_lt.1 fun hu => ?_
   have p1 := Int.mul_pos (a := U - D) (b := V) (by omega) (by omega)
   have p2 := Int.mul_pos (a := D) (b := V - D) h2 (by omega)
   grind
theorem back_turns {ps : List Pt} (h3 : 3 ≤ ps.length) (hnd : ps.Nodup) {i : Nat} (hi : i < ps.length) : turnsR ps i = backS ps ((i + 1) % ps.length) := by
 have hlt : (i + 1) % ps.length < ps.length := Nat.mod_lt _ (by omega)
 have e0 : ps[((i + 1) % ps.length + ps.length - 1) % ps.length]?.getD pt0 = cor ps i := by
  unfold cor
  have : ((i + 1) % ps.length + ps.length - 1) % ps.length = i % ps.length := by
   have a1 : ((i + 1) % ps.length + ps.length - 1) % ps.length = ((i + 1) % ps.length + (ps.length - 1)) % ps.length := by congr 1; omega
   rw [a1, Nat.mod_add_mod]
   have a2 : i + 1 + (ps.length - 1) = i + ps.length := by omega
   rw [a2, Nat.add_mod_right]
  rw [this]
 have e2 : cor ps ((i + 1) % ps.length + 1) = cor ps (i + 2) := by
  unfold cor
  rw [Nat.mod_add_mod]
 have n1 : cor ps i ≠ cor ps (i + 1) := cor_ne hnd (by omega) (Ne.symm (succ_mod_ne (by omega)))
 have n2 : cor ps (i + 1) ≠ cor ps (i + 2) := cor_ne hnd (by omega) (Ne.symm (succ_mod_ne (by omega)))
 rw [Bool.eq_iff_iff]
 unfold turnsR backS
 rw [sd_cor hi, sd_cor hlt, e0, cor_mod, e2]
 dsimp only
 rw [lie_on n1 n2, Bool.and_eq_true, beq_iff_eq, decide_eq_true_iff, trnZ]
 have e4 : crs ⟨cor ps (i + 1), cor ps (i + 2)⟩ (cor ps i) = crs ⟨cor ps i, cor ps (i + 1)⟩ (cor ps (i + 2)) := by unfold crs; dsimp only; grind
 rw [e4]
theorem simple_ref {ps : List Pt} (h3 : 3 ≤ ps.length) (hnd : ps.Nodup) : simpleR ps = simpleP ps := by
 rw [Bool.eq_iff_iff]
 unfold simpleR simpleP
 simp only [List.all_eq_true, List.mem_range, Bool.and_eq_true, Bool.not_eq_true']
 constructor
 ·intro h i hi
  refine ⟨?_, (h i hi).2⟩
  have hk : (i + (ps.length - 1)) % ps.length < ps.length := Nat.mod_lt _ (by omega)
  have := (h _ hk).1
  rw [back_turns h3 hnd hk] at this
  have e : ((i + (ps.length - 1)) % ps.length + 1) % ps.length = i := by
   rw [Nat.mod_add_mod]
   have : i + (ps.length - 1) + 1 = i + ps.length := by omega
   rw [this, Nat.add_mod_right, Nat.mod_eq_of_lt hi]
  rw [e] at this
  exact this
 ·intro h i hi
  refine ⟨?_, (h i hi).2⟩
  rw [back_turns h3 hnd hi]
  exact (h _ (Nat.mod_lt _ (by omega))).1
theorem ptsErr_mem : ∀ {ps : List Pt}, ptsErr ps = 0 → ∀ p ∈ ps, ptErr p = 0
 | [], _, p, hp => by cases hp
 | q :: r, h, p, hp => by
  unfold ptsErr at h
  split at h
  ·rename_i hq
   rcases List.mem_cons.1 hp with rfl | hp
   ·exact hq
   ·exact ptsErr_mem h p hp
  ·rename_i hq
   exact absurd h hq
theorem polyR_eq (ps : List Pt) : polyR ps = polyE ps := by
 unfold polyR polyE
 by_cases h1 : ps.length < 3 ∨ 40 < ps.length
 ·rw [if_pos h1, if_pos h1]
 ·rw [if_neg h1, if_neg h1]
  by_cases h2 : ptsErr ps = 0
  ·rw [if_pos h2, if_pos h2]
   by_cases h3 : twiceP [] ps = true
   ·rw [if_pos h3, if_pos h3]
   ·rw [if_neg h3, if_neg h3]
    have hnd := (twice_get ps [] (by simpa using h3)).2
    rw [simple_ref (by omega) hnd]
    by_cases h4 : simpleP ps = true
    ·rw [if_pos h4, if_pos h4]
     have hne := Poly.area_ne (ps := ps) ⟨by omega, hnd, h4⟩ (fun p hp => by
      have := ptsErr_mem h2 p hp
      unfold ptErr at this
      split at this
      ·cases this
      ·omega)
     by_cases h5 : areaP ps < 0
     ·rw [if_pos h5, if_pos (by omega)]
     ·rw [if_neg h5, if_neg (by omega)]
    ·rw [if_neg h4, if_neg h4]
  ·rw [if_neg h2, if_neg h2]
theorem polyE_poly {ps : List Pt} (h : polyE ps = 0) : Poly ps ∧ (∀ p ∈ ps, ptErr p = 0) ∧ 0 < areaP ps := by
 rw [← polyR_eq] at h
 unfold polyR at h
 split at h
 ·cases h
 ·rename_i h1
  split at h
  ·rename_i h2
   split at h
   ·cases h
   ·rename_i h3
    split at h
    ·rename_i h4
     split at h
     ·cases h
     ·have hnd := (twice_get ps [] (by simpa using h3)).2
      rw [simple_ref (by omega) hnd] at h4
      exact ⟨⟨by omega, hnd, h4⟩, ptsErr_mem h2, by omega⟩
    ·cases h
  ·rename_i h2; exact absurd h h2
end Cal
end Go.Proofs.Ytfcjeejhdklkdaa
namespace Go.Proofs.Ytfcjeejhdklkdaa
open Go Go.RowKit Go.Shelf
theorem inPl_err (q : Pt) : inPl q = true ↔ Cal.ptErr q = 0 := by
 unfold inPl inR Cal.ptErr
 simp only [Bool.and_eq_true, decide_eq_true_eq]
 constructor
 ·intro h; rw [if_neg (by omega)]
 ·intro h
  split at h
  ·cases h
  ·omega
theorem ptErr_two {q : Pt} (h : Cal.ptErr q ≠ 0) : Cal.ptErr q = 2 := by
 unfold Cal.ptErr at h ⊢
 split
 ·rfl
 ·rename_i h1; rw [if_neg h1] at h; exact absurd rfl h
theorem ptsErr_first : ∀ (ps : List Pt) (k : Nat) (hk : k < ps.length), (∀ j (hj : j < k), Cal.ptErr (ps[j]'(Nat.lt_trans hj hk)) = 0) → Cal.ptErr ps[k] ≠ 0 → Cal.ptsErr ps = 2
 | q :: r, 0, _, _, h => by
  have h : Cal.ptErr q ≠ 0 := h
  unfold Cal.ptsErr
  rw [if_neg h]
  exact ptErr_two h
 | q :: r, k + 1, hk, hb, h => by
  have h0 : Cal.ptErr q = 0 := hb 0 (Nat.succ_pos k)
  unfold Cal.ptsErr
  rw [if_pos h0]
  exact ptsErr_first r k (by simpa using hk) (fun j hj => hb (j + 1) (by omega)) h
theorem ptsErr_all : ∀ (ps : List Pt), (∀ k (hk : k < ps.length), Cal.ptErr ps[k] = 0) → Cal.ptsErr ps = 0
 | [], _ => rfl
 | q :: r, h => by
  have h0 : Cal.ptErr q = 0 := h 0 (by simp)
  unfold Cal.ptsErr
  rw [if_pos h0]
  exact ptsErr_all r (fun k hk => h (k + 1) (by simpa using hk))
theorem twiceP_of : ∀ (l s : List Pt), (∀ p ∈ s, p ∉ l) → l.Nodup → Cal.twiceP s l = false
 | [], _, _, _ => rfl
 | q :: r, s, hs, hn => by
  unfold Cal.twiceP
  rw [List.nodup_cons] at hn
  rw [Bool.or_eq_false_iff]
  constructor
  ·rw [List.any_eq_false]
   intro p hp he
   have : q = p := ptB_iff.1 he
   exact hs p hp (this ▸ List.mem_cons_self)
  ·refine twiceP_of r (q :: s) (fun p hp => ?_) hn.2
   rcases List.mem_cons.1 hp with rfl | hp
   ·exact hn.1
   ·exact fun hm => hs p hp (List.mem_cons_of_mem _ hm)
theorem twiceP_pairs {ps : List Pt} (h : ∀ i (hi : i < ps.length) k (hk : k < i), ps[k]'(Nat.lt_trans hk hi) ≠ ps[i]) : Cal.twiceP [] ps = false := by
 refine twiceP_of ps [] (fun p hp => by cases hp) ?_
 rw [List.nodup_iff_pairwise_ne, List.pairwise_iff_getElem]
 exact fun i j hi hj hij => h j hj i hij
theorem twiceP_hit {ps : List Pt} {i k : Nat} (hi : i < ps.length) (hk : k < i) (he : ps[k]'(Nat.lt_trans hk hi) = ps[i]) : Cal.twiceP [] ps = true := by
 cases h : Cal.twiceP [] ps
 ·have hn := (twiceP_get ps [] h).2
  rw [List.nodup_iff_pairwise_ne, List.pairwise_iff_getElem] at hn
  exact absurd he (hn k i _ hi hk)
 ·rfl
end Go.Proofs.Ytfcjeejhdklkdaa
namespace Go.Proofs.Ytfcjeejhdklkdaa
open Go Go.RowKit Go.Shelf
theorem elemPtW : Elem Try.prog 48 75 2 16 := Elem.mk' Try.underlying48 (z := .agg #[.int .i64 0, .int .i64 0]) (by kernel_rfl) rfl (by decide)
theorem ptRows_wid (ps : List Pt) : ∀ r ∈ ps.map ptR, r.length = 2 := fun r hr => by obtain ⟨p, _, rfl⟩ := List.mem_map.1 hr; rfl
theorem ptRows_one (ps : List Pt) : ∀ r ∈ ps.map ptR, ∀ u ∈ r, u.oneCell' = true := fun r hr u hu => by
 obtain ⟨p, _, rfl⟩ := List.mem_map.1 hr
 unfold ptR at hu
 rcases List.mem_cons.1 hu with e | hu
 ·rw [e]; rfl
 ·rw [List.mem_singleton.1 hu]; rfl
end Go.Proofs.Ytfcjeejhdklkdaa
namespace Go.Proofs.Ytfcjeejhdklkdaa
open Go Go.RowKit Go.Shelf
theorem onSg_split (s : Sd) (q : Pt) : Cal.onSg s q = (decide (Cal.crs s q = 0) && ((decide (min s.a.x s.b.x ≤ q.x) && decide (q.x ≤ max s.a.x s.b.x)) && (decide (min s.a.y s.b.y ≤ q.y) && decide (q.y ≤ max s.a.y s.b.y)))) := by
 unfold Cal.onSg
 rw [Bool.decide_and, Bool.decide_and]
theorem OnR_any (s : Sd) (q : Pt) (w : World) (hs : SmS s) (hq : SmP q) : Calls Try.prog 88 #[.agg #[.int .i64 s.a.x, .int .i64 s.a.y, .int .i64 s.b.x, .int .i64 s.b.y], .agg #[.int .i64 q.x, .int .i64 q.y]] w fun e w' => e = .returned (.bool (Cal.hasP s q)) ∧ Below w.heap.size w w' := by
 rw [Cal.has_on, onSg_split]
 have hb := Lib.hid (below_step (below_alloc w (.cells #[.int .i64 s.a.x, .int .i64 s.a.y, .int .i64 s.b.x, .int .i64 s.b.y] 97)) (below_alloc _ (.cells #[.int .i64 q.x, .int .i64 q.y] 75)))
 have hS := Lib.hid ((BoxAt.new w #[.int .i64 s.a.x, .int .i64 s.a.y, .int .i64 s.b.x, .int .i64 s.b.y] 97).alloc (.cells #[.int .i64 q.x, .int .i64 q.y] 75))
 have hQ := Lib.hid (BoxAt.new (w.alloc (.cells #[.int .i64 s.a.x, .int .i64 s.a.y, .int .i64 s.b.x, .int .i64 s.b.y] 97)) #[.int .i64 q.x, .int .i64 q.y] 75)
 have hc := Lib.hid (fun W => crossR_any s.a s.b q W hs.a hs.b hq)
 obtain ⟨bx, hbx⟩ : ∃ b, (decide (min s.a.x s.b.x ≤ q.x) && decide (q.x ≤ max s.a.x s.b.x)) = b := ⟨_, rfl⟩
 have h1 := Lib.hid (fun W => by have := Within_any q.x (min s.a.x s.b.x) (max s.a.x s.b.x) W; rw [hbx] at this; exact this)
 have h2 := Lib.hid (fun W => Within_any q.y (min s.a.y s.b.y) (max s.a.y s.b.y) W)
 rw [hbx]
 replace hc : Hid (∀ W, Calls Try.prog 92 #[.agg #[.int .i64 s.a.x, .int .i64 s.a.y], .agg #[.int .i64 s.b.x, .int .i64 s.b.y], .agg #[.int .i64 q.x, .int .i64 q.y]] W fun e w' => e = .returned (.int .i64 (Cal.crs s q)) ∧ Below W.heap.size W w') := hc.out
 by_cases hz : Cal.crs s q = 0
 ·rw [hz] at hc ⊢
  cases bx
  ·go_enter Try.func88, Try.ntmps88
   go_wp2_with fail
   refine (hc.out _).mono ?_
   rintro e w1 ⟨rfl, hb1⟩
   have hS1 := hS.out.below hb1
   have hQ1 := hQ.out.below (by simpa using hb1)
   replace hb := Lib.hid (below_step hb.out hb1)
   (have c0 := hS1.c 0 _ rfl; have c1 := hS1.c 1 _ rfl; have c2 := hS1.c 2 _ rfl; have c3 := hS1.c 3 _ rfl)
   (have d0 := hQ1.c 0 _ rfl; have d1 := hQ1.c 1 _ rfl)
   simp only [World.size_alloc] at d0 d1
   clear hS1 hQ1 hb1
   go_wp2_with fail
   refine (h1.out _).mono ?_
   rintro e _ ⟨rfl, rfl⟩
   go_wp2_with fail
   go_ret
   exact ⟨rfl, hb.out⟩
  ·go_enter Try.func88, Try.ntmps88
   go_wp2_with fail
   refine (hc.out _).mono ?_
   rintro e w1 ⟨rfl, hb1⟩
   have hS1 := hS.out.below hb1
   have hQ1 := hQ.out.below (by simpa using hb1)
   replace hb := Lib.hid (below_step hb.out hb1)
   (have c0 := hS1.c 0 _ rfl; have c1 := hS1.c 1 _ rfl; have c2 := hS1.c 2 _ rfl; have c3 := hS1.c 3 _ rfl)
   (have d0 := hQ1.c 0 _ rfl; have d1 := hQ1.c 1 _ rfl)
   simp only [World.size_alloc] at d0 d1
   clear hS1 hQ1 hb1
   go_wp2_with fail
   refine (h1.out _).mono ?_
   rintro e _ ⟨rfl, rfl⟩
   go_wp2_with fail
   refine (h2.out _).mono ?_
   rintro e _ ⟨rfl, rfl⟩
   go_wp2_with fail
   go_ret
   exact ⟨rfl, hb.out⟩
 ·have hzd : decide (Cal.crs s q = 0) = false := by simpa using hz
  rw [hzd]
  generalize Cal.crs s q = z at *
  clear hzd
  go_enter Try.func88, Try.ntmps88
  go_wp2_with fail
  refine (hc.out _).mono ?_
  rintro e w1 ⟨rfl, hb1⟩
  have hS1 := hS.out.below hb1
  have hQ1 := hQ.out.below (by simpa using hb1)
  replace hb := Lib.hid (below_step hb.out hb1)
  (have c0 := hS1.c 0 _ rfl; have c1 := hS1.c 1 _ rfl; have c2 := hS1.c 2 _ rfl; have c3 := hS1.c 3 _ rfl)
  (have d0 := hQ1.c 0 _ rfl; have d1 := hQ1.c 1 _ rfl)
  simp only [World.size_alloc] at d0 d1
  clear hS1 hQ1 hb1
  go_wp2_with fail
  go_ret
  exact ⟨rfl, hb.out⟩
theorem touchR_any (s t : Sd) (w : World) (hs : SmS s) (ht : SmS t) (hx : ∀ W, Calls Try.prog 69 #[.agg #[.int .i64 s.a.x, .int .i64 s.a.y, .int .i64 s.b.x, .int .i64 s.b.y], .agg #[.int .i64 t.a.x, .int .i64 t.a.y, .int .i64 t.b.x, .int .i64 t.b.y]] W fun e w' => e = .returned (.bool (Cal.crosS s t)) ∧ Below W.heap.size W w') : Calls Try.prog 89 #[.agg #[.int .i64 s.a.x, .int .i64 s.a.y, .int .i64 s.b.x, .int .i64 s.b.y], .agg #[.int .i64 t.a.x, .int .i64 t.a.y, .int .i64 t.b.x, .int .i64 t.b.y]] w fun e w' => e = .returned (.bool (Cal.meetS s t)) ∧ Below w.heap.size w w' := by
 have hb := Lib.hid (below_step (below_alloc w (.cells #[.int .i64 s.a.x, .int .i64 s.a.y, .int .i64 s.b.x, .int .i64 s.b.y] 97)) (below_alloc _ (.cells #[.int .i64 t.a.x, .int .i64 t.a.y, .int .i64 t.b.x, .int .i64 t.b.y] 97)))
 have hS := Lib.hid ((BoxAt.new w #[.int .i64 s.a.x, .int .i64 s.a.y, .int .i64 s.b.x, .int .i64 s.b.y] 97).alloc (.cells #[.int .i64 t.a.x, .int .i64 t.a.y, .int .i64 t.b.x, .int .i64 t.b.y] 97))
 have hT := Lib.hid (by have := BoxAt.new (w.alloc (.cells #[.int .i64 s.a.x, .int .i64 s.a.y, .int .i64 s.b.x, .int .i64 s.b.y] 97)) #[.int .i64 t.a.x, .int .i64 t.a.y, .int .i64 t.b.x, .int .i64 t.b.y] 97; rw [World.size_alloc] at this; exact this)
 have hx := Lib.hid hx
 have e1 := Lib.hid (fun W => OnR_any s t.a W hs ht.a)
 have e2 := Lib.hid (fun W => OnR_any s t.b W hs ht.b)
 have e3 := Lib.hid (fun W => OnR_any t s.a W ht hs.a)
 have e4 := Lib.hid (fun W => OnR_any t s.b W ht hs.b)
 unfold Cal.meetS
 generalize Cal.crosS s t = x0 at *
 generalize Cal.hasP s t.a = x1 at *
 generalize Cal.hasP s t.b = x2 at *
 generalize Cal.hasP t s.a = x3 at *
 generalize Cal.hasP t s.b = x4 at *
 cases x0
 ·cases x1
  ·cases x2
   ·cases x3
    ·go_enter Try.func89, Try.ntmps89
     go_wp2_with fail
     refine (hx.out _).mono ?_
     rintro e w1 ⟨rfl, hb1⟩
     replace hS := Lib.hid (hS.out.below hb1)
     replace hT := Lib.hid (hT.out.below hb1)
     replace hb := Lib.hid (below_step hb.out hb1)
     clear hb1
     have c0 := hS.out.c 0 _ rfl
     have c1 := hS.out.c 1 _ rfl
     have c2 := hS.out.c 2 _ rfl
     have c3 := hS.out.c 3 _ rfl
     have d0 := hT.out.c 0 _ rfl
     have d1 := hT.out.c 1 _ rfl
     have d2 := hT.out.c 2 _ rfl
     have d3 := hT.out.c 3 _ rfl
     go_wp2_with fail
     refine (e1.out _).mono ?_
     rintro e w1 ⟨rfl, hb1⟩
     replace hS := Lib.hid (hS.out.below hb1)
     replace hT := Lib.hid (hT.out.below hb1)
     replace hb := Lib.hid (below_step hb.out hb1)
     clear hb1
     have c0 := hS.out.c 0 _ rfl
     have c1 := hS.out.c 1 _ rfl
     have c2 := hS.out.c 2 _ rfl
     have c3 := hS.out.c 3 _ rfl
     have d0 := hT.out.c 0 _ rfl
     have d1 := hT.out.c 1 _ rfl
     have d2 := hT.out.c 2 _ rfl
     have d3 := hT.out.c 3 _ rfl
     go_wp2_with fail
     refine (e2.out _).mono ?_
     rintro e w1 ⟨rfl, hb1⟩
     replace hS := Lib.hid (hS.out.below hb1)
     replace hT := Lib.hid (hT.out.below hb1)
     replace hb := Lib.hid (below_step hb.out hb1)
     clear hb1
     have c0 := hS.out.c 0 _ rfl
     have c1 := hS.out.c 1 _ rfl
     have c2 := hS.out.c 2 _ rfl
     have c3 := hS.out.c 3 _ rfl
     have d0 := hT.out.c 0 _ rfl
     have d1 := hT.out.c 1 _ rfl
     have d2 := hT.out.c 2 _ rfl
     have d3 := hT.out.c 3 _ rfl
     go_wp2_with fail
     refine (e3.out _).mono ?_
     rintro e w1 ⟨rfl, hb1⟩
     replace hS := Lib.hid (hS.out.below hb1)
     replace hT := Lib.hid (hT.out.below hb1)
     replace hb := Lib.hid (below_step hb.out hb1)
     clear hb1
     have c0 := hS.out.c 0 _ rfl
     have c1 := hS.out.c 1 _ rfl
     have c2 := hS.out.c 2 _ rfl
     have c3 := hS.out.c 3 _ rfl
     have d0 := hT.out.c 0 _ rfl
     have d1 := hT.out.c 1 _ rfl
     have d2 := hT.out.c 2 _ rfl
     have d3 := hT.out.c 3 _ rfl
     go_wp2_with fail
     refine (e4.out _).mono ?_
     rintro e w1 ⟨rfl, hb1⟩
     replace hb := Lib.hid (below_step hb.out hb1)
     go_wp2_with fail
     go_ret
     exact ⟨by simp, hb.out⟩
    ·go_enter Try.func89, Try.ntmps89
     go_wp2_with fail
     refine (hx.out _).mono ?_
     rintro e w1 ⟨rfl, hb1⟩
     replace hS := Lib.hid (hS.out.below hb1)
     replace hT := Lib.hid (hT.out.below hb1)
     replace hb := Lib.hid (below_step hb.out hb1)
     clear hb1
     have c0 := hS.out.c 0 _ rfl
     have c1 := hS.out.c 1 _ rfl
     have c2 := hS.out.c 2 _ rfl
     have c3 := hS.out.c 3 _ rfl
     have d0 := hT.out.c 0 _ rfl
     have d1 := hT.out.c 1 _ rfl
     have d2 := hT.out.c 2 _ rfl
     have d3 := hT.out.c 3 _ rfl
     go_wp2_with fail
     refine (e1.out _).mono ?_
     rintro e w1 ⟨rfl, hb1⟩
     replace hS := Lib.hid (hS.out.below hb1)
     replace hT := Lib.hid (hT.out.below hb1)
     replace hb := Lib.hid (below_step hb.out hb1)
     clear hb1
     have c0 := hS.out.c 0 _ rfl
     have c1 := hS.out.c 1 _ rfl
     have c2 := hS.out.c 2 _ rfl
     have c3 := hS.out.c 3 _ rfl
     have d0 := hT.out.c 0 _ rfl
     have d1 := hT.out.c 1 _ rfl
     have d2 := hT.out.c 2 _ rfl
     have d3 := hT.out.c 3 _ rfl
     go_wp2_with fail
     refine (e2.out _).mono ?_
     rintro e w1 ⟨rfl, hb1⟩
     replace hS := Lib.hid (hS.out.below hb1)
     replace hT := Lib.hid (hT.out.below hb1)
     replace hb := Lib.hid (below_step hb.out hb1)
     clear hb1
     have c0 := hS.out.c 0 _ rfl
     have c1 := hS.out.c 1 _ rfl
     have c2 := hS.out.c 2 _ rfl
     have c3 := hS.out.c 3 _ rfl
     have d0 := hT.out.c 0 _ rfl
     have d1 := hT.out.c 1 _ rfl
     have d2 := hT.out.c 2 _ rfl
     have d3 := hT.out.c 3 _ rfl
     go_wp2_with fail
     refine (e3.out _).mono ?_
     rintro e w1 ⟨rfl, hb1⟩
     replace hS := Lib.hid (hS.out.below hb1)
     replace hT := Lib.hid (hT.out.below hb1)
     replace hb := Lib.hid (below_step hb.out hb1)
     clear hb1
     have c0 := hS.out.c 0 _ rfl
     have c1 := hS.out.c 1 _ rfl
     have c2 := hS.out.c 2 _ rfl
     have c3 := hS.out.c 3 _ rfl
     have d0 := hT.out.c 0 _ rfl
     have d1 := hT.out.c 1 _ rfl
     have d2 := hT.out.c 2 _ rfl
     have d3 := hT.out.c 3 _ rfl
     go_wp2_with fail
     go_ret
     exact ⟨by simp, hb.out⟩
   ·go_enter Try.func89, Try.ntmps89
    go_wp2_with fail
    refine (hx.out _).mono ?_
    rintro e w1 ⟨rfl, hb1⟩
    replace hS := Lib.hid (hS.out.below hb1)
    replace hT := Lib.hid (hT.out.below hb1)
    replace hb := Lib.hid (below_step hb.out hb1)
    clear hb1
    have c0 := hS.out.c 0 _ rfl
    have c1 := hS.out.c 1 _ rfl
    have c2 := hS.out.c 2 _ rfl
    have c3 := hS.out.c 3 _ rfl
    have d0 := hT.out.c 0 _ rfl
    have d1 := hT.out.c 1 _ rfl
    have d2 := hT.out.c 2 _ rfl
    have d3 := hT.out.c 3 _ rfl
    go_wp2_with fail
    refine (e1.out _).mono ?_
    rintro e w1 ⟨rfl, hb1⟩
    replace hS := Lib.hid (hS.out.below hb1)
    replace hT := Lib.hid (hT.out.below hb1)
    replace hb := Lib.hid (below_step hb.out hb1)
    clear hb1
    have c0 := hS.out.c 0 _ rfl
    have c1 := hS.out.c 1 _ rfl
    have c2 := hS.out.c 2 _ rfl
    have c3 := hS.out.c 3 _ rfl
    have d0 := hT.out.c 0 _ rfl
    have d1 := hT.out.c 1 _ rfl
    have d2 := hT.out.c 2 _ rfl
    have d3 := hT.out.c 3 _ rfl
    go_wp2_with fail
    refine (e2.out _).mono ?_
    rintro e w1 ⟨rfl, hb1⟩
    replace hS := Lib.hid (hS.out.below hb1)
    replace hT := Lib.hid (hT.out.below hb1)
    replace hb := Lib.hid (below_step hb.out hb1)
    clear hb1
    have c0 := hS.out.c 0 _ rfl
    have c1 := hS.out.c 1 _ rfl
    have c2 := hS.out.c 2 _ rfl
    have c3 := hS.out.c 3 _ rfl
    have d0 := hT.out.c 0 _ rfl
    have d1 := hT.out.c 1 _ rfl
    have d2 := hT.out.c 2 _ rfl
    have d3 := hT.out.c 3 _ rfl
    go_wp2_with fail
    go_ret
    exact ⟨by simp, hb.out⟩
  ·go_enter Try.func89, Try.ntmps89
   go_wp2_with fail
   refine (hx.out _).mono ?_
   rintro e w1 ⟨rfl, hb1⟩
   replace hS := Lib.hid (hS.out.below hb1)
   replace hT := Lib.hid (hT.out.below hb1)
   replace hb := Lib.hid (below_step hb.out hb1)
   clear hb1
   have c0 := hS.out.c 0 _ rfl
   have c1 := hS.out.c 1 _ rfl
   have c2 := hS.out.c 2 _ rfl
   have c3 := hS.out.c 3 _ rfl
   have d0 := hT.out.c 0 _ rfl
   have d1 := hT.out.c 1 _ rfl
   have d2 := hT.out.c 2 _ rfl
   have d3 := hT.out.c 3 _ rfl
   go_wp2_with fail
   refine (e1.out _).mono ?_
   rintro e w1 ⟨rfl, hb1⟩
   replace hS := Lib.hid (hS.out.below hb1)
   replace hT := Lib.hid (hT.out.below hb1)
   replace hb := Lib.hid (below_step hb.out hb1)
   clear hb1
   have c0 := hS.out.c 0 _ rfl
   have c1 := hS.out.c 1 _ rfl
   have c2 := hS.out.c 2 _ rfl
   have c3 := hS.out.c 3 _ rfl
   have d0 := hT.out.c 0 _ rfl
   have d1 := hT.out.c 1 _ rfl
   have d2 := hT.out.c 2 _ rfl
   have d3 := hT.out.c 3 _ rfl
   go_wp2_with fail
   go_ret
   exact ⟨by simp, hb.out⟩
 ·go_enter Try.func89, Try.ntmps89
  go_wp2_with fail
  refine (hx.out _).mono ?_
  rintro e w1 ⟨rfl, hb1⟩
  replace hS := Lib.hid (hS.out.below hb1)
  replace hT := Lib.hid (hT.out.below hb1)
  replace hb := Lib.hid (below_step hb.out hb1)
  clear hb1
  have c0 := hS.out.c 0 _ rfl
  have c1 := hS.out.c 1 _ rfl
  have c2 := hS.out.c 2 _ rfl
  have c3 := hS.out.c 3 _ rfl
  have d0 := hT.out.c 0 _ rfl
  have d1 := hT.out.c 1 _ rfl
  have d2 := hT.out.c 2 _ rfl
  have d3 := hT.out.c 3 _ rfl
  go_wp2_with fail
  go_ret
  exact ⟨by simp, hb.out⟩
end Go.Proofs.Ytfcjeejhdklkdaa
namespace Go.Proofs.Ytfcjeejhdklkdaa
open Go Go.RowKit Go.Shelf
theorem storeZ {P : Program} {ops : Array Oper} {Q : Exit → Act → World → Prop} {md : Region.Mode} {S : World → Prop} {y : Nat} (i : Nat) {op : Oper} {fuel : Nat} {listed : Array Bool} {a : Act} {w : World} (ty : TypeId) (e f : Operand) (b o : Nat) (cells : Array Value)
  (hr : Region.ready md ops listed = [i]) (ho : ops[i]? = some op) (hst : op.op = .store ty e f) (hl : (listed.setIfInBounds i true).getD y true = true) (hw : Region.wanted op (yielded ops a.tmps) = true)
  (hx : a.eval e = .pointer (some ⟨b, o, none⟩)) (hy : a.eval f = .agg cells) (ht : w.there b o cells.size) (hi : (P.info? ty).map (·.size) = some cells.size) (h1 : cells.all (·.oneCell') = true)
  (h : wpAnyHY P md ops Q S y fuel (listed.setIfInBounds i true) (a.put op.dst undef) (w.setCells b o cells.toList)) : wpAnyHY P md ops Q S y (fuel + 1) listed a w :=
 ratZc i hr ho hl (fun K hK => by
  rw [if_pos hw]
  exact wp_store_mid ty e f hst b o cells hx hy ht hi h1 (hK.out _ _ h))
theorem sideR_any (V : Option Addr) (d : Nat) (ps : List Pt) (k : Nat) (w : World) (hP : PtsR w V ps) (hk : k < ps.length) (hl : ps.length ≤ 100000) : Calls Try.prog 67 #[.slice V ps.length d, .int .i64 k] w fun e w' => e = .returned (.agg #[.int .i64 (Cal.sd ps k).a.x, .int .i64 (Cal.sd ps k).a.y, .int .i64 (Cal.sd ps k).b.x, .int .i64 (Cal.sd ps k).b.y]) ∧ Below w.heap.size w w' := by
 obtain ⟨q, hq⟩ : ∃ q, q = (k + 1) % ps.length := ⟨_, rfl⟩
 have hqlt : q < ps.length := by rw [hq]; exact Nat.mod_lt _ (by omega)
 have hq1 : ((k : Int) + 1).tmod (ps.length : Int) = (q : Int) := by rw [hq]; rfl
 have hk1 : IntKind.i64.wrap ((k : Int) + 1) = (k : Int) + 1 := wrap_small (by omega) (by omega)
 have hq2 : IntKind.i64.wrap (q : Int) = (q : Int) := wrap_small (by omega) (by omega)
 have hne : ¬ ps.length = 0 := by omega
 have hsd : Cal.sd ps k = ⟨ps[k], ps[q]⟩ := by
  unfold Cal.sd
  rw [← hq, List.getElem?_eq_getElem hk, List.getElem?_eq_getElem hqlt]
  rfl
 rw [hsd]
 have hPr := hP.rows.below (below_alloc w (.cells #[.int .i64 0, .int .i64 0, .int .i64 0, .int .i64 0] 97))
 obtain ⟨b, o, rfl, hbl, e0, e1⟩ := pts_at hPr (List.getElem?_eq_getElem hk)
 obtain ⟨b', o', hA, _, e2, e3⟩ := pts_at hPr (List.getElem?_eq_getElem hqlt)
 cases hA
 generalize ps[k] = pa at *
 generalize ps[q] = pc at *
 have hki : (k : Int) < (ps.length : Int) := by omega
 have hqi : (q : Int) < (ps.length : Int) := by omega
 have hz := Lib.hid (BoxAt.new w #[.int .i64 0, .int .i64 0, .int .i64 0, .int .i64 0] 97)
 have hb := Lib.hid (below_alloc w (.cells #[.int .i64 0, .int .i64 0, .int .i64 0, .int .i64 0] 97))
 clear hP hPr hq hsd
 go_enter Try.func67, Try.ntmps67
 go_wp2_with fail
 generalize hW1 : w.alloc (.cells #[.int .i64 0, .int .i64 0, .int .i64 0, .int .i64 0] 97) = W1 at *
 clear hW1
 have hzd := Lib.hid (hz.out.below (Below.refl _ _).drew)
 have hbd := Lib.hid hb.out.drew
 refine wp_region_heldZ (S := Sx W1 [(b, o + k * 2, .int .i64 pa.x), (b, o + k * 2 + 1, .int .i64 pa.y), (b, o + q * 2, .int .i64 pc.x), (b, o + q * 2 + 1, .int .i64 pc.y)]) 13 (by kernel_rfl) (Sx.mk (by simp only [cs_iff_cons]; exact ⟨e0, e1, e2, e3, cs_nil _⟩) (Below.refl _ _)).drew (fun hHeld => ?_)
 refine tkZx 0 5 ?_
 refine tkZx 1 6 ?_
 refine tkZx 2 7 ?_
 refine tkZx 3 8 ?_
 refine tkZx 4 9 ?_
 refine tkZx 5 10 ?_
 refine tkZx 6 11 ?_
 refine tkZx 7 12 ?_
 refine tkZx 8 13 ?_
 refine tkZx 9 14 ?_
 refine tkZx 10 15 ?_
 refine tkZx 11 16 ?_
 refine tkZx 12 17 ?_
 (try simp only [apS, apN, siA, scZ, scS])
 refine storeZ 13 97 (.tmp 4) (.tmp 17) w.heap.size 0 #[.int .i64 pa.x, .int .i64 pa.y, .int .i64 pc.x, .int .i64 pc.y] (by decide +kernel) (by exact rfl) (by exact rfl) (by decide +kernel) (by kernel_rfl) (by rfl) (by rfl) (by exact hzd.out.there) sgSize (by kernel_rfl) ?_
 (try simp only [apS, apN, siA, scZ, scS])
 refine wpAnyHY_done (by decide +kernel) ?_ _
 have h5 := Lib.hid (hzd.out.put [.int .i64 pa.x, .int .i64 pa.y, .int .i64 pc.x, .int .i64 pc.y] rfl)
 have hb5 := Lib.hid (below_of_grownB hbd.out (grown_setCells w.heap.size [.int .i64 pa.x, .int .i64 pa.y, .int .i64 pc.x, .int .i64 pc.y] 0 W1.drew) (Nat.le_refl _))
 go_wp2_with fail
 (try simp only [Exit.inBlock, Exit.then])
 refine bodyPost_ret (results_mid1 rfl _ _ w.heap.size [.int .i64 pa.x, .int .i64 pa.y, .int .i64 pc.x, .int .i64 pc.y] _ rfl h5.out.range Try.underlying97 rfl sgSize) rfl ⟨rfl, hb5.out⟩
end Go.Proofs.Ytfcjeejhdklkdaa
namespace Go.Proofs.Ytfcjeejhdklkdaa
namespace Geo
theorem apart_pos {a b q m : RP} (hq : 0 < crs a b q) (hm : 0 < crs a b m) : Apart a b q m :=
 apart_side hq (by grind) (fun l _ _ e => by rw [e, crs_at] at hm; exact absurd hm (by decide))
theorem apart_neg {a b q m : RP} (hq : crs a b q < 0) (hm : crs a b m < 0) : Apart a b q m :=
 apart_side' hq (by grind) (fun l _ _ e => by rw [e, crs_at] at hm; exact absurd hm (by decide))
theorem two_near {p q : RP → Prop} {a b : RP} (h1 : ∃ e : Rat, 0 < e ∧ ∀ x, Near e a x → p x) (h2 : ∃ e : Rat, 0 < e ∧ ∀ x, Near e b x → q x) :
  ∃ e : Rat, 0 < e ∧ ∀ x y, Near e a x → Near e b y → p x ∧ q y := by
 obtain ⟨e, e0, he⟩ := h1
 obtain ⟨f, f0, hf⟩ := h2
 rcases Rat.le_total (a := e) (b := f) with h | h
 ·exact ⟨e, e0, fun x y hx hy => ⟨he x hx, hf y (hy.mono h)⟩⟩
 ·exact ⟨f, f0, fun x y hx hy => ⟨he x (hx.mono h), hf y hy⟩⟩
theorem left_near {c d a : RP} (h : 0 < crs c d a) : ∃ e : Rat, 0 < e ∧ ∀ q, Near e a q → 0 < crs c d q := by
 obtain ⟨e, e0, he⟩ := near_pos (f := crs c d a) (α := -(d.y - c.y)) (β := d.x - c.x) h a
 refine ⟨e, e0, fun q hq => ?_⟩
 have := he q hq
 unfold crs at this ⊢
 grind
theorem right_near {c d a : RP} (h : crs c d a < 0) : ∃ e : Rat, 0 < e ∧ ∀ q, Near e a q → crs c d q < 0 := by
 obtain ⟨e, e0, he⟩ := left_near (c := d) (d := c) (a := a) (by rw [crs_rev]; grind)
 refine ⟨e, e0, fun q hq => ?_⟩
 have := he q hq
 rw [crs_rev] at this
 grind
theorem crs_near {a b c : RP} (h : 0 < crs a b c) : ∃ e : Rat, 0 < e ∧ ∀ q r, Near e a q → Near e b r → 0 < crs q r c := by
 obtain ⟨k1, a0, a1, a2⟩ := abs_ex (c.x - a.x)
 obtain ⟨k2, b0, b1, b2⟩ := abs_ex (c.y - a.y)
 obtain ⟨k3, c0, c1, c2⟩ := abs_ex (b.x - a.x)
 obtain ⟨k4, d0, d1, d2⟩ := abs_ex (b.y - a.y)
 have hK : 0 < 2 * k1 + 2 * k2 + k3 + k4 + 5 + crs a b c := by grind
 have ee := Rat.div_mul_cancel (a := crs a b c) (b := 2 * k1 + 2 * k2 + k3 + k4 + 5 + crs a b c) (by grind)
 have e0 : 0 < crs a b c / (2 * k1 + 2 * k2 + k3 + k4 + 5 + crs a b c) := pos_of_mul hK (by rw [ee]; exact h)
 have e1 : crs a b c / (2 * k1 + 2 * k2 + k3 + k4 + 5 + crs a b c) ≤ 1 := (div_mem hK (by grind) (by grind)).2
 refine ⟨_, e0, fun q r hq hr => ?_⟩
 generalize crs a b c / (2 * k1 + 2 * k2 + k3 + k4 + 5 + crs a b c) = e at *
 obtain ⟨q1, q2, q3, q4⟩ := hq
 obtain ⟨r1, r2, r3, r4⟩ := hr
 obtain ⟨f, hf⟩ : ∃ f, crs a b c = f := ⟨_, rfl⟩
 have hexp : crs q r c = crs a b c + (((r.x - b.x) - (q.x - a.x)) * (c.y - a.y) - ((r.y - b.y) - (q.y - a.y)) * (c.x - a.x)) - ((b.x - a.x) * (q.y - a.y) - (b.y - a.y) * (q.x - a.x)) - (((r.x - b.x) - (q.x - a.x)) * (q.y - a.y) - ((r.y - b.y) - (q.y - a.y)) * (q.x - a.x)) := by
  unfold crs; grind
 rw [hexp, hf]
 rw [hf] at ee h hK
 clear hexp hf
 generalize q.x - a.x = ux at *
 generalize q.y - a.y = uy at *
 generalize r.x - b.x = vx at *
 generalize r.y - b.y = vy at *
 generalize c.x - a.x = X at *
 generalize c.y - a.y = Y at *
 generalize b.x - a.x = Z at *
 generalize b.y - a.y = T at *
 have p1 := mul_abs b1 b2 (d := vx - ux) (e := 2 * e) (by grind) (by grind)
 have p2 := mul_abs a1 a2 (d := vy - uy) (e := 2 * e) (by grind) (by grind)
 have p3 := mul_abs c1 c2 (d := uy) (e := e) (by grind) (by grind)
 have p4 := mul_abs d1 d2 (d := ux) (e := e) (by grind) (by grind)
 have p5 := mul_abs (a := vx - ux) (k := 2) (d := uy) (e := e) (by grind) (by grind) (by grind) (by grind)
 have p6 := mul_abs (a := vy - uy) (k := 2) (d := ux) (e := e) (by grind) (by grind) (by grind) (by grind)
 have p7 := mul_pp e0 h
 grind
theorem crs_near_neg {a b c : RP} (h : crs a b c < 0) : ∃ e : Rat, 0 < e ∧ ∀ q r, Near e a q → Near e b r → crs q r c < 0 := by
 obtain ⟨e, e0, he⟩ := crs_near (a := b) (b := a) (c := c) (by rw [crs_rev]; grind)
 refine ⟨e, e0, fun q r hq hr => ?_⟩
 have := he r q hr hq
 rw [crs_rev] at this
 grind
theorem both_near {p q : RP → RP → Prop} {a b : RP} (h1 : ∃ e : Rat, 0 < e ∧ ∀ x y, Near e a x → Near e b y → p x y) (h2 : ∃ e : Rat, 0 < e ∧ ∀ x y, Near e a x → Near e b y → q x y) :
  ∃ e : Rat, 0 < e ∧ ∀ x y, Near e a x → Near e b y → p x y ∧ q x y := by
 obtain ⟨e, e0, he⟩ := h1
 obtain ⟨f, f0, hf⟩ := h2
 rcases Rat.le_total (a := e) (b := f) with h | h
 ·exact ⟨e, e0, fun x y hx hy => ⟨he x y hx hy, hf x y (hx.mono h) (hy.mono h)⟩⟩
 ·exact ⟨f, f0, fun x y hx hy => ⟨he x y (hx.mono h) (hy.mono h), hf x y hx hy⟩⟩
theorem apart_near {a b c d : RP} (hne : c ≠ d) (h : Apart c d a b) : ∃ e : Rat, 0 < e ∧ ∀ q r, Near e a q → Near e b r → Apart c d q r := by
 by_cases h1 : 0 < crs c d a ∧ 0 < crs c d b
 ·obtain ⟨e, e0, he⟩ := two_near (left_near h1.1) (left_near h1.2)
  exact ⟨e, e0, fun q r hq hr => apart_pos (he q r hq hr).1 (he q r hq hr).2⟩
 by_cases h2 : crs c d a < 0 ∧ crs c d b < 0
 ·obtain ⟨e, e0, he⟩ := two_near (right_near h2.1) (right_near h2.2)
  exact ⟨e, e0, fun q r hq hr => apart_neg (he q r hq hr).1 (he q r hq hr).2⟩
 by_cases h3 : 0 < crs a b c ∧ 0 < crs a b d
 ·obtain ⟨e, e0, he⟩ := both_near (crs_near h3.1) (crs_near h3.2)
  exact ⟨e, e0, fun q r hq hr => (apart_pos (he q r hq hr).1 (he q r hq hr).2).swap⟩
 by_cases h4 : crs a b c < 0 ∧ crs a b d < 0
 ·obtain ⟨e, e0, he⟩ := both_near (crs_near_neg h4.1) (crs_near_neg h4.2)
  exact ⟨e, e0, fun q r hq hr => (apart_neg (he q r hq hr).1 (he q r hq hr).2).swap⟩
 have hsum := crs_sum a b c d
 rcases Std.lt_trichotomy (crs c d a) (crs c d b) with hab | hab | hab
 ·exact absurd h.swap (meet_of (a := a) (b := b) (q := c) (r := d) (by grind) (by grind) (by grind) (by grind) hab)
 ·have z1 : crs c d a = 0 := by grind
  have z2 : crs c d b = 0 := by grind
  obtain ⟨x, hx⟩ := line_param hne z1
  obtain ⟨y, hy⟩ := line_param hne z2
  have L : 0 < (d.x - c.x) * (d.x - c.x) + (d.y - c.y) * (d.y - c.y) := by
   have s1 := sq0 (d.x - c.x)
   have s2 := sq0 (d.y - c.y)
   refine Rat.not_le.1 fun hz => hne ?_
   have z1 : (d.x - c.x) * (d.x - c.x) = 0 := by grind
   have z2 : (d.y - c.y) * (d.y - c.y) = 0 := by grind
   have z1 : d.x - c.x = 0 := by rcases Rat.mul_eq_zero.1 z1 with z | z <;> exact z
   have z2 : d.y - c.y = 0 := by rcases Rat.mul_eq_zero.1 z2 with z | z <;> exact z
   cases c; cases d
   rw [RP.mk.injEq]
   constructor <;> grind
  have ox : x < 0 ∨ 1 < x := by
   by_cases g : 0 ≤ x
   ·by_cases g1 : x ≤ 1
    ·exact absurd (by rw [at0, hx]) (h x 0 g g1 (by grind) (by grind))
    ·exact .inr (by grind)
   ·exact .inl (by grind)
  have oy : y < 0 ∨ 1 < y := by
   by_cases g : 0 ≤ y
   ·by_cases g1 : y ≤ 1
    ·exact absurd (by rw [at1, hy]) (h y 1 g g1 (by grind) (by grind))
    ·exact .inr (by grind)
   ·exact .inl (by grind)
  have dx : (a.x - c.x) * (d.x - c.x) + (a.y - c.y) * (d.y - c.y) = x * ((d.x - c.x) * (d.x - c.x) + (d.y - c.y) * (d.y - c.y)) := by rw [hx]; unfold at'; dsimp only; grind
  have dy : (b.x - c.x) * (d.x - c.x) + (b.y - c.y) * (d.y - c.y) = y * ((d.x - c.x) * (d.x - c.x) + (d.y - c.y) * (d.y - c.y)) := by rw [hy]; unfold at'; dsimp only; grind
  have meet : ∀ z : Rat, 0 ≤ z → z ≤ 1 → x + z * (y - x) = 0 → False := fun z z0 z1 ez => by
   refine h 0 z (by grind) (by grind) z0 z1 ?_
   rw [at0, hx, hy, at_at, ez, at0]
  have onseg : ∀ (q r : RP) (m : Rat), (at' q r m).x - c.x = (1 - m) * (q.x - c.x) + m * (r.x - c.x) ∧ (at' q r m).y - c.y = (1 - m) * (q.y - c.y) + m * (r.y - c.y) := fun q r m => by
   unfold at'; dsimp only; constructor <;> grind
  rcases ox with ox | ox
  ·rcases oy with oy | oy
   ·have p1 := mul_pp (a := -x) (by grind) L
    have p2 := mul_pp (a := -y) (by grind) L
    obtain ⟨e, e0, he⟩ := two_near (p := fun q => (q.x - c.x) * (d.x - c.x) + (q.y - c.y) * (d.y - c.y) < 0) (q := fun q => (q.x - c.x) * (d.x - c.x) + (q.y - c.y) * (d.y - c.y) < 0) (a := a) (b := b)
     (by
      obtain ⟨e, e0, he⟩ := near_pos (f := -((a.x - c.x) * (d.x - c.x) + (a.y - c.y) * (d.y - c.y))) (α := -(d.x - c.x)) (β := -(d.y - c.y)) (by rw [dx]; grind) a
      exact ⟨e, e0, fun q hq => by have := he q hq; grind⟩)
     (by
      obtain ⟨e, e0, he⟩ := near_pos (f := -((b.x - c.x) * (d.x - c.x) + (b.y - c.y) * (d.y - c.y))) (α := -(d.x - c.x)) (β := -(d.y - c.y)) (by rw [dy]; grind) b
      exact ⟨e, e0, fun q hq => by have := he q hq; grind⟩)
    refine ⟨e, e0, fun q r hq hr l m l0 l1 m0 m1 eq => ?_⟩
    obtain ⟨g1, g2⟩ := he q r hq hr
    obtain ⟨i1, i2⟩ := onseg q r m
    rw [← eq] at i1 i2
    have j : ((at' c d l).x - c.x) * (d.x - c.x) + ((at' c d l).y - c.y) * (d.y - c.y) = l * ((d.x - c.x) * (d.x - c.x) + (d.y - c.y) * (d.y - c.y)) := by unfold at'; dsimp only; grind
    have p3 := mul_nn l0 (b := (d.x - c.x) * (d.x - c.x) + (d.y - c.y) * (d.y - c.y)) (by grind)
    have k : ((at' c d l).x - c.x) * (d.x - c.x) + ((at' c d l).y - c.y) * (d.y - c.y) = (1 - m) * ((q.x - c.x) * (d.x - c.x) + (q.y - c.y) * (d.y - c.y)) + m * ((r.x - c.x) * (d.x - c.x) + (r.y - c.y) * (d.y - c.y)) := by rw [i1, i2]; grind
    generalize (q.x - c.x) * (d.x - c.x) + (q.y - c.y) * (d.y - c.y) = G at *
    generalize (r.x - c.x) * (d.x - c.x) + (r.y - c.y) * (d.y - c.y) = H at *
    have w1 := np_mul (a := H) (b := m) (by grind) m0
    rcases Rat.le_iff_lt_or_eq.1 m1 with hm | hm
    ·have w2 := n_mul (a := G) (b := 1 - m) g1 (by grind)
     grind
    ·subst hm; grind
   ·exfalso
    obtain ⟨z0, z1⟩ := div_mem (c := -x) (k := y - x) (by grind) (by grind) (by grind)
    have e := Rat.div_mul_cancel (a := -x) (b := y - x) (by grind)
    exact meet _ z0 z1 (by grind)
  ·rcases oy with oy | oy
   ·exfalso
    obtain ⟨z0, z1⟩ := div_mem (c := x) (k := x - y) (by grind) (by grind) (by grind)
    have e := Rat.div_mul_cancel (a := x) (b := x - y) (by grind)
    exact meet _ z0 z1 (by grind)
   ·have p1 := mul_pp (a := x - 1) (by grind) L
    have p2 := mul_pp (a := y - 1) (by grind) L
    obtain ⟨e, e0, he⟩ := two_near (p := fun q => (d.x - c.x) * (d.x - c.x) + (d.y - c.y) * (d.y - c.y) < (q.x - c.x) * (d.x - c.x) + (q.y - c.y) * (d.y - c.y)) (q := fun q => (d.x - c.x) * (d.x - c.x) + (d.y - c.y) * (d.y - c.y) < (q.x - c.x) * (d.x - c.x) + (q.y - c.y) * (d.y - c.y)) (a := a) (b := b)
     (by
      obtain ⟨e, e0, he⟩ := near_pos (f := (a.x - c.x) * (d.x - c.x) + (a.y - c.y) * (d.y - c.y) - ((d.x - c.x) * (d.x - c.x) + (d.y - c.y) * (d.y - c.y))) (α := d.x - c.x) (β := d.y - c.y) (by rw [dx]; grind) a
      exact ⟨e, e0, fun q hq => by have := he q hq; grind⟩)
     (by
      obtain ⟨e, e0, he⟩ := near_pos (f := (b.x - c.x) * (d.x - c.x) + (b.y - c.y) * (d.y - c.y) - ((d.x - c.x) * (d.x - c.x) + (d.y - c.y) * (d.y - c.y))) (α := d.x - c.x) (β := d.y - c.y) (by rw [dy]; grind) b
      exact ⟨e, e0, fun q hq => by have := he q hq; grind⟩)
    refine ⟨e, e0, fun q r hq hr l m l0 l1 m0 m1 eq => ?_⟩
    obtain ⟨g1, g2⟩ := he q r hq hr
    obtain ⟨i1, i2⟩ := onseg q r m
    rw [← eq] at i1 i2
    have j : ((at' c d l).x - c.x) * (d.x - c.x) + ((at' c d l).y - c.y) * (d.y - c.y) = l * ((d.x - c.x) * (d.x - c.x) + (d.y - c.y) * (d.y - c.y)) := by unfold at'; dsimp only; grind
    have p3 := mul_nn (a := 1 - l) (by grind) (b := (d.x - c.x) * (d.x - c.x) + (d.y - c.y) * (d.y - c.y)) (by grind)
    have k : ((at' c d l).x - c.x) * (d.x - c.x) + ((at' c d l).y - c.y) * (d.y - c.y) = (1 - m) * ((q.x - c.x) * (d.x - c.x) + (q.y - c.y) * (d.y - c.y)) + m * ((r.x - c.x) * (d.x - c.x) + (r.y - c.y) * (d.y - c.y)) := by rw [i1, i2]; grind
    generalize (q.x - c.x) * (d.x - c.x) + (q.y - c.y) * (d.y - c.y) = G at *
    generalize (r.x - c.x) * (d.x - c.x) + (r.y - c.y) * (d.y - c.y) = H at *
    generalize (d.x - c.x) * (d.x - c.x) + (d.y - c.y) * (d.y - c.y) = K at *
    have w1 := mul_nn (a := m) (b := H - K) m0 (by grind)
    rcases Rat.le_iff_lt_or_eq.1 m1 with hm | hm
    ·have w2 := mul_pp (a := 1 - m) (b := G - K) (by grind) (by grind)
     rw [j] at k
     clear j i1 i2 eq he onseg meet dx dy hx hy hsum p1 p2 h h1 h2 h3 h4 hab z1 z2 hq hr
     grind
    ·rw [j] at k
     clear j i1 i2 eq he onseg meet dx dy hx hy hsum p1 p2 h h1 h2 h3 h4 hab z1 z2 hq hr
     subst hm; grind
 ·refine absurd h.swap.rev (meet_of (a := b) (b := a) (q := c) (r := d) (by grind) (by grind) ?_ ?_ hab)
  ·rw [crs_rev]; grind
  ·rw [crs_rev]; grind
theorem near_all2 {p : Nat → RP → RP → Prop} {a b : RP} : ∀ {n : Nat}, (∀ k, k < n → ∃ e : Rat, 0 < e ∧ ∀ x y, Near e a x → Near e b y → p k x y) → ∃ e : Rat, 0 < e ∧ ∀ x y, Near e a x → Near e b y → ∀ k, k < n → p k x y
 | 0, _ => ⟨1, by grind, fun _ _ _ _ k hk => by omega⟩
 | n + 1, h => by
  obtain ⟨e, e0, he⟩ := both_near (near_all2 (n := n) (fun k hk => h k (by omega))) (h n (by omega))
  refine ⟨e, e0, fun x y hx hy k hk => ?_⟩
  by_cases hkn : k = n
  ·subst hkn; exact (he x y hx hy).2
  ·exact (he x y hx hy).1 k (by omega)
def Free (n : Nat) (P : Nat → RP) (q r : RP) : Prop := ∀ k, k < n → Apart (P k) (P (k + 1)) q r
inductive Conn (n : Nat) (P : Nat → RP) : RP → RP → Prop
 | refl (q : RP) : Conn n P q q
 | step {q r s : RP} : Conn n P q r → Free n P r s → Conn n P q s
theorem Apart.turn {a b q r : RP} (h : Apart a b q r) : Apart a b r q := h.swap.rev.swap
theorem Free.symm {n : Nat} {P : Nat → RP} {q r : RP} (h : Free n P q r) : Free n P r q := fun k hk => (h k hk).turn
theorem Conn.one {n : Nat} {P : Nat → RP} {q r : RP} (h : Free n P q r) : Conn n P q r := .step (.refl q) h
theorem Conn.trans {n : Nat} {P : Nat → RP} {q r s : RP} (h : Conn n P q r) (k : Conn n P r s) : Conn n P q s := by
 induction k with
 | refl => exact h
 | step _ hf ih => exact .step ih hf
theorem Conn.symm {n : Nat} {P : Nat → RP} {q r : RP} (h : Conn n P q r) : Conn n P r q := by
 induction h with
 | refl => exact .refl _
 | step _ hf ih => exact (Conn.one hf.symm).trans ih
theorem Conn.keep {n : Nat} {P : Nat → RP} {q r : RP} (h : Conn n P q r) (p : RP → Prop) (hp : ∀ x y, Free n P x y → p x → p y) : p q → p r := by
 intro hq
 induction h with
 | refl => exact hq
 | step _ hf ih => exact hp _ _ hf ih
theorem Free.off {n : Nat} {P : Nat → RP} {q r : RP} (h : Free n P q r) : Off n P q ∧ Off n P r :=
 ⟨fun i l hi l0 l1 e => h i hi l 0 l0 l1 (by grind) (by grind) (by rw [at0]; exact e.symm), fun i l hi l0 l1 e => h i hi l 1 l0 l1 (by grind) (by grind) (by rw [at1]; exact e.symm)⟩
theorem Off.free {n : Nat} {P : Nat → RP} {q r : RP} (h : ∀ x : Rat, 0 ≤ x → x ≤ 1 → Off n P (at' q r x)) : Free n P q r :=
 fun i hi l x l0 l1 x0 x1 e => h x x0 x1 i l hi l0 l1 e.symm
theorem Conn.wind {n : Nat} {P : Nat → RP} (hper : P n = P 0) {q r : RP} (h : Conn n P q r) : wind n P q = wind n P r := by
 induction h with
 | refl => rfl
 | step _ hf ih => rw [ih]; exact wind_move hper hf
theorem apart_part {a b q r : RP} {x y : Rat} (h : Apart a b q r) (x0 : 0 ≤ x) (x1 : x ≤ 1) (y0 : 0 ≤ y) (y1 : y ≤ 1) : Apart a b (at' q r x) (at' q r y) := fun l m l0 l1 m0 m1 e => by
 rw [at_at] at e
 refine h l (x + m * (y - x)) l0 l1 ?_ ?_ e
 ·have p1 := mul_nn (a := 1 - m) (b := x) (by grind) x0
  have p2 := mul_nn m0 y0
  grind
 ·have p1 := mul_nn (a := 1 - m) (b := 1 - x) (by grind) (by grind)
  have p2 := mul_nn (a := m) (b := 1 - y) m0 (by grind)
  grind
def Sign (z : Rat) : Prop := z = 1 ∨ z = -1
theorem apart_sign {z : Rat} (hz : Sign z) {a b q m : RP} (hq : 0 < z * crs a b q) (hm : 0 ≤ z * crs a b m) (hoff : ∀ l : Rat, 0 ≤ l → l ≤ 1 → m ≠ at' a b l) : Apart a b q m := by
 rcases hz with e | e
 ·subst e; exact apart_side (by grind) (by grind) hoff
 ·subst e; exact apart_side' (by grind) (by grind) hoff
theorem apart_sign2 {z : Rat} (hz : Sign z) {a b q m : RP} (hq : 0 < z * crs a b q) (hm : 0 < z * crs a b m) : Apart a b q m := by
 rcases hz with e | e
 ·subst e; exact apart_pos (by grind) (by grind)
 ·subst e; exact apart_neg (by grind) (by grind)
theorem near_parts (A B q r : RP) {e : Rat} (he : 0 < e) : ∃ x : Rat, 0 < x ∧ x < 1 / 2 ∧ Near e A (at' A q x) ∧ Near e B (at' B r x) := by
 have key : ∀ (A q : RP), ∃ x : Rat, 0 < x ∧ x < 1 / 2 ∧ ∀ y, 0 ≤ y → y ≤ x → Near e A (at' A q y) := fun A q => by
  obtain ⟨x, x0, xh, h, _⟩ := small_part A ⟨q.x - A.x, q.y - A.y⟩ ⟨0, 0⟩ he
  refine ⟨x, x0, xh, fun y y0 y1 => ?_⟩
  have hA : Near e A A := by unfold Near; grind
  have hx : Near e A (at' A q x) := h
  obtain ⟨d0, d1⟩ := div_mem (c := y) x0 y0 y1
  have ed := Rat.div_mul_cancel (a := y) (b := x) (by grind)
  have := hA.seg hx d0 d1
  have e2 : at' A (at' A q x) (y / x) = at' A q y := by
   have h0 : at' (at' A q 0) (at' A q x) (y / x) = at' A q (0 + y / x * (x - 0)) := at_at _ _ _ _ _
   rw [at0] at h0
   rw [h0]
   congr 1
   grind
  rw [e2] at this
  exact this
 obtain ⟨x, x0, xh, hx⟩ := key A q
 obtain ⟨y, y0, yh, hy⟩ := key B r
 rcases Rat.le_total (a := x) (b := y) with h | h
 ·exact ⟨x, x0, xh, hx x (by grind) (by grind), hy x (by grind) h⟩
 ·exact ⟨y, y0, yh, hx y (by grind) h, hy y (by grind) (by grind)⟩
section
variable {n : Nat} {P : Nat → RP}
theorem Simple.slide2 (h : Simple n P) {z : Rat} (hz : Sign z) {i : Nat} (hi : i < n) {q r : RP} (hq : Sees n P z i q) (hr : Sees n P z i r) : Conn n P q r := by
 obtain ⟨s, s0, s1, sc, sa⟩ := hq
 obtain ⟨t, t0, t1, tc, ta⟩ := hr
 obtain ⟨e, e0, he⟩ := near_all2 (n := n) (a := at' (P i) (P (i + 1)) s) (b := at' (P i) (P (i + 1)) t) (p := fun k x y => k ≠ i → Apart (P k) (P (k + 1)) x y) (fun k hk => by
  by_cases hki : k = i
  ·exact ⟨1, by grind, fun _ _ _ _ h => absurd hki h⟩
  ·obtain ⟨e, e0, he⟩ := apart_near (h.ne k) (a := at' (P i) (P (i + 1)) s) (b := at' (P i) (P (i + 1)) t) (fun l m l0 l1 m0 m1 eq => by
    rw [at_at] at eq
    refine h.open_off hi hk (Ne.symm hki) (t := s + m * (t - s)) ?_ ?_ l0 l1 eq.symm
    ·have p1 := mul_nn (a := 1 - m) (b := s) (by grind) (by grind)
     have p2 := mul_nn (a := m) (b := t) m0 (by grind)
     rcases Rat.le_iff_lt_or_eq.1 m0 with hm | hm
     ·have := mul_pp hm t0; grind
     ·rw [← hm]; grind
    ·have p1 := mul_nn (a := 1 - m) (b := 1 - s) (by grind) (by grind)
     have p2 := mul_nn (a := m) (b := 1 - t) m0 (by grind)
     rcases Rat.le_iff_lt_or_eq.1 m0 with hm | hm
     ·have := mul_pp (a := m) (b := 1 - t) hm (by grind); grind
     ·rw [← hm]; grind)
   exact ⟨e, e0, fun x y hx hy _ => he x y hx hy⟩)
 obtain ⟨x, x0, xh, hx, hy⟩ := near_parts (at' (P i) (P (i + 1)) s) (at' (P i) (P (i + 1)) t) q r e0
 have first : ∀ (t : Rat) (q : RP), 0 < z * crs (P i) (P (i + 1)) q → (∀ k, k < n → k ≠ i → Apart (P k) (P (k + 1)) q (at' (P i) (P (i + 1)) t)) →
   0 < z * crs (P i) (P (i + 1)) (at' (at' (P i) (P (i + 1)) t) q x) ∧ Free n P q (at' (at' (P i) (P (i + 1)) t) q x) := fun t q hc ha => by
  have hcx : 0 < z * crs (P i) (P (i + 1)) (at' (at' (P i) (P (i + 1)) t) q x) := by
   rw [crs_lin, crs_at]
   have := mul_pp x0 hc
   grind
  refine ⟨hcx, fun k hk => ?_⟩
  by_cases hki : k = i
  ·subst hki; exact apart_sign2 hz hc hcx
  ·have := apart_part (ha k hk hki) (x := 0) (y := 1 - x) (by grind) (by grind) (by grind) (by grind)
   rw [at0] at this
   have e2 : at' q (at' (P i) (P (i + 1)) t) (1 - x) = at' (at' (P i) (P (i + 1)) t) q x := by rw [at_rev]; congr 1; grind
   rw [e2] at this
   exact this
 obtain ⟨c1, f1⟩ := first s q sc sa
 obtain ⟨c2, f2⟩ := first t r tc ta
 refine (Conn.one f1).trans ((Conn.one fun k hk => ?_).trans (Conn.one f2.symm))
 by_cases hki : k = i
 ·subst hki; exact apart_sign2 hz c1 c2
 ·exact he _ _ hx hy k hk hki
theorem lin_no {z A B l m : Rat} (h : l * A = (1 - m) * B + m * 0) (h1 : 0 ≤ l * -(z * A)) (h2 : 0 < (1 - m) * (z * B)) : False := by
 have : l * -(z * A) = - ((1 - m) * (z * B)) := by
  have : l * -(z * A) = - z * (l * A) := by grind
  rw [this, h]; grind
 grind
theorem Simple.corner2 (h : Simple n P) {z : Rat} (hz : Sign z) {i j : Nat} (hi : i < n) (hj : j = (i + 1) % n) : ∃ q, Sees n P z i q ∧ Sees n P z j q := by
 have h3 := h.three
 have hjn : j < n := by rw [hj]; exact Nat.mod_lt _ (by omega)
 have hB : P j = P (i + 1) := by rw [hj]; exact h.mod _
 obtain ⟨e, e0, hfar⟩ := near_all (n := n) (b := P (i + 1)) (p := fun k q => k ≠ i → k ≠ j → ∀ l : Rat, 0 ≤ l → l ≤ 1 → q ≠ at' (P k) (P (k + 1)) l) (fun k hk => by
  by_cases hki : k = i
  ·exact ⟨1, by grind, fun _ _ h => absurd hki h⟩
  by_cases hkj : k = j
  ·exact ⟨1, by grind, fun _ _ _ h => absurd hkj h⟩
  obtain ⟨e, e0, he⟩ := near_off (h.ne k) (b := P (i + 1)) (fun l l0 l1 eq => by
   have := h.touch i k hi hk (Ne.symm hki) 1 l (by grind) (by grind) l0 l1 (by rw [at1]; exact eq)
   rcases this with ⟨h1, _, _⟩ | ⟨_, h1, _⟩
   ·exact hkj (h1.trans hj.symm)
   ·grind)
  exact ⟨e, e0, fun q hq _ _ => he q hq⟩)
 have far : ∀ k, k < n → k ≠ i → k ≠ j → ∀ q r, Near e (P (i + 1)) q → Near e (P (i + 1)) r → Apart (P k) (P (k + 1)) q r := fun k hk hki hkj q r hq hr l m l0 l1 m0 m1 eq =>
  hfar _ (hq.seg hr m0 m1) k hk hki hkj l l0 l1 eq.symm
 have hadj := fun l m l0 l1 m0 m1 e => h.adj hi hj (l := l) (m := m) l0 l1 m0 m1 e
 have hon := h.on hi hj
 have hij : i ≠ j := fun eq => by
  have := h.adj hi hj (l := 0) (m := 0) (by grind) (by grind) (by grind) (by grind) (by rw [← eq])
  grind
 rw [hB] at hadj
 obtain ⟨t, t0, th, hm, hm'⟩ := small_part (P (i + 1)) ⟨(P i).x - (P (i + 1)).x, (P i).y - (P (i + 1)).y⟩ ⟨(P (j + 1)).x - (P (i + 1)).x, (P (j + 1)).y - (P (i + 1)).y⟩ e0
 have em : (⟨(P (i + 1)).x + t * ((P i).x - (P (i + 1)).x), (P (i + 1)).y + t * ((P i).y - (P (i + 1)).y)⟩ : RP) = at' (P i) (P (i + 1)) (1 - t) := by simp only [at', RP.mk.injEq]; constructor <;> grind
 have em' : (⟨(P (i + 1)).x + t * ((P (j + 1)).x - (P (i + 1)).x), (P (i + 1)).y + t * ((P (j + 1)).y - (P (i + 1)).y)⟩ : RP) = at' (P (i + 1)) (P (j + 1)) t := rfl
 dsimp only at hm hm'
 rw [em] at hm
 rw [em'] at hm'
 have off1 : ∀ k, k < n → k ≠ i → k ≠ j → ∀ q, Near e (P (i + 1)) q → Apart (P k) (P (k + 1)) q (at' (P i) (P (i + 1)) (1 - t)) := fun k hk a b q hq => far k hk a b q _ hq hm
 have off2 : ∀ k, k < n → k ≠ i → k ≠ j → ∀ q, Near e (P (i + 1)) q → Apart (P k) (P (k + 1)) q (at' (P (i + 1)) (P (j + 1)) t) := fun k hk a b q hq => far k hk a b q _ hq hm'
 have c1 : crs (P i) (P (i + 1)) (at' (P (i + 1)) (P (j + 1)) t) = t * crs (P i) (P (i + 1)) (P (j + 1)) := by simp only [crs, at']; grind
 have c2 : crs (P (i + 1)) (P (j + 1)) (at' (P i) (P (i + 1)) (1 - t)) = t * crs (P i) (P (i + 1)) (P (j + 1)) := by simp only [crs, at']; grind
 have c3 := crs_at (P i) (P (i + 1)) (1 - t)
 have c4 := crs_at (P (i + 1)) (P (j + 1)) t
 have hPj : ∀ k, k = j → P k = P (i + 1) ∧ P (k + 1) = P (j + 1) := fun k hk => by subst hk; exact ⟨hB, rfl⟩
 have mo1 : ∀ l : Rat, 0 ≤ l → l ≤ 1 → at' (P i) (P (i + 1)) (1 - t) ≠ at' (P (i + 1)) (P (j + 1)) l := fun l l0 l1 eq => by
  have := hadj (1 - t) l (by grind) (by grind) l0 l1 eq
  grind
 have mo2 : ∀ l : Rat, 0 ≤ l → l ≤ 1 → at' (P (i + 1)) (P (j + 1)) t ≠ at' (P i) (P (i + 1)) l := fun l l0 l1 eq => by
  have := hadj l t l0 l1 (by grind) (by grind) eq.symm
  grind
 have fin : ∀ q, Near e (P (i + 1)) q → 0 < z * crs (P i) (P (i + 1)) q → 0 < z * crs (P (i + 1)) (P (j + 1)) q →
   Apart (P (i + 1)) (P (j + 1)) q (at' (P i) (P (i + 1)) (1 - t)) → Apart (P i) (P (i + 1)) q (at' (P (i + 1)) (P (j + 1)) t) → ∃ q, Sees n P z i q ∧ Sees n P z j q := fun q hn hq1 hq2 a1 a2 => by
  refine ⟨q, ⟨1 - t, by grind, by grind, hq1, fun k hk hki => ?_⟩, ⟨t, by grind, by grind, ?_, fun k hk hkj => ?_⟩⟩
  ·by_cases hkj : k = j
   ·obtain ⟨e1, e2⟩ := hPj k hkj
    rw [e1, e2]
    exact a1
   ·exact off1 k hk hki hkj _ hn
  ·obtain ⟨e1, e2⟩ := hPj j rfl
   rw [e1]; exact hq2
  ·obtain ⟨e1, e2⟩ := hPj j rfl
   rw [e1]
   by_cases hki : k = i
   ·subst hki; exact a2
   ·exact off2 k hk hki hkj _ hn
 have q1 := crs_lin (P i) (P (i + 1)) (at' (P i) (P (i + 1)) (1 - t)) (at' (P (i + 1)) (P (j + 1)) t) (1 / 2)
 have q2 := crs_lin (P (i + 1)) (P (j + 1)) (at' (P i) (P (i + 1)) (1 - t)) (at' (P (i + 1)) (P (j + 1)) t) (1 / 2)
 rw [c1, c3] at q1
 rw [c2, c4] at q2
 have hmid := hm.seg hm' (x := 1 / 2) (by grind) (by grind)
 rcases Std.lt_trichotomy (z * crs (P i) (P (i + 1)) (P (j + 1))) 0 with hc | hc | hc
 ·-- round the outside of the corner
  have p := n_mul hc t0
  obtain ⟨M, hM⟩ : ∃ M, at' (at' (P i) (P (i + 1)) (1 - t)) (at' (P (i + 1)) (P (j + 1)) t) (1 / 2) = M := ⟨_, rfl⟩
  rw [hM] at q1 q2 hmid
  have hrefl : Near e (P (i + 1)) ⟨2 * (P (i + 1)).x - M.x, 2 * (P (i + 1)).y - M.y⟩ := by unfold Near at hmid ⊢; dsimp only; grind
  have r1 : crs (P i) (P (i + 1)) ⟨2 * (P (i + 1)).x - M.x, 2 * (P (i + 1)).y - M.y⟩ = - crs (P i) (P (i + 1)) M := by unfold crs; dsimp only; grind
  have r2 : crs (P (i + 1)) (P (j + 1)) ⟨2 * (P (i + 1)).x - M.x, 2 * (P (i + 1)).y - M.y⟩ = - crs (P (i + 1)) (P (j + 1)) M := by unfold crs; dsimp only; grind
  have g1 : 0 < z * crs (P i) (P (i + 1)) ⟨2 * (P (i + 1)).x - M.x, 2 * (P (i + 1)).y - M.y⟩ := by rw [r1, q1]; grind
  have g2 : 0 < z * crs (P (i + 1)) (P (j + 1)) ⟨2 * (P (i + 1)).x - M.x, 2 * (P (i + 1)).y - M.y⟩ := by rw [r2, q2]; grind
  refine fin _ hrefl g1 g2 (fun l m l0 l1 m0 m1 eq => ?_) (fun l m l0 l1 m0 m1 eq => ?_)
  ·-- on the way crs of the first side keeps its sign, on the next side it has the other one
   have w1 := crs_lin (P i) (P (i + 1)) ⟨2 * (P (i + 1)).x - M.x, 2 * (P (i + 1)).y - M.y⟩ (at' (P i) (P (i + 1)) (1 - t)) m
   rw [← eq, c3] at w1
   have w2 : crs (P i) (P (i + 1)) (at' (P (i + 1)) (P (j + 1)) l) = l * crs (P i) (P (i + 1)) (P (j + 1)) := by simp only [crs, at']; grind
   rw [w2] at w1
   have w3 := mul_nn (a := l) (b := -(z * crs (P i) (P (i + 1)) (P (j + 1)))) l0 (by grind)
   rcases Rat.le_iff_lt_or_eq.1 m1 with hm | hm
   ·exact lin_no w1 w3 (mul_pp (a := 1 - m) (by grind) g1)
   ·rw [hm, at1] at eq
    exact mo1 l l0 l1 eq.symm
  ·have w1 := crs_lin (P (i + 1)) (P (j + 1)) ⟨2 * (P (i + 1)).x - M.x, 2 * (P (i + 1)).y - M.y⟩ (at' (P (i + 1)) (P (j + 1)) t) m
   rw [← eq, c4] at w1
   have w2 : crs (P (i + 1)) (P (j + 1)) (at' (P i) (P (i + 1)) l) = (1 - l) * crs (P i) (P (i + 1)) (P (j + 1)) := by simp only [crs, at']; grind
   rw [w2] at w1
   have w3 := mul_nn (a := 1 - l) (b := -(z * crs (P i) (P (i + 1)) (P (j + 1)))) (by grind) (by grind)
   rcases Rat.le_iff_lt_or_eq.1 m1 with hm | hm
   ·exact lin_no w1 w3 (mul_pp (a := 1 - m) (by grind) g2)
   ·rw [hm, at1] at eq
    exact mo2 l l0 l1 eq.symm
 ·-- straight on
  have hc0 : crs (P i) (P (i + 1)) (P (j + 1)) = 0 := by
   rcases hz with e | e
   ·subst e; grind
   ·subst e; grind
  have hon := hon hc0
  obtain ⟨s, s0, sh, hs, _⟩ := small_part (P (i + 1)) ⟨-(z * ((P (i + 1)).y - (P i).y)), z * ((P (i + 1)).x - (P i).x)⟩ ⟨0, 0⟩ e0
  dsimp only at hs
  have n1 := h.ne i
  have zz : z * z = 1 := by rcases hz with e | e <;> (subst e; grind)
  have g1 : 0 < z * crs (P i) (P (i + 1)) ⟨(P (i + 1)).x + s * -(z * ((P (i + 1)).y - (P i).y)), (P (i + 1)).y + s * (z * ((P (i + 1)).x - (P i).x))⟩ := by
   have hsq : 0 < ((P (i + 1)).x - (P i).x) * ((P (i + 1)).x - (P i).x) + ((P (i + 1)).y - (P i).y) * ((P (i + 1)).y - (P i).y) := by
    have s1 := sq0 ((P (i + 1)).x - (P i).x)
    have s2 := sq0 ((P (i + 1)).y - (P i).y)
    refine Rat.not_le.1 fun hz => n1 ?_
    have z1 : ((P (i + 1)).x - (P i).x) * ((P (i + 1)).x - (P i).x) = 0 := by grind
    have z2 : ((P (i + 1)).y - (P i).y) * ((P (i + 1)).y - (P i).y) = 0 := by grind
    have z1 : (P (i + 1)).x - (P i).x = 0 := by rcases Rat.mul_eq_zero.1 z1 with z | z <;> exact z
    have z2 : (P (i + 1)).y - (P i).y = 0 := by rcases Rat.mul_eq_zero.1 z2 with z | z <;> exact z
    cases h0 : P i
    cases h1 : P (i + 1)
    rw [h0, h1] at z1 z2
    rw [RP.mk.injEq]
    constructor <;> grind
   have hp := mul_pp s0 hsq
   have : z * crs (P i) (P (i + 1)) ⟨(P (i + 1)).x + s * -(z * ((P (i + 1)).y - (P i).y)), (P (i + 1)).y + s * (z * ((P (i + 1)).x - (P i).x))⟩ = (z * z) * (s * (((P (i + 1)).x - (P i).x) * ((P (i + 1)).x - (P i).x) + ((P (i + 1)).y - (P i).y) * ((P (i + 1)).y - (P i).y))) := by
    unfold crs; dsimp only; grind
   rw [this, zz]
   grind
  have g2 : 0 < z * crs (P (i + 1)) (P (j + 1)) ⟨(P (i + 1)).x + s * -(z * ((P (i + 1)).y - (P i).y)), (P (i + 1)).y + s * (z * ((P (i + 1)).x - (P i).x))⟩ := by
   have hp := mul_pp s0 hon
   have : z * crs (P (i + 1)) (P (j + 1)) ⟨(P (i + 1)).x + s * -(z * ((P (i + 1)).y - (P i).y)), (P (i + 1)).y + s * (z * ((P (i + 1)).x - (P i).x))⟩ = (z * z) * (s * (((P (i + 1)).x - (P i).x) * ((P (j + 1)).x - (P (i + 1)).x) + ((P (i + 1)).y - (P i).y) * ((P (j + 1)).y - (P (i + 1)).y))) := by
    unfold crs; dsimp only; grind
   rw [this, zz]
   grind
  exact fin _ hs g1 g2 (apart_sign hz g2 (by rw [c2, hc0]; grind) mo1) (apart_sign hz g1 (by rw [c1, hc0]; grind) mo2)
 ·have p := mul_pp t0 hc
  have g1 : 0 < z * crs (P i) (P (i + 1)) (at' (at' (P i) (P (i + 1)) (1 - t)) (at' (P (i + 1)) (P (j + 1)) t) (1 / 2)) := by rw [q1]; grind
  have g2 : 0 < z * crs (P (i + 1)) (P (j + 1)) (at' (at' (P i) (P (i + 1)) (1 - t)) (at' (P (i + 1)) (P (j + 1)) t) (1 / 2)) := by rw [q2]; grind
  exact fin _ hmid g1 g2 (apart_sign hz g2 (by rw [c2]; grind) mo1) (apart_sign hz g1 (by rw [c1]; grind) mo2)
theorem Simple.sees_conn (h : Simple n P) {z : Rat} (hz : Sign z) {i k : Nat} (hi : i < n) (hk : k < n) {q r : RP} (hq : Sees n P z i q) (hr : Sees n P z k r) : Conn n P q r := by
 have zero : ∀ i, i < n → ∀ q, Sees n P z i q → ∃ r, Sees n P z 0 r ∧ Conn n P q r := fun i => by
  induction i with
  | zero => intro _ q hq; exact ⟨q, hq, .refl q⟩
  | succ i ih =>
   intro hi q hq
   obtain ⟨c, c1, c2⟩ := h.corner2 hz (i := i) (j := i + 1) (by omega) (Nat.mod_eq_of_lt hi).symm
   obtain ⟨r, hr, hc⟩ := ih (by omega) c c1
   exact ⟨r, hr, (h.slide2 hz hi hq c2).trans hc⟩
 obtain ⟨a, ha, ca⟩ := zero i hi q hq
 obtain ⟨b, hb, cb⟩ := zero k hk r hr
 exact ca.trans ((h.slide2 hz (by have := h.three; omega) ha hb).trans cb.symm)
theorem Simple.jordan (h : Simple n P) {q r : RP} (hq : Off n P q) (hr : Off n P r) (hw : wind n P q = wind n P r) : Conn n P q r := by
 obtain ⟨i, hi, hs⟩ := h.see hq
 obtain ⟨k, hk, ht⟩ := h.see hr
 rcases hs with hs | hs <;> rcases ht with ht | ht
 ·exact h.sees_conn (.inl rfl) hi hk hs ht
 ·have := h.sees_left hi hs; have := h.sees_right hk ht; omega
 ·have := h.sees_right hi hs; have := h.sees_left hk ht; omega
 ·exact h.sees_conn (.inr rfl) hi hk hs ht
end
end Geo
end Go.Proofs.Ytfcjeejhdklkdaa
