/- What the statements rest on: definitions and walks, part 32. -/
import Derived.Test.YtofaonigcojcaaaJ31
import Derived.Test.YtofaonigcojcaaaJ20
import Derived.Test.YtofaonigcojcaaaJ14
import Derived.Test.YtofaonigcojcaaaJ23
import Derived.Test.YtofaonigcojcaaaJ04
import Derived.Deep.LoopGhost
import Derived.Deep.CutRange
import Derived.Deep.RegionHeld3
namespace Go.Proofs.Ytofaonigcojcaaa
namespace Cal
/-- Two sides that lie on one another, as the reference tests it. -/
def turnsR (ps : List Pt) (i : Nat) : Bool := hasP (sd ps i) (sd ps ((i + 1) % ps.length)).b || hasP (sd ps ((i + 1) % ps.length)) (sd ps i).a
def simpleR (ps : List Pt) : Bool := (List.range ps.length).all fun i => !turnsR ps i && (List.range ps.length).all fun k => !badK ps i k
/-- The error of a polygon, as the reference finds it. -/
def polyR (p : List Pt) : Int :=
  if p.length < 3 ∨ 40 < p.length then 10 else if ptsErr p = 0 then (if twiceP [] p = true then 5 else if simpleR p = true then (if areaP p ≤ 0 then 9 else 0) else 3) else ptsErr p
theorem sq0I (z : Int) : 0 ≤ z * z := by
  rcases Int.le_total 0 z with h | h
  · exact Int.mul_nonneg h h
  · exact Int.mul_nonneg_of_nonpos_of_nonpos h h
theorem sq_pos {z : Int} (h : z ≠ 0) : 0 < z * z := by
  have := sq0I z
  rcases Int.lt_or_eq_of_le this with h1 | h1
  · exact h1
  · rcases Int.mul_eq_zero.1 h1.symm with h2 | h2 <;> exact absurd h2 h
theorem way_pos {p q : Pt} (h : p ≠ q) : 0 < (q.x - p.x) * (q.x - p.x) + (q.y - p.y) * (q.y - p.y) := by
  have s1 := sq0I (q.x - p.x)
  have s2 := sq0I (q.y - p.y)
  by_cases h1 : q.x - p.x = 0
  · have h2 : q.y - p.y ≠ 0 := fun h2 => h (by cases p; cases q; rw [Pt.mk.injEq]; dsimp only at h1 h2; omega)
    have := sq_pos h2
    omega
  · have := sq_pos h1
    omega
theorem lie_on {a b c : Pt} (hab : a ≠ b) (hbc : b ≠ c) : (hasP ⟨a, b⟩ c || hasP ⟨b, c⟩ a) = true ↔ (crs ⟨a, b⟩ c = 0 ∧ 0 < dotP b a c) := by
  rw [Bool.or_eq_true, has_iff, has_iff]
  dsimp only
  have hU := way_pos (Ne.symm hab)
  have hV := way_pos hbc
  have e0 : crs ⟨b, c⟩ a = crs ⟨a, b⟩ c := by unfold crs; dsimp only; grind
  have e1 : dotP c a b = ((c.x - b.x) * (c.x - b.x) + (c.y - b.y) * (c.y - b.y)) - dotP b a c := by unfold dotP; grind
  have e2 : dotP a b c = ((a.x - b.x) * (a.x - b.x) + (a.y - b.y) * (a.y - b.y)) - dotP b a c := by unfold dotP; grind
  have e3 : dotP b a c * dotP b a c + crs ⟨a, b⟩ c * crs ⟨a, b⟩ c = ((a.x - b.x) * (a.x - b.x) + (a.y - b.y) * (a.y - b.y)) * ((c.x - b.x) * (c.x - b.x) + (c.y - b.y) * (c.y - b.y)) := by
    unfold dotP crs; dsimp only; grind
  rw [e0, e1, e2]
  generalize (a.x - b.x) * (a.x - b.x) + (a.y - b.y) * (a.y - b.y) = U at *
  generalize (c.x - b.x) * (c.x - b.x) + (c.y - b.y) * (c.y - b.y) = V at *
  generalize dotP b a c = D at *
  generalize crs ⟨a, b⟩ c = C at *
  constructor
  · rintro (⟨h1, h2⟩ | ⟨h1, h2⟩)
    · exact ⟨h1, by omega⟩
    · exact ⟨h1, by omega⟩
  · rintro ⟨h1, h2⟩
    subst h1
    by_cases hv : V - D ≤ 0
    · exact .inl ⟨rfl, hv⟩
    · refine .inr ⟨rfl, ?_⟩
      refine Int.not_lt.1 fun hu => ?_
      have p1 := Int.mul_pos (a := U - D) (b := V) (by omega) (by omega)
      have p2 := Int.mul_pos (a := D) (b := V - D) h2 (by omega)
      grind
theorem back_turns {ps : List Pt} (h3 : 3 ≤ ps.length) (hnd : ps.Nodup) {i : Nat} (hi : i < ps.length) : turnsR ps i = backS ps ((i + 1) % ps.length) := by
  have hlt : (i + 1) % ps.length < ps.length := Nat.mod_lt _ (by omega)
  have e0 : ps[((i + 1) % ps.length + ps.length - 1) % ps.length]?.getD pt0 = cor ps i := by
    unfold cor
    have : ((i + 1) % ps.length + ps.length - 1) % ps.length = i % ps.length := by
      have a1 : ((i + 1) % ps.length + ps.length - 1) % ps.length = ((i + 1) % ps.length + (ps.length - 1)) % ps.length := by congr 1; omega
      rw [a1, Nat.mod_add_mod]
      have a2 : i + 1 + (ps.length - 1) = i + ps.length := by omega
      rw [a2, Nat.add_mod_right]
    rw [this]
  have e2 : cor ps ((i + 1) % ps.length + 1) = cor ps (i + 2) := by
    unfold cor
    rw [Nat.mod_add_mod]
  have n1 : cor ps i ≠ cor ps (i + 1) := cor_ne hnd (by omega) (Ne.symm (succ_mod_ne (by omega)))
  have n2 : cor ps (i + 1) ≠ cor ps (i + 2) := cor_ne hnd (by omega) (Ne.symm (succ_mod_ne (by omega)))
  rw [Bool.eq_iff_iff]
  unfold turnsR backS
  rw [sd_cor hi, sd_cor hlt, e0, cor_mod, e2]
  dsimp only
  rw [lie_on n1 n2, Bool.and_eq_true, beq_iff_eq, decide_eq_true_iff, trnZ]
  have e4 : crs ⟨cor ps (i + 1), cor ps (i + 2)⟩ (cor ps i) = crs ⟨cor ps i, cor ps (i + 1)⟩ (cor ps (i + 2)) := by unfold crs; dsimp only; grind
  rw [e4]
theorem simple_ref {ps : List Pt} (h3 : 3 ≤ ps.length) (hnd : ps.Nodup) : simpleR ps = simpleP ps := by
  rw [Bool.eq_iff_iff]
  unfold simpleR simpleP
  simp only [List.all_eq_true, List.mem_range, Bool.and_eq_true, Bool.not_eq_true']
  constructor
  · intro h i hi
    refine ⟨?_, (h i hi).2⟩
    have hk : (i + (ps.length - 1)) % ps.length < ps.length := Nat.mod_lt _ (by omega)
    have := (h _ hk).1
    rw [back_turns h3 hnd hk] at this
    have e : ((i + (ps.length - 1)) % ps.length + 1) % ps.length = i := by
      rw [Nat.mod_add_mod]
      have : i + (ps.length - 1) + 1 = i + ps.length := by omega
      rw [this, Nat.add_mod_right, Nat.mod_eq_of_lt hi]
    rw [e] at this
    exact this
  · intro h i hi
    refine ⟨?_, (h i hi).2⟩
    rw [back_turns h3 hnd hi]
    exact (h _ (Nat.mod_lt _ (by omega))).1
theorem ptsErr_mem : ∀ {ps : List Pt}, ptsErr ps = 0 → ∀ p ∈ ps, ptErr p = 0
  | [], _, p, hp => by cases hp
  | q :: r, h, p, hp => by
    unfold ptsErr at h
    split at h
    · rename_i hq
      rcases List.mem_cons.1 hp with rfl | hp
      · exact hq
      · exact ptsErr_mem h p hp
    · rename_i hq
      exact absurd h hq
/-- The reference's error is the program's. -/
theorem polyR_eq (ps : List Pt) : polyR ps = polyE ps := by
  unfold polyR polyE
  by_cases h1 : ps.length < 3 ∨ 40 < ps.length
  · rw [if_pos h1, if_pos h1]
  · rw [if_neg h1, if_neg h1]
    by_cases h2 : ptsErr ps = 0
    · rw [if_pos h2, if_pos h2]
      by_cases h3 : twiceP [] ps = true
      · rw [if_pos h3, if_pos h3]
      · rw [if_neg h3, if_neg h3]
        have hnd := (twice_get ps [] (by simpa using h3)).2
        rw [simple_ref (by omega) hnd]
        by_cases h4 : simpleP ps = true
        · rw [if_pos h4, if_pos h4]
          have hne := Poly.area_ne (ps := ps) ⟨by omega, hnd, h4⟩ (fun p hp => by
            have := ptsErr_mem h2 p hp
            unfold ptErr at this
            split at this
            · cases this
            · omega)
          by_cases h5 : areaP ps < 0
          · rw [if_pos h5, if_pos (by omega)]
          · rw [if_neg h5, if_neg (by omega)]
        · rw [if_neg h4, if_neg h4]
    · rw [if_neg h2, if_neg h2]
end Cal
end Go.Proofs.Ytofaonigcojcaaa
namespace Go.Proofs.Ytofaonigcojcaaa
open Go Go.RowKit Go.Shelf
/-- At most 10 corners, or too many. -/
def fewL (n : Nat) : Bool := decide (n ≤ 10) || (decide (40 < n) && decide (n ≤ 60))
set_option maxHeartbeats 4000000 in
theorem few_any (V : Option Addr) (n d : Nat) (w : World) (hn : n ≤ 1000000) : Calls Try.prog 40 #[.slice V n d] w fun e w' => e = .returned (.bool (fewL n)) ∧ Below w.heap.size w w' := by
  have hlo : IntKind.i64.wrap (n : Int) = (n : Int) := wrap_small (by omega) (by omega)
  by_cases h1 : n ≤ 10
  · have hf : Hid (fewL n = true) := by show _ = _; unfold fewL; rw [decide_eq_true h1]; rfl
    have hi : (n : Int) ≤ 10 := by omega
    go_enter Try.func40, Try.ntmps40
    go_wp2_with fail
    go_ret
    exact ⟨by rw [hf.out]; rfl, blw⟩
  · have hi : ¬ (n : Int) ≤ 10 := by omega
    by_cases h2 : 40 < n
    · have hi2 : (40 : Int) < n := by omega
      by_cases h3 : n ≤ 60
      · have hf : Hid (fewL n = true) := by show _ = _; unfold fewL; rw [decide_eq_true h2, decide_eq_true h3]; simp
        have hi3 : (n : Int) ≤ 60 := by omega
        go_enter Try.func40, Try.ntmps40
        go_wp2_with fail
        go_ret
        exact ⟨by rw [hf.out]; rfl, blw⟩
      · have hf : Hid (fewL n = false) := by show _ = _; unfold fewL; rw [decide_eq_false h1, decide_eq_false h3]; simp
        have hi3 : ¬ (n : Int) ≤ 60 := by omega
        go_enter Try.func40, Try.ntmps40
        go_wp2_with fail
        go_ret
        exact ⟨by rw [hf.out]; rfl, blw⟩
    · have hf : Hid (fewL n = false) := by show _ = _; unfold fewL; rw [decide_eq_false h1, decide_eq_false h2]; simp
      have hi2 : ¬ (40 : Int) < n := by omega
      go_enter Try.func40, Try.ntmps40
      go_wp2_with fail
      go_ret
      exact ⟨by rw [hf.out]; rfl, blw⟩
theorem inPl_err (q : Pt) : inPl q = true ↔ Cal.ptErr q = 0 := by
  unfold inPl inR Cal.ptErr
  simp only [Bool.and_eq_true, decide_eq_true_eq]
  constructor
  · intro h; rw [if_neg (by omega)]
  · intro h
    split at h
    · cases h
    · omega
theorem ptErr_two {q : Pt} (h : Cal.ptErr q ≠ 0) : Cal.ptErr q = 2 := by
  unfold Cal.ptErr at h ⊢
  split
  · rfl
  · rename_i h1; rw [if_neg h1] at h; exact absurd rfl h
/-- The first point out of range decides. -/
theorem ptsErr_first : ∀ (ps : List Pt) (k : Nat) (hk : k < ps.length), (∀ j (hj : j < k), Cal.ptErr (ps[j]'(Nat.lt_trans hj hk)) = 0) → Cal.ptErr ps[k] ≠ 0 → Cal.ptsErr ps = 2
  | q :: r, 0, _, _, h => by
    have h : Cal.ptErr q ≠ 0 := h
    unfold Cal.ptsErr
    rw [if_neg h]
    exact ptErr_two h
  | q :: r, k + 1, hk, hb, h => by
    have h0 : Cal.ptErr q = 0 := hb 0 (Nat.succ_pos k)
    unfold Cal.ptsErr
    rw [if_pos h0]
    exact ptsErr_first r k (by simpa using hk) (fun j hj => hb (j + 1) (by omega)) h
theorem ptsErr_all : ∀ (ps : List Pt), (∀ k (hk : k < ps.length), Cal.ptErr ps[k] = 0) → Cal.ptsErr ps = 0
  | [], _ => rfl
  | q :: r, h => by
    have h0 : Cal.ptErr q = 0 := h 0 (by simp)
    unfold Cal.ptsErr
    rw [if_pos h0]
    exact ptsErr_all r (fun k hk => h (k + 1) (by simpa using hk))
theorem twiceP_of : ∀ (l s : List Pt), (∀ p ∈ s, p ∉ l) → l.Nodup → Cal.twiceP s l = false
  | [], _, _, _ => rfl
  | q :: r, s, hs, hn => by
    unfold Cal.twiceP
    rw [List.nodup_cons] at hn
    rw [Bool.or_eq_false_iff]
    constructor
    · rw [List.any_eq_false]
      intro p hp he
      have : q = p := ptB_iff.1 he
      exact hs p hp (this ▸ List.mem_cons_self)
    · refine twiceP_of r (q :: s) (fun p hp => ?_) hn.2
      rcases List.mem_cons.1 hp with rfl | hp
      · exact hn.1
      · exact fun hm => hs p hp (List.mem_cons_of_mem _ hm)
/-- No corner twice, corner by corner. -/
theorem twiceP_pairs {ps : List Pt} (h : ∀ i (hi : i < ps.length) k (hk : k < i), ps[k]'(Nat.lt_trans hk hi) ≠ ps[i]) : Cal.twiceP [] ps = false := by
  refine twiceP_of ps [] (fun p hp => by cases hp) ?_
  rw [List.nodup_iff_pairwise_ne, List.pairwise_iff_getElem]
  exact fun i j hi hj hij => h j hj i hij
theorem twiceP_hit {ps : List Pt} {i k : Nat} (hi : i < ps.length) (hk : k < i) (he : ps[k]'(Nat.lt_trans hk hi) = ps[i]) : Cal.twiceP [] ps = true := by
  cases h : Cal.twiceP [] ps
  · have hn := (twiceP_get ps [] h).2
    rw [List.nodup_iff_pairwise_ne, List.pairwise_iff_getElem] at hn
    exact absurd he (hn k i _ hi hk)
  · rfl
end Go.Proofs.Ytofaonigcojcaaa
namespace Go.Proofs.Ytofaonigcojcaaa
open Go Go.RowKit Go.Shelf
theorem storeZ {P : Program} {ops : Array Oper} {Q : Exit → Act → World → Prop} {md : Region.Mode} {S : World → Prop} {y : Nat} (i : Nat) {op : Oper} {fuel : Nat} {listed : Array Bool} {a : Act} {w : World} (ty : TypeId) (e f : Operand) (b o : Nat) (cells : Array Value)
    (hr : Region.ready md ops listed = [i]) (ho : ops[i]? = some op) (hst : op.op = .store ty e f) (hl : (listed.setIfInBounds i true).getD y true = true) (hw : Region.wanted op (yielded ops a.tmps) = true)
    (hx : a.eval e = .pointer (some ⟨b, o, none⟩)) (hy : a.eval f = .agg cells) (ht : w.there b o cells.size) (hi : (P.info? ty).map (·.size) = some cells.size) (h1 : cells.all (·.oneCell') = true)
    (h : wpAnyHY P md ops Q S y fuel (listed.setIfInBounds i true) (a.put op.dst undef) (w.setCells b o cells.toList)) : wpAnyHY P md ops Q S y (fuel + 1) listed a w :=
  ratZc i hr ho hl (fun K hK => by
    rw [if_pos hw]
    exact wp_store_mid ty e f hst b o cells hx hy ht hi h1 (hK.out _ _ h))
set_option maxRecDepth 100000 in
set_option maxHeartbeats 4000000 in
theorem sideR_any (V : Option Addr) (d : Nat) (ps : List Pt) (k : Nat) (w : World) (hP : PtsR w V ps) (hk : k < ps.length) (hl : ps.length ≤ 100000) : Calls Try.prog 77 #[.slice V ps.length d, .int .i64 k] w fun e w' => e = .returned (.agg #[.int .i64 (Cal.sd ps k).a.x, .int .i64 (Cal.sd ps k).a.y, .int .i64 (Cal.sd ps k).b.x, .int .i64 (Cal.sd ps k).b.y]) ∧ Below w.heap.size w w' := by
  obtain ⟨q, hq⟩ : ∃ q, q = (k + 1) % ps.length := ⟨_, rfl⟩
  have hqlt : q < ps.length := by rw [hq]; exact Nat.mod_lt _ (by omega)
  have hq1 : ((k : Int) + 1).tmod (ps.length : Int) = (q : Int) := by rw [hq]; rfl
  have hk1 : IntKind.i64.wrap ((k : Int) + 1) = (k : Int) + 1 := wrap_small (by omega) (by omega)
  have hq2 : IntKind.i64.wrap (q : Int) = (q : Int) := wrap_small (by omega) (by omega)
  have hne : ¬ ps.length = 0 := by omega
  have hsd : Cal.sd ps k = ⟨ps[k], ps[q]⟩ := by
    unfold Cal.sd
    rw [← hq, List.getElem?_eq_getElem hk, List.getElem?_eq_getElem hqlt]
    rfl
  rw [hsd]
  have hPr := hP.rows.below (below_alloc w (.cells #[.int .i64 0, .int .i64 0, .int .i64 0, .int .i64 0] 91))
  obtain ⟨b, o, rfl, hbl, e0, e1⟩ := pts_at hPr (List.getElem?_eq_getElem hk)
  obtain ⟨b', o', hA, _, e2, e3⟩ := pts_at hPr (List.getElem?_eq_getElem hqlt)
  cases hA
  generalize ps[k] = pa at *
  generalize ps[q] = pc at *
  have hki : (k : Int) < (ps.length : Int) := by omega
  have hqi : (q : Int) < (ps.length : Int) := by omega
  have hz := Lib.hid (BoxAt.new w #[.int .i64 0, .int .i64 0, .int .i64 0, .int .i64 0] 91)
  have hb := Lib.hid (below_alloc w (.cells #[.int .i64 0, .int .i64 0, .int .i64 0, .int .i64 0] 91))
  clear hP hPr hq hsd
  go_enter Try.func77, Try.ntmps77
  go_wp2_with fail
  generalize hW1 : w.alloc (.cells #[.int .i64 0, .int .i64 0, .int .i64 0, .int .i64 0] 91) = W1 at *
  clear hW1
  have hzd := Lib.hid (hz.out.below (Below.refl _ _).drew)
  have hbd := Lib.hid hb.out.drew
  refine wp_region_heldZ (S := Sx W1 [(b, o + k * 2, .int .i64 pa.x), (b, o + k * 2 + 1, .int .i64 pa.y), (b, o + q * 2, .int .i64 pc.x), (b, o + q * 2 + 1, .int .i64 pc.y)]) 13 (by kernel_rfl) (Sx.mk (by simp only [cs_iff_cons]; exact ⟨e0, e1, e2, e3, cs_nil _⟩) (Below.refl _ _)).drew (fun hHeld => ?_)
  (refine tkZ 0 5 (v := ?_) ?_ ?_; rotate_left; focus (intro w' hSw; replace hSw := hSw.cs; (try simp only [cs_iff_cons] at hSw); go_simp; (try with_reducible rfl)); (try simp only [Act.put, List.setIfInBounds_toArray, List.set_cons_zero, List.set_cons_succ]))
  (refine tkZ 1 6 (v := ?_) ?_ ?_; rotate_left; focus (intro w' hSw; replace hSw := hSw.cs; (try simp only [cs_iff_cons] at hSw); go_simp; (try with_reducible rfl)); (try simp only [Act.put, List.setIfInBounds_toArray, List.set_cons_zero, List.set_cons_succ]))
  (refine tkZ 2 7 (v := ?_) ?_ ?_; rotate_left; focus (intro w' hSw; replace hSw := hSw.cs; (try simp only [cs_iff_cons] at hSw); go_simp; (try with_reducible rfl)); (try simp only [Act.put, List.setIfInBounds_toArray, List.set_cons_zero, List.set_cons_succ]))
  (refine tkZ 3 8 (v := ?_) ?_ ?_; rotate_left; focus (intro w' hSw; replace hSw := hSw.cs; (try simp only [cs_iff_cons] at hSw); go_simp; (try with_reducible rfl)); (try simp only [Act.put, List.setIfInBounds_toArray, List.set_cons_zero, List.set_cons_succ]))
  (refine tkZ 4 9 (v := ?_) ?_ ?_; rotate_left; focus (intro w' hSw; replace hSw := hSw.cs; (try simp only [cs_iff_cons] at hSw); go_simp; (try with_reducible rfl)); (try simp only [Act.put, List.setIfInBounds_toArray, List.set_cons_zero, List.set_cons_succ]))
  (refine tkZ 5 10 (v := ?_) ?_ ?_; rotate_left; focus (intro w' hSw; replace hSw := hSw.cs; (try simp only [cs_iff_cons] at hSw); go_simp; (try with_reducible rfl)); (try simp only [Act.put, List.setIfInBounds_toArray, List.set_cons_zero, List.set_cons_succ]))
  (refine tkZ 6 11 (v := ?_) ?_ ?_; rotate_left; focus (intro w' hSw; replace hSw := hSw.cs; (try simp only [cs_iff_cons] at hSw); go_simp; (try with_reducible rfl)); (try simp only [Act.put, List.setIfInBounds_toArray, List.set_cons_zero, List.set_cons_succ]))
  (refine tkZ 7 12 (v := ?_) ?_ ?_; rotate_left; focus (intro w' hSw; replace hSw := hSw.cs; (try simp only [cs_iff_cons] at hSw); go_simp; (try with_reducible rfl)); (try simp only [Act.put, List.setIfInBounds_toArray, List.set_cons_zero, List.set_cons_succ]))
  (refine tkZ 8 13 (v := ?_) ?_ ?_; rotate_left; focus (intro w' hSw; replace hSw := hSw.cs; (try simp only [cs_iff_cons] at hSw); go_simp; (try with_reducible rfl)); (try simp only [Act.put, List.setIfInBounds_toArray, List.set_cons_zero, List.set_cons_succ]))
  (refine tkZ 9 14 (v := ?_) ?_ ?_; rotate_left; focus (intro w' hSw; replace hSw := hSw.cs; (try simp only [cs_iff_cons] at hSw); go_simp; (try with_reducible rfl)); (try simp only [Act.put, List.setIfInBounds_toArray, List.set_cons_zero, List.set_cons_succ]))
  (refine tkZ 10 15 (v := ?_) ?_ ?_; rotate_left; focus (intro w' hSw; replace hSw := hSw.cs; (try simp only [cs_iff_cons] at hSw); go_simp; (try with_reducible rfl)); (try simp only [Act.put, List.setIfInBounds_toArray, List.set_cons_zero, List.set_cons_succ]))
  (refine tkZ 11 16 (v := ?_) ?_ ?_; rotate_left; focus (intro w' hSw; replace hSw := hSw.cs; (try simp only [cs_iff_cons] at hSw); go_simp; (try with_reducible rfl)); (try simp only [Act.put, List.setIfInBounds_toArray, List.set_cons_zero, List.set_cons_succ]))
  (refine tkZ 12 17 (v := ?_) ?_ ?_; rotate_left; focus (intro w' hSw; replace hSw := hSw.cs; (try simp only [cs_iff_cons] at hSw); go_simp; (try with_reducible rfl)); (try simp only [Act.put, List.setIfInBounds_toArray, List.set_cons_zero, List.set_cons_succ]))
  ((try simp only [Act.put, List.setIfInBounds_toArray]); (try simp only [List.set_cons_zero, List.set_cons_succ]))
  refine storeZ 13 91 (.tmp 4) (.tmp 17) w.heap.size 0 #[.int .i64 pa.x, .int .i64 pa.y, .int .i64 pc.x, .int .i64 pc.y] (by decide +kernel) (by exact rfl) (by exact rfl) (by decide +kernel) (by kernel_rfl) (by rfl) (by rfl) (by exact hzd.out.there) sgSize (by kernel_rfl) ?_
  ((try simp only [Act.put, List.setIfInBounds_toArray]); (try simp only [List.set_cons_zero, List.set_cons_succ]))
  refine wpAnyHY_done (by decide +kernel) ?_ _
  have h5 := Lib.hid (hzd.out.put [.int .i64 pa.x, .int .i64 pa.y, .int .i64 pc.x, .int .i64 pc.y] rfl)
  have hb5 := Lib.hid (below_of_grownB hbd.out (grown_setCells w.heap.size [.int .i64 pa.x, .int .i64 pa.y, .int .i64 pc.x, .int .i64 pc.y] 0 W1.drew) (Nat.le_refl _))
  go_wp2_with fail
  (try simp only [Exit.inBlock, Exit.then])
  refine bodyPost_ret (results_mid1 rfl _ _ w.heap.size [.int .i64 pa.x, .int .i64 pa.y, .int .i64 pc.x, .int .i64 pc.y] _ rfl h5.out.range Try.underlying91 rfl sgSize) rfl ⟨rfl, hb5.out⟩
end Go.Proofs.Ytofaonigcojcaaa
namespace Go.Proofs.Ytofaonigcojcaaa
open Go Go.RowKit Go.Shelf
theorem storeH {P : Program} {ops : Array Oper} {Q : Exit → Act → World → Prop} {md : Region.Mode} {S : World → Prop} (i : Nat) {op : Oper} {fuel : Nat} {listed : Array Bool} {a : Act} {w : World} (ty : TypeId) (e f : Operand) (b o : Nat) (cells : Array Value)
    (hr : Region.ready md ops listed = [i]) (ho : ops[i]? = some op) (hst : op.op = .store ty e f) (hw : Region.wanted op (yielded ops a.tmps) = true)
    (hx : a.eval e = .pointer (some ⟨b, o, none⟩)) (hy : a.eval f = .agg cells) (ht : w.there b o cells.size) (hi : (P.info? ty).map (·.size) = some cells.size) (h1 : cells.all (·.oneCell') = true)
    (hS : S (w.setCells b o cells.toList)) (h : S (w.setCells b o cells.toList) → wpAnyH P md ops Q S fuel (listed.setIfInBounds i true) (a.put op.dst undef) (w.setCells b o cells.toList)) : wpAnyH P md ops Q S (fuel + 1) listed a w :=
  wpAnyH_ready (rs := [i]) hr (by simp) (AllReadyH.cons ho (fun K hK => by
    rw [if_pos hw]
    exact wp_store_mid ty e f hst b o cells hx hy ht hi h1 (hK.out _ _ hS h)) AllReadyH.nil)
theorem Sx.setCells {w W : World} {b : Nat} {vs : List Value} (h : Sx w [] W) (hb : w.heap.size ≤ b) : Sx w [] (W.setCells b 0 vs) :=
  ⟨cs_nil _, below_of_grownB h.bel (grown_setCells b vs 0 W) hb⟩
theorem BoxAt.asideC {W : World} {B b : Nat} {cs vs : List Value} (h : BoxAt W B cs) (hne : B ≠ b) : BoxAt (W.setCells b 0 vs) B cs :=
  h.grown (grown_setCells b vs 0 W) (fun e => hne (by cases e; rfl))
theorem newBox {w W : World} {cs : Array Value} {t : TypeId} (_ : Sx w [] (W.alloc (.cells cs t))) : BoxAt (W.alloc (.cells cs t)) W.heap.size cs.toList := BoxAt.new W cs t
theorem oldBox {w W : World} {o : Obj} {B : Nat} {cs : List Value} (_ : Sx w [] (W.alloc o)) (h : BoxAt W B cs) : BoxAt (W.alloc o) B cs := h.alloc o
theorem ltBox {w W : World} {o : Obj} (h : Sx w [] W) (_ : Sx w [] (W.alloc o)) : w.heap.size ≤ W.heap.size := h.bel.size
end Go.Proofs.Ytofaonigcojcaaa
namespace Go.Proofs.Ytofaonigcojcaaa
open Go Go.RowKit Go.Shelf
set_option maxRecDepth 100000 in
set_option maxHeartbeats 4000000 in
theorem crossesR_any (s t : Sd) (w : World) (hs : SmS s) (ht : SmS t) : Calls Try.prog 102 #[.agg #[.int .i64 s.a.x, .int .i64 s.a.y, .int .i64 s.b.x, .int .i64 s.b.y], .agg #[.int .i64 t.a.x, .int .i64 t.a.y, .int .i64 t.b.x, .int .i64 t.b.y]] w fun e w' => e = .returned (.bool (Cal.crosS s t)) ∧ Below w.heap.size w w' := by
  obtain ⟨b0, b1, b2, b3, b4, b5⟩ := trn_box s t.a t.b
  obtain ⟨d0, d1, d2, d3, d4, d5⟩ := trn_box t s.a s.b
  have w1 : IntKind.i64.wrap (Cal.trn s t.a * Cal.trn s t.b) = Cal.trn s t.a * Cal.trn s t.b := wrap_small (by omega) (by omega)
  have w2 : IntKind.i64.wrap (Cal.trn t s.a * Cal.trn t s.b) = Cal.trn t s.a * Cal.trn t s.b := wrap_small (by omega) (by omega)
  clear b0 b1 b2 b3 b4 b5 d0 d1 d2 d3 d4 d5
  have g1 := Lib.hid (fun W => crossR_any s.a s.b t.a W hs.a hs.b ht.a)
  have g2 := Lib.hid (fun W => crossR_any s.a s.b t.b W hs.a hs.b ht.b)
  have g3 := Lib.hid (fun W => crossR_any t.a t.b s.a W ht.a ht.b hs.a)
  have g4 := Lib.hid (fun W => crossR_any t.a t.b s.b W ht.a ht.b hs.b)
  have k1 : Hid (∀ W, Calls Try.prog 123 #[.int .i64 (Cal.crs ⟨s.a, s.b⟩ t.a)] W fun e w' => e = .returned (.int .i64 (Cal.trn s t.a)) ∧ Below W.heap.size W w') := fun W => signR_any _ W
  have k2 : Hid (∀ W, Calls Try.prog 123 #[.int .i64 (Cal.crs ⟨s.a, s.b⟩ t.b)] W fun e w' => e = .returned (.int .i64 (Cal.trn s t.b)) ∧ Below W.heap.size W w') := fun W => signR_any _ W
  have k3 : Hid (∀ W, Calls Try.prog 123 #[.int .i64 (Cal.crs ⟨t.a, t.b⟩ s.a)] W fun e w' => e = .returned (.int .i64 (Cal.trn t s.a)) ∧ Below W.heap.size W w') := fun W => signR_any _ W
  have k4 : Hid (∀ W, Calls Try.prog 123 #[.int .i64 (Cal.crs ⟨t.a, t.b⟩ s.b)] W fun e w' => e = .returned (.int .i64 (Cal.trn t s.b)) ∧ Below W.heap.size W w') := fun W => signR_any _ W
  by_cases h : Cal.trn s t.a * Cal.trn s t.b < 0
  · have hf : Hid (Cal.crosS s t = decide (Cal.trn t s.a * Cal.trn t s.b < 0)) := by show _ = _; unfold Cal.crosS; rw [decide_eq_true h, Bool.true_and]
    have hd := decide_eq_true h
    go_enter Try.func102, Try.ntmps102
    go_wp2_with fail
    refine wp_region_held_drew (S := Sx w [(w.heap.size, 0, .int .i64 s.a.x), (w.heap.size, 1, .int .i64 s.a.y), (w.heap.size, 2, .int .i64 s.b.x), (w.heap.size, 3, .int .i64 s.b.y), (w.heap.size + 1, 0, .int .i64 t.a.x), (w.heap.size + 1, 1, .int .i64 t.a.y), (w.heap.size + 1, 2, .int .i64 t.b.x), (w.heap.size + 1, 3, .int .i64 t.b.y)]) (by kernel_rfl) ⟨by simp [cs_iff_cons, cs_nil], blw⟩ (fun hHeld => ?_)
    (refine tkH2 0 5 (v := ?_) ?_ ?_; rotate_left; focus (intro w' hSw; replace hSw := hSw.cs; (try simp only [cs_iff_cons] at hSw); go_simp; (try with_reducible rfl)); (try simp only [Act.put, List.setIfInBounds_toArray, List.set_cons_zero, List.set_cons_succ]))
    (refine tkH2 1 6 (v := ?_) ?_ ?_; rotate_left; focus (intro w' hSw; replace hSw := hSw.cs; (try simp only [cs_iff_cons] at hSw); go_simp; (try with_reducible rfl)); (try simp only [Act.put, List.setIfInBounds_toArray, List.set_cons_zero, List.set_cons_succ]))
    (refine tkH2 2 7 (v := ?_) ?_ ?_; rotate_left; focus (intro w' hSw; replace hSw := hSw.cs; (try simp only [cs_iff_cons] at hSw); go_simp; (try with_reducible rfl)); (try simp only [Act.put, List.setIfInBounds_toArray, List.set_cons_zero, List.set_cons_succ]))
    (refine tkH2 3 8 (v := ?_) ?_ ?_; rotate_left; focus (intro w' hSw; replace hSw := hSw.cs; (try simp only [cs_iff_cons] at hSw); go_simp; (try with_reducible rfl)); (try simp only [Act.put, List.setIfInBounds_toArray, List.set_cons_zero, List.set_cons_succ]))
    (refine tkH2 4 9 (v := ?_) ?_ ?_; rotate_left; focus (intro w' hSw; replace hSw := hSw.cs; (try simp only [cs_iff_cons] at hSw); go_simp; (try with_reducible rfl)); (try simp only [Act.put, List.setIfInBounds_toArray, List.set_cons_zero, List.set_cons_succ]))
    (refine tkH2 5 10 (v := ?_) ?_ ?_; rotate_left; focus (intro w' hSw; replace hSw := hSw.cs; (try simp only [cs_iff_cons] at hSw); go_simp; (try with_reducible rfl)); (try simp only [Act.put, List.setIfInBounds_toArray, List.set_cons_zero, List.set_cons_succ]))
    (refine tkH2 8 13 (v := ?_) ?_ ?_; rotate_left; focus (intro w' hSw; replace hSw := hSw.cs; (try simp only [cs_iff_cons] at hSw); go_simp; (try with_reducible rfl)); (try simp only [Act.put, List.setIfInBounds_toArray, List.set_cons_zero, List.set_cons_succ]))
    (refine tkH2 9 14 (v := ?_) ?_ ?_; rotate_left; focus (intro w' hSw; replace hSw := hSw.cs; (try simp only [cs_iff_cons] at hSw); go_simp; (try with_reducible rfl)); (try simp only [Act.put, List.setIfInBounds_toArray, List.set_cons_zero, List.set_cons_succ]))
    (refine tkH2 10 15 (v := ?_) ?_ ?_; rotate_left; focus (intro w' hSw; replace hSw := hSw.cs; (try simp only [cs_iff_cons] at hSw); go_simp; (try with_reducible rfl)); (try simp only [Act.put, List.setIfInBounds_toArray, List.set_cons_zero, List.set_cons_succ]))
    (refine tkH2 11 16 (v := ?_) ?_ ?_; rotate_left; focus (intro w' hSw; replace hSw := hSw.cs; (try simp only [cs_iff_cons] at hSw); go_simp; (try with_reducible rfl)); (try simp only [Act.put, List.setIfInBounds_toArray, List.set_cons_zero, List.set_cons_succ]))
    (refine tkH2 12 17 (v := ?_) ?_ ?_; rotate_left; focus (intro w' hSw; replace hSw := hSw.cs; (try simp only [cs_iff_cons] at hSw); go_simp; (try with_reducible rfl)); (try simp only [Act.put, List.setIfInBounds_toArray, List.set_cons_zero, List.set_cons_succ]))
    (refine tkH2 13 18 (v := ?_) ?_ ?_; rotate_left; focus (intro w' hSw; replace hSw := hSw.cs; (try simp only [cs_iff_cons] at hSw); go_simp; (try with_reducible rfl)); (try simp only [Act.put, List.setIfInBounds_toArray, List.set_cons_zero, List.set_cons_succ]))
    (refine wpAnyH_ready (rs := [6]) (by decide +kernel) (by simp) ?_; refine AllReadyH.cons rfl (fun K hK => ?_) AllReadyH.nil; rw [if_pos (by kernel_rfl)]; go_simp)
    refine (g1.out _).mono ?_
    rintro e wn ⟨rfl, hbn⟩
    go_simp
    (refine hK.out _ _ (hHeld.step hbn) (fun hHeld => ?_); clear hK K; (try simp only [Act.put, List.setIfInBounds_toArray]); (try simp only [List.set_cons_zero, List.set_cons_succ]))
    (refine wpAnyH_ready (rs := [7]) (by decide +kernel) (by simp) ?_; refine AllReadyH.cons rfl (fun K hK => ?_) AllReadyH.nil; rw [if_pos (by kernel_rfl)]; go_simp)
    refine (k1.out _).mono ?_
    rintro e wn ⟨rfl, hbn⟩
    go_simp
    (refine hK.out _ _ (hHeld.step hbn) (fun hHeld => ?_); clear hK K; (try simp only [Act.put, List.setIfInBounds_toArray]); (try simp only [List.set_cons_zero, List.set_cons_succ]))
    (refine wpAnyH_ready (rs := [14]) (by decide +kernel) (by simp) ?_; refine AllReadyH.cons rfl (fun K hK => ?_) AllReadyH.nil; rw [if_pos (by kernel_rfl)]; go_simp)
    refine (g2.out _).mono ?_
    rintro e wn ⟨rfl, hbn⟩
    go_simp
    (refine hK.out _ _ (hHeld.step hbn) (fun hHeld => ?_); clear hK K; (try simp only [Act.put, List.setIfInBounds_toArray]); (try simp only [List.set_cons_zero, List.set_cons_succ]))
    (refine wpAnyH_ready (rs := [15]) (by decide +kernel) (by simp) ?_; refine AllReadyH.cons rfl (fun K hK => ?_) AllReadyH.nil; rw [if_pos (by kernel_rfl)]; go_simp)
    refine (k2.out _).mono ?_
    rintro e wn ⟨rfl, hbn⟩
    go_simp
    (refine hK.out _ _ (hHeld.step hbn) (fun hHeld => ?_); clear hK K; (try simp only [Act.put, List.setIfInBounds_toArray]); (try simp only [List.set_cons_zero, List.set_cons_succ]))
    (refine tkH2 16 21 (v := ?_) ?_ ?_; rotate_left; focus (intro w' hSw; replace hSw := hSw.cs; (try simp only [cs_iff_cons] at hSw); go_simp; (try with_reducible rfl)); (try simp only [Act.put, List.setIfInBounds_toArray, List.set_cons_zero, List.set_cons_succ]))
    (refine tkH2 17 22 (v := ?_) ?_ ?_; rotate_left; focus (intro w' hSw; replace hSw := hSw.cs; (try simp only [cs_iff_cons] at hSw); go_simp; (try with_reducible rfl)); (try simp only [Act.put, List.setIfInBounds_toArray, List.set_cons_zero, List.set_cons_succ]))
    (refine tkH2 18 23 (v := ?_) ?_ ?_; rotate_left; focus (intro w' hSw; replace hSw := hSw.cs; (try simp only [cs_iff_cons] at hSw); go_simp; (try with_reducible rfl)); (try simp only [Act.put, List.setIfInBounds_toArray, List.set_cons_zero, List.set_cons_succ]))
    (refine tkH2 19 24 (v := ?_) ?_ ?_; rotate_left; focus (intro w' hSw; replace hSw := hSw.cs; (try simp only [cs_iff_cons] at hSw); go_simp; (try with_reducible rfl)); (try simp only [Act.put, List.setIfInBounds_toArray, List.set_cons_zero, List.set_cons_succ]))
    (refine tkH2 20 25 (v := ?_) ?_ ?_; rotate_left; focus (intro w' hSw; replace hSw := hSw.cs; (try simp only [cs_iff_cons] at hSw); go_simp; (try with_reducible rfl)); (try simp only [Act.put, List.setIfInBounds_toArray, List.set_cons_zero, List.set_cons_succ]))
    (refine tkH2 21 26 (v := ?_) ?_ ?_; rotate_left; focus (intro w' hSw; replace hSw := hSw.cs; (try simp only [cs_iff_cons] at hSw); go_simp; (try with_reducible rfl)); (try simp only [Act.put, List.setIfInBounds_toArray, List.set_cons_zero, List.set_cons_succ]))
    (refine tkH2 22 27 (v := ?_) ?_ ?_; rotate_left; focus (intro w' hSw; replace hSw := hSw.cs; (try simp only [cs_iff_cons] at hSw); go_simp; (try with_reducible rfl)); (try simp only [Act.put, List.setIfInBounds_toArray, List.set_cons_zero, List.set_cons_succ]))
    (refine tkH2 23 28 (v := ?_) ?_ ?_; rotate_left; focus (intro w' hSw; replace hSw := hSw.cs; (try simp only [cs_iff_cons] at hSw); go_simp; (try with_reducible rfl)); (try simp only [Act.put, List.setIfInBounds_toArray, List.set_cons_zero, List.set_cons_succ]))
    (refine tkH2 24 29 (v := ?_) ?_ ?_; rotate_left; focus (intro w' hSw; replace hSw := hSw.cs; (try simp only [cs_iff_cons] at hSw); go_simp; (try with_reducible rfl)); (try simp only [Act.put, List.setIfInBounds_toArray, List.set_cons_zero, List.set_cons_succ]))
    (refine tkH2 27 32 (v := ?_) ?_ ?_; rotate_left; focus (intro w' hSw; replace hSw := hSw.cs; (try simp only [cs_iff_cons] at hSw); go_simp; (try with_reducible rfl)); (try simp only [Act.put, List.setIfInBounds_toArray, List.set_cons_zero, List.set_cons_succ]))
    (refine tkH2 28 33 (v := ?_) ?_ ?_; rotate_left; focus (intro w' hSw; replace hSw := hSw.cs; (try simp only [cs_iff_cons] at hSw); go_simp; (try with_reducible rfl)); (try simp only [Act.put, List.setIfInBounds_toArray, List.set_cons_zero, List.set_cons_succ]))
    (refine tkH2 29 34 (v := ?_) ?_ ?_; rotate_left; focus (intro w' hSw; replace hSw := hSw.cs; (try simp only [cs_iff_cons] at hSw); go_simp; (try with_reducible rfl)); (try simp only [Act.put, List.setIfInBounds_toArray, List.set_cons_zero, List.set_cons_succ]))
    (refine tkH2 30 35 (v := ?_) ?_ ?_; rotate_left; focus (intro w' hSw; replace hSw := hSw.cs; (try simp only [cs_iff_cons] at hSw); go_simp; (try with_reducible rfl)); (try simp only [Act.put, List.setIfInBounds_toArray, List.set_cons_zero, List.set_cons_succ]))
    (refine tkH2 31 36 (v := ?_) ?_ ?_; rotate_left; focus (intro w' hSw; replace hSw := hSw.cs; (try simp only [cs_iff_cons] at hSw); go_simp; (try with_reducible rfl)); (try simp only [Act.put, List.setIfInBounds_toArray, List.set_cons_zero, List.set_cons_succ]))
    (refine tkH2 32 37 (v := ?_) ?_ ?_; rotate_left; focus (intro w' hSw; replace hSw := hSw.cs; (try simp only [cs_iff_cons] at hSw); go_simp; (try with_reducible rfl)); (try simp only [Act.put, List.setIfInBounds_toArray, List.set_cons_zero, List.set_cons_succ]))
    (refine wpAnyH_ready (rs := [25]) (by decide +kernel) (by simp) ?_; refine AllReadyH.cons rfl (fun K hK => ?_) AllReadyH.nil; rw [if_pos (by kernel_rfl)]; go_simp)
    refine (g3.out _).mono ?_
    rintro e wn ⟨rfl, hbn⟩
    go_simp
    (refine hK.out _ _ (hHeld.step hbn) (fun hHeld => ?_); clear hK K; (try simp only [Act.put, List.setIfInBounds_toArray]); (try simp only [List.set_cons_zero, List.set_cons_succ]))
    (refine wpAnyH_ready (rs := [26]) (by decide +kernel) (by simp) ?_; refine AllReadyH.cons rfl (fun K hK => ?_) AllReadyH.nil; rw [if_pos (by kernel_rfl)]; go_simp)
    refine (k3.out _).mono ?_
    rintro e wn ⟨rfl, hbn⟩
    go_simp
    (refine hK.out _ _ (hHeld.step hbn) (fun hHeld => ?_); clear hK K; (try simp only [Act.put, List.setIfInBounds_toArray]); (try simp only [List.set_cons_zero, List.set_cons_succ]))
    (refine wpAnyH_ready (rs := [33]) (by decide +kernel) (by simp) ?_; refine AllReadyH.cons rfl (fun K hK => ?_) AllReadyH.nil; rw [if_pos (by kernel_rfl)]; go_simp)
    refine (g4.out _).mono ?_
    rintro e wn ⟨rfl, hbn⟩
    go_simp
    (refine hK.out _ _ (hHeld.step hbn) (fun hHeld => ?_); clear hK K; (try simp only [Act.put, List.setIfInBounds_toArray]); (try simp only [List.set_cons_zero, List.set_cons_succ]))
    (refine wpAnyH_ready (rs := [34]) (by decide +kernel) (by simp) ?_; refine AllReadyH.cons rfl (fun K hK => ?_) AllReadyH.nil; rw [if_pos (by kernel_rfl)]; go_simp)
    refine (k4.out _).mono ?_
    rintro e wn ⟨rfl, hbn⟩
    go_simp
    (refine hK.out _ _ (hHeld.step hbn) (fun hHeld => ?_); clear hK K; (try simp only [Act.put, List.setIfInBounds_toArray]); (try simp only [List.set_cons_zero, List.set_cons_succ]))
    (refine tkH2 35 40 (v := ?_) ?_ ?_; rotate_left; focus (intro w' hSw; replace hSw := hSw.cs; (try simp only [cs_iff_cons] at hSw); go_simp; (try with_reducible rfl)); (try simp only [Act.put, List.setIfInBounds_toArray, List.set_cons_zero, List.set_cons_succ]))
    (refine tkH2 36 41 (v := ?_) ?_ ?_; rotate_left; focus (intro w' hSw; replace hSw := hSw.cs; (try simp only [cs_iff_cons] at hSw); go_simp; (try with_reducible rfl)); (try simp only [Act.put, List.setIfInBounds_toArray, List.set_cons_zero, List.set_cons_succ]))
    (refine tkH2 37 42 (v := ?_) ?_ ?_; rotate_left; focus (intro w' hSw; replace hSw := hSw.cs; (try simp only [cs_iff_cons] at hSw); go_simp; (try with_reducible rfl)); (try simp only [Act.put, List.setIfInBounds_toArray, List.set_cons_zero, List.set_cons_succ]))
    (refine tkH2 38 4 (v := ?_) ?_ ?_; rotate_left; focus (intro w' hSw; replace hSw := hSw.cs; (try simp only [cs_iff_cons] at hSw); go_simp; (try with_reducible rfl)); (try simp only [Act.put, List.setIfInBounds_toArray, List.set_cons_zero, List.set_cons_succ]))
    refine wpAnyH_done (by kernel_rfl) ?_ _
    go_wp2_with fail
    go_ret
    exact ⟨ret_bool hf.out.symm, hHeld.bel⟩
  · have hf : Hid (Cal.crosS s t = false) := by show _ = _; unfold Cal.crosS; rw [decide_eq_false h, Bool.false_and]
    have hd := decide_eq_false h
    go_enter Try.func102, Try.ntmps102
    go_wp2_with fail
    refine wp_region_held_drew (S := Sx w [(w.heap.size, 0, .int .i64 s.a.x), (w.heap.size, 1, .int .i64 s.a.y), (w.heap.size, 2, .int .i64 s.b.x), (w.heap.size, 3, .int .i64 s.b.y), (w.heap.size + 1, 0, .int .i64 t.a.x), (w.heap.size + 1, 1, .int .i64 t.a.y), (w.heap.size + 1, 2, .int .i64 t.b.x), (w.heap.size + 1, 3, .int .i64 t.b.y)]) (by kernel_rfl) ⟨by simp [cs_iff_cons, cs_nil], blw⟩ (fun hHeld => ?_)
    (refine tkH2 0 5 (v := ?_) ?_ ?_; rotate_left; focus (intro w' hSw; replace hSw := hSw.cs; (try simp only [cs_iff_cons] at hSw); go_simp; (try with_reducible rfl)); (try simp only [Act.put, List.setIfInBounds_toArray, List.set_cons_zero, List.set_cons_succ]))
    (refine tkH2 1 6 (v := ?_) ?_ ?_; rotate_left; focus (intro w' hSw; replace hSw := hSw.cs; (try simp only [cs_iff_cons] at hSw); go_simp; (try with_reducible rfl)); (try simp only [Act.put, List.setIfInBounds_toArray, List.set_cons_zero, List.set_cons_succ]))
    (refine tkH2 2 7 (v := ?_) ?_ ?_; rotate_left; focus (intro w' hSw; replace hSw := hSw.cs; (try simp only [cs_iff_cons] at hSw); go_simp; (try with_reducible rfl)); (try simp only [Act.put, List.setIfInBounds_toArray, List.set_cons_zero, List.set_cons_succ]))
    (refine tkH2 3 8 (v := ?_) ?_ ?_; rotate_left; focus (intro w' hSw; replace hSw := hSw.cs; (try simp only [cs_iff_cons] at hSw); go_simp; (try with_reducible rfl)); (try simp only [Act.put, List.setIfInBounds_toArray, List.set_cons_zero, List.set_cons_succ]))
    (refine tkH2 4 9 (v := ?_) ?_ ?_; rotate_left; focus (intro w' hSw; replace hSw := hSw.cs; (try simp only [cs_iff_cons] at hSw); go_simp; (try with_reducible rfl)); (try simp only [Act.put, List.setIfInBounds_toArray, List.set_cons_zero, List.set_cons_succ]))
    (refine tkH2 5 10 (v := ?_) ?_ ?_; rotate_left; focus (intro w' hSw; replace hSw := hSw.cs; (try simp only [cs_iff_cons] at hSw); go_simp; (try with_reducible rfl)); (try simp only [Act.put, List.setIfInBounds_toArray, List.set_cons_zero, List.set_cons_succ]))
    (refine tkH2 8 13 (v := ?_) ?_ ?_; rotate_left; focus (intro w' hSw; replace hSw := hSw.cs; (try simp only [cs_iff_cons] at hSw); go_simp; (try with_reducible rfl)); (try simp only [Act.put, List.setIfInBounds_toArray, List.set_cons_zero, List.set_cons_succ]))
    (refine tkH2 9 14 (v := ?_) ?_ ?_; rotate_left; focus (intro w' hSw; replace hSw := hSw.cs; (try simp only [cs_iff_cons] at hSw); go_simp; (try with_reducible rfl)); (try simp only [Act.put, List.setIfInBounds_toArray, List.set_cons_zero, List.set_cons_succ]))
    (refine tkH2 10 15 (v := ?_) ?_ ?_; rotate_left; focus (intro w' hSw; replace hSw := hSw.cs; (try simp only [cs_iff_cons] at hSw); go_simp; (try with_reducible rfl)); (try simp only [Act.put, List.setIfInBounds_toArray, List.set_cons_zero, List.set_cons_succ]))
    (refine tkH2 11 16 (v := ?_) ?_ ?_; rotate_left; focus (intro w' hSw; replace hSw := hSw.cs; (try simp only [cs_iff_cons] at hSw); go_simp; (try with_reducible rfl)); (try simp only [Act.put, List.setIfInBounds_toArray, List.set_cons_zero, List.set_cons_succ]))
    (refine tkH2 12 17 (v := ?_) ?_ ?_; rotate_left; focus (intro w' hSw; replace hSw := hSw.cs; (try simp only [cs_iff_cons] at hSw); go_simp; (try with_reducible rfl)); (try simp only [Act.put, List.setIfInBounds_toArray, List.set_cons_zero, List.set_cons_succ]))
    (refine tkH2 13 18 (v := ?_) ?_ ?_; rotate_left; focus (intro w' hSw; replace hSw := hSw.cs; (try simp only [cs_iff_cons] at hSw); go_simp; (try with_reducible rfl)); (try simp only [Act.put, List.setIfInBounds_toArray, List.set_cons_zero, List.set_cons_succ]))
    (refine wpAnyH_ready (rs := [6]) (by decide +kernel) (by simp) ?_; refine AllReadyH.cons rfl (fun K hK => ?_) AllReadyH.nil; rw [if_pos (by kernel_rfl)]; go_simp)
    refine (g1.out _).mono ?_
    rintro e wn ⟨rfl, hbn⟩
    go_simp
    (refine hK.out _ _ (hHeld.step hbn) (fun hHeld => ?_); clear hK K; (try simp only [Act.put, List.setIfInBounds_toArray]); (try simp only [List.set_cons_zero, List.set_cons_succ]))
    (refine wpAnyH_ready (rs := [7]) (by decide +kernel) (by simp) ?_; refine AllReadyH.cons rfl (fun K hK => ?_) AllReadyH.nil; rw [if_pos (by kernel_rfl)]; go_simp)
    refine (k1.out _).mono ?_
    rintro e wn ⟨rfl, hbn⟩
    go_simp
    (refine hK.out _ _ (hHeld.step hbn) (fun hHeld => ?_); clear hK K; (try simp only [Act.put, List.setIfInBounds_toArray]); (try simp only [List.set_cons_zero, List.set_cons_succ]))
    (refine wpAnyH_ready (rs := [14]) (by decide +kernel) (by simp) ?_; refine AllReadyH.cons rfl (fun K hK => ?_) AllReadyH.nil; rw [if_pos (by kernel_rfl)]; go_simp)
    refine (g2.out _).mono ?_
    rintro e wn ⟨rfl, hbn⟩
    go_simp
    (refine hK.out _ _ (hHeld.step hbn) (fun hHeld => ?_); clear hK K; (try simp only [Act.put, List.setIfInBounds_toArray]); (try simp only [List.set_cons_zero, List.set_cons_succ]))
    (refine wpAnyH_ready (rs := [15]) (by decide +kernel) (by simp) ?_; refine AllReadyH.cons rfl (fun K hK => ?_) AllReadyH.nil; rw [if_pos (by kernel_rfl)]; go_simp)
    refine (k2.out _).mono ?_
    rintro e wn ⟨rfl, hbn⟩
    go_simp
    (refine hK.out _ _ (hHeld.step hbn) (fun hHeld => ?_); clear hK K; (try simp only [Act.put, List.setIfInBounds_toArray]); (try simp only [List.set_cons_zero, List.set_cons_succ]))
    (refine tkH2 16 21 (v := ?_) ?_ ?_; rotate_left; focus (intro w' hSw; replace hSw := hSw.cs; (try simp only [cs_iff_cons] at hSw); go_simp; (try with_reducible rfl)); (try simp only [Act.put, List.setIfInBounds_toArray, List.set_cons_zero, List.set_cons_succ]))
    (refine tkH2 17 22 (v := ?_) ?_ ?_; rotate_left; focus (intro w' hSw; replace hSw := hSw.cs; (try simp only [cs_iff_cons] at hSw); go_simp; (try with_reducible rfl)); (try simp only [Act.put, List.setIfInBounds_toArray, List.set_cons_zero, List.set_cons_succ]))
    (refine tkH2 18 23 (v := ?_) ?_ ?_; rotate_left; focus (intro w' hSw; replace hSw := hSw.cs; (try simp only [cs_iff_cons] at hSw); go_simp; (try with_reducible rfl)); (try simp only [Act.put, List.setIfInBounds_toArray, List.set_cons_zero, List.set_cons_succ]))
    (refine tkF2 19 24 ?_; (try simp only [Act.put, List.setIfInBounds_toArray, List.set_cons_zero, List.set_cons_succ]))
    (refine tkF2 20 25 ?_; (try simp only [Act.put, List.setIfInBounds_toArray, List.set_cons_zero, List.set_cons_succ]))
    (refine tkF2 21 26 ?_; (try simp only [Act.put, List.setIfInBounds_toArray, List.set_cons_zero, List.set_cons_succ]))
    (refine tkF2 22 27 ?_; (try simp only [Act.put, List.setIfInBounds_toArray, List.set_cons_zero, List.set_cons_succ]))
    (refine tkF2 23 28 ?_; (try simp only [Act.put, List.setIfInBounds_toArray, List.set_cons_zero, List.set_cons_succ]))
    (refine tkF2 24 29 ?_; (try simp only [Act.put, List.setIfInBounds_toArray, List.set_cons_zero, List.set_cons_succ]))
    (refine tkF2 25 30 ?_; (try simp only [Act.put, List.setIfInBounds_toArray, List.set_cons_zero, List.set_cons_succ]))
    (refine tkF2 26 31 ?_; (try simp only [Act.put, List.setIfInBounds_toArray, List.set_cons_zero, List.set_cons_succ]))
    (refine tkF2 27 32 ?_; (try simp only [Act.put, List.setIfInBounds_toArray, List.set_cons_zero, List.set_cons_succ]))
    (refine tkF2 28 33 ?_; (try simp only [Act.put, List.setIfInBounds_toArray, List.set_cons_zero, List.set_cons_succ]))
    (refine tkF2 29 34 ?_; (try simp only [Act.put, List.setIfInBounds_toArray, List.set_cons_zero, List.set_cons_succ]))
    (refine tkF2 30 35 ?_; (try simp only [Act.put, List.setIfInBounds_toArray, List.set_cons_zero, List.set_cons_succ]))
    (refine tkF2 31 36 ?_; (try simp only [Act.put, List.setIfInBounds_toArray, List.set_cons_zero, List.set_cons_succ]))
    (refine tkF2 32 37 ?_; (try simp only [Act.put, List.setIfInBounds_toArray, List.set_cons_zero, List.set_cons_succ]))
    (refine tkF2 33 38 ?_; (try simp only [Act.put, List.setIfInBounds_toArray, List.set_cons_zero, List.set_cons_succ]))
    (refine tkF2 34 39 ?_; (try simp only [Act.put, List.setIfInBounds_toArray, List.set_cons_zero, List.set_cons_succ]))
    (refine tkF2 35 40 ?_; (try simp only [Act.put, List.setIfInBounds_toArray, List.set_cons_zero, List.set_cons_succ]))
    (refine tkF2 36 41 ?_; (try simp only [Act.put, List.setIfInBounds_toArray, List.set_cons_zero, List.set_cons_succ]))
    (refine tkH2 37 42 (v := ?_) ?_ ?_; rotate_left; focus (intro w' hSw; replace hSw := hSw.cs; (try simp only [cs_iff_cons] at hSw); go_simp; (try with_reducible rfl)); (try simp only [Act.put, List.setIfInBounds_toArray, List.set_cons_zero, List.set_cons_succ]))
    (refine tkH2 38 4 (v := ?_) ?_ ?_; rotate_left; focus (intro w' hSw; replace hSw := hSw.cs; (try simp only [cs_iff_cons] at hSw); go_simp; (try with_reducible rfl)); (try simp only [Act.put, List.setIfInBounds_toArray, List.set_cons_zero, List.set_cons_succ]))
    refine wpAnyH_done (by kernel_rfl) ?_ _
    go_wp2_with fail
    go_ret
    exact ⟨ret_bool hf.out.symm, hHeld.bel⟩
end Go.Proofs.Ytofaonigcojcaaa
