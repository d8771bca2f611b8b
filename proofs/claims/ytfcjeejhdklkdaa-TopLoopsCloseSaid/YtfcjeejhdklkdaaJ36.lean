/- What the statements rest on: definitions and walks, part 36. -/
import Derived.Test.YtfcjeejhdklkdaaJ28
import Derived.Test.YtfcjeejhdklkdaaJ14
import Derived.Test.YtfcjeejhdklkdaaJ29
import Derived.Test.YtfcjeejhdklkdaaJ04
namespace Go.Proofs.Ytfcjeejhdklkdaa
theorem minorL_red {n : Nat} (L : Nat → Nat → Int) : minorL 0 (matOf (n + 1) L) = matOf n (Cal.red L) := by
  unfold minorL matOf offC
  rw [List.range_succ_eq_map, List.map_cons, List.drop_succ_cons, List.drop_zero, List.map_map, List.map_map]
  refine List.map_congr_left fun i _ => ?_
  show (listOf (n + 1) (L (i + 1))).eraseIdx 0 = listOf n (Cal.red L i)
  unfold listOf
  rw [List.range_succ_eq_map, List.map_cons, List.eraseIdx_zero, List.tail_cons, List.map_map]
  rfl
theorem listOf_drop {n : Nat} (f : Nat → Int) : (listOf (n + 1) f).drop 1 = listOf n fun i => f (i + 1) := by
  unfold listOf
  rw [List.range_succ_eq_map, List.map_cons, List.drop_succ_cons, List.drop_zero, List.map_map]
  rfl
theorem matFn_with {n : Nat} {L : Nat → Nat → Int} {r : Nat → Int} {q i j : Nat} (hi : i < n) (hj : j < n) : matFn (withL q (listOf n r) (matOf n L)) i j = Cal.colPut L q r i j := by
  unfold matFn withL matOf Cal.colPut
  have h1 : (List.zipWith (putC q) ((List.range n).map fun i => listOf n (L i)) (listOf n r))[i]? = some ((listOf n (L i)).set q (r i)) := by
    rw [List.getElem?_zipWith, listOf_get hi]
    simp [hi, putC]
  rw [h1, Option.getD_some, List.getElem?_set]
  by_cases h : q = j
  · subst h
    rw [if_pos rfl, if_pos rfl, listOf_length, if_pos hj]; rfl
  · rw [if_neg h, if_neg (fun e => h e.symm), listOf_get hj]; rfl
namespace Cal
theorem hN_raw {n : Nat} {l : List Lev} {i : Nat} : detF n (withL i ((listOf (n + 1) (rhs (edges l))).drop 1) (minorL 0 (matOf (n + 1) (lap (edges l))))) = detN n (colPut (red (lap (edges l))) i (fun j => rhs (edges l) (j + 1))) := by
  rw [minorL_red, listOf_drop, detF_detN]
  · exact detN_congr fun a b ha hb => matFn_with ha hb
  · unfold withL matOf; simp [listOf_length]
  · intro r hr
    unfold withL at hr
    obtain ⟨j, hj, rfl⟩ := List.getElem_of_mem hr
    rw [List.getElem_zipWith]
    unfold putC matOf
    rw [List.length_set]
    simp [listOf_length]
theorem hN_val {n : Nat} {l : List Lev} (h : netE ((n + 1 : Nat) : Int) l = 0) {i : Nat} (hi : i < n) : hN n l i = detN n (colPut (red (lap (edges l))) i (fun j => rhs (edges l) (j + 1))) := by
  obtain ⟨h1, h2, h3, h4, h5, _⟩ := net_edges h
  have hn := netE_zero h
  have hb := (net_bounds (n := n) (l := edges l) (by omega) h1 (fun e he => ⟨(h3 e he).1, (h3 e he).2, (h4 e he).1, (h4 e he).2⟩)).2 i hi
  unfold hN
  rw [hN_raw]
  unfold ab at hb
  exact wrap_small (by omega) (by omega)
theorem hD_val (n : Nat) (l : List Lev) : hD n l = detN n (red (lap (edges l))) := detF_lap _
/-- A height is bounded by the differences. -/
theorem hN_le {n : Nat} {l : List Lev} {M : Int} (h : netE ((n + 1 : Nat) : Int) l = 0) (hM : 0 ≤ M) (hd : ∀ e ∈ edges l, -M ≤ e.d ∧ e.d ≤ M) {i : Nat} (hi : i < n) : -((n : Int) * (M * hD n l)) ≤ hN n l i ∧ hN n l i ≤ (n : Int) * (M * hD n l) := by
  obtain ⟨h1, h2, h3, h4, h5, _⟩ := net_edges h
  obtain ⟨hp, _⟩ := hD_pos h
  have hx0 : (fun p => if p = 0 then 0 else hN n l (p - 1)) 0 = (0 : Int) := rfl
  have hg : ∀ p, 0 < p → p < n + 1 → grad (hD n l) (fun p => if p = 0 then 0 else hN n l (p - 1)) (edges l) p = 0 := by
    refine cramer_grad (hD n l) _ h2 (by rw [← hD_val]; omega) rfl (fun j hj => ?_)
    show hN n l (j + 1 - 1) * _ = _
    rw [Nat.add_sub_cancel, hN_val h hj, ← hD_val]
  have hG : ∀ e ∈ edges l, -(M * hD n l) ≤ e.d * hD n l ∧ e.d * hD n l ≤ M * hD n l := fun e he => by
    obtain ⟨a, b⟩ := hd e he
    have := Int.mul_le_mul_of_nonneg_right a (Int.le_of_lt hp)
    have := Int.mul_le_mul_of_nonneg_right b (Int.le_of_lt hp)
    rw [Int.neg_mul] at *
    omega
  have hG0 : 0 ≤ M * hD n l := Int.mul_nonneg hM (Int.le_of_lt hp)
  have hw : ∀ e ∈ edges l, 0 < e.w := fun e he => by have := h3 e he; omega
  have a := height_le _ h2 hw h5 hg hG hx0 hG0 (i + 1) (by omega)
  have b := height_ge _ h2 hw h5 hg hG hx0 hG0 (i + 1) (by omega)
  exact ⟨b, a⟩
theorem hAt_le {n : Nat} {l : List Lev} {M : Int} (h : netE ((n + 1 : Nat) : Int) l = 0) (hM : 0 ≤ M) (hd : ∀ e ∈ edges l, -M ≤ e.d ∧ e.d ≤ M) {i : Nat} (hi : i < n) : -((n : Int) * M * (hAt n l i).2) ≤ (hAt n l i).1 ∧ (hAt n l i).1 ≤ (n : Int) * M * (hAt n l i).2 := by
  obtain ⟨hp, _⟩ := hD_pos h
  obtain ⟨a, b⟩ := hN_le h hM hd hi
  have hc := low_cross (hN n l i) (hD n l)
  have hdp := lowD_pos (a := hN n l i) hp
  unfold hAt
  dsimp only
  generalize hN n l i = x at *
  generalize hD n l = D at *
  generalize lowN x D = N at *
  generalize lowD x D = d at *
  have a2 := Int.mul_le_mul_of_nonneg_right a (Int.le_of_lt hdp)
  have b2 := Int.mul_le_mul_of_nonneg_right b (Int.le_of_lt hdp)
  rw [← hc] at a2 b2
  have e : (n : Int) * (M * D) * d = (n : Int) * M * d * D := by
    rw [← Int.mul_assoc, Int.mul_assoc, Int.mul_comm D d, ← Int.mul_assoc]
  rw [Int.neg_mul, e, ← Int.neg_mul] at a2
  rw [e] at b2
  exact ⟨Int.le_of_mul_le_mul_right a2 hp, Int.le_of_mul_le_mul_right b2 hp⟩
theorem heights_at {n : Nat} {l : List Lev} {x : Int × Int} (hx : x ∈ heightsP n l) : x = (0, 1) ∨ ∃ i, i < n ∧ x = hAt n l i := by
  rcases List.mem_cons.1 hx with e | hx
  · exact Or.inl e
  · obtain ⟨i, hi, rfl⟩ := List.mem_map.1 hx
    exact Or.inr ⟨i, List.mem_range.1 hi, rfl⟩
theorem heights_len (n : Nat) (l : List Lev) : (heightsP n l).length = n + 1 := by simp [heightsP]
theorem heights_get {n : Nat} {l : List Lev} {j : Nat} (hj : j < n) : (heightsP n l)[j + 1]? = some (hAt n l j) := by simp [heightsP, hj]
/-- Each is in lowest terms, small, and its number below divides the whole. -/
theorem heights_good {n : Nat} {l : List Lev} (h : netE ((n + 1 : Nat) : Int) l = 0) : ∀ x ∈ heightsP n l, 1 ≤ x.2 ∧ Int.gcd x.1 x.2 = 1 ∧ bigH x = false ∧ x.2 ∣ hD n l := fun x hx => by
  obtain ⟨hp, _⟩ := hD_pos h
  obtain ⟨_, _, _, h4, _, _⟩ := net_edges h
  have hn := netE_zero h
  rcases heights_at hx with rfl | ⟨i, hi, rfl⟩
  · exact ⟨by decide, by decide, by decide, ⟨hD n l, by simp⟩⟩
  · obtain ⟨a, b⟩ := hAt_le h (M := 100000) (by decide) h4 hi
    have hdp := lowD_pos (a := hN n l i) hp
    refine ⟨by show 1 ≤ lowD _ _; omega, low_coprime hp, ?_, lowD_dvd _ _⟩
    unfold bigH
    refine decide_eq_false ?_
    have hd : 0 < (hAt n l i).2 := hdp
    generalize (hAt n l i).1 = N at *
    generalize (hAt n l i).2 = d at *
    have h5 : (n : Int) * 100000 ≤ 500000 := by omega
    have h6 := Int.mul_le_mul_of_nonneg_right h5 (Int.le_of_lt hd)
    omega
theorem heights_scl {n : Nat} {l : List Lev} (h : netE ((n + 1 : Nat) : Int) l = 0) : sclE ((n + 1 : Nat) : Int) (heightsP n l) = 0 := by
  obtain ⟨hp, hq⟩ := hD_pos h
  unfold sclE
  rw [heights_len, if_pos rfl]
  exact scl_ok (all := hD n l) (by omega) hq _ 1 (by decide) (Int.one_dvd _) (heights_good h)
/-- The heights, as whole numbers of the part, are those of Cramer. -/
theorem heights_xs {n : Nat} {l : List Lev} (h : netE ((n + 1 : Nat) : Int) l = 0) {j : Nat} (hj : j < n) : xs (sclP ((n + 1 : Nat) : Int) (heightsP n l)) (heightsP n l) (j + 1) * hD n l = hN n l j * sclP ((n + 1 : Nat) : Int) (heightsP n l) := by
  obtain ⟨_, _, _, _, hall⟩ := sclE_zero (heights_scl h)
  obtain ⟨hp, _⟩ := hD_pos h
  unfold xs
  rw [heights_get hj, Option.getD_some]
  unfold sclH
  refine scaled_cross (low_cross (hN n l j) (hD n l)) (hall (hAt n l j) ?_).2.2.2 (lowD_pos hp)
  exact List.mem_of_getElem? (heights_get hj)
theorem xs_zero (p : Int) (n : Nat) (l : List Lev) : xs p (heightsP n l) 0 = 0 := by
  unfold xs heightsP
  show sclH p (0, 1) = 0
  unfold sclH
  exact Int.zero_mul _
theorem heights_grad {n : Nat} {l : List Lev} (h : netE ((n + 1 : Nat) : Int) l = 0) : ∀ p, 0 < p → p < n + 1 → grad (sclP ((n + 1 : Nat) : Int) (heightsP n l)) (xs (sclP ((n + 1 : Nat) : Int) (heightsP n l)) (heightsP n l)) (edges l) p = 0 := by
  obtain ⟨_, h2, _, _, _, _⟩ := net_edges h
  obtain ⟨hp, _⟩ := hD_pos h
  refine cramer_grad _ _ h2 (by rw [← hD_val]; omega) (xs_zero _ _ _) (fun j hj => ?_)
  rw [← hD_val, heights_xs h hj, hN_val h hj]
end Cal
end Go.Proofs.Ytfcjeejhdklkdaa
namespace Go.Proofs.Ytfcjeejhdklkdaa.Cal
def sumV (p : Int) (fr : List (Int × Int)) : List Lev → Int
  | [] => 0
  | x :: r => resV p fr x + sumV p fr r
theorem sumV_append (p : Int) (fr : List (Int × Int)) (x : Lev) : ∀ r : List Lev, sumV p fr (r ++ [x]) = sumV p fr r + resV p fr x
  | [] => by show resV p fr x + 0 = 0 + resV p fr x; omega
  | y :: r => by
    show resV p fr y + sumV p fr (r ++ [x]) = resV p fr y + sumV p fr r + resV p fr x
    rw [sumV_append p fr x r]; omega
theorem resV_flip (p : Int) (fr : List (Int × Int)) (x : Lev) : resV p fr (flipL x) = - resV p fr x := by
  unfold resV flipL
  dsimp only
  rw [Int.neg_mul]; omega
theorem sumV_chain (p : Int) (fr : List (Int × Int)) : ∀ (r : List Lev) (a : Int), chain a r = true → sumV p fr r = sumD r * p - sclH p (hAt0 fr (lastT a r)) + sclH p (hAt0 fr a)
  | [], a, _ => by show 0 = 0 * p - sclH p (hAt0 fr a) + sclH p (hAt0 fr a); rw [Int.zero_mul]; omega
  | x :: r, a, h => by
    have h' : (decide (x.f = a) && chain x.t r) = true := h
    rw [Bool.and_eq_true, decide_eq_true_eq] at h'
    have ih := sumV_chain p fr r x.t h'.2
    show resV p fr x + sumV p fr r = (x.d + sumD r) * p - sclH p (hAt0 fr (lastT x.t r)) + sclH p (hAt0 fr a)
    rw [ih, Int.add_mul, ← h'.1]
    unfold resV
    omega
theorem mis_sumV (p : Int) (fr : List (Int × Int)) {l : List Lev} {lp : List Int} (h : misE l lp = 0) : sumV p fr (lp.map (stepL l)) = misS l lp * p := by
  have h0 := h
  unfold misE at h
  split at h
  · cases h
  · rename_i hl
    split at h
    · cases h
    · split at h
      · rename_i hb hc
        have hne : lp.map (stepL l) ≠ [] := fun e => by
          have : lp.length = 0 := by simpa using congrArg List.length e
          omega
        rw [sumV_chain p fr _ _ hc, lastT_any (b := 0) hne]
        unfold misS
        rw [if_pos h0]
        omega
      · cases h
/-- The residual of a difference of the loop, with its sign. -/
theorem resV_step (p : Int) (fr : List (Int × Int)) (l : List Lev) (n : Int) : resV p fr (stepL l n) = if n < 0 then - resV p fr (l[n.natAbs - 1]?.getD noL) else resV p fr (l[n.natAbs - 1]?.getD noL) := by
  unfold stepL
  split
  · exact resV_flip p fr _
  · rfl
theorem sumV_zero {p : Int} {fr : List (Int × Int)} : ∀ {r : List Lev}, (∀ x ∈ r, resV p fr x = 0) → sumV p fr r = 0
  | [], _ => rfl
  | x :: r, h => by
    show resV p fr x + sumV p fr r = 0
    rw [h x (List.mem_cons_self ..), sumV_zero fun y hy => h y (List.mem_cons_of_mem _ hy)]
    rfl
/-- A residual in lowest terms is the residual again. -/
theorem low_back {r p : Int} (hp : 0 < p) : 1 ≤ lowD r p ∧ p.tmod (lowD r p) = 0 ∧ lowN r p * p.tdiv (lowD r p) = r := by
  have h1 := lowD_mul r p
  have h2 := lowN_mul r p
  have h3 := lowD_pos (a := r) hp
  generalize lowD r p = d at *
  generalize lowN r p = N at *
  generalize (Int.gcd r p : Int) = g at *
  subst h1
  refine ⟨by omega, Int.mul_tmod_right _ _, ?_⟩
  rw [Int.mul_tdiv_cancel_left _ (by omega)]
  exact h2
theorem low_quot {r p M : Int} (hp : 0 < p) (hM : 0 ≤ M) (h1 : -(M * p) ≤ r) (h2 : r ≤ M * p) : -M ≤ (lowN r p).tdiv (lowD r p) ∧ (lowN r p).tdiv (lowD r p) ≤ M := by
  have hd := lowD_pos (a := r) hp
  have hc := low_cross r p
  have a : -(M * lowD r p) ≤ lowN r p := by
    refine Int.le_of_mul_le_mul_right (a := p) ?_ hp
    rw [hc]
    have := Int.mul_le_mul_of_nonneg_right h1 (Int.le_of_lt hd)
    rw [Int.neg_mul, Int.mul_assoc, Int.mul_comm p, ← Int.mul_assoc, ← Int.neg_mul] at this
    exact this
  have b : lowN r p ≤ M * lowD r p := by
    refine Int.le_of_mul_le_mul_right (a := p) ?_ hp
    rw [hc]
    have := Int.mul_le_mul_of_nonneg_right h2 (Int.le_of_lt hd)
    rw [Int.mul_assoc, Int.mul_comm p, ← Int.mul_assoc] at this
    exact this
  generalize lowN r p = N at *
  generalize lowD r p = D at *
  rcases Int.lt_or_le N 0 with hn | hn
  · have e : N.tdiv D = -((-N).tdiv D) := by rw [Int.neg_tdiv, Int.neg_neg]
    rw [e, Int.tdiv_eq_ediv_of_nonneg (by omega)]
    have q0 : 0 ≤ (-N) / D := Int.ediv_nonneg (by omega) (by omega)
    have q1 : (-N) / D ≤ M := Int.ediv_le_of_le_mul hd (by omega)
    omega
  · rw [Int.tdiv_eq_ediv_of_nonneg hn]
    have q0 : 0 ≤ N / D := Int.ediv_nonneg hn (by omega)
    have q1 : N / D ≤ M := Int.ediv_le_of_le_mul hd b
    omega
/-- The residuals of the least squares heights are small. -/
theorem heights_xs_le {n : Nat} {l : List Lev} {M : Int} (h : netE ((n + 1 : Nat) : Int) l = 0) (hM : 0 ≤ M) (hd : ∀ e ∈ edges l, -M ≤ e.d ∧ e.d ≤ M) {i : Nat} (hi : i < n + 1) :
    -((n : Int) * (M * sclP ((n + 1 : Nat) : Int) (heightsP n l))) ≤ xs (sclP ((n + 1 : Nat) : Int) (heightsP n l)) (heightsP n l) i ∧ xs (sclP ((n + 1 : Nat) : Int) (heightsP n l)) (heightsP n l) i ≤ (n : Int) * (M * sclP ((n + 1 : Nat) : Int) (heightsP n l)) := by
  obtain ⟨h1, h2, h3, h4, h5, _⟩ := net_edges h
  obtain ⟨_, _, p1, _, _⟩ := sclE_zero (heights_scl h)
  have hg := heights_grad h
  have h0 := xs_zero (sclP ((n + 1 : Nat) : Int) (heightsP n l)) n l
  generalize sclP ((n + 1 : Nat) : Int) (heightsP n l) = P at *
  have hG : ∀ e ∈ edges l, -(M * P) ≤ e.d * P ∧ e.d * P ≤ M * P := fun e he => by
    obtain ⟨a, b⟩ := hd e he
    have := Int.mul_le_mul_of_nonneg_right a (by omega : 0 ≤ P)
    have := Int.mul_le_mul_of_nonneg_right b (by omega : 0 ≤ P)
    rw [Int.neg_mul] at *
    omega
  have hG0 : 0 ≤ M * P := Int.mul_nonneg hM (by omega)
  have hw : ∀ e ∈ edges l, 0 < e.w := fun e he => by have := h3 e he; omega
  exact ⟨height_ge _ h2 hw h5 hg hG h0 hG0 i hi, height_le _ h2 hw h5 hg hG h0 hG0 i hi⟩
theorem heights_res_le {n : Nat} {l : List Lev} (h : netE ((n + 1 : Nat) : Int) l = 0) : ∀ x ∈ l, -(10000000 * sclP ((n + 1 : Nat) : Int) (heightsP n l)) ≤ resV (sclP ((n + 1 : Nat) : Int) (heightsP n l)) (heightsP n l) x ∧ resV (sclP ((n + 1 : Nat) : Int) (heightsP n l)) (heightsP n l) x ≤ 10000000 * sclP ((n + 1 : Nat) : Int) (heightsP n l) := fun x hx => by
  obtain ⟨_, h2, _, h4, _, _⟩ := net_edges h
  have hn := netE_zero h
  obtain ⟨_, _, p1, _, _⟩ := sclE_zero (heights_scl h)
  have he : edge x ∈ edges l := List.mem_map.2 ⟨x, hx, rfl⟩
  have a := heights_xs_le h (M := 100000) (by decide) h4 (h2 _ he).1
  have b := heights_xs_le h (M := 100000) (by decide) h4 (h2 _ he).2
  have d := h4 _ he
  rw [resV_vOf]
  unfold vOf
  generalize sclP ((n + 1 : Nat) : Int) (heightsP n l) = P at *
  generalize xs P (heightsP n l) (edge x).f = u at *
  generalize xs P (heightsP n l) (edge x).t = v at *
  have d1 := Int.mul_le_mul_of_nonneg_right d.1 (by omega : 0 ≤ P)
  have d2 := Int.mul_le_mul_of_nonneg_right d.2 (by omega : 0 ≤ P)
  have hn5 : (n : Int) * (100000 * P) ≤ 5 * (100000 * P) := Int.mul_le_mul_of_nonneg_right (by omega) (by omega)
  omega
end Go.Proofs.Ytfcjeejhdklkdaa.Cal
namespace Go.Proofs.Ytfcjeejhdklkdaa
open Go Go.RowKit Go.Shelf
theorem wpAnyH_hide {P : Program} {md : Region.Mode} {ops : Array Oper} {Q : Exit → Act → World → Prop} {S : World → Prop} {fuel : Nat} {listed : Array Bool} {a : Act} {w : World} (hp : ∀ c a (d : Nat) v w, Q (.panic c) (a.put (some d) v) w → Q (.panic c) a w)
    (h : ∀ Q0, (∀ c a (d : Nat) v w, Q0 (.panic c) (a.put (some d) v) w → Q0 (.panic c) a w) → Hid (Q0 = Q) → wpAnyH P md ops Q0 S fuel listed a w) : wpAnyH P md ops Q S fuel listed a w := h Q hp rfl
theorem tkQ {P : Program} {ops : Array Oper} {Q : Exit → Act → World → Prop} {md : Region.Mode} {S : World → Prop} (i : Nat) (d : Nat) (hp : ∀ c a (d : Nat) v w, Q (.panic c) (a.put (some d) v) w → Q (.panic c) a w) {oi : Oper} {v : Value} {fuel : Nat} {listed : Array Bool} {a : Act} {w : World}
    (hy : ∀ w, S w → (execOp a.eval oi).run P w = .ok (.value v) w) (h : wpAnyH P md ops Q S fuel (listed.setIfInBounds i true) (a.put (some d) v) w)
    (hi : ops[i]? = some oi := by exact rfl) (hdd : oi.dst = some d := by kernel_rfl) (hs : Region.noSelect ops = true := by kernel_rfl) (hf : Region.free md ops listed i = true := by decide +kernel) (hr : (Region.ready md ops listed).contains i = true := by decide +kernel)
    (hw : Region.wanted oi (yielded ops a.tmps) = true := by kernel_rfl) (hS : S w := by assumption) : wpAnyH P md ops Q S (fuel + 1) listed a w :=
  tkH2 i d hy h hi hdd hs hf hr (fun c _ w h => by rw [hdd] at h; exact hp c _ d v w h) hw hS
theorem tkQx {P : Program} {ops : Array Oper} {Q : Exit → Act → World → Prop} {md : Region.Mode} {S : World → Prop} (i : Nat) (d : Nat) (hp : ∀ c a (d : Nat) v w, Q (.panic c) (a.put (some d) v) w → Q (.panic c) a w) {oi : Oper} {v : Value} {fuel : Nat} {listed l' : Array Bool} {a a' : Act} {w : World}
    (h : wpAnyH P md ops Q S fuel l' a' w) (hi : ops[i]? = some oi := by exact rfl)
    (hy : ∀ w, S w → (execOp a.eval oi).run P w = .ok (.value v) w := by (intro w' hSw; replace hSw := hSw.cs; (try simp only [cs_iff_cons] at hSw); go_simp; (try with_reducible rfl)))
    (ha : a.put (some d) v = a' := by ((try simp only [Act.put, List.setIfInBounds_toArray, List.set_cons_zero, List.set_cons_succ]); exact rfl))
    (hl : listed.setIfInBounds i true = l' := by ((try simp only [List.setIfInBounds_toArray, List.set_cons_zero, List.set_cons_succ]); exact rfl))
    (hdd : oi.dst = some d := by kernel_rfl) (hs : Region.noSelect ops = true := by kernel_rfl) (hf : Region.free md ops listed i = true := by decide +kernel) (hr : (Region.ready md ops listed).contains i = true := by decide +kernel)
    (hw : Region.wanted oi (yielded ops a.tmps) = true := by kernel_rfl) (hS : S w := by assumption) : wpAnyH P md ops Q S (fuel + 1) listed a w :=
  tkQ i d hp hy (by rw [ha, hl]; exact h) hi hdd hs hf hr hw hS
end Go.Proofs.Ytfcjeejhdklkdaa
