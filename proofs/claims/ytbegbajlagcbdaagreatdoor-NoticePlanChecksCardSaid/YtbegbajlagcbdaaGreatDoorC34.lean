/- Chapter 8 and what it rests on: definitions and walks, part 34. -/
import Derived.Test.YtbegbajlagcbdaaGreatDoorC32
import Derived.Test.YtbegbajlagcbdaaGreatDoorC24
namespace Go.Proofs.YtbegbajlagcbdaaGreatDoor
open Go Go.RowKit
theorem Cal.addFrom_ge2 {l : List Hol} : ∀ (f : Nat) (d left x : Int), Cal.addFrom l 1 f d left = some x → d ≤ x ∧ Cal.worksB l x = true
  | 0, _, _, _, h => by cases h
  | f + 1, d, left, x, h => by
    unfold Cal.addFrom at h
    split at h
    · split at h
      · rename_i hw
        split at h
        · cases h; exact ⟨Int.le_refl _, hw⟩
        · have := Cal.addFrom_ge2 f _ _ _ h; exact ⟨by omega, this.2⟩
      · have := Cal.addFrom_ge2 f _ _ _ h; exact ⟨by omega, this.2⟩
    · cases h
theorem Cal.addW_ge2 {l : List Hol} {day n x : Int} (n0 : 0 ≤ n) (h : Cal.addW l day n = some x) : day ≤ x ∧ Cal.worksB l x = true := by
  unfold Cal.addW at h
  split at h
  · exact Cal.addFrom_ge2 _ _ _ _ h
  · rw [if_neg (by omega)] at h
    have := Cal.addFrom_ge2 _ _ _ _ h; exact ⟨by omega, this.2⟩
theorem Cal.mod_next {y k : Nat} (hy : 0 < y) (hk : 0 < k) : (k % y = 0 ∧ (k - 1) % y + 1 = y) ∨ (k % y = (k - 1) % y + 1) := by
  have h1 := Nat.div_add_mod (k - 1) y
  have h2 := Nat.mod_lt (k - 1) hy
  generalize (k - 1) % y = r at *
  generalize (k - 1) / y = q at *
  by_cases h : r + 1 < y
  · right
    have e : k = y * q + (r + 1) := by omega
    rw [e, Nat.mul_add_mod, Nat.mod_eq_of_lt h]
  · left
    have e : k = y * (q + 1) := by rw [Nat.mul_add]; omega
    exact ⟨by rw [e]; exact Nat.mul_mod_right y _, by omega⟩
theorem Cal.isWork_ok {l : List Hol} (h0 : Cal.holsErr l = 0) {d : Int} (d0 : 0 ≤ d) (d1 : d ≤ 200000) (hw : Cal.worksB l d = true) : Cal.isWorkE l d = 0 ∧ Cal.isWorkB l d = true := by
  have h1 : Cal.isWorkE l d = 0 := by unfold Cal.isWorkE; rw [if_pos h0, if_pos ⟨d0, d1⟩]
  refine ⟨h1, ?_⟩
  unfold Cal.isWorkB
  rw [if_pos h1, ← Cal.workB_eq (Cal.holsErr_ok h0).1 d0 d1]
  exact hw
/-- What holds of the first k stops of a plan. -/
structure PlanI (p : Proc) (y : Nat) (x : Int) (order : List Int) (k : Nat) (out : List Stp) (day : Int) : Prop where
  mons : out.map (·.mon) = order.take k
  days : ∀ s ∈ out, s.day ≤ day
  low : x ≤ day
  zero : k = 0 → day = x
  work : 0 < k → Cal.worksB p.hols day = true ∧ 0 ≤ day ∧ day ≤ 200000
  cnt : 0 < k → Cal.cntS day out = (k - 1) % y + 1
  rnd : ∀ l : List Stp, l.take k = out → Cal.rndTo p order x y l k = (day, 0)
  last : 0 < k → ∃ s, out.getLast? = some s ∧ s.day = day
theorem Cal.cntS_none {d : Int} {l : List Stp} (h : ∀ s ∈ l, s.day < d) : Cal.cntS d l = 0 := by
  unfold Cal.cntS
  rw [List.countP_eq_zero]
  intro s hs
  have := h s hs
  simp; omega
theorem Cal.plan_inv {p : Proc} {y : Nat} {x : Int} {order : List Int} (hok : Cal.planE p order x y = 0) : ∀ k, k ≤ order.length → ∀ out day, Cal.planTo p.hols y x order k = some (out, day) → PlanI p y x order k out day
  | 0, _, out, day, h => by
    unfold Cal.planTo at h
    cases h
    exact ⟨rfl, fun s hs => (by cases hs), Int.le_refl _, fun _ => rfl, fun h => (by omega), fun h => (by omega), fun l _ => rfl, fun h => (by omega)⟩
  | k + 1, hk, out', day', h => by
    obtain ⟨hpe, hlen, hnd, x0, x1, y0, y1⟩ := Cal.planE_ok hok
    have hh := (Cal.procErr_ok hpe).2.2.2.2.2.2.2
    have hy : 0 < y := by omega
    cases hq : Cal.planTo p.hols y x order k with
    | none => rw [Cal.planTo_none hq (k + 1) (by omega)] at h; cases h
    | some r =>
      obtain ⟨out, day⟩ := r
      have I := Cal.plan_inv hok k (by omega) out day hq
      cases hn : Cal.nextD p.hols y k day with
      | none => rw [Cal.planTo_fail hq (by omega) hn] at h; cases h
      | some n =>
        rw [Cal.planTo_step hq (by omega) hn] at h
        have h := Option.some.inj h
        obtain rfl : out ++ [⟨order[k], n⟩] = out' := congrArg Prod.fst h
        obtain rfl : n = day' := congrArg Prod.snd h
        clear h
        have hN : day ≤ n ∧ Cal.worksB p.hols n = true ∧ 0 ≤ n ∧ n ≤ 200000 ∧ Cal.cntS n out = k % y := by
          unfold Cal.nextD at hn
          by_cases hm : k % y = 0
          · rw [if_pos hm] at hn
            have h1 := Cal.addW_ge2 (by omega) hn
            have h2 := Cal.addW_day hn
            by_cases hk0 : 0 < k
            · rw [if_pos hk0] at h1
              exact ⟨by omega, h1.2, h2.1, h2.2, by rw [hm]; exact Cal.cntS_none fun s hs => by have := I.days s hs; omega⟩
            · rw [if_neg hk0] at h1
              refine ⟨h1.1, h1.2, h2.1, h2.2, ?_⟩
              have : out = [] := by have := I.mons; rw [show k = 0 by omega] at this; simpa using this
              rw [this, hm]; rfl
          · rw [if_neg hm] at hn
            cases hn
            have hk0 : 0 < k := by
              rcases Nat.eq_zero_or_pos k with h | h
              · exact absurd (by rw [h]; exact Nat.zero_mod y) hm
              · exact h
            have hw := I.work hk0
            refine ⟨Int.le_refl _, hw.1, hw.2.1, hw.2.2, ?_⟩
            rw [I.cnt hk0]
            rcases Cal.mod_next hy hk0 with h | h
            · exact absurd h.1 hm
            · exact h.symm
        obtain ⟨n0, n1, n2, n3, n4⟩ := hN
        have hstop : Cal.stopE p order out ⟨order[k], n⟩ x y = 0 := by
          obtain ⟨w1, w2⟩ := Cal.isWork_ok hh n2 n3 n1
          have hm1 : memI order[k] order = true := by unfold memI; rw [decide_eq_true_iff]; exact List.getElem_mem _
          have hm2 : Cal.hasM order[k] out = false := by
            cases hh2 : Cal.hasM order[k] out with
            | false => rfl
            | true =>
              exfalso
              unfold Cal.hasM at hh2
              rw [List.any_eq_true] at hh2
              obtain ⟨s, hs, he⟩ := hh2
              have hin : s.mon ∈ order.take k := by rw [← I.mons]; exact List.mem_map_of_mem hs
              have he : s.mon = order[k] := by simpa using he
              rw [he] at hin
              obtain ⟨j, hj, he2⟩ := List.getElem_of_mem hin
              rw [List.length_take] at hj
              rw [List.getElem_take] at he2
              exact List.pairwise_iff_getElem.1 (List.nodup_iff_pairwise_ne.1 hnd) j k (by omega) (by omega) (by omega) he2
          unfold Cal.stopE
          have := I.low
          have := Nat.mod_lt k hy
          rw [if_pos hm1, if_neg (by rw [hm2]; decide), if_pos w1, if_neg (by show ¬ n < x; omega), if_pos w2, if_neg (by show ¬ (y : Int) ≤ (Cal.cntS n out : Nat); rw [n4]; omega)]
        refine ⟨?_, ?_, by have := I.low; omega, fun h => (by omega), fun _ => ⟨n1, n2, n3⟩, fun _ => ?_, fun l hl => ?_, fun _ => ⟨_, List.getLast?_concat, rfl⟩⟩
        · rw [List.map_append, I.mons, List.take_succ_eq_append_getElem (by omega)]; rfl
        · intro s hs
          rcases List.mem_append.1 hs with h | h
          · have := I.days s h; omega
          · rw [List.mem_singleton] at h; subst h; exact Int.le_refl _
        · have : Cal.cntS n (out ++ [⟨order[k], n⟩]) = Cal.cntS n out + 1 := by unfold Cal.cntS; rw [List.countP_append]; simp
          rw [this, n4]; rfl
        · have hll : k < l.length := by
            have := congrArg List.length hl
            have h2 := Cal.planTo_len (by omega) hq
            rw [List.length_take, List.length_append, List.length_singleton] at this
            omega
          have hs := List.take_succ_eq_append_getElem hll
          rw [hl] at hs
          obtain ⟨e1, e2⟩ := List.append_inj' hs rfl
          have e3 := List.singleton_inj.1 e2
          have hr := I.rnd l e1.symm
          rw [Cal.rndTo_ok hr hll (by rw [← e1, ← e3]; exact hstop), ← e3]
          show (max day n, 0) = (n, 0)
          rw [show max day n = n by omega]
/-- The last day of a plan. -/
def Cal.lastD (x : Int) (out : List Stp) : Int := match out.getLast? with | some s => s.day | none => x
theorem Cal.plan_accepted {p : Proc} {y : Nat} {x : Int} {order : List Int} {out : List Stp} (hok : Cal.planE p order x y = 0) (h : Cal.planS p.hols y x order = some out) : Cal.rndS p order out x y = (Cal.lastD x out, 0) ∧ out.length = order.length := by
  unfold Cal.planS at h
  cases hq : Cal.planTo p.hols y x order order.length with
  | none => rw [hq] at h; cases h
  | some r =>
    obtain ⟨o, day⟩ := r
    rw [hq] at h
    cases h
    have I := Cal.plan_inv hok _ (Nat.le_refl _) o day hq
    have hl := Cal.planTo_len (Nat.le_refl _) hq
    have hr := I.rnd o (by rw [← hl, List.take_length])
    refine ⟨?_, hl⟩
    unfold Cal.rndS
    show (if Cal.planE p order x y = 0 then _ else _) = _
    rw [if_pos hok, hl, hr, if_pos rfl, if_neg (by show ¬ order.length < order.length; omega)]
    unfold Cal.lastD
    rcases Nat.eq_zero_or_pos order.length with h0 | h0
    · have : o = [] := List.eq_nil_of_length_eq_zero (by omega)
      rw [this, I.zero h0]; rfl
    · obtain ⟨s, h1, h2⟩ := I.last h0
      rw [h1, ← h2]
end Go.Proofs.YtbegbajlagcbdaaGreatDoor
namespace Go.Proofs.YtbegbajlagcbdaaGreatDoor
open Go Go.RowKit
/-- What holds of the first k stops of a list that is accepted so far. -/
structure AccI (p : Proc) (order : List Int) (x : Int) (y : Nat) (l : List Stp) (k : Nat) (last : Int) : Prop where
  days : ∀ s ∈ l.take k, x ≤ s.day ∧ s.day ≤ last ∧ Cal.workB p.hols s.day = true ∧ s.day ≤ 200000
  cnt : ∀ d, Cal.cntS d (l.take k) ≤ y
  low : x ≤ last
  high : last ≤ 200000
theorem Cal.stopE_ok {p : Proc} {order : List Int} {before : List Stp} {s : Stp} {x y : Int} (h : Cal.stopE p order before s x y = 0) : x ≤ s.day ∧ 0 ≤ s.day ∧ s.day ≤ 200000 ∧ Cal.workB p.hols s.day = true ∧ (Cal.cntS s.day before : Int) < y := by
  unfold Cal.stopE at h
  split at h
  · split at h
    · exact absurd h (by decide)
    · split at h
      · rename_i hE
        split at h
        · exact absurd h (by decide)
        · split at h
          · rename_i hx hB
            split at h
            · exact absurd h (by decide)
            · rename_i hc
              have hw : Cal.isWorkB p.hols s.day = Cal.workB p.hols s.day := by unfold Cal.isWorkB; rw [if_pos hE]
              unfold Cal.isWorkE at hE
              split at hE
              · split at hE
                · rename_i h1
                  exact ⟨by omega, h1.1, h1.2, by rw [← hw]; exact hB, by omega⟩
                · exact absurd hE (by decide)
              · rename_i h0; exact absurd hE h0
          · exact absurd h (by decide)
      · rename_i hE; exact absurd h hE
  · exact absurd h (by decide)
theorem Cal.acc_inv {p : Proc} {order : List Int} {x : Int} {y : Nat} {l : List Stp} (x1 : x ≤ 200000) : ∀ k, k ≤ l.length → ∀ last, Cal.rndTo p order x y l k = (last, 0) → AccI p order x y l k last
  | 0, _, last, h => by
    unfold Cal.rndTo at h
    cases h
    exact ⟨fun s hs => (by simp at hs), fun d => (by simp [Cal.cntS]), Int.le_refl _, x1⟩
  | k + 1, hk, last, h => by
    have hlt : k < l.length := by omega
    rcases hq : Cal.rndTo p order x y l k with ⟨la, e⟩
    by_cases he : e = 0
    · subst he
      have I := Cal.acc_inv x1 k (by omega) la hq
      by_cases hs : Cal.stopE p order (l.take k) l[k] x y = 0
      · rw [Cal.rndTo_ok hq hlt hs] at h
        have h := congrArg Prod.fst h
        obtain rfl : max la l[k].day = last := h
        obtain ⟨s1, s2, s3, s4, s5⟩ := Cal.stopE_ok hs
        have ht := List.take_succ_eq_append_getElem hlt
        have := I.low
        have := I.high
        refine ⟨fun s hm => ?_, fun d => ?_, by omega, by omega⟩
        · rw [ht] at hm
          rcases List.mem_append.1 hm with hm | hm
          · have := I.days s hm; exact ⟨this.1, by omega, this.2.2.1, this.2.2.2⟩
          · rw [List.mem_singleton] at hm; subst hm; exact ⟨s1, by omega, s4, s3⟩
        · rw [ht]
          have hc := I.cnt d
          unfold Cal.cntS at hc s5 ⊢
          rw [List.countP_append, List.countP_singleton]
          by_cases hd : l[k].day = d
          · subst hd; simp; omega
          · simp [hd]; exact hc
      · rw [Cal.rndTo_err hq hlt hs] at h
        exact absurd (congrArg Prod.snd h) hs
    · have hb := Cal.rndTo_bad (p := p) (order := order) (x := x) (y := y) (l := l) (k := k) (by rw [hq]; exact he) (k + 1) (by omega)
      rw [hb, hq] at h
      exact absurd (congrArg Prod.snd h) he
/-- The stops before a day are no more than y for each working day. -/
theorem Cal.stops_le {hs : List Hol} {x : Int} {y : Nat} {l : List Stp} (h1 : ∀ s ∈ l, x ≤ s.day ∧ Cal.workB hs s.day = true) (h2 : ∀ d, Cal.cntS d l ≤ y) : ∀ k : Nat, ((l.countP fun s => decide (s.day < x + k)) : Int) ≤ y * Cal.betw hs x (x + k)
  | 0 => by
    have : (l.countP fun s => decide (s.day < x + ((0 : Nat) : Int))) = 0 := by
      rw [List.countP_eq_zero]; intro s hs'; have := (h1 s hs').1; simp; omega
    rw [this, show x + ((0 : Nat) : Int) = x by omega, Cal.betw_self]; simp
  | k + 1 => by
    have ih := Cal.stops_le h1 h2 k
    have hsplit : (l.countP fun s => decide (s.day < x + ((k + 1 : Nat) : Int))) = (l.countP fun s => decide (s.day < x + (k : Int))) + Cal.cntS (x + k) l := by
      clear ih h1 h2
      induction l with
      | nil => rfl
      | cons s l ih =>
        unfold Cal.cntS at ih ⊢
        rw [List.countP_cons, List.countP_cons, List.countP_cons, ih]
        simp only [decide_eq_true_eq, beq_iff_eq]
        split <;> split <;> split <;> omega
    rw [hsplit, show x + ((k + 1 : Nat) : Int) = x + k + 1 by omega, Cal.betw_succ (by omega)]
    have hc := h2 (x + k)
    by_cases hw : Cal.workB hs (x + k) = true
    · rw [if_pos hw, Int.mul_add, Int.mul_one]; omega
    · rw [if_neg hw, Int.add_zero]
      have : Cal.cntS (x + k) l = 0 := by
        unfold Cal.cntS
        rw [List.countP_eq_zero]
        intro s hs' he
        have e : s.day = x + k := by simpa using he
        exact hw (by rw [← e]; exact (h1 s hs').2)
      omega
/-- The plan that is made: it is there, and its days come early. -/
theorem Cal.plan_early {p : Proc} {y : Nat} {x n : Int} {order : List Int} (hok : Cal.planE p order x y = 0) (hn : n ≤ 200000) (hxn : x ≤ n) (hN : (order.length : Int) ≤ y * Cal.betw p.hols x (n + 1)) : ∀ k, k ≤ order.length →
    ∃ out day, Cal.planTo p.hols y x order k = some (out, day) ∧ (0 < k → Cal.betw p.hols x day = ((k - 1) / y : Nat) ∧ day ≤ n ∧ Cal.workB p.hols day = true ∧ x ≤ day) ∧ (k = 0 → day = x)
  | 0, _ => ⟨[], x, rfl, fun h => by omega, fun _ => rfl⟩
  | k + 1, hk => by
    obtain ⟨hpe, hlen, hnd, x0, x1, y0, y1⟩ := Cal.planE_ok hok
    have hh := (Cal.holsErr_ok (Cal.procErr_ok hpe).2.2.2.2.2.2.2).1
    have hy : 0 < y := by omega
    obtain ⟨out, day, hq, hp, hz⟩ := Cal.plan_early hok hn hxn hN k (by omega)
    by_cases hm : k % y = 0
    · obtain ⟨s, hs⟩ : ∃ s, s = if 0 < k then day + 1 else day := ⟨_, rfl⟩
      have hdm := Nat.div_add_mod k y
      have hsx : x ≤ s ∧ s ≤ n + 1 ∧ Cal.betw p.hols x s = (k / y : Nat) := by
        by_cases hk0 : 0 < k
        · obtain ⟨h1, h2, h3, h4⟩ := hp hk0
          rw [if_pos hk0] at hs
          subst hs
          refine ⟨by omega, by omega, ?_⟩
          rw [Cal.betw_succ h4, h1, if_pos h3]
          have hd1 := Nat.div_add_mod (k - 1) y
          rcases Cal.mod_next hy hk0 with ⟨_, h⟩ | h
          · have e : y * (k / y) = y * ((k - 1) / y + 1) := by rw [Nat.mul_add]; omega
            have := Nat.eq_of_mul_eq_mul_left hy e
            omega
          · omega
        · have hk00 : k = 0 := by omega
          rw [if_neg hk0, hz hk00] at hs
          subst hs
          exact ⟨Int.le_refl _, by omega, by rw [Cal.betw_self, hk00]; simp⟩
      obtain ⟨s1, s2, s3⟩ := hsx
      have hlt : 0 < Cal.betw p.hols s (n + 1) := by
        have e := Cal.betw_trans (l := p.hols) s1 s2
        apply Classical.byContradiction
        intro hc
        have hle : Cal.betw p.hols x (n + 1) ≤ (k / y : Nat) := by omega
        have h5 : (y : Int) * Cal.betw p.hols x (n + 1) ≤ y * (k / y : Nat) := Int.mul_le_mul_of_nonneg_left hle (by omega)
        have h6 : (y : Int) * ((k / y : Nat) : Int) = k := by rw [← Int.natCast_mul]; congr 1; omega
        omega
      have hkk : s + ((n + 1 - s).toNat : Int) = n + 1 := by omega
      obtain ⟨d, e1, e2, e3, e4, e5⟩ := Cal.addFrom_iff hh (n + 1 - s).toNat s 0 (by omega) (by omega) (Int.le_refl _) (by rw [hkk]; exact hlt)
      have hnx : Cal.nextD p.hols y k day = some d := by unfold Cal.nextD; rw [if_pos hm, ← hs]; unfold Cal.addW; rw [if_pos rfl]; exact e1
      refine ⟨_, d, Cal.planTo_step hq (by omega) hnx, fun _ => ⟨?_, by omega, e4, by omega⟩, fun h => by omega⟩
      rw [Cal.betw_trans (l := p.hols) s1 e2, s3, e5, Nat.add_sub_cancel]; simp
    · have hnx : Cal.nextD p.hols y k day = some day := by unfold Cal.nextD; rw [if_neg hm]
      have hk0 : 0 < k := by
        rcases Nat.eq_zero_or_pos k with h | h
        · exact absurd (by rw [h]; exact Nat.zero_mod y) hm
        · exact h
      obtain ⟨h1, h2, h3, h4⟩ := hp hk0
      refine ⟨_, day, Cal.planTo_step hq (by omega) hnx, fun _ => ⟨?_, h2, h3, h4⟩, fun h => by omega⟩
      rw [h1, Nat.add_sub_cancel]
      have hd1 := Nat.div_add_mod (k - 1) y
      have hd2 := Nat.div_add_mod k y
      rcases Cal.mod_next hy hk0 with ⟨h, _⟩ | h
      · exact absurd h hm
      · have e : y * (k / y) = y * ((k - 1) / y) := by omega
        rw [Nat.eq_of_mul_eq_mul_left hy e]
theorem Cal.plan_least {p : Proc} {y : Nat} {x n : Int} {order : List Int} {l : List Stp} (hok : Cal.planE p order x y = 0) (h : Cal.rndS p order l x y = (n, 0)) : ∃ out, Cal.planS p.hols y x order = some out ∧ (0 < order.length → Cal.lastD x out ≤ n) ∧ out.length = order.length := by
  obtain ⟨hpe, hlen, hnd, x0, x1, y0, y1⟩ := Cal.planE_ok hok
  unfold Cal.rndS at h
  rw [if_pos hok] at h
  rcases hq : Cal.rndTo p order x y l l.length with ⟨la, e⟩
  rw [hq] at h
  by_cases he : e = 0
  · subst he
    rw [if_pos rfl] at h
    by_cases hlo : l.length < order.length
    · rw [if_pos hlo] at h; exact absurd (congrArg Prod.snd h) (show ¬ ((14 : Int) = 0) by decide)
    · rw [if_neg hlo] at h
      obtain rfl : la = n := congrArg Prod.fst h
      have I := Cal.acc_inv x1 l.length (Nat.le_refl _) la hq
      have hd := I.days
      have hc := I.cnt
      rw [List.take_length] at hd hc
      have hst := Cal.stops_le (hs := p.hols) (x := x) (y := y) (l := l) (fun s hs => ⟨(hd s hs).1, (hd s hs).2.2.1⟩) hc (la + 1 - x).toNat
      have hlow := I.low
      have hhigh := I.high
      have hx : x + ((la + 1 - x).toNat : Int) = la + 1 := by omega
      rw [hx] at hst
      have hall : (l.countP fun s => decide (s.day < la + 1)) = l.length := by
        rw [List.countP_eq_length]
        intro s hs
        have := (hd s hs).2.1
        simp; omega
      rw [hall] at hst
      obtain ⟨out, day, h1, h2, h3⟩ := Cal.plan_early (n := la) hok hhigh hlow (by omega) order.length (Nat.le_refl _)
      have hS : Cal.planS p.hols y x order = some out := by unfold Cal.planS; rw [h1]; rfl
      refine ⟨out, hS, fun h0 => ?_, Cal.planTo_len (Nat.le_refl _) h1⟩
      have P := Cal.plan_inv hok _ (Nat.le_refl _) out day h1
      obtain ⟨s, e1, e2⟩ := P.last h0
      unfold Cal.lastD
      rw [e1]
      show s.day ≤ la
      rw [e2]
      exact (h2 h0).2.1
  · rw [if_neg he] at h
    exact absurd (congrArg Prod.snd h) he
end Go.Proofs.YtbegbajlagcbdaaGreatDoor
namespace Go.Proofs.YtbegbajlagcbdaaGreatDoor
open Go Go.RowKit
set_option maxRecDepth 100000 in
set_option maxHeartbeats 4000000 in
theorem CheckProcedureR_any (A : Option Addr) (c : Nat) (p : Proc) (w : World) (hl : Hols w A p.hols) :
    Calls Tryz.prog 21 #[.agg #[.int .i64 p.runs.m, .int .i64 p.runs.d, .bool p.runs.k, .int .i64 p.obj.m, .int .i64 p.obj.d, .bool p.obj.k, .int .i64 p.wait.m, .int .i64 p.wait.d, .bool p.wait.k, .int .i64 p.exts, .int .i64 p.longest, .slice A p.hols.length c]] w fun e w' => e = .returned (.int .i64 (Cal.procErr p)) ∧ Below w.heap.size w w' := by
  have hl := Lib.hid hl
  have h1 := Lib.hid (BoxAt.new w #[.int .i64 p.runs.m, .int .i64 p.runs.d, .bool p.runs.k, .int .i64 p.obj.m, .int .i64 p.obj.d, .bool p.obj.k, .int .i64 p.wait.m, .int .i64 p.wait.d, .bool p.wait.k, .int .i64 p.exts, .int .i64 p.longest, .slice A p.hols.length c] 47)
  have hb := Lib.hid (below_alloc w (.cells #[.int .i64 p.runs.m, .int .i64 p.runs.d, .bool p.runs.k, .int .i64 p.obj.m, .int .i64 p.obj.d, .bool p.obj.k, .int .i64 p.wait.m, .int .i64 p.wait.d, .bool p.wait.k, .int .i64 p.exts, .int .i64 p.longest, .slice A p.hols.length c] 47))
  have i0 := per_ix0 p
  have i1 := per_ix1 p
  have i2 := per_ix2 p
  go_enter Tryz.func21, Tryz.ntmps21
  go_wp2_with fail
  go_loopw [13] (fun i wr => ∃ k : Int, ((k = 0) ∨ (k = 1 ∧ Hid (p.runs.err = 0)) ∨ (k = 2 ∧ Hid (p.runs.err = 0) ∧ Hid (p.obj.err = 0)) ∨ (k = 3 ∧ Hid (p.runs.err = 0) ∧ Hid (p.obj.err = 0) ∧ Hid (p.wait.err = 0))) ∧ i = .int .i64 k ∧ Hid (Below w.heap.size w wr) ∧ Hid (BoxAt wr w.heap.size [.int .i64 p.runs.m, .int .i64 p.runs.d, .bool p.runs.k, .int .i64 p.obj.m, .int .i64 p.obj.d, .bool p.obj.k, .int .i64 p.wait.m, .int .i64 p.wait.d, .bool p.wait.k, .int .i64 p.exts, .int .i64 p.longest, .slice A p.hols.length c])) (fun i _ => 3 - (intOf i).toNat)
  case atStart => exact ⟨0, .inl rfl, rfl, hb, h1⟩
  case round =>
    obtain ⟨k, hk, rfl, hb, hp⟩ := hrel
    rcases hk with rfl | ⟨rfl, r1⟩ | ⟨rfl, r1, r2⟩ | ⟨rfl, r1, r2, r3⟩
    · by_cases he : p.runs.err = 0
      · have he1 : (Cal.perE p.runs.m p.runs.d p.runs.k != 0) = false := by have : Cal.perE p.runs.m p.runs.d p.runs.k = 0 := he; simpa using this
        have hez := Lib.hid he
        clear he
        go_wp2_with fail
        refine (CheckPeriodR_any p.runs.m p.runs.d p.runs.k _).mono ?_
        rintro e w2 ⟨rfl, hb2⟩
        have hb3 := Lib.hid (below_step (below_step hb.out (below_alloc wr _)) hb2)
        have hp3 := Lib.hid ((hp.out.alloc _).below hb2)
        clear hb2
        go_wp2_with fail
        go_roundw
        case rel => exact ⟨1, .inr (.inl ⟨rfl, hez⟩), rfl, hb3, hp3⟩
        case measure => simp [intOf]
      · have he1 : (Cal.perE p.runs.m p.runs.d p.runs.k != 0) = true := by have : ¬ Cal.perE p.runs.m p.runs.d p.runs.k = 0 := he; simpa using this
        have hfin : Hid (Cal.procErr p = Cal.perE p.runs.m p.runs.d p.runs.k) := Cal.procErr_1 he
        clear he
        go_wp2_with fail
        refine (CheckPeriodR_any p.runs.m p.runs.d p.runs.k _).mono ?_
        rintro e w2 ⟨rfl, hb2⟩
        have hb3 := Lib.hid (below_step (below_step hb.out (below_alloc wr _)) hb2)
        clear hb2
        go_wp2_with fail
        go_ret
        exact ⟨ret_int hfin.out.symm, hb3.out⟩
    · by_cases he : p.obj.err = 0
      · have he1 : (Cal.perE p.obj.m p.obj.d p.obj.k != 0) = false := by have : Cal.perE p.obj.m p.obj.d p.obj.k = 0 := he; simpa using this
        have hez := Lib.hid he
        clear he
        go_wp2_with fail
        refine (CheckPeriodR_any p.obj.m p.obj.d p.obj.k _).mono ?_
        rintro e w2 ⟨rfl, hb2⟩
        have hb3 := Lib.hid (below_step (below_step hb.out (below_alloc wr _)) hb2)
        have hp3 := Lib.hid ((hp.out.alloc _).below hb2)
        clear hb2
        go_wp2_with fail
        go_roundw
        case rel => exact ⟨2, .inr (.inr (.inl ⟨rfl, r1, hez⟩)), rfl, hb3, hp3⟩
        case measure => simp [intOf]
      · have he1 : (Cal.perE p.obj.m p.obj.d p.obj.k != 0) = true := by have : ¬ Cal.perE p.obj.m p.obj.d p.obj.k = 0 := he; simpa using this
        have hfin : Hid (Cal.procErr p = Cal.perE p.obj.m p.obj.d p.obj.k) := Cal.procErr_2 r1.out he
        clear he
        go_wp2_with fail
        refine (CheckPeriodR_any p.obj.m p.obj.d p.obj.k _).mono ?_
        rintro e w2 ⟨rfl, hb2⟩
        have hb3 := Lib.hid (below_step (below_step hb.out (below_alloc wr _)) hb2)
        clear hb2
        go_wp2_with fail
        go_ret
        exact ⟨ret_int hfin.out.symm, hb3.out⟩
    · by_cases he : p.wait.err = 0
      · have he1 : (Cal.perE p.wait.m p.wait.d p.wait.k != 0) = false := by have : Cal.perE p.wait.m p.wait.d p.wait.k = 0 := he; simpa using this
        have hez := Lib.hid he
        clear he
        go_wp2_with fail
        refine (CheckPeriodR_any p.wait.m p.wait.d p.wait.k _).mono ?_
        rintro e w2 ⟨rfl, hb2⟩
        have hb3 := Lib.hid (below_step (below_step hb.out (below_alloc wr _)) hb2)
        have hp3 := Lib.hid ((hp.out.alloc _).below hb2)
        clear hb2
        go_wp2_with fail
        go_roundw
        case rel => exact ⟨3, .inr (.inr (.inr ⟨rfl, r1, r2, hez⟩)), rfl, hb3, hp3⟩
        case measure => simp [intOf]
      · have he1 : (Cal.perE p.wait.m p.wait.d p.wait.k != 0) = true := by have : ¬ Cal.perE p.wait.m p.wait.d p.wait.k = 0 := he; simpa using this
        have hfin : Hid (Cal.procErr p = Cal.perE p.wait.m p.wait.d p.wait.k) := Cal.procErr_3 r1.out r2.out he
        clear he
        go_wp2_with fail
        refine (CheckPeriodR_any p.wait.m p.wait.d p.wait.k _).mono ?_
        rintro e w2 ⟨rfl, hb2⟩
        have hb3 := Lib.hid (below_step (below_step hb.out (below_alloc wr _)) hb2)
        clear hb2
        go_wp2_with fail
        go_ret
        exact ⟨ret_int hfin.out.symm, hb3.out⟩
    · have hE := Cal.procErr_4 r1.out r2.out r3.out
      have c9 := hp.out.c 9 _ rfl
      have c10 := hp.out.c 10 _ rfl
      have c11 := hp.out.c 11 _ rfl
      by_cases hx : 0 ≤ p.exts ∧ p.exts ≤ 12
      · by_cases hy : 0 ≤ p.longest ∧ p.longest ≤ 3660
        · rw [if_pos ⟨hx.1, hx.2, hy.1, hy.2⟩] at hE
          have hfin := Lib.hid hE
          obtain ⟨x0, x1⟩ := hx
          obtain ⟨y0, y1⟩ := hy
          clear hE
          go_wp2_with (first | (go_at_call 56; first | refine rin ?_ | refine rout ?_ | refine rany ?_) | ((first | (go_at_call 134) | (go_at_call 59) | (go_at_call 133) | (go_at_call 14) | (go_at_call 178) | (fail) | (go_at_call 139)); first | refine rin ?_ | refine rout ?_ | refine rany ?_))
          refine (CheckHolidaysR_any _ _ p.hols _ (hl.out.below hb.out)).mono ?_
          rintro e w2 ⟨rfl, hb2⟩
          have hb3 := Lib.hid (below_step hb.out hb2)
          clear hb2
          go_wp2_with fail
          go_ret
          exact ⟨ret_int hfin.out.symm, hb3.out⟩
        · rw [if_neg (fun h => hy ⟨h.2.2.1, h.2.2.2⟩)] at hE
          have hfin := Lib.hid hE
          obtain ⟨x0, x1⟩ := hx
          have hy' : p.longest < 0 ∨ 3660 < p.longest := by omega
          clear hE hy
          go_wp2_with (first | (go_at_call 56; first | refine rin ?_ | refine rout ?_ | refine rany ?_) | ((first | (go_at_call 134) | (go_at_call 59) | (go_at_call 133) | (go_at_call 14) | (go_at_call 178) | (fail) | (go_at_call 139)); first | refine rin ?_ | refine rout ?_ | refine rany ?_))
          go_ret
          exact ⟨ret_int hfin.out.symm, hb.out⟩
      · rw [if_neg (fun h => hx ⟨h.1, h.2.1⟩)] at hE
        have hfin := Lib.hid hE
        have hx' : p.exts < 0 ∨ 12 < p.exts := by omega
        clear hE hx
        go_wp2_with (first | (go_at_call 56; first | refine rin ?_ | refine rout ?_ | refine rany ?_) | ((first | (go_at_call 134) | (go_at_call 59) | (go_at_call 133) | (go_at_call 14) | (go_at_call 178) | (fail) | (go_at_call 139)); first | refine rin ?_ | refine rout ?_ | refine rany ?_))
        go_ret
        exact ⟨ret_int hfin.out.symm, hb.out⟩
def modB (d : Int) (k : Bool) : Bool := !k || (decide (d ≤ 60) || decide (2000 < d))
theorem modest_any (m d : Int) (k : Bool) (w : World) : Calls Tryz.prog 63 #[.agg #[.int .i64 m, .int .i64 d, .bool k]] w fun e w' => e = .returned (.bool (modB d k)) ∧ Below w.heap.size w w' := by
  cases k
  · go_enter Tryz.func63, Tryz.ntmps63
    go_wp2_with fail
    go_ret
    exact ⟨rfl, by exact blw⟩
  · by_cases h1 : d ≤ 60
    · have hfin : Hid (modB d true = true) := by show _ = _; unfold modB; simp [h1]
      go_enter Tryz.func63, Tryz.ntmps63
      go_wp2_with fail
      go_ret
      exact ⟨ret_bool hfin.out.symm, by exact blw⟩
    · have h1d : decide (d ≤ 60) = false := by simpa using h1
      have hfin : Hid (modB d true = decide (2000 < d)) := by show _ = _; unfold modB; rw [h1d]; rfl
      clear h1
      go_enter Tryz.func63, Tryz.ntmps63
      go_wp2_with fail
      go_ret
      exact ⟨ret_bool hfin.out.symm, by exact blw⟩
def BoolPost (w : World) (e : Ending) (w' : World) : Prop := (∃ b : Bool, e = .returned (.bool b)) ∧ Below w.heap.size w w'
set_option maxRecDepth 100000 in
set_option maxHeartbeats 4000000 in
theorem Modest_any (A : Option Addr) (c : Nat) (p : Proc) (w : World) (hl : Hols w A p.hols) : Calls Tryz.prog 18 #[.agg #[.int .i64 p.runs.m, .int .i64 p.runs.d, .bool p.runs.k, .int .i64 p.obj.m, .int .i64 p.obj.d, .bool p.obj.k, .int .i64 p.wait.m, .int .i64 p.wait.d, .bool p.wait.k, .int .i64 p.exts, .int .i64 p.longest, .slice A p.hols.length c]] w (BoolPost w) := by
  have hl := Lib.hid hl
  have h1 := Lib.hid (BoxAt.new w #[.int .i64 p.runs.m, .int .i64 p.runs.d, .bool p.runs.k, .int .i64 p.obj.m, .int .i64 p.obj.d, .bool p.obj.k, .int .i64 p.wait.m, .int .i64 p.wait.d, .bool p.wait.k, .int .i64 p.exts, .int .i64 p.longest, .slice A p.hols.length c] 47)
  have hb := Lib.hid (below_alloc w (.cells #[.int .i64 p.runs.m, .int .i64 p.runs.d, .bool p.runs.k, .int .i64 p.obj.m, .int .i64 p.obj.d, .bool p.obj.k, .int .i64 p.wait.m, .int .i64 p.wait.d, .bool p.wait.k, .int .i64 p.exts, .int .i64 p.longest, .slice A p.hols.length c] 47))
  cases e1 : modB p.runs.d p.runs.k
  · have e1 := Lib.hid e1
    go_enter Tryz.func18, Tryz.ntmps18
    go_wp2_with fail
    refine (modest_any p.runs.m p.runs.d p.runs.k _).mono ?_
    rintro e w9 ⟨rfl, hbn⟩
    rw [e1.out]
    have hb := Lib.hid (below_step hb.out hbn)
    have h1 := Lib.hid (h1.out.below hbn)
    clear hbn
    have c0 := h1.out.c 0 _ rfl
    have c1 := h1.out.c 1 _ rfl
    have c2 := h1.out.c 2 _ rfl
    have c3 := h1.out.c 3 _ rfl
    have c4 := h1.out.c 4 _ rfl
    have c5 := h1.out.c 5 _ rfl
    have c6 := h1.out.c 6 _ rfl
    have c7 := h1.out.c 7 _ rfl
    have c8 := h1.out.c 8 _ rfl
    have c11 := h1.out.c 11 _ rfl
    go_wp2_with fail
    go_ret
    exact ⟨⟨_, rfl⟩, hb.out⟩
  have e1 := Lib.hid e1
  cases e2 : modB p.obj.d p.obj.k
  · have e2 := Lib.hid e2
    go_enter Tryz.func18, Tryz.ntmps18
    go_wp2_with fail
    refine (modest_any p.runs.m p.runs.d p.runs.k _).mono ?_
    rintro e w9 ⟨rfl, hbn⟩
    rw [e1.out]
    have hb := Lib.hid (below_step hb.out hbn)
    have h1 := Lib.hid (h1.out.below hbn)
    clear hbn
    have c0 := h1.out.c 0 _ rfl
    have c1 := h1.out.c 1 _ rfl
    have c2 := h1.out.c 2 _ rfl
    have c3 := h1.out.c 3 _ rfl
    have c4 := h1.out.c 4 _ rfl
    have c5 := h1.out.c 5 _ rfl
    have c6 := h1.out.c 6 _ rfl
    have c7 := h1.out.c 7 _ rfl
    have c8 := h1.out.c 8 _ rfl
    have c11 := h1.out.c 11 _ rfl
    go_wp2_with fail
    refine (modest_any p.obj.m p.obj.d p.obj.k _).mono ?_
    rintro e w9 ⟨rfl, hbn⟩
    rw [e2.out]
    have hb := Lib.hid (below_step hb.out hbn)
    have h1 := Lib.hid (h1.out.below hbn)
    clear hbn
    have c0 := h1.out.c 0 _ rfl
    have c1 := h1.out.c 1 _ rfl
    have c2 := h1.out.c 2 _ rfl
    have c3 := h1.out.c 3 _ rfl
    have c4 := h1.out.c 4 _ rfl
    have c5 := h1.out.c 5 _ rfl
    have c6 := h1.out.c 6 _ rfl
    have c7 := h1.out.c 7 _ rfl
    have c8 := h1.out.c 8 _ rfl
    have c11 := h1.out.c 11 _ rfl
    go_wp2_with fail
    go_ret
    exact ⟨⟨_, rfl⟩, hb.out⟩
  have e2 := Lib.hid e2
  cases e3 : modB p.wait.d p.wait.k
  · have e3 := Lib.hid e3
    go_enter Tryz.func18, Tryz.ntmps18
    go_wp2_with fail
    refine (modest_any p.runs.m p.runs.d p.runs.k _).mono ?_
    rintro e w9 ⟨rfl, hbn⟩
    rw [e1.out]
    have hb := Lib.hid (below_step hb.out hbn)
    have h1 := Lib.hid (h1.out.below hbn)
    clear hbn
    have c0 := h1.out.c 0 _ rfl
    have c1 := h1.out.c 1 _ rfl
    have c2 := h1.out.c 2 _ rfl
    have c3 := h1.out.c 3 _ rfl
    have c4 := h1.out.c 4 _ rfl
    have c5 := h1.out.c 5 _ rfl
    have c6 := h1.out.c 6 _ rfl
    have c7 := h1.out.c 7 _ rfl
    have c8 := h1.out.c 8 _ rfl
    have c11 := h1.out.c 11 _ rfl
    go_wp2_with fail
    refine (modest_any p.obj.m p.obj.d p.obj.k _).mono ?_
    rintro e w9 ⟨rfl, hbn⟩
    rw [e2.out]
    have hb := Lib.hid (below_step hb.out hbn)
    have h1 := Lib.hid (h1.out.below hbn)
    clear hbn
    have c0 := h1.out.c 0 _ rfl
    have c1 := h1.out.c 1 _ rfl
    have c2 := h1.out.c 2 _ rfl
    have c3 := h1.out.c 3 _ rfl
    have c4 := h1.out.c 4 _ rfl
    have c5 := h1.out.c 5 _ rfl
    have c6 := h1.out.c 6 _ rfl
    have c7 := h1.out.c 7 _ rfl
    have c8 := h1.out.c 8 _ rfl
    have c11 := h1.out.c 11 _ rfl
    go_wp2_with fail
    refine (modest_any p.wait.m p.wait.d p.wait.k _).mono ?_
    rintro e w9 ⟨rfl, hbn⟩
    rw [e3.out]
    have hb := Lib.hid (below_step hb.out hbn)
    have h1 := Lib.hid (h1.out.below hbn)
    clear hbn
    have c0 := h1.out.c 0 _ rfl
    have c1 := h1.out.c 1 _ rfl
    have c2 := h1.out.c 2 _ rfl
    have c3 := h1.out.c 3 _ rfl
    have c4 := h1.out.c 4 _ rfl
    have c5 := h1.out.c 5 _ rfl
    have c6 := h1.out.c 6 _ rfl
    have c7 := h1.out.c 7 _ rfl
    have c8 := h1.out.c 8 _ rfl
    have c11 := h1.out.c 11 _ rfl
    go_wp2_with fail
    go_ret
    exact ⟨⟨_, rfl⟩, hb.out⟩
  · have e3 := Lib.hid e3
    go_enter Tryz.func18, Tryz.ntmps18
    go_wp2_with fail
    refine (modest_any p.runs.m p.runs.d p.runs.k _).mono ?_
    rintro e w9 ⟨rfl, hbn⟩
    rw [e1.out]
    have hb := Lib.hid (below_step hb.out hbn)
    have h1 := Lib.hid (h1.out.below hbn)
    clear hbn
    have c0 := h1.out.c 0 _ rfl
    have c1 := h1.out.c 1 _ rfl
    have c2 := h1.out.c 2 _ rfl
    have c3 := h1.out.c 3 _ rfl
    have c4 := h1.out.c 4 _ rfl
    have c5 := h1.out.c 5 _ rfl
    have c6 := h1.out.c 6 _ rfl
    have c7 := h1.out.c 7 _ rfl
    have c8 := h1.out.c 8 _ rfl
    have c11 := h1.out.c 11 _ rfl
    go_wp2_with fail
    refine (modest_any p.obj.m p.obj.d p.obj.k _).mono ?_
    rintro e w9 ⟨rfl, hbn⟩
    rw [e2.out]
    have hb := Lib.hid (below_step hb.out hbn)
    have h1 := Lib.hid (h1.out.below hbn)
    clear hbn
    have c0 := h1.out.c 0 _ rfl
    have c1 := h1.out.c 1 _ rfl
    have c2 := h1.out.c 2 _ rfl
    have c3 := h1.out.c 3 _ rfl
    have c4 := h1.out.c 4 _ rfl
    have c5 := h1.out.c 5 _ rfl
    have c6 := h1.out.c 6 _ rfl
    have c7 := h1.out.c 7 _ rfl
    have c8 := h1.out.c 8 _ rfl
    have c11 := h1.out.c 11 _ rfl
    go_wp2_with fail
    refine (modest_any p.wait.m p.wait.d p.wait.k _).mono ?_
    rintro e w9 ⟨rfl, hbn⟩
    rw [e3.out]
    have hb := Lib.hid (below_step hb.out hbn)
    have h1 := Lib.hid (h1.out.below hbn)
    clear hbn
    have c0 := h1.out.c 0 _ rfl
    have c1 := h1.out.c 1 _ rfl
    have c2 := h1.out.c 2 _ rfl
    have c3 := h1.out.c 3 _ rfl
    have c4 := h1.out.c 4 _ rfl
    have c5 := h1.out.c 5 _ rfl
    have c6 := h1.out.c 6 _ rfl
    have c7 := h1.out.c 7 _ rfl
    have c8 := h1.out.c 8 _ rfl
    have c11 := h1.out.c 11 _ rfl
    go_wp2_with fail
    refine (Calendar_any A c p.hols _ (hl.out.below hb.out)).mono ?_
    rintro e w9 ⟨⟨b, rfl, hbl⟩, rfl⟩
    clear hbl
    go_wp2_with fail
    go_ret
    exact ⟨⟨_, rfl⟩, hb.out⟩
theorem Brief_any (N : Option Addr) (d : Nat) (n : Note) (w : World) (hn : n.name.size ≤ maxLen) (ha : n.acts.length ≤ 9223372036854775807) : Calls Tryz.prog 41 #[.agg #[.string n.name, .int .i64 n.opened, .slice N n.acts.length d]] w (BoolPost w) := by
  unfold maxLen at hn
  by_cases h1 : n.name.size ≤ 30
  · by_cases h2 : n.acts.length ≤ 12
    · go_enter Tryz.func41, Tryz.ntmps41
      go_wp2_with fail
      go_ret
      exact ⟨⟨_, rfl⟩, by exact blw⟩
    · have h2' : 12 < n.acts.length := by omega
      clear h2
      by_cases h3 : 40 < n.acts.length
      · by_cases h4 : n.acts.length ≤ 50
        · go_enter Tryz.func41, Tryz.ntmps41
          go_wp2_with fail
          go_ret
          exact ⟨⟨_, rfl⟩, by exact blw⟩
        · have h4' : 50 < n.acts.length := by omega
          clear h4
          go_enter Tryz.func41, Tryz.ntmps41
          go_wp2_with fail
          go_ret
          exact ⟨⟨_, rfl⟩, by exact blw⟩
      · have h3' : n.acts.length ≤ 40 := by omega
        clear h3
        go_enter Tryz.func41, Tryz.ntmps41
        go_wp2_with fail
        go_ret
        exact ⟨⟨_, rfl⟩, by exact blw⟩
  · have h1' : 30 < n.name.size := by omega
    clear h1
    go_enter Tryz.func41, Tryz.ntmps41
    go_wp2_with fail
    go_ret
    exact ⟨⟨_, rfl⟩, by exact blw⟩
end Go.Proofs.YtbegbajlagcbdaaGreatDoor
