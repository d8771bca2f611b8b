/- Chapter 8 and what it rests on: definitions and walks, part 58. -/
import Derived.Test.YtbinoelbjlgjkaaGreatDoorC57
namespace Go.Proofs.YtbinoelbjlgjkaaGreatDoor
open Go Go.RowKit
theorem Cal.addFrom_ge2 {l : List Hol} : ∀ (f : Nat) (d left x : Int), Cal.addFrom l 1 f d left = some x → d ≤ x ∧ Cal.worksB l x = true
  | 0, _, _, _, h => by cases h
  | f + 1, d, left, x, h => by
    unfold Cal.addFrom at h
    split at h
    · split at h
      · rename_i hw
        split at h
        · cases h; exact ⟨Int.le_refl _, hw⟩
        · have := Cal.addFrom_ge2 f _ _ _ h; exact ⟨by omega, this.2⟩
      · have := Cal.addFrom_ge2 f _ _ _ h; exact ⟨by omega, this.2⟩
    · cases h
theorem Cal.addW_ge2 {l : List Hol} {day n x : Int} (n0 : 0 ≤ n) (h : Cal.addW l day n = some x) : day ≤ x ∧ Cal.worksB l x = true := by
  unfold Cal.addW at h
  split at h
  · exact Cal.addFrom_ge2 _ _ _ _ h
  · rw [if_neg (by omega)] at h
    have := Cal.addFrom_ge2 _ _ _ _ h; exact ⟨by omega, this.2⟩
theorem Cal.mod_next {y k : Nat} (hy : 0 < y) (hk : 0 < k) : (k % y = 0 ∧ (k - 1) % y + 1 = y) ∨ (k % y = (k - 1) % y + 1) := by
  have h1 := Nat.div_add_mod (k - 1) y
  have h2 := Nat.mod_lt (k - 1) hy
  generalize (k - 1) % y = r at *
  generalize (k - 1) / y = q at *
  by_cases h : r + 1 < y
  · right
    have e : k = y * q + (r + 1) := by omega
    rw [e, Nat.mul_add_mod, Nat.mod_eq_of_lt h]
  · left
    have e : k = y * (q + 1) := by rw [Nat.mul_add]; omega
    exact ⟨by rw [e]; exact Nat.mul_mod_right y _, by omega⟩
theorem Cal.isWork_ok {l : List Hol} (h0 : Cal.holsErr l = 0) {d : Int} (d0 : 0 ≤ d) (d1 : d ≤ 200000) (hw : Cal.worksB l d = true) : Cal.isWorkE l d = 0 ∧ Cal.isWorkB l d = true := by
  have h1 : Cal.isWorkE l d = 0 := by unfold Cal.isWorkE; rw [if_pos h0, if_pos ⟨d0, d1⟩]
  refine ⟨h1, ?_⟩
  unfold Cal.isWorkB
  rw [if_pos h1, ← Cal.workB_eq (Cal.holsErr_ok h0).1 d0 d1]
  exact hw
/-- What holds of the first k stops of a plan. -/
structure PlanI (p : Proc) (y : Nat) (x : Int) (order : List Int) (k : Nat) (out : List Stp) (day : Int) : Prop where
  mons : out.map (·.mon) = order.take k
  days : ∀ s ∈ out, s.day ≤ day
  low : x ≤ day
  zero : k = 0 → day = x
  work : 0 < k → Cal.worksB p.hols day = true ∧ 0 ≤ day ∧ day ≤ 200000
  cnt : 0 < k → Cal.cntS day out = (k - 1) % y + 1
  rnd : ∀ l : List Stp, l.take k = out → Cal.rndTo p order x y l k = (day, 0)
  last : 0 < k → ∃ s, out.getLast? = some s ∧ s.day = day
theorem Cal.cntS_none {d : Int} {l : List Stp} (h : ∀ s ∈ l, s.day < d) : Cal.cntS d l = 0 := by
  unfold Cal.cntS
  rw [List.countP_eq_zero]
  intro s hs
  have := h s hs
  simp; omega
theorem Cal.plan_inv {p : Proc} {y : Nat} {x : Int} {order : List Int} (hok : Cal.planE p order x y = 0) : ∀ k, k ≤ order.length → ∀ out day, Cal.planTo p.hols y x order k = some (out, day) → PlanI p y x order k out day
  | 0, _, out, day, h => by
    unfold Cal.planTo at h
    cases h
    exact ⟨rfl, fun s hs => (by cases hs), Int.le_refl _, fun _ => rfl, fun h => (by omega), fun h => (by omega), fun l _ => rfl, fun h => (by omega)⟩
  | k + 1, hk, out', day', h => by
    obtain ⟨hpe, hlen, hnd, x0, x1, y0, y1⟩ := Cal.planE_ok hok
    have hh := (Cal.procErr_ok hpe).2.2.2.2.2.2.2
    have hy : 0 < y := by omega
    cases hq : Cal.planTo p.hols y x order k with
    | none => rw [Cal.planTo_none hq (k + 1) (by omega)] at h; cases h
    | some r =>
      obtain ⟨out, day⟩ := r
      have I := Cal.plan_inv hok k (by omega) out day hq
      cases hn : Cal.nextD p.hols y k day with
      | none => rw [Cal.planTo_fail hq (by omega) hn] at h; cases h
      | some n =>
        rw [Cal.planTo_step hq (by omega) hn] at h
        have h := Option.some.inj h
        obtain rfl : out ++ [⟨order[k], n⟩] = out' := congrArg Prod.fst h
        obtain rfl : n = day' := congrArg Prod.snd h
        clear h
        have hN : day ≤ n ∧ Cal.worksB p.hols n = true ∧ 0 ≤ n ∧ n ≤ 200000 ∧ Cal.cntS n out = k % y := by
          unfold Cal.nextD at hn
          by_cases hm : k % y = 0
          · rw [if_pos hm] at hn
            have h1 := Cal.addW_ge2 (by omega) hn
            have h2 := Cal.addW_day hn
            by_cases hk0 : 0 < k
            · rw [if_pos hk0] at h1
              exact ⟨by omega, h1.2, h2.1, h2.2, by rw [hm]; exact Cal.cntS_none fun s hs => by have := I.days s hs; omega⟩
            · rw [if_neg hk0] at h1
              refine ⟨h1.1, h1.2, h2.1, h2.2, ?_⟩
              have : out = [] := by have := I.mons; rw [show k = 0 by omega] at this; simpa using this
              rw [this, hm]; rfl
          · rw [if_neg hm] at hn
            cases hn
            have hk0 : 0 < k := by
              rcases Nat.eq_zero_or_pos k with h | h
              · exact absurd (by rw [h]; exact Nat.zero_mod y) hm
              · exact h
            have hw := I.work hk0
            refine ⟨Int.le_refl _, hw.1, hw.2.1, hw.2.2, ?_⟩
            rw [I.cnt hk0]
            rcases Cal.mod_next hy hk0 with h | h
            · exact absurd h.1 hm
            · exact h.symm
        obtain ⟨n0, n1, n2, n3, n4⟩ := hN
        have hstop : Cal.stopE p order out ⟨order[k], n⟩ x y = 0 := by
          obtain ⟨w1, w2⟩ := Cal.isWork_ok hh n2 n3 n1
          have hm1 : memI order[k] order = true := by unfold memI; rw [decide_eq_true_iff]; exact List.getElem_mem _
          have hm2 : Cal.hasM order[k] out = false := by
            cases hh2 : Cal.hasM order[k] out with
            | false => rfl
            | true =>
              exfalso
              unfold Cal.hasM at hh2
              rw [List.any_eq_true] at hh2
              obtain ⟨s, hs, he⟩ := hh2
              have hin : s.mon ∈ order.take k := by rw [← I.mons]; exact List.mem_map_of_mem hs
              have he : s.mon = order[k] := by simpa using he
              rw [he] at hin
              obtain ⟨j, hj, he2⟩ := List.getElem_of_mem hin
              rw [List.length_take] at hj
              rw [List.getElem_take] at he2
              exact List.pairwise_iff_getElem.1 (List.nodup_iff_pairwise_ne.1 hnd) j k (by omega) (by omega) (by omega) he2
          unfold Cal.stopE
          have := I.low
          have := Nat.mod_lt k hy
          rw [if_pos hm1, if_neg (by rw [hm2]; decide), if_pos w1, if_neg (by show ¬ n < x; omega), if_pos w2, if_neg (by show ¬ (y : Int) ≤ (Cal.cntS n out : Nat); rw [n4]; omega)]
        refine ⟨?_, ?_, by have := I.low; omega, fun h => (by omega), fun _ => ⟨n1, n2, n3⟩, fun _ => ?_, fun l hl => ?_, fun _ => ⟨_, List.getLast?_concat, rfl⟩⟩
        · rw [List.map_append, I.mons, List.take_succ_eq_append_getElem (by omega)]; rfl
        · intro s hs
          rcases List.mem_append.1 hs with h | h
          · have := I.days s h; omega
          · rw [List.mem_singleton] at h; subst h; exact Int.le_refl _
        · have : Cal.cntS n (out ++ [⟨order[k], n⟩]) = Cal.cntS n out + 1 := by unfold Cal.cntS; rw [List.countP_append]; simp
          rw [this, n4]; rfl
        · have hll : k < l.length := by
            have := congrArg List.length hl
            have h2 := Cal.planTo_len (by omega) hq
            rw [List.length_take, List.length_append, List.length_singleton] at this
            omega
          have hs := List.take_succ_eq_append_getElem hll
          rw [hl] at hs
          obtain ⟨e1, e2⟩ := List.append_inj' hs rfl
          have e3 := List.singleton_inj.1 e2
          have hr := I.rnd l e1.symm
          rw [Cal.rndTo_ok hr hll (by rw [← e1, ← e3]; exact hstop), ← e3]
          show (max day n, 0) = (n, 0)
          rw [show max day n = n by omega]
/-- The last day of a plan. -/
def Cal.lastD (x : Int) (out : List Stp) : Int := match out.getLast? with | some s => s.day | none => x
theorem Cal.plan_accepted {p : Proc} {y : Nat} {x : Int} {order : List Int} {out : List Stp} (hok : Cal.planE p order x y = 0) (h : Cal.planS p.hols y x order = some out) : Cal.rndS p order out x y = (Cal.lastD x out, 0) ∧ out.length = order.length := by
  unfold Cal.planS at h
  cases hq : Cal.planTo p.hols y x order order.length with
  | none => rw [hq] at h; cases h
  | some r =>
    obtain ⟨o, day⟩ := r
    rw [hq] at h
    cases h
    have I := Cal.plan_inv hok _ (Nat.le_refl _) o day hq
    have hl := Cal.planTo_len (Nat.le_refl _) hq
    have hr := I.rnd o (by rw [← hl, List.take_length])
    refine ⟨?_, hl⟩
    unfold Cal.rndS
    show (if Cal.planE p order x y = 0 then _ else _) = _
    rw [if_pos hok, hl, hr, if_pos rfl, if_neg (by show ¬ order.length < order.length; omega)]
    unfold Cal.lastD
    rcases Nat.eq_zero_or_pos order.length with h0 | h0
    · have : o = [] := List.eq_nil_of_length_eq_zero (by omega)
      rw [this, I.zero h0]; rfl
    · obtain ⟨s, h1, h2⟩ := I.last h0
      rw [h1, ← h2]
end Go.Proofs.YtbinoelbjlgjkaaGreatDoor
