/- What the statements rest on: definitions and walks, part 24. -/
import Derived.Test.YtfcjeejhdklkdaaJ23
set_option maxRecDepth 100000
set_option maxHeartbeats 16000000
set_option linter.unusedSimpArgs false
set_option linter.unusedVariables false
namespace Go.Proofs.Ytfcjeejhdklkdaa
namespace Geo
theorem bary (u v w q : RP) : crs u v q + crs v w q + crs w u q = crs u v w := by unfold crs; grind
theorem bary_x (u v w q : RP) : crs v w q * u.x + crs w u q * v.x + crs u v q * w.x = crs u v w * q.x := by unfold crs; grind
theorem bary_y (u v w q : RP) : crs v w q * u.y + crs w u q * v.y + crs u v q * w.y = crs u v w * q.y := by unfold crs; grind
theorem on_edge {u v w q : RP} (h : 0 < crs u v w) (h0 : crs u v q = 0) (h1 : 0 ≤ crs v w q) (h2 : 0 ≤ crs w u q) : ∃ l : Rat, 0 ≤ l ∧ l ≤ 1 ∧ q = at' u v l := by
 have hb := bary u v w q
 have hx := bary_x u v w q
 have hy := bary_y u v w q
 obtain ⟨l0, l1⟩ := div_mem (c := crs w u q) (k := crs u v w) h h2 (by grind)
 have e : crs w u q / crs u v w * crs u v w = crs w u q := Rat.div_mul_cancel (by grind)
 refine ⟨crs w u q / crs u v w, l0, l1, ?_⟩
 generalize crs w u q / crs u v w = l at *
 rw [h0] at hb hx hy
 generalize crs u v w = D at *
 generalize crs v w q = g at *
 generalize crs w u q = m at *
 have hD : D ≠ 0 := by grind
 have e1 : g = (1 - l) * D := by grind
 subst e1
 subst e
 obtain ⟨qx, qy⟩ := q
 unfold at'
 dsimp only at *
 rw [RP.mk.injEq]
 constructor
 ·have : D * (qx - (u.x + l * (v.x - u.x))) = 0 := by grind
  rcases Rat.mul_eq_zero.1 this with h | h
  ·exact absurd h hD
  ·grind
 ·have : D * (qy - (u.y + l * (v.y - u.y))) = 0 := by grind
  rcases Rat.mul_eq_zero.1 this with h | h
  ·exact absurd h hD
  ·grind
theorem leave {u v w y z : RP} (hD : 0 < crs u v w) (f0 : 0 < crs u v y) (g0 : 0 < crs v w y) (h0 : 0 ≤ crs w u y) (h1 : 0 ≤ crs w u z) (hz : crs u v z < 0 ∨ crs v w z < 0) :
  ∃ s l : Rat, 0 < s ∧ s ≤ 1 ∧ 0 ≤ l ∧ l ≤ 1 ∧ (at' y z s = at' u v l ∨ at' y z s = at' v w l) ∧ 0 ≤ crs u v (at' y z s) ∧ 0 ≤ crs v w (at' y z s) := by
 have zero : ∀ a b : Rat, 0 < a → b < 0 → ∃ s : Rat, 0 < s ∧ s < 1 ∧ (1 - s) * a + s * b = 0 := fun a b ha hb => by
  have hk : 0 < a - b := by grind
  have e : a / (a - b) * (a - b) = a := Rat.div_mul_cancel (by grind)
  obtain ⟨l0, l1⟩ := div_mem (c := a) (k := a - b) hk (by grind) (by grind)
  generalize a / (a - b) = s at *
  have s0 : s ≠ 0 := fun h => by rw [h, Rat.zero_mul] at e; grind
  have s1 : s ≠ 1 := fun h => by rw [h, Rat.one_mul] at e; grind
  exact ⟨s, by grind, by grind, by grind⟩
 have hh : ∀ s : Rat, 0 ≤ s → s ≤ 1 → 0 ≤ crs w u (at' y z s) := fun s s0 s1 => by
  rw [crs_lin]
  have p1 := mul_nn (a := 1 - s) (b := crs w u y) (by grind) h0
  have p2 := mul_nn s0 h1
  grind
 have firstF : crs u v z < 0 → (∀ s : Rat, 0 < s → s < 1 → (1 - s) * crs u v y + s * crs u v z = 0 → 0 ≤ (1 - s) * crs v w y + s * crs v w z) →
   ∃ s l : Rat, 0 < s ∧ s ≤ 1 ∧ 0 ≤ l ∧ l ≤ 1 ∧ (at' y z s = at' u v l ∨ at' y z s = at' v w l) ∧ 0 ≤ crs u v (at' y z s) ∧ 0 ≤ crs v w (at' y z s) := fun hf hg => by
  obtain ⟨s, s0, s1, e⟩ := zero _ _ f0 hf
  have g := hg s s0 s1 e
  have ef : crs u v (at' y z s) = 0 := by rw [crs_lin]; exact e
  have eg : 0 ≤ crs v w (at' y z s) := by rw [crs_lin]; exact g
  obtain ⟨l, l0, l1, el⟩ := on_edge hD ef eg (hh s (by grind) (by grind))
  exact ⟨s, l, s0, by grind, l0, l1, Or.inl el, by grind, eg⟩
 have firstG : crs v w z < 0 → (∀ s : Rat, 0 < s → s < 1 → (1 - s) * crs v w y + s * crs v w z = 0 → 0 ≤ (1 - s) * crs u v y + s * crs u v z) →
   ∃ s l : Rat, 0 < s ∧ s ≤ 1 ∧ 0 ≤ l ∧ l ≤ 1 ∧ (at' y z s = at' u v l ∨ at' y z s = at' v w l) ∧ 0 ≤ crs u v (at' y z s) ∧ 0 ≤ crs v w (at' y z s) := fun hg hf => by
  obtain ⟨s, s0, s1, e⟩ := zero _ _ g0 hg
  have f := hf s s0 s1 e
  have eg : crs v w (at' y z s) = 0 := by rw [crs_lin]; exact e
  have ef : 0 ≤ crs u v (at' y z s) := by rw [crs_lin]; exact f
  obtain ⟨l, l0, l1, el⟩ := on_edge (u := v) (v := w) (w := u) (by rw [(crs_cyc u v w).1]; exact hD) eg (hh s (by grind) (by grind)) ef
  exact ⟨s, l, s0, by grind, l0, l1, Or.inr el, ef, by grind⟩
 by_cases hf : crs u v z < 0
 ·by_cases hg : crs v w z < 0
  ·-- both: the one that is met first
   by_cases hc : crs u v y * crs v w z ≤ crs v w y * crs u v z
   ·-- v w is met first
    refine firstG hg fun s s0 s1 e => ?_
    refine nonneg_of_mul (k := - crs v w z) (by grind) ?_
    have : ((1 - s) * crs u v y + s * crs u v z) * (- crs v w z) = (1 - s) * (crs v w y * crs u v z - crs u v y * crs v w z) + (- crs u v z) * ((1 - s) * crs v w y + s * crs v w z) := by grind
    rw [this, e, Rat.mul_zero, Rat.add_zero]
    exact mul_nn (by grind) (by grind)
   ·refine firstF hf fun s s0 s1 e => ?_
    refine nonneg_of_mul (k := - crs u v z) (by grind) ?_
    have : ((1 - s) * crs v w y + s * crs v w z) * (- crs u v z) = (1 - s) * (crs u v y * crs v w z - crs v w y * crs u v z) + (- crs v w z) * ((1 - s) * crs u v y + s * crs u v z) := by grind
    rw [this, e, Rat.mul_zero, Rat.add_zero]
    exact mul_nn (by grind) (by grind)
  ·refine firstF hf fun s s0 s1 _ => ?_
   have p1 := mul_nn (a := 1 - s) (b := crs v w y) (by grind) (by grind)
   have p2 := mul_nn (a := s) (b := crs v w z) (by grind) (by grind)
   grind
 ·have hg : crs v w z < 0 := by rcases hz with h | h; exact absurd h hf; exact h
  refine firstG hg fun s s0 s1 _ => ?_
  have p1 := mul_nn (a := 1 - s) (b := crs u v y) (by grind) (by grind)
  have p2 := mul_nn (a := s) (b := crs u v z) (by grind) (by grind)
  grind
def Tri (u v w q : RP) : Prop := 0 ≤ crs u v q ∧ 0 ≤ crs v w q ∧ 0 ≤ crs w u q
section
variable {n : Nat} {P : Nat → RP}
theorem Simple.corner_side (h : Simple n P) {m s : Nat} {l : Rat} (l0 : 0 ≤ l) (l1 : l ≤ 1) (e : P m = at' (P s) (P (s + 1)) l) : m % n = s % n ∨ m % n = (s + 1) % n := by
 by_cases hms : m % n = s % n
 ·exact Or.inl hms
 ·right
  rcases h.touch_mod hms (l := 0) (m := l) (by grind) (by grind) l0 l1 (by rw [at0]; exact e) with ⟨_, z, _⟩ | ⟨z, _, _⟩
  ·grind
  ·exact z
theorem Simple.pmod (h : Simple n P) {a b : Nat} (e : a % n = b % n) : P a = P b := by rw [← h.mod a, e, h.mod]
theorem Simple.end_in (hs : Simple n P) {k m : Nat} (hD : 0 < crs (P k) (P (k + 1)) (P (k + 2))) {y z : RP} (f0 : 0 < crs (P k) (P (k + 1)) y) (g0 : 0 < crs (P (k + 1)) (P (k + 2)) y) (h0 : 0 ≤ crs (P (k + 2)) (P k) y)
  {l : Rat} (l0 : 0 ≤ l) (l1 : l ≤ 1) (hy : y = at' (P m) (P (m + 1)) l) (hz : z = P m ∨ z = P (m + 1)) (h1 : 0 ≤ crs (P (k + 2)) (P k) z) : Tri (P k) (P (k + 1)) (P (k + 2)) z := by
 refine Classical.byContradiction fun hno => ?_
 have hbad : crs (P k) (P (k + 1)) z < 0 ∨ crs (P (k + 1)) (P (k + 2)) z < 0 := by
  refine Classical.byContradiction fun h => ?_
  exact hno ⟨by grind, by grind, h1⟩
 obtain ⟨s, r, s0, s1, r0, r1, he, hf, hg⟩ := leave hD f0 g0 h0 h1 hbad
 obtain ⟨t, t0, t1, ht, hend⟩ : ∃ t : Rat, 0 ≤ t ∧ t ≤ 1 ∧ at' y z s = at' (P m) (P (m + 1)) t ∧ ((t = 0 ∨ t = 1) → at' y z s = z ∨ y = z) := by
  rcases hz with e | e
  ·refine ⟨l - s * l, ?_, ?_, ?_, ?_⟩
   ·have := mul_nn (a := 1 - s) (b := l) (by grind) l0; grind
   ·have := mul_nn (a := s) (b := l) (by grind) l0; grind
   ·rw [hy, e]; unfold at'; rw [RP.mk.injEq]; constructor <;> grind
   ·intro ht
    rcases ht with ht | ht
    ·left
     have : (1 - s) * l = 0 := by grind
     rcases Rat.mul_eq_zero.1 this with h | h
     ·rw [show s = 1 by grind, at1]
     ·rw [e, hy, h, at0]; unfold at'; cases P m; rw [RP.mk.injEq]; constructor <;> grind
    ·have h1 := mul_nn (a := s) (b := l) (by grind) l0
     have h2 : l = 1 := by grind
     have h3 : s * 1 = 0 := by grind
     grind
  ·refine ⟨l + s * (1 - l), ?_, ?_, ?_, ?_⟩
   ·have := mul_nn (a := s) (b := 1 - l) (by grind) (by grind); grind
   ·have := mul_nn (a := 1 - s) (b := 1 - l) (by grind) (by grind); grind
   ·rw [hy, e]; unfold at'; rw [RP.mk.injEq]; constructor <;> grind
   ·intro ht
    rcases ht with ht | ht
    ·have h1 := mul_nn (a := s) (b := 1 - l) (by grind) (by grind)
     have h2 : l = 0 := by grind
     have h3 : s * 1 = 0 := by grind
     grind
    ·left
     have : (1 - s) * (1 - l) = 0 := by grind
     rcases Rat.mul_eq_zero.1 this with h | h
     ·rw [show s = 1 by grind, at1]
     ·rw [e, hy, show l = 1 by grind, at1]; unfold at'; cases P (m + 1); rw [RP.mk.injEq]; constructor <;> grind
 have stop : at' y z s = z ∨ y = z → False := fun h => by
  rcases h with h | h
  ·rw [h] at hf hg; grind
  ·rw [h] at f0 g0; grind
 have meet : ∀ j, (∃ r : Rat, 0 ≤ r ∧ r ≤ 1 ∧ at' y z s = at' (P j) (P (j + 1)) r) → crs (P j) (P (j + 1)) y ≠ 0 → False := fun j ⟨r, r0, r1, er⟩ hne => by
  by_cases hmj : m % n = j % n
  ·refine hne ?_
   have e1 := hs.pmod hmj
   have e2 : P (m + 1) = P (j + 1) := hs.pmod (by rw [← Nat.mod_add_mod, hmj, Nat.mod_add_mod])
   rw [hy, e1, e2, crs_at]
  ·rcases hs.touch_mod hmj t0 t1 r0 r1 (ht.symm.trans er) with ⟨_, e, _⟩ | ⟨_, e, _⟩
   ·exact stop (hend (Or.inr e))
   ·exact stop (hend (Or.inl e))
 rcases he with e | e
 ·exact meet k ⟨r, r0, r1, e⟩ (by grind)
 ·exact meet (k + 1) ⟨r, r0, r1, e⟩ (by grind)
theorem Simple.part_off (hs : Simple n P) {k : Nat} (hD : 0 < crs (P k) (P (k + 1)) (P (k + 2))) {y : RP} (f0 : 0 < crs (P k) (P (k + 1)) y) (g0 : 0 < crs (P (k + 1)) (P (k + 2)) y) (h0 : 0 ≤ crs (P (k + 2)) (P k) y)
  (hno : ∀ m, m % n ≠ (k + 1) % n → Tri (P k) (P (k + 1)) (P (k + 2)) (P m) → crs (P (k + 2)) (P k) (P m) < crs (P (k + 2)) (P k) y) : Off n P y := fun m l hm l0 l1 e => by
 have tip : ∀ j, j % n = (k + 1) % n → j = m ∨ j = m + 1 → False := fun j hj hjm => by
  rcases hjm with rfl | rfl
  ·have e1 := hs.pmod hj
   have e2 : P (j + 1) = P (k + 2) := hs.pmod (by rw [← Nat.mod_add_mod, hj, Nat.mod_add_mod])
   rw [e, e1, e2, crs_at] at g0
   exact absurd g0 (by decide)
  ·have e2 := hs.pmod hj
   have e1 : P m = P k := hs.pmod (mod_shift (n := n) (s := 1) (by have := hs.three; omega) hj)
   rw [e, e1, e2, crs_at] at f0
   exact absurd f0 (by decide)
 have each : ∀ j, j = m ∨ j = m + 1 → crs (P (k + 2)) (P k) y ≤ crs (P (k + 2)) (P k) (P j) → False := fun j hj hle => by
  have hT := hs.end_in hD f0 g0 h0 l0 l1 e (z := P j) (by rcases hj with rfl | rfl; exact Or.inl rfl; exact Or.inr rfl) (by grind)
  by_cases ht : j % n = (k + 1) % n
  ·exact tip j ht hj
  ·have := hno j ht hT
   grind
 have hl : crs (P (k + 2)) (P k) y = (1 - l) * crs (P (k + 2)) (P k) (P m) + l * crs (P (k + 2)) (P k) (P (m + 1)) := by rw [e, crs_lin]
 by_cases h : crs (P (k + 2)) (P k) y ≤ crs (P (k + 2)) (P k) (P m)
 ·exact each m (Or.inl rfl) h
 ·refine each (m + 1) (Or.inr rfl) ?_
  refine Classical.byContradiction fun h2 => ?_
  have p1 := mul_nn (a := 1 - l) (b := crs (P (k + 2)) (P k) y - crs (P (k + 2)) (P k) (P m)) (by grind) (by grind)
  have p2 := mul_nn (a := l) (b := crs (P (k + 2)) (P k) y - crs (P (k + 2)) (P k) (P (m + 1))) l0 (by grind)
  have hz1 : (1 - l) * (crs (P (k + 2)) (P k) y - crs (P (k + 2)) (P k) (P m)) = 0 := by grind
  have hz2 : l * (crs (P (k + 2)) (P k) y - crs (P (k + 2)) (P k) (P (m + 1))) = 0 := by grind
  rcases Rat.mul_eq_zero.1 hz1 with a | a
  ·rcases Rat.mul_eq_zero.1 hz2 with b | b <;> grind
  ·grind
end
end Geo
end Go.Proofs.Ytfcjeejhdklkdaa
namespace Go.Proofs.Ytfcjeejhdklkdaa
namespace Geo
variable {n : Nat} {P : Nat → RP}
structure EarAt (n : Nat) (P : Nat → RP) (k : Nat) : Prop where
 pos : 0 < crs (P k) (P (k + 1)) (P (k + 2))
 emp : ∀ m, m % n ≠ k % n → m % n ≠ (k + 1) % n → m % n ≠ (k + 2) % n → ¬ Tri (P k) (P (k + 1)) (P (k + 2)) (P m)
theorem crs_self1 (a b : RP) : crs a b a = 0 := by unfold crs; grind
theorem crs_self2 (a b : RP) : crs a b b = 0 := by unfold crs; grind
theorem mod_ne {n a b s : Nat} (ha : a < n) (hb : b < n) (h : a ≠ b) : (s + a) % n ≠ (s + b) % n := fun e => h (mod_small ha hb e)
theorem EarAt.off (hs : Simple n P) (h4 : 4 ≤ n) {k : Nat} (he : EarAt n P k) {y : RP} (f0 : 0 < crs (P k) (P (k + 1)) y) (g0 : 0 < crs (P (k + 1)) (P (k + 2)) y) (h0 : 0 ≤ crs (P (k + 2)) (P k) y) : Off n P y := by
 have hu : crs (P (k + 2)) (P k) (P k) = 0 := crs_self2 _ _
 have hw : crs (P (k + 2)) (P k) (P (k + 2)) = 0 := crs_self1 _ _
 have who : ∀ m, m % n ≠ (k + 1) % n → Tri (P k) (P (k + 1)) (P (k + 2)) (P m) → (m % n = k % n ∨ m % n = (k + 2) % n) ∧ crs (P (k + 2)) (P k) (P m) = 0 := fun m hm hT => by
  by_cases h1 : m % n = k % n
  ·exact ⟨Or.inl h1, by rw [hs.pmod h1]; exact hu⟩
  ·by_cases h2 : m % n = (k + 2) % n
   ·exact ⟨Or.inr h2, by rw [hs.pmod h2]; exact hw⟩
   ·exact absurd hT (he.emp m h1 hm h2)
 by_cases hpos : 0 < crs (P (k + 2)) (P k) y
 ·exact hs.part_off he.pos f0 g0 h0 fun m hm hT => by rw [(who m hm hT).2]; exact hpos
 have hy0 : crs (P (k + 2)) (P k) y = 0 := by grind
 intro m l hm l0 l1 e
 have tip : ∀ j, j = m ∨ j = m + 1 → j % n ≠ (k + 1) % n := fun j hjm hj => by
  rcases hjm with rfl | rfl
  ·have e1 := hs.pmod hj
   have e2 : P (j + 1) = P (k + 2) := hs.pmod (by rw [← Nat.mod_add_mod, hj, Nat.mod_add_mod])
   rw [e, e1, e2, crs_at] at g0
   exact absurd g0 (by decide)
  ·have e2 := hs.pmod hj
   have e1 : P m = P k := hs.pmod (mod_shift (n := n) (s := 1) (by omega) hj)
   rw [e, e1, e2, crs_at] at f0
   exact absurd f0 (by decide)
 have each : ∀ j, j = m ∨ j = m + 1 → 0 ≤ crs (P (k + 2)) (P k) (P j) → (j % n = k % n ∨ j % n = (k + 2) % n) ∧ crs (P (k + 2)) (P k) (P j) = 0 := fun j hj hle => by
  have hT := hs.end_in he.pos f0 g0 h0 l0 l1 e (z := P j) (by rcases hj with rfl | rfl; exact Or.inl rfl; exact Or.inr rfl) hle
  exact who j (tip j hj) hT
 have hl : crs (P (k + 2)) (P k) y = (1 - l) * crs (P (k + 2)) (P k) (P m) + l * crs (P (k + 2)) (P k) (P (m + 1)) := by rw [e, crs_lin]
 rw [hy0] at hl
 have noend : ∀ j, (j % n = k % n ∨ j % n = (k + 2) % n) → y ≠ P j := fun j hj e => by
  rcases hj with h | h
  ·rw [e, hs.pmod h, crs_self1] at f0; exact absurd f0 (by decide)
  ·rw [e, hs.pmod h, crs_self2] at g0; exact absurd g0 (by decide)
 have hm1 : 0 ≤ crs (P (k + 2)) (P k) (P m) := by
  refine Classical.byContradiction fun hneg => ?_
  have hm2 : 0 ≤ crs (P (k + 2)) (P k) (P (m + 1)) := by
   refine Classical.byContradiction fun hneg2 => ?_
   have p1 := mul_nn (a := 1 - l) (b := - crs (P (k + 2)) (P k) (P m)) (by grind) (by grind)
   have p2 := mul_nn (a := l) (b := - crs (P (k + 2)) (P k) (P (m + 1))) l0 (by grind)
   have z1 : (1 - l) * crs (P (k + 2)) (P k) (P m) = 0 := by grind
   have z2 : l * crs (P (k + 2)) (P k) (P (m + 1)) = 0 := by grind
   rcases Rat.mul_eq_zero.1 z1 with a | a
   ·rcases Rat.mul_eq_zero.1 z2 with b | b <;> grind
   ·grind
  obtain ⟨hj, hz⟩ := each (m + 1) (Or.inr rfl) hm2
  rw [hz, Rat.mul_zero, Rat.add_zero] at hl
  rcases Rat.mul_eq_zero.1 hl.symm with a | a
  ·exact noend _ hj (by rw [e, show l = 1 by grind, at1])
  ·grind
 obtain ⟨hj, hz⟩ := each m (Or.inl rfl) hm1
 rw [hz, Rat.mul_zero, Rat.zero_add] at hl
 have hz2 : crs (P (k + 2)) (P k) (P (m + 1)) = 0 := by
  rcases Rat.mul_eq_zero.1 hl.symm with a | a
  ·exact absurd (by rw [e, a, at0]) (noend _ hj)
  ·exact a
 obtain ⟨hj2, _⟩ := each (m + 1) (Or.inr rfl) (by grind)
 rcases hj with h | h
 ·have e1 : (m + 1) % n = (k + 1) % n := by rw [← Nat.mod_add_mod, h, Nat.mod_add_mod]
  rcases hj2 with h2 | h2
  ·exact mod_ne (n := n) (s := k) (a := 1) (b := 0) (by omega) (by omega) (by omega) (by rw [← e1, h2]; rfl)
  ·exact mod_ne (n := n) (s := k) (a := 1) (b := 2) (by omega) (by omega) (by omega) (by rw [← e1, h2])
 ·have e1 : (m + 1) % n = (k + 3) % n := by rw [← Nat.mod_add_mod, h, Nat.mod_add_mod]
  rcases hj2 with h2 | h2
  ·exact mod_ne (n := n) (s := k) (a := 3) (b := 0) (by omega) (by omega) (by omega) (by rw [← e1, h2]; rfl)
  ·exact mod_ne (n := n) (s := k) (a := 3) (b := 2) (by omega) (by omega) (by omega) (by rw [← e1, h2])
theorem Simple.region_in (hs : Simple n P) (R : RP → Prop) (hconv : ∀ x y t, R x → R y → 0 ≤ t → t ≤ 1 → R (at' x y t)) (hoff : ∀ x, R x → Off n P x) {x y : RP} (hx : R x) (hin : In n P x) (hy : R y) : In n P y := by
 have hf : Free n P x y := Off.free fun t t0 t1 => hoff _ (hconv x y t hx hy t0 t1)
 have := hin.free hs hf 1 (by grind) (by grind)
 rwa [at1] at this
theorem Simple.wrap_corner (hs : Simple n P) (k : Nat) : P (k % n) = P k ∧ P (k % n + 1) = P (k + 1) ∧ P (k % n + 2) = P (k + 2) :=
 ⟨hs.mod k, hs.pmod (Nat.mod_add_mod ..), hs.pmod (Nat.mod_add_mod ..)⟩
theorem Pos.tip_in (h : Pos n P) {k : Nat} (hD : 0 < crs (P k) (P (k + 1)) (P (k + 2))) {c : Rat} (c0 : 0 ≤ c) (cD : c < crs (P k) (P (k + 1)) (P (k + 2))) :
  ∃ y, In n P y ∧ 0 < crs (P k) (P (k + 1)) y ∧ 0 < crs (P (k + 1)) (P (k + 2)) y ∧ c < crs (P (k + 2)) (P k) y := by
 have h3 := h.sim.three
 have hk : k % n < n := Nat.mod_lt _ (by omega)
 obtain ⟨w0, w1, _⟩ := h.sim.wrap_corner k
 obtain ⟨t, t0, t1, tc⟩ : ∃ t : Rat, 0 < t ∧ t < 1 ∧ c < t * crs (P k) (P (k + 1)) (P (k + 2)) := by
  have e : c / crs (P k) (P (k + 1)) (P (k + 2)) * crs (P k) (P (k + 1)) (P (k + 2)) = c := Rat.div_mul_cancel (by grind)
  obtain ⟨q0, q1⟩ := div_mem hD c0 (by grind)
  generalize c / crs (P k) (P (k + 1)) (P (k + 2)) = x at *
  have x1 : x ≠ 1 := fun h => by rw [h, Rat.one_mul] at e; grind
  refine ⟨(x + 1) / 2, by grind, by grind, ?_⟩
  have := mul_pp (a := (1 - x) / 2) (b := crs (P k) (P (k + 1)) (P (k + 2))) (by grind) hD
  grind
 obtain ⟨e1, e10, he1⟩ := h.side_near hk t0 t1
 rw [w0, w1] at he1
 have hx : crs (P (k + 2)) (P k) (at' (P k) (P (k + 1)) t) = t * crs (P k) (P (k + 1)) (P (k + 2)) := by unfold crs at'; dsimp only; grind
 have gx : crs (P (k + 1)) (P (k + 2)) (at' (P k) (P (k + 1)) t) = (1 - t) * crs (P k) (P (k + 1)) (P (k + 2)) := by unfold crs at'; dsimp only; grind
 obtain ⟨e2, e20, he2⟩ := left_near (c := P (k + 1)) (d := P (k + 2)) (a := at' (P k) (P (k + 1)) t) (by rw [gx]; exact mul_pp (by grind) hD)
 obtain ⟨e3, e30, he3⟩ := near_pos (f := t * crs (P k) (P (k + 1)) (P (k + 2)) - c) (α := -((P k).y - (P (k + 2)).y)) (β := (P k).x - (P (k + 2)).x) (by grind) (at' (P k) (P (k + 1)) t)
 obtain ⟨e, e0, a1, a2, a3⟩ : ∃ e : Rat, 0 < e ∧ e ≤ e1 ∧ e ≤ e2 ∧ e ≤ e3 := by
  rcases Rat.le_total (a := e1) (b := e2) with h | h
  ·rcases Rat.le_total (a := e1) (b := e3) with h' | h'
   ·exact ⟨e1, e10, by grind, h, h'⟩
   ·exact ⟨e3, e30, h', by grind, by grind⟩
  ·rcases Rat.le_total (a := e2) (b := e3) with h' | h'
   ·exact ⟨e2, e20, h, by grind, h'⟩
   ·exact ⟨e3, e30, by grind, h', by grind⟩
 obtain ⟨q, hq, hc⟩ := left_pt (h.sim.ne k) (crs_at _ _ t) (.inl rfl) e0
 have hf : 0 < crs (P k) (P (k + 1)) q := by grind
 refine ⟨q, (he1 q (hq.mono a1)).1 hf, hf, he2 q (hq.mono a2), ?_⟩
 have h3 := he3 q (hq.mono a3)
 rw [← hx] at h3
 have : crs (P (k + 2)) (P k) q = crs (P (k + 2)) (P k) (at' (P k) (P (k + 1)) t) + (-((P k).y - (P (k + 2)).y)) * (q.x - (at' (P k) (P (k + 1)) t).x) + ((P k).x - (P (k + 2)).x) * (q.y - (at' (P k) (P (k + 1)) t).y) := by
  unfold crs; grind
 grind
theorem conv3 {a b c d e f : RP} {x y : RP} {t r s z : Rat} (t0 : 0 ≤ t) (t1 : t ≤ 1) (hx : r < crs a b x ∧ s < crs c d x ∧ z < crs e f x) (hy : r < crs a b y ∧ s < crs c d y ∧ z < crs e f y) :
  r < crs a b (at' x y t) ∧ s < crs c d (at' x y t) ∧ z < crs e f (at' x y t) := by
 have one : ∀ r A B : Rat, r < A → r < B → r < (1 - t) * A + t * B := fun r A B hA hB => by
  rcases Rat.le_total (a := t) (b := 1 / 2) with h | h
  ·have p1 := mul_pp (a := 1 - t) (b := A - r) (by grind) (by grind)
   have p2 := mul_nn (a := t) (b := B - r) t0 (by grind)
   grind
  ·have p1 := mul_nn (a := 1 - t) (b := A - r) (by grind) (by grind)
   have p2 := mul_pp (a := t) (b := B - r) (by grind) (by grind)
   grind
 rw [crs_lin, crs_lin, crs_lin]
 exact ⟨one _ _ _ hx.1 hy.1, one _ _ _ hx.2.1 hy.2.1, one _ _ _ hx.2.2 hy.2.2⟩
theorem EarAt.ins (h : Pos n P) (h4 : 4 ≤ n) {k : Nat} (he : EarAt n P k) {y : RP} (f0 : 0 < crs (P k) (P (k + 1)) y) (g0 : 0 < crs (P (k + 1)) (P (k + 2)) y) (h0 : 0 ≤ crs (P (k + 2)) (P k) y) : In n P y := by
 obtain ⟨x, hx, fx, gx, hhx⟩ := h.tip_in he.pos (c := 0) (by grind) he.pos
 refine h.sim.region_in (fun q => 0 < crs (P k) (P (k + 1)) q ∧ 0 < crs (P (k + 1)) (P (k + 2)) q ∧ 0 ≤ crs (P (k + 2)) (P k) q) (fun a b t ha hb t0 t1 => ?_) (fun q hq => he.off h.sim h4 hq.1 hq.2.1 hq.2.2) ⟨fx, gx, by grind⟩ hx ⟨f0, g0, h0⟩
 have hc := conv3 (r := 0) (s := 0) (z := -1) (e := P (k + 2)) (f := P k) t0 t1 ⟨ha.1, ha.2.1, by have := ha.2.2; grind⟩ ⟨hb.1, hb.2.1, by have := hb.2.2; grind⟩
 refine ⟨hc.1, hc.2.1, ?_⟩
 rw [crs_lin]
 have p1 := mul_nn (a := 1 - t) (by grind) ha.2.2
 have p2 := mul_nn t0 hb.2.2
 grind
theorem EarAt.diag (h : Pos n P) (h4 : 4 ≤ n) {k : Nat} (he : EarAt n P k) : Diag n P (k + 2) (k + n) := by
 refine ⟨by omega, by omega, fun t t0 t1 => ?_⟩
 rw [h.sim.per]
 refine he.ins h h4 ?_ ?_ ?_
 ·have : crs (P k) (P (k + 1)) (at' (P k) (P (k + 2)) t) = t * crs (P k) (P (k + 1)) (P (k + 2)) := by unfold crs at'; dsimp only; grind
  rw [this]; exact mul_pp t0 he.pos
 ·have : crs (P (k + 1)) (P (k + 2)) (at' (P k) (P (k + 2)) t) = (1 - t) * crs (P k) (P (k + 1)) (P (k + 2)) := by unfold crs at'; dsimp only; grind
  rw [this]; exact mul_pp (by grind) he.pos
 ·have : crs (P (k + 2)) (P k) (at' (P k) (P (k + 2)) t) = 0 := by unfold crs at'; dsimp only; grind
  rw [this]; grind
end Geo
end Go.Proofs.Ytfcjeejhdklkdaa
namespace Go.Proofs.Ytfcjeejhdklkdaa
namespace Geo
variable {n : Nat} {P : Nat → RP}
theorem cut_at {i j a : Nat} (h : a ≤ j - i) : cutP P i j a = P (i + a) := by unfold cutP; rw [Nat.mod_eq_of_lt (by omega)]
theorem three_fun {i j : Nat} (h : j - i = 2) : cutP P i j = triP (P i) (P (i + 1)) (P (i + 2)) := by
 funext t
 unfold cutP triP
 rw [h]
 have := Nat.mod_lt t (show 0 < 3 by decide)
 have h3 : t % 3 = 0 ∨ t % 3 = 1 ∨ t % 3 = 2 := by omega
 rcases h3 with e | e | e <;> rw [show t % (2 + 1) = t % 3 from rfl, e] <;> rfl
theorem EarAt.up (h : Pos n P) {i j k : Nat} (hd : Diag n P i j) (hk : k + 2 ≤ j - i) (he : EarAt (j - i + 1) (cutP P i j) k) : EarAt n P (i + k) := by
 have h3 := h.sim.three
 have g1 := hd.lo
 have g2 := hd.hi
 have hQ := hd.pos h
 have hR := (hd.back h.sim).pos h
 have c0 : cutP P i j k = P (i + k) := cut_at (by omega)
 have c1 : cutP P i j (k + 1) = P (i + k + 1) := cut_at (by omega)
 have c2 : cutP P i j (k + 2) = P (i + k + 2) := cut_at (by omega)
 have hpos := he.pos
 rw [c0, c1, c2] at hpos
 refine ⟨hpos, fun m m0 m1 m2 hT => ?_⟩
 obtain ⟨a, ha, hea⟩ : ∃ a, a < n ∧ m % n = (i + a) % n := by
  refine ⟨(m + (n - i % n)) % n, Nat.mod_lt _ (by omega), ?_⟩
  have hi := Nat.mod_lt i (show 0 < n by omega)
  rw [Nat.add_mod_mod, ← Nat.mod_add_mod, show i % n + (m + (n - i % n)) = m + n by omega, Nat.add_mod_right]
 rw [h.sim.pmod hea] at hT
 have a0 : a ≠ k := fun e => m0 (by rw [hea, e])
 have a1 : a ≠ k + 1 := fun e => m1 (by rw [hea, e]; rfl)
 have a2 : a ≠ k + 2 := fun e => m2 (by rw [hea, e]; rfl)
 by_cases haj : a ≤ j - i
 ·refine he.emp a ?_ ?_ ?_ ?_
  ·rw [Nat.mod_eq_of_lt (by omega), Nat.mod_eq_of_lt (by omega)]; exact a0
  ·rw [Nat.mod_eq_of_lt (by omega), Nat.mod_eq_of_lt (by omega)]; exact a1
  ·rw [Nat.mod_eq_of_lt (by omega), Nat.mod_eq_of_lt (by omega)]; exact a2
  ·rw [c0, c1, c2, cut_at haj]; exact hT
 have fz : 0 < crs (P (i + k)) (P (i + k + 1)) (P (i + a)) := by
  refine Classical.byContradiction fun hn => ?_
  obtain ⟨l, l0, l1, e⟩ := on_edge hpos (q := P (i + a)) (by have := hT.1; grind) hT.2.1 hT.2.2
  rcases h.sim.corner_side l0 l1 e with h | h
  ·exact mod_ne (n := n) (s := i) (a := a) (b := k) (by omega) (by omega) (by omega) h
  ·exact mod_ne (n := n) (s := i) (a := a) (b := k + 1) (by omega) (by omega) (by omega) h
 have gz : 0 < crs (P (i + k + 1)) (P (i + k + 2)) (P (i + a)) := by
  refine Classical.byContradiction fun hn => ?_
  obtain ⟨l, l0, l1, e⟩ := on_edge (u := P (i + k + 1)) (v := P (i + k + 2)) (w := P (i + k)) (by rw [(crs_cyc (P (i + k)) (P (i + k + 1)) (P (i + k + 2))).1]; exact hpos) (q := P (i + a)) (by have := hT.2.1; grind) hT.2.2 hT.1
  rcases h.sim.corner_side l0 l1 e with h | h
  ·exact mod_ne (n := n) (s := i) (a := a) (b := k + 1) (by omega) (by omega) (by omega) h
  ·exact mod_ne (n := n) (s := i) (a := a) (b := k + 2) (by omega) (by omega) (by omega) h
 have hin : In (j - i + 1) (cutP P i j) (P (i + a)) := by
  by_cases h4 : 4 ≤ j - i + 1
  ·refine he.ins hQ h4 ?_ ?_ ?_
   ·rw [c0, c1]; exact fz
   ·rw [c1, c2]; exact gz
   ·rw [c2, c0]; exact hT.2.2
  ·have hk0 : k = 0 := by omega
   subst hk0
   have hji : j - i = 2 := by omega
   have hj : j = i + 2 := by omega
   by_cases hz : 0 < crs (P (i + 0 + 2)) (P (i + 0)) (P (i + a))
   ·rw [three_fun hji, hji]
    exact (tri_in hpos _).2 ⟨fz, gz, hz⟩
   ·exfalso
    obtain ⟨l, l0, l1, e⟩ := on_edge (u := P (i + 2)) (v := P i) (w := P (i + 1)) (by rw [(crs_cyc (P i) (P (i + 1)) (P (i + 2))).2]; exact hpos) (q := P (i + a)) (by have := hT.2.2; simp only [Nat.add_zero] at this hz; grind) (by have := hT.1; simpa using this) (by have := hT.2.1; simpa using this)
    have ln0 : l ≠ 0 := fun h0 => by
     rw [h0, at0] at e
     exact h.sim.corner_ne (mod_ne (n := n) (s := i) (a := a) (b := 2) (by omega) (by omega) (by omega)) e
    have ln1 : l ≠ 1 := fun h1 => by
     rw [h1, at1] at e
     exact h.sim.corner_ne (x := i + a) (y := i) (by have := mod_ne (n := n) (s := i) (a := a) (b := 0) (by omega) (by omega) (by omega); simpa using this) e
    have hi := (hd.ins l (by grind) (by grind)).1
    rw [hj, ← e] at hi
    have := (Off.mod h.sim).1 hi (i + a) 0 (by grind) (by grind)
    rw [at0] at this
    exact this rfl
 obtain ⟨e, e0, hnear⟩ := hin.near hQ.sim
 have hb : i + a - j < i + n - j + 1 := by omega
 obtain ⟨q, hq, hqi⟩ := hR.border_in hb (l := 0) (by grind) (by grind) e0
 rw [at0, cut_at (by omega), show j + (i + a - j) = i + a by omega] at hq
 have hq1 := hnear q hq
 have hw := cut_wind h.sim (i := i) (j := j) (by omega) (by omega) q
 rw [hq1.2, hqi.2] at hw
 have hoff : Off n P q := by
  rw [Off.mod h.sim]
  intro m l l0 l1 e
  obtain ⟨c, hc, hec⟩ : ∃ c, c < n ∧ m % n = (i + c) % n := by
   refine ⟨(m + (n - i % n)) % n, Nat.mod_lt _ (by omega), ?_⟩
   have hi := Nat.mod_lt i (show 0 < n by omega)
   rw [Nat.add_mod_mod, ← Nat.mod_add_mod, show i % n + (m + (n - i % n)) = m + n by omega, Nat.add_mod_right]
  have e1 := h.sim.pmod hec
  have e2 : P (m + 1) = P (i + c + 1) := h.sim.pmod (by rw [← Nat.mod_add_mod, hec, Nat.mod_add_mod])
  rw [e1, e2] at e
  by_cases hcj : c < j - i
  ·have := hq1.1 c l (by omega) l0 l1
   rw [(cut_side hcj).1, (cut_side hcj).2] at this
   exact this e
  ·have hlt : i + c - j < i + n - j := by omega
   have := hqi.1 (i + c - j) l (by omega) l0 l1
   rw [(cut_side hlt).1, (cut_side hlt).2, show j + (i + c - j) = i + c by omega] at this
   exact this e
 rcases h.sim.wind_two hoff with e | e
 ·rw [e, h.one] at hw; omega
 ·rw [e, h.one] at hw; omega
end Geo
end Go.Proofs.Ytfcjeejhdklkdaa
namespace Go.Proofs.Ytfcjeejhdklkdaa
open Go Go.RowKit Go.Shelf
theorem storeH {P : Program} {ops : Array Oper} {Q : Exit → Act → World → Prop} {md : Region.Mode} {S : World → Prop} (i : Nat) {op : Oper} {fuel : Nat} {listed : Array Bool} {a : Act} {w : World} (ty : TypeId) (e f : Operand) (b o : Nat) (cells : Array Value)
  (hr : Region.ready md ops listed = [i]) (ho : ops[i]? = some op) (hst : op.op = .store ty e f) (hw : Region.wanted op (yielded ops a.tmps) = true)
  (hx : a.eval e = .pointer (some ⟨b, o, none⟩)) (hy : a.eval f = .agg cells) (ht : w.there b o cells.size) (hi : (P.info? ty).map (·.size) = some cells.size) (h1 : cells.all (·.oneCell') = true)
  (hS : S (w.setCells b o cells.toList)) (h : S (w.setCells b o cells.toList) → wpAnyH P md ops Q S fuel (listed.setIfInBounds i true) (a.put op.dst undef) (w.setCells b o cells.toList)) : wpAnyH P md ops Q S (fuel + 1) listed a w :=
 wpAnyH_ready (rs := [i]) hr (by simp) (AllReadyH.cons ho (fun K hK => by
  rw [if_pos hw]
  exact wp_store_mid ty e f hst b o cells hx hy ht hi h1 (hK.out _ _ hS h)) AllReadyH.nil)
theorem BoxAt.asideC {W : World} {B b : Nat} {cs vs : List Value} (h : BoxAt W B cs) (hne : B ≠ b) : BoxAt (W.setCells b 0 vs) B cs :=
 h.grown (grown_setCells b vs 0 W) (fun e => hne (by cases e; rfl))
theorem newBox {w W : World} {cs : Array Value} {t : TypeId} (_ : Sx w [] (W.alloc (.cells cs t))) : BoxAt (W.alloc (.cells cs t)) W.heap.size cs.toList := BoxAt.new W cs t
theorem oldBox {w W : World} {o : Obj} {B : Nat} {cs : List Value} (_ : Sx w [] (W.alloc o)) (h : BoxAt W B cs) : BoxAt (W.alloc o) B cs := h.alloc o
theorem ltBox {w W : World} {o : Obj} (h : Sx w [] W) (_ : Sx w [] (W.alloc o)) : w.heap.size ≤ W.heap.size := h.bel.size
theorem storeP {P : Program} {ops : Array Oper} {Q : Exit → Act → World → Prop} {md : Region.Mode} {w W : World} {L : List (Nat × Nat × Value)} (i : Nat) (ty : TypeId) (e f : Operand) (b : Nat) {cs : List Value} (vs : List Value) {b1 b2 : Nat} {c1 c2 : List Value} {op : Oper} {fuel : Nat} {listed l' : Array Bool} {a a' : Act}
  (hb : w.heap.size ≤ b) (hL : ∀ x ∈ L, x.1 < w.heap.size) (hS : Sx w L W) (x : Hid (BoxAt W b cs)) (hl : vs.length = cs.length) (y1 : Hid (BoxAt W b1 c1)) (n1 : b1 ≠ b) (y2 : Hid (BoxAt W b2 c2)) (n2 : b2 ≠ b)
  (h : ∀ W', Sx w L W' → Hid (BoxAt W' b vs) → Hid (BoxAt W' b1 c1) → Hid (BoxAt W' b2 c2) → wpAnyH P md ops Q (Sx w L) fuel l' a' W')
  (ho : ops[i]? = some op := by exact rfl) (hst : op.op = .store ty e f := by exact rfl) (hr : Region.ready md ops listed = [i] := by decide +kernel) (hw : Region.wanted op (yielded ops a.tmps) = true := by kernel_rfl)
  (hx : a.eval e = .pointer (some ⟨b, 0, none⟩) := by rfl) (hy : a.eval f = .agg vs.toArray := by rfl) (hi : (P.info? ty).map (·.size) = some vs.toArray.size := by kernel_rfl) (h1 : vs.toArray.all (·.oneCell') = true := by kernel_rfl)
  (ha : a.put op.dst undef = a' := by ((try simp only [Act.put, List.setIfInBounds_toArray, List.set_cons_zero, List.set_cons_succ]); exact rfl))
  (hl' : listed.setIfInBounds i true = l' := by ((try simp only [List.setIfInBounds_toArray, List.set_cons_zero, List.set_cons_succ]); exact rfl)) : wpAnyH P md ops Q (Sx w L) (fuel + 1) listed a W := by
 have hS2 : Sx w L (W.setCells b 0 vs) := ⟨fun x hx => (World.cell?_of_block (a := ⟨x.1, x.2.1, none⟩) ((grown_setCells b vs 0 W).block x.1 (Nat.lt_of_lt_of_le (hL x hx) hS.bel.size) (fun e => by have := hL x hx; have := Option.some.inj e; omega))).trans (hS.cs x hx), below_of_grownB hS.bel (grown_setCells b vs 0 W) hb⟩
 refine storeH i ty e f b 0 vs.toArray hr ho hst hw hx hy ?_ hi h1 hS2 (fun h2 => ?_)
 ·have := x.out.there
  rw [← hl] at this
  exact this
 ·rw [ha, hl']
  exact h _ h2 (x.out.put vs hl) (y1.out.asideC n1) (y2.out.asideC n2)
end Go.Proofs.Ytfcjeejhdklkdaa
namespace Go.Proofs.Ytfcjeejhdklkdaa
open Go Go.RowKit Go.Shelf
theorem OwnL.blk {w : World} {B m n c : Nat} {E : TypeId} {A : Option Addr} {rows : List (List Value)} (h : OwnL w B E m (.slice A n c) rows) : ∀ ad, A = some ad → B ≤ ad.block ∧ ad.block < w.heap.size := fun ad e => by
 subst e
 exact OwnL.lt h ad.block rfl
end Go.Proofs.Ytfcjeejhdklkdaa
namespace Go.Proofs.Ytfcjeejhdklkdaa
open Go Go.RowKit Go.Shelf
theorem crossesR_any (s t : Sd) (w : World) (hs : SmS s) (ht : SmS t) : Calls Try.prog 69 #[.agg #[.int .i64 s.a.x, .int .i64 s.a.y, .int .i64 s.b.x, .int .i64 s.b.y], .agg #[.int .i64 t.a.x, .int .i64 t.a.y, .int .i64 t.b.x, .int .i64 t.b.y]] w fun e w' => e = .returned (.bool (Cal.crosS s t)) ∧ Below w.heap.size w w' := by
 obtain ⟨b0, b1, b2, b3, b4, b5⟩ := trn_box s t.a t.b
 obtain ⟨d0, d1, d2, d3, d4, d5⟩ := trn_box t s.a s.b
 have w1 : IntKind.i64.wrap (Cal.trn s t.a * Cal.trn s t.b) = Cal.trn s t.a * Cal.trn s t.b := wrap_small (by omega) (by omega)
 have w2 : IntKind.i64.wrap (Cal.trn t s.a * Cal.trn t s.b) = Cal.trn t s.a * Cal.trn t s.b := wrap_small (by omega) (by omega)
 clear b0 b1 b2 b3 b4 b5 d0 d1 d2 d3 d4 d5
 have g1 := Lib.hid (fun W => crossR_any s.a s.b t.a W hs.a hs.b ht.a)
 have g2 := Lib.hid (fun W => crossR_any s.a s.b t.b W hs.a hs.b ht.b)
 have g3 := Lib.hid (fun W => crossR_any t.a t.b s.a W ht.a ht.b hs.a)
 have g4 := Lib.hid (fun W => crossR_any t.a t.b s.b W ht.a ht.b hs.b)
 have k1 : Hid (∀ W, Calls Try.prog 96 #[.int .i64 (Cal.crs ⟨s.a, s.b⟩ t.a)] W fun e w' => e = .returned (.int .i64 (Cal.trn s t.a)) ∧ Below W.heap.size W w') := fun W => signR_any _ W
 have k2 : Hid (∀ W, Calls Try.prog 96 #[.int .i64 (Cal.crs ⟨s.a, s.b⟩ t.b)] W fun e w' => e = .returned (.int .i64 (Cal.trn s t.b)) ∧ Below W.heap.size W w') := fun W => signR_any _ W
 have k3 : Hid (∀ W, Calls Try.prog 96 #[.int .i64 (Cal.crs ⟨t.a, t.b⟩ s.a)] W fun e w' => e = .returned (.int .i64 (Cal.trn t s.a)) ∧ Below W.heap.size W w') := fun W => signR_any _ W
 have k4 : Hid (∀ W, Calls Try.prog 96 #[.int .i64 (Cal.crs ⟨t.a, t.b⟩ s.b)] W fun e w' => e = .returned (.int .i64 (Cal.trn t s.b)) ∧ Below W.heap.size W w') := fun W => signR_any _ W
 by_cases h : Cal.trn s t.a * Cal.trn s t.b < 0
 ·have hf : Hid (Cal.crosS s t = decide (Cal.trn t s.a * Cal.trn t s.b < 0)) := by show _ = _; unfold Cal.crosS; rw [decide_eq_true h, Bool.true_and]
  have hd := decide_eq_true h
  go_enter Try.func69, Try.ntmps69
  go_wp2_with fail
  refine wp_region_held_drew (S := Sx w [(w.heap.size, 0, .int .i64 s.a.x), (w.heap.size, 1, .int .i64 s.a.y), (w.heap.size, 2, .int .i64 s.b.x), (w.heap.size, 3, .int .i64 s.b.y), (w.heap.size + 1, 0, .int .i64 t.a.x), (w.heap.size + 1, 1, .int .i64 t.a.y), (w.heap.size + 1, 2, .int .i64 t.b.x), (w.heap.size + 1, 3, .int .i64 t.b.y)]) (by kernel_rfl) ⟨by simp [cs_iff_cons, cs_nil], blw⟩ (fun hHeld => ?_)
  refine tkHx 0 5 ?_
  refine tkHx 1 6 ?_
  refine tkHx 2 7 ?_
  refine tkHx 3 8 ?_
  refine tkHx 4 9 ?_
  refine tkHx 5 10 ?_
  refine tkHx 8 13 ?_
  refine tkHx 9 14 ?_
  refine tkHx 10 15 ?_
  refine tkHx 11 16 ?_
  refine tkHx 12 17 ?_
  refine tkHx 13 18 ?_
  (refine ratHx 6 (fun K hK => ?_); go_simp)
  refine (g1.out _).mono ?_
  rintro e wn ⟨rfl, hbn⟩
  go_simp
  (refine hK.out _ _ (hHeld.step hbn) (fun hHeld => ?_); clear hK K; (try simp only [apS, apN, siA, scZ, scS]))
  (refine ratHx 7 (fun K hK => ?_); go_simp)
  refine (k1.out _).mono ?_
  rintro e wn ⟨rfl, hbn⟩
  go_simp
  (refine hK.out _ _ (hHeld.step hbn) (fun hHeld => ?_); clear hK K; (try simp only [apS, apN, siA, scZ, scS]))
  (refine ratHx 14 (fun K hK => ?_); go_simp)
  refine (g2.out _).mono ?_
  rintro e wn ⟨rfl, hbn⟩
  go_simp
  (refine hK.out _ _ (hHeld.step hbn) (fun hHeld => ?_); clear hK K; (try simp only [apS, apN, siA, scZ, scS]))
  (refine ratHx 15 (fun K hK => ?_); go_simp)
  refine (k2.out _).mono ?_
  rintro e wn ⟨rfl, hbn⟩
  go_simp
  (refine hK.out _ _ (hHeld.step hbn) (fun hHeld => ?_); clear hK K; (try simp only [apS, apN, siA, scZ, scS]))
  refine tkHx 16 21 ?_
  refine tkHx 17 22 ?_
  refine tkHx 18 23 ?_
  refine tkHx 19 24 ?_
  refine tkHx 20 25 ?_
  refine tkHx 21 26 ?_
  refine tkHx 22 27 ?_
  refine tkHx 23 28 ?_
  refine tkHx 24 29 ?_
  refine tkHx 27 32 ?_
  refine tkHx 28 33 ?_
  refine tkHx 29 34 ?_
  refine tkHx 30 35 ?_
  refine tkHx 31 36 ?_
  refine tkHx 32 37 ?_
  (refine ratHx 25 (fun K hK => ?_); go_simp)
  refine (g3.out _).mono ?_
  rintro e wn ⟨rfl, hbn⟩
  go_simp
  (refine hK.out _ _ (hHeld.step hbn) (fun hHeld => ?_); clear hK K; (try simp only [apS, apN, siA, scZ, scS]))
  (refine ratHx 26 (fun K hK => ?_); go_simp)
  refine (k3.out _).mono ?_
  rintro e wn ⟨rfl, hbn⟩
  go_simp
  (refine hK.out _ _ (hHeld.step hbn) (fun hHeld => ?_); clear hK K; (try simp only [apS, apN, siA, scZ, scS]))
  (refine ratHx 33 (fun K hK => ?_); go_simp)
  refine (g4.out _).mono ?_
  rintro e wn ⟨rfl, hbn⟩
  go_simp
  (refine hK.out _ _ (hHeld.step hbn) (fun hHeld => ?_); clear hK K; (try simp only [apS, apN, siA, scZ, scS]))
  (refine ratHx 34 (fun K hK => ?_); go_simp)
  refine (k4.out _).mono ?_
  rintro e wn ⟨rfl, hbn⟩
  go_simp
  (refine hK.out _ _ (hHeld.step hbn) (fun hHeld => ?_); clear hK K; (try simp only [apS, apN, siA, scZ, scS]))
  refine tkHx 35 40 ?_
  refine tkHx 36 41 ?_
  refine tkHx 37 42 ?_
  refine tkHx 38 4 ?_
  refine wpAnyH_done (by kernel_rfl) ?_ _
  go_wp2_with fail
  go_ret
  exact ⟨ret_bool hf.out.symm, hHeld.bel⟩
 ·have hf : Hid (Cal.crosS s t = false) := by show _ = _; unfold Cal.crosS; rw [decide_eq_false h, Bool.false_and]
  have hd := decide_eq_false h
  go_enter Try.func69, Try.ntmps69
  go_wp2_with fail
  refine wp_region_held_drew (S := Sx w [(w.heap.size, 0, .int .i64 s.a.x), (w.heap.size, 1, .int .i64 s.a.y), (w.heap.size, 2, .int .i64 s.b.x), (w.heap.size, 3, .int .i64 s.b.y), (w.heap.size + 1, 0, .int .i64 t.a.x), (w.heap.size + 1, 1, .int .i64 t.a.y), (w.heap.size + 1, 2, .int .i64 t.b.x), (w.heap.size + 1, 3, .int .i64 t.b.y)]) (by kernel_rfl) ⟨by simp [cs_iff_cons, cs_nil], blw⟩ (fun hHeld => ?_)
  refine tkHx 0 5 ?_
  refine tkHx 1 6 ?_
  refine tkHx 2 7 ?_
  refine tkHx 3 8 ?_
  refine tkHx 4 9 ?_
  refine tkHx 5 10 ?_
  refine tkHx 8 13 ?_
  refine tkHx 9 14 ?_
  refine tkHx 10 15 ?_
  refine tkHx 11 16 ?_
  refine tkHx 12 17 ?_
  refine tkHx 13 18 ?_
  (refine ratHx 6 (fun K hK => ?_); go_simp)
  refine (g1.out _).mono ?_
  rintro e wn ⟨rfl, hbn⟩
  go_simp
  (refine hK.out _ _ (hHeld.step hbn) (fun hHeld => ?_); clear hK K; (try simp only [apS, apN, siA, scZ, scS]))
  (refine ratHx 7 (fun K hK => ?_); go_simp)
  refine (k1.out _).mono ?_
  rintro e wn ⟨rfl, hbn⟩
  go_simp
  (refine hK.out _ _ (hHeld.step hbn) (fun hHeld => ?_); clear hK K; (try simp only [apS, apN, siA, scZ, scS]))
  (refine ratHx 14 (fun K hK => ?_); go_simp)
  refine (g2.out _).mono ?_
  rintro e wn ⟨rfl, hbn⟩
  go_simp
  (refine hK.out _ _ (hHeld.step hbn) (fun hHeld => ?_); clear hK K; (try simp only [apS, apN, siA, scZ, scS]))
  (refine ratHx 15 (fun K hK => ?_); go_simp)
  refine (k2.out _).mono ?_
  rintro e wn ⟨rfl, hbn⟩
  go_simp
  (refine hK.out _ _ (hHeld.step hbn) (fun hHeld => ?_); clear hK K; (try simp only [apS, apN, siA, scZ, scS]))
  refine tkHx 16 21 ?_
  refine tkHx 17 22 ?_
  refine tkHx 18 23 ?_
  refine tkFx 19 24 ?_
  refine tkFx 20 25 ?_
  refine tkFx 21 26 ?_
  refine tkFx 22 27 ?_
  refine tkFx 23 28 ?_
  refine tkFx 24 29 ?_
  refine tkFx 25 30 ?_
  refine tkFx 26 31 ?_
  refine tkFx 27 32 ?_
  refine tkFx 28 33 ?_
  refine tkFx 29 34 ?_
  refine tkFx 30 35 ?_
  refine tkFx 31 36 ?_
  refine tkFx 32 37 ?_
  refine tkFx 33 38 ?_
  refine tkFx 34 39 ?_
  refine tkFx 35 40 ?_
  refine tkFx 36 41 ?_
  refine tkHx 37 42 ?_
  refine tkHx 38 4 ?_
  refine wpAnyH_done (by kernel_rfl) ?_ _
  go_wp2_with fail
  go_ret
  exact ⟨ret_bool hf.out.symm, hHeld.bel⟩
end Go.Proofs.Ytfcjeejhdklkdaa
namespace Go.Proofs.Ytfcjeejhdklkdaa
open Go Go.RowKit Go.Shelf
theorem DoubleR_any (V : Option Addr) (d : Nat) (ps : List Pt) (w : World) (hP : Pts w V ps) (hl : ps.length ≤ 40) : Calls Try.prog 35 #[.slice V ps.length d] w fun e w' => e = .returned (.int .i64 (Cal.areaP ps)) ∧ Below w.heap.size w w' := by
 have hPR : Hid (PtsR w V ps) := ⟨hP.rows, hP.size, hP.own⟩
 have hbox := Lib.hid (fun k hk => areaTo_box hP k hk)
 have hsm := Lib.hid (fun k hk => hP.sd k hk)
 have hb0 : Hid (Below w.heap.size w w) := Below.refl _ _
 have h00 : Hid (Cal.areaTo ps 0 = 0) := rfl
 unfold Cal.areaP
 clear hP
 go_enter Try.func35, Try.ntmps35
 go_wp2_with fail
 go_loopw [3, 4] (fun n i wr => ∃ k : Nat, k ≤ ps.length ∧ i = .int .i64 k ∧ n = .int .i64 (Cal.areaTo ps k) ∧ Hid (Below w.heap.size w wr)) (fun _ i _ => ps.length - (intOf i).toNat)
 case atStart => exact ⟨0, Nat.zero_le _, rfl, rfl, hb0⟩
 case round =>
  clear hb0
  obtain ⟨k, hk, rfl, rfl, hb⟩ := hrel
  by_cases hlt : k < ps.length
  ·have hs : SmS (Cal.sd ps k) := hsm.out k hlt
   have b1 := hbox.out k hk
   have b2 := hbox.out (k + 1) hlt
   have hst : Hid (Cal.areaTo ps (k + 1) = Cal.areaTo ps k + ((Cal.sd ps k).a.x * (Cal.sd ps k).b.y - (Cal.sd ps k).a.y * (Cal.sd ps k).b.x)) := rfl
   have hsd := Lib.hid (fun W hW => sideR_any V d ps k W (hPR.out.below hW) hlt (by omega))
   generalize Cal.areaTo ps k = acc at *
   generalize Cal.sd ps k = s at *
   have m1 := mul_le_of (a := s.a.x) (b := s.b.y) (M := 1000000) (N := 1000000) hs.a.x0 hs.a.x1 hs.b.y0 hs.b.y1
   have m2 := mul_le_of (a := s.a.y) (b := s.b.x) (M := 1000000) (N := 1000000) hs.a.y0 hs.a.y1 hs.b.x0 hs.b.x1
   have q1 : IntKind.i64.wrap (s.a.x * s.b.y) = s.a.x * s.b.y := wrap_small (by omega) (by omega)
   have q2 : IntKind.i64.wrap (s.a.y * s.b.x) = s.a.y * s.b.x := wrap_small (by omega) (by omega)
   have q3 : IntKind.i64.wrap (acc + s.a.x * s.b.y) = acc + s.a.x * s.b.y := wrap_small (by omega) (by omega)
   have q4 : IntKind.i64.wrap (acc + s.a.x * s.b.y - s.a.y * s.b.x) = acc + s.a.x * s.b.y - s.a.y * s.b.x := wrap_small (by omega) (by omega)
   have he : Hid (acc + s.a.x * s.b.y - s.a.y * s.b.x = Cal.areaTo ps (k + 1)) := by
    show _ = _
    rw [hst.out]; omega
   clear m1 m2 b1 b2 hst hs
   go_wp2_with (go_at_call 67; refine (hsd.out _ hb.out).mono ?_; rintro e w1 ⟨rfl, hb1⟩; have hb2 := Lib.hid (below_step (below_step hb.out hb1) (below_alloc w1 (.cells #[.int .i64 s.a.x, .int .i64 s.a.y, .int .i64 s.b.x, .int .i64 s.b.y] 97))); clear hb1)
   go_roundw
   case rel => exact ⟨k + 1, hlt, by go_num, by rw [he.out], hb2⟩
   case measure => simp [intOf]; omega
  ·have hke : k = ps.length := by omega
   subst hke
   go_wp2_with fail
   go_ret
   exact ⟨rfl, hb.out⟩
end Go.Proofs.Ytfcjeejhdklkdaa
