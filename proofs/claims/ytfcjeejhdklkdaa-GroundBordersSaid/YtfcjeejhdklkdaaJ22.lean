/- What the statements rest on: definitions and walks, part 22. -/
import Derived.Test.YtfcjeejhdklkdaaJ21
set_option maxRecDepth 100000
set_option maxHeartbeats 16000000
set_option linter.unusedSimpArgs false
set_option linter.unusedVariables false
namespace Go.Proofs.Ytfcjeejhdklkdaa
namespace Geo
structure Pos (n : Nat) (P : Nat → RP) : Prop where
 sim : Simple n P
 one : lam n P 0 = 1
def In (n : Nat) (P : Nat → RP) (q : RP) : Prop := Off n P q ∧ wind n P q = 1
def Out (n : Nat) (P : Nat → RP) (q : RP) : Prop := Off n P q ∧ wind n P q = 0
theorem Near.self {e : Rat} (h : 0 < e) (q : RP) : Near e q q := by unfold Near; grind
theorem left_pt {a b x : RP} (hne : a ≠ b) (hx : crs a b x = 0) {z : Rat} (hz : Sign z) {e : Rat} (he : 0 < e) : ∃ q, Near e x q ∧ 0 < z * crs a b q := by
 obtain ⟨s, s0, sh, hs, _⟩ := small_part x ⟨-(z * (b.y - a.y)), z * (b.x - a.x)⟩ ⟨0, 0⟩ he
 dsimp only at hs
 refine ⟨_, hs, ?_⟩
 have zz : z * z = 1 := by rcases hz with e | e <;> (subst e; grind)
 have hsq : 0 < (b.x - a.x) * (b.x - a.x) + (b.y - a.y) * (b.y - a.y) := by
  have s1 := sq0 (b.x - a.x)
  have s2 := sq0 (b.y - a.y)
  refine Rat.not_le.1 fun hz => hne ?_
  have z1 : (b.x - a.x) * (b.x - a.x) = 0 := by grind
  have z2 : (b.y - a.y) * (b.y - a.y) = 0 := by grind
  have z1 : b.x - a.x = 0 := by rcases Rat.mul_eq_zero.1 z1 with z | z <;> exact z
  have z2 : b.y - a.y = 0 := by rcases Rat.mul_eq_zero.1 z2 with z | z <;> exact z
  cases a; cases b
  rw [RP.mk.injEq]
  constructor <;> grind
 have hp := mul_pp s0 hsq
 have : z * crs a b ⟨x.x + s * -(z * (b.y - a.y)), x.y + s * (z * (b.x - a.x))⟩ = z * crs a b x + (z * z) * (s * ((b.x - a.x) * (b.x - a.x) + (b.y - a.y) * (b.y - a.y))) := by
  unfold crs; dsimp only; grind
 rw [this, zz, hx]
 grind
theorem two_left {a b c d x : RP} (hne : (b.x - a.x) * (d.y - c.y) - (b.y - a.y) * (d.x - c.x) ≠ 0) (hx : crs a b x = 0) (hy : crs c d x = 0) {z y : Rat} (hz : Sign z) (hw : Sign y) {e : Rat} (he : 0 < e) :
  ∃ q, Near e x q ∧ 0 < z * crs a b q ∧ 0 < y * crs c d q := by
 obtain ⟨D, hD⟩ : ∃ D, (b.x - a.x) * (d.y - c.y) - (b.y - a.y) * (d.x - c.x) = D := ⟨_, rfl⟩
 rw [hD] at hne
 obtain ⟨g, hg, hgD⟩ : ∃ g : Rat, Sign g ∧ 0 < g * D := by
  rcases Std.lt_trichotomy D 0 with h | h | h
  ·exact ⟨-1, .inr rfl, by grind⟩
  ·exact absurd h hne
  ·exact ⟨1, .inl rfl, by grind⟩
 obtain ⟨s, s0, sh, hs, _⟩ := small_part x ⟨z * g * (d.x - c.x) - y * g * (b.x - a.x), z * g * (d.y - c.y) - y * g * (b.y - a.y)⟩ ⟨0, 0⟩ he
 dsimp only at hs
 refine ⟨_, hs, ?_, ?_⟩
 ·have zz : z * z = 1 := by rcases hz with e | e <;> (subst e; grind)
  have : z * crs a b ⟨x.x + s * (z * g * (d.x - c.x) - y * g * (b.x - a.x)), x.y + s * (z * g * (d.y - c.y) - y * g * (b.y - a.y))⟩ = z * crs a b x + (z * z) * (s * (g * ((b.x - a.x) * (d.y - c.y) - (b.y - a.y) * (d.x - c.x)))) := by
   unfold crs; dsimp only; grind
  rw [this, zz, hx, hD]
  have := mul_pp s0 hgD
  grind
 ·have zz : y * y = 1 := by rcases hw with e | e <;> (subst e; grind)
  have : y * crs c d ⟨x.x + s * (z * g * (d.x - c.x) - y * g * (b.x - a.x)), x.y + s * (z * g * (d.y - c.y) - y * g * (b.y - a.y))⟩ = y * crs c d x + (y * y) * (s * (g * ((b.x - a.x) * (d.y - c.y) - (b.y - a.y) * (d.x - c.x)))) := by
   unfold crs; dsimp only; grind
  rw [this, zz, hy, hD]
  have := mul_pp s0 hgD
  grind
section
variable {n m : Nat} {P Q : Nat → RP}
theorem Simple.off_ball (h : Simple n P) {q : RP} (hq : Off n P q) : ∃ e : Rat, 0 < e ∧ ∀ r s, Near e q r → Near e q s → Free n P r s := by
 obtain ⟨e, e0, he⟩ := near_all (n := n) (b := q) (p := fun k r => ∀ l : Rat, 0 ≤ l → l ≤ 1 → r ≠ at' (P k) (P (k + 1)) l) (fun k hk => near_off (h.ne k) (fun l l0 l1 e => hq k l hk l0 l1 e))
 exact ⟨e, e0, fun r s hr hs k hk l m l0 l1 m0 m1 eq => he _ (hr.seg hs m0 m1) k hk l l0 l1 eq.symm⟩
theorem Simple.off_near (h : Simple n P) {q : RP} (hq : Off n P q) : ∃ e : Rat, 0 < e ∧ ∀ r, Near e q r → Off n P r ∧ wind n P r = wind n P q := by
 obtain ⟨e, e0, he⟩ := h.off_ball hq
 refine ⟨e, e0, fun r hr => ?_⟩
 have := he q r (Near.self e0 q) hr
 exact ⟨this.off.2, (wind_move h.close this).symm⟩
theorem Pos.two (h : Pos n P) {q : RP} (hq : Off n P q) : In n P q ∨ Out n P q := by
 rcases h.sim.wind_two hq with e | e
 ·exact .inl ⟨hq, by rw [e, h.one]⟩
 ·exact .inr ⟨hq, by rw [e, h.one]; rfl⟩
theorem In.not_out {q : RP} (h : In n P q) (k : Out n P q) : False := by have := h.2; have := k.2; omega
theorem In.near {q : RP} (h : In n P q) (hs : Simple n P) : ∃ e : Rat, 0 < e ∧ ∀ r, Near e q r → In n P r := by
 obtain ⟨e, e0, he⟩ := hs.off_near h.1
 exact ⟨e, e0, fun r hr => ⟨(he r hr).1, (he r hr).2.trans h.2⟩⟩
theorem Out.near {q : RP} (h : Out n P q) (hs : Simple n P) : ∃ e : Rat, 0 < e ∧ ∀ r, Near e q r → Out n P r := by
 obtain ⟨e, e0, he⟩ := hs.off_near h.1
 exact ⟨e, e0, fun r hr => ⟨(he r hr).1, (he r hr).2.trans h.2⟩⟩
theorem Sees.off {z : Rat} {i : Nat} {q : RP} (h : Sees n P z i q) : Off n P q := fun k l hk l0 l1 e => by
 obtain ⟨t, t0, t1, hc, ha⟩ := h
 by_cases hki : k = i
 ·subst hki
  rw [e, crs_at] at hc
  grind
 ·exact ha k hk hki l 0 l0 l1 (by grind) (by grind) (by rw [at0]; exact e.symm)
theorem Pos.side_near (h : Pos n P) {i : Nat} (hi : i < n) {t : Rat} (t0 : 0 < t) (t1 : t < 1) :
  ∃ e : Rat, 0 < e ∧ ∀ q, Near e (at' (P i) (P (i + 1)) t) q → (0 < crs (P i) (P (i + 1)) q → In n P q) ∧ (crs (P i) (P (i + 1)) q < 0 → Out n P q) := by
 obtain ⟨e, e0, he⟩ := near_all (n := n) (b := at' (P i) (P (i + 1)) t) (p := fun k r => k ≠ i → ∀ l : Rat, 0 ≤ l → l ≤ 1 → r ≠ at' (P k) (P (k + 1)) l) (fun k hk => by
  by_cases hki : k = i
  ·exact ⟨1, by grind, fun _ _ h => absurd hki h⟩
  ·obtain ⟨e, e0, he⟩ := near_off (h.sim.ne k) (b := at' (P i) (P (i + 1)) t) (fun l l0 l1 => h.sim.open_off hi hk (Ne.symm hki) t0 t1 l0 l1)
   exact ⟨e, e0, fun q hq _ => he q hq⟩)
 have see : ∀ z : Rat, ∀ q, Near e (at' (P i) (P (i + 1)) t) q → 0 < z * crs (P i) (P (i + 1)) q → Sees n P z i q := fun z q hq hc =>
  ⟨t, t0, t1, hc, fun k hk hki l m l0 l1 m0 m1 eq => he _ (hq.seg (Near.self e0 _) m0 m1) k hk hki l l0 l1 eq.symm⟩
 refine ⟨e, e0, fun q hq => ⟨fun hc => ?_, fun hc => ?_⟩⟩
 ·have hs := see 1 q hq (by grind)
  exact ⟨hs.off, by rw [h.sim.sees_left hi hs, h.one]⟩
 ·have hs := see (-1) q hq (by grind)
  exact ⟨hs.off, by rw [h.sim.sees_right hi hs, h.one]; rfl⟩
theorem Pos.border_in (h : Pos n P) {i : Nat} (hi : i < n) {l : Rat} (l0 : 0 ≤ l) (l1 : l ≤ 1) {e : Rat} (he : 0 < e) : ∃ q, Near e (at' (P i) (P (i + 1)) l) q ∧ In n P q := by
 obtain ⟨t, t0, t1, ht⟩ : ∃ t : Rat, 0 < t ∧ t < 1 ∧ Near (e / 2) (at' (P i) (P (i + 1)) l) (at' (P i) (P (i + 1)) t) := by
  obtain ⟨x, x0, xh, hx, _⟩ := near_parts (at' (P i) (P (i + 1)) l) (at' (P i) (P (i + 1)) l) (at' (P i) (P (i + 1)) (1 / 2)) (at' (P i) (P (i + 1)) (1 / 2)) (e := e / 2) (by grind)
  rw [at_at] at hx
  refine ⟨_, ?_, ?_, hx⟩
  ·have := mul_nn (a := 1 - x) (b := l) (by grind) l0; grind
  ·have := mul_nn (a := 1 - x) (b := 1 - l) (by grind) (by grind); grind
 obtain ⟨f, f0, hf⟩ := h.side_near hi t0 t1
 obtain ⟨g, g0, ge, gf⟩ : ∃ g : Rat, 0 < g ∧ g ≤ e / 2 ∧ g ≤ f := by
  rcases Rat.le_total (a := e / 2) (b := f) with h | h
  ·exact ⟨e / 2, by grind, by grind, h⟩
  ·exact ⟨f, f0, h, by grind⟩
 obtain ⟨q, hq, hc⟩ := left_pt (h.sim.ne i) (crs_at _ _ t) (.inl rfl) g0
 refine ⟨q, ?_, (hf q (hq.mono gf)).1 (by grind)⟩
 have := hq.mono ge
 unfold Near at this ht ⊢
 grind
theorem In.free {q : RP} (h : In n P q) (hs : Simple n P) {r : RP} (hf : Free n P q r) : ∀ x : Rat, 0 ≤ x → x ≤ 1 → In n P (at' q r x) := fun x x0 x1 => by
 have hx : Free n P q (at' q r x) := fun k hk => by
  have := apart_part (hf k hk) (x := 0) (y := x) (by grind) (by grind) x0 x1
  rwa [at0] at this
 exact ⟨hx.off.2, (wind_move hs.close hx).symm.trans h.2⟩
theorem Simple.const_in (hP : Simple n P) (hQ : Simple m Q) (hno : ∀ q, In n P q → Off m Q q) {q r : RP} (hq : In n P q) (hr : In n P r) : wind m Q q = wind m Q r := by
 have hc := hP.jordan hq.1 hr.1 (hq.2.trans hr.2.symm)
 refine (hc.keep (fun x => In n P x ∧ wind m Q q = wind m Q x) (fun x y hf hx => ?_) ⟨hq, rfl⟩).2
 have hin := hx.1.free hP hf
 have hy := hin 1 (by grind) (by grind)
 rw [at1] at hy
 refine ⟨hy, hx.2.trans (wind_move hQ.close (Off.free fun z z0 z1 => hno _ (hin z z0 z1)))⟩
def Over (n : Nat) (P : Nat → RP) (m : Nat) (Q : Nat → RP) : Prop := ∃ q, In n P q ∧ In m Q q
theorem Over.symm (h : Over n P m Q) : Over m Q n P := by obtain ⟨q, h1, h2⟩ := h; exact ⟨q, h2, h1⟩
theorem same_in (hP : Pos n P) (hQ : Pos m Q) (h1 : ∀ q, In n P q → Off m Q q) (h2 : ∀ q, In m Q q → Off n P q) (ho : Over n P m Q) (q : RP) : In n P q ↔ In m Q q := by
 obtain ⟨c, c1, c2⟩ := ho
 constructor
 ·intro h
  exact ⟨h1 q h, (hP.sim.const_in hQ.sim h1 h c1).trans c2.2⟩
 ·intro h
  exact ⟨h2 q h, (hQ.sim.const_in hP.sim h2 h c2).trans c1.2⟩
end
end Geo
end Go.Proofs.Ytfcjeejhdklkdaa
namespace Go.Proofs.Ytfcjeejhdklkdaa
namespace Geo
def CrossR (a b c d : RP) : Prop := ((0 < crs a b c ∧ crs a b d < 0) ∨ (crs a b c < 0 ∧ 0 < crs a b d)) ∧ ((0 < crs c d a ∧ crs c d b < 0) ∨ (crs c d a < 0 ∧ 0 < crs c d b))
theorem CrossR.symm {a b c d : RP} (h : CrossR a b c d) : CrossR c d a b := ⟨h.2, h.1⟩
theorem CrossR.meet {a b c d : RP} (h : CrossR a b c d) : ∃ l m : Rat, 0 < l ∧ l < 1 ∧ 0 < m ∧ m < 1 ∧ at' a b l = at' c d m := by
 have hna : ¬ Apart a b c d := by
  rcases h with ⟨h1 | h1, h2 | h2⟩
  ·intro ha
   have s := crs_sum a b c d
   grind
  ·exact meet_of (by grind) (by grind) (by grind) (by grind) (by grind)
  ·intro ha
   refine meet_of (a := b) (b := a) (q := c) (r := d) (by grind) (by grind) ?_ ?_ (by grind) ha.rev
   ·rw [crs_rev]; grind
   ·rw [crs_rev]; grind
  ·intro ha
   have s := crs_sum a b c d
   grind
 have : ∃ l m : Rat, 0 ≤ l ∧ l ≤ 1 ∧ 0 ≤ m ∧ m ≤ 1 ∧ at' a b l = at' c d m := Classical.byContradiction fun hn => hna fun l m l0 l1 m0 m1 e => hn ⟨l, m, l0, l1, m0, m1, e⟩
 obtain ⟨l, m, l0, l1, m0, m1, e⟩ := this
 have c1 := crs_lin a b c d m
 rw [← e, crs_at] at c1
 have c2 := crs_lin c d a b l
 rw [e, crs_at] at c2
 unfold CrossR at h
 have lz : l ≠ 0 := fun z => by subst z; grind
 have lo : l ≠ 1 := fun z => by subst z; grind
 have mz : m ≠ 0 := fun z => by subst z; grind
 have mo : m ≠ 1 := fun z => by subst z; grind
 exact ⟨l, m, by grind, by grind, by grind, by grind, e⟩
theorem CrossR.par {a b c d : RP} (h : CrossR a b c d) : (b.x - a.x) * (d.y - c.y) - (b.y - a.y) * (d.x - c.x) ≠ 0 := fun e => by
 have : crs a b d - crs a b c = (b.x - a.x) * (d.y - c.y) - (b.y - a.y) * (d.x - c.x) := by unfold crs; grind
 rcases h.1 with h | h <;> grind
theorem at_inj {a b : RP} (h : a ≠ b) {l m : Rat} (e : at' a b l = at' a b m) : l = m := by
 unfold at' at e
 rw [RP.mk.injEq] at e
 have e1 : (l - m) * (b.x - a.x) = 0 := by grind
 have e2 : (l - m) * (b.y - a.y) = 0 := by grind
 rcases Rat.mul_eq_zero.1 e1 with h1 | h1
 ·grind
 ·rcases Rat.mul_eq_zero.1 e2 with h2 | h2
  ·grind
  ·refine absurd ?_ h
   cases a; cases b
   rw [RP.mk.injEq]
   constructor <;> grind
theorem par_ex {a b c d : RP} (hab : a ≠ b) (hcd : c ≠ d) (h1 : crs a b c = 0) (h2 : crs a b d = 0) : ∃ k : Rat, k ≠ 0 ∧ (∀ q, crs c d q = k * crs a b q) ∧ ((0 < (b.x - a.x) * (d.x - c.x) + (b.y - a.y) * (d.y - c.y)) ↔ 0 < k) := by
 obtain ⟨x, hx⟩ := line_param hab h1
 obtain ⟨y, hy⟩ := line_param hab h2
 have hsq : 0 < (b.x - a.x) * (b.x - a.x) + (b.y - a.y) * (b.y - a.y) := by
  have s1 := sq0 (b.x - a.x)
  have s2 := sq0 (b.y - a.y)
  refine Rat.not_le.1 fun hz => hab ?_
  have z1 : (b.x - a.x) * (b.x - a.x) = 0 := by grind
  have z2 : (b.y - a.y) * (b.y - a.y) = 0 := by grind
  have z1 : b.x - a.x = 0 := by rcases Rat.mul_eq_zero.1 z1 with z | z <;> exact z
  have z2 : b.y - a.y = 0 := by rcases Rat.mul_eq_zero.1 z2 with z | z <;> exact z
  cases a; cases b
  rw [RP.mk.injEq]
  constructor <;> grind
 refine ⟨y - x, fun e => hcd ?_, fun q => ?_, ?_⟩
 ·rw [hx, hy]; congr 1; grind
 ·rw [hx, hy]; unfold crs at'; dsimp only; grind
 ·have : (b.x - a.x) * (d.x - c.x) + (b.y - a.y) * (d.y - c.y) = (y - x) * ((b.x - a.x) * (b.x - a.x) + (b.y - a.y) * (b.y - a.y)) := by rw [hx, hy]; unfold at'; dsimp only; grind
  rw [this]
  exact ⟨fun h => pos_of_mul hsq h, fun h => mul_pp h hsq⟩
structure Parts (n : Nat) (A : Nat → RP) (m : Nat) (B : Nat → RP) (F : Nat → Rat → Rat → Prop) : Prop where
 rng : ∀ i u v, F i u v → i < n ∧ 0 ≤ u ∧ u < v ∧ v ≤ 1
 clean : ∀ i u v, F i u v → ∀ k, k < m → ∀ t, u < t → t < v → B k ≠ at' (A i) (A (i + 1)) t
 cover : ∀ i t, i < n → 0 < t → t < 1 → (∀ k, k < m → B k ≠ at' (A i) (A (i + 1)) t) → ∃ u v, F i u v ∧ u < t ∧ t < v
def NoCross (n : Nat) (A : Nat → RP) (m : Nat) (B : Nat → RP) : Prop := ∀ i k, i < n → k < m → ¬ CrossR (A i) (A (i + 1)) (B k) (B (k + 1))
theorem NoCross.symm {n m : Nat} {A B : Nat → RP} (h : NoCross n A m B) : NoCross m B n A := fun i k hi hk hc => h k i hk hi hc.symm
section
variable {n m : Nat} {A B : Nat → RP}
theorem part_dich (hA : Simple n A) (hB : Simple m B) (hno : NoCross n A m B) {i : Nat} (hi : i < n) {u v : Rat} (u0 : 0 ≤ u) (v1 : v ≤ 1) (hcl : ∀ k, k < m → ∀ t, u < t → t < v → B k ≠ at' (A i) (A (i + 1)) t) :
  (∃ k, k < m ∧ crs (A i) (A (i + 1)) (B k) = 0 ∧ crs (A i) (A (i + 1)) (B (k + 1)) = 0 ∧ ∀ t, u < t → t < v → ∃ r : Rat, 0 < r ∧ r < 1 ∧ at' (A i) (A (i + 1)) t = at' (B k) (B (k + 1)) r) ∨
  (∀ t, u < t → t < v → Off m B (at' (A i) (A (i + 1)) t)) := by
 by_cases hex : ∃ t, u < t ∧ t < v ∧ ¬ Off m B (at' (A i) (A (i + 1)) t)
 ·refine .inl ?_
  obtain ⟨t, t0, t1, hon⟩ := hex
  have : ∃ k r, k < m ∧ (0 : Rat) ≤ r ∧ r ≤ 1 ∧ at' (A i) (A (i + 1)) t = at' (B k) (B (k + 1)) r := Classical.byContradiction fun hn => hon fun k r hk r0 r1 e => hn ⟨k, r, hk, r0, r1, e⟩
  obtain ⟨k, r, hk, r0, r1, e⟩ := this
  have hm := hB.three
  have cl1 : ∀ t, u < t → t < v → B (k + 1) ≠ at' (A i) (A (i + 1)) t := fun t t0 t1 => by
   have := hcl ((k + 1) % m) (Nat.mod_lt _ (by omega)) t t0 t1
   rwa [hB.mod] at this
  have rz : r ≠ 0 := fun z => by
   subst z
   rw [at0] at e
   exact hcl k hk t t0 t1 e.symm
  have ro : r ≠ 1 := fun z => by
   subst z
   rw [at1] at e
   exact cl1 t t0 t1 e.symm
  have rp : 0 < r := by grind
  have rl : r < 1 := by grind
  have c1 := crs_lin (A i) (A (i + 1)) (B k) (B (k + 1)) r
  rw [← e, crs_at] at c1
  have c2 := crs_lin (B k) (B (k + 1)) (A i) (A (i + 1)) t
  rw [e, crs_at] at c2
  have hcol : crs (A i) (A (i + 1)) (B k) = 0 ∧ crs (A i) (A (i + 1)) (B (k + 1)) = 0 := by
   have opp : ∀ X Y x : Rat, 0 < x → x < 1 → 0 = (1 - x) * X + x * Y → (X = 0 ∧ Y = 0) ∨ (0 < X ∧ Y < 0) ∨ (X < 0 ∧ 0 < Y) := fun X Y x x0 x1 h => by
    rcases Std.lt_trichotomy X 0 with g | g | g
    ·have := mul_pp (a := 1 - x) (b := -X) (by grind) (by grind)
     exact .inr (.inr ⟨g, pos_of_mul x0 (by grind)⟩)
    ·subst g
     have : x * Y = 0 := by grind
     rcases Rat.mul_eq_zero.1 this with z | z
     ·grind
     ·exact .inl ⟨rfl, z⟩
    ·have := mul_pp (a := 1 - x) (b := X) (by grind) g
     have := pos_of_mul (x := -Y) x0 (by grind)
     exact .inr (.inl ⟨g, by grind⟩)
   rcases opp _ _ _ rp rl c1 with g | g
   ·exact g
   ·rcases opp _ _ _ (by grind) (by grind) c2 with g2 | g2
    ·have s := crs_sum (A i) (A (i + 1)) (B k) (B (k + 1))
     grind
    ·exact absurd ⟨g, g2⟩ (hno i k hi hk)
  refine ⟨k, hk, hcol.1, hcol.2, ?_⟩
  obtain ⟨x, hx⟩ := line_param (hA.ne i) hcol.1
  obtain ⟨y, hy⟩ := line_param (hA.ne i) hcol.2
  rw [hx, hy, at_at] at e
  have ht := at_inj (hA.ne i) e
  have gx : x ≤ u ∨ v ≤ x := by
   rcases Rat.le_total (a := x) (b := u) with g | g
   ·exact .inl g
   ·rcases Rat.le_total (a := v) (b := x) with g2 | g2
    ·exact .inr g2
    ·by_cases z : x = u
     ·exact .inl (by grind)
     ·by_cases z2 : x = v
      ·exact .inr (by grind)
      ·exact absurd hx (hcl k hk x (by grind) (by grind))
  have gy : y ≤ u ∨ v ≤ y := by
   rcases Rat.le_total (a := y) (b := u) with g | g
   ·exact .inl g
   ·rcases Rat.le_total (a := v) (b := y) with g2 | g2
    ·exact .inr g2
    ·by_cases z : y = u
     ·exact .inl (by grind)
     ·by_cases z2 : y = v
      ·exact .inr (by grind)
      ·exact absurd hy (cl1 y (by grind) (by grind))
  intro w w0 w1
  have p1 := fun (h : x ≤ u) => mul_nn (a := 1 - r) (b := u - x) (by grind) (by grind)
  have p2 := fun (h : y ≤ u) => mul_nn (a := r) (b := u - y) (by grind) (by grind)
  have p3 := fun (h : v ≤ x) => mul_nn (a := 1 - r) (b := x - v) (by grind) (by grind)
  have p4 := fun (h : v ≤ y) => mul_nn (a := r) (b := y - v) (by grind) (by grind)
  have part : ∀ z : Rat, x + z * (y - x) = w → at' (A i) (A (i + 1)) w = at' (B k) (B (k + 1)) z := fun z hz => by
   rw [hx, hy, at_at, hz]
  rcases gx with gx | gx <;> rcases gy with gy | gy
  ·have := p1 gx; have := p2 gy; grind
  ·have e := Rat.div_mul_cancel (a := w - x) (b := y - x) (by grind)
   refine ⟨(w - x) / (y - x), ?_, ?_, part _ (by grind)⟩
   ·exact pos_of_mul (k := y - x) (by grind) (by grind)
   ·have := pos_of_mul (x := 1 - (w - x) / (y - x)) (k := y - x) (by grind) (by grind)
    grind
  ·have e := Rat.div_mul_cancel (a := x - w) (b := x - y) (by grind)
   refine ⟨(x - w) / (x - y), ?_, ?_, part _ (by grind)⟩
   ·exact pos_of_mul (k := x - y) (by grind) (by grind)
   ·have := pos_of_mul (x := 1 - (x - w) / (x - y)) (k := x - y) (by grind) (by grind)
    grind
  ·have := p3 gx; have := p4 gy; grind
 ·refine .inr fun t t0 t1 => Classical.byContradiction fun h => hex ⟨t, t0, t1, h⟩
theorem part_wind (hB : Simple m B) {i : Nat} {u v : Rat} (hoff : ∀ t, u < t → t < v → Off m B (at' (A i) (A (i + 1)) t)) {s t : Rat} (s0 : u < s) (s1 : s < v) (t0 : u < t) (t1 : t < v) :
  wind m B (at' (A i) (A (i + 1)) s) = wind m B (at' (A i) (A (i + 1)) t) := by
 refine wind_move hB.close (Off.free fun x x0 x1 => ?_)
 rw [at_at]
 refine hoff _ ?_ ?_
 ·have p1 := mul_nn (a := 1 - x) (b := s - u) (by grind) (by grind)
  have p2 := mul_nn (a := x) (b := t - u) x0 (by grind)
  rcases Rat.le_iff_lt_or_eq.1 x0 with hm | hm
  ·have := mul_pp (a := x) (b := t - u) hm (by grind); grind
  ·rw [← hm]; grind
 ·have p1 := mul_nn (a := 1 - x) (b := v - s) (by grind) (by grind)
  have p2 := mul_nn (a := x) (b := v - t) x0 (by grind)
  rcases Rat.le_iff_lt_or_eq.1 x0 with hm | hm
  ·have := mul_pp (a := x) (b := v - t) hm (by grind); grind
  ·rw [← hm]; grind
theorem cross_pts (hA : Pos n A) (hB : Pos m B) {i k : Nat} (hi : i < n) (hk : k < m) (hc : CrossR (A i) (A (i + 1)) (B k) (B (k + 1))) : Over n A m B ∧ ∃ q, In n A q ∧ Out m B q := by
 obtain ⟨l, r, l0, l1, r0, r1, e⟩ := hc.meet
 obtain ⟨e1, e10, h1⟩ := hA.side_near hi l0 l1
 obtain ⟨e2, e20, h2⟩ := hB.side_near hk r0 r1
 rw [← e] at h2
 obtain ⟨g, g0, g1, g2⟩ : ∃ g : Rat, 0 < g ∧ g ≤ e1 ∧ g ≤ e2 := by
  rcases Rat.le_total (a := e1) (b := e2) with h | h
  ·exact ⟨e1, by grind, by grind, h⟩
  ·exact ⟨e2, e20, h, by grind⟩
 have hx := crs_at (A i) (A (i + 1)) l
 have hy := crs_at (B k) (B (k + 1)) r
 rw [← e] at hy
 obtain ⟨q, hq, q1, q2⟩ := two_left hc.par hx hy (z := 1) (y := 1) (.inl rfl) (.inl rfl) g0
 obtain ⟨p, hp, p1, p2⟩ := two_left hc.par hx hy (z := 1) (y := -1) (.inl rfl) (.inr rfl) g0
 exact ⟨⟨q, (h1 q (hq.mono g1)).1 (by grind), (h2 q (hq.mono g2)).1 (by grind)⟩, ⟨p, (h1 p (hp.mono g1)).1 (by grind), (h2 p (hp.mono g2)).2 (by grind)⟩⟩
theorem corner_not_in {k : Nat} (hk : k < n) : ¬ In n A (A k) := fun h => h.1 k 0 hk (by grind) (by grind) (by rw [at0])
theorem inner_near (a b : RP) {l : Rat} (l0 : 0 ≤ l) (l1 : l ≤ 1) {e : Rat} (he : 0 < e) : ∃ t : Rat, 0 < t ∧ t < 1 ∧ Near e (at' a b l) (at' a b t) := by
 obtain ⟨x, x0, xh, hx, _⟩ := near_parts (at' a b l) (at' a b l) (at' a b (1 / 2)) (at' a b (1 / 2)) he
 rw [at_at] at hx
 refine ⟨_, ?_, ?_, hx⟩
 ·have := mul_nn (a := 1 - x) (b := l) (by grind) l0; grind
 ·have := mul_nn (a := 1 - x) (b := 1 - l) (by grind) (by grind); grind
theorem no_enter (hA : Simple n A) (hB : Simple m B) (hno : NoCross n A m B) {F : Nat → Rat → Rat → Prop} (hF : Parts m B n A F) (hmid : ∀ k u v, F k u v → ¬ In n A (at' (B k) (B (k + 1)) ((u + v) / 2))) :
  ∀ q, In n A q → Off m B q := fun q hq k l hk l0 l1 e => by
 obtain ⟨g, g0, hg⟩ := hq.near hA
 obtain ⟨t, t0, t1, ht⟩ := inner_near (B k) (B (k + 1)) l0 l1 g0
 rw [← e] at ht
 have hin := hg _ ht
 obtain ⟨u, v, hf, hu, hv⟩ := hF.cover k t hk t0 t1 (fun j hj e => corner_not_in (A := A) hj (by rw [e]; exact hin))
 obtain ⟨_, u0, huv, v1⟩ := hF.rng k u v hf
 rcases part_dich hB hA hno.symm hk u0 v1 (hF.clean k u v hf) with ⟨j, hj, _, _, h⟩ | h
 ·obtain ⟨r, r0, r1, er⟩ := h t hu hv
  exact hin.1 j r hj (by grind) (by grind) er
 ·refine hmid k u v hf ⟨h _ (by grind) (by grind), ?_⟩
  rw [part_wind hA h (s := (u + v) / 2) (t := t) (by grind) (by grind) hu hv]
  exact hin.2
theorem inner_pt (hA : Simple n A) {i : Nat} : ∃ t : Rat, 0 < t ∧ t < 1 ∧ ∀ k, k < m → B k ≠ at' (A i) (A (i + 1)) t := by
 obtain ⟨e, e0, he⟩ := small_all (n := m) (p := fun k t => B k ≠ at' (A i) (A (i + 1)) t) (fun k _ => by
  by_cases h : ∃ t : Rat, 0 < t ∧ B k = at' (A i) (A (i + 1)) t
  ·obtain ⟨t0, h0, h1⟩ := h
   exact ⟨t0, h0, fun t _ tl e => by
    have := at_inj (hA.ne i) (h1.symm.trans e)
    grind⟩
  ·exact ⟨1, by grind, fun t t0 _ e => h ⟨t, t0, e⟩⟩)
 rcases Rat.le_total (a := e) (b := 1) with h | h
 ·exact ⟨e * (1 / 2), by grind, by grind, he _ (by grind) (by grind)⟩
 ·exact ⟨1 / 2, by grind, by grind, he _ (by grind) (by grind)⟩
def Enters (A : Nat → RP) (m : Nat) (B : Nat → RP) (F : Nat → Rat → Rat → Prop) : Prop :=
 ∃ i u v, F i u v ∧ (In m B (at' (A i) (A (i + 1)) ((u + v) / 2)) ∨ ∃ k r, k < m ∧ (0 : Rat) ≤ r ∧ r ≤ 1 ∧ at' (A i) (A (i + 1)) ((u + v) / 2) = at' (B k) (B (k + 1)) r ∧ 0 < ((A (i + 1)).x - (A i).x) * ((B (k + 1)).x - (B k).x) + ((A (i + 1)).y - (A i).y) * ((B (k + 1)).y - (B k).y))
theorem Enters.over (hA : Pos n A) (hB : Pos m B) {F : Nat → Rat → Rat → Prop} (hF : Parts n A m B F) (hno : NoCross n A m B) (h : Enters A m B F) : Over n A m B := by
 obtain ⟨i, u, v, hf, h⟩ := h
 obtain ⟨hi, u0, huv, v1⟩ := hF.rng i u v hf
 obtain ⟨e1, e10, h1⟩ := hA.side_near hi (t := (u + v) / 2) (by grind) (by grind)
 rcases h with h | ⟨k, r, hk, r0, r1, er, hd⟩
 ·obtain ⟨e2, e20, h2⟩ := h.near hB.sim
  obtain ⟨g, g0, g1, g2⟩ : ∃ g : Rat, 0 < g ∧ g ≤ e1 ∧ g ≤ e2 := by
   rcases Rat.le_total (a := e1) (b := e2) with h | h
   ·exact ⟨e1, by grind, by grind, h⟩
   ·exact ⟨e2, e20, h, by grind⟩
  obtain ⟨q, hq, hc⟩ := left_pt (hA.sim.ne i) (crs_at _ _ ((u + v) / 2)) (.inl rfl) g0
  exact ⟨q, (h1 q (hq.mono g1)).1 (by grind), h2 q (hq.mono g2)⟩
 ·have hcl := hF.clean i u v hf
  have hm := hB.sim.three
  have rz : r ≠ 0 := fun z => by
   subst z
   rw [at0] at er
   exact hcl k hk _ (by grind) (by grind) er.symm
  have ro : r ≠ 1 := fun z => by
   subst z
   rw [at1] at er
   have := hcl ((k + 1) % m) (Nat.mod_lt _ (by omega)) ((u + v) / 2) (by grind) (by grind)
   rw [hB.sim.mod] at this
   exact this er.symm
  rcases part_dich hA.sim hB.sim hno hi u0 v1 hcl with ⟨j, hj, c1, c2, h⟩ | h
  ·obtain ⟨s, s0, s1, es⟩ := h ((u + v) / 2) (by grind) (by grind)
   have hjk : j = k := Classical.byContradiction fun hne => hB.sim.open_off hj hk hne s0 s1 r0 r1 (es.symm.trans er)
   subst hjk
   obtain ⟨x, x0, hx, hxd⟩ := par_ex (hA.sim.ne i) (hB.sim.ne j) c1 c2
   have xp := hxd.1 hd
   obtain ⟨e2, e20, h2⟩ := hB.side_near hj s0 s1
   rw [← es] at h2
   obtain ⟨g, g0, g1, g2⟩ : ∃ g : Rat, 0 < g ∧ g ≤ e1 ∧ g ≤ e2 := by
    rcases Rat.le_total (a := e1) (b := e2) with h | h
    ·exact ⟨e1, by grind, by grind, h⟩
    ·exact ⟨e2, e20, h, by grind⟩
   obtain ⟨q, hq, hc⟩ := left_pt (hA.sim.ne i) (crs_at _ _ ((u + v) / 2)) (.inl rfl) g0
   refine ⟨q, (h1 q (hq.mono g1)).1 (by grind), (h2 q (hq.mono g2)).1 ?_⟩
   rw [hx]
   exact mul_pp xp (by grind)
  ·exact absurd er (h ((u + v) / 2) (by grind) (by grind) k r hk r0 r1)
theorem over_iff (hA : Pos n A) (hB : Pos m B) {F G : Nat → Rat → Rat → Prop} (hF : Parts n A m B F) (hG : Parts m B n A G) :
  Over n A m B ↔ (¬ NoCross n A m B ∨ Enters A m B F ∨ Enters B n A G) := by
 constructor
 ·intro ho
  refine Classical.byContradiction fun hn => ?_
  have hno : NoCross n A m B := Classical.byContradiction fun h => hn (.inl h)
  have n1 : ¬ Enters A m B F := fun h => hn (.inr (.inl h))
  have n2 : ¬ Enters B n A G := fun h => hn (.inr (.inr h))
  have h1 := no_enter hA.sim hB.sim hno hG (fun k u v hf hin => n2 ⟨k, u, v, hf, .inl hin⟩)
  have h2 := no_enter hB.sim hA.sim hno.symm hF (fun k u v hf hin => n1 ⟨k, u, v, hf, .inl hin⟩)
  have same := same_in hA hB h1 h2 ho
  have h3 := hA.sim.three
  have hi : 0 < n := by omega
  obtain ⟨t, t0, t1, ht⟩ := inner_pt (m := m) (B := B) hA.sim (i := 0)
  obtain ⟨u, v, hf, hu, hv⟩ := hF.cover 0 t hi t0 t1 ht
  obtain ⟨_, u0, huv, v1⟩ := hF.rng 0 u v hf
  obtain ⟨e1, e10, g1⟩ := hA.side_near hi (t := (u + v) / 2) (by grind) (by grind)
  rcases part_dich hA.sim hB.sim hno hi u0 v1 (hF.clean 0 u v hf) with ⟨j, hj, c1, c2, h⟩ | h
  ·obtain ⟨s, s0, s1, es⟩ := h ((u + v) / 2) (by grind) (by grind)
   obtain ⟨x, x0, hx, hxd⟩ := par_ex (hA.sim.ne 0) (hB.sim.ne j) c1 c2
   have xn : x < 0 := by
    rcases Std.lt_trichotomy x 0 with g | g | g
    ·exact g
    ·exact absurd g x0
    ·exact absurd ⟨0, u, v, hf, .inr ⟨j, s, hj, by grind, by grind, es, hxd.2 g⟩⟩ n1
   obtain ⟨e2, e20, g2⟩ := hB.side_near hj s0 s1
   rw [← es] at g2
   obtain ⟨g, g0, k1, k2⟩ : ∃ g : Rat, 0 < g ∧ g ≤ e1 ∧ g ≤ e2 := by
    rcases Rat.le_total (a := e1) (b := e2) with h | h
    ·exact ⟨e1, by grind, by grind, h⟩
    ·exact ⟨e2, e20, h, by grind⟩
   obtain ⟨q, hq, hc⟩ := left_pt (hA.sim.ne 0) (crs_at _ _ ((u + v) / 2)) (.inl rfl) g0
   have q1 := (same q).1 ((g1 q (hq.mono k1)).1 (by grind))
   have q2 := (g2 q (hq.mono k2)).2 (by
    rw [hx]
    have := mul_pp (a := -x) (b := crs (A 0) (A (0 + 1)) q) (by grind) (by grind)
    grind)
   exact q1.not_out q2
  ·have hof := h ((u + v) / 2) (by grind) (by grind)
   obtain ⟨e2, e20, g2⟩ := hB.sim.off_near hof
   obtain ⟨g, g0, k1, k2⟩ : ∃ g : Rat, 0 < g ∧ g ≤ e1 ∧ g ≤ e2 := by
    rcases Rat.le_total (a := e1) (b := e2) with h | h
    ·exact ⟨e1, by grind, by grind, h⟩
    ·exact ⟨e2, e20, h, by grind⟩
   obtain ⟨q, hq, hc⟩ := left_pt (hA.sim.ne 0) (crs_at _ _ ((u + v) / 2)) (.inl rfl) g0
   obtain ⟨p, hp, hd⟩ := left_pt (hA.sim.ne 0) (crs_at _ _ ((u + v) / 2)) (.inr rfl) g0
   have q1 := (same q).1 ((g1 q (hq.mono k1)).1 (by grind))
   have p1 := (g1 p (hp.mono k1)).2 (by grind)
   have q2 := g2 q (hq.mono k2)
   have p2 := g2 p (hp.mono k2)
   have p3 := (same p).2 ⟨p2.1, by rw [p2.2, ← q2.2]; exact q1.2⟩
   exact p3.not_out p1
 ·rintro (h | h | h)
  ·have : ∃ i k, i < n ∧ k < m ∧ CrossR (A i) (A (i + 1)) (B k) (B (k + 1)) := Classical.byContradiction fun hn => h fun i k hi hk hc => hn ⟨i, k, hi, hk, hc⟩
   obtain ⟨i, k, hi, hk, hc⟩ := this
   exact (cross_pts hA hB hi hk hc).1
  ·by_cases hno : NoCross n A m B
   ·exact h.over hA hB hF hno
   ·have : ∃ i k, i < n ∧ k < m ∧ CrossR (A i) (A (i + 1)) (B k) (B (k + 1)) := Classical.byContradiction fun hn => hno fun i k hi hk hc => hn ⟨i, k, hi, hk, hc⟩
    obtain ⟨i, k, hi, hk, hc⟩ := this
    exact (cross_pts hA hB hi hk hc).1
  ·by_cases hno : NoCross n A m B
   ·exact (h.over hB hA hG hno.symm).symm
   ·have : ∃ i k, i < n ∧ k < m ∧ CrossR (A i) (A (i + 1)) (B k) (B (k + 1)) := Classical.byContradiction fun hn => hno fun i k hi hk hc => hn ⟨i, k, hi, hk, hc⟩
    obtain ⟨i, k, hi, hk, hc⟩ := this
    exact (cross_pts hA hB hi hk hc).1
end
end Geo
end Go.Proofs.Ytfcjeejhdklkdaa
