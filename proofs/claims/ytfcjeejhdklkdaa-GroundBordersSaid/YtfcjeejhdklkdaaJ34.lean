/- What the statements rest on: definitions and walks, part 34. -/
import Derived.Test.YtfcjeejhdklkdaaJ28
import Derived.Test.YtfcjeejhdklkdaaJ26
import Derived.Test.YtfcjeejhdklkdaaJ27
set_option maxRecDepth 100000
set_option maxHeartbeats 16000000
set_option linter.unusedSimpArgs false
set_option linter.unusedVariables false
namespace Go.Proofs.Ytfcjeejhdklkdaa
open Go Go.RowKit Go.Maps Go.WideMaps Go.ChangeMaps
variable {P : Program} {k : TypeId} {w : World} {b n : Nat} {κ : Type} {lit : κ → Lit} {f : κ → Option Value}
theorem MapIs.lt (h : MapIs P k lit w b n f) : b < w.heap.size := by obtain ⟨D, h, _⟩ := h; exact h.lt
end Go.Proofs.Ytfcjeejhdklkdaa
namespace Go.Proofs.Ytfcjeejhdklkdaa
open Go Go.RowKit
theorem gt {w : World} {B : Nat} {g : Grad} (h : BoxAt w B [.int .i64 g.t0, .int .i64 g.t1, .int .i64 g.t2, .int .i64 g.p0, .int .i64 g.p1, .int .i64 g.p2, .int .i64 g.m0, .int .i64 g.m1, .int .i64 g.m2, .int .i64 g.m3]) : NumsAt w B 0 [g.t0, g.t1, g.t2] := h.nums 0 _ (by simp) (fun k z hz => by match k, hz with | 0, hz => cases hz; rfl | 1, hz => cases hz; rfl | 2, hz => cases hz; rfl)
end Go.Proofs.Ytfcjeejhdklkdaa
namespace Go.Proofs.Ytfcjeejhdklkdaa
open Go Go.RowKit Go.Shelf
theorem Sx.putD {w W : World} {L : List (Nat × Nat × Value)} {b : Nat} {vs : List Value} (h : Sx w L W) (hb : w.heap.size ≤ b) (hL : ∀ x ∈ L, x.1 ≠ b ∧ x.1 < W.heap.size) : Sx w L (W.setCells b 0 vs) :=
 h.grow (grown_setCells b vs 0 W) (fun g e => by cases e; exact hb) (fun x hx => ⟨fun e => (hL x hx).1 (by cases e; rfl), (hL x hx).2⟩)
end Go.Proofs.Ytfcjeejhdklkdaa
namespace Go.Proofs.Ytfcjeejhdklkdaa
namespace Cal
def farR (p q : Pt) : Int := ((q.x - p.x).natAbs : Int) + ((q.y - p.y).natAbs : Int)
def bothP (s t : Sd) (q : Pt) : Bool := hasP s q && hasP t q
def endR (s t : Sd) (acc : List Pt) (q : Pt) : List Pt := if bothP s t q && (acc.isEmpty || !ptB q (acc[0]?.getD pt0)) && decide (acc.length < 2) then acc ++ [q] else acc
def endsR (s t : Sd) : List Pt := [s.a, s.b, t.a, t.b].foldl (endR s t) []
def commonR (s t : Sd) : Option Sd :=
 if crs s t.a ≠ 0 ∨ crs s t.b ≠ 0 then none
 else if (endsR s t).length < 2 then none
 else if farR s.a ((endsR s t)[1]?.getD pt0) < farR s.a ((endsR s t)[0]?.getD pt0) then some ⟨(endsR s t)[1]?.getD pt0, (endsR s t)[0]?.getD pt0⟩
 else some ⟨(endsR s t)[0]?.getD pt0, (endsR s t)[1]?.getD pt0⟩
def borderR (a b : List Pt) : List Sd := (sds a).flatMap fun s => (sds b).filterMap fun t => commonR s t
theorem ptB_no {p q : Pt} (h : p ≠ q) : ptB p q = false := by
 rw [← Bool.not_eq_true, ptB_iff]; exact h
theorem ends_full (s t : Sd) (x y : Pt) : ∀ l : List Pt, l.foldl (endR s t) [x, y] = [x, y]
 | [] => rfl
 | q :: l => by
  have : endR s t [x, y] q = [x, y] := by unfold endR; simp
  rw [List.foldl_cons, this]
  exact ends_full s t x y l
theorem ends_second (s t : Sd) {x y : Pt} (hxy : x ≠ y) : ∀ {l : List Pt}, (∀ q ∈ l, bothP s t q = true → q = x ∨ q = y) → (∃ q ∈ l, bothP s t q = true ∧ q = y) → l.foldl (endR s t) [x] = [x, y]
 | [], _, ⟨q, hq, _⟩ => by cases hq
 | q :: l, hl, hex => by
  rw [List.foldl_cons]
  by_cases hb : bothP s t q = true
  ·rcases hl q (List.mem_cons_self ..) hb with e | e
   ·have : endR s t [x] q = [x] := by
     unfold endR
     rw [hb, e]
     have : ptB x x = true := ptB_iff.2 rfl
     simp [this]
    rw [this]
    refine ends_second s t hxy (fun z hz => hl z (List.mem_cons_of_mem _ hz)) ?_
    obtain ⟨z, hz, hzb, hzy⟩ := hex
    rcases List.mem_cons.1 hz with e2 | hz
    ·exact absurd (e.symm.trans (e2.symm.trans hzy)) hxy
    ·exact ⟨z, hz, hzb, hzy⟩
   ·have : endR s t [x] q = [x, y] := by
     unfold endR
     rw [hb, e]
     have : ptB y x = false := ptB_no (Ne.symm hxy)
     simp [this]
    rw [this]
    exact ends_full s t x y l
  ·have hb' : bothP s t q = false := by simpa using hb
   have : endR s t [x] q = [x] := by unfold endR; rw [hb']; simp
   rw [this]
   refine ends_second s t hxy (fun z hz => hl z (List.mem_cons_of_mem _ hz)) ?_
   obtain ⟨z, hz, hzb, hzy⟩ := hex
   rcases List.mem_cons.1 hz with e2 | hz
   ·rw [e2] at hzb; exact absurd hzb hb
   ·exact ⟨z, hz, hzb, hzy⟩
theorem ends_two (s t : Sd) {x y : Pt} (hxy : x ≠ y) : ∀ {l : List Pt}, (∀ q ∈ l, bothP s t q = true → q = x ∨ q = y) → (∃ q ∈ l, bothP s t q = true ∧ q = x) → (∃ q ∈ l, bothP s t q = true ∧ q = y) → l.foldl (endR s t) [] = [x, y] ∨ l.foldl (endR s t) [] = [y, x]
 | [], _, ⟨q, hq, _⟩, _ => by cases hq
 | q :: l, hl, hx, hy => by
  rw [List.foldl_cons]
  by_cases hb : bothP s t q = true
  ·have h1 : endR s t [] q = [q] := by unfold endR; rw [hb]; simp
   rw [h1]
   have hl' : ∀ z ∈ l, bothP s t z = true → z = x ∨ z = y := fun z hz => hl z (List.mem_cons_of_mem _ hz)
   rcases hl q (List.mem_cons_self ..) hb with e | e
   ·left
    rw [e]
    refine ends_second s t hxy hl' ?_
    obtain ⟨z, hz, hzb, hzy⟩ := hy
    rcases List.mem_cons.1 hz with e2 | hz
    ·exact absurd (e.symm.trans (e2.symm.trans hzy)) hxy
    ·exact ⟨z, hz, hzb, hzy⟩
   ·right
    rw [e]
    refine ends_second s t (Ne.symm hxy) (fun z hz hb => (hl' z hz hb).symm) ?_
    obtain ⟨z, hz, hzb, hzy⟩ := hx
    rcases List.mem_cons.1 hz with e2 | hz
    ·exact absurd (hzy.symm.trans (e2.trans e)) hxy
    ·exact ⟨z, hz, hzb, hzy⟩
  ·have hb' : bothP s t q = false := by simpa using hb
   have h1 : endR s t [] q = [] := by unfold endR; rw [hb']; simp
   rw [h1]
   have skip : ∀ x, (∃ z ∈ q :: l, bothP s t z = true ∧ z = x) → ∃ z ∈ l, bothP s t z = true ∧ z = x := fun x ⟨z, hz, hzb, hzy⟩ => by
    rcases List.mem_cons.1 hz with e2 | hz
    ·rw [e2] at hzb; exact absurd hzb hb
    ·exact ⟨z, hz, hzb, hzy⟩
   exact ends_two s t hxy (fun z hz => hl z (List.mem_cons_of_mem _ hz)) (skip x hx) (skip y hy)
theorem ends_few (s t : Sd) {x : Pt} : ∀ {l acc : List Pt}, (∀ q ∈ l, bothP s t q = true → q = x) → (acc = [] ∨ acc = [x]) → (l.foldl (endR s t) acc = [] ∨ l.foldl (endR s t) acc = [x])
 | [], _, _, h => h
 | q :: l, acc, hl, h => by
  rw [List.foldl_cons]
  refine ends_few s t (fun z hz => hl z (List.mem_cons_of_mem _ hz)) ?_
  by_cases hb : bothP s t q = true
  ·have e := hl q (List.mem_cons_self ..) hb
   right
   rcases h with h | h
   ·unfold endR; rw [hb, h, e]; simp
   ·have : ptB x x = true := ptB_iff.2 rfl
    unfold endR; rw [hb, h, e]; simp [this]
  ·have hb' : bothP s t q = false := by simpa using hb
   have : endR s t acc q = acc := by unfold endR; rw [hb']; simp
   rw [this]; exact h
section
variable {s : Sd}
theorem key_along {q : Pt} (hq : crs s q = 0) : key s s.b * (q.x - s.a.x) = key s q * (s.b.x - s.a.x) ∧ key s s.b * (q.y - s.a.y) = key s q * (s.b.y - s.a.y) := by
 unfold key dotP
 unfold crs at hq
 constructor <;> grind
theorem far_lt (hne : s.a ≠ s.b) {p q : Pt} (hp : crs s p = 0) (hq : crs s q = 0) (h0 : 0 ≤ key s p) (h : key s p < key s q) : farR s.a p < farR s.a q := by
 have hL := key_b_pos hne
 have one : ∀ r, crs s r = 0 → 0 ≤ key s r → key s s.b * farR s.a r = key s r * farR s.a s.b := fun r hr h0 => by
  obtain ⟨e1, e2⟩ := key_along hr
  have a1 : key s s.b * ((r.x - s.a.x).natAbs : Int) = key s r * ((s.b.x - s.a.x).natAbs : Int) := by
   have h1 : (key s s.b).natAbs * (r.x - s.a.x).natAbs = (key s r).natAbs * (s.b.x - s.a.x).natAbs := by rw [← Int.natAbs_mul, ← Int.natAbs_mul, e1]
   have h2 : ((key s s.b).natAbs : Int) = key s s.b := Int.natAbs_of_nonneg (by omega)
   have h3 : ((key s r).natAbs : Int) = key s r := Int.natAbs_of_nonneg h0
   have h4 := congrArg (Int.ofNat) h1
   simp only [Int.ofNat_eq_natCast, Int.natCast_mul] at h4
   rw [h2, h3] at h4
   exact h4
  have a2 : key s s.b * ((r.y - s.a.y).natAbs : Int) = key s r * ((s.b.y - s.a.y).natAbs : Int) := by
   have h1 : (key s s.b).natAbs * (r.y - s.a.y).natAbs = (key s r).natAbs * (s.b.y - s.a.y).natAbs := by rw [← Int.natAbs_mul, ← Int.natAbs_mul, e2]
   have h2 : ((key s s.b).natAbs : Int) = key s s.b := Int.natAbs_of_nonneg (by omega)
   have h3 : ((key s r).natAbs : Int) = key s r := Int.natAbs_of_nonneg h0
   have h4 := congrArg (Int.ofNat) h1
   simp only [Int.ofNat_eq_natCast, Int.natCast_mul] at h4
   rw [h2, h3] at h4
   exact h4
  unfold farR
  rw [Int.mul_add, Int.mul_add, a1, a2]
 have hB : 0 < farR s.a s.b := by
  unfold farR
  refine Classical.byContradiction fun hn => hne ?_
  have h1 : s.b.x - s.a.x = 0 := by omega
  have h2 : s.b.y - s.a.y = 0 := by omega
  obtain ⟨⟨ax, ay⟩, ⟨bx, by'⟩⟩ := s
  dsimp only at *
  rw [Pt.mk.injEq]
  omega
 have e1 := one p hp h0
 have e2 := one q hq (by omega)
 have h1 : key s p * farR s.a s.b < key s q * farR s.a s.b := Int.mul_lt_mul_of_pos_right h hB
 rw [← e1, ← e2] at h1
 exact Int.lt_of_mul_lt_mul_left h1 (by omega)
theorem has_key (hne : s.a ≠ s.b) {q : Pt} (hq : crs s q = 0) : hasP s q = true ↔ 0 ≤ key s q ∧ key s q ≤ key s s.b := by
 rw [has_iff]
 have hL := key_b_pos hne
 have e : key s s.b * dotP q s.a s.b = key s q * (key s q - key s s.b) := by
  obtain ⟨e1, e2⟩ := key_along hq
  unfold key dotP at *
  unfold crs at hq
  grind
 constructor
 ·rintro ⟨_, h⟩
  have h1 : key s q * (key s q - key s s.b) ≤ 0 := by
   rw [← e]; exact Int.mul_nonpos_of_nonneg_of_nonpos (by omega) h
  constructor
  ·refine Classical.byContradiction fun hn => ?_
   have := Int.mul_pos_of_neg_of_neg (a := key s q) (b := key s q - key s s.b) (by omega) (by omega)
   omega
  ·refine Classical.byContradiction fun hn => ?_
   have := Int.mul_pos (a := key s q) (b := key s q - key s s.b) (by omega) (by omega)
   omega
 ·rintro ⟨h0, h1⟩
  refine ⟨hq, ?_⟩
  have h2 : key s s.b * dotP q s.a s.b ≤ 0 := by
   rw [e]; exact Int.mul_nonpos_of_nonneg_of_nonpos h0 (by omega)
  refine Classical.byContradiction fun hn => ?_
  have := Int.mul_pos (a := key s s.b) (b := dotP q s.a s.b) hL (by omega)
  omega
theorem lin_sub {K A Q X a t q : Int} (h1 : K * (t - a) = A * X) (h2 : K * (q - a) = Q * X) : K * (t - q) = (A - Q) * X := by
 have : t - q = (t - a) - (q - a) := by omega
 rw [this, Int.mul_sub, h1, h2, Int.sub_mul]
theorem two_add (K p q r s : Int) : K * (K * (p * q + r * s)) = (K * p) * (K * q) + (K * r) * (K * s) := by grind
theorem two_sub (K p q r s : Int) : K * (K * (p * q - r * s)) = (K * p) * (K * q) - (K * r) * (K * s) := by grind
theorem two_val (A B X Y : Int) : (A * X) * (B * X) + (A * Y) * (B * Y) = (X * X + Y * Y) * (A * B) := by grind
theorem two_zero (A B X Y : Int) : (A * X) * (B * Y) - (A * Y) * (B * X) = 0 := by grind
theorem has_key2 (hne : s.a ≠ s.b) {t : Sd} (h1 : crs s t.a = 0) (h2 : crs s t.b = 0) {q : Pt} (hq : crs s q = 0) : hasP t q = true ↔ (key s t.a ≤ key s q ∧ key s q ≤ key s t.b) ∨ (key s t.b ≤ key s q ∧ key s q ≤ key s t.a) := by
 have hL := key_b_pos hne
 obtain ⟨a1, a2⟩ := key_along h1
 obtain ⟨b1, b2⟩ := key_along h2
 obtain ⟨q1, q2⟩ := key_along hq
 have e : key s s.b * dotP q t.a t.b = (key s t.a - key s q) * (key s t.b - key s q) := by
  have k : key s s.b * (key s s.b * dotP q t.a t.b) = key s s.b * ((key s t.a - key s q) * (key s t.b - key s q)) := by
   have hk : key s s.b = (s.b.x - s.a.x) * (s.b.x - s.a.x) + (s.b.y - s.a.y) * (s.b.y - s.a.y) := rfl
   have hd : dotP q t.a t.b = (t.a.x - q.x) * (t.b.x - q.x) + (t.a.y - q.y) * (t.b.y - q.y) := rfl
   rw [hd, two_add, lin_sub a1 q1, lin_sub b1 q1, lin_sub a2 q2, lin_sub b2 q2, two_val, ← hk]
  exact Int.eq_of_mul_eq_mul_left (by omega) k
 have hc : crs t q = 0 := by
  have k : key s s.b * (key s s.b * crs t q) = 0 := by
   unfold crs
   rw [two_sub, lin_sub b1 a1, lin_sub q2 a2, lin_sub b2 a2, lin_sub q1 a1, two_zero]
  rcases Int.mul_eq_zero.1 k with h | h
  ·omega
  ·rcases Int.mul_eq_zero.1 h with h | h
   ·omega
   ·exact h
 rw [has_iff]
 constructor
 ·rintro ⟨_, h⟩
  have h1 : (key s t.a - key s q) * (key s t.b - key s q) ≤ 0 := by
   rw [← e]; exact Int.mul_nonpos_of_nonneg_of_nonpos (by omega) h
  rcases Int.lt_or_le (key s q) (key s t.a) with c | c
  ·right
   refine ⟨?_, by omega⟩
   refine Classical.byContradiction fun hn => ?_
   have := Int.mul_pos (a := key s t.a - key s q) (b := key s t.b - key s q) (by omega) (by omega)
   omega
  ·rcases Int.lt_or_le (key s t.b) (key s q) with c2 | c2
   ·right
    refine ⟨by omega, ?_⟩
    refine Classical.byContradiction fun hn => ?_
    have := Int.mul_pos_of_neg_of_neg (a := key s t.a - key s q) (b := key s t.b - key s q) (by omega) (by omega)
    omega
   ·exact Or.inl ⟨c, c2⟩
 ·intro h
  refine ⟨hc, ?_⟩
  have h2 : key s s.b * dotP q t.a t.b ≤ 0 := by
   rw [e]
   rcases h with ⟨c1, c2⟩ | ⟨c1, c2⟩
   ·exact Int.mul_nonpos_of_nonpos_of_nonneg (by omega) (by omega)
   ·exact Int.mul_nonpos_of_nonneg_of_nonpos (by omega) (by omega)
  refine Classical.byContradiction fun hn => ?_
  have := Int.mul_pos (a := key s s.b) (b := dotP q t.a t.b) hL (by omega)
  omega
theorem common_eq (hne : s.a ≠ s.b) {t : Sd} (ht : t.a ≠ t.b) : commonR s t = commonS s t := by
 unfold commonR commonS
 by_cases hcol : crs s t.a = 0 ∧ crs s t.b = 0
 ·obtain ⟨h1, h2⟩ := hcol
  rw [if_neg (show ¬ (crs s t.a ≠ 0 ∨ crs s t.b ≠ 0) from by omega), if_pos (show trn s t.a = 0 ∧ trn s t.b = 0 from ⟨trnZ.2 h1, trnZ.2 h2⟩)]
  have hL := key_b_pos hne
  have ha0 : key s s.a = 0 := key_a s
  have ca := crs_a0 s
  have cb := crs_b0 s
  have kne : key s t.a ≠ key s t.b := fun e => ht (key_inj hne h1 h2 e)
  obtain ⟨u, v, hu, hv, huv, huvE, hset⟩ : ∃ u v : Pt, crs s u = 0 ∧ crs s v = 0 ∧ key s u < key s v ∧ (if 0 < alongS s t.a t.b then (⟨t.b, t.a⟩ : Sd) else t) = ⟨u, v⟩ ∧ ((u = t.a ∧ v = t.b) ∨ (u = t.b ∧ v = t.a)) := by
   by_cases c : key s t.b < key s t.a
   ·refine ⟨t.b, t.a, h2, h1, c, ?_, Or.inr ⟨rfl, rfl⟩⟩
    rw [if_pos]
    unfold alongS cmpI
    have : ¬ dotP s.a s.b t.a < dotP s.a s.b t.b := by unfold key at c; omega
    rw [if_neg this, if_pos (by unfold key at c; exact c)]
    decide
   ·refine ⟨t.a, t.b, h1, h2, by omega, ?_, Or.inl ⟨rfl, rfl⟩⟩
    rw [if_neg]
    intro hh
    unfold alongS cmpI at hh
    unfold key at c kne
    rw [if_pos (by omega)] at hh
    omega
  dsimp only
  rw [huvE]
  dsimp only
  have gt : ∀ p q : Pt, 0 < alongS s p q ↔ key s q < key s p := fun p q => by
   unfold alongS cmpI key
   split
   ·constructor <;> intro h <;> omega
   ·split
    ·constructor <;> intro h <;> omega
    ·constructor <;> intro h <;> omega
  have lt : ∀ p q : Pt, alongS s p q < 0 ↔ key s p < key s q := fun p q => along_lt
  have both : ∀ q, crs s q = 0 → (bothP s t q = true ↔ (0 ≤ key s q ∧ key s q ≤ key s s.b) ∧ (key s u ≤ key s q ∧ key s q ≤ key s v)) := fun q hq => by
   unfold bothP
   rw [Bool.and_eq_true, has_key hne hq, has_key2 hne h1 h2 hq]
   rcases hset with ⟨e1, e2⟩ | ⟨e1, e2⟩ <;> subst e1 <;> subst e2 <;> omega
  obtain ⟨f, hf, hfE, hfk, hfm⟩ : ∃ f : Pt, crs s f = 0 ∧ (if 0 < alongS s u s.a then u else s.a) = f ∧ key s f = max 0 (key s u) ∧ (f = s.a ∨ f = u) := by
   by_cases c : 0 < key s u
   ·exact ⟨u, hu, by rw [if_pos ((gt _ _).2 (by omega))], by omega, Or.inr rfl⟩
   ·exact ⟨s.a, ca, by rw [if_neg (fun h => c (by have := (gt _ _).1 h; omega))], by omega, Or.inl rfl⟩
  obtain ⟨e, he, heE, hek, hem⟩ : ∃ e : Pt, crs s e = 0 ∧ (if alongS s v s.b < 0 then v else s.b) = e ∧ key s e = min (key s s.b) (key s v) ∧ (e = s.b ∨ e = v) := by
   by_cases c : key s v < key s s.b
   ·exact ⟨v, hv, by rw [if_pos ((lt _ _).2 c)], by omega, Or.inr rfl⟩
   ·exact ⟨s.b, cb, by rw [if_neg (fun h => c ((lt _ _).1 h))], by omega, Or.inl rfl⟩
  rw [hfE, heE]
  have memu : u ∈ [s.a, s.b, t.a, t.b] ∧ v ∈ [s.a, s.b, t.a, t.b] := by rcases hset with ⟨e1, e2⟩ | ⟨e1, e2⟩ <;> rw [e1, e2] <;> simp
  have memf : f ∈ [s.a, s.b, t.a, t.b] := by rcases hfm with h | h; rw [h]; simp; rw [h]; exact memu.1
  have meme : e ∈ [s.a, s.b, t.a, t.b] := by rcases hem with h | h; rw [h]; simp; rw [h]; exact memu.2
  have line : ∀ q ∈ [s.a, s.b, t.a, t.b], crs s q = 0 := fun q hq => by
   simp only [List.mem_cons, List.not_mem_nil, or_false] at hq
   rcases hq with e | e | e | e <;> rw [e] <;> assumption
  have only : ∀ q ∈ [s.a, s.b, t.a, t.b], bothP s t q = true → q = f ∨ q = e := fun q hq hb => by
   have hql := line q hq
   have hk := (both q hql).1 hb
   have four : q = s.a ∨ q = s.b ∨ q = u ∨ q = v := by
    simp only [List.mem_cons, List.not_mem_nil, or_false] at hq
    rcases hset with ⟨e1, e2⟩ | ⟨e1, e2⟩ <;> rw [e1, e2]
    ·exact hq
    ·rcases hq with h | h | h | h
     ·exact Or.inl h
     ·exact Or.inr (Or.inl h)
     ·exact Or.inr (Or.inr (Or.inr h))
     ·exact Or.inr (Or.inr (Or.inl h))
   have : key s q = key s f ∨ key s q = key s e := by
    rcases four with h | h | h | h <;> rw [h] at hk ⊢ <;> omega
   rcases this with h | h
   ·exact Or.inl (key_inj hne hql hf h)
   ·exact Or.inr (key_inj hne hql he h)
  by_cases hlt : key s f < key s e
  ·rw [if_pos ((lt _ _).2 hlt)]
   have bf : bothP s t f = true := (both f hf).2 (by omega)
   have be : bothP s t e = true := (both e he).2 (by omega)
   have hfe : f ≠ e := fun h => by rw [h] at hlt; omega
   have hfar := far_lt hne hf he (by omega) hlt
   rcases ends_two s t hfe only ⟨f, memf, bf, rfl⟩ ⟨e, meme, be, rfl⟩ with h | h
   ·have h' : endsR s t = [f, e] := h
    rw [h']
    show (if (2 : Nat) < 2 then none else if farR s.a e < farR s.a f then some (Sd.mk e f) else some (Sd.mk f e)) = some (Sd.mk f e)
    rw [if_neg (by omega), if_neg (by omega)]
   ·have h' : endsR s t = [e, f] := h
    rw [h']
    show (if (2 : Nat) < 2 then none else if farR s.a f < farR s.a e then some (Sd.mk f e) else some (Sd.mk e f)) = some (Sd.mk f e)
    rw [if_neg (by omega), if_pos hfar]
  ·rw [if_neg (fun h => hlt ((lt _ _).1 h))]
   rw [if_pos]
   have all1 : ∀ q ∈ [s.a, s.b, t.a, t.b], bothP s t q = true → q = f := fun q hq hb => by
    have hk := (both q (line q hq)).1 hb
    rcases only q hq hb with h | h
    ·exact h
    ·exact key_inj hne (line q hq) hf (by rw [h] at hk ⊢; omega)
   rcases ends_few s t all1 (Or.inl rfl) with h | h
   ·have h' : endsR s t = [] := h
    rw [h']; exact (by decide : (0 : Nat) < 2)
   ·have h' : endsR s t = [f] := h
    rw [h']; exact (by decide : (1 : Nat) < 2)
 ·rw [if_pos (show crs s t.a ≠ 0 ∨ crs s t.b ≠ 0 from by omega), if_neg (fun h => hcol ⟨trnZ.1 h.1, trnZ.1 h.2⟩)]
end
theorem borderR_eq {a b : List Pt} (ha : ∀ i, i < a.length → (sd a i).a ≠ (sd a i).b) (hb : ∀ i, i < b.length → (sd b i).a ≠ (sd b i).b) : borderR a b = borderP a b := by
 unfold borderR borderP
 have hs : ∀ (l : List Pt), (∀ i, i < l.length → (sd l i).a ≠ (sd l i).b) → ∀ s ∈ sds l, s.a ≠ s.b := fun l hl s hs => by
  unfold sds at hs
  obtain ⟨i, hi, rfl⟩ := List.mem_map.1 hs
  exact hl i (List.mem_range.1 hi)
 have main : ∀ l : List Sd, (∀ s ∈ l, s.a ≠ s.b) → l.flatMap (fun s => (sds b).filterMap fun t => commonR s t) = l.flatMap (fun s => (sds b).filterMap fun t => commonS s t) := fun l => by
  induction l with
  | nil => intro _; rfl
  | cons s l ih =>
   intro h
   rw [List.flatMap_cons, List.flatMap_cons, ih (fun x hx => h x (List.mem_cons_of_mem _ hx))]
   congr 1
   have inner : ∀ m : List Sd, (∀ t ∈ m, t.a ≠ t.b) → m.filterMap (fun t => commonR s t) = m.filterMap (fun t => commonS s t) := fun m => by
    induction m with
    | nil => intro _; rfl
    | cons t m ihm =>
     intro hm
     rw [List.filterMap_cons, List.filterMap_cons, common_eq (h s (List.mem_cons_self ..)) (hm t (List.mem_cons_self ..)), ihm (fun x hx => hm x (List.mem_cons_of_mem _ hx))]
   exact inner _ (hs b hb)
 exact main _ (hs a ha)
end Cal
end Go.Proofs.Ytfcjeejhdklkdaa
namespace Go.Proofs.Ytfcjeejhdklkdaa
open Go Go.RowKit Go.Shelf
theorem farR_any (p q : Pt) (w : World) (hp : SmP p) (hq : SmP q) : Calls Try.prog 93 #[.agg #[.int .i64 p.x, .int .i64 p.y], .agg #[.int .i64 q.x, .int .i64 q.y]] w fun e w' => e = .returned (.int .i64 (Cal.farR p q)) ∧ Below w.heap.size w w' := by
 obtain ⟨x0, x1, x2, x3⟩ := hp
 obtain ⟨z0, z1, z2, z3⟩ := hq
 have q1 : IntKind.i64.wrap (q.x - p.x) = q.x - p.x := wrap_small (by omega) (by omega)
 have q2 : IntKind.i64.wrap (q.y - p.y) = q.y - p.y := wrap_small (by omega) (by omega)
 have q3 : IntKind.i64.wrap (((q.x - p.x).natAbs : Int) + ((q.y - p.y).natAbs : Int)) = ((q.x - p.x).natAbs : Int) + ((q.y - p.y).natAbs : Int) := wrap_small (by omega) (by omega)
 have q3b : wrap64 (((q.x - p.x).natAbs : Int) + ((q.y - p.y).natAbs : Int)) = ((q.x - p.x).natAbs : Int) + ((q.y - p.y).natAbs : Int) := by rw [← wrap_eq]; exact q3
 have ha1 := Lib.hid (fun W => absG_any (q.x - p.x) (by omega) (by omega) W)
 have ha2 := Lib.hid (fun W => absG_any (q.y - p.y) (by omega) (by omega) W)
 have hF : Hid (Cal.farR p q = ((q.x - p.x).natAbs : Int) + ((q.y - p.y).natAbs : Int)) := rfl
 rw [hF.out]
 have b1 := BoxAt.new (w.alloc (.cells #[.int .i64 p.x, .int .i64 p.y] 75)) #[.int .i64 q.x, .int .i64 q.y] 75
 rw [World.size_alloc] at b1
 have b0 := (BoxAt.new w #[.int .i64 p.x, .int .i64 p.y] 75).alloc (.cells #[.int .i64 q.x, .int .i64 q.y] 75)
 have c0 := b0.c 0 _ rfl
 have c1 := b0.c 1 _ rfl
 have d0 := b1.c 0 _ rfl
 have d1 := b1.c 1 _ rfl
 have hb := Lib.hid (below_step (below_alloc w (.cells #[.int .i64 p.x, .int .i64 p.y] 75)) (below_alloc _ (.cells #[.int .i64 q.x, .int .i64 q.y] 75)))
 clear b0 b1 x0 x1 x2 x3 z0 z1 z2 z3
 go_enter Try.func93, Try.ntmps93
 go_wp2_with fail
 refine wp_region_held_drew (S := Sx w [(w.heap.size, 0, .int .i64 p.x), (w.heap.size, 1, .int .i64 p.y), (w.heap.size + 1, 0, .int .i64 q.x), (w.heap.size + 1, 1, .int .i64 q.y)]) (by kernel_rfl) (Sx.mk (by simp only [cs_iff_cons]; exact ⟨c0, c1, d0, d1, cs_nil _⟩) hb.out).drew (fun hHeld => ?_)
 clear c0 c1 d0 d1
 refine tkHx 0 5 ?_
 refine tkHx 1 6 ?_
 refine tkHx 2 7 ?_
 refine tkHx 3 8 ?_
 refine tkHx 4 9 ?_
 refine tkHx 6 11 ?_
 refine tkHx 7 12 ?_
 refine tkHx 8 13 ?_
 refine tkHx 9 14 ?_
 refine tkHx 10 15 ?_
 (refine ratHx 5 (fun K hK => ?_); go_simp)
 refine (ha1.out _).mono ?_
 rintro e0 wz ⟨rfl, rfl⟩
 go_simp
 (refine hK.out _ _ hHeld (fun hHeld => ?_); clear hK K; (try simp only [apS, apN, siA, scZ, scS]))
 (refine ratHx 11 (fun K hK => ?_); go_simp)
 refine (ha2.out _).mono ?_
 rintro e0 wz ⟨rfl, rfl⟩
 go_simp
 (refine hK.out _ _ hHeld (fun hHeld => ?_); clear hK K; (try simp only [apS, apN, siA, scZ, scS]))
 refine tkHx 12 17 ?_
 refine tkHx 13 4 ?_
 refine wpAnyH_done (by kernel_rfl) ?_ _
 (try simp only [apS, apN, siA, scZ, scS])
 go_wp2_with fail
 go_ret
 exact ⟨rfl, hHeld.bel⟩
theorem CmI.firstR (w : World) (s t : Sd) : CmI w s t (((w.alloc (.cells #[.int .i64 s.a.x, .int .i64 s.a.y, .int .i64 s.b.x, .int .i64 s.b.y] 97)).alloc (.cells #[.int .i64 t.a.x, .int .i64 t.a.y, .int .i64 t.b.x, .int .i64 t.b.y] 97)).alloc (.cells #[.int .i64 0, .int .i64 0, .int .i64 0, .int .i64 0] 97)) := by
 have h2 := (BoxAt.new (w.alloc (.cells #[.int .i64 s.a.x, .int .i64 s.a.y, .int .i64 s.b.x, .int .i64 s.b.y] 97)) #[.int .i64 t.a.x, .int .i64 t.a.y, .int .i64 t.b.x, .int .i64 t.b.y] 97).alloc (.cells #[.int .i64 0, .int .i64 0, .int .i64 0, .int .i64 0] 97)
 have h3 := BoxAt.new ((w.alloc (.cells #[.int .i64 s.a.x, .int .i64 s.a.y, .int .i64 s.b.x, .int .i64 s.b.y] 97)).alloc (.cells #[.int .i64 t.a.x, .int .i64 t.a.y, .int .i64 t.b.x, .int .i64 t.b.y] 97)) #[.int .i64 0, .int .i64 0, .int .i64 0, .int .i64 0] 97
 simp only [World.size_alloc] at h2 h3
 exact ⟨((BoxAt.new w #[.int .i64 s.a.x, .int .i64 s.a.y, .int .i64 s.b.x, .int .i64 s.b.y] 97).alloc _).alloc _, h2, h3, below_step (below_step (below_alloc _ _) (below_alloc _ _)) (below_alloc _ _)⟩
def fourR (s t : Sd) : List Pt := [s.a, s.b, t.a, t.b]
def endsTo (s t : Sd) (k : Nat) : List Pt := ((fourR s t).take k).foldl (Cal.endR s t) []
theorem endsTo_succ {s t : Sd} {k : Nat} (h : k < 4) : endsTo s t (k + 1) = Cal.endR s t (endsTo s t k) ((fourR s t)[k]?.getD Cal.pt0) := by
 unfold endsTo
 have hk : k < (fourR s t).length := h
 rw [List.take_succ_eq_append_getElem hk, List.foldl_append, List.getElem?_eq_getElem hk]
 rfl
theorem endR_len {s t : Sd} {acc : List Pt} {q : Pt} (h : acc.length ≤ 2) : (Cal.endR s t acc q).length ≤ 2 := by
 unfold Cal.endR
 split
 ·rename_i h1
  rw [Bool.and_eq_true, decide_eq_true_iff] at h1
  rw [List.length_append, List.length_singleton]; omega
 ·exact h
theorem endsTo_len (s t : Sd) : ∀ k, k ≤ 4 → (endsTo s t k).length ≤ 2
 | 0, _ => by show 0 ≤ 2; decide
 | k + 1, h => by rw [endsTo_succ (by omega)]; exact endR_len (endsTo_len s t k (by omega))
theorem fourR_sm {s t : Sd} (hs : SmS s) (ht : SmS t) : ∀ p ∈ fourR s t, SmP p := fun p hp => by
 unfold fourR at hp
 simp only [List.mem_cons, List.not_mem_nil, or_false] at hp
 rcases hp with rfl | rfl | rfl | rfl
 ·exact hs.a
 ·exact hs.b
 ·exact ht.a
 ·exact ht.b
theorem endR_mem {s t : Sd} {acc : List Pt} {q : Pt} : ∀ p ∈ Cal.endR s t acc q, p ∈ acc ∨ p = q := fun p hp => by
 unfold Cal.endR at hp
 split at hp
 ·rcases List.mem_append.1 hp with h | h
  ·exact Or.inl h
  ·exact Or.inr (List.mem_singleton.1 h)
 ·exact Or.inl hp
theorem endsTo_sm {s t : Sd} (hs : SmS s) (ht : SmS t) : ∀ k, k ≤ 4 → ∀ p ∈ endsTo s t k, SmP p
 | 0, _, p, hp => by cases hp
 | k + 1, h, p, hp => by
  rw [endsTo_succ (by omega)] at hp
  rcases endR_mem p hp with h1 | h1
  ·exact endsTo_sm hs ht k (by omega) p h1
  ·rw [h1]
   have hk : k < (fourR s t).length := by show k < 4; omega
   rw [List.getElem?_eq_getElem hk]
   exact fourR_sm hs ht _ (List.getElem_mem hk)
end Go.Proofs.Ytfcjeejhdklkdaa
