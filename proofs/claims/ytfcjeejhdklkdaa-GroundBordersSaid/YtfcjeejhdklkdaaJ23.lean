/- What the statements rest on: definitions and walks, part 23. -/
import Derived.Test.YtfcjeejhdklkdaaJ22
set_option maxRecDepth 100000
set_option maxHeartbeats 16000000
set_option linter.unusedSimpArgs false
set_option linter.unusedVariables false
namespace Go.Proofs.Ytfcjeejhdklkdaa
namespace Cal
open Geo (RP at' Simple Pos In Out Off wind wc)
def mulP (k : Int) (ps : List Pt) : List Pt := ps.map fun q => ⟨k * q.x, k * q.y⟩
theorem dbl_mul (ps : List Pt) : dblP ps = mulP 2 ps := rfl
theorem mul_length (k : Int) (ps : List Pt) : (mulP k ps).length = ps.length := by simp [mulP]
def sc (k : Rat) (p : RP) : RP := ⟨k * p.x, k * p.y⟩
theorem sc_at (k : Rat) (a b : RP) (l : Rat) : sc k (at' a b l) = at' (sc k a) (sc k b) l := by
 unfold sc at'
 rw [RP.mk.injEq]
 constructor <;> grind
theorem sc_inj {k : Rat} (hk : k ≠ 0) {p q : RP} (h : sc k p = sc k q) : p = q := by
 unfold sc at h
 rw [RP.mk.injEq] at h
 have h1 : k * (p.x - q.x) = 0 := by grind
 have h2 : k * (p.y - q.y) = 0 := by grind
 cases p; cases q
 rw [RP.mk.injEq]
 constructor
 ·rcases Rat.mul_eq_zero.1 h1 with z | z
  ·exact absurd z hk
  ·grind
 ·rcases Rat.mul_eq_zero.1 h2 with z | z
  ·exact absurd z hk
  ·grind
theorem scale_lt {k x y : Rat} (hk : 0 < k) : k * x < k * y ↔ x < y := by
 constructor
 ·intro h
  have := Geo.pos_of_mul (x := y - x) hk (by grind)
  grind
 ·intro h
  have := Geo.mul_pp hk (show 0 < y - x by grind)
  grind
theorem scale_le {k x y : Rat} (hk : 0 < k) : k * x ≤ k * y ↔ x ≤ y := by
 rw [← Rat.not_lt, ← Rat.not_lt, scale_lt hk]
theorem crs_sc (k : Rat) (a b q : RP) : Geo.crs (sc k a) (sc k b) (sc k q) = (k * k) * Geo.crs a b q := by
 unfold Geo.crs sc; dsimp only; grind
theorem wc_sc {k : Rat} (hk : 0 < k) (a b q : RP) : wc (sc k a) (sc k b) (sc k q) = wc a b q := by
 have kk := Geo.mul_pp hk hk
 have e1 : (0 < Geo.crs (sc k a) (sc k b) (sc k q)) = (0 < Geo.crs a b q) := by
  rw [crs_sc]
  have := scale_lt (x := 0) (y := Geo.crs a b q) kk
  rw [Rat.mul_zero] at this
  exact propext this
 have e2 : (Geo.crs (sc k a) (sc k b) (sc k q) < 0) = (Geo.crs a b q < 0) := by
  rw [crs_sc]
  have := scale_lt (x := Geo.crs a b q) (y := 0) kk
  rw [Rat.mul_zero] at this
  exact propext this
 unfold wc
 simp only [e1, e2]
 unfold sc
 dsimp only
 simp only [scale_lt hk, scale_le hk]
def hf (q : Pt) (k : Int) : RP := ⟨(q.x : Rat) / (k : Rat), (q.y : Rat) / (k : Rat)⟩
theorem hf_sc (q : Pt) {k : Int} (hk : 0 < k) : sc (k : Rat) (hf q k) = rp q := by
 have hk' : (k : Rat) ≠ 0 := by
  have := Rat.intCast_pos.2 hk
  grind
 unfold sc hf rp
 dsimp only
 rw [RP.mk.injEq]
 constructor
 ·rw [Rat.mul_comm]; exact Rat.div_mul_cancel hk'
 ·rw [Rat.mul_comm]; exact Rat.div_mul_cancel hk'
theorem cor_mul (k : Int) (ps : List Pt) (i : Nat) : cor (mulP k ps) i = ⟨k * (cor ps i).x, k * (cor ps i).y⟩ := by
 unfold cor
 rw [mul_length]
 unfold mulP
 rw [List.getElem?_map]
 cases h : ps[i % ps.length]? with
 | none => simp [pt0]
 | some p => rfl
theorem ring_mul (k : Int) (ps : List Pt) (i : Nat) : ring (mulP k ps) i = sc (k : Rat) (ring ps i) := by
 unfold ring
 rw [cor_mul]
 unfold rp sc
 dsimp only
 rw [Rat.intCast_mul, Rat.intCast_mul]
theorem sd_mul (k : Int) (ps : List Pt) {i : Nat} (h : i < ps.length) : sd (mulP k ps) i = ⟨⟨k * (sd ps i).a.x, k * (sd ps i).a.y⟩, ⟨k * (sd ps i).b.x, k * (sd ps i).b.y⟩⟩ := by
 rw [sd_cor (by rw [mul_length]; exact h), sd_cor h, cor_mul, cor_mul]
theorem wind_mul {k : Int} (hk : 0 < k) (ps : List Pt) (q : Pt) (n : Nat) : wind n (ring (mulP k ps)) (rp q) = wind n (ring ps) (hf q k) := by
 unfold wind
 refine Geo.sumZ_congr fun i _ => ?_
 rw [ring_mul, ring_mul, ← hf_sc q hk, wc_sc (Rat.intCast_pos.2 hk)]
def wcI (s : Sd) (q : Pt) : Int := if s.a.y ≤ q.y then (if q.y < s.b.y then (if 0 < crs s q then 1 else 0) else 0) else (if s.b.y ≤ q.y then (if crs s q < 0 then -1 else 0) else 0)
theorem wc_rp (s : Sd) (q : Pt) : wc (rp s.a) (rp s.b) (rp q) = wcI s q := by
 unfold wc wcI
 simp only [crs_pos, crs_neg]
 unfold rp
 dsimp only
 simp only [Rat.intCast_le_intCast, Rat.intCast_lt_intCast]
def sumW (q : Pt) : List Sd → Int
 | [] => 0
 | s :: r => wcI s q + sumW q r
theorem has_level {s : Sd} {q : Pt} (hc : crs s q = 0) (h1 : s.b.y ≤ q.y) (h2 : q.y < s.a.y) : hasP s q = true := by
 rw [has_iff]
 refine ⟨hc, ?_⟩
 unfold dotP
 have hp : (s.a.x - q.x) * (s.b.y - q.y) = (s.a.y - q.y) * (s.b.x - q.x) := by unfold crs at hc; grind
 have k1 : 0 < s.a.y - q.y := by omega
 have k2 : s.b.y - q.y ≤ 0 := by omega
 generalize s.a.x - q.x = u at *
 generalize s.a.y - q.y = v at *
 generalize s.b.x - q.x = z at *
 generalize s.b.y - q.y = t at *
 have e : (u * z) * v = (u * u) * t := by
  have : (u * z) * v = u * (v * z) := by grind
  rw [this, ← hp]; grind
 have p1 := Int.mul_nonpos_of_nonneg_of_nonpos (sq0I u) k2
 have p2 := Int.mul_nonpos_of_nonneg_of_nonpos (show 0 ≤ v by omega) k2
 have p3 : u * z ≤ 0 := Int.not_lt.1 fun h => by
  have := Int.mul_pos h k1
  omega
 omega
def tog (s : Sd) (q : Pt) : Bool := (decide (q.y < s.a.y) != decide (q.y < s.b.y)) && (decide (0 < trn s q) == decide (s.a.y < s.b.y))
theorem tog_wc {s : Sd} {q : Pt} (h : hasP s q = false) : wcI s q % 2 = if tog s q = true then 1 else 0 := by
 have ht : (0 < trn s q) ↔ 0 < crs s q := by
  rcases Int.lt_trichotomy (crs s q) 0 with h | h | h
  ·rw [trnN.2 h]; omega
  ·rw [trnZ.2 h]; omega
  ·rw [trnP.2 h]; omega
 unfold wcI tog
 simp only [ht]
 by_cases h1 : s.a.y ≤ q.y
 ·rw [if_pos h1]
  have e1 : decide (q.y < s.a.y) = false := decide_eq_false (by omega)
  by_cases h2 : q.y < s.b.y
  ·rw [if_pos h2, e1, decide_eq_true h2, decide_eq_true (show s.a.y < s.b.y by omega)]
   by_cases h3 : 0 < crs s q
   ·rw [if_pos h3, decide_eq_true h3]; rfl
   ·rw [if_neg h3, decide_eq_false h3]; rfl
  ·rw [if_neg h2, e1, decide_eq_false h2]; rfl
 ·rw [if_neg h1]
  have e1 : decide (q.y < s.a.y) = true := decide_eq_true (by omega)
  by_cases h2 : s.b.y ≤ q.y
  ·rw [if_pos h2, e1, decide_eq_false (show ¬ q.y < s.b.y by omega), decide_eq_false (show ¬ s.a.y < s.b.y by omega)]
   rcases Int.lt_trichotomy (crs s q) 0 with h3 | h3 | h3
   ·rw [if_pos h3, decide_eq_false (show ¬ 0 < crs s q by omega)]; rfl
   ·rw [has_level h3 h2 (by omega)] at h; cases h
   ·rw [if_neg (by omega), decide_eq_true h3]; rfl
  ·rw [if_neg h2, e1, decide_eq_true (show q.y < s.b.y by omega)]; rfl
theorem whereFrom_off (q : Pt) : ∀ (l : List Sd) (b : Bool), (∀ s ∈ l, hasP s q = false) → whereFrom q b l = if (sumW q l + (if b = true then 1 else 0)) % 2 = 1 then 1 else -1
 | [], b, _ => by cases b <;> rfl
 | s :: r, b, h => by
  have hs := h s (List.mem_cons_self ..)
  unfold whereFrom
  rw [if_neg (by rw [hs]; decide), whereFrom_off q r _ (fun t ht => h t (List.mem_cons_of_mem _ ht))]
  have hw := tog_wc hs
  show (if (sumW q r + (if (if tog s q = true then !b else b) = true then 1 else 0)) % 2 = 1 then (1 : Int) else -1) = (if (wcI s q + sumW q r + (if b = true then 1 else 0)) % 2 = 1 then 1 else -1)
  have key : ∀ (t b : Bool) (W w : Int), w % 2 = (if t = true then 1 else 0) → ((W + (if (if t = true then !b else b) = true then 1 else 0)) % 2 = 1 ↔ (w + W + (if b = true then 1 else 0)) % 2 = 1) := by
   intro t b W w h
   cases t <;> cases b <;> simp at h ⊢ <;> omega
  exact ite_congr (propext (key _ _ _ _ hw)) (fun _ => rfl) (fun _ => rfl)
theorem whereFrom_on (q : Pt) : ∀ (l : List Sd) (b : Bool), (∃ s ∈ l, hasP s q = true) → whereFrom q b l = 0
 | [], _, h => by obtain ⟨s, hs, _⟩ := h; cases hs
 | s :: r, b, h => by
  unfold whereFrom
  by_cases hs : hasP s q = true
  ·rw [if_pos hs]
  ·rw [if_neg hs]
   obtain ⟨t, ht, h2⟩ := h
   rcases List.mem_cons.1 ht with e | ht
   ·rw [e] at h2; exact absurd h2 hs
   ·exact whereFrom_on q r _ ⟨t, ht, h2⟩
theorem mem_sds {ps : List Pt} {s : Sd} : s ∈ sds ps ↔ ∃ i, i < ps.length ∧ s = sd ps i := by
 unfold sds
 rw [List.mem_map]
 constructor
 ·rintro ⟨i, hi, e⟩; exact ⟨i, List.mem_range.1 hi, e.symm⟩
 ·rintro ⟨i, hi, e⟩; exact ⟨i, List.mem_range.2 hi, e.symm⟩
theorem sumW_append (q : Pt) : ∀ l m : List Sd, sumW q (l ++ m) = sumW q l + sumW q m
 | [], m => by simp [sumW]
 | s :: r, m => by rw [List.cons_append, sumW, sumW, sumW_append q r m]; omega
theorem wind_sum (ps : List Pt) (q : Pt) : wind ps.length (ring ps) (rp q) = sumW q (sds ps) := by
 have main : ∀ n, n ≤ ps.length → Geo.sumZ (fun i => wc (ring ps i) (ring ps (i + 1)) (rp q)) n = sumW q ((List.range n).map (sd ps)) := fun n => by
  induction n with
  | zero => intro _; rfl
  | succ n ih =>
   intro hn
   rw [Geo.sumZ, ih (by omega), List.range_succ, List.map_append, sumW_append]
   have := ring_ps (ps := ps) n (by omega)
   rw [this.1, this.2, wc_rp]
   simp [sumW]
 exact main _ (Nat.le_refl _)
theorem has_at_iff {s : Sd} (hne : s.a ≠ s.b) {q : Pt} : hasP s q = true ↔ ∃ l : Rat, 0 ≤ l ∧ l ≤ 1 ∧ rp q = at' (rp s.a) (rp s.b) l := by
 constructor
 ·intro h
  rw [has_iff] at h
  obtain ⟨h1, h2⟩ := h
  refine Geo.seg_of_dot ((crs0 s q).2 h1) ?_ ?_ (pt_ne hne)
  ·have e : ((rp q).x - (rp s.a).x) * ((rp s.b).x - (rp s.a).x) + ((rp q).y - (rp s.a).y) * ((rp s.b).y - (rp s.a).y) = (((q.x - s.a.x) * (s.b.x - s.a.x) + (q.y - s.a.y) * (s.b.y - s.a.y) : Int) : Rat) := by
    unfold rp; simp only [Rat.intCast_sub, Rat.intCast_mul, Rat.intCast_add]
   rw [e]
   have s1 := sq0I (q.x - s.a.x)
   have s2 := sq0I (q.y - s.a.y)
   have e3 : (q.x - s.a.x) * (s.b.x - s.a.x) + (q.y - s.a.y) * (s.b.y - s.a.y) = (q.x - s.a.x) * (q.x - s.a.x) + (q.y - s.a.y) * (q.y - s.a.y) - dotP q s.a s.b := by
    unfold dotP; grind
   have : 0 ≤ (q.x - s.a.x) * (s.b.x - s.a.x) + (q.y - s.a.y) * (s.b.y - s.a.y) := by omega
   exact Rat.intCast_nonneg.2 this
  ·have e : ((rp q).x - (rp s.a).x) * ((rp s.b).x - (rp s.a).x) + ((rp q).y - (rp s.a).y) * ((rp s.b).y - (rp s.a).y) = (((q.x - s.a.x) * (s.b.x - s.a.x) + (q.y - s.a.y) * (s.b.y - s.a.y) : Int) : Rat) := by
    unfold rp; simp only [Rat.intCast_sub, Rat.intCast_mul, Rat.intCast_add]
   have e2 : ((rp s.b).x - (rp s.a).x) * ((rp s.b).x - (rp s.a).x) + ((rp s.b).y - (rp s.a).y) * ((rp s.b).y - (rp s.a).y) = (((s.b.x - s.a.x) * (s.b.x - s.a.x) + (s.b.y - s.a.y) * (s.b.y - s.a.y) : Int) : Rat) := by
    unfold rp; simp only [Rat.intCast_sub, Rat.intCast_mul, Rat.intCast_add]
   rw [e, e2, Rat.intCast_le_intCast]
   have s1 := sq0I (q.x - s.b.x)
   have s2 := sq0I (q.y - s.b.y)
   have e3 : ((s.b.x - s.a.x) * (s.b.x - s.a.x) + (s.b.y - s.a.y) * (s.b.y - s.a.y)) - ((q.x - s.a.x) * (s.b.x - s.a.x) + (q.y - s.a.y) * (s.b.y - s.a.y)) = (q.x - s.b.x) * (q.x - s.b.x) + (q.y - s.b.y) * (q.y - s.b.y) - dotP q s.a s.b := by
    unfold dotP; grind
   omega
 ·rintro ⟨l, l0, l1, e⟩; exact has_at l0 l1 e
section
variable {ps : List Pt}
theorem has_mul (hne : ∀ i, i < ps.length → (sd ps i).a ≠ (sd ps i).b) {k : Int} (hk : 0 < k) {i : Nat} (hi : i < ps.length) (q : Pt) : hasP (sd (mulP k ps) i) q = true ↔ ∃ l : Rat, 0 ≤ l ∧ l ≤ 1 ∧ hf q k = at' (ring ps i) (ring ps (i + 1)) l := by
 have hk' : (k : Rat) ≠ 0 := by have := Rat.intCast_pos.2 hk; grind
 rw [has_at_iff]
 ·have e := ring_ps (ps := mulP k ps) i (by rw [mul_length]; exact hi)
  rw [← e.1, ← e.2, ring_mul, ring_mul, ← hf_sc q hk]
  constructor
  ·rintro ⟨l, l0, l1, h⟩; exact ⟨l, l0, l1, sc_inj hk' (by rw [h, sc_at])⟩
  ·rintro ⟨l, l0, l1, h⟩; exact ⟨l, l0, l1, by rw [h, sc_at]⟩
 ·rw [sd_mul k ps hi]
  intro e
  dsimp only at e
  rw [Pt.mk.injEq] at e
  refine hne i hi ?_
  have e1 := Int.eq_of_mul_eq_mul_left (show k ≠ 0 by omega) e.1
  have e2 := Int.eq_of_mul_eq_mul_left (show k ≠ 0 by omega) e.2
  cases h1 : (sd ps i).a
  cases h2 : (sd ps i).b
  rw [h1, h2] at e1 e2
  rw [Pt.mk.injEq]
  exact ⟨e1, e2⟩
theorem where_mul (hp : Pos ps.length (ring ps)) (hne : ∀ i, i < ps.length → (sd ps i).a ≠ (sd ps i).b) {k : Int} (hk : 0 < k) (q : Pt) :
  (whereP (mulP k ps) q = 1 ↔ In ps.length (ring ps) (hf q k)) ∧ (whereP (mulP k ps) q = 0 ↔ ¬ Off ps.length (ring ps) (hf q k)) ∧ (whereP (mulP k ps) q = -1 ↔ Out ps.length (ring ps) (hf q k)) := by
 by_cases hon : ∃ s ∈ sds (mulP k ps), hasP s q = true
 ·have h0 : whereP (mulP k ps) q = 0 := whereFrom_on q _ _ hon
  have hno : ¬ Off ps.length (ring ps) (hf q k) := fun hoff => by
   obtain ⟨s, hs, h⟩ := hon
   obtain ⟨i, hi, rfl⟩ := mem_sds.1 hs
   rw [mul_length] at hi
   obtain ⟨l, l0, l1, e⟩ := (has_mul hne hk hi q).1 h
   exact hoff i l hi l0 l1 e
  refine ⟨⟨fun h => by omega, fun h => absurd h.1 hno⟩, ⟨fun _ => hno, fun _ => h0⟩, ⟨fun h => by omega, fun h => absurd h.1 hno⟩⟩
 ·have hall : ∀ s ∈ sds (mulP k ps), hasP s q = false := fun s hs => by
   cases h : hasP s q
   ·rfl
   ·exact absurd ⟨s, hs, h⟩ hon
  have hoff : Off ps.length (ring ps) (hf q k) := fun i l hi l0 l1 e => by
   have h1 := hall (sd (mulP k ps) i) (mem_sds.2 ⟨i, by rw [mul_length]; exact hi, rfl⟩)
   rw [(has_mul hne hk hi q).2 ⟨l, l0, l1, e⟩] at h1
   cases h1
  have h0 : whereP (mulP k ps) q = if wind ps.length (ring ps) (hf q k) % 2 = 1 then 1 else -1 := by
   have := whereFrom_off q (sds (mulP k ps)) false hall
   rw [← wind_sum, mul_length, wind_mul hk] at this
   unfold whereP
   simpa using this
  rcases hp.two hoff with h | h
  ·rw [h.2] at h0
   simp only [Int.reduceMod, if_true] at h0
   exact ⟨⟨fun _ => h, fun _ => h0⟩, ⟨fun e => by omega, fun h' => absurd hoff h'⟩, ⟨fun e => by omega, fun h' => (h.not_out h').elim⟩⟩
  ·rw [h.2] at h0
   have h0 : whereP (mulP k ps) q = -1 := by simpa using h0
   exact ⟨⟨fun e => by omega, fun h' => (h'.not_out h).elim⟩, ⟨fun e => by omega, fun h' => absurd hoff h'⟩, ⟨fun _ => h, fun _ => h0⟩⟩
theorem polyE_pos (h : polyE ps = 0) : Pos ps.length (ring ps) ∧ ∀ i, i < ps.length → (sd ps i).a ≠ (sd ps i).b := by
 obtain ⟨h1, h2, h3⟩ := polyE_poly h
 have hb : ∀ p ∈ ps, -100000 ≤ p.y ∧ p.y ≤ 100000 := fun p hp => by
  have := h2 p hp
  unfold ptErr at this
  split at this
  ·cases this
  ·omega
 refine ⟨⟨h1.simple, ?_⟩, fun i hi => by rw [sd_cor hi]; exact h1.cor_succ i⟩
 rcases h1.simple.area (fun i _ => ring_bound hb (by have := h1.three; omega) i) with ⟨g, _⟩ | ⟨_, g⟩
 ·exact g
 ·rw [area2_ring] at g
  have := Rat.intCast_neg_iff.1 g
  omega
end
def key (s : Sd) (q : Pt) : Int := dotP s.a s.b q
theorem along_lt {s : Sd} {p q : Pt} : alongS s p q < 0 ↔ key s p < key s q := by
 unfold alongS cmpI key
 split
 ·omega
 ·split <;> omega
def Asc (s : Sd) (l : List Pt) : Prop := l.Pairwise fun p q => key s p < key s q
theorem key_inj {s : Sd} (hne : s.a ≠ s.b) {p q : Pt} (hp : crs s p = 0) (hq : crs s q = 0) (h : key s p = key s q) : p = q := by
 have hL := way_pos hne
 obtain ⟨⟨ax, ay⟩, ⟨bx, by'⟩⟩ := s
 obtain ⟨px, py⟩ := p
 obtain ⟨qx, qy⟩ := q
 simp only [crs, key, dotP] at *
 have kx : (px - qx) * ((bx - ax) * (bx - ax) + (by' - ay) * (by' - ay)) = 0 := by grind
 have ky : (py - qy) * ((bx - ax) * (bx - ax) + (by' - ay) * (by' - ay)) = 0 := by grind
 rw [Pt.mk.injEq]
 constructor
 ·rcases Int.mul_eq_zero.1 kx with h | h <;> omega
 ·rcases Int.mul_eq_zero.1 ky with h | h <;> omega
theorem mem_ins {s : Sd} {q x : Pt} : ∀ {l : List Pt}, x ∈ insP s q l ↔ x = q ∨ x ∈ l
 | [] => by simp [insP]
 | y :: r => by
  unfold insP
  split
  ·simp
  ·split
   ·rename_i h
    have e := ptB_iff.1 h
    subst e
    constructor
    ·intro h; exact .inr h
    ·rintro (h | h)
     ·subst h; exact List.mem_cons_self ..
     ·exact h
   ·rw [List.mem_cons, mem_ins, List.mem_cons]
    constructor
    ·rintro (h | h | h)
     ·exact .inr (.inl h)
     ·exact .inl h
     ·exact .inr (.inr h)
    ·rintro (h | h | h)
     ·exact .inr (.inl h)
     ·exact .inl h
     ·exact .inr (.inr h)
theorem asc_ins {s : Sd} (hne : s.a ≠ s.b) {q : Pt} (hq : crs s q = 0) : ∀ {l : List Pt}, Asc s l → (∀ p ∈ l, crs s p = 0) → Asc s (insP s q l)
 | [], _, _ => by simp [insP, Asc]
 | y :: r, h, hc => by
  obtain ⟨h1, h2⟩ := List.pairwise_cons.1 h
  unfold insP
  split
  ·rename_i hlt
   have hlt := along_lt.1 hlt
   refine List.pairwise_cons.2 ⟨fun p hp => ?_, h⟩
   rcases List.mem_cons.1 hp with e | e
   ·rw [e]; exact hlt
   ·have := h1 p e; omega
  ·rename_i hlt
   split
   ·exact h
   ·rename_i hb
    have hlt : ¬ key s q < key s y := fun hh => hlt (along_lt.2 hh)
    have hdy : key s y < key s q := by
     rcases Int.lt_trichotomy (key s y) (key s q) with hh | hh | hh
     ·exact hh
     ·exact absurd (ptB_iff.2 (key_inj hne hq (hc y (List.mem_cons_self ..)) hh.symm)) hb
     ·exact absurd hh hlt
    refine List.pairwise_cons.2 ⟨fun p hp => ?_, asc_ins hne hq h2 (fun p hp => hc p (List.mem_cons_of_mem _ hp))⟩
    rcases mem_ins.1 hp with e | e
    ·rw [e]; exact hdy
    ·exact h1 p e
theorem fold_ins {s : Sd} (hne : s.a ≠ s.b) : ∀ (l acc : List Pt), (∀ p ∈ l, crs s p = 0) → (∀ p ∈ acc, crs s p = 0) → Asc s acc →
  Asc s (l.foldl (fun a q => insP s q a) acc) ∧ ∀ x, x ∈ l.foldl (fun a q => insP s q a) acc ↔ x ∈ acc ∨ x ∈ l
 | [], acc, _, _, h => ⟨h, fun x => by simp⟩
 | q :: l, acc, hl, ha, h => by
  have hq := hl q (List.mem_cons_self ..)
  obtain ⟨k1, k2⟩ := fold_ins hne l (insP s q acc) (fun p hp => hl p (List.mem_cons_of_mem _ hp)) (fun p hp => by
   rcases mem_ins.1 hp with e | e
   ·rw [e]; exact hq
   ·exact ha p e) (asc_ins hne hq h ha)
  refine ⟨k1, fun x => ?_⟩
  rw [List.foldl_cons, k2, mem_ins, List.mem_cons]
  constructor
  ·rintro ((h | h) | h)
   ·exact .inr (.inl h)
   ·exact .inl h
   ·exact .inr (.inr h)
  ·rintro (h | h | h)
   ·exact .inl (.inr h)
   ·exact .inl (.inl h)
   ·exact .inr h
theorem crs_a0 (s : Sd) : crs s s.a = 0 := by unfold crs; grind
theorem crs_b0 (s : Sd) : crs s s.b = 0 := by unfold crs; grind
theorem at_spec {s : Sd} (hne : s.a ≠ s.b) (other : List Pt) : Asc s (atP s other) ∧ ∀ x, x ∈ atP s other ↔ x = s.a ∨ x = s.b ∨ (x ∈ other ∧ hasP s x = true) := by
 have hc : ∀ p ∈ s.a :: s.b :: other.filter (hasP s), crs s p = 0 := fun p hp => by
  rcases List.mem_cons.1 hp with e | hp
  ·rw [e]; exact crs_a0 s
  ·rcases List.mem_cons.1 hp with e | hp
   ·rw [e]; exact crs_b0 s
   ·exact (has_iff s p).1 (List.mem_filter.1 hp).2 |>.1
 obtain ⟨h1, h2⟩ := fold_ins hne (s.a :: s.b :: other.filter (hasP s)) [] hc (fun p hp => by cases hp) List.Pairwise.nil
 refine ⟨h1, fun x => ?_⟩
 show x ∈ List.foldl (fun a q => insP s q a) [] (s.a :: s.b :: other.filter (hasP s)) ↔ _
 rw [h2, List.mem_cons, List.mem_cons, List.mem_filter]
 simp
theorem mem_pcsOf {s : Sd} {x : Pc} : ∀ {l : List Pt}, x ∈ pcsOf s l ↔ ∃ pre p q post, l = pre ++ p :: q :: post ∧ x = ⟨⟨p.x + q.x, p.y + q.y⟩, s⟩
 | [] => by
  constructor
  ·intro h; cases h
  ·rintro ⟨pre, p, q, post, e, _⟩; cases pre <;> cases e
 | [y] => by
  constructor
  ·intro h; cases h
  ·rintro ⟨pre, p, q, post, e, _⟩
   cases pre with
   | nil => cases e
   | cons a l => cases l <;> cases e
 | y :: z :: r => by
  unfold pcsOf
  rw [List.mem_cons, mem_pcsOf (l := z :: r)]
  constructor
  ·rintro (e | ⟨pre, p, q, post, e, h⟩)
   ·exact ⟨[], y, z, r, rfl, e⟩
   ·exact ⟨y :: pre, p, q, post, by rw [e]; rfl, h⟩
  ·rintro ⟨pre, p, q, post, e, h⟩
   cases pre with
   | nil => cases e; exact .inl h
   | cons a l =>
    rw [List.cons_append, List.cons.injEq] at e
    exact .inr ⟨l, p, q, post, e.2, h⟩
theorem asc_gap {s : Sd} {pre post : List Pt} {p q w : Pt} (h : Asc s (pre ++ p :: q :: post)) (hw : w ∈ pre ++ p :: q :: post) : key s w ≤ key s p ∨ key s q ≤ key s w := by
 unfold Asc at h
 rw [List.pairwise_append] at h
 obtain ⟨_, h2, h3⟩ := h
 obtain ⟨g1, g2⟩ := List.pairwise_cons.1 h2
 obtain ⟨g3, _⟩ := List.pairwise_cons.1 g2
 rcases List.mem_append.1 hw with hw | hw
 ·have := h3 w hw p (List.mem_cons_self ..); exact .inl (by omega)
 ·rcases List.mem_cons.1 hw with e | hw
  ·rw [e]; exact .inl (by omega)
  ·rcases List.mem_cons.1 hw with e | hw
   ·rw [e]; exact .inr (by omega)
   ·have := g3 w hw; exact .inr (by omega)
theorem asc_lt {s : Sd} {pre post : List Pt} {p q : Pt} (h : Asc s (pre ++ p :: q :: post)) : key s p < key s q := by
 unfold Asc at h
 rw [List.pairwise_append] at h
 exact (List.pairwise_cons.1 h.2.1).1 q (List.mem_cons_self ..)
theorem asc_find {f : Pt → Rat} {T : Rat} : ∀ {l : List Pt} {x y : Pt}, l.Pairwise (fun p q => f p < f q) → x ∈ l → f x < T → y ∈ l → T < f y → (∀ w ∈ l, f w ≠ T) → ∃ pre p q post, l = pre ++ p :: q :: post ∧ f p < T ∧ T < f q
 | [], x, y, _, hx, _, _, _, _ => by cases hx
 | [z], x, y, _, hx, h1, hy, h2, _ => by
  rw [List.mem_singleton] at hx hy
  subst hx; subst hy
  grind
 | z :: w :: r, x, y, h, hx, h1, hy, h2, hno => by
  obtain ⟨g1, g2⟩ := List.pairwise_cons.1 h
  have hz : f z < T := by
   rcases List.mem_cons.1 hx with e | hx
   ·rw [← e]; exact h1
   ·have := g1 x hx; grind
  by_cases hw : T < f w
  ·exact ⟨[], z, w, r, rfl, hz, hw⟩
  ·have hw' := hno w (List.mem_cons_of_mem _ (List.mem_cons_self ..))
   have hy' : y ∈ w :: r := by
    rcases List.mem_cons.1 hy with e | hy
    ·rw [e] at h2; grind
    ·exact hy
   obtain ⟨pre, p, q, post, e, k1, k2⟩ := asc_find (l := w :: r) (x := w) (y := y) g2 (List.mem_cons_self ..) (by grind) hy' h2 (fun v hv => hno v (List.mem_cons_of_mem _ hv))
   exact ⟨z :: pre, p, q, post, by rw [e]; rfl, k1, k2⟩
theorem key_at {s : Sd} {q : Pt} {t : Rat} (h : rp q = at' (rp s.a) (rp s.b) t) : ((key s q : Int) : Rat) = t * ((key s s.b : Int) : Rat) := by
 unfold rp at' at h
 rw [RP.mk.injEq] at h
 obtain ⟨h1, h2⟩ := h
 unfold key dotP
 simp only [Rat.intCast_sub, Rat.intCast_mul, Rat.intCast_add]
 rw [h1, h2]
 grind
theorem key_b_pos {s : Sd} (hne : s.a ≠ s.b) : 0 < key s s.b := way_pos hne
theorem key_a (s : Sd) : key s s.a = 0 := by unfold key dotP; grind
def FP (a b : List Pt) (i : Nat) (u v : Rat) : Prop := i < a.length ∧ ∃ pre p q post, atP (sd a i) b = pre ++ p :: q :: post ∧ rp p = at' (ring a i) (ring a (i + 1)) u ∧ rp q = at' (ring a i) (ring a (i + 1)) v
section
variable {a b : List Pt}
theorem at_param (hne : ∀ i, i < a.length → (sd a i).a ≠ (sd a i).b) {i : Nat} (hi : i < a.length) {p : Pt} (hp : p ∈ atP (sd a i) b) : ∃ u : Rat, 0 ≤ u ∧ u ≤ 1 ∧ rp p = at' (ring a i) (ring a (i + 1)) u := by
 have hr := ring_ps (ps := a) i hi
 rw [hr.1, hr.2]
 rcases ((at_spec (hne i hi) b).2 p).1 hp with e | e | ⟨_, e⟩
 ·rw [e]; exact ⟨0, by grind, by grind, (Geo.at0 _ _).symm⟩
 ·rw [e]; exact ⟨1, by grind, by grind, (Geo.at1 _ _).symm⟩
 ·exact (has_at_iff (hne i hi)).1 e
theorem fp_parts (hne : ∀ i, i < a.length → (sd a i).a ≠ (sd a i).b) : Geo.Parts a.length (ring a) b.length (ring b) (FP a b) where
 rng := fun i u v ⟨hi, pre, p, q, post, e, hp, hq⟩ => by
  have hr := ring_ps (ps := a) i hi
  have hasc := (at_spec (hne i hi) b).1
  have hp' : p ∈ atP (sd a i) b := by rw [e]; simp
  have hq' : q ∈ atP (sd a i) b := by rw [e]; simp
  rw [e] at hasc
  have hlt := asc_lt hasc
  obtain ⟨u', u0, u1, eu⟩ := at_param hne hi hp'
  obtain ⟨v', v0, v1, ev⟩ := at_param hne hi hq'
  have rne : ring a i ≠ ring a (i + 1) := by rw [hr.1, hr.2]; exact pt_ne (hne i hi)
  have e1 := Geo.at_inj rne (hp.symm.trans eu)
  have e2 := Geo.at_inj rne (hq.symm.trans ev)
  subst e1; subst e2
  refine ⟨hi, u0, ?_, v1⟩
  rw [hr.1, hr.2] at hp hq
  have k1 := key_at hp
  have k2 := key_at hq
  have hL : (0 : Rat) < ((key (sd a i) (sd a i).b : Int) : Rat) := Rat.intCast_pos.2 (key_b_pos (hne i hi))
  have hlt' := Rat.intCast_lt_intCast.2 hlt
  rw [k1, k2] at hlt'
  have := Geo.pos_of_mul (x := v - u) hL (by grind)
  grind
 clean := fun i u v ⟨hi, pre, p, q, post, e, hp, hq⟩ k hk t t0 t1 hw => by
  have hr := ring_ps (ps := a) i hi
  have hasc := (at_spec (hne i hi) b).1
  have hp' : p ∈ atP (sd a i) b := by rw [e]; simp
  have hq' : q ∈ atP (sd a i) b := by rw [e]; simp
  obtain ⟨u', u0, u1, eu⟩ := at_param hne hi hp'
  obtain ⟨v', v0, v1, ev⟩ := at_param hne hi hq'
  have rne : ring a i ≠ ring a (i + 1) := by rw [hr.1, hr.2]; exact pt_ne (hne i hi)
  have e1 := Geo.at_inj rne (hp.symm.trans eu)
  have e2 := Geo.at_inj rne (hq.symm.trans ev)
  subst e1; subst e2
  have hmem : cor b k ∈ atP (sd a i) b := by
   refine ((at_spec (hne i hi) b).2 _).2 (.inr (.inr ⟨?_, ?_⟩))
   ·unfold cor
    rw [Nat.mod_eq_of_lt hk, List.getElem?_eq_getElem hk]
    exact List.getElem_mem hk
   ·refine (has_at_iff (hne i hi)).2 ⟨t, by grind, by grind, ?_⟩
    rw [← hr.1, ← hr.2]
    exact hw
  have g := asc_gap (e ▸ hasc) (e ▸ hmem)
  unfold ring at hw
  change rp (cor b k) = at' (ring a i) (ring a (i + 1)) t at hw
  rw [hr.1, hr.2] at hp hq hw
  have k1 := key_at hp
  have k2 := key_at hq
  have k3 := key_at hw
  have hL : (0 : Rat) < ((key (sd a i) (sd a i).b : Int) : Rat) := Rat.intCast_pos.2 (key_b_pos (hne i hi))
  rcases g with g | g
  ·have g' := Rat.intCast_le_intCast.2 g
   rw [k1, k3] at g'
   have := Geo.nonneg_of_mul (x := u - t) hL (by grind)
   grind
  ·have g' := Rat.intCast_le_intCast.2 g
   rw [k2, k3] at g'
   have := Geo.nonneg_of_mul (x := t - v) hL (by grind)
   grind
 cover := fun i t hi t0 t1 hno => by
  have hr := ring_ps (ps := a) i hi
  obtain ⟨hasc, hmem⟩ := at_spec (hne i hi) b
  have hL : (0 : Rat) < ((key (sd a i) (sd a i).b : Int) : Rat) := Rat.intCast_pos.2 (key_b_pos (hne i hi))
  have rne : ring a i ≠ ring a (i + 1) := by rw [hr.1, hr.2]; exact pt_ne (hne i hi)
  obtain ⟨pre, p, q, post, e, h1, h2⟩ := asc_find (f := fun p => ((key (sd a i) p : Int) : Rat)) (T := t * ((key (sd a i) (sd a i).b : Int) : Rat)) (l := atP (sd a i) b) (x := (sd a i).a) (y := (sd a i).b)
   (List.Pairwise.imp (fun h => Rat.intCast_lt_intCast.2 h) hasc) ((hmem _).2 (.inl rfl)) (by rw [key_a]; exact Geo.mul_pp t0 hL) ((hmem _).2 (.inr (.inl rfl))) (by
    have := Geo.mul_pp (a := 1 - t) (by grind) hL
    grind) (fun w hw eq => by
    obtain ⟨u, u0, u1, eu⟩ := at_param hne hi hw
    have eu' := eu
    rw [hr.1, hr.2] at eu'
    have k := key_at eu'
    rw [eq] at k
    have hut : u = t := by
     have : (t - u) * ((key (sd a i) (sd a i).b : Int) : Rat) = 0 := by grind
     rcases Rat.mul_eq_zero.1 this with z | z
     ·grind
     ·grind
    subst hut
    rcases (hmem w).1 hw with e | e | ⟨e, _⟩
    ·rw [e, ← hr.1] at eu
     have := Geo.at_inj rne ((Geo.at0 _ _).trans eu)
     grind
    ·rw [e, ← hr.2] at eu
     have := Geo.at_inj rne ((Geo.at1 _ _).trans eu)
     grind
    ·obtain ⟨k, hk, rfl⟩ := List.getElem_of_mem e
     refine hno k hk ?_
     unfold ring cor
     rw [Nat.mod_eq_of_lt hk, List.getElem?_eq_getElem hk]
     exact eu)
  have hp' : p ∈ atP (sd a i) b := by rw [e]; simp
  have hq' : q ∈ atP (sd a i) b := by rw [e]; simp
  obtain ⟨u, u0, u1, eu⟩ := at_param hne hi hp'
  obtain ⟨v, v0, v1, ev⟩ := at_param hne hi hq'
  refine ⟨u, v, ⟨hi, pre, p, q, post, e, eu, ev⟩, ?_, ?_⟩
  ·rw [hr.1, hr.2] at eu
   rw [key_at eu] at h1
   have := Geo.pos_of_mul (x := t - u) hL (by grind)
   grind
  ·rw [hr.1, hr.2] at ev
   rw [key_at ev] at h2
   have := Geo.pos_of_mul (x := v - t) hL (by grind)
   grind
theorem half_mid {A B : RP} {p q : Pt} {u v : Rat} (hp : rp p = at' A B u) (hq : rp q = at' A B v) : hf ⟨p.x + q.x, p.y + q.y⟩ 2 = at' A B ((u + v) / 2) := by
 unfold rp at' at hp hq
 rw [RP.mk.injEq] at hp hq
 unfold hf at'
 dsimp only
 rw [RP.mk.injEq, Rat.intCast_add, Rat.intCast_add, hp.1, hp.2, hq.1, hq.2]
 constructor <;> grind
theorem pcs_fp (hne : ∀ i, i < a.length → (sd a i).a ≠ (sd a i).b) (f : Pc → Prop) : (∃ x ∈ pcsP a b, f x) ↔ ∃ i u v, FP a b i u v ∧ ∃ m : Pt, f ⟨m, sd a i⟩ ∧ hf m 2 = at' (ring a i) (ring a (i + 1)) ((u + v) / 2) ∧ ∃ x ∈ pcsP a b, x = ⟨m, sd a i⟩ := by
 constructor
 ·rintro ⟨x, hx, hfx⟩
  unfold pcsP at hx
  obtain ⟨s, hs, hx'⟩ := List.mem_flatMap.1 hx
  obtain ⟨i, hi, rfl⟩ := mem_sds.1 hs
  obtain ⟨pre, p, q, post, e, rfl⟩ := mem_pcsOf.1 hx'
  obtain ⟨u, _, _, eu⟩ := at_param (b := b) hne hi (p := p) (by rw [e]; simp)
  obtain ⟨v, _, _, ev⟩ := at_param (b := b) hne hi (p := q) (by rw [e]; simp)
  exact ⟨i, u, v, ⟨hi, pre, p, q, post, e, eu, ev⟩, _, hfx, half_mid eu ev, _, hx, rfl⟩
 ·rintro ⟨i, u, v, _, m, hm, _, x, hx, e⟩
  exact ⟨x, hx, e ▸ hm⟩
theorem fp_pcs {i : Nat} {u v : Rat} (h : FP a b i u v) : ∃ x ∈ pcsP a b, x.of = sd a i ∧ hf x.mid 2 = at' (ring a i) (ring a (i + 1)) ((u + v) / 2) := by
 obtain ⟨hi, pre, p, q, post, e, hp, hq⟩ := h
 refine ⟨⟨⟨p.x + q.x, p.y + q.y⟩, sd a i⟩, ?_, rfl, half_mid hp hq⟩
 unfold pcsP
 exact List.mem_flatMap.2 ⟨_, mem_sds.2 ⟨i, hi, rfl⟩, mem_pcsOf.2 ⟨pre, p, q, post, e, rfl⟩⟩
theorem pcs_mem (hne : ∀ i, i < a.length → (sd a i).a ≠ (sd a i).b) {x : Pc} (hx : x ∈ pcsP a b) : ∃ i u v, FP a b i u v ∧ x.of = sd a i ∧ hf x.mid 2 = at' (ring a i) (ring a (i + 1)) ((u + v) / 2) := by
 obtain ⟨i, u, v, h, m, e, hm, _⟩ := (pcs_fp hne (fun y => y = x)).1 ⟨x, hx, rfl⟩
 exact ⟨i, u, v, h, by rw [← e], by rw [← e]; exact hm⟩
theorem cross_iff {i k : Nat} (hi : i < a.length) (hk : k < b.length) : crosS (sd a i) (sd b k) = true ↔ Geo.CrossR (ring a i) (ring a (i + 1)) (ring b k) (ring b (k + 1)) := by
 have h1 := ring_ps (ps := a) i hi
 have h2 := ring_ps (ps := b) k hk
 rw [h1.1, h1.2, h2.1, h2.2]
 unfold crosS Geo.CrossR
 rw [Bool.and_eq_true, decide_eq_true_iff, decide_eq_true_iff, trn_mul, trn_mul]
 simp only [crs_pos, crs_neg]
theorem crossP_iff : crossP a b = true ↔ ¬ Geo.NoCross a.length (ring a) b.length (ring b) := by
 unfold crossP
 simp only [List.any_eq_true]
 constructor
 ·rintro ⟨s, hs, t, ht, hc⟩ hno
  obtain ⟨i, hi, rfl⟩ := mem_sds.1 hs
  obtain ⟨k, hk, rfl⟩ := mem_sds.1 ht
  exact hno i k hi hk ((cross_iff hi hk).1 hc)
 ·intro h
  refine Classical.byContradiction fun hn => h fun i k hi hk hc => hn ⟨_, mem_sds.2 ⟨i, hi, rfl⟩, _, mem_sds.2 ⟨k, hk, rfl⟩, (cross_iff hi hk).2 hc⟩
theorem enters_iff (hne : ∀ i, i < a.length → (sd a i).a ≠ (sd a i).b) (hB : Pos b.length (ring b)) (hnb : ∀ i, i < b.length → (sd b i).a ≠ (sd b i).b) : entersP a b = true ↔ Geo.Enters (ring a) b.length (ring b) (FP a b) := by
 have dot2 : ∀ {i k : Nat}, i < a.length → k < b.length → ((0 < ((sd a i).b.x - (sd a i).a.x) * ((sd (dblP b) k).b.x - (sd (dblP b) k).a.x) + ((sd a i).b.y - (sd a i).a.y) * ((sd (dblP b) k).b.y - (sd (dblP b) k).a.y)) ↔
   0 < ((ring a (i + 1)).x - (ring a i).x) * ((ring b (k + 1)).x - (ring b k).x) + ((ring a (i + 1)).y - (ring a i).y) * ((ring b (k + 1)).y - (ring b k).y)) := fun {i k} hi hk => by
  have h1 := ring_ps (ps := a) i hi
  have h2 := ring_ps (ps := b) k hk
  rw [h1.1, h1.2, h2.1, h2.2, dbl_mul, sd_mul 2 b hk, ← Rat.intCast_pos]
  unfold rp
  dsimp only
  simp only [Rat.intCast_sub, Rat.intCast_mul, Rat.intCast_add]
  constructor <;> intro h <;> grind
 unfold entersP
 rw [List.any_eq_true]
 constructor
 ·rintro ⟨x, hx, h⟩
  obtain ⟨i, u, v, hf', hof, hm⟩ := pcs_mem hne hx
  have hw := where_mul hB hnb (k := 2) (by decide) x.mid
  rw [← dbl_mul, hm] at hw
  refine ⟨i, u, v, hf', ?_⟩
  split at h
  ·rename_i h1
   exact .inl (hw.1.1 h1)
  ·split at h
   ·rw [List.any_eq_true] at h
    obtain ⟨t, ht, h⟩ := h
    rw [Bool.and_eq_true, decide_eq_true_iff] at h
    obtain ⟨k, hk, rfl⟩ := mem_sds.1 ht
    rw [dbl_mul, mul_length] at hk
    obtain ⟨r, r0, r1, er⟩ := (has_mul hnb (k := 2) (by decide) hk x.mid).1 h.1
    refine .inr ⟨k, r, hk, r0, r1, hm ▸ er, ?_⟩
    rw [hof] at h
    exact (dot2 hf'.1 hk).1 h.2
   ·cases h
 ·rintro ⟨i, u, v, hf', h⟩
  obtain ⟨x, hx, hof, hm⟩ := fp_pcs hf'
  have hw := where_mul hB hnb (k := 2) (by decide) x.mid
  rw [← dbl_mul, hm] at hw
  refine ⟨x, hx, ?_⟩
  rcases h with h | ⟨k, r, hk, r0, r1, er, hd⟩
  ·rw [if_pos (hw.1.2 h)]
  ·have h0 : whereP (dblP b) x.mid = 0 := hw.2.1.2 fun hoff => hoff k r hk r0 r1 er
   rw [if_neg (by omega), if_pos h0, List.any_eq_true]
   refine ⟨sd (dblP b) k, mem_sds.2 ⟨k, by rw [dbl_mul, mul_length]; exact hk, rfl⟩, ?_⟩
   rw [Bool.and_eq_true, decide_eq_true_iff]
   refine ⟨(has_mul hnb (k := 2) (by decide) hk x.mid).2 ⟨r, r0, r1, hm ▸ er⟩, ?_⟩
   rw [hof]
   exact (dot2 hf'.1 hk).2 hd
theorem overlap_over (ha : polyE a = 0) (hb : polyE b = 0) : overlapP a b = true ↔ Geo.Over a.length (ring a) b.length (ring b) := by
 obtain ⟨pa, na⟩ := polyE_pos ha
 obtain ⟨pb, nb⟩ := polyE_pos hb
 rw [Geo.over_iff pa pb (fp_parts na) (fp_parts nb)]
 unfold overlapP
 rw [Bool.or_eq_true, Bool.or_eq_true, crossP_iff, enters_iff na pb nb, enters_iff nb pa na]
end
end Cal
end Go.Proofs.Ytfcjeejhdklkdaa
namespace Go.Proofs.Ytfcjeejhdklkdaa
namespace Geo
theorem mod_shift {n a b s : Nat} (hn : 0 < n) (h : (a + s) % n = (b + s) % n) : a % n = b % n := by
 have key : ∀ a, a % n = ((a + s) % n + (n - s % n)) % n := fun a => by
  have hs := Nat.mod_lt s hn
  have hd := Nat.div_add_mod s n
  have : a + s + (n - s % n) = a + n * (s / n + 1) := by
   rw [Nat.mul_add, Nat.mul_one]; omega
  rw [Nat.mod_add_mod, this, Nat.add_mul_mod_self_left]
 rw [key a, key b, h]
theorem mod_small {n a b : Nat} (ha : a < n) (hb : b < n) {s : Nat} (h : (s + a) % n = (s + b) % n) : a = b := by
 have := mod_shift (n := n) (a := a) (b := b) (s := s) (by omega) (by rw [Nat.add_comm a, Nat.add_comm b]; exact h)
 rwa [Nat.mod_eq_of_lt ha, Nat.mod_eq_of_lt hb] at this
section
variable {n : Nat} {P : Nat → RP}
theorem Simple.next (h : Simple n P) (x : Nat) : P (x % n + 1) = P (x + 1) := by
 rw [← h.mod (x % n + 1), Nat.mod_add_mod, h.mod]
theorem Simple.touch_mod (h : Simple n P) {x y : Nat} (hxy : x % n ≠ y % n) {l m : Rat} (l0 : 0 ≤ l) (l1 : l ≤ 1) (m0 : 0 ≤ m) (m1 : m ≤ 1) (e : at' (P x) (P (x + 1)) l = at' (P y) (P (y + 1)) m) :
  (y % n = (x + 1) % n ∧ l = 1 ∧ m = 0) ∨ (x % n = (y + 1) % n ∧ l = 0 ∧ m = 1) := by
 have h3 := h.three
 have hx := Nat.mod_lt x (show 0 < n by omega)
 have hy := Nat.mod_lt y (show 0 < n by omega)
 have := h.touch (x % n) (y % n) hx hy hxy l m l0 l1 m0 m1 (by rw [h.mod, h.mod, h.next, h.next]; exact e)
 rw [Nat.mod_add_mod, Nat.mod_add_mod] at this
 exact this
theorem Simple.corner_ne (h : Simple n P) {x y : Nat} (hxy : x % n ≠ y % n) : P x ≠ P y := fun e => by
 rcases h.touch_mod hxy (l := 0) (m := 0) (by grind) (by grind) (by grind) (by grind) (by rw [at0, at0]; exact e) with ⟨_, z, _⟩ | ⟨_, _, z⟩ <;> grind
theorem Off.mod (h : Simple n P) {q : RP} : Off n P q ↔ ∀ i (l : Rat), 0 ≤ l → l ≤ 1 → q ≠ at' (P i) (P (i + 1)) l := by
 constructor
 ·intro ho i l l0 l1 e
  have h3 := h.three
  refine ho (i % n) l (Nat.mod_lt _ (by omega)) l0 l1 ?_
  rw [h.mod, h.next]
  exact e
 ·intro ho i l _ l0 l1 e
  exact ho i l l0 l1 e
def shiftP (P : Nat → RP) (s : Nat) : Nat → RP := fun t => P (t + s)
theorem Simple.shift (h : Simple n P) (s : Nat) : Simple n (shiftP P s) where
 three := h.three
 per := fun i => by
  show P (i + n + s) = P (i + s)
  rw [show i + n + s = i + s + n by omega, h.per]
 ne := fun i => by
  have := h.ne (i + s)
  rwa [show i + s + 1 = i + 1 + s by omega] at this
 touch := fun i k hi hk hik l m l0 l1 m0 m1 e => by
  have h3 := h.three
  have hne : (i + s) % n ≠ (k + s) % n := fun e => by
   have := mod_shift (by omega) e
   rw [Nat.mod_eq_of_lt hi, Nat.mod_eq_of_lt hk] at this
   exact hik this
  have e' : at' (P (i + s)) (P (i + s + 1)) l = at' (P (k + s)) (P (k + s + 1)) m := by
   rw [show i + s + 1 = i + 1 + s by omega, show k + s + 1 = k + 1 + s by omega]; exact e
  rcases h.touch_mod hne l0 l1 m0 m1 e' with ⟨a, b, c⟩ | ⟨a, b, c⟩
  ·refine .inl ⟨?_, b, c⟩
   rw [show i + s + 1 = i + 1 + s by omega] at a
   have := mod_shift (by omega) a
   rwa [Nat.mod_eq_of_lt hk] at this
  ·refine .inr ⟨?_, b, c⟩
   rw [show k + s + 1 = k + 1 + s by omega] at a
   have := mod_shift (by omega) a
   rwa [Nat.mod_eq_of_lt hi] at this
theorem sumZ_first (f : Nat → Int) : ∀ n, sumZ f (n + 1) = f 0 + sumZ (fun i => f (i + 1)) n
 | 0 => by simp [sumZ]
 | n + 1 => by rw [sumZ, sumZ_first f n, sumZ]; omega
theorem sumZ_shift {f : Nat → Int} {n : Nat} (hper : ∀ i, f (i + n) = f i) : ∀ s, sumZ (fun i => f (i + s)) n = sumZ f n
 | 0 => rfl
 | s + 1 => by
  rw [← sumZ_shift hper s]
  cases n with
  | zero => rfl
  | succ n =>
   rw [sumZ_first (fun i => f (i + s)) n, sumZ]
   have e : f (n + (s + 1)) = f (0 + s) := by
    have := hper (0 + s)
    rw [← this]
    congr 1; omega
   rw [e]
   have : sumZ (fun i => f (i + (s + 1))) n = sumZ (fun i => f (i + 1 + s)) n := sumZ_congr fun i _ => by congr 1; omega
   rw [this]
   omega
theorem sumZ_append (f : Nat → Int) (a : Nat) : ∀ b, sumZ f (a + b) = sumZ f a + sumZ (fun i => f (i + a)) b
 | 0 => by simp [sumZ]
 | b + 1 => by rw [show a + (b + 1) = a + b + 1 by omega, sumZ, sumZ_append f a b, sumZ, show b + a = a + b by omega]; omega
theorem Simple.wind_shift (h : Simple n P) (s : Nat) (q : RP) : wind n (shiftP P s) q = wind n P q := by
 unfold wind
 have := sumZ_shift (f := fun i => wc (P i) (P (i + 1)) q) (n := n) (fun i => by
  rw [h.per, show i + n + 1 = i + 1 + n by omega, h.per]) s
 rw [← this]
 refine sumZ_congr fun i _ => ?_
 show wc (P (i + s)) (P (i + 1 + s)) q = wc (P (i + s)) (P (i + s + 1)) q
 rw [show i + 1 + s = i + s + 1 by omega]
theorem Simple.side_wind (h : Simple n P) {i : Nat} (hi : i < n) {t : Rat} (t0 : 0 < t) (t1 : t < 1) :
  ∃ e : Rat, 0 < e ∧ ∀ q, Near e (at' (P i) (P (i + 1)) t) q → (0 < crs (P i) (P (i + 1)) q → Off n P q ∧ wind n P q = lam n P 0) ∧ (crs (P i) (P (i + 1)) q < 0 → Off n P q ∧ wind n P q = lam n P 0 - 1) := by
 obtain ⟨e, e0, he⟩ := near_all (n := n) (b := at' (P i) (P (i + 1)) t) (p := fun k r => k ≠ i → ∀ l : Rat, 0 ≤ l → l ≤ 1 → r ≠ at' (P k) (P (k + 1)) l) (fun k hk => by
  by_cases hki : k = i
  ·exact ⟨1, by grind, fun _ _ h => absurd hki h⟩
  ·obtain ⟨e, e0, he⟩ := near_off (h.ne k) (b := at' (P i) (P (i + 1)) t) (fun l l0 l1 => h.open_off hi hk (Ne.symm hki) t0 t1 l0 l1)
   exact ⟨e, e0, fun q hq _ => he q hq⟩)
 have see : ∀ z : Rat, ∀ q, Near e (at' (P i) (P (i + 1)) t) q → 0 < z * crs (P i) (P (i + 1)) q → Sees n P z i q := fun z q hq hc =>
  ⟨t, t0, t1, hc, fun k hk hki l m l0 l1 m0 m1 eq => he _ (hq.seg (Near.self e0 _) m0 m1) k hk hki l l0 l1 eq.symm⟩
 refine ⟨e, e0, fun q hq => ⟨fun hc => ?_, fun hc => ?_⟩⟩
 ·have hs := see 1 q hq (by grind)
  exact ⟨hs.off, h.sees_left hi hs⟩
 ·have hs := see (-1) q hq (by grind)
  exact ⟨hs.off, h.sees_right hi hs⟩
def cutP (P : Nat → RP) (i j : Nat) : Nat → RP := fun t => P (i + t % (j - i + 1))
theorem cut_side {i j a : Nat} (ha : a < j - i) : cutP P i j a = P (i + a) ∧ cutP P i j (a + 1) = P (i + a + 1) := by
 unfold cutP
 rw [Nat.mod_eq_of_lt (by omega), Nat.mod_eq_of_lt (by omega)]
 exact ⟨rfl, rfl⟩
theorem cut_last {i j : Nat} (hij : i ≤ j) : cutP P i j (j - i) = P j ∧ cutP P i j (j - i + 1) = P i := by
 unfold cutP
 rw [Nat.mod_eq_of_lt (by omega), Nat.mod_self]
 exact ⟨by congr 1; omega, rfl⟩
theorem cut_simple2 (h : Simple n P) {i j : Nat} (hij : i + 2 ≤ j) (hji : j + 2 ≤ i + n) (hoff : ∀ t : Rat, 0 < t → t < 1 → ∀ a, a < j - i → ∀ l : Rat, 0 ≤ l → l ≤ 1 → at' (P j) (P i) t ≠ at' (P (i + a)) (P (i + a + 1)) l) : Simple (j - i + 1) (cutP P i j) := by
 have h3 := h.three
 have hne_ij : P j ≠ P i := h.corner_ne fun e => by
  have := mod_small (n := n) (a := j - i) (b := 0) (s := i) (by omega) (by omega) (by rw [show i + (j - i) = j by omega]; exact e)
  omega
 have per : ∀ t, cutP P i j (t + (j - i + 1)) = cutP P i j t := fun t => by unfold cutP; rw [Nat.add_mod_right]
 have ne0 : ∀ t, t < j - i + 1 → cutP P i j t ≠ cutP P i j (t + 1) := fun t ht => by
  by_cases hl : t < j - i
  ·rw [(cut_side hl).1, (cut_side hl).2]; exact h.ne _
  ·have : t = j - i := by omega
   subst this
   rw [(cut_last (by omega)).1, (cut_last (by omega)).2]; exact hne_ij
 have md : ∀ t, cutP P i j (t % (j - i + 1)) = cutP P i j t := fun t => by unfold cutP; rw [Nat.mod_mod]
 have md1 : ∀ t, cutP P i j (t % (j - i + 1) + 1) = cutP P i j (t + 1) := fun t => by unfold cutP; rw [Nat.mod_add_mod]
 have reg : ∀ a b, a < j - i → b < j - i → a ≠ b → ∀ l m : Rat, 0 ≤ l → l ≤ 1 → 0 ≤ m → m ≤ 1 → at' (P (i + a)) (P (i + a + 1)) l = at' (P (i + b)) (P (i + b + 1)) m → (b = a + 1 ∧ l = 1 ∧ m = 0) ∨ (a = b + 1 ∧ l = 0 ∧ m = 1) := by
  intro a b ha hb hab l m l0 l1 m0 m1 e
  rcases h.touch_mod (fun e => hab (mod_small (by omega) (by omega) e)) l0 l1 m0 m1 e with ⟨x, y, z⟩ | ⟨x, y, z⟩
  ·exact .inl ⟨mod_small (n := n) (s := i) (by omega) (by omega) (by rw [show i + (a + 1) = i + a + 1 by omega]; exact x), y, z⟩
  ·exact .inr ⟨mod_small (n := n) (s := i) (by omega) (by omega) (by rw [show i + (b + 1) = i + b + 1 by omega]; exact x), y, z⟩
 have dia : ∀ a, a < j - i → ∀ l m : Rat, 0 ≤ l → l ≤ 1 → 0 ≤ m → m ≤ 1 → at' (P (i + a)) (P (i + a + 1)) l = at' (P j) (P i) m → (a + 1 = j - i ∧ l = 1 ∧ m = 0) ∨ (a = 0 ∧ l = 0 ∧ m = 1) := by
  intro a ha l m l0 l1 m0 m1 e
  by_cases hm0 : m = 0
  ·subst hm0
   rw [at0] at e
   have e2 : at' (P (i + a)) (P (i + a + 1)) l = at' (P j) (P (j + 1)) 0 := by rw [at0]; exact e
   rcases h.touch_mod (fun e => by have := mod_small (n := n) (a := a) (b := j - i) (s := i) (by omega) (by omega) (by rw [show i + (j - i) = j by omega]; exact e); omega) l0 l1 (by grind) (by grind) e2 with ⟨x, y, _⟩ | ⟨_, _, z⟩
   ·have := mod_small (n := n) (a := j - i) (b := a + 1) (s := i) (by omega) (by omega) (by rw [show i + (j - i) = j by omega, show i + (a + 1) = i + a + 1 by omega]; exact x)
    exact .inl ⟨this.symm, y, rfl⟩
   ·grind
  ·by_cases hm1 : m = 1
   ·subst hm1
    rw [at1] at e
    by_cases ha0 : a = 0
    ·subst ha0
     refine .inr ⟨rfl, ?_, rfl⟩
     exact at_inj (h.ne (i + 0)) (by rw [e, at0]; rfl)
    ·have e2 : at' (P (i + a)) (P (i + a + 1)) l = at' (P i) (P (i + 1)) 0 := by rw [at0]; exact e
     rcases h.touch_mod (fun e => ha0 (mod_small (n := n) (a := a) (b := 0) (s := i) (by omega) (by omega) e)) l0 l1 (by grind) (by grind) e2 with ⟨x, _, _⟩ | ⟨_, _, z⟩
     ·have := mod_small (n := n) (a := 0) (b := a + 1) (s := i) (by omega) (by omega) (by rw [show i + (a + 1) = i + a + 1 by omega]; exact x)
      omega
     ·grind
   ·exact absurd e.symm (hoff m (by grind) (by grind) a ha l l0 l1)
 refine ⟨by omega, per, fun t => ?_, fun a b ha hb hab l m l0 l1 m0 m1 e => ?_⟩
 ·have := ne0 (t % (j - i + 1)) (Nat.mod_lt _ (by omega))
  rwa [md, md1] at this
 ·by_cases ha' : a < j - i
  ·rw [(cut_side ha').1, (cut_side ha').2] at e
   by_cases hb' : b < j - i
   ·rw [(cut_side hb').1, (cut_side hb').2] at e
    rcases reg a b ha' hb' hab l m l0 l1 m0 m1 e with ⟨x, y, z⟩ | ⟨x, y, z⟩
    ·exact .inl ⟨by rw [Nat.mod_eq_of_lt (by omega)]; exact x, y, z⟩
    ·exact .inr ⟨by rw [Nat.mod_eq_of_lt (by omega)]; exact x, y, z⟩
   ·have hbe : b = j - i := by omega
    subst hbe
    rw [(cut_last (by omega)).1, (cut_last (by omega)).2] at e
    rcases dia a ha' l m l0 l1 m0 m1 e with ⟨x, y, z⟩ | ⟨x, y, z⟩
    ·exact .inl ⟨by rw [Nat.mod_eq_of_lt (by omega)]; omega, y, z⟩
    ·exact .inr ⟨by rw [Nat.mod_self]; exact x, y, z⟩
  ·have hae : a = j - i := by omega
   subst hae
   have hb' : b < j - i := by omega
   rw [(cut_last (by omega)).1, (cut_last (by omega)).2, (cut_side hb').1, (cut_side hb').2] at e
   rcases dia b hb' m l m0 m1 l0 l1 e.symm with ⟨x, y, z⟩ | ⟨x, y, z⟩
   ·exact .inr ⟨by rw [Nat.mod_eq_of_lt (by omega)]; omega, z, y⟩
   ·exact .inl ⟨by rw [Nat.mod_self]; exact x, z, y⟩
theorem cut_simple (h : Simple n P) {i j : Nat} (hij : i + 2 ≤ j) (hji : j + 2 ≤ i + n) (hoff : ∀ t : Rat, 0 < t → t < 1 → Off n P (at' (P j) (P i) t)) : Simple (j - i + 1) (cutP P i j) :=
 cut_simple2 h hij hji fun t t0 t1 a _ l l0 l1 => (Off.mod h).1 (hoff t t0 t1) (i + a) l l0 l1
theorem cut_wind (h : Simple n P) {i j : Nat} (hij : i ≤ j) (hji : j ≤ i + n) (q : RP) : wind n P q = wind (j - i + 1) (cutP P i j) q + wind (i + n - j + 1) (cutP P j (i + n)) q := by
 have one : ∀ i j, i ≤ j → wind (j - i + 1) (cutP P i j) q = sumZ (fun t => wc (P (t + i)) (P (t + i + 1)) q) (j - i) + wc (P j) (P i) q := fun i j hij => by
  unfold wind
  rw [sumZ, (cut_last hij).1, (cut_last hij).2]
  congr 1
  refine sumZ_congr fun t ht => ?_
  rw [(cut_side ht).1, (cut_side ht).2, show i + t = t + i by omega]
 rw [one i j hij, one j (i + n) hji, h.per, wc_rev (P j) (P i)]
 have e := h.wind_shift i q
 unfold wind at e ⊢
 rw [← e, show n = (j - i) + (i + n - j) by omega, sumZ_append, show (j - i) + (i + n - j) = n by omega]
 have e1 : sumZ (fun t => wc (shiftP P i t) (shiftP P i (t + 1)) q) (j - i) = sumZ (fun t => wc (P (t + i)) (P (t + i + 1)) q) (j - i) := sumZ_congr fun t _ => by
  show wc (P (t + i)) (P (t + 1 + i)) q = _
  rw [show t + 1 + i = t + i + 1 by omega]
 have e2 : sumZ (fun t => wc (shiftP P i (t + (j - i))) (shiftP P i (t + (j - i) + 1)) q) (i + n - j) = sumZ (fun t => wc (P (t + j)) (P (t + j + 1)) q) (i + n - j) := sumZ_congr fun t _ => by
  show wc (P (t + (j - i) + i)) (P (t + (j - i) + 1 + i)) q = _
  rw [show t + (j - i) + i = t + j by omega, show t + (j - i) + 1 + i = t + j + 1 by omega]
 rw [e1, e2]
 omega
structure Diag (n : Nat) (P : Nat → RP) (i j : Nat) : Prop where
 lo : i + 2 ≤ j
 hi : j + 2 ≤ i + n
 ins : ∀ t : Rat, 0 < t → t < 1 → In n P (at' (P j) (P i) t)
theorem Diag.back (h : Simple n P) {i j : Nat} (hd : Diag n P i j) : Diag n P j (i + n) := by
 have := hd.lo
 have := hd.hi
 refine ⟨by omega, by omega, fun t t0 t1 => ?_⟩
 rw [h.per, at_rev]
 exact hd.ins _ (by grind) (by grind)
theorem Diag.simple (h : Simple n P) {i j : Nat} (hd : Diag n P i j) : Simple (j - i + 1) (cutP P i j) := cut_simple h hd.lo hd.hi fun t t0 t1 => (hd.ins t t0 t1).1
theorem Diag.pos (h : Pos n P) {i j : Nat} (hd : Diag n P i j) : Pos (j - i + 1) (cutP P i j) := by
 have g1 := hd.lo
 have g2 := hd.hi
 have s1 := hd.simple h.sim
 have s2 := (hd.back h.sim).simple h.sim
 obtain ⟨e1, e10, k1⟩ := s1.side_wind (i := j - i) (by omega) (t := 1 / 2) (by grind) (by grind)
 obtain ⟨e2, e20, k2⟩ := s2.side_wind (i := i + n - j) (by omega) (t := 1 / 2) (by grind) (by grind)
 rw [(cut_last (by omega)).1, (cut_last (by omega)).2] at k1 k2
 rw [h.sim.per] at k2
 have em : at' (P i) (P j) (1 / 2) = at' (P j) (P i) (1 / 2) := by rw [at_rev]; congr 1; grind
 rw [em] at k2
 obtain ⟨e3, e30, k3⟩ := (hd.ins (1 / 2) (by grind) (by grind)).near h.sim
 obtain ⟨g, g0, ga, gb, gc⟩ : ∃ g : Rat, 0 < g ∧ g ≤ e1 ∧ g ≤ e2 ∧ g ≤ e3 := by
  rcases Rat.le_total (a := e1) (b := e2) with a | a <;> rcases Rat.le_total (a := e1) (b := e3) with b | b <;> rcases Rat.le_total (a := e2) (b := e3) with c | c
  ·exact ⟨e1, e10, by grind, a, b⟩
  ·exact ⟨e1, e10, by grind, a, b⟩
  ·exact ⟨e3, e30, b, by grind, by grind⟩
  ·exact ⟨e3, e30, b, by grind, by grind⟩
  ·exact ⟨e2, e20, a, by grind, c⟩
  ·exact ⟨e3, e30, by grind, c, by grind⟩
  ·exact ⟨e2, e20, a, by grind, c⟩
  ·exact ⟨e3, e30, by grind, c, by grind⟩
 have hne : P j ≠ P i := h.sim.corner_ne fun e => by
  have := mod_small (n := n) (a := j - i) (b := 0) (s := i) (by omega) (by omega) (by rw [show i + (j - i) = j by omega]; exact e)
  omega
 obtain ⟨q, hq, hc⟩ := left_pt hne (crs_at _ _ (1 / 2)) (.inl rfl) g0
 have w1 := ((k1 q (hq.mono ga)).1 (by grind)).2
 have w2 := ((k2 q (hq.mono gb)).2 (by rw [crs_rev]; grind)).2
 have w3 := (k3 q (hq.mono gc)).2
 have hs := cut_wind h.sim (show i ≤ j by omega) (show j ≤ i + n by omega) q
 have l1 := s1.lam_two
 have l2 := s2.lam_two
 exact ⟨s1, by omega⟩
end
def triP (a b c : RP) : Nat → RP := fun t => if t % 3 = 0 then a else if t % 3 = 1 then b else c
theorem crs_cyc (a b c : RP) : crs b c a = crs a b c ∧ crs c a b = crs a b c := by constructor <;> (unfold crs; grind)
section
variable {a b c : RP}
theorem tri_adj (h : 0 < crs a b c) {l m : Rat} (e : at' a b l = at' b c m) : l = 1 ∧ m = 0 := by
 have h1 : crs a b (at' b c m) = m * crs a b c := by unfold crs at'; dsimp only; grind
 rw [← e, crs_at] at h1
 have hm : m = 0 := by
  rcases Rat.mul_eq_zero.1 h1.symm with z | z
  ·exact z
  ·grind
 subst hm
 rw [at0] at e
 refine ⟨?_, rfl⟩
 have hab : a ≠ b := fun e => by subst e; unfold crs at h; grind
 exact at_inj hab (by rw [e, at1])
theorem tri_simple (h : 0 < crs a b c) : Simple 3 (triP a b c) := by
 have hab : a ≠ b := fun e => by subst e; unfold crs at h; grind
 have hbc : b ≠ c := fun e => by subst e; unfold crs at h; grind
 have hca : c ≠ a := fun e => by subst e; unfold crs at h; grind
 have h1 : 0 < crs b c a := by rw [(crs_cyc a b c).1]; exact h
 have h2 : 0 < crs c a b := by rw [(crs_cyc a b c).2]; exact h
 refine ⟨by omega, fun i => by unfold triP; rw [Nat.add_mod_right], fun i => ?_, fun i k hi hk hik l m l0 l1 m0 m1 e => ?_⟩
 ·have hi := Nat.mod_lt i (show 0 < 3 by omega)
  have : i % 3 = 0 ∨ i % 3 = 1 ∨ i % 3 = 2 := by omega
  unfold triP
  rcases this with z | z | z
  ·rw [if_pos z, if_neg (by omega), if_pos (by omega)]; exact hab
  ·rw [if_neg (by omega), if_pos z, if_neg (by omega), if_neg (by omega)]; exact hbc
  ·rw [if_neg (by omega), if_neg (by omega), if_pos (by omega)]; exact hca
 ·have hi' : i = 0 ∨ i = 1 ∨ i = 2 := by omega
  have hk' : k = 0 ∨ k = 1 ∨ k = 2 := by omega
  rcases hi' with rfl | rfl | rfl <;> rcases hk' with rfl | rfl | rfl
  ·exact absurd rfl hik
  ·exact .inl ⟨rfl, tri_adj h e⟩
  ·exact .inr ⟨rfl, (tri_adj h2 e.symm).2, (tri_adj h2 e.symm).1⟩
  ·exact .inr ⟨rfl, (tri_adj h e.symm).2, (tri_adj h e.symm).1⟩
  ·exact absurd rfl hik
  ·exact .inl ⟨rfl, tri_adj h1 e⟩
  ·exact .inl ⟨rfl, tri_adj h2 e⟩
  ·exact .inr ⟨rfl, (tri_adj h1 e.symm).2, (tri_adj h1 e.symm).1⟩
  ·exact absurd rfl hik
theorem tri_wind (q : RP) : wind 3 (triP a b c) q = wc a b q + wc b c q + wc c a q := by
 unfold wind sumZ sumZ sumZ sumZ
 show 0 + wc a b q + wc b c q + wc c a q = _
 omega
theorem tri_in_of (q : RP) (h1 : 0 < crs a b q) (h2 : 0 < crs b c q) (h3 : 0 < crs c a q) : In 3 (triP a b c) q := by
 have hsum : crs a b q + crs b c q + crs c a q = crs a b c := by unfold crs; grind
 have hy : crs b c q * (q.y - a.y) + crs c a q * (q.y - b.y) + crs a b q * (q.y - c.y) = 0 := by unfold crs; grind
 refine ⟨fun i l hi l0 l1 e => ?_, ?_⟩
 ·have hi' : i = 0 ∨ i = 1 ∨ i = 2 := by omega
  rcases hi' with rfl | rfl | rfl
  ·have e : q = at' a b l := e
   rw [e, crs_at] at h1; exact absurd h1 (by decide)
  ·have e : q = at' b c l := e
   rw [e, crs_at] at h2; exact absurd h2 (by decide)
  ·have e : q = at' c a l := e
   rw [e, crs_at] at h3; exact absurd h3 (by decide)
 ·rw [tri_wind]
  have wpos : ∀ a b : RP, 0 < crs a b q → wc a b q = if a.y ≤ q.y then (if q.y < b.y then 1 else 0) else 0 := fun a b h => by
   unfold wc
   by_cases z1 : a.y ≤ q.y
   ·rw [if_pos z1, if_pos z1]
    by_cases z2 : q.y < b.y
    ·rw [if_pos z2, if_pos z2, if_pos h]
    ·rw [if_neg z2, if_neg z2]
   ·rw [if_neg z1, if_neg z1]
    by_cases z2 : b.y ≤ q.y
    ·rw [if_pos z2, if_neg (by grind)]
    ·rw [if_neg z2]
  rw [wpos a b h1, wpos b c h2, wpos c a h3]
  by_cases ya : a.y ≤ q.y <;> by_cases yb : b.y ≤ q.y <;> by_cases yc : c.y ≤ q.y
  ·exfalso
   have p1 := mul_nn (a := crs b c q) (b := q.y - a.y) (by grind) (by grind)
   have p2 := mul_nn (a := crs c a q) (b := q.y - b.y) (by grind) (by grind)
   have p3 := mul_nn (a := crs a b q) (b := q.y - c.y) (by grind) (by grind)
   have z1 : crs b c q * (q.y - a.y) = 0 := by grind
   have z2 : crs c a q * (q.y - b.y) = 0 := by grind
   have e1 : q.y - a.y = 0 := by rcases Rat.mul_eq_zero.1 z1 with z | z <;> grind
   have e2 : q.y - b.y = 0 := by rcases Rat.mul_eq_zero.1 z2 with z | z <;> grind
   have : crs a b q = 0 := by
    unfold crs
    have : b.y - a.y = 0 := by grind
    rw [e1, this]; grind
   grind
  ·rw [if_pos ya, if_neg (by grind), if_pos yb, if_pos (by grind), if_neg yc]; rfl
  ·rw [if_pos ya, if_pos (by grind), if_neg yb, if_pos yc, if_neg (by grind)]; rfl
  ·rw [if_pos ya, if_pos (by grind), if_neg yb, if_neg yc]; rfl
  ·rw [if_neg ya, if_pos yb, if_neg (by grind), if_pos yc, if_pos (by grind)]; rfl
  ·rw [if_neg ya, if_pos yb, if_pos (by grind), if_neg yc]; rfl
  ·rw [if_neg ya, if_neg yb, if_pos yc, if_pos (by grind)]; rfl
  ·exfalso
   have p1 := mul_pp (a := crs b c q) (b := a.y - q.y) (by grind) (by grind)
   have p2 := mul_pp (a := crs c a q) (b := b.y - q.y) (by grind) (by grind)
   have p3 := mul_pp (a := crs a b q) (b := c.y - q.y) (by grind) (by grind)
   grind
theorem third (a b c : RP) : crs a b ⟨(a.x + b.x + c.x) / 3, (a.y + b.y + c.y) / 3⟩ = crs a b c / 3 ∧ crs b c ⟨(a.x + b.x + c.x) / 3, (a.y + b.y + c.y) / 3⟩ = crs a b c / 3 ∧ crs c a ⟨(a.x + b.x + c.x) / 3, (a.y + b.y + c.y) / 3⟩ = crs a b c / 3 := by
 unfold crs; dsimp only; refine ⟨?_, ?_, ?_⟩ <;> grind
theorem tri_pos (h : 0 < crs a b c) : Pos 3 (triP a b c) := by
 have hs := tri_simple h
 refine ⟨hs, ?_⟩
 obtain ⟨t1, t2, t3⟩ := third a b c
 have hin := tri_in_of (a := a) (b := b) (c := c) ⟨(a.x + b.x + c.x) / 3, (a.y + b.y + c.y) / 3⟩ (by rw [t1]; grind) (by rw [t2]; grind) (by rw [t3]; grind)
 have := hs.wind_two hin.1
 have := hin.2
 have := hs.lam_two
 omega
theorem tri_in (h : 0 < crs a b c) (q : RP) : In 3 (triP a b c) q ↔ 0 < crs a b q ∧ 0 < crs b c q ∧ 0 < crs c a q := by
 constructor
 ·intro hin
  have hp := tri_pos h
  refine Classical.byContradiction fun hno => ?_
  have hout : ∃ x y, ((x = a ∧ y = b) ∨ (x = b ∧ y = c) ∨ (x = c ∧ y = a)) ∧ crs x y q ≤ 0 := Classical.byContradiction fun hn => hno
   ⟨Rat.not_le.1 fun z => hn ⟨a, b, .inl ⟨rfl, rfl⟩, z⟩, Rat.not_le.1 fun z => hn ⟨b, c, .inr (.inl ⟨rfl, rfl⟩), z⟩, Rat.not_le.1 fun z => hn ⟨c, a, .inr (.inr ⟨rfl, rfl⟩), z⟩⟩
  obtain ⟨x, y, hxy, hc⟩ := hout
  have hxyne : x ≠ y := by
   have hab : a ≠ b := fun e => by subst e; unfold crs at h; grind
   have hbc : b ≠ c := fun e => by subst e; unfold crs at h; grind
   have hca : c ≠ a := fun e => by subst e; unfold crs at h; grind
   rcases hxy with ⟨rfl, rfl⟩ | ⟨rfl, rfl⟩ | ⟨rfl, rfl⟩ <;> assumption
  obtain ⟨e, e0, he⟩ := hin.near hp.sim
  obtain ⟨r, hr, hrc⟩ : ∃ r, Near e q r ∧ crs x y r < 0 := by
   rcases Rat.le_iff_lt_or_eq.1 hc with z | z
   ·exact ⟨q, Near.self e0 q, z⟩
   ·obtain ⟨r, hr, hz⟩ := left_pt hxyne z (.inr rfl) e0
    exact ⟨r, hr, by grind⟩
  have hrin := he r hr
  have side : ∀ p, p = a ∨ p = b ∨ p = c → 0 ≤ crs x y p := fun p hp => by
   have c1 := (crs_cyc a b c).1
   have c2 := (crs_cyc a b c).2
   have z1 : crs x y x = 0 := by unfold crs; grind
   have z2 : crs x y y = 0 := by unfold crs; grind
   rcases hxy with ⟨rfl, rfl⟩ | ⟨rfl, rfl⟩ | ⟨rfl, rfl⟩ <;> rcases hp with rfl | rfl | rfl <;> grind
  obtain ⟨M, hM⟩ : ∃ M : Rat, a.y ≤ M ∧ b.y ≤ M ∧ c.y ≤ M ∧ r.y ≤ M := by
   obtain ⟨M, hM⟩ := max_ex (fun i => if i = 0 then a.y else if i = 1 then b.y else if i = 2 then c.y else r.y) 4
   exact ⟨M, hM 0 (by omega), hM 1 (by omega), hM 2 (by omega), hM 3 (by omega)⟩
  obtain ⟨mM, hmM⟩ : ∃ M : Rat, M ≤ a.y ∧ M ≤ b.y ∧ M ≤ c.y ∧ M ≤ r.y := by
   obtain ⟨M, hM⟩ := max_ex (fun i => if i = 0 then -a.y else if i = 1 then -b.y else if i = 2 then -c.y else -r.y) 4
   have g0 := hM 0 (by omega)
   have g1 := hM 1 (by omega)
   have g2 := hM 2 (by omega)
   have g3 := hM 3 (by omega)
   simp only [if_true, Nat.one_ne_zero, if_false, show (2 : Nat) ≠ 0 by omega, show (2 : Nat) ≠ 1 by omega, show (3 : Nat) ≠ 0 by omega, show (3 : Nat) ≠ 1 by omega, show (3 : Nat) ≠ 2 by omega] at g0 g1 g2 g3
   exact ⟨-M, by grind, by grind, by grind, by grind⟩
  have away : ∀ s : RP, crs x y s < 0 → Free 3 (triP a b c) r s := fun s hs k hk l m l0 l1 m0 m1 eq => by
   have hside : 0 ≤ crs x y (at' (triP a b c k) (triP a b c (k + 1)) l) := by
    have v : ∀ t, triP a b c t = a ∨ triP a b c t = b ∨ triP a b c t = c := fun t => by
     unfold triP
     by_cases z : t % 3 = 0
     ·rw [if_pos z]; exact .inl rfl
     ·rw [if_neg z]
      by_cases z2 : t % 3 = 1
      ·rw [if_pos z2]; exact .inr (.inl rfl)
      ·rw [if_neg z2]; exact .inr (.inr rfl)
    rw [crs_lin]
    have p1 := mul_nn (a := 1 - l) (by grind) (side _ (v k))
    have p2 := mul_nn l0 (side _ (v (k + 1)))
    grind
   rw [eq, crs_lin] at hside
   have p1 := np_mul (a := crs x y r) (b := 1 - m) (by grind) (by grind)
   have p2 := np_mul (a := crs x y s) (b := m) (by grind) m0
   rcases Rat.le_iff_lt_or_eq.1 m0 with z | z
   ·have := n_mul (b := m) hs z; grind
   ·rw [← z] at hside; grind
  have hend : ∃ s : RP, crs x y s < 0 ∧ ((a.y ≤ s.y ∧ b.y ≤ s.y ∧ c.y ≤ s.y) ∨ (s.y < a.y ∧ s.y < b.y ∧ s.y < c.y)) := by
   by_cases hyy : x.y = y.y
   ·-- a level line: one of above and below is on its right
    by_cases hx : x.x < y.x
    ·refine ⟨⟨r.x, mM - 1⟩, ?_, .inr ⟨by dsimp only; grind, by dsimp only; grind, by dsimp only; grind⟩⟩
     have p := mul_nn (a := y.x - x.x) (b := r.y - (mM - 1)) (by grind) (by grind)
     unfold crs at hrc ⊢
     dsimp only
     rw [hyy] at hrc ⊢
     grind
    ·refine ⟨⟨r.x, M + 1⟩, ?_, .inl ⟨by dsimp only; grind, by dsimp only; grind, by dsimp only; grind⟩⟩
     have p := mul_nn (a := x.x - y.x) (b := (M + 1) - r.y) (by grind) (by grind)
     unfold crs at hrc ⊢
     dsimp only
     rw [hyy] at hrc ⊢
     grind
   ·-- along the line
    have hd : y.y - x.y ≠ 0 := by grind
    have ek := Rat.div_mul_cancel (a := M + 1 - r.y) (b := y.y - x.y) hd
    refine ⟨⟨r.x + (M + 1 - r.y) / (y.y - x.y) * (y.x - x.x), M + 1⟩, ?_, .inl ⟨by dsimp only; grind, by dsimp only; grind, by dsimp only; grind⟩⟩
    have : crs x y ⟨r.x + (M + 1 - r.y) / (y.y - x.y) * (y.x - x.x), M + 1⟩ = crs x y r := by
     generalize (M + 1 - r.y) / (y.y - x.y) = k at *
     unfold crs
     dsimp only
     have : M + 1 = r.y + k * (y.y - x.y) := by grind
     rw [this]
     grind
    rw [this]; exact hrc
  obtain ⟨s, hs, hsy⟩ := hend
  have hw := wind_move hp.sim.close (away s hs)
  rw [hrin.2] at hw
  rcases hsy with ⟨y1, y2, y3⟩ | ⟨y1, y2, y3⟩
  ·rw [wind_above (fun i _ => by
    unfold triP
    split
    ·exact y1
    ·split
     ·exact y2
     ·exact y3)] at hw
   omega
  ·rw [tri_wind] at hw
   unfold wc at hw
   rw [if_neg (by grind), if_neg (by grind), if_neg (by grind), if_neg (by grind), if_neg (by grind), if_neg (by grind)] at hw
   omega
 ·rintro ⟨h1, h2, h3⟩; exact tri_in_of q h1 h2 h3
end
end Geo
end Go.Proofs.Ytfcjeejhdklkdaa
