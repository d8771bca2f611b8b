/- What the statements rest on: definitions and walks, part 36. -/
import Derived.Test.YtfcjeejhdklkdaaJ10
set_option maxRecDepth 100000
set_option maxHeartbeats 16000000
set_option linter.unusedSimpArgs false
set_option linter.unusedVariables false
namespace Go.Proofs.Ytfcjeejhdklkdaa
open Go Go.RowKit
structure Hol where
 name : ByteArray
 kind : Int
 month : Int
 day : Int
 weekday : Int
end Go.Proofs.Ytfcjeejhdklkdaa
namespace Go.Proofs.Ytfcjeejhdklkdaa
open Go Go.RowKit
structure Per where
 m : Int
 d : Int
 k : Bool
structure Proc where
 runs : Per
 obj : Per
 wait : Per
 exts : Int
 longest : Int
 hols : List Hol
structure NSt where
 phase : Int
 last : Int
 deadline : Int
 object : Int
 objected : Int
 extended : Int
end Go.Proofs.Ytfcjeejhdklkdaa
namespace Go.Proofs.Ytfcjeejhdklkdaa
open Go Go.RowKit
structure StAt (w : World) (B : Nat) (A : Option Addr) (c : Nat) (p : Proc) (s : NSt) : Prop where
 range : w.rangeAt B 0 [.int .i64 p.runs.m, .int .i64 p.runs.d, .bool p.runs.k, .int .i64 p.obj.m, .int .i64 p.obj.d, .bool p.obj.k, .int .i64 p.wait.m, .int .i64 p.wait.d, .bool p.wait.k, .int .i64 p.exts, .int .i64 p.longest, .slice A p.hols.length c, .int .i64 s.phase, .int .i64 s.last, .int .i64 s.deadline, .int .i64 s.object, .int .i64 s.objected, .int .i64 s.extended]
 lt : B < w.heap.size
theorem StAt.all {w : World} {B : Nat} {A : Option Addr} {c : Nat} {p : Proc} {s : NSt} (h : StAt w B A c p s) : w.cell? ⟨B, 0, none⟩ = some (.int .i64 p.runs.m) ∧ w.cell? ⟨B, 1, none⟩ = some (.int .i64 p.runs.d) ∧ w.cell? ⟨B, 2, none⟩ = some (.bool p.runs.k) ∧ w.cell? ⟨B, 3, none⟩ = some (.int .i64 p.obj.m) ∧ w.cell? ⟨B, 4, none⟩ = some (.int .i64 p.obj.d) ∧ w.cell? ⟨B, 5, none⟩ = some (.bool p.obj.k) ∧ w.cell? ⟨B, 6, none⟩ = some (.int .i64 p.wait.m) ∧ w.cell? ⟨B, 7, none⟩ = some (.int .i64 p.wait.d) ∧ w.cell? ⟨B, 8, none⟩ = some (.bool p.wait.k) ∧ w.cell? ⟨B, 9, none⟩ = some (.int .i64 p.exts) ∧ w.cell? ⟨B, 10, none⟩ = some (.int .i64 p.longest) ∧ w.cell? ⟨B, 11, none⟩ = some (.slice A p.hols.length c) ∧ w.cell? ⟨B, 12, none⟩ = some (.int .i64 s.phase) ∧ w.cell? ⟨B, 13, none⟩ = some (.int .i64 s.last) ∧ w.cell? ⟨B, 14, none⟩ = some (.int .i64 s.deadline) ∧ w.cell? ⟨B, 15, none⟩ = some (.int .i64 s.object) ∧ w.cell? ⟨B, 16, none⟩ = some (.int .i64 s.objected) ∧ w.cell? ⟨B, 17, none⟩ = some (.int .i64 s.extended) :=
 ⟨h.range 0 _ rfl, h.range 1 _ rfl, h.range 2 _ rfl, h.range 3 _ rfl, h.range 4 _ rfl, h.range 5 _ rfl, h.range 6 _ rfl, h.range 7 _ rfl, h.range 8 _ rfl, h.range 9 _ rfl, h.range 10 _ rfl, h.range 11 _ rfl, h.range 12 _ rfl, h.range 13 _ rfl, h.range 14 _ rfl, h.range 15 _ rfl, h.range 16 _ rfl, h.range 17 _ rfl⟩
end Go.Proofs.Ytfcjeejhdklkdaa
namespace Go.Proofs.Ytfcjeejhdklkdaa.Cal
def vOf (all : Int) (x : Nat → Int) (e : Edge) : Int := e.d * all - x e.t + x e.f
def sqv (all : Int) (x : Nat → Int) : List Edge → Int
 | [] => 0
 | e :: l => e.w * (vOf all x e * vOf all x e) + sqv all x l
def grad (all : Int) (x : Nat → Int) : List Edge → Nat → Int
 | [], _ => 0
 | e :: l, p => e.w * vOf all x e * (dl e.t p - dl e.f p) + grad all x l p
theorem lap_row {n : Nat} (x : Nat → Int) (e : Edge) (l : List Edge) (hf : e.f < n) (ht : e.t < n) (i : Nat) : sumTo n (fun j => lap (e :: l) i j * x j) = e.w * (dl e.f i - dl e.t i) * (x e.f - x e.t) + sumTo n (fun j => lap l i j * x j) := by
 have e2 : sumTo n (fun j => lap (e :: l) i j * x j) = sumTo n (fun j => (e.w * (dl e.f i - dl e.t i)) * (dl e.f j * x j + - (dl e.t j * x j)) + lap l i j * x j) := sumTo_congr fun j _ => by
  show (e.w * (dl e.f i - dl e.t i) * (dl e.f j - dl e.t j) + lap l i j) * x j = _
  grind
 rw [e2, sumTo_add, sumTo_mul, sumTo_add, sumTo_neg, sumTo_dl hf, sumTo_dl ht]
 grind
theorem grad_eq {n : Nat} (all : Int) (x : Nat → Int) (p : Nat) : ∀ l : List Edge, (∀ e ∈ l, e.f < n ∧ e.t < n) → grad all x l p = all * rhs l p - sumTo n (fun j => lap l p j * x j)
 | [], _ => by
  show (0 : Int) = all * 0 - sumTo n (fun j => 0 * x j)
  rw [sumTo_mul, Int.zero_mul, Int.mul_zero]; rfl
 | e :: l, h => by
  obtain ⟨hf, ht⟩ := h e (List.mem_cons_self ..)
  rw [lap_row x e l hf ht]
  show e.w * vOf all x e * (dl e.t p - dl e.f p) + grad all x l p = all * (e.w * e.d * (dl e.t p - dl e.f p) + rhs l p) - _
  rw [grad_eq all x p l (fun a ha => h a (List.mem_cons_of_mem _ ha))]
  unfold vOf
  generalize sumTo n (fun j => lap l p j * x j) = q
  grind
def mix (all : Int) (x z : Nat → Int) : List Edge → Int
 | [] => 0
 | e :: l => e.w * vOf all x e * (z e.t - z e.f) + mix all x z l
theorem mix_eq {n : Nat} (all : Int) (x z : Nat → Int) : ∀ l : List Edge, (∀ e ∈ l, e.f < n ∧ e.t < n) → mix all x z l = sumTo n (fun p => grad all x l p * z p)
 | [], _ => by
  show (0 : Int) = sumTo n (fun j => 0 * z j)
  rw [sumTo_mul, Int.zero_mul]
 | e :: l, h => by
  obtain ⟨hf, ht⟩ := h e (List.mem_cons_self ..)
  have e3 : sumTo n (fun p => grad all x (e :: l) p * z p) = sumTo n (fun p => (e.w * vOf all x e) * (dl e.t p * z p + - (dl e.f p * z p)) + grad all x l p * z p) := sumTo_congr fun p _ => by
   show (e.w * vOf all x e * (dl e.t p - dl e.f p) + grad all x l p) * z p = _
   grind
  rw [e3, sumTo_add, sumTo_mul, sumTo_add, sumTo_neg, sumTo_dl hf, sumTo_dl ht, ← mix_eq all x z l (fun a ha => h a (List.mem_cons_of_mem _ ha))]
  show e.w * vOf all x e * (z e.t - z e.f) + mix all x z l = _
  grind
theorem sqv_split (all : Int) (x y : Nat → Int) : ∀ l : List Edge, sqv all y l = sqv all x l - 2 * mix all x (fun p => y p - x p) l + sqs (fun p => y p - x p) l
 | [] => rfl
 | e :: l => by
  show e.w * (vOf all y e * vOf all y e) + sqv all y l = e.w * (vOf all x e * vOf all x e) + sqv all x l - 2 * (e.w * vOf all x e * ((y e.t - x e.t) - (y e.f - x e.f)) + mix all x (fun p => y p - x p) l) + (e.w * (((y e.f - x e.f) - (y e.t - x e.t)) * ((y e.f - x e.f) - (y e.t - x e.t))) + sqs (fun p => y p - x p) l)
  rw [sqv_split all x y l]
  unfold vOf
  grind
theorem sqv_least {n : Nat} {l : List Edge} (all : Int) (x y : Nat → Int) (hin : ∀ e ∈ l, e.f < n ∧ e.t < n) (hw : ∀ e ∈ l, 0 < e.w) (h0 : x 0 = y 0) (hg : ∀ p, 0 < p → p < n → grad all x l p = 0) : sqv all x l ≤ sqv all y l := by
 rw [sqv_split all x y l, mix_eq all x _ l hin]
 have e : sumTo n (fun p => grad all x l p * (y p - x p)) = 0 := by
  rw [← sumTo_zero n]
  refine sumTo_congr fun p hp => ?_
  by_cases h : p = 0
  ·rw [h, h0, Int.sub_self, Int.mul_zero]
  ·rw [hg p (by omega) hp, Int.zero_mul]
 rw [e]
 have := sqs_nonneg (fun p => y p - x p) l hw
 omega
theorem cramer_grad {n : Nat} {l : List Edge} (all : Int) (x : Nat → Int) (hin : ∀ e ∈ l, e.f < n + 1 ∧ e.t < n + 1) (hd : detN n (red (lap l)) ≠ 0) (h0 : x 0 = 0)
  (hx : ∀ j, j < n → x (j + 1) * detN n (red (lap l)) = detN n (colPut (red (lap l)) j (fun i => rhs l (i + 1))) * all) :
  ∀ p, 0 < p → p < n + 1 → grad all x l p = 0 := by
 intro p hp hpn
 obtain ⟨q, rfl⟩ : ∃ q, p = q + 1 := ⟨p - 1, by omega⟩
 have h1 := cramer n (red (lap l)) (fun i => rhs l (i + 1)) (p := q) (by omega)
 have h2 := grad_eq all x (q + 1) l hin
 have h3 : sumTo (n + 1) (fun j => lap l (q + 1) j * x j) * detN n (red (lap l)) = all * (rhs l (q + 1) * detN n (red (lap l))) := by
  rw [sumTo_first, h0, Int.mul_zero, Int.zero_add, ← h1, ← sumTo_mul, Int.mul_comm, ← sumTo_mul]
  refine sumTo_congr fun j hj => ?_
  have h4 := hx j hj
  show detN n (red (lap l)) * (lap l (q + 1) (j + 1) * x (j + 1)) = all * (lap l (q + 1) (j + 1) * detN n (colPut (red (lap l)) j (fun i => rhs l (i + 1))))
  generalize detN n (red (lap l)) = D at *
  generalize detN n (colPut (red (lap l)) j (fun i => rhs l (i + 1))) = N at *
  grind
 have h5 : grad all x l (q + 1) * detN n (red (lap l)) = 0 := by
  rw [h2, Int.sub_mul, h3]
  grind
 rcases Int.mul_eq_zero.mp h5 with h6 | h6
 ·exact h6
 ·exact absurd h6 hd
theorem ab_nonneg (x : Int) : 0 ≤ ab x := Int.natCast_nonneg _
theorem ab_mul (x y : Int) : ab (x * y) = ab x * ab y := by unfold ab; rw [Int.natAbs_mul]; simp
theorem ab_add (x y : Int) : ab (x + y) ≤ ab x + ab y := by unfold ab; omega
theorem ab_sg (c : Nat) : ab (sg c) = 1 := by unfold sg; split <;> rfl
theorem ab_sumTo (n : Nat) (f : Nat → Int) : ab (sumTo n f) ≤ sumTo n (fun i => ab (f i)) := by
 induction n with
 | zero => exact Int.le_refl 0
 | succ n ih =>
  have h := ab_add (sumTo n f) (f n)
  show ab (sumTo n f + f n) ≤ sumTo n (fun i => ab (f i)) + ab (f n)
  omega
theorem skip_le {n c : Nat} (hc : c ≤ n) (g : Nat → Int) (hg : ∀ i, 0 ≤ g i) : sumTo n (fun i => g (skipI c i)) ≤ sumTo (n + 1) g := by
 rw [sumTo_skip hc g]
 exact sumTo_le fun i _ => by split; exact hg i; exact Int.le_refl _
theorem ab_det (n : Nat) (A : Mat) : ab (detN (n + 1) A) ≤ sumTo (n + 1) (fun c => ab (A 0 c) * ab (detN n (minor A c))) := by
 have h := ab_sumTo (n + 1) (fun c => sg c * A 0 c * detN n (minor A c))
 have e : sumTo (n + 1) (fun c => ab (sg c * A 0 c * detN n (minor A c))) = sumTo (n + 1) (fun c => ab (A 0 c) * ab (detN n (minor A c))) := sumTo_congr fun c _ => by
  rw [ab_mul, ab_mul, ab_sg, Int.one_mul]
 rw [e] at h
 exact h
theorem det_le {S : Int} (hS : 0 ≤ S) : ∀ (n : Nat) (A : Mat), (∀ i, i < n → sumTo n (fun j => ab (A i j)) ≤ S) → ab (detN n A) ≤ S ^ n
 | 0, A, _ => by show (1 : Int) ≤ S ^ 0; rw [Int.pow_zero]; exact Int.le_refl 1
 | n + 1, A, h => by
  refine Int.le_trans (ab_det n A) ?_
  have h1 : sumTo (n + 1) (fun c => ab (A 0 c) * ab (detN n (minor A c))) ≤ sumTo (n + 1) (fun c => S ^ n * ab (A 0 c)) := sumTo_le fun c hc => by
   rw [Int.mul_comm]
   refine Int.mul_le_mul_of_nonneg_right (det_le hS n (minor A c) fun i hi => ?_) (ab_nonneg _)
   exact Int.le_trans (skip_le (by omega) (fun j => ab (A (i + 1) j)) (fun j => ab_nonneg _)) (h (i + 1) (by omega))
  refine Int.le_trans h1 ?_
  rw [sumTo_mul, Int.pow_succ]
  exact Int.mul_le_mul_of_nonneg_left (h 0 (by omega)) (Int.pow_nonneg hS)
def butSum (n c : Nat) (g : Nat → Int) : Int := sumTo n (fun j => if j = c then 0 else g j)
theorem skip_but {n c q : Nat} (hc : c ≤ n) (g : Nat → Int) (hg : ∀ i, 0 ≤ g i) : sumTo n (fun j => if skipI c j = q then 0 else g (skipI c j)) ≤ butSum (n + 1) q g :=
 skip_le hc (fun j => if j = q then 0 else g j) (fun i => by split; exact Int.le_refl 0; exact hg i)
theorem sumTo_but {n c : Nat} (hc : c < n) (f : Nat → Int) : sumTo n f = f c + butSum n c f := by
 unfold butSum
 induction n with
 | zero => omega
 | succ n ih =>
  show sumTo n f + f n = f c + (sumTo n (fun j => if j = c then 0 else f j) + (if n = c then 0 else f n))
  by_cases h : n = c
  ·subst h
   rw [if_pos rfl]
   have e : sumTo n (fun j => if j = n then 0 else f j) = sumTo n f := sumTo_congr fun j hj => by rw [if_neg (by omega)]
   rw [e]; omega
  ·rw [if_neg h, ih (by omega)]; omega
theorem det_put_le {S C : Int} (hS : 0 ≤ S) (hC : 0 ≤ C) : ∀ (n q : Nat) (A : Mat), q < n + 1 → (∀ i, i < n + 1 → ab (A i q) ≤ C) → (∀ i, i < n + 1 → butSum (n + 1) q (fun j => ab (A i j)) ≤ S) → ab (detN (n + 1) A) ≤ ((n : Int) + 1) * C * S ^ n
 | 0, q, A, hq, h1, _ => by
  obtain rfl : q = 0 := by omega
  have h := h1 0 (by omega)
  have e : detN 1 A = A 0 0 := by
   show (0 : Int) + (1 * A 0 0 * 1) = A 0 0
   omega
  show ab (detN 1 A) ≤ _
  rw [e, Int.pow_zero]
  simpa using h
 | n + 1, q, A, hq, h1, h2 => by
  refine Int.le_trans (ab_det (n + 1) A) ?_
  rw [sumTo_but hq (fun c => ab (A 0 c) * ab (detN (n + 1) (minor A c)))]
  have hP : 0 ≤ ((n : Int) + 1) * C * S ^ n := Int.mul_nonneg (Int.mul_nonneg (by omega) hC) (Int.pow_nonneg hS)
  have ha : ab (A 0 q) * ab (detN (n + 1) (minor A q)) ≤ C * S ^ (n + 1) := by
   refine Int.mul_le_mul (h1 0 (by omega)) (det_le hS (n + 1) (minor A q) fun i hi => ?_) (ab_nonneg _) hC
   refine Int.le_trans ?_ (h2 (i + 1) (by omega))
   have e : sumTo (n + 1) (fun j => ab (minor A q i j)) = butSum (n + 1 + 1) q (fun j => ab (A (i + 1) j)) := sumTo_skip (by omega) (fun j => ab (A (i + 1) j))
   rw [e]
   exact Int.le_refl _
  have hb : butSum (n + 1 + 1) q (fun c => ab (A 0 c) * ab (detN (n + 1) (minor A c))) ≤ S * (((n : Int) + 1) * C * S ^ n) := by
   have hb1 : butSum (n + 1 + 1) q (fun c => ab (A 0 c) * ab (detN (n + 1) (minor A c))) ≤ sumTo (n + 1 + 1) (fun c => (((n : Int) + 1) * C * S ^ n) * (if c = q then 0 else ab (A 0 c))) := sumTo_le fun c hc => by
    by_cases hcq : c = q
    ·rw [if_pos hcq, if_pos hcq, Int.mul_zero]; exact Int.le_refl 0
    ·rw [if_neg hcq, if_neg hcq]
     show ab (A 0 c) * ab (detN (n + 1) (minor A c)) ≤ _
     rw [Int.mul_comm]
     refine Int.mul_le_mul_of_nonneg_right ?_ (ab_nonneg _)
     have hs : skipI c (if q < c then q else q - 1) = q := by unfold skipI; grind
     have hs2 : ∀ j, (skipI c j = q) ↔ (j = if q < c then q else q - 1) := fun j => by unfold skipI; grind
     refine det_put_le hS hC n (if q < c then q else q - 1) (minor A c) (by split <;> omega) (fun i hi => ?_) (fun i hi => ?_)
     ·show ab (A (i + 1) (skipI c _)) ≤ C
      rw [hs]
      exact h1 (i + 1) (by omega)
     ·refine Int.le_trans ?_ (h2 (i + 1) (by omega))
      refine Int.le_trans ?_ (skip_but (by omega) (fun j => ab (A (i + 1) j)) (fun j => ab_nonneg _) (c := c))
      refine Int.le_of_eq (sumTo_congr fun j hj => ?_)
      by_cases hj : skipI c j = q
      ·rw [if_pos hj, if_pos ((hs2 j).mp hj)]
      ·rw [if_neg hj, if_neg (fun h => hj ((hs2 j).mpr h))]; rfl
   refine Int.le_trans hb1 ?_
   rw [sumTo_mul, Int.mul_comm]
   exact Int.mul_le_mul_of_nonneg_right (h2 0 (by omega)) hP
  have e : ((n + 1 : Nat) : Int) + 1 = ((n : Int) + 1) + 1 := by omega
  rw [e]
  rw [Int.pow_succ] at ha ⊢
  generalize S ^ n = T at *
  grind
theorem ab_dl2 (a b i : Nat) : ab (dl a i - dl b i) ≤ 1 := by
 unfold ab dl
 split <;> split <;> decide
theorem lap_le (n : Nat) (i : Nat) : ∀ l : List Edge, (∀ e ∈ l, 0 < e.w) → sumTo n (fun j => ab (lap l i j)) ≤ 2 * wSum l
 | [], _ => by
  show sumTo n (fun _ => 0) ≤ 0
  rw [sumTo_zero]; exact Int.le_refl 0
 | e :: l, h => by
  have ih := lap_le n i l (fun a ha => h a (List.mem_cons_of_mem _ ha))
  have hw := h e (List.mem_cons_self ..)
  have h1 : sumTo n (fun j => ab (lap (e :: l) i j)) ≤ sumTo n (fun j => e.w * ab (dl e.f j - dl e.t j) + ab (lap l i j)) := sumTo_le fun j _ => by
   have h2 := ab_add (e.w * (dl e.f i - dl e.t i) * (dl e.f j - dl e.t j)) (lap l i j)
   rw [ab_mul, ab_mul] at h2
   have h3 : ab e.w = e.w := by unfold ab; omega
   rw [h3] at h2
   have h4 : e.w * ab (dl e.f i - dl e.t i) * ab (dl e.f j - dl e.t j) ≤ e.w * ab (dl e.f j - dl e.t j) := by
    refine Int.mul_le_mul_of_nonneg_right ?_ (ab_nonneg _)
    have h5 := Int.mul_le_mul_of_nonneg_left (ab_dl2 e.f e.t i) (Int.le_of_lt hw)
    rw [Int.mul_one] at h5
    exact h5
   exact Int.le_trans h2 (by omega)
  refine Int.le_trans h1 ?_
  rw [sumTo_add, sumTo_mul]
  have h6 := Int.mul_le_mul_of_nonneg_left (sum_dl2_le n e.f e.t) (Int.le_of_lt hw)
  show _ ≤ 2 * (e.w + wSum l)
  omega
theorem rhs_le {D : Int} (p : Nat) : ∀ l : List Edge, (∀ e ∈ l, 0 < e.w ∧ ab e.d ≤ D) → ab (rhs l p) ≤ D * wSum l
 | [], _ => by show (0 : Int) ≤ D * 0; rw [Int.mul_zero]; exact Int.le_refl 0
 | e :: l, h => by
  have ih := rhs_le p l (fun a ha => h a (List.mem_cons_of_mem _ ha))
  obtain ⟨hw, hd⟩ := h e (List.mem_cons_self ..)
  have h2 := ab_add (e.w * e.d * (dl e.t p - dl e.f p)) (rhs l p)
  rw [ab_mul, ab_mul] at h2
  have h3 : ab e.w = e.w := by unfold ab; omega
  rw [h3] at h2
  have h4 : e.w * ab e.d * ab (dl e.t p - dl e.f p) ≤ e.w * ab e.d * 1 := Int.mul_le_mul_of_nonneg_left (ab_dl2 _ _ _) (Int.mul_nonneg (Int.le_of_lt hw) (ab_nonneg _))
  have h5 : e.w * ab e.d ≤ e.w * D := Int.mul_le_mul_of_nonneg_left hd (Int.le_of_lt hw)
  show ab (e.w * e.d * (dl e.t p - dl e.f p) + rhs l p) ≤ D * (e.w + wSum l)
  grind
theorem net_bounds {n : Nat} {l : List Edge} (hn : n ≤ 5) (hl : l.length ≤ 20) (h : ∀ e ∈ l, 1 ≤ e.w ∧ e.w ≤ 10 ∧ -100000 ≤ e.d ∧ e.d ≤ 100000) :
  ab (detN n (red (lap l))) ≤ 400 ^ 5 ∧ ∀ q, q < n → ab (detN n (colPut (red (lap l)) q (fun i => rhs l (i + 1)))) ≤ 5 * 20000000 * 400 ^ 4 := by
 have hw : wSum l ≤ 200 := by
  have h1 := wSum_le (W := 10) l (fun e he => (h e he).2.1)
  omega
 have hrow : ∀ i, sumTo n (fun j => ab (red (lap l) i j)) ≤ 400 := fun i => by
  have h1 := lap_le (n + 1) (i + 1) l (fun e he => by have := (h e he).1; omega)
  rw [sumTo_first] at h1
  have h2 := ab_nonneg (lap l (i + 1) 0)
  show sumTo n (fun j => ab (lap l (i + 1) (j + 1))) ≤ 400
  omega
 have hr : ∀ p, ab (rhs l p) ≤ 20000000 := fun p => by
  have h1 := rhs_le (D := 100000) p l (fun e he => by have := h e he; refine ⟨by omega, ?_⟩; unfold ab; omega)
  omega
 constructor
 ·refine Int.le_trans (det_le (S := 400) (by decide) n _ (fun i _ => hrow i)) ?_
  have : n = 0 ∨ n = 1 ∨ n = 2 ∨ n = 3 ∨ n = 4 ∨ n = 5 := by omega
  rcases this with rfl | rfl | rfl | rfl | rfl | rfl <;> decide
 ·intro q hq
  obtain ⟨m, rfl⟩ : ∃ m, n = m + 1 := ⟨n - 1, by omega⟩
  refine Int.le_trans (det_put_le (S := 400) (C := 20000000) (by decide) (by decide) m q _ hq (fun i _ => ?_) (fun i _ => ?_)) ?_
  ·unfold colPut; rw [if_pos rfl]; exact hr (i + 1)
  ·refine Int.le_trans ?_ (hrow i)
   unfold butSum
   refine sumTo_le fun j _ => ?_
   by_cases hj : j = q
   ·rw [if_pos hj]; exact ab_nonneg _
   ·simp only [if_neg hj, colPut]; exact Int.le_refl _
  ·have : m = 0 ∨ m = 1 ∨ m = 2 ∨ m = 3 ∨ m = 4 := by omega
   rcases this with rfl | rfl | rfl | rfl | rfl <;> decide
theorem mix_zero (all : Int) (x z : Nat → Int) : ∀ l : List Edge, (∀ e ∈ l, e.w * vOf all x e * (z e.t - z e.f) ≤ 0) → mix all x z l ≤ 0 ∧ (mix all x z l = 0 → ∀ e ∈ l, e.w * vOf all x e * (z e.t - z e.f) = 0)
 | [], _ => ⟨Int.le_refl 0, fun _ e he => by cases he⟩
 | e :: l, h => by
  obtain ⟨h1, h2⟩ := mix_zero all x z l (fun a ha => h a (List.mem_cons_of_mem _ ha))
  have h3 := h e (List.mem_cons_self ..)
  have e0 : mix all x z (e :: l) = e.w * vOf all x e * (z e.t - z e.f) + mix all x z l := rfl
  refine ⟨by omega, fun h0 a ha => ?_⟩
  rcases List.mem_cons.mp ha with rfl | hb
  ·omega
  ·exact h2 (by omega) a hb
theorem no_gap {n : Nat} {l : List Edge} {all G c : Int} (x : Nat → Int) (hin : ∀ e ∈ l, e.f < n + 1 ∧ e.t < n + 1) (hw : ∀ e ∈ l, 0 < e.w) (hh : Hangs (n + 1) l)
  (hg : ∀ p, 0 < p → p < n + 1 → grad all x l p = 0) (hG : ∀ e ∈ l, -G ≤ e.d * all ∧ e.d * all ≤ G) (h0 : x 0 ≤ c) (hG0 : 0 ≤ G)
  (hgap : ∀ p, p < n + 1 → x p ≤ c ∨ c + G < x p) : ∀ p, p < n + 1 → x p ≤ c := by
 let T : Nat → Int := fun p => if c + G < x p then 1 else 0
 have hm := mix_eq all x T l hin
 have e0 : sumTo (n + 1) (fun p => grad all x l p * T p) = 0 := by
  rw [← sumTo_zero (n + 1)]
  refine sumTo_congr fun p hp => ?_
  by_cases h : p = 0
  ·subst h
   have : T 0 = 0 := by show (if c + G < x 0 then (1 : Int) else 0) = 0; rw [if_neg (by omega)]
   rw [this, Int.mul_zero]
  ·rw [hg p (by omega) hp, Int.zero_mul]
 rw [e0] at hm
 have hneg : ∀ e ∈ l, ∀ y, y = vOf all x e → e.w * vOf all x e * (T e.t - T e.f) ≤ 0 ∧ (e.w * vOf all x e * (T e.t - T e.f) = 0 → T e.f = T e.t) := fun e he y _ => by
  have hwe := hw e he
  obtain ⟨hf, ht⟩ := hin e he
  obtain ⟨g1, g2⟩ := hG e he
  have hv : vOf all x e = e.d * all - x e.t + x e.f := rfl
  have gf := hgap e.f hf
  have gt := hgap e.t ht
  have tf : T e.f = if c + G < x e.f then 1 else 0 := rfl
  have tt : T e.t = if c + G < x e.t then 1 else 0 := rfl
  by_cases a : c + G < x e.f
  ·by_cases b : c + G < x e.t
   ·rw [tf, tt, if_pos a, if_pos b]
    exact ⟨by rw [Int.sub_self, Int.mul_zero]; exact Int.le_refl 0, fun _ => rfl⟩
   ·rw [tf, tt, if_pos a, if_neg b]
    have hvp : 0 < vOf all x e := by omega
    have := Int.mul_pos hwe hvp
    exact ⟨by omega, fun h => by omega⟩
  ·by_cases b : c + G < x e.t
   ·rw [tf, tt, if_neg a, if_pos b]
    have hvp : vOf all x e < 0 := by omega
    have := Int.mul_neg_of_pos_of_neg hwe hvp
    exact ⟨by omega, fun h => by omega⟩
   ·rw [tf, tt, if_neg a, if_neg b]
    exact ⟨by rw [Int.sub_self, Int.mul_zero]; exact Int.le_refl 0, fun _ => rfl⟩
 have hz := (mix_zero all x T l (fun e he => (hneg e he _ rfl).1)).2 hm
 intro p hp
 have h5 := hh (fun p => decide (T p = 0)) (by
  have : T 0 = 0 := by show (if c + G < x 0 then (1 : Int) else 0) = 0; rw [if_neg (by omega)]
  simp [this]) (fun e he => congrArg (fun v : Int => decide (v = 0)) ((hneg e he _ rfl).2 (hz e he))) p hp
 have h6 : T p = 0 := by simpa using h5
 rcases hgap p hp with h7 | h7
 ·exact h7
 ·have : T p = 1 := by show (if c + G < x p then (1 : Int) else 0) = 1; rw [if_pos h7]
  omega
theorem sumTo_lt {n : Nat} {f g : Nat → Int} (h : ∀ i, i < n → f i ≤ g i) {k : Nat} (hk : k < n) (hlt : f k < g k) : sumTo n f < sumTo n g := by
 induction n with
 | zero => omega
 | succ n ih =>
  show sumTo n f + f n < sumTo n g + g n
  have h2 := h n (by omega)
  by_cases a : k = n
  ·subst a
   have h1 := sumTo_le (n := k) (f := f) (g := g) (fun i hi => h i (by omega))
   omega
  ·have h1 := ih (fun i hi => h i (by omega)) (by omega)
   omega
theorem height_le {n : Nat} {l : List Edge} {all G : Int} (x : Nat → Int) (hin : ∀ e ∈ l, e.f < n + 1 ∧ e.t < n + 1) (hw : ∀ e ∈ l, 0 < e.w) (hh : Hangs (n + 1) l)
  (hg : ∀ p, 0 < p → p < n + 1 → grad all x l p = 0) (hG : ∀ e ∈ l, -G ≤ e.d * all ∧ e.d * all ≤ G) (h0 : x 0 = 0) (hG0 : 0 ≤ G) : ∀ p, p < n + 1 → x p ≤ n * G := by
 intro p hp
 rcases Int.lt_or_le (n * G) (x p) with hbig | hbig
 ·exfalso
  have hc : ∀ k : Nat, k ≤ n → sumTo (n + 1) (fun p => if (k : Int) * G < x p then 1 else 0) + k ≤ n := by
   intro k
   induction k with
   | zero =>
    intro _
    rw [sumTo_first]
    have e1 : (if ((0 : Nat) : Int) * G < x 0 then (1 : Int) else 0) = 0 := by rw [h0, if_neg (by simp)]
    have e2 : sumTo n (fun i => if ((0 : Nat) : Int) * G < x (i + 1) then (1 : Int) else 0) ≤ sumTo n (fun _ => 1) := sumTo_le fun i _ => by split <;> decide
    have e3 : ∀ m : Nat, sumTo m (fun _ => (1 : Int)) = m := fun m => by
     induction m with
     | zero => rfl
     | succ m ih => show sumTo m (fun _ => (1 : Int)) + 1 = _; rw [ih]; rfl
    rw [e3] at e2
    rw [e1]
    omega
   | succ k ih =>
    intro hk
    have h1 := ih (by omega)
    have hkG : ((k + 1 : Nat) : Int) * G = (k : Int) * G + G := by
     rw [Int.natCast_add, Int.add_mul]; simp
    have hle : ((k + 1 : Nat) : Int) * G ≤ (n : Int) * G := Int.mul_le_mul_of_nonneg_right (by omega) hG0
    have hk0 : 0 ≤ (k : Int) * G := Int.mul_nonneg (by omega) hG0
    have hex : ∃ q, q < n + 1 ∧ (k : Int) * G < x q ∧ ¬ ((k + 1 : Nat) : Int) * G < x q := by
     rcases Decidable.em (∃ q, q < n + 1 ∧ (k : Int) * G < x q ∧ ¬ ((k + 1 : Nat) : Int) * G < x q) with h2 | h2
     ·exact h2
     ·exfalso
      have h3 := no_gap (c := (k : Int) * G) x hin hw hh hg hG (by omega) hG0 (fun q hq => by
       rcases Int.lt_or_le ((k : Int) * G) (x q) with h4 | h4
       ·right
        rcases Int.lt_or_le (((k + 1 : Nat) : Int) * G) (x q) with h5 | h5
        ·omega
        ·exact absurd ⟨q, hq, h4, by omega⟩ h2
       ·left; exact h4) p hp
      omega
    obtain ⟨q, hq, h4, h5⟩ := hex
    have h6 := sumTo_lt (n := n + 1) (f := fun p => if ((k + 1 : Nat) : Int) * G < x p then 1 else 0) (g := fun p => if (k : Int) * G < x p then 1 else 0) (fun i _ => by
     show (if ((k + 1 : Nat) : Int) * G < x i then (1 : Int) else 0) ≤ (if (k : Int) * G < x i then 1 else 0)
     split
     ·rw [if_pos (by omega)]; exact Int.le_refl _
     ·split <;> decide) hq (by
     show (if ((k + 1 : Nat) : Int) * G < x q then (1 : Int) else 0) < (if (k : Int) * G < x q then 1 else 0)
     rw [if_neg h5, if_pos h4]; decide)
    omega
  have h1 := hc n (Nat.le_refl n)
  have h2 := sumTo_lt (n := n + 1) (f := fun _ => 0) (g := fun p => if (n : Int) * G < x p then 1 else 0) (fun i _ => by
   show (0 : Int) ≤ if (n : Int) * G < x i then 1 else 0
   split <;> decide) hp (by
   show (0 : Int) < if (n : Int) * G < x p then 1 else 0
   rw [if_pos hbig]; decide)
  rw [sumTo_zero] at h2
  omega
 ·exact hbig
def flipD (e : Edge) : Edge := { e with d := -e.d }
theorem grad_flip (all : Int) (x : Nat → Int) (p : Nat) : ∀ l : List Edge, grad all (fun i => - x i) (l.map flipD) p = - grad all x l p
 | [] => rfl
 | e :: l => by
  show e.w * (-e.d * all - - x e.t + - x e.f) * (dl e.t p - dl e.f p) + grad all (fun i => - x i) (l.map flipD) p = - (e.w * (e.d * all - x e.t + x e.f) * (dl e.t p - dl e.f p) + grad all x l p)
  rw [grad_flip all x p l]
  grind
theorem height_ge {n : Nat} {l : List Edge} {all G : Int} (x : Nat → Int) (hin : ∀ e ∈ l, e.f < n + 1 ∧ e.t < n + 1) (hw : ∀ e ∈ l, 0 < e.w) (hh : Hangs (n + 1) l)
  (hg : ∀ p, 0 < p → p < n + 1 → grad all x l p = 0) (hG : ∀ e ∈ l, -G ≤ e.d * all ∧ e.d * all ≤ G) (h0 : x 0 = 0) (hG0 : 0 ≤ G) : ∀ p, p < n + 1 → -(n * G) ≤ x p := by
 intro p hp
 have hmem : ∀ e ∈ l.map flipD, ∃ a ∈ l, flipD a = e := fun e he => by
  obtain ⟨a, ha, h⟩ := List.mem_map.mp he
  exact ⟨a, ha, h⟩
 have h := height_le (l := l.map flipD) (all := all) (G := G) (fun i => - x i) (fun e he => by
  obtain ⟨a, ha, rfl⟩ := hmem e he
  exact hin a ha) (fun e he => by
  obtain ⟨a, ha, rfl⟩ := hmem e he
  exact hw a ha) (fun S hS hSe => hh S hS (fun e he => hSe (flipD e) (List.mem_map.mpr ⟨e, he, rfl⟩))) (fun q hq hqn => by rw [grad_flip, hg q hq hqn]; rfl) (fun e he => by
  obtain ⟨a, ha, rfl⟩ := hmem e he
  have := hG a ha
  show -G ≤ -a.d * all ∧ -a.d * all ≤ G
  rw [Int.neg_mul]
  omega) (by show - x 0 = 0; rw [h0]; rfl) hG0 p hp
 have h' : - x p ≤ n * G := h
 omega
end Go.Proofs.Ytfcjeejhdklkdaa.Cal
namespace Go.Proofs.Ytfcjeejhdklkdaa.Cal
theorem lowN_mul (a b : Int) : lowN a b * Int.gcd a b = a := by
 unfold lowN
 exact Int.tdiv_mul_cancel (Int.gcd_dvd_left ..)
theorem lowD_mul (a b : Int) : lowD a b * Int.gcd a b = b := by
 unfold lowD
 exact Int.tdiv_mul_cancel (Int.gcd_dvd_right ..)
theorem lowD_pos {a b : Int} (hb : 0 < b) : 0 < lowD a b := by
 have h1 := lowD_mul a b
 have h2 := gcd_pos (a := a) hb
 rcases Int.lt_or_le 0 (lowD a b) with h | h
 ·exact h
 ·have := Int.mul_nonpos_of_nonpos_of_nonneg h (by omega : (0 : Int) ≤ (Int.gcd a b : Int))
  omega
theorem low_cross (a b : Int) : lowN a b * b = a * lowD a b := by
 have h1 := lowN_mul a b
 have h2 := lowD_mul a b
 generalize lowN a b = N at *
 generalize lowD a b = D at *
 generalize (Int.gcd a b : Int) = g at *
 grind
theorem lowD_dvd (a b : Int) : lowD a b ∣ b := ⟨Int.gcd a b, (lowD_mul a b).symm⟩
theorem low_coprime {a b : Int} (hb : 0 < b) : Int.gcd (lowN a b) (lowD a b) = 1 := by
 have hg := gcd_pos (a := a) hb
 have h1 := lowN_mul a b
 have h2 := lowD_mul a b
 have h3 : Int.gcd (lowN a b * (Int.gcd a b : Int)) (lowD a b * (Int.gcd a b : Int)) = Int.gcd (lowN a b) (lowD a b) * Int.gcd a b := by
  rw [Int.gcd_mul_right]; simp
 rw [h1, h2] at h3
 have h4 : 1 * Int.gcd a b = Int.gcd (lowN a b) (lowD a b) * Int.gcd a b := by rw [Nat.one_mul]; exact h3
 exact (Nat.eq_of_mul_eq_mul_right hg h4).symm
def more (parts den : Int) : Int := den.tdiv (Int.gcd parts den)
theorem more_pos {parts den : Int} (hd : 0 < den) : 0 < more parts den := lowD_pos (a := parts) hd
theorem parts_more_dvd {parts den all : Int} (hp : 0 < parts) (hd : 0 < den) (h1 : parts ∣ all) (h2 : den ∣ all) : parts * more parts den ∣ all := by
 have e : parts * more parts den = (Int.lcm parts den : Int) := by
  have hm := lowD_mul parts den
  have hg := gcd_pos (a := parts) hd
  have hl : (Int.gcd parts den : Int) * (Int.lcm parts den : Int) = parts * den := by
   have := Int.gcd_mul_lcm parts den
   have h3 : ((Int.gcd parts den * Int.lcm parts den : Nat) : Int) = ((parts * den).natAbs : Int) := by rw [this]; simp [Int.natAbs_mul]
   rw [Int.natCast_mul] at h3
   rw [h3]
   have := Int.mul_pos hp hd
   omega
  have h4 : (parts * more parts den) * (Int.gcd parts den : Int) = (Int.lcm parts den : Int) * (Int.gcd parts den : Int) := by
   unfold more
   unfold lowD at hm
   rw [Int.mul_assoc, hm, Int.mul_comm (Int.lcm parts den : Int), hl]
  exact Int.eq_of_mul_eq_mul_right (by omega) h4
 rw [e]
 have h5 : Int.lcm parts den ∣ all.natAbs := by
  unfold Int.lcm
  exact Nat.lcm_dvd (Int.natAbs_dvd_natAbs.mpr h1) (Int.natAbs_dvd_natAbs.mpr h2)
 exact Int.ofNat_dvd_left.mpr h5
theorem dvd_parts_more {parts den : Int} : parts ∣ parts * more parts den ∧ den ∣ parts * more parts den := by
 refine ⟨⟨more parts den, rfl⟩, ?_⟩
 have hm := lowD_mul parts den
 obtain ⟨k, hk⟩ : (Int.gcd parts den : Int) ∣ parts := Int.gcd_dvd_left ..
 refine ⟨k, ?_⟩
 unfold more
 unfold lowD at hm
 generalize (Int.gcd parts den : Int) = g at *
 generalize den.tdiv g = m at *
 rw [hk, ← hm]
 grind
theorem scaled_cross {N D num den parts : Int} (h1 : num * D = N * den) (h2 : den ∣ parts) (hd : 0 < den) : (num * parts.tdiv den) * D = N * parts := by
 obtain ⟨k, rfl⟩ := h2
 have e : (den * k).tdiv den = k := Int.mul_tdiv_cancel_left k (by omega)
 rw [e]
 grind
end Go.Proofs.Ytfcjeejhdklkdaa.Cal
namespace Go.Proofs.Ytfcjeejhdklkdaa
open Go Go.RowKit Go.ChangeShapes Go.WideShapes Go.Deep
section
variable {H : Type} {enc : TypeId × Value → H} {w : World} {spare : Nat → Bool} {held : Bool} {r : Reach} {b0 : Nat} {v : Value} {d : DataW H} {ps : List MemPlace}
theorem cellsInt1 : Try.prog.cellsOf 3 = 1 := by kernel_rfl
theorem ints_of_openW (hval : Value.okWide Try.prog w r b0 23 v) (h : DataW.Trod enc Try.prog w 0 spare held 23 v d ps) :
  ∃ (O : Option Addr) (zs : List Int) (c : Nat), v = .slice O zs.length c ∧ RowsAt w O 1 (intRows zs) ∧ ∀ n ∈ zs, -9223372036854775808 ≤ n ∧ n ≤ 9223372036854775807 := by
 obtain ⟨A, len, cap, rfl⟩ := okWide_slice Try.underlying23 hval
 obtain ⟨fuel, hf⟩ := h
 rcases Go.ChangeShapes.open_ints Try.underlying23 Try.underlying3 cellsInt1 hf with ⟨hcs, _⟩ | ⟨a, len', cap', zs, hcs, _, hlc, hcm, hzl, _, hcell, hwf⟩
 ·have he : A = none ∧ len = 0 ∧ cap = 0 := by simpa [Value.cells] using hcs
  obtain ⟨rfl, rfl, rfl⟩ := he
  exact ⟨none, [], 0, rfl, fun k r hr => (by simp [intRows] at hr), fun n hn => by cases hn⟩
 ·have he : A = some a ∧ len = len' ∧ cap = cap' := by simpa [Value.cells] using hcs
  obtain ⟨rfl, rfl, rfl⟩ := he
  have hle : len ≤ zs.length := by rw [hzl]; split <;> omega
  have hlen : (zs.take len).length = len := by rw [List.length_take]; omega
  refine ⟨some a, zs.take len, cap, by rw [hlen], fun k row hr => ?_, fun n hn => wf_bounds (hwf n (List.mem_of_mem_take hn))⟩
  have hk : k < len := by
   have := (List.getElem?_eq_some_iff.1 hr).1
   unfold intRows at this
   rw [List.length_map, hlen] at this
   exact this
  have hrow : row = [.int .i64 (zs.getD k 0)] := by
   unfold intRows at hr
   rw [List.getElem?_map, List.getElem?_take, if_pos hk, List.getElem?_eq_getElem (by omega)] at hr
   have := (Option.some.inj hr).symm
   rw [this]
   simp [List.getD, List.getElem?_eq_getElem (show k < zs.length by omega)]
  have h0 := hcell 0 (by omega)
  have ha : a = ⟨a.block, a.off, none⟩ := addr_plain h0 ⟨_, h0⟩
  refine ⟨a.block, a.off, by rw [← ha], ?_, fun j v hv => ?_⟩
  ·obtain ⟨o, ho, _⟩ := cells_of_cell h0
   have := (Array.getElem?_eq_some_iff.1 ho).1
   simpa [Addr.add] using this
  ·subst hrow
   match j, hv with
   | 0, hv =>
    cases hv
    have h1 := hcell k (by omega)
    rw [ha, Go.WideShapes.add_plain] at h1
    simpa using h1
   | j + 1, hv => simp at hv
theorem levs_of_open (hval : Value.okWide Try.prog w r b0 22 v) (h : DataW.Trod enc Try.prog w 0 spare held 22 v d ps) :
  ∃ (A : Option Addr) (l : List Lev) (c : Nat), v = .slice A l.length c ∧ RowsAt w A 4 (l.map Lev.cells) ∧ (∀ p ∈ l, (-9223372036854775808 ≤ p.f ∧ p.f ≤ 9223372036854775807) ∧ (-9223372036854775808 ≤ p.t ∧ p.t ≤ 9223372036854775807) ∧ (-9223372036854775808 ≤ p.d ∧ p.d ≤ 9223372036854775807) ∧ (-9223372036854775808 ≤ p.w ∧ p.w ≤ 9223372036854775807)) := by
 obtain ⟨A, len, cap, rfl⟩ := okWide_slice Try.underlying22 hval
 obtain ⟨fuel, hf⟩ := h
 obtain ⟨A', len', cap', hcs, hlen, hq⟩ := rows_of_open Try.underlying22 Try.underlying41 (by kernel_rfl) (by kernel_rfl) (by decide) hf
 have he : A = A' ∧ len = len' ∧ cap = cap' := by simpa [Value.cells] using hcs
 obtain ⟨rfl, rfl, rfl⟩ := he
 have h1 : ∀ i, i < len → ∃ p : Lev, ((-9223372036854775808 ≤ p.f ∧ p.f ≤ 9223372036854775807) ∧ (-9223372036854775808 ≤ p.t ∧ p.t ≤ 9223372036854775807) ∧ (-9223372036854775808 ≤ p.d ∧ p.d ≤ 9223372036854775807) ∧ (-9223372036854775808 ≤ p.w ∧ p.w ≤ 9223372036854775807)) ∧ ∃ b o, A = some ⟨b, o, none⟩ ∧ b < w.heap.size ∧ ∀ j v, (Lev.cells p)[j]? = some v → w.cell? ⟨b, o + (i * 4 + j), none⟩ = some v := fun i hi => by
  obtain ⟨b, o, n, hA, hb, hf⟩ := hq i hi
  obtain ⟨v0, y0, c0, t0⟩ := hf 0 _ rfl
  obtain ⟨v1, y1, c1, t1⟩ := hf 1 _ rfl
  obtain ⟨v2, y2, c2, t2⟩ := hf 2 _ rfl
  obtain ⟨v3, y3, c3, t3⟩ := hf 3 _ rfl
  obtain ⟨s0, e0, _, w0⟩ := DataW.trod_int Try.underlying3 t0
  obtain ⟨s1, e1, _, w1⟩ := DataW.trod_int Try.underlying3 t1
  obtain ⟨s2, e2, _, w2⟩ := DataW.trod_int Try.underlying3 t2
  obtain ⟨s3, e3, _, w3⟩ := DataW.trod_int Try.underlying3 t3
  cases e0; cases e1; cases e2; cases e3
  refine ⟨⟨s0, s1, s2, s3⟩, ⟨wf_bounds w0, wf_bounds w1, wf_bounds w2, wf_bounds w3⟩, b, o, hA, hb, fun j v hv => ?_⟩
  match j, hv with
  | 0, hv => cases hv; exact c0
  | 1, hv => cases hv; exact c1
  | 2, hv => cases hv; exact c2
  | 3, hv => cases hv; exact c3
  | j + 4, hv => simp [Lev.cells] at hv
 obtain ⟨l, hl, hq'⟩ := list_of len h1
 subst hl
 refine ⟨A, l, cap, rfl, fun k r hr => ?_, fun p hp => ?_⟩
 ·rw [List.getElem?_map] at hr
  cases hk : l[k]? with
  | none => rw [hk] at hr; cases hr
  | some p => rw [hk] at hr; cases hr; exact (hq' k p hk).2
 ·obtain ⟨k, hk, rfl⟩ := List.getElem_of_mem hp
  exact (hq' k _ (List.getElem?_eq_getElem hk)).1
end
end Go.Proofs.Ytfcjeejhdklkdaa
