/- What the statements rest on: definitions and walks, part 24. -/
import Derived.Test.YthfokpchdlcidaaJ19
import Derived.Test.YthfokpchdlcidaaJ14
set_option maxRecDepth 100000
set_option maxHeartbeats 16000000
set_option linter.unusedSimpArgs false
set_option linter.unusedVariables false
namespace Go.Proofs.Ythfokpchdlcidaa
open Go Go.RowKit Go.Sort
theorem IntsL.less {w : World} {B B' : Nat} {v : Value} {zs : List Int} (h : IntsL w B v zs) (hB : B' ≤ B) : IntsL w B' v zs:=OwnL.less h hB
end Go.Proofs.Ythfokpchdlcidaa
namespace Go.Proofs.Ythfokpchdlcidaa
open Go Go.RowKit
theorem StAt.all {w : World} {B : Nat} {A : Option Addr} {c : Nat} {p : Proc} {s : NSt} (h : StAt w B A c p s) : w.cell? ⟨B,0,none⟩ = some (.int .i64 p.runs.m) ∧ w.cell? ⟨B,1,none⟩ = some (.int .i64 p.runs.d) ∧ w.cell? ⟨B,2,none⟩ = some (.bool p.runs.k) ∧ w.cell? ⟨B,3,none⟩ = some (.int .i64 p.obj.m) ∧ w.cell? ⟨B,4,none⟩ = some (.int .i64 p.obj.d) ∧ w.cell? ⟨B,5,none⟩ = some (.bool p.obj.k) ∧ w.cell? ⟨B,6,none⟩ = some (.int .i64 p.wait.m) ∧ w.cell? ⟨B,7,none⟩ = some (.int .i64 p.wait.d) ∧ w.cell? ⟨B,8,none⟩ = some (.bool p.wait.k) ∧ w.cell? ⟨B,9,none⟩ = some (.int .i64 p.exts) ∧ w.cell? ⟨B,10,none⟩ = some (.int .i64 p.longest) ∧ w.cell? ⟨B,11,none⟩ = some (.slice A p.hols.length c) ∧ w.cell? ⟨B,12,none⟩ = some (.int .i64 s.phase) ∧ w.cell? ⟨B,13,none⟩ = some (.int .i64 s.last) ∧ w.cell? ⟨B,14,none⟩ = some (.int .i64 s.deadline) ∧ w.cell? ⟨B,15,none⟩ = some (.int .i64 s.object) ∧ w.cell? ⟨B,16,none⟩ = some (.int .i64 s.objected) ∧ w.cell? ⟨B,17,none⟩ = some (.int .i64 s.extended) :=
 ⟨h.range 0 _ rfl,h.range 1 _ rfl,h.range 2 _ rfl,h.range 3 _ rfl,h.range 4 _ rfl,h.range 5 _ rfl,h.range 6 _ rfl,h.range 7 _ rfl,h.range 8 _ rfl,h.range 9 _ rfl,h.range 10 _ rfl,h.range 11 _ rfl,h.range 12 _ rfl,h.range 13 _ rfl,h.range 14 _ rfl,h.range 15 _ rfl,h.range 16 _ rfl,h.range 17 _ rfl⟩
end Go.Proofs.Ythfokpchdlcidaa
namespace Go.Proofs.Ythfokpchdlcidaa
open Go Go.RowKit
theorem gt {w : World} {B : Nat} {g : Grad} (h : BoxAt w B [.int .i64 g.t0,.int .i64 g.t1,.int .i64 g.t2,.int .i64 g.p0,.int .i64 g.p1,.int .i64 g.p2,.int .i64 g.m0,.int .i64 g.m1,.int .i64 g.m2,.int .i64 g.m3]) : NumsAt w B 0 [g.t0,g.t1,g.t2]:=h.nums 0 _ (by simp) (fun k z hz=>by match k,hz with | 0,hz=>cases hz;rfl | 1,hz=>cases hz;rfl | 2,hz=>cases hz;rfl)
end Go.Proofs.Ythfokpchdlcidaa
namespace Go.Proofs.Ythfokpchdlcidaa.Cal
def vOf (all : Int) (x : Nat → Int) (e : Edge) : Int:=e.d * all - x e.t + x e.f
def grad (all : Int) (x : Nat → Int) : List Edge → Nat → Int
 | [],_=>0
 | e :: l,p=>e.w * vOf all x e * (dl e.t p - dl e.f p) + grad all x l p
theorem lap_row {n : Nat} (x : Nat → Int) (e : Edge) (l : List Edge) (hf : e.f < n) (ht : e.t < n) (i : Nat) : sumTo n (fun j=>lap (e :: l) i j * x j) = e.w * (dl e.f i - dl e.t i) * (x e.f - x e.t) + sumTo n (fun j=>lap l i j * x j):=by
 have e2 : sumTo n (fun j=>lap (e :: l) i j * x j) = sumTo n (fun j=>(e.w * (dl e.f i - dl e.t i)) * (dl e.f j * x j + - (dl e.t j * x j)) + lap l i j * x j):=sumTo_congr fun j _=>by
  show (e.w * (dl e.f i - dl e.t i) * (dl e.f j - dl e.t j) + lap l i j) * x j = _
  grind
 rw [e2,sumTo_add,sumTo_mul,sumTo_add,sumTo_neg,sumTo_dl hf,sumTo_dl ht]
 grind
theorem grad_eq {n : Nat} (all : Int) (x : Nat → Int) (p : Nat) : ∀ l : List Edge,(∀ e ∈ l,e.f < n ∧ e.t < n) → grad all x l p = all * rhs l p - sumTo n (fun j=>lap l p j * x j)
 | [],_=>by
  show (0 : Int) = all * 0 - sumTo n (fun j=>0 * x j)
  rw [sumTo_mul,Int.zero_mul,Int.mul_zero];rfl
 | e :: l,h=>by
  obtain ⟨hf,ht⟩:=h e (List.mem_cons_self ..)
  rw [lap_row x e l hf ht]
  show e.w * vOf all x e * (dl e.t p - dl e.f p) + grad all x l p = all * (e.w * e.d * (dl e.t p - dl e.f p) + rhs l p) - _
  rw [grad_eq all x p l (fun a ha=>h a (List.mem_cons_of_mem _ ha))]
  unfold vOf
  generalize sumTo n (fun j=>lap l p j * x j) = q
  grind
def mix (all : Int) (x z : Nat → Int) : List Edge → Int
 | []=>0
 | e :: l=>e.w * vOf all x e * (z e.t - z e.f) + mix all x z l
theorem mix_eq {n : Nat} (all : Int) (x z : Nat → Int) : ∀ l : List Edge,(∀ e ∈ l,e.f < n ∧ e.t < n) → mix all x z l = sumTo n (fun p=>grad all x l p * z p)
 | [],_=>by
  show (0 : Int) = sumTo n (fun j=>0 * z j)
  rw [sumTo_mul,Int.zero_mul]
 | e :: l,h=>by
  obtain ⟨hf,ht⟩:=h e (List.mem_cons_self ..)
  have e3 : sumTo n (fun p=>grad all x (e :: l) p * z p) = sumTo n (fun p=>(e.w * vOf all x e) * (dl e.t p * z p + - (dl e.f p * z p)) + grad all x l p * z p):=sumTo_congr fun p _=>by
   show (e.w * vOf all x e * (dl e.t p - dl e.f p) + grad all x l p) * z p = _
   grind
  rw [e3,sumTo_add,sumTo_mul,sumTo_add,sumTo_neg,sumTo_dl hf,sumTo_dl ht,← mix_eq all x z l (fun a ha=>h a (List.mem_cons_of_mem _ ha))]
  show e.w * vOf all x e * (z e.t - z e.f) + mix all x z l = _
  grind
theorem cramer_grad {n : Nat} {l : List Edge} (all : Int) (x : Nat → Int) (hin : ∀ e ∈ l,e.f < n + 1 ∧ e.t < n + 1) (hd : detN n (red (lap l)) ≠ 0) (h0 : x 0 = 0)
  (hx : ∀ j,j < n → x (j + 1) * detN n (red (lap l)) = detN n (colPut (red (lap l)) j (fun i=>rhs l (i + 1))) * all) :
  ∀ p,0 < p → p < n + 1 → grad all x l p = 0:=by
 intro p hp hpn
 obtain ⟨q,rfl⟩ : ∃ q,p = q + 1:=⟨p - 1,by omega⟩
 have h1:=cramer n (red (lap l)) (fun i=>rhs l (i + 1)) (p:=q) (by omega)
 have h2:=grad_eq all x (q + 1) l hin
 have h3 : sumTo (n + 1) (fun j=>lap l (q + 1) j * x j) * detN n (red (lap l)) = all * (rhs l (q + 1) * detN n (red (lap l))):=by
  rw [sumTo_first,h0,Int.mul_zero,Int.zero_add,← h1,← sumTo_mul,Int.mul_comm,← sumTo_mul]
  refine sumTo_congr fun j hj=>?_
  have h4:=hx j hj
  show detN n (red (lap l)) * (lap l (q + 1) (j + 1) * x (j + 1)) = all * (lap l (q + 1) (j + 1) * detN n (colPut (red (lap l)) j (fun i=>rhs l (i + 1))))
  generalize detN n (red (lap l)) = D at *
  generalize detN n (colPut (red (lap l)) j (fun i=>rhs l (i + 1))) = N at *
  grind
 have h5 : grad all x l (q + 1) * detN n (red (lap l)) = 0:=by
  rw [h2,Int.sub_mul,h3]
  grind
 rcases Int.mul_eq_zero.mp h5 with h6 | h6
 ·exact h6
 ·exact absurd h6 hd
theorem ab_nonneg (x : Int) : 0 ≤ ab x:=Int.natCast_nonneg _
theorem ab_mul (x y : Int) : ab (x * y) = ab x * ab y:=by unfold ab;rw [Int.natAbs_mul];simp
theorem ab_add (x y : Int) : ab (x + y) ≤ ab x + ab y:=by unfold ab;omega
theorem ab_sg (c : Nat) : ab (sg c) = 1:=by unfold sg;split <;> rfl
theorem ab_sumTo (n : Nat) (f : Nat → Int) : ab (sumTo n f) ≤ sumTo n (fun i=>ab (f i)):=by
 induction n with
 | zero=>exact Int.le_refl 0
 | succ n ih =>
  have h:=ab_add (sumTo n f) (f n)
  show ab (sumTo n f + f n) ≤ sumTo n (fun i=>ab (f i)) + ab (f n)
  omega
theorem skip_le {n c : Nat} (hc : c ≤ n) (g : Nat → Int) (hg : ∀ i,0 ≤ g i) : sumTo n (fun i=>g (skipI c i)) ≤ sumTo (n + 1) g:=by
 rw [sumTo_skip hc g]
 exact sumTo_le fun i _=>by split;exact hg i;exact Int.le_refl _
theorem ab_det (n : Nat) (A : Mat) : ab (detN (n + 1) A) ≤ sumTo (n + 1) (fun c=>ab (A 0 c) * ab (detN n (minor A c))):=by
 have h:=ab_sumTo (n + 1) (fun c=>sg c * A 0 c * detN n (minor A c))
 have e : sumTo (n + 1) (fun c=>ab (sg c * A 0 c * detN n (minor A c))) = sumTo (n + 1) (fun c=>ab (A 0 c) * ab (detN n (minor A c))):=sumTo_congr fun c _=>by
  rw [ab_mul,ab_mul,ab_sg,Int.one_mul]
 rw [e] at h
 exact h
theorem det_le {S : Int} (hS : 0 ≤ S) : ∀ (n : Nat) (A : Mat),(∀ i,i < n → sumTo n (fun j=>ab (A i j)) ≤ S) → ab (detN n A) ≤ S ^ n
 | 0,A,_=>by show (1 : Int) ≤ S ^ 0;rw [Int.pow_zero];exact Int.le_refl 1
 | n + 1,A,h=>by
  refine Int.le_trans (ab_det n A) ?_
  have h1 : sumTo (n + 1) (fun c=>ab (A 0 c) * ab (detN n (minor A c))) ≤ sumTo (n + 1) (fun c=>S ^ n * ab (A 0 c)):=sumTo_le fun c hc=>by
   rw [Int.mul_comm]
   refine Int.mul_le_mul_of_nonneg_right (det_le hS n (minor A c) fun i hi=>?_) (ab_nonneg _)
   exact Int.le_trans (skip_le (by omega) (fun j=>ab (A (i + 1) j)) (fun j=>ab_nonneg _)) (h (i + 1) (by omega))
  refine Int.le_trans h1 ?_
  rw [sumTo_mul,Int.pow_succ]
  exact Int.mul_le_mul_of_nonneg_left (h 0 (by omega)) (Int.pow_nonneg hS)
def butSum (n c : Nat) (g : Nat → Int) : Int:=sumTo n (fun j=>if j = c then 0 else g j)
theorem skip_but {n c q : Nat} (hc : c ≤ n) (g : Nat → Int) (hg : ∀ i,0 ≤ g i) : sumTo n (fun j=>if skipI c j = q then 0 else g (skipI c j)) ≤ butSum (n + 1) q g :=
 skip_le hc (fun j=>if j = q then 0 else g j) (fun i=>by split;exact Int.le_refl 0;exact hg i)
theorem sumTo_but {n c : Nat} (hc : c < n) (f : Nat → Int) : sumTo n f = f c + butSum n c f:=by
 unfold butSum
 induction n with
 | zero=>omega
 | succ n ih =>
  show sumTo n f + f n = f c + (sumTo n (fun j=>if j = c then 0 else f j) + (if n = c then 0 else f n))
  by_cases h : n = c
  ·subst h
   rw [if_pos rfl]
   have e : sumTo n (fun j=>if j = n then 0 else f j) = sumTo n f:=sumTo_congr fun j hj=>by rw [if_neg (by omega)]
   rw [e];omega
  ·rw [if_neg h,ih (by omega)];omega
theorem det_put_le {S C : Int} (hS : 0 ≤ S) (hC : 0 ≤ C) : ∀ (n q : Nat) (A : Mat),q < n + 1 → (∀ i,i < n + 1 → ab (A i q) ≤ C) → (∀ i,i < n + 1 → butSum (n + 1) q (fun j=>ab (A i j)) ≤ S) → ab (detN (n + 1) A) ≤ ((n : Int) + 1) * C * S ^ n
 | 0,q,A,hq,h1,_=>by
  obtain rfl : q = 0:=by omega
  have h:=h1 0 (by omega)
  have e : detN 1 A = A 0 0:=by
   show (0 : Int) + (1 * A 0 0 * 1) = A 0 0
   omega
  show ab (detN 1 A) ≤ _
  rw [e,Int.pow_zero]
  simpa using h
 | n + 1,q,A,hq,h1,h2=>by
  refine Int.le_trans (ab_det (n + 1) A) ?_
  rw [sumTo_but hq (fun c=>ab (A 0 c) * ab (detN (n + 1) (minor A c)))]
  have hP : 0 ≤ ((n : Int) + 1) * C * S ^ n:=Int.mul_nonneg (Int.mul_nonneg (by omega) hC) (Int.pow_nonneg hS)
  have ha : ab (A 0 q) * ab (detN (n + 1) (minor A q)) ≤ C * S ^ (n + 1):=by
   refine Int.mul_le_mul (h1 0 (by omega)) (det_le hS (n + 1) (minor A q) fun i hi=>?_) (ab_nonneg _) hC
   refine Int.le_trans ?_ (h2 (i + 1) (by omega))
   have e : sumTo (n + 1) (fun j=>ab (minor A q i j)) = butSum (n + 1 + 1) q (fun j=>ab (A (i + 1) j)):=sumTo_skip (by omega) (fun j=>ab (A (i + 1) j))
   rw [e]
   exact Int.le_refl _
  have hb : butSum (n + 1 + 1) q (fun c=>ab (A 0 c) * ab (detN (n + 1) (minor A c))) ≤ S * (((n : Int) + 1) * C * S ^ n):=by
   have hb1 : butSum (n + 1 + 1) q (fun c=>ab (A 0 c) * ab (detN (n + 1) (minor A c))) ≤ sumTo (n + 1 + 1) (fun c=>(((n : Int) + 1) * C * S ^ n) * (if c = q then 0 else ab (A 0 c))):=sumTo_le fun c hc=>by
    by_cases hcq : c = q
    ·rw [if_pos hcq,if_pos hcq,Int.mul_zero];exact Int.le_refl 0
    ·rw [if_neg hcq,if_neg hcq]
     show ab (A 0 c) * ab (detN (n + 1) (minor A c)) ≤ _
     rw [Int.mul_comm]
     refine Int.mul_le_mul_of_nonneg_right ?_ (ab_nonneg _)
     have hs : skipI c (if q < c then q else q - 1) = q:=by unfold skipI;grind
     have hs2 : ∀ j,(skipI c j = q) ↔ (j = if q < c then q else q - 1):=fun j=>by unfold skipI;grind
     refine det_put_le hS hC n (if q < c then q else q - 1) (minor A c) (by split <;> omega) (fun i hi=>?_) (fun i hi=>?_)
     ·show ab (A (i + 1) (skipI c _)) ≤ C
      rw [hs]
      exact h1 (i + 1) (by omega)
     ·refine Int.le_trans ?_ (h2 (i + 1) (by omega))
      refine Int.le_trans ?_ (skip_but (by omega) (fun j=>ab (A (i + 1) j)) (fun j=>ab_nonneg _) (c:=c))
      refine Int.le_of_eq (sumTo_congr fun j hj=>?_)
      by_cases hj : skipI c j = q
      ·rw [if_pos hj,if_pos ((hs2 j).mp hj)]
      ·rw [if_neg hj,if_neg (fun h=>hj ((hs2 j).mpr h))];rfl
   refine Int.le_trans hb1 ?_
   rw [sumTo_mul,Int.mul_comm]
   exact Int.mul_le_mul_of_nonneg_right (h2 0 (by omega)) hP
  have e : ((n + 1 : Nat) : Int) + 1 = ((n : Int) + 1) + 1:=by omega
  rw [e]
  rw [Int.pow_succ] at ha ⊢
  generalize S ^ n = T at *
  grind
theorem ab_dl2 (a b i : Nat) : ab (dl a i - dl b i) ≤ 1:=by
 unfold ab dl
 split <;> split <;> decide
theorem lap_le (n : Nat) (i : Nat) : ∀ l : List Edge,(∀ e ∈ l,0 < e.w) → sumTo n (fun j=>ab (lap l i j)) ≤ 2 * wSum l
 | [],_=>by
  show sumTo n (fun _=>0) ≤ 0
  rw [sumTo_zero];exact Int.le_refl 0
 | e :: l,h=>by
  have ih:=lap_le n i l (fun a ha=>h a (List.mem_cons_of_mem _ ha))
  have hw:=h e (List.mem_cons_self ..)
  have h1 : sumTo n (fun j=>ab (lap (e :: l) i j)) ≤ sumTo n (fun j=>e.w * ab (dl e.f j - dl e.t j) + ab (lap l i j)):=sumTo_le fun j _=>by
   have h2:=ab_add (e.w * (dl e.f i - dl e.t i) * (dl e.f j - dl e.t j)) (lap l i j)
   rw [ab_mul,ab_mul] at h2
   have h3 : ab e.w = e.w:=by unfold ab;omega
   rw [h3] at h2
   have h4 : e.w * ab (dl e.f i - dl e.t i) * ab (dl e.f j - dl e.t j) ≤ e.w * ab (dl e.f j - dl e.t j):=by
    refine Int.mul_le_mul_of_nonneg_right ?_ (ab_nonneg _)
    have h5:=Int.mul_le_mul_of_nonneg_left (ab_dl2 e.f e.t i) (Int.le_of_lt hw)
    rw [Int.mul_one] at h5
    exact h5
   exact Int.le_trans h2 (by omega)
  refine Int.le_trans h1 ?_
  rw [sumTo_add,sumTo_mul]
  have h6:=Int.mul_le_mul_of_nonneg_left (sum_dl2_le n e.f e.t) (Int.le_of_lt hw)
  show _ ≤ 2 * (e.w + wSum l)
  omega
theorem rhs_le {D : Int} (p : Nat) : ∀ l : List Edge,(∀ e ∈ l,0 < e.w ∧ ab e.d ≤ D) → ab (rhs l p) ≤ D * wSum l
 | [],_=>by show (0 : Int) ≤ D * 0;rw [Int.mul_zero];exact Int.le_refl 0
 | e :: l,h=>by
  have ih:=rhs_le p l (fun a ha=>h a (List.mem_cons_of_mem _ ha))
  obtain ⟨hw,hd⟩:=h e (List.mem_cons_self ..)
  have h2:=ab_add (e.w * e.d * (dl e.t p - dl e.f p)) (rhs l p)
  rw [ab_mul,ab_mul] at h2
  have h3 : ab e.w = e.w:=by unfold ab;omega
  rw [h3] at h2
  have h4 : e.w * ab e.d * ab (dl e.t p - dl e.f p) ≤ e.w * ab e.d * 1:=Int.mul_le_mul_of_nonneg_left (ab_dl2 _ _ _) (Int.mul_nonneg (Int.le_of_lt hw) (ab_nonneg _))
  have h5 : e.w * ab e.d ≤ e.w * D:=Int.mul_le_mul_of_nonneg_left hd (Int.le_of_lt hw)
  show ab (e.w * e.d * (dl e.t p - dl e.f p) + rhs l p) ≤ D * (e.w + wSum l)
  grind
theorem net_bounds {n : Nat} {l : List Edge} (hn : n ≤ 5) (hl : l.length ≤ 20) (h : ∀ e ∈ l,1 ≤ e.w ∧ e.w ≤ 10 ∧ -100000 ≤ e.d ∧ e.d ≤ 100000) :
  ab (detN n (red (lap l))) ≤ 400 ^ 5 ∧ ∀ q,q < n → ab (detN n (colPut (red (lap l)) q (fun i=>rhs l (i + 1)))) ≤ 5 * 20000000 * 400 ^ 4:=by
 have hw : wSum l ≤ 200:=by
  have h1:=wSum_le (W:=10) l (fun e he=>(h e he).2.1)
  omega
 have hrow : ∀ i,sumTo n (fun j=>ab (red (lap l) i j)) ≤ 400:=fun i=>by
  have h1:=lap_le (n + 1) (i + 1) l (fun e he=>by have:=(h e he).1;omega)
  rw [sumTo_first] at h1
  have h2:=ab_nonneg (lap l (i + 1) 0)
  show sumTo n (fun j=>ab (lap l (i + 1) (j + 1))) ≤ 400
  omega
 have hr : ∀ p,ab (rhs l p) ≤ 20000000:=fun p=>by
  have h1:=rhs_le (D:=100000) p l (fun e he=>by have:=h e he;refine ⟨by omega,?_⟩;unfold ab;omega)
  omega
 constructor
 ·refine Int.le_trans (det_le (S:=400) (by decide) n _ (fun i _=>hrow i)) ?_
  have : n = 0 ∨ n = 1 ∨ n = 2 ∨ n = 3 ∨ n = 4 ∨ n = 5:=by omega
  rcases this with rfl | rfl | rfl | rfl | rfl | rfl <;> decide
 ·intro q hq
  obtain ⟨m,rfl⟩ : ∃ m,n = m + 1:=⟨n - 1,by omega⟩
  refine Int.le_trans (det_put_le (S:=400) (C:=20000000) (by decide) (by decide) m q _ hq (fun i _=>?_) (fun i _=>?_)) ?_
  ·unfold colPut;rw [if_pos rfl];exact hr (i + 1)
  ·refine Int.le_trans ?_ (hrow i)
   unfold butSum
   refine sumTo_le fun j _=>?_
   by_cases hj : j = q
   ·rw [if_pos hj];exact ab_nonneg _
   ·simp only [if_neg hj,colPut];exact Int.le_refl _
  ·have : m = 0 ∨ m = 1 ∨ m = 2 ∨ m = 3 ∨ m = 4:=by omega
   rcases this with rfl | rfl | rfl | rfl | rfl <;> decide
theorem mix_zero (all : Int) (x z : Nat → Int) : ∀ l : List Edge,(∀ e ∈ l,e.w * vOf all x e * (z e.t - z e.f) ≤ 0) → mix all x z l ≤ 0 ∧ (mix all x z l = 0 → ∀ e ∈ l,e.w * vOf all x e * (z e.t - z e.f) = 0)
 | [],_=>⟨Int.le_refl 0,fun _ e he=>by cases he⟩
 | e :: l,h=>by
  obtain ⟨h1,h2⟩:=mix_zero all x z l (fun a ha=>h a (List.mem_cons_of_mem _ ha))
  have h3:=h e (List.mem_cons_self ..)
  have e0 : mix all x z (e :: l) = e.w * vOf all x e * (z e.t - z e.f) + mix all x z l:=rfl
  refine ⟨by omega,fun h0 a ha=>?_⟩
  rcases List.mem_cons.mp ha with rfl | hb
  ·omega
  ·exact h2 (by omega) a hb
theorem no_gap {n : Nat} {l : List Edge} {all G c : Int} (x : Nat → Int) (hin : ∀ e ∈ l,e.f < n + 1 ∧ e.t < n + 1) (hw : ∀ e ∈ l,0 < e.w) (hh : Hangs (n + 1) l)
  (hg : ∀ p,0 < p → p < n + 1 → grad all x l p = 0) (hG : ∀ e ∈ l,-G ≤ e.d * all ∧ e.d * all ≤ G) (h0 : x 0 ≤ c) (hG0 : 0 ≤ G)
  (hgap : ∀ p,p < n + 1 → x p ≤ c ∨ c + G < x p) : ∀ p,p < n + 1 → x p ≤ c:=by
 let T : Nat → Int:=fun p=>if c + G < x p then 1 else 0
 have hm:=mix_eq all x T l hin
 have e0 : sumTo (n + 1) (fun p=>grad all x l p * T p) = 0:=by
  rw [← sumTo_zero (n + 1)]
  refine sumTo_congr fun p hp=>?_
  by_cases h : p = 0
  ·subst h
   have : T 0 = 0:=by show (if c + G < x 0 then (1 : Int) else 0) = 0;rw [if_neg (by omega)]
   rw [this,Int.mul_zero]
  ·rw [hg p (by omega) hp,Int.zero_mul]
 rw [e0] at hm
 have hneg : ∀ e ∈ l,∀ y,y = vOf all x e → e.w * vOf all x e * (T e.t - T e.f) ≤ 0 ∧ (e.w * vOf all x e * (T e.t - T e.f) = 0 → T e.f = T e.t):=fun e he y _=>by
  have hwe:=hw e he
  obtain ⟨hf,ht⟩:=hin e he
  obtain ⟨g1,g2⟩:=hG e he
  have hv : vOf all x e = e.d * all - x e.t + x e.f:=rfl
  have gf:=hgap e.f hf
  have gt:=hgap e.t ht
  have tf : T e.f = if c + G < x e.f then 1 else 0:=rfl
  have tt : T e.t = if c + G < x e.t then 1 else 0:=rfl
  by_cases a : c + G < x e.f
  ·by_cases b : c + G < x e.t
   ·rw [tf,tt,if_pos a,if_pos b]
    exact ⟨by rw [Int.sub_self,Int.mul_zero];exact Int.le_refl 0,fun _=>rfl⟩
   ·rw [tf,tt,if_pos a,if_neg b]
    have hvp : 0 < vOf all x e:=by omega
    have:=Int.mul_pos hwe hvp
    exact ⟨by omega,fun h=>by omega⟩
  ·by_cases b : c + G < x e.t
   ·rw [tf,tt,if_neg a,if_pos b]
    have hvp : vOf all x e < 0:=by omega
    have:=Int.mul_neg_of_pos_of_neg hwe hvp
    exact ⟨by omega,fun h=>by omega⟩
   ·rw [tf,tt,if_neg a,if_neg b]
    exact ⟨by rw [Int.sub_self,Int.mul_zero];exact Int.le_refl 0,fun _=>rfl⟩
 have hz:=(mix_zero all x T l (fun e he=>(hneg e he _ rfl).1)).2 hm
 intro p hp
 have h5:=hh (fun p=>decide (T p = 0)) (by
  have : T 0 = 0:=by show (if c + G < x 0 then (1 : Int) else 0) = 0;rw [if_neg (by omega)]
  simp [this]) (fun e he=>congrArg (fun v : Int=>decide (v = 0)) ((hneg e he _ rfl).2 (hz e he))) p hp
 have h6 : T p = 0:=by simpa using h5
 rcases hgap p hp with h7 | h7
 ·exact h7
 ·have : T p = 1:=by show (if c + G < x p then (1 : Int) else 0) = 1;rw [if_pos h7]
  omega
theorem sumTo_lt {n : Nat} {f g : Nat → Int} (h : ∀ i,i < n → f i ≤ g i) {k : Nat} (hk : k < n) (hlt : f k < g k) : sumTo n f < sumTo n g:=by
 induction n with
 | zero=>omega
 | succ n ih =>
  show sumTo n f + f n < sumTo n g + g n
  have h2:=h n (by omega)
  by_cases a : k = n
  ·subst a
   have h1:=sumTo_le (n:=k) (f:=f) (g:=g) (fun i hi=>h i (by omega))
   omega
  ·have h1:=ih (fun i hi=>h i (by omega)) (by omega)
   omega
theorem height_le {n : Nat} {l : List Edge} {all G : Int} (x : Nat → Int) (hin : ∀ e ∈ l,e.f < n + 1 ∧ e.t < n + 1) (hw : ∀ e ∈ l,0 < e.w) (hh : Hangs (n + 1) l)
  (hg : ∀ p,0 < p → p < n + 1 → grad all x l p = 0) (hG : ∀ e ∈ l,-G ≤ e.d * all ∧ e.d * all ≤ G) (h0 : x 0 = 0) (hG0 : 0 ≤ G) : ∀ p,p < n + 1 → x p ≤ n * G:=by
 intro p hp
 rcases Int.lt_or_le (n * G) (x p) with hbig | hbig
 ·exfalso
  have hc : ∀ k : Nat,k ≤ n → sumTo (n + 1) (fun p=>if (k : Int) * G < x p then 1 else 0) + k ≤ n:=by
   intro k
   induction k with
   | zero =>
    intro _
    rw [sumTo_first]
    have e1 : (if ((0 : Nat) : Int) * G < x 0 then (1 : Int) else 0) = 0:=by rw [h0,if_neg (by simp)]
    have e2 : sumTo n (fun i=>if ((0 : Nat) : Int) * G < x (i + 1) then (1 : Int) else 0) ≤ sumTo n (fun _=>1):=sumTo_le fun i _=>by split <;> decide
    have e3 : ∀ m : Nat,sumTo m (fun _=>(1 : Int)) = m:=fun m=>by
     induction m with
     | zero=>rfl
     | succ m ih=>show sumTo m (fun _=>(1 : Int)) + 1 = _;rw [ih];rfl
    rw [e3] at e2
    rw [e1]
    omega
   | succ k ih =>
    intro hk
    have h1:=ih (by omega)
    have hkG : ((k + 1 : Nat) : Int) * G = (k : Int) * G + G:=by
     rw [Int.natCast_add,Int.add_mul];simp
    have hle : ((k + 1 : Nat) : Int) * G ≤ (n : Int) * G:=Int.mul_le_mul_of_nonneg_right (by omega) hG0
    have hk0 : 0 ≤ (k : Int) * G:=Int.mul_nonneg (by omega) hG0
    have hex : ∃ q,q < n + 1 ∧ (k : Int) * G < x q ∧ ¬ ((k + 1 : Nat) : Int) * G < x q:=by
     rcases Decidable.em (∃ q,q < n + 1 ∧ (k : Int) * G < x q ∧ ¬ ((k + 1 : Nat) : Int) * G < x q) with h2 | h2
     ·exact h2
     ·exfalso
      have h3:=no_gap (c:=(k : Int) * G) x hin hw hh hg hG (by omega) hG0 (fun q hq=>by
       rcases Int.lt_or_le ((k : Int) * G) (x q) with h4 | h4
       ·right
        rcases Int.lt_or_le (((k + 1 : Nat) : Int) * G) (x q) with h5 | h5
        ·omega
        ·exact absurd ⟨q,hq,h4,by omega⟩ h2
       ·left;exact h4) p hp
      omega
    obtain ⟨q,hq,h4,h5⟩:=hex
    have h6:=sumTo_lt (n:=n + 1) (f:=fun p=>if ((k + 1 : Nat) : Int) * G < x p then 1 else 0) (g:=fun p=>if (k : Int) * G < x p then 1 else 0) (fun i _=>by
     show (if ((k + 1 : Nat) : Int) * G < x i then (1 : Int) else 0) ≤ (if (k : Int) * G < x i then 1 else 0)
     split
     ·rw [if_pos (by omega)];exact Int.le_refl _
     ·split <;> decide) hq (by
     show (if ((k + 1 : Nat) : Int) * G < x q then (1 : Int) else 0) < (if (k : Int) * G < x q then 1 else 0)
     rw [if_neg h5,if_pos h4];decide)
    omega
  have h1:=hc n (Nat.le_refl n)
  have h2:=sumTo_lt (n:=n + 1) (f:=fun _=>0) (g:=fun p=>if (n : Int) * G < x p then 1 else 0) (fun i _=>by
   show (0 : Int) ≤ if (n : Int) * G < x i then 1 else 0
   split <;> decide) hp (by
   show (0 : Int) < if (n : Int) * G < x p then 1 else 0
   rw [if_pos hbig];decide)
  rw [sumTo_zero] at h2
  omega
 ·exact hbig
def flipD (e : Edge) : Edge:={ e with d:=-e.d }
theorem grad_flip (all : Int) (x : Nat → Int) (p : Nat) : ∀ l : List Edge,grad all (fun i=>- x i) (l.map flipD) p = - grad all x l p
 | []=>rfl
 | e :: l=>by
  show e.w * (-e.d * all - - x e.t + - x e.f) * (dl e.t p - dl e.f p) + grad all (fun i=>- x i) (l.map flipD) p = - (e.w * (e.d * all - x e.t + x e.f) * (dl e.t p - dl e.f p) + grad all x l p)
  rw [grad_flip all x p l]
  grind
theorem height_ge {n : Nat} {l : List Edge} {all G : Int} (x : Nat → Int) (hin : ∀ e ∈ l,e.f < n + 1 ∧ e.t < n + 1) (hw : ∀ e ∈ l,0 < e.w) (hh : Hangs (n + 1) l)
  (hg : ∀ p,0 < p → p < n + 1 → grad all x l p = 0) (hG : ∀ e ∈ l,-G ≤ e.d * all ∧ e.d * all ≤ G) (h0 : x 0 = 0) (hG0 : 0 ≤ G) : ∀ p,p < n + 1 → -(n * G) ≤ x p:=by
 intro p hp
 have hmem : ∀ e ∈ l.map flipD,∃ a ∈ l,flipD a = e:=fun e he=>by
  obtain ⟨a,ha,h⟩:=List.mem_map.mp he
  exact ⟨a,ha,h⟩
 have h:=height_le (l:=l.map flipD) (all:=all) (G:=G) (fun i=>- x i) (fun e he=>by
  obtain ⟨a,ha,rfl⟩:=hmem e he
  exact hin a ha) (fun e he=>by
  obtain ⟨a,ha,rfl⟩:=hmem e he
  exact hw a ha) (fun S hS hSe=>hh S hS (fun e he=>hSe (flipD e) (List.mem_map.mpr ⟨e,he,rfl⟩))) (fun q hq hqn=>by rw [grad_flip,hg q hq hqn];rfl) (fun e he=>by
  obtain ⟨a,ha,rfl⟩:=hmem e he
  have:=hG a ha
  show -G ≤ -a.d * all ∧ -a.d * all ≤ G
  rw [Int.neg_mul]
  omega) (by show - x 0 = 0;rw [h0];rfl) hG0 p hp
 have h' : - x p ≤ n * G:=h
 omega
end Go.Proofs.Ythfokpchdlcidaa.Cal
namespace Go.Proofs.Ythfokpchdlcidaa.Cal
theorem lowN_mul (a b : Int) : lowN a b * Int.gcd a b = a:=by
 unfold lowN
 exact Int.tdiv_mul_cancel (Int.gcd_dvd_left ..)
theorem low_cross (a b : Int) : lowN a b * b = a * lowD a b:=by
 have h1:=lowN_mul a b
 have h2:=lowD_mul a b
 generalize lowN a b = N at *
 generalize lowD a b = D at *
 generalize (Int.gcd a b : Int) = g at *
 grind
theorem lowD_dvd (a b : Int) : lowD a b ∣ b:=⟨Int.gcd a b,(lowD_mul a b).symm⟩
theorem low_coprime {a b : Int} (hb : 0 < b) : Int.gcd (lowN a b) (lowD a b) = 1:=by
 have hg:=gcd_pos (a:=a) hb
 have h1:=lowN_mul a b
 have h2:=lowD_mul a b
 have h3 : Int.gcd (lowN a b * (Int.gcd a b : Int)) (lowD a b * (Int.gcd a b : Int)) = Int.gcd (lowN a b) (lowD a b) * Int.gcd a b:=by
  rw [Int.gcd_mul_right];simp
 rw [h1,h2] at h3
 have h4 : 1 * Int.gcd a b = Int.gcd (lowN a b) (lowD a b) * Int.gcd a b:=by rw [Nat.one_mul];exact h3
 exact (Nat.eq_of_mul_eq_mul_right hg h4).symm
theorem parts_more_dvd {parts den all : Int} (hp : 0 < parts) (hd : 0 < den) (h1 : parts ∣ all) (h2 : den ∣ all) : parts * more parts den ∣ all:=by
 have e : parts * more parts den = (Int.lcm parts den : Int):=by
  have hm:=lowD_mul parts den
  have hg:=gcd_pos (a:=parts) hd
  have hl : (Int.gcd parts den : Int) * (Int.lcm parts den : Int) = parts * den:=by
   have:=Int.gcd_mul_lcm parts den
   have h3 : ((Int.gcd parts den * Int.lcm parts den : Nat) : Int) = ((parts * den).natAbs : Int):=by rw [this];simp [Int.natAbs_mul]
   rw [Int.natCast_mul] at h3
   rw [h3]
   have:=Int.mul_pos hp hd
   omega
  have h4 : (parts * more parts den) * (Int.gcd parts den : Int) = (Int.lcm parts den : Int) * (Int.gcd parts den : Int):=by
   unfold more
   unfold lowD at hm
   rw [Int.mul_assoc,hm,Int.mul_comm (Int.lcm parts den : Int),hl]
  exact Int.eq_of_mul_eq_mul_right (by omega) h4
 rw [e]
 have h5 : Int.lcm parts den ∣ all.natAbs:=by
  unfold Int.lcm
  exact Nat.lcm_dvd (Int.natAbs_dvd_natAbs.mpr h1) (Int.natAbs_dvd_natAbs.mpr h2)
 exact Int.ofNat_dvd_left.mpr h5
theorem scaled_cross {N D num den parts : Int} (h1 : num * D = N * den) (h2 : den ∣ parts) (hd : 0 < den) : (num * parts.tdiv den) * D = N * parts:=by
 obtain ⟨k,rfl⟩:=h2
 have e : (den * k).tdiv den = k:=Int.mul_tdiv_cancel_left k (by omega)
 rw [e]
 grind
end Go.Proofs.Ythfokpchdlcidaa.Cal
namespace Go.Proofs.Ythfokpchdlcidaa
open Go Go.RowKit Go.ChangeShapes Go.WideShapes Go.Deep
section
variable {H : Type} {enc : TypeId × Value → H} {w : World} {spare : Nat → Bool} {held : Bool} {r : Reach} {b0 : Nat} {v : Value} {d : DataW H} {ps : List MemPlace}
theorem levs_of_open (hval : Value.okWide Try.prog w r b0 22 v) (h : DataW.Trod enc Try.prog w 0 spare held 22 v d ps) :
  ∃ (A : Option Addr) (l : List Lev) (c : Nat),v = .slice A l.length c ∧ RowsAt w A 4 (l.map Lev.cells) ∧ (∀ p ∈ l,(-9223372036854775808 ≤ p.f ∧ p.f ≤ 9223372036854775807) ∧ (-9223372036854775808 ≤ p.t ∧ p.t ≤ 9223372036854775807) ∧ (-9223372036854775808 ≤ p.d ∧ p.d ≤ 9223372036854775807) ∧ (-9223372036854775808 ≤ p.w ∧ p.w ≤ 9223372036854775807)):=by
 obtain ⟨A,len,cap,rfl⟩:=okWide_slice Try.underlying22 hval
 obtain ⟨fuel,hf⟩:=h
 obtain ⟨A',len',cap',hcs,hlen,hq⟩:=rows_of_open Try.underlying22 Try.underlying75 (by kernel_rfl) (by kernel_rfl) (by decide) hf
 have he : A = A' ∧ len = len' ∧ cap = cap':=by simpa [Value.cells] using hcs
 obtain ⟨rfl,rfl,rfl⟩:=he
 have h1 : ∀ i,i < len → ∃ p : Lev,((-9223372036854775808 ≤ p.f ∧ p.f ≤ 9223372036854775807) ∧ (-9223372036854775808 ≤ p.t ∧ p.t ≤ 9223372036854775807) ∧ (-9223372036854775808 ≤ p.d ∧ p.d ≤ 9223372036854775807) ∧ (-9223372036854775808 ≤ p.w ∧ p.w ≤ 9223372036854775807)) ∧ ∃ b o,A = some ⟨b,o,none⟩ ∧ b < w.heap.size ∧ ∀ j v,(Lev.cells p)[j]? = some v → w.cell? ⟨b,o + (i * 4 + j),none⟩ = some v:=fun i hi=>by
  obtain ⟨b,o,n,hA,hb,hf⟩:=hq i hi
  obtain ⟨v0,y0,c0,t0⟩:=hf 0 _ rfl
  obtain ⟨v1,y1,c1,t1⟩:=hf 1 _ rfl
  obtain ⟨v2,y2,c2,t2⟩:=hf 2 _ rfl
  obtain ⟨v3,y3,c3,t3⟩:=hf 3 _ rfl
  obtain ⟨s0,e0,_,w0⟩:=DataW.trod_int Try.underlying3 t0
  obtain ⟨s1,e1,_,w1⟩:=DataW.trod_int Try.underlying3 t1
  obtain ⟨s2,e2,_,w2⟩:=DataW.trod_int Try.underlying3 t2
  obtain ⟨s3,e3,_,w3⟩:=DataW.trod_int Try.underlying3 t3
  cases e0;cases e1;cases e2;cases e3
  refine ⟨⟨s0,s1,s2,s3⟩,⟨wf_bounds w0,wf_bounds w1,wf_bounds w2,wf_bounds w3⟩,b,o,hA,hb,fun j v hv=>?_⟩
  match j,hv with
  | 0,hv=>cases hv;exact c0
  | 1,hv=>cases hv;exact c1
  | 2,hv=>cases hv;exact c2
  | 3,hv=>cases hv;exact c3
  | j + 4,hv=>simp [Lev.cells] at hv
 obtain ⟨l,hl,hq'⟩:=list_of len h1
 subst hl
 refine ⟨A,l,cap,rfl,fun k r hr=>?_,fun p hp=>?_⟩
 ·rw [List.getElem?_map] at hr
  cases hk : l[k]? with
  | none=>rw [hk] at hr;cases hr
  | some p=>rw [hk] at hr;cases hr;exact (hq' k p hk).2
 ·obtain ⟨k,hk,rfl⟩:=List.getElem_of_mem hp
  exact (hq' k _ (List.getElem?_eq_getElem hk)).1
end
end Go.Proofs.Ythfokpchdlcidaa
namespace Go.Proofs.Ythfokpchdlcidaa
open Go Go.RowKit Go.Shelf
theorem Sx.setG {w W : World} {L : List (Nat × Nat × Value)} {g o : Nat} (h : Sx w L W) (hb : w.heap.size ≤ g) (hL : ∀ x ∈ L,x.1 < w.heap.size) (v : Value) : Sx w L (W.setCell ⟨g,o,none⟩ v) :=
 ⟨fun x hx=>(World.cell?_of_block (a:=⟨x.1,x.2.1,none⟩) (Below.heap_setCell W ⟨g,o,none⟩ v x.1 (fun e=>by have h2:=hL x hx;dsimp only at e;omega))).trans (h.cs x hx),h.bel.setCell (p:=⟨g,o,none⟩) hb v⟩
structure HgI (w : World) (N : Nat) (S : Nat → Bool) (W : World) : Prop where
 row : W.rowIs w.heap.size 4 N (fun i=>.bool (S i))
 bel : Below w.heap.size w W
theorem HgI.below {w : World} {N : Nat} {S : Nat → Bool} {W W' : World} (h : HgI w N S W) (hb : Below W.heap.size W W') : HgI w N S W':=⟨h.row.of_block (hb.block _ h.row.lt),below_step h.bel hb⟩
theorem HgI.set {w : World} {N : Nat} {S T : Nat → Bool} {W : World} (h : HgI w N S W) (a : Nat) (hT : ∀ i,T i = if i = a then true else S i) : HgI w N T (W.setCell ⟨w.heap.size,a,none⟩ (.bool true)) :=
 ⟨(h.row.set a (.bool true)).congr (fun i _=>by rw [hT i];split <;> rfl),h.bel.setCell (p:=⟨w.heap.size,a,none⟩) (Nat.le_refl _) _⟩
theorem mk_bools (W : World) (n : Nat) (hn : n ≤ 1000000) : (Instr.makeSlice 109 (.int .i64 (n : Int)) (.int .i64 (n : Int))).run Try.prog W = .ok (.slice (some ⟨W.heap.size,0,none⟩) n n) (W.alloc (.cells (madeCells #[.bool false] n) 4)) :=
 run_make_row' _ _ _ 1 Try.underlying109 (by kernel_rfl) rfl .i64 .i64 n (by omega) (by omega) W
theorem hg_start (w : World) (N : Nat) : HgI w N Cal.only0 (w.alloc (.cells ((madeCells #[.bool false] N).setIfInBounds 0 (.bool true)) 4)) :=
 ⟨by
  have h1 : ((madeCells #[Value.bool false] N).setIfInBounds 0 (.bool true)).size = N:=by simp [size_madeCells]
  have:=World.rowIs_alloc w ((madeCells #[Value.bool false] N).setIfInBounds 0 (.bool true)) 4 (fun i=>.bool (Cal.only0 i)) (fun i hi=>by
   rw [Array.getElem?_setIfInBounds]
   rw [h1] at hi
   have h2 : (madeCells #[Value.bool false] N).size = N:=by simp [size_madeCells]
   unfold Cal.only0
   by_cases h : i = 0
   ·subst h;simp [h2,hi]
   ·rw [if_neg (fun e=>h e.symm)];simp [madeCells,hi,Nat.mod_one,h])
  rw [h1] at this
  exact this,below_alloc _ _⟩
theorem hangsR_any (N : Nat) (A : Option Addr) (c : Nat) (l : List Lev) (w : World) (hN1 : 1 ≤ N) (hN6 : N ≤ 6) (hL : Levs w A l) (hv : ∀ x ∈ l,(0 ≤ x.f ∧ x.f < N) ∧ (0 ≤ x.t ∧ x.t < N) ∧ x.f ≠ x.t) :
  Calls Try.prog 31 #[.int .i64 (N : Int),.slice A l.length c] w fun e w'=>e = .returned (.bool ((List.range N).all (Cal.swept N l))) ∧ Below w.heap.size w w':=by
 obtain ⟨R,hR⟩ : ∃ R,(List.range N).all (Cal.swept N l) = R:=⟨_,rfl⟩
 rw [hR]
 replace hR:=Lib.hid hR
 have hsz:=hL.size
 have hmk:=fun W=>mk_bools W N (by omega)
 have hr0:=World.rowIs_made w (.bool false) N 4
 have hH0:=Lib.hid (hg_start w N)
 have c0:=hr0.cell (i:=0) (by omega)
 have f0:=hr0.frozen 0
 have hN0 : 0 < N:=by omega
 have hN0i : (0 : Int) < (N : Int):=by omega
 replace hL:=Lib.hid hL
 replace hv:=Lib.hid hv
 clear hr0
 go_enter Try.func31,Try.ntmps31
 go_wp2_with fail
 generalize (w.alloc (.cells ((madeCells #[.bool false] N).setIfInBounds 0 (.bool true)) 4)) = W1 at *
 clear c0 f0 hmk hN0 hN0i
 go_loopw [6,7] (fun r _ wr=>∃ k : Nat,k ≤ N ∧ r = .int .i64 k ∧ Hid (HgI w N (Cal.sweeps (l.map Cal.edge) k Cal.only0) wr)) (fun r _ _=>N - (intOf r).toNat)
 case atStart=>exact ⟨0,Nat.zero_le _,rfl,hH0⟩
 case round =>
  clear hH0
  obtain ⟨r,hr,rfl,hH⟩:=hrel
  by_cases hrl : r < N
  ·have hd0 : Hid (HgI w N (Cal.sweep1 ((l.map Cal.edge).take 0) (Cal.sweeps (l.map Cal.edge) r Cal.only0)) wr):=hH.out
   clear hH
   go_wp2_with fail
   go_loopw [7] (fun i wr=>∃ k : Nat,k ≤ l.length ∧ i = .int .i64 k ∧ Hid (HgI w N (Cal.sweep1 ((l.map Cal.edge).take k) (Cal.sweeps (l.map Cal.edge) r Cal.only0)) wr)) (fun i _=>l.length - (intOf i).toNat)
   case atStart=>exact ⟨0,Nat.zero_le _,rfl,hd0⟩
   case round =>
    clear hd0
    obtain ⟨k,hk,rfl,hH⟩:=hrel
    by_cases hlt : k < l.length
    ·have hk' : l[k]? = some l[k]:=List.getElem?_eq_getElem hlt
     have hv1:=hv.out _ (List.getElem_mem hlt)
     have hst:=Cal.sweep1_take (l:=l.map Cal.edge) (k:=k) (by simpa using hlt) (Cal.sweeps (l.map Cal.edge) r Cal.only0)
     rw [List.getElem_map] at hst
     obtain ⟨S,hS⟩ : ∃ S,Cal.sweep1 ((l.map Cal.edge).take k) (Cal.sweeps (l.map Cal.edge) r Cal.only0) = S:=⟨_,rfl⟩
     obtain ⟨T,hT⟩ : ∃ T,Cal.sweep1 ((l.map Cal.edge).take (k + 1)) (Cal.sweeps (l.map Cal.edge) r Cal.only0) = T:=⟨_,rfl⟩
     rw [hS] at hst hH
     rw [hT] at hst
     have hT:=Lib.hid hT
     generalize l[k] = x at *
     obtain ⟨b,o,rfl,hbl,c0,c1,c2,c3⟩:=lev_at (hL.out.below hH.out.bel).rows hk'
     obtain ⟨b',o',hA,hbw,_⟩:=lev_at hL.out.rows hk'
     cases hA
     obtain ⟨xf,xt,xd,xw⟩:=x
     dsimp only at *
     obtain ⟨⟨f0,f1⟩,⟨t0,t1⟩,hft⟩:=hv1
     obtain ⟨f,rfl⟩ : ∃ f : Nat,xf = (f : Int):=⟨xf.toNat,by omega⟩
     obtain ⟨t,rfl⟩ : ∃ t : Nat,xt = (t : Int):=⟨xt.toNat,by omega⟩
     have hfN : f < N:=by omega
     have htN : t < N:=by omega
     have g0:=hH.out.row.cell hfN
     have g1:=hH.out.row.cell htN
     have hki : (k : Int) < (l.length : Int):=by omega
     have hstay : Hid ((S f || S t) = false → HgI w N T wr):=fun h=>by
      have e : T = S:=by rw [hst];unfold Cal.stepE;exact if_neg (by show ¬ (S f || S t) = true;rw [h];decide)
      rw [e];exact hH.out
     have hgo : Hid ((S f || S t) = true → ∀ W,HgI w N S W → HgI w N T ((W.setCell ⟨w.heap.size,f,none⟩ (.bool true)).setCell ⟨w.heap.size,t,none⟩ (.bool true))):=fun h W hW=>by
      have e : T = fun p=>decide (p = f) || decide (p = t) || S p:=by rw [hst];unfold Cal.stepE;exact if_pos h
      refine (hW.set (T:=fun i=>if i = f then true else S i) f (fun i=>rfl)).set t (fun i=>?_)
      rw [e]
      by_cases h1 : i = f <;> by_cases h2 : i = t <;> simp [h1,h2]
     clear hst hk' hS hft f0 t0
     by_cases hany : (S f || S t) = true
     ·have hgo:=Lib.hid (hgo.out hany)
      clear hstay
      have hcase : S f = true ∨ (S f = false ∧ S t = true):=by
       cases h : S f
       ·right;rw [h,Bool.false_or] at hany;exact ⟨rfl,hany⟩
       ·left;rfl
      clear hany
      have hbb : Hid (∀ x ∈ [(b,o + k * 4,Value.int .i64 (f : Int)),(b,o + k * 4 + 1,Value.int .i64 (t : Int))],x.1 < w.heap.size):=fun x hx=>by
       simp only [List.mem_cons,List.not_mem_nil,or_false] at hx
       rcases hx with rfl | rfl <;> exact hbw
      rcases hcase with h | ⟨h,h'⟩
      ·rw [h] at g0
       clear h hbw
       go_wp2_with fail
       refine wp_region_held_drew (S:=Sx w [(b,o + k * 4,.int .i64 (f : Int)),(b,o + k * 4 + 1,.int .i64 (t : Int))]) (by kernel_rfl) (Sx.mk (by simp only [cs_iff_cons];exact ⟨c0,c1,cs_nil _⟩) hH.out.bel).drew (fun hHeld=>?_)
       replace hH : Hid (HgI w N S wr.drew):=hH.out.below ((Below.refl _ _).drew)
       clear c0 c1 c2 c3 g0 g1
       generalize wr.drew = Y at *
       refine tkHx 0 42 ?_
       refine tkHx 1 43 ?_
       refine tkHx 2 44 ?_
       refine tkHx 3 45 ?_
       refine tkHx 4 46 ?_
       refine tkHx 5 47 ?_
       refine tkHx 6 48 ?_
       refine tkHx 7 49 ?_
       refine tkHx 8 50 ?_
       refine tkHx 9 51 ?_
       refine tkHx 10 52 ?_
       refine tkHx 11 53 ?_
       refine tkHx 12 54 ?_
       have s0:=hH.out.row.cell hfN
       have s1:=hH.out.row.frozen f
       (refine ratHx 13 (fun K hK=>?_);go_simp)
       refine hK.out _ _ (hHeld.setG (g:=w.heap.size) (o:=f) (Nat.le_refl _) hbb.out (.bool true)) (fun hHeld=>?_)
       clear hK K s0 s1
       have hH2:=Lib.hid (hgo.out Y hH.out)
       have r1:=(hH.out.row.set f (.bool true)).cell htN
       have r2:=(hH.out.row.set f (.bool true)).frozen t
       clear hH
       generalize Y.setCell ⟨w.heap.size,f,none⟩ (.bool true) = Z at *
       refine tkHx 14 55 ?_
       (refine ratHx 15 (fun K hK=>?_);go_simp)
       refine hK.out _ _ (hHeld.setG (g:=w.heap.size) (o:=t) (Nat.le_refl _) hbb.out (.bool true)) (fun hHeld=>?_)
       clear hK K r1 r2
       (try simp only [apS,apN,siA,scZ,scS])
       refine wpAnyH_done (by kernel_rfl) ?_ _
       generalize Z.setCell ⟨w.heap.size,t,none⟩ (.bool true) = Z2 at *
       clear hHeld
       go_wp2_with fail
       go_roundw
       case rel=>exact ⟨k + 1,by omega,by go_num,by rw [hT.out];exact hH2⟩
       case measure=>simp [intOf];omega
      ·rw [h] at g0
       rw [h'] at g1
       clear h h' hbw
       go_wp2_with fail
       refine wp_region_held_drew (S:=Sx w [(b,o + k * 4,.int .i64 (f : Int)),(b,o + k * 4 + 1,.int .i64 (t : Int))]) (by kernel_rfl) (Sx.mk (by simp only [cs_iff_cons];exact ⟨c0,c1,cs_nil _⟩) hH.out.bel).drew (fun hHeld=>?_)
       replace hH : Hid (HgI w N S wr.drew):=hH.out.below ((Below.refl _ _).drew)
       clear c0 c1 c2 c3 g0 g1
       generalize wr.drew = Y at *
       refine tkHx 0 42 ?_
       refine tkHx 1 43 ?_
       refine tkHx 2 44 ?_
       refine tkHx 3 45 ?_
       refine tkHx 4 46 ?_
       refine tkHx 5 47 ?_
       refine tkHx 6 48 ?_
       refine tkHx 7 49 ?_
       refine tkHx 8 50 ?_
       refine tkHx 9 51 ?_
       refine tkHx 10 52 ?_
       refine tkHx 11 53 ?_
       refine tkHx 12 54 ?_
       have s0:=hH.out.row.cell hfN
       have s1:=hH.out.row.frozen f
       (refine ratHx 13 (fun K hK=>?_);go_simp)
       refine hK.out _ _ (hHeld.setG (g:=w.heap.size) (o:=f) (Nat.le_refl _) hbb.out (.bool true)) (fun hHeld=>?_)
       clear hK K s0 s1
       have hH2:=Lib.hid (hgo.out Y hH.out)
       have r1:=(hH.out.row.set f (.bool true)).cell htN
       have r2:=(hH.out.row.set f (.bool true)).frozen t
       clear hH
       generalize Y.setCell ⟨w.heap.size,f,none⟩ (.bool true) = Z at *
       refine tkHx 14 55 ?_
       (refine ratHx 15 (fun K hK=>?_);go_simp)
       refine hK.out _ _ (hHeld.setG (g:=w.heap.size) (o:=t) (Nat.le_refl _) hbb.out (.bool true)) (fun hHeld=>?_)
       clear hK K r1 r2
       (try simp only [apS,apN,siA,scZ,scS])
       refine wpAnyH_done (by kernel_rfl) ?_ _
       generalize Z.setCell ⟨w.heap.size,t,none⟩ (.bool true) = Z2 at *
       clear hHeld
       go_wp2_with fail
       go_roundw
       case rel=>exact ⟨k + 1,by omega,by go_num,by rw [hT.out];exact hH2⟩
       case measure=>simp [intOf];omega
     ·have hany : (S f || S t) = false:=by simpa using hany
      have hH:=Lib.hid (hstay.out hany)
      obtain ⟨h1,h2⟩ : S f = false ∧ S t = false:=by simpa using hany
      rw [h1] at g0
      rw [h2] at g1
      clear hstay hgo hany h1 h2
      go_wp2_with fail
      go_roundw
      case rel=>exact ⟨k + 1,by omega,by go_num,by rw [hT.out];exact hH⟩
      case measure=>simp [intOf];omega
    ·obtain rfl : k = l.length:=by omega
     have hc2 : Hid (HgI w N (Cal.sweeps (l.map Cal.edge) (r + 1) Cal.only0) wr):=by
      show HgI _ _ _ _
      rw [Cal.sweeps_succ]
      have:=hH.out
      rw [List.take_of_length_le (by simp)] at this
      exact this
     clear hH
     go_wp2_with fail
     go_roundw
     case rel=>exact ⟨r + 1,by omega,by go_num,hc2⟩
     case measure=>simp [intOf];omega
  ·obtain rfl : r = N:=by omega
   have hSw : Hid (∀ p,Cal.swept r l p = Cal.sweeps (l.map Cal.edge) r Cal.only0 p):=fun p=>rfl
   generalize Cal.sweeps (l.map Cal.edge) r Cal.only0 = S at *
   go_wp2_with fail
   go_loopw [8] (fun i wr=>∃ k : Nat,k ≤ r ∧ i = .int .i64 k ∧ Hid (∀ p,p < k → S p = true) ∧ Hid (HgI w r S wr)) (fun i _=>r - (intOf i).toNat)
   case atStart=>exact ⟨0,Nat.zero_le _,rfl,fun p hp=>by omega,hH⟩
   case round =>
    clear hH
    obtain ⟨k,hk,rfl,hall,hH⟩:=hrel
    by_cases hlt : k < r
    ·have g0:=hH.out.row.cell hlt
     have hki : (k : Int) < (r : Int):=by omega
     cases hb : S k
     ·have hf : Hid (R = false):=by
       show _ = _
       rw [← hR.out,List.all_eq_false]
       exact ⟨k,List.mem_range.2 hlt,by rw [hSw.out,hb];decide⟩
      rw [hb] at g0
      clear hb hall
      go_wp2_with fail
      go_ret
      exact ⟨by rw [hf.out];rfl,hH.out.bel⟩
     ·have hall2 : Hid (∀ p,p < k + 1 → S p = true):=fun p hp=>by
       rcases Nat.lt_succ_iff_lt_or_eq.1 hp with h | h
       ·exact hall.out p h
       ·rw [h];exact hb
      rw [hb] at g0
      clear hb hall
      go_wp2_with fail
      go_roundw
      case rel=>exact ⟨k + 1,by omega,by go_num,hall2,hH⟩
      case measure=>simp [intOf];omega
    ·obtain rfl : k = r:=by omega
     have hf : Hid (R = true):=by
      show _ = _
      rw [← hR.out,List.all_eq_true]
      exact fun p hp=>by rw [hSw.out];exact hall.out p (List.mem_range.1 hp)
     go_wp2_with fail
     go_ret
     exact ⟨by rw [hf.out];rfl,hH.out.bel⟩
theorem inN_w (p n : Int) : (decide ((0 : Int) ≤ p) && decide (p ≤ n - 1)) = inN p n:=by
 unfold inN
 by_cases h1 : 0 ≤ p <;> by_cases h2 : p < n <;> simp [h1,h2] <;> omega
theorem CheckNetR_any (n : Int) (A : Option Addr) (c : Nat) (l : List Lev) (w : World) (hL : Levs w A l) :
  Calls Try.prog 7 #[.int .i64 n,.slice A l.length c] w fun e w'=>e = .returned (.int .i64 (Cal.netE n l)) ∧ Below w.heap.size w w':=by
 have hsz:=hL.size
 obtain ⟨R,hRR⟩ : ∃ R,Cal.netE n l = R:=⟨_,rfl⟩
 rw [hRR]
 have hb0 : Hid (Below w.heap.size w w):=Below.refl _ _
 by_cases hn : n < 1 ∨ 6 < n
 ·have hR : Hid (R = 2):=by show _ = _;rw [← hRR];unfold Cal.netE;rw [if_pos hn]
  clear hRR
  have hw : Hid (∀ W,Calls Try.prog 30 #[.int .i64 n,.int .i64 1,.int .i64 6] W fun e w'=>e = .returned (.bool false) ∧ W = w'):=fun W=>by
   refine (Within_any n 1 6 W).mono ?_
   rintro e w' ⟨rfl,rfl⟩
   refine ⟨?_,rfl⟩
   rcases hn with h | h
   ·rw [show decide ((1 : Int) ≤ n) = false from by simp;omega,Bool.false_and]
   ·rw [show decide (n ≤ 6) = false from by simp;omega,Bool.and_false]
  go_enter Try.func7,Try.ntmps7
  go_wp2_with (go_at_call 30;refine (hw.out _).mono ?_;rintro e0 wn ⟨rfl,rfl⟩)
  go_ret
  exact ⟨ret_int hR.out.symm,hb0.out⟩
 ·have hw : Hid (∀ W,Calls Try.prog 30 #[.int .i64 n,.int .i64 1,.int .i64 6] W fun e w'=>e = .returned (.bool true) ∧ W = w'):=fun W=>by
   refine (Within_any n 1 6 W).mono ?_
   rintro e w' ⟨rfl,rfl⟩
   refine ⟨?_,rfl⟩
   rw [show decide ((1 : Int) ≤ n) = true from by simp;omega,show decide (n ≤ 6) = true from by simp;omega];rfl
  by_cases hl : 20 < l.length
  ·have hR : Hid (R = 8):=by show _ = _;rw [← hRR];unfold Cal.netE;rw [if_neg hn,if_pos hl]
   have hl1 : 20 < (l.length : Int):=by omega
   clear hRR hn
   go_enter Try.func7,Try.ntmps7
   go_wp2_with (go_at_call 30;refine (hw.out _).mono ?_;rintro e0 wn ⟨rfl,rfl⟩)
   go_ret
   exact ⟨ret_int hR.out.symm,hb0.out⟩
  ·have hR : Hid (R = if Cal.levsE n (l.drop 0) = 0 then (if (List.range n.toNat).all (Cal.swept n.toNat l) = true then 0 else 29) else Cal.levsE n (l.drop 0)):=by show _ = _;rw [← hRR];unfold Cal.netE;rw [if_neg hn,if_neg hl];rfl
   have hE0 : Hid (Cal.levsE n l = Cal.levsE n (l.drop 0)):=rfl
   have hl1 : ¬ 20 < (l.length : Int):=by omega
   replace hL:=Lib.hid hL
   have hn1 : IntKind.i64.wrap (n - 1) = n - 1:=wrap_small (by omega) (by omega)
   have hin : Hid (∀ p W,Calls Try.prog 30 #[.int .i64 p,.int .i64 0,.int .i64 (n - 1)] W fun e w'=>e = .returned (.bool (inN p n)) ∧ W = w'):=fun p W=>by
    have:=Within_any p 0 (n - 1) W
    rw [inN_w p n] at this
    exact this
   have hd : Hid (∀ d W,Calls Try.prog 30 #[.int .i64 d,.int .i64 (-100000),.int .i64 100000] W fun e w'=>e = .returned (.bool (decide (-100000 ≤ d) && decide (d ≤ 100000))) ∧ W = w'):=fun d W=>Within_any d _ _ W
   have hwt : Hid (∀ d W,Calls Try.prog 30 #[.int .i64 d,.int .i64 1,.int .i64 10] W fun e w'=>e = .returned (.bool (decide ((1 : Int) ≤ d) && decide (d ≤ 10))) ∧ W = w'):=fun d W=>Within_any d _ _ W
   have hn12:=Lib.hid hn
   clear hRR hn
   go_enter Try.func7,Try.ntmps7
   go_wp2_with (go_at_call 30;refine (hw.out _).mono ?_;rintro e0 wn ⟨rfl,rfl⟩;clear hw)
   go_loopw [5] (fun i wr=>∃ k : Nat,k ≤ l.length ∧ i = .int .i64 k ∧ Hid (Cal.levsE n l = Cal.levsE n (l.drop k)) ∧ Hid (Below w.heap.size w wr)) (fun i _=>l.length - (intOf i).toNat)
   case atStart=>exact ⟨0,Nat.zero_le _,rfl,hE0,hb0⟩
   case round =>
    clear hE0 hb0
    obtain ⟨k,hk,rfl,hE,hb⟩:=hrel
    by_cases hlt : k < l.length
    ·have hk' : l[k]? = some l[k]:=List.getElem?_eq_getElem hlt
     have hd0:=Cal.levsE_drop (n:=n) hlt
     have hcs:=levE_cases n l[k]
     generalize l[k] = x at *
     obtain ⟨b,o,rfl,hbl,c0,c1,c2,c3⟩:=lev_at (hL.out.below hb.out).rows hk'
     have hki : (k : Int) < (l.length : Int):=by omega
     clear hk'
     obtain ⟨f,t,d,wt⟩:=x
     dsimp only at *
     have hRk : Hid (∀ v,v ≠ 0 → Cal.levE n ⟨f,t,d,wt⟩ = v → R = v):=fun v hv hz=>by
      rw [hz,if_neg hv] at hd0
      rw [hR.out,show Cal.levsE n (l.drop 0) = v from hE.out.trans hd0,if_neg hv]
     have hE2 : Hid (Cal.levE n ⟨f,t,d,wt⟩ = 0 → Cal.levsE n l = Cal.levsE n (l.drop (k + 1))):=fun hz=>by
      rw [hz,if_pos rfl] at hd0
      exact hE.out.trans hd0
     clear hd0 hE hR
     rcases hcs with ⟨h1,hz⟩ | ⟨h1,h2,hz⟩ | ⟨h1,h2,h3,hz⟩ | ⟨h1,h2,h3,hz,h4⟩ | ⟨h1,h2,h3,hz,h4,h5,h6,h7⟩
     ·have hR:=Lib.hid (hRk.out _ (by decide) hz)
      replace h1:=Lib.hid h1
      have h2:=h1
      have hdv:=h1
      clear hz hE2 hRk
      go_wp2_with (go_at_call 30;refine (hin.out _ _).mono ?_;rintro e0 wn ⟨rfl,rfl⟩;first | rw [h1.out] | rw [h2.out])
      go_ret
      exact ⟨ret_int hR.out.symm,hb.out⟩
     ·have hR:=Lib.hid (hRk.out _ (by decide) hz)
      replace h1:=Lib.hid h1
      replace h2:=Lib.hid h2
      clear hz hE2 hRk
      go_wp2_with (go_at_call 30;refine (hin.out _ _).mono ?_;rintro e0 wn ⟨rfl,rfl⟩;first | rw [h1.out] | rw [h2.out])
      go_ret
      exact ⟨ret_int hR.out.symm,hb.out⟩
     ·have hR:=Lib.hid (hRk.out _ (by decide) hz)
      replace h1:=Lib.hid h1
      replace h2:=Lib.hid h2
      clear hz hE2 hRk
      subst h3
      go_wp2_with (go_at_call 30;refine (hin.out _ _).mono ?_;rintro e0 wn ⟨rfl,rfl⟩;first | rw [h1.out] | rw [h2.out])
      refine wp_region_held_drew (S:=Sx wr [(b,o + k * 4,.int .i64 f),(b,o + k * 4 + 1,.int .i64 f)]) (by kernel_rfl) (Sx.mk (by simp only [cs_iff_cons];exact ⟨c0,c1,cs_nil _⟩) (Below.refl _ _)).drew (fun hHeld=>?_)
      refine tkHx 0 38 ?_
      refine tkHx 1 39 ?_
      refine tkHx 2 40 ?_
      refine tkHx 3 41 ?_
      refine tkHx 4 42 ?_
      refine tkHx 5 43 ?_
      refine tkHx 6 44 ?_
      refine tkHx 7 45 ?_
      refine tkHx 8 46 ?_
      refine tkHx 9 47 ?_
      refine tkHx 10 48 ?_
      refine wpAnyH_done (by kernel_rfl) ?_ _
      (try simp only [apS,apN,siA,scZ,scS])
      have hb9:=Lib.hid (below_step hb.out hHeld.bel)
      have c2':=(Below.cell (p:=⟨b,o + k * 4 + 2,none⟩) hHeld.bel hbl).trans c2
      have c3':=(Below.cell (p:=⟨b,o + k * 4 + 3,none⟩) hHeld.bel hbl).trans c3
      clear hHeld c0 c1 c2 c3
      go_wp2_with fail
      go_ret
      exact ⟨ret_int hR.out.symm,hb9.out⟩
     ·have hR:=Lib.hid (hRk.out _ (by decide) hz)
      replace h1:=Lib.hid h1
      replace h2:=Lib.hid h2
      have h3b : (f == t) = false:=by simpa using h3
      clear hz hE2 hRk
      by_cases hdd : (decide (-100000 ≤ d) && decide (d ≤ 100000)) = true
      ·have hww : Hid ((decide ((1 : Int) ≤ wt) && decide (wt ≤ 10)) = false):=by
        show _ = _
        rw [Bool.and_eq_true,decide_eq_true_eq,decide_eq_true_eq] at hdd
        by_cases q1 : (1 : Int) ≤ wt <;> by_cases q2 : wt ≤ 10 <;> simp [q1,q2] <;> omega
       replace hdd:=Lib.hid hdd
       clear h4
       go_wp2_with (go_at_call 30;refine (hin.out _ _).mono ?_;rintro e0 wn ⟨rfl,rfl⟩;first | rw [h1.out] | rw [h2.out])
       refine wp_region_held_drew (S:=Sx wr [(b,o + k * 4,.int .i64 f),(b,o + k * 4 + 1,.int .i64 t)]) (by kernel_rfl) (Sx.mk (by simp only [cs_iff_cons];exact ⟨c0,c1,cs_nil _⟩) (Below.refl _ _)).drew (fun hHeld=>?_)
       refine tkHx 0 38 ?_
       refine tkHx 1 39 ?_
       refine tkHx 2 40 ?_
       refine tkHx 3 41 ?_
       refine tkHx 4 42 ?_
       refine tkHx 5 43 ?_
       refine tkHx 6 44 ?_
       refine tkHx 7 45 ?_
       refine tkHx 8 46 ?_
       refine tkHx 9 47 ?_
       refine tkHx 10 48 ?_
       refine wpAnyH_done (by kernel_rfl) ?_ _
       (try simp only [apS,apN,siA,scZ,scS])
       have hb9:=Lib.hid (below_step hb.out hHeld.bel)
       have c2':=(Below.cell (p:=⟨b,o + k * 4 + 2,none⟩) hHeld.bel hbl).trans c2
       have c3':=(Below.cell (p:=⟨b,o + k * 4 + 3,none⟩) hHeld.bel hbl).trans c3
       clear hHeld c0 c1 c2 c3
       go_wp2_with (go_at_call 30;refine (Within_any _ _ _ _).mono ?_;rintro e0 wn ⟨rfl,rfl⟩;first | rw [hdd.out] | rw [hww.out])
       go_ret
       exact ⟨ret_int hR.out.symm,hb9.out⟩
      ·replace hdd : Hid ((decide (-100000 ≤ d) && decide (d ≤ 100000)) = false):=by show _ = _;simpa using hdd
       have hww:=hdd
       clear h4
       go_wp2_with (go_at_call 30;refine (hin.out _ _).mono ?_;rintro e0 wn ⟨rfl,rfl⟩;first | rw [h1.out] | rw [h2.out])
       refine wp_region_held_drew (S:=Sx wr [(b,o + k * 4,.int .i64 f),(b,o + k * 4 + 1,.int .i64 t)]) (by kernel_rfl) (Sx.mk (by simp only [cs_iff_cons];exact ⟨c0,c1,cs_nil _⟩) (Below.refl _ _)).drew (fun hHeld=>?_)
       refine tkHx 0 38 ?_
       refine tkHx 1 39 ?_
       refine tkHx 2 40 ?_
       refine tkHx 3 41 ?_
       refine tkHx 4 42 ?_
       refine tkHx 5 43 ?_
       refine tkHx 6 44 ?_
       refine tkHx 7 45 ?_
       refine tkHx 8 46 ?_
       refine tkHx 9 47 ?_
       refine tkHx 10 48 ?_
       refine wpAnyH_done (by kernel_rfl) ?_ _
       (try simp only [apS,apN,siA,scZ,scS])
       have hb9:=Lib.hid (below_step hb.out hHeld.bel)
       have c2':=(Below.cell (p:=⟨b,o + k * 4 + 2,none⟩) hHeld.bel hbl).trans c2
       have c3':=(Below.cell (p:=⟨b,o + k * 4 + 3,none⟩) hHeld.bel hbl).trans c3
       clear hHeld c0 c1 c2 c3
       go_wp2_with (go_at_call 30;refine (Within_any _ _ _ _).mono ?_;rintro e0 wn ⟨rfl,rfl⟩;first | rw [hdd.out] | rw [hww.out])
       go_ret
       exact ⟨ret_int hR.out.symm,hb9.out⟩
     ·replace hE2:=Lib.hid (hE2.out hz)
      replace h1:=Lib.hid h1
      replace h2:=Lib.hid h2
      have h3b : (f == t) = false:=by simpa using h3
      have hdd : Hid ((decide (-100000 ≤ d) && decide (d ≤ 100000)) = true):=by show _ = _;simp;omega
      have hww : Hid ((decide ((1 : Int) ≤ wt) && decide (wt ≤ 10)) = true):=by show _ = _;simp;omega
      clear hz hRk h4 h5 h6 h7
      go_wp2_with (go_at_call 30;refine (hin.out _ _).mono ?_;rintro e0 wn ⟨rfl,rfl⟩;first | rw [h1.out] | rw [h2.out])
      refine wp_region_held_drew (S:=Sx wr [(b,o + k * 4,.int .i64 f),(b,o + k * 4 + 1,.int .i64 t)]) (by kernel_rfl) (Sx.mk (by simp only [cs_iff_cons];exact ⟨c0,c1,cs_nil _⟩) (Below.refl _ _)).drew (fun hHeld=>?_)
      refine tkHx 0 38 ?_
      refine tkHx 1 39 ?_
      refine tkHx 2 40 ?_
      refine tkHx 3 41 ?_
      refine tkHx 4 42 ?_
      refine tkHx 5 43 ?_
      refine tkHx 6 44 ?_
      refine tkHx 7 45 ?_
      refine tkHx 8 46 ?_
      refine tkHx 9 47 ?_
      refine tkHx 10 48 ?_
      refine wpAnyH_done (by kernel_rfl) ?_ _
      (try simp only [apS,apN,siA,scZ,scS])
      have hb9:=Lib.hid (below_step hb.out hHeld.bel)
      have c2':=(Below.cell (p:=⟨b,o + k * 4 + 2,none⟩) hHeld.bel hbl).trans c2
      have c3':=(Below.cell (p:=⟨b,o + k * 4 + 3,none⟩) hHeld.bel hbl).trans c3
      clear hHeld c0 c1 c2 c3
      go_wp2_with (go_at_call 30;refine (Within_any _ _ _ _).mono ?_;rintro e0 wn ⟨rfl,rfl⟩;first | rw [hdd.out] | rw [hww.out])
      go_roundw
      case rel=>exact ⟨k + 1,by omega,by go_num,hE2,hb9⟩
      case measure=>simp [intOf];omega
    ·obtain rfl : k = l.length:=by omega
     have hz : Cal.levsE n l = 0:=by rw [hE.out,List.drop_length];rfl
     have hval:=Cal.levsE_zero hz
     replace hR : Hid (R = if (List.range n.toNat).all (Cal.swept n.toNat l) = true then 0 else 29):=by show _ = _;rw [hR.out];exact if_pos hz
     obtain ⟨N,rfl⟩ : ∃ N : Nat,n = (N : Int):=⟨n.toNat,by have:=hn12.out;omega⟩
     rw [Int.toNat_natCast] at hR
     have hhg:=Lib.hid (fun W hb=>hangsR_any N A c l W (by have:=hn12.out;omega) (by have:=hn12.out;omega) (hL.out.below hb) (fun x hx=>by have:=Cal.levE_zero (hval x hx);exact ⟨this.1,this.2.1,this.2.2.1⟩))
     clear hz hE hval hin hd hwt hn1
     cases hq : (List.range N).all (Cal.swept N l)
     ·have hR2 : Hid (R = 29):=by show _ = _;rw [hR.out,hq,if_neg (by decide)]
      rw [hq] at hhg
      clear hR hq
      go_wp2_with (go_at_call 31;refine (hhg.out _ hb.out).mono ?_;rintro e0 w3 ⟨rfl,hb3⟩;have hb4:=Lib.hid (below_step hb.out hb3);clear hb3)
      go_ret
      exact ⟨ret_int hR2.out.symm,hb4.out⟩
     ·have hR2 : Hid (R = 0):=by show _ = _;rw [hR.out,hq,if_pos rfl]
      rw [hq] at hhg
      clear hR hq
      go_wp2_with (go_at_call 31;refine (hhg.out _ hb.out).mono ?_;rintro e0 w3 ⟨rfl,hb3⟩;have hb4:=Lib.hid (below_step hb.out hb3);clear hb3)
      go_ret
      exact ⟨ret_int hR2.out.symm,hb4.out⟩
end Go.Proofs.Ythfokpchdlcidaa
namespace Go.Proofs.Ythfokpchdlcidaa
open Go Go.RowKit Go.Shelf
theorem absG_any (n : Int) (h1 : -9223372036854775807 ≤ n) (h2 : n ≤ 9223372036854775807) (w : World) : Calls Try.prog 90 #[.int .i64 n] w fun e w'=>e = .returned (.int .i64 (n.natAbs : Int)) ∧ w = w':=by
 have hng : IntKind.i64.wrap (-n) = -n:=wrap_small (by omega) (by omega)
 have hf : Hid ((n.natAbs : Int) = max n (-n)):=by show _ = _;omega
 go_enter Try.func90,Try.ntmps90
 go_wp2
 go_ret
 exact ⟨ret_int hf.out.symm,rfl⟩
end Go.Proofs.Ythfokpchdlcidaa
namespace Go.Proofs.Ythfokpchdlcidaa.Cal
theorem scl_drop {p : Int} {l : List (Int × Int)} {k : Nat} (h : k < l.length) : scl p (l.drop k) = if hErr p l[k] = 0 then scl (p * more p l[k].2) (l.drop (k + 1)) else (hErr p l[k],0):=by
 rw [List.drop_eq_getElem_cons h];rfl
theorem scl_ok {all : Int} (ha : 1 ≤ all) (hb : all ≤ 4000000000) : ∀ (l : List (Int × Int)) (p : Int),1 ≤ p → p ∣ all → (∀ h ∈ l,1 ≤ h.2 ∧ Int.gcd h.1 h.2 = 1 ∧ bigH h = false ∧ h.2 ∣ all) → (scl p l).1 = 0
 | [],_,_,_,_=>rfl
 | h :: r,p,h1,h2,hl=>by
  obtain ⟨a,b,c,d⟩:=hl h (List.mem_cons_self ..)
  have hm:=parts_more_dvd (parts:=p) (den:=h.2) (by omega) (by omega) h2 d
  have hm1:=more_pos (parts:=p) (den:=h.2) (by omega)
  have hpm:=Int.mul_pos (by omega : 0 < p) hm1
  have hle:=Int.le_of_dvd (by omega) hm
  have hq : more p h.2 ≤ (4000000000 : Int).tdiv p:=by
   rw [Int.tdiv_eq_ediv_of_nonneg (by omega)]
   rw [Int.le_ediv_iff_mul_le (by omega),Int.mul_comm]
   omega
  have hz : hErr p h = 0:=by
   unfold hErr
   rw [if_neg (by omega),if_neg (by simpa using b),if_neg (by rw [c];decide),if_neg (by omega)]
  have e' : scl p (h :: r) = scl (p * more p h.2) r:=if_pos hz
  rw [e']
  exact scl_ok ha hb r _ (by omega) hm (fun x hx=>hl x (List.mem_cons_of_mem _ hx))
def resL (p : Int) (fr : List (Int × Int)) (l : List Lev) : List Int:=l.map (resV p fr)
theorem resV_vOf (p : Int) (fr : List (Int × Int)) (x : Lev) : resV p fr x = vOf p (xs p fr) (edge x):=rfl
def sclL (n : Int) (l : List (Int × Int)) : List Int:=if sclE n l = 0 then l.map (sclH (sclP n l)) else []
def resE (n : Int) (l : List Lev) (fr : List (Int × Int)) : Int:=if netE n l = 0 then sclE n fr else netE n l
def resPN (n : Int) (l : List Lev) (fr : List (Int × Int)) : Int:=if netE n l = 0 then sclP n fr else 0
def resLN (n : Int) (l : List Lev) (fr : List (Int × Int)) : List Int:=if resE n l fr = 0 then resL (sclP n fr) fr l else []
end Go.Proofs.Ythfokpchdlcidaa.Cal
