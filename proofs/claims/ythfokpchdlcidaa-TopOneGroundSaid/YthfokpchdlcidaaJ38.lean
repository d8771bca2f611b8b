/- What the statements rest on: definitions and walks, part 38. -/
import Derived.Test.YthfokpchdlcidaaJ37
import Derived.Test.YthfokpchdlcidaaJ33
set_option maxRecDepth 100000
set_option maxHeartbeats 16000000
set_option linter.unusedSimpArgs false
set_option linter.unusedVariables false
namespace Go.Proofs.Ythfokpchdlcidaa
namespace Cal
open Geo (RP at' Simple Pos In Out Off wind wc EarAt Tri triP Near Dense InT Sided)
def earA (p : List Pt) (i : Nat) : Pt:=p[(i + p.length - 1) % p.length]?.getD pt0
def earB (p : List Pt) (i : Nat) : Pt:=p[i]?.getD pt0
def earC (p : List Pt) (i : Nat) : Pt:=p[(i + 1) % p.length]?.getD pt0
def triAt (p : List Pt) (i : Nat) : List Pt:=[earA p i,earB p i,earC p i]
def inEar (p : List Pt) (i k : Nat) : Bool :=
 !ptB (p[k]?.getD pt0) (earA p i) && (!ptB (p[k]?.getD pt0) (earB p i) && (!ptB (p[k]?.getD pt0) (earC p i) && decide (0 ≤ whereP (triAt p i) (p[k]?.getD pt0))))
theorem ptB_not {p q : Pt} : (!ptB p q) = true ↔ p ≠ q:=by
 rw [Bool.not_eq_true',← Bool.not_eq_true,ptB_iff]
theorem sd_tri (a b c : Pt) : sd [a,b,c] 0 = ⟨a,b⟩ ∧ sd [a,b,c] 1 = ⟨b,c⟩ ∧ sd [a,b,c] 2 = ⟨c,a⟩:=by
 refine ⟨rfl,rfl,?_⟩
 unfold sd
 rw [show (2 + 1) % [a,b,c].length = 0 from by simp]
 rfl
def earR (p : List Pt) (i : Nat) : Int :=
 if crs ⟨earA p i,earB p i⟩ (earC p i) ≤ 0 then (if crs ⟨earA p i,earB p i⟩ (earC p i) = 0 then 0 else -1) else if (List.range p.length).any (inEar p i) = true then -1 else 1
def firstEar (p : List Pt) : Option Nat:=(List.range p.length).find? fun i=>decide (0 ≤ earR p i)
def trisR : Nat → List Pt → List (List Pt)
 | 0,_=>[]
 | f + 1,p=>if p.length ≤ 2 then [] else match firstEar p with
  | none=>[]
  | some i=>(if earR p i = 1 then [triAt p i] else []) ++ trisR f (p.eraseIdx i)
def trisOf (p : List Pt) : List (List Pt):=trisR p.length p
def apartR (s t : List Pt) : Bool:=(List.range 3).any fun i=>decide (crs (sd s i) (t[0]?.getD pt0) ≤ 0) && (decide (crs (sd s i) (t[1]?.getD pt0) ≤ 0) && decide (crs (sd s i) (t[2]?.getD pt0) ≤ 0))
def overR (a b : List Pt) : Bool:=(trisOf a).any fun s=>(trisOf b).any fun t=>!apartR s t && !apartR t s
structure GoodP (p : List Pt) : Prop where
 pos : Pos p.length (ring p)
 nd : p.Nodup
theorem goodP_of {p : List Pt} (h : polyE p = 0) : GoodP p:=⟨(polyE_pos h).1,(polyE_poly h).1.nd⟩
theorem ring_tri (a b c : Pt) : ring [a,b,c] = triP (rp a) (rp b) (rp c):=by
 funext t
 unfold ring cor triP
 have h:=Nat.mod_lt t (show 0 < 3 by decide)
 have : t % 3 = 0 ∨ t % 3 = 1 ∨ t % 3 = 2:=by omega
 rcases this with e | e | e
 ·rw [show t % [a,b,c].length = t % 3 from rfl,e];rfl
 ·rw [show t % [a,b,c].length = t % 3 from rfl,e];rfl
 ·rw [show t % [a,b,c].length = t % 3 from rfl,e];rfl
theorem tri_ne {a b c : Pt} (h : 0 < crs ⟨a,b⟩ c) : a ≠ b ∧ b ≠ c ∧ c ≠ a:=by
 unfold crs at h
 dsimp only at h
 refine ⟨fun e=>?_,fun e=>?_,fun e=>?_⟩
 ·subst e;simp at h
 ·subst e;rw [Int.mul_comm] at h;omega
 ·subst e;simp at h
theorem tri_sides {a b c : Pt} (h : 0 < crs ⟨a,b⟩ c) : ∀ i,i < [a,b,c].length → (sd [a,b,c] i).a ≠ (sd [a,b,c] i).b:=fun i hi=>by
 obtain ⟨h1,h2,h3⟩:=tri_ne h
 have : i = 0 ∨ i = 1 ∨ i = 2:=by simp at hi;omega
 obtain ⟨s0,s1,s2⟩:=sd_tri a b c
 rcases this with e | e | e <;> subst e
 ·rw [s0];exact h1
 ·rw [s1];exact h2
 ·rw [s2];exact h3
theorem tri_where {a b c : Pt} (h : 0 < crs ⟨a,b⟩ c) (q : Pt) : 0 ≤ whereP [a,b,c] q ↔ Tri (rp a) (rp b) (rp c) (rp q):=by
 have hD : 0 < Geo.crs (rp a) (rp b) (rp c):=(crs_pos ⟨a,b⟩ c).2 h
 have hp : Pos [a,b,c].length (ring [a,b,c]):=by rw [ring_tri];exact Geo.tri_pos hD
 obtain ⟨w1,w2,w3⟩:=where_pos hp (tri_sides h) q
 rw [ring_tri] at w1 w2 w3 hp
 have hin:=Geo.tri_in hD (rp q)
 constructor
 ·intro h0
  by_cases ho : Off 3 (triP (rp a) (rp b) (rp c)) (rp q)
  ·rcases hp.two ho with e | e
   ·have:=hin.1 e
    exact ⟨by grind,by grind,by grind⟩
   ·have:=w3.2 e;omega
  ·-- on a side
   refine Classical.byContradiction fun hn=>ho fun i l hi l0 l1 e=>hn ?_
   have p1:=Geo.mul_nn (a:=l) (b:=Geo.crs (rp a) (rp b) (rp c)) l0 (by grind)
   have p2:=Geo.mul_nn (a:=1 - l) (b:=Geo.crs (rp a) (rp b) (rp c)) (by grind) (by grind)
   have h3 : i = 0 ∨ i = 1 ∨ i = 2:=by omega
   rw [e]
   unfold Tri
   rw [Geo.crs_lin,Geo.crs_lin,Geo.crs_lin]
   obtain ⟨c1,c2⟩:=Geo.crs_cyc (rp a) (rp b) (rp c)
   rcases h3 with e | e | e <;> subst e
   ·rw [show triP (rp a) (rp b) (rp c) 0 = rp a from rfl,show triP (rp a) (rp b) (rp c) (0 + 1) = rp b from rfl,Geo.crs_self1,Geo.crs_self2,c1,Geo.crs_self2,c2,Geo.crs_self1]
    refine ⟨by grind,by grind,by grind⟩
   ·rw [show triP (rp a) (rp b) (rp c) 1 = rp b from rfl,show triP (rp a) (rp b) (rp c) (1 + 1) = rp c from rfl,Geo.crs_self2,Geo.crs_self1,Geo.crs_self2,c2,Geo.crs_self1]
    refine ⟨by grind,by grind,by grind⟩
   ·rw [show triP (rp a) (rp b) (rp c) 2 = rp c from rfl,show triP (rp a) (rp b) (rp c) (2 + 1) = rp a from rfl,Geo.crs_self1,Geo.crs_self2,c1,Geo.crs_self2,Geo.crs_self1]
    refine ⟨by grind,by grind,by grind⟩
 ·intro hT
  refine Classical.byContradiction fun hn=>?_
  have hne1 : whereP [a,b,c] q ≠ 1:=by omega
  have hne0 : whereP [a,b,c] q ≠ 0:=by omega
  have hoff : Off 3 (triP (rp a) (rp b) (rp c)) (rp q):=Classical.byContradiction fun ho=>hne0 (w2.2 ho)
  have hnin : ¬ (0 < Geo.crs (rp a) (rp b) (rp q) ∧ 0 < Geo.crs (rp b) (rp c) (rp q) ∧ 0 < Geo.crs (rp c) (rp a) (rp q)):=fun h=>hne1 (w1.2 (hin.2 h))
  obtain ⟨t1,t2,t3⟩:=hT
  obtain ⟨c1,c2⟩:=Geo.crs_cyc (rp a) (rp b) (rp c)
  by_cases e1 : Geo.crs (rp a) (rp b) (rp q) = 0
  ·obtain ⟨l,l0,l1,e⟩:=Geo.on_edge hD e1 t2 t3
   exact hoff 0 l (by decide) l0 l1 e
  ·by_cases e2 : Geo.crs (rp b) (rp c) (rp q) = 0
   ·obtain ⟨l,l0,l1,e⟩:=Geo.on_edge (by rw [c1];exact hD) e2 t3 t1
    exact hoff 1 l (by decide) l0 l1 e
   ·by_cases e3 : Geo.crs (rp c) (rp a) (rp q) = 0
    ·obtain ⟨l,l0,l1,e⟩:=Geo.on_edge (by rw [c2];exact hD) e3 t1 t2
     exact hoff 2 l (by decide) l0 l1 e
    ·exact hnin ⟨by grind,by grind,by grind⟩
section
variable {p : List Pt} {i : Nat}
theorem ear_ring (hi : i < p.length) : ring p (i + p.length - 1) = rp (earA p i) ∧ ring p (i + p.length - 1 + 1) = rp (earB p i) ∧ ring p (i + p.length - 1 + 2) = rp (earC p i):=by
 refine ⟨rfl,?_,?_⟩
 ·rw [show i + p.length - 1 + 1 = i + p.length by omega]
  unfold ring
  rw [cor_per]
  unfold cor earB
  rw [Nat.mod_eq_of_lt hi]
 ·rw [show i + p.length - 1 + 2 = i + 1 + p.length by omega]
  unfold ring
  rw [cor_per]
  rfl
theorem ear_zero (hi : i < p.length) : earR p i = 0 ↔ Geo.crs (ring p (i + p.length - 1)) (ring p (i + p.length - 1 + 1)) (ring p (i + p.length - 1 + 2)) = 0:=by
 obtain ⟨a1,a2,a3⟩:=ear_ring hi
 rw [a1,a2,a3]
 have:=crs0 ⟨earA p i,earB p i⟩ (earC p i)
 rw [this]
 unfold earR
 split
 ·split
  ·rename_i h;exact ⟨fun _=>h,fun _=>rfl⟩
  ·rename_i h;exact ⟨fun e=>by omega,fun e=>absurd e h⟩
 ·split
  ·exact ⟨fun e=>by omega,fun e=>by omega⟩
  ·exact ⟨fun e=>by omega,fun e=>by omega⟩
theorem GoodP.cor_eq (h : GoodP p) {a b : Nat} : cor p a = cor p b ↔ a % p.length = b % p.length:=by
 have h3:=h.pos.sim.three
 constructor
 ·intro e
  refine Classical.byContradiction fun hn=>cor_ne h.nd (by omega) hn e
 ·intro e
  rw [← cor_mod,e,cor_mod]
theorem ear_one (h : GoodP p) (hi : i < p.length) : earR p i = 1 ↔ EarAt p.length (ring p) (i + p.length - 1):=by
 have h3:=h.pos.sim.three
 obtain ⟨a1,a2,a3⟩:=ear_ring hi
 have hpos:=crs_pos ⟨earA p i,earB p i⟩ (earC p i)
 dsimp only at hpos
 have cA : earA p i = cor p (i + p.length - 1):=rfl
 have cB : earB p i = cor p (i + p.length - 1 + 1):=by
  rw [show i + p.length - 1 + 1 = i + p.length by omega,cor_per]
  unfold cor earB
  rw [Nat.mod_eq_of_lt hi]
 have cC : earC p i = cor p (i + p.length - 1 + 2):=by
  rw [show i + p.length - 1 + 2 = i + 1 + p.length by omega,cor_per]
  rfl
 have one : ∀ m,m < p.length → (p[m]?.getD pt0) = cor p m:=fun m hm=>by unfold cor;rw [Nat.mod_eq_of_lt hm]
 have each : 0 < crs ⟨earA p i,earB p i⟩ (earC p i) → ∀ m,m < p.length → (inEar p i m = true ↔ (m % p.length ≠ (i + p.length - 1) % p.length ∧ m % p.length ≠ (i + p.length - 1 + 1) % p.length ∧ m % p.length ≠ (i + p.length - 1 + 2) % p.length ∧ Tri (rp (earA p i)) (rp (earB p i)) (rp (earC p i)) (ring p m))):=fun hD m hm=>by
  unfold inEar
  rw [Bool.and_eq_true,Bool.and_eq_true,Bool.and_eq_true,ptB_not,ptB_not,ptB_not,decide_eq_true_iff,one m hm,show triAt p i = [earA p i,earB p i,earC p i] from rfl,tri_where hD]
  have q1 : cor p m ≠ earA p i ↔ m % p.length ≠ (i + p.length - 1) % p.length:=by rw [cA,Ne,h.cor_eq]
  have q2 : cor p m ≠ earB p i ↔ m % p.length ≠ (i + p.length - 1 + 1) % p.length:=by rw [cB,Ne,h.cor_eq]
  have q3 : cor p m ≠ earC p i ↔ m % p.length ≠ (i + p.length - 1 + 2) % p.length:=by rw [cC,Ne,h.cor_eq]
  rw [q1,q2,q3]
  rfl
 constructor
 ·intro he
  unfold earR at he
  split at he
  ·split at he <;> omega
  ·rename_i hD
   split at he
   ·omega
   ·rename_i hno
    have hD : 0 < crs ⟨earA p i,earB p i⟩ (earC p i):=by omega
    refine ⟨by rw [a1,a2,a3];exact hpos.2 hD,fun m m0 m1 m2 hT=>hno ?_⟩
    rw [List.any_eq_true]
    have hml : m % p.length < p.length:=Nat.mod_lt _ (by omega)
    refine ⟨m % p.length,List.mem_range.2 hml,(each hD _ hml).2 ⟨by rw [Nat.mod_mod];exact m0,by rw [Nat.mod_mod];exact m1,by rw [Nat.mod_mod];exact m2,?_⟩⟩
    rw [a1,a2,a3] at hT
    rw [h.pos.sim.mod]
    exact hT
 ·intro he
  have hD : 0 < crs ⟨earA p i,earB p i⟩ (earC p i):=by
   have:=he.pos
   rw [a1,a2,a3] at this
   exact hpos.1 this
  unfold earR
  rw [if_neg (by omega),if_neg]
  intro hany
  rw [List.any_eq_true] at hany
  obtain ⟨m,hm,hb⟩:=hany
  obtain ⟨m0,m1,m2,hT⟩:=(each hD m (List.mem_range.1 hm)).1 hb
  refine he.emp m m0 m1 m2 ?_
  rw [a1,a2,a3]
  exact hT
theorem ring_erase (hi : i < p.length) (h2 : 2 ≤ p.length) : ring (p.eraseIdx i) = Geo.shiftP (Geo.cutP (ring p) (i + p.length - 1 + 2) (i + p.length - 1 + p.length)) (p.length - 1 - i):=by
 have hlen : (p.eraseIdx i).length = p.length - 1:=List.length_eraseIdx_of_lt hi
 funext t
 unfold Geo.shiftP Geo.cutP ring
 congr 1
 rw [show i + p.length - 1 + p.length - (i + p.length - 1 + 2) + 1 = p.length - 1 by omega]
 have hr : t % (p.length - 1) < p.length - 1:=Nat.mod_lt _ (by omega)
 have hm : (t + (p.length - 1 - i)) % (p.length - 1) = (t % (p.length - 1) + (p.length - 1 - i)) % (p.length - 1):=by rw [Nat.mod_add_mod]
 rw [hm]
 have e1 : cor (p.eraseIdx i) t = ((p.eraseIdx i)[t % (p.length - 1)]?).getD pt0:=by unfold cor;rw [hlen]
 rw [e1,List.getElem?_eraseIdx]
 generalize t % (p.length - 1) = r at *
 by_cases hri : r < i
 ·rw [if_pos hri,Nat.mod_eq_of_lt (by omega),show i + p.length - 1 + 2 + (r + (p.length - 1 - i)) = r + p.length + p.length by omega,cor_per,cor_per]
  unfold cor
  rw [Nat.mod_eq_of_lt (by omega)]
 ·rw [if_neg hri,show r + (p.length - 1 - i) = (r - i) + (p.length - 1) by omega,Nat.add_mod_right,Nat.mod_eq_of_lt (by omega),show i + p.length - 1 + 2 + (r - i) = r + 1 + p.length by omega,cor_per]
  unfold cor
  rw [Nat.mod_eq_of_lt (by omega)]
theorem GoodP.cut (h : GoodP p) (h4 : 4 ≤ p.length) (hi : i < p.length) (he : 0 ≤ earR p i) :
  GoodP (p.eraseIdx i) ∧ ∀ q,wind p.length (ring p) q = wind (p.eraseIdx i).length (ring (p.eraseIdx i)) q + (if earR p i = 1 then wind 3 (ring (triAt p i)) q else 0):=by
 have hlen : (p.eraseIdx i).length = p.length - 1:=List.length_eraseIdx_of_lt hi
 have hnd : (p.eraseIdx i).Nodup:=h.nd.sublist (List.eraseIdx_sublist ..)
 obtain ⟨a1,a2,a3⟩:=ear_ring hi
 have hcase : earR p i = 1 ∨ earR p i = 0:=by
  unfold earR at he ⊢
  split
  ·split
   ·exact Or.inr rfl
   ·rename_i h1 h2;rw [if_pos h1,if_neg h2] at he;omega
  ·split
   ·rename_i h1 h2;rw [if_neg h1,if_pos h2] at he;omega
   ·exact Or.inl rfl
 rcases hcase with e | e
 ·obtain ⟨hp,hw⟩:=h.pos.ear_cut h4 ((ear_one h hi).1 e)
  refine ⟨⟨by rw [hlen,ring_erase hi (by omega)];exact hp.shift _,hnd⟩,fun q=>?_⟩
  rw [if_pos e,hlen,ring_erase hi (by omega),hp.sim.wind_shift,hw q,a1,a2,a3,show triAt p i = [earA p i,earB p i,earC p i] from rfl,ring_tri]
 ·obtain ⟨hp,hw⟩:=h.pos.straight_cut h4 ((ear_zero hi).1 e)
  refine ⟨⟨by rw [hlen,ring_erase hi (by omega)];exact hp.shift _,hnd⟩,fun q=>?_⟩
  rw [if_neg (by omega),hlen,ring_erase hi (by omega),hp.sim.wind_shift,hw q,Int.add_zero]
end
theorem firstEar_some {p : List Pt} (h : GoodP p) : ∃ i,firstEar p = some i ∧ i < p.length ∧ 0 ≤ earR p i:=by
 have h3:=h.pos.sim.three
 obtain ⟨k,hk,he⟩:=Geo.ear_ex p.length p.length (ring p) (Nat.le_refl _) h.pos
 have h1 : earR p (k + 1) = 1:=by
  refine (ear_one h (by omega)).2 ?_
  have e0 : k + 1 + p.length - 1 = k + p.length:=by omega
  rw [e0]
  refine ⟨?_,fun m m0 m1 m2 hT=>?_⟩
  ·rw [h.pos.sim.per,show k + p.length + 1 = k + 1 + p.length by omega,h.pos.sim.per,show k + p.length + 2 = k + 2 + p.length by omega,h.pos.sim.per]
   exact he.pos
  ·rw [h.pos.sim.per,show k + p.length + 1 = k + 1 + p.length by omega,h.pos.sim.per,show k + p.length + 2 = k + 2 + p.length by omega,h.pos.sim.per] at hT
   rw [Nat.add_mod_right] at m0
   rw [show k + p.length + 1 = k + 1 + p.length by omega,Nat.add_mod_right] at m1
   rw [show k + p.length + 2 = k + 2 + p.length by omega,Nat.add_mod_right] at m2
   exact he.emp m m0 m1 m2 hT
 cases hf : firstEar p with
 | none =>
  unfold firstEar at hf
  rw [List.find?_eq_none] at hf
  have:=hf (k + 1) (List.mem_range.2 (by omega))
  rw [h1] at this
  simp at this
 | some i =>
  have h1:=List.find?_some hf
  have h2:=List.mem_of_find?_eq_some hf
  exact ⟨i,rfl,List.mem_range.1 h2,of_decide_eq_true h1⟩
def windL (q : RP) : List (List Pt) → Int
 | []=>0
 | t :: r=>wind 3 (ring t) q + windL q r
theorem windL_append (q : RP) : ∀ l m,windL q (l ++ m) = windL q l + windL q m
 | [],m=>by show windL q m = 0 + windL q m;omega
 | t :: l,m=>by
  show wind 3 (ring t) q + windL q (l ++ m) = wind 3 (ring t) q + windL q l + windL q m
  rw [windL_append q l m];omega
def IsTri (t : List Pt) : Prop:=∃ a b c,t = [a,b,c] ∧ 0 < crs ⟨a,b⟩ c
theorem ear_tri {p : List Pt} {i : Nat} (h : earR p i = 1) : IsTri (triAt p i):=by
 unfold earR at h
 split at h
 ·split at h <;> omega
 ·exact ⟨_,_,_,rfl,by omega⟩
theorem trisR_short {p : List Pt} (h : p.length ≤ 2) : ∀ f,trisR f p = []
 | 0=>rfl
 | f + 1=>by unfold trisR;rw [if_pos h]
theorem tris_wind : ∀ (f : Nat) (p : List Pt),GoodP p → p.length ≤ f + 2 → (∀ t ∈ trisR f p,IsTri t) ∧ (∀ q,wind p.length (ring p) q = windL q (trisR f p)) ∧ trisR f p ≠ []
 | 0,p,h,hl=>by have:=h.pos.sim.three;omega
 | f + 1,p,h,hl=>by
  have h3:=h.pos.sim.three
  obtain ⟨i,hf,hi,he⟩:=firstEar_some h
  have heq : trisR (f + 1) p = (if earR p i = 1 then [triAt p i] else []) ++ trisR f (p.eraseIdx i):=by
   show (if p.length ≤ 2 then [] else _) = _
   rw [if_neg (by omega),hf]
  rw [heq]
  have hlen : (p.eraseIdx i).length = p.length - 1:=List.length_eraseIdx_of_lt hi
  by_cases h4 : 4 ≤ p.length
  ·obtain ⟨hg,hw⟩:=h.cut h4 hi he
   obtain ⟨t1,t2,t3⟩:=tris_wind f (p.eraseIdx i) hg (by omega)
   refine ⟨fun t ht=>?_,fun q=>?_,fun e=>t3 (List.append_eq_nil_iff.1 e).2⟩
   ·rcases List.mem_append.1 ht with ht | ht
    ·split at ht
     ·rename_i e1
      rw [List.mem_singleton.1 ht]
      exact ear_tri e1
     ·cases ht
    ·exact t1 t ht
   ·rw [hw q,windL_append,← t2 q]
    split
    ·show _ = wind 3 (ring (triAt p i)) q + 0 + _;omega
    ·show _ = 0 + _;omega
  ·have hp3 : p.length = 3:=by omega
   obtain ⟨k,hk,hear⟩:=Geo.ear_ex p.length p.length (ring p) (Nat.le_refl _) h.pos
   have hk0 : k = 0:=by omega
   subst hk0
   have hD:=hear.pos
   have e3 : ring p 3 = ring p 0:=by have:=h.pos.sim.per 0;rw [hp3] at this;exact this
   have e4 : ring p 4 = ring p 1:=by have:=h.pos.sim.per 1;rw [hp3] at this;exact this
   obtain ⟨a1,a2,a3⟩:=ear_ring hi
   rw [hp3] at a1 a2 a3
   have hone : earR p i = 1:=by
    have hne : earR p i ≠ 0:=fun e=>by
     have:=(ear_zero hi).1 e
     rw [hp3] at this
     have hi3 : i = 0 ∨ i = 1 ∨ i = 2:=by omega
     obtain ⟨c1,c2⟩:=Geo.crs_cyc (ring p 0) (ring p 1) (ring p 2)
     rcases hi3 with e | e | e <;> subst e
     ·rw [show 0 + 3 - 1 = 2 from rfl,show 2 + 1 = 3 from rfl,show 2 + 2 = 4 from rfl,e3,e4,c2] at this
      rw [this] at hD;exact absurd hD (by decide)
     ·rw [show 1 + 3 - 1 = 3 from rfl,show 3 + 1 = 4 from rfl,show 3 + 2 = 2 + 3 from rfl,e3,e4,show ring p (2 + 3) = ring p 2 by have:=h.pos.sim.per 2;rw [hp3] at this;exact this] at this
      rw [this] at hD;exact absurd hD (by decide)
     ·rw [show 2 + 3 - 1 = 4 from rfl,show 4 + 1 = 2 + 3 from rfl,show 4 + 2 = 3 + 3 from rfl,e4,show ring p (2 + 3) = ring p 2 by have:=h.pos.sim.per 2;rw [hp3] at this;exact this,show ring p (3 + 3) = ring p 3 by have:=h.pos.sim.per 3;rw [hp3] at this;exact this,e3,c1] at this
      rw [this] at hD;exact absurd hD (by decide)
    unfold earR at he hne ⊢
    split
    ·split
     ·rename_i h1 h2;rw [if_pos h1,if_pos h2] at hne;exact absurd rfl hne
     ·rename_i h1 h2;rw [if_pos h1,if_neg h2] at he;omega
    ·split
     ·rename_i h1 h2;rw [if_neg h1,if_pos h2] at he;omega
     ·rfl
   rw [if_pos hone,trisR_short (by omega)]
   refine ⟨fun t ht=>?_,fun q=>?_,by simp⟩
   ·rw [List.append_nil] at ht
    rw [List.mem_singleton.1 ht]
    exact ear_tri hone
   ·show _ = wind 3 (ring (triAt p i)) q + 0
    rw [show triAt p i = [earA p i,earB p i,earC p i] from rfl,ring_tri,Geo.tri_wind,← a1,← a2,← a3,hp3]
    have hw : wind 3 (ring p) q = wc (ring p 0) (ring p 1) q + wc (ring p 1) (ring p 2) q + wc (ring p 2) (ring p 3) q:=by
     unfold Geo.wind Geo.sumZ Geo.sumZ Geo.sumZ Geo.sumZ
     show 0 + wc (ring p 0) (ring p 1) q + wc (ring p 1) (ring p 2) q + wc (ring p 2) (ring p 3) q = _
     omega
    rw [hw]
    have hi3 : i = 0 ∨ i = 1 ∨ i = 2:=by omega
    have e5 : ring p (2 + 3) = ring p 2:=by have:=h.pos.sim.per 2;rw [hp3] at this;exact this
    have e6 : ring p (3 + 3) = ring p 3:=by have:=h.pos.sim.per 3;rw [hp3] at this;exact this
    rcases hi3 with e | e | e <;> subst e
    ·rw [show 0 + 3 - 1 = 2 from rfl,show 2 + 1 = 3 from rfl,show 2 + 2 = 4 from rfl,e3,e4];omega
    ·rw [show 1 + 3 - 1 = 3 from rfl,show 3 + 1 = 4 from rfl,show 3 + 2 = 2 + 3 from rfl,e3,e4,e5];omega
    ·rw [show 2 + 3 - 1 = 4 from rfl,show 4 + 1 = 2 + 3 from rfl,show 4 + 2 = 3 + 3 from rfl,e4,e5,e6,e3];omega
theorem dense_list {S : List Pt → RP → Prop} : ∀ {l : List (List Pt)},(∀ t ∈ l,Dense (S t)) → Dense fun q=>∀ t ∈ l,S t q
 | [],_=>fun q e e0=>⟨q,Near.self e0 q,1,by grind,fun _ _ t ht=>by cases ht⟩
 | t :: l,h=>fun q e e0=>by
  obtain ⟨r,hr,f,f0,hf⟩:=(Dense.and (h t (List.mem_cons_self ..)) (dense_list (l:=l) fun t ht=>h t (List.mem_cons_of_mem _ ht))) q e e0
  refine ⟨r,hr,f,f0,fun s hs x hx=>?_⟩
  rcases List.mem_cons.1 hx with e | hx
  ·rw [e];exact (hf s hs).1
  ·exact (hf s hs).2 x hx
theorem IsTri.pos {t : List Pt} (h : IsTri t) : Pos 3 (ring t):=by
 obtain ⟨a,b,c,rfl,hD⟩:=h
 rw [ring_tri]
 exact Geo.tri_pos ((crs_pos ⟨a,b⟩ c).2 hD)
theorem tris_dense {l : List (List Pt)} (h : ∀ t ∈ l,IsTri t) : Dense fun q=>∀ t ∈ l,Off 3 (ring t) q:=dense_list fun t ht=>(h t ht).pos.sim.dense
theorem windL_some {q : RP} : ∀ {l : List (List Pt)},(∀ t ∈ l,IsTri t) → (∀ t ∈ l,Off 3 (ring t) q) → 0 ≤ windL q l ∧ (0 < windL q l → ∃ t ∈ l,In 3 (ring t) q) ∧ ∀ t ∈ l,In 3 (ring t) q → 0 < windL q l
 | [],_,_=>⟨Int.le_refl _,fun h=>absurd h (Int.lt_irrefl 0),fun t ht=>by cases ht⟩
 | t :: l,h,ho=>by
  obtain ⟨h1,h2,h3⟩:=windL_some (q:=q) (l:=l) (fun t ht=>h t (List.mem_cons_of_mem _ ht)) (fun t ht=>ho t (List.mem_cons_of_mem _ ht))
  have hoff:=ho t (List.mem_cons_self ..)
  show 0 ≤ wind 3 (ring t) q + windL q l ∧ (0 < wind 3 (ring t) q + windL q l → _) ∧ ∀ x ∈ t :: l,In 3 (ring x) q → 0 < wind 3 (ring t) q + windL q l
  rcases (h t (List.mem_cons_self ..)).pos.two hoff with e | e
  ·have:=e.2
   refine ⟨by omega,fun _=>⟨t,List.mem_cons_self ..,e⟩,fun _ _ _=>by omega⟩
  ·have he:=e.2
   refine ⟨by omega,fun hp=>?_,fun x hx hin=>?_⟩
   ·obtain ⟨x,hx,hin⟩:=h2 (by omega)
    exact ⟨x,List.mem_cons_of_mem _ hx,hin⟩
   ·rcases List.mem_cons.1 hx with e' | hx
    ·rw [e'] at hin;exact (hin.not_out e).elim
    ·have:=h3 x hx hin;omega
theorem in_tris {p : List Pt} (h : GoodP p) {q : RP} (ho : Off p.length (ring p) q) (ht : ∀ t ∈ trisOf p,Off 3 (ring t) q) : In p.length (ring p) q ↔ ∃ t ∈ trisOf p,In 3 (ring t) q:=by
 obtain ⟨t1,t2,_⟩:=tris_wind p.length p h (by omega)
 obtain ⟨w1,w2,w3⟩:=windL_some t1 ht
 have e:=t2 q
 constructor
 ·intro hin
  rw [hin.2] at e
  exact w2 (by rw [← e];decide)
 ·rintro ⟨t,ht,hin⟩
  have:=w3 t ht hin
  rcases h.pos.two ho with e' | e'
  ·exact e'
  ·have:=e'.2;omega
theorem apart_sided {a b c x y z : Pt} : apartR [a,b,c] [x,y,z] = false ↔ Sided (rp a) (rp b) (rp c) (rp x) (rp y) (rp z):=by
 have one : ∀ (s : Sd),(decide (crs s x ≤ 0) && (decide (crs s y ≤ 0) && decide (crs s z ≤ 0))) = false ↔ (0 < Geo.crs (rp s.a) (rp s.b) (rp x) ∨ 0 < Geo.crs (rp s.a) (rp s.b) (rp y) ∨ 0 < Geo.crs (rp s.a) (rp s.b) (rp z)):=fun s=>by
  rw [crs_pos,crs_pos,crs_pos,Bool.and_eq_false_iff,Bool.and_eq_false_iff,decide_eq_false_iff_not,decide_eq_false_iff_not,decide_eq_false_iff_not]
  omega
 have h1:=one ⟨a,b⟩
 have h2:=one ⟨b,c⟩
 have h3:=one ⟨c,a⟩
 have e : apartR [a,b,c] [x,y,z] = ((decide (crs ⟨a,b⟩ x ≤ 0) && (decide (crs ⟨a,b⟩ y ≤ 0) && decide (crs ⟨a,b⟩ z ≤ 0))) || ((decide (crs ⟨b,c⟩ x ≤ 0) && (decide (crs ⟨b,c⟩ y ≤ 0) && decide (crs ⟨b,c⟩ z ≤ 0))) || ((decide (crs ⟨c,a⟩ x ≤ 0) && (decide (crs ⟨c,a⟩ y ≤ 0) && decide (crs ⟨c,a⟩ z ≤ 0))) || false))):=by
  obtain ⟨s0,s1,s2⟩:=sd_tri a b c
  unfold apartR
  rw [show List.range 3 = [0,1,2] from rfl,List.any_cons,List.any_cons,List.any_cons,List.any_nil,s0,s1,s2]
  rfl
 rw [e,Bool.or_false,Bool.or_eq_false_iff,Bool.or_eq_false_iff,h1,h2,h3]
 rfl
theorem apart_meet {s t : List Pt} (hs : IsTri s) (ht : IsTri t) : (!apartR s t && !apartR t s) = true ↔ ∃ q,In 3 (ring s) q ∧ In 3 (ring t) q:=by
 obtain ⟨a,b,c,rfl,h1⟩:=hs
 obtain ⟨x,y,z,rfl,h2⟩:=ht
 have d1:=(crs_pos ⟨a,b⟩ c).2 h1
 have d2:=(crs_pos ⟨x,y⟩ z).2 h2
 rw [Bool.and_eq_true,Bool.not_eq_true',Bool.not_eq_true',apart_sided,apart_sided,Geo.sided_iff d1 d2,ring_tri,ring_tri]
 constructor
 ·rintro ⟨q,h1,h2⟩;exact ⟨q,(Geo.tri_in d1 q).2 h1,(Geo.tri_in d2 q).2 h2⟩
 ·rintro ⟨q,h1,h2⟩;exact ⟨q,(Geo.tri_in d1 q).1 h1,(Geo.tri_in d2 q).1 h2⟩
theorem overR_over {a b : List Pt} (ha : GoodP a) (hb : GoodP b) : overR a b = true ↔ Geo.Over a.length (ring a) b.length (ring b):=by
 have ta:=(tris_wind a.length a ha (by omega)).1
 have tb:=(tris_wind b.length b hb (by omega)).1
 have hd:=Dense.and (Dense.and ha.pos.sim.dense hb.pos.sim.dense) (Dense.and (tris_dense ta) (tris_dense tb))
 have key : overR a b = true ↔ ∃ s ∈ trisOf a,∃ t ∈ trisOf b,∃ q,In 3 (ring s) q ∧ In 3 (ring t) q:=by
  unfold overR
  rw [List.any_eq_true]
  constructor
  ·rintro ⟨s,hs,h⟩
   rw [List.any_eq_true] at h
   obtain ⟨t,ht,h⟩:=h
   exact ⟨s,hs,t,ht,(apart_meet (ta s hs) (tb t ht)).1 h⟩
  ·rintro ⟨s,hs,t,ht,h⟩
   exact ⟨s,hs,List.any_eq_true.2 ⟨t,ht,(apart_meet (ta s hs) (tb t ht)).2 h⟩⟩
 rw [key]
 constructor
 ·rintro ⟨s,hs,t,ht,q,h1,h2⟩
  obtain ⟨e1,e10,k1⟩:=h1.near (ta s hs).pos.sim
  obtain ⟨e2,e20,k2⟩:=h2.near (tb t ht).pos.sim
  obtain ⟨g,g0,ga,gb⟩ : ∃ g : Rat,0 < g ∧ g ≤ e1 ∧ g ≤ e2:=by
   rcases Rat.le_total (a:=e1) (b:=e2) with a | a
   ·exact ⟨e1,e10,by grind,a⟩
   ·exact ⟨e2,e20,a,by grind⟩
  obtain ⟨r,hr,f,f0,hf⟩:=hd q g g0
  have hff:=hf r (Near.self f0 r)
  exact ⟨r,(in_tris ha hff.1.1 hff.2.1).2 ⟨s,hs,k1 r (hr.mono ga)⟩,(in_tris hb hff.1.2 hff.2.2).2 ⟨t,ht,k2 r (hr.mono gb)⟩⟩
 ·rintro ⟨q,h1,h2⟩
  obtain ⟨e1,e10,k1⟩:=h1.near ha.pos.sim
  obtain ⟨e2,e20,k2⟩:=h2.near hb.pos.sim
  obtain ⟨g,g0,ga,gb⟩ : ∃ g : Rat,0 < g ∧ g ≤ e1 ∧ g ≤ e2:=by
   rcases Rat.le_total (a:=e1) (b:=e2) with a | a
   ·exact ⟨e1,e10,by grind,a⟩
   ·exact ⟨e2,e20,a,by grind⟩
  obtain ⟨r,hr,f,f0,hf⟩:=hd q g g0
  have hff:=hf r (Near.self f0 r)
  obtain ⟨s,hs,i1⟩:=(in_tris ha hff.1.1 hff.2.1).1 (k1 r (hr.mono ga))
  obtain ⟨t,ht,i2⟩:=(in_tris hb hff.1.2 hff.2.2).1 (k2 r (hr.mono gb))
  exact ⟨s,hs,t,ht,r,i1,i2⟩
end Cal
end Go.Proofs.Ythfokpchdlcidaa
namespace Go.Proofs.Ythfokpchdlcidaa
open Go Go.RowKit Go.Shelf
theorem tri_cells {w : World} {V : Option Addr} {x y z : Pt} (h : RowsAt w V 2 ([x,y,z].map ptR)) : ∃ b o,V = some ⟨b,o,none⟩ ∧ b < w.heap.size ∧ w.cell? ⟨b,o,none⟩ = some (.int .i64 x.x) ∧ w.cell? ⟨b,o + 1,none⟩ = some (.int .i64 x.y) ∧ w.cell? ⟨b,o + 2,none⟩ = some (.int .i64 y.x) ∧ w.cell? ⟨b,o + 3,none⟩ = some (.int .i64 y.y) ∧ w.cell? ⟨b,o + 4,none⟩ = some (.int .i64 z.x) ∧ w.cell? ⟨b,o + 5,none⟩ = some (.int .i64 z.y):=by
 obtain ⟨b,o,rfl,hb,h0⟩:=h 0 (ptR x) rfl
 obtain ⟨b1,o1,e1,_,h1⟩:=h 1 (ptR y) rfl
 obtain ⟨b2,o2,e2,_,h2⟩:=h 2 (ptR z) rfl
 cases e1
 cases e2
 have a0:=h0 0 _ rfl
 have a1:=h0 1 _ rfl
 rw [Nat.zero_mul,Nat.zero_add] at a0 a1
 exact ⟨b,o,rfl,hb,a0,a1,h1 0 _ rfl,h1 1 _ rfl,h2 0 _ rfl,h2 1 _ rfl⟩
def apAt (s t : List Pt) (i : Nat) : Bool:=decide (Cal.crs (Cal.sd s i) (t[0]?.getD Cal.pt0) ≤ 0) && (decide (Cal.crs (Cal.sd s i) (t[1]?.getD Cal.pt0) ≤ 0) && decide (Cal.crs (Cal.sd s i) (t[2]?.getD Cal.pt0) ≤ 0))
theorem ap_none {s t : List Pt} (h : ∀ j,j < 3 → apAt s t j = false) : Cal.apartR s t = false:=by
 unfold Cal.apartR
 rw [List.any_eq_false]
 intro j hj
 have:=h j (List.mem_range.1 hj)
 unfold apAt at this
 rw [this];decide
theorem ap_some {s t : List Pt} {j : Nat} (hj : j < 3) (h : apAt s t j = true) : Cal.apartR s t = true:=by
 unfold Cal.apartR
 rw [List.any_eq_true]
 exact ⟨j,List.mem_range.2 hj,h⟩
theorem apartR_any (V : Option Addr) (d : Nat) (s : List Pt) (V2 : Option Addr) (d2 : Nat) (x y z : Pt) (w : World) (hS : Pts w V s) (hs3 : s.length = 3) (hT : RowsAt w V2 2 ([x,y,z].map ptR)) (hx : SmP x) (hy : SmP y) (hz : SmP z) :
  Calls Try.prog 77 #[.slice V 3 d,.slice V2 3 d2] w fun e w'=>e = .returned (.bool (Cal.apartR s [x,y,z])) ∧ Below w.heap.size w w':=by
 obtain ⟨R,hR⟩ : ∃ R,Cal.apartR s [x,y,z] = R:=⟨_,rfl⟩
 rw [hR]
 replace hR:=Lib.hid hR
 have hPR : Hid (PtsR w V s):=⟨hS.rows,hS.size,hS.own⟩
 have hsm:=Lib.hid (fun k hk=>hS.sd k hk)
 have hb0 : Hid (Below w.heap.size w w):=Below.refl _ _
 replace hT:=Lib.hid hT
 have hs3':=Lib.hid hs3
 clear hS hs3
 go_enter Try.func77,Try.ntmps77
 go_wp2_with fail
 go_loopw [5] (fun i wr=>∃ k : Nat,k ≤ 3 ∧ i = .int .i64 k ∧ Hid (∀ j,j < k → apAt s [x,y,z] j = false) ∧ Hid (Below w.heap.size w wr)) (fun i _=>3 - (intOf i).toNat)
 case atStart=>exact ⟨0,Nat.zero_le _,rfl,fun j h=>by omega,hb0⟩
 case round =>
  clear hb0
  obtain ⟨k,hk,rfl,hno,hb⟩:=hrel
  by_cases hlt : k < 3
  ·have hU : SmS (Cal.sd s k):=hsm.out k (by rw [hs3'.out];exact hlt)
   have hsd : Hid (∀ W,Below w.heap.size w W → Calls Try.prog 68 #[.slice V 3 d,.int .i64 (k : Int)] W fun e w'=>e = .returned (.agg #[.int .i64 (Cal.sd s k).a.x,.int .i64 (Cal.sd s k).a.y,.int .i64 (Cal.sd s k).b.x,.int .i64 (Cal.sd s k).b.y]) ∧ Below W.heap.size W w'):=fun W hW=>by
    have:=sideR_any V d s k W (hPR.out.below hW) (by rw [hs3'.out];exact hlt) (by rw [hs3'.out];decide)
    rw [hs3'.out] at this
    exact this
   have hap : Hid (apAt s [x,y,z] k = (decide (Cal.crs (Cal.sd s k) x ≤ 0) && (decide (Cal.crs (Cal.sd s k) y ≤ 0) && decide (Cal.crs (Cal.sd s k) z ≤ 0)))):=rfl
   generalize Cal.sd s k = u at *
   have hc0 : Hid (∀ W,Calls Try.prog 91 #[.agg #[.int .i64 u.a.x,.int .i64 u.a.y],.agg #[.int .i64 u.b.x,.int .i64 u.b.y],.agg #[.int .i64 x.x,.int .i64 x.y]] W fun e w'=>e = .returned (.int .i64 (Cal.crs u x)) ∧ Below W.heap.size W w'):=fun W=>crossR_any u.a u.b x W hU.a hU.b hx
   have hc1 : Hid (∀ W,Calls Try.prog 91 #[.agg #[.int .i64 u.a.x,.int .i64 u.a.y],.agg #[.int .i64 u.b.x,.int .i64 u.b.y],.agg #[.int .i64 y.x,.int .i64 y.y]] W fun e w'=>e = .returned (.int .i64 (Cal.crs u y)) ∧ Below W.heap.size W w'):=fun W=>crossR_any u.a u.b y W hU.a hU.b hy
   have hc2 : Hid (∀ W,Calls Try.prog 91 #[.agg #[.int .i64 u.a.x,.int .i64 u.a.y],.agg #[.int .i64 u.b.x,.int .i64 u.b.y],.agg #[.int .i64 z.x,.int .i64 z.y]] W fun e w'=>e = .returned (.int .i64 (Cal.crs u z)) ∧ Below W.heap.size W w'):=fun W=>crossR_any u.a u.b z W hU.a hU.b hz
   have hki : (k : Int) < 3:=by omega
   generalize Cal.crs u x = k0 at *
   generalize Cal.crs u y = k1 at *
   generalize Cal.crs u z = k2 at *
   have next : apAt s [x,y,z] k = false → Hid (∀ j,j < k + 1 → apAt s [x,y,z] j = false):=fun h j hj=>by
    rcases Nat.lt_succ_iff_lt_or_eq.1 hj with h' | h'
    ·exact hno.out j h'
    ·rw [h'];exact h
   by_cases q0 : k0 ≤ 0
   ·have f0 : decide (k0 ≤ 0) = true:=decide_eq_true q0
    by_cases q1 : k1 ≤ 0
    ·have f1 : decide (k1 ≤ 0) = true:=decide_eq_true q1
     by_cases q2 : k2 ≤ 0
     ·have f2 : decide (k2 ≤ 0) = true:=decide_eq_true q2
      have hRt : Hid (R = true):=by show _ = _;rw [← hR.out];exact ap_some hlt (by rw [hap.out,f0,f1,f2];rfl)
      clear next hap hno
      go_wp2_with (go_at_call 68;refine (hsd.out _ hb.out).mono ?_;rintro e w1 ⟨rfl,hb1⟩;have hB1:=Lib.hid (BoxAt.new w1 #[.int .i64 u.a.x,.int .i64 u.a.y,.int .i64 u.b.x,.int .i64 u.b.y] 72);have hbz:=Lib.hid (below_step (below_step hb.out hb1) (below_alloc w1 (.cells #[.int .i64 u.a.x,.int .i64 u.a.y,.int .i64 u.b.x,.int .i64 u.b.y] 72)));have hT1:=Lib.hid ((hT.out.below hb.out).below (below_step hb1 (below_alloc w1 (.cells #[.int .i64 u.a.x,.int .i64 u.a.y,.int .i64 u.b.x,.int .i64 u.b.y] 72))));clear hb1 hsd)
      obtain ⟨bT,oT,rfl,hbT,m0,m1,m2,m3,m4,m5⟩:=tri_cells hT1.out
      have c0:=hB1.out.c 0 _ rfl
      have c1:=hB1.out.c 1 _ rfl
      have c2:=hB1.out.c 2 _ rfl
      have c3:=hB1.out.c 3 _ rfl
      go_wp2_with fail
      generalize hW2 : w1.alloc (.cells #[.int .i64 u.a.x,.int .i64 u.a.y,.int .i64 u.b.x,.int .i64 u.b.y] 72) = W2 at *
      generalize w1.heap.size = B6 at *
      clear hW2
      refine wp_region_held_drew (S:=Sx W2 [(B6,0,.int .i64 u.a.x),(B6,1,.int .i64 u.a.y),(B6,2,.int .i64 u.b.x),(B6,3,.int .i64 u.b.y),(bT,oT,.int .i64 x.x),(bT,oT + 1,.int .i64 x.y),(bT,oT + 2,.int .i64 y.x),(bT,oT + 3,.int .i64 y.y),(bT,oT + 4,.int .i64 z.x),(bT,oT + 5,.int .i64 z.y)]) (by kernel_rfl) (Sx.mk (by simp only [cs_iff_cons];exact ⟨c0,c1,c2,c3,m0,m1,m2,m3,m4,m5,cs_nil _⟩) (Below.refl _ _)).drew (fun hHeld=>?_)
      clear c0 c1 c2 c3 m0 m1 m2 m3 m4 m5
      refine tkHx 0 14 ?_
      refine tkHx 1 15 ?_
      refine tkHx 2 16 ?_
      refine tkHx 3 17 ?_
      refine tkHx 4 18 ?_
      refine tkHx 5 19 ?_
      refine tkHx 6 20 ?_
      (refine ratHx 7 (fun K hK=>?_);go_simp)
      refine (hc0.out _).mono ?_
      rintro e wn ⟨rfl,hbn⟩
      go_simp
      (refine hK.out _ _ (hHeld.step hbn) (fun hHeld=>?_);clear hK K;(try simp only [apS,apN,siA,scZ,scS]))
      refine tkHx 8 22 ?_
      refine tkHx 9 23 ?_
      refine tkHx 10 24 ?_
      refine tkHx 11 25 ?_
      refine tkHx 12 26 ?_
      refine tkHx 13 27 ?_
      refine tkHx 14 28 ?_
      refine tkHx 15 29 ?_
      refine tkHx 16 30 ?_
      (refine ratHx 17 (fun K hK=>?_);go_simp)
      refine (hc1.out _).mono ?_
      rintro e wn ⟨rfl,hbn⟩
      go_simp
      (refine hK.out _ _ (hHeld.step hbn) (fun hHeld=>?_);clear hK K;(try simp only [apS,apN,siA,scZ,scS]))
      refine tkHx 18 32 ?_
      refine tkHx 19 33 ?_
      refine tkHx 20 34 ?_
      refine tkHx 21 35 ?_
      refine tkHx 22 36 ?_
      refine tkHx 23 37 ?_
      refine tkHx 24 38 ?_
      refine tkHx 25 39 ?_
      refine tkHx 26 40 ?_
      refine tkHx 27 41 ?_
      (refine ratHx 28 (fun K hK=>?_);go_simp)
      refine (hc2.out _).mono ?_
      rintro e wn ⟨rfl,hbn⟩
      go_simp
      (refine hK.out _ _ (hHeld.step hbn) (fun hHeld=>?_);clear hK K;(try simp only [apS,apN,siA,scZ,scS]))
      refine tkHx 29 43 ?_
      refine tkHx 30 44 ?_
      refine wpAnyH_done (by kernel_rfl) ?_ _
      (try simp only [apS,apN,siA,scZ,scS])
      have hbe:=Lib.hid (below_step hbz.out hHeld.bel)
      clear hHeld
      go_wp2_with fail
      go_ret
      exact ⟨by rw [hRt.out];rfl,hbe.out⟩
     ·have f2 : decide (k2 ≤ 0) = false:=decide_eq_false q2
      have hno2:=next (by rw [hap.out,f0,f1,f2];rfl)
      clear next hap hno
      go_wp2_with (go_at_call 68;refine (hsd.out _ hb.out).mono ?_;rintro e w1 ⟨rfl,hb1⟩;have hB1:=Lib.hid (BoxAt.new w1 #[.int .i64 u.a.x,.int .i64 u.a.y,.int .i64 u.b.x,.int .i64 u.b.y] 72);have hbz:=Lib.hid (below_step (below_step hb.out hb1) (below_alloc w1 (.cells #[.int .i64 u.a.x,.int .i64 u.a.y,.int .i64 u.b.x,.int .i64 u.b.y] 72)));have hT1:=Lib.hid ((hT.out.below hb.out).below (below_step hb1 (below_alloc w1 (.cells #[.int .i64 u.a.x,.int .i64 u.a.y,.int .i64 u.b.x,.int .i64 u.b.y] 72))));clear hb1 hsd)
      obtain ⟨bT,oT,rfl,hbT,m0,m1,m2,m3,m4,m5⟩:=tri_cells hT1.out
      have c0:=hB1.out.c 0 _ rfl
      have c1:=hB1.out.c 1 _ rfl
      have c2:=hB1.out.c 2 _ rfl
      have c3:=hB1.out.c 3 _ rfl
      go_wp2_with fail
      generalize hW2 : w1.alloc (.cells #[.int .i64 u.a.x,.int .i64 u.a.y,.int .i64 u.b.x,.int .i64 u.b.y] 72) = W2 at *
      generalize w1.heap.size = B6 at *
      clear hW2
      refine wp_region_held_drew (S:=Sx W2 [(B6,0,.int .i64 u.a.x),(B6,1,.int .i64 u.a.y),(B6,2,.int .i64 u.b.x),(B6,3,.int .i64 u.b.y),(bT,oT,.int .i64 x.x),(bT,oT + 1,.int .i64 x.y),(bT,oT + 2,.int .i64 y.x),(bT,oT + 3,.int .i64 y.y),(bT,oT + 4,.int .i64 z.x),(bT,oT + 5,.int .i64 z.y)]) (by kernel_rfl) (Sx.mk (by simp only [cs_iff_cons];exact ⟨c0,c1,c2,c3,m0,m1,m2,m3,m4,m5,cs_nil _⟩) (Below.refl _ _)).drew (fun hHeld=>?_)
      clear c0 c1 c2 c3 m0 m1 m2 m3 m4 m5
      refine tkHx 0 14 ?_
      refine tkHx 1 15 ?_
      refine tkHx 2 16 ?_
      refine tkHx 3 17 ?_
      refine tkHx 4 18 ?_
      refine tkHx 5 19 ?_
      refine tkHx 6 20 ?_
      (refine ratHx 7 (fun K hK=>?_);go_simp)
      refine (hc0.out _).mono ?_
      rintro e wn ⟨rfl,hbn⟩
      go_simp
      (refine hK.out _ _ (hHeld.step hbn) (fun hHeld=>?_);clear hK K;(try simp only [apS,apN,siA,scZ,scS]))
      refine tkHx 8 22 ?_
      refine tkHx 9 23 ?_
      refine tkHx 10 24 ?_
      refine tkHx 11 25 ?_
      refine tkHx 12 26 ?_
      refine tkHx 13 27 ?_
      refine tkHx 14 28 ?_
      refine tkHx 15 29 ?_
      refine tkHx 16 30 ?_
      (refine ratHx 17 (fun K hK=>?_);go_simp)
      refine (hc1.out _).mono ?_
      rintro e wn ⟨rfl,hbn⟩
      go_simp
      (refine hK.out _ _ (hHeld.step hbn) (fun hHeld=>?_);clear hK K;(try simp only [apS,apN,siA,scZ,scS]))
      refine tkHx 18 32 ?_
      refine tkHx 19 33 ?_
      refine tkHx 20 34 ?_
      refine tkHx 21 35 ?_
      refine tkHx 22 36 ?_
      refine tkHx 23 37 ?_
      refine tkHx 24 38 ?_
      refine tkHx 25 39 ?_
      refine tkHx 26 40 ?_
      refine tkHx 27 41 ?_
      (refine ratHx 28 (fun K hK=>?_);go_simp)
      refine (hc2.out _).mono ?_
      rintro e wn ⟨rfl,hbn⟩
      go_simp
      (refine hK.out _ _ (hHeld.step hbn) (fun hHeld=>?_);clear hK K;(try simp only [apS,apN,siA,scZ,scS]))
      refine tkHx 29 43 ?_
      refine tkHx 30 44 ?_
      refine wpAnyH_done (by kernel_rfl) ?_ _
      (try simp only [apS,apN,siA,scZ,scS])
      have hbe:=Lib.hid (below_step hbz.out hHeld.bel)
      clear hHeld
      go_wp2_with fail
      go_roundw
      case rel=>exact ⟨k + 1,by omega,by go_num,hno2,hbe⟩
      case measure=>simp [intOf];omega
    ·have f1 : decide (k1 ≤ 0) = false:=decide_eq_false q1
     have hno2:=next (by rw [hap.out,f0,f1];rfl)
     clear next hap hno
     go_wp2_with (go_at_call 68;refine (hsd.out _ hb.out).mono ?_;rintro e w1 ⟨rfl,hb1⟩;have hB1:=Lib.hid (BoxAt.new w1 #[.int .i64 u.a.x,.int .i64 u.a.y,.int .i64 u.b.x,.int .i64 u.b.y] 72);have hbz:=Lib.hid (below_step (below_step hb.out hb1) (below_alloc w1 (.cells #[.int .i64 u.a.x,.int .i64 u.a.y,.int .i64 u.b.x,.int .i64 u.b.y] 72)));have hT1:=Lib.hid ((hT.out.below hb.out).below (below_step hb1 (below_alloc w1 (.cells #[.int .i64 u.a.x,.int .i64 u.a.y,.int .i64 u.b.x,.int .i64 u.b.y] 72))));clear hb1 hsd)
     obtain ⟨bT,oT,rfl,hbT,m0,m1,m2,m3,m4,m5⟩:=tri_cells hT1.out
     have c0:=hB1.out.c 0 _ rfl
     have c1:=hB1.out.c 1 _ rfl
     have c2:=hB1.out.c 2 _ rfl
     have c3:=hB1.out.c 3 _ rfl
     go_wp2_with fail
     generalize hW2 : w1.alloc (.cells #[.int .i64 u.a.x,.int .i64 u.a.y,.int .i64 u.b.x,.int .i64 u.b.y] 72) = W2 at *
     generalize w1.heap.size = B6 at *
     clear hW2
     refine wp_region_held_drew (S:=Sx W2 [(B6,0,.int .i64 u.a.x),(B6,1,.int .i64 u.a.y),(B6,2,.int .i64 u.b.x),(B6,3,.int .i64 u.b.y),(bT,oT,.int .i64 x.x),(bT,oT + 1,.int .i64 x.y),(bT,oT + 2,.int .i64 y.x),(bT,oT + 3,.int .i64 y.y),(bT,oT + 4,.int .i64 z.x),(bT,oT + 5,.int .i64 z.y)]) (by kernel_rfl) (Sx.mk (by simp only [cs_iff_cons];exact ⟨c0,c1,c2,c3,m0,m1,m2,m3,m4,m5,cs_nil _⟩) (Below.refl _ _)).drew (fun hHeld=>?_)
     clear c0 c1 c2 c3 m0 m1 m2 m3 m4 m5
     refine tkHx 0 14 ?_
     refine tkHx 1 15 ?_
     refine tkHx 2 16 ?_
     refine tkHx 3 17 ?_
     refine tkHx 4 18 ?_
     refine tkHx 5 19 ?_
     refine tkHx 6 20 ?_
     (refine ratHx 7 (fun K hK=>?_);go_simp)
     refine (hc0.out _).mono ?_
     rintro e wn ⟨rfl,hbn⟩
     go_simp
     (refine hK.out _ _ (hHeld.step hbn) (fun hHeld=>?_);clear hK K;(try simp only [apS,apN,siA,scZ,scS]))
     refine tkHx 8 22 ?_
     refine tkHx 9 23 ?_
     refine tkHx 10 24 ?_
     refine tkHx 11 25 ?_
     refine tkHx 12 26 ?_
     refine tkHx 13 27 ?_
     refine tkHx 14 28 ?_
     refine tkHx 15 29 ?_
     refine tkHx 16 30 ?_
     (refine ratHx 17 (fun K hK=>?_);go_simp)
     refine (hc1.out _).mono ?_
     rintro e wn ⟨rfl,hbn⟩
     go_simp
     (refine hK.out _ _ (hHeld.step hbn) (fun hHeld=>?_);clear hK K;(try simp only [apS,apN,siA,scZ,scS]))
     refine tkHx 18 32 ?_
     refine tkHx 19 33 ?_
     refine tkHx 20 34 ?_
     refine tkFx 21 35 ?_
     refine tkFx 22 36 ?_
     refine tkFx 23 37 ?_
     refine tkFx 24 38 ?_
     refine tkFx 25 39 ?_
     refine tkFx 26 40 ?_
     refine tkFx 27 41 ?_
     refine tkFx 28 42 ?_
     refine tkFx 29 43 ?_
     refine tkHx 30 44 ?_
     refine wpAnyH_done (by kernel_rfl) ?_ _
     (try simp only [apS,apN,siA,scZ,scS])
     have hbe:=Lib.hid (below_step hbz.out hHeld.bel)
     clear hHeld
     go_wp2_with fail
     go_roundw
     case rel=>exact ⟨k + 1,by omega,by go_num,hno2,hbe⟩
     case measure=>simp [intOf];omega
   ·have f0 : decide (k0 ≤ 0) = false:=decide_eq_false q0
    have hno2:=next (by rw [hap.out,f0];rfl)
    clear next hap hno
    go_wp2_with (go_at_call 68;refine (hsd.out _ hb.out).mono ?_;rintro e w1 ⟨rfl,hb1⟩;have hB1:=Lib.hid (BoxAt.new w1 #[.int .i64 u.a.x,.int .i64 u.a.y,.int .i64 u.b.x,.int .i64 u.b.y] 72);have hbz:=Lib.hid (below_step (below_step hb.out hb1) (below_alloc w1 (.cells #[.int .i64 u.a.x,.int .i64 u.a.y,.int .i64 u.b.x,.int .i64 u.b.y] 72)));have hT1:=Lib.hid ((hT.out.below hb.out).below (below_step hb1 (below_alloc w1 (.cells #[.int .i64 u.a.x,.int .i64 u.a.y,.int .i64 u.b.x,.int .i64 u.b.y] 72))));clear hb1 hsd)
    obtain ⟨bT,oT,rfl,hbT,m0,m1,m2,m3,m4,m5⟩:=tri_cells hT1.out
    have c0:=hB1.out.c 0 _ rfl
    have c1:=hB1.out.c 1 _ rfl
    have c2:=hB1.out.c 2 _ rfl
    have c3:=hB1.out.c 3 _ rfl
    go_wp2_with fail
    generalize hW2 : w1.alloc (.cells #[.int .i64 u.a.x,.int .i64 u.a.y,.int .i64 u.b.x,.int .i64 u.b.y] 72) = W2 at *
    generalize w1.heap.size = B6 at *
    clear hW2
    refine wp_region_held_drew (S:=Sx W2 [(B6,0,.int .i64 u.a.x),(B6,1,.int .i64 u.a.y),(B6,2,.int .i64 u.b.x),(B6,3,.int .i64 u.b.y),(bT,oT,.int .i64 x.x),(bT,oT + 1,.int .i64 x.y),(bT,oT + 2,.int .i64 y.x),(bT,oT + 3,.int .i64 y.y),(bT,oT + 4,.int .i64 z.x),(bT,oT + 5,.int .i64 z.y)]) (by kernel_rfl) (Sx.mk (by simp only [cs_iff_cons];exact ⟨c0,c1,c2,c3,m0,m1,m2,m3,m4,m5,cs_nil _⟩) (Below.refl _ _)).drew (fun hHeld=>?_)
    clear c0 c1 c2 c3 m0 m1 m2 m3 m4 m5
    refine tkHx 0 14 ?_
    refine tkHx 1 15 ?_
    refine tkHx 2 16 ?_
    refine tkHx 3 17 ?_
    refine tkHx 4 18 ?_
    refine tkHx 5 19 ?_
    refine tkHx 6 20 ?_
    (refine ratHx 7 (fun K hK=>?_);go_simp)
    refine (hc0.out _).mono ?_
    rintro e wn ⟨rfl,hbn⟩
    go_simp
    (refine hK.out _ _ (hHeld.step hbn) (fun hHeld=>?_);clear hK K;(try simp only [apS,apN,siA,scZ,scS]))
    refine tkHx 8 22 ?_
    refine tkHx 9 23 ?_
    refine tkFx 10 24 ?_
    refine tkFx 11 25 ?_
    refine tkFx 12 26 ?_
    refine tkFx 13 27 ?_
    refine tkFx 14 28 ?_
    refine tkFx 15 29 ?_
    refine tkFx 16 30 ?_
    refine tkFx 17 31 ?_
    refine tkFx 18 32 ?_
    refine tkHx 19 33 ?_
    refine tkHx 20 34 ?_
    refine tkFx 21 35 ?_
    refine tkFx 22 36 ?_
    refine tkFx 23 37 ?_
    refine tkFx 24 38 ?_
    refine tkFx 25 39 ?_
    refine tkFx 26 40 ?_
    refine tkFx 27 41 ?_
    refine tkFx 28 42 ?_
    refine tkFx 29 43 ?_
    refine tkHx 30 44 ?_
    refine wpAnyH_done (by kernel_rfl) ?_ _
    (try simp only [apS,apN,siA,scZ,scS])
    have hbe:=Lib.hid (below_step hbz.out hHeld.bel)
    clear hHeld
    go_wp2_with fail
    go_roundw
    case rel=>exact ⟨k + 1,by omega,by go_num,hno2,hbe⟩
    case measure=>simp [intOf];omega
  ·have hk3 : k = 3:=by omega
   subst hk3
   have hRf : Hid (R = false):=by show _ = _;rw [← hR.out];exact ap_none hno.out
   go_wp2_with fail
   go_ret
   exact ⟨by rw [hRf.out];rfl,hb.out⟩
end Go.Proofs.Ythfokpchdlcidaa
