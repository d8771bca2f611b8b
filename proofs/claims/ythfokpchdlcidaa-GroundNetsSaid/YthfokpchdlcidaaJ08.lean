/- What the statements rest on: definitions and walks, part 08. -/
import Derived.Test.YthfokpchdlcidaaJ07
set_option maxRecDepth 100000
set_option maxHeartbeats 16000000
set_option linter.unusedSimpArgs false
set_option linter.unusedVariables false
namespace Go.Proofs.Ythfokpchdlcidaa
theorem Cal.trn_zero {s : Sd} {p : Pt} : Cal.trn s p = 0 ↔ Cal.crs s p = 0:=by unfold Cal.trn Cal.cmpI;split <;> (try split) <;> omega
theorem sq_pos {z : Int} (h : z ≠ 0) : 0 < z * z:=by
 rcases Int.lt_trichotomy z 0 with h1 | h1 | h1
 ·exact Int.mul_pos_of_neg_of_neg h1 h1
 ·exact absurd h1 h
 ·exact Int.mul_pos h1 h1
theorem sq_nn (z : Int) : 0 ≤ z * z:=by
 by_cases h : z = 0
 ·rw [h];decide
 ·have:=sq_pos h;omega
theorem Cal.dst_inj {s : Sd} (hne : s.a ≠ s.b) {p q : Pt} (hp : Cal.crs s p = 0) (hq : Cal.crs s q = 0) (h : Cal.dst s p = Cal.dst s q) : p = q:=by
 obtain ⟨⟨ax,ay⟩,⟨bx,by'⟩⟩:=s
 obtain ⟨px,py⟩:=p
 obtain ⟨qx,qy⟩:=q
 simp only [Cal.crs,Cal.dst,Cal.dotP] at *
 have hL : 0 < (bx - ax) * (bx - ax) + (by' - ay) * (by' - ay):=by
  have h1:=sq_nn (bx - ax)
  have h2:=sq_nn (by' - ay)
  by_cases e1 : bx - ax = 0
  ·by_cases e2 : by' - ay = 0
   ·exact absurd (by rw [Pt.mk.injEq];omega) hne
   ·have:=sq_pos e2;omega
  ·have:=sq_pos e1;omega
 have kx : (px - qx) * ((bx - ax) * (bx - ax) + (by' - ay) * (by' - ay)) = 0:=by grind
 have ky : (py - qy) * ((bx - ax) * (bx - ax) + (by' - ay) * (by' - ay)) = 0:=by grind
 rw [Pt.mk.injEq]
 constructor
 ·rcases Int.mul_eq_zero.1 kx with h | h <;> omega
 ·rcases Int.mul_eq_zero.1 ky with h | h <;> omega
def Up (s : Sd) (l : List Pt) : Prop:=l.Pairwise fun p q=>Cal.dst s p < Cal.dst s q
theorem up_ext {s : Sd} : ∀ {l m : List Pt},Up s l → Up s m → (∀ p,p ∈ l ↔ p ∈ m) → l = m
 | [],[],_,_,_=>rfl
 | [],y :: m,_,_,h=>by have:=(h y).2 (List.mem_cons_self ..);cases this
 | x :: l,[],_,_,h=>by have:=(h x).1 (List.mem_cons_self ..);cases this
 | x :: l,y :: m,hl,hm,h=>by
  obtain ⟨h1,h2⟩:=List.pairwise_cons.1 hl
  obtain ⟨g1,g2⟩:=List.pairwise_cons.1 hm
  have hxy : x = y:=by
   rcases List.mem_cons.1 ((h x).1 (List.mem_cons_self ..)) with e | e
   ·exact e
   ·rcases List.mem_cons.1 ((h y).2 (List.mem_cons_self ..)) with e' | e'
    ·exact e'.symm
    ·have:=h1 y e';have:=g1 x e;omega
  subst hxy
  congr 1
  refine up_ext h2 g2 fun p=>⟨fun hp=>?_,fun hp=>?_⟩
  ·rcases List.mem_cons.1 ((h p).1 (List.mem_cons_of_mem _ hp)) with e | e
   ·subst e;have:=h1 p hp;omega
   ·exact e
  ·rcases List.mem_cons.1 ((h p).2 (List.mem_cons_of_mem _ hp)) with e | e
   ·subst e;have:=g1 p hp;omega
   ·exact e
theorem mem_insP {s : Sd} {q x : Pt} : ∀ {l : List Pt},x ∈ Cal.insP s q l ↔ x = q ∨ x ∈ l
 | []=>by simp [Cal.insP]
 | y :: r=>by
  unfold Cal.insP
  split
  ·simp
  ·split
   ·rename_i h
    have e:=ptB_iff.1 h
    subst e
    constructor
    ·intro h;exact .inr h
    ·rintro (h | h)
     ·subst h;exact List.mem_cons_self ..
     ·exact h
   ·rw [List.mem_cons,mem_insP,List.mem_cons]
    constructor
    ·rintro (h | h | h)
     ·exact .inr (.inl h)
     ·exact .inl h
     ·exact .inr (.inr h)
    ·rintro (h | h | h)
     ·exact .inr (.inl h)
     ·exact .inl h
     ·exact .inr (.inr h)
theorem up_insP {s : Sd} (hne : s.a ≠ s.b) {q : Pt} (hq : Cal.crs s q = 0) : ∀ {l : List Pt},Up s l → (∀ p ∈ l,Cal.crs s p = 0) → Up s (Cal.insP s q l)
 | [],_,_=>by simp [Cal.insP,Up]
 | y :: r,h,hc=>by
  obtain ⟨h1,h2⟩:=List.pairwise_cons.1 h
  unfold Cal.insP
  split
  ·rename_i hlt
   have hlt:=Cal.along_neg.1 hlt
   refine List.pairwise_cons.2 ⟨fun p hp=>?_,h⟩
   rcases List.mem_cons.1 hp with e | e
   ·rw [e];exact hlt
   ·have:=h1 p e;omega
  ·rename_i hlt
   split
   ·exact h
   ·rename_i hb
    have hlt : ¬ Cal.dst s q < Cal.dst s y:=fun hh=>hlt (Cal.along_neg.2 hh)
    have hdy : Cal.dst s y < Cal.dst s q:=by
     rcases Int.lt_trichotomy (Cal.dst s y) (Cal.dst s q) with hh | hh | hh
     ·exact hh
     ·exact absurd (ptB_iff.2 (Cal.dst_inj hne hq (hc y (List.mem_cons_self ..)) hh.symm)) hb
     ·exact absurd hh hlt
    refine List.pairwise_cons.2 ⟨fun p hp=>?_,up_insP hne hq h2 (fun p hp=>hc p (List.mem_cons_of_mem _ hp))⟩
    rcases mem_insP.1 hp with e | e
    ·rw [e];exact hdy
    ·exact h1 p e
theorem fold_insP {s : Sd} (hne : s.a ≠ s.b) : ∀ (l acc : List Pt),(∀ p ∈ l,Cal.crs s p = 0) → (∀ p ∈ acc,Cal.crs s p = 0) → Up s acc →
  Up s (l.foldl (fun a q=>Cal.insP s q a) acc) ∧ ∀ x,x ∈ l.foldl (fun a q=>Cal.insP s q a) acc ↔ x ∈ acc ∨ x ∈ l
 | [],acc,_,_,h=>⟨h,fun x=>by simp⟩
 | q :: l,acc,hl,ha,h=>by
  have hq:=hl q (List.mem_cons_self ..)
  obtain ⟨k1,k2⟩:=fold_insP hne l (Cal.insP s q acc) (fun p hp=>hl p (List.mem_cons_of_mem _ hp)) (fun p hp=>by
   rcases mem_insP.1 hp with e | e
   ·rw [e];exact hq
   ·exact ha p e) (up_insP hne hq h ha)
  refine ⟨k1,fun x=>?_⟩
  rw [List.foldl_cons,k2,mem_insP,List.mem_cons]
  constructor
  ·rintro ((h | h) | h)
   ·exact .inr (.inl h)
   ·exact .inl h
   ·exact .inr (.inr h)
  ·rintro (h | h | h)
   ·exact .inl (.inr h)
   ·exact .inl (.inl h)
   ·exact .inr h
theorem mem_kp {l : List Pt} : ∀ {m : Nat},m ≤ l.length → ∀ x,x ∈ kp l m ↔ x ∈ l.take m
 | 0,_,x=>by simp [kp]
 | m + 1,hm,x=>by
  have ih:=mem_kp (l:=l) (m:=m) (by omega) x
  have hat : ptAt l m = l[m]:=by unfold ptAt;rw [List.getElem?_eq_getElem (by omega)];rfl
  rw [List.take_succ_eq_append_getElem (by omega),List.mem_append,List.mem_singleton,← hat]
  unfold kp
  split
  ·rw [List.mem_append,List.mem_singleton,ih]
  ·rename_i h
   rw [ih]
   constructor
   ·intro h;exact .inl h
   ·rintro (h' | h')
    ·exact h'
    ·have h0 : m ≠ 0:=fun e=>h (.inl e)
     have h1 : ptAt l m = ptAt l (m - 1):=Classical.byContradiction fun e=>h (.inr e)
     rw [h',h1]
     unfold ptAt
     have hm1 : m - 1 < l.length:=by omega
     rw [List.getElem?_eq_getElem hm1]
     exact List.mem_take_iff_getElem.2 ⟨m - 1,by rw [Nat.min_eq_left (by omega)];omega,rfl⟩
theorem up_kp {s : Sd} (hne : s.a ≠ s.b) {l : List Pt} (hc : ∀ p ∈ l,Cal.crs s p = 0) (hs : SrtTo s l l.length) : ∀ {m : Nat},m ≤ l.length → Up s (kp l m)
 | 0,_=>List.Pairwise.nil
 | m + 1,hm=>by
  have ih:=up_kp hne hc hs (m:=m) (by omega)
  unfold kp
  split
  ·rename_i h
   refine List.pairwise_append.2 ⟨ih,List.pairwise_singleton _ _,fun p hp q hq=>?_⟩
   rw [List.mem_singleton.1 hq]
   obtain ⟨i,hi,rfl⟩:=List.mem_take_iff_getElem.1 ((mem_kp (l:=l) (m:=m) (by omega) p).1 hp)
   have hi' : i < m:=by omega
   have hat : ptAt l i = l[i]:=by unfold ptAt;rw [List.getElem?_eq_getElem (by omega)];rfl
   have hin : ∀ i,i < l.length → Cal.crs s (ptAt l i) = 0:=fun i hi=>by
    unfold ptAt;rw [List.getElem?_eq_getElem hi];exact hc _ (List.getElem_mem hi)
   have hmne : ptAt l m ≠ ptAt l (m - 1):=by
    rcases h with h | h
    ·omega
    ·exact h
   rw [← hat]
   have h1:=hs (m - 1) m (by omega) (by omega)
   have h2 : Cal.dst s (ptAt l (m - 1)) ≠ Cal.dst s (ptAt l m):=fun e=>hmne (Cal.dst_inj hne (hin m (by omega)) (hin (m - 1) (by omega)) e.symm)
   by_cases e : i = m - 1
   ·subst e;omega
   ·have:=hs i (m - 1) (by omega) (by omega);omega
  ·exact ih
theorem Cal.crs_a (s : Sd) : Cal.crs s s.a = 0:=by unfold Cal.crs;grind
theorem Cal.crs_b (s : Sd) : Cal.crs s s.b = 0:=by unfold Cal.crs;grind
theorem Cal.hasP_crs {s : Sd} {p : Pt} (h : Cal.hasP s p = true) : Cal.crs s p = 0:=by
 unfold Cal.hasP at h
 rw [Bool.and_eq_true,beq_iff_eq] at h
 exact Cal.trn_zero.1 h.1
theorem kp_atP {s : Sd} (hne : s.a ≠ s.b) {other l : List Pt} (hp : l.Perm (s.a :: s.b :: other.filter (Cal.hasP s))) (hs : SrtTo s l l.length) : kp l l.length = Cal.atP s other:=by
 have hcL : ∀ p ∈ s.a :: s.b :: other.filter (Cal.hasP s),Cal.crs s p = 0:=fun p hp=>by
  rcases List.mem_cons.1 hp with e | hp
  ·rw [e];exact Cal.crs_a s
  ·rcases List.mem_cons.1 hp with e | hp
   ·rw [e];exact Cal.crs_b s
   ·exact Cal.hasP_crs (List.mem_filter.1 hp).2
 have hc : ∀ p ∈ l,Cal.crs s p = 0:=fun p h=>hcL p (hp.mem_iff.1 h)
 obtain ⟨k1,k2⟩:=fold_insP hne (s.a :: s.b :: other.filter (Cal.hasP s)) [] hcL (fun p hp=>by cases hp) List.Pairwise.nil
 refine up_ext (up_kp hne hc hs (Nat.le_refl _)) k1 fun p=>?_
 rw [mem_kp (Nat.le_refl _),List.take_length,hp.mem_iff]
 show _ ↔ p ∈ (s.a :: s.b :: other.filter (Cal.hasP s)).foldl (fun a q=>Cal.insP s q a) []
 rw [k2]
 simp
end Go.Proofs.Ythfokpchdlcidaa
namespace Go.Proofs.Ythfokpchdlcidaa
open Go Go.RowKit Go.Shelf
attribute [local go_sem] Oper.semAt_some
def KpP (n₀ Bp Bo : Nat) (B : Nat) (X Y : World) : Prop:=Below n₀ X Y ∧ FromB B X Y ∧ Two Bp Bo X Y
def AbM (B : Nat) (X Y : World) : Prop:=Below (min B X.heap.size) X Y
theorem AbM.of {B : Nat} {X Y : World} (h : Below B X Y) : AbM B X Y:=h.mono (Nat.min_le_left _ _)
theorem BoxAt.ofBlock {w w' : World} {B : Nat} {cs : List Value} (h : BoxAt w B cs) (hb : w'.heap[B]? = w.heap[B]?) (hs : w.heap.size ≤ w'.heap.size) : BoxAt w' B cs :=
 ⟨fun j v hv=>(World.cell?_of_block (a:=⟨B,0 + j,none⟩) hb).trans (h.range j v hv),fun j hj=>(World.frozen?_of_block (a:=⟨B,j,none⟩) hb).trans (h.free j hj),Nat.lt_of_lt_of_le h.lt hs⟩
theorem AtP.ofBlock {w w' : World} {M : Nat} {l : List Pt} (h : AtP w M l) (hb : w'.heap[M]? = w.heap[M]?) (hs : w.heap.size ≤ w'.heap.size) : AtP w' M l:=by
 obtain ⟨cs,h0,h1,h2⟩:=h
 exact ⟨cs,h0.ofBlock hb hs,h1,h2⟩
theorem yield_wide {m m' l l0 : Nat} {P : Program} {args : Array Value} {W : World} {R : Ending → World → Prop} (h : YieldAt Fence.wide m P l args W R) : YieldAt (Fence.wide.inRound l0) m' P l args W R:=by
 obtain ⟨fn,tmps,assign,body,hy,hr⟩:=h
 exact ⟨fn,tmps,assign,body,hy,hr.1,fun c cs _=>hr.2 c cs (room_wide _)⟩
theorem KpP.refl (n₀ Bp Bo B : Nat) (X : World) : KpP n₀ Bp Bo B X X:=⟨Below.refl _ _,FromB.refl _ _,Two.refl _ _ _⟩
theorem KpP.trans {n₀ Bp Bo B : Nat} {X Y Z : World} (h : KpP n₀ Bp Bo B X Y) (k : KpP n₀ Bp Bo B Y Z) : KpP n₀ Bp Bo B X Z:=⟨h.1.trans k.1,h.2.1.trans k.2.1,h.2.2.trans k.2.2⟩
theorem KpP.below {n₀ Bp Bo B : Nat} {X Y : World} (h : Below X.heap.size X Y) (hn : n₀ ≤ X.heap.size) (hp : Bp < X.heap.size) (ho : Bo < X.heap.size) : KpP n₀ Bp Bo B X Y :=
 ⟨h.mono hn,⟨h.size,fun b _ hb=>h.block b hb⟩,h.block _ hp,h.block _ ho⟩
def pcE (x : Cal.Pc) : Array Value:=#[.agg #[.int .i64 x.mid.x,.int .i64 x.mid.y,.int .i64 (x.of.b.x - x.of.a.x),.int .i64 (x.of.b.y - x.of.a.y)]]
def pcF (os : List Pt) (s : Sd) : List Cal.Pc:=Cal.pcsOf s (Cal.atP s os)
theorem pcsP_eq (ps os : List Pt) : Cal.pcsP ps os = (Cal.sds ps).flatMap (pcF os):=rfl
def pcN (ps os : List Pt) (i : Nat) : Nat:=(((Cal.sds ps).take i).flatMap (pcF os)).length
theorem sds_length (ps : List Pt) : (Cal.sds ps).length = ps.length:=by unfold Cal.sds;simp
theorem sds_get {ps : List Pt} {i : Nat} (h : i < ps.length) : (Cal.sds ps)[i]? = some (Cal.sd ps i):=by unfold Cal.sds;rw [List.getElem?_map,List.getElem?_range h];rfl
theorem pcN_succ {ps os : List Pt} {i : Nat} (h : i < ps.length) : pcN ps os (i + 1) = pcN ps os i + (pcF os (Cal.sd ps i)).length:=by
 have hi : i < (Cal.sds ps).length:=by rw [sds_length];exact h
 have hg : (Cal.sds ps)[i] = Cal.sd ps i:=by have:=sds_get h;rw [List.getElem?_eq_getElem hi] at this;exact Option.some.inj this
 unfold pcN
 rw [List.take_succ_eq_append_getElem hi,List.flatMap_append,List.length_append,hg]
 simp
theorem pcN_all (ps os : List Pt) : pcN ps os ps.length = (Cal.pcsP ps os).length:=by
 unfold pcN
 rw [List.take_of_length_le (by rw [sds_length];exact Nat.le_refl _),pcsP_eq]
theorem pc_at {ps os : List Pt} {i q : Nat} (h : i < ps.length) (hq : q < (pcF os (Cal.sd ps i)).length) : (Cal.pcsP ps os)[pcN ps os i + q]? = (pcF os (Cal.sd ps i))[q]?:=by
 have hi : i < (Cal.sds ps).length:=by rw [sds_length];exact h
 have hg : (Cal.sds ps)[i] = Cal.sd ps i:=by have:=sds_get h;rw [List.getElem?_eq_getElem hi] at this;exact Option.some.inj this
 have hl : Cal.sds ps = (Cal.sds ps).take i ++ Cal.sd ps i :: (Cal.sds ps).drop (i + 1):=by
  rw [← hg,← List.drop_eq_getElem_cons hi,List.take_append_drop]
 rw [pcsP_eq]
 conv=>lhs;rw [hl]
 rw [List.flatMap_append,List.flatMap_cons]
 unfold pcN
 rw [List.getElem?_append_right (Nat.le_add_right _ _),Nat.add_sub_cancel_left,List.getElem?_append_left hq]
theorem pcsOf_length (s : Sd) : ∀ l : List Pt,(Cal.pcsOf s l).length = l.length - 1
 | []=>rfl
 | [_]=>rfl
 | x :: y :: r=>by
  rw [Cal.pcsOf,List.length_cons,pcsOf_length s (y :: r)]
  simp
theorem pcsOf_at (s : Sd) : ∀ (l : List Pt) (q : Nat),q + 1 < l.length → (Cal.pcsOf s l)[q]? = some ⟨⟨(ptAt l q).x + (ptAt l (q + 1)).x,(ptAt l q).y + (ptAt l (q + 1)).y⟩,s⟩
 | [],_,h=>by simp at h
 | [_],_,h=>by simp at h
 | x :: y :: r,0,_=>rfl
 | x :: y :: r,q + 1,h=>by
  have:=pcsOf_at s (y :: r) q (by simp at h ⊢;omega)
  rw [Cal.pcsOf,List.getElem?_cons_succ,this]
  rfl
theorem elemPt : Elem Try.prog 35 40 2 16:=Elem.mk' Try.underlying35 (z:=.agg #[.int .i64 0,.int .i64 0]) (by kernel_rfl) rfl (by decide)
def PtsO (w : World) (B : Nat) (v : Value) (l : List Pt) : Prop:=OwnL w B 40 2 v (l.map ptR)
theorem ptR_wid (l : List Pt) : ∀ r ∈ l.map ptR,r.length = 2:=fun r hr=>by obtain ⟨s,_,rfl⟩:=List.mem_map.1 hr;rfl
theorem ptR_one (l : List Pt) : ∀ r ∈ l.map ptR,∀ u ∈ r,u.oneCell' = true:=fun r hr u hu=>by
 obtain ⟨s,_,rfl⟩:=List.mem_map.1 hr
 simp only [ptR,List.mem_cons,List.not_mem_nil,or_false] at hu
 rcases hu with rfl | rfl <;> rfl
theorem PtsO.two (w : World) (B : Nat) (p q : Pt) (hB : B ≤ w.heap.size) : PtsO (w.alloc (.cells #[.int .i64 p.x,.int .i64 p.y,.int .i64 q.x,.int .i64 q.y] 40)) B (.slice (some ⟨w.heap.size,0,none⟩) 2 2) [p,q] :=
 ⟨⟨rfl,.inr ⟨w.heap.size,2,_,rfl,hB,World.alloc_heap_new w _,Nat.le_refl _,by decide,rfl,rfl⟩⟩,ptR_wid _,ptR_one _⟩
theorem PtsO.atP {w : World} {B : Nat} {v : Value} {l : List Pt} (h : PtsO w B v l) (hl : 0 < l.length) : ∃ M c,v = .slice (some ⟨M,0,none⟩) l.length c ∧ AtP w M l ∧ l.length ≤ c ∧ B ≤ M:=by
 rcases h.own.2 with ⟨_,h0⟩ | ⟨g,cap,cur,hv,hb,hg,h1,h2,h3,h4⟩
 ·rw [List.length_map] at h0;omega
 ·rw [List.length_map] at hv h1 h4
  have hcell : ∀ (j : Nat) (u : Value),cur.toList[j]? = some u → w.cell? ⟨g,j,none⟩ = some u:=fun j u hu=>by
   unfold World.cell?
   rw [hg]
   simpa using hu
  have hfl : ∀ (k : Nat) (u : Value),(l.map ptR).flatten[k]? = some u → cur.toList[k]? = some u:=fun k u hu=>by
   rw [← h4,List.getElem?_take] at hu
   split at hu
   ·exact hu
   ·cases hu
  refine ⟨g,cap,hv,⟨cur.toList,⟨fun j v hj=>by rw [Nat.zero_add];exact hcell j v hj,fun j hj=>?_,(Array.getElem?_eq_some_iff.1 hg).1⟩,?_,fun i q hi=>?_⟩,h1,hb⟩
  ·unfold World.frozen?
   rw [hg]
   simp
  ·have hsz : cur.toList.length = cur.size:=Array.length_toList
   omega
  ·have hr : (l.map ptR)[i]? = some (ptR q):=by rw [List.getElem?_map];show Option.map ptR l[i]? = _;rw [show l[i]? = some q from hi];rfl
   exact ⟨hfl _ _ (flat_get (ptR_wid l) hr (j:=0) rfl),hfl _ _ (flat_get (ptR_wid l) hr (j:=1) rfl)⟩
def PcI (W : World) (n₀ Bp Bo l : Nat) (J : Nat → World → Prop) (ps os : List Pt) (i : Nat) (Y : World) : Prop :=
 J (pcN ps os i) Y ∧ BoxAt Y W.heap.size [.func (.yield l) #[] #[]] ∧ Below n₀ W Y ∧ Two Bp Bo W Y ∧ W.heap.size + 2 ≤ Y.heap.size
def PcX (Jx : Nat → World → Prop) (N : Nat) (c : Code) (_ : Nat) (Y : World) : Prop:=c = .ret ∧ ∃ j,j < N ∧ Jx j Y
theorem pcI_own {W : World} {n₀ Bp Bo l : Nat} {J : Nat → World → Prop} {ps os : List Pt} {B : Nat} (hJ : ∀ k X Y,J k X → AbM W.heap.size X Y → J k Y) (hB : W.heap.size ≤ B) (hn : n₀ ≤ W.heap.size) (hp : Bp < W.heap.size) (ho : Bo < W.heap.size) : OwnFrom B (PcI W n₀ Bp Bo l J ps os):=fun k X Y row hs hg hr=>by
 obtain ⟨h1,h2,h3,h4,h5⟩:=hs
 have hbl : ∀ b,b < W.heap.size → Y.heap[b]? = X.heap[b]?:=fun b hb=>World.grownBy.block hg b (by omega) (fun e=>by have:=(hr b e.symm).1;omega)
 refine ⟨hJ _ _ _ h1 ?_,h2.keptF hg (fun r e=>(hr r e).2),ownFrom_below (β:=Unit) hn (Nat.le_trans hn hB) () X Y row h3 hg hr,h4.trans ⟨hbl _ hp,hbl _ ho⟩,Nat.le_trans h5 hg.size⟩
 exact AbM.of ((Below.refl _ _).grown hg (by omega) (fun r e=>Nat.le_trans hB (hr r e).1))
theorem pcX_own {W : World} {Jx : Nat → World → Prop} {N B : Nat} (hJ : ∀ k X Y,Jx k X → AbM W.heap.size X Y → Jx k Y) (hB : W.heap.size ≤ B) (c : Code) : OwnFrom B (PcX Jx N c):=fun k X Y row hs hg hr=>by
 obtain ⟨h1,j,h2,h3⟩:=hs
 exact ⟨h1,j,h2,hJ _ _ _ h3 ((Below.refl _ _).grown hg (Nat.min_le_right _ _) (fun r e=>Nat.le_trans (Nat.min_le_left _ _) (Nat.le_trans hB (hr r e).1)))⟩
end Go.Proofs.Ythfokpchdlcidaa
namespace Go.Proofs.Ythfokpchdlcidaa
open Go Go.RowKit Go.Shelf
attribute [local go_sem] Oper.semAt_some
theorem pieces_any (Vp Vo : Option Addr) (np dp no do_ : Nat) (w : World) :
  Calls Try.prog 110 #[.slice Vp np dp,.slice Vo no do_] w fun e w'=>e = .returned (.func (.func 125) #[] #[.pointer (some ⟨w.heap.size,0,none⟩),.pointer (some ⟨w.heap.size + 1,0,none⟩)]) ∧ w' = (w.alloc (.cells #[.slice Vp np dp] 35)).alloc (.cells #[.slice Vo no do_] 35):=by
 go_enter Try.func110,Try.ntmps110
 go_wp2
 go_ret
 exact ⟨rfl,rfl⟩
theorem rowsAt_belowN {n₀ : Nat} {w w' : World} {V : Option Addr} {l : List Pt} (h : RowsAt w V 2 (l.map ptR)) (hV : ∀ ad,V = some ad → 0 < l.length → ad.block < n₀) (hb : Below n₀ w w') : RowsAt w' V 2 (l.map ptR):=fun j r hr=>by
 obtain ⟨b,o,hA,hlt,hc⟩:=h j r hr
 have hj : j < l.length:=by have:=(List.getElem?_eq_some_iff.1 hr).1;rwa [List.length_map] at this
 have hbn:=hV _ hA (by omega)
 exact ⟨b,o,hA,Nat.lt_of_lt_of_le hlt hb.size,fun i v hv=>(hb.cell (p:=⟨b,o + (j * 2 + i),none⟩) hbn).trans (hc i v hv)⟩
theorem pieces_ix (Bp Bo n₀ : Nat) (Vp Vo : Option Addr) (dp do_ : Nat) (ps os : List Pt) (w : World) (hBp : w.cell? ⟨Bp,0,none⟩ = some (.slice Vp ps.length dp)) (hBo : w.cell? ⟨Bo,0,none⟩ = some (.slice Vo os.length do_))
  (hBpw : Bp < w.heap.size) (hBow : Bo < w.heap.size) (hP : PtsV w Vp ps) (hO : PtsV w Vo os) (hVp : ∀ ad,Vp = some ad → 0 < ps.length → ad.block < n₀) (hVo : ∀ ad,Vo = some ad → 0 < os.length → ad.block < n₀) (hn0 : n₀ ≤ w.heap.size)
  (hos : os.length ≤ 10) (hnd : ∀ i,i < ps.length → (Cal.sd ps i).a ≠ (Cal.sd ps i).b) :
  SeqIx Fence.wide 8 Try.prog 125 #[.pointer (some ⟨Bp,0,none⟩),.pointer (some ⟨Bo,0,none⟩)] pcE AbM (KpP n₀ Bp Bo) (Cal.pcsP ps os) w:=by
 intro l J Jx W hW hJ hJx hY h0
 show CallsIn Fence.wide 8 Try.prog 125 _ W (IxPost (Cal.pcsP ps os).length J Jx)
 have hWz:=hW.size
 have hBpW : Bp < W.heap.size:=by omega
 have hBoW : Bo < W.heap.size:=by omega
 have hneB : ¬ Bp = W.heap.size:=by omega
 have p0:=(hW.cell (p:=⟨Bp,0,none⟩) hBpw).trans hBp
 have hJx:=Lib.hid hJx
 have hJz:=Lib.hid hJ
 have hYz:=Lib.hid hY
 clear hY hJ
 refine callsIn_of_wp_marks Try.func125 rfl trivial ?_ rfl
 simp only [Try.ntmps125,List.size_toArray,List.length_cons,List.length_nil,Nat.reduceAdd,Nat.reduceSub,Array.replicate_succ,Array.replicate_zero,List.push_toArray,List.append_toArray,List.nil_append,List.cons_append]
 gi_wp2_with (refine ⟨trivial,?_⟩;gi_at_call 79;refine (callsIn_wide.2 (sides_any _ _ _ _)).mono ?_;rintro e w' ⟨rfl,rfl⟩)
 have bY:=(BoxAt.new W #[.func (.yield l) #[] #[]] 166).alloc (.cells #[.slice Vp ps.length dp] 35)
 have bS:=BoxAt.new (W.alloc (.cells #[.func (.yield l) #[] #[]] 166)) #[.slice Vp ps.length dp] 35
 have hB0 : Below W.heap.size W ((W.alloc (.cells #[.func (.yield l) #[] #[]] 166)).alloc (.cells #[.slice Vp ps.length dp] 35)):=below_step (below_alloc _ _) (below_alloc _ _)
 have hs0 : (((W.alloc (.cells #[.func (.yield l) #[] #[]] 166)).alloc (.cells #[.slice Vp ps.length dp] 35))).heap.size = W.heap.size + 2:=by simp
 simp only [World.size_alloc] at bS
 obtain ⟨W0,hW0⟩ : ∃ W0,((W.alloc (.cells #[.func (.yield l) #[] #[]] 166)).alloc (.cells #[.slice Vp ps.length dp] 35)) = W0:=⟨_,rfl⟩
 rw [hW0] at bY bS hB0 hs0 ⊢
 clear hW0
 have hPW:=hP.below hW
 have hOW:=hO.below hW
 have hb0 : Below n₀ W W0:=hB0.mono (by omega)
 refine wpIn_sides1 (Bs:=W.heap.size + 1) (n₀:=n₀) (V:=Vp) (d:=dp) (ps:=ps) (by omega) rfl rfl (bS.c 0 _ rfl) (by omega) (hPW.pts.below hB0) (by omega) hVp
  (PcI W n₀ Bp Bo l J ps os) (PcX Jx (Cal.pcsP ps os).length) (pcI_own hJz.out (by omega) (by omega) hBpW hBoW) (pcX_own hJx.out (by omega))
  ⟨hJz.out _ _ _ h0 (AbM.of hB0),bY,hb0,⟨hB0.block _ hBpW,hB0.block _ hBoW⟩,by omega⟩
  (fun T k t By=>((T.setIfInBounds 12 (.int .i64 (k : Int))).setIfInBounds 13 (.agg #[.int .i64 t.a.x,.int .i64 t.a.y,.int .i64 t.b.x,.int .i64 t.b.y])).setIfInBounds 5 (.pointer (some ⟨By,0,none⟩)))
  ?assign ?body ?done ?stop
 case assign =>
  rintro l2 k Y K hk hI hK
  gi_wp2
  obtain ⟨h1,h2,h3,h4,h5⟩:=hI
  have hba:=below_alloc Y (.cells #[.int .i64 (Cal.sd ps k).a.x,.int .i64 (Cal.sd ps k).a.y,.int .i64 (Cal.sd ps k).b.x,.int .i64 (Cal.sd ps k).b.y] 126)
  exact hK Y.heap.size _ (by omega) ((KeepsOthers.alloc _ _).from _) (KpS.below hba (by omega) (by omega)) ⟨hJz.out _ _ _ h1 (AbM.of (hba.mono (by omega))),h2.below hba,h3.trans (hba.mono (by omega)),h4.trans ⟨hba.block _ (by omega),hba.block _ (by omega)⟩,by simp;omega⟩ (BoxAt.new Y #[.int .i64 (Cal.sd ps k).a.x,.int .i64 (Cal.sd ps k).a.y,.int .i64 (Cal.sd ps k).b.x,.int .i64 (Cal.sd ps k).b.y] _)
 case body =>
  rintro l2 k Bx Y hl2 ⟨r,hr⟩ hk hI hBx bX
  simp only [List.setIfInBounds_toArray,List.set_cons_zero,List.set_cons_succ]
  have hsd:=hPW.pts.sd k hk
  have hndk:=hnd k hk
  have hpn:=pcN_succ (os:=os) hk
  have hpa:=Lib.hid (fun q hq=>pc_at (ps:=ps) (os:=os) (q:=q) hk hq)
  have e0:=bX.c 0 _ rfl
  have e1:=bX.c 1 _ rfl
  have e2:=bX.c 2 _ rfl
  have e3:=bX.c 3 _ rfl
  obtain ⟨s,hs⟩ : ∃ s,Cal.sd ps k = s:=⟨_,rfl⟩
  rw [hs] at e0 e1 e2 e3 hsd hndk bX hpn hpa ⊢
  clear hs
  have hIz:=Lib.hid hI
  have bXz:=Lib.hid bX
  have hpn:=Lib.hid hpn
  have hz5:=hI.2.2.2.2
  have o0 : Y.cell? ⟨Bo,0,none⟩ = some (.slice Vo os.length do_):=(hI.2.2.2.1.other).trans ((hW.cell (p:=⟨Bo,0,none⟩) hBow).trans hBo)
  have hneO : ¬ Bo = Y.heap.size:=by omega
  have hBoY : Bo < Y.heap.size:=by omega
  have hOY:=Lib.hid (fun (Z : World) (h : Below Y.heap.size Y Z)=>((rowsAt_belowN (hO.below hW).rows hVo hI.2.2.1).below h))
  have hO0:=Lib.hid (PtsO.two Y Y.heap.size s.a s.b (Nat.le_refl _))
  have hb9 : Hid (Below Y.heap.size Y (Y.alloc (.cells #[.int .i64 s.a.x,.int .i64 s.a.y,.int .i64 s.b.x,.int .i64 s.b.y] 40))):=below_alloc _ _
  clear hI bX
  gi_wp2
  obtain ⟨Y1,hY1⟩ : ∃ Y1,Y.alloc (.cells #[.int .i64 s.a.x,.int .i64 s.a.y,.int .i64 s.b.x,.int .i64 s.b.y] 40) = Y1:=⟨_,rfl⟩
  rw [hY1] at hO0 hb9 ⊢
  clear hY1
  gi_loopw [21,6] (fun i v wr=>∃ k : Nat,k ≤ os.length ∧ i = .int .i64 k ∧ Hid (PtsO wr Y.heap.size v (s.a :: s.b :: (os.take k).filter (Cal.hasP s))) ∧ Hid (Below Y.heap.size Y wr)) (fun i _ _=>os.length - (intOf i).toNat)
  case atStart=>exact ⟨0,Nat.zero_le _,rfl,hO0,hb9⟩
  case round =>
   clear hO0 hb9
   obtain ⟨j,hj,rfl,hA,hB⟩:=hrel
   by_cases hlt : j < os.length
   ·have hk' : os[j]? = some os[j]:=List.getElem?_eq_getElem hlt
    have hsm:=(hO.sm _ (List.getElem_mem hlt)).sm
    have htk : os.take (j + 1) = os.take j ++ [os[j]]:=List.take_succ_eq_append_getElem hlt
    have hfl : ((os.take j).filter (Cal.hasP s)).length ≤ 10:=by
     have h1:=List.length_filter_le (Cal.hasP s) (os.take j)
     rw [List.length_take] at h1
     omega
    obtain ⟨b,o,hVo2,hbl,c0,c1⟩:=pts_at (hOY.out wr hB.out) hk'
    subst hVo2
    clear hk'
    generalize os[j] = q at *
    obtain ⟨ht,hht0⟩ : ∃ t,Cal.hasP s q = t:=⟨_,rfl⟩
    have hba : Below wr.heap.size wr (wr.alloc (.cells #[.int .i64 q.x,.int .i64 q.y] 40)):=below_alloc _ _
    have hQ1:=Lib.hid (BoxAt.new wr #[.int .i64 q.x,.int .i64 q.y] 40)
    have hX1:=Lib.hid ((bXz.out.below hB.out).below hba)
    have hA1:=Lib.hid (OwnL.below hA.out hba)
    have hB1:=Lib.hid (below_step hB.out hba)
    have x0:=((bXz.out.below hB.out).below hba).c 0 _ rfl
    have x1:=((bXz.out.below hB.out).below hba).c 1 _ rfl
    have x2:=((bXz.out.below hB.out).below hba).c 2 _ rfl
    have x3:=((bXz.out.below hB.out).below hba).c 3 _ rfl
    have z0:=(bXz.out.below hB.out).c 0 _ rfl
    have z1:=(bXz.out.below hB.out).c 1 _ rfl
    have z2:=(bXz.out.below hB.out).c 2 _ rfl
    have z3:=(bXz.out.below hB.out).c 3 _ rfl
    have hBxr : Bx < wr.heap.size:=(bXz.out.below hB.out).lt
    have hht:=Lib.hid hht0
    clear hht0 hA hB hba
    cases ht
    ·have hft : Hid ((os.take (j + 1)).filter (Cal.hasP s) = (os.take j).filter (Cal.hasP s)):=by show _ = _;rw [htk,List.filter_append];simp [hht.out]
     clear htk
     gi_wp2_with (refine ⟨trivial,?_⟩;gi_at_call 80;refine (callsIn_wide.2 (has_any s q _ hsd hsm)).mono ?_;rintro e wn ⟨rfl,hbn⟩;rw [hht.out];have hA2:=Lib.hid (OwnL.below hA1.out hbn);have hB2:=Lib.hid (below_step hB1.out hbn);clear hbn)
     go_roundw
     case rel=>exact ⟨j + 1,by omega,by go_num,by rw [hft.out];exact hA2.out,hB2.out⟩
     case measure=>simp [intOf];omega
    ·have hft : Hid ((s.a :: s.b :: (os.take (j + 1)).filter (Cal.hasP s)).map ptR = (s.a :: s.b :: (os.take j).filter (Cal.hasP s)).map ptR ++ [q].map ptR):=by show _ = _;rw [htk,List.filter_append];simp [hht.out]
     clear htk
     gi_wp2_with (first
      |(refine ⟨trivial,?_⟩;gi_at_call 80;refine (callsIn_wide.2 (has_any s q _ hsd hsm)).mono ?_;rintro e wn ⟨rfl,hbn⟩;rw [hht.out];have hA2:=Lib.hid (OwnL.below hA1.out hbn);have hB2:=Lib.hid (below_step hB1.out hbn);have hQ2:=Lib.hid (hQ1.out.below hbn);clear hbn x0 x1 x2 x3;have g0:=hQ2.out.c 0 _ rfl;have g1:=hQ2.out.c 1 _ rfl;have hA3:=Lib.hid (OwnL.below hA2.out (below_alloc wn (.cells #[.int .i64 q.x,.int .i64 q.y] 40)));have hB3:=Lib.hid (below_step hB2.out (below_alloc wn (.cells #[.int .i64 q.x,.int .i64 q.y] 40)));have hsrc:=Lib.hid (rowsAt_new wn (ptR q) 40);have hYn:=hB3.out.size)
      |(gi_at_builtin;refine wpListF_append_rows elemPt rfl _ _ rfl rfl rfl hA3.out (rows2:=[q].map ptR) hsrc.out rfl (ptR_wid [q]) (ptR_one [q]) (by simp only [List.length_map,List.length_cons,List.length_nil];omega) (by decide) hYn ?_;intro v' w5 hown5 hg5 _;have hA5:=Lib.hid hown5;have hB5:=Lib.hid (hB3.out.trans (grown_below hg5 (fun g e=>(OwnL.lt hA3.out g e).1) hYn));clear hown5 hg5))
     go_roundw
     case rel=>exact ⟨j + 1,by omega,by go_num,by show OwnL _ _ _ _ _ _;rw [hft.out];exact hA5.out,hB5.out⟩
     case measure=>simp [intOf];omega
   ·obtain rfl : j = os.length:=by omega
    rw [List.take_length] at hA
    obtain ⟨L,hL⟩ : ∃ L,L = s.a :: s.b :: os.filter (Cal.hasP s):=⟨_,rfl⟩
    have hL2 : 2 ≤ L.length:=by rw [hL];simp
    have hL12 : L.length ≤ 12:=by
     have h1:=List.length_filter_le (Cal.hasP s) os
     rw [hL];simp only [List.length_cons];omega
    have hsmL : ∀ p ∈ L,SmP p:=fun p hp=>by
     rw [hL] at hp
     rcases List.mem_cons.1 hp with e | hp
     ·rw [e];exact hsd.a
     ·rcases List.mem_cons.1 hp with e | hp
      ·rw [e];exact hsd.b
      ·exact (hO.sm p (List.mem_filter.1 hp).1).sm
    rw [← hL] at hA
    obtain ⟨M,c,rfl,hAt,hcap,hM⟩:=PtsO.atP hA.out (by omega)
    have hkpL:=Lib.hid (fun l' (h : l'.Perm L) (h2 : SrtTo s l' l'.length)=>kp_atP (other:=os) hndk (by rw [← hL];exact h) h2)
    have hRlt : Hid (∀ p ∈ Cal.atP s os,SmP p):=fun p hp=>by
     have hm : p ∈ s.a :: s.b :: os.filter (Cal.hasP s):=by
      have:=(fold_insP hndk (s.a :: s.b :: os.filter (Cal.hasP s)) [] (fun p hp=>by
       rcases List.mem_cons.1 hp with e | hp
       ·rw [e];exact Cal.crs_a s
       ·rcases List.mem_cons.1 hp with e | hp
        ·rw [e];exact Cal.crs_b s
        ·exact Cal.hasP_crs (List.mem_filter.1 hp).2) (fun p hp=>by cases hp) List.Pairwise.nil).2 p
      rcases this.1 hp with h | h
      ·cases h
      ·exact h
     rw [← hL] at hm
     exact hsmL p hm
    clear hL
    obtain ⟨n6,hn6⟩ : ∃ n6,n6 = L.length:=⟨_,rfl⟩
    have hAt:=Lib.hid hAt
    have hn6z:=Lib.hid hn6
    have hsrt:=Lib.hid (fun W (h : AtP W M L)=>SortFunc_small s M c L W h hsd hsmL hL12)
    rw [← hn6] at hsrt hL2 hL12 hcap ⊢
    clear hA hn6
    have z0:=(bXz.out.below hB.out).c 0 _ rfl
    have z1:=(bXz.out.below hB.out).c 1 _ rfl
    have z2:=(bXz.out.below hB.out).c 2 _ rfl
    have z3:=(bXz.out.below hB.out).c 3 _ rfl
    have hBxr : Bx < wr.heap.size:=(bXz.out.below hB.out).lt
    gi_wp2
    refine ⟨trivial,?_⟩
    refine (callsIn_wide.2 (hsrt.out _ hAt.out)).mono ?_
    rintro e w7 ⟨rfl,l',h1,h2,h3,h4⟩
    have hl' : l'.length = n6:=by rw [h2.length_eq,hn6z.out]
    have hcp:=Compact_any M c l' w7 h1 (by omega) (by omega) (by omega)
    have hkp:=hkpL.out l' h2 h3
    rw [hl'] at hcp hkp
    rw [hkp] at hcp
    have hcp:=Lib.hid hcp
    have hRl : (Cal.atP s os).length ≤ 12:=by rw [← hkp];exact Nat.le_trans (kp_length l' n6) hL12
    have hB7:=Lib.hid (hB.out.grown h4 (by have:=hB.out.size;omega) (fun k e=>by cases e;exact hM))
    clear h1 h2 h3 h4 hl' hkp z0 z1 z2 z3
    gi_wp2
    refine ⟨trivial,?_⟩
    refine (callsIn_wide.2 hcp.out).mono ?_
    rintro e w8 ⟨rfl,h1,h2⟩
    have hA8:=Lib.hid h1
    have hB8:=Lib.hid (hB7.out.grown h2 (by have:=hB7.out.size;omega) (fun k e=>by cases e;exact hM))
    clear h1 h2 hcp hsrt
    gi_wp2
    have hJ8 : Hid (J (pcN ps os k + (1 - 1)) w8):=hJz.out _ _ _ hIz.out.1 (AbM.of (hB8.out.mono (by omega)))
    have hK8 : Hid (KpP n₀ Bp Bo W.heap.size w8 w8):=KpP.refl _ _ _ _ _
    have hb8z:=hB8.out.size
    have hY8:=Lib.hid (hIz.out.2.1.below (hB8.out))
    have hX8:=Lib.hid (bXz.out.below (hB8.out))
    obtain ⟨R,hR⟩ : ∃ R,Cal.atP s os = R:=⟨_,rfl⟩
    have hpcF : Hid (pcF os s = Cal.pcsOf s R):=by show _ = _;unfold pcF;rw [hR]
    rw [hR] at hRl hRlt hA8 ⊢
    clear hR
    have hAlt:=hA8.out.lt
    gi_loopw [9] (fun i Z=>∃ j : Nat,1 ≤ j ∧ j ≤ max 1 R.length ∧ i = .int .i64 j ∧ Hid (J (pcN ps os k + (j - 1)) Z) ∧ Hid (KpP n₀ Bp Bo W.heap.size w8 Z)) (fun i _=>R.length - (intOf i).toNat)
    case atStart=>exact ⟨1,Nat.le_refl _,by omega,rfl,hJ8,hK8⟩
    case round =>
     clear hJ8 hK8
     obtain ⟨j,hj1,hj2,rfl,hJj,hK⟩:=hrel
     by_cases hlt : j < R.length
     ·have hAj:=Lib.hid (hA8.out.ofBlock (hK.out.2.1.same M (by omega) hAlt) hK.out.2.1.size)
      have hYj:=Lib.hid (hY8.out.ofBlock (hK.out.2.1.same _ (by omega) hY8.out.lt) hK.out.2.1.size)
      have hXj:=Lib.hid (hX8.out.ofBlock (hK.out.2.1.same _ (by omega) hX8.out.lt) hK.out.2.1.size)
      obtain ⟨a0,a1⟩:=hAj.out.at_ (show j - 1 < R.length by omega)
      obtain ⟨b0,b1⟩:=hAj.out.at_ hlt
      have y0:=hYj.out.c 0 _ rfl
      have z0:=hXj.out.c 0 _ rfl
      have z1:=hXj.out.c 1 _ rfl
      have z2:=hXj.out.c 2 _ rfl
      have z3:=hXj.out.c 3 _ rfl
      have hsp:=sm_at hRlt.out (show j - 1 < R.length by omega)
      have hsq:=sm_at hRlt.out hlt
      have hw1 : IntKind.i64.wrap ((j : Int) - 1) = (j : Int) - 1:=wrap_small (by omega) (by omega)
      have ht1 : ((j : Int) - 1).toNat = j - 1:=by omega
      have ht2 : (1 : Int) ≤ (j : Int):=by omega
      have ht3 : (j : Int) - 1 < (R.length : Int):=by omega
      have ht4 : (0 : Int) ≤ (j : Int) - 1:=by omega
      have ht5 : (j : Int) < (R.length : Int):=by omega
      have ht7 : j - 1 < R.length:=by omega
      have hpc : Hid ((Cal.pcsP ps os)[pcN ps os k + (j - 1)]? = some ⟨⟨(ptAt R (j - 1)).x + (ptAt R j).x,(ptAt R (j - 1)).y + (ptAt R j).y⟩,s⟩):=by
       show _ = _
       have h1 : j - 1 < (pcF os s).length:=by rw [hpcF.out,pcsOf_length];omega
       rw [hpa.out _ h1,hpcF.out]
       have h2:=pcsOf_at s R (j - 1) (by omega)
       rw [show j - 1 + 1 = j by omega] at h2
       exact h2
      generalize ptAt R (j - 1) = p at *
      generalize ptAt R j = q at *
      have hx:=hsp.x0;have hx1:=hsp.x1;have hx2:=hsp.y0;have hx3:=hsp.y1
      have hy:=hsq.x0;have hy1:=hsq.x1;have hy2:=hsq.y0;have hy3:=hsq.y1
      have hw2 : IntKind.i64.wrap (p.x + q.x) = p.x + q.x:=wrap_small (by omega) (by omega)
      have hw3 : IntKind.i64.wrap (p.y + q.y) = p.y + q.y:=wrap_small (by omega) (by omega)
      gi_wp2
      refine wpIn_region_heldY (S:=Sx wr [(W.heap.size,0,.func (.yield l) #[] #[]),(M,(j - 1) * 2,.int .i64 p.x),(M,(j - 1) * 2 + 1,.int .i64 p.y),(M,j * 2,.int .i64 q.x),(M,j * 2 + 1,.int .i64 q.y),(Bx,0,.int .i64 s.a.x),(Bx,1,.int .i64 s.a.y),(Bx,2,.int .i64 s.b.x),(Bx,3,.int .i64 s.b.y)]) 32 (by kernel_rfl) (Sx.mk (by simp only [cs_iff_cons];exact ⟨y0,a0,a1,b0,b1,z0,z1,z2,z3,cs_nil _⟩) (Below.refl _ _)).drew (fun hHeld=>?_)
      refine tkYx 0 45 ?_
      refine tkYx 1 46 ?_
      refine tkYx 2 47 ?_
      refine tkYx 3 48 ?_
      refine tkYx 4 49 ?_
      refine tkYx 5 50 ?_
      refine tkYx 6 51 ?_
      refine tkYx 7 52 ?_
      refine tkYx 8 53 ?_
      refine tkYx 9 54 ?_
      refine tkYx 10 55 ?_
      refine tkYx 11 56 ?_
      refine tkYx 12 57 ?_
      refine tkYx 13 58 ?_
      refine tkYx 14 59 ?_
      refine tkYx 15 60 ?_
      refine tkYx 16 61 ?_
      refine tkYx 17 62 ?_
      refine tkYx 18 63 ?_
      refine tkYx 19 64 ?_
      refine tkYx 20 65 ?_
      refine tkYx 21 66 ?_
      refine tkYx 22 67 ?_
      refine tkYx 23 68 ?_
      refine tkYx 24 69 ?_
      refine tkYx 25 70 ?_
      refine tkYx 26 71 ?_
      refine tkYx 27 72 ?_
      refine tkYx 28 73 ?_
      refine tkYx 29 74 ?_
      (refine ratY 30 (fun _=>trivial) (by decide +kernel) rfl (fun K hK=>?_);rw [if_pos (by kernel_rfl)];go_simp)
      refine ⟨trivial,?_⟩
      refine (callsIn_wide.2 (to_any s.a s.b _ hsd.a hsd.b)).mono ?_
      rintro e wn ⟨rfl,hbn⟩
      go_simp
      (refine hK.out _ _ (hHeld.step hbn) (fun hHeld=>?_);clear hK K;(try simp only [apS,apN,siA,scZ,scS]))
      refine tkYx 31 76 ?_
      refine ratYc 32 (fun _=>trivial) (by decide +kernel) rfl (by decide +kernel) (fun K hK'=>?_)
      rw [if_pos (by kernel_rfl)]
      have hbz:=Lib.hid hHeld.bel
      have hy1:=yield_wide (m':=5) (l0:=l2) (hYz.out _ _ wn hpc.out (hJz.out _ _ _ hJj.out (AbM.of (hHeld.bel.mono (by have:=hK.out.2.1.size;omega)))))
      obtain ⟨fn,tmps,assign,body,hy,hR⟩:=hy1
      dsimp only [pcE] at hy
      go_simp
      refine hR.mono ?_
      clear hy hR
      rintro e w2 (⟨rfl,hJ2,hKp⟩ | ⟨rfl,hJx2,hKp⟩)
      ·dsimp only
       refine hK'.out _ _ ?_
       clear hK' K
       (try simp only [Act.put,List.setIfInBounds_toArray]);(try simp only [List.set_cons_zero,List.set_cons_succ])
       refine ratYc 33 (fun _=>trivial) (by decide +kernel) rfl (by decide +kernel) (fun K hK'=>?_)
       rw [if_pos (by kernel_rfl)]
       go_simp
       refine hK'.out _ _ ?_
       clear hK' K
       (try simp only [Act.put,List.setIfInBounds_toArray]);(try simp only [List.set_cons_zero,List.set_cons_succ])
       refine wpAnyInY_done (by decide +kernel) ?_ _
       have hJ2:=Lib.hid hJ2
       have hKn:=Lib.hid (hK.out.trans ((KpP.below hbz.out (by have:=hK.out.2.1.size;omega) (by have:=hK.out.2.1.size;omega) (by have:=hK.out.2.1.size;omega)).trans hKp))
       gi_wp2
       go_roundw
       case rel=>exact ⟨j + 1,by omega,by omega,by go_num,by show J _ _;have h:=hJ2.out;rw [show pcN ps os k + (j - 1) + 1 = pcN ps os k + (j + 1 - 1) by omega] at h;exact h,hKn.out⟩
       case measure=>simp [intOf];omega
      ·dsimp only
       refine hK'.out _ _ ?_
       clear hK' K
       (try simp only [Act.put,List.setIfInBounds_toArray]);(try simp only [List.set_cons_zero,List.set_cons_succ])
       refine ratYc 33 (fun _=>trivial) (by decide +kernel) rfl (by decide +kernel) (fun K hK'=>?_)
       rw [if_pos (by kernel_rfl)]
       go_simp
       refine hK'.out _ _ ?_
       clear hK' K
       (try simp only [Act.put,List.setIfInBounds_toArray]);(try simp only [List.set_cons_zero,List.set_cons_succ])
       refine wpAnyInY_done (by decide +kernel) ?_ _
       have hJx2:=Lib.hid hJx2
       have hKn:=Lib.hid (hK.out.trans ((KpP.below hbz.out (by have:=hK.out.2.1.size;omega) (by have:=hK.out.2.1.size;omega) (by have:=hK.out.2.1.size;omega)).trans hKp))
       gi_wp2
       obtain ⟨k1,k2,k3⟩:=hKn.out
       refine ⟨((keepsF_below hB8.out).from _).trans ⟨k2.size,fun i o hi hio _=>(k2.same i (by omega) (Array.getElem?_eq_some_iff.1 hio).1).trans hio⟩,⟨((hB8.out.mono (by omega)).trans k1),(k2.same _ (by omega) (by omega)).trans (hB8.out.block _ (by omega))⟩,rfl,_,(List.getElem?_eq_some_iff.1 hpc.out).1,hJx2.out⟩
     ·have hend : Hid (pcN ps os k + (j - 1) = pcN ps os (k + 1)):=by
       show _ = _
       rw [hpn.out,hpcF.out,pcsOf_length]
       omega
      gi_wp2
      obtain ⟨h1,h2,h3,h4,h5⟩:=hIz.out
      obtain ⟨k1,k2,k3⟩:=hK.out
      have hs2:=k2.size
      rw [hend.out] at hJj
      refine ⟨?_,⟨((hB8.out.mono (by omega)).trans k1),(k2.same _ (by omega) (by omega)).trans (hB8.out.block _ (by omega))⟩,hJj.out,hY8.out.ofBlock (k2.same _ (by omega) hY8.out.lt) k2.size,h3.trans ((hB8.out.mono (by omega)).trans k1),(h4.trans ⟨hB8.out.block _ (by omega),hB8.out.block _ (by omega)⟩).trans k3,by omega⟩
      exact ((keepsF_below hB8.out).from _).trans ⟨k2.size,fun i o hi hio _=>(k2.same i (by omega) (Array.getElem?_eq_some_iff.1 hio).1).trans hio⟩
 case done =>
  rintro D Y hD hI hK
  have hend:=Lib.hid (pcN_all ps os)
  have hall:=Lib.hid hI
  have hK:=Lib.hid hK
  clear hI
  gi_wp2
  refine ⟨by simp,.inl ⟨_,_,rfl,run_takeDeferred hK.out,?_⟩⟩
  obtain ⟨h1,h2,h3,h4,h5⟩:=hall.out
  rw [hend.out] at h1
  exact ⟨_,results_none rfl _ _ _,⟨_,rfl⟩,.inl (hJz.out _ _ _ h1 (AbM.of ((Below.refl _ _).grown (grownBy_putObj' Y D (.deferred none)) (by omega) (fun k e=>by cases e;omega))))⟩
 case stop =>
  rintro D c k Y hD hk ⟨rfl,j,hj,hx⟩ hK
  have hx:=Lib.hid hx
  have hK:=Lib.hid hK
  gi_wp2
  refine ⟨by simp,.inl ⟨_,_,rfl,run_takeDeferred hK.out,?_⟩⟩
  exact ⟨_,results_none rfl _ _ _,⟨_,rfl⟩,.inr ⟨j,hj,hJx.out _ _ _ hx.out ((Below.refl _ _).grown (grownBy_putObj' Y D (.deferred none)) (Nat.min_le_right _ _) (fun k e=>by cases e;exact Nat.le_trans (Nat.min_le_left _ _) (by omega)))⟩⟩
end Go.Proofs.Ythfokpchdlcidaa
namespace Go.Proofs.Ythfokpchdlcidaa
open Go Go.RowKit Go.Shelf
attribute [local go_sem] Oper.semAt_some
section
variable {g : Operand} {qs : Array Tmp} {assign body : Code} {Q : Exit → Act → World → Prop} {a : Act} {w : World} {Bp Bo n₀ : Nat} {Vp Vo : Option Addr} {dp do_ : Nat} {ps os : List Pt}
theorem wpIn_range_pieces (hg : a.eval g = .func (.func 125) #[] #[.pointer (some ⟨Bp,0,none⟩),.pointer (some ⟨Bo,0,none⟩)]) (hq : qs.size = 1)
  (hBp : w.cell? ⟨Bp,0,none⟩ = some (.slice Vp ps.length dp)) (hBo : w.cell? ⟨Bo,0,none⟩ = some (.slice Vo os.length do_)) (hBpw : Bp < w.heap.size) (hBow : Bo < w.heap.size)
  (hP : PtsV w Vp ps) (hO : PtsV w Vo os) (hVp : ∀ ad,Vp = some ad → 0 < ps.length → ad.block < n₀) (hVo : ∀ ad,Vo = some ad → 0 < os.length → ad.block < n₀) (hn0 : n₀ ≤ w.heap.size)
  (hos : os.length ≤ 10) (hnd : ∀ i,i < ps.length → (Cal.sd ps i).a ≠ (Cal.sd ps i).b)
  (I : Nat → World → Prop) (Ix : Code → Nat → World → Prop) (hI : OwnFrom w.heap.size I) (hIx : ∀ c,OwnFrom w.heap.size (Ix c))
  (hIA : ∀ k X Y,I k X → AbM (w.heap.size + 1 + 1) X Y → I k Y) (hIxA : ∀ c k X Y,Ix c k X → AbM (w.heap.size + 1 + 1) X Y → Ix c k Y) (h0 : I 0 w)
  (Af : Array Value → Cal.Pc → Nat → Array Value)
  (hassign : ∀ (l : Nat) (k : Nat) (x : Cal.Pc) (W : World) (K : Act → World → Prop),(Cal.pcsP ps os)[k]? = some x → I k W → (∀ By W',w.heap.size ≤ By → KeepsFrom w.heap.size W W' → KpP n₀ Bp Bo (w.heap.size + 1 + 1) W W' → I k W' → BoxAt W' By [.int .i64 x.mid.x,.int .i64 x.mid.y,.int .i64 (x.of.b.x - x.of.a.x),.int .i64 (x.of.b.y - x.of.a.y)] → K { tmps:=Af a.tmps x By,defers:=[] } W') →
   assign.wpIn (Fence.wide.inRound l) (9 - 1 - 1) Try.prog (Exit.then K (fun _ _ _=>False)) { tmps:=(qs.zip #[.agg #[.int .i64 x.mid.x,.int .i64 x.mid.y,.int .i64 (x.of.b.x - x.of.a.x),.int .i64 (x.of.b.y - x.of.a.y)]]).foldl (fun t (p,v)=>t.setIfInBounds p v) a.tmps,defers:=[] } W)
  (hbody : ∀ (l : Nat) (k : Nat) (x : Cal.Pc) (By : Nat) (W : World),w.heap.size ≤ l → (∃ r,W.heap[l]? = some (.loop r)) → (Cal.pcsP ps os)[k]? = some x → I k W → w.heap.size ≤ By → BoxAt W By [.int .i64 x.mid.x,.int .i64 x.mid.y,.int .i64 (x.of.b.x - x.of.a.x),.int .i64 (x.of.b.y - x.of.a.y)] → body.wpIn (Fence.wide.inRound l) (9 - 1 - 1) Try.prog (ixPost w.heap.size (KpP n₀ Bp Bo (w.heap.size + 1 + 1)) (I (k + 1)) (fun c=>Ix c k) W) { tmps:=Af a.tmps x By,defers:=[] } W)
  (hdone : ∀ (D : Nat) (W : World),w.heap.size ≤ D → I (Cal.pcsP ps os).length W → W.heap[D]? = some (.deferred (some [])) → Q .normal { a with defers:={ target:=.collected D,args:=#[] } :: a.defers } W)
  (hstop : ∀ (D : Nat) (c : Code) (k : Nat) (W : World),w.heap.size ≤ D → k < (Cal.pcsP ps os).length → Ix c k W → W.heap[D]? = some (.deferred (some [])) → c.wpIn Fence.wide 9 Try.prog Q { a with defers:={ target:=.collected D,args:=#[] } :: a.defers } W) :
  (Code.rangeFunc g qs assign body).wpIn Fence.wide 9 Try.prog Q a w :=
 wpIn_rangeFunc_ix rfl (by omega) hg trivial (enters_of Try.func125 (by kernel_rfl) rfl)
  (pieces_ix Bp Bo n₀ Vp Vo dp do_ ps os w hBp hBo hBpw hBow hP hO hVp hVo hn0 hos hnd) (fun X Y k o hab hk h _=>(hab.block k (by have:=(Array.getElem?_eq_some_iff.1 h).1;omega)).trans h) KpP.trans
  (fun W l o o' hl hl2 ho _ _=>⟨(Below.refl _ _).grown (grownBy_putObj' W l o') (by have:=(Array.getElem?_eq_some_iff.1 ho).1;omega) (fun k e=>by cases e;omega),⟨by simp,fun b h1 _=>World.putObj_heap_other (by omega)⟩,World.putObj_heap_other (by omega),World.putObj_heap_other (by omega)⟩)
  (Below.refl _ _) (fun x=>hq.symm ▸ rfl) I Ix hI hIx hIA hIxA h0
  (fun x a' W=>∃ By,w.heap.size ≤ By ∧ BoxAt W By [.int .i64 x.mid.x,.int .i64 x.mid.y,.int .i64 (x.of.b.x - x.of.a.x),.int .i64 (x.of.b.y - x.of.a.y)] ∧ a' = { tmps:=Af a.tmps x By,defers:=[] })
  (fun x a' _ X Y row hs hg hr=>by obtain ⟨By,e1,e2,e3⟩:=hs;exact ⟨By,e1,e2.keptF hg (fun r e=>(hr r e).2),e3⟩)
  (fun l k x W K hx hi hK=>hassign l k x W K hx hi (fun By W' h1 h2 h3 h4 h5=>hK _ _ h2 h3 h4 ⟨By,h1,h5,rfl⟩))
  (fun l k x a' W hl hr hx hi hax=>by obtain ⟨By,h1,h2,rfl⟩:=hax;exact hbody l k x By W hl hr hx hi h1 h2)
  hdone hstop
end
end Go.Proofs.Ythfokpchdlcidaa
