/- What the statements rest on: definitions and walks, part 16. -/
import Derived.Test.YthfokpchdlcidaaGreatJ15
set_option maxRecDepth 100000
set_option maxHeartbeats 16000000
set_option linter.unusedSimpArgs false
set_option linter.unusedVariables false
namespace Go.Proofs.YthfokpchdlcidaaGreat
namespace Geo
def CrossR (a b c d:RP):Prop:=((0<crs a b c∧crs a b d<0)∨(crs a b c<0∧0<crs a b d))∧((0<crs c d a∧crs c d b<0)∨(crs c d a<0∧0<crs c d b))
theorem CrossR.symm {a b c d:RP} (h:CrossR a b c d):CrossR c d a b:=⟨h.2,h.1⟩
theorem CrossR.meet {a b c d:RP} (h:CrossR a b c d):∃ l m:Rat,0<l∧l<1∧0<m∧m<1∧at' a b l=at' c d m:=by
 have hna:¬Apart a b c d:=by
  rcases h with ⟨h1 | h1,h2 | h2⟩
  ·intro ha
   have s:=crs_sum a b c d
   grind
  ·exact meet_of (by grind) (by grind) (by grind) (by grind) (by grind)
  ·intro ha
   refine meet_of (a:=b) (b:=a) (q:=c) (r:=d) (by grind) (by grind) ?_ ?_ (by grind) ha.rev
   ·rw[crs_rev];grind
   rw[crs_rev];grind
  intro ha
  have s:=crs_sum a b c d
  grind
 have:∃ l m:Rat,0≤l∧l≤1∧0≤m∧m≤1∧at' a b l=at' c d m:=Classical.byContradiction fun hn=>hna fun l m l0 l1 m0 m1 e=>hn ⟨l,m,l0,l1,m0,m1,e⟩
 obtain⟨l,m,l0,l1,m0,m1,e⟩:=this
 have c1:=crs_lin a b c d m
 rw[←e,crs_at] at c1
 have c2:=crs_lin c d a b l
 rw[e,crs_at] at c2
 unfold CrossR at h
 have lz:l≠0:=fun z=>by subst z;grind
 have lo:l≠1:=fun z=>by subst z;grind
 have mz:m≠0:=fun z=>by subst z;grind
 have mo:m≠1:=fun z=>by subst z;grind
 exact⟨l,m,by grind,by grind,by grind,by grind,e⟩
theorem CrossR.par {a b c d:RP} (h:CrossR a b c d):(b.x-a.x)*(d.y-c.y)-(b.y-a.y)*(d.x-c.x)≠0:=fun e=>by
 have:crs a b d-crs a b c=(b.x-a.x)*(d.y-c.y)-(b.y-a.y)*(d.x-c.x):=by unfold crs;grind
 rcases h.1 with h | h <;> grind
theorem at_inj {a b:RP} (h:a≠b) {l m:Rat} (e:at' a b l=at' a b m):l=m:=by
 unfold at' at e
 rw[RP.mk.injEq] at e
 have e1:(l-m)*(b.x-a.x)=0:=by grind
 have e2:(l-m)*(b.y-a.y)=0:=by grind
 rcases Rat.mul_eq_zero.1 e1 with h1 | h1
 ·grind
 rcases Rat.mul_eq_zero.1 e2 with h2 | h2
 ·grind
 refine absurd ?_ h
 cases a;cases b
 rw[RP.mk.injEq]
 constructor <;> grind
theorem par_ex {a b c d:RP} (hab:a≠b) (hcd:c≠d) (h1:crs a b c=0) (h2:crs a b d=0):∃ k:Rat,k≠0∧(∀ q,crs c d q=k*crs a b q)∧((0<(b.x-a.x)*(d.x-c.x)+(b.y-a.y)*(d.y-c.y))↔0<k):=by
 obtain⟨x,hx⟩:=line_param hab h1
 obtain⟨y,hy⟩:=line_param hab h2
 have hsq:0<(b.x-a.x)*(b.x-a.x)+(b.y-a.y)*(b.y-a.y):=by
  have s1:=sq0 (b.x-a.x)
  have s2:=sq0 (b.y-a.y)
  refine Rat.not_le.1 fun hz=>hab ?_
  have z1:(b.x-a.x)*(b.x-a.x)=0:=by grind
  have z2:(b.y-a.y)*(b.y-a.y)=0:=by grind
  have z1:b.x-a.x=0:=by rcases Rat.mul_eq_zero.1 z1 with z | z <;> exact z
  have z2:b.y-a.y=0:=by rcases Rat.mul_eq_zero.1 z2 with z | z <;> exact z
  cases a;cases b
  rw[RP.mk.injEq]
  constructor <;> grind
 refine⟨y-x,fun e=>hcd ?_,fun q=>?_,?_⟩
 ·rw[hx,hy];congr 1;grind
 ·rw[hx,hy];unfold crs at';dsimp only;grind
 have:(b.x-a.x)*(d.x-c.x)+(b.y-a.y)*(d.y-c.y)=(y-x)*((b.x-a.x)*(b.x-a.x)+(b.y-a.y)*(b.y-a.y)):=by rw[hx,hy];unfold at';dsimp only;grind
 rw[this]
 exact⟨fun h=>pos_of_mul hsq h,fun h=>mul_pp h hsq⟩
structure Parts (n:Nat) (A:Nat→RP) (m:Nat) (B:Nat→RP) (F:Nat→Rat→Rat→Prop):Prop where
 rng:∀ i u v,F i u v→i<n∧0≤u∧u<v∧v≤1
 clean:∀ i u v,F i u v→∀ k,k<m→∀ t,u<t→t<v→B k≠at' (A i) (A (i+1)) t
 cover:∀ i t,i<n→0<t→t<1→(∀ k,k<m→B k≠at' (A i) (A (i+1)) t)→∃ u v,F i u v∧u<t∧t<v
def NoCross (n:Nat) (A:Nat→RP) (m:Nat) (B:Nat→RP):Prop:=∀ i k,i<n→k<m→¬CrossR (A i) (A (i+1)) (B k) (B (k+1))
theorem NoCross.symm {n m:Nat} {A B:Nat→RP} (h:NoCross n A m B):NoCross m B n A:=fun i k hi hk hc=>h k i hk hi hc.symm
section
variable {n m : Nat} {A B : Nat → RP}
theorem part_dich (hA:Simple n A) (hB:Simple m B) (hno:NoCross n A m B) {i:Nat} (hi:i<n) {u v:Rat} (u0:0≤u) (v1:v≤1) (hcl:∀ k,k<m→∀ t,u<t→t<v→B k≠at' (A i) (A (i+1)) t) :
  (∃ k,k<m∧crs (A i) (A (i+1)) (B k)=0∧crs (A i) (A (i+1)) (B (k+1))=0∧∀ t,u<t→t<v→∃ r:Rat,0<r∧r<1∧at' (A i) (A (i+1)) t=at' (B k) (B (k+1)) r) ∨
  (∀ t,u<t→t<v→Off m B (at' (A i) (A (i+1)) t)):=by
 by_cases hex:∃ t,u<t∧t<v∧¬Off m B (at' (A i) (A (i+1)) t)
 ·refine .inl ?_
  obtain⟨t,t0,t1,hon⟩:=hex
  have:∃ k r,k<m∧(0:Rat)≤r∧r≤1∧at' (A i) (A (i+1)) t=at' (B k) (B (k+1)) r:=Classical.byContradiction fun hn=>hon fun k r hk r0 r1 e=>hn ⟨k,r,hk,r0,r1,e⟩
  obtain⟨k,r,hk,r0,r1,e⟩:=this
  have hm:=hB.three
  have cl1:∀ t,u<t→t<v→B (k+1)≠at' (A i) (A (i+1)) t:=fun t t0 t1=>by
   have:=hcl ((k+1) % m) (Nat.mod_lt _ (by omega)) t t0 t1
   rwa [hB.mod] at this
  have rz:r≠0:=fun z=>by
   subst z
   rw[at0] at e
   exact hcl k hk t t0 t1 e.symm
  have ro:r≠1:=fun z=>by
   subst z
   rw[at1] at e
   exact cl1 t t0 t1 e.symm
  have rp:0<r:=by grind
  have rl:r<1:=by grind
  have c1:=crs_lin (A i) (A (i+1)) (B k) (B (k+1)) r
  rw[←e,crs_at] at c1
  have c2:=crs_lin (B k) (B (k+1)) (A i) (A (i+1)) t
  rw[e,crs_at] at c2
  have hcol:crs (A i) (A (i+1)) (B k)=0∧crs (A i) (A (i+1)) (B (k+1))=0:=by
   have opp:∀ X Y x:Rat,0<x→x<1→0=(1-x)*X+x*Y→(X=0∧Y=0)∨(0<X∧Y<0)∨(X<0∧0<Y):=fun X Y x x0 x1 h=>by
    rcases Std.lt_trichotomy X 0 with g | g | g
    ·have:=mul_pp (a:=1-x) (b:=-X) (by grind) (by grind)
     exact .inr (.inr ⟨g,pos_of_mul x0 (by grind)⟩)
    ·subst g
     have:x*Y=0:=by grind
     rcases Rat.mul_eq_zero.1 this with z | z
     ·grind
     exact .inl ⟨rfl,z⟩
    have:=mul_pp (a:=1-x) (b:=X) (by grind) g
    have:=pos_of_mul (x:=-Y) x0 (by grind)
    exact .inr (.inl ⟨g,by grind⟩)
   rcases opp _ _ _ rp rl c1 with g | g
   ·exact g
   rcases opp _ _ _ (by grind) (by grind) c2 with g2 | g2
   ·have s:=crs_sum (A i) (A (i+1)) (B k) (B (k+1))
    grind
   exact absurd ⟨g,g2⟩ (hno i k hi hk)
  refine⟨k,hk,hcol.1,hcol.2,?_⟩
  obtain⟨x,hx⟩:=line_param (hA.ne i) hcol.1
  obtain⟨y,hy⟩:=line_param (hA.ne i) hcol.2
  rw[hx,hy,at_at] at e
  have ht:=at_inj (hA.ne i) e
  have gx:x≤u∨v≤x:=by
   rcases Rat.le_total (a:=x) (b:=u) with g | g
   ·exact .inl g
   rcases Rat.le_total (a:=v) (b:=x) with g2 | g2
   ·exact .inr g2
   by_cases z:x=u
   ·exact .inl (by grind)
   by_cases z2:x=v
   ·exact .inr (by grind)
   exact absurd hx (hcl k hk x (by grind) (by grind))
  have gy:y≤u∨v≤y:=by
   rcases Rat.le_total (a:=y) (b:=u) with g | g
   ·exact .inl g
   rcases Rat.le_total (a:=v) (b:=y) with g2 | g2
   ·exact .inr g2
   by_cases z:y=u
   ·exact .inl (by grind)
   by_cases z2:y=v
   ·exact .inr (by grind)
   exact absurd hy (cl1 y (by grind) (by grind))
  intro w w0 w1
  have p1:=fun (h:x≤u)=>mul_nn (a:=1-r) (b:=u-x) (by grind) (by grind)
  have p2:=fun (h:y≤u)=>mul_nn (a:=r) (b:=u-y) (by grind) (by grind)
  have p3:=fun (h:v≤x)=>mul_nn (a:=1-r) (b:=x-v) (by grind) (by grind)
  have p4:=fun (h:v≤y)=>mul_nn (a:=r) (b:=y-v) (by grind) (by grind)
  have part:∀ z:Rat,x+z*(y-x)=w→at' (A i) (A (i+1)) w=at' (B k) (B (k+1)) z:=fun z hz=>by
   rw[hx,hy,at_at,hz]
  rcases gx with gx | gx <;> rcases gy with gy | gy
  ·have:=p1 gx;have:=p2 gy;grind
  ·have e:=Rat.div_mul_cancel (a:=w-x) (b:=y-x) (by grind)
   refine⟨(w-x) / (y-x),?_,?_,part _ (by grind)⟩
   ·exact pos_of_mul (k:=y-x) (by grind) (by grind)
   have:=pos_of_mul (x:=1-(w-x) / (y-x)) (k:=y-x) (by grind) (by grind)
   grind
  ·have e:=Rat.div_mul_cancel (a:=x-w) (b:=x-y) (by grind)
   refine⟨(x-w) / (x-y),?_,?_,part _ (by grind)⟩
   ·exact pos_of_mul (k:=x-y) (by grind) (by grind)
   have:=pos_of_mul (x:=1-(x-w) / (x-y)) (k:=x-y) (by grind) (by grind)
   grind
  have:=p3 gx;have:=p4 gy;grind
 refine .inr fun t t0 t1=>Classical.byContradiction fun h=>hex ⟨t,t0,t1,h⟩
theorem part_wind (hB:Simple m B) {i:Nat} {u v:Rat} (hoff:∀ t,u<t→t<v→Off m B (at' (A i) (A (i+1)) t)) {s t:Rat} (s0:u<s) (s1:s<v) (t0:u<t) (t1:t<v) :
  wind m B (at' (A i) (A (i+1)) s)=wind m B (at' (A i) (A (i+1)) t):=by
 refine wind_move hB.close (Off.free fun x x0 x1=>?_)
 rw[at_at]
 refine hoff _ ?_ ?_
 ·have p1:=mul_nn (a:=1-x) (b:=s-u) (by grind) (by grind)
  have p2:=mul_nn (a:=x) (b:=t-u) x0 (by grind)
  rcases Rat.le_iff_lt_or_eq.1 x0 with hm | hm
  ·have:=mul_pp (a:=x) (b:=t-u) hm (by grind);grind
  rw[←hm];grind
 have p1:=mul_nn (a:=1-x) (b:=v-s) (by grind) (by grind)
 have p2:=mul_nn (a:=x) (b:=v-t) x0 (by grind)
 rcases Rat.le_iff_lt_or_eq.1 x0 with hm | hm
 ·have:=mul_pp (a:=x) (b:=v-t) hm (by grind);grind
 rw[←hm];grind
theorem cross_pts (hA:Pos n A) (hB:Pos m B) {i k:Nat} (hi:i<n) (hk:k<m) (hc:CrossR (A i) (A (i+1)) (B k) (B (k+1))):Over n A m B∧∃ q,In n A q∧Out m B q:=by
 obtain⟨l,r,l0,l1,r0,r1,e⟩:=hc.meet
 obtain⟨e1,e10,h1⟩:=hA.side_near hi l0 l1
 obtain⟨e2,e20,h2⟩:=hB.side_near hk r0 r1
 rw[←e] at h2
 obtain⟨g,g0,g1,g2⟩:∃ g:Rat,0<g∧g≤e1∧g≤e2:=by
  rcases Rat.le_total (a:=e1) (b:=e2) with h | h
  ·exact⟨e1,by grind,by grind,h⟩
  exact⟨e2,e20,h,by grind⟩
 have hx:=crs_at (A i) (A (i+1)) l
 have hy:=crs_at (B k) (B (k+1)) r
 rw[←e] at hy
 obtain⟨q,hq,q1,q2⟩:=two_left hc.par hx hy (z:=1) (y:=1) (.inl rfl) (.inl rfl) g0
 obtain⟨p,hp,p1,p2⟩:=two_left hc.par hx hy (z:=1) (y:=-1) (.inl rfl) (.inr rfl) g0
 exact⟨⟨q,(h1 q (hq.mono g1)).1 (by grind),(h2 q (hq.mono g2)).1 (by grind)⟩,⟨p,(h1 p (hp.mono g1)).1 (by grind),(h2 p (hp.mono g2)).2 (by grind)⟩⟩
theorem corner_not_in {k:Nat} (hk:k<n):¬In n A (A k):=fun h=>h.1 k 0 hk (by grind) (by grind) (by rw[at0])
theorem inner_near (a b:RP) {l:Rat} (l0:0≤l) (l1:l≤1) {e:Rat} (he:0<e):∃ t:Rat,0<t∧t<1∧Near e (at' a b l) (at' a b t):=by
 obtain⟨x,x0,xh,hx,_⟩:=near_parts (at' a b l) (at' a b l) (at' a b (1 / 2)) (at' a b (1 / 2)) he
 rw[at_at] at hx
 refine⟨_,?_,?_,hx⟩
 ·have:=mul_nn (a:=1-x) (b:=l) (by grind) l0;grind
 have:=mul_nn (a:=1-x) (b:=1-l) (by grind) (by grind);grind
theorem no_enter (hA:Simple n A) (hB:Simple m B) (hno:NoCross n A m B) {F:Nat→Rat→Rat→Prop} (hF:Parts m B n A F) (hmid:∀ k u v,F k u v→¬In n A (at' (B k) (B (k+1)) ((u+v) / 2))) :
  ∀ q,In n A q→Off m B q:=fun q hq k l hk l0 l1 e=>by
 obtain⟨g,g0,hg⟩:=hq.near hA
 obtain⟨t,t0,t1,ht⟩:=inner_near (B k) (B (k+1)) l0 l1 g0
 rw[←e] at ht
 have hin:=hg _ ht
 obtain⟨u,v,hf,hu,hv⟩:=hF.cover k t hk t0 t1 (fun j hj e=>corner_not_in (A:=A) hj (by rw[e];exact hin))
 obtain⟨_,u0,huv,v1⟩:=hF.rng k u v hf
 rcases part_dich hB hA hno.symm hk u0 v1 (hF.clean k u v hf) with ⟨j,hj,_,_,h⟩ | h
 ·obtain⟨r,r0,r1,er⟩:=h t hu hv
  exact hin.1 j r hj (by grind) (by grind) er
 refine hmid k u v hf ⟨h _ (by grind) (by grind),?_⟩
 rw[part_wind hA h (s:=(u+v) / 2) (t:=t) (by grind) (by grind) hu hv]
 exact hin.2
theorem inner_pt (hA:Simple n A) {i:Nat}:∃ t:Rat,0<t∧t<1∧∀ k,k<m→B k≠at' (A i) (A (i+1)) t:=by
 obtain⟨e,e0,he⟩:=small_all (n:=m) (p:=fun k t=>B k≠at' (A i) (A (i+1)) t) (fun k _=>by
  by_cases h:∃ t:Rat,0<t∧B k=at' (A i) (A (i+1)) t
  ·obtain⟨t0,h0,h1⟩:=h
   exact⟨t0,h0,fun t _ tl e=>by
    have:=at_inj (hA.ne i) (h1.symm.trans e)
    grind⟩
  exact⟨1,by grind,fun t t0 _ e=>h ⟨t,t0,e⟩⟩)
 rcases Rat.le_total (a:=e) (b:=1) with h | h
 ·exact⟨e*(1 / 2),by grind,by grind,he _ (by grind) (by grind)⟩
 exact⟨1 / 2,by grind,by grind,he _ (by grind) (by grind)⟩
def Enters (A:Nat→RP) (m:Nat) (B:Nat→RP) (F:Nat→Rat→Rat→Prop):Prop :=
 ∃ i u v,F i u v∧(In m B (at' (A i) (A (i+1)) ((u+v) / 2))∨∃ k r,k<m∧(0:Rat)≤r∧r≤1∧at' (A i) (A (i+1)) ((u+v) / 2)=at' (B k) (B (k+1)) r∧0<((A (i+1)).x-(A i).x)*((B (k+1)).x-(B k).x)+((A (i+1)).y-(A i).y)*((B (k+1)).y-(B k).y))
theorem Enters.over (hA:Pos n A) (hB:Pos m B) {F:Nat→Rat→Rat→Prop} (hF:Parts n A m B F) (hno:NoCross n A m B) (h:Enters A m B F):Over n A m B:=by
 obtain⟨i,u,v,hf,h⟩:=h
 obtain⟨hi,u0,huv,v1⟩:=hF.rng i u v hf
 obtain⟨e1,e10,h1⟩:=hA.side_near hi (t:=(u+v) / 2) (by grind) (by grind)
 rcases h with h | ⟨k,r,hk,r0,r1,er,hd⟩
 ·obtain⟨e2,e20,h2⟩:=h.near hB.sim
  obtain⟨g,g0,g1,g2⟩:∃ g:Rat,0<g∧g≤e1∧g≤e2:=by
   rcases Rat.le_total (a:=e1) (b:=e2) with h | h
   ·exact⟨e1,by grind,by grind,h⟩
   exact⟨e2,e20,h,by grind⟩
  obtain⟨q,hq,hc⟩:=left_pt (hA.sim.ne i) (crs_at _ _ ((u+v) / 2)) (.inl rfl) g0
  exact⟨q,(h1 q (hq.mono g1)).1 (by grind),h2 q (hq.mono g2)⟩
 have hcl:=hF.clean i u v hf
 have hm:=hB.sim.three
 have rz:r≠0:=fun z=>by
  subst z
  rw[at0] at er
  exact hcl k hk _ (by grind) (by grind) er.symm
 have ro:r≠1:=fun z=>by
  subst z
  rw[at1] at er
  have:=hcl ((k+1) % m) (Nat.mod_lt _ (by omega)) ((u+v) / 2) (by grind) (by grind)
  rw[hB.sim.mod] at this
  exact this er.symm
 rcases part_dich hA.sim hB.sim hno hi u0 v1 hcl with ⟨j,hj,c1,c2,h⟩ | h
 ·obtain⟨s,s0,s1,es⟩:=h ((u+v) / 2) (by grind) (by grind)
  have hjk:j=k:=Classical.byContradiction fun hne=>hB.sim.open_off hj hk hne s0 s1 r0 r1 (es.symm.trans er)
  subst hjk
  obtain⟨x,x0,hx,hxd⟩:=par_ex (hA.sim.ne i) (hB.sim.ne j) c1 c2
  have xp:=hxd.1 hd
  obtain⟨e2,e20,h2⟩:=hB.side_near hj s0 s1
  rw[←es] at h2
  obtain⟨g,g0,g1,g2⟩:∃ g:Rat,0<g∧g≤e1∧g≤e2:=by
   rcases Rat.le_total (a:=e1) (b:=e2) with h | h
   ·exact⟨e1,by grind,by grind,h⟩
   exact⟨e2,e20,h,by grind⟩
  obtain⟨q,hq,hc⟩:=left_pt (hA.sim.ne i) (crs_at _ _ ((u+v) / 2)) (.inl rfl) g0
  refine⟨q,(h1 q (hq.mono g1)).1 (by grind),(h2 q (hq.mono g2)).1 ?_⟩
  rw[hx]
  exact mul_pp xp (by grind)
 exact absurd er (h ((u+v) / 2) (by grind) (by grind) k r hk r0 r1)
theorem over_iff (hA:Pos n A) (hB:Pos m B) {F G:Nat→Rat→Rat→Prop} (hF:Parts n A m B F) (hG:Parts m B n A G) :
  Over n A m B↔(¬NoCross n A m B∨Enters A m B F∨Enters B n A G):=by
 constructor
 ·intro ho
  refine Classical.byContradiction fun hn=>?_
  have hno:NoCross n A m B:=Classical.byContradiction fun h=>hn (.inl h)
  have n1:¬Enters A m B F:=fun h=>hn (.inr (.inl h))
  have n2:¬Enters B n A G:=fun h=>hn (.inr (.inr h))
  have h1:=no_enter hA.sim hB.sim hno hG (fun k u v hf hin=>n2 ⟨k,u,v,hf,.inl hin⟩)
  have h2:=no_enter hB.sim hA.sim hno.symm hF (fun k u v hf hin=>n1 ⟨k,u,v,hf,.inl hin⟩)
  have same:=same_in hA hB h1 h2 ho
  have h3:=hA.sim.three
  have hi:0<n:=by omega
  obtain⟨t,t0,t1,ht⟩:=inner_pt (m:=m) (B:=B) hA.sim (i:=0)
  obtain⟨u,v,hf,hu,hv⟩:=hF.cover 0 t hi t0 t1 ht
  obtain⟨_,u0,huv,v1⟩:=hF.rng 0 u v hf
  obtain⟨e1,e10,g1⟩:=hA.side_near hi (t:=(u+v) / 2) (by grind) (by grind)
  rcases part_dich hA.sim hB.sim hno hi u0 v1 (hF.clean 0 u v hf) with ⟨j,hj,c1,c2,h⟩ | h
  ·obtain⟨s,s0,s1,es⟩:=h ((u+v) / 2) (by grind) (by grind)
   obtain⟨x,x0,hx,hxd⟩:=par_ex (hA.sim.ne 0) (hB.sim.ne j) c1 c2
   have xn:x<0:=by
    rcases Std.lt_trichotomy x 0 with g | g | g
    ·exact g
    ·exact absurd g x0
    exact absurd ⟨0,u,v,hf,.inr ⟨j,s,hj,by grind,by grind,es,hxd.2 g⟩⟩ n1
   obtain⟨e2,e20,g2⟩:=hB.side_near hj s0 s1
   rw[←es] at g2
   obtain⟨g,g0,k1,k2⟩:∃ g:Rat,0<g∧g≤e1∧g≤e2:=by
    rcases Rat.le_total (a:=e1) (b:=e2) with h | h
    ·exact⟨e1,by grind,by grind,h⟩
    exact⟨e2,e20,h,by grind⟩
   obtain⟨q,hq,hc⟩:=left_pt (hA.sim.ne 0) (crs_at _ _ ((u+v) / 2)) (.inl rfl) g0
   have q1:=(same q).1 ((g1 q (hq.mono k1)).1 (by grind))
   have q2:=(g2 q (hq.mono k2)).2 (by
    rw[hx]
    have:=mul_pp (a:=-x) (b:=crs (A 0) (A (0+1)) q) (by grind) (by grind)
    grind)
   exact q1.not_out q2
  have hof:=h ((u+v) / 2) (by grind) (by grind)
  obtain⟨e2,e20,g2⟩:=hB.sim.off_near hof
  obtain⟨g,g0,k1,k2⟩:∃ g:Rat,0<g∧g≤e1∧g≤e2:=by
   rcases Rat.le_total (a:=e1) (b:=e2) with h | h
   ·exact⟨e1,by grind,by grind,h⟩
   exact⟨e2,e20,h,by grind⟩
  obtain⟨q,hq,hc⟩:=left_pt (hA.sim.ne 0) (crs_at _ _ ((u+v) / 2)) (.inl rfl) g0
  obtain⟨p,hp,hd⟩:=left_pt (hA.sim.ne 0) (crs_at _ _ ((u+v) / 2)) (.inr rfl) g0
  have q1:=(same q).1 ((g1 q (hq.mono k1)).1 (by grind))
  have p1:=(g1 p (hp.mono k1)).2 (by grind)
  have q2:=g2 q (hq.mono k2)
  have p2:=g2 p (hp.mono k2)
  have p3:=(same p).2 ⟨p2.1,by rw[p2.2,←q2.2];exact q1.2⟩
  exact p3.not_out p1
 rintro (h | h | h)
 ·have:∃ i k,i<n∧k<m∧CrossR (A i) (A (i+1)) (B k) (B (k+1)):=Classical.byContradiction fun hn=>h fun i k hi hk hc=>hn ⟨i,k,hi,hk,hc⟩
  obtain⟨i,k,hi,hk,hc⟩:=this
  exact (cross_pts hA hB hi hk hc).1
 ·by_cases hno:NoCross n A m B
  ·exact h.over hA hB hF hno
  have:∃ i k,i<n∧k<m∧CrossR (A i) (A (i+1)) (B k) (B (k+1)):=Classical.byContradiction fun hn=>hno fun i k hi hk hc=>hn ⟨i,k,hi,hk,hc⟩
  obtain⟨i,k,hi,hk,hc⟩:=this
  exact (cross_pts hA hB hi hk hc).1
 by_cases hno:NoCross n A m B
 ·exact (h.over hB hA hG hno.symm).symm
 have:∃ i k,i<n∧k<m∧CrossR (A i) (A (i+1)) (B k) (B (k+1)):=Classical.byContradiction fun hn=>hno fun i k hi hk hc=>hn ⟨i,k,hi,hk,hc⟩
 obtain⟨i,k,hi,hk,hc⟩:=this
 exact (cross_pts hA hB hi hk hc).1
def Within (n:Nat) (A:Nat→RP) (m:Nat) (B:Nat→RP):Prop:=∀ q,In n A q→In m B q
theorem Within.nocross (hA:Pos n A) (hB:Pos m B) (h:Within n A m B):NoCross n A m B:=fun i k hi hk hc=>by
 obtain⟨q,h1,h2⟩:=(cross_pts hA hB hi hk hc).2
 exact (h q h1).not_out h2
theorem within_iff (hA:Pos n A) (hB:Pos m B) {F G:Nat→Rat→Rat→Prop} (hF:Parts n A m B F) (hG:Parts m B n A G) :
  Within n A m B↔NoCross n A m B∧(∀ i u v,F i u v→¬Out m B (at' (A i) (A (i+1)) ((u+v) / 2)))∧(∀ k u v,G k u v→¬In n A (at' (B k) (B (k+1)) ((u+v) / 2))):=by
 constructor
 ·intro h
  refine⟨h.nocross hA hB,fun i u v hf ho=>?_,fun k u v hg hi=>?_⟩
  ·obtain⟨hi,u0,huv,v1⟩:=hF.rng i u v hf
   obtain⟨e1,e10,h1⟩:=hA.side_near hi (t:=(u+v) / 2) (by grind) (by grind)
   obtain⟨e2,e20,h2⟩:=ho.near hB.sim
   obtain⟨g,g0,k1,k2⟩:∃ g:Rat,0<g∧g≤e1∧g≤e2:=by
    rcases Rat.le_total (a:=e1) (b:=e2) with h | h
    ·exact⟨e1,by grind,by grind,h⟩
    exact⟨e2,e20,h,by grind⟩
   obtain⟨q,hq,hc⟩:=left_pt (hA.sim.ne i) (crs_at _ _ ((u+v) / 2)) (.inl rfl) g0
   exact (h q ((h1 q (hq.mono k1)).1 (by grind))).not_out (h2 q (hq.mono k2))
  obtain⟨hk,u0,huv,v1⟩:=hG.rng k u v hg
  exact (h _ hi).1 k ((u+v) / 2) hk (by grind) (by grind) rfl
 rintro⟨hno,h1,h2⟩
 rcases in_or_apart hA hB (no_enter hA.sim hB.sim hno hG h2) with h | h
 ·exact h
 exfalso
 refine not_on hA hB h fun q hq i l hi l0 l1 e=>?_
 obtain⟨g,g0,hg⟩:=hB.sim.off_near hq
 obtain⟨t,t0,t1,ht⟩:=inner_near (A i) (A (i+1)) l0 l1 g0
 rw[←e] at ht
 have hof:=(hg _ ht).1
 obtain⟨u,v,hf,hu,hv⟩:=hF.cover i t hi t0 t1 (fun j hj e=>hof j 0 hj (by grind) (by grind) (by rw[at0];exact e.symm))
 obtain⟨_,u0,huv,v1⟩:=hF.rng i u v hf
 rcases part_dich hA.sim hB.sim hno hi u0 v1 (hF.clean i u v hf) with ⟨j,hj,_,_,k⟩ | k
 ·obtain⟨r,r0,r1,er⟩:=k t hu hv
  exact hof j r hj (by grind) (by grind) er
 rcases hB.two (k ((u+v) / 2) (by grind) (by grind)) with z | z
 ·obtain⟨e1,e10,g1⟩:=hA.side_near hi (t:=(u+v) / 2) (by grind) (by grind)
  obtain⟨e2,e20,g2⟩:=z.near hB.sim
  obtain⟨g,g0,k1,k2⟩:∃ g:Rat,0<g∧g≤e1∧g≤e2:=by
   rcases Rat.le_total (a:=e1) (b:=e2) with h | h
   ·exact⟨e1,by grind,by grind,h⟩
   exact⟨e2,e20,h,by grind⟩
  obtain⟨q,hq,hc⟩:=left_pt (hA.sim.ne i) (crs_at _ _ ((u+v) / 2)) (.inl rfl) g0
  exact (g2 q (hq.mono k2)).not_out (h q ((g1 q (hq.mono k1)).1 (by grind)))
 exact h1 i u v hf z
end
end Geo
end Go.Proofs.YthfokpchdlcidaaGreat
namespace Go.Proofs.YthfokpchdlcidaaGreat
namespace Cal
open Geo (RP at' Simple Pos In Out Off wind wc)
def mulP (k:Int) (ps:List Pt):List Pt:=ps.map fun q=>⟨k*q.x,k*q.y⟩
theorem dbl_mul (ps:List Pt):dblP ps=mulP 2 ps:=rfl
theorem mul_one (ps:List Pt):mulP 1 ps=ps:=by
 unfold mulP
 have:(fun q:Pt=>(⟨1*q.x,1*q.y⟩:Pt))=id:=funext fun q=>by cases q;simp
 rw[this,List.map_id]
theorem mul_length (k:Int) (ps:List Pt):(mulP k ps).length=ps.length:=by simp[mulP]
def sc (k:Rat) (p:RP):RP:=⟨k*p.x,k*p.y⟩
theorem sc_at (k:Rat) (a b:RP) (l:Rat):sc k (at' a b l)=at' (sc k a) (sc k b) l:=by
 unfold sc at'
 rw[RP.mk.injEq]
 constructor <;> grind
theorem sc_inj {k:Rat} (hk:k≠0) {p q:RP} (h:sc k p=sc k q):p=q:=by
 unfold sc at h
 rw[RP.mk.injEq] at h
 have h1:k*(p.x-q.x)=0:=by grind
 have h2:k*(p.y-q.y)=0:=by grind
 cases p;cases q
 rw[RP.mk.injEq]
 constructor
 ·rcases Rat.mul_eq_zero.1 h1 with z | z
  ·exact absurd z hk
  grind
 rcases Rat.mul_eq_zero.1 h2 with z | z
 ·exact absurd z hk
 grind
theorem scale_lt {k x y:Rat} (hk:0<k):k*x<k*y↔x<y:=by
 constructor
 ·intro h
  have:=Geo.pos_of_mul (x:=y-x) hk (by grind)
  grind
 intro h
 have:=Geo.mul_pp hk (show 0<y-x by grind)
 grind
theorem scale_le {k x y:Rat} (hk:0<k):k*x≤k*y↔x≤y:=by
 rw[←Rat.not_lt,←Rat.not_lt,scale_lt hk]
theorem crs_sc (k:Rat) (a b q:RP):Geo.crs (sc k a) (sc k b) (sc k q)=(k*k)*Geo.crs a b q:=by
 unfold Geo.crs sc;dsimp only;grind
theorem wc_sc {k:Rat} (hk:0<k) (a b q:RP):wc (sc k a) (sc k b) (sc k q)=wc a b q:=by
 have kk:=Geo.mul_pp hk hk
 have e1:(0<Geo.crs (sc k a) (sc k b) (sc k q))=(0<Geo.crs a b q):=by
  rw[crs_sc]
  have:=scale_lt (x:=0) (y:=Geo.crs a b q) kk
  rw[Rat.mul_zero] at this
  exact propext this
 have e2:(Geo.crs (sc k a) (sc k b) (sc k q)<0)=(Geo.crs a b q<0):=by
  rw[crs_sc]
  have:=scale_lt (x:=Geo.crs a b q) (y:=0) kk
  rw[Rat.mul_zero] at this
  exact propext this
 unfold wc
 simp only[e1,e2]
 unfold sc
 dsimp only
 simp only[scale_lt hk,scale_le hk]
def hf (q:Pt) (k:Int):RP:=⟨(q.x:Rat) / (k:Rat),(q.y:Rat) / (k:Rat)⟩
theorem hf_sc (q:Pt) {k:Int} (hk:0<k):sc (k:Rat) (hf q k)=rp q:=by
 have hk':(k:Rat)≠0:=by
  have:=Rat.intCast_pos.2 hk
  grind
 unfold sc hf rp
 dsimp only
 rw[RP.mk.injEq]
 constructor
 ·rw[Rat.mul_comm];exact Rat.div_mul_cancel hk'
 rw[Rat.mul_comm];exact Rat.div_mul_cancel hk'
theorem hf_one (q:Pt):hf q 1=rp q:=by
 have:=hf_sc q (k:=1) (by decide)
 rw[←this]
 unfold sc
 cases h:hf q 1
 dsimp only
 rw[RP.mk.injEq]
 constructor <;> grind
theorem cor_mul (k:Int) (ps:List Pt) (i:Nat):cor (mulP k ps) i=⟨k*(cor ps i).x,k*(cor ps i).y⟩:=by
 unfold cor
 rw[mul_length]
 unfold mulP
 rw[List.getElem?_map]
 cases h:ps[i % ps.length]? with
 | none=>simp[pt0]
 | some p=>rfl
theorem ring_mul (k:Int) (ps:List Pt) (i:Nat):ring (mulP k ps) i=sc (k:Rat) (ring ps i):=by
 unfold ring
 rw[cor_mul]
 unfold rp sc
 dsimp only
 rw[Rat.intCast_mul,Rat.intCast_mul]
theorem sd_mul (k:Int) (ps:List Pt) {i:Nat} (h:i<ps.length):sd (mulP k ps) i=⟨⟨k*(sd ps i).a.x,k*(sd ps i).a.y⟩,⟨k*(sd ps i).b.x,k*(sd ps i).b.y⟩⟩:=by
 rw[sd_cor (by rw[mul_length];exact h),sd_cor h,cor_mul,cor_mul]
theorem wind_mul {k:Int} (hk:0<k) (ps:List Pt) (q:Pt) (n:Nat):wind n (ring (mulP k ps)) (rp q)=wind n (ring ps) (hf q k):=by
 unfold wind
 refine Geo.sumZ_congr fun i _=>?_
 rw[ring_mul,ring_mul,←hf_sc q hk,wc_sc (Rat.intCast_pos.2 hk)]
def wcI (s:Sd) (q:Pt):Int:=if s.a.y≤q.y then (if q.y<s.b.y then (if 0<crs s q then 1 else 0) else 0) else (if s.b.y≤q.y then (if crs s q<0 then -1 else 0) else 0)
theorem wc_rp (s:Sd) (q:Pt):wc (rp s.a) (rp s.b) (rp q)=wcI s q:=by
 unfold wc wcI
 simp only[crs_pos,crs_neg]
 unfold rp
 dsimp only
 simp only[Rat.intCast_le_intCast,Rat.intCast_lt_intCast]
def sumW (q:Pt):List Sd→Int
 | []=>0
 | s :: r=>wcI s q+sumW q r
theorem has_level {s:Sd} {q:Pt} (hc:crs s q=0) (h1:s.b.y≤q.y) (h2:q.y<s.a.y):hasP s q=true:=by
 rw[has_iff]
 refine⟨hc,?_⟩
 unfold dotP
 have hp:(s.a.x-q.x)*(s.b.y-q.y)=(s.a.y-q.y)*(s.b.x-q.x):=by unfold crs at hc;grind
 have k1:0<s.a.y-q.y:=by omega
 have k2:s.b.y-q.y≤0:=by omega
 generalize s.a.x-q.x=u at *
 generalize s.a.y-q.y=v at *
 generalize s.b.x-q.x=z at *
 generalize s.b.y-q.y=t at *
 have e:(u*z)*v=(u*u)*t:=by
  have:(u*z)*v=u*(v*z):=by grind
  rw[this,←hp];grind
 have p1:=Int.mul_nonpos_of_nonneg_of_nonpos (sq0I u) k2
 have p2:=Int.mul_nonpos_of_nonneg_of_nonpos (show 0≤v by omega) k2
 have p3:u*z≤0:=Int.not_lt.1 fun h=>by
  have:=Int.mul_pos h k1
  omega
 omega
def tog (s:Sd) (q:Pt):Bool:=(decide (q.y<s.a.y) != decide (q.y<s.b.y)) && (decide (0<trn s q) == decide (s.a.y<s.b.y))
theorem tog_wc {s:Sd} {q:Pt} (h:hasP s q=false):wcI s q % 2=if tog s q=true then 1 else 0:=by
 have ht:(0<trn s q)↔0<crs s q:=by
  rcases Int.lt_trichotomy (crs s q) 0 with h | h | h
  ·rw[trnN.2 h];omega
  ·rw[trnZ.2 h];omega
  rw[trnP.2 h];omega
 unfold wcI tog
 simp only[ht]
 by_cases h1:s.a.y≤q.y
 ·rw[if_pos h1]
  have e1:decide (q.y<s.a.y)=false:=decide_eq_false (by omega)
  by_cases h2:q.y<s.b.y
  ·rw[if_pos h2,e1,decide_eq_true h2,decide_eq_true (show s.a.y<s.b.y by omega)]
   by_cases h3:0<crs s q
   ·rw[if_pos h3,decide_eq_true h3];rfl
   rw[if_neg h3,decide_eq_false h3];rfl
  rw[if_neg h2,e1,decide_eq_false h2];rfl
 rw[if_neg h1]
 have e1:decide (q.y<s.a.y)=true:=decide_eq_true (by omega)
 by_cases h2:s.b.y≤q.y
 ·rw[if_pos h2,e1,decide_eq_false (show ¬q.y<s.b.y by omega),decide_eq_false (show ¬s.a.y<s.b.y by omega)]
  rcases Int.lt_trichotomy (crs s q) 0 with h3 | h3 | h3
  ·rw[if_pos h3,decide_eq_false (show ¬0<crs s q by omega)];rfl
  ·rw[has_level h3 h2 (by omega)] at h;cases h
  rw[if_neg (by omega),decide_eq_true h3];rfl
 rw[if_neg h2,e1,decide_eq_true (show q.y<s.b.y by omega)];rfl
theorem whereFrom_off (q:Pt):∀ (l:List Sd) (b:Bool),(∀ s∈l,hasP s q=false)→whereFrom q b l=if (sumW q l+(if b=true then 1 else 0)) % 2=1 then 1 else -1
 | [],b,_=>by cases b <;> rfl
 | s :: r,b,h=>by
  have hs:=h s (List.mem_cons_self ..)
  unfold whereFrom
  rw[if_neg (by rw[hs];decide),whereFrom_off q r _ (fun t ht=>h t (List.mem_cons_of_mem _ ht))]
  have hw:=tog_wc hs
  show (if (sumW q r+(if (if tog s q=true then !b else b)=true then 1 else 0)) % 2=1 then (1:Int) else -1)=(if (wcI s q+sumW q r+(if b=true then 1 else 0)) % 2=1 then 1 else -1)
  have key:∀ (t b:Bool) (W w:Int),w % 2=(if t=true then 1 else 0)→((W+(if (if t=true then !b else b)=true then 1 else 0)) % 2=1↔(w+W+(if b=true then 1 else 0)) % 2=1):=by
   intro t b W w h
   cases t <;> cases b <;> simp at h ⊢ <;> omega
  exact ite_congr (propext (key _ _ _ _ hw)) (fun _=>rfl) (fun _=>rfl)
theorem whereFrom_on (q:Pt):∀ (l:List Sd) (b:Bool),(∃ s∈l,hasP s q=true)→whereFrom q b l=0
 | [],_,h=>by obtain⟨s,hs,_⟩:=h;cases hs
 | s :: r,b,h=>by
  unfold whereFrom
  by_cases hs:hasP s q=true
  ·rw[if_pos hs]
  rw[if_neg hs]
  obtain⟨t,ht,h2⟩:=h
  rcases List.mem_cons.1 ht with e | ht
  ·rw[e] at h2;exact absurd h2 hs
  exact whereFrom_on q r _ ⟨t,ht,h2⟩
theorem mem_sds {ps:List Pt} {s:Sd}:s∈sds ps↔∃ i,i<ps.length∧s=sd ps i:=by
 unfold sds
 rw[List.mem_map]
 constructor
 ·rintro⟨i,hi,e⟩;exact⟨i,List.mem_range.1 hi,e.symm⟩
 rintro⟨i,hi,e⟩;exact⟨i,List.mem_range.2 hi,e.symm⟩
theorem sumW_append (q:Pt):∀ l m:List Sd,sumW q (l ++ m)=sumW q l+sumW q m
 | [],m=>by simp[sumW]
 | s :: r,m=>by rw[List.cons_append,sumW,sumW,sumW_append q r m];omega
theorem wind_sum (ps:List Pt) (q:Pt):wind ps.length (ring ps) (rp q)=sumW q (sds ps):=by
 have main:∀ n,n≤ps.length→Geo.sumZ (fun i=>wc (ring ps i) (ring ps (i+1)) (rp q)) n=sumW q ((List.range n).map (sd ps)):=fun n=>by
  induction n with
  | zero=>intro _;rfl
  | succ n ih =>
   intro hn
   rw[Geo.sumZ,ih (by omega),List.range_succ,List.map_append,sumW_append]
   have:=ring_ps (ps:=ps) n (by omega)
   rw[this.1,this.2,wc_rp]
   simp[sumW]
 exact main _ (Nat.le_refl _)
theorem has_at_iff {s:Sd} (hne:s.a≠s.b) {q:Pt}:hasP s q=true↔∃ l:Rat,0≤l∧l≤1∧rp q=at' (rp s.a) (rp s.b) l:=by
 constructor
 ·intro h
  rw[has_iff] at h
  obtain⟨h1,h2⟩:=h
  refine Geo.seg_of_dot ((crs0 s q).2 h1) ?_ ?_ (pt_ne hne)
  ·have e:((rp q).x-(rp s.a).x)*((rp s.b).x-(rp s.a).x)+((rp q).y-(rp s.a).y)*((rp s.b).y-(rp s.a).y)=(((q.x-s.a.x)*(s.b.x-s.a.x)+(q.y-s.a.y)*(s.b.y-s.a.y):Int):Rat):=by
    unfold rp;simp only[Rat.intCast_sub,Rat.intCast_mul,Rat.intCast_add]
   rw[e]
   have s1:=sq0I (q.x-s.a.x)
   have s2:=sq0I (q.y-s.a.y)
   have e3:(q.x-s.a.x)*(s.b.x-s.a.x)+(q.y-s.a.y)*(s.b.y-s.a.y)=(q.x-s.a.x)*(q.x-s.a.x)+(q.y-s.a.y)*(q.y-s.a.y)-dotP q s.a s.b:=by
    unfold dotP;grind
   have:0≤(q.x-s.a.x)*(s.b.x-s.a.x)+(q.y-s.a.y)*(s.b.y-s.a.y):=by omega
   exact Rat.intCast_nonneg.2 this
  have e:((rp q).x-(rp s.a).x)*((rp s.b).x-(rp s.a).x)+((rp q).y-(rp s.a).y)*((rp s.b).y-(rp s.a).y)=(((q.x-s.a.x)*(s.b.x-s.a.x)+(q.y-s.a.y)*(s.b.y-s.a.y):Int):Rat):=by
   unfold rp;simp only[Rat.intCast_sub,Rat.intCast_mul,Rat.intCast_add]
  have e2:((rp s.b).x-(rp s.a).x)*((rp s.b).x-(rp s.a).x)+((rp s.b).y-(rp s.a).y)*((rp s.b).y-(rp s.a).y)=(((s.b.x-s.a.x)*(s.b.x-s.a.x)+(s.b.y-s.a.y)*(s.b.y-s.a.y):Int):Rat):=by
   unfold rp;simp only[Rat.intCast_sub,Rat.intCast_mul,Rat.intCast_add]
  rw[e,e2,Rat.intCast_le_intCast]
  have s1:=sq0I (q.x-s.b.x)
  have s2:=sq0I (q.y-s.b.y)
  have e3:((s.b.x-s.a.x)*(s.b.x-s.a.x)+(s.b.y-s.a.y)*(s.b.y-s.a.y))-((q.x-s.a.x)*(s.b.x-s.a.x)+(q.y-s.a.y)*(s.b.y-s.a.y))=(q.x-s.b.x)*(q.x-s.b.x)+(q.y-s.b.y)*(q.y-s.b.y)-dotP q s.a s.b:=by
   unfold dotP;grind
  omega
 rintro⟨l,l0,l1,e⟩;exact has_at l0 l1 e
section
variable {ps : List Pt}
theorem has_mul (hne:∀ i,i<ps.length→(sd ps i).a≠(sd ps i).b) {k:Int} (hk:0<k) {i:Nat} (hi:i<ps.length) (q:Pt):hasP (sd (mulP k ps) i) q=true↔∃ l:Rat,0≤l∧l≤1∧hf q k=at' (ring ps i) (ring ps (i+1)) l:=by
 have hk':(k:Rat)≠0:=by have:=Rat.intCast_pos.2 hk;grind
 rw[has_at_iff]
 ·have e:=ring_ps (ps:=mulP k ps) i (by rw[mul_length];exact hi)
  rw[←e.1,←e.2,ring_mul,ring_mul,←hf_sc q hk]
  constructor
  ·rintro⟨l,l0,l1,h⟩;exact⟨l,l0,l1,sc_inj hk' (by rw[h,sc_at])⟩
  rintro⟨l,l0,l1,h⟩;exact⟨l,l0,l1,by rw[h,sc_at]⟩
 rw[sd_mul k ps hi]
 intro e
 dsimp only at e
 rw[Pt.mk.injEq] at e
 refine hne i hi ?_
 have e1:=Int.eq_of_mul_eq_mul_left (show k≠0 by omega) e.1
 have e2:=Int.eq_of_mul_eq_mul_left (show k≠0 by omega) e.2
 cases h1:(sd ps i).a
 cases h2:(sd ps i).b
 rw[h1,h2] at e1 e2
 rw[Pt.mk.injEq]
 exact⟨e1,e2⟩
theorem where_mul (hp:Pos ps.length (ring ps)) (hne:∀ i,i<ps.length→(sd ps i).a≠(sd ps i).b) {k:Int} (hk:0<k) (q:Pt) :
  (whereP (mulP k ps) q=1↔In ps.length (ring ps) (hf q k))∧(whereP (mulP k ps) q=0↔¬Off ps.length (ring ps) (hf q k))∧(whereP (mulP k ps) q=-1↔Out ps.length (ring ps) (hf q k)):=by
 by_cases hon:∃ s∈sds (mulP k ps),hasP s q=true
 ·have h0:whereP (mulP k ps) q=0:=whereFrom_on q _ _ hon
  have hno:¬Off ps.length (ring ps) (hf q k):=fun hoff=>by
   obtain⟨s,hs,h⟩:=hon
   obtain⟨i,hi,rfl⟩:=mem_sds.1 hs
   rw[mul_length] at hi
   obtain⟨l,l0,l1,e⟩:=(has_mul hne hk hi q).1 h
   exact hoff i l hi l0 l1 e
  refine⟨⟨fun h=>by omega,fun h=>absurd h.1 hno⟩,⟨fun _=>hno,fun _=>h0⟩,⟨fun h=>by omega,fun h=>absurd h.1 hno⟩⟩
 have hall:∀ s∈sds (mulP k ps),hasP s q=false:=fun s hs=>by
  cases h:hasP s q
  ·rfl
  exact absurd ⟨s,hs,h⟩ hon
 have hoff:Off ps.length (ring ps) (hf q k):=fun i l hi l0 l1 e=>by
  have h1:=hall (sd (mulP k ps) i) (mem_sds.2 ⟨i,by rw[mul_length];exact hi,rfl⟩)
  rw[(has_mul hne hk hi q).2 ⟨l,l0,l1,e⟩] at h1
  cases h1
 have h0:whereP (mulP k ps) q=if wind ps.length (ring ps) (hf q k) % 2=1 then 1 else -1:=by
  have:=whereFrom_off q (sds (mulP k ps)) false hall
  rw[←wind_sum,mul_length,wind_mul hk] at this
  unfold whereP
  simpa using this
 rcases hp.two hoff with h | h
 ·rw[h.2] at h0
  simp only[Int.reduceMod,if_true] at h0
  exact⟨⟨fun _=>h,fun _=>h0⟩,⟨fun e=>by omega,fun h'=>absurd hoff h'⟩,⟨fun e=>by omega,fun h'=>(h.not_out h').elim⟩⟩
 rw[h.2] at h0
 have h0:whereP (mulP k ps) q=-1:=by simpa using h0
 exact⟨⟨fun e=>by omega,fun h'=>(h'.not_out h).elim⟩,⟨fun e=>by omega,fun h'=>absurd hoff h'⟩,⟨fun _=>h,fun _=>h0⟩⟩
theorem where_pos (hp:Pos ps.length (ring ps)) (hne:∀ i,i<ps.length→(sd ps i).a≠(sd ps i).b) (q:Pt) :
  (whereP ps q=1↔In ps.length (ring ps) (rp q))∧(whereP ps q=0↔¬Off ps.length (ring ps) (rp q))∧(whereP ps q=-1↔Out ps.length (ring ps) (rp q)):=by
 have:=where_mul hp hne (k:=1) (by decide) q
 rwa [mul_one,hf_one] at this
theorem polyE_pos (h:polyE ps=0):Pos ps.length (ring ps)∧∀ i,i<ps.length→(sd ps i).a≠(sd ps i).b:=by
 obtain⟨h1,h2,h3⟩:=polyE_poly h
 have hb:∀ p∈ps,-100000≤p.y∧p.y≤100000:=fun p hp=>by
  have:=h2 p hp
  unfold ptErr at this
  split at this
  ·cases this
  omega
 refine⟨⟨h1.simple,?_⟩,fun i hi=>by rw[sd_cor hi];exact h1.cor_succ i⟩
 rcases h1.simple.area (fun i _=>ring_bound hb (by have:=h1.three;omega) i) with ⟨g,_⟩ | ⟨_,g⟩
 ·exact g
 rw[area2_ring] at g
 have:=Rat.intCast_neg_iff.1 g
 omega
end
def key (s:Sd) (q:Pt):Int:=dotP s.a s.b q
theorem along_lt {s:Sd} {p q:Pt}:alongS s p q<0↔key s p<key s q:=by
 unfold alongS cmpI key
 split
 ·omega
 split <;> omega
def Asc (s:Sd) (l:List Pt):Prop:=l.Pairwise fun p q=>key s p<key s q
theorem key_inj {s:Sd} (hne:s.a≠s.b) {p q:Pt} (hp:crs s p=0) (hq:crs s q=0) (h:key s p=key s q):p=q:=by
 have hL:=way_pos hne
 obtain⟨⟨ax,ay⟩,⟨bx,by'⟩⟩:=s
 obtain⟨px,py⟩:=p
 obtain⟨qx,qy⟩:=q
 simp only[crs,key,dotP] at *
 have kx:(px-qx)*((bx-ax)*(bx-ax)+(by'-ay)*(by'-ay))=0:=by grind
 have ky:(py-qy)*((bx-ax)*(bx-ax)+(by'-ay)*(by'-ay))=0:=by grind
 rw[Pt.mk.injEq]
 constructor
 ·rcases Int.mul_eq_zero.1 kx with h | h <;> omega
 rcases Int.mul_eq_zero.1 ky with h | h <;> omega
theorem mem_ins {s:Sd} {q x:Pt}:∀ {l:List Pt},x∈insP s q l↔x=q∨x∈l
 | []=>by simp[insP]
 | y :: r=>by
  unfold insP
  split
  ·simp
  split
  ·rename_i h
   have e:=ptB_iff.1 h
   subst e
   constructor
   ·intro h;exact .inr h
   rintro (h | h)
   ·subst h;exact List.mem_cons_self ..
   exact h
  rw[List.mem_cons,mem_ins,List.mem_cons]
  constructor
  ·rintro (h | h | h)
   ·exact .inr (.inl h)
   ·exact .inl h
   exact .inr (.inr h)
  rintro (h | h | h)
  ·exact .inr (.inl h)
  ·exact .inl h
  exact .inr (.inr h)
theorem asc_ins {s:Sd} (hne:s.a≠s.b) {q:Pt} (hq:crs s q=0):∀ {l:List Pt},Asc s l→(∀ p∈l,crs s p=0)→Asc s (insP s q l)
 | [],_,_=>by simp[insP,Asc]
 | y :: r,h,hc=>by
  obtain⟨h1,h2⟩:=List.pairwise_cons.1 h
  unfold insP
  split
  ·rename_i hlt
   have hlt:=along_lt.1 hlt
   refine List.pairwise_cons.2 ⟨fun p hp=>?_,h⟩
   rcases List.mem_cons.1 hp with e | e
   ·rw[e];exact hlt
   have:=h1 p e;omega
  rename_i hlt
  split
  ·exact h
  rename_i hb
  have hlt:¬key s q<key s y:=fun hh=>hlt (along_lt.2 hh)
  have hdy:key s y<key s q:=by
   rcases Int.lt_trichotomy (key s y) (key s q) with hh | hh | hh
   ·exact hh
   ·exact absurd (ptB_iff.2 (key_inj hne hq (hc y (List.mem_cons_self ..)) hh.symm)) hb
   exact absurd hh hlt
  refine List.pairwise_cons.2 ⟨fun p hp=>?_,asc_ins hne hq h2 (fun p hp=>hc p (List.mem_cons_of_mem _ hp))⟩
  rcases mem_ins.1 hp with e | e
  ·rw[e];exact hdy
  exact h1 p e
theorem fold_ins {s:Sd} (hne:s.a≠s.b):∀ (l acc:List Pt),(∀ p∈l,crs s p=0)→(∀ p∈acc,crs s p=0)→Asc s acc →
  Asc s (l.foldl (fun a q=>insP s q a) acc)∧∀ x,x∈l.foldl (fun a q=>insP s q a) acc↔x∈acc∨x∈l
 | [],acc,_,_,h=>⟨h,fun x=>by simp⟩
 | q :: l,acc,hl,ha,h=>by
  have hq:=hl q (List.mem_cons_self ..)
  obtain⟨k1,k2⟩:=fold_ins hne l (insP s q acc) (fun p hp=>hl p (List.mem_cons_of_mem _ hp)) (fun p hp=>by
   rcases mem_ins.1 hp with e | e
   ·rw[e];exact hq
   exact ha p e) (asc_ins hne hq h ha)
  refine⟨k1,fun x=>?_⟩
  rw[List.foldl_cons,k2,mem_ins,List.mem_cons]
  constructor
  ·rintro ((h | h) | h)
   ·exact .inr (.inl h)
   ·exact .inl h
   exact .inr (.inr h)
  rintro (h | h | h)
  ·exact .inl (.inr h)
  ·exact .inl (.inl h)
  exact .inr h
theorem crs_a0 (s:Sd):crs s s.a=0:=by unfold crs;grind
theorem crs_b0 (s:Sd):crs s s.b=0:=by unfold crs;grind
theorem at_spec {s:Sd} (hne:s.a≠s.b) (other:List Pt):Asc s (atP s other)∧∀ x,x∈atP s other↔x=s.a∨x=s.b∨(x∈other∧hasP s x=true):=by
 have hc:∀ p∈s.a :: s.b :: other.filter (hasP s),crs s p=0:=fun p hp=>by
  rcases List.mem_cons.1 hp with e | hp
  ·rw[e];exact crs_a0 s
  rcases List.mem_cons.1 hp with e | hp
  ·rw[e];exact crs_b0 s
  exact (has_iff s p).1 (List.mem_filter.1 hp).2 |>.1
 obtain⟨h1,h2⟩:=fold_ins hne (s.a :: s.b :: other.filter (hasP s)) [] hc (fun p hp=>by cases hp) List.Pairwise.nil
 refine⟨h1,fun x=>?_⟩
 show x∈List.foldl (fun a q=>insP s q a) [] (s.a :: s.b :: other.filter (hasP s))↔_
 rw[h2,List.mem_cons,List.mem_cons,List.mem_filter]
 simp
theorem mem_pcsOf {s:Sd} {x:Pc}:∀ {l:List Pt},x∈pcsOf s l↔∃ pre p q post,l=pre ++ p :: q :: post∧x=⟨⟨p.x+q.x,p.y+q.y⟩,s⟩
 | []=>by
  constructor
  ·intro h;cases h
  rintro⟨pre,p,q,post,e,_⟩;cases pre <;> cases e
 | [y]=>by
  constructor
  ·intro h;cases h
  rintro⟨pre,p,q,post,e,_⟩
  cases pre with
  | nil=>cases e
  | cons a l=>cases l <;> cases e
 | y :: z :: r=>by
  unfold pcsOf
  rw[List.mem_cons,mem_pcsOf (l:=z :: r)]
  constructor
  ·rintro (e | ⟨pre,p,q,post,e,h⟩)
   ·exact⟨[],y,z,r,rfl,e⟩
   exact⟨y :: pre,p,q,post,by rw[e];rfl,h⟩
  rintro⟨pre,p,q,post,e,h⟩
  cases pre with
  | nil=>cases e;exact .inl h
  | cons a l =>
   rw[List.cons_append,List.cons.injEq] at e
   exact .inr ⟨l,p,q,post,e.2,h⟩
theorem asc_gap {s:Sd} {pre post:List Pt} {p q w:Pt} (h:Asc s (pre ++ p :: q :: post)) (hw:w∈pre ++ p :: q :: post):key s w≤key s p∨key s q≤key s w:=by
 unfold Asc at h
 rw[List.pairwise_append] at h
 obtain⟨_,h2,h3⟩:=h
 obtain⟨g1,g2⟩:=List.pairwise_cons.1 h2
 obtain⟨g3,_⟩:=List.pairwise_cons.1 g2
 rcases List.mem_append.1 hw with hw | hw
 ·have:=h3 w hw p (List.mem_cons_self ..);exact .inl (by omega)
 rcases List.mem_cons.1 hw with e | hw
 ·rw[e];exact .inl (by omega)
 rcases List.mem_cons.1 hw with e | hw
 ·rw[e];exact .inr (by omega)
 have:=g3 w hw;exact .inr (by omega)
theorem asc_lt {s:Sd} {pre post:List Pt} {p q:Pt} (h:Asc s (pre ++ p :: q :: post)):key s p<key s q:=by
 unfold Asc at h
 rw[List.pairwise_append] at h
 exact (List.pairwise_cons.1 h.2.1).1 q (List.mem_cons_self ..)
theorem asc_find {f:Pt→Rat} {T:Rat}:∀ {l:List Pt} {x y:Pt},l.Pairwise (fun p q=>f p<f q)→x∈l→f x<T→y∈l→T<f y→(∀ w∈l,f w≠T)→∃ pre p q post,l=pre ++ p :: q :: post∧f p<T∧T<f q
 | [],x,y,_,hx,_,_,_,_=>by cases hx
 | [z],x,y,_,hx,h1,hy,h2,_=>by
  rw[List.mem_singleton] at hx hy
  subst hx;subst hy
  grind
 | z :: w :: r,x,y,h,hx,h1,hy,h2,hno=>by
  obtain⟨g1,g2⟩:=List.pairwise_cons.1 h
  have hz:f z<T:=by
   rcases List.mem_cons.1 hx with e | hx
   ·rw[←e];exact h1
   have:=g1 x hx;grind
  by_cases hw:T<f w
  ·exact⟨[],z,w,r,rfl,hz,hw⟩
  have hw':=hno w (List.mem_cons_of_mem _ (List.mem_cons_self ..))
  have hy':y∈w :: r:=by
   rcases List.mem_cons.1 hy with e | hy
   ·rw[e] at h2;grind
   exact hy
  obtain⟨pre,p,q,post,e,k1,k2⟩:=asc_find (l:=w :: r) (x:=w) (y:=y) g2 (List.mem_cons_self ..) (by grind) hy' h2 (fun v hv=>hno v (List.mem_cons_of_mem _ hv))
  exact⟨z :: pre,p,q,post,by rw[e];rfl,k1,k2⟩
theorem key_at {s:Sd} {q:Pt} {t:Rat} (h:rp q=at' (rp s.a) (rp s.b) t):((key s q:Int):Rat)=t*((key s s.b:Int):Rat):=by
 unfold rp at' at h
 rw[RP.mk.injEq] at h
 obtain⟨h1,h2⟩:=h
 unfold key dotP
 simp only[Rat.intCast_sub,Rat.intCast_mul,Rat.intCast_add]
 rw[h1,h2]
 grind
theorem key_b_pos {s:Sd} (hne:s.a≠s.b):0<key s s.b:=way_pos hne
theorem key_a (s:Sd):key s s.a=0:=by unfold key dotP;grind
def FP (a b:List Pt) (i:Nat) (u v:Rat):Prop:=i<a.length∧∃ pre p q post,atP (sd a i) b=pre ++ p :: q :: post∧rp p=at' (ring a i) (ring a (i+1)) u∧rp q=at' (ring a i) (ring a (i+1)) v
section
variable {a b : List Pt}
theorem at_param (hne:∀ i,i<a.length→(sd a i).a≠(sd a i).b) {i:Nat} (hi:i<a.length) {p:Pt} (hp:p∈atP (sd a i) b):∃ u:Rat,0≤u∧u≤1∧rp p=at' (ring a i) (ring a (i+1)) u:=by
 have hr:=ring_ps (ps:=a) i hi
 rw[hr.1,hr.2]
 rcases ((at_spec (hne i hi) b).2 p).1 hp with e | e | ⟨_,e⟩
 ·rw[e];exact⟨0,by grind,by grind,(Geo.at0 _ _).symm⟩
 ·rw[e];exact⟨1,by grind,by grind,(Geo.at1 _ _).symm⟩
 exact (has_at_iff (hne i hi)).1 e
theorem fp_parts (hne:∀ i,i<a.length→(sd a i).a≠(sd a i).b):Geo.Parts a.length (ring a) b.length (ring b) (FP a b) where
 rng:=fun i u v ⟨hi,pre,p,q,post,e,hp,hq⟩=>by
  have hr:=ring_ps (ps:=a) i hi
  have hasc:=(at_spec (hne i hi) b).1
  have hp':p∈atP (sd a i) b:=by rw[e];simp
  have hq':q∈atP (sd a i) b:=by rw[e];simp
  rw[e] at hasc
  have hlt:=asc_lt hasc
  obtain⟨u',u0,u1,eu⟩:=at_param hne hi hp'
  obtain⟨v',v0,v1,ev⟩:=at_param hne hi hq'
  have rne:ring a i≠ring a (i+1):=by rw[hr.1,hr.2];exact pt_ne (hne i hi)
  have e1:=Geo.at_inj rne (hp.symm.trans eu)
  have e2:=Geo.at_inj rne (hq.symm.trans ev)
  subst e1;subst e2
  refine⟨hi,u0,?_,v1⟩
  rw[hr.1,hr.2] at hp hq
  have k1:=key_at hp
  have k2:=key_at hq
  have hL:(0:Rat)<((key (sd a i) (sd a i).b:Int):Rat):=Rat.intCast_pos.2 (key_b_pos (hne i hi))
  have hlt':=Rat.intCast_lt_intCast.2 hlt
  rw[k1,k2] at hlt'
  have:=Geo.pos_of_mul (x:=v-u) hL (by grind)
  grind
 clean:=fun i u v ⟨hi,pre,p,q,post,e,hp,hq⟩ k hk t t0 t1 hw=>by
  have hr:=ring_ps (ps:=a) i hi
  have hasc:=(at_spec (hne i hi) b).1
  have hp':p∈atP (sd a i) b:=by rw[e];simp
  have hq':q∈atP (sd a i) b:=by rw[e];simp
  obtain⟨u',u0,u1,eu⟩:=at_param hne hi hp'
  obtain⟨v',v0,v1,ev⟩:=at_param hne hi hq'
  have rne:ring a i≠ring a (i+1):=by rw[hr.1,hr.2];exact pt_ne (hne i hi)
  have e1:=Geo.at_inj rne (hp.symm.trans eu)
  have e2:=Geo.at_inj rne (hq.symm.trans ev)
  subst e1;subst e2
  have hmem:cor b k∈atP (sd a i) b:=by
   refine ((at_spec (hne i hi) b).2 _).2 (.inr (.inr ⟨?_,?_⟩))
   ·unfold cor
    rw[Nat.mod_eq_of_lt hk,List.getElem?_eq_getElem hk]
    exact List.getElem_mem hk
   refine (has_at_iff (hne i hi)).2 ⟨t,by grind,by grind,?_⟩
   rw[←hr.1,←hr.2]
   exact hw
  have g:=asc_gap (e ▸ hasc) (e ▸ hmem)
  unfold ring at hw
  change rp (cor b k)=at' (ring a i) (ring a (i+1)) t at hw
  rw[hr.1,hr.2] at hp hq hw
  have k1:=key_at hp
  have k2:=key_at hq
  have k3:=key_at hw
  have hL:(0:Rat)<((key (sd a i) (sd a i).b:Int):Rat):=Rat.intCast_pos.2 (key_b_pos (hne i hi))
  rcases g with g | g
  ·have g':=Rat.intCast_le_intCast.2 g
   rw[k1,k3] at g'
   have:=Geo.nonneg_of_mul (x:=u-t) hL (by grind)
   grind
  have g':=Rat.intCast_le_intCast.2 g
  rw[k2,k3] at g'
  have:=Geo.nonneg_of_mul (x:=t-v) hL (by grind)
  grind
 cover:=fun i t hi t0 t1 hno=>by
  have hr:=ring_ps (ps:=a) i hi
  obtain⟨hasc,hmem⟩:=at_spec (hne i hi) b
  have hL:(0:Rat)<((key (sd a i) (sd a i).b:Int):Rat):=Rat.intCast_pos.2 (key_b_pos (hne i hi))
  have rne:ring a i≠ring a (i+1):=by rw[hr.1,hr.2];exact pt_ne (hne i hi)
  obtain⟨pre,p,q,post,e,h1,h2⟩:=asc_find (f:=fun p=>((key (sd a i) p:Int):Rat)) (T:=t*((key (sd a i) (sd a i).b:Int):Rat)) (l:=atP (sd a i) b) (x:=(sd a i).a) (y:=(sd a i).b)
   (List.Pairwise.imp (fun h=>Rat.intCast_lt_intCast.2 h) hasc) ((hmem _).2 (.inl rfl)) (by rw[key_a];exact Geo.mul_pp t0 hL) ((hmem _).2 (.inr (.inl rfl))) (by
    have:=Geo.mul_pp (a:=1-t) (by grind) hL
    grind) (fun w hw eq=>by
    obtain⟨u,u0,u1,eu⟩:=at_param hne hi hw
    have eu':=eu
    rw[hr.1,hr.2] at eu'
    have k:=key_at eu'
    rw[eq] at k
    have hut:u=t:=by
     have:(t-u)*((key (sd a i) (sd a i).b:Int):Rat)=0:=by grind
     rcases Rat.mul_eq_zero.1 this with z | z
     ·grind
     grind
    subst hut
    rcases (hmem w).1 hw with e | e | ⟨e,_⟩
    ·rw[e,←hr.1] at eu
     have:=Geo.at_inj rne ((Geo.at0 _ _).trans eu)
     grind
    ·rw[e,←hr.2] at eu
     have:=Geo.at_inj rne ((Geo.at1 _ _).trans eu)
     grind
    obtain⟨k,hk,rfl⟩:=List.getElem_of_mem e
    refine hno k hk ?_
    unfold ring cor
    rw[Nat.mod_eq_of_lt hk,List.getElem?_eq_getElem hk]
    exact eu)
  have hp':p∈atP (sd a i) b:=by rw[e];simp
  have hq':q∈atP (sd a i) b:=by rw[e];simp
  obtain⟨u,u0,u1,eu⟩:=at_param hne hi hp'
  obtain⟨v,v0,v1,ev⟩:=at_param hne hi hq'
  refine⟨u,v,⟨hi,pre,p,q,post,e,eu,ev⟩,?_,?_⟩
  ·rw[hr.1,hr.2] at eu
   rw[key_at eu] at h1
   have:=Geo.pos_of_mul (x:=t-u) hL (by grind)
   grind
  rw[hr.1,hr.2] at ev
  rw[key_at ev] at h2
  have:=Geo.pos_of_mul (x:=v-t) hL (by grind)
  grind
theorem half_mid {A B:RP} {p q:Pt} {u v:Rat} (hp:rp p=at' A B u) (hq:rp q=at' A B v):hf ⟨p.x+q.x,p.y+q.y⟩ 2=at' A B ((u+v) / 2):=by
 unfold rp at' at hp hq
 rw[RP.mk.injEq] at hp hq
 unfold hf at'
 dsimp only
 rw[RP.mk.injEq,Rat.intCast_add,Rat.intCast_add,hp.1,hp.2,hq.1,hq.2]
 constructor <;> grind
theorem pcs_fp (hne:∀ i,i<a.length→(sd a i).a≠(sd a i).b) (f:Pc→Prop):(∃ x∈pcsP a b,f x)↔∃ i u v,FP a b i u v∧∃ m:Pt,f ⟨m,sd a i⟩∧hf m 2=at' (ring a i) (ring a (i+1)) ((u+v) / 2)∧∃ x∈pcsP a b,x=⟨m,sd a i⟩:=by
 constructor
 ·rintro⟨x,hx,hfx⟩
  unfold pcsP at hx
  obtain⟨s,hs,hx'⟩:=List.mem_flatMap.1 hx
  obtain⟨i,hi,rfl⟩:=mem_sds.1 hs
  obtain⟨pre,p,q,post,e,rfl⟩:=mem_pcsOf.1 hx'
  obtain⟨u,_,_,eu⟩:=at_param (b:=b) hne hi (p:=p) (by rw[e];simp)
  obtain⟨v,_,_,ev⟩:=at_param (b:=b) hne hi (p:=q) (by rw[e];simp)
  exact⟨i,u,v,⟨hi,pre,p,q,post,e,eu,ev⟩,_,hfx,half_mid eu ev,_,hx,rfl⟩
 rintro⟨i,u,v,_,m,hm,_,x,hx,e⟩
 exact⟨x,hx,e ▸ hm⟩
theorem fp_pcs {i:Nat} {u v:Rat} (h:FP a b i u v):∃ x∈pcsP a b,x.of=sd a i∧hf x.mid 2=at' (ring a i) (ring a (i+1)) ((u+v) / 2):=by
 obtain⟨hi,pre,p,q,post,e,hp,hq⟩:=h
 refine⟨⟨⟨p.x+q.x,p.y+q.y⟩,sd a i⟩,?_,rfl,half_mid hp hq⟩
 unfold pcsP
 exact List.mem_flatMap.2 ⟨_,mem_sds.2 ⟨i,hi,rfl⟩,mem_pcsOf.2 ⟨pre,p,q,post,e,rfl⟩⟩
theorem pcs_mem (hne:∀ i,i<a.length→(sd a i).a≠(sd a i).b) {x:Pc} (hx:x∈pcsP a b):∃ i u v,FP a b i u v∧x.of=sd a i∧hf x.mid 2=at' (ring a i) (ring a (i+1)) ((u+v) / 2):=by
 obtain⟨i,u,v,h,m,e,hm,_⟩:=(pcs_fp hne (fun y=>y=x)).1 ⟨x,hx,rfl⟩
 exact⟨i,u,v,h,by rw[←e],by rw[←e];exact hm⟩
theorem cross_iff {i k:Nat} (hi:i<a.length) (hk:k<b.length):crosS (sd a i) (sd b k)=true↔Geo.CrossR (ring a i) (ring a (i+1)) (ring b k) (ring b (k+1)):=by
 have h1:=ring_ps (ps:=a) i hi
 have h2:=ring_ps (ps:=b) k hk
 rw[h1.1,h1.2,h2.1,h2.2]
 unfold crosS Geo.CrossR
 rw[Bool.and_eq_true,decide_eq_true_iff,decide_eq_true_iff,trn_mul,trn_mul]
 simp only[crs_pos,crs_neg]
theorem crossP_iff:crossP a b=true↔¬Geo.NoCross a.length (ring a) b.length (ring b):=by
 unfold crossP
 simp only[List.any_eq_true]
 constructor
 ·rintro⟨s,hs,t,ht,hc⟩ hno
  obtain⟨i,hi,rfl⟩:=mem_sds.1 hs
  obtain⟨k,hk,rfl⟩:=mem_sds.1 ht
  exact hno i k hi hk ((cross_iff hi hk).1 hc)
 intro h
 refine Classical.byContradiction fun hn=>h fun i k hi hk hc=>hn ⟨_,mem_sds.2 ⟨i,hi,rfl⟩,_,mem_sds.2 ⟨k,hk,rfl⟩,(cross_iff hi hk).2 hc⟩
theorem enters_iff (hne:∀ i,i<a.length→(sd a i).a≠(sd a i).b) (hB:Pos b.length (ring b)) (hnb:∀ i,i<b.length→(sd b i).a≠(sd b i).b):entersP a b=true↔Geo.Enters (ring a) b.length (ring b) (FP a b):=by
 have dot2:∀ {i k:Nat},i<a.length→k<b.length→((0<((sd a i).b.x-(sd a i).a.x)*((sd (dblP b) k).b.x-(sd (dblP b) k).a.x)+((sd a i).b.y-(sd a i).a.y)*((sd (dblP b) k).b.y-(sd (dblP b) k).a.y)) ↔
   0<((ring a (i+1)).x-(ring a i).x)*((ring b (k+1)).x-(ring b k).x)+((ring a (i+1)).y-(ring a i).y)*((ring b (k+1)).y-(ring b k).y)):=fun {i k} hi hk=>by
  have h1:=ring_ps (ps:=a) i hi
  have h2:=ring_ps (ps:=b) k hk
  rw[h1.1,h1.2,h2.1,h2.2,dbl_mul,sd_mul 2 b hk,←Rat.intCast_pos]
  unfold rp
  dsimp only
  simp only[Rat.intCast_sub,Rat.intCast_mul,Rat.intCast_add]
  constructor <;> intro h <;> grind
 unfold entersP
 rw[List.any_eq_true]
 constructor
 ·rintro⟨x,hx,h⟩
  obtain⟨i,u,v,hf',hof,hm⟩:=pcs_mem hne hx
  have hw:=where_mul hB hnb (k:=2) (by decide) x.mid
  rw[←dbl_mul,hm] at hw
  refine⟨i,u,v,hf',?_⟩
  split at h
  ·rename_i h1
   exact .inl (hw.1.1 h1)
  split at h
  ·rw[List.any_eq_true] at h
   obtain⟨t,ht,h⟩:=h
   rw[Bool.and_eq_true,decide_eq_true_iff] at h
   obtain⟨k,hk,rfl⟩:=mem_sds.1 ht
   rw[dbl_mul,mul_length] at hk
   obtain⟨r,r0,r1,er⟩:=(has_mul hnb (k:=2) (by decide) hk x.mid).1 h.1
   refine .inr ⟨k,r,hk,r0,r1,hm ▸ er,?_⟩
   rw[hof] at h
   exact (dot2 hf'.1 hk).1 h.2
  cases h
 rintro⟨i,u,v,hf',h⟩
 obtain⟨x,hx,hof,hm⟩:=fp_pcs hf'
 have hw:=where_mul hB hnb (k:=2) (by decide) x.mid
 rw[←dbl_mul,hm] at hw
 refine⟨x,hx,?_⟩
 rcases h with h | ⟨k,r,hk,r0,r1,er,hd⟩
 ·rw[if_pos (hw.1.2 h)]
 have h0:whereP (dblP b) x.mid=0:=hw.2.1.2 fun hoff=>hoff k r hk r0 r1 er
 rw[if_neg (by omega),if_pos h0,List.any_eq_true]
 refine⟨sd (dblP b) k,mem_sds.2 ⟨k,by rw[dbl_mul,mul_length];exact hk,rfl⟩,?_⟩
 rw[Bool.and_eq_true,decide_eq_true_iff]
 refine⟨(has_mul hnb (k:=2) (by decide) hk x.mid).2 ⟨r,r0,r1,hm ▸ er⟩,?_⟩
 rw[hof]
 exact (dot2 hf'.1 hk).2 hd
theorem overlap_over (ha:polyE a=0) (hb:polyE b=0):overlapP a b=true↔Geo.Over a.length (ring a) b.length (ring b):=by
 obtain⟨pa,na⟩:=polyE_pos ha
 obtain⟨pb,nb⟩:=polyE_pos hb
 rw[Geo.over_iff pa pb (fp_parts na) (fp_parts nb)]
 unfold overlapP
 rw[Bool.or_eq_true,Bool.or_eq_true,crossP_iff,enters_iff na pb nb,enters_iff nb pa na]
theorem within_in (ha:polyE a=0) (hb:polyE b=0):withinP a b=true↔Geo.Within a.length (ring a) b.length (ring b):=by
 obtain⟨pa,na⟩:=polyE_pos ha
 obtain⟨pb,nb⟩:=polyE_pos hb
 rw[Geo.within_iff pa pb (fp_parts na) (fp_parts nb)]
 unfold withinP
 rw[Bool.and_eq_true,Bool.and_eq_true,List.all_eq_true,List.all_eq_true,Bool.not_eq_true']
 have hc:crossP a b=false↔Geo.NoCross a.length (ring a) b.length (ring b):=by
  cases h:crossP a b
  ·exact⟨fun _=>Classical.byContradiction fun hn=>(by rw[crossP_iff.2 hn] at h;cases h),fun _=>rfl⟩
  exact⟨fun h'=>(by cases h'),fun hn=>absurd hn (crossP_iff.1 h)⟩
 rw[hc]
 refine and_congr_right fun _=>and_congr ⟨fun h i u v hf' ho=>?_,fun h x hx=>?_⟩ ⟨fun h i u v hf' ho=>?_,fun h x hx=>?_⟩
 ·obtain⟨x,hx,_,hm⟩:=fp_pcs hf'
  have hw:=where_mul pb nb (k:=2) (by decide) x.mid
  rw[←dbl_mul,hm] at hw
  have:=of_decide_eq_true (h x hx)
  have:=hw.2.2.2 ho
  omega
 ·obtain⟨i,u,v,hf',_,hm⟩:=pcs_mem na hx
  have hw:=where_mul pb nb (k:=2) (by decide) x.mid
  rw[←dbl_mul,hm] at hw
  refine decide_eq_true ?_
  have:=h i u v hf'
  by_cases ho:Geo.Off b.length (ring b) (at' (ring a i) (ring a (i+1)) ((u+v) / 2))
  ·rcases pb.two ho with z | z
   ·have:=hw.1.2 z;omega
   exact absurd z this
  have:=hw.2.1.2 ho;omega
 ·obtain⟨x,hx,_,hm⟩:=fp_pcs hf'
  have hw:=where_mul pa na (k:=2) (by decide) x.mid
  rw[←dbl_mul,hm] at hw
  have:=of_decide_eq_true (h x hx)
  have:=hw.1.2 ho
  omega
 obtain⟨i,u,v,hf',_,hm⟩:=pcs_mem nb hx
 have hw:=where_mul pa na (k:=2) (by decide) x.mid
 rw[←dbl_mul,hm] at hw
 refine decide_eq_true ?_
 have:=h i u v hf'
 by_cases ho:Geo.Off a.length (ring a) (at' (ring b i) (ring b (i+1)) ((u+v) / 2))
 ·rcases pa.two ho with z | z
  ·exact absurd z this
  have:=hw.2.2.2 z;omega
 have:=hw.2.1.2 ho;omega
end
end Cal
end Go.Proofs.YthfokpchdlcidaaGreat
