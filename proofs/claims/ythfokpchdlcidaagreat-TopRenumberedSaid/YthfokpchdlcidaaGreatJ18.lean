/- What the statements rest on: definitions and walks, part 18. -/
import Derived.Test.YthfokpchdlcidaaGreatJ17
set_option maxRecDepth 100000
set_option maxHeartbeats 16000000
set_option linter.unusedSimpArgs false
set_option linter.unusedVariables false
namespace Go.Proofs.YthfokpchdlcidaaGreat
namespace Geo
variable {n : Nat} {P : Nat → RP}
theorem at_only {a b:RP} (hne:a≠b) {l t:Rat} (e:at' a b t=at' a b l):t=l:=by
 unfold at' at e
 rw[RP.mk.injEq] at e
 refine Classical.byContradiction fun h=>hne ?_
 have g1:(t-l)*(b.x-a.x)=0:=by grind
 have g2:(t-l)*(b.y-a.y)=0:=by grind
 have g3:t-l≠0:=by grind
 cases a;cases b
 rw[RP.mk.injEq]
 dsimp only at *
 constructor
 ·rcases Rat.mul_eq_zero.1 g1 with h | h
  ·exact absurd h g3
  grind
 rcases Rat.mul_eq_zero.1 g2 with h | h
 ·exact absurd h g3
 grind
def norm2 (q:RP):Rat:=q.x*q.x+q.y*q.y
def along (v q:RP):Rat:=q.x*v.x+q.y*v.y
theorem far_strict {v x:RP} (h:norm2 x≤norm2 v) (hne:x≠v):along v x<along v v:=by
 unfold norm2 along at *
 have h1:=sq0 (x.x-v.x)
 have h2:=sq0 (x.y-v.y)
 refine Classical.byContradiction fun hn=>hne ?_
 have e1:(x.x-v.x)*(x.x-v.x)=0:=by grind
 have e2:(x.y-v.y)*(x.y-v.y)=0:=by grind
 have x1:x.x-v.x=0:=by rcases Rat.mul_eq_zero.1 e1 with h | h <;> exact h
 have x2:x.y-v.y=0:=by rcases Rat.mul_eq_zero.1 e2 with h | h <;> exact h
 cases x;cases v
 rw[RP.mk.injEq]
 dsimp only at *
 constructor <;> grind
theorem along_at (v a b:RP) (t:Rat):along v (at' a b t)=(1-t)*along v a+t*along v b:=by unfold along at';grind
theorem wc_high {a b q:RP} (ha:a.y<q.y) (hb:b.y<q.y):wc a b q=0:=by
 unfold wc
 rw[if_pos (by grind),if_neg (by grind)]
theorem wc_low {a b q:RP} (ha:q.y<a.y) (hb:q.y<b.y):wc a b q=0:=by
 unfold wc
 rw[if_neg (by grind),if_neg (by grind)]
theorem sumZ_nil:∀ n:Nat,sumZ (fun _=>0) n=0
 | 0=>rfl
 | n+1=>by rw[sumZ,sumZ_nil n];rfl
theorem wind_zero {q:RP} (h:∀ i,i<n→wc (P i) (P (i+1)) q=0):wind n P q=0:=by
 unfold wind
 rw[sumZ_congr (g:=fun _=>0) h,sumZ_nil]
theorem Simple.half_out (hs:Simple n P) {v q:RP} (hv:∀ i,along v (P i)≤along v v) (hq:along v v<along v q):wind n P q=0:=by
 obtain⟨M,hM⟩:=max_ex (fun i=>(P i).y) (n+1)
 obtain⟨K,hK⟩:=max_ex (fun i=>- (P i).y) (n+1)
 have hoff:∀ x,along v v<along v x→Off n P x:=fun x hx i l hi l0 l1 e=>by
  rw[e,along_at] at hx
  have p1:=mul_nn (a:=1-l) (b:=along v v-along v (P i)) (by grind) (by have:=hv i;grind)
  have p2:=mul_nn (a:=l) (b:=along v v-along v (P (i+1))) l0 (by have:=hv (i+1);grind)
  grind
 have go:∀ r,along v v<along v r→wind n P q=wind n P r:=fun r hr=>by
  refine wind_move hs.close ?_
  refine Off.free fun t t0 t1=>hoff _ ?_
  rw[along_at]
  rcases Rat.le_total (a:=t) (b:=1 / 2) with h | h
  ·have p1:=mul_pp (a:=1-t) (b:=along v q-along v v) (by grind) (by grind)
   have p2:=mul_nn (a:=t) (b:=along v r-along v v) t0 (by grind)
   grind
  have p1:=mul_nn (a:=1-t) (b:=along v q-along v v) (by grind) (by grind)
  have p2:=mul_pp (a:=t) (b:=along v r-along v v) (by grind) (by grind)
  grind
 by_cases hb:0<v.y
 ·-- far above
  obtain⟨L,L0,L1⟩:∃ L:Rat,0<L∧M<q.y+L:=by
   rcases Rat.le_total (a:=M-q.y) (b:=0) with h | h
   ·exact⟨1,by grind,by grind⟩
   exact⟨M-q.y+1,by grind,by grind⟩
  have hr:along v v<along v ⟨q.x,q.y+L⟩:=by
   have:=mul_pp L0 hb
   unfold along at *;dsimp only;grind
  rw[go _ hr]
  refine wind_zero fun i hi=>wc_high ?_ ?_
  ·have:=hM i (by omega);dsimp only at *;grind
  have:=hM (i+1) (by omega);dsimp only at *;grind
 obtain⟨L,L0,L1⟩:∃ L:Rat,0<L∧q.y-L < - K:=by
  rcases Rat.le_total (a:=q.y+K) (b:=0) with h | h
  ·exact⟨1,by grind,by grind⟩
  exact⟨q.y+K+1,by grind,by grind⟩
 have hr:along v v<along v ⟨q.x,q.y-L⟩:=by
  have:=mul_nn (a:=L) (b:=- v.y) (by grind) (by grind)
  unfold along at *;dsimp only;grind
 rw[go _ hr]
 refine wind_zero fun i hi=>wc_low ?_ ?_
 ·have:=hK i (by omega);dsimp only at *;grind
 have:=hK (i+1) (by omega);dsimp only at *;grind
theorem Pos.left_corner (h:Pos n P):∃ k,k<n∧0<crs (P k) (P (k+1)) (P (k+2)):=by
 have h3:=h.sim.three
 obtain⟨s,hs,_,hmax⟩:=some_max (p:=fun _=>True) (f:=fun i=>norm2 (P i)) n ⟨0,by omega,trivial⟩
 have hmax:∀ i,norm2 (P i)≤norm2 (P s):=fun i=>by
  have:=hmax (i % n) (Nat.mod_lt _ (by omega)) trivial
  rwa [h.sim.mod] at this
 obtain⟨k,hk,hks⟩:∃ k,k<n∧(k+1) % n=s:=by
  by_cases hs0:s=0
  ·exact⟨n-1,by omega,by rw[show n-1+1=n by omega,Nat.mod_self,hs0]⟩
  exact⟨s-1,by omega,by rw[show s-1+1=s by omega,Nat.mod_eq_of_lt hs]⟩
 have hvs:P (k+1)=P s:=by rw[←h.sim.mod (k+1),hks]
 rw[←hvs] at hmax
 refine⟨k,hk,?_⟩
 have hu:along (P (k+1)) (P k)<along (P (k+1)) (P (k+1)):=far_strict (hmax k) (h.sim.ne k)
 have hw:along (P (k+1)) (P (k+2))<along (P (k+1)) (P (k+1)):=far_strict (hmax (k+2)) (Ne.symm (h.sim.ne (k+1)))
 have hall:∀ i,along (P (k+1)) (P i)≤along (P (k+1)) (P (k+1)):=fun i=>by
  by_cases e:P i=P (k+1)
  ·rw[e];grind
  have:=far_strict (hmax i) e;grind
 rcases Std.lt_trichotomy (crs (P k) (P (k+1)) (P (k+2))) 0 with hc | hc | hc
 ·exfalso
  have hj:(k+1) % n<n:=Nat.mod_lt _ (by omega)
  obtain⟨w0,w1,_⟩:=h.sim.wrap_corner (k+1)
  obtain⟨e,e0,he⟩:=near_all (n:=n) (b:=P (k+1)) (p:=fun i x=>i % n≠k % n→i % n≠(k+1) % n→∀ l:Rat,0≤l→l≤1→x≠at' (P i) (P (i+1)) l) (fun i hi=>by
   by_cases hi1:i % n=k % n
   ·exact⟨1,by grind,fun _ _ h=>absurd hi1 h⟩
   by_cases hi2:i % n=(k+1) % n
   ·exact⟨1,by grind,fun _ _ _ h=>absurd hi2 h⟩
   obtain⟨e,e0,he⟩:=near_off (h.sim.ne i) (b:=P (k+1)) (fun l l0 l1 e=>by
    rcases h.sim.corner_side l0 l1 e with h' | h'
    ·exact hi2 h'.symm
    exact hi1 (mod_shift (n:=n) (s:=1) (by omega) h'.symm))
   exact⟨e,e0,fun q hq _ _=>he q hq⟩)
  obtain⟨t,t0,t1,hq,hm⟩:=small_part (P (k+1)) ⟨(P (k+1)).x-(P k).x,(P (k+1)).y-(P k).y⟩ ⟨(P (k+2)).x-(P (k+1)).x,(P (k+2)).y-(P (k+1)).y⟩ e0
  dsimp only at hq hm
  have em:(⟨(P (k+1)).x+t*((P (k+2)).x-(P (k+1)).x),(P (k+1)).y+t*((P (k+2)).y-(P (k+1)).y)⟩:RP)=at' (P (k+1)) (P (k+2)) t:=rfl
  rw[em] at hm
  generalize hqd:(⟨(P (k+1)).x+t*((P (k+1)).x-(P k).x),(P (k+1)).y+t*((P (k+1)).y-(P k).y)⟩:RP)=q at *
  have eq:q=at' (P k) (P (k+1)) (1+t):=by rw[←hqd];unfold at';rw[RP.mk.injEq];constructor <;> grind
  have hout:wind n P q=0:=by
   refine h.sim.half_out hall ?_
   rw[eq,along_at]
   have:=mul_pp (a:=t) (b:=along (P (k+1)) (P (k+1))-along (P (k+1)) (P k)) t0 (by grind)
   grind
  have hone:wind n P q=lam n P ((k+1) % n):=by
   refine h.sim.left hj t0 (by grind) ?_ fun i hi hik=>?_
   ·rw[w0,w1]
    have:crs (P (k+1)) (P (k+1+1)) q=- t*crs (P k) (P (k+1)) (P (k+2)):=by rw[eq];unfold crs at';dsimp only;grind
    rw[this]
    have:=mul_pp (a:=t) (b:=- crs (P k) (P (k+1)) (P (k+2))) t0 (by grind)
    grind
   rw[w0,w1]
   have hine:i % n≠(k+1) % n:=fun e=>hik (by rw[←e,Nat.mod_eq_of_lt hi])
   by_cases hi1:i % n=k % n
   ·have a1:=h.sim.pmod hi1
    have a2:P (i+1)=P (k+1):=h.sim.pmod (by rw[←Nat.mod_add_mod,hi1,Nat.mod_add_mod])
    rw[a1,a2]
    intro l x l0 l1 x0 x1 e
    have z:=crs_at (P k) (P (k+1)) l
    rw[e,crs_lin] at z
    have cq:crs (P k) (P (k+1)) q=0:=by rw[eq,crs_at]
    have cm:crs (P k) (P (k+1)) (at' (P (k+1)) (P (k+1+1)) t)=t*crs (P k) (P (k+1)) (P (k+2)):=by unfold crs at';dsimp only;grind
    rw[cq,cm,Rat.mul_zero,Rat.zero_add] at z
    rcases Rat.mul_eq_zero.1 z with hx | hx
    ·rw[hx,at0,eq] at e
     have:=at_only (h.sim.ne k) e
     grind
    have:=mul_pp (a:=t) (b:=- crs (P k) (P (k+1)) (P (k+2))) t0 (by grind)
    grind
   intro l x l0 l1 x0 x1 e
   exact he _ (hq.seg hm x0 x1) i hi hi1 hine l l0 l1 e.symm
  rw[hout,h.sim.lam_all hj,h.one] at hone
  exact absurd hone (by decide)
 ·exfalso
  have hd:=h.sim.on hk rfl (by
   have:P ((k+1) % n+1)=P (k+2):=h.sim.pmod (by rw[Nat.mod_add_mod])
   rw[this];exact hc)
  rw[show P ((k+1) % n+1)=P (k+2) from h.sim.pmod (by rw[Nat.mod_add_mod])] at hd
  unfold along at hu hw
  unfold crs at hc
  generalize P k=u at *
  generalize P (k+2)=w at *
  generalize P (k+1)=v at *
  have key:((v.x-u.x)*(w.x-v.x)+(v.y-u.y)*(w.y-v.y))*((v.x-u.x)*v.x+(v.y-u.y)*v.y)=((v.x-u.x)*(v.x-u.x)+(v.y-u.y)*(v.y-u.y))*((w.x-v.x)*v.x+(w.y-v.y)*v.y):=by grind
  have p1:=mul_pp hd (b:=(v.x-u.x)*v.x+(v.y-u.y)*v.y) (by grind)
  have s1:=sq0 (v.x-u.x)
  have s2:=sq0 (v.y-u.y)
  have p2:=np_mul (a:=(w.x-v.x)*v.x+(w.y-v.y)*v.y) (b:=(v.x-u.x)*(v.x-u.x)+(v.y-u.y)*(v.y-u.y)) (by grind) (by grind)
  grind
 exact hc
theorem Diag.less (hs:Simple n P) {i j:Nat} (hd:Diag n P (i+n) (j+n)):Diag n P i j :=
 ⟨by have:=hd.lo;omega,by have:=hd.hi;omega,fun t t0 t1=>by have:=hd.ins t t0 t1;rwa [hs.per,hs.per] at this⟩
theorem cut_at {i j a:Nat} (h:a≤j-i):cutP P i j a=P (i+a):=by unfold cutP;rw[Nat.mod_eq_of_lt (by omega)]
theorem three_fun {i j:Nat} (h:j-i=2):cutP P i j=triP (P i) (P (i+1)) (P (i+2)):=by
 funext t
 unfold cutP triP
 rw[h]
 have:=Nat.mod_lt t (show 0<3 by decide)
 have h3:t % 3=0∨t % 3=1∨t % 3=2:=by omega
 rcases h3 with e | e | e <;> rw[show t % (2+1)=t % 3 from rfl,e] <;> rfl
theorem EarAt.up (h:Pos n P) {i j k:Nat} (hd:Diag n P i j) (hk:k+2≤j-i) (he:EarAt (j-i+1) (cutP P i j) k):EarAt n P (i+k):=by
 have h3:=h.sim.three
 have g1:=hd.lo
 have g2:=hd.hi
 have hQ:=hd.pos h
 have hR:=(hd.back h.sim).pos h
 have c0:cutP P i j k=P (i+k):=cut_at (by omega)
 have c1:cutP P i j (k+1)=P (i+k+1):=cut_at (by omega)
 have c2:cutP P i j (k+2)=P (i+k+2):=cut_at (by omega)
 have hpos:=he.pos
 rw[c0,c1,c2] at hpos
 refine⟨hpos,fun m m0 m1 m2 hT=>?_⟩
 obtain⟨a,ha,hea⟩:∃ a,a<n∧m % n=(i+a) % n:=by
  refine⟨(m+(n-i % n)) % n,Nat.mod_lt _ (by omega),?_⟩
  have hi:=Nat.mod_lt i (show 0<n by omega)
  rw[Nat.add_mod_mod,←Nat.mod_add_mod,show i % n+(m+(n-i % n))=m+n by omega,Nat.add_mod_right]
 rw[h.sim.pmod hea] at hT
 have a0:a≠k:=fun e=>m0 (by rw[hea,e])
 have a1:a≠k+1:=fun e=>m1 (by rw[hea,e];rfl)
 have a2:a≠k+2:=fun e=>m2 (by rw[hea,e];rfl)
 by_cases haj:a≤j-i
 ·refine he.emp a ?_ ?_ ?_ ?_
  ·rw[Nat.mod_eq_of_lt (by omega),Nat.mod_eq_of_lt (by omega)];exact a0
  ·rw[Nat.mod_eq_of_lt (by omega),Nat.mod_eq_of_lt (by omega)];exact a1
  ·rw[Nat.mod_eq_of_lt (by omega),Nat.mod_eq_of_lt (by omega)];exact a2
  rw[c0,c1,c2,cut_at haj];exact hT
 have fz:0<crs (P (i+k)) (P (i+k+1)) (P (i+a)):=by
  refine Classical.byContradiction fun hn=>?_
  obtain⟨l,l0,l1,e⟩:=on_edge hpos (q:=P (i+a)) (by have:=hT.1;grind) hT.2.1 hT.2.2
  rcases h.sim.corner_side l0 l1 e with h | h
  ·exact mod_ne (n:=n) (s:=i) (a:=a) (b:=k) (by omega) (by omega) (by omega) h
  exact mod_ne (n:=n) (s:=i) (a:=a) (b:=k+1) (by omega) (by omega) (by omega) h
 have gz:0<crs (P (i+k+1)) (P (i+k+2)) (P (i+a)):=by
  refine Classical.byContradiction fun hn=>?_
  obtain⟨l,l0,l1,e⟩:=on_edge (u:=P (i+k+1)) (v:=P (i+k+2)) (w:=P (i+k)) (by rw[(crs_cyc (P (i+k)) (P (i+k+1)) (P (i+k+2))).1];exact hpos) (q:=P (i+a)) (by have:=hT.2.1;grind) hT.2.2 hT.1
  rcases h.sim.corner_side l0 l1 e with h | h
  ·exact mod_ne (n:=n) (s:=i) (a:=a) (b:=k+1) (by omega) (by omega) (by omega) h
  exact mod_ne (n:=n) (s:=i) (a:=a) (b:=k+2) (by omega) (by omega) (by omega) h
 have hin:In (j-i+1) (cutP P i j) (P (i+a)):=by
  by_cases h4:4≤j-i+1
  ·refine he.ins hQ h4 ?_ ?_ ?_
   ·rw[c0,c1];exact fz
   ·rw[c1,c2];exact gz
   rw[c2,c0];exact hT.2.2
  have hk0:k=0:=by omega
  subst hk0
  have hji:j-i=2:=by omega
  have hj:j=i+2:=by omega
  by_cases hz:0<crs (P (i+0+2)) (P (i+0)) (P (i+a))
  ·rw[three_fun hji,hji]
   exact (tri_in hpos _).2 ⟨fz,gz,hz⟩
  exfalso
  obtain⟨l,l0,l1,e⟩:=on_edge (u:=P (i+2)) (v:=P i) (w:=P (i+1)) (by rw[(crs_cyc (P i) (P (i+1)) (P (i+2))).2];exact hpos) (q:=P (i+a)) (by have:=hT.2.2;simp only[Nat.add_zero] at this hz;grind) (by have:=hT.1;simpa using this) (by have:=hT.2.1;simpa using this)
  have ln0:l≠0:=fun h0=>by
   rw[h0,at0] at e
   exact h.sim.corner_ne (mod_ne (n:=n) (s:=i) (a:=a) (b:=2) (by omega) (by omega) (by omega)) e
  have ln1:l≠1:=fun h1=>by
   rw[h1,at1] at e
   exact h.sim.corner_ne (x:=i+a) (y:=i) (by have:=mod_ne (n:=n) (s:=i) (a:=a) (b:=0) (by omega) (by omega) (by omega);simpa using this) e
  have hi:=(hd.ins l (by grind) (by grind)).1
  rw[hj,←e] at hi
  have:=(Off.mod h.sim).1 hi (i+a) 0 (by grind) (by grind)
  rw[at0] at this
  exact this rfl
 obtain⟨e,e0,hnear⟩:=hin.near hQ.sim
 have hb:i+a-j<i+n-j+1:=by omega
 obtain⟨q,hq,hqi⟩:=hR.border_in hb (l:=0) (by grind) (by grind) e0
 rw[at0,cut_at (by omega),show j+(i+a-j)=i+a by omega] at hq
 have hq1:=hnear q hq
 have hw:=cut_wind h.sim (i:=i) (j:=j) (by omega) (by omega) q
 rw[hq1.2,hqi.2] at hw
 have hoff:Off n P q:=by
  rw[Off.mod h.sim]
  intro m l l0 l1 e
  obtain⟨c,hc,hec⟩:∃ c,c<n∧m % n=(i+c) % n:=by
   refine⟨(m+(n-i % n)) % n,Nat.mod_lt _ (by omega),?_⟩
   have hi:=Nat.mod_lt i (show 0<n by omega)
   rw[Nat.add_mod_mod,←Nat.mod_add_mod,show i % n+(m+(n-i % n))=m+n by omega,Nat.add_mod_right]
  have e1:=h.sim.pmod hec
  have e2:P (m+1)=P (i+c+1):=h.sim.pmod (by rw[←Nat.mod_add_mod,hec,Nat.mod_add_mod])
  rw[e1,e2] at e
  by_cases hcj:c<j-i
  ·have:=hq1.1 c l (by omega) l0 l1
   rw[(cut_side hcj).1,(cut_side hcj).2] at this
   exact this e
  have hlt:i+c-j<i+n-j:=by omega
  have:=hqi.1 (i+c-j) l (by omega) l0 l1
  rw[(cut_side hlt).1,(cut_side hlt).2,show j+(i+c-j)=i+c by omega] at this
  exact this e
 rcases h.sim.wind_two hoff with e | e
 ·rw[e,h.one] at hw;omega
 rw[e,h.one] at hw;omega
theorem ear_ex:∀ (N n:Nat) (P:Nat→RP),n≤N→Pos n P→∃ k,k+2<n∧EarAt n P k
 | 0,n,P,hn,h=>by have:=h.sim.three;omega
 | N+1,n,P,hn,h=>by
  have h3:=h.sim.three
  obtain⟨k,hk,hD⟩:=h.left_corner
  by_cases hn3:n=3
  ·subst hn3
   have hk3:k=0∨k=1∨k=2:=by omega
   have e3:P 3=P 0:=h.sim.per 0
   have e4:P 4=P 1:=h.sim.per 1
   have hD0:0<crs (P 0) (P 1) (P 2):=by
    rcases hk3 with e | e | e <;> subst e
    ·exact hD
    ·rw[e3,(crs_cyc (P 0) (P 1) (P 2)).1] at hD;exact hD
    rw[e3,e4,(crs_cyc (P 0) (P 1) (P 2)).2] at hD;exact hD
   exact⟨0,by omega,hD0,fun m h0 h1 h2=>by
    exfalso
    have:=Nat.mod_lt m (show 0<3 by decide)
    omega⟩
  have h4:4≤n:=by omega
  have byDiag:∀ i j,j<n→Diag n P i j→∃ k,k+2<n∧EarAt n P k:=fun i j hj hd=>by
   have g1:=hd.lo
   have g2:=hd.hi
   obtain⟨q,hq,heq⟩:=ear_ex N (j-i+1) (cutP P i j) (by omega) (hd.pos h)
   exact⟨i+q,by omega,heq.up h hd (by omega)⟩
  have byDiag2:∀ i m,i≤n→Diag n P i m→∃ k,k+2<n∧EarAt n P k:=fun i m hi hd=>by
   have g1:=hd.lo
   have g2:=hd.hi
   by_cases hm:m<n
   ·exact byDiag i m hm hd
   have hb:Diag n P (m-n) i:=by
    refine Diag.less h.sim ?_
    rw[show m-n+n=m by omega]
    exact hd.back h.sim
   by_cases hin:i<n
   ·exact byDiag (m-n) i hin hb
   obtain rfl:i=n:=by omega
   have hc:Diag i P 0 (m-i):=by
    refine Diag.less h.sim ?_
    rw[show m-i+i=m by omega,Nat.zero_add]
    exact hd
   exact byDiag 0 (m-i) (by omega) hc
  rcases h.ear_or_diag hD with he | ⟨m,hd⟩
  ·by_cases hk2:k+2<n
   ·exact⟨k,hk2,he⟩
   have hd:=he.diag h h4
   by_cases hke:k+2=n
   ·exact byDiag2 (k+2) (k+n) (by omega) hd
   have hb:Diag n P (k+2-n) k:=by
    refine Diag.less h.sim ?_
    rw[show k+2-n+n=k+2 by omega]
    exact hd
   exact byDiag _ _ hk hb
  exact byDiag2 (k+1) m (by omega) hd
end Geo
end Go.Proofs.YthfokpchdlcidaaGreat
namespace Go.Proofs.YthfokpchdlcidaaGreat
namespace Geo
def Conv (S:RP→Prop):Prop:=∀ x y t,S x→S y→0≤t→t≤1→S (at' x y t)
theorem Conv.and {S T:RP→Prop} (h:Conv S) (k:Conv T):Conv fun q=>S q∧T q:=fun x y t hx hy t0 t1=>⟨h x y t hx.1 hy.1 t0 t1,k x y t hx.2 hy.2 t0 t1⟩
theorem between {a b c:RP} (hc:crs a b c=0):(∃ t:Rat,0≤t∧t≤1∧c=at' a b t)∨(∃ t:Rat,0≤t∧t≤1∧a=at' b c t)∨(∃ t:Rat,0≤t∧t≤1∧b=at' a c t):=by
 by_cases hab:a=b
 ·exact Or.inr (Or.inl ⟨0,by grind,by grind,by rw[at0];exact hab⟩)
 obtain⟨m,rfl⟩:=line_param hab hc
 by_cases h0:0≤m
 ·by_cases h1:m≤1
  ·exact Or.inl ⟨m,h0,h1,rfl⟩
  right;right
  have e:1 / m*m=1:=Rat.div_mul_cancel (by grind)
  obtain⟨q0,q1⟩:=div_mem (c:=1) (k:=m) (by grind) (by grind) (by grind)
  generalize 1 / m=s at *
  refine⟨s,q0,q1,?_⟩
  cases a;cases b
  unfold at'
  rw[RP.mk.injEq]
  constructor <;> grind
 right;left
 have e:1 / (1-m)*(1-m)=1:=Rat.div_mul_cancel (by grind)
 obtain⟨q0,q1⟩:=div_mem (c:=1) (k:=1-m) (by grind) (by grind) (by grind)
 generalize 1 / (1-m)=s at *
 refine⟨s,q0,q1,?_⟩
 cases a;cases b
 unfold at'
 rw[RP.mk.injEq]
 constructor <;> grind
theorem meets_line {a b c d:RP} (h:(0<crs a b c∧crs a b d<0)∨(crs a b c<0∧0<crs a b d)):∃ t:Rat,0≤t∧t≤1∧crs a b (at' c d t)=0:=by
 rcases h with ⟨h1,h2⟩ | ⟨h1,h2⟩
 ·have hk:0<crs a b c-crs a b d:=by grind
  have e:crs a b c / (crs a b c-crs a b d)*(crs a b c-crs a b d)=crs a b c:=Rat.div_mul_cancel (by grind)
  obtain⟨q0,q1⟩:=div_mem (c:=crs a b c) (k:=crs a b c-crs a b d) hk (by grind) (by grind)
  exact⟨_,q0,q1,by rw[crs_lin];grind⟩
 have hk:0<crs a b d-crs a b c:=by grind
 have e:(- crs a b c) / (crs a b d-crs a b c)*(crs a b d-crs a b c)=- crs a b c:=Rat.div_mul_cancel (by grind)
 obtain⟨q0,q1⟩:=div_mem (c:=- crs a b c) (k:=crs a b d-crs a b c) hk (by grind) (by grind)
 exact⟨_,q0,q1,by rw[crs_lin];grind⟩
section
variable {A B C D : RP → Prop}
theorem helly_cross (hA:Conv A) (hB:Conv B) (hC:Conv C) (hD:Conv D) {p q r s:RP} (hp:B p∧C p∧D p) (hq:A q∧C q∧D q) (hr:A r∧B r∧D r) (hs:A s∧B s∧C s)
  (h:(0<crs p q r∧crs p q s<0)∨(crs p q r<0∧0<crs p q s)):∃ x,A x∧B x∧C x∧D x:=by
 obtain⟨t,t0,t1,e⟩:=meets_line h
 have hxA:=hA _ _ t hr.1 hs.1 t0 t1
 have hxB:=hB _ _ t hr.2.1 hs.2.1 t0 t1
 generalize at' r s t=x at *
 rcases between e with ⟨u,u0,u1,eu⟩ | ⟨u,u0,u1,eu⟩ | ⟨u,u0,u1,eu⟩
 ·exact⟨x,hxA,hxB,by rw[eu];exact hC _ _ u hp.2.1 hq.2.1 u0 u1,by rw[eu];exact hD _ _ u hp.2.2 hq.2.2 u0 u1⟩
 ·exact⟨p,by rw[eu];exact hA _ _ u hq.1 hxA u0 u1,hp.1,hp.2.1,hp.2.2⟩
 exact⟨q,hq.1,by rw[eu];exact hB _ _ u hp.1 hxB u0 u1,hq.2.1,hq.2.2⟩
theorem helly_line (hA:Conv A) (hB:Conv B) (hC:Conv C) {p q r:RP} (hp:B p∧C p∧D p) (hq:A q∧C q∧D q) (hr:A r∧B r∧D r) (h:crs p q r=0):∃ x,A x∧B x∧C x∧D x:=by
 rcases between h with ⟨u,u0,u1,eu⟩ | ⟨u,u0,u1,eu⟩ | ⟨u,u0,u1,eu⟩
 ·exact⟨r,hr.1,hr.2.1,by rw[eu];exact hC _ _ u hp.2.1 hq.2.1 u0 u1,hr.2.2⟩
 ·exact⟨p,by rw[eu];exact hA _ _ u hq.1 hr.1 u0 u1,hp.1,hp.2.1,hp.2.2⟩
 exact⟨q,hq.1,by rw[eu];exact hB _ _ u hp.1 hr.2.1 u0 u1,hq.2.1,hq.2.2⟩
theorem helly4 (hA:Conv A) (hB:Conv B) (hC:Conv C) (hD:Conv D) (h1:∃ p,B p∧C p∧D p) (h2:∃ p,A p∧C p∧D p) (h3:∃ p,A p∧B p∧D p) (h4:∃ p,A p∧B p∧C p):∃ x,A x∧B x∧C x∧D x:=by
 obtain⟨p,hp⟩:=h1
 obtain⟨q,hq⟩:=h2
 obtain⟨r,hr⟩:=h3
 obtain⟨s,hs⟩:=h4
 by_cases l1:crs p q r=0
 ·exact helly_line hA hB hC hp hq hr l1
 by_cases l2:crs p q s=0
 ·obtain⟨x,x1,x2,x3,x4⟩:=helly_line (A:=A) (B:=B) (C:=D) (D:=C) hA hB hD ⟨hp.1,hp.2.2,hp.2.1⟩ ⟨hq.1,hq.2.2,hq.2.1⟩ hs l2
  exact⟨x,x1,x2,x4,x3⟩
 by_cases l3:crs p r s=0
 ·obtain⟨x,x1,x2,x3,x4⟩:=helly_line (A:=A) (B:=C) (C:=D) (D:=B) hA hC hD ⟨hp.2.1,hp.2.2,hp.1⟩ ⟨hr.1,hr.2.2,hr.2.1⟩ ⟨hs.1,hs.2.2,hs.2.1⟩ l3
  exact⟨x,x1,x4,x2,x3⟩
 by_cases c1:(0<crs p q r∧crs p q s<0)∨(crs p q r<0∧0<crs p q s)
 ·exact helly_cross hA hB hC hD hp hq hr hs c1
 by_cases c2:(0<crs p r q∧crs p r s<0)∨(crs p r q<0∧0<crs p r s)
 ·obtain⟨x,x1,x2,x3,x4⟩:=helly_cross (A:=A) (B:=C) (C:=B) (D:=D) hA hC hB hD (p:=p) (q:=r) (r:=q) (s:=s) ⟨hp.2.1,hp.1,hp.2.2⟩ hr hq ⟨hs.1,hs.2.2,hs.2.1⟩ c2
  exact⟨x,x1,x3,x2,x4⟩
 obtain⟨x,x1,x2,x3,x4⟩:=helly_cross (A:=A) (B:=D) (C:=B) (D:=C) hA hD hB hC (p:=p) (q:=s) (r:=q) (s:=r) ⟨hp.2.2,hp.1,hp.2.1⟩ hs ⟨hq.1,hq.2.2,hq.2.1⟩ ⟨hr.1,hr.2.2,hr.2.1⟩ (by
  have e1:crs p r q=- crs p q r:=by unfold crs;grind
  have e2:crs p s q=- crs p q s:=by unfold crs;grind
  have e3:crs p s r=- crs p r s:=by unfold crs;grind
  rw[e2,e3]
  rw[e1] at c2
  rcases Std.lt_trichotomy (crs p q r) 0 with a | a | a
  ·rcases Std.lt_trichotomy (crs p q s) 0 with b | b | b
   ·rcases Std.lt_trichotomy (crs p r s) 0 with c | c | c
    ·exact absurd (Or.inl ⟨by grind,c⟩) c2
    ·exact absurd c l3
    exact Or.inl ⟨by grind,by grind⟩
   ·exact absurd b l2
   exact absurd (Or.inr ⟨a,b⟩) c1
  ·exact absurd a l1
  rcases Std.lt_trichotomy (crs p q s) 0 with b | b | b
  ·exact absurd (Or.inl ⟨a,b⟩) c1
  ·exact absurd b l2
  rcases Std.lt_trichotomy (crs p r s) 0 with c | c | c
  ·exact Or.inr ⟨by grind,by grind⟩
  ·exact absurd c l3
  exact absurd (Or.inr ⟨by grind,c⟩) c2)
 exact⟨x,x1,x3,x4,x2⟩
end
theorem helly6 (S:Nat→RP→Prop) (hc:∀ i,Conv (S i)) (h3:∀ i j k,i<6→j<6→k<6→∃ q,S i q∧S j q∧S k q):∃ q,∀ i,i<6→S i q:=by
 have quad:∀ i j k l,i<6→j<6→k<6→l<6→∃ q,S i q∧S j q∧S k q∧S l q:=fun i j k l hi hj hk hl =>
  helly4 (hc i) (hc j) (hc k) (hc l) (h3 j k l hj hk hl) (h3 i k l hi hk hl) (h3 i j l hi hj hl) (h3 i j k hi hj hk)
 have quint:∀ i j k l m,i<6→j<6→k<6→l<6→m<6→∃ q,(S i q∧S j q)∧S k q∧S l q∧S m q:=fun i j k l m hi hj hk hl hm =>
  helly4 ((hc i).and (hc j)) (hc k) (hc l) (hc m) (h3 k l m hk hl hm) (by obtain⟨q,a,b,c,d⟩:=quad i j l m hi hj hl hm;exact⟨q,⟨a,b⟩,c,d⟩)
   (by obtain⟨q,a,b,c,d⟩:=quad i j k m hi hj hk hm;exact⟨q,⟨a,b⟩,c,d⟩) (by obtain⟨q,a,b,c,d⟩:=quad i j k l hi hj hk hl;exact⟨q,⟨a,b⟩,c,d⟩)
 obtain⟨q,⟨a,b⟩,⟨c,d⟩,e,f⟩:=helly4 (A:=fun q=>S 0 q∧S 1 q) (B:=fun q=>S 2 q∧S 3 q) (C:=S 4) (D:=S 5) ((hc 0).and (hc 1)) ((hc 2).and (hc 3)) (hc 4) (hc 5)
  (by obtain⟨q,a,b,c,d⟩:=quad 2 3 4 5 (by decide) (by decide) (by decide) (by decide);exact⟨q,⟨a,b⟩,c,d⟩)
  (by obtain⟨q,a,b,c,d⟩:=quad 0 1 4 5 (by decide) (by decide) (by decide) (by decide);exact⟨q,⟨a,b⟩,c,d⟩)
  (by obtain⟨q,⟨a,b⟩,c,d,e⟩:=quint 0 1 2 3 5 (by decide) (by decide) (by decide) (by decide) (by decide);exact⟨q,⟨a,b⟩,⟨c,d⟩,e⟩)
  (by obtain⟨q,⟨a,b⟩,c,d,e⟩:=quint 0 1 2 3 4 (by decide) (by decide) (by decide) (by decide) (by decide);exact⟨q,⟨a,b⟩,⟨c,d⟩,e⟩)
 refine⟨q,fun i hi=>?_⟩
 have:i=0∨i=1∨i=2∨i=3∨i=4∨i=5:=by omega
 rcases this with h | h | h | h | h | h <;> subst h <;> assumption
theorem left_conv (a b:RP):Conv fun q=>0<crs a b q:=fun x y t hx hy t0 t1=>by
 have:=conv3 (a:=a) (b:=b) (c:=a) (d:=b) (e:=a) (f:=b) (r:=0) (s:=0) (z:=0) t0 t1 ⟨hx,hx,hx⟩ ⟨hy,hy,hy⟩
 exact this.1
theorem tri_some {a b c d e:RP} (h:0<crs a b c) {v:RP} (hv:Tri a b c v) (hl:0<crs d e v):∃ q,0<crs a b q∧0<crs b c q∧0<crs c a q∧0<crs d e q:=by
 obtain⟨z1,z2,z3⟩:=third a b c
 generalize (⟨(a.x+b.x+c.x) / 3,(a.y+b.y+c.y) / 3⟩:RP)=m at *
 obtain⟨f,f0,hf⟩:=left_near (c:=d) (d:=e) (a:=v) hl
 obtain⟨x,x0,xh,hx,_⟩:=near_parts v v m m f0
 refine⟨at' v m x,?_,?_,?_,hf _ hx⟩
 ·rw[crs_lin,z1]
  have p1:=mul_nn (a:=1-x) (by grind) hv.1
  have p2:=mul_pp (a:=x) (b:=crs a b c / 3) x0 (by grind)
  grind
 ·rw[crs_lin,z2]
  have p1:=mul_nn (a:=1-x) (by grind) hv.2.1
  have p2:=mul_pp (a:=x) (b:=crs a b c / 3) x0 (by grind)
  grind
 rw[crs_lin,z3]
 have p1:=mul_nn (a:=1-x) (by grind) hv.2.2
 have p2:=mul_pp (a:=x) (b:=crs a b c / 3) x0 (by grind)
 grind
theorem tri_corners {a b c:RP} (h:0<crs a b c):Tri a b c a∧Tri a b c b∧Tri a b c c:=by
 obtain⟨c1,c2⟩:=crs_cyc a b c
 refine⟨⟨?_,?_,?_⟩,⟨?_,?_,?_⟩,⟨?_,?_,?_⟩⟩
 ·rw[crs_self1];grind
 ·rw[c1];grind
 ·rw[crs_self2];grind
 ·rw[crs_self2];grind
 ·rw[crs_self1];grind
 ·rw[c2];grind
 ·grind
 ·rw[crs_self2];grind
 rw[crs_self1];grind
def Sided (a b c p q r:RP):Prop:=(0<crs a b p∨0<crs a b q∨0<crs a b r)∧(0<crs b c p∨0<crs b c q∨0<crs b c r)∧(0<crs c a p∨0<crs c a q∨0<crs c a r)
def InT (a b c q:RP):Prop:=0<crs a b q∧0<crs b c q∧0<crs c a q
theorem sided_some {a b c p q r:RP} (h:0<crs p q r) {d e:RP} (hs:0<crs d e p∨0<crs d e q∨0<crs d e r):∃ x,InT p q r x∧0<crs d e x:=by
 obtain⟨t1,t2,t3⟩:=tri_corners h
 rcases hs with hs | hs | hs
 ·obtain⟨x,a,b,c,d⟩:=tri_some h t1 hs;exact⟨x,⟨a,b,c⟩,d⟩
 ·obtain⟨x,a,b,c,d⟩:=tri_some h t2 hs;exact⟨x,⟨a,b,c⟩,d⟩
 obtain⟨x,a,b,c,d⟩:=tri_some h t3 hs;exact⟨x,⟨a,b,c⟩,d⟩
def sixL (a b c p q r:RP):Nat→RP→Prop
 | 0,x=>0<crs a b x
 | 1,x=>0<crs b c x
 | 2,x=>0<crs c a x
 | 3,x=>0<crs p q x
 | 4,x=>0<crs q r x
 | _,x=>0<crs r p x
theorem sixL_conv (a b c p q r:RP):∀ i,Conv (sixL a b c p q r i)
 | 0=>left_conv a b
 | 1=>left_conv b c
 | 2=>left_conv c a
 | 3=>left_conv p q
 | 4=>left_conv q r
 | _+5=>left_conv r p
theorem sided_meet {a b c p q r:RP} (h1:0<crs a b c) (h2:0<crs p q r) (s1:Sided a b c p q r) (s2:Sided p q r a b c):∃ x,InT a b c x∧InT p q r x:=by
 have byB:∀ i,i<3→∃ x,InT p q r x∧sixL a b c p q r i x:=fun i hi=>by
  have:i=0∨i=1∨i=2:=by omega
  rcases this with e | e | e <;> subst e
  ·exact sided_some (a:=a) (b:=b) (c:=c) h2 s1.1
  ·exact sided_some (a:=a) (b:=b) (c:=c) h2 s1.2.1
  exact sided_some (a:=a) (b:=b) (c:=c) h2 s1.2.2
 have byA:∀ i,3≤i→i<6→∃ x,InT a b c x∧sixL a b c p q r i x:=fun i h3 hi=>by
  have:i=3∨i=4∨i=5:=by omega
  rcases this with e | e | e <;> subst e
  ·exact sided_some (a:=a) (b:=b) (c:=c) h1 s2.1
  ·exact sided_some (a:=a) (b:=b) (c:=c) h1 s2.2.1
  exact sided_some (a:=a) (b:=b) (c:=c) h1 s2.2.2
 have ofA:∀ {x},InT a b c x→∀ i,i<3→sixL a b c p q r i x:=fun hx i hi=>by
  have:i=0∨i=1∨i=2:=by omega
  rcases this with e | e | e <;> subst e
  ·exact hx.1
  ·exact hx.2.1
  exact hx.2.2
 have ofB:∀ {x},InT p q r x→∀ i,3≤i→i<6→sixL a b c p q r i x:=fun hx i h3 hi=>by
  have:i=3∨i=4∨i=5:=by omega
  rcases this with e | e | e <;> subst e
  ·exact hx.1
  ·exact hx.2.1
  exact hx.2.2
 have inA:∃ x,InT a b c x:=by obtain⟨x,hx,_⟩:=byA 3 (by decide) (by decide);exact⟨x,hx⟩
 have inB:∃ x,InT p q r x:=by obtain⟨x,hx,_⟩:=byB 0 (by decide);exact⟨x,hx⟩
 obtain⟨x,hx⟩:=helly6 (sixL a b c p q r) (sixL_conv a b c p q r)
  (fun i j k hi hj hk=>by
   rcases Nat.lt_or_ge i 3 with ci | ci <;> rcases Nat.lt_or_ge j 3 with cj | cj <;> rcases Nat.lt_or_ge k 3 with ck | ck
   ·obtain⟨x,h⟩:=inA;exact⟨x,ofA h i ci,ofA h j cj,ofA h k ck⟩
   ·obtain⟨x,h,h'⟩:=byA k ck hk;exact⟨x,ofA h i ci,ofA h j cj,h'⟩
   ·obtain⟨x,h,h'⟩:=byA j cj hj;exact⟨x,ofA h i ci,h',ofA h k ck⟩
   ·obtain⟨x,h,h'⟩:=byB i ci;exact⟨x,h',ofB h j cj hj,ofB h k ck hk⟩
   ·obtain⟨x,h,h'⟩:=byA i ci hi;exact⟨x,h',ofA h j cj,ofA h k ck⟩
   ·obtain⟨x,h,h'⟩:=byB j cj;exact⟨x,ofB h i ci hi,h',ofB h k ck hk⟩
   ·obtain⟨x,h,h'⟩:=byB k ck;exact⟨x,ofB h i ci hi,ofB h j cj hj,h'⟩
   obtain⟨x,h⟩:=inB;exact⟨x,ofB h i ci hi,ofB h j cj hj,ofB h k ck hk⟩)
 exact⟨x,⟨hx 0 (by decide),hx 1 (by decide),hx 2 (by decide)⟩,⟨hx 3 (by decide),hx 4 (by decide),hx 5 (by decide)⟩⟩
theorem some_left {p q r x d e:RP} (h:0<crs p q r) (hx:InT p q r x) (hl:0<crs d e x):0<crs d e p∨0<crs d e q∨0<crs d e r:=by
 refine Classical.byContradiction fun hn=>?_
 have key:crs q r x*crs d e p+crs r p x*crs d e q+crs p q x*crs d e r=crs p q r*crs d e x:=by unfold crs;grind
 have p1:=mul_nn (a:=crs q r x) (b:=- crs d e p) (by have:=hx.2.1;grind) (by grind)
 have p2:=mul_nn (a:=crs r p x) (b:=- crs d e q) (by have:=hx.2.2;grind) (by grind)
 have p3:=mul_nn (a:=crs p q x) (b:=- crs d e r) (by have:=hx.1;grind) (by grind)
 have p4:=mul_pp h hl
 grind
theorem meet_sided {a b c p q r x:RP} (h2:0<crs p q r) (ha:InT a b c x) (hb:InT p q r x):Sided a b c p q r :=
 ⟨some_left h2 hb ha.1,some_left h2 hb ha.2.1,some_left h2 hb ha.2.2⟩
theorem sided_iff {a b c p q r:RP} (h1:0<crs a b c) (h2:0<crs p q r):(Sided a b c p q r∧Sided p q r a b c)↔∃ x,InT a b c x∧InT p q r x :=
 ⟨fun h=>sided_meet h1 h2 h.1 h.2,fun ⟨_,ha,hb⟩=>⟨meet_sided h2 ha hb,meet_sided h1 hb ha⟩⟩
def Dense (S:RP→Prop):Prop:=∀ q e,(0:Rat)<e→∃ r,Near e q r∧∃ f:Rat,0<f∧∀ s,Near f r s→S s
theorem Near.add {e f:Rat} {a b c:RP} (h:Near e a b) (k:Near f b c):Near (e+f) a c:=by unfold Near at *;grind
theorem Dense.and {S T:RP→Prop} (h:Dense S) (k:Dense T):Dense fun q=>S q∧T q:=fun q e e0=>by
 obtain⟨r,hr,f,f0,hf⟩:=h q (e / 2) (by grind)
 obtain⟨g,g0,g1,g2⟩:∃ g:Rat,0<g∧g≤e / 2∧g≤f / 2:=by
  rcases Rat.le_total (a:=e / 2) (b:=f / 2) with h | h
  ·exact⟨e / 2,by grind,by grind,h⟩
  exact⟨f / 2,by grind,h,by grind⟩
 obtain⟨s,hs,m,m0,hm⟩:=k r g g0
 obtain⟨m',m0',m1',m2'⟩:∃ x:Rat,0<x∧x≤m∧x≤f / 2:=by
  rcases Rat.le_total (a:=m) (b:=f / 2) with h | h
  ·exact⟨m,m0,by grind,h⟩
  exact⟨f / 2,by grind,h,by grind⟩
 refine⟨s,(hr.add (hs.mono g1)).mono (by grind),m',m0',fun x hx=>⟨hf x (((hs.mono g2).add (hx.mono m2')).mono (by grind)),hm x (hx.mono m1')⟩⟩
theorem dense_off {a b:RP} (hne:a≠b):Dense fun q=>∀ l:Rat,0≤l→l≤1→q≠at' a b l:=fun q e e0=>by
 by_cases h:∀ l:Rat,0≤l→l≤1→q≠at' a b l
 ·obtain⟨f,f0,hf⟩:=near_off hne h
  exact⟨q,Near.self e0 q,f,f0,hf⟩
 have hc:crs a b q=0:=by
  refine Classical.byContradiction fun hc=>h fun l _ _ e=>hc (by rw[e,crs_at])
 obtain⟨r,hr,hl⟩:=left_pt hne hc (.inl rfl) e0
 obtain⟨f,f0,hf⟩:=left_near (c:=a) (d:=b) (a:=r) (by grind)
 exact⟨r,hr,f,f0,fun s hs l _ _ e=>by have:=hf s hs;rw[e,crs_at] at this;exact absurd this (by decide)⟩
theorem dense_all {S:Nat→RP→Prop}:∀ {n:Nat},(∀ i,i<n→Dense (S i))→Dense fun q=>∀ i,i<n→S i q
 | 0,_=>fun q e e0=>⟨q,Near.self e0 q,1,by grind,fun _ _ i hi=>by omega⟩
 | n+1,h=>fun q e e0=>by
  obtain⟨r,hr,f,f0,hf⟩:=(Dense.and (dense_all (n:=n) fun i hi=>h i (by omega)) (h n (by omega))) q e e0
  refine⟨r,hr,f,f0,fun s hs i hi=>?_⟩
  rcases Nat.lt_succ_iff_lt_or_eq.1 hi with h | h
  ·exact (hf s hs).1 i h
  rw[h];exact (hf s hs).2
theorem Simple.dense {n:Nat} {P:Nat→RP} (h:Simple n P):Dense (Off n P):=fun q e e0=>by
 obtain⟨r,hr,f,f0,hf⟩:=dense_all (n:=n) (fun i _=>dense_off (h.ne i)) q e e0
 exact⟨r,hr,f,f0,fun s hs i l hi l0 l1=>hf s hs i hi l l0 l1⟩
end Geo
end Go.Proofs.YthfokpchdlcidaaGreat
namespace Go.Proofs.YthfokpchdlcidaaGreat
namespace Geo
variable {n : Nat} {P : Nat → RP}
theorem wc_mid {u w:RP} {s:Rat} (s0:0<s) (s1:s<1) (q:RP):wc u (at' u w s) q+wc (at' u w s) w q=wc u w q:=by
 have c1:crs u (at' u w s) q=s*crs u w q:=by unfold crs at';dsimp only;grind
 have c2:crs (at' u w s) w q=(1-s)*crs u w q:=by unfold crs at';dsimp only;grind
 have hp1:0<crs u (at' u w s) q↔0<crs u w q:=by
  rw[c1]
  exact⟨fun h=>pos_of_mul (k:=s) s0 (by grind),fun h=>mul_pp s0 h⟩
 have hp2:0<crs (at' u w s) w q↔0<crs u w q:=by
  rw[c2]
  exact⟨fun h=>pos_of_mul (k:=1-s) (by grind) (by grind),fun h=>mul_pp (by grind) h⟩
 have hn1:crs u (at' u w s) q<0↔crs u w q<0:=by
  rw[c1]
  exact⟨fun h=>neg_of_mul (k:=s) s0 (by grind),fun h=>by have:=mul_pp (a:=s) (b:=- crs u w q) s0 (by grind);grind⟩
 have hn2:crs (at' u w s) w q<0↔crs u w q<0:=by
  rw[c2]
  exact⟨fun h=>neg_of_mul (k:=1-s) (by grind) (by grind),fun h=>by have:=mul_pp (a:=1-s) (b:=- crs u w q) (by grind) (by grind);grind⟩
 have hy:(u.y≤w.y→u.y≤(at' u w s).y∧(at' u w s).y≤w.y)∧(w.y≤u.y→w.y≤(at' u w s).y∧(at' u w s).y≤u.y):=by
  rw[at_y]
  constructor
  ·intro h
   have p1:=mul_nn (a:=s) (b:=w.y-u.y) (by grind) (by grind)
   have p2:=mul_nn (a:=1-s) (b:=w.y-u.y) (by grind) (by grind)
   constructor <;> grind
  intro h
  have p1:=mul_nn (a:=s) (b:=u.y-w.y) (by grind) (by grind)
  have p2:=mul_nn (a:=1-s) (b:=u.y-w.y) (by grind) (by grind)
  constructor <;> grind
 unfold wc
 simp only[hp1,hp2,hn1,hn2]
 generalize (at' u w s).y=m at *
 by_cases a1:u.y≤q.y <;> by_cases a2:m≤q.y <;> by_cases a3:w.y≤q.y <;> by_cases a4:0<crs u w q <;> by_cases a5:crs u w q<0 <;> by_cases a6:q.y<m <;> by_cases a7:q.y<w.y <;> simp only[a1,a2,a3,a4,a5,a6,a7,if_true,if_false] <;> first | rfl | (exfalso;grind)
theorem Simple.straight_mid (h:Simple n P) {k:Nat} (hc:crs (P k) (P (k+1)) (P (k+2))=0):∃ s:Rat,0<s∧s<1∧P (k+1)=at' (P k) (P (k+2)) s:=by
 have h3:=h.three
 have hk:k % n<n:=Nat.mod_lt _ (by omega)
 obtain⟨w0,w1,w2⟩:=h.wrap_corner k
 have e2:P ((k % n+1) % n+1)=P (k+2):=h.pmod (by rw[Nat.mod_add_mod,Nat.add_assoc,Nat.mod_add_mod])
 have hd:=h.on hk rfl (by rw[w0,w1,e2];exact hc)
 rw[w0,w1,e2] at hd
 obtain⟨m,hm⟩:=line_param (h.ne k) hc
 have hn:=h.ne k
 generalize P k=u at *
 generalize P (k+1)=v at *
 generalize P (k+2)=w at *
 subst hm
 have s1:=sq0 (v.x-u.x)
 have s2:=sq0 (v.y-u.y)
 have hL:0≤(v.x-u.x)*(v.x-u.x)+(v.y-u.y)*(v.y-u.y):=by grind
 have hm1:1<m:=by
  refine Classical.byContradiction fun hn=>?_
  have:=mul_nn (a:=1-m) (b:=(v.x-u.x)*(v.x-u.x)+(v.y-u.y)*(v.y-u.y)) (by grind) hL
  unfold at' at hd
  dsimp only at hd
  grind
 have e:1 / m*m=1:=Rat.div_mul_cancel (by grind)
 obtain⟨q0,q1⟩:=div_mem (c:=1) (k:=m) (by grind) (by grind) (by grind)
 generalize 1 / m=s at *
 refine⟨s,?_,?_,?_⟩
 ·refine Classical.byContradiction fun hn=>?_
  have:s=0:=by grind
  rw[this,Rat.zero_mul] at e
  exact absurd e (by decide)
 ·refine Classical.byContradiction fun hn=>?_
  have:s=1:=by grind
  rw[this,Rat.one_mul] at e
  grind
 cases u;cases v
 unfold at'
 rw[RP.mk.injEq]
 constructor <;> grind
theorem cut_three (h:Simple n P) (k:Nat) (q:RP):wind (k+2+n-(k+n)+1) (cutP P (k+n) (k+2+n)) q=wc (P k) (P (k+1)) q+wc (P (k+1)) (P (k+2)) q+wc (P (k+2)) (P k) q:=by
 rw[three_fun (by omega),show k+2+n-(k+n)+1=3 by omega,tri_wind,h.per k,show k+n+1=k+1+n by omega,h.per,show k+n+2=k+2+n by omega,h.per]
theorem Pos.ear_cut (h:Pos n P) (h4:4≤n) {k:Nat} (he:EarAt n P k) :
  Pos (n-1) (cutP P (k+2) (k+n))∧∀ q,wind n P q=wind (n-1) (cutP P (k+2) (k+n)) q+wind 3 (triP (P k) (P (k+1)) (P (k+2))) q:=by
 have e:k+n-(k+2)+1=n-1:=by omega
 have hp:=(he.diag h h4).pos h
 rw[e] at hp
 refine⟨hp,fun q=>?_⟩
 have:=cut_wind h.sim (i:=k+2) (j:=k+n) (by omega) (by omega) q
 rw[e,cut_three h.sim] at this
 rw[this,tri_wind]
theorem Pos.straight_cut (h:Pos n P) (h4:4≤n) {k:Nat} (hc:crs (P k) (P (k+1)) (P (k+2))=0) :
  Pos (n-1) (cutP P (k+2) (k+n))∧∀ q,wind n P q=wind (n-1) (cutP P (k+2) (k+n)) q:=by
 have e:k+n-(k+2)+1=n-1:=by omega
 obtain⟨s,s0,s1,hv⟩:=h.sim.straight_mid hc
 have hw:∀ q,wind n P q=wind (n-1) (cutP P (k+2) (k+n)) q:=fun q=>by
  have:=cut_wind h.sim (i:=k+2) (j:=k+n) (by omega) (by omega) q
  rw[e,cut_three h.sim,hv,wc_mid s0 s1,wc_rev] at this
  rw[this];omega
 have hs:Simple (k+n-(k+2)+1) (cutP P (k+2) (k+n)):=by
  refine cut_simple2 h.sim (by omega) (by omega) fun t t0 t1 a ha l l0 l1 e=>?_
  rw[h.sim.per] at e
  rcases Rat.le_total (a:=t) (b:=s) with hts | hts
  ·-- on the first side
   have e1:t / s*s=t:=Rat.div_mul_cancel (by grind)
   obtain⟨q0,q1⟩:=div_mem (c:=t) (k:=s) s0 (by grind) hts
   generalize t / s=x at *
   have e2:at' (P k) (P (k+1)) x=at' (P (k+2+a)) (P (k+2+a+1)) l:=by
    rw[←e,hv]
    unfold at'
    rw[RP.mk.injEq]
    dsimp only
    constructor <;> grind
   have hne:k % n≠(k+2+a) % n:=by
    rw[Nat.add_assoc k 2 a]
    exact mod_ne (n:=n) (s:=k) (a:=0) (b:=2+a) (by omega) (by omega) (by omega)
   rcases h.sim.touch_mod hne q0 q1 l0 l1 e2 with ⟨y,_,_⟩ | ⟨_,y,_⟩
   ·rw[Nat.add_assoc k 2 a] at y
    exact mod_ne (n:=n) (s:=k) (a:=2+a) (b:=1) (by omega) (by omega) (by omega) y
   rw[y,Rat.zero_mul] at e1;grind
  have hk:(0:Rat)<1-s:=by grind
  have e1:(t-s) / (1-s)*(1-s)=t-s:=Rat.div_mul_cancel (by grind)
  obtain⟨q0,q1⟩:=div_mem (c:=t-s) (k:=1-s) hk (by grind) (by grind)
  generalize (t-s) / (1-s)=x at *
  have e2:at' (P (k+1)) (P (k+1+1)) x=at' (P (k+2+a)) (P (k+2+a+1)) l:=by
   rw[←e,hv]
   unfold at'
   rw[RP.mk.injEq]
   dsimp only
   constructor <;> grind
  have hne:(k+1) % n≠(k+2+a) % n:=by
   rw[Nat.add_assoc k 2 a]
   exact mod_ne (n:=n) (s:=k) (a:=1) (b:=2+a) (by omega) (by omega) (by omega)
  rcases h.sim.touch_mod hne q0 q1 l0 l1 e2 with ⟨_,y,_⟩ | ⟨y,_,_⟩
  ·rw[y,Rat.one_mul] at e1;grind
  by_cases hlt:3+a<n
  ·rw[show k+2+a+1=k+(3+a) by omega] at y
   exact mod_ne (n:=n) (s:=k) (a:=1) (b:=3+a) (by omega) hlt (by omega) y
  rw[show k+2+a+1=k+n by omega,Nat.add_mod_right] at y
  exact mod_ne (n:=n) (s:=k) (a:=1) (b:=0) (by omega) (by omega) (by omega) y
 refine⟨?_,hw⟩
 rw[e] at hs
 refine⟨hs,?_⟩
 obtain⟨e1,e10,h1⟩:=hs.side_wind (i:=0) (by omega) (t:=1 / 2) (by grind) (by grind)
 have hi:(k+2) % n<n:=Nat.mod_lt _ (by omega)
 obtain⟨e2,e20,h2⟩:=h.side_near hi (t:=1 / 2) (by grind) (by grind)
 obtain⟨w0,w1,_⟩:=h.sim.wrap_corner (k+2)
 rw[w0,w1] at h2
 have c:=cut_side (P:=P) (i:=k+2) (j:=k+n) (a:=0) (by omega)
 rw[c.1,c.2] at h1
 obtain⟨g,g0,ga,gb⟩:∃ g:Rat,0<g∧g≤e1∧g≤e2:=by
  rcases Rat.le_total (a:=e1) (b:=e2) with a | a
  ·exact⟨e1,e10,by grind,a⟩
  exact⟨e2,e20,a,by grind⟩
 obtain⟨q,hq,hl⟩:=left_pt (h.sim.ne (k+2)) (crs_at _ _ (1 / 2)) (.inl rfl) g0
 have a1:=((h1 q (hq.mono ga)).1 (by simp only[Nat.add_zero];grind)).2
 have a2:=((h2 q (hq.mono gb)).1 (by grind)).2
 rw[←a1,←hw,a2]
end Geo
end Go.Proofs.YthfokpchdlcidaaGreat
namespace Go.Proofs.YthfokpchdlcidaaGreat
namespace Cal
open Geo (RP at' Simple Pos In Out Off wind wc EarAt Tri triP Near Dense InT Sided)
def earA (p:List Pt) (i:Nat):Pt:=p[(i+p.length-1) % p.length]?.getD pt0
def earB (p:List Pt) (i:Nat):Pt:=p[i]?.getD pt0
def earC (p:List Pt) (i:Nat):Pt:=p[(i+1) % p.length]?.getD pt0
def triAt (p:List Pt) (i:Nat):List Pt:=[earA p i,earB p i,earC p i]
def inEar (p:List Pt) (i k:Nat):Bool :=
 !ptB (p[k]?.getD pt0) (earA p i) && (!ptB (p[k]?.getD pt0) (earB p i) && (!ptB (p[k]?.getD pt0) (earC p i) && decide (0≤whereP (triAt p i) (p[k]?.getD pt0))))
theorem ptB_not {p q:Pt}:(!ptB p q)=true↔p≠q:=by
 rw[Bool.not_eq_true',←Bool.not_eq_true,ptB_iff]
theorem sd_tri (a b c:Pt):sd [a,b,c] 0=⟨a,b⟩∧sd [a,b,c] 1=⟨b,c⟩∧sd [a,b,c] 2=⟨c,a⟩:=by
 refine⟨rfl,rfl,?_⟩
 unfold sd
 rw[show (2+1) % [a,b,c].length=0 from by simp]
 rfl
def earR (p:List Pt) (i:Nat):Int :=
 if crs ⟨earA p i,earB p i⟩ (earC p i)≤0 then (if crs ⟨earA p i,earB p i⟩ (earC p i)=0 then 0 else -1) else if (List.range p.length).any (inEar p i)=true then -1 else 1
def firstEar (p:List Pt):Option Nat:=(List.range p.length).find? fun i=>decide (0≤earR p i)
def trisR:Nat→List Pt→List (List Pt)
 | 0,_=>[]
 | f+1,p=>if p.length≤2 then [] else match firstEar p with
  | none=>[]
  | some i=>(if earR p i=1 then [triAt p i] else []) ++ trisR f (p.eraseIdx i)
def trisOf (p:List Pt):List (List Pt):=trisR p.length p
def apartR (s t:List Pt):Bool:=(List.range 3).any fun i=>decide (crs (sd s i) (t[0]?.getD pt0)≤0) && (decide (crs (sd s i) (t[1]?.getD pt0)≤0) && decide (crs (sd s i) (t[2]?.getD pt0)≤0))
def overR (a b:List Pt):Bool:=(trisOf a).any fun s=>(trisOf b).any fun t=>!apartR s t && !apartR t s
structure GoodP (p:List Pt):Prop where
 pos:Pos p.length (ring p)
 nd:p.Nodup
theorem goodP_of {p:List Pt} (h:polyE p=0):GoodP p:=⟨(polyE_pos h).1,(polyE_poly h).1.nd⟩
theorem ring_tri (a b c:Pt):ring [a,b,c]=triP (rp a) (rp b) (rp c):=by
 funext t
 unfold ring cor triP
 have h:=Nat.mod_lt t (show 0<3 by decide)
 have:t % 3=0∨t % 3=1∨t % 3=2:=by omega
 rcases this with e | e | e
 ·rw[show t % [a,b,c].length=t % 3 from rfl,e];rfl
 ·rw[show t % [a,b,c].length=t % 3 from rfl,e];rfl
 rw[show t % [a,b,c].length=t % 3 from rfl,e];rfl
theorem tri_ne {a b c:Pt} (h:0<crs ⟨a,b⟩ c):a≠b∧b≠c∧c≠a:=by
 unfold crs at h
 dsimp only at h
 refine⟨fun e=>?_,fun e=>?_,fun e=>?_⟩
 ·subst e;simp at h
 ·subst e;rw[Int.mul_comm] at h;omega
 subst e;simp at h
theorem tri_sides {a b c:Pt} (h:0<crs ⟨a,b⟩ c):∀ i,i<[a,b,c].length→(sd [a,b,c] i).a≠(sd [a,b,c] i).b:=fun i hi=>by
 obtain⟨h1,h2,h3⟩:=tri_ne h
 have:i=0∨i=1∨i=2:=by simp at hi;omega
 obtain⟨s0,s1,s2⟩:=sd_tri a b c
 rcases this with e | e | e <;> subst e
 ·rw[s0];exact h1
 ·rw[s1];exact h2
 rw[s2];exact h3
theorem tri_where {a b c:Pt} (h:0<crs ⟨a,b⟩ c) (q:Pt):0≤whereP [a,b,c] q↔Tri (rp a) (rp b) (rp c) (rp q):=by
 have hD:0<Geo.crs (rp a) (rp b) (rp c):=(crs_pos ⟨a,b⟩ c).2 h
 have hp:Pos [a,b,c].length (ring [a,b,c]):=by rw[ring_tri];exact Geo.tri_pos hD
 obtain⟨w1,w2,w3⟩:=where_pos hp (tri_sides h) q
 rw[ring_tri] at w1 w2 w3 hp
 have hin:=Geo.tri_in hD (rp q)
 constructor
 ·intro h0
  by_cases ho:Off 3 (triP (rp a) (rp b) (rp c)) (rp q)
  ·rcases hp.two ho with e | e
   ·have:=hin.1 e
    exact⟨by grind,by grind,by grind⟩
   have:=w3.2 e;omega
  -- on a side
  refine Classical.byContradiction fun hn=>ho fun i l hi l0 l1 e=>hn ?_
  have p1:=Geo.mul_nn (a:=l) (b:=Geo.crs (rp a) (rp b) (rp c)) l0 (by grind)
  have p2:=Geo.mul_nn (a:=1-l) (b:=Geo.crs (rp a) (rp b) (rp c)) (by grind) (by grind)
  have h3:i=0∨i=1∨i=2:=by omega
  rw[e]
  unfold Tri
  rw[Geo.crs_lin,Geo.crs_lin,Geo.crs_lin]
  obtain⟨c1,c2⟩:=Geo.crs_cyc (rp a) (rp b) (rp c)
  rcases h3 with e | e | e <;> subst e
  ·rw[show triP (rp a) (rp b) (rp c) 0=rp a from rfl,show triP (rp a) (rp b) (rp c) (0+1)=rp b from rfl,Geo.crs_self1,Geo.crs_self2,c1,Geo.crs_self2,c2,Geo.crs_self1]
   refine⟨by grind,by grind,by grind⟩
  ·rw[show triP (rp a) (rp b) (rp c) 1=rp b from rfl,show triP (rp a) (rp b) (rp c) (1+1)=rp c from rfl,Geo.crs_self2,Geo.crs_self1,Geo.crs_self2,c2,Geo.crs_self1]
   refine⟨by grind,by grind,by grind⟩
  rw[show triP (rp a) (rp b) (rp c) 2=rp c from rfl,show triP (rp a) (rp b) (rp c) (2+1)=rp a from rfl,Geo.crs_self1,Geo.crs_self2,c1,Geo.crs_self2,Geo.crs_self1]
  refine⟨by grind,by grind,by grind⟩
 intro hT
 refine Classical.byContradiction fun hn=>?_
 have hne1:whereP [a,b,c] q≠1:=by omega
 have hne0:whereP [a,b,c] q≠0:=by omega
 have hoff:Off 3 (triP (rp a) (rp b) (rp c)) (rp q):=Classical.byContradiction fun ho=>hne0 (w2.2 ho)
 have hnin:¬(0<Geo.crs (rp a) (rp b) (rp q)∧0<Geo.crs (rp b) (rp c) (rp q)∧0<Geo.crs (rp c) (rp a) (rp q)):=fun h=>hne1 (w1.2 (hin.2 h))
 obtain⟨t1,t2,t3⟩:=hT
 obtain⟨c1,c2⟩:=Geo.crs_cyc (rp a) (rp b) (rp c)
 by_cases e1:Geo.crs (rp a) (rp b) (rp q)=0
 ·obtain⟨l,l0,l1,e⟩:=Geo.on_edge hD e1 t2 t3
  exact hoff 0 l (by decide) l0 l1 e
 by_cases e2:Geo.crs (rp b) (rp c) (rp q)=0
 ·obtain⟨l,l0,l1,e⟩:=Geo.on_edge (by rw[c1];exact hD) e2 t3 t1
  exact hoff 1 l (by decide) l0 l1 e
 by_cases e3:Geo.crs (rp c) (rp a) (rp q)=0
 ·obtain⟨l,l0,l1,e⟩:=Geo.on_edge (by rw[c2];exact hD) e3 t1 t2
  exact hoff 2 l (by decide) l0 l1 e
 exact hnin ⟨by grind,by grind,by grind⟩
section
variable {p : List Pt} {i : Nat}
theorem ear_ring (hi:i<p.length):ring p (i+p.length-1)=rp (earA p i)∧ring p (i+p.length-1+1)=rp (earB p i)∧ring p (i+p.length-1+2)=rp (earC p i):=by
 refine⟨rfl,?_,?_⟩
 ·rw[show i+p.length-1+1=i+p.length by omega]
  unfold ring
  rw[cor_per]
  unfold cor earB
  rw[Nat.mod_eq_of_lt hi]
 rw[show i+p.length-1+2=i+1+p.length by omega]
 unfold ring
 rw[cor_per]
 rfl
theorem ear_zero (hi:i<p.length):earR p i=0↔Geo.crs (ring p (i+p.length-1)) (ring p (i+p.length-1+1)) (ring p (i+p.length-1+2))=0:=by
 obtain⟨a1,a2,a3⟩:=ear_ring hi
 rw[a1,a2,a3]
 have:=crs0 ⟨earA p i,earB p i⟩ (earC p i)
 rw[this]
 unfold earR
 split
 ·split
  ·rename_i h;exact⟨fun _=>h,fun _=>rfl⟩
  rename_i h;exact⟨fun e=>by omega,fun e=>absurd e h⟩
 split
 ·exact⟨fun e=>by omega,fun e=>by omega⟩
 exact⟨fun e=>by omega,fun e=>by omega⟩
theorem GoodP.cor_eq (h:GoodP p) {a b:Nat}:cor p a=cor p b↔a % p.length=b % p.length:=by
 have h3:=h.pos.sim.three
 constructor
 ·intro e
  refine Classical.byContradiction fun hn=>cor_ne h.nd (by omega) hn e
 intro e
 rw[←cor_mod,e,cor_mod]
theorem ear_one (h:GoodP p) (hi:i<p.length):earR p i=1↔EarAt p.length (ring p) (i+p.length-1):=by
 have h3:=h.pos.sim.three
 obtain⟨a1,a2,a3⟩:=ear_ring hi
 have hpos:=crs_pos ⟨earA p i,earB p i⟩ (earC p i)
 dsimp only at hpos
 have cA:earA p i=cor p (i+p.length-1):=rfl
 have cB:earB p i=cor p (i+p.length-1+1):=by
  rw[show i+p.length-1+1=i+p.length by omega,cor_per]
  unfold cor earB
  rw[Nat.mod_eq_of_lt hi]
 have cC:earC p i=cor p (i+p.length-1+2):=by
  rw[show i+p.length-1+2=i+1+p.length by omega,cor_per]
  rfl
 have one:∀ m,m<p.length→(p[m]?.getD pt0)=cor p m:=fun m hm=>by unfold cor;rw[Nat.mod_eq_of_lt hm]
 have each:0<crs ⟨earA p i,earB p i⟩ (earC p i)→∀ m,m<p.length→(inEar p i m=true↔(m % p.length≠(i+p.length-1) % p.length∧m % p.length≠(i+p.length-1+1) % p.length∧m % p.length≠(i+p.length-1+2) % p.length∧Tri (rp (earA p i)) (rp (earB p i)) (rp (earC p i)) (ring p m))):=fun hD m hm=>by
  unfold inEar
  rw[Bool.and_eq_true,Bool.and_eq_true,Bool.and_eq_true,ptB_not,ptB_not,ptB_not,decide_eq_true_iff,one m hm,show triAt p i=[earA p i,earB p i,earC p i] from rfl,tri_where hD]
  have q1:cor p m≠earA p i↔m % p.length≠(i+p.length-1) % p.length:=by rw[cA,Ne,h.cor_eq]
  have q2:cor p m≠earB p i↔m % p.length≠(i+p.length-1+1) % p.length:=by rw[cB,Ne,h.cor_eq]
  have q3:cor p m≠earC p i↔m % p.length≠(i+p.length-1+2) % p.length:=by rw[cC,Ne,h.cor_eq]
  rw[q1,q2,q3]
  rfl
 constructor
 ·intro he
  unfold earR at he
  split at he
  ·split at he <;> omega
  rename_i hD
  split at he
  ·omega
  rename_i hno
  have hD:0<crs ⟨earA p i,earB p i⟩ (earC p i):=by omega
  refine⟨by rw[a1,a2,a3];exact hpos.2 hD,fun m m0 m1 m2 hT=>hno ?_⟩
  rw[List.any_eq_true]
  have hml:m % p.length<p.length:=Nat.mod_lt _ (by omega)
  refine⟨m % p.length,List.mem_range.2 hml,(each hD _ hml).2 ⟨by rw[Nat.mod_mod];exact m0,by rw[Nat.mod_mod];exact m1,by rw[Nat.mod_mod];exact m2,?_⟩⟩
  rw[a1,a2,a3] at hT
  rw[h.pos.sim.mod]
  exact hT
 intro he
 have hD:0<crs ⟨earA p i,earB p i⟩ (earC p i):=by
  have:=he.pos
  rw[a1,a2,a3] at this
  exact hpos.1 this
 unfold earR
 rw[if_neg (by omega),if_neg]
 intro hany
 rw[List.any_eq_true] at hany
 obtain⟨m,hm,hb⟩:=hany
 obtain⟨m0,m1,m2,hT⟩:=(each hD m (List.mem_range.1 hm)).1 hb
 refine he.emp m m0 m1 m2 ?_
 rw[a1,a2,a3]
 exact hT
theorem ring_erase (hi:i<p.length) (h2:2≤p.length):ring (p.eraseIdx i)=Geo.shiftP (Geo.cutP (ring p) (i+p.length-1+2) (i+p.length-1+p.length)) (p.length-1-i):=by
 have hlen:(p.eraseIdx i).length=p.length-1:=List.length_eraseIdx_of_lt hi
 funext t
 unfold Geo.shiftP Geo.cutP ring
 congr 1
 rw[show i+p.length-1+p.length-(i+p.length-1+2)+1=p.length-1 by omega]
 have hr:t % (p.length-1)<p.length-1:=Nat.mod_lt _ (by omega)
 have hm:(t+(p.length-1-i)) % (p.length-1)=(t % (p.length-1)+(p.length-1-i)) % (p.length-1):=by rw[Nat.mod_add_mod]
 rw[hm]
 have e1:cor (p.eraseIdx i) t=((p.eraseIdx i)[t % (p.length-1)]?).getD pt0:=by unfold cor;rw[hlen]
 rw[e1,List.getElem?_eraseIdx]
 generalize t % (p.length-1)=r at *
 by_cases hri:r<i
 ·rw[if_pos hri,Nat.mod_eq_of_lt (by omega),show i+p.length-1+2+(r+(p.length-1-i))=r+p.length+p.length by omega,cor_per,cor_per]
  unfold cor
  rw[Nat.mod_eq_of_lt (by omega)]
 rw[if_neg hri,show r+(p.length-1-i)=(r-i)+(p.length-1) by omega,Nat.add_mod_right,Nat.mod_eq_of_lt (by omega),show i+p.length-1+2+(r-i)=r+1+p.length by omega,cor_per]
 unfold cor
 rw[Nat.mod_eq_of_lt (by omega)]
theorem GoodP.cut (h:GoodP p) (h4:4≤p.length) (hi:i<p.length) (he:0≤earR p i) :
  GoodP (p.eraseIdx i)∧∀ q,wind p.length (ring p) q=wind (p.eraseIdx i).length (ring (p.eraseIdx i)) q+(if earR p i=1 then wind 3 (ring (triAt p i)) q else 0):=by
 have hlen:(p.eraseIdx i).length=p.length-1:=List.length_eraseIdx_of_lt hi
 have hnd:(p.eraseIdx i).Nodup:=h.nd.sublist (List.eraseIdx_sublist ..)
 obtain⟨a1,a2,a3⟩:=ear_ring hi
 have hcase:earR p i=1∨earR p i=0:=by
  unfold earR at he ⊢
  split
  ·split
   ·exact Or.inr rfl
   rename_i h1 h2;rw[if_pos h1,if_neg h2] at he;omega
  split
  ·rename_i h1 h2;rw[if_neg h1,if_pos h2] at he;omega
  exact Or.inl rfl
 rcases hcase with e | e
 ·obtain⟨hp,hw⟩:=h.pos.ear_cut h4 ((ear_one h hi).1 e)
  refine⟨⟨by rw[hlen,ring_erase hi (by omega)];exact hp.shift _,hnd⟩,fun q=>?_⟩
  rw[if_pos e,hlen,ring_erase hi (by omega),hp.sim.wind_shift,hw q,a1,a2,a3,show triAt p i=[earA p i,earB p i,earC p i] from rfl,ring_tri]
 obtain⟨hp,hw⟩:=h.pos.straight_cut h4 ((ear_zero hi).1 e)
 refine⟨⟨by rw[hlen,ring_erase hi (by omega)];exact hp.shift _,hnd⟩,fun q=>?_⟩
 rw[if_neg (by omega),hlen,ring_erase hi (by omega),hp.sim.wind_shift,hw q,Int.add_zero]
end
theorem firstEar_some {p:List Pt} (h:GoodP p):∃ i,firstEar p=some i∧i<p.length∧0≤earR p i:=by
 have h3:=h.pos.sim.three
 obtain⟨k,hk,he⟩:=Geo.ear_ex p.length p.length (ring p) (Nat.le_refl _) h.pos
 have h1:earR p (k+1)=1:=by
  refine (ear_one h (by omega)).2 ?_
  have e0:k+1+p.length-1=k+p.length:=by omega
  rw[e0]
  refine⟨?_,fun m m0 m1 m2 hT=>?_⟩
  ·rw[h.pos.sim.per,show k+p.length+1=k+1+p.length by omega,h.pos.sim.per,show k+p.length+2=k+2+p.length by omega,h.pos.sim.per]
   exact he.pos
  rw[h.pos.sim.per,show k+p.length+1=k+1+p.length by omega,h.pos.sim.per,show k+p.length+2=k+2+p.length by omega,h.pos.sim.per] at hT
  rw[Nat.add_mod_right] at m0
  rw[show k+p.length+1=k+1+p.length by omega,Nat.add_mod_right] at m1
  rw[show k+p.length+2=k+2+p.length by omega,Nat.add_mod_right] at m2
  exact he.emp m m0 m1 m2 hT
 cases hf:firstEar p with
 | none =>
  unfold firstEar at hf
  rw[List.find?_eq_none] at hf
  have:=hf (k+1) (List.mem_range.2 (by omega))
  rw[h1] at this
  simp at this
 | some i =>
  have h1:=List.find?_some hf
  have h2:=List.mem_of_find?_eq_some hf
  exact⟨i,rfl,List.mem_range.1 h2,of_decide_eq_true h1⟩
def windL (q:RP):List (List Pt)→Int
 | []=>0
 | t :: r=>wind 3 (ring t) q+windL q r
theorem windL_append (q:RP):∀ l m,windL q (l ++ m)=windL q l+windL q m
 | [],m=>by show windL q m=0+windL q m;omega
 | t :: l,m=>by
  show wind 3 (ring t) q+windL q (l ++ m)=wind 3 (ring t) q+windL q l+windL q m
  rw[windL_append q l m];omega
def IsTri (t:List Pt):Prop:=∃ a b c,t=[a,b,c]∧0<crs ⟨a,b⟩ c
theorem ear_tri {p:List Pt} {i:Nat} (h:earR p i=1):IsTri (triAt p i):=by
 unfold earR at h
 split at h
 ·split at h <;> omega
 exact⟨_,_,_,rfl,by omega⟩
theorem trisR_short {p:List Pt} (h:p.length≤2):∀ f,trisR f p=[]
 | 0=>rfl
 | f+1=>by unfold trisR;rw[if_pos h]
theorem tris_wind:∀ (f:Nat) (p:List Pt),GoodP p→p.length≤f+2→(∀ t∈trisR f p,IsTri t)∧(∀ q,wind p.length (ring p) q=windL q (trisR f p))∧trisR f p≠[]
 | 0,p,h,hl=>by have:=h.pos.sim.three;omega
 | f+1,p,h,hl=>by
  have h3:=h.pos.sim.three
  obtain⟨i,hf,hi,he⟩:=firstEar_some h
  have heq:trisR (f+1) p=(if earR p i=1 then [triAt p i] else []) ++ trisR f (p.eraseIdx i):=by
   show (if p.length≤2 then [] else _)=_
   rw[if_neg (by omega),hf]
  rw[heq]
  have hlen:(p.eraseIdx i).length=p.length-1:=List.length_eraseIdx_of_lt hi
  by_cases h4:4≤p.length
  ·obtain⟨hg,hw⟩:=h.cut h4 hi he
   obtain⟨t1,t2,t3⟩:=tris_wind f (p.eraseIdx i) hg (by omega)
   refine⟨fun t ht=>?_,fun q=>?_,fun e=>t3 (List.append_eq_nil_iff.1 e).2⟩
   ·rcases List.mem_append.1 ht with ht | ht
    ·split at ht
     ·rename_i e1
      rw[List.mem_singleton.1 ht]
      exact ear_tri e1
     cases ht
    exact t1 t ht
   rw[hw q,windL_append,←t2 q]
   split
   ·show _=wind 3 (ring (triAt p i)) q+0+_;omega
   show _=0+_;omega
  have hp3:p.length=3:=by omega
  obtain⟨k,hk,hear⟩:=Geo.ear_ex p.length p.length (ring p) (Nat.le_refl _) h.pos
  have hk0:k=0:=by omega
  subst hk0
  have hD:=hear.pos
  have e3:ring p 3=ring p 0:=by have:=h.pos.sim.per 0;rw[hp3] at this;exact this
  have e4:ring p 4=ring p 1:=by have:=h.pos.sim.per 1;rw[hp3] at this;exact this
  obtain⟨a1,a2,a3⟩:=ear_ring hi
  rw[hp3] at a1 a2 a3
  have hone:earR p i=1:=by
   have hne:earR p i≠0:=fun e=>by
    have:=(ear_zero hi).1 e
    rw[hp3] at this
    have hi3:i=0∨i=1∨i=2:=by omega
    obtain⟨c1,c2⟩:=Geo.crs_cyc (ring p 0) (ring p 1) (ring p 2)
    rcases hi3 with e | e | e <;> subst e
    ·rw[show 0+3-1=2 from rfl,show 2+1=3 from rfl,show 2+2=4 from rfl,e3,e4,c2] at this
     rw[this] at hD;exact absurd hD (by decide)
    ·rw[show 1+3-1=3 from rfl,show 3+1=4 from rfl,show 3+2=2+3 from rfl,e3,e4,show ring p (2+3)=ring p 2 by have:=h.pos.sim.per 2;rw[hp3] at this;exact this] at this
     rw[this] at hD;exact absurd hD (by decide)
    rw[show 2+3-1=4 from rfl,show 4+1=2+3 from rfl,show 4+2=3+3 from rfl,e4,show ring p (2+3)=ring p 2 by have:=h.pos.sim.per 2;rw[hp3] at this;exact this,show ring p (3+3)=ring p 3 by have:=h.pos.sim.per 3;rw[hp3] at this;exact this,e3,c1] at this
    rw[this] at hD;exact absurd hD (by decide)
   unfold earR at he hne ⊢
   split
   ·split
    ·rename_i h1 h2;rw[if_pos h1,if_pos h2] at hne;exact absurd rfl hne
    rename_i h1 h2;rw[if_pos h1,if_neg h2] at he;omega
   split
   ·rename_i h1 h2;rw[if_neg h1,if_pos h2] at he;omega
   rfl
  rw[if_pos hone,trisR_short (by omega)]
  refine⟨fun t ht=>?_,fun q=>?_,by simp⟩
  ·rw[List.append_nil] at ht
   rw[List.mem_singleton.1 ht]
   exact ear_tri hone
  show _=wind 3 (ring (triAt p i)) q+0
  rw[show triAt p i=[earA p i,earB p i,earC p i] from rfl,ring_tri,Geo.tri_wind,←a1,←a2,←a3,hp3]
  have hw:wind 3 (ring p) q=wc (ring p 0) (ring p 1) q+wc (ring p 1) (ring p 2) q+wc (ring p 2) (ring p 3) q:=by
   unfold Geo.wind Geo.sumZ Geo.sumZ Geo.sumZ Geo.sumZ
   show 0+wc (ring p 0) (ring p 1) q+wc (ring p 1) (ring p 2) q+wc (ring p 2) (ring p 3) q=_
   omega
  rw[hw]
  have hi3:i=0∨i=1∨i=2:=by omega
  have e5:ring p (2+3)=ring p 2:=by have:=h.pos.sim.per 2;rw[hp3] at this;exact this
  have e6:ring p (3+3)=ring p 3:=by have:=h.pos.sim.per 3;rw[hp3] at this;exact this
  rcases hi3 with e | e | e <;> subst e
  ·rw[show 0+3-1=2 from rfl,show 2+1=3 from rfl,show 2+2=4 from rfl,e3,e4];omega
  ·rw[show 1+3-1=3 from rfl,show 3+1=4 from rfl,show 3+2=2+3 from rfl,e3,e4,e5];omega
  rw[show 2+3-1=4 from rfl,show 4+1=2+3 from rfl,show 4+2=3+3 from rfl,e4,e5,e6,e3];omega
theorem dense_list {S:List Pt→RP→Prop}:∀ {l:List (List Pt)},(∀ t∈l,Dense (S t))→Dense fun q=>∀ t∈l,S t q
 | [],_=>fun q e e0=>⟨q,Near.self e0 q,1,by grind,fun _ _ t ht=>by cases ht⟩
 | t :: l,h=>fun q e e0=>by
  obtain⟨r,hr,f,f0,hf⟩:=(Dense.and (h t (List.mem_cons_self ..)) (dense_list (l:=l) fun t ht=>h t (List.mem_cons_of_mem _ ht))) q e e0
  refine⟨r,hr,f,f0,fun s hs x hx=>?_⟩
  rcases List.mem_cons.1 hx with e | hx
  ·rw[e];exact (hf s hs).1
  exact (hf s hs).2 x hx
theorem IsTri.pos {t:List Pt} (h:IsTri t):Pos 3 (ring t):=by
 obtain⟨a,b,c,rfl,hD⟩:=h
 rw[ring_tri]
 exact Geo.tri_pos ((crs_pos ⟨a,b⟩ c).2 hD)
theorem tris_dense {l:List (List Pt)} (h:∀ t∈l,IsTri t):Dense fun q=>∀ t∈l,Off 3 (ring t) q:=dense_list fun t ht=>(h t ht).pos.sim.dense
theorem windL_some {q:RP}:∀ {l:List (List Pt)},(∀ t∈l,IsTri t)→(∀ t∈l,Off 3 (ring t) q)→0≤windL q l∧(0<windL q l→∃ t∈l,In 3 (ring t) q)∧∀ t∈l,In 3 (ring t) q→0<windL q l
 | [],_,_=>⟨Int.le_refl _,fun h=>absurd h (Int.lt_irrefl 0),fun t ht=>by cases ht⟩
 | t :: l,h,ho=>by
  obtain⟨h1,h2,h3⟩:=windL_some (q:=q) (l:=l) (fun t ht=>h t (List.mem_cons_of_mem _ ht)) (fun t ht=>ho t (List.mem_cons_of_mem _ ht))
  have hoff:=ho t (List.mem_cons_self ..)
  show 0≤wind 3 (ring t) q+windL q l∧(0<wind 3 (ring t) q+windL q l→_)∧∀ x∈t :: l,In 3 (ring x) q→0<wind 3 (ring t) q+windL q l
  rcases (h t (List.mem_cons_self ..)).pos.two hoff with e | e
  ·have:=e.2
   refine⟨by omega,fun _=>⟨t,List.mem_cons_self ..,e⟩,fun _ _ _=>by omega⟩
  have he:=e.2
  refine⟨by omega,fun hp=>?_,fun x hx hin=>?_⟩
  ·obtain⟨x,hx,hin⟩:=h2 (by omega)
   exact⟨x,List.mem_cons_of_mem _ hx,hin⟩
  rcases List.mem_cons.1 hx with e' | hx
  ·rw[e'] at hin;exact (hin.not_out e).elim
  have:=h3 x hx hin;omega
theorem in_tris {p:List Pt} (h:GoodP p) {q:RP} (ho:Off p.length (ring p) q) (ht:∀ t∈trisOf p,Off 3 (ring t) q):In p.length (ring p) q↔∃ t∈trisOf p,In 3 (ring t) q:=by
 obtain⟨t1,t2,_⟩:=tris_wind p.length p h (by omega)
 obtain⟨w1,w2,w3⟩:=windL_some t1 ht
 have e:=t2 q
 constructor
 ·intro hin
  rw[hin.2] at e
  exact w2 (by rw[←e];decide)
 rintro⟨t,ht,hin⟩
 have:=w3 t ht hin
 rcases h.pos.two ho with e' | e'
 ·exact e'
 have:=e'.2;omega
theorem apart_sided {a b c x y z:Pt}:apartR [a,b,c] [x,y,z]=false↔Sided (rp a) (rp b) (rp c) (rp x) (rp y) (rp z):=by
 have one:∀ (s:Sd),(decide (crs s x≤0) && (decide (crs s y≤0) && decide (crs s z≤0)))=false↔(0<Geo.crs (rp s.a) (rp s.b) (rp x)∨0<Geo.crs (rp s.a) (rp s.b) (rp y)∨0<Geo.crs (rp s.a) (rp s.b) (rp z)):=fun s=>by
  rw[crs_pos,crs_pos,crs_pos,Bool.and_eq_false_iff,Bool.and_eq_false_iff,decide_eq_false_iff_not,decide_eq_false_iff_not,decide_eq_false_iff_not]
  omega
 have h1:=one ⟨a,b⟩
 have h2:=one ⟨b,c⟩
 have h3:=one ⟨c,a⟩
 have e:apartR [a,b,c] [x,y,z]=((decide (crs ⟨a,b⟩ x≤0) && (decide (crs ⟨a,b⟩ y≤0) && decide (crs ⟨a,b⟩ z≤0))) || ((decide (crs ⟨b,c⟩ x≤0) && (decide (crs ⟨b,c⟩ y≤0) && decide (crs ⟨b,c⟩ z≤0))) || ((decide (crs ⟨c,a⟩ x≤0) && (decide (crs ⟨c,a⟩ y≤0) && decide (crs ⟨c,a⟩ z≤0))) || false))):=by
  obtain⟨s0,s1,s2⟩:=sd_tri a b c
  unfold apartR
  rw[show List.range 3=[0,1,2] from rfl,List.any_cons,List.any_cons,List.any_cons,List.any_nil,s0,s1,s2]
  rfl
 rw[e,Bool.or_false,Bool.or_eq_false_iff,Bool.or_eq_false_iff,h1,h2,h3]
 rfl
theorem apart_meet {s t:List Pt} (hs:IsTri s) (ht:IsTri t):(!apartR s t && !apartR t s)=true↔∃ q,In 3 (ring s) q∧In 3 (ring t) q:=by
 obtain⟨a,b,c,rfl,h1⟩:=hs
 obtain⟨x,y,z,rfl,h2⟩:=ht
 have d1:=(crs_pos ⟨a,b⟩ c).2 h1
 have d2:=(crs_pos ⟨x,y⟩ z).2 h2
 rw[Bool.and_eq_true,Bool.not_eq_true',Bool.not_eq_true',apart_sided,apart_sided,Geo.sided_iff d1 d2,ring_tri,ring_tri]
 constructor
 ·rintro⟨q,h1,h2⟩;exact⟨q,(Geo.tri_in d1 q).2 h1,(Geo.tri_in d2 q).2 h2⟩
 rintro⟨q,h1,h2⟩;exact⟨q,(Geo.tri_in d1 q).1 h1,(Geo.tri_in d2 q).1 h2⟩
theorem overR_over {a b:List Pt} (ha:GoodP a) (hb:GoodP b):overR a b=true↔Geo.Over a.length (ring a) b.length (ring b):=by
 have ta:=(tris_wind a.length a ha (by omega)).1
 have tb:=(tris_wind b.length b hb (by omega)).1
 have hd:=Dense.and (Dense.and ha.pos.sim.dense hb.pos.sim.dense) (Dense.and (tris_dense ta) (tris_dense tb))
 have key:overR a b=true↔∃ s∈trisOf a,∃ t∈trisOf b,∃ q,In 3 (ring s) q∧In 3 (ring t) q:=by
  unfold overR
  rw[List.any_eq_true]
  constructor
  ·rintro⟨s,hs,h⟩
   rw[List.any_eq_true] at h
   obtain⟨t,ht,h⟩:=h
   exact⟨s,hs,t,ht,(apart_meet (ta s hs) (tb t ht)).1 h⟩
  rintro⟨s,hs,t,ht,h⟩
  exact⟨s,hs,List.any_eq_true.2 ⟨t,ht,(apart_meet (ta s hs) (tb t ht)).2 h⟩⟩
 rw[key]
 constructor
 ·rintro⟨s,hs,t,ht,q,h1,h2⟩
  obtain⟨e1,e10,k1⟩:=h1.near (ta s hs).pos.sim
  obtain⟨e2,e20,k2⟩:=h2.near (tb t ht).pos.sim
  obtain⟨g,g0,ga,gb⟩:∃ g:Rat,0<g∧g≤e1∧g≤e2:=by
   rcases Rat.le_total (a:=e1) (b:=e2) with a | a
   ·exact⟨e1,e10,by grind,a⟩
   exact⟨e2,e20,a,by grind⟩
  obtain⟨r,hr,f,f0,hf⟩:=hd q g g0
  have hff:=hf r (Near.self f0 r)
  exact⟨r,(in_tris ha hff.1.1 hff.2.1).2 ⟨s,hs,k1 r (hr.mono ga)⟩,(in_tris hb hff.1.2 hff.2.2).2 ⟨t,ht,k2 r (hr.mono gb)⟩⟩
 rintro⟨q,h1,h2⟩
 obtain⟨e1,e10,k1⟩:=h1.near ha.pos.sim
 obtain⟨e2,e20,k2⟩:=h2.near hb.pos.sim
 obtain⟨g,g0,ga,gb⟩:∃ g:Rat,0<g∧g≤e1∧g≤e2:=by
  rcases Rat.le_total (a:=e1) (b:=e2) with a | a
  ·exact⟨e1,e10,by grind,a⟩
  exact⟨e2,e20,a,by grind⟩
 obtain⟨r,hr,f,f0,hf⟩:=hd q g g0
 have hff:=hf r (Near.self f0 r)
 obtain⟨s,hs,i1⟩:=(in_tris ha hff.1.1 hff.2.1).1 (k1 r (hr.mono ga))
 obtain⟨t,ht,i2⟩:=(in_tris hb hff.1.2 hff.2.2).1 (k2 r (hr.mono gb))
 exact⟨s,hs,t,ht,r,i1,i2⟩
end Cal
end Go.Proofs.YthfokpchdlcidaaGreat
