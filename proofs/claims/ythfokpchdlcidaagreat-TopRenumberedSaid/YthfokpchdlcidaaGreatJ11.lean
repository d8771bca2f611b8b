/- What the statements rest on: definitions and walks, part 11. -/
set_option maxRecDepth 100000
set_option maxHeartbeats 16000000
set_option linter.unusedSimpArgs false
set_option linter.unusedVariables false
namespace Go.Proofs.YthfokpchdlcidaaGreat
namespace Geo
structure RP where
 x:Rat
 y:Rat
def crs (a b q:RP):Rat:=(b.x-a.x)*(q.y-a.y)-(b.y-a.y)*(q.x-a.x)
theorem crs_sum (a b q r:RP):crs a b q+crs q r a=crs a b r+crs q r b:=by
 simp only[crs];grind
theorem crs_y (a b q r:RP) (t:Rat):crs a b q*(r.y-t)-crs a b r*(q.y-t)=crs q r b*(a.y-t)-crs q r a*(b.y-t):=by
 simp only[crs];grind
theorem crs_x (a b q r:RP) (t:Rat):crs a b q*(r.x-t)-crs a b r*(q.x-t)=crs q r b*(a.x-t)-crs q r a*(b.x-t):=by
 simp only[crs];grind
theorem crs_rev (a b q:RP):crs b a q=- crs a b q:=by simp only[crs];grind
theorem mul_nn {a b:Rat} (ha:0≤a) (hb:0≤b):0≤a*b:=Rat.mul_nonneg ha hb
theorem mul_pp {a b:Rat} (ha:0<a) (hb:0<b):0<a*b:=Rat.mul_pos ha hb
theorem pos_of_mul {x k:Rat} (hk:0<k) (h:0<x*k):0<x:=by
 rcases Std.lt_trichotomy x 0 with h0 | h0 | h0
 ·have:=mul_pp (a:=-x) (b:=k) (by grind) hk
  grind
 ·subst h0;grind
 exact h0
theorem nonneg_of_mul {x k:Rat} (hk:0<k) (h:0≤x*k):0≤x:=by
 rcases Std.lt_trichotomy x 0 with h0 | h0 | h0
 ·have:=mul_pp (a:=-x) (b:=k) (by grind) hk
  grind
 ·subst h0;grind
 grind
def at' (a b:RP) (l:Rat):RP:=⟨a.x+l*(b.x-a.x),a.y+l*(b.y-a.y)⟩
def Apart (a b q r:RP):Prop:=∀ l m:Rat,0≤l→l≤1→0≤m→m≤1→at' a b l≠at' q r m
theorem Apart.swap {a b q r:RP} (h:Apart a b q r):Apart q r a b:=fun l m h0 h1 h2 h3 e=>h m l h2 h3 h0 h1 e.symm
theorem at_rev (a b:RP) (l:Rat):at' b a l=at' a b (1-l):=by
 unfold at'
 rw[RP.mk.injEq]
 constructor <;> grind
theorem Apart.rev {a b q r:RP} (h:Apart a b q r):Apart b a q r:=fun l m h0 h1 h2 h3 e=>h (1-l) m (by grind) (by grind) h2 h3 (by rw[←at_rev];exact e)
theorem div_mem {c k:Rat} (hk:0<k) (h0:0≤c) (h1:c≤k):0≤c / k∧c / k≤1:=by
 have e:c / k*k=c:=Rat.div_mul_cancel (by grind)
 constructor
 ·exact nonneg_of_mul hk (by rw[e];exact h0)
 have:=nonneg_of_mul (x:=1-c / k) hk (by grind)
 grind
theorem meet_of {a b q r:RP} (hc:crs q r a≤0) (hd:0≤crs q r b) (ha:0≤crs a b q) (hb:crs a b r≤0) (hne:crs q r a<crs q r b):¬Apart a b q r:=fun h=>by
 have s:=crs_sum a b q r
 have hk:0<crs q r b-crs q r a:=by grind
 obtain⟨l0,l1⟩:=div_mem (c:=- crs q r a) hk (by grind) (by grind)
 obtain⟨m0,m1⟩:=div_mem (c:=crs a b q) hk ha (by grind)
 refine h _ _ l0 l1 m0 m1 ?_
 have el:(-crs q r a) / (crs q r b-crs q r a)*(crs q r b-crs q r a)=- crs q r a:=Rat.div_mul_cancel (by grind)
 have em:(crs a b q) / (crs q r b-crs q r a)*(crs q r b-crs q r a)=crs a b q:=Rat.div_mul_cancel (by grind)
 generalize (-crs q r a) / (crs q r b-crs q r a)=l at *
 generalize (crs a b q) / (crs q r b-crs q r a)=m at *
 have hx:=crs_x a b q r 0
 have hy:=crs_y a b q r 0
 unfold at'
 rw[RP.mk.injEq]
 generalize crs q r b=d at *
 generalize crs q r a=c at *
 generalize crs a b q=e at *
 generalize crs a b r=f at *
 have key:∀ X Y Z W:Rat,e*(W-0)-f*(Z-0)=d*(X-0)-c*(Y-0)→X+l*(Y-X)=Z+m*(W-Z):=by
  intro X Y Z W h
  have h1:(X+l*(Y-X)-(Z+m*(W-Z)))*(d-c)=0:=by grind
  rcases Rat.mul_eq_zero.1 h1 with h2 | h2 <;> grind
 exact⟨key _ _ _ _ hx,key _ _ _ _ hy⟩
def wc (a b q:RP):Int:=if a.y≤q.y then (if q.y<b.y then (if 0<crs a b q then 1 else 0) else 0) else (if b.y≤q.y then (if crs a b q<0 then -1 else 0) else 0)
theorem wc_rev (a b q:RP):wc b a q=- wc a b q:=by
 unfold wc
 rw[crs_rev a b q]
 split <;> split <;> (repeat split) <;> grind
def gp (p q r:RP):Int:=if p.y≤q.y then (if p.y≤r.y then 0 else (if 0<crs q r p then 1 else 0)) else (if p.y≤r.y then (if crs q r p<0 then -1 else 0) else 0)
theorem gp_rev (p q r:RP):gp p r q=- gp p q r:=by
 unfold gp
 rw[crs_rev q r p]
 split <;> split <;> (repeat split) <;> grind
theorem neg_of_mul {x k:Rat} (hk:0<k) (h:x*k<0):x<0:=by
 have:=pos_of_mul (x:=-x) hk (by grind)
 grind
theorem nonpos_of_mul {x k:Rat} (hk:0<k) (h:x*k≤0):x≤0:=by
 have:=nonneg_of_mul (x:=-x) hk (by grind)
 grind
theorem np_mul {a b:Rat} (ha:a≤0) (hb:0≤b):a*b≤0:=by
 have:=mul_nn (a:=-a) (b:=b) (by grind) hb
 grind
theorem nn_mul {a b:Rat} (ha:a≤0) (hb:b≤0):0≤a*b:=by
 have:=mul_nn (a:=-a) (b:=-b) (by grind) (by grind)
 grind
theorem n_mul {a b:Rat} (ha:a<0) (hb:0<b):a*b<0:=by
 have:=mul_pp (a:=-a) (b:=b) (by grind) hb
 grind
section
variable {a b q r : RP}
theorem mv_2a (h:Apart a b q r) (h1:a.y≤q.y) (h2:q.y≤r.y) (h3:r.y<b.y):(0<crs a b q↔0<crs a b r):=by
 have s:=crs_sum a b q r
 have ya:=crs_y a b q r a.y
 have yb:=crs_y a b q r b.y
 have n1:=fun h1 h2 h3 h4 h5=>meet_of (a:=a) (b:=b) (q:=q) (r:=r) h1 h2 h3 h4 h5 h
 have n2:=fun h1 h2 h3 h4 h5=>meet_of (a:=b) (b:=a) (q:=q) (r:=r) h1 h2 h3 h4 h5 h.rev
 rw[crs_rev a b q,crs_rev a b r] at n2
 generalize crs q r b=d at *
 generalize crs q r a=c at *
 generalize crs a b q=e at *
 generalize crs a b r=f at *
 constructor
 ·intro he
  refine Rat.not_le.1 fun hf=>?_
  have p1:=mul_nn (a:=e) (b:=r.y-a.y) (by grind) (by grind)
  have p2:=np_mul (a:=f) (b:=q.y-a.y) hf (by grind)
  have p3:=mul_nn (a:=e) (b:=b.y-r.y) (by grind) (by grind)
  have p4:=np_mul (a:=f) (b:=b.y-q.y) hf (by grind)
  have hc:c≤0:=nonpos_of_mul (k:=b.y-a.y) (by grind) (by grind)
  have hd:0≤d:=nonneg_of_mul (k:=b.y-a.y) (by grind) (by grind)
  exact n1 hc hd (by grind) hf (by grind)
 intro hf
 refine Rat.not_le.1 fun he=>?_
 have p1:=np_mul (a:=e) (b:=r.y-a.y) (by grind) (by grind)
 have p2:=mul_nn (a:=f) (b:=q.y-a.y) (by grind) (by grind)
 have p3:=np_mul (a:=e) (b:=b.y-r.y) (by grind) (by grind)
 have p4:=mul_nn (a:=f) (b:=b.y-q.y) (by grind) (by grind)
 have hc:0≤c:=nonneg_of_mul (k:=b.y-a.y) (by grind) (by grind)
 have hd:d≤0:=nonpos_of_mul (k:=b.y-a.y) (by grind) (by grind)
 exact n2 hd hc (by grind) (by grind) (by grind)
theorem mv_1b (h:Apart a b q r) (h1:q.y<a.y) (h2:a.y≤r.y) (h3:r.y<b.y):(0<crs a b r↔crs q r a<0):=by
 have s:=crs_sum a b q r
 have y0:=crs_y a b q r 0
 have n1:=fun h1 h2 h3 h4 h5=>meet_of (a:=a) (b:=b) (q:=q) (r:=r) h1 h2 h3 h4 h5 h
 have n2:=fun h1 h2 h3 h4 h5=>meet_of (a:=b) (b:=a) (q:=q) (r:=r) h1 h2 h3 h4 h5 h.rev
 rw[crs_rev a b q,crs_rev a b r] at n2
 generalize crs q r b=d at *
 generalize crs q r a=c at *
 generalize crs a b q=e at *
 generalize crs a b r=f at *
 have z1:d*(r.y-a.y)=- f*(r.y-q.y)-c*(b.y-r.y):=by grind
 have z2:e*(r.y-a.y)=- f*(a.y-q.y)-c*(b.y-a.y):=by grind
 constructor
 ·intro hf
  refine Rat.not_le.1 fun hc=>?_
  have p1:=mul_pp (a:=f) (b:=r.y-q.y) hf (by grind)
  have p2:=mul_nn (a:=c) (b:=b.y-r.y) hc (by grind)
  have p3:=mul_pp (a:=f) (b:=a.y-q.y) hf (by grind)
  have p4:=mul_nn (a:=c) (b:=b.y-a.y) hc (by grind)
  have hk:0<r.y-a.y:=by
   rcases Rat.le_iff_lt_or_eq.1 h2 with hk | hk
   ·grind
   rw[hk] at z1;grind
  have hd:d<0:=neg_of_mul hk (by grind)
  have he:e<0:=neg_of_mul hk (by grind)
  exact n2 (by grind) hc (by grind) (by grind) (by grind)
 intro hc
 refine Rat.not_le.1 fun hf=>?_
 have p1:=np_mul (a:=f) (b:=r.y-q.y) hf (by grind)
 have p2:=n_mul (a:=c) (b:=b.y-r.y) hc (by grind)
 have p3:=np_mul (a:=f) (b:=a.y-q.y) hf (by grind)
 have p4:=n_mul (a:=c) (b:=b.y-a.y) hc (by grind)
 have hk:0<r.y-a.y:=by
  rcases Rat.le_iff_lt_or_eq.1 h2 with hk | hk
  ·grind
  rw[hk] at z1;grind
 have hd:0<d:=pos_of_mul hk (by grind)
 have he:0<e:=pos_of_mul hk (by grind)
 exact n1 (by grind) (by grind) (by grind) hf (by grind)
theorem mv_1c (h:Apart a b q r) (h1:q.y<a.y) (h2:a.y≤b.y) (h3:b.y≤r.y):(crs q r a<0↔crs q r b<0):=by
 have s:=crs_sum a b q r
 have yq:=crs_y a b q r q.y
 have yr:=crs_y a b q r r.y
 have n1:=fun h1 h2 h3 h4 h5=>meet_of (a:=a) (b:=b) (q:=q) (r:=r) h1 h2 h3 h4 h5 h
 have n2:=fun h1 h2 h3 h4 h5=>meet_of (a:=b) (b:=a) (q:=q) (r:=r) h1 h2 h3 h4 h5 h.rev
 rw[crs_rev a b q,crs_rev a b r] at n2
 generalize crs q r b=d at *
 generalize crs q r a=c at *
 generalize crs a b q=e at *
 generalize crs a b r=f at *
 constructor
 ·intro hc
  refine Rat.not_le.1 fun hd=>?_
  have p1:=mul_nn (a:=d) (b:=a.y-q.y) hd (by grind)
  have p2:=n_mul (a:=c) (b:=b.y-q.y) hc (by grind)
  have p3:=mul_nn (a:=d) (b:=r.y-a.y) hd (by grind)
  have p4:=np_mul (a:=c) (b:=r.y-b.y) (by grind) (by grind)
  have he:0≤e:=nonneg_of_mul (k:=r.y-q.y) (by grind) (by grind)
  have hf:f≤0:=nonpos_of_mul (k:=r.y-q.y) (by grind) (by grind)
  exact n1 (by grind) hd he hf (by grind)
 intro hd
 refine Rat.not_le.1 fun hc=>?_
 have p1:=n_mul (a:=d) (b:=a.y-q.y) hd (by grind)
 have p2:=mul_nn (a:=c) (b:=b.y-q.y) hc (by grind)
 have p3:=np_mul (a:=d) (b:=r.y-a.y) (by grind) (by grind)
 have p4:=mul_nn (a:=c) (b:=r.y-b.y) hc (by grind)
 have he:e≤0:=nonpos_of_mul (k:=r.y-q.y) (by grind) (by grind)
 have hf:0≤f:=nonneg_of_mul (k:=r.y-q.y) (by grind) (by grind)
 exact n2 (by grind) hc (by grind) (by grind) (by grind)
theorem mv_2b (h:Apart a b q r) (h1:a.y≤q.y) (h2:q.y<b.y) (h3:b.y≤r.y):(0<crs a b q↔crs q r b<0):=by
 have s:=crs_sum a b q r
 have yb:=crs_y a b q r b.y
 have yq:=crs_y a b q r q.y
 have n1:=fun h1 h2 h3 h4 h5=>meet_of (a:=a) (b:=b) (q:=q) (r:=r) h1 h2 h3 h4 h5 h
 have n2:=fun h1 h2 h3 h4 h5=>meet_of (a:=b) (b:=a) (q:=q) (r:=r) h1 h2 h3 h4 h5 h.rev
 rw[crs_rev a b q,crs_rev a b r] at n2
 generalize crs q r b=d at *
 generalize crs q r a=c at *
 generalize crs a b q=e at *
 generalize crs a b r=f at *
 constructor
 ·intro he
  refine Rat.not_le.1 fun hd=>?_
  have p1:=mul_nn (a:=d) (b:=b.y-a.y) hd (by grind)
  have p2:=mul_nn (a:=e) (b:=r.y-b.y) (by grind) (by grind)
  have p3:=mul_nn (a:=d) (b:=q.y-a.y) hd (by grind)
  have p4:=mul_pp (a:=e) (b:=r.y-q.y) he (by grind)
  have hf:f≤0:=nonpos_of_mul (k:=b.y-q.y) (by grind) (by grind)
  have hc:c<0:=neg_of_mul (k:=b.y-q.y) (by grind) (by grind)
  exact n1 (by grind) hd (by grind) hf (by grind)
 intro hd
 refine Rat.not_le.1 fun he=>?_
 have p1:=n_mul (a:=d) (b:=b.y-a.y) hd (by grind)
 have p2:=np_mul (a:=e) (b:=r.y-b.y) he (by grind)
 have p3:=np_mul (a:=d) (b:=q.y-a.y) (by grind) (by grind)
 have p4:=np_mul (a:=e) (b:=r.y-q.y) he (by grind)
 have hf:0<f:=pos_of_mul (k:=b.y-q.y) (by grind) (by grind)
 have hc:0≤c:=nonneg_of_mul (k:=b.y-q.y) (by grind) (by grind)
 exact n2 (by grind) hc (by grind) (by grind) (by grind)
theorem move_up (hab:a.y≤b.y) (hqr:q.y≤r.y) (h:Apart a b q r):wc a b q-wc a b r=gp a q r-gp b q r:=by
 by_cases c1:a.y≤q.y
 ·by_cases c2:b.y≤q.y
  ·simp only[wc,gp]
   grind
  by_cases c3:b.y≤r.y
  ·have:=mv_2b h c1 (by grind) c3
   simp only[wc,gp]
   grind
  have:=mv_2a h c1 hqr (by grind)
  simp only[wc,gp]
  grind
 by_cases c3:b.y≤r.y
 ·have:=mv_1c h (by grind) hab c3
  simp only[wc,gp]
  grind
 by_cases c4:a.y≤r.y
 ·have:=mv_1b h (by grind) c4 (by grind)
  simp only[wc,gp]
  grind
 simp only[wc,gp]
 grind
theorem move (h:Apart a b q r):wc a b q-wc a b r=gp a q r-gp b q r:=by
 rcases Rat.le_total (a:=a.y) (b:=b.y) with hab | hab <;> rcases Rat.le_total (a:=q.y) (b:=r.y) with hqr | hqr
 ·exact move_up hab hqr h
 ·have:=move_up hab hqr h.swap.rev.swap
  rw[gp_rev a q r,gp_rev b q r] at this
  omega
 ·have:=move_up hab hqr h.rev
  rw[wc_rev,wc_rev a b r] at this
  omega
 have:=move_up hab hqr h.rev.swap.rev.swap
 rw[gp_rev a q r,gp_rev b q r,wc_rev,wc_rev a b q] at this
 omega
end
def up (a b:RP):Int:=if a.y<b.y then 1 else if b.y<a.y then 0 else if b.x<a.x then 1 else 0
theorem crs_at (a b:RP) (t:Rat):crs a b (at' a b t)=0:=by simp only[crs,at'];grind
theorem crs_at_a (a b q:RP) (t:Rat):crs q (at' a b t) a=- t*crs a b q:=by simp only[crs,at'];grind
theorem crs_at_b (a b q:RP) (t:Rat):crs q (at' a b t) b=(1-t)*crs a b q:=by simp only[crs,at'];grind
theorem at_y (a b:RP) (t:Rat):(at' a b t).y=a.y+t*(b.y-a.y):=rfl
theorem wc_on (a b:RP) (t:Rat):wc a b (at' a b t)=0:=by
 unfold wc
 rw[crs_at a b t]
 grind
theorem see_left {a b q:RP} {t:Rat} (h0:0<t) (h1:t<1) (hq:0<crs a b q) :
  wc a b q-wc a b (at' a b t)=gp a q (at' a b t)-gp b q (at' a b t)+up a b:=by
 have ea:=crs_at_a a b q t
 have eb:=crs_at_b a b q t
 have pa:=mul_pp h0 hq
 have pb:=mul_pp (a:=1-t) (by grind) hq
 rw[wc_on]
 have my:=at_y a b t
 have hdef:crs a b q=(b.x-a.x)*(q.y-a.y)-(b.y-a.y)*(q.x-a.x):=rfl
 rcases Std.lt_trichotomy a.y b.y with hy | hy | hy
 ·have m1:=mul_pp (a:=t) (b:=b.y-a.y) h0 (by grind)
  have m2:=mul_pp (a:=1-t) (b:=b.y-a.y) (by grind) (by grind)
  simp only[wc,gp,up]
  grind
 ·have hx:¬(q.y=a.y):=fun e=>by rw[e,←hy] at hdef;grind
  have hs:(b.x<a.x↔q.y<a.y):=by
   rw[←hy] at hdef
   constructor
   ·intro hba
    refine Rat.not_le.1 fun hqa=>?_
    have:=mul_nn (a:=a.x-b.x) (b:=q.y-a.y) (by grind) (by grind)
    grind
   intro hqa
   refine Rat.not_le.1 fun hba=>?_
   have:=mul_nn (a:=b.x-a.x) (b:=a.y-q.y) (by grind) (by grind)
   grind
  simp only[wc,gp,up]
  grind
 have m1:=mul_pp (a:=t) (b:=a.y-b.y) h0 (by grind)
 have m2:=mul_pp (a:=1-t) (b:=a.y-b.y) (by grind) (by grind)
 simp only[wc,gp,up]
 grind
theorem see_right {a b q:RP} {t:Rat} (h0:0<t) (h1:t<1) (hq:crs a b q<0) :
  wc a b q-wc a b (at' a b t)=gp a q (at' a b t)-gp b q (at' a b t)+up a b-1:=by
 have h:=see_left (a:=b) (b:=a) (q:=q) (t:=1-t) (by grind) (by grind) (by rw[crs_rev];grind)
 have e:at' b a (1-t)=at' a b t:=by rw[at_rev];congr 1;grind
 rw[e,wc_rev,wc_rev a b] at h
 have hu:up b a=1-up a b∨(a.y=b.y∧a.x=b.x):=by
  unfold up
  grind
 rcases hu with hu | ⟨e1,e2⟩
 ·omega
 exfalso
 unfold crs at hq
 rw[e1,e2] at hq
 grind
def sumZ (f:Nat→Int):Nat→Int
 | 0=>0
 | n+1=>sumZ f n+f n
theorem sumZ_congr {f g:Nat→Int}:∀ {n:Nat},(∀ i,i<n→f i=g i)→sumZ f n=sumZ g n
 | 0,_=>rfl
 | n+1,h=>by rw[sumZ,sumZ,sumZ_congr (n:=n) (fun i hi=>h i (by omega)),h n (by omega)]
theorem sumZ_sub (f g:Nat→Int):∀ n:Nat,sumZ (fun i=>f i-g i) n=sumZ f n-sumZ g n
 | 0=>rfl
 | n+1=>by simp only[sumZ];rw[sumZ_sub f g n];omega
theorem sumZ_tele (g:Nat→Int):∀ n:Nat,sumZ (fun i=>g i-g (i+1)) n=g 0-g n
 | 0=>by simp[sumZ]
 | n+1=>by simp only[sumZ];rw[sumZ_tele g n];omega
theorem sumZ_but {f g:Nat→Int} {k:Nat} {d:Int}:∀ {n:Nat},k<n→(∀ i,i<n→i≠k→f i=g i)→f k=g k+d→sumZ f n=sumZ g n+d
 | 0,h,_,_=>by omega
 | n+1,h,ho,hk=>by
  simp only[sumZ]
  by_cases e:n=k
  ·subst e
   rw[sumZ_congr (n:=n) (fun i hi=>ho i (by omega) (by omega)),hk]
   omega
  rw[sumZ_but (n:=n) (by omega) (fun i hi=>ho i (by omega)) hk,ho n (by omega) e]
  omega
def wind (n:Nat) (P:Nat→RP) (q:RP):Int:=sumZ (fun i=>wc (P i) (P (i+1)) q) n
structure Simple (n:Nat) (P:Nat→RP):Prop where
 three:3≤n
 per:∀ i,P (i+n)=P i
 ne:∀ i,P i≠P (i+1)
 touch:∀ i k,i<n→k<n→i≠k→∀ l m:Rat,0≤l→l≤1→0≤m→m≤1→at' (P i) (P (i+1)) l=at' (P k) (P (k+1)) m →
  (k=(i+1) % n∧l=1∧m=0)∨(i=(k+1) % n∧l=0∧m=1)
def Off (n:Nat) (P:Nat→RP) (q:RP):Prop:=∀ i l,i<n→0≤l→l≤1→q≠at' (P i) (P (i+1)) l
theorem wind_move {n:Nat} {P:Nat→RP} (hper:P n=P 0) {q r:RP} (h:∀ i,i<n→Apart (P i) (P (i+1)) q r):wind n P q=wind n P r:=by
 have h1:sumZ (fun i=>wc (P i) (P (i+1)) q-wc (P i) (P (i+1)) r) n=sumZ (fun i=>gp (P i) q r-gp (P (i+1)) q r) n:=sumZ_congr fun i hi=>move (h i hi)
 rw[sumZ_sub,sumZ_tele (fun i=>gp (P i) q r),hper] at h1
 unfold wind
 omega
theorem wind_one {n:Nat} {P:Nat→RP} (hper:P n=P 0) {q r:RP} {k:Nat} (hk:k<n) (h:∀ i,i<n→i≠k→Apart (P i) (P (i+1)) q r) {d:Int}
  (hd:wc (P k) (P (k+1)) q-wc (P k) (P (k+1)) r=gp (P k) q r-gp (P (k+1)) q r+d):wind n P q=wind n P r+d:=by
 have h1:sumZ (fun i=>wc (P i) (P (i+1)) q-wc (P i) (P (i+1)) r) n=sumZ (fun i=>gp (P i) q r-gp (P (i+1)) q r) n+d :=
  sumZ_but hk (fun i hi hik=>move (h i hi hik)) hd
 rw[sumZ_sub,sumZ_tele (fun i=>gp (P i) q r),hper] at h1
 unfold wind
 omega
theorem at_at (a b:RP) (s t x:Rat):at' (at' a b s) (at' a b t) x=at' a b (s+x*(t-s)):=by
 unfold at'
 simp only[RP.mk.injEq]
 constructor <;> grind
theorem gp_line {a q r:RP} (h:crs q r a=0):gp a q r=0:=by
 unfold gp
 rw[h]
 grind
section
variable {n : Nat} {P : Nat → RP}
theorem Simple.close (h:Simple n P):P n=P 0:=by have:=h.per 0;rwa [Nat.zero_add] at this
theorem Simple.open_off (h:Simple n P) {i k:Nat} (hi:i<n) (hk:k<n) (hik:i≠k) {t l:Rat} (h0:0<t) (h1:t<1) (l0:0≤l) (l1:l≤1):at' (P i) (P (i+1)) t≠at' (P k) (P (k+1)) l:=fun e=>by
 rcases h.touch i k hi hk hik t l (by grind) (by grind) l0 l1 e with ⟨_,e,_⟩ | ⟨_,e,_⟩ <;> grind
theorem Simple.slide (h:Simple n P) {i:Nat} (hi:i<n) {s t:Rat} (s0:0<s) (s1:s<1) (t0:0<t) (t1:t<1):wind n P (at' (P i) (P (i+1)) s)=wind n P (at' (P i) (P (i+1)) t):=by
 have:=wind_one (d:=0) h.close hi (q:=at' (P i) (P (i+1)) s) (r:=at' (P i) (P (i+1)) t) (fun k hk hki l m l0 l1 m0 m1 e=>?_) ?_
 ·omega
 ·rw[at_at] at e
  have c1:=mul_nn m0 (b:=t) (by grind)
  have c2:=mul_nn (a:=1-m) (b:=s) (by grind) (by grind)
  have c3:0<s+m*(t-s):=by
   rcases Rat.le_iff_lt_or_eq.1 m0 with hm | hm
   ·have:=mul_pp hm t0
    grind
   rw[←hm];grind
  have c4:s+m*(t-s)<1:=by
   have d1:=mul_nn m0 (b:=1-t) (by grind)
   rcases Rat.le_iff_lt_or_eq.1 m1 with hm | hm
   ·have:=mul_pp (a:=1-m) (b:=1-s) (by grind) (by grind)
    grind
   rw[hm];grind
  exact h.open_off hi hk (Ne.symm hki) c3 c4 l0 l1 e.symm
 rw[wc_on,wc_on,gp_line,gp_line]
 ·rfl
 ·simp only[crs,at'];grind
 simp only[crs,at'];grind
def lam (n:Nat) (P:Nat→RP) (i:Nat):Int:=wind n P (at' (P i) (P (i+1)) (1 / 2))+up (P i) (P (i+1))
theorem half_in:(0:Rat)<1 / 2∧(1 / 2:Rat)<1:=by constructor <;> grind
theorem Simple.left (h:Simple n P) {i:Nat} (hi:i<n) {t:Rat} (t0:0<t) (t1:t<1) {q:RP} (hq:0<crs (P i) (P (i+1)) q)
  (hk:∀ k,k<n→k≠i→Apart (P k) (P (k+1)) q (at' (P i) (P (i+1)) t)):wind n P q=lam n P i:=by
 rw[wind_one h.close hi hk (d:=up (P i) (P (i+1))) (see_left t0 t1 hq),h.slide hi t0 t1 half_in.1 half_in.2]
 rfl
theorem Simple.right (h:Simple n P) {i:Nat} (hi:i<n) {t:Rat} (t0:0<t) (t1:t<1) {q:RP} (hq:crs (P i) (P (i+1)) q<0)
  (hk:∀ k,k<n→k≠i→Apart (P k) (P (k+1)) q (at' (P i) (P (i+1)) t)):wind n P q=lam n P i-1:=by
 rw[wind_one h.close hi hk (d:=up (P i) (P (i+1))-1) (by have:=see_right t0 t1 hq;omega),h.slide hi t0 t1 half_in.1 half_in.2]
 unfold lam
 omega
end
def Near (e:Rat) (b q:RP):Prop:=-e<q.x-b.x∧q.x-b.x<e∧-e<q.y-b.y∧q.y-b.y<e
theorem Near.mono {e f:Rat} (h:e≤f) {b q:RP} (hq:Near e b q):Near f b q:=by unfold Near at *;grind
theorem Near.seg {e:Rat} {b q r:RP} (hq:Near e b q) (hr:Near e b r) {x:Rat} (x0:0≤x) (x1:x≤1):Near e b (at' q r x):=by
 unfold Near at *
 obtain⟨q1,q2,q3,q4⟩:=hq
 obtain⟨r1,r2,r3,r4⟩:=hr
 have key:∀ u v:Rat,-e<u→u<e→-e<v→v<e→-e<u+x*(v-u)∧u+x*(v-u)<e:=by
  intro u v h1 h2 h3 h4
  have p1:=mul_nn (a:=1-x) (b:=u+e) (by grind) (by grind)
  have p2:=mul_nn (a:=x) (b:=v+e) x0 (by grind)
  have p3:=mul_nn (a:=1-x) (b:=e-u) (by grind) (by grind)
  have p4:=mul_nn (a:=x) (b:=e-v) x0 (by grind)
  rcases Rat.le_iff_lt_or_eq.1 x0 with hx | hx
  ·have p5:=mul_pp (a:=x) (b:=v+e) hx (by grind)
   have p6:=mul_pp (a:=x) (b:=e-v) hx (by grind)
   grind
  rw[←hx];grind
 have hx:=key _ _ q1 q2 r1 r2
 have hy:=key _ _ q3 q4 r3 r4
 simp only[at']
 grind
theorem abs_ex (a:Rat):∃ k:Rat,0≤k∧-k≤a∧a≤k:=by
 rcases Rat.le_total (a:=0) (b:=a) with h | h
 ·exact⟨a,h,by grind,by grind⟩
 exact⟨-a,by grind,by grind,by grind⟩
theorem mul_abs {a k d e:Rat} (h1:-k≤a) (h2:a≤k) (d1:-e≤d) (d2:d≤e):-(k*e)≤a*d∧a*d≤k*e:=by
 have p1:=mul_nn (a:=k-a) (b:=e-d) (by grind) (by grind)
 have p2:=mul_nn (a:=k+a) (b:=e+d) (by grind) (by grind)
 have p3:=mul_nn (a:=k-a) (b:=e+d) (by grind) (by grind)
 have p4:=mul_nn (a:=k+a) (b:=e-d) (by grind) (by grind)
 constructor <;> grind
theorem near_pos {f α β:Rat} (hf:0<f) (b:RP):∃ e:Rat,0<e∧∀ q,Near e b q→0<f+α*(q.x-b.x)+β*(q.y-b.y):=by
 obtain⟨k,k0,k1,k2⟩:=abs_ex α
 obtain⟨m,m0,m1,m2⟩:=abs_ex β
 have hk:0<k+m+1:=by grind
 have e0:0<f / (k+m+1):=by
  have e:=Rat.div_mul_cancel (a:=f) (b:=k+m+1) (by grind)
  exact pos_of_mul hk (by rw[e];exact hf)
 refine⟨f / (k+m+1),e0,fun q hq=>?_⟩
 obtain⟨q1,q2,q3,q4⟩:=hq
 have e:=Rat.div_mul_cancel (a:=f) (b:=k+m+1) (by grind)
 generalize f / (k+m+1)=e' at *
 have a1:=mul_abs k1 k2 (e:=e') (d:=q.x-b.x) (by grind) (by grind)
 have a2:=mul_abs m1 m2 (e:=e') (d:=q.y-b.y) (by grind) (by grind)
 grind
theorem sq0 (z:Rat):0≤z*z:=by
 rcases Rat.le_total (a:=0) (b:=z) with h | h
 ·exact mul_nn h h
 exact nn_mul h h
theorem seg_of_dot {c d b:RP} (h:crs c d b=0) (h0:0≤(b.x-c.x)*(d.x-c.x)+(b.y-c.y)*(d.y-c.y))
  (h1:(b.x-c.x)*(d.x-c.x)+(b.y-c.y)*(d.y-c.y)≤(d.x-c.x)*(d.x-c.x)+(d.y-c.y)*(d.y-c.y)) (hne:c≠d):∃ l:Rat,0≤l∧l≤1∧b=at' c d l:=by
 have hL:0<(d.x-c.x)*(d.x-c.x)+(d.y-c.y)*(d.y-c.y):=by
  have sq:∀ z:Rat,z≠0→0<z*z:=fun z hz=>by
   rcases Std.lt_trichotomy z 0 with h | h | h
   ·have:=mul_pp (a:=-z) (b:=-z) (by grind) (by grind);grind
   ·exact absurd h hz
   exact mul_pp h h
  have sq0:∀ z:Rat,0≤z*z:=fun z=>by
   by_cases hz:z=0
   ·rw[hz];grind
   have:=sq z hz;grind
  have s1:=sq0 (d.x-c.x)
  have s2:=sq0 (d.y-c.y)
  by_cases hx:d.x-c.x=0
  ·have hy:d.y-c.y≠0:=fun hy=>hne (by cases c;cases d;simp only[RP.mk.injEq] at *;constructor <;> grind)
   have:=sq _ hy
   grind
  have:=sq _ hx
  grind
 generalize hD:(b.x-c.x)*(d.x-c.x)+(b.y-c.y)*(d.y-c.y)=D at *
 generalize hLL:(d.x-c.x)*(d.x-c.x)+(d.y-c.y)*(d.y-c.y)=L at *
 have e:=Rat.div_mul_cancel (a:=D) (b:=L) (by grind)
 obtain⟨l0,l1⟩:=div_mem hL h0 h1
 refine⟨D / L,l0,l1,?_⟩
 generalize D / L=l at *
 have ex:(b.x-c.x-l*(d.x-c.x))*L=0:=by unfold crs at h;grind
 have ey:(b.y-c.y-l*(d.y-c.y))*L=0:=by unfold crs at h;grind
 cases b
 unfold at'
 rw[RP.mk.injEq]
 constructor
 ·rcases Rat.mul_eq_zero.1 ex with h2 | h2 <;> grind
 rcases Rat.mul_eq_zero.1 ey with h2 | h2 <;> grind
theorem near_off {c d b:RP} (hne:c≠d) (h:∀ l:Rat,0≤l→l≤1→b≠at' c d l):∃ e:Rat,0<e∧∀ q,Near e b q→∀ l:Rat,0≤l→l≤1→q≠at' c d l:=by
 rcases Std.lt_trichotomy (crs c d b) 0 with h0 | h0 | h0
 ·obtain⟨e,e0,he⟩:=near_pos (f:=- crs c d b) (α:=d.y-c.y) (β:=-(d.x-c.x)) (by grind) b
  refine⟨e,e0,fun q hq l l0 l1 eq=>?_⟩
  have:=he q hq
  have h2:=crs_at c d l
  rw[←eq] at h2
  unfold crs at this h2
  grind
 ·by_cases p1:0≤(b.x-c.x)*(d.x-c.x)+(b.y-c.y)*(d.y-c.y)
  ·by_cases p2:(b.x-c.x)*(d.x-c.x)+(b.y-c.y)*(d.y-c.y)≤(d.x-c.x)*(d.x-c.x)+(d.y-c.y)*(d.y-c.y)
   ·obtain⟨l,l0,l1,e⟩:=seg_of_dot h0 p1 p2 hne
    exact absurd e (h l l0 l1)
   obtain⟨e,e0,he⟩:=near_pos (f:=(b.x-c.x)*(d.x-c.x)+(b.y-c.y)*(d.y-c.y)-((d.x-c.x)*(d.x-c.x)+(d.y-c.y)*(d.y-c.y))) (α:=d.x-c.x) (β:=d.y-c.y) (by grind) b
   refine⟨e,e0,fun q hq l l0 l1 eq=>?_⟩
   have:=he q hq
   have q1:=mul_nn (a:=1-l) (b:=(d.x-c.x)*(d.x-c.x)) (by grind) (sq0 _)
   have q2:=mul_nn (a:=1-l) (b:=(d.y-c.y)*(d.y-c.y)) (by grind) (sq0 _)
   rw[eq] at this
   simp only[at'] at this
   grind
  obtain⟨e,e0,he⟩:=near_pos (f:=- ((b.x-c.x)*(d.x-c.x)+(b.y-c.y)*(d.y-c.y))) (α:=- (d.x-c.x)) (β:=- (d.y-c.y)) (by grind) b
  refine⟨e,e0,fun q hq l l0 l1 eq=>?_⟩
  have:=he q hq
  have q1:=mul_nn (a:=l) (b:=(d.x-c.x)*(d.x-c.x)) l0 (sq0 _)
  have q2:=mul_nn (a:=l) (b:=(d.y-c.y)*(d.y-c.y)) l0 (sq0 _)
  rw[eq] at this
  simp only[at'] at this
  grind
 obtain⟨e,e0,he⟩:=near_pos (f:=crs c d b) (α:=-(d.y-c.y)) (β:=d.x-c.x) h0 b
 refine⟨e,e0,fun q hq l l0 l1 eq=>?_⟩
 have:=he q hq
 have h2:=crs_at c d l
 rw[←eq] at h2
 unfold crs at this h2
 grind
theorem near_all {p:Nat→RP→Prop} {b:RP}:∀ {n:Nat},(∀ k,k<n→∃ e:Rat,0<e∧∀ q,Near e b q→p k q)→∃ e:Rat,0<e∧∀ q,Near e b q→∀ k,k<n→p k q
 | 0,_=>⟨1,by grind,fun _ _ k hk=>by omega⟩
 | n+1,h=>by
  obtain⟨e,e0,he⟩:=near_all (n:=n) (fun k hk=>h k (by omega))
  obtain⟨f,f0,hf⟩:=h n (by omega)
  rcases Rat.le_total (a:=e) (b:=f) with hef | hef
  ·refine⟨e,e0,fun q hq k hk=>?_⟩
   by_cases hkn:k=n
   ·subst hkn;exact hf q (hq.mono hef)
   exact he q hq k (by omega)
  refine⟨f,f0,fun q hq k hk=>?_⟩
  by_cases hkn:k=n
  ·subst hkn;exact hf q hq
  exact he q (hq.mono hef) k (by omega)
theorem small_part (b u v:RP) {e:Rat} (he:0<e):∃ t:Rat,0<t∧t<1 / 2∧Near e b ⟨b.x+t*u.x,b.y+t*u.y⟩∧Near e b ⟨b.x+t*v.x,b.y+t*v.y⟩:=by
 obtain⟨k1,a0,a1,a2⟩:=abs_ex u.x
 obtain⟨k2,b0,b1,b2⟩:=abs_ex u.y
 obtain⟨k3,c0,c1,c2⟩:=abs_ex v.x
 obtain⟨k4,d0,d1,d2⟩:=abs_ex v.y
 have hk:0<k1+k2+k3+k4+2*e+1:=by grind
 have ee:=Rat.div_mul_cancel (a:=e) (b:=k1+k2+k3+k4+2*e+1) (by grind)
 have t0:0<e / (k1+k2+k3+k4+2*e+1):=pos_of_mul hk (by rw[ee];exact he)
 generalize e / (k1+k2+k3+k4+2*e+1)=t at *
 have p1:=mul_nn (a:=t) (b:=k1) (by grind) a0
 have p2:=mul_nn (a:=t) (b:=k2) (by grind) b0
 have p3:=mul_nn (a:=t) (b:=k3) (by grind) c0
 have p4:=mul_nn (a:=t) (b:=k4) (by grind) d0
 have p5:=mul_pp (a:=t) (b:=e) t0 he
 have key:∀ k z:Rat,-k≤z→z≤k→t*k<e→-e<t*z∧t*z<e:=fun k z h1 h2 h3=>by
  have r1:=mul_nn (a:=t) (b:=k-z) (by grind) (by grind)
  have r2:=mul_nn (a:=t) (b:=k+z) (by grind) (by grind)
  constructor <;> grind
 have y1:=key k1 u.x a1 a2 (by grind)
 have y2:=key k2 u.y b1 b2 (by grind)
 have y3:=key k3 v.x c1 c2 (by grind)
 have y4:=key k4 v.y d1 d2 (by grind)
 have th:t<1 / 2:=by
  have:=pos_of_mul (x:=1 / 2-t) (k:=2*e) (by grind) (by grind)
  grind
 refine⟨t,t0,th,?_,?_⟩ <;> (unfold Near;dsimp only;grind)
theorem crs_lin (a b q r:RP) (x:Rat):crs a b (at' q r x)=(1-x)*crs a b q+x*crs a b r:=by simp only[crs,at'];grind
theorem at0 (a b:RP):at' a b 0=a:=by cases a;simp only[at',RP.mk.injEq];constructor <;> grind
theorem at1 (a b:RP):at' a b 1=b:=by cases b;simp only[at',RP.mk.injEq];constructor <;> grind
theorem apart_side {a b q m:RP} (hq:0<crs a b q) (hm:0≤crs a b m) (hoff:∀ l:Rat,0≤l→l≤1→m≠at' a b l):Apart a b q m:=fun l x l0 l1 x0 x1 eq=>by
 have z:=crs_at a b l
 rw[eq,crs_lin] at z
 have y2:=mul_nn x0 hm
 rcases Rat.le_iff_lt_or_eq.1 x1 with hx | hx
 ·have:=mul_pp (a:=1-x) (by grind) hq
  grind
 rw[hx,at1] at eq
 exact hoff l l0 l1 eq.symm
theorem apart_side' {a b q m:RP} (hq:crs a b q<0) (hm:crs a b m≤0) (hoff:∀ l:Rat,0≤l→l≤1→m≠at' a b l):Apart a b q m:=by
 refine (apart_side (a:=b) (b:=a) (q:=q) (m:=m) (by rw[crs_rev];grind) (by rw[crs_rev];grind) (fun l l0 l1 e=>?_)).rev
 rw[at_rev] at e
 exact hoff _ (by grind) (by grind) e
section
variable {n : Nat} {P : Nat → RP}
theorem Simple.mod (h:Simple n P):∀ i,P (i % n)=P i:=by
 have key:∀ k i,P (i+k*n)=P i:=fun k=>by
  induction k with
  | zero=>intro i;simp
  | succ k ih=>intro i;rw[Nat.succ_mul,←Nat.add_assoc,h.per,ih]
 intro i
 have:=key (i / n) (i % n)
 rw[Nat.mod_add_div'] at this
 exact this.symm
theorem Simple.adj (h:Simple n P) {i j:Nat} (hi:i<n) (hj:j=(i+1) % n) {l m:Rat} (l0:0≤l) (l1:l≤1) (m0:0≤m) (m1:m≤1) (e:at' (P i) (P (i+1)) l=at' (P j) (P (j+1)) m):l=1∧m=0:=by
 have h3:=h.three
 have hjn:j<n:=by rw[hj];exact Nat.mod_lt _ (by omega)
 have hij:i≠j:=by
  by_cases hw:i+1<n
  ·rw[Nat.mod_eq_of_lt hw] at hj;omega
  have:i+1=n:=by omega
  rw[this,Nat.mod_self] at hj;omega
 rcases h.touch i j hi hjn hij l m l0 l1 m0 m1 e with ⟨_,h1,h2⟩ | ⟨h1,_,_⟩
 ·exact⟨h1,h2⟩
 exfalso
 by_cases hw:i+1<n
 ·rw[Nat.mod_eq_of_lt hw] at hj
  by_cases hw2:j+1<n
  ·rw[Nat.mod_eq_of_lt hw2] at h1;omega
  have:j+1=n:=by omega
  rw[this,Nat.mod_self] at h1;omega
 have:i+1=n:=by omega
 rw[this,Nat.mod_self] at hj
 subst hj
 rw[Nat.mod_eq_of_lt (by omega)] at h1;omega
theorem Simple.on (h:Simple n P) {i j:Nat} (hi:i<n) (hj:j=(i+1) % n) (hc:crs (P i) (P (i+1)) (P (j+1))=0) :
  0<((P (i+1)).x-(P i).x)*((P (j+1)).x-(P (i+1)).x)+((P (i+1)).y-(P i).y)*((P (j+1)).y-(P (i+1)).y):=by
 have hB:P j=P (i+1):=by rw[hj];exact h.mod _
 have hadj:=fun l m l0 l1 m0 m1 e=>h.adj hi hj (l:=l) (m:=m) l0 l1 m0 m1 e
 have n1:=h.ne i
 have n2:=h.ne j
 rw[hB] at hadj n2
 generalize P (j+1)=C at *
 generalize P (i+1)=B at *
 generalize P i=A at *
 refine Rat.not_le.1 fun hd=>?_
 have k1:=seg_of_dot (c:=B) (d:=C) (b:=A) (by rw[←hc];simp only[crs];grind) (by grind)
 have k2:=seg_of_dot (c:=B) (d:=A) (b:=C) (by simp only[crs] at hc ⊢;grind) (by grind)
 by_cases p1:(A.x-B.x)*(C.x-B.x)+(A.y-B.y)*(C.y-B.y)≤(C.x-B.x)*(C.x-B.x)+(C.y-B.y)*(C.y-B.y)
 ·obtain⟨l,l0,l1,e⟩:=k1 p1 n2
  have:=hadj 0 l (by grind) (by grind) l0 l1 (by rw[at0];exact e)
  grind
 by_cases p2:(C.x-B.x)*(A.x-B.x)+(C.y-B.y)*(A.y-B.y)≤(A.x-B.x)*(A.x-B.x)+(A.y-B.y)*(A.y-B.y)
 ·obtain⟨l,l0,l1,e⟩:=k2 p2 (Ne.symm n1)
  have:=hadj (1-l) 1 (by grind) (by grind) (by grind) (by grind) (by rw[at1,←at_rev];exact e.symm)
  grind
 have s1:=sq0 (C.x-B.x)
 have s2:=sq0 (C.y-B.y)
 have s3:=sq0 (A.x-B.x)
 have s4:=sq0 (A.y-B.y)
 have hx:((A.x-B.x)*(C.x-B.x)+(A.y-B.y)*(C.y-B.y))*((A.x-B.x)*(C.x-B.x)+(A.y-B.y)*(C.y-B.y)) =
   ((C.x-B.x)*(C.x-B.x)+(C.y-B.y)*(C.y-B.y))*((A.x-B.x)*(A.x-B.x)+(A.y-B.y)*(A.y-B.y)):=by
  unfold crs at hc
  grind
 have e2:(C.x-B.x)*(A.x-B.x)+(C.y-B.y)*(A.y-B.y)=(A.x-B.x)*(C.x-B.x)+(A.y-B.y)*(C.y-B.y):=by grind
 rw[e2] at p2
 generalize (A.x-B.x)*(C.x-B.x)+(A.y-B.y)*(C.y-B.y)=D at *
 have t1:0≤(C.x-B.x)*(C.x-B.x)+(C.y-B.y)*(C.y-B.y):=by grind
 have t2:0≤(A.x-B.x)*(A.x-B.x)+(A.y-B.y)*(A.y-B.y):=by grind
 generalize (C.x-B.x)*(C.x-B.x)+(C.y-B.y)*(C.y-B.y)=U at *
 generalize (A.x-B.x)*(A.x-B.x)+(A.y-B.y)*(A.y-B.y)=V at *
 have r1:=mul_pp (a:=D-U) (b:=D-V) (by grind) (by grind)
 have r2:=mul_nn (a:=U) (b:=D-V) t1 (by grind)
 have r3:=mul_nn (a:=V) (b:=D-U) t2 (by grind)
 grind
theorem Simple.corner (h:Simple n P) {i j:Nat} (hi:i<n) (hj:j=(i+1) % n):lam n P i=lam n P j:=by
 have h3:=h.three
 have hjn:j<n:=by rw[hj];exact Nat.mod_lt _ (by omega)
 have hB:P j=P (i+1):=by rw[hj];exact h.mod _
 obtain⟨e,e0,hfar⟩:=near_all (n:=n) (b:=P (i+1)) (p:=fun k q=>k≠i→k≠j→∀ l:Rat,0≤l→l≤1→q≠at' (P k) (P (k+1)) l) (fun k hk=>by
  by_cases hki:k=i
  ·exact⟨1,by grind,fun _ _ h=>absurd hki h⟩
  by_cases hkj:k=j
  ·exact⟨1,by grind,fun _ _ _ h=>absurd hkj h⟩
  obtain⟨e,e0,he⟩:=near_off (h.ne k) (b:=P (i+1)) (fun l l0 l1 eq=>by
   have:=h.touch i k hi hk (Ne.symm hki) 1 l (by grind) (by grind) l0 l1 (by rw[at1];exact eq)
   rcases this with ⟨h1,_,_⟩ | ⟨_,h1,_⟩
   ·exact hkj (h1.trans hj.symm)
   grind)
  exact⟨e,e0,fun q hq _ _=>he q hq⟩)
 have far:∀ k,k<n→k≠i→k≠j→∀ q r,Near e (P (i+1)) q→Near e (P (i+1)) r→Apart (P k) (P (k+1)) q r:=fun k hk hki hkj q r hq hr l m l0 l1 m0 m1 eq =>
  hfar _ (hq.seg hr m0 m1) k hk hki hkj l l0 l1 eq.symm
 have hadj:=fun l m l0 l1 m0 m1 e=>h.adj hi hj (l:=l) (m:=m) l0 l1 m0 m1 e
 have hL:=fun t t0 t1 q hq hk=>h.left hi (t:=t) t0 t1 (q:=q) hq hk
 have hR:=fun t t0 t1 q hq hk=>h.right hi (t:=t) t0 t1 (q:=q) hq hk
 have hL':=fun t t0 t1 q hq hk=>h.left hjn (t:=t) t0 t1 (q:=q) hq hk
 have hR':=fun t t0 t1 q hq hk=>h.right hjn (t:=t) t0 t1 (q:=q) hq hk
 have hon:=h.on hi hj
 have hij:i≠j:=fun eq=>by
  have:=h.adj hi hj (l:=0) (m:=0) (by grind) (by grind) (by grind) (by grind) (by rw[←eq])
  grind
 rw[hB] at hadj hL' hR'
 obtain⟨t,t0,th,hm,hm'⟩:=small_part (P (i+1)) ⟨(P i).x-(P (i+1)).x,(P i).y-(P (i+1)).y⟩ ⟨(P (j+1)).x-(P (i+1)).x,(P (j+1)).y-(P (i+1)).y⟩ e0
 have em:(⟨(P (i+1)).x+t*((P i).x-(P (i+1)).x),(P (i+1)).y+t*((P i).y-(P (i+1)).y)⟩:RP)=at' (P i) (P (i+1)) (1-t):=by simp only[at',RP.mk.injEq];constructor <;> grind
 have em':(⟨(P (i+1)).x+t*((P (j+1)).x-(P (i+1)).x),(P (i+1)).y+t*((P (j+1)).y-(P (i+1)).y)⟩:RP)=at' (P (i+1)) (P (j+1)) t:=rfl
 dsimp only at hm hm'
 rw[em] at hm
 rw[em'] at hm'
 have off1:∀ k,k<n→k≠i→k≠j→∀ q,Near e (P (i+1)) q→Apart (P k) (P (k+1)) q (at' (P i) (P (i+1)) (1-t)):=fun k hk a b q hq=>far k hk a b q _ hq hm
 have off2:∀ k,k<n→k≠i→k≠j→∀ q,Near e (P (i+1)) q→Apart (P k) (P (k+1)) q (at' (P (i+1)) (P (j+1)) t):=fun k hk a b q hq=>far k hk a b q _ hq hm'
 have c1:crs (P i) (P (i+1)) (at' (P (i+1)) (P (j+1)) t)=t*crs (P i) (P (i+1)) (P (j+1)):=by simp only[crs,at'];grind
 have c2:crs (P (i+1)) (P (j+1)) (at' (P i) (P (i+1)) (1-t))=t*crs (P i) (P (i+1)) (P (j+1)):=by simp only[crs,at'];grind
 have c3:=crs_at (P i) (P (i+1)) (1-t)
 have c4:=crs_at (P (i+1)) (P (j+1)) t
 have z1:=crs_at (P i) (P (i+1))
 have z2:=crs_at (P (i+1)) (P (j+1))
 have hPj:∀ k,k≠i→k=j→P k=P (i+1)∧P (k+1)=P (j+1):=fun k _ hk=>by subst hk;exact⟨hB,rfl⟩
 have hmid:=hm.seg hm' (x:=1 / 2) (by grind) (by grind)
 have mo1:∀ l:Rat,0≤l→l≤1→at' (P i) (P (i+1)) (1-t)≠at' (P (i+1)) (P (j+1)) l:=fun l l0 l1 eq=>by
  have:=hadj (1-t) l (by grind) (by grind) l0 l1 eq
  grind
 have mo2:∀ l:Rat,0≤l→l≤1→at' (P (i+1)) (P (j+1)) t≠at' (P i) (P (i+1)) l:=fun l l0 l1 eq=>by
  have:=hadj l t l0 l1 (by grind) (by grind) eq.symm
  grind
 have posL:∀ q,Near e (P (i+1)) q→0<crs (P i) (P (i+1)) q→0<crs (P (i+1)) (P (j+1)) q→0≤crs (P i) (P (i+1)) (P (j+1))→lam n P i=lam n P j:=fun q hn hq1 hq2 hc=>by
  have y:=mul_nn (a:=t) (by grind) hc
  have e1:=hL (1-t) (by grind) (by grind) q hq1 (fun k hk hki=>by
   by_cases hkj:k=j
   ·obtain⟨e1,e2⟩:=hPj k hki hkj
    rw[e1,e2]
    exact apart_side hq2 (by rw[c2];exact y) mo1
   exact off1 k hk hki hkj _ hn)
  have e2:=hL' t (by grind) (by grind) q hq2 (fun k hk hkj=>by
   by_cases hki:k=i
   ·subst hki
    exact apart_side hq1 (by rw[c1];exact y) mo2
   exact off2 k hk hki hkj _ hn)
  omega
 have posR:∀ q,Near e (P (i+1)) q→crs (P i) (P (i+1)) q<0→crs (P (i+1)) (P (j+1)) q<0→crs (P i) (P (i+1)) (P (j+1))≤0→lam n P i=lam n P j:=fun q hn hq1 hq2 hc=>by
  have y:=np_mul (b:=t) hc (by grind)
  have e1:=hR (1-t) (by grind) (by grind) q hq1 (fun k hk hki=>by
   by_cases hkj:k=j
   ·obtain⟨e1,e2⟩:=hPj k hki hkj
    rw[e1,e2]
    exact apart_side' hq2 (by rw[c2];grind) mo1
   exact off1 k hk hki hkj _ hn)
  have e2:=hR' t (by grind) (by grind) q hq2 (fun k hk hkj=>by
   by_cases hki:k=i
   ·subst hki
    exact apart_side' hq1 (by rw[c1];grind) mo2
   exact off2 k hk hki hkj _ hn)
  omega
 have q1:=crs_lin (P i) (P (i+1)) (at' (P i) (P (i+1)) (1-t)) (at' (P (i+1)) (P (j+1)) t) (1 / 2)
 have q2:=crs_lin (P (i+1)) (P (j+1)) (at' (P i) (P (i+1)) (1-t)) (at' (P (i+1)) (P (j+1)) t) (1 / 2)
 rw[c1,c3] at q1
 rw[c2,c4] at q2
 rcases Std.lt_trichotomy (crs (P i) (P (i+1)) (P (j+1))) 0 with hc | hc | hc
 ·have p:=n_mul hc t0
  exact posR _ hmid (by grind) (by grind) (by grind)
 ·have hon:=hon hc
  obtain⟨s,s0,sh,hs,_⟩:=small_part (P (i+1)) ⟨-((P (i+1)).y-(P i).y),(P (i+1)).x-(P i).x⟩ ⟨0,0⟩ e0
  dsimp only at hs
  have n1:=h.ne i
  refine posL _ hs ?_ ?_ (by grind)
  ·have hsq:0<((P (i+1)).x-(P i).x)*((P (i+1)).x-(P i).x)+((P (i+1)).y-(P i).y)*((P (i+1)).y-(P i).y):=by
    have s1:=sq0 ((P (i+1)).x-(P i).x)
    have s2:=sq0 ((P (i+1)).y-(P i).y)
    refine Rat.not_le.1 fun hz=>?_
    have z1:((P (i+1)).x-(P i).x)*((P (i+1)).x-(P i).x)=0:=by grind
    have z2:((P (i+1)).y-(P i).y)*((P (i+1)).y-(P i).y)=0:=by grind
    rcases Rat.mul_eq_zero.1 z1 with z1 | z1 <;> rcases Rat.mul_eq_zero.1 z2 with z2 | z2 <;> grind
   have:=mul_pp s0 hsq
   unfold crs
   grind
  have:=mul_pp s0 hon
  unfold crs
  grind
 have p:=mul_pp t0 hc
 exact posL _ hmid (by grind) (by grind) (by grind)
end
theorem line_param {a b q:RP} (hne:a≠b) (h:crs a b q=0):∃ m:Rat,q=at' a b m:=by
 have hL:(b.x-a.x)*(b.x-a.x)+(b.y-a.y)*(b.y-a.y)≠0:=fun hz=>by
  have s1:=sq0 (b.x-a.x)
  have s2:=sq0 (b.y-a.y)
  have z1:(b.x-a.x)*(b.x-a.x)=0:=by grind
  have z2:(b.y-a.y)*(b.y-a.y)=0:=by grind
  have z1:b.x-a.x=0:=by rcases Rat.mul_eq_zero.1 z1 with z | z <;> exact z
  have z2:b.y-a.y=0:=by rcases Rat.mul_eq_zero.1 z2 with z | z <;> exact z
  refine hne ?_
  cases a;cases b
  rw[RP.mk.injEq]
  constructor <;> grind
 generalize hLL:(b.x-a.x)*(b.x-a.x)+(b.y-a.y)*(b.y-a.y)=L at *
 have e:=Rat.div_mul_cancel (a:=(q.x-a.x)*(b.x-a.x)+(q.y-a.y)*(b.y-a.y)) (b:=L) hL
 refine⟨((q.x-a.x)*(b.x-a.x)+(q.y-a.y)*(b.y-a.y)) / L,?_⟩
 generalize ((q.x-a.x)*(b.x-a.x)+(q.y-a.y)*(b.y-a.y)) / L=l at *
 have ex:(q.x-a.x-l*(b.x-a.x))*L=0:=by unfold crs at h;grind
 have ey:(q.y-a.y-l*(b.y-a.y))*L=0:=by unfold crs at h;grind
 cases q
 unfold at'
 rw[RP.mk.injEq]
 constructor
 ·rcases Rat.mul_eq_zero.1 ex with h2 | h2 <;> grind
 rcases Rat.mul_eq_zero.1 ey with h2 | h2 <;> grind
theorem min_hit {H:Nat→Rat→Prop}:∀ {n:Nat},(∀ k,k<n→∀ x y,H k x→H k y→x=y)→(∃ k,k<n∧∃ x,H k x)→∃ k,k<n∧∃ x,H k x∧∀ j,j<n→∀ y,H j y→x≤y
 | 0,_,h=>by obtain⟨k,hk,_⟩:=h;omega
 | n+1,hu,h=>by
  by_cases hn:∃ k,k<n∧∃ x,H k x
  ·obtain⟨k,hk,x,hx,hmin⟩:=min_hit (fun k hk=>hu k (by omega)) hn
   by_cases hl:∃ y,H n y
   ·obtain⟨y,hy⟩:=hl
    rcases Rat.le_total (a:=x) (b:=y) with hxy | hxy
    ·refine⟨k,by omega,x,hx,fun j hj z hz=>?_⟩
     by_cases e:j=n
     ·subst e;rw[hu j (by omega) z y hz hy];exact hxy
     exact hmin j (by omega) z hz
    refine⟨n,by omega,y,hy,fun j hj z hz=>?_⟩
    by_cases e:j=n
    ·subst e;rw[hu j (by omega) z y hz hy];grind
    have:=hmin j (by omega) z hz;grind
   refine⟨k,by omega,x,hx,fun j hj z hz=>?_⟩
   by_cases e:j=n
   ·subst e;exact absurd ⟨z,hz⟩ hl
   exact hmin j (by omega) z hz
  obtain⟨k,hk,x,hx⟩:=h
  have e:k=n:=by
   refine Decidable.byContradiction fun e=>hn ⟨k,by omega,x,hx⟩
  subst e
  refine⟨k,by omega,x,hx,fun j hj z hz=>?_⟩
  by_cases e:j=k
  ·subst e;rw[hu j (by omega) z x hz hx];grind
  exact absurd ⟨j,by omega,z,hz⟩ hn
theorem small_all {p:Nat→Rat→Prop}:∀ {n:Nat},(∀ k,k<n→∃ e:Rat,0<e∧∀ t,0<t→t<e→p k t)→∃ e:Rat,0<e∧∀ t,0<t→t<e→∀ k,k<n→p k t
 | 0,_=>⟨1,by grind,fun _ _ _ k hk=>by omega⟩
 | n+1,h=>by
  obtain⟨e,e0,he⟩:=small_all (n:=n) (fun k hk=>h k (by omega))
  obtain⟨f,f0,hf⟩:=h n (by omega)
  rcases Rat.le_total (a:=e) (b:=f) with hef | hef
  ·refine⟨e,e0,fun t t0 t1 k hk=>?_⟩
   by_cases hkn:k=n
   ·subst hkn;exact hf t t0 (by grind)
   exact he t t0 t1 k (by omega)
  refine⟨f,f0,fun t t0 t1 k hk=>?_⟩
  by_cases hkn:k=n
  ·subst hkn;exact hf t t0 t1
  exact he t t0 (by grind) k (by omega)
theorem cross_vec {a b c d e f:Rat} (h1:a*d-b*c=0) (h2:c*f-d*e=0) (hne:¬(c=0∧d=0)):a*f-b*e=0:=by
 have k1:(a*f-b*e)*c=0:=by grind
 have k2:(a*f-b*e)*d=0:=by grind
 rcases Rat.mul_eq_zero.1 k1 with k1 | k1
 ·exact k1
 rcases Rat.mul_eq_zero.1 k2 with k2 | k2
 ·exact k2
 exact absurd ⟨k1,k2⟩ hne
theorem dot_vec {a b c d e f:Rat} (h1:a*d-b*c=0) (g1:0<a*c+b*d) (g2:0<c*e+d*f):0<a*e+b*f:=by
 have h:=mul_pp g1 g2
 have k:(a*c+b*d)*(c*e+d*f)=(a*e+b*f)*(c*c+d*d)+(a*d-b*c)*(c*f-d*e):=by grind
 have s1:=sq0 c
 have s2:=sq0 d
 rw[h1,Rat.zero_mul,Rat.add_zero] at k
 rw[k] at h
 refine pos_of_mul (k:=c*c+d*d) ?_ h
 refine Rat.not_le.1 fun hz=>?_
 have z1:c*c=0:=by grind
 have z2:d*d=0:=by grind
 have z1:c=0:=by rcases Rat.mul_eq_zero.1 z1 with z | z <;> exact z
 have z2:d=0:=by rcases Rat.mul_eq_zero.1 z2 with z | z <;> exact z
 rw[z1,z2] at g1
 grind
section
variable {n : Nat} {P : Nat → RP}
theorem Simple.mod1 (h:Simple n P) (i:Nat) (hi:i<n):P ((i+1) % n+1)=P (i+2):=by
 by_cases hw:i+1<n
 ·rw[Nat.mod_eq_of_lt hw]
 have e:i+1=n:=by omega
 rw[e,Nat.mod_self,←h.per,show 0+1+n=i+2 by omega]
theorem Simple.lam_all (h:Simple n P):∀ {i:Nat},i<n→lam n P i=lam n P 0
 | 0,_=>rfl
 | i+1,hi=>by rw[←h.lam_all (i:=i) (by omega)];exact (h.corner (by omega) (by rw[Nat.mod_eq_of_lt hi])).symm
theorem Simple.some_side (h:Simple n P) {q:RP} (hq:Off n P q):∃ k,k<n∧crs (P k) (P (k+1)) q≠0:=by
 refine Classical.byContradiction fun hno=>?_
 have hz:∀ k,k<n→crs (P k) (P (k+1)) q=0:=fun k hk=>Classical.byContradiction fun h1=>hno ⟨k,hk,h1⟩
 have h3:=h.three
 have turn0:∀ i,i<n→crs (P i) (P (i+1)) (P (i+2))=0:=fun i hi=>by
  have hj:(i+1) % n<n:=Nat.mod_lt _ (by omega)
  have e1:=hz i hi
  have e2:=hz _ hj
  rw[h.mod1 i hi,h.mod] at e2
  refine Classical.byContradiction fun hc=>?_
  refine hq i 1 hi (by grind) (by grind) ?_
  rw[at1]
  generalize P i=A at *
  generalize P (i+1)=B at *
  generalize P (i+2)=C at *
  have k1:(q.x-B.x)*crs A B C=0:=by unfold crs at *;grind
  have k2:(q.y-B.y)*crs A B C=0:=by unfold crs at *;grind
  cases q;cases B
  rw[RP.mk.injEq]
  constructor
  ·rcases Rat.mul_eq_zero.1 k1 with k | k
   ·grind
   exact absurd k hc
  rcases Rat.mul_eq_zero.1 k2 with k | k
  ·grind
  exact absurd k hc
 have hon:∀ i,i<n→0<((P (i+1)).x-(P i).x)*((P (i+2)).x-(P (i+1)).x)+((P (i+1)).y-(P i).y)*((P (i+2)).y-(P (i+1)).y):=fun i hi=>by
  have:=h.on hi rfl (by rw[h.mod1 i hi];exact turn0 i hi)
  rw[h.mod1 i hi] at this
  exact this
 have all:∀ i,i<n→((P 1).x-(P 0).x)*((P (i+1)).y-(P i).y)-((P 1).y-(P 0).y)*((P (i+1)).x-(P i).x)=0∧0<((P 1).x-(P 0).x)*((P (i+1)).x-(P i).x)+((P 1).y-(P 0).y)*((P (i+1)).y-(P i).y):=by
  intro i
  induction i with
  | zero =>
   intro _
   refine⟨by grind,?_⟩
   have n1:=h.ne 0
   have s1:=sq0 ((P 1).x-(P 0).x)
   have s2:=sq0 ((P 1).y-(P 0).y)
   refine Rat.not_le.1 fun hz=>n1 ?_
   have z1:((P 1).x-(P 0).x)*((P 1).x-(P 0).x)=0:=by grind
   have z2:((P 1).y-(P 0).y)*((P 1).y-(P 0).y)=0:=by grind
   have z1:(P 1).x-(P 0).x=0:=by rcases Rat.mul_eq_zero.1 z1 with z | z <;> exact z
   have z2:(P 1).y-(P 0).y=0:=by rcases Rat.mul_eq_zero.1 z2 with z | z <;> exact z
   show P 0=P 1
   cases h0:P 0
   cases h1:P 1
   rw[h0,h1] at z1 z2
   rw[RP.mk.injEq]
   constructor <;> grind
  | succ i ih =>
   intro hi
   obtain⟨a1,a2⟩:=ih (by omega)
   have b1:=turn0 i (by omega)
   have b2:=hon i (by omega)
   have n1:=h.ne i
   refine⟨cross_vec a1 (by unfold crs at b1;grind) ?_,dot_vec a1 a2 b2⟩
   rintro⟨z1,z2⟩
   refine n1 ?_
   cases h0:P i
   cases h1:P (i+1)
   rw[h0,h1] at z1 z2
   rw[RP.mk.injEq]
   constructor <;> grind
 have mono:∀ i,i≤n→0<i→0<((P 1).x-(P 0).x)*((P i).x-(P 0).x)+((P 1).y-(P 0).y)*((P i).y-(P 0).y):=by
  intro i
  induction i with
  | zero=>intro _ h0;omega
  | succ i ih =>
   intro hi _
   have:=(all i (by omega)).2
   by_cases h0:i=0
   ·subst h0;exact this
   have:=ih (by omega) (by omega)
   grind
 have:=mono n (by omega) (by omega)
 rw[h.close] at this
 grind
def Sees (n:Nat) (P:Nat→RP) (z:Rat) (i:Nat) (q:RP):Prop:=∃ t:Rat,0<t∧t<1∧0<z*crs (P i) (P (i+1)) q∧∀ k,k<n→k≠i→Apart (P k) (P (k+1)) q (at' (P i) (P (i+1)) t)
theorem Simple.see (h:Simple n P) {q:RP} (hq:Off n P q):∃ k,k<n∧(Sees n P 1 k q∨Sees n P (-1) k q):=by
 obtain⟨s,hs,hsq⟩:=h.some_side hq
 have corner_off:∀ k,k<n→P k≠q:=fun k hk e=>hq k 0 hk (by grind) (by grind) (by rw[at0];exact e.symm)
 have corner_off1:∀ k,k<n→P (k+1)≠q:=fun k hk e=>hq k 1 hk (by grind) (by grind) (by rw[at1];exact e.symm)
 obtain⟨e,e0,he⟩:=small_all (n:=n) (p:=fun k t=>∀ x:Rat,0≤x→x≤1→at' q (at' (P s) (P (s+1)) t) x≠P k) (fun k hk=>by
  by_cases hb:∃ t x:Rat,0<t∧at' q (at' (P s) (P (s+1)) t) x=P k
  ·obtain⟨t0,x0,ht0,e0⟩:=hb
   refine⟨t0,ht0,fun t t1 t2 x x1 x2 eq=>?_⟩
   have c0:=crs_lin (P s) (P (s+1)) q (at' (P s) (P (s+1)) t0) x0
   have c1:=crs_lin (P s) (P (s+1)) q (at' (P s) (P (s+1)) t) x
   rw[e0,crs_at] at c0
   rw[eq,crs_at] at c1
   have hx:(x-x0)*crs (P s) (P (s+1)) q=0:=by grind
   have hx:x=x0:=by
    rcases Rat.mul_eq_zero.1 hx with z | z
    ·grind
    exact absurd z hsq
   subst hx
   rw[←e0] at eq
   have hne:=h.ne s
   have ex:x*((t-t0)*((P (s+1)).x-(P s).x))=0:=by simp only[at',RP.mk.injEq] at eq;grind
   have ey:x*((t-t0)*((P (s+1)).y-(P s).y))=0:=by simp only[at',RP.mk.injEq] at eq;grind
   by_cases hx0:x=0
   ·rw[hx0,at0] at e0
    exact corner_off k hk e0.symm
   have ht:t-t0≠0:=by grind
   refine hne ?_
   have ex:(P (s+1)).x-(P s).x=0:=by
    rcases Rat.mul_eq_zero.1 ex with z | z
    ·exact absurd z hx0
    rcases Rat.mul_eq_zero.1 z with z | z
    ·exact absurd z ht
    exact z
   have ey:(P (s+1)).y-(P s).y=0:=by
    rcases Rat.mul_eq_zero.1 ey with z | z
    ·exact absurd z hx0
    rcases Rat.mul_eq_zero.1 z with z | z
    ·exact absurd z ht
    exact z
   cases h0:P s
   cases h1:P (s+1)
   rw[h0,h1] at ex ey
   rw[RP.mk.injEq]
   constructor <;> grind
  exact⟨1,by grind,fun t t0 _ x _ _ eq=>hb ⟨t,x,t0,eq⟩⟩)
 obtain⟨t,t0,t1,te⟩:∃ t:Rat,0<t∧t<1∧t<e:=by
  rcases Rat.le_total (a:=e) (b:=1) with h1 | h1
  ·exact⟨e*(1 / 2),by grind,by grind,by grind⟩
  exact⟨1 / 2,by grind,by grind,by grind⟩
 have good:=he t t0 te
 clear he
 have good1:∀ k,k<n→∀ x:Rat,0≤x→x≤1→at' q (at' (P s) (P (s+1)) t) x≠P (k+1):=fun k hk x x0 x1 eq=>by
  have h3:=h.three
  refine good ((k+1) % n) (Nat.mod_lt _ (by omega)) x x0 x1 ?_
  rw[h.mod]
  exact eq
 obtain⟨T,hT⟩:∃ T,T=at' (P s) (P (s+1)) t:=⟨_,rfl⟩
 have hTs:=hT
 rw[←hT] at good good1
 have hitne:∀ k,k<n→∀ x l:Rat,0≤x→x≤1→0≤l→l≤1→at' q T x=at' (P k) (P (k+1)) l→crs (P k) (P (k+1)) q≠0:=fun k hk x l x0 x1 l0 l1 eq hz=>by
  obtain⟨m,hm⟩:=line_param (h.ne k) hz
  have part:∀ y:Rat,0≤y→y≤1→at' q T (y*x)=at' (P k) (P (k+1)) (m+y*(l-m)):=fun y _ _=>by
   rw[←at_at,←hm,←eq]
   simp only[at',RP.mk.injEq]
   constructor <;> grind
  have yx:∀ y:Rat,0≤y→y≤1→0≤y*x∧y*x≤1:=fun y y0 y1=>by
   have h1:=mul_nn y0 x0
   have h2:=mul_nn y0 (b:=1-x) (by grind)
   constructor <;> grind
  rcases Rat.le_total (a:=0) (b:=m) with m0 | m0
  ·rcases Rat.le_total (a:=m) (b:=1) with m1 | m1
   ·exact hq k m hk m0 m1 hm
   have hml:0<m-l:=by
    refine Rat.not_le.1 fun hz=>?_
    have:m=1:=by grind
    rw[this,at1] at hm
    exact corner_off1 k hk hm.symm
   obtain⟨y0,y1⟩:=div_mem (c:=m-1) hml (by grind) (by grind)
   have e:=Rat.div_mul_cancel (a:=m-1) (b:=m-l) (by grind)
   generalize (m-1) / (m-l)=y at *
   obtain⟨h1,h2⟩:=yx y y0 y1
   refine good1 k hk (y*x) h1 h2 ?_
   rw[part y y0 y1,show m+y*(l-m)=1 by grind,at1]
  have hml:0<l-m:=by
   refine Rat.not_le.1 fun hz=>?_
   have:m=0:=by grind
   rw[this,at0] at hm
   exact corner_off k hk hm.symm
  obtain⟨y0,y1⟩:=div_mem (c:=- m) hml (by grind) (by grind)
  have e:=Rat.div_mul_cancel (a:=- m) (b:=l-m) (by grind)
  generalize (- m) / (l-m)=y at *
  obtain⟨h1,h2⟩:=yx y y0 y1
  refine good k hk (y*x) h1 h2 ?_
  rw[part y y0 y1,show m+y*(l-m)=0 by grind,at0]
 have hu:∀ k,k<n→∀ x y,(0≤x∧x≤1∧∃ l:Rat,0≤l∧l≤1∧at' q T x=at' (P k) (P (k+1)) l)→(0≤y∧y≤1∧∃ l:Rat,0≤l∧l≤1∧at' q T y=at' (P k) (P (k+1)) l)→x=y:=by
  rintro k hk x y ⟨x0,x1,l,l0,l1,e1⟩ ⟨y0,y1,m,m0,m1,e2⟩
  have hne:=hitne k hk x l x0 x1 l0 l1 e1
  have z1:=crs_at (P k) (P (k+1)) l
  have z2:=crs_at (P k) (P (k+1)) m
  rw[←e1,crs_lin] at z1
  rw[←e2,crs_lin] at z2
  have hm:(x-y)*crs (P k) (P (k+1)) q=0:=by grind
  rcases Rat.mul_eq_zero.1 hm with z | z
  ·grind
  exact absurd z hne
 obtain⟨k,hk,x,⟨x0,x1,l,l0,l1,eq⟩,hmin⟩:=min_hit (n:=n) (H:=fun k x=>0≤x∧x≤1∧∃ l:Rat,0≤l∧l≤1∧at' q T x=at' (P k) (P (k+1)) l) hu ⟨s,hs,1,by grind,by grind,t,by grind,by grind,by rw[at1];exact hT⟩
 have hne:=hitne k hk x l x0 x1 l0 l1 eq
 have xp:0<x:=by
  rcases Rat.le_iff_lt_or_eq.1 x0 with z | z
  ·exact z
  exfalso
  rw[←z,at0] at eq
  exact hq k l hk l0 l1 eq
 have lp:0<l:=by
  rcases Rat.le_iff_lt_or_eq.1 l0 with z | z
  ·exact z
  exfalso
  rw[←z,at0] at eq
  exact good k hk x x0 x1 eq
 have lq:l<1:=by
  rcases Rat.le_iff_lt_or_eq.1 l1 with z | z
  ·exact z
  exfalso
  rw[z,at1] at eq
  exact good1 k hk x x0 x1 eq
 have hap:∀ j,j<n→j≠k→Apart (P j) (P (j+1)) q (at' (P k) (P (k+1)) l):=fun j hj hjk m y m0 m1 y0 y1 e2=>by
  rw[←eq] at e2
  have e3:at' q (at' q T x) y=at' q T (y*x):=by simp only[at',RP.mk.injEq];constructor <;> grind
  rw[e3] at e2
  have yx0:=mul_nn y0 x0
  have yx1:=mul_nn (a:=1-y) (b:=x) (by grind) x0
  have hm:=hmin j hj (y*x) ⟨yx0,by grind,m,m0,m1,e2.symm⟩
  have hy:(1-y)*x=0:=by grind
  have hy:y=1:=by
   rcases Rat.mul_eq_zero.1 hy with z | z <;> grind
  rw[hy,Rat.one_mul,eq] at e2
  exact h.open_off hk hj (Ne.symm hjk) lp lq m0 m1 e2.symm
 rcases Std.lt_trichotomy (crs (P k) (P (k+1)) q) 0 with hc | hc | hc
 ·exact⟨k,hk,.inr ⟨l,lp,lq,by grind,hap⟩⟩
 ·exact absurd hc hne
 exact⟨k,hk,.inl ⟨l,lp,lq,by grind,hap⟩⟩
theorem Simple.sees_left (h:Simple n P) {k:Nat} (hk:k<n) {q:RP} (hs:Sees n P 1 k q):wind n P q=lam n P 0:=by
 obtain⟨t,t0,t1,hc,ha⟩:=hs
 rw[←h.lam_all hk]
 exact h.left hk t0 t1 (by grind) ha
theorem Simple.sees_right (h:Simple n P) {k:Nat} (hk:k<n) {q:RP} (hs:Sees n P (-1) k q):wind n P q=lam n P 0-1:=by
 obtain⟨t,t0,t1,hc,ha⟩:=hs
 rw[←h.lam_all hk]
 exact h.right hk t0 t1 (by grind) ha
theorem Simple.wind_two (h:Simple n P) {q:RP} (hq:Off n P q):wind n P q=lam n P 0∨wind n P q=lam n P 0-1:=by
 obtain⟨k,hk,hs | hs⟩:=h.see hq
 ·exact .inl (h.sees_left hk hs)
 exact .inr (h.sees_right hk hs)
theorem max_ex (f:Nat→Rat):∀ n:Nat,∃ M:Rat,∀ i,i<n→f i≤M
 | 0=>⟨0,fun i hi=>by omega⟩
 | n+1=>by
  obtain⟨M,hM⟩:=max_ex f n
  rcases Rat.le_total (a:=M) (b:=f n) with h | h
  ·refine⟨f n,fun i hi=>?_⟩
   by_cases e:i=n
   ·subst e;grind
   have:=hM i (by omega);grind
  refine⟨M,fun i hi=>?_⟩
  by_cases e:i=n
  ·subst e;exact h
  exact hM i (by omega)
theorem wind_above {q:RP} (hq:∀ i,i≤n→(P i).y≤q.y):wind n P q=0:=by
 unfold wind
 rw[sumZ_congr (g:=fun _=>0)]
 ·have:∀ n:Nat,sumZ (fun _=>0) n=0:=fun n=>by
   induction n with
   | zero=>rfl
   | succ n ih=>rw[sumZ,ih];rfl
  exact this n
 intro i hi
 have h1:=hq i (by omega)
 have h2:=hq (i+1) (by omega)
 unfold wc
 rw[if_pos h1,if_neg (Rat.not_lt.2 h2)]
theorem Simple.lam_two (h:Simple n P):lam n P 0=0∨lam n P 0=1:=by
 obtain⟨M,hM⟩:=max_ex (fun i=>(P i).y) (n+1)
 have h0:wind n P ⟨0,M+1⟩=0:=wind_above (fun i hi=>by have:=hM i (by omega);dsimp only;grind)
 have:=h.wind_two (q:=⟨0,M+1⟩) (fun i l hi l0 l1 e=>by
  have h1:=hM i (by omega)
  have h2:=hM (i+1) (by omega)
  simp only[at',RP.mk.injEq] at e
  have p1:=mul_nn l0 (b:=M-(P (i+1)).y) (by grind)
  have p2:=mul_nn (a:=1-l) (b:=M-(P i).y) (by grind) (by grind)
  grind)
 omega
end
end Geo
end Go.Proofs.YthfokpchdlcidaaGreat
