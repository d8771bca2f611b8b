/- What the statements rest on: definitions and walks, part 17. -/
import Derived.Test.YthfokpchdlcidaaGreatJ16
set_option maxRecDepth 100000
set_option maxHeartbeats 16000000
set_option linter.unusedSimpArgs false
set_option linter.unusedVariables false
namespace Go.Proofs.YthfokpchdlcidaaGreat
namespace Geo
theorem mod_shift {n a b s:Nat} (hn:0<n) (h:(a+s) % n=(b+s) % n):a % n=b % n:=by
 have key:∀ a,a % n=((a+s) % n+(n-s % n)) % n:=fun a=>by
  have hs:=Nat.mod_lt s hn
  have hd:=Nat.div_add_mod s n
  have:a+s+(n-s % n)=a+n*(s / n+1):=by
   rw[Nat.mul_add,Nat.mul_one];omega
  rw[Nat.mod_add_mod,this,Nat.add_mul_mod_self_left]
 rw[key a,key b,h]
theorem mod_small {n a b:Nat} (ha:a<n) (hb:b<n) {s:Nat} (h:(s+a) % n=(s+b) % n):a=b:=by
 have:=mod_shift (n:=n) (a:=a) (b:=b) (s:=s) (by omega) (by rw[Nat.add_comm a,Nat.add_comm b];exact h)
 rwa [Nat.mod_eq_of_lt ha,Nat.mod_eq_of_lt hb] at this
section
variable {n : Nat} {P : Nat → RP}
theorem Simple.next (h:Simple n P) (x:Nat):P (x % n+1)=P (x+1):=by
 rw[←h.mod (x % n+1),Nat.mod_add_mod,h.mod]
theorem Simple.touch_mod (h:Simple n P) {x y:Nat} (hxy:x % n≠y % n) {l m:Rat} (l0:0≤l) (l1:l≤1) (m0:0≤m) (m1:m≤1) (e:at' (P x) (P (x+1)) l=at' (P y) (P (y+1)) m) :
  (y % n=(x+1) % n∧l=1∧m=0)∨(x % n=(y+1) % n∧l=0∧m=1):=by
 have h3:=h.three
 have hx:=Nat.mod_lt x (show 0<n by omega)
 have hy:=Nat.mod_lt y (show 0<n by omega)
 have:=h.touch (x % n) (y % n) hx hy hxy l m l0 l1 m0 m1 (by rw[h.mod,h.mod,h.next,h.next];exact e)
 rw[Nat.mod_add_mod,Nat.mod_add_mod] at this
 exact this
theorem Simple.corner_ne (h:Simple n P) {x y:Nat} (hxy:x % n≠y % n):P x≠P y:=fun e=>by
 rcases h.touch_mod hxy (l:=0) (m:=0) (by grind) (by grind) (by grind) (by grind) (by rw[at0,at0];exact e) with ⟨_,z,_⟩ | ⟨_,_,z⟩ <;> grind
theorem Off.mod (h:Simple n P) {q:RP}:Off n P q↔∀ i (l:Rat),0≤l→l≤1→q≠at' (P i) (P (i+1)) l:=by
 constructor
 ·intro ho i l l0 l1 e
  have h3:=h.three
  refine ho (i % n) l (Nat.mod_lt _ (by omega)) l0 l1 ?_
  rw[h.mod,h.next]
  exact e
 intro ho i l _ l0 l1 e
 exact ho i l l0 l1 e
def shiftP (P:Nat→RP) (s:Nat):Nat→RP:=fun t=>P (t+s)
theorem Simple.shift (h:Simple n P) (s:Nat):Simple n (shiftP P s) where
 three:=h.three
 per:=fun i=>by
  show P (i+n+s)=P (i+s)
  rw[show i+n+s=i+s+n by omega,h.per]
 ne:=fun i=>by
  have:=h.ne (i+s)
  rwa [show i+s+1=i+1+s by omega] at this
 touch:=fun i k hi hk hik l m l0 l1 m0 m1 e=>by
  have h3:=h.three
  have hne:(i+s) % n≠(k+s) % n:=fun e=>by
   have:=mod_shift (by omega) e
   rw[Nat.mod_eq_of_lt hi,Nat.mod_eq_of_lt hk] at this
   exact hik this
  have e':at' (P (i+s)) (P (i+s+1)) l=at' (P (k+s)) (P (k+s+1)) m:=by
   rw[show i+s+1=i+1+s by omega,show k+s+1=k+1+s by omega];exact e
  rcases h.touch_mod hne l0 l1 m0 m1 e' with ⟨a,b,c⟩ | ⟨a,b,c⟩
  ·refine .inl ⟨?_,b,c⟩
   rw[show i+s+1=i+1+s by omega] at a
   have:=mod_shift (by omega) a
   rwa [Nat.mod_eq_of_lt hk] at this
  refine .inr ⟨?_,b,c⟩
  rw[show k+s+1=k+1+s by omega] at a
  have:=mod_shift (by omega) a
  rwa [Nat.mod_eq_of_lt hi] at this
theorem sumZ_first (f:Nat→Int):∀ n,sumZ f (n+1)=f 0+sumZ (fun i=>f (i+1)) n
 | 0=>by simp[sumZ]
 | n+1=>by rw[sumZ,sumZ_first f n,sumZ];omega
theorem sumZ_shift {f:Nat→Int} {n:Nat} (hper:∀ i,f (i+n)=f i):∀ s,sumZ (fun i=>f (i+s)) n=sumZ f n
 | 0=>rfl
 | s+1=>by
  rw[←sumZ_shift hper s]
  cases n with
  | zero=>rfl
  | succ n =>
   rw[sumZ_first (fun i=>f (i+s)) n,sumZ]
   have e:f (n+(s+1))=f (0+s):=by
    have:=hper (0+s)
    rw[←this]
    congr 1;omega
   rw[e]
   have:sumZ (fun i=>f (i+(s+1))) n=sumZ (fun i=>f (i+1+s)) n:=sumZ_congr fun i _=>by congr 1;omega
   rw[this]
   omega
theorem sumZ_append (f:Nat→Int) (a:Nat):∀ b,sumZ f (a+b)=sumZ f a+sumZ (fun i=>f (i+a)) b
 | 0=>by simp[sumZ]
 | b+1=>by rw[show a+(b+1)=a+b+1 by omega,sumZ,sumZ_append f a b,sumZ,show b+a=a+b by omega];omega
theorem Simple.wind_shift (h:Simple n P) (s:Nat) (q:RP):wind n (shiftP P s) q=wind n P q:=by
 unfold wind
 have:=sumZ_shift (f:=fun i=>wc (P i) (P (i+1)) q) (n:=n) (fun i=>by
  rw[h.per,show i+n+1=i+1+n by omega,h.per]) s
 rw[←this]
 refine sumZ_congr fun i _=>?_
 show wc (P (i+s)) (P (i+1+s)) q=wc (P (i+s)) (P (i+s+1)) q
 rw[show i+1+s=i+s+1 by omega]
theorem Simple.lam_shift (h:Simple n P) (s:Nat):lam n (shiftP P s) 0=lam n P 0:=by
 have h3:=h.three
 have e:lam n (shiftP P s) 0=lam n P (s % n):=by
  unfold lam
  rw[h.wind_shift]
  show wind n P (at' (P (0+s)) (P (0+1+s)) (1 / 2))+up (P (0+s)) (P (0+1+s))=_
  rw[h.mod,h.next,show 0+s=s by omega,show 0+1+s=s+1 by omega]
 rw[e]
 exact h.lam_all (Nat.mod_lt _ (by omega))
theorem Pos.shift (h:Pos n P) (s:Nat):Pos n (shiftP P s):=⟨h.sim.shift s,by rw[h.sim.lam_shift];exact h.one⟩
theorem Simple.side_wind (h:Simple n P) {i:Nat} (hi:i<n) {t:Rat} (t0:0<t) (t1:t<1) :
  ∃ e:Rat,0<e∧∀ q,Near e (at' (P i) (P (i+1)) t) q→(0<crs (P i) (P (i+1)) q→Off n P q∧wind n P q=lam n P 0)∧(crs (P i) (P (i+1)) q<0→Off n P q∧wind n P q=lam n P 0-1):=by
 obtain⟨e,e0,he⟩:=near_all (n:=n) (b:=at' (P i) (P (i+1)) t) (p:=fun k r=>k≠i→∀ l:Rat,0≤l→l≤1→r≠at' (P k) (P (k+1)) l) (fun k hk=>by
  by_cases hki:k=i
  ·exact⟨1,by grind,fun _ _ h=>absurd hki h⟩
  obtain⟨e,e0,he⟩:=near_off (h.ne k) (b:=at' (P i) (P (i+1)) t) (fun l l0 l1=>h.open_off hi hk (Ne.symm hki) t0 t1 l0 l1)
  exact⟨e,e0,fun q hq _=>he q hq⟩)
 have see:∀ z:Rat,∀ q,Near e (at' (P i) (P (i+1)) t) q→0<z*crs (P i) (P (i+1)) q→Sees n P z i q:=fun z q hq hc =>
  ⟨t,t0,t1,hc,fun k hk hki l m l0 l1 m0 m1 eq=>he _ (hq.seg (Near.self e0 _) m0 m1) k hk hki l l0 l1 eq.symm⟩
 refine⟨e,e0,fun q hq=>⟨fun hc=>?_,fun hc=>?_⟩⟩
 ·have hs:=see 1 q hq (by grind)
  exact⟨hs.off,h.sees_left hi hs⟩
 have hs:=see (-1) q hq (by grind)
 exact⟨hs.off,h.sees_right hi hs⟩
def cutP (P:Nat→RP) (i j:Nat):Nat→RP:=fun t=>P (i+t % (j-i+1))
theorem cut_side {i j a:Nat} (ha:a<j-i):cutP P i j a=P (i+a)∧cutP P i j (a+1)=P (i+a+1):=by
 unfold cutP
 rw[Nat.mod_eq_of_lt (by omega),Nat.mod_eq_of_lt (by omega)]
 exact⟨rfl,rfl⟩
theorem cut_last {i j:Nat} (hij:i≤j):cutP P i j (j-i)=P j∧cutP P i j (j-i+1)=P i:=by
 unfold cutP
 rw[Nat.mod_eq_of_lt (by omega),Nat.mod_self]
 exact⟨by congr 1;omega,rfl⟩
theorem cut_simple2 (h:Simple n P) {i j:Nat} (hij:i+2≤j) (hji:j+2≤i+n) (hoff:∀ t:Rat,0<t→t<1→∀ a,a<j-i→∀ l:Rat,0≤l→l≤1→at' (P j) (P i) t≠at' (P (i+a)) (P (i+a+1)) l):Simple (j-i+1) (cutP P i j):=by
 have h3:=h.three
 have hne_ij:P j≠P i:=h.corner_ne fun e=>by
  have:=mod_small (n:=n) (a:=j-i) (b:=0) (s:=i) (by omega) (by omega) (by rw[show i+(j-i)=j by omega];exact e)
  omega
 have per:∀ t,cutP P i j (t+(j-i+1))=cutP P i j t:=fun t=>by unfold cutP;rw[Nat.add_mod_right]
 have ne0:∀ t,t<j-i+1→cutP P i j t≠cutP P i j (t+1):=fun t ht=>by
  by_cases hl:t<j-i
  ·rw[(cut_side hl).1,(cut_side hl).2];exact h.ne _
  have:t=j-i:=by omega
  subst this
  rw[(cut_last (by omega)).1,(cut_last (by omega)).2];exact hne_ij
 have md:∀ t,cutP P i j (t % (j-i+1))=cutP P i j t:=fun t=>by unfold cutP;rw[Nat.mod_mod]
 have md1:∀ t,cutP P i j (t % (j-i+1)+1)=cutP P i j (t+1):=fun t=>by unfold cutP;rw[Nat.mod_add_mod]
 have reg:∀ a b,a<j-i→b<j-i→a≠b→∀ l m:Rat,0≤l→l≤1→0≤m→m≤1→at' (P (i+a)) (P (i+a+1)) l=at' (P (i+b)) (P (i+b+1)) m→(b=a+1∧l=1∧m=0)∨(a=b+1∧l=0∧m=1):=by
  intro a b ha hb hab l m l0 l1 m0 m1 e
  rcases h.touch_mod (fun e=>hab (mod_small (by omega) (by omega) e)) l0 l1 m0 m1 e with ⟨x,y,z⟩ | ⟨x,y,z⟩
  ·exact .inl ⟨mod_small (n:=n) (s:=i) (by omega) (by omega) (by rw[show i+(a+1)=i+a+1 by omega];exact x),y,z⟩
  exact .inr ⟨mod_small (n:=n) (s:=i) (by omega) (by omega) (by rw[show i+(b+1)=i+b+1 by omega];exact x),y,z⟩
 have dia:∀ a,a<j-i→∀ l m:Rat,0≤l→l≤1→0≤m→m≤1→at' (P (i+a)) (P (i+a+1)) l=at' (P j) (P i) m→(a+1=j-i∧l=1∧m=0)∨(a=0∧l=0∧m=1):=by
  intro a ha l m l0 l1 m0 m1 e
  by_cases hm0:m=0
  ·subst hm0
   rw[at0] at e
   have e2:at' (P (i+a)) (P (i+a+1)) l=at' (P j) (P (j+1)) 0:=by rw[at0];exact e
   rcases h.touch_mod (fun e=>by have:=mod_small (n:=n) (a:=a) (b:=j-i) (s:=i) (by omega) (by omega) (by rw[show i+(j-i)=j by omega];exact e);omega) l0 l1 (by grind) (by grind) e2 with ⟨x,y,_⟩ | ⟨_,_,z⟩
   ·have:=mod_small (n:=n) (a:=j-i) (b:=a+1) (s:=i) (by omega) (by omega) (by rw[show i+(j-i)=j by omega,show i+(a+1)=i+a+1 by omega];exact x)
    exact .inl ⟨this.symm,y,rfl⟩
   grind
  by_cases hm1:m=1
  ·subst hm1
   rw[at1] at e
   by_cases ha0:a=0
   ·subst ha0
    refine .inr ⟨rfl,?_,rfl⟩
    exact at_inj (h.ne (i+0)) (by rw[e,at0];rfl)
   have e2:at' (P (i+a)) (P (i+a+1)) l=at' (P i) (P (i+1)) 0:=by rw[at0];exact e
   rcases h.touch_mod (fun e=>ha0 (mod_small (n:=n) (a:=a) (b:=0) (s:=i) (by omega) (by omega) e)) l0 l1 (by grind) (by grind) e2 with ⟨x,_,_⟩ | ⟨_,_,z⟩
   ·have:=mod_small (n:=n) (a:=0) (b:=a+1) (s:=i) (by omega) (by omega) (by rw[show i+(a+1)=i+a+1 by omega];exact x)
    omega
   grind
  exact absurd e.symm (hoff m (by grind) (by grind) a ha l l0 l1)
 refine⟨by omega,per,fun t=>?_,fun a b ha hb hab l m l0 l1 m0 m1 e=>?_⟩
 ·have:=ne0 (t % (j-i+1)) (Nat.mod_lt _ (by omega))
  rwa [md,md1] at this
 by_cases ha':a<j-i
 ·rw[(cut_side ha').1,(cut_side ha').2] at e
  by_cases hb':b<j-i
  ·rw[(cut_side hb').1,(cut_side hb').2] at e
   rcases reg a b ha' hb' hab l m l0 l1 m0 m1 e with ⟨x,y,z⟩ | ⟨x,y,z⟩
   ·exact .inl ⟨by rw[Nat.mod_eq_of_lt (by omega)];exact x,y,z⟩
   exact .inr ⟨by rw[Nat.mod_eq_of_lt (by omega)];exact x,y,z⟩
  have hbe:b=j-i:=by omega
  subst hbe
  rw[(cut_last (by omega)).1,(cut_last (by omega)).2] at e
  rcases dia a ha' l m l0 l1 m0 m1 e with ⟨x,y,z⟩ | ⟨x,y,z⟩
  ·exact .inl ⟨by rw[Nat.mod_eq_of_lt (by omega)];omega,y,z⟩
  exact .inr ⟨by rw[Nat.mod_self];exact x,y,z⟩
 have hae:a=j-i:=by omega
 subst hae
 have hb':b<j-i:=by omega
 rw[(cut_last (by omega)).1,(cut_last (by omega)).2,(cut_side hb').1,(cut_side hb').2] at e
 rcases dia b hb' m l m0 m1 l0 l1 e.symm with ⟨x,y,z⟩ | ⟨x,y,z⟩
 ·exact .inr ⟨by rw[Nat.mod_eq_of_lt (by omega)];omega,z,y⟩
 exact .inl ⟨by rw[Nat.mod_self];exact x,z,y⟩
theorem cut_simple (h:Simple n P) {i j:Nat} (hij:i+2≤j) (hji:j+2≤i+n) (hoff:∀ t:Rat,0<t→t<1→Off n P (at' (P j) (P i) t)):Simple (j-i+1) (cutP P i j) :=
 cut_simple2 h hij hji fun t t0 t1 a _ l l0 l1=>(Off.mod h).1 (hoff t t0 t1) (i+a) l l0 l1
theorem cut_wind (h:Simple n P) {i j:Nat} (hij:i≤j) (hji:j≤i+n) (q:RP):wind n P q=wind (j-i+1) (cutP P i j) q+wind (i+n-j+1) (cutP P j (i+n)) q:=by
 have one:∀ i j,i≤j→wind (j-i+1) (cutP P i j) q=sumZ (fun t=>wc (P (t+i)) (P (t+i+1)) q) (j-i)+wc (P j) (P i) q:=fun i j hij=>by
  unfold wind
  rw[sumZ,(cut_last hij).1,(cut_last hij).2]
  congr 1
  refine sumZ_congr fun t ht=>?_
  rw[(cut_side ht).1,(cut_side ht).2,show i+t=t+i by omega]
 rw[one i j hij,one j (i+n) hji,h.per,wc_rev (P j) (P i)]
 have e:=h.wind_shift i q
 unfold wind at e ⊢
 rw[←e,show n=(j-i)+(i+n-j) by omega,sumZ_append,show (j-i)+(i+n-j)=n by omega]
 have e1:sumZ (fun t=>wc (shiftP P i t) (shiftP P i (t+1)) q) (j-i)=sumZ (fun t=>wc (P (t+i)) (P (t+i+1)) q) (j-i):=sumZ_congr fun t _=>by
  show wc (P (t+i)) (P (t+1+i)) q=_
  rw[show t+1+i=t+i+1 by omega]
 have e2:sumZ (fun t=>wc (shiftP P i (t+(j-i))) (shiftP P i (t+(j-i)+1)) q) (i+n-j)=sumZ (fun t=>wc (P (t+j)) (P (t+j+1)) q) (i+n-j):=sumZ_congr fun t _=>by
  show wc (P (t+(j-i)+i)) (P (t+(j-i)+1+i)) q=_
  rw[show t+(j-i)+i=t+j by omega,show t+(j-i)+1+i=t+j+1 by omega]
 rw[e1,e2]
 omega
structure Diag (n:Nat) (P:Nat→RP) (i j:Nat):Prop where
 lo:i+2≤j
 hi:j+2≤i+n
 ins:∀ t:Rat,0<t→t<1→In n P (at' (P j) (P i) t)
theorem Diag.back (h:Simple n P) {i j:Nat} (hd:Diag n P i j):Diag n P j (i+n):=by
 have:=hd.lo
 have:=hd.hi
 refine⟨by omega,by omega,fun t t0 t1=>?_⟩
 rw[h.per,at_rev]
 exact hd.ins _ (by grind) (by grind)
theorem Diag.simple (h:Simple n P) {i j:Nat} (hd:Diag n P i j):Simple (j-i+1) (cutP P i j):=cut_simple h hd.lo hd.hi fun t t0 t1=>(hd.ins t t0 t1).1
theorem Diag.pos (h:Pos n P) {i j:Nat} (hd:Diag n P i j):Pos (j-i+1) (cutP P i j):=by
 have g1:=hd.lo
 have g2:=hd.hi
 have s1:=hd.simple h.sim
 have s2:=(hd.back h.sim).simple h.sim
 obtain⟨e1,e10,k1⟩:=s1.side_wind (i:=j-i) (by omega) (t:=1 / 2) (by grind) (by grind)
 obtain⟨e2,e20,k2⟩:=s2.side_wind (i:=i+n-j) (by omega) (t:=1 / 2) (by grind) (by grind)
 rw[(cut_last (by omega)).1,(cut_last (by omega)).2] at k1 k2
 rw[h.sim.per] at k2
 have em:at' (P i) (P j) (1 / 2)=at' (P j) (P i) (1 / 2):=by rw[at_rev];congr 1;grind
 rw[em] at k2
 obtain⟨e3,e30,k3⟩:=(hd.ins (1 / 2) (by grind) (by grind)).near h.sim
 obtain⟨g,g0,ga,gb,gc⟩:∃ g:Rat,0<g∧g≤e1∧g≤e2∧g≤e3:=by
  rcases Rat.le_total (a:=e1) (b:=e2) with a | a <;> rcases Rat.le_total (a:=e1) (b:=e3) with b | b <;> rcases Rat.le_total (a:=e2) (b:=e3) with c | c
  ·exact⟨e1,e10,by grind,a,b⟩
  ·exact⟨e1,e10,by grind,a,b⟩
  ·exact⟨e3,e30,b,by grind,by grind⟩
  ·exact⟨e3,e30,b,by grind,by grind⟩
  ·exact⟨e2,e20,a,by grind,c⟩
  ·exact⟨e3,e30,by grind,c,by grind⟩
  ·exact⟨e2,e20,a,by grind,c⟩
  exact⟨e3,e30,by grind,c,by grind⟩
 have hne:P j≠P i:=h.sim.corner_ne fun e=>by
  have:=mod_small (n:=n) (a:=j-i) (b:=0) (s:=i) (by omega) (by omega) (by rw[show i+(j-i)=j by omega];exact e)
  omega
 obtain⟨q,hq,hc⟩:=left_pt hne (crs_at _ _ (1 / 2)) (.inl rfl) g0
 have w1:=((k1 q (hq.mono ga)).1 (by grind)).2
 have w2:=((k2 q (hq.mono gb)).2 (by rw[crs_rev];grind)).2
 have w3:=(k3 q (hq.mono gc)).2
 have hs:=cut_wind h.sim (show i≤j by omega) (show j≤i+n by omega) q
 have l1:=s1.lam_two
 have l2:=s2.lam_two
 exact⟨s1,by omega⟩
end
def triP (a b c:RP):Nat→RP:=fun t=>if t % 3=0 then a else if t % 3=1 then b else c
theorem crs_cyc (a b c:RP):crs b c a=crs a b c∧crs c a b=crs a b c:=by constructor <;> (unfold crs;grind)
section
variable {a b c : RP}
theorem tri_adj (h:0<crs a b c) {l m:Rat} (e:at' a b l=at' b c m):l=1∧m=0:=by
 have h1:crs a b (at' b c m)=m*crs a b c:=by unfold crs at';dsimp only;grind
 rw[←e,crs_at] at h1
 have hm:m=0:=by
  rcases Rat.mul_eq_zero.1 h1.symm with z | z
  ·exact z
  grind
 subst hm
 rw[at0] at e
 refine⟨?_,rfl⟩
 have hab:a≠b:=fun e=>by subst e;unfold crs at h;grind
 exact at_inj hab (by rw[e,at1])
theorem tri_simple (h:0<crs a b c):Simple 3 (triP a b c):=by
 have hab:a≠b:=fun e=>by subst e;unfold crs at h;grind
 have hbc:b≠c:=fun e=>by subst e;unfold crs at h;grind
 have hca:c≠a:=fun e=>by subst e;unfold crs at h;grind
 have h1:0<crs b c a:=by rw[(crs_cyc a b c).1];exact h
 have h2:0<crs c a b:=by rw[(crs_cyc a b c).2];exact h
 refine⟨by omega,fun i=>by unfold triP;rw[Nat.add_mod_right],fun i=>?_,fun i k hi hk hik l m l0 l1 m0 m1 e=>?_⟩
 ·have hi:=Nat.mod_lt i (show 0<3 by omega)
  have:i % 3=0∨i % 3=1∨i % 3=2:=by omega
  unfold triP
  rcases this with z | z | z
  ·rw[if_pos z,if_neg (by omega),if_pos (by omega)];exact hab
  ·rw[if_neg (by omega),if_pos z,if_neg (by omega),if_neg (by omega)];exact hbc
  rw[if_neg (by omega),if_neg (by omega),if_pos (by omega)];exact hca
 have hi':i=0∨i=1∨i=2:=by omega
 have hk':k=0∨k=1∨k=2:=by omega
 rcases hi' with rfl | rfl | rfl <;> rcases hk' with rfl | rfl | rfl
 ·exact absurd rfl hik
 ·exact .inl ⟨rfl,tri_adj h e⟩
 ·exact .inr ⟨rfl,(tri_adj h2 e.symm).2,(tri_adj h2 e.symm).1⟩
 ·exact .inr ⟨rfl,(tri_adj h e.symm).2,(tri_adj h e.symm).1⟩
 ·exact absurd rfl hik
 ·exact .inl ⟨rfl,tri_adj h1 e⟩
 ·exact .inl ⟨rfl,tri_adj h2 e⟩
 ·exact .inr ⟨rfl,(tri_adj h1 e.symm).2,(tri_adj h1 e.symm).1⟩
 exact absurd rfl hik
theorem tri_wind (q:RP):wind 3 (triP a b c) q=wc a b q+wc b c q+wc c a q:=by
 unfold wind sumZ sumZ sumZ sumZ
 show 0+wc a b q+wc b c q+wc c a q=_
 omega
theorem tri_in_of (q:RP) (h1:0<crs a b q) (h2:0<crs b c q) (h3:0<crs c a q):In 3 (triP a b c) q:=by
 have hsum:crs a b q+crs b c q+crs c a q=crs a b c:=by unfold crs;grind
 have hy:crs b c q*(q.y-a.y)+crs c a q*(q.y-b.y)+crs a b q*(q.y-c.y)=0:=by unfold crs;grind
 refine⟨fun i l hi l0 l1 e=>?_,?_⟩
 ·have hi':i=0∨i=1∨i=2:=by omega
  rcases hi' with rfl | rfl | rfl
  ·have e:q=at' a b l:=e
   rw[e,crs_at] at h1;exact absurd h1 (by decide)
  ·have e:q=at' b c l:=e
   rw[e,crs_at] at h2;exact absurd h2 (by decide)
  have e:q=at' c a l:=e
  rw[e,crs_at] at h3;exact absurd h3 (by decide)
 rw[tri_wind]
 have wpos:∀ a b:RP,0<crs a b q→wc a b q=if a.y≤q.y then (if q.y<b.y then 1 else 0) else 0:=fun a b h=>by
  unfold wc
  by_cases z1:a.y≤q.y
  ·rw[if_pos z1,if_pos z1]
   by_cases z2:q.y<b.y
   ·rw[if_pos z2,if_pos z2,if_pos h]
   rw[if_neg z2,if_neg z2]
  rw[if_neg z1,if_neg z1]
  by_cases z2:b.y≤q.y
  ·rw[if_pos z2,if_neg (by grind)]
  rw[if_neg z2]
 rw[wpos a b h1,wpos b c h2,wpos c a h3]
 by_cases ya:a.y≤q.y <;> by_cases yb:b.y≤q.y <;> by_cases yc:c.y≤q.y
 ·exfalso
  have p1:=mul_nn (a:=crs b c q) (b:=q.y-a.y) (by grind) (by grind)
  have p2:=mul_nn (a:=crs c a q) (b:=q.y-b.y) (by grind) (by grind)
  have p3:=mul_nn (a:=crs a b q) (b:=q.y-c.y) (by grind) (by grind)
  have z1:crs b c q*(q.y-a.y)=0:=by grind
  have z2:crs c a q*(q.y-b.y)=0:=by grind
  have e1:q.y-a.y=0:=by rcases Rat.mul_eq_zero.1 z1 with z | z <;> grind
  have e2:q.y-b.y=0:=by rcases Rat.mul_eq_zero.1 z2 with z | z <;> grind
  have:crs a b q=0:=by
   unfold crs
   have:b.y-a.y=0:=by grind
   rw[e1,this];grind
  grind
 ·rw[if_pos ya,if_neg (by grind),if_pos yb,if_pos (by grind),if_neg yc];rfl
 ·rw[if_pos ya,if_pos (by grind),if_neg yb,if_pos yc,if_neg (by grind)];rfl
 ·rw[if_pos ya,if_pos (by grind),if_neg yb,if_neg yc];rfl
 ·rw[if_neg ya,if_pos yb,if_neg (by grind),if_pos yc,if_pos (by grind)];rfl
 ·rw[if_neg ya,if_pos yb,if_pos (by grind),if_neg yc];rfl
 ·rw[if_neg ya,if_neg yb,if_pos yc,if_pos (by grind)];rfl
 exfalso
 have p1:=mul_pp (a:=crs b c q) (b:=a.y-q.y) (by grind) (by grind)
 have p2:=mul_pp (a:=crs c a q) (b:=b.y-q.y) (by grind) (by grind)
 have p3:=mul_pp (a:=crs a b q) (b:=c.y-q.y) (by grind) (by grind)
 grind
theorem third (a b c:RP):crs a b ⟨(a.x+b.x+c.x) / 3,(a.y+b.y+c.y) / 3⟩=crs a b c / 3∧crs b c ⟨(a.x+b.x+c.x) / 3,(a.y+b.y+c.y) / 3⟩=crs a b c / 3∧crs c a ⟨(a.x+b.x+c.x) / 3,(a.y+b.y+c.y) / 3⟩=crs a b c / 3:=by
 unfold crs;dsimp only;refine⟨?_,?_,?_⟩ <;> grind
theorem tri_pos (h:0<crs a b c):Pos 3 (triP a b c):=by
 have hs:=tri_simple h
 refine⟨hs,?_⟩
 obtain⟨t1,t2,t3⟩:=third a b c
 have hin:=tri_in_of (a:=a) (b:=b) (c:=c) ⟨(a.x+b.x+c.x) / 3,(a.y+b.y+c.y) / 3⟩ (by rw[t1];grind) (by rw[t2];grind) (by rw[t3];grind)
 have:=hs.wind_two hin.1
 have:=hin.2
 have:=hs.lam_two
 omega
theorem tri_in (h:0<crs a b c) (q:RP):In 3 (triP a b c) q↔0<crs a b q∧0<crs b c q∧0<crs c a q:=by
 constructor
 ·intro hin
  have hp:=tri_pos h
  refine Classical.byContradiction fun hno=>?_
  have hout:∃ x y,((x=a∧y=b)∨(x=b∧y=c)∨(x=c∧y=a))∧crs x y q≤0:=Classical.byContradiction fun hn=>hno
   ⟨Rat.not_le.1 fun z=>hn ⟨a,b,.inl ⟨rfl,rfl⟩,z⟩,Rat.not_le.1 fun z=>hn ⟨b,c,.inr (.inl ⟨rfl,rfl⟩),z⟩,Rat.not_le.1 fun z=>hn ⟨c,a,.inr (.inr ⟨rfl,rfl⟩),z⟩⟩
  obtain⟨x,y,hxy,hc⟩:=hout
  have hxyne:x≠y:=by
   have hab:a≠b:=fun e=>by subst e;unfold crs at h;grind
   have hbc:b≠c:=fun e=>by subst e;unfold crs at h;grind
   have hca:c≠a:=fun e=>by subst e;unfold crs at h;grind
   rcases hxy with ⟨rfl,rfl⟩ | ⟨rfl,rfl⟩ | ⟨rfl,rfl⟩ <;> assumption
  obtain⟨e,e0,he⟩:=hin.near hp.sim
  obtain⟨r,hr,hrc⟩:∃ r,Near e q r∧crs x y r<0:=by
   rcases Rat.le_iff_lt_or_eq.1 hc with z | z
   ·exact⟨q,Near.self e0 q,z⟩
   obtain⟨r,hr,hz⟩:=left_pt hxyne z (.inr rfl) e0
   exact⟨r,hr,by grind⟩
  have hrin:=he r hr
  have side:∀ p,p=a∨p=b∨p=c→0≤crs x y p:=fun p hp=>by
   have c1:=(crs_cyc a b c).1
   have c2:=(crs_cyc a b c).2
   have z1:crs x y x=0:=by unfold crs;grind
   have z2:crs x y y=0:=by unfold crs;grind
   rcases hxy with ⟨rfl,rfl⟩ | ⟨rfl,rfl⟩ | ⟨rfl,rfl⟩ <;> rcases hp with rfl | rfl | rfl <;> grind
  obtain⟨M,hM⟩:∃ M:Rat,a.y≤M∧b.y≤M∧c.y≤M∧r.y≤M:=by
   obtain⟨M,hM⟩:=max_ex (fun i=>if i=0 then a.y else if i=1 then b.y else if i=2 then c.y else r.y) 4
   exact⟨M,hM 0 (by omega),hM 1 (by omega),hM 2 (by omega),hM 3 (by omega)⟩
  obtain⟨mM,hmM⟩:∃ M:Rat,M≤a.y∧M≤b.y∧M≤c.y∧M≤r.y:=by
   obtain⟨M,hM⟩:=max_ex (fun i=>if i=0 then -a.y else if i=1 then -b.y else if i=2 then -c.y else -r.y) 4
   have g0:=hM 0 (by omega)
   have g1:=hM 1 (by omega)
   have g2:=hM 2 (by omega)
   have g3:=hM 3 (by omega)
   simp only[if_true,Nat.one_ne_zero,if_false,show (2:Nat)≠0 by omega,show (2:Nat)≠1 by omega,show (3:Nat)≠0 by omega,show (3:Nat)≠1 by omega,show (3:Nat)≠2 by omega] at g0 g1 g2 g3
   exact⟨-M,by grind,by grind,by grind,by grind⟩
  have away:∀ s:RP,crs x y s<0→Free 3 (triP a b c) r s:=fun s hs k hk l m l0 l1 m0 m1 eq=>by
   have hside:0≤crs x y (at' (triP a b c k) (triP a b c (k+1)) l):=by
    have v:∀ t,triP a b c t=a∨triP a b c t=b∨triP a b c t=c:=fun t=>by
     unfold triP
     by_cases z:t % 3=0
     ·rw[if_pos z];exact .inl rfl
     rw[if_neg z]
     by_cases z2:t % 3=1
     ·rw[if_pos z2];exact .inr (.inl rfl)
     rw[if_neg z2];exact .inr (.inr rfl)
    rw[crs_lin]
    have p1:=mul_nn (a:=1-l) (by grind) (side _ (v k))
    have p2:=mul_nn l0 (side _ (v (k+1)))
    grind
   rw[eq,crs_lin] at hside
   have p1:=np_mul (a:=crs x y r) (b:=1-m) (by grind) (by grind)
   have p2:=np_mul (a:=crs x y s) (b:=m) (by grind) m0
   rcases Rat.le_iff_lt_or_eq.1 m0 with z | z
   ·have:=n_mul (b:=m) hs z;grind
   rw[←z] at hside;grind
  have hend:∃ s:RP,crs x y s<0∧((a.y≤s.y∧b.y≤s.y∧c.y≤s.y)∨(s.y<a.y∧s.y<b.y∧s.y<c.y)):=by
   by_cases hyy:x.y=y.y
   ·-- a level line: one of above and below is on its right
    by_cases hx:x.x<y.x
    ·refine⟨⟨r.x,mM-1⟩,?_,.inr ⟨by dsimp only;grind,by dsimp only;grind,by dsimp only;grind⟩⟩
     have p:=mul_nn (a:=y.x-x.x) (b:=r.y-(mM-1)) (by grind) (by grind)
     unfold crs at hrc ⊢
     dsimp only
     rw[hyy] at hrc ⊢
     grind
    refine⟨⟨r.x,M+1⟩,?_,.inl ⟨by dsimp only;grind,by dsimp only;grind,by dsimp only;grind⟩⟩
    have p:=mul_nn (a:=x.x-y.x) (b:=(M+1)-r.y) (by grind) (by grind)
    unfold crs at hrc ⊢
    dsimp only
    rw[hyy] at hrc ⊢
    grind
   -- along the line
   have hd:y.y-x.y≠0:=by grind
   have ek:=Rat.div_mul_cancel (a:=M+1-r.y) (b:=y.y-x.y) hd
   refine⟨⟨r.x+(M+1-r.y) / (y.y-x.y)*(y.x-x.x),M+1⟩,?_,.inl ⟨by dsimp only;grind,by dsimp only;grind,by dsimp only;grind⟩⟩
   have:crs x y ⟨r.x+(M+1-r.y) / (y.y-x.y)*(y.x-x.x),M+1⟩=crs x y r:=by
    generalize (M+1-r.y) / (y.y-x.y)=k at *
    unfold crs
    dsimp only
    have:M+1=r.y+k*(y.y-x.y):=by grind
    rw[this]
    grind
   rw[this];exact hrc
  obtain⟨s,hs,hsy⟩:=hend
  have hw:=wind_move hp.sim.close (away s hs)
  rw[hrin.2] at hw
  rcases hsy with ⟨y1,y2,y3⟩ | ⟨y1,y2,y3⟩
  ·rw[wind_above (fun i _=>by
    unfold triP
    split
    ·exact y1
    split
    ·exact y2
    exact y3)] at hw
   omega
  rw[tri_wind] at hw
  unfold wc at hw
  rw[if_neg (by grind),if_neg (by grind),if_neg (by grind),if_neg (by grind),if_neg (by grind),if_neg (by grind)] at hw
  omega
 rintro⟨h1,h2,h3⟩;exact tri_in_of q h1 h2 h3
end
end Geo
end Go.Proofs.YthfokpchdlcidaaGreat
namespace Go.Proofs.YthfokpchdlcidaaGreat
namespace Geo
theorem bary (u v w q:RP):crs u v q+crs v w q+crs w u q=crs u v w:=by unfold crs;grind
theorem bary_x (u v w q:RP):crs v w q*u.x+crs w u q*v.x+crs u v q*w.x=crs u v w*q.x:=by unfold crs;grind
theorem bary_y (u v w q:RP):crs v w q*u.y+crs w u q*v.y+crs u v q*w.y=crs u v w*q.y:=by unfold crs;grind
theorem on_edge {u v w q:RP} (h:0<crs u v w) (h0:crs u v q=0) (h1:0≤crs v w q) (h2:0≤crs w u q):∃ l:Rat,0≤l∧l≤1∧q=at' u v l:=by
 have hb:=bary u v w q
 have hx:=bary_x u v w q
 have hy:=bary_y u v w q
 obtain⟨l0,l1⟩:=div_mem (c:=crs w u q) (k:=crs u v w) h h2 (by grind)
 have e:crs w u q / crs u v w*crs u v w=crs w u q:=Rat.div_mul_cancel (by grind)
 refine⟨crs w u q / crs u v w,l0,l1,?_⟩
 generalize crs w u q / crs u v w=l at *
 rw[h0] at hb hx hy
 generalize crs u v w=D at *
 generalize crs v w q=g at *
 generalize crs w u q=m at *
 have hD:D≠0:=by grind
 have e1:g=(1-l)*D:=by grind
 subst e1
 subst e
 obtain⟨qx,qy⟩:=q
 unfold at'
 dsimp only at *
 rw[RP.mk.injEq]
 constructor
 ·have:D*(qx-(u.x+l*(v.x-u.x)))=0:=by grind
  rcases Rat.mul_eq_zero.1 this with h | h
  ·exact absurd h hD
  grind
 have:D*(qy-(u.y+l*(v.y-u.y)))=0:=by grind
 rcases Rat.mul_eq_zero.1 this with h | h
 ·exact absurd h hD
 grind
theorem leave {u v w y z:RP} (hD:0<crs u v w) (f0:0<crs u v y) (g0:0<crs v w y) (h0:0≤crs w u y) (h1:0≤crs w u z) (hz:crs u v z<0∨crs v w z<0) :
  ∃ s l:Rat,0<s∧s≤1∧0≤l∧l≤1∧(at' y z s=at' u v l∨at' y z s=at' v w l)∧0≤crs u v (at' y z s)∧0≤crs v w (at' y z s):=by
 have zero:∀ a b:Rat,0<a→b<0→∃ s:Rat,0<s∧s<1∧(1-s)*a+s*b=0:=fun a b ha hb=>by
  have hk:0<a-b:=by grind
  have e:a / (a-b)*(a-b)=a:=Rat.div_mul_cancel (by grind)
  obtain⟨l0,l1⟩:=div_mem (c:=a) (k:=a-b) hk (by grind) (by grind)
  generalize a / (a-b)=s at *
  have s0:s≠0:=fun h=>by rw[h,Rat.zero_mul] at e;grind
  have s1:s≠1:=fun h=>by rw[h,Rat.one_mul] at e;grind
  exact⟨s,by grind,by grind,by grind⟩
 have hh:∀ s:Rat,0≤s→s≤1→0≤crs w u (at' y z s):=fun s s0 s1=>by
  rw[crs_lin]
  have p1:=mul_nn (a:=1-s) (b:=crs w u y) (by grind) h0
  have p2:=mul_nn s0 h1
  grind
 have firstF:crs u v z<0→(∀ s:Rat,0<s→s<1→(1-s)*crs u v y+s*crs u v z=0→0≤(1-s)*crs v w y+s*crs v w z) →
   ∃ s l:Rat,0<s∧s≤1∧0≤l∧l≤1∧(at' y z s=at' u v l∨at' y z s=at' v w l)∧0≤crs u v (at' y z s)∧0≤crs v w (at' y z s):=fun hf hg=>by
  obtain⟨s,s0,s1,e⟩:=zero _ _ f0 hf
  have g:=hg s s0 s1 e
  have ef:crs u v (at' y z s)=0:=by rw[crs_lin];exact e
  have eg:0≤crs v w (at' y z s):=by rw[crs_lin];exact g
  obtain⟨l,l0,l1,el⟩:=on_edge hD ef eg (hh s (by grind) (by grind))
  exact⟨s,l,s0,by grind,l0,l1,Or.inl el,by grind,eg⟩
 have firstG:crs v w z<0→(∀ s:Rat,0<s→s<1→(1-s)*crs v w y+s*crs v w z=0→0≤(1-s)*crs u v y+s*crs u v z) →
   ∃ s l:Rat,0<s∧s≤1∧0≤l∧l≤1∧(at' y z s=at' u v l∨at' y z s=at' v w l)∧0≤crs u v (at' y z s)∧0≤crs v w (at' y z s):=fun hg hf=>by
  obtain⟨s,s0,s1,e⟩:=zero _ _ g0 hg
  have f:=hf s s0 s1 e
  have eg:crs v w (at' y z s)=0:=by rw[crs_lin];exact e
  have ef:0≤crs u v (at' y z s):=by rw[crs_lin];exact f
  obtain⟨l,l0,l1,el⟩:=on_edge (u:=v) (v:=w) (w:=u) (by rw[(crs_cyc u v w).1];exact hD) eg (hh s (by grind) (by grind)) ef
  exact⟨s,l,s0,by grind,l0,l1,Or.inr el,ef,by grind⟩
 by_cases hf:crs u v z<0
 ·by_cases hg:crs v w z<0
  ·-- both: the one that is met first
   by_cases hc:crs u v y*crs v w z≤crs v w y*crs u v z
   ·-- v w is met first
    refine firstG hg fun s s0 s1 e=>?_
    refine nonneg_of_mul (k:=- crs v w z) (by grind) ?_
    have:((1-s)*crs u v y+s*crs u v z)*(- crs v w z)=(1-s)*(crs v w y*crs u v z-crs u v y*crs v w z)+(- crs u v z)*((1-s)*crs v w y+s*crs v w z):=by grind
    rw[this,e,Rat.mul_zero,Rat.add_zero]
    exact mul_nn (by grind) (by grind)
   refine firstF hf fun s s0 s1 e=>?_
   refine nonneg_of_mul (k:=- crs u v z) (by grind) ?_
   have:((1-s)*crs v w y+s*crs v w z)*(- crs u v z)=(1-s)*(crs u v y*crs v w z-crs v w y*crs u v z)+(- crs v w z)*((1-s)*crs u v y+s*crs u v z):=by grind
   rw[this,e,Rat.mul_zero,Rat.add_zero]
   exact mul_nn (by grind) (by grind)
  refine firstF hf fun s s0 s1 _=>?_
  have p1:=mul_nn (a:=1-s) (b:=crs v w y) (by grind) (by grind)
  have p2:=mul_nn (a:=s) (b:=crs v w z) (by grind) (by grind)
  grind
 have hg:crs v w z<0:=by rcases hz with h | h;exact absurd h hf;exact h
 refine firstG hg fun s s0 s1 _=>?_
 have p1:=mul_nn (a:=1-s) (b:=crs u v y) (by grind) (by grind)
 have p2:=mul_nn (a:=s) (b:=crs u v z) (by grind) (by grind)
 grind
def Tri (u v w q:RP):Prop:=0≤crs u v q∧0≤crs v w q∧0≤crs w u q
section
variable {n : Nat} {P : Nat → RP}
theorem Simple.corner_side (h:Simple n P) {m s:Nat} {l:Rat} (l0:0≤l) (l1:l≤1) (e:P m=at' (P s) (P (s+1)) l):m % n=s % n∨m % n=(s+1) % n:=by
 by_cases hms:m % n=s % n
 ·exact Or.inl hms
 right
 rcases h.touch_mod hms (l:=0) (m:=l) (by grind) (by grind) l0 l1 (by rw[at0];exact e) with ⟨_,z,_⟩ | ⟨z,_,_⟩
 ·grind
 exact z
theorem Simple.pmod (h:Simple n P) {a b:Nat} (e:a % n=b % n):P a=P b:=by rw[←h.mod a,e,h.mod]
theorem Simple.end_in (hs:Simple n P) {k m:Nat} (hD:0<crs (P k) (P (k+1)) (P (k+2))) {y z:RP} (f0:0<crs (P k) (P (k+1)) y) (g0:0<crs (P (k+1)) (P (k+2)) y) (h0:0≤crs (P (k+2)) (P k) y)
  {l:Rat} (l0:0≤l) (l1:l≤1) (hy:y=at' (P m) (P (m+1)) l) (hz:z=P m∨z=P (m+1)) (h1:0≤crs (P (k+2)) (P k) z):Tri (P k) (P (k+1)) (P (k+2)) z:=by
 refine Classical.byContradiction fun hno=>?_
 have hbad:crs (P k) (P (k+1)) z<0∨crs (P (k+1)) (P (k+2)) z<0:=by
  refine Classical.byContradiction fun h=>?_
  exact hno ⟨by grind,by grind,h1⟩
 obtain⟨s,r,s0,s1,r0,r1,he,hf,hg⟩:=leave hD f0 g0 h0 h1 hbad
 obtain⟨t,t0,t1,ht,hend⟩:∃ t:Rat,0≤t∧t≤1∧at' y z s=at' (P m) (P (m+1)) t∧((t=0∨t=1)→at' y z s=z∨y=z):=by
  rcases hz with e | e
  ·refine⟨l-s*l,?_,?_,?_,?_⟩
   ·have:=mul_nn (a:=1-s) (b:=l) (by grind) l0;grind
   ·have:=mul_nn (a:=s) (b:=l) (by grind) l0;grind
   ·rw[hy,e];unfold at';rw[RP.mk.injEq];constructor <;> grind
   intro ht
   rcases ht with ht | ht
   ·left
    have:(1-s)*l=0:=by grind
    rcases Rat.mul_eq_zero.1 this with h | h
    ·rw[show s=1 by grind,at1]
    rw[e,hy,h,at0];unfold at';cases P m;rw[RP.mk.injEq];constructor <;> grind
   have h1:=mul_nn (a:=s) (b:=l) (by grind) l0
   have h2:l=1:=by grind
   have h3:s*1=0:=by grind
   grind
  refine⟨l+s*(1-l),?_,?_,?_,?_⟩
  ·have:=mul_nn (a:=s) (b:=1-l) (by grind) (by grind);grind
  ·have:=mul_nn (a:=1-s) (b:=1-l) (by grind) (by grind);grind
  ·rw[hy,e];unfold at';rw[RP.mk.injEq];constructor <;> grind
  intro ht
  rcases ht with ht | ht
  ·have h1:=mul_nn (a:=s) (b:=1-l) (by grind) (by grind)
   have h2:l=0:=by grind
   have h3:s*1=0:=by grind
   grind
  left
  have:(1-s)*(1-l)=0:=by grind
  rcases Rat.mul_eq_zero.1 this with h | h
  ·rw[show s=1 by grind,at1]
  rw[e,hy,show l=1 by grind,at1];unfold at';cases P (m+1);rw[RP.mk.injEq];constructor <;> grind
 have stop:at' y z s=z∨y=z→False:=fun h=>by
  rcases h with h | h
  ·rw[h] at hf hg;grind
  rw[h] at f0 g0;grind
 have meet:∀ j,(∃ r:Rat,0≤r∧r≤1∧at' y z s=at' (P j) (P (j+1)) r)→crs (P j) (P (j+1)) y≠0→False:=fun j ⟨r,r0,r1,er⟩ hne=>by
  by_cases hmj:m % n=j % n
  ·refine hne ?_
   have e1:=hs.pmod hmj
   have e2:P (m+1)=P (j+1):=hs.pmod (by rw[←Nat.mod_add_mod,hmj,Nat.mod_add_mod])
   rw[hy,e1,e2,crs_at]
  rcases hs.touch_mod hmj t0 t1 r0 r1 (ht.symm.trans er) with ⟨_,e,_⟩ | ⟨_,e,_⟩
  ·exact stop (hend (Or.inr e))
  exact stop (hend (Or.inl e))
 rcases he with e | e
 ·exact meet k ⟨r,r0,r1,e⟩ (by grind)
 exact meet (k+1) ⟨r,r0,r1,e⟩ (by grind)
theorem Simple.part_off (hs:Simple n P) {k:Nat} (hD:0<crs (P k) (P (k+1)) (P (k+2))) {y:RP} (f0:0<crs (P k) (P (k+1)) y) (g0:0<crs (P (k+1)) (P (k+2)) y) (h0:0≤crs (P (k+2)) (P k) y)
  (hno:∀ m,m % n≠(k+1) % n→Tri (P k) (P (k+1)) (P (k+2)) (P m)→crs (P (k+2)) (P k) (P m)<crs (P (k+2)) (P k) y):Off n P y:=fun m l hm l0 l1 e=>by
 have tip:∀ j,j % n=(k+1) % n→j=m∨j=m+1→False:=fun j hj hjm=>by
  rcases hjm with rfl | rfl
  ·have e1:=hs.pmod hj
   have e2:P (j+1)=P (k+2):=hs.pmod (by rw[←Nat.mod_add_mod,hj,Nat.mod_add_mod])
   rw[e,e1,e2,crs_at] at g0
   exact absurd g0 (by decide)
  have e2:=hs.pmod hj
  have e1:P m=P k:=hs.pmod (mod_shift (n:=n) (s:=1) (by have:=hs.three;omega) hj)
  rw[e,e1,e2,crs_at] at f0
  exact absurd f0 (by decide)
 have each:∀ j,j=m∨j=m+1→crs (P (k+2)) (P k) y≤crs (P (k+2)) (P k) (P j)→False:=fun j hj hle=>by
  have hT:=hs.end_in hD f0 g0 h0 l0 l1 e (z:=P j) (by rcases hj with rfl | rfl;exact Or.inl rfl;exact Or.inr rfl) (by grind)
  by_cases ht:j % n=(k+1) % n
  ·exact tip j ht hj
  have:=hno j ht hT
  grind
 have hl:crs (P (k+2)) (P k) y=(1-l)*crs (P (k+2)) (P k) (P m)+l*crs (P (k+2)) (P k) (P (m+1)):=by rw[e,crs_lin]
 by_cases h:crs (P (k+2)) (P k) y≤crs (P (k+2)) (P k) (P m)
 ·exact each m (Or.inl rfl) h
 refine each (m+1) (Or.inr rfl) ?_
 refine Classical.byContradiction fun h2=>?_
 have p1:=mul_nn (a:=1-l) (b:=crs (P (k+2)) (P k) y-crs (P (k+2)) (P k) (P m)) (by grind) (by grind)
 have p2:=mul_nn (a:=l) (b:=crs (P (k+2)) (P k) y-crs (P (k+2)) (P k) (P (m+1))) l0 (by grind)
 have hz1:(1-l)*(crs (P (k+2)) (P k) y-crs (P (k+2)) (P k) (P m))=0:=by grind
 have hz2:l*(crs (P (k+2)) (P k) y-crs (P (k+2)) (P k) (P (m+1)))=0:=by grind
 rcases Rat.mul_eq_zero.1 hz1 with a | a
 ·rcases Rat.mul_eq_zero.1 hz2 with b | b <;> grind
 grind
end
end Geo
end Go.Proofs.YthfokpchdlcidaaGreat
namespace Go.Proofs.YthfokpchdlcidaaGreat
namespace Geo
variable {n : Nat} {P : Nat → RP}
structure EarAt (n:Nat) (P:Nat→RP) (k:Nat):Prop where
 pos:0<crs (P k) (P (k+1)) (P (k+2))
 emp:∀ m,m % n≠k % n→m % n≠(k+1) % n→m % n≠(k+2) % n→¬Tri (P k) (P (k+1)) (P (k+2)) (P m)
theorem crs_self1 (a b:RP):crs a b a=0:=by unfold crs;grind
theorem crs_self2 (a b:RP):crs a b b=0:=by unfold crs;grind
theorem mod_ne {n a b s:Nat} (ha:a<n) (hb:b<n) (h:a≠b):(s+a) % n≠(s+b) % n:=fun e=>h (mod_small ha hb e)
theorem EarAt.off (hs:Simple n P) (h4:4≤n) {k:Nat} (he:EarAt n P k) {y:RP} (f0:0<crs (P k) (P (k+1)) y) (g0:0<crs (P (k+1)) (P (k+2)) y) (h0:0≤crs (P (k+2)) (P k) y):Off n P y:=by
 have hu:crs (P (k+2)) (P k) (P k)=0:=crs_self2 _ _
 have hw:crs (P (k+2)) (P k) (P (k+2))=0:=crs_self1 _ _
 have who:∀ m,m % n≠(k+1) % n→Tri (P k) (P (k+1)) (P (k+2)) (P m)→(m % n=k % n∨m % n=(k+2) % n)∧crs (P (k+2)) (P k) (P m)=0:=fun m hm hT=>by
  by_cases h1:m % n=k % n
  ·exact⟨Or.inl h1,by rw[hs.pmod h1];exact hu⟩
  by_cases h2:m % n=(k+2) % n
  ·exact⟨Or.inr h2,by rw[hs.pmod h2];exact hw⟩
  exact absurd hT (he.emp m h1 hm h2)
 by_cases hpos:0<crs (P (k+2)) (P k) y
 ·exact hs.part_off he.pos f0 g0 h0 fun m hm hT=>by rw[(who m hm hT).2];exact hpos
 have hy0:crs (P (k+2)) (P k) y=0:=by grind
 intro m l hm l0 l1 e
 have tip:∀ j,j=m∨j=m+1→j % n≠(k+1) % n:=fun j hjm hj=>by
  rcases hjm with rfl | rfl
  ·have e1:=hs.pmod hj
   have e2:P (j+1)=P (k+2):=hs.pmod (by rw[←Nat.mod_add_mod,hj,Nat.mod_add_mod])
   rw[e,e1,e2,crs_at] at g0
   exact absurd g0 (by decide)
  have e2:=hs.pmod hj
  have e1:P m=P k:=hs.pmod (mod_shift (n:=n) (s:=1) (by omega) hj)
  rw[e,e1,e2,crs_at] at f0
  exact absurd f0 (by decide)
 have each:∀ j,j=m∨j=m+1→0≤crs (P (k+2)) (P k) (P j)→(j % n=k % n∨j % n=(k+2) % n)∧crs (P (k+2)) (P k) (P j)=0:=fun j hj hle=>by
  have hT:=hs.end_in he.pos f0 g0 h0 l0 l1 e (z:=P j) (by rcases hj with rfl | rfl;exact Or.inl rfl;exact Or.inr rfl) hle
  exact who j (tip j hj) hT
 have hl:crs (P (k+2)) (P k) y=(1-l)*crs (P (k+2)) (P k) (P m)+l*crs (P (k+2)) (P k) (P (m+1)):=by rw[e,crs_lin]
 rw[hy0] at hl
 have noend:∀ j,(j % n=k % n∨j % n=(k+2) % n)→y≠P j:=fun j hj e=>by
  rcases hj with h | h
  ·rw[e,hs.pmod h,crs_self1] at f0;exact absurd f0 (by decide)
  rw[e,hs.pmod h,crs_self2] at g0;exact absurd g0 (by decide)
 have hm1:0≤crs (P (k+2)) (P k) (P m):=by
  refine Classical.byContradiction fun hneg=>?_
  have hm2:0≤crs (P (k+2)) (P k) (P (m+1)):=by
   refine Classical.byContradiction fun hneg2=>?_
   have p1:=mul_nn (a:=1-l) (b:=- crs (P (k+2)) (P k) (P m)) (by grind) (by grind)
   have p2:=mul_nn (a:=l) (b:=- crs (P (k+2)) (P k) (P (m+1))) l0 (by grind)
   have z1:(1-l)*crs (P (k+2)) (P k) (P m)=0:=by grind
   have z2:l*crs (P (k+2)) (P k) (P (m+1))=0:=by grind
   rcases Rat.mul_eq_zero.1 z1 with a | a
   ·rcases Rat.mul_eq_zero.1 z2 with b | b <;> grind
   grind
  obtain⟨hj,hz⟩:=each (m+1) (Or.inr rfl) hm2
  rw[hz,Rat.mul_zero,Rat.add_zero] at hl
  rcases Rat.mul_eq_zero.1 hl.symm with a | a
  ·exact noend _ hj (by rw[e,show l=1 by grind,at1])
  grind
 obtain⟨hj,hz⟩:=each m (Or.inl rfl) hm1
 rw[hz,Rat.mul_zero,Rat.zero_add] at hl
 have hz2:crs (P (k+2)) (P k) (P (m+1))=0:=by
  rcases Rat.mul_eq_zero.1 hl.symm with a | a
  ·exact absurd (by rw[e,a,at0]) (noend _ hj)
  exact a
 obtain⟨hj2,_⟩:=each (m+1) (Or.inr rfl) (by grind)
 rcases hj with h | h
 ·have e1:(m+1) % n=(k+1) % n:=by rw[←Nat.mod_add_mod,h,Nat.mod_add_mod]
  rcases hj2 with h2 | h2
  ·exact mod_ne (n:=n) (s:=k) (a:=1) (b:=0) (by omega) (by omega) (by omega) (by rw[←e1,h2];rfl)
  exact mod_ne (n:=n) (s:=k) (a:=1) (b:=2) (by omega) (by omega) (by omega) (by rw[←e1,h2])
 have e1:(m+1) % n=(k+3) % n:=by rw[←Nat.mod_add_mod,h,Nat.mod_add_mod]
 rcases hj2 with h2 | h2
 ·exact mod_ne (n:=n) (s:=k) (a:=3) (b:=0) (by omega) (by omega) (by omega) (by rw[←e1,h2];rfl)
 exact mod_ne (n:=n) (s:=k) (a:=3) (b:=2) (by omega) (by omega) (by omega) (by rw[←e1,h2])
theorem Simple.region_in (hs:Simple n P) (R:RP→Prop) (hconv:∀ x y t,R x→R y→0≤t→t≤1→R (at' x y t)) (hoff:∀ x,R x→Off n P x) {x y:RP} (hx:R x) (hin:In n P x) (hy:R y):In n P y:=by
 have hf:Free n P x y:=Off.free fun t t0 t1=>hoff _ (hconv x y t hx hy t0 t1)
 have:=hin.free hs hf 1 (by grind) (by grind)
 rwa [at1] at this
theorem Simple.wrap_corner (hs:Simple n P) (k:Nat):P (k % n)=P k∧P (k % n+1)=P (k+1)∧P (k % n+2)=P (k+2) :=
 ⟨hs.mod k,hs.pmod (Nat.mod_add_mod ..),hs.pmod (Nat.mod_add_mod ..)⟩
theorem Pos.tip_in (h:Pos n P) {k:Nat} (hD:0<crs (P k) (P (k+1)) (P (k+2))) {c:Rat} (c0:0≤c) (cD:c<crs (P k) (P (k+1)) (P (k+2))) :
  ∃ y,In n P y∧0<crs (P k) (P (k+1)) y∧0<crs (P (k+1)) (P (k+2)) y∧c<crs (P (k+2)) (P k) y:=by
 have h3:=h.sim.three
 have hk:k % n<n:=Nat.mod_lt _ (by omega)
 obtain⟨w0,w1,_⟩:=h.sim.wrap_corner k
 obtain⟨t,t0,t1,tc⟩:∃ t:Rat,0<t∧t<1∧c<t*crs (P k) (P (k+1)) (P (k+2)):=by
  have e:c / crs (P k) (P (k+1)) (P (k+2))*crs (P k) (P (k+1)) (P (k+2))=c:=Rat.div_mul_cancel (by grind)
  obtain⟨q0,q1⟩:=div_mem hD c0 (by grind)
  generalize c / crs (P k) (P (k+1)) (P (k+2))=x at *
  have x1:x≠1:=fun h=>by rw[h,Rat.one_mul] at e;grind
  refine⟨(x+1) / 2,by grind,by grind,?_⟩
  have:=mul_pp (a:=(1-x) / 2) (b:=crs (P k) (P (k+1)) (P (k+2))) (by grind) hD
  grind
 obtain⟨e1,e10,he1⟩:=h.side_near hk t0 t1
 rw[w0,w1] at he1
 have hx:crs (P (k+2)) (P k) (at' (P k) (P (k+1)) t)=t*crs (P k) (P (k+1)) (P (k+2)):=by unfold crs at';dsimp only;grind
 have gx:crs (P (k+1)) (P (k+2)) (at' (P k) (P (k+1)) t)=(1-t)*crs (P k) (P (k+1)) (P (k+2)):=by unfold crs at';dsimp only;grind
 obtain⟨e2,e20,he2⟩:=left_near (c:=P (k+1)) (d:=P (k+2)) (a:=at' (P k) (P (k+1)) t) (by rw[gx];exact mul_pp (by grind) hD)
 obtain⟨e3,e30,he3⟩:=near_pos (f:=t*crs (P k) (P (k+1)) (P (k+2))-c) (α:=-((P k).y-(P (k+2)).y)) (β:=(P k).x-(P (k+2)).x) (by grind) (at' (P k) (P (k+1)) t)
 obtain⟨e,e0,a1,a2,a3⟩:∃ e:Rat,0<e∧e≤e1∧e≤e2∧e≤e3:=by
  rcases Rat.le_total (a:=e1) (b:=e2) with h | h
  ·rcases Rat.le_total (a:=e1) (b:=e3) with h' | h'
   ·exact⟨e1,e10,by grind,h,h'⟩
   exact⟨e3,e30,h',by grind,by grind⟩
  rcases Rat.le_total (a:=e2) (b:=e3) with h' | h'
  ·exact⟨e2,e20,h,by grind,h'⟩
  exact⟨e3,e30,by grind,h',by grind⟩
 obtain⟨q,hq,hc⟩:=left_pt (h.sim.ne k) (crs_at _ _ t) (.inl rfl) e0
 have hf:0<crs (P k) (P (k+1)) q:=by grind
 refine⟨q,(he1 q (hq.mono a1)).1 hf,hf,he2 q (hq.mono a2),?_⟩
 have h3:=he3 q (hq.mono a3)
 rw[←hx] at h3
 have:crs (P (k+2)) (P k) q=crs (P (k+2)) (P k) (at' (P k) (P (k+1)) t)+(-((P k).y-(P (k+2)).y))*(q.x-(at' (P k) (P (k+1)) t).x)+((P k).x-(P (k+2)).x)*(q.y-(at' (P k) (P (k+1)) t).y):=by
  unfold crs;grind
 grind
theorem conv3 {a b c d e f:RP} {x y:RP} {t r s z:Rat} (t0:0≤t) (t1:t≤1) (hx:r<crs a b x∧s<crs c d x∧z<crs e f x) (hy:r<crs a b y∧s<crs c d y∧z<crs e f y) :
  r<crs a b (at' x y t)∧s<crs c d (at' x y t)∧z<crs e f (at' x y t):=by
 have one:∀ r A B:Rat,r<A→r<B→r<(1-t)*A+t*B:=fun r A B hA hB=>by
  rcases Rat.le_total (a:=t) (b:=1 / 2) with h | h
  ·have p1:=mul_pp (a:=1-t) (b:=A-r) (by grind) (by grind)
   have p2:=mul_nn (a:=t) (b:=B-r) t0 (by grind)
   grind
  have p1:=mul_nn (a:=1-t) (b:=A-r) (by grind) (by grind)
  have p2:=mul_pp (a:=t) (b:=B-r) (by grind) (by grind)
  grind
 rw[crs_lin,crs_lin,crs_lin]
 exact⟨one _ _ _ hx.1 hy.1,one _ _ _ hx.2.1 hy.2.1,one _ _ _ hx.2.2 hy.2.2⟩
theorem EarAt.ins (h:Pos n P) (h4:4≤n) {k:Nat} (he:EarAt n P k) {y:RP} (f0:0<crs (P k) (P (k+1)) y) (g0:0<crs (P (k+1)) (P (k+2)) y) (h0:0≤crs (P (k+2)) (P k) y):In n P y:=by
 obtain⟨x,hx,fx,gx,hhx⟩:=h.tip_in he.pos (c:=0) (by grind) he.pos
 refine h.sim.region_in (fun q=>0<crs (P k) (P (k+1)) q∧0<crs (P (k+1)) (P (k+2)) q∧0≤crs (P (k+2)) (P k) q) (fun a b t ha hb t0 t1=>?_) (fun q hq=>he.off h.sim h4 hq.1 hq.2.1 hq.2.2) ⟨fx,gx,by grind⟩ hx ⟨f0,g0,h0⟩
 have hc:=conv3 (r:=0) (s:=0) (z:=-1) (e:=P (k+2)) (f:=P k) t0 t1 ⟨ha.1,ha.2.1,by have:=ha.2.2;grind⟩ ⟨hb.1,hb.2.1,by have:=hb.2.2;grind⟩
 refine⟨hc.1,hc.2.1,?_⟩
 rw[crs_lin]
 have p1:=mul_nn (a:=1-t) (by grind) ha.2.2
 have p2:=mul_nn t0 hb.2.2
 grind
theorem EarAt.diag (h:Pos n P) (h4:4≤n) {k:Nat} (he:EarAt n P k):Diag n P (k+2) (k+n):=by
 refine⟨by omega,by omega,fun t t0 t1=>?_⟩
 rw[h.sim.per]
 refine he.ins h h4 ?_ ?_ ?_
 ·have:crs (P k) (P (k+1)) (at' (P k) (P (k+2)) t)=t*crs (P k) (P (k+1)) (P (k+2)):=by unfold crs at';dsimp only;grind
  rw[this];exact mul_pp t0 he.pos
 ·have:crs (P (k+1)) (P (k+2)) (at' (P k) (P (k+2)) t)=(1-t)*crs (P k) (P (k+1)) (P (k+2)):=by unfold crs at';dsimp only;grind
  rw[this];exact mul_pp (by grind) he.pos
 have:crs (P (k+2)) (P k) (at' (P k) (P (k+2)) t)=0:=by unfold crs at';dsimp only;grind
 rw[this];grind
theorem some_max {p:Nat→Prop} {f:Nat→Rat}:∀ N,(∃ i,i<N∧p i)→∃ i,i<N∧p i∧∀ j,j<N→p j→f j≤f i
 | 0,⟨i,hi,_⟩=>by omega
 | N+1,hex=>by
  by_cases hN:∃ i,i<N∧p i
  ·obtain⟨i,hi,hp,hmax⟩:=some_max (f:=f) N hN
   by_cases hb:p N∧f i<f N
   ·exact⟨N,by omega,hb.1,fun j hj hpj=>by
     rcases Nat.lt_succ_iff_lt_or_eq.1 hj with h | h
     ·have:=hmax j h hpj;have:=hb.2;grind
     rw[h];grind⟩
   exact⟨i,by omega,hp,fun j hj hpj=>by
    rcases Nat.lt_succ_iff_lt_or_eq.1 hj with h | h
    ·exact hmax j h hpj
    subst h
    refine Classical.byContradiction fun hlt=>hb ⟨hpj,by grind⟩⟩
  obtain⟨i,hi,hp⟩:=hex
  have hiN:i=N:=by
   rcases Nat.lt_succ_iff_lt_or_eq.1 hi with h | h
   ·exact absurd ⟨i,h,hp⟩ hN
   exact h
  subst hiN
  exact⟨i,by omega,hp,fun j hj hpj=>by
   rcases Nat.lt_succ_iff_lt_or_eq.1 hj with h | h
   ·exact absurd ⟨j,h,hpj⟩ hN
   rw[h];grind⟩
theorem Pos.ear_or_diag (h:Pos n P) {k:Nat} (hD:0<crs (P k) (P (k+1)) (P (k+2))):EarAt n P k∨∃ m,Diag n P (k+1) m:=by
 have h3:=h.sim.three
 by_cases he:EarAt n P k
 ·exact Or.inl he
 right
 obtain⟨m0,hm0,hm1,hm2,hT0⟩:∃ m,m % n≠k % n∧m % n≠(k+1) % n∧m % n≠(k+2) % n∧Tri (P k) (P (k+1)) (P (k+2)) (P m):=by
  refine Classical.byContradiction fun hno=>he ⟨hD,fun m h1 h2 h3 hT=>hno ⟨m,h1,h2,h3,hT⟩⟩
 have rep:∀ m,∃ a,a<n∧m % n=(k+a) % n:=fun m=>by
  refine⟨(m+(n-k % n)) % n,Nat.mod_lt _ (by omega),?_⟩
  have hk:=Nat.mod_lt k (show 0<n by omega)
  rw[Nat.add_mod_mod,←Nat.mod_add_mod,show k % n+(m+(n-k % n))=m+n by omega,Nat.add_mod_right]
 obtain⟨a0,ha0,hea0⟩:=rep m0
 have hex:∃ a,a<n∧(3≤a∧Tri (P k) (P (k+1)) (P (k+2)) (P (k+a))):=by
  refine⟨a0,ha0,?_,by rw[←h.sim.pmod hea0];exact hT0⟩
  refine Classical.byContradiction fun hlt=>?_
  have:a0=0∨a0=1∨a0=2:=by omega
  rcases this with e | e | e <;> subst e
  ·exact hm0 hea0
  ·exact hm1 hea0
  exact hm2 hea0
 obtain⟨a,ha,⟨ha3,hT⟩,hmax⟩:=some_max (p:=fun a=>3≤a∧Tri (P k) (P (k+1)) (P (k+2)) (P (k+a))) (f:=fun a=>crs (P (k+2)) (P k) (P (k+a))) n hex
 have fz:0<crs (P k) (P (k+1)) (P (k+a)):=by
  refine Classical.byContradiction fun hn=>?_
  obtain⟨l,l0,l1,e⟩:=on_edge hD (q:=P (k+a)) (by have:=hT.1;grind) hT.2.1 hT.2.2
  rcases h.sim.corner_side l0 l1 e with h | h
  ·exact mod_ne (n:=n) (s:=k) (a:=a) (b:=0) (by omega) (by omega) (by omega) h
  exact mod_ne (n:=n) (s:=k) (a:=a) (b:=1) (by omega) (by omega) (by omega) h
 have gz:0<crs (P (k+1)) (P (k+2)) (P (k+a)):=by
  refine Classical.byContradiction fun hn=>?_
  obtain⟨l,l0,l1,e⟩:=on_edge (u:=P (k+1)) (v:=P (k+2)) (w:=P k) (by rw[(crs_cyc (P k) (P (k+1)) (P (k+2))).1];exact hD) (q:=P (k+a)) (by have:=hT.2.1;grind) hT.2.2 hT.1
  rcases h.sim.corner_side l0 l1 e with h | h
  ·exact mod_ne (n:=n) (s:=k) (a:=a) (b:=1) (by omega) (by omega) (by omega) h
  exact mod_ne (n:=n) (s:=k) (a:=a) (b:=2) (by omega) (by omega) (by omega) h
 have hsum:=bary (P k) (P (k+1)) (P (k+2)) (P (k+a))
 have hz0:=hT.2.2
 generalize hc:crs (P (k+2)) (P k) (P (k+a))=c at *
 have hoff:∀ q,0<crs (P k) (P (k+1)) q∧0<crs (P (k+1)) (P (k+2)) q∧c<crs (P (k+2)) (P k) q→Off n P q:=fun q hq=>by
  refine h.sim.part_off hD hq.1 hq.2.1 (by have:=hq.2.2;grind) fun m hm hTm=>?_
  obtain⟨b,hb,heb⟩:=rep m
  have hb1:b≠1:=fun e=>hm (by rw[heb,e])
  rw[h.sim.pmod heb] at hTm ⊢
  have:b=0∨b=2∨3≤b:=by omega
  rcases this with e | e | e
  ·subst e
   have:crs (P (k+2)) (P k) (P (k+0))=0:=crs_self2 _ _
   have:=hq.2.2
   grind
  ·subst e
   have:crs (P (k+2)) (P k) (P (k+2))=0:=crs_self1 _ _
   have:=hq.2.2
   grind
  have:=hmax b hb ⟨e,hTm⟩
  have:=hq.2.2
  grind
 obtain⟨x,hx,fx,gx,hhx⟩:=h.tip_in hD (c:=c) (by grind) (by grind)
 have h4:4≤n:=by omega
 refine⟨k+a,⟨by omega,by omega,fun t t0 t1=>?_⟩⟩
 refine h.sim.region_in (fun q=>0<crs (P k) (P (k+1)) q∧0<crs (P (k+1)) (P (k+2)) q∧c<crs (P (k+2)) (P k) q) (fun a b t ha hb t0 t1=>conv3 t0 t1 ha hb) hoff ⟨fx,gx,hhx⟩ hx ?_
 rw[crs_lin,crs_lin,crs_lin,crs_self2,crs_self1,hc,(crs_cyc (P k) (P (k+1)) (P (k+2))).2,Rat.mul_zero,Rat.add_zero,Rat.add_zero]
 refine⟨mul_pp (by grind) fz,mul_pp (by grind) gz,?_⟩
 have:=mul_pp (a:=t) (b:=crs (P k) (P (k+1)) (P (k+2))-c) t0 (by grind)
 grind
end Geo
end Go.Proofs.YthfokpchdlcidaaGreat
