/- What the statements rest on: definitions and walks, part 03. -/
import Derived.Test.YtoojdkaimhlcbaaGreatJ02
set_option maxRecDepth 100000
set_option maxHeartbeats 16000000
set_option linter.unusedSimpArgs false
set_option linter.unusedVariables false
namespace Go.Proofs.YtoojdkaimhlcbaaGreat.Cal
def sumTo:Nat→(Nat→Int)→Int
 | 0,_=>0
 | n+1,f=>sumTo n f+f n
theorem sumTo_congr {n:Nat} {f g:Nat→Int} (h:∀ i,i<n→f i=g i):sumTo n f=sumTo n g:=by
 induction n with
 | zero=>rfl
 | succ n ih =>
  unfold sumTo
  rw[ih (fun i hi=>h i (by omega)),h n (by omega)]
theorem sumTo_zero (n:Nat):sumTo n (fun _=>0)=0:=by
 induction n with
 | zero=>rfl
 | succ n ih=>unfold sumTo;rw[ih];rfl
theorem sumTo_add (n:Nat) (f g:Nat→Int):sumTo n (fun i=>f i+g i)=sumTo n f+sumTo n g:=by
 induction n with
 | zero=>rfl
 | succ n ih =>
  show sumTo n (fun i=>f i+g i)+(f n+g n)=sumTo n f+f n+(sumTo n g+g n)
  rw[ih];omega
theorem sumTo_neg (n:Nat) (f:Nat→Int):sumTo n (fun i=>- f i)=- sumTo n f:=by
 induction n with
 | zero=>rfl
 | succ n ih =>
  show sumTo n (fun i=>- f i) +-f n=- (sumTo n f+f n)
  rw[ih];omega
theorem sumTo_mul (n:Nat) (c:Int) (f:Nat→Int):sumTo n (fun i=>c*f i)=c*sumTo n f:=by
 induction n with
 | zero=>simp[sumTo]
 | succ n ih=>unfold sumTo;rw[ih,Int.mul_add]
theorem sumTo_swap (n m:Nat) (f:Nat→Nat→Int):sumTo n (fun i=>sumTo m (f i))=sumTo m (fun j=>sumTo n (fun i=>f i j)):=by
 induction n with
 | zero =>
  show (0:Int)=sumTo m (fun _=>0)
  rw[sumTo_zero]
 | succ n ih =>
  show sumTo n _+sumTo m (f n)=sumTo m (fun j=>sumTo n (fun i=>f i j)+f n j)
  rw[sumTo_add,ih]
theorem sumTo_first (n:Nat) (f:Nat→Int):sumTo (n+1) f=f 0+sumTo n (fun i=>f (i+1)):=by
 induction n with
 | zero=>simp[sumTo]
 | succ n ih =>
  show sumTo (n+1) f+f (n+1)=_
  rw[ih]
  show _=f 0+(sumTo n (fun i=>f (i+1))+f (n+1))
  omega
def skipI (c i:Nat):Nat:=if i<c then i else i+1
theorem sumTo_skip {n c:Nat} (hc:c≤n) (g:Nat→Int):sumTo n (fun i=>g (skipI c i))=sumTo (n+1) (fun e=>if e=c then 0 else g e):=by
 induction n with
 | zero =>
  obtain rfl:c=0:=by omega
  rfl
 | succ n ih =>
  by_cases h:c=n+1
  ·subst h
   show sumTo (n+1) (fun i=>g (skipI (n+1) i))=sumTo (n+1) (fun e=>if e=n+1 then 0 else g e)+(if n+1=n+1 then 0 else g (n+1))
   rw[if_pos rfl,Int.add_zero]
   exact sumTo_congr fun i hi=>by rw[if_neg (by omega)];unfold skipI;rw[if_pos hi]
  have hc':c≤n:=by omega
  show sumTo n (fun i=>g (skipI c i))+g (skipI c n)=sumTo (n+1) (fun e=>if e=c then 0 else g e)+(if n+1=c then 0 else g (n+1))
  rw[ih hc',if_neg (by omega)]
  congr 1
  unfold skipI
  rw[if_neg (by omega)]
def sg (c:Nat):Int:=if c % 2=0 then 1 else -1
theorem sg_succ (c:Nat):sg (c+1)=- sg c:=by
 unfold sg
 by_cases h:c % 2=0
 ·rw[if_pos h,if_neg (by omega)]
 rw[if_neg h,if_pos (by omega)];rfl
theorem sg_sq (c:Nat):sg c*sg c=1:=by
 unfold sg
 split <;> rfl
abbrev Mat:=Nat→Nat→Int
def minor (A:Mat) (c:Nat):Mat:=fun i j=>A (i+1) (skipI c j)
def detN:Nat→Mat→Int
 | 0,_=>1
 | n+1,A=>sumTo (n+1) fun c=>sg c*A 0 c*detN n (minor A c)
theorem detN_congr:∀ {n:Nat} {A B:Mat},(∀ i j,i<n→j<n→A i j=B i j)→detN n A=detN n B
 | 0,_,_,_=>rfl
 | n+1,A,B,h=>by
  unfold detN
  refine sumTo_congr fun c hc=>?_
  rw[h 0 c (by omega) hc,detN_congr (A:=minor A c) (B:=minor B c) (fun i j hi hj=>?_)]
  unfold minor
  refine h _ _ (by omega) ?_
  unfold skipI
  split <;> omega
def swapI (r i:Nat):Nat:=if i=r then r+1 else if i=r+1 then r else i
def rowSwap (A:Mat) (r:Nat):Mat:=fun i j=>A (swapI r i) j
def colSwap (A:Mat) (r:Nat):Mat:=fun i j=>A i (swapI r j)
theorem minor_rowSwap (A:Mat) (r c:Nat):minor (rowSwap A (r+1)) c=rowSwap (minor A c) r:=by
 funext i j
 unfold minor rowSwap swapI
 by_cases h1:i=r
 ·rw[if_pos h1,if_pos (by omega)]
 by_cases h2:i=r+1
 ·rw[if_neg h1,if_pos h2,if_neg (by omega),if_pos (by omega)]
 rw[if_neg h1,if_neg h2,if_neg (by omega),if_neg (by omega)]
def minor2 (A:Mat) (c e:Nat):Mat:=fun i j=>A (i+2) (skipI (max c e) (skipI (min c e) j))
theorem minor_minor (A:Mat) {c d:Nat}:minor (minor A c) d=minor2 A c (skipI c d):=by
 funext i j
 unfold minor minor2 skipI
 have h:∀ a b:Nat,a=b→A (i+2) a=A (i+2) b:=fun a b h=>by rw[h]
 apply h
 split <;> split <;> split <;> split <;> (try split) <;> (try split) <;> omega
theorem minor2_comm (A:Mat) (c e:Nat):minor2 A c e=minor2 A e c:=by
 unfold minor2
 rw[Nat.max_comm,Nat.min_comm]
def sg2 (c e:Nat):Int:=if e=c then 0 else if e<c then sg c*sg e else sg c*sg (e+1)
theorem sg2_anti (c e:Nat):sg2 c e=- sg2 e c:=by
 unfold sg2
 by_cases h:e=c
 ·rw[if_pos h,if_pos h.symm];rfl
 have h':¬c=e:=fun x=>h x.symm
 by_cases h1:e<c
 ·have h2:¬c<e:=by omega
  rw[if_neg h,if_pos h1,if_neg h',if_neg h2,sg_succ]
  grind
 have h2:c<e:=by omega
 rw[if_neg h,if_neg h1,if_neg h',if_pos h2,sg_succ]
 grind
theorem detN_two (n:Nat) (A:Mat):detN (n+2) A=sumTo (n+2) fun c=>sumTo (n+2) fun e=>sg2 c e*A 0 c*A 1 e*detN n (minor2 A c e):=by
 show sumTo (n+2) (fun c=>sg c*A 0 c*detN (n+1) (minor A c))=_
 refine sumTo_congr fun c hc=>?_
 have h1:detN (n+1) (minor A c)=sumTo (n+1) (fun d=>(fun e=>(if e<c then sg e else sg (e+1))*A 1 e*detN n (minor2 A c e)) (skipI c d)):=by
  show sumTo (n+1) (fun d=>sg d*minor A c 0 d*detN n (minor (minor A c) d))=_
  refine sumTo_congr fun d hd=>?_
  show sg d*A 1 (skipI c d)*detN n (minor (minor A c) d)=(if skipI c d<c then sg (skipI c d) else sg (skipI c d+1))*A 1 (skipI c d)*detN n (minor2 A c (skipI c d))
  rw[minor_minor]
  congr 2
  unfold skipI
  by_cases h:d<c
  ·rw[if_pos h,if_pos h]
  rw[if_neg h,if_neg (by omega),sg_succ,sg_succ];omega
 have h2:=h1.trans (sumTo_skip (n:=n+1) (c:=c) (by omega) (fun e=>(if e<c then sg e else sg (e+1))*A 1 e*detN n (minor2 A c e)))
 rw[h2,←sumTo_mul]
 refine sumTo_congr fun e he=>?_
 unfold sg2
 by_cases h:e=c
 ·rw[if_pos h,if_pos h];simp
 rw[if_neg h,if_neg h]
 by_cases h2:e<c
 ·simp only[if_pos h2];grind
 simp only[if_neg h2];grind
theorem det_rowSwap:∀ (n r:Nat) (A:Mat),r+1<n→detN n (rowSwap A r)=- detN n A
 | 0,r,A,h=>by omega
 | 1,r,A,h=>by omega
 | n+2,0,A,_=>by
  rw[detN_two,detN_two,←sumTo_neg,sumTo_swap]
  refine sumTo_congr fun c hc=>?_
  rw[←sumTo_neg]
  refine sumTo_congr fun e he=>?_
  have e0:rowSwap A 0 0 e=A 1 e:=rfl
  have e1:rowSwap A 0 1 c=A 0 c:=rfl
  have e2:minor2 (rowSwap A 0) e c=minor2 A c e:=by
   rw[minor2_comm]
   funext i j
   unfold minor2 rowSwap swapI
   rw[if_neg (by omega),if_neg (by omega)]
  rw[e0,e1,e2,sg2_anti e c]
  grind
 | n+2,r+1,A,h=>by
  show sumTo (n+2) (fun c=>sg c*rowSwap A (r+1) 0 c*detN (n+1) (minor (rowSwap A (r+1)) c))=- sumTo (n+2) (fun c=>sg c*A 0 c*detN (n+1) (minor A c))
  rw[←sumTo_neg]
  refine sumTo_congr fun c hc=>?_
  rw[minor_rowSwap,det_rowSwap (n+1) r (minor A c) (by omega)]
  have e0:rowSwap A (r+1) 0 c=A 0 c:=by unfold rowSwap swapI;rw[if_neg (by omega),if_neg (by omega)]
  rw[e0]
  grind
theorem swapI_skip {r c j:Nat} (h1:c≠r) (h2:c≠r+1):swapI r (skipI c j)=skipI c (if c<r then swapI (r-1) j else swapI r j):=by
 unfold swapI skipI
 grind
theorem sumTo_swapI {n r:Nat} (h:r+1<n) (g:Nat→Int):sumTo n (fun c=>g (swapI r c))=sumTo n g:=by
 induction n with
 | zero=>omega
 | succ n ih =>
  by_cases h1:r+1<n
  ·show sumTo n (fun c=>g (swapI r c))+g (swapI r n)=sumTo n g+g n
   rw[ih h1]
   congr 2
   unfold swapI
   rw[if_neg (by omega),if_neg (by omega)]
  obtain rfl:n=r+1:=by omega
  show sumTo r (fun c=>g (swapI r c))+g (swapI r r)+g (swapI r (r+1))=sumTo r g+g r+g (r+1)
  have e0:sumTo r (fun c=>g (swapI r c))=sumTo r g:=sumTo_congr fun i hi=>by
   unfold swapI
   rw[if_neg (by omega),if_neg (by omega)]
  have e1:swapI r r=r+1:=by unfold swapI;rw[if_pos rfl]
  have e2:swapI r (r+1)=r:=by unfold swapI;rw[if_neg (by omega),if_pos rfl]
  rw[e0,e1,e2]
  omega
theorem det_colSwap:∀ (n r:Nat) (A:Mat),r+1<n→detN n (colSwap A r)=- detN n A
 | 0,r,A,h=>by omega
 | n+1,r,A,h=>by
  show sumTo (n+1) (fun c=>sg c*colSwap A r 0 c*detN n (minor (colSwap A r) c))=- sumTo (n+1) (fun c=>sg c*A 0 c*detN n (minor A c))
  rw[←sumTo_swapI h (fun c=>sg c*A 0 c*detN n (minor A c)),←sumTo_neg]
  refine sumTo_congr fun c hc=>?_
  have e0:colSwap A r 0 c=A 0 (swapI r c):=rfl
  rw[e0]
  by_cases h1:c=r
  ·subst h1
   have e1:swapI c c=c+1:=by unfold swapI;rw[if_pos rfl]
   have e2:minor (colSwap A c) c=minor A (c+1):=by
    funext i j
    show A (i+1) (swapI c (skipI c j))=A (i+1) (skipI (c+1) j)
    congr 1
    unfold swapI skipI
    split <;> split <;> (try split) <;> (try split) <;> omega
   rw[e1,e2,sg_succ]
   grind
  by_cases h2:c=r+1
  ·subst h2
   have e1:swapI r (r+1)=r:=by unfold swapI;rw[if_neg (by omega),if_pos rfl]
   have e2:minor (colSwap A r) (r+1)=minor A r:=by
    funext i j
    show A (i+1) (swapI r (skipI (r+1) j))=A (i+1) (skipI r j)
    congr 1
    unfold swapI skipI
    split <;> split <;> (try split) <;> (try split) <;> omega
   rw[e1,e2,sg_succ]
   grind
  have e1:swapI r c=c:=by unfold swapI;rw[if_neg h1,if_neg h2]
  have e2:minor (colSwap A r) c=colSwap (minor A c) (if c<r then r-1 else r):=by
   funext i j
   show A (i+1) (swapI r (skipI c j))=A (i+1) (skipI c (swapI (if c<r then r-1 else r) j))
   rw[swapI_skip h1 h2]
   congr 2
   split <;> rfl
  rw[e1,e2,det_colSwap n _ (minor A c) (by split <;> omega)]
  grind
theorem det_eqRows:∀ (q n:Nat) (A:Mat),q+1<n→(∀ j,A 0 j=A (q+1) j)→detN n A=0
 | 0,n,A,h,he=>by
  have h1:=det_rowSwap n 0 A h
  have h2:rowSwap A 0=A:=by
   funext i j
   unfold rowSwap swapI
   by_cases a:i=0
   ·rw[if_pos a,a];exact (he j).symm
   by_cases b:i=1
   ·rw[if_neg a,if_pos b,b];exact he j
   rw[if_neg a,if_neg b]
  rw[h2] at h1
  omega
 | q+1,n,A,h,he=>by
  have h1:=det_rowSwap n (q+1) A h
  have h2:=det_eqRows q n (rowSwap A (q+1)) (by omega) (fun j=>by
   have e0:rowSwap A (q+1) 0 j=A 0 j:=by unfold rowSwap swapI;rw[if_neg (by omega),if_neg (by omega)]
   have e1:rowSwap A (q+1) (q+1) j=A (q+1+1) j:=by unfold rowSwap swapI;rw[if_pos rfl]
   rw[e0,e1];exact he j)
  omega
def colPut (M:Mat) (j:Nat) (r:Nat→Int):Mat:=fun i k=>if k=j then r i else M i k
def onWay (M:Mat) (j:Nat) (r:Nat→Int) (t:Nat):Mat:=fun i k=>if k<t then M i k else if k=t then r i else if k≤j then M i (k-1) else M i k
theorem onWay_step (M:Mat) {j t:Nat} (r:Nat→Int) (h:t<j):colSwap (onWay M j r t) t=onWay M j r (t+1):=by
 funext i k
 unfold colSwap onWay swapI
 by_cases a:k=t
 ·subst a
  rw[if_pos rfl,if_neg (by omega),if_neg (by omega),if_pos (by omega),if_pos (by omega)]
  rfl
 by_cases b:k=t+1
 ·subst b
  rw[if_neg a,if_pos rfl,if_neg (by omega),if_pos rfl,if_neg (by omega),if_pos rfl]
 rw[if_neg a,if_neg b]
 by_cases c:k<t
 ·rw[if_pos c,if_pos (by omega)]
 rw[if_neg c,if_neg a,if_neg (show ¬k<t+1 by omega)];simp only[if_neg b]
theorem onWay_end (M:Mat) (j:Nat) (r:Nat→Int):onWay M j r j=colPut M j r:=by
 funext i k
 unfold onWay colPut
 by_cases a:k<j
 ·rw[if_pos a,if_neg (by omega)]
 by_cases b:k=j
 ·rw[if_neg a,if_pos b,if_pos b]
 rw[if_neg a,if_neg b,if_neg (by omega),if_neg b]
theorem det_onWay (n:Nat) (M:Mat) {j:Nat} (r:Nat→Int) (hj:j<n):∀ t,t≤j→detN n (onWay M j r t)=sg t*detN n (onWay M j r 0)
 | 0,_=>by
  show _=(1:Int)*_
  rw[Int.one_mul]
 | t+1,h=>by
  rw[←onWay_step M r (by omega),det_colSwap n t _ (by omega),det_onWay n M r hj t (by omega),sg_succ]
  grind
def withCol (M:Mat) (r:Nat→Int) (p:Nat):Mat:=fun i j=>if j=0 then r (if i=0 then p else i-1) else M (if i=0 then p else i-1) (j-1)
theorem cramer (n:Nat) (M:Mat) (r:Nat→Int) {p:Nat} (hp:p<n):sumTo n (fun j=>M p j*detN n (colPut M j r))=r p*detN n M:=by
 let B:Mat:=withCol M r p
 have h0:detN (n+1) B=0:=det_eqRows p (n+1) B (by omega) (fun j=>by show withCol M r p 0 j=withCol M r p (p+1) j;simp[withCol])
 have h1:detN (n+1) B=sumTo (n+1) (fun c=>sg c*B 0 c*detN n (minor B c)):=rfl
 rw[h0,sumTo_first] at h1
 have e0:sg 0*B 0 0*detN n (minor B 0)=r p*detN n M:=by
  show (1:Int)*r p*detN n M=_
  rw[Int.one_mul]
 have e1:sumTo n (fun j=>sg (j+1)*B 0 (j+1)*detN n (minor B (j+1)))=sumTo n (fun j=>- (M p j*detN n (colPut M j r))):=sumTo_congr fun j hj=>by
  have e2:minor B (j+1)=onWay M j r 0:=by
   funext i k
   show withCol M r p (i+1) (skipI (j+1) k)=_
   unfold onWay skipI withCol
   grind
  have e3:=det_onWay n M r hj j (Nat.le_refl j)
  rw[onWay_end] at e3
  have e4:B 0 (j+1)=M p j:=rfl
  have e5:=sg_sq j
  rw[e2,e4,e3,sg_succ]
  grind
 rw[e0,e1,sumTo_neg] at h1
 omega
def quad (n:Nat) (A:Mat) (x:Nat→Int):Int:=sumTo n (fun i=>x i*sumTo n (fun j=>A i j*x j))
def PD (n:Nat) (A:Mat):Prop:=∀ x:Nat→Int,(∃ i,i<n∧x i≠0)→0<quad n A x
theorem row_cofactors {n:Nat} (A:Mat) {p:Nat} (hp:p<n):sumTo (n+1) (fun c=>A (p+1) c*(sg c*detN n (minor A c)))=0:=by
 have h0:=det_eqRows p (n+1) (fun i j=>if i=0 then A (p+1) j else A i j) (by omega) (fun j=>by simp)
 have h1:detN (n+1) (fun i j=>if i=0 then A (p+1) j else A i j)=sumTo (n+1) (fun c=>sg c*A (p+1) c*detN n (minor A c)):=rfl
 rw[h1] at h0
 rw[←h0]
 exact sumTo_congr fun c _=>by grind
theorem det_pos:∀ (n:Nat) (A:Mat),PD n A→0<detN n A
 | 0,A,_=>Int.zero_lt_one
 | n+1,A,h=>by
  have hm:PD n (minor A 0):=by
   intro x ⟨i,hi,hx⟩
   have h1:=h (fun i=>match i with | 0=>0 | i+1=>x i) ⟨i+1,by omega,hx⟩
   have e1:quad (n+1) A (fun i=>match i with | 0=>0 | i+1=>x i)=quad n (minor A 0) x:=by
    unfold quad
    rw[sumTo_first]
    show (0:Int)*_+sumTo n (fun i=>x i*sumTo (n+1) (fun j=>A (i+1) j*(match j with | 0=>0 | j+1=>x j)))=_
    rw[Int.zero_mul,Int.zero_add]
    refine sumTo_congr fun i hi=>?_
    rw[sumTo_first]
    show x i*(A (i+1) 0*0+sumTo n (fun j=>A (i+1) (j+1)*x j))=x i*sumTo n (fun j=>A (i+1) (skipI 0 j)*x j)
    rw[Int.mul_zero,Int.zero_add]
    rfl
   rw[e1] at h1
   exact h1
  have hp:=det_pos n (minor A 0) hm
  have hx0:sg 0*detN n (minor A 0)=detN n (minor A 0):=by show (1:Int)*_=_;rw[Int.one_mul]
  have h1:=h (fun c=>sg c*detN n (minor A c)) ⟨0,by omega,by show sg 0*detN n (minor A 0)≠0;rw[hx0];omega⟩
  have e1:quad (n+1) A (fun c=>sg c*detN n (minor A c))=detN n (minor A 0)*detN (n+1) A:=by
   unfold quad
   rw[sumTo_first]
   have e2:sumTo n (fun i=>sg (i+1)*detN n (minor A (i+1))*sumTo (n+1) (fun j=>A (i+1) j*(sg j*detN n (minor A j))))=0:=by
    rw[←sumTo_zero n]
    exact sumTo_congr fun i hi=>by rw[row_cofactors A hi,Int.mul_zero]
   show sg 0*detN n (minor A 0)*sumTo (n+1) (fun j=>A 0 j*(sg j*detN n (minor A j)))+sumTo n (fun i=>sg (i+1)*detN n (minor A (i+1))*sumTo (n+1) (fun j=>A (i+1) j*(sg j*detN n (minor A j))))=_
   rw[e2,Int.add_zero,hx0]
   congr 1
   show _=sumTo (n+1) (fun c=>sg c*A 0 c*detN n (minor A c))
   exact sumTo_congr fun c _=>by grind
  rw[e1] at h1
  rcases Int.lt_or_le 0 (detN (n+1) A) with h2 | h2
  ·exact h2
  exact absurd (Int.mul_nonpos_of_nonneg_of_nonpos (Int.le_of_lt hp) h2) (by omega)
def dl (a i:Nat):Int:=if i=a then 1 else 0
theorem sumTo_dl {n a:Nat} (h:a<n) (x:Nat→Int):sumTo n (fun i=>dl a i*x i)=x a:=by
 induction n with
 | zero=>omega
 | succ n ih =>
  show sumTo n (fun i=>dl a i*x i)+dl a n*x n=x a
  by_cases h1:a=n
  ·subst h1
   have e:sumTo a (fun i=>dl a i*x i)=0:=by
    rw[←sumTo_zero a]
    exact sumTo_congr fun i hi=>by unfold dl;rw[if_neg (by omega),Int.zero_mul]
   rw[e];unfold dl;rw[if_pos rfl];omega
  rw[ih (by omega)];unfold dl;rw[if_neg (by omega)];omega
structure Edge where
 f:Nat
 t:Nat
 d:Int
 w:Int
def lap:List Edge→Mat
 | [],_,_=>0
 | e :: l,i,j=>e.w*(dl e.f i-dl e.t i)*(dl e.f j-dl e.t j)+lap l i j
def sqs (x:Nat→Int):List Edge→Int
 | []=>0
 | e :: l=>e.w*((x e.f-x e.t)*(x e.f-x e.t))+sqs x l
theorem quad_lap {n:Nat} (x:Nat→Int):∀ l:List Edge,(∀ e∈l,e.f<n∧e.t<n)→quad n (lap l) x=sqs x l
 | [],_=>by
  show sumTo n (fun i=>x i*sumTo n (fun j=>0*x j))=0
  have e:∀ i,x i*sumTo n (fun j=>0*x j)=0:=fun i=>by
   rw[sumTo_mul,Int.zero_mul,Int.mul_zero]
  simp only[e]
  exact sumTo_zero n
 | e :: l,h=>by
  obtain⟨hf,ht⟩:=h e (List.mem_cons_self ..)
  have ih:=quad_lap x l (fun a ha=>h a (List.mem_cons_of_mem _ ha))
  have e1:∀ i,sumTo n (fun j=>lap (e :: l) i j*x j)=e.w*(dl e.f i-dl e.t i)*(x e.f-x e.t)+sumTo n (fun j=>lap l i j*x j):=fun i=>by
   have e2:sumTo n (fun j=>lap (e :: l) i j*x j)=sumTo n (fun j=>(e.w*(dl e.f i-dl e.t i))*(dl e.f j*x j +-(dl e.t j*x j))+lap l i j*x j):=sumTo_congr fun j _=>by
    show (e.w*(dl e.f i-dl e.t i)*(dl e.f j-dl e.t j)+lap l i j)*x j=_
    grind
   rw[e2,sumTo_add,sumTo_mul,sumTo_add,sumTo_neg,sumTo_dl hf,sumTo_dl ht]
   grind
  unfold quad
  have e3:sumTo n (fun i=>x i*sumTo n (fun j=>lap (e :: l) i j*x j))=sumTo n (fun i=>(e.w*(x e.f-x e.t))*(dl e.f i*x i +-(dl e.t i*x i))+x i*sumTo n (fun j=>lap l i j*x j)):=sumTo_congr fun i _=>by
   rw[e1 i]
   generalize sumTo n (fun j=>lap l i j*x j)=q
   grind
  rw[e3,sumTo_add,sumTo_mul,sumTo_add,sumTo_neg,sumTo_dl hf,sumTo_dl ht]
  unfold quad at ih
  rw[ih]
  show _=e.w*((x e.f-x e.t)*(x e.f-x e.t))+sqs x l
  grind
theorem sqs_nonneg (x:Nat→Int):∀ l:List Edge,(∀ e∈l,0<e.w)→0≤sqs x l
 | [],_=>by unfold sqs;omega
 | e :: l,h=>by
  have ih:=sqs_nonneg x l (fun a ha=>h a (List.mem_cons_of_mem _ ha))
  have h1:0≤(x e.f-x e.t)*(x e.f-x e.t):=by
   rcases Int.le_total 0 (x e.f-x e.t) with h2 | h2
   ·exact Int.mul_nonneg h2 h2
   exact Int.mul_nonneg_of_nonpos_of_nonpos h2 h2
  have h3:=Int.mul_nonneg (Int.le_of_lt (h e (List.mem_cons_self ..))) h1
  unfold sqs
  omega
theorem sqs_eq_zero (x:Nat→Int):∀ l:List Edge,(∀ e∈l,0<e.w)→sqs x l=0→∀ e∈l,x e.f=x e.t
 | [],_,_=>fun e he=>by cases he
 | e :: l,h,h0=>by
  have hw:=h e (List.mem_cons_self ..)
  have ih:=sqs_nonneg x l (fun a ha=>h a (List.mem_cons_of_mem _ ha))
  have h1:0≤(x e.f-x e.t)*(x e.f-x e.t):=by
   rcases Int.le_total 0 (x e.f-x e.t) with h2 | h2
   ·exact Int.mul_nonneg h2 h2
   exact Int.mul_nonneg_of_nonpos_of_nonpos h2 h2
  have h3:=Int.mul_nonneg (Int.le_of_lt hw) h1
  unfold sqs at h0
  have h4:e.w*((x e.f-x e.t)*(x e.f-x e.t))=0:=by omega
  have h5:x e.f=x e.t:=by
   rcases Int.mul_eq_zero.mp h4 with a | a
   ·omega
   rcases Int.mul_eq_zero.mp a with b | b <;> omega
  intro a ha
  rcases List.mem_cons.mp ha with rfl | hb
  ·exact h5
  exact sqs_eq_zero x l (fun a ha=>h a (List.mem_cons_of_mem _ ha)) (by omega) a hb
def Hangs (n:Nat) (l:List Edge):Prop:=∀ S:Nat→Bool,S 0=true→(∀ e∈l,S e.f=S e.t)→∀ p,p<n→S p=true
def red (A:Mat):Mat:=fun i j=>A (i+1) (j+1)
theorem quad_red (n:Nat) (A:Mat) (x:Nat→Int) (h:x 0=0):quad n (red A) (fun i=>x (i+1))=quad (n+1) A x:=by
 unfold quad
 rw[sumTo_first,h,Int.zero_mul,Int.zero_add]
 refine sumTo_congr fun i _=>?_
 rw[sumTo_first,h,Int.mul_zero,Int.zero_add]
 rfl
theorem pd_red {n:Nat} {l:List Edge} (hin:∀ e∈l,e.f<n+1∧e.t<n+1) (hw:∀ e∈l,0<e.w) (hh:Hangs (n+1) l):PD n (red (lap l)):=by
 intro x ⟨i,hi,hx⟩
 have h1:=quad_red n (lap l) (fun i=>match i with | 0=>0 | i+1=>x i) rfl
 have e0:(fun i=>(fun i=>match i with | 0=>0 | i+1=>x i:Nat→Int) (i+1))=x:=rfl
 rw[e0] at h1
 rw[h1,quad_lap _ l hin]
 have h2:=sqs_nonneg (fun i=>match i with | 0=>0 | i+1=>x i:Nat→Int) l hw
 rcases Int.lt_or_eq_of_le h2 with h3 | h3
 ·exact h3
 exfalso
 have h4:=sqs_eq_zero _ l hw h3.symm
 have h5:=hh (fun p=>decide ((fun i=>match i with | 0=>0 | i+1=>x i:Nat→Int) p=0)) (by simp) (fun e he=>congrArg (fun v:Int=>decide (v=0)) (h4 e he)) (i+1) (by omega)
 exact hx (by simpa using h5)
def rhs:List Edge→Nat→Int
 | [],_=>0
 | e :: l,p=>e.w*e.d*(dl e.t p-dl e.f p)+rhs l p
def ab (x:Int):Int:=(x.natAbs:Int)
theorem sumTo_le {n:Nat} {f g:Nat→Int} (h:∀ i,i<n→f i≤g i):sumTo n f≤sumTo n g:=by
 induction n with
 | zero=>exact Int.le_refl 0
 | succ n ih =>
  have h1:=ih (fun i hi=>h i (by omega))
  have h2:=h n (by omega)
  show sumTo n f+f n≤sumTo n g+g n
  omega
theorem sum_dl_le (n a:Nat):sumTo n (dl a)≤1:=by
 by_cases h:a<n
 ·have h1:=sumTo_dl h (fun _=>1)
  have e:sumTo n (fun i=>dl a i*1)=sumTo n (dl a):=sumTo_congr fun j _=>Int.mul_one _
  rw[←e,h1]
  exact Int.le_refl 1
 have e:sumTo n (dl a)=sumTo n (fun _=>0):=sumTo_congr fun j hj=>by unfold dl;rw[if_neg (by omega)]
 rw[e,sumTo_zero]
 decide
theorem sum_dl2_le (n a b:Nat):sumTo n (fun j=>ab (dl a j-dl b j))≤2:=by
 have h:sumTo n (fun j=>ab (dl a j-dl b j))≤sumTo n (fun j=>dl a j+dl b j):=sumTo_le fun j _=>by
  unfold ab dl
  split <;> split <;> decide
 rw[sumTo_add] at h
 have h1:=sum_dl_le n a
 have h2:=sum_dl_le n b
 omega
def wSum:List Edge→Int
 | []=>0
 | e :: l=>e.w+wSum l
theorem wSum_le {W:Int}:∀ l:List Edge,(∀ e∈l,e.w≤W)→wSum l≤W*l.length
 | [],_=>by show (0:Int)≤W*0;rw[Int.mul_zero];exact Int.le_refl 0
 | e :: l,h=>by
  have ih:=wSum_le l (fun a ha=>h a (List.mem_cons_of_mem _ ha))
  have h1:=h e (List.mem_cons_self ..)
  show e.w+wSum l≤W*((l.length+1:Nat):Int)
  rw[Int.natCast_add,Int.mul_add]
  have:W*((1:Nat):Int)=W:=Int.mul_one W
  omega
theorem pd_minor {n:Nat} {A:Mat} (h:PD (n+1) A):PD n (minor A 0):=by
 intro x ⟨i,hi,hx⟩
 have h1:=h (fun i=>match i with | 0=>0 | i+1=>x i) ⟨i+1,by omega,hx⟩
 have e1:quad (n+1) A (fun i=>match i with | 0=>0 | i+1=>x i)=quad n (minor A 0) x:=by
  unfold quad
  rw[sumTo_first]
  show (0:Int)*_+sumTo n (fun i=>x i*sumTo (n+1) (fun j=>A (i+1) j*(match j with | 0=>0 | j+1=>x j)))=_
  rw[Int.zero_mul,Int.zero_add]
  refine sumTo_congr fun i hi=>?_
  rw[sumTo_first]
  show x i*(A (i+1) 0*0+sumTo n (fun j=>A (i+1) (j+1)*x j))=x i*sumTo n (fun j=>A (i+1) (skipI 0 j)*x j)
  rw[Int.mul_zero,Int.zero_add]
  rfl
 rw[e1] at h1
 exact h1
theorem quad_nonneg {n:Nat} {A:Mat} (h:PD n A) (x:Nat→Int):0≤quad n A x:=by
 by_cases hx:∃ i,i<n∧x i≠0
 ·exact Int.le_of_lt (h x hx)
 have e:quad n A x=sumTo n (fun _=>0):=by
  unfold quad
  refine sumTo_congr fun i hi=>?_
  have:x i=0:=by
   rcases Decidable.em (x i=0) with h1 | h1
   ·exact h1
   exact absurd ⟨i,hi,h1⟩ hx
  rw[this,Int.zero_mul]
 rw[e,sumTo_zero]
 exact Int.le_refl 0
def diag:Nat→Mat→Int
 | 0,_=>1
 | n+1,A=>A 0 0*diag n (minor A 0)
theorem det_border {n:Nat} (A:Mat) (hs:∀ i j,A i j=A j i):detN (n+1) A=A 0 0*detN n (minor A 0)-sumTo n (fun j=>A 0 (j+1)*detN n (colPut (minor A 0) j (fun i=>A 0 (i+1)))):=by
 have h1:detN (n+1) A=sumTo (n+1) (fun c=>sg c*A 0 c*detN n (minor A c)):=rfl
 rw[h1,sumTo_first]
 have e0:sg 0*A 0 0*detN n (minor A 0)=A 0 0*detN n (minor A 0):=by
  show (1:Int)*_*_=_
  rw[Int.one_mul]
 have e1:sumTo n (fun j=>sg (j+1)*A 0 (j+1)*detN n (minor A (j+1)))=sumTo n (fun j=>- (A 0 (j+1)*detN n (colPut (minor A 0) j (fun i=>A 0 (i+1))))):=sumTo_congr fun j hj=>by
  have e2:minor A (j+1)=onWay (minor A 0) j (fun i=>A 0 (i+1)) 0:=by
   funext i k
   show A (i+1) (skipI (j+1) k)=_
   unfold onWay minor skipI
   have:=hs 0 (i+1)
   grind
  have e3:=det_onWay n (minor A 0) (fun i=>A 0 (i+1)) hj j (Nat.le_refl j)
  rw[onWay_end] at e3
  have e5:=sg_sq j
  rw[e2,e3,sg_succ]
  grind
 rw[e0,e1,sumTo_neg]
 omega
theorem hadamard:∀ (n:Nat) (A:Mat),(∀ i j,A i j=A j i)→PD n A→(∀ i,0≤A i i)→detN n A≤diag n A
 | 0,_,_,_,_=>Int.le_refl 1
 | n+1,A,hs,h,hd=>by
  have hm:=pd_minor h
  have ih:=hadamard n (minor A 0) (fun i j=>hs (i+1) (j+1)) hm (fun i=>hd (i+1))
  have hp:=det_pos n (minor A 0) hm
  rw[det_border A hs]
  have e:quad n (minor A 0) (fun j=>detN n (colPut (minor A 0) j (fun i=>A 0 (i+1))))=detN n (minor A 0)*sumTo n (fun j=>A 0 (j+1)*detN n (colPut (minor A 0) j (fun i=>A 0 (i+1)))):=by
   unfold quad
   rw[←sumTo_mul]
   refine sumTo_congr fun p hp=>?_
   rw[cramer n (minor A 0) (fun i=>A 0 (i+1)) hp]
   grind
  have hq:=quad_nonneg hm (fun j=>detN n (colPut (minor A 0) j (fun i=>A 0 (i+1))))
  rw[e] at hq
  have h0:0≤sumTo n (fun j=>A 0 (j+1)*detN n (colPut (minor A 0) j (fun i=>A 0 (i+1)))):=by
   rcases Int.lt_or_le (sumTo n (fun j=>A 0 (j+1)*detN n (colPut (minor A 0) j (fun i=>A 0 (i+1))))) 0 with h2 | h2
   ·have:=Int.mul_neg_of_pos_of_neg hp h2
    omega
   exact h2
  have h3:=Int.mul_le_mul_of_nonneg_left ih (hd 0)
  show _≤A 0 0*diag n (minor A 0)
  omega
def prodL:List Int→Int
 | []=>1
 | x :: l=>x*prodL l
def sumL:List Int→Int
 | []=>0
 | x :: l=>x+sumL l
theorem prodL_perm {l m:List Int} (h:l.Perm m):prodL l=prodL m:=by
 induction h with
 | nil=>rfl
 | cons x _ ih=>unfold prodL;rw[ih]
 | swap x y l=>unfold prodL;unfold prodL;grind
 | trans _ _ h1 h2=>rw[h1,h2]
theorem sumL_perm {l m:List Int} (h:l.Perm m):sumL l=sumL m:=by
 induction h with
 | nil=>rfl
 | cons x _ ih=>unfold sumL;rw[ih]
 | swap x y l=>unfold sumL;unfold sumL;omega
 | trans _ _ h1 h2=>rw[h1,h2]
theorem prodL_nonneg:∀ l:List Int,(∀ x∈l,0≤x)→0≤prodL l
 | [],_=>by unfold prodL;omega
 | x :: l,h=>Int.mul_nonneg (h x (List.mem_cons_self ..)) (prodL_nonneg l (fun a ha=>h a (List.mem_cons_of_mem _ ha)))
theorem prodL_le {m:Int} (hm:0≤m):∀ l:List Int,(∀ x∈l,0≤x∧x≤m)→prodL l≤m ^ l.length
 | [],_=>by show (1:Int)≤m ^ 0;rw[Int.pow_zero];exact Int.le_refl 1
 | x :: l,h=>by
  have ih:=prodL_le hm l (fun a ha=>h a (List.mem_cons_of_mem _ ha))
  have hn:=prodL_nonneg l (fun a ha=>(h a (List.mem_cons_of_mem _ ha)).1)
  obtain⟨h0,h1⟩:=h x (List.mem_cons_self ..)
  show x*prodL l≤m ^ (l.length+1)
  rw[Int.pow_succ,Int.mul_comm]
  exact Int.mul_le_mul ih h1 h0 (Int.pow_nonneg hm)
theorem sumL_ge {m:Int}:∀ l:List Int,(∀ x∈l,m≤x)→m*l.length≤sumL l
 | [],_=>by show m*0≤0;rw[Int.mul_zero];exact Int.le_refl 0
 | x :: l,h=>by
  have ih:=sumL_ge l (fun a ha=>h a (List.mem_cons_of_mem _ ha))
  have h1:=h x (List.mem_cons_self ..)
  show m*((l.length+1:Nat):Int)≤x+sumL l
  rw[Int.natCast_add,Int.mul_add]
  have:m*((1:Nat):Int)=m:=Int.mul_one m
  omega
theorem mean_prod {m:Int} (hm:0≤m):∀ (n:Nat) (l:List Int),l.length=n→(∀ x∈l,0≤x)→sumL l≤m*n→prodL l≤m ^ n
 | 0,l,hl,_,_=>by
  obtain rfl:l=[]:=List.length_eq_zero_iff.mp hl
  show (1:Int)≤m ^ 0;rw[Int.pow_zero];exact Int.le_refl 1
 | n+1,l,hl,h0,hs=>by
  by_cases hb:∃ b,b∈l∧m<b
  ·obtain⟨b,hbl,hbm⟩:=hb
   have p1:=List.perm_cons_erase hbl
   have len1:(l.erase b).length=n:=by rw[List.length_erase_of_mem hbl];omega
   rw[prodL_perm p1]
   rw[sumL_perm p1] at hs
   have h1:∀ x∈l.erase b,0≤x:=fun x hx=>h0 x (List.mem_of_mem_erase hx)
   generalize l.erase b=l1 at *
   have hs1:b+sumL l1≤m*((n+1:Nat):Int):=hs
   have hn1:m*((n+1:Nat):Int)=m*(n:Int)+m:=by rw[Int.natCast_add,Int.mul_add];simp
   rw[hn1] at hs1
   have ha:∃ a,a∈l1∧a<m:=by
    rcases Decidable.em (∃ a,a∈l1∧a<m) with h | h
    ·exact h
    exfalso
    have h2:=sumL_ge (m:=m) l1 (fun x hx=>by
     rcases Int.lt_or_le x m with h3 | h3
     ·exact absurd ⟨x,hx,h3⟩ h
     exact h3)
    rw[len1] at h2
    omega
   obtain⟨a,hal,ham⟩:=ha
   have p2:=List.perm_cons_erase hal
   have len2:(l1.erase a).length=n-1:=by rw[List.length_erase_of_mem hal];omega
   have hpos:0<l1.length:=List.length_pos_of_mem hal
   have h2:∀ x∈l1.erase a,0≤x:=fun x hx=>h1 x (List.mem_of_mem_erase hx)
   have ha0:=h1 a hal
   show b*prodL l1≤m ^ (n+1)
   rw[prodL_perm p2]
   rw[sumL_perm p2] at hs1
   generalize l1.erase a=l2' at *
   have hs2:b+(a+sumL l2')≤m*(n:Int)+m:=hs1
   have ih:=mean_prod hm n ((a+b-m) :: l2') (by simp only[List.length_cons];omega) (fun x hx=>by
    rcases List.mem_cons.mp hx with rfl | hx
    ·omega
    exact h2 x hx) (by show a+b-m+sumL l2'≤m*n;omega)
   have hn:=prodL_nonneg l2' h2
   show b*(a*prodL l2')≤m ^ (n+1)
   have h3:(a+b-m)*prodL l2'≤m ^ n:=ih
   have h4:=Int.mul_le_mul_of_nonneg_right h3 hm
   have h5:0≤(m-a)*(b-m):=Int.mul_nonneg (by omega) (by omega)
   have h6:=Int.mul_nonneg h5 hn
   rw[Int.pow_succ]
   have e:(a+b-m)*prodL l2'*m=b*(a*prodL l2')+(m-a)*(b-m)*prodL l2':=by grind
   omega
  have h1:=prodL_le hm l (fun x hx=>⟨h0 x hx,by
   rcases Int.lt_or_le m x with h2 | h2
   ·exact absurd ⟨x,hx,h2⟩ hb
   exact h2⟩)
  rw[hl] at h1
  exact h1
def line:Nat→Mat→List Int
 | 0,_=>[]
 | n+1,A=>A 0 0 :: line n (minor A 0)
theorem diag_line:∀ (n:Nat) (A:Mat),diag n A=prodL (line n A)
 | 0,_=>rfl
 | n+1,A=>by
  show A 0 0*diag n (minor A 0)=A 0 0*prodL (line n (minor A 0))
  rw[diag_line n (minor A 0)]
theorem line_length:∀ (n:Nat) (A:Mat),(line n A).length=n
 | 0,_=>rfl
 | n+1,A=>by show (line n (minor A 0)).length+1=n+1;rw[line_length n]
theorem line_nonneg:∀ (n:Nat) (A:Mat),(∀ i,0≤A i i)→∀ x∈line n A,0≤x
 | 0,_,_=>fun x hx=>by cases hx
 | n+1,A,h=>fun x hx=>by
  rcases List.mem_cons.mp hx with rfl | hx
  ·exact h 0
  exact line_nonneg n (minor A 0) (fun i=>h (i+1)) x hx
theorem sumL_line:∀ (n:Nat) (A:Mat),sumL (line n A)=sumTo n (fun i=>A i i)
 | 0,_=>rfl
 | n+1,A=>by
  show A 0 0+sumL (line n (minor A 0))=_
  rw[sumL_line n (minor A 0),sumTo_first]
  rfl
theorem lap_sym:∀ (l:List Edge) (i j:Nat),lap l i j=lap l j i
 | [],_,_=>rfl
 | e :: l,i,j=>by
  show _+lap l i j=_+lap l j i
  rw[lap_sym l i j]
  grind
theorem lap_diag_nonneg:∀ (l:List Edge) (i:Nat),(∀ e∈l,0<e.w)→0≤lap l i i
 | [],_,_=>Int.le_refl 0
 | e :: l,i,h=>by
  have ih:=lap_diag_nonneg l i (fun a ha=>h a (List.mem_cons_of_mem _ ha))
  have hw:=h e (List.mem_cons_self ..)
  show 0≤e.w*(dl e.f i-dl e.t i)*(dl e.f i-dl e.t i)+lap l i i
  unfold dl
  split <;> split <;> omega
theorem lap_trace (n:Nat):∀ l:List Edge,(∀ e∈l,0<e.w)→sumTo n (fun i=>lap l i i)≤2*wSum l
 | [],_=>by
  show sumTo n (fun _=>0)≤0
  rw[sumTo_zero];exact Int.le_refl 0
 | e :: l,h=>by
  have ih:=lap_trace n l (fun a ha=>h a (List.mem_cons_of_mem _ ha))
  have hw:=h e (List.mem_cons_self ..)
  have h1:sumTo n (fun i=>lap (e :: l) i i)≤sumTo n (fun i=>e.w*ab (dl e.f i-dl e.t i)+lap l i i):=sumTo_le fun i _=>by
   show e.w*(dl e.f i-dl e.t i)*(dl e.f i-dl e.t i)+lap l i i≤e.w*ab (dl e.f i-dl e.t i)+lap l i i
   unfold dl
   split <;> split <;> simp[ab] <;> omega
  refine Int.le_trans h1 ?_
  rw[sumTo_add,sumTo_mul]
  have h6:=Int.mul_le_mul_of_nonneg_left (sum_dl2_le n e.f e.t) (Int.le_of_lt hw)
  show _≤2*(e.w+wSum l)
  omega
theorem net_det_le {n:Nat} {l:List Edge} (hn:n≤5) (hl:l.length≤20) (hin:∀ e∈l,e.f<n+1∧e.t<n+1) (h:∀ e∈l,1≤e.w∧e.w≤10) (hh:Hangs (n+1) l) :
  0<detN n (red (lap l))∧detN n (red (lap l))≤4000000000:=by
 have hw:∀ e∈l,0<e.w:=fun e he=>by have:=(h e he).1;omega
 have hp:=pd_red hin hw hh
 refine⟨det_pos n _ hp,?_⟩
 have h1:=hadamard n (red (lap l)) (fun i j=>lap_sym l (i+1) (j+1)) hp (fun i=>lap_diag_nonneg l (i+1) hw)
 rw[diag_line] at h1
 refine Int.le_trans h1 ?_
 have ht:sumL (line n (red (lap l)))≤400:=by
  rw[sumL_line]
  have h2:=lap_trace (n+1) l hw
  rw[sumTo_first] at h2
  have h3:=lap_diag_nonneg l 0 hw
  have h4:=wSum_le (W:=10) l (fun e he=>(h e he).2)
  show sumTo n (fun i=>lap l (i+1) (i+1))≤400
  omega
 have hnn:=line_nonneg n (red (lap l)) (fun i=>lap_diag_nonneg l (i+1) hw)
 have:n=0∨n=1∨n=2∨n=3∨n=4∨n=5:=by omega
 rcases this with rfl | rfl | rfl | rfl | rfl | rfl
 ·exact Int.le_trans (mean_prod (m:=80) (by decide) 0 _ (line_length _ _) hnn (by show (0:Int)≤_;decide)) (by decide)
 ·exact Int.le_trans (mean_prod (m:=400) (by decide) 1 _ (line_length _ _) hnn (by omega)) (by decide)
 ·exact Int.le_trans (mean_prod (m:=200) (by decide) 2 _ (line_length _ _) hnn (by omega)) (by decide)
 ·exact Int.le_trans (mean_prod (m:=134) (by decide) 3 _ (line_length _ _) hnn (by omega)) (by decide)
 ·exact Int.le_trans (mean_prod (m:=100) (by decide) 4 _ (line_length _ _) hnn (by omega)) (by decide)
 exact Int.le_trans (mean_prod (m:=80) (by decide) 5 _ (line_length _ _) hnn (by omega)) (by decide)
end Go.Proofs.YtoojdkaimhlcbaaGreat.Cal
namespace Go.Proofs.YtoojdkaimhlcbaaGreat.Cal
def stepE (S:Nat→Bool) (e:Edge):Nat→Bool:=if S e.f || S e.t then fun p=>decide (p=e.f) || decide (p=e.t) || S p else S
def sweep1 (l:List Edge) (S:Nat→Bool):Nat→Bool:=l.foldl stepE S
def sweeps (l:List Edge):Nat→(Nat→Bool)→Nat→Bool
 | 0,S=>S
 | n+1,S=>sweeps l n (sweep1 l S)
def only0:Nat→Bool:=fun p=>decide (p=0)
theorem stepE_sub {S T:Nat→Bool} {e:Edge} (h:∀ p,S p=true→T p=true) (hT:T e.f=T e.t):∀ p,stepE S e p=true→T p=true:=by
 intro p hp
 unfold stepE at hp
 by_cases a:(S e.f || S e.t)=true
 ·rw[if_pos a] at hp
  have hft:T e.f=true∧T e.t=true:=by
   rcases Bool.or_eq_true _ _ ▸ a with b | b
   ·exact⟨h _ b,hT ▸ h _ b⟩
   exact⟨hT ▸ h _ b,h _ b⟩
  simp only[Bool.or_eq_true,decide_eq_true_eq] at hp
  rcases hp with (rfl | rfl) | hp
  ·exact hft.1
  ·exact hft.2
  exact h p hp
 rw[if_neg a] at hp
 exact h p hp
theorem sweep1_sub {T:Nat→Bool}:∀ (l:List Edge) (S:Nat→Bool),(∀ e∈l,T e.f=T e.t)→(∀ p,S p=true→T p=true)→∀ p,sweep1 l S p=true→T p=true
 | [],_,_,h=>h
 | e :: l,S,hT,h=>sweep1_sub l (stepE S e) (fun a ha=>hT a (List.mem_cons_of_mem _ ha)) (stepE_sub h (hT e (List.mem_cons_self ..)))
theorem sweeps_sub {T:Nat→Bool} (l:List Edge) (hT:∀ e∈l,T e.f=T e.t):∀ (n:Nat) (S:Nat→Bool),(∀ p,S p=true→T p=true)→∀ p,sweeps l n S p=true→T p=true
 | 0,_,h=>h
 | n+1,S,h=>sweeps_sub l hT n (sweep1 l S) (sweep1_sub l S hT h)
theorem hangs_of_sweeps {n m:Nat} {l:List Edge} (h:∀ p,p<n→sweeps l m only0 p=true):Hangs n l:=fun T h0 hT p hp =>
 sweeps_sub l hT m only0 (fun q hq=>by
  have:q=0:=by simpa [only0] using hq
  rw[this];exact h0) p (h p hp)
def Codes (n c:Nat) (S:Nat→Bool):Prop:=c<2 ^ n∧∀ p,p<n→c.testBit p=S p
theorem codes_only0 {n:Nat} (h:1≤n):Codes n 1 only0:=by
 refine⟨?_,fun p _=>?_⟩
 ·calc 1<2 ^ 1:=by decide
   _≤2 ^ n:=Nat.pow_le_pow_right (by decide) h
 cases p with
 | zero=>decide
 | succ q=>simp[only0,Nat.testBit_succ]
theorem code_hit:∀ (c:Fin 64) (f t:Fin 6),(c.val &&& (2 ^ f.val ||| 2 ^ t.val)=0)↔(c.val.testBit f.val || c.val.testBit t.val)=false:=by decide +kernel
theorem code_full:∀ (n:Fin 7) (c:Fin 64),c.val<2 ^ n.val→(c.val=2 ^ n.val-1↔∀ p:Fin 6,p.val<n.val→c.val.testBit p.val=true):=by decide +kernel
theorem pow_le6 {n:Nat} (h:n≤6):2 ^ n≤64:=by
 have:=Nat.pow_le_pow_right (n:=2) (by decide) h
 simpa using this
theorem Codes.hit {n c:Nat} {S:Nat→Bool} (h:Codes n c S) (hn:n≤6) {f t:Nat} (hf:f<n) (ht:t<n):(c &&& (2 ^ f ||| 2 ^ t)=0)↔(S f || S t)=false:=by
 have:=code_hit ⟨c,Nat.lt_of_lt_of_le h.1 (pow_le6 hn)⟩ ⟨f,by omega⟩ ⟨t,by omega⟩
 rw[←h.2 f hf,←h.2 t ht]
 exact this
theorem two_pow_lt {f n:Nat} (h:f<n):2 ^ f<2 ^ n:=Nat.pow_lt_pow_right (by decide) h
theorem Codes.step {n c:Nat} {S:Nat→Bool} (h:Codes n c S) (e:Edge) (hf:e.f<n) (ht:e.t<n) (hs:(S e.f || S e.t)=true):Codes n (c ||| (2 ^ e.f ||| 2 ^ e.t)) (stepE S e):=by
 refine⟨Nat.or_lt_two_pow h.1 (Nat.or_lt_two_pow (two_pow_lt hf) (two_pow_lt ht)),fun p hp=>?_⟩
 unfold stepE
 rw[if_pos hs,Nat.testBit_or,Nat.testBit_or,Nat.testBit_two_pow,Nat.testBit_two_pow,h.2 p hp]
 have a1:decide (e.f=p)=decide (p=e.f):=by congr 1;exact propext eq_comm
 have a2:decide (e.t=p)=decide (p=e.t):=by congr 1;exact propext eq_comm
 rw[a1,a2,Bool.or_comm]
theorem Codes.stay {n c:Nat} {S:Nat→Bool} (h:Codes n c S) (e:Edge) (hs:(S e.f || S e.t)=false):Codes n c (stepE S e):=by
 unfold stepE
 rw[if_neg (by rw[hs];decide)]
 exact h
theorem Codes.full {n c:Nat} {S:Nat→Bool} (h:Codes n c S) (hn:n≤6):c=2 ^ n-1↔∀ p,p<n→S p=true:=by
 have:=code_full ⟨n,by omega⟩ ⟨c,Nat.lt_of_lt_of_le h.1 (pow_le6 hn)⟩ h.1
 refine this.trans ⟨fun g p hp=>by rw[←h.2 p hp];exact g ⟨p,by omega⟩ hp,fun g p hp=>by rw[h.2 p.val hp];exact g p.val hp⟩
end Go.Proofs.YtoojdkaimhlcbaaGreat.Cal
namespace Go.Proofs.YtoojdkaimhlcbaaGreat.Cal
theorem gcd_step (a b:Int):Int.gcd b (a.tmod b)=Int.gcd a b:=by
 unfold Int.gcd
 rw[Int.natAbs_tmod,Nat.gcd_comm b.natAbs,←Nat.gcd_rec,Nat.gcd_comm]
theorem gcd_end (a:Int):Int.gcd a 0=a.natAbs:=by
 unfold Int.gcd;simp
theorem step_less {a b:Int} (hb:b≠0):(a.tmod b).natAbs<b.natAbs:=by
 rw[Int.natAbs_tmod]
 exact Nat.mod_lt _ (by omega)
theorem gcd_pos {a b:Int} (hb:0<b):0<Int.gcd a b:=by
 rw[Int.gcd_pos_iff];right;omega
def lowN (a b:Int):Int:=a.tdiv (Int.gcd a b)
def lowD (a b:Int):Int:=b.tdiv (Int.gcd a b)
end Go.Proofs.YtoojdkaimhlcbaaGreat.Cal
namespace Go.Proofs.YtoojdkaimhlcbaaGreat
open Go Go.RowKit Go.Shelf
structure Lev where
 f:Int
 t:Int
 d:Int
 w:Int
def Lev.cells (x:Lev):List Value:=[.int .i64 x.f,.int .i64 x.t,.int .i64 x.d,.int .i64 x.w]
structure Levs (w:World) (A:Option Addr) (l:List Lev):Prop where
 rows:RowsAt w A 4 (l.map Lev.cells)
 size:l.length≤1000000
theorem Levs.below {w w':World} {A:Option Addr} {l:List Lev} (h:Levs w A l) (hb:Below w.heap.size w w'):Levs w' A l:=⟨h.rows.below hb,h.size⟩
theorem lev_at {w:World} {A:Option Addr} {l:List Lev} (h:RowsAt w A 4 (l.map Lev.cells)) {k:Nat} {x:Lev} (hk:l[k]?=some x) :
  ∃ b o,A=some ⟨b,o,none⟩∧b<w.heap.size∧w.cell? ⟨b,o+k*4,none⟩=some (.int .i64 x.f)∧w.cell? ⟨b,o+k*4+1,none⟩=some (.int .i64 x.t)∧w.cell? ⟨b,o+k*4+2,none⟩=some (.int .i64 x.d)∧w.cell? ⟨b,o+k*4+3,none⟩=some (.int .i64 x.w):=by
 obtain⟨b,o,hA,hlt,hc⟩:=h k x.cells (by simp[hk])
 exact⟨b,o,hA,hlt,hc 0 _ rfl,hc 1 _ rfl,hc 2 _ rfl,hc 3 _ rfl⟩
def inN (p n:Int):Bool:=decide (0≤p∧p<n)
theorem isN_any (p n:Int) (B:Nat) (w:World) (h:w.cell? ⟨B,0,none⟩=some (.int .i64 n)):Calls Tryz.prog 54 #[.int .i64 p,.pointer (some ⟨B,0,none⟩)] w fun e w'=>e=.returned (.bool (inN p n))∧w=w':=by
 by_cases h0:0≤p
 ·by_cases h1:p<n
  ·have hf:Hid (inN p n=true):=decide_eq_true ⟨h0,h1⟩
   go_enter Tryz.func54,Tryz.ntmps54
   go_wp2
   go_ret
   exact⟨by rw[hf.out];rfl,rfl⟩
  have hf:Hid (inN p n=false):=decide_eq_false (by omega)
  go_enter Tryz.func54,Tryz.ntmps54
  go_wp2
  go_ret
  exact⟨by rw[hf.out];rfl,rfl⟩
 have hf:Hid (inN p n=false):=decide_eq_false (by omega)
 have h0:p<0:=by omega
 go_enter Tryz.func54,Tryz.ntmps54
 go_wp2
 go_ret
 exact⟨by rw[hf.out];rfl,rfl⟩
namespace Cal
def levE (n:Int) (x:Lev):Int:=if inN x.f n=true∧inN x.t n=true then (if x.f=x.t then 3 else if x.d < -100000∨100000<x.d∨x.w<1∨10<x.w then 2 else 0) else 6
def levsE (n:Int):List Lev→Int
 | []=>0
 | x :: r=>if levE n x=0 then levsE n r else levE n x
theorem levsE_drop {n:Int} {l:List Lev} {k:Nat} (h:k<l.length):levsE n (l.drop k)=if levE n l[k]=0 then levsE n (l.drop (k+1)) else levE n l[k]:=by
 rw[List.drop_eq_getElem_cons h];rfl
theorem levsE_zero {n:Int}:∀ {l:List Lev},levsE n l=0→∀ x∈l,levE n x=0
 | [],_,x,hx=>by cases hx
 | y :: r,h,x,hx=>by
  unfold levsE at h
  split at h
  ·rename_i h0
   rcases List.mem_cons.1 hx with e | hx
   ·rw[e];exact h0
   exact levsE_zero h x hx
  rename_i h0;exact absurd h h0
theorem levE_zero {n:Int} {x:Lev} (h:levE n x=0):(0≤x.f∧x.f<n)∧(0≤x.t∧x.t<n)∧x.f≠x.t∧-100000≤x.d∧x.d≤100000∧1≤x.w∧x.w≤10:=by
 unfold levE inN at h
 split at h
 ·rename_i h1
  simp only[decide_eq_true_eq] at h1
  split at h
  ·cases h
  split at h
  ·cases h
  exact⟨h1.1,h1.2,by assumption,by omega⟩
 cases h
def edge (x:Lev):Edge:=⟨x.f.toNat,x.t.toNat,x.d,x.w⟩
def swept (N:Nat) (l:List Lev):Nat→Bool:=sweeps (l.map edge) N only0
def netE (n:Int) (l:List Lev):Int :=
 if n<1∨6<n then 2 else if 20<l.length then 8 else if levsE n l=0 then (if (List.range n.toNat).all (swept n.toNat l)=true then 0 else 29) else levsE n l
theorem sweeps_succ (l:List Edge):∀ (n:Nat) (S:Nat→Bool),sweeps l (n+1) S=sweep1 l (sweeps l n S)
 | 0,_=>rfl
 | n+1,S=>by
  show sweeps l (n+1) (sweep1 l S)=sweep1 l (sweeps l n (sweep1 l S))
  exact sweeps_succ l n (sweep1 l S)
theorem sweep1_take {l:List Edge} {k:Nat} (h:k<l.length) (S:Nat→Bool):sweep1 (l.take (k+1)) S=stepE (sweep1 (l.take k) S) l[k]:=by
 unfold sweep1
 rw[List.take_succ_eq_append_getElem h,List.foldl_append]
 rfl
end Cal
theorem bits_or6:∀ a b:Fin 64,bits .or .i64 (a.val:Int) (b.val:Int)=((a.val ||| b.val:Nat):Int):=by decide +kernel
theorem bits_and6:∀ a b:Fin 64,bits .and .i64 (a.val:Int) (b.val:Int)=((a.val &&& b.val:Nat):Int):=by decide +kernel
end Go.Proofs.YtoojdkaimhlcbaaGreat
namespace Go.Proofs.YtoojdkaimhlcbaaGreat
open Go Go.RowKit Go.Shelf
structure CnI (w:World) (n:Int) (W:World):Prop where
 a:W.cell? ⟨w.heap.size,0,none⟩=some (.int .i64 n)
 bel:Below w.heap.size w W
 lt:w.heap.size<W.heap.size
theorem CnI.below {w:World} {n:Int} {X Y:World} (h:CnI w n X) (hb:Below X.heap.size X Y):CnI w n Y:=⟨(hb.cell (p:=⟨w.heap.size,0,none⟩) h.lt).trans h.a,below_step h.bel hb,Nat.lt_of_lt_of_le h.lt hb.size⟩
theorem levE_cases (n:Int) (x:Lev):(inN x.f n=false∧Cal.levE n x=6)∨(inN x.f n=true∧inN x.t n=false∧Cal.levE n x=6)∨(inN x.f n=true∧inN x.t n=true∧x.f=x.t∧Cal.levE n x=3) ∨
  (inN x.f n=true∧inN x.t n=true∧x.f≠x.t∧Cal.levE n x=2∧(x.d < -100000∨(¬x.d < -100000∧100000<x.d)∨(¬x.d < -100000∧¬100000<x.d∧x.w<1)∨(¬x.d < -100000∧¬100000<x.d∧¬x.w<1∧10<x.w))) ∨
  (inN x.f n=true∧inN x.t n=true∧x.f≠x.t∧Cal.levE n x=0∧¬x.d < -100000∧¬100000<x.d∧¬x.w<1∧¬10<x.w):=by
 unfold Cal.levE
 cases inN x.f n
 ·exact .inl ⟨rfl,rfl⟩
 cases inN x.t n
 ·exact .inr (.inl ⟨rfl,rfl,rfl⟩)
 by_cases h:x.f=x.t
 ·exact .inr (.inr (.inl ⟨rfl,rfl,h,by rw[if_pos ⟨rfl,rfl⟩,if_pos h]⟩))
 by_cases g:x.d < -100000∨100000<x.d∨x.w<1∨10<x.w
 ·exact .inr (.inr (.inr (.inl ⟨rfl,rfl,h,by rw[if_pos ⟨rfl,rfl⟩,if_neg h,if_pos g],by omega⟩)))
 exact .inr (.inr (.inr (.inr ⟨rfl,rfl,h,by rw[if_pos ⟨rfl,rfl⟩,if_neg h,if_neg g],by omega,by omega,by omega,by omega⟩)))
theorem wrap_pow {N:Nat} (h:N≤6):IntKind.i64.wrap ((2:Int) ^ N)=((2 ^ N:Nat):Int):=by
 have:N=0∨N=1∨N=2∨N=3∨N=4∨N=5∨N=6:=by omega
 rcases this with rfl | rfl | rfl | rfl | rfl | rfl | rfl <;> decide
theorem wrap_pow1 {N:Nat} (h:N≤6):IntKind.i64.wrap (((2 ^ N:Nat):Int)-1)=((2 ^ N-1:Nat):Int):=by
 have:N=0∨N=1∨N=2∨N=3∨N=4∨N=5∨N=6:=by omega
 rcases this with rfl | rfl | rfl | rfl | rfl | rfl | rfl <;> decide
theorem CheckNet_any (n:Int) (A:Option Addr) (c:Nat) (l:List Lev) (w:World) (hL:Levs w A l) :
  Calls Tryz.prog 35 #[.int .i64 n,.slice A l.length c] w fun e w'=>e=.returned (.int .i64 (Cal.netE n l))∧Below w.heap.size w w':=by
 have hI:Hid (CnI w n (w.alloc (.cells #[.int .i64 n] 3))):=⟨by simp,below_alloc _ _,by simp⟩
 have hsz:=hL.size
 obtain⟨R,hRR⟩:∃ R,Cal.netE n l=R:=⟨_,rfl⟩
 rw[hRR]
 by_cases hn:n<1∨6<n
 ·have hR:Hid (R=2):=by show _=_;rw[←hRR];unfold Cal.netE;rw[if_pos hn]
  clear hRR
  rcases hn with hn | hn
  ·go_enter Tryz.func35,Tryz.ntmps35
   go_wp2_with fail
   go_ret
   exact⟨ret_int hR.out.symm,hI.out.bel⟩
  have hn1:¬n<1:=by omega
  go_enter Tryz.func35,Tryz.ntmps35
  go_wp2_with fail
  go_ret
  exact⟨ret_int hR.out.symm,hI.out.bel⟩
 have hn1:¬n<1:=by omega
 have hn2:¬6<n:=by omega
 by_cases hl:20<l.length
 ·have hR:Hid (R=8):=by show _=_;rw[←hRR];unfold Cal.netE;rw[if_neg hn,if_pos hl]
  have hl1:20<(l.length:Int):=by omega
  clear hRR hn
  go_enter Tryz.func35,Tryz.ntmps35
  go_wp2_with fail
  go_ret
  exact⟨ret_int hR.out.symm,hI.out.bel⟩
 have hR:Hid (R=if Cal.levsE n (l.drop 0)=0 then (if (List.range n.toNat).all (Cal.swept n.toNat l)=true then 0 else 29) else Cal.levsE n (l.drop 0)):=by show _=_;rw[←hRR];unfold Cal.netE;rw[if_neg hn,if_neg hl];rfl
 have hE0:Hid (Cal.levsE n l=Cal.levsE n (l.drop 0)):=rfl
 have hl1:¬20<(l.length:Int):=by omega
 replace hL:=Lib.hid hL
 clear hRR hn
 go_enter Tryz.func35,Tryz.ntmps35
 go_wp2_with fail
 go_loopw [25] (fun i wr=>∃ k:Nat,k≤l.length∧i=.int .i64 k∧Hid (Cal.levsE n l=Cal.levsE n (l.drop k))∧Hid (CnI w n wr)) (fun i _=>l.length-(intOf i).toNat)
 case atStart=>exact⟨0,Nat.zero_le _,rfl,hE0,hI⟩
 case round =>
  clear hE0 hI
  obtain⟨k,hk,rfl,hE,hI⟩:=hrel
  by_cases hlt:k<l.length
  ·have hk':l[k]?=some l[k]:=List.getElem?_eq_getElem hlt
   have hd:=Cal.levsE_drop (n:=n) hlt
   have hcs:=levE_cases n l[k]
   generalize l[k]=x at *
   obtain⟨b,o,rfl,hbl,c0,c1,c2,c3⟩:=lev_at (hL.out.below hI.out.bel).rows hk'
   have lt0:=hI.out.lt
   have n0:=((below_alloc wr (.cells #[.int .i64 x.f,.int .i64 x.t,.int .i64 x.d,.int .i64 x.w] 86)).cell (p:=⟨w.heap.size,0,none⟩) lt0).trans hI.out.a
   have hI2:=Lib.hid (hI.out.below (below_alloc wr (.cells #[.int .i64 x.f,.int .i64 x.t,.int .i64 x.d,.int .i64 x.w] 86)))
   have m1:Hid True:=trivial
   clear hk'
   obtain⟨f,t,d,wt⟩:=x
   dsimp only at *
   have hRk:Hid (∀ v,v≠0→Cal.levE n ⟨f,t,d,wt⟩=v→R=v):=fun v hv hz=>by
    rw[hz,if_neg hv] at hd
    rw[hR.out,show Cal.levsE n (l.drop 0)=v from hE.out.trans hd,if_neg hv]
   have hE2:Hid (Cal.levE n ⟨f,t,d,wt⟩=0→Cal.levsE n l=Cal.levsE n (l.drop (k+1))):=fun hz=>by
    rw[hz,if_pos rfl] at hd
    exact hE.out.trans hd
   clear hd hE hI hR
   rcases hcs with ⟨h1,hz⟩ | ⟨h1,h2,hz⟩ | ⟨h1,h2,h3,hz⟩ | ⟨h1,h2,h3,hz,h4⟩ | ⟨h1,h2,h3,hz,h4,h5,h6,h7⟩
   ·have hR:=Lib.hid (hRk.out _ (by decide) hz)
    replace h1:=Lib.hid h1
    clear hz hE2 hRk
    go_wp2_with (first
     |(go_at_call 54;clear m1;refine (isN_any f n _ _ (by first | exact n0 | simpa using n0)).mono ?_;rintro e0 wn ⟨rfl,rfl⟩;rw[h1.out])
     |(go_at_call 54;refine (isN_any _ n _ _ (by first | exact n0 | simpa using n0)).mono ?_;rintro e0 wn ⟨rfl,rfl⟩;rw[h2.out]))
    go_ret
    exact⟨ret_int hR.out.symm,hI2.out.bel⟩
   ·have hR:=Lib.hid (hRk.out _ (by decide) hz)
    replace h1:=Lib.hid h1
    replace h2:=Lib.hid h2
    clear hz hE2 hRk
    go_wp2_with (first
     |(go_at_call 54;clear m1;refine (isN_any f n _ _ (by first | exact n0 | simpa using n0)).mono ?_;rintro e0 wn ⟨rfl,rfl⟩;rw[h1.out])
     |(go_at_call 54;refine (isN_any _ n _ _ (by first | exact n0 | simpa using n0)).mono ?_;rintro e0 wn ⟨rfl,rfl⟩;rw[h2.out]))
    go_ret
    exact⟨ret_int hR.out.symm,hI2.out.bel⟩
   ·have hR:=Lib.hid (hRk.out _ (by decide) hz)
    replace h1:=Lib.hid h1
    replace h2:=Lib.hid h2
    clear hz hE2 hRk
    subst h3
    go_wp2_with (first
     |(go_at_call 54;clear m1;refine (isN_any f n _ _ (by first | exact n0 | simpa using n0)).mono ?_;rintro e0 wn ⟨rfl,rfl⟩;rw[h1.out])
     |(go_at_call 54;refine (isN_any _ n _ _ (by first | exact n0 | simpa using n0)).mono ?_;rintro e0 wn ⟨rfl,rfl⟩;rw[h2.out]))
    go_ret
    exact⟨ret_int hR.out.symm,hI2.out.bel⟩
   ·have hR:=Lib.hid (hRk.out _ (by decide) hz)
    replace h1:=Lib.hid h1
    replace h2:=Lib.hid h2
    clear hz hE2 hRk
    rcases h4 with h4 | ⟨h4,h5⟩ | ⟨h4,h5,h6⟩ | ⟨h4,h5,h6,h7⟩
    ·go_wp2_with (first
      |(go_at_call 54;clear m1;refine (isN_any f n _ _ (by first | exact n0 | simpa using n0)).mono ?_;rintro e0 wn ⟨rfl,rfl⟩;rw[h1.out])
      |(go_at_call 54;refine (isN_any _ n _ _ (by first | exact n0 | simpa using n0)).mono ?_;rintro e0 wn ⟨rfl,rfl⟩;rw[h2.out]))
     go_ret
     exact⟨ret_int hR.out.symm,hI2.out.bel⟩
    ·go_wp2_with (first
      |(go_at_call 54;clear m1;refine (isN_any f n _ _ (by first | exact n0 | simpa using n0)).mono ?_;rintro e0 wn ⟨rfl,rfl⟩;rw[h1.out])
      |(go_at_call 54;refine (isN_any _ n _ _ (by first | exact n0 | simpa using n0)).mono ?_;rintro e0 wn ⟨rfl,rfl⟩;rw[h2.out]))
     go_ret
     exact⟨ret_int hR.out.symm,hI2.out.bel⟩
    ·go_wp2_with (first
      |(go_at_call 54;clear m1;refine (isN_any f n _ _ (by first | exact n0 | simpa using n0)).mono ?_;rintro e0 wn ⟨rfl,rfl⟩;rw[h1.out])
      |(go_at_call 54;refine (isN_any _ n _ _ (by first | exact n0 | simpa using n0)).mono ?_;rintro e0 wn ⟨rfl,rfl⟩;rw[h2.out]))
     go_ret
     exact⟨ret_int hR.out.symm,hI2.out.bel⟩
    go_wp2_with (first
     |(go_at_call 54;clear m1;refine (isN_any f n _ _ (by first | exact n0 | simpa using n0)).mono ?_;rintro e0 wn ⟨rfl,rfl⟩;rw[h1.out])
     |(go_at_call 54;refine (isN_any _ n _ _ (by first | exact n0 | simpa using n0)).mono ?_;rintro e0 wn ⟨rfl,rfl⟩;rw[h2.out]))
    go_ret
    exact⟨ret_int hR.out.symm,hI2.out.bel⟩
   replace hE2:=Lib.hid (hE2.out hz)
   replace h1:=Lib.hid h1
   replace h2:=Lib.hid h2
   clear hz hRk
   go_wp2_with (first
    |(go_at_call 54;clear m1;refine (isN_any f n _ _ (by first | exact n0 | simpa using n0)).mono ?_;rintro e0 wn ⟨rfl,rfl⟩;rw[h1.out])
    |(go_at_call 54;refine (isN_any _ n _ _ (by first | exact n0 | simpa using n0)).mono ?_;rintro e0 wn ⟨rfl,rfl⟩;rw[h2.out]))
   go_roundw
   case rel=>exact⟨k+1,by omega,by go_num,hE2,hI2⟩
   case measure=>simp[intOf];omega
  obtain rfl:k=l.length:=by omega
  have hz:Cal.levsE n l=0:=by rw[hE.out,List.drop_length];rfl
  have hval:=Lib.hid (Cal.levsE_zero hz)
  replace hR:Hid (R=if (List.range n.toNat).all (Cal.swept n.toNat l)=true then 0 else 29):=by show _=_;rw[hR.out];exact if_pos hz
  clear hz hE
  obtain⟨N,rfl⟩:∃ N:Nat,n=(N:Int):=⟨n.toNat,by omega⟩
  rw[Int.toNat_natCast] at hR
  have hN1:1≤N:=by omega
  have hN6:N≤6:=by omega
  have lt0:=hI.out.lt
  have n0:=hI.out.a
  have p1:=Lib.hid (wrap_pow hN6)
  have p2:=Lib.hid (wrap_pow1 hN6)
  have hc0:Hid (Cal.Codes N 1 (Cal.sweeps (l.map Cal.edge) 0 Cal.only0)):=Cal.codes_only0 hN1
  clear hn1 hn2
  go_wp2_with fail
  refine wp_region_held_drew (S:=Sx wr [(w.heap.size,0,.int .i64 (N:Int))]) (by kernel_rfl) (Sx.mk (by simp only[cs_iff_cons];exact⟨n0,cs_nil _⟩) (Below.refl _ _)).drew (fun hHeld=>?_)
  refine tkHx 0 68 ?_
  refine tkHx 1 69 ?_
  refine tkHx 2 70 ?_
  refine tkHx 3 8 ?_
  refine tkHx 4 9 ?_
  refine wpAnyH_done (by kernel_rfl) ?_ _
  simp only[p1.out,p2.out]
  replace hI:=Lib.hid (hI.out.below hHeld.bel)
  clear hHeld n0 lt0 p1 p2
  generalize wr.drew=wr at *
  have n0:=hI.out.a
  go_wp2_with fail
  clear n0
  go_loopw [8,72] (fun v i wr=>∃ r c:Nat,r≤N∧i=.int .i64 r∧v=.int .i64 c∧Hid (Cal.Codes N c (Cal.sweeps (l.map Cal.edge) r Cal.only0))∧Hid (CnI w N wr)) (fun _ i _=>N-(intOf i).toNat)
  case atStart=>exact⟨0,1,Nat.zero_le _,rfl,rfl,hc0,hI⟩
  case round =>
   clear hc0 hI
   obtain⟨r,c,hr,rfl,rfl,hc,hI⟩:=hrel
   by_cases hrlt:r<N
   ·have hd0:Hid (Cal.Codes N c (Cal.sweep1 ((l.map Cal.edge).take 0) (Cal.sweeps (l.map Cal.edge) r Cal.only0))):=hc.out
    go_wp2_with fail
    go_loopw [8,76] (fun v i wr=>∃ k c:Nat,k≤l.length∧i=.int .i64 k∧v=.int .i64 c∧Hid (Cal.Codes N c (Cal.sweep1 ((l.map Cal.edge).take k) (Cal.sweeps (l.map Cal.edge) r Cal.only0)))∧Hid (CnI w N wr)) (fun _ i _=>l.length-(intOf i).toNat)
    case atStart=>exact⟨0,c,Nat.zero_le _,rfl,rfl,hd0,hI⟩
    case round =>
     clear hd0 hI hc
     obtain⟨k,c,hk,rfl,rfl,hc,hI⟩:=hrel
     by_cases hlt:k<l.length
     ·have hk':l[k]?=some l[k]:=List.getElem?_eq_getElem hlt
      have hv:=Cal.levE_zero (hval.out _ (List.getElem_mem hlt))
      have hst:=Cal.sweep1_take (l:=l.map Cal.edge) (k:=k) (by simpa using hlt) (Cal.sweeps (l.map Cal.edge) r Cal.only0)
      rw[List.getElem_map] at hst
      obtain⟨S,hS⟩:∃ S,Cal.sweep1 ((l.map Cal.edge).take k) (Cal.sweeps (l.map Cal.edge) r Cal.only0)=S:=⟨_,rfl⟩
      rw[hS] at hst hc
      generalize l[k]=x at *
      obtain⟨b,o,rfl,hbl,c0,c1,c2,c3⟩:=lev_at (hL.out.below hI.out.bel).rows hk'
      obtain⟨xf,xt,xd,xw⟩:=x
      dsimp only at *
      obtain⟨⟨f0,f1⟩,⟨t0,t1⟩,-⟩:=hv
      obtain⟨f,rfl⟩:∃ f:Nat,xf=(f:Int):=⟨xf.toNat,by omega⟩
      obtain⟨t,rfl⟩:∃ t:Nat,xt=(t:Int):=⟨xt.toNat,by omega⟩
      have hfN:f<N:=by omega
      have htN:t<N:=by omega
      have q1:=Lib.hid (wrap_pow (N:=f) (by omega))
      have q2:=Lib.hid (wrap_pow (N:=t) (by omega))
      have hc64:c<64:=Nat.lt_of_lt_of_le hc.out.1 (Cal.pow_le6 hN6)
      have hE64:2 ^ f ||| 2 ^ t<64:=Nat.lt_of_lt_of_le (Nat.or_lt_two_pow (Cal.two_pow_lt hfN) (Cal.two_pow_lt htN)) (Cal.pow_le6 hN6)
      have q3:=Lib.hid (bits_or6 ⟨2 ^ f,Nat.lt_of_lt_of_le (Cal.two_pow_lt hfN) (Cal.pow_le6 hN6)⟩ ⟨2 ^ t,Nat.lt_of_lt_of_le (Cal.two_pow_lt htN) (Cal.pow_le6 hN6)⟩)
      have q4:=bits_and6 ⟨c,hc64⟩ ⟨2 ^ f ||| 2 ^ t,hE64⟩
      have q5:=bits_or6 ⟨c,hc64⟩ ⟨2 ^ f ||| 2 ^ t,hE64⟩
      have hhit:=hc.out.hit hN6 hfN htN
      have hnx1:=fun h=>hc.out.step ⟨f,t,xd,xw⟩ hfN htN h
      have hnx2:=fun h=>hc.out.stay ⟨f,t,xd,xw⟩ h
      have hst2:Cal.sweep1 ((l.map Cal.edge).take (k+1)) (Cal.sweeps (l.map Cal.edge) r Cal.only0)=Cal.stepE S ⟨f,t,xd,xw⟩:=by rw[hst];rfl
      dsimp only at hnx1 hnx2 q4 q5 q3
      rw[←hst2] at hnx1 hnx2
      have lt0:=hI.out.lt
      have hI2:=Lib.hid (hI.out.below (below_alloc wr (.cells #[.int .i64 (Lev.mk f t xd xw).f,.int .i64 (Lev.mk f t xd xw).t,.int .i64 (Lev.mk f t xd xw).d,.int .i64 (Lev.mk f t xd xw).w] 86)))
      have e0:(wr.alloc (.cells #[.int .i64 (Lev.mk f t xd xw).f,.int .i64 (Lev.mk f t xd xw).t,.int .i64 (Lev.mk f t xd xw).d,.int .i64 (Lev.mk f t xd xw).w] 86)).cell? ⟨wr.heap.size,0,none⟩=some (.int .i64 (f:Int)):=by simp
      have e1:(wr.alloc (.cells #[.int .i64 (Lev.mk f t xd xw).f,.int .i64 (Lev.mk f t xd xw).t,.int .i64 (Lev.mk f t xd xw).d,.int .i64 (Lev.mk f t xd xw).w] 86)).cell? ⟨wr.heap.size,1,none⟩=some (.int .i64 (t:Int)):=by simp
      dsimp only at e0 e1 hI2
      clear hst hst2 hS hk' hc hI
      go_wp2_with fail
      refine wp_region_held_drew (S:=Sx (wr.alloc (.cells #[.int .i64 (f:Int),.int .i64 (t:Int),.int .i64 xd,.int .i64 xw] 86)) [(wr.heap.size,0,.int .i64 (f:Int)),(wr.heap.size,1,.int .i64 (t:Int))]) (by kernel_rfl) (Sx.mk (by simp only[cs_iff_cons];exact⟨e0,e1,cs_nil _⟩) (Below.refl _ _)).drew (fun hHeld=>?_)
      refine tkHx 0 80 ?_
      refine tkHx 1 81 ?_
      refine tkHx 2 82 ?_
      refine tkHx 3 83 ?_
      refine tkHx 4 84 ?_
      refine tkHx 5 85 ?_
      refine tkHx 6 86 ?_
      refine tkHx 7 12 ?_
      refine wpAnyH_done (by kernel_rfl) ?_ _
      simp only[q1.out,q2.out,q3.out]
      replace hI2:=Lib.hid (hI2.out.below hHeld.bel)
      clear hHeld e0 e1 q1 q2 q3 c0 c1 c2 c3
      generalize (wr.alloc (.cells #[.int .i64 (f:Int),.int .i64 (t:Int),.int .i64 xd,.int .i64 xw] 86)).drew=wn at *
      generalize 2 ^ f ||| 2 ^ t=E at *
      by_cases hz:c &&& E=0
      ·have hnx:=Lib.hid (hnx2 (hhit.1 hz))
       rw[hz] at q4
       clear hnx1 hnx2 hhit hz q5
       go_wp2_with fail
       go_roundw
       case rel=>exact⟨k+1,c,by omega,by go_num,rfl,hnx,hI2⟩
       case measure=>simp[intOf];omega
      have hnx:=Lib.hid (hnx1 (by
       cases h:(S f || S t)
       ·exact absurd (hhit.2 h) hz
       rfl))
      generalize c &&& E=Z at *
      generalize c ||| E=C2 at *
      have hZ:((Z:Int) == 0)=false:=by simpa using hz
      have hZ2:¬(Z:Int)=0:=by omega
      clear hnx1 hnx2 hhit
      go_wp2_with fail
      go_roundw
      case rel=>exact⟨k+1,C2,by omega,by go_num,rfl,hnx,hI2⟩
      case measure=>simp[intOf];omega
     obtain rfl:k=l.length:=by omega
     have hc2:Hid (Cal.Codes N c (Cal.sweeps (l.map Cal.edge) (r+1) Cal.only0)):=by
      show Cal.Codes _ _ _
      rw[Cal.sweeps_succ]
      have:=hc.out
      rw[List.take_of_length_le (by simp)] at this
      exact this
     clear hc
     go_wp2_with fail
     go_roundw
     case rel=>exact⟨r+1,c,by omega,by go_num,rfl,hc2,hI⟩
     case measure=>simp[intOf];omega
   obtain rfl:r=N:=by omega
   have hfull:=hc.out.full hN6
   have hc64:c<64:=Nat.lt_of_lt_of_le hc.out.1 (Cal.pow_le6 hN6)
   have hP:=Cal.pow_le6 hN6
   have hP1:1≤2 ^ r:=Nat.one_le_two_pow
   by_cases hz:c=2 ^ r-1
   ·have hall:(List.range r).all (Cal.swept r l)=true:=by
     rw[List.all_eq_true]
     intro p hp
     exact hfull.1 hz p (List.mem_range.1 hp)
    replace hR:Hid (R=0):=by show _=_;rw[hR.out,if_pos hall]
    have hcz:(c:Int)=((2 ^ r-1:Nat):Int):=by rw[hz]
    clear hall hfull hc
    generalize 2 ^ r-1=M at *
    subst hz
    go_wp2_with fail
    go_ret
    exact⟨ret_int hR.out.symm,hI.out.bel⟩
   have hall:¬(List.range r).all (Cal.swept r l)=true:=fun h=>by
    rw[List.all_eq_true] at h
    exact hz (hfull.2 fun p hp=>h p (List.mem_range.2 hp))
   replace hR:Hid (R=29):=by show _=_;rw[hR.out,if_neg hall]
   clear hall hfull hc
   generalize 2 ^ r-1=M at *
   have hM1:((c:Int) == (M:Int))=false:=by simp;omega
   have hM2:¬(c:Int)=(M:Int):=by omega
   go_wp2_with fail
   go_ret
   exact⟨ret_int hR.out.symm,hI.out.bel⟩
end Go.Proofs.YtoojdkaimhlcbaaGreat
