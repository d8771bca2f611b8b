/- What the statements rest on: definitions and walks, part 25. -/
import Derived.Test.YthfokpchdlcidaaGreatJ03
set_option maxRecDepth 100000
set_option maxHeartbeats 16000000
set_option linter.unusedSimpArgs false
set_option linter.unusedVariables false
namespace Go.Proofs.YthfokpchdlcidaaGreat
open Go Go.RowKit Go.Maps Go.WideMaps Go.ChangeMaps
variable {P : Program} {k : TypeId} {w : World} {b n : Nat} {κ : Type} {lit : κ → Lit} {f : κ → Option Value}
theorem MapIs.lt (h:MapIs P k lit w b n f):b<w.heap.size:=by obtain⟨D,h,_⟩:=h;exact h.lt
end Go.Proofs.YthfokpchdlcidaaGreat
namespace Go.Proofs.YthfokpchdlcidaaGreat
open Go Go.RowKit
theorem ints_at {w:World} {A:Option Addr} {zs:List Int} (h:RowsAt w A 1 (intRows zs)) {k:Nat} (hk:k<zs.length):∃ b o,A=some ⟨b,o,none⟩∧b<w.heap.size∧w.cell? ⟨b,o+k,none⟩=some (.int .i64 zs[k]):=by
 obtain⟨b,o,hA,hb,hc⟩:=h k [.int .i64 zs[k]] (by simp[intRows,List.getElem?_eq_getElem hk])
 have:=hc 0 _ rfl
 simp only[Nat.mul_one,Nat.add_zero] at this
 exact⟨b,o,hA,hb,this⟩
def missI (zs:List Int) (d:Int) (k:Nat):Prop:=∀ (j:Nat) z,j<k→zs[j]?=some z→z≠d
theorem HasI_any (A:Option Addr) (c:Nat) (zs:List Int) (d:Int) (w:World) (h:RowsAt w A 1 (intRows zs)) (hs:zs.length≤1000000) :
  Calls Tryz.prog 17 #[.slice A zs.length c,.int .i64 d] w fun e w'=>e=.returned (.bool (decide (d∈zs)))∧w=w':=by
 have h':=Lib.hid h
 have h0:Hid (missI zs d 0):=fun j z h _=>by omega
 clear h
 go_enter Tryz.func17,Tryz.ntmps17
 go_wp2
 go_loop [5] (fun i=>∃ k:Nat,k≤zs.length∧i=.int .i64 k∧Hid (missI zs d k)) (fun i=>zs.length-(intOf i).toNat)
 case atStart=>exact⟨0,Nat.zero_le _,rfl,h0⟩
 case round =>
  obtain⟨k,hk,rfl,hm⟩:=hrel
  clear h0
  by_cases hlt:k<zs.length
  ·obtain⟨b,o,rfl,_,e1⟩:=ints_at h'.out hlt
   have hzk:=Lib.hid (List.getElem?_eq_getElem hlt)
   have hmem:=Lib.hid (List.getElem_mem hlt)
   generalize zs[k]=z at *
   by_cases hz:z=d
   ·have hfin:Hid (decide (d∈zs)=true):=by show _=_;rw[decide_eq_true_iff,←hz];exact hmem.out
    subst hz
    go_wp2
    go_ret
    exact⟨ret_bool hfin.out.symm,rfl⟩
   have hz':(z == d)=false:=by simpa using hz
   have hnx:Hid (missI zs d (k+1)):=fun j y hj hy=>by
    rcases Nat.lt_or_ge j k with h | h
    ·exact hm.out j y h hy
    obtain rfl:j=k:=by omega
    rw[hzk.out] at hy;cases hy;exact hz
   clear hz
   go_wp2
   go_round
   case rel=>exact⟨k+1,by omega,by go_num,hnx⟩
   case measure=>simp[intOf];omega
  obtain rfl:k=zs.length:=by omega
  have hfin:Hid (decide (d∈zs)=false):=by
   show _=_
   rw[decide_eq_false_iff_not]
   intro hc
   obtain⟨j,hj,he⟩:=List.getElem_of_mem hc
   exact hm.out j _ hj (List.getElem?_eq_getElem hj) he
  go_wp2
  go_ret
  exact⟨ret_bool hfin.out.symm,rfl⟩
end Go.Proofs.YthfokpchdlcidaaGreat
namespace Go.Proofs.YthfokpchdlcidaaGreat
open Go Go.RowKit Go.Sort
theorem sizeIntI (w:World):(sizeOf (Tryz.prog.elem 30)).run Tryz.prog w=.ok 1 w:=by kernel_rfl
theorem undIntsI:Tryz.prog.underlying 30=some (.slice (Tryz.prog.elem 30)):=by kernel_rfl
end Go.Proofs.YthfokpchdlcidaaGreat
namespace Go.Proofs.YthfokpchdlcidaaGreat
open Go Go.RowKit
theorem gt {w:World} {B:Nat} {g:Grad} (h:BoxAt w B [.int .i64 g.t0,.int .i64 g.t1,.int .i64 g.t2,.int .i64 g.p0,.int .i64 g.p1,.int .i64 g.p2,.int .i64 g.m0,.int .i64 g.m1,.int .i64 g.m2,.int .i64 g.m3]):NumsAt w B 0 [g.t0,g.t1,g.t2]:=h.nums 0 _ (by simp) (fun k z hz=>by match k,hz with | 0,hz=>cases hz;rfl | 1,hz=>cases hz;rfl | 2,hz=>cases hz;rfl)
end Go.Proofs.YthfokpchdlcidaaGreat
namespace Go.Proofs.YthfokpchdlcidaaGreat.Cal
theorem sumTo_congr {n:Nat} {f g:Nat→Int} (h:∀ i,i<n→f i=g i):sumTo n f=sumTo n g:=by
 induction n with
 | zero=>rfl
 | succ n ih =>
  unfold sumTo
  rw[ih (fun i hi=>h i (by omega)),h n (by omega)]
theorem sumTo_zero (n:Nat):sumTo n (fun _=>0)=0:=by
 induction n with
 | zero=>rfl
 | succ n ih=>unfold sumTo;rw[ih];rfl
theorem sumTo_add (n:Nat) (f g:Nat→Int):sumTo n (fun i=>f i+g i)=sumTo n f+sumTo n g:=by
 induction n with
 | zero=>rfl
 | succ n ih =>
  show sumTo n (fun i=>f i+g i)+(f n+g n)=sumTo n f+f n+(sumTo n g+g n)
  rw[ih];omega
theorem sumTo_neg (n:Nat) (f:Nat→Int):sumTo n (fun i=>- f i)=- sumTo n f:=by
 induction n with
 | zero=>rfl
 | succ n ih =>
  show sumTo n (fun i=>- f i) +-f n=- (sumTo n f+f n)
  rw[ih];omega
theorem sumTo_mul (n:Nat) (c:Int) (f:Nat→Int):sumTo n (fun i=>c*f i)=c*sumTo n f:=by
 induction n with
 | zero=>simp[sumTo]
 | succ n ih=>unfold sumTo;rw[ih,Int.mul_add]
theorem sumTo_swap (n m:Nat) (f:Nat→Nat→Int):sumTo n (fun i=>sumTo m (f i))=sumTo m (fun j=>sumTo n (fun i=>f i j)):=by
 induction n with
 | zero =>
  show (0:Int)=sumTo m (fun _=>0)
  rw[sumTo_zero]
 | succ n ih =>
  show sumTo n _+sumTo m (f n)=sumTo m (fun j=>sumTo n (fun i=>f i j)+f n j)
  rw[sumTo_add,ih]
theorem sumTo_first (n:Nat) (f:Nat→Int):sumTo (n+1) f=f 0+sumTo n (fun i=>f (i+1)):=by
 induction n with
 | zero=>simp[sumTo]
 | succ n ih =>
  show sumTo (n+1) f+f (n+1)=_
  rw[ih]
  show _=f 0+(sumTo n (fun i=>f (i+1))+f (n+1))
  omega
def skipI (c i:Nat):Nat:=if i<c then i else i+1
theorem sumTo_skip {n c:Nat} (hc:c≤n) (g:Nat→Int):sumTo n (fun i=>g (skipI c i))=sumTo (n+1) (fun e=>if e=c then 0 else g e):=by
 induction n with
 | zero =>
  obtain rfl:c=0:=by omega
  rfl
 | succ n ih =>
  by_cases h:c=n+1
  ·subst h
   show sumTo (n+1) (fun i=>g (skipI (n+1) i))=sumTo (n+1) (fun e=>if e=n+1 then 0 else g e)+(if n+1=n+1 then 0 else g (n+1))
   rw[if_pos rfl,Int.add_zero]
   exact sumTo_congr fun i hi=>by rw[if_neg (by omega)];unfold skipI;rw[if_pos hi]
  have hc':c≤n:=by omega
  show sumTo n (fun i=>g (skipI c i))+g (skipI c n)=sumTo (n+1) (fun e=>if e=c then 0 else g e)+(if n+1=c then 0 else g (n+1))
  rw[ih hc',if_neg (by omega)]
  congr 1
  unfold skipI
  rw[if_neg (by omega)]
theorem sg_succ (c:Nat):sg (c+1)=- sg c:=by
 unfold sg
 by_cases h:c % 2=0
 ·rw[if_pos h,if_neg (by omega)]
 rw[if_neg h,if_pos (by omega)];rfl
theorem sg_sq (c:Nat):sg c*sg c=1:=by
 unfold sg
 split <;> rfl
def minor (A:Mat) (c:Nat):Mat:=fun i j=>A (i+1) (skipI c j)
def detN:Nat→Mat→Int
 | 0,_=>1
 | n+1,A=>sumTo (n+1) fun c=>sg c*A 0 c*detN n (minor A c)
theorem detN_congr:∀ {n:Nat} {A B:Mat},(∀ i j,i<n→j<n→A i j=B i j)→detN n A=detN n B
 | 0,_,_,_=>rfl
 | n+1,A,B,h=>by
  unfold detN
  refine sumTo_congr fun c hc=>?_
  rw[h 0 c (by omega) hc,detN_congr (A:=minor A c) (B:=minor B c) (fun i j hi hj=>?_)]
  unfold minor
  refine h _ _ (by omega) ?_
  unfold skipI
  split <;> omega
def swapI (r i:Nat):Nat:=if i=r then r+1 else if i=r+1 then r else i
def rowSwap (A:Mat) (r:Nat):Mat:=fun i j=>A (swapI r i) j
def colSwap (A:Mat) (r:Nat):Mat:=fun i j=>A i (swapI r j)
theorem minor_rowSwap (A:Mat) (r c:Nat):minor (rowSwap A (r+1)) c=rowSwap (minor A c) r:=by
 funext i j
 unfold minor rowSwap swapI
 by_cases h1:i=r
 ·rw[if_pos h1,if_pos (by omega)]
 by_cases h2:i=r+1
 ·rw[if_neg h1,if_pos h2,if_neg (by omega),if_pos (by omega)]
 rw[if_neg h1,if_neg h2,if_neg (by omega),if_neg (by omega)]
def minor2 (A:Mat) (c e:Nat):Mat:=fun i j=>A (i+2) (skipI (max c e) (skipI (min c e) j))
theorem minor_minor (A:Mat) {c d:Nat}:minor (minor A c) d=minor2 A c (skipI c d):=by
 funext i j
 unfold minor minor2 skipI
 have h:∀ a b:Nat,a=b→A (i+2) a=A (i+2) b:=fun a b h=>by rw[h]
 apply h
 split <;> split <;> split <;> split <;> (try split) <;> (try split) <;> omega
theorem minor2_comm (A:Mat) (c e:Nat):minor2 A c e=minor2 A e c:=by
 unfold minor2
 rw[Nat.max_comm,Nat.min_comm]
def sg2 (c e:Nat):Int:=if e=c then 0 else if e<c then sg c*sg e else sg c*sg (e+1)
theorem sg2_anti (c e:Nat):sg2 c e=- sg2 e c:=by
 unfold sg2
 by_cases h:e=c
 ·rw[if_pos h,if_pos h.symm];rfl
 have h':¬c=e:=fun x=>h x.symm
 by_cases h1:e<c
 ·have h2:¬c<e:=by omega
  rw[if_neg h,if_pos h1,if_neg h',if_neg h2,sg_succ]
  grind
 have h2:c<e:=by omega
 rw[if_neg h,if_neg h1,if_neg h',if_pos h2,sg_succ]
 grind
theorem detN_two (n:Nat) (A:Mat):detN (n+2) A=sumTo (n+2) fun c=>sumTo (n+2) fun e=>sg2 c e*A 0 c*A 1 e*detN n (minor2 A c e):=by
 show sumTo (n+2) (fun c=>sg c*A 0 c*detN (n+1) (minor A c))=_
 refine sumTo_congr fun c hc=>?_
 have h1:detN (n+1) (minor A c)=sumTo (n+1) (fun d=>(fun e=>(if e<c then sg e else sg (e+1))*A 1 e*detN n (minor2 A c e)) (skipI c d)):=by
  show sumTo (n+1) (fun d=>sg d*minor A c 0 d*detN n (minor (minor A c) d))=_
  refine sumTo_congr fun d hd=>?_
  show sg d*A 1 (skipI c d)*detN n (minor (minor A c) d)=(if skipI c d<c then sg (skipI c d) else sg (skipI c d+1))*A 1 (skipI c d)*detN n (minor2 A c (skipI c d))
  rw[minor_minor]
  congr 2
  unfold skipI
  by_cases h:d<c
  ·rw[if_pos h,if_pos h]
  rw[if_neg h,if_neg (by omega),sg_succ,sg_succ];omega
 have h2:=h1.trans (sumTo_skip (n:=n+1) (c:=c) (by omega) (fun e=>(if e<c then sg e else sg (e+1))*A 1 e*detN n (minor2 A c e)))
 rw[h2,←sumTo_mul]
 refine sumTo_congr fun e he=>?_
 unfold sg2
 by_cases h:e=c
 ·rw[if_pos h,if_pos h];simp
 rw[if_neg h,if_neg h]
 by_cases h2:e<c
 ·simp only[if_pos h2];grind
 simp only[if_neg h2];grind
theorem det_rowSwap:∀ (n r:Nat) (A:Mat),r+1<n→detN n (rowSwap A r)=- detN n A
 | 0,r,A,h=>by omega
 | 1,r,A,h=>by omega
 | n+2,0,A,_=>by
  rw[detN_two,detN_two,←sumTo_neg,sumTo_swap]
  refine sumTo_congr fun c hc=>?_
  rw[←sumTo_neg]
  refine sumTo_congr fun e he=>?_
  have e0:rowSwap A 0 0 e=A 1 e:=rfl
  have e1:rowSwap A 0 1 c=A 0 c:=rfl
  have e2:minor2 (rowSwap A 0) e c=minor2 A c e:=by
   rw[minor2_comm]
   funext i j
   unfold minor2 rowSwap swapI
   rw[if_neg (by omega),if_neg (by omega)]
  rw[e0,e1,e2,sg2_anti e c]
  grind
 | n+2,r+1,A,h=>by
  show sumTo (n+2) (fun c=>sg c*rowSwap A (r+1) 0 c*detN (n+1) (minor (rowSwap A (r+1)) c))=- sumTo (n+2) (fun c=>sg c*A 0 c*detN (n+1) (minor A c))
  rw[←sumTo_neg]
  refine sumTo_congr fun c hc=>?_
  rw[minor_rowSwap,det_rowSwap (n+1) r (minor A c) (by omega)]
  have e0:rowSwap A (r+1) 0 c=A 0 c:=by unfold rowSwap swapI;rw[if_neg (by omega),if_neg (by omega)]
  rw[e0]
  grind
theorem swapI_skip {r c j:Nat} (h1:c≠r) (h2:c≠r+1):swapI r (skipI c j)=skipI c (if c<r then swapI (r-1) j else swapI r j):=by
 unfold swapI skipI
 grind
theorem sumTo_swapI {n r:Nat} (h:r+1<n) (g:Nat→Int):sumTo n (fun c=>g (swapI r c))=sumTo n g:=by
 induction n with
 | zero=>omega
 | succ n ih =>
  by_cases h1:r+1<n
  ·show sumTo n (fun c=>g (swapI r c))+g (swapI r n)=sumTo n g+g n
   rw[ih h1]
   congr 2
   unfold swapI
   rw[if_neg (by omega),if_neg (by omega)]
  obtain rfl:n=r+1:=by omega
  show sumTo r (fun c=>g (swapI r c))+g (swapI r r)+g (swapI r (r+1))=sumTo r g+g r+g (r+1)
  have e0:sumTo r (fun c=>g (swapI r c))=sumTo r g:=sumTo_congr fun i hi=>by
   unfold swapI
   rw[if_neg (by omega),if_neg (by omega)]
  have e1:swapI r r=r+1:=by unfold swapI;rw[if_pos rfl]
  have e2:swapI r (r+1)=r:=by unfold swapI;rw[if_neg (by omega),if_pos rfl]
  rw[e0,e1,e2]
  omega
theorem det_colSwap:∀ (n r:Nat) (A:Mat),r+1<n→detN n (colSwap A r)=- detN n A
 | 0,r,A,h=>by omega
 | n+1,r,A,h=>by
  show sumTo (n+1) (fun c=>sg c*colSwap A r 0 c*detN n (minor (colSwap A r) c))=- sumTo (n+1) (fun c=>sg c*A 0 c*detN n (minor A c))
  rw[←sumTo_swapI h (fun c=>sg c*A 0 c*detN n (minor A c)),←sumTo_neg]
  refine sumTo_congr fun c hc=>?_
  have e0:colSwap A r 0 c=A 0 (swapI r c):=rfl
  rw[e0]
  by_cases h1:c=r
  ·subst h1
   have e1:swapI c c=c+1:=by unfold swapI;rw[if_pos rfl]
   have e2:minor (colSwap A c) c=minor A (c+1):=by
    funext i j
    show A (i+1) (swapI c (skipI c j))=A (i+1) (skipI (c+1) j)
    congr 1
    unfold swapI skipI
    split <;> split <;> (try split) <;> (try split) <;> omega
   rw[e1,e2,sg_succ]
   grind
  by_cases h2:c=r+1
  ·subst h2
   have e1:swapI r (r+1)=r:=by unfold swapI;rw[if_neg (by omega),if_pos rfl]
   have e2:minor (colSwap A r) (r+1)=minor A r:=by
    funext i j
    show A (i+1) (swapI r (skipI (r+1) j))=A (i+1) (skipI r j)
    congr 1
    unfold swapI skipI
    split <;> split <;> (try split) <;> (try split) <;> omega
   rw[e1,e2,sg_succ]
   grind
  have e1:swapI r c=c:=by unfold swapI;rw[if_neg h1,if_neg h2]
  have e2:minor (colSwap A r) c=colSwap (minor A c) (if c<r then r-1 else r):=by
   funext i j
   show A (i+1) (swapI r (skipI c j))=A (i+1) (skipI c (swapI (if c<r then r-1 else r) j))
   rw[swapI_skip h1 h2]
   congr 2
   split <;> rfl
  rw[e1,e2,det_colSwap n _ (minor A c) (by split <;> omega)]
  grind
theorem det_eqRows:∀ (q n:Nat) (A:Mat),q+1<n→(∀ j,A 0 j=A (q+1) j)→detN n A=0
 | 0,n,A,h,he=>by
  have h1:=det_rowSwap n 0 A h
  have h2:rowSwap A 0=A:=by
   funext i j
   unfold rowSwap swapI
   by_cases a:i=0
   ·rw[if_pos a,a];exact (he j).symm
   by_cases b:i=1
   ·rw[if_neg a,if_pos b,b];exact he j
   rw[if_neg a,if_neg b]
  rw[h2] at h1
  omega
 | q+1,n,A,h,he=>by
  have h1:=det_rowSwap n (q+1) A h
  have h2:=det_eqRows q n (rowSwap A (q+1)) (by omega) (fun j=>by
   have e0:rowSwap A (q+1) 0 j=A 0 j:=by unfold rowSwap swapI;rw[if_neg (by omega),if_neg (by omega)]
   have e1:rowSwap A (q+1) (q+1) j=A (q+1+1) j:=by unfold rowSwap swapI;rw[if_pos rfl]
   rw[e0,e1];exact he j)
  omega
def colPut (M:Mat) (j:Nat) (r:Nat→Int):Mat:=fun i k=>if k=j then r i else M i k
def onWay (M:Mat) (j:Nat) (r:Nat→Int) (t:Nat):Mat:=fun i k=>if k<t then M i k else if k=t then r i else if k≤j then M i (k-1) else M i k
theorem onWay_step (M:Mat) {j t:Nat} (r:Nat→Int) (h:t<j):colSwap (onWay M j r t) t=onWay M j r (t+1):=by
 funext i k
 unfold colSwap onWay swapI
 by_cases a:k=t
 ·subst a
  rw[if_pos rfl,if_neg (by omega),if_neg (by omega),if_pos (by omega),if_pos (by omega)]
  rfl
 by_cases b:k=t+1
 ·subst b
  rw[if_neg a,if_pos rfl,if_neg (by omega),if_pos rfl,if_neg (by omega),if_pos rfl]
 rw[if_neg a,if_neg b]
 by_cases c:k<t
 ·rw[if_pos c,if_pos (by omega)]
 rw[if_neg c,if_neg a,if_neg (show ¬k<t+1 by omega)];simp only[if_neg b]
theorem onWay_end (M:Mat) (j:Nat) (r:Nat→Int):onWay M j r j=colPut M j r:=by
 funext i k
 unfold onWay colPut
 by_cases a:k<j
 ·rw[if_pos a,if_neg (by omega)]
 by_cases b:k=j
 ·rw[if_neg a,if_pos b,if_pos b]
 rw[if_neg a,if_neg b,if_neg (by omega),if_neg b]
theorem det_onWay (n:Nat) (M:Mat) {j:Nat} (r:Nat→Int) (hj:j<n):∀ t,t≤j→detN n (onWay M j r t)=sg t*detN n (onWay M j r 0)
 | 0,_=>by
  show _=(1:Int)*_
  rw[Int.one_mul]
 | t+1,h=>by
  rw[←onWay_step M r (by omega),det_colSwap n t _ (by omega),det_onWay n M r hj t (by omega),sg_succ]
  grind
def withCol (M:Mat) (r:Nat→Int) (p:Nat):Mat:=fun i j=>if j=0 then r (if i=0 then p else i-1) else M (if i=0 then p else i-1) (j-1)
theorem cramer (n:Nat) (M:Mat) (r:Nat→Int) {p:Nat} (hp:p<n):sumTo n (fun j=>M p j*detN n (colPut M j r))=r p*detN n M:=by
 let B:Mat:=withCol M r p
 have h0:detN (n+1) B=0:=det_eqRows p (n+1) B (by omega) (fun j=>by show withCol M r p 0 j=withCol M r p (p+1) j;simp[withCol])
 have h1:detN (n+1) B=sumTo (n+1) (fun c=>sg c*B 0 c*detN n (minor B c)):=rfl
 rw[h0,sumTo_first] at h1
 have e0:sg 0*B 0 0*detN n (minor B 0)=r p*detN n M:=by
  show (1:Int)*r p*detN n M=_
  rw[Int.one_mul]
 have e1:sumTo n (fun j=>sg (j+1)*B 0 (j+1)*detN n (minor B (j+1)))=sumTo n (fun j=>- (M p j*detN n (colPut M j r))):=sumTo_congr fun j hj=>by
  have e2:minor B (j+1)=onWay M j r 0:=by
   funext i k
   show withCol M r p (i+1) (skipI (j+1) k)=_
   unfold onWay skipI withCol
   grind
  have e3:=det_onWay n M r hj j (Nat.le_refl j)
  rw[onWay_end] at e3
  have e4:B 0 (j+1)=M p j:=rfl
  have e5:=sg_sq j
  rw[e2,e4,e3,sg_succ]
  grind
 rw[e0,e1,sumTo_neg] at h1
 omega
def quad (n:Nat) (A:Mat) (x:Nat→Int):Int:=sumTo n (fun i=>x i*sumTo n (fun j=>A i j*x j))
def PD (n:Nat) (A:Mat):Prop:=∀ x:Nat→Int,(∃ i,i<n∧x i≠0)→0<quad n A x
theorem row_cofactors {n:Nat} (A:Mat) {p:Nat} (hp:p<n):sumTo (n+1) (fun c=>A (p+1) c*(sg c*detN n (minor A c)))=0:=by
 have h0:=det_eqRows p (n+1) (fun i j=>if i=0 then A (p+1) j else A i j) (by omega) (fun j=>by simp)
 have h1:detN (n+1) (fun i j=>if i=0 then A (p+1) j else A i j)=sumTo (n+1) (fun c=>sg c*A (p+1) c*detN n (minor A c)):=rfl
 rw[h1] at h0
 rw[←h0]
 exact sumTo_congr fun c _=>by grind
theorem det_pos:∀ (n:Nat) (A:Mat),PD n A→0<detN n A
 | 0,A,_=>Int.zero_lt_one
 | n+1,A,h=>by
  have hm:PD n (minor A 0):=by
   intro x ⟨i,hi,hx⟩
   have h1:=h (fun i=>match i with | 0=>0 | i+1=>x i) ⟨i+1,by omega,hx⟩
   have e1:quad (n+1) A (fun i=>match i with | 0=>0 | i+1=>x i)=quad n (minor A 0) x:=by
    unfold quad
    rw[sumTo_first]
    show (0:Int)*_+sumTo n (fun i=>x i*sumTo (n+1) (fun j=>A (i+1) j*(match j with | 0=>0 | j+1=>x j)))=_
    rw[Int.zero_mul,Int.zero_add]
    refine sumTo_congr fun i hi=>?_
    rw[sumTo_first]
    show x i*(A (i+1) 0*0+sumTo n (fun j=>A (i+1) (j+1)*x j))=x i*sumTo n (fun j=>A (i+1) (skipI 0 j)*x j)
    rw[Int.mul_zero,Int.zero_add]
    rfl
   rw[e1] at h1
   exact h1
  have hp:=det_pos n (minor A 0) hm
  have hx0:sg 0*detN n (minor A 0)=detN n (minor A 0):=by show (1:Int)*_=_;rw[Int.one_mul]
  have h1:=h (fun c=>sg c*detN n (minor A c)) ⟨0,by omega,by show sg 0*detN n (minor A 0)≠0;rw[hx0];omega⟩
  have e1:quad (n+1) A (fun c=>sg c*detN n (minor A c))=detN n (minor A 0)*detN (n+1) A:=by
   unfold quad
   rw[sumTo_first]
   have e2:sumTo n (fun i=>sg (i+1)*detN n (minor A (i+1))*sumTo (n+1) (fun j=>A (i+1) j*(sg j*detN n (minor A j))))=0:=by
    rw[←sumTo_zero n]
    exact sumTo_congr fun i hi=>by rw[row_cofactors A hi,Int.mul_zero]
   show sg 0*detN n (minor A 0)*sumTo (n+1) (fun j=>A 0 j*(sg j*detN n (minor A j)))+sumTo n (fun i=>sg (i+1)*detN n (minor A (i+1))*sumTo (n+1) (fun j=>A (i+1) j*(sg j*detN n (minor A j))))=_
   rw[e2,Int.add_zero,hx0]
   congr 1
   show _=sumTo (n+1) (fun c=>sg c*A 0 c*detN n (minor A c))
   exact sumTo_congr fun c _=>by grind
  rw[e1] at h1
  rcases Int.lt_or_le 0 (detN (n+1) A) with h2 | h2
  ·exact h2
  exact absurd (Int.mul_nonpos_of_nonneg_of_nonpos (Int.le_of_lt hp) h2) (by omega)
theorem sumTo_dl {n a:Nat} (h:a<n) (x:Nat→Int):sumTo n (fun i=>dl a i*x i)=x a:=by
 induction n with
 | zero=>omega
 | succ n ih =>
  show sumTo n (fun i=>dl a i*x i)+dl a n*x n=x a
  by_cases h1:a=n
  ·subst h1
   have e:sumTo a (fun i=>dl a i*x i)=0:=by
    rw[←sumTo_zero a]
    exact sumTo_congr fun i hi=>by unfold dl;rw[if_neg (by omega),Int.zero_mul]
   rw[e];unfold dl;rw[if_pos rfl];omega
  rw[ih (by omega)];unfold dl;rw[if_neg (by omega)];omega
def sqs (x:Nat→Int):List Edge→Int
 | []=>0
 | e :: l=>e.w*((x e.f-x e.t)*(x e.f-x e.t))+sqs x l
theorem quad_lap {n:Nat} (x:Nat→Int):∀ l:List Edge,(∀ e∈l,e.f<n∧e.t<n)→quad n (lap l) x=sqs x l
 | [],_=>by
  show sumTo n (fun i=>x i*sumTo n (fun j=>0*x j))=0
  have e:∀ i,x i*sumTo n (fun j=>0*x j)=0:=fun i=>by
   rw[sumTo_mul,Int.zero_mul,Int.mul_zero]
  simp only[e]
  exact sumTo_zero n
 | e :: l,h=>by
  obtain⟨hf,ht⟩:=h e (List.mem_cons_self ..)
  have ih:=quad_lap x l (fun a ha=>h a (List.mem_cons_of_mem _ ha))
  have e1:∀ i,sumTo n (fun j=>lap (e :: l) i j*x j)=e.w*(dl e.f i-dl e.t i)*(x e.f-x e.t)+sumTo n (fun j=>lap l i j*x j):=fun i=>by
   have e2:sumTo n (fun j=>lap (e :: l) i j*x j)=sumTo n (fun j=>(e.w*(dl e.f i-dl e.t i))*(dl e.f j*x j +-(dl e.t j*x j))+lap l i j*x j):=sumTo_congr fun j _=>by
    show (e.w*(dl e.f i-dl e.t i)*(dl e.f j-dl e.t j)+lap l i j)*x j=_
    grind
   rw[e2,sumTo_add,sumTo_mul,sumTo_add,sumTo_neg,sumTo_dl hf,sumTo_dl ht]
   grind
  unfold quad
  have e3:sumTo n (fun i=>x i*sumTo n (fun j=>lap (e :: l) i j*x j))=sumTo n (fun i=>(e.w*(x e.f-x e.t))*(dl e.f i*x i +-(dl e.t i*x i))+x i*sumTo n (fun j=>lap l i j*x j)):=sumTo_congr fun i _=>by
   rw[e1 i]
   generalize sumTo n (fun j=>lap l i j*x j)=q
   grind
  rw[e3,sumTo_add,sumTo_mul,sumTo_add,sumTo_neg,sumTo_dl hf,sumTo_dl ht]
  unfold quad at ih
  rw[ih]
  show _=e.w*((x e.f-x e.t)*(x e.f-x e.t))+sqs x l
  grind
theorem sqs_nonneg (x:Nat→Int):∀ l:List Edge,(∀ e∈l,0<e.w)→0≤sqs x l
 | [],_=>by unfold sqs;omega
 | e :: l,h=>by
  have ih:=sqs_nonneg x l (fun a ha=>h a (List.mem_cons_of_mem _ ha))
  have h1:0≤(x e.f-x e.t)*(x e.f-x e.t):=by
   rcases Int.le_total 0 (x e.f-x e.t) with h2 | h2
   ·exact Int.mul_nonneg h2 h2
   exact Int.mul_nonneg_of_nonpos_of_nonpos h2 h2
  have h3:=Int.mul_nonneg (Int.le_of_lt (h e (List.mem_cons_self ..))) h1
  unfold sqs
  omega
theorem sqs_eq_zero (x:Nat→Int):∀ l:List Edge,(∀ e∈l,0<e.w)→sqs x l=0→∀ e∈l,x e.f=x e.t
 | [],_,_=>fun e he=>by cases he
 | e :: l,h,h0=>by
  have hw:=h e (List.mem_cons_self ..)
  have ih:=sqs_nonneg x l (fun a ha=>h a (List.mem_cons_of_mem _ ha))
  have h1:0≤(x e.f-x e.t)*(x e.f-x e.t):=by
   rcases Int.le_total 0 (x e.f-x e.t) with h2 | h2
   ·exact Int.mul_nonneg h2 h2
   exact Int.mul_nonneg_of_nonpos_of_nonpos h2 h2
  have h3:=Int.mul_nonneg (Int.le_of_lt hw) h1
  unfold sqs at h0
  have h4:e.w*((x e.f-x e.t)*(x e.f-x e.t))=0:=by omega
  have h5:x e.f=x e.t:=by
   rcases Int.mul_eq_zero.mp h4 with a | a
   ·omega
   rcases Int.mul_eq_zero.mp a with b | b <;> omega
  intro a ha
  rcases List.mem_cons.mp ha with rfl | hb
  ·exact h5
  exact sqs_eq_zero x l (fun a ha=>h a (List.mem_cons_of_mem _ ha)) (by omega) a hb
def Hangs (n:Nat) (l:List Edge):Prop:=∀ S:Nat→Bool,S 0=true→(∀ e∈l,S e.f=S e.t)→∀ p,p<n→S p=true
def red (A:Mat):Mat:=fun i j=>A (i+1) (j+1)
theorem quad_red (n:Nat) (A:Mat) (x:Nat→Int) (h:x 0=0):quad n (red A) (fun i=>x (i+1))=quad (n+1) A x:=by
 unfold quad
 rw[sumTo_first,h,Int.zero_mul,Int.zero_add]
 refine sumTo_congr fun i _=>?_
 rw[sumTo_first,h,Int.mul_zero,Int.zero_add]
 rfl
theorem pd_red {n:Nat} {l:List Edge} (hin:∀ e∈l,e.f<n+1∧e.t<n+1) (hw:∀ e∈l,0<e.w) (hh:Hangs (n+1) l):PD n (red (lap l)):=by
 intro x ⟨i,hi,hx⟩
 have h1:=quad_red n (lap l) (fun i=>match i with | 0=>0 | i+1=>x i) rfl
 have e0:(fun i=>(fun i=>match i with | 0=>0 | i+1=>x i:Nat→Int) (i+1))=x:=rfl
 rw[e0] at h1
 rw[h1,quad_lap _ l hin]
 have h2:=sqs_nonneg (fun i=>match i with | 0=>0 | i+1=>x i:Nat→Int) l hw
 rcases Int.lt_or_eq_of_le h2 with h3 | h3
 ·exact h3
 exfalso
 have h4:=sqs_eq_zero _ l hw h3.symm
 have h5:=hh (fun p=>decide ((fun i=>match i with | 0=>0 | i+1=>x i:Nat→Int) p=0)) (by simp) (fun e he=>congrArg (fun v:Int=>decide (v=0)) (h4 e he)) (i+1) (by omega)
 exact hx (by simpa using h5)
def rhs:List Edge→Nat→Int
 | [],_=>0
 | e :: l,p=>e.w*e.d*(dl e.t p-dl e.f p)+rhs l p
def ab (x:Int):Int:=(x.natAbs:Int)
theorem sumTo_le {n:Nat} {f g:Nat→Int} (h:∀ i,i<n→f i≤g i):sumTo n f≤sumTo n g:=by
 induction n with
 | zero=>exact Int.le_refl 0
 | succ n ih =>
  have h1:=ih (fun i hi=>h i (by omega))
  have h2:=h n (by omega)
  show sumTo n f+f n≤sumTo n g+g n
  omega
theorem sum_dl_le (n a:Nat):sumTo n (dl a)≤1:=by
 by_cases h:a<n
 ·have h1:=sumTo_dl h (fun _=>1)
  have e:sumTo n (fun i=>dl a i*1)=sumTo n (dl a):=sumTo_congr fun j _=>Int.mul_one _
  rw[←e,h1]
  exact Int.le_refl 1
 have e:sumTo n (dl a)=sumTo n (fun _=>0):=sumTo_congr fun j hj=>by unfold dl;rw[if_neg (by omega)]
 rw[e,sumTo_zero]
 decide
theorem sum_dl2_le (n a b:Nat):sumTo n (fun j=>ab (dl a j-dl b j))≤2:=by
 have h:sumTo n (fun j=>ab (dl a j-dl b j))≤sumTo n (fun j=>dl a j+dl b j):=sumTo_le fun j _=>by
  unfold ab dl
  split <;> split <;> decide
 rw[sumTo_add] at h
 have h1:=sum_dl_le n a
 have h2:=sum_dl_le n b
 omega
def wSum:List Edge→Int
 | []=>0
 | e :: l=>e.w+wSum l
theorem wSum_le {W:Int}:∀ l:List Edge,(∀ e∈l,e.w≤W)→wSum l≤W*l.length
 | [],_=>by show (0:Int)≤W*0;rw[Int.mul_zero];exact Int.le_refl 0
 | e :: l,h=>by
  have ih:=wSum_le l (fun a ha=>h a (List.mem_cons_of_mem _ ha))
  have h1:=h e (List.mem_cons_self ..)
  show e.w+wSum l≤W*((l.length+1:Nat):Int)
  rw[Int.natCast_add,Int.mul_add]
  have:W*((1:Nat):Int)=W:=Int.mul_one W
  omega
theorem pd_minor {n:Nat} {A:Mat} (h:PD (n+1) A):PD n (minor A 0):=by
 intro x ⟨i,hi,hx⟩
 have h1:=h (fun i=>match i with | 0=>0 | i+1=>x i) ⟨i+1,by omega,hx⟩
 have e1:quad (n+1) A (fun i=>match i with | 0=>0 | i+1=>x i)=quad n (minor A 0) x:=by
  unfold quad
  rw[sumTo_first]
  show (0:Int)*_+sumTo n (fun i=>x i*sumTo (n+1) (fun j=>A (i+1) j*(match j with | 0=>0 | j+1=>x j)))=_
  rw[Int.zero_mul,Int.zero_add]
  refine sumTo_congr fun i hi=>?_
  rw[sumTo_first]
  show x i*(A (i+1) 0*0+sumTo n (fun j=>A (i+1) (j+1)*x j))=x i*sumTo n (fun j=>A (i+1) (skipI 0 j)*x j)
  rw[Int.mul_zero,Int.zero_add]
  rfl
 rw[e1] at h1
 exact h1
theorem quad_nonneg {n:Nat} {A:Mat} (h:PD n A) (x:Nat→Int):0≤quad n A x:=by
 by_cases hx:∃ i,i<n∧x i≠0
 ·exact Int.le_of_lt (h x hx)
 have e:quad n A x=sumTo n (fun _=>0):=by
  unfold quad
  refine sumTo_congr fun i hi=>?_
  have:x i=0:=by
   rcases Decidable.em (x i=0) with h1 | h1
   ·exact h1
   exact absurd ⟨i,hi,h1⟩ hx
  rw[this,Int.zero_mul]
 rw[e,sumTo_zero]
 exact Int.le_refl 0
def diag:Nat→Mat→Int
 | 0,_=>1
 | n+1,A=>A 0 0*diag n (minor A 0)
theorem det_border {n:Nat} (A:Mat) (hs:∀ i j,A i j=A j i):detN (n+1) A=A 0 0*detN n (minor A 0)-sumTo n (fun j=>A 0 (j+1)*detN n (colPut (minor A 0) j (fun i=>A 0 (i+1)))):=by
 have h1:detN (n+1) A=sumTo (n+1) (fun c=>sg c*A 0 c*detN n (minor A c)):=rfl
 rw[h1,sumTo_first]
 have e0:sg 0*A 0 0*detN n (minor A 0)=A 0 0*detN n (minor A 0):=by
  show (1:Int)*_*_=_
  rw[Int.one_mul]
 have e1:sumTo n (fun j=>sg (j+1)*A 0 (j+1)*detN n (minor A (j+1)))=sumTo n (fun j=>- (A 0 (j+1)*detN n (colPut (minor A 0) j (fun i=>A 0 (i+1))))):=sumTo_congr fun j hj=>by
  have e2:minor A (j+1)=onWay (minor A 0) j (fun i=>A 0 (i+1)) 0:=by
   funext i k
   show A (i+1) (skipI (j+1) k)=_
   unfold onWay minor skipI
   have:=hs 0 (i+1)
   grind
  have e3:=det_onWay n (minor A 0) (fun i=>A 0 (i+1)) hj j (Nat.le_refl j)
  rw[onWay_end] at e3
  have e5:=sg_sq j
  rw[e2,e3,sg_succ]
  grind
 rw[e0,e1,sumTo_neg]
 omega
theorem hadamard:∀ (n:Nat) (A:Mat),(∀ i j,A i j=A j i)→PD n A→(∀ i,0≤A i i)→detN n A≤diag n A
 | 0,_,_,_,_=>Int.le_refl 1
 | n+1,A,hs,h,hd=>by
  have hm:=pd_minor h
  have ih:=hadamard n (minor A 0) (fun i j=>hs (i+1) (j+1)) hm (fun i=>hd (i+1))
  have hp:=det_pos n (minor A 0) hm
  rw[det_border A hs]
  have e:quad n (minor A 0) (fun j=>detN n (colPut (minor A 0) j (fun i=>A 0 (i+1))))=detN n (minor A 0)*sumTo n (fun j=>A 0 (j+1)*detN n (colPut (minor A 0) j (fun i=>A 0 (i+1)))):=by
   unfold quad
   rw[←sumTo_mul]
   refine sumTo_congr fun p hp=>?_
   rw[cramer n (minor A 0) (fun i=>A 0 (i+1)) hp]
   grind
  have hq:=quad_nonneg hm (fun j=>detN n (colPut (minor A 0) j (fun i=>A 0 (i+1))))
  rw[e] at hq
  have h0:0≤sumTo n (fun j=>A 0 (j+1)*detN n (colPut (minor A 0) j (fun i=>A 0 (i+1)))):=by
   rcases Int.lt_or_le (sumTo n (fun j=>A 0 (j+1)*detN n (colPut (minor A 0) j (fun i=>A 0 (i+1))))) 0 with h2 | h2
   ·have:=Int.mul_neg_of_pos_of_neg hp h2
    omega
   exact h2
  have h3:=Int.mul_le_mul_of_nonneg_left ih (hd 0)
  show _≤A 0 0*diag n (minor A 0)
  omega
def prodL:List Int→Int
 | []=>1
 | x :: l=>x*prodL l
def sumL:List Int→Int
 | []=>0
 | x :: l=>x+sumL l
theorem prodL_perm {l m:List Int} (h:l.Perm m):prodL l=prodL m:=by
 induction h with
 | nil=>rfl
 | cons x _ ih=>unfold prodL;rw[ih]
 | swap x y l=>unfold prodL;unfold prodL;grind
 | trans _ _ h1 h2=>rw[h1,h2]
theorem sumL_perm {l m:List Int} (h:l.Perm m):sumL l=sumL m:=by
 induction h with
 | nil=>rfl
 | cons x _ ih=>unfold sumL;rw[ih]
 | swap x y l=>unfold sumL;unfold sumL;omega
 | trans _ _ h1 h2=>rw[h1,h2]
theorem prodL_nonneg:∀ l:List Int,(∀ x∈l,0≤x)→0≤prodL l
 | [],_=>by unfold prodL;omega
 | x :: l,h=>Int.mul_nonneg (h x (List.mem_cons_self ..)) (prodL_nonneg l (fun a ha=>h a (List.mem_cons_of_mem _ ha)))
theorem prodL_le {m:Int} (hm:0≤m):∀ l:List Int,(∀ x∈l,0≤x∧x≤m)→prodL l≤m ^ l.length
 | [],_=>by show (1:Int)≤m ^ 0;rw[Int.pow_zero];exact Int.le_refl 1
 | x :: l,h=>by
  have ih:=prodL_le hm l (fun a ha=>h a (List.mem_cons_of_mem _ ha))
  have hn:=prodL_nonneg l (fun a ha=>(h a (List.mem_cons_of_mem _ ha)).1)
  obtain⟨h0,h1⟩:=h x (List.mem_cons_self ..)
  show x*prodL l≤m ^ (l.length+1)
  rw[Int.pow_succ,Int.mul_comm]
  exact Int.mul_le_mul ih h1 h0 (Int.pow_nonneg hm)
theorem sumL_ge {m:Int}:∀ l:List Int,(∀ x∈l,m≤x)→m*l.length≤sumL l
 | [],_=>by show m*0≤0;rw[Int.mul_zero];exact Int.le_refl 0
 | x :: l,h=>by
  have ih:=sumL_ge l (fun a ha=>h a (List.mem_cons_of_mem _ ha))
  have h1:=h x (List.mem_cons_self ..)
  show m*((l.length+1:Nat):Int)≤x+sumL l
  rw[Int.natCast_add,Int.mul_add]
  have:m*((1:Nat):Int)=m:=Int.mul_one m
  omega
theorem mean_prod {m:Int} (hm:0≤m):∀ (n:Nat) (l:List Int),l.length=n→(∀ x∈l,0≤x)→sumL l≤m*n→prodL l≤m ^ n
 | 0,l,hl,_,_=>by
  obtain rfl:l=[]:=List.length_eq_zero_iff.mp hl
  show (1:Int)≤m ^ 0;rw[Int.pow_zero];exact Int.le_refl 1
 | n+1,l,hl,h0,hs=>by
  by_cases hb:∃ b,b∈l∧m<b
  ·obtain⟨b,hbl,hbm⟩:=hb
   have p1:=List.perm_cons_erase hbl
   have len1:(l.erase b).length=n:=by rw[List.length_erase_of_mem hbl];omega
   rw[prodL_perm p1]
   rw[sumL_perm p1] at hs
   have h1:∀ x∈l.erase b,0≤x:=fun x hx=>h0 x (List.mem_of_mem_erase hx)
   generalize l.erase b=l1 at *
   have hs1:b+sumL l1≤m*((n+1:Nat):Int):=hs
   have hn1:m*((n+1:Nat):Int)=m*(n:Int)+m:=by rw[Int.natCast_add,Int.mul_add];simp
   rw[hn1] at hs1
   have ha:∃ a,a∈l1∧a<m:=by
    rcases Decidable.em (∃ a,a∈l1∧a<m) with h | h
    ·exact h
    exfalso
    have h2:=sumL_ge (m:=m) l1 (fun x hx=>by
     rcases Int.lt_or_le x m with h3 | h3
     ·exact absurd ⟨x,hx,h3⟩ h
     exact h3)
    rw[len1] at h2
    omega
   obtain⟨a,hal,ham⟩:=ha
   have p2:=List.perm_cons_erase hal
   have len2:(l1.erase a).length=n-1:=by rw[List.length_erase_of_mem hal];omega
   have hpos:0<l1.length:=List.length_pos_of_mem hal
   have h2:∀ x∈l1.erase a,0≤x:=fun x hx=>h1 x (List.mem_of_mem_erase hx)
   have ha0:=h1 a hal
   show b*prodL l1≤m ^ (n+1)
   rw[prodL_perm p2]
   rw[sumL_perm p2] at hs1
   generalize l1.erase a=l2' at *
   have hs2:b+(a+sumL l2')≤m*(n:Int)+m:=hs1
   have ih:=mean_prod hm n ((a+b-m) :: l2') (by simp only[List.length_cons];omega) (fun x hx=>by
    rcases List.mem_cons.mp hx with rfl | hx
    ·omega
    exact h2 x hx) (by show a+b-m+sumL l2'≤m*n;omega)
   have hn:=prodL_nonneg l2' h2
   show b*(a*prodL l2')≤m ^ (n+1)
   have h3:(a+b-m)*prodL l2'≤m ^ n:=ih
   have h4:=Int.mul_le_mul_of_nonneg_right h3 hm
   have h5:0≤(m-a)*(b-m):=Int.mul_nonneg (by omega) (by omega)
   have h6:=Int.mul_nonneg h5 hn
   rw[Int.pow_succ]
   have e:(a+b-m)*prodL l2'*m=b*(a*prodL l2')+(m-a)*(b-m)*prodL l2':=by grind
   omega
  have h1:=prodL_le hm l (fun x hx=>⟨h0 x hx,by
   rcases Int.lt_or_le m x with h2 | h2
   ·exact absurd ⟨x,hx,h2⟩ hb
   exact h2⟩)
  rw[hl] at h1
  exact h1
def line:Nat→Mat→List Int
 | 0,_=>[]
 | n+1,A=>A 0 0 :: line n (minor A 0)
theorem diag_line:∀ (n:Nat) (A:Mat),diag n A=prodL (line n A)
 | 0,_=>rfl
 | n+1,A=>by
  show A 0 0*diag n (minor A 0)=A 0 0*prodL (line n (minor A 0))
  rw[diag_line n (minor A 0)]
theorem line_length:∀ (n:Nat) (A:Mat),(line n A).length=n
 | 0,_=>rfl
 | n+1,A=>by show (line n (minor A 0)).length+1=n+1;rw[line_length n]
theorem line_nonneg:∀ (n:Nat) (A:Mat),(∀ i,0≤A i i)→∀ x∈line n A,0≤x
 | 0,_,_=>fun x hx=>by cases hx
 | n+1,A,h=>fun x hx=>by
  rcases List.mem_cons.mp hx with rfl | hx
  ·exact h 0
  exact line_nonneg n (minor A 0) (fun i=>h (i+1)) x hx
theorem sumL_line:∀ (n:Nat) (A:Mat),sumL (line n A)=sumTo n (fun i=>A i i)
 | 0,_=>rfl
 | n+1,A=>by
  show A 0 0+sumL (line n (minor A 0))=_
  rw[sumL_line n (minor A 0),sumTo_first]
  rfl
theorem lap_sym:∀ (l:List Edge) (i j:Nat),lap l i j=lap l j i
 | [],_,_=>rfl
 | e :: l,i,j=>by
  show _+lap l i j=_+lap l j i
  rw[lap_sym l i j]
  grind
theorem lap_diag_nonneg:∀ (l:List Edge) (i:Nat),(∀ e∈l,0<e.w)→0≤lap l i i
 | [],_,_=>Int.le_refl 0
 | e :: l,i,h=>by
  have ih:=lap_diag_nonneg l i (fun a ha=>h a (List.mem_cons_of_mem _ ha))
  have hw:=h e (List.mem_cons_self ..)
  show 0≤e.w*(dl e.f i-dl e.t i)*(dl e.f i-dl e.t i)+lap l i i
  unfold dl
  split <;> split <;> omega
theorem lap_trace (n:Nat):∀ l:List Edge,(∀ e∈l,0<e.w)→sumTo n (fun i=>lap l i i)≤2*wSum l
 | [],_=>by
  show sumTo n (fun _=>0)≤0
  rw[sumTo_zero];exact Int.le_refl 0
 | e :: l,h=>by
  have ih:=lap_trace n l (fun a ha=>h a (List.mem_cons_of_mem _ ha))
  have hw:=h e (List.mem_cons_self ..)
  have h1:sumTo n (fun i=>lap (e :: l) i i)≤sumTo n (fun i=>e.w*ab (dl e.f i-dl e.t i)+lap l i i):=sumTo_le fun i _=>by
   show e.w*(dl e.f i-dl e.t i)*(dl e.f i-dl e.t i)+lap l i i≤e.w*ab (dl e.f i-dl e.t i)+lap l i i
   unfold dl
   split <;> split <;> simp[ab] <;> omega
  refine Int.le_trans h1 ?_
  rw[sumTo_add,sumTo_mul]
  have h6:=Int.mul_le_mul_of_nonneg_left (sum_dl2_le n e.f e.t) (Int.le_of_lt hw)
  show _≤2*(e.w+wSum l)
  omega
theorem net_det_le {n:Nat} {l:List Edge} (hn:n≤5) (hl:l.length≤20) (hin:∀ e∈l,e.f<n+1∧e.t<n+1) (h:∀ e∈l,1≤e.w∧e.w≤10) (hh:Hangs (n+1) l) :
  0<detN n (red (lap l))∧detN n (red (lap l))≤4000000000:=by
 have hw:∀ e∈l,0<e.w:=fun e he=>by have:=(h e he).1;omega
 have hp:=pd_red hin hw hh
 refine⟨det_pos n _ hp,?_⟩
 have h1:=hadamard n (red (lap l)) (fun i j=>lap_sym l (i+1) (j+1)) hp (fun i=>lap_diag_nonneg l (i+1) hw)
 rw[diag_line] at h1
 refine Int.le_trans h1 ?_
 have ht:sumL (line n (red (lap l)))≤400:=by
  rw[sumL_line]
  have h2:=lap_trace (n+1) l hw
  rw[sumTo_first] at h2
  have h3:=lap_diag_nonneg l 0 hw
  have h4:=wSum_le (W:=10) l (fun e he=>(h e he).2)
  show sumTo n (fun i=>lap l (i+1) (i+1))≤400
  omega
 have hnn:=line_nonneg n (red (lap l)) (fun i=>lap_diag_nonneg l (i+1) hw)
 have:n=0∨n=1∨n=2∨n=3∨n=4∨n=5:=by omega
 rcases this with rfl | rfl | rfl | rfl | rfl | rfl
 ·exact Int.le_trans (mean_prod (m:=80) (by decide) 0 _ (line_length _ _) hnn (by show (0:Int)≤_;decide)) (by decide)
 ·exact Int.le_trans (mean_prod (m:=400) (by decide) 1 _ (line_length _ _) hnn (by omega)) (by decide)
 ·exact Int.le_trans (mean_prod (m:=200) (by decide) 2 _ (line_length _ _) hnn (by omega)) (by decide)
 ·exact Int.le_trans (mean_prod (m:=134) (by decide) 3 _ (line_length _ _) hnn (by omega)) (by decide)
 ·exact Int.le_trans (mean_prod (m:=100) (by decide) 4 _ (line_length _ _) hnn (by omega)) (by decide)
 exact Int.le_trans (mean_prod (m:=80) (by decide) 5 _ (line_length _ _) hnn (by omega)) (by decide)
end Go.Proofs.YthfokpchdlcidaaGreat.Cal
namespace Go.Proofs.YthfokpchdlcidaaGreat.Cal
theorem stepE_sub {S T:Nat→Bool} {e:Edge} (h:∀ p,S p=true→T p=true) (hT:T e.f=T e.t):∀ p,stepE S e p=true→T p=true:=by
 intro p hp
 unfold stepE at hp
 by_cases a:(S e.f || S e.t)=true
 ·rw[if_pos a] at hp
  have hft:T e.f=true∧T e.t=true:=by
   rcases Bool.or_eq_true _ _ ▸ a with b | b
   ·exact⟨h _ b,hT ▸ h _ b⟩
   exact⟨hT ▸ h _ b,h _ b⟩
  simp only[Bool.or_eq_true,decide_eq_true_eq] at hp
  rcases hp with (rfl | rfl) | hp
  ·exact hft.1
  ·exact hft.2
  exact h p hp
 rw[if_neg a] at hp
 exact h p hp
theorem sweep1_sub {T:Nat→Bool}:∀ (l:List Edge) (S:Nat→Bool),(∀ e∈l,T e.f=T e.t)→(∀ p,S p=true→T p=true)→∀ p,sweep1 l S p=true→T p=true
 | [],_,_,h=>h
 | e :: l,S,hT,h=>sweep1_sub l (stepE S e) (fun a ha=>hT a (List.mem_cons_of_mem _ ha)) (stepE_sub h (hT e (List.mem_cons_self ..)))
theorem sweeps_sub {T:Nat→Bool} (l:List Edge) (hT:∀ e∈l,T e.f=T e.t):∀ (n:Nat) (S:Nat→Bool),(∀ p,S p=true→T p=true)→∀ p,sweeps l n S p=true→T p=true
 | 0,_,h=>h
 | n+1,S,h=>sweeps_sub l hT n (sweep1 l S) (sweep1_sub l S hT h)
theorem hangs_of_sweeps {n m:Nat} {l:List Edge} (h:∀ p,p<n→sweeps l m only0 p=true):Hangs n l:=fun T h0 hT p hp =>
 sweeps_sub l hT m only0 (fun q hq=>by
  have:q=0:=by simpa [only0] using hq
  rw[this];exact h0) p (h p hp)
end Go.Proofs.YthfokpchdlcidaaGreat.Cal
namespace Go.Proofs.YthfokpchdlcidaaGreat.Cal
theorem gcd_step (a b:Int):Int.gcd b (a.tmod b)=Int.gcd a b:=by
 unfold Int.gcd
 rw[Int.natAbs_tmod,Nat.gcd_comm b.natAbs,←Nat.gcd_rec,Nat.gcd_comm]
theorem gcd_end (a:Int):Int.gcd a 0=a.natAbs:=by
 unfold Int.gcd;simp
theorem step_less {a b:Int} (hb:b≠0):(a.tmod b).natAbs<b.natAbs:=by
 rw[Int.natAbs_tmod]
 exact Nat.mod_lt _ (by omega)
def lowN (a b:Int):Int:=a.tdiv (Int.gcd a b)
end Go.Proofs.YthfokpchdlcidaaGreat.Cal
namespace Go.Proofs.YthfokpchdlcidaaGreat
open Go Go.RowKit Go.Shelf
structure MatR (w:World) (A:Option Addr) (M:List (List Int)) (vs:List Value):Prop where
 rows:RowsAt w A 1 (vs.map fun v=>[v])
 len:vs.length=M.length
 row:∀ (i:Nat) (r:List Int),M[i]?=some r→∃ (Ai:Option Addr) (ci:Nat),vs[i]?=some (Value.slice Ai r.length ci)∧r.length≤ci∧RowsAt w Ai 1 (intRows r)
theorem MatR.below {w w':World} {A:Option Addr} {M:List (List Int)} {vs:List Value} (h:MatR w A M vs) (hb:Below w.heap.size w w'):MatR w' A M vs :=
 ⟨h.rows.below hb,h.len,fun i r hi=>by obtain⟨Ai,ci,h1,h2,h3⟩:=h.row i r hi;exact⟨Ai,ci,h1,h2,h3.below hb⟩⟩
theorem MatR.at_ {w:World} {A:Option Addr} {M:List (List Int)} {vs:List Value} (h:MatR w A M vs) {i:Nat} {r:List Int} (hi:M[i]?=some r) :
  ∃ (b o:Nat) (Ai:Option Addr) (ci:Nat),A=some ⟨b,o,none⟩∧b<w.heap.size∧w.cell? ⟨b,o+i,none⟩=some (Value.slice Ai r.length ci)∧r.length≤ci∧RowsAt w Ai 1 (intRows r):=by
 obtain⟨Ai,ci,h1,h2,h3⟩:=h.row i r hi
 obtain⟨b,o,hA,hb,hc⟩:=h.rows i [.slice Ai r.length ci] (by simp[h1])
 have:=hc 0 _ rfl
 simp only[Nat.mul_one,Nat.add_zero] at this
 exact⟨b,o,Ai,ci,hA,hb,this,h2,h3⟩
theorem MatR.drop {w:World} {A A1:Option Addr} {M:List (List Int)} {vs:List Value} (h:MatR w A M vs) {k:Nat} (hr:RowsAt w A1 1 ((vs.map fun v=>[v]).drop k)):MatR w A1 (M.drop k) (vs.drop k) :=
 ⟨by rw[List.map_drop];exact hr,by rw[List.length_drop,List.length_drop,h.len],fun i r hi=>by
  rw[List.getElem?_drop] at hi
  obtain⟨Ai,ci,h1,h2,h3⟩:=h.row (k+i) r hi
  exact⟨Ai,ci,by rw[List.getElem?_drop];exact h1,h2,h3⟩⟩
structure MatO (w:World) (B:Nat) (v:Value) (M:List (List Int)) (vs:List Value):Prop where
 own:OwnL w B 30 1 v (vs.map fun v=>[v])
 len:vs.length=M.length
 row:∀ (i:Nat) (r:List Int),M[i]?=some r→∃ (Ai:Option Addr) (ci:Nat),vs[i]?=some (Value.slice Ai r.length ci)∧r.length≤ci∧RowsAt w Ai 1 (intRows r)∧∀ ad,Ai=some ad→0<r.length→ad.block<w.heap.size∧v.ownBlock≠some ad.block
theorem MatO.nil (w:World) (B:Nat):MatO w B (.slice none 0 0) [] []:=⟨OwnL.nil _ _ _ _,rfl,fun i r h=>by simp at h⟩
theorem MatO.below {w w':World} {B:Nat} {v:Value} {M:List (List Int)} {vs:List Value} (h:MatO w B v M vs) (hb:Below w.heap.size w w'):MatO w' B v M vs :=
 ⟨h.own.below hb,h.len,fun i r hi=>by
  obtain⟨Ai,ci,h1,h2,h3,h4⟩:=h.row i r hi
  exact⟨Ai,ci,h1,h2,h3.below hb,fun ad e hl=>⟨Nat.lt_of_lt_of_le (h4 ad e hl).1 hb.size,(h4 ad e hl).2⟩⟩⟩
theorem MatO.read {w:World} {B:Nat} {v:Value} {M:List (List Int)} {vs:List Value} (h:MatO w B v M vs):∃ A c,v=.slice A M.length c∧M.length≤c∧MatR w A M vs:=by
 obtain⟨A,c,e,hr⟩:=h.own.form
 have hcap:M.length≤c:=by
  have:=h.own.own.2
  rw[e,List.length_map,h.len] at this
  rcases this with ⟨h1,h2⟩ | ⟨g,cap,cur,h1,_,_,h2,_⟩
  ·simp only[Value.slice.injEq] at h1;omega
  simp only[Value.slice.injEq] at h1;omega
 refine⟨A,c,by rw[e,List.length_map,h.len],hcap,hr,h.len,fun i r hi=>?_⟩
 obtain⟨Ai,ci,h1,h2,h3,_⟩:=h.row i r hi
 exact⟨Ai,ci,h1,h2,h3⟩
theorem RowsAt.grown1 {w w':World} {A:Option Addr} {zs:List Int} {row:Option Nat} (h:RowsAt w A 1 (intRows zs)) (hg:w.grownBy w' row) (hA:∀ ad,A=some ad→0<zs.length→row≠some ad.block):RowsAt w' A 1 (intRows zs):=fun j r hj=>by
 obtain⟨b,o,e,hb,hc⟩:=h j r hj
 have hl:0<zs.length:=by
  have:=(List.getElem?_eq_some_iff.1 hj).1
  rw[intRows_length] at this
  omega
 have hne:=hA _ e hl
 refine⟨b,o,e,Nat.lt_of_lt_of_le hb hg.size,fun i v hv=>?_⟩
 exact (World.cell?_of_block (a:=⟨b,o+(j*1+i),none⟩) (hg.block b hb (fun e=>hne e.symm))).trans (hc i v hv)
theorem MatO.push {w w':World} {B Bs:Nat} {v v':Value} {M:List (List Int)} {vs:List Value} (h:MatO w B v M vs) {A:Option Addr} {c:Nat} {r:List Int} (hr:IntsL w Bs (.slice A r.length c) r) (hvB:∀ g,v.ownBlock=some g→g<Bs)
  (hown:OwnL w' B 30 1 v' ((vs.map fun v=>[v]) ++ [[.slice A r.length c]])) (hg:w.grownBy w' v.ownBlock) (hob:v'.ownBlock=v.ownBlock∨v'.ownBlock=some w.heap.size):MatO w' B v' (M ++ [r]) (vs ++ [.slice A r.length c]):=by
 have hcap:r.length≤c:=by
  have:=(IntsL.own hr).2
  rcases this with ⟨h1,h2⟩ | ⟨g,cap,cur,h1,_,_,h2,_⟩
  ·simp only[Value.slice.injEq] at h1;omega
  simp only[Value.slice.injEq] at h1;omega
 have hrA:∀ ad,A=some ad→0<r.length→Bs≤ad.block∧ad.block<w.heap.size:=fun ad e hl=>by
  have:=(IntsL.own hr).2
  rcases this with ⟨h1,h2⟩ | ⟨g,cap,cur,h1,h3,h4,h2,_⟩
  ·omega
  simp only[Value.slice.injEq] at h1
  rw[e] at h1
  obtain⟨h1,_⟩:=h1
  cases h1
  exact⟨h3,(Array.getElem?_eq_some_iff.1 h4).1⟩
 obtain⟨A',c',e',hrow⟩:=hr.rows
 have hrow':RowsAt w A 1 (intRows r):=by
  simp only[Value.slice.injEq] at e'
  rw[e'.1];exact hrow
 refine⟨by rw[List.map_append];exact hown,by simp[h.len],fun i q hi=>?_⟩
 by_cases hlt:i<M.length
 ·rw[List.getElem?_append_left hlt] at hi
  obtain⟨Ai,ci,h1,h2,h3,h4⟩:=h.row i q hi
  refine⟨Ai,ci,by rw[List.getElem?_append_left (by rw[h.len];exact hlt)];exact h1,h2,h3.grown1 hg (fun ad e hl=>(h4 ad e hl).2),fun ad e hl=>⟨Nat.lt_of_lt_of_le (h4 ad e hl).1 hg.size,?_⟩⟩
  rcases hob with o | o
  ·rw[o];exact (h4 ad e hl).2
  rw[o];intro e2;have:=Option.some.inj e2;have:=(h4 ad e hl).1;omega
 have hie:i=M.length:=by
  have:=(List.getElem?_eq_some_iff.1 hi).1
  simp at this;omega
 subst hie
 have hq:r=q:=by simpa using hi
 subst hq
 refine⟨A,c,by rw[←h.len];simp,hcap,hrow'.grown1 hg (fun ad e hl e2=>?_),fun ad e hl=>⟨Nat.lt_of_lt_of_le (hrA ad e hl).2 hg.size,?_⟩⟩
 ·have:=hvB _ e2;have:=(hrA ad e hl).1;omega
 rcases hob with o | o
 ·rw[o];intro e2;have:=hvB _ e2;have:=(hrA ad e hl).1;omega
 rw[o];intro e2;have:=Option.some.inj e2;have:=(hrA ad e hl).2;omega
theorem elemRow:Elem Tryz.prog 118 30 1 24:=Elem.mk' Tryz.underlying118 (z:=.slice none 0 0) (by kernel_rfl) rfl (by decide)
theorem undMat:Tryz.prog.underlying 118=some (.slice (Tryz.prog.elem 118)):=by kernel_rfl
theorem sizeMat (w:World):(sizeOf (Tryz.prog.elem 118)).run Tryz.prog w=.ok 1 w:=by kernel_rfl
end Go.Proofs.YthfokpchdlcidaaGreat
namespace Go.Proofs.YthfokpchdlcidaaGreat
open Go Go.RowKit Go.Shelf
theorem off_step {r:List Int} {q k:Nat} (h:k<r.length):offC q (r.take (k+1))=if k=q then offC q (r.take k) else offC q (r.take k) ++ [r[k]]:=by
 unfold offC
 rw[List.take_succ_eq_append_getElem h]
 by_cases hk:k=q
 ·rw[if_pos hk]
  subst hk
  rw[List.eraseIdx_append_of_length_le (by rw[List.length_take];omega),List.length_take,Nat.min_eq_left (by omega),Nat.sub_self,List.eraseIdx_of_length_le (l:=r.take k) (by rw[List.length_take];omega)]
  simp
 rw[if_neg hk]
 by_cases hlt:k<q
 ·rw[List.eraseIdx_of_length_le (l:=r.take k ++ [r[k]]) (by rw[List.length_append,List.length_take,List.length_singleton];omega),List.eraseIdx_of_length_le (l:=r.take k) (by rw[List.length_take];omega)]
 rw[List.eraseIdx_append_of_lt_length (by rw[List.length_take];omega)]
structure SmM (M:List (List Int)):Prop where
 len:M.length≤1000
 row:∀ r∈M,r.length≤1000
theorem offC_length (q:Nat) (r:List Int):(offC q r).length≤r.length:=by unfold offC;exact (List.eraseIdx_sublist r q).length_le
theorem without_any (A:Option Addr) (c:Nat) (M:List (List Int)) (vs:List Value) (q:Nat) (w:World) (hM:MatR w A M vs) (hcap:M.length≤c) (h1:1≤M.length) (hs:SmM M) (hq:q≤1000) :
  Calls Tryz.prog 70 #[.slice A M.length c,.int .i64 (q:Int)] w fun e w'=>∃ v us,e=.returned v∧MatO w' w.heap.size v (minorL q M) us∧Below w.heap.size w w':=by
 have hvl:(vs.map fun v=>[v]).length=M.length:=by rw[List.length_map,hM.len]
 obtain⟨A1,c1,hcut,hc1,hrows⟩:=cut_tail undMat sizeMat hvl.symm hM.rows hcap (k:=1) h1
 have hR:=Lib.hid (hM.drop hrows)
 have hlen:M.length-1=(M.drop 1).length:=by rw[List.length_drop]
 have hsz:(M.drop 1).length≤1000:=by have:=hs.len;omega
 have hsr:Hid (∀ r∈M.drop 1,r.length≤1000):=fun r hr=>hs.row r (List.mem_of_mem_drop hr)
 rw[hlen] at hcut hc1
 obtain⟨D,hD⟩:∃ D,M.drop 1=D:=⟨_,rfl⟩
 have hmin:Hid (minorL q M=D.map (offC q)):=by show _=_;unfold minorL;rw[hD]
 obtain⟨us0,hus⟩:∃ us,vs.drop 1=us:=⟨_,rfl⟩
 rw[hD] at hcut hc1 hR hsz hsr hlen
 rw[hus] at hR
 rw[hmin.out]
 obtain⟨L0,hL0⟩:∃ L,M.length=L:=⟨_,rfl⟩
 rw[hL0] at hcut ⊢
 have hcut2:∀ w',(Instr.slice 118 (.slice A L0 c) (some (.int .i64 1)) none none).run Tryz.prog w'=.ok (.slice A1 D.length c1) w':=hcut
 clear hcut
 clear hrows hus hD hM hs hmin hvl hlen hcap h1 hL0
 have hO0:Hid (MatO w w.heap.size (.slice none 0 0) ((D.take 0).map (offC q)) []):=MatO.nil _ _
 have hb0:Hid (Below w.heap.size w w):=Below.refl _ _
 go_enter Tryz.func70,Tryz.ntmps70
 go_wp2_with fail
 clear hcut2
 go_loopw [5,14] (fun ov i wr=>∃ (k:Nat) (us:List Value) (v:Value),k≤D.length∧i=.int .i64 k∧ov=v∧Hid (MatO wr w.heap.size v ((D.take k).map (offC q)) us)∧Hid (Below w.heap.size w wr)) (fun _ i _=>D.length-(intOf i).toNat)
 case atStart=>exact⟨0,[],_,Nat.zero_le _,rfl,rfl,hO0,hb0⟩
 case round =>
  clear hO0 hb0
  obtain⟨k,us,v,hk,rfl,rfl,hO,hb⟩:=hrel
  generalize hwo:wr=wo at *
  clear hwo wr
  by_cases hlt:k<D.length
  ·have hk':D[k]?=some D[k]:=List.getElem?_eq_getElem hlt
   have hrl:=hsr.out _ (List.getElem_mem hlt)
   have htk:=Lib.hid (show (D.take (k+1)).map (offC q)=(D.take k).map (offC q) ++ [offC q D[k]] by rw[List.take_succ_eq_append_getElem hlt,List.map_append];rfl)
   obtain⟨b,o,Ai,ci,rfl,hbl,c0,hci,hrow⟩:=(hR.out.below hb.out).at_ hk'
   generalize D[k]=r at *
   have hrow:=Lib.hid hrow
   have hI0:Hid (IntsL wo wo.heap.size (.slice none 0 0) (offC q (r.take 0))):=OwnL.nil _ _ _ _
   have hb0:Hid (Below wo.heap.size wo wo):=Below.refl _ _
   clear hk'
   go_wp2_with fail
   clear c0
   have hvB:=Lib.hid (fun g e=>(OwnL.lt hO.out.own g e).2)
   go_loopw [8,20] (fun rw i wr=>∃ (m:Nat) (rv:Value),m≤r.length∧i=.int .i64 m∧rw=rv∧Hid (IntsL wr wo.heap.size rv (offC q (r.take m)))∧Hid (Below wo.heap.size wo wr)) (fun _ i _=>r.length-(intOf i).toNat)
   case atStart=>exact⟨0,_,Nat.zero_le _,rfl,rfl,hI0,hb0⟩
   case round =>
    clear hI0 hb0
    obtain⟨m,rv,hm,rfl,rfl,hI,hbi⟩:=hrel
    by_cases hmlt:m<r.length
    ·obtain⟨b2,o2,rfl,hb2,e0⟩:=intsI_at (hrow.out.below hbi.out) hmlt
     have hst:=off_step (q:=q) hmlt
     have hol:(offC q (r.take m)).length≤1000:=Nat.le_trans (offC_length _ _) (by rw[List.length_take];omega)
     generalize r[m]=x at *
     by_cases hmq:m=q
     ·rw[if_pos hmq] at hst
      have hI2:Hid (IntsL wr wo.heap.size u8 (offC q (r.take (m+1)))):=by show IntsL _ _ _ _;rw[hst];exact hI.out
      subst hmq
      clear hst hI
      go_wp2_with fail
      go_roundw
      case rel=>exact⟨m+1,_,by omega,by go_num,rfl,hI2,hbi⟩
      case measure=>simp[intOf];omega
     rw[if_neg hmq] at hst
     have hmq2:((m:Int) == (q:Int))=false:=by simp;omega
     have hmq3:¬(m:Int)=(q:Int):=by omega
     have hst:=Lib.hid hst
     have hown5:Hid (IntsL (wr.alloc (.cells #[.int .i64 x] 3)) wo.heap.size u8 (offC q (r.take m))):=hI.out.below (below_alloc _ _)
     have hsrc:Hid (RowsAt (wr.alloc (.cells #[.int .i64 x] 3)) (some ⟨wr.heap.size,0,none⟩) 1 (intRows [x])):=rowsAt_new wr [.int .i64 x] 3
     have hbs:=hbi.out.size
     clear hI
     go_wp2_with (at_builtin;go_must (refine wpList_append_rows elemInt rfl _ _ rfl rfl rfl hown5.out hsrc.out rfl (intRows_wid [x]) (intRows_one [x]) (by simp only[intRows_length,List.length_singleton];omega) (by decide) (by (try simp);omega) ?_);intro v' w5 hown6 hg6 _)
     have hb6:Hid (Below wo.heap.size wo w5):=hbi.out.trans (((Below.refl _ _).alloc hbs _).trans (grown_below hg6 (fun g e=>(OwnL.lt hown5.out g e).1) (by simp;omega)))
     have hI2:Hid (IntsL w5 wo.heap.size v' (offC q (r.take (m+1)))):=by show OwnL _ _ _ _ _ _;rw[hst.out];unfold intRows;rw[List.map_append];exact hown6
     clear hown6 hg6 hown5 hsrc hbi
     go_wp2_with fail
     go_roundw
     case rel=>exact⟨m+1,_,by omega,by go_num,rfl,hI2,hb6⟩
     case measure=>simp[intOf];omega
    obtain rfl:m=r.length:=by omega
    have hI2:IntsL wr wo.heap.size u8 (offC q r):=by have:=hI.out;rwa [List.take_length] at this
    have hol:(D.take k).length≤1000:=by rw[List.length_take];omega
    obtain⟨Ar,cr,rfl,hrr⟩:=hI2.rows
    have hbs:=hbi.out.size
    have hb1:=hb.out.size
    have hO2:=Lib.hid ((hO.out.below hbi.out).below (below_alloc wr (.cells #[.slice Ar (offC q r).length cr] 30)))
    have hI3:=Lib.hid (hI2.below (below_alloc wr (.cells #[.slice Ar (offC q r).length cr] 30)))
    have hsrc:Hid (RowsAt (wr.alloc (.cells #[.slice Ar (offC q r).length cr] 30)) (some ⟨wr.heap.size,0,none⟩) 1 [[.slice Ar (offC q r).length cr]]):=rowsAt_new wr [.slice Ar (offC q r).length cr] 30
    have hul:us.length≤1000:=by rw[hO.out.len,List.length_map];exact hol
    have hbw:=Lib.hid (hb.out.trans (hbi.out.mono hb1))
    clear hI hI2 hrr hO hol
    go_wp2_with (at_builtin;go_must (refine wpList_append_rows elemRow rfl _ _ rfl rfl rfl hO2.out.own hsrc.out rfl (fun r hr=>by rw[List.mem_singleton.1 hr];rfl) (fun r hr u hu=>by rw[List.mem_singleton.1 hr] at hu;rw[List.mem_singleton.1 hu];rfl) (by simp only[List.length_map,List.length_singleton];omega) (by decide) (by (try simp);omega) ?_);intro v' w5 hown6 hg6 hob6)
    have hb6:Hid (Below w.heap.size w w5):=hbw.out.trans (((Below.refl _ _).alloc (by omega) _).trans (grown_below hg6 (fun g e=>(OwnL.lt hO2.out.own g e).1) (by simp;omega)))
    have hO3:Hid (MatO w5 w.heap.size v' ((D.take (k+1)).map (offC q)) (us ++ [.slice Ar (offC q r).length cr])):=by show MatO _ _ _ _ _;rw[htk.out];exact hO2.out.push hI3.out hvB.out hown6 hg6 hob6
    clear hown6 hg6 hob6 hO2 hI3 hsrc hb hbi
    go_wp2_with fail
    go_roundw
    case rel=>exact⟨k+1,_,_,by omega,by go_num,rfl,hO3,hb6⟩
    case measure=>simp[intOf];omega
  obtain rfl:k=D.length:=by omega
  have hO2:MatO wo w.heap.size u5 (D.map (offC q)) us:=by have:=hO.out;rwa [List.take_length] at this
  go_wp2_with fail
  go_ret
  exact⟨_,us,rfl,hO2,hb.out⟩
end Go.Proofs.YthfokpchdlcidaaGreat
namespace Go.Proofs.YthfokpchdlcidaaGreat
open Go Go.RowKit Go.Shelf
theorem wrap_mod (a:Int):IntKind.i64.wrap a % 18446744073709551616=a % 18446744073709551616:=by
 unfold IntKind.wrap
 simp[IntKind.bits,IntKind.signed]
 split <;> omega
theorem wrap_cong {a b:Int} (h:a % 18446744073709551616=b % 18446744073709551616):IntKind.i64.wrap a=IntKind.i64.wrap b:=by
 unfold IntKind.wrap
 simp[IntKind.bits,IntKind.signed,h]
theorem wrap_add (a b:Int):IntKind.i64.wrap (IntKind.i64.wrap a+b)=IntKind.i64.wrap (a+b):=wrap_cong (by
 have:=wrap_mod a
 omega)
theorem wrap_add2 (a b:Int):IntKind.i64.wrap (a+IntKind.i64.wrap b)=IntKind.i64.wrap (a+b):=wrap_cong (by
 have:=wrap_mod b
 omega)
theorem wrap_mul (a b:Int):IntKind.i64.wrap (IntKind.i64.wrap a*b)=IntKind.i64.wrap (a*b):=wrap_cong (by
 rw[Int.mul_emod,wrap_mod,←Int.mul_emod])
theorem wrap_mul2 (a b:Int):IntKind.i64.wrap (a*IntKind.i64.wrap b)=IntKind.i64.wrap (a*b):=wrap_cong (by
 rw[Int.mul_emod,wrap_mod,←Int.mul_emod])
theorem detF_succ {n:Nat} {M:List (List Int)} {r:List Int} (h:M[0]?=some r):detF (n+1) M=Cal.sumTo (n+1) fun c=>Cal.sg c*(r[c]?.getD 0)*detF n (minorL c M):=by
 show (Cal.sumTo (n+1) fun c=>Cal.sg c*((M[0]?.getD [])[c]?.getD 0)*detF n (minorL c M))=_
 rw[h]
 rfl
theorem minorL_sq {n:Nat} {M:List (List Int)} (h:M.length=n+1) (hr:∀ r∈M,r.length=n+1) {c:Nat} (hc:c<n+1):(minorL c M).length=n∧∀ r∈minorL c M,r.length=n:=by
 unfold minorL
 refine⟨by rw[List.length_map,List.length_drop];omega,fun r hr'=>?_⟩
 obtain⟨x,hx,rfl⟩:=List.mem_map.1 hr'
 have:=hr x (List.mem_of_mem_drop hx)
 unfold offC
 rw[List.length_eraseIdx_of_lt (by omega)]
 omega
theorem sg_val (c:Nat):Cal.sg c=1∨Cal.sg c=-1:=by unfold Cal.sg;split <;> simp
theorem det_any:∀ (n:Nat) (A:Option Addr) (c:Nat) (M:List (List Int)) (vs:List Value) (w:World),MatR w A M vs→M.length=n→n≤c→(∀ r∈M,r.length=n)→n≤100 →
  Calls Tryz.prog 71 #[.slice A n c] w fun e w'=>e=.returned (.int .i64 (IntKind.i64.wrap (detF n M)))∧Below w.heap.size w w'
 | 0,A,c,M,vs,w,hM,hl,hcap,hsq,hn=>by
  have hf:Hid (IntKind.i64.wrap (detF 0 M)=1):=rfl
  rw[hf.out]
  go_enter Tryz.func71,Tryz.ntmps71
  go_wp2_with fail
  go_ret
  exact⟨rfl,Below.refl _ _⟩
 | n+1,A,c,M,vs,w,hM,hl,hcap,hsq,hn=>by
  have ih:=Lib.hid (fun A c M vs w h1 h2 h3 h4=>det_any n A c M vs w h1 h2 h3 h4 (by omega))
  obtain⟨r,hk'⟩:∃ r,M[0]?=some r:=⟨M[0],List.getElem?_eq_getElem (by omega)⟩
  have hrl:=hsq _ (List.mem_of_getElem? hk')
  obtain⟨b,o,Ai,ci,rfl,hbl,c0,hci,hrow⟩:=hM.at_ hk'
  rw[Nat.add_zero] at c0
  have hdet:=Lib.hid (detF_succ (n:=n) hk')
  have hwo:Hid (∀ (q:Nat) (W:World),q<n+1→Below w.heap.size w W→Calls Tryz.prog 70 #[.slice (some ⟨b,o,none⟩) (n+1) c,.int .i64 (q:Int)] W fun e w'=>∃ A' c' us,e=.returned (.slice A' n c')∧n≤c'∧MatR w' A' (minorL q M) us∧Below W.heap.size W w'):=fun q W hq hb=>by
   have:=without_any (some ⟨b,o,none⟩) c M vs q W (hM.below hb) (by omega) (by omega) ⟨by omega,fun r hr=>by rw[hsq r hr];omega⟩ (by omega)
   rw[hl] at this
   refine this.mono ?_
   rintro e w' ⟨v,us,rfl,hO,hb'⟩
   obtain⟨A',c',rfl,hc',hR⟩:=hO.read
   have hml:=(minorL_sq hl hsq hq).1
   rw[hml] at hc' ⊢
   exact⟨A',c',us,rfl,hc',hR,hb'⟩
  have hsqm:Hid (∀ q,q<n+1→(minorL q M).length=n∧∀ r∈minorL q M,r.length=n):=fun q hq=>minorL_sq hl hsq hq
  replace hrow:=Lib.hid hrow
  have hS0:Hid (Cal.sumTo 0 (fun c=>Cal.sg c*(r[c]?.getD 0)*detF n (minorL c M))=0):=rfl
  have hb0:Hid (Below w.heap.size w w):=Below.refl _ _
  rw[hdet.out]
  clear hk' hsq hM hdet hl
  have hz:((n:Int)+1 == 0)=false:=by simp;omega
  have hz2:¬(n:Int)+1=0:=by omega
  go_enter Tryz.func71,Tryz.ntmps71
  go_wp2_with fail
  clear c0 hz hz2
  go_loopw [3,4,14] (fun s g i wr=>∃ k:Nat,k≤n+1∧i=.int .i64 k∧s=.int .i64 (IntKind.i64.wrap (Cal.sumTo k fun c=>Cal.sg c*(r[c]?.getD 0)*detF n (minorL c M)))∧g=.int .i64 (Cal.sg k)∧Hid (Below w.heap.size w wr)) (fun _ _ i _=>n+1-(intOf i).toNat)
  case atStart=>exact⟨0,Nat.zero_le _,rfl,rfl,rfl,hb0⟩
  case round =>
   clear hb0 hS0
   obtain⟨k,hk,rfl,rfl,rfl,hb⟩:=hrel
   by_cases hlt:k<n+1
   ·have hkr:k<r.length:=by omega
    obtain⟨b2,o2,rfl,hb2,e0⟩:=intsI_at (hrow.out.below hb.out) hkr
    have hx:r[k]?.getD 0=r[k]:=by rw[List.getElem?_eq_getElem hkr];rfl
    have hst:Hid (Cal.sumTo (k+1) (fun c=>Cal.sg c*(r[c]?.getD 0)*detF n (minorL c M))=Cal.sumTo k (fun c=>Cal.sg c*(r[c]?.getD 0)*detF n (minorL c M))+Cal.sg k*r[k]*detF n (minorL k M)):=by
     show _=_
     rw[←hx];rfl
    have hsg:=Cal.sg_succ k
    obtain⟨hl1,hl2⟩:=hsqm.out k hlt
    have hwk:=Lib.hid (fun W hb=>hwo.out k W hlt hb)
    generalize r[k]=x at *
    generalize Cal.sumTo k (fun c=>Cal.sg c*(r[c]?.getD 0)*detF n (minorL c M))=S at *
    generalize hS2:Cal.sumTo (k+1) (fun c=>Cal.sg c*(r[c]?.getD 0)*detF n (minorL c M))=S2 at *
    have hgn:IntKind.i64.wrap (- Cal.sg k)=- Cal.sg k:=by rcases sg_val k with h | h <;> rw[h] <;> decide
    by_cases hx0:x=0
    ·have hf:Hid (S2=S):=by show _=_;rw[hst.out,hx0,Int.mul_zero,Int.zero_mul,Int.add_zero]
     clear hst hwk hx
     subst hx0
     go_wp2_with fail
     go_roundw
     case rel=>exact⟨k+1,by omega,by go_num,by rw[hS2,hf.out],by rw[hsg],hb⟩
     case measure=>simp[intOf];omega
    have hf:Hid (IntKind.i64.wrap (IntKind.i64.wrap S+IntKind.i64.wrap (IntKind.i64.wrap (Cal.sg k*x)*IntKind.i64.wrap (detF n (minorL k M))))=IntKind.i64.wrap S2):=by
     show _=_
     rw[wrap_mul,wrap_mul2,wrap_add,wrap_add2,hst.out]
    clear hst hx
    have hx1:¬x=0:=hx0
    go_wp2_with (first
     |(go_at_call 70;refine (hwk.out _ hb.out).mono ?_;rintro e0 w2 ⟨A',c',us,rfl,hc',hMR,hb2⟩;replace hMR:=Lib.hid hMR;have hb3:=Lib.hid (hb.out.trans (hb2.mono hb.out.size));clear hb2)
     |(go_at_call 71;refine (ih.out A' c' _ us _ hMR.out hl1 hc' hl2).mono ?_;rintro e0 w3 ⟨rfl,hb4⟩;have hb5:=Lib.hid (hb3.out.trans (hb4.mono hb3.out.size));clear hb4))
    go_roundw
    case rel=>exact⟨k+1,by omega,by go_num,by rw[hS2];have h:=hf.out;simp only[wrap_eq] at h ⊢;rw[h],by rw[hsg],hb5⟩
    case measure=>simp[intOf];omega
   obtain rfl:k=n+1:=by omega
   go_wp2_with fail
   go_ret
   exact⟨rfl,hb.out⟩
end Go.Proofs.YthfokpchdlcidaaGreat
