/- What the statements rest on: definitions and walks, part 12. -/
import Derived.Test.YthfokpchdlcidaaGreatJ11
import Derived.Test.YthfokpchdlcidaaGreatJ08
set_option maxRecDepth 100000
set_option maxHeartbeats 16000000
set_option linter.unusedSimpArgs false
set_option linter.unusedVariables false
namespace Go.Proofs.YthfokpchdlcidaaGreat
namespace Geo
def phi:List (Rat × Int)→Rat→Int
 | [],_=>0
 | e :: l,x=>(if x<e.1 then e.2 else 0)+phi l x
def mom:List (Rat × Int)→Rat
 | []=>0
 | e :: l=>(e.2:Rat)*e.1+mom l
def tot:List (Rat × Int)→Int
 | []=>0
 | e :: l=>e.2+tot l
def insL (e:Rat × Int):List (Rat × Int)→List (Rat × Int)
 | []=>[e]
 | f :: l=>if e.1≤f.1 then e :: f :: l else f :: insL e l
def sortL:List (Rat × Int)→List (Rat × Int)
 | []=>[]
 | e :: l=>insL e (sortL l)
theorem mem_insL {e p:Rat × Int}:∀ {l:List (Rat × Int)},p∈insL e l↔p=e∨p∈l
 | []=>by simp[insL]
 | f :: l=>by
  unfold insL
  split
  ·simp
  rw[List.mem_cons,mem_insL,List.mem_cons]
  constructor
  ·rintro (h | h | h)
   ·exact .inr (.inl h)
   ·exact .inl h
   exact .inr (.inr h)
  rintro (h | h | h)
  ·exact .inr (.inl h)
  ·exact .inl h
  exact .inr (.inr h)
theorem mem_sortL {p:Rat × Int}:∀ {l:List (Rat × Int)},p∈sortL l↔p∈l
 | []=>by simp[sortL]
 | e :: l=>by rw[sortL,mem_insL,mem_sortL,List.mem_cons]
theorem phi_insL (e:Rat × Int) (x:Rat):∀ l,phi (insL e l) x=phi (e :: l) x
 | []=>rfl
 | f :: l=>by
  unfold insL
  split
  ·rfl
  simp only[phi];rw[phi_insL e x l];simp only[phi];omega
theorem mom_insL (e:Rat × Int):∀ l,mom (insL e l)=mom (e :: l)
 | []=>rfl
 | f :: l=>by
  unfold insL
  split
  ·rfl
  simp only[mom];rw[mom_insL e l];simp only[mom];grind
theorem tot_insL (e:Rat × Int):∀ l,tot (insL e l)=tot (e :: l)
 | []=>rfl
 | f :: l=>by
  unfold insL
  split
  ·rfl
  simp only[tot];rw[tot_insL e l];simp only[tot];omega
theorem phi_sortL (x:Rat):∀ l,phi (sortL l) x=phi l x
 | []=>rfl
 | e :: l=>by rw[sortL,phi_insL,phi,phi_sortL x l,phi]
theorem mom_sortL:∀ l,mom (sortL l)=mom l
 | []=>rfl
 | e :: l=>by rw[sortL,mom_insL,mom,mom_sortL l,mom]
theorem tot_sortL:∀ l,tot (sortL l)=tot l
 | []=>rfl
 | e :: l=>by rw[sortL,tot_insL,tot,tot_sortL l,tot]
theorem sorted_insL {e:Rat × Int}:∀ {l:List (Rat × Int)},l.Pairwise (fun a b=>a.1≤b.1)→(insL e l).Pairwise (fun a b=>a.1≤b.1)
 | [],_=>by simp[insL]
 | f :: l,h=>by
  rw[List.pairwise_cons] at h
  unfold insL
  split
  ·rename_i hef
   rw[List.pairwise_cons]
   refine⟨fun p hp=>?_,List.pairwise_cons.2 h⟩
   rcases List.mem_cons.1 hp with hp | hp
   ·rw[hp];exact hef
   have:=h.1 p hp;grind
  rename_i hef
  rw[List.pairwise_cons]
  refine⟨fun p hp=>?_,sorted_insL h.2⟩
  rcases mem_insL.1 hp with hp | hp
  ·rw[hp];grind
  exact h.1 p hp
theorem sorted_sortL:∀ l:List (Rat × Int),(sortL l).Pairwise (fun a b=>a.1≤b.1)
 | []=>List.Pairwise.nil
 | _ :: l=>sorted_insL (sorted_sortL l)
theorem phi_below {x:Rat}:∀ {l:List (Rat × Int)},(∀ p∈l,x<p.1)→phi l x=tot l
 | [],_=>rfl
 | e :: l,h=>by
  rw[phi,tot,if_pos (h e (List.mem_cons_self ..)),phi_below (fun p hp=>h p (List.mem_cons_of_mem _ hp))]
theorem line_sum:∀ {l:List (Rat × Int)} {e:Rat × Int},(e :: l).Pairwise (fun a b=>a.1≤b.1)→(∀ x,e.1<x→(∀ p∈l,x≠p.1)→0≤phi l x) →
  0≤mom (e :: l)-e.1*(tot (e :: l):Int)∧(mom (e :: l)-e.1*(tot (e :: l):Int)=0→∀ x,e.1<x→(∀ p∈l,x≠p.1)→phi l x=0)
 | [],e,_,_=>by
  constructor
  ·simp only[mom,tot];rw[Int.add_zero];grind
  intro _ x _ _;rfl
 | f :: l,e,hs,h=>by
  rw[List.pairwise_cons] at hs
  have hef:e.1≤f.1:=hs.1 f (List.mem_cons_self ..)
  have hfl:=(List.pairwise_cons.1 hs.2).1
  obtain⟨g0,g1⟩:=line_sum hs.2 (fun x hx hne=>by
   have:=h x (by grind) (fun p hp=>by
    rcases List.mem_cons.1 hp with hp | hp
    ·rw[hp];grind
    exact hne p hp)
   rw[phi,if_neg (by grind)] at this
   omega)
  have hcast:((e.2+tot (f :: l):Int):Rat)=(e.2:Rat)+(tot (f :: l):Rat):=Rat.intCast_add _ _
  have key:mom (e :: f :: l)-e.1*(tot (e :: f :: l):Int)=(mom (f :: l)-f.1*(tot (f :: l):Int))+(f.1-e.1)*(tot (f :: l):Int):=by
   rw[mom,tot,hcast];grind
  have hbet:e.1<f.1→0≤tot (f :: l):=fun hlt=>by
   have hm:e.1<(e.1+f.1)*(1 / 2)∧(e.1+f.1)*(1 / 2)<f.1:=by constructor <;> grind
   have:=h ((e.1+f.1)*(1 / 2)) hm.1 (fun p hp=>by
    rcases List.mem_cons.1 hp with hp | hp
    ·rw[hp];grind
    have:=hfl p hp;grind)
   rw[phi_below] at this
   ·exact this
   intro p hp
   rcases List.mem_cons.1 hp with hp | hp
   ·rw[hp];exact hm.2
   have:=hfl p hp;grind
  have hterm:0≤(f.1-e.1)*(tot (f :: l):Int):=by
   rcases Rat.le_iff_lt_or_eq.1 hef with hlt | heq
   ·exact mul_nn (by grind) (by exact_mod_cast hbet hlt)
   rw[heq];grind
  rw[key]
  refine⟨by grind,fun hz x hx hne=>?_⟩
  have z1:mom (f :: l)-f.1*(tot (f :: l):Int)=0:=by grind
  have z2:(f.1-e.1)*(tot (f :: l):Int)=0:=by grind
  rcases Std.lt_trichotomy x f.1 with hxf | hxf | hxf
  ·rw[phi_below]
   ·rcases Rat.mul_eq_zero.1 z2 with z | z
    ·grind
    exact_mod_cast z
   intro p hp
   rcases List.mem_cons.1 hp with hp | hp
   ·rw[hp];exact hxf
   have:=hfl p hp;grind
  ·exact absurd hxf (hne f (List.mem_cons_self ..))
  rw[phi,if_neg (by grind),g1 z1 x hxf (fun p hp=>hne p (List.mem_cons_of_mem _ hp))]
  rfl
theorem line_pos {l:List (Rat × Int)} (ht:tot l=0) (h:∀ x,(∀ p∈l,x≠p.1)→0≤phi l x):0≤mom l∧(mom l=0→∀ x,(∀ p∈l,x≠p.1)→phi l x=0):=by
 rw[←mom_sortL]
 have hp:∀ x,phi l x=phi (sortL l) x:=fun x=>(phi_sortL x l).symm
 have hm:∀ x,(∀ p∈l,x≠p.1)↔∀ p∈sortL l,x≠p.1:=fun x=>⟨fun h p hp=>h p (mem_sortL.1 hp),fun h p hp=>h p (mem_sortL.2 hp)⟩
 rw[←tot_sortL] at ht
 simp only[hp,hm] at h ⊢
 have hs:=sorted_sortL l
 generalize sortL l=m at *
 cases m with
 | nil=>exact⟨by simp only[mom];grind,fun _ x _=>rfl⟩
 | cons e m =>
  obtain⟨g0,g1⟩:=line_sum hs (fun x hx hne=>by
   have:=h x (fun p hp=>by
    rcases List.mem_cons.1 hp with hp | hp
    ·rw[hp];grind
    exact hne p hp)
   rw[phi,if_neg (by grind)] at this
   omega)
  rw[ht] at g0 g1
  refine⟨by grind,fun hz x hne=>?_⟩
  rcases Std.lt_trichotomy x e.1 with hx | hx | hx
  ·rw[phi_below,ht]
   intro p hp
   rcases List.mem_cons.1 hp with hp | hp
   ·rw[hp];exact hx
   have:=(List.pairwise_cons.1 hs).1 p hp;grind
  ·exact absurd hx (hne e (List.mem_cons_self ..))
  rw[phi,if_neg (by grind),g1 (by grind) x hx (fun p hp=>hne p (List.mem_cons_of_mem _ hp))]
  rfl
def dd (a b:RP) (c:Rat):Int:=if a.y≤c then (if c<b.y then 1 else 0) else (if b.y≤c then -1 else 0)
def xx (a b:RP) (c:Rat):Rat:=a.x+(c-a.y)*((b.x-a.x) / (b.y-a.y))
def cutsTo (P:Nat→RP) (c:Rat):Nat→List (Rat × Int)
 | 0=>[]
 | n+1=>if dd (P n) (P (n+1)) c=0 then cutsTo P c n else (xx (P n) (P (n+1)) c,dd (P n) (P (n+1)) c) :: cutsTo P c n
theorem crs_xx {a b:RP} (h:a.y≠b.y) (x c:Rat):crs a b ⟨x,c⟩=(b.y-a.y)*(xx a b c-x):=by
 have e:=Rat.div_mul_cancel (a:=b.x-a.x) (b:=b.y-a.y) (by grind)
 unfold crs xx
 generalize (b.x-a.x) / (b.y-a.y)=s at *
 rw[←e]
 grind
theorem wc_dd (a b:RP) (x c:Rat):wc a b ⟨x,c⟩=if x<xx a b c then dd a b c else 0:=by
 unfold wc dd
 dsimp only
 by_cases h1:a.y≤c
 ·rw[if_pos h1,if_pos h1]
  by_cases h2:c<b.y
  ·rw[if_pos h2,if_pos h2,crs_xx (by grind)]
   have hk:0<b.y-a.y:=by grind
   by_cases h3:x<xx a b c
   ·rw[if_pos h3,if_pos (mul_pp hk (by grind))]
   rw[if_neg h3,if_neg]
   have:=mul_nn (a:=b.y-a.y) (b:=x-xx a b c) (by grind) (by grind)
   grind
  rw[if_neg h2,if_neg h2];split <;> rfl
 rw[if_neg h1,if_neg h1]
 by_cases h2:b.y≤c
 ·rw[if_pos h2,if_pos h2,crs_xx (by grind)]
  have hk:0<a.y-b.y:=by grind
  by_cases h3:x<xx a b c
  ·rw[if_pos h3,if_pos]
   have:=mul_pp (b:=xx a b c-x) hk (by grind)
   grind
  rw[if_neg h3,if_neg]
  have:=mul_nn (a:=a.y-b.y) (b:=x-xx a b c) (by grind) (by grind)
  grind
 rw[if_neg h2,if_neg h2];split <;> rfl
theorem phi_cuts (P:Nat→RP) (x c:Rat):∀ n,phi (cutsTo P c n) x=wind n P ⟨x,c⟩
 | 0=>rfl
 | n+1=>by
  unfold wind sumZ cutsTo
  have ih:=phi_cuts P x c n
  unfold wind at ih
  rw[wc_dd]
  split
  ·rename_i h
   rw[ih,h];split <;> omega
  rw[phi,ih];dsimp only;omega
theorem tot_cuts (P:Nat→RP) (c:Rat):∀ n,tot (cutsTo P c n)=sumZ (fun i=>dd (P i) (P (i+1)) c) n
 | 0=>rfl
 | n+1=>by
  rw[sumZ,←tot_cuts P c n,cutsTo]
  split
  ·omega
  rw[tot];omega
theorem tot_cuts0 {n:Nat} {P:Nat→RP} (h:P n=P 0) (c:Rat):tot (cutsTo P c n)=0:=by
 rw[tot_cuts,sumZ_congr (g:=fun i=>(fun i=>if (P i).y≤c then (1:Int) else 0) i-(fun i=>if (P i).y≤c then (1:Int) else 0) (i+1)),sumZ_tele]
 ·rw[h]
  omega
 intro i _
 unfold dd
 grind
def sumQ (f:Nat→Rat):Nat→Rat
 | 0=>0
 | n+1=>sumQ f n+f n
theorem sumQ_congr {f g:Nat→Rat}:∀ {n:Nat},(∀ i,i<n→f i=g i)→sumQ f n=sumQ g n
 | 0,_=>rfl
 | n+1,h=>by rw[sumQ,sumQ,sumQ_congr (n:=n) (fun i hi=>h i (by omega)),h n (by omega)]
theorem sumQ_add (f g:Nat→Rat):∀ n:Nat,sumQ (fun i=>f i+g i) n=sumQ f n+sumQ g n
 | 0=>by simp only[sumQ];grind
 | n+1=>by simp only[sumQ];rw[sumQ_add f g n];grind
theorem sumQ_swap (f:Nat→Nat→Rat) (m:Nat):∀ n:Nat,sumQ (fun i=>sumQ (fun k=>f i k) m) n=sumQ (fun k=>sumQ (fun i=>f i k) n) m
 | 0=>by
  have:∀ m,sumQ (fun _=>(0:Rat)) m=0:=fun m=>by
   induction m with
   | zero=>rfl
   | succ m ih=>rw[sumQ,ih];grind
  simp only[sumQ,this]
 | n+1=>by simp only[sumQ];rw[sumQ_swap f m n,sumQ_add]
theorem mom_cuts (P:Nat→RP) (c:Rat):∀ n,mom (cutsTo P c n)=sumQ (fun i=>(dd (P i) (P (i+1)) c:Int)*xx (P i) (P (i+1)) c) n
 | 0=>rfl
 | n+1=>by
  rw[sumQ,←mom_cuts P c n,cutsTo]
  split
  ·rename_i h
   rw[h];grind
  rw[mom];grind
def slab (M:Int) (k:Nat):Rat:=((2*(k:Int)-2*M+1:Int):Rat) / 2
theorem slab_eq (M:Int) (k:Nat):slab M k=(k:Rat)-(M:Rat)+1 / 2:=by
 unfold slab
 rw[Rat.intCast_add,Rat.intCast_sub,Rat.intCast_mul,Rat.intCast_mul]
 have:(((k:Int):Int):Rat)=(k:Rat):=Rat.intCast_natCast k
 grind
theorem side_slabs_up {a b:RP} {M ya yb:Int} (ha:a.y=ya) (hb:b.y=yb) (h0:-M≤ya) (h1:ya≤yb):∀ h:Nat,
  sumQ (fun k=>(dd a b (slab M k):Int)*xx a b (slab M k)) h =
   if (h:Int)-M≤ya then 0 else if (h:Int)-M≤yb then ((h:Rat)-M-a.y)*(a.x+xx a b ((h:Rat)-M)) / 2 else (b.y-a.y)*(a.x+b.x) / 2
 | 0=>by
  rw[if_pos (by omega)];rfl
 | h+1=>by
  rw[sumQ,side_slabs_up ha hb h0 h1 h,slab_eq]
  have hc:((h+1:Nat):Rat)=(h:Rat)+1:=by rw[Rat.natCast_add];rfl
  rw[hc,show ((h+1:Nat):Int)-M=(h:Int)-M+1 by omega]
  obtain⟨H,hH⟩:∃ H:Int,H=(h:Int)-M:=⟨_,rfl⟩
  have hq:(h:Rat)-(M:Rat)=(H:Rat):=by rw[hH,Rat.intCast_sub,Rat.intCast_natCast]
  rw[←hH,show (h:Rat)+1-(M:Rat)=(H:Rat)+1 by grind,hq]
  have cast_le:∀ x y:Int,x≤y→(x:Rat)≤(y:Rat):=fun x y h=>by exact_mod_cast h
  have k1:∀ x y:Int,x+1≤y→(x:Rat)+1≤(y:Rat):=fun x y h=>by
   have:=cast_le _ _ h
   rw[Rat.intCast_add] at this
   exact this
  by_cases c1:H+1≤ya
  ·have:=k1 _ _ c1
   rw[if_pos (by omega),if_pos c1]
   have hd:dd a b ((H:Rat)+1 / 2)=0:=by unfold dd;rw[if_neg (by grind),if_neg (by have:=cast_le _ _ h1;grind)]
   rw[hd];grind
  have l1:=cast_le ya H (by omega)
  by_cases c2:H+1≤yb
  ·have l2:=k1 _ _ c2
   have hd:dd a b ((H:Rat)+1 / 2)=1:=by unfold dd;rw[if_pos (by grind),if_pos (by grind)]
   rw[hd,if_neg c1,if_pos c2]
   have e:=Rat.div_mul_cancel (a:=b.x-a.x) (b:=b.y-a.y) (by grind)
   unfold xx
   generalize (b.x-a.x) / (b.y-a.y)=s at *
   by_cases c3:H≤ya
   ·have l3:=cast_le _ _ c3
    have:(H:Rat)=a.y:=by grind
    rw[if_pos c3,this]
    grind
   rw[if_neg c3,if_pos (by omega)]
   grind
  have l2:=cast_le yb H (by omega)
  have hd:dd a b ((H:Rat)+1 / 2)=0:=by unfold dd;rw[if_pos (by grind),if_neg (by grind)]
  rw[hd,if_neg c1,if_neg c2]
  by_cases c3:H≤ya
  ·have l3:=cast_le _ _ c3
   have l4:=cast_le _ _ h1
   rw[if_pos c3]
   grind
  rw[if_neg c3]
  by_cases c4:H≤yb
  ·have l3:=cast_le _ _ c4
   have hy:a.y<b.y:=by
    have:=k1 ya H (by omega)
    grind
   have e:=Rat.div_mul_cancel (a:=b.x-a.x) (b:=b.y-a.y) (by grind)
   rw[if_pos c4]
   unfold xx
   generalize (b.x-a.x) / (b.y-a.y)=s at *
   have:(H:Rat)=b.y:=by grind
   rw[this]
   have e2:a.x+(b.y-a.y)*s=b.x:=by grind
   rw[e2]
   grind
  rw[if_neg c4];grind
theorem dd_rev (a b:RP) (c:Rat):dd b a c=- dd a b c:=by unfold dd;grind
theorem xx_rev {a b:RP} (h:a.y≠b.y) (c:Rat):xx b a c=xx a b c:=by
 have e:=Rat.div_mul_cancel (a:=b.x-a.x) (b:=b.y-a.y) (by grind)
 have e':=Rat.div_mul_cancel (a:=a.x-b.x) (b:=a.y-b.y) (by grind)
 unfold xx
 generalize (b.x-a.x) / (b.y-a.y)=s at *
 generalize (a.x-b.x) / (a.y-b.y)=t at *
 have:(s-t)*(b.y-a.y)=0:=by grind
 rcases Rat.mul_eq_zero.1 this with z | z
 ·grind
 grind
theorem side_slabs {a b:RP} {M ya yb:Int} (ha:a.y=ya) (hb:b.y=yb) (h0:-M≤ya) (h1:-M≤yb) (h2:ya<M) (h3:yb<M) :
  sumQ (fun k=>(dd a b (slab M k):Int)*xx a b (slab M k)) (2*M).toNat=(b.y-a.y)*(a.x+b.x) / 2:=by
 have hM:(((2*M).toNat:Nat):Int)=2*M:=Int.toNat_of_nonneg (by omega)
 by_cases hy:ya≤yb
 ·rw[side_slabs_up ha hb h0 hy,if_neg (by omega),if_neg (by omega)]
 have h:=side_slabs_up (M:=M) hb ha h1 (by omega) (2*M).toNat
 rw[if_neg (by omega),if_neg (by omega)] at h
 have hne:b.y≠a.y:=fun e=>by
  rw[ha,hb] at e
  have:yb=ya:=by exact_mod_cast e
  omega
 have neg:∀ f:Nat→Rat,∀ n,sumQ (fun k=>- f k) n=- sumQ f n:=fun f n=>by
  induction n with
  | zero=>simp only[sumQ];grind
  | succ n ih=>simp only[sumQ];rw[ih];grind
 rw[sumQ_congr (g:=fun k=>- ((dd b a (slab M k):Int)*xx b a (slab M k)))]
 ·rw[neg,h];grind
 intro k _
 rw[dd_rev a b,xx_rev (Ne.symm hne),Rat.intCast_neg]
 grind
def area2 (n:Nat) (P:Nat→RP):Rat:=sumQ (fun i=>(P i).x*(P (i+1)).y-(P i).y*(P (i+1)).x) n
theorem sumQ_tele (g:Nat→Rat):∀ n:Nat,sumQ (fun i=>g (i+1)-g i) n=g n-g 0
 | 0=>by simp only[sumQ];grind
 | n+1=>by simp only[sumQ];rw[sumQ_tele g n];grind
theorem area_slabs {n:Nat} {P:Nat→RP} (hper:P n=P 0) {M:Int} (hM:∀ i,i≤n→∃ y:Int,(P i).y=y∧-M≤y∧y<M) :
  area2 n P=2*sumQ (fun k=>mom (cutsTo P (slab M k) n)) (2*M).toNat:=by
 have mul2:∀ f:Nat→Rat,∀ n,sumQ (fun k=>2*f k) n=2*sumQ f n:=fun f n=>by
  induction n with
  | zero=>simp only[sumQ];grind
  | succ n ih=>simp only[sumQ];rw[ih];grind
 rw[sumQ_congr (f:=fun k=>mom (cutsTo P (slab M k) n)) (g:=fun k=>sumQ (fun i=>(dd (P i) (P (i+1)) (slab M k):Int)*xx (P i) (P (i+1)) (slab M k)) n) (fun k _=>mom_cuts P _ n)]
 rw[←sumQ_swap (fun i k=>(dd (P i) (P (i+1)) (slab M k):Int)*xx (P i) (P (i+1)) (slab M k)),←mul2]
 rw[sumQ_congr (g:=fun i=>((P i).x*(P (i+1)).y-(P i).y*(P (i+1)).x)+((fun i=>(P i).x*(P i).y) (i+1)-(fun i=>(P i).x*(P i).y) i))]
 ·have t:=sumQ_tele (fun i=>(P i).x*(P i).y) n
  rw[sumQ_add,t,hper]
  unfold area2
  grind
 intro i hi
 obtain⟨ya,ea,a0,a1⟩:=hM i (by omega)
 obtain⟨yb,eb,b0,b1⟩:=hM (i+1) (by omega)
 dsimp only
 rw[side_slabs ea eb a0 b0 a1 b1]
 grind
theorem mem_cuts {P:Nat→RP} {c:Rat} {p:Rat × Int}:∀ {n:Nat},p∈cutsTo P c n→∃ i,i<n∧dd (P i) (P (i+1)) c≠0∧p=(xx (P i) (P (i+1)) c,dd (P i) (P (i+1)) c)
 | 0,h=>by cases h
 | n+1,h=>by
  unfold cutsTo at h
  split at h
  ·obtain⟨i,hi,h1⟩:=mem_cuts h
   exact⟨i,by omega,h1⟩
  rename_i hd
  rcases List.mem_cons.1 h with h | h
  ·exact⟨n,by omega,hd,h⟩
  obtain⟨i,hi,h1⟩:=mem_cuts h
  exact⟨i,by omega,h1⟩
theorem cuts_mem {P:Nat→RP} {c:Rat} {i:Nat}:∀ {n:Nat},i<n→dd (P i) (P (i+1)) c≠0→(xx (P i) (P (i+1)) c,dd (P i) (P (i+1)) c)∈cutsTo P c n
 | 0,h,_=>by omega
 | n+1,h,hd=>by
  unfold cutsTo
  by_cases e:i=n
  ·subst e
   rw[if_neg hd]
   exact List.mem_cons_self ..
  have:=cuts_mem (n:=n) (by omega) hd
  split
  ·exact this
  exact List.mem_cons_of_mem _ this
theorem off_of_cuts {n:Nat} {P:Nat→RP} {x c:Rat} (hc:∀ i,i≤n→(P i).y≠c) (h:∀ p∈cutsTo P c n,x≠p.1):Off n P ⟨x,c⟩:=fun i l hi l0 l1 e=>by
 have c0:=hc i (by omega)
 have c1:=hc (i+1) (by omega)
 simp only[at',RP.mk.injEq] at e
 obtain⟨ex,ey⟩:=e
 have hy:(P i).y≠(P (i+1)).y:=fun h=>by rw[h] at ey c0;grind
 have hd:dd (P i) (P (i+1)) c≠0:=by
  have p1:=mul_nn l0 (b:=(P (i+1)).y-(P i).y)
  have p2:=mul_nn (a:=1-l) (b:=(P (i+1)).y-(P i).y) (by grind)
  have p3:=mul_nn l0 (b:=(P i).y-(P (i+1)).y)
  have p4:=mul_nn (a:=1-l) (b:=(P i).y-(P (i+1)).y) (by grind)
  unfold dd
  rcases Rat.le_total (a:=(P i).y) (b:=(P (i+1)).y) with h | h
  ·have:=p1 (by grind)
   have:=p2 (by grind)
   rw[if_pos (by grind),if_pos (by grind)];decide
  have:=p3 (by grind)
  have:=p4 (by grind)
  rw[if_neg (by grind),if_pos (by grind)];decide
 refine h _ (cuts_mem hi hd) ?_
 dsimp only
 have e1:=Rat.div_mul_cancel (a:=(P (i+1)).x-(P i).x) (b:=(P (i+1)).y-(P i).y) (by grind)
 unfold xx
 generalize ((P (i+1)).x-(P i).x) / ((P (i+1)).y-(P i).y)=s at *
 rw[ex,ey]
 grind
theorem cut_on {a b:RP} {c:Rat} (h:dd a b c≠0) (ha:a.y≠c) (hb:b.y≠c):∃ t:Rat,0<t∧t<1∧(⟨xx a b c,c⟩:RP)=at' a b t:=by
 have hy:a.y≠b.y:=fun e=>h (by unfold dd;rw[e];grind)
 have e:=Rat.div_mul_cancel (a:=c-a.y) (b:=b.y-a.y) (by grind)
 have e1:=Rat.div_mul_cancel (a:=b.x-a.x) (b:=b.y-a.y) (by grind)
 refine⟨(c-a.y) / (b.y-a.y),?_,?_,?_⟩
 ·generalize (c-a.y) / (b.y-a.y)=t at *
  unfold dd at h
  by_cases h1:a.y≤c
  ·rw[if_pos h1] at h
   have h2:c<b.y:=Classical.byContradiction fun h2=>h (if_neg h2)
   exact pos_of_mul (k:=b.y-a.y) (by grind) (by grind)
  rw[if_neg h1] at h
  have h2:b.y≤c:=Classical.byContradiction fun h2=>h (if_neg h2)
  exact pos_of_mul (k:=a.y-b.y) (by grind) (by grind)
 ·generalize (c-a.y) / (b.y-a.y)=t at *
  unfold dd at h
  by_cases h1:a.y≤c
  ·rw[if_pos h1] at h
   have h2:c<b.y:=Classical.byContradiction fun h2=>h (if_neg h2)
   have:=pos_of_mul (x:=1-t) (k:=b.y-a.y) (by grind) (by grind)
   grind
  rw[if_neg h1] at h
  have h2:b.y≤c:=Classical.byContradiction fun h2=>h (if_neg h2)
  have:=pos_of_mul (x:=1-t) (k:=a.y-b.y) (by grind) (by grind)
  grind
 unfold xx at'
 generalize (c-a.y) / (b.y-a.y)=t at *
 generalize (b.x-a.x) / (b.y-a.y)=s at *
 rw[RP.mk.injEq]
 constructor
 ·rw[←e1,←e];grind
 grind
theorem slab_off (M y:Int) (k:Nat):(y:Rat)≠slab M k:=fun e=>by
 unfold slab at e
 have h:((2*y:Int):Rat)=((2*(k:Int)-2*M+1:Int):Rat):=by
  rw[Rat.intCast_mul]
  have:((2:Int):Rat)=2:=rfl
  rw[this];grind
 have:2*y=2*(k:Int)-2*M+1:=by exact_mod_cast h
 omega
theorem sumQ_nonneg {f:Nat→Rat}:∀ {n:Nat},(∀ i,i<n→0≤f i)→0≤sumQ f n∧(sumQ f n=0→∀ i,i<n→f i=0)
 | 0,_=>⟨by simp only[sumQ];grind,fun _ i hi=>by omega⟩
 | n+1,h=>by
  obtain⟨h1,h2⟩:=sumQ_nonneg (n:=n) (fun i hi=>h i (by omega))
  have h3:=h n (by omega)
  rw[sumQ]
  refine⟨by grind,fun hz i hi=>?_⟩
  by_cases e:i=n
  ·subst e;grind
  exact h2 (by grind) i (by omega)
def negL (l:List (Rat × Int)):List (Rat × Int):=l.map fun p=>(p.1,- p.2)
theorem phi_neg (x:Rat):∀ l,phi (negL l) x=- phi l x
 | []=>rfl
 | e :: l=>by
  have ih:=phi_neg x l
  unfold negL at ih ⊢
  rw[List.map_cons,phi,phi,ih];dsimp only;split <;> omega
theorem mom_neg:∀ l,mom (negL l)=- mom l
 | []=>by simp only[negL,List.map_nil,mom];grind
 | e :: l=>by
  have ih:=mom_neg l
  unfold negL at ih ⊢
  rw[List.map_cons,mom,mom,ih];dsimp only;rw[Rat.intCast_neg];grind
theorem tot_neg:∀ l,tot (negL l)=- tot l
 | []=>rfl
 | e :: l=>by
  have ih:=tot_neg l
  unfold negL at ih ⊢
  rw[List.map_cons,tot,tot,ih];dsimp only;omega
theorem mem_negL {l:List (Rat × Int)} {x:Rat}:(∀ p∈negL l,x≠p.1)↔∀ p∈l,x≠p.1:=by
 unfold negL
 constructor
 ·intro h p hp
  exact h (p.1,- p.2) (List.mem_map_of_mem (f:=fun p=>(p.1,- p.2)) hp)
 intro h p hp
 obtain⟨q,hq,rfl⟩:=List.mem_map.1 hp
 exact h q hq
section
variable {n : Nat} {P : Nat → RP}
theorem Simple.beside (h:Simple n P) {i:Nat} (hi:i<n) (hy:(P i).y≠(P (i+1)).y) {c:Rat} (hc:dd (P i) (P (i+1)) c≠0) (hne:∀ i,i≤n→(P i).y≠c) :
  (∃ x,(∀ p∈cutsTo P c n,x≠p.1)∧wind n P ⟨x,c⟩=lam n P 0)∧∃ x,(∀ p∈cutsTo P c n,x≠p.1)∧wind n P ⟨x,c⟩=lam n P 0-1:=by
 obtain⟨t,t0,t1,ht⟩:=cut_on hc (hne i (by omega)) (hne (i+1) (by omega))
 obtain⟨e,e0,hfar⟩:=near_all (n:=n) (b:=at' (P i) (P (i+1)) t) (p:=fun k q=>k≠i→∀ l:Rat,0≤l→l≤1→q≠at' (P k) (P (k+1)) l) (fun k hk=>by
  by_cases hki:k=i
  ·exact⟨1,by grind,fun _ _ h=>absurd hki h⟩
  obtain⟨e,e0,he⟩:=near_off (h.ne k) (b:=at' (P i) (P (i+1)) t) (fun l l0 l1=>h.open_off hi hk (Ne.symm hki) t0 t1 l0 l1)
  exact⟨e,e0,fun q hq _=>he q hq⟩)
 have nearm:Near e (at' (P i) (P (i+1)) t) (at' (P i) (P (i+1)) t):=by unfold Near;grind
 have nearq:∀ d:Rat,-e<d→d<e→Near e (at' (P i) (P (i+1)) t) ⟨xx (P i) (P (i+1)) c+d,c⟩:=fun d d0 d1=>by
  rw[←ht]
  unfold Near
  dsimp only
  grind
 have hap:∀ d:Rat,-e<d→d<e→∀ k,k<n→k≠i→Apart (P k) (P (k+1)) ⟨xx (P i) (P (i+1)) c+d,c⟩ (at' (P i) (P (i+1)) t):=fun d d0 d1 k hk hki l m l0 l1 m0 m1 eq =>
  hfar _ ((nearq d d0 d1).seg nearm m0 m1) k hk hki l l0 l1 eq.symm
 have hoff:∀ d:Rat,d≠0→-e<d→d<e→∀ p∈cutsTo P c n,xx (P i) (P (i+1)) c+d≠p.1:=fun d dn d0 d1 p hp eq=>by
  obtain⟨k,hk,hdk,rfl⟩:=mem_cuts hp
  dsimp only at eq
  by_cases hki:k=i
  ·subst hki;grind
  obtain⟨l,l0,l1,hl⟩:=cut_on hdk (hne k (by omega)) (hne (k+1) (by omega))
  refine hfar _ (nearq d d0 d1) k hk hki l (by grind) (by grind) ?_
  rw[←hl,eq]
 have hcr:∀ d:Rat,crs (P i) (P (i+1)) ⟨xx (P i) (P (i+1)) c+d,c⟩=- ((P (i+1)).y-(P i).y)*d:=fun d=>by
  rw[crs_xx hy];grind
 have hl:=fun d d0 d1 hp=>h.left hi t0 t1 (q:=⟨xx (P i) (P (i+1)) c+d,c⟩) hp (hap d d0 d1)
 have hr:=fun d d0 d1 hp=>h.right hi t0 t1 (q:=⟨xx (P i) (P (i+1)) c+d,c⟩) hp (hap d d0 d1)
 simp only[hcr,h.lam_all hi] at hl hr
 rcases Std.lt_trichotomy (P i).y (P (i+1)).y with h1 | h1 | h1
 ·have p1:=mul_pp (a:=(P (i+1)).y-(P i).y) (b:=e) (by grind) e0
  exact⟨⟨_,hoff (- (e / 2)) (by grind) (by grind) (by grind),hl _ (by grind) (by grind) (by grind)⟩,⟨_,hoff (e / 2) (by grind) (by grind) (by grind),hr _ (by grind) (by grind) (by grind)⟩⟩
 ·exact absurd h1 hy
 have p1:=mul_pp (a:=(P i).y-(P (i+1)).y) (b:=e) (by grind) e0
 exact⟨⟨_,hoff (e / 2) (by grind) (by grind) (by grind),hl _ (by grind) (by grind) (by grind)⟩,⟨_,hoff (- (e / 2)) (by grind) (by grind) (by grind),hr _ (by grind) (by grind) (by grind)⟩⟩
theorem Simple.area (h:Simple n P) {M:Int} (hM:∀ i,i≤n→∃ y:Int,(P i).y=y∧-M≤y∧y<M):(lam n P 0=1∧0<area2 n P)∨(lam n P 0=0∧area2 n P<0):=by
 have hcor:∀ k:Nat,∀ i,i≤n→(P i).y≠slab M k:=fun k i hi e=>by
  obtain⟨y,ey,_,_⟩:=hM i hi
  exact slab_off M y k (ey ▸ e)
 have hline:∀ k:Nat,(lam n P 0=1→0≤mom (cutsTo P (slab M k) n)∧(mom (cutsTo P (slab M k) n)=0→∀ x,(∀ p∈cutsTo P (slab M k) n,x≠p.1)→wind n P ⟨x,slab M k⟩=0)) ∧
   (lam n P 0=0→0≤- mom (cutsTo P (slab M k) n)∧(- mom (cutsTo P (slab M k) n)=0→∀ x,(∀ p∈cutsTo P (slab M k) n,x≠p.1)→wind n P ⟨x,slab M k⟩=0)):=fun k=>by
  have t:=tot_cuts0 (n:=n) h.close (slab M k)
  constructor
  ·intro hl
   have:=line_pos t (fun x hx=>by
    rw[phi_cuts]
    have:=h.wind_two (off_of_cuts (hcor k) hx)
    omega)
   simp only[phi_cuts] at this
   exact this
  intro hl
  have:=line_pos (l:=negL (cutsTo P (slab M k) n)) (by rw[tot_neg,t];rfl) (fun x hx=>by
   rw[phi_neg,phi_cuts]
   have:=h.wind_two (off_of_cuts (hcor k) (mem_negL.1 hx))
   omega)
  rw[mom_neg] at this
  refine⟨this.1,fun hz x hx=>?_⟩
  have:=this.2 hz x (mem_negL.2 hx)
  rw[phi_neg,phi_cuts] at this
  omega
 obtain⟨i,hi,hy⟩:∃ i,i<n∧(P i).y≠(P (i+1)).y:=by
  refine Classical.byContradiction fun hno=>?_
  have hall:∀ i,i<n→(P i).y=(P (i+1)).y:=fun i hi=>Classical.byContradiction fun h1=>hno ⟨i,hi,h1⟩
  have hcon:∀ i,i≤n→(P i).y=(P 0).y:=fun i=>by
   induction i with
   | zero=>intro _;rfl
   | succ i ih=>intro hi;rw[←hall i (by omega)];exact ih (by omega)
  have h3:=h.three
  obtain⟨Mx,hMx⟩:=max_ex (fun i=>(P i).x) (n+1)
  obtain⟨k,hk,hne⟩:=h.some_side (q:=⟨Mx+1,(P 0).y⟩) (fun i l hi l0 l1 e=>by
   have h1:=hMx i (by omega)
   have h2:=hMx (i+1) (by omega)
   simp only[at',RP.mk.injEq] at e
   have p1:=mul_nn l0 (b:=Mx-(P (i+1)).x) (by grind)
   have p2:=mul_nn (a:=1-l) (b:=Mx-(P i).x) (by grind) (by grind)
   grind)
  have e1:=hcon k (by omega)
  have e2:=hcon (k+1) (by omega)
  unfold crs at hne
  dsimp only at hne
  rw[e1,e2] at hne
  grind
 obtain⟨k,hk,hd⟩:∃ k:Nat,k<(2*M).toNat∧dd (P i) (P (i+1)) (slab M k)≠0:=by
  obtain⟨ya,ea,a0,a1⟩:=hM i (by omega)
  obtain⟨yb,eb,b0,b1⟩:=hM (i+1) (by omega)
  have cast_le:∀ x y:Int,x≤y→(x:Rat)≤(y:Rat):=fun x y h=>by exact_mod_cast h
  have k1:∀ x y:Int,x+1≤y→(x:Rat)+1≤(y:Rat):=fun x y h=>by
   have:=cast_le _ _ h
   rw[Rat.intCast_add] at this
   exact this
  have hne:ya≠yb:=fun e=>hy (by rw[ea,eb,e])
  have sl:∀ y:Int,-M≤y→slab M (y+M).toNat=(y:Rat)+1 / 2:=fun y h=>by
   have e:(((y+M).toNat:Nat):Rat)=(y:Rat)+(M:Rat):=by
    rw[←Rat.intCast_natCast,Int.toNat_of_nonneg (by omega),Rat.intCast_add]
   rw[slab_eq,e];grind
  by_cases hlt:ya<yb
  ·refine⟨(ya+M).toNat,by omega,?_⟩
   have:=k1 ya yb (by omega)
   rw[sl ya a0]
   unfold dd
   rw[if_pos (by grind),if_pos (by grind)]
   decide
  refine⟨(yb+M).toNat,by omega,?_⟩
  have:=k1 yb ya (by omega)
  rw[sl yb b0]
  unfold dd
  rw[if_neg (by grind),if_pos (by grind)]
  decide
 rw[area_slabs h.close hM]
 obtain⟨⟨x,hx,hxw⟩,⟨z,hz,hzw⟩⟩:=h.beside hi hy hd (hcor k)
 rcases h.lam_two with hl | hl
 ·refine .inr ⟨hl,?_⟩
  have hs:=sumQ_nonneg (f:=fun k=>- mom (cutsTo P (slab M k) n)) (n:=(2*M).toNat) (fun k _=>((hline k).2 hl).1)
  have neg:∀ f:Nat→Rat,∀ n,sumQ (fun k=>- f k) n=- sumQ f n:=fun f n=>by
   induction n with
   | zero=>simp only[sumQ];grind
   | succ n ih=>simp only[sumQ];rw[ih];grind
  rw[neg] at hs
  refine Rat.not_le.1 fun hge=>?_
  have:=hs.2 (by grind) k hk
  have:=((hline k).2 hl).2 this z hz
  omega
 refine .inl ⟨hl,?_⟩
 have hs:=sumQ_nonneg (f:=fun k=>mom (cutsTo P (slab M k) n)) (n:=(2*M).toNat) (fun k _=>((hline k).1 hl).1)
 refine Rat.not_le.1 fun hge=>?_
 have:=hs.2 (by grind) k hk
 have:=((hline k).1 hl).2 this x hx
 omega
end
end Geo
end Go.Proofs.YthfokpchdlcidaaGreat
namespace Go.Proofs.YthfokpchdlcidaaGreat
namespace Cal
def rp (p:Pt):Geo.RP:=⟨(p.x:Rat),(p.y:Rat)⟩
theorem rp_inj {p q:Pt} (h:rp p=rp q):p=q:=by
 unfold rp at h
 rw[Geo.RP.mk.injEq,Rat.intCast_inj,Rat.intCast_inj] at h
 cases p;cases q
 rw[Pt.mk.injEq]
 exact h
theorem crs_rp (s:Sd) (q:Pt):Geo.crs (rp s.a) (rp s.b) (rp q)=((crs s q:Int):Rat):=by
 unfold Geo.crs crs rp
 simp only[Rat.intCast_sub,Rat.intCast_mul]
theorem crs0 (s:Sd) (q:Pt):Geo.crs (rp s.a) (rp s.b) (rp q)=0↔crs s q=0:=by
 rw[crs_rp]
 exact⟨fun h=>Rat.intCast_inj.1 h,fun h=>by rw[h];rfl⟩
theorem crs_pos (s:Sd) (q:Pt):0<Geo.crs (rp s.a) (rp s.b) (rp q)↔0<crs s q:=by
 rw[crs_rp]
 exact⟨fun h=>Rat.intCast_pos.1 h,fun h=>Rat.intCast_pos.2 h⟩
theorem crs_neg (s:Sd) (q:Pt):Geo.crs (rp s.a) (rp s.b) (rp q)<0↔crs s q<0:=by
 rw[crs_rp]
 exact⟨fun h=>Rat.intCast_neg_iff.1 h,fun h=>Rat.intCast_neg_iff.2 h⟩
theorem trnZ {s:Sd} {p:Pt}:trn s p=0↔crs s p=0:=by
 unfold trn cmpI
 split
 ·omega
 split <;> omega
theorem trnP {s:Sd} {p:Pt}:trn s p=1↔0<crs s p:=by
 unfold trn cmpI
 split
 ·omega
 split <;> omega
theorem trnN {s:Sd} {p:Pt}:trn s p=-1↔crs s p<0:=by
 unfold trn cmpI
 split
 ·omega
 split <;> omega
theorem trn_mul (s:Sd) (p q:Pt):trn s p*trn s q<0↔(0<crs s p∧crs s q<0)∨(crs s p<0∧0<crs s q):=by
 rcases Int.lt_trichotomy (crs s p) 0 with h | h | h <;> rcases Int.lt_trichotomy (crs s q) 0 with k | k | k
 ·rw[trnN.2 h,trnN.2 k];omega
 ·rw[trnN.2 h,trnZ.2 k];omega
 ·rw[trnN.2 h,trnP.2 k];omega
 ·rw[trnZ.2 h,trnN.2 k];omega
 ·rw[trnZ.2 h,trnZ.2 k];omega
 ·rw[trnZ.2 h,trnP.2 k];omega
 ·rw[trnP.2 h,trnN.2 k];omega
 ·rw[trnP.2 h,trnZ.2 k];omega
 rw[trnP.2 h,trnP.2 k];omega
theorem box_iff (a b q:Int):(a-q)*(b-q)≤0↔min a b≤q∧q≤max a b:=by
 constructor
 ·intro h
  by_cases h1:q<a∧q<b
  ·have:=Int.mul_pos (a:=a-q) (b:=b-q) (by omega) (by omega)
   omega
  by_cases h2:a<q∧b<q
  ·have:=Int.mul_pos_of_neg_of_neg (a:=a-q) (b:=b-q) (by omega) (by omega)
   omega
  omega
 intro h
 by_cases h0:a=q
 ·rw[h0,Int.sub_self,Int.zero_mul];omega
 by_cases h1:a≤q
 ·exact Int.mul_nonpos_of_nonpos_of_nonneg (by omega) (by omega)
 exact Int.mul_nonpos_of_nonneg_of_nonpos (by omega) (by omega)
def onSg (s:Sd) (q:Pt):Bool:=decide (crs s q=0) && (decide (min s.a.x s.b.x≤q.x∧q.x≤max s.a.x s.b.x) && decide (min s.a.y s.b.y≤q.y∧q.y≤max s.a.y s.b.y))
theorem has_iff (s:Sd) (q:Pt):hasP s q=true↔crs s q=0∧dotP q s.a s.b≤0:=by
 unfold hasP
 rw[Bool.and_eq_true,beq_iff_eq,decide_eq_true_iff,trnZ]
theorem has_on (s:Sd) (q:Pt):hasP s q=onSg s q:=by
 rw[Bool.eq_iff_iff,has_iff]
 unfold onSg
 rw[Bool.and_eq_true,Bool.and_eq_true,decide_eq_true_iff,decide_eq_true_iff,decide_eq_true_iff,←box_iff,←box_iff]
 refine and_congr_right fun hc=>?_
 unfold dotP
 have hp:(s.a.x-q.x)*(s.b.y-q.y)=(s.a.y-q.y)*(s.b.x-q.x):=by unfold crs at hc;grind
 generalize s.a.x-q.x=u at *
 generalize s.a.y-q.y=v at *
 generalize s.b.x-q.x=z at *
 generalize s.b.y-q.y=t at *
 constructor
 ·intro h
  have h4:(u*z)*(v*t)=(u*t)*(u*t):=by
   have:(u*z)*(v*t)=(u*t)*(v*z):=by grind
   rw[this,hp]
  have h5:0≤(u*t)*(u*t):=by
   rcases Int.le_total 0 (u*t) with h | h
   ·exact Int.mul_nonneg h h
   exact Int.mul_nonneg_of_nonpos_of_nonpos h h
  generalize u*z=A at *
  generalize v*t=B at *
  constructor
  ·refine Int.not_lt.1 fun hA=>?_
   have:=Int.mul_neg_of_pos_of_neg hA (show B<0 by omega)
   omega
  refine Int.not_lt.1 fun hB=>?_
  have:=Int.mul_neg_of_neg_of_pos (show A<0 by omega) hB
  omega
 intro h;omega
theorem has_at {s:Sd} {q:Pt} {l:Rat} (l0:0≤l) (l1:l≤1) (h:rp q=Geo.at' (rp s.a) (rp s.b) l):hasP s q=true:=by
 rw[has_iff]
 constructor
 ·rw[←crs0,h];exact Geo.crs_at _ _ _
 have h1:=Geo.mul_nn l0 (show 0≤1-l by grind)
 have h2:=Geo.mul_nn h1 (Geo.sq0 ((s.b.x:Rat)-(s.a.x:Rat)))
 have h3:=Geo.mul_nn h1 (Geo.sq0 ((s.b.y:Rat)-(s.a.y:Rat)))
 unfold rp Geo.at' at h
 rw[Geo.RP.mk.injEq] at h
 obtain⟨hx,hy⟩:=h
 rw[←Rat.intCast_le_intCast]
 unfold dotP
 simp only[Rat.intCast_sub,Rat.intCast_mul,Rat.intCast_add]
 dsimp only at hx hy
 rw[hx,hy]
 grind
theorem pt_ne {p q:Pt} (h:p≠q):rp p≠rp q:=fun e=>h (rp_inj e)
theorem at_inj {a b:Geo.RP} (h:a≠b) {l m:Rat} (e:Geo.at' a b l=Geo.at' a b m):l=m:=by
 unfold Geo.at' at e
 rw[Geo.RP.mk.injEq] at e
 have e1:(l-m)*(b.x-a.x)=0:=by grind
 have e2:(l-m)*(b.y-a.y)=0:=by grind
 rcases Rat.mul_eq_zero.1 e1 with h1 | h1
 ·grind
 rcases Rat.mul_eq_zero.1 e2 with h2 | h2
 ·grind
 refine absurd ?_ h
 cases a;cases b
 rw[Geo.RP.mk.injEq]
 constructor <;> grind
theorem onL {m:Rat} {A B:Rat} (h:(1-m)*A+m*B=0) (m0:0≤m) (m1:m≤1) (hA:A≠0) (hB:B≠0):(0<A∧B<0)∨(A<0∧0<B):=by
 rcases Std.lt_trichotomy A 0 with a | a | a
 ·rcases Std.lt_trichotomy B 0 with b | b | b
  ·have p1:=Geo.np_mul (a:=A) (b:=1-m) (by grind) (by grind)
   have p2:=Geo.np_mul (a:=B) (b:=m) (by grind) m0
   have z1:(1-m)*A=0:=by grind
   have z2:m*B=0:=by grind
   rcases Rat.mul_eq_zero.1 z1 with z | z <;> rcases Rat.mul_eq_zero.1 z2 with y | y <;> grind
  ·exact absurd b hB
  exact .inr ⟨a,b⟩
 ·exact absurd a hA
 rcases Std.lt_trichotomy B 0 with b | b | b
 ·exact .inl ⟨a,b⟩
 ·exact absurd b hB
 have p1:=Geo.mul_nn (a:=1-m) (b:=A) (by grind) (by grind)
 have p2:=Geo.mul_nn (a:=m) (b:=B) m0 (by grind)
 have z1:(1-m)*A=0:=by grind
 have z2:m*B=0:=by grind
 rcases Rat.mul_eq_zero.1 z1 with z | z <;> rcases Rat.mul_eq_zero.1 z2 with y | y <;> grind
theorem meet_no {s t:Sd} (h:meetS s t=false):crosS s t=false∧hasP s t.a=false∧hasP s t.b=false∧hasP t s.a=false∧hasP t s.b=false:=by
 unfold meetS at h
 simp only[Bool.or_eq_false_iff] at h
 obtain⟨⟨⟨⟨h1,h2⟩,h3⟩,h4⟩,h5⟩:=h
 exact⟨h1,h2,h3,h4,h5⟩
theorem apart_of_meet {s t:Sd} (hs:s.a≠s.b) (h:meetS s t=false):Geo.Apart (rp s.a) (rp s.b) (rp t.a) (rp t.b):=by
 obtain⟨h1,h2,h3,h4,h5⟩:=meet_no h
 have no:∀ {u:Sd} {q:Pt},hasP u q=false→∀ l:Rat,0≤l→l≤1→rp q≠Geo.at' (rp u.a) (rp u.b) l:=fun h l l0 l1 e=>by
  rw[has_at l0 l1 e] at h;cases h
 intro l m l0 l1 m0 m1 e
 have D:(1-m)*Geo.crs (rp s.a) (rp s.b) (rp t.a)+m*Geo.crs (rp s.a) (rp s.b) (rp t.b)=0:=by
  rw[←Geo.crs_lin,←e];exact Geo.crs_at _ _ _
 have E:(1-l)*Geo.crs (rp t.a) (rp t.b) (rp s.a)+l*Geo.crs (rp t.a) (rp t.b) (rp s.b)=0:=by
  rw[←Geo.crs_lin,e];exact Geo.crs_at _ _ _
 by_cases dA:Geo.crs (rp s.a) (rp s.b) (rp t.a)=0
 ·by_cases dB:Geo.crs (rp s.a) (rp s.b) (rp t.b)=0
  ·obtain⟨x,hx⟩:=Geo.line_param (pt_ne hs) dA
   obtain⟨y,hy⟩:=Geo.line_param (pt_ne hs) dB
   have nx:=no h2 x
   have ny:=no h3 y
   have e':=e
   rw[hx,hy,Geo.at_at] at e'
   have hl:=at_inj (pt_ne hs) e'
   have gx:x<0∨1<x:=by
    rcases Std.lt_trichotomy x 0 with a | a | a
    ·exact .inl a
    ·exact absurd hx (nx (by grind) (by grind))
    by_cases b:x≤1
    ·exact absurd hx (nx (by grind) b)
    exact .inr (by grind)
   have gy:y<0∨1<y:=by
    rcases Std.lt_trichotomy y 0 with a | a | a
    ·exact .inl a
    ·exact absurd hy (ny (by grind) (by grind))
    by_cases b:y≤1
    ·exact absurd hy (ny (by grind) b)
    exact .inr (by grind)
   have p1:=fun (h:x<0)=>Geo.mul_nn (a:=1-m) (b:=-x) (by grind) (by grind)
   have p2:=fun (h:y<0)=>Geo.mul_nn (a:=m) (b:=-y) m0 (by grind)
   have p3:=fun (h:1<x)=>Geo.mul_nn (a:=1-m) (b:=x-1) (by grind) (by grind)
   have p4:=fun (h:1<y)=>Geo.mul_nn (a:=m) (b:=y-1) m0 (by grind)
   have hend:∀ z:Rat,0≤z→z≤1→x+z*(y-x)=0→False:=fun z z0 z1 ez=>by
    refine no h4 z z0 z1 ?_
    rw[hx,hy,Geo.at_at,ez,Geo.at0]
   rcases gx with gx | gx
   ·rcases gy with gy | gy
    ·have q1:=p1 gx
     have q2:=p2 gy
     have z1:(1-m)*-x=0:=by grind
     have z2:m*-y=0:=by grind
     rcases Rat.mul_eq_zero.1 z1 with z | z <;> rcases Rat.mul_eq_zero.1 z2 with w | w <;> grind
    have hk:0<y-x:=by grind
    obtain⟨z0,z1⟩:=Geo.div_mem (c:=-x) hk (by grind) (by grind)
    have ez:(-x) / (y-x)*(y-x)=-x:=Rat.div_mul_cancel (by grind)
    exact hend _ z0 z1 (by rw[ez];grind)
   rcases gy with gy | gy
   ·have hk:0<x-y:=by grind
    obtain⟨z0,z1⟩:=Geo.div_mem (c:=x) hk (by grind) (by grind)
    have ez:x / (x-y)*(x-y)=x:=Rat.div_mul_cancel (by grind)
    exact hend _ z0 z1 (by grind)
   have q1:=p3 gx
   have q2:=p4 gy
   have z1:(1-m)*(x-1)=0:=by grind
   have z2:m*(y-1)=0:=by grind
   rcases Rat.mul_eq_zero.1 z1 with z | z <;> rcases Rat.mul_eq_zero.1 z2 with w | w <;> grind
  have:m*Geo.crs (rp s.a) (rp s.b) (rp t.b)=0:=by rw[dA] at D;grind
  rcases Rat.mul_eq_zero.1 this with z | z
  ·rw[z,Geo.at0] at e
   exact no h2 l l0 l1 e.symm
  exact dB z
 by_cases dB:Geo.crs (rp s.a) (rp s.b) (rp t.b)=0
 ·have:(1-m)*Geo.crs (rp s.a) (rp s.b) (rp t.a)=0:=by rw[dB] at D;grind
  rcases Rat.mul_eq_zero.1 this with z | z
  ·have z:m=1:=by grind
   rw[z,Geo.at1] at e
   exact no h3 l l0 l1 e.symm
  exact dA z
 have gD:=onL D m0 m1 dA dB
 by_cases eA:Geo.crs (rp t.a) (rp t.b) (rp s.a)=0
 ·by_cases eB:Geo.crs (rp t.a) (rp t.b) (rp s.b)=0
  ·have:=Geo.crs_sum (rp s.a) (rp s.b) (rp t.a) (rp t.b)
   rw[eA,eB] at this
   grind
  have:l*Geo.crs (rp t.a) (rp t.b) (rp s.b)=0:=by rw[eA] at E;grind
  rcases Rat.mul_eq_zero.1 this with z | z
  ·rw[z,Geo.at0] at e
   exact no h4 m m0 m1 e
  exact eB z
 by_cases eB:Geo.crs (rp t.a) (rp t.b) (rp s.b)=0
 ·have:(1-l)*Geo.crs (rp t.a) (rp t.b) (rp s.a)=0:=by rw[eB] at E;grind
  rcases Rat.mul_eq_zero.1 this with z | z
  ·have z:l=1:=by grind
   rw[z,Geo.at1] at e
   exact no h5 m m0 m1 e
  exact eA z
 have gE:=onL E l0 l1 eA eB
 simp only[crs_pos,crs_neg] at gD gE
 have:crosS s t=true:=by
  unfold crosS
  rw[Bool.and_eq_true,decide_eq_true_iff,decide_eq_true_iff,trn_mul,trn_mul]
  exact⟨gD,gE⟩
 rw[this] at h1;cases h1
theorem twice_get:∀ (l s:List Pt),twiceP s l=false→(∀ p∈s,p∉l)∧l.Nodup
 | [],_,_=>⟨fun _ _ h=>(by cases h),List.nodup_nil⟩
 | q :: r,s,h=>by
  unfold twiceP at h
  rw[Bool.or_eq_false_iff] at h
  obtain⟨h1,h2⟩:=h
  obtain⟨h3,h4⟩:=twice_get r (q :: s) h2
  refine⟨fun p hp hm=>?_,List.nodup_cons.2 ⟨h3 q (List.mem_cons_self ..),h4⟩⟩
  rcases List.mem_cons.1 hm with e | hm
  ·rw[List.any_eq_false] at h1
   exact h1 p hp (ptB_iff.2 e.symm)
  exact h3 p (List.mem_cons_of_mem _ hp) hm
def cor (ps:List Pt) (i:Nat):Pt:=ps[i % ps.length]?.getD pt0
def ring (ps:List Pt) (i:Nat):Geo.RP:=rp (cor ps i)
theorem sd_cor {ps:List Pt} {i:Nat} (h:i<ps.length):sd ps i=⟨cor ps i,cor ps (i+1)⟩:=by
 unfold sd cor
 rw[Nat.mod_eq_of_lt h]
theorem cor_mod (ps:List Pt) (i:Nat):cor ps (i % ps.length)=cor ps i:=by
 unfold cor
 rw[Nat.mod_mod]
theorem cor_per (ps:List Pt) (i:Nat):cor ps (i+ps.length)=cor ps i:=by
 unfold cor
 rw[Nat.add_mod_right]
theorem cor_ne {ps:List Pt} (hnd:ps.Nodup) {i k:Nat} (h0:0<ps.length) (h:i % ps.length≠k % ps.length):cor ps i≠cor ps k:=fun e=>by
 have hi:=Nat.mod_lt i h0
 have hk:=Nat.mod_lt k h0
 unfold cor at e
 rw[List.getElem?_eq_getElem hi,List.getElem?_eq_getElem hk] at e
 exact h ((List.getElem_inj (h₀:=hi) (h₁:=hk) hnd).1 e)
structure Poly (ps:List Pt):Prop where
 three:3≤ps.length
 nd:ps.Nodup
 sim:simpleP ps=true
theorem succ_mod_ne {n i:Nat} (h:2≤n):(i+1) % n≠i % n:=fun e=>by
 have:=Nat.add_mod i 1 n
 have h1:1 % n=1:=Nat.mod_eq_of_lt (by omega)
 rw[h1] at this
 have hi:=Nat.mod_lt i (show 0<n by omega)
 by_cases hlt:i % n+1<n
 ·rw[Nat.mod_eq_of_lt hlt] at this;omega
 have:(i % n+1) % n=0:=by
  have:i % n+1=n:=by omega
  rw[this,Nat.mod_self]
 omega
section
variable {ps : List Pt}
theorem Poly.cor_succ (h:Poly ps) (i:Nat):cor ps i≠cor ps (i+1) :=
 cor_ne h.nd (by have:=h.three;omega) (Ne.symm (succ_mod_ne (by have:=h.three;omega)))
theorem Poly.parts (h:Poly ps) {i:Nat} (hi:i<ps.length):backS ps i=false∧∀ k,k<ps.length→badK ps i k=false:=by
 have:=h.sim
 unfold simpleP at this
 rw[List.all_eq_true] at this
 have h1:=this i (List.mem_range.2 hi)
 rw[Bool.and_eq_true,Bool.not_eq_true',List.all_eq_true] at h1
 refine⟨h1.1,fun k hk=>?_⟩
 have:=h1.2 k (List.mem_range.2 hk)
 simpa using this
theorem Poly.noback (h:Poly ps) (i:Nat):¬(crs ⟨cor ps i,cor ps (i+1)⟩ (cor ps (i+2))=0∧0<dotP (cor ps (i+1)) (cor ps i) (cor ps (i+2))):=by
 have h3:=h.three
 obtain⟨n,hn⟩:∃ n,ps.length=n:=⟨_,rfl⟩
 rw[hn] at h3
 have hlt:(i+1) % n<n:=Nat.mod_lt _ (by omega)
 have hb:=(h.parts (i:=(i+1) % n) (by rw[hn];exact hlt)).1
 unfold backS at hb
 rw[sd_cor (by rw[hn];exact hlt)] at hb
 have e0:ps[((i+1) % n+ps.length-1) % ps.length]?.getD pt0=cor ps i:=by
  unfold cor
  have:((i+1) % n+ps.length-1) % ps.length=i % ps.length:=by
   rw[hn]
   have a1:((i+1) % n+n-1) % n=((i+1) % n+(n-1)) % n:=by congr 1;omega
   rw[a1,Nat.mod_add_mod]
   have a2:i+1+(n-1)=i+n:=by omega
   rw[a2,Nat.add_mod_right]
  rw[this]
 have e1:cor ps ((i+1) % n)=cor ps (i+1):=by rw[←hn];exact cor_mod _ _
 have e2:cor ps ((i+1) % n+1)=cor ps (i+2):=by
  unfold cor
  rw[hn,Nat.mod_add_mod]
 rw[e0,e1,e2] at hb
 dsimp only at hb
 rw[Bool.and_eq_false_iff] at hb
 rintro⟨g1,g2⟩
 rcases hb with hb | hb
 ·refine absurd ?_ (by simpa using hb)
  rw[trnZ]
  unfold crs at g1 ⊢
  dsimp only at g1 ⊢
  grind
 exact absurd g2 (by simpa using hb)
theorem Poly.nomeet (h:Poly ps) {i k:Nat} (hi:i<ps.length) (hk:k<ps.length) (h1:i+1<k) (h2:(k+1) % ps.length≠i):meetS (sd ps i) (sd ps k)=false:=by
 have:=(h.parts hi).2 k hk
 unfold badK at this
 rw[decide_eq_true h1,show ((k+1) % ps.length != i)=true by simpa using h2] at this
 simpa using this
theorem at_corner {a b c:Pt} (hab:a≠b) (hbc:b≠c) (hno:¬(crs ⟨a,b⟩ c=0∧0<dotP b a c)) {l m:Rat} (l1:l≤1) (m0:0≤m)
  (e:Geo.at' (rp a) (rp b) l=Geo.at' (rp b) (rp c) m):l=1∧m=0:=by
 unfold Geo.at' rp at e
 rw[Geo.RP.mk.injEq] at e
 dsimp only at e
 have pn:∀ {p q:Pt},p≠q→¬((q.x:Rat)-(p.x:Rat)=0∧(q.y:Rat)-(p.y:Rat)=0):=fun {p q} hpq hz=>hpq (rp_inj (by
  unfold rp;rw[Geo.RP.mk.injEq];constructor <;> grind))
 by_cases hm:m=0
 ·subst hm
  refine⟨?_,rfl⟩
  have e1:(1-l)*((b.x:Rat)-(a.x:Rat))=0:=by grind
  have e2:(1-l)*((b.y:Rat)-(a.y:Rat))=0:=by grind
  rcases Rat.mul_eq_zero.1 e1 with z | z
  ·grind
  rcases Rat.mul_eq_zero.1 e2 with w | w
  ·grind
  exact absurd ⟨z,w⟩ (pn hab)
 by_cases hl:l=1
 ·subst hl
  have e1:m*((c.x:Rat)-(b.x:Rat))=0:=by grind
  have e2:m*((c.y:Rat)-(b.y:Rat))=0:=by grind
  rcases Rat.mul_eq_zero.1 e1 with z | z
  ·exact absurd z hm
  rcases Rat.mul_eq_zero.1 e2 with w | w
  ·exact absurd w hm
  exact absurd ⟨z,w⟩ (pn hbc)
 refine absurd ?_ hno
 have lp:0<1-l:=by grind
 have mp:0<m:=by grind
 have k1:(1-l)*((a.x:Rat)-(b.x:Rat))=m*((c.x:Rat)-(b.x:Rat)):=by grind
 have k2:(1-l)*((a.y:Rat)-(b.y:Rat))=m*((c.y:Rat)-(b.y:Rat)):=by grind
 have hne:=pn hbc
 constructor
 ·rw[←Rat.intCast_inj]
  unfold crs
  dsimp only
  simp only[Rat.intCast_sub,Rat.intCast_mul]
  generalize (a.x:Rat)=ax at *
  generalize (a.y:Rat)=ay at *
  generalize (b.x:Rat)=bx at *
  generalize (b.y:Rat)=by' at *
  generalize (c.x:Rat)=cx at *
  generalize (c.y:Rat)=cy at *
  have:(1-l)*((bx-ax)*(cy-ay)-(by'-ay)*(cx-ax))=0:=by grind
  rcases Rat.mul_eq_zero.1 this with z | z
  ·grind
  rw[z];rfl
 rw[←Rat.intCast_pos]
 unfold dotP
 simp only[Rat.intCast_sub,Rat.intCast_mul,Rat.intCast_add]
 generalize (a.x:Rat)=ax at *
 generalize (a.y:Rat)=ay at *
 generalize (b.x:Rat)=bx at *
 generalize (b.y:Rat)=by' at *
 generalize (c.x:Rat)=cx at *
 generalize (c.y:Rat)=cy at *
 have s1:=Geo.sq0 (cx-bx)
 have s2:=Geo.sq0 (cy-by')
 have hp:0<(cx-bx)*(cx-bx)+(cy-by')*(cy-by'):=by
  refine Rat.not_le.1 fun hle=>hne ?_
  have z1:(cx-bx)*(cx-bx)=0:=by grind
  have z2:(cy-by')*(cy-by')=0:=by grind
  exact⟨by rcases Rat.mul_eq_zero.1 z1 with z | z <;> exact z,by rcases Rat.mul_eq_zero.1 z2 with z | z <;> exact z⟩
 have hq:=Geo.mul_pp mp hp
 refine Geo.pos_of_mul lp ?_
 have:((ax-bx)*(cx-bx)+(ay-by')*(cy-by'))*(1-l)=m*((cx-bx)*(cx-bx)+(cy-by')*(cy-by')):=by
  have:((ax-bx)*(cx-bx)+(ay-by')*(cy-by'))*(1-l)=((1-l)*(ax-bx))*(cx-bx)+((1-l)*(ay-by'))*(cy-by'):=by
   clear k1 k2 e hq hp s1 s2
   grind
  rw[this,k1,k2]
  clear k1 k2 e hq hp s1 s2
  grind
 rw[this]
 exact hq
theorem ring_ps (i:Nat) (h:i<ps.length):ring ps i=rp (sd ps i).a∧ring ps (i+1)=rp (sd ps i).b:=by
 rw[sd_cor h]
 exact⟨rfl,rfl⟩
theorem Poly.simple (h:Poly ps):Geo.Simple ps.length (ring ps) where
 three:=h.three
 per:=fun i=>by unfold ring;rw[cor_per]
 ne:=fun i=>pt_ne (h.cor_succ i)
 touch:=by
  have h3:=h.three
  have hadj:∀ i,∀ l m:Rat,l≤1→0≤m→Geo.at' (ring ps i) (ring ps (i+1)) l=Geo.at' (ring ps (i+1)) (ring ps (i+2)) m→l=1∧m=0:=fun i l m l1 m0 e =>
   at_corner (h.cor_succ i) (h.cor_succ (i+1)) (h.noback i) l1 m0 e
  have rm:∀ i,ring ps (i % ps.length)=ring ps i:=fun i=>by unfold ring;rw[cor_mod]
  have rm1:∀ i,ring ps (i % ps.length+1)=ring ps (i+1):=fun i=>by unfold ring cor;rw[Nat.mod_add_mod]
  have main:∀ i k,i<ps.length→k<ps.length→i<k→∀ l m:Rat,0≤l→l≤1→0≤m→m≤1→Geo.at' (ring ps i) (ring ps (i+1)) l=Geo.at' (ring ps k) (ring ps (k+1)) m →
    (k=(i+1) % ps.length∧l=1∧m=0)∨(i=(k+1) % ps.length∧l=0∧m=1):=by
   intro i k hi hk hik l m l0 l1 m0 m1 e
   by_cases h1:k=(i+1) % ps.length
   ·refine .inl ⟨h1,hadj i l m l1 m0 ?_⟩
    rw[h1,rm,rm1] at e
    exact e
   by_cases h2:i=(k+1) % ps.length
   ·refine .inr ⟨h2,?_⟩
    have:=hadj k m l m1 l0 (by rw[h2,rm,rm1] at e;exact e.symm)
    exact⟨this.2,this.1⟩
   have hlt:i+1<k:=by
    have:(i+1) % ps.length=i+1:=Nat.mod_eq_of_lt (by omega)
    omega
   have:=apart_of_meet (s:=sd ps i) (t:=sd ps k) (by rw[sd_cor hi];exact h.cor_succ i) (h.nomeet hi hk hlt (fun e=>h2 e.symm))
   rw[←(ring_ps i hi).1,←(ring_ps i hi).2,←(ring_ps k hk).1,←(ring_ps k hk).2] at this
   exact absurd e (this l m l0 l1 m0 m1)
  intro i k hi hk hik l m l0 l1 m0 m1 e
  rcases Nat.lt_or_gt_of_ne hik with hlt | hlt
  ·exact main i k hi hk hlt l m l0 l1 m0 m1 e
  rcases main k i hk hi hlt m l m0 m1 l0 l1 e.symm with ⟨a,b,c⟩ | ⟨a,b,c⟩
  ·exact .inr ⟨a,c,b⟩
  exact .inl ⟨a,c,b⟩
theorem area2_ring:Geo.area2 ps.length (ring ps)=((areaP ps:Int):Rat):=by
 have main:∀ n,n≤ps.length→Geo.sumQ (fun i=>(ring ps i).x*(ring ps (i+1)).y-(ring ps i).y*(ring ps (i+1)).x) n=((areaTo ps n:Int):Rat):=fun n=>by
  induction n with
  | zero=>intro _;rfl
  | succ n ih =>
   intro hn
   unfold Geo.sumQ areaTo
   rw[ih (by omega),sd_cor (by omega)]
   simp only[Rat.intCast_add,Rat.intCast_sub,Rat.intCast_mul]
   rfl
 exact main _ (Nat.le_refl _)
theorem ring_bound (h:∀ p∈ps,-100000≤p.y∧p.y≤100000) (h0:0<ps.length):∀ i,∃ y:Int,(ring ps i).y=y∧-(100001:Int)≤y∧y<100001:=fun i=>by
 have hi:=Nat.mod_lt i h0
 have:=h _ (List.getElem_mem hi)
 refine⟨(cor ps i).y,rfl,?_⟩
 unfold cor
 rw[List.getElem?_eq_getElem hi]
 dsimp only[Option.getD]
 omega
theorem Poly.area_ne (h:Poly ps) (hb:∀ p∈ps,-100000≤p.y∧p.y≤100000):areaP ps≠0:=fun e=>by
 have hz:=area2_ring (ps:=ps)
 rw[e] at hz
 rcases h.simple.area (fun i _=>ring_bound hb (by have:=h.three;omega) i) with ⟨_,h1⟩ | ⟨_,h1⟩ <;> rw[hz] at h1 <;> exact absurd h1 (by decide)
end
end Cal
end Go.Proofs.YthfokpchdlcidaaGreat
namespace Go.Proofs.YthfokpchdlcidaaGreat
open Go Go.RowKit Go.Shelf
def inR (n lo hi:Int):Bool:=decide (lo≤n) && decide (n≤hi)
def inPl (q:Pt):Bool:=inR q.x (-100000) 100000 && inR q.y (-100000) 100000
theorem InPlaceR_any (q:Pt) (w:World):Calls Tryz.prog 12 #[.agg #[.int .i64 q.x,.int .i64 q.y]] w fun e w'=>e=.returned (.bool (inPl q))∧Below w.heap.size w w':=by
 obtain⟨bx,hbx⟩:∃ b,inR q.x (-100000) 100000=b:=⟨_,rfl⟩
 have hr:Hid (inPl q=(bx && inR q.y (-100000) 100000)):=by show _=_;unfold inPl;rw[hbx]
 have h1:=Lib.hid (fun W=>by have:=Within_any q.x (-100000) 100000 W;rw[show (decide (-100000≤q.x) && decide (q.x≤100000))=bx from hbx] at this;exact this)
 have hb:=Lib.hid (below_alloc w (.cells #[.int .i64 q.x,.int .i64 q.y] 27))
 cases bx
 ·go_enter Tryz.func12,Tryz.ntmps12
  go_wp2_with fail
  refine (h1.out _).mono ?_
  rintro e _ ⟨rfl,rfl⟩
  go_wp2_with fail
  go_ret
  exact⟨by rw[hr.out];rfl,hb.out⟩
 go_enter Tryz.func12,Tryz.ntmps12
 go_wp2_with fail
 refine (h1.out _).mono ?_
 rintro e _ ⟨rfl,rfl⟩
 go_wp2_with fail
 refine (Within_any q.y (-100000) 100000 _).mono ?_
 rintro e _ ⟨rfl,rfl⟩
 go_wp2_with fail
 go_ret
 exact⟨by rw[hr.out];rfl,hb.out⟩
theorem crossR_any (a b c:Pt) (w:World) (ha:SmP a) (hb:SmP b) (hc:SmP c):Calls Tryz.prog 93 #[.agg #[.int .i64 a.x,.int .i64 a.y],.agg #[.int .i64 b.x,.int .i64 b.y],.agg #[.int .i64 c.x,.int .i64 c.y]] w fun e w'=>e=.returned (.int .i64 (Cal.crs ⟨a,b⟩ c))∧Below w.heap.size w w':=by
 obtain⟨a0,a1,a2,a3⟩:=ha
 obtain⟨b0,b1,b2,b3⟩:=hb
 obtain⟨c0,c1,c2,c3⟩:=hc
 have m1:=mul_le_of (a:=b.x-a.x) (b:=c.y-a.y) (M:=2000000) (N:=2000000) (by omega) (by omega) (by omega) (by omega)
 have m2:=mul_le_of (a:=b.y-a.y) (b:=c.x-a.x) (M:=2000000) (N:=2000000) (by omega) (by omega) (by omega) (by omega)
 have q1:IntKind.i64.wrap (b.x-a.x)=b.x-a.x:=wrap_small (by omega) (by omega)
 have q2:IntKind.i64.wrap (c.y-a.y)=c.y-a.y:=wrap_small (by omega) (by omega)
 have q3:IntKind.i64.wrap (b.y-a.y)=b.y-a.y:=wrap_small (by omega) (by omega)
 have q4:IntKind.i64.wrap (c.x-a.x)=c.x-a.x:=wrap_small (by omega) (by omega)
 have q5:IntKind.i64.wrap ((b.x-a.x)*(c.y-a.y))=(b.x-a.x)*(c.y-a.y):=wrap_small (by omega) (by omega)
 have q6:IntKind.i64.wrap ((b.y-a.y)*(c.x-a.x))=(b.y-a.y)*(c.x-a.x):=wrap_small (by omega) (by omega)
 have q7:IntKind.i64.wrap ((b.x-a.x)*(c.y-a.y)-(b.y-a.y)*(c.x-a.x))=(b.x-a.x)*(c.y-a.y)-(b.y-a.y)*(c.x-a.x):=wrap_small (by omega) (by omega)
 have hbb:=Lib.hid (below_step (below_step (below_alloc w (.cells #[.int .i64 a.x,.int .i64 a.y] 27)) (below_alloc _ (.cells #[.int .i64 b.x,.int .i64 b.y] 27))) (below_alloc _ (.cells #[.int .i64 c.x,.int .i64 c.y] 27)))
 clear m1 m2 a0 a1 a2 a3 b0 b1 b2 b3 c0 c1 c2 c3
 go_enter Tryz.func93,Tryz.ntmps93
 go_wp2_with fail
 go_ret
 exact⟨rfl,hbb.out⟩
theorem signR_any (n:Int) (w:World):Calls Tryz.prog 120 #[.int .i64 n] w fun e w'=>e=.returned (.int .i64 (Cal.cmpI n 0))∧Below w.heap.size w w':=by
 by_cases h:n<0
 ·have e:Cal.cmpI n 0=-1:=by unfold Cal.cmpI;rw[if_pos h]
  rw[e]
  go_enter Tryz.func120,Tryz.ntmps120
  go_wp2
  go_ret
  exact⟨rfl,blw⟩
 have e:Cal.cmpI n 0=min n 1:=by
  unfold Cal.cmpI;rw[if_neg h];split <;> omega
 rw[e]
 go_enter Tryz.func120,Tryz.ntmps120
 go_wp2
 go_ret
 exact⟨rfl,blw⟩
end Go.Proofs.YthfokpchdlcidaaGreat
namespace Go.Proofs.YthfokpchdlcidaaGreat
namespace Cal
def turnsR (ps:List Pt) (i:Nat):Bool:=hasP (sd ps i) (sd ps ((i+1) % ps.length)).b || hasP (sd ps ((i+1) % ps.length)) (sd ps i).a
def simpleR (ps:List Pt):Bool:=(List.range ps.length).all fun i=>!turnsR ps i && (List.range ps.length).all fun k=>!badK ps i k
def polyR (p:List Pt):Int :=
 if p.length<3∨40<p.length then 10 else if ptsErr p=0 then (if twiceP [] p=true then 5 else if simpleR p=true then (if areaP p≤0 then 9 else 0) else 3) else ptsErr p
theorem sq0I (z:Int):0≤z*z:=by
 rcases Int.le_total 0 z with h | h
 ·exact Int.mul_nonneg h h
 exact Int.mul_nonneg_of_nonpos_of_nonpos h h
theorem sq_pos {z:Int} (h:z≠0):0<z*z:=by
 have:=sq0I z
 rcases Int.lt_or_eq_of_le this with h1 | h1
 ·exact h1
 rcases Int.mul_eq_zero.1 h1.symm with h2 | h2 <;> exact absurd h2 h
theorem way_pos {p q:Pt} (h:p≠q):0<(q.x-p.x)*(q.x-p.x)+(q.y-p.y)*(q.y-p.y):=by
 have s1:=sq0I (q.x-p.x)
 have s2:=sq0I (q.y-p.y)
 by_cases h1:q.x-p.x=0
 ·have h2:q.y-p.y≠0:=fun h2=>h (by cases p;cases q;rw[Pt.mk.injEq];dsimp only at h1 h2;omega)
  have:=sq_pos h2
  omega
 have:=sq_pos h1
 omega
theorem lie_on {a b c:Pt} (hab:a≠b) (hbc:b≠c):(hasP ⟨a,b⟩ c || hasP ⟨b,c⟩ a)=true↔(crs ⟨a,b⟩ c=0∧0<dotP b a c):=by
 rw[Bool.or_eq_true,has_iff,has_iff]
 dsimp only
 have hU:=way_pos (Ne.symm hab)
 have hV:=way_pos hbc
 have e0:crs ⟨b,c⟩ a=crs ⟨a,b⟩ c:=by unfold crs;dsimp only;grind
 have e1:dotP c a b=((c.x-b.x)*(c.x-b.x)+(c.y-b.y)*(c.y-b.y))-dotP b a c:=by unfold dotP;grind
 have e2:dotP a b c=((a.x-b.x)*(a.x-b.x)+(a.y-b.y)*(a.y-b.y))-dotP b a c:=by unfold dotP;grind
 have e3:dotP b a c*dotP b a c+crs ⟨a,b⟩ c*crs ⟨a,b⟩ c=((a.x-b.x)*(a.x-b.x)+(a.y-b.y)*(a.y-b.y))*((c.x-b.x)*(c.x-b.x)+(c.y-b.y)*(c.y-b.y)):=by
  unfold dotP crs;dsimp only;grind
 rw[e0,e1,e2]
 generalize (a.x-b.x)*(a.x-b.x)+(a.y-b.y)*(a.y-b.y)=U at *
 generalize (c.x-b.x)*(c.x-b.x)+(c.y-b.y)*(c.y-b.y)=V at *
 generalize dotP b a c=D at *
 generalize crs ⟨a,b⟩ c=C at *
 constructor
 ·rintro (⟨h1,h2⟩ | ⟨h1,h2⟩)
  ·exact⟨h1,by omega⟩
  exact⟨h1,by omega⟩
 rintro⟨h1,h2⟩
 subst h1
 by_cases hv:V-D≤0
 ·exact .inl ⟨rfl,hv⟩
 refine .inr ⟨rfl,?_⟩
 refine Int.not_lt.1 fun hu=>?_
 have p1:=Int.mul_pos (a:=U-D) (b:=V) (by omega) (by omega)
 have p2:=Int.mul_pos (a:=D) (b:=V-D) h2 (by omega)
 grind
theorem back_turns {ps:List Pt} (h3:3≤ps.length) (hnd:ps.Nodup) {i:Nat} (hi:i<ps.length):turnsR ps i=backS ps ((i+1) % ps.length):=by
 have hlt:(i+1) % ps.length<ps.length:=Nat.mod_lt _ (by omega)
 have e0:ps[((i+1) % ps.length+ps.length-1) % ps.length]?.getD pt0=cor ps i:=by
  unfold cor
  have:((i+1) % ps.length+ps.length-1) % ps.length=i % ps.length:=by
   have a1:((i+1) % ps.length+ps.length-1) % ps.length=((i+1) % ps.length+(ps.length-1)) % ps.length:=by congr 1;omega
   rw[a1,Nat.mod_add_mod]
   have a2:i+1+(ps.length-1)=i+ps.length:=by omega
   rw[a2,Nat.add_mod_right]
  rw[this]
 have e2:cor ps ((i+1) % ps.length+1)=cor ps (i+2):=by
  unfold cor
  rw[Nat.mod_add_mod]
 have n1:cor ps i≠cor ps (i+1):=cor_ne hnd (by omega) (Ne.symm (succ_mod_ne (by omega)))
 have n2:cor ps (i+1)≠cor ps (i+2):=cor_ne hnd (by omega) (Ne.symm (succ_mod_ne (by omega)))
 rw[Bool.eq_iff_iff]
 unfold turnsR backS
 rw[sd_cor hi,sd_cor hlt,e0,cor_mod,e2]
 dsimp only
 rw[lie_on n1 n2,Bool.and_eq_true,beq_iff_eq,decide_eq_true_iff,trnZ]
 have e4:crs ⟨cor ps (i+1),cor ps (i+2)⟩ (cor ps i)=crs ⟨cor ps i,cor ps (i+1)⟩ (cor ps (i+2)):=by unfold crs;dsimp only;grind
 rw[e4]
theorem simple_ref {ps:List Pt} (h3:3≤ps.length) (hnd:ps.Nodup):simpleR ps=simpleP ps:=by
 rw[Bool.eq_iff_iff]
 unfold simpleR simpleP
 simp only[List.all_eq_true,List.mem_range,Bool.and_eq_true,Bool.not_eq_true']
 constructor
 ·intro h i hi
  refine⟨?_,(h i hi).2⟩
  have hk:(i+(ps.length-1)) % ps.length<ps.length:=Nat.mod_lt _ (by omega)
  have:=(h _ hk).1
  rw[back_turns h3 hnd hk] at this
  have e:((i+(ps.length-1)) % ps.length+1) % ps.length=i:=by
   rw[Nat.mod_add_mod]
   have:i+(ps.length-1)+1=i+ps.length:=by omega
   rw[this,Nat.add_mod_right,Nat.mod_eq_of_lt hi]
  rw[e] at this
  exact this
 intro h i hi
 refine⟨?_,(h i hi).2⟩
 rw[back_turns h3 hnd hi]
 exact (h _ (Nat.mod_lt _ (by omega))).1
theorem ptsErr_mem:∀ {ps:List Pt},ptsErr ps=0→∀ p∈ps,ptErr p=0
 | [],_,p,hp=>by cases hp
 | q :: r,h,p,hp=>by
  unfold ptsErr at h
  split at h
  ·rename_i hq
   rcases List.mem_cons.1 hp with rfl | hp
   ·exact hq
   exact ptsErr_mem h p hp
  rename_i hq
  exact absurd h hq
theorem polyR_eq (ps:List Pt):polyR ps=polyE ps:=by
 unfold polyR polyE
 by_cases h1:ps.length<3∨40<ps.length
 ·rw[if_pos h1,if_pos h1]
 rw[if_neg h1,if_neg h1]
 by_cases h2:ptsErr ps=0
 ·rw[if_pos h2,if_pos h2]
  by_cases h3:twiceP [] ps=true
  ·rw[if_pos h3,if_pos h3]
  rw[if_neg h3,if_neg h3]
  have hnd:=(twice_get ps [] (by simpa using h3)).2
  rw[simple_ref (by omega) hnd]
  by_cases h4:simpleP ps=true
  ·rw[if_pos h4,if_pos h4]
   have hne:=Poly.area_ne (ps:=ps) ⟨by omega,hnd,h4⟩ (fun p hp=>by
    have:=ptsErr_mem h2 p hp
    unfold ptErr at this
    split at this
    ·cases this
    omega)
   by_cases h5:areaP ps<0
   ·rw[if_pos h5,if_pos (by omega)]
   rw[if_neg h5,if_neg (by omega)]
  rw[if_neg h4,if_neg h4]
 rw[if_neg h2,if_neg h2]
theorem polyE_poly {ps:List Pt} (h:polyE ps=0):Poly ps∧(∀ p∈ps,ptErr p=0)∧0<areaP ps:=by
 rw[←polyR_eq] at h
 unfold polyR at h
 split at h
 ·cases h
 rename_i h1
 split at h
 ·rename_i h2
  split at h
  ·cases h
  rename_i h3
  split at h
  ·rename_i h4
   split at h
   ·cases h
   have hnd:=(twice_get ps [] (by simpa using h3)).2
   rw[simple_ref (by omega) hnd] at h4
   exact⟨⟨by omega,hnd,h4⟩,ptsErr_mem h2,by omega⟩
  cases h
 rename_i h2;exact absurd h h2
end Cal
end Go.Proofs.YthfokpchdlcidaaGreat
namespace Go.Proofs.YthfokpchdlcidaaGreat
open Go Go.RowKit Go.Shelf
def fewL (n:Nat):Bool:=decide (n≤10) || (decide (40<n) && decide (n≤60))
theorem few_any (V:Option Addr) (n d:Nat) (w:World) (hn:n≤1000000):Calls Tryz.prog 40 #[.slice V n d] w fun e w'=>e=.returned (.bool (fewL n))∧Below w.heap.size w w':=by
 have hlo:IntKind.i64.wrap (n:Int)=(n:Int):=wrap_small (by omega) (by omega)
 by_cases h1:n≤10
 ·have hf:Hid (fewL n=true):=by show _=_;unfold fewL;rw[decide_eq_true h1];rfl
  have hi:(n:Int)≤10:=by omega
  go_enter Tryz.func40,Tryz.ntmps40
  go_wp2_with fail
  go_ret
  exact⟨by rw[hf.out];rfl,blw⟩
 have hi:¬(n:Int)≤10:=by omega
 by_cases h2:40<n
 ·have hi2:(40:Int)<n:=by omega
  by_cases h3:n≤60
  ·have hf:Hid (fewL n=true):=by show _=_;unfold fewL;rw[decide_eq_true h2,decide_eq_true h3];simp
   have hi3:(n:Int)≤60:=by omega
   go_enter Tryz.func40,Tryz.ntmps40
   go_wp2_with fail
   go_ret
   exact⟨by rw[hf.out];rfl,blw⟩
  have hf:Hid (fewL n=false):=by show _=_;unfold fewL;rw[decide_eq_false h1,decide_eq_false h3];simp
  have hi3:¬(n:Int)≤60:=by omega
  go_enter Tryz.func40,Tryz.ntmps40
  go_wp2_with fail
  go_ret
  exact⟨by rw[hf.out];rfl,blw⟩
 have hf:Hid (fewL n=false):=by show _=_;unfold fewL;rw[decide_eq_false h1,decide_eq_false h2];simp
 have hi2:¬(40:Int)<n:=by omega
 go_enter Tryz.func40,Tryz.ntmps40
 go_wp2_with fail
 go_ret
 exact⟨by rw[hf.out];rfl,blw⟩
theorem inPl_err (q:Pt):inPl q=true↔Cal.ptErr q=0:=by
 unfold inPl inR Cal.ptErr
 simp only[Bool.and_eq_true,decide_eq_true_eq]
 constructor
 ·intro h;rw[if_neg (by omega)]
 intro h
 split at h
 ·cases h
 omega
theorem ptErr_two {q:Pt} (h:Cal.ptErr q≠0):Cal.ptErr q=2:=by
 unfold Cal.ptErr at h ⊢
 split
 ·rfl
 rename_i h1;rw[if_neg h1] at h;exact absurd rfl h
theorem ptsErr_first:∀ (ps:List Pt) (k:Nat) (hk:k<ps.length),(∀ j (hj:j<k),Cal.ptErr (ps[j]'(Nat.lt_trans hj hk))=0)→Cal.ptErr ps[k]≠0→Cal.ptsErr ps=2
 | q :: r,0,_,_,h=>by
  have h:Cal.ptErr q≠0:=h
  unfold Cal.ptsErr
  rw[if_neg h]
  exact ptErr_two h
 | q :: r,k+1,hk,hb,h=>by
  have h0:Cal.ptErr q=0:=hb 0 (Nat.succ_pos k)
  unfold Cal.ptsErr
  rw[if_pos h0]
  exact ptsErr_first r k (by simpa using hk) (fun j hj=>hb (j+1) (by omega)) h
theorem ptsErr_all:∀ (ps:List Pt),(∀ k (hk:k<ps.length),Cal.ptErr ps[k]=0)→Cal.ptsErr ps=0
 | [],_=>rfl
 | q :: r,h=>by
  have h0:Cal.ptErr q=0:=h 0 (by simp)
  unfold Cal.ptsErr
  rw[if_pos h0]
  exact ptsErr_all r (fun k hk=>h (k+1) (by simpa using hk))
theorem twiceP_of:∀ (l s:List Pt),(∀ p∈s,p∉l)→l.Nodup→Cal.twiceP s l=false
 | [],_,_,_=>rfl
 | q :: r,s,hs,hn=>by
  unfold Cal.twiceP
  rw[List.nodup_cons] at hn
  rw[Bool.or_eq_false_iff]
  constructor
  ·rw[List.any_eq_false]
   intro p hp he
   have:q=p:=ptB_iff.1 he
   exact hs p hp (this ▸ List.mem_cons_self)
  refine twiceP_of r (q :: s) (fun p hp=>?_) hn.2
  rcases List.mem_cons.1 hp with rfl | hp
  ·exact hn.1
  exact fun hm=>hs p hp (List.mem_cons_of_mem _ hm)
theorem twiceP_pairs {ps:List Pt} (h:∀ i (hi:i<ps.length) k (hk:k<i),ps[k]'(Nat.lt_trans hk hi)≠ps[i]):Cal.twiceP [] ps=false:=by
 refine twiceP_of ps [] (fun p hp=>by cases hp) ?_
 rw[List.nodup_iff_pairwise_ne,List.pairwise_iff_getElem]
 exact fun i j hi hj hij=>h j hj i hij
theorem twiceP_hit {ps:List Pt} {i k:Nat} (hi:i<ps.length) (hk:k<i) (he:ps[k]'(Nat.lt_trans hk hi)=ps[i]):Cal.twiceP [] ps=true:=by
 cases h:Cal.twiceP [] ps
 ·have hn:=(twiceP_get ps [] h).2
  rw[List.nodup_iff_pairwise_ne,List.pairwise_iff_getElem] at hn
  exact absurd he (hn k i _ hi hk)
 rfl
end Go.Proofs.YthfokpchdlcidaaGreat
