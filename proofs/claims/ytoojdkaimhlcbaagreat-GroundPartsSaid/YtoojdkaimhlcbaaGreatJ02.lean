/- What the statements rest on: definitions and walks, part 02. -/
import Derived.Test.YtoojdkaimhlcbaaGreatJ01
import Derived.OrdersHeld
import Derived.OrdersIn
import Derived.TacticsIn
import Derived.Deep.RegionHeld
import Derived.Handy
set_option maxRecDepth 100000
set_option maxHeartbeats 16000000
set_option linter.unusedSimpArgs false
set_option linter.unusedVariables false
namespace Go.Proofs.YtoojdkaimhlcbaaGreat
structure Pt where
 x:Int
 y:Int
def ptB (p q:Pt):Bool:=p.x == q.x && p.y == q.y
theorem ptB_iff {p q:Pt}:ptB p q=true↔p=q:=by
 unfold ptB
 rw[Bool.and_eq_true,beq_iff_eq,beq_iff_eq]
 refine⟨fun h=>?_,fun h=>by rw[h];exact⟨rfl,rfl⟩⟩
 cases p;cases q
 rw[Pt.mk.injEq]
 exact h
structure Sd where
 a:Pt
 b:Pt
namespace Cal
def cmpI (a b:Int):Int:=if a<b then -1 else if b<a then 1 else 0
def crs (s:Sd) (p:Pt):Int:=(s.b.x-s.a.x)*(p.y-s.a.y)-(s.b.y-s.a.y)*(p.x-s.a.x)
def trn (s:Sd) (p:Pt):Int:=cmpI (crs s p) 0
def dotP (p q r:Pt):Int:=(q.x-p.x)*(r.x-p.x)+(q.y-p.y)*(r.y-p.y)
def hasP (s:Sd) (p:Pt):Bool:=trn s p == 0 && decide (dotP p s.a s.b≤0)
def crosS (s t:Sd):Bool:=decide (trn s t.a*trn s t.b<0) && decide (trn t s.a*trn t s.b<0)
def meetS (s t:Sd):Bool:=crosS s t || hasP s t.a || hasP s t.b || hasP t s.a || hasP t s.b
def alongS (s:Sd) (p q:Pt):Int:=cmpI (dotP s.a s.b p) (dotP s.a s.b q)
def pt0:Pt:=⟨0,0⟩
def sd (p:List Pt) (i:Nat):Sd:=⟨p[i]?.getD pt0,p[(i+1) % p.length]?.getD pt0⟩
def sds (p:List Pt):List Sd:=(List.range p.length).map (sd p)
def ptErr (p:Pt):Int:=if 100000<max p.x p.y∨min p.x p.y < -100000 then 2 else 0
def backS (p:List Pt) (i:Nat):Bool:=trn (sd p i) (p[(i+p.length-1) % p.length]?.getD pt0) == 0 && decide (0<dotP (sd p i).a (p[(i+p.length-1) % p.length]?.getD pt0) (sd p i).b)
def badK (p:List Pt) (i k:Nat):Bool:=decide (i+1<k) && ((k+1) % p.length != i) && meetS (sd p i) (sd p k)
def simpleP (p:List Pt):Bool:=(List.range p.length).all fun i=>!backS p i && (List.range p.length).all fun k=>!badK p i k
def areaTo (p:List Pt):Nat→Int
 | 0=>0
 | k+1=>areaTo p k+((sd p k).a.x*(sd p k).b.y-(sd p k).a.y*(sd p k).b.x)
def areaP (p:List Pt):Int:=areaTo p p.length
def ptsErr:List Pt→Int
 | []=>0
 | q :: r=>if ptErr q=0 then ptsErr r else ptErr q
def twiceP:List Pt→List Pt→Bool
 | _,[]=>false
 | seen,q :: r=>seen.any (ptB q) || twiceP (q :: seen) r
def polyE (p:List Pt):Int :=
 if p.length<3∨40<p.length then 10 else if ptsErr p=0 then (if twiceP [] p=true then 5 else if simpleP p=true then (if areaP p<0 then 9 else 0) else 3) else ptsErr p
def whereFrom (q:Pt):Bool→List Sd→Int
 | b,[]=>if b then 1 else -1
 | b,s :: r=>if hasP s q then 0 else whereFrom q (if (decide (q.y<s.a.y) != decide (q.y<s.b.y)) && (decide (0<trn s q) == decide (s.a.y<s.b.y)) then !b else b) r
def whereP (p:List Pt) (q:Pt):Int:=whereFrom q false (sds p)
def crossP (a b:List Pt):Bool:=(sds a).any fun s=>(sds b).any fun t=>crosS s t
def dblP (p:List Pt):List Pt:=p.map fun q=>⟨2*q.x,2*q.y⟩
def insP (s:Sd) (q:Pt):List Pt→List Pt
 | []=>[q]
 | x :: r=>if alongS s q x<0 then q :: x :: r else if ptB q x then x :: r else x :: insP s q r
def atP (s:Sd) (other:List Pt):List Pt:=(s.a :: s.b :: other.filter (hasP s)).foldl (fun l q=>insP s q l) []
structure Pc where
 mid:Pt
 of:Sd
def pcsOf (s:Sd):List Pt→List Pc
 | x :: y :: r=>⟨⟨x.x+y.x,x.y+y.y⟩,s⟩ :: pcsOf s (y :: r)
 | _=>[]
def pcsP (p other:List Pt):List Pc:=(sds p).flatMap fun s=>pcsOf s (atP s other)
def entersP (p other:List Pt):Bool:=(pcsP p other).any fun x =>
 if whereP (dblP other) x.mid=1 then true else if whereP (dblP other) x.mid=0 then (sds (dblP other)).any fun t=>hasP t x.mid && decide (0<(x.of.b.x-x.of.a.x)*(t.b.x-t.a.x)+(x.of.b.y-x.of.a.y)*(t.b.y-t.a.y)) else false
def overlapP (a b:List Pt):Bool:=crossP a b || (entersP a b || entersP b a)
def withinP (a b:List Pt):Bool:=!crossP a b && ((pcsP a b).all (fun x=>decide (0≤whereP (dblP b) x.mid)) && (pcsP b a).all (fun x=>decide (whereP (dblP a) x.mid≤0)))
def commonS (s t:Sd):Option Sd :=
 if trn s t.a=0∧trn s t.b=0 then
  (let t':Sd:=if 0<alongS s t.a t.b then ⟨t.b,t.a⟩ else t
   let f:=if 0<alongS s t'.a s.a then t'.a else s.a
   let e:=if alongS s t'.b s.b<0 then t'.b else s.b
   if alongS s f e<0 then some ⟨f,e⟩ else none)
 else none
def borderP (a b:List Pt):List Sd:=(sds a).flatMap fun s=>(sds b).filterMap fun t=>commonS s t
def boxP (x1 y1 x2 y2:Int):List Pt:=[⟨x1,y1⟩,⟨x2,y1⟩,⟨x2,y2⟩,⟨x1,y2⟩]
end Cal
end Go.Proofs.YtoojdkaimhlcbaaGreat
namespace Go.Proofs.YtoojdkaimhlcbaaGreat
open Go Go.RowKit
section
variable {F : Fence} {n : Nat} {P : Program} {ops : Array Oper} {Q : Exit → Act → World → Prop} {md : Region.Mode} {S : World → Prop}
def noDefer (ops:Array Oper):Bool:=ops.all fun o=>match o.op with | .defer _=>false | _=>true
theorem noDefer_spec {ops:Array Oper} (h:noDefer ops=true) {j:Nat} {o:Oper} (hj:ops[j]?=some o):∀ c,o.op≠.defer c:=by
 intro c hc
 have hm:o∈ops:=Array.mem_of_getElem? hj
 have:=Array.all_eq_true'.1 h o hm
 simp[hc] at this
theorem yieldsIf_wpOpIn (hfn:∀ f,F.fn f) {i:Nat} {o:Oper} {v:Value} {a:Act} (hi:ops[i]?=some o) (hnd:∀ c,o.op≠.defer c) (hy:YieldsIf P ops S o v a)
  {K:Act→World→Prop} {w:World} (hS:S w) (h:K (a.put o.dst v) w):wpOpIn F n P ops Q i K a w:=by
 unfold Go.wpOpIn
 simp only[hi]
 have hab:∀ f,o.about P w a.eval=some f→F.fn f:=fun f _=>hfn f
 rcases hy with ⟨hw,hv⟩ | ⟨hw,rfl⟩
 ·simp only[hw,if_true,Oper.wpIn,Oper.semAt_eq F.round a.eval o hnd,hv w hS,Oper.uponIn];exact⟨hab,h⟩
 simp only[hw,Bool.false_eq_true,if_false];exact⟨hab,h⟩
theorem wpOpIn_putIf (hfn:∀ f,F.fn f) {j:Nat} {oi oj:Oper} {v:Value} (hj:ops[j]?=some oj) (hnj:∀ c,oj.op≠.defer c) (hap:oi.apart ops oj=true)
  (hsi:∀ cs b,oi.op≠.select cs b) (hsj:∀ cs b,oj.op≠.select cs b)
  (hQ:∀ c a w,Q (.panic c) (a.put oi.dst v) w→Q (.panic c) a w) {K:Act→World→Prop} {a:Act} {w:World}
  (hy:YieldsIf P ops S oi v a) (h:wpOpIn F n P ops Q j K (a.put oi.dst v) w) :
  wpOpIn F n P ops Q j (fun a' w'=>YieldsIf P ops S oi v a'∧K (a'.put oi.dst v) w') a w:=by
 obtain⟨h1,h2,h3⟩:=Oper.apart_spec hap
 have keep:∀ (a:Act),YieldsIf P ops S oi v a→∀ u,YieldsIf P ops S oi v (a.put oj.dst u):=fun a hy u =>
  hy.of_same (execOp_put oi hsi a oj.dst u h3) (wanted_put oi a oj.dst u h3)
 have keepD:∀ d,YieldsIf P ops S oi v { a with defers:=d :: a.defers }:=fun d=>hy.of_same rfl rfl
 unfold wpOpIn at *
 simp only[hj] at *
 rw[wanted_put oj a oi.dst v h1] at h
 split
 ·rename_i hw
  simp only[hw,if_true] at h
  unfold Oper.wpIn at *
  refine⟨fun f _=>hfn f,?_⟩
  have h:=h.2
  rw[Oper.semAt_eq F.round _ oj hnj,execOp_put oj hsj a oi.dst v h1] at h
  rw[Oper.semAt_eq F.round _ oj hnj]
  generalize (execOp a.eval oj).run P w=r at *
  cases r with
  | ok x w' =>
   cases x <;> simp only[Oper.uponIn] at h ⊢
   case value u=>exact⟨keep a hy u,by rw[←Act.put_comm a v u h2];exact h⟩
   case skip=>exact⟨keep a hy _,by rw[←Act.put_comm a v undef h2];exact h⟩
   case defer d =>
    refine⟨keep _ (keepD d) _,?_⟩
    rw[←Act.put_comm _ v undef h2,←Act.put_defers]
    exact h
   case enter f args =>
    refine⟨h.1,CallsIn.mono h.2 fun e w'' he=>?_⟩
    cases e with
    | returned u=>exact⟨keep a hy u,by rw[←Act.put_comm a v u h2];exact he⟩
    | panicked c=>exact hQ _ _ _ he
    | outgrown=>exact he
   case row row args=>exact⟨h.1,RowsIn.mono h.2 fun u w'' he=>⟨keep a hy u,by rw[←Act.put_comm a v u h2];exact he⟩⟩
   case round l f tmps assign body =>
    refine⟨h.1,RoundIn.mono h.2 fun e w'' he=>?_⟩
    cases e with
    | returned u=>exact⟨keep a hy u,by rw[←Act.put_comm a v u h2];exact he⟩
    | panicked c=>exact hQ _ _ _ he
    | outgrown=>exact he
  | halt x w' =>
   cases x <;> simp only[Oper.uponIn] at h ⊢
   case panic u=>exact hQ _ _ _ h
 rename_i hw
 simp only[hw] at h
 exact⟨fun f _=>hfn f,keep a hy _,by rw[←Act.put_comm a v undef h2];exact h.2⟩
def wpAnyInH (F:Fence) (n:Nat) (P:Program) (md:Region.Mode) (ops:Array Oper) (Q:Exit→Act→World→Prop) (S:World→Prop):Nat→Array Bool→Act→World→Prop
 | 0,listed,a,w=>Region.ready md ops listed=[]∧Q .normal a w
 | fuel+1,listed,a,w =>
  (Region.ready md ops listed=[]→Q .normal a w) ∧
  ∀ i∈Region.ready md ops listed,wpOpIn F n P ops Q i (fun a' w'=>S w'∧wpAnyInH F n P md ops Q S fuel (listed.setIfInBounds i true) a' w') a w
theorem wpAnyIn_of_held:∀ (fuel:Nat) (listed:Array Bool) (a:Act) (w:World),wpAnyInH F n P md ops Q S fuel listed a w→wpAnyIn F n P md ops Q fuel listed a w
 | 0,_,_,_,h=>h
 | fuel+1,_,_,_,h=>⟨h.1,fun i hi=>wpOpIn_mono (fun a' w' h'=>wpAnyIn_of_held fuel _ a' w' h'.2) (h.2 i hi)⟩
theorem wpAnyInH_first (hfn:∀ f,F.fn f) {i:Nat} {oi:Oper} {v:Value} (hi:ops[i]?=some oi) (hsel:∀ (j:Nat) (o:Oper) cs b,ops[j]?=some o→o.op≠.select cs b) (hdef:∀ (j:Nat) (o:Oper) c,ops[j]?=some o→o.op≠.defer c)
  (hQ:∀ c a w,Q (.panic c) (a.put oi.dst v) w→Q (.panic c) a w) :
  ∀ (fuel:Nat) (listed:Array Bool) (a:Act) (w:World),
   (∀ j oj,ops[j]?=some oj→j≠i→listed.getD j true=false→(∀ e∈oj.after,Region.binds md e=true→e.on≠i)→oi.apart ops oj=true) →
   i∈Region.ready md ops listed→YieldsIf P ops S oi v a→S w →
   wpAnyInH F n P md ops Q S fuel (listed.setIfInBounds i true) (a.put oi.dst v) w→wpAnyInH F n P md ops Q S (fuel+1) listed a w:=by
 intro fuel
 induction fuel with
 | zero =>
  intro listed a w _ hr hy hS H
  refine⟨fun h=>(by rw[h] at hr;cases hr),fun j hj=>?_⟩
  by_cases hji:j=i
  ·subst hji;exact yieldsIf_wpOpIn hfn hi (fun c=>hdef _ _ c hi) hy hS ⟨hS,H⟩
  have:=ready_mono hj hji
  rw[H.1] at this
  cases this
 | succ fuel ih =>
  intro listed a w hfree hr hy hS H
  refine⟨fun h=>(by rw[h] at hr;cases hr),fun j hj=>?_⟩
  by_cases hji:j=i
  ·subst hji;exact yieldsIf_wpOpIn hfn hi (fun c=>hdef _ _ c hi) hy hS ⟨hS,H⟩
  have h1:=H.2 j (ready_mono hj hji)
  obtain⟨hjun,oj,hoj,hall⟩:=mem_ready.1 hj
  have hnot:∀ e∈oj.after,Region.binds md e=true→e.on≠i:=fun e he hb heq=>by
   have h1:=hall e he hb
   have h0:=(mem_ready.1 hr).1
   rw[heq] at h1
   rcases Nat.lt_or_ge i listed.size with h' | h'
   ·simp[h'] at h0 h1;rw[h0] at h1;cases h1
   simp[Array.getElem?_eq_none h'] at h1
  have h2:=wpOpIn_putIf hfn hoj (fun c=>hdef _ _ c hoj) (hfree j oj hoj hji hjun hnot) (fun cs b=>hsel i oi cs b hi) (fun cs b=>hsel j oj cs b hoj) hQ hy h1
  have hfree':∀ k ok,ops[k]?=some ok→k≠i→(listed.setIfInBounds j true).getD k true=false →
    (∀ e∈ok.after,Region.binds md e=true→e.on≠i)→oi.apart ops ok=true:=fun k ok hk hki hun hno=>by
   refine hfree k ok hk hki ?_ hno
   by_cases hjk:j=k
   ·subst hjk;exact hjun
   rw[getD_set_ne true hjk] at hun;exact hun
  refine wpOpIn_mono (fun a' w' h3=>⟨h3.2.1,ih (listed.setIfInBounds j true) a' w' hfree' (ready_mono hr (Ne.symm hji)) h3.1 h3.2.1 ?_⟩) h2
  rw[Array.setIfInBounds_comm _ _ hji]
  exact h3.2.2
theorem wpIn_region_held_drew {id:Nat} {a:Act} {w:World} (hm:P.follows .mixedOrders=true) (hS:S w.drew)
  (h:S w.drew→wpAnyInH F n P .any ops Q S ops.size (Array.replicate ops.size false) a w.drew):(Code.region id ops true).wpIn F n P Q a w :=
 wpIn_region_any hm (wpAnyIn_of_held _ _ _ _ (h hS))
theorem wpAnyInH_done {listed:Array Bool} {a:Act} {w:World} (hr:Region.ready md ops listed=[]) (h:Q .normal a w):∀ fuel,wpAnyInH F n P md ops Q S fuel listed a w
 | 0=>⟨hr,h⟩
 | _+1=>⟨fun _=>h,by rw[hr];simp⟩
theorem tkI (i:Nat) {oi:Oper} {v:Value} {fuel:Nat} {listed:Array Bool} {a:Act} {w:World} (hfn:∀ f,F.fn f)
  (hy:∀ w,S w→(execOp a.eval oi).run P w=.ok (.value v) w) (h:wpAnyInH F n P md ops Q S fuel (listed.setIfInBounds i true) (a.put oi.dst v) w)
  (hi:ops[i]?=some oi:=by exact rfl) (hs:Region.noSelect ops=true:=by kernel_rfl) (hd:noDefer ops=true:=by kernel_rfl) (hf:Region.free md ops listed i=true:=by decide +kernel) (hr:(Region.ready md ops listed).contains i=true:=by decide +kernel)
  (hQ:∀ c a w,Q (.panic c) (a.put oi.dst v) w→Q (.panic c) a w:=by exact fun _ _ _ h=>h) (hw:Region.wanted oi (yielded ops a.tmps)=true:=by kernel_rfl) (hS:S w:=by assumption):wpAnyInH F n P md ops Q S (fuel+1) listed a w :=
 wpAnyInH_first hfn hi (Region.noSelect_spec hs) (fun _ _ c ho=>noDefer_spec hd ho c) hQ fuel listed a w (Region.free_spec hi hf) (by simpa using hr) (Or.inl ⟨hw,hy⟩) hS h
theorem tkN (i:Nat) {oi:Oper} {fuel:Nat} {listed:Array Bool} {a:Act} {w:World} (hfn:∀ f,F.fn f)
  (h:wpAnyInH F n P md ops Q S fuel (listed.setIfInBounds i true) (a.put oi.dst undef) w)
  (hi:ops[i]?=some oi:=by exact rfl) (hs:Region.noSelect ops=true:=by kernel_rfl) (hd:noDefer ops=true:=by kernel_rfl) (hf:Region.free md ops listed i=true:=by decide +kernel) (hr:(Region.ready md ops listed).contains i=true:=by decide +kernel)
  (hQ:∀ c a w,Q (.panic c) (a.put oi.dst undef) w→Q (.panic c) a w:=by exact fun _ _ _ h=>h) (hw:Region.wanted oi (yielded ops a.tmps)=false:=by kernel_rfl) (hS:S w:=by assumption):wpAnyInH F n P md ops Q S (fuel+1) listed a w :=
 wpAnyInH_first hfn hi (Region.noSelect_spec hs) (fun _ _ c ho=>noDefer_spec hd ho c) hQ fuel listed a w (Region.free_spec hi hf) (by simpa using hr) (Or.inr ⟨hw,rfl⟩) hS h
theorem ratI (i:Nat) {o:Oper} {fuel:Nat} {listed:Array Bool} {a:Act} {w:World} (hfn:∀ f,F.fn f) (hr:Region.ready md ops listed=[i]) (ho:ops[i]?=some o)
  (h:∀ K':Act→World→Prop,Shut (∀ a w,S w→(S w→wpAnyInH F n P md ops Q S fuel (listed.setIfInBounds i true) a w)→K' a w)→if Region.wanted o (yielded ops a.tmps)=true then Oper.wpIn F n P o a w K' Q else K' (a.put o.dst undef) w) :
  wpAnyInH F n P md ops Q S (fuel+1) listed a w:=by
 refine⟨fun h0=>absurd (hr ▸ h0) (by simp),?_⟩
 rw[hr]
 intro j hj
 rcases List.mem_singleton.1 hj with rfl
 refine wpOpIn_step ho (fun K' hK=>?_)
 have:=h K' (fun a w hS hW=>hK a w ⟨hS,hW hS⟩)
 split
 ·rename_i hw;rw[if_pos hw] at this;exact this
 rename_i hw;rw[if_neg hw] at this;exact⟨fun f _=>hfn f,this⟩
theorem tkF {ops:Array Oper} {Q:Exit→Act→World→Prop} (i:Nat) {oi:Oper} {fuel:Nat} {listed:Array Bool} {a:Act} {w:World}
  (h:wpAnyH P md ops Q S fuel (listed.setIfInBounds i true) (a.put oi.dst undef) w)
  (hi:ops[i]?=some oi:=by exact rfl) (hs:Region.noSelect ops=true:=by kernel_rfl) (hf:Region.free md ops listed i=true:=by decide +kernel) (hr:(Region.ready md ops listed).contains i=true:=by decide +kernel)
  (hQ:∀ c a w,Q (.panic c) (a.put oi.dst undef) w→Q (.panic c) a w:=by exact fun _ _ _ h=>h) (hw:Region.wanted oi (yielded ops a.tmps)=false:=by kernel_rfl) (hS:S w:=by assumption):wpAnyH P md ops Q S (fuel+1) listed a w :=
 wpAnyH_take hi hs hf hr hQ (Or.inr ⟨hw,rfl⟩) hS h
end
def Cs (L:List (Nat × Nat × Value)) (W:World):Prop:=∀ x∈L,W.cell? ⟨x.1,x.2.1,none⟩=some x.2.2
structure Sx (w:World) (L:List (Nat × Nat × Value)) (W:World):Prop where
 cs:Cs L W
 bel:Below w.heap.size w W
theorem Cs.below {L:List (Nat × Nat × Value)} {W W':World} (h:Cs L W) (hb:Below W.heap.size W W'):Cs L W':=fun x hx =>
 (hb.cell (p:=⟨x.1,x.2.1,none⟩) (World.block_lt_of_cell? W _ (h x hx))).trans (h x hx)
theorem Sx.step {w:World} {L:List (Nat × Nat × Value)} {W W':World} (h:Sx w L W) (hb:Below W.heap.size W W'):Sx w L W':=⟨h.cs.below hb,h.bel.trans (hb.mono h.bel.size)⟩
theorem Sx.drew {w:World} {L:List (Nat × Nat × Value)} {W:World} (h:Sx w L W):Sx w L W.drew:=⟨h.cs,h.bel.drew⟩
theorem Sx.alloc {w:World} {L:List (Nat × Nat × Value)} {W:World} (h:Sx w L W) (o:Obj):Sx w L (W.alloc o) :=
 h.step ((Below.refl _ W).alloc (Nat.le_refl _) o)
theorem cs_nil (W:World):Cs [] W:=fun _ h=>by cases h
theorem cs_cons {x:Nat × Nat × Value} {L:List (Nat × Nat × Value)} {W:World} (h:W.cell? ⟨x.1,x.2.1,none⟩=some x.2.2) (hs:Cs L W):Cs (x :: L) W:=fun y hy=>by
 rcases List.mem_cons.1 hy with rfl | hy
 ·exact h
 exact hs y hy
theorem cs_iff_cons {b o:Nat} {v:Value} {L:List (Nat × Nat × Value)} {W:World}:Cs ((b,o,v) :: L) W↔W.cell? ⟨b,o,none⟩=some v∧Cs L W :=
 ⟨fun h=>⟨h _ (List.mem_cons_self ..),fun y hy=>h y (List.mem_cons_of_mem _ hy)⟩,fun h=>cs_cons h.1 h.2⟩
end Go.Proofs.YtoojdkaimhlcbaaGreat
namespace Go.Proofs.YtoojdkaimhlcbaaGreat
open Go Go.RowKit
section
variable {F : Fence} {n : Nat} {P : Program} {ops : Array Oper} {Q : Exit → Act → World → Prop} {md : Region.Mode} {S : World → Prop}
theorem tkF2 (i:Nat) (d:Nat) {oi:Oper} {fuel:Nat} {listed:Array Bool} {a:Act} {w:World}
  (h:wpAnyH P md ops Q S fuel (listed.setIfInBounds i true) (a.put (some d) undef) w)
  (hi:ops[i]?=some oi:=by exact rfl) (hdd:oi.dst=some d:=by kernel_rfl) (hs:Region.noSelect ops=true:=by kernel_rfl) (hf:Region.free md ops listed i=true:=by decide +kernel) (hr:(Region.ready md ops listed).contains i=true:=by decide +kernel)
  (hQ:∀ c a w,Q (.panic c) (a.put oi.dst undef) w→Q (.panic c) a w:=by exact fun _ _ _ h=>h) (hw:Region.wanted oi (yielded ops a.tmps)=false:=by kernel_rfl) (hS:S w:=by assumption):wpAnyH P md ops Q S (fuel+1) listed a w :=
 tkF i (by rw[hdd];exact h) hi hs hf hr hQ hw hS
theorem tkH2 (i:Nat) (d:Nat) {oi:Oper} {v:Value} {fuel:Nat} {listed:Array Bool} {a:Act} {w:World}
  (hy:∀ w,S w→(execOp a.eval oi).run P w=.ok (.value v) w) (h:wpAnyH P md ops Q S fuel (listed.setIfInBounds i true) (a.put (some d) v) w)
  (hi:ops[i]?=some oi:=by exact rfl) (hdd:oi.dst=some d:=by kernel_rfl) (hs:Region.noSelect ops=true:=by kernel_rfl) (hf:Region.free md ops listed i=true:=by decide +kernel) (hr:(Region.ready md ops listed).contains i=true:=by decide +kernel)
  (hQ:∀ c a w,Q (.panic c) (a.put oi.dst v) w→Q (.panic c) a w:=by exact fun _ _ _ h=>h) (hw:Region.wanted oi (yielded ops a.tmps)=true:=by kernel_rfl) (hS:S w:=by assumption):wpAnyH P md ops Q S (fuel+1) listed a w :=
 wpAnyH_take hi hs hf hr hQ (Or.inl ⟨hw,hy⟩) hS (by rw[hdd];exact h)
theorem tkI2 (i:Nat) (d:Nat) {oi:Oper} {v:Value} {fuel:Nat} {listed:Array Bool} {a:Act} {w:World} (hfn:∀ f,F.fn f)
  (hy:∀ w,S w→(execOp a.eval oi).run P w=.ok (.value v) w) (h:wpAnyInH F n P md ops Q S fuel (listed.setIfInBounds i true) (a.put (some d) v) w)
  (hi:ops[i]?=some oi:=by exact rfl) (hdd:oi.dst=some d:=by kernel_rfl) (hs:Region.noSelect ops=true:=by kernel_rfl) (hd:noDefer ops=true:=by kernel_rfl) (hf:Region.free md ops listed i=true:=by decide +kernel) (hr:(Region.ready md ops listed).contains i=true:=by decide +kernel)
  (hQ:∀ c a w,Q (.panic c) (a.put oi.dst v) w→Q (.panic c) a w:=by exact fun _ _ _ h=>h) (hw:Region.wanted oi (yielded ops a.tmps)=true:=by kernel_rfl) (hS:S w:=by assumption):wpAnyInH F n P md ops Q S (fuel+1) listed a w :=
 tkI i hfn hy (by rw[hdd];exact h) hi hs hd hf hr hQ hw hS
theorem tkN2 (i:Nat) (d:Nat) {oi:Oper} {fuel:Nat} {listed:Array Bool} {a:Act} {w:World} (hfn:∀ f,F.fn f)
  (h:wpAnyInH F n P md ops Q S fuel (listed.setIfInBounds i true) (a.put (some d) undef) w)
  (hi:ops[i]?=some oi:=by exact rfl) (hdd:oi.dst=some d:=by kernel_rfl) (hs:Region.noSelect ops=true:=by kernel_rfl) (hd:noDefer ops=true:=by kernel_rfl) (hf:Region.free md ops listed i=true:=by decide +kernel) (hr:(Region.ready md ops listed).contains i=true:=by decide +kernel)
  (hQ:∀ c a w,Q (.panic c) (a.put oi.dst undef) w→Q (.panic c) a w:=by exact fun _ _ _ h=>h) (hw:Region.wanted oi (yielded ops a.tmps)=false:=by kernel_rfl) (hS:S w:=by assumption):wpAnyInH F n P md ops Q S (fuel+1) listed a w :=
 tkN i hfn (by rw[hdd];exact h) hi hs hd hf hr hQ hw hS
theorem tkHx (i:Nat) (d:Nat) {oi:Oper} {v:Value} {fuel:Nat} {listed l':Array Bool} {a a':Act} {w:World}
  (h:wpAnyH P md ops Q S fuel l' a' w) (hi:ops[i]?=some oi:=by exact rfl)
  (hy:∀ w,S w→(execOp a.eval oi).run P w=.ok (.value v) w:=by (intro w' hSw;replace hSw:=hSw.cs;(try simp only[cs_iff_cons] at hSw);go_simp;(try with_reducible rfl)))
  (ha:a.put (some d) v=a':=by ((try simp only[Act.put,List.setIfInBounds_toArray,List.set_cons_zero,List.set_cons_succ]);exact rfl))
  (hl:listed.setIfInBounds i true=l':=by ((try simp only[List.setIfInBounds_toArray,List.set_cons_zero,List.set_cons_succ]);exact rfl))
  (hdd:oi.dst=some d:=by kernel_rfl) (hs:Region.noSelect ops=true:=by kernel_rfl) (hf:Region.free md ops listed i=true:=by decide +kernel) (hr:(Region.ready md ops listed).contains i=true:=by decide +kernel)
  (hQ:∀ c a w,Q (.panic c) (a.put oi.dst v) w→Q (.panic c) a w:=by exact fun _ _ _ h=>h) (hw:Region.wanted oi (yielded ops a.tmps)=true:=by kernel_rfl) (hS:S w:=by assumption):wpAnyH P md ops Q S (fuel+1) listed a w :=
 tkH2 i d hy (by rw[ha,hl];exact h) hi hdd hs hf hr hQ hw hS
theorem tkFx (i:Nat) (d:Nat) {oi:Oper} {fuel:Nat} {listed l':Array Bool} {a a':Act} {w:World}
  (h:wpAnyH P md ops Q S fuel l' a' w) (hi:ops[i]?=some oi:=by exact rfl)
  (ha:a.put (some d) undef=a':=by ((try simp only[Act.put,List.setIfInBounds_toArray,List.set_cons_zero,List.set_cons_succ]);exact rfl))
  (hl:listed.setIfInBounds i true=l':=by ((try simp only[List.setIfInBounds_toArray,List.set_cons_zero,List.set_cons_succ]);exact rfl))
  (hdd:oi.dst=some d:=by kernel_rfl) (hs:Region.noSelect ops=true:=by kernel_rfl) (hf:Region.free md ops listed i=true:=by decide +kernel) (hr:(Region.ready md ops listed).contains i=true:=by decide +kernel)
  (hQ:∀ c a w,Q (.panic c) (a.put oi.dst undef) w→Q (.panic c) a w:=by exact fun _ _ _ h=>h) (hw:Region.wanted oi (yielded ops a.tmps)=false:=by kernel_rfl) (hS:S w:=by assumption):wpAnyH P md ops Q S (fuel+1) listed a w :=
 tkF2 i d (by rw[ha,hl];exact h) hi hdd hs hf hr hQ hw hS
theorem tkIx (i:Nat) (d:Nat) {oi:Oper} {v:Value} {fuel:Nat} {listed l':Array Bool} {a a':Act} {w:World}
  (h:wpAnyInH F n P md ops Q S fuel l' a' w) (hi:ops[i]?=some oi:=by exact rfl)
  (hy:∀ w,S w→(execOp a.eval oi).run P w=.ok (.value v) w:=by (intro w' hSw;replace hSw:=hSw.cs;(try simp only[cs_iff_cons] at hSw);go_simp;(try with_reducible rfl)))
  (ha:a.put (some d) v=a':=by ((try simp only[Act.put,List.setIfInBounds_toArray,List.set_cons_zero,List.set_cons_succ]);exact rfl))
  (hl:listed.setIfInBounds i true=l':=by ((try simp only[List.setIfInBounds_toArray,List.set_cons_zero,List.set_cons_succ]);exact rfl))
  (hfn:∀ f,F.fn f:=by exact fun _=>trivial)
  (hdd:oi.dst=some d:=by kernel_rfl) (hs:Region.noSelect ops=true:=by kernel_rfl) (hd:noDefer ops=true:=by kernel_rfl) (hf:Region.free md ops listed i=true:=by decide +kernel) (hr:(Region.ready md ops listed).contains i=true:=by decide +kernel)
  (hQ:∀ c a w,Q (.panic c) (a.put oi.dst v) w→Q (.panic c) a w:=by exact fun _ _ _ h=>h) (hw:Region.wanted oi (yielded ops a.tmps)=true:=by kernel_rfl) (hS:S w:=by assumption):wpAnyInH F n P md ops Q S (fuel+1) listed a w :=
 tkI2 i d hfn hy (by rw[ha,hl];exact h) hi hdd hs hd hf hr hQ hw hS
theorem tkNx (i:Nat) (d:Nat) {oi:Oper} {fuel:Nat} {listed l':Array Bool} {a a':Act} {w:World}
  (h:wpAnyInH F n P md ops Q S fuel l' a' w) (hi:ops[i]?=some oi:=by exact rfl)
  (ha:a.put (some d) undef=a':=by ((try simp only[Act.put,List.setIfInBounds_toArray,List.set_cons_zero,List.set_cons_succ]);exact rfl))
  (hl:listed.setIfInBounds i true=l':=by ((try simp only[List.setIfInBounds_toArray,List.set_cons_zero,List.set_cons_succ]);exact rfl))
  (hfn:∀ f,F.fn f:=by exact fun _=>trivial)
  (hdd:oi.dst=some d:=by kernel_rfl) (hs:Region.noSelect ops=true:=by kernel_rfl) (hd:noDefer ops=true:=by kernel_rfl) (hf:Region.free md ops listed i=true:=by decide +kernel) (hr:(Region.ready md ops listed).contains i=true:=by decide +kernel)
  (hQ:∀ c a w,Q (.panic c) (a.put oi.dst undef) w→Q (.panic c) a w:=by exact fun _ _ _ h=>h) (hw:Region.wanted oi (yielded ops a.tmps)=false:=by kernel_rfl) (hS:S w:=by assumption):wpAnyInH F n P md ops Q S (fuel+1) listed a w :=
 tkN2 i d hfn (by rw[ha,hl];exact h) hi hdd hs hd hf hr hQ hw hS
end
structure SmP (p:Pt):Prop where
 x0:-1000000≤p.x
 x1:p.x≤1000000
 y0:-1000000≤p.y
 y1:p.y≤1000000
structure SmS (s:Sd):Prop where
 a:SmP s.a
 b:SmP s.b
theorem mul_le_of {a b M N:Int} (ha:-M≤a) (ha':a≤M) (hb:-N≤b) (hb':b≤N):-(M*N)≤a*b∧a*b≤M*N:=by
 have h1:0≤(M-a)*(N-b):=Int.mul_nonneg (by omega) (by omega)
 have h2:0≤(M+a)*(N+b):=Int.mul_nonneg (by omega) (by omega)
 have h3:0≤(M-a)*(N+b):=Int.mul_nonneg (by omega) (by omega)
 have h4:0≤(M+a)*(N-b):=Int.mul_nonneg (by omega) (by omega)
 constructor <;> grind
theorem mul_box {a b:Int} (ha:-4000000≤a) (ha':a≤4000000) (hb:-4000000≤b) (hb':b≤4000000):-16000000000000≤a*b∧a*b≤16000000000000:=by
 have:=mul_le_of (M:=4000000) (N:=4000000) ha ha' hb hb'
 omega
theorem to_any (a b:Pt) (w:World) (ha:SmP a) (hb:SmP b) :
  Calls Tryz.prog 78 #[.agg #[.int .i64 a.x,.int .i64 a.y],.agg #[.int .i64 b.x,.int .i64 b.y]] w fun e w'=>e=.returned (.agg #[.int .i64 (b.x-a.x),.int .i64 (b.y-a.y)])∧Below w.heap.size w w':=by
 obtain⟨a0,a1,a2,a3⟩:=ha
 obtain⟨b0,b1,b2,b3⟩:=hb
 go_enter Tryz.func78,Tryz.ntmps78
 go_wp2
 go_returns
 exact⟨rfl,blw⟩
theorem cross_any (a b:Pt) (w:World) (ha:-4000000≤a.x∧a.x≤4000000∧-4000000≤a.y∧a.y≤4000000) (hb:-4000000≤b.x∧b.x≤4000000∧-4000000≤b.y∧b.y≤4000000) :
  Calls Tryz.prog 53 #[.agg #[.int .i64 a.x,.int .i64 a.y],.agg #[.int .i64 b.x,.int .i64 b.y]] w fun e w'=>e=.returned (.int .i64 (a.x*b.y-a.y*b.x))∧Below w.heap.size w w':=by
 obtain⟨a0,a1,a2,a3⟩:=ha
 obtain⟨b0,b1,b2,b3⟩:=hb
 obtain⟨p0,p1⟩:=mul_box a0 a1 b2 b3
 obtain⟨q0,q1⟩:=mul_box a2 a3 b0 b1
 go_enter Tryz.func53,Tryz.ntmps53
 go_wp2
 go_ret
 exact⟨rfl,blw⟩
theorem dot_any (a b:Pt) (w:World) (ha:-4000000≤a.x∧a.x≤4000000∧-4000000≤a.y∧a.y≤4000000) (hb:-4000000≤b.x∧b.x≤4000000∧-4000000≤b.y∧b.y≤4000000) :
  Calls Tryz.prog 77 #[.agg #[.int .i64 a.x,.int .i64 a.y],.agg #[.int .i64 b.x,.int .i64 b.y]] w fun e w'=>e=.returned (.int .i64 (a.x*b.x+a.y*b.y))∧Below w.heap.size w w':=by
 obtain⟨a0,a1,a2,a3⟩:=ha
 obtain⟨b0,b1,b2,b3⟩:=hb
 obtain⟨p0,p1⟩:=mul_box a0 a1 b0 b1
 obtain⟨q0,q1⟩:=mul_box a2 a3 b2 b3
 go_enter Tryz.func77,Tryz.ntmps77
 go_wp2
 go_ret
 exact⟨rfl,blw⟩
theorem Cal.ptErr_in {p:Pt} (h0:-100000≤p.x) (h1:p.x≤100000) (h2:-100000≤p.y) (h3:p.y≤100000):Cal.ptErr p=0:=by
 unfold Cal.ptErr
 exact if_neg (by omega)
theorem Cal.ptErr_out {p:Pt} (h:¬(-100000≤p.x∧p.x≤100000∧-100000≤p.y∧p.y≤100000)):Cal.ptErr p=2:=by
 unfold Cal.ptErr
 exact if_pos (by omega)
theorem checkPoint_any (p:Pt) (w:World):Calls Tryz.prog 64 #[.agg #[.int .i64 p.x,.int .i64 p.y]] w fun e w'=>e=.returned (.int .i64 (Cal.ptErr p))∧Below w.heap.size w w':=by
 by_cases hin:-100000≤p.x∧p.x≤100000∧-100000≤p.y∧p.y≤100000
 ·obtain⟨h0,h1,h2,h3⟩:=hin
  have hf:=Lib.hid (Cal.ptErr_in h0 h1 h2 h3)
  have m1:max p.x p.y≤100000:=by omega
  have m2:-100000≤min p.x p.y:=by omega
  go_enter Tryz.func64,Tryz.ntmps64
  go_wp2
  go_ret
  exact⟨ret_int hf.out.symm,blw⟩
 have hf:=Lib.hid (Cal.ptErr_out hin)
 by_cases m1:max p.x p.y≤100000
 ·have m2:min p.x p.y < -100000:=by omega
  clear hin
  go_enter Tryz.func64,Tryz.ntmps64
  go_wp2
  go_ret
  exact⟨ret_int hf.out.symm,blw⟩
 have m1:100000<max p.x p.y:=by omega
 clear hin
 go_enter Tryz.func64,Tryz.ntmps64
 go_wp2
 go_ret
 exact⟨ret_int hf.out.symm,blw⟩
end Go.Proofs.YtoojdkaimhlcbaaGreat
namespace Go.Proofs.YtoojdkaimhlcbaaGreat
open Go Go.RowKit
section
variable {F : Fence} {n : Nat} {P : Program} {ops : Array Oper} {Q : Exit → Act → World → Prop} {md : Region.Mode} {S : World → Prop} {y : Nat}
def waiters (ops:Array Oper) (md:Region.Mode) (i:Nat):List Nat :=
 (List.range ops.size).foldl (fun acc k=>if k == i || ((ops[k]?.map fun o=>o.after.any fun e=>Region.binds md e && acc.contains e.on).getD false) then k :: acc else acc) []
def chained (ops:Array Oper) (md:Region.Mode) (i:Nat) (C:List Nat):Bool :=
 C.all fun k=>k == i || ((ops[k]?.map fun o=>o.after.any fun e=>Region.binds md e && C.contains e.on).getD false)
def unlistedB (listed:Array Bool) (C:List Nat):Bool:=C.all fun k=>listed.getD k true == false
theorem not_ready_of_chained {i j:Nat} {C:List Nat} {listed:Array Bool} (hC:chained ops md i C=true) (hU:∀ k∈C,listed.getD k true=false) (hj:j∈Region.ready md ops listed) (hji:j≠i):j∉C:=by
 intro hm
 have h1:=List.all_eq_true.1 hC j hm
 obtain⟨_,oj,hoj,hall⟩:=mem_ready.1 hj
 simp only[hoj,Option.map_some,Option.getD_some,Bool.or_eq_true,beq_iff_eq] at h1
 rcases h1 with h1 | h1
 ·exact hji h1
 obtain⟨e,he,hb⟩:=Array.any_eq_true'.1 h1
 rw[Bool.and_eq_true] at hb
 have hin:e.on∈C:=by simpa using hb.2
 have h2:=hall e he hb.1
 have h0:=hU _ hin
 rcases Nat.lt_or_ge e.on listed.size with h' | h'
 ·simp[h'] at h0 h2;rw[h0] at h2;cases h2
 simp[h'] at h0
def wpAnyInY (F:Fence) (n:Nat) (P:Program) (md:Region.Mode) (ops:Array Oper) (Q:Exit→Act→World→Prop) (S:World→Prop) (y:Nat):Nat→Array Bool→Act→World→Prop
 | 0,listed,a,w=>Region.ready md ops listed=[]∧Q .normal a w
 | fuel+1,listed,a,w =>
  (Region.ready md ops listed=[]→Q .normal a w) ∧
  ∀ i∈Region.ready md ops listed,wpOpIn F n P ops Q i (fun a' w'=>((listed.setIfInBounds i true).getD y true=false→S w')∧wpAnyInY F n P md ops Q S y fuel (listed.setIfInBounds i true) a' w') a w
theorem wpAnyIn_of_heldY:∀ (fuel:Nat) (listed:Array Bool) (a:Act) (w:World),wpAnyInY F n P md ops Q S y fuel listed a w→wpAnyIn F n P md ops Q fuel listed a w
 | 0,_,_,_,h=>h
 | fuel+1,_,_,_,h=>⟨h.1,fun i hi=>wpOpIn_mono (fun a' w' h'=>wpAnyIn_of_heldY fuel _ a' w' h'.2) (h.2 i hi)⟩
theorem wpAnyInY_first (hfn:∀ f,F.fn f) {i:Nat} {oi:Oper} {v:Value} {C:List Nat} (hi:ops[i]?=some oi) (hsel:∀ (j:Nat) (o:Oper) cs b,ops[j]?=some o→o.op≠.select cs b) (hdef:∀ (j:Nat) (o:Oper) c,ops[j]?=some o→o.op≠.defer c)
  (hQ:∀ c a w,Q (.panic c) (a.put oi.dst v) w→Q (.panic c) a w) (hC:chained ops md i C=true) (hyC:y∈C) (hiy:i≠y) :
  ∀ (fuel:Nat) (listed:Array Bool) (a:Act) (w:World),(∀ k∈C,listed.getD k true=false) →
   (∀ j oj,ops[j]?=some oj→j≠i→listed.getD j true=false→(∀ e∈oj.after,Region.binds md e=true→e.on≠i)→oi.apart ops oj=true) →
   i∈Region.ready md ops listed→YieldsIf P ops S oi v a→S w →
   wpAnyInY F n P md ops Q S y fuel (listed.setIfInBounds i true) (a.put oi.dst v) w→wpAnyInY F n P md ops Q S y (fuel+1) listed a w:=by
 intro fuel
 induction fuel with
 | zero =>
  intro listed a w hU _ hr hy hS H
  refine⟨fun h=>(by rw[h] at hr;cases hr),fun j hj=>?_⟩
  by_cases hji:j=i
  ·subst hji;exact yieldsIf_wpOpIn hfn hi (fun c=>hdef _ _ c hi) hy hS ⟨fun _=>hS,H⟩
  have:=ready_mono hj hji
  rw[H.1] at this
  cases this
 | succ fuel ih =>
  intro listed a w hU hfree hr hy hS H
  refine⟨fun h=>(by rw[h] at hr;cases hr),fun j hj=>?_⟩
  by_cases hji:j=i
  ·subst hji;exact yieldsIf_wpOpIn hfn hi (fun c=>hdef _ _ c hi) hy hS ⟨fun _=>hS,H⟩
  have h1:=H.2 j (ready_mono hj hji)
  have hjC:=not_ready_of_chained hC hU hj hji
  have hjy:j≠y:=fun e=>hjC (e ▸ hyC)
  obtain⟨hjun,oj,hoj,hall⟩:=mem_ready.1 hj
  have hnot:∀ e∈oj.after,Region.binds md e=true→e.on≠i:=fun e he hb heq=>by
   have h1:=hall e he hb
   have h0:=(mem_ready.1 hr).1
   rw[heq] at h1
   rcases Nat.lt_or_ge i listed.size with h' | h'
   ·simp[h'] at h0 h1;rw[h0] at h1;cases h1
   simp[Array.getElem?_eq_none h'] at h1
  have h2:=wpOpIn_putIf hfn hoj (fun c=>hdef _ _ c hoj) (hfree j oj hoj hji hjun hnot) (fun cs b=>hsel i oi cs b hi) (fun cs b=>hsel j oj cs b hoj) hQ hy h1
  have hfree':∀ k ok,ops[k]?=some ok→k≠i→(listed.setIfInBounds j true).getD k true=false →
    (∀ e∈ok.after,Region.binds md e=true→e.on≠i)→oi.apart ops ok=true:=fun k ok hk hki hun hno=>by
   refine hfree k ok hk hki ?_ hno
   by_cases hjk:j=k
   ·subst hjk;exact hjun
   rw[getD_set_ne true hjk] at hun;exact hun
  have hU':∀ k∈C,(listed.setIfInBounds j true).getD k true=false:=fun k hk=>by
   have hjk:j≠k:=fun e=>hjC (e ▸ hk)
   rw[getD_set_ne true hjk];exact hU k hk
  have hyu:((listed.setIfInBounds i true).setIfInBounds j true).getD y true=false:=by
   rw[Array.setIfInBounds_comm _ _ (Ne.symm hji),getD_set_ne true hiy];exact hU' y hyC
  refine wpOpIn_mono (fun a' w' h3=>⟨fun _=>h3.2.1 hyu,ih (listed.setIfInBounds j true) a' w' hU' hfree' (ready_mono hr (Ne.symm hji)) h3.1 (h3.2.1 hyu) ?_⟩) h2
  rw[Array.setIfInBounds_comm _ _ hji]
  exact h3.2.2
theorem wpIn_region_heldY {id:Nat} {a:Act} {w:World} (y:Nat) (hm:P.follows .mixedOrders=true) (hS:S w.drew)
  (h:S w.drew→wpAnyInY F n P .any ops Q S y ops.size (Array.replicate ops.size false) a w.drew):(Code.region id ops true).wpIn F n P Q a w :=
 wpIn_region_any hm (wpAnyIn_of_heldY _ _ _ _ (h hS))
theorem wpAnyInY_done {listed:Array Bool} {a:Act} {w:World} (hr:Region.ready md ops listed=[]) (h:Q .normal a w):∀ fuel,wpAnyInY F n P md ops Q S y fuel listed a w
 | 0=>⟨hr,h⟩
 | _+1=>⟨fun _=>h,by rw[hr];simp⟩
theorem unlisted_spec {listed:Array Bool} {C:List Nat} (h:unlistedB listed C=true):∀ k∈C,listed.getD k true=false:=fun k hk=>by
 have:=List.all_eq_true.1 h k hk
 simpa using this
theorem tkY (i d:Nat) {oi:Oper} {v:Value} {fuel:Nat} {listed:Array Bool} {a:Act} {w:World} (hfn:∀ f,F.fn f)
  (hy:∀ w,S w→(execOp a.eval oi).run P w=.ok (.value v) w) (h:wpAnyInY F n P md ops Q S y fuel (listed.setIfInBounds i true) (a.put (some d) v) w)
  (hi:ops[i]?=some oi:=by exact rfl) (hdd:oi.dst=some d:=by kernel_rfl) (hs:Region.noSelect ops=true:=by kernel_rfl) (hd:noDefer ops=true:=by kernel_rfl) (hf:Region.free md ops listed i=true:=by decide +kernel) (hr:(Region.ready md ops listed).contains i=true:=by decide +kernel)
  (hC:chained ops md i (waiters ops md i)=true:=by kernel_rfl) (hyC:(waiters ops md i).contains y=true:=by kernel_rfl) (hiy:(i == y)=false:=by kernel_rfl) (hU:unlistedB listed (waiters ops md i)=true:=by kernel_rfl)
  (hQ:∀ c a w,Q (.panic c) (a.put oi.dst v) w→Q (.panic c) a w:=by exact fun _ _ _ h=>h) (hw:Region.wanted oi (yielded ops a.tmps)=true:=by kernel_rfl) (hS:S w:=by assumption):wpAnyInY F n P md ops Q S y (fuel+1) listed a w :=
 wpAnyInY_first hfn hi (Region.noSelect_spec hs) (fun _ _ c ho=>noDefer_spec hd ho c) hQ hC (by simpa using hyC) (by simpa using hiy) fuel listed a w (unlisted_spec hU) (Region.free_spec hi hf) (by simpa using hr) (Or.inl ⟨hw,hy⟩) hS (by rw[hdd];exact h)
theorem tkYx (i d:Nat) {oi:Oper} {v:Value} {fuel:Nat} {listed l':Array Bool} {a a':Act} {w:World}
  (h:wpAnyInY F n P md ops Q S y fuel l' a' w) (hi:ops[i]?=some oi:=by exact rfl)
  (hy:∀ w,S w→(execOp a.eval oi).run P w=.ok (.value v) w:=by (intro w' hSw;replace hSw:=hSw.cs;(try simp only[cs_iff_cons] at hSw);go_simp;(try with_reducible rfl)))
  (ha:a.put (some d) v=a':=by ((try simp only[Act.put,List.setIfInBounds_toArray,List.set_cons_zero,List.set_cons_succ]);exact rfl))
  (hl:listed.setIfInBounds i true=l':=by ((try simp only[List.setIfInBounds_toArray,List.set_cons_zero,List.set_cons_succ]);exact rfl))
  (hfn:∀ f,F.fn f:=by exact fun _=>trivial)
  (hdd:oi.dst=some d:=by kernel_rfl) (hs:Region.noSelect ops=true:=by kernel_rfl) (hd:noDefer ops=true:=by kernel_rfl) (hf:Region.free md ops listed i=true:=by decide +kernel) (hr:(Region.ready md ops listed).contains i=true:=by decide +kernel)
  (hC:chained ops md i (waiters ops md i)=true:=by kernel_rfl) (hyC:(waiters ops md i).contains y=true:=by kernel_rfl) (hiy:(i == y)=false:=by kernel_rfl) (hU:unlistedB listed (waiters ops md i)=true:=by kernel_rfl)
  (hQ:∀ c a w,Q (.panic c) (a.put oi.dst v) w→Q (.panic c) a w:=by exact fun _ _ _ h=>h) (hw:Region.wanted oi (yielded ops a.tmps)=true:=by kernel_rfl) (hS:S w:=by assumption):wpAnyInY F n P md ops Q S y (fuel+1) listed a w :=
 tkY i d hfn hy (by rw[ha,hl];exact h) hi hdd hs hd hf hr hC hyC hiy hU hQ hw hS
theorem ratY (i:Nat) {o:Oper} {fuel:Nat} {listed:Array Bool} {a:Act} {w:World} (hfn:∀ f,F.fn f) (hr:Region.ready md ops listed=[i]) (ho:ops[i]?=some o)
  (h:∀ K':Act→World→Prop,Shut (∀ a w,S w→(S w→wpAnyInY F n P md ops Q S y fuel (listed.setIfInBounds i true) a w)→K' a w)→if Region.wanted o (yielded ops a.tmps)=true then Oper.wpIn F n P o a w K' Q else K' (a.put o.dst undef) w) :
  wpAnyInY F n P md ops Q S y (fuel+1) listed a w:=by
 refine⟨fun h0=>absurd (hr ▸ h0) (by simp),?_⟩
 rw[hr]
 intro j hj
 rcases List.mem_singleton.1 hj with rfl
 refine wpOpIn_step ho (fun K' hK=>?_)
 have:=h K' (fun a w hS hW=>hK a w ⟨fun _=>hS,hW hS⟩)
 split
 ·rename_i hw;rw[if_pos hw] at this;exact this
 rename_i hw;rw[if_neg hw] at this;exact⟨fun f _=>hfn f,this⟩
theorem ratYc (i:Nat) {o:Oper} {fuel:Nat} {listed:Array Bool} {a:Act} {w:World} (hfn:∀ f,F.fn f) (hr:Region.ready md ops listed=[i]) (ho:ops[i]?=some o) (hy:(listed.setIfInBounds i true).getD y true=true)
  (h:∀ K':Act→World→Prop,Shut (∀ a w,wpAnyInY F n P md ops Q S y fuel (listed.setIfInBounds i true) a w→K' a w)→if Region.wanted o (yielded ops a.tmps)=true then Oper.wpIn F n P o a w K' Q else K' (a.put o.dst undef) w) :
  wpAnyInY F n P md ops Q S y (fuel+1) listed a w:=by
 refine⟨fun h0=>absurd (hr ▸ h0) (by simp),?_⟩
 rw[hr]
 intro j hj
 rcases List.mem_singleton.1 hj with rfl
 refine wpOpIn_step ho (fun K' hK=>?_)
 have:=h K' (fun a w hW=>hK a w ⟨fun e=>(by rw[hy] at e;cases e),hW⟩)
 split
 ·rename_i hw;rw[if_pos hw] at this;exact this
 rename_i hw;rw[if_neg hw] at this;exact⟨fun f _=>hfn f,this⟩
end
end Go.Proofs.YtoojdkaimhlcbaaGreat
namespace Go.Proofs.YtoojdkaimhlcbaaGreat
open Go Go.RowKit
section
variable {P : Program} {ops : Array Oper} {Q : Exit → Act → World → Prop} {md : Region.Mode} {S : World → Prop} {y : Nat}
def wpAnyHY (P:Program) (md:Region.Mode) (ops:Array Oper) (Q:Exit→Act→World→Prop) (S:World→Prop) (y:Nat):Nat→Array Bool→Act→World→Prop
 | 0,listed,a,w=>Region.ready md ops listed=[]∧Q .normal a w
 | fuel+1,listed,a,w =>
  (Region.ready md ops listed=[]→Q .normal a w) ∧
  ∀ i∈Region.ready md ops listed,wpOp P ops Q i (fun a' w'=>((listed.setIfInBounds i true).getD y true=false→S w')∧wpAnyHY P md ops Q S y fuel (listed.setIfInBounds i true) a' w') a w
theorem wpAny_of_heldZ:∀ (fuel:Nat) (listed:Array Bool) (a:Act) (w:World),wpAnyHY P md ops Q S y fuel listed a w→wpAny P md ops Q fuel listed a w
 | 0,_,_,_,h=>h
 | fuel+1,_,_,_,h=>⟨h.1,fun i hi=>wpOp_mono (fun a' w' h'=>wpAny_of_heldZ fuel _ a' w' h'.2) (h.2 i hi)⟩
theorem wpAnyHY_first {i:Nat} {oi:Oper} {v:Value} {C:List Nat} (hi:ops[i]?=some oi) (hsel:∀ (j:Nat) (o:Oper) cs b,ops[j]?=some o→o.op≠.select cs b)
  (hQ:∀ c a w,Q (.panic c) (a.put oi.dst v) w→Q (.panic c) a w) (hC:chained ops md i C=true) (hyC:y∈C) (hiy:i≠y) :
  ∀ (fuel:Nat) (listed:Array Bool) (a:Act) (w:World),(∀ k∈C,listed.getD k true=false) →
   (∀ j oj,ops[j]?=some oj→j≠i→listed.getD j true=false→(∀ e∈oj.after,Region.binds md e=true→e.on≠i)→oi.apart ops oj=true) →
   i∈Region.ready md ops listed→YieldsIf P ops S oi v a→S w →
   wpAnyHY P md ops Q S y fuel (listed.setIfInBounds i true) (a.put oi.dst v) w→wpAnyHY P md ops Q S y (fuel+1) listed a w:=by
 intro fuel
 induction fuel with
 | zero =>
  intro listed a w hU _ hr hy hS H
  refine⟨fun h=>(by rw[h] at hr;cases hr),fun j hj=>?_⟩
  by_cases hji:j=i
  ·subst hji;exact hy.wpOp hi hS ⟨fun _=>hS,H⟩
  have:=ready_mono hj hji
  rw[H.1] at this
  cases this
 | succ fuel ih =>
  intro listed a w hU hfree hr hy hS H
  refine⟨fun h=>(by rw[h] at hr;cases hr),fun j hj=>?_⟩
  by_cases hji:j=i
  ·subst hji;exact hy.wpOp hi hS ⟨fun _=>hS,H⟩
  have h1:=H.2 j (ready_mono hj hji)
  have hjC:=not_ready_of_chained hC hU hj hji
  have hjy:j≠y:=fun e=>hjC (e ▸ hyC)
  obtain⟨hjun,oj,hoj,hall⟩:=mem_ready.1 hj
  have hnot:∀ e∈oj.after,Region.binds md e=true→e.on≠i:=fun e he hb heq=>by
   have h1:=hall e he hb
   have h0:=(mem_ready.1 hr).1
   rw[heq] at h1
   rcases Nat.lt_or_ge i listed.size with h' | h'
   ·simp[h'] at h0 h1;rw[h0] at h1;cases h1
   simp[Array.getElem?_eq_none h'] at h1
  have h2:=wpOp_putIf hoj (hfree j oj hoj hji hjun hnot) (fun cs b=>hsel i oi cs b hi) (fun cs b=>hsel j oj cs b hoj) hQ hy h1
  have hfree':∀ k ok,ops[k]?=some ok→k≠i→(listed.setIfInBounds j true).getD k true=false →
    (∀ e∈ok.after,Region.binds md e=true→e.on≠i)→oi.apart ops ok=true:=fun k ok hk hki hun hno=>by
   refine hfree k ok hk hki ?_ hno
   by_cases hjk:j=k
   ·subst hjk;exact hjun
   rw[getD_set_ne true hjk] at hun;exact hun
  have hU':∀ k∈C,(listed.setIfInBounds j true).getD k true=false:=fun k hk=>by
   have hjk:j≠k:=fun e=>hjC (e ▸ hk)
   rw[getD_set_ne true hjk];exact hU k hk
  have hyu:((listed.setIfInBounds i true).setIfInBounds j true).getD y true=false:=by
   rw[Array.setIfInBounds_comm _ _ (Ne.symm hji),getD_set_ne true hiy];exact hU' y hyC
  refine wpOp_mono (fun a' w' h3=>⟨fun _=>h3.2.1 hyu,ih (listed.setIfInBounds j true) a' w' hU' hfree' (ready_mono hr (Ne.symm hji)) h3.1 (h3.2.1 hyu) ?_⟩) h2
  rw[Array.setIfInBounds_comm _ _ hji]
  exact h3.2.2
theorem wp_region_heldZ {id:Nat} {a:Act} {w:World} (y:Nat) (hm:P.follows .mixedOrders=true) (hS:S w.drew)
  (h:S w.drew→wpAnyHY P .any ops Q S y ops.size (Array.replicate ops.size false) a w.drew):(Code.region id ops true).wp P Q a w :=
 wp_region_any hm (wpAny_of_heldZ _ _ _ _ (h hS))
theorem wpAnyHY_done {listed:Array Bool} {a:Act} {w:World} (hr:Region.ready md ops listed=[]) (h:Q .normal a w):∀ fuel,wpAnyHY P md ops Q S y fuel listed a w
 | 0=>⟨hr,h⟩
 | _+1=>⟨fun _=>h,by rw[hr];simp⟩
theorem tkZ (i d:Nat) {oi:Oper} {v:Value} {fuel:Nat} {listed:Array Bool} {a:Act} {w:World}
  (hy:∀ w,S w→(execOp a.eval oi).run P w=.ok (.value v) w) (h:wpAnyHY P md ops Q S y fuel (listed.setIfInBounds i true) (a.put (some d) v) w)
  (hi:ops[i]?=some oi:=by exact rfl) (hdd:oi.dst=some d:=by kernel_rfl) (hs:Region.noSelect ops=true:=by kernel_rfl) (hf:Region.free md ops listed i=true:=by decide +kernel) (hr:(Region.ready md ops listed).contains i=true:=by decide +kernel)
  (hC:chained ops md i (waiters ops md i)=true:=by kernel_rfl) (hyC:(waiters ops md i).contains y=true:=by kernel_rfl) (hiy:(i == y)=false:=by kernel_rfl) (hU:unlistedB listed (waiters ops md i)=true:=by kernel_rfl)
  (hQ:∀ c a w,Q (.panic c) (a.put oi.dst v) w→Q (.panic c) a w:=by exact fun _ _ _ h=>h) (hw:Region.wanted oi (yielded ops a.tmps)=true:=by kernel_rfl) (hS:S w:=by assumption):wpAnyHY P md ops Q S y (fuel+1) listed a w :=
 wpAnyHY_first hi (Region.noSelect_spec hs) hQ hC (by simpa using hyC) (by simpa using hiy) fuel listed a w (unlisted_spec hU) (Region.free_spec hi hf) (by simpa using hr) (Or.inl ⟨hw,hy⟩) hS (by rw[hdd];exact h)
theorem tkZx (i d:Nat) {oi:Oper} {v:Value} {fuel:Nat} {listed l':Array Bool} {a a':Act} {w:World}
  (h:wpAnyHY P md ops Q S y fuel l' a' w) (hi:ops[i]?=some oi:=by exact rfl)
  (hy:∀ w,S w→(execOp a.eval oi).run P w=.ok (.value v) w:=by (intro w' hSw;replace hSw:=hSw.cs;(try simp only[cs_iff_cons] at hSw);go_simp;(try with_reducible rfl)))
  (ha:a.put (some d) v=a':=by ((try simp only[Act.put,List.setIfInBounds_toArray,List.set_cons_zero,List.set_cons_succ]);exact rfl))
  (hl:listed.setIfInBounds i true=l':=by ((try simp only[List.setIfInBounds_toArray,List.set_cons_zero,List.set_cons_succ]);exact rfl))
  (hdd:oi.dst=some d:=by kernel_rfl) (hs:Region.noSelect ops=true:=by kernel_rfl) (hf:Region.free md ops listed i=true:=by decide +kernel) (hr:(Region.ready md ops listed).contains i=true:=by decide +kernel)
  (hC:chained ops md i (waiters ops md i)=true:=by kernel_rfl) (hyC:(waiters ops md i).contains y=true:=by kernel_rfl) (hiy:(i == y)=false:=by kernel_rfl) (hU:unlistedB listed (waiters ops md i)=true:=by kernel_rfl)
  (hQ:∀ c a w,Q (.panic c) (a.put oi.dst v) w→Q (.panic c) a w:=by exact fun _ _ _ h=>h) (hw:Region.wanted oi (yielded ops a.tmps)=true:=by kernel_rfl) (hS:S w:=by assumption):wpAnyHY P md ops Q S y (fuel+1) listed a w :=
 tkZ i d hy (by rw[ha,hl];exact h) hi hdd hs hf hr hC hyC hiy hU hQ hw hS
theorem ratZc (i:Nat) {o:Oper} {fuel:Nat} {listed:Array Bool} {a:Act} {w:World} (hr:Region.ready md ops listed=[i]) (ho:ops[i]?=some o) (hy:(listed.setIfInBounds i true).getD y true=true)
  (h:∀ K':Act→World→Prop,Shut (∀ a w,wpAnyHY P md ops Q S y fuel (listed.setIfInBounds i true) a w→K' a w)→if Region.wanted o (yielded ops a.tmps)=true then Oper.wp P o a w K' Q else K' (a.put o.dst undef) w) :
  wpAnyHY P md ops Q S y (fuel+1) listed a w:=by
 refine⟨fun h0=>absurd (hr ▸ h0) (by simp),?_⟩
 rw[hr]
 intro j hj
 rcases List.mem_singleton.1 hj with rfl
 refine wpOp_step ho (fun K' hK=>?_)
 have:=h K' (fun a w hW=>hK a w ⟨fun e=>(by rw[hy] at e;cases e),hW⟩)
 split
 ·rename_i hw;rw[if_pos hw] at this;exact this
 rename_i hw;rw[if_neg hw] at this;exact this
end
end Go.Proofs.YtoojdkaimhlcbaaGreat
namespace Go.Proofs.YtoojdkaimhlcbaaGreat
open Go Go.RowKit
theorem cmpG_any (x y:Int) (w:World):Calls Tryz.prog 95 #[.int .i64 x,.int .i64 y] w fun e w'=>e=.returned (.int .i64 (Cal.cmpI x y))∧Below w.heap.size w w' :=
 (cmpI_any x y w).mono fun _ _ ⟨h1,h2⟩=>⟨h1,h2 ▸ Below.refl _ _⟩
theorem turn_any (s:Sd) (p:Pt) (w:World) (hs:SmS s) (hp:SmP p) :
  Calls Tryz.prog 79 #[.agg #[.int .i64 s.a.x,.int .i64 s.a.y,.int .i64 s.b.x,.int .i64 s.b.y],.agg #[.int .i64 p.x,.int .i64 p.y]] w fun e w'=>e=.returned (.int .i64 (Cal.trn s p))∧Below w.heap.size w w':=by
 go_enter Tryz.func79,Tryz.ntmps79
 go_wp2_with fail
 refine wp_region_held_drew (S:=Sx w [(w.heap.size,0,.int .i64 s.a.x),(w.heap.size,1,.int .i64 s.a.y),(w.heap.size,2,.int .i64 s.b.x),(w.heap.size,3,.int .i64 s.b.y),(w.heap.size+1,0,.int .i64 p.x),(w.heap.size+1,1,.int .i64 p.y)]) (by kernel_rfl) ⟨by simp[cs_iff_cons,cs_nil],blw⟩ (fun hHeld=>?_)
 refine tkHx 0 5 ?_
 refine tkHx 1 6 ?_
 refine tkHx 2 7 ?_
 refine tkHx 3 8 ?_
 refine tkHx 5 10 ?_
 refine tkHx 6 11 ?_
 refine tkHx 7 12 ?_
 (refine ratHx 4 (fun K hK=>?_);go_simp)
 refine (to_any s.a s.b _ hs.a hs.b).mono ?_
 rintro e wn ⟨rfl,hbn⟩
 go_simp
 (refine hK.out _ _ (hHeld.step hbn) (fun hHeld=>?_);clear hK K;(try simp only[apS,apN,siA,scZ,scS]))
 (refine ratHx 8 (fun K hK=>?_);go_simp)
 refine (to_any s.a p _ hs.a hp).mono ?_
 rintro e wn ⟨rfl,hbn⟩
 go_simp
 (refine hK.out _ _ (hHeld.step hbn) (fun hHeld=>?_);clear hK K;(try simp only[apS,apN,siA,scZ,scS]))
 have x0:=hs.a.x0
 have x1:=hs.a.x1
 have x2:=hs.a.y0
 have x3:=hs.a.y1
 have x4:=hs.b.x0
 have x5:=hs.b.x1
 have x6:=hs.b.y0
 have x7:=hs.b.y1
 have x8:=hp.x0
 have x9:=hp.x1
 have x10:=hp.y0
 have x11:=hp.y1
 (refine ratHx 9 (fun K hK=>?_);go_simp)
 refine (cross_any ⟨s.b.x-s.a.x,s.b.y-s.a.y⟩ ⟨p.x-s.a.x,p.y-s.a.y⟩ _ (by dsimp only;omega) (by dsimp only;omega)).mono ?_
 rintro e wn ⟨rfl,hbn⟩
 go_simp
 (refine hK.out _ _ (hHeld.step hbn) (fun hHeld=>?_);clear hK K;(try simp only[apS,apN,siA,scZ,scS]))
 (refine ratHx 10 (fun K hK=>?_);go_simp)
 refine (cmpG_any _ 0 _).mono ?_
 rintro e wn ⟨rfl,hbn⟩
 go_simp
 (refine hK.out _ _ (hHeld.step hbn) (fun hHeld=>?_);clear hK K;(try simp only[apS,apN,siA,scZ,scS]))
 refine tkHx 11 4 ?_
 refine wpAnyH_done (by kernel_rfl) ?_ _
 go_wp2_with fail
 go_ret
 exact⟨rfl,hHeld.bel⟩
theorem trn_cases (s:Sd) (p:Pt):Cal.trn s p=0∨Cal.trn s p=1∨Cal.trn s p=-1:=by
 unfold Cal.trn Cal.cmpI
 split
 ·exact .inr (.inr rfl)
 split
 ·exact .inr (.inl rfl)
 exact .inl rfl
theorem has_any (s:Sd) (p:Pt) (w:World) (hs:SmS s) (hp:SmP p) :
  Calls Tryz.prog 76 #[.agg #[.int .i64 s.a.x,.int .i64 s.a.y,.int .i64 s.b.x,.int .i64 s.b.y],.agg #[.int .i64 p.x,.int .i64 p.y]] w fun e w'=>e=.returned (.bool (Cal.hasP s p))∧Below w.heap.size w w':=by
 rcases trn_cases s p with h | h | h
 ·have h:=Lib.hid h
  go_enter Tryz.func76,Tryz.ntmps76
  go_wp2_with fail
  refine wp_region_held_drew (S:=Sx w [(w.heap.size,0,.int .i64 s.a.x),(w.heap.size,1,.int .i64 s.a.y),(w.heap.size,2,.int .i64 s.b.x),(w.heap.size,3,.int .i64 s.b.y),(w.heap.size+1,0,.int .i64 p.x),(w.heap.size+1,1,.int .i64 p.y)]) (by kernel_rfl) ⟨by simp[cs_iff_cons,cs_nil],blw⟩ (fun hHeld=>?_)
  refine tkHx 0 5 ?_
  refine tkHx 1 6 ?_
  (refine ratHx 2 (fun K hK=>?_);go_simp)
  refine (turn_any s p _ hs hp).mono ?_
  rintro e wn ⟨rfl,hbn⟩
  rw[h.out]
  go_simp
  (refine hK.out _ _ (hHeld.step hbn) (fun hHeld=>?_);clear hK K;(try simp only[apS,apN,siA,scZ,scS]))
  refine tkHx 3 8 ?_
  refine tkHx 4 9 ?_
  refine tkHx 5 10 ?_
  refine tkHx 6 11 ?_
  refine tkHx 7 12 ?_
  refine tkHx 9 14 ?_
  refine tkHx 10 15 ?_
  refine tkHx 11 16 ?_
  (refine ratHx 8 (fun K hK=>?_);go_simp)
  refine (to_any p s.a _ hp hs.a).mono ?_
  rintro e wn ⟨rfl,hbn⟩
  go_simp
  (refine hK.out _ _ (hHeld.step hbn) (fun hHeld=>?_);clear hK K;(try simp only[apS,apN,siA,scZ,scS]))
  (refine ratHx 12 (fun K hK=>?_);go_simp)
  refine (to_any p s.b _ hp hs.b).mono ?_
  rintro e wn ⟨rfl,hbn⟩
  go_simp
  (refine hK.out _ _ (hHeld.step hbn) (fun hHeld=>?_);clear hK K;(try simp only[apS,apN,siA,scZ,scS]))
  have x0:=hs.a.x0
  have x1:=hs.a.x1
  have x2:=hs.a.y0
  have x3:=hs.a.y1
  have x4:=hs.b.x0
  have x5:=hs.b.x1
  have x6:=hs.b.y0
  have x7:=hs.b.y1
  have x8:=hp.x0
  have x9:=hp.x1
  have x10:=hp.y0
  have x11:=hp.y1
  (refine ratHx 13 (fun K hK=>?_);go_simp)
  refine (dot_any ⟨s.a.x-p.x,s.a.y-p.y⟩ ⟨s.b.x-p.x,s.b.y-p.y⟩ _ (by dsimp only;omega) (by dsimp only;omega)).mono ?_
  rintro e wn ⟨rfl,hbn⟩
  go_simp
  (refine hK.out _ _ (hHeld.step hbn) (fun hHeld=>?_);clear hK K;(try simp only[apS,apN,siA,scZ,scS]))
  refine tkHx 14 19 ?_
  refine tkHx 15 20 ?_
  refine tkHx 16 4 ?_
  refine wpAnyH_done (by kernel_rfl) ?_ _
  go_wp2_with fail
  go_ret
  exact⟨ret_bool (by unfold Cal.hasP;rw[h.out];rfl),hHeld.bel⟩
 ·have h:=Lib.hid h
  go_enter Tryz.func76,Tryz.ntmps76
  go_wp2_with fail
  refine wp_region_held_drew (S:=Sx w [(w.heap.size,0,.int .i64 s.a.x),(w.heap.size,1,.int .i64 s.a.y),(w.heap.size,2,.int .i64 s.b.x),(w.heap.size,3,.int .i64 s.b.y),(w.heap.size+1,0,.int .i64 p.x),(w.heap.size+1,1,.int .i64 p.y)]) (by kernel_rfl) ⟨by simp[cs_iff_cons,cs_nil],blw⟩ (fun hHeld=>?_)
  refine tkHx 0 5 ?_
  refine tkHx 1 6 ?_
  (refine ratHx 2 (fun K hK=>?_);go_simp)
  refine (turn_any s p _ hs hp).mono ?_
  rintro e wn ⟨rfl,hbn⟩
  rw[h.out]
  go_simp
  (refine hK.out _ _ (hHeld.step hbn) (fun hHeld=>?_);clear hK K;(try simp only[apS,apN,siA,scZ,scS]))
  refine tkHx 3 8 ?_
  refine tkHx 4 9 ?_
  refine tkFx 5 10 ?_
  refine tkFx 6 11 ?_
  refine tkFx 7 12 ?_
  refine tkFx 8 13 ?_
  refine tkFx 9 14 ?_
  refine tkFx 10 15 ?_
  refine tkFx 11 16 ?_
  refine tkFx 12 17 ?_
  refine tkFx 13 18 ?_
  refine tkFx 14 19 ?_
  refine tkHx 15 20 ?_
  refine tkHx 16 4 ?_
  refine wpAnyH_done (by kernel_rfl) ?_ _
  go_wp2_with fail
  go_ret
  exact⟨ret_bool (by unfold Cal.hasP;rw[h.out];rfl),hHeld.bel⟩
 have h:=Lib.hid h
 go_enter Tryz.func76,Tryz.ntmps76
 go_wp2_with fail
 refine wp_region_held_drew (S:=Sx w [(w.heap.size,0,.int .i64 s.a.x),(w.heap.size,1,.int .i64 s.a.y),(w.heap.size,2,.int .i64 s.b.x),(w.heap.size,3,.int .i64 s.b.y),(w.heap.size+1,0,.int .i64 p.x),(w.heap.size+1,1,.int .i64 p.y)]) (by kernel_rfl) ⟨by simp[cs_iff_cons,cs_nil],blw⟩ (fun hHeld=>?_)
 refine tkHx 0 5 ?_
 refine tkHx 1 6 ?_
 (refine ratHx 2 (fun K hK=>?_);go_simp)
 refine (turn_any s p _ hs hp).mono ?_
 rintro e wn ⟨rfl,hbn⟩
 rw[h.out]
 go_simp
 (refine hK.out _ _ (hHeld.step hbn) (fun hHeld=>?_);clear hK K;(try simp only[apS,apN,siA,scZ,scS]))
 refine tkHx 3 8 ?_
 refine tkHx 4 9 ?_
 refine tkFx 5 10 ?_
 refine tkFx 6 11 ?_
 refine tkFx 7 12 ?_
 refine tkFx 8 13 ?_
 refine tkFx 9 14 ?_
 refine tkFx 10 15 ?_
 refine tkFx 11 16 ?_
 refine tkFx 12 17 ?_
 refine tkFx 13 18 ?_
 refine tkFx 14 19 ?_
 refine tkHx 15 20 ?_
 refine tkHx 16 4 ?_
 refine wpAnyH_done (by kernel_rfl) ?_ _
 go_wp2_with fail
 go_ret
 exact⟨ret_bool (by unfold Cal.hasP;rw[h.out];rfl),hHeld.bel⟩
end Go.Proofs.YtoojdkaimhlcbaaGreat
namespace Go.Proofs.YtoojdkaimhlcbaaGreat
open Go Go.RowKit
theorem trn_box (s:Sd) (p q:Pt):-1≤Cal.trn s p∧Cal.trn s p≤1∧-1≤Cal.trn s q∧Cal.trn s q≤1∧-1≤Cal.trn s p*Cal.trn s q∧Cal.trn s p*Cal.trn s q≤1:=by
 rcases trn_cases s p with h | h | h <;> rcases trn_cases s q with g | g | g <;> rw[h,g] <;> decide
theorem Sx.init (w:World):Sx w [] w:=⟨cs_nil w,Below.refl _ _⟩
section
variable {w W : World} {L : List (Nat × Nat × Value)}
theorem Sx.box2 {B:Nat} {v0 v1:Value} {t:TypeId} (h:Sx w L W) (hB:B=W.heap.size:=by first | rfl | simp):Sx w ((B,0,v0) :: (B,1,v1) :: L) (W.alloc (.cells #[v0,v1] t)) :=
 hB ▸ ⟨cs_iff_cons.2 ⟨by simp,cs_iff_cons.2 ⟨by simp,(h.alloc _).cs⟩⟩,(h.alloc _).bel⟩
theorem Sx.box4 {B:Nat} {v0 v1 v2 v3:Value} {t:TypeId} (h:Sx w L W) (hB:B=W.heap.size:=by first | rfl | simp):Sx w ((B,0,v0) :: (B,1,v1) :: (B,2,v2) :: (B,3,v3) :: L) (W.alloc (.cells #[v0,v1,v2,v3] t)) :=
 hB ▸ ⟨cs_iff_cons.2 ⟨by simp,cs_iff_cons.2 ⟨by simp,cs_iff_cons.2 ⟨by simp,cs_iff_cons.2 ⟨by simp,(h.alloc _).cs⟩⟩⟩⟩,(h.alloc _).bel⟩
end
theorem wrap_small {n:Int} (h0:-9223372036854775808≤n) (h1:n≤9223372036854775807):IntKind.i64.wrap n=n:=by go_arith
theorem crosses_any (s t:Sd) (w:World) (hs:SmS s) (ht:SmS t) :
  Calls Tryz.prog 72 #[.agg #[.int .i64 s.a.x,.int .i64 s.a.y,.int .i64 s.b.x,.int .i64 s.b.y],.agg #[.int .i64 t.a.x,.int .i64 t.a.y,.int .i64 t.b.x,.int .i64 t.b.y]] w fun e w'=>e=.returned (.bool (Cal.crosS s t))∧Below w.heap.size w w':=by
 obtain⟨b0,b1,b2,b3,b4,b5⟩:=trn_box s t.a t.b
 obtain⟨d0,d1,d2,d3,d4,d5⟩:=trn_box t s.a s.b
 have w1:IntKind.i64.wrap (Cal.trn s t.a*Cal.trn s t.b)=Cal.trn s t.a*Cal.trn s t.b:=wrap_small (by omega) (by omega)
 have w2:IntKind.i64.wrap (Cal.trn t s.a*Cal.trn t s.b)=Cal.trn t s.a*Cal.trn t s.b:=wrap_small (by omega) (by omega)
 by_cases h:Cal.trn s t.a*Cal.trn s t.b<0
 ·have hf:Hid (Cal.crosS s t=decide (Cal.trn t s.a*Cal.trn t s.b<0)):=by show _=_;unfold Cal.crosS;rw[decide_eq_true h,Bool.true_and]
  have hd:=decide_eq_true h
  go_enter Tryz.func72,Tryz.ntmps72
  go_wp2_with fail
  refine wp_region_held_drew (S:=Sx w [(w.heap.size,0,.int .i64 s.a.x),(w.heap.size,1,.int .i64 s.a.y),(w.heap.size,2,.int .i64 s.b.x),(w.heap.size,3,.int .i64 s.b.y),(w.heap.size+1,0,.int .i64 t.a.x),(w.heap.size+1,1,.int .i64 t.a.y),(w.heap.size+1,2,.int .i64 t.b.x),(w.heap.size+1,3,.int .i64 t.b.y)]) (by kernel_rfl) ⟨by simp[cs_iff_cons,cs_nil],blw⟩ (fun hHeld=>?_)
  refine tkHx 0 5 ?_
  refine tkHx 1 6 ?_
  refine tkHx 2 7 ?_
  refine tkHx 4 9 ?_
  refine tkHx 5 10 ?_
  refine tkHx 6 11 ?_
  (refine ratHx 3 (fun K hK=>?_);go_simp)
  refine (turn_any s t.a _ hs ht.a).mono ?_
  rintro e wn ⟨rfl,hbn⟩
  go_simp
  (refine hK.out _ _ (hHeld.step hbn) (fun hHeld=>?_);clear hK K;(try simp only[apS,apN,siA,scZ,scS]))
  (refine ratHx 7 (fun K hK=>?_);go_simp)
  refine (turn_any s t.b _ hs ht.b).mono ?_
  rintro e wn ⟨rfl,hbn⟩
  go_simp
  (refine hK.out _ _ (hHeld.step hbn) (fun hHeld=>?_);clear hK K;(try simp only[apS,apN,siA,scZ,scS]))
  refine tkHx 8 13 ?_
  refine tkHx 9 14 ?_
  refine tkHx 10 15 ?_
  refine tkHx 11 16 ?_
  refine tkHx 12 17 ?_
  refine tkHx 13 18 ?_
  refine tkHx 15 20 ?_
  refine tkHx 16 21 ?_
  refine tkHx 17 22 ?_
  (refine ratHx 14 (fun K hK=>?_);go_simp)
  refine (turn_any t s.a _ ht hs.a).mono ?_
  rintro e wn ⟨rfl,hbn⟩
  go_simp
  (refine hK.out _ _ (hHeld.step hbn) (fun hHeld=>?_);clear hK K;(try simp only[apS,apN,siA,scZ,scS]))
  (refine ratHx 18 (fun K hK=>?_);go_simp)
  refine (turn_any t s.b _ ht hs.b).mono ?_
  rintro e wn ⟨rfl,hbn⟩
  go_simp
  (refine hK.out _ _ (hHeld.step hbn) (fun hHeld=>?_);clear hK K;(try simp only[apS,apN,siA,scZ,scS]))
  refine tkHx 19 24 ?_
  refine tkHx 20 25 ?_
  refine tkHx 21 26 ?_
  refine tkHx 22 4 ?_
  refine wpAnyH_done (by kernel_rfl) ?_ _
  go_wp2_with fail
  go_ret
  exact⟨ret_bool hf.out.symm,hHeld.bel⟩
 have hf:Hid (Cal.crosS s t=false):=by show _=_;unfold Cal.crosS;rw[decide_eq_false h,Bool.false_and]
 have hd:=decide_eq_false h
 go_enter Tryz.func72,Tryz.ntmps72
 go_wp2_with fail
 refine wp_region_held_drew (S:=Sx w [(w.heap.size,0,.int .i64 s.a.x),(w.heap.size,1,.int .i64 s.a.y),(w.heap.size,2,.int .i64 s.b.x),(w.heap.size,3,.int .i64 s.b.y),(w.heap.size+1,0,.int .i64 t.a.x),(w.heap.size+1,1,.int .i64 t.a.y),(w.heap.size+1,2,.int .i64 t.b.x),(w.heap.size+1,3,.int .i64 t.b.y)]) (by kernel_rfl) ⟨by simp[cs_iff_cons,cs_nil],blw⟩ (fun hHeld=>?_)
 refine tkHx 0 5 ?_
 refine tkHx 1 6 ?_
 refine tkHx 2 7 ?_
 refine tkHx 4 9 ?_
 refine tkHx 5 10 ?_
 refine tkHx 6 11 ?_
 (refine ratHx 3 (fun K hK=>?_);go_simp)
 refine (turn_any s t.a _ hs ht.a).mono ?_
 rintro e wn ⟨rfl,hbn⟩
 go_simp
 (refine hK.out _ _ (hHeld.step hbn) (fun hHeld=>?_);clear hK K;(try simp only[apS,apN,siA,scZ,scS]))
 (refine ratHx 7 (fun K hK=>?_);go_simp)
 refine (turn_any s t.b _ hs ht.b).mono ?_
 rintro e wn ⟨rfl,hbn⟩
 go_simp
 (refine hK.out _ _ (hHeld.step hbn) (fun hHeld=>?_);clear hK K;(try simp only[apS,apN,siA,scZ,scS]))
 refine tkHx 8 13 ?_
 refine tkHx 9 14 ?_
 refine tkHx 10 15 ?_
 refine tkFx 11 16 ?_
 refine tkFx 12 17 ?_
 refine tkFx 13 18 ?_
 refine tkFx 14 19 ?_
 refine tkFx 15 20 ?_
 refine tkFx 16 21 ?_
 refine tkFx 17 22 ?_
 refine tkFx 18 23 ?_
 refine tkFx 19 24 ?_
 refine tkFx 20 25 ?_
 refine tkHx 21 26 ?_
 refine tkHx 22 4 ?_
 refine wpAnyH_done (by kernel_rfl) ?_ _
 go_wp2_with fail
 go_ret
 exact⟨ret_bool hf.out.symm,hHeld.bel⟩
end Go.Proofs.YtoojdkaimhlcbaaGreat
