/- What the statements rest on: definitions and walks, part 06. -/
import Derived.Test.YthfokpchdlcidaaGreatJ05
import Derived.Sort.EncStr
import Derived.Lib.ItoaLen
import Derived.Laws.BytesString
import Derived.Lib.IndexBytes
import Derived.Lib.IndexLaws
import Derived.Lib.Split
import Derived.Lib.CountLaws
import Derived.Lib.AtoiTie
import Derived.Lib.AtoiAllCases
import Derived.Lib.ItoaNum
import Derived.Lib.ItoaMem
import Derived.Lib.Strings
import Derived.Sort.LoopGhostIn
set_option maxRecDepth 100000
set_option maxHeartbeats 16000000
set_option linter.unusedSimpArgs false
set_option linter.unusedVariables false
namespace Go.Proofs.YthfokpchdlcidaaGreat
open Go Go.RowKit
structure FromB (B : Nat) (W W' : World) : Prop where
 size : W.heap.size ≤ W'.heap.size
 same : ∀ b,B ≤ b → b < W.heap.size → W'.heap[b]? = W.heap[b]?
def AbG (_ : Nat) (X Y : World) : Prop:=X.grownBy Y none
def SeqIx {α : Type} (F : Fence) (n : Nat) (P : Program) (g : Nat) (lb : Array Value) (encs : α → Array Value) (Ab Kp : Nat → World → World → Prop) (xs : List α) (w : World) : Prop :=
 ∀ (l : Nat) (J Jx : Nat → World → Prop) (W : World),Below w.heap.size w W → (∀ k X Y,J k X → Ab W.heap.size X Y → J k Y) → (∀ k X Y,Jx k X → Ab W.heap.size X Y → Jx k Y) →
  (∀ k x W1,xs[k]? = some x → J k W1 → YieldAt F (n - 1) P l (encs x) W1 fun e W' =>
   (e = .returned (.bool true) ∧ J (k + 1) W' ∧ Kp W.heap.size W1 W') ∨ (e = .returned (.bool false) ∧ Jx k W' ∧ Kp W.heap.size W1 W')) →
  J 0 W →
  CallsIn F n P g (#[.func (.yield l) #[] #[]] ++ lb) W fun e W'=>(∃ v,e = .returned v) ∧ (J xs.length W' ∨ ∃ k,k < xs.length ∧ Jx k W')
theorem SeqIx.inRound {α : Type} {F : Fence} {n : Nat} {P : Program} {g : Nat} {lb : Array Value} {encs : α → Array Value} {Ab Kp : Nat → World → World → Prop} {xs : List α} {w : World} (l : Nat) (h : SeqIx F n P g lb encs Ab Kp xs w) : SeqIx (F.inRound l) n P g lb encs Ab Kp xs w:=h
def ixPost (B : Nat) (Kp : World → World → Prop) (In : World → Prop) (Ix : Code → World → Prop) (W : World) : Exit → Act → World → Prop
 | .normal,_,W'=>KeepsFrom B W W' ∧ Kp W W' ∧ In W'
 | .ret,_,W'=>KeepsFrom B W W' ∧ Kp W W' ∧ Ix .ret W'
 | .exit id,_,W'=>KeepsFrom B W W' ∧ Kp W W' ∧ Ix (.exit id) W'
 | .goto t,_,W'=>KeepsFrom B W W' ∧ Kp W W' ∧ Ix (.goto t) W'
 | .panic _,_,_=>False
 | .outgrown,_,_=>False
theorem FromB.refl (B : Nat) (W : World) : FromB B W W:=⟨Nat.le_refl _,fun _ _ _=>rfl⟩
theorem FromB.trans {B : Nat} {X Y Z : World} (h : FromB B X Y) (k : FromB B Y Z) : FromB B X Z:=⟨Nat.le_trans h.size k.size,fun b h1 h2=>(k.same b h1 (Nat.lt_of_lt_of_le h2 h.size)).trans (h.same b h1 h2)⟩
variable {F : Fence} {n : Nat} {P : Program} {w : World}
theorem wpIn_rangeFunc_ix {α : Type} {g : Operand} {ps : Array Tmp} {assign body : Code} {Q : Exit → Act → World → Prop} {a : Act} {w : World}
  (hro : F.round = none) (h1 : 1 ≤ n) {gf : Nat} {lb : Array Value} (hg : a.eval g = .func (.func gf) #[] lb) (hFg : F.fn gf) (eg : ∀ args w,(callFunc gf args).run P w = .ok (.enter gf args) w)
  {encs : α → Array Value} {Ab Kp : Nat → World → World → Prop} {xs : List α} {w0 : World} (hseq : SeqIx F (n - 1) P gf lb encs Ab Kp xs w0)
  (hAb : ∀ (X Y : World) (k : Nat) (o : Obj),Ab (w.heap.size + 1 + 1) X Y → k < w.heap.size + 1 + 1 → X.heap[k]? = some o → o.isCells = false → Y.heap[k]? = some o)
  (hKt : ∀ {A B C : World},Kp (w.heap.size + 1 + 1) A B → Kp (w.heap.size + 1 + 1) B C → Kp (w.heap.size + 1 + 1) A C) (hKb : ∀ (W : World) (l : Nat) (o o' : Obj),w.heap.size ≤ l → l < w.heap.size + 1 + 1 → W.heap[l]? = some o → o.isCells = false → o.isWalk = false → Kp (w.heap.size + 1 + 1) W (W.putObj l o')) (hb0 : Below w0.heap.size w0 w) (hps : ∀ x,(encs x).size = ps.size)
  (I : Nat → World → Prop) (Ix : Code → Nat → World → Prop) (hI : OwnFrom w.heap.size I) (hIx : ∀ c,OwnFrom w.heap.size (Ix c))
  (hIA : ∀ k X Y,I k X → Ab (w.heap.size + 1 + 1) X Y → I k Y) (hIxA : ∀ c k X Y,Ix c k X → Ab (w.heap.size + 1 + 1) X Y → Ix c k Y) (h0 : I 0 w) (Ax : α → Act → World → Prop) (hAx : ∀ x a',OwnFrom w.heap.size (fun (_ : Unit) W=>Ax x a' W))
  (hassign : ∀ (l : Nat) (k : Nat) (x : α) (W : World) (K : Act → World → Prop),xs[k]? = some x → I k W → (∀ a' W',KeepsFrom w.heap.size W W' → Kp (w.heap.size + 1 + 1) W W' → I k W' → Ax x a' W' → K a' W') →
   assign.wpIn (F.inRound l) (n - 1 - 1) P (Exit.then K (fun _ _ _=>False)) { tmps:=(ps.zip (encs x)).foldl (fun t (p,v)=>t.setIfInBounds p v) a.tmps,defers:=[] } W)
  (hbody : ∀ (l : Nat) (k : Nat) (x : α) (a' : Act) (W : World),w.heap.size ≤ l → (∃ r,W.heap[l]? = some (.loop r)) → xs[k]? = some x → I k W → Ax x a' W → body.wpIn (F.inRound l) (n - 1 - 1) P (ixPost w.heap.size (Kp (w.heap.size + 1 + 1)) (I (k + 1)) (fun c=>Ix c k) W) a' W)
  (hdone : ∀ (D : Nat) (W : World),w.heap.size ≤ D → I xs.length W → W.heap[D]? = some (.deferred (some [])) → Q .normal { a with defers:={ target:=.collected D,args:=#[] } :: a.defers } W)
  (hstop : ∀ (D : Nat) (c : Code) (k : Nat) (W : World),w.heap.size ≤ D → k < xs.length → Ix c k W → W.heap[D]? = some (.deferred (some [])) → c.wpIn F n P Q { a with defers:={ target:=.collected D,args:=#[] } :: a.defers } W) :
  (Code.rangeFunc g ps assign body).wpIn F n P Q a w:=by
 refine wpIn_rangeFunc ?_
 intro fn hfn
 rw [hro]
 obtain ⟨rec,hrec⟩ : ∃ rec : LoopState → Option Code → Loop,rec = fun st pe=>{ state:=st,pending:=pe,fn,tmps:=a.tmps,params:=ps,assign,body,defers:=w.heap.size }:=⟨_,rfl⟩
 obtain ⟨W1,hW1⟩ : ∃ W1,(w.alloc (.deferred (some []))).alloc (.loop (rec .ready none)) = W1:=⟨_,rfl⟩
 have hL1 : W1.heap[w.heap.size + 1]? = some (.loop (rec .ready none)):=by
  rw [← hW1];have:=World.alloc_heap_new (w.alloc (.deferred (some []))) (.loop (rec .ready none));rwa [World.size_alloc] at this
 have hK1 : W1.heap[w.heap.size]? = some (.deferred (some [])):=by
  rw [← hW1];exact (Below.heap_alloc _ _ _ (by simp)).trans (World.alloc_heap_new w _)
 have hI1 : I 0 W1:=by rw [← hW1];exact hI.alloc _ (hI.alloc _ h0)
 have hb1 : Below w0.heap.size w0 W1:=by
  rw [← hW1];exact hb0.trans ((((Below.refl _ w).alloc (Nat.le_refl _) _).alloc (by simp) _).mono hb0.size)
 refine ⟨w.heap.size + 1,[{ target:=.collected w.heap.size,args:=#[] }],W1,{ target:=.fn (.func gf) lb,args:=#[.func (.yield (w.heap.size + 1)) #[] #[]] },W1,gf,
  #[.func (.yield (w.heap.size + 1)) #[] #[]] ++ lb,W1,?_,?_,?_,?_,fun _=>h1,?_⟩
 ·rw [← hW1,hrec];exact run_enterLoop_outer _ _ _ _ _
 ·simp only [resolve,hg]
  simp [go_sem]
 ·intro f' hf';simp [Target.leads] at hf';subst hf';exact hFg
 ·simp [invoke,go_sem,eg]
 ·-- THE ITERATOR's CONTRACT,AT THE CALLER's INVARIANT WITH THE TWO FACTS OF BOOK-KEEPING BESIDE IT
  have hsz1 : W1.heap.size = w.heap.size + 1 + 1:=by rw [← hW1];simp
  rw [← hsz1] at hAb hIA hIxA hKt hKb
  refine (hseq (w.heap.size + 1)
   (fun k W=>I k W ∧ W.heap[w.heap.size + 1]? = some (.loop (rec .ready none)) ∧ W.heap[w.heap.size]? = some (.deferred (some [])))
   (fun k W=>∃ c,Ix c k W ∧ W.heap[w.heap.size + 1]? = some (.loop (rec .done (some c))) ∧ W.heap[w.heap.size]? = some (.deferred (some [])))
   W1 hb1
   (fun k A B hs hab=>⟨hIA k A B hs.1 hab,hAb A B _ _ hab (by rw [hsz1];omega) hs.2.1 rfl,hAb A B _ _ hab (by rw [hsz1];omega) hs.2.2 rfl⟩)
   (fun k A B hs hab=>by
    obtain ⟨c,hc,hl,hk⟩:=hs
    exact ⟨c,hIxA c k A B hc hab,hAb A B _ _ hab (by rw [hsz1];omega) hl rfl,hAb A B _ _ hab (by rw [hsz1];omega) hk rfl⟩)
   ?_ ⟨hI1,hL1,hK1⟩).mono ?_
  ·-- ONE ROUND
   rintro k x W hx ⟨hi,hl,hk⟩
   have hlt : w.heap.size + 1 < W.heap.size:=(Array.getElem?_eq_some_iff.1 hl).1
   have hy:=run_yield (P:=P) (args:=encs x) hl (by rw [hrec];exact hps x)
   rw [hrec] at hy
   refine ⟨fn,_,assign,body,hy,roundIn_of_wpIn hfn (hassign _ k x W _ hx hi ?_)⟩
   clear hy
   intro a' Wa hkfa hkpa hia hax
   rw [← hsz1] at hkpa
   replace hl:=hkfa.same _ _ (by omega) hl rfl
   replace hk:=hkfa.same _ _ (Nat.le_refl _) hk rfl
   replace hlt : w.heap.size + 1 < Wa.heap.size:=(Array.getElem?_eq_some_iff.1 hl).1
   replace hi:=hia
   clear hia
   revert hkpa hkfa
   generalize W = Wb
   intro hkfa hkpa
   obtain ⟨W,rfl⟩ : ∃ W,W = Wa:=⟨_,rfl⟩
   refine ⟨_,run_beginRound hl (by rw [hrec]),?_⟩
   have hl2 : (W.putObj (w.heap.size + 1) (.loop { rec .ready none with state:=.busy })).heap[w.heap.size + 1]? = some (.loop { rec .ready none with state:=.busy }):=World.putObj_heap_same hlt
   have hk2 : (W.putObj (w.heap.size + 1) (.loop { rec .ready none with state:=.busy })).heap[w.heap.size]? = some (.deferred (some [])):=(World.putObj_heap_other (by omega)).trans hk
   have hw2 : Kp W1.heap.size W (W.putObj (w.heap.size + 1) (.loop { rec .ready none with state:=.busy })):=hKb _ _ _ _ (by omega) (by rw [hsz1];omega) hl rfl rfl
   refine wpIn_mono (hbody _ k x a' _ (by omega) ⟨_,hl2⟩ hx (hI.putObj _ hi (by omega) hl rfl) ((hAx x a').putObj (s:=()) _ hax (by omega) hl rfl)) ?_
   have fin : ∀ (jump : Option Code) (Wz : World),KeepsFrom w.heap.size (W.putObj (w.heap.size + 1) (.loop { rec .ready none with state:=.busy })) Wz →
     (Instr.endRound (w.heap.size + 1) jump).run P Wz = .ok (.bool jump.isNone) (Wz.putObj (w.heap.size + 1) (.loop (rec (if jump.isNone then .ready else .done) jump))) ∧
     Wz.heap[w.heap.size + 1]? = some (.loop { rec .ready none with state:=.busy }) ∧
     (Wz.putObj (w.heap.size + 1) (.loop (rec (if jump.isNone then .ready else .done) jump))).heap[w.heap.size + 1]? = some (.loop (rec (if jump.isNone then .ready else .done) jump)) ∧
     (Wz.putObj (w.heap.size + 1) (.loop (rec (if jump.isNone then .ready else .done) jump))).heap[w.heap.size]? = some (.deferred (some [])):=fun jump Wz hk3=>by
    have hl3:=hk3.same _ _ (by omega) hl2 rfl
    have:=run_endRound (P:=P) jump hl3
    rw [hrec] at this ⊢
    exact ⟨this,by rw [hrec] at hl3;exact hl3,World.putObj_heap_same (Array.getElem?_eq_some_iff.1 hl3).1,(World.putObj_heap_other (by omega)).trans (hk3.same _ _ (Nat.le_refl _) hk2 rfl)⟩
   rintro e a3 Wz hp
   cases e with
   | normal =>
    obtain ⟨hk3,hkp3,hi3⟩:=hp
    obtain ⟨hr,hl3,hl4,hk4⟩:=fin none Wz hk3
    exact ⟨_,_,hr,.inl ⟨rfl,⟨hI.putObj _ hi3 (by omega) hl3 rfl,hl4,hk4⟩,hKt hkpa (hKt (hKt hw2 (by rw [hsz1];exact hkp3)) (hKb _ _ _ _ (by omega) (by rw [hsz1];omega) hl3 rfl rfl))⟩⟩
   | ret =>
    obtain ⟨hk3,hkp3,hi3⟩:=hp
    obtain ⟨hr,hl3,hl4,hk4⟩:=fin (some .ret) Wz hk3
    exact ⟨_,_,hr,.inr ⟨rfl,⟨.ret,(hIx _).putObj _ hi3 (by omega) hl3 rfl,hl4,hk4⟩,hKt hkpa (hKt (hKt hw2 (by rw [hsz1];exact hkp3)) (hKb _ _ _ _ (by omega) (by rw [hsz1];omega) hl3 rfl rfl))⟩⟩
   | exit id =>
    obtain ⟨hk3,hkp3,hi3⟩:=hp
    obtain ⟨hr,hl3,hl4,hk4⟩:=fin (some (.exit id)) Wz hk3
    exact ⟨_,_,hr,.inr ⟨rfl,⟨.exit id,(hIx _).putObj _ hi3 (by omega) hl3 rfl,hl4,hk4⟩,hKt hkpa (hKt (hKt hw2 (by rw [hsz1];exact hkp3)) (hKb _ _ _ _ (by omega) (by rw [hsz1];omega) hl3 rfl rfl))⟩⟩
   | goto t =>
    obtain ⟨hk3,hkp3,hi3⟩:=hp
    obtain ⟨hr,hl3,hl4,hk4⟩:=fin (some (.goto t)) Wz hk3
    exact ⟨_,_,hr,.inr ⟨rfl,⟨.goto t,(hIx _).putObj _ hi3 (by omega) hl3 rfl,hl4,hk4⟩,hKt hkpa (hKt (hKt hw2 (by rw [hsz1];exact hkp3)) (hKb _ _ _ _ (by omega) (by rw [hsz1];omega) hl3 rfl rfl))⟩⟩
   | panic ch=>exact hp.elim
   | outgrown=>exact hp.elim
  ·-- BEHIND THE ITERATOR
   rintro e W2 ⟨⟨v,rfl⟩,(⟨hi,hl,hk⟩ | ⟨k,hSp,c,hi,hl,hk⟩)⟩
   ·exact ⟨none,_,by have:=run_endLoop (P:=P) hl (by rw [hrec];simp);rw [hrec] at this;exact this,hdone _ _ (Nat.le_refl _) (hI.putObj _ hi (by omega) hl rfl) ((World.putObj_heap_other (by omega)).trans hk)⟩
   ·exact ⟨some c,_,by have:=run_endLoop (P:=P) hl (by rw [hrec];simp);rw [hrec] at this;exact this,hstop _ c k _ (Nat.le_refl _) hSp ((hIx c).putObj _ hi (by omega) hl rfl) ((World.putObj_heap_other (by omega)).trans hk)⟩
theorem wpIn_rangeFunc_ixN {α : Type} {g : Operand} {ps : Array Tmp} {assign body : Code} {Q : Exit → Act → World → Prop} {a : Act} {w : World}
  {l₀ : Nat} {r₀ : Loop} (hro : F.round = some l₀) (hl₀ : w.heap[l₀]? = some (.loop r₀)) (h1 : 1 ≤ n) {gf : Nat} {lb : Array Value} (hg : a.eval g = .func (.func gf) #[] lb) (hFg : F.fn gf) (eg : ∀ args w,(callFunc gf args).run P w = .ok (.enter gf args) w)
  {encs : α → Array Value} {Ab Kp : Nat → World → World → Prop} {xs : List α} {w0 : World} (hseq : SeqIx F (n - 1) P gf lb encs Ab Kp xs w0)
  (hAb : ∀ (X Y : World) (k : Nat) (o : Obj),Ab (w.heap.size + 1) X Y → k < w.heap.size + 1 → X.heap[k]? = some o → o.isCells = false → Y.heap[k]? = some o)
  (hKt : ∀ {A B C : World},Kp (w.heap.size + 1) A B → Kp (w.heap.size + 1) B C → Kp (w.heap.size + 1) A C) (hKb : ∀ (W : World) (l : Nat) (o o' : Obj),w.heap.size ≤ l → l < w.heap.size + 1 → W.heap[l]? = some o → o.isCells = false → o.isWalk = false → Kp (w.heap.size + 1) W (W.putObj l o')) (hb0 : Below w0.heap.size w0 w) (hps : ∀ x,(encs x).size = ps.size)
  (I : Nat → World → Prop) (Ix : Code → Nat → World → Prop) (hI : OwnFrom w.heap.size I) (hIx : ∀ c,OwnFrom w.heap.size (Ix c))
  (hIA : ∀ k X Y,I k X → Ab (w.heap.size + 1) X Y → I k Y) (hIxA : ∀ c k X Y,Ix c k X → Ab (w.heap.size + 1) X Y → Ix c k Y) (h0 : I 0 w) (Ax : α → Act → World → Prop) (hAx : ∀ x a',OwnFrom w.heap.size (fun (_ : Unit) W=>Ax x a' W))
  (hassign : ∀ (l : Nat) (k : Nat) (x : α) (W : World) (K : Act → World → Prop),xs[k]? = some x → I k W → (∀ a' W',KeepsFrom w.heap.size W W' → Kp (w.heap.size + 1) W W' → I k W' → Ax x a' W' → K a' W') →
   assign.wpIn (F.inRound l) (n - 1 - 1) P (Exit.then K (fun _ _ _=>False)) { tmps:=(ps.zip (encs x)).foldl (fun t (p,v)=>t.setIfInBounds p v) a.tmps,defers:=[] } W)
  (hbody : ∀ (l : Nat) (k : Nat) (x : α) (a' : Act) (W : World),w.heap.size ≤ l → (∃ r,W.heap[l]? = some (.loop r)) → xs[k]? = some x → I k W → Ax x a' W → body.wpIn (F.inRound l) (n - 1 - 1) P (ixPost w.heap.size (Kp (w.heap.size + 1)) (I (k + 1)) (fun c=>Ix c k) W) a' W)
  (hdone : ∀ (W : World),I xs.length W → Q .normal a W)
  (hstop : ∀ (c : Code) (k : Nat) (W : World),k < xs.length → Ix c k W → c.wpIn F n P Q a W) :
  (Code.rangeFunc g ps assign body).wpIn F n P Q a w:=by
 refine wpIn_rangeFunc ?_
 intro fn hfn
 rw [hro]
 obtain ⟨rec,hrec⟩ : ∃ rec : LoopState → Option Code → Loop,rec = fun st pe=>{ state:=st,pending:=pe,fn,tmps:=a.tmps,params:=ps,assign,body,defers:=r₀.defers }:=⟨_,rfl⟩
 obtain ⟨W1,hW1⟩ : ∃ W1,w.alloc (.loop (rec .ready none)) = W1:=⟨_,rfl⟩
 have hL1 : W1.heap[w.heap.size]? = some (.loop (rec .ready none)):=by rw [← hW1];exact World.alloc_heap_new w _
 have hI1 : I 0 W1:=by rw [← hW1];exact hI.alloc _ h0
 have hb1 : Below w0.heap.size w0 W1:=by
  rw [← hW1];exact hb0.trans (((Below.refl _ w).alloc (Nat.le_refl _) _).mono hb0.size)
 refine ⟨w.heap.size,[],W1,{ target:=.fn (.func gf) lb,args:=#[.func (.yield w.heap.size) #[] #[]] },W1,gf,
  #[.func (.yield w.heap.size) #[] #[]] ++ lb,W1,?_,?_,?_,?_,fun _=>h1,?_⟩
 ·rw [← hW1,hrec];exact run_enterLoop_inner hl₀ _ _ _ _ _
 ·simp only [resolve,hg]
  simp [go_sem]
 ·intro f' hf';simp [Target.leads] at hf';subst hf';exact hFg
 ·simp [invoke,go_sem,eg]
 ·have hsz1 : W1.heap.size = w.heap.size + 1:=by rw [← hW1];simp
  rw [← hsz1] at hAb hIA hIxA hKt hKb
  refine (hseq w.heap.size
   (fun k W=>I k W ∧ W.heap[w.heap.size]? = some (.loop (rec .ready none)))
   (fun k W=>∃ c,Ix c k W ∧ W.heap[w.heap.size]? = some (.loop (rec .done (some c))))
   W1 hb1
   (fun k A B hs hab=>⟨hIA k A B hs.1 hab,hAb A B _ _ hab (by rw [hsz1];omega) hs.2 rfl⟩)
   (fun k A B hs hab=>by
    obtain ⟨c,hc,hl⟩:=hs
    exact ⟨c,hIxA c k A B hc hab,hAb A B _ _ hab (by rw [hsz1];omega) hl rfl⟩)
   ?_ ⟨hI1,hL1⟩).mono ?_
  ·-- ONE ROUND
   rintro k x W hx ⟨hi,hl⟩
   have hlt : w.heap.size < W.heap.size:=(Array.getElem?_eq_some_iff.1 hl).1
   have hy:=run_yield (P:=P) (args:=encs x) hl (by rw [hrec];exact hps x)
   rw [hrec] at hy
   refine ⟨fn,_,assign,body,hy,roundIn_of_wpIn hfn (hassign _ k x W _ hx hi ?_)⟩
   clear hy
   intro a' Wa hkfa hkpa hia hax
   rw [← hsz1] at hkpa
   replace hl:=hkfa.same _ _ (Nat.le_refl _) hl rfl
   replace hlt : w.heap.size < Wa.heap.size:=(Array.getElem?_eq_some_iff.1 hl).1
   replace hi:=hia
   clear hia
   revert hkpa hkfa
   generalize W = Wb
   intro hkfa hkpa
   obtain ⟨W,rfl⟩ : ∃ W,W = Wa:=⟨_,rfl⟩
   refine ⟨_,run_beginRound hl (by rw [hrec]),?_⟩
   have hl2 : (W.putObj w.heap.size (.loop { rec .ready none with state:=.busy })).heap[w.heap.size]? = some (.loop { rec .ready none with state:=.busy }):=World.putObj_heap_same hlt
   have hw2 : Kp W1.heap.size W (W.putObj w.heap.size (.loop { rec .ready none with state:=.busy })):=hKb _ _ _ _ (Nat.le_refl _) (by rw [hsz1];omega) hl rfl rfl
   refine wpIn_mono (hbody _ k x a' _ (Nat.le_refl _) ⟨_,hl2⟩ hx (hI.putObj _ hi (Nat.le_refl _) hl rfl) ((hAx x a').putObj (s:=()) _ hax (Nat.le_refl _) hl rfl)) ?_
   have fin : ∀ (jump : Option Code) (Wz : World),KeepsFrom w.heap.size (W.putObj w.heap.size (.loop { rec .ready none with state:=.busy })) Wz →
     (Instr.endRound w.heap.size jump).run P Wz = .ok (.bool jump.isNone) (Wz.putObj w.heap.size (.loop (rec (if jump.isNone then .ready else .done) jump))) ∧
     Wz.heap[w.heap.size]? = some (.loop { rec .ready none with state:=.busy }) ∧
     (Wz.putObj w.heap.size (.loop (rec (if jump.isNone then .ready else .done) jump))).heap[w.heap.size]? = some (.loop (rec (if jump.isNone then .ready else .done) jump)):=fun jump Wz hk3=>by
    have hl3:=hk3.same _ _ (Nat.le_refl _) hl2 rfl
    have:=run_endRound (P:=P) jump hl3
    rw [hrec] at this ⊢
    exact ⟨this,by rw [hrec] at hl3;exact hl3,World.putObj_heap_same (Array.getElem?_eq_some_iff.1 hl3).1⟩
   rintro e a3 Wz hp
   cases e with
   | normal =>
    obtain ⟨hk3,hkp3,hi3⟩:=hp
    obtain ⟨hr,hl3,hl4⟩:=fin none Wz hk3
    exact ⟨_,_,hr,.inl ⟨rfl,⟨hI.putObj _ hi3 (Nat.le_refl _) hl3 rfl,hl4⟩,hKt hkpa (hKt (hKt hw2 (by rw [hsz1];exact hkp3)) (hKb _ _ _ _ (Nat.le_refl _) (by rw [hsz1];omega) hl3 rfl rfl))⟩⟩
   | ret =>
    obtain ⟨hk3,hkp3,hi3⟩:=hp
    obtain ⟨hr,hl3,hl4⟩:=fin (some .ret) Wz hk3
    exact ⟨_,_,hr,.inr ⟨rfl,⟨.ret,(hIx _).putObj _ hi3 (Nat.le_refl _) hl3 rfl,hl4⟩,hKt hkpa (hKt (hKt hw2 (by rw [hsz1];exact hkp3)) (hKb _ _ _ _ (Nat.le_refl _) (by rw [hsz1];omega) hl3 rfl rfl))⟩⟩
   | exit id =>
    obtain ⟨hk3,hkp3,hi3⟩:=hp
    obtain ⟨hr,hl3,hl4⟩:=fin (some (.exit id)) Wz hk3
    exact ⟨_,_,hr,.inr ⟨rfl,⟨.exit id,(hIx _).putObj _ hi3 (Nat.le_refl _) hl3 rfl,hl4⟩,hKt hkpa (hKt (hKt hw2 (by rw [hsz1];exact hkp3)) (hKb _ _ _ _ (Nat.le_refl _) (by rw [hsz1];omega) hl3 rfl rfl))⟩⟩
   | goto t =>
    obtain ⟨hk3,hkp3,hi3⟩:=hp
    obtain ⟨hr,hl3,hl4⟩:=fin (some (.goto t)) Wz hk3
    exact ⟨_,_,hr,.inr ⟨rfl,⟨.goto t,(hIx _).putObj _ hi3 (Nat.le_refl _) hl3 rfl,hl4⟩,hKt hkpa (hKt (hKt hw2 (by rw [hsz1];exact hkp3)) (hKb _ _ _ _ (Nat.le_refl _) (by rw [hsz1];omega) hl3 rfl rfl))⟩⟩
   | panic ch=>exact hp.elim
   | outgrown=>exact hp.elim
  ·-- BEHIND THE ITERATOR
   rintro e W2 ⟨⟨v,rfl⟩,(⟨hi,hl⟩ | ⟨k,hSp,c,hi,hl⟩)⟩
   ·exact ⟨none,_,by have:=run_endLoop (P:=P) hl (by rw [hrec];simp);rw [hrec] at this;exact this,hdone _ (hI.putObj _ hi (Nat.le_refl _) hl rfl)⟩
   ·exact ⟨some c,_,by have:=run_endLoop (P:=P) hl (by rw [hrec];simp);rw [hrec] at this;exact this,hstop c k _ hSp ((hIx c).putObj _ hi (Nat.le_refl _) hl rfl)⟩
end Go.Proofs.YthfokpchdlcidaaGreat
namespace Go.Proofs.YthfokpchdlcidaaGreat.Cal
open Go.Lib
abbrev Txt:=List UInt8
end Go.Proofs.YthfokpchdlcidaaGreat.Cal
namespace Go.Proofs.YthfokpchdlcidaaGreat
open Go Go.RowKit Go.Sort
def txtRows (zs : List Cal.Txt) : List (List Value):=zs.map fun n=>[encStr n]
def TextsL (w : World) (B : Nat) (v : Value) (zs : List Cal.Txt) : Prop:=OwnL w B 9 1 v (txtRows zs)
theorem txtRows_length (zs : List Cal.Txt) : (txtRows zs).length = zs.length:=by unfold txtRows;simp
end Go.Proofs.YthfokpchdlcidaaGreat
namespace Go.Proofs.YthfokpchdlcidaaGreat
open Go Go.RowKit Go.Shelf
attribute [local go_sem] Oper.semAt_some
def ptR (q : Pt) : List Value:=[.int .i64 q.x,.int .i64 q.y]
theorem pts_at {w : World} {V : Option Addr} {ps : List Pt} (h : RowsAt w V 2 (ps.map ptR)) {k : Nat} {q : Pt} (hk : ps[k]? = some q) :
  ∃ b o,V = some ⟨b,o,none⟩ ∧ b < w.heap.size ∧ w.cell? ⟨b,o + k * 2,none⟩ = some (.int .i64 q.x) ∧ w.cell? ⟨b,o + k * 2 + 1,none⟩ = some (.int .i64 q.y):=by
 obtain ⟨b,o,hA,hlt,hc⟩:=h k (ptR q) (by simp [hk])
 exact ⟨b,o,hA,hlt,hc 0 _ rfl,hc 1 _ rfl⟩
def KpS (n₀ Bs : Nat) (_ : Nat) (X Y : World) : Prop:=Below n₀ X Y ∧ Y.heap[Bs]? = X.heap[Bs]?
theorem KpS.refl (n₀ Bs B : Nat) (X : World) : KpS n₀ Bs B X X:=⟨Below.refl _ _,rfl⟩
theorem KpS.trans {n₀ Bs B : Nat} {X Y Z : World} (h : KpS n₀ Bs B X Y) (k : KpS n₀ Bs B Y Z) : KpS n₀ Bs B X Z:=⟨h.1.trans k.1,k.2.trans h.2⟩
theorem KpS.grown {n₀ Bs B : Nat} {X Y : World} (h : X.grownBy Y none) (hn : n₀ ≤ X.heap.size) (hB : Bs < X.heap.size) : KpS n₀ Bs B X Y :=
 ⟨(Below.refl _ _).grown h hn (fun k e=>by cases e),h.block Bs hB (by simp)⟩
def sdE (x : Nat × Sd) : Array Value:=#[.int .i64 (x.1 : Int),.agg #[.int .i64 x.2.a.x,.int .i64 x.2.a.y,.int .i64 x.2.b.x,.int .i64 x.2.b.y]]
def sdsI (ps : List Pt) : List (Nat × Sd):=(List.range ps.length).map fun i=>(i,Cal.sd ps i)
theorem sdsI_at {ps : List Pt} {k : Nat} (h : k < ps.length) : (sdsI ps)[k]? = some (k,Cal.sd ps k):=by
 unfold sdsI
 rw [List.getElem?_map,List.getElem?_range h]
 rfl
theorem sdsI_length (ps : List Pt) : (sdsI ps).length = ps.length:=by simp [sdsI]
theorem sd_of {ps : List Pt} {k : Nat} {a b : Pt} (ha : ps[k]? = some a) (hb : ps[(k + 1) % ps.length]? = some b) : Cal.sd ps k = ⟨a,b⟩:=by
 unfold Cal.sd
 rw [ha,hb]
 rfl
theorem sides_any (V : Option Addr) (k d : Nat) (w : World) :
  Calls Tryz.prog 78 #[.slice V k d] w fun e w'=>e = .returned (.func (.func 115) #[] #[.pointer (some ⟨w.heap.size,0,none⟩)]) ∧ w' = w.alloc (.cells #[.slice V k d] 22):=by
 go_enter Tryz.func78,Tryz.ntmps78
 go_wp2
 go_ret
 exact ⟨rfl,rfl⟩
def IxPost (N : Nat) (J Jx : Nat → World → Prop) (e : Ending) (W' : World) : Prop:=(∃ v,e = .returned v) ∧ (J N W' ∨ ∃ k,k < N ∧ Jx k W')
structure KpOK (Kp : Nat → World → World → Prop) (V : Option Addr) (k Bs : Nat) (w : World) : Prop where
 refl : ∀ x X,Kp x X X
 trans : ∀ x X Y Z,Kp x X Y → Kp x Y Z → Kp x X Z
 size : ∀ x X Y,Kp x X Y → X.heap.size ≤ Y.heap.size
 cells : ∀ x X Y,Kp x X Y → ∀ ad,V = some ad → 0 < k → Y.heap[ad.block]? = X.heap[ad.block]?
 bs : ∀ x X Y,Kp x X Y → Y.heap[Bs]? = X.heap[Bs]?
 grown : ∀ x X Y,X.grownBy Y none → w.heap.size ≤ X.heap.size → Kp x X Y
theorem sides_gen (n : Nat) (hn : 1 ≤ n) (Bs : Nat) (Kp : Nat → World → World → Prop) (V : Option Addr) (d : Nat) (ps : List Pt) (w : World) (hKp : KpOK Kp V ps.length Bs w) (hBs : w.cell? ⟨Bs,0,none⟩ = some (.slice V ps.length d)) (hBw : Bs < w.heap.size)
  (hP : RowsAt w V 2 (ps.map ptR)) (hl : ps.length ≤ 1000000) :
  SeqIx Fence.wide n Tryz.prog 115 #[.pointer (some ⟨Bs,0,none⟩)] sdE AbG Kp (sdsI ps) w:=by
 intro l J Jx W hW hJ hJx hY h0
 show CallsIn Fence.wide n Tryz.prog 115 _ W (IxPost (sdsI ps).length J Jx)
 rw [sdsI_length]
 refine callsIn_of_wp Tryz.func115 rfl trivial ?_ rfl
 simp only [Tryz.ntmps115,List.size_toArray,List.length_cons,List.length_nil,Nat.reduceAdd,Nat.reduceSub,Array.replicate_succ,Array.replicate_zero,List.push_toArray,List.append_toArray,List.nil_append,List.cons_append]
 have hs0:=(hW.cell (p:=⟨Bs,0,none⟩) hBw).trans hBs
 have hPW:=Lib.hid (hP.below hW)
 have hWz:=Lib.hid hW.size
 have hY:=Lib.hid hY
 have hJ:=Lib.hid hJ
 clear hJx hBs hW hP
 have hs0:=Lib.hid hs0
 have hs0':=hs0.out
 gi_wp2
 clear hs0'
 gi_loopw [7] (fun i wr=>∃ k : Nat,k ≤ ps.length ∧ i = .int .i64 k ∧ J k wr ∧ Kp W.heap.size W wr) (fun i _=>ps.length - (intOf i).toNat)
 case atStart=>exact ⟨0,Nat.zero_le _,rfl,h0,hKp.refl _ _⟩
 case round =>
  obtain ⟨k,hk,rfl,hJk,hb⟩:=hrel
  by_cases hlt : k < ps.length
  ·have hmod : (k + 1) % ps.length < ps.length:=Nat.mod_lt _ (by omega)
   have ha : ps[k]? = some ps[k]:=List.getElem?_eq_getElem hlt
   have hc : ps[(k + 1) % ps.length]? = some ps[(k + 1) % ps.length]:=List.getElem?_eq_getElem hmod
   have hsd:=Lib.hid (sd_of ha hc)
   obtain ⟨b,o,rfl,hbl,e0,e1⟩:=pts_at hPW.out ha
   obtain ⟨b',o',hbo,_,e2,e3⟩:=pts_at hPW.out hc
   obtain ⟨rfl,rfl⟩ : b = b' ∧ o = o':=by simpa using hbo
   have hbk:=hKp.cells _ _ _ hb _ rfl (by omega)
   have hat : ∀ (x : Nat) (v : Value),W.cell? ⟨b,x,none⟩ = some v → wr.cell? ⟨b,x,none⟩ = some v:=fun x v h=>(World.cell?_of_block (a:=⟨b,x,none⟩) hbk).trans h
   have e0:=hat _ _ e0
   have e1:=hat _ _ e1
   have e2:=hat _ _ e2
   have e3:=hat _ _ e3
   clear hat hbk
   have s0:=(World.cell?_of_block (a:=⟨Bs,0,none⟩) (hKp.bs _ _ _ hb)).trans hs0.out
   have hBr : Bs < wr.heap.size:=by have:=hWz.out;have:=hKp.size _ _ _ hb;omega
   obtain ⟨q,hq⟩ : ∃ q,q = (k + 1) % ps.length:=⟨_,rfl⟩
   simp only [← hq] at e2 e3 hsd hmod hc
   have hq1 : ((k : Int) + 1).tmod (ps.length : Int) = (q : Int):=by rw [hq];rfl
   have hq3 : ((k : Int) + 1) % (ps.length : Int) = (q : Int):=by rw [hq];rfl
   have hk1 : IntKind.i64.wrap ((k : Int) + 1) = (k : Int) + 1:=wrap_small (by omega) (by omega)
   have hq2 : IntKind.i64.wrap (q : Int) = (q : Int):=wrap_small (by omega) (by omega)
   have hne : ¬ ps.length = 0:=by omega
   generalize ps[k] = pa at *
   generalize ps[q] = pc at *
   clear hq
   have hAll:=Lib.hid (And.intro hb (And.intro hJk hlt))
   have h1 : Cs [(wr.heap.size,0,.int .i64 pa.x),(wr.heap.size,1,.int .i64 pa.y),(Bs,0,.slice (some ⟨b,o,none⟩) ps.length d),(b,o + q * 2,.int .i64 pc.x),(b,o + q * 2 + 1,.int .i64 pc.y)] (wr.alloc (.cells #[.int .i64 pa.x,.int .i64 pa.y] 27)) :=
    cs_iff_cons.2 ⟨by simp,cs_iff_cons.2 ⟨by simp,Cs.below (cs_iff_cons.2 ⟨s0,cs_iff_cons.2 ⟨e2,cs_iff_cons.2 ⟨e3,cs_nil _⟩⟩⟩) (below_alloc _ _)⟩⟩
   have h1:=Lib.hid h1
   clear hb hJk ha hc
   gi_wp2
   refine wpIn_region_heldY (S:=Cs [(wr.heap.size,0,.int .i64 pa.x),(wr.heap.size,1,.int .i64 pa.y),(Bs,0,.slice (some ⟨b,o,none⟩) ps.length d),(b,o + q * 2,.int .i64 pc.x),(b,o + q * 2 + 1,.int .i64 pc.y)]) 12 (by kernel_rfl) h1.out (fun hHeld=>?_)
   (refine tkY 0 12 (fun _=>trivial) (v:=?_) ?_ ?_;rotate_left;focus (intro w' hSw;simp only [cs_iff_cons] at hSw;go_simp;(try with_reducible rfl));(try simp only [Act.put,List.setIfInBounds_toArray,List.set_cons_zero,List.set_cons_succ]))
   (refine tkY 1 13 (fun _=>trivial) (v:=?_) ?_ ?_;rotate_left;focus (intro w' hSw;simp only [cs_iff_cons] at hSw;go_simp;(try with_reducible rfl));(try simp only [Act.put,List.setIfInBounds_toArray,List.set_cons_zero,List.set_cons_succ]))
   (refine tkY 2 14 (fun _=>trivial) (v:=?_) ?_ ?_;rotate_left;focus (intro w' hSw;simp only [cs_iff_cons] at hSw;go_simp;(try with_reducible rfl));(try simp only [Act.put,List.setIfInBounds_toArray,List.set_cons_zero,List.set_cons_succ]))
   (refine tkY 3 15 (fun _=>trivial) (v:=?_) ?_ ?_;rotate_left;focus (intro w' hSw;simp only [cs_iff_cons] at hSw;go_simp;(try with_reducible rfl));(try simp only [Act.put,List.setIfInBounds_toArray,List.set_cons_zero,List.set_cons_succ]))
   (refine tkY 4 16 (fun _=>trivial) (v:=?_) ?_ ?_;rotate_left;focus (intro w' hSw;simp only [cs_iff_cons] at hSw;go_simp;(try with_reducible rfl));(try simp only [Act.put,List.setIfInBounds_toArray,List.set_cons_zero,List.set_cons_succ]))
   (refine tkY 5 17 (fun _=>trivial) (v:=?_) ?_ ?_;rotate_left;focus (intro w' hSw;simp only [cs_iff_cons] at hSw;go_simp;(try with_reducible rfl));(try simp only [Act.put,List.setIfInBounds_toArray,List.set_cons_zero,List.set_cons_succ]))
   (refine tkY 6 18 (fun _=>trivial) (v:=?_) ?_ ?_;rotate_left;focus (intro w' hSw;simp only [cs_iff_cons] at hSw;go_simp;(try with_reducible rfl));(try simp only [Act.put,List.setIfInBounds_toArray,List.set_cons_zero,List.set_cons_succ]))
   (refine tkY 7 19 (fun _=>trivial) (v:=?_) ?_ ?_;rotate_left;focus (intro w' hSw;simp only [cs_iff_cons] at hSw;go_simp;(try with_reducible rfl));(try simp only [Act.put,List.setIfInBounds_toArray,List.set_cons_zero,List.set_cons_succ]))
   (refine tkY 8 20 (fun _=>trivial) (v:=?_) ?_ ?_;rotate_left;focus (intro w' hSw;simp only [cs_iff_cons] at hSw;go_simp;(try with_reducible rfl));(try simp only [Act.put,List.setIfInBounds_toArray,List.set_cons_zero,List.set_cons_succ]))
   (refine tkY 9 21 (fun _=>trivial) (v:=?_) ?_ ?_;rotate_left;focus (intro w' hSw;simp only [cs_iff_cons] at hSw;go_simp;(try with_reducible rfl));(try simp only [Act.put,List.setIfInBounds_toArray,List.set_cons_zero,List.set_cons_succ]))
   (refine tkY 10 22 (fun _=>trivial) (v:=?_) ?_ ?_;rotate_left;focus (intro w' hSw;simp only [cs_iff_cons] at hSw;go_simp;(try with_reducible rfl));(try simp only [Act.put,List.setIfInBounds_toArray,List.set_cons_zero,List.set_cons_succ]))
   (refine tkY 11 23 (fun _=>trivial) (v:=?_) ?_ ?_;rotate_left;focus (intro w' hSw;simp only [cs_iff_cons] at hSw;go_simp;(try with_reducible rfl));(try simp only [Act.put,List.setIfInBounds_toArray,List.set_cons_zero,List.set_cons_succ]))
   refine ratYc 12 (fun _=>trivial) (by decide +kernel) rfl (by decide +kernel) (fun K hK=>?_)
   rw [if_pos (by kernel_rfl)]
   have hy1:=hY.out k _ (wr.alloc (.cells #[.int .i64 pa.x,.int .i64 pa.y] 27)).drew (sdsI_at hlt) (hJ.out k _ _ hAll.out.2.1 ((World.grownBy_alloc wr _ none).trans (grown_drewN _ 1 _)))
   rw [hsd.out] at hy1
   obtain ⟨fn,tmps,assign,body,hy,hR⟩:=hy1
   dsimp only [sdE] at hy
   go_simp
   refine hR.mono ?_
   clear hy hR
   rintro e w2 (⟨rfl,hJ2,hKq⟩ | ⟨rfl,hJx,_⟩)
   ·dsimp only
    refine hK.out _ _ ?_
    clear hK K
    (try simp only [Act.put,List.setIfInBounds_toArray]);(try simp only [List.set_cons_zero,List.set_cons_succ])
    refine ratYc 13 (fun _=>trivial) (by decide +kernel) rfl (by decide +kernel) (fun K hK=>?_)
    rw [if_pos (by kernel_rfl)]
    go_simp
    refine hK.out _ _ ?_
    clear hK K
    (try simp only [Act.put,List.setIfInBounds_toArray]);(try simp only [List.set_cons_zero,List.set_cons_succ])
    refine wpAnyInY_done (by decide +kernel) ?_ _
    have hJ2:=Lib.hid hJ2
    have hKq:=Lib.hid hKq
    gi_wp2
    go_roundw
    case rel=>exact ⟨k + 1,hlt,by go_num,hJ2.out,hKp.trans _ _ _ _ (hKp.trans _ _ _ _ hAll.out.1 (hKp.grown _ _ _ ((World.grownBy_alloc wr _ none).trans (grown_drewN _ 1 _)) (by have:=hWz.out;have:=hKp.size _ _ _ hAll.out.1;omega))) hKq.out⟩
    case measure=>simp [intOf];omega
   ·dsimp only
    refine hK.out _ _ ?_
    clear hK K
    (try simp only [Act.put,List.setIfInBounds_toArray]);(try simp only [List.set_cons_zero,List.set_cons_succ])
    refine ratYc 13 (fun _=>trivial) (by decide +kernel) rfl (by decide +kernel) (fun K hK=>?_)
    rw [if_pos (by kernel_rfl)]
    go_simp
    refine hK.out _ _ ?_
    clear hK K
    (try simp only [Act.put,List.setIfInBounds_toArray]);(try simp only [List.set_cons_zero,List.set_cons_succ])
    refine wpAnyInY_done (by decide +kernel) ?_ _
    have hJx:=Lib.hid hJx
    gi_wp2
    refine bodyPost_ret (results_none rfl _ _ _) rfl ?_
    exact ⟨⟨_,rfl⟩,.inr ⟨k,hlt,hJx.out⟩⟩
  ·obtain rfl : k = ps.length:=by omega
   have hJz:=Lib.hid hJk
   clear hJk
   gi_wp2
   refine bodyPost_end (results_none rfl _ _ _) rfl ?_
   exact ⟨⟨_,rfl⟩,.inl hJz.out⟩
theorem kpS_ok {n₀ Bs : Nat} {V : Option Addr} {k : Nat} {w : World} (hBw : Bs < w.heap.size) (hVn : ∀ ad,V = some ad → 0 < k → ad.block < n₀) (hn0 : n₀ ≤ w.heap.size) : KpOK (KpS n₀ Bs) V k Bs w where
 refl:=fun x X=>KpS.refl _ _ _ _
 trans:=fun _ _ _ _ h k=>h.trans k
 size:=fun _ _ _ h=>h.1.size
 cells:=fun _ _ _ h ad e hk=>h.1.block _ (hVn ad e hk)
 bs:=fun _ _ _ h=>h.2
 grown:=fun _ X _ hg hs=>KpS.grown hg (by omega) (by omega)
theorem sides_ix (n : Nat) (hn : 1 ≤ n) (Bs n₀ : Nat) (V : Option Addr) (d : Nat) (ps : List Pt) (w : World) (hBs : w.cell? ⟨Bs,0,none⟩ = some (.slice V ps.length d)) (hBw : Bs < w.heap.size)
  (hP : RowsAt w V 2 (ps.map ptR)) (hVn : ∀ ad,V = some ad → 0 < ps.length → ad.block < n₀) (hn0 : n₀ ≤ w.heap.size) (hl : ps.length ≤ 1000000) :
  SeqIx Fence.wide n Tryz.prog 115 #[.pointer (some ⟨Bs,0,none⟩)] sdE AbG (KpS n₀ Bs) (sdsI ps) w :=
 sides_gen n hn Bs (KpS n₀ Bs) V d ps w (kpS_ok hBw hVn hn0) hBs hBw hP hl
def KpM (M Bs : Nat) (_ : Nat) (X Y : World) : Prop:=Two M Bs X Y ∧ X.heap.size ≤ Y.heap.size
theorem KpM.refl (M Bs x : Nat) (X : World) : KpM M Bs x X X:=⟨Two.refl _ _ _,Nat.le_refl _⟩
theorem KpM.trans {M Bs x : Nat} {X Y Z : World} (h : KpM M Bs x X Y) (k : KpM M Bs x Y Z) : KpM M Bs x X Z:=⟨h.1.trans k.1,Nat.le_trans h.2 k.2⟩
theorem KpM.below {M Bs x : Nat} {X Y : World} (h : Below X.heap.size X Y) (hn : M < X.heap.size) (hB : Bs < X.heap.size) : KpM M Bs x X Y:=⟨⟨h.block _ hn,h.block _ hB⟩,h.size⟩
theorem KpM.set {M Bs x : Nat} {X : World} {b o : Nat} (v : Value) (hn : M ≠ b) (hB : Bs ≠ b) : KpM M Bs x X (X.setCell ⟨b,o,none⟩ v) :=
 ⟨⟨Below.heap_setCell X ⟨b,o,none⟩ v M hn,Below.heap_setCell X ⟨b,o,none⟩ v Bs hB⟩,by rw [World.size_setCell];exact Nat.le_refl _⟩
theorem kpM_ok {M Bs o k : Nat} {w : World} (hBw : Bs < w.heap.size) (hM : M < w.heap.size) : KpOK (KpM M Bs) (some ⟨M,o,none⟩) k Bs w where
 refl:=fun x X=>KpM.refl _ _ _ _
 trans:=fun _ _ _ _ h k=>h.trans k
 size:=fun _ _ _ h=>h.2
 cells:=fun _ _ _ h ad e _=>by cases e;exact h.1.1
 bs:=fun _ _ _ h=>h.1.2
 grown:=fun _ X _ hg hs=>⟨⟨hg.block _ (by omega) (by simp),hg.block _ (by omega) (by simp)⟩,hg.size⟩
end Go.Proofs.YthfokpchdlcidaaGreat
namespace Go.Proofs.YthfokpchdlcidaaGreat
open Go Go.RowKit Go.Shelf
attribute [local go_sem] Oper.semAt_some
structure Pts (w : World) (V : Option Addr) (ps : List Pt) : Prop where
 rows : RowsAt w V 2 (ps.map ptR)
 size : ps.length ≤ 1000000
 sm : ∀ p ∈ ps,SmP p
 own : ∀ ad,V = some ad → 0 < ps.length → ad.block < w.heap.size
theorem Pts.below {w w' : World} {V : Option Addr} {ps : List Pt} (h : Pts w V ps) (hb : Below w.heap.size w w') : Pts w' V ps :=
 ⟨h.rows.below hb,h.size,h.sm,fun ad e hl=>Nat.lt_of_lt_of_le (h.own ad e hl) hb.size⟩
theorem Pts.sd {w : World} {V : Option Addr} {ps : List Pt} (h : Pts w V ps) (k : Nat) (hk : k < ps.length) : SmS (Cal.sd ps k):=by
 have hmod : (k + 1) % ps.length < ps.length:=Nat.mod_lt _ (by omega)
 rw [sd_of (List.getElem?_eq_getElem hk) (List.getElem?_eq_getElem hmod)]
 exact ⟨h.sm _ (List.getElem_mem _),h.sm _ (List.getElem_mem _)⟩
theorem kpS_put {n₀ Bs B : Nat} (hB : Bs < B) (hn : n₀ ≤ B) (W : World) (l : Nat) (o o' : Obj) (hl : B ≤ l) (ho : W.heap[l]? = some o) (x : Nat) : KpS n₀ Bs x W (W.putObj l o') :=
 ⟨(Below.refl _ _).grown (grownBy_putObj' W l o') (by have:=(Array.getElem?_eq_some_iff.1 ho).1;omega) (fun k e=>by cases e;omega),World.putObj_heap_other (by omega)⟩
theorem KpS.below {n₀ Bs x : Nat} {X Y : World} (h : Below X.heap.size X Y) (hn : n₀ ≤ X.heap.size) (hB : Bs < X.heap.size) : KpS n₀ Bs x X Y:=⟨h.mono hn,h.block Bs hB⟩
theorem KpS.set {n₀ Bs x : Nat} {X : World} {b o : Nat} (v : Value) (hn : n₀ ≤ b) (hB : Bs ≠ b) : KpS n₀ Bs x X (X.setCell ⟨b,o,none⟩ v) :=
 ⟨(Below.refl _ _).setCell (p:=⟨b,o,none⟩) hn v,Below.heap_setCell X ⟨b,o,none⟩ v Bs hB⟩
theorem kpM_put {M Bs B : Nat} (hB : Bs < B) (hM : M < B) (W : World) (l : Nat) (o' : Obj) (hl : B ≤ l) (x : Nat) : KpM M Bs x W (W.putObj l o') :=
 ⟨⟨World.putObj_heap_other (by omega),World.putObj_heap_other (by omega)⟩,by simp⟩
theorem abG_keep (x : Nat) (X Y : World) (k : Nat) (o : Obj) (h : AbG x X Y) (hk : X.heap[k]? = some o) : Y.heap[k]? = some o:=by
 rw [World.grownBy.block h k (Array.getElem?_eq_some_iff.1 hk).1 (by simp)];exact hk
theorem own_abG {β : Type} {B : Nat} {I : β → World → Prop} (hI : OwnFrom B I) (x : Nat) (k : β) (X Y : World) (h : I k X) (hg : AbG x X Y) : I k Y:=hI k X Y none h hg (fun r e=>by cases e)
section
variable {n : Nat} {g : Operand} {qs : Array Tmp} {assign body : Code} {Q : Exit → Act → World → Prop} {a : Act} {w : World} {Bs n₀ : Nat} {V : Option Addr} {d : Nat} {ps : List Pt}
theorem wpIn_range_sides (h1 : 2 ≤ n) (hg : a.eval g = .func (.func 115) #[] #[.pointer (some ⟨Bs,0,none⟩)]) (hq : qs.size = 2)
  (hBs : w.cell? ⟨Bs,0,none⟩ = some (.slice V ps.length d)) (hBw : Bs < w.heap.size) (hP : Pts w V ps) (hn : n₀ ≤ w.heap.size) (hVn : ∀ ad,V = some ad → 0 < ps.length → ad.block < n₀)
  (I : Nat → World → Prop) (Ix : Code → Nat → World → Prop) (hI : OwnFrom w.heap.size I) (hIx : ∀ c,OwnFrom w.heap.size (Ix c)) (h0 : I 0 w)
  (Ax : Nat × Sd → Act → World → Prop) (hAx : ∀ x a',OwnFrom w.heap.size (fun (_ : Unit) W=>Ax x a' W))
  (hassign : ∀ (l : Nat) (k : Nat) (W : World) (K : Act → World → Prop),k < ps.length → I k W → (∀ a' W',KeepsFrom w.heap.size W W' → KpS n₀ Bs (w.heap.size + 1 + 1) W W' → I k W' → Ax (k,Cal.sd ps k) a' W' → K a' W') →
   assign.wpIn (Fence.wide.inRound l) (n - 1 - 1) Tryz.prog (Exit.then K (fun _ _ _=>False)) { tmps:=(qs.zip #[.int .i64 (k : Int),.agg #[.int .i64 (Cal.sd ps k).a.x,.int .i64 (Cal.sd ps k).a.y,.int .i64 (Cal.sd ps k).b.x,.int .i64 (Cal.sd ps k).b.y]]).foldl (fun t (p,v)=>t.setIfInBounds p v) a.tmps,defers:=[] } W)
  (hbody : ∀ (l : Nat) (k : Nat) (a' : Act) (W : World),w.heap.size ≤ l → (∃ r,W.heap[l]? = some (.loop r)) → k < ps.length → I k W → Ax (k,Cal.sd ps k) a' W → body.wpIn (Fence.wide.inRound l) (n - 1 - 1) Tryz.prog (ixPost w.heap.size (KpS n₀ Bs (w.heap.size + 1 + 1)) (I (k + 1)) (fun c=>Ix c k) W) a' W)
  (hdone : ∀ (D : Nat) (W : World),w.heap.size ≤ D → I ps.length W → W.heap[D]? = some (.deferred (some [])) → Q .normal { a with defers:={ target:=.collected D,args:=#[] } :: a.defers } W)
  (hstop : ∀ (D : Nat) (c : Code) (k : Nat) (W : World),w.heap.size ≤ D → k < ps.length → Ix c k W → W.heap[D]? = some (.deferred (some [])) → c.wpIn Fence.wide n Tryz.prog Q { a with defers:={ target:=.collected D,args:=#[] } :: a.defers } W) :
  (Code.rangeFunc g qs assign body).wpIn Fence.wide n Tryz.prog Q a w:=by
 have at_ : ∀ {k : Nat} {x : Nat × Sd},(sdsI ps)[k]? = some x → k < ps.length ∧ x = (k,Cal.sd ps k):=fun {k x} h=>by
  have hk : k < ps.length:=by have:=(List.getElem?_eq_some_iff.1 h).1;rwa [sdsI_length] at this
  rw [sdsI_at hk] at h
  exact ⟨hk,(Option.some.inj h).symm⟩
 refine wpIn_rangeFunc_ix rfl (by omega) hg trivial (enters_of Tryz.func115 (by kernel_rfl) rfl)
  (sides_ix (n - 1) (by omega) Bs n₀ V d ps w hBs hBw hP.rows hVn hn hP.size) (fun X Y k o hab _ hk _=>abG_keep _ X Y k o hab hk) KpS.trans
  (fun W l o o' hl _ ho _ _=>kpS_put hBw hn W l o o' hl ho _) (Below.refl _ _) (fun x=>hq.symm ▸ rfl) I Ix hI hIx (fun k X Y h hab=>own_abG hI _ k X Y h hab) (fun c k X Y h hab=>own_abG (hIx c) _ k X Y h hab) h0 Ax hAx
  (fun l k x W K hx hi hK=>?_) (fun l k x a' W hl hr hx hi hax=>?_) (fun D W hD hi hdd=>?_) (fun D c k W hD hk hi hdd=>?_)
 ·obtain ⟨hk,rfl⟩:=at_ hx
  exact hassign l k W K hk hi hK
 ·obtain ⟨hk,rfl⟩:=at_ hx
  exact hbody l k a' W hl hr hk hi hax
 ·rw [sdsI_length] at hi
  exact hdone D W hD hi hdd
 ·rw [sdsI_length] at hk
  exact hstop D c k W hD hk hi hdd
theorem wpIn_range_sidesN {l₀ : Nat} {r₀ : Loop} (hl₀ : w.heap[l₀]? = some (.loop r₀)) (h1 : 2 ≤ n) (hg : a.eval g = .func (.func 115) #[] #[.pointer (some ⟨Bs,0,none⟩)]) (hq : qs.size = 2)
  (hBs : w.cell? ⟨Bs,0,none⟩ = some (.slice V ps.length d)) (hBw : Bs < w.heap.size) (hP : Pts w V ps) (hn : n₀ ≤ w.heap.size) (hVn : ∀ ad,V = some ad → 0 < ps.length → ad.block < n₀)
  (I : Nat → World → Prop) (Ix : Code → Nat → World → Prop) (hI : OwnFrom w.heap.size I) (hIx : ∀ c,OwnFrom w.heap.size (Ix c)) (h0 : I 0 w)
  (Ax : Nat × Sd → Act → World → Prop) (hAx : ∀ x a',OwnFrom w.heap.size (fun (_ : Unit) W=>Ax x a' W))
  (hassign : ∀ (l : Nat) (k : Nat) (W : World) (K : Act → World → Prop),k < ps.length → I k W → (∀ a' W',KeepsFrom w.heap.size W W' → KpS n₀ Bs (w.heap.size + 1) W W' → I k W' → Ax (k,Cal.sd ps k) a' W' → K a' W') →
   assign.wpIn ((Fence.wide.inRound l₀).inRound l) (n - 1 - 1) Tryz.prog (Exit.then K (fun _ _ _=>False)) { tmps:=(qs.zip #[.int .i64 (k : Int),.agg #[.int .i64 (Cal.sd ps k).a.x,.int .i64 (Cal.sd ps k).a.y,.int .i64 (Cal.sd ps k).b.x,.int .i64 (Cal.sd ps k).b.y]]).foldl (fun t (p,v)=>t.setIfInBounds p v) a.tmps,defers:=[] } W)
  (hbody : ∀ (l : Nat) (k : Nat) (a' : Act) (W : World),w.heap.size ≤ l → (∃ r,W.heap[l]? = some (.loop r)) → k < ps.length → I k W → Ax (k,Cal.sd ps k) a' W → body.wpIn ((Fence.wide.inRound l₀).inRound l) (n - 1 - 1) Tryz.prog (ixPost w.heap.size (KpS n₀ Bs (w.heap.size + 1)) (I (k + 1)) (fun c=>Ix c k) W) a' W)
  (hdone : ∀ (W : World),I ps.length W → Q .normal a W)
  (hstop : ∀ (c : Code) (k : Nat) (W : World),k < ps.length → Ix c k W → c.wpIn (Fence.wide.inRound l₀) n Tryz.prog Q a W) :
  (Code.rangeFunc g qs assign body).wpIn (Fence.wide.inRound l₀) n Tryz.prog Q a w:=by
 have at_ : ∀ {k : Nat} {x : Nat × Sd},(sdsI ps)[k]? = some x → k < ps.length ∧ x = (k,Cal.sd ps k):=fun {k x} h=>by
  have hk : k < ps.length:=by have:=(List.getElem?_eq_some_iff.1 h).1;rwa [sdsI_length] at this
  rw [sdsI_at hk] at h
  exact ⟨hk,(Option.some.inj h).symm⟩
 refine wpIn_rangeFunc_ixN (l₀:=l₀) (r₀:=r₀) rfl hl₀ (by omega) hg trivial (enters_of Tryz.func115 (by kernel_rfl) rfl)
  ((sides_ix (n - 1) (by omega) Bs n₀ V d ps w hBs hBw hP.rows hVn hn hP.size).inRound l₀) (fun X Y k o hab _ hk _=>abG_keep _ X Y k o hab hk) KpS.trans
  (fun W l o o' hl _ ho _ _=>kpS_put hBw hn W l o o' hl ho _) (Below.refl _ _) (fun x=>hq.symm ▸ rfl) I Ix hI hIx (fun k X Y h hab=>own_abG hI _ k X Y h hab) (fun c k X Y h hab=>own_abG (hIx c) _ k X Y h hab) h0 Ax hAx
  (fun l k x W K hx hi hK=>?_) (fun l k x a' W hl hr hx hi hax=>?_) (fun W hi=>?_) (fun c k W hk hi=>?_)
 ·obtain ⟨hk,rfl⟩:=at_ hx
  exact hassign l k W K hk hi hK
 ·obtain ⟨hk,rfl⟩:=at_ hx
  exact hbody l k a' W hl hr hk hi hax
 ·rw [sdsI_length] at hi
  exact hdone W hi
 ·rw [sdsI_length] at hk
  exact hstop c k W hk hi
theorem wpIn_sides1 (h1 : 2 ≤ n) (hg : a.eval g = .func (.func 115) #[] #[.pointer (some ⟨Bs,0,none⟩)]) (hq : qs.size = 2)
  (hBs : w.cell? ⟨Bs,0,none⟩ = some (.slice V ps.length d)) (hBw : Bs < w.heap.size) (hP : Pts w V ps) (hn : n₀ ≤ w.heap.size) (hVn : ∀ ad,V = some ad → 0 < ps.length → ad.block < n₀)
  (I : Nat → World → Prop) (Ix : Code → Nat → World → Prop) (hI : OwnFrom w.heap.size I) (hIx : ∀ c,OwnFrom w.heap.size (Ix c)) (h0 : I 0 w)
  (Af : Array Value → Nat → Sd → Nat → Array Value)
  (hassign : ∀ (l : Nat) (k : Nat) (W : World) (K : Act → World → Prop),k < ps.length → I k W → (∀ By W',w.heap.size ≤ By → KeepsFrom w.heap.size W W' → KpS n₀ Bs (w.heap.size + 1 + 1) W W' → I k W' → BoxAt W' By [.int .i64 (Cal.sd ps k).a.x,.int .i64 (Cal.sd ps k).a.y,.int .i64 (Cal.sd ps k).b.x,.int .i64 (Cal.sd ps k).b.y] → K { tmps:=Af a.tmps k (Cal.sd ps k) By,defers:=[] } W') →
   assign.wpIn (Fence.wide.inRound l) (n - 1 - 1) Tryz.prog (Exit.then K (fun _ _ _=>False)) { tmps:=(qs.zip #[.int .i64 (k : Int),.agg #[.int .i64 (Cal.sd ps k).a.x,.int .i64 (Cal.sd ps k).a.y,.int .i64 (Cal.sd ps k).b.x,.int .i64 (Cal.sd ps k).b.y]]).foldl (fun t (p,v)=>t.setIfInBounds p v) a.tmps,defers:=[] } W)
  (hbody : ∀ (l : Nat) (k : Nat) (By : Nat) (W : World),w.heap.size ≤ l → (∃ r,W.heap[l]? = some (.loop r)) → k < ps.length → I k W → w.heap.size ≤ By → BoxAt W By [.int .i64 (Cal.sd ps k).a.x,.int .i64 (Cal.sd ps k).a.y,.int .i64 (Cal.sd ps k).b.x,.int .i64 (Cal.sd ps k).b.y] → body.wpIn (Fence.wide.inRound l) (n - 1 - 1) Tryz.prog (ixPost w.heap.size (KpS n₀ Bs (w.heap.size + 1 + 1)) (I (k + 1)) (fun c=>Ix c k) W) { tmps:=Af a.tmps k (Cal.sd ps k) By,defers:=[] } W)
  (hdone : ∀ (D : Nat) (W : World),w.heap.size ≤ D → I ps.length W → W.heap[D]? = some (.deferred (some [])) → Q .normal { a with defers:={ target:=.collected D,args:=#[] } :: a.defers } W)
  (hstop : ∀ (D : Nat) (c : Code) (k : Nat) (W : World),w.heap.size ≤ D → k < ps.length → Ix c k W → W.heap[D]? = some (.deferred (some [])) → c.wpIn Fence.wide n Tryz.prog Q { a with defers:={ target:=.collected D,args:=#[] } :: a.defers } W) :
  (Code.rangeFunc g qs assign body).wpIn Fence.wide n Tryz.prog Q a w :=
 wpIn_range_sides h1 hg hq hBs hBw hP hn hVn I Ix hI hIx h0
  (fun x a' W=>∃ By,w.heap.size ≤ By ∧ BoxAt W By [.int .i64 x.2.a.x,.int .i64 x.2.a.y,.int .i64 x.2.b.x,.int .i64 x.2.b.y] ∧ a' = { tmps:=Af a.tmps x.1 x.2 By,defers:=[] })
  (fun x a' _ X Y row hs hg hr=>by obtain ⟨By,e1,e2,e3⟩:=hs;exact ⟨By,e1,e2.keptF hg (fun r e=>(hr r e).2),e3⟩)
  (fun l k W K hk hi hK=>hassign l k W K hk hi (fun By W' h1 h2 h3 h4 h5=>hK _ _ h2 h3 h4 ⟨By,h1,h5,rfl⟩))
  (fun l k a' W hl hr hk hi hax=>by obtain ⟨By,h1,h2,rfl⟩:=hax;exact hbody l k By W hl hr hk hi h1 h2) hdone hstop
theorem wpIn_sides1N {l₀ : Nat} {r₀ : Loop} (hl₀ : w.heap[l₀]? = some (.loop r₀)) (h1 : 2 ≤ n) (hg : a.eval g = .func (.func 115) #[] #[.pointer (some ⟨Bs,0,none⟩)]) (hq : qs.size = 2)
  (hBs : w.cell? ⟨Bs,0,none⟩ = some (.slice V ps.length d)) (hBw : Bs < w.heap.size) (hP : Pts w V ps) (hn : n₀ ≤ w.heap.size) (hVn : ∀ ad,V = some ad → 0 < ps.length → ad.block < n₀)
  (I : Nat → World → Prop) (Ix : Code → Nat → World → Prop) (hI : OwnFrom w.heap.size I) (hIx : ∀ c,OwnFrom w.heap.size (Ix c)) (h0 : I 0 w)
  (Af : Array Value → Nat → Sd → Nat → Array Value)
  (hassign : ∀ (l : Nat) (k : Nat) (W : World) (K : Act → World → Prop),k < ps.length → I k W → (∀ By W',w.heap.size ≤ By → KeepsFrom w.heap.size W W' → KpS n₀ Bs (w.heap.size + 1) W W' → I k W' → BoxAt W' By [.int .i64 (Cal.sd ps k).a.x,.int .i64 (Cal.sd ps k).a.y,.int .i64 (Cal.sd ps k).b.x,.int .i64 (Cal.sd ps k).b.y] → K { tmps:=Af a.tmps k (Cal.sd ps k) By,defers:=[] } W') →
   assign.wpIn ((Fence.wide.inRound l₀).inRound l) (n - 1 - 1) Tryz.prog (Exit.then K (fun _ _ _=>False)) { tmps:=(qs.zip #[.int .i64 (k : Int),.agg #[.int .i64 (Cal.sd ps k).a.x,.int .i64 (Cal.sd ps k).a.y,.int .i64 (Cal.sd ps k).b.x,.int .i64 (Cal.sd ps k).b.y]]).foldl (fun t (p,v)=>t.setIfInBounds p v) a.tmps,defers:=[] } W)
  (hbody : ∀ (l : Nat) (k : Nat) (By : Nat) (W : World),w.heap.size ≤ l → (∃ r,W.heap[l]? = some (.loop r)) → k < ps.length → I k W → w.heap.size ≤ By → BoxAt W By [.int .i64 (Cal.sd ps k).a.x,.int .i64 (Cal.sd ps k).a.y,.int .i64 (Cal.sd ps k).b.x,.int .i64 (Cal.sd ps k).b.y] → body.wpIn ((Fence.wide.inRound l₀).inRound l) (n - 1 - 1) Tryz.prog (ixPost w.heap.size (KpS n₀ Bs (w.heap.size + 1)) (I (k + 1)) (fun c=>Ix c k) W) { tmps:=Af a.tmps k (Cal.sd ps k) By,defers:=[] } W)
  (hdone : ∀ (W : World),I ps.length W → Q .normal a W)
  (hstop : ∀ (c : Code) (k : Nat) (W : World),k < ps.length → Ix c k W → c.wpIn (Fence.wide.inRound l₀) n Tryz.prog Q a W) :
  (Code.rangeFunc g qs assign body).wpIn (Fence.wide.inRound l₀) n Tryz.prog Q a w :=
 wpIn_range_sidesN hl₀ h1 hg hq hBs hBw hP hn hVn I Ix hI hIx h0
  (fun x a' W=>∃ By,w.heap.size ≤ By ∧ BoxAt W By [.int .i64 x.2.a.x,.int .i64 x.2.a.y,.int .i64 x.2.b.x,.int .i64 x.2.b.y] ∧ a' = { tmps:=Af a.tmps x.1 x.2 By,defers:=[] })
  (fun x a' _ X Y row hs hg hr=>by obtain ⟨By,e1,e2,e3⟩:=hs;exact ⟨By,e1,e2.keptF hg (fun r e=>(hr r e).2),e3⟩)
  (fun l k W K hk hi hK=>hassign l k W K hk hi (fun By W' h1 h2 h3 h4 h5=>hK _ _ h2 h3 h4 ⟨By,h1,h5,rfl⟩))
  (fun l k a' W hl hr hk hi hax=>by obtain ⟨By,h1,h2,rfl⟩:=hax;exact hbody l k By W hl hr hk hi h1 h2) hdone hstop
theorem wpIn_range_sidesNM {M ofs : Nat} {l₀ : Nat} {r₀ : Loop} (hl₀ : w.heap[l₀]? = some (.loop r₀)) (h1 : 2 ≤ n) (hg : a.eval g = .func (.func 115) #[] #[.pointer (some ⟨Bs,0,none⟩)]) (hq : qs.size = 2)
  (hBs : w.cell? ⟨Bs,0,none⟩ = some (.slice (some ⟨M,ofs,none⟩) ps.length d)) (hBw : Bs < w.heap.size) (hP : Pts w (some ⟨M,ofs,none⟩) ps) (hM : M < w.heap.size)
  (I : Nat → World → Prop) (Ix : Code → Nat → World → Prop) (hI : OwnFrom w.heap.size I) (hIx : ∀ c,OwnFrom w.heap.size (Ix c)) (h0 : I 0 w)
  (Ax : Nat × Sd → Act → World → Prop) (hAx : ∀ x a',OwnFrom w.heap.size (fun (_ : Unit) W=>Ax x a' W))
  (hassign : ∀ (l : Nat) (k : Nat) (W : World) (K : Act → World → Prop),k < ps.length → I k W → (∀ a' W',KeepsFrom w.heap.size W W' → KpM M Bs (w.heap.size + 1) W W' → I k W' → Ax (k,Cal.sd ps k) a' W' → K a' W') →
   assign.wpIn ((Fence.wide.inRound l₀).inRound l) (n - 1 - 1) Tryz.prog (Exit.then K (fun _ _ _=>False)) { tmps:=(qs.zip #[.int .i64 (k : Int),.agg #[.int .i64 (Cal.sd ps k).a.x,.int .i64 (Cal.sd ps k).a.y,.int .i64 (Cal.sd ps k).b.x,.int .i64 (Cal.sd ps k).b.y]]).foldl (fun t (p,v)=>t.setIfInBounds p v) a.tmps,defers:=[] } W)
  (hbody : ∀ (l : Nat) (k : Nat) (a' : Act) (W : World),w.heap.size ≤ l → (∃ r,W.heap[l]? = some (.loop r)) → k < ps.length → I k W → Ax (k,Cal.sd ps k) a' W → body.wpIn ((Fence.wide.inRound l₀).inRound l) (n - 1 - 1) Tryz.prog (ixPost w.heap.size (KpM M Bs (w.heap.size + 1)) (I (k + 1)) (fun c=>Ix c k) W) a' W)
  (hdone : ∀ (W : World),I ps.length W → Q .normal a W)
  (hstop : ∀ (c : Code) (k : Nat) (W : World),k < ps.length → Ix c k W → c.wpIn (Fence.wide.inRound l₀) n Tryz.prog Q a W) :
  (Code.rangeFunc g qs assign body).wpIn (Fence.wide.inRound l₀) n Tryz.prog Q a w:=by
 have at_ : ∀ {k : Nat} {x : Nat × Sd},(sdsI ps)[k]? = some x → k < ps.length ∧ x = (k,Cal.sd ps k):=fun {k x} h=>by
  have hk : k < ps.length:=by have:=(List.getElem?_eq_some_iff.1 h).1;rwa [sdsI_length] at this
  rw [sdsI_at hk] at h
  exact ⟨hk,(Option.some.inj h).symm⟩
 refine wpIn_rangeFunc_ixN (l₀:=l₀) (r₀:=r₀) rfl hl₀ (by omega) hg trivial (enters_of Tryz.func115 (by kernel_rfl) rfl)
  ((sides_gen (n - 1) (by omega) Bs (KpM M Bs) (some ⟨M,ofs,none⟩) d ps w (kpM_ok hBw hM) hBs hBw hP.rows hP.size).inRound l₀) (fun X Y k o hab _ hk _=>abG_keep _ X Y k o hab hk) KpM.trans
  (fun W l o o' hl _ ho _ _=>kpM_put hBw hM W l o' hl _) (Below.refl _ _) (fun x=>hq.symm ▸ rfl) I Ix hI hIx (fun k X Y h hab=>own_abG hI _ k X Y h hab) (fun c k X Y h hab=>own_abG (hIx c) _ k X Y h hab) h0 Ax hAx
  (fun l k x W K hx hi hK=>?_) (fun l k x a' W hl hr hx hi hax=>?_) (fun W hi=>?_) (fun c k W hk hi=>?_)
 ·obtain ⟨hk,rfl⟩:=at_ hx
  exact hassign l k W K hk hi hK
 ·obtain ⟨hk,rfl⟩:=at_ hx
  exact hbody l k a' W hl hr hk hi hax
 ·rw [sdsI_length] at hi
  exact hdone W hi
 ·rw [sdsI_length] at hk
  exact hstop c k W hk hi
theorem wpIn_sides1NM {M ofs : Nat} {l₀ : Nat} {r₀ : Loop} (hl₀ : w.heap[l₀]? = some (.loop r₀)) (h1 : 2 ≤ n) (hg : a.eval g = .func (.func 115) #[] #[.pointer (some ⟨Bs,0,none⟩)]) (hq : qs.size = 2)
  (hBs : w.cell? ⟨Bs,0,none⟩ = some (.slice (some ⟨M,ofs,none⟩) ps.length d)) (hBw : Bs < w.heap.size) (hP : Pts w (some ⟨M,ofs,none⟩) ps) (hM : M < w.heap.size)
  (I : Nat → World → Prop) (Ix : Code → Nat → World → Prop) (hI : OwnFrom w.heap.size I) (hIx : ∀ c,OwnFrom w.heap.size (Ix c)) (h0 : I 0 w)
  (Af : Array Value → Nat → Sd → Nat → Array Value)
  (hassign : ∀ (l : Nat) (k : Nat) (W : World) (K : Act → World → Prop),k < ps.length → I k W → (∀ By W',w.heap.size ≤ By → KeepsFrom w.heap.size W W' → KpM M Bs (w.heap.size + 1) W W' → I k W' → BoxAt W' By [.int .i64 (Cal.sd ps k).a.x,.int .i64 (Cal.sd ps k).a.y,.int .i64 (Cal.sd ps k).b.x,.int .i64 (Cal.sd ps k).b.y] → K { tmps:=Af a.tmps k (Cal.sd ps k) By,defers:=[] } W') →
   assign.wpIn ((Fence.wide.inRound l₀).inRound l) (n - 1 - 1) Tryz.prog (Exit.then K (fun _ _ _=>False)) { tmps:=(qs.zip #[.int .i64 (k : Int),.agg #[.int .i64 (Cal.sd ps k).a.x,.int .i64 (Cal.sd ps k).a.y,.int .i64 (Cal.sd ps k).b.x,.int .i64 (Cal.sd ps k).b.y]]).foldl (fun t (p,v)=>t.setIfInBounds p v) a.tmps,defers:=[] } W)
  (hbody : ∀ (l : Nat) (k : Nat) (By : Nat) (W : World),w.heap.size ≤ l → (∃ r,W.heap[l]? = some (.loop r)) → k < ps.length → I k W → w.heap.size ≤ By → BoxAt W By [.int .i64 (Cal.sd ps k).a.x,.int .i64 (Cal.sd ps k).a.y,.int .i64 (Cal.sd ps k).b.x,.int .i64 (Cal.sd ps k).b.y] → body.wpIn ((Fence.wide.inRound l₀).inRound l) (n - 1 - 1) Tryz.prog (ixPost w.heap.size (KpM M Bs (w.heap.size + 1)) (I (k + 1)) (fun c=>Ix c k) W) { tmps:=Af a.tmps k (Cal.sd ps k) By,defers:=[] } W)
  (hdone : ∀ (W : World),I ps.length W → Q .normal a W)
  (hstop : ∀ (c : Code) (k : Nat) (W : World),k < ps.length → Ix c k W → c.wpIn (Fence.wide.inRound l₀) n Tryz.prog Q a W) :
  (Code.rangeFunc g qs assign body).wpIn (Fence.wide.inRound l₀) n Tryz.prog Q a w :=
 wpIn_range_sidesNM hl₀ h1 hg hq hBs hBw hP hM I Ix hI hIx h0
  (fun x a' W=>∃ By,w.heap.size ≤ By ∧ BoxAt W By [.int .i64 x.2.a.x,.int .i64 x.2.a.y,.int .i64 x.2.b.x,.int .i64 x.2.b.y] ∧ a' = { tmps:=Af a.tmps x.1 x.2 By,defers:=[] })
  (fun x a' _ X Y row hs hg hr=>by obtain ⟨By,e1,e2,e3⟩:=hs;exact ⟨By,e1,e2.keptF hg (fun r e=>(hr r e).2),e3⟩)
  (fun l k W K hk hi hK=>hassign l k W K hk hi (fun By W' h1 h2 h3 h4 h5=>hK _ _ h2 h3 h4 ⟨By,h1,h5,rfl⟩))
  (fun l k a' W hl hr hk hi hax=>by obtain ⟨By,h1,h2,rfl⟩:=hax;exact hbody l k By W hl hr hk hi h1 h2) hdone hstop
end
end Go.Proofs.YthfokpchdlcidaaGreat
