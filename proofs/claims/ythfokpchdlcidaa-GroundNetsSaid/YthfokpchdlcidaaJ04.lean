/- What the statements rest on: definitions and walks, part 04. -/
import Derived.Test.YthfokpchdlcidaaJ03
set_option maxRecDepth 100000
set_option maxHeartbeats 16000000
set_option linter.unusedSimpArgs false
set_option linter.unusedVariables false
namespace Go.Proofs.Ythfokpchdlcidaa
open Go Go.RowKit Go.Shelf
attribute [local go_sem] Oper.semAt_some
structure Pts (w : World) (V : Option Addr) (ps : List Pt) : Prop where
 rows : RowsAt w V 2 (ps.map ptR)
 size : ps.length ≤ 1000000
 sm : ∀ p ∈ ps,SmP p
 own : ∀ ad,V = some ad → 0 < ps.length → ad.block < w.heap.size
theorem Pts.below {w w' : World} {V : Option Addr} {ps : List Pt} (h : Pts w V ps) (hb : Below w.heap.size w w') : Pts w' V ps :=
 ⟨h.rows.below hb,h.size,h.sm,fun ad e hl=>Nat.lt_of_lt_of_le (h.own ad e hl) hb.size⟩
theorem Pts.sd {w : World} {V : Option Addr} {ps : List Pt} (h : Pts w V ps) (k : Nat) (hk : k < ps.length) : SmS (Cal.sd ps k):=by
 have hmod : (k + 1) % ps.length < ps.length:=Nat.mod_lt _ (by omega)
 rw [sd_of (List.getElem?_eq_getElem hk) (List.getElem?_eq_getElem hmod)]
 exact ⟨h.sm _ (List.getElem_mem _),h.sm _ (List.getElem_mem _)⟩
theorem kpS_put {n₀ Bs B : Nat} (hB : Bs < B) (hn : n₀ ≤ B) (W : World) (l : Nat) (o o' : Obj) (hl : B ≤ l) (ho : W.heap[l]? = some o) (x : Nat) : KpS n₀ Bs x W (W.putObj l o') :=
 ⟨(Below.refl _ _).grown (grownBy_putObj' W l o') (by have:=(Array.getElem?_eq_some_iff.1 ho).1;omega) (fun k e=>by cases e;omega),World.putObj_heap_other (by omega)⟩
theorem KpS.below {n₀ Bs x : Nat} {X Y : World} (h : Below X.heap.size X Y) (hn : n₀ ≤ X.heap.size) (hB : Bs < X.heap.size) : KpS n₀ Bs x X Y:=⟨h.mono hn,h.block Bs hB⟩
theorem KpS.set {n₀ Bs x : Nat} {X : World} {b o : Nat} (v : Value) (hn : n₀ ≤ b) (hB : Bs ≠ b) : KpS n₀ Bs x X (X.setCell ⟨b,o,none⟩ v) :=
 ⟨(Below.refl _ _).setCell (p:=⟨b,o,none⟩) hn v,Below.heap_setCell X ⟨b,o,none⟩ v Bs hB⟩
theorem kpM_put {M Bs B : Nat} (hB : Bs < B) (hM : M < B) (W : World) (l : Nat) (o' : Obj) (hl : B ≤ l) (x : Nat) : KpM M Bs x W (W.putObj l o') :=
 ⟨⟨World.putObj_heap_other (by omega),World.putObj_heap_other (by omega)⟩,by simp⟩
theorem abG_keep (x : Nat) (X Y : World) (k : Nat) (o : Obj) (h : AbG x X Y) (hk : X.heap[k]? = some o) : Y.heap[k]? = some o:=by
 rw [World.grownBy.block h k (Array.getElem?_eq_some_iff.1 hk).1 (by simp)];exact hk
theorem own_abG {β : Type} {B : Nat} {I : β → World → Prop} (hI : OwnFrom B I) (x : Nat) (k : β) (X Y : World) (h : I k X) (hg : AbG x X Y) : I k Y:=hI k X Y none h hg (fun r e=>by cases e)
section
variable {n : Nat} {g : Operand} {qs : Array Tmp} {assign body : Code} {Q : Exit → Act → World → Prop} {a : Act} {w : World} {Bs n₀ : Nat} {V : Option Addr} {d : Nat} {ps : List Pt}
theorem wpIn_range_sides (h1 : 2 ≤ n) (hg : a.eval g = .func (.func 98) #[] #[.pointer (some ⟨Bs,0,none⟩)]) (hq : qs.size = 2)
  (hBs : w.cell? ⟨Bs,0,none⟩ = some (.slice V ps.length d)) (hBw : Bs < w.heap.size) (hP : Pts w V ps) (hn : n₀ ≤ w.heap.size) (hVn : ∀ ad,V = some ad → 0 < ps.length → ad.block < n₀)
  (I : Nat → World → Prop) (Ix : Code → Nat → World → Prop) (hI : OwnFrom w.heap.size I) (hIx : ∀ c,OwnFrom w.heap.size (Ix c)) (h0 : I 0 w)
  (Ax : Nat × Sd → Act → World → Prop) (hAx : ∀ x a',OwnFrom w.heap.size (fun (_ : Unit) W=>Ax x a' W))
  (hassign : ∀ (l : Nat) (k : Nat) (W : World) (K : Act → World → Prop),k < ps.length → I k W → (∀ a' W',KeepsFrom w.heap.size W W' → KpS n₀ Bs (w.heap.size + 1 + 1) W W' → I k W' → Ax (k,Cal.sd ps k) a' W' → K a' W') →
   assign.wpIn (Fence.wide.inRound l) (n - 1 - 1) Try.prog (Exit.then K (fun _ _ _=>False)) { tmps:=(qs.zip #[.int .i64 (k : Int),.agg #[.int .i64 (Cal.sd ps k).a.x,.int .i64 (Cal.sd ps k).a.y,.int .i64 (Cal.sd ps k).b.x,.int .i64 (Cal.sd ps k).b.y]]).foldl (fun t (p,v)=>t.setIfInBounds p v) a.tmps,defers:=[] } W)
  (hbody : ∀ (l : Nat) (k : Nat) (a' : Act) (W : World),w.heap.size ≤ l → (∃ r,W.heap[l]? = some (.loop r)) → k < ps.length → I k W → Ax (k,Cal.sd ps k) a' W → body.wpIn (Fence.wide.inRound l) (n - 1 - 1) Try.prog (ixPost w.heap.size (KpS n₀ Bs (w.heap.size + 1 + 1)) (I (k + 1)) (fun c=>Ix c k) W) a' W)
  (hdone : ∀ (D : Nat) (W : World),w.heap.size ≤ D → I ps.length W → W.heap[D]? = some (.deferred (some [])) → Q .normal { a with defers:={ target:=.collected D,args:=#[] } :: a.defers } W)
  (hstop : ∀ (D : Nat) (c : Code) (k : Nat) (W : World),w.heap.size ≤ D → k < ps.length → Ix c k W → W.heap[D]? = some (.deferred (some [])) → c.wpIn Fence.wide n Try.prog Q { a with defers:={ target:=.collected D,args:=#[] } :: a.defers } W) :
  (Code.rangeFunc g qs assign body).wpIn Fence.wide n Try.prog Q a w:=by
 have at_ : ∀ {k : Nat} {x : Nat × Sd},(sdsI ps)[k]? = some x → k < ps.length ∧ x = (k,Cal.sd ps k):=fun {k x} h=>by
  have hk : k < ps.length:=by have:=(List.getElem?_eq_some_iff.1 h).1;rwa [sdsI_length] at this
  rw [sdsI_at hk] at h
  exact ⟨hk,(Option.some.inj h).symm⟩
 refine wpIn_rangeFunc_ix rfl (by omega) hg trivial (enters_of Try.func98 (by kernel_rfl) rfl)
  (sides_ix (n - 1) (by omega) Bs n₀ V d ps w hBs hBw hP.rows hVn hn hP.size) (fun X Y k o hab _ hk _=>abG_keep _ X Y k o hab hk) KpS.trans
  (fun W l o o' hl _ ho _ _=>kpS_put hBw hn W l o o' hl ho _) (Below.refl _ _) (fun x=>hq.symm ▸ rfl) I Ix hI hIx (fun k X Y h hab=>own_abG hI _ k X Y h hab) (fun c k X Y h hab=>own_abG (hIx c) _ k X Y h hab) h0 Ax hAx
  (fun l k x W K hx hi hK=>?_) (fun l k x a' W hl hr hx hi hax=>?_) (fun D W hD hi hdd=>?_) (fun D c k W hD hk hi hdd=>?_)
 ·obtain ⟨hk,rfl⟩:=at_ hx
  exact hassign l k W K hk hi hK
 ·obtain ⟨hk,rfl⟩:=at_ hx
  exact hbody l k a' W hl hr hk hi hax
 ·rw [sdsI_length] at hi
  exact hdone D W hD hi hdd
 ·rw [sdsI_length] at hk
  exact hstop D c k W hD hk hi hdd
theorem wpIn_range_sidesN {l₀ : Nat} {r₀ : Loop} (hl₀ : w.heap[l₀]? = some (.loop r₀)) (h1 : 2 ≤ n) (hg : a.eval g = .func (.func 98) #[] #[.pointer (some ⟨Bs,0,none⟩)]) (hq : qs.size = 2)
  (hBs : w.cell? ⟨Bs,0,none⟩ = some (.slice V ps.length d)) (hBw : Bs < w.heap.size) (hP : Pts w V ps) (hn : n₀ ≤ w.heap.size) (hVn : ∀ ad,V = some ad → 0 < ps.length → ad.block < n₀)
  (I : Nat → World → Prop) (Ix : Code → Nat → World → Prop) (hI : OwnFrom w.heap.size I) (hIx : ∀ c,OwnFrom w.heap.size (Ix c)) (h0 : I 0 w)
  (Ax : Nat × Sd → Act → World → Prop) (hAx : ∀ x a',OwnFrom w.heap.size (fun (_ : Unit) W=>Ax x a' W))
  (hassign : ∀ (l : Nat) (k : Nat) (W : World) (K : Act → World → Prop),k < ps.length → I k W → (∀ a' W',KeepsFrom w.heap.size W W' → KpS n₀ Bs (w.heap.size + 1) W W' → I k W' → Ax (k,Cal.sd ps k) a' W' → K a' W') →
   assign.wpIn ((Fence.wide.inRound l₀).inRound l) (n - 1 - 1) Try.prog (Exit.then K (fun _ _ _=>False)) { tmps:=(qs.zip #[.int .i64 (k : Int),.agg #[.int .i64 (Cal.sd ps k).a.x,.int .i64 (Cal.sd ps k).a.y,.int .i64 (Cal.sd ps k).b.x,.int .i64 (Cal.sd ps k).b.y]]).foldl (fun t (p,v)=>t.setIfInBounds p v) a.tmps,defers:=[] } W)
  (hbody : ∀ (l : Nat) (k : Nat) (a' : Act) (W : World),w.heap.size ≤ l → (∃ r,W.heap[l]? = some (.loop r)) → k < ps.length → I k W → Ax (k,Cal.sd ps k) a' W → body.wpIn ((Fence.wide.inRound l₀).inRound l) (n - 1 - 1) Try.prog (ixPost w.heap.size (KpS n₀ Bs (w.heap.size + 1)) (I (k + 1)) (fun c=>Ix c k) W) a' W)
  (hdone : ∀ (W : World),I ps.length W → Q .normal a W)
  (hstop : ∀ (c : Code) (k : Nat) (W : World),k < ps.length → Ix c k W → c.wpIn (Fence.wide.inRound l₀) n Try.prog Q a W) :
  (Code.rangeFunc g qs assign body).wpIn (Fence.wide.inRound l₀) n Try.prog Q a w:=by
 have at_ : ∀ {k : Nat} {x : Nat × Sd},(sdsI ps)[k]? = some x → k < ps.length ∧ x = (k,Cal.sd ps k):=fun {k x} h=>by
  have hk : k < ps.length:=by have:=(List.getElem?_eq_some_iff.1 h).1;rwa [sdsI_length] at this
  rw [sdsI_at hk] at h
  exact ⟨hk,(Option.some.inj h).symm⟩
 refine wpIn_rangeFunc_ixN (l₀:=l₀) (r₀:=r₀) rfl hl₀ (by omega) hg trivial (enters_of Try.func98 (by kernel_rfl) rfl)
  ((sides_ix (n - 1) (by omega) Bs n₀ V d ps w hBs hBw hP.rows hVn hn hP.size).inRound l₀) (fun X Y k o hab _ hk _=>abG_keep _ X Y k o hab hk) KpS.trans
  (fun W l o o' hl _ ho _ _=>kpS_put hBw hn W l o o' hl ho _) (Below.refl _ _) (fun x=>hq.symm ▸ rfl) I Ix hI hIx (fun k X Y h hab=>own_abG hI _ k X Y h hab) (fun c k X Y h hab=>own_abG (hIx c) _ k X Y h hab) h0 Ax hAx
  (fun l k x W K hx hi hK=>?_) (fun l k x a' W hl hr hx hi hax=>?_) (fun W hi=>?_) (fun c k W hk hi=>?_)
 ·obtain ⟨hk,rfl⟩:=at_ hx
  exact hassign l k W K hk hi hK
 ·obtain ⟨hk,rfl⟩:=at_ hx
  exact hbody l k a' W hl hr hk hi hax
 ·rw [sdsI_length] at hi
  exact hdone W hi
 ·rw [sdsI_length] at hk
  exact hstop c k W hk hi
theorem wpIn_sides1 (h1 : 2 ≤ n) (hg : a.eval g = .func (.func 98) #[] #[.pointer (some ⟨Bs,0,none⟩)]) (hq : qs.size = 2)
  (hBs : w.cell? ⟨Bs,0,none⟩ = some (.slice V ps.length d)) (hBw : Bs < w.heap.size) (hP : Pts w V ps) (hn : n₀ ≤ w.heap.size) (hVn : ∀ ad,V = some ad → 0 < ps.length → ad.block < n₀)
  (I : Nat → World → Prop) (Ix : Code → Nat → World → Prop) (hI : OwnFrom w.heap.size I) (hIx : ∀ c,OwnFrom w.heap.size (Ix c)) (h0 : I 0 w)
  (Af : Array Value → Nat → Sd → Nat → Array Value)
  (hassign : ∀ (l : Nat) (k : Nat) (W : World) (K : Act → World → Prop),k < ps.length → I k W → (∀ By W',w.heap.size ≤ By → KeepsFrom w.heap.size W W' → KpS n₀ Bs (w.heap.size + 1 + 1) W W' → I k W' → BoxAt W' By [.int .i64 (Cal.sd ps k).a.x,.int .i64 (Cal.sd ps k).a.y,.int .i64 (Cal.sd ps k).b.x,.int .i64 (Cal.sd ps k).b.y] → K { tmps:=Af a.tmps k (Cal.sd ps k) By,defers:=[] } W') →
   assign.wpIn (Fence.wide.inRound l) (n - 1 - 1) Try.prog (Exit.then K (fun _ _ _=>False)) { tmps:=(qs.zip #[.int .i64 (k : Int),.agg #[.int .i64 (Cal.sd ps k).a.x,.int .i64 (Cal.sd ps k).a.y,.int .i64 (Cal.sd ps k).b.x,.int .i64 (Cal.sd ps k).b.y]]).foldl (fun t (p,v)=>t.setIfInBounds p v) a.tmps,defers:=[] } W)
  (hbody : ∀ (l : Nat) (k : Nat) (By : Nat) (W : World),w.heap.size ≤ l → (∃ r,W.heap[l]? = some (.loop r)) → k < ps.length → I k W → w.heap.size ≤ By → BoxAt W By [.int .i64 (Cal.sd ps k).a.x,.int .i64 (Cal.sd ps k).a.y,.int .i64 (Cal.sd ps k).b.x,.int .i64 (Cal.sd ps k).b.y] → body.wpIn (Fence.wide.inRound l) (n - 1 - 1) Try.prog (ixPost w.heap.size (KpS n₀ Bs (w.heap.size + 1 + 1)) (I (k + 1)) (fun c=>Ix c k) W) { tmps:=Af a.tmps k (Cal.sd ps k) By,defers:=[] } W)
  (hdone : ∀ (D : Nat) (W : World),w.heap.size ≤ D → I ps.length W → W.heap[D]? = some (.deferred (some [])) → Q .normal { a with defers:={ target:=.collected D,args:=#[] } :: a.defers } W)
  (hstop : ∀ (D : Nat) (c : Code) (k : Nat) (W : World),w.heap.size ≤ D → k < ps.length → Ix c k W → W.heap[D]? = some (.deferred (some [])) → c.wpIn Fence.wide n Try.prog Q { a with defers:={ target:=.collected D,args:=#[] } :: a.defers } W) :
  (Code.rangeFunc g qs assign body).wpIn Fence.wide n Try.prog Q a w :=
 wpIn_range_sides h1 hg hq hBs hBw hP hn hVn I Ix hI hIx h0
  (fun x a' W=>∃ By,w.heap.size ≤ By ∧ BoxAt W By [.int .i64 x.2.a.x,.int .i64 x.2.a.y,.int .i64 x.2.b.x,.int .i64 x.2.b.y] ∧ a' = { tmps:=Af a.tmps x.1 x.2 By,defers:=[] })
  (fun x a' _ X Y row hs hg hr=>by obtain ⟨By,e1,e2,e3⟩:=hs;exact ⟨By,e1,e2.keptF hg (fun r e=>(hr r e).2),e3⟩)
  (fun l k W K hk hi hK=>hassign l k W K hk hi (fun By W' h1 h2 h3 h4 h5=>hK _ _ h2 h3 h4 ⟨By,h1,h5,rfl⟩))
  (fun l k a' W hl hr hk hi hax=>by obtain ⟨By,h1,h2,rfl⟩:=hax;exact hbody l k By W hl hr hk hi h1 h2) hdone hstop
theorem wpIn_sides1N {l₀ : Nat} {r₀ : Loop} (hl₀ : w.heap[l₀]? = some (.loop r₀)) (h1 : 2 ≤ n) (hg : a.eval g = .func (.func 98) #[] #[.pointer (some ⟨Bs,0,none⟩)]) (hq : qs.size = 2)
  (hBs : w.cell? ⟨Bs,0,none⟩ = some (.slice V ps.length d)) (hBw : Bs < w.heap.size) (hP : Pts w V ps) (hn : n₀ ≤ w.heap.size) (hVn : ∀ ad,V = some ad → 0 < ps.length → ad.block < n₀)
  (I : Nat → World → Prop) (Ix : Code → Nat → World → Prop) (hI : OwnFrom w.heap.size I) (hIx : ∀ c,OwnFrom w.heap.size (Ix c)) (h0 : I 0 w)
  (Af : Array Value → Nat → Sd → Nat → Array Value)
  (hassign : ∀ (l : Nat) (k : Nat) (W : World) (K : Act → World → Prop),k < ps.length → I k W → (∀ By W',w.heap.size ≤ By → KeepsFrom w.heap.size W W' → KpS n₀ Bs (w.heap.size + 1) W W' → I k W' → BoxAt W' By [.int .i64 (Cal.sd ps k).a.x,.int .i64 (Cal.sd ps k).a.y,.int .i64 (Cal.sd ps k).b.x,.int .i64 (Cal.sd ps k).b.y] → K { tmps:=Af a.tmps k (Cal.sd ps k) By,defers:=[] } W') →
   assign.wpIn ((Fence.wide.inRound l₀).inRound l) (n - 1 - 1) Try.prog (Exit.then K (fun _ _ _=>False)) { tmps:=(qs.zip #[.int .i64 (k : Int),.agg #[.int .i64 (Cal.sd ps k).a.x,.int .i64 (Cal.sd ps k).a.y,.int .i64 (Cal.sd ps k).b.x,.int .i64 (Cal.sd ps k).b.y]]).foldl (fun t (p,v)=>t.setIfInBounds p v) a.tmps,defers:=[] } W)
  (hbody : ∀ (l : Nat) (k : Nat) (By : Nat) (W : World),w.heap.size ≤ l → (∃ r,W.heap[l]? = some (.loop r)) → k < ps.length → I k W → w.heap.size ≤ By → BoxAt W By [.int .i64 (Cal.sd ps k).a.x,.int .i64 (Cal.sd ps k).a.y,.int .i64 (Cal.sd ps k).b.x,.int .i64 (Cal.sd ps k).b.y] → body.wpIn ((Fence.wide.inRound l₀).inRound l) (n - 1 - 1) Try.prog (ixPost w.heap.size (KpS n₀ Bs (w.heap.size + 1)) (I (k + 1)) (fun c=>Ix c k) W) { tmps:=Af a.tmps k (Cal.sd ps k) By,defers:=[] } W)
  (hdone : ∀ (W : World),I ps.length W → Q .normal a W)
  (hstop : ∀ (c : Code) (k : Nat) (W : World),k < ps.length → Ix c k W → c.wpIn (Fence.wide.inRound l₀) n Try.prog Q a W) :
  (Code.rangeFunc g qs assign body).wpIn (Fence.wide.inRound l₀) n Try.prog Q a w :=
 wpIn_range_sidesN hl₀ h1 hg hq hBs hBw hP hn hVn I Ix hI hIx h0
  (fun x a' W=>∃ By,w.heap.size ≤ By ∧ BoxAt W By [.int .i64 x.2.a.x,.int .i64 x.2.a.y,.int .i64 x.2.b.x,.int .i64 x.2.b.y] ∧ a' = { tmps:=Af a.tmps x.1 x.2 By,defers:=[] })
  (fun x a' _ X Y row hs hg hr=>by obtain ⟨By,e1,e2,e3⟩:=hs;exact ⟨By,e1,e2.keptF hg (fun r e=>(hr r e).2),e3⟩)
  (fun l k W K hk hi hK=>hassign l k W K hk hi (fun By W' h1 h2 h3 h4 h5=>hK _ _ h2 h3 h4 ⟨By,h1,h5,rfl⟩))
  (fun l k a' W hl hr hk hi hax=>by obtain ⟨By,h1,h2,rfl⟩:=hax;exact hbody l k By W hl hr hk hi h1 h2) hdone hstop
theorem wpIn_range_sidesNM {M ofs : Nat} {l₀ : Nat} {r₀ : Loop} (hl₀ : w.heap[l₀]? = some (.loop r₀)) (h1 : 2 ≤ n) (hg : a.eval g = .func (.func 98) #[] #[.pointer (some ⟨Bs,0,none⟩)]) (hq : qs.size = 2)
  (hBs : w.cell? ⟨Bs,0,none⟩ = some (.slice (some ⟨M,ofs,none⟩) ps.length d)) (hBw : Bs < w.heap.size) (hP : Pts w (some ⟨M,ofs,none⟩) ps) (hM : M < w.heap.size)
  (I : Nat → World → Prop) (Ix : Code → Nat → World → Prop) (hI : OwnFrom w.heap.size I) (hIx : ∀ c,OwnFrom w.heap.size (Ix c)) (h0 : I 0 w)
  (Ax : Nat × Sd → Act → World → Prop) (hAx : ∀ x a',OwnFrom w.heap.size (fun (_ : Unit) W=>Ax x a' W))
  (hassign : ∀ (l : Nat) (k : Nat) (W : World) (K : Act → World → Prop),k < ps.length → I k W → (∀ a' W',KeepsFrom w.heap.size W W' → KpM M Bs (w.heap.size + 1) W W' → I k W' → Ax (k,Cal.sd ps k) a' W' → K a' W') →
   assign.wpIn ((Fence.wide.inRound l₀).inRound l) (n - 1 - 1) Try.prog (Exit.then K (fun _ _ _=>False)) { tmps:=(qs.zip #[.int .i64 (k : Int),.agg #[.int .i64 (Cal.sd ps k).a.x,.int .i64 (Cal.sd ps k).a.y,.int .i64 (Cal.sd ps k).b.x,.int .i64 (Cal.sd ps k).b.y]]).foldl (fun t (p,v)=>t.setIfInBounds p v) a.tmps,defers:=[] } W)
  (hbody : ∀ (l : Nat) (k : Nat) (a' : Act) (W : World),w.heap.size ≤ l → (∃ r,W.heap[l]? = some (.loop r)) → k < ps.length → I k W → Ax (k,Cal.sd ps k) a' W → body.wpIn ((Fence.wide.inRound l₀).inRound l) (n - 1 - 1) Try.prog (ixPost w.heap.size (KpM M Bs (w.heap.size + 1)) (I (k + 1)) (fun c=>Ix c k) W) a' W)
  (hdone : ∀ (W : World),I ps.length W → Q .normal a W)
  (hstop : ∀ (c : Code) (k : Nat) (W : World),k < ps.length → Ix c k W → c.wpIn (Fence.wide.inRound l₀) n Try.prog Q a W) :
  (Code.rangeFunc g qs assign body).wpIn (Fence.wide.inRound l₀) n Try.prog Q a w:=by
 have at_ : ∀ {k : Nat} {x : Nat × Sd},(sdsI ps)[k]? = some x → k < ps.length ∧ x = (k,Cal.sd ps k):=fun {k x} h=>by
  have hk : k < ps.length:=by have:=(List.getElem?_eq_some_iff.1 h).1;rwa [sdsI_length] at this
  rw [sdsI_at hk] at h
  exact ⟨hk,(Option.some.inj h).symm⟩
 refine wpIn_rangeFunc_ixN (l₀:=l₀) (r₀:=r₀) rfl hl₀ (by omega) hg trivial (enters_of Try.func98 (by kernel_rfl) rfl)
  ((sides_gen (n - 1) (by omega) Bs (KpM M Bs) (some ⟨M,ofs,none⟩) d ps w (kpM_ok hBw hM) hBs hBw hP.rows hP.size).inRound l₀) (fun X Y k o hab _ hk _=>abG_keep _ X Y k o hab hk) KpM.trans
  (fun W l o o' hl _ ho _ _=>kpM_put hBw hM W l o' hl _) (Below.refl _ _) (fun x=>hq.symm ▸ rfl) I Ix hI hIx (fun k X Y h hab=>own_abG hI _ k X Y h hab) (fun c k X Y h hab=>own_abG (hIx c) _ k X Y h hab) h0 Ax hAx
  (fun l k x W K hx hi hK=>?_) (fun l k x a' W hl hr hx hi hax=>?_) (fun W hi=>?_) (fun c k W hk hi=>?_)
 ·obtain ⟨hk,rfl⟩:=at_ hx
  exact hassign l k W K hk hi hK
 ·obtain ⟨hk,rfl⟩:=at_ hx
  exact hbody l k a' W hl hr hk hi hax
 ·rw [sdsI_length] at hi
  exact hdone W hi
 ·rw [sdsI_length] at hk
  exact hstop c k W hk hi
theorem wpIn_sides1NM {M ofs : Nat} {l₀ : Nat} {r₀ : Loop} (hl₀ : w.heap[l₀]? = some (.loop r₀)) (h1 : 2 ≤ n) (hg : a.eval g = .func (.func 98) #[] #[.pointer (some ⟨Bs,0,none⟩)]) (hq : qs.size = 2)
  (hBs : w.cell? ⟨Bs,0,none⟩ = some (.slice (some ⟨M,ofs,none⟩) ps.length d)) (hBw : Bs < w.heap.size) (hP : Pts w (some ⟨M,ofs,none⟩) ps) (hM : M < w.heap.size)
  (I : Nat → World → Prop) (Ix : Code → Nat → World → Prop) (hI : OwnFrom w.heap.size I) (hIx : ∀ c,OwnFrom w.heap.size (Ix c)) (h0 : I 0 w)
  (Af : Array Value → Nat → Sd → Nat → Array Value)
  (hassign : ∀ (l : Nat) (k : Nat) (W : World) (K : Act → World → Prop),k < ps.length → I k W → (∀ By W',w.heap.size ≤ By → KeepsFrom w.heap.size W W' → KpM M Bs (w.heap.size + 1) W W' → I k W' → BoxAt W' By [.int .i64 (Cal.sd ps k).a.x,.int .i64 (Cal.sd ps k).a.y,.int .i64 (Cal.sd ps k).b.x,.int .i64 (Cal.sd ps k).b.y] → K { tmps:=Af a.tmps k (Cal.sd ps k) By,defers:=[] } W') →
   assign.wpIn ((Fence.wide.inRound l₀).inRound l) (n - 1 - 1) Try.prog (Exit.then K (fun _ _ _=>False)) { tmps:=(qs.zip #[.int .i64 (k : Int),.agg #[.int .i64 (Cal.sd ps k).a.x,.int .i64 (Cal.sd ps k).a.y,.int .i64 (Cal.sd ps k).b.x,.int .i64 (Cal.sd ps k).b.y]]).foldl (fun t (p,v)=>t.setIfInBounds p v) a.tmps,defers:=[] } W)
  (hbody : ∀ (l : Nat) (k : Nat) (By : Nat) (W : World),w.heap.size ≤ l → (∃ r,W.heap[l]? = some (.loop r)) → k < ps.length → I k W → w.heap.size ≤ By → BoxAt W By [.int .i64 (Cal.sd ps k).a.x,.int .i64 (Cal.sd ps k).a.y,.int .i64 (Cal.sd ps k).b.x,.int .i64 (Cal.sd ps k).b.y] → body.wpIn ((Fence.wide.inRound l₀).inRound l) (n - 1 - 1) Try.prog (ixPost w.heap.size (KpM M Bs (w.heap.size + 1)) (I (k + 1)) (fun c=>Ix c k) W) { tmps:=Af a.tmps k (Cal.sd ps k) By,defers:=[] } W)
  (hdone : ∀ (W : World),I ps.length W → Q .normal a W)
  (hstop : ∀ (c : Code) (k : Nat) (W : World),k < ps.length → Ix c k W → c.wpIn (Fence.wide.inRound l₀) n Try.prog Q a W) :
  (Code.rangeFunc g qs assign body).wpIn (Fence.wide.inRound l₀) n Try.prog Q a w :=
 wpIn_range_sidesNM hl₀ h1 hg hq hBs hBw hP hM I Ix hI hIx h0
  (fun x a' W=>∃ By,w.heap.size ≤ By ∧ BoxAt W By [.int .i64 x.2.a.x,.int .i64 x.2.a.y,.int .i64 x.2.b.x,.int .i64 x.2.b.y] ∧ a' = { tmps:=Af a.tmps x.1 x.2 By,defers:=[] })
  (fun x a' _ X Y row hs hg hr=>by obtain ⟨By,e1,e2,e3⟩:=hs;exact ⟨By,e1,e2.keptF hg (fun r e=>(hr r e).2),e3⟩)
  (fun l k W K hk hi hK=>hassign l k W K hk hi (fun By W' h1 h2 h3 h4 h5=>hK _ _ h2 h3 h4 ⟨By,h1,h5,rfl⟩))
  (fun l k a' W hl hr hk hi hax=>by obtain ⟨By,h1,h2,rfl⟩:=hax;exact hbody l k By W hl hr hk hi h1 h2) hdone hstop
end
end Go.Proofs.Ythfokpchdlcidaa
namespace Go.Proofs.Ythfokpchdlcidaa
open Go Go.RowKit Go.Shelf
attribute [local go_sem] Oper.semAt_some
theorem SmP.box {p : Pt} (h : SmP p) : -4000000 ≤ p.x ∧ p.x ≤ 4000000 ∧ -4000000 ≤ p.y ∧ p.y ≤ 4000000:=by
 obtain ⟨h0,h1,h2,h3⟩:=h
 omega
theorem crossV_box {a b : Pt} (ha : SmP a) (hb : SmP b) : -2000000000000 ≤ a.x * b.y - a.y * b.x ∧ a.x * b.y - a.y * b.x ≤ 2000000000000:=by
 obtain ⟨a0,a1,a2,a3⟩:=ha
 obtain ⟨b0,b1,b2,b3⟩:=hb
 have h1:=mul_le_of (a:=a.x) (b:=b.y) (M:=1000000) (N:=1000000) a0 a1 b2 b3
 have h2:=mul_le_of (a:=a.y) (b:=b.x) (M:=1000000) (N:=1000000) a2 a3 b0 b1
 omega
theorem areaTo_box {w : World} {V : Option Addr} {ps : List Pt} (h : Pts w V ps) : ∀ k : Nat,k ≤ ps.length → -(2000000000000 * (k : Int)) ≤ Cal.areaTo ps k ∧ Cal.areaTo ps k ≤ 2000000000000 * (k : Int)
 | 0,_=>by simp [Cal.areaTo]
 | k + 1,hk=>by
  have ih:=areaTo_box h k (by omega)
  have hs:=h.sd k (by omega)
  have:=crossV_box hs.a hs.b
  unfold Cal.areaTo
  omega
def ArI (w : World) (ps : List Pt) (k : Nat) (W : World) : Prop:=BoxAt W w.heap.size [.int .i64 (Cal.areaTo ps k)] ∧ Below w.heap.size w W ∧ w.heap.size + 2 ≤ W.heap.size
theorem arI_own (w : World) (ps : List Pt) (B : Nat) (hB : w.heap.size ≤ B) : OwnFrom B (ArI w ps):=fun pre X Y row hs hg hr=>by
 obtain ⟨b,hb,hz⟩:=hs
 exact ⟨b.keptF hg (fun r e=>(hr r e).2),ownFrom_below (β:=Unit) (Nat.le_refl _) hB () X Y row hb hg hr,Nat.le_trans hz hg.size⟩
theorem area_any (V : Option Addr) (d : Nat) (ps : List Pt) (w : World) (hP : Pts w V ps) :
  Calls Try.prog 49 #[.slice V ps.length d] w fun e w'=>e = .returned (.int .i64 (Cal.areaP ps)) ∧ Below w.heap.size w w':=by
 refine (callsIn_wide (n:=4)).1 ?_
 refine callsIn_of_wp_marks Try.func49 rfl trivial ?_ rfl
 simp only [Try.ntmps49,List.size_toArray,List.length_cons,List.length_nil,Nat.reduceAdd,Nat.reduceSub,Array.replicate_succ,Array.replicate_zero,List.push_toArray,List.append_toArray,List.nil_append,List.cons_append]
 gi_wp2_with (refine ⟨trivial,?_⟩;gi_at_call 79;refine (callsIn_wide.2 (sides_any _ _ _ _)).mono ?_;rintro e w' ⟨rfl,rfl⟩)
 have bA:=(BoxAt.new w #[.int .i64 0] 3).alloc (.cells #[.slice V ps.length d] 35)
 have bS:=BoxAt.new (w.alloc (.cells #[.int .i64 0] 3)) #[.slice V ps.length d] 35
 have hB0 : Below w.heap.size w ((w.alloc (.cells #[.int .i64 0] 3)).alloc (.cells #[.slice V ps.length d] 35)):=below_step (below_alloc _ _) (below_alloc _ _)
 have hs0 : ((w.alloc (.cells #[.int .i64 0] 3)).alloc (.cells #[.slice V ps.length d] 35)).heap.size = w.heap.size + 2:=by simp
 simp only [World.size_alloc] at bS
 obtain ⟨W0,hW0⟩ : ∃ W0,(w.alloc (.cells #[.int .i64 0] 3)).alloc (.cells #[.slice V ps.length d] 35) = W0:=⟨_,rfl⟩
 rw [hW0] at bA bS hB0 hs0 ⊢
 clear hW0
 have hP0:=hP.below hB0
 refine wpIn_range_sides (Bs:=w.heap.size + 1) (n₀:=w.heap.size) (V:=V) (d:=d) (ps:=ps) (by omega) rfl rfl (bS.c 0 _ rfl) (by omega) hP0 (by omega) hP.own
  (ArI w ps) (fun _ _ _=>False) (arI_own w ps _ (by omega)) (fun _ _ _ _ _ h=>h.elim) ⟨bA,hB0,by omega⟩
  (fun x a' W=>∃ Bx,W0.heap.size ≤ Bx ∧ BoxAt W Bx [.int .i64 x.2.a.x,.int .i64 x.2.a.y,.int .i64 x.2.b.x,.int .i64 x.2.b.y] ∧ a' = { tmps:=#[.slice V ps.length d,undef,.int .i64 0,.pointer (some ⟨w.heap.size,0,none⟩),undef,.pointer (some ⟨Bx,0,none⟩),.slice V ps.length d,.func (.func 98) #[] #[.pointer (some ⟨w.heap.size + 1,0,none⟩)],.int .i64 (x.1 : Int),.agg #[.int .i64 x.2.a.x,.int .i64 x.2.a.y,.int .i64 x.2.b.x,.int .i64 x.2.b.y],undef,undef,undef,undef,undef,undef,undef,undef],defers:=[] })
  (fun x a' _ X Y row hs hg hr=>by obtain ⟨Bx,e1,e2,e3⟩:=hs;exact ⟨Bx,e1,e2.keptF hg (fun r e=>(hr r e).2),e3⟩)
  ?assign ?body ?done ?stop
 case assign =>
  rintro l k W K hk ⟨hb,hB,hz⟩ hK
  gi_wp2
  exact hK _ _ ((KeepsOthers.alloc _ _).from _) (KpS.below (below_alloc _ _) hB.size (by omega)) ⟨hb.alloc _,hB.alloc hB.size _,by simp;omega⟩ ⟨W.heap.size,by omega,BoxAt.new W #[.int .i64 (Cal.sd ps k).a.x,.int .i64 (Cal.sd ps k).a.y,.int .i64 (Cal.sd ps k).b.x,.int .i64 (Cal.sd ps k).b.y] _,rfl⟩
 case body =>
  rintro l k a' W hl ⟨r,hr⟩ hk ⟨hb,hB,hz⟩ ⟨Bx,hBx,bX,rfl⟩
  have hsd:=hP.sd k hk
  have hbox:=areaTo_box hP k (by omega)
  have hbox2:=areaTo_box hP (k + 1) hk
  have hsz:=hP.size
  have hstep : Hid (Cal.areaTo ps (k + 1) = Cal.areaTo ps k + ((Cal.sd ps k).a.x * (Cal.sd ps k).b.y - (Cal.sd ps k).a.y * (Cal.sd ps k).b.x)):=rfl
  rw [hstep.out] at hbox2
  have c0:=hb.c 0 _ rfl
  have f0:=hb.free 0 Nat.zero_lt_one
  have e0:=bX.c 0 _ rfl
  have e1:=bX.c 1 _ rfl
  have e2:=bX.c 2 _ rfl
  have e3:=bX.c 3 _ rfl
  dsimp only at e0 e1 e2 e3
  generalize Cal.sd ps k = s at *
  generalize Cal.areaTo ps k = acc at *
  have hwr : IntKind.i64.wrap (acc + (s.a.x * s.b.y - s.a.y * s.b.x)) = acc + (s.a.x * s.b.y - s.a.y * s.b.x):=wrap_small (by omega) (by omega)
  have hAll:=Lib.hid (And.intro hb (And.intro hB hz))
  clear hb hB bX
  gi_wp2
  refine wpIn_region_heldY (S:=Sx W [(w.heap.size,0,.int .i64 acc),(Bx,0,.int .i64 s.a.x),(Bx,1,.int .i64 s.a.y),(Bx,2,.int .i64 s.b.x),(Bx,3,.int .i64 s.b.y)]) 7 (by kernel_rfl) (Sx.mk (by simp only [cs_iff_cons];exact ⟨c0,e0,e1,e2,e3,cs_nil _⟩) (Below.refl _ _)).drew (fun hHeld=>?_)
  refine tkYx 0 10 ?_
  refine tkYx 1 11 ?_
  refine tkYx 2 12 ?_
  refine tkYx 3 13 ?_
  refine tkYx 4 14 ?_
  (refine ratY 5 (fun _=>trivial) (by decide +kernel) rfl (fun K hK=>?_);rw [if_pos (by kernel_rfl)];go_simp)
  refine ⟨trivial,?_⟩
  refine (callsIn_wide.2 (cross_any s.a s.b _ hsd.a.box hsd.b.box)).mono ?_
  rintro e wn ⟨rfl,hbn⟩
  go_simp
  (refine hK.out _ _ (hHeld.step hbn) (fun hHeld=>?_);clear hK K;(try simp only [apS,apN,siA,scZ,scS]))
  refine tkYx 6 16 ?_
  have f1 : wn.frozen? ⟨w.heap.size,0,none⟩ = false:=((hAll.out.1.below hHeld.bel).free 0 Nat.zero_lt_one)
  have h0:=hHeld.cs
  simp only [cs_iff_cons] at h0
  obtain ⟨h0,_⟩:=h0
  (refine ratYc 7 (fun _=>trivial) (by decide +kernel) rfl (by decide +kernel) (fun K hK=>?_);rw [if_pos (by kernel_rfl)];go_simp;refine hK.out _ _ ?_;clear hK K;(try simp only [apS,apN,siA,scZ,scS]))
  refine wpAnyInY_done (by decide +kernel) ?_ _
  refine ⟨((keepsF_below hHeld.bel).trans (KeepsOthers.setCell _ _ _)).from _,(KpS.below hHeld.bel (by omega) (by omega)).trans (KpS.set _ (Nat.le_refl _) (by omega)),?_,?_,?_⟩
  ·rw [hstep.out]
   exact (hAll.out.1.below hHeld.bel).set 0 _ Nat.zero_lt_one
  ·exact (hAll.out.2.1.trans (hHeld.bel.mono hAll.out.2.1.size)).setCell (p:=⟨w.heap.size,0,none⟩) (Nat.le_refl _) _
  ·have:=hHeld.bel.size
   rw [World.size_setCell]
   omega
 case done =>
  rintro D W hD ⟨hb,hB,hz⟩ hK
  have c0:=hb.c 0 _ rfl
  have hAll:=Lib.hid (And.intro hb (And.intro hB hK))
  clear hb hB hK
  gi_wp2
  obtain ⟨hb,hB,hK⟩:=hAll.out
  refine ⟨by simp,.inl ⟨_,_,rfl,run_takeDeferred hK,?_⟩⟩
  exact ⟨_,results_tmp (t:=2) rfl _ _ _,rfl,belowF_put hB (by omega) _⟩
 case stop =>
  rintro D c k W hD hk h
  exact h.elim
end Go.Proofs.Ythfokpchdlcidaa
namespace Go.Proofs.Ythfokpchdlcidaa
open Go Go.RowKit Go.Shelf
attribute [local go_sem] Oper.semAt_some
theorem results_c1 {P : Program} {fn : Func} {t : Tmp} {ty : TypeId} (h : fn.results = #[.cell t ty]) (tmps : Array Value) (w : World) (b : Addr) (v : Value)
  (hq : tmps.getD t undef = .pointer (some b)) (hv : (loadVar ty b).run P w = .ok v w) : (results fn tmps).run P w = .ok v w:=by
 have hq' : tmps[t]?.getD undef = .pointer (some b):=by simpa using hq
 simp [results,h,hq',asAddr,hv]
theorem Cal.whereFrom_cons (q : Pt) (b : Bool) (s : Sd) (r : List Sd) : Cal.whereFrom q b (s :: r) = if Cal.hasP s q then 0 else Cal.whereFrom q (if (decide (q.y < s.a.y) != decide (q.y < s.b.y)) && (decide (0 < Cal.trn s q) == decide (s.a.y < s.b.y)) then !b else b) r:=rfl
theorem sds_drop {ps : List Pt} {k : Nat} (h : k < ps.length) : (Cal.sds ps).drop k = Cal.sd ps k :: (Cal.sds ps).drop (k + 1):=by
 have hl : k < (Cal.sds ps).length:=by unfold Cal.sds;simpa using h
 rw [List.drop_eq_getElem_cons hl]
 rw [show (Cal.sds ps)[k] = Cal.sd ps k from by simp [Cal.sds]]
structure WhI (w : World) (q : Pt) (b : Bool) (W : World) : Prop where
 q : BoxAt W w.heap.size [.int .i64 q.x,.int .i64 q.y]
 r : ∃ v,BoxAt W (w.heap.size + 1) [v]
 b : BoxAt W (w.heap.size + 1 + 1) [.bool b]
 bel : Below w.heap.size w W
 size : w.heap.size + 4 ≤ W.heap.size
def WhJ (w : World) (q : Pt) (ps : List Pt) (k : Nat) (W : World) : Prop:=∃ b,Cal.whereP ps q = Cal.whereFrom q b ((Cal.sds ps).drop k) ∧ WhI w q b W
def WhX (w : World) (q : Pt) (ps : List Pt) (c : Code) (_ : Nat) (W : World) : Prop:=c = .ret ∧ Cal.whereP ps q = 0 ∧ BoxAt W (w.heap.size + 1) [.int .i64 0] ∧ Below w.heap.size w W
theorem WhI.kept {w : World} {q : Pt} {b : Bool} {X Y : World} {row : Option Nat} (h : WhI w q b X) (hg : X.grownBy Y row) (hr : ∀ r,row = some r → w.heap.size ≤ r ∧ ∃ o : Obj,X.heap[r]? = some o ∧ o.isCells = false) : WhI w q b Y:=by
 obtain ⟨h1,⟨v,h2⟩,h3,h4,h5⟩:=h
 exact ⟨h1.keptF hg (fun r e=>(hr r e).2),⟨v,h2.keptF hg (fun r e=>(hr r e).2)⟩,h3.keptF hg (fun r e=>(hr r e).2),ownFrom_below (β:=Unit) (Nat.le_refl _) (Nat.le_refl _) () X Y row h4 hg hr,Nat.le_trans h5 hg.size⟩
theorem WhI.below {w : World} {q : Pt} {b : Bool} {X Y : World} (h : WhI w q b X) (hb : Below X.heap.size X Y) : WhI w q b Y:=by
 obtain ⟨h1,⟨v,h2⟩,h3,h4,h5⟩:=h
 exact ⟨h1.below hb,⟨v,h2.below hb⟩,h3.below hb,h4.trans (hb.mono h4.size),Nat.le_trans h5 hb.size⟩
theorem whJ_own (w : World) (q : Pt) (ps : List Pt) (B : Nat) (hB : w.heap.size ≤ B) : OwnFrom B (WhJ w q ps):=fun k X Y row hs hg hr=>by
 obtain ⟨b,h1,h2⟩:=hs
 exact ⟨b,h1,h2.kept hg (fun r e=>⟨by have:=(hr r e).1;omega,(hr r e).2⟩)⟩
theorem whX_own (w : World) (q : Pt) (ps : List Pt) (B : Nat) (hB : w.heap.size ≤ B) (c : Code) : OwnFrom B (WhX w q ps c):=fun k X Y row hs hg hr=>by
 obtain ⟨h1,h2,h3,h4⟩:=hs
 exact ⟨h1,h2,h3.keptF hg (fun r e=>(hr r e).2),ownFrom_below (β:=Unit) (Nat.le_refl _) hB () X Y row h4 hg hr⟩
theorem WhI.turn {w : World} {q : Pt} {b : Bool} {W : World} (h : WhI w q b W) (b' : Bool) : WhI w q b' (W.setCell ⟨w.heap.size + 1 + 1,0,none⟩ (.bool b')):=by
 obtain ⟨h1,⟨v,h2⟩,h3,h4,h5⟩:=h
 exact ⟨h1.grown (grown_set _ _ _ _) (fun e=>by injection e with e;omega),⟨v,h2.grown (grown_set _ _ _ _) (fun e=>by injection e with e;omega)⟩,h3.set 0 _ Nat.zero_lt_one,h4.setCell (p:=⟨w.heap.size + 1 + 1,0,none⟩) (by simp;omega) _,by rw [World.size_setCell];exact h5⟩
theorem where_any (V : Option Addr) (d : Nat) (ps : List Pt) (q : Pt) (w : World) (hP : Pts w V ps) (hq : SmP q) :
  Calls Try.prog 48 #[.slice V ps.length d,.agg #[.int .i64 q.x,.int .i64 q.y]] w fun e w'=>e = .returned (.int .i64 (Cal.whereP ps q)) ∧ Below w.heap.size w w':=by
 refine (callsIn_wide (n:=4)).1 ?_
 refine callsIn_of_wp_marks Try.func48 rfl trivial ?_ rfl
 simp only [Try.ntmps48,List.size_toArray,List.length_cons,List.length_nil,Nat.reduceAdd,Nat.reduceSub,Array.replicate_succ,Array.replicate_zero,List.push_toArray,List.append_toArray,List.nil_append,List.cons_append]
 gi_wp2_with (refine ⟨trivial,?_⟩;gi_at_call 79;refine (callsIn_wide.2 (sides_any _ _ _ _)).mono ?_;rintro e w' ⟨rfl,rfl⟩)
 have bQ:=(((BoxAt.new w #[.int .i64 q.x,.int .i64 q.y] 40).alloc (.cells #[.int .i64 0] 3)).alloc (.cells #[.bool false] 4)).alloc (.cells #[.slice V ps.length d] 35)
 have bR:=((BoxAt.new (w.alloc (.cells #[.int .i64 q.x,.int .i64 q.y] 40)) #[.int .i64 0] 3).alloc (.cells #[.bool false] 4)).alloc (.cells #[.slice V ps.length d] 35)
 have bB:=(BoxAt.new ((w.alloc (.cells #[.int .i64 q.x,.int .i64 q.y] 40)).alloc (.cells #[.int .i64 0] 3)) #[.bool false] 4).alloc (.cells #[.slice V ps.length d] 35)
 have bS:=BoxAt.new (((w.alloc (.cells #[.int .i64 q.x,.int .i64 q.y] 40)).alloc (.cells #[.int .i64 0] 3)).alloc (.cells #[.bool false] 4)) #[.slice V ps.length d] 35
 have hB0 : Below w.heap.size w ((((w.alloc (.cells #[.int .i64 q.x,.int .i64 q.y] 40)).alloc (.cells #[.int .i64 0] 3)).alloc (.cells #[.bool false] 4)).alloc (.cells #[.slice V ps.length d] 35)):=below_step (below_step (below_step (below_alloc _ _) (below_alloc _ _)) (below_alloc _ _)) (below_alloc _ _)
 have hs0 : (((((w.alloc (.cells #[.int .i64 q.x,.int .i64 q.y] 40)).alloc (.cells #[.int .i64 0] 3)).alloc (.cells #[.bool false] 4)).alloc (.cells #[.slice V ps.length d] 35))).heap.size = w.heap.size + 4:=by simp
 simp only [World.size_alloc] at bR bB bS
 obtain ⟨W0,hW0⟩ : ∃ W0,((((w.alloc (.cells #[.int .i64 q.x,.int .i64 q.y] 40)).alloc (.cells #[.int .i64 0] 3)).alloc (.cells #[.bool false] 4)).alloc (.cells #[.slice V ps.length d] 35)) = W0:=⟨_,rfl⟩
 rw [hW0] at bQ bR bB bS hB0 hs0 ⊢
 clear hW0
 have hP0:=hP.below hB0
 refine wpIn_range_sides (Bs:=w.heap.size + 1 + 1 + 1) (n₀:=w.heap.size) (V:=V) (d:=d) (ps:=ps) (by omega) rfl rfl (bS.c 0 _ rfl) (by omega) hP0 (by omega) hP.own
  (WhJ w q ps) (WhX w q ps) (whJ_own w q ps _ (by omega)) (whX_own w q ps _ (by omega)) ⟨false,rfl,bQ,⟨_,bR⟩,bB,hB0,by omega⟩
  (fun x a' W=>∃ Bx,W0.heap.size ≤ Bx ∧ BoxAt W Bx [.int .i64 x.2.a.x,.int .i64 x.2.a.y,.int .i64 x.2.b.x,.int .i64 x.2.b.y] ∧ a' = { tmps:=#[.slice V ps.length d,.agg #[.int .i64 q.x,.int .i64 q.y],undef,.pointer (some ⟨w.heap.size,0,none⟩),.pointer (some ⟨w.heap.size + 1,0,none⟩),.pointer (some ⟨w.heap.size + 1 + 1,0,none⟩),undef,.pointer (some ⟨Bx,0,none⟩),.slice V ps.length d,.func (.func 98) #[] #[.pointer (some ⟨w.heap.size + 1 + 1 + 1,0,none⟩)],.int .i64 (x.1 : Int),.agg #[.int .i64 x.2.a.x,.int .i64 x.2.a.y,.int .i64 x.2.b.x,.int .i64 x.2.b.y],undef,undef,undef,undef,undef,undef,undef,undef,undef,undef,undef,undef,undef,undef,undef,undef,undef,undef,undef,undef,undef,undef,undef,undef,undef,undef,undef,undef,undef,undef,undef,undef,undef],defers:=[] })
  (fun x a' _ X Y row hs hg hr=>by obtain ⟨Bx,e1,e2,e3⟩:=hs;exact ⟨Bx,e1,e2.keptF hg (fun r e=>(hr r e).2),e3⟩)
  ?assign ?body ?done ?stop
 case assign =>
  rintro l k W K hk ⟨b,hb,hI⟩ hK
  gi_wp2
  have hz:=hI.size
  exact hK _ _ ((KeepsOthers.alloc _ _).from _) (KpS.below (below_alloc _ _) hI.bel.size (by omega)) ⟨b,hb,hI.below (below_alloc _ _)⟩ ⟨W.heap.size,by omega,BoxAt.new W #[.int .i64 (Cal.sd ps k).a.x,.int .i64 (Cal.sd ps k).a.y,.int .i64 (Cal.sd ps k).b.x,.int .i64 (Cal.sd ps k).b.y] _,rfl⟩
 case body =>
  rintro l k a' W hl ⟨r,hr⟩ hk ⟨b,hb,hI⟩ ⟨Bx,hBx,bX,rfl⟩
  have hsd:=hP.sd k hk
  have hz:=hI.size
  rw [sds_drop hk,Cal.whereFrom_cons] at hb
  have c0:=hI.q.c 0 _ rfl
  have c1:=hI.q.c 1 _ rfl
  have e0:=bX.c 0 _ rfl
  have e1:=bX.c 1 _ rfl
  have e2:=bX.c 2 _ rfl
  have e3:=bX.c 3 _ rfl
  dsimp only at e0 e1 e2 e3
  generalize Cal.sd ps k = s at *
  obtain ⟨ht,hht⟩ : ∃ ht,Cal.hasP s q = ht:=⟨_,rfl⟩
  rw [hht] at hb
  have hht:=Lib.hid hht
  have hIz:=Lib.hid hI
  have bXz:=Lib.hid bX
  clear hI bX
  cases ht
  ·rw [if_neg (by decide)] at hb
   have hb:=Lib.hid hb
   gi_wp2_with (refine ⟨trivial,?_⟩;gi_at_call 80;refine (callsIn_wide.2 (has_any s q _ hsd hq)).mono ?_;rintro e wn ⟨rfl,hbn⟩;rw [hht.out];(have hIz:=Lib.hid (hIz.out.below hbn);have bXz:=Lib.hid (bXz.out.below hbn);have hbW:=Lib.hid hbn;clear hbn c0 c1 e0 e1 e2 e3;have c0:=hIz.out.q.c 0 _ rfl;have c1:=hIz.out.q.c 1 _ rfl;have e0:=bXz.out.c 0 _ rfl;have e1:=bXz.out.c 1 _ rfl;have e2:=bXz.out.c 2 _ rfl;have e3:=bXz.out.c 3 _ rfl;obtain ⟨rv,hrv⟩:=hIz.out.r;have r0:=hrv.c 0 _ rfl;have r1:=hrv.free 0 Nat.zero_lt_one;have hrv:=Lib.hid hrv;have b0:=hIz.out.b.c 0 _ rfl;have b1:=hIz.out.b.free 0 Nat.zero_lt_one))
   have hz2:=hbW.out.size
   by_cases h1 : q.y < s.a.y <;> by_cases h2 : q.y < s.b.y
   ·have hb : Hid (Cal.whereP ps q = Cal.whereFrom q b ((Cal.sds ps).drop (k + 1))):=by have h:=hb.out;rw [decide_eq_true h1,decide_eq_true h2] at h;exact h
    have d1:=decide_eq_true h1
    have d2:=decide_eq_true h2
    refine wpIn_region_held_drew (S:=Sx wn [(w.heap.size,0,.int .i64 q.x),(w.heap.size,1,.int .i64 q.y),(Bx,0,.int .i64 s.a.x),(Bx,1,.int .i64 s.a.y),(Bx,2,.int .i64 s.b.x),(Bx,3,.int .i64 s.b.y)]) (by kernel_rfl) (Sx.mk (by simp only [cs_iff_cons];exact ⟨c0,c1,e0,e1,e2,e3,cs_nil _⟩) (Below.refl _ _)).drew (fun hHeld=>?_)
    refine tkIx 0 15 ?_
    refine tkIx 1 16 ?_
    refine tkIx 2 17 ?_
    refine tkIx 3 18 ?_
    refine tkIx 4 19 ?_
    refine tkIx 5 20 ?_
    refine tkIx 6 21 ?_
    refine tkIx 7 22 ?_
    refine tkIx 8 23 ?_
    refine tkIx 9 24 ?_
    refine tkIx 10 25 ?_
    refine tkIx 11 26 ?_
    refine tkIx 12 27 ?_
    refine tkIx 13 28 ?_
    refine tkNx 14 29 ?_
    refine tkNx 15 30 ?_
    refine tkNx 16 31 ?_
    refine tkNx 17 32 ?_
    refine tkNx 18 33 ?_
    refine tkNx 19 34 ?_
    refine tkNx 20 35 ?_
    refine tkNx 21 36 ?_
    refine tkNx 22 37 ?_
    refine tkNx 23 38 ?_
    refine tkNx 24 39 ?_
    refine tkNx 25 40 ?_
    refine tkIx 26 41 ?_
    refine wpAnyInH_done (by decide +kernel) ?_ _
    gi_wp2
    exact ⟨(keepsF_below (hbW.out.trans (hHeld.bel.mono hz2))).from _,KpS.below (hbW.out.trans (hHeld.bel.mono hz2)) (by omega) (by omega),b,hb.out,hIz.out.below hHeld.bel⟩
   ·have d1:=decide_eq_true h1
    have d2:=decide_eq_false h2
    have h5 : ¬ s.a.y < s.b.y:=by omega
    have d3:=decide_eq_false h5
    by_cases h3 : 0 < Cal.trn s q
    ·have d4:=decide_eq_true h3
     have hb : Hid (Cal.whereP ps q = Cal.whereFrom q (b) ((Cal.sds ps).drop (k + 1))):=by have h:=hb.out;rw [d1,d2,d3,d4] at h;exact h
     refine wpIn_region_held_drew (S:=Sx wn [(w.heap.size,0,.int .i64 q.x),(w.heap.size,1,.int .i64 q.y),(Bx,0,.int .i64 s.a.x),(Bx,1,.int .i64 s.a.y),(Bx,2,.int .i64 s.b.x),(Bx,3,.int .i64 s.b.y)]) (by kernel_rfl) (Sx.mk (by simp only [cs_iff_cons];exact ⟨c0,c1,e0,e1,e2,e3,cs_nil _⟩) (Below.refl _ _)).drew (fun hHeld=>?_)
     refine tkIx 0 15 ?_
     refine tkIx 1 16 ?_
     refine tkIx 2 17 ?_
     refine tkIx 3 18 ?_
     refine tkIx 4 19 ?_
     refine tkIx 5 20 ?_
     refine tkIx 6 21 ?_
     refine tkIx 7 22 ?_
     refine tkIx 8 23 ?_
     refine tkIx 9 24 ?_
     refine tkIx 10 25 ?_
     refine tkIx 11 26 ?_
     refine tkIx 12 27 ?_
     refine tkIx 13 28 ?_
     refine tkIx 14 29 ?_
     refine tkIx 15 30 ?_
     refine tkIx 18 33 ?_
     refine tkIx 19 34 ?_
     refine tkIx 20 35 ?_
     refine tkIx 21 36 ?_
     refine tkIx 22 37 ?_
     refine tkIx 23 38 ?_
     refine tkIx 24 39 ?_
     (refine ratI 16 (fun _=>trivial) (by decide +kernel) rfl (fun K hK=>?_);rw [if_pos (by kernel_rfl)];go_simp)
     refine ⟨trivial,?_⟩
     refine (callsIn_wide.2 (turn_any s q _ hsd hq)).mono ?_
     rintro e wn ⟨rfl,hbn⟩
     go_simp
     (refine hK.out _ _ (hHeld.step hbn) (fun hHeld=>?_);clear hK K;(try simp only [apS,apN,siA,scZ,scS]))
     refine tkIx 17 32 ?_
     refine tkIx 25 40 ?_
     refine tkIx 26 41 ?_
     refine wpAnyInH_done (by decide +kernel) ?_ _
     gi_wp2
     exact ⟨(keepsF_below (hbW.out.trans (hHeld.bel.mono hz2))).from _,KpS.below (hbW.out.trans (hHeld.bel.mono hz2)) (by omega) (by omega),b,hb.out,hIz.out.below hHeld.bel⟩
    ·have d4:=decide_eq_false h3
     have hb : Hid (Cal.whereP ps q = Cal.whereFrom q (!b) ((Cal.sds ps).drop (k + 1))):=by have h:=hb.out;rw [d1,d2,d3,d4] at h;exact h
     refine wpIn_region_held_drew (S:=Sx wn [(w.heap.size,0,.int .i64 q.x),(w.heap.size,1,.int .i64 q.y),(Bx,0,.int .i64 s.a.x),(Bx,1,.int .i64 s.a.y),(Bx,2,.int .i64 s.b.x),(Bx,3,.int .i64 s.b.y)]) (by kernel_rfl) (Sx.mk (by simp only [cs_iff_cons];exact ⟨c0,c1,e0,e1,e2,e3,cs_nil _⟩) (Below.refl _ _)).drew (fun hHeld=>?_)
     refine tkIx 0 15 ?_
     refine tkIx 1 16 ?_
     refine tkIx 2 17 ?_
     refine tkIx 3 18 ?_
     refine tkIx 4 19 ?_
     refine tkIx 5 20 ?_
     refine tkIx 6 21 ?_
     refine tkIx 7 22 ?_
     refine tkIx 8 23 ?_
     refine tkIx 9 24 ?_
     refine tkIx 10 25 ?_
     refine tkIx 11 26 ?_
     refine tkIx 12 27 ?_
     refine tkIx 13 28 ?_
     refine tkIx 14 29 ?_
     refine tkIx 15 30 ?_
     refine tkIx 18 33 ?_
     refine tkIx 19 34 ?_
     refine tkIx 20 35 ?_
     refine tkIx 21 36 ?_
     refine tkIx 22 37 ?_
     refine tkIx 23 38 ?_
     refine tkIx 24 39 ?_
     (refine ratI 16 (fun _=>trivial) (by decide +kernel) rfl (fun K hK=>?_);rw [if_pos (by kernel_rfl)];go_simp)
     refine ⟨trivial,?_⟩
     refine (callsIn_wide.2 (turn_any s q _ hsd hq)).mono ?_
     rintro e wn ⟨rfl,hbn⟩
     go_simp
     (refine hK.out _ _ (hHeld.step hbn) (fun hHeld=>?_);clear hK K;(try simp only [apS,apN,siA,scZ,scS]))
     refine tkIx 17 32 ?_
     refine tkIx 25 40 ?_
     refine tkIx 26 41 ?_
     refine wpAnyInH_done (by decide +kernel) ?_ _
     have hJ:=Lib.hid (hIz.out.below hHeld.bel)
     have b0:=hJ.out.b.c 0 _ rfl
     have b1:=hJ.out.b.free 0 Nat.zero_lt_one
     gi_wp2
     exact ⟨((keepsF_below (hbW.out.trans (hHeld.bel.mono hz2))).trans (KeepsOthers.setCell _ _ _)).from _,(KpS.below (hbW.out.trans (hHeld.bel.mono hz2)) (by omega) (by omega)).trans (KpS.set _ (by omega) (by omega)),!b,hb.out,hJ.out.turn (!b)⟩
   ·have d1:=decide_eq_false h1
    have d2:=decide_eq_true h2
    have h5 : s.a.y < s.b.y:=by omega
    have d3:=decide_eq_true h5
    by_cases h3 : 0 < Cal.trn s q
    ·have d4:=decide_eq_true h3
     have hb : Hid (Cal.whereP ps q = Cal.whereFrom q (!b) ((Cal.sds ps).drop (k + 1))):=by have h:=hb.out;rw [d1,d2,d3,d4] at h;exact h
     refine wpIn_region_held_drew (S:=Sx wn [(w.heap.size,0,.int .i64 q.x),(w.heap.size,1,.int .i64 q.y),(Bx,0,.int .i64 s.a.x),(Bx,1,.int .i64 s.a.y),(Bx,2,.int .i64 s.b.x),(Bx,3,.int .i64 s.b.y)]) (by kernel_rfl) (Sx.mk (by simp only [cs_iff_cons];exact ⟨c0,c1,e0,e1,e2,e3,cs_nil _⟩) (Below.refl _ _)).drew (fun hHeld=>?_)
     refine tkIx 0 15 ?_
     refine tkIx 1 16 ?_
     refine tkIx 2 17 ?_
     refine tkIx 3 18 ?_
     refine tkIx 4 19 ?_
     refine tkIx 5 20 ?_
     refine tkIx 6 21 ?_
     refine tkIx 7 22 ?_
     refine tkIx 8 23 ?_
     refine tkIx 9 24 ?_
     refine tkIx 10 25 ?_
     refine tkIx 11 26 ?_
     refine tkIx 12 27 ?_
     refine tkIx 13 28 ?_
     refine tkIx 14 29 ?_
     refine tkIx 15 30 ?_
     refine tkIx 18 33 ?_
     refine tkIx 19 34 ?_
     refine tkIx 20 35 ?_
     refine tkIx 21 36 ?_
     refine tkIx 22 37 ?_
     refine tkIx 23 38 ?_
     refine tkIx 24 39 ?_
     (refine ratI 16 (fun _=>trivial) (by decide +kernel) rfl (fun K hK=>?_);rw [if_pos (by kernel_rfl)];go_simp)
     refine ⟨trivial,?_⟩
     refine (callsIn_wide.2 (turn_any s q _ hsd hq)).mono ?_
     rintro e wn ⟨rfl,hbn⟩
     go_simp
     (refine hK.out _ _ (hHeld.step hbn) (fun hHeld=>?_);clear hK K;(try simp only [apS,apN,siA,scZ,scS]))
     refine tkIx 17 32 ?_
     refine tkIx 25 40 ?_
     refine tkIx 26 41 ?_
     refine wpAnyInH_done (by decide +kernel) ?_ _
     have hJ:=Lib.hid (hIz.out.below hHeld.bel)
     have b0:=hJ.out.b.c 0 _ rfl
     have b1:=hJ.out.b.free 0 Nat.zero_lt_one
     gi_wp2
     exact ⟨((keepsF_below (hbW.out.trans (hHeld.bel.mono hz2))).trans (KeepsOthers.setCell _ _ _)).from _,(KpS.below (hbW.out.trans (hHeld.bel.mono hz2)) (by omega) (by omega)).trans (KpS.set _ (by omega) (by omega)),!b,hb.out,hJ.out.turn (!b)⟩
    ·have d4:=decide_eq_false h3
     have hb : Hid (Cal.whereP ps q = Cal.whereFrom q (b) ((Cal.sds ps).drop (k + 1))):=by have h:=hb.out;rw [d1,d2,d3,d4] at h;exact h
     refine wpIn_region_held_drew (S:=Sx wn [(w.heap.size,0,.int .i64 q.x),(w.heap.size,1,.int .i64 q.y),(Bx,0,.int .i64 s.a.x),(Bx,1,.int .i64 s.a.y),(Bx,2,.int .i64 s.b.x),(Bx,3,.int .i64 s.b.y)]) (by kernel_rfl) (Sx.mk (by simp only [cs_iff_cons];exact ⟨c0,c1,e0,e1,e2,e3,cs_nil _⟩) (Below.refl _ _)).drew (fun hHeld=>?_)
     refine tkIx 0 15 ?_
     refine tkIx 1 16 ?_
     refine tkIx 2 17 ?_
     refine tkIx 3 18 ?_
     refine tkIx 4 19 ?_
     refine tkIx 5 20 ?_
     refine tkIx 6 21 ?_
     refine tkIx 7 22 ?_
     refine tkIx 8 23 ?_
     refine tkIx 9 24 ?_
     refine tkIx 10 25 ?_
     refine tkIx 11 26 ?_
     refine tkIx 12 27 ?_
     refine tkIx 13 28 ?_
     refine tkIx 14 29 ?_
     refine tkIx 15 30 ?_
     refine tkIx 18 33 ?_
     refine tkIx 19 34 ?_
     refine tkIx 20 35 ?_
     refine tkIx 21 36 ?_
     refine tkIx 22 37 ?_
     refine tkIx 23 38 ?_
     refine tkIx 24 39 ?_
     (refine ratI 16 (fun _=>trivial) (by decide +kernel) rfl (fun K hK=>?_);rw [if_pos (by kernel_rfl)];go_simp)
     refine ⟨trivial,?_⟩
     refine (callsIn_wide.2 (turn_any s q _ hsd hq)).mono ?_
     rintro e wn ⟨rfl,hbn⟩
     go_simp
     (refine hK.out _ _ (hHeld.step hbn) (fun hHeld=>?_);clear hK K;(try simp only [apS,apN,siA,scZ,scS]))
     refine tkIx 17 32 ?_
     refine tkIx 25 40 ?_
     refine tkIx 26 41 ?_
     refine wpAnyInH_done (by decide +kernel) ?_ _
     gi_wp2
     exact ⟨(keepsF_below (hbW.out.trans (hHeld.bel.mono hz2))).from _,KpS.below (hbW.out.trans (hHeld.bel.mono hz2)) (by omega) (by omega),b,hb.out,hIz.out.below hHeld.bel⟩
   ·have hb : Hid (Cal.whereP ps q = Cal.whereFrom q b ((Cal.sds ps).drop (k + 1))):=by have h:=hb.out;rw [decide_eq_false h1,decide_eq_false h2] at h;exact h
    have d1:=decide_eq_false h1
    have d2:=decide_eq_false h2
    refine wpIn_region_held_drew (S:=Sx wn [(w.heap.size,0,.int .i64 q.x),(w.heap.size,1,.int .i64 q.y),(Bx,0,.int .i64 s.a.x),(Bx,1,.int .i64 s.a.y),(Bx,2,.int .i64 s.b.x),(Bx,3,.int .i64 s.b.y)]) (by kernel_rfl) (Sx.mk (by simp only [cs_iff_cons];exact ⟨c0,c1,e0,e1,e2,e3,cs_nil _⟩) (Below.refl _ _)).drew (fun hHeld=>?_)
    refine tkIx 0 15 ?_
    refine tkIx 1 16 ?_
    refine tkIx 2 17 ?_
    refine tkIx 3 18 ?_
    refine tkIx 4 19 ?_
    refine tkIx 5 20 ?_
    refine tkIx 6 21 ?_
    refine tkIx 7 22 ?_
    refine tkIx 8 23 ?_
    refine tkIx 9 24 ?_
    refine tkIx 10 25 ?_
    refine tkIx 11 26 ?_
    refine tkIx 12 27 ?_
    refine tkIx 13 28 ?_
    refine tkNx 14 29 ?_
    refine tkNx 15 30 ?_
    refine tkNx 16 31 ?_
    refine tkNx 17 32 ?_
    refine tkNx 18 33 ?_
    refine tkNx 19 34 ?_
    refine tkNx 20 35 ?_
    refine tkNx 21 36 ?_
    refine tkNx 22 37 ?_
    refine tkNx 23 38 ?_
    refine tkNx 24 39 ?_
    refine tkNx 25 40 ?_
    refine tkIx 26 41 ?_
    refine wpAnyInH_done (by decide +kernel) ?_ _
    gi_wp2
    exact ⟨(keepsF_below (hbW.out.trans (hHeld.bel.mono hz2))).from _,KpS.below (hbW.out.trans (hHeld.bel.mono hz2)) (by omega) (by omega),b,hb.out,hIz.out.below hHeld.bel⟩
  ·rw [if_pos rfl] at hb
   have hb:=Lib.hid hb
   gi_wp2_with (refine ⟨trivial,?_⟩;gi_at_call 80;refine (callsIn_wide.2 (has_any s q _ hsd hq)).mono ?_;rintro e wn ⟨rfl,hbn⟩;rw [hht.out];(have hIz:=Lib.hid (hIz.out.below hbn);have bXz:=Lib.hid (bXz.out.below hbn);have hbW:=Lib.hid hbn;clear hbn c0 c1 e0 e1 e2 e3;have c0:=hIz.out.q.c 0 _ rfl;have c1:=hIz.out.q.c 1 _ rfl;have e0:=bXz.out.c 0 _ rfl;have e1:=bXz.out.c 1 _ rfl;have e2:=bXz.out.c 2 _ rfl;have e3:=bXz.out.c 3 _ rfl;obtain ⟨rv,hrv⟩:=hIz.out.r;have r0:=hrv.c 0 _ rfl;have r1:=hrv.free 0 Nat.zero_lt_one;have hrv:=Lib.hid hrv;have b0:=hIz.out.b.c 0 _ rfl;have b1:=hIz.out.b.free 0 Nat.zero_lt_one))
   exact ⟨((keepsF_below hbW.out).trans (KeepsOthers.setCell _ _ _)).from _,(KpS.below hbW.out (by omega) (by omega)).trans (KpS.set _ (by omega) (by omega)),rfl,hb.out,hrv.out.set 0 _ Nat.zero_lt_one,hIz.out.bel.setCell (p:=⟨w.heap.size + 1,0,none⟩) (Nat.le_succ _) _⟩
 case done =>
  rintro D W hD ⟨b,hb,hI⟩ hK
  have hd : (Cal.sds ps).drop ps.length = []:=by unfold Cal.sds;simp
  rw [hd] at hb
  have c0:=hI.b.c 0 _ rfl
  obtain ⟨v,hr⟩:=hI.r
  have r0:=hr.c 0 _ rfl
  have r1:=hr.free 0 Nat.zero_lt_one
  have hAll:=Lib.hid (And.intro hb (And.intro hI (And.intro hK hr)))
  clear hb hI hK hr
  cases b
  ·gi_wp2
   obtain ⟨hb,hI,hK,hr⟩:=hAll.out
   have hr1:=hr.set 0 (.int .i64 (-1)) Nat.zero_lt_one
   have hK':=(KeepsOthers.setCell W ⟨w.heap.size + 1,0,none⟩ (.int .i64 (-1))).same D _ hK rfl
   have ho' : Others (W.setCell ⟨w.heap.size + 1,0,none⟩ (.int .i64 (-1))) (some D):=fun r e=>by cases e;exact ⟨_,hK',rfl⟩
   refine ⟨by simp,.inl ⟨_,_,rfl,run_takeDeferred hK',?_⟩⟩
   have q5:=(hr1.keptF (grownBy_putObj' _ D (.deferred none)) ho').c 0 _ rfl
   exact ⟨_,results_c1 rfl _ _ ⟨w.heap.size + 1,0,none⟩ (.int .i64 (-1)) rfl (by simp [loadVar,go_sem,q5]),by rw [hb];rfl,belowF_put (hI.bel.setCell (p:=⟨w.heap.size + 1,0,none⟩) (Nat.le_succ _) _) (by omega) _⟩
  ·gi_wp2
   obtain ⟨hb,hI,hK,hr⟩:=hAll.out
   have hr1:=hr.set 0 (.int .i64 (1)) Nat.zero_lt_one
   have hK':=(KeepsOthers.setCell W ⟨w.heap.size + 1,0,none⟩ (.int .i64 (1))).same D _ hK rfl
   have ho' : Others (W.setCell ⟨w.heap.size + 1,0,none⟩ (.int .i64 (1))) (some D):=fun r e=>by cases e;exact ⟨_,hK',rfl⟩
   refine ⟨by simp,.inl ⟨_,_,rfl,run_takeDeferred hK',?_⟩⟩
   have q5:=(hr1.keptF (grownBy_putObj' _ D (.deferred none)) ho').c 0 _ rfl
   exact ⟨_,results_c1 rfl _ _ ⟨w.heap.size + 1,0,none⟩ (.int .i64 (1)) rfl (by simp [loadVar,go_sem,q5]),by rw [hb];rfl,belowF_put (hI.bel.setCell (p:=⟨w.heap.size + 1,0,none⟩) (Nat.le_succ _) _) (by omega) _⟩
 case stop =>
  rintro D c k W hD hk ⟨rfl,h0,hR,hB⟩ hK
  have hAll:=Lib.hid (And.intro h0 (And.intro hR (And.intro hB hK)))
  clear h0 hR hB hK
  gi_wp2
  obtain ⟨h0,hR,hB,hK⟩:=hAll.out
  have ho' : Others W (some D):=fun r e=>by cases e;exact ⟨_,hK,rfl⟩
  refine ⟨by simp,.inl ⟨_,_,rfl,run_takeDeferred hK,?_⟩⟩
  have q5:=(hR.keptF (grownBy_putObj' W D (.deferred none)) ho').c 0 _ rfl
  exact ⟨_,results_c1 rfl _ _ ⟨w.heap.size + 1,0,none⟩ (.int .i64 0) rfl (by simp [loadVar,go_sem,q5]),by rw [h0],belowF_put hB (by omega) _⟩
end Go.Proofs.Ythfokpchdlcidaa
