/- What the statements rest on: definitions and walks, part 10. -/
import Derived.Test.YtfcjeejhdklkdaaJ09
namespace Go.Proofs.Ytfcjeejhdklkdaa
open Go Go.RowKit Go.Shelf
attribute [local go_sem] Oper.semAt_some
/-- A list of points lies in memory, with coordinates far from the end of what a number holds. -/
structure Pts (w : World) (V : Option Addr) (ps : List Pt) : Prop where
  rows : RowsAt w V 2 (ps.map ptR)
  size : ps.length ≤ 1000000
  sm : ∀ p ∈ ps, SmP p
  own : ∀ ad, V = some ad → 0 < ps.length → ad.block < w.heap.size
theorem Pts.below {w w' : World} {V : Option Addr} {ps : List Pt} (h : Pts w V ps) (hb : Below w.heap.size w w') : Pts w' V ps :=
  ⟨h.rows.below hb, h.size, h.sm, fun ad e hl => Nat.lt_of_lt_of_le (h.own ad e hl) hb.size⟩
theorem Pts.sd {w : World} {V : Option Addr} {ps : List Pt} (h : Pts w V ps) (k : Nat) (hk : k < ps.length) : SmS (Cal.sd ps k) := by
  have hmod : (k + 1) % ps.length < ps.length := Nat.mod_lt _ (by omega)
  rw [sd_of (List.getElem?_eq_getElem hk) (List.getElem?_eq_getElem hmod)]
  exact ⟨h.sm _ (List.getElem_mem _), h.sm _ (List.getElem_mem _)⟩
theorem kpS_put {n₀ Bs B : Nat} (hB : Bs < B) (hn : n₀ ≤ B) (W : World) (l : Nat) (o o' : Obj) (hl : B ≤ l) (ho : W.heap[l]? = some o) (x : Nat) : KpS n₀ Bs x W (W.putObj l o') :=
  ⟨(Below.refl _ _).grown (grownBy_putObj' W l o') (by have := (Array.getElem?_eq_some_iff.1 ho).1; omega) (fun k e => by cases e; omega), World.putObj_heap_other (by omega)⟩
theorem KpS.below {n₀ Bs x : Nat} {X Y : World} (h : Below X.heap.size X Y) (hn : n₀ ≤ X.heap.size) (hB : Bs < X.heap.size) : KpS n₀ Bs x X Y := ⟨h.mono hn, h.block Bs hB⟩
theorem KpS.set {n₀ Bs x : Nat} {X : World} {b o : Nat} (v : Value) (hn : n₀ ≤ b) (hB : Bs ≠ b) : KpS n₀ Bs x X (X.setCell ⟨b, o, none⟩ v) :=
  ⟨(Below.refl _ _).setCell (p := ⟨b, o, none⟩) hn v, Below.heap_setCell X ⟨b, o, none⟩ v Bs hB⟩
theorem kpM_put {M Bs B : Nat} (hB : Bs < B) (hM : M < B) (W : World) (l : Nat) (o' : Obj) (hl : B ≤ l) (x : Nat) : KpM M Bs x W (W.putObj l o') :=
  ⟨⟨World.putObj_heap_other (by omega), World.putObj_heap_other (by omega)⟩, by simp⟩
theorem abG_keep (x : Nat) (X Y : World) (k : Nat) (o : Obj) (h : AbG x X Y) (hk : X.heap[k]? = some o) : Y.heap[k]? = some o := by
  rw [World.grownBy.block h k (Array.getElem?_eq_some_iff.1 hk).1 (by simp)]; exact hk
theorem own_abG {β : Type} {B : Nat} {I : β → World → Prop} (hI : OwnFrom B I) (x : Nat) (k : β) (X Y : World) (h : I k X) (hg : AbG x X Y) : I k Y := hI k X Y none h hg (fun r e => by cases e)
section
variable {n : Nat} {g : Operand} {qs : Array Tmp} {assign body : Code} {Q : Exit → Act → World → Prop} {a : Act} {w : World} {Bs n₀ : Nat} {V : Option Addr} {d : Nat} {ps : List Pt}
theorem wpIn_range_sides (h1 : 2 ≤ n) (hg : a.eval g = .func (.func 109) #[] #[.pointer (some ⟨Bs, 0, none⟩)]) (hq : qs.size = 2)
    (hBs : w.cell? ⟨Bs, 0, none⟩ = some (.slice V ps.length d)) (hBw : Bs < w.heap.size) (hP : Pts w V ps) (hn : n₀ ≤ w.heap.size) (hVn : ∀ ad, V = some ad → 0 < ps.length → ad.block < n₀)
    (I : Nat → World → Prop) (Ix : Code → Nat → World → Prop) (hI : OwnFrom w.heap.size I) (hIx : ∀ c, OwnFrom w.heap.size (Ix c)) (h0 : I 0 w)
    (Ax : Nat × Sd → Act → World → Prop) (hAx : ∀ x a', OwnFrom w.heap.size (fun (_ : Unit) W => Ax x a' W))
    (hassign : ∀ (l : Nat) (k : Nat) (W : World) (K : Act → World → Prop), k < ps.length → I k W → (∀ a' W', KeepsFrom w.heap.size W W' → KpS n₀ Bs (w.heap.size + 1 + 1) W W' → I k W' → Ax (k, Cal.sd ps k) a' W' → K a' W') →
      assign.wpIn (Fence.wide.inRound l) (n - 1 - 1) Try.prog (Exit.then K (fun _ _ _ => False)) { tmps := (qs.zip #[.int .i64 (k : Int), .agg #[.int .i64 (Cal.sd ps k).a.x, .int .i64 (Cal.sd ps k).a.y, .int .i64 (Cal.sd ps k).b.x, .int .i64 (Cal.sd ps k).b.y]]).foldl (fun t (p, v) => t.setIfInBounds p v) a.tmps, defers := [] } W)
    (hbody : ∀ (l : Nat) (k : Nat) (a' : Act) (W : World), w.heap.size ≤ l → (∃ r, W.heap[l]? = some (.loop r)) → k < ps.length → I k W → Ax (k, Cal.sd ps k) a' W → body.wpIn (Fence.wide.inRound l) (n - 1 - 1) Try.prog (ixPost w.heap.size (KpS n₀ Bs (w.heap.size + 1 + 1)) (I (k + 1)) (fun c => Ix c k) W) a' W)
    (hdone : ∀ (D : Nat) (W : World), w.heap.size ≤ D → I ps.length W → W.heap[D]? = some (.deferred (some [])) → Q .normal { a with defers := { target := .collected D, args := #[] } :: a.defers } W)
    (hstop : ∀ (D : Nat) (c : Code) (k : Nat) (W : World), w.heap.size ≤ D → k < ps.length → Ix c k W → W.heap[D]? = some (.deferred (some [])) → c.wpIn Fence.wide n Try.prog Q { a with defers := { target := .collected D, args := #[] } :: a.defers } W) :
    (Code.rangeFunc g qs assign body).wpIn Fence.wide n Try.prog Q a w := by
  have at_ : ∀ {k : Nat} {x : Nat × Sd}, (sdsI ps)[k]? = some x → k < ps.length ∧ x = (k, Cal.sd ps k) := fun {k x} h => by
    have hk : k < ps.length := by have := (List.getElem?_eq_some_iff.1 h).1; rwa [sdsI_length] at this
    rw [sdsI_at hk] at h
    exact ⟨hk, (Option.some.inj h).symm⟩
  refine wpIn_rangeFunc_ix rfl (by omega) hg trivial (enters_of Try.func109 (by kernel_rfl) rfl)
    (sides_ix (n - 1) (by omega) Bs n₀ V d ps w hBs hBw hP.rows hVn hn hP.size) (fun X Y k o hab _ hk _ => abG_keep _ X Y k o hab hk) KpS.trans
    (fun W l o o' hl _ ho _ _ => kpS_put hBw hn W l o o' hl ho _) (Below.refl _ _) (fun x => hq.symm ▸ rfl) I Ix hI hIx (fun k X Y h hab => own_abG hI _ k X Y h hab) (fun c k X Y h hab => own_abG (hIx c) _ k X Y h hab) h0 Ax hAx
    (fun l k x W K hx hi hK => ?_) (fun l k x a' W hl hr hx hi hax => ?_) (fun D W hD hi hdd => ?_) (fun D c k W hD hk hi hdd => ?_)
  · obtain ⟨hk, rfl⟩ := at_ hx
    exact hassign l k W K hk hi hK
  · obtain ⟨hk, rfl⟩ := at_ hx
    exact hbody l k a' W hl hr hk hi hax
  · rw [sdsI_length] at hi
    exact hdone D W hD hi hdd
  · rw [sdsI_length] at hk
    exact hstop D c k W hD hk hi hdd
theorem wpIn_range_sidesN {l₀ : Nat} {r₀ : Loop} (hl₀ : w.heap[l₀]? = some (.loop r₀)) (h1 : 2 ≤ n) (hg : a.eval g = .func (.func 109) #[] #[.pointer (some ⟨Bs, 0, none⟩)]) (hq : qs.size = 2)
    (hBs : w.cell? ⟨Bs, 0, none⟩ = some (.slice V ps.length d)) (hBw : Bs < w.heap.size) (hP : Pts w V ps) (hn : n₀ ≤ w.heap.size) (hVn : ∀ ad, V = some ad → 0 < ps.length → ad.block < n₀)
    (I : Nat → World → Prop) (Ix : Code → Nat → World → Prop) (hI : OwnFrom w.heap.size I) (hIx : ∀ c, OwnFrom w.heap.size (Ix c)) (h0 : I 0 w)
    (Ax : Nat × Sd → Act → World → Prop) (hAx : ∀ x a', OwnFrom w.heap.size (fun (_ : Unit) W => Ax x a' W))
    (hassign : ∀ (l : Nat) (k : Nat) (W : World) (K : Act → World → Prop), k < ps.length → I k W → (∀ a' W', KeepsFrom w.heap.size W W' → KpS n₀ Bs (w.heap.size + 1) W W' → I k W' → Ax (k, Cal.sd ps k) a' W' → K a' W') →
      assign.wpIn ((Fence.wide.inRound l₀).inRound l) (n - 1 - 1) Try.prog (Exit.then K (fun _ _ _ => False)) { tmps := (qs.zip #[.int .i64 (k : Int), .agg #[.int .i64 (Cal.sd ps k).a.x, .int .i64 (Cal.sd ps k).a.y, .int .i64 (Cal.sd ps k).b.x, .int .i64 (Cal.sd ps k).b.y]]).foldl (fun t (p, v) => t.setIfInBounds p v) a.tmps, defers := [] } W)
    (hbody : ∀ (l : Nat) (k : Nat) (a' : Act) (W : World), w.heap.size ≤ l → (∃ r, W.heap[l]? = some (.loop r)) → k < ps.length → I k W → Ax (k, Cal.sd ps k) a' W → body.wpIn ((Fence.wide.inRound l₀).inRound l) (n - 1 - 1) Try.prog (ixPost w.heap.size (KpS n₀ Bs (w.heap.size + 1)) (I (k + 1)) (fun c => Ix c k) W) a' W)
    (hdone : ∀ (W : World), I ps.length W → Q .normal a W)
    (hstop : ∀ (c : Code) (k : Nat) (W : World), k < ps.length → Ix c k W → c.wpIn (Fence.wide.inRound l₀) n Try.prog Q a W) :
    (Code.rangeFunc g qs assign body).wpIn (Fence.wide.inRound l₀) n Try.prog Q a w := by
  have at_ : ∀ {k : Nat} {x : Nat × Sd}, (sdsI ps)[k]? = some x → k < ps.length ∧ x = (k, Cal.sd ps k) := fun {k x} h => by
    have hk : k < ps.length := by have := (List.getElem?_eq_some_iff.1 h).1; rwa [sdsI_length] at this
    rw [sdsI_at hk] at h
    exact ⟨hk, (Option.some.inj h).symm⟩
  refine wpIn_rangeFunc_ixN (l₀ := l₀) (r₀ := r₀) rfl hl₀ (by omega) hg trivial (enters_of Try.func109 (by kernel_rfl) rfl)
    ((sides_ix (n - 1) (by omega) Bs n₀ V d ps w hBs hBw hP.rows hVn hn hP.size).inRound l₀) (fun X Y k o hab _ hk _ => abG_keep _ X Y k o hab hk) KpS.trans
    (fun W l o o' hl _ ho _ _ => kpS_put hBw hn W l o o' hl ho _) (Below.refl _ _) (fun x => hq.symm ▸ rfl) I Ix hI hIx (fun k X Y h hab => own_abG hI _ k X Y h hab) (fun c k X Y h hab => own_abG (hIx c) _ k X Y h hab) h0 Ax hAx
    (fun l k x W K hx hi hK => ?_) (fun l k x a' W hl hr hx hi hax => ?_) (fun W hi => ?_) (fun c k W hk hi => ?_)
  · obtain ⟨hk, rfl⟩ := at_ hx
    exact hassign l k W K hk hi hK
  · obtain ⟨hk, rfl⟩ := at_ hx
    exact hbody l k a' W hl hr hk hi hax
  · rw [sdsI_length] at hi
    exact hdone W hi
  · rw [sdsI_length] at hk
    exact hstop c k W hk hi
/-- The same, where each round boxes its side; what a round begins with is said by Af. -/
theorem wpIn_sides1 (h1 : 2 ≤ n) (hg : a.eval g = .func (.func 109) #[] #[.pointer (some ⟨Bs, 0, none⟩)]) (hq : qs.size = 2)
    (hBs : w.cell? ⟨Bs, 0, none⟩ = some (.slice V ps.length d)) (hBw : Bs < w.heap.size) (hP : Pts w V ps) (hn : n₀ ≤ w.heap.size) (hVn : ∀ ad, V = some ad → 0 < ps.length → ad.block < n₀)
    (I : Nat → World → Prop) (Ix : Code → Nat → World → Prop) (hI : OwnFrom w.heap.size I) (hIx : ∀ c, OwnFrom w.heap.size (Ix c)) (h0 : I 0 w)
    (Af : Array Value → Nat → Sd → Nat → Array Value)
    (hassign : ∀ (l : Nat) (k : Nat) (W : World) (K : Act → World → Prop), k < ps.length → I k W → (∀ By W', w.heap.size ≤ By → KeepsFrom w.heap.size W W' → KpS n₀ Bs (w.heap.size + 1 + 1) W W' → I k W' → BoxAt W' By [.int .i64 (Cal.sd ps k).a.x, .int .i64 (Cal.sd ps k).a.y, .int .i64 (Cal.sd ps k).b.x, .int .i64 (Cal.sd ps k).b.y] → K { tmps := Af a.tmps k (Cal.sd ps k) By, defers := [] } W') →
      assign.wpIn (Fence.wide.inRound l) (n - 1 - 1) Try.prog (Exit.then K (fun _ _ _ => False)) { tmps := (qs.zip #[.int .i64 (k : Int), .agg #[.int .i64 (Cal.sd ps k).a.x, .int .i64 (Cal.sd ps k).a.y, .int .i64 (Cal.sd ps k).b.x, .int .i64 (Cal.sd ps k).b.y]]).foldl (fun t (p, v) => t.setIfInBounds p v) a.tmps, defers := [] } W)
    (hbody : ∀ (l : Nat) (k : Nat) (By : Nat) (W : World), w.heap.size ≤ l → (∃ r, W.heap[l]? = some (.loop r)) → k < ps.length → I k W → w.heap.size ≤ By → BoxAt W By [.int .i64 (Cal.sd ps k).a.x, .int .i64 (Cal.sd ps k).a.y, .int .i64 (Cal.sd ps k).b.x, .int .i64 (Cal.sd ps k).b.y] → body.wpIn (Fence.wide.inRound l) (n - 1 - 1) Try.prog (ixPost w.heap.size (KpS n₀ Bs (w.heap.size + 1 + 1)) (I (k + 1)) (fun c => Ix c k) W) { tmps := Af a.tmps k (Cal.sd ps k) By, defers := [] } W)
    (hdone : ∀ (D : Nat) (W : World), w.heap.size ≤ D → I ps.length W → W.heap[D]? = some (.deferred (some [])) → Q .normal { a with defers := { target := .collected D, args := #[] } :: a.defers } W)
    (hstop : ∀ (D : Nat) (c : Code) (k : Nat) (W : World), w.heap.size ≤ D → k < ps.length → Ix c k W → W.heap[D]? = some (.deferred (some [])) → c.wpIn Fence.wide n Try.prog Q { a with defers := { target := .collected D, args := #[] } :: a.defers } W) :
    (Code.rangeFunc g qs assign body).wpIn Fence.wide n Try.prog Q a w :=
  wpIn_range_sides h1 hg hq hBs hBw hP hn hVn I Ix hI hIx h0
    (fun x a' W => ∃ By, w.heap.size ≤ By ∧ BoxAt W By [.int .i64 x.2.a.x, .int .i64 x.2.a.y, .int .i64 x.2.b.x, .int .i64 x.2.b.y] ∧ a' = { tmps := Af a.tmps x.1 x.2 By, defers := [] })
    (fun x a' _ X Y row hs hg hr => by obtain ⟨By, e1, e2, e3⟩ := hs; exact ⟨By, e1, e2.keptF hg (fun r e => (hr r e).2), e3⟩)
    (fun l k W K hk hi hK => hassign l k W K hk hi (fun By W' h1 h2 h3 h4 h5 => hK _ _ h2 h3 h4 ⟨By, h1, h5, rfl⟩))
    (fun l k a' W hl hr hk hi hax => by obtain ⟨By, h1, h2, rfl⟩ := hax; exact hbody l k By W hl hr hk hi h1 h2) hdone hstop
/-- The same, where each round boxes its side; what a round begins with is said by Af. -/
theorem wpIn_sides1N {l₀ : Nat} {r₀ : Loop} (hl₀ : w.heap[l₀]? = some (.loop r₀)) (h1 : 2 ≤ n) (hg : a.eval g = .func (.func 109) #[] #[.pointer (some ⟨Bs, 0, none⟩)]) (hq : qs.size = 2)
    (hBs : w.cell? ⟨Bs, 0, none⟩ = some (.slice V ps.length d)) (hBw : Bs < w.heap.size) (hP : Pts w V ps) (hn : n₀ ≤ w.heap.size) (hVn : ∀ ad, V = some ad → 0 < ps.length → ad.block < n₀)
    (I : Nat → World → Prop) (Ix : Code → Nat → World → Prop) (hI : OwnFrom w.heap.size I) (hIx : ∀ c, OwnFrom w.heap.size (Ix c)) (h0 : I 0 w)
    (Af : Array Value → Nat → Sd → Nat → Array Value)
    (hassign : ∀ (l : Nat) (k : Nat) (W : World) (K : Act → World → Prop), k < ps.length → I k W → (∀ By W', w.heap.size ≤ By → KeepsFrom w.heap.size W W' → KpS n₀ Bs (w.heap.size + 1) W W' → I k W' → BoxAt W' By [.int .i64 (Cal.sd ps k).a.x, .int .i64 (Cal.sd ps k).a.y, .int .i64 (Cal.sd ps k).b.x, .int .i64 (Cal.sd ps k).b.y] → K { tmps := Af a.tmps k (Cal.sd ps k) By, defers := [] } W') →
      assign.wpIn ((Fence.wide.inRound l₀).inRound l) (n - 1 - 1) Try.prog (Exit.then K (fun _ _ _ => False)) { tmps := (qs.zip #[.int .i64 (k : Int), .agg #[.int .i64 (Cal.sd ps k).a.x, .int .i64 (Cal.sd ps k).a.y, .int .i64 (Cal.sd ps k).b.x, .int .i64 (Cal.sd ps k).b.y]]).foldl (fun t (p, v) => t.setIfInBounds p v) a.tmps, defers := [] } W)
    (hbody : ∀ (l : Nat) (k : Nat) (By : Nat) (W : World), w.heap.size ≤ l → (∃ r, W.heap[l]? = some (.loop r)) → k < ps.length → I k W → w.heap.size ≤ By → BoxAt W By [.int .i64 (Cal.sd ps k).a.x, .int .i64 (Cal.sd ps k).a.y, .int .i64 (Cal.sd ps k).b.x, .int .i64 (Cal.sd ps k).b.y] → body.wpIn ((Fence.wide.inRound l₀).inRound l) (n - 1 - 1) Try.prog (ixPost w.heap.size (KpS n₀ Bs (w.heap.size + 1)) (I (k + 1)) (fun c => Ix c k) W) { tmps := Af a.tmps k (Cal.sd ps k) By, defers := [] } W)
    (hdone : ∀ (W : World), I ps.length W → Q .normal a W)
    (hstop : ∀ (c : Code) (k : Nat) (W : World), k < ps.length → Ix c k W → c.wpIn (Fence.wide.inRound l₀) n Try.prog Q a W) :
    (Code.rangeFunc g qs assign body).wpIn (Fence.wide.inRound l₀) n Try.prog Q a w :=
  wpIn_range_sidesN hl₀ h1 hg hq hBs hBw hP hn hVn I Ix hI hIx h0
    (fun x a' W => ∃ By, w.heap.size ≤ By ∧ BoxAt W By [.int .i64 x.2.a.x, .int .i64 x.2.a.y, .int .i64 x.2.b.x, .int .i64 x.2.b.y] ∧ a' = { tmps := Af a.tmps x.1 x.2 By, defers := [] })
    (fun x a' _ X Y row hs hg hr => by obtain ⟨By, e1, e2, e3⟩ := hs; exact ⟨By, e1, e2.keptF hg (fun r e => (hr r e).2), e3⟩)
    (fun l k W K hk hi hK => hassign l k W K hk hi (fun By W' h1 h2 h3 h4 h5 => hK _ _ h2 h3 h4 ⟨By, h1, h5, rfl⟩))
    (fun l k a' W hl hr hk hi hax => by obtain ⟨By, h1, h2, rfl⟩ := hax; exact hbody l k By W hl hr hk hi h1 h2) hdone hstop
theorem wpIn_range_sidesNM {M ofs : Nat} {l₀ : Nat} {r₀ : Loop} (hl₀ : w.heap[l₀]? = some (.loop r₀)) (h1 : 2 ≤ n) (hg : a.eval g = .func (.func 109) #[] #[.pointer (some ⟨Bs, 0, none⟩)]) (hq : qs.size = 2)
    (hBs : w.cell? ⟨Bs, 0, none⟩ = some (.slice (some ⟨M, ofs, none⟩) ps.length d)) (hBw : Bs < w.heap.size) (hP : Pts w (some ⟨M, ofs, none⟩) ps) (hM : M < w.heap.size)
    (I : Nat → World → Prop) (Ix : Code → Nat → World → Prop) (hI : OwnFrom w.heap.size I) (hIx : ∀ c, OwnFrom w.heap.size (Ix c)) (h0 : I 0 w)
    (Ax : Nat × Sd → Act → World → Prop) (hAx : ∀ x a', OwnFrom w.heap.size (fun (_ : Unit) W => Ax x a' W))
    (hassign : ∀ (l : Nat) (k : Nat) (W : World) (K : Act → World → Prop), k < ps.length → I k W → (∀ a' W', KeepsFrom w.heap.size W W' → KpM M Bs (w.heap.size + 1) W W' → I k W' → Ax (k, Cal.sd ps k) a' W' → K a' W') →
      assign.wpIn ((Fence.wide.inRound l₀).inRound l) (n - 1 - 1) Try.prog (Exit.then K (fun _ _ _ => False)) { tmps := (qs.zip #[.int .i64 (k : Int), .agg #[.int .i64 (Cal.sd ps k).a.x, .int .i64 (Cal.sd ps k).a.y, .int .i64 (Cal.sd ps k).b.x, .int .i64 (Cal.sd ps k).b.y]]).foldl (fun t (p, v) => t.setIfInBounds p v) a.tmps, defers := [] } W)
    (hbody : ∀ (l : Nat) (k : Nat) (a' : Act) (W : World), w.heap.size ≤ l → (∃ r, W.heap[l]? = some (.loop r)) → k < ps.length → I k W → Ax (k, Cal.sd ps k) a' W → body.wpIn ((Fence.wide.inRound l₀).inRound l) (n - 1 - 1) Try.prog (ixPost w.heap.size (KpM M Bs (w.heap.size + 1)) (I (k + 1)) (fun c => Ix c k) W) a' W)
    (hdone : ∀ (W : World), I ps.length W → Q .normal a W)
    (hstop : ∀ (c : Code) (k : Nat) (W : World), k < ps.length → Ix c k W → c.wpIn (Fence.wide.inRound l₀) n Try.prog Q a W) :
    (Code.rangeFunc g qs assign body).wpIn (Fence.wide.inRound l₀) n Try.prog Q a w := by
  have at_ : ∀ {k : Nat} {x : Nat × Sd}, (sdsI ps)[k]? = some x → k < ps.length ∧ x = (k, Cal.sd ps k) := fun {k x} h => by
    have hk : k < ps.length := by have := (List.getElem?_eq_some_iff.1 h).1; rwa [sdsI_length] at this
    rw [sdsI_at hk] at h
    exact ⟨hk, (Option.some.inj h).symm⟩
  refine wpIn_rangeFunc_ixN (l₀ := l₀) (r₀ := r₀) rfl hl₀ (by omega) hg trivial (enters_of Try.func109 (by kernel_rfl) rfl)
    ((sides_gen (n - 1) (by omega) Bs (KpM M Bs) (some ⟨M, ofs, none⟩) d ps w (kpM_ok hBw hM) hBs hBw hP.rows hP.size).inRound l₀) (fun X Y k o hab _ hk _ => abG_keep _ X Y k o hab hk) KpM.trans
    (fun W l o o' hl _ ho _ _ => kpM_put hBw hM W l o' hl _) (Below.refl _ _) (fun x => hq.symm ▸ rfl) I Ix hI hIx (fun k X Y h hab => own_abG hI _ k X Y h hab) (fun c k X Y h hab => own_abG (hIx c) _ k X Y h hab) h0 Ax hAx
    (fun l k x W K hx hi hK => ?_) (fun l k x a' W hl hr hx hi hax => ?_) (fun W hi => ?_) (fun c k W hk hi => ?_)
  · obtain ⟨hk, rfl⟩ := at_ hx
    exact hassign l k W K hk hi hK
  · obtain ⟨hk, rfl⟩ := at_ hx
    exact hbody l k a' W hl hr hk hi hax
  · rw [sdsI_length] at hi
    exact hdone W hi
  · rw [sdsI_length] at hk
    exact hstop c k W hk hi
theorem wpIn_sides1NM {M ofs : Nat} {l₀ : Nat} {r₀ : Loop} (hl₀ : w.heap[l₀]? = some (.loop r₀)) (h1 : 2 ≤ n) (hg : a.eval g = .func (.func 109) #[] #[.pointer (some ⟨Bs, 0, none⟩)]) (hq : qs.size = 2)
    (hBs : w.cell? ⟨Bs, 0, none⟩ = some (.slice (some ⟨M, ofs, none⟩) ps.length d)) (hBw : Bs < w.heap.size) (hP : Pts w (some ⟨M, ofs, none⟩) ps) (hM : M < w.heap.size)
    (I : Nat → World → Prop) (Ix : Code → Nat → World → Prop) (hI : OwnFrom w.heap.size I) (hIx : ∀ c, OwnFrom w.heap.size (Ix c)) (h0 : I 0 w)
    (Af : Array Value → Nat → Sd → Nat → Array Value)
    (hassign : ∀ (l : Nat) (k : Nat) (W : World) (K : Act → World → Prop), k < ps.length → I k W → (∀ By W', w.heap.size ≤ By → KeepsFrom w.heap.size W W' → KpM M Bs (w.heap.size + 1) W W' → I k W' → BoxAt W' By [.int .i64 (Cal.sd ps k).a.x, .int .i64 (Cal.sd ps k).a.y, .int .i64 (Cal.sd ps k).b.x, .int .i64 (Cal.sd ps k).b.y] → K { tmps := Af a.tmps k (Cal.sd ps k) By, defers := [] } W') →
      assign.wpIn ((Fence.wide.inRound l₀).inRound l) (n - 1 - 1) Try.prog (Exit.then K (fun _ _ _ => False)) { tmps := (qs.zip #[.int .i64 (k : Int), .agg #[.int .i64 (Cal.sd ps k).a.x, .int .i64 (Cal.sd ps k).a.y, .int .i64 (Cal.sd ps k).b.x, .int .i64 (Cal.sd ps k).b.y]]).foldl (fun t (p, v) => t.setIfInBounds p v) a.tmps, defers := [] } W)
    (hbody : ∀ (l : Nat) (k : Nat) (By : Nat) (W : World), w.heap.size ≤ l → (∃ r, W.heap[l]? = some (.loop r)) → k < ps.length → I k W → w.heap.size ≤ By → BoxAt W By [.int .i64 (Cal.sd ps k).a.x, .int .i64 (Cal.sd ps k).a.y, .int .i64 (Cal.sd ps k).b.x, .int .i64 (Cal.sd ps k).b.y] → body.wpIn ((Fence.wide.inRound l₀).inRound l) (n - 1 - 1) Try.prog (ixPost w.heap.size (KpM M Bs (w.heap.size + 1)) (I (k + 1)) (fun c => Ix c k) W) { tmps := Af a.tmps k (Cal.sd ps k) By, defers := [] } W)
    (hdone : ∀ (W : World), I ps.length W → Q .normal a W)
    (hstop : ∀ (c : Code) (k : Nat) (W : World), k < ps.length → Ix c k W → c.wpIn (Fence.wide.inRound l₀) n Try.prog Q a W) :
    (Code.rangeFunc g qs assign body).wpIn (Fence.wide.inRound l₀) n Try.prog Q a w :=
  wpIn_range_sidesNM hl₀ h1 hg hq hBs hBw hP hM I Ix hI hIx h0
    (fun x a' W => ∃ By, w.heap.size ≤ By ∧ BoxAt W By [.int .i64 x.2.a.x, .int .i64 x.2.a.y, .int .i64 x.2.b.x, .int .i64 x.2.b.y] ∧ a' = { tmps := Af a.tmps x.1 x.2 By, defers := [] })
    (fun x a' _ X Y row hs hg hr => by obtain ⟨By, e1, e2, e3⟩ := hs; exact ⟨By, e1, e2.keptF hg (fun r e => (hr r e).2), e3⟩)
    (fun l k W K hk hi hK => hassign l k W K hk hi (fun By W' h1 h2 h3 h4 h5 => hK _ _ h2 h3 h4 ⟨By, h1, h5, rfl⟩))
    (fun l k a' W hl hr hk hi hax => by obtain ⟨By, h1, h2, rfl⟩ := hax; exact hbody l k By W hl hr hk hi h1 h2) hdone hstop
end
end Go.Proofs.Ytfcjeejhdklkdaa
namespace Go.Proofs.Ytfcjeejhdklkdaa
open Go Go.RowKit Go.Shelf
attribute [local go_sem] Oper.semAt_some
theorem SmP.box {p : Pt} (h : SmP p) : -4000000 ≤ p.x ∧ p.x ≤ 4000000 ∧ -4000000 ≤ p.y ∧ p.y ≤ 4000000 := by
  obtain ⟨h0, h1, h2, h3⟩ := h
  omega
theorem crossV_box {a b : Pt} (ha : SmP a) (hb : SmP b) : -2000000000000 ≤ a.x * b.y - a.y * b.x ∧ a.x * b.y - a.y * b.x ≤ 2000000000000 := by
  obtain ⟨a0, a1, a2, a3⟩ := ha
  obtain ⟨b0, b1, b2, b3⟩ := hb
  have h1 := mul_le_of (a := a.x) (b := b.y) (M := 1000000) (N := 1000000) a0 a1 b2 b3
  have h2 := mul_le_of (a := a.y) (b := b.x) (M := 1000000) (N := 1000000) a2 a3 b0 b1
  omega
theorem areaTo_box {w : World} {V : Option Addr} {ps : List Pt} (h : Pts w V ps) : ∀ k : Nat, k ≤ ps.length → -(2000000000000 * (k : Int)) ≤ Cal.areaTo ps k ∧ Cal.areaTo ps k ≤ 2000000000000 * (k : Int)
  | 0, _ => by simp [Cal.areaTo]
  | k + 1, hk => by
    have ih := areaTo_box h k (by omega)
    have hs := h.sd k (by omega)
    have := crossV_box hs.a hs.b
    unfold Cal.areaTo
    omega
def ArI (w : World) (ps : List Pt) (k : Nat) (W : World) : Prop := BoxAt W w.heap.size [.int .i64 (Cal.areaTo ps k)] ∧ Below w.heap.size w W ∧ w.heap.size + 2 ≤ W.heap.size
theorem arI_own (w : World) (ps : List Pt) (B : Nat) (hB : w.heap.size ≤ B) : OwnFrom B (ArI w ps) := fun pre X Y row hs hg hr => by
  obtain ⟨b, hb, hz⟩ := hs
  exact ⟨b.keptF hg (fun r e => (hr r e).2), ownFrom_below (β := Unit) (Nat.le_refl _) hB () X Y row hb hg hr, Nat.le_trans hz hg.size⟩
set_option maxRecDepth 100000 in
set_option maxHeartbeats 4000000 in
theorem area_any (V : Option Addr) (d : Nat) (ps : List Pt) (w : World) (hP : Pts w V ps) :
    Calls Try.prog 76 #[.slice V ps.length d] w fun e w' => e = .returned (.int .i64 (Cal.areaP ps)) ∧ Below w.heap.size w w' := by
  refine (callsIn_wide (n := 4)).1 ?_
  refine callsIn_of_wp_marks Try.func76 rfl trivial ?_ rfl
  simp only [Try.ntmps76, List.size_toArray, List.length_cons, List.length_nil, Nat.reduceAdd, Nat.reduceSub, Array.replicate_succ, Array.replicate_zero, List.push_toArray, List.append_toArray, List.nil_append, List.cons_append]
  gi_wp2_with (refine ⟨trivial, ?_⟩; gi_at_call 86; refine (callsIn_wide.2 (sides_any _ _ _ _)).mono ?_; rintro e w' ⟨rfl, rfl⟩)
  have bA := (BoxAt.new w #[.int .i64 0] 3).alloc (.cells #[.slice V ps.length d] 48)
  have bS := BoxAt.new (w.alloc (.cells #[.int .i64 0] 3)) #[.slice V ps.length d] 48
  have hB0 : Below w.heap.size w ((w.alloc (.cells #[.int .i64 0] 3)).alloc (.cells #[.slice V ps.length d] 48)) := below_step (below_alloc _ _) (below_alloc _ _)
  have hs0 : ((w.alloc (.cells #[.int .i64 0] 3)).alloc (.cells #[.slice V ps.length d] 48)).heap.size = w.heap.size + 2 := by simp
  simp only [World.size_alloc] at bS
  obtain ⟨W0, hW0⟩ : ∃ W0, (w.alloc (.cells #[.int .i64 0] 3)).alloc (.cells #[.slice V ps.length d] 48) = W0 := ⟨_, rfl⟩
  rw [hW0] at bA bS hB0 hs0 ⊢
  clear hW0
  have hP0 := hP.below hB0
  refine wpIn_range_sides (Bs := w.heap.size + 1) (n₀ := w.heap.size) (V := V) (d := d) (ps := ps) (by omega) rfl rfl (bS.c 0 _ rfl) (by omega) hP0 (by omega) hP.own
    (ArI w ps) (fun _ _ _ => False) (arI_own w ps _ (by omega)) (fun _ _ _ _ _ h => h.elim) ⟨bA, hB0, by omega⟩
    (fun x a' W => ∃ Bx, W0.heap.size ≤ Bx ∧ BoxAt W Bx [.int .i64 x.2.a.x, .int .i64 x.2.a.y, .int .i64 x.2.b.x, .int .i64 x.2.b.y] ∧ a' = { tmps := #[.slice V ps.length d, undef, .int .i64 0, .pointer (some ⟨w.heap.size, 0, none⟩), undef, .pointer (some ⟨Bx, 0, none⟩), .slice V ps.length d, .func (.func 109) #[] #[.pointer (some ⟨w.heap.size + 1, 0, none⟩)], .int .i64 (x.1 : Int), .agg #[.int .i64 x.2.a.x, .int .i64 x.2.a.y, .int .i64 x.2.b.x, .int .i64 x.2.b.y], undef, undef, undef, undef, undef, undef, undef, undef], defers := [] })
    (fun x a' _ X Y row hs hg hr => by obtain ⟨Bx, e1, e2, e3⟩ := hs; exact ⟨Bx, e1, e2.keptF hg (fun r e => (hr r e).2), e3⟩)
    ?assign ?body ?done ?stop
  case assign =>
    rintro l k W K hk ⟨hb, hB, hz⟩ hK
    gi_wp2
    exact hK _ _ ((KeepsOthers.alloc _ _).from _) (KpS.below (below_alloc _ _) hB.size (by omega)) ⟨hb.alloc _, hB.alloc hB.size _, by simp; omega⟩ ⟨W.heap.size, by omega, BoxAt.new W #[.int .i64 (Cal.sd ps k).a.x, .int .i64 (Cal.sd ps k).a.y, .int .i64 (Cal.sd ps k).b.x, .int .i64 (Cal.sd ps k).b.y] _, rfl⟩
  case body =>
    rintro l k a' W hl ⟨r, hr⟩ hk ⟨hb, hB, hz⟩ ⟨Bx, hBx, bX, rfl⟩
    have hsd := hP.sd k hk
    have hbox := areaTo_box hP k (by omega)
    have hbox2 := areaTo_box hP (k + 1) hk
    have hsz := hP.size
    have hstep : Hid (Cal.areaTo ps (k + 1) = Cal.areaTo ps k + ((Cal.sd ps k).a.x * (Cal.sd ps k).b.y - (Cal.sd ps k).a.y * (Cal.sd ps k).b.x)) := rfl
    rw [hstep.out] at hbox2
    have c0 := hb.c 0 _ rfl
    have f0 := hb.free 0 Nat.zero_lt_one
    have e0 := bX.c 0 _ rfl
    have e1 := bX.c 1 _ rfl
    have e2 := bX.c 2 _ rfl
    have e3 := bX.c 3 _ rfl
    dsimp only at e0 e1 e2 e3
    generalize Cal.sd ps k = s at *
    generalize Cal.areaTo ps k = acc at *
    have hwr : IntKind.i64.wrap (acc + (s.a.x * s.b.y - s.a.y * s.b.x)) = acc + (s.a.x * s.b.y - s.a.y * s.b.x) := wrap_small (by omega) (by omega)
    have hAll := Lib.hid (And.intro hb (And.intro hB hz))
    clear hb hB bX
    gi_wp2
    refine wpIn_region_heldY (S := Sx W [(w.heap.size, 0, .int .i64 acc), (Bx, 0, .int .i64 s.a.x), (Bx, 1, .int .i64 s.a.y), (Bx, 2, .int .i64 s.b.x), (Bx, 3, .int .i64 s.b.y)]) 7 (by kernel_rfl) (Sx.mk (by simp only [cs_iff_cons]; exact ⟨c0, e0, e1, e2, e3, cs_nil _⟩) (Below.refl _ _)).drew (fun hHeld => ?_)
    refine tkYx 0 10 ?_
    refine tkYx 1 11 ?_
    refine tkYx 2 12 ?_
    refine tkYx 3 13 ?_
    refine tkYx 4 14 ?_
    (refine ratY 5 (fun _ => trivial) (by decide +kernel) rfl (fun K hK => ?_); rw [if_pos (by kernel_rfl)]; go_simp)
    refine ⟨trivial, ?_⟩
    refine (callsIn_wide.2 (cross_any s.a s.b _ hsd.a.box hsd.b.box)).mono ?_
    rintro e wn ⟨rfl, hbn⟩
    go_simp
    (refine hK.out _ _ (hHeld.step hbn) (fun hHeld => ?_); clear hK K; (try simp only [Act.put, List.setIfInBounds_toArray]); (try simp only [List.set_cons_zero, List.set_cons_succ]))
    refine tkYx 6 16 ?_
    have f1 : wn.frozen? ⟨w.heap.size, 0, none⟩ = false := ((hAll.out.1.below hHeld.bel).free 0 Nat.zero_lt_one)
    have h0 := hHeld.cs
    simp only [cs_iff_cons] at h0
    obtain ⟨h0, _⟩ := h0
    (refine ratYc 7 (fun _ => trivial) (by decide +kernel) rfl (by decide +kernel) (fun K hK => ?_); rw [if_pos (by kernel_rfl)]; go_simp; refine hK.out _ _ ?_; clear hK K; ((try simp only [Act.put, List.setIfInBounds_toArray]); (try simp only [List.set_cons_zero, List.set_cons_succ])))
    refine wpAnyInY_done (by decide +kernel) ?_ _
    refine ⟨((keepsF_below hHeld.bel).trans (KeepsOthers.setCell _ _ _)).from _, (KpS.below hHeld.bel (by omega) (by omega)).trans (KpS.set _ (Nat.le_refl _) (by omega)), ?_, ?_, ?_⟩
    · rw [hstep.out]
      exact (hAll.out.1.below hHeld.bel).set 0 _ Nat.zero_lt_one
    · exact (hAll.out.2.1.trans (hHeld.bel.mono hAll.out.2.1.size)).setCell (p := ⟨w.heap.size, 0, none⟩) (Nat.le_refl _) _
    · have := hHeld.bel.size
      rw [World.size_setCell]
      omega
  case done =>
    rintro D W hD ⟨hb, hB, hz⟩ hK
    have c0 := hb.c 0 _ rfl
    have hAll := Lib.hid (And.intro hb (And.intro hB hK))
    clear hb hB hK
    gi_wp2
    obtain ⟨hb, hB, hK⟩ := hAll.out
    refine ⟨by simp, .inl ⟨_, _, rfl, run_takeDeferred hK, ?_⟩⟩
    exact ⟨_, results_tmp (t := 2) rfl _ _ _, rfl, belowF_put hB (by omega) _⟩
  case stop =>
    rintro D c k W hD hk h
    exact h.elim
end Go.Proofs.Ytfcjeejhdklkdaa
