/- A range over a function whose iterator keeps state of its own (a map that it fills): the statement's law, with the iterator's steps and questions named. Over whatever program. -/
import Derived.RangeFuncNested
import Derived.RangeFuncBound
import Derived.RangeFuncCalls
import Derived.RangeFuncLeaves
namespace Go.Proofs.YtoigamkldccnkaaDoor
open Go Go.RowKit

def isBook : Obj → Bool
  | .loop _ => true
  | .deferred _ => true
  | _ => false
theorem not_cells_of_book {o : Obj} (h : isBook o = true) : o.isCells = false := by cases o <;> simp_all [isBook, Obj.isCells]

def rawPost (Inext : World → Prop) (Ix : Code → World → Prop) (W : World) : Exit → Act → World → Prop
  | .normal, _, W' => KeepsOthers W W' ∧ Inext W'
  | .ret, _, W' => KeepsOthers W W' ∧ Ix .ret W'
  | .exit id, _, W' => KeepsOthers W W' ∧ Ix (.exit id) W'
  | .goto t, _, W' => KeepsOthers W W' ∧ Ix (.goto t) W'
  | .panic _, _, _ => False
  | .outgrown, _, _ => False

/-- What an iterator gives: J holds before each of its steps; 'Step': it goes on by itself; 'Ask': it calls yield in world B. -/
def SeqRaw {β : Type} (F : Fence) (n : Nat) (P : Program) (gf : Nat) (lb : Array Value) (encs : β → Array Value) (next : β → β) (Inv : β → World → Prop) (Step Ask : β → World → World → Prop) (End : β → Prop) (s0 : β) : Prop :=
  ∀ (l : Nat) (J : β → World → Prop) (Jx : World → Prop) (W : World), (∀ s A, J s A → Inv s A) → (∀ s A B, J s A → Step s A B → J (next s) B) →
    (∀ s A B, J s A → Ask s A B → YieldAt F (n - 1) P l (encs s) B fun e W' => (e = .returned (.bool true) ∧ J (next s) W') ∨ (e = .returned (.bool false) ∧ Jx W')) →
    J s0 W → CallsIn F n P gf (#[.func (.yield l) #[] #[]] ++ lb) W fun e W' => (∃ v, e = .returned v) ∧ ((∃ s, End s ∧ J s W') ∨ Jx W')

variable {F : Fence} {n : Nat} {P : Program}
theorem wpIn_rangeFunc_raw {β : Type} {g : Operand} {ps : Array Tmp} {assign body : Code} {Q : Exit → Act → World → Prop} {a : Act} {w : World}
    (hro : F.round = none) (h1 : 1 ≤ n) {gf : Nat} {lb : Array Value} (hg : a.eval g = .func (.func gf) #[] lb) (hFg : F.fn gf) (eg : ∀ args w, (callFunc gf args).run P w = .ok (.enter gf args) w)
    {encs : β → Array Value} {next : β → β} {Inv : β → World → Prop} {Step Ask : β → World → World → Prop} {End : β → Prop} {s0 : β}
    (hseq : SeqRaw F (n - 1) P gf lb encs next Inv Step Ask End s0) (hps : ∀ x, (encs x).size = ps.size)
    (hkS : ∀ s A B (k : Nat) (o : Obj), Inv s A → (Step s A B ∨ Ask s A B) → A.heap[k]? = some o → isBook o = true → B.heap[k]? = some o)
    (I IA : β → World → Prop) (Ix : Code → World → Prop)
    (hIInv : ∀ s A, I s A → Inv s A) (hIS : ∀ s A B, I s A → Step s A B → I (next s) B) (hIA : ∀ s A B, I s A → Ask s A B → IA s B)
    (hI1 : ∀ s A o, isBook o = true → I s A → I s (A.alloc o))
    (hI2 : ∀ s A (l : Nat) (o o' : Obj), w.heap.size ≤ l → A.heap[l]? = some o → isBook o = true → isBook o' = true → I s A → I s (A.putObj l o'))
    (hIA2 : ∀ s A (l : Nat) (o o' : Obj), w.heap.size ≤ l → A.heap[l]? = some o → isBook o = true → isBook o' = true → IA s A → IA s (A.putObj l o'))
    (hIx2 : ∀ c A (l : Nat) (o o' : Obj), w.heap.size ≤ l → A.heap[l]? = some o → isBook o = true → isBook o' = true → Ix c A → Ix c (A.putObj l o'))
    (h0 : I s0 w) (a₁ : β → Act)
    (hassign : ∀ (l : Nat) (x : β) (W : World) (K : Act → World → Prop), K (a₁ x) W →
      assign.wpIn (F.inRound l) (n - 1 - 1) P (Exit.then K (fun _ _ _ => False)) { tmps := (ps.zip (encs x)).foldl (fun t (p, v) => t.setIfInBounds p v) a.tmps, defers := [] } W)
    (hbody : ∀ (l : Nat) (x : β) (W : World), IA x W → body.wpIn (F.inRound l) (n - 1 - 1) P (rawPost (I (next x)) Ix W) (a₁ x) W)
    (hdone : ∀ (D : Nat) (s : β) (W : World), End s → I s W → w.heap.size ≤ D → W.heap[D]? = some (.deferred (some [])) → Q .normal { a with defers := { target := .collected D, args := #[] } :: a.defers } W)
    (hstop : ∀ (D : Nat) (c : Code) (W : World), Ix c W → w.heap.size ≤ D → W.heap[D]? = some (.deferred (some [])) → c.wpIn F n P Q { a with defers := { target := .collected D, args := #[] } :: a.defers } W) :
    (Code.rangeFunc g ps assign body).wpIn F n P Q a w := by
  refine wpIn_rangeFunc ?_
  intro fn hfn
  rw [hro]
  obtain ⟨rec, hrec⟩ : ∃ rec : LoopState → Option Code → Loop, rec = fun st pe => { state := st, pending := pe, fn, tmps := a.tmps, params := ps, assign, body, defers := w.heap.size } := ⟨_, rfl⟩
  obtain ⟨W1, hW1⟩ : ∃ W1, (w.alloc (.deferred (some []))).alloc (.loop (rec .ready none)) = W1 := ⟨_, rfl⟩
  have hL1 : W1.heap[w.heap.size + 1]? = some (.loop (rec .ready none)) := by
    rw [← hW1]; have := World.alloc_heap_new (w.alloc (.deferred (some []))) (.loop (rec .ready none)); rwa [World.size_alloc] at this
  have hK1 : W1.heap[w.heap.size]? = some (.deferred (some [])) := by
    rw [← hW1]; exact (Below.heap_alloc _ _ _ (by simp)).trans (World.alloc_heap_new w _)
  have hI1' : I s0 W1 := by rw [← hW1]; exact hI1 _ _ _ rfl (hI1 _ _ _ rfl h0)
  refine ⟨w.heap.size + 1, [{ target := .collected w.heap.size, args := #[] }], W1, { target := .fn (.func gf) lb, args := #[.func (.yield (w.heap.size + 1)) #[] #[]] }, W1, gf,
    #[.func (.yield (w.heap.size + 1)) #[] #[]] ++ lb, W1, ?_, ?_, ?_, ?_, fun _ => h1, ?_⟩
  · rw [← hW1, hrec]; exact run_enterLoop_outer _ _ _ _ _
  · simp only [resolve, hg]
    simp [go_sem]
  · intro f' hf'; simp [Target.leads] at hf'; subst hf'; exact hFg
  · simp [invoke, go_sem, eg]
  · refine (hseq (w.heap.size + 1)
      (fun s W => I s W ∧ W.heap[w.heap.size + 1]? = some (.loop (rec .ready none)) ∧ W.heap[w.heap.size]? = some (.deferred (some [])))
      (fun W => ∃ c, Ix c W ∧ W.heap[w.heap.size + 1]? = some (.loop (rec .done (some c))) ∧ W.heap[w.heap.size]? = some (.deferred (some [])))
      W1 (fun s A h => hIInv s A h.1)
      (fun s A B h hs => ⟨hIS s A B h.1 hs, hkS s A B _ _ (hIInv s A h.1) (.inl hs) h.2.1 rfl, hkS s A B _ _ (hIInv s A h.1) (.inl hs) h.2.2 rfl⟩)
      ?_ ⟨hI1', hL1, hK1⟩).mono ?_
    · rintro x A W ⟨hi, hl0, hk0⟩ hask
      have hl := hkS x A W _ _ (hIInv x A hi) (.inr hask) hl0 rfl
      have hk := hkS x A W _ _ (hIInv x A hi) (.inr hask) hk0 rfl
      have hia := hIA x A W hi hask
      have hlt : w.heap.size + 1 < W.heap.size := (Array.getElem?_eq_some_iff.1 hl).1
      have hy := run_yield (P := P) (args := encs x) hl (by rw [hrec]; exact hps x)
      rw [hrec] at hy
      refine ⟨fn, _, assign, body, hy, roundIn_of_wpIn hfn (hassign _ x W _ ⟨_, run_beginRound hl (by rw [hrec]), ?_⟩)⟩
      have hl2 : (W.putObj (w.heap.size + 1) (.loop { rec .ready none with state := .busy })).heap[w.heap.size + 1]? = some (.loop { rec .ready none with state := .busy }) := World.putObj_heap_same hlt
      have hk2 : (W.putObj (w.heap.size + 1) (.loop { rec .ready none with state := .busy })).heap[w.heap.size]? = some (.deferred (some [])) := (World.putObj_heap_other (by omega)).trans hk
      refine wpIn_mono (hbody _ x _ (hIA2 _ _ _ _ _ (by omega) hl rfl rfl hia)) ?_
      have fin : ∀ (jump : Option Code) (W3 : World), KeepsOthers (W.putObj (w.heap.size + 1) (.loop { rec .ready none with state := .busy })) W3 →
          (Instr.endRound (w.heap.size + 1) jump).run P W3 = .ok (.bool jump.isNone) (W3.putObj (w.heap.size + 1) (.loop (rec (if jump.isNone then .ready else .done) jump))) ∧
          W3.heap[w.heap.size + 1]? = some (.loop { rec .ready none with state := .busy }) ∧
          (W3.putObj (w.heap.size + 1) (.loop (rec (if jump.isNone then .ready else .done) jump))).heap[w.heap.size + 1]? = some (.loop (rec (if jump.isNone then .ready else .done) jump)) ∧
          (W3.putObj (w.heap.size + 1) (.loop (rec (if jump.isNone then .ready else .done) jump))).heap[w.heap.size]? = some (.deferred (some [])) := fun jump W3 hk3 => by
        have hl3 := hk3.same _ _ hl2 rfl
        have := run_endRound (P := P) jump hl3
        rw [hrec] at this ⊢
        exact ⟨this, by rw [hrec] at hl3; exact hl3, World.putObj_heap_same (Array.getElem?_eq_some_iff.1 hl3).1, (World.putObj_heap_other (by omega)).trans (hk3.same _ _ hk2 rfl)⟩
      rintro e a3 W3 hp
      cases e with
      | normal =>
        obtain ⟨hk3, hi3⟩ := hp
        obtain ⟨hr, hl3, hl4, hk4⟩ := fin none W3 hk3
        exact ⟨_, _, hr, .inl ⟨rfl, hI2 _ _ _ _ _ (by omega) hl3 rfl rfl hi3, hl4, hk4⟩⟩
      | ret =>
        obtain ⟨hk3, hi3⟩ := hp
        obtain ⟨hr, hl3, hl4, hk4⟩ := fin (some .ret) W3 hk3
        exact ⟨_, _, hr, .inr ⟨rfl, .ret, hIx2 _ _ _ _ _ (by omega) hl3 rfl rfl hi3, hl4, hk4⟩⟩
      | exit id =>
        obtain ⟨hk3, hi3⟩ := hp
        obtain ⟨hr, hl3, hl4, hk4⟩ := fin (some (.exit id)) W3 hk3
        exact ⟨_, _, hr, .inr ⟨rfl, .exit id, hIx2 _ _ _ _ _ (by omega) hl3 rfl rfl hi3, hl4, hk4⟩⟩
      | goto t =>
        obtain ⟨hk3, hi3⟩ := hp
        obtain ⟨hr, hl3, hl4, hk4⟩ := fin (some (.goto t)) W3 hk3
        exact ⟨_, _, hr, .inr ⟨rfl, .goto t, hIx2 _ _ _ _ _ (by omega) hl3 rfl rfl hi3, hl4, hk4⟩⟩
      | panic ch => exact hp.elim
      | outgrown => exact hp.elim
    · rintro e W2 ⟨⟨v, rfl⟩, (⟨s, hE, hi, hl, hk⟩ | ⟨c, hi, hl, hk⟩)⟩
      · exact ⟨none, _, by have := run_endLoop (P := P) hl (by rw [hrec]; simp); rw [hrec] at this; exact this, hdone _ s _ hE (hI2 _ _ _ _ _ (by omega) hl rfl rfl hi) (Nat.le_refl _) ((World.putObj_heap_other (by omega)).trans hk)⟩
      · exact ⟨some c, _, by have := run_endLoop (P := P) hl (by rw [hrec]; simp); rw [hrec] at this; exact this, hstop _ c _ (hIx2 _ _ _ _ _ (by omega) hl rfl rfl hi) (Nat.le_refl _) ((World.putObj_heap_other (by omega)).trans hk)⟩
end Go.Proofs.YtoigamkldccnkaaDoor
