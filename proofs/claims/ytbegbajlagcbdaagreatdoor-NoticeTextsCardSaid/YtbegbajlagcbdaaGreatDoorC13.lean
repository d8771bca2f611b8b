/- Chapter 8 and what it rests on: definitions and walks, part 13. -/
import Derived.RangeFuncNested
import Derived.RangeFuncBound
import Derived.RangeFuncCalls
import Derived.RangeFuncLeaves
import Derived.Test.YtbegbajlagcbdaaGreatDoorC12
import Derived.Shelf.Abstract
import Derived.Shelf.RegionOpen
import Derived.OwnWalkIn
import Derived.TacticsInMore
import Derived.LoopNIn
import Derived.LoopIn
namespace Go.Proofs.YtbegbajlagcbdaaGreatDoor
open Go Go.RowKit

def isBook : Obj → Bool
  | .loop _ => true
  | .deferred _ => true
  | _ => false
theorem not_cells_of_book {o : Obj} (h : isBook o = true) : o.isCells = false := by cases o <;> simp_all [isBook, Obj.isCells]

def rawPost (Inext : World → Prop) (Ix : Code → World → Prop) (W : World) : Exit → Act → World → Prop
  | .normal, _, W' => KeepsOthers W W' ∧ Inext W'
  | .ret, _, W' => KeepsOthers W W' ∧ Ix .ret W'
  | .exit id, _, W' => KeepsOthers W W' ∧ Ix (.exit id) W'
  | .goto t, _, W' => KeepsOthers W W' ∧ Ix (.goto t) W'
  | .panic _, _, _ => False
  | .outgrown, _, _ => False

/-- What an iterator gives: J holds before each of its steps; 'Step': it goes on by itself; 'Ask': it calls yield in world B. -/
def SeqRaw {β : Type} (F : Fence) (n : Nat) (P : Program) (gf : Nat) (lb : Array Value) (encs : β → Array Value) (next : β → β) (Inv : β → World → Prop) (Step Ask : β → World → World → Prop) (End : β → Prop) (s0 : β) : Prop :=
  ∀ (l : Nat) (J : β → World → Prop) (Jx : World → Prop) (W : World), (∀ s A, J s A → Inv s A) → (∀ s A B, J s A → Step s A B → J (next s) B) →
    (∀ s A B, J s A → Ask s A B → YieldAt F (n - 1) P l (encs s) B fun e W' => (e = .returned (.bool true) ∧ J (next s) W') ∨ (e = .returned (.bool false) ∧ Jx W')) →
    J s0 W → CallsIn F n P gf (#[.func (.yield l) #[] #[]] ++ lb) W fun e W' => (∃ v, e = .returned v) ∧ ((∃ s, End s ∧ J s W') ∨ Jx W')

variable {F : Fence} {n : Nat} {P : Program}
theorem wpIn_rangeFunc_raw {β : Type} {g : Operand} {ps : Array Tmp} {assign body : Code} {Q : Exit → Act → World → Prop} {a : Act} {w : World}
    (hro : F.round = none) (h1 : 1 ≤ n) {gf : Nat} {lb : Array Value} (hg : a.eval g = .func (.func gf) #[] lb) (hFg : F.fn gf) (eg : ∀ args w, (callFunc gf args).run P w = .ok (.enter gf args) w)
    {encs : β → Array Value} {next : β → β} {Inv : β → World → Prop} {Step Ask : β → World → World → Prop} {End : β → Prop} {s0 : β}
    (hseq : SeqRaw F (n - 1) P gf lb encs next Inv Step Ask End s0) (hps : ∀ x, (encs x).size = ps.size)
    (hkS : ∀ s A B (k : Nat) (o : Obj), Inv s A → (Step s A B ∨ Ask s A B) → A.heap[k]? = some o → isBook o = true → B.heap[k]? = some o)
    (I IA : β → World → Prop) (Ix : Code → World → Prop)
    (hIInv : ∀ s A, I s A → Inv s A) (hIS : ∀ s A B, I s A → Step s A B → I (next s) B) (hIA : ∀ s A B, I s A → Ask s A B → IA s B)
    (hI1 : ∀ s A o, isBook o = true → I s A → I s (A.alloc o))
    (hI2 : ∀ s A (l : Nat) (o o' : Obj), w.heap.size ≤ l → A.heap[l]? = some o → isBook o = true → isBook o' = true → I s A → I s (A.putObj l o'))
    (hIA2 : ∀ s A (l : Nat) (o o' : Obj), w.heap.size ≤ l → A.heap[l]? = some o → isBook o = true → isBook o' = true → IA s A → IA s (A.putObj l o'))
    (hIx2 : ∀ c A (l : Nat) (o o' : Obj), w.heap.size ≤ l → A.heap[l]? = some o → isBook o = true → isBook o' = true → Ix c A → Ix c (A.putObj l o'))
    (h0 : I s0 w) (a₁ : β → Act)
    (hassign : ∀ (l : Nat) (x : β) (W : World) (K : Act → World → Prop), K (a₁ x) W →
      assign.wpIn (F.inRound l) (n - 1 - 1) P (Exit.then K (fun _ _ _ => False)) { tmps := (ps.zip (encs x)).foldl (fun t (p, v) => t.setIfInBounds p v) a.tmps, defers := [] } W)
    (hbody : ∀ (l : Nat) (x : β) (W : World), IA x W → body.wpIn (F.inRound l) (n - 1 - 1) P (rawPost (I (next x)) Ix W) (a₁ x) W)
    (hdone : ∀ (D : Nat) (s : β) (W : World), End s → I s W → w.heap.size ≤ D → W.heap[D]? = some (.deferred (some [])) → Q .normal { a with defers := { target := .collected D, args := #[] } :: a.defers } W)
    (hstop : ∀ (D : Nat) (c : Code) (W : World), Ix c W → w.heap.size ≤ D → W.heap[D]? = some (.deferred (some [])) → c.wpIn F n P Q { a with defers := { target := .collected D, args := #[] } :: a.defers } W) :
    (Code.rangeFunc g ps assign body).wpIn F n P Q a w := by
  refine wpIn_rangeFunc ?_
  intro fn hfn
  rw [hro]
  obtain ⟨rec, hrec⟩ : ∃ rec : LoopState → Option Code → Loop, rec = fun st pe => { state := st, pending := pe, fn, tmps := a.tmps, params := ps, assign, body, defers := w.heap.size } := ⟨_, rfl⟩
  obtain ⟨W1, hW1⟩ : ∃ W1, (w.alloc (.deferred (some []))).alloc (.loop (rec .ready none)) = W1 := ⟨_, rfl⟩
  have hL1 : W1.heap[w.heap.size + 1]? = some (.loop (rec .ready none)) := by
    rw [← hW1]; have := World.alloc_heap_new (w.alloc (.deferred (some []))) (.loop (rec .ready none)); rwa [World.size_alloc] at this
  have hK1 : W1.heap[w.heap.size]? = some (.deferred (some [])) := by
    rw [← hW1]; exact (Below.heap_alloc _ _ _ (by simp)).trans (World.alloc_heap_new w _)
  have hI1' : I s0 W1 := by rw [← hW1]; exact hI1 _ _ _ rfl (hI1 _ _ _ rfl h0)
  refine ⟨w.heap.size + 1, [{ target := .collected w.heap.size, args := #[] }], W1, { target := .fn (.func gf) lb, args := #[.func (.yield (w.heap.size + 1)) #[] #[]] }, W1, gf,
    #[.func (.yield (w.heap.size + 1)) #[] #[]] ++ lb, W1, ?_, ?_, ?_, ?_, fun _ => h1, ?_⟩
  · rw [← hW1, hrec]; exact run_enterLoop_outer _ _ _ _ _
  · simp only [resolve, hg]
    simp [go_sem]
  · intro f' hf'; simp [Target.leads] at hf'; subst hf'; exact hFg
  · simp [invoke, go_sem, eg]
  · refine (hseq (w.heap.size + 1)
      (fun s W => I s W ∧ W.heap[w.heap.size + 1]? = some (.loop (rec .ready none)) ∧ W.heap[w.heap.size]? = some (.deferred (some [])))
      (fun W => ∃ c, Ix c W ∧ W.heap[w.heap.size + 1]? = some (.loop (rec .done (some c))) ∧ W.heap[w.heap.size]? = some (.deferred (some [])))
      W1 (fun s A h => hIInv s A h.1)
      (fun s A B h hs => ⟨hIS s A B h.1 hs, hkS s A B _ _ (hIInv s A h.1) (.inl hs) h.2.1 rfl, hkS s A B _ _ (hIInv s A h.1) (.inl hs) h.2.2 rfl⟩)
      ?_ ⟨hI1', hL1, hK1⟩).mono ?_
    · rintro x A W ⟨hi, hl0, hk0⟩ hask
      have hl := hkS x A W _ _ (hIInv x A hi) (.inr hask) hl0 rfl
      have hk := hkS x A W _ _ (hIInv x A hi) (.inr hask) hk0 rfl
      have hia := hIA x A W hi hask
      have hlt : w.heap.size + 1 < W.heap.size := (Array.getElem?_eq_some_iff.1 hl).1
      have hy := run_yield (P := P) (args := encs x) hl (by rw [hrec]; exact hps x)
      rw [hrec] at hy
      refine ⟨fn, _, assign, body, hy, roundIn_of_wpIn hfn (hassign _ x W _ ⟨_, run_beginRound hl (by rw [hrec]), ?_⟩)⟩
      have hl2 : (W.putObj (w.heap.size + 1) (.loop { rec .ready none with state := .busy })).heap[w.heap.size + 1]? = some (.loop { rec .ready none with state := .busy }) := World.putObj_heap_same hlt
      have hk2 : (W.putObj (w.heap.size + 1) (.loop { rec .ready none with state := .busy })).heap[w.heap.size]? = some (.deferred (some [])) := (World.putObj_heap_other (by omega)).trans hk
      refine wpIn_mono (hbody _ x _ (hIA2 _ _ _ _ _ (by omega) hl rfl rfl hia)) ?_
      have fin : ∀ (jump : Option Code) (W3 : World), KeepsOthers (W.putObj (w.heap.size + 1) (.loop { rec .ready none with state := .busy })) W3 →
          (Instr.endRound (w.heap.size + 1) jump).run P W3 = .ok (.bool jump.isNone) (W3.putObj (w.heap.size + 1) (.loop (rec (if jump.isNone then .ready else .done) jump))) ∧
          W3.heap[w.heap.size + 1]? = some (.loop { rec .ready none with state := .busy }) ∧
          (W3.putObj (w.heap.size + 1) (.loop (rec (if jump.isNone then .ready else .done) jump))).heap[w.heap.size + 1]? = some (.loop (rec (if jump.isNone then .ready else .done) jump)) ∧
          (W3.putObj (w.heap.size + 1) (.loop (rec (if jump.isNone then .ready else .done) jump))).heap[w.heap.size]? = some (.deferred (some [])) := fun jump W3 hk3 => by
        have hl3 := hk3.same _ _ hl2 rfl
        have := run_endRound (P := P) jump hl3
        rw [hrec] at this ⊢
        exact ⟨this, by rw [hrec] at hl3; exact hl3, World.putObj_heap_same (Array.getElem?_eq_some_iff.1 hl3).1, (World.putObj_heap_other (by omega)).trans (hk3.same _ _ hk2 rfl)⟩
      rintro e a3 W3 hp
      cases e with
      | normal =>
        obtain ⟨hk3, hi3⟩ := hp
        obtain ⟨hr, hl3, hl4, hk4⟩ := fin none W3 hk3
        exact ⟨_, _, hr, .inl ⟨rfl, hI2 _ _ _ _ _ (by omega) hl3 rfl rfl hi3, hl4, hk4⟩⟩
      | ret =>
        obtain ⟨hk3, hi3⟩ := hp
        obtain ⟨hr, hl3, hl4, hk4⟩ := fin (some .ret) W3 hk3
        exact ⟨_, _, hr, .inr ⟨rfl, .ret, hIx2 _ _ _ _ _ (by omega) hl3 rfl rfl hi3, hl4, hk4⟩⟩
      | exit id =>
        obtain ⟨hk3, hi3⟩ := hp
        obtain ⟨hr, hl3, hl4, hk4⟩ := fin (some (.exit id)) W3 hk3
        exact ⟨_, _, hr, .inr ⟨rfl, .exit id, hIx2 _ _ _ _ _ (by omega) hl3 rfl rfl hi3, hl4, hk4⟩⟩
      | goto t =>
        obtain ⟨hk3, hi3⟩ := hp
        obtain ⟨hr, hl3, hl4, hk4⟩ := fin (some (.goto t)) W3 hk3
        exact ⟨_, _, hr, .inr ⟨rfl, .goto t, hIx2 _ _ _ _ _ (by omega) hl3 rfl rfl hi3, hl4, hk4⟩⟩
      | panic ch => exact hp.elim
      | outgrown => exact hp.elim
    · rintro e W2 ⟨⟨v, rfl⟩, (⟨s, hE, hi, hl, hk⟩ | ⟨c, hi, hl, hk⟩)⟩
      · exact ⟨none, _, by have := run_endLoop (P := P) hl (by rw [hrec]; simp); rw [hrec] at this; exact this, hdone _ s _ hE (hI2 _ _ _ _ _ (by omega) hl rfl rfl hi) (Nat.le_refl _) ((World.putObj_heap_other (by omega)).trans hk)⟩
      · exact ⟨some c, _, by have := run_endLoop (P := P) hl (by rw [hrec]; simp); rw [hrec] at this; exact this, hstop _ c _ (hIx2 _ _ _ _ _ (by omega) hl rfl rfl hi) (Nat.le_refl _) ((World.putObj_heap_other (by omega)).trans hk)⟩
end Go.Proofs.YtbegbajlagcbdaaGreatDoor
namespace Go.Proofs.YtbegbajlagcbdaaGreatDoor
open Go Go.RowKit Go.Shelf
attribute [local go_sem] Oper.semAt_some

/-- How many steps are left at most. -/
def stepsLeft (step d : Int) : Nat := if step = 1 then (200001 - d).toNat else (d + 1).toNat
structure Where where
  cb : Nat
  m : Nat
  A : Option Addr
  c : Nat
  l : List Hol
  B : Nat
  bf : Nat
  bs : Nat
  bc : Nat
  step : Int
  start : Int
def CacheAt (K : Where) (d : Int) (W : World) : Prop := ∃ n, CacheOk W K.B K.m n K.l ∧ n + stepsLeft K.step d ≤ 600000
/-- What holds ahead of each step. -/
structure DaysInv (K : Where) (d : Int) (W : World) : Prop where
  lo : -1 ≤ d
  hi : d ≤ 200001
  from_ : W.cell? ⟨K.bf, 0, none⟩ = some (.int .i64 K.start)
  st : W.cell? ⟨K.bs, 0, none⟩ = some (.int .i64 K.step)
  cal : W.cell? ⟨K.bc, 0, none⟩ = some (.pointer (some ⟨K.cb, 0, none⟩))
  cald : Calend W K.cb K.m K.A K.c K.l
  cache : CacheAt K d W
  size : K.B ≤ W.heap.size
def isDayP (d : Int) : Prop := 0 ≤ d ∧ d ≤ 200000
def DaysStep (K : Where) (d : Int) (A B : World) : Prop := isDayP d ∧ Cal.worksB K.l d = false ∧ A.grownBy B (some K.m) ∧ CacheAt K (d + K.step) B
def DaysAsk (K : Where) (d : Int) (A B : World) : Prop := isDayP d ∧ Cal.worksB K.l d = true ∧ A.grownBy B (some K.m) ∧ CacheAt K (d + K.step) B
theorem stepsLeft_succ {step d : Int} (h : step = 1 ∨ step = -1) (hd : isDayP d) : stepsLeft step (d + step) + 1 = stepsLeft step d := by
  obtain ⟨h1, h2⟩ := hd
  unfold stepsLeft
  rcases h with rfl | rfl <;> simp <;> omega
def IterPost (J : Int → World → Prop) (Jx : World → Prop) (e : Ending) (W' : World) : Prop := (∃ v, e = .returned v) ∧ ((∃ s, ¬ isDayP s ∧ J s W') ∨ Jx W')
set_option maxHeartbeats 1000000 in
theorem days_raw (K : Where) (hst : K.step = 1 ∨ K.step = -1) (hHol : HolCalls K.A K.c K.l) (n : Nat) :
    SeqRaw Fence.wide n Tryz.prog 242 #[.pointer (some ⟨K.bf, 0, none⟩), .pointer (some ⟨K.bs, 0, none⟩), .pointer (some ⟨K.bc, 0, none⟩)]
      (fun d : Int => #[.int .i64 d]) (fun d => d + K.step) (DaysInv K) (DaysStep K) (DaysAsk K) (fun d => ¬ isDayP d) K.start := by
  intro l J Jx W hInv hStep hAsk h0
  show CallsIn Fence.wide n Tryz.prog 242 _ W (IterPost J Jx)
  refine callsIn_of_wp Tryz.func242 rfl trivial ?_ rfl
  simp only [Tryz.ntmps242, List.size_toArray, List.length_cons, List.length_nil, Nat.reduceAdd, Nat.reduceSub, Array.replicate_succ, Array.replicate_zero, List.push_toArray, List.append_toArray, List.nil_append, List.cons_append]
  have hf0 := (hInv _ _ h0).from_
  gi_wp2
  clear hf0
  gi_loopw [5] (fun v wr => ∃ d : Int, v = .int .i64 d ∧ J d wr) (fun v _ => stepsLeft K.step (intOf v))
  case atStart => exact ⟨K.start, rfl, h0⟩
  case round =>
    obtain ⟨d, rfl, hJ⟩ := hrel
    have hi := hInv _ _ hJ
    have hlo := hi.lo
    have hhi := hi.hi
    have hc1 := hi.st
    have hc2 := hi.cal
    by_cases hday : isDayP d
    · obtain ⟨hd0, hd1⟩ := id hday
      obtain ⟨nn, hca, hnn⟩ := hi.cache
      have hsl := stepsLeft_succ hst hday
      have hcald := hi.cald
      have hms : ∃ es cl, wr.heap[K.m]? = some (.map es cl) := by obtain ⟨f, h, _⟩ := hca; exact h.isMap
      have hw := works_any K.cb K.m K.A K.c K.l hHol d hd0 hd1 K.B nn wr hcald hca (by omega) hi.size
      have hrow : ∀ r, some K.m = some r → ∃ o : Obj, wr.heap[r]? = some o ∧ o.isCells = false := fun r e => by cases e; obtain ⟨es, cl, h⟩ := hms; exact ⟨_, h, rfl⟩
      have hk1 : ∀ w1, wr.grownBy w1 (some K.m) → w1.cell? ⟨K.bs, 0, none⟩ = some (.int .i64 K.step) := fun w1 hg => cell_kept hc1 hg hrow
      have hns := Lib.hid hnn
      have hsl' := Lib.hid hsl
      have hAll := Lib.hid (And.intro hi (And.intro hJ (And.intro hw hk1)))
      have hstep1 : -1 ≤ K.step := by omega
      have hstep2 : K.step ≤ 1 := by omega
      clear hca hnn hsl hcald hms hw hrow hk1 hi hJ
      gi_wp2_with (refine ⟨trivial, fun h => (by cases h), ?_⟩; gi_at_call 133; refine (callsIn_wide.2 (calls_in (isDay_any _ _) hd0 hd1)).mono ?_; rintro e w' ⟨rfl, rfl⟩)
      obtain ⟨hi, hJ, hw, hk1⟩ := hAll.out
      refine ⟨trivial, fun h => (by cases h), ?_⟩
      refine (callsIn_wide.2 hw).mono ?_
      clear hi hJ hw hk1
      rintro e w1 ⟨rfl, hg1, hca1⟩
      have hcache : CacheAt K (d + K.step) w1 := ⟨_, hca1, by have := hns.out; have := hsl'.out; omega⟩
      have hc1' := hAll.out.2.2.2 w1 hg1
      cases hwk : Cal.worksB K.l d
      · have hnext := Lib.hid (hStep d wr w1 hAll.out.2.1 ⟨hday, hwk, hg1, hcache⟩)
        clear hg1 hca1 hcache
        gi_wp2_with fail
        refine ⟨fun _ h => (by cases h), ?_⟩
        gi_wp2
        go_roundw
        case rel => exact ⟨d + K.step, by go_num, hnext.out⟩
        case measure => have := hsl'.out; simp [intOf]; omega
      · obtain ⟨fn, tmps, assign, body, hy, hR⟩ := hAsk d wr w1 hAll.out.2.1 ⟨hday, hwk, hg1, hcache⟩
        clear hg1 hca1 hcache
        gi_wp2
        refine ⟨fun h => (by cases h), ?_⟩
        refine hR.mono ?_
        clear hy hR hc1'
        rintro e w2 (⟨rfl, hJ2⟩ | ⟨rfl, hJx⟩)
        · have hc2' := (hInv _ _ hJ2).st
          have hJ2 := Lib.hid hJ2
          gi_wp2
          go_roundw
          case rel => exact ⟨d + K.step, by go_num, hJ2.out⟩
          case measure => have := hsl'.out; simp [intOf]; omega
        · have hJx := Lib.hid hJx
          gi_wp2
          refine bodyPost_ret (results_none rfl _ _ _) rfl ?_
          exact ⟨⟨_, rfl⟩, .inr hJx.out⟩
    · have hday' : d < 0 ∨ 200000 < d := by unfold isDayP at hday; omega
      have hAll := Lib.hid hJ
      clear hi hJ
      gi_wp2_with (refine ⟨trivial, fun h => (by cases h), ?_⟩; gi_at_call 133; refine (callsIn_wide.2 (calls_out (isDay_any _ _) (by omega))).mono ?_; rintro e w' ⟨rfl, rfl⟩)
      refine bodyPost_end (results_none rfl _ _ _) rfl ?_
      exact ⟨⟨_, rfl⟩, .inl ⟨d, hday, hAll.out⟩⟩
end Go.Proofs.YtbegbajlagcbdaaGreatDoor
namespace Go.Proofs.YtbegbajlagcbdaaGreatDoor
open Go Go.RowKit Go.Shelf
attribute [local go_sem] Oper.semAt_some

/-- The working day, so many working days on. -/
def Cal.addFrom (l : List Hol) (step : Int) : Nat → Int → Int → Option Int
  | 0, _, _ => none
  | f + 1, d, left => if 0 ≤ d ∧ d ≤ 200000 then (if Cal.worksB l d = true then (if left = 0 then some d else Cal.addFrom l step f (d + step) (left - 1)) else Cal.addFrom l step f (d + step) left) else none
def Cal.addW (l : List Hol) (day n : Int) : Option Int :=
  if n = 0 then Cal.addFrom l 1 (stepsLeft 1 day) day 0 else if n < 0 then Cal.addFrom l (-1) (stepsLeft (-1) (day - 1)) (day - 1) (-n - 1) else Cal.addFrom l 1 (stepsLeft 1 (day + 1)) (day + 1) (n - 1)
def Cal.addV (r : Option Int) : Value := match r with | some x => .tuple #[.int .i64 x, .bool true] | none => .tuple #[.int .i64 0, .bool false]
theorem Cal.addFrom_no {l : List Hol} {step : Int} {f : Nat} {d left : Int} (h : ¬ isDayP d) : Cal.addFrom l step f d left = none := by
  cases f with
  | zero => rfl
  | succ f => unfold isDayP at h; unfold Cal.addFrom; rw [if_neg h]
theorem Cal.addFrom_skip {l : List Hol} {step d left : Int} (hst : step = 1 ∨ step = -1) (hd : isDayP d) (hw : Cal.worksB l d = false) : Cal.addFrom l step (stepsLeft step d) d left = Cal.addFrom l step (stepsLeft step (d + step)) (d + step) left := by
  rw [← stepsLeft_succ hst hd]; conv => lhs; unfold Cal.addFrom
  unfold isDayP at hd
  rw [if_pos hd, hw]; simp
theorem Cal.addFrom_hit {l : List Hol} {step d : Int} (hst : step = 1 ∨ step = -1) (hd : isDayP d) (hw : Cal.worksB l d = true) : Cal.addFrom l step (stepsLeft step d) d 0 = some d := by
  rw [← stepsLeft_succ hst hd]; unfold Cal.addFrom
  unfold isDayP at hd
  rw [if_pos hd, hw]; simp
theorem Cal.addFrom_next {l : List Hol} {step d left : Int} (hst : step = 1 ∨ step = -1) (hd : isDayP d) (hw : Cal.worksB l d = true) (h : left ≠ 0) : Cal.addFrom l step (stepsLeft step d) d left = Cal.addFrom l step (stepsLeft step (d + step)) (d + step) (left - 1) := by
  rw [← stepsLeft_succ hst hd]; conv => lhs; unfold Cal.addFrom
  unfold isDayP at hd
  rw [if_pos hd, hw]; simp [h]

/-- A row that has turned holds no cells. -/
def Others (W : World) (row : Option Nat) : Prop := ∀ r, row = some r → ∃ o : Obj, W.heap[r]? = some o ∧ o.isCells = false
theorem Tab.kept {W W' : World} {row : Option Nat} (h : Tab W) (hg : W.grownBy W' row) (hr : Others W row) : Tab W' := ⟨Nat.lt_of_lt_of_le h.lt hg.size, fun i hi => cell_kept (h.cell i hi) hg hr⟩
theorem RowsAt.kept {W W' : World} {row : Option Nat} {A : Option Addr} {m : Nat} {rows : List (List Value)} (h : RowsAt W A m rows) (hg : W.grownBy W' row) (hr : Others W row) : RowsAt W' A m rows := fun k r hk => by
  obtain ⟨b, o, hA, hlt, hc⟩ := h k r hk
  exact ⟨b, o, hA, Nat.lt_of_lt_of_le hlt hg.size, fun j v hv => cell_kept (hc j v hv) hg hr⟩
theorem Calend.kept {W W' : World} {row : Option Nat} {cb m : Nat} {A : Option Addr} {c : Nat} {l : List Hol} (h : Calend W cb m A c l) (hg : W.grownBy W' row) (hr : Others W row) : Calend W' cb m A c l :=
  ⟨cell_kept h.c0 hg hr, cell_kept h.c1 hg hr, Nat.lt_of_lt_of_le h.lt hg.size, ⟨h.hols.rows.kept hg hr, h.hols.size, h.hols.names⟩, h.tab.kept hg hr⟩
/-- A cell of the call's own, not frozen. -/
structure OwnCell (W : World) (b : Nat) (v : Value) : Prop where
  cell : W.cell? ⟨b, 0, none⟩ = some v
  free : W.frozen? ⟨b, 0, none⟩ = false
theorem OwnCell.kept {W W' : World} {row : Option Nat} {b : Nat} {v : Value} (h : OwnCell W b v) (hg : W.grownBy W' row) (hr : Others W row) : OwnCell W' b v :=
  ⟨cell_kept h.cell hg hr, (frozen_kept h.cell hg hr).trans h.free⟩
theorem OwnCell.far {W : World} {b : Nat} {v : Value} (h : OwnCell W b v) {p : Addr} (hp : b ≠ p.block) (u : Value) : OwnCell (W.setCell p u) b v :=
  ⟨(World.cell?_setCell_other W p ⟨b, 0, none⟩ u (fun e => hp (by rw [e]))).trans h.cell, by rw [World.frozen?_setCell]; exact h.free⟩
theorem OwnCell.set_ {W : World} {b : Nat} {v : Value} (h : OwnCell W b v) (u : Value) : OwnCell (W.setCell ⟨b, 0, none⟩ u) b u :=
  ⟨World.cell?_setCell_same' _ _ _ (by rw [h.cell]; rfl), by rw [World.frozen?_setCell]; exact h.free⟩

theorem days_any (cb : Nat) (d step : Int) (W : World) :
    Calls Tryz.prog 203 #[.pointer (some ⟨cb, 0, none⟩), .int .i64 d, .int .i64 step] W fun e W' => e = .returned (.func (.func 242) #[] #[.pointer (some ⟨W.heap.size + 1, 0, none⟩), .pointer (some ⟨W.heap.size + 2, 0, none⟩), .pointer (some ⟨W.heap.size, 0, none⟩)]) ∧
      W' = ((W.alloc (.cells #[.pointer (some ⟨cb, 0, none⟩)] 222)).alloc (.cells #[.int .i64 d] 3)).alloc (.cells #[.int .i64 step] 3) := by
  go_enter Tryz.func203, Tryz.ntmps203
  go_wp2
  go_ret
  exact ⟨rfl, rfl⟩
/-- What add keeps while it goes round. W0: the world when it began. -/
structure AddI (K : Where) (W0 : World) (res : Option Int) (left : Int) (d : Int) (W : World) : Prop where
  fr : W0.grownBy W (some K.m)
  lo : -1 ≤ d
  hi : d ≤ 200001
  st : OwnCell W K.bs (.int .i64 K.step)
  from_ : OwnCell W K.bf (.int .i64 K.start)
  cal : OwnCell W K.bc (.pointer (some ⟨K.cb, 0, none⟩))
  left_ : OwnCell W (W0.heap.size + 2) (.int .i64 left)
  r0 : OwnCell W W0.heap.size (.int .i64 0)
  r1 : OwnCell W (W0.heap.size + 1) (.bool false)
  cache : CacheAt K d W
  size : W0.heap.size + 6 ≤ W.heap.size
/-- How the numbers of the blocks stand. -/
structure AddK (K : Where) (W0 : World) : Prop where
  b : K.B = W0.heap.size + 6
  bc : K.bc = W0.heap.size + 3
  bf : K.bf = W0.heap.size + 4
  bs : K.bs = W0.heap.size + 5
  cald : Calend W0 K.cb K.m K.A K.c K.l
  ismap : ∃ es cl, W0.heap[K.m]? = some (.map es cl)
  st : K.step = 1 ∨ K.step = -1
theorem AddK.others {K : Where} {W0 : World} (h : AddK K W0) : Others W0 (some K.m) := fun r e => by cases e; obtain ⟨es, cl, h⟩ := h.ismap; exact ⟨_, h, rfl⟩
theorem cacheOthers {K : Where} {d : Int} {W : World} (h : CacheAt K d W) : Others W (some K.m) := fun r e => by cases e; obtain ⟨n, ⟨f, h, _⟩, _⟩ := h; obtain ⟨es, cl, h⟩ := h.isMap; exact ⟨_, h, rfl⟩
theorem AddI.inv {K : Where} {W0 W : World} {res : Option Int} {left d : Int} (hK : AddK K W0) (h : AddI K W0 res left d W) : DaysInv K d W :=
  ⟨h.lo, h.hi, h.from_.cell, h.st.cell, h.cal.cell, hK.cald.kept h.fr hK.others, h.cache, by rw [hK.b]; exact h.size⟩
/-- A turn that leaves cells and the map alone. -/
theorem AddI.book {K : Where} {W0 W W' : World} {res : Option Int} {left d : Int} (h : AddI K W0 res left d W) {row : Option Nat} (hg : W.grownBy W' row) (hr : ∀ r, row = some r → W0.heap.size ≤ r ∧ ∃ o : Obj, W.heap[r]? = some o ∧ isBook o = true) : AddI K W0 res left d W' := by
  have ho : Others W row := fun r e => by obtain ⟨_, o, h1, h2⟩ := hr r e; exact ⟨o, h1, not_cells_of_book h2⟩
  refine ⟨⟨hg.os.trans h.fr.os, hg.tape.trans h.fr.tape, hg.output.trans h.fr.output, Nat.le_trans h.fr.size hg.size, fun i hi hne => (hg.block i (Nat.lt_of_lt_of_le hi h.fr.size) (fun e => ?_)).trans (h.fr.block i hi hne)⟩,
    h.lo, h.hi, h.st.kept hg ho, h.from_.kept hg ho, h.cal.kept hg ho, h.left_.kept hg ho, h.r0.kept hg ho, h.r1.kept hg ho, ?_, Nat.le_trans h.size hg.size⟩
  · obtain ⟨h1, _⟩ := hr i e.symm; omega
  · obtain ⟨n, hc, hn⟩ := h.cache
    have hmap : ∃ es cl, W.heap[K.m]? = some (.map es cl) := by obtain ⟨f, h, _⟩ := hc; exact h.isMap
    refine ⟨n, hc.keep (hg.block _ ?_ ?_) (fun g cs t _ hgc => (hg.block g (Array.getElem?_eq_some_iff.1 hgc).1 ?_).trans hgc), hn⟩
    · obtain ⟨es, cl, h⟩ := hmap; exact (Array.getElem?_eq_some_iff.1 h).1
    · intro e; obtain ⟨_, o, h1, h2⟩ := hr _ e.symm; obtain ⟨es, cl, h⟩ := hmap; rw [h] at h1; cases h1; cases h2
    · intro e; obtain ⟨_, o, h1, h2⟩ := hr _ e.symm; rw [hgc] at h1; cases h1; cases h2
/-- A step of the iterator. -/
theorem AddI.step {K : Where} {W0 W W' : World} {res : Option Int} {left d d' : Int} (h : AddI K W0 res left d W) (hg : W.grownBy W' (some K.m)) (hc : CacheAt K d' W') (h1 : -1 ≤ d') (h2 : d' ≤ 200001) : AddI K W0 res left d' W' := by
  have ho := cacheOthers h.cache
  exact ⟨grownBy_trans h.fr hg, h1, h2, h.st.kept hg ho, h.from_.kept hg ho, h.cal.kept hg ho, h.left_.kept hg ho, h.r0.kept hg ho, h.r1.kept hg ho, hc, Nat.le_trans h.size hg.size⟩
/-- A store into the counter. -/
theorem AddI.store {K : Where} {W0 W : World} {res : Option Int} {left d : Int} (hK : AddK K W0) (h : AddI K W0 res left d W) (u : Int) : AddI K W0 res u d (W.setCell ⟨W0.heap.size + 2, 0, none⟩ (.int .i64 u)) := by
  have hfar : ∀ (g : Nat), g ≠ W0.heap.size + 2 → (W.setCell ⟨W0.heap.size + 2, 0, none⟩ (.int .i64 u)).heap[g]? = W.heap[g]? := fun g hg => Below.heap_setCell W ⟨W0.heap.size + 2, 0, none⟩ (.int .i64 u) g hg
  have h1 := hK.bs; have h2 := hK.bf; have h3 := hK.bc; have h4 := hK.b
  refine ⟨⟨h.fr.os, h.fr.tape, h.fr.output, by simpa [World.setCell] using h.fr.size, fun i hi hne => (hfar i (by omega)).trans (h.fr.block i hi hne)⟩, h.lo, h.hi, h.st.far (by simp; omega) _, h.from_.far (by simp; omega) _, h.cal.far (by simp; omega) _, h.left_.set_ _, h.r0.far (by simp) _, h.r1.far (by simp) _, ?_, by simpa [World.setCell] using h.size⟩
  obtain ⟨n, hc, hn⟩ := h.cache
  have hmap : ∃ es cl, W.heap[K.m]? = some (.map es cl) := by obtain ⟨f, h, _⟩ := hc; exact h.isMap
  refine ⟨n, hc.keep (hfar _ ?_) (fun g cs t hg hgc => (hfar g (by omega)).trans hgc), hn⟩
  intro e
  obtain ⟨es, cl, hm⟩ := hmap
  have := h.left_.cell
  rw [e] at hm
  unfold World.cell? at this
  simp [hm] at this
end Go.Proofs.YtbegbajlagcbdaaGreatDoor
