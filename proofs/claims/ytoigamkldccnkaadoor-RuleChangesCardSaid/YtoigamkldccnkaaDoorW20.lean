/- The walk of the calendar's iterator of working days: its contract for whatever loop body. -/
import Derived.Test.YtoigamkldccnkaaDoorW19
import Derived.Test.YtoigamkldccnkaaDoorRange
import Derived.Shelf.Abstract
import Derived.Shelf.RegionOpen
import Derived.OwnWalkIn
import Derived.TacticsInMore
import Derived.LoopNIn
import Derived.LoopIn
namespace Go.Proofs.YtoigamkldccnkaaDoor
open Go Go.RowKit Go.Shelf
attribute [local go_sem] Oper.semAt_some

/-- How many steps are left at most. -/
def stepsLeft (step d : Int) : Nat := if step = 1 then (200001 - d).toNat else (d + 1).toNat
structure Where where
  cb : Nat
  m : Nat
  A : Option Addr
  c : Nat
  l : List Hol
  B : Nat
  bf : Nat
  bs : Nat
  bc : Nat
  step : Int
  start : Int
def CacheAt (K : Where) (d : Int) (W : World) : Prop := ∃ n, CacheOk W K.B K.m n K.l ∧ n + stepsLeft K.step d ≤ 600000
/-- What holds ahead of each step. -/
structure DaysInv (K : Where) (d : Int) (W : World) : Prop where
  lo : -1 ≤ d
  hi : d ≤ 200001
  from_ : W.cell? ⟨K.bf, 0, none⟩ = some (.int .i64 K.start)
  st : W.cell? ⟨K.bs, 0, none⟩ = some (.int .i64 K.step)
  cal : W.cell? ⟨K.bc, 0, none⟩ = some (.pointer (some ⟨K.cb, 0, none⟩))
  cald : Calend W K.cb K.m K.A K.c K.l
  cache : CacheAt K d W
  size : K.B ≤ W.heap.size
def isDayP (d : Int) : Prop := 0 ≤ d ∧ d ≤ 200000
def DaysStep (K : Where) (d : Int) (A B : World) : Prop := isDayP d ∧ Cal.worksB K.l d = false ∧ A.grownBy B (some K.m) ∧ CacheAt K (d + K.step) B
def DaysAsk (K : Where) (d : Int) (A B : World) : Prop := isDayP d ∧ Cal.worksB K.l d = true ∧ A.grownBy B (some K.m) ∧ CacheAt K (d + K.step) B
theorem stepsLeft_succ {step d : Int} (h : step = 1 ∨ step = -1) (hd : isDayP d) : stepsLeft step (d + step) + 1 = stepsLeft step d := by
  obtain ⟨h1, h2⟩ := hd
  unfold stepsLeft
  rcases h with rfl | rfl <;> simp <;> omega
def IterPost (J : Int → World → Prop) (Jx : World → Prop) (e : Ending) (W' : World) : Prop := (∃ v, e = .returned v) ∧ ((∃ s, ¬ isDayP s ∧ J s W') ∨ Jx W')
set_option maxHeartbeats 1000000 in
theorem days_raw (K : Where) (hst : K.step = 1 ∨ K.step = -1) (hHol : HolCalls K.A K.c K.l) (n : Nat) :
    SeqRaw Fence.wide n Tryd.prog 107 #[.pointer (some ⟨K.bf, 0, none⟩), .pointer (some ⟨K.bs, 0, none⟩), .pointer (some ⟨K.bc, 0, none⟩)]
      (fun d : Int => #[.int .i64 d]) (fun d => d + K.step) (DaysInv K) (DaysStep K) (DaysAsk K) (fun d => ¬ isDayP d) K.start := by
  intro l J Jx W hInv hStep hAsk h0
  show CallsIn Fence.wide n Tryd.prog 107 _ W (IterPost J Jx)
  refine callsIn_of_wp Tryd.func107 rfl trivial ?_ rfl
  simp only [Tryd.ntmps107, List.size_toArray, List.length_cons, List.length_nil, Nat.reduceAdd, Nat.reduceSub, Array.replicate_succ, Array.replicate_zero, List.push_toArray, List.append_toArray, List.nil_append, List.cons_append]
  have hf0 := (hInv _ _ h0).from_
  gi_wp2
  clear hf0
  gi_loopw [5] (fun v wr => ∃ d : Int, v = .int .i64 d ∧ J d wr) (fun v _ => stepsLeft K.step (intOf v))
  case atStart => exact ⟨K.start, rfl, h0⟩
  case round =>
    obtain ⟨d, rfl, hJ⟩ := hrel
    have hi := hInv _ _ hJ
    have hlo := hi.lo
    have hhi := hi.hi
    have hc1 := hi.st
    have hc2 := hi.cal
    by_cases hday : isDayP d
    · obtain ⟨hd0, hd1⟩ := id hday
      obtain ⟨nn, hca, hnn⟩ := hi.cache
      have hsl := stepsLeft_succ hst hday
      have hcald := hi.cald
      have hms : ∃ es cl, wr.heap[K.m]? = some (.map es cl) := by obtain ⟨f, h, _⟩ := hca; exact h.isMap
      have hw := works_any K.cb K.m K.A K.c K.l hHol d hd0 hd1 K.B nn wr hcald hca (by omega) hi.size
      have hrow : ∀ r, some K.m = some r → ∃ o : Obj, wr.heap[r]? = some o ∧ o.isCells = false := fun r e => by cases e; obtain ⟨es, cl, h⟩ := hms; exact ⟨_, h, rfl⟩
      have hk1 : ∀ w1, wr.grownBy w1 (some K.m) → w1.cell? ⟨K.bs, 0, none⟩ = some (.int .i64 K.step) := fun w1 hg => cell_kept hc1 hg hrow
      have hns := Lib.hid hnn
      have hsl' := Lib.hid hsl
      have hAll := Lib.hid (And.intro hi (And.intro hJ (And.intro hw hk1)))
      have hstep1 : -1 ≤ K.step := by omega
      have hstep2 : K.step ≤ 1 := by omega
      clear hca hnn hsl hcald hms hw hrow hk1 hi hJ
      gi_wp2_with (refine ⟨trivial, fun h => (by cases h), ?_⟩; gi_at_call 75; refine (callsIn_wide.2 (calls_in (isDay_any _ _) hd0 hd1)).mono ?_; rintro e w' ⟨rfl, rfl⟩)
      obtain ⟨hi, hJ, hw, hk1⟩ := hAll.out
      refine ⟨trivial, fun h => (by cases h), ?_⟩
      refine (callsIn_wide.2 hw).mono ?_
      clear hi hJ hw hk1
      rintro e w1 ⟨rfl, hg1, hca1⟩
      have hcache : CacheAt K (d + K.step) w1 := ⟨_, hca1, by have := hns.out; have := hsl'.out; omega⟩
      have hc1' := hAll.out.2.2.2 w1 hg1
      cases hwk : Cal.worksB K.l d
      · have hnext := Lib.hid (hStep d wr w1 hAll.out.2.1 ⟨hday, hwk, hg1, hcache⟩)
        clear hg1 hca1 hcache
        gi_wp2_with fail
        refine ⟨fun _ h => (by cases h), ?_⟩
        gi_wp2
        go_roundw
        case rel => exact ⟨d + K.step, by go_num, hnext.out⟩
        case measure => have := hsl'.out; simp [intOf]; omega
      · obtain ⟨fn, tmps, assign, body, hy, hR⟩ := hAsk d wr w1 hAll.out.2.1 ⟨hday, hwk, hg1, hcache⟩
        clear hg1 hca1 hcache
        gi_wp2
        refine ⟨fun h => (by cases h), ?_⟩
        refine hR.mono ?_
        clear hy hR hc1'
        rintro e w2 (⟨rfl, hJ2⟩ | ⟨rfl, hJx⟩)
        · have hc2' := (hInv _ _ hJ2).st
          have hJ2 := Lib.hid hJ2
          gi_wp2
          go_roundw
          case rel => exact ⟨d + K.step, by go_num, hJ2.out⟩
          case measure => have := hsl'.out; simp [intOf]; omega
        · have hJx := Lib.hid hJx
          gi_wp2
          refine bodyPost_ret (results_none rfl _ _ _) rfl ?_
          exact ⟨⟨_, rfl⟩, .inr hJx.out⟩
    · have hday' : d < 0 ∨ 200000 < d := by unfold isDayP at hday; omega
      have hAll := Lib.hid hJ
      clear hi hJ
      gi_wp2_with (refine ⟨trivial, fun h => (by cases h), ?_⟩; gi_at_call 75; refine (callsIn_wide.2 (calls_out (isDay_any _ _) (by omega))).mono ?_; rintro e w' ⟨rfl, rfl⟩)
      refine bodyPost_end (results_none rfl _ _ _) rfl ?_
      exact ⟨⟨_, rfl⟩, .inl ⟨d, hday, hAll.out⟩⟩
end Go.Proofs.YtoigamkldccnkaaDoor
