/- Chapter 8 and what it rests on: definitions and walks, part 14. -/
import Derived.Test.YtbinoelbjlgjkaaGreatDoorC13
import Derived.Test.YtbinoelbjlgjkaaGreatDoorC05
import Derived.Deep.RegionHeld3
namespace Go.Proofs.YtbinoelbjlgjkaaGreatDoor
open Go Go.RowKit Go.Shelf
theorem calendarOf_any (A : Option Addr) (n c : Nat) (W : World) :
    Calls Tryz.prog 130 #[.slice A n c] W fun e W' => e = .returned (.pointer (some ⟨W.heap.size + 1, 0, none⟩)) ∧ W' = (W.alloc (.map #[] 0)).alloc (.cells #[.slice A n c, .map (some W.heap.size)] 276) := by
  have hmm := @run_makeMap Tryz.prog
  go_enter Tryz.func130, Tryz.ntmps130
  go_wp2
  go_ret
  exact ⟨rfl, rfl⟩
theorem holCalls_nil (A : Option Addr) (c : Nat) : HolCalls A c [] := by
  intro y W y0 y1 _ hT
  clear hT
  go_enter Tryz.func288, Tryz.ntmps288
  go_wp2
  go_loop [5, 12] (fun o i => ∃ k : Nat, k ≤ 0 ∧ i = .int .i64 k ∧ o = .slice none 0 0) (fun _ i => (intOf i).toNat)
  case atStart => exact ⟨0, Nat.le_refl _, rfl, rfl⟩
  case round =>
    obtain ⟨k, hk, rfl, rfl⟩ := hrel
    go_wp2_with fail
    refine (Tryz.slices_Sort_int_none none 0 W).mono ?_
    rintro e w' ⟨rfl, hw⟩
    subst hw
    go_wp2_with fail
    refine (Tryz.slices_Compact_int_empty none 0 _).mono ?_
    rintro e w' ⟨rfl, hw⟩
    subst hw
    go_wp2
    go_ret
    exact ⟨.slice none 0 0, [], rfl, ⟨none, 0, rfl, by simp, fun h => absurd rfl h⟩, ⟨List.Pairwise.nil, fun d => by simp [Cal.hols]⟩, Below.refl _ _⟩
def Cal.addWorkingS (l : List Hol) (day n : Int) : Int × Int :=
  if Cal.holsErr l = 0 then (if 0 ≤ day ∧ day ≤ 200000 ∧ -2000 ≤ n ∧ n ≤ 2000 then (match Cal.addW l day n with | some x => (x, 0) | none => (0, 2)) else (0, 2)) else (0, Cal.holsErr l)
theorem cell_alloc_at (W : World) (cs : Array Value) (t : TypeId) (j : Nat) : (W.alloc (.cells cs t)).cell? ⟨W.heap.size, j, none⟩ = cs[j]? :=
  cell_of_row _ _ _ cs t (0, 0) (World.alloc_heap_new W _)
/-- The world behind calendarOf. -/
def calWorld (W : World) (A : Option Addr) (n c : Nat) : World := (W.alloc (.map #[] 0)).alloc (.cells #[.slice A n c, .map (some W.heap.size)] 276)
theorem calWorld_below (W : World) (A : Option Addr) (n c : Nat) : Below W.heap.size W (calWorld W A n c) := below_step (below_alloc _ _) (below_alloc _ _)
theorem calWorld_cal (W : World) (A : Option Addr) (c : Nat) (l : List Hol) (hl : Hols W A l) (hT : Tab W) : Calend (calWorld W A l.length c) (W.heap.size + 1) W.heap.size A c l := by
  have h := cell_alloc_at (W.alloc (.map #[] 0)) #[.slice A l.length c, .map (some W.heap.size)] 276
  rw [World.size_alloc] at h
  exact ⟨h 0, h 1, by unfold calWorld; simp, hl.below (calWorld_below _ _ _ _), hT.below (calWorld_below _ _ _ _)⟩
theorem calWorld_map (W : World) (A : Option Addr) (n c : Nat) : MapIs Tryz.prog 3 intLit (calWorld W A n c) W.heap.size 0 fun _ => none := (MapIs.made Tryz.prog 3 intLit W).alloc _
theorem below_of_grown {w W W' : World} {m : Nat} (h : Below w.heap.size w W) (hg : W.grownBy W' (some m)) (hm : w.heap.size ≤ m) : Below w.heap.size w W' := h.grown hg h.size (fun k e => by cases e; exact hm)
set_option maxHeartbeats 1000000 in
theorem AddWorking_any (A : Option Addr) (c : Nat) (l : List Hol) (hHol : Cal.holsErr l = 0 → HolCalls A c l) (day n : Int) (w : World) (hl : Hols w A l) (hT : Tab w) :
    Calls Tryz.prog 64 #[.slice A l.length c, .int .i64 day, .int .i64 n] w fun e w' => e = .returned (.tuple #[.int .i64 (Cal.addWorkingS l day n).1, .int .i64 (Cal.addWorkingS l day n).2]) ∧ Below w.heap.size w w' := by
  by_cases h0 : Cal.holsErr l = 0
  · have h0z := Lib.hid h0
    have hHC := Lib.hid (hHol h0)
    have h1 : (Cal.holsErr l != 0) = false := by simpa using h0
    clear h0 hHol
    by_cases hd : 0 ≤ day ∧ day ≤ 200000
    · obtain ⟨d0, d1⟩ := hd
      by_cases hn : -2000 ≤ n ∧ n ≤ 2000
      · obtain ⟨n0, n1⟩ := hn
        have hl' := Lib.hid hl
        have hT' := Lib.hid hT
        have hs : Hid (Cal.addWorkingS l day n = match Cal.addW l day n with | some x => (x, 0) | none => (0, 2)) := by show _ = _; unfold Cal.addWorkingS; rw [if_pos h0z.out, if_pos ⟨d0, d1, n0, n1⟩]
        clear hl hT
        go_enter Tryz.func64, Tryz.ntmps64
        go_wp2_with (first | (go_at_call 129; refine (CheckHolidays_any _ _ l _ hl'.out hT'.out).mono ?_; rintro e w1 ⟨rfl, hb1⟩) | (go_at_call 126; first | refine rin ?_ | refine rout ?_ | refine rany ?_) | (go_at_call 123; first | refine rin ?_ | refine rout ?_ | refine rany ?_))
        refine (calendarOf_any A l.length c w1).mono ?_
        rintro e w2 ⟨rfl, hw2⟩
        have hw2' : w2 = calWorld w1 A l.length c := hw2
        clear hw2
        have hb1' := Lib.hid hb1
        clear hb1
        go_wp2_with fail
        have ha := add_any (w1.heap.size + 1) w1.heap.size A c l hHC.out day n n0 n1 d0 d1 (calWorld w1 A l.length c) (calWorld_cal w1 A c l (hl'.out.below hb1'.out) (hT'.out.below hb1'.out)) (calWorld_map _ _ _ _)
        refine ha.mono ?_
        clear ha hw2'
        rintro e w3 ⟨he, hg⟩
        have hbb := Lib.hid (below_of_grown (below_step hb1'.out (calWorld_below w1 A l.length c)) hg hb1'.out.size)
        clear hg
        cases hr : Cal.addW l day n with
        | none =>
          rw [hr] at he
          unfold Cal.addV at he
          subst he
          have hfin : Hid (Cal.addWorkingS l day n = (0, 2)) := by show _ = _; rw [hs.out, hr]
          clear hr
          go_wp2
          go_ret2
          exact ⟨by rw [hfin.out]; rfl, hbb.out⟩
        | some x =>
          rw [hr] at he
          unfold Cal.addV at he
          subst he
          have hfin : Hid (Cal.addWorkingS l day n = (x, 0)) := by show _ = _; rw [hs.out, hr]
          clear hr
          go_wp2
          go_ret2
          exact ⟨by rw [hfin.out]; rfl, hbb.out⟩
      · have hfin : Hid (Cal.addWorkingS l day n = (0, 2)) := by show _ = _; unfold Cal.addWorkingS; rw [if_pos h0z.out, if_neg (by omega)]
        have hl' := Lib.hid hl
        have hT' := Lib.hid hT
        have hn' : n < -2000 ∨ 2000 < n := by omega
        clear hl hT hn
        go_enter Tryz.func64, Tryz.ntmps64
        go_wp2_with (first | (go_at_call 129; refine (CheckHolidays_any _ _ l _ hl'.out hT'.out).mono ?_; rintro e w1 ⟨rfl, hb1⟩) | (go_at_call 126; first | refine rin ?_ | refine rout ?_ | refine rany ?_) | (go_at_call 123; first | refine rin ?_ | refine rout ?_ | refine rany ?_))
        go_ret2
        exact ⟨by rw [hfin.out]; rfl, hb1⟩
    · have hfin : Hid (Cal.addWorkingS l day n = (0, 2)) := by show _ = _; unfold Cal.addWorkingS; rw [if_pos h0z.out, if_neg (by omega)]
      have hl' := Lib.hid hl
      have hT' := Lib.hid hT
      have hd' : day < 0 ∨ 200000 < day := by omega
      clear hl hT hd
      go_enter Tryz.func64, Tryz.ntmps64
      go_wp2_with (first | (go_at_call 129; refine (CheckHolidays_any _ _ l _ hl'.out hT'.out).mono ?_; rintro e w1 ⟨rfl, hb1⟩) | (go_at_call 126; first | refine rin ?_ | refine rout ?_ | refine rany ?_) | (go_at_call 123; first | refine rin ?_ | refine rout ?_ | refine rany ?_))
      go_ret2
      exact ⟨by rw [hfin.out]; rfl, hb1⟩
  · have h0z := Lib.hid h0
    have h1 : (Cal.holsErr l != 0) = true := by simpa using h0
    have hfin : Hid (Cal.addWorkingS l day n = (0, Cal.holsErr l)) := by show _ = _; unfold Cal.addWorkingS; rw [if_neg h0z.out]
    have hl' := Lib.hid hl
    have hT' := Lib.hid hT
    clear hl hT h0 hHol
    go_enter Tryz.func64, Tryz.ntmps64
    go_wp2_with (first | (go_at_call 129; refine (CheckHolidays_any _ _ l _ hl'.out hT'.out).mono ?_; rintro e w1 ⟨rfl, hb1⟩))
    go_ret2
    exact ⟨by rw [hfin.out]; rfl, hb1⟩
end Go.Proofs.YtbinoelbjlgjkaaGreatDoor
namespace Go.Proofs.YtbinoelbjlgjkaaGreatDoor
open Go Go.RowKit
def feeName : ByteArray := ⟨#[102, 101, 101]⟩
def feeList : List Prov := [⟨feeName, 100, 10, 5, false⟩, ⟨feeName, 120, 20, 15, false⟩, ⟨feeName, 110, 20, 25, false⟩, ⟨feeName, 0, 30, 28, true⟩]
def feeCells : Array Value := #[.string ⟨#[102, 101, 101]⟩, .int .i64 100, .int .i64 10, .int .i64 5, .bool false, .string ⟨#[102, 101, 101]⟩, .int .i64 120, .int .i64 20, .int .i64 15, .bool false, .string ⟨#[102, 101, 101]⟩, .int .i64 110, .int .i64 20, .int .i64 25, .bool false, .string ⟨#[102, 101, 101]⟩, .int .i64 0, .int .i64 30, .int .i64 28, .bool true]
theorem dayOf_awake : Cal.dayOfS 1804 2 29 = (1519, 0) := by decide +kernel
theorem easter_awake : Cal.easter 1800 = 102 := by decide +kernel
theorem addWorking_awake : Cal.addWorkingS [] 0 3 = (5, 0) := by decide +kernel
theorem value_awake : Cal.valueS feeList feeName 25 20 = (120, 0) := by decide +kernel
theorem holsErr_nil : Cal.holsErr [] = 0 := by decide +kernel
theorem Fee_any (w : World) : Calls Tryz.prog 65 #[] w fun e w' => e = .returned (.slice (some ⟨w.heap.size, 0, none⟩) 4 4) ∧ w' = w.alloc (.cells feeCells 24) := by
  go_enter Tryz.func65, Tryz.ntmps65
  go_wp2
  go_ret
  exact ⟨rfl, rfl⟩
theorem feeRows : ∀ (k : Nat) r, (feeList.map Prov.cells)[k]? = some r → ∀ (j : Nat) v, r[j]? = some v → feeCells[0 + (k * 5 + j)]? = some v := by
  intro k r hr j v hv
  match k, hr with
  | 0, hr => simp only [feeList, List.map_cons, List.getElem?_cons_zero, Option.some.injEq] at hr; subst hr; match j, hv with
    | 0, hv => exact hv
    | 1, hv => exact hv
    | 2, hv => exact hv
    | 3, hv => exact hv
    | 4, hv => exact hv
  | 1, hr => simp only [feeList, List.map_cons, List.getElem?_cons_succ, List.getElem?_cons_zero, Option.some.injEq] at hr; subst hr; match j, hv with
    | 0, hv => exact hv
    | 1, hv => exact hv
    | 2, hv => exact hv
    | 3, hv => exact hv
    | 4, hv => exact hv
  | 2, hr => simp only [feeList, List.map_cons, List.getElem?_cons_succ, List.getElem?_cons_zero, Option.some.injEq] at hr; subst hr; match j, hv with
    | 0, hv => exact hv
    | 1, hv => exact hv
    | 2, hv => exact hv
    | 3, hv => exact hv
    | 4, hv => exact hv
  | 3, hr => simp only [feeList, List.map_cons, List.getElem?_cons_succ, List.getElem?_cons_zero, Option.some.injEq] at hr; subst hr; match j, hv with
    | 0, hv => exact hv
    | 1, hv => exact hv
    | 2, hv => exact hv
    | 3, hv => exact hv
    | 4, hv => exact hv
theorem feeProvs (w : World) (t : TypeId) : Provs (w.alloc (.cells feeCells t)) (some ⟨w.heap.size, 0, none⟩) feeList :=
  ⟨fun k r hr => ⟨w.heap.size, 0, rfl, by simp, fun j v hv => by rw [cell_alloc_at]; exact feeRows k r hr j v hv⟩, by decide, fun k p hp => by
    have : p ∈ feeList := List.mem_of_getElem? hp
    simp only [feeList, List.mem_cons, List.not_mem_nil, or_false] at this
    rcases this with rfl | rfl | rfl | rfl <;> exact (by decide : feeName.size ≤ maxLen)⟩
set_option maxHeartbeats 1000000 in
theorem awake_any (w : World) (hT : Tab w) : Calls Tryz.prog 12 #[] w fun e w' => e = .returned (.bool true) ∧ Below w.heap.size w w' := by
  have hT1 := Lib.hid (fun w1 (h : Below w.heap.size w w1) => hT.below h)
  have hd := DayOf_any 1804 2 29 w hT
  rw [dayOf_awake] at hd
  have he := fun w1 (h : Below w.heap.size w w1) => Easter_any 1800 (by omega) (by omega) w1 (hT.below h)
  rw [easter_awake] at he
  have ha := fun w1 (h : Below w.heap.size w w1) => AddWorking_any none 0 [] (fun _ => holCalls_nil none 0) 0 3 w1 (Hols.nil _ _) (hT.below h)
  rw [addWorking_awake] at ha
  have hv := fun w1 (t : TypeId) => Value_any (some ⟨w1.heap.size, 0, none⟩) 4 feeList feeName 25 20 (w1.alloc (.cells feeCells t)) (feeProvs w1 t)
  rw [value_awake] at hv
  have hd := Lib.hid hd
  have he := Lib.hid he
  have ha := Lib.hid ha
  have hv := Lib.hid hv
  clear hT
  go_enter Tryz.func12, Tryz.ntmps12
  go_wp2_with fail
  refine hd.out.mono ?_
  rintro e w1 ⟨rfl, hb1⟩
  have hb1 := Lib.hid hb1
  go_wp2_with fail
  refine (he.out w1 hb1.out).mono ?_
  rintro e w1 ⟨rfl, rfl⟩
  go_wp2_with fail
  refine (ha.out _ hb1.out).mono ?_
  rintro e w2 ⟨rfl, hb2⟩
  have hb2 := Lib.hid (below_step hb1.out hb2)
  go_wp2_with fail
  refine (Fee_any w2).mono ?_
  rintro e w3 ⟨rfl, rfl⟩
  go_wp2_with fail
  refine (hv.out w2 _).mono ?_
  rintro e w4 ⟨rfl, hb4⟩
  have hb4 := Lib.hid (below_step (hb2.out.alloc hb2.out.size _) hb4)
  go_wp2
  go_ret
  exact ⟨rfl, hb4.out⟩
end Go.Proofs.YtbinoelbjlgjkaaGreatDoor
namespace Go.Proofs.YtbinoelbjlgjkaaGreatDoor
open Go Go.RowKit
/-- A boxed provision. -/
structure ProvAt (w : World) (B : Nat) (p : Prov) : Prop where
  c0 : w.cell? ⟨B, 0, none⟩ = some (.string p.name)
  c1 : w.cell? ⟨B, 1, none⟩ = some (.int .i64 p.value)
  c2 : w.cell? ⟨B, 2, none⟩ = some (.int .i64 p.fr)
  c3 : w.cell? ⟨B, 3, none⟩ = some (.int .i64 p.en)
  c4 : w.cell? ⟨B, 4, none⟩ = some (.bool p.repeal)
  lt : B < w.heap.size
theorem ProvAt.below {w w' : World} {B : Nat} {p : Prov} (h : ProvAt w B p) (hb : Below w.heap.size w w') : ProvAt w' B p :=
  ⟨(hb.cell (p := ⟨B, 0, none⟩) h.lt).trans h.c0, (hb.cell (p := ⟨B, 1, none⟩) h.lt).trans h.c1, (hb.cell (p := ⟨B, 2, none⟩) h.lt).trans h.c2, (hb.cell (p := ⟨B, 3, none⟩) h.lt).trans h.c3, (hb.cell (p := ⟨B, 4, none⟩) h.lt).trans h.c4, Nat.lt_of_lt_of_le h.lt hb.size⟩
theorem ProvAt.all {w : World} {B : Nat} {p : Prov} (h : ProvAt w B p) : w.cell? ⟨B, 0, none⟩ = some (.string p.name) ∧ w.cell? ⟨B, 1, none⟩ = some (.int .i64 p.value) ∧ w.cell? ⟨B, 2, none⟩ = some (.int .i64 p.fr) ∧ w.cell? ⟨B, 3, none⟩ = some (.int .i64 p.en) ∧ w.cell? ⟨B, 4, none⟩ = some (.bool p.repeal) := ⟨h.c0, h.c1, h.c2, h.c3, h.c4⟩
theorem ProvAt.new (w : World) (p : Prov) (t : TypeId) : ProvAt (w.alloc (.cells #[.string p.name, .int .i64 p.value, .int .i64 p.fr, .int .i64 p.en, .bool p.repeal] t)) w.heap.size p := ⟨by simp, by simp, by simp, by simp, by simp, by simp⟩
def Cal.nextErr (l : List Prov) (p : Prov) : Int :=
  if Cal.provsErr l = 0 then (if Cal.provsErr (l ++ [p]) = 0 then (if p.repeal = true ∧ (Cal.valOf l p.name p.fr p.en).2 = false then 6 else 0) else Cal.provsErr (l ++ [p])) else Cal.provsErr l
def Cal.nextL (l : List Prov) (p : Prov) : List Prov := if Cal.nextErr l p = 0 then l ++ [p] else []
def NextPost (w : World) (l : List Prov) (p : Prov) (e : Ending) (w' : World) : Prop :=
  ∃ A c, e = .returned (.tuple #[.slice A (Cal.nextL l p).length c, .int .i64 (Cal.nextErr l p)]) ∧ Provs w' A (Cal.nextL l p) ∧ Below w.heap.size w w'
theorem Cal.provsErr_le {l : List Prov} (h : Cal.provsErr l = 0) : l.length ≤ 200 := by
  unfold Cal.provsErr at h; split at h <;> omega
theorem nextPost_err {w w' : World} {l : List Prov} {p : Prov} {r : Int} (h : Cal.nextErr l p = r) (hr : r ≠ 0) (hb : Below w.heap.size w w') : NextPost w l p (.returned (.tuple #[.slice none 0 0, .int .i64 r])) w' := by
  have hL : Cal.nextL l p = [] := by unfold Cal.nextL; rw [if_neg (by rw [h]; exact hr)]
  exact ⟨none, 0, by rw [hL, h]; rfl, by rw [hL]; exact ⟨RowsAt.nil _ _ _, by simp, fun k p h => by simp at h⟩, hb⟩
theorem names_snoc {l : List Prov} {p : Prov} (h : ∀ (k : Nat) q, l[k]? = some q → q.name.size ≤ maxLen) (hp : p.name.size ≤ maxLen) : ∀ (k : Nat) q, (l ++ [p])[k]? = some q → q.name.size ≤ maxLen := fun k q hq => by
  rw [List.getElem?_append] at hq
  split at hq
  · exact h k q hq
  · have : q = p := by
      have := List.mem_of_getElem? hq
      simpa using this
    rw [this]; exact hp
theorem field_dec1 (v : Int) (b : Bool) (w : World) : (Instr.field 133 (.agg #[.int .i64 v, .bool b]) 1).run Tryz.prog w = .ok (.bool b) w := by kernel_rfl
set_option maxRecDepth 100000 in
set_option maxHeartbeats 2000000 in
theorem Next_any (A : Option Addr) (c : Nat) (l : List Prov) (p : Prov) (w : World) (hl : Provs w A l) (hp : p.name.size ≤ maxLen) :
    Calls Tryz.prog 15 #[.slice A l.length c, .agg #[.string p.name, .int .i64 p.value, .int .i64 p.fr, .int .i64 p.en, .bool p.repeal]] w (NextPost w l p) := by
  have hnew := Lib.hid (ProvAt.new w p 24)
  have hl' := Lib.hid (fun w1 (h : Below w.heap.size w w1) => hl.below h)
  have hba := Lib.hid (below_alloc w (.cells #[.string p.name, .int .i64 p.value, .int .i64 p.fr, .int .i64 p.en, .bool p.repeal] 24))
  have hnm := Lib.hid (names_snoc hl.names hp)
  clear hl
  by_cases h0 : Cal.provsErr l = 0
  · have h0z := Lib.hid h0
    have h1 : (Cal.provsErr l != 0) = false := by simpa using h0
    have hs := Cal.provsErr_le h0
    clear h0
    obtain ⟨l2, hl2⟩ : ∃ l2, Hid (l2 = l ++ [p]) := ⟨_, rfl⟩
    by_cases h2 : Cal.provsErr l2 = 0
    · have h2z := Lib.hid h2
      have h3 : (Cal.provsErr l2 != 0) = false := by simpa using h2
      clear h2
      rcases (Bool.eq_false_or_eq_true p.repeal).symm with hr | hr
      · have hrz := Lib.hid hr
        have hE : Hid (Cal.nextErr l p = 0) := by show _ = _; unfold Cal.nextErr; rw [← hl2.out]; rw [if_pos h0z.out, if_pos h2z.out, if_neg (by rw [hr]; simp)]
        have hL : Hid (Cal.nextL l p = l2) := by show _ = _; unfold Cal.nextL; rw [← hl2.out]; rw [if_pos hE.out]
        clear hr
        go_enter Tryz.func15, Tryz.ntmps15
        go_wp2_with (go_at_call 66; refine (CheckProvisions_any _ _ l _ (hl'.out _ hba.out)).mono ?_; rintro e w1 ⟨rfl, hb1⟩)
        have hx1 := hnew.out.below hb1
        have hbw := Lib.hid (below_step hba.out hb1)
        clear hb1
        go_region_held3 (fun w' => w'.cell? ⟨w.heap.size, 0, none⟩ = some (.string p.name) ∧ w'.cell? ⟨w.heap.size, 1, none⟩ = some (.int .i64 p.value) ∧ w'.cell? ⟨w.heap.size, 2, none⟩ = some (.int .i64 p.fr) ∧ w'.cell? ⟨w.heap.size, 3, none⟩ = some (.int .i64 p.en) ∧ w'.cell? ⟨w.heap.size, 4, none⟩ = some (.bool p.repeal)) (first | exact hx1.all | exact hx2.all | exact hx3.all | exact (hx2.below (below_alloc _ _)).all | exact (hx1.below (below_alloc _ _)).all | fail) (first
          | (go_at_call 67; refine (Clone_any A c l _ (hl'.out _ (by have hbw' := hbw.out; have hbs := hbw'.size; exact blw)) (by omega)).mono ?_; rintro e w2 ⟨v, rfl, hown, hb2⟩; first | (have hx2 := hx1.below (below_of_drewN (n := 1) hb2)) | (have hx2 := hx1.below (below_step (below_alloc _ _) (below_of_drewN (n := 1) hb2))))
          | (refine step_append_rows elemProv (by rfl) _ _ (by rfl) (by rfl) (by rfl) (hown.below (below_alloc _ _)) (rowsAt_new _ p.cells _) rfl (provCells_wid [p]) (provCells_one [p]) (by simp; omega) (by decide) (by have := hb2.size; simp at this ⊢; omega) ?_; intro v' w3 hown3 hg3 hob3; have hb13 : Below w1.heap.size w1 w3 := ((below_of_drewN (n := 1) hb2).alloc hb2.size _).trans (grown_below hg3 (fun g e => (hown.lt g e).1) (by have := hb2.size; simp at this ⊢; omega)); have hx3 := hx1.below hb13)
          | (refine step_append_rows elemProv (by rfl) _ _ (by rfl) (by rfl) (by rfl) hown ((rowsAt_new _ p.cells _).below (below_of_drewN (n := 1) hb2)) rfl (provCells_wid [p]) (provCells_one [p]) (by simp; omega) (by decide) (by have := hb2.size; simp at this ⊢; omega) ?_; intro v' w3 hown3 hg3 hob3; have hb13 : Below w1.heap.size w1 w3 := (below_step (below_alloc _ _) (below_of_drewN (n := 1) hb2)).trans (grown_below hg3 (fun g e => by have := (hown.lt g e).1; simp at this; omega) (by have := hb2.size; simp at this; omega)); have hx3 := hx1.below hb13)
          | fail)
        all_goals
          have hbw3 := Lib.hid (below_step hbw.out hb13)
          obtain ⟨A3, k3, rfl, hl3⟩ := OwnL.provs (l := l2) (by rw [hl2.out, List.map_append]; exact hown3) (by rw [hl2.out]; simp; omega) (by rw [hl2.out]; exact hnm.out)
          have hx3' := Lib.hid hx3
          have hl3' := Lib.hid hl3
          clear hx1 hx2 hx3 hl3 hown hown3 hb2 hb13 hg3 hob3
          go_wp2_with fail
          refine (CheckProvisions_any _ _ l2 _ hl3'.out).mono ?_
          rintro e w4 ⟨rfl, hb4⟩
          have hbw4 := Lib.hid (below_step hbw3.out hb4)
          have hl4 := Lib.hid (hl3'.out.below hb4)
          have hx4 := Lib.hid (hx3'.out.below hb4)
          clear hb4
          have x0 := hx4.out.c0
          have x2 := hx4.out.c2
          have x3 := hx4.out.c3
          have x4 := hx4.out.c4
          rw [hrz.out] at x4
          go_wp2
          go_ret2
          exact ⟨A3, k3, by rw [hE.out, hL.out]; rfl, by rw [hL.out]; exact hl4.out, hbw4.out⟩
      · have hrz := Lib.hid hr
        have hval := fun w1 (h : Below w.heap.size w w1) => valueOf_any A c l p.name p.fr p.en w1 (hl'.out w1 h)
        have hfld := fun v b w => field_dec1 v b w
        rcases hvq : Cal.valOf l p.name p.fr p.en with ⟨vv, vb⟩
        simp only [hvq] at hval
        cases vb
        · have hE : Hid (Cal.nextErr l p = 6) := by show _ = _; unfold Cal.nextErr; rw [← hl2.out]; rw [if_pos h0z.out, if_pos h2z.out, if_pos ⟨hr, by rw [hvq]⟩]
          have hval := Lib.hid hval
          clear hr hvq
          go_enter Tryz.func15, Tryz.ntmps15
          go_wp2_with (go_at_call 66; refine (CheckProvisions_any _ _ l _ (hl'.out _ hba.out)).mono ?_; rintro e w1 ⟨rfl, hb1⟩)
          have hx1 := hnew.out.below hb1
          have hbw := Lib.hid (below_step hba.out hb1)
          clear hb1
          go_region_held3 (fun w' => w'.cell? ⟨w.heap.size, 0, none⟩ = some (.string p.name) ∧ w'.cell? ⟨w.heap.size, 1, none⟩ = some (.int .i64 p.value) ∧ w'.cell? ⟨w.heap.size, 2, none⟩ = some (.int .i64 p.fr) ∧ w'.cell? ⟨w.heap.size, 3, none⟩ = some (.int .i64 p.en) ∧ w'.cell? ⟨w.heap.size, 4, none⟩ = some (.bool p.repeal)) (first | exact hx1.all | exact hx2.all | exact hx3.all | exact (hx2.below (below_alloc _ _)).all | exact (hx1.below (below_alloc _ _)).all | fail) (first
            | (go_at_call 67; refine (Clone_any A c l _ (hl'.out _ (by have hbw' := hbw.out; have hbs := hbw'.size; exact blw)) (by omega)).mono ?_; rintro e w2 ⟨v, rfl, hown, hb2⟩; first | (have hx2 := hx1.below (below_of_drewN (n := 1) hb2)) | (have hx2 := hx1.below (below_step (below_alloc _ _) (below_of_drewN (n := 1) hb2))))
            | (refine step_append_rows elemProv (by rfl) _ _ (by rfl) (by rfl) (by rfl) (hown.below (below_alloc _ _)) (rowsAt_new _ p.cells _) rfl (provCells_wid [p]) (provCells_one [p]) (by simp; omega) (by decide) (by have := hb2.size; simp at this ⊢; omega) ?_; intro v' w3 hown3 hg3 hob3; have hb13 : Below w1.heap.size w1 w3 := ((below_of_drewN (n := 1) hb2).alloc hb2.size _).trans (grown_below hg3 (fun g e => (hown.lt g e).1) (by have := hb2.size; simp at this ⊢; omega)); have hx3 := hx1.below hb13)
            | (refine step_append_rows elemProv (by rfl) _ _ (by rfl) (by rfl) (by rfl) hown ((rowsAt_new _ p.cells _).below (below_of_drewN (n := 1) hb2)) rfl (provCells_wid [p]) (provCells_one [p]) (by simp; omega) (by decide) (by have := hb2.size; simp at this ⊢; omega) ?_; intro v' w3 hown3 hg3 hob3; have hb13 : Below w1.heap.size w1 w3 := (below_step (below_alloc _ _) (below_of_drewN (n := 1) hb2)).trans (grown_below hg3 (fun g e => by have := (hown.lt g e).1; simp at this; omega) (by have := hb2.size; simp at this; omega)); have hx3 := hx1.below hb13)
            | fail)
          all_goals
            have hbw3 := Lib.hid (below_step hbw.out hb13)
            obtain ⟨A3, k3, rfl, hl3⟩ := OwnL.provs (l := l2) (by rw [hl2.out, List.map_append]; exact hown3) (by rw [hl2.out]; simp; omega) (by rw [hl2.out]; exact hnm.out)
            have hx3' := Lib.hid hx3
            have hl3' := Lib.hid hl3
            clear hx1 hx2 hx3 hl3 hown hown3 hb2 hb13 hg3 hob3
            go_wp2_with fail
            refine (CheckProvisions_any _ _ l2 _ hl3'.out).mono ?_
            rintro e w4 ⟨rfl, hb4⟩
            have hbw4 := Lib.hid (below_step hbw3.out hb4)
            have hl4 := Lib.hid (hl3'.out.below hb4)
            have hx4 := Lib.hid (hx3'.out.below hb4)
            clear hb4
            have x0 := hx4.out.c0
            have x2 := hx4.out.c2
            have x3 := hx4.out.c3
            have x4 := hx4.out.c4
            rw [hrz.out] at x4
            go_wp2_with (go_at_call 68; refine (hval.out _ hbw4.out).mono ?_; rintro e w5 ⟨rfl, hb5⟩)
            go_ret2
            exact nextPost_err hE.out (by decide) (below_step hbw4.out hb5)
        · have hE : Hid (Cal.nextErr l p = 0) := by show _ = _; unfold Cal.nextErr; rw [← hl2.out]; rw [if_pos h0z.out, if_pos h2z.out, if_neg (by rw [hvq]; simp)]
          have hL : Hid (Cal.nextL l p = l2) := by show _ = _; unfold Cal.nextL; rw [← hl2.out]; rw [if_pos hE.out]
          have hval := Lib.hid hval
          clear hr hvq
          go_enter Tryz.func15, Tryz.ntmps15
          go_wp2_with (go_at_call 66; refine (CheckProvisions_any _ _ l _ (hl'.out _ hba.out)).mono ?_; rintro e w1 ⟨rfl, hb1⟩)
          have hx1 := hnew.out.below hb1
          have hbw := Lib.hid (below_step hba.out hb1)
          clear hb1
          go_region_held3 (fun w' => w'.cell? ⟨w.heap.size, 0, none⟩ = some (.string p.name) ∧ w'.cell? ⟨w.heap.size, 1, none⟩ = some (.int .i64 p.value) ∧ w'.cell? ⟨w.heap.size, 2, none⟩ = some (.int .i64 p.fr) ∧ w'.cell? ⟨w.heap.size, 3, none⟩ = some (.int .i64 p.en) ∧ w'.cell? ⟨w.heap.size, 4, none⟩ = some (.bool p.repeal)) (first | exact hx1.all | exact hx2.all | exact hx3.all | exact (hx2.below (below_alloc _ _)).all | exact (hx1.below (below_alloc _ _)).all | fail) (first
            | (go_at_call 67; refine (Clone_any A c l _ (hl'.out _ (by have hbw' := hbw.out; have hbs := hbw'.size; exact blw)) (by omega)).mono ?_; rintro e w2 ⟨v, rfl, hown, hb2⟩; first | (have hx2 := hx1.below (below_of_drewN (n := 1) hb2)) | (have hx2 := hx1.below (below_step (below_alloc _ _) (below_of_drewN (n := 1) hb2))))
            | (refine step_append_rows elemProv (by rfl) _ _ (by rfl) (by rfl) (by rfl) (hown.below (below_alloc _ _)) (rowsAt_new _ p.cells _) rfl (provCells_wid [p]) (provCells_one [p]) (by simp; omega) (by decide) (by have := hb2.size; simp at this ⊢; omega) ?_; intro v' w3 hown3 hg3 hob3; have hb13 : Below w1.heap.size w1 w3 := ((below_of_drewN (n := 1) hb2).alloc hb2.size _).trans (grown_below hg3 (fun g e => (hown.lt g e).1) (by have := hb2.size; simp at this ⊢; omega)); have hx3 := hx1.below hb13)
            | (refine step_append_rows elemProv (by rfl) _ _ (by rfl) (by rfl) (by rfl) hown ((rowsAt_new _ p.cells _).below (below_of_drewN (n := 1) hb2)) rfl (provCells_wid [p]) (provCells_one [p]) (by simp; omega) (by decide) (by have := hb2.size; simp at this ⊢; omega) ?_; intro v' w3 hown3 hg3 hob3; have hb13 : Below w1.heap.size w1 w3 := (below_step (below_alloc _ _) (below_of_drewN (n := 1) hb2)).trans (grown_below hg3 (fun g e => by have := (hown.lt g e).1; simp at this; omega) (by have := hb2.size; simp at this; omega)); have hx3 := hx1.below hb13)
            | fail)
          all_goals
            have hbw3 := Lib.hid (below_step hbw.out hb13)
            obtain ⟨A3, k3, rfl, hl3⟩ := OwnL.provs (l := l2) (by rw [hl2.out, List.map_append]; exact hown3) (by rw [hl2.out]; simp; omega) (by rw [hl2.out]; exact hnm.out)
            have hx3' := Lib.hid hx3
            have hl3' := Lib.hid hl3
            clear hx1 hx2 hx3 hl3 hown hown3 hb2 hb13 hg3 hob3
            go_wp2_with fail
            refine (CheckProvisions_any _ _ l2 _ hl3'.out).mono ?_
            rintro e w4 ⟨rfl, hb4⟩
            have hbw4 := Lib.hid (below_step hbw3.out hb4)
            have hl4 := Lib.hid (hl3'.out.below hb4)
            have hx4 := Lib.hid (hx3'.out.below hb4)
            clear hb4
            have x0 := hx4.out.c0
            have x2 := hx4.out.c2
            have x3 := hx4.out.c3
            have x4 := hx4.out.c4
            rw [hrz.out] at x4
            go_wp2_with (go_at_call 68; refine (hval.out _ hbw4.out).mono ?_; rintro e w5 ⟨rfl, hb5⟩)
            go_ret2
            exact ⟨A3, k3, by rw [hE.out, hL.out]; rfl, by rw [hL.out]; exact hl4.out.below hb5, below_step hbw4.out hb5⟩
    · have h2z := Lib.hid h2
      have h3 : (Cal.provsErr l2 != 0) = true := by simpa using h2
      have hE : Hid (Cal.nextErr l p = Cal.provsErr l2) := by show _ = _; unfold Cal.nextErr; rw [← hl2.out]; rw [if_pos h0z.out, if_neg h2]
      clear h2
      go_enter Tryz.func15, Tryz.ntmps15
      go_wp2_with (go_at_call 66; refine (CheckProvisions_any _ _ l _ (hl'.out _ hba.out)).mono ?_; rintro e w1 ⟨rfl, hb1⟩)
      have hx1 := hnew.out.below hb1
      have hbw := Lib.hid (below_step hba.out hb1)
      clear hb1
      go_region_held3 (fun w' => w'.cell? ⟨w.heap.size, 0, none⟩ = some (.string p.name) ∧ w'.cell? ⟨w.heap.size, 1, none⟩ = some (.int .i64 p.value) ∧ w'.cell? ⟨w.heap.size, 2, none⟩ = some (.int .i64 p.fr) ∧ w'.cell? ⟨w.heap.size, 3, none⟩ = some (.int .i64 p.en) ∧ w'.cell? ⟨w.heap.size, 4, none⟩ = some (.bool p.repeal)) (first | exact hx1.all | exact hx2.all | exact hx3.all | exact (hx2.below (below_alloc _ _)).all | exact (hx1.below (below_alloc _ _)).all | fail) (first
        | (go_at_call 67; refine (Clone_any A c l _ (hl'.out _ (by have hbw' := hbw.out; have hbs := hbw'.size; exact blw)) (by omega)).mono ?_; rintro e w2 ⟨v, rfl, hown, hb2⟩; first | (have hx2 := hx1.below (below_of_drewN (n := 1) hb2)) | (have hx2 := hx1.below (below_step (below_alloc _ _) (below_of_drewN (n := 1) hb2))))
        | (refine step_append_rows elemProv (by rfl) _ _ (by rfl) (by rfl) (by rfl) (hown.below (below_alloc _ _)) (rowsAt_new _ p.cells _) rfl (provCells_wid [p]) (provCells_one [p]) (by simp; omega) (by decide) (by have := hb2.size; simp at this ⊢; omega) ?_; intro v' w3 hown3 hg3 hob3; have hb13 : Below w1.heap.size w1 w3 := ((below_of_drewN (n := 1) hb2).alloc hb2.size _).trans (grown_below hg3 (fun g e => (hown.lt g e).1) (by have := hb2.size; simp at this ⊢; omega)); have hx3 := hx1.below hb13)
        | (refine step_append_rows elemProv (by rfl) _ _ (by rfl) (by rfl) (by rfl) hown ((rowsAt_new _ p.cells _).below (below_of_drewN (n := 1) hb2)) rfl (provCells_wid [p]) (provCells_one [p]) (by simp; omega) (by decide) (by have := hb2.size; simp at this ⊢; omega) ?_; intro v' w3 hown3 hg3 hob3; have hb13 : Below w1.heap.size w1 w3 := (below_step (below_alloc _ _) (below_of_drewN (n := 1) hb2)).trans (grown_below hg3 (fun g e => by have := (hown.lt g e).1; simp at this; omega) (by have := hb2.size; simp at this; omega)); have hx3 := hx1.below hb13)
        | fail)
      all_goals
        have hbw3 := Lib.hid (below_step hbw.out hb13)
        obtain ⟨A3, k3, rfl, hl3⟩ := OwnL.provs (l := l2) (by rw [hl2.out, List.map_append]; exact hown3) (by rw [hl2.out]; simp; omega) (by rw [hl2.out]; exact hnm.out)
        have hx3' := Lib.hid hx3
        have hl3' := Lib.hid hl3
        clear hx1 hx2 hx3 hl3 hown hown3 hb2 hb13 hg3 hob3
        go_wp2_with fail
        refine (CheckProvisions_any _ _ l2 _ hl3'.out).mono ?_
        rintro e w4 ⟨rfl, hb4⟩
        have hbw4 := Lib.hid (below_step hbw3.out hb4)
        have hl4 := Lib.hid (hl3'.out.below hb4)
        have hx4 := Lib.hid (hx3'.out.below hb4)
        clear hb4
        have x0 := hx4.out.c0
        have x2 := hx4.out.c2
        have x3 := hx4.out.c3
        have x4 := hx4.out.c4
        go_wp2
        go_ret2
        exact nextPost_err hE.out h2z.out hbw4.out
  · have h0z := Lib.hid h0
    have h1 : (Cal.provsErr l != 0) = true := by simpa using h0
    have hfin : Hid (Cal.nextErr l p = Cal.provsErr l) := by show _ = _; unfold Cal.nextErr; rw [if_neg h0z.out]
    clear h0
    go_enter Tryz.func15, Tryz.ntmps15
    go_wp2_with (go_at_call 66; refine (CheckProvisions_any _ _ l _ (hl'.out _ hba.out)).mono ?_; rintro e w1 ⟨rfl, hb1⟩)
    go_ret2
    exact nextPost_err hfin.out h0z.out (below_step hba.out hb1)

theorem RowsAt.far {w w' : World} {row : Option Nat} {A : Option Addr} {m : Nat} {rows : List (List Value)} (h : RowsAt w A m rows) (hg : w.grownBy w' row) (hne : ∀ a, A = some a → some a.block ≠ row) : RowsAt w' A m rows := fun k r hr => by
  obtain ⟨b, o, hA, hlt, hc⟩ := h k r hr
  exact ⟨b, o, hA, Nat.lt_of_lt_of_le hlt hg.size, fun j v hv => hg.cell (hc j v hv) (show some b ≠ row from hne ⟨b, o, none⟩ hA)⟩
end Go.Proofs.YtbinoelbjlgjkaaGreatDoor
