/- Chapter 8 and what it rests on: definitions and walks, part 30. -/
import Derived.Test.YtbegbajlagcbdaaGreatDoorC29
import Derived.Test.YtbegbajlagcbdaaGreatDoorC15
namespace Go.Proofs.YtbegbajlagcbdaaGreatDoor
open Go Go.RowKit
def feeName : ByteArray := ⟨#[102, 101, 101]⟩
def feeList : List Prov := [⟨feeName, 100, 10, 5, false⟩, ⟨feeName, 120, 20, 15, false⟩, ⟨feeName, 110, 20, 25, false⟩, ⟨feeName, 0, 30, 28, true⟩]
def feeCells : Array Value := #[.string ⟨#[102, 101, 101]⟩, .int .i64 100, .int .i64 10, .int .i64 5, .bool false, .string ⟨#[102, 101, 101]⟩, .int .i64 120, .int .i64 20, .int .i64 15, .bool false, .string ⟨#[102, 101, 101]⟩, .int .i64 110, .int .i64 20, .int .i64 25, .bool false, .string ⟨#[102, 101, 101]⟩, .int .i64 0, .int .i64 30, .int .i64 28, .bool true]
theorem dayOf_awake : Cal.dayOfS 1804 2 29 = (1519, 0) := by decide +kernel
theorem easter_awake : Cal.easter 1800 = 102 := by decide +kernel
theorem addWorking_awake : Cal.addWorkingS [] 0 3 = (5, 0) := by decide +kernel
theorem value_awake : Cal.valueS feeList feeName 25 20 = (120, 0) := by decide +kernel
theorem holsErr_nil : Cal.holsErr [] = 0 := by decide +kernel
theorem Fee_any (w : World) : Calls Tryz.prog 83 #[] w fun e w' => e = .returned (.slice (some ⟨w.heap.size, 0, none⟩) 4 4) ∧ w' = w.alloc (.cells feeCells 71) := by
  go_enter Tryz.func83, Tryz.ntmps83
  go_wp2
  go_ret
  exact ⟨rfl, rfl⟩
theorem feeRows : ∀ (k : Nat) r, (feeList.map Prov.cells)[k]? = some r → ∀ (j : Nat) v, r[j]? = some v → feeCells[0 + (k * 5 + j)]? = some v := by
  intro k r hr j v hv
  match k, hr with
  | 0, hr => simp only [feeList, List.map_cons, List.getElem?_cons_zero, Option.some.injEq] at hr; subst hr; match j, hv with
    | 0, hv => exact hv
    | 1, hv => exact hv
    | 2, hv => exact hv
    | 3, hv => exact hv
    | 4, hv => exact hv
  | 1, hr => simp only [feeList, List.map_cons, List.getElem?_cons_succ, List.getElem?_cons_zero, Option.some.injEq] at hr; subst hr; match j, hv with
    | 0, hv => exact hv
    | 1, hv => exact hv
    | 2, hv => exact hv
    | 3, hv => exact hv
    | 4, hv => exact hv
  | 2, hr => simp only [feeList, List.map_cons, List.getElem?_cons_succ, List.getElem?_cons_zero, Option.some.injEq] at hr; subst hr; match j, hv with
    | 0, hv => exact hv
    | 1, hv => exact hv
    | 2, hv => exact hv
    | 3, hv => exact hv
    | 4, hv => exact hv
  | 3, hr => simp only [feeList, List.map_cons, List.getElem?_cons_succ, List.getElem?_cons_zero, Option.some.injEq] at hr; subst hr; match j, hv with
    | 0, hv => exact hv
    | 1, hv => exact hv
    | 2, hv => exact hv
    | 3, hv => exact hv
    | 4, hv => exact hv
theorem feeProvs (w : World) (t : TypeId) : Provs (w.alloc (.cells feeCells t)) (some ⟨w.heap.size, 0, none⟩) feeList :=
  ⟨fun k r hr => ⟨w.heap.size, 0, rfl, by simp, fun j v hv => by rw [cell_alloc_at]; exact feeRows k r hr j v hv⟩, by decide, fun k p hp => by
    have : p ∈ feeList := List.mem_of_getElem? hp
    simp only [feeList, List.mem_cons, List.not_mem_nil, or_false] at this
    rcases this with rfl | rfl | rfl | rfl <;> exact (by decide : feeName.size ≤ maxLen)⟩
set_option maxHeartbeats 1000000 in
theorem awake_any (w : World) (hT : Tab w) : Calls Tryz.prog 28 #[] w fun e w' => e = .returned (.bool true) ∧ Below w.heap.size w w' := by
  have hT1 := Lib.hid (fun w1 (h : Below w.heap.size w w1) => hT.below h)
  have hd := DayOf_any 1804 2 29 w hT
  rw [dayOf_awake] at hd
  have he := fun w1 (h : Below w.heap.size w w1) => Easter_any 1800 (by omega) (by omega) w1 (hT.below h)
  rw [easter_awake] at he
  have ha := fun w1 (h : Below w.heap.size w w1) => AddWorking_any none 0 [] (fun _ => holCalls_nil none 0) 0 3 w1 (Hols.nil _ _) (hT.below h)
  rw [addWorking_awake] at ha
  have hv := fun w1 (t : TypeId) => Value_any (some ⟨w1.heap.size, 0, none⟩) 4 feeList feeName 25 20 (w1.alloc (.cells feeCells t)) (feeProvs w1 t)
  rw [value_awake] at hv
  have hd := Lib.hid hd
  have he := Lib.hid he
  have ha := Lib.hid ha
  have hv := Lib.hid hv
  clear hT
  go_enter Tryz.func28, Tryz.ntmps28
  go_wp2_with fail
  refine hd.out.mono ?_
  rintro e w1 ⟨rfl, hb1⟩
  have hb1 := Lib.hid hb1
  go_wp2_with fail
  refine (he.out w1 hb1.out).mono ?_
  rintro e w1 ⟨rfl, rfl⟩
  go_wp2_with fail
  refine (ha.out _ hb1.out).mono ?_
  rintro e w2 ⟨rfl, hb2⟩
  have hb2 := Lib.hid (below_step hb1.out hb2)
  go_wp2_with fail
  refine (Fee_any w2).mono ?_
  rintro e w3 ⟨rfl, rfl⟩
  go_wp2_with fail
  refine (hv.out w2 _).mono ?_
  rintro e w4 ⟨rfl, hb4⟩
  have hb4 := Lib.hid (below_step (hb2.out.alloc hb2.out.size _) hb4)
  go_wp2
  go_ret
  exact ⟨rfl, hb4.out⟩
end Go.Proofs.YtbegbajlagcbdaaGreatDoor
