/- What the statements rest on: definitions and walks, part 17. -/
import Derived.Test.YtfcjeejhdklkdaaJ16
set_option maxRecDepth 100000
set_option maxHeartbeats 16000000
set_option linter.unusedSimpArgs false
set_option linter.unusedVariables false
namespace Go.Proofs.Ytfcjeejhdklkdaa
open Go Go.RowKit Go.Shelf
theorem ex_heights : Cal.netE 3 (triLevs 2) = 0 ∧ (Cal.heightsP 2 (triLevs 2)).length = 3 ∧ (Cal.heightsP 2 (triLevs 2))[1]? = some (512, 5) := by decide +kernel
theorem ex_bord : bordE (Cal.boxP 0 0 50 100) (Cal.boxP 50 0 100 50) = 0 := by decide +kernel
theorem ex_bord2 : (Cal.borderP (Cal.boxP 0 0 50 100) (Cal.boxP 50 0 100 50)).map sdR = [[.int .i64 50, .int .i64 0, .int .i64 50, .int .i64 50]] := by kernel_rfl
theorem lawAwake_any (w : World) : Calls Try.prog 20 #[] w fun e w' => e = .returned (.bool true) ∧ Below w.heap.size w w' := by
 have hgap := Lib.hid (fun A1 A2 A3 S W (h : SctR W (fieldS A1 A2 A3 S)) => by
  have := Gap_any (fieldS A1 A2 A3 S) W h
  rw [field_zero, field_gap] at this
  exact this)
 have hhts := Lib.hid (fun A c W (h : Levs W A (triLevs 2)) => by
  have := Heights_any 3 A c (triLevs 2) W h
  rw [ex_heights.1, if_pos rfl] at this
  exact this)
 have hbor := Lib.hid (fun A B c d W (h : PtsR W A (Cal.boxP 0 0 50 100)) (h2 : PtsR W B (Cal.boxP 50 0 100 50)) => by
  have := Border_any A B c d _ _ W h h2 (fun _ => by decide) (fun _ => by decide)
  rw [ex_bord] at this
  unfold bordL at this
  rw [if_pos rfl, ex_bord2] at this
  exact this)
 go_enter Try.func20, Try.ntmps20
 go_wp2_with fail
 refine (Field_any _).mono ?_
 rintro e w1 ⟨A1, A2, A3, S, rfl, hS1, hb1⟩
 have hS1 := Lib.hid hS1
 have hb1 := Lib.hid hb1
 go_wp2_with fail
 refine (hgap.out A1 A2 A3 S _ hS1.out).mono ?_
 rintro e w2 ⟨rfl, hb2⟩
 have hb2 := Lib.hid (below_step hb1.out hb2)
 clear hS1 hgap hb1
 go_wp2_with fail
 refine (lawTri_any _ _).mono ?_
 rintro e w3 ⟨A4, rfl, hL, hb3⟩
 have hL := Lib.hid hL
 have hb3 := Lib.hid (below_step hb2.out hb3)
 go_wp2_with fail
 refine (hhts.out A4 3 _ hL.out).mono ?_
 rintro e w4 ⟨v4, rfl, ho4, hb4⟩
 obtain ⟨A5, c5, rfl, hr5⟩ := ho4.form
 have hr5 := Lib.hid hr5
 have hb4 := Lib.hid (below_step hb3.out hb4)
 rw [List.length_map, show (Cal.heightsP ((3 : Int).toNat - 1) (triLevs 2)).length = 3 from ex_heights.2.1]
 clear hL hhts hb2 hb3 ho4
 go_wp2_with fail
 refine (lawBox_any _ _ _ _ _).mono ?_
 rintro e w5 ⟨B1, rfl, _, hp1, hb5⟩
 have hp1 := Lib.hid hp1
 have hr5 := Lib.hid (hr5.out.below hb5)
 have hb5 := Lib.hid (below_step hb4.out hb5)
 go_wp2_with fail
 refine (lawBox_any _ _ _ _ _).mono ?_
 rintro e w6 ⟨B2, rfl, _, hp2, hb6⟩
 have hp2 := Lib.hid hp2
 have hp1 := Lib.hid (hp1.out.below hb6)
 have hr5 := Lib.hid (hr5.out.below hb6)
 have hb6 := Lib.hid (below_step hb5.out hb6)
 go_wp2_with fail
 refine (hbor.out _ _ _ _ _ hp1.out hp2.out).mono ?_
 rintro e w7 ⟨v7, rfl, ho7, hb7⟩
 obtain ⟨A7, c7, rfl, hr7⟩ := ho7.form
 obtain ⟨b7, o7, rfl, hl7, hc7⟩ := hr7 0 _ rfl
 have d0 : w7.cell? ⟨b7, o7, none⟩ = some (.int .i64 50) := hc7 0 _ rfl
 have d1 : w7.cell? ⟨b7, o7 + 1, none⟩ = some (.int .i64 0) := by have this := hc7 1 _ rfl; rw [Nat.zero_mul, Nat.zero_add] at this; exact this
 have d2 : w7.cell? ⟨b7, o7 + 2, none⟩ = some (.int .i64 50) := by have this := hc7 2 _ rfl; rw [Nat.zero_mul, Nat.zero_add] at this; exact this
 have d3 : w7.cell? ⟨b7, o7 + 3, none⟩ = some (.int .i64 50) := by have this := hc7 3 _ rfl; rw [Nat.zero_mul, Nat.zero_add] at this; exact this
 have hr5 := hr5.out.below hb7
 obtain ⟨b5, o5, rfl, hl5, hc5⟩ := hr5 1 (frR (512, 5)) (by rw [List.getElem?_map, show (Cal.heightsP ((3 : Int).toNat - 1) (triLevs 2))[1]? = some (512, 5) from ex_heights.2.2]; rfl)
 have e0 : w7.cell? ⟨b5, o5 + 2, none⟩ = some (.int .i64 512) := hc5 0 _ rfl
 have e1 : w7.cell? ⟨b5, o5 + 3, none⟩ = some (.int .i64 5) := hc5 1 _ rfl
 have hb7 := Lib.hid (below_step hb6.out hb7)
 clear hp1 hp2 hbor hb4 hb5 hb6 hr5 hr7 hc7 hc5 ho7
 go_wp2_with fail
 go_ret
 exact ⟨rfl, hb7.out⟩
end Go.Proofs.Ytfcjeejhdklkdaa
