/- Chapter 8 and what it rests on: definitions and walks, part 29. -/
import Derived.Test.YtbegbajlagcbdaaGreatDoorC28
import Derived.Laws.Concat
import Derived.Test.YtbegbajlagcbdaaGreatDoorC06
namespace Go.Proofs.YtbegbajlagcbdaaGreatDoor
open Go Go.RowKit
def FmtPost (w : World) (l : List UInt8) (e : Ending) (w' : World) : Prop := ∃ t : ByteArray, e = .returned (.string t) ∧ t.data.toList = l ∧ Below w.heap.size w w'
theorem DecimalS_any (n : Int) (h0 : -9223372036854775808 ≤ n) (h1 : n ≤ 9223372036854775807) (w : World) :
    Calls Tryz.prog 89 #[.int .i64 n] w fun e w' => ∃ d : ByteArray, e = .returned (.string d) ∧ d.data.toList = Lib.itoa n ∧ d.size ≤ 21 ∧ Below w.heap.size w w' :=
  (DecimalD_any n h0 h1 w).mono fun _ _ ⟨d, he, hd, hb⟩ => ⟨d, he, hd, by rw [Lib.size_eq, hd]; exact Lib.itoa_length_le n h0 h1, hb⟩
theorem size_snoc {a : ByteArray} {c : UInt8} : (a ++ ⟨#[c]⟩).size = a.size + 1 := by rw [ByteArray.size_append]; rfl
def Cal.valT (v : Int) (r : Bool) : List UInt8 := if r then Cal.repT else Lib.itoa v
theorem fmt_list {nm V d1 d2 : ByteArray} {v f en : Int} {r : Bool} (hV : V.data.toList = Cal.valT v r) (h1 : d1.data.toList = Lib.itoa f) (h2 : d2.data.toList = Lib.itoa en) :
    (nm ++ ⟨#[32]⟩ ++ V ++ ⟨#[32]⟩ ++ d1 ++ ⟨#[32]⟩ ++ d2).data.toList = Cal.fmtT nm.data.toList v f en r := by
  unfold Cal.fmtT
  unfold Cal.valT at hV
  rw [← hV, ← h1, ← h2]
  simp [ByteArray.data_append]
set_option maxRecDepth 100000 in
set_option maxHeartbeats 4000000 in
theorem FormatR_any (nm : ByteArray) (v f en : Int) (r : Bool) (w : World) (hn : nm.size ≤ 60) (v0 : -9223372036854775808 ≤ v) (v1 : v ≤ 9223372036854775807) (f0 : -9223372036854775808 ≤ f) (f1 : f ≤ 9223372036854775807) (e0 : -9223372036854775808 ≤ en) (e1 : en ≤ 9223372036854775807) :
    Calls Tryz.prog 32 #[.agg #[.string nm, .int .i64 v, .int .i64 f, .int .i64 en, .bool r]] w (FmtPost w (Cal.fmtT nm.data.toList v f en r)) := by
  have g1 := Lib.hid (BoxAt.new w #[.string nm, .int .i64 v, .int .i64 f, .int .i64 en, .bool r] 71)
  have hb := Lib.hid (below_alloc w (.cells #[.string nm, .int .i64 v, .int .i64 f, .int .i64 en, .bool r] 71))
  go_enter Tryz.func32, Tryz.ntmps32
  go_wp2_with fail
  refine (DecimalS_any v v0 v1 _).mono ?_
  rintro e w1 ⟨d, rfl, hd, hsd, hb1⟩
  replace g1 := Lib.hid (g1.out.below hb1)
  replace hb := Lib.hid (below_step hb.out hb1)
  clear hb1
  have p4 := g1.out.c 4 _ rfl
  cases r
  · obtain ⟨V, rfl⟩ : ∃ V, V = d := ⟨_, rfl⟩
    have hV0 : V.data.toList = Cal.valT v false := hd
    have hsV0 := hsd
    clear hd
    have hsV := Lib.hid hsV0
    have hVz := Lib.hid hV0
    have ha1 := fun W => run_string_add_sum (P := Tryz.prog) W nm ⟨#[32]⟩ (by show _ + 1 ≤ _; omega)
    have ha2 := fun W => run_string_add_sum (P := Tryz.prog) W (nm ++ ⟨#[32]⟩) V (by rw [size_snoc]; omega)
    have ha3 := fun W => run_string_add_sum (P := Tryz.prog) W (nm ++ ⟨#[32]⟩ ++ V) ⟨#[32]⟩ (by rw [ByteArray.size_append, size_snoc]; show _ + 1 ≤ _; omega)
    clear hV0
    go_wp2_with fail
    have cS := Lib.hid (fun w' (h : Below w1.heap.size w1 w') => (show ((fun w' => w'.cell? ⟨w.heap.size, 0, none⟩ = some (.string nm) ∧ w'.cell? ⟨w.heap.size, 2, none⟩ = some (.int .i64 f) ∧ w'.cell? ⟨w.heap.size, 3, none⟩ = some (.int .i64 en))) w' from ⟨(g1.out.below h).c 0 _ rfl, (g1.out.below h).c 2 _ rfl, (g1.out.below h).c 3 _ rfl⟩))
    have hdr := Lib.hid (show Below w1.heap.size w1 w1.drew from (Below.refl _ _).drew)
    refine wp_region_held_drew (S := (fun w' => w'.cell? ⟨w.heap.size, 0, none⟩ = some (.string nm) ∧ w'.cell? ⟨w.heap.size, 2, none⟩ = some (.int .i64 f) ∧ w'.cell? ⟨w.heap.size, 3, none⟩ = some (.int .i64 en))) (by kernel_rfl) (cS.out _ hdr.out) (fun hHeld => ?_)
    (refine tkH 0 (v := ?_) ?_ ?_; rotate_left; focus (intro w' hSw; (try dsimp only at hSw); go_simp; (try with_reducible rfl)); (try simp only [Act.put, List.setIfInBounds_toArray, List.set_cons_zero, List.set_cons_succ]))
    (refine tkH 1 (v := ?_) ?_ ?_; rotate_left; focus (intro w' hSw; (try dsimp only at hSw); go_simp; (try with_reducible rfl)); (try simp only [Act.put, List.setIfInBounds_toArray, List.set_cons_zero, List.set_cons_succ]))
    (refine tkH 2 (v := ?_) ?_ ?_; rotate_left; focus (intro w' hSw; (try dsimp only at hSw); go_simp; (try with_reducible rfl)); (try simp only [Act.put, List.setIfInBounds_toArray, List.set_cons_zero, List.set_cons_succ]))
    (refine tkH 3 (v := ?_) ?_ ?_; rotate_left; focus (intro w' hSw; (try dsimp only at hSw); go_simp; (try with_reducible rfl)); (try simp only [Act.put, List.setIfInBounds_toArray, List.set_cons_zero, List.set_cons_succ]))
    (refine tkH 4 (v := ?_) ?_ ?_; rotate_left; focus (intro w' hSw; (try dsimp only at hSw); go_simp; (try with_reducible rfl)); (try simp only [Act.put, List.setIfInBounds_toArray, List.set_cons_zero, List.set_cons_succ]))
    (refine tkH 5 (v := ?_) ?_ ?_; rotate_left; focus (intro w' hSw; (try dsimp only at hSw); go_simp; (try with_reducible rfl)); (try simp only [Act.put, List.setIfInBounds_toArray, List.set_cons_zero, List.set_cons_succ]))
    (refine tkH 6 (v := ?_) ?_ ?_; rotate_left; focus (intro w' hSw; (try dsimp only at hSw); go_simp; (try with_reducible rfl)); (try simp only [Act.put, List.setIfInBounds_toArray, List.set_cons_zero, List.set_cons_succ]))
    (refine tkH 7 (v := ?_) ?_ ?_; rotate_left; focus (intro w' hSw; (try dsimp only at hSw); go_simp; (try with_reducible rfl)); (try simp only [Act.put, List.setIfInBounds_toArray, List.set_cons_zero, List.set_cons_succ]))
    (refine tkH 11 (v := ?_) ?_ ?_; rotate_left; focus (intro w' hSw; (try dsimp only at hSw); go_simp; (try with_reducible rfl)); (try simp only [Act.put, List.setIfInBounds_toArray, List.set_cons_zero, List.set_cons_succ]))
    (refine tkH 12 (v := ?_) ?_ ?_; rotate_left; focus (intro w' hSw; (try dsimp only at hSw); go_simp; (try with_reducible rfl)); (try simp only [Act.put, List.setIfInBounds_toArray, List.set_cons_zero, List.set_cons_succ]))
    (refine wpAnyH_ready (rs := [8]) (by decide +kernel) (by simp) ?_; refine AllReadyH.cons rfl (fun K hK => ?_) AllReadyH.nil; rw [if_pos (by kernel_rfl)]; go_simp)
    refine (DecimalS_any f (by omega) (by omega) _).mono ?_
    rintro e w5 ⟨d1, rfl, hd1, hs1, hb5⟩
    have hx := Lib.hid (below_step hdr.out hb5)
    have hd1 := Lib.hid hd1
    clear hb5
    go_simp
    (refine hK.out _ _ (cS.out _ hx.out) (fun hHeld => ?_); clear hK K; (try simp only [Act.put]); (try simp only [List.setIfInBounds_toArray]); (try simp only [List.set_cons_zero, List.set_cons_succ]))
    have ha4 := fun W => run_string_add_sum (P := Tryz.prog) W (nm ++ ⟨#[32]⟩ ++ V ++ ⟨#[32]⟩) d1 (by rw [size_snoc, ByteArray.size_append, size_snoc]; omega)
    have ha5 := fun W => run_string_add_sum (P := Tryz.prog) W (nm ++ ⟨#[32]⟩ ++ V ++ ⟨#[32]⟩ ++ d1) ⟨#[32]⟩ (by rw [ByteArray.size_append, size_snoc, ByteArray.size_append, size_snoc]; show _ + 1 ≤ _; omega)
    (refine tkH 9 (v := ?_) ?_ ?_; rotate_left; focus (intro w' hSw; (try dsimp only at hSw); go_simp; (try with_reducible rfl)); (try simp only [Act.put, List.setIfInBounds_toArray, List.set_cons_zero, List.set_cons_succ]))
    (refine tkH 10 (v := ?_) ?_ ?_; rotate_left; focus (intro w' hSw; (try dsimp only at hSw); go_simp; (try with_reducible rfl)); (try simp only [Act.put, List.setIfInBounds_toArray, List.set_cons_zero, List.set_cons_succ]))
    (refine wpAnyH_ready (rs := [13]) (by decide +kernel) (by simp) ?_; refine AllReadyH.cons rfl (fun K hK => ?_) AllReadyH.nil; rw [if_pos (by kernel_rfl)]; go_simp)
    refine (DecimalS_any en (by omega) (by omega) _).mono ?_
    rintro e w6 ⟨d2, rfl, hd2, hs2, hb6⟩
    have hx2 := Lib.hid (below_step hx.out hb6)
    have hd2 := Lib.hid hd2
    clear hb6
    go_simp
    (refine hK.out _ _ (cS.out _ hx2.out) (fun hHeld => ?_); clear hK K; (try simp only [Act.put]); (try simp only [List.setIfInBounds_toArray]); (try simp only [List.set_cons_zero, List.set_cons_succ]))
    have ha6 := fun W => run_string_add_sum (P := Tryz.prog) W (nm ++ ⟨#[32]⟩ ++ V ++ ⟨#[32]⟩ ++ d1 ++ ⟨#[32]⟩) d2 (by rw [size_snoc, ByteArray.size_append, size_snoc, ByteArray.size_append, size_snoc]; omega)
    (refine tkH 14 (v := ?_) ?_ ?_; rotate_left; focus (intro w' hSw; (try dsimp only at hSw); go_simp; (try with_reducible rfl)); (try simp only [Act.put, List.setIfInBounds_toArray, List.set_cons_zero, List.set_cons_succ]))
    (refine wpAnyH_ready (rs := [15]) (by decide +kernel) (by simp) ?_; refine AllReadyH.cons rfl (fun K hK => ?_) AllReadyH.nil; rw [if_pos (by kernel_rfl)]; go_simp)
    (refine hK.out _ _ (cS.out _ hx2.out) (fun hHeld => ?_); clear hK K; (try simp only [Act.put]); (try simp only [List.setIfInBounds_toArray]); (try simp only [List.set_cons_zero, List.set_cons_succ]))
    refine wpAnyH_done (by kernel_rfl) ?_ _
    clear hHeld
    go_wp2_with fail
    go_ret
    exact ⟨_, rfl, fmt_list hVz.out hd1.out hd2.out, below_step hb.out hx2.out⟩
  · go_upto_region 4 with fail
    obtain ⟨V, hVr⟩ : ∃ V : ByteArray, V = ⟨#[114, 101, 112, 101, 97, 108]⟩ := ⟨_, rfl⟩
    rw [← hVr]
    have hV0 : V.data.toList = Cal.valT v true := by rw [hVr]; rfl
    have hsV0 : V.size ≤ 21 := by rw [hVr]; decide
    clear hVr hd
    have hsV := Lib.hid hsV0
    have hVz := Lib.hid hV0
    have ha1 := fun W => run_string_add_sum (P := Tryz.prog) W nm ⟨#[32]⟩ (by show _ + 1 ≤ _; omega)
    have ha2 := fun W => run_string_add_sum (P := Tryz.prog) W (nm ++ ⟨#[32]⟩) V (by rw [size_snoc]; omega)
    have ha3 := fun W => run_string_add_sum (P := Tryz.prog) W (nm ++ ⟨#[32]⟩ ++ V) ⟨#[32]⟩ (by rw [ByteArray.size_append, size_snoc]; show _ + 1 ≤ _; omega)
    clear hV0
    go_wp2_with fail
    have cS := Lib.hid (fun w' (h : Below w1.heap.size w1 w') => (show ((fun w' => w'.cell? ⟨w.heap.size, 0, none⟩ = some (.string nm) ∧ w'.cell? ⟨w.heap.size, 2, none⟩ = some (.int .i64 f) ∧ w'.cell? ⟨w.heap.size, 3, none⟩ = some (.int .i64 en))) w' from ⟨(g1.out.below h).c 0 _ rfl, (g1.out.below h).c 2 _ rfl, (g1.out.below h).c 3 _ rfl⟩))
    have hdr := Lib.hid (show Below w1.heap.size w1 w1.drew from (Below.refl _ _).drew)
    refine wp_region_held_drew (S := (fun w' => w'.cell? ⟨w.heap.size, 0, none⟩ = some (.string nm) ∧ w'.cell? ⟨w.heap.size, 2, none⟩ = some (.int .i64 f) ∧ w'.cell? ⟨w.heap.size, 3, none⟩ = some (.int .i64 en))) (by kernel_rfl) (cS.out _ hdr.out) (fun hHeld => ?_)
    (refine tkH 0 (v := ?_) ?_ ?_; rotate_left; focus (intro w' hSw; (try dsimp only at hSw); go_simp; (try with_reducible rfl)); (try simp only [Act.put, List.setIfInBounds_toArray, List.set_cons_zero, List.set_cons_succ]))
    (refine tkH 1 (v := ?_) ?_ ?_; rotate_left; focus (intro w' hSw; (try dsimp only at hSw); go_simp; (try with_reducible rfl)); (try simp only [Act.put, List.setIfInBounds_toArray, List.set_cons_zero, List.set_cons_succ]))
    (refine tkH 2 (v := ?_) ?_ ?_; rotate_left; focus (intro w' hSw; (try dsimp only at hSw); go_simp; (try with_reducible rfl)); (try simp only [Act.put, List.setIfInBounds_toArray, List.set_cons_zero, List.set_cons_succ]))
    (refine tkH 3 (v := ?_) ?_ ?_; rotate_left; focus (intro w' hSw; (try dsimp only at hSw); go_simp; (try with_reducible rfl)); (try simp only [Act.put, List.setIfInBounds_toArray, List.set_cons_zero, List.set_cons_succ]))
    (refine tkH 4 (v := ?_) ?_ ?_; rotate_left; focus (intro w' hSw; (try dsimp only at hSw); go_simp; (try with_reducible rfl)); (try simp only [Act.put, List.setIfInBounds_toArray, List.set_cons_zero, List.set_cons_succ]))
    (refine tkH 5 (v := ?_) ?_ ?_; rotate_left; focus (intro w' hSw; (try dsimp only at hSw); go_simp; (try with_reducible rfl)); (try simp only [Act.put, List.setIfInBounds_toArray, List.set_cons_zero, List.set_cons_succ]))
    (refine tkH 6 (v := ?_) ?_ ?_; rotate_left; focus (intro w' hSw; (try dsimp only at hSw); go_simp; (try with_reducible rfl)); (try simp only [Act.put, List.setIfInBounds_toArray, List.set_cons_zero, List.set_cons_succ]))
    (refine tkH 7 (v := ?_) ?_ ?_; rotate_left; focus (intro w' hSw; (try dsimp only at hSw); go_simp; (try with_reducible rfl)); (try simp only [Act.put, List.setIfInBounds_toArray, List.set_cons_zero, List.set_cons_succ]))
    (refine tkH 11 (v := ?_) ?_ ?_; rotate_left; focus (intro w' hSw; (try dsimp only at hSw); go_simp; (try with_reducible rfl)); (try simp only [Act.put, List.setIfInBounds_toArray, List.set_cons_zero, List.set_cons_succ]))
    (refine tkH 12 (v := ?_) ?_ ?_; rotate_left; focus (intro w' hSw; (try dsimp only at hSw); go_simp; (try with_reducible rfl)); (try simp only [Act.put, List.setIfInBounds_toArray, List.set_cons_zero, List.set_cons_succ]))
    (refine wpAnyH_ready (rs := [8]) (by decide +kernel) (by simp) ?_; refine AllReadyH.cons rfl (fun K hK => ?_) AllReadyH.nil; rw [if_pos (by kernel_rfl)]; go_simp)
    refine (DecimalS_any f (by omega) (by omega) _).mono ?_
    rintro e w5 ⟨d1, rfl, hd1, hs1, hb5⟩
    have hx := Lib.hid (below_step hdr.out hb5)
    have hd1 := Lib.hid hd1
    clear hb5
    go_simp
    (refine hK.out _ _ (cS.out _ hx.out) (fun hHeld => ?_); clear hK K; (try simp only [Act.put]); (try simp only [List.setIfInBounds_toArray]); (try simp only [List.set_cons_zero, List.set_cons_succ]))
    have ha4 := fun W => run_string_add_sum (P := Tryz.prog) W (nm ++ ⟨#[32]⟩ ++ V ++ ⟨#[32]⟩) d1 (by rw [size_snoc, ByteArray.size_append, size_snoc]; omega)
    have ha5 := fun W => run_string_add_sum (P := Tryz.prog) W (nm ++ ⟨#[32]⟩ ++ V ++ ⟨#[32]⟩ ++ d1) ⟨#[32]⟩ (by rw [ByteArray.size_append, size_snoc, ByteArray.size_append, size_snoc]; show _ + 1 ≤ _; omega)
    (refine tkH 9 (v := ?_) ?_ ?_; rotate_left; focus (intro w' hSw; (try dsimp only at hSw); go_simp; (try with_reducible rfl)); (try simp only [Act.put, List.setIfInBounds_toArray, List.set_cons_zero, List.set_cons_succ]))
    (refine tkH 10 (v := ?_) ?_ ?_; rotate_left; focus (intro w' hSw; (try dsimp only at hSw); go_simp; (try with_reducible rfl)); (try simp only [Act.put, List.setIfInBounds_toArray, List.set_cons_zero, List.set_cons_succ]))
    (refine wpAnyH_ready (rs := [13]) (by decide +kernel) (by simp) ?_; refine AllReadyH.cons rfl (fun K hK => ?_) AllReadyH.nil; rw [if_pos (by kernel_rfl)]; go_simp)
    refine (DecimalS_any en (by omega) (by omega) _).mono ?_
    rintro e w6 ⟨d2, rfl, hd2, hs2, hb6⟩
    have hx2 := Lib.hid (below_step hx.out hb6)
    have hd2 := Lib.hid hd2
    clear hb6
    go_simp
    (refine hK.out _ _ (cS.out _ hx2.out) (fun hHeld => ?_); clear hK K; (try simp only [Act.put]); (try simp only [List.setIfInBounds_toArray]); (try simp only [List.set_cons_zero, List.set_cons_succ]))
    have ha6 := fun W => run_string_add_sum (P := Tryz.prog) W (nm ++ ⟨#[32]⟩ ++ V ++ ⟨#[32]⟩ ++ d1 ++ ⟨#[32]⟩) d2 (by rw [size_snoc, ByteArray.size_append, size_snoc, ByteArray.size_append, size_snoc]; omega)
    (refine tkH 14 (v := ?_) ?_ ?_; rotate_left; focus (intro w' hSw; (try dsimp only at hSw); go_simp; (try with_reducible rfl)); (try simp only [Act.put, List.setIfInBounds_toArray, List.set_cons_zero, List.set_cons_succ]))
    (refine wpAnyH_ready (rs := [15]) (by decide +kernel) (by simp) ?_; refine AllReadyH.cons rfl (fun K hK => ?_) AllReadyH.nil; rw [if_pos (by kernel_rfl)]; go_simp)
    (refine hK.out _ _ (cS.out _ hx2.out) (fun hHeld => ?_); clear hK K; (try simp only [Act.put]); (try simp only [List.setIfInBounds_toArray]); (try simp only [List.set_cons_zero, List.set_cons_succ]))
    refine wpAnyH_done (by kernel_rfl) ?_ _
    clear hHeld
    go_wp2_with fail
    go_ret
    exact ⟨_, rfl, fmt_list hVz.out hd1.out hd2.out, below_step hb.out hx2.out⟩
theorem join_list {nm V d1 d2 : ByteArray} {v f en : Int} {r : Bool} (hV : V.data.toList = Cal.valT v r) (h1 : d1.data.toList = Lib.itoa f) (h2 : d2.data.toList = Lib.itoa en) :
    Lib.join ([nm, V, d1, d2].map (·.data.toList)) (⟨#[32]⟩ : ByteArray).data.toList = Cal.fmtT nm.data.toList v f en r := by
  unfold Cal.fmtT
  unfold Cal.valT at hV
  rw [← hV, ← h1, ← h2]
  simp [Lib.join, List.intercalate, List.intersperse]
theorem join_size {nm V d1 d2 : ByteArray} (h : nm.size ≤ 60) (h0 : V.size ≤ 21) (h1 : d1.size ≤ 21) (h2 : d2.size ≤ 21) :
    (Lib.join ([nm, V, d1, d2].map (·.data.toList)) (⟨#[32]⟩ : ByteArray).data.toList).length ≤ 140737488355328 := by
  have a0 := list_len nm
  have a1 := list_len V
  have a2 := list_len d1
  have a3 := list_len d2
  simp [Lib.join, List.intercalate, List.intersperse]
  have b0 : nm.data.size = nm.size := rfl
  have b1 : V.data.size = V.size := rfl
  have b2 : d1.data.size = d1.size := rfl
  have b3 : d2.data.size = d2.size := rfl
  omega
set_option maxRecDepth 100000 in
set_option maxHeartbeats 4000000 in
theorem Format_any (nm : ByteArray) (v f en : Int) (r : Bool) (w : World) (hT : TxtT w) (hn : nm.size ≤ 60) (v0 : -9223372036854775808 ≤ v) (v1 : v ≤ 9223372036854775807) (f0 : -9223372036854775808 ≤ f) (f1 : f ≤ 9223372036854775807) (e0 : -9223372036854775808 ≤ en) (e1 : en ≤ 9223372036854775807) :
    Calls Tryz.prog 31 #[.agg #[.string nm, .int .i64 v, .int .i64 f, .int .i64 en, .bool r]] w (FmtPost w (Cal.fmtT nm.data.toList v f en r)) := by
  have hP := Lib.hid (fun w' (h : Below w.heap.size w w') => hT.pow.below h)
  clear hT
  have g1 := Lib.hid (BoxAt.new w #[.string nm, .int .i64 v, .int .i64 f, .int .i64 en, .bool r] 71)
  have hb := Lib.hid (below_alloc w (.cells #[.string nm, .int .i64 v, .int .i64 f, .int .i64 en, .bool r] 71))
  go_enter Tryz.func31, Tryz.ntmps31
  go_wp2_with fail
  refine (Itoa_any v v0 v1 _ (hP.out _ hb.out)).mono ?_
  rintro e w1 ⟨d, rfl, hd, hsd, hb1⟩
  replace g1 := Lib.hid (g1.out.below hb1)
  replace hb := Lib.hid (below_step hb.out hb1)
  clear hb1
  have p4 := g1.out.c 4 _ rfl
  cases r
  · obtain ⟨V, rfl⟩ : ∃ V, V = d := ⟨_, rfl⟩
    have hV0 : V.data.toList = Cal.valT v false := hd
    have hsV0 := hsd
    clear hd
    have hVz := Lib.hid hV0
    clear hV0
    go_wp2_with fail
    have cS := Lib.hid (fun w' (h : Below w1.heap.size w1 w') => (show ((fun w' => w'.cell? ⟨w.heap.size, 0, none⟩ = some (.string nm) ∧ w'.cell? ⟨w.heap.size, 2, none⟩ = some (.int .i64 f) ∧ w'.cell? ⟨w.heap.size, 3, none⟩ = some (.int .i64 en))) w' from ⟨(g1.out.below h).c 0 _ rfl, (g1.out.below h).c 2 _ rfl, (g1.out.below h).c 3 _ rfl⟩))
    have hdr := Lib.hid (show Below w1.heap.size w1 w1.drew from (Below.refl _ _).drew)
    refine wp_region_held_drew (S := (fun w' => w'.cell? ⟨w.heap.size, 0, none⟩ = some (.string nm) ∧ w'.cell? ⟨w.heap.size, 2, none⟩ = some (.int .i64 f) ∧ w'.cell? ⟨w.heap.size, 3, none⟩ = some (.int .i64 en))) (by kernel_rfl) (cS.out _ hdr.out) (fun hHeld => ?_)
    (refine tkH 0 (v := ?_) ?_ ?_; rotate_left; focus (intro w' hSw; (try dsimp only at hSw); go_simp; (try with_reducible rfl)); (try simp only [Act.put, List.setIfInBounds_toArray, List.set_cons_zero, List.set_cons_succ]))
    (refine tkH 1 (v := ?_) ?_ ?_; rotate_left; focus (intro w' hSw; (try dsimp only at hSw); go_simp; (try with_reducible rfl)); (try simp only [Act.put, List.setIfInBounds_toArray, List.set_cons_zero, List.set_cons_succ]))
    (refine tkH 2 (v := ?_) ?_ ?_; rotate_left; focus (intro w' hSw; (try dsimp only at hSw); go_simp; (try with_reducible rfl)); (try simp only [Act.put, List.setIfInBounds_toArray, List.set_cons_zero, List.set_cons_succ]))
    (refine tkH 3 (v := ?_) ?_ ?_; rotate_left; focus (intro w' hSw; (try dsimp only at hSw); go_simp; (try with_reducible rfl)); (try simp only [Act.put, List.setIfInBounds_toArray, List.set_cons_zero, List.set_cons_succ]))
    (refine tkH 4 (v := ?_) ?_ ?_; rotate_left; focus (intro w' hSw; (try dsimp only at hSw); go_simp; (try with_reducible rfl)); (try simp only [Act.put, List.setIfInBounds_toArray, List.set_cons_zero, List.set_cons_succ]))
    (refine tkH 6 (v := ?_) ?_ ?_; rotate_left; focus (intro w' hSw; (try dsimp only at hSw); go_simp; (try with_reducible rfl)); (try simp only [Act.put, List.setIfInBounds_toArray, List.set_cons_zero, List.set_cons_succ]))
    (refine tkH 7 (v := ?_) ?_ ?_; rotate_left; focus (intro w' hSw; (try dsimp only at hSw); go_simp; (try with_reducible rfl)); (try simp only [Act.put, List.setIfInBounds_toArray, List.set_cons_zero, List.set_cons_succ]))
    (refine wpAnyH_ready (rs := [5]) (by decide +kernel) (by simp) ?_; refine AllReadyH.cons rfl (fun K hK => ?_) AllReadyH.nil; rw [if_pos (by kernel_rfl)]; go_simp)
    refine (Itoa_any f (by omega) (by omega) _ (hP.out _ (below_step hb.out hdr.out))).mono ?_
    rintro e w5 ⟨d1, rfl, hd1, hs1, hb5⟩
    have hx := Lib.hid (below_step hdr.out hb5)
    have hd1 := Lib.hid hd1
    clear hb5
    go_simp
    (refine hK.out _ _ (cS.out _ hx.out) (fun hHeld => ?_); clear hK K; (try simp only [Act.put]); (try simp only [List.setIfInBounds_toArray]); (try simp only [List.set_cons_zero, List.set_cons_succ]))
    (refine wpAnyH_ready (rs := [8]) (by decide +kernel) (by simp) ?_; refine AllReadyH.cons rfl (fun K hK => ?_) AllReadyH.nil; rw [if_pos (by kernel_rfl)]; go_simp)
    refine (Itoa_any en (by omega) (by omega) _ (hP.out _ (below_step hb.out hx.out))).mono ?_
    rintro e w6 ⟨d2, rfl, hd2, hs2, hb6⟩
    have hx2 := Lib.hid (below_step hx.out hb6)
    have hd2 := Lib.hid hd2
    clear hb6
    go_simp
    (refine hK.out _ _ (cS.out _ hx2.out) (fun hHeld => ?_); clear hK K; (try simp only [Act.put]); (try simp only [List.setIfInBounds_toArray]); (try simp only [List.set_cons_zero, List.set_cons_succ]))
    (refine wpAnyH_ready (rs := [9]) (by decide +kernel) (by simp) ?_; refine AllReadyH.cons rfl (fun K hK => ?_) AllReadyH.nil; rw [if_pos (by kernel_rfl)]; go_simp)
    have hx3 := Lib.hid (below_step hx2.out (below_alloc w6 (.cells #[.string nm, .string V, .string d1, .string d2] 9)))
    (refine hK.out _ _ (cS.out _ hx3.out) (fun hHeld => ?_); clear hK K; (try simp only [Act.put]); (try simp only [List.setIfInBounds_toArray]); (try simp only [List.set_cons_zero, List.set_cons_succ]))
    (refine wpAnyH_ready (rs := [10]) (by decide +kernel) (by simp) ?_; refine AllReadyH.cons rfl (fun K hK => ?_) AllReadyH.nil; rw [if_pos (by kernel_rfl)]; go_simp)
    refine (Tryz.strings_Join w6.heap.size 0 4 [nm, V, d1, d2] ⟨#[32]⟩ (w6.alloc (.cells #[.string nm, .string V, .string d1, .string d2] 9)) (fun j x hj => ?_) (by simp) (by simp) (by simp) (join_size hn hsV0 hs1 hs2)).mono ?_
    · have hc : (w6.alloc (.cells #[.string nm, .string V, .string d1, .string d2] 9)).cell? ⟨w6.heap.size, 0 + j, none⟩ = (#[Value.string nm, .string V, .string d1, .string d2] : Array Value)[j]? := by rw [Nat.zero_add, cell_alloc_at]
      rw [hc]
      rcases j with _ | _ | _ | _ | j
      · cases hj; rfl
      · cases hj; rfl
      · cases hj; rfl
      · cases hj; rfl
      · simp at hj
    rintro e w7 ⟨rfl, hb7⟩
    have hx4 := Lib.hid (below_step hx3.out hb7)
    clear hb7
    rw [join_list hVz.out hd1.out hd2.out]
    go_simp
    (refine hK.out _ _ (cS.out _ hx4.out) (fun hHeld => ?_); clear hK K; (try simp only [Act.put]); (try simp only [List.setIfInBounds_toArray]); (try simp only [List.set_cons_zero, List.set_cons_succ]))
    (refine wpAnyH_ready (rs := [11]) (by decide +kernel) (by simp) ?_; refine AllReadyH.cons rfl (fun K hK => ?_) AllReadyH.nil; rw [if_pos (by kernel_rfl)]; go_simp)
    (refine hK.out _ _ (cS.out _ hx4.out) (fun hHeld => ?_); clear hK K; (try simp only [Act.put]); (try simp only [List.setIfInBounds_toArray]); (try simp only [List.set_cons_zero, List.set_cons_succ]))
    refine wpAnyH_done (by kernel_rfl) ?_ _
    clear hHeld
    go_wp2_with fail
    go_ret
    exact ⟨_, rfl, by simp, below_step hb.out hx4.out⟩
  · go_upto_region 4 with fail
    obtain ⟨V, hVr⟩ : ∃ V : ByteArray, V = ⟨#[114, 101, 112, 101, 97, 108]⟩ := ⟨_, rfl⟩
    rw [← hVr]
    have hV0 : V.data.toList = Cal.valT v true := by rw [hVr]; rfl
    have hsV0 : V.size ≤ 21 := by rw [hVr]; decide
    clear hVr hd
    have hVz := Lib.hid hV0
    clear hV0
    go_wp2_with fail
    have cS := Lib.hid (fun w' (h : Below w1.heap.size w1 w') => (show ((fun w' => w'.cell? ⟨w.heap.size, 0, none⟩ = some (.string nm) ∧ w'.cell? ⟨w.heap.size, 2, none⟩ = some (.int .i64 f) ∧ w'.cell? ⟨w.heap.size, 3, none⟩ = some (.int .i64 en))) w' from ⟨(g1.out.below h).c 0 _ rfl, (g1.out.below h).c 2 _ rfl, (g1.out.below h).c 3 _ rfl⟩))
    have hdr := Lib.hid (show Below w1.heap.size w1 w1.drew from (Below.refl _ _).drew)
    refine wp_region_held_drew (S := (fun w' => w'.cell? ⟨w.heap.size, 0, none⟩ = some (.string nm) ∧ w'.cell? ⟨w.heap.size, 2, none⟩ = some (.int .i64 f) ∧ w'.cell? ⟨w.heap.size, 3, none⟩ = some (.int .i64 en))) (by kernel_rfl) (cS.out _ hdr.out) (fun hHeld => ?_)
    (refine tkH 0 (v := ?_) ?_ ?_; rotate_left; focus (intro w' hSw; (try dsimp only at hSw); go_simp; (try with_reducible rfl)); (try simp only [Act.put, List.setIfInBounds_toArray, List.set_cons_zero, List.set_cons_succ]))
    (refine tkH 1 (v := ?_) ?_ ?_; rotate_left; focus (intro w' hSw; (try dsimp only at hSw); go_simp; (try with_reducible rfl)); (try simp only [Act.put, List.setIfInBounds_toArray, List.set_cons_zero, List.set_cons_succ]))
    (refine tkH 2 (v := ?_) ?_ ?_; rotate_left; focus (intro w' hSw; (try dsimp only at hSw); go_simp; (try with_reducible rfl)); (try simp only [Act.put, List.setIfInBounds_toArray, List.set_cons_zero, List.set_cons_succ]))
    (refine tkH 3 (v := ?_) ?_ ?_; rotate_left; focus (intro w' hSw; (try dsimp only at hSw); go_simp; (try with_reducible rfl)); (try simp only [Act.put, List.setIfInBounds_toArray, List.set_cons_zero, List.set_cons_succ]))
    (refine tkH 4 (v := ?_) ?_ ?_; rotate_left; focus (intro w' hSw; (try dsimp only at hSw); go_simp; (try with_reducible rfl)); (try simp only [Act.put, List.setIfInBounds_toArray, List.set_cons_zero, List.set_cons_succ]))
    (refine tkH 6 (v := ?_) ?_ ?_; rotate_left; focus (intro w' hSw; (try dsimp only at hSw); go_simp; (try with_reducible rfl)); (try simp only [Act.put, List.setIfInBounds_toArray, List.set_cons_zero, List.set_cons_succ]))
    (refine tkH 7 (v := ?_) ?_ ?_; rotate_left; focus (intro w' hSw; (try dsimp only at hSw); go_simp; (try with_reducible rfl)); (try simp only [Act.put, List.setIfInBounds_toArray, List.set_cons_zero, List.set_cons_succ]))
    (refine wpAnyH_ready (rs := [5]) (by decide +kernel) (by simp) ?_; refine AllReadyH.cons rfl (fun K hK => ?_) AllReadyH.nil; rw [if_pos (by kernel_rfl)]; go_simp)
    refine (Itoa_any f (by omega) (by omega) _ (hP.out _ (below_step hb.out hdr.out))).mono ?_
    rintro e w5 ⟨d1, rfl, hd1, hs1, hb5⟩
    have hx := Lib.hid (below_step hdr.out hb5)
    have hd1 := Lib.hid hd1
    clear hb5
    go_simp
    (refine hK.out _ _ (cS.out _ hx.out) (fun hHeld => ?_); clear hK K; (try simp only [Act.put]); (try simp only [List.setIfInBounds_toArray]); (try simp only [List.set_cons_zero, List.set_cons_succ]))
    (refine wpAnyH_ready (rs := [8]) (by decide +kernel) (by simp) ?_; refine AllReadyH.cons rfl (fun K hK => ?_) AllReadyH.nil; rw [if_pos (by kernel_rfl)]; go_simp)
    refine (Itoa_any en (by omega) (by omega) _ (hP.out _ (below_step hb.out hx.out))).mono ?_
    rintro e w6 ⟨d2, rfl, hd2, hs2, hb6⟩
    have hx2 := Lib.hid (below_step hx.out hb6)
    have hd2 := Lib.hid hd2
    clear hb6
    go_simp
    (refine hK.out _ _ (cS.out _ hx2.out) (fun hHeld => ?_); clear hK K; (try simp only [Act.put]); (try simp only [List.setIfInBounds_toArray]); (try simp only [List.set_cons_zero, List.set_cons_succ]))
    (refine wpAnyH_ready (rs := [9]) (by decide +kernel) (by simp) ?_; refine AllReadyH.cons rfl (fun K hK => ?_) AllReadyH.nil; rw [if_pos (by kernel_rfl)]; go_simp)
    have hx3 := Lib.hid (below_step hx2.out (below_alloc w6 (.cells #[.string nm, .string V, .string d1, .string d2] 9)))
    (refine hK.out _ _ (cS.out _ hx3.out) (fun hHeld => ?_); clear hK K; (try simp only [Act.put]); (try simp only [List.setIfInBounds_toArray]); (try simp only [List.set_cons_zero, List.set_cons_succ]))
    (refine wpAnyH_ready (rs := [10]) (by decide +kernel) (by simp) ?_; refine AllReadyH.cons rfl (fun K hK => ?_) AllReadyH.nil; rw [if_pos (by kernel_rfl)]; go_simp)
    refine (Tryz.strings_Join w6.heap.size 0 4 [nm, V, d1, d2] ⟨#[32]⟩ (w6.alloc (.cells #[.string nm, .string V, .string d1, .string d2] 9)) (fun j x hj => ?_) (by simp) (by simp) (by simp) (join_size hn hsV0 hs1 hs2)).mono ?_
    · have hc : (w6.alloc (.cells #[.string nm, .string V, .string d1, .string d2] 9)).cell? ⟨w6.heap.size, 0 + j, none⟩ = (#[Value.string nm, .string V, .string d1, .string d2] : Array Value)[j]? := by rw [Nat.zero_add, cell_alloc_at]
      rw [hc]
      rcases j with _ | _ | _ | _ | j
      · cases hj; rfl
      · cases hj; rfl
      · cases hj; rfl
      · cases hj; rfl
      · simp at hj
    rintro e w7 ⟨rfl, hb7⟩
    have hx4 := Lib.hid (below_step hx3.out hb7)
    clear hb7
    rw [join_list hVz.out hd1.out hd2.out]
    go_simp
    (refine hK.out _ _ (cS.out _ hx4.out) (fun hHeld => ?_); clear hK K; (try simp only [Act.put]); (try simp only [List.setIfInBounds_toArray]); (try simp only [List.set_cons_zero, List.set_cons_succ]))
    (refine wpAnyH_ready (rs := [11]) (by decide +kernel) (by simp) ?_; refine AllReadyH.cons rfl (fun K hK => ?_) AllReadyH.nil; rw [if_pos (by kernel_rfl)]; go_simp)
    (refine hK.out _ _ (cS.out _ hx4.out) (fun hHeld => ?_); clear hK K; (try simp only [Act.put]); (try simp only [List.setIfInBounds_toArray]); (try simp only [List.set_cons_zero, List.set_cons_succ]))
    refine wpAnyH_done (by kernel_rfl) ?_ _
    clear hHeld
    go_wp2_with fail
    go_ret
    exact ⟨_, rfl, by simp, below_step hb.out hx4.out⟩
end Go.Proofs.YtbegbajlagcbdaaGreatDoor
namespace Go.Proofs.YtbegbajlagcbdaaGreatDoor
open Go Go.RowKit
theorem Cal.src_form {l : List Prov} {name : ByteArray} {holds known : Int} (h : ¬ Cal.src l name holds known < 0) : ∃ (q : Nat) (p : Prov), Cal.src l name holds known = q ∧ l[q]? = some p := by
  have := Cal.srcTo_lt l name holds known l.length
  obtain ⟨q, hq⟩ := Int.eq_ofNat_of_zero_le (show 0 ≤ Cal.src l name holds known by omega)
  have hlt : q < l.length := by unfold Cal.src at hq; omega
  exact ⟨q, l[q], hq, List.getElem?_eq_getElem hlt⟩
/-- What holds: a value, or none. -/
def Cal.valOf (l : List Prov) (name : ByteArray) (holds known : Int) : Int × Bool :=
  if Cal.src l name holds known < 0 then (0, false) else match l[(Cal.src l name holds known).toNat]? with | some p => if p.repeal = true then (0, false) else (p.value, true) | none => (0, false)
theorem Cal.valOf_some {l : List Prov} {name : ByteArray} {holds known : Int} {q : Nat} {p : Prov} (h : Cal.src l name holds known = q) (hp : l[q]? = some p) : Cal.valOf l name holds known = if p.repeal = true then (0, false) else (p.value, true) := by
  unfold Cal.valOf; rw [h, if_neg (by omega)]; simp [hp]
/-- The number of the entry that decides, and the error. -/
def Cal.sourceS (l : List Prov) (name : ByteArray) (holds known : Int) : Int × Int :=
  if Cal.atErr l [holds, known] = 0 then (if Cal.src l name holds known < 0 then (0, 6) else (Cal.src l name holds known, 0)) else (0, Cal.atErr l [holds, known])
/-- The value, and the error. -/
def Cal.valueS (l : List Prov) (name : ByteArray) (holds known : Int) : Int × Int :=
  if Cal.atErr l [holds, known] = 0 then (if Cal.src l name holds known < 0 then (0, 6) else if (Cal.valOf l name holds known).2 = true then ((Cal.valOf l name holds known).1, 0) else (0, 12)) else (0, Cal.atErr l [holds, known])
theorem atRows (w : World) (t : TypeId) (holds known : Int) : RowsAt (w.alloc (.cells #[.int .i64 holds, .int .i64 known] t)) (some ⟨w.heap.size, 0, none⟩) 1 (intRows [holds, known]) := fun k r hr => by
  refine ⟨w.heap.size, 0, rfl, by simp, fun j v hv => ?_⟩
  match k, hr with
  | 0, hr => simp [intRows] at hr; subst hr; match j, hv with | 0, hv => simp at hv; subst hv; simp
  | 1, hr => simp [intRows] at hr; subst hr; match j, hv with | 0, hv => simp at hv; subst hv; simp
theorem Source_any (A : Option Addr) (c : Nat) (l : List Prov) (name : ByteArray) (holds known : Int) (w : World) (hl : Provs w A l) :
    Calls Tryz.prog 141 #[.slice A l.length c, .string name, .agg #[.int .i64 holds, .int .i64 known]] w fun e w' => e = .returned (.tuple #[.int .i64 (Cal.sourceS l name holds known).1, .int .i64 (Cal.sourceS l name holds known).2]) ∧ Below w.heap.size w w' := by
  have hat := Lib.hid (atRows w 49 holds known)
  have hl' := Lib.hid (fun w1 (h : Below w.heap.size w w1) => hl.below h)
  have hba := Lib.hid (below_alloc w (.cells #[.int .i64 holds, .int .i64 known] 49))
  clear hl
  by_cases h0 : Cal.atErr l [holds, known] = 0
  · have h0z := Lib.hid h0
    have h1 : (Cal.atErr l [holds, known] != 0) = false := by simpa using h0
    clear h0
    by_cases h2 : Cal.src l name holds known < 0
    · have hfin : Hid (Cal.sourceS l name holds known = (0, 6)) := by show _ = _; unfold Cal.sourceS; rw [if_pos h0z.out, if_pos h2]
      go_enter Tryz.func141, Tryz.ntmps141
      go_wp2_with (first | (go_at_call 206; refine (checkAt_any _ _ l _ 2 [holds, known] _ (hl'.out _ hba.out) hat.out (by simp)).mono ?_; rintro e w1 ⟨rfl, hb1⟩; obtain ⟨hc1, hf1⟩ := bcell hb1) | (go_at_call 207; refine (source_any _ _ l _ _ _ _ (hl'.out _ (below_step hba.out hb1))).mono ?_; rintro e w2 ⟨rfl, hb2⟩))
      go_ret2
      exact ⟨by rw [hfin.out]; rfl, below_step (below_step hba.out hb1) hb2⟩
    · have hfin : Hid (Cal.sourceS l name holds known = (Cal.src l name holds known, 0)) := by show _ = _; unfold Cal.sourceS; rw [if_pos h0z.out, if_neg h2]
      go_enter Tryz.func141, Tryz.ntmps141
      go_wp2_with (first | (go_at_call 206; refine (checkAt_any _ _ l _ 2 [holds, known] _ (hl'.out _ hba.out) hat.out (by simp)).mono ?_; rintro e w1 ⟨rfl, hb1⟩; obtain ⟨hc1, hf1⟩ := bcell hb1) | (go_at_call 207; refine (source_any _ _ l _ _ _ _ (hl'.out _ (below_step hba.out hb1))).mono ?_; rintro e w2 ⟨rfl, hb2⟩))
      go_ret2
      exact ⟨by rw [hfin.out]; rfl, below_step (below_step hba.out hb1) hb2⟩
  · have h0z := Lib.hid h0
    have h1 : (Cal.atErr l [holds, known] != 0) = true := by simpa using h0
    clear h0
    have hfin : Hid (Cal.sourceS l name holds known = (0, Cal.atErr l [holds, known])) := by show _ = _; unfold Cal.sourceS; rw [if_neg h0z.out]
    go_enter Tryz.func141, Tryz.ntmps141
    go_wp2_with (first | (go_at_call 206; refine (checkAt_any _ _ l _ 2 [holds, known] _ (hl'.out _ hba.out) hat.out (by simp)).mono ?_; rintro e w1 ⟨rfl, hb1⟩; obtain ⟨hc1, hf1⟩ := bcell hb1))
    go_ret2
    exact ⟨by rw [hfin.out]; rfl, below_step hba.out hb1⟩
theorem Value_any (A : Option Addr) (c : Nat) (l : List Prov) (name : ByteArray) (holds known : Int) (w : World) (hl : Provs w A l) :
    Calls Tryz.prog 82 #[.slice A l.length c, .string name, .agg #[.int .i64 holds, .int .i64 known]] w fun e w' => e = .returned (.tuple #[.int .i64 (Cal.valueS l name holds known).1, .int .i64 (Cal.valueS l name holds known).2]) ∧ Below w.heap.size w w' := by
  have hl' := Lib.hid (fun w1 (h : Below w.heap.size w w1) => hl.below h)
  have hba := Lib.hid (below_alloc w (.cells #[.int .i64 holds, .int .i64 known] 49))
  clear hl
  by_cases h0 : Cal.atErr l [holds, known] = 0
  · have h0z := Lib.hid h0
    clear h0
    by_cases h2 : Cal.src l name holds known < 0
    · have hfin : Hid (Cal.valueS l name holds known = (0, 6)) := by show _ = _; unfold Cal.valueS; rw [if_pos h0z.out, if_pos h2]
      have hs : Cal.sourceS l name holds known = (0, 6) := by unfold Cal.sourceS; rw [if_pos h0z.out, if_pos h2]
      clear h2
      go_enter Tryz.func82, Tryz.ntmps82
      go_wp2_with (go_at_call 141; refine (Source_any _ _ l _ _ _ _ (hl'.out _ hba.out)).mono ?_; rintro e w1 ⟨rfl, hb1⟩; obtain ⟨hc1, hf1⟩ := bcell hb1)
      go_ret2
      exact ⟨by rw [hfin.out]; rfl, below_step hba.out hb1⟩
    · obtain ⟨q, p, hq, hp⟩ := Cal.src_form h2
      have hv := Cal.valOf_some hq hp
      have hs : Cal.sourceS l name holds known = ((q : Int), 0) := by unfold Cal.sourceS; rw [if_pos h0z.out, if_neg h2, hq]
      obtain ⟨b, o, rfl, hbl, c0, c1, c2, c3, c4⟩ := (hl'.out _ (Below.refl _ w)).at_ hp
      have hqs : q < l.length := (List.getElem?_eq_some_iff.1 hp).1
      have hsz := (hl'.out _ (Below.refl _ w)).size
      clear hp c0 c2 c3
      cases hr : p.repeal
      · have hfin : Hid (Cal.valueS l name holds known = (p.value, 0)) := by show _ = _; unfold Cal.valueS; rw [if_pos h0z.out, if_neg h2, hv, hr]; simp
        rw [hr] at c4
        clear hv hq h2 hr
        go_enter Tryz.func82, Tryz.ntmps82
        go_wp2_with (go_at_call 141; refine (Source_any _ _ l _ _ _ _ (hl'.out _ hba.out)).mono ?_; rintro e w1 ⟨rfl, hb1⟩; obtain ⟨hc1, hf1⟩ := bcell hb1)
        go_ret2
        exact ⟨by rw [hfin.out]; rfl, below_step hba.out hb1⟩
      · have hfin : Hid (Cal.valueS l name holds known = (0, 12)) := by show _ = _; unfold Cal.valueS; rw [if_pos h0z.out, if_neg h2, hv, hr]; simp
        rw [hr] at c4
        clear hv hq h2 hr
        go_enter Tryz.func82, Tryz.ntmps82
        go_wp2_with (go_at_call 141; refine (Source_any _ _ l _ _ _ _ (hl'.out _ hba.out)).mono ?_; rintro e w1 ⟨rfl, hb1⟩; obtain ⟨hc1, hf1⟩ := bcell hb1)
        go_ret2
        exact ⟨by rw [hfin.out]; rfl, below_step hba.out hb1⟩
  · have h0z := Lib.hid h0
    have h1 : (Cal.atErr l [holds, known] != 0) = true := by simpa using h0
    have hfin : Hid (Cal.valueS l name holds known = (0, Cal.atErr l [holds, known])) := by show _ = _; unfold Cal.valueS; rw [if_neg h0z.out]
    have hs : Cal.sourceS l name holds known = (0, Cal.atErr l [holds, known]) := by unfold Cal.sourceS; rw [if_neg h0z.out]
    clear h0
    go_enter Tryz.func82, Tryz.ntmps82
    go_wp2_with (go_at_call 141; refine (Source_any _ _ l _ _ _ _ (hl'.out _ hba.out)).mono ?_; rintro e w1 ⟨rfl, hb1⟩; obtain ⟨hc1, hf1⟩ := bcell hb1)
    go_ret2
    exact ⟨by rw [hfin.out]; rfl, below_step hba.out hb1⟩
end Go.Proofs.YtbegbajlagcbdaaGreatDoor
