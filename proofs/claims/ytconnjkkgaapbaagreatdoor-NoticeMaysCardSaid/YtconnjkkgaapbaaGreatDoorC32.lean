/- Chapter 8 and what it rests on: definitions and walks, part 32. -/
import Derived.Test.YtconnjkkgaapbaaGreatDoorC30
import Derived.Test.YtconnjkkgaapbaaGreatDoorC24
namespace Go.Proofs.YtconnjkkgaapbaaGreatDoor
open Go Go.RowKit
theorem Cal.addE_at {p : Proc} {n : Note} {a : NAct} (hv : (Cal.checkS p n).2 = 0) : Cal.addE p n a = if 40 ≤ n.acts.length then 8 else (Cal.actS p (Cal.stAt p n 200000) a).2 := by unfold Cal.addE; rw [if_pos hv]
theorem BoxAt.n3 {w : World} {B : Nat} {n : Note} {N : Option Addr} {d : Nat} (h : BoxAt w B [.string n.name, .int .i64 n.opened, .slice N n.acts.length d]) : w.cell? ⟨B, 0, none⟩ = some (.string n.name) ∧ w.cell? ⟨B, 1, none⟩ = some (.int .i64 n.opened) ∧ w.cell? ⟨B, 2, none⟩ = some (.slice N n.acts.length d) := ⟨h.c 0 _ rfl, h.c 1 _ rfl, h.c 2 _ rfl⟩
set_option maxRecDepth 100000 in
set_option maxHeartbeats 8000000 in
theorem AddR_no (A : Option Addr) (c : Nat) (p : Proc) (N : Option Addr) (d : Nat) (n : Note) (a : NAct) (w : World) (hN : NB w A p N n) (hv : (Cal.checkS p n).2 = 0) (hE : Cal.addE p n a ≠ 0) :
    Calls Tryz.prog 39 #[.agg #[.int .i64 p.runs.m, .int .i64 p.runs.d, .bool p.runs.k, .int .i64 p.obj.m, .int .i64 p.obj.d, .bool p.obj.k, .int .i64 p.wait.m, .int .i64 p.wait.d, .bool p.wait.k, .int .i64 p.exts, .int .i64 p.longest, .slice A p.hols.length c], .agg #[.string n.name, .int .i64 n.opened, .slice N n.acts.length d], .agg #[.int .i64 a.day, .int .i64 a.kind, .int .i64 a.days]] w (AddBad w (Cal.addE p n a)) := by
  have hsz := hN.acts.size
  have hN := Lib.hid hN
  by_cases hlen : 40 ≤ n.acts.length
  · have hC : Cal.addE p n a = 8 := by rw [Cal.addE_at hv, if_pos hlen]
    rw [hC]
    clear hC hE hv
    obtain ⟨h1, h2, h3, h4, hb⟩ := start4 w A c p N d n a
    have c2 := h2.out.c 2 _ rfl
    go_enter Tryz.func39, Tryz.ntmps39
    go_wp2_with ((refine wpList_store_box rfl 29 (.tmp 6) (.tmp 14) rfl (w.heap.size + 1 + 1 + 1) _ [.string ⟨#[]⟩, .int .i64 0, .slice none 0 0] (by rfl) (by rfl) h4.out rfl ntSize (by kernel_rfl) ?_; intro w6 h6 hg6); have hb6 := Lib.hid (below_of_grownB hb.out hg6 (by omega)))
    (try simp only [Exit.inBlock, Exit.then])
    refine bodyPost_ret (results_mid2 rfl _ _ (w.heap.size + 1 + 1 + 1) [.string ⟨#[]⟩, .int .i64 0, .slice none 0 0] _ rfl h6.range Tryz.underlying29 rfl ntSize) rfl ⟨by rfl, hb6.out⟩
  · have hok := (Cal.end_ok hv).1
    have hp := (Cal.checkS_ok hv).1
    have hat := Lib.hid (fun w1 (h : NB w1 A p N n) => At_any A c p N d n 200000 w1 h.hols h.acts hv)
    have hC : Cal.addE p n a = (Cal.actS p (Cal.stAt p n 200000) a).2 := by rw [Cal.addE_at hv, if_neg hlen]
    generalize Cal.stAt p n 200000 = s at *
    have hst := fun w1 (h : NB w1 A p N n) => Step_any A c p s a w1 h.hols hok hp
    rw [hC] at hE ⊢
    have hlen' : n.acts.length < 40 := by omega
    rcases hr : Cal.actS p s a with ⟨s2, E⟩
    rw [hr] at hE hst
    have hE1 : (E != 0) = true := by simpa using hE
    have hst := Lib.hid hst
    clear hC hE hv hp hr hlen
    obtain ⟨h1, h2, h3, h4, hb⟩ := start4 w A c p N d n a
    have c2 := h2.out.c 2 _ rfl
    go_enter Tryz.func39, Tryz.ntmps39
    go_wp2_with fail
    clear c2
    have hdr : Below ((((w.alloc (.cells #[.int .i64 p.runs.m, .int .i64 p.runs.d, .bool p.runs.k, .int .i64 p.obj.m, .int .i64 p.obj.d, .bool p.obj.k, .int .i64 p.wait.m, .int .i64 p.wait.d, .bool p.wait.k, .int .i64 p.exts, .int .i64 p.longest, .slice A p.hols.length c] 26)).alloc (.cells #[.string n.name, .int .i64 n.opened, .slice N n.acts.length d] 29)).alloc (.cells #[.int .i64 a.day, .int .i64 a.kind, .int .i64 a.days] 64)).alloc (.cells #[.string ⟨#[]⟩, .int .i64 0, .slice none 0 0] 29)).heap.size ((((w.alloc (.cells #[.int .i64 p.runs.m, .int .i64 p.runs.d, .bool p.runs.k, .int .i64 p.obj.m, .int .i64 p.obj.d, .bool p.obj.k, .int .i64 p.wait.m, .int .i64 p.wait.d, .bool p.wait.k, .int .i64 p.exts, .int .i64 p.longest, .slice A p.hols.length c] 26)).alloc (.cells #[.string n.name, .int .i64 n.opened, .slice N n.acts.length d] 29)).alloc (.cells #[.int .i64 a.day, .int .i64 a.kind, .int .i64 a.days] 64)).alloc (.cells #[.string ⟨#[]⟩, .int .i64 0, .slice none 0 0] 29)) ((((w.alloc (.cells #[.int .i64 p.runs.m, .int .i64 p.runs.d, .bool p.runs.k, .int .i64 p.obj.m, .int .i64 p.obj.d, .bool p.obj.k, .int .i64 p.wait.m, .int .i64 p.wait.d, .bool p.wait.k, .int .i64 p.exts, .int .i64 p.longest, .slice A p.hols.length c] 26)).alloc (.cells #[.string n.name, .int .i64 n.opened, .slice N n.acts.length d] 29)).alloc (.cells #[.int .i64 a.day, .int .i64 a.kind, .int .i64 a.days] 64)).alloc (.cells #[.string ⟨#[]⟩, .int .i64 0, .slice none 0 0] 29)).drew := (Below.refl _ _).drew
    refine wp_region_held_drew (S := (fun w' => BoxAt w' w.heap.size [.int .i64 p.runs.m, .int .i64 p.runs.d, .bool p.runs.k, .int .i64 p.obj.m, .int .i64 p.obj.d, .bool p.obj.k, .int .i64 p.wait.m, .int .i64 p.wait.d, .bool p.wait.k, .int .i64 p.exts, .int .i64 p.longest, .slice A p.hols.length c] ∧ (w'.cell? ⟨w.heap.size + 1, 0, none⟩ = some (.string n.name) ∧ w'.cell? ⟨w.heap.size + 1, 1, none⟩ = some (.int .i64 n.opened) ∧ w'.cell? ⟨w.heap.size + 1, 2, none⟩ = some (.slice N n.acts.length d)) ∧ (w'.cell? ⟨w.heap.size + 1 + 1, 0, none⟩ = some (.int .i64 a.day) ∧ w'.cell? ⟨w.heap.size + 1 + 1, 1, none⟩ = some (.int .i64 a.kind) ∧ w'.cell? ⟨w.heap.size + 1 + 1, 2, none⟩ = some (.int .i64 a.days)))) (by kernel_rfl) ⟨h1.out.below hdr, (h2.out.below hdr).n3, (h3.out.below hdr).act3⟩ (fun hHeld => ?_)
    have h1 := Lib.hid (h1.out.below hdr)
    have h2 := Lib.hid (h2.out.below hdr)
    have h3 := Lib.hid (h3.out.below hdr)
    have h4 := Lib.hid (h4.out.below hdr)
    have hb := Lib.hid (below_step hb.out hdr)
    clear hdr
    generalize ((((w.alloc (.cells #[.int .i64 p.runs.m, .int .i64 p.runs.d, .bool p.runs.k, .int .i64 p.obj.m, .int .i64 p.obj.d, .bool p.obj.k, .int .i64 p.wait.m, .int .i64 p.wait.d, .bool p.wait.k, .int .i64 p.exts, .int .i64 p.longest, .slice A p.hols.length c] 26)).alloc (.cells #[.string n.name, .int .i64 n.opened, .slice N n.acts.length d] 29)).alloc (.cells #[.int .i64 a.day, .int .i64 a.kind, .int .i64 a.days] 64)).alloc (.cells #[.string ⟨#[]⟩, .int .i64 0, .slice none 0 0] 29)).drew = w4 at *
    (refine wpAnyH_take (i := 0) (v := _) rfl (by kernel_rfl) (by decide +kernel) (by decide +kernel) (fun _ _ _ h => h) (yieldsIf_load_mid (by kernel_rfl) 26 _ rfl (w.heap.size) 0 (by kernel_rfl) [.int .i64 p.runs.m, .int .i64 p.runs.d, .bool p.runs.k, .int .i64 p.obj.m, .int .i64 p.obj.d, .bool p.obj.k, .int .i64 p.wait.m, .int .i64 p.wait.d, .bool p.wait.k, .int .i64 p.exts, .int .i64 p.longest, .slice A p.hols.length c] _ (fun _ h => h.1.range) Tryz.underlying26 rfl prSize) (by assumption) ?_; (try simp only [Act.put]); (try simp only [List.setIfInBounds_toArray]); (try simp only [List.set_cons_zero, List.set_cons_succ]))
    (refine wpAnyH_take (i := 1) (v := _) rfl (by kernel_rfl) (by decide +kernel) (by decide +kernel) (fun _ _ _ h => h) (yieldsIf_load_mid (by kernel_rfl) 26 _ rfl (w.heap.size) 0 (by kernel_rfl) [.int .i64 p.runs.m, .int .i64 p.runs.d, .bool p.runs.k, .int .i64 p.obj.m, .int .i64 p.obj.d, .bool p.obj.k, .int .i64 p.wait.m, .int .i64 p.wait.d, .bool p.wait.k, .int .i64 p.exts, .int .i64 p.longest, .slice A p.hols.length c] _ (fun _ h => h.1.range) Tryz.underlying26 rfl prSize) (by assumption) ?_; (try simp only [Act.put]); (try simp only [List.setIfInBounds_toArray]); (try simp only [List.set_cons_zero, List.set_cons_succ]))
    (refine tkH 2 (v := ?_) ?_ ?_; rotate_left; focus (intro w' hSw; (try dsimp only at hSw); go_simp; (try with_reducible rfl)); (try simp only [Act.put, List.setIfInBounds_toArray, List.set_cons_zero, List.set_cons_succ]))
    (refine tkH 4 (v := ?_) ?_ ?_; rotate_left; focus (intro w' hSw; (try dsimp only at hSw); go_simp; (try with_reducible rfl)); (try simp only [Act.put, List.setIfInBounds_toArray, List.set_cons_zero, List.set_cons_succ]))
    (refine wpAnyH_ready (rs := [3, 9]) (by decide +kernel) (by simp) ?_; refine AllReadyH.cons rfl (fun K hK => ?_) (AllReadyH.cons rfl (fun K hK => ?_) AllReadyH.nil))
    · (rw [if_pos (by kernel_rfl)]; go_simp)
      refine (hat.out _ (hN.out.below hb.out)).mono ?_
      rintro e w5 ⟨rfl, hb5⟩
      have h1 := Lib.hid (h1.out.below hb5)
      have h2 := Lib.hid (h2.out.below hb5)
      have h3 := Lib.hid (h3.out.below hb5)
      have h4 := Lib.hid (h4.out.below hb5)
      have hb := Lib.hid (below_step hb.out hb5)
      clear hb5
      go_simp
      (refine hK.out _ _ ⟨h1.out, h2.out.n3, h3.out.act3⟩ (fun hHeld => ?_); clear hK K; (try simp only [Act.put, List.setIfInBounds_toArray]); (try simp only [List.set_cons_zero, List.set_cons_succ]))
      (refine wpAnyH_ready (rs := [5, 9]) (by decide +kernel) (by simp) ?_; refine AllReadyH.cons rfl (fun K hK => ?_) (AllReadyH.cons rfl (fun K hK => ?_) AllReadyH.nil))
      · (rw [if_pos (by kernel_rfl)]; go_simp)
        refine (hst.out _ (hN.out.below hb.out)).mono ?_
        rintro e w6 ⟨⟨s', rfl, hsq⟩, hb6⟩
        have hsq := Lib.hid hsq
        have h1 := Lib.hid (h1.out.below hb6)
        have h2 := Lib.hid (h2.out.below hb6)
        have h3 := Lib.hid (h3.out.below hb6)
        have h4 := Lib.hid (h4.out.below hb6)
        have hb := Lib.hid (below_step hb.out hb6)
        clear hb6
        go_simp
        (refine hK.out _ _ ⟨h1.out, h2.out.n3, h3.out.act3⟩ (fun hHeld => ?_); clear hK K; (try simp only [Act.put, List.setIfInBounds_toArray]); (try simp only [List.set_cons_zero, List.set_cons_succ]))
        (refine tkH 6 (v := ?_) ?_ ?_; rotate_left; focus (intro w' hSw; (try dsimp only at hSw); go_simp; (try with_reducible rfl)); (try simp only [Act.put, List.setIfInBounds_toArray, List.set_cons_zero, List.set_cons_succ]))
        (refine tkH 7 (v := ?_) ?_ ?_; rotate_left; focus (intro w' hSw; (try dsimp only at hSw); go_simp; (try with_reducible rfl)); (try simp only [Act.put, List.setIfInBounds_toArray, List.set_cons_zero, List.set_cons_succ]))
        (refine tkH 8 (v := ?_) ?_ ?_; rotate_left; focus (intro w' hSw; (try dsimp only at hSw); go_simp; (try with_reducible rfl)); (try simp only [Act.put, List.setIfInBounds_toArray, List.set_cons_zero, List.set_cons_succ]))
        (refine wpAnyH_ready (rs := [9]) (by decide +kernel) (by simp) ?_; refine AllReadyH.cons rfl (fun K hK => ?_) AllReadyH.nil; rw [if_pos (by kernel_rfl)]; go_simp)
        have hz8 := h4.out.lt
        have h8 := Lib.hid (BoxAt.new w6 #[.int .i64 0, .int .i64 0, .int .i64 0, .int .i64 0, .int .i64 0, .int .i64 0] 57)
        have hal := below_alloc w6 (.cells #[.int .i64 0, .int .i64 0, .int .i64 0, .int .i64 0, .int .i64 0, .int .i64 0] 57)
        have h1 := Lib.hid (h1.out.below hal)
        have h2 := Lib.hid (h2.out.below hal)
        have h3 := Lib.hid (h3.out.below hal)
        have h4 := Lib.hid (h4.out.below hal)
        have hb := Lib.hid (below_step hb.out hal)
        clear hal
        (refine hK.out _ _ ⟨h1.out, h2.out.n3, h3.out.act3⟩ (fun hHeld => ?_); clear hK K; (try simp only [Act.put, List.setIfInBounds_toArray]); (try simp only [List.set_cons_zero, List.set_cons_succ]))
        refine wpAnyH_ready (rs := [10]) (by decide +kernel) (by simp) ?_
        refine AllReadyH.cons rfl (fun K hK => ?_) AllReadyH.nil
        rw [if_pos (by kernel_rfl)]
        refine wp_store_mid 57 (.tmp 8) (.tmp 22) rfl (w6.heap.size) 0 #[.int .i64 s'.phase, .int .i64 s'.deadline, .int .i64 s'.object, .int .i64 s'.last, .int .i64 s'.objected, .int .i64 s'.extended] (by rfl) (by rfl) (by exact h8.out.there) rsSize (by kernel_rfl) ?_
        have hg8 := grown_setCells (w6.heap.size) [.int .i64 s'.phase, .int .i64 s'.deadline, .int .i64 s'.object, .int .i64 s'.last, .int .i64 s'.objected, .int .i64 s'.extended] 0 (w6.alloc (.cells #[.int .i64 0, .int .i64 0, .int .i64 0, .int .i64 0, .int .i64 0, .int .i64 0] 57))
        have h1 := Lib.hid (h1.out.grown hg8 (by simp; omega))
        have h2 := Lib.hid (h2.out.grown hg8 (by simp; omega))
        have h3 := Lib.hid (h3.out.grown hg8 (by simp; omega))
        have h4 := Lib.hid (h4.out.grown hg8 (by simp; omega))
        have hb := Lib.hid (below_of_grownB hb.out hg8 (by omega))
        clear hg8 h8
        (refine hK.out _ _ ⟨h1.out, h2.out.n3, h3.out.act3⟩ (fun hHeld => ?_); clear hK K; (try simp only [Act.put, List.setIfInBounds_toArray]); (try simp only [List.set_cons_zero, List.set_cons_succ]))
        (refine tkH 11 (v := ?_) ?_ ?_; rotate_left; focus (intro w' hSw; (try dsimp only at hSw); go_simp; (try with_reducible rfl)); (try simp only [Act.put, List.setIfInBounds_toArray, List.set_cons_zero, List.set_cons_succ]))
        refine wpAnyH_done (by kernel_rfl) ?_ _
        clear hHeld
        go_wp2_with ((refine wpList_store_box rfl 29 (.tmp 6) (.tmp 26) rfl (w.heap.size + 1 + 1 + 1) _ [.string ⟨#[]⟩, .int .i64 0, .slice none 0 0] (by rfl) (by rfl) h4.out rfl ntSize (by kernel_rfl) ?_; intro w9 h9 hg9); have hb9 := Lib.hid (below_of_grownB hb.out hg9 (by omega)))
        (try simp only [Exit.inBlock, Exit.then])
        refine bodyPost_ret (results_mid2 rfl _ _ (w.heap.size + 1 + 1 + 1) [.string ⟨#[]⟩, .int .i64 0, .slice none 0 0] _ rfl h9.range Tryz.underlying29 rfl ntSize) rfl ⟨by rfl, hb9.out⟩
      · (rw [if_pos (by kernel_rfl)]; go_simp)
        have hz8 := h4.out.lt
        have h8 := Lib.hid (BoxAt.new w5 #[.int .i64 0, .int .i64 0, .int .i64 0, .int .i64 0, .int .i64 0, .int .i64 0] 57)
        have hal := below_alloc w5 (.cells #[.int .i64 0, .int .i64 0, .int .i64 0, .int .i64 0, .int .i64 0, .int .i64 0] 57)
        have h1 := Lib.hid (h1.out.below hal)
        have h2 := Lib.hid (h2.out.below hal)
        have h3 := Lib.hid (h3.out.below hal)
        have h4 := Lib.hid (h4.out.below hal)
        have hb := Lib.hid (below_step hb.out hal)
        clear hal
        (refine hK.out _ _ ⟨h1.out, h2.out.n3, h3.out.act3⟩ (fun hHeld => ?_); clear hK K; (try simp only [Act.put, List.setIfInBounds_toArray]); (try simp only [List.set_cons_zero, List.set_cons_succ]))
        (refine wpAnyH_ready (rs := [5]) (by decide +kernel) (by simp) ?_; refine AllReadyH.cons rfl (fun K hK => ?_) AllReadyH.nil; rw [if_pos (by kernel_rfl)]; go_simp)
        refine (hst.out _ (hN.out.below hb.out)).mono ?_
        rintro e w6 ⟨⟨s', rfl, hsq⟩, hb6⟩
        have hsq := Lib.hid hsq
        have h8 := Lib.hid (h8.out.below hb6)
        have h1 := Lib.hid (h1.out.below hb6)
        have h2 := Lib.hid (h2.out.below hb6)
        have h3 := Lib.hid (h3.out.below hb6)
        have h4 := Lib.hid (h4.out.below hb6)
        have hb := Lib.hid (below_step hb.out hb6)
        clear hb6
        go_simp
        (refine hK.out _ _ ⟨h1.out, h2.out.n3, h3.out.act3⟩ (fun hHeld => ?_); clear hK K; (try simp only [Act.put, List.setIfInBounds_toArray]); (try simp only [List.set_cons_zero, List.set_cons_succ]))
        (refine tkH 6 (v := ?_) ?_ ?_; rotate_left; focus (intro w' hSw; (try dsimp only at hSw); go_simp; (try with_reducible rfl)); (try simp only [Act.put, List.setIfInBounds_toArray, List.set_cons_zero, List.set_cons_succ]))
        (refine tkH 7 (v := ?_) ?_ ?_; rotate_left; focus (intro w' hSw; (try dsimp only at hSw); go_simp; (try with_reducible rfl)); (try simp only [Act.put, List.setIfInBounds_toArray, List.set_cons_zero, List.set_cons_succ]))
        (refine tkH 8 (v := ?_) ?_ ?_; rotate_left; focus (intro w' hSw; (try dsimp only at hSw); go_simp; (try with_reducible rfl)); (try simp only [Act.put, List.setIfInBounds_toArray, List.set_cons_zero, List.set_cons_succ]))
        refine wpAnyH_ready (rs := [10]) (by decide +kernel) (by simp) ?_
        refine AllReadyH.cons rfl (fun K hK => ?_) AllReadyH.nil
        rw [if_pos (by kernel_rfl)]
        refine wp_store_mid 57 (.tmp 8) (.tmp 22) rfl (w5.heap.size) 0 #[.int .i64 s'.phase, .int .i64 s'.deadline, .int .i64 s'.object, .int .i64 s'.last, .int .i64 s'.objected, .int .i64 s'.extended] (by rfl) (by rfl) (by exact h8.out.there) rsSize (by kernel_rfl) ?_
        have hg8 := grown_setCells (w5.heap.size) [.int .i64 s'.phase, .int .i64 s'.deadline, .int .i64 s'.object, .int .i64 s'.last, .int .i64 s'.objected, .int .i64 s'.extended] 0 (w6)
        have h1 := Lib.hid (h1.out.grown hg8 (by simp; omega))
        have h2 := Lib.hid (h2.out.grown hg8 (by simp; omega))
        have h3 := Lib.hid (h3.out.grown hg8 (by simp; omega))
        have h4 := Lib.hid (h4.out.grown hg8 (by simp; omega))
        have hb := Lib.hid (below_of_grownB hb.out hg8 (by omega))
        clear hg8 h8
        (refine hK.out _ _ ⟨h1.out, h2.out.n3, h3.out.act3⟩ (fun hHeld => ?_); clear hK K; (try simp only [Act.put, List.setIfInBounds_toArray]); (try simp only [List.set_cons_zero, List.set_cons_succ]))
        (refine tkH 11 (v := ?_) ?_ ?_; rotate_left; focus (intro w' hSw; (try dsimp only at hSw); go_simp; (try with_reducible rfl)); (try simp only [Act.put, List.setIfInBounds_toArray, List.set_cons_zero, List.set_cons_succ]))
        refine wpAnyH_done (by kernel_rfl) ?_ _
        clear hHeld
        go_wp2_with ((refine wpList_store_box rfl 29 (.tmp 6) (.tmp 26) rfl (w.heap.size + 1 + 1 + 1) _ [.string ⟨#[]⟩, .int .i64 0, .slice none 0 0] (by rfl) (by rfl) h4.out rfl ntSize (by kernel_rfl) ?_; intro w9 h9 hg9); have hb9 := Lib.hid (below_of_grownB hb.out hg9 (by omega)))
        (try simp only [Exit.inBlock, Exit.then])
        refine bodyPost_ret (results_mid2 rfl _ _ (w.heap.size + 1 + 1 + 1) [.string ⟨#[]⟩, .int .i64 0, .slice none 0 0] _ rfl h9.range Tryz.underlying29 rfl ntSize) rfl ⟨by rfl, hb9.out⟩
    · (rw [if_pos (by kernel_rfl)]; go_simp)
      have hz8 := h4.out.lt
      have h8 := Lib.hid (BoxAt.new w4 #[.int .i64 0, .int .i64 0, .int .i64 0, .int .i64 0, .int .i64 0, .int .i64 0] 57)
      have hal := below_alloc w4 (.cells #[.int .i64 0, .int .i64 0, .int .i64 0, .int .i64 0, .int .i64 0, .int .i64 0] 57)
      have h1 := Lib.hid (h1.out.below hal)
      have h2 := Lib.hid (h2.out.below hal)
      have h3 := Lib.hid (h3.out.below hal)
      have h4 := Lib.hid (h4.out.below hal)
      have hb := Lib.hid (below_step hb.out hal)
      clear hal
      (refine hK.out _ _ ⟨h1.out, h2.out.n3, h3.out.act3⟩ (fun hHeld => ?_); clear hK K; (try simp only [Act.put, List.setIfInBounds_toArray]); (try simp only [List.set_cons_zero, List.set_cons_succ]))
      (refine wpAnyH_ready (rs := [3]) (by decide +kernel) (by simp) ?_; refine AllReadyH.cons rfl (fun K hK => ?_) AllReadyH.nil; rw [if_pos (by kernel_rfl)]; go_simp)
      refine (hat.out _ (hN.out.below hb.out)).mono ?_
      rintro e w5 ⟨rfl, hb5⟩
      have h8 := Lib.hid (h8.out.below hb5)
      have h1 := Lib.hid (h1.out.below hb5)
      have h2 := Lib.hid (h2.out.below hb5)
      have h3 := Lib.hid (h3.out.below hb5)
      have h4 := Lib.hid (h4.out.below hb5)
      have hb := Lib.hid (below_step hb.out hb5)
      clear hb5
      go_simp
      (refine hK.out _ _ ⟨h1.out, h2.out.n3, h3.out.act3⟩ (fun hHeld => ?_); clear hK K; (try simp only [Act.put, List.setIfInBounds_toArray]); (try simp only [List.set_cons_zero, List.set_cons_succ]))
      (refine wpAnyH_ready (rs := [5]) (by decide +kernel) (by simp) ?_; refine AllReadyH.cons rfl (fun K hK => ?_) AllReadyH.nil; rw [if_pos (by kernel_rfl)]; go_simp)
      refine (hst.out _ (hN.out.below hb.out)).mono ?_
      rintro e w6 ⟨⟨s', rfl, hsq⟩, hb6⟩
      have hsq := Lib.hid hsq
      have h8 := Lib.hid (h8.out.below hb6)
      have h1 := Lib.hid (h1.out.below hb6)
      have h2 := Lib.hid (h2.out.below hb6)
      have h3 := Lib.hid (h3.out.below hb6)
      have h4 := Lib.hid (h4.out.below hb6)
      have hb := Lib.hid (below_step hb.out hb6)
      clear hb6
      go_simp
      (refine hK.out _ _ ⟨h1.out, h2.out.n3, h3.out.act3⟩ (fun hHeld => ?_); clear hK K; (try simp only [Act.put, List.setIfInBounds_toArray]); (try simp only [List.set_cons_zero, List.set_cons_succ]))
      (refine tkH 6 (v := ?_) ?_ ?_; rotate_left; focus (intro w' hSw; (try dsimp only at hSw); go_simp; (try with_reducible rfl)); (try simp only [Act.put, List.setIfInBounds_toArray, List.set_cons_zero, List.set_cons_succ]))
      (refine tkH 7 (v := ?_) ?_ ?_; rotate_left; focus (intro w' hSw; (try dsimp only at hSw); go_simp; (try with_reducible rfl)); (try simp only [Act.put, List.setIfInBounds_toArray, List.set_cons_zero, List.set_cons_succ]))
      (refine tkH 8 (v := ?_) ?_ ?_; rotate_left; focus (intro w' hSw; (try dsimp only at hSw); go_simp; (try with_reducible rfl)); (try simp only [Act.put, List.setIfInBounds_toArray, List.set_cons_zero, List.set_cons_succ]))
      refine wpAnyH_ready (rs := [10]) (by decide +kernel) (by simp) ?_
      refine AllReadyH.cons rfl (fun K hK => ?_) AllReadyH.nil
      rw [if_pos (by kernel_rfl)]
      refine wp_store_mid 57 (.tmp 8) (.tmp 22) rfl (w4.heap.size) 0 #[.int .i64 s'.phase, .int .i64 s'.deadline, .int .i64 s'.object, .int .i64 s'.last, .int .i64 s'.objected, .int .i64 s'.extended] (by rfl) (by rfl) (by exact h8.out.there) rsSize (by kernel_rfl) ?_
      have hg8 := grown_setCells (w4.heap.size) [.int .i64 s'.phase, .int .i64 s'.deadline, .int .i64 s'.object, .int .i64 s'.last, .int .i64 s'.objected, .int .i64 s'.extended] 0 (w6)
      have h1 := Lib.hid (h1.out.grown hg8 (by simp; omega))
      have h2 := Lib.hid (h2.out.grown hg8 (by simp; omega))
      have h3 := Lib.hid (h3.out.grown hg8 (by simp; omega))
      have h4 := Lib.hid (h4.out.grown hg8 (by simp; omega))
      have hb := Lib.hid (below_of_grownB hb.out hg8 (by omega))
      clear hg8 h8
      (refine hK.out _ _ ⟨h1.out, h2.out.n3, h3.out.act3⟩ (fun hHeld => ?_); clear hK K; (try simp only [Act.put, List.setIfInBounds_toArray]); (try simp only [List.set_cons_zero, List.set_cons_succ]))
      (refine tkH 11 (v := ?_) ?_ ?_; rotate_left; focus (intro w' hSw; (try dsimp only at hSw); go_simp; (try with_reducible rfl)); (try simp only [Act.put, List.setIfInBounds_toArray, List.set_cons_zero, List.set_cons_succ]))
      refine wpAnyH_done (by kernel_rfl) ?_ _
      clear hHeld
      go_wp2_with ((refine wpList_store_box rfl 29 (.tmp 6) (.tmp 26) rfl (w.heap.size + 1 + 1 + 1) _ [.string ⟨#[]⟩, .int .i64 0, .slice none 0 0] (by rfl) (by rfl) h4.out rfl ntSize (by kernel_rfl) ?_; intro w9 h9 hg9); have hb9 := Lib.hid (below_of_grownB hb.out hg9 (by omega)))
      (try simp only [Exit.inBlock, Exit.then])
      refine bodyPost_ret (results_mid2 rfl _ _ (w.heap.size + 1 + 1 + 1) [.string ⟨#[]⟩, .int .i64 0, .slice none 0 0] _ rfl h9.range Tryz.underlying29 rfl ntSize) rfl ⟨by rfl, hb9.out⟩
end Go.Proofs.YtconnjkkgaapbaaGreatDoor
