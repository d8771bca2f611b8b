/- Chapter 8 and what it rests on: definitions and walks, part 33. -/
import Derived.Test.YtconnjkkgaapbaaGreatDoorC32
import Derived.Deep.DeepCutAuto
namespace Go.Proofs.YtconnjkkgaapbaaGreatDoor
open Go Go.RowKit
theorem RowsAt.grown {w w' : World} {A : Option Addr} {m : Nat} {rows : List (List Value)} {B : Nat} (h : RowsAt w A m rows) (hg : w.grownBy w' (some B)) (hB : ∀ ad, A = some ad → ad.block ≠ B) : RowsAt w' A m rows := fun k r hr => by
  obtain ⟨b, o, hA, hlt, hc⟩ := h k r hr
  exact ⟨b, o, hA, Nat.lt_of_lt_of_le hlt hg.size, fun j v hv => (World.cell?_of_block (a := ⟨b, _, none⟩) (hg.block b hlt (by have := hB _ hA; simpa using this))).trans (hc j v hv)⟩
def AddROk (w : World) (n : Note) (e : Ending) (w' : World) : Prop := ∃ N d, e = .returned (.tuple #[.agg #[.string n.name, .int .i64 n.opened, .slice N n.acts.length d], .int .i64 0]) ∧ Acts w' N n.acts ∧ Below w.heap.size w w'
set_option maxRecDepth 100000 in
set_option maxHeartbeats 8000000 in
theorem AddR_ok (A : Option Addr) (c : Nat) (p : Proc) (N : Option Addr) (d : Nat) (n : Note) (a : NAct) (w : World) (hN : NB w A p N n) (hv : (Cal.checkS p n).2 = 0) (hE : Cal.addE p n a = 0) :
    Calls Tryz.prog 39 #[.agg #[.int .i64 p.runs.m, .int .i64 p.runs.d, .bool p.runs.k, .int .i64 p.obj.m, .int .i64 p.obj.d, .bool p.obj.k, .int .i64 p.wait.m, .int .i64 p.wait.d, .bool p.wait.k, .int .i64 p.exts, .int .i64 p.longest, .slice A p.hols.length c], .agg #[.string n.name, .int .i64 n.opened, .slice N n.acts.length d], .agg #[.int .i64 a.day, .int .i64 a.kind, .int .i64 a.days]] w (AddROk w (n.more a)) := by
  have hsz := hN.acts.size
  have hN := Lib.hid hN
  have hlen' : n.acts.length < 40 := (Cal.addE_ok hE).2.1
  have hact := (Cal.addE_ok hE).2.2
  have hok := (Cal.end_ok hv).1
  have hp := (Cal.checkS_ok hv).1
  have hat := Lib.hid (fun w1 (h : NB w1 A p N n) => At_any A c p N d n 200000 w1 h.hols h.acts hv)
  generalize Cal.stAt p n 200000 = s at *
  have hst := fun w1 (h : NB w1 A p N n) => Step_any A c p s a w1 h.hols hok hp
  rcases hr : Cal.actS p s a with ⟨s2, E⟩
  rw [hr] at hst hact
  have hact : E = 0 := hact
  subst hact
  have hst := Lib.hid hst
  clear hE hv hp hr hok
  obtain ⟨h1, h2, h3, h4, hb⟩ := start4 w A c p N d n a
  have c2 := h2.out.c 2 _ rfl
  go_enter Tryz.func39, Tryz.ntmps39
  go_upto_region 3 with fail
  clear c2
  go_cut [8, 9] from 10 (fun _ s9 wc => s9 = .int .i64 0 ∧ Hid (BoxAt wc (w.heap.size + 1) [.string n.name, .int .i64 n.opened, .slice N n.acts.length d]) ∧ Hid (BoxAt wc (w.heap.size + 1 + 1) [.int .i64 a.day, .int .i64 a.kind, .int .i64 a.days]) ∧ Hid (BoxAt wc (w.heap.size + 1 + 1 + 1) [.string ⟨#[]⟩, .int .i64 0, .slice none 0 0]) ∧ Hid (Below w.heap.size w wc))
  case first =>
    have hdr : Below ((((w.alloc (.cells #[.int .i64 p.runs.m, .int .i64 p.runs.d, .bool p.runs.k, .int .i64 p.obj.m, .int .i64 p.obj.d, .bool p.obj.k, .int .i64 p.wait.m, .int .i64 p.wait.d, .bool p.wait.k, .int .i64 p.exts, .int .i64 p.longest, .slice A p.hols.length c] 26)).alloc (.cells #[.string n.name, .int .i64 n.opened, .slice N n.acts.length d] 29)).alloc (.cells #[.int .i64 a.day, .int .i64 a.kind, .int .i64 a.days] 64)).alloc (.cells #[.string ⟨#[]⟩, .int .i64 0, .slice none 0 0] 29)).heap.size ((((w.alloc (.cells #[.int .i64 p.runs.m, .int .i64 p.runs.d, .bool p.runs.k, .int .i64 p.obj.m, .int .i64 p.obj.d, .bool p.obj.k, .int .i64 p.wait.m, .int .i64 p.wait.d, .bool p.wait.k, .int .i64 p.exts, .int .i64 p.longest, .slice A p.hols.length c] 26)).alloc (.cells #[.string n.name, .int .i64 n.opened, .slice N n.acts.length d] 29)).alloc (.cells #[.int .i64 a.day, .int .i64 a.kind, .int .i64 a.days] 64)).alloc (.cells #[.string ⟨#[]⟩, .int .i64 0, .slice none 0 0] 29)) ((((w.alloc (.cells #[.int .i64 p.runs.m, .int .i64 p.runs.d, .bool p.runs.k, .int .i64 p.obj.m, .int .i64 p.obj.d, .bool p.obj.k, .int .i64 p.wait.m, .int .i64 p.wait.d, .bool p.wait.k, .int .i64 p.exts, .int .i64 p.longest, .slice A p.hols.length c] 26)).alloc (.cells #[.string n.name, .int .i64 n.opened, .slice N n.acts.length d] 29)).alloc (.cells #[.int .i64 a.day, .int .i64 a.kind, .int .i64 a.days] 64)).alloc (.cells #[.string ⟨#[]⟩, .int .i64 0, .slice none 0 0] 29)).drew := (Below.refl _ _).drew
    refine wp_region_held_drew (S := (fun w' => BoxAt w' w.heap.size [.int .i64 p.runs.m, .int .i64 p.runs.d, .bool p.runs.k, .int .i64 p.obj.m, .int .i64 p.obj.d, .bool p.obj.k, .int .i64 p.wait.m, .int .i64 p.wait.d, .bool p.wait.k, .int .i64 p.exts, .int .i64 p.longest, .slice A p.hols.length c] ∧ (w'.cell? ⟨w.heap.size + 1, 0, none⟩ = some (.string n.name) ∧ w'.cell? ⟨w.heap.size + 1, 1, none⟩ = some (.int .i64 n.opened) ∧ w'.cell? ⟨w.heap.size + 1, 2, none⟩ = some (.slice N n.acts.length d)) ∧ (w'.cell? ⟨w.heap.size + 1 + 1, 0, none⟩ = some (.int .i64 a.day) ∧ w'.cell? ⟨w.heap.size + 1 + 1, 1, none⟩ = some (.int .i64 a.kind) ∧ w'.cell? ⟨w.heap.size + 1 + 1, 2, none⟩ = some (.int .i64 a.days)))) (by kernel_rfl) ⟨h1.out.below hdr, (h2.out.below hdr).n3, (h3.out.below hdr).act3⟩ (fun hHeld => ?_)
    have h1 := Lib.hid (h1.out.below hdr)
    have h2 := Lib.hid (h2.out.below hdr)
    have h3 := Lib.hid (h3.out.below hdr)
    have h4 := Lib.hid (h4.out.below hdr)
    have hb := Lib.hid (below_step hb.out hdr)
    clear hdr
    generalize ((((w.alloc (.cells #[.int .i64 p.runs.m, .int .i64 p.runs.d, .bool p.runs.k, .int .i64 p.obj.m, .int .i64 p.obj.d, .bool p.obj.k, .int .i64 p.wait.m, .int .i64 p.wait.d, .bool p.wait.k, .int .i64 p.exts, .int .i64 p.longest, .slice A p.hols.length c] 26)).alloc (.cells #[.string n.name, .int .i64 n.opened, .slice N n.acts.length d] 29)).alloc (.cells #[.int .i64 a.day, .int .i64 a.kind, .int .i64 a.days] 64)).alloc (.cells #[.string ⟨#[]⟩, .int .i64 0, .slice none 0 0] 29)).drew = w4 at *
    (refine wpAnyH_take (i := 0) (v := _) rfl (by kernel_rfl) (by decide +kernel) (by decide +kernel) (fun _ _ _ h => h) (yieldsIf_load_mid (by kernel_rfl) 26 _ rfl (w.heap.size) 0 (by kernel_rfl) [.int .i64 p.runs.m, .int .i64 p.runs.d, .bool p.runs.k, .int .i64 p.obj.m, .int .i64 p.obj.d, .bool p.obj.k, .int .i64 p.wait.m, .int .i64 p.wait.d, .bool p.wait.k, .int .i64 p.exts, .int .i64 p.longest, .slice A p.hols.length c] _ (fun _ h => h.1.range) Tryz.underlying26 rfl prSize) (by assumption) ?_; (try simp only [Act.put]); (try simp only [List.setIfInBounds_toArray]); (try simp only [List.set_cons_zero, List.set_cons_succ]))
    (refine wpAnyH_take (i := 1) (v := _) rfl (by kernel_rfl) (by decide +kernel) (by decide +kernel) (fun _ _ _ h => h) (yieldsIf_load_mid (by kernel_rfl) 26 _ rfl (w.heap.size) 0 (by kernel_rfl) [.int .i64 p.runs.m, .int .i64 p.runs.d, .bool p.runs.k, .int .i64 p.obj.m, .int .i64 p.obj.d, .bool p.obj.k, .int .i64 p.wait.m, .int .i64 p.wait.d, .bool p.wait.k, .int .i64 p.exts, .int .i64 p.longest, .slice A p.hols.length c] _ (fun _ h => h.1.range) Tryz.underlying26 rfl prSize) (by assumption) ?_; (try simp only [Act.put]); (try simp only [List.setIfInBounds_toArray]); (try simp only [List.set_cons_zero, List.set_cons_succ]))
    (refine tkH 2 (v := ?_) ?_ ?_; rotate_left; focus (intro w' hSw; (try dsimp only at hSw); go_simp; (try with_reducible rfl)); (try simp only [Act.put, List.setIfInBounds_toArray, List.set_cons_zero, List.set_cons_succ]))
    (refine tkH 4 (v := ?_) ?_ ?_; rotate_left; focus (intro w' hSw; (try dsimp only at hSw); go_simp; (try with_reducible rfl)); (try simp only [Act.put, List.setIfInBounds_toArray, List.set_cons_zero, List.set_cons_succ]))
    (refine wpAnyH_ready (rs := [3, 9]) (by decide +kernel) (by simp) ?_; refine AllReadyH.cons rfl (fun K hK => ?_) (AllReadyH.cons rfl (fun K hK => ?_) AllReadyH.nil))
    · (rw [if_pos (by kernel_rfl)]; go_simp)
      refine (hat.out _ (hN.out.below hb.out)).mono ?_
      rintro e w5 ⟨rfl, hb5⟩
      have h1 := Lib.hid (h1.out.below hb5)
      have h2 := Lib.hid (h2.out.below hb5)
      have h3 := Lib.hid (h3.out.below hb5)
      have h4 := Lib.hid (h4.out.below hb5)
      have hb := Lib.hid (below_step hb.out hb5)
      clear hb5
      go_simp
      (refine hK.out _ _ ⟨h1.out, h2.out.n3, h3.out.act3⟩ (fun hHeld => ?_); clear hK K; (try simp only [Act.put, List.setIfInBounds_toArray]); (try simp only [List.set_cons_zero, List.set_cons_succ]))
      (refine wpAnyH_ready (rs := [5, 9]) (by decide +kernel) (by simp) ?_; refine AllReadyH.cons rfl (fun K hK => ?_) (AllReadyH.cons rfl (fun K hK => ?_) AllReadyH.nil))
      · (rw [if_pos (by kernel_rfl)]; go_simp)
        refine (hst.out _ (hN.out.below hb.out)).mono ?_
        rintro e w6 ⟨⟨s', rfl, hsq⟩, hb6⟩
        clear hsq
        have h1 := Lib.hid (h1.out.below hb6)
        have h2 := Lib.hid (h2.out.below hb6)
        have h3 := Lib.hid (h3.out.below hb6)
        have h4 := Lib.hid (h4.out.below hb6)
        have hb := Lib.hid (below_step hb.out hb6)
        clear hb6
        go_simp
        (refine hK.out _ _ ⟨h1.out, h2.out.n3, h3.out.act3⟩ (fun hHeld => ?_); clear hK K; (try simp only [Act.put, List.setIfInBounds_toArray]); (try simp only [List.set_cons_zero, List.set_cons_succ]))
        (refine tkH 6 (v := ?_) ?_ ?_; rotate_left; focus (intro w' hSw; (try dsimp only at hSw); go_simp; (try with_reducible rfl)); (try simp only [Act.put, List.setIfInBounds_toArray, List.set_cons_zero, List.set_cons_succ]))
        (refine tkH 7 (v := ?_) ?_ ?_; rotate_left; focus (intro w' hSw; (try dsimp only at hSw); go_simp; (try with_reducible rfl)); (try simp only [Act.put, List.setIfInBounds_toArray, List.set_cons_zero, List.set_cons_succ]))
        (refine tkH 8 (v := ?_) ?_ ?_; rotate_left; focus (intro w' hSw; (try dsimp only at hSw); go_simp; (try with_reducible rfl)); (try simp only [Act.put, List.setIfInBounds_toArray, List.set_cons_zero, List.set_cons_succ]))
        (refine wpAnyH_ready (rs := [9]) (by decide +kernel) (by simp) ?_; refine AllReadyH.cons rfl (fun K hK => ?_) AllReadyH.nil; rw [if_pos (by kernel_rfl)]; go_simp)
        have hz8 := h4.out.lt
        have h8 := Lib.hid (BoxAt.new w6 #[.int .i64 0, .int .i64 0, .int .i64 0, .int .i64 0, .int .i64 0, .int .i64 0] 57)
        have hal := below_alloc w6 (.cells #[.int .i64 0, .int .i64 0, .int .i64 0, .int .i64 0, .int .i64 0, .int .i64 0] 57)
        have h1 := Lib.hid (h1.out.below hal)
        have h2 := Lib.hid (h2.out.below hal)
        have h3 := Lib.hid (h3.out.below hal)
        have h4 := Lib.hid (h4.out.below hal)
        have hb := Lib.hid (below_step hb.out hal)
        clear hal
        (refine hK.out _ _ ⟨h1.out, h2.out.n3, h3.out.act3⟩ (fun hHeld => ?_); clear hK K; (try simp only [Act.put, List.setIfInBounds_toArray]); (try simp only [List.set_cons_zero, List.set_cons_succ]))
        refine wpAnyH_ready (rs := [10]) (by decide +kernel) (by simp) ?_
        refine AllReadyH.cons rfl (fun K hK => ?_) AllReadyH.nil
        rw [if_pos (by kernel_rfl)]
        refine wp_store_mid 57 (.tmp 8) (.tmp 22) rfl (w6.heap.size) 0 #[.int .i64 s'.phase, .int .i64 s'.deadline, .int .i64 s'.object, .int .i64 s'.last, .int .i64 s'.objected, .int .i64 s'.extended] (by rfl) (by rfl) (by exact h8.out.there) rsSize (by kernel_rfl) ?_
        have hg8 := grown_setCells (w6.heap.size) [.int .i64 s'.phase, .int .i64 s'.deadline, .int .i64 s'.object, .int .i64 s'.last, .int .i64 s'.objected, .int .i64 s'.extended] 0 (w6.alloc (.cells #[.int .i64 0, .int .i64 0, .int .i64 0, .int .i64 0, .int .i64 0, .int .i64 0] 57))
        have h1 := Lib.hid (h1.out.grown hg8 (by simp; omega))
        have h2 := Lib.hid (h2.out.grown hg8 (by simp; omega))
        have h3 := Lib.hid (h3.out.grown hg8 (by simp; omega))
        have h4 := Lib.hid (h4.out.grown hg8 (by simp; omega))
        have hb := Lib.hid (below_of_grownB hb.out hg8 (by omega))
        clear hg8 h8
        (refine hK.out _ _ ⟨h1.out, h2.out.n3, h3.out.act3⟩ (fun hHeld => ?_); clear hK K; (try simp only [Act.put, List.setIfInBounds_toArray]); (try simp only [List.set_cons_zero, List.set_cons_succ]))
        (refine tkH 11 (v := ?_) ?_ ?_; rotate_left; focus (intro w' hSw; (try dsimp only at hSw); go_simp; (try with_reducible rfl)); (try simp only [Act.put, List.setIfInBounds_toArray, List.set_cons_zero, List.set_cons_succ]))
        refine wpAnyH_done (by kernel_rfl) ?_ _
        clear hHeld
        go_wp2_with fail
        go_meet
        exact ⟨rfl, h2, h3, h4, hb⟩
      · (rw [if_pos (by kernel_rfl)]; go_simp)
        have hz8 := h4.out.lt
        have h8 := Lib.hid (BoxAt.new w5 #[.int .i64 0, .int .i64 0, .int .i64 0, .int .i64 0, .int .i64 0, .int .i64 0] 57)
        have hal := below_alloc w5 (.cells #[.int .i64 0, .int .i64 0, .int .i64 0, .int .i64 0, .int .i64 0, .int .i64 0] 57)
        have h1 := Lib.hid (h1.out.below hal)
        have h2 := Lib.hid (h2.out.below hal)
        have h3 := Lib.hid (h3.out.below hal)
        have h4 := Lib.hid (h4.out.below hal)
        have hb := Lib.hid (below_step hb.out hal)
        clear hal
        (refine hK.out _ _ ⟨h1.out, h2.out.n3, h3.out.act3⟩ (fun hHeld => ?_); clear hK K; (try simp only [Act.put, List.setIfInBounds_toArray]); (try simp only [List.set_cons_zero, List.set_cons_succ]))
        (refine wpAnyH_ready (rs := [5]) (by decide +kernel) (by simp) ?_; refine AllReadyH.cons rfl (fun K hK => ?_) AllReadyH.nil; rw [if_pos (by kernel_rfl)]; go_simp)
        refine (hst.out _ (hN.out.below hb.out)).mono ?_
        rintro e w6 ⟨⟨s', rfl, hsq⟩, hb6⟩
        clear hsq
        have h8 := Lib.hid (h8.out.below hb6)
        have h1 := Lib.hid (h1.out.below hb6)
        have h2 := Lib.hid (h2.out.below hb6)
        have h3 := Lib.hid (h3.out.below hb6)
        have h4 := Lib.hid (h4.out.below hb6)
        have hb := Lib.hid (below_step hb.out hb6)
        clear hb6
        go_simp
        (refine hK.out _ _ ⟨h1.out, h2.out.n3, h3.out.act3⟩ (fun hHeld => ?_); clear hK K; (try simp only [Act.put, List.setIfInBounds_toArray]); (try simp only [List.set_cons_zero, List.set_cons_succ]))
        (refine tkH 6 (v := ?_) ?_ ?_; rotate_left; focus (intro w' hSw; (try dsimp only at hSw); go_simp; (try with_reducible rfl)); (try simp only [Act.put, List.setIfInBounds_toArray, List.set_cons_zero, List.set_cons_succ]))
        (refine tkH 7 (v := ?_) ?_ ?_; rotate_left; focus (intro w' hSw; (try dsimp only at hSw); go_simp; (try with_reducible rfl)); (try simp only [Act.put, List.setIfInBounds_toArray, List.set_cons_zero, List.set_cons_succ]))
        (refine tkH 8 (v := ?_) ?_ ?_; rotate_left; focus (intro w' hSw; (try dsimp only at hSw); go_simp; (try with_reducible rfl)); (try simp only [Act.put, List.setIfInBounds_toArray, List.set_cons_zero, List.set_cons_succ]))
        refine wpAnyH_ready (rs := [10]) (by decide +kernel) (by simp) ?_
        refine AllReadyH.cons rfl (fun K hK => ?_) AllReadyH.nil
        rw [if_pos (by kernel_rfl)]
        refine wp_store_mid 57 (.tmp 8) (.tmp 22) rfl (w5.heap.size) 0 #[.int .i64 s'.phase, .int .i64 s'.deadline, .int .i64 s'.object, .int .i64 s'.last, .int .i64 s'.objected, .int .i64 s'.extended] (by rfl) (by rfl) (by exact h8.out.there) rsSize (by kernel_rfl) ?_
        have hg8 := grown_setCells (w5.heap.size) [.int .i64 s'.phase, .int .i64 s'.deadline, .int .i64 s'.object, .int .i64 s'.last, .int .i64 s'.objected, .int .i64 s'.extended] 0 (w6)
        have h1 := Lib.hid (h1.out.grown hg8 (by simp; omega))
        have h2 := Lib.hid (h2.out.grown hg8 (by simp; omega))
        have h3 := Lib.hid (h3.out.grown hg8 (by simp; omega))
        have h4 := Lib.hid (h4.out.grown hg8 (by simp; omega))
        have hb := Lib.hid (below_of_grownB hb.out hg8 (by omega))
        clear hg8 h8
        (refine hK.out _ _ ⟨h1.out, h2.out.n3, h3.out.act3⟩ (fun hHeld => ?_); clear hK K; (try simp only [Act.put, List.setIfInBounds_toArray]); (try simp only [List.set_cons_zero, List.set_cons_succ]))
        (refine tkH 11 (v := ?_) ?_ ?_; rotate_left; focus (intro w' hSw; (try dsimp only at hSw); go_simp; (try with_reducible rfl)); (try simp only [Act.put, List.setIfInBounds_toArray, List.set_cons_zero, List.set_cons_succ]))
        refine wpAnyH_done (by kernel_rfl) ?_ _
        clear hHeld
        go_wp2_with fail
        go_meet
        exact ⟨rfl, h2, h3, h4, hb⟩
    · (rw [if_pos (by kernel_rfl)]; go_simp)
      have hz8 := h4.out.lt
      have h8 := Lib.hid (BoxAt.new w4 #[.int .i64 0, .int .i64 0, .int .i64 0, .int .i64 0, .int .i64 0, .int .i64 0] 57)
      have hal := below_alloc w4 (.cells #[.int .i64 0, .int .i64 0, .int .i64 0, .int .i64 0, .int .i64 0, .int .i64 0] 57)
      have h1 := Lib.hid (h1.out.below hal)
      have h2 := Lib.hid (h2.out.below hal)
      have h3 := Lib.hid (h3.out.below hal)
      have h4 := Lib.hid (h4.out.below hal)
      have hb := Lib.hid (below_step hb.out hal)
      clear hal
      (refine hK.out _ _ ⟨h1.out, h2.out.n3, h3.out.act3⟩ (fun hHeld => ?_); clear hK K; (try simp only [Act.put, List.setIfInBounds_toArray]); (try simp only [List.set_cons_zero, List.set_cons_succ]))
      (refine wpAnyH_ready (rs := [3]) (by decide +kernel) (by simp) ?_; refine AllReadyH.cons rfl (fun K hK => ?_) AllReadyH.nil; rw [if_pos (by kernel_rfl)]; go_simp)
      refine (hat.out _ (hN.out.below hb.out)).mono ?_
      rintro e w5 ⟨rfl, hb5⟩
      have h8 := Lib.hid (h8.out.below hb5)
      have h1 := Lib.hid (h1.out.below hb5)
      have h2 := Lib.hid (h2.out.below hb5)
      have h3 := Lib.hid (h3.out.below hb5)
      have h4 := Lib.hid (h4.out.below hb5)
      have hb := Lib.hid (below_step hb.out hb5)
      clear hb5
      go_simp
      (refine hK.out _ _ ⟨h1.out, h2.out.n3, h3.out.act3⟩ (fun hHeld => ?_); clear hK K; (try simp only [Act.put, List.setIfInBounds_toArray]); (try simp only [List.set_cons_zero, List.set_cons_succ]))
      (refine wpAnyH_ready (rs := [5]) (by decide +kernel) (by simp) ?_; refine AllReadyH.cons rfl (fun K hK => ?_) AllReadyH.nil; rw [if_pos (by kernel_rfl)]; go_simp)
      refine (hst.out _ (hN.out.below hb.out)).mono ?_
      rintro e w6 ⟨⟨s', rfl, hsq⟩, hb6⟩
      clear hsq
      have h8 := Lib.hid (h8.out.below hb6)
      have h1 := Lib.hid (h1.out.below hb6)
      have h2 := Lib.hid (h2.out.below hb6)
      have h3 := Lib.hid (h3.out.below hb6)
      have h4 := Lib.hid (h4.out.below hb6)
      have hb := Lib.hid (below_step hb.out hb6)
      clear hb6
      go_simp
      (refine hK.out _ _ ⟨h1.out, h2.out.n3, h3.out.act3⟩ (fun hHeld => ?_); clear hK K; (try simp only [Act.put, List.setIfInBounds_toArray]); (try simp only [List.set_cons_zero, List.set_cons_succ]))
      (refine tkH 6 (v := ?_) ?_ ?_; rotate_left; focus (intro w' hSw; (try dsimp only at hSw); go_simp; (try with_reducible rfl)); (try simp only [Act.put, List.setIfInBounds_toArray, List.set_cons_zero, List.set_cons_succ]))
      (refine tkH 7 (v := ?_) ?_ ?_; rotate_left; focus (intro w' hSw; (try dsimp only at hSw); go_simp; (try with_reducible rfl)); (try simp only [Act.put, List.setIfInBounds_toArray, List.set_cons_zero, List.set_cons_succ]))
      (refine tkH 8 (v := ?_) ?_ ?_; rotate_left; focus (intro w' hSw; (try dsimp only at hSw); go_simp; (try with_reducible rfl)); (try simp only [Act.put, List.setIfInBounds_toArray, List.set_cons_zero, List.set_cons_succ]))
      refine wpAnyH_ready (rs := [10]) (by decide +kernel) (by simp) ?_
      refine AllReadyH.cons rfl (fun K hK => ?_) AllReadyH.nil
      rw [if_pos (by kernel_rfl)]
      refine wp_store_mid 57 (.tmp 8) (.tmp 22) rfl (w4.heap.size) 0 #[.int .i64 s'.phase, .int .i64 s'.deadline, .int .i64 s'.object, .int .i64 s'.last, .int .i64 s'.objected, .int .i64 s'.extended] (by rfl) (by rfl) (by exact h8.out.there) rsSize (by kernel_rfl) ?_
      have hg8 := grown_setCells (w4.heap.size) [.int .i64 s'.phase, .int .i64 s'.deadline, .int .i64 s'.object, .int .i64 s'.last, .int .i64 s'.objected, .int .i64 s'.extended] 0 (w6)
      have h1 := Lib.hid (h1.out.grown hg8 (by simp; omega))
      have h2 := Lib.hid (h2.out.grown hg8 (by simp; omega))
      have h3 := Lib.hid (h3.out.grown hg8 (by simp; omega))
      have h4 := Lib.hid (h4.out.grown hg8 (by simp; omega))
      have hb := Lib.hid (below_of_grownB hb.out hg8 (by omega))
      clear hg8 h8
      (refine hK.out _ _ ⟨h1.out, h2.out.n3, h3.out.act3⟩ (fun hHeld => ?_); clear hK K; (try simp only [Act.put, List.setIfInBounds_toArray]); (try simp only [List.set_cons_zero, List.set_cons_succ]))
      (refine tkH 11 (v := ?_) ?_ ?_; rotate_left; focus (intro w' hSw; (try dsimp only at hSw); go_simp; (try with_reducible rfl)); (try simp only [Act.put, List.setIfInBounds_toArray, List.set_cons_zero, List.set_cons_succ]))
      refine wpAnyH_done (by kernel_rfl) ?_ _
      clear hHeld
      go_wp2_with fail
      go_meet
      exact ⟨rfl, h2, h3, h4, hb⟩
  case rest =>
    clear h1
    obtain ⟨rfl, h2, h3, h4, hb⟩ := hcut
    go_wp2_with fail
    have hdr : Below wc.heap.size wc wc.drew := (Below.refl _ _).drew
    refine wp_region_held_drew (S := (fun w' => (w'.cell? ⟨w.heap.size + 1, 0, none⟩ = some (.string n.name) ∧ w'.cell? ⟨w.heap.size + 1, 1, none⟩ = some (.int .i64 n.opened) ∧ w'.cell? ⟨w.heap.size + 1, 2, none⟩ = some (.slice N n.acts.length d)) ∧ (w'.cell? ⟨w.heap.size + 1 + 1, 0, none⟩ = some (.int .i64 a.day) ∧ w'.cell? ⟨w.heap.size + 1 + 1, 1, none⟩ = some (.int .i64 a.kind) ∧ w'.cell? ⟨w.heap.size + 1 + 1, 2, none⟩ = some (.int .i64 a.days)))) (by kernel_rfl) ⟨(h2.out.below hdr).n3, (h3.out.below hdr).act3⟩ (fun hHeld => ?_)
    have ha := Lib.hid ((hN.out.below hb.out).acts.below hdr)
    have h2 := Lib.hid (h2.out.below hdr)
    have h3 := Lib.hid (h3.out.below hdr)
    have h4 := Lib.hid (h4.out.below hdr)
    have hb := Lib.hid (below_step hb.out hdr)
    clear hdr
    generalize wc.drew = w4 at *
    have hz4 := h4.out.lt
    have hx : Hid (Below w4.heap.size w4 w4) := Below.refl _ _
    (refine tkH 0 (v := ?_) ?_ ?_; rotate_left; focus (intro w' hSw; (try dsimp only at hSw); go_simp; (try with_reducible rfl)); (try simp only [Act.put, List.setIfInBounds_toArray, List.set_cons_zero, List.set_cons_succ]))
    (refine tkH 1 (v := ?_) ?_ ?_; rotate_left; focus (intro w' hSw; (try dsimp only at hSw); go_simp; (try with_reducible rfl)); (try simp only [Act.put, List.setIfInBounds_toArray, List.set_cons_zero, List.set_cons_succ]))
    (refine tkH 2 (v := ?_) ?_ ?_; rotate_left; focus (intro w' hSw; (try dsimp only at hSw); go_simp; (try with_reducible rfl)); (try simp only [Act.put, List.setIfInBounds_toArray, List.set_cons_zero, List.set_cons_succ]))
    (refine tkH 3 (v := ?_) ?_ ?_; rotate_left; focus (intro w' hSw; (try dsimp only at hSw); go_simp; (try with_reducible rfl)); (try simp only [Act.put, List.setIfInBounds_toArray, List.set_cons_zero, List.set_cons_succ]))
    (refine tkH 5 (v := ?_) ?_ ?_; rotate_left; focus (intro w' hSw; (try dsimp only at hSw); go_simp; (try with_reducible rfl)); (try simp only [Act.put, List.setIfInBounds_toArray, List.set_cons_zero, List.set_cons_succ]))
    (refine tkH 6 (v := ?_) ?_ ?_; rotate_left; focus (intro w' hSw; (try dsimp only at hSw); go_simp; (try with_reducible rfl)); (try simp only [Act.put, List.setIfInBounds_toArray, List.set_cons_zero, List.set_cons_succ]))
    (refine tkH 8 (v := ?_) ?_ ?_; rotate_left; focus (intro w' hSw; (try dsimp only at hSw); go_simp; (try with_reducible rfl)); (try simp only [Act.put, List.setIfInBounds_toArray, List.set_cons_zero, List.set_cons_succ]))
    (refine wpAnyH_ready (rs := [4, 9]) (by decide +kernel) (by simp) ?_; refine AllReadyH.cons rfl (fun K hK => ?_) (AllReadyH.cons rfl (fun K hK => ?_) AllReadyH.nil))
    · (rw [if_pos (by kernel_rfl)]; go_simp)
      have hown := Lib.hid (OwnL.made w4 w4.heap.size 64 3 (Nat.le_refl _))
      have hx0 := hx
      have hx := Lib.hid (hx0.out.alloc hx0.out.size (.cells #[] 64))
      clear hx0
      (refine hK.out _ _ ⟨(h2.out.below hx.out).n3, (h3.out.below hx.out).act3⟩ (fun hHeld => ?_); clear hK K; (try simp only [Act.put, List.setIfInBounds_toArray]); (try simp only [List.set_cons_zero, List.set_cons_succ]))
      (refine wpAnyH_ready (rs := [7, 9]) (by decide +kernel) (by simp) ?_; refine AllReadyH.cons rfl (fun K hK => ?_) (AllReadyH.cons rfl (fun K hK => ?_) AllReadyH.nil))
      · refine step_append_rows elemAct (by rfl) (.tmp 32) (.tmp 34) (by rfl) (by rfl) (by rfl) hown.out ((ha.out.below hx.out).rows) (List.length_map ..).symm (actCells_wid n.acts) (actCells_one n.acts) (by simp; omega) (by decide) hx.out.size ?_
        intro v5 w5 hown5 hg5 _
        have hx := Lib.hid (hx.out.trans (grown_below hg5 (fun g e => (OwnL.lt hown.out g e).1) hx.out.size))
        have hown := Lib.hid hown5
        clear hown5 hg5
        (refine hK.out _ _ ⟨(h2.out.below hx.out).n3, (h3.out.below hx.out).act3⟩ (fun hHeld => ?_); clear hK K; (try simp only [Act.put, List.setIfInBounds_toArray]); (try simp only [List.set_cons_zero, List.set_cons_succ]))
        (refine wpAnyH_ready (rs := [9]) (by decide +kernel) (by simp) ?_; refine AllReadyH.cons rfl (fun K hK => ?_) AllReadyH.nil; rw [if_pos (by kernel_rfl)]; go_simp)
        have hown := Lib.hid (OwnL.below hown.out (below_alloc w5 (.cells a.cells.toArray 64)))
        have hrow0 := rowsAt_new w5 a.cells 64
        (try rw [World.size_alloc] at hrow0)
        have hrow := Lib.hid hrow0
        clear hrow0
        have hx0 := hx
        have hx := Lib.hid (hx0.out.alloc hx0.out.size (.cells a.cells.toArray 64))
        clear hx0
        (refine hK.out _ _ ⟨(h2.out.below hx.out).n3, (h3.out.below hx.out).act3⟩ (fun hHeld => ?_); clear hK K; (try simp only [Act.put, List.setIfInBounds_toArray]); (try simp only [List.set_cons_zero, List.set_cons_succ]))
        refine wpAnyH_ready (rs := [10]) (by decide +kernel) (by simp) ?_
        refine AllReadyH.cons rfl (fun K hK => ?_) AllReadyH.nil
        refine step_append_rows elemAct (by rfl) (.tmp 35) (.tmp 37) (by rfl) (by rfl) (by rfl) hown.out hrow.out rfl (actCells_wid [a]) (actCells_one [a]) (by simp; omega) (by decide) hx.out.size ?_
        intro v7 w7 hown7 hg7 _
        have hx := Lib.hid (hx.out.trans (grown_below hg7 (fun g e => (OwnL.lt hown.out g e).1) hx.out.size))
        have hown7 : OwnL w7 w4.heap.size 64 3 v7 ((n.acts ++ [a]).map NAct.cells) := by rw [List.map_append]; exact hown7
        obtain ⟨L, hL0⟩ : ∃ L, L = n.acts ++ [a] := ⟨_, rfl⟩
        rw [← hL0] at hown7
        have hlenL : Hid (L.length = n.acts.length + 1) := by show _ = _; rw [hL0]; simp
        have hL := Lib.hid hL0
        clear hL0 hg7 hown hrow
        obtain ⟨N', d', rfl, hrows⟩ := hown7.form
        rw [List.length_map] at hown7 ⊢
        have hlt7 := OwnL.lt hown7
        have hown7 := Lib.hid hown7
        clear hrows
        (refine hK.out _ _ ⟨(h2.out.below hx.out).n3, (h3.out.below hx.out).act3⟩ (fun hHeld => ?_); clear hK K; (try simp only [Act.put, List.setIfInBounds_toArray]); (try simp only [List.set_cons_zero, List.set_cons_succ]))
        (refine tkH 11 (v := ?_) ?_ ?_; rotate_left; focus (intro w' hSw; (try dsimp only at hSw); go_simp; (try with_reducible rfl)); (try simp only [Act.put, List.setIfInBounds_toArray, List.set_cons_zero, List.set_cons_succ]))
        refine wpAnyH_ready (rs := [12]) (by decide +kernel) (by simp) ?_
        refine AllReadyH.cons rfl (fun K hK => ?_) AllReadyH.nil
        rw [if_pos (by kernel_rfl)]
        refine wp_store_mid 29 (.tmp 6) (.tmp 39) rfl (w.heap.size + 1 + 1 + 1) 0 #[.string n.name, .int .i64 n.opened, .slice N' L.length d'] (by rfl) (by rfl) (by exact (h4.out.below hx.out).there) ntSize (by kernel_rfl) ?_
        have hb4 := (h4.out.below hx.out).put [.string n.name, .int .i64 n.opened, .slice N' L.length d'] rfl
        have hg8 := grown_setCells (w.heap.size + 1 + 1 + 1) [.string n.name, .int .i64 n.opened, .slice N' L.length d'] 0 w7
        have hs2 := ((h2.out.below hx.out).grown hg8 (by simp)).n3
        have hs3 := ((h3.out.below hx.out).grown hg8 (by simp)).act3
        have hb8 := Lib.hid (below_of_grownB (below_step hb.out hx.out) hg8 (by omega))
        have hown8 := Lib.hid (hown7.out.kept hg8 (.inr (by cases N' with | none => simp [Value.ownBlock] | some ad => intro e; have := (hlt7 _ e).1; omega)))
        have hb4 := Lib.hid hb4
        clear hg8
        (refine hK.out _ _ ⟨hs2, hs3⟩ (fun hHeld => ?_); clear hK K; (try simp only [Act.put, List.setIfInBounds_toArray]); (try simp only [List.set_cons_zero, List.set_cons_succ]))
        (refine tkH 13 (v := ?_) ?_ ?_; rotate_left; focus (intro w' hSw; (try dsimp only at hSw); go_simp; (try with_reducible rfl)); (try simp only [Act.put]); (try simp only [List.setIfInBounds_toArray]); (try simp only [List.set_cons_zero, List.set_cons_succ]))
        refine wpAnyH_done (by kernel_rfl) ?_ _
        clear hHeld hs2 hs3
        (try go_simp)
        go_wp2_with fail
        (try simp only [Exit.inBlock, Exit.then])
        refine bodyPost_ret (results_mid2 rfl _ _ (w.heap.size + 1 + 1 + 1) [.string n.name, .int .i64 n.opened, .slice N' L.length d'] _ rfl hb4.out.range Tryz.underlying29 rfl ntSize) rfl ?_
        show AddROk w (n.more a) _ _
        have hLm : L = (n.more a).acts := hL.out
        obtain ⟨N2, d2, he2, hr2⟩ := hown8.out.form
        rw [List.length_map] at he2
        injection he2 with e1 e2 e3
        subst e1
        refine ⟨N', d', by rw [← hLm]; rfl, ?_, hb8.out⟩
        rw [← hLm]
        exact ⟨hr2, by rw [hlenL.out]; omega⟩
      · (rw [if_pos (by kernel_rfl)]; go_simp)
        have hown := Lib.hid (OwnL.below hown.out (below_alloc _ (.cells a.cells.toArray 64)))
        have hrow0 := rowsAt_new (w4.alloc (.cells #[] 64)) a.cells 64
        (try rw [World.size_alloc] at hrow0)
        have hrow := Lib.hid hrow0
        clear hrow0
        have hx0 := hx
        have hx := Lib.hid (hx0.out.alloc hx0.out.size (.cells a.cells.toArray 64))
        clear hx0
        (refine hK.out _ _ ⟨(h2.out.below hx.out).n3, (h3.out.below hx.out).act3⟩ (fun hHeld => ?_); clear hK K; (try simp only [Act.put, List.setIfInBounds_toArray]); (try simp only [List.set_cons_zero, List.set_cons_succ]))
        refine wpAnyH_ready (rs := [7]) (by decide +kernel) (by simp) ?_
        refine AllReadyH.cons rfl (fun K hK => ?_) AllReadyH.nil
        refine step_append_rows elemAct (by rfl) (.tmp 32) (.tmp 34) (by rfl) (by rfl) (by rfl) hown.out ((ha.out.below hx.out).rows) (List.length_map ..).symm (actCells_wid n.acts) (actCells_one n.acts) (by simp; omega) (by decide) hx.out.size ?_
        intro v5 w5 hown5 hg5 _
        have hrow := Lib.hid (RowsAt.grown (B := w4.heap.size) hrow.out hg5 (fun ad e => by cases e; simp))
        have hx := Lib.hid (hx.out.trans (grown_below hg5 (fun g e => (OwnL.lt hown.out g e).1) hx.out.size))
        have hown := Lib.hid hown5
        clear hown5 hg5
        (refine hK.out _ _ ⟨(h2.out.below hx.out).n3, (h3.out.below hx.out).act3⟩ (fun hHeld => ?_); clear hK K; (try simp only [Act.put, List.setIfInBounds_toArray]); (try simp only [List.set_cons_zero, List.set_cons_succ]))
        refine wpAnyH_ready (rs := [10]) (by decide +kernel) (by simp) ?_
        refine AllReadyH.cons rfl (fun K hK => ?_) AllReadyH.nil
        refine step_append_rows elemAct (by rfl) (.tmp 35) (.tmp 37) (by rfl) (by rfl) (by rfl) hown.out hrow.out rfl (actCells_wid [a]) (actCells_one [a]) (by simp; omega) (by decide) hx.out.size ?_
        intro v7 w7 hown7 hg7 _
        have hx := Lib.hid (hx.out.trans (grown_below hg7 (fun g e => (OwnL.lt hown.out g e).1) hx.out.size))
        have hown7 : OwnL w7 w4.heap.size 64 3 v7 ((n.acts ++ [a]).map NAct.cells) := by rw [List.map_append]; exact hown7
        obtain ⟨L, hL0⟩ : ∃ L, L = n.acts ++ [a] := ⟨_, rfl⟩
        rw [← hL0] at hown7
        have hlenL : Hid (L.length = n.acts.length + 1) := by show _ = _; rw [hL0]; simp
        have hL := Lib.hid hL0
        clear hL0 hg7 hown hrow
        obtain ⟨N', d', rfl, hrows⟩ := hown7.form
        rw [List.length_map] at hown7 ⊢
        have hlt7 := OwnL.lt hown7
        have hown7 := Lib.hid hown7
        clear hrows
        (refine hK.out _ _ ⟨(h2.out.below hx.out).n3, (h3.out.below hx.out).act3⟩ (fun hHeld => ?_); clear hK K; (try simp only [Act.put, List.setIfInBounds_toArray]); (try simp only [List.set_cons_zero, List.set_cons_succ]))
        (refine tkH 11 (v := ?_) ?_ ?_; rotate_left; focus (intro w' hSw; (try dsimp only at hSw); go_simp; (try with_reducible rfl)); (try simp only [Act.put, List.setIfInBounds_toArray, List.set_cons_zero, List.set_cons_succ]))
        refine wpAnyH_ready (rs := [12]) (by decide +kernel) (by simp) ?_
        refine AllReadyH.cons rfl (fun K hK => ?_) AllReadyH.nil
        rw [if_pos (by kernel_rfl)]
        refine wp_store_mid 29 (.tmp 6) (.tmp 39) rfl (w.heap.size + 1 + 1 + 1) 0 #[.string n.name, .int .i64 n.opened, .slice N' L.length d'] (by rfl) (by rfl) (by exact (h4.out.below hx.out).there) ntSize (by kernel_rfl) ?_
        have hb4 := (h4.out.below hx.out).put [.string n.name, .int .i64 n.opened, .slice N' L.length d'] rfl
        have hg8 := grown_setCells (w.heap.size + 1 + 1 + 1) [.string n.name, .int .i64 n.opened, .slice N' L.length d'] 0 w7
        have hs2 := ((h2.out.below hx.out).grown hg8 (by simp)).n3
        have hs3 := ((h3.out.below hx.out).grown hg8 (by simp)).act3
        have hb8 := Lib.hid (below_of_grownB (below_step hb.out hx.out) hg8 (by omega))
        have hown8 := Lib.hid (hown7.out.kept hg8 (.inr (by cases N' with | none => simp [Value.ownBlock] | some ad => intro e; have := (hlt7 _ e).1; omega)))
        have hb4 := Lib.hid hb4
        clear hg8
        (refine hK.out _ _ ⟨hs2, hs3⟩ (fun hHeld => ?_); clear hK K; (try simp only [Act.put, List.setIfInBounds_toArray]); (try simp only [List.set_cons_zero, List.set_cons_succ]))
        (refine tkH 13 (v := ?_) ?_ ?_; rotate_left; focus (intro w' hSw; (try dsimp only at hSw); go_simp; (try with_reducible rfl)); (try simp only [Act.put]); (try simp only [List.setIfInBounds_toArray]); (try simp only [List.set_cons_zero, List.set_cons_succ]))
        refine wpAnyH_done (by kernel_rfl) ?_ _
        clear hHeld hs2 hs3
        (try go_simp)
        go_wp2_with fail
        (try simp only [Exit.inBlock, Exit.then])
        refine bodyPost_ret (results_mid2 rfl _ _ (w.heap.size + 1 + 1 + 1) [.string n.name, .int .i64 n.opened, .slice N' L.length d'] _ rfl hb4.out.range Tryz.underlying29 rfl ntSize) rfl ?_
        show AddROk w (n.more a) _ _
        have hLm : L = (n.more a).acts := hL.out
        obtain ⟨N2, d2, he2, hr2⟩ := hown8.out.form
        rw [List.length_map] at he2
        injection he2 with e1 e2 e3
        subst e1
        refine ⟨N', d', by rw [← hLm]; rfl, ?_, hb8.out⟩
        rw [← hLm]
        exact ⟨hr2, by rw [hlenL.out]; omega⟩
    · (rw [if_pos (by kernel_rfl)]; go_simp)
      have hrow0 := rowsAt_new w4 a.cells 64
      (try rw [World.size_alloc] at hrow0)
      have hrow := Lib.hid hrow0
      clear hrow0
      have hx0 := hx
      have hx := Lib.hid (hx0.out.alloc hx0.out.size (.cells a.cells.toArray 64))
      clear hx0
      (refine hK.out _ _ ⟨(h2.out.below hx.out).n3, (h3.out.below hx.out).act3⟩ (fun hHeld => ?_); clear hK K; (try simp only [Act.put, List.setIfInBounds_toArray]); (try simp only [List.set_cons_zero, List.set_cons_succ]))
      (refine wpAnyH_ready (rs := [4]) (by decide +kernel) (by simp) ?_; refine AllReadyH.cons rfl (fun K hK => ?_) AllReadyH.nil; rw [if_pos (by kernel_rfl)]; go_simp)
      have hown0 := OwnL.made (w4.alloc (.cells a.cells.toArray 64)) w4.heap.size 64 3 (by simp)
      rw [World.size_alloc] at hown0
      have hown := Lib.hid hown0
      clear hown0
      have hrow := Lib.hid (hrow.out.alloc (.cells #[] 64))
      have hx0 := hx
      have hx := Lib.hid (hx0.out.alloc hx0.out.size (.cells #[] 64))
      clear hx0
      (refine hK.out _ _ ⟨(h2.out.below hx.out).n3, (h3.out.below hx.out).act3⟩ (fun hHeld => ?_); clear hK K; (try simp only [Act.put, List.setIfInBounds_toArray]); (try simp only [List.set_cons_zero, List.set_cons_succ]))
      refine wpAnyH_ready (rs := [7]) (by decide +kernel) (by simp) ?_
      refine AllReadyH.cons rfl (fun K hK => ?_) AllReadyH.nil
      refine step_append_rows elemAct (by rfl) (.tmp 32) (.tmp 34) (by rfl) (by rfl) (by rfl) hown.out ((ha.out.below hx.out).rows) (List.length_map ..).symm (actCells_wid n.acts) (actCells_one n.acts) (by simp; omega) (by decide) hx.out.size ?_
      intro v5 w5 hown5 hg5 _
      have hrow := Lib.hid (RowsAt.grown (B := w4.heap.size + 1) hrow.out hg5 (fun ad e => by cases e; simp))
      have hx := Lib.hid (hx.out.trans (grown_below hg5 (fun g e => (OwnL.lt hown.out g e).1) hx.out.size))
      have hown := Lib.hid hown5
      clear hown5 hg5
      (refine hK.out _ _ ⟨(h2.out.below hx.out).n3, (h3.out.below hx.out).act3⟩ (fun hHeld => ?_); clear hK K; (try simp only [Act.put, List.setIfInBounds_toArray]); (try simp only [List.set_cons_zero, List.set_cons_succ]))
      refine wpAnyH_ready (rs := [10]) (by decide +kernel) (by simp) ?_
      refine AllReadyH.cons rfl (fun K hK => ?_) AllReadyH.nil
      refine step_append_rows elemAct (by rfl) (.tmp 35) (.tmp 37) (by rfl) (by rfl) (by rfl) hown.out hrow.out rfl (actCells_wid [a]) (actCells_one [a]) (by simp; omega) (by decide) hx.out.size ?_
      intro v7 w7 hown7 hg7 _
      have hx := Lib.hid (hx.out.trans (grown_below hg7 (fun g e => (OwnL.lt hown.out g e).1) hx.out.size))
      have hown7 : OwnL w7 w4.heap.size 64 3 v7 ((n.acts ++ [a]).map NAct.cells) := by rw [List.map_append]; exact hown7
      obtain ⟨L, hL0⟩ : ∃ L, L = n.acts ++ [a] := ⟨_, rfl⟩
      rw [← hL0] at hown7
      have hlenL : Hid (L.length = n.acts.length + 1) := by show _ = _; rw [hL0]; simp
      have hL := Lib.hid hL0
      clear hL0 hg7 hown hrow
      obtain ⟨N', d', rfl, hrows⟩ := hown7.form
      rw [List.length_map] at hown7 ⊢
      have hlt7 := OwnL.lt hown7
      have hown7 := Lib.hid hown7
      clear hrows
      (refine hK.out _ _ ⟨(h2.out.below hx.out).n3, (h3.out.below hx.out).act3⟩ (fun hHeld => ?_); clear hK K; (try simp only [Act.put, List.setIfInBounds_toArray]); (try simp only [List.set_cons_zero, List.set_cons_succ]))
      (refine tkH 11 (v := ?_) ?_ ?_; rotate_left; focus (intro w' hSw; (try dsimp only at hSw); go_simp; (try with_reducible rfl)); (try simp only [Act.put, List.setIfInBounds_toArray, List.set_cons_zero, List.set_cons_succ]))
      refine wpAnyH_ready (rs := [12]) (by decide +kernel) (by simp) ?_
      refine AllReadyH.cons rfl (fun K hK => ?_) AllReadyH.nil
      rw [if_pos (by kernel_rfl)]
      refine wp_store_mid 29 (.tmp 6) (.tmp 39) rfl (w.heap.size + 1 + 1 + 1) 0 #[.string n.name, .int .i64 n.opened, .slice N' L.length d'] (by rfl) (by rfl) (by exact (h4.out.below hx.out).there) ntSize (by kernel_rfl) ?_
      have hb4 := (h4.out.below hx.out).put [.string n.name, .int .i64 n.opened, .slice N' L.length d'] rfl
      have hg8 := grown_setCells (w.heap.size + 1 + 1 + 1) [.string n.name, .int .i64 n.opened, .slice N' L.length d'] 0 w7
      have hs2 := ((h2.out.below hx.out).grown hg8 (by simp)).n3
      have hs3 := ((h3.out.below hx.out).grown hg8 (by simp)).act3
      have hb8 := Lib.hid (below_of_grownB (below_step hb.out hx.out) hg8 (by omega))
      have hown8 := Lib.hid (hown7.out.kept hg8 (.inr (by cases N' with | none => simp [Value.ownBlock] | some ad => intro e; have := (hlt7 _ e).1; omega)))
      have hb4 := Lib.hid hb4
      clear hg8
      (refine hK.out _ _ ⟨hs2, hs3⟩ (fun hHeld => ?_); clear hK K; (try simp only [Act.put, List.setIfInBounds_toArray]); (try simp only [List.set_cons_zero, List.set_cons_succ]))
      (refine tkH 13 (v := ?_) ?_ ?_; rotate_left; focus (intro w' hSw; (try dsimp only at hSw); go_simp; (try with_reducible rfl)); (try simp only [Act.put]); (try simp only [List.setIfInBounds_toArray]); (try simp only [List.set_cons_zero, List.set_cons_succ]))
      refine wpAnyH_done (by kernel_rfl) ?_ _
      clear hHeld hs2 hs3
      (try go_simp)
      go_wp2_with fail
      (try simp only [Exit.inBlock, Exit.then])
      refine bodyPost_ret (results_mid2 rfl _ _ (w.heap.size + 1 + 1 + 1) [.string n.name, .int .i64 n.opened, .slice N' L.length d'] _ rfl hb4.out.range Tryz.underlying29 rfl ntSize) rfl ?_
      show AddROk w (n.more a) _ _
      have hLm : L = (n.more a).acts := hL.out
      obtain ⟨N2, d2, he2, hr2⟩ := hown8.out.form
      rw [List.length_map] at he2
      injection he2 with e1 e2 e3
      subst e1
      refine ⟨N', d', by rw [← hLm]; rfl, ?_, hb8.out⟩
      rw [← hLm]
      exact ⟨hr2, by rw [hlenL.out]; omega⟩
end Go.Proofs.YtconnjkkgaapbaaGreatDoor
