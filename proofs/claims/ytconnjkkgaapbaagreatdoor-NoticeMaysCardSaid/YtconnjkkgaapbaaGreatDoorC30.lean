/- Chapter 8 and what it rests on: definitions and walks, part 30. -/
import Derived.Test.YtconnjkkgaapbaaGreatDoorC28
namespace Go.Proofs.YtconnjkkgaapbaaGreatDoor
open Go Go.RowKit
def NAddPost (w : World) (n : Note) (a : NAct) (e : Ending) (w' : World) : Prop :=
  ∃ N d, e = .returned (.tuple #[.agg #[.string n.name, .int .i64 n.opened, .slice N (n.acts ++ [a]).length d], .int .i64 0]) ∧ Acts w' N (n.acts ++ [a]) ∧ Below w.heap.size w w' ∧ ∀ ad, N = some ad → w.heap.size ≤ ad.block
theorem BoxAt.act3 {w : World} {B : Nat} {a : NAct} (h : BoxAt w B [.int .i64 a.day, .int .i64 a.kind, .int .i64 a.days]) : w.cell? ⟨B, 0, none⟩ = some (.int .i64 a.day) ∧ w.cell? ⟨B, 1, none⟩ = some (.int .i64 a.kind) ∧ w.cell? ⟨B, 2, none⟩ = some (.int .i64 a.days) := ⟨h.c 0 _ rfl, h.c 1 _ rfl, h.c 2 _ rfl⟩
set_option maxRecDepth 100000 in
set_option maxHeartbeats 4000000 in
theorem Add_ok (A : Option Addr) (c : Nat) (p : Proc) (N : Option Addr) (d : Nat) (n : Note) (a : NAct) (w : World) (hN : NB w A p N n) (hst : (Cal.checkS p n).2 = 0 → StOk (Cal.stAt p n 200000)) (hE : Cal.addE p n a = 0) :
    Calls Tryz.prog 37 #[.agg #[.int .i64 p.runs.m, .int .i64 p.runs.d, .bool p.runs.k, .int .i64 p.obj.m, .int .i64 p.obj.d, .bool p.obj.k, .int .i64 p.wait.m, .int .i64 p.wait.d, .bool p.wait.k, .int .i64 p.exts, .int .i64 p.longest, .slice A p.hols.length c], .agg #[.string n.name, .int .i64 n.opened, .slice N n.acts.length d], .agg #[.int .i64 a.day, .int .i64 a.kind, .int .i64 a.days]] w (NAddPost w n a) := by
  have hsz := hN.acts.size
  have hN := Lib.hid hN
  have hc : (Cal.checkS p n).2 = 0 := by
    unfold Cal.addE at hE
    split at hE
    · rename_i h; exact h
    · exact hE
  have hok := hst hc
  obtain ⟨hp, _, o0, o1, _, hrun⟩ := Cal.checkS_ok hc
  obtain ⟨_, _, _, _, x1, _, x2, _⟩ := Cal.procErr_ok hp
  have hbeh := Lib.hid (fun w1 h => behind_ok A c p N d n w1 h hc)
  have hlen : n.acts.length < 40 := by
    unfold Cal.addE at hE
    rw [if_pos hc] at hE
    split at hE
    · omega
    · omega
  have hact : (Cal.actS p (Cal.stAt p n 200000) a).2 = 0 := by
    unfold Cal.addE at hE
    rw [if_pos hc, if_neg (by omega)] at hE
    exact hE
  obtain ⟨s, hs⟩ : ∃ s, Cal.stAt p n 200000 = s := ⟨_, rfl⟩
  rw [hs] at hbeh hok hact
  rcases hr : Cal.actS p s a with ⟨s', E⟩
  rw [hr] at hact
  have hact : E = 0 := hact
  subst hact
  have hrz := Lib.hid hr
  clear hE hc hs hrun hp hr hst
  obtain ⟨h1, h2, h3, h4, hb⟩ := start4 w A c p N d n a
  have c0 := h2.out.c 0 _ rfl
  have c1 := h2.out.c 1 _ rfl
  have c2 := h2.out.c 2 _ rfl
  go_enter Tryz.func37, Tryz.ntmps37
  go_wp2_with (refine wpPr h1.out (.tmp 3) rfl ?_)
  clear c0 c1 c2
  refine (hbeh.out _ (hN.out.below hb.out)).mono ?_
  rintro e w1 ⟨he, hb1⟩
  subst he
  have hbw := Lib.hid (below_step hb.out hb1)
  have g2 := Lib.hid (h2.out.below hb1)
  have g3 := Lib.hid (h3.out.below hb1)
  have g4 := Lib.hid (h4.out.below hb1)
  have hz := (h4.out.below hb1).lt
  have hN8 := Lib.hid (BoxAt.new w1 #[.int .i64 0, .int .i64 0, .bool false, .int .i64 0, .int .i64 0, .bool false, .int .i64 0, .int .i64 0, .bool false, .int .i64 0, .int .i64 0, .slice none 0 0, .int .i64 0, .int .i64 0, .int .i64 0, .int .i64 0, .int .i64 0, .int .i64 0] 104)
  clear hb1 h1 h2 h3 h4 hb
  go_wp2_with (first | ((refine wpList_store_box rfl 104 (.tmp 8) (.tmp 14) rfl (w1.heap.size) _ [.int .i64 p.runs.m, .int .i64 p.runs.d, .bool p.runs.k, .int .i64 p.obj.m, .int .i64 p.obj.d, .bool p.obj.k, .int .i64 p.wait.m, .int .i64 p.wait.d, .bool p.wait.k, .int .i64 p.exts, .int .i64 p.longest, .slice A p.hols.length c, .int .i64 s.phase, .int .i64 s.last, .int .i64 s.deadline, .int .i64 s.object, .int .i64 s.objected, .int .i64 s.extended] (by rfl) (by rfl) hN8.out rfl stSize (by kernel_rfl) ?_; intro w2 h8 hg8); have hb12 := below_of_grownB (below_alloc w1 _) hg8 (Nat.le_refl _); have hb2 := Lib.hid (below_step hbw.out hb12); have k2 := Lib.hid (g2.out.below hb12); have k3 := Lib.hid (g3.out.below hb12); have k4 := Lib.hid (g4.out.below hb12); have h8 := Lib.hid h8; have q2 := k2.out.c 2 _ rfl; have a0 := k3.out.c 0 _ rfl; have a1 := k3.out.c 1 _ rfl; have a2 := k3.out.c 2 _ rfl; clear hb12 hg8) | (refine wpList_load_mid rfl 104 (.tmp 8) rfl w1.heap.size 0 rfl [.int .i64 p.runs.m, .int .i64 p.runs.d, .bool p.runs.k, .int .i64 p.obj.m, .int .i64 p.obj.d, .bool p.obj.k, .int .i64 p.wait.m, .int .i64 p.wait.d, .bool p.wait.k, .int .i64 p.exts, .int .i64 p.longest, .slice A p.hols.length c, .int .i64 s.phase, .int .i64 s.last, .int .i64 s.deadline, .int .i64 s.object, .int .i64 s.objected, .int .i64 s.extended] _ h8.out.range Tryz.underlying104 rfl stSize ?_))
  refine (act_any A c p s a _ (hN.out.below hb2.out).hols (hN.out.below hb2.out).tab hok x2).mono ?_
  rintro e w3 ⟨he, hb3⟩
  rw [hrz.out] at he
  subst he
  clear a0 a1 a2 q2
  have l2 := Lib.hid (k2.out.below hb3)
  have l3 := Lib.hid (k3.out.below hb3)
  have l4 := Lib.hid (k4.out.below hb3)
  have hb3' := Lib.hid (below_step hb2.out hb3)
  clear hb3 h8 hN8 hbw k2 k3 k4 g2 g3 g4
  have hzz := l4.out.lt
  generalize hB1 : w.heap.size + 1 = B1 at *
  generalize hB2 : B1 + 1 = B2 at *
  generalize hB3 : B2 + 1 = B3 at *
  have hacts := Lib.hid (fun X (h : Below w3.heap.size w3 X) => ((hN.out.below hb3'.out).acts.below h))
  go_wp2_with fail
  have c2 : w3.cell? ⟨B1, 2, none⟩ = some (.slice N n.acts.length d) := l2.out.c 2 _ rfl
  refine wp_region_held_drew (S := (fun w' => w'.cell? ⟨B2, 0, none⟩ = some (.int .i64 a.day) ∧ w'.cell? ⟨B2, 1, none⟩ = some (.int .i64 a.kind) ∧ w'.cell? ⟨B2, 2, none⟩ = some (.int .i64 a.days))) (by kernel_rfl) l3.out.act3 (fun hHeld => ?_)
  (refine tkH 0 (v := ?_) ?_ ?_; rotate_left; focus (intro w' hSw; (try dsimp only at hSw); go_simp; (try with_reducible rfl)); (try simp only [Act.put, List.setIfInBounds_toArray, List.set_cons_zero, List.set_cons_succ]))
  (refine tkH 3 (v := ?_) ?_ ?_; rotate_left; focus (intro w' hSw; (try dsimp only at hSw); go_simp; (try with_reducible rfl)); (try simp only [Act.put, List.setIfInBounds_toArray, List.set_cons_zero, List.set_cons_succ]))
  (refine wpAnyH_ready (rs := [1, 4]) (by decide +kernel) (by simp) ?_; refine AllReadyH.cons rfl (fun K hK => ?_) (AllReadyH.cons rfl (fun K hK => ?_) AllReadyH.nil))
  · (rw [if_pos (by kernel_rfl)]; go_simp)
    (refine hK.out _ _ l3.out.act3 (fun hHeld => ?_); clear hK K; (try simp only [Act.put, List.setIfInBounds_toArray]); (try simp only [List.set_cons_zero, List.set_cons_succ]))
    (refine wpAnyH_ready (rs := [2, 4]) (by decide +kernel) (by simp) ?_; refine AllReadyH.cons rfl (fun K hK => ?_) (AllReadyH.cons rfl (fun K hK => ?_) AllReadyH.nil))
    · (rw [if_pos (by kernel_rfl)]; go_simp)
      refine (CloneA_any N d n.acts _ (hacts.out _ (by exact blw)) (by omega)).mono ?_
      rintro e w4 ⟨v, rfl, hown, hb4⟩
      have hb34 := below_of_drewN (n := 1) hb4
      go_simp
      (refine hK.out _ _ (l3.out.below hb34).act3 (fun hHeld => ?_); clear hK K; (try simp only [Act.put, List.setIfInBounds_toArray]); (try simp only [List.set_cons_zero, List.set_cons_succ]))
      (refine wpAnyH_ready (rs := [4]) (by decide +kernel) (by simp) ?_; refine AllReadyH.cons rfl (fun K hK => ?_) AllReadyH.nil; rw [if_pos (by kernel_rfl)]; go_simp)
      (refine hK.out _ _ ((l3.out.below hb34).alloc _).act3 (fun hHeld => ?_); clear hK K; (try simp only [Act.put, List.setIfInBounds_toArray]); (try simp only [List.set_cons_zero, List.set_cons_succ]))
      (refine wpAnyH_ready (rs := [5]) (by decide +kernel) (by simp) ?_; refine AllReadyH.cons rfl (fun K hK => ?_) AllReadyH.nil)
      refine step_append_rows elemAct (by rfl) (.tmp 38) (.tmp 40) (by rfl) (by rfl) (by rfl) (hown.below (below_alloc _ _)) (rowsAt_new _ a.cells _) rfl (actCells_wid [a]) (actCells_one [a]) (by simp; omega) (by decide) (by have := hb4.size; simp at this ⊢; omega) ?_
      intro v' w5 hown5 hg5 hob5
      have hb35 : Below w3.heap.size w3 w5 := (hb34.alloc hb34.size _).trans (grown_below hg5 (fun g e => (hown.lt g e).1) (by have := hb34.size; simp; omega))
      clear hob5 hb34
      have hown5 : OwnL w5 w3.heap.size 64 3 v' ((n.acts ++ [a]).map NAct.cells) := by rw [List.map_append]; exact hown5
      obtain ⟨L, hL0⟩ : ∃ L, L = n.acts ++ [a] := ⟨_, rfl⟩
      rw [← hL0] at hown5
      have hlen5 : Hid (L.length = n.acts.length + 1) := by show _ = _; rw [hL0]; simp
      have hL := Lib.hid hL0
      clear hL0
      obtain ⟨N', d', rfl, hrows⟩ := hown5.form
      rw [List.length_map] at hown5 ⊢
      have hlt5 := OwnL.lt hown5
      have hfresh : ∀ ad, N' = some ad → w.heap.size ≤ ad.block := fun ad h => by subst h; exact Nat.le_trans hb3'.out.size (hlt5 ad.block (by rfl)).1
      (refine hK.out _ _ (l3.out.below hb35).act3 (fun hHeld => ?_); clear hK K; (try simp only [Act.put, List.setIfInBounds_toArray]); (try simp only [List.set_cons_zero, List.set_cons_succ]))
      (refine tkH 6 (v := ?_) ?_ ?_; rotate_left; focus (intro w' hSw; (try dsimp only at hSw); go_simp; (try with_reducible rfl)); (try simp only [Act.put, List.setIfInBounds_toArray, List.set_cons_zero, List.set_cons_succ]))
      have m2 := l2.out.below hb35
      have m4 := Lib.hid (l4.out.below hb35)
      have z2 := m2.c 2 _ rfl
      have y2 := m2.free 2 (by simp)
      have hg6 := grown_set w5 B1 2 (.slice N' L.length d')
      have m2s := Lib.hid (m2.set 2 (.slice N' L.length d') (by simp))
      have m4s := Lib.hid (m4.out.grown hg6 (by simp; omega))
      have m3s := ((l3.out.below hb35).grown hg6 (by simp; omega)).act3
      have hb6 := Lib.hid (below_of_grownB (below_step hb3'.out hb35) hg6 (by omega))
      have hown6 := Lib.hid (hown5.kept hg6 (.inr (by cases N' with | none => simp [Value.ownBlock] | some ad => intro e; have := (hlt5 _ e).1; omega)))
      clear hg6 m2 hown5 hown hb4 hg5 hb35 hrows
      (refine wpAnyH_ready (rs := [7]) (by decide +kernel) (by simp) ?_; refine AllReadyH.cons rfl (fun K hK => ?_) AllReadyH.nil; rw [if_pos (by kernel_rfl)]; go_simp)
      (refine hK.out _ _ m3s (fun hHeld => ?_); clear hK K; (try simp only [Act.put, List.setIfInBounds_toArray]); (try simp only [List.set_cons_zero, List.set_cons_succ]))
      refine wpAnyH_done (by kernel_rfl) ?_ _
      have v0 := m2s.out.c 0 _ rfl
      have v1 := m2s.out.c 1 _ rfl
      have v2 := m2s.out.c 2 _ rfl
      clear m3s z2 y2 c2 hHeld
      go_wp2_with ((refine wpList_store_box rfl 29 (.tmp 6) (.tmp 43) rfl (B3) _ [.string n.name, .int .i64 n.opened, .slice N' L.length d'] (by rfl) (by rfl) m4s.out rfl ntSize (by kernel_rfl) ?_; intro w7 h7 hg7); have hb7 := Lib.hid (below_of_grownB hb6.out hg7 (by omega)); have hown7 := hown6.out.kept hg7 (.inr (by cases N' with | none => simp [Value.ownBlock] | some ad => intro e; have := (hlt5 _ e).1; omega)))
      (try simp only [Exit.inBlock, Exit.then])
      refine bodyPost_ret (results_mid2 rfl _ _ B3 [.string n.name, .int .i64 n.opened, .slice N' L.length d'] _ rfl h7.range Tryz.underlying29 rfl ntSize) rfl ?_
      show NAddPost w n a _ _
      unfold NAddPost
      rw [← hL.out]
      refine ⟨N', d', by rfl, ?_, hb7.out, hfresh⟩
      obtain ⟨N2, d2, he2, hr2⟩ := hown7.form
      rw [List.length_map] at he2
      injection he2 with e1 e2 e3
      subst e1
      exact ⟨hr2, by rw [hlen5.out]; omega⟩
    · (rw [if_pos (by kernel_rfl)]; go_simp)
      (refine hK.out _ _ (l3.out.alloc _).act3 (fun hHeld => ?_); clear hK K; (try simp only [Act.put, List.setIfInBounds_toArray]); (try simp only [List.set_cons_zero, List.set_cons_succ]))
      (refine wpAnyH_ready (rs := [2]) (by decide +kernel) (by simp) ?_; refine AllReadyH.cons rfl (fun K hK => ?_) AllReadyH.nil; rw [if_pos (by kernel_rfl)]; go_simp)
      refine (CloneA_any N d n.acts _ (hacts.out _ (by exact blw)) (by omega)).mono ?_
      rintro e w4 ⟨v, rfl, hown, hb4⟩
      have hb34 := below_step (below_alloc _ _) (below_of_drewN (n := 1) hb4)
      go_simp
      (refine hK.out _ _ (l3.out.below hb34).act3 (fun hHeld => ?_); clear hK K; (try simp only [Act.put, List.setIfInBounds_toArray]); (try simp only [List.set_cons_zero, List.set_cons_succ]))
      (refine wpAnyH_ready (rs := [5]) (by decide +kernel) (by simp) ?_; refine AllReadyH.cons rfl (fun K hK => ?_) AllReadyH.nil)
      refine step_append_rows elemAct (by rfl) (.tmp 38) (.tmp 40) (by rfl) (by rfl) (by rfl) hown ((rowsAt_new _ a.cells _).below (below_of_drewN (n := 1) hb4)) rfl (actCells_wid [a]) (actCells_one [a]) (by simp; omega) (by decide) (by have := hb4.size; simp at this ⊢; omega) ?_
      intro v' w5 hown5 hg5 hob5
      have hb35 : Below w3.heap.size w3 w5 := hb34.trans (grown_below hg5 (fun g e => by have := (hown.lt g e).1; simp at this; omega) (by have := hb34.size; omega))
      have hown5 := OwnL.less (B' := w3.heap.size) hown5 (by simp)
      clear hob5 hb34
      have hown5 : OwnL w5 w3.heap.size 64 3 v' ((n.acts ++ [a]).map NAct.cells) := by rw [List.map_append]; exact hown5
      obtain ⟨L, hL0⟩ : ∃ L, L = n.acts ++ [a] := ⟨_, rfl⟩
      rw [← hL0] at hown5
      have hlen5 : Hid (L.length = n.acts.length + 1) := by show _ = _; rw [hL0]; simp
      have hL := Lib.hid hL0
      clear hL0
      obtain ⟨N', d', rfl, hrows⟩ := hown5.form
      rw [List.length_map] at hown5 ⊢
      have hlt5 := OwnL.lt hown5
      have hfresh : ∀ ad, N' = some ad → w.heap.size ≤ ad.block := fun ad h => by subst h; exact Nat.le_trans hb3'.out.size (hlt5 ad.block (by rfl)).1
      (refine hK.out _ _ (l3.out.below hb35).act3 (fun hHeld => ?_); clear hK K; (try simp only [Act.put, List.setIfInBounds_toArray]); (try simp only [List.set_cons_zero, List.set_cons_succ]))
      (refine tkH 6 (v := ?_) ?_ ?_; rotate_left; focus (intro w' hSw; (try dsimp only at hSw); go_simp; (try with_reducible rfl)); (try simp only [Act.put, List.setIfInBounds_toArray, List.set_cons_zero, List.set_cons_succ]))
      have m2 := l2.out.below hb35
      have m4 := Lib.hid (l4.out.below hb35)
      have z2 := m2.c 2 _ rfl
      have y2 := m2.free 2 (by simp)
      have hg6 := grown_set w5 B1 2 (.slice N' L.length d')
      have m2s := Lib.hid (m2.set 2 (.slice N' L.length d') (by simp))
      have m4s := Lib.hid (m4.out.grown hg6 (by simp; omega))
      have m3s := ((l3.out.below hb35).grown hg6 (by simp; omega)).act3
      have hb6 := Lib.hid (below_of_grownB (below_step hb3'.out hb35) hg6 (by omega))
      have hown6 := Lib.hid (hown5.kept hg6 (.inr (by cases N' with | none => simp [Value.ownBlock] | some ad => intro e; have := (hlt5 _ e).1; omega)))
      clear hg6 m2 hown5 hown hb4 hg5 hb35 hrows
      (refine wpAnyH_ready (rs := [7]) (by decide +kernel) (by simp) ?_; refine AllReadyH.cons rfl (fun K hK => ?_) AllReadyH.nil; rw [if_pos (by kernel_rfl)]; go_simp)
      (refine hK.out _ _ m3s (fun hHeld => ?_); clear hK K; (try simp only [Act.put, List.setIfInBounds_toArray]); (try simp only [List.set_cons_zero, List.set_cons_succ]))
      refine wpAnyH_done (by kernel_rfl) ?_ _
      have v0 := m2s.out.c 0 _ rfl
      have v1 := m2s.out.c 1 _ rfl
      have v2 := m2s.out.c 2 _ rfl
      clear m3s z2 y2 c2 hHeld
      go_wp2_with ((refine wpList_store_box rfl 29 (.tmp 6) (.tmp 43) rfl (B3) _ [.string n.name, .int .i64 n.opened, .slice N' L.length d'] (by rfl) (by rfl) m4s.out rfl ntSize (by kernel_rfl) ?_; intro w7 h7 hg7); have hb7 := Lib.hid (below_of_grownB hb6.out hg7 (by omega)); have hown7 := hown6.out.kept hg7 (.inr (by cases N' with | none => simp [Value.ownBlock] | some ad => intro e; have := (hlt5 _ e).1; omega)))
      (try simp only [Exit.inBlock, Exit.then])
      refine bodyPost_ret (results_mid2 rfl _ _ B3 [.string n.name, .int .i64 n.opened, .slice N' L.length d'] _ rfl h7.range Tryz.underlying29 rfl ntSize) rfl ?_
      show NAddPost w n a _ _
      unfold NAddPost
      rw [← hL.out]
      refine ⟨N', d', by rfl, ?_, hb7.out, hfresh⟩
      obtain ⟨N2, d2, he2, hr2⟩ := hown7.form
      rw [List.length_map] at he2
      injection he2 with e1 e2 e3
      subst e1
      exact ⟨hr2, by rw [hlen5.out]; omega⟩
  · (rw [if_pos (by kernel_rfl)]; go_simp)
    (refine hK.out _ _ (l3.out.alloc _).act3 (fun hHeld => ?_); clear hK K; (try simp only [Act.put, List.setIfInBounds_toArray]); (try simp only [List.set_cons_zero, List.set_cons_succ]))
    have c2x : ∀ o : Obj, (w3.alloc o).cell? ⟨B1, 2, none⟩ = some (.slice N n.acts.length d) := fun o => (l2.out.alloc o).c 2 _ rfl
    (refine wpAnyH_ready (rs := [1]) (by decide +kernel) (by simp) ?_; refine AllReadyH.cons rfl (fun K hK => ?_) AllReadyH.nil; rw [if_pos (by kernel_rfl)]; go_simp)
    (refine hK.out _ _ (l3.out.alloc _).act3 (fun hHeld => ?_); clear hK K; (try simp only [Act.put, List.setIfInBounds_toArray]); (try simp only [List.set_cons_zero, List.set_cons_succ]))
    (refine wpAnyH_ready (rs := [2]) (by decide +kernel) (by simp) ?_; refine AllReadyH.cons rfl (fun K hK => ?_) AllReadyH.nil; rw [if_pos (by kernel_rfl)]; go_simp)
    refine (CloneA_any N d n.acts _ (hacts.out _ (by exact blw)) (by omega)).mono ?_
    rintro e w4 ⟨v, rfl, hown, hb4⟩
    have hb34 := below_step (below_alloc _ _) (below_of_drewN (n := 1) hb4)
    go_simp
    (refine hK.out _ _ (l3.out.below hb34).act3 (fun hHeld => ?_); clear hK K; (try simp only [Act.put, List.setIfInBounds_toArray]); (try simp only [List.set_cons_zero, List.set_cons_succ]))
    (refine wpAnyH_ready (rs := [5]) (by decide +kernel) (by simp) ?_; refine AllReadyH.cons rfl (fun K hK => ?_) AllReadyH.nil)
    refine step_append_rows elemAct (by rfl) (.tmp 38) (.tmp 40) (by rfl) (by rfl) (by rfl) hown ((rowsAt_new _ a.cells _).below (below_of_drewN (n := 1) hb4)) rfl (actCells_wid [a]) (actCells_one [a]) (by simp; omega) (by decide) (by have := hb4.size; simp at this ⊢; omega) ?_
    intro v' w5 hown5 hg5 hob5
    have hb35 : Below w3.heap.size w3 w5 := hb34.trans (grown_below hg5 (fun g e => by have := (hown.lt g e).1; simp at this; omega) (by have := hb34.size; omega))
    have hown5 := OwnL.less (B' := w3.heap.size) hown5 (by simp)
    clear hob5 hb34
    have hown5 : OwnL w5 w3.heap.size 64 3 v' ((n.acts ++ [a]).map NAct.cells) := by rw [List.map_append]; exact hown5
    obtain ⟨L, hL0⟩ : ∃ L, L = n.acts ++ [a] := ⟨_, rfl⟩
    rw [← hL0] at hown5
    have hlen5 : Hid (L.length = n.acts.length + 1) := by show _ = _; rw [hL0]; simp
    have hL := Lib.hid hL0
    clear hL0
    obtain ⟨N', d', rfl, hrows⟩ := hown5.form
    rw [List.length_map] at hown5 ⊢
    have hlt5 := OwnL.lt hown5
    have hfresh : ∀ ad, N' = some ad → w.heap.size ≤ ad.block := fun ad h => by subst h; exact Nat.le_trans hb3'.out.size (hlt5 ad.block (by rfl)).1
    (refine hK.out _ _ (l3.out.below hb35).act3 (fun hHeld => ?_); clear hK K; (try simp only [Act.put, List.setIfInBounds_toArray]); (try simp only [List.set_cons_zero, List.set_cons_succ]))
    (refine tkH 6 (v := ?_) ?_ ?_; rotate_left; focus (intro w' hSw; (try dsimp only at hSw); go_simp; (try with_reducible rfl)); (try simp only [Act.put, List.setIfInBounds_toArray, List.set_cons_zero, List.set_cons_succ]))
    have m2 := l2.out.below hb35
    have m4 := Lib.hid (l4.out.below hb35)
    have z2 := m2.c 2 _ rfl
    have y2 := m2.free 2 (by simp)
    have hg6 := grown_set w5 B1 2 (.slice N' L.length d')
    have m2s := Lib.hid (m2.set 2 (.slice N' L.length d') (by simp))
    have m4s := Lib.hid (m4.out.grown hg6 (by simp; omega))
    have m3s := ((l3.out.below hb35).grown hg6 (by simp; omega)).act3
    have hb6 := Lib.hid (below_of_grownB (below_step hb3'.out hb35) hg6 (by omega))
    have hown6 := Lib.hid (hown5.kept hg6 (.inr (by cases N' with | none => simp [Value.ownBlock] | some ad => intro e; have := (hlt5 _ e).1; omega)))
    clear hg6 m2 hown5 hown hb4 hg5 hb35 hrows
    (refine wpAnyH_ready (rs := [7]) (by decide +kernel) (by simp) ?_; refine AllReadyH.cons rfl (fun K hK => ?_) AllReadyH.nil; rw [if_pos (by kernel_rfl)]; go_simp)
    (refine hK.out _ _ m3s (fun hHeld => ?_); clear hK K; (try simp only [Act.put, List.setIfInBounds_toArray]); (try simp only [List.set_cons_zero, List.set_cons_succ]))
    refine wpAnyH_done (by kernel_rfl) ?_ _
    have v0 := m2s.out.c 0 _ rfl
    have v1 := m2s.out.c 1 _ rfl
    have v2 := m2s.out.c 2 _ rfl
    clear m3s z2 y2 c2 hHeld
    go_wp2_with ((refine wpList_store_box rfl 29 (.tmp 6) (.tmp 43) rfl (B3) _ [.string n.name, .int .i64 n.opened, .slice N' L.length d'] (by rfl) (by rfl) m4s.out rfl ntSize (by kernel_rfl) ?_; intro w7 h7 hg7); have hb7 := Lib.hid (below_of_grownB hb6.out hg7 (by omega)); have hown7 := hown6.out.kept hg7 (.inr (by cases N' with | none => simp [Value.ownBlock] | some ad => intro e; have := (hlt5 _ e).1; omega)))
    (try simp only [Exit.inBlock, Exit.then])
    refine bodyPost_ret (results_mid2 rfl _ _ B3 [.string n.name, .int .i64 n.opened, .slice N' L.length d'] _ rfl h7.range Tryz.underlying29 rfl ntSize) rfl ?_
    show NAddPost w n a _ _
    unfold NAddPost
    rw [← hL.out]
    refine ⟨N', d', by rfl, ?_, hb7.out, hfresh⟩
    obtain ⟨N2, d2, he2, hr2⟩ := hown7.form
    rw [List.length_map] at he2
    injection he2 with e1 e2 e3
    subst e1
    exact ⟨hr2, by rw [hlen5.out]; omega⟩
end Go.Proofs.YtconnjkkgaapbaaGreatDoor
namespace Go.Proofs.YtconnjkkgaapbaaGreatDoor
open Go Go.RowKit
theorem start2n (w : World) (N N' : Option Addr) (d d' : Nat) (n : Note) : Hid (BoxAt ((w.alloc (.cells #[.string n.name, .int .i64 n.opened, .slice N n.acts.length d] 29)).alloc (.cells #[.string n.name, .int .i64 n.opened, .slice N' n.acts.length d'] 29)) w.heap.size [.string n.name, .int .i64 n.opened, .slice N n.acts.length d]) ∧ Hid (BoxAt ((w.alloc (.cells #[.string n.name, .int .i64 n.opened, .slice N n.acts.length d] 29)).alloc (.cells #[.string n.name, .int .i64 n.opened, .slice N' n.acts.length d'] 29)) (w.heap.size + 1) [.string n.name, .int .i64 n.opened, .slice N' n.acts.length d']) ∧ Hid (Below w.heap.size w ((w.alloc (.cells #[.string n.name, .int .i64 n.opened, .slice N n.acts.length d] 29)).alloc (.cells #[.string n.name, .int .i64 n.opened, .slice N' n.acts.length d'] 29))) := by
  have h2 := BoxAt.new (w.alloc (.cells #[.string n.name, .int .i64 n.opened, .slice N n.acts.length d] 29)) #[.string n.name, .int .i64 n.opened, .slice N' n.acts.length d'] 29
  rw [World.size_alloc] at h2
  exact ⟨(BoxAt.new w _ _).alloc _, h2, below_step (below_alloc _ _) (below_alloc _ _)⟩
set_option maxRecDepth 100000 in
set_option maxHeartbeats 4000000 in
theorem Same_any (N N' : Option Addr) (d d' : Nat) (n : Note) (w : World) (ha1 : Acts w N n.acts) (ha2 : Acts w N' n.acts) :
    Calls Tryz.prog 38 #[.agg #[.string n.name, .int .i64 n.opened, .slice N n.acts.length d], .agg #[.string n.name, .int .i64 n.opened, .slice N' n.acts.length d']] w fun e w' => e = .returned (.bool true) ∧ Below w.heap.size w w' := by
  have hsz := ha1.size
  have ha1 := Lib.hid ha1
  have ha2 := Lib.hid ha2
  obtain ⟨g1, g2, hb⟩ := start2n w N N' d d' n
  have c0 := g1.out.c 0 _ rfl
  have c1 := g1.out.c 1 _ rfl
  have c2 := g1.out.c 2 _ rfl
  have e0 := g2.out.c 0 _ rfl
  have e1 := g2.out.c 1 _ rfl
  have e2 := g2.out.c 2 _ rfl
  go_enter Tryz.func38, Tryz.ntmps38
  go_wp2_with fail
  clear c0 c1 c2 e0 e1 e2
  go_loopw [5] (fun i wr => ∃ k : Nat, k ≤ n.acts.length ∧ i = .int .i64 k ∧ Hid (BoxAt wr w.heap.size [.string n.name, .int .i64 n.opened, .slice N n.acts.length d]) ∧ Hid (BoxAt wr (w.heap.size + 1) [.string n.name, .int .i64 n.opened, .slice N' n.acts.length d']) ∧ Hid (Below w.heap.size w wr)) (fun i _ => n.acts.length - (intOf i).toNat)
  case atStart => exact ⟨0, Nat.zero_le _, rfl, g1, g2, hb⟩
  case round =>
    clear g1 g2 hb
    obtain ⟨k, hk, rfl, g1, g2, hb⟩ := hrel
    by_cases hlt : k < n.acts.length
    · have hk' : n.acts[k]? = some n.acts[k] := List.getElem?_eq_getElem hlt
      obtain ⟨b, o, rfl, hb1, x0, x1, x2⟩ := (ha1.out.below hb.out).at_ hk'
      obtain ⟨b2, o2, rfl, hb2, y0, y1, y2⟩ := (ha2.out.below hb.out).at_ hk'
      have c2 := g1.out.c 2 _ rfl
      have e2 := g2.out.c 2 _ rfl
      clear hk'
      generalize n.acts[k] = a at *
      go_wp2_with fail
      go_quiet (fail)
      go_wp2_with fail
      go_roundw
      case rel => exact ⟨k + 1, by omega, by go_num, Lib.hid (g1.out.below (below_drewN (Below.refl _ _) _)), Lib.hid (g2.out.below (below_drewN (Below.refl _ _) _)), Lib.hid (below_drewN hb.out _)⟩
      case measure => simp [intOf]; omega
    · have hge : n.acts.length = k := by omega
      have c2 := g1.out.c 2 _ rfl
      go_wp2_with fail
      go_ret
      exact ⟨rfl, hb.out⟩
theorem start3n (w : World) (A : Option Addr) (c : Nat) (p : Proc) (N : Option Addr) (d : Nat) (n : Note) (a : NAct) : Hid (BoxAt ((((w.alloc (.cells #[.int .i64 p.runs.m, .int .i64 p.runs.d, .bool p.runs.k, .int .i64 p.obj.m, .int .i64 p.obj.d, .bool p.obj.k, .int .i64 p.wait.m, .int .i64 p.wait.d, .bool p.wait.k, .int .i64 p.exts, .int .i64 p.longest, .slice A p.hols.length c] 26)).alloc (.cells #[.string n.name, .int .i64 n.opened, .slice N n.acts.length d] 29)).alloc (.cells #[.int .i64 a.day, .int .i64 a.kind, .int .i64 a.days] 64))) w.heap.size [.int .i64 p.runs.m, .int .i64 p.runs.d, .bool p.runs.k, .int .i64 p.obj.m, .int .i64 p.obj.d, .bool p.obj.k, .int .i64 p.wait.m, .int .i64 p.wait.d, .bool p.wait.k, .int .i64 p.exts, .int .i64 p.longest, .slice A p.hols.length c]) ∧ Hid (BoxAt ((((w.alloc (.cells #[.int .i64 p.runs.m, .int .i64 p.runs.d, .bool p.runs.k, .int .i64 p.obj.m, .int .i64 p.obj.d, .bool p.obj.k, .int .i64 p.wait.m, .int .i64 p.wait.d, .bool p.wait.k, .int .i64 p.exts, .int .i64 p.longest, .slice A p.hols.length c] 26)).alloc (.cells #[.string n.name, .int .i64 n.opened, .slice N n.acts.length d] 29)).alloc (.cells #[.int .i64 a.day, .int .i64 a.kind, .int .i64 a.days] 64))) (w.heap.size + 1) [.string n.name, .int .i64 n.opened, .slice N n.acts.length d]) ∧ Hid (BoxAt ((((w.alloc (.cells #[.int .i64 p.runs.m, .int .i64 p.runs.d, .bool p.runs.k, .int .i64 p.obj.m, .int .i64 p.obj.d, .bool p.obj.k, .int .i64 p.wait.m, .int .i64 p.wait.d, .bool p.wait.k, .int .i64 p.exts, .int .i64 p.longest, .slice A p.hols.length c] 26)).alloc (.cells #[.string n.name, .int .i64 n.opened, .slice N n.acts.length d] 29)).alloc (.cells #[.int .i64 a.day, .int .i64 a.kind, .int .i64 a.days] 64))) (w.heap.size + 1 + 1) [.int .i64 a.day, .int .i64 a.kind, .int .i64 a.days]) ∧ Hid (Below w.heap.size w ((((w.alloc (.cells #[.int .i64 p.runs.m, .int .i64 p.runs.d, .bool p.runs.k, .int .i64 p.obj.m, .int .i64 p.obj.d, .bool p.obj.k, .int .i64 p.wait.m, .int .i64 p.wait.d, .bool p.wait.k, .int .i64 p.exts, .int .i64 p.longest, .slice A p.hols.length c] 26)).alloc (.cells #[.string n.name, .int .i64 n.opened, .slice N n.acts.length d] 29)).alloc (.cells #[.int .i64 a.day, .int .i64 a.kind, .int .i64 a.days] 64)))) := by
  have h3 := BoxAt.new (W2n w A c p N d n) #[.int .i64 a.day, .int .i64 a.kind, .int .i64 a.days] 64
  rw [W2n_size] at h3
  exact ⟨(W2n_pr w A c p N d n).alloc _, (W2n_note w A c p N d n).alloc _, h3, below_step (W2n_below w A c p N d n) (below_alloc _ _)⟩
/-- A procedure that is loaded whole, behind a guard that lets it. -/
theorem wpPrG {ops : Array Oper} {rest : List Oper} {op : Oper} {a : Act} {w : World} {Q : Exit → Act → World → Prop} {B c : Nat} {A : Option Addr} {p : Proc} (h : BoxAt w B [.int .i64 p.runs.m, .int .i64 p.runs.d, .bool p.runs.k, .int .i64 p.obj.m, .int .i64 p.obj.d, .bool p.obj.k, .int .i64 p.wait.m, .int .i64 p.wait.d, .bool p.wait.k, .int .i64 p.exts, .int .i64 p.longest, .slice A p.hols.length c]) (x : Operand) (hx : a.eval x = .pointer (some ⟨B, 0, none⟩))
    (k : wpList Tryz.prog ops Q rest (a.put op.dst (.agg #[.int .i64 p.runs.m, .int .i64 p.runs.d, .bool p.runs.k, .int .i64 p.obj.m, .int .i64 p.obj.d, .bool p.obj.k, .int .i64 p.wait.m, .int .i64 p.wait.d, .bool p.wait.k, .int .i64 p.exts, .int .i64 p.longest, .slice A p.hols.length c])) w) (ho : op.op = .load 26 x := by exact rfl) (hw : Region.wanted op (yielded ops a.tmps) = true := by kernel_rfl) : wpList Tryz.prog ops Q (op :: rest) a w :=
  BigFrame.wpList_want hw fun _ hK => wp_load_mid 26 x ho B 0 hx [.int .i64 p.runs.m, .int .i64 p.runs.d, .bool p.runs.k, .int .i64 p.obj.m, .int .i64 p.obj.d, .bool p.obj.k, .int .i64 p.wait.m, .int .i64 p.wait.d, .bool p.wait.k, .int .i64 p.exts, .int .i64 p.longest, .slice A p.hols.length c] _ h.range Tryz.underlying26 rfl prSize (hK _ _ k)
theorem Acts.nil (w : World) : Acts w none [] := ⟨fun k r hr => by simp at hr, by simp⟩
/-- Add, where the act is taken: a notice with one more act. -/
def MorePost (w : World) (n : Note) (e : Ending) (w' : World) : Prop := ∃ N d, e = .returned (.tuple #[.agg #[.string n.name, .int .i64 n.opened, .slice N n.acts.length d], .int .i64 0]) ∧ Acts w' N n.acts ∧ Below w.heap.size w w' ∧ ∀ ad, N = some ad → w.heap.size ≤ ad.block
theorem Add_more (A : Option Addr) (c : Nat) (p : Proc) (N : Option Addr) (d : Nat) (n : Note) (a : NAct) (w : World) (hN : NB w A p N n) (hE : Cal.addE p n a = 0) :
    Calls Tryz.prog 37 #[.agg #[.int .i64 p.runs.m, .int .i64 p.runs.d, .bool p.runs.k, .int .i64 p.obj.m, .int .i64 p.obj.d, .bool p.obj.k, .int .i64 p.wait.m, .int .i64 p.wait.d, .bool p.wait.k, .int .i64 p.exts, .int .i64 p.longest, .slice A p.hols.length c], .agg #[.string n.name, .int .i64 n.opened, .slice N n.acts.length d], .agg #[.int .i64 a.day, .int .i64 a.kind, .int .i64 a.days]] w (MorePost w (n.more a)) :=
  Add_ok A c p N d n a w hN (fun h => (Cal.end_ok h).1) hE
theorem Add_no (A : Option Addr) (c : Nat) (p : Proc) (N : Option Addr) (d : Nat) (n : Note) (a : NAct) (w : World) (hN : NB w A p N n) (hE : Cal.addE p n a ≠ 0) :
    Calls Tryz.prog 37 #[.agg #[.int .i64 p.runs.m, .int .i64 p.runs.d, .bool p.runs.k, .int .i64 p.obj.m, .int .i64 p.obj.d, .bool p.obj.k, .int .i64 p.wait.m, .int .i64 p.wait.d, .bool p.wait.k, .int .i64 p.exts, .int .i64 p.longest, .slice A p.hols.length c], .agg #[.string n.name, .int .i64 n.opened, .slice N n.acts.length d], .agg #[.int .i64 a.day, .int .i64 a.kind, .int .i64 a.days]] w (AddBad w (Cal.addE p n a)) := Add_bad A c p N d n a w hN (fun h => (Cal.end_ok h).1) hE
end Go.Proofs.YtconnjkkgaapbaaGreatDoor
