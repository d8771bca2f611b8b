/- Chapter 8 and what it rests on: definitions and walks, part 23. -/
import Derived.Test.YtconnjkkgaapbaaDoorC22
import Derived.Test.YtconnjkkgaapbaaDoorC18
namespace Go.Proofs.YtconnjkkgaapbaaDoor
open Go Go.RowKit
def NAddPost (w : World) (n : Note) (a : NAct) (e : Ending) (w' : World) : Prop :=
  ∃ N d, e = .returned (.tuple #[.agg #[.string n.name, .int .i64 n.opened, .slice N (n.acts ++ [a]).length d], .int .i64 0]) ∧ Acts w' N (n.acts ++ [a]) ∧ Below w.heap.size w w' ∧ ∀ ad, N = some ad → w.heap.size ≤ ad.block
theorem BoxAt.act3 {w : World} {B : Nat} {a : NAct} (h : BoxAt w B [.int .i64 a.day, .int .i64 a.kind, .int .i64 a.days]) : w.cell? ⟨B, 0, none⟩ = some (.int .i64 a.day) ∧ w.cell? ⟨B, 1, none⟩ = some (.int .i64 a.kind) ∧ w.cell? ⟨B, 2, none⟩ = some (.int .i64 a.days) := ⟨h.c 0 _ rfl, h.c 1 _ rfl, h.c 2 _ rfl⟩
set_option maxRecDepth 100000 in
set_option maxHeartbeats 4000000 in
theorem Add_ok (A : Option Addr) (c : Nat) (p : Proc) (N : Option Addr) (d : Nat) (n : Note) (a : NAct) (w : World) (hN : NB w A p N n) (hst : (Cal.checkS p n).2 = 0 → StOk (Cal.stAt p n 200000)) (hE : Cal.addE p n a = 0) :
    Calls Tryd.prog 15 #[.agg #[.int .i64 p.runs.m, .int .i64 p.runs.d, .bool p.runs.k, .int .i64 p.obj.m, .int .i64 p.obj.d, .bool p.obj.k, .int .i64 p.wait.m, .int .i64 p.wait.d, .bool p.wait.k, .int .i64 p.exts, .int .i64 p.longest, .slice A p.hols.length c], .agg #[.string n.name, .int .i64 n.opened, .slice N n.acts.length d], .agg #[.int .i64 a.day, .int .i64 a.kind, .int .i64 a.days]] w (NAddPost w n a) := by
  have hsz := hN.acts.size
  have hN := Lib.hid hN
  have hc : (Cal.checkS p n).2 = 0 := by
    unfold Cal.addE at hE
    split at hE
    · rename_i h; exact h
    · exact hE
  have hok := hst hc
  obtain ⟨hp, _, o0, o1, _, hrun⟩ := Cal.checkS_ok hc
  obtain ⟨_, _, _, _, x1, _, x2, _⟩ := Cal.procErr_ok hp
  have hbeh := Lib.hid (fun w1 h => behind_ok A c p N d n w1 h hc)
  have hlen : n.acts.length < 40 := by
    unfold Cal.addE at hE
    rw [if_pos hc] at hE
    split at hE
    · omega
    · omega
  have hact : (Cal.actS p (Cal.stAt p n 200000) a).2 = 0 := by
    unfold Cal.addE at hE
    rw [if_pos hc, if_neg (by omega)] at hE
    exact hE
  obtain ⟨s, hs⟩ : ∃ s, Cal.stAt p n 200000 = s := ⟨_, rfl⟩
  rw [hs] at hbeh hok hact
  rcases hr : Cal.actS p s a with ⟨s', E⟩
  rw [hr] at hact
  have hact : E = 0 := hact
  subst hact
  have hrz := Lib.hid hr
  clear hE hc hs hrun hp hr hst
  obtain ⟨h1, h2, h3, h4, hb⟩ := start4 w A c p N d n a
  have c0 := h2.out.c 0 _ rfl
  have c1 := h2.out.c 1 _ rfl
  have c2 := h2.out.c 2 _ rfl
  go_enter Tryd.func15, Tryd.ntmps15
  go_wp2_with (refine wpPr h1.out (.tmp 3) rfl ?_)
  clear c0 c1 c2
  refine (hbeh.out _ (hN.out.below hb.out)).mono ?_
  rintro e w1 ⟨he, hb1⟩
  subst he
  have hbw := Lib.hid (below_step hb.out hb1)
  have g2 := Lib.hid (h2.out.below hb1)
  have g3 := Lib.hid (h3.out.below hb1)
  have g4 := Lib.hid (h4.out.below hb1)
  have hz := (h4.out.below hb1).lt
  have hN8 := Lib.hid (BoxAt.new w1 #[.int .i64 0, .int .i64 0, .bool false, .int .i64 0, .int .i64 0, .bool false, .int .i64 0, .int .i64 0, .bool false, .int .i64 0, .int .i64 0, .slice none 0 0, .int .i64 0, .int .i64 0, .int .i64 0, .int .i64 0, .int .i64 0, .int .i64 0] 75)
  clear hb1 h1 h2 h3 h4 hb
  go_wp2_with (first | ((refine wpList_store_box rfl 75 (.tmp 8) (.tmp 14) rfl (w1.heap.size) _ [.int .i64 p.runs.m, .int .i64 p.runs.d, .bool p.runs.k, .int .i64 p.obj.m, .int .i64 p.obj.d, .bool p.obj.k, .int .i64 p.wait.m, .int .i64 p.wait.d, .bool p.wait.k, .int .i64 p.exts, .int .i64 p.longest, .slice A p.hols.length c, .int .i64 s.phase, .int .i64 s.last, .int .i64 s.deadline, .int .i64 s.object, .int .i64 s.objected, .int .i64 s.extended] (by rfl) (by rfl) hN8.out rfl stSize (by kernel_rfl) ?_; intro w2 h8 hg8); have hb12 := below_of_grownB (below_alloc w1 _) hg8 (Nat.le_refl _); have hb2 := Lib.hid (below_step hbw.out hb12); have k2 := Lib.hid (g2.out.below hb12); have k3 := Lib.hid (g3.out.below hb12); have k4 := Lib.hid (g4.out.below hb12); have h8 := Lib.hid h8; have q2 := k2.out.c 2 _ rfl; have a0 := k3.out.c 0 _ rfl; have a1 := k3.out.c 1 _ rfl; have a2 := k3.out.c 2 _ rfl; clear hb12 hg8) | (refine wpList_load_mid rfl 75 (.tmp 8) rfl w1.heap.size 0 rfl [.int .i64 p.runs.m, .int .i64 p.runs.d, .bool p.runs.k, .int .i64 p.obj.m, .int .i64 p.obj.d, .bool p.obj.k, .int .i64 p.wait.m, .int .i64 p.wait.d, .bool p.wait.k, .int .i64 p.exts, .int .i64 p.longest, .slice A p.hols.length c, .int .i64 s.phase, .int .i64 s.last, .int .i64 s.deadline, .int .i64 s.object, .int .i64 s.objected, .int .i64 s.extended] _ h8.out.range Tryd.underlying75 rfl stSize ?_))
  refine (act_any A c p s a _ (hN.out.below hb2.out).hols (hN.out.below hb2.out).tab hok x2).mono ?_
  rintro e w3 ⟨he, hb3⟩
  rw [hrz.out] at he
  subst he
  clear a0 a1 a2 q2
  have l2 := Lib.hid (k2.out.below hb3)
  have l3 := Lib.hid (k3.out.below hb3)
  have l4 := Lib.hid (k4.out.below hb3)
  have hb3' := Lib.hid (below_step hb2.out hb3)
  clear hb3 h8 hN8 hbw k2 k3 k4 g2 g3 g4
  have hzz := l4.out.lt
  generalize hB1 : w.heap.size + 1 = B1 at *
  generalize hB2 : B1 + 1 = B2 at *
  generalize hB3 : B2 + 1 = B3 at *
  have hacts := Lib.hid (fun X (h : Below w3.heap.size w3 X) => ((hN.out.below hb3'.out).acts.below h))
  go_wp2_with fail
  have c2 : w3.cell? ⟨B1, 2, none⟩ = some (.slice N n.acts.length d) := l2.out.c 2 _ rfl
  refine wp_region_held_drew (S := (fun w' => w'.cell? ⟨B2, 0, none⟩ = some (.int .i64 a.day) ∧ w'.cell? ⟨B2, 1, none⟩ = some (.int .i64 a.kind) ∧ w'.cell? ⟨B2, 2, none⟩ = some (.int .i64 a.days))) (by kernel_rfl) l3.out.act3 (fun hHeld => ?_)
  (refine tkH 0 (v := ?_) ?_ ?_; rotate_left; focus (intro w' hSw; (try dsimp only at hSw); go_simp; (try with_reducible rfl)); (try simp only [Act.put, List.setIfInBounds_toArray, List.set_cons_zero, List.set_cons_succ]))
  (refine tkH 3 (v := ?_) ?_ ?_; rotate_left; focus (intro w' hSw; (try dsimp only at hSw); go_simp; (try with_reducible rfl)); (try simp only [Act.put, List.setIfInBounds_toArray, List.set_cons_zero, List.set_cons_succ]))
  (refine wpAnyH_ready (rs := [1, 4]) (by decide +kernel) (by simp) ?_; refine AllReadyH.cons rfl (fun K hK => ?_) (AllReadyH.cons rfl (fun K hK => ?_) AllReadyH.nil))
  · (rw [if_pos (by kernel_rfl)]; go_simp)
    (refine hK.out _ _ l3.out.act3 (fun hHeld => ?_); clear hK K; (try simp only [Act.put, List.setIfInBounds_toArray]); (try simp only [List.set_cons_zero, List.set_cons_succ]))
    (refine wpAnyH_ready (rs := [2, 4]) (by decide +kernel) (by simp) ?_; refine AllReadyH.cons rfl (fun K hK => ?_) (AllReadyH.cons rfl (fun K hK => ?_) AllReadyH.nil))
    · (rw [if_pos (by kernel_rfl)]; go_simp)
      refine (CloneA_any N d n.acts _ (hacts.out _ (by exact blw)) (by omega)).mono ?_
      rintro e w4 ⟨v, rfl, hown, hb4⟩
      have hb34 := below_of_drewN (n := 1) hb4
      go_simp
      (refine hK.out _ _ (l3.out.below hb34).act3 (fun hHeld => ?_); clear hK K; (try simp only [Act.put, List.setIfInBounds_toArray]); (try simp only [List.set_cons_zero, List.set_cons_succ]))
      (refine wpAnyH_ready (rs := [4]) (by decide +kernel) (by simp) ?_; refine AllReadyH.cons rfl (fun K hK => ?_) AllReadyH.nil; rw [if_pos (by kernel_rfl)]; go_simp)
      (refine hK.out _ _ ((l3.out.below hb34).alloc _).act3 (fun hHeld => ?_); clear hK K; (try simp only [Act.put, List.setIfInBounds_toArray]); (try simp only [List.set_cons_zero, List.set_cons_succ]))
      (refine wpAnyH_ready (rs := [5]) (by decide +kernel) (by simp) ?_; refine AllReadyH.cons rfl (fun K hK => ?_) AllReadyH.nil)
      refine step_append_rows elemAct (by rfl) (.tmp 38) (.tmp 40) (by rfl) (by rfl) (by rfl) (hown.below (below_alloc _ _)) (rowsAt_new _ a.cells _) rfl (actCells_wid [a]) (actCells_one [a]) (by simp; omega) (by decide) (by have := hb4.size; simp at this ⊢; omega) ?_
      intro v' w5 hown5 hg5 hob5
      have hb35 : Below w3.heap.size w3 w5 := (hb34.alloc hb34.size _).trans (grown_below hg5 (fun g e => (hown.lt g e).1) (by have := hb34.size; simp; omega))
      clear hob5 hb34
      have hown5 : OwnL w5 w3.heap.size 51 3 v' ((n.acts ++ [a]).map NAct.cells) := by rw [List.map_append]; exact hown5
      obtain ⟨L, hL0⟩ : ∃ L, L = n.acts ++ [a] := ⟨_, rfl⟩
      rw [← hL0] at hown5
      have hlen5 : Hid (L.length = n.acts.length + 1) := by show _ = _; rw [hL0]; simp
      have hL := Lib.hid hL0
      clear hL0
      obtain ⟨N', d', rfl, hrows⟩ := hown5.form
      rw [List.length_map] at hown5 ⊢
      have hlt5 := OwnL.lt hown5
      have hfresh : ∀ ad, N' = some ad → w.heap.size ≤ ad.block := fun ad h => by subst h; exact Nat.le_trans hb3'.out.size (hlt5 ad.block (by rfl)).1
      (refine hK.out _ _ (l3.out.below hb35).act3 (fun hHeld => ?_); clear hK K; (try simp only [Act.put, List.setIfInBounds_toArray]); (try simp only [List.set_cons_zero, List.set_cons_succ]))
      (refine tkH 6 (v := ?_) ?_ ?_; rotate_left; focus (intro w' hSw; (try dsimp only at hSw); go_simp; (try with_reducible rfl)); (try simp only [Act.put, List.setIfInBounds_toArray, List.set_cons_zero, List.set_cons_succ]))
      have m2 := l2.out.below hb35
      have m4 := Lib.hid (l4.out.below hb35)
      have z2 := m2.c 2 _ rfl
      have y2 := m2.free 2 (by simp)
      have hg6 := grown_set w5 B1 2 (.slice N' L.length d')
      have m2s := Lib.hid (m2.set 2 (.slice N' L.length d') (by simp))
      have m4s := Lib.hid (m4.out.grown hg6 (by simp; omega))
      have m3s := ((l3.out.below hb35).grown hg6 (by simp; omega)).act3
      have hb6 := Lib.hid (below_of_grownB (below_step hb3'.out hb35) hg6 (by omega))
      have hown6 := Lib.hid (hown5.kept hg6 (.inr (by cases N' with | none => simp [Value.ownBlock] | some ad => intro e; have := (hlt5 _ e).1; omega)))
      clear hg6 m2 hown5 hown hb4 hg5 hb35 hrows
      (refine wpAnyH_ready (rs := [7]) (by decide +kernel) (by simp) ?_; refine AllReadyH.cons rfl (fun K hK => ?_) AllReadyH.nil; rw [if_pos (by kernel_rfl)]; go_simp)
      (refine hK.out _ _ m3s (fun hHeld => ?_); clear hK K; (try simp only [Act.put, List.setIfInBounds_toArray]); (try simp only [List.set_cons_zero, List.set_cons_succ]))
      refine wpAnyH_done (by kernel_rfl) ?_ _
      have v0 := m2s.out.c 0 _ rfl
      have v1 := m2s.out.c 1 _ rfl
      have v2 := m2s.out.c 2 _ rfl
      clear m3s z2 y2 c2 hHeld
      go_wp2_with ((refine wpList_store_box rfl 47 (.tmp 6) (.tmp 43) rfl (B3) _ [.string n.name, .int .i64 n.opened, .slice N' L.length d'] (by rfl) (by rfl) m4s.out rfl ntSize (by kernel_rfl) ?_; intro w7 h7 hg7); have hb7 := Lib.hid (below_of_grownB hb6.out hg7 (by omega)); have hown7 := hown6.out.kept hg7 (.inr (by cases N' with | none => simp [Value.ownBlock] | some ad => intro e; have := (hlt5 _ e).1; omega)))
      (try simp only [Exit.inBlock, Exit.then])
      refine bodyPost_ret (results_mid2 rfl _ _ B3 [.string n.name, .int .i64 n.opened, .slice N' L.length d'] _ rfl h7.range Tryd.underlying47 rfl ntSize) rfl ?_
      show NAddPost w n a _ _
      unfold NAddPost
      rw [← hL.out]
      refine ⟨N', d', by rfl, ?_, hb7.out, hfresh⟩
      obtain ⟨N2, d2, he2, hr2⟩ := hown7.form
      rw [List.length_map] at he2
      injection he2 with e1 e2 e3
      subst e1
      exact ⟨hr2, by rw [hlen5.out]; omega⟩
    · (rw [if_pos (by kernel_rfl)]; go_simp)
      (refine hK.out _ _ (l3.out.alloc _).act3 (fun hHeld => ?_); clear hK K; (try simp only [Act.put, List.setIfInBounds_toArray]); (try simp only [List.set_cons_zero, List.set_cons_succ]))
      (refine wpAnyH_ready (rs := [2]) (by decide +kernel) (by simp) ?_; refine AllReadyH.cons rfl (fun K hK => ?_) AllReadyH.nil; rw [if_pos (by kernel_rfl)]; go_simp)
      refine (CloneA_any N d n.acts _ (hacts.out _ (by exact blw)) (by omega)).mono ?_
      rintro e w4 ⟨v, rfl, hown, hb4⟩
      have hb34 := below_step (below_alloc _ _) (below_of_drewN (n := 1) hb4)
      go_simp
      (refine hK.out _ _ (l3.out.below hb34).act3 (fun hHeld => ?_); clear hK K; (try simp only [Act.put, List.setIfInBounds_toArray]); (try simp only [List.set_cons_zero, List.set_cons_succ]))
      (refine wpAnyH_ready (rs := [5]) (by decide +kernel) (by simp) ?_; refine AllReadyH.cons rfl (fun K hK => ?_) AllReadyH.nil)
      refine step_append_rows elemAct (by rfl) (.tmp 38) (.tmp 40) (by rfl) (by rfl) (by rfl) hown ((rowsAt_new _ a.cells _).below (below_of_drewN (n := 1) hb4)) rfl (actCells_wid [a]) (actCells_one [a]) (by simp; omega) (by decide) (by have := hb4.size; simp at this ⊢; omega) ?_
      intro v' w5 hown5 hg5 hob5
      have hb35 : Below w3.heap.size w3 w5 := hb34.trans (grown_below hg5 (fun g e => by have := (hown.lt g e).1; simp at this; omega) (by have := hb34.size; omega))
      have hown5 := OwnL.less (B' := w3.heap.size) hown5 (by simp)
      clear hob5 hb34
      have hown5 : OwnL w5 w3.heap.size 51 3 v' ((n.acts ++ [a]).map NAct.cells) := by rw [List.map_append]; exact hown5
      obtain ⟨L, hL0⟩ : ∃ L, L = n.acts ++ [a] := ⟨_, rfl⟩
      rw [← hL0] at hown5
      have hlen5 : Hid (L.length = n.acts.length + 1) := by show _ = _; rw [hL0]; simp
      have hL := Lib.hid hL0
      clear hL0
      obtain ⟨N', d', rfl, hrows⟩ := hown5.form
      rw [List.length_map] at hown5 ⊢
      have hlt5 := OwnL.lt hown5
      have hfresh : ∀ ad, N' = some ad → w.heap.size ≤ ad.block := fun ad h => by subst h; exact Nat.le_trans hb3'.out.size (hlt5 ad.block (by rfl)).1
      (refine hK.out _ _ (l3.out.below hb35).act3 (fun hHeld => ?_); clear hK K; (try simp only [Act.put, List.setIfInBounds_toArray]); (try simp only [List.set_cons_zero, List.set_cons_succ]))
      (refine tkH 6 (v := ?_) ?_ ?_; rotate_left; focus (intro w' hSw; (try dsimp only at hSw); go_simp; (try with_reducible rfl)); (try simp only [Act.put, List.setIfInBounds_toArray, List.set_cons_zero, List.set_cons_succ]))
      have m2 := l2.out.below hb35
      have m4 := Lib.hid (l4.out.below hb35)
      have z2 := m2.c 2 _ rfl
      have y2 := m2.free 2 (by simp)
      have hg6 := grown_set w5 B1 2 (.slice N' L.length d')
      have m2s := Lib.hid (m2.set 2 (.slice N' L.length d') (by simp))
      have m4s := Lib.hid (m4.out.grown hg6 (by simp; omega))
      have m3s := ((l3.out.below hb35).grown hg6 (by simp; omega)).act3
      have hb6 := Lib.hid (below_of_grownB (below_step hb3'.out hb35) hg6 (by omega))
      have hown6 := Lib.hid (hown5.kept hg6 (.inr (by cases N' with | none => simp [Value.ownBlock] | some ad => intro e; have := (hlt5 _ e).1; omega)))
      clear hg6 m2 hown5 hown hb4 hg5 hb35 hrows
      (refine wpAnyH_ready (rs := [7]) (by decide +kernel) (by simp) ?_; refine AllReadyH.cons rfl (fun K hK => ?_) AllReadyH.nil; rw [if_pos (by kernel_rfl)]; go_simp)
      (refine hK.out _ _ m3s (fun hHeld => ?_); clear hK K; (try simp only [Act.put, List.setIfInBounds_toArray]); (try simp only [List.set_cons_zero, List.set_cons_succ]))
      refine wpAnyH_done (by kernel_rfl) ?_ _
      have v0 := m2s.out.c 0 _ rfl
      have v1 := m2s.out.c 1 _ rfl
      have v2 := m2s.out.c 2 _ rfl
      clear m3s z2 y2 c2 hHeld
      go_wp2_with ((refine wpList_store_box rfl 47 (.tmp 6) (.tmp 43) rfl (B3) _ [.string n.name, .int .i64 n.opened, .slice N' L.length d'] (by rfl) (by rfl) m4s.out rfl ntSize (by kernel_rfl) ?_; intro w7 h7 hg7); have hb7 := Lib.hid (below_of_grownB hb6.out hg7 (by omega)); have hown7 := hown6.out.kept hg7 (.inr (by cases N' with | none => simp [Value.ownBlock] | some ad => intro e; have := (hlt5 _ e).1; omega)))
      (try simp only [Exit.inBlock, Exit.then])
      refine bodyPost_ret (results_mid2 rfl _ _ B3 [.string n.name, .int .i64 n.opened, .slice N' L.length d'] _ rfl h7.range Tryd.underlying47 rfl ntSize) rfl ?_
      show NAddPost w n a _ _
      unfold NAddPost
      rw [← hL.out]
      refine ⟨N', d', by rfl, ?_, hb7.out, hfresh⟩
      obtain ⟨N2, d2, he2, hr2⟩ := hown7.form
      rw [List.length_map] at he2
      injection he2 with e1 e2 e3
      subst e1
      exact ⟨hr2, by rw [hlen5.out]; omega⟩
  · (rw [if_pos (by kernel_rfl)]; go_simp)
    (refine hK.out _ _ (l3.out.alloc _).act3 (fun hHeld => ?_); clear hK K; (try simp only [Act.put, List.setIfInBounds_toArray]); (try simp only [List.set_cons_zero, List.set_cons_succ]))
    have c2x : ∀ o : Obj, (w3.alloc o).cell? ⟨B1, 2, none⟩ = some (.slice N n.acts.length d) := fun o => (l2.out.alloc o).c 2 _ rfl
    (refine wpAnyH_ready (rs := [1]) (by decide +kernel) (by simp) ?_; refine AllReadyH.cons rfl (fun K hK => ?_) AllReadyH.nil; rw [if_pos (by kernel_rfl)]; go_simp)
    (refine hK.out _ _ (l3.out.alloc _).act3 (fun hHeld => ?_); clear hK K; (try simp only [Act.put, List.setIfInBounds_toArray]); (try simp only [List.set_cons_zero, List.set_cons_succ]))
    (refine wpAnyH_ready (rs := [2]) (by decide +kernel) (by simp) ?_; refine AllReadyH.cons rfl (fun K hK => ?_) AllReadyH.nil; rw [if_pos (by kernel_rfl)]; go_simp)
    refine (CloneA_any N d n.acts _ (hacts.out _ (by exact blw)) (by omega)).mono ?_
    rintro e w4 ⟨v, rfl, hown, hb4⟩
    have hb34 := below_step (below_alloc _ _) (below_of_drewN (n := 1) hb4)
    go_simp
    (refine hK.out _ _ (l3.out.below hb34).act3 (fun hHeld => ?_); clear hK K; (try simp only [Act.put, List.setIfInBounds_toArray]); (try simp only [List.set_cons_zero, List.set_cons_succ]))
    (refine wpAnyH_ready (rs := [5]) (by decide +kernel) (by simp) ?_; refine AllReadyH.cons rfl (fun K hK => ?_) AllReadyH.nil)
    refine step_append_rows elemAct (by rfl) (.tmp 38) (.tmp 40) (by rfl) (by rfl) (by rfl) hown ((rowsAt_new _ a.cells _).below (below_of_drewN (n := 1) hb4)) rfl (actCells_wid [a]) (actCells_one [a]) (by simp; omega) (by decide) (by have := hb4.size; simp at this ⊢; omega) ?_
    intro v' w5 hown5 hg5 hob5
    have hb35 : Below w3.heap.size w3 w5 := hb34.trans (grown_below hg5 (fun g e => by have := (hown.lt g e).1; simp at this; omega) (by have := hb34.size; omega))
    have hown5 := OwnL.less (B' := w3.heap.size) hown5 (by simp)
    clear hob5 hb34
    have hown5 : OwnL w5 w3.heap.size 51 3 v' ((n.acts ++ [a]).map NAct.cells) := by rw [List.map_append]; exact hown5
    obtain ⟨L, hL0⟩ : ∃ L, L = n.acts ++ [a] := ⟨_, rfl⟩
    rw [← hL0] at hown5
    have hlen5 : Hid (L.length = n.acts.length + 1) := by show _ = _; rw [hL0]; simp
    have hL := Lib.hid hL0
    clear hL0
    obtain ⟨N', d', rfl, hrows⟩ := hown5.form
    rw [List.length_map] at hown5 ⊢
    have hlt5 := OwnL.lt hown5
    have hfresh : ∀ ad, N' = some ad → w.heap.size ≤ ad.block := fun ad h => by subst h; exact Nat.le_trans hb3'.out.size (hlt5 ad.block (by rfl)).1
    (refine hK.out _ _ (l3.out.below hb35).act3 (fun hHeld => ?_); clear hK K; (try simp only [Act.put, List.setIfInBounds_toArray]); (try simp only [List.set_cons_zero, List.set_cons_succ]))
    (refine tkH 6 (v := ?_) ?_ ?_; rotate_left; focus (intro w' hSw; (try dsimp only at hSw); go_simp; (try with_reducible rfl)); (try simp only [Act.put, List.setIfInBounds_toArray, List.set_cons_zero, List.set_cons_succ]))
    have m2 := l2.out.below hb35
    have m4 := Lib.hid (l4.out.below hb35)
    have z2 := m2.c 2 _ rfl
    have y2 := m2.free 2 (by simp)
    have hg6 := grown_set w5 B1 2 (.slice N' L.length d')
    have m2s := Lib.hid (m2.set 2 (.slice N' L.length d') (by simp))
    have m4s := Lib.hid (m4.out.grown hg6 (by simp; omega))
    have m3s := ((l3.out.below hb35).grown hg6 (by simp; omega)).act3
    have hb6 := Lib.hid (below_of_grownB (below_step hb3'.out hb35) hg6 (by omega))
    have hown6 := Lib.hid (hown5.kept hg6 (.inr (by cases N' with | none => simp [Value.ownBlock] | some ad => intro e; have := (hlt5 _ e).1; omega)))
    clear hg6 m2 hown5 hown hb4 hg5 hb35 hrows
    (refine wpAnyH_ready (rs := [7]) (by decide +kernel) (by simp) ?_; refine AllReadyH.cons rfl (fun K hK => ?_) AllReadyH.nil; rw [if_pos (by kernel_rfl)]; go_simp)
    (refine hK.out _ _ m3s (fun hHeld => ?_); clear hK K; (try simp only [Act.put, List.setIfInBounds_toArray]); (try simp only [List.set_cons_zero, List.set_cons_succ]))
    refine wpAnyH_done (by kernel_rfl) ?_ _
    have v0 := m2s.out.c 0 _ rfl
    have v1 := m2s.out.c 1 _ rfl
    have v2 := m2s.out.c 2 _ rfl
    clear m3s z2 y2 c2 hHeld
    go_wp2_with ((refine wpList_store_box rfl 47 (.tmp 6) (.tmp 43) rfl (B3) _ [.string n.name, .int .i64 n.opened, .slice N' L.length d'] (by rfl) (by rfl) m4s.out rfl ntSize (by kernel_rfl) ?_; intro w7 h7 hg7); have hb7 := Lib.hid (below_of_grownB hb6.out hg7 (by omega)); have hown7 := hown6.out.kept hg7 (.inr (by cases N' with | none => simp [Value.ownBlock] | some ad => intro e; have := (hlt5 _ e).1; omega)))
    (try simp only [Exit.inBlock, Exit.then])
    refine bodyPost_ret (results_mid2 rfl _ _ B3 [.string n.name, .int .i64 n.opened, .slice N' L.length d'] _ rfl h7.range Tryd.underlying47 rfl ntSize) rfl ?_
    show NAddPost w n a _ _
    unfold NAddPost
    rw [← hL.out]
    refine ⟨N', d', by rfl, ?_, hb7.out, hfresh⟩
    obtain ⟨N2, d2, he2, hr2⟩ := hown7.form
    rw [List.length_map] at he2
    injection he2 with e1 e2 e3
    subst e1
    exact ⟨hr2, by rw [hlen5.out]; omega⟩
end Go.Proofs.YtconnjkkgaapbaaDoor
namespace Go.Proofs.YtconnjkkgaapbaaDoor
open Go Go.RowKit
theorem start2n (w : World) (N N' : Option Addr) (d d' : Nat) (n : Note) : Hid (BoxAt ((w.alloc (.cells #[.string n.name, .int .i64 n.opened, .slice N n.acts.length d] 47)).alloc (.cells #[.string n.name, .int .i64 n.opened, .slice N' n.acts.length d'] 47)) w.heap.size [.string n.name, .int .i64 n.opened, .slice N n.acts.length d]) ∧ Hid (BoxAt ((w.alloc (.cells #[.string n.name, .int .i64 n.opened, .slice N n.acts.length d] 47)).alloc (.cells #[.string n.name, .int .i64 n.opened, .slice N' n.acts.length d'] 47)) (w.heap.size + 1) [.string n.name, .int .i64 n.opened, .slice N' n.acts.length d']) ∧ Hid (Below w.heap.size w ((w.alloc (.cells #[.string n.name, .int .i64 n.opened, .slice N n.acts.length d] 47)).alloc (.cells #[.string n.name, .int .i64 n.opened, .slice N' n.acts.length d'] 47))) := by
  have h2 := BoxAt.new (w.alloc (.cells #[.string n.name, .int .i64 n.opened, .slice N n.acts.length d] 47)) #[.string n.name, .int .i64 n.opened, .slice N' n.acts.length d'] 47
  rw [World.size_alloc] at h2
  exact ⟨(BoxAt.new w _ _).alloc _, h2, below_step (below_alloc _ _) (below_alloc _ _)⟩
theorem start3n (w : World) (A : Option Addr) (c : Nat) (p : Proc) (N : Option Addr) (d : Nat) (n : Note) (a : NAct) : Hid (BoxAt ((((w.alloc (.cells #[.int .i64 p.runs.m, .int .i64 p.runs.d, .bool p.runs.k, .int .i64 p.obj.m, .int .i64 p.obj.d, .bool p.obj.k, .int .i64 p.wait.m, .int .i64 p.wait.d, .bool p.wait.k, .int .i64 p.exts, .int .i64 p.longest, .slice A p.hols.length c] 41)).alloc (.cells #[.string n.name, .int .i64 n.opened, .slice N n.acts.length d] 47)).alloc (.cells #[.int .i64 a.day, .int .i64 a.kind, .int .i64 a.days] 51))) w.heap.size [.int .i64 p.runs.m, .int .i64 p.runs.d, .bool p.runs.k, .int .i64 p.obj.m, .int .i64 p.obj.d, .bool p.obj.k, .int .i64 p.wait.m, .int .i64 p.wait.d, .bool p.wait.k, .int .i64 p.exts, .int .i64 p.longest, .slice A p.hols.length c]) ∧ Hid (BoxAt ((((w.alloc (.cells #[.int .i64 p.runs.m, .int .i64 p.runs.d, .bool p.runs.k, .int .i64 p.obj.m, .int .i64 p.obj.d, .bool p.obj.k, .int .i64 p.wait.m, .int .i64 p.wait.d, .bool p.wait.k, .int .i64 p.exts, .int .i64 p.longest, .slice A p.hols.length c] 41)).alloc (.cells #[.string n.name, .int .i64 n.opened, .slice N n.acts.length d] 47)).alloc (.cells #[.int .i64 a.day, .int .i64 a.kind, .int .i64 a.days] 51))) (w.heap.size + 1) [.string n.name, .int .i64 n.opened, .slice N n.acts.length d]) ∧ Hid (BoxAt ((((w.alloc (.cells #[.int .i64 p.runs.m, .int .i64 p.runs.d, .bool p.runs.k, .int .i64 p.obj.m, .int .i64 p.obj.d, .bool p.obj.k, .int .i64 p.wait.m, .int .i64 p.wait.d, .bool p.wait.k, .int .i64 p.exts, .int .i64 p.longest, .slice A p.hols.length c] 41)).alloc (.cells #[.string n.name, .int .i64 n.opened, .slice N n.acts.length d] 47)).alloc (.cells #[.int .i64 a.day, .int .i64 a.kind, .int .i64 a.days] 51))) (w.heap.size + 1 + 1) [.int .i64 a.day, .int .i64 a.kind, .int .i64 a.days]) ∧ Hid (Below w.heap.size w ((((w.alloc (.cells #[.int .i64 p.runs.m, .int .i64 p.runs.d, .bool p.runs.k, .int .i64 p.obj.m, .int .i64 p.obj.d, .bool p.obj.k, .int .i64 p.wait.m, .int .i64 p.wait.d, .bool p.wait.k, .int .i64 p.exts, .int .i64 p.longest, .slice A p.hols.length c] 41)).alloc (.cells #[.string n.name, .int .i64 n.opened, .slice N n.acts.length d] 47)).alloc (.cells #[.int .i64 a.day, .int .i64 a.kind, .int .i64 a.days] 51)))) := by
  have h3 := BoxAt.new (W2n w A c p N d n) #[.int .i64 a.day, .int .i64 a.kind, .int .i64 a.days] 51
  rw [W2n_size] at h3
  exact ⟨(W2n_pr w A c p N d n).alloc _, (W2n_note w A c p N d n).alloc _, h3, below_step (W2n_below w A c p N d n) (below_alloc _ _)⟩
/-- A procedure that is loaded whole, behind a guard that lets it. -/
theorem wpPrG {ops : Array Oper} {rest : List Oper} {op : Oper} {a : Act} {w : World} {Q : Exit → Act → World → Prop} {B c : Nat} {A : Option Addr} {p : Proc} (h : BoxAt w B [.int .i64 p.runs.m, .int .i64 p.runs.d, .bool p.runs.k, .int .i64 p.obj.m, .int .i64 p.obj.d, .bool p.obj.k, .int .i64 p.wait.m, .int .i64 p.wait.d, .bool p.wait.k, .int .i64 p.exts, .int .i64 p.longest, .slice A p.hols.length c]) (x : Operand) (hx : a.eval x = .pointer (some ⟨B, 0, none⟩))
    (k : wpList Tryd.prog ops Q rest (a.put op.dst (.agg #[.int .i64 p.runs.m, .int .i64 p.runs.d, .bool p.runs.k, .int .i64 p.obj.m, .int .i64 p.obj.d, .bool p.obj.k, .int .i64 p.wait.m, .int .i64 p.wait.d, .bool p.wait.k, .int .i64 p.exts, .int .i64 p.longest, .slice A p.hols.length c])) w) (ho : op.op = .load 41 x := by exact rfl) (hw : Region.wanted op (yielded ops a.tmps) = true := by kernel_rfl) : wpList Tryd.prog ops Q (op :: rest) a w :=
  BigFrame.wpList_want hw fun _ hK => wp_load_mid 41 x ho B 0 hx [.int .i64 p.runs.m, .int .i64 p.runs.d, .bool p.runs.k, .int .i64 p.obj.m, .int .i64 p.obj.d, .bool p.obj.k, .int .i64 p.wait.m, .int .i64 p.wait.d, .bool p.wait.k, .int .i64 p.exts, .int .i64 p.longest, .slice A p.hols.length c] _ h.range Tryd.underlying41 rfl prSize (hK _ _ k)
theorem Acts.nil (w : World) : Acts w none [] := ⟨fun k r hr => by simp at hr, by simp⟩
/-- Add, where the act is taken: a notice with one more act. -/
def MorePost (w : World) (n : Note) (e : Ending) (w' : World) : Prop := ∃ N d, e = .returned (.tuple #[.agg #[.string n.name, .int .i64 n.opened, .slice N n.acts.length d], .int .i64 0]) ∧ Acts w' N n.acts ∧ Below w.heap.size w w' ∧ ∀ ad, N = some ad → w.heap.size ≤ ad.block
theorem Add_more (A : Option Addr) (c : Nat) (p : Proc) (N : Option Addr) (d : Nat) (n : Note) (a : NAct) (w : World) (hN : NB w A p N n) (hE : Cal.addE p n a = 0) :
    Calls Tryd.prog 15 #[.agg #[.int .i64 p.runs.m, .int .i64 p.runs.d, .bool p.runs.k, .int .i64 p.obj.m, .int .i64 p.obj.d, .bool p.obj.k, .int .i64 p.wait.m, .int .i64 p.wait.d, .bool p.wait.k, .int .i64 p.exts, .int .i64 p.longest, .slice A p.hols.length c], .agg #[.string n.name, .int .i64 n.opened, .slice N n.acts.length d], .agg #[.int .i64 a.day, .int .i64 a.kind, .int .i64 a.days]] w (MorePost w (n.more a)) :=
  Add_ok A c p N d n a w hN (fun h => (Cal.end_ok h).1) hE
theorem Add_no (A : Option Addr) (c : Nat) (p : Proc) (N : Option Addr) (d : Nat) (n : Note) (a : NAct) (w : World) (hN : NB w A p N n) (hE : Cal.addE p n a ≠ 0) :
    Calls Tryd.prog 15 #[.agg #[.int .i64 p.runs.m, .int .i64 p.runs.d, .bool p.runs.k, .int .i64 p.obj.m, .int .i64 p.obj.d, .bool p.obj.k, .int .i64 p.wait.m, .int .i64 p.wait.d, .bool p.wait.k, .int .i64 p.exts, .int .i64 p.longest, .slice A p.hols.length c], .agg #[.string n.name, .int .i64 n.opened, .slice N n.acts.length d], .agg #[.int .i64 a.day, .int .i64 a.kind, .int .i64 a.days]] w (AddBad w (Cal.addE p n a)) := Add_bad A c p N d n a w hN (fun h => (Cal.end_ok h).1) hE
end Go.Proofs.YtconnjkkgaapbaaDoor
namespace Go.Proofs.YtconnjkkgaapbaaDoor
open Go Go.RowKit
set_option maxRecDepth 100000 in
set_option maxHeartbeats 4000000 in
theorem CheckProcedureR_any (A : Option Addr) (c : Nat) (p : Proc) (w : World) (hl : Hols w A p.hols) :
    Calls Tryd.prog 13 #[.agg #[.int .i64 p.runs.m, .int .i64 p.runs.d, .bool p.runs.k, .int .i64 p.obj.m, .int .i64 p.obj.d, .bool p.obj.k, .int .i64 p.wait.m, .int .i64 p.wait.d, .bool p.wait.k, .int .i64 p.exts, .int .i64 p.longest, .slice A p.hols.length c]] w fun e w' => e = .returned (.int .i64 (Cal.procErr p)) ∧ Below w.heap.size w w' := by
  have hl := Lib.hid hl
  have h1 := Lib.hid (BoxAt.new w #[.int .i64 p.runs.m, .int .i64 p.runs.d, .bool p.runs.k, .int .i64 p.obj.m, .int .i64 p.obj.d, .bool p.obj.k, .int .i64 p.wait.m, .int .i64 p.wait.d, .bool p.wait.k, .int .i64 p.exts, .int .i64 p.longest, .slice A p.hols.length c] 41)
  have hb := Lib.hid (below_alloc w (.cells #[.int .i64 p.runs.m, .int .i64 p.runs.d, .bool p.runs.k, .int .i64 p.obj.m, .int .i64 p.obj.d, .bool p.obj.k, .int .i64 p.wait.m, .int .i64 p.wait.d, .bool p.wait.k, .int .i64 p.exts, .int .i64 p.longest, .slice A p.hols.length c] 41))
  have i0 := per_ix0 p
  have i1 := per_ix1 p
  have i2 := per_ix2 p
  go_enter Tryd.func13, Tryd.ntmps13
  go_wp2_with fail
  go_loopw [13] (fun i wr => ∃ k : Int, ((k = 0) ∨ (k = 1 ∧ Hid (p.runs.err = 0)) ∨ (k = 2 ∧ Hid (p.runs.err = 0) ∧ Hid (p.obj.err = 0)) ∨ (k = 3 ∧ Hid (p.runs.err = 0) ∧ Hid (p.obj.err = 0) ∧ Hid (p.wait.err = 0))) ∧ i = .int .i64 k ∧ Hid (Below w.heap.size w wr) ∧ Hid (BoxAt wr w.heap.size [.int .i64 p.runs.m, .int .i64 p.runs.d, .bool p.runs.k, .int .i64 p.obj.m, .int .i64 p.obj.d, .bool p.obj.k, .int .i64 p.wait.m, .int .i64 p.wait.d, .bool p.wait.k, .int .i64 p.exts, .int .i64 p.longest, .slice A p.hols.length c])) (fun i _ => 3 - (intOf i).toNat)
  case atStart => exact ⟨0, .inl rfl, rfl, hb, h1⟩
  case round =>
    obtain ⟨k, hk, rfl, hb, hp⟩ := hrel
    rcases hk with rfl | ⟨rfl, r1⟩ | ⟨rfl, r1, r2⟩ | ⟨rfl, r1, r2, r3⟩
    · by_cases he : p.runs.err = 0
      · have he1 : (Cal.perE p.runs.m p.runs.d p.runs.k != 0) = false := by have : Cal.perE p.runs.m p.runs.d p.runs.k = 0 := he; simpa using this
        have hez := Lib.hid he
        clear he
        go_wp2_with fail
        refine (CheckPeriodR_any p.runs.m p.runs.d p.runs.k _).mono ?_
        rintro e w2 ⟨rfl, hb2⟩
        have hb3 := Lib.hid (below_step (below_step hb.out (below_alloc wr _)) hb2)
        have hp3 := Lib.hid ((hp.out.alloc _).below hb2)
        clear hb2
        go_wp2_with fail
        go_roundw
        case rel => exact ⟨1, .inr (.inl ⟨rfl, hez⟩), rfl, hb3, hp3⟩
        case measure => simp [intOf]
      · have he1 : (Cal.perE p.runs.m p.runs.d p.runs.k != 0) = true := by have : ¬ Cal.perE p.runs.m p.runs.d p.runs.k = 0 := he; simpa using this
        have hfin : Hid (Cal.procErr p = Cal.perE p.runs.m p.runs.d p.runs.k) := Cal.procErr_1 he
        clear he
        go_wp2_with fail
        refine (CheckPeriodR_any p.runs.m p.runs.d p.runs.k _).mono ?_
        rintro e w2 ⟨rfl, hb2⟩
        have hb3 := Lib.hid (below_step (below_step hb.out (below_alloc wr _)) hb2)
        clear hb2
        go_wp2_with fail
        go_ret
        exact ⟨ret_int hfin.out.symm, hb3.out⟩
    · by_cases he : p.obj.err = 0
      · have he1 : (Cal.perE p.obj.m p.obj.d p.obj.k != 0) = false := by have : Cal.perE p.obj.m p.obj.d p.obj.k = 0 := he; simpa using this
        have hez := Lib.hid he
        clear he
        go_wp2_with fail
        refine (CheckPeriodR_any p.obj.m p.obj.d p.obj.k _).mono ?_
        rintro e w2 ⟨rfl, hb2⟩
        have hb3 := Lib.hid (below_step (below_step hb.out (below_alloc wr _)) hb2)
        have hp3 := Lib.hid ((hp.out.alloc _).below hb2)
        clear hb2
        go_wp2_with fail
        go_roundw
        case rel => exact ⟨2, .inr (.inr (.inl ⟨rfl, r1, hez⟩)), rfl, hb3, hp3⟩
        case measure => simp [intOf]
      · have he1 : (Cal.perE p.obj.m p.obj.d p.obj.k != 0) = true := by have : ¬ Cal.perE p.obj.m p.obj.d p.obj.k = 0 := he; simpa using this
        have hfin : Hid (Cal.procErr p = Cal.perE p.obj.m p.obj.d p.obj.k) := Cal.procErr_2 r1.out he
        clear he
        go_wp2_with fail
        refine (CheckPeriodR_any p.obj.m p.obj.d p.obj.k _).mono ?_
        rintro e w2 ⟨rfl, hb2⟩
        have hb3 := Lib.hid (below_step (below_step hb.out (below_alloc wr _)) hb2)
        clear hb2
        go_wp2_with fail
        go_ret
        exact ⟨ret_int hfin.out.symm, hb3.out⟩
    · by_cases he : p.wait.err = 0
      · have he1 : (Cal.perE p.wait.m p.wait.d p.wait.k != 0) = false := by have : Cal.perE p.wait.m p.wait.d p.wait.k = 0 := he; simpa using this
        have hez := Lib.hid he
        clear he
        go_wp2_with fail
        refine (CheckPeriodR_any p.wait.m p.wait.d p.wait.k _).mono ?_
        rintro e w2 ⟨rfl, hb2⟩
        have hb3 := Lib.hid (below_step (below_step hb.out (below_alloc wr _)) hb2)
        have hp3 := Lib.hid ((hp.out.alloc _).below hb2)
        clear hb2
        go_wp2_with fail
        go_roundw
        case rel => exact ⟨3, .inr (.inr (.inr ⟨rfl, r1, r2, hez⟩)), rfl, hb3, hp3⟩
        case measure => simp [intOf]
      · have he1 : (Cal.perE p.wait.m p.wait.d p.wait.k != 0) = true := by have : ¬ Cal.perE p.wait.m p.wait.d p.wait.k = 0 := he; simpa using this
        have hfin : Hid (Cal.procErr p = Cal.perE p.wait.m p.wait.d p.wait.k) := Cal.procErr_3 r1.out r2.out he
        clear he
        go_wp2_with fail
        refine (CheckPeriodR_any p.wait.m p.wait.d p.wait.k _).mono ?_
        rintro e w2 ⟨rfl, hb2⟩
        have hb3 := Lib.hid (below_step (below_step hb.out (below_alloc wr _)) hb2)
        clear hb2
        go_wp2_with fail
        go_ret
        exact ⟨ret_int hfin.out.symm, hb3.out⟩
    · have hE := Cal.procErr_4 r1.out r2.out r3.out
      have c9 := hp.out.c 9 _ rfl
      have c10 := hp.out.c 10 _ rfl
      have c11 := hp.out.c 11 _ rfl
      by_cases hx : 0 ≤ p.exts ∧ p.exts ≤ 12
      · by_cases hy : 0 ≤ p.longest ∧ p.longest ≤ 3660
        · rw [if_pos ⟨hx.1, hx.2, hy.1, hy.2⟩] at hE
          have hfin := Lib.hid hE
          obtain ⟨x0, x1⟩ := hx
          obtain ⟨y0, y1⟩ := hy
          clear hE
          go_wp2_with (first | (go_at_call 48; first | refine rin ?_ | refine rout ?_ | refine rany ?_) | ((first | (go_at_call 64) | (go_at_call 14) | (go_at_call 39) | (go_at_call 30) | (fail) | (fail) | (fail)); first | refine rin ?_ | refine rout ?_ | refine rany ?_))
          refine (CheckHolidaysR_any _ _ p.hols _ (hl.out.below hb.out)).mono ?_
          rintro e w2 ⟨rfl, hb2⟩
          have hb3 := Lib.hid (below_step hb.out hb2)
          clear hb2
          go_wp2_with fail
          go_ret
          exact ⟨ret_int hfin.out.symm, hb3.out⟩
        · rw [if_neg (fun h => hy ⟨h.2.2.1, h.2.2.2⟩)] at hE
          have hfin := Lib.hid hE
          obtain ⟨x0, x1⟩ := hx
          have hy' : p.longest < 0 ∨ 3660 < p.longest := by omega
          clear hE hy
          go_wp2_with (first | (go_at_call 48; first | refine rin ?_ | refine rout ?_ | refine rany ?_) | ((first | (go_at_call 64) | (go_at_call 14) | (go_at_call 39) | (go_at_call 30) | (fail) | (fail) | (fail)); first | refine rin ?_ | refine rout ?_ | refine rany ?_))
          go_ret
          exact ⟨ret_int hfin.out.symm, hb.out⟩
      · rw [if_neg (fun h => hx ⟨h.1, h.2.1⟩)] at hE
        have hfin := Lib.hid hE
        have hx' : p.exts < 0 ∨ 12 < p.exts := by omega
        clear hE hx
        go_wp2_with (first | (go_at_call 48; first | refine rin ?_ | refine rout ?_ | refine rany ?_) | ((first | (go_at_call 64) | (go_at_call 14) | (go_at_call 39) | (go_at_call 30) | (fail) | (fail) | (fail)); first | refine rin ?_ | refine rout ?_ | refine rany ?_))
        go_ret
        exact ⟨ret_int hfin.out.symm, hb.out⟩
def modB (d : Int) (k : Bool) : Bool := !k || (decide (d ≤ 60) || decide (2000 < d))
theorem modest_any (m d : Int) (k : Bool) (w : World) : Calls Tryd.prog 31 #[.agg #[.int .i64 m, .int .i64 d, .bool k]] w fun e w' => e = .returned (.bool (modB d k)) ∧ Below w.heap.size w w' := by
  cases k
  · go_enter Tryd.func31, Tryd.ntmps31
    go_wp2_with fail
    go_ret
    exact ⟨rfl, by exact blw⟩
  · by_cases h1 : d ≤ 60
    · have hfin : Hid (modB d true = true) := by show _ = _; unfold modB; simp [h1]
      go_enter Tryd.func31, Tryd.ntmps31
      go_wp2_with fail
      go_ret
      exact ⟨ret_bool hfin.out.symm, by exact blw⟩
    · have h1d : decide (d ≤ 60) = false := by simpa using h1
      have hfin : Hid (modB d true = decide (2000 < d)) := by show _ = _; unfold modB; rw [h1d]; rfl
      clear h1
      go_enter Tryd.func31, Tryd.ntmps31
      go_wp2_with fail
      go_ret
      exact ⟨ret_bool hfin.out.symm, by exact blw⟩
def BoolPost (w : World) (e : Ending) (w' : World) : Prop := (∃ b : Bool, e = .returned (.bool b)) ∧ Below w.heap.size w w'
set_option maxRecDepth 100000 in
set_option maxHeartbeats 4000000 in
theorem Modest_any (A : Option Addr) (c : Nat) (p : Proc) (w : World) (hl : Hols w A p.hols) : Calls Tryd.prog 12 #[.agg #[.int .i64 p.runs.m, .int .i64 p.runs.d, .bool p.runs.k, .int .i64 p.obj.m, .int .i64 p.obj.d, .bool p.obj.k, .int .i64 p.wait.m, .int .i64 p.wait.d, .bool p.wait.k, .int .i64 p.exts, .int .i64 p.longest, .slice A p.hols.length c]] w (BoolPost w) := by
  have hl := Lib.hid hl
  have h1 := Lib.hid (BoxAt.new w #[.int .i64 p.runs.m, .int .i64 p.runs.d, .bool p.runs.k, .int .i64 p.obj.m, .int .i64 p.obj.d, .bool p.obj.k, .int .i64 p.wait.m, .int .i64 p.wait.d, .bool p.wait.k, .int .i64 p.exts, .int .i64 p.longest, .slice A p.hols.length c] 41)
  have hb := Lib.hid (below_alloc w (.cells #[.int .i64 p.runs.m, .int .i64 p.runs.d, .bool p.runs.k, .int .i64 p.obj.m, .int .i64 p.obj.d, .bool p.obj.k, .int .i64 p.wait.m, .int .i64 p.wait.d, .bool p.wait.k, .int .i64 p.exts, .int .i64 p.longest, .slice A p.hols.length c] 41))
  cases e1 : modB p.runs.d p.runs.k
  · have e1 := Lib.hid e1
    go_enter Tryd.func12, Tryd.ntmps12
    go_wp2_with fail
    refine (modest_any p.runs.m p.runs.d p.runs.k _).mono ?_
    rintro e w9 ⟨rfl, hbn⟩
    rw [e1.out]
    have hb := Lib.hid (below_step hb.out hbn)
    have h1 := Lib.hid (h1.out.below hbn)
    clear hbn
    have c0 := h1.out.c 0 _ rfl
    have c1 := h1.out.c 1 _ rfl
    have c2 := h1.out.c 2 _ rfl
    have c3 := h1.out.c 3 _ rfl
    have c4 := h1.out.c 4 _ rfl
    have c5 := h1.out.c 5 _ rfl
    have c6 := h1.out.c 6 _ rfl
    have c7 := h1.out.c 7 _ rfl
    have c8 := h1.out.c 8 _ rfl
    have c11 := h1.out.c 11 _ rfl
    go_wp2_with fail
    go_ret
    exact ⟨⟨_, rfl⟩, hb.out⟩
  have e1 := Lib.hid e1
  cases e2 : modB p.obj.d p.obj.k
  · have e2 := Lib.hid e2
    go_enter Tryd.func12, Tryd.ntmps12
    go_wp2_with fail
    refine (modest_any p.runs.m p.runs.d p.runs.k _).mono ?_
    rintro e w9 ⟨rfl, hbn⟩
    rw [e1.out]
    have hb := Lib.hid (below_step hb.out hbn)
    have h1 := Lib.hid (h1.out.below hbn)
    clear hbn
    have c0 := h1.out.c 0 _ rfl
    have c1 := h1.out.c 1 _ rfl
    have c2 := h1.out.c 2 _ rfl
    have c3 := h1.out.c 3 _ rfl
    have c4 := h1.out.c 4 _ rfl
    have c5 := h1.out.c 5 _ rfl
    have c6 := h1.out.c 6 _ rfl
    have c7 := h1.out.c 7 _ rfl
    have c8 := h1.out.c 8 _ rfl
    have c11 := h1.out.c 11 _ rfl
    go_wp2_with fail
    refine (modest_any p.obj.m p.obj.d p.obj.k _).mono ?_
    rintro e w9 ⟨rfl, hbn⟩
    rw [e2.out]
    have hb := Lib.hid (below_step hb.out hbn)
    have h1 := Lib.hid (h1.out.below hbn)
    clear hbn
    have c0 := h1.out.c 0 _ rfl
    have c1 := h1.out.c 1 _ rfl
    have c2 := h1.out.c 2 _ rfl
    have c3 := h1.out.c 3 _ rfl
    have c4 := h1.out.c 4 _ rfl
    have c5 := h1.out.c 5 _ rfl
    have c6 := h1.out.c 6 _ rfl
    have c7 := h1.out.c 7 _ rfl
    have c8 := h1.out.c 8 _ rfl
    have c11 := h1.out.c 11 _ rfl
    go_wp2_with fail
    go_ret
    exact ⟨⟨_, rfl⟩, hb.out⟩
  have e2 := Lib.hid e2
  cases e3 : modB p.wait.d p.wait.k
  · have e3 := Lib.hid e3
    go_enter Tryd.func12, Tryd.ntmps12
    go_wp2_with fail
    refine (modest_any p.runs.m p.runs.d p.runs.k _).mono ?_
    rintro e w9 ⟨rfl, hbn⟩
    rw [e1.out]
    have hb := Lib.hid (below_step hb.out hbn)
    have h1 := Lib.hid (h1.out.below hbn)
    clear hbn
    have c0 := h1.out.c 0 _ rfl
    have c1 := h1.out.c 1 _ rfl
    have c2 := h1.out.c 2 _ rfl
    have c3 := h1.out.c 3 _ rfl
    have c4 := h1.out.c 4 _ rfl
    have c5 := h1.out.c 5 _ rfl
    have c6 := h1.out.c 6 _ rfl
    have c7 := h1.out.c 7 _ rfl
    have c8 := h1.out.c 8 _ rfl
    have c11 := h1.out.c 11 _ rfl
    go_wp2_with fail
    refine (modest_any p.obj.m p.obj.d p.obj.k _).mono ?_
    rintro e w9 ⟨rfl, hbn⟩
    rw [e2.out]
    have hb := Lib.hid (below_step hb.out hbn)
    have h1 := Lib.hid (h1.out.below hbn)
    clear hbn
    have c0 := h1.out.c 0 _ rfl
    have c1 := h1.out.c 1 _ rfl
    have c2 := h1.out.c 2 _ rfl
    have c3 := h1.out.c 3 _ rfl
    have c4 := h1.out.c 4 _ rfl
    have c5 := h1.out.c 5 _ rfl
    have c6 := h1.out.c 6 _ rfl
    have c7 := h1.out.c 7 _ rfl
    have c8 := h1.out.c 8 _ rfl
    have c11 := h1.out.c 11 _ rfl
    go_wp2_with fail
    refine (modest_any p.wait.m p.wait.d p.wait.k _).mono ?_
    rintro e w9 ⟨rfl, hbn⟩
    rw [e3.out]
    have hb := Lib.hid (below_step hb.out hbn)
    have h1 := Lib.hid (h1.out.below hbn)
    clear hbn
    have c0 := h1.out.c 0 _ rfl
    have c1 := h1.out.c 1 _ rfl
    have c2 := h1.out.c 2 _ rfl
    have c3 := h1.out.c 3 _ rfl
    have c4 := h1.out.c 4 _ rfl
    have c5 := h1.out.c 5 _ rfl
    have c6 := h1.out.c 6 _ rfl
    have c7 := h1.out.c 7 _ rfl
    have c8 := h1.out.c 8 _ rfl
    have c11 := h1.out.c 11 _ rfl
    go_wp2_with fail
    go_ret
    exact ⟨⟨_, rfl⟩, hb.out⟩
  · have e3 := Lib.hid e3
    go_enter Tryd.func12, Tryd.ntmps12
    go_wp2_with fail
    refine (modest_any p.runs.m p.runs.d p.runs.k _).mono ?_
    rintro e w9 ⟨rfl, hbn⟩
    rw [e1.out]
    have hb := Lib.hid (below_step hb.out hbn)
    have h1 := Lib.hid (h1.out.below hbn)
    clear hbn
    have c0 := h1.out.c 0 _ rfl
    have c1 := h1.out.c 1 _ rfl
    have c2 := h1.out.c 2 _ rfl
    have c3 := h1.out.c 3 _ rfl
    have c4 := h1.out.c 4 _ rfl
    have c5 := h1.out.c 5 _ rfl
    have c6 := h1.out.c 6 _ rfl
    have c7 := h1.out.c 7 _ rfl
    have c8 := h1.out.c 8 _ rfl
    have c11 := h1.out.c 11 _ rfl
    go_wp2_with fail
    refine (modest_any p.obj.m p.obj.d p.obj.k _).mono ?_
    rintro e w9 ⟨rfl, hbn⟩
    rw [e2.out]
    have hb := Lib.hid (below_step hb.out hbn)
    have h1 := Lib.hid (h1.out.below hbn)
    clear hbn
    have c0 := h1.out.c 0 _ rfl
    have c1 := h1.out.c 1 _ rfl
    have c2 := h1.out.c 2 _ rfl
    have c3 := h1.out.c 3 _ rfl
    have c4 := h1.out.c 4 _ rfl
    have c5 := h1.out.c 5 _ rfl
    have c6 := h1.out.c 6 _ rfl
    have c7 := h1.out.c 7 _ rfl
    have c8 := h1.out.c 8 _ rfl
    have c11 := h1.out.c 11 _ rfl
    go_wp2_with fail
    refine (modest_any p.wait.m p.wait.d p.wait.k _).mono ?_
    rintro e w9 ⟨rfl, hbn⟩
    rw [e3.out]
    have hb := Lib.hid (below_step hb.out hbn)
    have h1 := Lib.hid (h1.out.below hbn)
    clear hbn
    have c0 := h1.out.c 0 _ rfl
    have c1 := h1.out.c 1 _ rfl
    have c2 := h1.out.c 2 _ rfl
    have c3 := h1.out.c 3 _ rfl
    have c4 := h1.out.c 4 _ rfl
    have c5 := h1.out.c 5 _ rfl
    have c6 := h1.out.c 6 _ rfl
    have c7 := h1.out.c 7 _ rfl
    have c8 := h1.out.c 8 _ rfl
    have c11 := h1.out.c 11 _ rfl
    go_wp2_with fail
    refine (Calendar_any A c p.hols _ (hl.out.below hb.out)).mono ?_
    rintro e w9 ⟨⟨b, rfl, hbl⟩, rfl⟩
    clear hbl
    go_wp2_with fail
    go_ret
    exact ⟨⟨_, rfl⟩, hb.out⟩
end Go.Proofs.YtconnjkkgaapbaaDoor
