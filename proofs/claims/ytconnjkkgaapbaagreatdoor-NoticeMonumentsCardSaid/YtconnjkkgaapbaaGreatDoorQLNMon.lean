/- The walk of a statement. -/
import Derived.Test.YtconnjkkgaapbaaGreatDoorC38
import Derived.Test.YtconnjkkgaapbaaGreatDoorC27
import Derived.Test.YtconnjkkgaapbaaGreatDoorC17
namespace Go.Proofs.YtconnjkkgaapbaaGreatDoor
open Go Go.RowKit
theorem plain_any (V : Option Addr) (d : Nat) (m : Mon) (w : World) (hM : MB w V m) : Calls Tryz.prog 42 #[.agg #[.string m.name, .string m.place, .slice V m.visits.length d]] w (BoolPost w) := by
  have hn := hM.name
  have hp := hM.place
  have ha := hM.vis.size
  clear hM
  unfold maxLen at hn hp
  by_cases h1 : m.name.size ≤ 30
  · by_cases h0 : m.place.size ≤ 30
    · by_cases h2 : m.visits.length ≤ 8
      · go_enter Tryz.func42, Tryz.ntmps42
        go_wp2_with fail
        go_ret
        exact ⟨⟨_, rfl⟩, by exact blw⟩
      · have h2' : 8 < m.visits.length := by omega
        clear h2
        by_cases h3 : 40 < m.visits.length
        · by_cases h4 : m.visits.length ≤ 50
          · go_enter Tryz.func42, Tryz.ntmps42
            go_wp2_with fail
            go_ret
            exact ⟨⟨_, rfl⟩, by exact blw⟩
          · have h4' : 50 < m.visits.length := by omega
            clear h4
            go_enter Tryz.func42, Tryz.ntmps42
            go_wp2_with fail
            go_ret
            exact ⟨⟨_, rfl⟩, by exact blw⟩
        · have h3' : m.visits.length ≤ 40 := by omega
          clear h3
          go_enter Tryz.func42, Tryz.ntmps42
          go_wp2_with fail
          go_ret
          exact ⟨⟨_, rfl⟩, by exact blw⟩
    · have h0' : 30 < m.place.size := by omega
      clear h0
      go_enter Tryz.func42, Tryz.ntmps42
      go_wp2_with fail
      go_ret
      exact ⟨⟨_, rfl⟩, by exact blw⟩
  · have h1' : 30 < m.name.size := by omega
    clear h1
    go_enter Tryz.func42, Tryz.ntmps42
    go_wp2_with fail
    go_ret
    exact ⟨⟨_, rfl⟩, by exact blw⟩
set_option maxRecDepth 100000 in
set_option maxHeartbeats 8000000 in
theorem NoticeMonuments_any (g : Grad) (V : Option Addr) (d : Nat) (m : Mon) (day : Int) (w : World) (hM : MB w V m) (hT : Tab w) :
    Calls Tryz.prog 12 #[.agg #[.int .i64 g.t0, .int .i64 g.t1, .int .i64 g.t2, .int .i64 g.p0, .int .i64 g.p1, .int .i64 g.p2, .int .i64 g.m0, .int .i64 g.m1, .int .i64 g.m2, .int .i64 g.m3], .agg #[.string m.name, .string m.place, .slice V m.visits.length d], .int .i64 day] w fun e w' => e = .returned (.bool true) ∧ Below w.heap.size w w' := by
  have hI := Lib.hid (start2m w g V d m hM hT)
  clear hM hT
  obtain ⟨E, hE⟩ : ∃ E, Cal.gradErr g = E := ⟨_, rfl⟩
  obtain ⟨F, hF⟩ : ∃ F, Cal.monErr m = F := ⟨_, rfl⟩
  have hgz := Lib.hid hE
  have hmz := Lib.hid hF
  have hFF : (F != F) = false := by simp
  by_cases h0 : E = 0
  · subst h0
    by_cases h1 : F = 0
    · subst h1
      by_cases h2 : 0 ≤ day ∧ day ≤ 200000
      · have hby := Cal.by_ok hE hF h2
        obtain ⟨d0, d1⟩ := h2
        rcases ho : Cal.lastV day m.visits with _ | u
        · rw [ho] at hby
          have hga : Hid (Cal.gradeAtS g m day = (0, 6)) := Cal.gradeAt_bad hby (by decide)
          have hnx : Hid (Cal.nextS g m day = (0, 6)) := Cal.next_bad hby (by decide)
          have hoz := Lib.hid ho
          clear ho hby hE hF hFF
          have c0 := hI.out.g2.c 0 _ rfl
          have c1 := hI.out.g2.c 1 _ rfl
          have c2 := hI.out.g2.c 2 _ rfl
          go_enter Tryz.func12, Tryz.ntmps12
          go_wp2_with fail
          refine (nawake_any _ hI.out.tab).mono ?_
          rintro e wn ⟨rfl, hbn⟩
          have hI := Lib.hid (hI.out.step hbn)
          clear hbn c0 c1 c2
          have c0 := hI.out.g2.c 0 _ rfl
          have c1 := hI.out.g2.c 1 _ rfl
          have c2 := hI.out.g2.c 2 _ rfl
          go_wp2_with fail
          refine (plain_any V d m _ hI.out.mb).mono ?_
          rintro e wn ⟨⟨b, rfl⟩, hbn⟩
          have hI := Lib.hid (hI.out.step hbn)
          clear hbn c0 c1 c2
          have c0 := hI.out.g2.c 0 _ rfl
          have c1 := hI.out.g2.c 1 _ rfl
          have c2 := hI.out.g2.c 2 _ rfl
          cases b
          · go_wp2_with fail
            go_ret
            exact ⟨rfl, hI.out.hb⟩
          go_wp2_with (first | refine wpGrd hI.out.g1 (.tmp 3) rfl ?_ | refine wpGrd (hI.out.g1.alloc _) (.tmp 3) rfl ?_)
          refine (GradeAt_any g V d m day _ hI.out.mb hI.out.tab).mono ?_
          rw [hga.out]
          rintro e wn ⟨rfl, hbn⟩
          have hI := Lib.hid (hI.out.step hbn)
          clear hbn c0 c1 c2
          have c0 := hI.out.g2.c 0 _ rfl
          have c1 := hI.out.g2.c 1 _ rfl
          have c2 := hI.out.g2.c 2 _ rfl
          go_wp2_with (first | refine wpGrd hI.out.g1 (.tmp 3) rfl ?_ | refine wpGrd (hI.out.g1.alloc _) (.tmp 3) rfl ?_)
          refine (NextVisit_any g V d m day _ hI.out.mb hI.out.tab).mono ?_
          rw [hnx.out]
          rintro e wn ⟨rfl, hbn⟩
          have hI := Lib.hid (hI.out.step hbn)
          clear hbn c0 c1 c2
          have c0 := hI.out.g2.c 0 _ rfl
          have c1 := hI.out.g2.c 1 _ rfl
          have c2 := hI.out.g2.c 2 _ rfl
          go_wp2_with fail
          refine wp_region_held_drew (S := (fun w' => w'.cell? ⟨w.heap.size + 1, 0, none⟩ = some (.string m.name) ∧ w'.cell? ⟨w.heap.size + 1, 1, none⟩ = some (.string m.place) ∧ w'.cell? ⟨w.heap.size + 1, 2, none⟩ = some (.slice V m.visits.length d))) (by kernel_rfl) ⟨c0, c1, c2⟩ (fun hHeld => ?_)
          (refine tkH 0 (v := ?_) ?_ ?_; rotate_left; focus (intro w' hSw; (try dsimp only at hSw); go_simp; (try with_reducible rfl)); (try simp only [Act.put, List.setIfInBounds_toArray, List.set_cons_zero, List.set_cons_succ]))
          (refine tkH 2 (v := ?_) ?_ ?_; rotate_left; focus (intro w' hSw; (try dsimp only at hSw); go_simp; (try with_reducible rfl)); (try simp only [Act.put, List.setIfInBounds_toArray, List.set_cons_zero, List.set_cons_succ]))
          (refine wpAnyH_ready (rs := [1]) (by decide +kernel) (by simp) ?_; refine AllReadyH.cons rfl (fun K hK => ?_) AllReadyH.nil; rw [if_pos (by kernel_rfl)]; go_simp)
          refine (CheckMonument_any V d m _ (hI.out.mb.below (Below.refl _ _).drew)).mono ?_
          rw [hmz.out]
          rintro e w5 ⟨rfl, hb5⟩
          have hbn := below_of_drewN (n := 1) hb5
          clear hb5
          have hI := Lib.hid (hI.out.step hbn)
          clear hbn c0 c1 c2
          have c0 := hI.out.g2.c 0 _ rfl
          have c1 := hI.out.g2.c 1 _ rfl
          have c2 := hI.out.g2.c 2 _ rfl
          go_simp
          (refine hK.out _ _ ⟨c0, c1, c2⟩ (fun hHeld => ?_); clear hK K; (try simp only [Act.put, List.setIfInBounds_toArray]); (try simp only [List.set_cons_zero, List.set_cons_succ]))
          (refine wpAnyH_ready (rs := [3]) (by decide +kernel) (by simp) ?_; refine AllReadyH.cons rfl (fun K hK => ?_) AllReadyH.nil; rw [if_pos (by kernel_rfl)]; go_simp)
          refine (CheckMonumentR_any V d m _ hI.out.mb).mono ?_
          rw [hmz.out]
          rintro e w6 ⟨rfl, hbn⟩
          have hI := Lib.hid (hI.out.step hbn)
          clear hbn c0 c1 c2
          have c0 := hI.out.g2.c 0 _ rfl
          have c1 := hI.out.g2.c 1 _ rfl
          have c2 := hI.out.g2.c 2 _ rfl
          go_simp
          (refine hK.out _ _ ⟨c0, c1, c2⟩ (fun hHeld => ?_); clear hK K; (try simp only [Act.put, List.setIfInBounds_toArray]); (try simp only [List.set_cons_zero, List.set_cons_succ]))
          (refine tkH 4 (v := ?_) ?_ ?_; rotate_left; focus (intro w' hSw; (try dsimp only at hSw); go_simp; (try with_reducible rfl)); (try simp only [Act.put, List.setIfInBounds_toArray, List.set_cons_zero, List.set_cons_succ]))
          refine wpAnyH_done (by kernel_rfl) ?_ _
          go_wp2_with (first | refine wpGrd hI.out.g1 (.tmp 3) rfl ?_ | refine wpGrd (hI.out.g1.alloc _) (.tmp 3) rfl ?_)
          refine (CheckGradingR_any g _).mono ?_
          rw [hgz.out]
          rintro e wn ⟨rfl, hbn⟩
          have hI := Lib.hid (hI.out.step hbn)
          clear hbn c0 c1 c2
          have c0 := hI.out.g2.c 0 _ rfl
          have c1 := hI.out.g2.c 1 _ rfl
          have c2 := hI.out.g2.c 2 _ rfl
          go_wp2_with first | (go_at_call 60; first | refine rin ?_ | refine rout ?_ | refine rany ?_) | ((first | (go_at_call 86) | (go_at_call 41) | (go_at_call 74) | (go_at_call 28) | (go_at_call 109) | (fail) | (fail)); first | refine rin ?_ | refine rout ?_ | refine rany ?_)
          refine (CheckMonumentR_any V d m _ hI.out.mb).mono ?_
          rw [hmz.out]
          rintro e wn ⟨rfl, hbn⟩
          have hI := Lib.hid (hI.out.step hbn)
          clear hbn c0 c1 c2
          have c0 := hI.out.g2.c 0 _ rfl
          have c1 := hI.out.g2.c 1 _ rfl
          have c2 := hI.out.g2.c 2 _ rfl
          go_wp2_with first | (first | refine wpGrd hI.out.g1 (.tmp 3) rfl ?_ | refine wpGrd (hI.out.g1.alloc _) (.tmp 3) rfl ?_) | first | (go_at_call 60; first | refine rin ?_ | refine rout ?_ | refine rany ?_) | ((first | (go_at_call 86) | (go_at_call 41) | (go_at_call 74) | (go_at_call 28) | (go_at_call 109) | (fail) | (fail)); first | refine rin ?_ | refine rout ?_ | refine rany ?_)
          refine (NextVisitR_any g V d m day _ hI.out.mb hI.out.tab hgz.out hmz.out ⟨d0, d1⟩).mono ?_
          rw [hnx.out]
          rintro e wn ⟨rfl, hbn⟩
          have hI := Lib.hid (hI.out.step hbn)
          clear hbn c0 c1 c2
          have c0 := hI.out.g2.c 0 _ rfl
          have c1 := hI.out.g2.c 1 _ rfl
          have c2 := hI.out.g2.c 2 _ rfl
          go_wp2_with fail
          have hlv := fun wr h => LastR_any V d m day wr h
          rw [hoz.out] at hlv
          refine (hlv _ hI.out.mb).mono ?_
          clear hlv
          rintro e wn ⟨u', rfl, hu, hbn⟩
          clear hu
          have hI := Lib.hid (hI.out.step hbn)
          clear hbn c0 c1 c2
          have c0 := hI.out.g2.c 0 _ rfl
          have c1 := hI.out.g2.c 1 _ rfl
          have c2 := hI.out.g2.c 2 _ rfl
          go_wp2_with fail
          go_ret
          exact ⟨by first | rfl | simp, below_step hI.out.hb (below_alloc _ _)⟩
        · rw [ho] at hby
          obtain ⟨x, hx⟩ : ∃ x, Cal.gradeS g u = x := ⟨_, rfl⟩
          obtain ⟨q, hq⟩ : ∃ q, Cal.nextS g m day = q := ⟨_, rfl⟩
          obtain ⟨X, G⟩ := q
          have hxz := Lib.hid hx
          have hga : Hid (Cal.gradeAtS g m day = (x, 0)) := by show _ = _; rw [Cal.gradeAt_ok hby ho, hx]
          have hnx := Lib.hid hq
          have hoz := Lib.hid ho
          have hXX : (X != X) = false := by simp
          have hGG : (G != G) = false := by simp
          have hxx : (x == x) = true := by simp
          clear ho hby hE hF hFF hx hq
          have c0 := hI.out.g2.c 0 _ rfl
          have c1 := hI.out.g2.c 1 _ rfl
          have c2 := hI.out.g2.c 2 _ rfl
          go_enter Tryz.func12, Tryz.ntmps12
          go_wp2_with fail
          refine (nawake_any _ hI.out.tab).mono ?_
          rintro e wn ⟨rfl, hbn⟩
          have hI := Lib.hid (hI.out.step hbn)
          clear hbn c0 c1 c2
          have c0 := hI.out.g2.c 0 _ rfl
          have c1 := hI.out.g2.c 1 _ rfl
          have c2 := hI.out.g2.c 2 _ rfl
          go_wp2_with fail
          refine (plain_any V d m _ hI.out.mb).mono ?_
          rintro e wn ⟨⟨b, rfl⟩, hbn⟩
          have hI := Lib.hid (hI.out.step hbn)
          clear hbn c0 c1 c2
          have c0 := hI.out.g2.c 0 _ rfl
          have c1 := hI.out.g2.c 1 _ rfl
          have c2 := hI.out.g2.c 2 _ rfl
          cases b
          · go_wp2_with fail
            go_ret
            exact ⟨rfl, hI.out.hb⟩
          go_wp2_with (first | refine wpGrd hI.out.g1 (.tmp 3) rfl ?_ | refine wpGrd (hI.out.g1.alloc _) (.tmp 3) rfl ?_)
          refine (GradeAt_any g V d m day _ hI.out.mb hI.out.tab).mono ?_
          rw [hga.out]
          rintro e wn ⟨rfl, hbn⟩
          have hI := Lib.hid (hI.out.step hbn)
          clear hbn c0 c1 c2
          have c0 := hI.out.g2.c 0 _ rfl
          have c1 := hI.out.g2.c 1 _ rfl
          have c2 := hI.out.g2.c 2 _ rfl
          go_wp2_with (first | refine wpGrd hI.out.g1 (.tmp 3) rfl ?_ | refine wpGrd (hI.out.g1.alloc _) (.tmp 3) rfl ?_)
          refine (NextVisit_any g V d m day _ hI.out.mb hI.out.tab).mono ?_
          rw [hnx.out]
          rintro e wn ⟨rfl, hbn⟩
          have hI := Lib.hid (hI.out.step hbn)
          clear hbn c0 c1 c2
          have c0 := hI.out.g2.c 0 _ rfl
          have c1 := hI.out.g2.c 1 _ rfl
          have c2 := hI.out.g2.c 2 _ rfl
          go_wp2_with fail
          refine wp_region_held_drew (S := (fun w' => w'.cell? ⟨w.heap.size + 1, 0, none⟩ = some (.string m.name) ∧ w'.cell? ⟨w.heap.size + 1, 1, none⟩ = some (.string m.place) ∧ w'.cell? ⟨w.heap.size + 1, 2, none⟩ = some (.slice V m.visits.length d))) (by kernel_rfl) ⟨c0, c1, c2⟩ (fun hHeld => ?_)
          (refine tkH 0 (v := ?_) ?_ ?_; rotate_left; focus (intro w' hSw; (try dsimp only at hSw); go_simp; (try with_reducible rfl)); (try simp only [Act.put, List.setIfInBounds_toArray, List.set_cons_zero, List.set_cons_succ]))
          (refine tkH 2 (v := ?_) ?_ ?_; rotate_left; focus (intro w' hSw; (try dsimp only at hSw); go_simp; (try with_reducible rfl)); (try simp only [Act.put, List.setIfInBounds_toArray, List.set_cons_zero, List.set_cons_succ]))
          (refine wpAnyH_ready (rs := [1]) (by decide +kernel) (by simp) ?_; refine AllReadyH.cons rfl (fun K hK => ?_) AllReadyH.nil; rw [if_pos (by kernel_rfl)]; go_simp)
          refine (CheckMonument_any V d m _ (hI.out.mb.below (Below.refl _ _).drew)).mono ?_
          rw [hmz.out]
          rintro e w5 ⟨rfl, hb5⟩
          have hbn := below_of_drewN (n := 1) hb5
          clear hb5
          have hI := Lib.hid (hI.out.step hbn)
          clear hbn c0 c1 c2
          have c0 := hI.out.g2.c 0 _ rfl
          have c1 := hI.out.g2.c 1 _ rfl
          have c2 := hI.out.g2.c 2 _ rfl
          go_simp
          (refine hK.out _ _ ⟨c0, c1, c2⟩ (fun hHeld => ?_); clear hK K; (try simp only [Act.put, List.setIfInBounds_toArray]); (try simp only [List.set_cons_zero, List.set_cons_succ]))
          (refine wpAnyH_ready (rs := [3]) (by decide +kernel) (by simp) ?_; refine AllReadyH.cons rfl (fun K hK => ?_) AllReadyH.nil; rw [if_pos (by kernel_rfl)]; go_simp)
          refine (CheckMonumentR_any V d m _ hI.out.mb).mono ?_
          rw [hmz.out]
          rintro e w6 ⟨rfl, hbn⟩
          have hI := Lib.hid (hI.out.step hbn)
          clear hbn c0 c1 c2
          have c0 := hI.out.g2.c 0 _ rfl
          have c1 := hI.out.g2.c 1 _ rfl
          have c2 := hI.out.g2.c 2 _ rfl
          go_simp
          (refine hK.out _ _ ⟨c0, c1, c2⟩ (fun hHeld => ?_); clear hK K; (try simp only [Act.put, List.setIfInBounds_toArray]); (try simp only [List.set_cons_zero, List.set_cons_succ]))
          (refine tkH 4 (v := ?_) ?_ ?_; rotate_left; focus (intro w' hSw; (try dsimp only at hSw); go_simp; (try with_reducible rfl)); (try simp only [Act.put, List.setIfInBounds_toArray, List.set_cons_zero, List.set_cons_succ]))
          refine wpAnyH_done (by kernel_rfl) ?_ _
          go_wp2_with (first | refine wpGrd hI.out.g1 (.tmp 3) rfl ?_ | refine wpGrd (hI.out.g1.alloc _) (.tmp 3) rfl ?_)
          refine (CheckGradingR_any g _).mono ?_
          rw [hgz.out]
          rintro e wn ⟨rfl, hbn⟩
          have hI := Lib.hid (hI.out.step hbn)
          clear hbn c0 c1 c2
          have c0 := hI.out.g2.c 0 _ rfl
          have c1 := hI.out.g2.c 1 _ rfl
          have c2 := hI.out.g2.c 2 _ rfl
          go_wp2_with first | (go_at_call 60; first | refine rin ?_ | refine rout ?_ | refine rany ?_) | ((first | (go_at_call 86) | (go_at_call 41) | (go_at_call 74) | (go_at_call 28) | (go_at_call 109) | (fail) | (fail)); first | refine rin ?_ | refine rout ?_ | refine rany ?_)
          refine (CheckMonumentR_any V d m _ hI.out.mb).mono ?_
          rw [hmz.out]
          rintro e wn ⟨rfl, hbn⟩
          have hI := Lib.hid (hI.out.step hbn)
          clear hbn c0 c1 c2
          have c0 := hI.out.g2.c 0 _ rfl
          have c1 := hI.out.g2.c 1 _ rfl
          have c2 := hI.out.g2.c 2 _ rfl
          go_wp2_with first | (first | refine wpGrd hI.out.g1 (.tmp 3) rfl ?_ | refine wpGrd (hI.out.g1.alloc _) (.tmp 3) rfl ?_) | first | (go_at_call 60; first | refine rin ?_ | refine rout ?_ | refine rany ?_) | ((first | (go_at_call 86) | (go_at_call 41) | (go_at_call 74) | (go_at_call 28) | (go_at_call 109) | (fail) | (fail)); first | refine rin ?_ | refine rout ?_ | refine rany ?_)
          refine (NextVisitR_any g V d m day _ hI.out.mb hI.out.tab hgz.out hmz.out ⟨d0, d1⟩).mono ?_
          rw [hnx.out]
          rintro e wn ⟨rfl, hbn⟩
          have hI := Lib.hid (hI.out.step hbn)
          clear hbn c0 c1 c2
          have c0 := hI.out.g2.c 0 _ rfl
          have c1 := hI.out.g2.c 1 _ rfl
          have c2 := hI.out.g2.c 2 _ rfl
          go_wp2_with fail
          have hlv := fun wr h => LastR_any V d m day wr h
          rw [hoz.out] at hlv
          refine (hlv _ hI.out.mb).mono ?_
          clear hlv
          rintro e wn ⟨u', rfl, hu, hbn⟩
          obtain rfl : u = u' := hu.symm
          clear hu
          have hI := Lib.hid (hI.out.step hbn)
          clear hbn c0 c1 c2
          have c0 := hI.out.g2.c 0 _ rfl
          have c1 := hI.out.g2.c 1 _ rfl
          have c2 := hI.out.g2.c 2 _ rfl
          go_wp2_with (first | refine wpGrd hI.out.g1 (.tmp 3) rfl ?_ | refine wpGrd (hI.out.g1.alloc _) (.tmp 3) rfl ?_)
          refine (GradeOfR_any g u _).mono ?_
          rw [hxz.out]
          rintro e wm ⟨rfl, hbm⟩
          have hbn := below_step (below_alloc _ _) hbm
          clear hbm
          have hI := Lib.hid (hI.out.step hbn)
          clear hbn c0 c1 c2
          have c0 := hI.out.g2.c 0 _ rfl
          have c1 := hI.out.g2.c 1 _ rfl
          have c2 := hI.out.g2.c 2 _ rfl
          go_wp2_with fail
          go_ret
          exact ⟨by first | rfl | simp, hI.out.hb⟩
      · have hb0 : Cal.byErr g m day = 2 := Cal.by_bad (by unfold Cal.byErr0; rw [if_pos hE, if_pos hF, if_neg h2]) (by decide)
        have hga : Hid (Cal.gradeAtS g m day = (0, 2)) := Cal.gradeAt_bad hb0 (by decide)
        have hnx : Hid (Cal.nextS g m day = (0, 2)) := Cal.next_bad hb0 (by decide)
        have h2' : day < 0 ∨ 200000 < day := by omega
        clear hb0 hE hF hFF h2
        have c0 := hI.out.g2.c 0 _ rfl
        have c1 := hI.out.g2.c 1 _ rfl
        have c2 := hI.out.g2.c 2 _ rfl
        go_enter Tryz.func12, Tryz.ntmps12
        go_wp2_with fail
        refine (nawake_any _ hI.out.tab).mono ?_
        rintro e wn ⟨rfl, hbn⟩
        have hI := Lib.hid (hI.out.step hbn)
        clear hbn c0 c1 c2
        have c0 := hI.out.g2.c 0 _ rfl
        have c1 := hI.out.g2.c 1 _ rfl
        have c2 := hI.out.g2.c 2 _ rfl
        go_wp2_with fail
        refine (plain_any V d m _ hI.out.mb).mono ?_
        rintro e wn ⟨⟨b, rfl⟩, hbn⟩
        have hI := Lib.hid (hI.out.step hbn)
        clear hbn c0 c1 c2
        have c0 := hI.out.g2.c 0 _ rfl
        have c1 := hI.out.g2.c 1 _ rfl
        have c2 := hI.out.g2.c 2 _ rfl
        cases b
        · go_wp2_with fail
          go_ret
          exact ⟨rfl, hI.out.hb⟩
        go_wp2_with (first | refine wpGrd hI.out.g1 (.tmp 3) rfl ?_ | refine wpGrd (hI.out.g1.alloc _) (.tmp 3) rfl ?_)
        refine (GradeAt_any g V d m day _ hI.out.mb hI.out.tab).mono ?_
        rw [hga.out]
        rintro e wn ⟨rfl, hbn⟩
        have hI := Lib.hid (hI.out.step hbn)
        clear hbn c0 c1 c2
        have c0 := hI.out.g2.c 0 _ rfl
        have c1 := hI.out.g2.c 1 _ rfl
        have c2 := hI.out.g2.c 2 _ rfl
        go_wp2_with (first | refine wpGrd hI.out.g1 (.tmp 3) rfl ?_ | refine wpGrd (hI.out.g1.alloc _) (.tmp 3) rfl ?_)
        refine (NextVisit_any g V d m day _ hI.out.mb hI.out.tab).mono ?_
        rw [hnx.out]
        rintro e wn ⟨rfl, hbn⟩
        have hI := Lib.hid (hI.out.step hbn)
        clear hbn c0 c1 c2
        have c0 := hI.out.g2.c 0 _ rfl
        have c1 := hI.out.g2.c 1 _ rfl
        have c2 := hI.out.g2.c 2 _ rfl
        go_wp2_with fail
        refine wp_region_held_drew (S := (fun w' => w'.cell? ⟨w.heap.size + 1, 0, none⟩ = some (.string m.name) ∧ w'.cell? ⟨w.heap.size + 1, 1, none⟩ = some (.string m.place) ∧ w'.cell? ⟨w.heap.size + 1, 2, none⟩ = some (.slice V m.visits.length d))) (by kernel_rfl) ⟨c0, c1, c2⟩ (fun hHeld => ?_)
        (refine tkH 0 (v := ?_) ?_ ?_; rotate_left; focus (intro w' hSw; (try dsimp only at hSw); go_simp; (try with_reducible rfl)); (try simp only [Act.put, List.setIfInBounds_toArray, List.set_cons_zero, List.set_cons_succ]))
        (refine tkH 2 (v := ?_) ?_ ?_; rotate_left; focus (intro w' hSw; (try dsimp only at hSw); go_simp; (try with_reducible rfl)); (try simp only [Act.put, List.setIfInBounds_toArray, List.set_cons_zero, List.set_cons_succ]))
        (refine wpAnyH_ready (rs := [1]) (by decide +kernel) (by simp) ?_; refine AllReadyH.cons rfl (fun K hK => ?_) AllReadyH.nil; rw [if_pos (by kernel_rfl)]; go_simp)
        refine (CheckMonument_any V d m _ (hI.out.mb.below (Below.refl _ _).drew)).mono ?_
        rw [hmz.out]
        rintro e w5 ⟨rfl, hb5⟩
        have hbn := below_of_drewN (n := 1) hb5
        clear hb5
        have hI := Lib.hid (hI.out.step hbn)
        clear hbn c0 c1 c2
        have c0 := hI.out.g2.c 0 _ rfl
        have c1 := hI.out.g2.c 1 _ rfl
        have c2 := hI.out.g2.c 2 _ rfl
        go_simp
        (refine hK.out _ _ ⟨c0, c1, c2⟩ (fun hHeld => ?_); clear hK K; (try simp only [Act.put, List.setIfInBounds_toArray]); (try simp only [List.set_cons_zero, List.set_cons_succ]))
        (refine wpAnyH_ready (rs := [3]) (by decide +kernel) (by simp) ?_; refine AllReadyH.cons rfl (fun K hK => ?_) AllReadyH.nil; rw [if_pos (by kernel_rfl)]; go_simp)
        refine (CheckMonumentR_any V d m _ hI.out.mb).mono ?_
        rw [hmz.out]
        rintro e w6 ⟨rfl, hbn⟩
        have hI := Lib.hid (hI.out.step hbn)
        clear hbn c0 c1 c2
        have c0 := hI.out.g2.c 0 _ rfl
        have c1 := hI.out.g2.c 1 _ rfl
        have c2 := hI.out.g2.c 2 _ rfl
        go_simp
        (refine hK.out _ _ ⟨c0, c1, c2⟩ (fun hHeld => ?_); clear hK K; (try simp only [Act.put, List.setIfInBounds_toArray]); (try simp only [List.set_cons_zero, List.set_cons_succ]))
        (refine tkH 4 (v := ?_) ?_ ?_; rotate_left; focus (intro w' hSw; (try dsimp only at hSw); go_simp; (try with_reducible rfl)); (try simp only [Act.put, List.setIfInBounds_toArray, List.set_cons_zero, List.set_cons_succ]))
        refine wpAnyH_done (by kernel_rfl) ?_ _
        go_wp2_with (first | refine wpGrd hI.out.g1 (.tmp 3) rfl ?_ | refine wpGrd (hI.out.g1.alloc _) (.tmp 3) rfl ?_)
        refine (CheckGradingR_any g _).mono ?_
        rw [hgz.out]
        rintro e wn ⟨rfl, hbn⟩
        have hI := Lib.hid (hI.out.step hbn)
        clear hbn c0 c1 c2
        have c0 := hI.out.g2.c 0 _ rfl
        have c1 := hI.out.g2.c 1 _ rfl
        have c2 := hI.out.g2.c 2 _ rfl
        go_wp2_with first | (go_at_call 60; first | refine rin ?_ | refine rout ?_ | refine rany ?_) | ((first | (go_at_call 86) | (go_at_call 41) | (go_at_call 74) | (go_at_call 28) | (go_at_call 109) | (fail) | (fail)); first | refine rin ?_ | refine rout ?_ | refine rany ?_)
        refine (CheckMonumentR_any V d m _ hI.out.mb).mono ?_
        rw [hmz.out]
        rintro e wn ⟨rfl, hbn⟩
        have hI := Lib.hid (hI.out.step hbn)
        clear hbn c0 c1 c2
        have c0 := hI.out.g2.c 0 _ rfl
        have c1 := hI.out.g2.c 1 _ rfl
        have c2 := hI.out.g2.c 2 _ rfl
        go_wp2_with first | (go_at_call 60; first | refine rin ?_ | refine rout ?_ | refine rany ?_) | ((first | (go_at_call 86) | (go_at_call 41) | (go_at_call 74) | (go_at_call 28) | (go_at_call 109) | (fail) | (fail)); first | refine rin ?_ | refine rout ?_ | refine rany ?_)
        go_ret
        exact ⟨by first | rfl | simp, hI.out.hb⟩
    · have hb0 : Cal.byErr g m day = F := Cal.by_bad (by unfold Cal.byErr0; rw [if_pos hE, if_neg (by rw [hF]; exact h1), hF]) h1
      have hga : Hid (Cal.gradeAtS g m day = (0, F)) := Cal.gradeAt_bad hb0 h1
      have hnx : Hid (Cal.nextS g m day = (0, F)) := Cal.next_bad hb0 h1
      have hF1 : (F != 0) = true := by simpa using h1
      have hF2 : (F == 0) = false := by simpa using h1
      have hF3 : (F == F) = true := by simp
      clear hb0 hE hF h1
      have c0 := hI.out.g2.c 0 _ rfl
      have c1 := hI.out.g2.c 1 _ rfl
      have c2 := hI.out.g2.c 2 _ rfl
      go_enter Tryz.func12, Tryz.ntmps12
      go_wp2_with fail
      refine (nawake_any _ hI.out.tab).mono ?_
      rintro e wn ⟨rfl, hbn⟩
      have hI := Lib.hid (hI.out.step hbn)
      clear hbn c0 c1 c2
      have c0 := hI.out.g2.c 0 _ rfl
      have c1 := hI.out.g2.c 1 _ rfl
      have c2 := hI.out.g2.c 2 _ rfl
      go_wp2_with fail
      refine (plain_any V d m _ hI.out.mb).mono ?_
      rintro e wn ⟨⟨b, rfl⟩, hbn⟩
      have hI := Lib.hid (hI.out.step hbn)
      clear hbn c0 c1 c2
      have c0 := hI.out.g2.c 0 _ rfl
      have c1 := hI.out.g2.c 1 _ rfl
      have c2 := hI.out.g2.c 2 _ rfl
      cases b
      · go_wp2_with fail
        go_ret
        exact ⟨rfl, hI.out.hb⟩
      go_wp2_with (first | refine wpGrd hI.out.g1 (.tmp 3) rfl ?_ | refine wpGrd (hI.out.g1.alloc _) (.tmp 3) rfl ?_)
      refine (GradeAt_any g V d m day _ hI.out.mb hI.out.tab).mono ?_
      rw [hga.out]
      rintro e wn ⟨rfl, hbn⟩
      have hI := Lib.hid (hI.out.step hbn)
      clear hbn c0 c1 c2
      have c0 := hI.out.g2.c 0 _ rfl
      have c1 := hI.out.g2.c 1 _ rfl
      have c2 := hI.out.g2.c 2 _ rfl
      go_wp2_with (first | refine wpGrd hI.out.g1 (.tmp 3) rfl ?_ | refine wpGrd (hI.out.g1.alloc _) (.tmp 3) rfl ?_)
      refine (NextVisit_any g V d m day _ hI.out.mb hI.out.tab).mono ?_
      rw [hnx.out]
      rintro e wn ⟨rfl, hbn⟩
      have hI := Lib.hid (hI.out.step hbn)
      clear hbn c0 c1 c2
      have c0 := hI.out.g2.c 0 _ rfl
      have c1 := hI.out.g2.c 1 _ rfl
      have c2 := hI.out.g2.c 2 _ rfl
      go_wp2_with fail
      refine wp_region_held_drew (S := (fun w' => w'.cell? ⟨w.heap.size + 1, 0, none⟩ = some (.string m.name) ∧ w'.cell? ⟨w.heap.size + 1, 1, none⟩ = some (.string m.place) ∧ w'.cell? ⟨w.heap.size + 1, 2, none⟩ = some (.slice V m.visits.length d))) (by kernel_rfl) ⟨c0, c1, c2⟩ (fun hHeld => ?_)
      (refine tkH 0 (v := ?_) ?_ ?_; rotate_left; focus (intro w' hSw; (try dsimp only at hSw); go_simp; (try with_reducible rfl)); (try simp only [Act.put, List.setIfInBounds_toArray, List.set_cons_zero, List.set_cons_succ]))
      (refine tkH 2 (v := ?_) ?_ ?_; rotate_left; focus (intro w' hSw; (try dsimp only at hSw); go_simp; (try with_reducible rfl)); (try simp only [Act.put, List.setIfInBounds_toArray, List.set_cons_zero, List.set_cons_succ]))
      (refine wpAnyH_ready (rs := [1]) (by decide +kernel) (by simp) ?_; refine AllReadyH.cons rfl (fun K hK => ?_) AllReadyH.nil; rw [if_pos (by kernel_rfl)]; go_simp)
      refine (CheckMonument_any V d m _ (hI.out.mb.below (Below.refl _ _).drew)).mono ?_
      rw [hmz.out]
      rintro e w5 ⟨rfl, hb5⟩
      have hbn := below_of_drewN (n := 1) hb5
      clear hb5
      have hI := Lib.hid (hI.out.step hbn)
      clear hbn c0 c1 c2
      have c0 := hI.out.g2.c 0 _ rfl
      have c1 := hI.out.g2.c 1 _ rfl
      have c2 := hI.out.g2.c 2 _ rfl
      go_simp
      (refine hK.out _ _ ⟨c0, c1, c2⟩ (fun hHeld => ?_); clear hK K; (try simp only [Act.put, List.setIfInBounds_toArray]); (try simp only [List.set_cons_zero, List.set_cons_succ]))
      (refine wpAnyH_ready (rs := [3]) (by decide +kernel) (by simp) ?_; refine AllReadyH.cons rfl (fun K hK => ?_) AllReadyH.nil; rw [if_pos (by kernel_rfl)]; go_simp)
      refine (CheckMonumentR_any V d m _ hI.out.mb).mono ?_
      rw [hmz.out]
      rintro e w6 ⟨rfl, hbn⟩
      have hI := Lib.hid (hI.out.step hbn)
      clear hbn c0 c1 c2
      have c0 := hI.out.g2.c 0 _ rfl
      have c1 := hI.out.g2.c 1 _ rfl
      have c2 := hI.out.g2.c 2 _ rfl
      go_simp
      (refine hK.out _ _ ⟨c0, c1, c2⟩ (fun hHeld => ?_); clear hK K; (try simp only [Act.put, List.setIfInBounds_toArray]); (try simp only [List.set_cons_zero, List.set_cons_succ]))
      (refine tkH 4 (v := ?_) ?_ ?_; rotate_left; focus (intro w' hSw; (try dsimp only at hSw); go_simp; (try with_reducible rfl)); (try simp only [Act.put, List.setIfInBounds_toArray, List.set_cons_zero, List.set_cons_succ]))
      refine wpAnyH_done (by kernel_rfl) ?_ _
      go_wp2_with (first | refine wpGrd hI.out.g1 (.tmp 3) rfl ?_ | refine wpGrd (hI.out.g1.alloc _) (.tmp 3) rfl ?_)
      refine (CheckGradingR_any g _).mono ?_
      rw [hgz.out]
      rintro e wn ⟨rfl, hbn⟩
      have hI := Lib.hid (hI.out.step hbn)
      clear hbn c0 c1 c2
      have c0 := hI.out.g2.c 0 _ rfl
      have c1 := hI.out.g2.c 1 _ rfl
      have c2 := hI.out.g2.c 2 _ rfl
      go_wp2_with first | (go_at_call 60; first | refine rin ?_ | refine rout ?_ | refine rany ?_) | ((first | (go_at_call 86) | (go_at_call 41) | (go_at_call 74) | (go_at_call 28) | (go_at_call 109) | (fail) | (fail)); first | refine rin ?_ | refine rout ?_ | refine rany ?_)
      refine (CheckMonumentR_any V d m _ hI.out.mb).mono ?_
      rw [hmz.out]
      rintro e wn ⟨rfl, hbn⟩
      have hI := Lib.hid (hI.out.step hbn)
      clear hbn c0 c1 c2
      have c0 := hI.out.g2.c 0 _ rfl
      have c1 := hI.out.g2.c 1 _ rfl
      have c2 := hI.out.g2.c 2 _ rfl
      go_wp2_with first | (go_at_call 60; first | refine rin ?_ | refine rout ?_ | refine rany ?_) | ((first | (go_at_call 86) | (go_at_call 41) | (go_at_call 74) | (go_at_call 28) | (go_at_call 109) | (fail) | (fail)); first | refine rin ?_ | refine rout ?_ | refine rany ?_)
      go_ret
      exact ⟨by first | rfl | simp, hI.out.hb⟩
  · have hb0 : Cal.byErr g m day = E := Cal.by_bad (by unfold Cal.byErr0; rw [if_neg (by rw [hE]; exact h0), hE]) h0
    have hga : Hid (Cal.gradeAtS g m day = (0, E)) := Cal.gradeAt_bad hb0 h0
    have hnx : Hid (Cal.nextS g m day = (0, E)) := Cal.next_bad hb0 h0
    have hE1 : (E != 0) = true := by simpa using h0
    have hE2 : (E == 0) = false := by simpa using h0
    have hE3 : (E == E) = true := by simp
    clear hb0 hE hF h0
    have c0 := hI.out.g2.c 0 _ rfl
    have c1 := hI.out.g2.c 1 _ rfl
    have c2 := hI.out.g2.c 2 _ rfl
    go_enter Tryz.func12, Tryz.ntmps12
    go_wp2_with fail
    refine (nawake_any _ hI.out.tab).mono ?_
    rintro e wn ⟨rfl, hbn⟩
    have hI := Lib.hid (hI.out.step hbn)
    clear hbn c0 c1 c2
    have c0 := hI.out.g2.c 0 _ rfl
    have c1 := hI.out.g2.c 1 _ rfl
    have c2 := hI.out.g2.c 2 _ rfl
    go_wp2_with fail
    refine (plain_any V d m _ hI.out.mb).mono ?_
    rintro e wn ⟨⟨b, rfl⟩, hbn⟩
    have hI := Lib.hid (hI.out.step hbn)
    clear hbn c0 c1 c2
    have c0 := hI.out.g2.c 0 _ rfl
    have c1 := hI.out.g2.c 1 _ rfl
    have c2 := hI.out.g2.c 2 _ rfl
    cases b
    · go_wp2_with fail
      go_ret
      exact ⟨rfl, hI.out.hb⟩
    go_wp2_with (first | refine wpGrd hI.out.g1 (.tmp 3) rfl ?_ | refine wpGrd (hI.out.g1.alloc _) (.tmp 3) rfl ?_)
    refine (GradeAt_any g V d m day _ hI.out.mb hI.out.tab).mono ?_
    rw [hga.out]
    rintro e wn ⟨rfl, hbn⟩
    have hI := Lib.hid (hI.out.step hbn)
    clear hbn c0 c1 c2
    have c0 := hI.out.g2.c 0 _ rfl
    have c1 := hI.out.g2.c 1 _ rfl
    have c2 := hI.out.g2.c 2 _ rfl
    go_wp2_with (first | refine wpGrd hI.out.g1 (.tmp 3) rfl ?_ | refine wpGrd (hI.out.g1.alloc _) (.tmp 3) rfl ?_)
    refine (NextVisit_any g V d m day _ hI.out.mb hI.out.tab).mono ?_
    rw [hnx.out]
    rintro e wn ⟨rfl, hbn⟩
    have hI := Lib.hid (hI.out.step hbn)
    clear hbn c0 c1 c2
    have c0 := hI.out.g2.c 0 _ rfl
    have c1 := hI.out.g2.c 1 _ rfl
    have c2 := hI.out.g2.c 2 _ rfl
    go_wp2_with fail
    refine wp_region_held_drew (S := (fun w' => w'.cell? ⟨w.heap.size + 1, 0, none⟩ = some (.string m.name) ∧ w'.cell? ⟨w.heap.size + 1, 1, none⟩ = some (.string m.place) ∧ w'.cell? ⟨w.heap.size + 1, 2, none⟩ = some (.slice V m.visits.length d))) (by kernel_rfl) ⟨c0, c1, c2⟩ (fun hHeld => ?_)
    (refine tkH 0 (v := ?_) ?_ ?_; rotate_left; focus (intro w' hSw; (try dsimp only at hSw); go_simp; (try with_reducible rfl)); (try simp only [Act.put, List.setIfInBounds_toArray, List.set_cons_zero, List.set_cons_succ]))
    (refine tkH 2 (v := ?_) ?_ ?_; rotate_left; focus (intro w' hSw; (try dsimp only at hSw); go_simp; (try with_reducible rfl)); (try simp only [Act.put, List.setIfInBounds_toArray, List.set_cons_zero, List.set_cons_succ]))
    (refine wpAnyH_ready (rs := [1]) (by decide +kernel) (by simp) ?_; refine AllReadyH.cons rfl (fun K hK => ?_) AllReadyH.nil; rw [if_pos (by kernel_rfl)]; go_simp)
    refine (CheckMonument_any V d m _ (hI.out.mb.below (Below.refl _ _).drew)).mono ?_
    rw [hmz.out]
    rintro e w5 ⟨rfl, hb5⟩
    have hbn := below_of_drewN (n := 1) hb5
    clear hb5
    have hI := Lib.hid (hI.out.step hbn)
    clear hbn c0 c1 c2
    have c0 := hI.out.g2.c 0 _ rfl
    have c1 := hI.out.g2.c 1 _ rfl
    have c2 := hI.out.g2.c 2 _ rfl
    go_simp
    (refine hK.out _ _ ⟨c0, c1, c2⟩ (fun hHeld => ?_); clear hK K; (try simp only [Act.put, List.setIfInBounds_toArray]); (try simp only [List.set_cons_zero, List.set_cons_succ]))
    (refine wpAnyH_ready (rs := [3]) (by decide +kernel) (by simp) ?_; refine AllReadyH.cons rfl (fun K hK => ?_) AllReadyH.nil; rw [if_pos (by kernel_rfl)]; go_simp)
    refine (CheckMonumentR_any V d m _ hI.out.mb).mono ?_
    rw [hmz.out]
    rintro e w6 ⟨rfl, hbn⟩
    have hI := Lib.hid (hI.out.step hbn)
    clear hbn c0 c1 c2
    have c0 := hI.out.g2.c 0 _ rfl
    have c1 := hI.out.g2.c 1 _ rfl
    have c2 := hI.out.g2.c 2 _ rfl
    go_simp
    (refine hK.out _ _ ⟨c0, c1, c2⟩ (fun hHeld => ?_); clear hK K; (try simp only [Act.put, List.setIfInBounds_toArray]); (try simp only [List.set_cons_zero, List.set_cons_succ]))
    (refine tkH 4 (v := ?_) ?_ ?_; rotate_left; focus (intro w' hSw; (try dsimp only at hSw); go_simp; (try with_reducible rfl)); (try simp only [Act.put, List.setIfInBounds_toArray, List.set_cons_zero, List.set_cons_succ]))
    refine wpAnyH_done (by kernel_rfl) ?_ _
    go_wp2_with (first | refine wpGrd hI.out.g1 (.tmp 3) rfl ?_ | refine wpGrd (hI.out.g1.alloc _) (.tmp 3) rfl ?_)
    refine (CheckGradingR_any g _).mono ?_
    rw [hgz.out]
    rintro e wn ⟨rfl, hbn⟩
    have hI := Lib.hid (hI.out.step hbn)
    clear hbn c0 c1 c2
    have c0 := hI.out.g2.c 0 _ rfl
    have c1 := hI.out.g2.c 1 _ rfl
    have c2 := hI.out.g2.c 2 _ rfl
    go_wp2_with first | (go_at_call 60; first | refine rin ?_ | refine rout ?_ | refine rany ?_) | ((first | (go_at_call 86) | (go_at_call 41) | (go_at_call 74) | (go_at_call 28) | (go_at_call 109) | (fail) | (fail)); first | refine rin ?_ | refine rout ?_ | refine rany ?_)
    go_ret
    exact ⟨by first | rfl | simp, hI.out.hb⟩
end Go.Proofs.YtconnjkkgaapbaaGreatDoor
