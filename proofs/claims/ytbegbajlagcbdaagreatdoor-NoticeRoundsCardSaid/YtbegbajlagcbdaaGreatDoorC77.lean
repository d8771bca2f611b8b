/- Chapter 8 and what it rests on: definitions and walks, part 77. -/
import Derived.Test.YtbegbajlagcbdaaGreatDoorC76
import Derived.Test.YtbegbajlagcbdaaGreatDoorC73
namespace Go.Proofs.YtbegbajlagcbdaaGreatDoor
open Go Go.RowKit
/-- An operation behind a guard that does not let it. -/
theorem tkN {P : Program} {ops : Array Oper} {Q : Exit → Act → World → Prop} {md : Region.Mode} {S : World → Prop} (i : Nat) {oi : Oper} {fuel : Nat} {listed : Array Bool} {a : Act} {w : World}
    (h : wpAnyH P md ops Q S fuel (listed.setIfInBounds i true) (a.put oi.dst undef) w)
    (hi : ops[i]? = some oi := by exact rfl) (hs : Region.noSelect ops = true := by kernel_rfl) (hf : Region.free md ops listed i = true := by decide +kernel) (hr : (Region.ready md ops listed).contains i = true := by decide +kernel)
    (hQ : ∀ c a w, Q (.panic c) (a.put oi.dst undef) w → Q (.panic c) a w := by exact fun _ _ _ h => h) (hw : Region.wanted oi (yielded ops a.tmps) = false := by kernel_rfl) (hS : S w := by assumption) : wpAnyH P md ops Q S (fuel + 1) listed a w :=
  wpAnyH_take hi hs hf hr hQ (Or.inr ⟨hw, rfl⟩) hS h
/-- The turn of a monument on a day, and whether it has one. -/
def Cal.turnS (g : Grad) (m : Mon) (number day : Int) : Turn × Bool := match Cal.lastV day m.visits with
  | none => (⟨4, 0, number⟩, true)
  | some v => (⟨Cal.gradeS g v, (Cal.dueS g v).1, number⟩, decide (v.kind ≠ 2) && (decide ((Cal.dueS g v).2 = 0) && decide ((Cal.dueS g v).1 ≤ day)))
structure TuB (w : World) (g : Grad) (V : Option Addr) (d : Nat) (m : Mon) (wr : World) : Prop where
  hb : Below w.heap.size w wr
  g1 : BoxAt wr w.heap.size [.int .i64 g.t0, .int .i64 g.t1, .int .i64 g.t2, .int .i64 g.p0, .int .i64 g.p1, .int .i64 g.p2, .int .i64 g.m0, .int .i64 g.m1, .int .i64 g.m2, .int .i64 g.m3]
  g2 : BoxAt wr (w.heap.size + 1) [.string m.name, .string m.place, .slice V m.visits.length d]
  g3 : BoxAt wr (w.heap.size + 1 + 1) [.int .i64 0, .int .i64 0, .int .i64 0]
  tab : Tab wr
  mon : MB wr V m
theorem TuB.step {w : World} {g : Grad} {V : Option Addr} {d : Nat} {m : Mon} {wr w' : World} (h : TuB w g V d m wr) (hb : Below wr.heap.size wr w') : TuB w g V d m w' :=
  ⟨below_step h.hb hb, h.g1.below hb, h.g2.below hb, h.g3.below hb, h.tab.below hb, h.mon.below hb⟩
theorem start3t (w : World) (g : Grad) (V : Option Addr) (d : Nat) (m : Mon) (hM : MB w V m) (hT : Tab w) : TuB w g V d m (((w.alloc (.cells #[.int .i64 g.t0, .int .i64 g.t1, .int .i64 g.t2, .int .i64 g.p0, .int .i64 g.p1, .int .i64 g.p2, .int .i64 g.m0, .int .i64 g.m1, .int .i64 g.m2, .int .i64 g.m3] 25)).alloc (.cells #[.string m.name, .string m.place, .slice V m.visits.length d] 31)).alloc (.cells #[.int .i64 0, .int .i64 0, .int .i64 0] 120)) := by
  have h2 := (BoxAt.new (w.alloc (.cells #[.int .i64 g.t0, .int .i64 g.t1, .int .i64 g.t2, .int .i64 g.p0, .int .i64 g.p1, .int .i64 g.p2, .int .i64 g.m0, .int .i64 g.m1, .int .i64 g.m2, .int .i64 g.m3] 25)) #[.string m.name, .string m.place, .slice V m.visits.length d] 31).alloc (.cells #[.int .i64 0, .int .i64 0, .int .i64 0] 120)
  have h3 := BoxAt.new ((w.alloc (.cells #[.int .i64 g.t0, .int .i64 g.t1, .int .i64 g.t2, .int .i64 g.p0, .int .i64 g.p1, .int .i64 g.p2, .int .i64 g.m0, .int .i64 g.m1, .int .i64 g.m2, .int .i64 g.m3] 25)).alloc (.cells #[.string m.name, .string m.place, .slice V m.visits.length d] 31)) #[.int .i64 0, .int .i64 0, .int .i64 0] 120
  simp only [World.size_alloc] at h2 h3
  have hb : Below w.heap.size w (((w.alloc (.cells #[.int .i64 g.t0, .int .i64 g.t1, .int .i64 g.t2, .int .i64 g.p0, .int .i64 g.p1, .int .i64 g.p2, .int .i64 g.m0, .int .i64 g.m1, .int .i64 g.m2, .int .i64 g.m3] 25)).alloc (.cells #[.string m.name, .string m.place, .slice V m.visits.length d] 31)).alloc (.cells #[.int .i64 0, .int .i64 0, .int .i64 0] 120)) := below_step (below_step (below_alloc _ _) (below_alloc _ _)) (below_alloc _ _)
  exact ⟨hb, ((BoxAt.new w _ _).alloc _).alloc _, h2, h3, hT.below hb, hM.below hb⟩
def TurnPost (w : World) (r : Turn × Bool) (e : Ending) (w' : World) : Prop := e = .returned (.tuple #[.agg #[.int .i64 r.1.grade, .int .i64 r.1.day, .int .i64 r.1.number], .bool r.2]) ∧ Below w.heap.size w w'
set_option maxRecDepth 100000 in
set_option maxHeartbeats 4000000 in
theorem turnOf_any (g : Grad) (V : Option Addr) (d : Nat) (m : Mon) (number day : Int) (w : World) (hM : MB w V m) (hT : Tab w) :
    Calls Tryz.prog 55 #[.agg #[.int .i64 g.t0, .int .i64 g.t1, .int .i64 g.t2, .int .i64 g.p0, .int .i64 g.p1, .int .i64 g.p2, .int .i64 g.m0, .int .i64 g.m1, .int .i64 g.m2, .int .i64 g.m3], .agg #[.string m.name, .string m.place, .slice V m.visits.length d], .int .i64 number, .int .i64 day] w (TurnPost w (Cal.turnS g m number day)) := by
  cases hv : Cal.lastV day m.visits with
  | none =>
    have hvz := Lib.hid hv
    have hfin : Hid (Cal.turnS g m number day = (⟨4, 0, number⟩, true)) := by show _ = _; unfold Cal.turnS; rw [hv]
    clear hv
    have hI := Lib.hid (start3t w g V d m hM hT)
    clear hM hT
    have m0 := hI.out.g2.c 0 _ rfl
    have m1 := hI.out.g2.c 1 _ rfl
    have m2 := hI.out.g2.c 2 _ rfl
    go_enter Tryz.func55, Tryz.ntmps55
    go_wp2_with fail
    refine (lastVisit_any V d m day _ hI.out.mon).mono ?_
    rintro e w1 ⟨u, rfl, hu, hb1⟩
    clear m0 m1 m2
    rw [hvz.out] at hu
    clear hu
    have hz1 := hI.out.g3.lt
    have hI := Lib.hid (hI.out.step hb1)
    rw [hvz.out, show (none : Option Vis).isSome = false from rfl]
    have hI2 := Lib.hid (hI.out.step (below_alloc w1 (.cells #[.int .i64 u.day, .int .i64 u.kind, .int .i64 u.tilt, .int .i64 u.push] 106)))
    go_wp2_with (refine wpList_store_box rfl 120 (.tmp 8) (.tmp 23) rfl (w.heap.size + 1 + 1) _ [.int .i64 4, .int .i64 0, .int .i64 number] (by rfl) (by rfl) hI2.out.g3 rfl tnSize (by kernel_rfl) ?_; intro w4 h8 hg8)
    (try simp only [Exit.inBlock, Exit.then])
    refine bodyPost_ret (results_mid2 rfl _ _ (w.heap.size + 1 + 1) [.int .i64 4, .int .i64 0, .int .i64 number] _ rfl h8.range Tryz.underlying120 rfl tnSize) rfl ⟨by rw [hfin.out]; rfl, below_of_grownB hI2.out.hb hg8 (by omega)⟩
  | some u' =>
    have hvz := Lib.hid hv
    have hfin0 : Cal.turnS g m number day = (⟨Cal.gradeS g u', (Cal.dueS g u').1, number⟩, decide (u'.kind ≠ 2) && (decide ((Cal.dueS g u').2 = 0) && decide ((Cal.dueS g u').1 ≤ day))) := by unfold Cal.turnS; rw [hv]
    clear hv
    have hI := Lib.hid (start3t w g V d m hM hT)
    clear hM hT
    have m0 := hI.out.g2.c 0 _ rfl
    have m1 := hI.out.g2.c 1 _ rfl
    have m2 := hI.out.g2.c 2 _ rfl
    go_enter Tryz.func55, Tryz.ntmps55
    go_wp2_with fail
    refine (lastVisit_any V d m day _ hI.out.mon).mono ?_
    rintro e w1 ⟨u, rfl, hu, hb1⟩
    clear m0 m1 m2
    rw [hvz.out] at hu
    obtain rfl : u = u' := hu
    rw [hvz.out, show (some u).isSome = true from rfl]
    clear hvz
    have hz1 := hI.out.g3.lt
    have hz1 : w.heap.size + 1 + 1 < w1.heap.size := Nat.lt_of_lt_of_le hz1 hb1.size
    have hI := Lib.hid (hI.out.step hb1)
    have hV := Lib.hid (BoxAt.new w1 #[.int .i64 u.day, .int .i64 u.kind, .int .i64 u.tilt, .int .i64 u.push] 106)
    have hI := Lib.hid (hI.out.step (below_alloc w1 (.cells #[.int .i64 u.day, .int .i64 u.kind, .int .i64 u.tilt, .int .i64 u.push] 106)))
    have v0 := hV.out.c 0 _ rfl
    have v1 := hV.out.c 1 _ rfl
    have v2 := hV.out.c 2 _ rfl
    have v3 := hV.out.c 3 _ rfl
    clear hb1
    go_wp2_with (refine wpGrd hI.out.g1 (.tmp 4) rfl ?_)
    refine (due_any g u _ hI.out.tab).mono ?_
    rintro e w2 ⟨rfl, hb2⟩
    have hI := Lib.hid (hI.out.step hb2)
    have hV := Lib.hid (hV.out.below hb2)
    clear hb2 v0 v1 v2 v3
    by_cases hk : u.kind = 2
    · have hfin : Hid (Cal.turnS g m number day = (⟨Cal.gradeS g u, (Cal.dueS g u).1, number⟩, false)) := by show _ = _; rw [hfin0]; simp [hk]
      have hkb : (u.kind != 2) = false := by simpa using hk
      clear hk hfin0
      go_wp2_with fail
      have hdr : Below w2.heap.size w2 w2.drew := (Below.refl _ _).drew
      refine wp_region_held_drew (S := (fun w' => BoxAt w' w.heap.size [.int .i64 g.t0, .int .i64 g.t1, .int .i64 g.t2, .int .i64 g.p0, .int .i64 g.p1, .int .i64 g.p2, .int .i64 g.m0, .int .i64 g.m1, .int .i64 g.m2, .int .i64 g.m3] ∧ w'.cell? ⟨w1.heap.size, 0, none⟩ = some (.int .i64 u.day) ∧ w'.cell? ⟨w1.heap.size, 1, none⟩ = some (.int .i64 u.kind) ∧ w'.cell? ⟨w1.heap.size, 2, none⟩ = some (.int .i64 u.tilt) ∧ w'.cell? ⟨w1.heap.size, 3, none⟩ = some (.int .i64 u.push))) (by kernel_rfl) ⟨hI.out.g1.below hdr, hV.out.c 0 _ rfl, hV.out.c 1 _ rfl, hV.out.c 2 _ rfl, hV.out.c 3 _ rfl⟩ (fun hHeld => ?_)
      have hI := Lib.hid (hI.out.step hdr)
      have hV := Lib.hid (hV.out.below hdr)
      have hsz2 : w1.heap.size < w2.drew.heap.size := hV.out.lt
      clear hdr
      generalize w2.drew = w3 at *
      (refine wpAnyH_take (i := 0) (v := _) rfl (by kernel_rfl) (by decide +kernel) (by decide +kernel) (fun _ _ _ h => h) (yieldsIf_load_mid (by kernel_rfl) 25 _ rfl (w.heap.size) 0 (by kernel_rfl) [.int .i64 g.t0, .int .i64 g.t1, .int .i64 g.t2, .int .i64 g.p0, .int .i64 g.p1, .int .i64 g.p2, .int .i64 g.m0, .int .i64 g.m1, .int .i64 g.m2, .int .i64 g.m3] _ (fun _ h => h.1.range) Tryz.underlying25 rfl grSize) (by assumption) ?_; (try simp only [Act.put]); (try simp only [List.setIfInBounds_toArray]); (try simp only [List.set_cons_zero, List.set_cons_succ]))
      (refine tkH 1 (v := ?_) ?_ ?_; rotate_left; focus (intro w' hSw; (try dsimp only at hSw); go_simp; (try with_reducible rfl)); (try simp only [Act.put, List.setIfInBounds_toArray, List.set_cons_zero, List.set_cons_succ]))
      (refine tkH 3 (v := ?_) ?_ ?_; rotate_left; focus (intro w' hSw; (try dsimp only at hSw); go_simp; (try with_reducible rfl)); (try simp only [Act.put, List.setIfInBounds_toArray, List.set_cons_zero, List.set_cons_succ]))
      (refine tkH 4 (v := ?_) ?_ ?_; rotate_left; focus (intro w' hSw; (try dsimp only at hSw); go_simp; (try with_reducible rfl)); (try simp only [Act.put, List.setIfInBounds_toArray, List.set_cons_zero, List.set_cons_succ]))
      (refine tkH 6 (v := ?_) ?_ ?_; rotate_left; focus (intro w' hSw; (try dsimp only at hSw); go_simp; (try with_reducible rfl)); (try simp only [Act.put, List.setIfInBounds_toArray, List.set_cons_zero, List.set_cons_succ]))
      (refine tkH 7 (v := ?_) ?_ ?_; rotate_left; focus (intro w' hSw; (try dsimp only at hSw); go_simp; (try with_reducible rfl)); (try simp only [Act.put, List.setIfInBounds_toArray, List.set_cons_zero, List.set_cons_succ]))
      (refine tkH 8 (v := ?_) ?_ ?_; rotate_left; focus (intro w' hSw; (try dsimp only at hSw); go_simp; (try with_reducible rfl)); (try simp only [Act.put, List.setIfInBounds_toArray, List.set_cons_zero, List.set_cons_succ]))
      (refine wpAnyH_ready (rs := [2]) (by decide +kernel) (by simp) ?_; refine AllReadyH.cons rfl (fun K hK => ?_) AllReadyH.nil; rw [if_pos (by kernel_rfl)]; go_simp)
      refine (grade_any g u _).mono ?_
      rintro e w5 ⟨rfl, hb5⟩
      have hI := Lib.hid (hI.out.step hb5)
      have hV := Lib.hid (hV.out.below hb5)
      clear hb5
      go_simp
      (refine hK.out _ _ ⟨hI.out.g1, hV.out.c 0 _ rfl, hV.out.c 1 _ rfl, hV.out.c 2 _ rfl, hV.out.c 3 _ rfl⟩ (fun hHeld => ?_); clear hK K; (try simp only [Act.put]); (try simp only [List.setIfInBounds_toArray]); (try simp only [List.set_cons_zero, List.set_cons_succ]))
      (refine tkH 9 (v := ?_) ?_ ?_; rotate_left; focus (intro w' hSw; (try dsimp only at hSw); go_simp; (try with_reducible rfl)); (try simp only [Act.put, List.setIfInBounds_toArray, List.set_cons_zero, List.set_cons_succ]))
      (refine tkN 10 ?_; (try simp only [Act.put]); (try simp only [List.setIfInBounds_toArray]); (try simp only [List.set_cons_zero, List.set_cons_succ]))
      (refine tkN 11 ?_; (try simp only [Act.put]); (try simp only [List.setIfInBounds_toArray]); (try simp only [List.set_cons_zero, List.set_cons_succ]))
      (refine tkH 12 (v := ?_) ?_ ?_; rotate_left; focus (intro w' hSw; (try dsimp only at hSw); go_simp; (try with_reducible rfl)); (try simp only [Act.put, List.setIfInBounds_toArray, List.set_cons_zero, List.set_cons_succ]))
      (refine tkH 13 (v := ?_) ?_ ?_; rotate_left; focus (intro w' hSw; (try dsimp only at hSw); go_simp; (try with_reducible rfl)); (try simp only [Act.put, List.setIfInBounds_toArray, List.set_cons_zero, List.set_cons_succ]))
      (refine tkN 14 ?_; (try simp only [Act.put]); (try simp only [List.setIfInBounds_toArray]); (try simp only [List.set_cons_zero, List.set_cons_succ]))
      (refine tkN 15 ?_; (try simp only [Act.put]); (try simp only [List.setIfInBounds_toArray]); (try simp only [List.set_cons_zero, List.set_cons_succ]))
      (refine tkN 16 ?_; (try simp only [Act.put]); (try simp only [List.setIfInBounds_toArray]); (try simp only [List.set_cons_zero, List.set_cons_succ]))
      (refine tkH 17 (v := ?_) ?_ ?_; rotate_left; focus (intro w' hSw; (try dsimp only at hSw); go_simp; (try with_reducible rfl)); (try simp only [Act.put, List.setIfInBounds_toArray, List.set_cons_zero, List.set_cons_succ]))
      (refine wpAnyH_ready (rs := [5]) (by decide +kernel) (by simp) ?_; refine AllReadyH.cons rfl (fun K hK => ?_) AllReadyH.nil; rw [if_pos (by kernel_rfl)]; go_simp)
      (refine hK.out _ _ ⟨hI.out.g1, hV.out.c 0 _ rfl, hV.out.c 1 _ rfl, hV.out.c 2 _ rfl, hV.out.c 3 _ rfl⟩ (fun hHeld => ?_); clear hK K; (try simp only [Act.put]); (try simp only [List.setIfInBounds_toArray]); (try simp only [List.set_cons_zero, List.set_cons_succ]))
      refine wpAnyH_ready (rs := [18]) (by decide +kernel) (by simp) ?_
      refine AllReadyH.cons rfl (fun K hK => ?_) AllReadyH.nil
      rw [if_pos (by kernel_rfl)]
      refine wp_store_mid 120 (.tmp 8) (.tmp 35) rfl (w.heap.size + 1 + 1) 0 #[.int .i64 (Cal.gradeS g u), .int .i64 (Cal.dueS g u).1, .int .i64 number] (by rfl) (by rfl) (by exact hI.out.g3.there) tnSize (by kernel_rfl) ?_
      have hg8 := grown_setCells (w.heap.size + 1 + 1) [.int .i64 (Cal.gradeS g u), .int .i64 (Cal.dueS g u).1, .int .i64 number] 0 w5
      have h8 := Lib.hid (hI.out.g3.put [.int .i64 (Cal.gradeS g u), .int .i64 (Cal.dueS g u).1, .int .i64 number] rfl)
      have hbf := Lib.hid (below_of_grownB hI.out.hb hg8 (by omega))
      have hg1 := Lib.hid (hI.out.g1.grown hg8 (by simp; omega))
      have hV := Lib.hid (hV.out.grown hg8 (by simp; omega))
      clear hg8 hI
      go_simp
      (refine hK.out _ _ ⟨hg1.out, hV.out.c 0 _ rfl, hV.out.c 1 _ rfl, hV.out.c 2 _ rfl, hV.out.c 3 _ rfl⟩ (fun hHeld => ?_); clear hK K; (try simp only [Act.put]); (try simp only [List.setIfInBounds_toArray]); (try simp only [List.set_cons_zero, List.set_cons_succ]))
      (refine wpAnyH_ready (rs := [19]) (by decide +kernel) (by simp) ?_; refine AllReadyH.cons rfl (fun K hK => ?_) AllReadyH.nil; rw [if_pos (by kernel_rfl)]; go_simp)
      (refine hK.out _ _ ⟨hg1.out, hV.out.c 0 _ rfl, hV.out.c 1 _ rfl, hV.out.c 2 _ rfl, hV.out.c 3 _ rfl⟩ (fun hHeld => ?_); clear hK K; (try simp only [Act.put]); (try simp only [List.setIfInBounds_toArray]); (try simp only [List.set_cons_zero, List.set_cons_succ]))
      refine wpAnyH_done (by kernel_rfl) ?_ _
      clear hHeld
      go_wp2_with fail
      (try simp only [Exit.inBlock, Exit.then])
      refine bodyPost_ret (results_mid2 rfl _ _ (w.heap.size + 1 + 1) [.int .i64 (Cal.gradeS g u), .int .i64 (Cal.dueS g u).1, .int .i64 number] _ rfl h8.out.range Tryz.underlying120 rfl tnSize) rfl ⟨by rw [hfin.out]; rfl, hbf.out⟩
    · have hkb : (u.kind != 2) = true := by simpa using hk
      by_cases he : (Cal.dueS g u).2 = 0
      · have heb : ((Cal.dueS g u).2 == 0) = true := by simpa using he
        by_cases hn : (Cal.dueS g u).1 ≤ day
        · have hfin : Hid (Cal.turnS g m number day = (⟨Cal.gradeS g u, (Cal.dueS g u).1, number⟩, true)) := by show _ = _; rw [hfin0]; simp [hk, he, hn]
          have hnb : decide ((Cal.dueS g u).1 ≤ day) = true := by simpa using hn
          clear hk hfin0 he hn
          go_wp2_with fail
          have hdr : Below w2.heap.size w2 w2.drew := (Below.refl _ _).drew
          refine wp_region_held_drew (S := (fun w' => BoxAt w' w.heap.size [.int .i64 g.t0, .int .i64 g.t1, .int .i64 g.t2, .int .i64 g.p0, .int .i64 g.p1, .int .i64 g.p2, .int .i64 g.m0, .int .i64 g.m1, .int .i64 g.m2, .int .i64 g.m3] ∧ w'.cell? ⟨w1.heap.size, 0, none⟩ = some (.int .i64 u.day) ∧ w'.cell? ⟨w1.heap.size, 1, none⟩ = some (.int .i64 u.kind) ∧ w'.cell? ⟨w1.heap.size, 2, none⟩ = some (.int .i64 u.tilt) ∧ w'.cell? ⟨w1.heap.size, 3, none⟩ = some (.int .i64 u.push))) (by kernel_rfl) ⟨hI.out.g1.below hdr, hV.out.c 0 _ rfl, hV.out.c 1 _ rfl, hV.out.c 2 _ rfl, hV.out.c 3 _ rfl⟩ (fun hHeld => ?_)
          have hI := Lib.hid (hI.out.step hdr)
          have hV := Lib.hid (hV.out.below hdr)
          have hsz2 : w1.heap.size < w2.drew.heap.size := hV.out.lt
          clear hdr
          generalize w2.drew = w3 at *
          (refine wpAnyH_take (i := 0) (v := _) rfl (by kernel_rfl) (by decide +kernel) (by decide +kernel) (fun _ _ _ h => h) (yieldsIf_load_mid (by kernel_rfl) 25 _ rfl (w.heap.size) 0 (by kernel_rfl) [.int .i64 g.t0, .int .i64 g.t1, .int .i64 g.t2, .int .i64 g.p0, .int .i64 g.p1, .int .i64 g.p2, .int .i64 g.m0, .int .i64 g.m1, .int .i64 g.m2, .int .i64 g.m3] _ (fun _ h => h.1.range) Tryz.underlying25 rfl grSize) (by assumption) ?_; (try simp only [Act.put]); (try simp only [List.setIfInBounds_toArray]); (try simp only [List.set_cons_zero, List.set_cons_succ]))
          (refine tkH 1 (v := ?_) ?_ ?_; rotate_left; focus (intro w' hSw; (try dsimp only at hSw); go_simp; (try with_reducible rfl)); (try simp only [Act.put, List.setIfInBounds_toArray, List.set_cons_zero, List.set_cons_succ]))
          (refine tkH 3 (v := ?_) ?_ ?_; rotate_left; focus (intro w' hSw; (try dsimp only at hSw); go_simp; (try with_reducible rfl)); (try simp only [Act.put, List.setIfInBounds_toArray, List.set_cons_zero, List.set_cons_succ]))
          (refine tkH 4 (v := ?_) ?_ ?_; rotate_left; focus (intro w' hSw; (try dsimp only at hSw); go_simp; (try with_reducible rfl)); (try simp only [Act.put, List.setIfInBounds_toArray, List.set_cons_zero, List.set_cons_succ]))
          (refine tkH 6 (v := ?_) ?_ ?_; rotate_left; focus (intro w' hSw; (try dsimp only at hSw); go_simp; (try with_reducible rfl)); (try simp only [Act.put, List.setIfInBounds_toArray, List.set_cons_zero, List.set_cons_succ]))
          (refine tkH 7 (v := ?_) ?_ ?_; rotate_left; focus (intro w' hSw; (try dsimp only at hSw); go_simp; (try with_reducible rfl)); (try simp only [Act.put, List.setIfInBounds_toArray, List.set_cons_zero, List.set_cons_succ]))
          (refine tkH 8 (v := ?_) ?_ ?_; rotate_left; focus (intro w' hSw; (try dsimp only at hSw); go_simp; (try with_reducible rfl)); (try simp only [Act.put, List.setIfInBounds_toArray, List.set_cons_zero, List.set_cons_succ]))
          (refine wpAnyH_ready (rs := [2]) (by decide +kernel) (by simp) ?_; refine AllReadyH.cons rfl (fun K hK => ?_) AllReadyH.nil; rw [if_pos (by kernel_rfl)]; go_simp)
          refine (grade_any g u _).mono ?_
          rintro e w5 ⟨rfl, hb5⟩
          have hI := Lib.hid (hI.out.step hb5)
          have hV := Lib.hid (hV.out.below hb5)
          clear hb5
          go_simp
          (refine hK.out _ _ ⟨hI.out.g1, hV.out.c 0 _ rfl, hV.out.c 1 _ rfl, hV.out.c 2 _ rfl, hV.out.c 3 _ rfl⟩ (fun hHeld => ?_); clear hK K; (try simp only [Act.put]); (try simp only [List.setIfInBounds_toArray]); (try simp only [List.set_cons_zero, List.set_cons_succ]))
          (refine tkH 9 (v := ?_) ?_ ?_; rotate_left; focus (intro w' hSw; (try dsimp only at hSw); go_simp; (try with_reducible rfl)); (try simp only [Act.put, List.setIfInBounds_toArray, List.set_cons_zero, List.set_cons_succ]))
          (refine tkH 10 (v := ?_) ?_ ?_; rotate_left; focus (intro w' hSw; (try dsimp only at hSw); go_simp; (try with_reducible rfl)); (try simp only [Act.put, List.setIfInBounds_toArray, List.set_cons_zero, List.set_cons_succ]))
          (refine tkH 11 (v := ?_) ?_ ?_; rotate_left; focus (intro w' hSw; (try dsimp only at hSw); go_simp; (try with_reducible rfl)); (try simp only [Act.put, List.setIfInBounds_toArray, List.set_cons_zero, List.set_cons_succ]))
          (refine tkH 12 (v := ?_) ?_ ?_; rotate_left; focus (intro w' hSw; (try dsimp only at hSw); go_simp; (try with_reducible rfl)); (try simp only [Act.put, List.setIfInBounds_toArray, List.set_cons_zero, List.set_cons_succ]))
          (refine tkH 13 (v := ?_) ?_ ?_; rotate_left; focus (intro w' hSw; (try dsimp only at hSw); go_simp; (try with_reducible rfl)); (try simp only [Act.put, List.setIfInBounds_toArray, List.set_cons_zero, List.set_cons_succ]))
          (refine tkH 14 (v := ?_) ?_ ?_; rotate_left; focus (intro w' hSw; (try dsimp only at hSw); go_simp; (try with_reducible rfl)); (try simp only [Act.put, List.setIfInBounds_toArray, List.set_cons_zero, List.set_cons_succ]))
          (refine tkH 15 (v := ?_) ?_ ?_; rotate_left; focus (intro w' hSw; (try dsimp only at hSw); go_simp; (try with_reducible rfl)); (try simp only [Act.put, List.setIfInBounds_toArray, List.set_cons_zero, List.set_cons_succ]))
          (refine tkH 16 (v := ?_) ?_ ?_; rotate_left; focus (intro w' hSw; (try dsimp only at hSw); go_simp; (try with_reducible rfl)); (try simp only [Act.put, List.setIfInBounds_toArray, List.set_cons_zero, List.set_cons_succ]))
          (refine tkH 17 (v := ?_) ?_ ?_; rotate_left; focus (intro w' hSw; (try dsimp only at hSw); go_simp; (try with_reducible rfl)); (try simp only [Act.put, List.setIfInBounds_toArray, List.set_cons_zero, List.set_cons_succ]))
          (refine wpAnyH_ready (rs := [5]) (by decide +kernel) (by simp) ?_; refine AllReadyH.cons rfl (fun K hK => ?_) AllReadyH.nil; rw [if_pos (by kernel_rfl)]; go_simp)
          (refine hK.out _ _ ⟨hI.out.g1, hV.out.c 0 _ rfl, hV.out.c 1 _ rfl, hV.out.c 2 _ rfl, hV.out.c 3 _ rfl⟩ (fun hHeld => ?_); clear hK K; (try simp only [Act.put]); (try simp only [List.setIfInBounds_toArray]); (try simp only [List.set_cons_zero, List.set_cons_succ]))
          refine wpAnyH_ready (rs := [18]) (by decide +kernel) (by simp) ?_
          refine AllReadyH.cons rfl (fun K hK => ?_) AllReadyH.nil
          rw [if_pos (by kernel_rfl)]
          refine wp_store_mid 120 (.tmp 8) (.tmp 35) rfl (w.heap.size + 1 + 1) 0 #[.int .i64 (Cal.gradeS g u), .int .i64 (Cal.dueS g u).1, .int .i64 number] (by rfl) (by rfl) (by exact hI.out.g3.there) tnSize (by kernel_rfl) ?_
          have hg8 := grown_setCells (w.heap.size + 1 + 1) [.int .i64 (Cal.gradeS g u), .int .i64 (Cal.dueS g u).1, .int .i64 number] 0 w5
          have h8 := Lib.hid (hI.out.g3.put [.int .i64 (Cal.gradeS g u), .int .i64 (Cal.dueS g u).1, .int .i64 number] rfl)
          have hbf := Lib.hid (below_of_grownB hI.out.hb hg8 (by omega))
          have hg1 := Lib.hid (hI.out.g1.grown hg8 (by simp; omega))
          have hV := Lib.hid (hV.out.grown hg8 (by simp; omega))
          clear hg8 hI
          go_simp
          (refine hK.out _ _ ⟨hg1.out, hV.out.c 0 _ rfl, hV.out.c 1 _ rfl, hV.out.c 2 _ rfl, hV.out.c 3 _ rfl⟩ (fun hHeld => ?_); clear hK K; (try simp only [Act.put]); (try simp only [List.setIfInBounds_toArray]); (try simp only [List.set_cons_zero, List.set_cons_succ]))
          (refine wpAnyH_ready (rs := [19]) (by decide +kernel) (by simp) ?_; refine AllReadyH.cons rfl (fun K hK => ?_) AllReadyH.nil; rw [if_pos (by kernel_rfl)]; go_simp)
          (refine hK.out _ _ ⟨hg1.out, hV.out.c 0 _ rfl, hV.out.c 1 _ rfl, hV.out.c 2 _ rfl, hV.out.c 3 _ rfl⟩ (fun hHeld => ?_); clear hK K; (try simp only [Act.put]); (try simp only [List.setIfInBounds_toArray]); (try simp only [List.set_cons_zero, List.set_cons_succ]))
          refine wpAnyH_done (by kernel_rfl) ?_ _
          clear hHeld
          go_wp2_with fail
          (try simp only [Exit.inBlock, Exit.then])
          refine bodyPost_ret (results_mid2 rfl _ _ (w.heap.size + 1 + 1) [.int .i64 (Cal.gradeS g u), .int .i64 (Cal.dueS g u).1, .int .i64 number] _ rfl h8.out.range Tryz.underlying120 rfl tnSize) rfl ⟨by rw [hfin.out]; rfl, hbf.out⟩
        · have hfin : Hid (Cal.turnS g m number day = (⟨Cal.gradeS g u, (Cal.dueS g u).1, number⟩, false)) := by show _ = _; rw [hfin0]; simp [hk, he, hn]
          have hnb : decide ((Cal.dueS g u).1 ≤ day) = false := by simpa using hn
          clear hk hfin0 he hn
          go_wp2_with fail
          have hdr : Below w2.heap.size w2 w2.drew := (Below.refl _ _).drew
          refine wp_region_held_drew (S := (fun w' => BoxAt w' w.heap.size [.int .i64 g.t0, .int .i64 g.t1, .int .i64 g.t2, .int .i64 g.p0, .int .i64 g.p1, .int .i64 g.p2, .int .i64 g.m0, .int .i64 g.m1, .int .i64 g.m2, .int .i64 g.m3] ∧ w'.cell? ⟨w1.heap.size, 0, none⟩ = some (.int .i64 u.day) ∧ w'.cell? ⟨w1.heap.size, 1, none⟩ = some (.int .i64 u.kind) ∧ w'.cell? ⟨w1.heap.size, 2, none⟩ = some (.int .i64 u.tilt) ∧ w'.cell? ⟨w1.heap.size, 3, none⟩ = some (.int .i64 u.push))) (by kernel_rfl) ⟨hI.out.g1.below hdr, hV.out.c 0 _ rfl, hV.out.c 1 _ rfl, hV.out.c 2 _ rfl, hV.out.c 3 _ rfl⟩ (fun hHeld => ?_)
          have hI := Lib.hid (hI.out.step hdr)
          have hV := Lib.hid (hV.out.below hdr)
          have hsz2 : w1.heap.size < w2.drew.heap.size := hV.out.lt
          clear hdr
          generalize w2.drew = w3 at *
          (refine wpAnyH_take (i := 0) (v := _) rfl (by kernel_rfl) (by decide +kernel) (by decide +kernel) (fun _ _ _ h => h) (yieldsIf_load_mid (by kernel_rfl) 25 _ rfl (w.heap.size) 0 (by kernel_rfl) [.int .i64 g.t0, .int .i64 g.t1, .int .i64 g.t2, .int .i64 g.p0, .int .i64 g.p1, .int .i64 g.p2, .int .i64 g.m0, .int .i64 g.m1, .int .i64 g.m2, .int .i64 g.m3] _ (fun _ h => h.1.range) Tryz.underlying25 rfl grSize) (by assumption) ?_; (try simp only [Act.put]); (try simp only [List.setIfInBounds_toArray]); (try simp only [List.set_cons_zero, List.set_cons_succ]))
          (refine tkH 1 (v := ?_) ?_ ?_; rotate_left; focus (intro w' hSw; (try dsimp only at hSw); go_simp; (try with_reducible rfl)); (try simp only [Act.put, List.setIfInBounds_toArray, List.set_cons_zero, List.set_cons_succ]))
          (refine tkH 3 (v := ?_) ?_ ?_; rotate_left; focus (intro w' hSw; (try dsimp only at hSw); go_simp; (try with_reducible rfl)); (try simp only [Act.put, List.setIfInBounds_toArray, List.set_cons_zero, List.set_cons_succ]))
          (refine tkH 4 (v := ?_) ?_ ?_; rotate_left; focus (intro w' hSw; (try dsimp only at hSw); go_simp; (try with_reducible rfl)); (try simp only [Act.put, List.setIfInBounds_toArray, List.set_cons_zero, List.set_cons_succ]))
          (refine tkH 6 (v := ?_) ?_ ?_; rotate_left; focus (intro w' hSw; (try dsimp only at hSw); go_simp; (try with_reducible rfl)); (try simp only [Act.put, List.setIfInBounds_toArray, List.set_cons_zero, List.set_cons_succ]))
          (refine tkH 7 (v := ?_) ?_ ?_; rotate_left; focus (intro w' hSw; (try dsimp only at hSw); go_simp; (try with_reducible rfl)); (try simp only [Act.put, List.setIfInBounds_toArray, List.set_cons_zero, List.set_cons_succ]))
          (refine tkH 8 (v := ?_) ?_ ?_; rotate_left; focus (intro w' hSw; (try dsimp only at hSw); go_simp; (try with_reducible rfl)); (try simp only [Act.put, List.setIfInBounds_toArray, List.set_cons_zero, List.set_cons_succ]))
          (refine wpAnyH_ready (rs := [2]) (by decide +kernel) (by simp) ?_; refine AllReadyH.cons rfl (fun K hK => ?_) AllReadyH.nil; rw [if_pos (by kernel_rfl)]; go_simp)
          refine (grade_any g u _).mono ?_
          rintro e w5 ⟨rfl, hb5⟩
          have hI := Lib.hid (hI.out.step hb5)
          have hV := Lib.hid (hV.out.below hb5)
          clear hb5
          go_simp
          (refine hK.out _ _ ⟨hI.out.g1, hV.out.c 0 _ rfl, hV.out.c 1 _ rfl, hV.out.c 2 _ rfl, hV.out.c 3 _ rfl⟩ (fun hHeld => ?_); clear hK K; (try simp only [Act.put]); (try simp only [List.setIfInBounds_toArray]); (try simp only [List.set_cons_zero, List.set_cons_succ]))
          (refine tkH 9 (v := ?_) ?_ ?_; rotate_left; focus (intro w' hSw; (try dsimp only at hSw); go_simp; (try with_reducible rfl)); (try simp only [Act.put, List.setIfInBounds_toArray, List.set_cons_zero, List.set_cons_succ]))
          (refine tkH 10 (v := ?_) ?_ ?_; rotate_left; focus (intro w' hSw; (try dsimp only at hSw); go_simp; (try with_reducible rfl)); (try simp only [Act.put, List.setIfInBounds_toArray, List.set_cons_zero, List.set_cons_succ]))
          (refine tkH 11 (v := ?_) ?_ ?_; rotate_left; focus (intro w' hSw; (try dsimp only at hSw); go_simp; (try with_reducible rfl)); (try simp only [Act.put, List.setIfInBounds_toArray, List.set_cons_zero, List.set_cons_succ]))
          (refine tkH 12 (v := ?_) ?_ ?_; rotate_left; focus (intro w' hSw; (try dsimp only at hSw); go_simp; (try with_reducible rfl)); (try simp only [Act.put, List.setIfInBounds_toArray, List.set_cons_zero, List.set_cons_succ]))
          (refine tkH 13 (v := ?_) ?_ ?_; rotate_left; focus (intro w' hSw; (try dsimp only at hSw); go_simp; (try with_reducible rfl)); (try simp only [Act.put, List.setIfInBounds_toArray, List.set_cons_zero, List.set_cons_succ]))
          (refine tkH 14 (v := ?_) ?_ ?_; rotate_left; focus (intro w' hSw; (try dsimp only at hSw); go_simp; (try with_reducible rfl)); (try simp only [Act.put, List.setIfInBounds_toArray, List.set_cons_zero, List.set_cons_succ]))
          (refine tkH 15 (v := ?_) ?_ ?_; rotate_left; focus (intro w' hSw; (try dsimp only at hSw); go_simp; (try with_reducible rfl)); (try simp only [Act.put, List.setIfInBounds_toArray, List.set_cons_zero, List.set_cons_succ]))
          (refine tkH 16 (v := ?_) ?_ ?_; rotate_left; focus (intro w' hSw; (try dsimp only at hSw); go_simp; (try with_reducible rfl)); (try simp only [Act.put, List.setIfInBounds_toArray, List.set_cons_zero, List.set_cons_succ]))
          (refine tkH 17 (v := ?_) ?_ ?_; rotate_left; focus (intro w' hSw; (try dsimp only at hSw); go_simp; (try with_reducible rfl)); (try simp only [Act.put, List.setIfInBounds_toArray, List.set_cons_zero, List.set_cons_succ]))
          (refine wpAnyH_ready (rs := [5]) (by decide +kernel) (by simp) ?_; refine AllReadyH.cons rfl (fun K hK => ?_) AllReadyH.nil; rw [if_pos (by kernel_rfl)]; go_simp)
          (refine hK.out _ _ ⟨hI.out.g1, hV.out.c 0 _ rfl, hV.out.c 1 _ rfl, hV.out.c 2 _ rfl, hV.out.c 3 _ rfl⟩ (fun hHeld => ?_); clear hK K; (try simp only [Act.put]); (try simp only [List.setIfInBounds_toArray]); (try simp only [List.set_cons_zero, List.set_cons_succ]))
          refine wpAnyH_ready (rs := [18]) (by decide +kernel) (by simp) ?_
          refine AllReadyH.cons rfl (fun K hK => ?_) AllReadyH.nil
          rw [if_pos (by kernel_rfl)]
          refine wp_store_mid 120 (.tmp 8) (.tmp 35) rfl (w.heap.size + 1 + 1) 0 #[.int .i64 (Cal.gradeS g u), .int .i64 (Cal.dueS g u).1, .int .i64 number] (by rfl) (by rfl) (by exact hI.out.g3.there) tnSize (by kernel_rfl) ?_
          have hg8 := grown_setCells (w.heap.size + 1 + 1) [.int .i64 (Cal.gradeS g u), .int .i64 (Cal.dueS g u).1, .int .i64 number] 0 w5
          have h8 := Lib.hid (hI.out.g3.put [.int .i64 (Cal.gradeS g u), .int .i64 (Cal.dueS g u).1, .int .i64 number] rfl)
          have hbf := Lib.hid (below_of_grownB hI.out.hb hg8 (by omega))
          have hg1 := Lib.hid (hI.out.g1.grown hg8 (by simp; omega))
          have hV := Lib.hid (hV.out.grown hg8 (by simp; omega))
          clear hg8 hI
          go_simp
          (refine hK.out _ _ ⟨hg1.out, hV.out.c 0 _ rfl, hV.out.c 1 _ rfl, hV.out.c 2 _ rfl, hV.out.c 3 _ rfl⟩ (fun hHeld => ?_); clear hK K; (try simp only [Act.put]); (try simp only [List.setIfInBounds_toArray]); (try simp only [List.set_cons_zero, List.set_cons_succ]))
          (refine wpAnyH_ready (rs := [19]) (by decide +kernel) (by simp) ?_; refine AllReadyH.cons rfl (fun K hK => ?_) AllReadyH.nil; rw [if_pos (by kernel_rfl)]; go_simp)
          (refine hK.out _ _ ⟨hg1.out, hV.out.c 0 _ rfl, hV.out.c 1 _ rfl, hV.out.c 2 _ rfl, hV.out.c 3 _ rfl⟩ (fun hHeld => ?_); clear hK K; (try simp only [Act.put]); (try simp only [List.setIfInBounds_toArray]); (try simp only [List.set_cons_zero, List.set_cons_succ]))
          refine wpAnyH_done (by kernel_rfl) ?_ _
          clear hHeld
          go_wp2_with fail
          (try simp only [Exit.inBlock, Exit.then])
          refine bodyPost_ret (results_mid2 rfl _ _ (w.heap.size + 1 + 1) [.int .i64 (Cal.gradeS g u), .int .i64 (Cal.dueS g u).1, .int .i64 number] _ rfl h8.out.range Tryz.underlying120 rfl tnSize) rfl ⟨by rw [hfin.out]; rfl, hbf.out⟩
      · have hfin : Hid (Cal.turnS g m number day = (⟨Cal.gradeS g u, (Cal.dueS g u).1, number⟩, false)) := by show _ = _; rw [hfin0]; simp [hk, he]
        have heb : ((Cal.dueS g u).2 == 0) = false := by simpa using he
        clear hk hfin0 he
        go_wp2_with fail
        have hdr : Below w2.heap.size w2 w2.drew := (Below.refl _ _).drew
        refine wp_region_held_drew (S := (fun w' => BoxAt w' w.heap.size [.int .i64 g.t0, .int .i64 g.t1, .int .i64 g.t2, .int .i64 g.p0, .int .i64 g.p1, .int .i64 g.p2, .int .i64 g.m0, .int .i64 g.m1, .int .i64 g.m2, .int .i64 g.m3] ∧ w'.cell? ⟨w1.heap.size, 0, none⟩ = some (.int .i64 u.day) ∧ w'.cell? ⟨w1.heap.size, 1, none⟩ = some (.int .i64 u.kind) ∧ w'.cell? ⟨w1.heap.size, 2, none⟩ = some (.int .i64 u.tilt) ∧ w'.cell? ⟨w1.heap.size, 3, none⟩ = some (.int .i64 u.push))) (by kernel_rfl) ⟨hI.out.g1.below hdr, hV.out.c 0 _ rfl, hV.out.c 1 _ rfl, hV.out.c 2 _ rfl, hV.out.c 3 _ rfl⟩ (fun hHeld => ?_)
        have hI := Lib.hid (hI.out.step hdr)
        have hV := Lib.hid (hV.out.below hdr)
        have hsz2 : w1.heap.size < w2.drew.heap.size := hV.out.lt
        clear hdr
        generalize w2.drew = w3 at *
        (refine wpAnyH_take (i := 0) (v := _) rfl (by kernel_rfl) (by decide +kernel) (by decide +kernel) (fun _ _ _ h => h) (yieldsIf_load_mid (by kernel_rfl) 25 _ rfl (w.heap.size) 0 (by kernel_rfl) [.int .i64 g.t0, .int .i64 g.t1, .int .i64 g.t2, .int .i64 g.p0, .int .i64 g.p1, .int .i64 g.p2, .int .i64 g.m0, .int .i64 g.m1, .int .i64 g.m2, .int .i64 g.m3] _ (fun _ h => h.1.range) Tryz.underlying25 rfl grSize) (by assumption) ?_; (try simp only [Act.put]); (try simp only [List.setIfInBounds_toArray]); (try simp only [List.set_cons_zero, List.set_cons_succ]))
        (refine tkH 1 (v := ?_) ?_ ?_; rotate_left; focus (intro w' hSw; (try dsimp only at hSw); go_simp; (try with_reducible rfl)); (try simp only [Act.put, List.setIfInBounds_toArray, List.set_cons_zero, List.set_cons_succ]))
        (refine tkH 3 (v := ?_) ?_ ?_; rotate_left; focus (intro w' hSw; (try dsimp only at hSw); go_simp; (try with_reducible rfl)); (try simp only [Act.put, List.setIfInBounds_toArray, List.set_cons_zero, List.set_cons_succ]))
        (refine tkH 4 (v := ?_) ?_ ?_; rotate_left; focus (intro w' hSw; (try dsimp only at hSw); go_simp; (try with_reducible rfl)); (try simp only [Act.put, List.setIfInBounds_toArray, List.set_cons_zero, List.set_cons_succ]))
        (refine tkH 6 (v := ?_) ?_ ?_; rotate_left; focus (intro w' hSw; (try dsimp only at hSw); go_simp; (try with_reducible rfl)); (try simp only [Act.put, List.setIfInBounds_toArray, List.set_cons_zero, List.set_cons_succ]))
        (refine tkH 7 (v := ?_) ?_ ?_; rotate_left; focus (intro w' hSw; (try dsimp only at hSw); go_simp; (try with_reducible rfl)); (try simp only [Act.put, List.setIfInBounds_toArray, List.set_cons_zero, List.set_cons_succ]))
        (refine tkH 8 (v := ?_) ?_ ?_; rotate_left; focus (intro w' hSw; (try dsimp only at hSw); go_simp; (try with_reducible rfl)); (try simp only [Act.put, List.setIfInBounds_toArray, List.set_cons_zero, List.set_cons_succ]))
        (refine wpAnyH_ready (rs := [2]) (by decide +kernel) (by simp) ?_; refine AllReadyH.cons rfl (fun K hK => ?_) AllReadyH.nil; rw [if_pos (by kernel_rfl)]; go_simp)
        refine (grade_any g u _).mono ?_
        rintro e w5 ⟨rfl, hb5⟩
        have hI := Lib.hid (hI.out.step hb5)
        have hV := Lib.hid (hV.out.below hb5)
        clear hb5
        go_simp
        (refine hK.out _ _ ⟨hI.out.g1, hV.out.c 0 _ rfl, hV.out.c 1 _ rfl, hV.out.c 2 _ rfl, hV.out.c 3 _ rfl⟩ (fun hHeld => ?_); clear hK K; (try simp only [Act.put]); (try simp only [List.setIfInBounds_toArray]); (try simp only [List.set_cons_zero, List.set_cons_succ]))
        (refine tkH 9 (v := ?_) ?_ ?_; rotate_left; focus (intro w' hSw; (try dsimp only at hSw); go_simp; (try with_reducible rfl)); (try simp only [Act.put, List.setIfInBounds_toArray, List.set_cons_zero, List.set_cons_succ]))
        (refine tkH 10 (v := ?_) ?_ ?_; rotate_left; focus (intro w' hSw; (try dsimp only at hSw); go_simp; (try with_reducible rfl)); (try simp only [Act.put, List.setIfInBounds_toArray, List.set_cons_zero, List.set_cons_succ]))
        (refine tkH 11 (v := ?_) ?_ ?_; rotate_left; focus (intro w' hSw; (try dsimp only at hSw); go_simp; (try with_reducible rfl)); (try simp only [Act.put, List.setIfInBounds_toArray, List.set_cons_zero, List.set_cons_succ]))
        (refine tkH 12 (v := ?_) ?_ ?_; rotate_left; focus (intro w' hSw; (try dsimp only at hSw); go_simp; (try with_reducible rfl)); (try simp only [Act.put, List.setIfInBounds_toArray, List.set_cons_zero, List.set_cons_succ]))
        (refine tkH 13 (v := ?_) ?_ ?_; rotate_left; focus (intro w' hSw; (try dsimp only at hSw); go_simp; (try with_reducible rfl)); (try simp only [Act.put, List.setIfInBounds_toArray, List.set_cons_zero, List.set_cons_succ]))
        (refine tkN 14 ?_; (try simp only [Act.put]); (try simp only [List.setIfInBounds_toArray]); (try simp only [List.set_cons_zero, List.set_cons_succ]))
        (refine tkN 15 ?_; (try simp only [Act.put]); (try simp only [List.setIfInBounds_toArray]); (try simp only [List.set_cons_zero, List.set_cons_succ]))
        (refine tkN 16 ?_; (try simp only [Act.put]); (try simp only [List.setIfInBounds_toArray]); (try simp only [List.set_cons_zero, List.set_cons_succ]))
        (refine tkH 17 (v := ?_) ?_ ?_; rotate_left; focus (intro w' hSw; (try dsimp only at hSw); go_simp; (try with_reducible rfl)); (try simp only [Act.put, List.setIfInBounds_toArray, List.set_cons_zero, List.set_cons_succ]))
        (refine wpAnyH_ready (rs := [5]) (by decide +kernel) (by simp) ?_; refine AllReadyH.cons rfl (fun K hK => ?_) AllReadyH.nil; rw [if_pos (by kernel_rfl)]; go_simp)
        (refine hK.out _ _ ⟨hI.out.g1, hV.out.c 0 _ rfl, hV.out.c 1 _ rfl, hV.out.c 2 _ rfl, hV.out.c 3 _ rfl⟩ (fun hHeld => ?_); clear hK K; (try simp only [Act.put]); (try simp only [List.setIfInBounds_toArray]); (try simp only [List.set_cons_zero, List.set_cons_succ]))
        refine wpAnyH_ready (rs := [18]) (by decide +kernel) (by simp) ?_
        refine AllReadyH.cons rfl (fun K hK => ?_) AllReadyH.nil
        rw [if_pos (by kernel_rfl)]
        refine wp_store_mid 120 (.tmp 8) (.tmp 35) rfl (w.heap.size + 1 + 1) 0 #[.int .i64 (Cal.gradeS g u), .int .i64 (Cal.dueS g u).1, .int .i64 number] (by rfl) (by rfl) (by exact hI.out.g3.there) tnSize (by kernel_rfl) ?_
        have hg8 := grown_setCells (w.heap.size + 1 + 1) [.int .i64 (Cal.gradeS g u), .int .i64 (Cal.dueS g u).1, .int .i64 number] 0 w5
        have h8 := Lib.hid (hI.out.g3.put [.int .i64 (Cal.gradeS g u), .int .i64 (Cal.dueS g u).1, .int .i64 number] rfl)
        have hbf := Lib.hid (below_of_grownB hI.out.hb hg8 (by omega))
        have hg1 := Lib.hid (hI.out.g1.grown hg8 (by simp; omega))
        have hV := Lib.hid (hV.out.grown hg8 (by simp; omega))
        clear hg8 hI
        go_simp
        (refine hK.out _ _ ⟨hg1.out, hV.out.c 0 _ rfl, hV.out.c 1 _ rfl, hV.out.c 2 _ rfl, hV.out.c 3 _ rfl⟩ (fun hHeld => ?_); clear hK K; (try simp only [Act.put]); (try simp only [List.setIfInBounds_toArray]); (try simp only [List.set_cons_zero, List.set_cons_succ]))
        (refine wpAnyH_ready (rs := [19]) (by decide +kernel) (by simp) ?_; refine AllReadyH.cons rfl (fun K hK => ?_) AllReadyH.nil; rw [if_pos (by kernel_rfl)]; go_simp)
        (refine hK.out _ _ ⟨hg1.out, hV.out.c 0 _ rfl, hV.out.c 1 _ rfl, hV.out.c 2 _ rfl, hV.out.c 3 _ rfl⟩ (fun hHeld => ?_); clear hK K; (try simp only [Act.put]); (try simp only [List.setIfInBounds_toArray]); (try simp only [List.set_cons_zero, List.set_cons_succ]))
        refine wpAnyH_done (by kernel_rfl) ?_ _
        clear hHeld
        go_wp2_with fail
        (try simp only [Exit.inBlock, Exit.then])
        refine bodyPost_ret (results_mid2 rfl _ _ (w.heap.size + 1 + 1) [.int .i64 (Cal.gradeS g u), .int .i64 (Cal.dueS g u).1, .int .i64 number] _ rfl h8.out.range Tryz.underlying120 rfl tnSize) rfl ⟨by rw [hfin.out]; rfl, hbf.out⟩
end Go.Proofs.YtbegbajlagcbdaaGreatDoor
