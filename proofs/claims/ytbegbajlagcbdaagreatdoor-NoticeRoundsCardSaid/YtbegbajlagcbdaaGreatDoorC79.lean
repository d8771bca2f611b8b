/- Chapter 8 and what it rests on: definitions and walks, part 79. -/
import Derived.Test.YtbegbajlagcbdaaGreatDoorC78
import Derived.Test.YtbegbajlagcbdaaGreatDoorC74
import Derived.Test.YtbegbajlagcbdaaGreatDoorC73
namespace Go.Proofs.YtbegbajlagcbdaaGreatDoor
open Go Go.RowKit
set_option maxRecDepth 100000 in
set_option maxHeartbeats 8000000 in
theorem CheckMonumentsR_any (L : Option Addr) (lc : Nat) (l : List MoE) (w : World) (hN : Mos w L lc l) :
    Calls Tryz.prog 13 #[.slice L l.length lc] w fun e w' => e = .returned (.int .i64 (Cal.mosE l)) ∧ Below w.heap.size w w' := by
  have hsz := hN.size
  have hb : Hid (Below w.heap.size w w) := Below.refl _ _
  by_cases hbig : 60 < l.length
  · have hfin : Hid (Cal.mosE l = 8) := by show _ = _; unfold Cal.mosE; rw [if_pos hbig]
    go_enter Tryz.func13, Tryz.ntmps13
    go_wp2_with fail
    go_ret
    exact ⟨ret_int hfin.out.symm, hb.out⟩
  · have hnE : Hid (Cal.mosE l = Cal.namesE Cal.ckM Cal.nmM [] l) := by show _ = _; unfold Cal.mosE; rw [if_neg hbig]
    have hN := Lib.hid (fun w' (h : Below w.heap.size w w') => hN.below h)
    have hI0 : Hid (NamesTo Cal.ckM Cal.nmM l 0) := rfl
    have hlen : l.length ≤ 60 := by omega
    clear hbig
    go_enter Tryz.func13, Tryz.ntmps13
    go_wp2_with fail
    go_loopw [3] (fun i wr => ∃ k : Nat, k ≤ l.length ∧ i = .int .i64 k ∧ Hid (NamesTo Cal.ckM Cal.nmM l k) ∧ Hid (Below w.heap.size w wr)) (fun i _ => l.length - (intOf i).toNat)
    case atStart => exact ⟨0, Nat.zero_le _, rfl, hI0, hb⟩
    case round =>
      clear hb hI0
      obtain ⟨k, hk, rfl, hI, hb⟩ := hrel
      by_cases hlt : k < l.length
      · have hk' : l[k]? = some l[k] := List.getElem?_eq_getElem hlt
        have hbad := Lib.hid (fun h => hI.out.bad hlt h)
        have htw := Lib.hid (fun h h2 => hI.out.twice hlt h h2)
        have hnx := Lib.hid (fun h h2 => hI.out.next hlt h h2)
        have hMB := (hN.out _ hb.out).each k _ hk'
        have hMB := Lib.hid hMB
        obtain ⟨b, o, rfl, hbl, c0, c1, c2⟩ := (hN.out _ hb.out).at_ hk'
        clear hk'
        have hkl : (k : Int) < (l.length : Int) := by omega
        have hk0 : (0 : Int) ≤ (k : Int) := by omega
        have hckz : Hid (Cal.ckM l[k] = Cal.monErr l[k].m) := rfl
        generalize l[k] = e at *
        go_wp2_with fail
        refine (CheckMonumentR_any e.V e.d e.m _ hMB.out).mono ?_
        rintro en w5 ⟨rfl, hb5⟩
        have hb := Lib.hid (below_step hb.out hb5)
        have c0 := (hb5.cell (p := ⟨b, o + k * 3, none⟩) hbl).trans c0
        clear hb5 c1 c2
        by_cases hE : Cal.monErr e.m = 0
        · have hckE := Lib.hid (show Cal.ckM e = 0 by rw [hckz.out]; exact hE)
          rw [hE]
          clear hE
          have hO0 : Hid (otherTo Cal.nmM l (Cal.nmM e) 0) := fun i q h _ => by omega
          go_wp2_with fail
          go_loopw [5] (fun i wr => ∃ (j n : Nat), j ≤ k ∧ i = .int .i64 j ∧ Hid (otherTo Cal.nmM l (Cal.nmM e) j) ∧ wr = w5.drewN n) (fun i _ => k - (intOf i).toNat)
          case atStart => exact ⟨0, 0, Nat.zero_le _, rfl, hO0, rfl⟩
          case round =>
            clear hO0
            obtain ⟨j, n, hj, rfl, hO, rfl⟩ := hrel
            by_cases hjk : j < k
            · have hjl : j < l.length := by omega
              have hj' : l[j]? = some l[j] := List.getElem?_eq_getElem hjl
              obtain ⟨b2, o2, hA2, _, d0, _, _⟩ := (hN.out _ hb.out).at_ hj'
              cases hA2
              by_cases hx : Cal.nmM l[j] = Cal.nmM e
              · have hfin : Hid (Cal.mosE l = 5) := by show _ = _; rw [hnE.out]; exact htw.out hckE.out (mem_of_at hjk hj' hx)
                have hbx : (l[j].m.name.toList == e.m.name.toList) = true := beq_names.2 hx
                clear hx hj' htw hnx
                generalize l[j] = q at *
                go_wp2_with fail
                go_quiet (fail)
                go_wp2_with fail
                go_ret
                exact ⟨ret_int hfin.out.symm, below_drewN (below_drewN hb.out _) _⟩
              · have hO2 : Hid (otherTo Cal.nmM l (Cal.nmM e) (j + 1)) := fun i q hi hq => by
                  rcases Nat.lt_or_ge i j with h | h
                  · exact hO.out i q h hq
                  · obtain rfl : i = j := by omega
                    rw [hj'] at hq; cases hq; exact hx
                have hbx : (l[j].m.name.toList == e.m.name.toList) = false := beq_names_not hx
                clear hx hj'
                generalize l[j] = q at *
                go_wp2_with fail
                go_quiet (fail)
                go_wp2_with fail
                go_roundw
                case rel => exact ⟨j + 1, _, by omega, by go_num, hO2, rfl⟩
                case measure => simp [intOf]; omega
            · obtain rfl : j = k := by omega
              have hI2 : Hid (NamesTo Cal.ckM Cal.nmM l (j + 1)) := hnx.out hckE.out hO.out.not_mem
              go_wp2_with fail
              go_roundw
              case rel => exact ⟨j + 1, by omega, by go_num, hI2, below_drewN hb.out _⟩
              case measure => simp [intOf]; omega
        · have hfin : Hid (Cal.mosE l = Cal.monErr e.m) := by show _ = _; rw [hnE.out, hbad.out (by rw [hckz.out]; exact hE), hckz.out]
          have hE1 : (Cal.monErr e.m != 0) = true := by simpa using hE
          clear hE
          go_wp2_with fail
          go_ret
          exact ⟨ret_int hfin.out.symm, hb.out⟩
      · obtain rfl : k = l.length := by omega
        have hfin : Hid (Cal.mosE l = 0) := by show _ = _; rw [hnE.out]; exact hI.out.stop (Nat.le_refl _)
        go_wp2_with fail
        go_ret
        exact ⟨ret_int hfin.out.symm, hb.out⟩
/-- How a monument is ordered, as the reference has it. -/
def Cal.rankS (g : Grad) (m : Mon) (day : Int) : Int × Int := match Cal.lastV day m.visits with
  | none => (-4, 0)
  | some v => (-(Cal.gradeS g v), (Cal.nextS g m day).1)
theorem pairSz : (Tryz.prog.info? 49).map (·.size) = some 2 := by kernel_rfl
structure RkB (w : World) (g : Grad) (V : Option Addr) (d : Nat) (m : Mon) (wr : World) : Prop where
  hb : Below w.heap.size w wr
  g1 : BoxAt wr w.heap.size [.int .i64 g.t0, .int .i64 g.t1, .int .i64 g.t2, .int .i64 g.p0, .int .i64 g.p1, .int .i64 g.p2, .int .i64 g.m0, .int .i64 g.m1, .int .i64 g.m2, .int .i64 g.m3]
  g2 : BoxAt wr (w.heap.size + 1) [.string m.name, .string m.place, .slice V m.visits.length d]
  g3 : BoxAt wr (w.heap.size + 1 + 1) [.int .i64 0, .int .i64 0]
  tab : Tab wr
  mon : MB wr V m
theorem RkB.step {w : World} {g : Grad} {V : Option Addr} {d : Nat} {m : Mon} {wr w' : World} (h : RkB w g V d m wr) (hb : Below wr.heap.size wr w') : RkB w g V d m w' :=
  ⟨below_step h.hb hb, h.g1.below hb, h.g2.below hb, h.g3.below hb, h.tab.below hb, h.mon.below hb⟩
theorem start3k (w : World) (g : Grad) (V : Option Addr) (d : Nat) (m : Mon) (hM : MB w V m) (hT : Tab w) : RkB w g V d m (((w.alloc (.cells #[.int .i64 g.t0, .int .i64 g.t1, .int .i64 g.t2, .int .i64 g.p0, .int .i64 g.p1, .int .i64 g.p2, .int .i64 g.m0, .int .i64 g.m1, .int .i64 g.m2, .int .i64 g.m3] 25)).alloc (.cells #[.string m.name, .string m.place, .slice V m.visits.length d] 31)).alloc (.cells #[.int .i64 0, .int .i64 0] 49)) := by
  have h2 := (BoxAt.new (w.alloc (.cells #[.int .i64 g.t0, .int .i64 g.t1, .int .i64 g.t2, .int .i64 g.p0, .int .i64 g.p1, .int .i64 g.p2, .int .i64 g.m0, .int .i64 g.m1, .int .i64 g.m2, .int .i64 g.m3] 25)) #[.string m.name, .string m.place, .slice V m.visits.length d] 31).alloc (.cells #[.int .i64 0, .int .i64 0] 49)
  have h3 := BoxAt.new ((w.alloc (.cells #[.int .i64 g.t0, .int .i64 g.t1, .int .i64 g.t2, .int .i64 g.p0, .int .i64 g.p1, .int .i64 g.p2, .int .i64 g.m0, .int .i64 g.m1, .int .i64 g.m2, .int .i64 g.m3] 25)).alloc (.cells #[.string m.name, .string m.place, .slice V m.visits.length d] 31)) #[.int .i64 0, .int .i64 0] 49
  simp only [World.size_alloc] at h2 h3
  have hb : Below w.heap.size w (((w.alloc (.cells #[.int .i64 g.t0, .int .i64 g.t1, .int .i64 g.t2, .int .i64 g.p0, .int .i64 g.p1, .int .i64 g.p2, .int .i64 g.m0, .int .i64 g.m1, .int .i64 g.m2, .int .i64 g.m3] 25)).alloc (.cells #[.string m.name, .string m.place, .slice V m.visits.length d] 31)).alloc (.cells #[.int .i64 0, .int .i64 0] 49)) := below_step (below_step (below_alloc _ _) (below_alloc _ _)) (below_alloc _ _)
  exact ⟨hb, ((BoxAt.new w _ _).alloc _).alloc _, h2, h3, hT.below hb, hM.below hb⟩
set_option maxRecDepth 100000 in
set_option maxHeartbeats 4000000 in
theorem rank_any (g : Grad) (V : Option Addr) (d : Nat) (m : Mon) (day : Int) (w : World) (hM : MB w V m) (hT : Tab w) (hg : Cal.gradErr g = 0) (hm : Cal.monErr m = 0) (hd : 0 ≤ day ∧ day ≤ 200000) :
    Calls Tryz.prog 62 #[.agg #[.int .i64 g.t0, .int .i64 g.t1, .int .i64 g.t2, .int .i64 g.p0, .int .i64 g.p1, .int .i64 g.p2, .int .i64 g.m0, .int .i64 g.m1, .int .i64 g.m2, .int .i64 g.m3], .agg #[.string m.name, .string m.place, .slice V m.visits.length d], .int .i64 day] w fun e w' => e = .returned (.agg #[.int .i64 (Cal.rankS g m day).1, .int .i64 (Cal.rankS g m day).2]) ∧ Below w.heap.size w w' := by
  have hnxt := Lib.hid (fun w1 hM1 hT1 => NextVisitR_any g V d m day w1 hM1 hT1 hg hm hd)
  have hI := Lib.hid (start3k w g V d m hM hT)
  have hz1 := hI.out.g3.lt
  clear hM hT hg hm hd
  cases hv : Cal.lastV day m.visits with
  | none =>
    have hvz := Lib.hid hv
    have hfin : Hid (Cal.rankS g m day = (-4, 0)) := by show _ = _; unfold Cal.rankS; rw [hv]
    clear hv
    have m0 := hI.out.g2.c 0 _ rfl
    have m1 := hI.out.g2.c 1 _ rfl
    have m2 := hI.out.g2.c 2 _ rfl
    go_enter Tryz.func62, Tryz.ntmps62
    go_wp2_with fail
    refine (LastR_any V d m day _ hI.out.mon).mono ?_
    rintro e w1 ⟨u, rfl, hu, hb1⟩
    clear m0 m1 m2
    rw [hvz.out] at hu
    have hI := Lib.hid (hI.out.step hb1)
    rw [hvz.out, show (none : Option Vis).isSome = false from rfl]
    clear hu
    have hI2 := Lib.hid (hI.out.step (below_alloc w1 (.cells #[.int .i64 u.day, .int .i64 u.kind, .int .i64 u.tilt, .int .i64 u.push] 106)))
    go_wp2_with (refine wpList_store_box rfl 49 (.tmp 6) (.tmp 19) rfl (w.heap.size + 1 + 1) _ [.int .i64 (-4), .int .i64 0] (by rfl) (by rfl) hI2.out.g3 rfl pairSz (by kernel_rfl) ?_; intro w4 h8 hg8)
    (try simp only [Exit.inBlock, Exit.then])
    refine bodyPost_ret (results_mid1 rfl _ _ (w.heap.size + 1 + 1) [.int .i64 (-4), .int .i64 0] _ rfl h8.range Tryz.underlying49 rfl pairSz) rfl ⟨by rw [hfin.out], below_of_grownB hI2.out.hb hg8 (by omega)⟩
  | some u' =>
    have hvz := Lib.hid hv
    have hfin0 : Cal.rankS g m day = (-(Cal.gradeS g u'), (Cal.nextS g m day).1) := by unfold Cal.rankS; rw [hv]
    clear hv
    have m0 := hI.out.g2.c 0 _ rfl
    have m1 := hI.out.g2.c 1 _ rfl
    have m2 := hI.out.g2.c 2 _ rfl
    go_enter Tryz.func62, Tryz.ntmps62
    go_wp2_with fail
    refine (LastR_any V d m day _ hI.out.mon).mono ?_
    rintro e w1 ⟨u, rfl, hu, hb1⟩
    clear m0 m1 m2
    rw [hvz.out] at hu
    rw [hvz.out, show (some u').isSome = true from rfl]
    obtain rfl : u = u' := hu
    clear hvz
    have hI := Lib.hid (hI.out.step hb1)
    have hV := Lib.hid (BoxAt.new w1 #[.int .i64 u.day, .int .i64 u.kind, .int .i64 u.tilt, .int .i64 u.push] 106)
    have hI := Lib.hid (hI.out.step (below_alloc w1 (.cells #[.int .i64 u.day, .int .i64 u.kind, .int .i64 u.tilt, .int .i64 u.push] 106)))
    have m0 := hI.out.g2.c 0 _ rfl
    have m1 := hI.out.g2.c 1 _ rfl
    have m2 := hI.out.g2.c 2 _ rfl
    clear hb1
    go_wp2_with (refine wpGrd hI.out.g1 (.tmp 3) rfl ?_)
    refine (hnxt.out _ hI.out.mon hI.out.tab).mono ?_
    rintro e w2 ⟨rfl, hb2⟩
    have hI := Lib.hid (hI.out.step hb2)
    have hV := Lib.hid (hV.out.below hb2)
    clear hb2 m0 m1 m2
    have v0 := hV.out.c 0 _ rfl
    have v1 := hV.out.c 1 _ rfl
    have v2 := hV.out.c 2 _ rfl
    have v3 := hV.out.c 3 _ rfl
    go_wp2_with (refine wpGrd hI.out.g1 (.tmp 3) rfl ?_)
    refine (GradeOfR_any g u _).mono ?_
    rintro e w5 ⟨rfl, hb5⟩
    have hI := Lib.hid (hI.out.step hb5)
    clear hb5 v0 v1 v2 v3
    have hgr : 0 ≤ Cal.gradeS g u ∧ Cal.gradeS g u ≤ 3 := by rcases Cal.grade_cases g u with h | h | h | h <;> rw [h] <;> omega
    have hfin := Lib.hid hfin0
    clear hfin0
    generalize Cal.gradeS g u = x at *
    obtain ⟨x0, x1⟩ := hgr
    have hwr : IntKind.i64.wrap (-x) = -x := IntWalk.i64_in _ (by omega)
    go_wp2_with (refine wpList_store_box rfl 49 (.tmp 6) (.tmp 32) rfl (w.heap.size + 1 + 1) _ [.int .i64 (-x), .int .i64 (Cal.nextS g m day).1] (by rfl) (by rfl) hI.out.g3 rfl pairSz (by kernel_rfl) ?_; intro w4 h8 hg8)
    (try simp only [Exit.inBlock, Exit.then])
    refine bodyPost_ret (results_mid1 rfl _ _ (w.heap.size + 1 + 1) [.int .i64 (-x), .int .i64 (Cal.nextS g m day).1] _ rfl h8.range Tryz.underlying49 rfl pairSz) rfl ⟨by rw [hfin.out], below_of_grownB hI.out.hb hg8 (by omega)⟩
/-! Selection and order, by both. -/
theorem Cal.addS_err {day k : Int} (h0 : 0 ≤ day) (h1 : day ≤ 200000) (k0 : 0 ≤ k) (k1 : k ≤ 240) : (Cal.addS day k).2 = 0 ∨ (Cal.addS day k).2 = 2 := by
  rw [Cal.add_later h0 h1 k0 k1]
  split
  · exact .inl rfl
  · exact .inr rfl
theorem Cal.dueS_err {g : Grad} {m : Mon} {day : Int} {u : Vis} (hg : Cal.gradErr g = 0) (hm : Cal.monErr m = 0) (hu : Cal.lastV day m.visits = some u) : (Cal.dueS g u).2 = 0 ∨ (Cal.dueS g u).2 = 2 := by
  obtain ⟨q0, q1⟩ := Cal.mon_last hm hu
  obtain ⟨a, b, c, d⟩ := Cal.grad_mo hg
  unfold Cal.dueS
  refine Cal.addS_err q0 q1 ?_ ?_ <;> (unfold Grad.mo; repeat' split) <;> omega
/-- The reference's choice is the program's. -/
theorem Cal.turn_sel {g : Grad} {m : Mon} {number day : Int} (hg : Cal.gradErr g = 0) (hm : Cal.monErr m = 0) (hd : 0 ≤ day ∧ day ≤ 200000) :
    (Cal.turnS g m number day).2 = decide ((Cal.nextS g m day).2 = 6 ∨ ((Cal.nextS g m day).2 = 0 ∧ (Cal.nextS g m day).1 ≤ day)) := by
  have hby := Cal.by_ok hg hm hd
  unfold Cal.turnS
  cases hv : Cal.lastV day m.visits with
  | none =>
    rw [hv] at hby
    rw [Cal.next_bad hby (by decide)]
    simp
  | some u =>
    rw [hv] at hby
    have hby : Cal.byErr g m day = 0 := hby
    have he := Cal.dueS_err hg hm hv
    by_cases hk : u.kind = 2
    · rw [Cal.next_laid hby hv hk]; simp [hk]
    · rw [Cal.next_ok hby hv hk]
      rcases he with he | he <;> simp [hk, he]
theorem Cal.turn_rank {g : Grad} {m : Mon} {number day : Int} (hg : Cal.gradErr g = 0) (hm : Cal.monErr m = 0) (hd : 0 ≤ day ∧ day ≤ 200000) (h : (Cal.turnS g m number day).2 = true) :
    Cal.rankS g m day = (-(Cal.turnS g m number day).1.grade, (Cal.turnS g m number day).1.day) := by
  have hby := Cal.by_ok hg hm hd
  unfold Cal.turnS at h ⊢
  unfold Cal.rankS
  cases hv : Cal.lastV day m.visits with
  | none => rfl
  | some u =>
    rw [hv] at hby h
    have hby : Cal.byErr g m day = 0 := hby
    have hk : u.kind ≠ 2 := by
      intro hk
      simp [hk] at h
    show (-(Cal.gradeS g u), (Cal.nextS g m day).1) = _
    rw [Cal.next_ok hby hv hk]
end Go.Proofs.YtbegbajlagcbdaaGreatDoor
