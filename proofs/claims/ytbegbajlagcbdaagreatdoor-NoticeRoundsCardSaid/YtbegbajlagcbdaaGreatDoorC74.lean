/- Chapter 8 and what it rests on: definitions and walks, part 74. -/
import Derived.Test.YtbegbajlagcbdaaGreatDoorC28
import Derived.Test.YtbegbajlagcbdaaGreatDoorC73
namespace Go.Proofs.YtbegbajlagcbdaaGreatDoor
open Go Go.RowKit
theorem Cal.visErr_day {v : Vis} (h : Cal.visErr v = 0) : 0 ≤ v.day := by
  unfold Cal.visErr at h
  split at h
  · rename_i h1; exact h1.1.1
  · omega
theorem Cal.visitsErr_cons (day : Int) (v : Vis) (l : List Vis) : Cal.visitsErr day (v :: l) = if Cal.visErr v = 0 then (if v.day < day then 9 else Cal.visitsErr v.day l) else Cal.visErr v := rfl
def PrevV (l : List Vis) (k : Nat) (e0 : Int) : Prop := (k = 0 ∧ e0 = 0) ∨ (0 < k ∧ ∃ q, l[k - 1]? = some q ∧ q.day = e0)
set_option maxRecDepth 100000 in
set_option maxHeartbeats 4000000 in
theorem CheckMonumentR_any (V : Option Addr) (d : Nat) (m : Mon) (w : World) (hM : MB w V m) :
    Calls Tryz.prog 60 #[.agg #[.string m.name, .string m.place, .slice V m.visits.length d]] w fun e w' => e = .returned (.int .i64 (Cal.monErr m)) ∧ Below w.heap.size w w' := by
  have hsz := hM.vis.size
  have hM := Lib.hid hM
  obtain ⟨b1, q1⟩ : ∃ b, nameB m.name = b := ⟨_, rfl⟩
  obtain ⟨b2, q2⟩ : ∃ b, nameB m.place = b := ⟨_, rfl⟩
  cases b1
  · have hfin : Hid (Cal.monErr m = 4) := by show _ = _; unfold Cal.monErr; rw [if_neg (fun h => by rw [q1] at h; exact absurd h.1 (by decide))]
    have q1 := Lib.hid q1
    have q2 := Lib.hid q2
    have h1 := Lib.hid (BoxAt.new w #[.string m.name, .string m.place, .slice V m.visits.length d] 31)
    have hb := Lib.hid (below_alloc w (.cells #[.string m.name, .string m.place, .slice V m.visits.length d] 31))
    have c0 := h1.out.c 0 _ rfl
    have c1 := h1.out.c 1 _ rfl
    have c2 := h1.out.c 2 _ rfl
    go_enter Tryz.func60, Tryz.ntmps60
    go_wp2_with (first | (go_at_call_of 90 (Value.string m.name); refine (IsName_any m.name _ hM.out.name).mono ?_; rintro e w' ⟨rfl, rfl⟩; rw [q1.out]) | (go_at_call_of 90 (Value.string m.place); refine (IsName_any m.place _ hM.out.place).mono ?_; rintro e w' ⟨rfl, rfl⟩; rw [q2.out]))
    go_ret
    exact ⟨ret_int hfin.out.symm, hb.out⟩
  cases b2
  · have hfin : Hid (Cal.monErr m = 4) := by show _ = _; unfold Cal.monErr; rw [if_neg (fun h => by rw [q2] at h; exact absurd h.2 (by decide))]
    have q1 := Lib.hid q1
    have q2 := Lib.hid q2
    have h1 := Lib.hid (BoxAt.new w #[.string m.name, .string m.place, .slice V m.visits.length d] 31)
    have hb := Lib.hid (below_alloc w (.cells #[.string m.name, .string m.place, .slice V m.visits.length d] 31))
    have c0 := h1.out.c 0 _ rfl
    have c1 := h1.out.c 1 _ rfl
    have c2 := h1.out.c 2 _ rfl
    go_enter Tryz.func60, Tryz.ntmps60
    go_wp2_with (first | (go_at_call_of 90 (Value.string m.name); refine (IsName_any m.name _ hM.out.name).mono ?_; rintro e w' ⟨rfl, rfl⟩; rw [q1.out]) | (go_at_call_of 90 (Value.string m.place); refine (IsName_any m.place _ hM.out.place).mono ?_; rintro e w' ⟨rfl, rfl⟩; rw [q2.out]))
    go_ret
    exact ⟨ret_int hfin.out.symm, hb.out⟩
  by_cases hlen : m.visits.length ≤ 40
  · have hfin : Hid (Cal.monErr m = Cal.visitsErr 0 m.visits) := by show _ = _; unfold Cal.monErr; rw [if_pos ⟨q1, q2⟩, if_pos hlen]
    have q1 := Lib.hid q1
    have q2 := Lib.hid q2
    have h1 := Lib.hid (BoxAt.new w #[.string m.name, .string m.place, .slice V m.visits.length d] 31)
    have hb := Lib.hid (below_alloc w (.cells #[.string m.name, .string m.place, .slice V m.visits.length d] 31))
    have c0 := h1.out.c 0 _ rfl
    have c1 := h1.out.c 1 _ rfl
    have c2 := h1.out.c 2 _ rfl
    go_enter Tryz.func60, Tryz.ntmps60
    go_wp2_with (first | (go_at_call_of 90 (Value.string m.name); refine (IsName_any m.name _ hM.out.name).mono ?_; rintro e w' ⟨rfl, rfl⟩; rw [q1.out]) | (go_at_call_of 90 (Value.string m.place); refine (IsName_any m.place _ hM.out.place).mono ?_; rintro e w' ⟨rfl, rfl⟩; rw [q2.out]))
    clear c0 c1 c2
    go_loopw [3] (fun i wr => ∃ (k : Nat) (day : Int), k ≤ m.visits.length ∧ i = .int .i64 k ∧ Hid (PrevV m.visits k day) ∧ Hid (Cal.visitsErr 0 m.visits = Cal.visitsErr day (m.visits.drop k)) ∧ Hid (BoxAt wr w.heap.size [.string m.name, .string m.place, .slice V m.visits.length d]) ∧ Hid (Below w.heap.size w wr)) (fun i _ => m.visits.length - (intOf i).toNat)
    case atStart => exact ⟨0, 0, Nat.zero_le _, rfl, .inl ⟨rfl, rfl⟩, rfl, h1, hb⟩
    case round =>
      clear hb h1
      obtain ⟨k, day, hk, rfl, hprev, hE, h1, hb⟩ := hrel
      have c2 := h1.out.c 2 _ rfl
      by_cases hlt : k < m.visits.length
      · have hk' : m.visits[k]? = some m.visits[k] := List.getElem?_eq_getElem hlt
        have hk2 := Lib.hid hk'
        have hd := List.drop_eq_getElem_cons hlt
        obtain ⟨b, o, rfl, hbl, e0, e1, e2, e3⟩ := (hM.out.vis.below hb.out).at_ hk'
        have hE0 := hE.out
        rw [hd, Cal.visitsErr_cons] at hE0
        clear hk' hd hE
        generalize m.visits[k] = v at *
        by_cases hv : Cal.visErr v = 0
        · have hvz := Lib.hid hv
          have hd0 := Cal.visErr_day hv
          rw [if_pos hv] at hE0
          by_cases hk0 : k = 0
          · subst hk0
            have hday : day = 0 := by rcases hprev.out with ⟨_, h⟩ | ⟨h, _⟩ <;> omega
            rw [if_neg (by omega)] at hE0
            have hE1 := Lib.hid hE0
            simp only [Nat.zero_mul, Nat.add_zero] at e0 e1 e2 e3
            clear hE0 hv hday
            go_wp2_with fail
            refine (VisitErrR_any v _).mono ?_
            rintro e w4 ⟨rfl, hbn⟩
            rw [hvz.out]
            have g1 := Lib.hid (h1.out.below hbn)
            have hb := Lib.hid (below_step hb.out hbn)
            clear c2
            have c2 := g1.out.c 2 _ rfl
            have e0 := (hbn.cell (p := ⟨b, _, none⟩) hbl).trans e0
            go_wp2_with fail
            go_quiet (fail)
            go_wp2_with fail
            go_roundw
            case rel => exact ⟨1, v.day, by omega, rfl, .inr ⟨by omega, v, hk2.out, rfl⟩, hE1, Lib.hid (g1.out.below (below_drewN (Below.refl _ _) _)), Lib.hid (below_drewN hb.out _)⟩
            case measure => simp [intOf]; omega
          · have hk1 : 0 < k := by omega
            obtain ⟨q, hq1, hq2⟩ : ∃ q, m.visits[k - 1]? = some q ∧ q.day = day := by
              rcases hprev.out with ⟨h, _⟩ | ⟨_, h⟩
              · omega
              · exact h
            subst hq2
            obtain ⟨b', o', hA', hbl', d0, d1, d2, d3⟩ := (hM.out.vis.below hb.out).at_ hq1
            simp only [Option.some.injEq, Addr.mk.injEq, and_true] at hA'
            obtain ⟨rfl, rfl⟩ := hA'
            clear d1 d2 d3 hq1 hk0
            have hix : ((k : Int) - 1).toNat = k - 1 := by omega
            by_cases hday : v.day < q.day
            · have hf2 : Hid (Cal.monErr m = 9) := by show _ = _; rw [hfin.out, hE0, if_pos hday]
              have hdb : decide (v.day < q.day) = true := by simpa using hday
              clear hE0 hv hday
              go_wp2_with fail
              refine (VisitErrR_any v _).mono ?_
              rintro e w4 ⟨rfl, hbn⟩
              rw [hvz.out]
              have g1 := Lib.hid (h1.out.below hbn)
              have hb := Lib.hid (below_step hb.out hbn)
              clear c2
              have c2 := g1.out.c 2 _ rfl
              have e0 := (hbn.cell (p := ⟨b, _, none⟩) hbl).trans e0
              have d0 := (hbn.cell (p := ⟨b, _, none⟩) hbl).trans d0
              go_wp2_with fail
              go_quiet (fail)
              go_wp2_with fail
              go_ret
              exact ⟨ret_int hf2.out.symm, below_drewN hb.out _⟩
            · rw [if_neg hday] at hE0
              have hE1 := Lib.hid hE0
              have hdb : decide (v.day < q.day) = false := by simpa using hday
              clear hE0 hv hday
              go_wp2_with fail
              refine (VisitErrR_any v _).mono ?_
              rintro e w4 ⟨rfl, hbn⟩
              rw [hvz.out]
              have g1 := Lib.hid (h1.out.below hbn)
              have hb := Lib.hid (below_step hb.out hbn)
              clear c2
              have c2 := g1.out.c 2 _ rfl
              have e0 := (hbn.cell (p := ⟨b, _, none⟩) hbl).trans e0
              have d0 := (hbn.cell (p := ⟨b, _, none⟩) hbl).trans d0
              go_wp2_with fail
              go_quiet (fail)
              go_wp2_with fail
              go_roundw
              case rel => exact ⟨k + 1, v.day, by omega, by go_num, .inr ⟨by omega, v, hk2.out, rfl⟩, hE1, Lib.hid (g1.out.below (below_drewN (Below.refl _ _) _)), Lib.hid (below_drewN hb.out _)⟩
              case measure => simp [intOf]; omega
        · rw [if_neg hv] at hE0
          obtain ⟨F, hF⟩ : ∃ F, Cal.visErr v = F := ⟨_, rfl⟩
          have hf2 : Hid (Cal.monErr m = F) := by show _ = _; rw [hfin.out, hE0, hF]
          have hFb : (F != 0) = true := by rw [← hF]; simpa using hv
          have hFz := Lib.hid hF
          clear hE0 hv hF
          go_wp2_with fail
          refine (VisitErrR_any v _).mono ?_
          rintro e w4 ⟨rfl, hbn⟩
          rw [hFz.out]
          have g1 := Lib.hid (h1.out.below hbn)
          have hb := Lib.hid (below_step hb.out hbn)
          clear c2
          have c2 := g1.out.c 2 _ rfl
          have e0 := (hbn.cell (p := ⟨b, _, none⟩) hbl).trans e0
          go_wp2_with fail
          go_ret
          exact ⟨ret_int hf2.out.symm, hb.out⟩
      · have hge : m.visits.length = k := by omega
        have hf2 : Hid (Cal.monErr m = 0) := by show _ = _; rw [hfin.out, hE.out, List.drop_eq_nil_of_le (by omega)]; rfl
        clear hE
        go_wp2_with fail
        go_ret
        exact ⟨ret_int hf2.out.symm, hb.out⟩
  · have hfin : Hid (Cal.monErr m = 8) := by show _ = _; unfold Cal.monErr; rw [if_pos ⟨q1, q2⟩, if_neg hlen]
    have q1 := Lib.hid q1
    have q2 := Lib.hid q2
    have hlen' : 40 < m.visits.length := by omega
    clear hlen
    have h1 := Lib.hid (BoxAt.new w #[.string m.name, .string m.place, .slice V m.visits.length d] 31)
    have hb := Lib.hid (below_alloc w (.cells #[.string m.name, .string m.place, .slice V m.visits.length d] 31))
    have c0 := h1.out.c 0 _ rfl
    have c1 := h1.out.c 1 _ rfl
    have c2 := h1.out.c 2 _ rfl
    go_enter Tryz.func60, Tryz.ntmps60
    go_wp2_with (first | (go_at_call_of 90 (Value.string m.name); refine (IsName_any m.name _ hM.out.name).mono ?_; rintro e w' ⟨rfl, rfl⟩; rw [q1.out]) | (go_at_call_of 90 (Value.string m.place); refine (IsName_any m.place _ hM.out.place).mono ?_; rintro e w' ⟨rfl, rfl⟩; rw [q2.out]))
    go_ret
    exact ⟨ret_int hfin.out.symm, hb.out⟩
end Go.Proofs.YtbegbajlagcbdaaGreatDoor
namespace Go.Proofs.YtbegbajlagcbdaaGreatDoor
open Go Go.RowKit
theorem Cal.lastV_mem {day : Int} {u : Vis} : ∀ {l : List Vis}, Cal.lastV day l = some u → u ∈ l
  | [], h => by simp [Cal.lastV] at h
  | v :: l, h => by
    rw [Cal.lastV_cons] at h
    cases hl : Cal.lastV day l with
    | some x => rw [hl] at h; cases h; exact List.mem_cons_of_mem _ (Cal.lastV_mem hl)
    | none =>
      rw [hl] at h
      simp only at h
      split at h
      · cases h; exact List.mem_cons_self
      · cases h
theorem Cal.visits_ok {u : Vis} : ∀ {d : Int} {l : List Vis}, Cal.visitsErr d l = 0 → u ∈ l → Cal.visErr u = 0
  | _, [], _, h => by cases h
  | d, v :: l, h, hu => by
    unfold Cal.visitsErr at h
    by_cases hv : Cal.visErr v = 0
    · rw [if_pos hv] at h
      split at h
      · cases h
      · rcases List.mem_cons.1 hu with rfl | hu
        · exact hv
        · exact Cal.visits_ok h hu
    · rw [if_neg hv] at h; exact absurd h hv
theorem Cal.visErr_day2 {v : Vis} (h : Cal.visErr v = 0) : 0 ≤ v.day ∧ v.day ≤ 200000 := by
  unfold Cal.visErr at h
  split at h
  · rename_i hv; exact hv.1
  · cases h
theorem Cal.mon_last {m : Mon} {day : Int} {u : Vis} (h : Cal.monErr m = 0) (hu : Cal.lastV day m.visits = some u) : 0 ≤ u.day ∧ u.day ≤ 200000 := by
  unfold Cal.monErr at h
  split at h
  · split at h
    · exact Cal.visErr_day2 (Cal.visits_ok h (Cal.lastV_mem hu))
    · cases h
  · cases h
theorem Cal.grad_mo {g : Grad} (h : Cal.gradErr g = 0) : (0 ≤ g.m0 ∧ g.m0 ≤ 240) ∧ (0 ≤ g.m1 ∧ g.m1 ≤ 240) ∧ (0 ≤ g.m2 ∧ g.m2 ≤ 240) ∧ (0 ≤ g.m3 ∧ g.m3 ≤ 240) := by
  have hr : g.range = true := by
    unfold Cal.gradErr at h
    split at h
    · assumption
    · cases h
  simp [Grad.range, allB, inB] at hr
  omega
theorem Cal.by_ok {g : Grad} {m : Mon} {day : Int} (hg : Cal.gradErr g = 0) (hm : Cal.monErr m = 0) (hd : 0 ≤ day ∧ day ≤ 200000) : Cal.byErr g m day = if (Cal.lastV day m.visits).isSome = true then 0 else 6 := by
  unfold Cal.byErr Cal.byErr0
  rw [if_pos hg, if_pos hm, if_pos hd, if_pos rfl]
theorem Cal.add_later {day k : Int} (h0 : 0 ≤ day) (h1 : day ≤ 200000) (k0 : 0 ≤ k) (k1 : k ≤ 240) : Cal.addS day k = if (Cal.laterS day k).2 = true then ((Cal.laterS day k).1, 0) else (0, 2) := by
  unfold Cal.addS
  by_cases h : (Cal.laterS day k).2 = true
  · rw [if_pos ⟨h0, h1, by omega, by omega, h⟩, if_pos h]
  · rw [if_neg (fun hh => h hh.2.2.2.2), if_neg h]
set_option maxRecDepth 100000 in
set_option maxHeartbeats 8000000 in
theorem NextVisitR_any (g : Grad) (V : Option Addr) (d : Nat) (m : Mon) (day : Int) (w : World) (hM : MB w V m) (hT : Tab w) (hg : Cal.gradErr g = 0) (hm : Cal.monErr m = 0) (hd : 0 ≤ day ∧ day ≤ 200000) :
    Calls Tryz.prog 61 #[.agg #[.int .i64 g.t0, .int .i64 g.t1, .int .i64 g.t2, .int .i64 g.p0, .int .i64 g.p1, .int .i64 g.p2, .int .i64 g.m0, .int .i64 g.m1, .int .i64 g.m2, .int .i64 g.m3], .agg #[.string m.name, .string m.place, .slice V m.visits.length d], .int .i64 day] w fun e w' => e = .returned (.tuple #[.int .i64 (Cal.nextS g m day).1, .int .i64 (Cal.nextS g m day).2]) ∧ Below w.heap.size w w' := by
  have hI := Lib.hid (start2m w g V d m hM hT)
  clear hM hT
  have hby := Cal.by_ok hg hm hd
  have hmo := Cal.grad_mo hg
  have c0 := hI.out.g2.c 0 _ rfl
  have c1 := hI.out.g2.c 1 _ rfl
  have c2 := hI.out.g2.c 2 _ rfl
  rcases ho : Cal.lastV day m.visits with _ | u
  · rw [ho] at hby
    have hfin : Hid (Cal.nextS g m day = (0, 6)) := Cal.next_bad hby (by decide)
    have hoz := Lib.hid ho
    clear ho hby hmo hg hm hd
    go_enter Tryz.func61, Tryz.ntmps61
    go_wp2_with fail
    have hlv := fun wr h => LastR_any V d m day wr h
    rw [hoz.out] at hlv
    refine (hlv _ hI.out.mb).mono ?_
    clear hlv
    rintro e wn ⟨u', rfl, hu, hbn⟩
    have hI := Lib.hid (hI.out.step hbn)
    clear hbn c0 c1 c2
    go_wp2_with fail
    go_ret2
    exact ⟨by rw [hfin.out]; rfl, below_step hI.out.hb (below_alloc _ _)⟩
  · rw [ho] at hby
    have hud := Cal.mon_last hm ho
    by_cases hk : u.kind = 2
    · have kb : (u.kind == 2) = true := by simpa using hk
      have hfin : Hid (Cal.nextS g m day = (0, 28)) := Cal.next_laid hby ho hk
      have hoz := Lib.hid ho
      clear ho hby hmo hg hm hd hk hud
      go_enter Tryz.func61, Tryz.ntmps61
      go_wp2_with fail
      have hlv := fun wr h => LastR_any V d m day wr h
      rw [hoz.out] at hlv
      refine (hlv _ hI.out.mb).mono ?_
      clear hlv
      rintro e wn ⟨u', rfl, hu, hbn⟩
      obtain rfl : u = u' := hu.symm
      clear hu
      have hI := Lib.hid (hI.out.step hbn)
      clear hbn c0 c1 c2
      go_wp2_with fail
      go_ret2
      exact ⟨by rw [hfin.out]; rfl, below_step hI.out.hb (below_alloc _ _)⟩
    · have kb : (u.kind == 2) = false := by simpa using hk
      have hnx := Lib.hid (Cal.next_ok hby ho hk)
      have hoz := Lib.hid ho
      have hgz := Lib.hid hg
      clear ho hby hg hm hd hk
      go_enter Tryz.func61, Tryz.ntmps61
      go_wp2_with fail
      have hlv := fun wr h => LastR_any V d m day wr h
      rw [hoz.out] at hlv
      refine (hlv _ hI.out.mb).mono ?_
      clear hlv
      rintro e wn ⟨u', rfl, hu, hbn⟩
      obtain rfl : u = u' := hu.symm
      clear hu
      have hI := Lib.hid (hI.out.step hbn)
      clear hbn c0 c1 c2
      have hN := Lib.hid (BoxAt.new wn #[.int .i64 u.day, .int .i64 u.kind, .int .i64 u.tilt, .int .i64 u.push] 106)
      have hI := Lib.hid (hI.out.step (below_alloc wn (.cells #[.int .i64 u.day, .int .i64 u.kind, .int .i64 u.tilt, .int .i64 u.push] 106)))
      rcases Cal.grade_cases g u with hx | hx | hx | hx
      · have hdu : Hid (Cal.nextS g m day = if (Cal.laterS u.day g.m0).2 = true then ((Cal.laterS u.day g.m0).1, 0) else (0, 2)) := by
          show _ = _
          rw [hnx.out]; unfold Cal.dueS; rw [hx, ← Cal.add_later hud.1 hud.2 (by omega) (by omega)]; rfl
        have hrr : Hid ((0 ≤ u.day ∧ u.day ≤ 200000) ∧ (0 ≤ g.m0 ∧ g.m0 ≤ 240)) := ⟨hud, by omega⟩
        have hxz := Lib.hid hx
        clear hx hmo hud
        go_wp2_with fail
        refine wp_region_held_drew (S := (fun w' => BoxAt w' w.heap.size [.int .i64 g.t0, .int .i64 g.t1, .int .i64 g.t2, .int .i64 g.p0, .int .i64 g.p1, .int .i64 g.p2, .int .i64 g.m0, .int .i64 g.m1, .int .i64 g.m2, .int .i64 g.m3] ∧ w'.cell? ⟨wn.heap.size, 0, none⟩ = some (.int .i64 u.day) ∧ w'.cell? ⟨wn.heap.size, 1, none⟩ = some (.int .i64 u.kind) ∧ w'.cell? ⟨wn.heap.size, 2, none⟩ = some (.int .i64 u.tilt) ∧ w'.cell? ⟨wn.heap.size, 3, none⟩ = some (.int .i64 u.push) ∧ w'.cell? ⟨w.heap.size, 6, none⟩ = some (.int .i64 g.m0))) (by kernel_rfl) ⟨hI.out.g1.below (Below.refl _ _).drew, hN.out.c 0 _ rfl, hN.out.c 1 _ rfl, hN.out.c 2 _ rfl, hN.out.c 3 _ rfl, hI.out.g1.c 6 _ rfl⟩ (fun hHeld => ?_)
        (refine tkH 0 (v := ?_) ?_ ?_; rotate_left; focus (intro w' hSw; (try dsimp only at hSw); go_simp; (try with_reducible rfl)); (try simp only [Act.put, List.setIfInBounds_toArray, List.set_cons_zero, List.set_cons_succ]))
        (refine tkH 1 (v := ?_) ?_ ?_; rotate_left; focus (intro w' hSw; (try dsimp only at hSw); go_simp; (try with_reducible rfl)); (try simp only [Act.put, List.setIfInBounds_toArray, List.set_cons_zero, List.set_cons_succ]))
        (refine wpAnyH_take (i := 2) (v := _) rfl (by kernel_rfl) (by decide +kernel) (by decide +kernel) (fun _ _ _ h => h) (yieldsIf_load_mid (by kernel_rfl) 25 _ rfl (w.heap.size) 0 (by kernel_rfl) [.int .i64 g.t0, .int .i64 g.t1, .int .i64 g.t2, .int .i64 g.p0, .int .i64 g.p1, .int .i64 g.p2, .int .i64 g.m0, .int .i64 g.m1, .int .i64 g.m2, .int .i64 g.m3] _ (fun _ h => h.1.range) Tryz.underlying25 rfl grSize) (by assumption) ?_; (try simp only [Act.put, List.setIfInBounds_toArray]); (try simp only [List.set_cons_zero, List.set_cons_succ]))
        (refine tkH 3 (v := ?_) ?_ ?_; rotate_left; focus (intro w' hSw; (try dsimp only at hSw); go_simp; (try with_reducible rfl)); (try simp only [Act.put, List.setIfInBounds_toArray, List.set_cons_zero, List.set_cons_succ]))
        (refine tkH 5 (v := ?_) ?_ ?_; rotate_left; focus (intro w' hSw; (try dsimp only at hSw); go_simp; (try with_reducible rfl)); (try simp only [Act.put, List.setIfInBounds_toArray, List.set_cons_zero, List.set_cons_succ]))
        (refine wpAnyH_ready (rs := [4]) (by decide +kernel) (by simp) ?_; refine AllReadyH.cons rfl (fun K hK => ?_) AllReadyH.nil; rw [if_pos (by kernel_rfl)]; go_simp)
        refine (GradeOfR_any g u _).mono ?_
        rw [hxz.out]
        rintro e w5 ⟨rfl, hb5⟩
        have hb45 := below_of_drewN (n := 1) hb5
        have hI := Lib.hid (hI.out.step hb45)
        have hN := Lib.hid (hN.out.below hb45)
        clear hb45 hb5
        go_simp
        (refine hK.out _ _ ⟨hI.out.g1, hN.out.c 0 _ rfl, hN.out.c 1 _ rfl, hN.out.c 2 _ rfl, hN.out.c 3 _ rfl, hI.out.g1.c 6 _ rfl⟩ (fun hHeld => ?_); clear hK K; (try simp only [Act.put, List.setIfInBounds_toArray]); (try simp only [List.set_cons_zero, List.set_cons_succ]))
        (refine tkH 6 (v := ?_) ?_ ?_; rotate_left; focus (intro w' hSw; (try dsimp only at hSw); go_simp; (try with_reducible rfl)); (try simp only [Act.put, List.setIfInBounds_toArray, List.set_cons_zero, List.set_cons_succ]))
        (refine tkH 7 (v := ?_) ?_ ?_; rotate_left; focus (intro w' hSw; (try dsimp only at hSw); go_simp; (try with_reducible rfl)); (try simp only [Act.put, List.setIfInBounds_toArray, List.set_cons_zero, List.set_cons_succ]))
        (refine wpAnyH_ready (rs := [8]) (by decide +kernel) (by simp) ?_; refine AllReadyH.cons rfl (fun K hK => ?_) AllReadyH.nil; rw [if_pos (by kernel_rfl)]; go_simp)
        refine (AddMonthsR_any u.day g.m0 hrr.out.1.1 hrr.out.1.2 (by have := hrr.out.2; omega) (by have := hrr.out.2; omega) _).mono ?_
        rintro e w6 ⟨rfl, hb6⟩
        have hI := Lib.hid (hI.out.step hb6)
        have hN := Lib.hid (hN.out.below hb6)
        clear hb6
        generalize hlz : Cal.laterS u.day g.m0 = lt at *
        have hlz := Lib.hid hlz
        obtain ⟨x1, ok⟩ := lt
        go_simp
        (refine hK.out _ _ ⟨hI.out.g1, hN.out.c 0 _ rfl, hN.out.c 1 _ rfl, hN.out.c 2 _ rfl, hN.out.c 3 _ rfl, hI.out.g1.c 6 _ rfl⟩ (fun hHeld => ?_); clear hK K; (try simp only [Act.put, List.setIfInBounds_toArray]); (try simp only [List.set_cons_zero, List.set_cons_succ]))
        (refine tkH 9 (v := ?_) ?_ ?_; rotate_left; focus (intro w' hSw; (try dsimp only at hSw); go_simp; (try with_reducible rfl)); (try simp only [Act.put, List.setIfInBounds_toArray, List.set_cons_zero, List.set_cons_succ]))
        (refine tkH 10 (v := ?_) ?_ ?_; rotate_left; focus (intro w' hSw; (try dsimp only at hSw); go_simp; (try with_reducible rfl)); (try simp only [Act.put, List.setIfInBounds_toArray, List.set_cons_zero, List.set_cons_succ]))
        (refine tkH 11 (v := ?_) ?_ ?_; rotate_left; focus (intro w' hSw; (try dsimp only at hSw); go_simp; (try with_reducible rfl)); (try simp only [Act.put, List.setIfInBounds_toArray, List.set_cons_zero, List.set_cons_succ]))
        (refine tkH 12 (v := ?_) ?_ ?_; rotate_left; focus (intro w' hSw; (try dsimp only at hSw); go_simp; (try with_reducible rfl)); (try simp only [Act.put, List.setIfInBounds_toArray, List.set_cons_zero, List.set_cons_succ]))
        (refine tkH 13 (v := ?_) ?_ ?_; rotate_left; focus (intro w' hSw; (try dsimp only at hSw); go_simp; (try with_reducible rfl)); (try simp only [Act.put, List.setIfInBounds_toArray, List.set_cons_zero, List.set_cons_succ]))
        refine wpAnyH_done (by kernel_rfl) ?_ _
        cases ok
        · go_wp2_with fail
          go_ret2
          exact ⟨by rw [hdu.out]; rfl, hI.out.hb⟩
        · go_wp2_with fail
          go_ret2
          exact ⟨by rw [hdu.out]; rfl, hI.out.hb⟩
      · have hdu : Hid (Cal.nextS g m day = if (Cal.laterS u.day g.m1).2 = true then ((Cal.laterS u.day g.m1).1, 0) else (0, 2)) := by
          show _ = _
          rw [hnx.out]; unfold Cal.dueS; rw [hx, ← Cal.add_later hud.1 hud.2 (by omega) (by omega)]; rfl
        have hrr : Hid ((0 ≤ u.day ∧ u.day ≤ 200000) ∧ (0 ≤ g.m1 ∧ g.m1 ≤ 240)) := ⟨hud, by omega⟩
        have hxz := Lib.hid hx
        clear hx hmo hud
        go_wp2_with fail
        refine wp_region_held_drew (S := (fun w' => BoxAt w' w.heap.size [.int .i64 g.t0, .int .i64 g.t1, .int .i64 g.t2, .int .i64 g.p0, .int .i64 g.p1, .int .i64 g.p2, .int .i64 g.m0, .int .i64 g.m1, .int .i64 g.m2, .int .i64 g.m3] ∧ w'.cell? ⟨wn.heap.size, 0, none⟩ = some (.int .i64 u.day) ∧ w'.cell? ⟨wn.heap.size, 1, none⟩ = some (.int .i64 u.kind) ∧ w'.cell? ⟨wn.heap.size, 2, none⟩ = some (.int .i64 u.tilt) ∧ w'.cell? ⟨wn.heap.size, 3, none⟩ = some (.int .i64 u.push) ∧ w'.cell? ⟨w.heap.size, 7, none⟩ = some (.int .i64 g.m1))) (by kernel_rfl) ⟨hI.out.g1.below (Below.refl _ _).drew, hN.out.c 0 _ rfl, hN.out.c 1 _ rfl, hN.out.c 2 _ rfl, hN.out.c 3 _ rfl, hI.out.g1.c 7 _ rfl⟩ (fun hHeld => ?_)
        (refine tkH 0 (v := ?_) ?_ ?_; rotate_left; focus (intro w' hSw; (try dsimp only at hSw); go_simp; (try with_reducible rfl)); (try simp only [Act.put, List.setIfInBounds_toArray, List.set_cons_zero, List.set_cons_succ]))
        (refine tkH 1 (v := ?_) ?_ ?_; rotate_left; focus (intro w' hSw; (try dsimp only at hSw); go_simp; (try with_reducible rfl)); (try simp only [Act.put, List.setIfInBounds_toArray, List.set_cons_zero, List.set_cons_succ]))
        (refine wpAnyH_take (i := 2) (v := _) rfl (by kernel_rfl) (by decide +kernel) (by decide +kernel) (fun _ _ _ h => h) (yieldsIf_load_mid (by kernel_rfl) 25 _ rfl (w.heap.size) 0 (by kernel_rfl) [.int .i64 g.t0, .int .i64 g.t1, .int .i64 g.t2, .int .i64 g.p0, .int .i64 g.p1, .int .i64 g.p2, .int .i64 g.m0, .int .i64 g.m1, .int .i64 g.m2, .int .i64 g.m3] _ (fun _ h => h.1.range) Tryz.underlying25 rfl grSize) (by assumption) ?_; (try simp only [Act.put, List.setIfInBounds_toArray]); (try simp only [List.set_cons_zero, List.set_cons_succ]))
        (refine tkH 3 (v := ?_) ?_ ?_; rotate_left; focus (intro w' hSw; (try dsimp only at hSw); go_simp; (try with_reducible rfl)); (try simp only [Act.put, List.setIfInBounds_toArray, List.set_cons_zero, List.set_cons_succ]))
        (refine tkH 5 (v := ?_) ?_ ?_; rotate_left; focus (intro w' hSw; (try dsimp only at hSw); go_simp; (try with_reducible rfl)); (try simp only [Act.put, List.setIfInBounds_toArray, List.set_cons_zero, List.set_cons_succ]))
        (refine wpAnyH_ready (rs := [4]) (by decide +kernel) (by simp) ?_; refine AllReadyH.cons rfl (fun K hK => ?_) AllReadyH.nil; rw [if_pos (by kernel_rfl)]; go_simp)
        refine (GradeOfR_any g u _).mono ?_
        rw [hxz.out]
        rintro e w5 ⟨rfl, hb5⟩
        have hb45 := below_of_drewN (n := 1) hb5
        have hI := Lib.hid (hI.out.step hb45)
        have hN := Lib.hid (hN.out.below hb45)
        clear hb45 hb5
        go_simp
        (refine hK.out _ _ ⟨hI.out.g1, hN.out.c 0 _ rfl, hN.out.c 1 _ rfl, hN.out.c 2 _ rfl, hN.out.c 3 _ rfl, hI.out.g1.c 7 _ rfl⟩ (fun hHeld => ?_); clear hK K; (try simp only [Act.put, List.setIfInBounds_toArray]); (try simp only [List.set_cons_zero, List.set_cons_succ]))
        (refine tkH 6 (v := ?_) ?_ ?_; rotate_left; focus (intro w' hSw; (try dsimp only at hSw); go_simp; (try with_reducible rfl)); (try simp only [Act.put, List.setIfInBounds_toArray, List.set_cons_zero, List.set_cons_succ]))
        (refine tkH 7 (v := ?_) ?_ ?_; rotate_left; focus (intro w' hSw; (try dsimp only at hSw); go_simp; (try with_reducible rfl)); (try simp only [Act.put, List.setIfInBounds_toArray, List.set_cons_zero, List.set_cons_succ]))
        (refine wpAnyH_ready (rs := [8]) (by decide +kernel) (by simp) ?_; refine AllReadyH.cons rfl (fun K hK => ?_) AllReadyH.nil; rw [if_pos (by kernel_rfl)]; go_simp)
        refine (AddMonthsR_any u.day g.m1 hrr.out.1.1 hrr.out.1.2 (by have := hrr.out.2; omega) (by have := hrr.out.2; omega) _).mono ?_
        rintro e w6 ⟨rfl, hb6⟩
        have hI := Lib.hid (hI.out.step hb6)
        have hN := Lib.hid (hN.out.below hb6)
        clear hb6
        generalize hlz : Cal.laterS u.day g.m1 = lt at *
        have hlz := Lib.hid hlz
        obtain ⟨x1, ok⟩ := lt
        go_simp
        (refine hK.out _ _ ⟨hI.out.g1, hN.out.c 0 _ rfl, hN.out.c 1 _ rfl, hN.out.c 2 _ rfl, hN.out.c 3 _ rfl, hI.out.g1.c 7 _ rfl⟩ (fun hHeld => ?_); clear hK K; (try simp only [Act.put, List.setIfInBounds_toArray]); (try simp only [List.set_cons_zero, List.set_cons_succ]))
        (refine tkH 9 (v := ?_) ?_ ?_; rotate_left; focus (intro w' hSw; (try dsimp only at hSw); go_simp; (try with_reducible rfl)); (try simp only [Act.put, List.setIfInBounds_toArray, List.set_cons_zero, List.set_cons_succ]))
        (refine tkH 10 (v := ?_) ?_ ?_; rotate_left; focus (intro w' hSw; (try dsimp only at hSw); go_simp; (try with_reducible rfl)); (try simp only [Act.put, List.setIfInBounds_toArray, List.set_cons_zero, List.set_cons_succ]))
        (refine tkH 11 (v := ?_) ?_ ?_; rotate_left; focus (intro w' hSw; (try dsimp only at hSw); go_simp; (try with_reducible rfl)); (try simp only [Act.put, List.setIfInBounds_toArray, List.set_cons_zero, List.set_cons_succ]))
        (refine tkH 12 (v := ?_) ?_ ?_; rotate_left; focus (intro w' hSw; (try dsimp only at hSw); go_simp; (try with_reducible rfl)); (try simp only [Act.put, List.setIfInBounds_toArray, List.set_cons_zero, List.set_cons_succ]))
        (refine tkH 13 (v := ?_) ?_ ?_; rotate_left; focus (intro w' hSw; (try dsimp only at hSw); go_simp; (try with_reducible rfl)); (try simp only [Act.put, List.setIfInBounds_toArray, List.set_cons_zero, List.set_cons_succ]))
        refine wpAnyH_done (by kernel_rfl) ?_ _
        cases ok
        · go_wp2_with fail
          go_ret2
          exact ⟨by rw [hdu.out]; rfl, hI.out.hb⟩
        · go_wp2_with fail
          go_ret2
          exact ⟨by rw [hdu.out]; rfl, hI.out.hb⟩
      · have hdu : Hid (Cal.nextS g m day = if (Cal.laterS u.day g.m2).2 = true then ((Cal.laterS u.day g.m2).1, 0) else (0, 2)) := by
          show _ = _
          rw [hnx.out]; unfold Cal.dueS; rw [hx, ← Cal.add_later hud.1 hud.2 (by omega) (by omega)]; rfl
        have hrr : Hid ((0 ≤ u.day ∧ u.day ≤ 200000) ∧ (0 ≤ g.m2 ∧ g.m2 ≤ 240)) := ⟨hud, by omega⟩
        have hxz := Lib.hid hx
        clear hx hmo hud
        go_wp2_with fail
        refine wp_region_held_drew (S := (fun w' => BoxAt w' w.heap.size [.int .i64 g.t0, .int .i64 g.t1, .int .i64 g.t2, .int .i64 g.p0, .int .i64 g.p1, .int .i64 g.p2, .int .i64 g.m0, .int .i64 g.m1, .int .i64 g.m2, .int .i64 g.m3] ∧ w'.cell? ⟨wn.heap.size, 0, none⟩ = some (.int .i64 u.day) ∧ w'.cell? ⟨wn.heap.size, 1, none⟩ = some (.int .i64 u.kind) ∧ w'.cell? ⟨wn.heap.size, 2, none⟩ = some (.int .i64 u.tilt) ∧ w'.cell? ⟨wn.heap.size, 3, none⟩ = some (.int .i64 u.push) ∧ w'.cell? ⟨w.heap.size, 8, none⟩ = some (.int .i64 g.m2))) (by kernel_rfl) ⟨hI.out.g1.below (Below.refl _ _).drew, hN.out.c 0 _ rfl, hN.out.c 1 _ rfl, hN.out.c 2 _ rfl, hN.out.c 3 _ rfl, hI.out.g1.c 8 _ rfl⟩ (fun hHeld => ?_)
        (refine tkH 0 (v := ?_) ?_ ?_; rotate_left; focus (intro w' hSw; (try dsimp only at hSw); go_simp; (try with_reducible rfl)); (try simp only [Act.put, List.setIfInBounds_toArray, List.set_cons_zero, List.set_cons_succ]))
        (refine tkH 1 (v := ?_) ?_ ?_; rotate_left; focus (intro w' hSw; (try dsimp only at hSw); go_simp; (try with_reducible rfl)); (try simp only [Act.put, List.setIfInBounds_toArray, List.set_cons_zero, List.set_cons_succ]))
        (refine wpAnyH_take (i := 2) (v := _) rfl (by kernel_rfl) (by decide +kernel) (by decide +kernel) (fun _ _ _ h => h) (yieldsIf_load_mid (by kernel_rfl) 25 _ rfl (w.heap.size) 0 (by kernel_rfl) [.int .i64 g.t0, .int .i64 g.t1, .int .i64 g.t2, .int .i64 g.p0, .int .i64 g.p1, .int .i64 g.p2, .int .i64 g.m0, .int .i64 g.m1, .int .i64 g.m2, .int .i64 g.m3] _ (fun _ h => h.1.range) Tryz.underlying25 rfl grSize) (by assumption) ?_; (try simp only [Act.put, List.setIfInBounds_toArray]); (try simp only [List.set_cons_zero, List.set_cons_succ]))
        (refine tkH 3 (v := ?_) ?_ ?_; rotate_left; focus (intro w' hSw; (try dsimp only at hSw); go_simp; (try with_reducible rfl)); (try simp only [Act.put, List.setIfInBounds_toArray, List.set_cons_zero, List.set_cons_succ]))
        (refine tkH 5 (v := ?_) ?_ ?_; rotate_left; focus (intro w' hSw; (try dsimp only at hSw); go_simp; (try with_reducible rfl)); (try simp only [Act.put, List.setIfInBounds_toArray, List.set_cons_zero, List.set_cons_succ]))
        (refine wpAnyH_ready (rs := [4]) (by decide +kernel) (by simp) ?_; refine AllReadyH.cons rfl (fun K hK => ?_) AllReadyH.nil; rw [if_pos (by kernel_rfl)]; go_simp)
        refine (GradeOfR_any g u _).mono ?_
        rw [hxz.out]
        rintro e w5 ⟨rfl, hb5⟩
        have hb45 := below_of_drewN (n := 1) hb5
        have hI := Lib.hid (hI.out.step hb45)
        have hN := Lib.hid (hN.out.below hb45)
        clear hb45 hb5
        go_simp
        (refine hK.out _ _ ⟨hI.out.g1, hN.out.c 0 _ rfl, hN.out.c 1 _ rfl, hN.out.c 2 _ rfl, hN.out.c 3 _ rfl, hI.out.g1.c 8 _ rfl⟩ (fun hHeld => ?_); clear hK K; (try simp only [Act.put, List.setIfInBounds_toArray]); (try simp only [List.set_cons_zero, List.set_cons_succ]))
        (refine tkH 6 (v := ?_) ?_ ?_; rotate_left; focus (intro w' hSw; (try dsimp only at hSw); go_simp; (try with_reducible rfl)); (try simp only [Act.put, List.setIfInBounds_toArray, List.set_cons_zero, List.set_cons_succ]))
        (refine tkH 7 (v := ?_) ?_ ?_; rotate_left; focus (intro w' hSw; (try dsimp only at hSw); go_simp; (try with_reducible rfl)); (try simp only [Act.put, List.setIfInBounds_toArray, List.set_cons_zero, List.set_cons_succ]))
        (refine wpAnyH_ready (rs := [8]) (by decide +kernel) (by simp) ?_; refine AllReadyH.cons rfl (fun K hK => ?_) AllReadyH.nil; rw [if_pos (by kernel_rfl)]; go_simp)
        refine (AddMonthsR_any u.day g.m2 hrr.out.1.1 hrr.out.1.2 (by have := hrr.out.2; omega) (by have := hrr.out.2; omega) _).mono ?_
        rintro e w6 ⟨rfl, hb6⟩
        have hI := Lib.hid (hI.out.step hb6)
        have hN := Lib.hid (hN.out.below hb6)
        clear hb6
        generalize hlz : Cal.laterS u.day g.m2 = lt at *
        have hlz := Lib.hid hlz
        obtain ⟨x1, ok⟩ := lt
        go_simp
        (refine hK.out _ _ ⟨hI.out.g1, hN.out.c 0 _ rfl, hN.out.c 1 _ rfl, hN.out.c 2 _ rfl, hN.out.c 3 _ rfl, hI.out.g1.c 8 _ rfl⟩ (fun hHeld => ?_); clear hK K; (try simp only [Act.put, List.setIfInBounds_toArray]); (try simp only [List.set_cons_zero, List.set_cons_succ]))
        (refine tkH 9 (v := ?_) ?_ ?_; rotate_left; focus (intro w' hSw; (try dsimp only at hSw); go_simp; (try with_reducible rfl)); (try simp only [Act.put, List.setIfInBounds_toArray, List.set_cons_zero, List.set_cons_succ]))
        (refine tkH 10 (v := ?_) ?_ ?_; rotate_left; focus (intro w' hSw; (try dsimp only at hSw); go_simp; (try with_reducible rfl)); (try simp only [Act.put, List.setIfInBounds_toArray, List.set_cons_zero, List.set_cons_succ]))
        (refine tkH 11 (v := ?_) ?_ ?_; rotate_left; focus (intro w' hSw; (try dsimp only at hSw); go_simp; (try with_reducible rfl)); (try simp only [Act.put, List.setIfInBounds_toArray, List.set_cons_zero, List.set_cons_succ]))
        (refine tkH 12 (v := ?_) ?_ ?_; rotate_left; focus (intro w' hSw; (try dsimp only at hSw); go_simp; (try with_reducible rfl)); (try simp only [Act.put, List.setIfInBounds_toArray, List.set_cons_zero, List.set_cons_succ]))
        (refine tkH 13 (v := ?_) ?_ ?_; rotate_left; focus (intro w' hSw; (try dsimp only at hSw); go_simp; (try with_reducible rfl)); (try simp only [Act.put, List.setIfInBounds_toArray, List.set_cons_zero, List.set_cons_succ]))
        refine wpAnyH_done (by kernel_rfl) ?_ _
        cases ok
        · go_wp2_with fail
          go_ret2
          exact ⟨by rw [hdu.out]; rfl, hI.out.hb⟩
        · go_wp2_with fail
          go_ret2
          exact ⟨by rw [hdu.out]; rfl, hI.out.hb⟩
      · have hdu : Hid (Cal.nextS g m day = if (Cal.laterS u.day g.m3).2 = true then ((Cal.laterS u.day g.m3).1, 0) else (0, 2)) := by
          show _ = _
          rw [hnx.out]; unfold Cal.dueS; rw [hx, ← Cal.add_later hud.1 hud.2 (by omega) (by omega)]; rfl
        have hrr : Hid ((0 ≤ u.day ∧ u.day ≤ 200000) ∧ (0 ≤ g.m3 ∧ g.m3 ≤ 240)) := ⟨hud, by omega⟩
        have hxz := Lib.hid hx
        clear hx hmo hud
        go_wp2_with fail
        refine wp_region_held_drew (S := (fun w' => BoxAt w' w.heap.size [.int .i64 g.t0, .int .i64 g.t1, .int .i64 g.t2, .int .i64 g.p0, .int .i64 g.p1, .int .i64 g.p2, .int .i64 g.m0, .int .i64 g.m1, .int .i64 g.m2, .int .i64 g.m3] ∧ w'.cell? ⟨wn.heap.size, 0, none⟩ = some (.int .i64 u.day) ∧ w'.cell? ⟨wn.heap.size, 1, none⟩ = some (.int .i64 u.kind) ∧ w'.cell? ⟨wn.heap.size, 2, none⟩ = some (.int .i64 u.tilt) ∧ w'.cell? ⟨wn.heap.size, 3, none⟩ = some (.int .i64 u.push) ∧ w'.cell? ⟨w.heap.size, 9, none⟩ = some (.int .i64 g.m3))) (by kernel_rfl) ⟨hI.out.g1.below (Below.refl _ _).drew, hN.out.c 0 _ rfl, hN.out.c 1 _ rfl, hN.out.c 2 _ rfl, hN.out.c 3 _ rfl, hI.out.g1.c 9 _ rfl⟩ (fun hHeld => ?_)
        (refine tkH 0 (v := ?_) ?_ ?_; rotate_left; focus (intro w' hSw; (try dsimp only at hSw); go_simp; (try with_reducible rfl)); (try simp only [Act.put, List.setIfInBounds_toArray, List.set_cons_zero, List.set_cons_succ]))
        (refine tkH 1 (v := ?_) ?_ ?_; rotate_left; focus (intro w' hSw; (try dsimp only at hSw); go_simp; (try with_reducible rfl)); (try simp only [Act.put, List.setIfInBounds_toArray, List.set_cons_zero, List.set_cons_succ]))
        (refine wpAnyH_take (i := 2) (v := _) rfl (by kernel_rfl) (by decide +kernel) (by decide +kernel) (fun _ _ _ h => h) (yieldsIf_load_mid (by kernel_rfl) 25 _ rfl (w.heap.size) 0 (by kernel_rfl) [.int .i64 g.t0, .int .i64 g.t1, .int .i64 g.t2, .int .i64 g.p0, .int .i64 g.p1, .int .i64 g.p2, .int .i64 g.m0, .int .i64 g.m1, .int .i64 g.m2, .int .i64 g.m3] _ (fun _ h => h.1.range) Tryz.underlying25 rfl grSize) (by assumption) ?_; (try simp only [Act.put, List.setIfInBounds_toArray]); (try simp only [List.set_cons_zero, List.set_cons_succ]))
        (refine tkH 3 (v := ?_) ?_ ?_; rotate_left; focus (intro w' hSw; (try dsimp only at hSw); go_simp; (try with_reducible rfl)); (try simp only [Act.put, List.setIfInBounds_toArray, List.set_cons_zero, List.set_cons_succ]))
        (refine tkH 5 (v := ?_) ?_ ?_; rotate_left; focus (intro w' hSw; (try dsimp only at hSw); go_simp; (try with_reducible rfl)); (try simp only [Act.put, List.setIfInBounds_toArray, List.set_cons_zero, List.set_cons_succ]))
        (refine wpAnyH_ready (rs := [4]) (by decide +kernel) (by simp) ?_; refine AllReadyH.cons rfl (fun K hK => ?_) AllReadyH.nil; rw [if_pos (by kernel_rfl)]; go_simp)
        refine (GradeOfR_any g u _).mono ?_
        rw [hxz.out]
        rintro e w5 ⟨rfl, hb5⟩
        have hb45 := below_of_drewN (n := 1) hb5
        have hI := Lib.hid (hI.out.step hb45)
        have hN := Lib.hid (hN.out.below hb45)
        clear hb45 hb5
        go_simp
        (refine hK.out _ _ ⟨hI.out.g1, hN.out.c 0 _ rfl, hN.out.c 1 _ rfl, hN.out.c 2 _ rfl, hN.out.c 3 _ rfl, hI.out.g1.c 9 _ rfl⟩ (fun hHeld => ?_); clear hK K; (try simp only [Act.put, List.setIfInBounds_toArray]); (try simp only [List.set_cons_zero, List.set_cons_succ]))
        (refine tkH 6 (v := ?_) ?_ ?_; rotate_left; focus (intro w' hSw; (try dsimp only at hSw); go_simp; (try with_reducible rfl)); (try simp only [Act.put, List.setIfInBounds_toArray, List.set_cons_zero, List.set_cons_succ]))
        (refine tkH 7 (v := ?_) ?_ ?_; rotate_left; focus (intro w' hSw; (try dsimp only at hSw); go_simp; (try with_reducible rfl)); (try simp only [Act.put, List.setIfInBounds_toArray, List.set_cons_zero, List.set_cons_succ]))
        (refine wpAnyH_ready (rs := [8]) (by decide +kernel) (by simp) ?_; refine AllReadyH.cons rfl (fun K hK => ?_) AllReadyH.nil; rw [if_pos (by kernel_rfl)]; go_simp)
        refine (AddMonthsR_any u.day g.m3 hrr.out.1.1 hrr.out.1.2 (by have := hrr.out.2; omega) (by have := hrr.out.2; omega) _).mono ?_
        rintro e w6 ⟨rfl, hb6⟩
        have hI := Lib.hid (hI.out.step hb6)
        have hN := Lib.hid (hN.out.below hb6)
        clear hb6
        generalize hlz : Cal.laterS u.day g.m3 = lt at *
        have hlz := Lib.hid hlz
        obtain ⟨x1, ok⟩ := lt
        go_simp
        (refine hK.out _ _ ⟨hI.out.g1, hN.out.c 0 _ rfl, hN.out.c 1 _ rfl, hN.out.c 2 _ rfl, hN.out.c 3 _ rfl, hI.out.g1.c 9 _ rfl⟩ (fun hHeld => ?_); clear hK K; (try simp only [Act.put, List.setIfInBounds_toArray]); (try simp only [List.set_cons_zero, List.set_cons_succ]))
        (refine tkH 9 (v := ?_) ?_ ?_; rotate_left; focus (intro w' hSw; (try dsimp only at hSw); go_simp; (try with_reducible rfl)); (try simp only [Act.put, List.setIfInBounds_toArray, List.set_cons_zero, List.set_cons_succ]))
        (refine tkH 10 (v := ?_) ?_ ?_; rotate_left; focus (intro w' hSw; (try dsimp only at hSw); go_simp; (try with_reducible rfl)); (try simp only [Act.put, List.setIfInBounds_toArray, List.set_cons_zero, List.set_cons_succ]))
        (refine tkH 11 (v := ?_) ?_ ?_; rotate_left; focus (intro w' hSw; (try dsimp only at hSw); go_simp; (try with_reducible rfl)); (try simp only [Act.put, List.setIfInBounds_toArray, List.set_cons_zero, List.set_cons_succ]))
        (refine tkH 12 (v := ?_) ?_ ?_; rotate_left; focus (intro w' hSw; (try dsimp only at hSw); go_simp; (try with_reducible rfl)); (try simp only [Act.put, List.setIfInBounds_toArray, List.set_cons_zero, List.set_cons_succ]))
        (refine tkH 13 (v := ?_) ?_ ?_; rotate_left; focus (intro w' hSw; (try dsimp only at hSw); go_simp; (try with_reducible rfl)); (try simp only [Act.put, List.setIfInBounds_toArray, List.set_cons_zero, List.set_cons_succ]))
        refine wpAnyH_done (by kernel_rfl) ?_ _
        cases ok
        · go_wp2_with fail
          go_ret2
          exact ⟨by rw [hdu.out]; rfl, hI.out.hb⟩
        · go_wp2_with fail
          go_ret2
          exact ⟨by rw [hdu.out]; rfl, hI.out.hb⟩
end Go.Proofs.YtbegbajlagcbdaaGreatDoor
