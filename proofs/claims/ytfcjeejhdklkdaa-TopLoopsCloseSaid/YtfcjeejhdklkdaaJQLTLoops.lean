/- The walk of a statement. -/
import Derived.Test.YtfcjeejhdklkdaaJ36
import Derived.Test.YtfcjeejhdklkdaaJ28
import Derived.Test.YtfcjeejhdklkdaaJ26
import Derived.Test.YtfcjeejhdklkdaaJQLLoops
import Derived.Test.YtfcjeejhdklkdaaJ29
import Derived.Deep.QuietTactic
import Derived.BigQuiet
namespace Go.Proofs.Ytfcjeejhdklkdaa
open Go Go.RowKit Go.Shelf
theorem ex_mis : Cal.misEN 3 (triLevs 1) [1, 2, -3] = 0 ∧ Cal.misSN 3 (triLevs 1) [1, 2, -3] = -6 := by decide +kernel
set_option maxRecDepth 100000 in
set_option maxHeartbeats 4000000 in
theorem surveyed_any (w : World) : Calls Try.prog 12 #[] w fun e w' => e = .returned (.bool true) ∧ Below w.heap.size w w' := by
  have hgap := Lib.hid (fun A1 A2 A3 S W (h : SctR W (fieldS A1 A2 A3 S)) => by
    have := Gap_any (fieldS A1 A2 A3 S) W h
    rw [field_zero, field_gap] at this
    exact this)
  have hmis := Lib.hid (fun A c O c2 W (h : Levs W A (triLevs 1)) (hI : RowsAt W O 1 (intRows [1, 2, -3])) => by
    have := Misclosure_any 3 A c (triLevs 1) O c2 [1, 2, -3] W h hI (by decide) (by decide)
    rw [ex_mis.1, ex_mis.2] at this
    exact this)
  have hnew := Lib.hid (fun (W : World) (t : TypeId) => rows_new (m := 1) W (intRows [1, 2, -3]) (intRows_wid _) #[.int .i64 1, .int .i64 2, .int .i64 (-3)] rfl t)
  go_enter Try.func12, Try.ntmps12
  go_wp2_with fail
  refine (lawTri_any _ _).mono ?_
  rintro e w1 ⟨A1, rfl, hL, hb1⟩
  have hL := Lib.hid hL
  have hb1 := Lib.hid hb1
  go_wp2_with fail
  refine (hmis.out A1 3 _ 3 _ (hL.out.below (below_alloc _ _)) (hnew.out _ _)).mono ?_
  rintro e w2 ⟨rfl, hb2⟩
  have hb2 := Lib.hid (below_step (below_step hb1.out (below_alloc _ _)) hb2)
  clear hL hb1 hmis hnew
  go_wp2_with fail
  refine (Field_any _).mono ?_
  rintro e w3 ⟨B1, B2, B3, S, rfl, hS1, hb3⟩
  have hS1 := Lib.hid hS1
  have hb3 := Lib.hid (below_step hb2.out hb3)
  go_wp2_with fail
  refine (hgap.out B1 B2 B3 S _ hS1.out).mono ?_
  rintro e w4 ⟨rfl, hb4⟩
  have hb4 := Lib.hid (below_step hb3.out hb4)
  clear hS1 hgap hb2 hb3
  go_wp2_with fail
  go_ret
  exact ⟨rfl, hb4.out⟩
theorem Cal.all_take {l : List Int} {p : Int → Bool} {k : Nat} (h : k < l.length) : (l.take (k + 1)).all p = ((l.take k).all p && p l[k]) := by
  rw [List.take_succ_eq_append_getElem h, List.all_append]; simp
theorem Cal.sumV_take (P : Int) (fr : List (Int × Int)) (l : List Lev) {lp : List Int} {k : Nat} (h : k < lp.length) : sumV P fr ((lp.take (k + 1)).map (stepL l)) = sumV P fr ((lp.take k).map (stepL l)) + resV P fr (stepL l lp[k]) := by
  rw [List.take_succ_eq_append_getElem h, List.map_append, List.map_singleton, sumV_append]
theorem Cal.low_bounds {r p : Int} (hp : 1 ≤ p ∧ p ≤ 4000000000) : 0 ≤ p.tdiv (lowD r p) ∧ p.tdiv (lowD r p) ≤ 4000000000 := by
  have hd := lowD_pos (a := r) (b := p) (by omega)
  rw [Int.tdiv_eq_ediv_of_nonneg (by omega)]
  exact ⟨Int.ediv_nonneg (by omega) (by omega), Int.le_trans (Int.ediv_le_self _ (by omega)) hp.2⟩
/-- Whether what is left of a step is nothing. -/
def Cal.nil0 (P : Int) (fr : List (Int × Int)) (l : List Lev) (n : Int) : Bool := resV P fr (l[n.natAbs - 1]?.getD noL) == 0
theorem Cal.nil_sum {P : Int} {fr : List (Int × Int)} {l : List Lev} {lp : List Int} (h : lp.all (nil0 P fr l) = true) : sumV P fr (lp.map (stepL l)) = 0 := by
  refine sumV_zero fun x hx => ?_
  obtain ⟨n, hn, rfl⟩ := List.mem_map.1 hx
  have := List.all_eq_true.1 h n hn
  unfold nil0 at this
  rw [resV_step, eq_of_beq this]
  simp
set_option maxRecDepth 100000 in
set_option maxHeartbeats 8000000 in
theorem TopLoopsClose_any (N : Int) (A : Option Addr) (c : Nat) (l : List Lev) (O : Option Addr) (c2 : Nat) (lp : List Int) (w : World) (hR : Row30 w A l) (hI : RowsAt w O 1 (intRows lp)) (hi : ∀ n ∈ lp, -9223372036854775808 ≤ n ∧ n ≤ 9223372036854775807) :
    Calls Try.prog 3 #[.int .i64 N, .slice A l.length c, .slice O lp.length c2] w fun e w' => e = .returned (.bool true) ∧ Below w.heap.size w w' := by
  by_cases hl : 30 < l.length
  · have hl1 : 30 < (l.length : Int) := by omega
    clear hR hI hi
    go_enter Try.func3, Try.ntmps3
    go_wp2_with (go_at_call 12; refine (surveyed_any _).mono ?_; rintro e w1 ⟨rfl, hb1⟩; replace hb1 := Lib.hid hb1)
    go_ret
    exact ⟨rfl, hb1.out⟩
  have hl1 : ¬ 30 < (l.length : Int) := by omega
  by_cases hp : 110 < lp.length
  · have hp1 : 110 < (lp.length : Int) := by omega
    clear hR hI hi
    go_enter Try.func3, Try.ntmps3
    go_wp2_with (go_at_call 12; refine (surveyed_any _).mono ?_; rintro e w1 ⟨rfl, hb1⟩; replace hb1 := Lib.hid hb1)
    go_ret
    exact ⟨rfl, hb1.out⟩
  have hp1 : ¬ 110 < (lp.length : Int) := by omega
  have hL := hR.levs (by omega)
  have hnet := Lib.hid (fun W (hb : Below w.heap.size w W) => CheckNetR_any N A c l W (hL.below hb))
  have hmis := Lib.hid (fun W (hb : Below w.heap.size w W) => Misclosure_any N A c l O c2 lp W (hL.below hb) (hI.below hb) (by omega) hi)
  clear hR
  by_cases hz : Cal.netE N l = 0
  · rw [hz] at hnet
    have hEN : Cal.misEN N l lp = Cal.misE l lp := by unfold Cal.misEN; rw [if_pos hz]
    have hSN : Cal.misSN N l lp = Cal.misS l lp := by unfold Cal.misSN; rw [if_pos hz]
    rw [hEN, hSN] at hmis
    clear hEN hSN
    by_cases he : Cal.misE l lp = 0
    · obtain ⟨hn1, hn6, hl20, hlev, hsw⟩ := Cal.netE_zero hz
      clear hsw
      have hv : ∀ x ∈ l, -100000 ≤ x.d ∧ x.d ≤ 100000 := fun x hx => by
        have := Cal.levE_zero (hlev x hx); omega
      have hSb := Cal.misS_box (lp := lp) hv
      have hng : Hid (∀ n ∈ lp, 1 ≤ n.natAbs ∧ n.natAbs ≤ l.length) := fun n hn => by
        have := of_decide_eq_false ((Cal.mis_good he).2 n hn)
        omega
      rw [he] at hmis
      obtain ⟨n, hn⟩ : ∃ n : Nat, N = ((n + 1 : Nat) : Int) := ⟨N.toNat - 1, by omega⟩
      have hNn : N.toNat - 1 = n := by omega
      have hz2 : Cal.netE ((n + 1 : Nat) : Int) l = 0 := by rw [← hn]; exact hz
      have hgood := Cal.heights_good hz2
      have hscl := Cal.heights_scl hz2
      have hresb := Cal.heights_res_le hz2
      have hDp := Cal.hD_pos hz2
      obtain ⟨_, hsc2, hp1', hp2', _⟩ := Cal.sclE_zero hscl
      clear hsc2
      have hfl := Cal.heights_len n l
      have hE : Cal.resE N l (Cal.heightsP n l) = 0 := by unfold Cal.resE; rw [if_pos hz, hn, hscl]
      have hfb : ∀ h ∈ Cal.heightsP n l, (-9223372036854775808 ≤ h.1 ∧ h.1 ≤ 9223372036854775807) ∧ (-9223372036854775808 ≤ h.2 ∧ h.2 ≤ 9223372036854775807) := fun h hh => by
        obtain ⟨g1, _, g3, g4⟩ := hgood h hh
        have g5 := Int.le_of_dvd hDp.1 g4
        have g6 := of_decide_eq_false g3
        omega
      have hhts : Hid (∀ W, Below w.heap.size w W → Calls Try.prog 15 #[.int .i64 N, .slice A l.length c] W fun e w' => ∃ A4 c4, e = .returned (.tuple #[.slice A4 (Cal.heightsP n l).length c4, .int .i64 0]) ∧ RowsAt w' A4 2 ((Cal.heightsP n l).map frR) ∧ Below W.heap.size W w') := fun W hb => by
        have := Heights_any N A c l W (hL.below hb)
        rw [if_pos hz, hNn, hz] at this
        refine this.mono ?_
        rintro e w' ⟨v, rfl, hO, hb'⟩
        obtain ⟨A4, c4, rfl, hr⟩ := hO.form
        rw [List.length_map]
        exact ⟨A4, c4, rfl, hr, hb'⟩
      have hher : Hid (∀ A4 c4 W, RowsAt W A4 2 ((Cal.heightsP n l).map frR) → Calls Try.prog 16 #[.int .i64 N, .slice A4 (Cal.heightsP n l).length c4] W fun e w' => e = .returned (.tuple #[.int .i64 (Cal.sclP N (Cal.heightsP n l)), .int .i64 0]) ∧ Below W.heap.size W w') := fun A4 c4 W hr => by
        have := HeightsErrR_any N A4 c4 (Cal.heightsP n l) W hr (by omega) hfb
        rw [show Cal.sclE N (Cal.heightsP n l) = 0 from by rw [hn]; exact hscl] at this
        exact this
      have hresFr : Cal.resFr N l (Cal.heightsP n l) = l.map (Cal.lowR (Cal.sclP N (Cal.heightsP n l)) (Cal.heightsP n l)) := by
        unfold Cal.resFr Cal.resLN Cal.resPN
        rw [if_pos hE, if_pos hz]
        unfold Cal.resL
        rw [List.map_map]
        rfl
      have hres : Hid (∀ A4 c4 W, RowsAt W A4 2 ((Cal.heightsP n l).map frR) → Below w.heap.size w W → Calls Try.prog 17 #[.int .i64 N, .slice A l.length c, .slice A4 (Cal.heightsP n l).length c4] W fun e w' => ∃ A6 c6, e = .returned (.tuple #[.slice A6 l.length c6, .int .i64 0]) ∧ RowsAt w' A6 2 ((l.map (Cal.lowR (Cal.sclP N (Cal.heightsP n l)) (Cal.heightsP n l))).map frR) ∧ Below W.heap.size W w') := fun A4 c4 W hr hb => by
        refine (Residuals_any N A c l A4 c4 (Cal.heightsP n l) W (hL.below hb) hr (by omega) hfb).mono ?_
        rw [hresFr, hE]
        rintro e w' ⟨v, rfl, hO, hb'⟩
        obtain ⟨A6, c6, rfl, hr'⟩ := hO.form
        rw [List.length_map, List.length_map]
        exact ⟨A6, c6, rfl, hr', hb'⟩
      have hsumV := Lib.hid (Cal.mis_sumV (Cal.sclP N (Cal.heightsP n l)) (Cal.heightsP n l) he)
      rw [← hn] at hp1' hp2' hresb
      replace hresb := Lib.hid hresb
      replace hI := Lib.hid hI
      clear hL hz hz2 he hi hn1 hn6 hlev hv hn hNn hgood hscl hDp hE hfb hresFr hfl
      generalize Cal.heightsP n l = fr at *
      generalize Cal.sclP N fr = P at *
      generalize Cal.misS l lp = M at *
      go_enter Try.func3, Try.ntmps3
      go_wp2_with (first
        | (go_at_call 12; refine (surveyed_any _).mono ?_; rintro e w1 ⟨rfl, hb1⟩; replace hb1 := Lib.hid hb1)
        | (go_at_call 13; refine (hnet.out _ hb1.out).mono ?_; rintro e w2 ⟨rfl, hb2⟩; replace hb2 := Lib.hid (below_step hb1.out hb2); clear hnet)
        | (go_at_call 14; refine (hmis.out _ hb2.out).mono ?_; rintro e w3 ⟨rfl, hb3⟩; replace hb3 := Lib.hid (below_step hb2.out hb3); clear hmis)
        | (go_at_call 15; refine (hhts.out _ hb3.out).mono ?_; rintro e w4 ⟨A4, c4, rfl, hr4, hb4⟩; replace hb4 := Lib.hid (below_step hb3.out hb4); replace hr4 := Lib.hid hr4; clear hhts)
        | (go_at_call 16; refine (hher.out _ _ _ hr4.out).mono ?_; rintro e w5 ⟨rfl, hb5⟩; have hr5 := Lib.hid (hr4.out.below hb5); replace hb5 := Lib.hid (below_step hb4.out hb5); clear hher)
        | (go_at_call 17; refine (hres.out _ _ _ hr5.out hb5.out).mono ?_; rintro e w6 ⟨A6, c6, rfl, hq6, hb6⟩; replace hb6 := Lib.hid (below_step hb5.out hb6); replace hq6 := Lib.hid hq6; clear hres))
      have hs0 : Hid (Cal.sumV P fr ((lp.take 0).map (Cal.stepL l)) = 0) := rfl
      have hbw : Hid (Below w6.heap.size w6 w6) := Below.refl _ _
      go_loopw [13, 14, 15] (fun s z i wr => ∃ k : Nat, k ≤ lp.length ∧ i = .int .i64 k ∧ s = .int .i64 (Cal.sumV P fr ((lp.take k).map (Cal.stepL l))) ∧ z = .bool ((lp.take k).all (Cal.nil0 P fr l)) ∧ Hid (-1000000000000000000 ≤ Cal.sumV P fr ((lp.take k).map (Cal.stepL l)) ∧ Cal.sumV P fr ((lp.take k).map (Cal.stepL l)) ≤ 1000000000000000000) ∧ Hid (Below w6.heap.size w6 wr)) (fun _ _ i _ => lp.length - (intOf i).toNat)
      case atStart => exact ⟨0, Nat.zero_le _, rfl, rfl, rfl, ⟨by rw [hs0.out]; decide, by rw [hs0.out]; decide⟩, hbw⟩
      case round =>
        clear hs0 hbw
        obtain ⟨k, hk, rfl, rfl, rfl, hsb, hbw⟩ := hrel
        by_cases hlt : k < lp.length
        · have hbz := Lib.hid (hb6.out.trans (hbw.out.mono hb6.out.size))
          obtain ⟨bO, oO, rfl, hbO, e0⟩ := intsI_at (hI.out.below hbz.out) hlt
          have hgm := hng.out _ (List.getElem_mem hlt)
          have hst := Cal.sumV_take P fr l hlt
          have hal := Cal.all_take (p := Cal.nil0 P fr l) hlt
          rw [Cal.resV_step] at hst
          generalize hkn : lp[k] = m at *
          clear hkn
          obtain ⟨q, hq⟩ : ∃ q : Nat, q = m.natAbs - 1 := ⟨_, rfl⟩
          have hql : q < l.length := by omega
          have hqx : l[q]? = some l[q] := List.getElem?_eq_getElem hql
          have hn0 : Cal.nil0 P fr l m = (Cal.resV P fr l[q] == 0) := by unfold Cal.nil0; rw [← hq, hqx]; rfl
          rw [hn0] at hal
          rw [← hq, hqx, Option.getD_some] at hst
          obtain ⟨r1, r2⟩ := hresb.out _ (List.getElem_mem hql)
          obtain ⟨g1, g2, g3⟩ := Cal.low_back (r := Cal.resV P fr l[q]) (p := P) (by omega)
          obtain ⟨g4, g5⟩ := Cal.low_quot (M := 10000000) (by omega) (by decide) r1 r2
          have hfq := (hq6.out.below hbw.out)
          obtain ⟨bF, oF, hA6, _, f0, f1⟩ := fr_at hfq (k := q) (x := Cal.lowR P fr l[q]) (by simp [hqx])
          subst hA6
          unfold Cal.lowR at f0 f1
          dsimp only at f0 f1
          have hki : (k : Int) < (lp.length : Int) := by omega
          have hqi : (q : Int) < (l.length : Int) := by omega
          have hab := Lib.hid (fun W => absG_any m (by omega) (by omega) W)
          have hq1 : IntKind.i64.wrap ((m.natAbs : Int) - 1) = (q : Int) := by rw [wrap_small (by omega) (by omega)]; omega
          have hq1b : wrap64 ((m.natAbs : Int) - 1) = (q : Int) := by rw [← wrap_eq]; exact hq1
          have hl3 : IntKind.i64.wrap ((l.length : Int) - 1) = (l.length : Int) - 1 := wrap_small (by omega) (by omega)
          have hl3b : wrap64 ((l.length : Int) - 1) = (l.length : Int) - 1 := by rw [← wrap_eq]; exact hl3
          have hW1 : Hid (∀ W, Calls Try.prog 19 #[.int .i64 (q : Int), .int .i64 0, .int .i64 ((l.length : Int) - 1)] W fun e w' => e = .returned (.bool true) ∧ W = w') := fun W => by
            have := Within_any (q : Int) 0 ((l.length : Int) - 1) W
            rw [show (decide ((0 : Int) ≤ (q : Int)) && decide ((q : Int) ≤ (l.length : Int) - 1)) = true from by simp; omega] at this
            exact this
          have hrb : -50000000000000000 ≤ Cal.resV P fr l[q] ∧ Cal.resV P fr l[q] ≤ 50000000000000000 := by omega
          have hlow := Cal.low_bounds (r := Cal.resV P fr l[q]) (p := P) (by omega)
          generalize Cal.resV P fr l[q] = rv at *
          generalize Cal.lowN rv P = U at *
          generalize Cal.lowD rv P = D at *
          have hW2 : Hid (∀ W, Calls Try.prog 19 #[.int .i64 (U.tdiv D), .int .i64 (-10000000), .int .i64 10000000] W fun e w' => e = .returned (.bool true) ∧ W = w') := fun W => by
            have := Within_any (U.tdiv D) (-10000000) 10000000 W
            rw [show (decide ((-10000000 : Int) ≤ U.tdiv D) && decide (U.tdiv D ≤ 10000000)) = true from by simp; omega] at this
            exact this
          have hu1 : IntKind.i64.wrap (U.tdiv D) = U.tdiv D := wrap_small (by omega) (by omega)
          have hu1b : wrap64 (U.tdiv D) = U.tdiv D := by rw [← wrap_eq]; exact hu1
          have hpd : 0 ≤ P.tdiv D ∧ P.tdiv D ≤ 4000000000 := hlow
          generalize hQ : P.tdiv D = Q at *
          generalize hV : U.tdiv D = V at *
          have hp1 : IntKind.i64.wrap Q = Q := wrap_small (by omega) (by omega)
          have hp1b : wrap64 Q = Q := by rw [← wrap_eq]; exact hp1
          have hr1 : IntKind.i64.wrap rv = rv := wrap_small (by omega) (by omega)
          have hr1b : wrap64 rv = rv := by rw [← wrap_eq]; exact hr1
          have hr2 : IntKind.i64.wrap (-rv) = -rv := wrap_small (by omega) (by omega)
          have hr2b : wrap64 (-rv) = -rv := by rw [← wrap_eq]; exact hr2
          have hD0 : ¬ D = 0 := by omega
          have hD1 : ¬ D < 1 := by omega
          have hD1b : decide (D < 1) = false := decide_eq_false hD1
          have hsb1 := hsb.out.1
          have hsb2 := hsb.out.2
          generalize Cal.sumV P fr ((lp.take k).map (Cal.stepL l)) = S at *
          generalize hS1 : Cal.sumV P fr ((lp.take (k + 1)).map (Cal.stepL l)) = S1 at *
          generalize (lp.take k).all (Cal.nil0 P fr l) = Z at *
          generalize hZ1 : (lp.take (k + 1)).all (Cal.nil0 P fr l) = Z1 at *
          replace hS1 := Lib.hid hS1
          replace hZ1 := Lib.hid hZ1
          clear r1 r2 g4 g5 hlow hpd hn0 hqx hgm hq hsb hfq hql
          replace hal := Lib.hid hal
          go_wp2_with (go_at_call 18; refine (hab.out _).mono ?_; rintro e w7 ⟨rfl, rfl⟩; clear hab)
          refine wp_region_held_drew (S := Sx wr [(bF, oF + q * 2, .int .i64 U), (bF, oF + q * 2 + 1, .int .i64 D)]) (by kernel_rfl) (Sx.mk (by simp only [cs_iff_cons]; exact ⟨f0, f1, cs_nil _⟩) (Below.refl _ _)).drew (fun hHeld => ?_)
          refine wpAnyH_hide (fun _ _ _ _ _ h => h) (fun Q0 hp0 hQ0 => ?_)
          refine tkQx 0 89 hp0 ?_
          refine tkQx 1 90 hp0 ?_
          refine tkQx 2 91 hp0 ?_
          refine tkQx 3 92 hp0 ?_
          (refine ratHx 4 (fun K hK => ?_); go_simp)
          refine (hW1.out _).mono ?_
          rintro e0 wz ⟨rfl, rfl⟩
          go_simp
          (refine hK.out _ _ hHeld (fun hHeld => ?_); clear hK K; (try simp only [Act.put, List.setIfInBounds_toArray]); (try simp only [List.set_cons_zero, List.set_cons_succ]))
          refine tkQx 5 94 hp0 ?_
          refine tkQx 6 95 hp0 ?_
          refine tkQx 7 96 hp0 ?_
          refine tkQx 8 97 hp0 ?_
          refine tkQx 9 98 hp0 ?_
          refine tkQx 10 99 hp0 ?_
          refine tkQx 11 100 hp0 ?_
          refine tkQx 12 101 hp0 ?_
          refine tkQx 13 102 hp0 ?_
          refine tkQx 14 103 hp0 ?_
          refine tkQx 15 104 hp0 ?_
          refine tkQx 16 105 hp0 ?_
          refine tkQx 17 106 hp0 ?_
          refine tkQx 18 107 hp0 ?_
          refine tkQx 19 108 hp0 ?_
          refine tkQx 20 109 hp0 ?_
          refine tkQx 21 110 hp0 ?_
          refine tkQx 22 111 hp0 ?_
          refine tkQx 23 112 hp0 ?_
          refine tkQx 24 113 hp0 ?_
          refine tkQx 25 114 hp0 ?_
          refine tkQx 26 115 hp0 ?_
          refine tkQx 27 116 hp0 ?_
          refine tkQx 28 117 hp0 ?_
          refine tkQx 29 118 hp0 ?_
          refine tkQx 30 119 hp0 ?_
          refine tkQx 31 120 hp0 ?_
          refine tkQx 32 121 hp0 ?_
          refine tkQx 33 122 hp0 ?_
          refine tkQx 34 123 hp0 ?_
          refine tkQx 35 124 hp0 ?_
          (refine ratHx 36 (fun K hK => ?_); go_simp)
          refine (hW2.out _).mono ?_
          rintro e0 wz ⟨rfl, rfl⟩
          go_simp
          (refine hK.out _ _ hHeld (fun hHeld => ?_); clear hK K; (try simp only [Act.put, List.setIfInBounds_toArray]); (try simp only [List.set_cons_zero, List.set_cons_succ]))
          refine tkQx 37 126 hp0 ?_
          refine tkQx 38 127 hp0 ?_
          refine wpAnyH_done (by kernel_rfl) ?_ _
          ((try simp only [Act.put, List.setIfInBounds_toArray]); (try simp only [List.set_cons_zero, List.set_cons_succ]))
          obtain rfl := hQ0.out
          clear hHeld hW1 hW2 hp0
          go_wp2_with fail
          refine wp_region_held_drew (S := Sx wr [(bF, oF + q * 2, .int .i64 U), (bF, oF + q * 2 + 1, .int .i64 D)]) (by kernel_rfl) (Sx.mk (by simp only [cs_iff_cons]; exact ⟨f0, f1, cs_nil _⟩) ((Below.refl _ _).drew)).drew (fun hHeld => ?_)
          generalize wr.drew.drew = Y2 at *
          refine wpAnyH_hide (fun _ _ _ _ _ h => h) (fun Q0 hp0 hQ0 => ?_)
          refine tkQx 0 128 hp0 ?_
          refine tkQx 1 129 hp0 ?_
          refine tkQx 2 130 hp0 ?_
          refine tkQx 3 131 hp0 ?_
          refine tkQx 4 132 hp0 ?_
          refine tkQx 5 133 hp0 ?_
          refine tkQx 6 134 hp0 ?_
          refine tkQx 7 135 hp0 ?_
          refine tkQx 8 136 hp0 ?_
          refine tkQx 9 137 hp0 ?_
          refine tkQx 10 138 hp0 ?_
          refine tkQx 11 139 hp0 ?_
          refine tkQx 12 140 hp0 ?_
          refine tkQx 13 17 hp0 ?_
          refine wpAnyH_done (by kernel_rfl) ?_ _
          ((try simp only [Act.put, List.setIfInBounds_toArray]); (try simp only [List.set_cons_zero, List.set_cons_succ]))
          obtain rfl := hQ0.out
          have e1 := (hHeld.bel.cell (p := ⟨bO, oO + k, none⟩) hbO).trans e0
          have hbe := Lib.hid (hbw.out.trans (hHeld.bel.mono hbw.out.size))
          clear hHeld hp0 f0 f1 e0
          by_cases hm : m < 0
          · rw [if_pos hm] at hst
            have ha1 : IntKind.i64.wrap (S + -rv) = S1 := by rw [wrap_small (by omega) (by omega)]; omega
            have ha1b : wrap64 (S + -rv) = S1 := by rw [← wrap_eq]; exact ha1
            have hab2 := Lib.hid (fun W => absG_any S1 (by omega) (by omega) W)
            clear hst hsb1 hsb2 hrb
            cases Z
            · by_cases hbig : 1000000000000000000 < (S1.natAbs : Int)
              · go_wp2_with (go_at_call 18; refine (hab2.out _).mono ?_; rintro e w8 ⟨rfl, rfl⟩; clear hab2)
                go_ret
                exact ⟨rfl, hb6.out.trans (hbe.out.mono hb6.out.size)⟩
              · go_wp2_with (go_at_call 18; refine (hab2.out _).mono ?_; rintro e w8 ⟨rfl, rfl⟩; clear hab2)
                go_roundw
                case rel => exact ⟨k + 1, by omega, by go_num, by rw [hS1.out], by rw [hZ1.out, hal.out]; rfl, ⟨by rw [hS1.out]; omega, by rw [hS1.out]; omega⟩, hbe⟩
                case measure => simp [intOf]; omega
            · by_cases hbig : 1000000000000000000 < (S1.natAbs : Int)
              · go_wp2_with (go_at_call 18; refine (hab2.out _).mono ?_; rintro e w8 ⟨rfl, rfl⟩; clear hab2)
                go_ret
                exact ⟨rfl, hb6.out.trans (hbe.out.mono hb6.out.size)⟩
              · go_wp2_with (go_at_call 18; refine (hab2.out _).mono ?_; rintro e w8 ⟨rfl, rfl⟩; clear hab2)
                go_roundw
                case rel => exact ⟨k + 1, by omega, by go_num, by rw [hS1.out], by rw [hZ1.out, hal.out]; rfl, ⟨by rw [hS1.out]; omega, by rw [hS1.out]; omega⟩, hbe⟩
                case measure => simp [intOf]; omega
          · rw [if_neg hm] at hst
            have ha1 : IntKind.i64.wrap (S + rv) = S1 := by rw [wrap_small (by omega) (by omega)]; omega
            have ha1b : wrap64 (S + rv) = S1 := by rw [← wrap_eq]; exact ha1
            have hab2 := Lib.hid (fun W => absG_any S1 (by omega) (by omega) W)
            clear hst hsb1 hsb2 hrb
            cases Z
            · by_cases hbig : 1000000000000000000 < (S1.natAbs : Int)
              · go_wp2_with (go_at_call 18; refine (hab2.out _).mono ?_; rintro e w8 ⟨rfl, rfl⟩; clear hab2)
                go_ret
                exact ⟨rfl, hb6.out.trans (hbe.out.mono hb6.out.size)⟩
              · go_wp2_with (go_at_call 18; refine (hab2.out _).mono ?_; rintro e w8 ⟨rfl, rfl⟩; clear hab2)
                go_roundw
                case rel => exact ⟨k + 1, by omega, by go_num, by rw [hS1.out], by rw [hZ1.out, hal.out]; rfl, ⟨by rw [hS1.out]; omega, by rw [hS1.out]; omega⟩, hbe⟩
                case measure => simp [intOf]; omega
            · by_cases hbig : 1000000000000000000 < (S1.natAbs : Int)
              · go_wp2_with (go_at_call 18; refine (hab2.out _).mono ?_; rintro e w8 ⟨rfl, rfl⟩; clear hab2)
                go_ret
                exact ⟨rfl, hb6.out.trans (hbe.out.mono hb6.out.size)⟩
              · go_wp2_with (go_at_call 18; refine (hab2.out _).mono ?_; rintro e w8 ⟨rfl, rfl⟩; clear hab2)
                go_roundw
                case rel => exact ⟨k + 1, by omega, by go_num, by rw [hS1.out], by rw [hZ1.out, hal.out]; rfl, ⟨by rw [hS1.out]; omega, by rw [hS1.out]; omega⟩, hbe⟩
                case measure => simp [intOf]; omega
        · obtain rfl : k = lp.length := by omega
          have hbe := Lib.hid (hb6.out.trans (hbw.out.mono hb6.out.size))
          have hmp := mul_le_of (a := M) (b := P) (M := 20000000) (N := 4000000000) (by omega) (by omega) (by omega) (by omega)
          obtain ⟨T, hT⟩ : ∃ T, T = M * P := ⟨_, rfl⟩
          have hw1 : IntKind.i64.wrap (M * P) = T := by rw [wrap_small (by omega) (by omega)]; exact hT.symm
          have hw1b : wrap64 (M * P) = T := by rw [← wrap_eq]; exact hw1
          rw [List.take_length, hsumV.out, ← hT]
          clear hT
          by_cases hM : M = 0
          · have hM1 : (M == 0) = true := by simpa using hM
            clear hsumV hsb hmp hresb hng hM
            generalize lp.all (Cal.nil0 P fr l) = Z at *
            go_wp2_with fail
            go_ret
            exact ⟨rfl, hbe.out⟩
          · have hM1 : (M == 0) = false := by simpa using hM
            have hZ : lp.all (Cal.nil0 P fr l) = false := by
              cases h : lp.all (Cal.nil0 P fr l)
              · rfl
              · have h2 := Cal.nil_sum h
                rw [hsumV.out] at h2
                rcases Int.mul_eq_zero.1 h2 with h3 | h3
                · exact absurd h3 hM
                · omega
            rw [hZ]
            clear hsumV hsb hmp hresb hng hZ
            go_wp2_with fail
            go_ret
            exact ⟨rfl, hbe.out⟩
    · have heb : (Cal.misE l lp == 0) = false := by simpa using he
      have hec : (Cal.misE l lp != 0) = true := by simpa using he
      have hS0 : Cal.misS l lp = 0 := by unfold Cal.misS; rw [if_neg he]
      rw [hS0] at hmis
      clear hL hI hz hS0
      generalize Cal.misE l lp = E at *
      go_enter Try.func3, Try.ntmps3
      go_wp2_with (first
        | (go_at_call 12; refine (surveyed_any _).mono ?_; rintro e w1 ⟨rfl, hb1⟩; replace hb1 := Lib.hid hb1)
        | (go_at_call 13; refine (hnet.out _ hb1.out).mono ?_; rintro e w2 ⟨rfl, hb2⟩; replace hb2 := Lib.hid (below_step hb1.out hb2); clear hnet)
        | (go_at_call 14; refine (hmis.out _ hb2.out).mono ?_; rintro e w3 ⟨rfl, hb3⟩; replace hb3 := Lib.hid (below_step hb2.out hb3); clear hmis)
        | (go_at_call 15; refine (hhts.out _ hb3.out).mono ?_; rintro e w4 ⟨A4, c4, rfl, hr4, hb4⟩; replace hb4 := Lib.hid (below_step hb3.out hb4); replace hr4 := Lib.hid hr4; clear hhts)
        | (go_at_call 16; refine (hher.out _ _ _ hr4.out).mono ?_; rintro e w5 ⟨rfl, hb5⟩; have hr5 := Lib.hid (hr4.out.below hb5); replace hb5 := Lib.hid (below_step hb4.out hb5); clear hher)
        | (go_at_call 17; refine (hres.out _ _ _ hr5.out hb5.out).mono ?_; rintro e w6 ⟨A6, c6, rfl, hq6, hb6⟩; replace hb6 := Lib.hid (below_step hb5.out hb6); replace hq6 := Lib.hid hq6; clear hres))
      go_ret
      exact ⟨rfl, hb3.out⟩
  · have hzb : (Cal.netE N l == 0) = false := by simpa using hz
    have hzc : (Cal.netE N l != 0) = true := by simpa using hz
    clear hL hI hmis
    generalize Cal.netE N l = E at *
    go_enter Try.func3, Try.ntmps3
    go_wp2_with (first
      | (go_at_call 12; refine (surveyed_any _).mono ?_; rintro e w1 ⟨rfl, hb1⟩; replace hb1 := Lib.hid hb1)
      | (go_at_call 13; refine (hnet.out _ hb1.out).mono ?_; rintro e w2 ⟨rfl, hb2⟩; replace hb2 := Lib.hid (below_step hb1.out hb2); clear hnet)
      | (go_at_call 14; refine (hmis.out _ hb2.out).mono ?_; rintro e w3 ⟨rfl, hb3⟩; replace hb3 := Lib.hid (below_step hb2.out hb3); clear hmis)
      | (go_at_call 15; refine (hhts.out _ hb3.out).mono ?_; rintro e w4 ⟨A4, c4, rfl, hr4, hb4⟩; replace hb4 := Lib.hid (below_step hb3.out hb4); replace hr4 := Lib.hid hr4; clear hhts)
      | (go_at_call 16; refine (hher.out _ _ _ hr4.out).mono ?_; rintro e w5 ⟨rfl, hb5⟩; have hr5 := Lib.hid (hr4.out.below hb5); replace hb5 := Lib.hid (below_step hb4.out hb5); clear hher)
      | (go_at_call 17; refine (hres.out _ _ _ hr5.out hb5.out).mono ?_; rintro e w6 ⟨A6, c6, rfl, hq6, hb6⟩; replace hb6 := Lib.hid (below_step hb5.out hb6); replace hq6 := Lib.hid hq6; clear hres))
    go_ret
    exact ⟨rfl, hb2.out⟩
end Go.Proofs.Ytfcjeejhdklkdaa
