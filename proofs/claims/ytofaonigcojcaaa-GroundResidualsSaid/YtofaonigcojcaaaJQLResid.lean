/- The walk of a statement. -/
import Derived.Test.YtofaonigcojcaaaJ26
import Derived.Test.YtofaonigcojcaaaJ28
import Derived.Test.YtofaonigcojcaaaJ29
import Derived.Test.YtofaonigcojcaaaJ16
import Derived.Test.YtofaonigcojcaaaJ25
import Derived.Test.YtofaonigcojcaaaJQLLoops
namespace Go.Proofs.Ytofaonigcojcaaa
open Go Go.RowKit Go.Shelf
theorem Cal.resFr_eq {n : Int} {l : List Lev} {fr : List (Int × Int)} (hz : netE n l = 0) (he : sclE n fr = 0) : resFr n l fr = l.map (lowR (sclP n fr) fr) := by
  have h1 : resE n l fr = 0 := by unfold resE; rw [if_pos hz, he]
  unfold resFr resLN resPN
  rw [if_pos h1, if_pos hz]
  unfold resL
  rw [List.map_map]
  rfl
theorem Cal.resFr_nil {n : Int} {l : List Lev} {fr : List (Int × Int)} (h : resE n l fr ≠ 0) : resFr n l fr = [] := by
  unfold resFr resLN
  rw [if_neg h]
  rfl
theorem Cal.chk_bad {n : Int} {l : List Lev} {fr : List (Int × Int)} (h : resE n l fr ≠ 0) : chkE n l fr = resE n l fr ∧ chkP n l fr = 0 := by
  unfold chkE chkP
  rw [if_neg h, if_neg h]
  exact ⟨rfl, rfl⟩
theorem Cal.chk_unb {n : Int} {l : List Lev} {fr : List (Int × Int)} (hz : netE n l = 0) (he : sclE n fr = 0) :
    (unbP n.toNat fr (sumsAll (sclP n fr) fr l) = -1 ∧ chkE n l fr = 0 ∧ chkP n l fr = 0) ∨ (0 ≤ unbP n.toNat fr (sumsAll (sclP n fr) fr l) ∧ chkE n l fr = 26 ∧ chkP n l fr = unbP n.toNat fr (sumsAll (sclP n fr) fr l)) := by
  have h1 : resE n l fr = 0 := by unfold resE; rw [if_pos hz, he]
  unfold chkE chkP unbP
  rw [if_pos h1, if_pos h1]
  by_cases hn : num0 fr = 0
  · rw [if_pos hn, if_pos hn, if_pos hn]
    cases badP n.toNat (sumsAll (sclP n fr) fr l) with
    | none => exact Or.inl ⟨rfl, rfl, rfl⟩
    | some p => exact Or.inr ⟨by simp, rfl, rfl⟩
  · rw [if_neg hn, if_neg hn, if_neg hn]
    exact Or.inr ⟨by decide, rfl, rfl⟩
set_option maxRecDepth 100000 in
set_option maxHeartbeats 4000000 in
theorem GroundResiduals_any (N : Int) (A : Option Addr) (c : Nat) (l : List Lev) (B : Option Addr) (d : Nat) (fr : List (Int × Int)) (w : World) (hR : Row30 w A l) (hF : RowsAt w B 2 (fr.map frR))
    (hv : ∀ h ∈ fr, (-9223372036854775808 ≤ h.1 ∧ h.1 ≤ 9223372036854775807) ∧ (-9223372036854775808 ≤ h.2 ∧ h.2 ≤ 9223372036854775807)) :
    Calls Try.prog 5 #[.int .i64 N, .slice A l.length c, .slice B fr.length d] w fun e w' => e = .returned (.bool true) ∧ Below w.heap.size w w' := by
  by_cases hl : 30 < l.length
  · have hl1 : 30 < (l.length : Int) := by omega
    clear hR hF hv
    go_enter Try.func5, Try.ntmps5
    go_wp2_with (go_at_call 13; refine (lawAwake_any _).mono ?_; rintro e w1 ⟨rfl, hb1⟩; replace hb1 := Lib.hid hb1)
    go_ret
    exact ⟨rfl, hb1.out⟩
  have hl1 : ¬ 30 < (l.length : Int) := by omega
  by_cases hp : 10 < fr.length
  · have hp1 : 10 < (fr.length : Int) := by omega
    clear hR hF hv
    go_enter Try.func5, Try.ntmps5
    go_wp2_with (go_at_call 13; refine (lawAwake_any _).mono ?_; rintro e w1 ⟨rfl, hb1⟩; replace hb1 := Lib.hid hb1)
    go_ret
    exact ⟨rfl, hb1.out⟩
  have hp1 : ¬ 10 < (fr.length : Int) := by omega
  have hL := hR.levs (by omega)
  have hres0 := Lib.hid (fun W (hb : Below w.heap.size w W) => Residuals_any N A c l B d fr W (hL.below hb) (hF.below hb) (by omega) hv)
  have hchk := Lib.hid (fun W (hb : Below w.heap.size w W) => CheckHeights_any N A c l B d fr W (hL.below hb) (hF.below hb) (by omega) hv)
  have hnet := Lib.hid (fun W (hb : Below w.heap.size w W) => CheckNetR_any N A c l W (hL.below hb))
  have hherr := Lib.hid (fun W (hb : Below w.heap.size w W) => HeightsErrR_any N B d fr W (hF.below hb) (by omega) hv)
  clear hR
  have hres : Hid (∀ W, Below w.heap.size w W → Calls Try.prog 25 #[.int .i64 N, .slice A l.length c, .slice B fr.length d] W fun e w' => ∃ A4 c4, e = .returned (.tuple #[.slice A4 (Cal.resFr N l fr).length c4, .int .i64 (Cal.resE N l fr)]) ∧ RowsAt w' A4 2 ((Cal.resFr N l fr).map frR) ∧ Below W.heap.size W w') := fun W hb => by
    refine (hres0.out W hb).mono ?_
    rintro e w' ⟨v, rfl, hO, hb'⟩
    obtain ⟨A4, c4, rfl, hr⟩ := hO.form
    rw [List.length_map]
    exact ⟨A4, c4, rfl, hr, hb'⟩
  clear hres0
  by_cases hz : Cal.netE N l = 0
  · by_cases he : Cal.sclE N fr = 0
    · have hE : Cal.resE N l fr = 0 := by unfold Cal.resE; rw [if_pos hz, he]
      have hfr := Cal.resFr_eq hz he
      obtain ⟨hlen, hsc2, hp1', hp2', hall⟩ := Cal.sclE_zero he
      clear hsc2
      obtain ⟨hn1, hn6, hl20, hlev, hsw⟩ := Cal.netE_zero hz
      clear hsw
      have hfit := FitL.of hz he
      have hnn : ((N.toNat : Nat) : Int) = N := by omega
      have hrr : Hid (∀ W, Below w.heap.size w W → Calls Try.prog 27 #[.slice A l.length c, .slice B fr.length d, .int .i64 (Cal.sclP N fr)] W fun e w' => ∃ A6 c6, e = .returned (.slice A6 (l.map (Cal.lowR (Cal.sclP N fr) fr)).length c6) ∧ RowsAt w' A6 2 ((l.map (Cal.lowR (Cal.sclP N fr) fr)).map frR) ∧ Below W.heap.size W w') := fun W hb => by
        refine (ResidualsR_any A c l B d fr (Cal.sclP N fr) W (hL.below hb) (hF.below hb) hfit).mono ?_
        rintro e w' ⟨v, rfl, hO, hb'⟩
        obtain ⟨A4, c4, rfl, hr⟩ := hO.form
        rw [List.length_map]
        exact ⟨A4, c4, rfl, hr, hb'⟩
      have hub := Lib.hid (fun W (hb : Below w.heap.size w W) => UnbalancedR_any N.toNat A c l B d fr (Cal.sclP N fr) W (hL.below hb) (hF.below hb) hfit (by omega) (by omega) (by omega) (fun x hx => by
        have := Cal.levE_zero (hlev x hx); omega) (Cal.sumsK_box hz he) (by omega))
      rw [hnn] at hub
      have hcu := Cal.chk_unb hz he
      rw [hfr, hE] at hres
      rw [he] at hherr
      rw [hz] at hnet
      have hlr : (l.map (Cal.lowR (Cal.sclP N fr) fr)).length ≤ 1000000 := by rw [List.length_map]; omega
      clear hL hF hv hz he hE hfr hlen hp1' hp2' hall hn1 hn6 hl20 hlev hfit hnn
      generalize l.map (Cal.lowR (Cal.sclP N fr) fr) = rs at *
      have hsf : Hid (∀ A c B d W, RowsAt W A 2 (rs.map frR) → RowsAt W B 2 (rs.map frR) → Calls Try.prog 22 #[.slice A rs.length c, .slice B rs.length d] W fun e w' => e = .returned (.bool true) ∧ Below W.heap.size W w') := fun A c B d W h1 h2 => by
        have := SameFracs_any A c rs B d rs W h1 h2 hlr
        rw [show decide (rs = rs) = true from decide_eq_true rfl] at this
        exact this
      clear hlr
      generalize Cal.unbP N.toNat fr (Cal.sumsAll (Cal.sclP N fr) fr l) = U at *
      generalize Cal.chkE N l fr = E at *
      generalize Cal.chkP N l fr = Q at *
      generalize Cal.sclP N fr = P at *
      rcases hcu with ⟨rfl, rfl, rfl⟩ | ⟨h0, rfl, rfl⟩
      · go_enter Try.func5, Try.ntmps5
        go_wp2_with (go_at_call 13; refine (lawAwake_any _).mono ?_; rintro e w1 ⟨rfl, hb1⟩; replace hb1 := Lib.hid hb1)
        go_wp2_with (first
          | (go_at_call 25; refine (hres.out _ hb1.out).mono ?_; rintro e w2 ⟨A4, c4, rfl, hr4, hb2⟩; replace hb2 := Lib.hid (below_step hb1.out hb2); replace hr4 := Lib.hid hr4; clear hres)
          | (go_at_call 24; refine (hchk.out _ hb2.out).mono ?_; rintro e w3 ⟨rfl, hb3⟩; have hr5 := Lib.hid (hr4.out.below hb3); replace hb3 := Lib.hid (below_step hb2.out hb3); clear hchk)
          | (go_at_call 19; refine (hnet.out _ hb3.out).mono ?_; rintro e w4 ⟨rfl, hb4⟩; have hr6 := Lib.hid (hr5.out.below hb4); replace hb4 := Lib.hid (below_step hb3.out hb4); clear hnet)
          | (go_at_call 26; refine (hherr.out _ hb4.out).mono ?_; rintro e w5 ⟨rfl, hb5⟩; have hr7 := Lib.hid (hr6.out.below hb5); replace hb5 := Lib.hid (below_step hb4.out hb5); clear hherr)
          | (go_at_call 27; refine (hrr.out _ hb5.out).mono ?_; rintro e w6 ⟨A6, c6, rfl, hq6, hb6⟩; have hr8 := Lib.hid (hr7.out.below hb6); replace hb6 := Lib.hid (below_step hb5.out hb6); replace hq6 := Lib.hid hq6; clear hrr)
          | (go_at_call 22; refine (hsf.out _ _ _ _ _ hr8.out hq6.out).mono ?_; rintro e w7 ⟨rfl, hb7⟩; replace hb7 := Lib.hid (below_step hb6.out hb7); clear hsf)
          | (go_at_call 28; refine (hub.out _ hb7.out).mono ?_; rintro e w8 ⟨rfl, hb8⟩; replace hb8 := Lib.hid (below_step hb7.out hb8); clear hub))
        go_ret
        exact ⟨rfl, hb8.out⟩
      · have hu : ¬ Q < 0 := by omega
        clear h0
        go_enter Try.func5, Try.ntmps5
        go_wp2_with (go_at_call 13; refine (lawAwake_any _).mono ?_; rintro e w1 ⟨rfl, hb1⟩; replace hb1 := Lib.hid hb1)
        go_wp2_with (first
          | (go_at_call 25; refine (hres.out _ hb1.out).mono ?_; rintro e w2 ⟨A4, c4, rfl, hr4, hb2⟩; replace hb2 := Lib.hid (below_step hb1.out hb2); replace hr4 := Lib.hid hr4; clear hres)
          | (go_at_call 24; refine (hchk.out _ hb2.out).mono ?_; rintro e w3 ⟨rfl, hb3⟩; have hr5 := Lib.hid (hr4.out.below hb3); replace hb3 := Lib.hid (below_step hb2.out hb3); clear hchk)
          | (go_at_call 19; refine (hnet.out _ hb3.out).mono ?_; rintro e w4 ⟨rfl, hb4⟩; have hr6 := Lib.hid (hr5.out.below hb4); replace hb4 := Lib.hid (below_step hb3.out hb4); clear hnet)
          | (go_at_call 26; refine (hherr.out _ hb4.out).mono ?_; rintro e w5 ⟨rfl, hb5⟩; have hr7 := Lib.hid (hr6.out.below hb5); replace hb5 := Lib.hid (below_step hb4.out hb5); clear hherr)
          | (go_at_call 27; refine (hrr.out _ hb5.out).mono ?_; rintro e w6 ⟨A6, c6, rfl, hq6, hb6⟩; have hr8 := Lib.hid (hr7.out.below hb6); replace hb6 := Lib.hid (below_step hb5.out hb6); replace hq6 := Lib.hid hq6; clear hrr)
          | (go_at_call 22; refine (hsf.out _ _ _ _ _ hr8.out hq6.out).mono ?_; rintro e w7 ⟨rfl, hb7⟩; replace hb7 := Lib.hid (below_step hb6.out hb7); clear hsf)
          | (go_at_call 28; refine (hub.out _ hb7.out).mono ?_; rintro e w8 ⟨rfl, hb8⟩; replace hb8 := Lib.hid (below_step hb7.out hb8); clear hub))
        go_ret
        exact ⟨rfl, hb8.out⟩
    · have hE : Cal.resE N l fr = Cal.sclE N fr := by unfold Cal.resE; rw [if_pos hz]
      have hne : Cal.resE N l fr ≠ 0 := by rw [hE]; exact he
      have hfr := Cal.resFr_nil hne
      obtain ⟨hc1, hc2⟩ := Cal.chk_bad hne
      rw [hfr, hE] at hres
      rw [hc1, hc2, hE] at hchk
      rw [hz] at hnet
      have hzb : (Cal.sclE N fr == 0) = false := by simpa using he
      have hzc : (Cal.sclE N fr != 0) = true := by simpa using he
      clear hL hF hv hz hE hne hfr hc1 hc2
      generalize Cal.sclE N fr = E at *
      generalize Cal.sclP N fr = P at *
      go_enter Try.func5, Try.ntmps5
      go_wp2_with (go_at_call 13; refine (lawAwake_any _).mono ?_; rintro e w1 ⟨rfl, hb1⟩; replace hb1 := Lib.hid hb1)
      go_wp2_with (first
        | (go_at_call 25; refine (hres.out _ hb1.out).mono ?_; rintro e w2 ⟨A4, c4, rfl, hr4, hb2⟩; replace hb2 := Lib.hid (below_step hb1.out hb2); replace hr4 := Lib.hid hr4; clear hres)
        | (go_at_call 24; refine (hchk.out _ hb2.out).mono ?_; rintro e w3 ⟨rfl, hb3⟩; have hr5 := Lib.hid (hr4.out.below hb3); replace hb3 := Lib.hid (below_step hb2.out hb3); clear hchk)
        | (go_at_call 19; refine (hnet.out _ hb3.out).mono ?_; rintro e w4 ⟨rfl, hb4⟩; have hr6 := Lib.hid (hr5.out.below hb4); replace hb4 := Lib.hid (below_step hb3.out hb4); clear hnet)
        | (go_at_call 26; refine (hherr.out _ hb4.out).mono ?_; rintro e w5 ⟨rfl, hb5⟩; have hr7 := Lib.hid (hr6.out.below hb5); replace hb5 := Lib.hid (below_step hb4.out hb5); clear hherr)
        | (go_at_call 27; refine (hrr.out _ hb5.out).mono ?_; rintro e w6 ⟨A6, c6, rfl, hq6, hb6⟩; have hr8 := Lib.hid (hr7.out.below hb6); replace hb6 := Lib.hid (below_step hb5.out hb6); replace hq6 := Lib.hid hq6; clear hrr)
        | (go_at_call 22; refine (hsf.out _ _ _ _ _ hr8.out hq6.out).mono ?_; rintro e w7 ⟨rfl, hb7⟩; replace hb7 := Lib.hid (below_step hb6.out hb7); clear hsf)
        | (go_at_call 28; refine (hub.out _ hb7.out).mono ?_; rintro e w8 ⟨rfl, hb8⟩; replace hb8 := Lib.hid (below_step hb7.out hb8); clear hub))
      go_ret
      exact ⟨rfl, hb5.out⟩
  · have hE : Cal.resE N l fr = Cal.netE N l := by unfold Cal.resE; rw [if_neg hz]
    have hne : Cal.resE N l fr ≠ 0 := by rw [hE]; exact hz
    have hfr := Cal.resFr_nil hne
    obtain ⟨hc1, hc2⟩ := Cal.chk_bad hne
    rw [hfr, hE] at hres
    rw [hc1, hc2, hE] at hchk
    have hzb : (Cal.netE N l == 0) = false := by simpa using hz
    have hzc : (Cal.netE N l != 0) = true := by simpa using hz
    clear hL hF hv hE hne hfr hc1 hc2 hherr
    generalize Cal.netE N l = E at *
    go_enter Try.func5, Try.ntmps5
    go_wp2_with (go_at_call 13; refine (lawAwake_any _).mono ?_; rintro e w1 ⟨rfl, hb1⟩; replace hb1 := Lib.hid hb1)
    go_wp2_with (first
      | (go_at_call 25; refine (hres.out _ hb1.out).mono ?_; rintro e w2 ⟨A4, c4, rfl, hr4, hb2⟩; replace hb2 := Lib.hid (below_step hb1.out hb2); replace hr4 := Lib.hid hr4; clear hres)
      | (go_at_call 24; refine (hchk.out _ hb2.out).mono ?_; rintro e w3 ⟨rfl, hb3⟩; have hr5 := Lib.hid (hr4.out.below hb3); replace hb3 := Lib.hid (below_step hb2.out hb3); clear hchk)
      | (go_at_call 19; refine (hnet.out _ hb3.out).mono ?_; rintro e w4 ⟨rfl, hb4⟩; have hr6 := Lib.hid (hr5.out.below hb4); replace hb4 := Lib.hid (below_step hb3.out hb4); clear hnet)
      | (go_at_call 26; refine (hherr.out _ hb4.out).mono ?_; rintro e w5 ⟨rfl, hb5⟩; have hr7 := Lib.hid (hr6.out.below hb5); replace hb5 := Lib.hid (below_step hb4.out hb5); clear hherr)
      | (go_at_call 27; refine (hrr.out _ hb5.out).mono ?_; rintro e w6 ⟨A6, c6, rfl, hq6, hb6⟩; have hr8 := Lib.hid (hr7.out.below hb6); replace hb6 := Lib.hid (below_step hb5.out hb6); replace hq6 := Lib.hid hq6; clear hrr)
      | (go_at_call 22; refine (hsf.out _ _ _ _ _ hr8.out hq6.out).mono ?_; rintro e w7 ⟨rfl, hb7⟩; replace hb7 := Lib.hid (below_step hb6.out hb7); clear hsf)
      | (go_at_call 28; refine (hub.out _ hb7.out).mono ?_; rintro e w8 ⟨rfl, hb8⟩; replace hb8 := Lib.hid (below_step hb7.out hb8); clear hub))
    go_ret
    exact ⟨rfl, hb4.out⟩
end Go.Proofs.Ytofaonigcojcaaa
