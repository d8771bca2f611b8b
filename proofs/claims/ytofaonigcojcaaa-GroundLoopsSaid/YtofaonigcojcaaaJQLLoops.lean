/- The walk of a statement. -/
import Derived.Test.YtofaonigcojcaaaJ17
import Derived.Test.YtofaonigcojcaaaJ25
namespace Go.Proofs.Ytofaonigcojcaaa
open Go Go.RowKit Go.Shelf
def Row30 (w : World) (A : Option Addr) (l : List Lev) : Prop := RowsAt w A 4 (l.map Lev.cells)
theorem Row30.levs {w : World} {A : Option Addr} {l : List Lev} (h : Row30 w A l) (hl : l.length ≤ 1000000) : Levs w A l := ⟨h, hl⟩
set_option maxRecDepth 100000 in
set_option maxHeartbeats 4000000 in
theorem GroundLoops_any (N : Int) (A : Option Addr) (c : Nat) (l : List Lev) (O : Option Addr) (c2 : Nat) (lp : List Int) (w : World) (hR : Row30 w A l) (hI : RowsAt w O 1 (intRows lp)) (hi : ∀ n ∈ lp, -9223372036854775808 ≤ n ∧ n ≤ 9223372036854775807) :
    Calls Try.prog 6 #[.int .i64 N, .slice A l.length c, .slice O lp.length c2] w fun e w' => e = .returned (.bool true) ∧ Below w.heap.size w w' := by
  by_cases hl : 30 < l.length
  · have hl1 : 30 < (l.length : Int) := by omega
    clear hR hI hi
    go_enter Try.func6, Try.ntmps6
    go_wp2_with (go_at_call 13; refine (lawAwake_any _).mono ?_; rintro e w1 ⟨rfl, hb1⟩; replace hb1 := Lib.hid hb1)
    go_ret
    exact ⟨rfl, hb1.out⟩
  have hl1 : ¬ 30 < (l.length : Int) := by omega
  by_cases hp : 110 < lp.length
  · have hp1 : 110 < (lp.length : Int) := by omega
    clear hR hI hi
    go_enter Try.func6, Try.ntmps6
    go_wp2_with (go_at_call 13; refine (lawAwake_any _).mono ?_; rintro e w1 ⟨rfl, hb1⟩; replace hb1 := Lib.hid hb1)
    go_ret
    exact ⟨rfl, hb1.out⟩
  have hp1 : ¬ 110 < (lp.length : Int) := by omega
  have hL := hR.levs (by omega)
  have hmis := Lib.hid (fun W (hb : Below w.heap.size w W) => Misclosure_any N A c l O c2 lp W (hL.below hb) (hI.below hb) (by omega) hi)
  have hnet := Lib.hid (fun W (hb : Below w.heap.size w W) => CheckNetR_any N A c l W (hL.below hb))
  clear hR
  by_cases hz : Cal.netE N l = 0
  · obtain ⟨_, _, hl20, hlev, _⟩ := Cal.netE_zero hz
    have hv : ∀ x ∈ l, -100000 ≤ x.d ∧ x.d ≤ 100000 := fun x hx => by
      have := Cal.levE_zero (hlev x hx); omega
    have hmr := Lib.hid (fun W (hb : Below w.heap.size w W) => MisclosureR_any A c l O c2 lp W (hL.below hb) (hI.below hb) (by omega) hv)
    have hEN : Cal.misEN N l lp = Cal.misE l lp := by unfold Cal.misEN; rw [if_pos hz]
    have hSN : Cal.misSN N l lp = Cal.misS l lp := by unfold Cal.misSN; rw [if_pos hz]
    rw [hEN, hSN] at hmis
    rw [hz] at hnet
    by_cases he : Cal.misE l lp = 0
    · have hng : Hid (∀ n ∈ lp, n.natAbs ≤ l.length) := fun n hn => by
        have := of_decide_eq_false ((Cal.mis_good he).2 n hn)
        omega
      have hbk := Cal.mis_back he
      have hmb := Lib.hid (fun A4 c4 W (hb : Below w.heap.size w W) (hI4 : RowsAt W A4 1 (intRows (Cal.backN lp))) => by
        have := Misclosure_any N A c l A4 c4 (Cal.backN lp) W (hL.below hb) hI4 (by simp [Cal.backN]; omega) (fun n hn => by
          unfold Cal.backN at hn
          rw [List.mem_reverse] at hn
          obtain ⟨m, hm, rfl⟩ := List.mem_map.1 hn
          have := hng.out m hm
          omega)
        rw [show Cal.misEN N l (Cal.backN lp) = 0 from by unfold Cal.misEN; rw [if_pos hz]; exact hbk.1, show Cal.misSN N l (Cal.backN lp) = - Cal.misS l lp from by unfold Cal.misSN; rw [if_pos hz]; exact hbk.2] at this
        exact this)
      have hbl : Hid ((Cal.backN lp).length = lp.length) := by show _ = _; simp [Cal.backN]
      have hbg : Hid (∀ k (h : k < lp.length), (Cal.backN lp).take (k + 1) = (Cal.backN lp).take k ++ [-(lp[lp.length - 1 - k])]) := fun k h => Cal.backN_take h
      have hSb := Cal.misS_box (lp := lp) hv
      rw [he] at hmis hmr
      replace hI := Lib.hid hI
      clear hL hz hEN hSN he hbk hv hlev hl20
      generalize Cal.misS l lp = S at *
      generalize Cal.backN lp = bk at *
      have hnS : IntKind.i64.wrap (-S) = -S := wrap_small (by omega) (by omega)
      go_enter Try.func6, Try.ntmps6
      go_wp2_with (go_at_call 13; refine (lawAwake_any _).mono ?_; rintro e w1 ⟨rfl, hb1⟩; replace hb1 := Lib.hid hb1)
      go_wp2_with (first
        | (go_at_call 29; refine (hmis.out _ hb1.out).mono ?_; rintro e w2 ⟨rfl, hb2⟩; replace hb2 := Lib.hid (below_step hb1.out hb2); clear hmis)
        | (go_at_call 19; refine (hnet.out _ hb2.out).mono ?_; rintro e w3 ⟨rfl, hb3⟩; replace hb3 := Lib.hid (below_step hb2.out hb3); clear hnet)
        | (go_at_call 30; refine (hmr.out _ hb3.out).mono ?_; rintro e w4 ⟨rfl, hb4⟩; replace hb4 := Lib.hid (below_step hb3.out hb4); clear hmr))
      have hN0 : Hid (IntsL w4 w4.heap.size (.slice none 0 0) (bk.take 0)) := by show IntsL _ _ _ _; rw [List.take_zero]; exact OwnL.nil _ _ _ _
      have hbw : Hid (Below w4.heap.size w4 w4) := Below.refl _ _
      go_loopw [12, 13] (fun bv i wr => ∃ (k : Nat) (v : Value), k ≤ lp.length ∧ i = .int .i64 ((lp.length : Int) - 1 - k) ∧ bv = v ∧ Hid (IntsL wr w4.heap.size v (bk.take k)) ∧ Hid (Below w4.heap.size w4 wr)) (fun _ i _ => (intOf i + 1).toNat)
      case atStart => exact ⟨0, _, Nat.zero_le _, by go_num, rfl, hN0, hbw⟩
      case round =>
        clear hN0 hbw
        obtain ⟨k, v, hk, rfl, rfl, hB, hbw⟩ := hrel
        have hBl : (bk.take k).length = k := by rw [List.length_take, hbl.out]; omega
        by_cases hlt : k < lp.length
        · have hq : lp.length - 1 - k < lp.length := by omega
          obtain ⟨q, hqe⟩ : ∃ q, q = lp.length - 1 - k := ⟨_, rfl⟩
          have hqi : (lp.length : Int) - 1 - k = (q : Int) := by omega
          have hnx := hbg.out k hlt
          rw [hqi]
          have hgq := hng.out _ (List.getElem_mem hq)
          obtain ⟨b, o, rfl, hbx, e0⟩ := intsI_at (hI.out.below ((hb4.out.trans (hbw.out.mono hb4.out.size)))) hq
          generalize lp[lp.length - 1 - k] = n at *
          rw [← hqe] at e0
          have hnn : IntKind.i64.wrap (-n) = -n := wrap_small (by omega) (by omega)
          have hq2 : (q : Int) < (lp.length : Int) := by omega
          have hq3 : (0 : Int) ≤ (q : Int) := by omega
          have hq4 : IntKind.i64.wrap ((q : Int) - 1) = (q : Int) - 1 := wrap_small (by omega) (by omega)
          have hszc : (bk.take k).length ≤ 1000000 := by omega
          have hqf : Hid ((q : Int) - 1 = (lp.length : Int) - 1 - ((k + 1 : Nat) : Int)) := by show _ = _; omega
          have hwz := hbw.out.size
          replace hnx := Lib.hid hnx
          clear hqe hqi hBl
          go_wp2_with (at_builtin; refine wpPushI (-n) hB.out hwz hszc rfl _ _ rfl rfl rfl ?_; intro v' w6 hown6 hb6; have hB2 := Lib.hid hown6; have hbw2 := Lib.hid (hbw.out.trans hb6); clear hown6 hb6)
          go_roundw
          case rel => exact ⟨k + 1, _, by omega, by first | rw [← hqf.out] | (rw [← hqf.out]; go_num), rfl, by rw [hnx.out]; exact hB2, hbw2⟩
          case measure => simp [intOf]
        · obtain rfl : k = lp.length := by omega
          have hi0 : (lp.length : Int) - 1 - (lp.length : Int) = -1 := by omega
          rw [hi0]
          rw [List.take_of_length_le (Nat.le_of_eq hbl.out)] at hB
          obtain ⟨A4, c4, rfl, hr4⟩ := hB.out.rows
          have hcall := Lib.hid (hmb.out A4 c4 wr (hb4.out.trans (hbw.out.mono hb4.out.size)) hr4)
          have hbz := Lib.hid (hb4.out.trans (hbw.out.mono hb4.out.size))
          clear hBl hB hr4 hmb hbg hng
          go_wp2_with (go_at_call 29; refine hcall.out.mono ?_; rintro e w5 ⟨rfl, hb5⟩; replace hb5 := Lib.hid (below_step hbz.out hb5); clear hcall)
          go_ret
          exact ⟨rfl, hb5.out⟩
    · have heb : (Cal.misE l lp == 0) = false := by simpa using he
      have hec : (Cal.misE l lp != 0) = true := by simpa using he
      have hS0 : Cal.misS l lp = 0 := by unfold Cal.misS; rw [if_neg he]
      rw [hS0] at hmis hmr
      clear hL hI hz hEN hSN hv hlev hl20 hS0
      generalize Cal.misE l lp = E at *
      go_enter Try.func6, Try.ntmps6
      go_wp2_with (go_at_call 13; refine (lawAwake_any _).mono ?_; rintro e w1 ⟨rfl, hb1⟩; replace hb1 := Lib.hid hb1)
      go_wp2_with (first
        | (go_at_call 29; refine (hmis.out _ hb1.out).mono ?_; rintro e w2 ⟨rfl, hb2⟩; replace hb2 := Lib.hid (below_step hb1.out hb2); clear hmis)
        | (go_at_call 19; refine (hnet.out _ hb2.out).mono ?_; rintro e w3 ⟨rfl, hb3⟩; replace hb3 := Lib.hid (below_step hb2.out hb3); clear hnet)
        | (go_at_call 30; refine (hmr.out _ hb3.out).mono ?_; rintro e w4 ⟨rfl, hb4⟩; replace hb4 := Lib.hid (below_step hb3.out hb4); clear hmr))
      go_ret
      exact ⟨rfl, hb4.out⟩
  · have hzb : (Cal.netE N l == 0) = false := by simpa using hz
    have hzc : (Cal.netE N l != 0) = true := by simpa using hz
    have hEN : Cal.misEN N l lp = Cal.netE N l := by unfold Cal.misEN; rw [if_neg hz]
    have hSN : Cal.misSN N l lp = 0 := by unfold Cal.misSN; rw [if_neg hz]
    rw [hEN, hSN] at hmis
    have hmr := hnet
    clear hL hI hEN hSN
    generalize Cal.netE N l = E at *
    go_enter Try.func6, Try.ntmps6
    go_wp2_with (go_at_call 13; refine (lawAwake_any _).mono ?_; rintro e w1 ⟨rfl, hb1⟩; replace hb1 := Lib.hid hb1)
    go_wp2_with (first
      | (go_at_call 29; refine (hmis.out _ hb1.out).mono ?_; rintro e w2 ⟨rfl, hb2⟩; replace hb2 := Lib.hid (below_step hb1.out hb2); clear hmis)
      | (go_at_call 19; refine (hnet.out _ hb2.out).mono ?_; rintro e w3 ⟨rfl, hb3⟩; replace hb3 := Lib.hid (below_step hb2.out hb3); clear hnet)
      | (go_at_call 30; refine (hmr.out _ hb3.out).mono ?_; rintro e w4 ⟨rfl, hb4⟩; replace hb4 := Lib.hid (below_step hb3.out hb4); clear hmr))
    go_ret
    exact ⟨rfl, hb3.out⟩
end Go.Proofs.Ytofaonigcojcaaa
