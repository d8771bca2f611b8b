/- The walks: CheckProvisions of the reference; valueOf, Has. -/
import Derived.Test.YtoigamkldccnkaaDoorW14
namespace Go.Proofs.YtoigamkldccnkaaDoor
open Go Go.RowKit
theorem Cal.provErr_en {p : Prov} (h : Cal.provErrOf p = 0) : 0 ≤ p.en := by
  unfold Cal.provErrOf Cal.provErr at h
  split at h
  · split at h
    · omega
    · omega
  · omega
def PrevEn (l : List Prov) (k : Nat) (e0 : Int) : Prop := (k = 0 ∧ e0 = 0) ∨ (0 < k ∧ ∃ q, l[k - 1]? = some q ∧ q.en = e0)
set_option maxHeartbeats 1000000 in
theorem CheckProvisionsR_any (A : Option Addr) (c : Nat) (l : List Prov) (w : World) (hl : Provs w A l) :
    Calls Tryd.prog 53 #[.slice A l.length c] w fun e w' => e = .returned (.int .i64 (Cal.provsErr l)) ∧ Below w.heap.size w w' := by
  have hsz := hl.size
  by_cases hbig : 200 < l.length
  · have hfin : Hid (Cal.provsErr l = 8) := by show _ = _; unfold Cal.provsErr; rw [if_pos hbig]
    go_enter Tryd.func53, Tryd.ntmps53
    go_wp2
    go_ret
    exact ⟨ret_int hfin.out.symm, Below.refl _ _⟩
  · have hfin : Hid (Cal.provsErr l = Cal.provsErrFrom 0 l) := by show _ = _; unfold Cal.provsErr; rw [if_neg hbig]
    have hl' := Lib.hid hl
    clear hl
    go_enter Tryd.func53, Tryd.ntmps53
    go_wp2
    go_loopw [3] (fun i wr => ∃ (k : Nat) (e0 : Int), k ≤ l.length ∧ i = .int .i64 k ∧ Hid (PrevEn l k e0) ∧ Hid (Cal.provsErr l = Cal.provsErrFrom e0 (l.drop k)) ∧ Below w.heap.size w wr) (fun i _ => l.length - (intOf i).toNat)
    case atStart => exact ⟨0, 0, Nat.zero_le _, rfl, .inl ⟨rfl, rfl⟩, hfin, Below.refl _ _⟩
    case round =>
      obtain ⟨k, e0, hk, rfl, hprev, hinv, hb⟩ := hrel
      clear hfin
      by_cases hlt : k < l.length
      · have hk' : l[k]? = some l[k] := List.getElem?_eq_getElem hlt
        have hk2 := Lib.hid hk'
        have hd := Lib.hid (List.drop_eq_getElem_cons hlt)
        have hnm := hl'.out.names k _ hk'
        obtain ⟨b, o, rfl, hbl, c0, c1, c2, c3, c4⟩ := (hl'.out.below hb).at_ hk'
        clear hk'
        generalize l[k] = p at *
        have hbs := hb.size
        by_cases hp0 : Cal.provErrOf p = 0
        · have hpz := Lib.hid hp0
          have hen := Cal.provErr_en hp0
          have hp1 : (Cal.provErr p.name p.value p.fr p.en p.repeal != 0) = false := by simpa [Cal.provErrOf] using hp0
          clear hp0
          by_cases hk0 : k = 0
          · subst hk0
            simp only [Nat.zero_mul, Nat.add_zero] at c0 c1 c2 c3 c4
            have hnx : Hid (Cal.provsErr l = Cal.provsErrFrom p.en (l.drop (0 + 1))) := by
              show _ = _; rw [hinv.out, hd.out, Cal.provsErrFrom_cons, if_pos hpz.out, if_neg (by rcases hprev.out with ⟨_, h⟩ | ⟨h, _⟩ <;> omega)]
            go_wp2_with (go_at_call 94; refine (ProvisionErr_any _ _ _ _ _ _ hnm).mono ?_; rintro e w1 ⟨rfl, hb1⟩; obtain ⟨hc1, hf1⟩ := bcell hb1)
            go_quiet (fail)
            go_wp2_with fail
            go_roundw
            case rel => exact ⟨1, p.en, by omega, rfl, .inr ⟨by omega, p, hk2.out, rfl⟩, hnx, below_drewN (below_step hb hb1) _⟩
            case measure => simp [intOf]; omega
          · have hk1 : 0 < k := by omega
            obtain ⟨q, hq1, hq2⟩ : ∃ q, l[k - 1]? = some q ∧ q.en = e0 := by
              rcases hprev.out with ⟨h, _⟩ | ⟨_, h⟩
              · omega
              · exact h
            subst hq2
            obtain ⟨b', o', hA', hbl', d0, d1, d2, d3, d4⟩ := (hl'.out.below hb).at_ hq1
            simp only [Option.some.injEq, Addr.mk.injEq, and_true] at hA'
            obtain ⟨rfl, rfl⟩ := hA'
            clear d0 d1 d2 d4 hq1 hk0
            have hix : ((k : Int) - 1).toNat = k - 1 := by omega
            by_cases hlt2 : p.en < q.en
            · have hfin : Hid (Cal.provsErr l = 9) := by show _ = _; rw [hinv.out, hd.out, Cal.provsErrFrom_cons, if_pos hpz.out, if_pos hlt2]
              go_wp2_with (go_at_call 94; refine (ProvisionErr_any _ _ _ _ _ _ hnm).mono ?_; rintro e w1 ⟨rfl, hb1⟩; obtain ⟨hc1, hf1⟩ := bcell hb1)
              go_quiet (fail)
              go_wp2_with fail
              go_ret
              exact ⟨ret_int hfin.out.symm, below_drewN (below_step hb hb1) _⟩
            · have hnx : Hid (Cal.provsErr l = Cal.provsErrFrom p.en (l.drop (k + 1))) := by show _ = _; rw [hinv.out, hd.out, Cal.provsErrFrom_cons, if_pos hpz.out, if_neg hlt2]
              go_wp2_with (go_at_call 94; refine (ProvisionErr_any _ _ _ _ _ _ hnm).mono ?_; rintro e w1 ⟨rfl, hb1⟩; obtain ⟨hc1, hf1⟩ := bcell hb1)
              go_quiet (fail)
              go_wp2_with fail
              go_roundw
              case rel => exact ⟨k + 1, p.en, by omega, by go_num, .inr ⟨by omega, p, hk2.out, rfl⟩, hnx, below_drewN (below_step hb hb1) _⟩
              case measure => simp [intOf]; omega
        · have hp1 : (Cal.provErr p.name p.value p.fr p.en p.repeal != 0) = true := by simpa [Cal.provErrOf] using hp0
          have hfin : Hid (Cal.provsErr l = Cal.provErr p.name p.value p.fr p.en p.repeal) := by show _ = _; rw [hinv.out, hd.out, Cal.provsErrFrom_cons, if_neg hp0]; rfl
          clear hp0
          go_wp2_with (go_at_call 94; refine (ProvisionErr_any _ _ _ _ _ _ hnm).mono ?_; rintro e w1 ⟨rfl, hb1⟩; obtain ⟨hc1, hf1⟩ := bcell hb1)
          go_ret
          exact ⟨ret_int hfin.out.symm, below_step hb hb1⟩
      · obtain rfl : k = l.length := by omega
        have hfin : Hid (Cal.provsErr l = 0) := by show _ = _; rw [hinv.out, List.drop_length]; rfl
        clear hinv
        go_wp2
        go_ret
        exact ⟨ret_int hfin.out.symm, hb⟩
end Go.Proofs.YtoigamkldccnkaaDoor
