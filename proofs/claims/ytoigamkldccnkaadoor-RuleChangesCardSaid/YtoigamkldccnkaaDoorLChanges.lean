/- The walk of the statement RuleChanges. -/
import Derived.Test.YtoigamkldccnkaaDoorCalChg
import Derived.Test.YtoigamkldccnkaaDoorLSources
namespace Go.Proofs.YtoigamkldccnkaaDoor
open Go Go.RowKit
theorem chg_at {w : World} {A : Option Addr} {cs : List Chg} (h : RowsAt w A 3 (cs.map Chg.cells)) {k : Nat} {x : Chg} (hk : cs[k]? = some x) : ∃ b o, A = some ⟨b, o, none⟩ ∧ b < w.heap.size ∧ w.cell? ⟨b, o + k * 3, none⟩ = some (.int .i64 x.day) ∧ w.cell? ⟨b, o + k * 3 + 1, none⟩ = some (.int .i64 x.value) ∧ w.cell? ⟨b, o + k * 3 + 2, none⟩ = some (.bool x.holds) := by
  obtain ⟨b, o, hA, hb, hc⟩ := h k x.cells (by simp [hk])
  exact ⟨b, o, hA, hb, hc 0 _ rfl, hc 1 _ rfl, hc 2 _ rfl⟩
/-- What the statement's loop keeps. -/
structure LcI (w : World) (B lb : Nat) (holds known : Int) (A : Option Addr) (cs : List Chg) (ld lv : Int) (lh : Bool) (wr : World) : Prop where
  fr : Below w.heap.size w wr
  at0 : AtCells wr B holds known
  rows : RowsAt wr A 3 (cs.map Chg.cells)
  c0 : wr.cell? ⟨lb, 0, none⟩ = some (.int .i64 ld)
  c1 : wr.cell? ⟨lb, 1, none⟩ = some (.int .i64 lv)
  c2 : wr.cell? ⟨lb, 2, none⟩ = some (.bool lh)
  f0 : wr.frozen? ⟨lb, 0, none⟩ = false
  f1 : wr.frozen? ⟨lb, 1, none⟩ = false
  f2 : wr.frozen? ⟨lb, 2, none⟩ = false
  lt : lb < wr.heap.size
theorem LcI.below {w : World} {B lb : Nat} {holds known : Int} {A : Option Addr} {cs : List Chg} {ld lv : Int} {lh : Bool} {wr wr' : World} (h : LcI w B lb holds known A cs ld lv lh wr) (hb : Below wr.heap.size wr wr') : LcI w B lb holds known A cs ld lv lh wr' :=
  ⟨below_step h.fr hb, h.at0.below hb, h.rows.below hb, (hb.cell (p := ⟨lb, 0, none⟩) h.lt).trans h.c0, (hb.cell (p := ⟨lb, 1, none⟩) h.lt).trans h.c1, (hb.cell (p := ⟨lb, 2, none⟩) h.lt).trans h.c2, (hb.frozen (p := ⟨lb, 0, none⟩) h.lt).trans h.f0, (hb.frozen (p := ⟨lb, 1, none⟩) h.lt).trans h.f1, (hb.frozen (p := ⟨lb, 2, none⟩) h.lt).trans h.f2, Nat.lt_of_lt_of_le h.lt hb.size⟩
theorem LcI.store {w : World} {B lb : Nat} {holds known : Int} {A : Option Addr} {cs : List Chg} {ld lv : Int} {lh : Bool} {wr : World} (h : LcI w B lb holds known A cs ld lv lh wr) (hw : w.heap.size ≤ lb) (hB : B ≠ lb) (hA : ∀ a, A = some a → a.block ≠ lb) (d v : Int) (b : Bool) :
    LcI w B lb holds known A cs d v b (((wr.setCell ⟨lb, 0, none⟩ (.int .i64 d)).setCell ⟨lb, 1, none⟩ (.int .i64 v)).setCell ⟨lb, 2, none⟩ (.bool b)) := by
  have hg : wr.grownBy (((wr.setCell ⟨lb, 0, none⟩ (.int .i64 d)).setCell ⟨lb, 1, none⟩ (.int .i64 v)).setCell ⟨lb, 2, none⟩ (.bool b)) (some lb) := ⟨rfl, rfl, rfl, by simp [World.setCell], fun i _ hne => ((Below.heap_setCell _ _ _ i (fun e => hne (by rw [e]))).trans (Below.heap_setCell _ _ _ i (fun e => hne (by rw [e])))).trans (Below.heap_setCell _ _ _ i (fun e => hne (by rw [e])))⟩
  have hn : ∀ i j : Nat, i ≠ j → (⟨lb, i, none⟩ : Addr) ≠ ⟨lb, j, none⟩ := fun i j h e => by injection e with _ e _; omega
  have hBn : some B ≠ some lb := fun e => hB (by injection e)
  refine ⟨((h.fr.setCell hw _).setCell hw _).setCell hw _, ⟨hg.cell h.at0.c0 hBn, hg.cell h.at0.c1 hBn, Nat.lt_of_lt_of_le h.at0.lt hg.size⟩, h.rows.far' hg (fun a ha e => hA a ha (by injection e)), ?_, ?_, ?_, by rw [World.frozen?_setCell, World.frozen?_setCell, World.frozen?_setCell]; exact h.f0, by rw [World.frozen?_setCell, World.frozen?_setCell, World.frozen?_setCell]; exact h.f1, by rw [World.frozen?_setCell, World.frozen?_setCell, World.frozen?_setCell]; exact h.f2, by simpa [World.setCell] using h.lt⟩
  · rw [World.cell?_setCell_other _ _ _ _ (hn 2 0 (by decide)), World.cell?_setCell_other _ _ _ _ (hn 1 0 (by decide)), World.cell?_setCell_same' _ _ _ (by rw [h.c0]; rfl)]
  · rw [World.cell?_setCell_other _ _ _ _ (hn 2 1 (by decide)), World.cell?_setCell_same' _ _ _ (by rw [World.cell?_setCell_other _ _ _ _ (hn 0 1 (by decide)), h.c1]; rfl)]
  · rw [World.cell?_setCell_same' _ _ _ (by rw [World.cell?_setCell_other _ _ _ _ (hn 1 2 (by decide)), World.cell?_setCell_other _ _ _ _ (hn 0 2 (by decide)), h.c2]; rfl)]
theorem Changes_is (A : Option Addr) (c : Nat) (l : List Prov) (name : ByteArray) (known : Int) (E : Int) (R : List Chg) (hE : Cal.chgE l name known = E) (hR : Cal.chgR l name known = R) (w : World) (hl : Provs w A l) :
    Calls Tryd.prog 55 #[.slice A l.length c, .string name, .int .i64 known] w fun e w' => ∃ A2 c2, e = .returned (.tuple #[.slice A2 R.length c2, .int .i64 E]) ∧ RowsAt w' A2 3 (R.map Chg.cells) ∧ (∀ a, A2 = some a → a.block < w'.heap.size) ∧ Below w.heap.size w w' := by
  subst hE hR
  refine (Changes_any A c l name known w hl).mono ?_
  rintro e w' ⟨v, rfl, hown, hb⟩
  obtain ⟨A2, c2, rfl, hr⟩ := hown.form
  rw [List.length_map] at *
  exact ⟨A2, c2, rfl, hr, fun a ha => (hown.lt a.block (by rw [ha]; rfl)).2, hb⟩
theorem ChangesR_is (A : Option Addr) (c : Nat) (l : List Prov) (name : ByteArray) (known : Int) (b : Bool) (R : List Chg) (hb : decide (0 < (Cal.ups (Cal.frs l name known)).length) = b) (hR : Cal.chgL l name known = R) (hlen : l.length ≤ 1000) (w : World) (hl : Provs w A l) :
    Calls Tryd.prog 56 #[.slice A l.length c, .string name, .int .i64 known] w fun e w' => ∃ A2 c2, e = .returned (.tuple #[.slice A2 R.length c2, .bool b]) ∧ RowsAt w' A2 3 (R.map Chg.cells) ∧ Below w.heap.size w w' := by
  subst hb hR
  refine (ChangesR_any A c l name known hlen w hl).mono ?_
  rintro e w' ⟨v, rfl, hown, hb⟩
  obtain ⟨A2, c2, rfl, hr⟩ := hown.form
  rw [List.length_map] at *
  exact ⟨A2, c2, rfl, hr, hb⟩
theorem CheckR_is (A : Option Addr) (c : Nat) (l : List Prov) (E : Int) (hE : Cal.provsErr l = E) (w : World) (hl : Provs w A l) :
    Calls Tryd.prog 53 #[.slice A l.length c] w fun e w' => e = .returned (.int .i64 E) ∧ Below w.heap.size w w' := by
  subst hE; exact CheckProvisionsR_any A c l w hl
theorem IsDay_is (n : Int) (b : Bool) (hb : Cal.dayB n = b) (w : World) : Calls Tryd.prog 32 #[.int .i64 n] w fun e w' => e = .returned (.bool b) ∧ w = w' := by
  subst hb; exact IsDay_any n w
theorem Value_is (A : Option Addr) (c : Nat) (l : List Prov) (name : ByteArray) (holds known v e : Int) (hv : Cal.valueS l name holds known = (v, e)) (w : World) (hl : Provs w A l) :
    Calls Tryd.prog 18 #[.slice A l.length c, .string name, .agg #[.int .i64 holds, .int .i64 known]] w fun r w' => r = .returned (.tuple #[.int .i64 v, .int .i64 e]) ∧ Below w.heap.size w w' := by
  have h := Value_any A c l name holds known w hl
  rw [hv] at h; exact h
set_option maxRecDepth 100000 in
set_option maxHeartbeats 4000000 in
theorem RuleChanges_any (A : Option Addr) (c : Nat) (l : List Prov) (name : ByteArray) (holds known : Int) (w : World) (hl : Provs w A l) (hn : name.size ≤ maxLen) (hT : Tab w) :
    Calls Tryd.prog 11 #[.slice A l.length c, .string name, .agg #[.int .i64 holds, .int .i64 known]] w fun e w' => e = .returned (.bool true) ∧ Below w.heap.size w w' := by
  unfold maxLen at hn
  have hl' := Lib.hid hl
  have hT' := Lib.hid hT
  have hat := Lib.hid (AtCells.new w holds known 23)
  clear hl hT
  by_cases hns : name.size ≤ 30
  · by_cases hp0 : Cal.provsErr l = 0
    · have hP := Lib.hid hp0
      cases hd1 : Cal.dayB known
      · have hD1 := Lib.hid hd1
        have hE : Hid (Cal.chgE l name known = 2) := by
          have : Cal.atErr l [known] = 2 := by unfold Cal.atErr; rw [if_pos hp0, Cal.daysB_cons, hd1]; rfl
          show _ = _
          unfold Cal.chgE; rw [this]; rfl
        have hR : Hid (Cal.chgR l name known = []) := by show _ = _; unfold Cal.chgR; rw [if_neg (by rw [hE.out]; decide)]
        clear hp0 hd1
        go_enter Tryd.func11, Tryd.ntmps11
        go_wp2_with fail
        refine (awake_any _ (hT'.out.alloc _)).mono ?_
        rintro e w1 ⟨rfl, hb1⟩
        have ha1 := Lib.hid (hat.out.below hb1)
        have hbw := Lib.hid (below_step (below_alloc w _) hb1)
        have k0 := ha1.out.c0
        have k1 := ha1.out.c1
        clear hb1
        go_wp2_with fail
        refine (Laws_any _ _ l _ (hl'.out.below hbw.out)).mono ?_
        rintro e w' ⟨⟨b, rfl, hlen⟩, rfl⟩
        cases b
        · go_wp2
          go_ret
          exact ⟨rfl, hbw.out⟩
        have hlen' := (hlen rfl).1
        clear hlen
        go_wp2_with fail
        refine (Changes_is _ _ l name known 2 [] hE.out hR.out _ (hl'.out.below hbw.out)).mono ?_
        rintro e w2 ⟨A2, c2, rfl, hr2, hA2, hb2⟩
        have hr2 := Lib.hid hr2
        have hA2 := Lib.hid hA2
        have ha2 := Lib.hid (ha1.out.below hb2)
        have hbw2 := Lib.hid (below_step hbw.out hb2)
        clear hb2 k0 k1
        have k0 := ha2.out.c0
        have k1 := ha2.out.c1
        go_wp2_with fail
        refine (CheckR_is _ _ l 0 hP.out _ (hl'.out.below hbw2.out)).mono ?_
        rintro e w3 ⟨rfl, hb3⟩
        have ha3 := Lib.hid (ha2.out.below hb3)
        have hbw3 := Lib.hid (below_step hbw2.out hb3)
        have hr3 := Lib.hid (hr2.out.below hb3)
        have hsz3 := hb3.size
        clear hb3 k0 k1 hr2
        have k0 := ha3.out.c0
        have k1 := ha3.out.c1
        go_wp2_with fail
        refine (IsDay_is known false hD1.out _).mono ?_
        rintro e w' ⟨rfl, rfl⟩
        go_wp2
        go_ret
        exact ⟨rfl, hbw3.out⟩
      · have hD1 := Lib.hid hd1
        have ha0 : Hid (Cal.atErr l [known] = 0) := by show _ = _; unfold Cal.atErr; rw [if_pos hp0, Cal.daysB_cons, hd1]; rfl
        by_cases hne : Cal.frs l name known = []
        · have hE : Hid (Cal.chgE l name known = 6) := by show _ = _; unfold Cal.chgE; rw [if_pos ha0.out, if_pos hne]
          have hR : Hid (Cal.chgR l name known = []) := by show _ = _; unfold Cal.chgR; rw [if_neg (by rw [hE.out]; decide)]
          have hq : Hid (decide (0 < (Cal.ups (Cal.frs l name known)).length) = false) := by show _ = _; rw [hne, Cal.ups_nil]; rfl
          clear hp0 hd1 hne
          go_enter Tryd.func11, Tryd.ntmps11
          go_wp2_with fail
          refine (awake_any _ (hT'.out.alloc _)).mono ?_
          rintro e w1 ⟨rfl, hb1⟩
          have ha1 := Lib.hid (hat.out.below hb1)
          have hbw := Lib.hid (below_step (below_alloc w _) hb1)
          have k0 := ha1.out.c0
          have k1 := ha1.out.c1
          clear hb1
          go_wp2_with fail
          refine (Laws_any _ _ l _ (hl'.out.below hbw.out)).mono ?_
          rintro e w' ⟨⟨b, rfl, hlen⟩, rfl⟩
          cases b
          · go_wp2
            go_ret
            exact ⟨rfl, hbw.out⟩
          have hlen' := (hlen rfl).1
          clear hlen
          go_wp2_with fail
          refine (Changes_is _ _ l name known 6 [] hE.out hR.out _ (hl'.out.below hbw.out)).mono ?_
          rintro e w2 ⟨A2, c2, rfl, hr2, hA2, hb2⟩
          have hr2 := Lib.hid hr2
          have hA2 := Lib.hid hA2
          have ha2 := Lib.hid (ha1.out.below hb2)
          have hbw2 := Lib.hid (below_step hbw.out hb2)
          clear hb2 k0 k1
          have k0 := ha2.out.c0
          have k1 := ha2.out.c1
          go_wp2_with fail
          refine (CheckR_is _ _ l 0 hP.out _ (hl'.out.below hbw2.out)).mono ?_
          rintro e w3 ⟨rfl, hb3⟩
          have ha3 := Lib.hid (ha2.out.below hb3)
          have hbw3 := Lib.hid (below_step hbw2.out hb3)
          have hr3 := Lib.hid (hr2.out.below hb3)
          have hsz3 := hb3.size
          clear hb3 k0 k1 hr2
          have k0 := ha3.out.c0
          have k1 := ha3.out.c1
          go_wp2_with fail
          refine (IsDay_is known true hD1.out _).mono ?_
          rintro e w' ⟨rfl, rfl⟩
          go_wp2_with fail
          refine (ChangesR_is _ _ l name known false _ hq.out rfl (by omega) _ (hl'.out.below hbw3.out)).mono ?_
          rintro e w4 ⟨A4, c4, rfl, hr4, hb4⟩
          have hbw4 := Lib.hid (below_step hbw3.out hb4)
          clear hb4
          go_wp2
          go_ret
          exact ⟨rfl, hbw4.out⟩
        · have hE : Hid (Cal.chgE l name known = 0) := by show _ = _; unfold Cal.chgE; rw [if_pos ha0.out, if_neg hne]
          have hR : Hid (Cal.chgR l name known = Cal.chgL l name known) := by show _ = _; unfold Cal.chgR; rw [if_pos hE.out]
          have hq : Hid (decide (0 < (Cal.ups (Cal.frs l name known)).length) = true) := by show _ = _; rw [decide_eq_true_iff]; exact Cal.frs_ups.2 hne
          have hup := Lib.hid (Cal.upto_chgL l name known holds)
          have hcl : Hid ((Cal.chgL l name known).length ≤ l.length) := Nat.le_trans (Cal.chg_length _ _ _ _ _ _) (Nat.le_trans (Cal.ups_length _) (Cal.frs_length _ _ _))
          obtain ⟨cs, hcs⟩ : ∃ cs, cs = Cal.chgL l name known := ⟨_, rfl⟩
          rw [← hcs] at hup hcl hR
          have hcs' := Lib.hid hcs.symm
          clear hp0 hd1 hne hcs
          go_enter Tryd.func11, Tryd.ntmps11
          go_wp2_with fail
          refine (awake_any _ (hT'.out.alloc _)).mono ?_
          rintro e w1 ⟨rfl, hb1⟩
          have ha1 := Lib.hid (hat.out.below hb1)
          have hbw := Lib.hid (below_step (below_alloc w _) hb1)
          have k0 := ha1.out.c0
          have k1 := ha1.out.c1
          clear hb1
          go_wp2_with fail
          refine (Laws_any _ _ l _ (hl'.out.below hbw.out)).mono ?_
          rintro e w' ⟨⟨b, rfl, hlen⟩, rfl⟩
          cases b
          · go_wp2
            go_ret
            exact ⟨rfl, hbw.out⟩
          have hlen' := (hlen rfl).1
          clear hlen
          go_wp2_with fail
          refine (Changes_is _ _ l name known 0 cs hE.out hR.out _ (hl'.out.below hbw.out)).mono ?_
          rintro e w2 ⟨A2, c2, rfl, hr2, hA2, hb2⟩
          have hr2 := Lib.hid hr2
          have hA2 := Lib.hid hA2
          have ha2 := Lib.hid (ha1.out.below hb2)
          have hbw2 := Lib.hid (below_step hbw.out hb2)
          clear hb2 k0 k1
          have k0 := ha2.out.c0
          have k1 := ha2.out.c1
          go_wp2_with fail
          refine (CheckR_is _ _ l 0 hP.out _ (hl'.out.below hbw2.out)).mono ?_
          rintro e w3 ⟨rfl, hb3⟩
          have ha3 := Lib.hid (ha2.out.below hb3)
          have hbw3 := Lib.hid (below_step hbw2.out hb3)
          have hr3 := Lib.hid (hr2.out.below hb3)
          have hsz3 := hb3.size
          clear hb3 k0 k1 hr2
          have k0 := ha3.out.c0
          have k1 := ha3.out.c1
          go_wp2_with fail
          refine (IsDay_is known true hD1.out _).mono ?_
          rintro e w' ⟨rfl, rfl⟩
          have hcl' := hcl.out
          go_wp2_with fail
          refine (ChangesR_is _ _ l name known true cs hq.out hcs'.out (by omega) _ (hl'.out.below hbw3.out)).mono ?_
          rintro e w4 ⟨A4, c4, rfl, hr4, hb4⟩
          have ha4 := Lib.hid (ha3.out.below hb4)
          have hbw4 := Lib.hid (below_step hbw3.out hb4)
          have hr5 := Lib.hid (hr3.out.below hb4)
          have hr4 := Lib.hid hr4
          have hsz4 := hb4.size
          clear hb4 k0 k1
          have k0 := ha4.out.c0
          have k1 := ha4.out.c1
          go_wp2_with fail
          refine (SameChanges_any _ _ _ _ cs _ hr5.out hr4.out (by omega)).mono ?_
          rintro e w5 ⟨rfl, hb5⟩
          have ha5 := Lib.hid (ha4.out.below hb5)
          have hbw5 := Lib.hid (below_step hbw4.out hb5)
          have hr6 := Lib.hid (hr5.out.below hb5)
          have hsz5 := hb5.size
          clear hb5 k0 k1 hr4 hr5 hr3
          have k0 := ha5.out.c0
          have k1 := ha5.out.c1
          cases hd0 : Cal.dayB holds
          · have hD0 := Lib.hid hd0
            clear hd0
            go_wp2_with fail
            refine (IsDay_is holds false hD0.out _).mono ?_
            rintro e w' ⟨rfl, rfl⟩
            go_wp2
            go_ret
            exact ⟨rfl, hbw5.out⟩
          · have hD0 := Lib.hid hd0
            have hA6 : ∀ a, A2 = some a → a.block < w5.heap.size := fun a ha => by have := hA2.out a ha; omega
            have hA7 : ∀ a, A2 = some a → a.block ≠ w5.heap.size := fun a ha => by have := hA6 a ha; omega
            have hB7 : w.heap.size ≠ w5.heap.size := by have := ha5.out.lt; omega
            have hwl := hbw5.out.size
            have hI0 : Hid (LcI w w.heap.size w5.heap.size holds known A2 cs 0 0 false (w5.alloc (.cells #[.int .i64 0, .int .i64 0, .bool false] 83))) :=
              ⟨hbw5.out.alloc hwl _, ha5.out.below (below_alloc _ _), hr6.out.below (below_alloc _ _), by simp, by simp, by simp, by unfold World.frozen?; rw [heap_alloc_new w5 _]; rfl, by unfold World.frozen?; rw [heap_alloc_new w5 _]; rfl, by unfold World.frozen?; rw [heap_alloc_new w5 _]; rfl, by simp⟩
            have hU0 : Hid (Cal.upto holds (cs.drop 0) 0 false = Cal.valOf l name holds known) := hup.out
            have hval := Lib.hid (Cal.valueS_of (name := name) (Cal.atErr_more ha0.out hd0))
            clear hd0 hr6 hbw hbw2 hbw3 hbw4 ha1 ha2 ha3 ha4 hA2 hA6 hup
            go_wp2_with fail
            refine (IsDay_is holds true hD0.out _).mono ?_
            rintro e w' ⟨rfl, rfl⟩
            go_wp2_with fail
            go_loopw [13] (fun i wr => ∃ (k : Nat) (ld lv : Int) (lh : Bool), k ≤ cs.length ∧ i = .int .i64 k ∧ Hid (LcI w w.heap.size w5.heap.size holds known A2 cs ld lv lh wr) ∧ Hid (Cal.upto holds (cs.drop k) lv lh = Cal.valOf l name holds known)) (fun i _ => cs.length - (intOf i).toNat)
            case atStart => exact ⟨0, 0, 0, false, Nat.zero_le _, rfl, hI0, hU0⟩
            case round =>
              obtain ⟨k, ld, lv, lh, hk, rfl, hI, hU⟩ := hrel
              clear hI0 hU0 k0 k1
              have k0 := hI.out.at0.c0
              have k1 := hI.out.at0.c1
              have x0 := hI.out.c0
              have x1 := hI.out.c1
              have x2 := hI.out.c2
              have y0 := hI.out.f0
              have y1 := hI.out.f1
              have y2 := hI.out.f2
              have hltb := hI.out.lt
              by_cases hlt : k < cs.length
              · have hkx : cs[k]? = some cs[k] := List.getElem?_eq_getElem hlt
                have hdr := Lib.hid (List.drop_eq_getElem_cons hlt)
                have hx := Lib.hid (chg_at hI.out.rows hkx)
                clear hkx
                generalize cs[k] = x at *
                obtain ⟨b, o, rfl, hbl, e0, e1, e2⟩ := hx.out
                clear hx
                by_cases hd : x.day ≤ holds
                · have hnx : Hid (Cal.upto holds (cs.drop (k + 1)) x.value x.holds = Cal.valOf l name holds known) := by
                    have := hU.out
                    rw [hdr.out] at this
                    unfold Cal.upto at this
                    rw [if_pos hd] at this
                    exact this
                  clear hU hdr
                  have hd' : decide (x.day ≤ holds) = true := by simpa using hd
                  clear hd
                  go_wp2_with fail
                  go_quiet (fail)
                  have hI2 := Lib.hid ((hI.out.below (below_drewN (Below.refl _ _) nq)).store hwl hB7 hA7 x.day x.value x.holds)
                  go_wp2_with fail
                  go_roundw
                  case rel => exact ⟨k + 1, _, _, _, by omega, by go_num, hI2, hnx⟩
                  case measure => simp [intOf]; omega
                · have hst : Hid ((lv, lh) = Cal.valOf l name holds known) := by
                    have := hU.out
                    rw [hdr.out] at this
                    unfold Cal.upto at this
                    rw [if_neg hd] at this
                    exact this
                  clear hU hdr
                  have hd' : decide (x.day ≤ holds) = false := by simpa using hd
                  clear hd
                  go_wp2_with fail
                  go_quiet (fail)
                  have hI2 := Lib.hid (hI.out.below (below_drewN (Below.refl _ _) nq))
                  clear k0 k1 x0 x1 x2
                  have k0 := hI2.out.at0.c0
                  have k1 := hI2.out.at0.c1
                  rcases hvs : Cal.valueS l name holds known with ⟨v9, e9⟩
                  have hv9 := hval.out
                  rw [hvs, ← hst.out] at hv9
                  simp only at hv9
                  obtain ⟨rfl, he9⟩ := hv9
                  go_wp2_with fail
                  refine (Value_is _ _ l name holds known _ _ hvs _ (hl'.out.below hI2.out.fr)).mono ?_
                  rintro e w7 ⟨rfl, hb7⟩
                  have hI3 := Lib.hid (hI2.out.below hb7)
                  have hbw7 := Lib.hid (below_step hI2.out.fr hb7)
                  clear hb7 k0 k1
                  have x1 := hI3.out.c1
                  have x2 := hI3.out.c2
                  cases lh
                  · go_wp2
                    go_ret
                    exact ⟨rfl, hbw7.out⟩
                  · go_wp2
                    go_ret
                    exact ⟨rfl, hbw7.out⟩
              · obtain rfl : k = cs.length := by omega
                have hst : Hid ((lv, lh) = Cal.valOf l name holds known) := by
                  have := hU.out
                  rw [List.drop_length] at this
                  exact this
                clear hU
                go_wp2_with fail
                go_quiet (fail)
                have hI2 := Lib.hid (hI.out.below (below_drewN (Below.refl _ _) nq))
                clear k0 k1 x0 x1 x2
                have k0 := hI2.out.at0.c0
                have k1 := hI2.out.at0.c1
                rcases hvs : Cal.valueS l name holds known with ⟨v9, e9⟩
                have hv9 := hval.out
                rw [hvs, ← hst.out] at hv9
                simp only at hv9
                obtain ⟨rfl, he9⟩ := hv9
                go_wp2_with fail
                refine (Value_is _ _ l name holds known _ _ hvs _ (hl'.out.below hI2.out.fr)).mono ?_
                rintro e w7 ⟨rfl, hb7⟩
                have hI3 := Lib.hid (hI2.out.below hb7)
                have hbw7 := Lib.hid (below_step hI2.out.fr hb7)
                clear hb7 k0 k1
                have x1 := hI3.out.c1
                have x2 := hI3.out.c2
                cases lh
                · go_wp2
                  go_ret
                  exact ⟨rfl, hbw7.out⟩
                · go_wp2
                  go_ret
                  exact ⟨rfl, hbw7.out⟩
    · have hE : Hid (Cal.chgE l name known = Cal.provsErr l) := by
        have : Cal.atErr l [known] = Cal.provsErr l := by unfold Cal.atErr; rw [if_neg hp0]
        show _ = _
        unfold Cal.chgE; rw [this, if_neg hp0]
      have hR : Hid (Cal.chgR l name known = []) := by show _ = _; unfold Cal.chgR; rw [if_neg (by rw [hE.out]; exact hp0)]
      have hp1 : (Cal.provsErr l == 0) = false := by simpa using hp0
      have hp2 : (Cal.provsErr l != 0) = true := by simpa using hp0
      clear hp0
      obtain ⟨E0, hP0⟩ : ∃ E0, Cal.provsErr l = E0 := ⟨_, rfl⟩
      rw [hP0] at hE hp1 hp2
      have hP := Lib.hid hP0
      clear hP0
      go_enter Tryd.func11, Tryd.ntmps11
      go_wp2_with fail
      refine (awake_any _ (hT'.out.alloc _)).mono ?_
      rintro e w1 ⟨rfl, hb1⟩
      have ha1 := Lib.hid (hat.out.below hb1)
      have hbw := Lib.hid (below_step (below_alloc w _) hb1)
      have k0 := ha1.out.c0
      have k1 := ha1.out.c1
      clear hb1
      go_wp2_with fail
      refine (Laws_any _ _ l _ (hl'.out.below hbw.out)).mono ?_
      rintro e w' ⟨⟨b, rfl, hlen⟩, rfl⟩
      cases b
      · go_wp2
        go_ret
        exact ⟨rfl, hbw.out⟩
      have hlen' := (hlen rfl).1
      clear hlen
      go_wp2_with fail
      refine (Changes_is _ _ l name known E0 [] hE.out hR.out _ (hl'.out.below hbw.out)).mono ?_
      rintro e w2 ⟨A2, c2, rfl, hr2, hA2, hb2⟩
      have hr2 := Lib.hid hr2
      have hA2 := Lib.hid hA2
      have ha2 := Lib.hid (ha1.out.below hb2)
      have hbw2 := Lib.hid (below_step hbw.out hb2)
      clear hb2 k0 k1
      have k0 := ha2.out.c0
      have k1 := ha2.out.c1
      go_wp2_with fail
      refine (CheckR_is _ _ l E0 hP.out _ (hl'.out.below hbw2.out)).mono ?_
      rintro e w3 ⟨rfl, hb3⟩
      have ha3 := Lib.hid (ha2.out.below hb3)
      have hbw3 := Lib.hid (below_step hbw2.out hb3)
      have hr3 := Lib.hid (hr2.out.below hb3)
      have hsz3 := hb3.size
      clear hb3 k0 k1 hr2
      have k0 := ha3.out.c0
      have k1 := ha3.out.c1
      go_wp2
      go_ret
      exact ⟨rfl, hbw3.out⟩
  · go_enter Tryd.func11, Tryd.ntmps11
    go_wp2_with fail
    refine (awake_any _ (hT'.out.alloc _)).mono ?_
    rintro e w1 ⟨rfl, hb1⟩
    have hbw := Lib.hid (below_step (below_alloc w _) hb1)
    clear hb1
    go_wp2_with fail
    refine (Laws_any _ _ l _ (hl'.out.below hbw.out)).mono ?_
    rintro e w' ⟨⟨b, rfl, _⟩, rfl⟩
    cases b
    · go_wp2
      go_ret
      exact ⟨rfl, hbw.out⟩
    · go_wp2
      go_ret
      exact ⟨rfl, hbw.out⟩
end Go.Proofs.YtoigamkldccnkaaDoor
