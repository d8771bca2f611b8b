/- The walk of a statement. -/
import Derived.Test.YtbinoelbjlgjkaaGreatDoorC51
namespace Go.Proofs.YtbinoelbjlgjkaaGreatDoor
open Go Go.RowKit
theorem Names_is (A : Option Addr) (c : Nat) (l : List Prov) (holds known E : Int) (zs : List Cal.Txt) (hE : Cal.atErr l [holds, known] = E) (hR : Cal.namesR l holds known = zs) (w : World) (hl : Provs w A l) :
    Calls Tryz.prog 20 #[.slice A l.length c, .agg #[.int .i64 holds, .int .i64 known]] w fun e w' => ∃ A2 c2, e = .returned (.tuple #[.slice A2 zs.length c2, .int .i64 E]) ∧ RowsAt w' A2 1 (txtRows zs) ∧ Below w.heap.size w w' := by
  subst hE hR
  refine (Names_any A c l holds known w hl).mono ?_
  rintro e w' ⟨v, rfl, hs, hb⟩
  obtain ⟨A2, c2, rfl, hr⟩ := hs.rows
  exact ⟨A2, c2, rfl, hr, hb⟩
theorem Cons_is (A : Option Addr) (c : Nat) (l : List Prov) (holds known E : Int) (t : ByteArray) (hE : Cal.atErr l [holds, known] = E) (hR : (⟨(if Cal.atErr l [holds, known] = 0 then Cal.consL l holds known else []).toArray⟩ : ByteArray) = t) (w : World) (hl : Provs w A l) (hP : Pow w) :
    Calls Tryz.prog 18 #[.slice A l.length c, .agg #[.int .i64 holds, .int .i64 known]] w fun e w' => e = .returned (.tuple #[.string t, .int .i64 E]) ∧ Below w.heap.size w w' := by
  subst hE hR
  exact Consolidated_any A c l holds known w hl hP
theorem ConsR_is (A : Option Addr) (c : Nat) (l : List Prov) (holds known : Int) (t : ByteArray) (hR : (⟨(Cal.consL l holds known).toArray⟩ : ByteArray) = t) (w : World) (hl : Provs w A l) (hp : Cal.provsErr l = 0) :
    Calls Tryz.prog 23 #[.slice A l.length c, .agg #[.int .i64 holds, .int .i64 known]] w fun e w' => e = .returned (.string t) ∧ Below w.heap.size w w' := by
  subst hR
  exact ConsolidatedR_any A c l holds known w hl hp
theorem NamesR_is (A : Option Addr) (c : Nat) (l : List Prov) (holds known : Int) (zs : List Cal.Txt) (hR : Cal.namesL l holds known = zs) (w : World) (hl : Provs w A l) (hlen : l.length ≤ 1000) :
    Calls Tryz.prog 22 #[.slice A l.length c, .agg #[.int .i64 holds, .int .i64 known]] w fun e w' => ∃ A2 c2, e = .returned (.slice A2 zs.length c2) ∧ RowsAt w' A2 1 (txtRows zs) ∧ Below w.heap.size w w' := by
  subst hR
  refine (NamesR_any A c l holds known hlen w hl).mono ?_
  rintro e w' ⟨v, rfl, hs, hb⟩
  obtain ⟨A2, c2, rfl, hr⟩ := hs.rows
  exact ⟨A2, c2, rfl, hr, hb⟩
theorem atErr_is (A : Option Addr) (c : Nat) (l : List Prov) (holds known E : Int) (hE : Cal.atErr l [holds, known] = E) (w : World) (hl : Provs w A l) :
    Calls Tryz.prog 14 #[.slice A l.length c, .agg #[.int .i64 holds, .int .i64 known]] w fun e w' => e = .returned (.int .i64 E) ∧ Below w.heap.size w w' := by
  subst hE; exact atErr_any A c l holds known w hl
set_option maxRecDepth 100000 in
set_option maxHeartbeats 4000000 in
theorem RuleNames_any (A : Option Addr) (c : Nat) (l : List Prov) (holds known : Int) (w : World) (hl : Provs w A l) (hT : Tab w) (hP : Pow w) :
    Calls Tryz.prog 4 #[.slice A l.length c, .agg #[.int .i64 holds, .int .i64 known]] w fun e w' => e = .returned (.bool true) ∧ Below w.heap.size w w' := by
  have hl := Lib.hid hl
  have hT := Lib.hid hT
  have hP := Lib.hid hP
  by_cases h0 : Cal.atErr l [holds, known] = 0
  · have hE := Lib.hid h0
    have hpe := Lib.hid (Cal.atErr_provs h0)
    obtain ⟨zs, hz⟩ : ∃ zs, Cal.namesL l holds known = zs := ⟨_, rfl⟩
    have hR : Hid (Cal.namesR l holds known = zs) := by show _ = _; unfold Cal.namesR; rw [if_pos h0, hz]
    have hzl := Cal.namesL_length l holds known
    rw [hz] at hzl
    have hN := Lib.hid hz
    obtain ⟨t, ht⟩ : ∃ t : ByteArray, (⟨(Cal.consL l holds known).toArray⟩ : ByteArray) = t := ⟨_, rfl⟩
    have hC : Hid ((⟨(if Cal.atErr l [holds, known] = 0 then Cal.consL l holds known else []).toArray⟩ : ByteArray) = t) := by show _ = _; rw [if_pos h0]; exact ht
    have hCR := Lib.hid ht
    clear h0 hz ht
    have g1 := Lib.hid (AtCells.new w holds known 25)
    have hb := Lib.hid (below_alloc w (.cells #[.int .i64 holds, .int .i64 known] 25))
    have k0 := g1.out.c0
    have k1 := g1.out.c1
    go_enter Tryz.func4, Tryz.ntmps4
    go_wp2_with fail
    refine (awake_any _ (hT.out.below hb.out)).mono ?_
    rintro e w1 ⟨rfl, hbn⟩
    have g1 := Lib.hid (g1.out.below hbn)
    have hb := Lib.hid (below_step hb.out hbn)
    clear hbn k0 k1
    have k0 := g1.out.c0
    have k1 := g1.out.c1
    go_wp2_with fail
    refine (Laws_any _ _ l _ (hl.out.below hb.out)).mono ?_
    rintro e w' ⟨⟨b, rfl, hlen⟩, rfl⟩
    cases b
    · go_wp2_with fail
      go_ret
      exact ⟨rfl, hb.out⟩
    have hlen := (hlen rfl).1
    go_wp2_with fail
    refine (Names_is A c l holds known 0 zs hE.out hR.out _ (hl.out.below hb.out)).mono ?_
    rintro e w2 ⟨A2, c2, rfl, hr2, hbn⟩
    have hr2 := Lib.hid hr2
    have g1 := Lib.hid (g1.out.below hbn)
    have hb := Lib.hid (below_step hb.out hbn)
    clear hbn k0 k1
    have k0 := g1.out.c0
    have k1 := g1.out.c1
    go_wp2_with fail
    refine (Cons_is A c l holds known 0 t hE.out hC.out _ (hl.out.below hb.out) (hP.out.below hb.out)).mono ?_
    rintro e w3 ⟨rfl, hbn⟩
    have hr2 := Lib.hid (hr2.out.below hbn)
    have g1 := Lib.hid (g1.out.below hbn)
    have hb := Lib.hid (below_step hb.out hbn)
    clear hbn k0 k1
    have k0 := g1.out.c0
    have k1 := g1.out.c1
    go_wp2_with fail
    refine (atErr_is A c l holds known 0 hE.out _ (hl.out.below hb.out)).mono ?_
    rintro e w4 ⟨rfl, hbn⟩
    have hr2 := Lib.hid (hr2.out.below hbn)
    have g1 := Lib.hid (g1.out.below hbn)
    have hb := Lib.hid (below_step hb.out hbn)
    clear hbn k0 k1
    have k0 := g1.out.c0
    have k1 := g1.out.c1
    go_wp2_with fail
    refine (NamesR_is A c l holds known zs hN.out _ (hl.out.below hb.out) (by omega)).mono ?_
    rintro e w5 ⟨A3, c3, rfl, hr3, hbn⟩
    have hr2 := Lib.hid (hr2.out.below hbn)
    have hr3 := Lib.hid hr3
    have g1 := Lib.hid (g1.out.below hbn)
    have hb := Lib.hid (below_step hb.out hbn)
    clear hbn k0 k1
    have k0 := g1.out.c0
    have k1 := g1.out.c1
    go_wp2_with fail
    refine (Texts_same A2 A3 c2 c3 zs _ hr2.out hr3.out (by omega)).mono ?_
    rintro e w6 ⟨rfl, hbn⟩
    have g1 := Lib.hid (g1.out.below hbn)
    have hb := Lib.hid (below_step hb.out hbn)
    clear hbn k0 k1
    have k0 := g1.out.c0
    have k1 := g1.out.c1
    go_wp2_with fail
    refine (ConsR_is A c l holds known t hCR.out _ (hl.out.below hb.out) hpe.out).mono ?_
    rintro e w7 ⟨rfl, hbn⟩
    have g1 := Lib.hid (g1.out.below hbn)
    have hb := Lib.hid (below_step hb.out hbn)
    clear hbn k0 k1
    have k0 := g1.out.c0
    have k1 := g1.out.c1
    go_wp2_with fail
    go_ret
    exact ⟨rfl, hb.out⟩
  · obtain ⟨E, hE0⟩ : ∃ E, Cal.atErr l [holds, known] = E := ⟨_, rfl⟩
    have hR : Hid (Cal.namesR l holds known = []) := by show _ = _; unfold Cal.namesR; rw [if_neg h0]
    have hC : Hid ((⟨(if Cal.atErr l [holds, known] = 0 then Cal.consL l holds known else []).toArray⟩ : ByteArray) = ⟨#[]⟩) := by show _ = _; rw [if_neg h0]
    rw [hE0] at h0
    have hE1 : (E != 0) = true := by simpa using h0
    have hE := Lib.hid hE0
    clear h0 hE0
    have g1 := Lib.hid (AtCells.new w holds known 25)
    have hb := Lib.hid (below_alloc w (.cells #[.int .i64 holds, .int .i64 known] 25))
    have k0 := g1.out.c0
    have k1 := g1.out.c1
    go_enter Tryz.func4, Tryz.ntmps4
    go_wp2_with fail
    refine (awake_any _ (hT.out.below hb.out)).mono ?_
    rintro e w1 ⟨rfl, hbn⟩
    have g1 := Lib.hid (g1.out.below hbn)
    have hb := Lib.hid (below_step hb.out hbn)
    clear hbn k0 k1
    have k0 := g1.out.c0
    have k1 := g1.out.c1
    go_wp2_with fail
    refine (Laws_any _ _ l _ (hl.out.below hb.out)).mono ?_
    rintro e w' ⟨⟨b, rfl, hlen⟩, rfl⟩
    cases b
    · go_wp2_with fail
      go_ret
      exact ⟨rfl, hb.out⟩
    have hlen := (hlen rfl).1
    go_wp2_with fail
    refine (Names_is A c l holds known E [] hE.out hR.out _ (hl.out.below hb.out)).mono ?_
    rintro e w2 ⟨A2, c2, rfl, hr2, hbn⟩
    have hr2 := Lib.hid hr2
    have g1 := Lib.hid (g1.out.below hbn)
    have hb := Lib.hid (below_step hb.out hbn)
    clear hbn k0 k1
    have k0 := g1.out.c0
    have k1 := g1.out.c1
    go_wp2_with fail
    refine (Cons_is A c l holds known E ⟨#[]⟩ hE.out hC.out _ (hl.out.below hb.out) (hP.out.below hb.out)).mono ?_
    rintro e w3 ⟨rfl, hbn⟩
    have hr2 := Lib.hid (hr2.out.below hbn)
    have g1 := Lib.hid (g1.out.below hbn)
    have hb := Lib.hid (below_step hb.out hbn)
    clear hbn k0 k1
    have k0 := g1.out.c0
    have k1 := g1.out.c1
    go_wp2_with fail
    refine (atErr_is A c l holds known E hE.out _ (hl.out.below hb.out)).mono ?_
    rintro e w4 ⟨rfl, hbn⟩
    have hr2 := Lib.hid (hr2.out.below hbn)
    have g1 := Lib.hid (g1.out.below hbn)
    have hb := Lib.hid (below_step hb.out hbn)
    clear hbn k0 k1
    have k0 := g1.out.c0
    have k1 := g1.out.c1
    go_wp2_with fail
    go_ret
    exact ⟨rfl, hb.out⟩
end Go.Proofs.YtbinoelbjlgjkaaGreatDoor
