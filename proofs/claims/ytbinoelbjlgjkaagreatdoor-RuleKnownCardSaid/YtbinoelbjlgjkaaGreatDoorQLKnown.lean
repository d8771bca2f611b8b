/- The walk of a statement. -/
import Derived.Test.YtbinoelbjlgjkaaGreatDoorQLNames
import Derived.Test.YtbinoelbjlgjkaaGreatDoorQLChanges
import Derived.Test.YtbinoelbjlgjkaaGreatDoorC48
namespace Go.Proofs.YtbinoelbjlgjkaaGreatDoor
open Go Go.RowKit
theorem Next_is (A : Option Addr) (c : Nat) (l : List Prov) (p : Prov) (E : Int) (l2 : List Prov) (hE : Cal.nextErr l p = E) (hL : Cal.nextL l p = l2) (w : World) (hl : Provs w A l) (hp : p.name.size ≤ maxLen) :
    Calls Tryz.prog 15 #[.slice A l.length c, .agg #[.string p.name, .int .i64 p.value, .int .i64 p.fr, .int .i64 p.en, .bool p.repeal]] w fun e w' => ∃ A2 c2, e = .returned (.tuple #[.slice A2 l2.length c2, .int .i64 E]) ∧ Provs w' A2 l2 ∧ Below w.heap.size w w' := by
  subst hE hL
  exact Next_any A c l p w hl hp
theorem Cal.line_more {l : List Prov} {p : Prov} {holds known : Int} (h : known < p.en) (nm : Cal.Txt) : Cal.line (l ++ [p]) holds known nm = Cal.line l holds known nm := by unfold Cal.line; rw [Cal.valOf_more h]
theorem Cal.lines_more {l : List Prov} {p : Prov} {holds known : Int} (h : known < p.en) : ∀ zs : List Cal.Txt, Cal.lines (l ++ [p]) holds known zs = Cal.lines l holds known zs
  | [] => rfl
  | z :: zs => by unfold Cal.lines; rw [Cal.line_more h, Cal.lines_more h zs]
theorem Cal.nms_mem {l : List Prov} {holds known : Int} {d : Cal.Txt} : d ∈ Cal.nms l holds known l.length ↔ ∃ q ∈ l, (Cal.valOf l q.name holds known).2 = true ∧ q.name.data.toList = d := by
  unfold Cal.nms
  rw [List.take_length, List.mem_map]
  constructor
  · rintro ⟨q, hq, rfl⟩
    exact ⟨q, (List.mem_filter.1 hq).1, (List.mem_filter.1 hq).2, rfl⟩
  · rintro ⟨q, hq, h, rfl⟩
    exact ⟨q, List.mem_filter.2 ⟨hq, h⟩, rfl⟩
/-- A name that has a value is that of an entry. -/
theorem Cal.srcTo_name {l : List Prov} {name : ByteArray} {holds known : Int} : ∀ (k : Nat) (q : Nat), Cal.srcTo l name holds known k = (q : Int) → ∃ r, l[q]? = some r ∧ r.name.data.toList = name.data.toList
  | 0, q, h => by unfold Cal.srcTo at h; omega
  | k + 1, q, h => by
    unfold Cal.srcTo at h
    split at h
    · exact Cal.srcTo_name k q h
    · rename_i r hr
      split at h
      · rename_i ht
        obtain rfl : k = q := by omega
        unfold Cal.takes at ht
        simp only [Bool.and_eq_true] at ht
        have e := eq_of_beq ht.1
        rw [ByteArray.toList_eq, ByteArray.toList_eq] at e
        exact ⟨r, hr, e⟩
      · exact Cal.srcTo_name k q h
theorem Cal.valOf_named {l : List Prov} {name : ByteArray} {holds known : Int} (h : (Cal.valOf l name holds known).2 = true) : ∃ r ∈ l, r.name.data.toList = name.data.toList := by
  by_cases h2 : Cal.src l name holds known < 0
  · rw [Cal.valOf_no h2] at h; cases h
  · obtain ⟨q, r, hq, hr⟩ := Cal.src_form h2
    obtain ⟨r', hr', hn⟩ := Cal.srcTo_name _ q hq
    exact ⟨r', List.mem_of_getElem? hr', hn⟩
theorem bytes_of {a b : ByteArray} (h : a.data.toList = b.data.toList) : a = b := by
  cases a; cases b; simp at h; simp [h]
theorem Cal.namesL_more {l : List Prov} {p : Prov} {holds known : Int} (h : known < p.en) : Cal.namesL (l ++ [p]) holds known = Cal.namesL l holds known := by
  unfold Cal.namesL
  refine Cal.txt_up_ext (Cal.tups_spec _).1 (Cal.tups_spec _).1 fun d => ?_
  rw [(Cal.tups_spec _).2, (Cal.tups_spec _).2, Cal.nms_mem, Cal.nms_mem]
  constructor
  · rintro ⟨q, hq, hv, rfl⟩
    rw [Cal.valOf_more h] at hv
    obtain ⟨r, hr, hn⟩ := Cal.valOf_named hv
    exact ⟨r, hr, by rw [bytes_of hn]; exact hv, hn⟩
  · rintro ⟨q, hq, hv, rfl⟩
    exact ⟨q, List.mem_append_left _ hq, by rw [Cal.valOf_more h]; exact hv, rfl⟩
theorem Cal.consL_more {l : List Prov} {p : Prov} {holds known : Int} (h : known < p.en) : Cal.consL (l ++ [p]) holds known = Cal.consL l holds known := by
  unfold Cal.consL
  rw [Cal.namesL_more h, Cal.lines_more h]
set_option maxRecDepth 100000 in
set_option maxHeartbeats 8000000 in
theorem RuleKnown_any (A : Option Addr) (c : Nat) (l : List Prov) (p : Prov) (holds known : Int) (w : World) (hl : Provs w A l) (hp : p.name.size ≤ maxLen) (hT : Tab w) (hP : Pow w) :
    Calls Tryz.prog 3 #[.slice A l.length c, .agg #[.string p.name, .int .i64 p.value, .int .i64 p.fr, .int .i64 p.en, .bool p.repeal], .agg #[.int .i64 holds, .int .i64 known]] w fun e w' => e = .returned (.bool true) ∧ Below w.heap.size w w' := by
  have hl := Lib.hid hl
  have hT := Lib.hid hT
  have hP := Lib.hid hP
  have hpn := Lib.hid hp
  unfold maxLen at hp
  by_cases hn : p.name.size ≤ 30
  · by_cases h0 : Cal.atErr l [holds, known] = 0
    · by_cases hpe : known < p.en
      · obtain ⟨F, hF⟩ : ∃ F, Cal.nextErr l p = F := ⟨_, rfl⟩
        by_cases hF0 : F = 0
        · subst hF0
          obtain ⟨_, _, hnL0⟩ := Cal.nextErr_ok hF
          have hE := Lib.hid h0
          have hE2 : Hid (Cal.atErr (l ++ [p]) [holds, known] = 0) := by show _ = _; rw [Cal.atErr_next hF]; exact h0
          obtain ⟨l2, hl2⟩ : ∃ l2, l2 = l ++ [p] := ⟨_, rfl⟩
          obtain ⟨v, f, hv⟩ : ∃ v f, Cal.valueS l p.name holds known = (v, f) := ⟨_, _, rfl⟩
          have hv2 : Hid (Cal.valueS l2 p.name holds known = (v, f)) := by show _ = _; rw [hl2, Cal.valueS_next hF hpe]; exact hv
          have hv := Lib.hid hv
          obtain ⟨h, hh⟩ : ∃ h, Cal.chgE l p.name known = h := ⟨_, rfl⟩
          have hh2 : Hid (Cal.chgE l2 p.name known = h) := by show _ = _; rw [hl2, Cal.chgE_next hF hpe]; exact hh
          have hh := Lib.hid hh
          obtain ⟨R, hR⟩ : ∃ R, Cal.chgR l p.name known = R := ⟨_, rfl⟩
          have hR2 : Hid (Cal.chgR l2 p.name known = R) := by show _ = _; rw [hl2, Cal.chgR_next hF hpe]; exact hR
          have hRl : R.length ≤ l.length := by
            rw [← hR]; unfold Cal.chgR; split
            · exact Nat.le_trans (Cal.chg_length _ _ _ _ _ _) (Nat.le_trans (Cal.ups_length _) (Cal.frs_length _ _ _))
            · simp
          have hR := Lib.hid hR
          obtain ⟨t, ht⟩ : ∃ t : ByteArray, (⟨(if Cal.atErr l [holds, known] = 0 then Cal.consL l holds known else []).toArray⟩ : ByteArray) = t := ⟨_, rfl⟩
          have ht2 : Hid ((⟨(if Cal.atErr l2 [holds, known] = 0 then Cal.consL l2 holds known else []).toArray⟩ : ByteArray) = t) := by
            show _ = _
            rw [← ht, hl2, Cal.atErr_next hF, Cal.consL_more hpe]
          have ht := Lib.hid ht
          have hE2 : Hid (Cal.atErr l2 [holds, known] = 0) := by show _ = _; rw [hl2]; exact hE2.out
          have hnE := Lib.hid hF
          have hnL : Hid (Cal.nextL l p = l2) := by show _ = _; rw [hl2]; exact hnL0
          have hpe' : decide (p.en ≤ known) = false := by simp; omega
          clear h0 hF hnL0 hl2
          have g1 : Hid (ProvAt ((w.alloc (.cells #[.string p.name, .int .i64 p.value, .int .i64 p.fr, .int .i64 p.en, .bool p.repeal] 24)).alloc (.cells #[.int .i64 holds, .int .i64 known] 25)) w.heap.size p) := (ProvAt.new w p 24).below (below_alloc _ _)
          have g2 : Hid (AtCells ((w.alloc (.cells #[.string p.name, .int .i64 p.value, .int .i64 p.fr, .int .i64 p.en, .bool p.repeal] 24)).alloc (.cells #[.int .i64 holds, .int .i64 known] 25)) (w.heap.size + 1) holds known) := by
            have h := AtCells.new (w.alloc (.cells #[.string p.name, .int .i64 p.value, .int .i64 p.fr, .int .i64 p.en, .bool p.repeal] 24)) holds known 25
            rw [World.size_alloc] at h
            exact h
          have hb := Lib.hid (below_step (below_alloc w (.cells #[.string p.name, .int .i64 p.value, .int .i64 p.fr, .int .i64 p.en, .bool p.repeal] 24)) (below_alloc _ (.cells #[.int .i64 holds, .int .i64 known] 25)))
          have x0 := g1.out.c0
          have x1 := g1.out.c1
          have x2 := g1.out.c2
          have x3 := g1.out.c3
          have x4 := g1.out.c4
          have k0 := g2.out.c0
          have k1 := g2.out.c1
          go_enter Tryz.func3, Tryz.ntmps3
          go_wp2_with fail
          refine (awake_any _ (hT.out.below hb.out)).mono ?_
          rintro e w1 ⟨rfl, hbn⟩
          have g1 := Lib.hid (g1.out.below hbn)
          have g2 := Lib.hid (g2.out.below hbn)
          have hb := Lib.hid (below_step hb.out hbn)
          clear hbn x0 x1 x2 x3 x4 k0 k1
          have x0 := g1.out.c0
          have x1 := g1.out.c1
          have x2 := g1.out.c2
          have x3 := g1.out.c3
          have x4 := g1.out.c4
          have k0 := g2.out.c0
          have k1 := g2.out.c1
          go_wp2_with fail
          refine (Laws_any _ _ l _ (hl.out.below hb.out)).mono ?_
          rintro e w' ⟨⟨b, rfl, hlen⟩, rfl⟩
          cases b
          · go_wp2_with fail
            go_ret
            exact ⟨rfl, hb.out⟩
          have hlen := (hlen rfl).1
          go_wp2_with fail
          refine (atErr_is A c l holds known 0 hE.out _ (hl.out.below hb.out)).mono ?_
          rintro e w2 ⟨rfl, hbn⟩
          have g1 := Lib.hid (g1.out.below hbn)
          have g2 := Lib.hid (g2.out.below hbn)
          have hb := Lib.hid (below_step hb.out hbn)
          clear hbn x0 x1 x2 x3 x4 k0 k1
          have x0 := g1.out.c0
          have x1 := g1.out.c1
          have x2 := g1.out.c2
          have x3 := g1.out.c3
          have x4 := g1.out.c4
          have k0 := g2.out.c0
          have k1 := g2.out.c1
          go_wp2_with fail
          refine (Next_is A c l p 0 l2 hnE.out hnL.out _ (hl.out.below hb.out) hpn.out).mono ?_
          rintro e w3 ⟨A2, c2, rfl, hm, hbn⟩
          have hm := Lib.hid hm
          have g1 := Lib.hid (g1.out.below hbn)
          have g2 := Lib.hid (g2.out.below hbn)
          have hb := Lib.hid (below_step hb.out hbn)
          clear hbn x0 x1 x2 x3 x4 k0 k1
          have x0 := g1.out.c0
          have x1 := g1.out.c1
          have x2 := g1.out.c2
          have x3 := g1.out.c3
          have x4 := g1.out.c4
          have k0 := g2.out.c0
          have k1 := g2.out.c1
          go_wp2_with fail
          refine (Value_is _ _ l p.name holds known v f hv.out _ (hl.out.below hb.out)).mono ?_
          rintro e w4 ⟨rfl, hbn⟩
          have hm := Lib.hid (hm.out.below hbn)
          have g1 := Lib.hid (g1.out.below hbn)
          have g2 := Lib.hid (g2.out.below hbn)
          have hb := Lib.hid (below_step hb.out hbn)
          clear hbn x0 x1 x2 x3 x4 k0 k1
          have x0 := g1.out.c0
          have x1 := g1.out.c1
          have x2 := g1.out.c2
          have x3 := g1.out.c3
          have x4 := g1.out.c4
          have k0 := g2.out.c0
          have k1 := g2.out.c1
          go_wp2_with fail
          refine (Value_is _ _ l2 p.name holds known v f hv2.out _ hm.out).mono ?_
          rintro e w5 ⟨rfl, hbn⟩
          have hm := Lib.hid (hm.out.below hbn)
          have g1 := Lib.hid (g1.out.below hbn)
          have g2 := Lib.hid (g2.out.below hbn)
          have hb := Lib.hid (below_step hb.out hbn)
          clear hbn x0 x1 x2 x3 x4 k0 k1
          have x0 := g1.out.c0
          have x1 := g1.out.c1
          have x2 := g1.out.c2
          have x3 := g1.out.c3
          have x4 := g1.out.c4
          have k0 := g2.out.c0
          have k1 := g2.out.c1
          go_wp2_with fail
          refine (Changes_is _ _ l p.name known h R hh.out hR.out _ (hl.out.below hb.out)).mono ?_
          rintro e w6 ⟨A3, c3, rfl, hr3, _, hbn⟩
          have hr3 := Lib.hid hr3
          have hm := Lib.hid (hm.out.below hbn)
          have g1 := Lib.hid (g1.out.below hbn)
          have g2 := Lib.hid (g2.out.below hbn)
          have hb := Lib.hid (below_step hb.out hbn)
          clear hbn x0 x1 x2 x3 x4 k0 k1
          have x0 := g1.out.c0
          have x1 := g1.out.c1
          have x2 := g1.out.c2
          have x3 := g1.out.c3
          have x4 := g1.out.c4
          have k0 := g2.out.c0
          have k1 := g2.out.c1
          go_wp2_with fail
          refine (Changes_is _ _ l2 p.name known h R hh2.out hR2.out _ hm.out).mono ?_
          rintro e w7 ⟨A4, c4, rfl, hr4, _, hbn⟩
          have hr4 := Lib.hid hr4
          have hr3 := Lib.hid (hr3.out.below hbn)
          have hm := Lib.hid (hm.out.below hbn)
          have g1 := Lib.hid (g1.out.below hbn)
          have g2 := Lib.hid (g2.out.below hbn)
          have hb := Lib.hid (below_step hb.out hbn)
          clear hbn x0 x1 x2 x3 x4 k0 k1
          have x0 := g1.out.c0
          have x1 := g1.out.c1
          have x2 := g1.out.c2
          have x3 := g1.out.c3
          have x4 := g1.out.c4
          have k0 := g2.out.c0
          have k1 := g2.out.c1
          go_wp2_with fail
          refine (Cons_is A c l holds known 0 t hE.out ht.out _ (hl.out.below hb.out) (hP.out.below hb.out)).mono ?_
          rintro e w8 ⟨rfl, hbn⟩
          have hr4 := Lib.hid (hr4.out.below hbn)
          have hr3 := Lib.hid (hr3.out.below hbn)
          have hm := Lib.hid (hm.out.below hbn)
          have g1 := Lib.hid (g1.out.below hbn)
          have g2 := Lib.hid (g2.out.below hbn)
          have hb := Lib.hid (below_step hb.out hbn)
          clear hbn x0 x1 x2 x3 x4 k0 k1
          have x0 := g1.out.c0
          have x1 := g1.out.c1
          have x2 := g1.out.c2
          have x3 := g1.out.c3
          have x4 := g1.out.c4
          have k0 := g2.out.c0
          have k1 := g2.out.c1
          go_wp2_with fail
          refine (Cons_is A2 c2 l2 holds known 0 t hE2.out ht2.out _ hm.out (hP.out.below hb.out)).mono ?_
          rintro e w9 ⟨rfl, hbn⟩
          have hr4 := Lib.hid (hr4.out.below hbn)
          have hr3 := Lib.hid (hr3.out.below hbn)
          have g1 := Lib.hid (g1.out.below hbn)
          have g2 := Lib.hid (g2.out.below hbn)
          have hb := Lib.hid (below_step hb.out hbn)
          clear hbn x0 x1 x2 x3 x4 k0 k1
          have x0 := g1.out.c0
          have x1 := g1.out.c1
          have x2 := g1.out.c2
          have x3 := g1.out.c3
          have x4 := g1.out.c4
          have k0 := g2.out.c0
          have k1 := g2.out.c1
          go_wp2_with fail
          refine (SameChanges_any A3 A4 c3 c4 R _ hr3.out hr4.out (by omega)).mono ?_
          rintro e w10 ⟨rfl, hbn⟩
          have g1 := Lib.hid (g1.out.below hbn)
          have g2 := Lib.hid (g2.out.below hbn)
          have hb := Lib.hid (below_step hb.out hbn)
          clear hbn x0 x1 x2 x3 x4 k0 k1
          have x0 := g1.out.c0
          have x1 := g1.out.c1
          have x2 := g1.out.c2
          have x3 := g1.out.c3
          have x4 := g1.out.c4
          have k0 := g2.out.c0
          have k1 := g2.out.c1
          go_wp2_with fail
          go_ret
          exact ⟨rfl, hb.out⟩
        · have hF1 : (F != 0) = true := by simpa using hF0
          have hnE := Lib.hid hF
          have hnL : Hid (Cal.nextL l p = []) := by show _ = _; unfold Cal.nextL; rw [if_neg (by rw [hF]; exact hF0)]
          have hE := Lib.hid h0
          have hpe' : decide (p.en ≤ known) = false := by simp; omega
          clear h0 hF hF0
          have g1 : Hid (ProvAt ((w.alloc (.cells #[.string p.name, .int .i64 p.value, .int .i64 p.fr, .int .i64 p.en, .bool p.repeal] 24)).alloc (.cells #[.int .i64 holds, .int .i64 known] 25)) w.heap.size p) := (ProvAt.new w p 24).below (below_alloc _ _)
          have g2 : Hid (AtCells ((w.alloc (.cells #[.string p.name, .int .i64 p.value, .int .i64 p.fr, .int .i64 p.en, .bool p.repeal] 24)).alloc (.cells #[.int .i64 holds, .int .i64 known] 25)) (w.heap.size + 1) holds known) := by
            have h := AtCells.new (w.alloc (.cells #[.string p.name, .int .i64 p.value, .int .i64 p.fr, .int .i64 p.en, .bool p.repeal] 24)) holds known 25
            rw [World.size_alloc] at h
            exact h
          have hb := Lib.hid (below_step (below_alloc w (.cells #[.string p.name, .int .i64 p.value, .int .i64 p.fr, .int .i64 p.en, .bool p.repeal] 24)) (below_alloc _ (.cells #[.int .i64 holds, .int .i64 known] 25)))
          have x0 := g1.out.c0
          have x1 := g1.out.c1
          have x2 := g1.out.c2
          have x3 := g1.out.c3
          have x4 := g1.out.c4
          have k0 := g2.out.c0
          have k1 := g2.out.c1
          go_enter Tryz.func3, Tryz.ntmps3
          go_wp2_with fail
          refine (awake_any _ (hT.out.below hb.out)).mono ?_
          rintro e w1 ⟨rfl, hbn⟩
          have g1 := Lib.hid (g1.out.below hbn)
          have g2 := Lib.hid (g2.out.below hbn)
          have hb := Lib.hid (below_step hb.out hbn)
          clear hbn x0 x1 x2 x3 x4 k0 k1
          have x0 := g1.out.c0
          have x1 := g1.out.c1
          have x2 := g1.out.c2
          have x3 := g1.out.c3
          have x4 := g1.out.c4
          have k0 := g2.out.c0
          have k1 := g2.out.c1
          go_wp2_with fail
          refine (Laws_any _ _ l _ (hl.out.below hb.out)).mono ?_
          rintro e w' ⟨⟨b, rfl, hlen⟩, rfl⟩
          cases b
          · go_wp2_with fail
            go_ret
            exact ⟨rfl, hb.out⟩
          have hlen := (hlen rfl).1
          go_wp2_with fail
          refine (atErr_is A c l holds known 0 hE.out _ (hl.out.below hb.out)).mono ?_
          rintro e w2 ⟨rfl, hbn⟩
          have g1 := Lib.hid (g1.out.below hbn)
          have g2 := Lib.hid (g2.out.below hbn)
          have hb := Lib.hid (below_step hb.out hbn)
          clear hbn x0 x1 x2 x3 x4 k0 k1
          have x0 := g1.out.c0
          have x1 := g1.out.c1
          have x2 := g1.out.c2
          have x3 := g1.out.c3
          have x4 := g1.out.c4
          have k0 := g2.out.c0
          have k1 := g2.out.c1
          go_wp2_with fail
          refine (Next_is A c l p F [] hnE.out hnL.out _ (hl.out.below hb.out) hpn.out).mono ?_
          rintro e w3 ⟨A2, c2, rfl, hm, hbn⟩
          have g1 := Lib.hid (g1.out.below hbn)
          have g2 := Lib.hid (g2.out.below hbn)
          have hb := Lib.hid (below_step hb.out hbn)
          clear hbn x0 x1 x2 x3 x4 k0 k1
          have x0 := g1.out.c0
          have x1 := g1.out.c1
          have x2 := g1.out.c2
          have x3 := g1.out.c3
          have x4 := g1.out.c4
          have k0 := g2.out.c0
          have k1 := g2.out.c1
          go_wp2_with fail
          go_ret
          exact ⟨rfl, hb.out⟩
      · have hE := Lib.hid h0
        have hpe' : decide (p.en ≤ known) = true := by simp; omega
        clear h0 hpe
        have g1 : Hid (ProvAt ((w.alloc (.cells #[.string p.name, .int .i64 p.value, .int .i64 p.fr, .int .i64 p.en, .bool p.repeal] 24)).alloc (.cells #[.int .i64 holds, .int .i64 known] 25)) w.heap.size p) := (ProvAt.new w p 24).below (below_alloc _ _)
        have g2 : Hid (AtCells ((w.alloc (.cells #[.string p.name, .int .i64 p.value, .int .i64 p.fr, .int .i64 p.en, .bool p.repeal] 24)).alloc (.cells #[.int .i64 holds, .int .i64 known] 25)) (w.heap.size + 1) holds known) := by
          have h := AtCells.new (w.alloc (.cells #[.string p.name, .int .i64 p.value, .int .i64 p.fr, .int .i64 p.en, .bool p.repeal] 24)) holds known 25
          rw [World.size_alloc] at h
          exact h
        have hb := Lib.hid (below_step (below_alloc w (.cells #[.string p.name, .int .i64 p.value, .int .i64 p.fr, .int .i64 p.en, .bool p.repeal] 24)) (below_alloc _ (.cells #[.int .i64 holds, .int .i64 known] 25)))
        have x0 := g1.out.c0
        have x1 := g1.out.c1
        have x2 := g1.out.c2
        have x3 := g1.out.c3
        have x4 := g1.out.c4
        have k0 := g2.out.c0
        have k1 := g2.out.c1
        go_enter Tryz.func3, Tryz.ntmps3
        go_wp2_with fail
        refine (awake_any _ (hT.out.below hb.out)).mono ?_
        rintro e w1 ⟨rfl, hbn⟩
        have g1 := Lib.hid (g1.out.below hbn)
        have g2 := Lib.hid (g2.out.below hbn)
        have hb := Lib.hid (below_step hb.out hbn)
        clear hbn x0 x1 x2 x3 x4 k0 k1
        have x0 := g1.out.c0
        have x1 := g1.out.c1
        have x2 := g1.out.c2
        have x3 := g1.out.c3
        have x4 := g1.out.c4
        have k0 := g2.out.c0
        have k1 := g2.out.c1
        go_wp2_with fail
        refine (Laws_any _ _ l _ (hl.out.below hb.out)).mono ?_
        rintro e w' ⟨⟨b, rfl, hlen⟩, rfl⟩
        cases b
        · go_wp2_with fail
          go_ret
          exact ⟨rfl, hb.out⟩
        have hlen := (hlen rfl).1
        go_wp2_with fail
        refine (atErr_is A c l holds known 0 hE.out _ (hl.out.below hb.out)).mono ?_
        rintro e w2 ⟨rfl, hbn⟩
        have g1 := Lib.hid (g1.out.below hbn)
        have g2 := Lib.hid (g2.out.below hbn)
        have hb := Lib.hid (below_step hb.out hbn)
        clear hbn x0 x1 x2 x3 x4 k0 k1
        have x0 := g1.out.c0
        have x1 := g1.out.c1
        have x2 := g1.out.c2
        have x3 := g1.out.c3
        have x4 := g1.out.c4
        have k0 := g2.out.c0
        have k1 := g2.out.c1
        go_wp2_with fail
        go_ret
        exact ⟨rfl, hb.out⟩
    · obtain ⟨E, hE0⟩ : ∃ E, Cal.atErr l [holds, known] = E := ⟨_, rfl⟩
      rw [hE0] at h0
      have hE1 : (E != 0) = true := by simpa using h0
      have hE := Lib.hid hE0
      clear h0 hE0
      have g1 : Hid (ProvAt ((w.alloc (.cells #[.string p.name, .int .i64 p.value, .int .i64 p.fr, .int .i64 p.en, .bool p.repeal] 24)).alloc (.cells #[.int .i64 holds, .int .i64 known] 25)) w.heap.size p) := (ProvAt.new w p 24).below (below_alloc _ _)
      have g2 : Hid (AtCells ((w.alloc (.cells #[.string p.name, .int .i64 p.value, .int .i64 p.fr, .int .i64 p.en, .bool p.repeal] 24)).alloc (.cells #[.int .i64 holds, .int .i64 known] 25)) (w.heap.size + 1) holds known) := by
        have h := AtCells.new (w.alloc (.cells #[.string p.name, .int .i64 p.value, .int .i64 p.fr, .int .i64 p.en, .bool p.repeal] 24)) holds known 25
        rw [World.size_alloc] at h
        exact h
      have hb := Lib.hid (below_step (below_alloc w (.cells #[.string p.name, .int .i64 p.value, .int .i64 p.fr, .int .i64 p.en, .bool p.repeal] 24)) (below_alloc _ (.cells #[.int .i64 holds, .int .i64 known] 25)))
      have x0 := g1.out.c0
      have x1 := g1.out.c1
      have x2 := g1.out.c2
      have x3 := g1.out.c3
      have x4 := g1.out.c4
      have k0 := g2.out.c0
      have k1 := g2.out.c1
      go_enter Tryz.func3, Tryz.ntmps3
      go_wp2_with fail
      refine (awake_any _ (hT.out.below hb.out)).mono ?_
      rintro e w1 ⟨rfl, hbn⟩
      have g1 := Lib.hid (g1.out.below hbn)
      have g2 := Lib.hid (g2.out.below hbn)
      have hb := Lib.hid (below_step hb.out hbn)
      clear hbn x0 x1 x2 x3 x4 k0 k1
      have x0 := g1.out.c0
      have x1 := g1.out.c1
      have x2 := g1.out.c2
      have x3 := g1.out.c3
      have x4 := g1.out.c4
      have k0 := g2.out.c0
      have k1 := g2.out.c1
      go_wp2_with fail
      refine (Laws_any _ _ l _ (hl.out.below hb.out)).mono ?_
      rintro e w' ⟨⟨b, rfl, hlen⟩, rfl⟩
      cases b
      · go_wp2_with fail
        go_ret
        exact ⟨rfl, hb.out⟩
      have hlen := (hlen rfl).1
      go_wp2_with fail
      refine (atErr_is A c l holds known E hE.out _ (hl.out.below hb.out)).mono ?_
      rintro e w2 ⟨rfl, hbn⟩
      have g1 := Lib.hid (g1.out.below hbn)
      have g2 := Lib.hid (g2.out.below hbn)
      have hb := Lib.hid (below_step hb.out hbn)
      clear hbn x0 x1 x2 x3 x4 k0 k1
      have x0 := g1.out.c0
      have x1 := g1.out.c1
      have x2 := g1.out.c2
      have x3 := g1.out.c3
      have x4 := g1.out.c4
      have k0 := g2.out.c0
      have k1 := g2.out.c1
      go_wp2_with fail
      go_ret
      exact ⟨rfl, hb.out⟩
  · have hn' : 30 < p.name.size := by omega
    clear hn
    have g1 : Hid (ProvAt ((w.alloc (.cells #[.string p.name, .int .i64 p.value, .int .i64 p.fr, .int .i64 p.en, .bool p.repeal] 24)).alloc (.cells #[.int .i64 holds, .int .i64 known] 25)) w.heap.size p) := (ProvAt.new w p 24).below (below_alloc _ _)
    have g2 : Hid (AtCells ((w.alloc (.cells #[.string p.name, .int .i64 p.value, .int .i64 p.fr, .int .i64 p.en, .bool p.repeal] 24)).alloc (.cells #[.int .i64 holds, .int .i64 known] 25)) (w.heap.size + 1) holds known) := by
      have h := AtCells.new (w.alloc (.cells #[.string p.name, .int .i64 p.value, .int .i64 p.fr, .int .i64 p.en, .bool p.repeal] 24)) holds known 25
      rw [World.size_alloc] at h
      exact h
    have hb := Lib.hid (below_step (below_alloc w (.cells #[.string p.name, .int .i64 p.value, .int .i64 p.fr, .int .i64 p.en, .bool p.repeal] 24)) (below_alloc _ (.cells #[.int .i64 holds, .int .i64 known] 25)))
    have x0 := g1.out.c0
    have x1 := g1.out.c1
    have x2 := g1.out.c2
    have x3 := g1.out.c3
    have x4 := g1.out.c4
    have k0 := g2.out.c0
    have k1 := g2.out.c1
    go_enter Tryz.func3, Tryz.ntmps3
    go_wp2_with fail
    refine (awake_any _ (hT.out.below hb.out)).mono ?_
    rintro e w1 ⟨rfl, hbn⟩
    have g1 := Lib.hid (g1.out.below hbn)
    have g2 := Lib.hid (g2.out.below hbn)
    have hb := Lib.hid (below_step hb.out hbn)
    clear hbn x0 x1 x2 x3 x4 k0 k1
    have x0 := g1.out.c0
    have x1 := g1.out.c1
    have x2 := g1.out.c2
    have x3 := g1.out.c3
    have x4 := g1.out.c4
    have k0 := g2.out.c0
    have k1 := g2.out.c1
    go_wp2_with fail
    refine (Laws_any _ _ l _ (hl.out.below hb.out)).mono ?_
    rintro e w' ⟨⟨b, rfl, hlen⟩, rfl⟩
    cases b
    · go_wp2_with fail
      go_ret
      exact ⟨rfl, hb.out⟩
    have hlen := (hlen rfl).1
    go_wp2_with fail
    go_ret
    exact ⟨rfl, hb.out⟩
end Go.Proofs.YtbinoelbjlgjkaaGreatDoor
