/- Chapter 8 and what it rests on: definitions and walks, part 33. -/
import Derived.Test.YtbegbajlagcbdaaGreatDoorC32
import Derived.Test.YtbegbajlagcbdaaGreatDoorC30
namespace Go.Proofs.YtbegbajlagcbdaaGreatDoor
open Go Go.RowKit
theorem wordsV_good {l : List UInt8} {p : Prov} (h : Cal.lineP l = some p) : wordsV l = (.agg #[.string p.name, .int .i64 p.value, .int .i64 p.fr, .int .i64 p.en, .bool p.repeal], true) := by
  unfold Cal.lineP at h
  split at h
  · cases h
  · rename_i h0
    obtain ⟨⟨a, q⟩, hx, rfl⟩ := Option.map_eq_some_iff.1 h
    rw [wordsV_some h0 hx]
    rfl
theorem wordsV_bad {l : List UInt8} (h : Cal.lineP l = none) : wordsV l = (.agg #[.string ⟨#[]⟩, .int .i64 0, .int .i64 0, .int .i64 0, .bool false], false) := by
  unfold Cal.lineP at h
  split at h
  · rename_i h0
    rw [wordsV_long h0]; rfl
  · rename_i h0
    rw [wordsV_none (Option.map_eq_none_iff.1 h)]; rfl
theorem txtRows_get {w : World} {A : Option Addr} {zs : List Cal.Txt} (h : RowsAt w A 1 (txtRows zs)) {k : Nat} (hk : k < zs.length) : ∃ b o, A = some ⟨b, o, none⟩ ∧ b < w.heap.size ∧ ∃ zb : ByteArray, zb.data.toList = zs[k] ∧ w.cell? ⟨b, o + k, none⟩ = some (.string zb) := by
  obtain ⟨b, o, hA, hb, hc⟩ := h k [encStr zs[k]] (by simp [txtRows, List.getElem?_eq_getElem hk])
  have := hc 0 _ rfl
  simp only [Nat.mul_one, Nat.add_zero] at this
  exact ⟨b, o, hA, hb, ⟨zs[k].toArray⟩, rfl, this⟩
theorem take_last {zs : List (List UInt8)} {k : Nat} (h : k < zs.length) (hl : k + 1 = zs.length) : zs.drop k = [zs[k]] := by
  rw [List.drop_eq_getElem_cons h, List.drop_eq_nil_of_le (by omega)]
/-- What the loop keeps. -/
structure RpI (w : World) (B : Nat) (A : Option Addr) (zs : List (List UInt8)) (acc : List Prov) (v : Value) (W : World) : Prop where
  own : OwnL W B 71 5 v (acc.map Prov.cells)
  base : B ≤ W.heap.size ∧ w.heap.size ≤ B ∧ ∀ a, A = some a → a.block < B
  rows : RowsAt W A 1 (txtRows zs)
  fr : Below w.heap.size w W
theorem RpI.below {w : World} {B : Nat} {A : Option Addr} {zs : List (List UInt8)} {acc : List Prov} {v : Value} {W W' : World} (h : RpI w B A zs acc v W) (hb : Below W.heap.size W W') : RpI w B A zs acc v W' :=
  ⟨OwnL.below h.own hb, ⟨Nat.le_trans h.base.1 hb.size, h.base.2⟩, h.rows.below hb, below_step h.fr hb⟩
theorem RpI.app {w : World} {B : Nat} {A : Option Addr} {zs : List (List UInt8)} {acc : List Prov} {v v' : Value} {W W7 : World} {p : Prov} (h : RpI w B A zs acc v W) (hown : OwnL W7 B 71 5 v' (acc.map Prov.cells ++ [p].map Prov.cells)) (hg : W.grownBy W7 v.ownBlock) : RpI w B A zs (acc ++ [p]) v' W7 := by
  rw [← List.map_append] at hown
  obtain ⟨h1, h2, h3⟩ := h.base
  exact ⟨hown, ⟨Nat.le_trans h1 hg.size, h2, h3⟩, fun k r hr => by
    obtain ⟨b, o, hA', hlt, hc⟩ := h.rows k r hr
    exact ⟨b, o, hA', Nat.lt_of_lt_of_le hlt hg.size, fun j u hu => hg.cell (hc j u hu) (fun e => by have := (h.own.lt b e.symm).1; have := h3 _ hA'; simp at this; omega)⟩, h.fr.trans (grown_below hg (fun g e => Nat.le_trans h2 (h.own.lt g e).1) (Nat.le_trans h2 h1))⟩
theorem wordsV_form (l : List UInt8) : ∃ (p : Prov) (b : Bool), wordsV l = (.agg #[.string p.name, .int .i64 p.value, .int .i64 p.fr, .int .i64 p.en, .bool p.repeal], b) ∧ (b = true → Cal.lineP l = some p) ∧ (b = false → Cal.lineP l = none) := by
  cases h : Cal.lineP l with
  | some p => exact ⟨p, true, wordsV_good h, fun _ => rfl, fun h => by cases h⟩
  | none => exact ⟨⟨⟨#[]⟩, 0, 0, 0, false⟩, false, wordsV_bad h, fun h => Bool.noConfusion h, fun _ => rfl⟩
set_option maxRecDepth 100000 in
set_option maxHeartbeats 4000000 in
theorem ParseR_any (s : ByteArray) (w : World) (hs : s.size ≤ 1000000) : Calls Tryz.prog 37 #[.string s] w (ParsePost w (Cal.parseT s.data.toList)) := by
  have hll := Lib.hid (list_len s)
  by_cases h0 : 60000 < s.size
  · have hfin : Hid (Cal.parseT s.data.toList = ([], 0, 8)) := by show _ = _; unfold Cal.parseT; rw [if_pos (by rw [list_len]; exact h0)]
    go_enter Tryz.func37, Tryz.ntmps37
    go_wp2
    go_ret3
    exact parsePost_err hfin.out (Below.refl _ _)
  · have hpt : Hid (Cal.parseT s.data.toList = Cal.finT (Cal.linesR 0 [] (Cal.cutT 10 s.data.toList))) := by show _ = _; unfold Cal.parseT; rw [if_neg (by rw [list_len]; exact h0)]
    have hzl : (Cal.cutT 10 s.data.toList).length ≤ s.size + 1 := by
      rw [Cal.cutT_length]
      have := List.count_le_length (a := (10 : UInt8)) (l := s.data.toList)
      rw [hll.out] at this
      omega
    have hz0 : 0 < (Cal.cutT 10 s.data.toList).length := by rw [Cal.cutT_length]; omega
    have hzm : Hid (∀ z ∈ Cal.cutT 10 s.data.toList, z.length ≤ s.size) := fun z hz => by have := (Cal.cutT_mem hz).2; rwa [hll.out] at this
    go_enter Tryz.func37, Tryz.ntmps37
    go_wp2_with fail
    refine (Cut10_any s _ hs).mono ?_
    rintro e w1 ⟨v, rfl, hv, hb1⟩
    obtain ⟨A, cap, rfl, hrow⟩ := hv.rows
    have hS0 : Hid (RpI w w1.heap.size A (Cal.cutT 10 s.data.toList) [] (.slice none 0 0) w1) := ⟨OwnL.nil _ _ _ _, ⟨Nat.le_refl _, hb1.size, fun a e => by obtain ⟨b, o, e2, hlt, _⟩ := hrow 0 _ (by unfold txtRows; rw [List.getElem?_map, List.getElem?_eq_getElem hz0]; rfl); rw [e2] at e; cases e; exact hlt⟩, hrow, hb1⟩
    clear hv hb1 hrow
    generalize Cal.cutT 10 s.data.toList = zs at *
    go_wp2_with fail
    go_loopw [5, 7] (fun o i wr => ∃ (acc : List Prov) (k : Nat), k < zs.length ∧ Hid (k = acc.length) ∧ i = .int .i64 k ∧ Hid (RpI w w1.heap.size A zs acc o wr) ∧ Hid (Cal.linesR k acc (zs.drop k) = Cal.linesR 0 [] zs) ∧ Hid (∀ p ∈ acc, p.name.size ≤ 200)) (fun _ i _ => zs.length - (intOf i).toNat)
    case atStart => exact ⟨[], 0, hz0, rfl, rfl, hS0, rfl, fun p h => by cases h⟩
    case round =>
      obtain ⟨acc, k, hk, hka, rfl, hS, hinv, hnm⟩ := hrel
      clear hS0
      have hmaxn : ∀ (k : Nat) p, acc[k]? = some p → p.name.size ≤ maxLen := fun k p h => by have := hnm.out p (List.mem_of_getElem? h); unfold maxLen; omega
      have hacl : acc.length ≤ 1000000 := by have := hka.out; omega
      obtain ⟨A4, c4, hu, hpr⟩ := OwnL.prvs hS.out.own hacl hmaxn
      subst hu
      have hpr := Lib.hid hpr
      clear hmaxn
      have hbs := hS.out.fr.size
      have hzk := hzm.out _ (List.getElem_mem hk)
      obtain ⟨b2, o2, rfl, hbl, zb, hzb, e1⟩ := txtRows_get hS.out.rows hk
      have hzs : zb.size ≤ 1000000 := by rw [← list_len, hzb]; omega
      have hdr := Lib.hid (List.drop_eq_getElem_cons hk)
      by_cases hl : k + 1 = zs.length
      · have hq1 : ((k : Int) == (zs.length : Int) - 1) = true := by rw [beq_iff_eq]; omega
        have e1 : wr.cell? ⟨b2, o2 + (zs.length - 1), none⟩ = some (.string zb) := by rw [show zs.length - 1 = k by omega]; exact e1
        have hdl := take_last hk hl
        rw [hdl] at hinv
        by_cases hz : zb.size = 0
        · obtain rfl : zb = ⟨#[]⟩ := by
            rcases zb with ⟨⟨q⟩⟩
            have : q.length = 0 := hz
            rw [List.length_eq_zero_iff] at this
            rw [this]
          have hz1 : zs[k] = [] := hzb.symm
          have hok : Cal.linesR 0 [] zs = .ok acc := by rw [← hinv.out, hz1, Cal.linesR_last, if_pos rfl]
          have hf0 := hpt.out
          rw [hok] at hf0
          clear hz hz1 hzb hinv hdl hdr hzk hok hl
          by_cases hE0 : Cal.provsErr acc = 0
          · have hfin : Hid (Cal.parseT s.data.toList = (acc, 0, 0)) := by show _ = _; rw [hf0]; show (if _ then _ else _) = _; rw [if_pos hE0]
            have hE0z := Lib.hid hE0
            clear hE0 hf0
            go_wp2_with fail
            refine (CheckProvisionsR_any A4 c4 acc _ hpr.out).mono ?_
            rintro e w8 ⟨rfl, hb8⟩
            rw [hE0z.out]
            have hpr8 := Lib.hid (hpr.out.below hb8)
            have hbw8 := Lib.hid (below_step hS.out.fr hb8)
            clear hb8
            go_wp2_with fail
            go_ret3
            rw [hfin.out]
            exact ⟨A4, c4, rfl, hpr8.out, hbw8.out⟩
          · have hfin : Hid (Cal.parseT s.data.toList = ([], 0, Cal.provsErr acc)) := by show _ = _; rw [hf0]; show (if _ then _ else _) = _; rw [if_neg hE0]
            have hE1 : (Cal.provsErr acc != 0) = true := by simpa using hE0
            clear hE0 hf0
            go_wp2_with fail
            refine (CheckProvisionsR_any A4 c4 acc _ hpr.out).mono ?_
            rintro e w8 ⟨rfl, hb8⟩
            have hbw8 := Lib.hid (below_step hS.out.fr hb8)
            clear hb8
            go_wp2_with fail
            go_ret3
            exact parsePost_err hfin.out hbw8.out
        · have hz0' : (zb.toList == []) = false := by
            rw [ByteArray.toList_eq, beq_eq_false_iff_ne]
            intro e
            exact hz (by rw [← list_len, e]; rfl)
          have hfin : Hid (Cal.parseT s.data.toList = ([], ((k + 1 : Nat) : Int), 7)) := by
            show _ = _
            rw [hpt.out, ← hinv.out, Cal.linesR_last, if_neg]
            · rfl
            rw [← hzb]; intro e; exact hz (by rw [← list_len, e]; rfl)
          clear hdl hdr hinv hzk hl hz
          obtain ⟨p, b, hwv, _⟩ := wordsV_form zb.data.toList
          have hwv := Lib.hid hwv
          go_wp2_with fail
          refine (words_any zb _ hzs).mono ?_
          rintro e w5 ⟨rfl, hbn⟩
          rw [hwv.out]
          dsimp only
          have hS5 := Lib.hid (hS.out.below hbn)
          have hs5 := Nat.le_trans hbs hbn.size
          clear hbn e1
          cases b
          all_goals
            go_wp2_with (refine wpList_store_box rfl 71 (.tmp 8) (.tmp 40) rfl (w5.heap.size) _ [.string p.name, .int .i64 p.value, .int .i64 p.fr, .int .i64 p.en, .bool p.repeal] (by rfl) (by rfl) (BoxAt.new w5 #[.string ⟨#[]⟩, .int .i64 0, .int .i64 0, .int .i64 0, .bool false] 71) rfl pvSize (by kernel_rfl) ?_; intro w6 h6 hg6)
            go_ret3
            exact parsePost_err (by rw [hfin.out]; simp; try omega) (below_of_grownB (below_step hS5.out.fr (below_alloc w5 (.cells #[.string ⟨#[]⟩, .int .i64 0, .int .i64 0, .int .i64 0, .bool false] 71))) hg6 (by have := hS5.out.fr.size; omega))
      · have hq1 : ((k : Int) == (zs.length : Int) - 1) = false := by rw [beq_eq_false_iff_ne]; omega
        have hdn : zs.drop (k + 1) ≠ [] := by intro e; have := congrArg List.length e; rw [List.length_drop] at this; simp at this; omega
        obtain ⟨p, b, hwv, hg, hbd⟩ := wordsV_form zb.data.toList
        have hwv := Lib.hid hwv
        cases b
        · have hfin : Hid (Cal.parseT s.data.toList = ([], ((k + 1 : Nat) : Int), 7)) := by
            show _ = _
            rw [hpt.out, ← hinv.out, hdr.out, ← hzb, Cal.linesR_bad (hbd rfl) (fun e => absurd e hdn)]
            rfl
          clear hdr hinv hzk hdn hg hbd
          go_wp2_with fail
          refine (words_any zb _ hzs).mono ?_
          rintro e w5 ⟨rfl, hbn⟩
          rw [hwv.out]
          dsimp only
          have hS5 := Lib.hid (hS.out.below hbn)
          have hs5 := Nat.le_trans hbs hbn.size
          clear hbn e1
          go_wp2_with (refine wpList_store_box rfl 71 (.tmp 8) (.tmp 40) rfl (w5.heap.size) _ [.string p.name, .int .i64 p.value, .int .i64 p.fr, .int .i64 p.en, .bool p.repeal] (by rfl) (by rfl) (BoxAt.new w5 #[.string ⟨#[]⟩, .int .i64 0, .int .i64 0, .int .i64 0, .bool false] 71) rfl pvSize (by kernel_rfl) ?_; intro w6 h6 hg6)
          go_ret3
          exact parsePost_err (by rw [hfin.out]; simp; try omega) (below_of_grownB (below_step hS5.out.fr (below_alloc w5 (.cells #[.string ⟨#[]⟩, .int .i64 0, .int .i64 0, .int .i64 0, .bool false] 71))) hg6 (by have := hS5.out.fr.size; omega))
        · have hlp := hg rfl
          have hnx : Hid (Cal.linesR (k + 1) (acc ++ [p]) (zs.drop (k + 1)) = Cal.linesR 0 [] zs) := by
            show _ = _
            rw [← hinv.out, hdr.out, ← hzb, Cal.linesR_good hdn hlp]
          have hpn := Lib.hid (Cal.lineP_name hlp)
          clear hdr hinv hzk hdn hg hbd hlp hpr
          go_wp2_with fail
          refine (words_any zb _ hzs).mono ?_
          rintro e w5 ⟨rfl, hbn⟩
          rw [hwv.out]
          dsimp only
          have hS5 := Lib.hid (hS.out.below hbn)
          have hs5 := Nat.le_trans hbs hbn.size
          clear hbn e1
          go_wp2_with (first
            | ((refine wpList_store_box rfl 71 (.tmp 8) (.tmp 40) rfl (w5.heap.size) _ [.string p.name, .int .i64 p.value, .int .i64 p.fr, .int .i64 p.en, .bool p.repeal] (by rfl) (by rfl) (BoxAt.new w5 #[.string ⟨#[]⟩, .int .i64 0, .int .i64 0, .int .i64 0, .bool false] 71) rfl pvSize (by kernel_rfl) ?_; intro w6 h6 hg6); have hb56 := below_of_grownB (below_alloc w5 (.cells #[.string ⟨#[]⟩, .int .i64 0, .int .i64 0, .int .i64 0, .bool false] 71)) hg6 (Nat.le_refl _); have hS6 := Lib.hid (hS5.out.below hb56); have h6 := Lib.hid h6; clear hg6 hb56)
            | (refine wpList_load_mid rfl 71 (.tmp 8) rfl (w5.heap.size) 0 rfl [.string p.name, .int .i64 p.value, .int .i64 p.fr, .int .i64 p.en, .bool p.repeal] _ h6.out.range Tryz.underlying71 rfl pvSize ?_)
            | (at_builtin; have hS6a := hS6.out.below (below_alloc w6 (.cells #[.string p.name, .int .i64 p.value, .int .i64 p.fr, .int .i64 p.en, .bool p.repeal] 71)); have hO := hS6a.own; have hsrc : RowsAt (w6.alloc (.cells #[.string p.name, .int .i64 p.value, .int .i64 p.fr, .int .i64 p.en, .bool p.repeal] 71)) (some ⟨w6.heap.size, 0, none⟩) 5 ([p].map Prov.cells) := rowsAt_new w6 p.cells 71; refine wpList_append_rows elemPrv rfl _ _ rfl rfl rfl hO hsrc rfl (prvCells_wid [p]) (prvCells_one [p]) (by simp only [List.length_map, List.length_singleton]; omega) (by decide) hS6a.base.1 ?_; intro v' w7 hown7 hg7 _; have hS7 : Hid (RpI w w1.heap.size (some ⟨b2, o2, none⟩) zs (acc ++ [p]) v' w7) := (by show RpI _ _ _ _ _ _ _; exact hS6a.app hown7 hg7); clear hown7 hg7 hO hS6a hsrc))
          go_roundw
          case rel => exact ⟨acc ++ [p], k + 1, by omega, by show _ = _; rw [List.length_append, ← hka.out]; rfl, by go_num, hS7, hnx, fun q hq => by
            rcases List.mem_append.1 hq with h | h
            · exact hnm.out q h
            · simp only [List.mem_singleton] at h; subst h; exact hpn.out⟩
          case measure => simp [intOf]; omega
end Go.Proofs.YtbegbajlagcbdaaGreatDoor
namespace Go.Proofs.YtbegbajlagcbdaaGreatDoor
open Go Go.RowKit
/-- A bool that bounds the list where it is true. -/
def LawsOutT (l : List Prov) (e : Ending) : Prop := ∃ b : Bool, e = .returned (.bool b) ∧ (b = true → l.length ≤ 210 ∧ ∀ (k : Nat) p, l[k]? = some p → p.name.size ≤ 30)
def shortToT (l : List Prov) (k : Nat) : Prop := ∀ (j : Nat) p, j < k → l[j]? = some p → p.name.size ≤ 30
theorem LawsT_any (A : Option Addr) (c : Nat) (l : List Prov) (w : World) (hl : Provs w A l) :
    Calls Tryz.prog 34 #[.slice A l.length c] w fun e w' => LawsOutT l e ∧ w = w' := by
  have hsz := hl.size
  by_cases h1 : l.length ≤ 12 ∨ (200 < l.length ∧ l.length ≤ 210)
  · have hl' := Lib.hid hl
    have h0 : Hid (shortToT l 0) := fun j p h _ => by omega
    have h210 : l.length ≤ 210 := by omega
    clear hl
    have hmain : Calls Tryz.prog 34 #[.slice A l.length c] w fun e w' => LawsOutT l e ∧ w = w' := by
      rcases h1 with h1 | ⟨h1, h2⟩
      all_goals
        go_enter Tryz.func34, Tryz.ntmps34
        go_wp2
        go_loop [3] (fun i => ∃ k : Nat, k ≤ l.length ∧ i = .int .i64 k ∧ Hid (shortToT l k)) (fun i => l.length - (intOf i).toNat)
        case atStart => exact ⟨0, Nat.zero_le _, rfl, h0⟩
        case round =>
          obtain ⟨k, hk, rfl, hshort⟩ := hrel
          clear h0
          by_cases hlt : k < l.length
          · have hk' : l[k]? = some l[k] := List.getElem?_eq_getElem hlt
            obtain ⟨b, o, rfl, hbl, c0, c1, c2, c3, c4⟩ := hl'.out.at_ hk'
            have hnm := hl'.out.names k _ hk'
            unfold maxLen at hnm
            clear c1 c2 c3 c4
            generalize l[k] = p at *
            by_cases hs : p.name.size ≤ 30
            · have hg2 : Hid (shortToT l (k + 1)) := fun j q hj hq => by
                rcases Nat.lt_or_ge j k with h | h
                · exact hshort.out j q h hq
                · obtain rfl : j = k := by omega
                  rw [hk'] at hq; cases hq; exact hs
              clear hk'
              go_wp2
              go_round
              case rel => exact ⟨k + 1, by omega, by go_num, hg2⟩
              case measure => simp [intOf]; omega
            · clear hk'
              go_wp2
              go_ret
              exact ⟨⟨false, rfl, fun h => by cases h⟩, rfl⟩
          · obtain rfl : k = l.length := by omega
            go_wp2
            go_ret
            exact ⟨⟨true, rfl, fun _ => ⟨h210, fun j p hp => hshort.out j p (List.getElem?_eq_some_iff.1 hp).1 hp⟩⟩, rfl⟩
    exact hmain
  · have h2 : 12 < l.length := by omega
    have h3 : l.length ≤ 200 ∨ 210 < l.length := by omega
    clear h1
    rcases h3 with h3 | h3
    · go_enter Tryz.func34, Tryz.ntmps34
      go_wp2
      go_ret
      exact ⟨⟨false, rfl, fun h => by cases h⟩, rfl⟩
    · go_enter Tryz.func34, Tryz.ntmps34
      go_wp2
      go_ret
      exact ⟨⟨false, rfl, fun h => by cases h⟩, rfl⟩
theorem sameT_any (A B : Option Addr) (c d : Nat) (l : List Prov) (w : World) (hA : Provs w A l) (hB : Provs w B l) :
    Calls Tryz.prog 38 #[.slice A l.length c, .slice B l.length d] w fun e w' => e = .returned (.bool true) ∧ Below w.heap.size w w' := by
  have hsz := hA.size
  have hA' := Lib.hid (fun (q : Nat) p (h : l[q]? = some p) => hA.at_ h)
  have hB' := Lib.hid (fun (q : Nat) p (h : l[q]? = some p) => hB.at_ h)
  clear hA hB
  go_enter Tryz.func38, Tryz.ntmps38
  go_wp2
  go_loopw [5] (fun i wr => ∃ (k n : Nat), k ≤ l.length ∧ i = .int .i64 k ∧ wr = w.drewN n) (fun i _ => l.length - (intOf i).toNat)
  case atStart => exact ⟨0, 0, Nat.zero_le _, rfl, rfl⟩
  case round =>
    obtain ⟨k, n, hk, rfl, rfl⟩ := hrel
    by_cases hlt : k < l.length
    · have hk' : l[k]? = some l[k] := List.getElem?_eq_getElem hlt
      obtain ⟨b, o, rfl, hbl, c0, c1, c2, c3, c4⟩ := hA'.out _ _ hk'
      obtain ⟨b', o', rfl, hbl', d0, d1, d2, d3, d4⟩ := hB'.out _ _ hk'
      generalize l[k] = p at *
      clear hk'
      go_wp2_with fail
      go_quiet (fail)
      go_wp2_with fail
      go_roundw
      case rel => exact ⟨k + 1, _, by omega, by go_num, rfl⟩
      case measure => simp [intOf]; omega
    · obtain rfl : k = l.length := by omega
      go_wp2
      go_ret
      exact ⟨rfl, below_drewN (Below.refl _ _) _⟩
end Go.Proofs.YtbegbajlagcbdaaGreatDoor
