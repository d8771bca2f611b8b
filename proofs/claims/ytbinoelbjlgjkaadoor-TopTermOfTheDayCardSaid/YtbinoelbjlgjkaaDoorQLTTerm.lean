/- The walk of a statement. -/
import Derived.Test.YtbinoelbjlgjkaaDoorC19
import Derived.Test.YtbinoelbjlgjkaaDoorC21
import Derived.Test.YtbinoelbjlgjkaaDoorC22
import Derived.Test.YtbinoelbjlgjkaaDoorQLSources
namespace Go.Proofs.YtbinoelbjlgjkaaDoor
open Go Go.RowKit
def termName : ByteArray := ⟨#[116, 101, 114, 109]⟩
/-- What the fee's value is, in the walk's own words. -/
theorem Value_term (A : Option Addr) (c : Nat) (l : List Prov) (day v e : Int) (hv : Cal.valueS l termName day day = (v, e)) (w : World) (hl : Provs w A l) :
    Calls Tryd.prog 6 #[.slice A l.length c, .string ⟨#[116, 101, 114, 109]⟩, .agg #[.int .i64 day, .int .i64 day]] w fun r w' => r = .returned (.tuple #[.int .i64 v, .int .i64 e]) ∧ Below w.heap.size w w' := by
  have h := Value_any A c l termName day day w hl
  rw [hv] at h; exact h
theorem Next_term (A : Option Addr) (c : Nat) (l : List Prov) (p : Prov) (E : Int) (l2 : List Prov) (hE : Cal.nextErr l p = E) (hL : Cal.nextL l p = l2) (w : World) (hl : Provs w A l) (hp : p.name.size ≤ maxLen) :
    Calls Tryd.prog 7 #[.slice A l.length c, .agg #[.string p.name, .int .i64 p.value, .int .i64 p.fr, .int .i64 p.en, .bool p.repeal]] w fun e w' => ∃ A2 c2, e = .returned (.tuple #[.slice A2 l2.length c2, .int .i64 E]) ∧ Provs w' A2 l2 ∧ Below w.heap.size w w' := by
  subst hE hL
  exact Next_any A c l p w hl hp
set_option maxRecDepth 100000 in
set_option maxHeartbeats 4000000 in
theorem term_go (A : Option Addr) (c : Nat) (l : List Prov) (p : Prov) (day t D : Int) (l2 : List Prov) (w : World) (hl : Hid (Provs w A l)) (hp : p.name.size ≤ maxLen) (hT : Hid (Tab w)) (hlen : l.length ≤ 12) (d0 : 0 ≤ day) (d1 : day ≤ 196000)
    (t0 : 0 ≤ t) (t1 : t ≤ 2000) (hv : Hid (Cal.valueS l termName day day = (t, 0))) (hpe : day < p.en) (hnE : Hid (Cal.nextErr l p = 0)) (hnL : Hid (Cal.nextL l p = l2)) (hv2 : Hid (Cal.valueS l2 termName day day = (t, 0)))
    (hD : Hid (Cal.dlAtS (termP t) (termN day) day = (D, 0))) (hW : Hid (Cal.addWorkingS [] (day + t) 0 = (D, 0))) :
    Calls Tryd.prog 3 #[.slice A l.length c, .agg #[.string p.name, .int .i64 p.value, .int .i64 p.fr, .int .i64 p.en, .bool p.repeal], .int .i64 day] w fun e w' => e = .returned (.bool true) ∧ Below w.heap.size w w' := by
  have hdl : Hid (∀ w1 N, Tab w1 → Acts w1 N [⟨day, 0, 0⟩] → Calls Tryd.prog 9 #[.agg #[.int .i64 0, .int .i64 t, .bool false, .int .i64 0, .int .i64 0, .bool false, .int .i64 0, .int .i64 0, .bool false, .int .i64 0, .int .i64 0, .slice none 0 0], .agg #[.string ⟨#[110]⟩, .int .i64 0, .slice N 1 1], .int .i64 day] w1 fun e w' => e = .returned (.tuple #[.int .i64 D, .int .i64 0]) ∧ Below w1.heap.size w1 w') := Lib.hid fun w1 N hT1 ha => by
    have h := DeadlineAt_any none 0 (termP t) N 1 (termN day) day w1 ⟨Hols.nil _ _, hT1, ha, show nName.size ≤ maxLen by decide⟩
    rw [hD.out] at h
    exact h
  have hadd : Hid (∀ w1, Tab w1 → Calls Tryd.prog 10 #[.slice none 0 0, .int .i64 (day + t), .int .i64 0] w1 fun e w' => e = .returned (.tuple #[.int .i64 D, .int .i64 0]) ∧ Below w1.heap.size w1 w') := Lib.hid fun w1 hT1 => by
    have h := AddWorking_any none 0 [] (fun _ => holCalls_nil none 0) (day + t) 0 w1 (Hols.nil _ _) hT1
    rw [hW.out] at h
    exact h
  have hpe' : decide (p.en ≤ day) = false := by simp; omega
  have g1 := Lib.hid (ProvAt.new w p 24)
  have hb := Lib.hid (below_alloc w (.cells #[.string p.name, .int .i64 p.value, .int .i64 p.fr, .int .i64 p.en, .bool p.repeal] 24))
  go_enter Tryd.func3, Tryd.ntmps3
  go_wp2_with fail
  refine (served_any _ (hT.out.below hb.out)).mono ?_
  rintro e w1 ⟨rfl, hbn⟩
  have g1 := Lib.hid (g1.out.below hbn)
  have hb := Lib.hid (below_step hb.out hbn)
  clear hbn
  go_wp2_with (((first | (go_at_call 20) | (go_at_call 5) | (go_at_call 19) | (fail) | (fail) | (fail) | (fail)); first | refine rin ?_ | refine rout ?_ | refine rany ?_))
  have ga := Lib.hid (AtCells.new w1 day day 27)
  have hbn := below_alloc w1 (.cells #[.int .i64 day, .int .i64 day] 27)
  have g1 := Lib.hid (g1.out.below hbn)
  have hb := Lib.hid (below_step hb.out hbn)
  clear hbn
  go_wp2_with (((first | (go_at_call 20) | (go_at_call 5) | (go_at_call 19) | (fail) | (fail) | (fail) | (fail)); first | refine rin ?_ | refine rout ?_ | refine rany ?_))
  refine (Value_term A c l day t 0 hv.out _ (hl.out.below hb.out)).mono ?_
  rintro e w2 ⟨rfl, hbn⟩
  have ga := Lib.hid (ga.out.below hbn)
  have g1 := Lib.hid (g1.out.below hbn)
  have hb := Lib.hid (below_step hb.out hbn)
  clear hbn
  have x3 := g1.out.c3
  clear x3
  have x0 := g1.out.c0
  have x1 := g1.out.c1
  have x2 := g1.out.c2
  have x3 := g1.out.c3
  have x4 := g1.out.c4
  go_wp2_with (((first | (go_at_call 20) | (go_at_call 5) | (go_at_call 19) | (fail) | (fail) | (fail) | (fail)); first | refine rin ?_ | refine rout ?_ | refine rany ?_))
  refine (Next_term A c l p 0 l2 hnE.out hnL.out _ (hl.out.below hb.out) hp).mono ?_
  rintro e w3 ⟨A2, c2, rfl, hl2, hbn⟩
  have hl2 := Lib.hid hl2
  have ga := Lib.hid (ga.out.below hbn)
  have hb := Lib.hid (below_step hb.out hbn)
  clear hbn x0 x1 x2 x3 x4 g1
  have k0 := ga.out.c0
  have k1 := ga.out.c1
  go_wp2_with fail
  refine (Value_term A2 c2 l2 day t 0 hv2.out _ hl2.out).mono ?_
  rintro e w4 ⟨rfl, hbn⟩
  have hb := Lib.hid (below_step hb.out hbn)
  clear hbn k0 k1 ga hl2 hpe'
  go_wp2_with fail
  have ha := Lib.hid (acts_new w4 [⟨day, 0, 0⟩] (by simp) 38)
  have hbn := below_alloc w4 (.cells #[.int .i64 day, .int .i64 0, .int .i64 0] 38)
  have hb := Lib.hid (below_step hb.out hbn)
  clear hbn
  refine (Opened_any (some ⟨w4.heap.size, 0, none⟩) 1 1 _).mono ?_
  rintro e w5 ⟨rfl, hbn⟩
  have ha := Lib.hid (ha.out.below hbn)
  have hb := Lib.hid (below_step hb.out hbn)
  clear hbn
  generalize some (⟨w4.heap.size, 0, none⟩ : Addr) = N at *
  have hN := Lib.hid (BoxAt.new w5 #[.string ⟨#[]⟩, .int .i64 0, .slice none 0 0] 35)
  go_wp2_with ((refine wpList_store_box rfl 35 (.tmp 12) (.tmp 75) rfl (w5.heap.size) _ [.string ⟨#[110]⟩, .int .i64 0, .slice N 1 1] (by rfl) (by rfl) hN.out rfl ntSize (by kernel_rfl) ?_; intro w6 h6 hg6); have hbn := below_of_grownB (below_alloc w5 _) hg6 (Nat.le_refl _); have ha := Lib.hid (ha.out.below hbn); have hb := Lib.hid (below_step hb.out hbn); have g7 := Lib.hid h6; clear hbn hg6 hN h6; have y0 := g7.out.c 0 _ rfl; have y1 := g7.out.c 1 _ rfl; have y2 := g7.out.c 2 _ rfl)
  generalize w5.heap.size = B7 at *
  refine (hdl.out _ N (hT.out.below hb.out) ha.out).mono ?_
  rintro e w7 ⟨rfl, hbn⟩
  have ha := Lib.hid (ha.out.below hbn)
  have hb := Lib.hid (below_step hb.out hbn)
  have g7 := Lib.hid (g7.out.below hbn)
  clear hbn y0 y1 y2
  have y0 := g7.out.c 0 _ rfl
  have y1 := g7.out.c 1 _ rfl
  have y2 := g7.out.c 2 _ rfl
  go_wp2_with fail
  refine (hdl.out _ N (hT.out.below hb.out) ha.out).mono ?_
  rintro e w8 ⟨rfl, hbn⟩
  have hb := Lib.hid (below_step hb.out hbn)
  clear hbn y0 y1 y2
  go_wp2_with fail
  refine (hadd.out _ (hT.out.below hb.out)).mono ?_
  rintro e w9 ⟨rfl, hbn⟩
  have hb := Lib.hid (below_step hb.out hbn)
  clear hbn
  go_wp2_with fail
  go_ret
  exact ⟨rfl, hb.out⟩
set_option maxRecDepth 100000 in
set_option maxHeartbeats 4000000 in
theorem TopTermOfTheDay_any (A : Option Addr) (c : Nat) (l : List Prov) (p : Prov) (day : Int) (w : World) (hl : Provs w A l) (hp : p.name.size ≤ maxLen) (hT : Tab w) :
    Calls Tryd.prog 3 #[.slice A l.length c, .agg #[.string p.name, .int .i64 p.value, .int .i64 p.fr, .int .i64 p.en, .bool p.repeal], .int .i64 day] w fun e w' => e = .returned (.bool true) ∧ Below w.heap.size w w' := by
  have hl := Lib.hid hl
  have hT := Lib.hid hT
  by_cases hlen : l.length ≤ 12
  · by_cases hd : 0 ≤ day ∧ day ≤ 196000
    · obtain ⟨d0, d1⟩ := hd
      obtain ⟨t, E, hv⟩ : ∃ t E, Cal.valueS l termName day day = (t, E) := ⟨_, _, rfl⟩
      by_cases hE : E = 0
      · by_cases ht : 0 ≤ t ∧ t ≤ 2000
        · obtain ⟨t0, t1⟩ := ht
          by_cases hpe : p.en ≤ day
          · have hv := Lib.hid hv
            have hE1 : (E != 0) = false := by simpa using hE
            clear hE
            have g1 := Lib.hid (ProvAt.new w p 24)
            have hb := Lib.hid (below_alloc w (.cells #[.string p.name, .int .i64 p.value, .int .i64 p.fr, .int .i64 p.en, .bool p.repeal] 24))
            go_enter Tryd.func3, Tryd.ntmps3
            go_wp2_with fail
            refine (served_any _ (hT.out.below hb.out)).mono ?_
            rintro e w1 ⟨rfl, hbn⟩
            have g1 := Lib.hid (g1.out.below hbn)
            have hb := Lib.hid (below_step hb.out hbn)
            clear hbn
            go_wp2_with (((first | (go_at_call 20) | (go_at_call 5) | (go_at_call 19) | (fail) | (fail) | (fail) | (fail)); first | refine rin ?_ | refine rout ?_ | refine rany ?_))
            have ga := Lib.hid (AtCells.new w1 day day 27)
            have hbn := below_alloc w1 (.cells #[.int .i64 day, .int .i64 day] 27)
            have g1 := Lib.hid (g1.out.below hbn)
            have hb := Lib.hid (below_step hb.out hbn)
            clear hbn
            go_wp2_with (((first | (go_at_call 20) | (go_at_call 5) | (go_at_call 19) | (fail) | (fail) | (fail) | (fail)); first | refine rin ?_ | refine rout ?_ | refine rany ?_))
            refine (Value_term A c l day t E hv.out _ (hl.out.below hb.out)).mono ?_
            rintro e w2 ⟨rfl, hbn⟩
            have ga := Lib.hid (ga.out.below hbn)
            have g1 := Lib.hid (g1.out.below hbn)
            have hb := Lib.hid (below_step hb.out hbn)
            clear hbn
            have x3 := g1.out.c3
            go_wp2_with (((first | (go_at_call 20) | (go_at_call 5) | (go_at_call 19) | (fail) | (fail) | (fail) | (fail)); first | refine rin ?_ | refine rout ?_ | refine rany ?_))
            go_ret
            exact ⟨rfl, hb.out⟩
          · have hpe1 : day < p.en := by omega
            by_cases hn : Cal.nextErr l p = 0
            · obtain ⟨_, _, hnL⟩ := Cal.nextErr_ok hn
              obtain ⟨D, h1, h2⟩ := Cal.term_dl d0 d1 t0 t1
              subst hE
              exact term_go A c l p day t D _ w hl hp hT hlen d0 d1 t0 t1 (Lib.hid hv) hpe1 (Lib.hid hn) (Lib.hid hnL) (Lib.hid (by rw [Cal.valueS_next hn hpe1]; exact hv)) (Lib.hid h1) (Lib.hid h2)
            · obtain ⟨F, hF⟩ : ∃ F, Cal.nextErr l p = F := ⟨_, rfl⟩
              rw [hF] at hn
              have hF1 : (F != 0) = true := by simpa using hn
              have hnE := Lib.hid hF
              have hnL : Hid (Cal.nextL l p = []) := by show _ = _; unfold Cal.nextL; rw [if_neg (by rw [hF]; exact hn)]
              have hv := Lib.hid hv
              have hE1 : (E != 0) = false := by simpa using hE
              have hpe' : decide (p.en ≤ day) = false := by simpa using hpe
              clear hE hpe hF hn
              have g1 := Lib.hid (ProvAt.new w p 24)
              have hb := Lib.hid (below_alloc w (.cells #[.string p.name, .int .i64 p.value, .int .i64 p.fr, .int .i64 p.en, .bool p.repeal] 24))
              go_enter Tryd.func3, Tryd.ntmps3
              go_wp2_with fail
              refine (served_any _ (hT.out.below hb.out)).mono ?_
              rintro e w1 ⟨rfl, hbn⟩
              have g1 := Lib.hid (g1.out.below hbn)
              have hb := Lib.hid (below_step hb.out hbn)
              clear hbn
              go_wp2_with (((first | (go_at_call 20) | (go_at_call 5) | (go_at_call 19) | (fail) | (fail) | (fail) | (fail)); first | refine rin ?_ | refine rout ?_ | refine rany ?_))
              have ga := Lib.hid (AtCells.new w1 day day 27)
              have hbn := below_alloc w1 (.cells #[.int .i64 day, .int .i64 day] 27)
              have g1 := Lib.hid (g1.out.below hbn)
              have hb := Lib.hid (below_step hb.out hbn)
              clear hbn
              go_wp2_with (((first | (go_at_call 20) | (go_at_call 5) | (go_at_call 19) | (fail) | (fail) | (fail) | (fail)); first | refine rin ?_ | refine rout ?_ | refine rany ?_))
              refine (Value_term A c l day t E hv.out _ (hl.out.below hb.out)).mono ?_
              rintro e w2 ⟨rfl, hbn⟩
              have ga := Lib.hid (ga.out.below hbn)
              have g1 := Lib.hid (g1.out.below hbn)
              have hb := Lib.hid (below_step hb.out hbn)
              clear hbn
              have x3 := g1.out.c3
              clear x3
              have x0 := g1.out.c0
              have x1 := g1.out.c1
              have x2 := g1.out.c2
              have x3 := g1.out.c3
              have x4 := g1.out.c4
              go_wp2_with (((first | (go_at_call 20) | (go_at_call 5) | (go_at_call 19) | (fail) | (fail) | (fail) | (fail)); first | refine rin ?_ | refine rout ?_ | refine rany ?_))
              refine (Next_term A c l p F [] hnE.out hnL.out _ (hl.out.below hb.out) hp).mono ?_
              rintro e w3 ⟨A2, c2, rfl, hl2, hbn⟩
              have hl2 := Lib.hid hl2
              have ga := Lib.hid (ga.out.below hbn)
              have hb := Lib.hid (below_step hb.out hbn)
              clear hbn x0 x1 x2 x3 x4 g1
              go_wp2_with fail
              go_ret
              exact ⟨rfl, hb.out⟩
        · have ht' : t < 0 ∨ 2000 < t := by omega
          have hv := Lib.hid hv
          have hE1 : (E != 0) = false := by simpa using hE
          clear hE ht
          have g1 := Lib.hid (ProvAt.new w p 24)
          have hb := Lib.hid (below_alloc w (.cells #[.string p.name, .int .i64 p.value, .int .i64 p.fr, .int .i64 p.en, .bool p.repeal] 24))
          go_enter Tryd.func3, Tryd.ntmps3
          go_wp2_with fail
          refine (served_any _ (hT.out.below hb.out)).mono ?_
          rintro e w1 ⟨rfl, hbn⟩
          have g1 := Lib.hid (g1.out.below hbn)
          have hb := Lib.hid (below_step hb.out hbn)
          clear hbn
          go_wp2_with (((first | (go_at_call 20) | (go_at_call 5) | (go_at_call 19) | (fail) | (fail) | (fail) | (fail)); first | refine rin ?_ | refine rout ?_ | refine rany ?_))
          have ga := Lib.hid (AtCells.new w1 day day 27)
          have hbn := below_alloc w1 (.cells #[.int .i64 day, .int .i64 day] 27)
          have g1 := Lib.hid (g1.out.below hbn)
          have hb := Lib.hid (below_step hb.out hbn)
          clear hbn
          go_wp2_with (((first | (go_at_call 20) | (go_at_call 5) | (go_at_call 19) | (fail) | (fail) | (fail) | (fail)); first | refine rin ?_ | refine rout ?_ | refine rany ?_))
          refine (Value_term A c l day t E hv.out _ (hl.out.below hb.out)).mono ?_
          rintro e w2 ⟨rfl, hbn⟩
          have ga := Lib.hid (ga.out.below hbn)
          have g1 := Lib.hid (g1.out.below hbn)
          have hb := Lib.hid (below_step hb.out hbn)
          clear hbn
          have x3 := g1.out.c3
          go_wp2_with (((first | (go_at_call 20) | (go_at_call 5) | (go_at_call 19) | (fail) | (fail) | (fail) | (fail)); first | refine rin ?_ | refine rout ?_ | refine rany ?_))
          go_ret
          exact ⟨rfl, hb.out⟩
      · have hv := Lib.hid hv
        have hE1 : (E != 0) = true := by simpa using hE
        clear hE
        have g1 := Lib.hid (ProvAt.new w p 24)
        have hb := Lib.hid (below_alloc w (.cells #[.string p.name, .int .i64 p.value, .int .i64 p.fr, .int .i64 p.en, .bool p.repeal] 24))
        go_enter Tryd.func3, Tryd.ntmps3
        go_wp2_with fail
        refine (served_any _ (hT.out.below hb.out)).mono ?_
        rintro e w1 ⟨rfl, hbn⟩
        have g1 := Lib.hid (g1.out.below hbn)
        have hb := Lib.hid (below_step hb.out hbn)
        clear hbn
        go_wp2_with (((first | (go_at_call 20) | (go_at_call 5) | (go_at_call 19) | (fail) | (fail) | (fail) | (fail)); first | refine rin ?_ | refine rout ?_ | refine rany ?_))
        have ga := Lib.hid (AtCells.new w1 day day 27)
        have hbn := below_alloc w1 (.cells #[.int .i64 day, .int .i64 day] 27)
        have g1 := Lib.hid (g1.out.below hbn)
        have hb := Lib.hid (below_step hb.out hbn)
        clear hbn
        go_wp2_with (((first | (go_at_call 20) | (go_at_call 5) | (go_at_call 19) | (fail) | (fail) | (fail) | (fail)); first | refine rin ?_ | refine rout ?_ | refine rany ?_))
        refine (Value_term A c l day t E hv.out _ (hl.out.below hb.out)).mono ?_
        rintro e w2 ⟨rfl, hbn⟩
        have ga := Lib.hid (ga.out.below hbn)
        have g1 := Lib.hid (g1.out.below hbn)
        have hb := Lib.hid (below_step hb.out hbn)
        clear hbn
        have x3 := g1.out.c3
        go_wp2_with fail
        go_ret
        exact ⟨rfl, hb.out⟩
    · have hd' : day < 0 ∨ 196000 < day := by omega
      clear hd
      have g1 := Lib.hid (ProvAt.new w p 24)
      have hb := Lib.hid (below_alloc w (.cells #[.string p.name, .int .i64 p.value, .int .i64 p.fr, .int .i64 p.en, .bool p.repeal] 24))
      go_enter Tryd.func3, Tryd.ntmps3
      go_wp2_with fail
      refine (served_any _ (hT.out.below hb.out)).mono ?_
      rintro e w1 ⟨rfl, hbn⟩
      have g1 := Lib.hid (g1.out.below hbn)
      have hb := Lib.hid (below_step hb.out hbn)
      clear hbn
      go_wp2_with (((first | (go_at_call 20) | (go_at_call 5) | (go_at_call 19) | (fail) | (fail) | (fail) | (fail)); first | refine rin ?_ | refine rout ?_ | refine rany ?_))
      go_ret
      exact ⟨rfl, hb.out⟩
  · have hlen' : 12 < l.length := by omega
    clear hlen
    have hsz := hl.out.size
    have g1 := Lib.hid (ProvAt.new w p 24)
    have hb := Lib.hid (below_alloc w (.cells #[.string p.name, .int .i64 p.value, .int .i64 p.fr, .int .i64 p.en, .bool p.repeal] 24))
    go_enter Tryd.func3, Tryd.ntmps3
    go_wp2_with fail
    refine (served_any _ (hT.out.below hb.out)).mono ?_
    rintro e w1 ⟨rfl, hbn⟩
    have g1 := Lib.hid (g1.out.below hbn)
    have hb := Lib.hid (below_step hb.out hbn)
    clear hbn
    go_wp2_with fail
    go_ret
    exact ⟨rfl, hb.out⟩
end Go.Proofs.YtbinoelbjlgjkaaDoor
