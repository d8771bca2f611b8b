/- The walk of a statement. -/
import Derived.Test.YtconnjkkgaapbaaGreatDoorC29
import Derived.Test.YtconnjkkgaapbaaGreatDoorC30
import Derived.Test.YtconnjkkgaapbaaGreatDoorC27
namespace Go.Proofs.YtconnjkkgaapbaaGreatDoor
open Go Go.RowKit
theorem Cal.blkL_nil {x y z day : Int} : Cal.blkL x y z day = [] ↔ (0 ≤ x ∧ 0 ≤ y ∧ 0 ≤ z) ∧ max (max x y) z ≤ day := by
  unfold Cal.blkL blk
  by_cases h1 : x < 0 ∨ day < x
  · rw [if_pos h1]; simp; omega
  · rw [if_neg h1]
    by_cases h2 : y < 0 ∨ day < y
    · rw [if_pos h2]; simp; omega
    · rw [if_neg h2]
      by_cases h3 : z < 0 ∨ day < z
      · rw [if_pos h3]; simp; omega
      · rw [if_neg h3]; simp; omega
set_option maxRecDepth 100000 in
set_option maxHeartbeats 8000000 in
theorem reuses_bad (A : Option Addr) (c : Nat) (p : Proc) (right rest : Int) (N : Option Addr) (d : Nat) (n : Note) (day : Int) (w : World) (hN : NB w A p N n) (hE : Cal.waitsE p right rest n ≠ 0) :
    Calls Tryz.prog 5 #[.agg #[.int .i64 p.runs.m, .int .i64 p.runs.d, .bool p.runs.k, .int .i64 p.obj.m, .int .i64 p.obj.d, .bool p.obj.k, .int .i64 p.wait.m, .int .i64 p.wait.d, .bool p.wait.k, .int .i64 p.exts, .int .i64 p.longest, .slice A p.hols.length c], .agg #[.int .i64 right, .int .i64 rest, .string n.name, .int .i64 n.opened, .slice N n.acts.length d], .int .i64 day] w fun e w' => e = .returned (.bool true) ∧ Below w.heap.size w w' := by
  have hN := Lib.hid hN
  have hbl := Lib.hid (fun w1 h => Blocks_bad A c p right rest N d n day w1 h hE)
  have hrr := fun (h0 : Cal.procErr p = 0) w1 (h : NB w1 A p N n) => ReuseErrR_any A c p right rest N d n w1 h h0
  have hea : Hid (Cal.earlS p right rest n = (0, Cal.waitsE p right rest n)) := by show _ = _; unfold Cal.earlS; rw [if_neg hE]
  have hEb : (Cal.waitsE p right rest n != 0) = true := by simpa using hE
  have hEE : (Cal.waitsE p right rest n == Cal.waitsE p right rest n) = true := by simp
  obtain ⟨P, hP⟩ : ∃ P, Cal.procErr p = P := ⟨_, rfl⟩
  have hpz := Lib.hid hP
  by_cases h0 : P = 0
  · subst h0
    have hrr := Lib.hid (hrr hP)
    generalize Cal.waitsE p right rest n = E at *
    clear hE hP
    obtain ⟨g1, g2, hb⟩ := start2r w A c p right rest N d n
    have r0 := g2.out.c 0 _ rfl
    have r1 := g2.out.c 1 _ rfl
    have r2 := g2.out.c 2 _ rfl
    have r3 := g2.out.c 3 _ rfl
    have r4 := g2.out.c 4 _ rfl
    go_enter Tryz.func5, Tryz.ntmps5
    go_wp2_with fail
    refine (nawake_any _ (hN.out.tab.below hb.out)).mono ?_
    rintro e w1 ⟨rfl, hbn⟩
    have g1 := Lib.hid (g1.out.below hbn)
    have g2 := Lib.hid (g2.out.below hbn)
    have hb := Lib.hid (below_step hb.out hbn)
    clear hbn r0 r1 r2 r3 r4
    have r0 := g2.out.c 0 _ rfl
    have r1 := g2.out.c 1 _ rfl
    have r2 := g2.out.c 2 _ rfl
    have r3 := g2.out.c 3 _ rfl
    have r4 := g2.out.c 4 _ rfl
    go_wp2_with (refine wpPrG g1.out (.tmp 3) rfl ?_)
    refine (Modest_any A c p _ (hN.out.hols.below hb.out)).mono ?_
    rintro e w2 ⟨⟨b, rfl⟩, hbn⟩
    have g1 := Lib.hid (g1.out.below hbn)
    have g2 := Lib.hid (g2.out.below hbn)
    have hb := Lib.hid (below_step hb.out hbn)
    clear hbn r0 r1 r2 r3 r4
    have r0 := g2.out.c 0 _ rfl
    have r1 := g2.out.c 1 _ rfl
    have r2 := g2.out.c 2 _ rfl
    have r3 := g2.out.c 3 _ rfl
    have r4 := g2.out.c 4 _ rfl
    cases b
    · go_wp2_with fail
      go_ret
      exact ⟨rfl, hb.out⟩
    go_wp2_with fail
    refine (Brief_any N d n _ hN.out.name hN.out.acts.size).mono ?_
    rintro e w3 ⟨⟨b, rfl⟩, hbn⟩
    have g1 := Lib.hid (g1.out.below hbn)
    have g2 := Lib.hid (g2.out.below hbn)
    have hb := Lib.hid (below_step hb.out hbn)
    clear hbn r0 r1 r2 r3 r4
    have r0 := g2.out.c 0 _ rfl
    have r1 := g2.out.c 1 _ rfl
    have r2 := g2.out.c 2 _ rfl
    have r3 := g2.out.c 3 _ rfl
    have r4 := g2.out.c 4 _ rfl
    cases b
    · go_wp2_with fail
      go_ret
      exact ⟨rfl, hb.out⟩
    go_wp2_with (refine wpPrG g1.out (.tmp 3) rfl ?_)
    refine (Earliest_any A c p right rest N d n _ (hN.out.below hb.out)).mono ?_
    rintro e wn ⟨he, hbn⟩
    rw [hea.out] at he
    subst he
    have g1 := Lib.hid (g1.out.below hbn)
    have g2 := Lib.hid (g2.out.below hbn)
    have hb := Lib.hid (below_step hb.out hbn)
    clear hbn r0 r1 r2 r3 r4
    have r0 := g2.out.c 0 _ rfl
    have r1 := g2.out.c 1 _ rfl
    have r2 := g2.out.c 2 _ rfl
    have r3 := g2.out.c 3 _ rfl
    have r4 := g2.out.c 4 _ rfl
    go_wp2_with (refine wpPrG g1.out (.tmp 3) rfl ?_)
    refine (hbl.out _ (hN.out.below hb.out)).mono ?_
    rintro e w5 ⟨v, rfl, hsl, hbn⟩
    have hsl := Lib.hid hsl
    have g1 := Lib.hid (g1.out.below hbn)
    have g2 := Lib.hid (g2.out.below hbn)
    have hb := Lib.hid (below_step hb.out hbn)
    clear hbn r0 r1 r2 r3 r4
    have r0 := g2.out.c 0 _ rfl
    have r1 := g2.out.c 1 _ rfl
    have r2 := g2.out.c 2 _ rfl
    have r3 := g2.out.c 3 _ rfl
    have r4 := g2.out.c 4 _ rfl
    go_wp2_with (refine wpPrG g1.out (.tmp 3) rfl ?_)
    refine (CheckProcedureR_any A c p _ (hN.out.hols.below hb.out)).mono ?_
    rintro e wn ⟨he, hbn⟩
    subst he
    rw [hpz.out]
    have hsl := Lib.hid ((hsl.out.keep (fun g cs t hg hh => (hbn.block g (Array.getElem?_eq_some_iff.1 hh).1).trans hh)))
    have g1 := Lib.hid (g1.out.below hbn)
    have g2 := Lib.hid (g2.out.below hbn)
    have hb := Lib.hid (below_step hb.out hbn)
    clear hbn r0 r1 r2 r3 r4
    have r0 := g2.out.c 0 _ rfl
    have r1 := g2.out.c 1 _ rfl
    have r2 := g2.out.c 2 _ rfl
    have r3 := g2.out.c 3 _ rfl
    have r4 := g2.out.c 4 _ rfl
    go_wp2_with (refine wpPrG g1.out (.tmp 3) rfl ?_)
    refine (hrr.out _ (hN.out.below hb.out)).mono ?_
    rintro e w7 ⟨rfl, hbn⟩
    obtain ⟨A1, c1, rfl, _⟩ := hsl.out
    have g1 := Lib.hid (g1.out.below hbn)
    have g2 := Lib.hid (g2.out.below hbn)
    have hb := Lib.hid (below_step hb.out hbn)
    clear hbn r0 r1 r2 r3 r4
    have r0 := g2.out.c 0 _ rfl
    have r1 := g2.out.c 1 _ rfl
    have r2 := g2.out.c 2 _ rfl
    have r3 := g2.out.c 3 _ rfl
    have r4 := g2.out.c 4 _ rfl
    go_wp2_with fail
    go_ret
    exact ⟨by first | rfl | done, hb.out⟩
  · have hEP : Cal.waitsE p right rest n = P := by unfold Cal.waitsE; rw [if_neg (by rw [hP]; exact h0), hP]
    have hP1 : (P == 0) = false := by simpa using h0
    rw [hEP] at hbl hea hEb hEE
    clear hrr hEP hP h0 hE
    obtain ⟨g1, g2, hb⟩ := start2r w A c p right rest N d n
    have r0 := g2.out.c 0 _ rfl
    have r1 := g2.out.c 1 _ rfl
    have r2 := g2.out.c 2 _ rfl
    have r3 := g2.out.c 3 _ rfl
    have r4 := g2.out.c 4 _ rfl
    go_enter Tryz.func5, Tryz.ntmps5
    go_wp2_with fail
    refine (nawake_any _ (hN.out.tab.below hb.out)).mono ?_
    rintro e w1 ⟨rfl, hbn⟩
    have g1 := Lib.hid (g1.out.below hbn)
    have g2 := Lib.hid (g2.out.below hbn)
    have hb := Lib.hid (below_step hb.out hbn)
    clear hbn r0 r1 r2 r3 r4
    have r0 := g2.out.c 0 _ rfl
    have r1 := g2.out.c 1 _ rfl
    have r2 := g2.out.c 2 _ rfl
    have r3 := g2.out.c 3 _ rfl
    have r4 := g2.out.c 4 _ rfl
    go_wp2_with (refine wpPrG g1.out (.tmp 3) rfl ?_)
    refine (Modest_any A c p _ (hN.out.hols.below hb.out)).mono ?_
    rintro e w2 ⟨⟨b, rfl⟩, hbn⟩
    have g1 := Lib.hid (g1.out.below hbn)
    have g2 := Lib.hid (g2.out.below hbn)
    have hb := Lib.hid (below_step hb.out hbn)
    clear hbn r0 r1 r2 r3 r4
    have r0 := g2.out.c 0 _ rfl
    have r1 := g2.out.c 1 _ rfl
    have r2 := g2.out.c 2 _ rfl
    have r3 := g2.out.c 3 _ rfl
    have r4 := g2.out.c 4 _ rfl
    cases b
    · go_wp2_with fail
      go_ret
      exact ⟨rfl, hb.out⟩
    go_wp2_with fail
    refine (Brief_any N d n _ hN.out.name hN.out.acts.size).mono ?_
    rintro e w3 ⟨⟨b, rfl⟩, hbn⟩
    have g1 := Lib.hid (g1.out.below hbn)
    have g2 := Lib.hid (g2.out.below hbn)
    have hb := Lib.hid (below_step hb.out hbn)
    clear hbn r0 r1 r2 r3 r4
    have r0 := g2.out.c 0 _ rfl
    have r1 := g2.out.c 1 _ rfl
    have r2 := g2.out.c 2 _ rfl
    have r3 := g2.out.c 3 _ rfl
    have r4 := g2.out.c 4 _ rfl
    cases b
    · go_wp2_with fail
      go_ret
      exact ⟨rfl, hb.out⟩
    go_wp2_with (refine wpPrG g1.out (.tmp 3) rfl ?_)
    refine (Earliest_any A c p right rest N d n _ (hN.out.below hb.out)).mono ?_
    rintro e wn ⟨he, hbn⟩
    rw [hea.out] at he
    subst he
    have g1 := Lib.hid (g1.out.below hbn)
    have g2 := Lib.hid (g2.out.below hbn)
    have hb := Lib.hid (below_step hb.out hbn)
    clear hbn r0 r1 r2 r3 r4
    have r0 := g2.out.c 0 _ rfl
    have r1 := g2.out.c 1 _ rfl
    have r2 := g2.out.c 2 _ rfl
    have r3 := g2.out.c 3 _ rfl
    have r4 := g2.out.c 4 _ rfl
    go_wp2_with (refine wpPrG g1.out (.tmp 3) rfl ?_)
    refine (hbl.out _ (hN.out.below hb.out)).mono ?_
    rintro e w5 ⟨v, rfl, hsl, hbn⟩
    have hsl := Lib.hid hsl
    have g1 := Lib.hid (g1.out.below hbn)
    have g2 := Lib.hid (g2.out.below hbn)
    have hb := Lib.hid (below_step hb.out hbn)
    clear hbn r0 r1 r2 r3 r4
    have r0 := g2.out.c 0 _ rfl
    have r1 := g2.out.c 1 _ rfl
    have r2 := g2.out.c 2 _ rfl
    have r3 := g2.out.c 3 _ rfl
    have r4 := g2.out.c 4 _ rfl
    go_wp2_with (refine wpPrG g1.out (.tmp 3) rfl ?_)
    refine (CheckProcedureR_any A c p _ (hN.out.hols.below hb.out)).mono ?_
    rintro e wn ⟨he, hbn⟩
    subst he
    rw [hpz.out]
    have hsl := Lib.hid ((hsl.out.keep (fun g cs t hg hh => (hbn.block g (Array.getElem?_eq_some_iff.1 hh).1).trans hh)))
    have g1 := Lib.hid (g1.out.below hbn)
    have g2 := Lib.hid (g2.out.below hbn)
    have hb := Lib.hid (below_step hb.out hbn)
    clear hbn r0 r1 r2 r3 r4
    have r0 := g2.out.c 0 _ rfl
    have r1 := g2.out.c 1 _ rfl
    have r2 := g2.out.c 2 _ rfl
    have r3 := g2.out.c 3 _ rfl
    have r4 := g2.out.c 4 _ rfl
    obtain ⟨A1, c1, rfl, _⟩ := hsl.out
    go_wp2_with fail
    go_ret
    exact ⟨by first | rfl | done, hb.out⟩
set_option maxRecDepth 100000 in
set_option maxHeartbeats 8000000 in
theorem reuses_ok (A : Option Addr) (c : Nat) (p : Proc) (right rest : Int) (N : Option Addr) (d : Nat) (n : Note) (day : Int) (w : World) (x : Int) (b0 : Bool) (hN : NB w A p N n) (hE : Cal.waitsE p right rest n = 0)
    (hea : Hid (Cal.earlS p right rest n = (x, if b0 = true then 0 else 12))) (hx0 : b0 = false → x = 0) (her : Hid (∀ w1, NB w1 A p N n → Calls Tryz.prog 27 #[.agg #[.int .i64 p.runs.m, .int .i64 p.runs.d, .bool p.runs.k, .int .i64 p.obj.m, .int .i64 p.obj.d, .bool p.obj.k, .int .i64 p.wait.m, .int .i64 p.wait.d, .bool p.wait.k, .int .i64 p.exts, .int .i64 p.longest, .slice A p.hols.length c], .agg #[.int .i64 right, .int .i64 rest, .string n.name, .int .i64 n.opened, .slice N n.acts.length d]] w1 (ErPost w1 x b0)))
    (hnil : (0 ≤ day ∧ day ≤ 200000) → ((Cal.blkL right rest (Cal.thirdS p n) day).length == 0) = (b0 && decide (x ≤ day))) :
    Calls Tryz.prog 5 #[.agg #[.int .i64 p.runs.m, .int .i64 p.runs.d, .bool p.runs.k, .int .i64 p.obj.m, .int .i64 p.obj.d, .bool p.obj.k, .int .i64 p.wait.m, .int .i64 p.wait.d, .bool p.wait.k, .int .i64 p.exts, .int .i64 p.longest, .slice A p.hols.length c], .agg #[.int .i64 right, .int .i64 rest, .string n.name, .int .i64 n.opened, .slice N n.acts.length d], .int .i64 day] w fun e w' => e = .returned (.bool true) ∧ Below w.heap.size w w' := by
  have hN := Lib.hid hN
  obtain ⟨h0, _, _, _, _, hv⟩ := Cal.waitsE_ok hE
  have hpz := Lib.hid h0
  have hrr := fun w1 (h : NB w1 A p N n) => ReuseErrR_any A c p right rest N d n w1 h h0
  rw [hE] at hrr
  have hrr := Lib.hid hrr
  have hxx : (x != x) = false := by simp
  by_cases hd : 0 ≤ day ∧ day ≤ 200000
  · have hbl := Lib.hid (fun w1 h => Blocks_ok A c p right rest N d n day w1 h hE hd)
    have hblr := Lib.hid (fun w1 h => BlocksR_any A c p right rest N d n day w1 h hv)
    have hnil := hnil hd
    generalize Cal.blkL right rest (Cal.thirdS p n) day = zs at *
    obtain ⟨d0, d1⟩ := hd
    clear hE hv h0
    cases b0
    · obtain rfl := hx0 rfl
      have hn0 : ((zs.length : Int) == 0) = false := by
        simp at hnil ⊢; exact hnil
      clear hx0 hnil
      obtain ⟨g1, g2, hb⟩ := start2r w A c p right rest N d n
      have r0 := g2.out.c 0 _ rfl
      have r1 := g2.out.c 1 _ rfl
      have r2 := g2.out.c 2 _ rfl
      have r3 := g2.out.c 3 _ rfl
      have r4 := g2.out.c 4 _ rfl
      go_enter Tryz.func5, Tryz.ntmps5
      go_wp2_with fail
      refine (nawake_any _ (hN.out.tab.below hb.out)).mono ?_
      rintro e w1 ⟨rfl, hbn⟩
      have g1 := Lib.hid (g1.out.below hbn)
      have g2 := Lib.hid (g2.out.below hbn)
      have hb := Lib.hid (below_step hb.out hbn)
      clear hbn r0 r1 r2 r3 r4
      have r0 := g2.out.c 0 _ rfl
      have r1 := g2.out.c 1 _ rfl
      have r2 := g2.out.c 2 _ rfl
      have r3 := g2.out.c 3 _ rfl
      have r4 := g2.out.c 4 _ rfl
      go_wp2_with (refine wpPrG g1.out (.tmp 3) rfl ?_)
      refine (Modest_any A c p _ (hN.out.hols.below hb.out)).mono ?_
      rintro e w2 ⟨⟨b, rfl⟩, hbn⟩
      have g1 := Lib.hid (g1.out.below hbn)
      have g2 := Lib.hid (g2.out.below hbn)
      have hb := Lib.hid (below_step hb.out hbn)
      clear hbn r0 r1 r2 r3 r4
      have r0 := g2.out.c 0 _ rfl
      have r1 := g2.out.c 1 _ rfl
      have r2 := g2.out.c 2 _ rfl
      have r3 := g2.out.c 3 _ rfl
      have r4 := g2.out.c 4 _ rfl
      cases b
      · go_wp2_with fail
        go_ret
        exact ⟨rfl, hb.out⟩
      go_wp2_with fail
      refine (Brief_any N d n _ hN.out.name hN.out.acts.size).mono ?_
      rintro e w3 ⟨⟨b, rfl⟩, hbn⟩
      have g1 := Lib.hid (g1.out.below hbn)
      have g2 := Lib.hid (g2.out.below hbn)
      have hb := Lib.hid (below_step hb.out hbn)
      clear hbn r0 r1 r2 r3 r4
      have r0 := g2.out.c 0 _ rfl
      have r1 := g2.out.c 1 _ rfl
      have r2 := g2.out.c 2 _ rfl
      have r3 := g2.out.c 3 _ rfl
      have r4 := g2.out.c 4 _ rfl
      cases b
      · go_wp2_with fail
        go_ret
        exact ⟨rfl, hb.out⟩
      go_wp2_with (refine wpPrG g1.out (.tmp 3) rfl ?_)
      refine (Earliest_any A c p right rest N d n _ (hN.out.below hb.out)).mono ?_
      rintro e wn ⟨he, hbn⟩
      rw [hea.out] at he
      subst he
      have g1 := Lib.hid (g1.out.below hbn)
      have g2 := Lib.hid (g2.out.below hbn)
      have hb := Lib.hid (below_step hb.out hbn)
      clear hbn r0 r1 r2 r3 r4
      have r0 := g2.out.c 0 _ rfl
      have r1 := g2.out.c 1 _ rfl
      have r2 := g2.out.c 2 _ rfl
      have r3 := g2.out.c 3 _ rfl
      have r4 := g2.out.c 4 _ rfl
      go_wp2_with (refine wpPrG g1.out (.tmp 3) rfl ?_)
      refine (hbl.out _ (hN.out.below hb.out)).mono ?_
      rintro e w5 ⟨v, rfl, hsl, hbn⟩
      have hsl := Lib.hid hsl
      have g1 := Lib.hid (g1.out.below hbn)
      have g2 := Lib.hid (g2.out.below hbn)
      have hb := Lib.hid (below_step hb.out hbn)
      clear hbn r0 r1 r2 r3 r4
      have r0 := g2.out.c 0 _ rfl
      have r1 := g2.out.c 1 _ rfl
      have r2 := g2.out.c 2 _ rfl
      have r3 := g2.out.c 3 _ rfl
      have r4 := g2.out.c 4 _ rfl
      go_wp2_with (refine wpPrG g1.out (.tmp 3) rfl ?_)
      refine (CheckProcedureR_any A c p _ (hN.out.hols.below hb.out)).mono ?_
      rintro e wn ⟨he, hbn⟩
      subst he
      rw [hpz.out]
      have hsl := Lib.hid ((hsl.out.keep (fun g cs t hg hh => (hbn.block g (Array.getElem?_eq_some_iff.1 hh).1).trans hh)))
      have g1 := Lib.hid (g1.out.below hbn)
      have g2 := Lib.hid (g2.out.below hbn)
      have hb := Lib.hid (below_step hb.out hbn)
      clear hbn r0 r1 r2 r3 r4
      have r0 := g2.out.c 0 _ rfl
      have r1 := g2.out.c 1 _ rfl
      have r2 := g2.out.c 2 _ rfl
      have r3 := g2.out.c 3 _ rfl
      have r4 := g2.out.c 4 _ rfl
      go_wp2_with (refine wpPrG g1.out (.tmp 3) rfl ?_)
      refine (hrr.out _ (hN.out.below hb.out)).mono ?_
      rintro e wn ⟨he, hbn⟩
      subst he
      have hsl := Lib.hid ((hsl.out.keep (fun g cs t hg hh => (hbn.block g (Array.getElem?_eq_some_iff.1 hh).1).trans hh)))
      have g1 := Lib.hid (g1.out.below hbn)
      have g2 := Lib.hid (g2.out.below hbn)
      have hb := Lib.hid (below_step hb.out hbn)
      clear hbn r0 r1 r2 r3 r4
      have r0 := g2.out.c 0 _ rfl
      have r1 := g2.out.c 1 _ rfl
      have r2 := g2.out.c 2 _ rfl
      have r3 := g2.out.c 3 _ rfl
      have r4 := g2.out.c 4 _ rfl
      go_wp2_with (refine wpPrG g1.out (.tmp 3) rfl ?_)
      refine (her.out _ (hN.out.below hb.out)).mono ?_
      rintro e wn ⟨he, hbn⟩
      subst he
      have hsl := Lib.hid ((hsl.out.keep (fun g cs t hg hh => (hbn.block g (Array.getElem?_eq_some_iff.1 hh).1).trans hh)))
      have g1 := Lib.hid (g1.out.below hbn)
      have g2 := Lib.hid (g2.out.below hbn)
      have hb := Lib.hid (below_step hb.out hbn)
      clear hbn r0 r1 r2 r3 r4
      have r0 := g2.out.c 0 _ rfl
      have r1 := g2.out.c 1 _ rfl
      have r2 := g2.out.c 2 _ rfl
      have r3 := g2.out.c 3 _ rfl
      have r4 := g2.out.c 4 _ rfl
      go_wp2_with (first | ((first | (go_at_call 86) | (go_at_call 41) | (go_at_call 74) | (go_at_call 28) | (go_at_call 109) | (fail) | (fail)); first | refine rin ?_ | refine rout ?_ | refine rany ?_) | (refine wpPrG g1.out (.tmp 3) rfl ?_))
      refine (hblr.out _ (hN.out.below hb.out)).mono ?_
      rintro e w9 ⟨u, rfl, hsu, hbn⟩
      have hsl := Lib.hid ((hsl.out.keep (fun g cs t hg hh => (hbn.block g (Array.getElem?_eq_some_iff.1 hh).1).trans hh)))
      have hsu := Lib.hid hsu
      have g1 := Lib.hid (g1.out.below hbn)
      have g2 := Lib.hid (g2.out.below hbn)
      have hb := Lib.hid (below_step hb.out hbn)
      clear hbn r0 r1 r2 r3 r4
      have r0 := g2.out.c 0 _ rfl
      have r1 := g2.out.c 1 _ rfl
      have r2 := g2.out.c 2 _ rfl
      have r3 := g2.out.c 3 _ rfl
      have r4 := g2.out.c 4 _ rfl
      go_wp2_with fail
      refine (Ints_any _ _ _ _ _ _ hsl.out hsu.out).mono ?_
      rintro e w10 ⟨rfl, hbn⟩
      have g1 := Lib.hid (g1.out.below hbn)
      have g2 := Lib.hid (g2.out.below hbn)
      have hb := Lib.hid (below_step hb.out hbn)
      clear hbn r0 r1 r2 r3 r4
      have r0 := g2.out.c 0 _ rfl
      have r1 := g2.out.c 1 _ rfl
      have r2 := g2.out.c 2 _ rfl
      have r3 := g2.out.c 3 _ rfl
      have r4 := g2.out.c 4 _ rfl
      obtain ⟨A1, c1, rfl, _⟩ := hsl.out
      go_wp2_with fail
      go_ret
      exact ⟨by first | rfl | done, hb.out⟩
    · clear hx0
      by_cases hxd : x ≤ day
      · have hxb : decide (x ≤ day) = true := by simpa using hxd
        have hn0 : zs = [] := by rw [hxb] at hnil; simpa using hnil
        subst hn0
        clear hnil hxd
        obtain ⟨g1, g2, hb⟩ := start2r w A c p right rest N d n
        have r0 := g2.out.c 0 _ rfl
        have r1 := g2.out.c 1 _ rfl
        have r2 := g2.out.c 2 _ rfl
        have r3 := g2.out.c 3 _ rfl
        have r4 := g2.out.c 4 _ rfl
        go_enter Tryz.func5, Tryz.ntmps5
        go_wp2_with fail
        refine (nawake_any _ (hN.out.tab.below hb.out)).mono ?_
        rintro e w1 ⟨rfl, hbn⟩
        have g1 := Lib.hid (g1.out.below hbn)
        have g2 := Lib.hid (g2.out.below hbn)
        have hb := Lib.hid (below_step hb.out hbn)
        clear hbn r0 r1 r2 r3 r4
        have r0 := g2.out.c 0 _ rfl
        have r1 := g2.out.c 1 _ rfl
        have r2 := g2.out.c 2 _ rfl
        have r3 := g2.out.c 3 _ rfl
        have r4 := g2.out.c 4 _ rfl
        go_wp2_with (refine wpPrG g1.out (.tmp 3) rfl ?_)
        refine (Modest_any A c p _ (hN.out.hols.below hb.out)).mono ?_
        rintro e w2 ⟨⟨b, rfl⟩, hbn⟩
        have g1 := Lib.hid (g1.out.below hbn)
        have g2 := Lib.hid (g2.out.below hbn)
        have hb := Lib.hid (below_step hb.out hbn)
        clear hbn r0 r1 r2 r3 r4
        have r0 := g2.out.c 0 _ rfl
        have r1 := g2.out.c 1 _ rfl
        have r2 := g2.out.c 2 _ rfl
        have r3 := g2.out.c 3 _ rfl
        have r4 := g2.out.c 4 _ rfl
        cases b
        · go_wp2_with fail
          go_ret
          exact ⟨rfl, hb.out⟩
        go_wp2_with fail
        refine (Brief_any N d n _ hN.out.name hN.out.acts.size).mono ?_
        rintro e w3 ⟨⟨b, rfl⟩, hbn⟩
        have g1 := Lib.hid (g1.out.below hbn)
        have g2 := Lib.hid (g2.out.below hbn)
        have hb := Lib.hid (below_step hb.out hbn)
        clear hbn r0 r1 r2 r3 r4
        have r0 := g2.out.c 0 _ rfl
        have r1 := g2.out.c 1 _ rfl
        have r2 := g2.out.c 2 _ rfl
        have r3 := g2.out.c 3 _ rfl
        have r4 := g2.out.c 4 _ rfl
        cases b
        · go_wp2_with fail
          go_ret
          exact ⟨rfl, hb.out⟩
        go_wp2_with (refine wpPrG g1.out (.tmp 3) rfl ?_)
        refine (Earliest_any A c p right rest N d n _ (hN.out.below hb.out)).mono ?_
        rintro e wn ⟨he, hbn⟩
        rw [hea.out] at he
        subst he
        have g1 := Lib.hid (g1.out.below hbn)
        have g2 := Lib.hid (g2.out.below hbn)
        have hb := Lib.hid (below_step hb.out hbn)
        clear hbn r0 r1 r2 r3 r4
        have r0 := g2.out.c 0 _ rfl
        have r1 := g2.out.c 1 _ rfl
        have r2 := g2.out.c 2 _ rfl
        have r3 := g2.out.c 3 _ rfl
        have r4 := g2.out.c 4 _ rfl
        go_wp2_with (refine wpPrG g1.out (.tmp 3) rfl ?_)
        refine (hbl.out _ (hN.out.below hb.out)).mono ?_
        rintro e w5 ⟨v, rfl, hsl, hbn⟩
        have hsl := Lib.hid hsl
        have g1 := Lib.hid (g1.out.below hbn)
        have g2 := Lib.hid (g2.out.below hbn)
        have hb := Lib.hid (below_step hb.out hbn)
        clear hbn r0 r1 r2 r3 r4
        have r0 := g2.out.c 0 _ rfl
        have r1 := g2.out.c 1 _ rfl
        have r2 := g2.out.c 2 _ rfl
        have r3 := g2.out.c 3 _ rfl
        have r4 := g2.out.c 4 _ rfl
        go_wp2_with (refine wpPrG g1.out (.tmp 3) rfl ?_)
        refine (CheckProcedureR_any A c p _ (hN.out.hols.below hb.out)).mono ?_
        rintro e wn ⟨he, hbn⟩
        subst he
        rw [hpz.out]
        have hsl := Lib.hid ((hsl.out.keep (fun g cs t hg hh => (hbn.block g (Array.getElem?_eq_some_iff.1 hh).1).trans hh)))
        have g1 := Lib.hid (g1.out.below hbn)
        have g2 := Lib.hid (g2.out.below hbn)
        have hb := Lib.hid (below_step hb.out hbn)
        clear hbn r0 r1 r2 r3 r4
        have r0 := g2.out.c 0 _ rfl
        have r1 := g2.out.c 1 _ rfl
        have r2 := g2.out.c 2 _ rfl
        have r3 := g2.out.c 3 _ rfl
        have r4 := g2.out.c 4 _ rfl
        go_wp2_with (refine wpPrG g1.out (.tmp 3) rfl ?_)
        refine (hrr.out _ (hN.out.below hb.out)).mono ?_
        rintro e wn ⟨he, hbn⟩
        subst he
        have hsl := Lib.hid ((hsl.out.keep (fun g cs t hg hh => (hbn.block g (Array.getElem?_eq_some_iff.1 hh).1).trans hh)))
        have g1 := Lib.hid (g1.out.below hbn)
        have g2 := Lib.hid (g2.out.below hbn)
        have hb := Lib.hid (below_step hb.out hbn)
        clear hbn r0 r1 r2 r3 r4
        have r0 := g2.out.c 0 _ rfl
        have r1 := g2.out.c 1 _ rfl
        have r2 := g2.out.c 2 _ rfl
        have r3 := g2.out.c 3 _ rfl
        have r4 := g2.out.c 4 _ rfl
        go_wp2_with (refine wpPrG g1.out (.tmp 3) rfl ?_)
        refine (her.out _ (hN.out.below hb.out)).mono ?_
        rintro e wn ⟨he, hbn⟩
        subst he
        have hsl := Lib.hid ((hsl.out.keep (fun g cs t hg hh => (hbn.block g (Array.getElem?_eq_some_iff.1 hh).1).trans hh)))
        have g1 := Lib.hid (g1.out.below hbn)
        have g2 := Lib.hid (g2.out.below hbn)
        have hb := Lib.hid (below_step hb.out hbn)
        clear hbn r0 r1 r2 r3 r4
        have r0 := g2.out.c 0 _ rfl
        have r1 := g2.out.c 1 _ rfl
        have r2 := g2.out.c 2 _ rfl
        have r3 := g2.out.c 3 _ rfl
        have r4 := g2.out.c 4 _ rfl
        go_wp2_with (first | ((first | (go_at_call 86) | (go_at_call 41) | (go_at_call 74) | (go_at_call 28) | (go_at_call 109) | (fail) | (fail)); first | refine rin ?_ | refine rout ?_ | refine rany ?_) | (refine wpPrG g1.out (.tmp 3) rfl ?_))
        refine (hblr.out _ (hN.out.below hb.out)).mono ?_
        rintro e w9 ⟨u, rfl, hsu, hbn⟩
        have hsl := Lib.hid ((hsl.out.keep (fun g cs t hg hh => (hbn.block g (Array.getElem?_eq_some_iff.1 hh).1).trans hh)))
        have hsu := Lib.hid hsu
        have g1 := Lib.hid (g1.out.below hbn)
        have g2 := Lib.hid (g2.out.below hbn)
        have hb := Lib.hid (below_step hb.out hbn)
        clear hbn r0 r1 r2 r3 r4
        have r0 := g2.out.c 0 _ rfl
        have r1 := g2.out.c 1 _ rfl
        have r2 := g2.out.c 2 _ rfl
        have r3 := g2.out.c 3 _ rfl
        have r4 := g2.out.c 4 _ rfl
        go_wp2_with fail
        refine (Ints_any _ _ _ _ _ _ hsl.out hsu.out).mono ?_
        rintro e w10 ⟨rfl, hbn⟩
        have g1 := Lib.hid (g1.out.below hbn)
        have g2 := Lib.hid (g2.out.below hbn)
        have hb := Lib.hid (below_step hb.out hbn)
        clear hbn r0 r1 r2 r3 r4
        have r0 := g2.out.c 0 _ rfl
        have r1 := g2.out.c 1 _ rfl
        have r2 := g2.out.c 2 _ rfl
        have r3 := g2.out.c 3 _ rfl
        have r4 := g2.out.c 4 _ rfl
        obtain ⟨A1, c1, rfl, _⟩ := hsl.out
        go_wp2_with fail
        go_ret
        exact ⟨by first | rfl | done, hb.out⟩
      · have hxb : decide (x ≤ day) = false := by simpa using hxd
        have hn0 : ((zs.length : Int) == 0) = false := by
          rw [hxb] at hnil; simp at hnil ⊢; exact hnil
        clear hnil hxd
        obtain ⟨g1, g2, hb⟩ := start2r w A c p right rest N d n
        have r0 := g2.out.c 0 _ rfl
        have r1 := g2.out.c 1 _ rfl
        have r2 := g2.out.c 2 _ rfl
        have r3 := g2.out.c 3 _ rfl
        have r4 := g2.out.c 4 _ rfl
        go_enter Tryz.func5, Tryz.ntmps5
        go_wp2_with fail
        refine (nawake_any _ (hN.out.tab.below hb.out)).mono ?_
        rintro e w1 ⟨rfl, hbn⟩
        have g1 := Lib.hid (g1.out.below hbn)
        have g2 := Lib.hid (g2.out.below hbn)
        have hb := Lib.hid (below_step hb.out hbn)
        clear hbn r0 r1 r2 r3 r4
        have r0 := g2.out.c 0 _ rfl
        have r1 := g2.out.c 1 _ rfl
        have r2 := g2.out.c 2 _ rfl
        have r3 := g2.out.c 3 _ rfl
        have r4 := g2.out.c 4 _ rfl
        go_wp2_with (refine wpPrG g1.out (.tmp 3) rfl ?_)
        refine (Modest_any A c p _ (hN.out.hols.below hb.out)).mono ?_
        rintro e w2 ⟨⟨b, rfl⟩, hbn⟩
        have g1 := Lib.hid (g1.out.below hbn)
        have g2 := Lib.hid (g2.out.below hbn)
        have hb := Lib.hid (below_step hb.out hbn)
        clear hbn r0 r1 r2 r3 r4
        have r0 := g2.out.c 0 _ rfl
        have r1 := g2.out.c 1 _ rfl
        have r2 := g2.out.c 2 _ rfl
        have r3 := g2.out.c 3 _ rfl
        have r4 := g2.out.c 4 _ rfl
        cases b
        · go_wp2_with fail
          go_ret
          exact ⟨rfl, hb.out⟩
        go_wp2_with fail
        refine (Brief_any N d n _ hN.out.name hN.out.acts.size).mono ?_
        rintro e w3 ⟨⟨b, rfl⟩, hbn⟩
        have g1 := Lib.hid (g1.out.below hbn)
        have g2 := Lib.hid (g2.out.below hbn)
        have hb := Lib.hid (below_step hb.out hbn)
        clear hbn r0 r1 r2 r3 r4
        have r0 := g2.out.c 0 _ rfl
        have r1 := g2.out.c 1 _ rfl
        have r2 := g2.out.c 2 _ rfl
        have r3 := g2.out.c 3 _ rfl
        have r4 := g2.out.c 4 _ rfl
        cases b
        · go_wp2_with fail
          go_ret
          exact ⟨rfl, hb.out⟩
        go_wp2_with (refine wpPrG g1.out (.tmp 3) rfl ?_)
        refine (Earliest_any A c p right rest N d n _ (hN.out.below hb.out)).mono ?_
        rintro e wn ⟨he, hbn⟩
        rw [hea.out] at he
        subst he
        have g1 := Lib.hid (g1.out.below hbn)
        have g2 := Lib.hid (g2.out.below hbn)
        have hb := Lib.hid (below_step hb.out hbn)
        clear hbn r0 r1 r2 r3 r4
        have r0 := g2.out.c 0 _ rfl
        have r1 := g2.out.c 1 _ rfl
        have r2 := g2.out.c 2 _ rfl
        have r3 := g2.out.c 3 _ rfl
        have r4 := g2.out.c 4 _ rfl
        go_wp2_with (refine wpPrG g1.out (.tmp 3) rfl ?_)
        refine (hbl.out _ (hN.out.below hb.out)).mono ?_
        rintro e w5 ⟨v, rfl, hsl, hbn⟩
        have hsl := Lib.hid hsl
        have g1 := Lib.hid (g1.out.below hbn)
        have g2 := Lib.hid (g2.out.below hbn)
        have hb := Lib.hid (below_step hb.out hbn)
        clear hbn r0 r1 r2 r3 r4
        have r0 := g2.out.c 0 _ rfl
        have r1 := g2.out.c 1 _ rfl
        have r2 := g2.out.c 2 _ rfl
        have r3 := g2.out.c 3 _ rfl
        have r4 := g2.out.c 4 _ rfl
        go_wp2_with (refine wpPrG g1.out (.tmp 3) rfl ?_)
        refine (CheckProcedureR_any A c p _ (hN.out.hols.below hb.out)).mono ?_
        rintro e wn ⟨he, hbn⟩
        subst he
        rw [hpz.out]
        have hsl := Lib.hid ((hsl.out.keep (fun g cs t hg hh => (hbn.block g (Array.getElem?_eq_some_iff.1 hh).1).trans hh)))
        have g1 := Lib.hid (g1.out.below hbn)
        have g2 := Lib.hid (g2.out.below hbn)
        have hb := Lib.hid (below_step hb.out hbn)
        clear hbn r0 r1 r2 r3 r4
        have r0 := g2.out.c 0 _ rfl
        have r1 := g2.out.c 1 _ rfl
        have r2 := g2.out.c 2 _ rfl
        have r3 := g2.out.c 3 _ rfl
        have r4 := g2.out.c 4 _ rfl
        go_wp2_with (refine wpPrG g1.out (.tmp 3) rfl ?_)
        refine (hrr.out _ (hN.out.below hb.out)).mono ?_
        rintro e wn ⟨he, hbn⟩
        subst he
        have hsl := Lib.hid ((hsl.out.keep (fun g cs t hg hh => (hbn.block g (Array.getElem?_eq_some_iff.1 hh).1).trans hh)))
        have g1 := Lib.hid (g1.out.below hbn)
        have g2 := Lib.hid (g2.out.below hbn)
        have hb := Lib.hid (below_step hb.out hbn)
        clear hbn r0 r1 r2 r3 r4
        have r0 := g2.out.c 0 _ rfl
        have r1 := g2.out.c 1 _ rfl
        have r2 := g2.out.c 2 _ rfl
        have r3 := g2.out.c 3 _ rfl
        have r4 := g2.out.c 4 _ rfl
        go_wp2_with (refine wpPrG g1.out (.tmp 3) rfl ?_)
        refine (her.out _ (hN.out.below hb.out)).mono ?_
        rintro e wn ⟨he, hbn⟩
        subst he
        have hsl := Lib.hid ((hsl.out.keep (fun g cs t hg hh => (hbn.block g (Array.getElem?_eq_some_iff.1 hh).1).trans hh)))
        have g1 := Lib.hid (g1.out.below hbn)
        have g2 := Lib.hid (g2.out.below hbn)
        have hb := Lib.hid (below_step hb.out hbn)
        clear hbn r0 r1 r2 r3 r4
        have r0 := g2.out.c 0 _ rfl
        have r1 := g2.out.c 1 _ rfl
        have r2 := g2.out.c 2 _ rfl
        have r3 := g2.out.c 3 _ rfl
        have r4 := g2.out.c 4 _ rfl
        go_wp2_with (first | ((first | (go_at_call 86) | (go_at_call 41) | (go_at_call 74) | (go_at_call 28) | (go_at_call 109) | (fail) | (fail)); first | refine rin ?_ | refine rout ?_ | refine rany ?_) | (refine wpPrG g1.out (.tmp 3) rfl ?_))
        refine (hblr.out _ (hN.out.below hb.out)).mono ?_
        rintro e w9 ⟨u, rfl, hsu, hbn⟩
        have hsl := Lib.hid ((hsl.out.keep (fun g cs t hg hh => (hbn.block g (Array.getElem?_eq_some_iff.1 hh).1).trans hh)))
        have hsu := Lib.hid hsu
        have g1 := Lib.hid (g1.out.below hbn)
        have g2 := Lib.hid (g2.out.below hbn)
        have hb := Lib.hid (below_step hb.out hbn)
        clear hbn r0 r1 r2 r3 r4
        have r0 := g2.out.c 0 _ rfl
        have r1 := g2.out.c 1 _ rfl
        have r2 := g2.out.c 2 _ rfl
        have r3 := g2.out.c 3 _ rfl
        have r4 := g2.out.c 4 _ rfl
        go_wp2_with fail
        refine (Ints_any _ _ _ _ _ _ hsl.out hsu.out).mono ?_
        rintro e w10 ⟨rfl, hbn⟩
        have g1 := Lib.hid (g1.out.below hbn)
        have g2 := Lib.hid (g2.out.below hbn)
        have hb := Lib.hid (below_step hb.out hbn)
        clear hbn r0 r1 r2 r3 r4
        have r0 := g2.out.c 0 _ rfl
        have r1 := g2.out.c 1 _ rfl
        have r2 := g2.out.c 2 _ rfl
        have r3 := g2.out.c 3 _ rfl
        have r4 := g2.out.c 4 _ rfl
        obtain ⟨A1, c1, rfl, _⟩ := hsl.out
        go_wp2_with fail
        go_ret
        exact ⟨by first | rfl | done, hb.out⟩
  · have hbl := Lib.hid (fun w1 h => Blocks_day A c p right rest N d n day w1 h hE hd)
    have hd' : day < 0 ∨ 200000 < day := by omega
    clear hE hv h0 hnil hd
    cases b0
    · obtain rfl := hx0 rfl
      clear hx0
      obtain ⟨g1, g2, hb⟩ := start2r w A c p right rest N d n
      have r0 := g2.out.c 0 _ rfl
      have r1 := g2.out.c 1 _ rfl
      have r2 := g2.out.c 2 _ rfl
      have r3 := g2.out.c 3 _ rfl
      have r4 := g2.out.c 4 _ rfl
      go_enter Tryz.func5, Tryz.ntmps5
      go_wp2_with fail
      refine (nawake_any _ (hN.out.tab.below hb.out)).mono ?_
      rintro e w1 ⟨rfl, hbn⟩
      have g1 := Lib.hid (g1.out.below hbn)
      have g2 := Lib.hid (g2.out.below hbn)
      have hb := Lib.hid (below_step hb.out hbn)
      clear hbn r0 r1 r2 r3 r4
      have r0 := g2.out.c 0 _ rfl
      have r1 := g2.out.c 1 _ rfl
      have r2 := g2.out.c 2 _ rfl
      have r3 := g2.out.c 3 _ rfl
      have r4 := g2.out.c 4 _ rfl
      go_wp2_with (refine wpPrG g1.out (.tmp 3) rfl ?_)
      refine (Modest_any A c p _ (hN.out.hols.below hb.out)).mono ?_
      rintro e w2 ⟨⟨b, rfl⟩, hbn⟩
      have g1 := Lib.hid (g1.out.below hbn)
      have g2 := Lib.hid (g2.out.below hbn)
      have hb := Lib.hid (below_step hb.out hbn)
      clear hbn r0 r1 r2 r3 r4
      have r0 := g2.out.c 0 _ rfl
      have r1 := g2.out.c 1 _ rfl
      have r2 := g2.out.c 2 _ rfl
      have r3 := g2.out.c 3 _ rfl
      have r4 := g2.out.c 4 _ rfl
      cases b
      · go_wp2_with fail
        go_ret
        exact ⟨rfl, hb.out⟩
      go_wp2_with fail
      refine (Brief_any N d n _ hN.out.name hN.out.acts.size).mono ?_
      rintro e w3 ⟨⟨b, rfl⟩, hbn⟩
      have g1 := Lib.hid (g1.out.below hbn)
      have g2 := Lib.hid (g2.out.below hbn)
      have hb := Lib.hid (below_step hb.out hbn)
      clear hbn r0 r1 r2 r3 r4
      have r0 := g2.out.c 0 _ rfl
      have r1 := g2.out.c 1 _ rfl
      have r2 := g2.out.c 2 _ rfl
      have r3 := g2.out.c 3 _ rfl
      have r4 := g2.out.c 4 _ rfl
      cases b
      · go_wp2_with fail
        go_ret
        exact ⟨rfl, hb.out⟩
      go_wp2_with (refine wpPrG g1.out (.tmp 3) rfl ?_)
      refine (Earliest_any A c p right rest N d n _ (hN.out.below hb.out)).mono ?_
      rintro e wn ⟨he, hbn⟩
      rw [hea.out] at he
      subst he
      have g1 := Lib.hid (g1.out.below hbn)
      have g2 := Lib.hid (g2.out.below hbn)
      have hb := Lib.hid (below_step hb.out hbn)
      clear hbn r0 r1 r2 r3 r4
      have r0 := g2.out.c 0 _ rfl
      have r1 := g2.out.c 1 _ rfl
      have r2 := g2.out.c 2 _ rfl
      have r3 := g2.out.c 3 _ rfl
      have r4 := g2.out.c 4 _ rfl
      go_wp2_with (refine wpPrG g1.out (.tmp 3) rfl ?_)
      refine (hbl.out _ (hN.out.below hb.out)).mono ?_
      rintro e w5 ⟨v, rfl, hsl, hbn⟩
      have hsl := Lib.hid hsl
      have g1 := Lib.hid (g1.out.below hbn)
      have g2 := Lib.hid (g2.out.below hbn)
      have hb := Lib.hid (below_step hb.out hbn)
      clear hbn r0 r1 r2 r3 r4
      have r0 := g2.out.c 0 _ rfl
      have r1 := g2.out.c 1 _ rfl
      have r2 := g2.out.c 2 _ rfl
      have r3 := g2.out.c 3 _ rfl
      have r4 := g2.out.c 4 _ rfl
      go_wp2_with (refine wpPrG g1.out (.tmp 3) rfl ?_)
      refine (CheckProcedureR_any A c p _ (hN.out.hols.below hb.out)).mono ?_
      rintro e wn ⟨he, hbn⟩
      subst he
      rw [hpz.out]
      have hsl := Lib.hid ((hsl.out.keep (fun g cs t hg hh => (hbn.block g (Array.getElem?_eq_some_iff.1 hh).1).trans hh)))
      have g1 := Lib.hid (g1.out.below hbn)
      have g2 := Lib.hid (g2.out.below hbn)
      have hb := Lib.hid (below_step hb.out hbn)
      clear hbn r0 r1 r2 r3 r4
      have r0 := g2.out.c 0 _ rfl
      have r1 := g2.out.c 1 _ rfl
      have r2 := g2.out.c 2 _ rfl
      have r3 := g2.out.c 3 _ rfl
      have r4 := g2.out.c 4 _ rfl
      go_wp2_with (refine wpPrG g1.out (.tmp 3) rfl ?_)
      refine (hrr.out _ (hN.out.below hb.out)).mono ?_
      rintro e wn ⟨he, hbn⟩
      subst he
      have hsl := Lib.hid ((hsl.out.keep (fun g cs t hg hh => (hbn.block g (Array.getElem?_eq_some_iff.1 hh).1).trans hh)))
      have g1 := Lib.hid (g1.out.below hbn)
      have g2 := Lib.hid (g2.out.below hbn)
      have hb := Lib.hid (below_step hb.out hbn)
      clear hbn r0 r1 r2 r3 r4
      have r0 := g2.out.c 0 _ rfl
      have r1 := g2.out.c 1 _ rfl
      have r2 := g2.out.c 2 _ rfl
      have r3 := g2.out.c 3 _ rfl
      have r4 := g2.out.c 4 _ rfl
      go_wp2_with (refine wpPrG g1.out (.tmp 3) rfl ?_)
      refine (her.out _ (hN.out.below hb.out)).mono ?_
      rintro e wn ⟨he, hbn⟩
      subst he
      have hsl := Lib.hid ((hsl.out.keep (fun g cs t hg hh => (hbn.block g (Array.getElem?_eq_some_iff.1 hh).1).trans hh)))
      have g1 := Lib.hid (g1.out.below hbn)
      have g2 := Lib.hid (g2.out.below hbn)
      have hb := Lib.hid (below_step hb.out hbn)
      clear hbn r0 r1 r2 r3 r4
      have r0 := g2.out.c 0 _ rfl
      have r1 := g2.out.c 1 _ rfl
      have r2 := g2.out.c 2 _ rfl
      have r3 := g2.out.c 3 _ rfl
      have r4 := g2.out.c 4 _ rfl
      obtain ⟨A1, c1, rfl, _⟩ := hsl.out
      go_wp2_with (((first | (go_at_call 86) | (go_at_call 41) | (go_at_call 74) | (go_at_call 28) | (go_at_call 109) | (fail) | (fail)); first | refine rin ?_ | refine rout ?_ | refine rany ?_))
      go_ret
      exact ⟨by first | rfl | done, hb.out⟩
    · clear hx0
      obtain ⟨g1, g2, hb⟩ := start2r w A c p right rest N d n
      have r0 := g2.out.c 0 _ rfl
      have r1 := g2.out.c 1 _ rfl
      have r2 := g2.out.c 2 _ rfl
      have r3 := g2.out.c 3 _ rfl
      have r4 := g2.out.c 4 _ rfl
      go_enter Tryz.func5, Tryz.ntmps5
      go_wp2_with fail
      refine (nawake_any _ (hN.out.tab.below hb.out)).mono ?_
      rintro e w1 ⟨rfl, hbn⟩
      have g1 := Lib.hid (g1.out.below hbn)
      have g2 := Lib.hid (g2.out.below hbn)
      have hb := Lib.hid (below_step hb.out hbn)
      clear hbn r0 r1 r2 r3 r4
      have r0 := g2.out.c 0 _ rfl
      have r1 := g2.out.c 1 _ rfl
      have r2 := g2.out.c 2 _ rfl
      have r3 := g2.out.c 3 _ rfl
      have r4 := g2.out.c 4 _ rfl
      go_wp2_with (refine wpPrG g1.out (.tmp 3) rfl ?_)
      refine (Modest_any A c p _ (hN.out.hols.below hb.out)).mono ?_
      rintro e w2 ⟨⟨b, rfl⟩, hbn⟩
      have g1 := Lib.hid (g1.out.below hbn)
      have g2 := Lib.hid (g2.out.below hbn)
      have hb := Lib.hid (below_step hb.out hbn)
      clear hbn r0 r1 r2 r3 r4
      have r0 := g2.out.c 0 _ rfl
      have r1 := g2.out.c 1 _ rfl
      have r2 := g2.out.c 2 _ rfl
      have r3 := g2.out.c 3 _ rfl
      have r4 := g2.out.c 4 _ rfl
      cases b
      · go_wp2_with fail
        go_ret
        exact ⟨rfl, hb.out⟩
      go_wp2_with fail
      refine (Brief_any N d n _ hN.out.name hN.out.acts.size).mono ?_
      rintro e w3 ⟨⟨b, rfl⟩, hbn⟩
      have g1 := Lib.hid (g1.out.below hbn)
      have g2 := Lib.hid (g2.out.below hbn)
      have hb := Lib.hid (below_step hb.out hbn)
      clear hbn r0 r1 r2 r3 r4
      have r0 := g2.out.c 0 _ rfl
      have r1 := g2.out.c 1 _ rfl
      have r2 := g2.out.c 2 _ rfl
      have r3 := g2.out.c 3 _ rfl
      have r4 := g2.out.c 4 _ rfl
      cases b
      · go_wp2_with fail
        go_ret
        exact ⟨rfl, hb.out⟩
      go_wp2_with (refine wpPrG g1.out (.tmp 3) rfl ?_)
      refine (Earliest_any A c p right rest N d n _ (hN.out.below hb.out)).mono ?_
      rintro e wn ⟨he, hbn⟩
      rw [hea.out] at he
      subst he
      have g1 := Lib.hid (g1.out.below hbn)
      have g2 := Lib.hid (g2.out.below hbn)
      have hb := Lib.hid (below_step hb.out hbn)
      clear hbn r0 r1 r2 r3 r4
      have r0 := g2.out.c 0 _ rfl
      have r1 := g2.out.c 1 _ rfl
      have r2 := g2.out.c 2 _ rfl
      have r3 := g2.out.c 3 _ rfl
      have r4 := g2.out.c 4 _ rfl
      go_wp2_with (refine wpPrG g1.out (.tmp 3) rfl ?_)
      refine (hbl.out _ (hN.out.below hb.out)).mono ?_
      rintro e w5 ⟨v, rfl, hsl, hbn⟩
      have hsl := Lib.hid hsl
      have g1 := Lib.hid (g1.out.below hbn)
      have g2 := Lib.hid (g2.out.below hbn)
      have hb := Lib.hid (below_step hb.out hbn)
      clear hbn r0 r1 r2 r3 r4
      have r0 := g2.out.c 0 _ rfl
      have r1 := g2.out.c 1 _ rfl
      have r2 := g2.out.c 2 _ rfl
      have r3 := g2.out.c 3 _ rfl
      have r4 := g2.out.c 4 _ rfl
      go_wp2_with (refine wpPrG g1.out (.tmp 3) rfl ?_)
      refine (CheckProcedureR_any A c p _ (hN.out.hols.below hb.out)).mono ?_
      rintro e wn ⟨he, hbn⟩
      subst he
      rw [hpz.out]
      have hsl := Lib.hid ((hsl.out.keep (fun g cs t hg hh => (hbn.block g (Array.getElem?_eq_some_iff.1 hh).1).trans hh)))
      have g1 := Lib.hid (g1.out.below hbn)
      have g2 := Lib.hid (g2.out.below hbn)
      have hb := Lib.hid (below_step hb.out hbn)
      clear hbn r0 r1 r2 r3 r4
      have r0 := g2.out.c 0 _ rfl
      have r1 := g2.out.c 1 _ rfl
      have r2 := g2.out.c 2 _ rfl
      have r3 := g2.out.c 3 _ rfl
      have r4 := g2.out.c 4 _ rfl
      go_wp2_with (refine wpPrG g1.out (.tmp 3) rfl ?_)
      refine (hrr.out _ (hN.out.below hb.out)).mono ?_
      rintro e wn ⟨he, hbn⟩
      subst he
      have hsl := Lib.hid ((hsl.out.keep (fun g cs t hg hh => (hbn.block g (Array.getElem?_eq_some_iff.1 hh).1).trans hh)))
      have g1 := Lib.hid (g1.out.below hbn)
      have g2 := Lib.hid (g2.out.below hbn)
      have hb := Lib.hid (below_step hb.out hbn)
      clear hbn r0 r1 r2 r3 r4
      have r0 := g2.out.c 0 _ rfl
      have r1 := g2.out.c 1 _ rfl
      have r2 := g2.out.c 2 _ rfl
      have r3 := g2.out.c 3 _ rfl
      have r4 := g2.out.c 4 _ rfl
      go_wp2_with (refine wpPrG g1.out (.tmp 3) rfl ?_)
      refine (her.out _ (hN.out.below hb.out)).mono ?_
      rintro e wn ⟨he, hbn⟩
      subst he
      have hsl := Lib.hid ((hsl.out.keep (fun g cs t hg hh => (hbn.block g (Array.getElem?_eq_some_iff.1 hh).1).trans hh)))
      have g1 := Lib.hid (g1.out.below hbn)
      have g2 := Lib.hid (g2.out.below hbn)
      have hb := Lib.hid (below_step hb.out hbn)
      clear hbn r0 r1 r2 r3 r4
      have r0 := g2.out.c 0 _ rfl
      have r1 := g2.out.c 1 _ rfl
      have r2 := g2.out.c 2 _ rfl
      have r3 := g2.out.c 3 _ rfl
      have r4 := g2.out.c 4 _ rfl
      obtain ⟨A1, c1, rfl, _⟩ := hsl.out
      go_wp2_with (((first | (go_at_call 86) | (go_at_call 41) | (go_at_call 74) | (go_at_call 28) | (go_at_call 109) | (fail) | (fail)); first | refine rin ?_ | refine rout ?_ | refine rany ?_))
      go_ret
      exact ⟨by first | rfl | done, hb.out⟩
theorem NoticeReuses_any (A : Option Addr) (c : Nat) (p : Proc) (right rest : Int) (N : Option Addr) (d : Nat) (n : Note) (day : Int) (w : World) (hN : NB w A p N n) :
    Calls Tryz.prog 5 #[.agg #[.int .i64 p.runs.m, .int .i64 p.runs.d, .bool p.runs.k, .int .i64 p.obj.m, .int .i64 p.obj.d, .bool p.obj.k, .int .i64 p.wait.m, .int .i64 p.wait.d, .bool p.wait.k, .int .i64 p.exts, .int .i64 p.longest, .slice A p.hols.length c], .agg #[.int .i64 right, .int .i64 rest, .string n.name, .int .i64 n.opened, .slice N n.acts.length d], .int .i64 day] w fun e w' => e = .returned (.bool true) ∧ Below w.heap.size w w' := by
  by_cases hE : Cal.waitsE p right rest n = 0
  · obtain ⟨_, q0, q1, q2, q3, hv⟩ := Cal.waitsE_ok hE
    rcases hx : Cal.expS p n with ⟨x, F⟩
    by_cases hb : right < 0 ∨ rest < 0 ∨ F ≠ 0
    · have ht : right < 0 ∨ rest < 0 ∨ Cal.thirdS p n < 0 := by
        rcases hb with h | h | h
        · exact .inl h
        · exact .inr (.inl h)
        · refine .inr (.inr ?_)
          unfold Cal.thirdS; rw [hx, if_neg h]; omega
      refine reuses_ok A c p right rest N d n day w 0 false hN hE ?_ (fun _ => rfl) (fun w1 h => EarliestR_bad A c p right rest N d n w1 h hv (by rw [hx]; exact hb)) ?_
      · show _ = _
        unfold Cal.earlS; rw [if_pos hE, if_pos ht]; rfl
      · intro _
        have : Cal.blkL right rest (Cal.thirdS p n) day ≠ [] := fun h => by
          have := (Cal.blkL_nil.1 h).1
          omega
        simp [this]
    · have h1 : 0 ≤ right := by omega
      have h2 : 0 ≤ rest := by omega
      have hF : F = 0 := by omega
      subst hF
      have h3 := Cal.exp_pos hx
      have ht : Cal.thirdS p n = x := by unfold Cal.thirdS; rw [hx, if_pos rfl]
      refine reuses_ok A c p right rest N d n day w (max (max right rest) x) true hN hE ?_ (fun h => by cases h) (fun w1 h => EarliestR_ok A c p right rest x N d n w1 h hv h1 h2 hx) ?_
      · show _ = _
        unfold Cal.earlS; rw [if_pos hE, ht, if_neg (by omega)]; rfl
      · intro _
        rw [ht, Bool.true_and]
        by_cases hm : max (max right rest) x ≤ day
        · rw [Cal.blkL_nil.2 ⟨⟨h1, h2, by omega⟩, hm⟩, decide_eq_true hm]; rfl
        · have : Cal.blkL right rest x day ≠ [] := fun h => hm (Cal.blkL_nil.1 h).2
          rw [decide_eq_false hm]; simp [this]
  · exact reuses_bad A c p right rest N d n day w hN hE
end Go.Proofs.YtconnjkkgaapbaaGreatDoor
