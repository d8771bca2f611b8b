/- The walk of a statement. -/
import Derived.Test.YtconnjkkgaapbaaGreatDoorC30
import Derived.Test.YtconnjkkgaapbaaGreatDoorC27
import Derived.Test.YtconnjkkgaapbaaGreatDoorC24
namespace Go.Proofs.YtconnjkkgaapbaaGreatDoor
open Go Go.RowKit
structure LatI (w : World) (b7 : Nat) (A : Option Addr) (c : Nat) (p : Proc) (N : Option Addr) (d : Nat) (n : Note) (a : NAct) (N1 : Option Addr) (d1 : Nat) (m : Note) (wr : World) : Prop where
  hb : Below w.heap.size w wr
  g1 : BoxAt wr w.heap.size [.int .i64 p.runs.m, .int .i64 p.runs.d, .bool p.runs.k, .int .i64 p.obj.m, .int .i64 p.obj.d, .bool p.obj.k, .int .i64 p.wait.m, .int .i64 p.wait.d, .bool p.wait.k, .int .i64 p.exts, .int .i64 p.longest, .slice A p.hols.length c]
  g2 : BoxAt wr (w.heap.size + 1) [.string n.name, .int .i64 n.opened, .slice N n.acts.length d]
  g3 : BoxAt wr (w.heap.size + 1 + 1) [.int .i64 a.day, .int .i64 a.kind, .int .i64 a.days]
  g7 : BoxAt wr b7 [.string m.name, .int .i64 m.opened, .slice N1 m.acts.length d1]
  hm1 : Acts wr N1 m.acts
theorem LatI.below {w : World} {b7 : Nat} {A : Option Addr} {c : Nat} {p : Proc} {N : Option Addr} {d : Nat} {n : Note} {a : NAct} {N1 : Option Addr} {d1 : Nat} {m : Note} {wr wr' : World} (h : LatI w b7 A c p N d n a N1 d1 m wr) (hb : Below wr.heap.size wr wr') : LatI w b7 A c p N d n a N1 d1 m wr' :=
  ⟨below_step h.hb hb, h.g1.below hb, h.g2.below hb, h.g3.below hb, h.g7.below hb, h.hm1.below hb⟩
set_option maxRecDepth 100000 in
set_option maxHeartbeats 8000000 in
theorem later_go (A : Option Addr) (c : Nat) (p : Proc) (N : Option Addr) (d : Nat) (n : Note) (a : NAct) (m : Note) (w : World) (hN : NB w A p N n) (hl : n.acts.length ≤ 12) (hs : n.name.size ≤ 30) (hbo : Hid ((Cal.checkS p n).2 = 0)) (q0 : 0 ≤ a.day) (q1 : a.day ≤ 200000) (q2 : n.opened ≤ a.day) (q3 : 0 ≤ n.opened)
    (hadd : Hid (∀ w1, NB w1 A p N n → Calls Tryz.prog 37 #[.agg #[.int .i64 p.runs.m, .int .i64 p.runs.d, .bool p.runs.k, .int .i64 p.obj.m, .int .i64 p.obj.d, .bool p.obj.k, .int .i64 p.wait.m, .int .i64 p.wait.d, .bool p.wait.k, .int .i64 p.exts, .int .i64 p.longest, .slice A p.hols.length c], .agg #[.string n.name, .int .i64 n.opened, .slice N n.acts.length d], .agg #[.int .i64 a.day, .int .i64 a.kind, .int .i64 a.days]] w1 (MorePost w1 m))) (hph : Hid (∀ day, n.opened ≤ day → day < a.day → ∃ x, Cal.phaseS p n day = (x, 0) ∧ Cal.phaseS p m day = (x, 0))) (hnm2 : m.name.size ≤ maxLen) :
    Calls Tryz.prog 9 #[.agg #[.int .i64 p.runs.m, .int .i64 p.runs.d, .bool p.runs.k, .int .i64 p.obj.m, .int .i64 p.obj.d, .bool p.obj.k, .int .i64 p.wait.m, .int .i64 p.wait.d, .bool p.wait.k, .int .i64 p.exts, .int .i64 p.longest, .slice A p.hols.length c], .agg #[.string n.name, .int .i64 n.opened, .slice N n.acts.length d], .agg #[.int .i64 a.day, .int .i64 a.kind, .int .i64 a.days]] w fun e w' => e = .returned (.bool true) ∧ Below w.heap.size w w' := by
  have hN := Lib.hid hN
  by_cases hmx : n.opened < a.day - 3
  · obtain ⟨g1, g2, g3, hb⟩ := start3n w A c p N d n a
    have c0 := g2.out.c 0 _ rfl
    have c1 := g2.out.c 1 _ rfl
    have c2 := g2.out.c 2 _ rfl
    have a0 := g3.out.c 0 _ rfl
    have a1 := g3.out.c 1 _ rfl
    have a2 := g3.out.c 2 _ rfl
    go_enter Tryz.func9, Tryz.ntmps9
    go_wp2_with fail
    refine (nawake_any _ (hN.out.tab.below hb.out)).mono ?_
    rintro e wn ⟨rfl, hbn⟩
    have g1 := Lib.hid (g1.out.below hbn)
    have g2 := Lib.hid (g2.out.below hbn)
    have g3 := Lib.hid (g3.out.below hbn)
    have hb := Lib.hid (below_step hb.out hbn)
    clear hbn c0 c1 c2 a0 a1 a2
    have c0 := g2.out.c 0 _ rfl
    have c1 := g2.out.c 1 _ rfl
    have c2 := g2.out.c 2 _ rfl
    have a0 := g3.out.c 0 _ rfl
    have a1 := g3.out.c 1 _ rfl
    have a2 := g3.out.c 2 _ rfl
    go_wp2_with (refine wpPr g1.out (.tmp 3) rfl ?_)
    refine (Modest_any A c p _ (hN.out.hols.below hb.out)).mono ?_
    rintro e wn ⟨⟨b, rfl⟩, hbn⟩
    have g1 := Lib.hid (g1.out.below hbn)
    have g2 := Lib.hid (g2.out.below hbn)
    have g3 := Lib.hid (g3.out.below hbn)
    have hb := Lib.hid (below_step hb.out hbn)
    clear hbn c0 c1 c2 a0 a1 a2
    have c0 := g2.out.c 0 _ rfl
    have c1 := g2.out.c 1 _ rfl
    have c2 := g2.out.c 2 _ rfl
    have a0 := g3.out.c 0 _ rfl
    have a1 := g3.out.c 1 _ rfl
    have a2 := g3.out.c 2 _ rfl
    cases b
    · go_wp2_with fail
      go_ret
      exact ⟨rfl, hb.out⟩
    have z0 := g1.out.c 0 _ rfl
    have z1 := g1.out.c 1 _ rfl
    have z2 := g1.out.c 2 _ rfl
    have z3 := g1.out.c 3 _ rfl
    have z4 := g1.out.c 4 _ rfl
    have z5 := g1.out.c 5 _ rfl
    have z6 := g1.out.c 6 _ rfl
    have z7 := g1.out.c 7 _ rfl
    have z8 := g1.out.c 8 _ rfl
    have z9 := g1.out.c 9 _ rfl
    have z10 := g1.out.c 10 _ rfl
    have z11 := g1.out.c 11 _ rfl
    go_wp2_with fail
    refine (both_any A c p N d n _ (hN.out.below hb.out)).mono ?_
    rintro e wn ⟨rfl, hbn⟩
    rw [hbo.out]
    clear z0 z1 z2 z3 z4 z5 z6 z7 z8 z9 z10 z11
    have g1 := Lib.hid (g1.out.below hbn)
    have g2 := Lib.hid (g2.out.below hbn)
    have g3 := Lib.hid (g3.out.below hbn)
    have hb := Lib.hid (below_step hb.out hbn)
    clear hbn c0 c1 c2 a0 a1 a2
    have c0 := g2.out.c 0 _ rfl
    have c1 := g2.out.c 1 _ rfl
    have c2 := g2.out.c 2 _ rfl
    have a0 := g3.out.c 0 _ rfl
    have a1 := g3.out.c 1 _ rfl
    have a2 := g3.out.c 2 _ rfl
    go_wp2_with (refine wpPr g1.out (.tmp 3) rfl ?_)
    refine (hadd.out _ (hN.out.below hb.out)).mono ?_
    rintro e wn ⟨N1, d1, rfl, hm1, hbn, _⟩
    have hm1 := Lib.hid hm1
    have g1 := Lib.hid (g1.out.below hbn)
    have g2 := Lib.hid (g2.out.below hbn)
    have g3 := Lib.hid (g3.out.below hbn)
    have hb := Lib.hid (below_step hb.out hbn)
    clear hbn c0 c1 c2 a0 a1 a2
    have c0 := g2.out.c 0 _ rfl
    have c1 := g2.out.c 1 _ rfl
    have c2 := g2.out.c 2 _ rfl
    have a0 := g3.out.c 0 _ rfl
    have a1 := g3.out.c 1 _ rfl
    have a2 := g3.out.c 2 _ rfl
    have hN7 := Lib.hid (BoxAt.new wn #[.string ⟨#[]⟩, .int .i64 0, .slice none 0 0] 29)
    go_wp2_with ((refine wpList_store_box rfl 29 (.tmp 7) (.tmp 42) rfl (wn.heap.size) _ [.string m.name, .int .i64 m.opened, .slice N1 m.acts.length d1] (by rfl) (by rfl) hN7.out rfl ntSize (by kernel_rfl) ?_; intro w5 h5 hg5); have hbn5 := below_of_grownB (below_alloc wn _) hg5 (Nat.le_refl _); have g1 := Lib.hid (g1.out.below hbn5); have g2 := Lib.hid (g2.out.below hbn5); have g3 := Lib.hid (g3.out.below hbn5); have hb := Lib.hid (below_step hb.out hbn5); have hm1 := Lib.hid (hm1.out.below hbn5); have g7 := Lib.hid h5; clear hbn5 hg5 hN7 c0 c1 c2 a0 a1 a2; have c0 := g2.out.c 0 _ rfl; have c1 := g2.out.c 1 _ rfl; have c2 := g2.out.c 2 _ rfl; have a0 := g3.out.c 0 _ rfl; have a1 := g3.out.c 1 _ rfl; have a2 := g3.out.c 2 _ rfl; have m0 := g7.out.c 0 _ rfl; have m1 := g7.out.c 1 _ rfl; have m2 := g7.out.c 2 _ rfl)
    have hI : Hid (LatI w wn.heap.size A c p N d n a N1 d1 m w5) := ⟨hb.out, g1.out, g2.out, g3.out, g7.out, hm1.out⟩
    clear hb g1 g2 g3 g7 hm1 c0 c1 c2 a0 a1 a2 m0 m1 m2 h5
    generalize wn.heap.size = b7 at *
    go_loopw [9] (fun i wr => ∃ k : Int, n.opened ≤ k ∧ k ≤ a.day ∧ i = .int .i64 k ∧ Hid (LatI w b7 A c p N d n a N1 d1 m wr)) (fun i _ => (a.day - intOf i).toNat)
    case atStart => exact ⟨_, by omega, by omega, rfl, hI⟩
    case round =>
      clear hI
      obtain ⟨k, k0, k1, rfl, hI⟩ := hrel
      have c0 := hI.out.g2.c 0 _ rfl
      have c1 := hI.out.g2.c 1 _ rfl
      have c2 := hI.out.g2.c 2 _ rfl
      have a0 := hI.out.g3.c 0 _ rfl
      have m0 := hI.out.g7.c 0 _ rfl
      have m1 := hI.out.g7.c 1 _ rfl
      have m2 := hI.out.g7.c 2 _ rfl
      by_cases hlt : k < a.day
      · obtain ⟨x, hx, hy⟩ := hph.out k k0 hlt
        have hx := Lib.hid hx
        have hy := Lib.hid hy
        have hxx : (x != x) = false := by simp
        go_wp2_with (refine wpPr hI.out.g1 (.tmp 3) rfl ?_)
        refine (Phase_any A c p N d n k _ (hN.out.below hI.out.hb)).mono ?_
        rintro e w6 ⟨he, hbn⟩
        rw [hx.out] at he
        subst he
        clear c0 c1 c2 a0 m0 m1 m2
        have hI := Lib.hid (hI.out.below hbn)
        clear hbn
        have c0 := hI.out.g2.c 0 _ rfl
        have c1 := hI.out.g2.c 1 _ rfl
        have c2 := hI.out.g2.c 2 _ rfl
        have a0 := hI.out.g3.c 0 _ rfl
        have m0 := hI.out.g7.c 0 _ rfl
        have m1 := hI.out.g7.c 1 _ rfl
        have m2 := hI.out.g7.c 2 _ rfl
        go_wp2_with (refine wpPr hI.out.g1 (.tmp 3) rfl ?_)
        refine (Phase_any A c p N1 d1 m k _ ⟨(hN.out.below hI.out.hb).hols, (hN.out.below hI.out.hb).tab, hI.out.hm1, hnm2⟩).mono ?_
        rintro e w7 ⟨he, hbn⟩
        rw [hy.out] at he
        subst he
        clear c0 c1 c2 a0 m0 m1 m2
        have hI := Lib.hid (hI.out.below hbn)
        clear hbn
        go_wp2_with fail
        go_roundw
        case rel => exact ⟨k + 1, by omega, by omega, by go_num, hI⟩
        case measure => simp [intOf]; omega
      · have hge : a.day ≤ k := by omega
        go_wp2_with fail
        go_ret
        exact ⟨rfl, hI.out.hb⟩
  · have hmx' : a.day - 3 ≤ n.opened := by omega
    clear hmx
    obtain ⟨g1, g2, g3, hb⟩ := start3n w A c p N d n a
    have c0 := g2.out.c 0 _ rfl
    have c1 := g2.out.c 1 _ rfl
    have c2 := g2.out.c 2 _ rfl
    have a0 := g3.out.c 0 _ rfl
    have a1 := g3.out.c 1 _ rfl
    have a2 := g3.out.c 2 _ rfl
    go_enter Tryz.func9, Tryz.ntmps9
    go_wp2_with fail
    refine (nawake_any _ (hN.out.tab.below hb.out)).mono ?_
    rintro e wn ⟨rfl, hbn⟩
    have g1 := Lib.hid (g1.out.below hbn)
    have g2 := Lib.hid (g2.out.below hbn)
    have g3 := Lib.hid (g3.out.below hbn)
    have hb := Lib.hid (below_step hb.out hbn)
    clear hbn c0 c1 c2 a0 a1 a2
    have c0 := g2.out.c 0 _ rfl
    have c1 := g2.out.c 1 _ rfl
    have c2 := g2.out.c 2 _ rfl
    have a0 := g3.out.c 0 _ rfl
    have a1 := g3.out.c 1 _ rfl
    have a2 := g3.out.c 2 _ rfl
    go_wp2_with (refine wpPr g1.out (.tmp 3) rfl ?_)
    refine (Modest_any A c p _ (hN.out.hols.below hb.out)).mono ?_
    rintro e wn ⟨⟨b, rfl⟩, hbn⟩
    have g1 := Lib.hid (g1.out.below hbn)
    have g2 := Lib.hid (g2.out.below hbn)
    have g3 := Lib.hid (g3.out.below hbn)
    have hb := Lib.hid (below_step hb.out hbn)
    clear hbn c0 c1 c2 a0 a1 a2
    have c0 := g2.out.c 0 _ rfl
    have c1 := g2.out.c 1 _ rfl
    have c2 := g2.out.c 2 _ rfl
    have a0 := g3.out.c 0 _ rfl
    have a1 := g3.out.c 1 _ rfl
    have a2 := g3.out.c 2 _ rfl
    cases b
    · go_wp2_with fail
      go_ret
      exact ⟨rfl, hb.out⟩
    have z0 := g1.out.c 0 _ rfl
    have z1 := g1.out.c 1 _ rfl
    have z2 := g1.out.c 2 _ rfl
    have z3 := g1.out.c 3 _ rfl
    have z4 := g1.out.c 4 _ rfl
    have z5 := g1.out.c 5 _ rfl
    have z6 := g1.out.c 6 _ rfl
    have z7 := g1.out.c 7 _ rfl
    have z8 := g1.out.c 8 _ rfl
    have z9 := g1.out.c 9 _ rfl
    have z10 := g1.out.c 10 _ rfl
    have z11 := g1.out.c 11 _ rfl
    go_wp2_with fail
    refine (both_any A c p N d n _ (hN.out.below hb.out)).mono ?_
    rintro e wn ⟨rfl, hbn⟩
    rw [hbo.out]
    clear z0 z1 z2 z3 z4 z5 z6 z7 z8 z9 z10 z11
    have g1 := Lib.hid (g1.out.below hbn)
    have g2 := Lib.hid (g2.out.below hbn)
    have g3 := Lib.hid (g3.out.below hbn)
    have hb := Lib.hid (below_step hb.out hbn)
    clear hbn c0 c1 c2 a0 a1 a2
    have c0 := g2.out.c 0 _ rfl
    have c1 := g2.out.c 1 _ rfl
    have c2 := g2.out.c 2 _ rfl
    have a0 := g3.out.c 0 _ rfl
    have a1 := g3.out.c 1 _ rfl
    have a2 := g3.out.c 2 _ rfl
    go_wp2_with (refine wpPr g1.out (.tmp 3) rfl ?_)
    refine (hadd.out _ (hN.out.below hb.out)).mono ?_
    rintro e wn ⟨N1, d1, rfl, hm1, hbn, _⟩
    have hm1 := Lib.hid hm1
    have g1 := Lib.hid (g1.out.below hbn)
    have g2 := Lib.hid (g2.out.below hbn)
    have g3 := Lib.hid (g3.out.below hbn)
    have hb := Lib.hid (below_step hb.out hbn)
    clear hbn c0 c1 c2 a0 a1 a2
    have c0 := g2.out.c 0 _ rfl
    have c1 := g2.out.c 1 _ rfl
    have c2 := g2.out.c 2 _ rfl
    have a0 := g3.out.c 0 _ rfl
    have a1 := g3.out.c 1 _ rfl
    have a2 := g3.out.c 2 _ rfl
    have hN7 := Lib.hid (BoxAt.new wn #[.string ⟨#[]⟩, .int .i64 0, .slice none 0 0] 29)
    go_wp2_with ((refine wpList_store_box rfl 29 (.tmp 7) (.tmp 42) rfl (wn.heap.size) _ [.string m.name, .int .i64 m.opened, .slice N1 m.acts.length d1] (by rfl) (by rfl) hN7.out rfl ntSize (by kernel_rfl) ?_; intro w5 h5 hg5); have hbn5 := below_of_grownB (below_alloc wn _) hg5 (Nat.le_refl _); have g1 := Lib.hid (g1.out.below hbn5); have g2 := Lib.hid (g2.out.below hbn5); have g3 := Lib.hid (g3.out.below hbn5); have hb := Lib.hid (below_step hb.out hbn5); have hm1 := Lib.hid (hm1.out.below hbn5); have g7 := Lib.hid h5; clear hbn5 hg5 hN7 c0 c1 c2 a0 a1 a2; have c0 := g2.out.c 0 _ rfl; have c1 := g2.out.c 1 _ rfl; have c2 := g2.out.c 2 _ rfl; have a0 := g3.out.c 0 _ rfl; have a1 := g3.out.c 1 _ rfl; have a2 := g3.out.c 2 _ rfl; have m0 := g7.out.c 0 _ rfl; have m1 := g7.out.c 1 _ rfl; have m2 := g7.out.c 2 _ rfl)
    have hI : Hid (LatI w wn.heap.size A c p N d n a N1 d1 m w5) := ⟨hb.out, g1.out, g2.out, g3.out, g7.out, hm1.out⟩
    clear hb g1 g2 g3 g7 hm1 c0 c1 c2 a0 a1 a2 m0 m1 m2 h5
    generalize wn.heap.size = b7 at *
    go_loopw [9] (fun i wr => ∃ k : Int, n.opened ≤ k ∧ k ≤ a.day ∧ i = .int .i64 k ∧ Hid (LatI w b7 A c p N d n a N1 d1 m wr)) (fun i _ => (a.day - intOf i).toNat)
    case atStart => exact ⟨_, by omega, by omega, rfl, hI⟩
    case round =>
      clear hI
      obtain ⟨k, k0, k1, rfl, hI⟩ := hrel
      have c0 := hI.out.g2.c 0 _ rfl
      have c1 := hI.out.g2.c 1 _ rfl
      have c2 := hI.out.g2.c 2 _ rfl
      have a0 := hI.out.g3.c 0 _ rfl
      have m0 := hI.out.g7.c 0 _ rfl
      have m1 := hI.out.g7.c 1 _ rfl
      have m2 := hI.out.g7.c 2 _ rfl
      by_cases hlt : k < a.day
      · obtain ⟨x, hx, hy⟩ := hph.out k k0 hlt
        have hx := Lib.hid hx
        have hy := Lib.hid hy
        have hxx : (x != x) = false := by simp
        go_wp2_with (refine wpPr hI.out.g1 (.tmp 3) rfl ?_)
        refine (Phase_any A c p N d n k _ (hN.out.below hI.out.hb)).mono ?_
        rintro e w6 ⟨he, hbn⟩
        rw [hx.out] at he
        subst he
        clear c0 c1 c2 a0 m0 m1 m2
        have hI := Lib.hid (hI.out.below hbn)
        clear hbn
        have c0 := hI.out.g2.c 0 _ rfl
        have c1 := hI.out.g2.c 1 _ rfl
        have c2 := hI.out.g2.c 2 _ rfl
        have a0 := hI.out.g3.c 0 _ rfl
        have m0 := hI.out.g7.c 0 _ rfl
        have m1 := hI.out.g7.c 1 _ rfl
        have m2 := hI.out.g7.c 2 _ rfl
        go_wp2_with (refine wpPr hI.out.g1 (.tmp 3) rfl ?_)
        refine (Phase_any A c p N1 d1 m k _ ⟨(hN.out.below hI.out.hb).hols, (hN.out.below hI.out.hb).tab, hI.out.hm1, hnm2⟩).mono ?_
        rintro e w7 ⟨he, hbn⟩
        rw [hy.out] at he
        subst he
        clear c0 c1 c2 a0 m0 m1 m2
        have hI := Lib.hid (hI.out.below hbn)
        clear hbn
        go_wp2_with fail
        go_roundw
        case rel => exact ⟨k + 1, by omega, by omega, by go_num, hI⟩
        case measure => simp [intOf]; omega
      · have hge : a.day ≤ k := by omega
        go_wp2_with fail
        go_ret
        exact ⟨rfl, hI.out.hb⟩
set_option maxRecDepth 100000 in
set_option maxHeartbeats 8000000 in
theorem NoticeLater_any (A : Option Addr) (c : Nat) (p : Proc) (N : Option Addr) (d : Nat) (n : Note) (a : NAct) (w : World) (hN : NB w A p N n) :
    Calls Tryz.prog 9 #[.agg #[.int .i64 p.runs.m, .int .i64 p.runs.d, .bool p.runs.k, .int .i64 p.obj.m, .int .i64 p.obj.d, .bool p.obj.k, .int .i64 p.wait.m, .int .i64 p.wait.d, .bool p.wait.k, .int .i64 p.exts, .int .i64 p.longest, .slice A p.hols.length c], .agg #[.string n.name, .int .i64 n.opened, .slice N n.acts.length d], .agg #[.int .i64 a.day, .int .i64 a.kind, .int .i64 a.days]] w fun e w' => e = .returned (.bool true) ∧ Below w.heap.size w w' := by
  obtain ⟨C, hC⟩ : ∃ C, (Cal.checkS p n).2 = C := ⟨_, rfl⟩
  have hbo := Lib.hid hC
  by_cases hl : n.acts.length ≤ 12
  · by_cases hs : n.name.size ≤ 30
    · by_cases h0 : C = 0
      · subst h0
        by_cases hE : Cal.addE p n a = 0
        · obtain ⟨_, _, hact⟩ := Cal.addE_ok hE
          obtain ⟨_, hla, _, _⟩ := Cal.more_ok hE
          obtain ⟨hm, _⟩ := Cal.actS_ok hact
          obtain ⟨q0, q1, _⟩ := Cal.formErr_ok (Cal.mayErr_ok hm).1
          obtain ⟨_, _, hop, _, _⟩ := Cal.end_ok hC
          obtain ⟨_, _, o0, _, _, _⟩ := Cal.checkS_ok hC
          exact later_go A c p N d n a (n.more a) w hN hl hs hbo q0 q1 (by omega) o0 (fun w1 h => Add_more A c p N d n a w1 h hE) (fun day h1 h2 => Cal.more_phase hE h1 h2) hN.name
        · have hadd := Lib.hid (fun w1 h => Add_no A c p N d n a w1 h hE)
          have hE1 : (Cal.addE p n a != 0) = true := by simpa using hE
          have hN := Lib.hid hN
          generalize Cal.addE p n a = E at *
          clear hC hE
          obtain ⟨g1, g2, g3, hb⟩ := start3n w A c p N d n a
          have c0 := g2.out.c 0 _ rfl
          have c1 := g2.out.c 1 _ rfl
          have c2 := g2.out.c 2 _ rfl
          have a0 := g3.out.c 0 _ rfl
          have a1 := g3.out.c 1 _ rfl
          have a2 := g3.out.c 2 _ rfl
          go_enter Tryz.func9, Tryz.ntmps9
          go_wp2_with fail
          refine (nawake_any _ (hN.out.tab.below hb.out)).mono ?_
          rintro e wn ⟨rfl, hbn⟩
          have g1 := Lib.hid (g1.out.below hbn)
          have g2 := Lib.hid (g2.out.below hbn)
          have g3 := Lib.hid (g3.out.below hbn)
          have hb := Lib.hid (below_step hb.out hbn)
          clear hbn c0 c1 c2 a0 a1 a2
          have c0 := g2.out.c 0 _ rfl
          have c1 := g2.out.c 1 _ rfl
          have c2 := g2.out.c 2 _ rfl
          have a0 := g3.out.c 0 _ rfl
          have a1 := g3.out.c 1 _ rfl
          have a2 := g3.out.c 2 _ rfl
          go_wp2_with (refine wpPr g1.out (.tmp 3) rfl ?_)
          refine (Modest_any A c p _ (hN.out.hols.below hb.out)).mono ?_
          rintro e wn ⟨⟨b, rfl⟩, hbn⟩
          have g1 := Lib.hid (g1.out.below hbn)
          have g2 := Lib.hid (g2.out.below hbn)
          have g3 := Lib.hid (g3.out.below hbn)
          have hb := Lib.hid (below_step hb.out hbn)
          clear hbn c0 c1 c2 a0 a1 a2
          have c0 := g2.out.c 0 _ rfl
          have c1 := g2.out.c 1 _ rfl
          have c2 := g2.out.c 2 _ rfl
          have a0 := g3.out.c 0 _ rfl
          have a1 := g3.out.c 1 _ rfl
          have a2 := g3.out.c 2 _ rfl
          cases b
          · go_wp2_with fail
            go_ret
            exact ⟨rfl, hb.out⟩
          have z0 := g1.out.c 0 _ rfl
          have z1 := g1.out.c 1 _ rfl
          have z2 := g1.out.c 2 _ rfl
          have z3 := g1.out.c 3 _ rfl
          have z4 := g1.out.c 4 _ rfl
          have z5 := g1.out.c 5 _ rfl
          have z6 := g1.out.c 6 _ rfl
          have z7 := g1.out.c 7 _ rfl
          have z8 := g1.out.c 8 _ rfl
          have z9 := g1.out.c 9 _ rfl
          have z10 := g1.out.c 10 _ rfl
          have z11 := g1.out.c 11 _ rfl
          go_wp2_with fail
          refine (both_any A c p N d n _ (hN.out.below hb.out)).mono ?_
          rintro e wn ⟨rfl, hbn⟩
          rw [hbo.out]
          clear z0 z1 z2 z3 z4 z5 z6 z7 z8 z9 z10 z11
          have g1 := Lib.hid (g1.out.below hbn)
          have g2 := Lib.hid (g2.out.below hbn)
          have g3 := Lib.hid (g3.out.below hbn)
          have hb := Lib.hid (below_step hb.out hbn)
          clear hbn c0 c1 c2 a0 a1 a2
          have c0 := g2.out.c 0 _ rfl
          have c1 := g2.out.c 1 _ rfl
          have c2 := g2.out.c 2 _ rfl
          have a0 := g3.out.c 0 _ rfl
          have a1 := g3.out.c 1 _ rfl
          have a2 := g3.out.c 2 _ rfl
          go_wp2_with (refine wpPr g1.out (.tmp 3) rfl ?_)
          refine (hadd.out _ (hN.out.below hb.out)).mono ?_
          rintro e wn ⟨rfl, hbn⟩
          have g1 := Lib.hid (g1.out.below hbn)
          have g2 := Lib.hid (g2.out.below hbn)
          have g3 := Lib.hid (g3.out.below hbn)
          have hb := Lib.hid (below_step hb.out hbn)
          clear hbn c0 c1 c2 a0 a1 a2
          have c0 := g2.out.c 0 _ rfl
          have c1 := g2.out.c 1 _ rfl
          have c2 := g2.out.c 2 _ rfl
          have a0 := g3.out.c 0 _ rfl
          have a1 := g3.out.c 1 _ rfl
          have a2 := g3.out.c 2 _ rfl
          have hN7 := Lib.hid (BoxAt.new wn #[.string ⟨#[]⟩, .int .i64 0, .slice none 0 0] 29)
          have hm1 : Hid (Acts wn none []) := Acts.nil _
          go_wp2_with ((refine wpList_store_box rfl 29 (.tmp 7) (.tmp 42) rfl (wn.heap.size) _ [.string ⟨#[]⟩, .int .i64 0, .slice none 0 0] (by rfl) (by rfl) hN7.out rfl ntSize (by kernel_rfl) ?_; intro w5 h5 hg5); have hbn5 := below_of_grownB (below_alloc wn _) hg5 (Nat.le_refl _); have g1 := Lib.hid (g1.out.below hbn5); have g2 := Lib.hid (g2.out.below hbn5); have g3 := Lib.hid (g3.out.below hbn5); have hb := Lib.hid (below_step hb.out hbn5); have hm1 := Lib.hid (hm1.out.below hbn5); have g7 := Lib.hid h5; clear hbn5 hg5 hN7 c0 c1 c2 a0 a1 a2; have c0 := g2.out.c 0 _ rfl; have c1 := g2.out.c 1 _ rfl; have c2 := g2.out.c 2 _ rfl; have a0 := g3.out.c 0 _ rfl; have a1 := g3.out.c 1 _ rfl; have a2 := g3.out.c 2 _ rfl; have m0 := g7.out.c 0 _ rfl; have m1 := g7.out.c 1 _ rfl; have m2 := g7.out.c 2 _ rfl)
          go_ret
          exact ⟨by first | rfl | done, hb.out⟩
      · have hC1 : (C != 0) = true := by simpa using h0
        have hN := Lib.hid hN
        clear hC h0
        obtain ⟨g1, g2, g3, hb⟩ := start3n w A c p N d n a
        have c0 := g2.out.c 0 _ rfl
        have c1 := g2.out.c 1 _ rfl
        have c2 := g2.out.c 2 _ rfl
        have a0 := g3.out.c 0 _ rfl
        have a1 := g3.out.c 1 _ rfl
        have a2 := g3.out.c 2 _ rfl
        go_enter Tryz.func9, Tryz.ntmps9
        go_wp2_with fail
        refine (nawake_any _ (hN.out.tab.below hb.out)).mono ?_
        rintro e wn ⟨rfl, hbn⟩
        have g1 := Lib.hid (g1.out.below hbn)
        have g2 := Lib.hid (g2.out.below hbn)
        have g3 := Lib.hid (g3.out.below hbn)
        have hb := Lib.hid (below_step hb.out hbn)
        clear hbn c0 c1 c2 a0 a1 a2
        have c0 := g2.out.c 0 _ rfl
        have c1 := g2.out.c 1 _ rfl
        have c2 := g2.out.c 2 _ rfl
        have a0 := g3.out.c 0 _ rfl
        have a1 := g3.out.c 1 _ rfl
        have a2 := g3.out.c 2 _ rfl
        go_wp2_with (refine wpPr g1.out (.tmp 3) rfl ?_)
        refine (Modest_any A c p _ (hN.out.hols.below hb.out)).mono ?_
        rintro e wn ⟨⟨b, rfl⟩, hbn⟩
        have g1 := Lib.hid (g1.out.below hbn)
        have g2 := Lib.hid (g2.out.below hbn)
        have g3 := Lib.hid (g3.out.below hbn)
        have hb := Lib.hid (below_step hb.out hbn)
        clear hbn c0 c1 c2 a0 a1 a2
        have c0 := g2.out.c 0 _ rfl
        have c1 := g2.out.c 1 _ rfl
        have c2 := g2.out.c 2 _ rfl
        have a0 := g3.out.c 0 _ rfl
        have a1 := g3.out.c 1 _ rfl
        have a2 := g3.out.c 2 _ rfl
        cases b
        · go_wp2_with fail
          go_ret
          exact ⟨rfl, hb.out⟩
        have z0 := g1.out.c 0 _ rfl
        have z1 := g1.out.c 1 _ rfl
        have z2 := g1.out.c 2 _ rfl
        have z3 := g1.out.c 3 _ rfl
        have z4 := g1.out.c 4 _ rfl
        have z5 := g1.out.c 5 _ rfl
        have z6 := g1.out.c 6 _ rfl
        have z7 := g1.out.c 7 _ rfl
        have z8 := g1.out.c 8 _ rfl
        have z9 := g1.out.c 9 _ rfl
        have z10 := g1.out.c 10 _ rfl
        have z11 := g1.out.c 11 _ rfl
        go_wp2_with fail
        refine (both_any A c p N d n _ (hN.out.below hb.out)).mono ?_
        rintro e wn ⟨rfl, hbn⟩
        rw [hbo.out]
        clear z0 z1 z2 z3 z4 z5 z6 z7 z8 z9 z10 z11
        have g1 := Lib.hid (g1.out.below hbn)
        have g2 := Lib.hid (g2.out.below hbn)
        have g3 := Lib.hid (g3.out.below hbn)
        have hb := Lib.hid (below_step hb.out hbn)
        clear hbn c0 c1 c2 a0 a1 a2
        have c0 := g2.out.c 0 _ rfl
        have c1 := g2.out.c 1 _ rfl
        have c2 := g2.out.c 2 _ rfl
        have a0 := g3.out.c 0 _ rfl
        have a1 := g3.out.c 1 _ rfl
        have a2 := g3.out.c 2 _ rfl
        go_wp2_with fail
        go_ret
        exact ⟨by first | rfl | done, hb.out⟩
    · have hs' : 30 < n.name.size := by omega
      have hnm := hN.name
      unfold maxLen at hnm
      have hN := Lib.hid hN
      clear hC hbo hs
      obtain ⟨g1, g2, g3, hb⟩ := start3n w A c p N d n a
      have c0 := g2.out.c 0 _ rfl
      have c1 := g2.out.c 1 _ rfl
      have c2 := g2.out.c 2 _ rfl
      have a0 := g3.out.c 0 _ rfl
      have a1 := g3.out.c 1 _ rfl
      have a2 := g3.out.c 2 _ rfl
      go_enter Tryz.func9, Tryz.ntmps9
      go_wp2_with fail
      refine (nawake_any _ (hN.out.tab.below hb.out)).mono ?_
      rintro e wn ⟨rfl, hbn⟩
      have g1 := Lib.hid (g1.out.below hbn)
      have g2 := Lib.hid (g2.out.below hbn)
      have g3 := Lib.hid (g3.out.below hbn)
      have hb := Lib.hid (below_step hb.out hbn)
      clear hbn c0 c1 c2 a0 a1 a2
      have c0 := g2.out.c 0 _ rfl
      have c1 := g2.out.c 1 _ rfl
      have c2 := g2.out.c 2 _ rfl
      have a0 := g3.out.c 0 _ rfl
      have a1 := g3.out.c 1 _ rfl
      have a2 := g3.out.c 2 _ rfl
      go_wp2_with (refine wpPr g1.out (.tmp 3) rfl ?_)
      refine (Modest_any A c p _ (hN.out.hols.below hb.out)).mono ?_
      rintro e wn ⟨⟨b, rfl⟩, hbn⟩
      have g1 := Lib.hid (g1.out.below hbn)
      have g2 := Lib.hid (g2.out.below hbn)
      have g3 := Lib.hid (g3.out.below hbn)
      have hb := Lib.hid (below_step hb.out hbn)
      clear hbn c0 c1 c2 a0 a1 a2
      have c0 := g2.out.c 0 _ rfl
      have c1 := g2.out.c 1 _ rfl
      have c2 := g2.out.c 2 _ rfl
      have a0 := g3.out.c 0 _ rfl
      have a1 := g3.out.c 1 _ rfl
      have a2 := g3.out.c 2 _ rfl
      cases b
      · go_wp2_with fail
        go_ret
        exact ⟨rfl, hb.out⟩
      go_wp2_with fail
      go_ret
      exact ⟨by first | rfl | done, hb.out⟩
  · have hl' : 12 < n.acts.length := by omega
    have hsz := hN.acts.size
    have hN := Lib.hid hN
    clear hC hbo hl
    obtain ⟨g1, g2, g3, hb⟩ := start3n w A c p N d n a
    have c0 := g2.out.c 0 _ rfl
    have c1 := g2.out.c 1 _ rfl
    have c2 := g2.out.c 2 _ rfl
    have a0 := g3.out.c 0 _ rfl
    have a1 := g3.out.c 1 _ rfl
    have a2 := g3.out.c 2 _ rfl
    go_enter Tryz.func9, Tryz.ntmps9
    go_wp2_with fail
    refine (nawake_any _ (hN.out.tab.below hb.out)).mono ?_
    rintro e wn ⟨rfl, hbn⟩
    have g1 := Lib.hid (g1.out.below hbn)
    have g2 := Lib.hid (g2.out.below hbn)
    have g3 := Lib.hid (g3.out.below hbn)
    have hb := Lib.hid (below_step hb.out hbn)
    clear hbn c0 c1 c2 a0 a1 a2
    have c0 := g2.out.c 0 _ rfl
    have c1 := g2.out.c 1 _ rfl
    have c2 := g2.out.c 2 _ rfl
    have a0 := g3.out.c 0 _ rfl
    have a1 := g3.out.c 1 _ rfl
    have a2 := g3.out.c 2 _ rfl
    go_wp2_with (refine wpPr g1.out (.tmp 3) rfl ?_)
    refine (Modest_any A c p _ (hN.out.hols.below hb.out)).mono ?_
    rintro e wn ⟨⟨b, rfl⟩, hbn⟩
    have g1 := Lib.hid (g1.out.below hbn)
    have g2 := Lib.hid (g2.out.below hbn)
    have g3 := Lib.hid (g3.out.below hbn)
    have hb := Lib.hid (below_step hb.out hbn)
    clear hbn c0 c1 c2 a0 a1 a2
    have c0 := g2.out.c 0 _ rfl
    have c1 := g2.out.c 1 _ rfl
    have c2 := g2.out.c 2 _ rfl
    have a0 := g3.out.c 0 _ rfl
    have a1 := g3.out.c 1 _ rfl
    have a2 := g3.out.c 2 _ rfl
    cases b
    · go_wp2_with fail
      go_ret
      exact ⟨rfl, hb.out⟩
    go_wp2_with fail
    go_ret
    exact ⟨by first | rfl | done, hb.out⟩
end Go.Proofs.YtconnjkkgaapbaaGreatDoor
