/- Chapter 8 and what it rests on: definitions and walks, part 32. -/
import Derived.Test.YtbegbajlagcbdaaGreatDoorC31
import Derived.Test.YtbegbajlagcbdaaGreatDoorC17
namespace Go.Proofs.YtbegbajlagcbdaaGreatDoor
open Go Go.RowKit
theorem sizeStp1 (w : World) : (sizeOf (Tryz.prog.elem 57)).run Tryz.prog w = .ok 2 w := by kernel_rfl
theorem undStps1 : Tryz.prog.underlying 57 = some (.slice (Tryz.prog.elem 57)) := by kernel_rfl
theorem StopArg.head {w : World} {S : Option Addr} {e : Nat} {l : List Stp} (h : StopArg w S e l) {k : Nat} (hk : k ≤ l.length) :
    ∃ A1 c1, (∀ w', (Instr.slice 57 (.slice S l.length e) none (some (.int .i64 k)) none).run Tryz.prog w' = .ok (.slice A1 k c1) w') ∧ RowsAt w A1 2 ((l.take k).map Stp.cells) := by
  obtain ⟨A1, c1, h1, h2⟩ := cut_head undStps1 sizeStp1 (List.length_map ..).symm h.rows h.cap hk
  exact ⟨A1, c1, h1, by rw [List.map_take]; exact h2⟩
theorem RowsAt.cap0 {w : World} {A : Option Addr} {l : List Stp} (h : RowsAt w A 2 (l.map Stp.cells)) : StopArg w A l.length l := ⟨h, Nat.le_refl _⟩
/-- The last day and the error of the first k stops. -/
def Cal.rndTo (p : Proc) (order : List Int) (x y : Int) (l : List Stp) : Nat → Int × Int
  | 0 => (x, 0)
  | k + 1 => if (Cal.rndTo p order x y l k).2 = 0 then (match l[k]? with | none => Cal.rndTo p order x y l k | some s => if Cal.stopE p order (l.take k) s x y = 0 then (max (Cal.rndTo p order x y l k).1 s.day, 0) else (0, Cal.stopE p order (l.take k) s x y)) else Cal.rndTo p order x y l k
theorem Cal.rndTo_ok {p : Proc} {order : List Int} {x y : Int} {l : List Stp} {k : Nat} {last : Int} (h : Cal.rndTo p order x y l k = (last, 0)) (hk : k < l.length) (hs : Cal.stopE p order (l.take k) l[k] x y = 0) : Cal.rndTo p order x y l (k + 1) = (max last l[k].day, 0) := by
  unfold Cal.rndTo
  rw [h, if_pos rfl, List.getElem?_eq_getElem hk]
  simp only
  rw [if_pos hs]
theorem Cal.rndTo_err {p : Proc} {order : List Int} {x y : Int} {l : List Stp} {k : Nat} {last : Int} (h : Cal.rndTo p order x y l k = (last, 0)) (hk : k < l.length) (hs : ¬ Cal.stopE p order (l.take k) l[k] x y = 0) : Cal.rndTo p order x y l (k + 1) = (0, Cal.stopE p order (l.take k) l[k] x y) := by
  unfold Cal.rndTo
  rw [h, if_pos rfl, List.getElem?_eq_getElem hk]
  simp only
  rw [if_neg hs]
theorem Cal.rndTo_bad {p : Proc} {order : List Int} {x y : Int} {l : List Stp} {k : Nat} (h : ¬ (Cal.rndTo p order x y l k).2 = 0) : ∀ j, k ≤ j → Cal.rndTo p order x y l j = Cal.rndTo p order x y l k
  | 0, hj => by obtain rfl : k = 0 := by omega
                rfl
  | j + 1, hj => by
    rcases Nat.lt_or_eq_of_le hj with h1 | h1
    · have ih := Cal.rndTo_bad h j (by omega)
      rw [Cal.rndTo, ih, if_neg h]
    · rw [h1]
/-- The last day and the error of a plan. -/
def Cal.rndS (p : Proc) (order : List Int) (l : List Stp) (x y : Int) : Int × Int :=
  if Cal.planE p order x y = 0 then (if (Cal.rndTo p order x y l l.length).2 = 0 then (if l.length < order.length then (0, 14) else Cal.rndTo p order x y l l.length) else Cal.rndTo p order x y l l.length) else (0, Cal.planE p order x y)
set_option maxRecDepth 100000 in
set_option maxHeartbeats 8000000 in
theorem CheckRound_any (A : Option Addr) (c : Nat) (p : Proc) (O : Option Addr) (d : Nat) (order : List Int) (S : Option Addr) (f : Nat) (l : List Stp) (x y : Int) (w : World) (hl : Hols w A p.hols) (hT : Tab w) (hI : IntArg w O d order) (hs : order.length ≤ 1000000) (hS : StopArg w S f l) (hsl : l.length ≤ 1000000) :
    Calls Tryz.prog 24 #[.agg #[.int .i64 p.runs.m, .int .i64 p.runs.d, .bool p.runs.k, .int .i64 p.obj.m, .int .i64 p.obj.d, .bool p.obj.k, .int .i64 p.wait.m, .int .i64 p.wait.d, .bool p.wait.k, .int .i64 p.exts, .int .i64 p.longest, .slice A p.hols.length c], .slice O order.length d, .slice S l.length f, .agg #[.int .i64 x, .int .i64 y]] w (IEPost w (Cal.rndS p order l x y)) := by
  obtain ⟨g1, g2, hb⟩ := start2o w A c p x y
  have hl := Lib.hid hl
  have hT := Lib.hid hT
  have hI := Lib.hid hI
  have hS := Lib.hid hS
  by_cases h0 : Cal.planE p order x y = 0
  · have hp0 := Lib.hid h0
    have hR : Hid (Cal.rndS p order l x y = if (Cal.rndTo p order x y l l.length).2 = 0 then (if l.length < order.length then (0, 14) else Cal.rndTo p order x y l l.length) else Cal.rndTo p order x y l l.length) := if_pos h0
    have hz : Hid (Cal.rndTo p order x y l 0 = (x, 0)) := rfl
    clear h0
    have k0 := g2.out.c 0 _ rfl
    have k1 := g2.out.c 1 _ rfl
    go_enter Tryz.func24, Tryz.ntmps24
    go_wp2_with (refine wpPr g1.out (.tmp 4) rfl ?_)
    refine (checkOrder_any A c p O d order x y _ (hl.out.below hb.out) (hT.out.below hb.out) (hI.out.below hb.out) hs).mono ?_
    rintro e w1 ⟨rfl, hbn⟩
    clear k0 k1
    have g1 := Lib.hid (g1.out.below hbn)
    have g2 := Lib.hid (g2.out.below hbn)
    have hb := Lib.hid (below_step hb.out hbn)
    clear hbn
    rw [hp0.out]
    have k0 := g2.out.c 0 _ rfl
    go_wp2_with fail
    clear k0
    go_loopw [26, 11] (fun i n wr => ∃ (k : Nat) (last : Int), k ≤ l.length ∧ i = .int .i64 k ∧ n = .int .i64 last ∧ Hid (Cal.rndTo p order x y l k = (last, 0)) ∧ Hid (BoxAt wr w.heap.size [.int .i64 p.runs.m, .int .i64 p.runs.d, .bool p.runs.k, .int .i64 p.obj.m, .int .i64 p.obj.d, .bool p.obj.k, .int .i64 p.wait.m, .int .i64 p.wait.d, .bool p.wait.k, .int .i64 p.exts, .int .i64 p.longest, .slice A p.hols.length c]) ∧ Hid (BoxAt wr (w.heap.size + 1) [.int .i64 x, .int .i64 y]) ∧ Hid (Below w.heap.size w wr)) (fun i _ _ => l.length - (intOf i).toNat)
    case atStart => exact ⟨0, x, Nat.zero_le _, rfl, rfl, hz, g1, g2, hb⟩
    case round =>
      clear g1 g2 hb hz
      obtain ⟨k, last, hk, rfl, rfl, hrn, g1, g2, hb⟩ := hrel
      by_cases hlt : k < l.length
      · have hSw := hS.out.below hb.out
        obtain ⟨b, o, rfl, hbl, e0, e1⟩ := stops_at hSw.rows hlt
        obtain ⟨A1, c1, hrun, hrg⟩ := hSw.head (k := k) (by omega)
        have hlen : (l.take k).length = k := by rw [List.length_take]; omega
        have hst := fun w2 (hl2 : Hols w2 A p.hols) (hT2 : Tab w2) (hI2 : IntArg w2 O d order) (hS2 : RowsAt w2 A1 2 ((l.take k).map Stp.cells)) => checkStop_any A c p O d order A1 c1 (l.take k) l[k] x y w2 hl2 hT2 hI2 hs hS2 (by omega)
        rw [hlen] at hst
        have hok := fun hs => Cal.rndTo_ok hrn.out hlt hs
        have her := fun hs => Cal.rndTo_err hrn.out hlt hs
        clear hSw hlen
        generalize l[k] = s at *
        by_cases hE : Cal.stopE p order (l.take k) s x y = 0
        · rw [hE] at hst
          have hnx := Lib.hid (hok hE)
          have hst := Lib.hid hst
          clear hok her hE
          go_wp2_with fail
          have hbn := below_alloc wr (.cells #[.int .i64 s.mon, .int .i64 s.day] 68)
          have b3 := Lib.hid (BoxAt.new wr #[.int .i64 s.mon, .int .i64 s.day] 68)
          have hrg := Lib.hid (hrg.below hbn)
          have g1 := Lib.hid (g1.out.below hbn)
          have g2 := Lib.hid (g2.out.below hbn)
          have hb := Lib.hid (below_step hb.out hbn)
          clear hbn
          generalize hwr1 : wr.alloc (.cells #[.int .i64 s.mon, .int .i64 s.day] 68) = wr1 at *
          have hdr : Below wr1.heap.size wr1 wr1.drew := (Below.refl _ _).drew
          have g1 := Lib.hid (g1.out.below hdr)
          have g2 := Lib.hid (g2.out.below hdr)
          have b3 := Lib.hid (b3.out.below hdr)
          have hrg := Lib.hid (hrg.out.below hdr)
          have hb := Lib.hid (below_step hb.out hdr)
          refine wp_region_held_drew (S := (fun w' => BoxAt w' w.heap.size [.int .i64 p.runs.m, .int .i64 p.runs.d, .bool p.runs.k, .int .i64 p.obj.m, .int .i64 p.obj.d, .bool p.obj.k, .int .i64 p.wait.m, .int .i64 p.wait.d, .bool p.wait.k, .int .i64 p.exts, .int .i64 p.longest, .slice A p.hols.length c] ∧ w'.cell? ⟨wr.heap.size, 0, none⟩ = some (.int .i64 s.mon) ∧ w'.cell? ⟨wr.heap.size, 1, none⟩ = some (.int .i64 s.day) ∧ w'.cell? ⟨w.heap.size + 1, 0, none⟩ = some (.int .i64 x) ∧ w'.cell? ⟨w.heap.size + 1, 1, none⟩ = some (.int .i64 y))) (by kernel_rfl) ⟨g1.out, b3.out.c 0 _ rfl, b3.out.c 1 _ rfl, g2.out.c 0 _ rfl, g2.out.c 1 _ rfl⟩ (fun hHeld => ?_)
          generalize hwd : wr1.drew = wd at *
          (refine wpAnyH_take (i := 0) (v := _) rfl (by kernel_rfl) (by decide +kernel) (by decide +kernel) (fun _ _ _ h => h) (yieldsIf_load_mid (by kernel_rfl) 47 _ rfl (w.heap.size) 0 (by kernel_rfl) [.int .i64 p.runs.m, .int .i64 p.runs.d, .bool p.runs.k, .int .i64 p.obj.m, .int .i64 p.obj.d, .bool p.obj.k, .int .i64 p.wait.m, .int .i64 p.wait.d, .bool p.wait.k, .int .i64 p.exts, .int .i64 p.longest, .slice A p.hols.length c] _ (fun _ h => h.1.range) Tryz.underlying47 rfl prSize) (by assumption) ?_; (try simp only [Act.put, List.setIfInBounds_toArray]); (try simp only [List.set_cons_zero, List.set_cons_succ]))
          (refine tkH 1 (v := ?_) ?_ ?_; rotate_left; focus (intro w' hSw; (try dsimp only at hSw); go_simp; (try with_reducible rfl)); (try simp only [Act.put, List.setIfInBounds_toArray, List.set_cons_zero, List.set_cons_succ]))
          (refine tkH 2 (v := ?_) ?_ ?_; rotate_left; focus (intro w' hSw; (try dsimp only at hSw); go_simp; (try with_reducible rfl)); (try simp only [Act.put, List.setIfInBounds_toArray, List.set_cons_zero, List.set_cons_succ]))
          (refine tkH 3 (v := ?_) ?_ ?_; rotate_left; focus (intro w' hSw; (try dsimp only at hSw); go_simp; (try with_reducible rfl)); (try simp only [Act.put, List.setIfInBounds_toArray, List.set_cons_zero, List.set_cons_succ]))
          (refine tkH 4 (v := ?_) ?_ ?_; rotate_left; focus (intro w' hSw; (try dsimp only at hSw); go_simp; (try with_reducible rfl)); (try simp only [Act.put, List.setIfInBounds_toArray, List.set_cons_zero, List.set_cons_succ]))
          (refine tkH 5 (v := ?_) ?_ ?_; rotate_left; focus (intro w' hSw; (try dsimp only at hSw); go_simp; (try with_reducible rfl)); (try simp only [Act.put, List.setIfInBounds_toArray, List.set_cons_zero, List.set_cons_succ]))
          (refine tkH 6 (v := ?_) ?_ ?_; rotate_left; focus (intro w' hSw; (try dsimp only at hSw); go_simp; (try with_reducible rfl)); (try simp only [Act.put, List.setIfInBounds_toArray, List.set_cons_zero, List.set_cons_succ]))
          (refine wpAnyH_ready (rs := [7]) (by decide +kernel) (by simp) ?_; refine AllReadyH.cons rfl (fun K hK => ?_) AllReadyH.nil; rw [if_pos (by kernel_rfl)]; go_simp)
          refine (hst.out _ (hl.out.below hb.out) (hT.out.below hb.out) (hI.out.below hb.out) hrg.out).mono ?_
          rintro e w5 ⟨rfl, hbn⟩
          have g1 := Lib.hid (g1.out.below hbn)
          have g2 := Lib.hid (g2.out.below hbn)
          have b3 := Lib.hid (b3.out.below hbn)
          have hb := Lib.hid (below_step hb.out hbn)
          clear hbn
          go_simp
          (refine hK.out _ _ ⟨g1.out, b3.out.c 0 _ rfl, b3.out.c 1 _ rfl, g2.out.c 0 _ rfl, g2.out.c 1 _ rfl⟩ (fun hHeld => ?_); clear hK K; (try simp only [Act.put, List.setIfInBounds_toArray]); (try simp only [List.set_cons_zero, List.set_cons_succ]))
          (refine tkH 8 (v := ?_) ?_ ?_; rotate_left; focus (intro w' hSw; (try dsimp only at hSw); go_simp; (try with_reducible rfl)); (try simp only [Act.put, List.setIfInBounds_toArray, List.set_cons_zero, List.set_cons_succ]))
          refine wpAnyH_done (by kernel_rfl) ?_ _
          clear hHeld hrun
          have u1 := b3.out.c 1 _ rfl
          clear hwr1 hwd
          go_wp2_with fail
          go_roundw
          case rel => exact ⟨k + 1, _, by omega, by go_num, rfl, hnx, g1, g2, hb⟩
          case measure => simp [intOf]; omega
        · have hE1 : (Cal.stopE p order (l.take k) s x y != 0) = true := by simpa using hE
          have hfin : Hid (Cal.rndS p order l x y = (0, Cal.stopE p order (l.take k) s x y)) := by
            show _ = _
            have h1 := her hE
            have h2 : ¬ (Cal.rndTo p order x y l (k + 1)).2 = 0 := by rw [h1]; exact hE
            rw [hR.out, Cal.rndTo_bad h2 l.length (by omega), if_neg h2, h1]
          have hst := Lib.hid hst
          clear hok her hE hR
          go_wp2_with fail
          have hbn := below_alloc wr (.cells #[.int .i64 s.mon, .int .i64 s.day] 68)
          have b3 := Lib.hid (BoxAt.new wr #[.int .i64 s.mon, .int .i64 s.day] 68)
          have hrg := Lib.hid (hrg.below hbn)
          have g1 := Lib.hid (g1.out.below hbn)
          have g2 := Lib.hid (g2.out.below hbn)
          have hb := Lib.hid (below_step hb.out hbn)
          clear hbn
          generalize hwr1 : wr.alloc (.cells #[.int .i64 s.mon, .int .i64 s.day] 68) = wr1 at *
          have hdr : Below wr1.heap.size wr1 wr1.drew := (Below.refl _ _).drew
          have g1 := Lib.hid (g1.out.below hdr)
          have g2 := Lib.hid (g2.out.below hdr)
          have b3 := Lib.hid (b3.out.below hdr)
          have hrg := Lib.hid (hrg.out.below hdr)
          have hb := Lib.hid (below_step hb.out hdr)
          refine wp_region_held_drew (S := (fun w' => BoxAt w' w.heap.size [.int .i64 p.runs.m, .int .i64 p.runs.d, .bool p.runs.k, .int .i64 p.obj.m, .int .i64 p.obj.d, .bool p.obj.k, .int .i64 p.wait.m, .int .i64 p.wait.d, .bool p.wait.k, .int .i64 p.exts, .int .i64 p.longest, .slice A p.hols.length c] ∧ w'.cell? ⟨wr.heap.size, 0, none⟩ = some (.int .i64 s.mon) ∧ w'.cell? ⟨wr.heap.size, 1, none⟩ = some (.int .i64 s.day) ∧ w'.cell? ⟨w.heap.size + 1, 0, none⟩ = some (.int .i64 x) ∧ w'.cell? ⟨w.heap.size + 1, 1, none⟩ = some (.int .i64 y))) (by kernel_rfl) ⟨g1.out, b3.out.c 0 _ rfl, b3.out.c 1 _ rfl, g2.out.c 0 _ rfl, g2.out.c 1 _ rfl⟩ (fun hHeld => ?_)
          generalize hwd : wr1.drew = wd at *
          (refine wpAnyH_take (i := 0) (v := _) rfl (by kernel_rfl) (by decide +kernel) (by decide +kernel) (fun _ _ _ h => h) (yieldsIf_load_mid (by kernel_rfl) 47 _ rfl (w.heap.size) 0 (by kernel_rfl) [.int .i64 p.runs.m, .int .i64 p.runs.d, .bool p.runs.k, .int .i64 p.obj.m, .int .i64 p.obj.d, .bool p.obj.k, .int .i64 p.wait.m, .int .i64 p.wait.d, .bool p.wait.k, .int .i64 p.exts, .int .i64 p.longest, .slice A p.hols.length c] _ (fun _ h => h.1.range) Tryz.underlying47 rfl prSize) (by assumption) ?_; (try simp only [Act.put, List.setIfInBounds_toArray]); (try simp only [List.set_cons_zero, List.set_cons_succ]))
          (refine tkH 1 (v := ?_) ?_ ?_; rotate_left; focus (intro w' hSw; (try dsimp only at hSw); go_simp; (try with_reducible rfl)); (try simp only [Act.put, List.setIfInBounds_toArray, List.set_cons_zero, List.set_cons_succ]))
          (refine tkH 2 (v := ?_) ?_ ?_; rotate_left; focus (intro w' hSw; (try dsimp only at hSw); go_simp; (try with_reducible rfl)); (try simp only [Act.put, List.setIfInBounds_toArray, List.set_cons_zero, List.set_cons_succ]))
          (refine tkH 3 (v := ?_) ?_ ?_; rotate_left; focus (intro w' hSw; (try dsimp only at hSw); go_simp; (try with_reducible rfl)); (try simp only [Act.put, List.setIfInBounds_toArray, List.set_cons_zero, List.set_cons_succ]))
          (refine tkH 4 (v := ?_) ?_ ?_; rotate_left; focus (intro w' hSw; (try dsimp only at hSw); go_simp; (try with_reducible rfl)); (try simp only [Act.put, List.setIfInBounds_toArray, List.set_cons_zero, List.set_cons_succ]))
          (refine tkH 5 (v := ?_) ?_ ?_; rotate_left; focus (intro w' hSw; (try dsimp only at hSw); go_simp; (try with_reducible rfl)); (try simp only [Act.put, List.setIfInBounds_toArray, List.set_cons_zero, List.set_cons_succ]))
          (refine tkH 6 (v := ?_) ?_ ?_; rotate_left; focus (intro w' hSw; (try dsimp only at hSw); go_simp; (try with_reducible rfl)); (try simp only [Act.put, List.setIfInBounds_toArray, List.set_cons_zero, List.set_cons_succ]))
          (refine wpAnyH_ready (rs := [7]) (by decide +kernel) (by simp) ?_; refine AllReadyH.cons rfl (fun K hK => ?_) AllReadyH.nil; rw [if_pos (by kernel_rfl)]; go_simp)
          refine (hst.out _ (hl.out.below hb.out) (hT.out.below hb.out) (hI.out.below hb.out) hrg.out).mono ?_
          rintro e w5 ⟨rfl, hbn⟩
          have g1 := Lib.hid (g1.out.below hbn)
          have g2 := Lib.hid (g2.out.below hbn)
          have b3 := Lib.hid (b3.out.below hbn)
          have hb := Lib.hid (below_step hb.out hbn)
          clear hbn
          go_simp
          (refine hK.out _ _ ⟨g1.out, b3.out.c 0 _ rfl, b3.out.c 1 _ rfl, g2.out.c 0 _ rfl, g2.out.c 1 _ rfl⟩ (fun hHeld => ?_); clear hK K; (try simp only [Act.put, List.setIfInBounds_toArray]); (try simp only [List.set_cons_zero, List.set_cons_succ]))
          (refine tkH 8 (v := ?_) ?_ ?_; rotate_left; focus (intro w' hSw; (try dsimp only at hSw); go_simp; (try with_reducible rfl)); (try simp only [Act.put, List.setIfInBounds_toArray, List.set_cons_zero, List.set_cons_succ]))
          refine wpAnyH_done (by kernel_rfl) ?_ _
          clear hHeld hrun
          have u1 := b3.out.c 1 _ rfl
          clear hwr1 hwd
          go_wp2_with fail
          go_ret2
          exact ⟨by rw [hfin.out]; first | done | rfl, hb.out⟩
      · obtain rfl : k = l.length := by omega
        by_cases hlo : l.length < order.length
        · have hfin : Hid (Cal.rndS p order l x y = (0, 14)) := by show _ = _; rw [hR.out, hrn.out, if_pos rfl, if_pos hlo]
          clear hR
          go_wp2_with fail
          go_ret2
          exact ⟨by rw [hfin.out]; first | done | rfl, hb.out⟩
        · have hfin : Hid (Cal.rndS p order l x y = (last, 0)) := by show _ = _; rw [hR.out, hrn.out, if_pos rfl, if_neg hlo]
          clear hR
          go_wp2_with fail
          go_ret2
          exact ⟨by rw [hfin.out]; first | done | rfl, hb.out⟩
  · have hp1 : (Cal.planE p order x y != 0) = true := by simpa using h0
    have hfin : Hid (Cal.rndS p order l x y = (0, Cal.planE p order x y)) := if_neg h0
    clear h0
    have k0 := g2.out.c 0 _ rfl
    have k1 := g2.out.c 1 _ rfl
    go_enter Tryz.func24, Tryz.ntmps24
    go_wp2_with (refine wpPr g1.out (.tmp 4) rfl ?_)
    refine (checkOrder_any A c p O d order x y _ (hl.out.below hb.out) (hT.out.below hb.out) (hI.out.below hb.out) hs).mono ?_
    rintro e w1 ⟨rfl, hbn⟩
    clear k0 k1
    have g1 := Lib.hid (g1.out.below hbn)
    have g2 := Lib.hid (g2.out.below hbn)
    have hb := Lib.hid (below_step hb.out hbn)
    clear hbn
    go_wp2_with fail
    go_ret2
    exact ⟨by rw [hfin.out]; first | done | rfl, hb.out⟩
end Go.Proofs.YtbegbajlagcbdaaGreatDoor
namespace Go.Proofs.YtbegbajlagcbdaaGreatDoor
open Go Go.RowKit
def PlanRPost (w : World) (r : Option (List Stp)) (e : Ending) (w' : World) : Prop := (match r with | some out => ∃ v, e = .returned (.tuple #[v, .bool true]) ∧ StpsL w' w.heap.size v out | none => e = .returned (.tuple #[.slice none 0 0, .bool false])) ∧ Below w.heap.size w w'
end Go.Proofs.YtbegbajlagcbdaaGreatDoor
