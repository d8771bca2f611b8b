/- Chapter 8 and what it rests on: definitions and walks, part 57. -/
import Derived.Test.YtbinoelbjlgjkaaGreatDoorC56
import Derived.Test.YtbinoelbjlgjkaaGreatDoorC21
namespace Go.Proofs.YtbinoelbjlgjkaaGreatDoor
open Go Go.RowKit
theorem sizeStp1 (w : World) : (sizeOf (Tryz.prog.elem 80)).run Tryz.prog w = .ok 2 w := by kernel_rfl
theorem undStps1 : Tryz.prog.underlying 80 = some (.slice (Tryz.prog.elem 80)) := by kernel_rfl
theorem StopArg.head {w : World} {S : Option Addr} {e : Nat} {l : List Stp} (h : StopArg w S e l) {k : Nat} (hk : k ≤ l.length) :
    ∃ A1 c1, (∀ w', (Instr.slice 80 (.slice S l.length e) none (some (.int .i64 k)) none).run Tryz.prog w' = .ok (.slice A1 k c1) w') ∧ RowsAt w A1 2 ((l.take k).map Stp.cells) := by
  obtain ⟨A1, c1, h1, h2⟩ := cut_head undStps1 sizeStp1 (List.length_map ..).symm h.rows h.cap hk
  exact ⟨A1, c1, h1, by rw [List.map_take]; exact h2⟩
theorem RowsAt.cap0 {w : World} {A : Option Addr} {l : List Stp} (h : RowsAt w A 2 (l.map Stp.cells)) : StopArg w A l.length l := ⟨h, Nat.le_refl _⟩
/-- The last day and the error of the first k stops. -/
def Cal.rndTo (p : Proc) (order : List Int) (x y : Int) (l : List Stp) : Nat → Int × Int
  | 0 => (x, 0)
  | k + 1 => if (Cal.rndTo p order x y l k).2 = 0 then (match l[k]? with | none => Cal.rndTo p order x y l k | some s => if Cal.stopE p order (l.take k) s x y = 0 then (max (Cal.rndTo p order x y l k).1 s.day, 0) else (0, Cal.stopE p order (l.take k) s x y)) else Cal.rndTo p order x y l k
theorem Cal.rndTo_ok {p : Proc} {order : List Int} {x y : Int} {l : List Stp} {k : Nat} {last : Int} (h : Cal.rndTo p order x y l k = (last, 0)) (hk : k < l.length) (hs : Cal.stopE p order (l.take k) l[k] x y = 0) : Cal.rndTo p order x y l (k + 1) = (max last l[k].day, 0) := by
  unfold Cal.rndTo
  rw [h, if_pos rfl, List.getElem?_eq_getElem hk]
  simp only
  rw [if_pos hs]
theorem Cal.rndTo_err {p : Proc} {order : List Int} {x y : Int} {l : List Stp} {k : Nat} {last : Int} (h : Cal.rndTo p order x y l k = (last, 0)) (hk : k < l.length) (hs : ¬ Cal.stopE p order (l.take k) l[k] x y = 0) : Cal.rndTo p order x y l (k + 1) = (0, Cal.stopE p order (l.take k) l[k] x y) := by
  unfold Cal.rndTo
  rw [h, if_pos rfl, List.getElem?_eq_getElem hk]
  simp only
  rw [if_neg hs]
theorem Cal.rndTo_bad {p : Proc} {order : List Int} {x y : Int} {l : List Stp} {k : Nat} (h : ¬ (Cal.rndTo p order x y l k).2 = 0) : ∀ j, k ≤ j → Cal.rndTo p order x y l j = Cal.rndTo p order x y l k
  | 0, hj => by obtain rfl : k = 0 := by omega
                rfl
  | j + 1, hj => by
    rcases Nat.lt_or_eq_of_le hj with h1 | h1
    · have ih := Cal.rndTo_bad h j (by omega)
      rw [Cal.rndTo, ih, if_neg h]
    · rw [h1]
/-- The last day and the error of a plan. -/
def Cal.rndS (p : Proc) (order : List Int) (l : List Stp) (x y : Int) : Int × Int :=
  if Cal.planE p order x y = 0 then (if (Cal.rndTo p order x y l l.length).2 = 0 then (if l.length < order.length then (0, 14) else Cal.rndTo p order x y l l.length) else Cal.rndTo p order x y l l.length) else (0, Cal.planE p order x y)
set_option maxRecDepth 100000 in
set_option maxHeartbeats 8000000 in
theorem CheckRound_any (A : Option Addr) (c : Nat) (p : Proc) (O : Option Addr) (d : Nat) (order : List Int) (S : Option Addr) (f : Nat) (l : List Stp) (x y : Int) (w : World) (hl : Hols w A p.hols) (hT : Tab w) (hI : IntArg w O d order) (hs : order.length ≤ 1000000) (hS : StopArg w S f l) (hsl : l.length ≤ 1000000) :
    Calls Tryz.prog 43 #[.agg #[.int .i64 p.runs.m, .int .i64 p.runs.d, .bool p.runs.k, .int .i64 p.obj.m, .int .i64 p.obj.d, .bool p.obj.k, .int .i64 p.wait.m, .int .i64 p.wait.d, .bool p.wait.k, .int .i64 p.exts, .int .i64 p.longest, .slice A p.hols.length c], .slice O order.length d, .slice S l.length f, .agg #[.int .i64 x, .int .i64 y]] w (IEPost w (Cal.rndS p order l x y)) := by
  obtain ⟨g1, g2, hb⟩ := start2o w A c p x y
  have hl := Lib.hid hl
  have hT := Lib.hid hT
  have hI := Lib.hid hI
  have hS := Lib.hid hS
  by_cases h0 : Cal.planE p order x y = 0
  · have hp0 := Lib.hid h0
    have hR : Hid (Cal.rndS p order l x y = if (Cal.rndTo p order x y l l.length).2 = 0 then (if l.length < order.length then (0, 14) else Cal.rndTo p order x y l l.length) else Cal.rndTo p order x y l l.length) := if_pos h0
    have hz : Hid (Cal.rndTo p order x y l 0 = (x, 0)) := rfl
    clear h0
    have k0 := g2.out.c 0 _ rfl
    have k1 := g2.out.c 1 _ rfl
    go_enter Tryz.func43, Tryz.ntmps43
    go_wp2_with (refine wpPr g1.out (.tmp 4) rfl ?_)
    refine (checkOrder_any A c p O d order x y _ (hl.out.below hb.out) (hT.out.below hb.out) (hI.out.below hb.out) hs).mono ?_
    rintro e w1 ⟨rfl, hbn⟩
    clear k0 k1
    have g1 := Lib.hid (g1.out.below hbn)
    have g2 := Lib.hid (g2.out.below hbn)
    have hb := Lib.hid (below_step hb.out hbn)
    clear hbn
    rw [hp0.out]
    have k0 := g2.out.c 0 _ rfl
    go_wp2_with fail
    clear k0
    go_loopw [26, 11] (fun i n wr => ∃ (k : Nat) (last : Int), k ≤ l.length ∧ i = .int .i64 k ∧ n = .int .i64 last ∧ Hid (Cal.rndTo p order x y l k = (last, 0)) ∧ Hid (BoxAt wr w.heap.size [.int .i64 p.runs.m, .int .i64 p.runs.d, .bool p.runs.k, .int .i64 p.obj.m, .int .i64 p.obj.d, .bool p.obj.k, .int .i64 p.wait.m, .int .i64 p.wait.d, .bool p.wait.k, .int .i64 p.exts, .int .i64 p.longest, .slice A p.hols.length c]) ∧ Hid (BoxAt wr (w.heap.size + 1) [.int .i64 x, .int .i64 y]) ∧ Hid (Below w.heap.size w wr)) (fun i _ _ => l.length - (intOf i).toNat)
    case atStart => exact ⟨0, x, Nat.zero_le _, rfl, rfl, hz, g1, g2, hb⟩
    case round =>
      clear g1 g2 hb hz
      obtain ⟨k, last, hk, rfl, rfl, hrn, g1, g2, hb⟩ := hrel
      by_cases hlt : k < l.length
      · have hSw := hS.out.below hb.out
        obtain ⟨b, o, rfl, hbl, e0, e1⟩ := stops_at hSw.rows hlt
        obtain ⟨A1, c1, hrun, hrg⟩ := hSw.head (k := k) (by omega)
        have hlen : (l.take k).length = k := by rw [List.length_take]; omega
        have hst := fun w2 (hl2 : Hols w2 A p.hols) (hT2 : Tab w2) (hI2 : IntArg w2 O d order) (hS2 : RowsAt w2 A1 2 ((l.take k).map Stp.cells)) => checkStop_any A c p O d order A1 c1 (l.take k) l[k] x y w2 hl2 hT2 hI2 hs hS2 (by omega)
        rw [hlen] at hst
        have hok := fun hs => Cal.rndTo_ok hrn.out hlt hs
        have her := fun hs => Cal.rndTo_err hrn.out hlt hs
        clear hSw hlen
        generalize l[k] = s at *
        by_cases hE : Cal.stopE p order (l.take k) s x y = 0
        · rw [hE] at hst
          have hnx := Lib.hid (hok hE)
          have hst := Lib.hid hst
          clear hok her hE
          go_wp2_with fail
          have hbn := below_alloc wr (.cells #[.int .i64 s.mon, .int .i64 s.day] 89)
          have b3 := Lib.hid (BoxAt.new wr #[.int .i64 s.mon, .int .i64 s.day] 89)
          have hrg := Lib.hid (hrg.below hbn)
          have g1 := Lib.hid (g1.out.below hbn)
          have g2 := Lib.hid (g2.out.below hbn)
          have hb := Lib.hid (below_step hb.out hbn)
          clear hbn
          generalize hwr1 : wr.alloc (.cells #[.int .i64 s.mon, .int .i64 s.day] 89) = wr1 at *
          have hdr : Below wr1.heap.size wr1 wr1.drew := (Below.refl _ _).drew
          have g1 := Lib.hid (g1.out.below hdr)
          have g2 := Lib.hid (g2.out.below hdr)
          have b3 := Lib.hid (b3.out.below hdr)
          have hrg := Lib.hid (hrg.out.below hdr)
          have hb := Lib.hid (below_step hb.out hdr)
          refine wp_region_held_drew (S := (fun w' => BoxAt w' w.heap.size [.int .i64 p.runs.m, .int .i64 p.runs.d, .bool p.runs.k, .int .i64 p.obj.m, .int .i64 p.obj.d, .bool p.obj.k, .int .i64 p.wait.m, .int .i64 p.wait.d, .bool p.wait.k, .int .i64 p.exts, .int .i64 p.longest, .slice A p.hols.length c] ∧ w'.cell? ⟨wr.heap.size, 0, none⟩ = some (.int .i64 s.mon) ∧ w'.cell? ⟨wr.heap.size, 1, none⟩ = some (.int .i64 s.day) ∧ w'.cell? ⟨w.heap.size + 1, 0, none⟩ = some (.int .i64 x) ∧ w'.cell? ⟨w.heap.size + 1, 1, none⟩ = some (.int .i64 y))) (by kernel_rfl) ⟨g1.out, b3.out.c 0 _ rfl, b3.out.c 1 _ rfl, g2.out.c 0 _ rfl, g2.out.c 1 _ rfl⟩ (fun hHeld => ?_)
          generalize hwd : wr1.drew = wd at *
          (refine wpAnyH_take (i := 0) (v := _) rfl (by kernel_rfl) (by decide +kernel) (by decide +kernel) (fun _ _ _ h => h) (yieldsIf_load_mid (by kernel_rfl) 71 _ rfl (w.heap.size) 0 (by kernel_rfl) [.int .i64 p.runs.m, .int .i64 p.runs.d, .bool p.runs.k, .int .i64 p.obj.m, .int .i64 p.obj.d, .bool p.obj.k, .int .i64 p.wait.m, .int .i64 p.wait.d, .bool p.wait.k, .int .i64 p.exts, .int .i64 p.longest, .slice A p.hols.length c] _ (fun _ h => h.1.range) Tryz.underlying71 rfl prSize) (by assumption) ?_; (try simp only [Act.put, List.setIfInBounds_toArray]); (try simp only [List.set_cons_zero, List.set_cons_succ]))
          (refine tkH 1 (v := ?_) ?_ ?_; rotate_left; focus (intro w' hSw; (try dsimp only at hSw); go_simp; (try with_reducible rfl)); (try simp only [Act.put, List.setIfInBounds_toArray, List.set_cons_zero, List.set_cons_succ]))
          (refine tkH 2 (v := ?_) ?_ ?_; rotate_left; focus (intro w' hSw; (try dsimp only at hSw); go_simp; (try with_reducible rfl)); (try simp only [Act.put, List.setIfInBounds_toArray, List.set_cons_zero, List.set_cons_succ]))
          (refine tkH 3 (v := ?_) ?_ ?_; rotate_left; focus (intro w' hSw; (try dsimp only at hSw); go_simp; (try with_reducible rfl)); (try simp only [Act.put, List.setIfInBounds_toArray, List.set_cons_zero, List.set_cons_succ]))
          (refine tkH 4 (v := ?_) ?_ ?_; rotate_left; focus (intro w' hSw; (try dsimp only at hSw); go_simp; (try with_reducible rfl)); (try simp only [Act.put, List.setIfInBounds_toArray, List.set_cons_zero, List.set_cons_succ]))
          (refine tkH 5 (v := ?_) ?_ ?_; rotate_left; focus (intro w' hSw; (try dsimp only at hSw); go_simp; (try with_reducible rfl)); (try simp only [Act.put, List.setIfInBounds_toArray, List.set_cons_zero, List.set_cons_succ]))
          (refine tkH 6 (v := ?_) ?_ ?_; rotate_left; focus (intro w' hSw; (try dsimp only at hSw); go_simp; (try with_reducible rfl)); (try simp only [Act.put, List.setIfInBounds_toArray, List.set_cons_zero, List.set_cons_succ]))
          (refine wpAnyH_ready (rs := [7]) (by decide +kernel) (by simp) ?_; refine AllReadyH.cons rfl (fun K hK => ?_) AllReadyH.nil; rw [if_pos (by kernel_rfl)]; go_simp)
          refine (hst.out _ (hl.out.below hb.out) (hT.out.below hb.out) (hI.out.below hb.out) hrg.out).mono ?_
          rintro e w5 ⟨rfl, hbn⟩
          have g1 := Lib.hid (g1.out.below hbn)
          have g2 := Lib.hid (g2.out.below hbn)
          have b3 := Lib.hid (b3.out.below hbn)
          have hb := Lib.hid (below_step hb.out hbn)
          clear hbn
          go_simp
          (refine hK.out _ _ ⟨g1.out, b3.out.c 0 _ rfl, b3.out.c 1 _ rfl, g2.out.c 0 _ rfl, g2.out.c 1 _ rfl⟩ (fun hHeld => ?_); clear hK K; (try simp only [Act.put, List.setIfInBounds_toArray]); (try simp only [List.set_cons_zero, List.set_cons_succ]))
          (refine tkH 8 (v := ?_) ?_ ?_; rotate_left; focus (intro w' hSw; (try dsimp only at hSw); go_simp; (try with_reducible rfl)); (try simp only [Act.put, List.setIfInBounds_toArray, List.set_cons_zero, List.set_cons_succ]))
          refine wpAnyH_done (by kernel_rfl) ?_ _
          clear hHeld hrun
          have u1 := b3.out.c 1 _ rfl
          clear hwr1 hwd
          go_wp2_with fail
          go_roundw
          case rel => exact ⟨k + 1, _, by omega, by go_num, rfl, hnx, g1, g2, hb⟩
          case measure => simp [intOf]; omega
        · have hE1 : (Cal.stopE p order (l.take k) s x y != 0) = true := by simpa using hE
          have hfin : Hid (Cal.rndS p order l x y = (0, Cal.stopE p order (l.take k) s x y)) := by
            show _ = _
            have h1 := her hE
            have h2 : ¬ (Cal.rndTo p order x y l (k + 1)).2 = 0 := by rw [h1]; exact hE
            rw [hR.out, Cal.rndTo_bad h2 l.length (by omega), if_neg h2, h1]
          have hst := Lib.hid hst
          clear hok her hE hR
          go_wp2_with fail
          have hbn := below_alloc wr (.cells #[.int .i64 s.mon, .int .i64 s.day] 89)
          have b3 := Lib.hid (BoxAt.new wr #[.int .i64 s.mon, .int .i64 s.day] 89)
          have hrg := Lib.hid (hrg.below hbn)
          have g1 := Lib.hid (g1.out.below hbn)
          have g2 := Lib.hid (g2.out.below hbn)
          have hb := Lib.hid (below_step hb.out hbn)
          clear hbn
          generalize hwr1 : wr.alloc (.cells #[.int .i64 s.mon, .int .i64 s.day] 89) = wr1 at *
          have hdr : Below wr1.heap.size wr1 wr1.drew := (Below.refl _ _).drew
          have g1 := Lib.hid (g1.out.below hdr)
          have g2 := Lib.hid (g2.out.below hdr)
          have b3 := Lib.hid (b3.out.below hdr)
          have hrg := Lib.hid (hrg.out.below hdr)
          have hb := Lib.hid (below_step hb.out hdr)
          refine wp_region_held_drew (S := (fun w' => BoxAt w' w.heap.size [.int .i64 p.runs.m, .int .i64 p.runs.d, .bool p.runs.k, .int .i64 p.obj.m, .int .i64 p.obj.d, .bool p.obj.k, .int .i64 p.wait.m, .int .i64 p.wait.d, .bool p.wait.k, .int .i64 p.exts, .int .i64 p.longest, .slice A p.hols.length c] ∧ w'.cell? ⟨wr.heap.size, 0, none⟩ = some (.int .i64 s.mon) ∧ w'.cell? ⟨wr.heap.size, 1, none⟩ = some (.int .i64 s.day) ∧ w'.cell? ⟨w.heap.size + 1, 0, none⟩ = some (.int .i64 x) ∧ w'.cell? ⟨w.heap.size + 1, 1, none⟩ = some (.int .i64 y))) (by kernel_rfl) ⟨g1.out, b3.out.c 0 _ rfl, b3.out.c 1 _ rfl, g2.out.c 0 _ rfl, g2.out.c 1 _ rfl⟩ (fun hHeld => ?_)
          generalize hwd : wr1.drew = wd at *
          (refine wpAnyH_take (i := 0) (v := _) rfl (by kernel_rfl) (by decide +kernel) (by decide +kernel) (fun _ _ _ h => h) (yieldsIf_load_mid (by kernel_rfl) 71 _ rfl (w.heap.size) 0 (by kernel_rfl) [.int .i64 p.runs.m, .int .i64 p.runs.d, .bool p.runs.k, .int .i64 p.obj.m, .int .i64 p.obj.d, .bool p.obj.k, .int .i64 p.wait.m, .int .i64 p.wait.d, .bool p.wait.k, .int .i64 p.exts, .int .i64 p.longest, .slice A p.hols.length c] _ (fun _ h => h.1.range) Tryz.underlying71 rfl prSize) (by assumption) ?_; (try simp only [Act.put, List.setIfInBounds_toArray]); (try simp only [List.set_cons_zero, List.set_cons_succ]))
          (refine tkH 1 (v := ?_) ?_ ?_; rotate_left; focus (intro w' hSw; (try dsimp only at hSw); go_simp; (try with_reducible rfl)); (try simp only [Act.put, List.setIfInBounds_toArray, List.set_cons_zero, List.set_cons_succ]))
          (refine tkH 2 (v := ?_) ?_ ?_; rotate_left; focus (intro w' hSw; (try dsimp only at hSw); go_simp; (try with_reducible rfl)); (try simp only [Act.put, List.setIfInBounds_toArray, List.set_cons_zero, List.set_cons_succ]))
          (refine tkH 3 (v := ?_) ?_ ?_; rotate_left; focus (intro w' hSw; (try dsimp only at hSw); go_simp; (try with_reducible rfl)); (try simp only [Act.put, List.setIfInBounds_toArray, List.set_cons_zero, List.set_cons_succ]))
          (refine tkH 4 (v := ?_) ?_ ?_; rotate_left; focus (intro w' hSw; (try dsimp only at hSw); go_simp; (try with_reducible rfl)); (try simp only [Act.put, List.setIfInBounds_toArray, List.set_cons_zero, List.set_cons_succ]))
          (refine tkH 5 (v := ?_) ?_ ?_; rotate_left; focus (intro w' hSw; (try dsimp only at hSw); go_simp; (try with_reducible rfl)); (try simp only [Act.put, List.setIfInBounds_toArray, List.set_cons_zero, List.set_cons_succ]))
          (refine tkH 6 (v := ?_) ?_ ?_; rotate_left; focus (intro w' hSw; (try dsimp only at hSw); go_simp; (try with_reducible rfl)); (try simp only [Act.put, List.setIfInBounds_toArray, List.set_cons_zero, List.set_cons_succ]))
          (refine wpAnyH_ready (rs := [7]) (by decide +kernel) (by simp) ?_; refine AllReadyH.cons rfl (fun K hK => ?_) AllReadyH.nil; rw [if_pos (by kernel_rfl)]; go_simp)
          refine (hst.out _ (hl.out.below hb.out) (hT.out.below hb.out) (hI.out.below hb.out) hrg.out).mono ?_
          rintro e w5 ⟨rfl, hbn⟩
          have g1 := Lib.hid (g1.out.below hbn)
          have g2 := Lib.hid (g2.out.below hbn)
          have b3 := Lib.hid (b3.out.below hbn)
          have hb := Lib.hid (below_step hb.out hbn)
          clear hbn
          go_simp
          (refine hK.out _ _ ⟨g1.out, b3.out.c 0 _ rfl, b3.out.c 1 _ rfl, g2.out.c 0 _ rfl, g2.out.c 1 _ rfl⟩ (fun hHeld => ?_); clear hK K; (try simp only [Act.put, List.setIfInBounds_toArray]); (try simp only [List.set_cons_zero, List.set_cons_succ]))
          (refine tkH 8 (v := ?_) ?_ ?_; rotate_left; focus (intro w' hSw; (try dsimp only at hSw); go_simp; (try with_reducible rfl)); (try simp only [Act.put, List.setIfInBounds_toArray, List.set_cons_zero, List.set_cons_succ]))
          refine wpAnyH_done (by kernel_rfl) ?_ _
          clear hHeld hrun
          have u1 := b3.out.c 1 _ rfl
          clear hwr1 hwd
          go_wp2_with fail
          go_ret2
          exact ⟨by rw [hfin.out]; first | done | rfl, hb.out⟩
      · obtain rfl : k = l.length := by omega
        by_cases hlo : l.length < order.length
        · have hfin : Hid (Cal.rndS p order l x y = (0, 14)) := by show _ = _; rw [hR.out, hrn.out, if_pos rfl, if_pos hlo]
          clear hR
          go_wp2_with fail
          go_ret2
          exact ⟨by rw [hfin.out]; first | done | rfl, hb.out⟩
        · have hfin : Hid (Cal.rndS p order l x y = (last, 0)) := by show _ = _; rw [hR.out, hrn.out, if_pos rfl, if_neg hlo]
          clear hR
          go_wp2_with fail
          go_ret2
          exact ⟨by rw [hfin.out]; first | done | rfl, hb.out⟩
  · have hp1 : (Cal.planE p order x y != 0) = true := by simpa using h0
    have hfin : Hid (Cal.rndS p order l x y = (0, Cal.planE p order x y)) := if_neg h0
    clear h0
    have k0 := g2.out.c 0 _ rfl
    have k1 := g2.out.c 1 _ rfl
    go_enter Tryz.func43, Tryz.ntmps43
    go_wp2_with (refine wpPr g1.out (.tmp 4) rfl ?_)
    refine (checkOrder_any A c p O d order x y _ (hl.out.below hb.out) (hT.out.below hb.out) (hI.out.below hb.out) hs).mono ?_
    rintro e w1 ⟨rfl, hbn⟩
    clear k0 k1
    have g1 := Lib.hid (g1.out.below hbn)
    have g2 := Lib.hid (g2.out.below hbn)
    have hb := Lib.hid (below_step hb.out hbn)
    clear hbn
    go_wp2_with fail
    go_ret2
    exact ⟨by rw [hfin.out]; first | done | rfl, hb.out⟩
end Go.Proofs.YtbinoelbjlgjkaaGreatDoor
namespace Go.Proofs.YtbinoelbjlgjkaaGreatDoor
open Go Go.RowKit
def PlanRPost (w : World) (r : Option (List Stp)) (e : Ending) (w' : World) : Prop := (match r with | some out => ∃ v, e = .returned (.tuple #[v, .bool true]) ∧ StpsL w' w.heap.size v out | none => e = .returned (.tuple #[.slice none 0 0, .bool false])) ∧ Below w.heap.size w w'
set_option maxRecDepth 100000 in
set_option maxHeartbeats 8000000 in
theorem PlanRoundR_any (A : Option Addr) (c : Nat) (p : Proc) (O : Option Addr) (d : Nat) (order : List Int) (x : Int) (yn : Nat) (w : World) (hl : Hols w A p.hols) (hI : IntArg w O d order) (h0 : Cal.planE p order x yn = 0) :
    Calls Tryz.prog 41 #[.agg #[.int .i64 p.runs.m, .int .i64 p.runs.d, .bool p.runs.k, .int .i64 p.obj.m, .int .i64 p.obj.d, .bool p.obj.k, .int .i64 p.wait.m, .int .i64 p.wait.d, .bool p.wait.k, .int .i64 p.exts, .int .i64 p.longest, .slice A p.hols.length c], .slice O order.length d, .agg #[.int .i64 x, .int .i64 (yn : Int)]] w (PlanRPost w (Cal.planS p.hols yn x order)) := by
  obtain ⟨g1, g2, hb⟩ := start2o w A c p x yn
  obtain ⟨hpe, hlen, _, x0, x1, y0, y1⟩ := Cal.planE_ok h0
  have hok := Cal.holsErr_ok (Cal.procErr_ok hpe).2.2.2.2.2.2.2
  have hl := Lib.hid hl
  have hI := Lib.hid hI
  clear h0 hpe
  have hR : Hid (Cal.planS p.hols yn x order = (Cal.planTo p.hols yn x order order.length).map (·.1)) := rfl
  have hz : Hid (Cal.planTo p.hols yn x order 0 = some ([], x)) := rfl
  have hv0 : Hid (StpsL (((w.alloc (.cells #[.int .i64 p.runs.m, .int .i64 p.runs.d, .bool p.runs.k, .int .i64 p.obj.m, .int .i64 p.obj.d, .bool p.obj.k, .int .i64 p.wait.m, .int .i64 p.wait.d, .bool p.wait.k, .int .i64 p.exts, .int .i64 p.longest, .slice A p.hols.length c] 71)).alloc (.cells #[.int .i64 x, .int .i64 (yn : Int)] 25))) (w.heap.size + 2) (.slice none 0 0) []) := OwnL.nil _ _ _ _
  have k0 := g2.out.c 0 _ rfl
  go_enter Tryz.func41, Tryz.ntmps41
  go_wp2_with fail
  clear k0
  go_loopw [10, 9, 8] (fun i dv v wr => ∃ (k : Nat) (day : Int) (out : List Stp), k ≤ order.length ∧ i = .int .i64 k ∧ dv = .int .i64 day ∧ Hid (Cal.planTo p.hols yn x order k = some (out, day)) ∧ Hid (StpsL wr (w.heap.size + 2) v out) ∧ Hid (BoxAt wr w.heap.size [.int .i64 p.runs.m, .int .i64 p.runs.d, .bool p.runs.k, .int .i64 p.obj.m, .int .i64 p.obj.d, .bool p.obj.k, .int .i64 p.wait.m, .int .i64 p.wait.d, .bool p.wait.k, .int .i64 p.exts, .int .i64 p.longest, .slice A p.hols.length c]) ∧ Hid (BoxAt wr (w.heap.size + 1) [.int .i64 x, .int .i64 (yn : Int)]) ∧ Hid (Below w.heap.size w wr)) (fun i _ _ _ => order.length - (intOf i).toNat)
  case atStart => exact ⟨0, x, [], Nat.zero_le _, rfl, rfl, hz, hv0, g1, g2, hb⟩
  case round =>
    clear g1 g2 hb hz hv0
    obtain ⟨k, day, out, hk, rfl, rfl, hpt, hv, g1, g2, hb⟩ := hrel
    by_cases hlt : k < order.length
    · have q1 := g2.out.c 1 _ rfl
      have p11 := g1.out.c 11 _ rfl
      obtain ⟨dd0, dd1⟩ := Cal.planTo_day x0 x1 hpt.out
      have hst := fun n hn => Cal.planTo_step (n := n) hpt.out hlt hn
      have hfl := fun hn => Cal.planTo_fail hpt.out hlt hn
      have hol : (out.map Stp.cells).length ≤ 60 := by rw [List.length_map, Cal.planTo_len hk hpt.out]; omega
      obtain ⟨b, o, rfl, hbl, e1⟩ := ints_at (hI.out.below hb.out).rows hlt
      generalize order[k] = z at *
      have hu : ∀ w', Below wr.heap.size wr w' → w'.cell? ⟨b, o + k, none⟩ = some (.int .i64 z) := fun w' hb' => (hb'.cell (p := ⟨b, o + k, none⟩) hbl).trans e1
      have hu := Lib.hid hu
      by_cases hm : k % yn = 0
      · have hm1 : ((k : Int) % (yn : Int) == 0) = true := by rw [← Int.natCast_emod, hm]; rfl
        have hnx : ∀ N, N = (if 0 < k then day + 1 else day) → Cal.nextD p.hols yn k day = Cal.addW p.hols N 0 := fun N hN => by unfold Cal.nextD; rw [if_pos hm, ← hN]
        clear hm
        by_cases hk0 : 0 < k
        · have hnx := hnx (day + 1) (by rw [if_pos hk0])
          by_cases h2 : day + 1 ≤ 200000
          · cases hn : Cal.addW p.hols (day + 1) 0 with
            | none =>
              have hfin : Hid (Cal.planS p.hols yn x order = none) := by show _ = _; rw [hR.out, Cal.planTo_none (hfl (by rw [hnx, hn])) _ (by omega)]; rfl
              clear hst hfl hnx hR
              have hAR : ∀ w1, Hols w1 A p.hols → Calls Tryz.prog 110 #[.slice A p.hols.length c, .int .i64 (day + 1), .int .i64 0] w1 fun e w' => e = .returned (.tuple #[.int .i64 0, .bool false]) ∧ Below w1.heap.size w1 w' := fun w1 hl1 => (AddWorkingR_any A c p.hols hok.1 (day + 1) 0 (by omega) (by omega) (by omega) (by omega) w1 hl1).mono (by rintro e w' ⟨he, hb⟩; rw [hn] at he; exact ⟨he, hb⟩)
              have hAR := Lib.hid hAR
              clear hn
              go_wp2_with (((first | (go_at_call 123) | (go_at_call 92) | (go_at_call 126) | (go_at_call 29) | (go_at_call 222) | (fail) | (go_at_call 127)); first | refine rin ?_ | refine rout ?_ | refine rany ?_))
              refine (hAR.out _ (hl.out.below hb.out)).mono ?_
              rintro e w2 ⟨rfl, hbn⟩
              clear e1 q1 p11
              have e1 := hu.out _ hbn
              have hv := Lib.hid (OwnL.below hv.out hbn)
              have g1 := Lib.hid (g1.out.below hbn)
              have g2 := Lib.hid (g2.out.below hbn)
              have hb := Lib.hid (below_step hb.out hbn)
              clear hbn
              go_wp2_with fail
              go_ret2
              rw [hfin.out]
              exact ⟨rfl, hb.out⟩
            | some n =>
              have hs2 := Lib.hid (hst n (by rw [hnx, hn]))
              clear hst hfl hnx hR
              have hAR : ∀ w1, Hols w1 A p.hols → Calls Tryz.prog 110 #[.slice A p.hols.length c, .int .i64 (day + 1), .int .i64 0] w1 fun e w' => e = .returned (.tuple #[.int .i64 n, .bool true]) ∧ Below w1.heap.size w1 w' := fun w1 hl1 => (AddWorkingR_any A c p.hols hok.1 (day + 1) 0 (by omega) (by omega) (by omega) (by omega) w1 hl1).mono (by rintro e w' ⟨he, hb⟩; rw [hn] at he; exact ⟨he, hb⟩)
              have hAR := Lib.hid hAR
              clear hn
              go_wp2_with (((first | (go_at_call 123) | (go_at_call 92) | (go_at_call 126) | (go_at_call 29) | (go_at_call 222) | (fail) | (go_at_call 127)); first | refine rin ?_ | refine rout ?_ | refine rany ?_))
              refine (hAR.out _ (hl.out.below hb.out)).mono ?_
              rintro e w2 ⟨rfl, hbn⟩
              clear e1 q1 p11
              have e1 := hu.out _ hbn
              have hv := Lib.hid (OwnL.below hv.out hbn)
              have g1 := Lib.hid (g1.out.below hbn)
              have g2 := Lib.hid (g2.out.below hbn)
              have hb := Lib.hid (below_step hb.out hbn)
              clear hbn
              have ba := below_alloc w2 (.cells #[.int .i64 z, .int .i64 n] 89)
              have hsrc : Hid (RowsAt (w2.alloc (.cells #[.int .i64 z, .int .i64 n] 89)) (some ⟨w2.heap.size, 0, none⟩) 2 ([⟨z, n⟩].map Stp.cells)) := rowsAt_new w2 [.int .i64 z, .int .i64 n] 89
              have hv := Lib.hid (OwnL.below hv.out ba)
              have lz : w.heap.size + 2 ≤ (w2.alloc (.cells #[.int .i64 z, .int .i64 n] 89)).heap.size := by have := g2.out.lt; have := ba.size; omega
              have g1 := Lib.hid (g1.out.below ba)
              have g2 := Lib.hid (g2.out.below ba)
              have hb := Lib.hid (below_step hb.out ba)
              clear ba
              go_wp2_with (at_builtin; go_must (refine wpList_append_rows elemStop rfl _ _ rfl rfl rfl hv.out hsrc.out rfl (stp_wid _) (stp_one _) (by simp only [List.length_map, List.length_singleton] at hol ⊢; omega) (by decide) lz ?_); intro u5 w5 hown5 hg5 _; have hv5 := Lib.hid hown5; have g15 := Lib.hid (g1.out.grown hg5 (fun h => by have := (OwnL.lt hv.out _ h.symm).1; omega)); have g25 := Lib.hid (g2.out.grown hg5 (fun h => by have := (OwnL.lt hv.out _ h.symm).1; omega)); have hb5 := Lib.hid (hb.out.trans (grown_below hg5 (fun r h => by have := (OwnL.lt hv.out r h).1; omega) (by omega))); clear hg5 hown5)
              go_roundw
              case rel => exact ⟨k + 1, n, out ++ [⟨z, n⟩], by omega, by go_num, rfl, hs2, by show OwnL _ _ _ _ _ _; rw [List.map_append]; exact hv5.out, g15, g25, hb5⟩
              case measure => simp [intOf]; omega
          · have hn : Cal.addW p.hols (day + 1) 0 = none := Cal.addW_far (by omega)
            have hfin : Hid (Cal.planS p.hols yn x order = none) := by show _ = _; rw [hR.out, Cal.planTo_none (hfl (by rw [hnx, hn])) _ (by omega)]; rfl
            clear hst hfl hnx hR
            clear hn
            go_wp2_with (((first | (go_at_call 123) | (go_at_call 92) | (go_at_call 126) | (go_at_call 29) | (go_at_call 222) | (fail) | (go_at_call 127)); first | refine rin ?_ | refine rout ?_ | refine rany ?_))
            go_ret2
            rw [hfin.out]
            exact ⟨rfl, hb.out⟩
        · have hnx := hnx day (by rw [if_neg hk0])
          cases hn : Cal.addW p.hols day 0 with
          | none =>
            have hfin : Hid (Cal.planS p.hols yn x order = none) := by show _ = _; rw [hR.out, Cal.planTo_none (hfl (by rw [hnx, hn])) _ (by omega)]; rfl
            clear hst hfl hnx hR
            have hAR : ∀ w1, Hols w1 A p.hols → Calls Tryz.prog 110 #[.slice A p.hols.length c, .int .i64 (day), .int .i64 0] w1 fun e w' => e = .returned (.tuple #[.int .i64 0, .bool false]) ∧ Below w1.heap.size w1 w' := fun w1 hl1 => (AddWorkingR_any A c p.hols hok.1 (day) 0 (by omega) (by omega) (by omega) (by omega) w1 hl1).mono (by rintro e w' ⟨he, hb⟩; rw [hn] at he; exact ⟨he, hb⟩)
            have hAR := Lib.hid hAR
            clear hn
            go_wp2_with (((first | (go_at_call 123) | (go_at_call 92) | (go_at_call 126) | (go_at_call 29) | (go_at_call 222) | (fail) | (go_at_call 127)); first | refine rin ?_ | refine rout ?_ | refine rany ?_))
            refine (hAR.out _ (hl.out.below hb.out)).mono ?_
            rintro e w2 ⟨rfl, hbn⟩
            clear e1 q1 p11
            have e1 := hu.out _ hbn
            have hv := Lib.hid (OwnL.below hv.out hbn)
            have g1 := Lib.hid (g1.out.below hbn)
            have g2 := Lib.hid (g2.out.below hbn)
            have hb := Lib.hid (below_step hb.out hbn)
            clear hbn
            go_wp2_with fail
            go_ret2
            rw [hfin.out]
            exact ⟨rfl, hb.out⟩
          | some n =>
            have hs2 := Lib.hid (hst n (by rw [hnx, hn]))
            clear hst hfl hnx hR
            have hAR : ∀ w1, Hols w1 A p.hols → Calls Tryz.prog 110 #[.slice A p.hols.length c, .int .i64 (day), .int .i64 0] w1 fun e w' => e = .returned (.tuple #[.int .i64 n, .bool true]) ∧ Below w1.heap.size w1 w' := fun w1 hl1 => (AddWorkingR_any A c p.hols hok.1 (day) 0 (by omega) (by omega) (by omega) (by omega) w1 hl1).mono (by rintro e w' ⟨he, hb⟩; rw [hn] at he; exact ⟨he, hb⟩)
            have hAR := Lib.hid hAR
            clear hn
            go_wp2_with (((first | (go_at_call 123) | (go_at_call 92) | (go_at_call 126) | (go_at_call 29) | (go_at_call 222) | (fail) | (go_at_call 127)); first | refine rin ?_ | refine rout ?_ | refine rany ?_))
            refine (hAR.out _ (hl.out.below hb.out)).mono ?_
            rintro e w2 ⟨rfl, hbn⟩
            clear e1 q1 p11
            have e1 := hu.out _ hbn
            have hv := Lib.hid (OwnL.below hv.out hbn)
            have g1 := Lib.hid (g1.out.below hbn)
            have g2 := Lib.hid (g2.out.below hbn)
            have hb := Lib.hid (below_step hb.out hbn)
            clear hbn
            have ba := below_alloc w2 (.cells #[.int .i64 z, .int .i64 n] 89)
            have hsrc : Hid (RowsAt (w2.alloc (.cells #[.int .i64 z, .int .i64 n] 89)) (some ⟨w2.heap.size, 0, none⟩) 2 ([⟨z, n⟩].map Stp.cells)) := rowsAt_new w2 [.int .i64 z, .int .i64 n] 89
            have hv := Lib.hid (OwnL.below hv.out ba)
            have lz : w.heap.size + 2 ≤ (w2.alloc (.cells #[.int .i64 z, .int .i64 n] 89)).heap.size := by have := g2.out.lt; have := ba.size; omega
            have g1 := Lib.hid (g1.out.below ba)
            have g2 := Lib.hid (g2.out.below ba)
            have hb := Lib.hid (below_step hb.out ba)
            clear ba
            go_wp2_with (at_builtin; go_must (refine wpList_append_rows elemStop rfl _ _ rfl rfl rfl hv.out hsrc.out rfl (stp_wid _) (stp_one _) (by simp only [List.length_map, List.length_singleton] at hol ⊢; omega) (by decide) lz ?_); intro u5 w5 hown5 hg5 _; have hv5 := Lib.hid hown5; have g15 := Lib.hid (g1.out.grown hg5 (fun h => by have := (OwnL.lt hv.out _ h.symm).1; omega)); have g25 := Lib.hid (g2.out.grown hg5 (fun h => by have := (OwnL.lt hv.out _ h.symm).1; omega)); have hb5 := Lib.hid (hb.out.trans (grown_below hg5 (fun r h => by have := (OwnL.lt hv.out r h).1; omega) (by omega))); clear hg5 hown5)
            go_roundw
            case rel => exact ⟨k + 1, n, out ++ [⟨z, n⟩], by omega, by go_num, rfl, hs2, by show OwnL _ _ _ _ _ _; rw [List.map_append]; exact hv5.out, g15, g25, hb5⟩
            case measure => simp [intOf]; omega
      · have hm1 : ((k : Int) % (yn : Int) == 0) = false := by rw [← Int.natCast_emod]; simp; omega
        have hn : Cal.nextD p.hols yn k day = some day := by unfold Cal.nextD; rw [if_neg hm]
        have hnx : True := trivial
        have hs2 := Lib.hid (hst day (hn))
        clear hst hfl hnx hR
        clear hm hn
        have ba := below_alloc wr (.cells #[.int .i64 z, .int .i64 day] 89)
        have hsrc : Hid (RowsAt (wr.alloc (.cells #[.int .i64 z, .int .i64 day] 89)) (some ⟨wr.heap.size, 0, none⟩) 2 ([⟨z, day⟩].map Stp.cells)) := rowsAt_new wr [.int .i64 z, .int .i64 day] 89
        have hv := Lib.hid (OwnL.below hv.out ba)
        have lz : w.heap.size + 2 ≤ (wr.alloc (.cells #[.int .i64 z, .int .i64 day] 89)).heap.size := by have := g2.out.lt; have := ba.size; omega
        have g1 := Lib.hid (g1.out.below ba)
        have g2 := Lib.hid (g2.out.below ba)
        have hb := Lib.hid (below_step hb.out ba)
        clear ba
        go_wp2_with (at_builtin; go_must (refine wpList_append_rows elemStop rfl _ _ rfl rfl rfl hv.out hsrc.out rfl (stp_wid _) (stp_one _) (by simp only [List.length_map, List.length_singleton] at hol ⊢; omega) (by decide) lz ?_); intro u5 w5 hown5 hg5 _; have hv5 := Lib.hid hown5; have g15 := Lib.hid (g1.out.grown hg5 (fun h => by have := (OwnL.lt hv.out _ h.symm).1; omega)); have g25 := Lib.hid (g2.out.grown hg5 (fun h => by have := (OwnL.lt hv.out _ h.symm).1; omega)); have hb5 := Lib.hid (hb.out.trans (grown_below hg5 (fun r h => by have := (OwnL.lt hv.out r h).1; omega) (by omega))); clear hg5 hown5)
        go_roundw
        case rel => exact ⟨k + 1, day, out ++ [⟨z, day⟩], by omega, by go_num, rfl, hs2, by show OwnL _ _ _ _ _ _; rw [List.map_append]; exact hv5.out, g15, g25, hb5⟩
        case measure => simp [intOf]; omega
    · obtain rfl : k = order.length := by omega
      have hfin : Hid (Cal.planS p.hols yn x order = some out) := by show _ = _; rw [hR.out, hpt.out]; rfl
      go_wp2_with fail
      go_ret2
      rw [hfin.out]
      exact ⟨⟨_, rfl, OwnL.less hv.out (by omega)⟩, hb.out⟩
theorem SameStops_any (A B : Option Addr) (c d : Nat) (l : List Stp) (w : World) (hA : RowsAt w A 2 (l.map Stp.cells)) (hB : RowsAt w B 2 (l.map Stp.cells)) (hs : l.length ≤ 1000000) :
    Calls Tryz.prog 42 #[.slice A l.length c, .slice B l.length d] w fun e w' => e = .returned (.bool true) ∧ Below w.heap.size w w' := by
  have hA' := Lib.hid hA
  have hB' := Lib.hid hB
  clear hA hB
  go_enter Tryz.func42, Tryz.ntmps42
  go_wp2
  go_loopw [5] (fun i wr => ∃ (k n : Nat), k ≤ l.length ∧ i = .int .i64 k ∧ wr = w.drewN n) (fun i _ => l.length - (intOf i).toNat)
  case atStart => exact ⟨0, 0, Nat.zero_le _, rfl, rfl⟩
  case round =>
    obtain ⟨k, n, hk, rfl, rfl⟩ := hrel
    by_cases hlt : k < l.length
    · have hk' : (l.map Stp.cells)[k]? = some l[k].cells := by simp [List.getElem?_eq_getElem hlt]
      obtain ⟨b, o, rfl, hbl, hc⟩ := hA'.out _ _ hk'
      obtain ⟨b', o', rfl, hbl', hc'⟩ := hB'.out _ _ hk'
      have c0 := hc 0 _ rfl
      have c1 := hc 1 _ rfl
      have d0 := hc' 0 _ rfl
      have d1 := hc' 1 _ rfl
      generalize l[k] = p at *
      simp only [Nat.add_zero, ← Nat.add_assoc] at c0 c1 d0 d1
      clear hk' hc hc'
      go_wp2_with fail
      go_quiet (fail)
      go_wp2_with fail
      go_roundw
      case rel => exact ⟨k + 1, _, by omega, by go_num, rfl⟩
      case measure => simp [intOf]; omega
    · obtain rfl : k = l.length := by omega
      go_wp2
      go_ret
      exact ⟨rfl, below_drewN (Below.refl _ _) _⟩
end Go.Proofs.YtbinoelbjlgjkaaGreatDoor
