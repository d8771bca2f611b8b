/- Chapter 8 and what it rests on: definitions and walks, part 33. -/
import Derived.Test.YtbegbajlagcbdaaGreatDoorC32
import Derived.Deep.RegionHeld3
namespace Go.Proofs.YtbegbajlagcbdaaGreatDoor
open Go Go.RowKit
theorem HasM_any (V : Option Addr) (c : Nat) (zs : List Int) (d : Int) (w : World) (h : RowsAt w V 1 (intRows zs)) (hs : zs.length ≤ 1000000) :
    Calls Tryz.prog 17 #[.slice V zs.length c, .int .i64 d] w fun e w' => e = .returned (.bool (memI d zs)) ∧ w = w' := HasI_any V c zs d w h hs
theorem hasM_mem (m : Int) (l : List Stp) : memI m (l.map (·.mon)) = Cal.hasM m l := by
  unfold memI Cal.hasM
  rw [Bool.eq_iff_iff, decide_eq_true_iff, List.any_eq_true, List.mem_map]
  constructor
  · rintro ⟨s, h1, h2⟩; exact ⟨s, h1, by simpa using h2⟩
  · rintro ⟨s, h1, h2⟩; exact ⟨s, h1, by simpa using h2⟩
def hasMons (w : World) (B : Nat) (v : Value) (l : List Stp) : Prop := IntsL w B v (l.map (·.mon))
set_option maxRecDepth 100000 in
set_option maxHeartbeats 8000000 in
theorem CheckRoundR_any (A : Option Addr) (c : Nat) (p : Proc) (O : Option Addr) (d : Nat) (order : List Int) (S : Option Addr) (f : Nat) (l : List Stp) (x : Int) (yn : Nat) (w : World) (hl : Hols w A p.hols) (hI : IntArg w O d order) (hS : StopArg w S f l) (hsl : l.length ≤ 100) (h0 : Cal.planE p order x yn = 0) :
    Calls Tryz.prog 26 #[.agg #[.int .i64 p.runs.m, .int .i64 p.runs.d, .bool p.runs.k, .int .i64 p.obj.m, .int .i64 p.obj.d, .bool p.obj.k, .int .i64 p.wait.m, .int .i64 p.wait.d, .bool p.wait.k, .int .i64 p.exts, .int .i64 p.longest, .slice A p.hols.length c], .slice O order.length d, .slice S l.length f, .agg #[.int .i64 x, .int .i64 (yn : Int)]] w (IEPost w (Cal.rndS p order l x yn)) := by
  obtain ⟨g1, g2, hb⟩ := start2o w A c p x yn
  obtain ⟨hpe, hlen, _, x0, x1, y0, y1⟩ := Cal.planE_ok h0
  have hh := (Cal.procErr_ok hpe).2.2.2.2.2.2.2
  have hok := Cal.holsErr_ok hh
  have hl := Lib.hid hl
  have hI := Lib.hid hI
  have hS := Lib.hid hS
  have hR : Hid (Cal.rndS p order l x yn = if (Cal.rndTo p order x yn l l.length).2 = 0 then (if l.length < order.length then (0, 14) else Cal.rndTo p order x yn l l.length) else Cal.rndTo p order x yn l l.length) := if_pos h0
  have hz : Hid (Cal.rndTo p order x yn l 0 = (x, 0)) := rfl
  have hv0 : Hid (IntsL (((w.alloc (.cells #[.int .i64 p.runs.m, .int .i64 p.runs.d, .bool p.runs.k, .int .i64 p.obj.m, .int .i64 p.obj.d, .bool p.obj.k, .int .i64 p.wait.m, .int .i64 p.wait.d, .bool p.wait.k, .int .i64 p.exts, .int .i64 p.longest, .slice A p.hols.length c] 47)).alloc (.cells #[.int .i64 x, .int .i64 (yn : Int)] 49))) (w.heap.size + 2) (.slice none 0 0) ((l.take 0).map (·.mon))) := OwnL.nil _ _ _ _
  clear h0 hpe
  have k0 := g2.out.c 0 _ rfl
  go_enter Tryz.func26, Tryz.ntmps26
  go_wp2_with fail
  clear k0
  go_loopw [12, 11, 10] (fun i v dv wr => ∃ (k : Nat) (last : Int), k ≤ l.length ∧ i = .int .i64 k ∧ dv = .int .i64 last ∧ Hid (Cal.rndTo p order x yn l k = (last, 0)) ∧ Hid (IntsL wr (w.heap.size + 2) v ((l.take k).map (·.mon))) ∧ Hid (BoxAt wr w.heap.size [.int .i64 p.runs.m, .int .i64 p.runs.d, .bool p.runs.k, .int .i64 p.obj.m, .int .i64 p.obj.d, .bool p.obj.k, .int .i64 p.wait.m, .int .i64 p.wait.d, .bool p.wait.k, .int .i64 p.exts, .int .i64 p.longest, .slice A p.hols.length c]) ∧ Hid (BoxAt wr (w.heap.size + 1) [.int .i64 x, .int .i64 (yn : Int)]) ∧ Hid (Below w.heap.size w wr)) (fun i _ _ _ => l.length - (intOf i).toNat)
  case atStart => exact ⟨0, x, Nat.zero_le _, rfl, rfl, hz, hv0, g1, g2, hb⟩
  case round =>
    clear g1 g2 hb hz hv0
    obtain ⟨k, last, hk, rfl, rfl, hrn, hv, g1, g2, hb⟩ := hrel
    by_cases hlt : k < l.length
    · obtain ⟨b, o, rfl, hbl, e0', e1'⟩ := stops_at hS.out.rows hlt
      have her := fun hs => Cal.rndTo_err hrn.out hlt hs
      have hokk := fun hs => Cal.rndTo_ok hrn.out hlt hs
      have htk := Lib.hid (List.take_succ_eq_append_getElem hlt)
      generalize l[k] = s at *
      have e0' := Lib.hid e0'
      have e1' := Lib.hid e1'
      obtain ⟨V, vc, rfl, hvr⟩ := IntsL.rows hv.out
      have hml : ((l.take k).map (·.mon)).length = k := by rw [List.length_map, List.length_take]; omega
      have hhas := fun w2 (h2 : RowsAt w2 V 1 (intRows ((l.take k).map (·.mon)))) => HasM_any V vc ((l.take k).map (·.mon)) s.mon w2 h2 (by omega)
      rw [hml, hasM_mem] at hhas
      simp only [hml]
      rw [hml] at hv
      have k0 := g2.out.c 0 _ rfl
      have k1 := g2.out.c 1 _ rfl
      have e0 := (hb.out.cell (p := ⟨b, o + k * 2, none⟩) hbl).trans e0'.out
      have e1 := (hb.out.cell (p := ⟨b, o + k * 2 + 1, none⟩) hbl).trans e1'.out
      have hfin0 : ∀ E, Cal.stopE p order (l.take k) s x yn = E → ¬ E = 0 → Cal.rndS p order l x yn = (0, E) := fun E hE hne => by
        have h1 := her (by rw [hE]; exact hne)
        have h2 : ¬ (Cal.rndTo p order x yn l (k + 1)).2 = 0 := by rw [h1]; show ¬ Cal.stopE p order (l.take k) s x yn = 0; rw [hE]; exact hne
        rw [hR.out, Cal.rndTo_bad h2 l.length (by omega), if_neg h2, h1, hE]
      cases hm : memI s.mon order
      · have hfin : Hid (Cal.rndS p order l x yn = (0, 6)) := hfin0 6 (by unfold Cal.stopE; rw [hm]; rfl) (by decide)
        have hm := Lib.hid hm
        clear hfin0 her hokk hhas hR
        go_wp2_with fail
        refine (HasM_any O d order s.mon _ (hI.out.below hb.out).rows (by omega)).mono ?_
        rintro e w2 ⟨rfl, rfl⟩
        rw [hm.out]
        go_wp2_with fail
        go_ret2
        exact ⟨by rw [hfin.out]; first | done | rfl, hb.out⟩
      · cases hh2 : Cal.hasM s.mon (l.take k)
        · by_cases hday : 0 ≤ s.day ∧ s.day ≤ 200000
          · obtain ⟨d0, d1⟩ := hday
            have hwe : Cal.isWorkE p.hols s.day = 0 := by unfold Cal.isWorkE; rw [if_pos hh, if_pos ⟨d0, d1⟩]
            have hwb : Cal.isWorkB p.hols s.day = Cal.workB p.hols s.day := by unfold Cal.isWorkB; rw [if_pos hwe]
            have hX : Cal.stopE p order (l.take k) s x yn = (if s.day < x then 22 else (if Cal.workB p.hols s.day = true then (if (yn : Int) ≤ Cal.cntS s.day (l.take k) then 16 else 0) else 28)) := by unfold Cal.stopE; rw [hm, hh2, if_pos rfl, if_neg (by decide), if_pos hwe, hwb]
            have hm := Lib.hid hm
            have hh2 := Lib.hid hh2
            clear hwe hwb
            by_cases hx : s.day < x
            · have hfin : Hid (Cal.rndS p order l x yn = (0, 22)) := hfin0 22 (by rw [hX, if_pos hx]) (by decide)
              clear hfin0 her hokk hR hX
              go_wp2_with fail
              refine (HasM_any O d order s.mon _ (hI.out.below hb.out).rows (by omega)).mono ?_
              rintro e w2 ⟨rfl, rfl⟩
              rw [hm.out]
              go_wp2_with fail
              refine (hhas _ hvr).mono ?_
              rintro e w2 ⟨rfl, rfl⟩
              rw [hh2.out]
              clear hhas hvr
              go_wp2_with (((first | (go_at_call 134) | (go_at_call 59) | (go_at_call 133) | (go_at_call 14) | (go_at_call 178) | (fail) | (go_at_call 139)); first | refine rin ?_ | refine rout ?_ | refine rany ?_))
              have hdr := (Below.refl wr.heap.size wr).drew
              have g1 := Lib.hid (g1.out.below hdr)
              have g2 := Lib.hid (g2.out.below hdr)
              have hv := Lib.hid (IntsL.below hv.out hdr)
              have hb := Lib.hid (below_step hb.out hdr)
              clear hdr k0 k1 e0 e1
              have k0 := g2.out.c 0 _ rfl
              have k1 := g2.out.c 1 _ rfl
              have e0 := (hb.out.cell (p := ⟨b, o + k * 2, none⟩) hbl).trans e0'.out
              have e1 := (hb.out.cell (p := ⟨b, o + k * 2 + 1, none⟩) hbl).trans e1'.out
              refine wp_region_held_drew (S := (fun w' => w'.cell? ⟨w.heap.size, 11, none⟩ = some (.slice A p.hols.length c) ∧ w'.cell? ⟨w.heap.size + 1, 0, none⟩ = some (.int .i64 x) ∧ w'.cell? ⟨b, o + k * 2 + 1, none⟩ = some (.int .i64 s.day) ∧ w'.cell? ⟨b, o + k * 2, none⟩ = some (.int .i64 s.mon))) (by kernel_rfl) ⟨g1.out.c 11 _ rfl, k0, e1, e0⟩ (fun hHeld => ?_)
              generalize wr.drew = w3 at *
              (refine tkH 0 (v := ?_) ?_ ?_; rotate_left; focus (intro w' hSw; (try dsimp only at hSw); go_simp; (try with_reducible rfl)); (try simp only [Act.put, List.setIfInBounds_toArray, List.set_cons_zero, List.set_cons_succ]))
              (refine tkH 1 (v := ?_) ?_ ?_; rotate_left; focus (intro w' hSw; (try dsimp only at hSw); go_simp; (try with_reducible rfl)); (try simp only [Act.put, List.setIfInBounds_toArray, List.set_cons_zero, List.set_cons_succ]))
              (refine tkH 2 (v := ?_) ?_ ?_; rotate_left; focus (intro w' hSw; (try dsimp only at hSw); go_simp; (try with_reducible rfl)); (try simp only [Act.put, List.setIfInBounds_toArray, List.set_cons_zero, List.set_cons_succ]))
              (refine tkH 3 (v := ?_) ?_ ?_; rotate_left; focus (intro w' hSw; (try dsimp only at hSw); go_simp; (try with_reducible rfl)); (try simp only [Act.put, List.setIfInBounds_toArray, List.set_cons_zero, List.set_cons_succ]))
              (refine tkH 4 (v := ?_) ?_ ?_; rotate_left; focus (intro w' hSw; (try dsimp only at hSw); go_simp; (try with_reducible rfl)); (try simp only [Act.put, List.setIfInBounds_toArray, List.set_cons_zero, List.set_cons_succ]))
              (refine tkH 5 (v := ?_) ?_ ?_; rotate_left; focus (intro w' hSw; (try dsimp only at hSw); go_simp; (try with_reducible rfl)); (try simp only [Act.put, List.setIfInBounds_toArray, List.set_cons_zero, List.set_cons_succ]))
              (refine tkH 6 (v := ?_) ?_ ?_; rotate_left; focus (intro w' hSw; (try dsimp only at hSw); go_simp; (try with_reducible rfl)); (try simp only [Act.put, List.setIfInBounds_toArray, List.set_cons_zero, List.set_cons_succ]))
              (refine wpAnyH_ready (rs := [7]) (by decide +kernel) (by simp) ?_; refine AllReadyH.cons rfl (fun K hK => ?_) AllReadyH.nil; rw [if_pos (by kernel_rfl)]; go_simp)
              (refine hK.out _ _ ⟨g1.out.c 11 _ rfl, k0, e1, e0⟩ (fun hHeld => ?_); clear hK K; (try simp only [Act.put, List.setIfInBounds_toArray]); (try simp only [List.set_cons_zero, List.set_cons_succ]))
              refine wpAnyH_done (by kernel_rfl) ?_ _
              clear hHeld
              go_wp2_with fail
              go_ret2
              exact ⟨by rw [hfin.out]; first | done | rfl, hb.out⟩
            · cases hB : Cal.workB p.hols s.day
              · have hfin : Hid (Cal.rndS p order l x yn = (0, 28)) := hfin0 28 (by rw [hX, if_neg hx, if_neg (by rw [hB]; decide)]) (by decide)
                have hB := Lib.hid hB
                clear hfin0 her hokk hR hX
                go_wp2_with fail
                refine (HasM_any O d order s.mon _ (hI.out.below hb.out).rows (by omega)).mono ?_
                rintro e w2 ⟨rfl, rfl⟩
                rw [hm.out]
                go_wp2_with fail
                refine (hhas _ hvr).mono ?_
                rintro e w2 ⟨rfl, rfl⟩
                rw [hh2.out]
                clear hhas hvr
                go_wp2_with (((first | (go_at_call 134) | (go_at_call 59) | (go_at_call 133) | (go_at_call 14) | (go_at_call 178) | (fail) | (go_at_call 139)); first | refine rin ?_ | refine rout ?_ | refine rany ?_))
                have hdr := (Below.refl wr.heap.size wr).drew
                have g1 := Lib.hid (g1.out.below hdr)
                have g2 := Lib.hid (g2.out.below hdr)
                have hv := Lib.hid (IntsL.below hv.out hdr)
                have hb := Lib.hid (below_step hb.out hdr)
                clear hdr k0 k1 e0 e1
                have k0 := g2.out.c 0 _ rfl
                have k1 := g2.out.c 1 _ rfl
                have e0 := (hb.out.cell (p := ⟨b, o + k * 2, none⟩) hbl).trans e0'.out
                have e1 := (hb.out.cell (p := ⟨b, o + k * 2 + 1, none⟩) hbl).trans e1'.out
                refine wp_region_held_drew (S := (fun w' => w'.cell? ⟨w.heap.size, 11, none⟩ = some (.slice A p.hols.length c) ∧ w'.cell? ⟨w.heap.size + 1, 0, none⟩ = some (.int .i64 x) ∧ w'.cell? ⟨b, o + k * 2 + 1, none⟩ = some (.int .i64 s.day) ∧ w'.cell? ⟨b, o + k * 2, none⟩ = some (.int .i64 s.mon))) (by kernel_rfl) ⟨g1.out.c 11 _ rfl, k0, e1, e0⟩ (fun hHeld => ?_)
                generalize wr.drew = w3 at *
                (refine tkH 0 (v := ?_) ?_ ?_; rotate_left; focus (intro w' hSw; (try dsimp only at hSw); go_simp; (try with_reducible rfl)); (try simp only [Act.put, List.setIfInBounds_toArray, List.set_cons_zero, List.set_cons_succ]))
                (refine tkH 1 (v := ?_) ?_ ?_; rotate_left; focus (intro w' hSw; (try dsimp only at hSw); go_simp; (try with_reducible rfl)); (try simp only [Act.put, List.setIfInBounds_toArray, List.set_cons_zero, List.set_cons_succ]))
                (refine tkH 2 (v := ?_) ?_ ?_; rotate_left; focus (intro w' hSw; (try dsimp only at hSw); go_simp; (try with_reducible rfl)); (try simp only [Act.put, List.setIfInBounds_toArray, List.set_cons_zero, List.set_cons_succ]))
                (refine tkH 3 (v := ?_) ?_ ?_; rotate_left; focus (intro w' hSw; (try dsimp only at hSw); go_simp; (try with_reducible rfl)); (try simp only [Act.put, List.setIfInBounds_toArray, List.set_cons_zero, List.set_cons_succ]))
                (refine tkH 4 (v := ?_) ?_ ?_; rotate_left; focus (intro w' hSw; (try dsimp only at hSw); go_simp; (try with_reducible rfl)); (try simp only [Act.put, List.setIfInBounds_toArray, List.set_cons_zero, List.set_cons_succ]))
                (refine tkH 5 (v := ?_) ?_ ?_; rotate_left; focus (intro w' hSw; (try dsimp only at hSw); go_simp; (try with_reducible rfl)); (try simp only [Act.put, List.setIfInBounds_toArray, List.set_cons_zero, List.set_cons_succ]))
                (refine tkH 6 (v := ?_) ?_ ?_; rotate_left; focus (intro w' hSw; (try dsimp only at hSw); go_simp; (try with_reducible rfl)); (try simp only [Act.put, List.setIfInBounds_toArray, List.set_cons_zero, List.set_cons_succ]))
                (refine wpAnyH_ready (rs := [7]) (by decide +kernel) (by simp) ?_; refine AllReadyH.cons rfl (fun K hK => ?_) AllReadyH.nil; rw [if_pos (by kernel_rfl)]; go_simp)
                (refine hK.out _ _ ⟨g1.out.c 11 _ rfl, k0, e1, e0⟩ (fun hHeld => ?_); clear hK K; (try simp only [Act.put, List.setIfInBounds_toArray]); (try simp only [List.set_cons_zero, List.set_cons_succ]))
                refine wpAnyH_done (by kernel_rfl) ?_ _
                clear hHeld
                go_wp2_with fail
                have hdr := (Below.refl w3.heap.size w3).drew
                have g1 := Lib.hid (g1.out.below hdr)
                have g2 := Lib.hid (g2.out.below hdr)
                have hv := Lib.hid (IntsL.below hv.out hdr)
                have hb := Lib.hid (below_step hb.out hdr)
                clear hdr k0 k1 e0 e1
                have k0 := g2.out.c 0 _ rfl
                have k1 := g2.out.c 1 _ rfl
                have e0 := (hb.out.cell (p := ⟨b, o + k * 2, none⟩) hbl).trans e0'.out
                have e1 := (hb.out.cell (p := ⟨b, o + k * 2 + 1, none⟩) hbl).trans e1'.out
                refine wp_region_held_drew (S := (fun w' => w'.cell? ⟨w.heap.size, 11, none⟩ = some (.slice A p.hols.length c) ∧ w'.cell? ⟨w.heap.size + 1, 0, none⟩ = some (.int .i64 x) ∧ w'.cell? ⟨b, o + k * 2 + 1, none⟩ = some (.int .i64 s.day) ∧ w'.cell? ⟨b, o + k * 2, none⟩ = some (.int .i64 s.mon))) (by kernel_rfl) ⟨g1.out.c 11 _ rfl, k0, e1, e0⟩ (fun hHeld => ?_)
                generalize w3.drew = w4 at *
                (refine tkH 0 (v := ?_) ?_ ?_; rotate_left; focus (intro w' hSw; (try dsimp only at hSw); go_simp; (try with_reducible rfl)); (try simp only [Act.put, List.setIfInBounds_toArray, List.set_cons_zero, List.set_cons_succ]))
                (refine tkH 1 (v := ?_) ?_ ?_; rotate_left; focus (intro w' hSw; (try dsimp only at hSw); go_simp; (try with_reducible rfl)); (try simp only [Act.put, List.setIfInBounds_toArray, List.set_cons_zero, List.set_cons_succ]))
                (refine tkH 2 (v := ?_) ?_ ?_; rotate_left; focus (intro w' hSw; (try dsimp only at hSw); go_simp; (try with_reducible rfl)); (try simp only [Act.put, List.setIfInBounds_toArray, List.set_cons_zero, List.set_cons_succ]))
                (refine tkH 3 (v := ?_) ?_ ?_; rotate_left; focus (intro w' hSw; (try dsimp only at hSw); go_simp; (try with_reducible rfl)); (try simp only [Act.put, List.setIfInBounds_toArray, List.set_cons_zero, List.set_cons_succ]))
                (refine tkH 4 (v := ?_) ?_ ?_; rotate_left; focus (intro w' hSw; (try dsimp only at hSw); go_simp; (try with_reducible rfl)); (try simp only [Act.put, List.setIfInBounds_toArray, List.set_cons_zero, List.set_cons_succ]))
                (refine tkH 5 (v := ?_) ?_ ?_; rotate_left; focus (intro w' hSw; (try dsimp only at hSw); go_simp; (try with_reducible rfl)); (try simp only [Act.put, List.setIfInBounds_toArray, List.set_cons_zero, List.set_cons_succ]))
                (refine tkH 6 (v := ?_) ?_ ?_; rotate_left; focus (intro w' hSw; (try dsimp only at hSw); go_simp; (try with_reducible rfl)); (try simp only [Act.put, List.setIfInBounds_toArray, List.set_cons_zero, List.set_cons_succ]))
                (refine wpAnyH_ready (rs := [7]) (by decide +kernel) (by simp) ?_; refine AllReadyH.cons rfl (fun K hK => ?_) AllReadyH.nil; rw [if_pos (by kernel_rfl)]; go_simp)
                refine (IsWorkingR_any A c p.hols hok.1 s.day d0 d1 _ (hl.out.below hb.out)).mono ?_
                rintro e w5 ⟨rfl, hbn⟩
                rw [hB.out]
                have g1 := Lib.hid (g1.out.below hbn)
                have g2 := Lib.hid (g2.out.below hbn)
                have hv := Lib.hid (IntsL.below hv.out hbn)
                have hb := Lib.hid (below_step hb.out hbn)
                clear hbn k0 k1 e0 e1
                have k0 := g2.out.c 0 _ rfl
                have k1 := g2.out.c 1 _ rfl
                have e0 := (hb.out.cell (p := ⟨b, o + k * 2, none⟩) hbl).trans e0'.out
                have e1 := (hb.out.cell (p := ⟨b, o + k * 2 + 1, none⟩) hbl).trans e1'.out
                go_simp
                (refine hK.out _ _ ⟨g1.out.c 11 _ rfl, k0, e1, e0⟩ (fun hHeld => ?_); clear hK K; (try simp only [Act.put, List.setIfInBounds_toArray]); (try simp only [List.set_cons_zero, List.set_cons_succ]))
                (refine tkH 8 (v := ?_) ?_ ?_; rotate_left; focus (intro w' hSw; (try dsimp only at hSw); go_simp; (try with_reducible rfl)); (try simp only [Act.put, List.setIfInBounds_toArray, List.set_cons_zero, List.set_cons_succ]))
                refine wpAnyH_done (by kernel_rfl) ?_ _
                clear hHeld
                go_wp2_with fail
                go_ret2
                exact ⟨by rw [hfin.out]; first | done | rfl, hb.out⟩
              · rw [if_neg hx, if_pos hB] at hX
                have hB := Lib.hid hB
                have hXz := Lib.hid hX
                have hfin0 := Lib.hid hfin0
                have hokk := Lib.hid hokk
                clear hX her
                go_wp2_with fail
                refine (HasM_any O d order s.mon _ (hI.out.below hb.out).rows (by omega)).mono ?_
                rintro e w2 ⟨rfl, rfl⟩
                rw [hm.out]
                go_wp2_with fail
                refine (hhas _ hvr).mono ?_
                rintro e w2 ⟨rfl, rfl⟩
                rw [hh2.out]
                clear hhas hvr
                go_wp2_with (((first | (go_at_call 134) | (go_at_call 59) | (go_at_call 133) | (go_at_call 14) | (go_at_call 178) | (fail) | (go_at_call 139)); first | refine rin ?_ | refine rout ?_ | refine rany ?_))
                have hdr := (Below.refl wr.heap.size wr).drew
                have g1 := Lib.hid (g1.out.below hdr)
                have g2 := Lib.hid (g2.out.below hdr)
                have hv := Lib.hid (IntsL.below hv.out hdr)
                have hb := Lib.hid (below_step hb.out hdr)
                clear hdr k0 k1 e0 e1
                have k0 := g2.out.c 0 _ rfl
                have k1 := g2.out.c 1 _ rfl
                have e0 := (hb.out.cell (p := ⟨b, o + k * 2, none⟩) hbl).trans e0'.out
                have e1 := (hb.out.cell (p := ⟨b, o + k * 2 + 1, none⟩) hbl).trans e1'.out
                refine wp_region_held_drew (S := (fun w' => w'.cell? ⟨w.heap.size, 11, none⟩ = some (.slice A p.hols.length c) ∧ w'.cell? ⟨w.heap.size + 1, 0, none⟩ = some (.int .i64 x) ∧ w'.cell? ⟨b, o + k * 2 + 1, none⟩ = some (.int .i64 s.day) ∧ w'.cell? ⟨b, o + k * 2, none⟩ = some (.int .i64 s.mon))) (by kernel_rfl) ⟨g1.out.c 11 _ rfl, k0, e1, e0⟩ (fun hHeld => ?_)
                generalize wr.drew = w3 at *
                (refine tkH 0 (v := ?_) ?_ ?_; rotate_left; focus (intro w' hSw; (try dsimp only at hSw); go_simp; (try with_reducible rfl)); (try simp only [Act.put, List.setIfInBounds_toArray, List.set_cons_zero, List.set_cons_succ]))
                (refine tkH 1 (v := ?_) ?_ ?_; rotate_left; focus (intro w' hSw; (try dsimp only at hSw); go_simp; (try with_reducible rfl)); (try simp only [Act.put, List.setIfInBounds_toArray, List.set_cons_zero, List.set_cons_succ]))
                (refine tkH 2 (v := ?_) ?_ ?_; rotate_left; focus (intro w' hSw; (try dsimp only at hSw); go_simp; (try with_reducible rfl)); (try simp only [Act.put, List.setIfInBounds_toArray, List.set_cons_zero, List.set_cons_succ]))
                (refine tkH 3 (v := ?_) ?_ ?_; rotate_left; focus (intro w' hSw; (try dsimp only at hSw); go_simp; (try with_reducible rfl)); (try simp only [Act.put, List.setIfInBounds_toArray, List.set_cons_zero, List.set_cons_succ]))
                (refine tkH 4 (v := ?_) ?_ ?_; rotate_left; focus (intro w' hSw; (try dsimp only at hSw); go_simp; (try with_reducible rfl)); (try simp only [Act.put, List.setIfInBounds_toArray, List.set_cons_zero, List.set_cons_succ]))
                (refine tkH 5 (v := ?_) ?_ ?_; rotate_left; focus (intro w' hSw; (try dsimp only at hSw); go_simp; (try with_reducible rfl)); (try simp only [Act.put, List.setIfInBounds_toArray, List.set_cons_zero, List.set_cons_succ]))
                (refine tkH 6 (v := ?_) ?_ ?_; rotate_left; focus (intro w' hSw; (try dsimp only at hSw); go_simp; (try with_reducible rfl)); (try simp only [Act.put, List.setIfInBounds_toArray, List.set_cons_zero, List.set_cons_succ]))
                (refine wpAnyH_ready (rs := [7]) (by decide +kernel) (by simp) ?_; refine AllReadyH.cons rfl (fun K hK => ?_) AllReadyH.nil; rw [if_pos (by kernel_rfl)]; go_simp)
                (refine hK.out _ _ ⟨g1.out.c 11 _ rfl, k0, e1, e0⟩ (fun hHeld => ?_); clear hK K; (try simp only [Act.put, List.setIfInBounds_toArray]); (try simp only [List.set_cons_zero, List.set_cons_succ]))
                refine wpAnyH_done (by kernel_rfl) ?_ _
                clear hHeld
                go_wp2_with fail
                have hdr := (Below.refl w3.heap.size w3).drew
                have g1 := Lib.hid (g1.out.below hdr)
                have g2 := Lib.hid (g2.out.below hdr)
                have hv := Lib.hid (IntsL.below hv.out hdr)
                have hb := Lib.hid (below_step hb.out hdr)
                clear hdr k0 k1 e0 e1
                have k0 := g2.out.c 0 _ rfl
                have k1 := g2.out.c 1 _ rfl
                have e0 := (hb.out.cell (p := ⟨b, o + k * 2, none⟩) hbl).trans e0'.out
                have e1 := (hb.out.cell (p := ⟨b, o + k * 2 + 1, none⟩) hbl).trans e1'.out
                refine wp_region_held_drew (S := (fun w' => w'.cell? ⟨w.heap.size, 11, none⟩ = some (.slice A p.hols.length c) ∧ w'.cell? ⟨w.heap.size + 1, 0, none⟩ = some (.int .i64 x) ∧ w'.cell? ⟨b, o + k * 2 + 1, none⟩ = some (.int .i64 s.day) ∧ w'.cell? ⟨b, o + k * 2, none⟩ = some (.int .i64 s.mon))) (by kernel_rfl) ⟨g1.out.c 11 _ rfl, k0, e1, e0⟩ (fun hHeld => ?_)
                generalize w3.drew = w4 at *
                (refine tkH 0 (v := ?_) ?_ ?_; rotate_left; focus (intro w' hSw; (try dsimp only at hSw); go_simp; (try with_reducible rfl)); (try simp only [Act.put, List.setIfInBounds_toArray, List.set_cons_zero, List.set_cons_succ]))
                (refine tkH 1 (v := ?_) ?_ ?_; rotate_left; focus (intro w' hSw; (try dsimp only at hSw); go_simp; (try with_reducible rfl)); (try simp only [Act.put, List.setIfInBounds_toArray, List.set_cons_zero, List.set_cons_succ]))
                (refine tkH 2 (v := ?_) ?_ ?_; rotate_left; focus (intro w' hSw; (try dsimp only at hSw); go_simp; (try with_reducible rfl)); (try simp only [Act.put, List.setIfInBounds_toArray, List.set_cons_zero, List.set_cons_succ]))
                (refine tkH 3 (v := ?_) ?_ ?_; rotate_left; focus (intro w' hSw; (try dsimp only at hSw); go_simp; (try with_reducible rfl)); (try simp only [Act.put, List.setIfInBounds_toArray, List.set_cons_zero, List.set_cons_succ]))
                (refine tkH 4 (v := ?_) ?_ ?_; rotate_left; focus (intro w' hSw; (try dsimp only at hSw); go_simp; (try with_reducible rfl)); (try simp only [Act.put, List.setIfInBounds_toArray, List.set_cons_zero, List.set_cons_succ]))
                (refine tkH 5 (v := ?_) ?_ ?_; rotate_left; focus (intro w' hSw; (try dsimp only at hSw); go_simp; (try with_reducible rfl)); (try simp only [Act.put, List.setIfInBounds_toArray, List.set_cons_zero, List.set_cons_succ]))
                (refine tkH 6 (v := ?_) ?_ ?_; rotate_left; focus (intro w' hSw; (try dsimp only at hSw); go_simp; (try with_reducible rfl)); (try simp only [Act.put, List.setIfInBounds_toArray, List.set_cons_zero, List.set_cons_succ]))
                (refine wpAnyH_ready (rs := [7]) (by decide +kernel) (by simp) ?_; refine AllReadyH.cons rfl (fun K hK => ?_) AllReadyH.nil; rw [if_pos (by kernel_rfl)]; go_simp)
                refine (IsWorkingR_any A c p.hols hok.1 s.day d0 d1 _ (hl.out.below hb.out)).mono ?_
                rintro e w5 ⟨rfl, hbn⟩
                rw [hB.out]
                have g1 := Lib.hid (g1.out.below hbn)
                have g2 := Lib.hid (g2.out.below hbn)
                have hv := Lib.hid (IntsL.below hv.out hbn)
                have hb := Lib.hid (below_step hb.out hbn)
                clear hbn k0 k1 e0 e1
                have k0 := g2.out.c 0 _ rfl
                have k1 := g2.out.c 1 _ rfl
                have e0 := (hb.out.cell (p := ⟨b, o + k * 2, none⟩) hbl).trans e0'.out
                have e1 := (hb.out.cell (p := ⟨b, o + k * 2 + 1, none⟩) hbl).trans e1'.out
                go_simp
                (refine hK.out _ _ ⟨g1.out.c 11 _ rfl, k0, e1, e0⟩ (fun hHeld => ?_); clear hK K; (try simp only [Act.put, List.setIfInBounds_toArray]); (try simp only [List.set_cons_zero, List.set_cons_succ]))
                (refine tkH 8 (v := ?_) ?_ ?_; rotate_left; focus (intro w' hSw; (try dsimp only at hSw); go_simp; (try with_reducible rfl)); (try simp only [Act.put, List.setIfInBounds_toArray, List.set_cons_zero, List.set_cons_succ]))
                refine wpAnyH_done (by kernel_rfl) ?_ _
                clear hHeld
                have hcz : Hid ((Cal.cntS s.day (l.take 0) : Nat) = 0) := rfl
                go_wp2_with fail
                go_loopw [14, 13] (fun j n wq => ∃ (i q m : Nat), i ≤ k ∧ j = .int .i64 i ∧ n = .int .i64 q ∧ q ≤ i ∧ Hid (Cal.cntS s.day (l.take i) = q) ∧ wq = w5.drewN m) (fun j _ _ => k - (intOf j).toNat)
                case atStart => exact ⟨0, 0, 0, Nat.zero_le _, rfl, rfl, Nat.le_refl _, hcz, rfl⟩
                case round =>
                  clear hcz
                  obtain ⟨i, q, m, hi, rfl, rfl, hqi, hcn, rfl⟩ := hrel
                  by_cases hik : i < k
                  · obtain ⟨b', o', hA, _, f0, f1⟩ := stops_at (hS.out.below hb.out).rows (k := i) (by omega)
                    cases hA
                    have hti := Lib.hid (List.take_succ_eq_append_getElem (show i < l.length by omega))
                    generalize l[i] = u at *
                    by_cases hu : u.day = s.day
                    · have hu1 : (u.day == s.day) = true := by simpa using hu
                      have hnx : Hid (Cal.cntS s.day (l.take (i + 1)) = q + 1) := by show _ = _; rw [hti.out]; unfold Cal.cntS at hcn ⊢; rw [List.countP_append, hcn.out]; simp [hu]
                      clear hu
                      go_wp2_with fail
                      go_quiet (fail)
                      go_wp2_with fail
                      go_roundw
                      case rel => exact ⟨i + 1, q + 1, _, by omega, by go_num, by go_num, by omega, hnx, rfl⟩
                      case measure => simp [intOf]; omega
                    · have hu1 : (u.day == s.day) = false := by simpa using hu
                      have hnx : Hid (Cal.cntS s.day (l.take (i + 1)) = q) := by show _ = _; rw [hti.out]; unfold Cal.cntS at hcn ⊢; rw [List.countP_append, hcn.out]; simp [hu]
                      clear hu
                      go_wp2_with fail
                      go_quiet (fail)
                      go_wp2_with fail
                      go_roundw
                      case rel => exact ⟨i + 1, q, _, by omega, by go_num, rfl, by omega, hnx, rfl⟩
                      case measure => simp [intOf]; omega
                  · obtain rfl : k = i := by omega
                    by_cases hy : (yn : Int) ≤ q
                    · have hfin : Hid (Cal.rndS p order l x yn = (0, 16)) := hfin0.out 16 (by rw [hXz.out, if_pos (by rw [hcn.out]; exact hy)]) (by decide)
                      clear hfin0 hXz hokk hR
                      go_wp2_with fail
                      go_ret2
                      exact ⟨by rw [hfin.out]; first | done | rfl, below_drewN hb.out _⟩
                    · have hnx := Lib.hid (hokk.out (by rw [hXz.out, if_neg (by rw [hcn.out]; exact hy)]))
                      clear hfin0 hXz hokk
                      go_wp2_with fail
                      have hdr : Below w5.heap.size w5 (w5.drewN m).drew := (below_drewN (Below.refl _ _) m).drew
                      have g1 := Lib.hid (g1.out.below hdr)
                      have g2 := Lib.hid (g2.out.below hdr)
                      have hv := Lib.hid (IntsL.below hv.out hdr)
                      have hb := Lib.hid (below_step hb.out hdr)
                      clear hdr k0 k1 e0 e1
                      have k0 := g2.out.c 0 _ rfl
                      have k1 := g2.out.c 1 _ rfl
                      have e0 := (hb.out.cell (p := ⟨b, o + k * 2, none⟩) hbl).trans e0'.out
                      have e1 := (hb.out.cell (p := ⟨b, o + k * 2 + 1, none⟩) hbl).trans e1'.out
                      refine wp_region_held_drew (S := (fun w' => w'.cell? ⟨w.heap.size, 11, none⟩ = some (.slice A p.hols.length c) ∧ w'.cell? ⟨w.heap.size + 1, 0, none⟩ = some (.int .i64 x) ∧ w'.cell? ⟨b, o + k * 2 + 1, none⟩ = some (.int .i64 s.day) ∧ w'.cell? ⟨b, o + k * 2, none⟩ = some (.int .i64 s.mon))) (by kernel_rfl) ⟨g1.out.c 11 _ rfl, k0, e1, e0⟩ (fun hHeld => ?_)
                      generalize (w5.drewN m).drew = w7 at *
                      (refine tkH 0 (v := ?_) ?_ ?_; rotate_left; focus (intro w' hSw; (try dsimp only at hSw); go_simp; (try with_reducible rfl)); (try simp only [Act.put, List.setIfInBounds_toArray, List.set_cons_zero, List.set_cons_succ]))
                      (refine tkH 1 (v := ?_) ?_ ?_; rotate_left; focus (intro w' hSw; (try dsimp only at hSw); go_simp; (try with_reducible rfl)); (try simp only [Act.put, List.setIfInBounds_toArray, List.set_cons_zero, List.set_cons_succ]))
                      (refine tkH 2 (v := ?_) ?_ ?_; rotate_left; focus (intro w' hSw; (try dsimp only at hSw); go_simp; (try with_reducible rfl)); (try simp only [Act.put, List.setIfInBounds_toArray, List.set_cons_zero, List.set_cons_succ]))
                      (refine tkH 3 (v := ?_) ?_ ?_; rotate_left; focus (intro w' hSw; (try dsimp only at hSw); go_simp; (try with_reducible rfl)); (try simp only [Act.put, List.setIfInBounds_toArray, List.set_cons_zero, List.set_cons_succ]))
                      (refine tkH 4 (v := ?_) ?_ ?_; rotate_left; focus (intro w' hSw; (try dsimp only at hSw); go_simp; (try with_reducible rfl)); (try simp only [Act.put, List.setIfInBounds_toArray, List.set_cons_zero, List.set_cons_succ]))
                      (refine tkH 5 (v := ?_) ?_ ?_; rotate_left; focus (intro w' hSw; (try dsimp only at hSw); go_simp; (try with_reducible rfl)); (try simp only [Act.put, List.setIfInBounds_toArray, List.set_cons_zero, List.set_cons_succ]))
                      (refine tkH 8 (v := ?_) ?_ ?_; rotate_left; focus (intro w' hSw; (try dsimp only at hSw); go_simp; (try with_reducible rfl)); (try simp only [Act.put, List.setIfInBounds_toArray, List.set_cons_zero, List.set_cons_succ]))
                      (refine tkH 9 (v := ?_) ?_ ?_; rotate_left; focus (intro w' hSw; (try dsimp only at hSw); go_simp; (try with_reducible rfl)); (try simp only [Act.put, List.setIfInBounds_toArray, List.set_cons_zero, List.set_cons_succ]))
                      (refine tkH 10 (v := ?_) ?_ ?_; rotate_left; focus (intro w' hSw; (try dsimp only at hSw); go_simp; (try with_reducible rfl)); (try simp only [Act.put, List.setIfInBounds_toArray, List.set_cons_zero, List.set_cons_succ]))
                      (refine tkH 11 (v := ?_) ?_ ?_; rotate_left; focus (intro w' hSw; (try dsimp only at hSw); go_simp; (try with_reducible rfl)); (try simp only [Act.put, List.setIfInBounds_toArray, List.set_cons_zero, List.set_cons_succ]))
                      (refine tkH 12 (v := ?_) ?_ ?_; rotate_left; focus (intro w' hSw; (try dsimp only at hSw); go_simp; (try with_reducible rfl)); (try simp only [Act.put, List.setIfInBounds_toArray, List.set_cons_zero, List.set_cons_succ]))
                      (refine tkH 13 (v := ?_) ?_ ?_; rotate_left; focus (intro w' hSw; (try dsimp only at hSw); go_simp; (try with_reducible rfl)); (try simp only [Act.put, List.setIfInBounds_toArray, List.set_cons_zero, List.set_cons_succ]))
                      (refine tkH 14 (v := ?_) ?_ ?_; rotate_left; focus (intro w' hSw; (try dsimp only at hSw); go_simp; (try with_reducible rfl)); (try simp only [Act.put, List.setIfInBounds_toArray, List.set_cons_zero, List.set_cons_succ]))
                      (refine wpAnyH_ready (rs := [6]) (by decide +kernel) (by simp) ?_; refine AllReadyH.cons rfl (fun K hK => ?_) AllReadyH.nil; rw [if_pos (by kernel_rfl)]; go_simp)
                      have ba := below_alloc w7 (.cells #[.int .i64 s.mon] 3)
                      have hsrc := Lib.hid (rowsAt_new w7 [.int .i64 s.mon] 3)
                      have g1 := Lib.hid (g1.out.below ba)
                      have g2 := Lib.hid (g2.out.below ba)
                      have hv := Lib.hid (IntsL.below hv.out ba)
                      have hb := Lib.hid (below_step hb.out ba)
                      clear ba k0 k1 e0 e1
                      have k0 := g2.out.c 0 _ rfl
                      have k1 := g2.out.c 1 _ rfl
                      have e0 := (hb.out.cell (p := ⟨b, o + k * 2, none⟩) hbl).trans e0'.out
                      have e1 := (hb.out.cell (p := ⟨b, o + k * 2 + 1, none⟩) hbl).trans e1'.out
                      (refine hK.out _ _ ⟨g1.out.c 11 _ rfl, k0, e1, e0⟩ (fun hHeld => ?_); clear hK K; (try simp only [Act.put, List.setIfInBounds_toArray]); (try simp only [List.set_cons_zero, List.set_cons_succ]))
                      refine wpAnyH_ready (rs := [7]) (by decide +kernel) (by simp) ?_
                      refine AllReadyH.cons rfl (fun K hK => ?_) AllReadyH.nil
                      have lz := g2.out.lt
                      have hrl : (intRows ((l.take k).map (·.mon))).length ≤ 1000 := by rw [intRows_length, hml]; omega
                      refine step_append_rows elemInt (by rfl) (.tmp 84) (.tmp 90) (by rfl) (by rfl) (by rfl) hv.out hsrc.out rfl (intRows_wid [s.mon]) (intRows_one [s.mon]) (by simp only [List.length_singleton]; omega) (by decide) (by omega) ?_
                      intro u5 w8 hown5 hg5 _
                      have hv8 : Hid (IntsL w8 (w.heap.size + 2) u5 ((l.take (k + 1)).map (·.mon))) := by
                        have e5 : intRows ((l.take (k + 1)).map (·.mon)) = intRows ((l.take k).map (·.mon)) ++ intRows [s.mon] := by rw [htk.out]; unfold intRows; rw [List.map_append, List.map_append]; rfl
                        show OwnL _ _ _ _ _ _
                        rw [e5]
                        exact hown5
                      have g18 := Lib.hid (g1.out.grown hg5 (fun h => by have := (OwnL.lt hv.out _ h.symm).1; omega))
                      have g28 := Lib.hid (g2.out.grown hg5 (fun h => by have := (OwnL.lt hv.out _ h.symm).1; omega))
                      have hb8 := Lib.hid (hb.out.trans (grown_below hg5 (fun r h => by have := (OwnL.lt hv.out r h).1; omega) (by omega)))
                      clear k0 k1 e0 e1 hown5 hg5 hrl
                      have k0 := g28.out.c 0 _ rfl
                      have e0 := (hb8.out.cell (p := ⟨b, o + k * 2, none⟩) hbl).trans e0'.out
                      have e1 := (hb8.out.cell (p := ⟨b, o + k * 2 + 1, none⟩) hbl).trans e1'.out
                      go_simp
                      (refine hK.out _ _ ⟨g18.out.c 11 _ rfl, k0, e1, e0⟩ (fun hHeld => ?_); clear hK K; (try simp only [Act.put, List.setIfInBounds_toArray]); (try simp only [List.set_cons_zero, List.set_cons_succ]))
                      (refine tkH 15 (v := ?_) ?_ ?_; rotate_left; focus (intro w' hSw; (try dsimp only at hSw); go_simp; (try with_reducible rfl)); (try simp only [Act.put, List.setIfInBounds_toArray, List.set_cons_zero, List.set_cons_succ]))
                      (refine tkH 16 (v := ?_) ?_ ?_; rotate_left; focus (intro w' hSw; (try dsimp only at hSw); go_simp; (try with_reducible rfl)); (try simp only [Act.put, List.setIfInBounds_toArray, List.set_cons_zero, List.set_cons_succ]))
                      refine wpAnyH_done (by kernel_rfl) ?_ _
                      clear hHeld
                      go_wp2_with fail
                      go_roundw
                      case rel => exact ⟨k + 1, _, by omega, by go_num, rfl, hnx, hv8, g18, g28, hb8⟩
                      case measure => simp [intOf]; omega
          · have hfin : Hid (Cal.rndS p order l x yn = (0, 2)) := hfin0 2 (by unfold Cal.stopE; rw [hm, hh2, if_pos rfl, if_neg (by decide)]; have hE : Cal.isWorkE p.hols s.day = 2 := by { unfold Cal.isWorkE; rw [if_pos hh, if_neg hday] }; rw [hE, if_neg (by decide)]) (by decide)
            have hm := Lib.hid hm
            have hh2 := Lib.hid hh2
            have hd' : s.day < 0 ∨ 200000 < s.day := by omega
            clear hfin0 her hokk hR hday
            go_wp2_with fail
            refine (HasM_any O d order s.mon _ (hI.out.below hb.out).rows (by omega)).mono ?_
            rintro e w2 ⟨rfl, rfl⟩
            rw [hm.out]
            go_wp2_with fail
            refine (hhas _ hvr).mono ?_
            rintro e w2 ⟨rfl, rfl⟩
            rw [hh2.out]
            clear hhas hvr
            go_wp2_with (((first | (go_at_call 134) | (go_at_call 59) | (go_at_call 133) | (go_at_call 14) | (go_at_call 178) | (fail) | (go_at_call 139)); first | refine rin ?_ | refine rout ?_ | refine rany ?_))
            go_ret2
            exact ⟨by rw [hfin.out]; first | done | rfl, hb.out⟩
        · have hfin : Hid (Cal.rndS p order l x yn = (0, 5)) := hfin0 5 (by unfold Cal.stopE; rw [hm, hh2]; rfl) (by decide)
          have hm := Lib.hid hm
          have hh2 := Lib.hid hh2
          clear hfin0 her hokk hR
          go_wp2_with fail
          refine (HasM_any O d order s.mon _ (hI.out.below hb.out).rows (by omega)).mono ?_
          rintro e w2 ⟨rfl, rfl⟩
          rw [hm.out]
          go_wp2_with fail
          refine (hhas _ hvr).mono ?_
          rintro e w2 ⟨rfl, rfl⟩
          rw [hh2.out]
          clear hhas hvr
          go_wp2_with fail
          go_ret2
          exact ⟨by rw [hfin.out]; first | done | rfl, hb.out⟩
    · obtain rfl : k = l.length := by omega
      obtain ⟨V, vc, rfl, hvr⟩ := IntsL.rows hv.out
      have hml : ((l.take l.length).map (·.mon)).length = l.length := by rw [List.take_length, List.length_map]
      simp only [hml]
      clear hvr hv
      by_cases hlo : l.length < order.length
      · have hfin : Hid (Cal.rndS p order l x yn = (0, 14)) := by show _ = _; rw [hR.out, hrn.out, if_pos rfl, if_pos hlo]
        clear hR
        go_wp2_with fail
        go_ret2
        exact ⟨by rw [hfin.out]; first | done | rfl, hb.out⟩
      · have hfin : Hid (Cal.rndS p order l x yn = (last, 0)) := by show _ = _; rw [hR.out, hrn.out, if_pos rfl, if_neg hlo]
        clear hR
        go_wp2_with fail
        go_ret2
        exact ⟨by rw [hfin.out]; first | done | rfl, hb.out⟩
end Go.Proofs.YtbegbajlagcbdaaGreatDoor
