/- What the statements rest on: definitions and walks, part 31. -/
import Derived.Test.YtfcjeejhdklkdaaJ30
import Derived.Test.YtfcjeejhdklkdaaJ25
set_option maxRecDepth 100000
set_option maxHeartbeats 16000000
set_option linter.unusedSimpArgs false
set_option linter.unusedVariables false
namespace Go.Proofs.Ytfcjeejhdklkdaa
open Go Go.RowKit Go.Shelf
def lenV : Value → Nat
 | .slice _ n _ => n
 | _ => 0
theorem pts_own {w : World} {B n c : Nat} {A : Option Addr} {ps : List Pt} (h : OwnL w B 75 2 (.slice A n c) (ps.map ptR)) (hr : RowsAt w A 2 (ps.map ptR)) (hl : ps.length ≤ 1000000) (hs : ∀ p ∈ ps, SmP p) : Pts w A ps :=
 ⟨hr, hl, hs, fun ad e _ => (h.blk ad e).2⟩
def EarSt (q : List Pt) (k : Nat) (a : Int) : Prop := (a = -1 ∧ ∀ j, j < k → decide (0 ≤ Cal.earR q j) = false) ∨ (∃ j : Nat, a = j ∧ j < q.length ∧ decide (0 ≤ Cal.earR q j) = true ∧ ∀ i, i < j → decide (0 ≤ Cal.earR q i) = false)
theorem TrianglesR_any (V : Option Addr) (d : Nat) (ps : List Pt) (w : World) (hP : Pts w V ps) (hd : ps.length ≤ d) :
  Calls Try.prog 64 #[.slice V ps.length d] w fun e w' => ∃ v gs, e = .returned v ∧ TrsO w' w.heap.size v (Cal.trisOf ps) gs ∧ Below w.heap.size w w' := by
 have hb0 : Hid (Below w.heap.size w w) := Below.refl _ _
 have hsz := hP.size
 have hP0 := Lib.hid hP
 have hT0 : Hid (TrsO w w.heap.size (.slice none 0 0) [] []) := TrsO.nil _ _
 have hE0 : Hid (Cal.trisOf ps = [] ++ Cal.trisR ps.length ps) := rfl
 have hd0 := Lib.hid hd
 have hne0 : Hid (∀ ad, V = some ad → (Value.slice none 0 0).ownBlock ≠ some ad.block) := fun ad _ e => by cases e
 have hl0 : Hid (([] : List Nat).length + ps.length ≤ ps.length) := by show _ ≤ _; simp
 have hf0 : Hid (ps.length ≤ ps.length) := Nat.le_refl _
 generalize Cal.trisOf ps = T at *
 clear hP hd
 go_enter Try.func64, Try.ntmps64
 go_wp2_with fail
 go_loopw [0, 3] (fun pv ov wr => ∃ (q : List Pt) (V1 : Option Addr) (d1 f : Nat) (v : Value) (done : List (List Pt)) (gs : List Nat), pv = .slice V1 q.length d1 ∧ ov = v ∧ Hid (q.length ≤ d1) ∧ Hid (Pts wr V1 q) ∧ Hid (T = done ++ Cal.trisR f q) ∧ Hid (q.length ≤ f) ∧ Hid (TrsO wr w.heap.size v done gs) ∧ Hid (∀ ad, V1 = some ad → v.ownBlock ≠ some ad.block) ∧ Hid (gs.length + q.length ≤ ps.length) ∧ Hid (Below w.heap.size w wr)) (fun pv _ _ => lenV pv)
 case atStart => exact ⟨ps, V, d, ps.length, _, [], [], rfl, rfl, hd0, hP0, hE0, hf0, hT0, hne0, hl0, hb0⟩
 case round =>
  clear hd0 hP0 hE0 hf0 hT0 hne0 hl0 hb0
  obtain ⟨q, V1, d1, f, v, done, gs, rfl, rfl, hdq, hPq, hE, hfq, hT, hne, hl, hb⟩ := hrel
  generalize hwo : wr = wo at *
  clear hwo wr
  by_cases hlt : 2 < q.length
  ·have hki : (2 : Int) < (q.length : Int) := by omega
   have hq6 : q.length ≤ 1000000 := hPq.out.size
   have hear := Lib.hid (fun W (hW : Below wo.heap.size wo W) (j : Nat) (hj : j < q.length) => earR_any V1 d1 q j W (hPq.out.below hW) hj)
   have hbr : Hid (Below wo.heap.size wo wo) := Below.refl _ _
   go_wp2_with fail
   go_loopw [4, 5] (fun av iv wi => ∃ (k : Nat) (a : Int), k ≤ q.length ∧ iv = .int .i64 k ∧ av = .int .i64 a ∧ Hid (EarSt q k a) ∧ Hid (Below wo.heap.size wo wi)) (fun _ iv _ => q.length - (intOf iv).toNat)
   case atStart => exact ⟨0, -1, Nat.zero_le _, rfl, rfl, Or.inl ⟨rfl, fun j h => by omega⟩, hbr⟩
   case round =>
    clear hbr
    obtain ⟨k, a, hk, rfl, rfl, hst, hbi⟩ := hrel
    rcases hst.out with ⟨rfl, hno⟩ | ⟨j, rfl, hj, hj1, hj2⟩
    ·by_cases hk2 : k < q.length
     ·have hkk : (k : Int) < (q.length : Int) := by omega
      obtain ⟨Z, hZ⟩ : ∃ Z, Cal.earR q k = Z := ⟨_, rfl⟩
      have hec : Hid (Calls Try.prog 90 #[.slice V1 q.length d1, .int .i64 (k : Int)] wr fun e w' => e = .returned (.int .i64 Z) ∧ Below wr.heap.size wr w') := by
       have := hear.out wr hbi.out k hk2
       rw [hZ] at this
       exact this
      by_cases hz : 0 ≤ Z
      ·have hst2 : Hid (EarSt q (k + 1) k) :=
        Or.inr ⟨k, rfl, hk2, by rw [hZ]; exact decide_eq_true hz, hno⟩
       clear hst hno hZ
       go_wp2_with (go_at_call 90; refine hec.out.mono ?_; rintro e w1 ⟨rfl, hb1⟩; have hbj := Lib.hid (hbi.out.trans (hb1.mono hbi.out.size)); clear hb1)
       go_roundw
       case rel => exact ⟨k + 1, k, by omega, by go_num, rfl, hst2, hbj⟩
       case measure => simp [intOf]; omega
      ·have hst2 : Hid (EarSt q (k + 1) (-1)) :=
        Or.inl ⟨rfl, fun j hj => by
         rcases Nat.lt_succ_iff_lt_or_eq.1 hj with h' | h'
         ·exact hno j h'
         ·rw [h', hZ]; exact decide_eq_false hz⟩
       clear hst hno hZ
       go_wp2_with (go_at_call 90; refine hec.out.mono ?_; rintro e w1 ⟨rfl, hb1⟩; have hbj := Lib.hid (hbi.out.trans (hb1.mono hbi.out.size)); clear hb1)
       go_roundw
       case rel => exact ⟨k + 1, -1, by omega, by go_num, rfl, hst2, hbj⟩
       case measure => simp [intOf]; omega
     ·obtain rfl : k = q.length := by omega
      have hTe : Hid (T = done) := by show _ = _; rw [hE.out, trisR_none (by omega) hno, List.append_nil]
      clear hst hno
      go_wp2_with fail
      go_ret
      exact ⟨_, gs, rfl, by rw [hTe.out]; exact hT.out.below hbi.out, below_step hb.out hbi.out⟩
    ·obtain ⟨f', rfl, hTr⟩ := trisR_some (f := f) (by omega) hj hj1 hj2 (by have := hfq.out; omega)
     have hjn : ¬ (j : Int) < 0 := by omega
     have hel : Hid ((q.eraseIdx j).length + 1 = q.length ∧ (q.eraseIdx j).length ≤ 1000000) := by
      have := List.length_eraseIdx_of_lt hj
      exact ⟨by omega, by omega⟩
     have hsm2 : Hid (∀ p ∈ q.eraseIdx j, SmP p) := fun p hp => hPq.out.sm p (List.mem_of_mem_eraseIdx hp)
     have hfq2 : Hid ((q.eraseIdx j).length ≤ f') := by have := hfq.out; have := hel.out.1; show _ ≤ _; omega
     have hwo := Lib.hid (fun W (hW : RowsAt W V1 2 (q.map ptR)) => withoutR_any V1 d1 q j W hW hdq.out hj hq6)
     have hec := hear.out wr hbi.out j hj
     rcases earR_one_or hj1 with h1 | h1
     ·rw [h1] at hec
      rw [if_pos h1] at hTr
      replace hec := Lib.hid hec
      have hE2' : Hid (T = (done ++ [Cal.triAt q j]) ++ Cal.trisR f' (q.eraseIdx j)) := by show _ = _; rw [hE.out, hTr, List.append_assoc]
      have m1 := Nat.mod_lt (j + q.length - 1) (Nat.lt_of_le_of_lt (Nat.zero_le _) hj)
      have m2 := Nat.mod_lt (j + 1) (Nat.lt_of_le_of_lt (Nat.zero_le _) hj)
      have hta : Cal.triAt q j = [q[(j + q.length - 1) % q.length], q[j], q[(j + 1) % q.length]] := by
       unfold Cal.triAt Cal.earA Cal.earB Cal.earC
       rw [List.getElem?_eq_getElem m1, List.getElem?_eq_getElem m2, List.getElem?_eq_getElem hj]; rfl
      have hE2 : Hid (T = (done ++ [[q[(j + q.length - 1) % q.length], q[j], q[(j + 1) % q.length]]]) ++ Cal.trisR f' (q.eraseIdx j)) := by show _ = _; rw [hE2'.out, hta]
      have hlz : Hid ((gs.length + 1 : Nat) ≤ 4000000000) := by have := hl.out; show _ ≤ _; omega
      have hl2 : ∀ g : Nat, Hid ((gs ++ [g]).length + (q.eraseIdx j).length ≤ ps.length) := fun g => by have := hl.out; have := hel.out.1; show _ ≤ _; rw [List.length_append, List.length_singleton]; omega
      have r1 : (((j + q.length - 1) % q.length : Nat) : Int) < (q.length : Int) := Int.ofNat_lt.2 m1
      have r2 : (((j + 1) % q.length : Nat) : Int) < (q.length : Int) := Int.ofNat_lt.2 m2
      have r3 : (j : Int) < (q.length : Int) := Int.ofNat_lt.2 hj
      have hn0 : ¬ q.length = 0 := fun e => by rw [e] at hj; exact absurd hj (Nat.not_lt_zero _)
      obtain ⟨q1, q2, q3, q4, q5, q6, q7⟩ := ear_idx hj hq6
      have q1b : wrap64 ((j : Int) + (q.length : Int)) = ((j + q.length : Nat) : Int) := by rw [← wrap_eq]; exact q1
      have q2b : wrap64 (((j + q.length : Nat) : Int) - 1) = ((j + q.length - 1 : Nat) : Int) := by rw [← wrap_eq]; exact q2
      have q4b : wrap64 ((j : Int) + 1) = ((j + 1 : Nat) : Int) := by rw [← wrap_eq]; exact q4
      clear hst hj1 hj2 hTr h1 hear hE hl hfq hE2' hta
      by_cases hk2 : k < q.length
      ·have hkk : (k : Int) < (q.length : Int) := Int.ofNat_lt.2 hk2
       go_wp2_with (go_at_call 90; refine hec.out.mono ?_; rintro e w1 ⟨rfl, hb1⟩; have hbk := Lib.hid (hbi.out.trans (hb1.mono hbi.out.size)); clear hb1)
       have hPk := hPq.out.rows.below hbk.out
       obtain ⟨b, o, rfl, hbx, a0, a1⟩ := pts_at hPk (List.getElem?_eq_getElem m1)
       obtain ⟨b', o', hA, _, b0, b1⟩ := pts_at hPk (List.getElem?_eq_getElem hj)
       cases hA
       obtain ⟨b', o', hA, _, c0, c1⟩ := pts_at hPk (List.getElem?_eq_getElem m2)
       cases hA
       generalize q[(j + q.length - 1) % q.length] = pa at *
       generalize q[j] = pb at *
       generalize q[(j + 1) % q.length] = pc at *
       generalize (j + q.length - 1) % q.length = ja at *
       generalize (j + 1) % q.length = jc at *
       generalize j + q.length - 1 = z1 at *
       generalize j + q.length = z2 at *
       generalize j + 1 = z3 at *
       refine wp_region_held_drew (S := Sx w [(b, o + ja * 2, .int .i64 pa.x), (b, o + ja * 2 + 1, .int .i64 pa.y), (b, o + j * 2, .int .i64 pb.x), (b, o + j * 2 + 1, .int .i64 pb.y), (b, o + jc * 2, .int .i64 pc.x), (b, o + jc * 2 + 1, .int .i64 pc.y)]) (by kernel_rfl) (Sx.mk (by simp only [cs_iff_cons]; exact ⟨a0, a1, b0, b1, c0, c1, cs_nil _⟩) (below_step hb.out hbk.out)).drew (fun hHeld => ?_)
       clear a0 a1 b0 b1 c0 c1 hPk
       have hTd := Lib.hid (hT.out.below hbk.out.drew)
       have hRd := Lib.hid (hPq.out.rows.below hbk.out.drew)
       have hbY : Hid (b < w1.drew.heap.size) := hbx
       have hnb : Hid (u3.ownBlock ≠ some b) := hne.out _ rfl
       generalize w1.drew = Y at *
       refine tkHx 0 31 ?_
       refine tkHx 1 32 ?_
       refine tkHx 2 33 ?_
       refine tkHx 3 34 ?_
       refine tkHx 4 35 ?_
       refine tkHx 5 36 ?_
       refine tkHx 6 37 ?_
       refine tkHx 7 38 ?_
       refine tkHx 8 39 ?_
       refine tkHx 9 40 ?_
       refine tkHx 10 41 ?_
       refine tkHx 11 42 ?_
       refine tkHx 12 43 ?_
       refine tkHx 13 44 ?_
       refine tkHx 14 45 ?_
       refine tkHx 15 46 ?_
       refine tkHx 16 47 ?_
       refine tkHx 17 48 ?_
       refine tkHx 18 49 ?_
       refine tkHx 19 50 ?_
       refine tkHx 20 51 ?_
       refine tkHx 21 52 ?_
       refine tkHx 22 53 ?_
       refine tkHx 23 54 ?_
       clear q1 q2 q3 q4 q5 q6 q7 q1b q2b q4b
       (refine ratHx 24 (fun K hK => ?_); go_simp)
       refine hK.out _ _ (hHeld.alloc _) (fun hHeld => ?_)
       clear hK K
       (try simp only [apS, apN, siA, scZ, scS])
       have hrw := Lib.hid (rows_new (m := 2) Y ([pa, pb, pc].map ptR) (fun r hr => by obtain ⟨p, _, rfl⟩ := List.mem_map.1 hr; rfl) #[.int .i64 pa.x, .int .i64 pa.y, .int .i64 pb.x, .int .i64 pb.y, .int .i64 pc.x, .int .i64 pc.y] rfl 75)
       have hg0 : Hid (Y.heap.size < (Y.alloc (.cells #[.int .i64 pa.x, .int .i64 pa.y, .int .i64 pb.x, .int .i64 pb.y, .int .i64 pc.x, .int .i64 pc.y] 75)).heap.size) := by show _ < _; rw [World.size_alloc]; exact Nat.lt_succ_self _
       have hnY : Hid (u3.ownBlock ≠ some Y.heap.size) := fun e => Nat.lt_irrefl _ (OwnL.lt hTd.out.own _ e).2
       replace hbY : Hid (b < (Y.alloc (.cells #[.int .i64 pa.x, .int .i64 pa.y, .int .i64 pb.x, .int .i64 pb.y, .int .i64 pc.x, .int .i64 pc.y] 75)).heap.size) := Nat.lt_trans hbY.out hg0.out
       replace hTd := Lib.hid (hTd.out.below (below_alloc _ (.cells #[.int .i64 pa.x, .int .i64 pa.y, .int .i64 pb.x, .int .i64 pb.y, .int .i64 pc.x, .int .i64 pc.y] 75)))
       replace hRd := Lib.hid (hRd.out.below (below_alloc _ (.cells #[.int .i64 pa.x, .int .i64 pa.y, .int .i64 pb.x, .int .i64 pb.y, .int .i64 pc.x, .int .i64 pc.y] 75)))
       generalize Y.alloc (.cells #[.int .i64 pa.x, .int .i64 pa.y, .int .i64 pb.x, .int .i64 pb.y, .int .i64 pc.x, .int .i64 pc.y] 75) = Y1 at *
       generalize Y.heap.size = g0 at *
       (refine ratHx 25 (fun K hK => ?_); go_simp)
       refine hK.out _ _ (hHeld.alloc _) (fun hHeld => ?_)
       clear hK K
       (try simp only [apS, apN, siA, scZ, scS])
       replace hrw := Lib.hid (hrw.out.below (below_alloc _ (.cells (triV g0).toArray 48)))
       replace hTd := Lib.hid (hTd.out.below (below_alloc _ (.cells (triV g0).toArray 48)))
       replace hRd := Lib.hid (hRd.out.below (below_alloc _ (.cells (triV g0).toArray 48)))
       (refine wpAnyH_ready (rs := [26]) (by decide +kernel) (by simp) ?_; refine AllReadyH.cons rfl (fun K hK => ?_) AllReadyH.nil)
       refine step_append_rows elemTrs (by rfl) (.tmp 31) (.tmp 56) (by rfl) (by rfl) (by rfl) hTd.out.own (rowsAt_new _ (triV g0) _) rfl (fun r hr => by rw [List.mem_singleton.1 hr]; rfl) (fun r hr u hu => by rw [List.mem_singleton.1 hr] at hu; rw [List.mem_singleton.1 hu]; rfl) (by rw [List.length_map, List.length_singleton]; exact hlz.out) (by decide) hHeld.bel.size ?_
       intro v9 w9 hown9 hg9 hob9
       have hT9 := Lib.hid (hTd.out.push hrw.out (by rw [World.size_alloc]; exact Nat.lt_succ_of_lt hg0.out) hnY.out hown9 hg9 hob9)
       have hR9 := Lib.hid (hRd.out.farI hg9 (fun a e => by cases e; exact hnb.out.symm))
       refine hK.out _ _ (hHeld.grow hg9 (fun g e => (OwnL.lt hTd.out.own g e).1) (fun x hx => by
        have hxb : x.1 = b := by
         simp only [List.mem_cons, List.not_mem_nil, or_false] at hx
         rcases hx with rfl | rfl | rfl | rfl | rfl | rfl <;> rfl
        rw [hxb]
        exact ⟨hnb.out, by rw [World.size_alloc]; exact Nat.lt_succ_of_lt hbY.out⟩)) (fun hHeld => ?_)
       clear hK K hg9 hob9 hown9 hrw hTd hRd
       (try simp only [apS, apN, siA, scZ, scS])
       refine tkHx 27 3 ?_
       refine wpAnyH_done (by kernel_rfl) ?_ _
       (try simp only [apS, apN, siA, scZ, scS])
       have hb9 := Lib.hid hHeld.bel
       clear hHeld
       go_wp2_with (go_at_call 91; refine (hwo.out _ hR9.out).mono ?_; rintro e w2 ⟨v2, rfl, hO2, hb2⟩)
       have hbn := Lib.hid (below_step hb9.out hb2)
       have hT2 := Lib.hid (hT9.out.below hb2)
       obtain ⟨A2, c2, rfl, hr2⟩ := hO2.form
       rw [List.length_map] at hO2 ⊢
       have hP2 := Lib.hid (pts_own hO2 hr2 hel.out.2 hsm2.out)
       have hcap2 := Lib.hid (hO2.capO (by rw [List.length_map]))
       have hne2 : Hid (∀ ad, A2 = some ad → (v9).ownBlock ≠ some ad.block) := fun ad e e2 => by
        have h3 := (hO2.blk ad e).1
        have h4 := (OwnL.lt hT9.out.own _ e2).2
        omega
       clear hO2 hr2 hb2
       go_wp2_with fail
       go_roundw
       case rel => exact ⟨q.eraseIdx j, A2, c2, f', _, (done ++ [[pa, pb, pc]]), (gs ++ [g0]), rfl, rfl, hcap2, hP2, hE2, hfq2, hT2, hne2, (hl2 g0), hbn⟩
       case measure => simp [lenV]; have := hel.out.1; omega
      ·have hkk : ¬ (k : Int) < (q.length : Int) := fun h => hk2 (Int.ofNat_lt.1 h)
       go_wp2_with (go_at_call 90; refine hec.out.mono ?_; rintro e w1 ⟨rfl, hb1⟩; have hbk := Lib.hid (hbi.out.trans (hb1.mono hbi.out.size)); clear hb1)
       have hPk := hPq.out.rows.below hbk.out
       obtain ⟨b, o, rfl, hbx, a0, a1⟩ := pts_at hPk (List.getElem?_eq_getElem m1)
       obtain ⟨b', o', hA, _, b0, b1⟩ := pts_at hPk (List.getElem?_eq_getElem hj)
       cases hA
       obtain ⟨b', o', hA, _, c0, c1⟩ := pts_at hPk (List.getElem?_eq_getElem m2)
       cases hA
       generalize q[(j + q.length - 1) % q.length] = pa at *
       generalize q[j] = pb at *
       generalize q[(j + 1) % q.length] = pc at *
       generalize (j + q.length - 1) % q.length = ja at *
       generalize (j + 1) % q.length = jc at *
       generalize j + q.length - 1 = z1 at *
       generalize j + q.length = z2 at *
       generalize j + 1 = z3 at *
       refine wp_region_held_drew (S := Sx w [(b, o + ja * 2, .int .i64 pa.x), (b, o + ja * 2 + 1, .int .i64 pa.y), (b, o + j * 2, .int .i64 pb.x), (b, o + j * 2 + 1, .int .i64 pb.y), (b, o + jc * 2, .int .i64 pc.x), (b, o + jc * 2 + 1, .int .i64 pc.y)]) (by kernel_rfl) (Sx.mk (by simp only [cs_iff_cons]; exact ⟨a0, a1, b0, b1, c0, c1, cs_nil _⟩) (below_step hb.out hbk.out)).drew (fun hHeld => ?_)
       clear a0 a1 b0 b1 c0 c1 hPk
       have hTd := Lib.hid (hT.out.below hbk.out.drew)
       have hRd := Lib.hid (hPq.out.rows.below hbk.out.drew)
       have hbY : Hid (b < w1.drew.heap.size) := hbx
       have hnb : Hid (u3.ownBlock ≠ some b) := hne.out _ rfl
       generalize w1.drew = Y at *
       refine tkHx 0 31 ?_
       refine tkHx 1 32 ?_
       refine tkHx 2 33 ?_
       refine tkHx 3 34 ?_
       refine tkHx 4 35 ?_
       refine tkHx 5 36 ?_
       refine tkHx 6 37 ?_
       refine tkHx 7 38 ?_
       refine tkHx 8 39 ?_
       refine tkHx 9 40 ?_
       refine tkHx 10 41 ?_
       refine tkHx 11 42 ?_
       refine tkHx 12 43 ?_
       refine tkHx 13 44 ?_
       refine tkHx 14 45 ?_
       refine tkHx 15 46 ?_
       refine tkHx 16 47 ?_
       refine tkHx 17 48 ?_
       refine tkHx 18 49 ?_
       refine tkHx 19 50 ?_
       refine tkHx 20 51 ?_
       refine tkHx 21 52 ?_
       refine tkHx 22 53 ?_
       refine tkHx 23 54 ?_
       clear q1 q2 q3 q4 q5 q6 q7 q1b q2b q4b
       (refine ratHx 24 (fun K hK => ?_); go_simp)
       refine hK.out _ _ (hHeld.alloc _) (fun hHeld => ?_)
       clear hK K
       (try simp only [apS, apN, siA, scZ, scS])
       have hrw := Lib.hid (rows_new (m := 2) Y ([pa, pb, pc].map ptR) (fun r hr => by obtain ⟨p, _, rfl⟩ := List.mem_map.1 hr; rfl) #[.int .i64 pa.x, .int .i64 pa.y, .int .i64 pb.x, .int .i64 pb.y, .int .i64 pc.x, .int .i64 pc.y] rfl 75)
       have hg0 : Hid (Y.heap.size < (Y.alloc (.cells #[.int .i64 pa.x, .int .i64 pa.y, .int .i64 pb.x, .int .i64 pb.y, .int .i64 pc.x, .int .i64 pc.y] 75)).heap.size) := by show _ < _; rw [World.size_alloc]; exact Nat.lt_succ_self _
       have hnY : Hid (u3.ownBlock ≠ some Y.heap.size) := fun e => Nat.lt_irrefl _ (OwnL.lt hTd.out.own _ e).2
       replace hbY : Hid (b < (Y.alloc (.cells #[.int .i64 pa.x, .int .i64 pa.y, .int .i64 pb.x, .int .i64 pb.y, .int .i64 pc.x, .int .i64 pc.y] 75)).heap.size) := Nat.lt_trans hbY.out hg0.out
       replace hTd := Lib.hid (hTd.out.below (below_alloc _ (.cells #[.int .i64 pa.x, .int .i64 pa.y, .int .i64 pb.x, .int .i64 pb.y, .int .i64 pc.x, .int .i64 pc.y] 75)))
       replace hRd := Lib.hid (hRd.out.below (below_alloc _ (.cells #[.int .i64 pa.x, .int .i64 pa.y, .int .i64 pb.x, .int .i64 pb.y, .int .i64 pc.x, .int .i64 pc.y] 75)))
       generalize Y.alloc (.cells #[.int .i64 pa.x, .int .i64 pa.y, .int .i64 pb.x, .int .i64 pb.y, .int .i64 pc.x, .int .i64 pc.y] 75) = Y1 at *
       generalize Y.heap.size = g0 at *
       (refine ratHx 25 (fun K hK => ?_); go_simp)
       refine hK.out _ _ (hHeld.alloc _) (fun hHeld => ?_)
       clear hK K
       (try simp only [apS, apN, siA, scZ, scS])
       replace hrw := Lib.hid (hrw.out.below (below_alloc _ (.cells (triV g0).toArray 48)))
       replace hTd := Lib.hid (hTd.out.below (below_alloc _ (.cells (triV g0).toArray 48)))
       replace hRd := Lib.hid (hRd.out.below (below_alloc _ (.cells (triV g0).toArray 48)))
       (refine wpAnyH_ready (rs := [26]) (by decide +kernel) (by simp) ?_; refine AllReadyH.cons rfl (fun K hK => ?_) AllReadyH.nil)
       refine step_append_rows elemTrs (by rfl) (.tmp 31) (.tmp 56) (by rfl) (by rfl) (by rfl) hTd.out.own (rowsAt_new _ (triV g0) _) rfl (fun r hr => by rw [List.mem_singleton.1 hr]; rfl) (fun r hr u hu => by rw [List.mem_singleton.1 hr] at hu; rw [List.mem_singleton.1 hu]; rfl) (by rw [List.length_map, List.length_singleton]; exact hlz.out) (by decide) hHeld.bel.size ?_
       intro v9 w9 hown9 hg9 hob9
       have hT9 := Lib.hid (hTd.out.push hrw.out (by rw [World.size_alloc]; exact Nat.lt_succ_of_lt hg0.out) hnY.out hown9 hg9 hob9)
       have hR9 := Lib.hid (hRd.out.farI hg9 (fun a e => by cases e; exact hnb.out.symm))
       refine hK.out _ _ (hHeld.grow hg9 (fun g e => (OwnL.lt hTd.out.own g e).1) (fun x hx => by
        have hxb : x.1 = b := by
         simp only [List.mem_cons, List.not_mem_nil, or_false] at hx
         rcases hx with rfl | rfl | rfl | rfl | rfl | rfl <;> rfl
        rw [hxb]
        exact ⟨hnb.out, by rw [World.size_alloc]; exact Nat.lt_succ_of_lt hbY.out⟩)) (fun hHeld => ?_)
       clear hK K hg9 hob9 hown9 hrw hTd hRd
       (try simp only [apS, apN, siA, scZ, scS])
       refine tkHx 27 3 ?_
       refine wpAnyH_done (by kernel_rfl) ?_ _
       (try simp only [apS, apN, siA, scZ, scS])
       have hb9 := Lib.hid hHeld.bel
       clear hHeld
       go_wp2_with (go_at_call 91; refine (hwo.out _ hR9.out).mono ?_; rintro e w2 ⟨v2, rfl, hO2, hb2⟩)
       have hbn := Lib.hid (below_step hb9.out hb2)
       have hT2 := Lib.hid (hT9.out.below hb2)
       obtain ⟨A2, c2, rfl, hr2⟩ := hO2.form
       rw [List.length_map] at hO2 ⊢
       have hP2 := Lib.hid (pts_own hO2 hr2 hel.out.2 hsm2.out)
       have hcap2 := Lib.hid (hO2.capO (by rw [List.length_map]))
       have hne2 : Hid (∀ ad, A2 = some ad → (v9).ownBlock ≠ some ad.block) := fun ad e e2 => by
        have h3 := (hO2.blk ad e).1
        have h4 := (OwnL.lt hT9.out.own _ e2).2
        omega
       clear hO2 hr2 hb2
       go_wp2_with fail
       go_roundw
       case rel => exact ⟨q.eraseIdx j, A2, c2, f', _, (done ++ [[pa, pb, pc]]), (gs ++ [g0]), rfl, rfl, hcap2, hP2, hE2, hfq2, hT2, hne2, (hl2 g0), hbn⟩
       case measure => simp [lenV]; have := hel.out.1; omega
     ·rw [h1] at hec
      rw [if_neg (by rw [h1]; decide), List.nil_append] at hTr
      replace hec := Lib.hid hec
      have hE2 : Hid (T = done ++ Cal.trisR f' (q.eraseIdx j)) := by show _ = _; rw [hE.out, hTr]
      have hl2 : Hid (gs.length + (q.eraseIdx j).length ≤ ps.length) := by have := hl.out; have := hel.out.1; show _ ≤ _; omega
      clear hst hj1 hj2 hTr h1 hear hE hl hfq
      by_cases hk2 : k < q.length
      ·have hkk : (k : Int) < (q.length : Int) := by omega
       go_wp2_with (go_at_call 90; refine hec.out.mono ?_; rintro e w1 ⟨rfl, hb1⟩; have hbk := Lib.hid (hbi.out.trans (hb1.mono hbi.out.size)); clear hb1)
       have hTk := Lib.hid (hT.out.below hbk.out)
       have hbK := Lib.hid (below_step hb.out hbk.out)
       go_wp2_with (go_at_call 91; refine (hwo.out _ (hPq.out.rows.below hbk.out)).mono ?_; rintro e w2 ⟨v2, rfl, hO2, hb2⟩)
       have hbn := Lib.hid (below_step hbK.out hb2)
       have hT2 := Lib.hid (hTk.out.below hb2)
       obtain ⟨A2, c2, rfl, hr2⟩ := hO2.form
       rw [List.length_map] at hO2 ⊢
       have hP2 := Lib.hid (pts_own hO2 hr2 hel.out.2 hsm2.out)
       have hcap2 := Lib.hid (hO2.capO (by rw [List.length_map]))
       have hne2 : Hid (∀ ad, A2 = some ad → (u3).ownBlock ≠ some ad.block) := fun ad e e2 => by
        have h3 := (hO2.blk ad e).1
        have h4 := (OwnL.lt hTk.out.own _ e2).2
        omega
       clear hO2 hr2 hb2
       go_wp2_with fail
       go_roundw
       case rel => exact ⟨q.eraseIdx j, A2, c2, f', _, done, gs, rfl, rfl, hcap2, hP2, hE2, hfq2, hT2, hne2, hl2, hbn⟩
       case measure => simp [lenV]; have := hel.out.1; omega
      ·have hkk : ¬ (k : Int) < (q.length : Int) := by omega
       go_wp2_with (go_at_call 90; refine hec.out.mono ?_; rintro e w1 ⟨rfl, hb1⟩; have hbk := Lib.hid (hbi.out.trans (hb1.mono hbi.out.size)); clear hb1)
       have hTk := Lib.hid (hT.out.below hbk.out)
       have hbK := Lib.hid (below_step hb.out hbk.out)
       go_wp2_with (go_at_call 91; refine (hwo.out _ (hPq.out.rows.below hbk.out)).mono ?_; rintro e w2 ⟨v2, rfl, hO2, hb2⟩)
       have hbn := Lib.hid (below_step hbK.out hb2)
       have hT2 := Lib.hid (hTk.out.below hb2)
       obtain ⟨A2, c2, rfl, hr2⟩ := hO2.form
       rw [List.length_map] at hO2 ⊢
       have hP2 := Lib.hid (pts_own hO2 hr2 hel.out.2 hsm2.out)
       have hcap2 := Lib.hid (hO2.capO (by rw [List.length_map]))
       have hne2 : Hid (∀ ad, A2 = some ad → (u3).ownBlock ≠ some ad.block) := fun ad e e2 => by
        have h3 := (hO2.blk ad e).1
        have h4 := (OwnL.lt hTk.out.own _ e2).2
        omega
       clear hO2 hr2 hb2
       go_wp2_with fail
       go_roundw
       case rel => exact ⟨q.eraseIdx j, A2, c2, f', _, done, gs, rfl, rfl, hcap2, hP2, hE2, hfq2, hT2, hne2, hl2, hbn⟩
       case measure => simp [lenV]; have := hel.out.1; omega
  ·have hki : ¬ (2 : Int) < (q.length : Int) := by omega
   have hTe : Hid (T = done) := by show _ = _; rw [hE.out, Cal.trisR_short (by omega), List.append_nil]
   go_wp2_with fail
   go_ret
   exact ⟨_, rfl, ⟨gs, by rw [hTe.out]; exact hT.out⟩, hb.out⟩
end Go.Proofs.Ytfcjeejhdklkdaa
namespace Go.Proofs.Ytfcjeejhdklkdaa
open Go Go.RowKit Go.Shelf
theorem cor_mem {p : List Pt} {k : Nat} (h : k < p.length) : p[k]?.getD Cal.pt0 ∈ p := by
 rw [List.getElem?_eq_getElem h]; exact List.getElem_mem h
theorem trisR_mem : ∀ (f : Nat) (p : List Pt), ∀ t ∈ Cal.trisR f p, ∃ x y z, t = [x, y, z] ∧ x ∈ p ∧ y ∈ p ∧ z ∈ p
 | 0, _, t, h => by cases h
 | f + 1, p, t, h => by
  unfold Cal.trisR at h
  split at h
  ·cases h
  ·rename_i h2
   split at h
   ·cases h
   ·rename_i i hi
    have hil : i < p.length := by
     unfold Cal.firstEar at hi
     exact List.mem_range.1 (List.mem_of_find?_eq_some hi)
    rcases List.mem_append.1 h with h | h
    ·split at h
     ·rw [List.mem_singleton.1 h]
      exact ⟨_, _, _, rfl, cor_mem (Nat.mod_lt _ (by omega)), cor_mem hil, cor_mem (Nat.mod_lt _ (by omega))⟩
     ·cases h
    ·obtain ⟨x, y, z, e, hx, hy, hz⟩ := trisR_mem f _ t h
     exact ⟨x, y, z, e, List.mem_of_mem_eraseIdx hx, List.mem_of_mem_eraseIdx hy, List.mem_of_mem_eraseIdx hz⟩
theorem trisR_len : ∀ (f : Nat) (p : List Pt), (Cal.trisR f p).length ≤ f
 | 0, _ => Nat.le_refl _
 | f + 1, p => by
  unfold Cal.trisR
  split
  ·exact Nat.zero_le _
  ·split
   ·exact Nat.zero_le _
   ·rename_i i _
    have := trisR_len f (p.eraseIdx i)
    rw [List.length_append]
    split
    ·rw [List.length_singleton]; omega
    ·rw [List.length_nil]; omega
def meetT (s t : List Pt) : Bool := !Cal.apartR s t && !Cal.apartR t s
theorem any_drop {α : Type} {f : α → Bool} {l : List α} {k : Nat} (h : k < l.length) : (l.drop k).any f = (f l[k] || (l.drop (k + 1)).any f) := by
 rw [List.drop_eq_getElem_cons h, List.any_cons]
theorem TrsR.tri {w : World} {A : Option Addr} {T : List (List Pt)} {gs : List Nat} {p : List Pt} (h : TrsR w A T gs) (hT : ∀ t ∈ T, ∃ x y z, t = [x, y, z] ∧ x ∈ p ∧ y ∈ p ∧ z ∈ p) (hs : ∀ q ∈ p, SmP q) {i : Nat} (hi : i < T.length) :
  ∃ b o g x y z, A = some ⟨b, o, none⟩ ∧ b < w.heap.size ∧ w.cell? ⟨b, o + i, none⟩ = some (.slice (some ⟨g, 0, none⟩) 3 3) ∧ T[i] = [x, y, z] ∧ SmP x ∧ SmP y ∧ SmP z ∧ Pts w (some ⟨g, 0, none⟩) [x, y, z] := by
 obtain ⟨b, o, g, h1, h2, h3, h4, h5⟩ := h.at_ (List.getElem?_eq_getElem hi)
 obtain ⟨x, y, z, e, hx, hy, hz⟩ := hT _ (List.getElem_mem hi)
 rw [e] at h4
 refine ⟨b, o, g, x, y, z, h1, h2, h3, e, hs x hx, hs y hy, hs z hz, h4, by simp, fun q hq => ?_, fun ad e _ => by cases e; exact h5⟩
 rcases List.mem_cons.1 hq with rfl | hq
 ·exact hs _ hx
 ·rcases List.mem_cons.1 hq with rfl | hq
  ·exact hs _ hy
  ·rw [List.mem_singleton.1 hq]; exact hs _ hz
theorem OverlapR_any (V : Option Addr) (d : Nat) (a : List Pt) (V2 : Option Addr) (d2 : Nat) (c : List Pt) (w : World) (hA : Pts w V a) (hd : a.length ≤ d) (hC : Pts w V2 c) (hd2 : c.length ≤ d2) :
  Calls Try.prog 29 #[.slice V a.length d, .slice V2 c.length d2] w fun e w' => e = .returned (.bool (Cal.overR a c)) ∧ Below w.heap.size w w' := by
 have ht1 := Lib.hid (TrianglesR_any V d a w hA hd)
 have ht2 := Lib.hid (fun W (hW : Below w.heap.size w W) => TrianglesR_any V2 d2 c W (hC.below hW) hd2)
 have hm1 := Lib.hid (trisR_mem a.length a)
 have hm2 := Lib.hid (trisR_mem c.length c)
 have hs1 := Lib.hid hA.sm
 have hl1 : (Cal.trisOf a).length ≤ 1000000 := Nat.le_trans (trisR_len _ _) hA.size
 have hl2 : (Cal.trisOf c).length ≤ 1000000 := Nat.le_trans (trisR_len _ _) hC.size
 have hs2 := Lib.hid hC.sm
 obtain ⟨R, hR⟩ : ∃ R, Cal.overR a c = R := ⟨_, rfl⟩
 rw [hR]
 have hR0 : Hid (R = ((Cal.trisOf a).drop 0).any fun s => (Cal.trisOf c).any fun t => meetT s t) := hR.symm
 change Hid (∀ t ∈ Cal.trisOf a, _) at hm1
 change Hid (∀ t ∈ Cal.trisOf c, _) at hm2
 clear hR hA hC
 go_enter Try.func29, Try.ntmps29
 go_wp2_with (first
  |(clear ht2; fail)
  |(go_at_call 64; refine ht1.out.mono ?_; clear ht1; rintro e w1 ⟨v1, gs1, rfl, hT1, hb1⟩; have hT1 := Lib.hid hT1; have hb1 := Lib.hid hb1)
  |(go_at_call 64; refine (ht2.out _ hb1.out).mono ?_; clear ht2; rintro e w2 ⟨v2, gs2, rfl, hT2, hb2⟩; have hT3 := Lib.hid (hT1.out.below hb2); have hb3 := Lib.hid (below_step hb1.out hb2); have hT2 := Lib.hid hT2; clear hb2 hT1))
 obtain ⟨A1, c1, rfl, hr1⟩ := hT3.out.read
 obtain ⟨A2, c2, rfl, hr2⟩ := hT2.out.read
 replace hr1 := Lib.hid hr1
 replace hr2 := Lib.hid hr2
 have hb0 : Hid (Below w2.heap.size w2 w2) := Below.refl _ _
 clear hT3 hT2
 generalize Cal.trisOf a = Ta at *
 generalize Cal.trisOf c = Tc at *
 go_loopw [7] (fun iv wr => ∃ i : Nat, i ≤ Ta.length ∧ iv = .int .i64 i ∧ Hid (R = (Ta.drop i).any fun s => Tc.any fun t => meetT s t) ∧ Hid (Below w2.heap.size w2 wr)) (fun iv _ => Ta.length - (intOf iv).toNat)
 case atStart => exact ⟨0, Nat.zero_le _, rfl, hR0, hb0⟩
 case round =>
  clear hR0 hb0
  obtain ⟨i, hi, rfl, hR, hb⟩ := hrel
  by_cases hlt : i < Ta.length
  ·have hii : (i : Int) < (Ta.length : Int) := by omega
   have hR1 : Hid (R = ((Tc.drop 0).any (fun t => meetT Ta[i] t) || (Ta.drop (i + 1)).any fun s => Tc.any fun t => meetT s t)) := by show _ = _; rw [hR.out, any_drop hlt]; rfl
   clear hR
   generalize hwo : wr = wo at *
   clear hwo wr
   go_wp2_with fail
   go_loopw [8] (fun kv wr => ∃ k : Nat, k ≤ Tc.length ∧ kv = .int .i64 k ∧ Hid (R = ((Tc.drop k).any (fun t => meetT Ta[i] t) || (Ta.drop (i + 1)).any fun s => Tc.any fun t => meetT s t)) ∧ Hid (Below w2.heap.size w2 wr)) (fun kv _ => Tc.length - (intOf kv).toNat)
   case atStart => exact ⟨0, Nat.zero_le _, rfl, hR1, hb⟩
   case round =>
    clear hR1 hb
    obtain ⟨k, hk, rfl, hR, hb⟩ := hrel
    by_cases hlk : k < Tc.length
    ·have hkk : (k : Int) < (Tc.length : Int) := by omega
     obtain ⟨bA, oA, g1, x1, y1, z1, rfl, _, e1, ht1, sx1, sy1, sz1, hp1⟩ := (hr1.out.below hb.out).tri hm1.out hs1.out hlt
     obtain ⟨bB, oB, g2, x2, y2, z2, rfl, _, e2, ht2, sx2, sy2, sz2, hp2⟩ := (hr2.out.below hb.out).tri hm2.out hs2.out hlk
     have hst : R = (meetT Ta[i] Tc[k] || ((Tc.drop (k + 1)).any (fun t => meetT Ta[i] t) || (Ta.drop (i + 1)).any fun s => Tc.any fun t => meetT s t)) := by rw [hR.out, any_drop hlk, Bool.or_assoc]
     have hmt : meetT Ta[i] Tc[k] = (!Cal.apartR [x1, y1, z1] [x2, y2, z2] && !Cal.apartR [x2, y2, z2] [x1, y1, z1]) := by unfold meetT; rw [ht1, ht2]
     rw [hmt] at hst
     have hap1 := Lib.hid (fun W (hW : Below wr.heap.size wr W) => apartR_any (some ⟨g1, 0, none⟩) 3 [x1, y1, z1] (some ⟨g2, 0, none⟩) 3 x2 y2 z2 W (hp1.below hW) rfl (hp2.below hW).rows sx2 sy2 sz2)
     have hap2 := Lib.hid (fun W (hW : Below wr.heap.size wr W) => apartR_any (some ⟨g2, 0, none⟩) 3 [x2, y2, z2] (some ⟨g1, 0, none⟩) 3 x1 y1 z1 W (hp2.below hW) rfl (hp1.below hW).rows sx1 sy1 sz1)
     clear hR hmt ht1 ht2 hp1 hp2 sx1 sy1 sz1 sx2 sy2 sz2
     generalize Cal.apartR [x1, y1, z1] [x2, y2, z2] = q1 at *
     generalize Cal.apartR [x2, y2, z2] [x1, y1, z1] = q2 at *
     cases q1
     ·cases q2
      ·have hRt : Hid (R = true) := by show _ = _; rw [hst]; rfl
       clear hst
       go_wp2_with fail
       refine wp_region_held_drew (S := Sx wr [(bA, oA + i, .slice (some ⟨g1, 0, none⟩) 3 3), (bB, oB + k, .slice (some ⟨g2, 0, none⟩) 3 3)]) (by kernel_rfl) (Sx.mk (by simp only [cs_iff_cons]; exact ⟨e1, e2, cs_nil _⟩) (Below.refl _ _)).drew (fun hHeld => ?_)
       clear e1 e2
       refine tkHx 0 25 ?_
       refine tkHx 1 26 ?_
       refine tkHx 2 27 ?_
       refine tkHx 3 28 ?_
       refine tkHx 4 29 ?_
       refine tkHx 5 30 ?_
       refine tkHx 6 31 ?_
       refine tkHx 7 32 ?_
       (refine ratHx 8 (fun K hK => ?_); go_simp)
       refine (hap1.out _ hHeld.bel).mono ?_
       rintro e wn ⟨rfl, hbn⟩
       go_simp
       (refine hK.out _ _ (hHeld.step hbn) (fun hHeld => ?_); clear hK K; (try simp only [apS, apN, siA, scZ, scS]))
       refine tkHx 9 34 ?_
       refine tkHx 10 35 ?_
       refine tkHx 11 36 ?_
       refine tkHx 12 37 ?_
       refine tkHx 13 38 ?_
       refine tkHx 14 39 ?_
       refine tkHx 15 40 ?_
       refine tkHx 16 41 ?_
       refine tkHx 17 42 ?_
       refine tkHx 18 43 ?_
       (refine ratHx 19 (fun K hK => ?_); go_simp)
       refine (hap2.out _ hHeld.bel).mono ?_
       rintro e wn ⟨rfl, hbn⟩
       go_simp
       (refine hK.out _ _ (hHeld.step hbn) (fun hHeld => ?_); clear hK K; (try simp only [apS, apN, siA, scZ, scS]))
       refine tkHx 20 45 ?_
       refine tkHx 21 46 ?_
       refine wpAnyH_done (by kernel_rfl) ?_ _
       (try simp only [apS, apN, siA, scZ, scS])
       have hbe := Lib.hid (hb3.out.trans ((hb.out.trans (hHeld.bel.mono hb.out.size)).mono hb3.out.size))
       clear hHeld
       go_wp2_with fail
       go_ret
       exact ⟨by rw [hRt.out]; rfl, hbe.out⟩
      ·have hR2 : Hid (R = ((Tc.drop (k + 1)).any (fun t => meetT Ta[i] t) || (Ta.drop (i + 1)).any fun s => Tc.any fun t => meetT s t)) := by show _ = _; rw [hst]; rfl
       clear hst
       go_wp2_with fail
       refine wp_region_held_drew (S := Sx wr [(bA, oA + i, .slice (some ⟨g1, 0, none⟩) 3 3), (bB, oB + k, .slice (some ⟨g2, 0, none⟩) 3 3)]) (by kernel_rfl) (Sx.mk (by simp only [cs_iff_cons]; exact ⟨e1, e2, cs_nil _⟩) (Below.refl _ _)).drew (fun hHeld => ?_)
       clear e1 e2
       refine tkHx 0 25 ?_
       refine tkHx 1 26 ?_
       refine tkHx 2 27 ?_
       refine tkHx 3 28 ?_
       refine tkHx 4 29 ?_
       refine tkHx 5 30 ?_
       refine tkHx 6 31 ?_
       refine tkHx 7 32 ?_
       (refine ratHx 8 (fun K hK => ?_); go_simp)
       refine (hap1.out _ hHeld.bel).mono ?_
       rintro e wn ⟨rfl, hbn⟩
       go_simp
       (refine hK.out _ _ (hHeld.step hbn) (fun hHeld => ?_); clear hK K; (try simp only [apS, apN, siA, scZ, scS]))
       refine tkHx 9 34 ?_
       refine tkHx 10 35 ?_
       refine tkHx 11 36 ?_
       refine tkHx 12 37 ?_
       refine tkHx 13 38 ?_
       refine tkHx 14 39 ?_
       refine tkHx 15 40 ?_
       refine tkHx 16 41 ?_
       refine tkHx 17 42 ?_
       refine tkHx 18 43 ?_
       (refine ratHx 19 (fun K hK => ?_); go_simp)
       refine (hap2.out _ hHeld.bel).mono ?_
       rintro e wn ⟨rfl, hbn⟩
       go_simp
       (refine hK.out _ _ (hHeld.step hbn) (fun hHeld => ?_); clear hK K; (try simp only [apS, apN, siA, scZ, scS]))
       refine tkHx 20 45 ?_
       refine tkHx 21 46 ?_
       refine wpAnyH_done (by kernel_rfl) ?_ _
       (try simp only [apS, apN, siA, scZ, scS])
       have hbe := Lib.hid (hb.out.trans (hHeld.bel.mono hb.out.size))
       clear hHeld
       go_wp2_with fail
       go_roundw
       case rel => exact ⟨k + 1, by omega, by go_num, hR2, hbe⟩
       case measure => simp [intOf]; omega
     ·have hR2 : Hid (R = ((Tc.drop (k + 1)).any (fun t => meetT Ta[i] t) || (Ta.drop (i + 1)).any fun s => Tc.any fun t => meetT s t)) := by show _ = _; rw [hst]; rfl
      clear hst hap2
      go_wp2_with fail
      refine wp_region_held_drew (S := Sx wr [(bA, oA + i, .slice (some ⟨g1, 0, none⟩) 3 3), (bB, oB + k, .slice (some ⟨g2, 0, none⟩) 3 3)]) (by kernel_rfl) (Sx.mk (by simp only [cs_iff_cons]; exact ⟨e1, e2, cs_nil _⟩) (Below.refl _ _)).drew (fun hHeld => ?_)
      clear e1 e2
      refine tkHx 0 25 ?_
      refine tkHx 1 26 ?_
      refine tkHx 2 27 ?_
      refine tkHx 3 28 ?_
      refine tkHx 4 29 ?_
      refine tkHx 5 30 ?_
      refine tkHx 6 31 ?_
      refine tkHx 7 32 ?_
      (refine ratHx 8 (fun K hK => ?_); go_simp)
      refine (hap1.out _ hHeld.bel).mono ?_
      rintro e wn ⟨rfl, hbn⟩
      go_simp
      (refine hK.out _ _ (hHeld.step hbn) (fun hHeld => ?_); clear hK K; (try simp only [apS, apN, siA, scZ, scS]))
      refine tkHx 9 34 ?_
      refine tkHx 10 35 ?_
      refine tkFx 11 36 ?_
      refine tkFx 12 37 ?_
      refine tkFx 13 38 ?_
      refine tkFx 14 39 ?_
      refine tkFx 15 40 ?_
      refine tkFx 16 41 ?_
      refine tkFx 17 42 ?_
      refine tkFx 18 43 ?_
      refine tkFx 19 44 ?_
      refine tkFx 20 45 ?_
      refine tkHx 21 46 ?_
      refine wpAnyH_done (by kernel_rfl) ?_ _
      (try simp only [apS, apN, siA, scZ, scS])
      have hbe := Lib.hid (hb.out.trans (hHeld.bel.mono hb.out.size))
      clear hHeld
      go_wp2_with fail
      go_roundw
      case rel => exact ⟨k + 1, by omega, by go_num, hR2, hbe⟩
      case measure => simp [intOf]; omega
    ·have hRi : Hid (R = (Ta.drop (i + 1)).any fun s => Tc.any fun t => meetT s t) := by show _ = _; rw [hR.out, List.drop_of_length_le (by omega)]; rfl
     go_wp2_with fail
     go_roundw
     case rel => exact ⟨i + 1, by omega, by go_num, hRi, hb⟩
     case measure => simp [intOf]; omega
  ·have hRf : Hid (R = false) := by show _ = _; rw [hR.out, List.drop_of_length_le (by omega)]; rfl
   have hbe := Lib.hid (hb3.out.trans (hb.out.mono hb3.out.size))
   go_wp2_with fail
   go_ret
   exact ⟨by rw [hRf.out]; rfl, hbe.out⟩
end Go.Proofs.Ytfcjeejhdklkdaa
namespace Go.Proofs.Ytfcjeejhdklkdaa
open Go Go.RowKit Go.Shelf
theorem few2_any (V : Option Addr) (n d : Nat) (w : World) : Calls Try.prog 26 #[.slice V n d] w fun e w' => e = .returned (.bool (fewL n)) ∧ Below w.heap.size w w' := by
 by_cases hn : n ≤ 1000000
 ·exact few_any V n d w hn
 ·have hf : Hid (fewL n = false) := by show _ = _; unfold fewL; rw [decide_eq_false (by omega), decide_eq_false (by omega : ¬ n ≤ 60)]; simp
  have hi : ¬ (n : Int) ≤ 10 := by omega
  have hi2 : (40 : Int) < n := by omega
  have hi3 : ¬ (n : Int) ≤ 60 := by omega
  go_enter Try.func26, Try.ntmps26
  go_wp2_with fail
  go_ret
  exact ⟨by rw [hf.out]; rfl, blw⟩
theorem fewL_le {n : Nat} (h : fewL n = true) : n ≤ 60 := by
 unfold fewL at h
 rw [Bool.or_eq_true, Bool.and_eq_true, decide_eq_true_iff, decide_eq_true_iff, decide_eq_true_iff] at h
 omega
end Go.Proofs.Ytfcjeejhdklkdaa
namespace Go.Proofs.Ytfcjeejhdklkdaa
open Go Go.RowKit Go.Shelf
theorem polyE_40 {ps : List Pt} (h : Cal.polyE ps = 0) : ps.length ≤ 40 := by
 unfold Cal.polyE at h
 split at h
 ·cases h
 ·omega
theorem few_le {ps : List Pt} (hf : fewL ps.length = true) (h : Cal.polyE ps = 0) : ps.length ≤ 10 := by
 have h4 := polyE_40 h
 unfold fewL at hf
 rw [Bool.or_eq_true, Bool.and_eq_true, decide_eq_true_iff, decide_eq_true_iff, decide_eq_true_iff] at hf
 omega
end Go.Proofs.Ytfcjeejhdklkdaa
