/- What the statements rest on: definitions and walks, part 28. -/
import Derived.Test.YtfcjeejhdklkdaaJ27
import Derived.Test.YtfcjeejhdklkdaaJ26
namespace Go.Proofs.Ytfcjeejhdklkdaa
open Go Go.RowKit Go.Shelf
set_option maxRecDepth 100000 in
set_option maxHeartbeats 4000000 in
theorem Residuals_any (N : Int) (A : Option Addr) (c : Nat) (l : List Lev) (B : Option Addr) (d : Nat) (fr : List (Int × Int)) (w : World) (hL : Levs w A l) (hF : RowsAt w B 2 (fr.map frR)) (hs : fr.length ≤ 1000000)
    (hv : ∀ h ∈ fr, (-9223372036854775808 ≤ h.1 ∧ h.1 ≤ 9223372036854775807) ∧ (-9223372036854775808 ≤ h.2 ∧ h.2 ≤ 9223372036854775807)) :
    Calls Try.prog 17 #[.int .i64 N, .slice A l.length c, .slice B fr.length d] w fun e w' => ∃ v, e = .returned (.tuple #[v, .int .i64 (Cal.resE N l fr)]) ∧ OwnL w' w.heap.size 38 2 v ((Cal.resFr N l fr).map frR) ∧ Below w.heap.size w w' := by
  have hres := Lib.hid (residuals_any N A c l B d fr w hL hF hs hv)
  by_cases he : Cal.resE N l fr = 0
  · have hz : Cal.netE N l = 0 := by
      unfold Cal.resE at he
      split at he
      · assumption
      · rename_i h; exact absurd he h
    have hse : Cal.sclE N fr = 0 := by
      unfold Cal.resE at he
      rw [if_pos hz] at he
      exact he
    have hP : Cal.resPN N l fr = Cal.sclP N fr := by unfold Cal.resPN; rw [if_pos hz]
    have hRL : Cal.resLN N l fr = Cal.resL (Cal.sclP N fr) fr l := by unfold Cal.resLN; rw [if_pos he]
    have hbox : Hid (∀ r ∈ Cal.resLN N l fr, -16400000000000000 ≤ r ∧ r ≤ 16400000000000000) := fun r hr => by
      rw [hRL] at hr
      unfold Cal.resL at hr
      obtain ⟨x, hx, rfl⟩ := List.mem_map.1 hr
      exact Cal.resV_box hz hse x hx
    obtain ⟨hq1, hq2, hp1, hp2, hq3⟩ := Cal.sclE_zero hse
    clear hq1 hq2 hq3
    have hrl : (Cal.resLN N l fr).length ≤ 20 := by rw [hRL]; unfold Cal.resL; rw [List.length_map]; exact (Cal.netE_zero hz).2.2.1
    have hFr : Hid (Cal.resFr N l fr = (Cal.resLN N l fr).map fun r => (Cal.lowN r (Cal.sclP N fr), Cal.lowD r (Cal.sclP N fr))) := by show _ = _; unfold Cal.resFr; rw [hP]
    rw [he]
    rw [he, hP] at hres
    rw [hFr.out]
    clear hz hse hP hRL he hFr
    generalize Cal.resLN N l fr = rs at *
    generalize Cal.sclP N fr = p at *
    go_enter Try.func17, Try.ntmps17
    go_wp2_with (go_at_call 55; refine hres.out.mono ?_; rintro e0 w2 ⟨vh, rfl, hH, hb2⟩; obtain ⟨A7, c7, rfl, hH7⟩ := hH.rows; replace hH7 := Lib.hid hH7; replace hb2 := Lib.hid hb2; clear hres hH)
    have hb2s := Lib.hid hb2.out.size
    have hO0 : Hid (OwnL w2 w2.heap.size 38 2 (.slice none 0 0) (((rs.take 0).map fun r => (Cal.lowN r p, Cal.lowD r p)).map frR)) := by show OwnL _ _ _ _ _ _; rw [List.take_zero]; exact OwnL.nil _ _ _ _
    have hbw : Hid (Below w2.heap.size w2 w2) := Below.refl _ _
    go_loopw [11, 27] (fun ov i wz => ∃ (k : Nat) (v : Value), k ≤ rs.length ∧ i = .int .i64 k ∧ ov = v ∧ Hid (OwnL wz w2.heap.size 38 2 v (((rs.take k).map fun r => (Cal.lowN r p, Cal.lowD r p)).map frR)) ∧ Hid (Below w2.heap.size w2 wz)) (fun _ i _ => rs.length - (intOf i).toNat)
    case atStart => exact ⟨0, _, Nat.zero_le _, rfl, rfl, hO0, hbw⟩
    case round =>
      clear hO0 hbw
      obtain ⟨k, v, hk, rfl, rfl, hO, hbw⟩ := hrel
      by_cases hlt : k < rs.length
      · have htk : Hid (((rs.take (k + 1)).map fun r => (Cal.lowN r p, Cal.lowD r p)).map frR = (((rs.take k).map fun r => (Cal.lowN r p, Cal.lowD r p)).map frR) ++ [[.int .i64 (Cal.lowN rs[k] p), .int .i64 (Cal.lowD rs[k] p)]]) := by show _ = _; rw [List.take_succ_eq_append_getElem hlt, List.map_append, List.map_append]; rfl
        have hol : (((rs.take k).map fun r => (Cal.lowN r p, Cal.lowD r p)).map frR).length ≤ 100 := by rw [List.length_map, List.length_map, List.length_take]; omega
        obtain ⟨rows, hrows⟩ : ∃ rows, ((rs.take k).map fun r => (Cal.lowN r p, Cal.lowD r p)).map frR = rows := ⟨_, rfl⟩
        rw [hrows] at hO htk hol
        have hbk := hbox.out _ (List.getElem_mem hlt)
        have hki : (k : Int) < (rs.length : Int) := by omega
        obtain ⟨b7, o7, rfl, hb7, g0⟩ := intsI_at (hH7.out.below hbw.out) hlt
        generalize rs[k] = r at *
        have hlow := Lib.hid (fun W => lowest_any r p W (by omega) (by omega) (by omega))
        have hws := Lib.hid hbw.out.size
        clear hrows hbk
        go_wp2_with (first
          | (go_at_call 52; refine (hlow.out _).mono ?_; rintro e0 x3 ⟨rfl, hbx3⟩; have hz3 := Lib.hid (hbw.out.trans (hbx3.mono hbw.out.size)); have hO3 := Lib.hid ((hO.out.below hbx3).below (below_alloc x3 (.cells #[.int .i64 (Cal.lowN r p), .int .i64 (Cal.lowD r p)] 38))); have hsrc := Lib.hid (rowsAt_new x3 [.int .i64 (Cal.lowN r p), .int .i64 (Cal.lowD r p)] 38); clear hbx3)
          | (at_builtin; go_must (refine wpList_append_rows elemFr rfl _ _ rfl rfl rfl hO3.out hsrc.out rfl (fun r hr => by rw [List.mem_singleton.1 hr]; rfl) (fun r hr u hu => by rw [List.mem_singleton.1 hr] at hu; rcases List.mem_cons.1 hu with e | hu; rw [e]; rfl; rw [List.mem_singleton.1 hu]; rfl) (by simp only [List.length_singleton]; omega) (by decide) (by have h2 := hz3.out.size; simp; omega) ?_); intro v' x4 hown7 hg7 hob7))
        have hO4 : Hid (OwnL x4 w2.heap.size 38 2 v' (((rs.take (k + 1)).map fun r => (Cal.lowN r p, Cal.lowD r p)).map frR)) := by show OwnL _ _ _ _ _ _; rw [htk.out]; exact hown7
        have hb4 : Hid (Below w2.heap.size w2 x4) := (below_step hz3.out (below_alloc x3 (.cells #[.int .i64 (Cal.lowN r p), .int .i64 (Cal.lowD r p)] 38))).trans (grown_below hg7 (fun g e => (OwnL.lt hO3.out g e).1) (by have h2 := hz3.out.size; simp; omega))
        clear hown7 hg7 hob7 hO3 hz3 hlow hsrc htk
        go_wp2_with fail
        go_roundw
        case rel => exact ⟨k + 1, _, by omega, by go_num, rfl, hO4, hb4⟩
        case measure => simp [intOf]; omega
      · obtain rfl : k = rs.length := by omega
        rw [List.take_length] at hO
        have hbz : Hid (Below w.heap.size w wr) := hb2.out.trans (hbw.out.mono hb2s.out)
        have hOz := Lib.hid (OwnL.less hO.out hb2s.out)
        clear hO hbw
        go_wp2_with fail
        go_ret2
        exact ⟨_, rfl, hOz.out, hbz.out⟩
  · have heb : (Cal.resE N l fr == 0) = false := by simpa using he
    have hec : (Cal.resE N l fr != 0) = true := by simpa using he
    have hLL : Cal.resFr N l fr = [] := by unfold Cal.resFr Cal.resLN; rw [if_neg he]; rfl
    rw [hLL]
    clear hLL
    go_enter Try.func17, Try.ntmps17
    go_wp2_with (go_at_call 55; refine hres.out.mono ?_; rintro e0 w2 ⟨vh, rfl, hH, hb2⟩; replace hb2 := Lib.hid hb2; clear hres hH)
    go_ret2
    exact ⟨_, rfl, OwnL.nil _ _ _ _, hb2.out⟩
end Go.Proofs.Ytfcjeejhdklkdaa
namespace Go.Proofs.Ytfcjeejhdklkdaa.Cal
end Go.Proofs.Ytfcjeejhdklkdaa.Cal
namespace Go.Proofs.Ytfcjeejhdklkdaa
open Go Go.RowKit Go.Shelf
/-- The sums in memory, in the first block that is laid. -/
structure SmsI (w : World) (n : Nat) (g : Nat → Int) (W : World) : Prop where
  row : W.rowIs w.heap.size 3 n (fun j => .int .i64 (g j))
  bel : Below w.heap.size w W
theorem SmsI.below {w : World} {n : Nat} {g : Nat → Int} {W W' : World} (h : SmsI w n g W) (hb : Below W.heap.size W W') : SmsI w n g W' := ⟨h.row.of_block (hb.block _ h.row.lt), below_step h.bel hb⟩
theorem SmsI.set {w : World} {n : Nat} {g : Nat → Int} {W : World} (h : SmsI w n g W) (a : Nat) (x : Int) : SmsI w n (updR g a x) (W.setCell ⟨w.heap.size, a, none⟩ (.int .i64 x)) :=
  ⟨(h.row.set a _).congr (fun j _ => by unfold updR; split <;> rfl), h.bel.setCell (p := ⟨w.heap.size, a, none⟩) (Nat.le_refl _) _⟩
theorem SmsI.start (w : World) (n : Nat) : SmsI w n (fun _ => 0) (w.alloc (.cells (madeCells #[.int .i64 0] n) 3)) := ⟨World.rowIs_made w (.int .i64 0) n 3, below_alloc _ _⟩
end Go.Proofs.Ytfcjeejhdklkdaa
namespace Go.Proofs.Ytfcjeejhdklkdaa
open Go Go.RowKit Go.Shelf
end Go.Proofs.Ytfcjeejhdklkdaa
