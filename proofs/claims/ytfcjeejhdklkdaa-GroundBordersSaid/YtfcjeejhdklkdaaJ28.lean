/- What the statements rest on: definitions and walks, part 28. -/
import Derived.Test.YtfcjeejhdklkdaaJ24
set_option maxRecDepth 100000
set_option maxHeartbeats 16000000
set_option linter.unusedSimpArgs false
set_option linter.unusedVariables false
namespace Go.Proofs.Ytfcjeejhdklkdaa
open Go Go.RowKit
def Cal.rest (u : Nat) : List UInt8 := if u = 0 then [] else Lib.decDigits u
def DecI (U u : Nat) (s : ByteArray) : Prop := (s.data.toList = [] ∧ u = U) ∨ (s.data.toList ≠ [] ∧ Cal.rest u ++ s.data.toList = Lib.decDigits U)
theorem DecI.done {U : Nat} {s : ByteArray} (h : DecI U 0 s) (hc : s.data.toList ≠ []) : s.data.toList = Lib.decDigits U := by
 rcases h with ⟨h1, _⟩ | ⟨_, h2⟩
 ·exact absurd h1 hc
 ·unfold Cal.rest at h2; simpa using h2
end Go.Proofs.Ytfcjeejhdklkdaa
namespace Go.Proofs.Ytfcjeejhdklkdaa.Cal
open Go.Lib
def cutT (c : UInt8) : List UInt8 → List (List UInt8)
 | [] => [[]]
 | x :: r => if x = c then [] :: cutT c r else (x :: (cutT c r).headD []) :: (cutT c r).tail
theorem cutT_free {c : UInt8} {a : List UInt8} (h : c ∉ a) : cutT c a = [a] := by
 induction a with
 | nil => rfl
 | cons x r ih =>
  have hx : x ≠ c := fun e => h (e ▸ List.mem_cons_self)
  rw [cutT, if_neg hx, ih (fun hm => h (List.mem_cons_of_mem _ hm))]; rfl
structure CutTo (c : UInt8) (l : List UInt8) (out : List (List UInt8)) (st i : Nat) : Prop where
 all : out ++ cutT c (l.drop st) = cutT c l
 free : c ∉ (l.drop st).take (i - st)
 le : st ≤ i
theorem CutTo.done {c : UInt8} {l : List UInt8} {out : List (List UInt8)} {st : Nat} (h : CutTo c l out st l.length) : cutT c l = out ++ [l.drop st] := by
 have hf := h.free
 rw [List.take_of_length_le (by rw [List.length_drop]; omega)] at hf
 rw [← h.all, cutT_free hf]
end Go.Proofs.Ytfcjeejhdklkdaa.Cal
namespace Go.Proofs.Ytfcjeejhdklkdaa
open Go Go.RowKit
theorem list_len (s : ByteArray) : s.data.toList.length = s.size := (Lib.size_eq s).symm
def DecTo (l : List UInt8) (k m : Nat) : Prop := Lib.decFrom 0 (l.take k) = some m ∧ m < 10 ^ k
theorem DecTo.done {s : ByteArray} {m : Nat} (h : DecTo s.data.toList s.size m) (h1 : 1 ≤ s.size) : Lib.decNat s.data.toList = some m := by
 have hl := list_len s
 have h0 := h.1
 rw [List.take_of_length_le (by omega)] at h0
 unfold Lib.decNat
 rw [if_neg (by rw [List.isEmpty_iff]; intro e; rw [e] at hl; simp at hl; omega)]
 exact h0
end Go.Proofs.Ytfcjeejhdklkdaa
namespace Go.Proofs.Ytfcjeejhdklkdaa
open Go Go.RowKit Go.Shelf
def fewL (n : Nat) : Bool := decide (n ≤ 10) || (decide (40 < n) && decide (n ≤ 60))
theorem few_any (V : Option Addr) (n d : Nat) (w : World) (hn : n ≤ 1000000) : Calls Try.prog 26 #[.slice V n d] w fun e w' => e = .returned (.bool (fewL n)) ∧ Below w.heap.size w w' := by
 have hlo : IntKind.i64.wrap (n : Int) = (n : Int) := wrap_small (by omega) (by omega)
 by_cases h1 : n ≤ 10
 ·have hf : Hid (fewL n = true) := by show _ = _; unfold fewL; rw [decide_eq_true h1]; rfl
  have hi : (n : Int) ≤ 10 := by omega
  go_enter Try.func26, Try.ntmps26
  go_wp2_with fail
  go_ret
  exact ⟨by rw [hf.out]; rfl, blw⟩
 ·have hi : ¬ (n : Int) ≤ 10 := by omega
  by_cases h2 : 40 < n
  ·have hi2 : (40 : Int) < n := by omega
   by_cases h3 : n ≤ 60
   ·have hf : Hid (fewL n = true) := by show _ = _; unfold fewL; rw [decide_eq_true h2, decide_eq_true h3]; simp
    have hi3 : (n : Int) ≤ 60 := by omega
    go_enter Try.func26, Try.ntmps26
    go_wp2_with fail
    go_ret
    exact ⟨by rw [hf.out]; rfl, blw⟩
   ·have hf : Hid (fewL n = false) := by show _ = _; unfold fewL; rw [decide_eq_false h1, decide_eq_false h3]; simp
    have hi3 : ¬ (n : Int) ≤ 60 := by omega
    go_enter Try.func26, Try.ntmps26
    go_wp2_with fail
    go_ret
    exact ⟨by rw [hf.out]; rfl, blw⟩
  ·have hf : Hid (fewL n = false) := by show _ = _; unfold fewL; rw [decide_eq_false h1, decide_eq_false h2]; simp
   have hi2 : ¬ (40 : Int) < n := by omega
   go_enter Try.func26, Try.ntmps26
   go_wp2_with fail
   go_ret
   exact ⟨by rw [hf.out]; rfl, blw⟩
end Go.Proofs.Ytfcjeejhdklkdaa
namespace Go.Proofs.Ytfcjeejhdklkdaa
open Go Go.RowKit Go.Shelf
theorem undPtsW : Try.prog.underlying 48 = some (.slice (Try.prog.elem 48)) := by kernel_rfl
theorem sizePtW (w : World) : (sizeOf (Try.prog.elem 48)).run Try.prog w = .ok 2 w := by kernel_rfl
theorem cut_headP {t : TypeId} {m : Nat} (hu : Try.prog.underlying t = some (.slice (Try.prog.elem t))) (hz : ∀ w, (sizeOf (Try.prog.elem t)).run Try.prog w = .ok m w) {w : World} {A : Option Addr} {n c : Nat} {rows : List (List Value)} (hr : RowsAt w A m rows) (hc : n ≤ c) {k : Nat} (hk : k ≤ n) :
  ∃ A1 c1, (∀ w', (Instr.slice t (.slice A n c) none (some (.int .i64 (k : Int))) none).run Try.prog w' = .ok (.slice A1 k c1) w') ∧ RowsAt w A1 m (rows.take k) := by
 have hr1 : RowsAt w A m (rows.take k) := fun j r hr' => by
  refine hr j r ?_
  rw [List.getElem?_take] at hr'
  split at hr'
  ·exact hr'
  ·cases hr'
 refine ⟨if c = 0 then A else A.map (·.add (0 * m)), c - 0, fun w' => ?_, ?_⟩
 ·rw [run_slice_h w' t A n c hu .i64 k (by omega) (by omega), hz]
  simp [Result.andThen, sliced]
 ·split
  ·exact hr1
  ·intro j r hj
   obtain ⟨b, o, hA, hb, hcell⟩ := hr1 j r hj
   exact ⟨b, o, by rw [hA, Option.map_some, Nat.zero_mul]; rfl, hb, hcell⟩
theorem erase_rows {ps : List Pt} {k : Nat} : (ps.take k).map ptR ++ (ps.drop (k + 1)).map ptR = (ps.eraseIdx k).map ptR := by
 rw [← List.map_append, List.eraseIdx_eq_take_drop_succ]
theorem part_len {n k : Nat} (hk : k < n) (hn : n ≤ 1000000) : k ≤ 4000000000 ∧ k + (n - (k + 1)) ≤ 4000000000 ∧ min k n = k := by omega
theorem withoutR_any (V : Option Addr) (d : Nat) (ps : List Pt) (k : Nat) (w : World) (hP : RowsAt w V 2 (ps.map ptR)) (hd : ps.length ≤ d) (hk : k < ps.length) (hn : ps.length ≤ 1000000) :
  Calls Try.prog 91 #[.slice V ps.length d, .int .i64 (k : Int)] w fun e w' => ∃ v, e = .returned v ∧ OwnL w' w.heap.size 75 2 v ((ps.eraseIdx k).map ptR) ∧ Below w.heap.size w w' := by
 obtain ⟨A1, d1, hcut1, hr1⟩ := cut_headP undPtsW sizePtW hP hd (k := k) (by omega)
 obtain ⟨A2, d2, hcut2, _, hr2⟩ := cut_tail undPtsW sizePtW (n := ps.length) (c := d) (by rw [List.length_map]) hP hd (k := k + 1) (by omega)
 rw [← List.map_take] at hr1
 rw [← List.map_drop] at hr2
 have hcut1' : ∀ w', (Instr.slice 48 (.slice V ps.length d) none (some (.int .i64 (k : Int))) none).run Try.prog w' = .ok (.slice A1 k d1) w' := hcut1
 have hcut2' : ∀ w', (Instr.slice 48 (.slice V ps.length d) (some (.int .i64 ((k : Int) + 1))) none none).run Try.prog w' = .ok (.slice A2 (ps.length - (k + 1)) d2) w' := by
  have e : ((k + 1 : Nat) : Int) = (k : Int) + 1 := by omega
  rw [e] at hcut2
  exact hcut2
 have hk1 : IntKind.i64.wrap ((k : Int) + 1) = (k : Int) + 1 := wrap_small (by omega) (by omega)
 have hk1b : wrap64 ((k : Int) + 1) = (k : Int) + 1 := by rw [← wrap_eq]; exact hk1
 obtain ⟨q1, q2, q3⟩ := part_len hk hn
 have q1 := Lib.hid q1
 have q2 := Lib.hid q2
 have hl1 : Hid ((ps.take k).length = k) := by show _ = _; rw [List.length_take]; exact q3
 have hl2 : Hid ((ps.drop (k + 1)).length = ps.length - (k + 1)) := by show _ = _; rw [List.length_drop]
 replace hr1 := Lib.hid (hr1.below ((Below.refl _ _).drew))
 replace hr2 := Lib.hid (hr2.below ((Below.refl _ _).drew))
 have hws : Hid (w.heap.size ≤ w.drew.heap.size) := Nat.le_refl _
 clear q3 hcut1 hcut2 hP
 go_enter Try.func91, Try.ntmps91
 go_wp2_with fail
 refine wp_region_held_drew (S := Sx w []) (by kernel_rfl) (Sx.mk (cs_nil _) (Below.refl _ _)).drew (fun hHeld => ?_)
 generalize w.drew = Y at *
 refine tkHx 1 6 ?_
 refine tkHx 2 7 ?_
 refine tkHx 3 8 ?_
 refine tkHx 5 10 ?_
 refine tkHx 6 11 ?_
 refine tkHx 7 12 ?_
 refine tkHx 8 13 ?_
 (refine ratHx 0 (fun K hK => ?_); go_simp)
 refine hK.out _ _ (hHeld.alloc _) (fun hHeld => ?_)
 clear hK K
 (try simp only [apS, apN, siA, scZ, scS])
 have hmade := Lib.hid (OwnL.made Y Y.heap.size 75 2 (Nat.le_refl _))
 (refine wpAnyH_ready (rs := [4]) (by decide +kernel) (by simp) ?_; refine AllReadyH.cons rfl (fun K hK => ?_) AllReadyH.nil)
 refine step_append_rows elemPtW (by rfl) (.tmp 5) (.tmp 8) (by rfl) (by rfl) (by rfl) hmade.out (hr1.out.below (below_alloc _ _)) (by rw [List.length_map, hl1.out]) (ptRows_wid _) (ptRows_one _) (by rw [List.length_map, hl1.out, List.length_nil, Nat.zero_add]; exact q1.out) (by decide) (by rw [World.size_alloc]; exact Nat.le_succ _) ?_
 intro v1 w5 hown5 hg5 hob5
 have hb5 := Lib.hid (((Below.refl _ _).alloc (Nat.le_refl _) _).trans (grown_below hg5 (fun g e => (OwnL.lt hmade.out g e).1) (by rw [World.size_alloc]; exact Nat.le_succ _)) : Below Y.heap.size Y w5)
 refine hK.out _ _ (hHeld.grow hg5 (fun g e => Nat.le_trans hws.out (OwnL.lt hmade.out g e).1) (fun x hx => by cases hx)) (fun hHeld => ?_)
 clear hK K hg5 hob5
 (try simp only [apS, apN, siA, scZ, scS])
 (refine wpAnyH_ready (rs := [9]) (by decide +kernel) (by simp) ?_; refine AllReadyH.cons rfl (fun K hK => ?_) AllReadyH.nil)
 refine step_append_rows elemPtW (by rfl) (.tmp 9) (.tmp 13) (by rfl) (by rfl) (by rfl) hown5 (hr2.out.below hb5.out) (by rw [List.length_map, hl2.out]) (ptRows_wid _) (ptRows_one _) (by rw [List.length_map, hl2.out, List.nil_append, List.length_map, hl1.out]; exact q2.out) (by decide) hb5.out.size ?_
 intro v2 w6 hown6 hg6 hob6
 refine hK.out _ _ (hHeld.grow hg6 (fun g e => Nat.le_trans hws.out (OwnL.lt hown5 g e).1) (fun x hx => by cases hx)) (fun hHeld => ?_)
 clear hK K hg6 hob6
 rw [List.nil_append, erase_rows] at hown6
 (try simp only [apS, apN, siA, scZ, scS])
 dsimp only [List.getElem_toArray, List.getElem_cons_succ, List.getElem_cons_zero]
 (try simp only [apS, apN, siA, scZ, scS])
 refine tkHx 10 4 ?_
 refine wpAnyH_done (by kernel_rfl) ?_ _
 (try simp only [apS, apN, siA, scZ, scS])
 go_wp2_with fail
 go_ret
 exact ⟨v2, rfl, OwnL.less hown6 hws.out, hHeld.bel⟩
end Go.Proofs.Ytfcjeejhdklkdaa
namespace Go.Proofs.Ytfcjeejhdklkdaa
open Go Go.RowKit Go.Shelf
theorem sdsR_drop {ps : List Pt} {k : Nat} (h : k < ps.length) : (Cal.sds ps).drop k = Cal.sd ps k :: (Cal.sds ps).drop (k + 1) := by
 have hk : k < (Cal.sds ps).length := by unfold Cal.sds; simpa using h
 rw [List.drop_eq_getElem_cons hk]
 congr 1
 simp [Cal.sds]
def sgnB (b : Bool) : Int := if b then 1 else -1
theorem trn_pos (s : Sd) (q : Pt) : decide (0 < Cal.trn s q) = decide (0 < Cal.crs s q) := by
 rw [decide_eq_decide]
 unfold Cal.trn Cal.cmpI
 split
 ·omega
 ·split <;> omega
theorem whereFrom_step (q : Pt) (b : Bool) (s : Sd) (r : List Sd) (hon : Cal.hasP s q = false) :
  Cal.whereFrom q b (s :: r) = Cal.whereFrom q (if (decide (s.a.y ≤ q.y) != decide (s.b.y ≤ q.y)) && (decide (0 < Cal.crs s q) == decide (s.a.y < s.b.y)) then !b else b) r := by
 rw [Cal.whereFrom, hon, trn_pos]
 have e1 : decide (q.y < s.a.y) = !decide (s.a.y ≤ q.y) := by rw [← decide_not, decide_eq_decide]; omega
 have e2 : decide (q.y < s.b.y) = !decide (s.b.y ≤ q.y) := by rw [← decide_not, decide_eq_decide]; omega
 rw [e1, e2]
 generalize decide (s.a.y ≤ q.y) = x
 generalize decide (s.b.y ≤ q.y) = y
 cases x <;> cases y <;> rfl
theorem WhereR_any (V : Option Addr) (d : Nat) (ps : List Pt) (q : Pt) (w : World) (hP : Pts w V ps) (hq : SmP q) (hl : ps.length ≤ 100000) : Calls Try.prog 70 #[.slice V ps.length d, .agg #[.int .i64 q.x, .int .i64 q.y]] w fun e w' => e = .returned (.int .i64 (Cal.whereP ps q)) ∧ Below w.heap.size w w' := by
 have hPR : Hid (PtsR w V ps) := ⟨hP.rows, hP.size, hP.own⟩
 have hsm := Lib.hid (fun k hk => hP.sd k hk)
 have hb0 := Lib.hid (below_alloc w (.cells #[.int .i64 q.x, .int .i64 q.y] 75))
 have hQ0 := Lib.hid (BoxAt.new w #[.int .i64 q.x, .int .i64 q.y] 75)
 have h00 : Hid (Cal.whereP ps q = Cal.whereFrom q false ((Cal.sds ps).drop 0)) := rfl
 generalize Cal.whereP ps q = z at *
 clear hP
 go_enter Try.func70, Try.ntmps70
 go_wp2_with fail
 go_loopw [5, 6] (fun n i wr => ∃ (k : Nat) (b : Bool), k ≤ ps.length ∧ i = .int .i64 k ∧ n = .int .i64 (sgnB b) ∧ Hid (z = Cal.whereFrom q b ((Cal.sds ps).drop k)) ∧ Hid (BoxAt wr w.heap.size [.int .i64 q.x, .int .i64 q.y]) ∧ Hid (Below w.heap.size w wr)) (fun _ i _ => ps.length - (intOf i).toNat)
 case atStart => exact ⟨0, false, Nat.zero_le _, rfl, rfl, h00, hQ0, hb0⟩
 case round =>
  clear hb0 hQ0 h00
  obtain ⟨k, b, hk, rfl, rfl, hz, hQ, hb⟩ := hrel
  by_cases hlt : k < ps.length
  ·have hs : SmS (Cal.sd ps k) := hsm.out k hlt
   have hsd := Lib.hid (fun W hW => sideR_any V d ps k W (hPR.out.below hW) hlt hl)
   have hz2 : z = Cal.whereFrom q b (Cal.sd ps k :: (Cal.sds ps).drop (k + 1)) := by rw [← sdsR_drop hlt]; exact hz.out
   clear hz
   generalize Cal.sd ps k = s at *
   have hon := Lib.hid (fun W => OnR_any s q W hs hq)
   have hcr : Hid (∀ W, Calls Try.prog 92 #[.agg #[.int .i64 s.a.x, .int .i64 s.a.y], .agg #[.int .i64 s.b.x, .int .i64 s.b.y], .agg #[.int .i64 q.x, .int .i64 q.y]] W fun e w' => e = .returned (.int .i64 (Cal.crs s q)) ∧ Below W.heap.size W w') := fun W => crossR_any s.a s.b q W hs.a hs.b hq
   cases hh : Cal.hasP s q
   ·rw [whereFrom_step q b s _ hh] at hz2
    have hz := Lib.hid hz2
    rw [hh] at hon
    clear hz2 hh hs
    have hneg : IntKind.i64.wrap (-(sgnB b)) = sgnB (!b) := by cases b <;> rfl
    by_cases h1 : s.a.y ≤ q.y
    ·by_cases h2 : s.b.y ≤ q.y
     ·have hz2 : Hid (z = Cal.whereFrom q b ((Cal.sds ps).drop (k + 1))) := by
       show _ = _
       have := hz.out
       rw [decide_eq_true h1, decide_eq_true h2] at this
       exact this
      clear hz
      have f0 := decide_eq_true h1
      have f1 := decide_eq_true h2
      go_wp2_with (first
       |(go_at_call 67; refine (hsd.out _ hb.out).mono ?_; rintro e w1 ⟨rfl, hb1⟩; have hQ1 := Lib.hid ((hQ.out.below hb1).below (below_alloc w1 (.cells #[.int .i64 s.a.x, .int .i64 s.a.y, .int .i64 s.b.x, .int .i64 s.b.y] 97))); have hbb1 := Lib.hid (below_step (below_step hb.out hb1) (below_alloc w1 (.cells #[.int .i64 s.a.x, .int .i64 s.a.y, .int .i64 s.b.x, .int .i64 s.b.y] 97))); have hB1 := Lib.hid (BoxAt.new w1 #[.int .i64 s.a.x, .int .i64 s.a.y, .int .i64 s.b.x, .int .i64 s.b.y] 97); have d0 := hQ1.out.c 0 _ rfl; have d1 := hQ1.out.c 1 _ rfl; clear hb1)
       |(go_at_call 88; refine (hon.out _).mono ?_; rintro e w2 ⟨rfl, hb2⟩; have hQ2 := Lib.hid (hQ1.out.below hb2); have hbb2 := Lib.hid (below_step hbb1.out hb2); have hB2 := Lib.hid (hB1.out.below hb2); clear hb2 d0 d1; have d0 := hQ2.out.c 0 _ rfl; have d1 := hQ2.out.c 1 _ rfl; have c0 := hB2.out.c 0 _ rfl; have c1 := hB2.out.c 1 _ rfl; have c2 := hB2.out.c 2 _ rfl; have c3 := hB2.out.c 3 _ rfl)
       |(go_at_call 92; refine (hcr.out _).mono ?_; rintro e w3 ⟨rfl, hb3⟩; have hQ3 := Lib.hid (hQ2.out.below hb3); have hbb3 := Lib.hid (below_step hbb2.out hb3); have hB3 := Lib.hid (hB2.out.below hb3); clear hb3 d0 d1 c0 c1 c2 c3; have d0 := hQ3.out.c 0 _ rfl; have d1 := hQ3.out.c 1 _ rfl; have c0 := hB3.out.c 0 _ rfl; have c1 := hB3.out.c 1 _ rfl; have c2 := hB3.out.c 2 _ rfl; have c3 := hB3.out.c 3 _ rfl))
      go_roundw
      case rel => exact ⟨k + 1, b, hlt, by go_num, rfl, hz2, hQ2, hbb2⟩
      case measure => simp [intOf]; omega
     ·have h4 : s.a.y < s.b.y := by omega
      by_cases h3 : 0 < Cal.crs s q
      ·have hz2 : Hid (z = Cal.whereFrom q (!b) ((Cal.sds ps).drop (k + 1))) := by
        show _ = _
        have := hz.out
        rw [decide_eq_true h1, decide_eq_false h2, decide_eq_true h3, decide_eq_true h4] at this
        exact this
       clear hz
       have f0 := decide_eq_true h1
       have f1 := decide_eq_false h2
       have f2 := decide_eq_true h3
       have f3 := decide_eq_true h4
       go_wp2_with (first
        |(go_at_call 67; refine (hsd.out _ hb.out).mono ?_; rintro e w1 ⟨rfl, hb1⟩; have hQ1 := Lib.hid ((hQ.out.below hb1).below (below_alloc w1 (.cells #[.int .i64 s.a.x, .int .i64 s.a.y, .int .i64 s.b.x, .int .i64 s.b.y] 97))); have hbb1 := Lib.hid (below_step (below_step hb.out hb1) (below_alloc w1 (.cells #[.int .i64 s.a.x, .int .i64 s.a.y, .int .i64 s.b.x, .int .i64 s.b.y] 97))); have hB1 := Lib.hid (BoxAt.new w1 #[.int .i64 s.a.x, .int .i64 s.a.y, .int .i64 s.b.x, .int .i64 s.b.y] 97); have d0 := hQ1.out.c 0 _ rfl; have d1 := hQ1.out.c 1 _ rfl; clear hb1)
        |(go_at_call 88; refine (hon.out _).mono ?_; rintro e w2 ⟨rfl, hb2⟩; have hQ2 := Lib.hid (hQ1.out.below hb2); have hbb2 := Lib.hid (below_step hbb1.out hb2); have hB2 := Lib.hid (hB1.out.below hb2); clear hb2 d0 d1; have d0 := hQ2.out.c 0 _ rfl; have d1 := hQ2.out.c 1 _ rfl; have c0 := hB2.out.c 0 _ rfl; have c1 := hB2.out.c 1 _ rfl; have c2 := hB2.out.c 2 _ rfl; have c3 := hB2.out.c 3 _ rfl)
        |(go_at_call 92; refine (hcr.out _).mono ?_; rintro e w3 ⟨rfl, hb3⟩; have hQ3 := Lib.hid (hQ2.out.below hb3); have hbb3 := Lib.hid (below_step hbb2.out hb3); have hB3 := Lib.hid (hB2.out.below hb3); clear hb3 d0 d1 c0 c1 c2 c3; have d0 := hQ3.out.c 0 _ rfl; have d1 := hQ3.out.c 1 _ rfl; have c0 := hB3.out.c 0 _ rfl; have c1 := hB3.out.c 1 _ rfl; have c2 := hB3.out.c 2 _ rfl; have c3 := hB3.out.c 3 _ rfl))
       go_roundw
       case rel => exact ⟨k + 1, !b, hlt, by go_num, rfl, hz2, hQ3, hbb3⟩
       case measure => simp [intOf]; omega
      ·have hz2 : Hid (z = Cal.whereFrom q b ((Cal.sds ps).drop (k + 1))) := by
        show _ = _
        have := hz.out
        rw [decide_eq_true h1, decide_eq_false h2, decide_eq_false h3, decide_eq_true h4] at this
        exact this
       clear hz
       have f0 := decide_eq_true h1
       have f1 := decide_eq_false h2
       have f2 := decide_eq_false h3
       have f3 := decide_eq_true h4
       go_wp2_with (first
        |(go_at_call 67; refine (hsd.out _ hb.out).mono ?_; rintro e w1 ⟨rfl, hb1⟩; have hQ1 := Lib.hid ((hQ.out.below hb1).below (below_alloc w1 (.cells #[.int .i64 s.a.x, .int .i64 s.a.y, .int .i64 s.b.x, .int .i64 s.b.y] 97))); have hbb1 := Lib.hid (below_step (below_step hb.out hb1) (below_alloc w1 (.cells #[.int .i64 s.a.x, .int .i64 s.a.y, .int .i64 s.b.x, .int .i64 s.b.y] 97))); have hB1 := Lib.hid (BoxAt.new w1 #[.int .i64 s.a.x, .int .i64 s.a.y, .int .i64 s.b.x, .int .i64 s.b.y] 97); have d0 := hQ1.out.c 0 _ rfl; have d1 := hQ1.out.c 1 _ rfl; clear hb1)
        |(go_at_call 88; refine (hon.out _).mono ?_; rintro e w2 ⟨rfl, hb2⟩; have hQ2 := Lib.hid (hQ1.out.below hb2); have hbb2 := Lib.hid (below_step hbb1.out hb2); have hB2 := Lib.hid (hB1.out.below hb2); clear hb2 d0 d1; have d0 := hQ2.out.c 0 _ rfl; have d1 := hQ2.out.c 1 _ rfl; have c0 := hB2.out.c 0 _ rfl; have c1 := hB2.out.c 1 _ rfl; have c2 := hB2.out.c 2 _ rfl; have c3 := hB2.out.c 3 _ rfl)
        |(go_at_call 92; refine (hcr.out _).mono ?_; rintro e w3 ⟨rfl, hb3⟩; have hQ3 := Lib.hid (hQ2.out.below hb3); have hbb3 := Lib.hid (below_step hbb2.out hb3); have hB3 := Lib.hid (hB2.out.below hb3); clear hb3 d0 d1 c0 c1 c2 c3; have d0 := hQ3.out.c 0 _ rfl; have d1 := hQ3.out.c 1 _ rfl; have c0 := hB3.out.c 0 _ rfl; have c1 := hB3.out.c 1 _ rfl; have c2 := hB3.out.c 2 _ rfl; have c3 := hB3.out.c 3 _ rfl))
       go_roundw
       case rel => exact ⟨k + 1, b, hlt, by go_num, rfl, hz2, hQ3, hbb3⟩
       case measure => simp [intOf]; omega
    ·by_cases h2 : s.b.y ≤ q.y
     ·have h4 : ¬ s.a.y < s.b.y := by omega
      by_cases h3 : 0 < Cal.crs s q
      ·have hz2 : Hid (z = Cal.whereFrom q b ((Cal.sds ps).drop (k + 1))) := by
        show _ = _
        have := hz.out
        rw [decide_eq_false h1, decide_eq_true h2, decide_eq_true h3, decide_eq_false h4] at this
        exact this
       clear hz
       have f0 := decide_eq_false h1
       have f1 := decide_eq_true h2
       have f2 := decide_eq_true h3
       have f3 := decide_eq_false h4
       go_wp2_with (first
        |(go_at_call 67; refine (hsd.out _ hb.out).mono ?_; rintro e w1 ⟨rfl, hb1⟩; have hQ1 := Lib.hid ((hQ.out.below hb1).below (below_alloc w1 (.cells #[.int .i64 s.a.x, .int .i64 s.a.y, .int .i64 s.b.x, .int .i64 s.b.y] 97))); have hbb1 := Lib.hid (below_step (below_step hb.out hb1) (below_alloc w1 (.cells #[.int .i64 s.a.x, .int .i64 s.a.y, .int .i64 s.b.x, .int .i64 s.b.y] 97))); have hB1 := Lib.hid (BoxAt.new w1 #[.int .i64 s.a.x, .int .i64 s.a.y, .int .i64 s.b.x, .int .i64 s.b.y] 97); have d0 := hQ1.out.c 0 _ rfl; have d1 := hQ1.out.c 1 _ rfl; clear hb1)
        |(go_at_call 88; refine (hon.out _).mono ?_; rintro e w2 ⟨rfl, hb2⟩; have hQ2 := Lib.hid (hQ1.out.below hb2); have hbb2 := Lib.hid (below_step hbb1.out hb2); have hB2 := Lib.hid (hB1.out.below hb2); clear hb2 d0 d1; have d0 := hQ2.out.c 0 _ rfl; have d1 := hQ2.out.c 1 _ rfl; have c0 := hB2.out.c 0 _ rfl; have c1 := hB2.out.c 1 _ rfl; have c2 := hB2.out.c 2 _ rfl; have c3 := hB2.out.c 3 _ rfl)
        |(go_at_call 92; refine (hcr.out _).mono ?_; rintro e w3 ⟨rfl, hb3⟩; have hQ3 := Lib.hid (hQ2.out.below hb3); have hbb3 := Lib.hid (below_step hbb2.out hb3); have hB3 := Lib.hid (hB2.out.below hb3); clear hb3 d0 d1 c0 c1 c2 c3; have d0 := hQ3.out.c 0 _ rfl; have d1 := hQ3.out.c 1 _ rfl; have c0 := hB3.out.c 0 _ rfl; have c1 := hB3.out.c 1 _ rfl; have c2 := hB3.out.c 2 _ rfl; have c3 := hB3.out.c 3 _ rfl))
       go_roundw
       case rel => exact ⟨k + 1, b, hlt, by go_num, rfl, hz2, hQ3, hbb3⟩
       case measure => simp [intOf]; omega
      ·have hz2 : Hid (z = Cal.whereFrom q (!b) ((Cal.sds ps).drop (k + 1))) := by
        show _ = _
        have := hz.out
        rw [decide_eq_false h1, decide_eq_true h2, decide_eq_false h3, decide_eq_false h4] at this
        exact this
       clear hz
       have f0 := decide_eq_false h1
       have f1 := decide_eq_true h2
       have f2 := decide_eq_false h3
       have f3 := decide_eq_false h4
       go_wp2_with (first
        |(go_at_call 67; refine (hsd.out _ hb.out).mono ?_; rintro e w1 ⟨rfl, hb1⟩; have hQ1 := Lib.hid ((hQ.out.below hb1).below (below_alloc w1 (.cells #[.int .i64 s.a.x, .int .i64 s.a.y, .int .i64 s.b.x, .int .i64 s.b.y] 97))); have hbb1 := Lib.hid (below_step (below_step hb.out hb1) (below_alloc w1 (.cells #[.int .i64 s.a.x, .int .i64 s.a.y, .int .i64 s.b.x, .int .i64 s.b.y] 97))); have hB1 := Lib.hid (BoxAt.new w1 #[.int .i64 s.a.x, .int .i64 s.a.y, .int .i64 s.b.x, .int .i64 s.b.y] 97); have d0 := hQ1.out.c 0 _ rfl; have d1 := hQ1.out.c 1 _ rfl; clear hb1)
        |(go_at_call 88; refine (hon.out _).mono ?_; rintro e w2 ⟨rfl, hb2⟩; have hQ2 := Lib.hid (hQ1.out.below hb2); have hbb2 := Lib.hid (below_step hbb1.out hb2); have hB2 := Lib.hid (hB1.out.below hb2); clear hb2 d0 d1; have d0 := hQ2.out.c 0 _ rfl; have d1 := hQ2.out.c 1 _ rfl; have c0 := hB2.out.c 0 _ rfl; have c1 := hB2.out.c 1 _ rfl; have c2 := hB2.out.c 2 _ rfl; have c3 := hB2.out.c 3 _ rfl)
        |(go_at_call 92; refine (hcr.out _).mono ?_; rintro e w3 ⟨rfl, hb3⟩; have hQ3 := Lib.hid (hQ2.out.below hb3); have hbb3 := Lib.hid (below_step hbb2.out hb3); have hB3 := Lib.hid (hB2.out.below hb3); clear hb3 d0 d1 c0 c1 c2 c3; have d0 := hQ3.out.c 0 _ rfl; have d1 := hQ3.out.c 1 _ rfl; have c0 := hB3.out.c 0 _ rfl; have c1 := hB3.out.c 1 _ rfl; have c2 := hB3.out.c 2 _ rfl; have c3 := hB3.out.c 3 _ rfl))
       go_roundw
       case rel => exact ⟨k + 1, !b, hlt, by go_num, rfl, hz2, hQ3, hbb3⟩
       case measure => simp [intOf]; omega
     ·have hz2 : Hid (z = Cal.whereFrom q b ((Cal.sds ps).drop (k + 1))) := by
       show _ = _
       have := hz.out
       rw [decide_eq_false h1, decide_eq_false h2] at this
       exact this
      clear hz
      have f0 := decide_eq_false h1
      have f1 := decide_eq_false h2
      go_wp2_with (first
       |(go_at_call 67; refine (hsd.out _ hb.out).mono ?_; rintro e w1 ⟨rfl, hb1⟩; have hQ1 := Lib.hid ((hQ.out.below hb1).below (below_alloc w1 (.cells #[.int .i64 s.a.x, .int .i64 s.a.y, .int .i64 s.b.x, .int .i64 s.b.y] 97))); have hbb1 := Lib.hid (below_step (below_step hb.out hb1) (below_alloc w1 (.cells #[.int .i64 s.a.x, .int .i64 s.a.y, .int .i64 s.b.x, .int .i64 s.b.y] 97))); have hB1 := Lib.hid (BoxAt.new w1 #[.int .i64 s.a.x, .int .i64 s.a.y, .int .i64 s.b.x, .int .i64 s.b.y] 97); have d0 := hQ1.out.c 0 _ rfl; have d1 := hQ1.out.c 1 _ rfl; clear hb1)
       |(go_at_call 88; refine (hon.out _).mono ?_; rintro e w2 ⟨rfl, hb2⟩; have hQ2 := Lib.hid (hQ1.out.below hb2); have hbb2 := Lib.hid (below_step hbb1.out hb2); have hB2 := Lib.hid (hB1.out.below hb2); clear hb2 d0 d1; have d0 := hQ2.out.c 0 _ rfl; have d1 := hQ2.out.c 1 _ rfl; have c0 := hB2.out.c 0 _ rfl; have c1 := hB2.out.c 1 _ rfl; have c2 := hB2.out.c 2 _ rfl; have c3 := hB2.out.c 3 _ rfl)
       |(go_at_call 92; refine (hcr.out _).mono ?_; rintro e w3 ⟨rfl, hb3⟩; have hQ3 := Lib.hid (hQ2.out.below hb3); have hbb3 := Lib.hid (below_step hbb2.out hb3); have hB3 := Lib.hid (hB2.out.below hb3); clear hb3 d0 d1 c0 c1 c2 c3; have d0 := hQ3.out.c 0 _ rfl; have d1 := hQ3.out.c 1 _ rfl; have c0 := hB3.out.c 0 _ rfl; have c1 := hB3.out.c 1 _ rfl; have c2 := hB3.out.c 2 _ rfl; have c3 := hB3.out.c 3 _ rfl))
      go_roundw
      case rel => exact ⟨k + 1, b, hlt, by go_num, rfl, hz2, hQ2, hbb2⟩
      case measure => simp [intOf]; omega
   ·have hz3 : Hid (z = 0) := by show _ = _; rw [hz2, Cal.whereFrom, hh]; rfl
    rw [hh] at hon
    clear hz2 hh hs
    go_wp2_with (first
     |(go_at_call 67; refine (hsd.out _ hb.out).mono ?_; rintro e w1 ⟨rfl, hb1⟩; have hQ1 := Lib.hid ((hQ.out.below hb1).below (below_alloc w1 (.cells #[.int .i64 s.a.x, .int .i64 s.a.y, .int .i64 s.b.x, .int .i64 s.b.y] 97))); have hbb1 := Lib.hid (below_step (below_step hb.out hb1) (below_alloc w1 (.cells #[.int .i64 s.a.x, .int .i64 s.a.y, .int .i64 s.b.x, .int .i64 s.b.y] 97))); have hB1 := Lib.hid (BoxAt.new w1 #[.int .i64 s.a.x, .int .i64 s.a.y, .int .i64 s.b.x, .int .i64 s.b.y] 97); have d0 := hQ1.out.c 0 _ rfl; have d1 := hQ1.out.c 1 _ rfl; clear hb1)
     |(go_at_call 88; refine (hon.out _).mono ?_; rintro e w2 ⟨rfl, hb2⟩; have hQ2 := Lib.hid (hQ1.out.below hb2); have hbb2 := Lib.hid (below_step hbb1.out hb2); have hB2 := Lib.hid (hB1.out.below hb2); clear hb2 d0 d1; have d0 := hQ2.out.c 0 _ rfl; have d1 := hQ2.out.c 1 _ rfl; have c0 := hB2.out.c 0 _ rfl; have c1 := hB2.out.c 1 _ rfl; have c2 := hB2.out.c 2 _ rfl; have c3 := hB2.out.c 3 _ rfl)
     |(go_at_call 92; refine (hcr.out _).mono ?_; rintro e w3 ⟨rfl, hb3⟩; have hQ3 := Lib.hid (hQ2.out.below hb3); have hbb3 := Lib.hid (below_step hbb2.out hb3); have hB3 := Lib.hid (hB2.out.below hb3); clear hb3 d0 d1 c0 c1 c2 c3; have d0 := hQ3.out.c 0 _ rfl; have d1 := hQ3.out.c 1 _ rfl; have c0 := hB3.out.c 0 _ rfl; have c1 := hB3.out.c 1 _ rfl; have c2 := hB3.out.c 2 _ rfl; have c3 := hB3.out.c 3 _ rfl))
    go_ret
    exact ⟨by rw [hz3.out]; rfl, hbb2.out⟩
  ·have hke : k = ps.length := by omega
   have hz3 : Hid (z = sgnB b) := by
    have := hz.out
    rw [hke, List.drop_of_length_le (by simp [Cal.sds])] at this
    exact this
   subst hke
   clear hz
   go_wp2_with fail
   go_ret
   exact ⟨by rw [hz3.out]; rfl, hb.out⟩
end Go.Proofs.Ytfcjeejhdklkdaa
namespace Go.Proofs.Ytfcjeejhdklkdaa
namespace Cal
open Geo (RP at' Simple Pos In Out Off wind wc)
theorem mul_one (ps : List Pt) : mulP 1 ps = ps := by
 unfold mulP
 have : (fun q : Pt => (⟨1 * q.x, 1 * q.y⟩ : Pt)) = id := funext fun q => by cases q; simp
 rw [this, List.map_id]
theorem hf_one (q : Pt) : hf q 1 = rp q := by
 have := hf_sc q (k := 1) (by decide)
 rw [← this]
 unfold sc
 cases h : hf q 1
 dsimp only
 rw [RP.mk.injEq]
 constructor <;> grind
section
variable {ps : List Pt}
theorem where_pos (hp : Pos ps.length (ring ps)) (hne : ∀ i, i < ps.length → (sd ps i).a ≠ (sd ps i).b) (q : Pt) :
  (whereP ps q = 1 ↔ In ps.length (ring ps) (rp q)) ∧ (whereP ps q = 0 ↔ ¬ Off ps.length (ring ps) (rp q)) ∧ (whereP ps q = -1 ↔ Out ps.length (ring ps) (rp q)) := by
 have := where_mul hp hne (k := 1) (by decide) q
 rwa [mul_one, hf_one] at this
end
end Cal
end Go.Proofs.Ytfcjeejhdklkdaa
namespace Go.Proofs.Ytfcjeejhdklkdaa
namespace Geo
section
variable {n : Nat} {P : Nat → RP}
theorem Simple.lam_shift (h : Simple n P) (s : Nat) : lam n (shiftP P s) 0 = lam n P 0 := by
 have h3 := h.three
 have e : lam n (shiftP P s) 0 = lam n P (s % n) := by
  unfold lam
  rw [h.wind_shift]
  show wind n P (at' (P (0 + s)) (P (0 + 1 + s)) (1 / 2)) + up (P (0 + s)) (P (0 + 1 + s)) = _
  rw [h.mod, h.next, show 0 + s = s by omega, show 0 + 1 + s = s + 1 by omega]
 rw [e]
 exact h.lam_all (Nat.mod_lt _ (by omega))
theorem Pos.shift (h : Pos n P) (s : Nat) : Pos n (shiftP P s) := ⟨h.sim.shift s, by rw [h.sim.lam_shift]; exact h.one⟩
end
end Geo
end Go.Proofs.Ytfcjeejhdklkdaa
namespace Go.Proofs.Ytfcjeejhdklkdaa
namespace Geo
variable {n : Nat} {P : Nat → RP}
theorem some_max {p : Nat → Prop} {f : Nat → Rat} : ∀ N, (∃ i, i < N ∧ p i) → ∃ i, i < N ∧ p i ∧ ∀ j, j < N → p j → f j ≤ f i
 | 0, ⟨i, hi, _⟩ => by omega
 | N + 1, hex => by
  by_cases hN : ∃ i, i < N ∧ p i
  ·obtain ⟨i, hi, hp, hmax⟩ := some_max (f := f) N hN
   by_cases hb : p N ∧ f i < f N
   ·exact ⟨N, by omega, hb.1, fun j hj hpj => by
     rcases Nat.lt_succ_iff_lt_or_eq.1 hj with h | h
     ·have := hmax j h hpj; have := hb.2; grind
     ·rw [h]; grind⟩
   ·exact ⟨i, by omega, hp, fun j hj hpj => by
     rcases Nat.lt_succ_iff_lt_or_eq.1 hj with h | h
     ·exact hmax j h hpj
     ·subst h
      refine Classical.byContradiction fun hlt => hb ⟨hpj, by grind⟩⟩
  ·obtain ⟨i, hi, hp⟩ := hex
   have hiN : i = N := by
    rcases Nat.lt_succ_iff_lt_or_eq.1 hi with h | h
    ·exact absurd ⟨i, h, hp⟩ hN
    ·exact h
   subst hiN
   exact ⟨i, by omega, hp, fun j hj hpj => by
    rcases Nat.lt_succ_iff_lt_or_eq.1 hj with h | h
    ·exact absurd ⟨j, h, hpj⟩ hN
    ·rw [h]; grind⟩
theorem Pos.ear_or_diag (h : Pos n P) {k : Nat} (hD : 0 < crs (P k) (P (k + 1)) (P (k + 2))) : EarAt n P k ∨ ∃ m, Diag n P (k + 1) m := by
 have h3 := h.sim.three
 by_cases he : EarAt n P k
 ·exact Or.inl he
 right
 obtain ⟨m0, hm0, hm1, hm2, hT0⟩ : ∃ m, m % n ≠ k % n ∧ m % n ≠ (k + 1) % n ∧ m % n ≠ (k + 2) % n ∧ Tri (P k) (P (k + 1)) (P (k + 2)) (P m) := by
  refine Classical.byContradiction fun hno => he ⟨hD, fun m h1 h2 h3 hT => hno ⟨m, h1, h2, h3, hT⟩⟩
 have rep : ∀ m, ∃ a, a < n ∧ m % n = (k + a) % n := fun m => by
  refine ⟨(m + (n - k % n)) % n, Nat.mod_lt _ (by omega), ?_⟩
  have hk := Nat.mod_lt k (show 0 < n by omega)
  rw [Nat.add_mod_mod, ← Nat.mod_add_mod, show k % n + (m + (n - k % n)) = m + n by omega, Nat.add_mod_right]
 obtain ⟨a0, ha0, hea0⟩ := rep m0
 have hex : ∃ a, a < n ∧ (3 ≤ a ∧ Tri (P k) (P (k + 1)) (P (k + 2)) (P (k + a))) := by
  refine ⟨a0, ha0, ?_, by rw [← h.sim.pmod hea0]; exact hT0⟩
  refine Classical.byContradiction fun hlt => ?_
  have : a0 = 0 ∨ a0 = 1 ∨ a0 = 2 := by omega
  rcases this with e | e | e <;> subst e
  ·exact hm0 hea0
  ·exact hm1 hea0
  ·exact hm2 hea0
 obtain ⟨a, ha, ⟨ha3, hT⟩, hmax⟩ := some_max (p := fun a => 3 ≤ a ∧ Tri (P k) (P (k + 1)) (P (k + 2)) (P (k + a))) (f := fun a => crs (P (k + 2)) (P k) (P (k + a))) n hex
 have fz : 0 < crs (P k) (P (k + 1)) (P (k + a)) := by
  refine Classical.byContradiction fun hn => ?_
  obtain ⟨l, l0, l1, e⟩ := on_edge hD (q := P (k + a)) (by have := hT.1; grind) hT.2.1 hT.2.2
  rcases h.sim.corner_side l0 l1 e with h | h
  ·exact mod_ne (n := n) (s := k) (a := a) (b := 0) (by omega) (by omega) (by omega) h
  ·exact mod_ne (n := n) (s := k) (a := a) (b := 1) (by omega) (by omega) (by omega) h
 have gz : 0 < crs (P (k + 1)) (P (k + 2)) (P (k + a)) := by
  refine Classical.byContradiction fun hn => ?_
  obtain ⟨l, l0, l1, e⟩ := on_edge (u := P (k + 1)) (v := P (k + 2)) (w := P k) (by rw [(crs_cyc (P k) (P (k + 1)) (P (k + 2))).1]; exact hD) (q := P (k + a)) (by have := hT.2.1; grind) hT.2.2 hT.1
  rcases h.sim.corner_side l0 l1 e with h | h
  ·exact mod_ne (n := n) (s := k) (a := a) (b := 1) (by omega) (by omega) (by omega) h
  ·exact mod_ne (n := n) (s := k) (a := a) (b := 2) (by omega) (by omega) (by omega) h
 have hsum := bary (P k) (P (k + 1)) (P (k + 2)) (P (k + a))
 have hz0 := hT.2.2
 generalize hc : crs (P (k + 2)) (P k) (P (k + a)) = c at *
 have hoff : ∀ q, 0 < crs (P k) (P (k + 1)) q ∧ 0 < crs (P (k + 1)) (P (k + 2)) q ∧ c < crs (P (k + 2)) (P k) q → Off n P q := fun q hq => by
  refine h.sim.part_off hD hq.1 hq.2.1 (by have := hq.2.2; grind) fun m hm hTm => ?_
  obtain ⟨b, hb, heb⟩ := rep m
  have hb1 : b ≠ 1 := fun e => hm (by rw [heb, e])
  rw [h.sim.pmod heb] at hTm ⊢
  have : b = 0 ∨ b = 2 ∨ 3 ≤ b := by omega
  rcases this with e | e | e
  ·subst e
   have : crs (P (k + 2)) (P k) (P (k + 0)) = 0 := crs_self2 _ _
   have := hq.2.2
   grind
  ·subst e
   have : crs (P (k + 2)) (P k) (P (k + 2)) = 0 := crs_self1 _ _
   have := hq.2.2
   grind
  ·have := hmax b hb ⟨e, hTm⟩
   have := hq.2.2
   grind
 obtain ⟨x, hx, fx, gx, hhx⟩ := h.tip_in hD (c := c) (by grind) (by grind)
 have h4 : 4 ≤ n := by omega
 refine ⟨k + a, ⟨by omega, by omega, fun t t0 t1 => ?_⟩⟩
 refine h.sim.region_in (fun q => 0 < crs (P k) (P (k + 1)) q ∧ 0 < crs (P (k + 1)) (P (k + 2)) q ∧ c < crs (P (k + 2)) (P k) q) (fun a b t ha hb t0 t1 => conv3 t0 t1 ha hb) hoff ⟨fx, gx, hhx⟩ hx ?_
 rw [crs_lin, crs_lin, crs_lin, crs_self2, crs_self1, hc, (crs_cyc (P k) (P (k + 1)) (P (k + 2))).2, Rat.mul_zero, Rat.add_zero, Rat.add_zero]
 refine ⟨mul_pp (by grind) fz, mul_pp (by grind) gz, ?_⟩
 have := mul_pp (a := t) (b := crs (P k) (P (k + 1)) (P (k + 2)) - c) t0 (by grind)
 grind
end Geo
end Go.Proofs.Ytfcjeejhdklkdaa
namespace Go.Proofs.Ytfcjeejhdklkdaa
namespace Geo
variable {n : Nat} {P : Nat → RP}
theorem at_only {a b : RP} (hne : a ≠ b) {l t : Rat} (e : at' a b t = at' a b l) : t = l := by
 unfold at' at e
 rw [RP.mk.injEq] at e
 refine Classical.byContradiction fun h => hne ?_
 have g1 : (t - l) * (b.x - a.x) = 0 := by grind
 have g2 : (t - l) * (b.y - a.y) = 0 := by grind
 have g3 : t - l ≠ 0 := by grind
 cases a; cases b
 rw [RP.mk.injEq]
 dsimp only at *
 constructor
 ·rcases Rat.mul_eq_zero.1 g1 with h | h
  ·exact absurd h g3
  ·grind
 ·rcases Rat.mul_eq_zero.1 g2 with h | h
  ·exact absurd h g3
  ·grind
def norm2 (q : RP) : Rat := q.x * q.x + q.y * q.y
def along (v q : RP) : Rat := q.x * v.x + q.y * v.y
theorem far_strict {v x : RP} (h : norm2 x ≤ norm2 v) (hne : x ≠ v) : along v x < along v v := by
 unfold norm2 along at *
 have h1 := sq0 (x.x - v.x)
 have h2 := sq0 (x.y - v.y)
 refine Classical.byContradiction fun hn => hne ?_
 have e1 : (x.x - v.x) * (x.x - v.x) = 0 := by grind
 have e2 : (x.y - v.y) * (x.y - v.y) = 0 := by grind
 have x1 : x.x - v.x = 0 := by rcases Rat.mul_eq_zero.1 e1 with h | h <;> exact h
 have x2 : x.y - v.y = 0 := by rcases Rat.mul_eq_zero.1 e2 with h | h <;> exact h
 cases x; cases v
 rw [RP.mk.injEq]
 dsimp only at *
 constructor <;> grind
theorem along_at (v a b : RP) (t : Rat) : along v (at' a b t) = (1 - t) * along v a + t * along v b := by unfold along at'; grind
theorem wc_high {a b q : RP} (ha : a.y < q.y) (hb : b.y < q.y) : wc a b q = 0 := by
 unfold wc
 rw [if_pos (by grind), if_neg (by grind)]
theorem wc_low {a b q : RP} (ha : q.y < a.y) (hb : q.y < b.y) : wc a b q = 0 := by
 unfold wc
 rw [if_neg (by grind), if_neg (by grind)]
theorem sumZ_nil : ∀ n : Nat, sumZ (fun _ => 0) n = 0
 | 0 => rfl
 | n + 1 => by rw [sumZ, sumZ_nil n]; rfl
theorem wind_zero {q : RP} (h : ∀ i, i < n → wc (P i) (P (i + 1)) q = 0) : wind n P q = 0 := by
 unfold wind
 rw [sumZ_congr (g := fun _ => 0) h, sumZ_nil]
theorem Simple.half_out (hs : Simple n P) {v q : RP} (hv : ∀ i, along v (P i) ≤ along v v) (hq : along v v < along v q) : wind n P q = 0 := by
 obtain ⟨M, hM⟩ := max_ex (fun i => (P i).y) (n + 1)
 obtain ⟨K, hK⟩ := max_ex (fun i => - (P i).y) (n + 1)
 have hoff : ∀ x, along v v < along v x → Off n P x := fun x hx i l hi l0 l1 e => by
  rw [e, along_at] at hx
  have p1 := mul_nn (a := 1 - l) (b := along v v - along v (P i)) (by grind) (by have := hv i; grind)
  have p2 := mul_nn (a := l) (b := along v v - along v (P (i + 1))) l0 (by have := hv (i + 1); grind)
  grind
 have go : ∀ r, along v v < along v r → wind n P q = wind n P r := fun r hr => by
  refine wind_move hs.close ?_
  refine Off.free fun t t0 t1 => hoff _ ?_
  rw [along_at]
  rcases Rat.le_total (a := t) (b := 1 / 2) with h | h
  ·have p1 := mul_pp (a := 1 - t) (b := along v q - along v v) (by grind) (by grind)
   have p2 := mul_nn (a := t) (b := along v r - along v v) t0 (by grind)
   grind
  ·have p1 := mul_nn (a := 1 - t) (b := along v q - along v v) (by grind) (by grind)
   have p2 := mul_pp (a := t) (b := along v r - along v v) (by grind) (by grind)
   grind
 by_cases hb : 0 < v.y
 ·-- far above
  obtain ⟨L, L0, L1⟩ : ∃ L : Rat, 0 < L ∧ M < q.y + L := by
   rcases Rat.le_total (a := M - q.y) (b := 0) with h | h
   ·exact ⟨1, by grind, by grind⟩
   ·exact ⟨M - q.y + 1, by grind, by grind⟩
  have hr : along v v < along v ⟨q.x, q.y + L⟩ := by
   have := mul_pp L0 hb
   unfold along at *; dsimp only; grind
  rw [go _ hr]
  refine wind_zero fun i hi => wc_high ?_ ?_
  ·have := hM i (by omega); dsimp only at *; grind
  ·have := hM (i + 1) (by omega); dsimp only at *; grind
 ·obtain ⟨L, L0, L1⟩ : ∃ L : Rat, 0 < L ∧ q.y - L < - K := by
   rcases Rat.le_total (a := q.y + K) (b := 0) with h | h
   ·exact ⟨1, by grind, by grind⟩
   ·exact ⟨q.y + K + 1, by grind, by grind⟩
  have hr : along v v < along v ⟨q.x, q.y - L⟩ := by
   have := mul_nn (a := L) (b := - v.y) (by grind) (by grind)
   unfold along at *; dsimp only; grind
  rw [go _ hr]
  refine wind_zero fun i hi => wc_low ?_ ?_
  ·have := hK i (by omega); dsimp only at *; grind
  ·have := hK (i + 1) (by omega); dsimp only at *; grind
theorem Pos.left_corner (h : Pos n P) : ∃ k, k < n ∧ 0 < crs (P k) (P (k + 1)) (P (k + 2)) := by
 have h3 := h.sim.three
 obtain ⟨s, hs, _, hmax⟩ := some_max (p := fun _ => True) (f := fun i => norm2 (P i)) n ⟨0, by omega, trivial⟩
 have hmax : ∀ i, norm2 (P i) ≤ norm2 (P s) := fun i => by
  have := hmax (i % n) (Nat.mod_lt _ (by omega)) trivial
  rwa [h.sim.mod] at this
 obtain ⟨k, hk, hks⟩ : ∃ k, k < n ∧ (k + 1) % n = s := by
  by_cases hs0 : s = 0
  ·exact ⟨n - 1, by omega, by rw [show n - 1 + 1 = n by omega, Nat.mod_self, hs0]⟩
  ·exact ⟨s - 1, by omega, by rw [show s - 1 + 1 = s by omega, Nat.mod_eq_of_lt hs]⟩
 have hvs : P (k + 1) = P s := by rw [← h.sim.mod (k + 1), hks]
 rw [← hvs] at hmax
 refine ⟨k, hk, ?_⟩
 have hu : along (P (k + 1)) (P k) < along (P (k + 1)) (P (k + 1)) := far_strict (hmax k) (h.sim.ne k)
 have hw : along (P (k + 1)) (P (k + 2)) < along (P (k + 1)) (P (k + 1)) := far_strict (hmax (k + 2)) (Ne.symm (h.sim.ne (k + 1)))
 have hall : ∀ i, along (P (k + 1)) (P i) ≤ along (P (k + 1)) (P (k + 1)) := fun i => by
  by_cases e : P i = P (k + 1)
  ·rw [e]; grind
  ·have := far_strict (hmax i) e; grind
 rcases Std.lt_trichotomy (crs (P k) (P (k + 1)) (P (k + 2))) 0 with hc | hc | hc
 ·exfalso
  have hj : (k + 1) % n < n := Nat.mod_lt _ (by omega)
  obtain ⟨w0, w1, _⟩ := h.sim.wrap_corner (k + 1)
  obtain ⟨e, e0, he⟩ := near_all (n := n) (b := P (k + 1)) (p := fun i x => i % n ≠ k % n → i % n ≠ (k + 1) % n → ∀ l : Rat, 0 ≤ l → l ≤ 1 → x ≠ at' (P i) (P (i + 1)) l) (fun i hi => by
   by_cases hi1 : i % n = k % n
   ·exact ⟨1, by grind, fun _ _ h => absurd hi1 h⟩
   ·by_cases hi2 : i % n = (k + 1) % n
    ·exact ⟨1, by grind, fun _ _ _ h => absurd hi2 h⟩
    ·obtain ⟨e, e0, he⟩ := near_off (h.sim.ne i) (b := P (k + 1)) (fun l l0 l1 e => by
      rcases h.sim.corner_side l0 l1 e with h' | h'
      ·exact hi2 h'.symm
      ·exact hi1 (mod_shift (n := n) (s := 1) (by omega) h'.symm))
     exact ⟨e, e0, fun q hq _ _ => he q hq⟩)
  obtain ⟨t, t0, t1, hq, hm⟩ := small_part (P (k + 1)) ⟨(P (k + 1)).x - (P k).x, (P (k + 1)).y - (P k).y⟩ ⟨(P (k + 2)).x - (P (k + 1)).x, (P (k + 2)).y - (P (k + 1)).y⟩ e0
  dsimp only at hq hm
  have em : (⟨(P (k + 1)).x + t * ((P (k + 2)).x - (P (k + 1)).x), (P (k + 1)).y + t * ((P (k + 2)).y - (P (k + 1)).y)⟩ : RP) = at' (P (k + 1)) (P (k + 2)) t := rfl
  rw [em] at hm
  generalize hqd : (⟨(P (k + 1)).x + t * ((P (k + 1)).x - (P k).x), (P (k + 1)).y + t * ((P (k + 1)).y - (P k).y)⟩ : RP) = q at *
  have eq : q = at' (P k) (P (k + 1)) (1 + t) := by rw [← hqd]; unfold at'; rw [RP.mk.injEq]; constructor <;> grind
  have hout : wind n P q = 0 := by
   refine h.sim.half_out hall ?_
   rw [eq, along_at]
   have := mul_pp (a := t) (b := along (P (k + 1)) (P (k + 1)) - along (P (k + 1)) (P k)) t0 (by grind)
   grind
  have hone : wind n P q = lam n P ((k + 1) % n) := by
   refine h.sim.left hj t0 (by grind) ?_ fun i hi hik => ?_
   ·rw [w0, w1]
    have : crs (P (k + 1)) (P (k + 1 + 1)) q = - t * crs (P k) (P (k + 1)) (P (k + 2)) := by rw [eq]; unfold crs at'; dsimp only; grind
    rw [this]
    have := mul_pp (a := t) (b := - crs (P k) (P (k + 1)) (P (k + 2))) t0 (by grind)
    grind
   ·rw [w0, w1]
    have hine : i % n ≠ (k + 1) % n := fun e => hik (by rw [← e, Nat.mod_eq_of_lt hi])
    by_cases hi1 : i % n = k % n
    ·have a1 := h.sim.pmod hi1
     have a2 : P (i + 1) = P (k + 1) := h.sim.pmod (by rw [← Nat.mod_add_mod, hi1, Nat.mod_add_mod])
     rw [a1, a2]
     intro l x l0 l1 x0 x1 e
     have z := crs_at (P k) (P (k + 1)) l
     rw [e, crs_lin] at z
     have cq : crs (P k) (P (k + 1)) q = 0 := by rw [eq, crs_at]
     have cm : crs (P k) (P (k + 1)) (at' (P (k + 1)) (P (k + 1 + 1)) t) = t * crs (P k) (P (k + 1)) (P (k + 2)) := by unfold crs at'; dsimp only; grind
     rw [cq, cm, Rat.mul_zero, Rat.zero_add] at z
     rcases Rat.mul_eq_zero.1 z with hx | hx
     ·rw [hx, at0, eq] at e
      have := at_only (h.sim.ne k) e
      grind
     ·have := mul_pp (a := t) (b := - crs (P k) (P (k + 1)) (P (k + 2))) t0 (by grind)
      grind
    ·intro l x l0 l1 x0 x1 e
     exact he _ (hq.seg hm x0 x1) i hi hi1 hine l l0 l1 e.symm
  rw [hout, h.sim.lam_all hj, h.one] at hone
  exact absurd hone (by decide)
 ·exfalso
  have hd := h.sim.on hk rfl (by
   have : P ((k + 1) % n + 1) = P (k + 2) := h.sim.pmod (by rw [Nat.mod_add_mod])
   rw [this]; exact hc)
  rw [show P ((k + 1) % n + 1) = P (k + 2) from h.sim.pmod (by rw [Nat.mod_add_mod])] at hd
  unfold along at hu hw
  unfold crs at hc
  generalize P k = u at *
  generalize P (k + 2) = w at *
  generalize P (k + 1) = v at *
  have key : ((v.x - u.x) * (w.x - v.x) + (v.y - u.y) * (w.y - v.y)) * ((v.x - u.x) * v.x + (v.y - u.y) * v.y) = ((v.x - u.x) * (v.x - u.x) + (v.y - u.y) * (v.y - u.y)) * ((w.x - v.x) * v.x + (w.y - v.y) * v.y) := by grind
  have p1 := mul_pp hd (b := (v.x - u.x) * v.x + (v.y - u.y) * v.y) (by grind)
  have s1 := sq0 (v.x - u.x)
  have s2 := sq0 (v.y - u.y)
  have p2 := np_mul (a := (w.x - v.x) * v.x + (w.y - v.y) * v.y) (b := (v.x - u.x) * (v.x - u.x) + (v.y - u.y) * (v.y - u.y)) (by grind) (by grind)
  grind
 ·exact hc
theorem Diag.less (hs : Simple n P) {i j : Nat} (hd : Diag n P (i + n) (j + n)) : Diag n P i j :=
 ⟨by have := hd.lo; omega, by have := hd.hi; omega, fun t t0 t1 => by have := hd.ins t t0 t1; rwa [hs.per, hs.per] at this⟩
theorem ear_ex : ∀ (N n : Nat) (P : Nat → RP), n ≤ N → Pos n P → ∃ k, k + 2 < n ∧ EarAt n P k
 | 0, n, P, hn, h => by have := h.sim.three; omega
 | N + 1, n, P, hn, h => by
  have h3 := h.sim.three
  obtain ⟨k, hk, hD⟩ := h.left_corner
  by_cases hn3 : n = 3
  ·subst hn3
   have hk3 : k = 0 ∨ k = 1 ∨ k = 2 := by omega
   have e3 : P 3 = P 0 := h.sim.per 0
   have e4 : P 4 = P 1 := h.sim.per 1
   have hD0 : 0 < crs (P 0) (P 1) (P 2) := by
    rcases hk3 with e | e | e <;> subst e
    ·exact hD
    ·rw [e3, (crs_cyc (P 0) (P 1) (P 2)).1] at hD; exact hD
    ·rw [e3, e4, (crs_cyc (P 0) (P 1) (P 2)).2] at hD; exact hD
   exact ⟨0, by omega, hD0, fun m h0 h1 h2 => by
    exfalso
    have := Nat.mod_lt m (show 0 < 3 by decide)
    omega⟩
  have h4 : 4 ≤ n := by omega
  have byDiag : ∀ i j, j < n → Diag n P i j → ∃ k, k + 2 < n ∧ EarAt n P k := fun i j hj hd => by
   have g1 := hd.lo
   have g2 := hd.hi
   obtain ⟨q, hq, heq⟩ := ear_ex N (j - i + 1) (cutP P i j) (by omega) (hd.pos h)
   exact ⟨i + q, by omega, heq.up h hd (by omega)⟩
  have byDiag2 : ∀ i m, i ≤ n → Diag n P i m → ∃ k, k + 2 < n ∧ EarAt n P k := fun i m hi hd => by
   have g1 := hd.lo
   have g2 := hd.hi
   by_cases hm : m < n
   ·exact byDiag i m hm hd
   ·have hb : Diag n P (m - n) i := by
     refine Diag.less h.sim ?_
     rw [show m - n + n = m by omega]
     exact hd.back h.sim
    by_cases hin : i < n
    ·exact byDiag (m - n) i hin hb
    ·obtain rfl : i = n := by omega
     have hc : Diag i P 0 (m - i) := by
      refine Diag.less h.sim ?_
      rw [show m - i + i = m by omega, Nat.zero_add]
      exact hd
     exact byDiag 0 (m - i) (by omega) hc
  rcases h.ear_or_diag hD with he | ⟨m, hd⟩
  ·by_cases hk2 : k + 2 < n
   ·exact ⟨k, hk2, he⟩
   ·have hd := he.diag h h4
    by_cases hke : k + 2 = n
    ·exact byDiag2 (k + 2) (k + n) (by omega) hd
    ·have hb : Diag n P (k + 2 - n) k := by
      refine Diag.less h.sim ?_
      rw [show k + 2 - n + n = k + 2 by omega]
      exact hd
     exact byDiag _ _ hk hb
  ·exact byDiag2 (k + 1) m (by omega) hd
end Geo
end Go.Proofs.Ytfcjeejhdklkdaa
