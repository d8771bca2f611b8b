/- What the statements rest on: definitions and walks, part 35. -/
import Derived.Test.YtofaonigcojcaaaJ14
import Derived.Test.YtofaonigcojcaaaJ17
import Derived.Test.YtofaonigcojcaaaJ11
import Derived.Test.YtofaonigcojcaaaJ33
import Derived.Test.YtofaonigcojcaaaJ32
namespace Go.Proofs.Ytofaonigcojcaaa
open Go Go.RowKit Go.Shelf
theorem smP_of {q : Pt} (h : Cal.ptErr q = 0) : SmP q := by
  unfold Cal.ptErr at h
  split at h
  · cases h
  · refine ⟨?_, ?_, ?_, ?_⟩ <;> omega
/-- The error of Where. -/
def whE (ps : List Pt) (q : Pt) : Int := if Cal.polyE ps = 0 then Cal.ptErr q else Cal.polyE ps
set_option maxRecDepth 100000 in
set_option maxHeartbeats 4000000 in
theorem Where_any (V : Option Addr) (d : Nat) (ps : List Pt) (q : Pt) (w : World) (hP : PtsR w V ps) :
    Calls Try.prog 44 #[.slice V ps.length d, .agg #[.int .i64 q.x, .int .i64 q.y]] w fun e w' => e = .returned (.tuple #[.int .i64 (if whE ps q = 0 then Cal.whereP ps q else 0), .int .i64 (whE ps q)]) ∧ Below w.heap.size w w' := by
  have hb0 := Lib.hid (below_alloc w (.cells #[.int .i64 q.x, .int .i64 q.y] 64))
  have hQ0 := Lib.hid (BoxAt.new w #[.int .i64 q.x, .int .i64 q.y] 64)
  have hck := Lib.hid (fun W (hb : Below w.heap.size w W) => CheckPolygon_any V d ps W (hP.below hb))
  have hpt := Lib.hid (fun W => checkPoint_any q W)
  unfold whE
  by_cases h0 : Cal.polyE ps = 0
  · rw [if_pos h0]
    have hV := hP.ptsV h0
    rw [h0] at hck
    by_cases h1 : Cal.ptErr q = 0
    · have hwh := Lib.hid (fun W (hb : Below w.heap.size w W) => where_any V d ps q W (hV.pts.below hb) (smP_of h1))
      rw [if_pos h1, h1]
      rw [h1] at hpt
      clear hV hP h0 h1
      generalize Cal.whereP ps q = R at *
      have d0 := hQ0.out.c 0 _ rfl
      have d1 := hQ0.out.c 1 _ rfl
      go_enter Try.func44, Try.ntmps44
      go_wp2_with (first
        | (go_at_call 42; refine (hck.out _ hb0.out).mono ?_; rintro e w1 ⟨rfl, hb1⟩; replace hQ0 := Lib.hid (hQ0.out.below hb1); replace hb0 := Lib.hid (below_step hb0.out hb1); clear hb1 hck d0 d1; have d0 := hQ0.out.c 0 _ rfl; have d1 := hQ0.out.c 1 _ rfl)
        | (go_at_call 80; refine (hpt.out _).mono ?_; rintro e w2 ⟨rfl, hb2⟩; replace hQ0 := Lib.hid (hQ0.out.below hb2); replace hb0 := Lib.hid (below_step hb0.out hb2); clear hb2 hpt d0 d1; have d0 := hQ0.out.c 0 _ rfl; have d1 := hQ0.out.c 1 _ rfl)
        | (go_at_call 82; refine (hwh.out _ hb0.out).mono ?_; rintro e w3 ⟨rfl, hb3⟩; replace hb0 := Lib.hid (below_step hb0.out hb3); clear hb3 hwh))
      go_ret2
      exact ⟨rfl, hb0.out⟩
    · have he1 : (Cal.ptErr q == 0) = false := by simpa using h1
      have he2 : (Cal.ptErr q != 0) = true := by simpa using h1
      rw [if_neg h1]
      clear hV hP h0
      generalize Cal.ptErr q = E at *
      have d0 := hQ0.out.c 0 _ rfl
      have d1 := hQ0.out.c 1 _ rfl
      go_enter Try.func44, Try.ntmps44
      go_wp2_with (first
        | (go_at_call 42; refine (hck.out _ hb0.out).mono ?_; rintro e w1 ⟨rfl, hb1⟩; replace hQ0 := Lib.hid (hQ0.out.below hb1); replace hb0 := Lib.hid (below_step hb0.out hb1); clear hb1 hck d0 d1; have d0 := hQ0.out.c 0 _ rfl; have d1 := hQ0.out.c 1 _ rfl)
        | (go_at_call 80; refine (hpt.out _).mono ?_; rintro e w2 ⟨rfl, hb2⟩; replace hb0 := Lib.hid (below_step hb0.out hb2); clear hb2 hpt d0 d1))
      go_ret2
      exact ⟨rfl, hb0.out⟩
  · have he1 : (Cal.polyE ps == 0) = false := by simpa using h0
    have he2 : (Cal.polyE ps != 0) = true := by simpa using h0
    rw [if_neg h0, if_neg h0]
    clear hP
    generalize Cal.polyE ps = E at *
    go_enter Try.func44, Try.ntmps44
    go_wp2_with (go_at_call 42; refine (hck.out _ hb0.out).mono ?_; rintro e w1 ⟨rfl, hb1⟩; replace hb0 := Lib.hid (below_step hb0.out hb1); clear hb1 hck)
    go_ret2
    exact ⟨rfl, hb0.out⟩
end Go.Proofs.Ytofaonigcojcaaa
namespace Go.Proofs.Ytofaonigcojcaaa
open Go Go.RowKit Go.Shelf
theorem sdsR_drop {ps : List Pt} {k : Nat} (h : k < ps.length) : (Cal.sds ps).drop k = Cal.sd ps k :: (Cal.sds ps).drop (k + 1) := by
  have hk : k < (Cal.sds ps).length := by unfold Cal.sds; simpa using h
  rw [List.drop_eq_getElem_cons hk]
  congr 1
  simp [Cal.sds]
/-- What the reference keeps of whether a point is inside. -/
def sgnB (b : Bool) : Int := if b then 1 else -1
theorem trn_pos (s : Sd) (q : Pt) : decide (0 < Cal.trn s q) = decide (0 < Cal.crs s q) := by
  rw [decide_eq_decide]
  unfold Cal.trn Cal.cmpI
  split
  · omega
  · split <;> omega
theorem whereFrom_step (q : Pt) (b : Bool) (s : Sd) (r : List Sd) (hon : Cal.hasP s q = false) :
    Cal.whereFrom q b (s :: r) = Cal.whereFrom q (if (decide (s.a.y ≤ q.y) != decide (s.b.y ≤ q.y)) && (decide (0 < Cal.crs s q) == decide (s.a.y < s.b.y)) then !b else b) r := by
  rw [Cal.whereFrom, hon, trn_pos]
  have e1 : decide (q.y < s.a.y) = !decide (s.a.y ≤ q.y) := by rw [← decide_not, decide_eq_decide]; omega
  have e2 : decide (q.y < s.b.y) = !decide (s.b.y ≤ q.y) := by rw [← decide_not, decide_eq_decide]; omega
  rw [e1, e2]
  generalize decide (s.a.y ≤ q.y) = x
  generalize decide (s.b.y ≤ q.y) = y
  cases x <;> cases y <;> rfl
set_option maxRecDepth 100000 in
set_option maxHeartbeats 4000000 in
theorem WhereR_any (V : Option Addr) (d : Nat) (ps : List Pt) (q : Pt) (w : World) (hP : Pts w V ps) (hq : SmP q) (hl : ps.length ≤ 100000) : Calls Try.prog 45 #[.slice V ps.length d, .agg #[.int .i64 q.x, .int .i64 q.y]] w fun e w' => e = .returned (.int .i64 (Cal.whereP ps q)) ∧ Below w.heap.size w w' := by
  have hPR : Hid (PtsR w V ps) := ⟨hP.rows, hP.size, hP.own⟩
  have hsm := Lib.hid (fun k hk => hP.sd k hk)
  have hb0 := Lib.hid (below_alloc w (.cells #[.int .i64 q.x, .int .i64 q.y] 64))
  have hQ0 := Lib.hid (BoxAt.new w #[.int .i64 q.x, .int .i64 q.y] 64)
  have h00 : Hid (Cal.whereP ps q = Cal.whereFrom q false ((Cal.sds ps).drop 0)) := rfl
  generalize Cal.whereP ps q = z at *
  clear hP
  go_enter Try.func45, Try.ntmps45
  go_wp2_with fail
  go_loopw [5, 6] (fun n i wr => ∃ (k : Nat) (b : Bool), k ≤ ps.length ∧ i = .int .i64 k ∧ n = .int .i64 (sgnB b) ∧ Hid (z = Cal.whereFrom q b ((Cal.sds ps).drop k)) ∧ Hid (BoxAt wr w.heap.size [.int .i64 q.x, .int .i64 q.y]) ∧ Hid (Below w.heap.size w wr)) (fun _ i _ => ps.length - (intOf i).toNat)
  case atStart => exact ⟨0, false, Nat.zero_le _, rfl, rfl, h00, hQ0, hb0⟩
  case round =>
    clear hb0 hQ0 h00
    obtain ⟨k, b, hk, rfl, rfl, hz, hQ, hb⟩ := hrel
    by_cases hlt : k < ps.length
    · have hs : SmS (Cal.sd ps k) := hsm.out k hlt
      have hsd := Lib.hid (fun W hW => sideR_any V d ps k W (hPR.out.below hW) hlt hl)
      have hz2 : z = Cal.whereFrom q b (Cal.sd ps k :: (Cal.sds ps).drop (k + 1)) := by rw [← sdsR_drop hlt]; exact hz.out
      clear hz
      generalize Cal.sd ps k = s at *
      have hon := Lib.hid (fun W => OnR_any s q W hs hq)
      have hcr : Hid (∀ W, Calls Try.prog 83 #[.agg #[.int .i64 s.a.x, .int .i64 s.a.y], .agg #[.int .i64 s.b.x, .int .i64 s.b.y], .agg #[.int .i64 q.x, .int .i64 q.y]] W fun e w' => e = .returned (.int .i64 (Cal.crs s q)) ∧ Below W.heap.size W w') := fun W => crossR_any s.a s.b q W hs.a hs.b hq
      cases hh : Cal.hasP s q
      · rw [whereFrom_step q b s _ hh] at hz2
        have hz := Lib.hid hz2
        rw [hh] at hon
        clear hz2 hh hs
        have hneg : IntKind.i64.wrap (-(sgnB b)) = sgnB (!b) := by cases b <;> rfl
        by_cases h1 : s.a.y ≤ q.y
        · by_cases h2 : s.b.y ≤ q.y
          · have hz2 : Hid (z = Cal.whereFrom q b ((Cal.sds ps).drop (k + 1))) := by
              show _ = _
              have := hz.out
              rw [decide_eq_true h1, decide_eq_true h2] at this
              exact this
            clear hz
            have f0 := decide_eq_true h1
            have f1 := decide_eq_true h2
            go_wp2_with (first
              | (go_at_call 77; refine (hsd.out _ hb.out).mono ?_; rintro e w1 ⟨rfl, hb1⟩; have hQ1 := Lib.hid ((hQ.out.below hb1).below (below_alloc w1 (.cells #[.int .i64 s.a.x, .int .i64 s.a.y, .int .i64 s.b.x, .int .i64 s.b.y] 91))); have hbb1 := Lib.hid (below_step (below_step hb.out hb1) (below_alloc w1 (.cells #[.int .i64 s.a.x, .int .i64 s.a.y, .int .i64 s.b.x, .int .i64 s.b.y] 91))); have hB1 := Lib.hid (BoxAt.new w1 #[.int .i64 s.a.x, .int .i64 s.a.y, .int .i64 s.b.x, .int .i64 s.b.y] 91); have d0 := hQ1.out.c 0 _ rfl; have d1 := hQ1.out.c 1 _ rfl; clear hb1)
              | (go_at_call 78; refine (hon.out _).mono ?_; rintro e w2 ⟨rfl, hb2⟩; have hQ2 := Lib.hid (hQ1.out.below hb2); have hbb2 := Lib.hid (below_step hbb1.out hb2); have hB2 := Lib.hid (hB1.out.below hb2); clear hb2 d0 d1; have d0 := hQ2.out.c 0 _ rfl; have d1 := hQ2.out.c 1 _ rfl; have c0 := hB2.out.c 0 _ rfl; have c1 := hB2.out.c 1 _ rfl; have c2 := hB2.out.c 2 _ rfl; have c3 := hB2.out.c 3 _ rfl)
              | (go_at_call 83; refine (hcr.out _).mono ?_; rintro e w3 ⟨rfl, hb3⟩; have hQ3 := Lib.hid (hQ2.out.below hb3); have hbb3 := Lib.hid (below_step hbb2.out hb3); have hB3 := Lib.hid (hB2.out.below hb3); clear hb3 d0 d1 c0 c1 c2 c3; have d0 := hQ3.out.c 0 _ rfl; have d1 := hQ3.out.c 1 _ rfl; have c0 := hB3.out.c 0 _ rfl; have c1 := hB3.out.c 1 _ rfl; have c2 := hB3.out.c 2 _ rfl; have c3 := hB3.out.c 3 _ rfl))
            go_roundw
            case rel => exact ⟨k + 1, b, hlt, by go_num, rfl, hz2, hQ2, hbb2⟩
            case measure => simp [intOf]; omega
          · have h4 : s.a.y < s.b.y := by omega
            by_cases h3 : 0 < Cal.crs s q
            · have hz2 : Hid (z = Cal.whereFrom q (!b) ((Cal.sds ps).drop (k + 1))) := by
                show _ = _
                have := hz.out
                rw [decide_eq_true h1, decide_eq_false h2, decide_eq_true h3, decide_eq_true h4] at this
                exact this
              clear hz
              have f0 := decide_eq_true h1
              have f1 := decide_eq_false h2
              have f2 := decide_eq_true h3
              have f3 := decide_eq_true h4
              go_wp2_with (first
                | (go_at_call 77; refine (hsd.out _ hb.out).mono ?_; rintro e w1 ⟨rfl, hb1⟩; have hQ1 := Lib.hid ((hQ.out.below hb1).below (below_alloc w1 (.cells #[.int .i64 s.a.x, .int .i64 s.a.y, .int .i64 s.b.x, .int .i64 s.b.y] 91))); have hbb1 := Lib.hid (below_step (below_step hb.out hb1) (below_alloc w1 (.cells #[.int .i64 s.a.x, .int .i64 s.a.y, .int .i64 s.b.x, .int .i64 s.b.y] 91))); have hB1 := Lib.hid (BoxAt.new w1 #[.int .i64 s.a.x, .int .i64 s.a.y, .int .i64 s.b.x, .int .i64 s.b.y] 91); have d0 := hQ1.out.c 0 _ rfl; have d1 := hQ1.out.c 1 _ rfl; clear hb1)
                | (go_at_call 78; refine (hon.out _).mono ?_; rintro e w2 ⟨rfl, hb2⟩; have hQ2 := Lib.hid (hQ1.out.below hb2); have hbb2 := Lib.hid (below_step hbb1.out hb2); have hB2 := Lib.hid (hB1.out.below hb2); clear hb2 d0 d1; have d0 := hQ2.out.c 0 _ rfl; have d1 := hQ2.out.c 1 _ rfl; have c0 := hB2.out.c 0 _ rfl; have c1 := hB2.out.c 1 _ rfl; have c2 := hB2.out.c 2 _ rfl; have c3 := hB2.out.c 3 _ rfl)
                | (go_at_call 83; refine (hcr.out _).mono ?_; rintro e w3 ⟨rfl, hb3⟩; have hQ3 := Lib.hid (hQ2.out.below hb3); have hbb3 := Lib.hid (below_step hbb2.out hb3); have hB3 := Lib.hid (hB2.out.below hb3); clear hb3 d0 d1 c0 c1 c2 c3; have d0 := hQ3.out.c 0 _ rfl; have d1 := hQ3.out.c 1 _ rfl; have c0 := hB3.out.c 0 _ rfl; have c1 := hB3.out.c 1 _ rfl; have c2 := hB3.out.c 2 _ rfl; have c3 := hB3.out.c 3 _ rfl))
              go_roundw
              case rel => exact ⟨k + 1, !b, hlt, by go_num, rfl, hz2, hQ3, hbb3⟩
              case measure => simp [intOf]; omega
            · have hz2 : Hid (z = Cal.whereFrom q b ((Cal.sds ps).drop (k + 1))) := by
                show _ = _
                have := hz.out
                rw [decide_eq_true h1, decide_eq_false h2, decide_eq_false h3, decide_eq_true h4] at this
                exact this
              clear hz
              have f0 := decide_eq_true h1
              have f1 := decide_eq_false h2
              have f2 := decide_eq_false h3
              have f3 := decide_eq_true h4
              go_wp2_with (first
                | (go_at_call 77; refine (hsd.out _ hb.out).mono ?_; rintro e w1 ⟨rfl, hb1⟩; have hQ1 := Lib.hid ((hQ.out.below hb1).below (below_alloc w1 (.cells #[.int .i64 s.a.x, .int .i64 s.a.y, .int .i64 s.b.x, .int .i64 s.b.y] 91))); have hbb1 := Lib.hid (below_step (below_step hb.out hb1) (below_alloc w1 (.cells #[.int .i64 s.a.x, .int .i64 s.a.y, .int .i64 s.b.x, .int .i64 s.b.y] 91))); have hB1 := Lib.hid (BoxAt.new w1 #[.int .i64 s.a.x, .int .i64 s.a.y, .int .i64 s.b.x, .int .i64 s.b.y] 91); have d0 := hQ1.out.c 0 _ rfl; have d1 := hQ1.out.c 1 _ rfl; clear hb1)
                | (go_at_call 78; refine (hon.out _).mono ?_; rintro e w2 ⟨rfl, hb2⟩; have hQ2 := Lib.hid (hQ1.out.below hb2); have hbb2 := Lib.hid (below_step hbb1.out hb2); have hB2 := Lib.hid (hB1.out.below hb2); clear hb2 d0 d1; have d0 := hQ2.out.c 0 _ rfl; have d1 := hQ2.out.c 1 _ rfl; have c0 := hB2.out.c 0 _ rfl; have c1 := hB2.out.c 1 _ rfl; have c2 := hB2.out.c 2 _ rfl; have c3 := hB2.out.c 3 _ rfl)
                | (go_at_call 83; refine (hcr.out _).mono ?_; rintro e w3 ⟨rfl, hb3⟩; have hQ3 := Lib.hid (hQ2.out.below hb3); have hbb3 := Lib.hid (below_step hbb2.out hb3); have hB3 := Lib.hid (hB2.out.below hb3); clear hb3 d0 d1 c0 c1 c2 c3; have d0 := hQ3.out.c 0 _ rfl; have d1 := hQ3.out.c 1 _ rfl; have c0 := hB3.out.c 0 _ rfl; have c1 := hB3.out.c 1 _ rfl; have c2 := hB3.out.c 2 _ rfl; have c3 := hB3.out.c 3 _ rfl))
              go_roundw
              case rel => exact ⟨k + 1, b, hlt, by go_num, rfl, hz2, hQ3, hbb3⟩
              case measure => simp [intOf]; omega
        · by_cases h2 : s.b.y ≤ q.y
          · have h4 : ¬ s.a.y < s.b.y := by omega
            by_cases h3 : 0 < Cal.crs s q
            · have hz2 : Hid (z = Cal.whereFrom q b ((Cal.sds ps).drop (k + 1))) := by
                show _ = _
                have := hz.out
                rw [decide_eq_false h1, decide_eq_true h2, decide_eq_true h3, decide_eq_false h4] at this
                exact this
              clear hz
              have f0 := decide_eq_false h1
              have f1 := decide_eq_true h2
              have f2 := decide_eq_true h3
              have f3 := decide_eq_false h4
              go_wp2_with (first
                | (go_at_call 77; refine (hsd.out _ hb.out).mono ?_; rintro e w1 ⟨rfl, hb1⟩; have hQ1 := Lib.hid ((hQ.out.below hb1).below (below_alloc w1 (.cells #[.int .i64 s.a.x, .int .i64 s.a.y, .int .i64 s.b.x, .int .i64 s.b.y] 91))); have hbb1 := Lib.hid (below_step (below_step hb.out hb1) (below_alloc w1 (.cells #[.int .i64 s.a.x, .int .i64 s.a.y, .int .i64 s.b.x, .int .i64 s.b.y] 91))); have hB1 := Lib.hid (BoxAt.new w1 #[.int .i64 s.a.x, .int .i64 s.a.y, .int .i64 s.b.x, .int .i64 s.b.y] 91); have d0 := hQ1.out.c 0 _ rfl; have d1 := hQ1.out.c 1 _ rfl; clear hb1)
                | (go_at_call 78; refine (hon.out _).mono ?_; rintro e w2 ⟨rfl, hb2⟩; have hQ2 := Lib.hid (hQ1.out.below hb2); have hbb2 := Lib.hid (below_step hbb1.out hb2); have hB2 := Lib.hid (hB1.out.below hb2); clear hb2 d0 d1; have d0 := hQ2.out.c 0 _ rfl; have d1 := hQ2.out.c 1 _ rfl; have c0 := hB2.out.c 0 _ rfl; have c1 := hB2.out.c 1 _ rfl; have c2 := hB2.out.c 2 _ rfl; have c3 := hB2.out.c 3 _ rfl)
                | (go_at_call 83; refine (hcr.out _).mono ?_; rintro e w3 ⟨rfl, hb3⟩; have hQ3 := Lib.hid (hQ2.out.below hb3); have hbb3 := Lib.hid (below_step hbb2.out hb3); have hB3 := Lib.hid (hB2.out.below hb3); clear hb3 d0 d1 c0 c1 c2 c3; have d0 := hQ3.out.c 0 _ rfl; have d1 := hQ3.out.c 1 _ rfl; have c0 := hB3.out.c 0 _ rfl; have c1 := hB3.out.c 1 _ rfl; have c2 := hB3.out.c 2 _ rfl; have c3 := hB3.out.c 3 _ rfl))
              go_roundw
              case rel => exact ⟨k + 1, b, hlt, by go_num, rfl, hz2, hQ3, hbb3⟩
              case measure => simp [intOf]; omega
            · have hz2 : Hid (z = Cal.whereFrom q (!b) ((Cal.sds ps).drop (k + 1))) := by
                show _ = _
                have := hz.out
                rw [decide_eq_false h1, decide_eq_true h2, decide_eq_false h3, decide_eq_false h4] at this
                exact this
              clear hz
              have f0 := decide_eq_false h1
              have f1 := decide_eq_true h2
              have f2 := decide_eq_false h3
              have f3 := decide_eq_false h4
              go_wp2_with (first
                | (go_at_call 77; refine (hsd.out _ hb.out).mono ?_; rintro e w1 ⟨rfl, hb1⟩; have hQ1 := Lib.hid ((hQ.out.below hb1).below (below_alloc w1 (.cells #[.int .i64 s.a.x, .int .i64 s.a.y, .int .i64 s.b.x, .int .i64 s.b.y] 91))); have hbb1 := Lib.hid (below_step (below_step hb.out hb1) (below_alloc w1 (.cells #[.int .i64 s.a.x, .int .i64 s.a.y, .int .i64 s.b.x, .int .i64 s.b.y] 91))); have hB1 := Lib.hid (BoxAt.new w1 #[.int .i64 s.a.x, .int .i64 s.a.y, .int .i64 s.b.x, .int .i64 s.b.y] 91); have d0 := hQ1.out.c 0 _ rfl; have d1 := hQ1.out.c 1 _ rfl; clear hb1)
                | (go_at_call 78; refine (hon.out _).mono ?_; rintro e w2 ⟨rfl, hb2⟩; have hQ2 := Lib.hid (hQ1.out.below hb2); have hbb2 := Lib.hid (below_step hbb1.out hb2); have hB2 := Lib.hid (hB1.out.below hb2); clear hb2 d0 d1; have d0 := hQ2.out.c 0 _ rfl; have d1 := hQ2.out.c 1 _ rfl; have c0 := hB2.out.c 0 _ rfl; have c1 := hB2.out.c 1 _ rfl; have c2 := hB2.out.c 2 _ rfl; have c3 := hB2.out.c 3 _ rfl)
                | (go_at_call 83; refine (hcr.out _).mono ?_; rintro e w3 ⟨rfl, hb3⟩; have hQ3 := Lib.hid (hQ2.out.below hb3); have hbb3 := Lib.hid (below_step hbb2.out hb3); have hB3 := Lib.hid (hB2.out.below hb3); clear hb3 d0 d1 c0 c1 c2 c3; have d0 := hQ3.out.c 0 _ rfl; have d1 := hQ3.out.c 1 _ rfl; have c0 := hB3.out.c 0 _ rfl; have c1 := hB3.out.c 1 _ rfl; have c2 := hB3.out.c 2 _ rfl; have c3 := hB3.out.c 3 _ rfl))
              go_roundw
              case rel => exact ⟨k + 1, !b, hlt, by go_num, rfl, hz2, hQ3, hbb3⟩
              case measure => simp [intOf]; omega
          · have hz2 : Hid (z = Cal.whereFrom q b ((Cal.sds ps).drop (k + 1))) := by
              show _ = _
              have := hz.out
              rw [decide_eq_false h1, decide_eq_false h2] at this
              exact this
            clear hz
            have f0 := decide_eq_false h1
            have f1 := decide_eq_false h2
            go_wp2_with (first
              | (go_at_call 77; refine (hsd.out _ hb.out).mono ?_; rintro e w1 ⟨rfl, hb1⟩; have hQ1 := Lib.hid ((hQ.out.below hb1).below (below_alloc w1 (.cells #[.int .i64 s.a.x, .int .i64 s.a.y, .int .i64 s.b.x, .int .i64 s.b.y] 91))); have hbb1 := Lib.hid (below_step (below_step hb.out hb1) (below_alloc w1 (.cells #[.int .i64 s.a.x, .int .i64 s.a.y, .int .i64 s.b.x, .int .i64 s.b.y] 91))); have hB1 := Lib.hid (BoxAt.new w1 #[.int .i64 s.a.x, .int .i64 s.a.y, .int .i64 s.b.x, .int .i64 s.b.y] 91); have d0 := hQ1.out.c 0 _ rfl; have d1 := hQ1.out.c 1 _ rfl; clear hb1)
              | (go_at_call 78; refine (hon.out _).mono ?_; rintro e w2 ⟨rfl, hb2⟩; have hQ2 := Lib.hid (hQ1.out.below hb2); have hbb2 := Lib.hid (below_step hbb1.out hb2); have hB2 := Lib.hid (hB1.out.below hb2); clear hb2 d0 d1; have d0 := hQ2.out.c 0 _ rfl; have d1 := hQ2.out.c 1 _ rfl; have c0 := hB2.out.c 0 _ rfl; have c1 := hB2.out.c 1 _ rfl; have c2 := hB2.out.c 2 _ rfl; have c3 := hB2.out.c 3 _ rfl)
              | (go_at_call 83; refine (hcr.out _).mono ?_; rintro e w3 ⟨rfl, hb3⟩; have hQ3 := Lib.hid (hQ2.out.below hb3); have hbb3 := Lib.hid (below_step hbb2.out hb3); have hB3 := Lib.hid (hB2.out.below hb3); clear hb3 d0 d1 c0 c1 c2 c3; have d0 := hQ3.out.c 0 _ rfl; have d1 := hQ3.out.c 1 _ rfl; have c0 := hB3.out.c 0 _ rfl; have c1 := hB3.out.c 1 _ rfl; have c2 := hB3.out.c 2 _ rfl; have c3 := hB3.out.c 3 _ rfl))
            go_roundw
            case rel => exact ⟨k + 1, b, hlt, by go_num, rfl, hz2, hQ2, hbb2⟩
            case measure => simp [intOf]; omega
      · have hz3 : Hid (z = 0) := by show _ = _; rw [hz2, Cal.whereFrom, hh]; rfl
        rw [hh] at hon
        clear hz2 hh hs
        go_wp2_with (first
          | (go_at_call 77; refine (hsd.out _ hb.out).mono ?_; rintro e w1 ⟨rfl, hb1⟩; have hQ1 := Lib.hid ((hQ.out.below hb1).below (below_alloc w1 (.cells #[.int .i64 s.a.x, .int .i64 s.a.y, .int .i64 s.b.x, .int .i64 s.b.y] 91))); have hbb1 := Lib.hid (below_step (below_step hb.out hb1) (below_alloc w1 (.cells #[.int .i64 s.a.x, .int .i64 s.a.y, .int .i64 s.b.x, .int .i64 s.b.y] 91))); have hB1 := Lib.hid (BoxAt.new w1 #[.int .i64 s.a.x, .int .i64 s.a.y, .int .i64 s.b.x, .int .i64 s.b.y] 91); have d0 := hQ1.out.c 0 _ rfl; have d1 := hQ1.out.c 1 _ rfl; clear hb1)
          | (go_at_call 78; refine (hon.out _).mono ?_; rintro e w2 ⟨rfl, hb2⟩; have hQ2 := Lib.hid (hQ1.out.below hb2); have hbb2 := Lib.hid (below_step hbb1.out hb2); have hB2 := Lib.hid (hB1.out.below hb2); clear hb2 d0 d1; have d0 := hQ2.out.c 0 _ rfl; have d1 := hQ2.out.c 1 _ rfl; have c0 := hB2.out.c 0 _ rfl; have c1 := hB2.out.c 1 _ rfl; have c2 := hB2.out.c 2 _ rfl; have c3 := hB2.out.c 3 _ rfl)
          | (go_at_call 83; refine (hcr.out _).mono ?_; rintro e w3 ⟨rfl, hb3⟩; have hQ3 := Lib.hid (hQ2.out.below hb3); have hbb3 := Lib.hid (below_step hbb2.out hb3); have hB3 := Lib.hid (hB2.out.below hb3); clear hb3 d0 d1 c0 c1 c2 c3; have d0 := hQ3.out.c 0 _ rfl; have d1 := hQ3.out.c 1 _ rfl; have c0 := hB3.out.c 0 _ rfl; have c1 := hB3.out.c 1 _ rfl; have c2 := hB3.out.c 2 _ rfl; have c3 := hB3.out.c 3 _ rfl))
        go_ret
        exact ⟨by rw [hz3.out]; rfl, hbb2.out⟩
    · have hke : k = ps.length := by omega
      have hz3 : Hid (z = sgnB b) := by
        have := hz.out
        rw [hke, List.drop_of_length_le (by simp [Cal.sds])] at this
        exact this
      subst hke
      clear hz
      go_wp2_with fail
      go_ret
      exact ⟨by rw [hz3.out]; rfl, hb.out⟩
end Go.Proofs.Ytofaonigcojcaaa
