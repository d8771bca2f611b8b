/- Chapter 8 and what it rests on: definitions and walks, part 36. -/
import Derived.Test.YtbinoelbjlgjkaaGreatDoorC29
namespace Go.Proofs.YtbinoelbjlgjkaaGreatDoor
open Go Go.RowKit
set_option maxRecDepth 100000 in
set_option maxHeartbeats 4000000 in
theorem CheckProcedureR_any (A : Option Addr) (c : Nat) (p : Proc) (w : World) (hl : Hols w A p.hols) :
    Calls Tryz.prog 36 #[.agg #[.int .i64 p.runs.m, .int .i64 p.runs.d, .bool p.runs.k, .int .i64 p.obj.m, .int .i64 p.obj.d, .bool p.obj.k, .int .i64 p.wait.m, .int .i64 p.wait.d, .bool p.wait.k, .int .i64 p.exts, .int .i64 p.longest, .slice A p.hols.length c]] w fun e w' => e = .returned (.int .i64 (Cal.procErr p)) ∧ Below w.heap.size w w' := by
  have hl := Lib.hid hl
  have h1 := Lib.hid (BoxAt.new w #[.int .i64 p.runs.m, .int .i64 p.runs.d, .bool p.runs.k, .int .i64 p.obj.m, .int .i64 p.obj.d, .bool p.obj.k, .int .i64 p.wait.m, .int .i64 p.wait.d, .bool p.wait.k, .int .i64 p.exts, .int .i64 p.longest, .slice A p.hols.length c] 71)
  have hb := Lib.hid (below_alloc w (.cells #[.int .i64 p.runs.m, .int .i64 p.runs.d, .bool p.runs.k, .int .i64 p.obj.m, .int .i64 p.obj.d, .bool p.obj.k, .int .i64 p.wait.m, .int .i64 p.wait.d, .bool p.wait.k, .int .i64 p.exts, .int .i64 p.longest, .slice A p.hols.length c] 71))
  have i0 := per_ix0 p
  have i1 := per_ix1 p
  have i2 := per_ix2 p
  go_enter Tryz.func36, Tryz.ntmps36
  go_wp2_with fail
  go_loopw [13] (fun i wr => ∃ k : Int, ((k = 0) ∨ (k = 1 ∧ Hid (p.runs.err = 0)) ∨ (k = 2 ∧ Hid (p.runs.err = 0) ∧ Hid (p.obj.err = 0)) ∨ (k = 3 ∧ Hid (p.runs.err = 0) ∧ Hid (p.obj.err = 0) ∧ Hid (p.wait.err = 0))) ∧ i = .int .i64 k ∧ Hid (Below w.heap.size w wr) ∧ Hid (BoxAt wr w.heap.size [.int .i64 p.runs.m, .int .i64 p.runs.d, .bool p.runs.k, .int .i64 p.obj.m, .int .i64 p.obj.d, .bool p.obj.k, .int .i64 p.wait.m, .int .i64 p.wait.d, .bool p.wait.k, .int .i64 p.exts, .int .i64 p.longest, .slice A p.hols.length c])) (fun i _ => 3 - (intOf i).toNat)
  case atStart => exact ⟨0, .inl rfl, rfl, hb, h1⟩
  case round =>
    obtain ⟨k, hk, rfl, hb, hp⟩ := hrel
    rcases hk with rfl | ⟨rfl, r1⟩ | ⟨rfl, r1, r2⟩ | ⟨rfl, r1, r2, r3⟩
    · by_cases he : p.runs.err = 0
      · have he1 : (Cal.perE p.runs.m p.runs.d p.runs.k != 0) = false := by have : Cal.perE p.runs.m p.runs.d p.runs.k = 0 := he; simpa using this
        have hez := Lib.hid he
        clear he
        go_wp2_with fail
        refine (CheckPeriodR_any p.runs.m p.runs.d p.runs.k _).mono ?_
        rintro e w2 ⟨rfl, hb2⟩
        have hb3 := Lib.hid (below_step (below_step hb.out (below_alloc wr _)) hb2)
        have hp3 := Lib.hid ((hp.out.alloc _).below hb2)
        clear hb2
        go_wp2_with fail
        go_roundw
        case rel => exact ⟨1, .inr (.inl ⟨rfl, hez⟩), rfl, hb3, hp3⟩
        case measure => simp [intOf]
      · have he1 : (Cal.perE p.runs.m p.runs.d p.runs.k != 0) = true := by have : ¬ Cal.perE p.runs.m p.runs.d p.runs.k = 0 := he; simpa using this
        have hfin : Hid (Cal.procErr p = Cal.perE p.runs.m p.runs.d p.runs.k) := Cal.procErr_1 he
        clear he
        go_wp2_with fail
        refine (CheckPeriodR_any p.runs.m p.runs.d p.runs.k _).mono ?_
        rintro e w2 ⟨rfl, hb2⟩
        have hb3 := Lib.hid (below_step (below_step hb.out (below_alloc wr _)) hb2)
        clear hb2
        go_wp2_with fail
        go_ret
        exact ⟨ret_int hfin.out.symm, hb3.out⟩
    · by_cases he : p.obj.err = 0
      · have he1 : (Cal.perE p.obj.m p.obj.d p.obj.k != 0) = false := by have : Cal.perE p.obj.m p.obj.d p.obj.k = 0 := he; simpa using this
        have hez := Lib.hid he
        clear he
        go_wp2_with fail
        refine (CheckPeriodR_any p.obj.m p.obj.d p.obj.k _).mono ?_
        rintro e w2 ⟨rfl, hb2⟩
        have hb3 := Lib.hid (below_step (below_step hb.out (below_alloc wr _)) hb2)
        have hp3 := Lib.hid ((hp.out.alloc _).below hb2)
        clear hb2
        go_wp2_with fail
        go_roundw
        case rel => exact ⟨2, .inr (.inr (.inl ⟨rfl, r1, hez⟩)), rfl, hb3, hp3⟩
        case measure => simp [intOf]
      · have he1 : (Cal.perE p.obj.m p.obj.d p.obj.k != 0) = true := by have : ¬ Cal.perE p.obj.m p.obj.d p.obj.k = 0 := he; simpa using this
        have hfin : Hid (Cal.procErr p = Cal.perE p.obj.m p.obj.d p.obj.k) := Cal.procErr_2 r1.out he
        clear he
        go_wp2_with fail
        refine (CheckPeriodR_any p.obj.m p.obj.d p.obj.k _).mono ?_
        rintro e w2 ⟨rfl, hb2⟩
        have hb3 := Lib.hid (below_step (below_step hb.out (below_alloc wr _)) hb2)
        clear hb2
        go_wp2_with fail
        go_ret
        exact ⟨ret_int hfin.out.symm, hb3.out⟩
    · by_cases he : p.wait.err = 0
      · have he1 : (Cal.perE p.wait.m p.wait.d p.wait.k != 0) = false := by have : Cal.perE p.wait.m p.wait.d p.wait.k = 0 := he; simpa using this
        have hez := Lib.hid he
        clear he
        go_wp2_with fail
        refine (CheckPeriodR_any p.wait.m p.wait.d p.wait.k _).mono ?_
        rintro e w2 ⟨rfl, hb2⟩
        have hb3 := Lib.hid (below_step (below_step hb.out (below_alloc wr _)) hb2)
        have hp3 := Lib.hid ((hp.out.alloc _).below hb2)
        clear hb2
        go_wp2_with fail
        go_roundw
        case rel => exact ⟨3, .inr (.inr (.inr ⟨rfl, r1, r2, hez⟩)), rfl, hb3, hp3⟩
        case measure => simp [intOf]
      · have he1 : (Cal.perE p.wait.m p.wait.d p.wait.k != 0) = true := by have : ¬ Cal.perE p.wait.m p.wait.d p.wait.k = 0 := he; simpa using this
        have hfin : Hid (Cal.procErr p = Cal.perE p.wait.m p.wait.d p.wait.k) := Cal.procErr_3 r1.out r2.out he
        clear he
        go_wp2_with fail
        refine (CheckPeriodR_any p.wait.m p.wait.d p.wait.k _).mono ?_
        rintro e w2 ⟨rfl, hb2⟩
        have hb3 := Lib.hid (below_step (below_step hb.out (below_alloc wr _)) hb2)
        clear hb2
        go_wp2_with fail
        go_ret
        exact ⟨ret_int hfin.out.symm, hb3.out⟩
    · have hE := Cal.procErr_4 r1.out r2.out r3.out
      have c9 := hp.out.c 9 _ rfl
      have c10 := hp.out.c 10 _ rfl
      have c11 := hp.out.c 11 _ rfl
      by_cases hx : 0 ≤ p.exts ∧ p.exts ≤ 12
      · by_cases hy : 0 ≤ p.longest ∧ p.longest ≤ 3660
        · rw [if_pos ⟨hx.1, hx.2, hy.1, hy.2⟩] at hE
          have hfin := Lib.hid hE
          obtain ⟨x0, x1⟩ := hx
          obtain ⟨y0, y1⟩ := hy
          clear hE
          go_wp2_with (first | (go_at_call 89; first | refine rin ?_ | refine rout ?_ | refine rany ?_) | ((first | (go_at_call 123) | (go_at_call 92) | (go_at_call 126) | (go_at_call 29) | (go_at_call 222) | (fail) | (go_at_call 127)); first | refine rin ?_ | refine rout ?_ | refine rany ?_))
          refine (CheckHolidaysR_any _ _ p.hols _ (hl.out.below hb.out)).mono ?_
          rintro e w2 ⟨rfl, hb2⟩
          have hb3 := Lib.hid (below_step hb.out hb2)
          clear hb2
          go_wp2_with fail
          go_ret
          exact ⟨ret_int hfin.out.symm, hb3.out⟩
        · rw [if_neg (fun h => hy ⟨h.2.2.1, h.2.2.2⟩)] at hE
          have hfin := Lib.hid hE
          obtain ⟨x0, x1⟩ := hx
          have hy' : p.longest < 0 ∨ 3660 < p.longest := by omega
          clear hE hy
          go_wp2_with (first | (go_at_call 89; first | refine rin ?_ | refine rout ?_ | refine rany ?_) | ((first | (go_at_call 123) | (go_at_call 92) | (go_at_call 126) | (go_at_call 29) | (go_at_call 222) | (fail) | (go_at_call 127)); first | refine rin ?_ | refine rout ?_ | refine rany ?_))
          go_ret
          exact ⟨ret_int hfin.out.symm, hb.out⟩
      · rw [if_neg (fun h => hx ⟨h.1, h.2.1⟩)] at hE
        have hfin := Lib.hid hE
        have hx' : p.exts < 0 ∨ 12 < p.exts := by omega
        clear hE hx
        go_wp2_with (first | (go_at_call 89; first | refine rin ?_ | refine rout ?_ | refine rany ?_) | ((first | (go_at_call 123) | (go_at_call 92) | (go_at_call 126) | (go_at_call 29) | (go_at_call 222) | (fail) | (go_at_call 127)); first | refine rin ?_ | refine rout ?_ | refine rany ?_))
        go_ret
        exact ⟨ret_int hfin.out.symm, hb.out⟩
def modB (d : Int) (k : Bool) : Bool := !k || (decide (d ≤ 60) || decide (2000 < d))
theorem modest_any (m d : Int) (k : Bool) (w : World) : Calls Tryz.prog 96 #[.agg #[.int .i64 m, .int .i64 d, .bool k]] w fun e w' => e = .returned (.bool (modB d k)) ∧ Below w.heap.size w w' := by
  cases k
  · go_enter Tryz.func96, Tryz.ntmps96
    go_wp2_with fail
    go_ret
    exact ⟨rfl, by exact blw⟩
  · by_cases h1 : d ≤ 60
    · have hfin : Hid (modB d true = true) := by show _ = _; unfold modB; simp [h1]
      go_enter Tryz.func96, Tryz.ntmps96
      go_wp2_with fail
      go_ret
      exact ⟨ret_bool hfin.out.symm, by exact blw⟩
    · have h1d : decide (d ≤ 60) = false := by simpa using h1
      have hfin : Hid (modB d true = decide (2000 < d)) := by show _ = _; unfold modB; rw [h1d]; rfl
      clear h1
      go_enter Tryz.func96, Tryz.ntmps96
      go_wp2_with fail
      go_ret
      exact ⟨ret_bool hfin.out.symm, by exact blw⟩
def BoolPost (w : World) (e : Ending) (w' : World) : Prop := (∃ b : Bool, e = .returned (.bool b)) ∧ Below w.heap.size w w'
set_option maxRecDepth 100000 in
set_option maxHeartbeats 4000000 in
theorem Modest_any (A : Option Addr) (c : Nat) (p : Proc) (w : World) (hl : Hols w A p.hols) : Calls Tryz.prog 33 #[.agg #[.int .i64 p.runs.m, .int .i64 p.runs.d, .bool p.runs.k, .int .i64 p.obj.m, .int .i64 p.obj.d, .bool p.obj.k, .int .i64 p.wait.m, .int .i64 p.wait.d, .bool p.wait.k, .int .i64 p.exts, .int .i64 p.longest, .slice A p.hols.length c]] w (BoolPost w) := by
  have hl := Lib.hid hl
  have h1 := Lib.hid (BoxAt.new w #[.int .i64 p.runs.m, .int .i64 p.runs.d, .bool p.runs.k, .int .i64 p.obj.m, .int .i64 p.obj.d, .bool p.obj.k, .int .i64 p.wait.m, .int .i64 p.wait.d, .bool p.wait.k, .int .i64 p.exts, .int .i64 p.longest, .slice A p.hols.length c] 71)
  have hb := Lib.hid (below_alloc w (.cells #[.int .i64 p.runs.m, .int .i64 p.runs.d, .bool p.runs.k, .int .i64 p.obj.m, .int .i64 p.obj.d, .bool p.obj.k, .int .i64 p.wait.m, .int .i64 p.wait.d, .bool p.wait.k, .int .i64 p.exts, .int .i64 p.longest, .slice A p.hols.length c] 71))
  cases e1 : modB p.runs.d p.runs.k
  · have e1 := Lib.hid e1
    go_enter Tryz.func33, Tryz.ntmps33
    go_wp2_with fail
    refine (modest_any p.runs.m p.runs.d p.runs.k _).mono ?_
    rintro e w9 ⟨rfl, hbn⟩
    rw [e1.out]
    have hb := Lib.hid (below_step hb.out hbn)
    have h1 := Lib.hid (h1.out.below hbn)
    clear hbn
    have c0 := h1.out.c 0 _ rfl
    have c1 := h1.out.c 1 _ rfl
    have c2 := h1.out.c 2 _ rfl
    have c3 := h1.out.c 3 _ rfl
    have c4 := h1.out.c 4 _ rfl
    have c5 := h1.out.c 5 _ rfl
    have c6 := h1.out.c 6 _ rfl
    have c7 := h1.out.c 7 _ rfl
    have c8 := h1.out.c 8 _ rfl
    have c11 := h1.out.c 11 _ rfl
    go_wp2_with fail
    go_ret
    exact ⟨⟨_, rfl⟩, hb.out⟩
  have e1 := Lib.hid e1
  cases e2 : modB p.obj.d p.obj.k
  · have e2 := Lib.hid e2
    go_enter Tryz.func33, Tryz.ntmps33
    go_wp2_with fail
    refine (modest_any p.runs.m p.runs.d p.runs.k _).mono ?_
    rintro e w9 ⟨rfl, hbn⟩
    rw [e1.out]
    have hb := Lib.hid (below_step hb.out hbn)
    have h1 := Lib.hid (h1.out.below hbn)
    clear hbn
    have c0 := h1.out.c 0 _ rfl
    have c1 := h1.out.c 1 _ rfl
    have c2 := h1.out.c 2 _ rfl
    have c3 := h1.out.c 3 _ rfl
    have c4 := h1.out.c 4 _ rfl
    have c5 := h1.out.c 5 _ rfl
    have c6 := h1.out.c 6 _ rfl
    have c7 := h1.out.c 7 _ rfl
    have c8 := h1.out.c 8 _ rfl
    have c11 := h1.out.c 11 _ rfl
    go_wp2_with fail
    refine (modest_any p.obj.m p.obj.d p.obj.k _).mono ?_
    rintro e w9 ⟨rfl, hbn⟩
    rw [e2.out]
    have hb := Lib.hid (below_step hb.out hbn)
    have h1 := Lib.hid (h1.out.below hbn)
    clear hbn
    have c0 := h1.out.c 0 _ rfl
    have c1 := h1.out.c 1 _ rfl
    have c2 := h1.out.c 2 _ rfl
    have c3 := h1.out.c 3 _ rfl
    have c4 := h1.out.c 4 _ rfl
    have c5 := h1.out.c 5 _ rfl
    have c6 := h1.out.c 6 _ rfl
    have c7 := h1.out.c 7 _ rfl
    have c8 := h1.out.c 8 _ rfl
    have c11 := h1.out.c 11 _ rfl
    go_wp2_with fail
    go_ret
    exact ⟨⟨_, rfl⟩, hb.out⟩
  have e2 := Lib.hid e2
  cases e3 : modB p.wait.d p.wait.k
  · have e3 := Lib.hid e3
    go_enter Tryz.func33, Tryz.ntmps33
    go_wp2_with fail
    refine (modest_any p.runs.m p.runs.d p.runs.k _).mono ?_
    rintro e w9 ⟨rfl, hbn⟩
    rw [e1.out]
    have hb := Lib.hid (below_step hb.out hbn)
    have h1 := Lib.hid (h1.out.below hbn)
    clear hbn
    have c0 := h1.out.c 0 _ rfl
    have c1 := h1.out.c 1 _ rfl
    have c2 := h1.out.c 2 _ rfl
    have c3 := h1.out.c 3 _ rfl
    have c4 := h1.out.c 4 _ rfl
    have c5 := h1.out.c 5 _ rfl
    have c6 := h1.out.c 6 _ rfl
    have c7 := h1.out.c 7 _ rfl
    have c8 := h1.out.c 8 _ rfl
    have c11 := h1.out.c 11 _ rfl
    go_wp2_with fail
    refine (modest_any p.obj.m p.obj.d p.obj.k _).mono ?_
    rintro e w9 ⟨rfl, hbn⟩
    rw [e2.out]
    have hb := Lib.hid (below_step hb.out hbn)
    have h1 := Lib.hid (h1.out.below hbn)
    clear hbn
    have c0 := h1.out.c 0 _ rfl
    have c1 := h1.out.c 1 _ rfl
    have c2 := h1.out.c 2 _ rfl
    have c3 := h1.out.c 3 _ rfl
    have c4 := h1.out.c 4 _ rfl
    have c5 := h1.out.c 5 _ rfl
    have c6 := h1.out.c 6 _ rfl
    have c7 := h1.out.c 7 _ rfl
    have c8 := h1.out.c 8 _ rfl
    have c11 := h1.out.c 11 _ rfl
    go_wp2_with fail
    refine (modest_any p.wait.m p.wait.d p.wait.k _).mono ?_
    rintro e w9 ⟨rfl, hbn⟩
    rw [e3.out]
    have hb := Lib.hid (below_step hb.out hbn)
    have h1 := Lib.hid (h1.out.below hbn)
    clear hbn
    have c0 := h1.out.c 0 _ rfl
    have c1 := h1.out.c 1 _ rfl
    have c2 := h1.out.c 2 _ rfl
    have c3 := h1.out.c 3 _ rfl
    have c4 := h1.out.c 4 _ rfl
    have c5 := h1.out.c 5 _ rfl
    have c6 := h1.out.c 6 _ rfl
    have c7 := h1.out.c 7 _ rfl
    have c8 := h1.out.c 8 _ rfl
    have c11 := h1.out.c 11 _ rfl
    go_wp2_with fail
    go_ret
    exact ⟨⟨_, rfl⟩, hb.out⟩
  · have e3 := Lib.hid e3
    go_enter Tryz.func33, Tryz.ntmps33
    go_wp2_with fail
    refine (modest_any p.runs.m p.runs.d p.runs.k _).mono ?_
    rintro e w9 ⟨rfl, hbn⟩
    rw [e1.out]
    have hb := Lib.hid (below_step hb.out hbn)
    have h1 := Lib.hid (h1.out.below hbn)
    clear hbn
    have c0 := h1.out.c 0 _ rfl
    have c1 := h1.out.c 1 _ rfl
    have c2 := h1.out.c 2 _ rfl
    have c3 := h1.out.c 3 _ rfl
    have c4 := h1.out.c 4 _ rfl
    have c5 := h1.out.c 5 _ rfl
    have c6 := h1.out.c 6 _ rfl
    have c7 := h1.out.c 7 _ rfl
    have c8 := h1.out.c 8 _ rfl
    have c11 := h1.out.c 11 _ rfl
    go_wp2_with fail
    refine (modest_any p.obj.m p.obj.d p.obj.k _).mono ?_
    rintro e w9 ⟨rfl, hbn⟩
    rw [e2.out]
    have hb := Lib.hid (below_step hb.out hbn)
    have h1 := Lib.hid (h1.out.below hbn)
    clear hbn
    have c0 := h1.out.c 0 _ rfl
    have c1 := h1.out.c 1 _ rfl
    have c2 := h1.out.c 2 _ rfl
    have c3 := h1.out.c 3 _ rfl
    have c4 := h1.out.c 4 _ rfl
    have c5 := h1.out.c 5 _ rfl
    have c6 := h1.out.c 6 _ rfl
    have c7 := h1.out.c 7 _ rfl
    have c8 := h1.out.c 8 _ rfl
    have c11 := h1.out.c 11 _ rfl
    go_wp2_with fail
    refine (modest_any p.wait.m p.wait.d p.wait.k _).mono ?_
    rintro e w9 ⟨rfl, hbn⟩
    rw [e3.out]
    have hb := Lib.hid (below_step hb.out hbn)
    have h1 := Lib.hid (h1.out.below hbn)
    clear hbn
    have c0 := h1.out.c 0 _ rfl
    have c1 := h1.out.c 1 _ rfl
    have c2 := h1.out.c 2 _ rfl
    have c3 := h1.out.c 3 _ rfl
    have c4 := h1.out.c 4 _ rfl
    have c5 := h1.out.c 5 _ rfl
    have c6 := h1.out.c 6 _ rfl
    have c7 := h1.out.c 7 _ rfl
    have c8 := h1.out.c 8 _ rfl
    have c11 := h1.out.c 11 _ rfl
    go_wp2_with fail
    refine (Calendar_any A c p.hols _ (hl.out.below hb.out)).mono ?_
    rintro e w9 ⟨⟨b, rfl, hbl⟩, rfl⟩
    clear hbl
    go_wp2_with fail
    go_ret
    exact ⟨⟨_, rfl⟩, hb.out⟩
theorem Brief_any (N : Option Addr) (d : Nat) (n : Note) (w : World) (hn : n.name.size ≤ maxLen) (ha : n.acts.length ≤ 9223372036854775807) : Calls Tryz.prog 56 #[.agg #[.string n.name, .int .i64 n.opened, .slice N n.acts.length d]] w (BoolPost w) := by
  unfold maxLen at hn
  by_cases h1 : n.name.size ≤ 30
  · by_cases h2 : n.acts.length ≤ 12
    · go_enter Tryz.func56, Tryz.ntmps56
      go_wp2_with fail
      go_ret
      exact ⟨⟨_, rfl⟩, by exact blw⟩
    · have h2' : 12 < n.acts.length := by omega
      clear h2
      by_cases h3 : 40 < n.acts.length
      · by_cases h4 : n.acts.length ≤ 50
        · go_enter Tryz.func56, Tryz.ntmps56
          go_wp2_with fail
          go_ret
          exact ⟨⟨_, rfl⟩, by exact blw⟩
        · have h4' : 50 < n.acts.length := by omega
          clear h4
          go_enter Tryz.func56, Tryz.ntmps56
          go_wp2_with fail
          go_ret
          exact ⟨⟨_, rfl⟩, by exact blw⟩
      · have h3' : n.acts.length ≤ 40 := by omega
        clear h3
        go_enter Tryz.func56, Tryz.ntmps56
        go_wp2_with fail
        go_ret
        exact ⟨⟨_, rfl⟩, by exact blw⟩
  · have h1' : 30 < n.name.size := by omega
    clear h1
    go_enter Tryz.func56, Tryz.ntmps56
    go_wp2_with fail
    go_ret
    exact ⟨⟨_, rfl⟩, by exact blw⟩
end Go.Proofs.YtbinoelbjlgjkaaGreatDoor
namespace Go.Proofs.YtbinoelbjlgjkaaGreatDoor
open Go Go.RowKit
theorem acc_none {ph k : Int} (h0 : (ph == 0) = false) (h1 : (ph == 1) = false) (h2 : (ph == 2) = false) (h3 : (ph == 3) = false) : Cal.accI ph k = -1 := by
  have e0 : ph ≠ 0 := by simpa using h0
  have e1 : ph ≠ 1 := by simpa using h1
  have e2 : ph ≠ 2 := by simpa using h2
  have e3 : ph ≠ 3 := by simpa using h3
  have hn : ¬ (1 ≤ ph ∧ ph ≤ 3) := by omega
  unfold Cal.accI
  simp [e0, e1, e2, e3, hn]
set_option maxRecDepth 100000 in
set_option maxHeartbeats 4000000 in
theorem accepted_any (ph k : Int) (k0 : 0 ≤ k) (k1 : k ≤ 7) (w : World) : Calls Tryz.prog 235 #[.int .i64 ph, .int .i64 k] w fun e w' => e = .returned (.int .i64 (Cal.accI ph k)) ∧ w = w' := by
  by_cases hp : ph = 0 ∨ ph = 1 ∨ ph = 2 ∨ ph = 3
  · rcases hp with rfl | rfl | rfl | rfl
    all_goals
      rcases Cal.kinds k0 k1 with rfl | rfl | rfl | rfl | rfl | rfl | rfl | rfl
      all_goals
        clear k0 k1
        go_enter Tryz.func235, Tryz.ntmps235
        go_wp2_with (((first | (go_at_call 123) | (go_at_call 92) | (go_at_call 126) | (go_at_call 29) | (go_at_call 222) | (fail) | (go_at_call 127)); first | refine rin ?_ | refine rout ?_ | refine rany ?_))
        go_ret
        exact ⟨by first | rfl | decide, rfl⟩
  · have h0 : (ph == 0) = false := by simp; omega
    have h1 : (ph == 1) = false := by simp; omega
    have h2 : (ph == 2) = false := by simp; omega
    have h3 : (ph == 3) = false := by simp; omega
    have hfin := Lib.hid (acc_none (k := k) h0 h1 h2 h3)
    have hr : ph < 1 ∨ 3 < ph := by omega
    clear hp k0 k1
    go_enter Tryz.func235, Tryz.ntmps235
    go_wp2_with (((first | (go_at_call 123) | (go_at_call 92) | (go_at_call 126) | (go_at_call 29) | (go_at_call 222) | (fail) | (go_at_call 127)); first | refine rin ?_ | refine rout ?_ | refine rany ?_))
    go_ret
    exact ⟨ret_int hfin.out.symm, rfl⟩
set_option maxRecDepth 100000 in
set_option maxHeartbeats 4000000 in
theorem late_any (s : NSt) (a : NAct) (w : World) : Calls Tryz.prog 236 #[.agg #[.int .i64 s.phase, .int .i64 s.deadline, .int .i64 s.object, .int .i64 s.last, .int .i64 s.objected, .int .i64 s.extended], .agg #[.int .i64 a.day, .int .i64 a.kind, .int .i64 a.days]] w fun e w' => e = .returned (.bool (Cal.lateB s a)) ∧ Below w.heap.size w w' := by
  by_cases h1 : a.kind = 1 ∨ a.kind = 6 ∨ a.kind = 7
  · have hL : Cal.lateB s a = decide (s.phase = 1 ∧ s.deadline < a.day) := if_pos h1
    by_cases hp : s.phase = 1
    · have hpb : (s.phase == 1) = true := by simpa using hp
      have hfin : Hid (Cal.lateB s a = decide (s.deadline < a.day)) := by show _ = _; rw [hL]; simp [hp]
      clear hp hL
      rcases h1 with h1 | h1 | h1
      · have k1 : (a.kind == 1) = true := by simpa using h1
        clear h1
        go_enter Tryz.func236, Tryz.ntmps236
        go_wp2_with fail
        go_ret
        exact ⟨ret_bool hfin.out.symm, by exact blw⟩
      · have k1 : (a.kind == 1) = false := by rw [h1]; rfl
        have k6 : (a.kind == 6) = true := by simpa using h1
        clear h1
        go_enter Tryz.func236, Tryz.ntmps236
        go_wp2_with fail
        go_ret
        exact ⟨ret_bool hfin.out.symm, by exact blw⟩
      · have k1 : (a.kind == 1) = false := by rw [h1]; rfl
        have k6 : (a.kind == 6) = false := by rw [h1]; rfl
        have k7 : (a.kind == 7) = true := by simpa using h1
        clear h1
        go_enter Tryz.func236, Tryz.ntmps236
        go_wp2_with fail
        go_ret
        exact ⟨ret_bool hfin.out.symm, by exact blw⟩
    · have hpb : (s.phase == 1) = false := by simpa using hp
      have hfin : Hid (Cal.lateB s a = false) := by show _ = _; rw [hL]; simp [hp]
      clear hp hL
      rcases h1 with h1 | h1 | h1
      · have k1 : (a.kind == 1) = true := by simpa using h1
        clear h1
        go_enter Tryz.func236, Tryz.ntmps236
        go_wp2_with fail
        go_ret
        exact ⟨ret_bool hfin.out.symm, by exact blw⟩
      · have k1 : (a.kind == 1) = false := by rw [h1]; rfl
        have k6 : (a.kind == 6) = true := by simpa using h1
        clear h1
        go_enter Tryz.func236, Tryz.ntmps236
        go_wp2_with fail
        go_ret
        exact ⟨ret_bool hfin.out.symm, by exact blw⟩
      · have k1 : (a.kind == 1) = false := by rw [h1]; rfl
        have k6 : (a.kind == 6) = false := by rw [h1]; rfl
        have k7 : (a.kind == 7) = true := by simpa using h1
        clear h1
        go_enter Tryz.func236, Tryz.ntmps236
        go_wp2_with fail
        go_ret
        exact ⟨ret_bool hfin.out.symm, by exact blw⟩
  · have k1 : (a.kind == 1) = false := by simp; omega
    have k6 : (a.kind == 6) = false := by simp; omega
    have k7 : (a.kind == 7) = false := by simp; omega
    by_cases h3 : a.kind = 3
    · have hL : Cal.lateB s a = decide (s.deadline < a.day ∨ s.object < a.day) := by unfold Cal.lateB; rw [if_neg h1, if_pos h3]
      have k3 : (a.kind == 3) = true := by simpa using h3
      by_cases hd : s.deadline < a.day
      · have hfin : Hid (Cal.lateB s a = true) := by show _ = _; rw [hL]; simp [hd]
        clear h1 h3 hL
        go_enter Tryz.func236, Tryz.ntmps236
        go_wp2_with fail
        go_ret
        exact ⟨ret_bool hfin.out.symm, by exact blw⟩
      · have hd' : decide (s.deadline < a.day) = false := by simpa using hd
        have hfin : Hid (Cal.lateB s a = decide (s.object < a.day)) := by show _ = _; rw [hL]; simp [hd]
        clear h1 h3 hL hd
        go_enter Tryz.func236, Tryz.ntmps236
        go_wp2_with fail
        go_ret
        exact ⟨ret_bool hfin.out.symm, by exact blw⟩
    · have hfin : Hid (Cal.lateB s a = false) := by show _ = _; unfold Cal.lateB; rw [if_neg h1, if_neg h3]
      have k3 : (a.kind == 3) = false := by simpa using h3
      clear h1 h3
      go_enter Tryz.func236, Tryz.ntmps236
      go_wp2_with fail
      go_ret
      exact ⟨ret_bool hfin.out.symm, by exact blw⟩
/-- A deadline that is moved. -/
def Cal.movedS (p : Proc) (x : Int) : Option Int := if 0 ≤ x ∧ x ≤ 200000 then Cal.addW p.hols x 0 else none
set_option maxRecDepth 100000 in
set_option maxHeartbeats 4000000 in
theorem moved_any (A : Option Addr) (c : Nat) (p : Proc) (hok : Cal.HolsOk p.hols) (x y : Int) (hlo : -1000000 ≤ x + y) (hhi : x + y ≤ 1000000) (w : World) (hl : Hols w A p.hols) :
    Calls Tryz.prog 238 #[.agg #[.int .i64 p.runs.m, .int .i64 p.runs.d, .bool p.runs.k, .int .i64 p.obj.m, .int .i64 p.obj.d, .bool p.obj.k, .int .i64 p.wait.m, .int .i64 p.wait.d, .bool p.wait.k, .int .i64 p.exts, .int .i64 p.longest, .slice A p.hols.length c], .int .i64 x, .int .i64 y] w fun e w' => e = .returned (Cal.addV (Cal.movedS p (x + y))) ∧ Below w.heap.size w w' := by
  have hl := Lib.hid hl
  have hwr : IntKind.i64.wrap (x + y) = x + y := IntWalk.i64_in _ (by omega)
  have h1 := Lib.hid (BoxAt.new w #[.int .i64 p.runs.m, .int .i64 p.runs.d, .bool p.runs.k, .int .i64 p.obj.m, .int .i64 p.obj.d, .bool p.obj.k, .int .i64 p.wait.m, .int .i64 p.wait.d, .bool p.wait.k, .int .i64 p.exts, .int .i64 p.longest, .slice A p.hols.length c] 71)
  have hb := Lib.hid (below_alloc w (.cells #[.int .i64 p.runs.m, .int .i64 p.runs.d, .bool p.runs.k, .int .i64 p.obj.m, .int .i64 p.obj.d, .bool p.obj.k, .int .i64 p.wait.m, .int .i64 p.wait.d, .bool p.wait.k, .int .i64 p.exts, .int .i64 p.longest, .slice A p.hols.length c] 71))
  have c11 := h1.out.c 11 _ rfl
  by_cases hd : 0 ≤ x + y ∧ x + y ≤ 200000
  · have hAR := fun w1 hl => AddWorkingR_any A c p.hols hok (x + y) 0 (by omega) (by omega) hd.1 hd.2 w1 hl
    have hM : Hid (Cal.movedS p (x + y) = Cal.addW p.hols (x + y) 0) := if_pos hd
    unfold AddRPost at hAR
    obtain ⟨d0, d1⟩ := hd
    cases hr : Cal.addW p.hols (x + y) 0 with
    | none =>
      rw [hr] at hAR
      have hfin : Hid (Cal.movedS p (x + y) = none) := by show _ = _; rw [hM.out, hr]
      rw [hfin.out]
      unfold Cal.addV at hAR ⊢
      have hAR := Lib.hid hAR
      clear hr
      go_enter Tryz.func238, Tryz.ntmps238
      go_wp2_with (((first | (go_at_call 123) | (go_at_call 92) | (go_at_call 126) | (go_at_call 29) | (go_at_call 222) | (fail) | (go_at_call 127)); first | refine rin ?_ | refine rout ?_ | refine rany ?_))
      refine (hAR.out _ (hl.out.below hb.out)).mono ?_
      rintro e w2 ⟨rfl, hb2⟩
      have hb2 := Lib.hid (below_step hb.out hb2)
      go_wp2_with fail
      go_ret2
      exact ⟨rfl, hb2.out⟩
    | some q =>
      rw [hr] at hAR
      have hfin : Hid (Cal.movedS p (x + y) = some q) := by show _ = _; rw [hM.out, hr]
      rw [hfin.out]
      unfold Cal.addV at hAR ⊢
      have hAR := Lib.hid hAR
      clear hr
      go_enter Tryz.func238, Tryz.ntmps238
      go_wp2_with (((first | (go_at_call 123) | (go_at_call 92) | (go_at_call 126) | (go_at_call 29) | (go_at_call 222) | (fail) | (go_at_call 127)); first | refine rin ?_ | refine rout ?_ | refine rany ?_))
      refine (hAR.out _ (hl.out.below hb.out)).mono ?_
      rintro e w2 ⟨rfl, hb2⟩
      have hb2 := Lib.hid (below_step hb.out hb2)
      go_wp2_with fail
      go_ret2
      exact ⟨rfl, hb2.out⟩
  · have hfin : Hid (Cal.movedS p (x + y) = none) := if_neg hd
    have hd' : x + y < 0 ∨ 200000 < x + y := by omega
    clear hd
    rw [hfin.out]
    unfold Cal.addV
    go_enter Tryz.func238, Tryz.ntmps238
    go_wp2_with (((first | (go_at_call 123) | (go_at_call 92) | (go_at_call 126) | (go_at_call 29) | (go_at_call 222) | (fail) | (go_at_call 127)); first | refine rin ?_ | refine rout ?_ | refine rany ?_))
    go_ret2
    exact ⟨rfl, hb.out⟩
end Go.Proofs.YtbinoelbjlgjkaaGreatDoor
