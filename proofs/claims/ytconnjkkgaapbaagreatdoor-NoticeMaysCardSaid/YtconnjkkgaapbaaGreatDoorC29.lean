/- Chapter 8 and what it rests on: definitions and walks, part 29. -/
import Derived.Test.YtconnjkkgaapbaaGreatDoorC27
import Derived.Test.YtconnjkkgaapbaaGreatDoorC08
import Derived.Test.YtconnjkkgaapbaaGreatDoorC28
import Derived.Deep.DeepCutAuto
namespace Go.Proofs.YtconnjkkgaapbaaGreatDoor
open Go Go.RowKit
theorem BoxAt.belowB {w w' : World} {B b : Nat} {cs : List Value} (h : BoxAt w b cs) (hb : Below B w w') (hlt : b < B) : BoxAt w' b cs :=
  ⟨fun j v hv => (hb.cell (p := ⟨b, 0 + j, none⟩) hlt).trans (h.range j v hv), fun j hj => (hb.frozen (p := ⟨b, j, none⟩) hlt).trans (h.free j hj), Nat.lt_of_lt_of_le h.lt hb.size⟩
/-- A number that is appended to a slice of the call's own. -/
theorem wpPush {ops : Array Oper} {rest : List Oper} {op : Oper} {a : Act} {w : World} {Q : Exit → Act → World → Prop} {B : Nat} {v : Value} {zs : List Int} {t : TypeId} (z : Int) (h : IntsL w B v zs) (hB : B ≤ w.heap.size) (hlen : zs.length ≤ 1000000)
    (hgd : op.guard = none) (s x : Operand) (ho : op.op = .call { callee := .builtin .append, args := #[s, x], argTypes := #[46, 46] }) (hs : a.eval s = v) {c : Nat} (hx : a.eval x = .slice (some ⟨w.heap.size, 0, none⟩) 1 c)
    (k : ∀ v' w', IntsL w' B v' (zs ++ [z]) → Below B w w' → wpList Tryz.prog ops Q rest (a.put op.dst v') w') : wpList Tryz.prog ops Q (op :: rest) a (w.alloc (.cells #[.int .i64 z] t)) := by
  refine wpList_append_rows elemInt hgd s x ho hs hx (OwnL.below h (below_alloc _ _)) (rowsAt_new _ [.int .i64 z] _) rfl (intRows_wid [z]) (intRows_one [z]) (by rw [intRows_length]; simp; omega) (by decide) (by simp; omega) ?_
  intro v' w2 hown2 hg2 _
  refine k v' w2 ?_ ?_
  · unfold IntsL intRows; rw [List.map_append]; exact hown2
  · exact ((Below.refl B w).alloc hB _).trans (grown_below hg2 (fun g e => (OwnL.lt h g e).1) (by simp; omega))
theorem tri_ix0 (x y z : Int) (w : World) : (Instr.index 74 (.agg #[.int .i64 x, .int .i64 y, .int .i64 z]) (.int .i64 0)).run Tryz.prog w = .ok (.int .i64 x) w := by kernel_rfl
theorem tri_ix1 (x y z : Int) (w : World) : (Instr.index 74 (.agg #[.int .i64 x, .int .i64 y, .int .i64 z]) (.int .i64 1)).run Tryz.prog w = .ok (.int .i64 y) w := by kernel_rfl
theorem tri_ix2 (x y z : Int) (w : World) : (Instr.index 74 (.agg #[.int .i64 x, .int .i64 y, .int .i64 z]) (.int .i64 2)).run Tryz.prog w = .ok (.int .i64 z) w := by kernel_rfl
def blk (x day i : Int) : List Int := if x < 0 ∨ day < x then [i] else []
/-- By what a reuse is blocked. -/
def Cal.blkL (x y z day : Int) : List Int := blk x day 0 ++ blk y day 1 ++ blk z day 2
def accB (x y z day : Int) : Nat → List Int
  | 0 => []
  | 1 => blk x day 0
  | 2 => blk x day 0 ++ blk y day 1
  | _ => blk x day 0 ++ blk y day 1 ++ blk z day 2
def BlPost (w : World) (zs : List Int) (E : Int) (e : Ending) (w' : World) : Prop := ∃ v, e = .returned (.tuple #[v, .int .i64 E]) ∧ SliceOf w' w.heap.size v zs ∧ Below w.heap.size w w'
theorem BlPost.none {w w' : World} (E : Int) (hb : Below w.heap.size w w') : BlPost w [] E (.returned (.tuple #[.slice none 0 0, .int .i64 E])) w' := ⟨_, rfl, ⟨.none, 0, rfl, by simp, fun h => absurd rfl h⟩, hb⟩
set_option maxRecDepth 100000 in
set_option maxHeartbeats 4000000 in
theorem blocks_walk (A : Option Addr) (c : Nat) (p : Proc) (right rest x y z E : Int) (N : Option Addr) (d : Nat) (n : Note) (day : Int) (w : World) (zs0 : List Int) (F : Int) (hN : NB w A p N n)
    (hr : (E ≠ 0 ∧ zs0 = [] ∧ F = E) ∨ (E = 0 ∧ ¬ (0 ≤ day ∧ day ≤ 200000) ∧ zs0 = [] ∧ F = 2) ∨ (E = 0 ∧ (0 ≤ day ∧ day ≤ 200000) ∧ zs0 = Cal.blkL x y z day ∧ F = 0))
    (hw : Hid (∀ w1, NB w1 A p N n → Calls Tryz.prog 70 #[.agg #[.int .i64 p.runs.m, .int .i64 p.runs.d, .bool p.runs.k, .int .i64 p.obj.m, .int .i64 p.obj.d, .bool p.obj.k, .int .i64 p.wait.m, .int .i64 p.wait.d, .bool p.wait.k, .int .i64 p.exts, .int .i64 p.longest, .slice A p.hols.length c], .agg #[.int .i64 right, .int .i64 rest, .string n.name, .int .i64 n.opened, .slice N n.acts.length d]] w1 (TriPost w1 x y z E))) :
    Calls Tryz.prog 25 #[.agg #[.int .i64 p.runs.m, .int .i64 p.runs.d, .bool p.runs.k, .int .i64 p.obj.m, .int .i64 p.obj.d, .bool p.obj.k, .int .i64 p.wait.m, .int .i64 p.wait.d, .bool p.wait.k, .int .i64 p.exts, .int .i64 p.longest, .slice A p.hols.length c], .agg #[.int .i64 right, .int .i64 rest, .string n.name, .int .i64 n.opened, .slice N n.acts.length d], .int .i64 day] w (BlPost w zs0 F) := by
  have hN := Lib.hid hN
  rcases hr with ⟨hE, rfl, rfl⟩ | ⟨rfl, hd, rfl, rfl⟩ | ⟨rfl, ⟨d0, d1⟩, hz, rfl⟩
  · have hE1 : (F != 0) = true := by simpa using hE
    clear hE
    obtain ⟨h1, h2, hb⟩ := start2r w A c p right rest N d n
    have r0 := h2.out.c 0 _ rfl
    have r1 := h2.out.c 1 _ rfl
    have r2 := h2.out.c 2 _ rfl
    have r3 := h2.out.c 3 _ rfl
    have r4 := h2.out.c 4 _ rfl
    go_enter Tryz.func25, Tryz.ntmps25
    go_wp2_with (refine wpPr h1.out (.tmp 3) rfl ?_)
    clear r0 r1 r2 r3 r4
    refine (hw.out _ (hN.out.below hb.out)).mono ?_
    rintro e w1 ⟨he, hb1⟩
    subst he
    have hbw := Lib.hid (below_step hb.out hb1)
    have hN6 := Lib.hid (BoxAt.new w1 #[.int .i64 0, .int .i64 0, .int .i64 0] 74)
    clear hb1 h1 h2 hb
    go_wp2_with ((refine wpList_store_box rfl 74 (.tmp 8) (.tmp 17) rfl (w1.heap.size) _ [.int .i64 x, .int .i64 y, .int .i64 z] (by rfl) (by rfl) hN6.out rfl triSize (by kernel_rfl) ?_; intro w2 h6 hg6); have hb2 := Lib.hid (below_step hbw.out (below_of_grownB (below_alloc w1 _) hg6 (Nat.le_refl _))); have c0 := h6.c 0 _ rfl; have c1 := h6.c 1 _ rfl; have c2 := h6.c 2 _ rfl)
    go_ret2
    exact BlPost.none F hb2.out
  · have hd' : day < 0 ∨ 200000 < day := by omega
    clear hd
    obtain ⟨h1, h2, hb⟩ := start2r w A c p right rest N d n
    have r0 := h2.out.c 0 _ rfl
    have r1 := h2.out.c 1 _ rfl
    have r2 := h2.out.c 2 _ rfl
    have r3 := h2.out.c 3 _ rfl
    have r4 := h2.out.c 4 _ rfl
    go_enter Tryz.func25, Tryz.ntmps25
    go_wp2_with (refine wpPr h1.out (.tmp 3) rfl ?_)
    clear r0 r1 r2 r3 r4
    refine (hw.out _ (hN.out.below hb.out)).mono ?_
    rintro e w1 ⟨he, hb1⟩
    subst he
    have hbw := Lib.hid (below_step hb.out hb1)
    have hN6 := Lib.hid (BoxAt.new w1 #[.int .i64 0, .int .i64 0, .int .i64 0] 74)
    clear hb1 h1 h2 hb
    go_wp2_with (first | first | (go_at_call 60; first | refine rin ?_ | refine rout ?_ | refine rany ?_) | ((first | (go_at_call 86) | (go_at_call 41) | (go_at_call 74) | (go_at_call 28) | (go_at_call 109) | (fail) | (fail)); first | refine rin ?_ | refine rout ?_ | refine rany ?_) | ((refine wpList_store_box rfl 74 (.tmp 8) (.tmp 17) rfl (w1.heap.size) _ [.int .i64 x, .int .i64 y, .int .i64 z] (by rfl) (by rfl) hN6.out rfl triSize (by kernel_rfl) ?_; intro w2 h6 hg6); have hb2 := Lib.hid (below_step hbw.out (below_of_grownB (below_alloc w1 _) hg6 (Nat.le_refl _))); have c0 := h6.c 0 _ rfl; have c1 := h6.c 1 _ rfl; have c2 := h6.c 2 _ rfl))
    go_ret2
    exact BlPost.none 2 hb2.out
  · have hzz := Lib.hid hz
    clear hz
    obtain ⟨h1, h2, hb⟩ := start2r w A c p right rest N d n
    have r0 := h2.out.c 0 _ rfl
    have r1 := h2.out.c 1 _ rfl
    have r2 := h2.out.c 2 _ rfl
    have r3 := h2.out.c 3 _ rfl
    have r4 := h2.out.c 4 _ rfl
    go_enter Tryz.func25, Tryz.ntmps25
    go_wp2_with (refine wpPr h1.out (.tmp 3) rfl ?_)
    clear r0 r1 r2 r3 r4
    refine (hw.out _ (hN.out.below hb.out)).mono ?_
    rintro e w1 ⟨he, hb1⟩
    subst he
    have hbw := Lib.hid (below_step hb.out hb1)
    have hN6 := Lib.hid (BoxAt.new w1 #[.int .i64 0, .int .i64 0, .int .i64 0] 74)
    clear hb1 h1 h2 hb
    go_wp2_with (first | first | (go_at_call 60; first | refine rin ?_ | refine rout ?_ | refine rany ?_) | ((first | (go_at_call 86) | (go_at_call 41) | (go_at_call 74) | (go_at_call 28) | (go_at_call 109) | (fail) | (fail)); first | refine rin ?_ | refine rout ?_ | refine rany ?_) | ((refine wpList_store_box rfl 74 (.tmp 8) (.tmp 17) rfl (w1.heap.size) _ [.int .i64 x, .int .i64 y, .int .i64 z] (by rfl) (by rfl) hN6.out rfl triSize (by kernel_rfl) ?_; intro w2 h6 hg6); have hb2 := Lib.hid (below_step hbw.out (below_of_grownB (below_alloc w1 _) hg6 (Nat.le_refl _))); have c0 := h6.c 0 _ rfl; have c1 := h6.c 1 _ rfl; have c2 := h6.c 2 _ rfl))
    have hbs0 : Hid (w2.heap.size ≤ w2.heap.size) := Nat.le_refl _
    have hown0 : Hid (IntsL w2 w2.heap.size (.slice none 0 0) []) := OwnL.nil _ _ _ _
    have hfr0 : Hid (Below w2.heap.size w2 w2) := Below.refl _ _
    clear hN hw hN6 h6 hg6 hbw
    have i0 := tri_ix0 x y z
    have i1 := tri_ix1 x y z
    have i2 := tri_ix2 x y z
    go_loopw [10, 26] (fun v i wr => ∃ zs : List Int, Hid (IntsL wr w2.heap.size v zs) ∧ Hid (Below w2.heap.size w2 wr) ∧ Hid (w2.heap.size ≤ wr.heap.size) ∧ ((i = .int .i64 0 ∧ Hid (zs.length ≤ 0) ∧ Hid (zs = accB x y z day 0)) ∨ (i = .int .i64 1 ∧ Hid (zs.length ≤ 1) ∧ Hid (zs = accB x y z day 1)) ∨ (i = .int .i64 2 ∧ Hid (zs.length ≤ 2) ∧ Hid (zs = accB x y z day 2)) ∨ (i = .int .i64 3 ∧ Hid (zs.length ≤ 3) ∧ Hid (zs = accB x y z day 3)))) (fun _ i _ => (3 - intOf i).toNat)
    case atStart => exact ⟨[], hown0, hfr0, hbs0, .inl ⟨rfl, Nat.le_refl _, rfl⟩⟩
    case round =>
      obtain ⟨zs, hown, hfr, hbs, hi⟩ := hrel
      clear hown0 hfr0 hbs0
      rcases hi with ⟨rfl, q0, q⟩ | ⟨rfl, q0, q⟩ | ⟨rfl, q0, q⟩ | ⟨rfl, q0, q⟩
      · have q0 := q0.out
        by_cases h1 : x < 0
        · have d1 : decide (x < 0) = true := by simpa using h1
          have hnx : Hid (zs ++ [0] = accB x y z day 1) := by show _ = _; rw [q.out]; simp [accB, blk, h1]
          have hl : (zs ++ [0]).length ≤ 1 := by rw [List.length_append]; simp only [List.length_cons, List.length_nil]; omega
          have hl := Lib.hid hl
          clear h1
          go_wp2_with (at_builtin; refine wpPush 0 hown.out hbs.out (Nat.le_trans q0 (by decide)) rfl _ _ rfl rfl rfl ?_; intro v' w3 hown2 hb3)
          have hfr3 := Lib.hid (hfr.out.trans hb3)
          have hbs3 := Lib.hid (Nat.le_trans hbs.out hb3.size)
          have hown3 := Lib.hid hown2
          clear hown2 hb3
          go_wp2_with fail
          go_roundw
          case rel => exact ⟨zs ++ [0], hown3, hfr3, hbs3, .inr (.inl ⟨rfl, hl, hnx⟩)⟩
          case measure => simp [intOf]
        · have d1 : decide (x < 0) = false := by simpa using h1
          by_cases h2 : day < x
          · have d2 : decide (day < x) = true := by simpa using h2
            have hnx : Hid (zs ++ [0] = accB x y z day 1) := by show _ = _; rw [q.out]; simp [accB, blk, h2]
            have hl : (zs ++ [0]).length ≤ 1 := by rw [List.length_append]; simp only [List.length_cons, List.length_nil]; omega
            have hl := Lib.hid hl
            clear h1 h2
            go_wp2_with (at_builtin; refine wpPush 0 hown.out hbs.out (Nat.le_trans q0 (by decide)) rfl _ _ rfl rfl rfl ?_; intro v' w3 hown2 hb3)
            have hfr3 := Lib.hid (hfr.out.trans hb3)
            have hbs3 := Lib.hid (Nat.le_trans hbs.out hb3.size)
            have hown3 := Lib.hid hown2
            clear hown2 hb3
            go_wp2_with fail
            go_roundw
            case rel => exact ⟨zs ++ [0], hown3, hfr3, hbs3, .inr (.inl ⟨rfl, hl, hnx⟩)⟩
            case measure => simp [intOf]
          · have d2 : decide (day < x) = false := by simpa using h2
            have hnx : Hid (zs = accB x y z day 1) := by show _ = _; rw [q.out]; simp [accB, blk, h1, h2]
            have hl : Hid (zs.length ≤ 1) := by show _ ≤ _; omega
            clear h1 h2
            go_wp2_with fail
            go_roundw
            case rel => exact ⟨zs, hown, hfr, hbs, .inr (.inl ⟨rfl, hl, hnx⟩)⟩
            case measure => simp [intOf]
      · have q0 := q0.out
        by_cases h1 : y < 0
        · have d1 : decide (y < 0) = true := by simpa using h1
          have hnx : Hid (zs ++ [1] = accB x y z day 2) := by show _ = _; rw [q.out]; simp [accB, blk, h1]
          have hl : (zs ++ [1]).length ≤ 2 := by rw [List.length_append]; simp only [List.length_cons, List.length_nil]; omega
          have hl := Lib.hid hl
          clear h1
          go_wp2_with (at_builtin; refine wpPush 1 hown.out hbs.out (Nat.le_trans q0 (by decide)) rfl _ _ rfl rfl rfl ?_; intro v' w3 hown2 hb3)
          have hfr3 := Lib.hid (hfr.out.trans hb3)
          have hbs3 := Lib.hid (Nat.le_trans hbs.out hb3.size)
          have hown3 := Lib.hid hown2
          clear hown2 hb3
          go_wp2_with fail
          go_roundw
          case rel => exact ⟨zs ++ [1], hown3, hfr3, hbs3, .inr (.inr (.inl ⟨rfl, hl, hnx⟩))⟩
          case measure => simp [intOf]
        · have d1 : decide (y < 0) = false := by simpa using h1
          by_cases h2 : day < y
          · have d2 : decide (day < y) = true := by simpa using h2
            have hnx : Hid (zs ++ [1] = accB x y z day 2) := by show _ = _; rw [q.out]; simp [accB, blk, h2]
            have hl : (zs ++ [1]).length ≤ 2 := by rw [List.length_append]; simp only [List.length_cons, List.length_nil]; omega
            have hl := Lib.hid hl
            clear h1 h2
            go_wp2_with (at_builtin; refine wpPush 1 hown.out hbs.out (Nat.le_trans q0 (by decide)) rfl _ _ rfl rfl rfl ?_; intro v' w3 hown2 hb3)
            have hfr3 := Lib.hid (hfr.out.trans hb3)
            have hbs3 := Lib.hid (Nat.le_trans hbs.out hb3.size)
            have hown3 := Lib.hid hown2
            clear hown2 hb3
            go_wp2_with fail
            go_roundw
            case rel => exact ⟨zs ++ [1], hown3, hfr3, hbs3, .inr (.inr (.inl ⟨rfl, hl, hnx⟩))⟩
            case measure => simp [intOf]
          · have d2 : decide (day < y) = false := by simpa using h2
            have hnx : Hid (zs = accB x y z day 2) := by show _ = _; rw [q.out]; simp [accB, blk, h1, h2]
            have hl : Hid (zs.length ≤ 2) := by show _ ≤ _; omega
            clear h1 h2
            go_wp2_with fail
            go_roundw
            case rel => exact ⟨zs, hown, hfr, hbs, .inr (.inr (.inl ⟨rfl, hl, hnx⟩))⟩
            case measure => simp [intOf]
      · have q0 := q0.out
        by_cases h1 : z < 0
        · have d1 : decide (z < 0) = true := by simpa using h1
          have hnx : Hid (zs ++ [2] = accB x y z day 3) := by show _ = _; rw [q.out]; simp [accB, blk, h1]
          have hl : (zs ++ [2]).length ≤ 3 := by rw [List.length_append]; simp only [List.length_cons, List.length_nil]; omega
          have hl := Lib.hid hl
          clear h1
          go_wp2_with (at_builtin; refine wpPush 2 hown.out hbs.out (Nat.le_trans q0 (by decide)) rfl _ _ rfl rfl rfl ?_; intro v' w3 hown2 hb3)
          have hfr3 := Lib.hid (hfr.out.trans hb3)
          have hbs3 := Lib.hid (Nat.le_trans hbs.out hb3.size)
          have hown3 := Lib.hid hown2
          clear hown2 hb3
          go_wp2_with fail
          go_roundw
          case rel => exact ⟨zs ++ [2], hown3, hfr3, hbs3, .inr (.inr (.inr ⟨rfl, hl, hnx⟩))⟩
          case measure => simp [intOf]
        · have d1 : decide (z < 0) = false := by simpa using h1
          by_cases h2 : day < z
          · have d2 : decide (day < z) = true := by simpa using h2
            have hnx : Hid (zs ++ [2] = accB x y z day 3) := by show _ = _; rw [q.out]; simp [accB, blk, h2]
            have hl : (zs ++ [2]).length ≤ 3 := by rw [List.length_append]; simp only [List.length_cons, List.length_nil]; omega
            have hl := Lib.hid hl
            clear h1 h2
            go_wp2_with (at_builtin; refine wpPush 2 hown.out hbs.out (Nat.le_trans q0 (by decide)) rfl _ _ rfl rfl rfl ?_; intro v' w3 hown2 hb3)
            have hfr3 := Lib.hid (hfr.out.trans hb3)
            have hbs3 := Lib.hid (Nat.le_trans hbs.out hb3.size)
            have hown3 := Lib.hid hown2
            clear hown2 hb3
            go_wp2_with fail
            go_roundw
            case rel => exact ⟨zs ++ [2], hown3, hfr3, hbs3, .inr (.inr (.inr ⟨rfl, hl, hnx⟩))⟩
            case measure => simp [intOf]
          · have d2 : decide (day < z) = false := by simpa using h2
            have hnx : Hid (zs = accB x y z day 3) := by show _ = _; rw [q.out]; simp [accB, blk, h1, h2]
            have hl : Hid (zs.length ≤ 3) := by show _ ≤ _; omega
            clear h1 h2
            go_wp2_with fail
            go_roundw
            case rel => exact ⟨zs, hown, hfr, hbs, .inr (.inr (.inr ⟨rfl, hl, hnx⟩))⟩
            case measure => simp [intOf]
      · go_wp2_with fail
        go_ret2
        refine ⟨_, rfl, ?_, hb2.out.trans (hfr.out.mono hb2.out.size)⟩
        have hq : zs0 = zs := by rw [hzz.out, q.out]; rfl
        rw [hq]
        exact (IntsL.slice hown.out (Nat.le_trans q0.out (by decide))).less hb2.out.size
theorem Blocks_bad (A : Option Addr) (c : Nat) (p : Proc) (right rest : Int) (N : Option Addr) (d : Nat) (n : Note) (day : Int) (w : World) (hN : NB w A p N n) (hE : Cal.waitsE p right rest n ≠ 0) :
    Calls Tryz.prog 25 #[.agg #[.int .i64 p.runs.m, .int .i64 p.runs.d, .bool p.runs.k, .int .i64 p.obj.m, .int .i64 p.obj.d, .bool p.obj.k, .int .i64 p.wait.m, .int .i64 p.wait.d, .bool p.wait.k, .int .i64 p.exts, .int .i64 p.longest, .slice A p.hols.length c], .agg #[.int .i64 right, .int .i64 rest, .string n.name, .int .i64 n.opened, .slice N n.acts.length d], .int .i64 day] w (BlPost w [] (Cal.waitsE p right rest n)) :=
  blocks_walk A c p right rest 0 0 0 _ N d n day w _ _ hN (.inl ⟨hE, rfl, rfl⟩) (fun w1 h => waits_bad A c p right rest N d n w1 h hE)
theorem Blocks_day (A : Option Addr) (c : Nat) (p : Proc) (right rest : Int) (N : Option Addr) (d : Nat) (n : Note) (day : Int) (w : World) (hN : NB w A p N n) (hE : Cal.waitsE p right rest n = 0) (hd : ¬ (0 ≤ day ∧ day ≤ 200000)) :
    Calls Tryz.prog 25 #[.agg #[.int .i64 p.runs.m, .int .i64 p.runs.d, .bool p.runs.k, .int .i64 p.obj.m, .int .i64 p.obj.d, .bool p.obj.k, .int .i64 p.wait.m, .int .i64 p.wait.d, .bool p.wait.k, .int .i64 p.exts, .int .i64 p.longest, .slice A p.hols.length c], .agg #[.int .i64 right, .int .i64 rest, .string n.name, .int .i64 n.opened, .slice N n.acts.length d], .int .i64 day] w (BlPost w [] 2) :=
  blocks_walk A c p right rest right rest (Cal.thirdS p n) 0 N d n day w _ _ hN (.inr (.inl ⟨rfl, hd, rfl, rfl⟩)) (fun w1 h => waits_ok A c p right rest N d n w1 h hE)
theorem Blocks_ok (A : Option Addr) (c : Nat) (p : Proc) (right rest : Int) (N : Option Addr) (d : Nat) (n : Note) (day : Int) (w : World) (hN : NB w A p N n) (hE : Cal.waitsE p right rest n = 0) (hd : 0 ≤ day ∧ day ≤ 200000) :
    Calls Tryz.prog 25 #[.agg #[.int .i64 p.runs.m, .int .i64 p.runs.d, .bool p.runs.k, .int .i64 p.obj.m, .int .i64 p.obj.d, .bool p.obj.k, .int .i64 p.wait.m, .int .i64 p.wait.d, .bool p.wait.k, .int .i64 p.exts, .int .i64 p.longest, .slice A p.hols.length c], .agg #[.int .i64 right, .int .i64 rest, .string n.name, .int .i64 n.opened, .slice N n.acts.length d], .int .i64 day] w (BlPost w (Cal.blkL right rest (Cal.thirdS p n) day) 0) :=
  blocks_walk A c p right rest right rest (Cal.thirdS p n) 0 N d n day w _ _ hN (.inr (.inr ⟨rfl, hd, rfl, rfl⟩)) (fun w1 h => waits_ok A c p right rest N d n w1 h hE)
end Go.Proofs.YtconnjkkgaapbaaGreatDoor
namespace Go.Proofs.YtconnjkkgaapbaaGreatDoor
open Go Go.RowKit
theorem ret_ib0 {k : IntKind} {a b : Int} {t : Bool} (h : a = b) : Ending.returned (.tuple #[.int k a, .bool t]) = .returned (.tuple #[.int k b, .bool t]) := by rw [h]
theorem Cal.exp_pos {p : Proc} {n : Note} {x : Int} (h : Cal.expS p n = (x, 0)) : 0 < x := by
  unfold Cal.expS at h
  split at h
  · split at h
    · split at h
      · have := (Cal.dlS_day p.hols (Cal.stAt p n 200000).deadline p.wait.m p.wait.d p.wait.k).1
        have hx := (Prod.mk.inj h).1
        omega
      · exact absurd (Prod.mk.inj h).2 (by omega)
    · exact absurd (Prod.mk.inj h).2 (by omega)
  · rename_i hE; exact absurd (Prod.mk.inj h).2 hE
set_option maxRecDepth 100000 in
set_option maxHeartbeats 4000000 in
theorem ReuseErrR_any (A : Option Addr) (c : Nat) (p : Proc) (right rest : Int) (N : Option Addr) (d : Nat) (n : Note) (w : World) (hN : NB w A p N n) (hp : Cal.procErr p = 0) :
    Calls Tryz.prog 26 #[.agg #[.int .i64 p.runs.m, .int .i64 p.runs.d, .bool p.runs.k, .int .i64 p.obj.m, .int .i64 p.obj.d, .bool p.obj.k, .int .i64 p.wait.m, .int .i64 p.wait.d, .bool p.wait.k, .int .i64 p.exts, .int .i64 p.longest, .slice A p.hols.length c], .agg #[.int .i64 right, .int .i64 rest, .string n.name, .int .i64 n.opened, .slice N n.acts.length d]] w fun e w' => e = .returned (.int .i64 (Cal.waitsE p right rest n)) ∧ Below w.heap.size w w' := by
  have hN := Lib.hid hN
  by_cases hr : (-1 ≤ right ∧ right ≤ 200000) ∧ (-1 ≤ rest ∧ rest ≤ 200000)
  · have hC : Cal.waitsE p right rest n = (Cal.noteS p n).2 := by unfold Cal.waitsE Cal.checkS; rw [if_pos hp, if_pos hr, if_pos hp]
    rw [hC]
    obtain ⟨⟨x0, x1⟩, x2, x3⟩ := hr
    have hpz := Lib.hid hp
    clear hC hp
    obtain ⟨g1, g2, hb⟩ := start2r w A c p right rest N d n
    have r0 := g2.out.c 0 _ rfl
    have r1 := g2.out.c 1 _ rfl
    have r2 := g2.out.c 2 _ rfl
    have r3 := g2.out.c 3 _ rfl
    have r4 := g2.out.c 4 _ rfl
    go_enter Tryz.func26, Tryz.ntmps26
    go_wp2_with (first | ((first | (go_at_call 86) | (go_at_call 41) | (go_at_call 74) | (go_at_call 28) | (go_at_call 109) | (fail) | (fail)); first | refine rin ?_ | refine rout ?_ | refine rany ?_) | (refine wpPr g1.out (.tmp 2) rfl ?_))
    refine (CheckNoticeR_any A c p N d n _ (hN.out.hols.below hb.out) (hN.out.acts.below hb.out) hN.out.name hpz.out).mono ?_
    rintro e w2 ⟨he, hb2⟩
    subst he
    have hb := Lib.hid (below_step hb.out hb2)
    clear hb2 r0 r1 r2 r3 r4
    go_wp2_with fail
    go_ret
    exact ⟨rfl, hb.out⟩
  · have hC : Hid (Cal.waitsE p right rest n = 2) := by show _ = _; unfold Cal.waitsE; rw [if_pos hp, if_neg hr]
    clear hp
    by_cases hr1 : -1 ≤ right ∧ right ≤ 200000
    · obtain ⟨x0, x1⟩ := hr1
      have hr2 : rest < -1 ∨ 200000 < rest := by omega
      clear hr
      obtain ⟨g1, g2, hb⟩ := start2r w A c p right rest N d n
      have r0 := g2.out.c 0 _ rfl
      have r1 := g2.out.c 1 _ rfl
      have r2 := g2.out.c 2 _ rfl
      have r3 := g2.out.c 3 _ rfl
      have r4 := g2.out.c 4 _ rfl
      go_enter Tryz.func26, Tryz.ntmps26
      go_wp2_with (((first | (go_at_call 86) | (go_at_call 41) | (go_at_call 74) | (go_at_call 28) | (go_at_call 109) | (fail) | (fail)); first | refine rin ?_ | refine rout ?_ | refine rany ?_))
      go_ret
      exact ⟨ret_int hC.out.symm, hb.out⟩
    · have hr2 : right < -1 ∨ 200000 < right := by omega
      clear hr hr1
      obtain ⟨g1, g2, hb⟩ := start2r w A c p right rest N d n
      have r0 := g2.out.c 0 _ rfl
      have r1 := g2.out.c 1 _ rfl
      have r2 := g2.out.c 2 _ rfl
      have r3 := g2.out.c 3 _ rfl
      have r4 := g2.out.c 4 _ rfl
      go_enter Tryz.func26, Tryz.ntmps26
      go_wp2_with (((first | (go_at_call 86) | (go_at_call 41) | (go_at_call 74) | (go_at_call 28) | (go_at_call 109) | (fail) | (fail)); first | refine rin ?_ | refine rout ?_ | refine rany ?_))
      go_ret
      exact ⟨ret_int hC.out.symm, hb.out⟩
/-- Earliest of the reference: the day, and whether there is one. -/
def ErPost (w : World) (x : Int) (b : Bool) (e : Ending) (w' : World) : Prop := e = .returned (.tuple #[.int .i64 x, .bool b]) ∧ Below w.heap.size w w'
set_option maxRecDepth 100000 in
set_option maxHeartbeats 4000000 in
theorem EarliestR_bad (A : Option Addr) (c : Nat) (p : Proc) (right rest : Int) (N : Option Addr) (d : Nat) (n : Note) (w : World) (hN : NB w A p N n) (hv : (Cal.checkS p n).2 = 0) (hbad : right < 0 ∨ rest < 0 ∨ (Cal.expS p n).2 ≠ 0) :
    Calls Tryz.prog 27 #[.agg #[.int .i64 p.runs.m, .int .i64 p.runs.d, .bool p.runs.k, .int .i64 p.obj.m, .int .i64 p.obj.d, .bool p.obj.k, .int .i64 p.wait.m, .int .i64 p.wait.d, .bool p.wait.k, .int .i64 p.exts, .int .i64 p.longest, .slice A p.hols.length c], .agg #[.int .i64 right, .int .i64 rest, .string n.name, .int .i64 n.opened, .slice N n.acts.length d]] w (ErPost w 0 false) := by
  have hN := Lib.hid hN
  have hex := fun w1 (h : NB w1 A p N n) => ExpiresAtR_any A c p N d n w1 h hv
  rcases hx : Cal.expS p n with ⟨x, F⟩
  rw [hx] at hex hbad
  have hbad : right < 0 ∨ rest < 0 ∨ F ≠ 0 := hbad
  have hex := Lib.hid hex
  clear hx hv
  by_cases h1 : right < 0
  · have d1 : decide (right < 0) = true := by simpa using h1
    clear hbad
    obtain ⟨g1, g2, hb⟩ := start2r w A c p right rest N d n
    have r0 := g2.out.c 0 _ rfl
    have r1 := g2.out.c 1 _ rfl
    have r2 := g2.out.c 2 _ rfl
    have r3 := g2.out.c 3 _ rfl
    have r4 := g2.out.c 4 _ rfl
    go_enter Tryz.func27, Tryz.ntmps27
    go_wp2_with (refine wpPr g1.out (.tmp 2) rfl ?_)
    refine (hex.out _ (hN.out.below hb.out)).mono ?_
    rintro e w2 ⟨he, hb2⟩
    subst he
    have g1 := Lib.hid (g1.out.below hb2)
    have g2 := Lib.hid (g2.out.below hb2)
    have hb := Lib.hid (below_step hb.out hb2)
    clear hb2 r0 r1 r2 r3 r4
    have r0 := g2.out.c 0 _ rfl
    have r1 := g2.out.c 1 _ rfl
    have r2 := g2.out.c 2 _ rfl
    have r3 := g2.out.c 3 _ rfl
    have r4 := g2.out.c 4 _ rfl
    go_wp2_with fail
    go_ret2
    exact ⟨rfl, hb.out⟩
  · have d1 : decide (right < 0) = false := by simpa using h1
    by_cases h2 : rest < 0
    · have d2 : decide (rest < 0) = true := by simpa using h2
      clear hbad h1
      obtain ⟨g1, g2, hb⟩ := start2r w A c p right rest N d n
      have r0 := g2.out.c 0 _ rfl
      have r1 := g2.out.c 1 _ rfl
      have r2 := g2.out.c 2 _ rfl
      have r3 := g2.out.c 3 _ rfl
      have r4 := g2.out.c 4 _ rfl
      go_enter Tryz.func27, Tryz.ntmps27
      go_wp2_with (refine wpPr g1.out (.tmp 2) rfl ?_)
      refine (hex.out _ (hN.out.below hb.out)).mono ?_
      rintro e w2 ⟨he, hb2⟩
      subst he
      have g1 := Lib.hid (g1.out.below hb2)
      have g2 := Lib.hid (g2.out.below hb2)
      have hb := Lib.hid (below_step hb.out hb2)
      clear hb2 r0 r1 r2 r3 r4
      have r0 := g2.out.c 0 _ rfl
      have r1 := g2.out.c 1 _ rfl
      have r2 := g2.out.c 2 _ rfl
      have r3 := g2.out.c 3 _ rfl
      have r4 := g2.out.c 4 _ rfl
      go_wp2_with fail
      go_ret2
      exact ⟨rfl, hb.out⟩
    · have d2 : decide (rest < 0) = false := by simpa using h2
      have d3 : (F != 0) = true := by
        rcases hbad with h | h | h
        · exact absurd h h1
        · exact absurd h h2
        · simpa using h
      clear hbad h1 h2
      obtain ⟨g1, g2, hb⟩ := start2r w A c p right rest N d n
      have r0 := g2.out.c 0 _ rfl
      have r1 := g2.out.c 1 _ rfl
      have r2 := g2.out.c 2 _ rfl
      have r3 := g2.out.c 3 _ rfl
      have r4 := g2.out.c 4 _ rfl
      go_enter Tryz.func27, Tryz.ntmps27
      go_wp2_with (refine wpPr g1.out (.tmp 2) rfl ?_)
      refine (hex.out _ (hN.out.below hb.out)).mono ?_
      rintro e w2 ⟨he, hb2⟩
      subst he
      have g1 := Lib.hid (g1.out.below hb2)
      have g2 := Lib.hid (g2.out.below hb2)
      have hb := Lib.hid (below_step hb.out hb2)
      clear hb2 r0 r1 r2 r3 r4
      have r0 := g2.out.c 0 _ rfl
      have r1 := g2.out.c 1 _ rfl
      have r2 := g2.out.c 2 _ rfl
      have r3 := g2.out.c 3 _ rfl
      have r4 := g2.out.c 4 _ rfl
      go_wp2_with fail
      go_ret2
      exact ⟨rfl, hb.out⟩
set_option maxRecDepth 100000 in
set_option maxHeartbeats 4000000 in
theorem EarliestR_ok (A : Option Addr) (c : Nat) (p : Proc) (right rest x : Int) (N : Option Addr) (d : Nat) (n : Note) (w : World) (hN : NB w A p N n) (hv : (Cal.checkS p n).2 = 0) (h1 : 0 ≤ right) (h2 : 0 ≤ rest) (hx : Cal.expS p n = (x, 0)) :
    Calls Tryz.prog 27 #[.agg #[.int .i64 p.runs.m, .int .i64 p.runs.d, .bool p.runs.k, .int .i64 p.obj.m, .int .i64 p.obj.d, .bool p.obj.k, .int .i64 p.wait.m, .int .i64 p.wait.d, .bool p.wait.k, .int .i64 p.exts, .int .i64 p.longest, .slice A p.hols.length c], .agg #[.int .i64 right, .int .i64 rest, .string n.name, .int .i64 n.opened, .slice N n.acts.length d]] w (ErPost w (max (max right rest) x) true) := by
  have hN := Lib.hid hN
  have hex := fun w1 (h : NB w1 A p N n) => ExpiresAtR_any A c p N d n w1 h hv
  rw [hx] at hex
  have hex := Lib.hid hex
  clear hx hv
  have d1 : decide (right < 0) = false := by simpa using h1
  have d2 : decide (rest < 0) = false := by simpa using h2
  obtain ⟨g1, g2, hb⟩ := start2r w A c p right rest N d n
  have r0 := g2.out.c 0 _ rfl
  have r1 := g2.out.c 1 _ rfl
  have r2 := g2.out.c 2 _ rfl
  have r3 := g2.out.c 3 _ rfl
  have r4 := g2.out.c 4 _ rfl
  go_enter Tryz.func27, Tryz.ntmps27
  go_wp2_with (refine wpPr g1.out (.tmp 2) rfl ?_)
  refine (hex.out _ (hN.out.below hb.out)).mono ?_
  rintro e w2 ⟨he, hb2⟩
  subst he
  have g1 := Lib.hid (g1.out.below hb2)
  have g2 := Lib.hid (g2.out.below hb2)
  have hb := Lib.hid (below_step hb.out hb2)
  clear hb2 r0 r1 r2 r3 r4
  have r0 := g2.out.c 0 _ rfl
  have r1 := g2.out.c 1 _ rfl
  have r2 := g2.out.c 2 _ rfl
  have r3 := g2.out.c 3 _ rfl
  have r4 := g2.out.c 4 _ rfl
  go_wp2_with fail
  all_goals
    go_ret2
    exact ⟨ret_ib0 (by first | omega | (simp only []; omega)), hb.out⟩
end Go.Proofs.YtconnjkkgaapbaaGreatDoor
namespace Go.Proofs.YtconnjkkgaapbaaGreatDoor
open Go Go.RowKit
def BlPostR (w : World) (zs : List Int) (e : Ending) (w' : World) : Prop := ∃ v, e = .returned v ∧ SliceOf w' w.heap.size v zs ∧ Below w.heap.size w w'
structure BlI (w : World) (B : Nat) (A : Option Addr) (c : Nat) (p : Proc) (right rest : Int) (N : Option Addr) (d : Nat) (n : Note) (v : Value) (zs : List Int) (wr : World) : Prop where
  fr : Below w.heap.size w wr
  g1 : BoxAt wr w.heap.size [.int .i64 p.runs.m, .int .i64 p.runs.d, .bool p.runs.k, .int .i64 p.obj.m, .int .i64 p.obj.d, .bool p.obj.k, .int .i64 p.wait.m, .int .i64 p.wait.d, .bool p.wait.k, .int .i64 p.exts, .int .i64 p.longest, .slice A p.hols.length c]
  g2 : BoxAt wr (w.heap.size + 1) [.int .i64 right, .int .i64 rest, .string n.name, .int .i64 n.opened, .slice N n.acts.length d]
  own : IntsL wr B v zs
  hB : B ≤ wr.heap.size
  h2 : w.heap.size + 1 < B
theorem BlI.below {w wr wr' : World} {B : Nat} {A : Option Addr} {c : Nat} {p : Proc} {right rest : Int} {N : Option Addr} {d : Nat} {n : Note} {v : Value} {zs : List Int} (h : BlI w B A c p right rest N d n v zs wr) (hb : Below wr.heap.size wr wr') : BlI w B A c p right rest N d n v zs wr' :=
  ⟨below_step h.fr hb, h.g1.below hb, h.g2.below hb, h.own.below hb, Nat.le_trans h.hB hb.size, h.h2⟩
theorem BlI.push {w wr wr' : World} {B : Nat} {A : Option Addr} {c : Nat} {p : Proc} {right rest : Int} {N : Option Addr} {d : Nat} {n : Note} {v v' : Value} {zs zs' : List Int} (h : BlI w B A c p right rest N d n v zs wr) (hb : Below B wr wr') (ho : IntsL wr' B v' zs') : BlI w B A c p right rest N d n v' zs' wr' :=
  ⟨h.fr.trans (hb.mono (by have := h.h2; omega)), h.g1.belowB hb (by have := h.h2; omega), h.g2.belowB hb h.h2, ho, Nat.le_trans h.hB hb.size, h.h2⟩
set_option maxRecDepth 100000 in
set_option maxHeartbeats 8000000 in
theorem BlocksR_any (A : Option Addr) (c : Nat) (p : Proc) (right rest : Int) (N : Option Addr) (d : Nat) (n : Note) (day : Int) (w : World) (hN : NB w A p N n) (hv : (Cal.checkS p n).2 = 0) :
    Calls Tryz.prog 30 #[.agg #[.int .i64 p.runs.m, .int .i64 p.runs.d, .bool p.runs.k, .int .i64 p.obj.m, .int .i64 p.obj.d, .bool p.obj.k, .int .i64 p.wait.m, .int .i64 p.wait.d, .bool p.wait.k, .int .i64 p.exts, .int .i64 p.longest, .slice A p.hols.length c], .agg #[.int .i64 right, .int .i64 rest, .string n.name, .int .i64 n.opened, .slice N n.acts.length d], .int .i64 day] w (BlPostR w (Cal.blkL right rest (Cal.thirdS p n) day)) := by
  have hN := Lib.hid hN
  have hex := fun w1 (h : NB w1 A p N n) => ExpiresAtR_any A c p N d n w1 h hv
  rcases hx : Cal.expS p n with ⟨x, F⟩
  rw [hx] at hex
  have hZ : ((F != 0) = true ∧ Hid (Cal.thirdS p n < 0 ∨ day < Cal.thirdS p n)) ∨ ((F != 0) = false ∧ decide (day < x) = true ∧ Hid (Cal.thirdS p n < 0 ∨ day < Cal.thirdS p n)) ∨ ((F != 0) = false ∧ decide (day < x) = false ∧ Hid (¬ (Cal.thirdS p n < 0 ∨ day < Cal.thirdS p n))) := by
    unfold Cal.thirdS
    by_cases hF : F = 0
    · subst hF
      have := Cal.exp_pos hx
      rw [hx, if_pos rfl]
      by_cases h2 : day < x
      · exact .inr (.inl ⟨rfl, by simpa using h2, .inr h2⟩)
      · exact .inr (.inr ⟨rfl, by simpa using h2, fun h => h.elim (by omega) h2⟩)
    · rw [hx, if_neg hF]
      exact .inl ⟨by simpa using hF, .inl (by omega)⟩
  have hex := Lib.hid hex
  generalize Cal.thirdS p n = z at *
  clear hx hv
  obtain ⟨g1, g2, hb⟩ := start2r w A c p right rest N d n
  have hI : Hid (BlI w (w.heap.size + 1 + 1) A c p right rest N d n (.slice none 0 0) [] ((w.alloc (.cells #[.int .i64 p.runs.m, .int .i64 p.runs.d, .bool p.runs.k, .int .i64 p.obj.m, .int .i64 p.obj.d, .bool p.obj.k, .int .i64 p.wait.m, .int .i64 p.wait.d, .bool p.wait.k, .int .i64 p.exts, .int .i64 p.longest, .slice A p.hols.length c] 26)).alloc (.cells #[.int .i64 right, .int .i64 rest, .string n.name, .int .i64 n.opened, .slice N n.acts.length d] 44))) := ⟨hb.out, g1.out, g2.out, OwnL.nil _ _ _ _, by simp, by omega⟩
  clear g1 g2 hb
  go_enter Tryz.func30, Tryz.ntmps30
  go_upto_region 2 with fail
  go_cut [18] from 10 (fun q wc => ∃ b : Bool, q = .bool b ∧ Hid (b = true ↔ (right < 0 ∨ day < right)) ∧ Hid (BlI w (w.heap.size + 1 + 1) A c p right rest N d n (.slice none 0 0) [] wc))
  case first =>
    have r0 := hI.out.g2.c 0 _ rfl
    have r1 := hI.out.g2.c 1 _ rfl
    have r2 := hI.out.g2.c 2 _ rfl
    have r3 := hI.out.g2.c 3 _ rfl
    have r4 := hI.out.g2.c 4 _ rfl
    by_cases h1 : right < 0
    · have d1 : decide (right < 0) = true := by simpa using h1
      have hh := Lib.hid h1
      clear h1
      go_wp2_with fail
      go_meet
      exact ⟨true, rfl, ⟨fun _ => .inl hh.out, fun _ => rfl⟩, hI⟩
    · have d1 : decide (right < 0) = false := by simpa using h1
      by_cases h2 : day < right
      · have d2 : decide (day < right) = true := by simpa using h2
        have hh := Lib.hid h2
        clear h1 h2
        go_wp2_with fail
        go_meet
        exact ⟨true, rfl, ⟨fun _ => .inr hh.out, fun _ => rfl⟩, hI⟩
      · have d2 : decide (day < right) = false := by simpa using h2
        have hh1 := Lib.hid h1
        have hh2 := Lib.hid h2
        clear h1 h2
        go_wp2_with fail
        go_meet
        exact ⟨false, rfl, ⟨fun h => by (cases h), fun h => by have e1 := hh1.out; have e2 := hh2.out; exfalso; omega⟩, hI⟩
  case rest =>
  clear hI
  obtain ⟨b, rfl, hbq, hI⟩ := hcut
  go_upto_if 18 with fail
  go_cut [7] from 10 (fun v wc => ∃ zs : List Int, zs.length ≤ 1 ∧ Hid (zs = blk right day 0) ∧ Hid (BlI w (w.heap.size + 1 + 1) A c p right rest N d n v zs wc))
  case first =>
    have hzs : Hid (([] : List Int) = []) := rfl
    have h0 : ([] : List Int).length ≤ 0 := Nat.le_refl _
    cases b
    · have hz2 : Hid ([] = blk right day 0) := by show _ = _; rw [hzs.out]; unfold blk; rw [if_neg (fun h => absurd (hbq.out.2 h) (by decide))]; (first | done | rfl | simp)
      clear hbq
      go_wp2_with fail
      go_meet
      exact ⟨_, by omega, hz2, hI⟩
    · have hz2 : Hid ([] ++ [0] = blk right day 0) := by show _ = _; rw [hzs.out]; unfold blk; rw [if_pos (hbq.out.1 rfl)]; (try rfl)
      clear hbq
      go_wp2_with (at_builtin; refine wpPush 0 hI.out.own hI.out.hB (by omega) rfl _ _ rfl rfl rfl ?_; intro v' w3 hown hb3)
      go_meet
      exact ⟨_, by rw [List.length_append]; simp only [List.length_cons, List.length_nil]; omega, hz2, Lib.hid (hI.out.push hb3 hown)⟩
  case rest =>
  clear hI
  obtain ⟨zs1, hl1, hzs, hI⟩ := hcut
  go_upto_region 4 with fail
  go_cut [30] from 10 (fun q wc => ∃ b : Bool, q = .bool b ∧ Hid (b = true ↔ (rest < 0 ∨ day < rest)) ∧ Hid (BlI w (w.heap.size + 1 + 1) A c p right rest N d n _ zs1 wc))
  case first =>
    have r0 := hI.out.g2.c 0 _ rfl
    have r1 := hI.out.g2.c 1 _ rfl
    have r2 := hI.out.g2.c 2 _ rfl
    have r3 := hI.out.g2.c 3 _ rfl
    have r4 := hI.out.g2.c 4 _ rfl
    by_cases h1 : rest < 0
    · have d1 : decide (rest < 0) = true := by simpa using h1
      have hh := Lib.hid h1
      clear h1
      go_wp2_with fail
      go_meet
      exact ⟨true, rfl, ⟨fun _ => .inl hh.out, fun _ => rfl⟩, hI⟩
    · have d1 : decide (rest < 0) = false := by simpa using h1
      by_cases h2 : day < rest
      · have d2 : decide (day < rest) = true := by simpa using h2
        have hh := Lib.hid h2
        clear h1 h2
        go_wp2_with fail
        go_meet
        exact ⟨true, rfl, ⟨fun _ => .inr hh.out, fun _ => rfl⟩, hI⟩
      · have d2 : decide (day < rest) = false := by simpa using h2
        have hh1 := Lib.hid h1
        have hh2 := Lib.hid h2
        clear h1 h2
        go_wp2_with fail
        go_meet
        exact ⟨false, rfl, ⟨fun h => by (cases h), fun h => by have e1 := hh1.out; have e2 := hh2.out; exfalso; omega⟩, hI⟩
  case rest =>
  clear hI
  obtain ⟨b, rfl, hbq, hI⟩ := hcut
  go_upto_if 30 with fail
  go_cut [7] from 10 (fun v wc => ∃ zs : List Int, zs.length ≤ 2 ∧ Hid (zs = blk right day 0 ++ blk rest day 1) ∧ Hid (BlI w (w.heap.size + 1 + 1) A c p right rest N d n v zs wc))
  case first => cases b
                · have hz2 : Hid (zs1 = blk right day 0 ++ blk rest day 1) := by show _ = _; rw [hzs.out]; unfold blk; rw [if_neg (fun h => absurd (hbq.out.2 h) (by decide))]; (first | done | rfl | simp)
                  clear hbq
                  go_wp2_with fail
                  go_meet
                  exact ⟨_, by omega, hz2, hI⟩
                · have hz2 : Hid (zs1 ++ [1] = blk right day 0 ++ blk rest day 1) := by show _ = _; rw [hzs.out]; unfold blk; rw [if_pos (hbq.out.1 rfl)]; (try rfl)
                  clear hbq
                  go_wp2_with (at_builtin; refine wpPush 1 hI.out.own hI.out.hB (by omega) rfl _ _ rfl rfl rfl ?_; intro v' w3 hown hb3)
                  go_meet
                  exact ⟨_, by rw [List.length_append]; simp only [List.length_cons, List.length_nil]; omega, hz2, Lib.hid (hI.out.push hb3 hown)⟩
  case rest =>
  clear hI hzs hl1
  obtain ⟨zs2, hl1, hzs, hI⟩ := hcut
  have r0 := hI.out.g2.c 0 _ rfl
  have r1 := hI.out.g2.c 1 _ rfl
  have r2 := hI.out.g2.c 2 _ rfl
  have r3 := hI.out.g2.c 3 _ rfl
  have r4 := hI.out.g2.c 4 _ rfl
  go_wp2_with (refine wpPr hI.out.g1 (.tmp 3) rfl ?_)
  refine (hex.out _ (hN.out.below hI.out.fr)).mono ?_
  rintro e w4 ⟨he, hb4⟩
  subst he
  have hI := Lib.hid (hI.out.below hb4)
  clear hb4 r0 r1 r2 r3 r4
  rcases hZ with ⟨z1, hz⟩ | ⟨z1, z2, hz⟩ | ⟨z1, z2, hz⟩
  case inr.inr =>
    have hq : Hid (zs2 = Cal.blkL right rest z day) := by show _ = _; unfold Cal.blkL; rw [hzs.out, show blk z day 2 = [] from if_neg hz.out, List.append_nil]
    go_wp2_with fail
    go_ret
    exact ⟨_, rfl, by rw [← hq.out]; exact (IntsL.slice hI.out.own (by omega)).less (by have := hI.out.h2; omega), hI.out.fr⟩
  all_goals
    have hq : Hid (zs2 ++ [2] = Cal.blkL right rest z day) := by show _ = _; unfold Cal.blkL; rw [hzs.out, show blk z day 2 = [2] from if_pos hz.out]
    go_wp2_with (at_builtin; refine wpPush 2 hI.out.own hI.out.hB (by omega) rfl _ _ rfl rfl rfl ?_; intro v' w5 hown hb5; have hI := Lib.hid (hI.out.push hb5 hown))
    go_ret
    exact ⟨_, rfl, by rw [← hq.out]; exact (IntsL.slice hI.out.own (by simp; omega)).less (by have := hI.out.h2; omega), hI.out.fr⟩
end Go.Proofs.YtconnjkkgaapbaaGreatDoor
