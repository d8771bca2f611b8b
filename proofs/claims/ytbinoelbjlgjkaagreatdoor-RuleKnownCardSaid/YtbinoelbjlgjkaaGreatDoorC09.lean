/- Chapter 8 and what it rests on: definitions and walks, part 09. -/
import Derived.Test.YtbinoelbjlgjkaaGreatDoorC08
import Derived.Deep.RegionHeld3
namespace Go.Proofs.YtbinoelbjlgjkaaGreatDoor
open Go Go.RowKit
theorem intRows_at {w : World} {A : Option Addr} {zs : List Int} (h : RowsAt w A 1 (intRows zs)) {k : Nat} (hk : k < zs.length) : ∃ b o, A = some ⟨b, o, none⟩ ∧ b < w.heap.size ∧ w.cell? ⟨b, o + k, none⟩ = some (.int .i64 zs[k]) := by
  obtain ⟨b, o, hA, hb, hc⟩ := h k [.int .i64 zs[k]] (by simp [intRows, List.getElem?_eq_getElem hk])
  have := hc 0 _ rfl
  simp only [Nat.mul_one, Nat.add_zero] at this
  exact ⟨b, o, hA, hb, this⟩
def missTo (zs : List Int) (d : Int) (k : Nat) : Prop := ∀ (j : Nat) z, j < k → zs[j]? = some z → z ≠ d
def Cal.hasB (zs : List Int) (d : Int) : Bool := zs.contains d
theorem Cal.hasB_iff {zs : List Int} {d : Int} : Cal.hasB zs d = true ↔ d ∈ zs := List.contains_iff_mem
theorem Has_ints (A : Option Addr) (c : Nat) (zs : List Int) (d : Int) (w : World) (h : RowsAt w A 1 (intRows zs)) (hs : zs.length ≤ 1000000) :
    Calls Tryz.prog 32 #[.slice A zs.length c, .int .i64 d] w fun e w' => e = .returned (.bool (Cal.hasB zs d)) ∧ w = w' := by
  have h' := Lib.hid h
  have h0 : Hid (missTo zs d 0) := fun j z h _ => by omega
  clear h
  go_enter Tryz.func32, Tryz.ntmps32
  go_wp2
  go_loop [5] (fun i => ∃ k : Nat, k ≤ zs.length ∧ i = .int .i64 k ∧ Hid (missTo zs d k)) (fun i => zs.length - (intOf i).toNat)
  case atStart => exact ⟨0, Nat.zero_le _, rfl, h0⟩
  case round =>
    obtain ⟨k, hk, rfl, hm⟩ := hrel
    clear h0
    by_cases hlt : k < zs.length
    · obtain ⟨b, o, rfl, _, e1⟩ := intRows_at h'.out hlt
      have hzk := Lib.hid (List.getElem?_eq_getElem hlt)
      have hmem := Lib.hid (List.getElem_mem hlt)
      generalize zs[k] = z at *
      by_cases hz : z = d
      · have hfin : Hid (Cal.hasB zs d = true) := by show _ = _; rw [Cal.hasB_iff, ← hz]; exact hmem.out
        subst hz
        go_wp2
        go_ret
        exact ⟨ret_bool hfin.out.symm, rfl⟩
      · have hz' : (z == d) = false := by simpa using hz
        have hnx : Hid (missTo zs d (k + 1)) := fun j y hj hy => by
          rcases Nat.lt_or_ge j k with h | h
          · exact hm.out j y h hy
          · obtain rfl : j = k := by omega
            rw [hzk.out] at hy; cases hy; exact hz
        clear hz
        go_wp2
        go_round
        case rel => exact ⟨k + 1, by omega, by go_num, hnx⟩
        case measure => simp [intOf]; omega
    · obtain rfl : k = zs.length := by omega
      have hfin : Hid (Cal.hasB zs d = false) := by
        show _ = _
        rw [Bool.eq_false_iff]
        intro hc
        rw [Cal.hasB_iff] at hc
        obtain ⟨j, hj, he⟩ := List.getElem_of_mem hc
        exact hm.out j _ hj (List.getElem?_eq_getElem hj) he
      go_wp2
      go_ret
      exact ⟨ret_bool hfin.out.symm, rfl⟩
theorem SameChanges_any (A B : Option Addr) (c d : Nat) (l : List Chg) (w : World) (hA : RowsAt w A 3 (l.map Chg.cells)) (hB : RowsAt w B 3 (l.map Chg.cells)) (hs : l.length ≤ 1000000) :
    Calls Tryz.prog 19 #[.slice A l.length c, .slice B l.length d] w fun e w' => e = .returned (.bool true) ∧ Below w.heap.size w w' := by
  have hA' := Lib.hid hA
  have hB' := Lib.hid hB
  clear hA hB
  go_enter Tryz.func19, Tryz.ntmps19
  go_wp2
  go_loopw [5] (fun i wr => ∃ (k n : Nat), k ≤ l.length ∧ i = .int .i64 k ∧ wr = w.drewN n) (fun i _ => l.length - (intOf i).toNat)
  case atStart => exact ⟨0, 0, Nat.zero_le _, rfl, rfl⟩
  case round =>
    obtain ⟨k, n, hk, rfl, rfl⟩ := hrel
    by_cases hlt : k < l.length
    · have hk' : (l.map Chg.cells)[k]? = some l[k].cells := by simp [List.getElem?_eq_getElem hlt]
      obtain ⟨b, o, rfl, hbl, hc⟩ := hA'.out _ _ hk'
      obtain ⟨b', o', rfl, hbl', hc'⟩ := hB'.out _ _ hk'
      have c0 := hc 0 _ rfl
      have c1 := hc 1 _ rfl
      have c2 := hc 2 _ rfl
      have d0 := hc' 0 _ rfl
      have d1 := hc' 1 _ rfl
      have d2 := hc' 2 _ rfl
      generalize l[k] = p at *
      simp only [Nat.add_zero, ← Nat.add_assoc] at c0 c1 c2 d0 d1 d2
      clear hk' hc hc'
      go_wp2_with fail
      go_quiet (fail)
      go_wp2_with fail
      go_roundw
      case rel => exact ⟨k + 1, _, by omega, by go_num, rfl⟩
      case measure => simp [intOf]; omega
    · obtain rfl : k = l.length := by omega
      go_wp2
      go_ret
      exact ⟨rfl, below_drewN (Below.refl _ _) _⟩
/-! Parts of a slice of numbers. -/
theorem RowsAt.take {w : World} {A : Option Addr} {zs : List Int} (h : RowsAt w A 1 (intRows zs)) (k : Nat) : RowsAt w A 1 (intRows (zs.take k)) := fun j r hr => by
  refine h j r ?_
  unfold intRows at hr ⊢
  rw [List.map_take] at hr
  rw [List.getElem?_take] at hr
  split at hr
  · exact hr
  · cases hr
theorem RowsAt.drop {w : World} {A : Option Addr} {zs : List Int} (h : RowsAt w A 1 (intRows zs)) (k : Nat) : RowsAt w (A.map (·.add (k * 1))) 1 (intRows (zs.drop k)) := fun j r hr => by
  unfold intRows at hr
  rw [List.map_drop, List.getElem?_drop] at hr
  obtain ⟨b, o, hA, hb, hc⟩ := h _ r hr
  refine ⟨b, o + k, ?_, hb, fun i v hv => ?_⟩
  · rw [hA, Option.map_some, addr_add, Nat.mul_one]
  · have := hc i v hv
    rw [show o + k + (j * 1 + i) = o + ((k + j) * 1 + i) by omega]
    exact this
theorem sizeInt (w : World) : (sizeOf (Tryz.prog.elem 57)).run Tryz.prog w = .ok 1 w := by kernel_rfl
theorem undInts : Tryz.prog.underlying 57 = some (.slice (Tryz.prog.elem 57)) := by kernel_rfl
theorem IntsL.cutHi {w : World} {B c : Nat} {A : Option Addr} {zs : List Int} (h : IntsL w B (.slice A zs.length c) zs) {k : Nat} (hk : k ≤ zs.length) :
    ∃ A1 c1, (∀ w', (Instr.slice 57 (.slice A zs.length c) none (some (.int .i64 k)) none).run Tryz.prog w' = .ok (.slice A1 k c1) w') ∧ RowsAt w A1 1 (intRows (zs.take k)) := by
  obtain ⟨A0, c0, hv, hr⟩ := h.rows
  simp only [Value.slice.injEq] at hv
  obtain ⟨rfl, -, rfl⟩ := hv
  have hcap : zs.length ≤ c := by
    rcases h.own.2 with ⟨h1, h2⟩ | ⟨g, cap, cur, hv, _, _, h3, _⟩
    · omega
    · simp only [Value.slice.injEq, true_and] at hv; omega
  have hr1 := hr.take k
  refine ⟨if c = 0 then A else A.map (·.add (0 * 1)), c - 0, fun w' => ?_, ?_⟩
  · rw [run_slice_h w' 57 A zs.length c undInts .i64 k (by omega) (by omega), sizeInt]
    simp [Result.andThen, sliced]
  · split
    · exact hr1
    · have := hr1.drop 0
      rw [List.drop_zero] at this
      exact this
theorem IntsL.cutLo {w : World} {B c : Nat} {A : Option Addr} {zs : List Int} (h : IntsL w B (.slice A zs.length c) zs) {k : Nat} (hk : k ≤ zs.length) :
    ∃ A2 c2, (∀ w', (Instr.slice 57 (.slice A zs.length c) (some (.int .i64 k)) none none).run Tryz.prog w' = .ok (.slice A2 (zs.length - k) c2) w') ∧ RowsAt w A2 1 (intRows (zs.drop k)) := by
  obtain ⟨A0, c0, hv, hr⟩ := h.rows
  simp only [Value.slice.injEq] at hv
  obtain ⟨rfl, -, rfl⟩ := hv
  have hcap : zs.length ≤ c := by
    rcases h.own.2 with ⟨h1, h2⟩ | ⟨g, cap, cur, hv, _, _, h3, _⟩
    · omega
    · simp only [Value.slice.injEq, true_and] at hv; omega
  refine ⟨if c = k then A else A.map (·.add (k * 1)), c - k, fun w' => ?_, ?_⟩
  · rw [run_slice_l w' 57 A zs.length c undInts .i64 k (by omega) (by omega), sizeInt]
    simp [Result.andThen, sliced]
  · split
    · rename_i hck
      have : zs.drop k = [] := List.drop_eq_nil_of_le (by omega)
      rw [this]
      exact RowsAt.nil _ _ _
    · exact hr.drop k
/-! Insertion. -/
theorem Cal.ins_up {zs : List Int} {d : Int} {q : Nat} (hz : zs.Pairwise (· < ·)) (hd : d ∉ zs) (hq : q ≤ zs.length) (h1 : ∀ (j : Nat) z, q ≤ j → zs[j]? = some z → d < z) (h2 : ∀ z, 0 < q → zs[q - 1]? = some z → z ≤ d) : (zs.take q ++ [d] ++ zs.drop q).Pairwise (· < ·) := by
  have hz2 := hz
  rw [← List.take_append_drop q zs, List.pairwise_append] at hz2
  obtain ⟨p1, p2, p3⟩ := hz2
  rw [List.append_assoc, List.pairwise_append]
  have hlow : ∀ x ∈ zs.take q, x < d := fun x hx => by
    obtain ⟨j, hj, he⟩ := List.getElem_of_mem hx
    rw [List.length_take] at hj
    rw [List.getElem_take] at he
    have hq1 : q - 1 < zs.length := by omega
    have hl := h2 zs[q - 1] (by omega) (List.getElem?_eq_getElem hq1)
    have hle : zs[j] ≤ zs[q - 1] := by
      rcases Nat.lt_or_eq_of_le (show j ≤ q - 1 by omega) with h | h
      · exact Int.le_of_lt (List.pairwise_iff_getElem.1 hz j (q - 1) (by omega) hq1 h)
      · subst h; exact Int.le_refl _
    have hne : x ≠ d := fun h => hd (h ▸ List.mem_of_mem_take hx)
    omega
  have hhigh : ∀ x ∈ zs.drop q, d < x := fun x hx => by
    obtain ⟨j, hj, he⟩ := List.getElem_of_mem hx
    rw [List.length_drop] at hj
    rw [List.getElem_drop] at he
    exact h1 (q + j) x (by omega) (by rw [List.getElem?_eq_getElem (by omega), he])
  refine ⟨p1, ?_, ?_⟩
  · rw [List.singleton_append, List.pairwise_cons]
    exact ⟨hhigh, p2⟩
  · intro x hx y hy
    rw [List.singleton_append, List.mem_cons] at hy
    rcases hy with rfl | hy
    · exact hlow x hx
    · exact p3 x hx y hy
theorem Cal.ins_mem {zs : List Int} {d x : Int} {q : Nat} : x ∈ zs.take q ++ [d] ++ zs.drop q ↔ x = d ∨ x ∈ zs := by
  rw [List.mem_append, List.mem_append, List.mem_singleton]
  conv => rhs; rw [← List.take_append_drop q zs, List.mem_append]
  constructor
  · rintro ((h | h) | h)
    · exact .inr (.inl h)
    · exact .inl h
    · exact .inr (.inr h)
  · rintro (h | h | h)
    · exact .inl (.inr h)
    · exact .inl (.inl h)
    · exact .inr h
end Go.Proofs.YtbinoelbjlgjkaaGreatDoor
namespace Go.Proofs.YtbinoelbjlgjkaaGreatDoor
open Go Go.RowKit
def ChgRPost (w : World) (l : List Prov) (name : ByteArray) (known : Int) (e : Ending) (w' : World) : Prop :=
  ∃ v, e = .returned (.tuple #[v, .bool (decide (0 < (Cal.ups (Cal.frs l name known)).length))]) ∧ OwnL w' w.heap.size 139 3 v ((Cal.chgL l name known).map Chg.cells) ∧ Below w.heap.size w w'
/-- The days that have been collected. -/
def UpTo (l : List Prov) (name : ByteArray) (known : Int) (k : Nat) (zs : List Int) : Prop := zs = Cal.ups (Cal.frs (l.take k) name known)
theorem UpTo.skip {l : List Prov} {name : ByteArray} {known : Int} {k : Nat} {zs : List Int} (h : UpTo l name known k zs) (hlt : k < l.length) (hk : Cal.knows name known l[k] = false) : UpTo l name known (k + 1) zs := by
  unfold UpTo at h ⊢
  rw [h, Cal.frs_snoc hlt, hk]; simp
theorem UpTo.known {l : List Prov} {name : ByteArray} {known : Int} {k : Nat} {zs : List Int} (h : UpTo l name known k zs) (hlt : k < l.length) (hk : Cal.knows name known l[k] = true) (hm : l[k].fr ∈ zs) : UpTo l name known (k + 1) zs := by
  unfold UpTo at h ⊢
  have hs := Cal.ups_spec (Cal.frs (l.take k) name known)
  rw [← h] at hs
  refine (Cal.ups_eq hs.1 fun d => ?_).symm
  rw [Cal.frs_snoc hlt, hk, if_pos rfl, List.mem_append, List.mem_singleton, hs.2]
  constructor
  · exact .inl
  · rintro (h | rfl)
    · exact h
    · exact (hs.2 _).1 hm
theorem UpTo.put {l : List Prov} {name : ByteArray} {known : Int} {k : Nat} {zs : List Int} (h : UpTo l name known k zs) (hlt : k < l.length) (hk : Cal.knows name known l[k] = true) (hm : l[k].fr ∉ zs) {q : Nat} (hq : q ≤ zs.length) (h1 : ∀ (j : Nat) z, q ≤ j → zs[j]? = some z → l[k].fr < z) (h2 : ∀ z, 0 < q → zs[q - 1]? = some z → z ≤ l[k].fr) : UpTo l name known (k + 1) (zs.take q ++ [l[k].fr] ++ zs.drop q) := by
  unfold UpTo at h ⊢
  have hs := Cal.ups_spec (Cal.frs (l.take k) name known)
  rw [← h] at hs
  refine (Cal.ups_eq (Cal.ins_up hs.1 hm hq h1 h2) fun d => ?_).symm
  rw [Cal.frs_snoc hlt, hk, if_pos rfl, Cal.ins_mem, hs.2, List.mem_append, List.mem_singleton]
  exact Or.comm
theorem UpTo.length {l : List Prov} {name : ByteArray} {known : Int} {k : Nat} {zs : List Int} (h : UpTo l name known k zs) : zs.length ≤ l.length := by
  unfold UpTo at h
  rw [h]
  exact Nat.le_trans (Cal.ups_length _) (Nat.le_trans (Cal.frs_length _ _ _) (by rw [List.length_take]; omega))
def aboveFrom (zs : List Int) (d : Int) (q : Nat) : Prop := ∀ (j : Nat) z, q ≤ j → zs[j]? = some z → d < z
/-- What the reference's Changes keeps in its last loop. -/
structure ChR (w : World) (B2 lb : Nat) (A2 : Option Addr) (D : List Int) (out : Value) (cs : List Chg) (ld lv : Int) (lh : Bool) (wr : World) : Prop where
  fr : Below w.heap.size w wr
  rows : RowsAt wr A2 1 (intRows D)
  c0 : wr.cell? ⟨lb, 0, none⟩ = some (.int .i64 ld)
  c1 : wr.cell? ⟨lb, 1, none⟩ = some (.int .i64 lv)
  c2 : wr.cell? ⟨lb, 2, none⟩ = some (.bool lh)
  f0 : wr.frozen? ⟨lb, 0, none⟩ = false
  f1 : wr.frozen? ⟨lb, 1, none⟩ = false
  f2 : wr.frozen? ⟨lb, 2, none⟩ = false
  out : OwnL wr B2 139 3 out (cs.map Chg.cells)
  size : B2 ≤ wr.heap.size
  lt : lb < wr.heap.size
theorem ChR.below {w : World} {B2 lb : Nat} {A2 : Option Addr} {D : List Int} {out : Value} {cs : List Chg} {ld lv : Int} {lh : Bool} {wr wr' : World} (h : ChR w B2 lb A2 D out cs ld lv lh wr) (hb : Below wr.heap.size wr wr') : ChR w B2 lb A2 D out cs ld lv lh wr' :=
  ⟨below_step h.fr hb, h.rows.below hb, (hb.cell (p := ⟨lb, 0, none⟩) h.lt).trans h.c0, (hb.cell (p := ⟨lb, 1, none⟩) h.lt).trans h.c1, (hb.cell (p := ⟨lb, 2, none⟩) h.lt).trans h.c2, (hb.frozen (p := ⟨lb, 0, none⟩) h.lt).trans h.f0, (hb.frozen (p := ⟨lb, 1, none⟩) h.lt).trans h.f1, (hb.frozen (p := ⟨lb, 2, none⟩) h.lt).trans h.f2, h.out.below hb, Nat.le_trans h.size hb.size, Nat.lt_of_lt_of_le h.lt hb.size⟩
theorem ChR.grown {w : World} {B2 lb : Nat} {A2 : Option Addr} {D : List Int} {out out' : Value} {cs cs' : List Chg} {ld lv : Int} {lh : Bool} {wr wr' : World} (h : ChR w B2 lb A2 D out cs ld lv lh wr) (hw : w.heap.size ≤ B2) (hl : lb < B2) (hA : ∀ a, A2 = some a → a.block < B2)
    (hg : wr.grownBy wr' out.ownBlock) (ho : OwnL wr' B2 139 3 out' (cs'.map Chg.cells)) : ChR w B2 lb A2 D out' cs' ld lv lh wr' := by
  have hb : Below B2 wr wr' := grown_below hg (fun g e => (h.out.lt g e).1) h.size
  exact ⟨h.fr.trans (hb.mono hw), h.rows.far' hg (fun a ha e => by have := (h.out.lt _ e.symm).1; have := hA a ha; omega), (hb.cell (p := ⟨lb, 0, none⟩) hl).trans h.c0, (hb.cell (p := ⟨lb, 1, none⟩) hl).trans h.c1, (hb.cell (p := ⟨lb, 2, none⟩) hl).trans h.c2, (hb.frozen (p := ⟨lb, 0, none⟩) hl).trans h.f0, (hb.frozen (p := ⟨lb, 1, none⟩) hl).trans h.f1, (hb.frozen (p := ⟨lb, 2, none⟩) hl).trans h.f2, ho, Nat.le_trans h.size hg.size, Nat.lt_of_lt_of_le h.lt hg.size⟩
theorem ChR.store {w : World} {B2 lb : Nat} {A2 : Option Addr} {D : List Int} {out : Value} {cs : List Chg} {ld lv : Int} {lh : Bool} {wr : World} (h : ChR w B2 lb A2 D out cs ld lv lh wr) (hw : w.heap.size ≤ lb) (hl : lb < B2) (hA : ∀ a, A2 = some a → a.block ≠ lb) (d v : Int) (b : Bool) :
    ChR w B2 lb A2 D out cs d v b (((wr.setCell ⟨lb, 0, none⟩ (.int .i64 d)).setCell ⟨lb, 1, none⟩ (.int .i64 v)).setCell ⟨lb, 2, none⟩ (.bool b)) := by
  have hg : wr.grownBy (((wr.setCell ⟨lb, 0, none⟩ (.int .i64 d)).setCell ⟨lb, 1, none⟩ (.int .i64 v)).setCell ⟨lb, 2, none⟩ (.bool b)) (some lb) := ⟨rfl, rfl, rfl, by simp [World.setCell], fun i _ hne => ((Below.heap_setCell _ _ _ i (fun e => hne (by rw [e]))).trans (Below.heap_setCell _ _ _ i (fun e => hne (by rw [e])))).trans (Below.heap_setCell _ _ _ i (fun e => hne (by rw [e])))⟩
  have hn : ∀ i j : Nat, i ≠ j → (⟨lb, i, none⟩ : Addr) ≠ ⟨lb, j, none⟩ := fun i j h e => by injection e with _ e _; omega
  refine ⟨((h.fr.setCell hw _).setCell hw _).setCell hw _, h.rows.far' hg (fun a ha e => hA a ha (by injection e)), ?_, ?_, ?_, by rw [World.frozen?_setCell, World.frozen?_setCell, World.frozen?_setCell]; exact h.f0, by rw [World.frozen?_setCell, World.frozen?_setCell, World.frozen?_setCell]; exact h.f1, by rw [World.frozen?_setCell, World.frozen?_setCell, World.frozen?_setCell]; exact h.f2, h.out.kept hg ?_, by simpa [World.setCell] using h.size, by simpa [World.setCell] using h.lt⟩
  · rw [World.cell?_setCell_other _ _ _ _ (hn 2 0 (by decide)), World.cell?_setCell_other _ _ _ _ (hn 1 0 (by decide)), World.cell?_setCell_same' _ _ _ (by rw [h.c0]; rfl)]
  · rw [World.cell?_setCell_other _ _ _ _ (hn 2 1 (by decide)), World.cell?_setCell_same' _ _ _ (by rw [World.cell?_setCell_other _ _ _ _ (hn 0 1 (by decide)), h.c1]; rfl)]
  · rw [World.cell?_setCell_same' _ _ _ (by rw [World.cell?_setCell_other _ _ _ _ (hn 1 2 (by decide)), World.cell?_setCell_other _ _ _ _ (hn 0 2 (by decide)), h.c2]; rfl)]
  · cases hv : out.ownBlock with
    | none => exact .inl rfl
    | some g => right; intro e; have := (h.out.lt g hv).1; injection e with e; omega
end Go.Proofs.YtbinoelbjlgjkaaGreatDoor
namespace Go.Proofs.YtbinoelbjlgjkaaGreatDoor
open Go Go.RowKit
theorem Cal.knows_iff {name : ByteArray} {known : Int} {p : Prov} : Cal.knows name known p = true ↔ (p.name.toList == name.toList) = true ∧ p.en ≤ known := by
  unfold Cal.knows; rw [Bool.and_eq_true, decide_eq_true_iff]
theorem Cal.takes_same {l : List Prov} {name : ByteArray} {known x y : Int} {p : Prov} (h : Cal.knows name known p = true → (p.fr ≤ x ↔ p.fr ≤ y)) (best : Int) : Cal.takes l name x known p best = Cal.takes l name y known p best := by
  unfold Cal.takes
  by_cases hk : Cal.knows name known p = true
  · have := h hk
    by_cases hx : p.fr ≤ x
    · simp [hx, this.1 hx]
    · simp [hx, mt this.2 hx]
  · have hk' : ((p.name.toList == name.toList) && decide (p.en ≤ known)) = false := by
      unfold Cal.knows at hk; simpa using hk
    cases h1 : p.name.toList == name.toList
    · rfl
    · rw [h1] at hk'
      simp only [Bool.true_and] at hk'
      simp [hk']
theorem Cal.src_same {l : List Prov} {name : ByteArray} {known x y : Int} (h : ∀ p ∈ l, Cal.knows name known p = true → (p.fr ≤ x ↔ p.fr ≤ y)) (k : Nat) : Cal.srcTo l name x known k = Cal.srcTo l name y known k := by
  induction k with
  | zero => rfl
  | succ k ih =>
    unfold Cal.srcTo
    rw [ih]
    split
    · rfl
    · rename_i p hp
      rw [Cal.takes_same (h p (List.mem_of_getElem? hp))]
theorem Cal.valOf_same {l : List Prov} {name : ByteArray} {known x y : Int} (h : ∀ d ∈ Cal.frs l name known, (d ≤ x ↔ d ≤ y)) : Cal.valOf l name x known = Cal.valOf l name y known := by
  have hs : Cal.src l name x known = Cal.src l name y known := Cal.src_same (fun p hp hk => h p.fr (by unfold Cal.frs; exact List.mem_map.2 ⟨p, List.mem_filter.2 ⟨hp, hk⟩, rfl⟩)) _
  unfold Cal.valOf
  rw [hs]
theorem Cal.src_none {l : List Prov} {name : ByteArray} {known x : Int} (h : ∀ d ∈ Cal.frs l name known, x < d) (k : Nat) : Cal.srcTo l name x known k = -1 := by
  induction k with
  | zero => rfl
  | succ k ih =>
    unfold Cal.srcTo
    rw [ih]
    split
    · rfl
    · rename_i p hp
      rw [if_neg]
      intro ht
      unfold Cal.takes at ht
      simp only [Bool.and_eq_true, decide_eq_true_eq] at ht
      have := h p.fr (by unfold Cal.frs; exact List.mem_map.2 ⟨p, List.mem_filter.2 ⟨List.mem_of_getElem? hp, Cal.knows_iff.2 ⟨ht.1, ht.2.1⟩⟩, rfl⟩)
      omega
theorem Cal.valOf_none {l : List Prov} {name : ByteArray} {known x : Int} (h : ∀ d ∈ Cal.frs l name known, x < d) : Cal.valOf l name x known = (0, false) := by
  refine Cal.valOf_no ?_
  unfold Cal.src
  rw [Cal.src_none h]; omega
theorem Cal.valOf_zero {l : List Prov} {name : ByteArray} {known x : Int} (h : (Cal.valOf l name x known).2 = false) : (Cal.valOf l name x known).1 = 0 := by
  by_cases h2 : Cal.src l name x known < 0
  · rw [Cal.valOf_no h2]
  · obtain ⟨q, p, hq, hp⟩ := Cal.src_form h2
    rw [Cal.valOf_some hq hp] at h ⊢
    split
    · rfl
    · rename_i hr; rw [if_neg hr] at h; cases h
/-- The state after the changes up to a day. -/
def Cal.upto (at0 : Int) : List Chg → Int → Bool → Int × Bool
  | [], v, h => (v, h)
  | c :: cs, v, h => if c.day ≤ at0 then Cal.upto at0 cs c.value c.holds else (v, h)
theorem Cal.chg_day {l : List Prov} {name : ByteArray} {known : Int} : ∀ {ds : List Int} {v : Int} {h : Bool}, ∀ c ∈ Cal.chg l name known ds v h, c.day ∈ ds
  | [], _, _, c, hc => by cases hc
  | d :: ds, v, h, c, hc => by
    unfold Cal.chg at hc
    split at hc
    · exact List.mem_cons_of_mem _ (Cal.chg_day c hc)
    · rcases List.mem_cons.1 hc with rfl | hc
      · exact List.mem_cons_self ..
      · exact List.mem_cons_of_mem _ (Cal.chg_day c hc)
theorem Cal.upto_after {at0 : Int} {cs : List Chg} {v : Int} {h : Bool} (hd : ∀ c ∈ cs, at0 < c.day) : Cal.upto at0 cs v h = (v, h) := by
  cases cs with
  | nil => rfl
  | cons c cs => unfold Cal.upto; rw [if_neg (by have := hd c (List.mem_cons_self ..); omega)]
theorem Cal.upto_chg {l : List Prov} {name : ByteArray} {known at0 : Int} : ∀ (ds pre : List Int) (v : Int) (h : Bool), (pre ++ ds).Pairwise (· < ·) → (∀ d ∈ Cal.frs l name known, d ∈ pre ++ ds) → (∀ d ∈ pre, d ≤ at0) →
    (∀ x, (∀ d ∈ pre, d ≤ x) → (∀ d ∈ ds, x < d) → Cal.valOf l name x known = (v, h)) → Cal.upto at0 (Cal.chg l name known ds v h) v h = Cal.valOf l name at0 known
  | [], pre, v, h, _, _, hp, hv => (hv at0 hp (fun d hd => by cases hd)).symm
  | d :: ds, pre, v, h, hpw, hm, hp, hv => by
    have hpw' := List.pairwise_append.1 hpw
    have hds := List.pairwise_cons.1 hpw'.2.1
    by_cases hd : d ≤ at0
    · have ih := Cal.upto_chg (l := l) (name := name) (known := known) (at0 := at0) ds (pre ++ [d]) (Cal.valOf l name d known).1 (Cal.valOf l name d known).2 (by simpa using hpw) (fun x hx => by simpa using hm x hx)
        (fun x hx => by rcases List.mem_append.1 hx with h | h
                        · exact hp x h
                        · rw [List.mem_singleton] at h; omega)
        (fun x h1 h2 => by
          refine Cal.valOf_same fun y hy => ?_
          have hdx := h1 d (by simp)
          rcases List.mem_append.1 (hm y hy) with h | h
          · have := hpw'.2.2 y h d (List.mem_cons_self ..)
            have := h1 y (List.mem_append_left _ h)
            omega
          · rcases List.mem_cons.1 h with rfl | h
            · omega
            · have := hds.1 y h
              have := h2 y h
              omega)
      unfold Cal.chg
      split
      · rename_i he
        rw [← he.1, ← he.2]; exact ih
      · unfold Cal.upto
        rw [if_pos hd]; exact ih
    · have hbig : ∀ y ∈ d :: ds, at0 < y := fun y hy => by
        rcases List.mem_cons.1 hy with rfl | h
        · omega
        · have := hds.1 y h; omega
      rw [Cal.upto_after (fun c hc => hbig _ (Cal.chg_day c hc))]
      exact (hv at0 hp hbig).symm
theorem Cal.upto_chgL (l : List Prov) (name : ByteArray) (known at0 : Int) : Cal.upto at0 (Cal.chgL l name known) 0 false = Cal.valOf l name at0 known := by
  have hs := Cal.ups_spec (Cal.frs l name known)
  refine Cal.upto_chg _ [] 0 false hs.1 (fun d hd => (hs.2 d).2 hd) (fun d hd => by cases hd) fun x _ hx => ?_
  exact Cal.valOf_none fun d hd => hx d ((hs.2 d).2 hd)
theorem Cal.valueS_of {l : List Prov} {name : ByteArray} {holds known : Int} (h : Cal.atErr l [holds, known] = 0) : (Cal.valueS l name holds known).1 = (Cal.valOf l name holds known).1 ∧ ((Cal.valueS l name holds known).2 == 0) = (Cal.valOf l name holds known).2 := by
  unfold Cal.valueS
  rw [if_pos h]
  by_cases h2 : Cal.src l name holds known < 0
  · rw [if_pos h2, Cal.valOf_no h2]; exact ⟨rfl, rfl⟩
  · rw [if_neg h2]
    cases hv : (Cal.valOf l name holds known).2
    · exact ⟨(Cal.valOf_zero hv).symm, rfl⟩
    · exact ⟨rfl, rfl⟩
theorem Cal.daysB_cons (n : Int) (ns : List Int) : Cal.daysB (n :: ns) = (Cal.dayB n && Cal.daysB ns) := rfl
theorem Cal.atErr_more {l : List Prov} {holds known : Int} (h : Cal.atErr l [known] = 0) (hd : Cal.dayB holds = true) : Cal.atErr l [holds, known] = 0 := by
  unfold Cal.atErr at h ⊢
  rw [Cal.daysB_cons, hd, Bool.true_and]; exact h
theorem Cal.frs_ups {l : List Prov} {name : ByteArray} {known : Int} : (0 < (Cal.ups (Cal.frs l name known)).length) ↔ Cal.frs l name known ≠ [] := by
  have hs := (Cal.ups_spec (Cal.frs l name known)).2
  constructor
  · intro h e; rw [e, Cal.ups_nil] at h; simp at h
  · intro h
    cases hq : Cal.frs l name known with
    | nil => exact absurd hq h
    | cons a b => rw [← hq]; exact List.length_pos_of_mem ((hs a).2 (by rw [hq]; exact List.mem_cons_self ..))
end Go.Proofs.YtbinoelbjlgjkaaGreatDoor
