/- The walk of the reference's Changes. -/
import Derived.Test.YtoigamkldccnkaaDoorW36
namespace Go.Proofs.YtoigamkldccnkaaDoor
open Go Go.RowKit
def ChgRPost (w : World) (l : List Prov) (name : ByteArray) (known : Int) (e : Ending) (w' : World) : Prop :=
  ∃ v, e = .returned (.tuple #[v, .bool (decide (0 < (Cal.ups (Cal.frs l name known)).length))]) ∧ OwnL w' w.heap.size 83 3 v ((Cal.chgL l name known).map Chg.cells) ∧ Below w.heap.size w w'
/-- The days that have been collected. -/
def UpTo (l : List Prov) (name : ByteArray) (known : Int) (k : Nat) (zs : List Int) : Prop := zs = Cal.ups (Cal.frs (l.take k) name known)
theorem UpTo.skip {l : List Prov} {name : ByteArray} {known : Int} {k : Nat} {zs : List Int} (h : UpTo l name known k zs) (hlt : k < l.length) (hk : Cal.knows name known l[k] = false) : UpTo l name known (k + 1) zs := by
  unfold UpTo at h ⊢
  rw [h, Cal.frs_snoc hlt, hk]; simp
theorem UpTo.known {l : List Prov} {name : ByteArray} {known : Int} {k : Nat} {zs : List Int} (h : UpTo l name known k zs) (hlt : k < l.length) (hk : Cal.knows name known l[k] = true) (hm : l[k].fr ∈ zs) : UpTo l name known (k + 1) zs := by
  unfold UpTo at h ⊢
  have hs := Cal.ups_spec (Cal.frs (l.take k) name known)
  rw [← h] at hs
  refine (Cal.ups_eq hs.1 fun d => ?_).symm
  rw [Cal.frs_snoc hlt, hk, if_pos rfl, List.mem_append, List.mem_singleton, hs.2]
  constructor
  · exact .inl
  · rintro (h | rfl)
    · exact h
    · exact (hs.2 _).1 hm
theorem UpTo.put {l : List Prov} {name : ByteArray} {known : Int} {k : Nat} {zs : List Int} (h : UpTo l name known k zs) (hlt : k < l.length) (hk : Cal.knows name known l[k] = true) (hm : l[k].fr ∉ zs) {q : Nat} (hq : q ≤ zs.length) (h1 : ∀ (j : Nat) z, q ≤ j → zs[j]? = some z → l[k].fr < z) (h2 : ∀ z, 0 < q → zs[q - 1]? = some z → z ≤ l[k].fr) : UpTo l name known (k + 1) (zs.take q ++ [l[k].fr] ++ zs.drop q) := by
  unfold UpTo at h ⊢
  have hs := Cal.ups_spec (Cal.frs (l.take k) name known)
  rw [← h] at hs
  refine (Cal.ups_eq (Cal.ins_up hs.1 hm hq h1 h2) fun d => ?_).symm
  rw [Cal.frs_snoc hlt, hk, if_pos rfl, Cal.ins_mem, hs.2, List.mem_append, List.mem_singleton]
  exact Or.comm
theorem UpTo.length {l : List Prov} {name : ByteArray} {known : Int} {k : Nat} {zs : List Int} (h : UpTo l name known k zs) : zs.length ≤ l.length := by
  unfold UpTo at h
  rw [h]
  exact Nat.le_trans (Cal.ups_length _) (Nat.le_trans (Cal.frs_length _ _ _) (by rw [List.length_take]; omega))
def aboveFrom (zs : List Int) (d : Int) (q : Nat) : Prop := ∀ (j : Nat) z, q ≤ j → zs[j]? = some z → d < z
/-- What the reference's Changes keeps in its last loop. -/
structure ChR (w : World) (B2 lb : Nat) (A2 : Option Addr) (D : List Int) (out : Value) (cs : List Chg) (ld lv : Int) (lh : Bool) (wr : World) : Prop where
  fr : Below w.heap.size w wr
  rows : RowsAt wr A2 1 (intRows D)
  c0 : wr.cell? ⟨lb, 0, none⟩ = some (.int .i64 ld)
  c1 : wr.cell? ⟨lb, 1, none⟩ = some (.int .i64 lv)
  c2 : wr.cell? ⟨lb, 2, none⟩ = some (.bool lh)
  f0 : wr.frozen? ⟨lb, 0, none⟩ = false
  f1 : wr.frozen? ⟨lb, 1, none⟩ = false
  f2 : wr.frozen? ⟨lb, 2, none⟩ = false
  out : OwnL wr B2 83 3 out (cs.map Chg.cells)
  size : B2 ≤ wr.heap.size
  lt : lb < wr.heap.size
theorem ChR.below {w : World} {B2 lb : Nat} {A2 : Option Addr} {D : List Int} {out : Value} {cs : List Chg} {ld lv : Int} {lh : Bool} {wr wr' : World} (h : ChR w B2 lb A2 D out cs ld lv lh wr) (hb : Below wr.heap.size wr wr') : ChR w B2 lb A2 D out cs ld lv lh wr' :=
  ⟨below_step h.fr hb, h.rows.below hb, (hb.cell (p := ⟨lb, 0, none⟩) h.lt).trans h.c0, (hb.cell (p := ⟨lb, 1, none⟩) h.lt).trans h.c1, (hb.cell (p := ⟨lb, 2, none⟩) h.lt).trans h.c2, (hb.frozen (p := ⟨lb, 0, none⟩) h.lt).trans h.f0, (hb.frozen (p := ⟨lb, 1, none⟩) h.lt).trans h.f1, (hb.frozen (p := ⟨lb, 2, none⟩) h.lt).trans h.f2, h.out.below hb, Nat.le_trans h.size hb.size, Nat.lt_of_lt_of_le h.lt hb.size⟩
theorem ChR.grown {w : World} {B2 lb : Nat} {A2 : Option Addr} {D : List Int} {out out' : Value} {cs cs' : List Chg} {ld lv : Int} {lh : Bool} {wr wr' : World} (h : ChR w B2 lb A2 D out cs ld lv lh wr) (hw : w.heap.size ≤ B2) (hl : lb < B2) (hA : ∀ a, A2 = some a → a.block < B2)
    (hg : wr.grownBy wr' out.ownBlock) (ho : OwnL wr' B2 83 3 out' (cs'.map Chg.cells)) : ChR w B2 lb A2 D out' cs' ld lv lh wr' := by
  have hb : Below B2 wr wr' := grown_below hg (fun g e => (h.out.lt g e).1) h.size
  exact ⟨h.fr.trans (hb.mono hw), h.rows.far' hg (fun a ha e => by have := (h.out.lt _ e.symm).1; have := hA a ha; omega), (hb.cell (p := ⟨lb, 0, none⟩) hl).trans h.c0, (hb.cell (p := ⟨lb, 1, none⟩) hl).trans h.c1, (hb.cell (p := ⟨lb, 2, none⟩) hl).trans h.c2, (hb.frozen (p := ⟨lb, 0, none⟩) hl).trans h.f0, (hb.frozen (p := ⟨lb, 1, none⟩) hl).trans h.f1, (hb.frozen (p := ⟨lb, 2, none⟩) hl).trans h.f2, ho, Nat.le_trans h.size hg.size, Nat.lt_of_lt_of_le h.lt hg.size⟩
theorem ChR.store {w : World} {B2 lb : Nat} {A2 : Option Addr} {D : List Int} {out : Value} {cs : List Chg} {ld lv : Int} {lh : Bool} {wr : World} (h : ChR w B2 lb A2 D out cs ld lv lh wr) (hw : w.heap.size ≤ lb) (hl : lb < B2) (hA : ∀ a, A2 = some a → a.block ≠ lb) (d v : Int) (b : Bool) :
    ChR w B2 lb A2 D out cs d v b (((wr.setCell ⟨lb, 0, none⟩ (.int .i64 d)).setCell ⟨lb, 1, none⟩ (.int .i64 v)).setCell ⟨lb, 2, none⟩ (.bool b)) := by
  have hg : wr.grownBy (((wr.setCell ⟨lb, 0, none⟩ (.int .i64 d)).setCell ⟨lb, 1, none⟩ (.int .i64 v)).setCell ⟨lb, 2, none⟩ (.bool b)) (some lb) := ⟨rfl, rfl, rfl, by simp [World.setCell], fun i _ hne => ((Below.heap_setCell _ _ _ i (fun e => hne (by rw [e]))).trans (Below.heap_setCell _ _ _ i (fun e => hne (by rw [e])))).trans (Below.heap_setCell _ _ _ i (fun e => hne (by rw [e])))⟩
  have hn : ∀ i j : Nat, i ≠ j → (⟨lb, i, none⟩ : Addr) ≠ ⟨lb, j, none⟩ := fun i j h e => by injection e with _ e _; omega
  refine ⟨((h.fr.setCell hw _).setCell hw _).setCell hw _, h.rows.far' hg (fun a ha e => hA a ha (by injection e)), ?_, ?_, ?_, by rw [World.frozen?_setCell, World.frozen?_setCell, World.frozen?_setCell]; exact h.f0, by rw [World.frozen?_setCell, World.frozen?_setCell, World.frozen?_setCell]; exact h.f1, by rw [World.frozen?_setCell, World.frozen?_setCell, World.frozen?_setCell]; exact h.f2, h.out.kept hg ?_, by simpa [World.setCell] using h.size, by simpa [World.setCell] using h.lt⟩
  · rw [World.cell?_setCell_other _ _ _ _ (hn 2 0 (by decide)), World.cell?_setCell_other _ _ _ _ (hn 1 0 (by decide)), World.cell?_setCell_same' _ _ _ (by rw [h.c0]; rfl)]
  · rw [World.cell?_setCell_other _ _ _ _ (hn 2 1 (by decide)), World.cell?_setCell_same' _ _ _ (by rw [World.cell?_setCell_other _ _ _ _ (hn 0 1 (by decide)), h.c1]; rfl)]
  · rw [World.cell?_setCell_same' _ _ _ (by rw [World.cell?_setCell_other _ _ _ _ (hn 1 2 (by decide)), World.cell?_setCell_other _ _ _ _ (hn 0 2 (by decide)), h.c2]; rfl)]
  · cases hv : out.ownBlock with
    | none => exact .inl rfl
    | some g => right; intro e; have := (h.out.lt g hv).1; injection e with e; omega
set_option maxRecDepth 100000 in
set_option maxHeartbeats 8000000 in
theorem ChangesR_any (A : Option Addr) (c : Nat) (l : List Prov) (name : ByteArray) (known : Int) (hlen : l.length ≤ 1000) (w : World) (hl : Provs w A l) :
    Calls Tryd.prog 56 #[.slice A l.length c, .string name, .int .i64 known] w (ChgRPost w l name known) := by
  have hl' := Lib.hid (fun w1 (h : Below w.heap.size w w1) => hl.below h)
  have hst : Hid (IntsL w w.heap.size (.slice none 0 0) []) := OwnL.nil _ _ _ _
  have hu0 : Hid (UpTo l name known 0 []) := by show UpTo _ _ _ _ _; unfold UpTo Cal.frs; simp [Cal.ups_nil]
  clear hl
  go_enter Tryd.func56, Tryd.ntmps56
  go_wp2_with fail
  go_loopw [8, 9] (fun o i wr => ∃ (k : Nat) (zs : List Int), k ≤ l.length ∧ i = .int .i64 k ∧ Hid (IntsL wr w.heap.size o zs) ∧ Hid (UpTo l name known k zs) ∧ Hid (Below w.heap.size w wr)) (fun _ i _ => l.length - (intOf i).toNat)
  case atStart => exact ⟨0, [], Nat.zero_le _, rfl, hst, hu0, Below.refl _ _⟩
  case round =>
    obtain ⟨k, zs, hk, rfl, hown, hup, hb⟩ := hrel
    clear hst hu0
    obtain ⟨wo, rfl⟩ : ∃ wo : World, wo = wr := ⟨_, rfl⟩
    have hbs := hb.out.size
    have hzl := hup.out.length
    obtain ⟨A8, c8, rfl, hr8⟩ := hown.out.rows
    have hr8 := Lib.hid hr8
    by_cases hlt : k < l.length
    · have hk' : l[k]? = some l[k] := List.getElem?_eq_getElem hlt
      have hskip := Lib.hid (fun h => hup.out.skip hlt h)
      have hkn := Lib.hid (fun h => hup.out.known hlt h)
      have hput := Lib.hid (fun h => hup.out.put hlt h)
      obtain ⟨b, o, rfl, hbl, c0, c1, c2, c3, c4⟩ := (hl'.out _ hb.out).at_ hk'
      clear hk' c1 c4
      generalize l[k] = p at *
      cases h2 : p.name.toList == name.toList
      · have hnx : Hid (UpTo l name known (k + 1) zs) := hskip.out (by unfold Cal.knows; rw [h2]; rfl)
        go_wp2_with fail
        go_roundw
        case rel => exact ⟨k + 1, zs, by omega, by go_num, hown, hnx, hb⟩
        case measure => simp [intOf]; omega
      · by_cases h3 : p.en ≤ known
        · have hknow : Cal.knows name known p = true := by unfold Cal.knows; rw [h2]; simp [h3]
          have hhas := Has_ints A8 c8 zs p.fr wo hr8.out (by omega)
          rcases (Bool.eq_false_or_eq_true (Cal.hasB zs p.fr)) with hh | hh
          · have hnx : Hid (UpTo l name known (k + 1) zs) := hkn.out hknow (Cal.hasB_iff.1 hh)
            rw [hh] at hhas
            have hhas := Lib.hid hhas
            clear hh hknow
            go_wp2_with fail
            refine hhas.out.mono ?_
            rintro e w' ⟨rfl, rfl⟩
            go_wp2_with fail
            go_roundw
            case rel => exact ⟨k + 1, zs, by omega, by go_num, hown, hnx, hb⟩
            case measure => simp [intOf]; omega
          · have hnx : Hid (∀ q, q ≤ zs.length → aboveFrom zs p.fr q → (∀ z, 0 < q → zs[q - 1]? = some z → z ≤ p.fr) → UpTo l name known (k + 1) (zs.take q ++ [p.fr] ++ zs.drop q)) := fun q h1 h2 h3 =>
              hput.out hknow (fun hm => by have := Cal.hasB_iff.2 hm; rw [hh] at this; cases this) h1 h2 h3
            rw [hh] at hhas
            have hhas := Lib.hid hhas
            have hA0 : Hid (aboveFrom zs p.fr zs.length) := fun j z hj hz => by
              have := (List.getElem?_eq_some_iff.1 hz).1
              omega
            clear hh hknow hskip hkn hput
            go_wp2_with fail
            refine hhas.out.mono ?_
            rintro e w' ⟨rfl, rfl⟩
            clear c0 c3 hhas
            go_wp2_with fail
            go_loopw [10] (fun i wr => ∃ (q n : Nat), q ≤ zs.length ∧ i = .int .i64 q ∧ Hid (aboveFrom zs p.fr q) ∧ wr = wo.drewN n) (fun i _ => (intOf i).toNat)
            case atStart => exact ⟨zs.length, 0, Nat.le_refl _, rfl, hA0, rfl⟩
            case round =>
              obtain ⟨q, n, hq, rfl, habove, rfl⟩ := hrel
              clear hA0
              by_cases hq0 : q = 0
              · have hlow : Hid (∀ z, 0 < q → zs[q - 1]? = some z → z ≤ p.fr) := fun z h _ => by omega
                have hq00 : q ≤ 0 := by omega
                have hgz : decide ((0 : Int) < (q : Int)) = false := by simp; omega
                have hgz2 : decide (0 < q) = false := by simp; omega
                clear hq0
                go_wp2_with fail
                go_quiet (fail)
                go_wp2_with fail
                obtain ⟨W, hW⟩ : ∃ W, W = (wo.drewN n).drewN nq := ⟨_, rfl⟩
                rw [← hW]
                have hWb : Below wo.heap.size wo W := by rw [hW]; exact below_drewN (below_drewN (Below.refl _ _) _) _
                have hbw := Lib.hid (below_step hb.out hWb)
                have hIW := hown.out.below hWb
                obtain ⟨A1, c1, hrun1, hR1⟩ := hIW.cutHi hq
                obtain ⟨A2, c2', hrun2, hR2⟩ := hIW.cutLo hq
                have hr1 := Lib.hid (fun w' (h : Below W.heap.size W w') => hR1.below h)
                have hr2 := Lib.hid (fun w' (h : Below W.heap.size W w') => hR2.below h)
                have c2W : W.cell? ⟨b, o + k * 5 + 2, none⟩ = some (.int .i64 p.fr) := (hWb.cell (p := ⟨b, o + k * 5 + 2, none⟩) hbl).trans c2
                have cS : ∀ w', Below W.heap.size W w' → w'.cell? ⟨b, o + k * 5 + 2, none⟩ = some (.int .i64 p.fr) := fun w' h => (h.cell (p := ⟨b, o + k * 5 + 2, none⟩) (Nat.lt_of_lt_of_le hbl hWb.size)).trans c2W
                have hkl : (k : Int) < (l.length : Int) := by omega
                have hk0 : (0 : Int) ≤ (k : Int) := by omega
                have hq0' : (0 : Int) ≤ (q : Int) := by omega
                have hql : (q : Int) ≤ (zs.length : Int) := by omega
                clear hW hWb hR1 hR2 c2 hIW
                generalize p.fr = d at *
                have c2 := c2W
                clear c2W
                have o1 : OwnL (W.alloc (.cells #[] 3)).drew W.heap.size 3 1 (.slice (some ⟨W.heap.size, 0, none⟩) 0 0) [] := (OwnL.made W W.heap.size _ 1 (Nat.le_refl _)).below (below_drewN (Below.refl _ _) 1)
                have o2 : OwnL ((W.alloc (.cells #[] 3)).alloc (.cells #[.int .i64 d] 3)).drew W.heap.size 3 1 (.slice (some ⟨W.heap.size, 0, none⟩) 0 0) [] := (OwnL.made W W.heap.size _ 1 (Nat.le_refl _)).below (below_drewN (below_alloc _ _) 1)
                have o3 : OwnL ((W.alloc (.cells #[.int .i64 d] 3)).alloc (.cells #[] 3)).drew W.heap.size 3 1 (.slice (some ⟨W.heap.size + 1, 0, none⟩) 0 0) [] := by
                  have h := (OwnL.made (W.alloc (.cells #[.int .i64 d] 3)) W.heap.size 3 1 (by simp)).below (below_drewN (Below.refl _ _) 1)
                  simp only [World.size_alloc] at h
                  exact h
                go_region_held3 (fun w' => w'.cell? ⟨b, o + k * 5 + 2, none⟩ = some (.int .i64 d)) (first | exact c2 | exact cS _ (below_alloc _ _) | exact cS _ (below_step (below_alloc _ _) (below_alloc _ _)) | exact cS _ (below_drewN (Below.refl _ _) 1) | exact cS _ (below_drewN (below_alloc _ _) 1) | exact cS _ (below_drewN (below_step (below_alloc _ _) (below_alloc _ _)) 1) | exact cS _ hb12 | exact cS _ (below_step hb12 (below_alloc _ _)) | exact cS _ hb13 | exact cS _ hb14 | fail) (first
                  | (refine step_append_rows elemInt (by rfl) (.tmp 66) (.tmp 69) (by rfl) (by rfl) (by rfl) (o1) (hr1.out _ (below_drewN (below_alloc _ _) 1)) (by simp only [intRows_length, List.length_take]; omega) (intRows_wid _) (intRows_one _) (by simp only [intRows_length, List.length_take, List.length_nil]; omega) (by decide) (by first | (simp; done) | (simp; omega)) ?_; intro v' w2 hown hg2 hob2; have hb12 : Below W.heap.size W w2 := (below_drewN (below_alloc _ _) 1).trans (grown_below hg2 (fun g e => by cases e; exact Nat.le_refl _) (by simp)))
                  | (refine step_append_rows elemInt (by rfl) (.tmp 66) (.tmp 69) (by rfl) (by rfl) (by rfl) (o2) (hr1.out _ (below_drewN (below_step (below_alloc _ _) (below_alloc _ _)) 1)) (by simp only [intRows_length, List.length_take]; omega) (intRows_wid _) (intRows_one _) (by simp only [intRows_length, List.length_take, List.length_nil]; omega) (by decide) (by first | (simp; done) | (simp; omega)) ?_; intro v' w2 hown hg2 hob2; have hb12 : Below W.heap.size W w2 := (below_drewN (below_step (below_alloc _ _) (below_alloc _ _)) 1).trans (grown_below hg2 (fun g e => by cases e; exact Nat.le_refl _) (by simp; omega)); have hsrc : RowsAt w2 (some ⟨W.heap.size + 1, 0, none⟩) 1 (intRows [d]) := RowsAt.far' (by have h := rowsAt_new (W.alloc (.cells #[] 3)) [.int .i64 d] 3; simp only [World.size_alloc] at h; exact h) hg2 (fun a e => by cases e; simp [Value.ownBlock]))
                  | (refine step_append_rows elemInt (by rfl) (.tmp 66) (.tmp 69) (by rfl) (by rfl) (by rfl) (o3) (hr1.out _ (below_drewN (below_step (below_alloc _ _) (below_alloc _ _)) 1)) (by simp only [intRows_length, List.length_take]; omega) (intRows_wid _) (intRows_one _) (by simp only [intRows_length, List.length_take, List.length_nil]; omega) (by decide) (by first | (simp; done) | (simp; omega)) ?_; intro v' w2 hown hg2 hob2; have hb12 : Below W.heap.size W w2 := (below_drewN (below_step (below_alloc _ _) (below_alloc _ _)) 1).trans (grown_below hg2 (fun g e => by cases e; exact Nat.le_succ _) (by simp; omega)); have hsrc : RowsAt w2 (some ⟨W.heap.size, 0, none⟩) 1 (intRows [d]) := RowsAt.far' (by exact (rowsAt_new W [.int .i64 d] 3).below (below_drewN (below_alloc _ (.cells #[] 3)) 1)) hg2 (fun a e => by cases e; simp [Value.ownBlock]))
                  | (refine step_append_rows elemInt (by rfl) (.tmp 70) (.tmp 76) (by rfl) (by rfl) (by rfl) hown hsrc rfl (intRows_wid [d]) (intRows_one [d]) (by simp only [intRows_length, List.length_take, List.length_nil, List.length_append, List.length_singleton]; omega) (by decide) hb12.size ?_; intro v'' w3 hown3 hg3 hob3; have hb13 : Below W.heap.size W w3 := hb12.trans (grown_below hg3 (fun g e => (hown.lt g e).1) hb12.size))
                  | (refine step_append_rows elemInt (by rfl) (.tmp 70) (.tmp 76) (by rfl) (by rfl) (by rfl) (hown.below (below_alloc _ _)) (rowsAt_new _ [.int .i64 d] _) rfl (intRows_wid [d]) (intRows_one [d]) (by simp only [intRows_length, List.length_take, List.length_nil, List.length_append, List.length_singleton]; omega) (by decide) (by have := hb12.size; simp; omega) ?_; intro v'' w3 hown3 hg3 hob3; have hb13 : Below W.heap.size W w3 := (hb12.alloc hb12.size _).trans (grown_below hg3 (fun g e => (hown.lt g e).1) (by have := hb12.size; simp; omega)))
                  | (refine step_append_rows elemInt (by rfl) (.tmp 77) (.tmp 80) (by rfl) (by rfl) (by rfl) hown3 (hr2.out _ hb13) (by simp only [intRows_length, List.length_drop]) (intRows_wid _) (intRows_one _) (by simp only [intRows_length, List.length_take, List.length_drop, List.length_nil, List.length_append, List.length_singleton]; omega) (by decide) hb13.size ?_; intro v4 w4 hown4 hg4 hob4; have hb14 : Below W.heap.size W w4 := hb13.trans (grown_below hg4 (fun g e => (hown3.lt g e).1) hb13.size))
                  | fail)
                all_goals
                  have hI4 : Hid (IntsL w4 w.heap.size v4 (zs.take q ++ [d] ++ zs.drop q)) := by
                    have h := hown4.less hbw.out.size
                    show IntsL _ _ _ _
                    unfold IntsL
                    have e : intRows (zs.take q ++ [d] ++ zs.drop q) = [] ++ intRows (zs.take q) ++ intRows [d] ++ intRows (zs.drop q) := by unfold intRows; simp
                    rw [e]; exact h
                  have hbw4 := Lib.hid (below_step hbw.out hb14)
                  clear o1 o2 o3 hown hown3 hown4 hg2 hg3 hg4 hob2 hob3 hob4 hb12 hb13 hb14
                  go_wp2_with fail
                  go_roundw
                  case rel => exact ⟨k + 1, _, by omega, by go_num, hI4, hnx.out q hq habove.out hlow.out, hbw4⟩
                  case measure => simp [intOf]; omega
              · have hqp : 0 < q := by omega
                have hq1 : q - 1 < zs.length := by omega
                obtain ⟨b2, o2, rfl, _, e1⟩ := intRows_at hr8.out hq1
                have hix : ((q : Int) - 1).toNat = q - 1 := by omega
                have hz9 := Lib.hid (List.getElem?_eq_getElem hq1)
                generalize zs[q - 1] = z at *
                by_cases hgt : p.fr < z
                · have hnx2 : Hid (aboveFrom zs p.fr (q - 1)) := fun j y hj hy => by
                    rcases Nat.lt_or_ge (q - 1) j with h | h
                    · exact habove.out j y (by omega) hy
                    · obtain rfl : j = q - 1 := by omega
                      rw [hz9.out] at hy; cases hy; exact hgt
                  clear hq0
                  go_wp2_with fail
                  go_quiet (fail)
                  go_wp2_with fail
                  go_roundw
                  case rel => exact ⟨q - 1, _, by omega, by go_num, hnx2, rfl⟩
                  case measure => simp [intOf]; omega
                · have hlow : Hid (∀ y, 0 < q → zs[q - 1]? = some y → y ≤ p.fr) := fun y _ hy => by
                    rw [hz9.out] at hy; cases hy; omega
                  clear hq0
                  go_wp2_with fail
                  go_quiet (fail)
                  go_wp2_with fail
                  clear e1 hix hz9
                  obtain ⟨W, hW⟩ : ∃ W, W = (wo.drewN n).drewN nq := ⟨_, rfl⟩
                  rw [← hW]
                  have hWb : Below wo.heap.size wo W := by rw [hW]; exact below_drewN (below_drewN (Below.refl _ _) _) _
                  have hbw := Lib.hid (below_step hb.out hWb)
                  have hIW := hown.out.below hWb
                  obtain ⟨A1, c1, hrun1, hR1⟩ := hIW.cutHi hq
                  obtain ⟨A2, c2', hrun2, hR2⟩ := hIW.cutLo hq
                  have hr1 := Lib.hid (fun w' (h : Below W.heap.size W w') => hR1.below h)
                  have hr2 := Lib.hid (fun w' (h : Below W.heap.size W w') => hR2.below h)
                  have c2W : W.cell? ⟨b, o + k * 5 + 2, none⟩ = some (.int .i64 p.fr) := (hWb.cell (p := ⟨b, o + k * 5 + 2, none⟩) hbl).trans c2
                  have cS : ∀ w', Below W.heap.size W w' → w'.cell? ⟨b, o + k * 5 + 2, none⟩ = some (.int .i64 p.fr) := fun w' h => (h.cell (p := ⟨b, o + k * 5 + 2, none⟩) (Nat.lt_of_lt_of_le hbl hWb.size)).trans c2W
                  have hkl : (k : Int) < (l.length : Int) := by omega
                  have hk0 : (0 : Int) ≤ (k : Int) := by omega
                  have hq0' : (0 : Int) ≤ (q : Int) := by omega
                  have hql : (q : Int) ≤ (zs.length : Int) := by omega
                  clear hW hWb hR1 hR2 c2 hIW
                  generalize p.fr = d at *
                  have c2 := c2W
                  clear c2W
                  have o1 : OwnL (W.alloc (.cells #[] 3)).drew W.heap.size 3 1 (.slice (some ⟨W.heap.size, 0, none⟩) 0 0) [] := (OwnL.made W W.heap.size _ 1 (Nat.le_refl _)).below (below_drewN (Below.refl _ _) 1)
                  have o2 : OwnL ((W.alloc (.cells #[] 3)).alloc (.cells #[.int .i64 d] 3)).drew W.heap.size 3 1 (.slice (some ⟨W.heap.size, 0, none⟩) 0 0) [] := (OwnL.made W W.heap.size _ 1 (Nat.le_refl _)).below (below_drewN (below_alloc _ _) 1)
                  have o3 : OwnL ((W.alloc (.cells #[.int .i64 d] 3)).alloc (.cells #[] 3)).drew W.heap.size 3 1 (.slice (some ⟨W.heap.size + 1, 0, none⟩) 0 0) [] := by
                    have h := (OwnL.made (W.alloc (.cells #[.int .i64 d] 3)) W.heap.size 3 1 (by simp)).below (below_drewN (Below.refl _ _) 1)
                    simp only [World.size_alloc] at h
                    exact h
                  go_region_held3 (fun w' => w'.cell? ⟨b, o + k * 5 + 2, none⟩ = some (.int .i64 d)) (first | exact c2 | exact cS _ (below_alloc _ _) | exact cS _ (below_step (below_alloc _ _) (below_alloc _ _)) | exact cS _ (below_drewN (Below.refl _ _) 1) | exact cS _ (below_drewN (below_alloc _ _) 1) | exact cS _ (below_drewN (below_step (below_alloc _ _) (below_alloc _ _)) 1) | exact cS _ hb12 | exact cS _ (below_step hb12 (below_alloc _ _)) | exact cS _ hb13 | exact cS _ hb14 | fail) (first
                    | (refine step_append_rows elemInt (by rfl) (.tmp 66) (.tmp 69) (by rfl) (by rfl) (by rfl) (o1) (hr1.out _ (below_drewN (below_alloc _ _) 1)) (by simp only [intRows_length, List.length_take]; omega) (intRows_wid _) (intRows_one _) (by simp only [intRows_length, List.length_take, List.length_nil]; omega) (by decide) (by first | (simp; done) | (simp; omega)) ?_; intro v' w2 hown hg2 hob2; have hb12 : Below W.heap.size W w2 := (below_drewN (below_alloc _ _) 1).trans (grown_below hg2 (fun g e => by cases e; exact Nat.le_refl _) (by simp)))
                    | (refine step_append_rows elemInt (by rfl) (.tmp 66) (.tmp 69) (by rfl) (by rfl) (by rfl) (o2) (hr1.out _ (below_drewN (below_step (below_alloc _ _) (below_alloc _ _)) 1)) (by simp only [intRows_length, List.length_take]; omega) (intRows_wid _) (intRows_one _) (by simp only [intRows_length, List.length_take, List.length_nil]; omega) (by decide) (by first | (simp; done) | (simp; omega)) ?_; intro v' w2 hown hg2 hob2; have hb12 : Below W.heap.size W w2 := (below_drewN (below_step (below_alloc _ _) (below_alloc _ _)) 1).trans (grown_below hg2 (fun g e => by cases e; exact Nat.le_refl _) (by simp; omega)); have hsrc : RowsAt w2 (some ⟨W.heap.size + 1, 0, none⟩) 1 (intRows [d]) := RowsAt.far' (by have h := rowsAt_new (W.alloc (.cells #[] 3)) [.int .i64 d] 3; simp only [World.size_alloc] at h; exact h) hg2 (fun a e => by cases e; simp [Value.ownBlock]))
                    | (refine step_append_rows elemInt (by rfl) (.tmp 66) (.tmp 69) (by rfl) (by rfl) (by rfl) (o3) (hr1.out _ (below_drewN (below_step (below_alloc _ _) (below_alloc _ _)) 1)) (by simp only [intRows_length, List.length_take]; omega) (intRows_wid _) (intRows_one _) (by simp only [intRows_length, List.length_take, List.length_nil]; omega) (by decide) (by first | (simp; done) | (simp; omega)) ?_; intro v' w2 hown hg2 hob2; have hb12 : Below W.heap.size W w2 := (below_drewN (below_step (below_alloc _ _) (below_alloc _ _)) 1).trans (grown_below hg2 (fun g e => by cases e; exact Nat.le_succ _) (by simp; omega)); have hsrc : RowsAt w2 (some ⟨W.heap.size, 0, none⟩) 1 (intRows [d]) := RowsAt.far' (by exact (rowsAt_new W [.int .i64 d] 3).below (below_drewN (below_alloc _ (.cells #[] 3)) 1)) hg2 (fun a e => by cases e; simp [Value.ownBlock]))
                    | (refine step_append_rows elemInt (by rfl) (.tmp 70) (.tmp 76) (by rfl) (by rfl) (by rfl) hown hsrc rfl (intRows_wid [d]) (intRows_one [d]) (by simp only [intRows_length, List.length_take, List.length_nil, List.length_append, List.length_singleton]; omega) (by decide) hb12.size ?_; intro v'' w3 hown3 hg3 hob3; have hb13 : Below W.heap.size W w3 := hb12.trans (grown_below hg3 (fun g e => (hown.lt g e).1) hb12.size))
                    | (refine step_append_rows elemInt (by rfl) (.tmp 70) (.tmp 76) (by rfl) (by rfl) (by rfl) (hown.below (below_alloc _ _)) (rowsAt_new _ [.int .i64 d] _) rfl (intRows_wid [d]) (intRows_one [d]) (by simp only [intRows_length, List.length_take, List.length_nil, List.length_append, List.length_singleton]; omega) (by decide) (by have := hb12.size; simp; omega) ?_; intro v'' w3 hown3 hg3 hob3; have hb13 : Below W.heap.size W w3 := (hb12.alloc hb12.size _).trans (grown_below hg3 (fun g e => (hown.lt g e).1) (by have := hb12.size; simp; omega)))
                    | (refine step_append_rows elemInt (by rfl) (.tmp 77) (.tmp 80) (by rfl) (by rfl) (by rfl) hown3 (hr2.out _ hb13) (by simp only [intRows_length, List.length_drop]) (intRows_wid _) (intRows_one _) (by simp only [intRows_length, List.length_take, List.length_drop, List.length_nil, List.length_append, List.length_singleton]; omega) (by decide) hb13.size ?_; intro v4 w4 hown4 hg4 hob4; have hb14 : Below W.heap.size W w4 := hb13.trans (grown_below hg4 (fun g e => (hown3.lt g e).1) hb13.size))
                    | fail)
                  all_goals
                    have hI4 : Hid (IntsL w4 w.heap.size v4 (zs.take q ++ [d] ++ zs.drop q)) := by
                      have h := hown4.less hbw.out.size
                      show IntsL _ _ _ _
                      unfold IntsL
                      have e : intRows (zs.take q ++ [d] ++ zs.drop q) = [] ++ intRows (zs.take q) ++ intRows [d] ++ intRows (zs.drop q) := by unfold intRows; simp
                      rw [e]; exact h
                    have hbw4 := Lib.hid (below_step hbw.out hb14)
                    clear o1 o2 o3 hown hown3 hown4 hg2 hg3 hg4 hob2 hob3 hob4 hb12 hb13 hb14
                    go_wp2_with fail
                    go_roundw
                    case rel => exact ⟨k + 1, _, by omega, by go_num, hI4, hnx.out q hq habove.out hlow.out, hbw4⟩
                    case measure => simp [intOf]; omega
        · have hnx : Hid (UpTo l name known (k + 1) zs) := hskip.out (by unfold Cal.knows; rw [h2]; simp [h3])
          go_wp2_with fail
          go_roundw
          case rel => exact ⟨k + 1, zs, by omega, by go_num, hown, hnx, hb⟩
          case measure => simp [intOf]; omega
    · obtain rfl : k = l.length := by omega
      have hzE : Hid (zs = Cal.ups (Cal.frs l name known)) := by have := hup.out; unfold UpTo at this; rw [List.take_length] at this; exact this
      have haddr := IntsL.addr hown.out
      have hwl : w.heap.size ≤ wo.heap.size := by omega
      have hlB : wo.heap.size < wo.heap.size + 1 := by omega
      have hwB : w.heap.size ≤ wo.heap.size + 1 := by omega
      have hAne : ∀ a, A8 = some a → a.block ≠ wo.heap.size := fun a ha => by have := (haddr a ha).2; omega
      have hAlt : ∀ a, A8 = some a → a.block < wo.heap.size + 1 := fun a ha => by have := (haddr a ha).2; omega
      have hI0 : Hid (ChR w (wo.heap.size + 1) wo.heap.size A8 zs (.slice none 0 0) [] 0 0 false (wo.alloc (.cells #[.int .i64 0, .int .i64 0, .bool false] 83))) := by
        exact ⟨hb.out.alloc hbs _, hr8.out.below (below_alloc _ _), by simp, by simp, by simp, by unfold World.frozen?; rw [heap_alloc_new wo _]; rfl, by unfold World.frozen?; rw [heap_alloc_new wo _]; rfl, by unfold World.frozen?; rw [heap_alloc_new wo _]; rfl, OwnL.nil _ _ _ _, by simp, by simp⟩
      have hL0 : Hid (ChgLeft l name known zs 0 [] 0 false) := by
        show _ = _
        unfold Cal.chgL; rw [hzE.out]; rfl
      have hval := Lib.hid (fun d w1 (h : Below w.heap.size w w1) => Has_any A c l name d known w1 (hl'.out w1 h))
      have hsz : ((w.heap.size : Nat) : Int) ≤ wo.heap.size := by omega
      clear hown hup hr8 haddr hlt
      go_wp2_with fail
      go_loopw [11, 13] (fun o i wr => ∃ (k : Nat) (cs : List Chg) (ld lv : Int) (lh : Bool), k ≤ zs.length ∧ i = .int .i64 k ∧ Hid (ChR w (wo.heap.size + 1) wo.heap.size A8 zs o cs ld lv lh wr) ∧ Hid (ChgLeft l name known zs k cs lv lh) ∧ cs.length ≤ k) (fun _ i _ => zs.length - (intOf i).toNat)
      case atStart => exact ⟨0, [], 0, 0, false, Nat.zero_le _, rfl, hI0, hL0, Nat.zero_le _⟩
      case round =>
        obtain ⟨k, cs, ld, lv, lh, hk, rfl, hI, hleft, hcl⟩ := hrel
        clear hI0 hL0
        by_cases hlt : k < zs.length
        · have hdk : zs[k]? = some zs[k] := List.getElem?_eq_getElem hlt
          have hdr := Lib.hid (List.drop_eq_getElem_cons hlt)
          have hdrow : Hid ((intRows zs)[k]? = some [.int .i64 zs[k]]) := by show _ = _; simp [intRows, hdk]
          obtain ⟨b, o, rfl, _, hc⟩ := hI.out.rows k _ hdrow.out
          have e1 := hc 0 _ rfl
          simp only [Nat.mul_one, Nat.add_zero] at e1
          clear hc hdk
          generalize zs[k] = d at *
          have hv0 := hval.out d
          rcases hvq : Cal.valOf l name d known with ⟨v', h'⟩
          simp only [hvq] at hv0
          have hv0 := Lib.hid hv0
          by_cases hs : v' = lv ∧ h' = lh
          · obtain ⟨rfl, rfl⟩ := hs
            have hnx : Hid (ChgLeft l name known zs (k + 1) cs v' h') := hleft.out.same hdr.out hvq
            clear hvq hleft
            cases h'
            · go_wp2_with fail
              refine (hv0.out _ hI.out.fr).mono ?_
              rintro e w4 ⟨rfl, hb4⟩
              have hI4 := Lib.hid (hI.out.below hb4)
              clear hb4 e1 hI
              have x0 := hI4.out.c0
              have x1 := hI4.out.c1
              have x2 := hI4.out.c2
              have y0 := hI4.out.f0
              have y1 := hI4.out.f1
              have y2 := hI4.out.f2
              have hltb := hI4.out.lt
              obtain ⟨b, o, hA, _, hc⟩ := hI4.out.rows k [.int .i64 d] hdrow.out
              have e1 := hc 0 _ rfl
              cases hA
              simp only [Nat.mul_one, Nat.add_zero] at e1
              clear hc
              go_wp2_with fail
              go_roundw
              case rel => exact ⟨k + 1, cs, _, _, _, by omega, by go_num, hI4, hnx, by omega⟩
              case measure => simp [intOf]; omega
            · go_wp2_with fail
              refine (hv0.out _ hI.out.fr).mono ?_
              rintro e w4 ⟨rfl, hb4⟩
              have hI4 := Lib.hid (hI.out.below hb4)
              clear hb4 e1 hI
              have x0 := hI4.out.c0
              have x1 := hI4.out.c1
              have x2 := hI4.out.c2
              have y0 := hI4.out.f0
              have y1 := hI4.out.f1
              have y2 := hI4.out.f2
              have hltb := hI4.out.lt
              obtain ⟨b, o, hA, _, hc⟩ := hI4.out.rows k [.int .i64 d] hdrow.out
              have e1 := hc 0 _ rfl
              cases hA
              simp only [Nat.mul_one, Nat.add_zero] at e1
              clear hc
              go_wp2_with fail
              go_roundw
              case rel => exact ⟨k + 1, cs, _, _, _, by omega, by go_num, hI4, hnx, by omega⟩
              case measure => simp [intOf]; omega
          · have hnx : Hid (ChgLeft l name known zs (k + 1) (cs ++ [⟨d, v', h'⟩]) v' h') := hleft.out.other hdr.out hvq hs
            cases h' <;> cases lh
            · have hvl' : (v' == lv) = false := by simpa using hs
              clear hvq hleft hs
              go_wp2_with fail
              refine (hv0.out _ hI.out.fr).mono ?_
              rintro e w4 ⟨rfl, hb4⟩
              have hI4 := Lib.hid (hI.out.below hb4)
              clear hb4 e1 hI
              have x0 := hI4.out.c0
              have x1 := hI4.out.c1
              have x2 := hI4.out.c2
              have y0 := hI4.out.f0
              have y1 := hI4.out.f1
              have y2 := hI4.out.f2
              have hltb := hI4.out.lt
              obtain ⟨b, o, hA, _, hc⟩ := hI4.out.rows k [.int .i64 d] hdrow.out
              have e1 := hc 0 _ rfl
              cases hA
              simp only [Nat.mul_one, Nat.add_zero] at e1
              clear hc
              have hI5 := Lib.hid (hI4.out.store hwl hlB hAne d v' false)
              have s0 := hI5.out.c0
              have s1 := hI5.out.c1
              have s2 := hI5.out.c2
              have hsz5 := hI5.out.size
              have hI6 := Lib.hid (hI5.out.below (below_alloc _ (.cells #[.int .i64 d, .int .i64 v', .bool false] 83)))
              have hsrc : Hid (RowsAt ((((w4.setCell ⟨wo.heap.size, 0, none⟩ (.int .i64 d)).setCell ⟨wo.heap.size, 1, none⟩ (.int .i64 v')).setCell ⟨wo.heap.size, 2, none⟩ (.bool false)).alloc (.cells #[.int .i64 d, .int .i64 v', .bool false] 83)) (some ⟨w4.heap.size, 0, none⟩) 3 ([(⟨d, v', false⟩ : Chg)].map Chg.cells)) := by
                have h := rowsAt_new (((w4.setCell ⟨wo.heap.size, 0, none⟩ (.int .i64 d)).setCell ⟨wo.heap.size, 1, none⟩ (.int .i64 v')).setCell ⟨wo.heap.size, 2, none⟩ (.bool false)) [.int .i64 d, .int .i64 v', .bool false] 83
                rw [show (((w4.setCell ⟨wo.heap.size, 0, none⟩ (.int .i64 d)).setCell ⟨wo.heap.size, 1, none⟩ (.int .i64 v')).setCell ⟨wo.heap.size, 2, none⟩ (.bool false)).heap.size = w4.heap.size by simp [World.setCell]] at h
                exact h
              go_wp2_with (at_builtin; go_must (refine wpList_append_rows elemChg rfl _ _ rfl rfl rfl hI6.out.out hsrc.out rfl (chgCells_wid [⟨d, v', false⟩]) (chgCells_one [⟨d, v', false⟩]) (by simp; omega) (by decide) hI6.out.size ?_); intro u5 w5 hown5 hg5 _; have hI7 := Lib.hid (hI6.out.grown hwB hlB hAlt hg5 (by rw [List.map_append]; exact hown5)); clear hg5 hown5 s0 s1 s2 x0 x1 x2 y0 y1 y2 e1)
              go_roundw
              case rel => exact ⟨k + 1, _, _, _, _, by omega, by go_num, hI7, hnx, by rw [List.length_append]; simp; omega⟩
              case measure => simp [intOf]; omega
            · clear hvq hleft hs
              go_wp2_with fail
              refine (hv0.out _ hI.out.fr).mono ?_
              rintro e w4 ⟨rfl, hb4⟩
              have hI4 := Lib.hid (hI.out.below hb4)
              clear hb4 e1 hI
              have x0 := hI4.out.c0
              have x1 := hI4.out.c1
              have x2 := hI4.out.c2
              have y0 := hI4.out.f0
              have y1 := hI4.out.f1
              have y2 := hI4.out.f2
              have hltb := hI4.out.lt
              obtain ⟨b, o, hA, _, hc⟩ := hI4.out.rows k [.int .i64 d] hdrow.out
              have e1 := hc 0 _ rfl
              cases hA
              simp only [Nat.mul_one, Nat.add_zero] at e1
              clear hc
              have hI5 := Lib.hid (hI4.out.store hwl hlB hAne d v' false)
              have s0 := hI5.out.c0
              have s1 := hI5.out.c1
              have s2 := hI5.out.c2
              have hsz5 := hI5.out.size
              have hI6 := Lib.hid (hI5.out.below (below_alloc _ (.cells #[.int .i64 d, .int .i64 v', .bool false] 83)))
              have hsrc : Hid (RowsAt ((((w4.setCell ⟨wo.heap.size, 0, none⟩ (.int .i64 d)).setCell ⟨wo.heap.size, 1, none⟩ (.int .i64 v')).setCell ⟨wo.heap.size, 2, none⟩ (.bool false)).alloc (.cells #[.int .i64 d, .int .i64 v', .bool false] 83)) (some ⟨w4.heap.size, 0, none⟩) 3 ([(⟨d, v', false⟩ : Chg)].map Chg.cells)) := by
                have h := rowsAt_new (((w4.setCell ⟨wo.heap.size, 0, none⟩ (.int .i64 d)).setCell ⟨wo.heap.size, 1, none⟩ (.int .i64 v')).setCell ⟨wo.heap.size, 2, none⟩ (.bool false)) [.int .i64 d, .int .i64 v', .bool false] 83
                rw [show (((w4.setCell ⟨wo.heap.size, 0, none⟩ (.int .i64 d)).setCell ⟨wo.heap.size, 1, none⟩ (.int .i64 v')).setCell ⟨wo.heap.size, 2, none⟩ (.bool false)).heap.size = w4.heap.size by simp [World.setCell]] at h
                exact h
              go_wp2_with (at_builtin; go_must (refine wpList_append_rows elemChg rfl _ _ rfl rfl rfl hI6.out.out hsrc.out rfl (chgCells_wid [⟨d, v', false⟩]) (chgCells_one [⟨d, v', false⟩]) (by simp; omega) (by decide) hI6.out.size ?_); intro u5 w5 hown5 hg5 _; have hI7 := Lib.hid (hI6.out.grown hwB hlB hAlt hg5 (by rw [List.map_append]; exact hown5)); clear hg5 hown5 s0 s1 s2 x0 x1 x2 y0 y1 y2 e1)
              go_roundw
              case rel => exact ⟨k + 1, _, _, _, _, by omega, by go_num, hI7, hnx, by rw [List.length_append]; simp; omega⟩
              case measure => simp [intOf]; omega
            · clear hvq hleft hs
              go_wp2_with fail
              refine (hv0.out _ hI.out.fr).mono ?_
              rintro e w4 ⟨rfl, hb4⟩
              have hI4 := Lib.hid (hI.out.below hb4)
              clear hb4 e1 hI
              have x0 := hI4.out.c0
              have x1 := hI4.out.c1
              have x2 := hI4.out.c2
              have y0 := hI4.out.f0
              have y1 := hI4.out.f1
              have y2 := hI4.out.f2
              have hltb := hI4.out.lt
              obtain ⟨b, o, hA, _, hc⟩ := hI4.out.rows k [.int .i64 d] hdrow.out
              have e1 := hc 0 _ rfl
              cases hA
              simp only [Nat.mul_one, Nat.add_zero] at e1
              clear hc
              have hI5 := Lib.hid (hI4.out.store hwl hlB hAne d v' true)
              have s0 := hI5.out.c0
              have s1 := hI5.out.c1
              have s2 := hI5.out.c2
              have hsz5 := hI5.out.size
              have hI6 := Lib.hid (hI5.out.below (below_alloc _ (.cells #[.int .i64 d, .int .i64 v', .bool true] 83)))
              have hsrc : Hid (RowsAt ((((w4.setCell ⟨wo.heap.size, 0, none⟩ (.int .i64 d)).setCell ⟨wo.heap.size, 1, none⟩ (.int .i64 v')).setCell ⟨wo.heap.size, 2, none⟩ (.bool true)).alloc (.cells #[.int .i64 d, .int .i64 v', .bool true] 83)) (some ⟨w4.heap.size, 0, none⟩) 3 ([(⟨d, v', true⟩ : Chg)].map Chg.cells)) := by
                have h := rowsAt_new (((w4.setCell ⟨wo.heap.size, 0, none⟩ (.int .i64 d)).setCell ⟨wo.heap.size, 1, none⟩ (.int .i64 v')).setCell ⟨wo.heap.size, 2, none⟩ (.bool true)) [.int .i64 d, .int .i64 v', .bool true] 83
                rw [show (((w4.setCell ⟨wo.heap.size, 0, none⟩ (.int .i64 d)).setCell ⟨wo.heap.size, 1, none⟩ (.int .i64 v')).setCell ⟨wo.heap.size, 2, none⟩ (.bool true)).heap.size = w4.heap.size by simp [World.setCell]] at h
                exact h
              go_wp2_with (at_builtin; go_must (refine wpList_append_rows elemChg rfl _ _ rfl rfl rfl hI6.out.out hsrc.out rfl (chgCells_wid [⟨d, v', true⟩]) (chgCells_one [⟨d, v', true⟩]) (by simp; omega) (by decide) hI6.out.size ?_); intro u5 w5 hown5 hg5 _; have hI7 := Lib.hid (hI6.out.grown hwB hlB hAlt hg5 (by rw [List.map_append]; exact hown5)); clear hg5 hown5 s0 s1 s2 x0 x1 x2 y0 y1 y2 e1)
              go_roundw
              case rel => exact ⟨k + 1, _, _, _, _, by omega, by go_num, hI7, hnx, by rw [List.length_append]; simp; omega⟩
              case measure => simp [intOf]; omega
            · have hvl' : (v' == lv) = false := by simpa using hs
              clear hvq hleft hs
              go_wp2_with fail
              refine (hv0.out _ hI.out.fr).mono ?_
              rintro e w4 ⟨rfl, hb4⟩
              have hI4 := Lib.hid (hI.out.below hb4)
              clear hb4 e1 hI
              have x0 := hI4.out.c0
              have x1 := hI4.out.c1
              have x2 := hI4.out.c2
              have y0 := hI4.out.f0
              have y1 := hI4.out.f1
              have y2 := hI4.out.f2
              have hltb := hI4.out.lt
              obtain ⟨b, o, hA, _, hc⟩ := hI4.out.rows k [.int .i64 d] hdrow.out
              have e1 := hc 0 _ rfl
              cases hA
              simp only [Nat.mul_one, Nat.add_zero] at e1
              clear hc
              have hI5 := Lib.hid (hI4.out.store hwl hlB hAne d v' true)
              have s0 := hI5.out.c0
              have s1 := hI5.out.c1
              have s2 := hI5.out.c2
              have hsz5 := hI5.out.size
              have hI6 := Lib.hid (hI5.out.below (below_alloc _ (.cells #[.int .i64 d, .int .i64 v', .bool true] 83)))
              have hsrc : Hid (RowsAt ((((w4.setCell ⟨wo.heap.size, 0, none⟩ (.int .i64 d)).setCell ⟨wo.heap.size, 1, none⟩ (.int .i64 v')).setCell ⟨wo.heap.size, 2, none⟩ (.bool true)).alloc (.cells #[.int .i64 d, .int .i64 v', .bool true] 83)) (some ⟨w4.heap.size, 0, none⟩) 3 ([(⟨d, v', true⟩ : Chg)].map Chg.cells)) := by
                have h := rowsAt_new (((w4.setCell ⟨wo.heap.size, 0, none⟩ (.int .i64 d)).setCell ⟨wo.heap.size, 1, none⟩ (.int .i64 v')).setCell ⟨wo.heap.size, 2, none⟩ (.bool true)) [.int .i64 d, .int .i64 v', .bool true] 83
                rw [show (((w4.setCell ⟨wo.heap.size, 0, none⟩ (.int .i64 d)).setCell ⟨wo.heap.size, 1, none⟩ (.int .i64 v')).setCell ⟨wo.heap.size, 2, none⟩ (.bool true)).heap.size = w4.heap.size by simp [World.setCell]] at h
                exact h
              go_wp2_with (at_builtin; go_must (refine wpList_append_rows elemChg rfl _ _ rfl rfl rfl hI6.out.out hsrc.out rfl (chgCells_wid [⟨d, v', true⟩]) (chgCells_one [⟨d, v', true⟩]) (by simp; omega) (by decide) hI6.out.size ?_); intro u5 w5 hown5 hg5 _; have hI7 := Lib.hid (hI6.out.grown hwB hlB hAlt hg5 (by rw [List.map_append]; exact hown5)); clear hg5 hown5 s0 s1 s2 x0 x1 x2 y0 y1 y2 e1)
              go_roundw
              case rel => exact ⟨k + 1, _, _, _, _, by omega, by go_num, hI7, hnx, by rw [List.length_append]; simp; omega⟩
              case measure => simp [intOf]; omega
        · obtain rfl : k = zs.length := by omega
          have hfin : Hid (Cal.chgL l name known = cs) := by
            have := hleft.out
            unfold ChgLeft at this
            show _ = _
            rw [this, List.drop_length, Cal.chg_nil, List.append_nil]
          go_wp2_with fail
          go_ret2
          exact ⟨_, by rw [← hzE.out]; first | rfl | (simp; done), by rw [hfin.out]; exact hI.out.out.less hwB, hI.out.fr⟩
end Go.Proofs.YtoigamkldccnkaaDoor
