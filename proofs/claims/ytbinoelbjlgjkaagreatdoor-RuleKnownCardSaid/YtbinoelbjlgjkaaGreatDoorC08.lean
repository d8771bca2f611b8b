/- Chapter 8 and what it rests on: definitions and walks, part 08. -/
import Derived.Test.YtbinoelbjlgjkaaGreatDoorC05
import Derived.Test.YtbinoelbjlgjkaaGreatDoorC07
namespace Go.Proofs.YtbinoelbjlgjkaaGreatDoor
open Go Go.RowKit
theorem RowsAt.far' {w w' : World} {row : Option Nat} {A : Option Addr} {m : Nat} {rows : List (List Value)} (h : RowsAt w A m rows) (hg : w.grownBy w' row) (hne : ∀ a, A = some a → some a.block ≠ row) : RowsAt w' A m rows := fun k r hr => by
  obtain ⟨b, o, hA, hlt, hc⟩ := h k r hr
  exact ⟨b, o, hA, Nat.lt_of_lt_of_le hlt hg.size, fun j v hv => hg.cell (hc j v hv) (show some b ≠ row from hne ⟨b, o, none⟩ hA)⟩
structure Chg where
  day : Int
  value : Int
  holds : Bool
def Chg.cells (c : Chg) : List Value := [.int .i64 c.day, .int .i64 c.value, .bool c.holds]
theorem elemChg : Elem Tryz.prog 34 139 3 24 := Elem.mk' Tryz.underlying34 (z := .agg #[.int .i64 0, .int .i64 0, .bool false]) (by kernel_rfl) rfl (by decide)
theorem chgCells_wid (l : List Chg) : ∀ r ∈ l.map Chg.cells, r.length = 3 := fun r hr => by obtain ⟨p, _, rfl⟩ := List.mem_map.1 hr; rfl
theorem chgCells_one (l : List Chg) : ∀ r ∈ l.map Chg.cells, ∀ u ∈ r, u.oneCell' = true := fun r hr u hu => by
  obtain ⟨p, _, rfl⟩ := List.mem_map.1 hr
  simp only [Chg.cells, List.mem_cons, List.not_mem_nil, or_false] at hu
  rcases hu with rfl | rfl | rfl <;> rfl
def Cal.knows (name : ByteArray) (known : Int) (p : Prov) : Bool := (p.name.toList == name.toList) && decide (p.en ≤ known)
/-- The days on which something of a name begins to hold. -/
def Cal.frs (l : List Prov) (name : ByteArray) (known : Int) : List Int := (l.filter (Cal.knows name known)).map Prov.fr
theorem Cal.frs_snoc {l : List Prov} {k : Nat} (hlt : k < l.length) (name : ByteArray) (known : Int) : Cal.frs (l.take (k + 1)) name known = Cal.frs (l.take k) name known ++ if Cal.knows name known l[k] = true then [l[k].fr] else [] := by
  unfold Cal.frs
  rw [List.take_succ_eq_append_getElem hlt, List.filter_append, List.map_append]
  congr 1
  by_cases h : Cal.knows name known l[k] = true <;> simp [h]
theorem Cal.frs_length (l : List Prov) (name : ByteArray) (known : Int) : (Cal.frs l name known).length ≤ l.length := by
  unfold Cal.frs; rw [List.length_map]; exact List.length_filter_le _ _
/-- The changes on some days, ascending, behind what has held. -/
def Cal.chg (l : List Prov) (name : ByteArray) (known : Int) : List Int → Int → Bool → List Chg
  | [], _, _ => []
  | d :: ds, v, h => if (Cal.valOf l name d known).1 = v ∧ (Cal.valOf l name d known).2 = h then Cal.chg l name known ds v h
    else ⟨d, (Cal.valOf l name d known).1, (Cal.valOf l name d known).2⟩ :: Cal.chg l name known ds (Cal.valOf l name d known).1 (Cal.valOf l name d known).2
theorem Cal.chg_length (l : List Prov) (name : ByteArray) (known : Int) : ∀ (ds : List Int) (v : Int) (h : Bool), (Cal.chg l name known ds v h).length ≤ ds.length
  | [], _, _ => Nat.le_refl _
  | d :: ds, v, h => by
    unfold Cal.chg
    split
    · exact Nat.le_trans (Cal.chg_length l name known ds v h) (by simp)
    · simp only [List.length_cons]; exact Nat.succ_le_succ (Cal.chg_length l name known ds _ _)
def Cal.chgL (l : List Prov) (name : ByteArray) (known : Int) : List Chg := Cal.chg l name known (Cal.ups (Cal.frs l name known)) 0 false
def Cal.chgE (l : List Prov) (name : ByteArray) (known : Int) : Int := if Cal.atErr l [known] = 0 then (if Cal.frs l name known = [] then 6 else 0) else Cal.atErr l [known]
def Cal.chgR (l : List Prov) (name : ByteArray) (known : Int) : List Chg := if Cal.chgE l name known = 0 then Cal.chgL l name known else []
def ChgPost (w : World) (l : List Prov) (name : ByteArray) (known : Int) (e : Ending) (w' : World) : Prop :=
  ∃ v, e = .returned (.tuple #[v, .int .i64 (Cal.chgE l name known)]) ∧ OwnL w' w.heap.size 139 3 v ((Cal.chgR l name known).map Chg.cells) ∧ Below w.heap.size w w'
theorem chgPost_err {w w' : World} {l : List Prov} {name : ByteArray} {known r : Int} (h : Cal.chgE l name known = r) (hr : r ≠ 0) (hb : Below w.heap.size w w') : ChgPost w l name known (.returned (.tuple #[.slice none 0 0, .int .i64 r])) w' := by
  have hL : Cal.chgR l name known = [] := by unfold Cal.chgR; rw [if_neg (by rw [h]; exact hr)]
  exact ⟨_, by rw [h], by rw [hL]; exact OwnL.nil _ _ _ _, hb⟩
/-- What Changes keeps in its second loop. -/
structure ChI (w : World) (B2 lb : Nat) (A2 : Option Addr) (D : List Int) (out : Value) (cs : List Chg) (lv : Int) (lh : Bool) (wr : World) : Prop where
  fr : Below w.heap.size w wr
  rows : RowsAt wr A2 1 (intRows D)
  c0 : wr.cell? ⟨lb, 0, none⟩ = some (.int .i64 lv)
  c1 : wr.cell? ⟨lb, 1, none⟩ = some (.bool lh)
  f0 : wr.frozen? ⟨lb, 0, none⟩ = false
  f1 : wr.frozen? ⟨lb, 1, none⟩ = false
  out : OwnL wr B2 139 3 out (cs.map Chg.cells)
  size : B2 ≤ wr.heap.size
  lt : lb < wr.heap.size
theorem ChI.below {w : World} {B2 lb : Nat} {A2 : Option Addr} {D : List Int} {out : Value} {cs : List Chg} {lv : Int} {lh : Bool} {wr wr' : World} (h : ChI w B2 lb A2 D out cs lv lh wr) (hb : Below wr.heap.size wr wr') : ChI w B2 lb A2 D out cs lv lh wr' :=
  ⟨below_step h.fr hb, h.rows.below hb, (hb.cell (p := ⟨lb, 0, none⟩) h.lt).trans h.c0, (hb.cell (p := ⟨lb, 1, none⟩) h.lt).trans h.c1, (hb.frozen (p := ⟨lb, 0, none⟩) h.lt).trans h.f0, (hb.frozen (p := ⟨lb, 1, none⟩) h.lt).trans h.f1, h.out.below hb, Nat.le_trans h.size hb.size, Nat.lt_of_lt_of_le h.lt hb.size⟩
theorem ChI.grown {w : World} {B2 lb : Nat} {A2 : Option Addr} {D : List Int} {out out' : Value} {cs cs' : List Chg} {lv : Int} {lh : Bool} {wr wr' : World} (h : ChI w B2 lb A2 D out cs lv lh wr) (hw : w.heap.size ≤ B2) (hl : lb < B2) (hA : ∀ a, A2 = some a → a.block < B2)
    (hg : wr.grownBy wr' out.ownBlock) (ho : OwnL wr' B2 139 3 out' (cs'.map Chg.cells)) : ChI w B2 lb A2 D out' cs' lv lh wr' := by
  have hb : Below B2 wr wr' := grown_below hg (fun g e => (h.out.lt g e).1) h.size
  exact ⟨h.fr.trans (hb.mono hw), h.rows.far' hg (fun a ha e => by have := (h.out.lt _ e.symm).1; have := hA a ha; omega), (hb.cell (p := ⟨lb, 0, none⟩) hl).trans h.c0, (hb.cell (p := ⟨lb, 1, none⟩) hl).trans h.c1, (hb.frozen (p := ⟨lb, 0, none⟩) hl).trans h.f0, (hb.frozen (p := ⟨lb, 1, none⟩) hl).trans h.f1, ho, Nat.le_trans h.size hg.size, Nat.lt_of_lt_of_le h.lt hg.size⟩
theorem ChI.store {w : World} {B2 lb : Nat} {A2 : Option Addr} {D : List Int} {out : Value} {cs : List Chg} {lv : Int} {lh : Bool} {wr : World} (h : ChI w B2 lb A2 D out cs lv lh wr) (hw : w.heap.size ≤ lb) (hl : lb < B2) (hA : ∀ a, A2 = some a → a.block ≠ lb) (v : Int) (b : Bool) :
    ChI w B2 lb A2 D out cs v b ((wr.setCell ⟨lb, 0, none⟩ (.int .i64 v)).setCell ⟨lb, 1, none⟩ (.bool b)) := by
  have hg : wr.grownBy ((wr.setCell ⟨lb, 0, none⟩ (.int .i64 v)).setCell ⟨lb, 1, none⟩ (.bool b)) (some lb) := ⟨rfl, rfl, rfl, by simp [World.setCell], fun i _ hne => (Below.heap_setCell _ _ _ i (fun e => hne (by rw [e]))).trans (Below.heap_setCell _ _ _ i (fun e => hne (by rw [e])))⟩
  have hn : (⟨lb, 1, none⟩ : Addr) ≠ ⟨lb, 0, none⟩ := fun e => by injection e with _ e _; omega
  refine ⟨(h.fr.setCell hw _).setCell hw _, h.rows.far' hg (fun a ha e => hA a ha (by injection e)), ?_, ?_, by rw [World.frozen?_setCell, World.frozen?_setCell]; exact h.f0, by rw [World.frozen?_setCell, World.frozen?_setCell]; exact h.f1, h.out.kept hg ?_, by simpa [World.setCell] using h.size, by simpa [World.setCell] using h.lt⟩
  · rw [World.cell?_setCell_other _ _ _ _ hn, World.cell?_setCell_same' _ _ _ (by rw [h.c0]; rfl)]
  · rw [World.cell?_setCell_same' _ _ _ (by rw [World.cell?_setCell_other _ _ _ _ (Ne.symm hn), h.c1]; rfl)]
  · cases hv : out.ownBlock with
    | none => exact .inl rfl
    | some g => right; intro e; have := (h.out.lt g hv).1; injection e with e; omega
theorem Cal.atErr_len {l : List Prov} {ns : List Int} (h : Cal.atErr l ns = 0) : l.length ≤ 200 := by
  unfold Cal.atErr at h
  split at h
  · rename_i h0
    unfold Cal.provsErr at h0
    split at h0 <;> omega
  · rename_i h0; exact absurd h h0
theorem field_dec0 (v : Int) (b : Bool) (w : World) : (Instr.field 133 (.agg #[.int .i64 v, .bool b]) 0).run Tryz.prog w = .ok (.int .i64 v) w := by kernel_rfl
theorem Cal.chg_nil (l : List Prov) (name : ByteArray) (known v : Int) (h : Bool) : Cal.chg l name known [] v h = [] := rfl
/-- What is left to tell. -/
def ChgLeft (l : List Prov) (name : ByteArray) (known : Int) (D : List Int) (k : Nat) (cs : List Chg) (v : Int) (h : Bool) : Prop := Cal.chgL l name known = cs ++ Cal.chg l name known (D.drop k) v h
theorem ChgLeft.same {l : List Prov} {name : ByteArray} {known : Int} {D : List Int} {k : Nat} {cs : List Chg} {v : Int} {h : Bool} {d : Int} (hc : ChgLeft l name known D k cs v h) (hd : D.drop k = d :: D.drop (k + 1)) (e : Cal.valOf l name d known = (v, h)) : ChgLeft l name known D (k + 1) cs v h := by
  unfold ChgLeft at hc ⊢
  rw [hc, hd]
  conv => lhs; unfold Cal.chg
  rw [e, if_pos ⟨rfl, rfl⟩]
theorem ChgLeft.other {l : List Prov} {name : ByteArray} {known : Int} {D : List Int} {k : Nat} {cs : List Chg} {v v' : Int} {h h' : Bool} {d : Int} (hc : ChgLeft l name known D k cs v h) (hd : D.drop k = d :: D.drop (k + 1)) (e : Cal.valOf l name d known = (v', h')) (hne : ¬ (v' = v ∧ h' = h)) : ChgLeft l name known D (k + 1) (cs ++ [⟨d, v', h'⟩]) v' h' := by
  unfold ChgLeft at hc ⊢
  rw [hc, hd]
  conv => lhs; unfold Cal.chg
  rw [e, if_neg hne, List.append_assoc]; rfl
theorem IntsL.addr {w : World} {B : Nat} {A : Option Addr} {n c : Nat} {zs : List Int} (h : IntsL w B (.slice A n c) zs) : ∀ a, A = some a → B ≤ a.block ∧ a.block < w.heap.size := fun a ha => OwnL.lt h a.block (by rw [ha]; rfl)
set_option maxRecDepth 100000 in
set_option maxHeartbeats 4000000 in
theorem Changes_any (A : Option Addr) (c : Nat) (l : List Prov) (name : ByteArray) (known : Int) (w : World) (hl : Provs w A l) :
    Calls Tryz.prog 17 #[.slice A l.length c, .string name, .int .i64 known] w (ChgPost w l name known) := by
  have hl' := Lib.hid (fun w1 (h : Below w.heap.size w w1) => hl.below h)
  have hba := Lib.hid (below_alloc w (.cells #[.int .i64 known] 3))
  have hns := Lib.hid (rowsAt_new w [.int .i64 known] 3)
  clear hl
  by_cases h0 : Cal.atErr l [known] = 0
  · have h0z := Lib.hid h0
    have h1 : (Cal.atErr l [known] != 0) = false := by simpa using h0
    have hlen := Cal.atErr_len h0
    clear h0
    have hfl := Cal.frs_length l name known
    have hst : Hid (IntsL w w.heap.size (.slice none 0 0) (Cal.frs (l.take 0) name known)) := OwnL.nil _ _ _ _
    go_enter Tryz.func17, Tryz.ntmps17
    go_wp2_with (go_at_call 70; refine (checkAt_any _ _ l _ 1 [known] _ (hl'.out _ hba.out) hns.out (by simp)).mono ?_; rintro e w1 ⟨rfl, hb1⟩)
    have hbw1 := Lib.hid (below_step hba.out hb1)
    have hst1 : Hid (IntsL w1 w.heap.size (.slice none 0 0) (Cal.frs (l.take 0) name known)) := OwnL.nil _ _ _ _
    clear hb1 hst
    go_loopw [9, 26] (fun o i wr => ∃ k : Nat, k ≤ l.length ∧ i = .int .i64 k ∧ Hid (IntsL wr w.heap.size o (Cal.frs (l.take k) name known)) ∧ Hid (Below w.heap.size w wr)) (fun _ i _ => l.length - (intOf i).toNat)
    case atStart => exact ⟨0, Nat.zero_le _, rfl, hst1, hbw1⟩
    case round =>
      obtain ⟨k, hk, rfl, hown, hb⟩ := hrel
      clear hst1 hbw1
      have hbs := hb.out.size
      by_cases hlt : k < l.length
      · have hk' : l[k]? = some l[k] := List.getElem?_eq_getElem hlt
        have hsn := Lib.hid (Cal.frs_snoc hlt name known)
        have hln := Cal.frs_length (l.take k) name known
        rw [List.length_take] at hln
        obtain ⟨b, o, rfl, hbl, c0, c1, c2, c3, c4⟩ := (hl'.out _ hb.out).at_ hk'
        clear hk'
        generalize l[k] = p at *
        have hb1 := Lib.hid (hb.out.alloc hbs (.cells #[.string p.name, .int .i64 p.value, .int .i64 p.fr, .int .i64 p.en, .bool p.repeal] 24))
        have hown1 := Lib.hid (hown.out.below (below_alloc _ (.cells #[.string p.name, .int .i64 p.value, .int .i64 p.fr, .int .i64 p.en, .bool p.repeal] 24)))
        cases h2 : p.name.toList == name.toList
        · have hnx : Hid (Cal.frs (l.take (k + 1)) name known = Cal.frs (l.take k) name known) := by show _ = _; rw [hsn.out]; unfold Cal.knows; rw [h2]; simp
          clear hown
          go_wp2_with fail
          go_roundw
          case rel => exact ⟨k + 1, by omega, by go_num, by rw [hnx.out]; exact hown1, hb1⟩
          case measure => simp [intOf]; omega
        · by_cases h3 : p.en ≤ known
          · have hnx : Hid (Cal.frs (l.take (k + 1)) name known = Cal.frs (l.take k) name known ++ [p.fr]) := by show _ = _; rw [hsn.out]; unfold Cal.knows; rw [h2]; simp [h3]
            clear hown
            have hbs1 := hb1.out.size
            generalize Cal.frs (l.take k) name known = zs at *
            have hsrc : Hid (RowsAt ((wr.alloc (.cells #[.string p.name, .int .i64 p.value, .int .i64 p.fr, .int .i64 p.en, .bool p.repeal] 24)).alloc (.cells #[.int .i64 p.fr] 3)) (some ⟨wr.heap.size + 1, 0, none⟩) 1 (intRows [p.fr])) := by
              have h := rowsAt_new (wr.alloc (.cells #[.string p.name, .int .i64 p.value, .int .i64 p.fr, .int .i64 p.en, .bool p.repeal] 24)) [.int .i64 p.fr] 3
              simp only [World.size_alloc] at h
              exact h
            go_wp2_with (at_builtin; go_must (refine wpList_append_rows elemInt rfl _ _ rfl rfl rfl (hown1.out.below (below_alloc _ _)) hsrc.out rfl (intRows_wid [p.fr]) (intRows_one [p.fr]) (by simp only [intRows_length, List.length_singleton]; omega) (by decide) (by (try simp); omega) ?_); intro v' w2 hown2 hg2 _)
            have hb2 : Below w.heap.size w w2 := (hb1.out.alloc hbs1 _).trans (grown_below hg2 (fun g e => (OwnL.lt hown1.out g e).1) (by simp; omega))
            have hown2' : IntsL w2 w.heap.size v' (zs ++ [p.fr]) := by unfold IntsL intRows; rw [List.map_append]; exact hown2
            have hb2 := Lib.hid hb2
            have hown2' := Lib.hid hown2'
            clear hown2 hg2
            go_wp2_with fail
            go_roundw
            case rel => exact ⟨k + 1, by omega, by go_num, by rw [hnx.out]; exact hown2', hb2⟩
            case measure => simp [intOf]; omega
          · have hnx : Hid (Cal.frs (l.take (k + 1)) name known = Cal.frs (l.take k) name known) := by show _ = _; rw [hsn.out]; unfold Cal.knows; rw [h2]; simp [h3]
            have h3' : decide (p.en ≤ known) = false := by simpa using h3
            clear hown
            go_wp2_with fail
            go_roundw
            case rel => exact ⟨k + 1, by omega, by go_num, by rw [hnx.out]; exact hown1, hb1⟩
            case measure => simp [intOf]; omega
      · obtain rfl : k = l.length := by omega
        have hown := Lib.hid (show IntsL _ _ _ (Cal.frs l name known) by have := hown.out; rwa [List.take_length] at this)
        obtain ⟨A9, c9, rfl, _⟩ := hown.out.rows
        by_cases hne : Cal.frs l name known = []
        · have hE : Hid (Cal.chgE l name known = 6) := by show _ = _; unfold Cal.chgE; rw [if_pos h0z.out, if_pos hne]
          have hz : (((Cal.frs l name known).length : Int) == 0) = true := by rw [hne]; rfl
          clear hne
          go_wp2_with fail
          go_ret2
          exact chgPost_err hE.out (by decide) hb.out
        · have hE : Hid (Cal.chgE l name known = 0) := by show _ = _; unfold Cal.chgE; rw [if_pos h0z.out, if_neg hne]
          have hR : Hid (Cal.chgR l name known = Cal.chgL l name known) := by show _ = _; unfold Cal.chgR; rw [if_pos hE.out]
          have hpos : 0 < (Cal.frs l name known).length := by
            cases hq : Cal.frs l name known with
            | nil => exact absurd hq hne
            | cons a b => simp
          have hz : (((Cal.frs l name known).length : Int) == 0) = false := by simp; omega
          have hval := Lib.hid (fun d w1 (h : Below w.heap.size w w1) => valueOf_any A c l name d known w1 (hl'.out w1 h))
          clear hne
          go_wp2_with fail
          refine (Sort_own _ w.heap.size _ _ hown.out (by omega)).mono ?_
          rintro e w2 ⟨rfl, hs2, hg2⟩
          have hb2 := Lib.hid (hb.out.trans (grown_below hg2 (fun g e => (OwnL.lt hown.out g e).1) hbs))
          have hlm : ((Cal.frs l name known).mergeSort fun x y => decide (x ≤ y)).length = (Cal.frs l name known).length := List.length_mergeSort _
          have hs2z := Lib.hid hs2
          have hbs2 := hb2.out.size
          clear hg2 hs2 hown
          go_wp2_with fail
          refine (Compact_own _ w.heap.size _ _ (hs2z.out.below (below_alloc _ _)) (by rw [hlm]; omega)).mono ?_
          rintro e w3 ⟨v3, rfl, hs3, hg3, hob3⟩
          have hs3' : IntsL w3 w.heap.size v3 (Cal.ups (Cal.frs l name known)) := hs3
          obtain ⟨A3, c3, rfl, hr3⟩ := hs3'.rows
          have hlt9 := IntsL.addr hs2z.out
          have hbB := Lib.hid ((hb2.out.alloc hbs2 (.cells #[.int .i64 0, .bool false] 133)).trans (grown_below hg3 (fun g e => (OwnL.lt (hs2z.out) g e).1) (by simp; omega)))
          have hDne : 0 < (Cal.ups (Cal.frs l name known)).length := by
            obtain ⟨x, hx⟩ : ∃ x, x ∈ Cal.frs l name known := by
              cases hq : Cal.frs l name known with
              | nil => rw [hq] at hpos; simp at hpos
              | cons a b => exact ⟨a, by simp⟩
            have := (Cal.ups_spec (Cal.frs l name known)).2 x
            exact List.length_pos_of_mem (this.2 hx)
          have hDl := Cal.ups_length (Cal.frs l name known)
          obtain ⟨g3, hg3e⟩ : ∃ g3, A3 = some ⟨g3, 0, none⟩ := by
            rcases hs3'.own.2 with ⟨_, h0⟩ | ⟨g, cap, cur, hv, _⟩
            · omega
            · simp only [Value.slice.injEq] at hv; exact ⟨g, hv.1⟩
          subst hg3e
          have hA9 : A9 = some ⟨g3, 0, none⟩ ∨ ∃ a, A9 = some a ∧ a.block = g3 := by
            cases A9 with
            | none => simp [Value.ownBlock] at hob3
            | some a => right; exact ⟨a, rfl, by simp [Value.ownBlock] at hob3; exact hob3.symm⟩
          have hglt : g3 < w2.heap.size := by
            rcases hA9 with rfl | ⟨a, rfl, rfl⟩
            · exact (hlt9 _ rfl).2
            · exact (hlt9 _ rfl).2
          have hgne : g3 ≠ w2.heap.size := by omega
          have hrow : ∀ r, (Value.slice A9 (Cal.frs l name known).length c9).ownBlock = some r → r ≠ w2.heap.size := fun r e => by
            have := (OwnL.lt (hs2z.out) r e).2; omega
          have hfar : ∀ j, w3.cell? ⟨w2.heap.size, j, none⟩ = (w2.alloc (.cells #[.int .i64 0, .bool false] 133)).cell? ⟨w2.heap.size, j, none⟩ := fun j => hg3.cell_far ⟨w2.heap.size, j, none⟩ (by simp) (fun e => hrow _ e.symm rfl)
          have hfar2 : ∀ j, w3.frozen? ⟨w2.heap.size, j, none⟩ = (w2.alloc (.cells #[.int .i64 0, .bool false] 133)).frozen? ⟨w2.heap.size, j, none⟩ := fun j => hg3.frozen_far ⟨w2.heap.size, j, none⟩ (by simp) (fun e => hrow _ e.symm rfl)
          have hlB : w2.heap.size < w3.heap.size := by have := hg3.size; simp at this; omega
          have hwl : w.heap.size ≤ w2.heap.size := hbs2
          have hwB : w.heap.size ≤ w3.heap.size := by omega
          have hI0 : Hid (ChI w w3.heap.size w2.heap.size (some ⟨g3, 0, none⟩) (Cal.ups (Cal.frs l name known)) (.slice none 0 0) [] 0 false w3) :=
            ⟨hbB.out, hr3, (hfar 0).trans (by simp), (hfar 1).trans (by simp), (hfar2 0).trans (by unfold World.frozen?; rw [heap_alloc_new w2 _]; rfl), (hfar2 1).trans (by unfold World.frozen?; rw [heap_alloc_new w2 _]; rfl), OwnL.nil _ _ _ _, Nat.le_refl _, hlB⟩
          have hL0 : Hid (ChgLeft l name known (Cal.ups (Cal.frs l name known)) 0 [] 0 false) := rfl
          have hDl2 : (Cal.ups (Cal.frs l name known)).length ≤ 200 := by omega
          clear hs3 hs3' hr3 hg3 hob3 hlt9 hA9 hrow hfar hfar2 hbB hs2z hDne hDl hlm hpos hb2
          generalize Cal.ups (Cal.frs l name known) = D at *
          go_wp2_with fail
          go_loopw [12, 54] (fun o i wr => ∃ (k : Nat) (cs : List Chg) (lv : Int) (lh : Bool), k ≤ D.length ∧ i = .int .i64 k ∧ Hid (ChI w w3.heap.size w2.heap.size (some ⟨g3, 0, none⟩) D o cs lv lh wr) ∧ Hid (ChgLeft l name known D k cs lv lh) ∧ cs.length ≤ k) (fun _ i _ => D.length - (intOf i).toNat)
          case atStart => exact ⟨0, [], 0, false, Nat.zero_le _, rfl, hI0, hL0, Nat.zero_le _⟩
          case round =>
            obtain ⟨k, cs, lv, lh, hk, rfl, hI, hleft, hcl⟩ := hrel
            clear hI0 hL0
            by_cases hlt : k < D.length
            · have hdk : D[k]? = some D[k] := List.getElem?_eq_getElem hlt
              have hdr := Lib.hid (List.drop_eq_getElem_cons hlt)
              obtain ⟨b, o, hA, _, hc⟩ := hI.out.rows k [.int .i64 D[k]] (by simp [intRows, hdk])
              have e1 := hc 0 _ rfl
              cases hA
              simp only [Nat.mul_one, Nat.add_zero, Nat.zero_add] at e1
              clear hc hdk
              generalize D[k] = d at *
              have hv0 := hval.out d
              rcases hvq : Cal.valOf l name d known with ⟨v', h'⟩
              simp only [hvq] at hv0
              have hv0 := Lib.hid hv0
              by_cases hs : v' = lv ∧ h' = lh
              · obtain ⟨rfl, rfl⟩ := hs
                have hnx : Hid (ChgLeft l name known D (k + 1) cs v' h') := hleft.out.same hdr.out hvq
                clear hvq hleft
                go_wp2_with fail
                refine (hv0.out _ hI.out.fr).mono ?_
                rintro e w4 ⟨rfl, hb4⟩
                have hI4 := Lib.hid (hI.out.below hb4)
                clear hb4 e1 hI
                have x0 := hI4.out.c0
                have x1 := hI4.out.c1
                have hltb := hI4.out.lt
                have kne : w2.heap.size ≠ w4.heap.size := by omega
                have kne2 : w4.heap.size ≠ w2.heap.size := by omega
                have hI5 := Lib.hid (hI4.out.below (below_alloc w4 (.cells #[.int .i64 v', .bool h'] 133)))
                go_wp2_with fail
                go_roundw
                case rel => exact ⟨k + 1, cs, _, _, by omega, by go_num, hI5, hnx, by omega⟩
                case measure => simp [intOf]; omega
              · have hnx : Hid (ChgLeft l name known D (k + 1) (cs ++ [⟨d, v', h'⟩]) v' h') := hleft.out.other hdr.out hvq hs
                by_cases hvl : v' = lv
                · subst hvl
                  clear hvq hleft
                  cases h' <;> cases lh
                  · exact absurd ⟨rfl, rfl⟩ hs
                  · clear hs
                    go_wp2_with fail
                    refine (hv0.out _ hI.out.fr).mono ?_
                    rintro e w4 ⟨rfl, hb4⟩
                    have hI4 := Lib.hid (hI.out.below hb4)
                    clear hb4 e1 hI
                    have x0 := hI4.out.c0
                    have x1 := hI4.out.c1
                    have hltb := hI4.out.lt
                    have kne : w2.heap.size ≠ w4.heap.size := by omega
                    have kne2 : w4.heap.size ≠ w2.heap.size := by omega
                    have hsz4 := hI4.out.size
                    have hown4 := Lib.hid (hI4.out.out.below (below_step (below_alloc w4 (.cells #[.int .i64 v', .bool false] 133)) (below_alloc _ (.cells #[.int .i64 d, .int .i64 v', .bool false] 139))))
                    have hsrc : Hid (RowsAt ((w4.alloc (.cells #[.int .i64 v', .bool false] 133)).alloc (.cells #[.int .i64 d, .int .i64 v', .bool false] 139)) (some ⟨w4.heap.size + 1, 0, none⟩) 3 ([(⟨d, v', false⟩ : Chg)].map Chg.cells)) := by
                      have h := rowsAt_new (w4.alloc (.cells #[.int .i64 v', .bool false] 133)) [.int .i64 d, .int .i64 v', .bool false] 139
                      simp only [World.size_alloc] at h
                      exact h
                    have hI5 := Lib.hid (hI4.out.below (below_step (below_alloc w4 (.cells #[.int .i64 v', .bool false] 133)) (below_alloc _ (.cells #[.int .i64 d, .int .i64 v', .bool false] 139))))
                    have hn0 : Hid (((w4.alloc (.cells #[.int .i64 v', .bool false] 133)).alloc (.cells #[.int .i64 d, .int .i64 v', .bool false] 139)).cell? ⟨w4.heap.size, 0, none⟩ = some (.int .i64 v')) := by show _ = _; simp
                    have hn1 : Hid (((w4.alloc (.cells #[.int .i64 v', .bool false] 133)).alloc (.cells #[.int .i64 d, .int .i64 v', .bool false] 139)).cell? ⟨w4.heap.size, 1, none⟩ = some (.bool false)) := by show _ = _; simp
                    go_wp2_with (at_builtin; go_must (refine wpList_append_rows elemChg rfl _ _ rfl rfl rfl hown4.out hsrc.out rfl (chgCells_wid [⟨d, v', false⟩]) (chgCells_one [⟨d, v', false⟩]) (by simp; omega) (by decide) (by simp; omega) ?_); intro u5 w5 hown5 hg5 _; have hfar : ∀ j, w5.cell? ⟨w4.heap.size, j, none⟩ = ((w4.alloc (.cells #[.int .i64 v', .bool false] 133)).alloc (.cells #[.int .i64 d, .int .i64 v', .bool false] 139)).cell? ⟨w4.heap.size, j, none⟩ := fun j => hg5.cell_far ⟨w4.heap.size, j, none⟩ (by simp; omega) (fun e => Nat.lt_irrefl _ (hI4.out.out.lt _ e.symm).2); have y0 : w5.cell? ⟨w4.heap.size, 0, none⟩ = some (.int .i64 v') := (hfar 0).trans hn0.out; have y1 : w5.cell? ⟨w4.heap.size, 1, none⟩ = some (.bool false) := (hfar 1).trans hn1.out; have hI6 : ChI w w3.heap.size w2.heap.size (some ⟨g3, 0, none⟩) D u5 (cs ++ [⟨d, v', false⟩]) _ _ w5 := hI5.out.grown hwB hlB (fun a ha => by cases ha; show g3 < _; omega) hg5 (by rw [List.map_append]; exact hown5); have hI7 := Lib.hid (hI6.store hwl hlB (fun a ha => by cases ha; exact hgne) v' false); have z0 := hI6.c0; have z1 := hI6.c1; have z2 := hI6.f0; have z3 := hI6.f1; clear hI6 x0 x1 hfar hown5 hg5 hown4 hsrc)
                    go_roundw
                    case rel => exact ⟨k + 1, _, _, _, by omega, by go_num, hI7, hnx, by rw [List.length_append]; simp; omega⟩
                    case measure => simp [intOf]; omega
                  · clear hs
                    go_wp2_with fail
                    refine (hv0.out _ hI.out.fr).mono ?_
                    rintro e w4 ⟨rfl, hb4⟩
                    have hI4 := Lib.hid (hI.out.below hb4)
                    clear hb4 e1 hI
                    have x0 := hI4.out.c0
                    have x1 := hI4.out.c1
                    have hltb := hI4.out.lt
                    have kne : w2.heap.size ≠ w4.heap.size := by omega
                    have kne2 : w4.heap.size ≠ w2.heap.size := by omega
                    have hsz4 := hI4.out.size
                    have hown4 := Lib.hid (hI4.out.out.below (below_step (below_alloc w4 (.cells #[.int .i64 v', .bool true] 133)) (below_alloc _ (.cells #[.int .i64 d, .int .i64 v', .bool true] 139))))
                    have hsrc : Hid (RowsAt ((w4.alloc (.cells #[.int .i64 v', .bool true] 133)).alloc (.cells #[.int .i64 d, .int .i64 v', .bool true] 139)) (some ⟨w4.heap.size + 1, 0, none⟩) 3 ([(⟨d, v', true⟩ : Chg)].map Chg.cells)) := by
                      have h := rowsAt_new (w4.alloc (.cells #[.int .i64 v', .bool true] 133)) [.int .i64 d, .int .i64 v', .bool true] 139
                      simp only [World.size_alloc] at h
                      exact h
                    have hI5 := Lib.hid (hI4.out.below (below_step (below_alloc w4 (.cells #[.int .i64 v', .bool true] 133)) (below_alloc _ (.cells #[.int .i64 d, .int .i64 v', .bool true] 139))))
                    have hn0 : Hid (((w4.alloc (.cells #[.int .i64 v', .bool true] 133)).alloc (.cells #[.int .i64 d, .int .i64 v', .bool true] 139)).cell? ⟨w4.heap.size, 0, none⟩ = some (.int .i64 v')) := by show _ = _; simp
                    have hn1 : Hid (((w4.alloc (.cells #[.int .i64 v', .bool true] 133)).alloc (.cells #[.int .i64 d, .int .i64 v', .bool true] 139)).cell? ⟨w4.heap.size, 1, none⟩ = some (.bool true)) := by show _ = _; simp
                    go_wp2_with (at_builtin; go_must (refine wpList_append_rows elemChg rfl _ _ rfl rfl rfl hown4.out hsrc.out rfl (chgCells_wid [⟨d, v', true⟩]) (chgCells_one [⟨d, v', true⟩]) (by simp; omega) (by decide) (by simp; omega) ?_); intro u5 w5 hown5 hg5 _; have hfar : ∀ j, w5.cell? ⟨w4.heap.size, j, none⟩ = ((w4.alloc (.cells #[.int .i64 v', .bool true] 133)).alloc (.cells #[.int .i64 d, .int .i64 v', .bool true] 139)).cell? ⟨w4.heap.size, j, none⟩ := fun j => hg5.cell_far ⟨w4.heap.size, j, none⟩ (by simp; omega) (fun e => Nat.lt_irrefl _ (hI4.out.out.lt _ e.symm).2); have y0 : w5.cell? ⟨w4.heap.size, 0, none⟩ = some (.int .i64 v') := (hfar 0).trans hn0.out; have y1 : w5.cell? ⟨w4.heap.size, 1, none⟩ = some (.bool true) := (hfar 1).trans hn1.out; have hI6 : ChI w w3.heap.size w2.heap.size (some ⟨g3, 0, none⟩) D u5 (cs ++ [⟨d, v', true⟩]) _ _ w5 := hI5.out.grown hwB hlB (fun a ha => by cases ha; show g3 < _; omega) hg5 (by rw [List.map_append]; exact hown5); have hI7 := Lib.hid (hI6.store hwl hlB (fun a ha => by cases ha; exact hgne) v' true); have z0 := hI6.c0; have z1 := hI6.c1; have z2 := hI6.f0; have z3 := hI6.f1; clear hI6 x0 x1 hfar hown5 hg5 hown4 hsrc)
                    go_roundw
                    case rel => exact ⟨k + 1, _, _, _, by omega, by go_num, hI7, hnx, by rw [List.length_append]; simp; omega⟩
                    case measure => simp [intOf]; omega
                  · exact absurd ⟨rfl, rfl⟩ hs
                · have hvl' : (v' == lv) = false := by simpa using hvl
                  clear hvq hleft hs hvl
                  go_wp2_with fail
                  refine (hv0.out _ hI.out.fr).mono ?_
                  rintro e w4 ⟨rfl, hb4⟩
                  have hI4 := Lib.hid (hI.out.below hb4)
                  clear hb4 e1 hI
                  have x0 := hI4.out.c0
                  have x1 := hI4.out.c1
                  have hltb := hI4.out.lt
                  have kne : w2.heap.size ≠ w4.heap.size := by omega
                  have kne2 : w4.heap.size ≠ w2.heap.size := by omega
                  have hsz4 := hI4.out.size
                  have hown4 := Lib.hid (hI4.out.out.below (below_step (below_alloc w4 (.cells #[.int .i64 v', .bool h'] 133)) (below_alloc _ (.cells #[.int .i64 d, .int .i64 v', .bool h'] 139))))
                  have hsrc : Hid (RowsAt ((w4.alloc (.cells #[.int .i64 v', .bool h'] 133)).alloc (.cells #[.int .i64 d, .int .i64 v', .bool h'] 139)) (some ⟨w4.heap.size + 1, 0, none⟩) 3 ([(⟨d, v', h'⟩ : Chg)].map Chg.cells)) := by
                    have h := rowsAt_new (w4.alloc (.cells #[.int .i64 v', .bool h'] 133)) [.int .i64 d, .int .i64 v', .bool h'] 139
                    simp only [World.size_alloc] at h
                    exact h
                  have hI5 := Lib.hid (hI4.out.below (below_step (below_alloc w4 (.cells #[.int .i64 v', .bool h'] 133)) (below_alloc _ (.cells #[.int .i64 d, .int .i64 v', .bool h'] 139))))
                  have hn0 : Hid (((w4.alloc (.cells #[.int .i64 v', .bool h'] 133)).alloc (.cells #[.int .i64 d, .int .i64 v', .bool h'] 139)).cell? ⟨w4.heap.size, 0, none⟩ = some (.int .i64 v')) := by show _ = _; simp
                  have hn1 : Hid (((w4.alloc (.cells #[.int .i64 v', .bool h'] 133)).alloc (.cells #[.int .i64 d, .int .i64 v', .bool h'] 139)).cell? ⟨w4.heap.size, 1, none⟩ = some (.bool h')) := by show _ = _; simp
                  go_wp2_with (at_builtin; go_must (refine wpList_append_rows elemChg rfl _ _ rfl rfl rfl hown4.out hsrc.out rfl (chgCells_wid [⟨d, v', h'⟩]) (chgCells_one [⟨d, v', h'⟩]) (by simp; omega) (by decide) (by simp; omega) ?_); intro u5 w5 hown5 hg5 _; have hfar : ∀ j, w5.cell? ⟨w4.heap.size, j, none⟩ = ((w4.alloc (.cells #[.int .i64 v', .bool h'] 133)).alloc (.cells #[.int .i64 d, .int .i64 v', .bool h'] 139)).cell? ⟨w4.heap.size, j, none⟩ := fun j => hg5.cell_far ⟨w4.heap.size, j, none⟩ (by simp; omega) (fun e => Nat.lt_irrefl _ (hI4.out.out.lt _ e.symm).2); have y0 : w5.cell? ⟨w4.heap.size, 0, none⟩ = some (.int .i64 v') := (hfar 0).trans hn0.out; have y1 : w5.cell? ⟨w4.heap.size, 1, none⟩ = some (.bool h') := (hfar 1).trans hn1.out; have hI6 : ChI w w3.heap.size w2.heap.size (some ⟨g3, 0, none⟩) D u5 (cs ++ [⟨d, v', h'⟩]) _ _ w5 := hI5.out.grown hwB hlB (fun a ha => by cases ha; show g3 < _; omega) hg5 (by rw [List.map_append]; exact hown5); have hI7 := Lib.hid (hI6.store hwl hlB (fun a ha => by cases ha; exact hgne) v' h'); have z0 := hI6.c0; have z1 := hI6.c1; have z2 := hI6.f0; have z3 := hI6.f1; clear hI6 x0 x1 hfar hown5 hg5 hown4 hsrc)
                  go_roundw
                  case rel => exact ⟨k + 1, _, _, _, by omega, by go_num, hI7, hnx, by rw [List.length_append]; simp; omega⟩
                  case measure => simp [intOf]; omega
            · obtain rfl : k = D.length := by omega
              have hfin : Hid (Cal.chgL l name known = cs) := by
                have := hleft.out
                unfold ChgLeft at this
                show _ = _
                rw [this, List.drop_length, Cal.chg_nil, List.append_nil]
              go_wp2_with fail
              go_ret2
              exact ⟨_, by rw [hE.out]; rfl, by rw [hR.out, hfin.out]; exact hI.out.out.less hwB, hI.out.fr⟩
  · have h0z := Lib.hid h0
    have h1 : (Cal.atErr l [known] != 0) = true := by simpa using h0
    have hE : Hid (Cal.chgE l name known = Cal.atErr l [known]) := by show _ = _; unfold Cal.chgE; rw [if_neg h0]
    clear h0
    go_enter Tryz.func17, Tryz.ntmps17
    go_wp2_with (go_at_call 70; refine (checkAt_any _ _ l _ 1 [known] _ (hl'.out _ hba.out) hns.out (by simp)).mono ?_; rintro e w1 ⟨rfl, hb1⟩)
    go_ret2
    exact chgPost_err hE.out h0z.out (below_step hba.out hb1)
end Go.Proofs.YtbinoelbjlgjkaaGreatDoor
