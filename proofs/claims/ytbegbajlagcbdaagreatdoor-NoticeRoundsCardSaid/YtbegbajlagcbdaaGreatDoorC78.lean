/- Chapter 8 and what it rests on: definitions and walks, part 78. -/
import Derived.Test.YtbegbajlagcbdaaGreatDoorC61
import Derived.Test.YtbegbajlagcbdaaGreatDoorC06
import Derived.Laws.MakeOwn
import Derived.Carry
import Derived.Test.YtbegbajlagcbdaaGreatDoorC77
import Derived.Test.YtbegbajlagcbdaaGreatDoorC27
import Derived.Deep.LoopGhost
namespace Go.Proofs.YtbegbajlagcbdaaGreatDoor
open Go Go.RowKit Go.Maps Go.WideMaps
/-- The set of names holds those that have been seen. -/
def SeenOf (seen : List (List UInt8)) (f : List UInt8 → Option Value) : Prop := ∀ nm, (f nm).getD (.bool false) = .bool (decide (nm ∈ seen))
theorem SeenOf.start : SeenOf [] (fun _ => none) := fun _ => by simp
theorem SeenOf.step {seen : List (List UInt8)} {f : List UInt8 → Option Value} (h : SeenOf seen f) (x : List UInt8) : SeenOf (seen ++ [x]) (setAt f x (.bool true)) := fun nm => by
  by_cases hn : nm = x
  · subst hn; rw [setAt_same]; simp
  · rw [setAt_other _ _ hn, h nm]; simp [hn]
/-- One number is put behind an own slice. -/
theorem wpPushI {ops : Array Oper} {rest : List Oper} {op : Oper} {a : Act} {w : World} {Q : Exit → Act → World → Prop} {B : Nat} {v : Value} {zs : List Int} {t : TypeId} (z : Int) (h : IntsL w B v zs) (hB : B ≤ w.heap.size) (hlen : zs.length ≤ 1000000)
    (hgd : op.guard = none) (s x : Operand) (ho : op.op = .call { callee := .builtin .append, args := #[s, x], argTypes := #[32, 32] }) (hs : a.eval s = v) {c : Nat} (hx : a.eval x = .slice (some ⟨w.heap.size, 0, none⟩) 1 c)
    (k : ∀ v' w', IntsL w' B v' (zs ++ [z]) → Below B w w' → wpList Tryz.prog ops Q rest (a.put op.dst v') w') : wpList Tryz.prog ops Q (op :: rest) a (w.alloc (.cells #[.int .i64 z] t)) := by
  refine wpList_append_rows elemInt hgd s x ho hs hx (OwnL.below h (below_alloc _ _)) (rowsAt_new _ [.int .i64 z] _) rfl (intRows_wid [z]) (intRows_one [z]) (by rw [intRows_length]; simp; omega) (by decide) (by simp; omega) ?_
  intro v' w2 hown2 hg2 _
  refine k v' w2 ?_ ?_
  · unfold IntsL intRows; rw [List.map_append]; exact hown2
  · exact ((Below.refl B w).alloc hB _).trans (grown_below hg2 (fun g e => (OwnL.lt h g e).1) (by simp; omega))
theorem beq_names {a b : ByteArray} : (a.toList == b.toList) = true ↔ a.data.toList = b.data.toList := by rw [ByteArray.toList_eq, ByteArray.toList_eq]; simp
theorem beq_names_not {a b : ByteArray} (h : ¬ a.data.toList = b.data.toList) : (a.toList == b.toList) = false := by
  rw [Bool.eq_false_iff]; exact fun h2 => h (beq_names.1 h2)
/-- The names ahead of a place are other ones. -/
def otherTo {α : Type} (nm : α → List UInt8) (l : List α) (x : List UInt8) (j : Nat) : Prop := ∀ (i : Nat) e, i < j → l[i]? = some e → nm e ≠ x
theorem otherTo.not_mem {α : Type} {nm : α → List UInt8} {l : List α} {x : List UInt8} {j : Nat} (h : otherTo nm l x j) : x ∉ (l.take j).map nm := fun hm => by
  obtain ⟨e, he, hx⟩ := List.mem_map.1 hm
  obtain ⟨i, hi, hq⟩ := List.getElem_of_mem he
  rw [List.length_take] at hi
  rw [List.getElem_take] at hq
  exact h i e (by omega) (by rw [List.getElem?_eq_getElem (by omega), hq]) hx
theorem mem_of_at {α : Type} {nm : α → List UInt8} {l : List α} {x : List UInt8} {i k : Nat} {e : α} (hi : i < k) (he : l[i]? = some e) (hx : nm e = x) : x ∈ (l.take k).map nm := by
  have hl := (List.getElem?_eq_some_iff.1 he).1
  refine List.mem_map.2 ⟨e, ?_, hx⟩
  rw [List.mem_iff_getElem?]
  exact ⟨i, by rw [List.getElem?_take, if_pos hi, he]⟩
/-! Parts of an own slice of numbers. -/
theorem RowsAt.dropI {w : World} {A : Option Addr} {zs : List Int} (h : RowsAt w A 1 (intRows zs)) (k : Nat) : RowsAt w (A.map (·.add (k * 1))) 1 (intRows (zs.drop k)) := fun j r hr => by
  unfold intRows at hr
  rw [List.map_drop, List.getElem?_drop] at hr
  obtain ⟨b, o, hA, hb, hc⟩ := h _ r hr
  refine ⟨b, o + k, ?_, hb, fun i v hv => ?_⟩
  · rw [hA, Option.map_some, addr_add, Nat.mul_one]
  · have := hc i v hv
    rw [show o + k + (j * 1 + i) = o + ((k + j) * 1 + i) by omega]
    exact this
theorem RowsAt.farI {W W' : World} {row : Option Nat} {A : Option Addr} {m : Nat} {rows : List (List Value)} (h : RowsAt W A m rows) (hg : W.grownBy W' row) (hA : ∀ a, A = some a → some a.block ≠ row) : RowsAt W' A m rows := fun k r hk => by
  obtain ⟨b, o, h1, h2, h3⟩ := h k r hk
  exact ⟨b, o, h1, Nat.lt_of_lt_of_le h2 hg.size, fun j v hv => (World.cell?_of_block (a := ⟨b, o + (k * m + j), none⟩) (hg.block b h2 (hA _ h1))).trans (h3 j v hv)⟩
theorem IntsL.capI {w : World} {B c : Nat} {A : Option Addr} {zs : List Int} (h : IntsL w B (.slice A zs.length c) zs) : zs.length ≤ c := by
  rcases h.own.2 with ⟨h1, h2⟩ | ⟨g, cap, cur, hv, _, _, h3, _⟩
  · omega
  · simp only [Value.slice.injEq, true_and] at hv; omega
theorem IntsL.rowsI {w : World} {B c : Nat} {A : Option Addr} {zs : List Int} (h : IntsL w B (.slice A zs.length c) zs) : RowsAt w A 1 (intRows zs) := by
  obtain ⟨A0, c0, hv, hr⟩ := h.rows
  simp only [Value.slice.injEq] at hv
  obtain ⟨rfl, -, rfl⟩ := hv
  exact hr
theorem IntsL.hiI {w : World} {B c : Nat} {A : Option Addr} {zs : List Int} (h : IntsL w B (.slice A zs.length c) zs) {k : Nat} (hk : k ≤ zs.length) :
    ∃ A1 c1, (∀ w', (Instr.slice 32 (.slice A zs.length c) none (some (.int .i64 k)) none).run Tryz.prog w' = .ok (.slice A1 k c1) w') ∧ RowsAt w A1 1 (intRows (zs.take k)) := by
  obtain ⟨A1, c1, h1, h2⟩ := cut_headI undIntsI sizeIntI (intRows_length zs).symm h.rowsI h.capI hk
  exact ⟨A1, c1, h1, by unfold intRows at h2 ⊢; rw [List.map_take]; exact h2⟩
theorem IntsL.loI {w : World} {B c : Nat} {A : Option Addr} {zs : List Int} (h : IntsL w B (.slice A zs.length c) zs) {k : Nat} (hk : k ≤ zs.length) :
    ∃ A2 c2, (∀ w', (Instr.slice 32 (.slice A zs.length c) (some (.int .i64 k)) none none).run Tryz.prog w' = .ok (.slice A2 (zs.length - k) c2) w') ∧ RowsAt w A2 1 (intRows (zs.drop k)) := by
  have hr := h.rowsI
  have hcap := h.capI
  refine ⟨if c = k then A else A.map (·.add (k * 1)), c - k, fun w' => ?_, ?_⟩
  · rw [run_slice_l w' 32 A zs.length c undIntsI .i64 k (by omega) (by omega), sizeIntI]
    simp [Result.andThen, sliced]
  · split
    · have : zs.drop k = [] := List.drop_eq_nil_of_le (by omega)
      rw [this]
      exact RowsAt.nil _ _ _
    · exact hr.dropI k
def numsOf (zs : List Nat) : List Int := zs.map fun (i : Nat) => (i : Int)
theorem numsOf_ins (zs : List Nat) (k q : Nat) : numsOf (zs.take q ++ [k] ++ zs.drop q) = (numsOf zs).take q ++ [(k : Int)] ++ (numsOf zs).drop q := by unfold numsOf; simp
end Go.Proofs.YtbegbajlagcbdaaGreatDoor
namespace Go.Proofs.YtbegbajlagcbdaaGreatDoor
open Go Go.RowKit Go.Maps Go.WideMaps
/-! What Round returns. -/
def Cal.nmM (e : MoE) : List UInt8 := e.m.name.data.toList
def Cal.ckM (e : MoE) : Int := Cal.monErr e.m
def Cal.mosE (l : List MoE) : Int := if 60 < l.length then 8 else Cal.namesE Cal.ckM Cal.nmM [] l
def Cal.turnI (g : Grad) (l : List MoE) (day : Int) (i : Nat) : Turn × Bool := match l[i]? with | some e => Cal.turnS g e.m i day | none => (⟨0, 0, 0⟩, false)
theorem Cal.turnI_at {g : Grad} {l : List MoE} {day : Int} {k : Nat} (h : k < l.length) : Cal.turnI g l day k = Cal.turnS g l[k].m k day := by unfold Cal.turnI; rw [List.getElem?_eq_getElem h]
theorem Cal.turnS_number (g : Grad) (m : Mon) (number day : Int) : (Cal.turnS g m number day).1.number = number := by
  unfold Cal.turnS
  split <;> rfl
def Cal.rouS (g : Grad) (l : List MoE) (day : Int) (i : Nat) : Bool := (Cal.turnI g l day i).2
def Cal.rouK (g : Grad) (l : List MoE) (day : Int) (i : Nat) : Int × Int := (-(Cal.turnI g l day i).1.grade, (Cal.turnI g l day i).1.day)
def Cal.rouE (g : Grad) (l : List MoE) (day : Int) : Int := if Cal.gradErr g = 0 then (if Cal.mosE l = 0 then (if 0 ≤ day ∧ day ≤ 200000 then 0 else 2) else Cal.mosE l) else Cal.gradErr g
def Cal.rouO (g : Grad) (l : List MoE) (day : Int) : List Int := (Cal.dueI (Cal.rouK g l day) (Cal.rouS g l day) l.length).map fun (i : Nat) => (i : Int)
def Cal.rouL (g : Grad) (l : List MoE) (day : Int) : List Int := if Cal.rouE g l day = 0 then Cal.rouO g l day else []
def Cal.turnsT (g : Grad) (l : List MoE) (day : Int) (k : Nat) : List Turn := (Cal.selI (Cal.rouS g l day) k).map fun i => (Cal.turnI g l day i).1
theorem Cal.turnsT_yes {g : Grad} {l : List MoE} {day : Int} {k : Nat} (h : Cal.rouS g l day k = true) : Cal.turnsT g l day (k + 1) = Cal.turnsT g l day k ++ [(Cal.turnI g l day k).1] := by unfold Cal.turnsT; rw [Cal.selI_yes h]; simp
theorem Cal.turnsT_no {g : Grad} {l : List MoE} {day : Int} {k : Nat} (h : Cal.rouS g l day k = false) : Cal.turnsT g l day (k + 1) = Cal.turnsT g l day k := by unfold Cal.turnsT; rw [Cal.selI_no h]
theorem Cal.turnsT_length (g : Grad) (l : List MoE) (day : Int) (k : Nat) : (Cal.turnsT g l day k).length ≤ k := by unfold Cal.turnsT; rw [List.length_map]; exact Cal.selI_length _ _
theorem Cal.turns_sorted (g : Grad) (l : List MoE) (day : Int) : ((Cal.turnsT g l day l.length).mergeSort leT).map Turn.number = Cal.rouO g l day := by
  have hnum : ∀ i, i < l.length → (Cal.turnI g l day i).1.number = (i : Int) := fun i hi => by rw [Cal.turnI_at hi]; exact Cal.turnS_number _ _ _ _
  unfold Cal.turnsT
  rw [← List.map_mergeSort (f := fun i => (Cal.turnI g l day i).1) (r := Cal.leI (Cal.rouK g l day)) (s := leT) (fun a ha b hb => ?_)]
  · unfold Cal.rouO
    rw [List.map_map]
    refine List.map_congr_left fun i hi => ?_
    exact hnum i (Cal.dueI_mem.1 hi).1
  · have h1 := hnum a (Cal.selI_mem.1 ha).1
    have h2 := hnum b (Cal.selI_mem.1 hb).1
    rw [Bool.eq_iff_iff, Cal.leI_iff]
    unfold leT
    rw [Bool.not_eq_true', turnCf_not, h1, h2]
    show (-(Cal.turnI g l day a).1.grade < -(Cal.turnI g l day b).1.grade ∨ -(Cal.turnI g l day a).1.grade = -(Cal.turnI g l day b).1.grade ∧ ((Cal.turnI g l day a).1.day < (Cal.turnI g l day b).1.day ∨ (Cal.turnI g l day a).1.day = (Cal.turnI g l day b).1.day ∧ a ≤ b)) ↔ _
    generalize (Cal.turnI g l day a).1.grade = ga
    generalize (Cal.turnI g l day b).1.grade = gb
    generalize (Cal.turnI g l day a).1.day = da
    generalize (Cal.turnI g l day b).1.day = db
    omega
def RouPost (w : World) (g : Grad) (l : List MoE) (day : Int) (e : Ending) (w' : World) : Prop := ∃ v, e = .returned (.tuple #[v, .int .i64 (Cal.rouE g l day)]) ∧ IntsL w' w.heap.size v (Cal.rouL g l day) ∧ Below w.heap.size w w'
theorem rouPost_err {w w' : World} {g : Grad} {l : List MoE} {day r : Int} (h : Cal.rouE g l day = r) (hr : r ≠ 0) (hb : Below w.heap.size w w') : RouPost w g l day (.returned (.tuple #[.slice none 0 0, .int .i64 r])) w' :=
  ⟨_, by rw [h], by unfold Cal.rouL; rw [h, if_neg hr]; exact OwnL.nil _ _ _ _, hb⟩
structure RouI (w : World) (g : Grad) (M : Nat) (seen : List (List UInt8)) (a : Nat) (v : Value) (ts : List Turn) (wr : World) : Prop where
  fr : Below w.heap.size w wr
  lo : w.heap.size + 1 ≤ M
  pr : BoxAt wr w.heap.size [.int .i64 g.t0, .int .i64 g.t1, .int .i64 g.t2, .int .i64 g.p0, .int .i64 g.p1, .int .i64 g.p2, .int .i64 g.m0, .int .i64 g.m1, .int .i64 g.m2, .int .i64 g.m3]
  map : ∃ f, MapIs Tryz.prog 9 strLit wr M a f ∧ SeenOf seen f
  out : TurnsL wr (M + 1) v ts
  size : M + 1 ≤ wr.heap.size
section
variable {w : World} {g : Grad} {M : Nat} {seen : List (List UInt8)} {a : Nat} {v : Value} {ts : List Turn} {wr wr' : World}
theorem RouI.below (h : RouI w g M seen a v ts wr) (hb : Below wr.heap.size wr wr') : RouI w g M seen a v ts wr' := by
  obtain ⟨f, h1, h2⟩ := h.map
  exact ⟨below_step h.fr hb, h.lo, h.pr.below hb, ⟨f, h1.below hb h1.lt, h2⟩, OwnL.below h.out hb, Nat.le_trans h.size hb.size⟩
theorem RouI.mapped {seen' : List (List UInt8)} {a' : Nat} {f' : List UInt8 → Option Value} (h : RouI w g M seen a v ts wr) (hg : wr.grownBy wr' (some M)) (hm : MapIs Tryz.prog 9 strLit wr' M a' f') (hs : SeenOf seen' f') : RouI w g M seen' a' v ts wr' := by
  have hlo := h.lo
  refine ⟨below_of_grownB h.fr hg (by omega), h.lo, h.pr.grown hg (by simp; omega), ⟨f', hm, hs⟩, OwnL.kept h.out hg ?_, Nat.le_trans h.size hg.size⟩
  cases hv : v.ownBlock with
  | none => exact .inl rfl
  | some g => right; intro e; have := (OwnL.lt h.out g hv).1; injection e with e; omega
theorem RouI.grown {v' : Value} {ts' : List Turn} (h : RouI w g M seen a v ts wr) (hg : wr.grownBy wr' v.ownBlock) (ho : TurnsL wr' (M + 1) v' ts') : RouI w g M seen a v' ts' wr' := by
  have hlo := h.lo
  have hb : Below (M + 1) wr wr' := grown_below hg (fun g e => (OwnL.lt h.out g e).1) h.size
  have hne : ∀ k, k < M + 1 → some k ≠ v.ownBlock := fun k hk e => by have := (OwnL.lt h.out k e.symm).1; omega
  obtain ⟨f, h1, h2⟩ := h.map
  exact ⟨h.fr.trans (hb.mono (by omega)), h.lo, h.pr.grown hg (hne _ (by omega)), ⟨f, h1.kept hg (hne _ (by omega)), h2⟩, ho, Nat.le_trans h.size hg.size⟩
theorem RouI.look (h : RouI w g M seen a v ts wr) {s : ByteArray} (hs : s.size ≤ maxLen) : (Instr.lookup 116 (.map (some M)) (.string s) false).run Tryz.prog wr = .ok (.bool (decide (s.data.toList ∈ seen))) wr := by
  obtain ⟨f, h1, h2⟩ := h.map
  rw [h1.look (string_keyed Tryz.underlying9) Tryz.underlying116 (boolZero _) (keyOf_string_mk Tryz.underlying9 hs), h2]
theorem RouI.update (h : RouI w g M seen a v ts wr) {s : ByteArray} (hs : s.size ≤ maxLen) (ha : a < 1000000) :
    ∃ w', (Instr.mapUpdate 116 (.map (some M)) (.string s) (.bool true)).run Tryz.prog wr = .ok () w' ∧ RouI w g M (seen ++ [s.data.toList]) (a + 1) v ts w' ∧ wr.grownBy w' (some M) ∧ w'.heap.size = wr.heap.size := by
  obtain ⟨f, h1, h2⟩ := h.map
  obtain ⟨w2, hrun, hm2, hg2, hsz2⟩ := h1.store strLit_inj (string_keyed Tryz.underlying9) Tryz.underlying116 (by unfold maxLen; omega) (val := .bool true) (keyOf_string_mk Tryz.underlying9 hs)
  exact ⟨w2, hrun, h.mapped hg2 hm2 (h2.step _), hg2, hsz2⟩
end
theorem turns_at {w : World} {A : Option Addr} {ts : List Turn} (h : RowsAt w A 3 (ts.map Turn.cells)) {k : Nat} {t : Turn} (hk : ts[k]? = some t) :
    ∃ b o, A = some ⟨b, o, none⟩ ∧ b < w.heap.size ∧ w.cell? ⟨b, o + k * 3, none⟩ = some (.int .i64 t.grade) ∧ w.cell? ⟨b, o + k * 3 + 1, none⟩ = some (.int .i64 t.day) ∧ w.cell? ⟨b, o + k * 3 + 2, none⟩ = some (.int .i64 t.number) := by
  obtain ⟨b, o, hA, hlt, hc⟩ := h k t.cells (by simp [hk])
  exact ⟨b, o, hA, hlt, hc 0 _ rfl, hc 1 _ rfl, hc 2 _ rfl⟩
set_option maxRecDepth 100000 in
set_option maxHeartbeats 8000000 in
theorem Round_any (g : Grad) (L : Option Addr) (lc : Nat) (l : List MoE) (day : Int) (w : World) (hT : Tab w) (hN : Mos w L lc l) :
    Calls Tryz.prog 11 #[.agg #[.int .i64 g.t0, .int .i64 g.t1, .int .i64 g.t2, .int .i64 g.p0, .int .i64 g.p1, .int .i64 g.p2, .int .i64 g.m0, .int .i64 g.m1, .int .i64 g.m2, .int .i64 g.m3], .slice L l.length lc, .int .i64 day] w (RouPost w g l day) := by
  have hsz := hN.size
  have hN := Lib.hid (fun w' (h : Below w.heap.size w w') => hN.below h)
  have hT := Lib.hid (fun w' (h : Below w.heap.size w w') => hT.below h)
  by_cases h0 : Cal.gradErr g = 0
  · have hp0 := Lib.hid h0
    by_cases hbig : 60 < l.length
    · have hfin : Hid (Cal.rouE g l day = 8) := by show _ = _; unfold Cal.rouE Cal.mosE; rw [if_pos h0, if_pos hbig]; rfl
      clear h0
      have g1 := Lib.hid (BoxAt.new w #[.int .i64 g.t0, .int .i64 g.t1, .int .i64 g.t2, .int .i64 g.p0, .int .i64 g.p1, .int .i64 g.p2, .int .i64 g.m0, .int .i64 g.m1, .int .i64 g.m2, .int .i64 g.m3] 25)
      have hb := Lib.hid (below_alloc w (.cells #[.int .i64 g.t0, .int .i64 g.t1, .int .i64 g.t2, .int .i64 g.p0, .int .i64 g.p1, .int .i64 g.p2, .int .i64 g.m0, .int .i64 g.m1, .int .i64 g.m2, .int .i64 g.m3] 25))
      go_enter Tryz.func11, Tryz.ntmps11
      go_wp2_with (refine wpGrd g1.out (.tmp 3) rfl ?_)
      refine (CheckGrading_any g _).mono ?_
      rintro e w1 ⟨rfl, hb1⟩
      have g1 := Lib.hid (g1.out.below hb1)
      have hb := Lib.hid (below_step hb.out hb1)
      clear hb1
      rw [hp0.out]
      go_wp2_with fail
      go_ret2
      exact rouPost_err hfin.out (by decide) hb.out
    · have hnE : Hid (Cal.mosE l = Cal.namesE Cal.ckM Cal.nmM [] l) := by show _ = _; unfold Cal.mosE; rw [if_neg hbig]
      have hEE : Hid (Cal.rouE g l day = if Cal.mosE l = 0 then (if 0 ≤ day ∧ day ≤ 200000 then 0 else 2) else Cal.mosE l) := by show _ = _; unfold Cal.rouE; rw [if_pos h0]
      have hlen : l.length ≤ 60 := by omega
      clear h0 hbig
      have g1 := Lib.hid (BoxAt.new w #[.int .i64 g.t0, .int .i64 g.t1, .int .i64 g.t2, .int .i64 g.p0, .int .i64 g.p1, .int .i64 g.p2, .int .i64 g.m0, .int .i64 g.m1, .int .i64 g.m2, .int .i64 g.m3] 25)
      have hb := Lib.hid (below_alloc w (.cells #[.int .i64 g.t0, .int .i64 g.t1, .int .i64 g.t2, .int .i64 g.p0, .int .i64 g.p1, .int .i64 g.p2, .int .i64 g.m0, .int .i64 g.m1, .int .i64 g.m2, .int .i64 g.m3] 25))
      go_enter Tryz.func11, Tryz.ntmps11
      go_wp2_with (refine wpGrd g1.out (.tmp 3) rfl ?_)
      refine (CheckGrading_any g _).mono ?_
      rintro e w1 ⟨rfl, hb1⟩
      have g1 := Lib.hid (g1.out.below hb1)
      have hb := Lib.hid (below_step hb.out hb1)
      clear hb1
      rw [hp0.out]
      have hmm := @run_makeMap Tryz.prog
      have hz1 : w.heap.size < w1.heap.size := g1.out.lt
      have hM := MapIs.made Tryz.prog 9 strLit w1
      have hI0 : Hid (RouI w g w1.heap.size ((l.take 0).map Cal.nmM) 0 (.slice none 0 0) (Cal.turnsT g l day 0) (w1.alloc (.map #[] 0))) :=
        ⟨below_step hb.out (below_alloc _ _), by omega, g1.out.alloc _, ⟨_, hM, SeenOf.start⟩, OwnL.nil _ _ _ _, by simp⟩
      have hN0 : Hid (NamesTo Cal.ckM Cal.nmM l 0) := rfl
      clear hM g1 hb
      go_wp2_with fail
      clear hmm
      generalize w1.heap.size = M at *
      go_loopg [10, 30] l.length (fun gk o i wr => ∃ k : Nat, gk + k = l.length ∧ i = .int .i64 k ∧ Hid (NamesTo Cal.ckM Cal.nmM l k) ∧ Hid (RouI w g M ((l.take k).map Cal.nmM) k o (Cal.turnsT g l day k) wr))
      case atStart => exact ⟨0, by omega, rfl, hN0, hI0⟩
      case round =>
        clear hI0 hN0
        obtain ⟨k, hgk, rfl, hnms, hI⟩ := hrel
        have hlo := hI.out.lo
        have hszr := hI.out.size
        obtain ⟨A10, c10, hv10, _⟩ := OwnL.form hI.out.out
        subst hv10
        rw [List.length_map] at hI ⊢
        have htl := Cal.turnsT_length g l day k
        by_cases hlt : k < l.length
        · have hk' : l[k]? = some l[k] := List.getElem?_eq_getElem hlt
          have hbad := Lib.hid (fun h => hnms.out.bad hlt h)
          have htw := Lib.hid (fun h h2 => hnms.out.twice hlt h h2)
          have hnx := Lib.hid (fun h h2 => hnms.out.next hlt h h2)
          have htk : Hid ((l.take (k + 1)).map Cal.nmM = (l.take k).map Cal.nmM ++ [Cal.nmM l[k]]) := by show _ = _; rw [List.take_succ_eq_append_getElem hlt, List.map_append]; rfl
          have hMB := Lib.hid (fun w' (h : Below w.heap.size w w') => (hN.out _ h).each k _ hk')
          have hnm := (hMB.out _ hI.out.fr).name
          have hsE := Cal.turnI_at (g := g) (day := day) hlt
          obtain ⟨b, oo, rfl, hbl, c0, c1, c2⟩ := (hN.out _ hI.out.fr).at_ hk'
          clear hk'
          have hkl : (k : Int) < (l.length : Int) := by omega
          have hk0 : (0 : Int) ≤ (k : Int) := by omega
          have hsz2 := Lib.hid hsE
          have hckz : Hid (Cal.ckM l[k] = Cal.monErr l[k].m) := rfl
          have hnmz : Hid (Cal.nmM l[k] = l[k].m.name.data.toList) := rfl
          clear hsE
          generalize l[k] = e at *
          have hI1 := Lib.hid (hI.out.below (below_alloc wr (.cells #[.string e.m.name, .string e.m.place, .slice e.V e.m.visits.length e.d] 31)))
          have hE1 := Lib.hid (BoxAt.new wr #[.string e.m.name, .string e.m.place, .slice e.V e.m.visits.length e.d] 31)
          go_wp2_with fail
          clear c0 c1 c2
          refine (CheckMonument_any e.V e.d e.m _ (hMB.out _ hI1.out.fr)).mono ?_
          rintro en w2 ⟨rfl, hb2⟩
          have hI2 := Lib.hid (hI1.out.below hb2)
          have hE2 := Lib.hid (hE1.out.below hb2)
          have hsw2 : wr.heap.size + 1 ≤ w2.heap.size := by have := hb2.size; simpa using this
          clear hb2 hI1 hE1 hI
          have e0 := hE2.out.c 0 _ rfl
          have e1 := hE2.out.c 1 _ rfl
          have e2 := hE2.out.c 2 _ rfl
          by_cases hck : Cal.monErr e.m = 0
          · have hckE := Lib.hid (show Cal.ckM e = 0 by rw [hckz.out]; exact hck)
            rw [hck]
            clear hck
            have hlk := hI2.out.look hnm
            by_cases hseen : Cal.nmM e ∈ (l.take k).map Cal.nmM
            · have hfin : Hid (Cal.rouE g l day = 5) := by show _ = _; rw [hEE.out, hnE.out, htw.out hckE.out hseen]; rfl
              have hdec : decide (e.m.name.data.toList ∈ (l.take k).map Cal.nmM) = true := by rw [← hnmz.out]; simpa using hseen
              rw [hdec] at hlk
              clear hseen hdec
              go_wp2_with fail
              go_ret2
              exact rouPost_err hfin.out (by decide) hI2.out.fr
            · have hnx2 := Lib.hid (hnx.out hckE.out hseen)
              have hdec : decide (e.m.name.data.toList ∈ (l.take k).map Cal.nmM) = false := by rw [← hnmz.out]; simpa using hseen
              rw [hdec] at hlk
              obtain ⟨w3, hrun, hI3, hg3, hsz3⟩ := hI2.out.update hnm (by omega)
              rw [← hnmz.out, ← htk.out] at hI3
              have hI3 := Lib.hid hI3
              have hE3 := Lib.hid (hE2.out.grown hg3 (by simp; omega))
              have f0 := hE3.out.c 0 _ rfl
              have f1 := hE3.out.c 1 _ rfl
              have f2 := hE3.out.c 2 _ rfl
              clear hseen hdec hg3 hsz3
              go_wp2_with (refine wpGrd hI3.out.pr (.tmp 3) rfl ?_)
              clear hrun hlk hI2 hE2 e0 e1 e2 f0 f1 f2
              refine (turnOf_any g e.V e.d e.m k day _ (hMB.out _ hI3.out.fr) (hT.out _ hI3.out.fr)).mono ?_
              rintro en w4 ⟨rfl, hb4⟩
              rw [← hsz2.out]
              have hI4 := Lib.hid (hI3.out.below hb4)
              clear hb4 hI3 hE3
              have hrs : Hid (Cal.rouS g l day k = (Cal.turnI g l day k).2) := rfl
              have hyes := Lib.hid (fun h => Cal.turnsT_yes (g := g) (l := l) (day := day) (k := k) h)
              have hno := Lib.hid (fun h => Cal.turnsT_no (g := g) (l := l) (day := day) (k := k) h)
              rcases htn : Cal.turnI g l day k with ⟨t, tb⟩
              rw [htn] at hrs hyes
              simp only at hrs hyes
              clear htn hsz2
              have hI5 := Lib.hid (hI4.out.below (below_alloc w4 (.cells #[.int .i64 t.grade, .int .i64 t.day, .int .i64 t.number] 120)))
              cases tb
              · go_wp2_with fail
                go_roundg (l.length - (k + 1))
                case measure => omega
                case rel => exact ⟨k + 1, by omega, by go_num, hnx2, by rw [hno.out hrs.out]; exact hI5⟩
              · have hT5 := Lib.hid (BoxAt.new w4 #[.int .i64 t.grade, .int .i64 t.day, .int .i64 t.number] 120)
                have t0 := hT5.out.c 0 _ rfl
                have t1 := hT5.out.c 1 _ rfl
                have t2 := hT5.out.c 2 _ rfl
                have hI6 := Lib.hid (hI5.out.below (below_alloc _ (.cells #[.int .i64 t.grade, .int .i64 t.day, .int .i64 t.number] 120)))
                have hsrc : Hid (RowsAt ((w4.alloc (.cells #[.int .i64 t.grade, .int .i64 t.day, .int .i64 t.number] 120)).alloc (.cells #[.int .i64 t.grade, .int .i64 t.day, .int .i64 t.number] 120)) (some ⟨w4.heap.size + 1, 0, none⟩) 3 ([t].map Turn.cells)) := by
                  have h := rowsAt_new (w4.alloc (.cells #[.int .i64 t.grade, .int .i64 t.day, .int .i64 t.number] 120)) [.int .i64 t.grade, .int .i64 t.day, .int .i64 t.number] 120
                  rw [World.size_alloc] at h
                  exact h
                go_wp2_with (at_builtin; go_must (refine wpList_append_rows elemTurn rfl _ _ rfl rfl rfl hI6.out.out hsrc.out rfl (turn_wid [t]) (turn_one [t]) (by simp; omega) (by decide) hI6.out.size ?_); intro u5 w5 hown5 hg5 _; have hI7 := Lib.hid (hI6.out.grown hg5 (by unfold TurnsL; rw [List.map_append]; exact hown5)); clear hg5 hown5 t0 t1 t2)
                go_roundg (l.length - (k + 1))
                case measure => omega
                case rel => exact ⟨k + 1, by omega, by go_num, hnx2, by rw [hyes.out hrs.out]; exact hI7⟩
          · have hE1' : Hid (Cal.mosE l = Cal.monErr e.m) := by show _ = _; rw [hnE.out, hbad.out (by rw [hckz.out]; exact hck), hckz.out]
            have hfin : Hid (Cal.rouE g l day = Cal.monErr e.m) := by show _ = _; rw [hEE.out, hE1'.out, if_neg hck]
            have hne := Lib.hid hck
            have hckb : (Cal.monErr e.m != 0) = true := by simpa using hck
            clear hck hE1'
            generalize Cal.monErr e.m = E at *
            go_wp2_with fail
            go_ret2
            exact rouPost_err hfin.out hne.out hI2.out.fr
        · obtain rfl : k = l.length := by omega
          have hE0 : Hid (Cal.mosE l = 0) := by show _ = _; rw [hnE.out]; exact hnms.out.stop (Nat.le_refl _)
          rw [hE0.out, if_pos rfl] at hEE
          by_cases hx : 0 ≤ day ∧ day ≤ 200000
          · rw [if_pos hx] at hEE
            obtain ⟨x0, x1⟩ := hx
            have hsort := Lib.hid (SortTurns_own wr (M + 1) _ (Cal.turnsT g l day l.length) hI.out.out (by omega))
            have hstd := Lib.hid (Cal.turns_sorted g l day)
            go_wp2_with first | (go_at_call 56; first | refine rin ?_ | refine rout ?_ | refine rany ?_) | ((first | (go_at_call 134) | (go_at_call 59) | (go_at_call 133) | (go_at_call 14) | (go_at_call 178) | (fail) | (go_at_call 139)); first | refine rin ?_ | refine rout ?_ | refine rany ?_)
            refine hsort.out.mono ?_
            rintro en w5 ⟨rfl, hown, hg5⟩
            have hbf := Lib.hid (hI.out.fr.trans ((grown_below hg5 (fun g e => (OwnL.lt hI.out.out g e).1) hI.out.size).mono (by omega)))
            clear hg5 hsort hI
            obtain ⟨st, hst0⟩ : ∃ st, st = (Cal.turnsT g l day l.length).mergeSort leT := ⟨_, rfl⟩
            rw [← hst0] at hown hstd
            have hstl : (Cal.turnsT g l day l.length).length = st.length := by rw [hst0, List.length_mergeSort]
            rw [hstl] at hown htl ⊢
            clear hst0 hstl
            have hrow : RowsAt w5 A10 3 (st.map Turn.cells) := by
              obtain ⟨A0, c0, hv, hr⟩ := OwnL.form hown
              simp only [Value.slice.injEq] at hv
              obtain ⟨rfl, -, -⟩ := hv
              exact hr
            have hrow := Lib.hid hrow
            have hJ0 : Hid (IntsL w5 w5.heap.size (.slice none 0 0) ((st.take 0).map Turn.number)) := OwnL.nil _ _ _ _
            have hbJ0 : Hid (Below w5.heap.size w5 w5) := Below.refl _ _
            clear hown
            go_wp2_with fail
            go_loopg [16, 68] st.length (fun gk o i wr => ∃ k : Nat, gk + k = st.length ∧ i = .int .i64 k ∧ Hid (IntsL wr w5.heap.size o ((st.take k).map Turn.number)) ∧ Hid (Below w5.heap.size w5 wr))
            case atStart => exact ⟨0, by omega, rfl, hJ0, hbJ0⟩
            case round =>
              clear hJ0 hbJ0
              obtain ⟨k, hgk2, rfl, hJ, hbJ⟩ := hrel
              obtain ⟨A16, c16, hv16, _⟩ := hJ.out.rows
              subst hv16
              by_cases hlt2 : k < st.length
              · have hk2 : st[k]? = some st[k] := List.getElem?_eq_getElem hlt2
                obtain ⟨b, oo, rfl, hbl, c0, c1, c2⟩ := turns_at (hrow.out.below hbJ.out) hk2
                have htk : Hid ((st.take (k + 1)).map Turn.number = (st.take k).map Turn.number ++ [st[k].number]) := by show _ = _; rw [List.take_succ_eq_append_getElem hlt2, List.map_append]; rfl
                have hkl : (k : Int) < (st.length : Int) := by omega
                have hk0 : (0 : Int) ≤ (k : Int) := by omega
                have hl60 : ((st.take k).map Turn.number).length ≤ 1000000 := by rw [List.length_map, List.length_take]; omega
                obtain ⟨zs, hzs⟩ : ∃ zs, zs = (st.take k).map Turn.number := ⟨_, rfl⟩
                rw [← hzs] at hJ htk hl60 ⊢
                clear hzs hk2
                generalize st[k] = t at *
                have hJ2 := Lib.hid (IntsL.below hJ.out (below_alloc wr (.cells #[.int .i64 t.grade, .int .i64 t.day, .int .i64 t.number] 120)))
                have hb2 := Lib.hid (below_step hbJ.out (below_alloc wr (.cells #[.int .i64 t.grade, .int .i64 t.day, .int .i64 t.number] 120)))
                have t2 := (BoxAt.new wr #[.int .i64 t.grade, .int .i64 t.day, .int .i64 t.number] 120).c 2 _ rfl
                go_wp2_with (at_builtin; (refine wpPushI t.number hJ2.out hb2.out.size hl60 rfl _ _ rfl rfl (by rw [World.size_alloc]; rfl) ?_; intro v' w6 hown6 hb6; have hJ3 := Lib.hid hown6; have hb3 := Lib.hid (hb2.out.trans hb6)))
                go_roundg (st.length - (k + 1))
                case measure => omega
                case rel => exact ⟨k + 1, by omega, by go_num, by rw [htk.out]; exact hJ3, hb3⟩
              · obtain rfl : k = st.length := by omega
                rw [List.take_length, hstd.out] at hJ
                have hbE := Lib.hid (hbf.out.trans (hbJ.out.mono hbf.out.size))
                have hwl := hbf.out.size
                rw [List.take_length, hstd.out]
                go_wp2_with fail
                go_ret2
                exact ⟨.slice A16 (Cal.rouO g l day).length c16, by rw [hEE.out]; first | done | rfl, by unfold Cal.rouL; rw [hEE.out, if_pos rfl]; exact hJ.out.less hwl, hbE.out⟩
          · rw [if_neg hx] at hEE
            have hx' : day < 0 ∨ 200000 < day := by omega
            clear hx
            go_wp2_with first | (go_at_call 56; first | refine rin ?_ | refine rout ?_ | refine rany ?_) | ((first | (go_at_call 134) | (go_at_call 59) | (go_at_call 133) | (go_at_call 14) | (go_at_call 178) | (fail) | (go_at_call 139)); first | refine rin ?_ | refine rout ?_ | refine rany ?_)
            go_ret2
            exact rouPost_err hEE.out (by decide) hI.out.fr
  · have hp1 : (Cal.gradErr g != 0) = true := by simpa using h0
    have hfin : Hid (Cal.rouE g l day = Cal.gradErr g) := by show _ = _; unfold Cal.rouE; rw [if_neg h0]
    have hne := Lib.hid h0
    clear h0
    have g1 := Lib.hid (BoxAt.new w #[.int .i64 g.t0, .int .i64 g.t1, .int .i64 g.t2, .int .i64 g.p0, .int .i64 g.p1, .int .i64 g.p2, .int .i64 g.m0, .int .i64 g.m1, .int .i64 g.m2, .int .i64 g.m3] 25)
    have hb := Lib.hid (below_alloc w (.cells #[.int .i64 g.t0, .int .i64 g.t1, .int .i64 g.t2, .int .i64 g.p0, .int .i64 g.p1, .int .i64 g.p2, .int .i64 g.m0, .int .i64 g.m1, .int .i64 g.m2, .int .i64 g.m3] 25))
    go_enter Tryz.func11, Tryz.ntmps11
    go_wp2_with (refine wpGrd g1.out (.tmp 3) rfl ?_)
    refine (CheckGrading_any g _).mono ?_
    rintro e w1 ⟨rfl, hb1⟩
    have g1 := Lib.hid (g1.out.below hb1)
    have hb := Lib.hid (below_step hb.out hb1)
    clear hb1
    go_wp2_with fail
    go_ret2
    exact rouPost_err hfin.out hne.out hb.out
end Go.Proofs.YtbegbajlagcbdaaGreatDoor
