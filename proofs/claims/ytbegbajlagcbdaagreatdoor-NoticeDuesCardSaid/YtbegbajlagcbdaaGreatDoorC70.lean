/- Chapter 8 and what it rests on: definitions and walks, part 70. -/
import Derived.Test.YtbegbajlagcbdaaGreatDoorC68
import Derived.Test.YtbegbajlagcbdaaGreatDoorC69
import Derived.Deep.LoopGhost
import Derived.Deep.CutRange
import Derived.Deep.RegionHeld3
namespace Go.Proofs.YtbegbajlagcbdaaGreatDoor
open Go Go.RowKit
theorem Cal.ntsE_len {p : Proc} {l : List NtE} (h : Cal.ntsE p l = 0) : l.length ≤ 40 := by
  unfold Cal.ntsE at h
  split at h
  · omega
  · omega
theorem Cal.ntsE_ok {p : Proc} {l : List NtE} (h : Cal.ntsE p l = 0) : ∀ e ∈ l, (Cal.checkS p e.n).2 = 0 := by
  unfold Cal.ntsE at h
  split at h
  · omega
  · exact fun e he => Cal.namesE_ok h e he
/-! Parts of an own slice of numbers. -/
theorem RowsAt.dropI {w : World} {A : Option Addr} {zs : List Int} (h : RowsAt w A 1 (intRows zs)) (k : Nat) : RowsAt w (A.map (·.add (k * 1))) 1 (intRows (zs.drop k)) := fun j r hr => by
  unfold intRows at hr
  rw [List.map_drop, List.getElem?_drop] at hr
  obtain ⟨b, o, hA, hb, hc⟩ := h _ r hr
  refine ⟨b, o + k, ?_, hb, fun i v hv => ?_⟩
  · rw [hA, Option.map_some, addr_add, Nat.mul_one]
  · have := hc i v hv
    rw [show o + k + (j * 1 + i) = o + ((k + j) * 1 + i) by omega]
    exact this
theorem RowsAt.farI {W W' : World} {row : Option Nat} {A : Option Addr} {m : Nat} {rows : List (List Value)} (h : RowsAt W A m rows) (hg : W.grownBy W' row) (hA : ∀ a, A = some a → some a.block ≠ row) : RowsAt W' A m rows := fun k r hk => by
  obtain ⟨b, o, h1, h2, h3⟩ := h k r hk
  exact ⟨b, o, h1, Nat.lt_of_lt_of_le h2 hg.size, fun j v hv => (World.cell?_of_block (a := ⟨b, o + (k * m + j), none⟩) (hg.block b h2 (hA _ h1))).trans (h3 j v hv)⟩
theorem IntsL.capI {w : World} {B c : Nat} {A : Option Addr} {zs : List Int} (h : IntsL w B (.slice A zs.length c) zs) : zs.length ≤ c := by
  rcases h.own.2 with ⟨h1, h2⟩ | ⟨g, cap, cur, hv, _, _, h3, _⟩
  · omega
  · simp only [Value.slice.injEq, true_and] at hv; omega
theorem IntsL.rowsI {w : World} {B c : Nat} {A : Option Addr} {zs : List Int} (h : IntsL w B (.slice A zs.length c) zs) : RowsAt w A 1 (intRows zs) := by
  obtain ⟨A0, c0, hv, hr⟩ := h.rows
  simp only [Value.slice.injEq] at hv
  obtain ⟨rfl, -, rfl⟩ := hv
  exact hr
theorem IntsL.hiI {w : World} {B c : Nat} {A : Option Addr} {zs : List Int} (h : IntsL w B (.slice A zs.length c) zs) {k : Nat} (hk : k ≤ zs.length) :
    ∃ A1 c1, (∀ w', (Instr.slice 32 (.slice A zs.length c) none (some (.int .i64 k)) none).run Tryz.prog w' = .ok (.slice A1 k c1) w') ∧ RowsAt w A1 1 (intRows (zs.take k)) := by
  obtain ⟨A1, c1, h1, h2⟩ := cut_headI undIntsI sizeIntI (intRows_length zs).symm h.rowsI h.capI hk
  exact ⟨A1, c1, h1, by unfold intRows at h2 ⊢; rw [List.map_take]; exact h2⟩
theorem IntsL.loI {w : World} {B c : Nat} {A : Option Addr} {zs : List Int} (h : IntsL w B (.slice A zs.length c) zs) {k : Nat} (hk : k ≤ zs.length) :
    ∃ A2 c2, (∀ w', (Instr.slice 32 (.slice A zs.length c) (some (.int .i64 k)) none none).run Tryz.prog w' = .ok (.slice A2 (zs.length - k) c2) w') ∧ RowsAt w A2 1 (intRows (zs.drop k)) := by
  have hr := h.rowsI
  have hcap := h.capI
  refine ⟨if c = k then A else A.map (·.add (k * 1)), c - k, fun w' => ?_, ?_⟩
  · rw [run_slice_l w' 32 A zs.length c undIntsI .i64 k (by omega) (by omega), sizeIntI]
    simp [Result.andThen, sliced]
  · split
    · have : zs.drop k = [] := List.drop_eq_nil_of_le (by omega)
      rw [this]
      exact RowsAt.nil _ _ _
    · exact hr.dropI k
/-- Whether a number's deadline comes behind one of a list's. -/
def endsOf (p : Proc) (l : List NtE) (zs : List Nat) : List Int := zs.map fun i => (Cal.stI p l i).deadline
def numsOf (zs : List Nat) : List Int := zs.map fun (i : Nat) => (i : Int)
theorem numsOf_ins (zs : List Nat) (k q : Nat) : numsOf (zs.take q ++ [k] ++ zs.drop q) = (numsOf zs).take q ++ [(k : Int)] ++ (numsOf zs).drop q := by unfold numsOf; simp
theorem endsOf_ins (p : Proc) (l : List NtE) (zs : List Nat) (k q : Nat) : endsOf p l (zs.take q ++ [k] ++ zs.drop q) = (endsOf p l zs).take q ++ [(Cal.stI p l k).deadline] ++ (endsOf p l zs).drop q := by unfold endsOf; simp
structure DrI (w : World) (A : Option Addr) (c : Nat) (p : Proc) (x y : Int) (o e : Value) (zo ze : List Int) (wr : World) : Prop where
  fr : Below w.heap.size w wr
  pr : BoxAt wr w.heap.size [.int .i64 p.runs.m, .int .i64 p.runs.d, .bool p.runs.k, .int .i64 p.obj.m, .int .i64 p.obj.d, .bool p.obj.k, .int .i64 p.wait.m, .int .i64 p.wait.d, .bool p.wait.k, .int .i64 p.exts, .int .i64 p.longest, .slice A p.hols.length c]
  bt : BoxAt wr (w.heap.size + 1) [.int .i64 x, .int .i64 y]
  out : IntsL wr (w.heap.size + 1 + 1) o zo
  ends : IntsL wr (w.heap.size + 1 + 1) e ze
  size : w.heap.size + 1 + 1 ≤ wr.heap.size
theorem DrI.below {w : World} {A : Option Addr} {c : Nat} {p : Proc} {x y : Int} {o e : Value} {zo ze : List Int} {wr wr' : World} (h : DrI w A c p x y o e zo ze wr) (hb : Below wr.heap.size wr wr') : DrI w A c p x y o e zo ze wr' :=
  ⟨below_step h.fr hb, h.pr.below hb, h.bt.below hb, IntsL.below h.out hb, IntsL.below h.ends hb, Nat.le_trans h.size hb.size⟩
theorem DrI.put {w : World} {A : Option Addr} {c : Nat} {p : Proc} {x y : Int} {o e v : Value} {zo ze zs : List Int} {wr wr' : World} (h : DrI w A c p x y o e zo ze wr) (hb : Below wr.heap.size wr wr') (ho : IntsL wr' wr.heap.size v zs) : DrI w A c p x y v e zs ze wr' :=
  ⟨below_step h.fr hb, h.pr.below hb, h.bt.below hb, ho.less h.size, IntsL.below h.ends hb, Nat.le_trans h.size hb.size⟩
theorem DrI.pute {w : World} {A : Option Addr} {c : Nat} {p : Proc} {x y : Int} {o e v : Value} {zo ze zs : List Int} {wr wr' : World} (h : DrI w A c p x y o e zo ze wr) (hb : Below wr.heap.size wr wr') (ho : IntsL wr' wr.heap.size v zs) : DrI w A c p x y o v zo zs wr' :=
  ⟨below_step h.fr hb, h.pr.below hb, h.bt.below hb, IntsL.below h.out hb, ho.less h.size, Nat.le_trans h.size hb.size⟩
/-- The deadlines from a place on come later. -/
def laterFrom (ze : List Int) (d : Int) (q : Nat) : Prop := ∀ (j : Nat) z, q ≤ j → ze[j]? = some z → d < z
set_option maxRecDepth 100000 in
set_option maxHeartbeats 8000000 in
theorem DueR_any (A : Option Addr) (c : Nat) (p : Proc) (L : Option Addr) (lc : Nat) (l : List NtE) (x y : Int) (w : World) (hl : Hols w A p.hols) (hN : Nts w L lc l) (hn0 : Cal.ntsE p l = 0) :
    Calls Tryz.prog 23 #[.agg #[.int .i64 p.runs.m, .int .i64 p.runs.d, .bool p.runs.k, .int .i64 p.obj.m, .int .i64 p.obj.d, .bool p.obj.k, .int .i64 p.wait.m, .int .i64 p.wait.d, .bool p.wait.k, .int .i64 p.exts, .int .i64 p.longest, .slice A p.hols.length c], .slice L l.length lc, .agg #[.int .i64 x, .int .i64 y]] w fun e w' => ∃ v, e = .returned v ∧ IntsL w' w.heap.size v (Cal.dueO p l x y) ∧ Below w.heap.size w w' := by
  have hlen := Cal.ntsE_len hn0
  have hok := Lib.hid (Cal.ntsE_ok hn0)
  have hl := Lib.hid (fun w' (h : Below w.heap.size w w') => hl.below h)
  have hN := Lib.hid (fun w' (h : Below w.heap.size w w') => hN.below h)
  clear hn0
  obtain ⟨g1, g2, hb⟩ := start2p w A c p x y
  have hI0 : Hid (DrI w A c p x y (.slice none 0 0) (.slice none 0 0) (numsOf (Cal.dueI (Cal.dueK p l) (Cal.duesB p l x y) 0)) (endsOf p l (Cal.dueI (Cal.dueK p l) (Cal.duesB p l x y) 0)) ((w.alloc (.cells #[.int .i64 p.runs.m, .int .i64 p.runs.d, .bool p.runs.k, .int .i64 p.obj.m, .int .i64 p.obj.d, .bool p.obj.k, .int .i64 p.wait.m, .int .i64 p.wait.d, .bool p.wait.k, .int .i64 p.exts, .int .i64 p.longest, .slice A p.hols.length c] 47)).alloc (.cells #[.int .i64 x, .int .i64 y] 49))) := by
    rw [Cal.dueI_zero]
    exact ⟨hb.out, g1.out, g2.out, OwnL.nil _ _ _ _, OwnL.nil _ _ _ _, by simp⟩
  clear g1 g2 hb
  go_enter Tryz.func23, Tryz.ntmps23
  go_wp2_with fail
  go_loopg [7, 8, 9] l.length (fun gk o e i wr => ∃ k : Nat, gk + k = l.length ∧ i = .int .i64 k ∧ Hid (DrI w A c p x y o e (numsOf (Cal.dueI (Cal.dueK p l) (Cal.duesB p l x y) k)) (endsOf p l (Cal.dueI (Cal.dueK p l) (Cal.duesB p l x y) k)) wr))
  case atStart => exact ⟨0, by omega, rfl, hI0⟩
  case round =>
    clear hI0
    obtain ⟨k, hgk, rfl, hI⟩ := hrel
    by_cases hlt : k < l.length
    · have hk' : l[k]? = some l[k] := List.getElem?_eq_getElem hlt
      obtain ⟨ha, hnm⟩ := (hN.out _ hI.out.fr).each k _ hk'
      have hat := Lib.hid (fun w1 (h : Below w.heap.size w w1) => At_any A c p l[k].N l[k].d l[k].n 200000 w1 (hl.out _ h) ((hN.out _ h).each k _ hk').1 (hok.out _ (List.getElem_mem hlt)))
      obtain ⟨b, oo, rfl, hbl, c0, c1, c2⟩ := (hN.out _ hI.out.fr).at_ hk'
      have hsE : Hid (Cal.stI p l k = Cal.stAt p l[k].n 200000) := Cal.stI_at hlt
      clear ha hk'
      have hkl : (k : Int) < (l.length : Int) := by omega
      have hk0 : (0 : Int) ≤ (k : Int) := by omega
      obtain ⟨s, hs⟩ : ∃ s, Cal.stI p l k = s := ⟨_, rfl⟩
      have hsE := hsE.out
      rw [hs] at hsE
      rw [← hsE] at hat
      have hsz := Lib.hid hs
      clear hsE hs
      generalize l[k] = e at *
      obtain ⟨A7, c7, hv7, _⟩ := hI.out.out.rows
      obtain ⟨A8, c8, hv8, _⟩ := hI.out.ends.rows
      subst hv7 hv8
      have hzl1 : (numsOf (Cal.dueI (Cal.dueK p l) (Cal.duesB p l x y) k)).length = (Cal.dueI (Cal.dueK p l) (Cal.duesB p l x y) k).length := by unfold numsOf; simp
      have hzl2 : (endsOf p l (Cal.dueI (Cal.dueK p l) (Cal.duesB p l x y) k)).length = (Cal.dueI (Cal.dueK p l) (Cal.duesB p l x y) k).length := by unfold endsOf; simp
      have hzl3 := Cal.dueI_length (Cal.dueK p l) (Cal.duesB p l x y) k
      have hno := Lib.hid (fun h => Cal.dueI_no (K := Cal.dueK p l) (S := Cal.duesB p l x y) (n := k) h)
      have hins := Lib.hid (fun (q : Nat) h h1 h2 h3 => Cal.dueI_ins (K := Cal.dueK p l) (S := Cal.duesB p l x y) (i := k) (k := q) h h1 h2 h3)
      have hdS : Hid (Cal.duesB p l x y k = (decide (s.phase = 1) && (decide (x ≤ s.deadline) && decide (s.deadline ≤ y)))) := by show _ = _; unfold Cal.duesB; rw [hsz.out]
      obtain ⟨ds, hds⟩ : ∃ ds, ds = Cal.dueI (Cal.dueK p l) (Cal.duesB p l x y) k := ⟨_, rfl⟩
      rw [← hds] at hzl1 hzl2 hzl3 hno hins hI ⊢
      clear hds
      obtain ⟨zo, hzo0⟩ : ∃ zo, zo = numsOf ds := ⟨_, rfl⟩
      obtain ⟨ze, hze0⟩ : ∃ ze, ze = endsOf p l ds := ⟨_, rfl⟩
      rw [← hzo0] at hI hzl1 ⊢
      rw [← hze0] at hI hzl2 ⊢
      have hzo := Lib.hid hzo0
      have hze := Lib.hid hze0
      have hzo40 : zo.length ≤ 40 := by omega
      have hze40 : ze.length ≤ 40 := by omega
      have hzd : Hid (zo.length = ds.length ∧ ze.length = zo.length) := ⟨hzl1, by omega⟩
      clear hzo0 hze0 hzl1 hzl2 hzl3
      go_upto_region 5 with fail
      go_cut [10] from 12 to 77 (fun t wc => ∃ bs, t = .pointer (some ⟨bs, 0, none⟩) ∧ Hid (BoxAt wc bs [.int .i64 s.phase, .int .i64 s.deadline, .int .i64 s.object, .int .i64 s.last, .int .i64 s.objected, .int .i64 s.extended]) ∧ Hid (DrI w A c p x y (.slice A7 zo.length c7) (.slice A8 ze.length c8) zo ze wc))
      case first =>
        have hdr : Below wr.heap.size wr wr.drew := (Below.refl _ _).drew
        refine wp_region_held_drew (S := (fun w' => BoxAt w' w.heap.size [.int .i64 p.runs.m, .int .i64 p.runs.d, .bool p.runs.k, .int .i64 p.obj.m, .int .i64 p.obj.d, .bool p.obj.k, .int .i64 p.wait.m, .int .i64 p.wait.d, .bool p.wait.k, .int .i64 p.exts, .int .i64 p.longest, .slice A p.hols.length c] ∧ (w'.cell? ⟨b, oo + k * 3, none⟩ = some (.string e.n.name) ∧ w'.cell? ⟨b, oo + k * 3 + 1, none⟩ = some (.int .i64 e.n.opened) ∧ w'.cell? ⟨b, oo + k * 3 + 2, none⟩ = some (.slice e.N e.n.acts.length e.d)))) (by kernel_rfl) ⟨hI.out.pr.below hdr, c0, c1, c2⟩ (fun hHeld => ?_)
        have hI := Lib.hid (hI.out.below hdr)
        have hbl : b < wr.drew.heap.size := hbl
        have c0 : wr.drew.cell? ⟨b, oo + k * 3, none⟩ = some (.string e.n.name) := c0
        have c1 : wr.drew.cell? ⟨b, oo + k * 3 + 1, none⟩ = some (.int .i64 e.n.opened) := c1
        have c2 : wr.drew.cell? ⟨b, oo + k * 3 + 2, none⟩ = some (.slice e.N e.n.acts.length e.d) := c2
        clear hdr
        generalize wr.drew = w4 at *
        (refine wpAnyH_take (i := 0) (v := _) rfl (by kernel_rfl) (by decide +kernel) (by decide +kernel) (fun _ _ _ h => h) (yieldsIf_load_mid (by kernel_rfl) 47 _ rfl (w.heap.size) 0 (by kernel_rfl) [.int .i64 p.runs.m, .int .i64 p.runs.d, .bool p.runs.k, .int .i64 p.obj.m, .int .i64 p.obj.d, .bool p.obj.k, .int .i64 p.wait.m, .int .i64 p.wait.d, .bool p.wait.k, .int .i64 p.exts, .int .i64 p.longest, .slice A p.hols.length c] _ (fun _ h => h.1.range) Tryz.underlying47 rfl prSize) (by assumption) ?_; (try simp only [Act.put]); (try simp only [List.setIfInBounds_toArray]); (try simp only [List.set_cons_zero, List.set_cons_succ]))
        (refine tkH 1 (v := ?_) ?_ ?_; rotate_left; focus (intro w' hSw; (try dsimp only at hSw); go_simp; (try with_reducible rfl)); (try simp only [Act.put, List.setIfInBounds_toArray, List.set_cons_zero, List.set_cons_succ]))
        (refine tkH 2 (v := ?_) ?_ ?_; rotate_left; focus (intro w' hSw; (try dsimp only at hSw); go_simp; (try with_reducible rfl)); (try simp only [Act.put, List.setIfInBounds_toArray, List.set_cons_zero, List.set_cons_succ]))
        (refine tkH 3 (v := ?_) ?_ ?_; rotate_left; focus (intro w' hSw; (try dsimp only at hSw); go_simp; (try with_reducible rfl)); (try simp only [Act.put, List.setIfInBounds_toArray, List.set_cons_zero, List.set_cons_succ]))
        (refine tkH 4 (v := ?_) ?_ ?_; rotate_left; focus (intro w' hSw; (try dsimp only at hSw); go_simp; (try with_reducible rfl)); (try simp only [Act.put, List.setIfInBounds_toArray, List.set_cons_zero, List.set_cons_succ]))
        (refine wpAnyH_ready (rs := [5, 6]) (by decide +kernel) (by simp) ?_; refine AllReadyH.cons rfl (fun K hK => ?_) (AllReadyH.cons rfl (fun K hK => ?_) AllReadyH.nil))
        · (rw [if_pos (by kernel_rfl)]; go_simp)
          refine (hat.out _ hI.out.fr).mono ?_
          rintro en w5 ⟨rfl, hb5⟩
          have hx := Lib.hid hb5
          clear hb5
          go_simp
          (refine hK.out _ _ ⟨hI.out.pr.below hx.out, (hx.out.cell (p := ⟨b, oo + k * 3, none⟩) hbl).trans c0, (hx.out.cell (p := ⟨b, oo + k * 3 + 1, none⟩) hbl).trans c1, (hx.out.cell (p := ⟨b, oo + k * 3 + 2, none⟩) hbl).trans c2⟩ (fun hHeld => ?_); clear hK K; (try simp only [Act.put]); (try simp only [List.setIfInBounds_toArray]); (try simp only [List.set_cons_zero, List.set_cons_succ]))
          (refine wpAnyH_ready (rs := [6]) (by decide +kernel) (by simp) ?_; refine AllReadyH.cons rfl (fun K hK => ?_) AllReadyH.nil; rw [if_pos (by kernel_rfl)]; go_simp)
          have h8 := Lib.hid (BoxAt.new w5 #[.int .i64 0, .int .i64 0, .int .i64 0, .int .i64 0, .int .i64 0, .int .i64 0] 145)
          have hx2 := Lib.hid (hx.out.alloc hx.out.size (.cells #[.int .i64 0, .int .i64 0, .int .i64 0, .int .i64 0, .int .i64 0, .int .i64 0] 145))
          (refine hK.out _ _ ⟨hI.out.pr.below hx2.out, (hx2.out.cell (p := ⟨b, oo + k * 3, none⟩) hbl).trans c0, (hx2.out.cell (p := ⟨b, oo + k * 3 + 1, none⟩) hbl).trans c1, (hx2.out.cell (p := ⟨b, oo + k * 3 + 2, none⟩) hbl).trans c2⟩ (fun hHeld => ?_); clear hK K; (try simp only [Act.put]); (try simp only [List.setIfInBounds_toArray]); (try simp only [List.set_cons_zero, List.set_cons_succ]))
          have hxs := hx.out.size
          refine wpAnyH_ready (rs := [7]) (by decide +kernel) (by simp) ?_
          refine AllReadyH.cons rfl (fun K hK => ?_) AllReadyH.nil
          rw [if_pos (by kernel_rfl)]
          refine wp_store_mid 145 (.tmp 10) (.tmp 23) rfl (w5.heap.size) 0 #[.int .i64 s.phase, .int .i64 s.deadline, .int .i64 s.object, .int .i64 s.last, .int .i64 s.objected, .int .i64 s.extended] (by rfl) (by rfl) (by exact h8.out.there) rsSize (by kernel_rfl) ?_
          have hg8 := grown_setCells (w5.heap.size) [.int .i64 s.phase, .int .i64 s.deadline, .int .i64 s.object, .int .i64 s.last, .int .i64 s.objected, .int .i64 s.extended] 0 (w5.alloc (.cells #[.int .i64 0, .int .i64 0, .int .i64 0, .int .i64 0, .int .i64 0, .int .i64 0] 145))
          have h8b := Lib.hid (h8.out.put [.int .i64 s.phase, .int .i64 s.deadline, .int .i64 s.object, .int .i64 s.last, .int .i64 s.objected, .int .i64 s.extended] rfl)
          have hxf := below_of_grownB hx2.out hg8 (by omega)
          have hxF := Lib.hid hxf
          go_simp
          (refine hK.out _ _ ⟨hI.out.pr.below hxF.out, (hxF.out.cell (p := ⟨b, oo + k * 3, none⟩) hbl).trans c0, (hxF.out.cell (p := ⟨b, oo + k * 3 + 1, none⟩) hbl).trans c1, (hxF.out.cell (p := ⟨b, oo + k * 3 + 2, none⟩) hbl).trans c2⟩ (fun hHeld => ?_); clear hK K; (try simp only [Act.put]); (try simp only [List.setIfInBounds_toArray]); (try simp only [List.set_cons_zero, List.set_cons_succ]))
          refine wpAnyH_done (by kernel_rfl) ?_ _
          clear hHeld
          go_wp2_with fail
          go_meet
          exact ⟨_, rfl, h8b, Lib.hid (hI.out.below hxF.out)⟩
        · (rw [if_pos (by kernel_rfl)]; go_simp)
          have h8 := Lib.hid (BoxAt.new w4 #[.int .i64 0, .int .i64 0, .int .i64 0, .int .i64 0, .int .i64 0, .int .i64 0] 145)
          have hx := Lib.hid (below_alloc w4 (.cells #[.int .i64 0, .int .i64 0, .int .i64 0, .int .i64 0, .int .i64 0, .int .i64 0] 145))
          (refine hK.out _ _ ⟨hI.out.pr.below hx.out, (hx.out.cell (p := ⟨b, oo + k * 3, none⟩) hbl).trans c0, (hx.out.cell (p := ⟨b, oo + k * 3 + 1, none⟩) hbl).trans c1, (hx.out.cell (p := ⟨b, oo + k * 3 + 2, none⟩) hbl).trans c2⟩ (fun hHeld => ?_); clear hK K; (try simp only [Act.put]); (try simp only [List.setIfInBounds_toArray]); (try simp only [List.set_cons_zero, List.set_cons_succ]))
          (refine wpAnyH_ready (rs := [5]) (by decide +kernel) (by simp) ?_; refine AllReadyH.cons rfl (fun K hK => ?_) AllReadyH.nil; rw [if_pos (by kernel_rfl)]; go_simp)
          refine (hat.out _ (below_step hI.out.fr hx.out)).mono ?_
          rintro en w5 ⟨rfl, hb5⟩
          have h8 := Lib.hid (h8.out.below hb5)
          have hx2 := Lib.hid (below_step hx.out hb5)
          clear hb5
          go_simp
          (refine hK.out _ _ ⟨hI.out.pr.below hx2.out, (hx2.out.cell (p := ⟨b, oo + k * 3, none⟩) hbl).trans c0, (hx2.out.cell (p := ⟨b, oo + k * 3 + 1, none⟩) hbl).trans c1, (hx2.out.cell (p := ⟨b, oo + k * 3 + 2, none⟩) hbl).trans c2⟩ (fun hHeld => ?_); clear hK K; (try simp only [Act.put]); (try simp only [List.setIfInBounds_toArray]); (try simp only [List.set_cons_zero, List.set_cons_succ]))
          have hxs := hx2.out.size
          refine wpAnyH_ready (rs := [7]) (by decide +kernel) (by simp) ?_
          refine AllReadyH.cons rfl (fun K hK => ?_) AllReadyH.nil
          rw [if_pos (by kernel_rfl)]
          refine wp_store_mid 145 (.tmp 10) (.tmp 23) rfl (w4.heap.size) 0 #[.int .i64 s.phase, .int .i64 s.deadline, .int .i64 s.object, .int .i64 s.last, .int .i64 s.objected, .int .i64 s.extended] (by rfl) (by rfl) (by exact h8.out.there) rsSize (by kernel_rfl) ?_
          have hg8 := grown_setCells (w4.heap.size) [.int .i64 s.phase, .int .i64 s.deadline, .int .i64 s.object, .int .i64 s.last, .int .i64 s.objected, .int .i64 s.extended] 0 (w5)
          have h8b := Lib.hid (h8.out.put [.int .i64 s.phase, .int .i64 s.deadline, .int .i64 s.object, .int .i64 s.last, .int .i64 s.objected, .int .i64 s.extended] rfl)
          have hxf := below_of_grownB hx2.out hg8 (by omega)
          have hxF := Lib.hid hxf
          go_simp
          (refine hK.out _ _ ⟨hI.out.pr.below hxF.out, (hxF.out.cell (p := ⟨b, oo + k * 3, none⟩) hbl).trans c0, (hxF.out.cell (p := ⟨b, oo + k * 3 + 1, none⟩) hbl).trans c1, (hxF.out.cell (p := ⟨b, oo + k * 3 + 2, none⟩) hbl).trans c2⟩ (fun hHeld => ?_); clear hK K; (try simp only [Act.put]); (try simp only [List.setIfInBounds_toArray]); (try simp only [List.set_cons_zero, List.set_cons_succ]))
          refine wpAnyH_done (by kernel_rfl) ?_ _
          clear hHeld
          go_wp2_with fail
          go_meet
          exact ⟨_, rfl, h8b, Lib.hid (hI.out.below hxF.out)⟩
      case rest =>
      clear hI c0 c1 c2 hbl hat
      obtain ⟨bs, rfl, h10, hI⟩ := hcut
      have d0 := h10.out.c 0 _ rfl
      have d1 := h10.out.c 1 _ rfl
      have k0 := hI.out.bt.c 0 _ rfl
      have k1 := hI.out.bt.c 1 _ rfl
      by_cases hph : s.phase = 1
      · have hphb : (s.phase != 1) = false := by simpa using hph
        by_cases hin : x ≤ s.deadline ∧ s.deadline ≤ y
        · obtain ⟨h1, h2⟩ := hin
          have hdT : Hid (Cal.duesB p l x y k = true) := by show _ = _; rw [hdS.out]; simp [hph, h1, h2]
          have hq0 : Hid (laterFrom ze s.deadline zo.length) := fun j z hj hz => by
            have := (List.getElem?_eq_some_iff.1 hz).1
            have := hzd.out.2
            omega
          clear hph
          go_wp2_with ((first | (go_at_call 134) | (go_at_call 59) | (go_at_call 133) | (go_at_call 14) | (go_at_call 178) | (fail) | (go_at_call 139)); first | refine rin ?_ | refine rout ?_ | refine rany ?_)
          clear d0 k0 k1 hphb
          go_loopg [11] zo.length (fun gq i wi => ∃ n : Nat, gq ≤ zo.length ∧ i = .int .i64 gq ∧ Hid (laterFrom ze s.deadline gq) ∧ wi = wc.drewN n)
          case atStart => exact ⟨0, Nat.le_refl _, rfl, hq0, rfl⟩
          case round =>
            clear hq0
            obtain ⟨n, hq, rfl, hlat, rfl⟩ := hrel
            go_upto_region 8 with fail
            go_cut [50] from 39 to 52 (fun bq wx => ∃ bb : Bool, bq = .bool bb ∧ Hid (bb = true → 0 < gk ∧ ∀ z, ze[gk - 1]? = some z → s.deadline < z) ∧ Hid (bb = false → ∀ z, 0 < gk → ze[gk - 1]? = some z → z ≤ s.deadline) ∧ ∃ m, wx = wc.drewN m)
            case first =>
              by_cases hg0 : gk = 0
              · have hgz : decide ((0 : Int) < (gk : Int)) = false := by simp; omega
                have hgz2 : decide (0 < gk) = false := by simp; omega
                have hgz3 := Lib.hid hg0
                clear hg0
                go_wp2_with fail
                go_quiet (fail)
                go_wp2_with fail
                go_meet
                exact ⟨false, rfl, (fun h => by cases h), (fun _ z h => by have := hgz3.out; omega), n + nq, by rw [World.drewN_drewN]⟩
              · have hgp : 0 < gk := by omega
                have hq1 : gk - 1 < ze.length := by have := hzd.out.2; omega
                obtain ⟨b2, o2, hA8, _, e1⟩ := intsI_at hI.out.ends.rowsI hq1
                subst hA8
                have hix : ((gk : Int) - 1).toNat = gk - 1 := by omega
                have hz9 := Lib.hid (List.getElem?_eq_getElem hq1)
                generalize ze[gk - 1] = z at *
                by_cases hgt : s.deadline < z
                · have hgtz := Lib.hid hgt
                  clear hg0
                  go_wp2_with fail
                  go_quiet (fail)
                  go_wp2_with fail
                  go_meet
                  exact ⟨true, rfl, (fun _ => ⟨hgp, fun z2 h => by rw [hz9.out] at h; cases h; exact hgtz.out⟩), (fun h => by cases h), n + nq, by rw [World.drewN_drewN]⟩
                · have hgtz := Lib.hid hgt
                  have hgt' : decide (s.deadline < z) = false := by simpa using hgt
                  clear hg0 hgt
                  go_wp2_with fail
                  go_quiet (fail)
                  go_wp2_with fail
                  go_meet
                  exact ⟨false, rfl, (fun h => by cases h), (fun _ z2 _ h => by rw [hz9.out] at h; cases h; have := hgtz.out; omega), n + nq, by rw [World.drewN_drewN]⟩
            case rest =>
            obtain ⟨bb, rfl, ht, hf, m, rfl⟩ := hcut
            cases bb
            · have hlow := Lib.hid (hf.out rfl)
              clear ht hf
              obtain ⟨q, rfl⟩ : ∃ q, q = gk := ⟨_, rfl⟩
              have hnew : Hid (Cal.dueI (Cal.dueK p l) (Cal.duesB p l x y) (k + 1) = ds.take q ++ [k] ++ ds.drop q) := by
                show _ = _
                refine (hins.out q hdT.out (by have := hzd.out.1; omega) (fun j z hj hz => ?_) (fun z hp hz => ?_)).symm
                · rw [Cal.ltK_iff]
                  left
                  show (Cal.stI p l k).deadline < (Cal.stI p l z).deadline
                  rw [hsz.out]
                  exact hlat.out j _ hj (by rw [hze.out]; unfold endsOf; rw [List.getElem?_map, hz]; rfl)
                · rw [Bool.eq_false_iff]
                  intro hc
                  rw [Cal.ltK_iff] at hc
                  have hc : (Cal.stI p l k).deadline < (Cal.stI p l z).deadline ∨ (Cal.stI p l k).deadline = (Cal.stI p l z).deadline ∧ (0 : Int) < 0 := hc
                  rw [hsz.out] at hc
                  have := hlow.out (Cal.stI p l z).deadline hp (by rw [hze.out]; unfold endsOf; rw [List.getElem?_map, hz]; rfl)
                  omega
              have hn1 : Hid (numsOf (Cal.dueI (Cal.dueK p l) (Cal.duesB p l x y) (k + 1)) = zo.take q ++ [(k : Int)] ++ zo.drop q) := by show _ = _; rw [hnew.out, numsOf_ins, ← hzo.out]
              have hn2 : Hid (endsOf p l (Cal.dueI (Cal.dueK p l) (Cal.duesB p l x y) (k + 1)) = ze.take q ++ [s.deadline] ++ ze.drop q) := by show _ = _; rw [hnew.out, endsOf_ins, ← hze.out, hsz.out]
              clear hnew hlat hlow hins hno hdT hdS
              have hI := Lib.hid (hI.out.below (below_drewN (Below.refl _ _) m))
              have h10 := Lib.hid (h10.out.below (below_drewN (Below.refl _ _) m))
              clear d1
              generalize wc.drewN m = W at *
              go_upto_region 10 with fail
              go_cut [7] from 12 to 77 (fun v wx => Hid (DrI w A c p x y v (.slice A8 ze.length c8) (zo.take q ++ [(k : Int)] ++ zo.drop q) ze wx) ∧ Hid (BoxAt wx bs [.int .i64 s.phase, .int .i64 s.deadline, .int .i64 s.object, .int .i64 s.last, .int .i64 s.objected, .int .i64 s.extended]))
              case first =>
                obtain ⟨A1, c1, hrun1, hR1⟩ := (hI.out.out).hiI hq
                obtain ⟨A2, c2', hrun2, hR2⟩ := (hI.out.out).loI hq
                have hr1 := Lib.hid (fun w' (h : Below W.heap.size W w') => hR1.below h)
                have hr2 := Lib.hid (fun w' (h : Below W.heap.size W w') => hR2.below h)
                have d2 : W.cell? ⟨bs, 1, none⟩ = some (.int .i64 s.deadline) := h10.out.c 1 _ rfl
                have cS : ∀ w', Below W.heap.size W w' → w'.cell? ⟨bs, 1, none⟩ = some (.int .i64 s.deadline) := fun w' h => (h.cell (p := ⟨bs, 1, none⟩) h10.out.lt).trans d2
                have hq0' : (0 : Int) ≤ (q : Int) := by omega
                have hql : (q : Int) ≤ (zo.length : Int) := by omega
                clear hR1 hR2
                have o1 : OwnL (W.alloc (.cells #[] 3)).drew W.heap.size 3 1 (.slice (some ⟨W.heap.size, 0, none⟩) 0 0) [] := (OwnL.made W W.heap.size _ 1 (Nat.le_refl _)).below (below_drewN (Below.refl _ _) 1)
                have o2 : OwnL ((W.alloc (.cells #[] 3)).alloc (.cells #[.int .i64 (k : Int)] 3)).drew W.heap.size 3 1 (.slice (some ⟨W.heap.size, 0, none⟩) 0 0) [] := (OwnL.made W W.heap.size _ 1 (Nat.le_refl _)).below (below_drewN (below_alloc _ _) 1)
                have o3 : OwnL ((W.alloc (.cells #[.int .i64 (k : Int)] 3)).alloc (.cells #[] 3)).drew W.heap.size 3 1 (.slice (some ⟨W.heap.size + 1, 0, none⟩) 0 0) [] := by
                  have h := (OwnL.made (W.alloc (.cells #[.int .i64 (k : Int)] 3)) W.heap.size 3 1 (by simp)).below (below_drewN (Below.refl _ _) 1)
                  simp only [World.size_alloc] at h
                  exact h
                refine wp_region_held_drew (S := (fun w' => w'.cell? ⟨bs, 1, none⟩ = some (.int .i64 s.deadline))) (by kernel_rfl) d2 (fun hHeld => ?_)
                (refine tkH 1 (v := ?_) ?_ ?_; rotate_left; focus (intro w' hSw; (try dsimp only at hSw); go_simp; (try with_reducible rfl)); (try simp only [Act.put, List.setIfInBounds_toArray, List.set_cons_zero, List.set_cons_succ]))
                (refine tkH 2 (v := ?_) ?_ ?_; rotate_left; focus (intro w' hSw; (try dsimp only at hSw); go_simp; (try with_reducible rfl)); (try simp only [Act.put, List.setIfInBounds_toArray, List.set_cons_zero, List.set_cons_succ]))
                (refine tkH 3 (v := ?_) ?_ ?_; rotate_left; focus (intro w' hSw; (try dsimp only at hSw); go_simp; (try with_reducible rfl)); (try simp only [Act.put, List.setIfInBounds_toArray, List.set_cons_zero, List.set_cons_succ]))
                (refine tkH 5 (v := ?_) ?_ ?_; rotate_left; focus (intro w' hSw; (try dsimp only at hSw); go_simp; (try with_reducible rfl)); (try simp only [Act.put, List.setIfInBounds_toArray, List.set_cons_zero, List.set_cons_succ]))
                (refine tkH 8 (v := ?_) ?_ ?_; rotate_left; focus (intro w' hSw; (try dsimp only at hSw); go_simp; (try with_reducible rfl)); (try simp only [Act.put, List.setIfInBounds_toArray, List.set_cons_zero, List.set_cons_succ]))
                (refine tkH 9 (v := ?_) ?_ ?_; rotate_left; focus (intro w' hSw; (try dsimp only at hSw); go_simp; (try with_reducible rfl)); (try simp only [Act.put, List.setIfInBounds_toArray, List.set_cons_zero, List.set_cons_succ]))
                (refine tkH 10 (v := ?_) ?_ ?_; rotate_left; focus (intro w' hSw; (try dsimp only at hSw); go_simp; (try with_reducible rfl)); (try simp only [Act.put, List.setIfInBounds_toArray, List.set_cons_zero, List.set_cons_succ]))
                (refine wpAnyH_ready (rs := [0, 6]) (by decide +kernel) (by simp) ?_; refine AllReadyH.cons rfl (fun K hK => ?_) (AllReadyH.cons rfl (fun K hK => ?_) AllReadyH.nil))
                · (rw [if_pos (by kernel_rfl)]; go_simp)
                  (refine hK.out _ _ (cS (W.alloc (.cells #[] 3)) (below_alloc _ _)) (fun hHeld => ?_); clear hK K; (try simp only [Act.put]); (try simp only [List.setIfInBounds_toArray]); (try simp only [List.set_cons_zero, List.set_cons_succ]))
                  (refine wpAnyH_ready (rs := [4, 6]) (by decide +kernel) (by simp) ?_; refine AllReadyH.cons rfl (fun K hK => ?_) (AllReadyH.cons rfl (fun K hK => ?_) AllReadyH.nil))
                  · refine step_append_rows elemInt (by rfl) (.tmp 53) (.tmp 56) (by rfl) (by rfl) (by rfl) (o1) (hr1.out _ (below_drewN (below_alloc _ _) 1)) (by simp only [intRows_length, List.length_take]; omega) (intRows_wid _) (intRows_one _) (by simp only [intRows_length, List.length_take, List.length_nil]; omega) (by decide) (by first | (simp; done) | (simp; omega)) ?_
                    intro v' w2 hown hg2 hob2
                    have hb12 : Below W.heap.size W w2 := (below_drewN (below_alloc _ _) 1).trans (grown_below hg2 (fun g e => by cases e; exact Nat.le_refl _) (by simp))
                    (refine hK.out _ _ (cS w2 hb12) (fun hHeld => ?_); clear hK K; (try simp only [Act.put]); (try simp only [List.setIfInBounds_toArray]); (try simp only [List.set_cons_zero, List.set_cons_succ]))
                    (refine wpAnyH_ready (rs := [6]) (by decide +kernel) (by simp) ?_; refine AllReadyH.cons rfl (fun K hK => ?_) AllReadyH.nil; rw [if_pos (by kernel_rfl)]; go_simp)
                    (refine hK.out _ _ (cS (w2.alloc (.cells #[.int .i64 (k : Int)] 3)) (below_step hb12 (below_alloc _ _))) (fun hHeld => ?_); clear hK K; (try simp only [Act.put]); (try simp only [List.setIfInBounds_toArray]); (try simp only [List.set_cons_zero, List.set_cons_succ]))
                    (refine wpAnyH_ready (rs := [7]) (by decide +kernel) (by simp) ?_; refine AllReadyH.cons rfl (fun K hK => ?_) AllReadyH.nil)
                    refine step_append_rows elemInt (by rfl) (.tmp 57) (.tmp 59) (by rfl) (by rfl) (by rfl) (hown.below (below_alloc _ _)) (rowsAt_new _ [.int .i64 ((k : Int))] _) rfl (intRows_wid [(k : Int)]) (intRows_one [(k : Int)]) (by simp only [intRows_length, List.length_take, List.length_nil, List.length_append, List.length_singleton]; omega) (by decide) (by have := hb12.size; simp; omega) ?_
                    intro v'' w3 hown3 hg3 hob3
                    have hb13 : Below W.heap.size W w3 := (hb12.alloc hb12.size _).trans (grown_below hg3 (fun g e => (hown.lt g e).1) (by have := hb12.size; simp; omega))
                    (refine hK.out _ _ (cS w3 hb13) (fun hHeld => ?_); clear hK K; (try simp only [Act.put]); (try simp only [List.setIfInBounds_toArray]); (try simp only [List.set_cons_zero, List.set_cons_succ]))
                    (refine wpAnyH_ready (rs := [11]) (by decide +kernel) (by simp) ?_; refine AllReadyH.cons rfl (fun K hK => ?_) AllReadyH.nil)
                    refine step_append_rows elemInt (by rfl) (.tmp 60) (.tmp 63) (by rfl) (by rfl) (by rfl) hown3 (hr2.out _ hb13) (by simp only [intRows_length, List.length_drop]) (intRows_wid _) (intRows_one _) (by simp only [intRows_length, List.length_take, List.length_drop, List.length_nil, List.length_append, List.length_singleton]; omega) (by decide) hb13.size ?_
                    intro v4 w4 hown4 hg4 hob4
                    have hb14 : Below W.heap.size W w4 := hb13.trans (grown_below hg4 (fun g e => (hown3.lt g e).1) hb13.size)
                    have hI4 : Hid (IntsL w4 W.heap.size v4 (zo.take q ++ [(k : Int)] ++ zo.drop q)) := by
                      have h := hown4
                      show IntsL _ _ _ _
                      unfold IntsL
                      have e : intRows (zo.take q ++ [(k : Int)] ++ zo.drop q) = [] ++ intRows (zo.take q) ++ intRows [(k : Int)] ++ intRows (zo.drop q) := by unfold intRows; simp
                      rw [e]; exact h
                    have hb14 := Lib.hid hb14
                    clear o1 o2 o3 hown hown3 hown4 hg2 hg3 hg4 hob2 hob3 hob4 hb12 hb13
                    (refine hK.out _ _ (cS w4 hb14.out) (fun hHeld => ?_); clear hK K; (try simp only [Act.put]); (try simp only [List.setIfInBounds_toArray]); (try simp only [List.set_cons_zero, List.set_cons_succ]))
                    (refine wpAnyH_ready (rs := [12]) (by decide +kernel) (by simp) ?_; refine AllReadyH.cons rfl (fun K hK => ?_) AllReadyH.nil; rw [if_pos (by kernel_rfl)]; go_simp)
                    (refine hK.out _ _ (cS w4 hb14.out) (fun hHeld => ?_); clear hK K; (try simp only [Act.put]); (try simp only [List.setIfInBounds_toArray]); (try simp only [List.set_cons_zero, List.set_cons_succ]))
                    refine wpAnyH_done (by kernel_rfl) ?_ _
                    clear hHeld
                    go_wp2_with fail
                    go_meet; exact ⟨Lib.hid (hI.out.put hb14.out hI4.out), Lib.hid (h10.out.below hb14.out)⟩
                  · (rw [if_pos (by kernel_rfl)]; go_simp)
                    (refine hK.out _ _ (cS ((W.alloc (.cells #[] 3)).alloc (.cells #[.int .i64 (k : Int)] 3)) (below_step (below_alloc _ _) (below_alloc _ _))) (fun hHeld => ?_); clear hK K; (try simp only [Act.put]); (try simp only [List.setIfInBounds_toArray]); (try simp only [List.set_cons_zero, List.set_cons_succ]))
                    (refine wpAnyH_ready (rs := [4]) (by decide +kernel) (by simp) ?_; refine AllReadyH.cons rfl (fun K hK => ?_) AllReadyH.nil)
                    refine step_append_rows elemInt (by rfl) (.tmp 53) (.tmp 56) (by rfl) (by rfl) (by rfl) (o2) (hr1.out _ (below_drewN (below_step (below_alloc _ _) (below_alloc _ _)) 1)) (by simp only [intRows_length, List.length_take]; omega) (intRows_wid _) (intRows_one _) (by simp only [intRows_length, List.length_take, List.length_nil]; omega) (by decide) (by first | (simp; done) | (simp; omega)) ?_
                    intro v' w2 hown hg2 hob2
                    have hb12 : Below W.heap.size W w2 := (below_drewN (below_step (below_alloc _ _) (below_alloc _ _)) 1).trans (grown_below hg2 (fun g e => by cases e; exact Nat.le_refl _) (by simp; omega))
                    have hsrc : RowsAt w2 (some ⟨W.heap.size + 1, 0, none⟩) 1 (intRows [(k : Int)]) := RowsAt.farI (by have h := rowsAt_new (W.alloc (.cells #[] 3)) [.int .i64 ((k : Int))] 3; simp only [World.size_alloc] at h; exact h) hg2 (fun a e => by cases e; simp [Value.ownBlock])
                    (refine hK.out _ _ (cS w2 hb12) (fun hHeld => ?_); clear hK K; (try simp only [Act.put]); (try simp only [List.setIfInBounds_toArray]); (try simp only [List.set_cons_zero, List.set_cons_succ]))
                    (refine wpAnyH_ready (rs := [7]) (by decide +kernel) (by simp) ?_; refine AllReadyH.cons rfl (fun K hK => ?_) AllReadyH.nil)
                    refine step_append_rows elemInt (by rfl) (.tmp 57) (.tmp 59) (by rfl) (by rfl) (by rfl) (hown) (hsrc) rfl (intRows_wid [(k : Int)]) (intRows_one [(k : Int)]) (by simp only [intRows_length, List.length_take, List.length_nil, List.length_append, List.length_singleton]; omega) (by decide) hb12.size ?_
                    intro v'' w3 hown3 hg3 hob3
                    have hb13 : Below W.heap.size W w3 := hb12.trans (grown_below hg3 (fun g e => (hown.lt g e).1) hb12.size)
                    (refine hK.out _ _ (cS w3 hb13) (fun hHeld => ?_); clear hK K; (try simp only [Act.put]); (try simp only [List.setIfInBounds_toArray]); (try simp only [List.set_cons_zero, List.set_cons_succ]))
                    (refine wpAnyH_ready (rs := [11]) (by decide +kernel) (by simp) ?_; refine AllReadyH.cons rfl (fun K hK => ?_) AllReadyH.nil)
                    refine step_append_rows elemInt (by rfl) (.tmp 60) (.tmp 63) (by rfl) (by rfl) (by rfl) hown3 (hr2.out _ hb13) (by simp only [intRows_length, List.length_drop]) (intRows_wid _) (intRows_one _) (by simp only [intRows_length, List.length_take, List.length_drop, List.length_nil, List.length_append, List.length_singleton]; omega) (by decide) hb13.size ?_
                    intro v4 w4 hown4 hg4 hob4
                    have hb14 : Below W.heap.size W w4 := hb13.trans (grown_below hg4 (fun g e => (hown3.lt g e).1) hb13.size)
                    have hI4 : Hid (IntsL w4 W.heap.size v4 (zo.take q ++ [(k : Int)] ++ zo.drop q)) := by
                      have h := hown4
                      show IntsL _ _ _ _
                      unfold IntsL
                      have e : intRows (zo.take q ++ [(k : Int)] ++ zo.drop q) = [] ++ intRows (zo.take q) ++ intRows [(k : Int)] ++ intRows (zo.drop q) := by unfold intRows; simp
                      rw [e]; exact h
                    have hb14 := Lib.hid hb14
                    clear o1 o2 o3 hown hown3 hown4 hg2 hg3 hg4 hob2 hob3 hob4 hb12 hb13
                    (refine hK.out _ _ (cS w4 hb14.out) (fun hHeld => ?_); clear hK K; (try simp only [Act.put]); (try simp only [List.setIfInBounds_toArray]); (try simp only [List.set_cons_zero, List.set_cons_succ]))
                    (refine wpAnyH_ready (rs := [12]) (by decide +kernel) (by simp) ?_; refine AllReadyH.cons rfl (fun K hK => ?_) AllReadyH.nil; rw [if_pos (by kernel_rfl)]; go_simp)
                    (refine hK.out _ _ (cS w4 hb14.out) (fun hHeld => ?_); clear hK K; (try simp only [Act.put]); (try simp only [List.setIfInBounds_toArray]); (try simp only [List.set_cons_zero, List.set_cons_succ]))
                    refine wpAnyH_done (by kernel_rfl) ?_ _
                    clear hHeld
                    go_wp2_with fail
                    go_meet; exact ⟨Lib.hid (hI.out.put hb14.out hI4.out), Lib.hid (h10.out.below hb14.out)⟩
                · (rw [if_pos (by kernel_rfl)]; go_simp)
                  (refine hK.out _ _ (cS (W.alloc (.cells #[.int .i64 (k : Int)] 3)) (below_alloc _ _)) (fun hHeld => ?_); clear hK K; (try simp only [Act.put]); (try simp only [List.setIfInBounds_toArray]); (try simp only [List.set_cons_zero, List.set_cons_succ]))
                  (refine wpAnyH_ready (rs := [0]) (by decide +kernel) (by simp) ?_; refine AllReadyH.cons rfl (fun K hK => ?_) AllReadyH.nil; rw [if_pos (by kernel_rfl)]; go_simp)
                  (refine hK.out _ _ (cS ((W.alloc (.cells #[.int .i64 (k : Int)] 3)).alloc (.cells #[] 3)) (below_step (below_alloc _ _) (below_alloc _ _))) (fun hHeld => ?_); clear hK K; (try simp only [Act.put]); (try simp only [List.setIfInBounds_toArray]); (try simp only [List.set_cons_zero, List.set_cons_succ]))
                  (refine wpAnyH_ready (rs := [4]) (by decide +kernel) (by simp) ?_; refine AllReadyH.cons rfl (fun K hK => ?_) AllReadyH.nil)
                  refine step_append_rows elemInt (by rfl) (.tmp 53) (.tmp 56) (by rfl) (by rfl) (by rfl) (o3) (hr1.out _ (below_drewN (below_step (below_alloc _ _) (below_alloc _ _)) 1)) (by simp only [intRows_length, List.length_take]; omega) (intRows_wid _) (intRows_one _) (by simp only [intRows_length, List.length_take, List.length_nil]; omega) (by decide) (by first | (simp; done) | (simp; omega)) ?_
                  intro v' w2 hown hg2 hob2
                  have hb12 : Below W.heap.size W w2 := (below_drewN (below_step (below_alloc _ _) (below_alloc _ _)) 1).trans (grown_below hg2 (fun g e => by cases e; exact Nat.le_succ _) (by simp; omega))
                  have hsrc : RowsAt w2 (some ⟨W.heap.size, 0, none⟩) 1 (intRows [(k : Int)]) := RowsAt.farI (by exact (rowsAt_new W [.int .i64 ((k : Int))] 3).below (below_drewN (below_alloc _ (.cells #[] 3)) 1)) hg2 (fun a e => by cases e; simp [Value.ownBlock])
                  (refine hK.out _ _ (cS w2 hb12) (fun hHeld => ?_); clear hK K; (try simp only [Act.put]); (try simp only [List.setIfInBounds_toArray]); (try simp only [List.set_cons_zero, List.set_cons_succ]))
                  (refine wpAnyH_ready (rs := [7]) (by decide +kernel) (by simp) ?_; refine AllReadyH.cons rfl (fun K hK => ?_) AllReadyH.nil)
                  refine step_append_rows elemInt (by rfl) (.tmp 57) (.tmp 59) (by rfl) (by rfl) (by rfl) (hown) (hsrc) rfl (intRows_wid [(k : Int)]) (intRows_one [(k : Int)]) (by simp only [intRows_length, List.length_take, List.length_nil, List.length_append, List.length_singleton]; omega) (by decide) hb12.size ?_
                  intro v'' w3 hown3 hg3 hob3
                  have hb13 : Below W.heap.size W w3 := hb12.trans (grown_below hg3 (fun g e => (hown.lt g e).1) hb12.size)
                  (refine hK.out _ _ (cS w3 hb13) (fun hHeld => ?_); clear hK K; (try simp only [Act.put]); (try simp only [List.setIfInBounds_toArray]); (try simp only [List.set_cons_zero, List.set_cons_succ]))
                  (refine wpAnyH_ready (rs := [11]) (by decide +kernel) (by simp) ?_; refine AllReadyH.cons rfl (fun K hK => ?_) AllReadyH.nil)
                  refine step_append_rows elemInt (by rfl) (.tmp 60) (.tmp 63) (by rfl) (by rfl) (by rfl) hown3 (hr2.out _ hb13) (by simp only [intRows_length, List.length_drop]) (intRows_wid _) (intRows_one _) (by simp only [intRows_length, List.length_take, List.length_drop, List.length_nil, List.length_append, List.length_singleton]; omega) (by decide) hb13.size ?_
                  intro v4 w4 hown4 hg4 hob4
                  have hb14 : Below W.heap.size W w4 := hb13.trans (grown_below hg4 (fun g e => (hown3.lt g e).1) hb13.size)
                  have hI4 : Hid (IntsL w4 W.heap.size v4 (zo.take q ++ [(k : Int)] ++ zo.drop q)) := by
                    have h := hown4
                    show IntsL _ _ _ _
                    unfold IntsL
                    have e : intRows (zo.take q ++ [(k : Int)] ++ zo.drop q) = [] ++ intRows (zo.take q) ++ intRows [(k : Int)] ++ intRows (zo.drop q) := by unfold intRows; simp
                    rw [e]; exact h
                  have hb14 := Lib.hid hb14
                  clear o1 o2 o3 hown hown3 hown4 hg2 hg3 hg4 hob2 hob3 hob4 hb12 hb13
                  (refine hK.out _ _ (cS w4 hb14.out) (fun hHeld => ?_); clear hK K; (try simp only [Act.put]); (try simp only [List.setIfInBounds_toArray]); (try simp only [List.set_cons_zero, List.set_cons_succ]))
                  (refine wpAnyH_ready (rs := [12]) (by decide +kernel) (by simp) ?_; refine AllReadyH.cons rfl (fun K hK => ?_) AllReadyH.nil; rw [if_pos (by kernel_rfl)]; go_simp)
                  (refine hK.out _ _ (cS w4 hb14.out) (fun hHeld => ?_); clear hK K; (try simp only [Act.put]); (try simp only [List.setIfInBounds_toArray]); (try simp only [List.set_cons_zero, List.set_cons_succ]))
                  refine wpAnyH_done (by kernel_rfl) ?_ _
                  clear hHeld
                  go_wp2_with fail
                  go_meet; exact ⟨Lib.hid (hI.out.put hb14.out hI4.out), Lib.hid (h10.out.below hb14.out)⟩
              case rest =>
              clear hI h10
              obtain ⟨hI, h10⟩ := hcut
              obtain ⟨A9, c9, hv9, _⟩ := hI.out.out.rows
              subst hv9
              generalize wc = W at *
              obtain ⟨zo2, hzo2⟩ : ∃ z, z = zo.take q ++ [(k : Int)] ++ zo.drop q := ⟨_, rfl⟩
              rw [← hzo2] at hI hn1 ⊢
              clear hzo2
              have hq : q ≤ ze.length := by have := hzd.out.2; omega
              go_upto_region 11 with fail
              obtain ⟨A1, c1, hrun1, hR1⟩ := (hI.out.ends).hiI hq
              obtain ⟨A2, c2', hrun2, hR2⟩ := (hI.out.ends).loI hq
              have hr1 := Lib.hid (fun w' (h : Below W.heap.size W w') => hR1.below h)
              have hr2 := Lib.hid (fun w' (h : Below W.heap.size W w') => hR2.below h)
              have d2 : W.cell? ⟨bs, 1, none⟩ = some (.int .i64 s.deadline) := h10.out.c 1 _ rfl
              have cS : ∀ w', Below W.heap.size W w' → w'.cell? ⟨bs, 1, none⟩ = some (.int .i64 s.deadline) := fun w' h => (h.cell (p := ⟨bs, 1, none⟩) h10.out.lt).trans d2
              have hq0' : (0 : Int) ≤ (q : Int) := by omega
              have hql : (q : Int) ≤ (ze.length : Int) := by omega
              clear hR1 hR2
              have o1 : OwnL (W.alloc (.cells #[] 3)).drew W.heap.size 3 1 (.slice (some ⟨W.heap.size, 0, none⟩) 0 0) [] := (OwnL.made W W.heap.size _ 1 (Nat.le_refl _)).below (below_drewN (Below.refl _ _) 1)
              have o2 : OwnL ((W.alloc (.cells #[] 3)).alloc (.cells #[.int .i64 s.deadline] 3)).drew W.heap.size 3 1 (.slice (some ⟨W.heap.size, 0, none⟩) 0 0) [] := (OwnL.made W W.heap.size _ 1 (Nat.le_refl _)).below (below_drewN (below_alloc _ _) 1)
              have o3 : OwnL ((W.alloc (.cells #[.int .i64 s.deadline] 3)).alloc (.cells #[] 3)).drew W.heap.size 3 1 (.slice (some ⟨W.heap.size + 1, 0, none⟩) 0 0) [] := by
                have h := (OwnL.made (W.alloc (.cells #[.int .i64 s.deadline] 3)) W.heap.size 3 1 (by simp)).below (below_drewN (Below.refl _ _) 1)
                simp only [World.size_alloc] at h
                exact h
              refine wp_region_held_drew (S := (fun w' => w'.cell? ⟨bs, 1, none⟩ = some (.int .i64 s.deadline))) (by kernel_rfl) d2 (fun hHeld => ?_)
              (refine tkH 1 (v := ?_) ?_ ?_; rotate_left; focus (intro w' hSw; (try dsimp only at hSw); go_simp; (try with_reducible rfl)); (try simp only [Act.put, List.setIfInBounds_toArray, List.set_cons_zero, List.set_cons_succ]))
              (refine tkH 2 (v := ?_) ?_ ?_; rotate_left; focus (intro w' hSw; (try dsimp only at hSw); go_simp; (try with_reducible rfl)); (try simp only [Act.put, List.setIfInBounds_toArray, List.set_cons_zero, List.set_cons_succ]))
              (refine tkH 3 (v := ?_) ?_ ?_; rotate_left; focus (intro w' hSw; (try dsimp only at hSw); go_simp; (try with_reducible rfl)); (try simp only [Act.put, List.setIfInBounds_toArray, List.set_cons_zero, List.set_cons_succ]))
              (refine tkH 5 (v := ?_) ?_ ?_; rotate_left; focus (intro w' hSw; (try dsimp only at hSw); go_simp; (try with_reducible rfl)); (try simp only [Act.put, List.setIfInBounds_toArray, List.set_cons_zero, List.set_cons_succ]))
              (refine tkH 6 (v := ?_) ?_ ?_; rotate_left; focus (intro w' hSw; (try dsimp only at hSw); go_simp; (try with_reducible rfl)); (try simp only [Act.put, List.setIfInBounds_toArray, List.set_cons_zero, List.set_cons_succ]))
              (refine tkH 9 (v := ?_) ?_ ?_; rotate_left; focus (intro w' hSw; (try dsimp only at hSw); go_simp; (try with_reducible rfl)); (try simp only [Act.put, List.setIfInBounds_toArray, List.set_cons_zero, List.set_cons_succ]))
              (refine tkH 10 (v := ?_) ?_ ?_; rotate_left; focus (intro w' hSw; (try dsimp only at hSw); go_simp; (try with_reducible rfl)); (try simp only [Act.put, List.setIfInBounds_toArray, List.set_cons_zero, List.set_cons_succ]))
              (refine tkH 11 (v := ?_) ?_ ?_; rotate_left; focus (intro w' hSw; (try dsimp only at hSw); go_simp; (try with_reducible rfl)); (try simp only [Act.put, List.setIfInBounds_toArray, List.set_cons_zero, List.set_cons_succ]))
              (refine wpAnyH_ready (rs := [0, 7]) (by decide +kernel) (by simp) ?_; refine AllReadyH.cons rfl (fun K hK => ?_) (AllReadyH.cons rfl (fun K hK => ?_) AllReadyH.nil))
              · (rw [if_pos (by kernel_rfl)]; go_simp)
                (refine hK.out _ _ (cS (W.alloc (.cells #[] 3)) (below_alloc _ _)) (fun hHeld => ?_); clear hK K; (try simp only [Act.put]); (try simp only [List.setIfInBounds_toArray]); (try simp only [List.set_cons_zero, List.set_cons_succ]))
                (refine wpAnyH_ready (rs := [4, 7]) (by decide +kernel) (by simp) ?_; refine AllReadyH.cons rfl (fun K hK => ?_) (AllReadyH.cons rfl (fun K hK => ?_) AllReadyH.nil))
                · refine step_append_rows elemInt (by rfl) (.tmp 65) (.tmp 68) (by rfl) (by rfl) (by rfl) (o1) (hr1.out _ (below_drewN (below_alloc _ _) 1)) (by simp only [intRows_length, List.length_take]; omega) (intRows_wid _) (intRows_one _) (by simp only [intRows_length, List.length_take, List.length_nil]; omega) (by decide) (by first | (simp; done) | (simp; omega)) ?_
                  intro v' w2 hown hg2 hob2
                  have hb12 : Below W.heap.size W w2 := (below_drewN (below_alloc _ _) 1).trans (grown_below hg2 (fun g e => by cases e; exact Nat.le_refl _) (by simp))
                  (refine hK.out _ _ (cS w2 hb12) (fun hHeld => ?_); clear hK K; (try simp only [Act.put]); (try simp only [List.setIfInBounds_toArray]); (try simp only [List.set_cons_zero, List.set_cons_succ]))
                  (refine wpAnyH_ready (rs := [7]) (by decide +kernel) (by simp) ?_; refine AllReadyH.cons rfl (fun K hK => ?_) AllReadyH.nil; rw [if_pos (by kernel_rfl)]; go_simp)
                  (refine hK.out _ _ (cS (w2.alloc (.cells #[.int .i64 s.deadline] 3)) (below_step hb12 (below_alloc _ _))) (fun hHeld => ?_); clear hK K; (try simp only [Act.put]); (try simp only [List.setIfInBounds_toArray]); (try simp only [List.set_cons_zero, List.set_cons_succ]))
                  (refine wpAnyH_ready (rs := [8]) (by decide +kernel) (by simp) ?_; refine AllReadyH.cons rfl (fun K hK => ?_) AllReadyH.nil)
                  refine step_append_rows elemInt (by rfl) (.tmp 69) (.tmp 72) (by rfl) (by rfl) (by rfl) (hown.below (below_alloc _ _)) (rowsAt_new _ [.int .i64 (s.deadline)] _) rfl (intRows_wid [s.deadline]) (intRows_one [s.deadline]) (by simp only [intRows_length, List.length_take, List.length_nil, List.length_append, List.length_singleton]; omega) (by decide) (by have := hb12.size; simp; omega) ?_
                  intro v'' w3 hown3 hg3 hob3
                  have hb13 : Below W.heap.size W w3 := (hb12.alloc hb12.size _).trans (grown_below hg3 (fun g e => (hown.lt g e).1) (by have := hb12.size; simp; omega))
                  (refine hK.out _ _ (cS w3 hb13) (fun hHeld => ?_); clear hK K; (try simp only [Act.put]); (try simp only [List.setIfInBounds_toArray]); (try simp only [List.set_cons_zero, List.set_cons_succ]))
                  (refine wpAnyH_ready (rs := [12]) (by decide +kernel) (by simp) ?_; refine AllReadyH.cons rfl (fun K hK => ?_) AllReadyH.nil)
                  refine step_append_rows elemInt (by rfl) (.tmp 73) (.tmp 76) (by rfl) (by rfl) (by rfl) hown3 (hr2.out _ hb13) (by simp only [intRows_length, List.length_drop]) (intRows_wid _) (intRows_one _) (by simp only [intRows_length, List.length_take, List.length_drop, List.length_nil, List.length_append, List.length_singleton]; omega) (by decide) hb13.size ?_
                  intro v4 w4 hown4 hg4 hob4
                  have hb14 : Below W.heap.size W w4 := hb13.trans (grown_below hg4 (fun g e => (hown3.lt g e).1) hb13.size)
                  have hI4 : Hid (IntsL w4 W.heap.size v4 (ze.take q ++ [s.deadline] ++ ze.drop q)) := by
                    have h := hown4
                    show IntsL _ _ _ _
                    unfold IntsL
                    have e : intRows (ze.take q ++ [s.deadline] ++ ze.drop q) = [] ++ intRows (ze.take q) ++ intRows [s.deadline] ++ intRows (ze.drop q) := by unfold intRows; simp
                    rw [e]; exact h
                  have hb14 := Lib.hid hb14
                  clear o1 o2 o3 hown hown3 hown4 hg2 hg3 hg4 hob2 hob3 hob4 hb12 hb13
                  (refine hK.out _ _ (cS w4 hb14.out) (fun hHeld => ?_); clear hK K; (try simp only [Act.put]); (try simp only [List.setIfInBounds_toArray]); (try simp only [List.set_cons_zero, List.set_cons_succ]))
                  (refine wpAnyH_ready (rs := [13]) (by decide +kernel) (by simp) ?_; refine AllReadyH.cons rfl (fun K hK => ?_) AllReadyH.nil; rw [if_pos (by kernel_rfl)]; go_simp)
                  (refine hK.out _ _ (cS w4 hb14.out) (fun hHeld => ?_); clear hK K; (try simp only [Act.put]); (try simp only [List.setIfInBounds_toArray]); (try simp only [List.set_cons_zero, List.set_cons_succ]))
                  refine wpAnyH_done (by kernel_rfl) ?_ _
                  clear hHeld
                  go_wp2_with fail
                  have hI := Lib.hid (hI.out.pute hb14.out hI4.out)
                  go_roundg (l.length - (k + 1))
                  case measure => omega
                  case rel => exact ⟨k + 1, by omega, by go_num, by rw [hn1.out, hn2.out]; exact hI⟩
                · (rw [if_pos (by kernel_rfl)]; go_simp)
                  (refine hK.out _ _ (cS ((W.alloc (.cells #[] 3)).alloc (.cells #[.int .i64 s.deadline] 3)) (below_step (below_alloc _ _) (below_alloc _ _))) (fun hHeld => ?_); clear hK K; (try simp only [Act.put]); (try simp only [List.setIfInBounds_toArray]); (try simp only [List.set_cons_zero, List.set_cons_succ]))
                  (refine wpAnyH_ready (rs := [4]) (by decide +kernel) (by simp) ?_; refine AllReadyH.cons rfl (fun K hK => ?_) AllReadyH.nil)
                  refine step_append_rows elemInt (by rfl) (.tmp 65) (.tmp 68) (by rfl) (by rfl) (by rfl) (o2) (hr1.out _ (below_drewN (below_step (below_alloc _ _) (below_alloc _ _)) 1)) (by simp only [intRows_length, List.length_take]; omega) (intRows_wid _) (intRows_one _) (by simp only [intRows_length, List.length_take, List.length_nil]; omega) (by decide) (by first | (simp; done) | (simp; omega)) ?_
                  intro v' w2 hown hg2 hob2
                  have hb12 : Below W.heap.size W w2 := (below_drewN (below_step (below_alloc _ _) (below_alloc _ _)) 1).trans (grown_below hg2 (fun g e => by cases e; exact Nat.le_refl _) (by simp; omega))
                  have hsrc : RowsAt w2 (some ⟨W.heap.size + 1, 0, none⟩) 1 (intRows [s.deadline]) := RowsAt.farI (by have h := rowsAt_new (W.alloc (.cells #[] 3)) [.int .i64 (s.deadline)] 3; simp only [World.size_alloc] at h; exact h) hg2 (fun a e => by cases e; simp [Value.ownBlock])
                  (refine hK.out _ _ (cS w2 hb12) (fun hHeld => ?_); clear hK K; (try simp only [Act.put]); (try simp only [List.setIfInBounds_toArray]); (try simp only [List.set_cons_zero, List.set_cons_succ]))
                  (refine wpAnyH_ready (rs := [8]) (by decide +kernel) (by simp) ?_; refine AllReadyH.cons rfl (fun K hK => ?_) AllReadyH.nil)
                  refine step_append_rows elemInt (by rfl) (.tmp 69) (.tmp 72) (by rfl) (by rfl) (by rfl) (hown) (hsrc) rfl (intRows_wid [s.deadline]) (intRows_one [s.deadline]) (by simp only [intRows_length, List.length_take, List.length_nil, List.length_append, List.length_singleton]; omega) (by decide) hb12.size ?_
                  intro v'' w3 hown3 hg3 hob3
                  have hb13 : Below W.heap.size W w3 := hb12.trans (grown_below hg3 (fun g e => (hown.lt g e).1) hb12.size)
                  (refine hK.out _ _ (cS w3 hb13) (fun hHeld => ?_); clear hK K; (try simp only [Act.put]); (try simp only [List.setIfInBounds_toArray]); (try simp only [List.set_cons_zero, List.set_cons_succ]))
                  (refine wpAnyH_ready (rs := [12]) (by decide +kernel) (by simp) ?_; refine AllReadyH.cons rfl (fun K hK => ?_) AllReadyH.nil)
                  refine step_append_rows elemInt (by rfl) (.tmp 73) (.tmp 76) (by rfl) (by rfl) (by rfl) hown3 (hr2.out _ hb13) (by simp only [intRows_length, List.length_drop]) (intRows_wid _) (intRows_one _) (by simp only [intRows_length, List.length_take, List.length_drop, List.length_nil, List.length_append, List.length_singleton]; omega) (by decide) hb13.size ?_
                  intro v4 w4 hown4 hg4 hob4
                  have hb14 : Below W.heap.size W w4 := hb13.trans (grown_below hg4 (fun g e => (hown3.lt g e).1) hb13.size)
                  have hI4 : Hid (IntsL w4 W.heap.size v4 (ze.take q ++ [s.deadline] ++ ze.drop q)) := by
                    have h := hown4
                    show IntsL _ _ _ _
                    unfold IntsL
                    have e : intRows (ze.take q ++ [s.deadline] ++ ze.drop q) = [] ++ intRows (ze.take q) ++ intRows [s.deadline] ++ intRows (ze.drop q) := by unfold intRows; simp
                    rw [e]; exact h
                  have hb14 := Lib.hid hb14
                  clear o1 o2 o3 hown hown3 hown4 hg2 hg3 hg4 hob2 hob3 hob4 hb12 hb13
                  (refine hK.out _ _ (cS w4 hb14.out) (fun hHeld => ?_); clear hK K; (try simp only [Act.put]); (try simp only [List.setIfInBounds_toArray]); (try simp only [List.set_cons_zero, List.set_cons_succ]))
                  (refine wpAnyH_ready (rs := [13]) (by decide +kernel) (by simp) ?_; refine AllReadyH.cons rfl (fun K hK => ?_) AllReadyH.nil; rw [if_pos (by kernel_rfl)]; go_simp)
                  (refine hK.out _ _ (cS w4 hb14.out) (fun hHeld => ?_); clear hK K; (try simp only [Act.put]); (try simp only [List.setIfInBounds_toArray]); (try simp only [List.set_cons_zero, List.set_cons_succ]))
                  refine wpAnyH_done (by kernel_rfl) ?_ _
                  clear hHeld
                  go_wp2_with fail
                  have hI := Lib.hid (hI.out.pute hb14.out hI4.out)
                  go_roundg (l.length - (k + 1))
                  case measure => omega
                  case rel => exact ⟨k + 1, by omega, by go_num, by rw [hn1.out, hn2.out]; exact hI⟩
              · (rw [if_pos (by kernel_rfl)]; go_simp)
                (refine hK.out _ _ (cS (W.alloc (.cells #[.int .i64 s.deadline] 3)) (below_alloc _ _)) (fun hHeld => ?_); clear hK K; (try simp only [Act.put]); (try simp only [List.setIfInBounds_toArray]); (try simp only [List.set_cons_zero, List.set_cons_succ]))
                (refine wpAnyH_ready (rs := [0]) (by decide +kernel) (by simp) ?_; refine AllReadyH.cons rfl (fun K hK => ?_) AllReadyH.nil; rw [if_pos (by kernel_rfl)]; go_simp)
                (refine hK.out _ _ (cS ((W.alloc (.cells #[.int .i64 s.deadline] 3)).alloc (.cells #[] 3)) (below_step (below_alloc _ _) (below_alloc _ _))) (fun hHeld => ?_); clear hK K; (try simp only [Act.put]); (try simp only [List.setIfInBounds_toArray]); (try simp only [List.set_cons_zero, List.set_cons_succ]))
                (refine wpAnyH_ready (rs := [4]) (by decide +kernel) (by simp) ?_; refine AllReadyH.cons rfl (fun K hK => ?_) AllReadyH.nil)
                refine step_append_rows elemInt (by rfl) (.tmp 65) (.tmp 68) (by rfl) (by rfl) (by rfl) (o3) (hr1.out _ (below_drewN (below_step (below_alloc _ _) (below_alloc _ _)) 1)) (by simp only [intRows_length, List.length_take]; omega) (intRows_wid _) (intRows_one _) (by simp only [intRows_length, List.length_take, List.length_nil]; omega) (by decide) (by first | (simp; done) | (simp; omega)) ?_
                intro v' w2 hown hg2 hob2
                have hb12 : Below W.heap.size W w2 := (below_drewN (below_step (below_alloc _ _) (below_alloc _ _)) 1).trans (grown_below hg2 (fun g e => by cases e; exact Nat.le_succ _) (by simp; omega))
                have hsrc : RowsAt w2 (some ⟨W.heap.size, 0, none⟩) 1 (intRows [s.deadline]) := RowsAt.farI (by exact (rowsAt_new W [.int .i64 (s.deadline)] 3).below (below_drewN (below_alloc _ (.cells #[] 3)) 1)) hg2 (fun a e => by cases e; simp [Value.ownBlock])
                (refine hK.out _ _ (cS w2 hb12) (fun hHeld => ?_); clear hK K; (try simp only [Act.put]); (try simp only [List.setIfInBounds_toArray]); (try simp only [List.set_cons_zero, List.set_cons_succ]))
                (refine wpAnyH_ready (rs := [8]) (by decide +kernel) (by simp) ?_; refine AllReadyH.cons rfl (fun K hK => ?_) AllReadyH.nil)
                refine step_append_rows elemInt (by rfl) (.tmp 69) (.tmp 72) (by rfl) (by rfl) (by rfl) (hown) (hsrc) rfl (intRows_wid [s.deadline]) (intRows_one [s.deadline]) (by simp only [intRows_length, List.length_take, List.length_nil, List.length_append, List.length_singleton]; omega) (by decide) hb12.size ?_
                intro v'' w3 hown3 hg3 hob3
                have hb13 : Below W.heap.size W w3 := hb12.trans (grown_below hg3 (fun g e => (hown.lt g e).1) hb12.size)
                (refine hK.out _ _ (cS w3 hb13) (fun hHeld => ?_); clear hK K; (try simp only [Act.put]); (try simp only [List.setIfInBounds_toArray]); (try simp only [List.set_cons_zero, List.set_cons_succ]))
                (refine wpAnyH_ready (rs := [12]) (by decide +kernel) (by simp) ?_; refine AllReadyH.cons rfl (fun K hK => ?_) AllReadyH.nil)
                refine step_append_rows elemInt (by rfl) (.tmp 73) (.tmp 76) (by rfl) (by rfl) (by rfl) hown3 (hr2.out _ hb13) (by simp only [intRows_length, List.length_drop]) (intRows_wid _) (intRows_one _) (by simp only [intRows_length, List.length_take, List.length_drop, List.length_nil, List.length_append, List.length_singleton]; omega) (by decide) hb13.size ?_
                intro v4 w4 hown4 hg4 hob4
                have hb14 : Below W.heap.size W w4 := hb13.trans (grown_below hg4 (fun g e => (hown3.lt g e).1) hb13.size)
                have hI4 : Hid (IntsL w4 W.heap.size v4 (ze.take q ++ [s.deadline] ++ ze.drop q)) := by
                  have h := hown4
                  show IntsL _ _ _ _
                  unfold IntsL
                  have e : intRows (ze.take q ++ [s.deadline] ++ ze.drop q) = [] ++ intRows (ze.take q) ++ intRows [s.deadline] ++ intRows (ze.drop q) := by unfold intRows; simp
                  rw [e]; exact h
                have hb14 := Lib.hid hb14
                clear o1 o2 o3 hown hown3 hown4 hg2 hg3 hg4 hob2 hob3 hob4 hb12 hb13
                (refine hK.out _ _ (cS w4 hb14.out) (fun hHeld => ?_); clear hK K; (try simp only [Act.put]); (try simp only [List.setIfInBounds_toArray]); (try simp only [List.set_cons_zero, List.set_cons_succ]))
                (refine wpAnyH_ready (rs := [13]) (by decide +kernel) (by simp) ?_; refine AllReadyH.cons rfl (fun K hK => ?_) AllReadyH.nil; rw [if_pos (by kernel_rfl)]; go_simp)
                (refine hK.out _ _ (cS w4 hb14.out) (fun hHeld => ?_); clear hK K; (try simp only [Act.put]); (try simp only [List.setIfInBounds_toArray]); (try simp only [List.set_cons_zero, List.set_cons_succ]))
                refine wpAnyH_done (by kernel_rfl) ?_ _
                clear hHeld
                go_wp2_with fail
                have hI := Lib.hid (hI.out.pute hb14.out hI4.out)
                go_roundg (l.length - (k + 1))
                case measure => omega
                case rel => exact ⟨k + 1, by omega, by go_num, by rw [hn1.out, hn2.out]; exact hI⟩
            · obtain ⟨hgp, hgz⟩ := ht.out rfl
              have hnx : Hid (laterFrom ze s.deadline (gk - 1)) := fun j z hj hz => by
                rcases Nat.lt_or_ge (gk - 1) j with h | h
                · exact hlat.out j z (by omega) hz
                · obtain rfl : j = gk - 1 := by omega
                  exact hgz z hz
              clear ht hf hgz
              go_wp2_with fail
              go_roundg (gk - 1)
              case measure => omega
              case rel => exact ⟨_, by omega, by go_num, hnx, rfl⟩
        · have hdF : Hid (Cal.duesB p l x y k = false) := by show _ = _; rw [hdS.out]; simp [hph]; omega
          have hin' : s.deadline < x ∨ y < s.deadline := by omega
          clear hph hin
          go_wp2_with ((first | (go_at_call 134) | (go_at_call 59) | (go_at_call 133) | (go_at_call 14) | (go_at_call 178) | (fail) | (go_at_call 139)); first | refine rin ?_ | refine rout ?_ | refine rany ?_)
          go_roundg (l.length - (k + 1))
          case measure => omega
          case rel => exact ⟨k + 1, by omega, by go_num, by rw [hno.out hdF.out, ← hzo.out, ← hze.out]; exact hI⟩
      · have hdF : Hid (Cal.duesB p l x y k = false) := by show _ = _; rw [hdS.out]; simp [hph]
        have hphb : (s.phase != 1) = true := by simpa using hph
        clear hph
        go_wp2_with fail
        go_roundg (l.length - (k + 1))
        case measure => omega
        case rel => exact ⟨k + 1, by omega, by go_num, by rw [hno.out hdF.out, ← hzo.out, ← hze.out]; exact hI⟩
    · obtain rfl : k = l.length := by omega
      go_wp2_with fail
      go_ret
      exact ⟨_, rfl, hI.out.out.less (by omega), hI.out.fr⟩
end Go.Proofs.YtbegbajlagcbdaaGreatDoor
