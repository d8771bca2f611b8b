/- Chapter 8 and what it rests on: definitions and walks, part 63. -/
import Derived.Test.YtbegbajlagcbdaaGreatDoorC62
import Derived.Deep.LoopGhost
import Derived.Deep.CutRange
import Derived.Test.YtbegbajlagcbdaaGreatDoorC24
namespace Go.Proofs.YtbegbajlagcbdaaGreatDoor
open Go Go.RowKit Go.Maps Go.WideMaps
theorem ntSize2 : (Tryz.prog.info? 93).map (·.size) = some 3 := by kernel_rfl
def stRow (A : Option Addr) (c : Nat) (p : Proc) (l : List NtE) (i : Nat) : List Value := [.int .i64 p.runs.m, .int .i64 p.runs.d, .bool p.runs.k, .int .i64 p.obj.m, .int .i64 p.obj.d, .bool p.obj.k, .int .i64 p.wait.m, .int .i64 p.wait.d, .bool p.wait.k, .int .i64 p.exts, .int .i64 p.longest, .slice A p.hols.length c, .int .i64 (Cal.stI p l i).phase, .int .i64 (Cal.stI p l i).last, .int .i64 (Cal.stI p l i).deadline, .int .i64 (Cal.stI p l i).object, .int .i64 (Cal.stI p l i).objected, .int .i64 (Cal.stI p l i).extended]
theorem mk_states (W : World) (n : Nat) (hn : n ≤ 1000) : (Instr.makeSlice 132 (.int .i64 (n : Int)) (.int .i64 (n : Int))).run Tryz.prog W = .ok (.slice (some ⟨W.heap.size, 0, none⟩) n n) (W.alloc (.cells (madeCells #[.int .i64 0, .int .i64 0, .bool false, .int .i64 0, .int .i64 0, .bool false, .int .i64 0, .int .i64 0, .bool false, .int .i64 0, .int .i64 0, .slice none 0 0, .int .i64 0, .int .i64 0, .int .i64 0, .int .i64 0, .int .i64 0, .int .i64 0] (n * 18)) 134)) := by
  have hq : (Tryz.prog.info? 134).map (fun i => (i.zero, i.size, decide (i.bytes ≤ 1000))) = some (some (.agg #[.int .i64 0, .int .i64 0, .bool false, .int .i64 0, .int .i64 0, .bool false, .int .i64 0, .int .i64 0, .bool false, .int .i64 0, .int .i64 0, .slice none 0 0, .int .i64 0, .int .i64 0, .int .i64 0, .int .i64 0, .int .i64 0, .int .i64 0]), 18, true) := by kernel_rfl
  obtain ⟨i, hi, hz, hs, hby⟩ : ∃ i, Tryz.prog.info? 134 = some i ∧ i.zero = some (.agg #[.int .i64 0, .int .i64 0, .bool false, .int .i64 0, .int .i64 0, .bool false, .int .i64 0, .int .i64 0, .bool false, .int .i64 0, .int .i64 0, .slice none 0 0, .int .i64 0, .int .i64 0, .int .i64 0, .int .i64 0, .int .i64 0, .int .i64 0]) ∧ i.size = 18 ∧ i.bytes ≤ 1000 := by
    cases hi : Tryz.prog.info? 134 with
    | none => rw [hi] at hq; cases hq
    | some i =>
      rw [hi, Option.map_some, Option.some.injEq, Prod.mk.injEq, Prod.mk.injEq, decide_eq_true_iff] at hq
      exact ⟨i, rfl, hq.1, hq.2.1, hq.2.2⟩
  have h := run_makeSlice (P := Tryz.prog) W 132 134 i (.agg #[.int .i64 0, .int .i64 0, .bool false, .int .i64 0, .int .i64 0, .bool false, .int .i64 0, .int .i64 0, .bool false, .int .i64 0, .int .i64 0, .slice none 0 0, .int .i64 0, .int .i64 0, .int .i64 0, .int .i64 0, .int .i64 0, .int .i64 0]) Tryz.underlying132 hi hz .i64 .i64 n n (by omega) (Int.le_refl _) (by rw [hs]; omega) (by
    have : ((i.bytes : Nat) : Int) * (n : Int) ≤ 1000 * 1000 := Int.mul_le_mul (by omega) (by omega) (by omega) (by omega)
    omega) (by omega)
  rw [Int.toNat_natCast, hs] at h
  exact h
set_option maxRecDepth 100000 in
set_option maxHeartbeats 8000000 in
theorem Due_any (A : Option Addr) (c : Nat) (p : Proc) (L : Option Addr) (lc : Nat) (l : List NtE) (x y : Int) (w : World) (hl : Hols w A p.hols) (hT : Tab w) (hN : Nts w L lc l) :
    Calls Tryz.prog 20 #[.agg #[.int .i64 p.runs.m, .int .i64 p.runs.d, .bool p.runs.k, .int .i64 p.obj.m, .int .i64 p.obj.d, .bool p.obj.k, .int .i64 p.wait.m, .int .i64 p.wait.d, .bool p.wait.k, .int .i64 p.exts, .int .i64 p.longest, .slice A p.hols.length c], .slice L l.length lc, .agg #[.int .i64 x, .int .i64 y]] w (DuePost w p l x y) := by
  have hl := Lib.hid hl
  have hT := Lib.hid hT
  have hsz := hN.size
  have hN := Lib.hid (fun w' (h : Below w.heap.size w w') => hN.below h)
  have hl' := Lib.hid (fun w' (h : Below w.heap.size w w') => hl.out.below h)
  have hT' := Lib.hid (fun w' (h : Below w.heap.size w w') => hT.out.below h)
  by_cases h0 : Cal.procErr p = 0
  · have hp0 := Lib.hid h0
    by_cases hbig : 40 < l.length
    · have hfin : Hid (Cal.dueE p l x y = 8) := by show _ = _; unfold Cal.dueE Cal.ntsE; rw [if_pos h0, if_pos hbig]; rfl
      clear h0
      obtain ⟨g1, g2, hb⟩ := start2p w A c p x y
      have k0 := g2.out.c 0 _ rfl
      have k1 := g2.out.c 1 _ rfl
      go_enter Tryz.func20, Tryz.ntmps20
      go_wp2_with (refine wpPr g1.out (.tmp 3) rfl ?_)
      refine (CheckProcedure_any A c p _ (hl.out.below hb.out) (hT.out.below hb.out)).mono ?_
      rintro e w1 ⟨rfl, hb1⟩
      have g1 := Lib.hid (g1.out.below hb1)
      have g2 := Lib.hid (g2.out.below hb1)
      have hb := Lib.hid (below_step hb.out hb1)
      clear hb1 k0 k1
      have k0 := g2.out.c 0 _ rfl
      have k1 := g2.out.c 1 _ rfl
      rw [hp0.out]
      go_wp2_with fail
      go_ret2
      exact duePost_err hfin.out (by decide) hb.out
    · have hnE : Hid (Cal.ntsE p l = Cal.namesE (Cal.ckE p) Cal.nmE [] l) := by show _ = _; unfold Cal.ntsE; rw [if_neg hbig]
      have hEE : Hid (Cal.dueE p l x y = if Cal.ntsE p l = 0 then (if 0 ≤ x ∧ x ≤ 200000 ∧ 0 ≤ y ∧ y ≤ 200000 then (if y < x then 9 else 0) else 2) else Cal.ntsE p l) := by show _ = _; unfold Cal.dueE; rw [if_pos h0]
      have hlen : l.length ≤ 40 := by omega
      clear h0 hbig
      obtain ⟨g1, g2, hb⟩ := start2p w A c p x y
      have k0 := g2.out.c 0 _ rfl
      have k1 := g2.out.c 1 _ rfl
      go_enter Tryz.func20, Tryz.ntmps20
      go_wp2_with (refine wpPr g1.out (.tmp 3) rfl ?_)
      refine (CheckProcedure_any A c p _ (hl.out.below hb.out) (hT.out.below hb.out)).mono ?_
      rintro e w1 ⟨rfl, hb1⟩
      have g1 := Lib.hid (g1.out.below hb1)
      have g2 := Lib.hid (g2.out.below hb1)
      have hb := Lib.hid (below_step hb.out hb1)
      clear hb1 k0 k1
      have k0 := g2.out.c 0 _ rfl
      have k1 := g2.out.c 1 _ rfl
      rw [hp0.out]
      have hmm := @run_makeMap Tryz.prog
      have hmk := fun W => mk_states W l.length (by omega)
      have hz1 : w.heap.size + 1 < w1.heap.size := g2.out.lt
      have hM := MapIs.made Tryz.prog 9 strLit w1
      have hSt := madeStates (w1.alloc (.map #[] 0)) l.length #[.int .i64 0, .int .i64 0, .bool false, .int .i64 0, .int .i64 0, .bool false, .int .i64 0, .int .i64 0, .bool false, .int .i64 0, .int .i64 0, .slice none 0 0, .int .i64 0, .int .i64 0, .int .i64 0, .int .i64 0, .int .i64 0, .int .i64 0] 134 (stRow A c p l)
      have hBx := BoxAt.new ((w1.alloc (.map #[] 0)).alloc (.cells (madeCells #[.int .i64 0, .int .i64 0, .bool false, .int .i64 0, .int .i64 0, .bool false, .int .i64 0, .int .i64 0, .bool false, .int .i64 0, .int .i64 0, .slice none 0 0, .int .i64 0, .int .i64 0, .int .i64 0, .int .i64 0, .int .i64 0, .int .i64 0] (l.length * 18)) 134)) #[.slice (some ⟨w1.heap.size + 1, 0, none⟩) l.length l.length] 132
      simp only [World.size_alloc] at hSt hBx
      have hI0 : Hid (DueI w A c p x y w1.heap.size l.length (stRow A c p l) ((l.take 0).map Cal.nmE) 0 0 (.slice none 0 0) (Cal.selZ (Cal.duesB p l x y) 0) (((w1.alloc (.map #[] 0)).alloc (.cells (madeCells #[.int .i64 0, .int .i64 0, .bool false, .int .i64 0, .int .i64 0, .bool false, .int .i64 0, .int .i64 0, .bool false, .int .i64 0, .int .i64 0, .slice none 0 0, .int .i64 0, .int .i64 0, .int .i64 0, .int .i64 0, .int .i64 0, .int .i64 0] (l.length * 18)) 134)).alloc (.cells #[.slice (some ⟨w1.heap.size + 1, 0, none⟩) l.length l.length] 132))) :=
        ⟨below_step (below_step (below_step hb.out (below_alloc _ _)) (below_alloc _ _)) (below_alloc _ _), by omega, ((g1.out.alloc _).alloc _).alloc _, ((g2.out.alloc _).alloc _).alloc _, ⟨_, (hM.alloc _).alloc _, SeenOf.start⟩, hSt.below (below_alloc _ _), hBx, OwnL.nil _ _ _ _, by simp⟩
      have hN0 : Hid (NamesTo (Cal.ckE p) Cal.nmE l 0) := rfl
      clear hM hSt hBx g1 g2 hb
      go_wp2_with fail
      clear hmm hmk k0 k1
      generalize w1.heap.size = M at *
      go_loopg [11, 30] l.length (fun gk o i wr => ∃ k : Nat, gk + k = l.length ∧ i = .int .i64 k ∧ Hid (NamesTo (Cal.ckE p) Cal.nmE l k) ∧ Hid (DueI w A c p x y M l.length (stRow A c p l) ((l.take k).map Cal.nmE) k k o (Cal.selZ (Cal.duesB p l x y) k) wr))
      case atStart => exact ⟨0, by omega, rfl, hN0, hI0⟩
      case round =>
        clear hI0 hN0
        obtain ⟨k, hgk, rfl, hnms, hI⟩ := hrel
        have hlo := hI.out.lo
        have hszr := hI.out.size
        obtain ⟨A11, c11, hv11, _⟩ := hI.out.out.rows
        subst hv11
        have hzl := Cal.selZ_length (Cal.duesB p l x y) k
        by_cases hlt : k < l.length
        · have hk' : l[k]? = some l[k] := List.getElem?_eq_getElem hlt
          have hbad := Lib.hid (fun h => hnms.out.bad hlt h)
          have htw := Lib.hid (fun h h2 => hnms.out.twice hlt h h2)
          have hnx := Lib.hid (fun h h2 => hnms.out.next hlt h h2)
          have htk : Hid ((l.take (k + 1)).map Cal.nmE = (l.take k).map Cal.nmE ++ [Cal.nmE l[k]]) := by show _ = _; rw [List.take_succ_eq_append_getElem hlt, List.map_append]; rfl
          have hNB := Lib.hid (fun w' (h : Below w.heap.size w w') => show NB w' A p l[k].N l[k].n from ⟨hl'.out _ h, hT'.out _ h, ((hN.out _ h).each k _ hk').1, ((hN.out _ h).each k _ hk').2⟩)
          have hnm := ((hN.out _ hI.out.fr).each k _ hk').2
          have hsE := Cal.stI_at (p := p) hlt
          obtain ⟨b, oo, rfl, hbl, c0, c1, c2⟩ := (hN.out _ hI.out.fr).at_ hk'
          clear hk'
          have hkl : (k : Int) < (l.length : Int) := by omega
          have hk0 : (0 : Int) ≤ (k : Int) := by omega
          obtain ⟨s, hs⟩ : ∃ s, Cal.stI p l k = s := ⟨_, rfl⟩
          rw [hs] at hsE
          have hsz := Lib.hid hs
          have hbok := Lib.hid (fun w1 (h : Below w.heap.size w w1) (hE : (Cal.checkS p l[k].n).2 = 0) => by have := behind_ok A c p l[k].N l[k].d l[k].n w1 (hNB.out _ h) hE; rw [← hsE] at this; exact this)
          have hbbd := Lib.hid (fun w1 (h : Below w.heap.size w w1) (hE : (Cal.checkS p l[k].n).2 ≠ 0) => behind_bad A c p l[k].N l[k].d l[k].n w1 (hNB.out _ h) hE)
          have hckz : Hid (Cal.ckE p l[k] = (Cal.checkS p l[k].n).2) := rfl
          have hnmz : Hid (Cal.nmE l[k] = l[k].n.name.data.toList) := rfl
          clear hsE hs hNB
          generalize l[k] = e at *
          have hI1 := Lib.hid (hI.out.below (below_alloc wr (.cells #[.string e.n.name, .int .i64 e.n.opened, .slice e.N e.n.acts.length e.d] 93)))
          have hE1 := Lib.hid (BoxAt.new wr #[.string e.n.name, .int .i64 e.n.opened, .slice e.N e.n.acts.length e.d] 93)
          go_wp2_with (refine wpPr hI1.out.pr (.tmp 3) rfl ?_)
          clear c0 c1 c2
          by_cases hck : (Cal.checkS p e.n).2 = 0
          · refine (hbok.out _ hI1.out.fr hck).mono ?_
            rintro en w2 ⟨rfl, hb2⟩
            have hckE := Lib.hid (show Cal.ckE p e = 0 by rw [hckz.out]; exact hck)
            have hI2 := Lib.hid (hI1.out.below hb2)
            have hE2 := Lib.hid (hE1.out.below hb2)
            have hN8 := Lib.hid (BoxAt.new w2 #[.int .i64 0, .int .i64 0, .bool false, .int .i64 0, .int .i64 0, .bool false, .int .i64 0, .int .i64 0, .bool false, .int .i64 0, .int .i64 0, .slice none 0 0, .int .i64 0, .int .i64 0, .int .i64 0, .int .i64 0, .int .i64 0, .int .i64 0] 134)
            have hsz2 : wr.heap.size + 1 ≤ w2.heap.size := by have := hb2.size; simpa using this
            clear hb2 hI1 hE1 hI hck hbok hbbd
            by_cases hseen : Cal.nmE e ∈ (l.take k).map Cal.nmE
            · have hfin : Hid (Cal.dueE p l x y = 5) := by show _ = _; rw [hEE.out, hnE.out, htw.out hckE.out hseen]; rfl
              have hdec : decide (e.n.name.data.toList ∈ (l.take k).map Cal.nmE) = true := by rw [← hnmz.out]; simpa using hseen
              clear hseen
              go_wp2_with ((refine wpList_store_box rfl 134 (.tmp 14) (.tmp 39) rfl (w2.heap.size) _ [.int .i64 p.runs.m, .int .i64 p.runs.d, .bool p.runs.k, .int .i64 p.obj.m, .int .i64 p.obj.d, .bool p.obj.k, .int .i64 p.wait.m, .int .i64 p.wait.d, .bool p.wait.k, .int .i64 p.exts, .int .i64 p.longest, .slice A p.hols.length c, .int .i64 s.phase, .int .i64 s.last, .int .i64 s.deadline, .int .i64 s.object, .int .i64 s.objected, .int .i64 s.extended] (by rfl) (by rfl) hN8.out rfl stSize (by kernel_rfl) ?_; intro w3 h8 hg8); have hb23 := below_of_grownB (below_alloc w2 _) hg8 (Nat.le_refl _); have hI3 := Lib.hid (hI2.out.below hb23); have e0 := (hE2.out.below hb23).c 0 _ rfl; have hlk := hI3.out.look hnm; rw [hdec] at hlk; clear hb23 hg8)
              go_ret2
              exact duePost_err hfin.out (by decide) hI3.out.fr
            · have hnx2 := Lib.hid (hnx.out hckE.out hseen)
              have hdec : decide (e.n.name.data.toList ∈ (l.take k).map Cal.nmE) = false := by rw [← hnmz.out]; simpa using hseen
              clear hseen
              go_wp2_with ((refine wpList_store_box rfl 134 (.tmp 14) (.tmp 39) rfl (w2.heap.size) _ [.int .i64 p.runs.m, .int .i64 p.runs.d, .bool p.runs.k, .int .i64 p.obj.m, .int .i64 p.obj.d, .bool p.obj.k, .int .i64 p.wait.m, .int .i64 p.wait.d, .bool p.wait.k, .int .i64 p.exts, .int .i64 p.longest, .slice A p.hols.length c, .int .i64 s.phase, .int .i64 s.last, .int .i64 s.deadline, .int .i64 s.object, .int .i64 s.objected, .int .i64 s.extended] (by rfl) (by rfl) hN8.out rfl stSize (by kernel_rfl) ?_; intro w3 h8 hg8); have hb23 := below_of_grownB (below_alloc w2 _) hg8 (Nat.le_refl _); have hI3 := Lib.hid (hI2.out.below hb23); have hE3 := Lib.hid (hE2.out.below hb23); have e0 := hE3.out.c 0 _ rfl; have hlk := hI3.out.look hnm; rw [hdec] at hlk; have h8 := Lib.hid h8; have hsz3 := hb23.size; clear hb23 hg8)
              clear hlk hdec hI2 hE2 hN8
              go_cut [12, 30] from 30 to 73 (fun t ti wc => t = .int .i64 (k : Int) ∧ ti = .int .i64 (k : Int) ∧ Hid (DueI w A c p x y M l.length (stRow A c p l) ((l.take (k + 1)).map Cal.nmE) (k + 1) (k + 1) (.slice A11 (Cal.selZ (Cal.duesB p l x y) k).length c11) (Cal.selZ (Cal.duesB p l x y) k) wc) ∧ Hid (BoxAt wc w2.heap.size [.int .i64 p.runs.m, .int .i64 p.runs.d, .bool p.runs.k, .int .i64 p.obj.m, .int .i64 p.obj.d, .bool p.obj.k, .int .i64 p.wait.m, .int .i64 p.wait.d, .bool p.wait.k, .int .i64 p.exts, .int .i64 p.longest, .slice A p.hols.length c, .int .i64 s.phase, .int .i64 s.last, .int .i64 s.deadline, .int .i64 s.object, .int .i64 s.objected, .int .i64 s.extended]))
              case first =>
                have hdr : Below w3.heap.size w3 w3.drew := (Below.refl _ _).drew
                refine wp_region_held_drew (S := (fun w' => w'.cell? ⟨wr.heap.size, 0, none⟩ = some (.string e.n.name) ∧ w'.cell? ⟨M + 1 + 1, 0, none⟩ = some (.slice (some ⟨M + 1, 0, none⟩) l.length l.length) ∧ w'.rangeAt w2.heap.size 0 [.int .i64 p.runs.m, .int .i64 p.runs.d, .bool p.runs.k, .int .i64 p.obj.m, .int .i64 p.obj.d, .bool p.obj.k, .int .i64 p.wait.m, .int .i64 p.wait.d, .bool p.wait.k, .int .i64 p.exts, .int .i64 p.longest, .slice A p.hols.length c, .int .i64 s.phase, .int .i64 s.last, .int .i64 s.deadline, .int .i64 s.object, .int .i64 s.objected, .int .i64 s.extended])) (by kernel_rfl) ⟨e0, hI3.out.box.c 0 _ rfl, h8.out.range⟩ (fun hHeld => ?_)
                have hI4 := Lib.hid (hI3.out.below hdr)
                have hE4 := Lib.hid (hE3.out.below hdr)
                have h84 := Lib.hid (h8.out.below hdr)
                have hsz4 := hdr.size
                clear hdr hI3 hE3 h8 e0
                generalize w3.drew = w4 at *
                have hl18 : ∀ i, i ≤ k → ((stRow A c p l) i).length = 18 := fun _ _ => rfl
                have hrow : stRow A c p l k = [.int .i64 p.runs.m, .int .i64 p.runs.d, .bool p.runs.k, .int .i64 p.obj.m, .int .i64 p.obj.d, .bool p.obj.k, .int .i64 p.wait.m, .int .i64 p.wait.d, .bool p.wait.k, .int .i64 p.exts, .int .i64 p.longest, .slice A p.hols.length c, .int .i64 s.phase, .int .i64 s.last, .int .i64 s.deadline, .int .i64 s.object, .int .i64 s.objected, .int .i64 s.extended] := by unfold stRow; rw [hsz.out]
                obtain ⟨wm, hrun, hIm, hgm, hszm⟩ := hI4.out.update hnm (by omega)
                have hIm := Lib.hid hIm
                have hS' : (fun w' => w'.cell? ⟨wr.heap.size, 0, none⟩ = some (.string e.n.name) ∧ w'.cell? ⟨M + 1 + 1, 0, none⟩ = some (.slice (some ⟨M + 1, 0, none⟩) l.length l.length) ∧ w'.rangeAt w2.heap.size 0 [.int .i64 p.runs.m, .int .i64 p.runs.d, .bool p.runs.k, .int .i64 p.obj.m, .int .i64 p.obj.d, .bool p.obj.k, .int .i64 p.wait.m, .int .i64 p.wait.d, .bool p.wait.k, .int .i64 p.exts, .int .i64 p.longest, .slice A p.hols.length c, .int .i64 s.phase, .int .i64 s.last, .int .i64 s.deadline, .int .i64 s.object, .int .i64 s.objected, .int .i64 s.extended]) wm := ⟨(World.cell?_of_block (a := ⟨wr.heap.size, 0, none⟩) (hgm.block _ (Nat.lt_of_lt_of_le (hE4.out.lt) (Nat.le_refl _)) (by simp; omega))).trans (hE4.out.c 0 _ rfl), hIm.out.box.c 0 _ rfl, (h84.out.grown hgm (by simp; omega)).range⟩
                have h8m := Lib.hid (h84.out.grown hgm (by simp; omega))
                have hwm := hgm.size
                clear hgm hszm
                (refine tkH 0 (v := ?_) ?_ ?_; rotate_left; focus (intro w' hSw; (try dsimp only at hSw); go_simp; (try with_reducible rfl)); (try simp only [Act.put, List.setIfInBounds_toArray, List.set_cons_zero, List.set_cons_succ]))
                (refine tkH 1 (v := ?_) ?_ ?_; rotate_left; focus (intro w' hSw; (try dsimp only at hSw); go_simp; (try with_reducible rfl)); (try simp only [Act.put, List.setIfInBounds_toArray, List.set_cons_zero, List.set_cons_succ]))
                (refine tkH 2 (v := ?_) ?_ ?_; rotate_left; focus (intro w' hSw; (try dsimp only at hSw); go_simp; (try with_reducible rfl)); (try simp only [Act.put, List.setIfInBounds_toArray, List.set_cons_zero, List.set_cons_succ]))
                (refine tkH 3 (v := ?_) ?_ ?_; rotate_left; focus (intro w' hSw; (try dsimp only at hSw); go_simp; (try with_reducible rfl)); (try simp only [Act.put, List.setIfInBounds_toArray, List.set_cons_zero, List.set_cons_succ]))
                (refine tkH 4 (v := ?_) ?_ ?_; rotate_left; focus (intro w' hSw; (try dsimp only at hSw); go_simp; (try with_reducible rfl)); (try simp only [Act.put, List.setIfInBounds_toArray, List.set_cons_zero, List.set_cons_succ]))
                (refine wpAnyH_take (i := 5) (v := _) rfl (by kernel_rfl) (by decide +kernel) (by decide +kernel) (fun _ _ _ h => h) (yieldsIf_load_mid (by kernel_rfl) 134 _ rfl w2.heap.size 0 (by kernel_rfl) [.int .i64 p.runs.m, .int .i64 p.runs.d, .bool p.runs.k, .int .i64 p.obj.m, .int .i64 p.obj.d, .bool p.obj.k, .int .i64 p.wait.m, .int .i64 p.wait.d, .bool p.wait.k, .int .i64 p.exts, .int .i64 p.longest, .slice A p.hols.length c, .int .i64 s.phase, .int .i64 s.last, .int .i64 s.deadline, .int .i64 s.object, .int .i64 s.objected, .int .i64 s.extended] _ (fun _ h => h.2.2) Tryz.underlying134 rfl stSize) (by assumption) ?_; (try simp only [Act.put, List.setIfInBounds_toArray]); (try simp only [List.set_cons_zero, List.set_cons_succ]))
                (refine wpAnyH_ready (rs := [6]) (by decide +kernel) (by simp) ?_; refine AllReadyH.cons rfl (fun K hK => ?_) AllReadyH.nil; rw [if_pos (by kernel_rfl)]; go_simp)
                (refine hK.out _ _ hS' (fun hHeld => ?_); clear hK K; (try simp only [Act.put, List.setIfInBounds_toArray]); (try simp only [List.set_cons_zero, List.set_cons_succ]))
                (refine tkH 7 (v := ?_) ?_ ?_; rotate_left; focus (intro w' hSw; (try dsimp only at hSw); go_simp; (try with_reducible rfl)); (try simp only [Act.put, List.setIfInBounds_toArray, List.set_cons_zero, List.set_cons_succ]))
                refine wpAnyH_ready (rs := [8]) (by decide +kernel) (by simp) ?_
                refine AllReadyH.cons rfl (fun K hK => ?_) AllReadyH.nil
                rw [if_pos (by kernel_rfl)]
                refine wp_store_mid 134 (.tmp 56) (.tmp 55) rfl (M + 1) (k * 18) #[.int .i64 p.runs.m, .int .i64 p.runs.d, .bool p.runs.k, .int .i64 p.obj.m, .int .i64 p.obj.d, .bool p.obj.k, .int .i64 p.wait.m, .int .i64 p.wait.d, .bool p.wait.k, .int .i64 p.exts, .int .i64 p.longest, .slice A p.hols.length c, .int .i64 s.phase, .int .i64 s.last, .int .i64 s.deadline, .int .i64 s.object, .int .i64 s.objected, .int .i64 s.extended] (by rfl) (by rfl) (by exact hIm.out.sts.part hlt) stSize (by kernel_rfl) ?_
                have hst := hIm.out.stored hlt hl18
                rw [hrow, ← hnmz.out, ← htk.out] at hst
                have hst := Lib.hid hst
                have h8n := Lib.hid (h8m.out.grown (grown_setCells (M + 1) [.int .i64 p.runs.m, .int .i64 p.runs.d, .bool p.runs.k, .int .i64 p.obj.m, .int .i64 p.obj.d, .bool p.obj.k, .int .i64 p.wait.m, .int .i64 p.wait.d, .bool p.wait.k, .int .i64 p.exts, .int .i64 p.longest, .slice A p.hols.length c, .int .i64 s.phase, .int .i64 s.last, .int .i64 s.deadline, .int .i64 s.object, .int .i64 s.objected, .int .i64 s.extended] (k * 18) wm) (by simp; omega))
                have hS0 := hS'.1
                have hwm2 : wr.heap.size < wm.heap.size := Nat.lt_of_lt_of_le hE4.out.lt hwm
                clear hS'
                go_simp
                (refine hK.out _ _ ⟨(World.cell?_of_block (a := ⟨wr.heap.size, 0, none⟩) ((grown_setCells (M + 1) [.int .i64 p.runs.m, .int .i64 p.runs.d, .bool p.runs.k, .int .i64 p.obj.m, .int .i64 p.obj.d, .bool p.obj.k, .int .i64 p.wait.m, .int .i64 p.wait.d, .bool p.wait.k, .int .i64 p.exts, .int .i64 p.longest, .slice A p.hols.length c, .int .i64 s.phase, .int .i64 s.last, .int .i64 s.deadline, .int .i64 s.object, .int .i64 s.objected, .int .i64 s.extended] (k * 18) wm).block _ hwm2 (by simp; omega))).trans hS0, hst.out.box.c 0 _ rfl, h8n.out.range⟩ (fun hHeld => ?_); clear hK K; (try simp only [Act.put, List.setIfInBounds_toArray]); (try simp only [List.set_cons_zero, List.set_cons_succ]))
                refine wpAnyH_done (by kernel_rfl) ?_ _
                clear hHeld
                go_wp2_with fail
                go_meet
                exact ⟨rfl, rfl, hst, h8n⟩
              case rest =>
              clear hI3 hE3 h8 e0
              obtain ⟨rfl, rfl, hI, h8⟩ := hcut
              have e12 := h8.out.c 12 _ rfl
              have e14 := h8.out.c 14 _ rfl
              have b0 := hI.out.bt.c 0 _ rfl
              have b1 := hI.out.bt.c 1 _ rfl
              have hdS : Cal.duesB p l x y k = (decide (s.phase = 1) && (decide (x ≤ s.deadline) && decide (s.deadline ≤ y))) := by unfold Cal.duesB; rw [hsz.out]
              have hszc := hI.out.size
              by_cases hph : s.phase = 1
              · have hphb : (s.phase == 1) = true := by simpa using hph
                by_cases hin : x ≤ s.deadline ∧ s.deadline ≤ y
                · obtain ⟨i1, i2⟩ := hin
                  have hdT : Hid (Cal.duesB p l x y k = true) := by show _ = _; rw [hdS]; simp [hph, i1, i2]
                  clear hph hdS
                  go_wp2_with (first | first | (go_at_call 56; first | refine rin ?_ | refine rout ?_ | refine rany ?_) | ((first | (go_at_call 134) | (go_at_call 59) | (go_at_call 133) | (go_at_call 14) | (go_at_call 178) | (fail) | (go_at_call 139)); first | refine rin ?_ | refine rout ?_ | refine rany ?_) | (at_builtin; refine wpPushI (k : Int) hI.out.out hszc (by omega) rfl _ _ rfl rfl rfl ?_; intro v' w5 hown hb5; have hI5 := Lib.hid (hI.out.pushed hb5 hown)))
                  go_roundg (l.length - (k + 1))
                  case measure => omega
                  case rel => exact ⟨k + 1, by omega, by go_num, hnx2, by rw [Cal.selZ_yes hdT.out]; exact hI5⟩
                · have hdF : Hid (Cal.duesB p l x y k = false) := by show _ = _; rw [hdS]; simp [hph]; omega
                  have hin' : s.deadline < x ∨ y < s.deadline := by omega
                  clear hph hin hdS
                  go_wp2_with first | (go_at_call 56; first | refine rin ?_ | refine rout ?_ | refine rany ?_) | ((first | (go_at_call 134) | (go_at_call 59) | (go_at_call 133) | (go_at_call 14) | (go_at_call 178) | (fail) | (go_at_call 139)); first | refine rin ?_ | refine rout ?_ | refine rany ?_)
                  go_roundg (l.length - (k + 1))
                  case measure => omega
                  case rel => exact ⟨k + 1, by omega, by go_num, hnx2, by rw [Cal.selZ_no hdF.out]; exact hI⟩
              · have hdF : Hid (Cal.duesB p l x y k = false) := by show _ = _; rw [hdS]; simp [hph]
                have hphb : (s.phase == 1) = false := by simpa using hph
                clear hph hdS
                go_wp2_with fail
                go_roundg (l.length - (k + 1))
                case measure => omega
                case rel => exact ⟨k + 1, by omega, by go_num, hnx2, by rw [Cal.selZ_no hdF.out]; exact hI⟩
          · refine (hbbd.out _ hI1.out.fr hck).mono ?_
            rintro en w2 ⟨rfl, hb2⟩
            have hI2 := Lib.hid (hI1.out.below hb2)
            have hN8 := Lib.hid (BoxAt.new w2 #[.int .i64 0, .int .i64 0, .bool false, .int .i64 0, .int .i64 0, .bool false, .int .i64 0, .int .i64 0, .bool false, .int .i64 0, .int .i64 0, .slice none 0 0, .int .i64 0, .int .i64 0, .int .i64 0, .int .i64 0, .int .i64 0, .int .i64 0] 134)
            have hE1' : Hid (Cal.ntsE p l = (Cal.checkS p e.n).2) := by show _ = _; rw [hnE.out, hbad.out (by rw [hckz.out]; exact hck), hckz.out]
            have hfin : Hid (Cal.dueE p l x y = (Cal.checkS p e.n).2) := by show _ = _; rw [hEE.out, hE1'.out, if_neg hck]
            have hne := Lib.hid hck
            have hckb : ((Cal.checkS p e.n).2 != 0) = true := by simpa using hck
            clear hb2 hI1 hE1 hI hck hbok hbbd hE1'
            generalize (Cal.checkS p e.n).2 = E at *
            go_wp2_with ((refine wpList_store_box rfl 134 (.tmp 14) (.tmp 39) rfl (w2.heap.size) _ [.int .i64 0, .int .i64 0, .bool false, .int .i64 0, .int .i64 0, .bool false, .int .i64 0, .int .i64 0, .bool false, .int .i64 0, .int .i64 0, .slice none 0 0, .int .i64 0, .int .i64 0, .int .i64 0, .int .i64 0, .int .i64 0, .int .i64 0] (by rfl) (by rfl) hN8.out rfl stSize (by kernel_rfl) ?_; intro w3 h8 hg8); have hb3 := Lib.hid (below_step hI2.out.fr (below_of_grownB (below_alloc w2 _) hg8 (Nat.le_refl _))))
            go_ret2
            exact duePost_err hfin.out hne.out hb3.out
        · obtain rfl : k = l.length := by omega
          have hE0 : Hid (Cal.ntsE p l = 0) := by show _ = _; rw [hnE.out]; exact hnms.out.stop (Nat.le_refl _)
          have b0 := hI.out.bt.c 0 _ rfl
          have b1 := hI.out.bt.c 1 _ rfl
          rw [hE0.out, if_pos rfl] at hEE
          by_cases hx : 0 ≤ x ∧ x ≤ 200000
          · obtain ⟨x0, x1⟩ := hx
            by_cases hy : 0 ≤ y ∧ y ≤ 200000
            · obtain ⟨y0, y1⟩ := hy
              rw [if_pos ⟨x0, x1, y0, y1⟩] at hEE
              by_cases hxy : y < x
              · rw [if_pos hxy] at hEE
                go_wp2_with first | (go_at_call 56; first | refine rin ?_ | refine rout ?_ | refine rany ?_) | ((first | (go_at_call 134) | (go_at_call 59) | (go_at_call 133) | (go_at_call 14) | (go_at_call 178) | (fail) | (go_at_call 139)); first | refine rin ?_ | refine rout ?_ | refine rany ?_)
                go_ret2
                exact duePost_err hEE.out (by decide) hI.out.fr
              · rw [if_neg hxy] at hEE
                have hxy' : x ≤ y := by omega
                obtain ⟨zs, z1, z2, z3⟩ := Cal.selZ_fin (Cal.duesB p l x y) l.length
                have hsort := Lib.hid (SortDue_own wr (M + 3) (.slice A11 (Cal.selZ (Cal.duesB p l x y) l.length).length c11) (M + 1) (M + 1 + 1) l.length (fun i => (Cal.stI p l i).deadline) zs (by rw [z1]; exact hI.out.out) (by omega) z3 (by omega) (by omega) hI.out.sts.lt hI.out.box.lt (hI.out.box.c 0 _ rfl) (fun i hi => hI.out.sts.rows i hi 14 _ rfl))
                rw [z2] at hsort
                clear hxy z1 z2 z3
                go_wp2_with first | (go_at_call 56; first | refine rin ?_ | refine rout ?_ | refine rany ?_) | ((first | (go_at_call 134) | (go_at_call 59) | (go_at_call 133) | (go_at_call 14) | (go_at_call 178) | (fail) | (go_at_call 139)); first | refine rin ?_ | refine rout ?_ | refine rany ?_)
                refine hsort.out.mono ?_
                rintro en w5 ⟨rfl, hown, hg5⟩
                have hown := Lib.hid (hown.less (B' := w.heap.size) (by omega))
                have hbf := Lib.hid (hI.out.fr.trans ((grown_below hg5 (fun g e => (OwnL.lt hI.out.out g e).1) hI.out.size).mono (by omega)))
                clear hg5 hsort
                go_wp2_with fail
                go_ret2
                exact ⟨.slice A11 (Cal.selZ (Cal.duesB p l x y) l.length).length c11, by rw [hEE.out]; first | done | rfl, by unfold Cal.dueL; rw [hEE.out, if_pos rfl]; exact hown.out, hbf.out⟩
            · rw [if_neg (fun h => hy ⟨h.2.2.1, h.2.2.2⟩)] at hEE
              have hy' : y < 0 ∨ 200000 < y := by omega
              clear hy
              go_wp2_with first | (go_at_call 56; first | refine rin ?_ | refine rout ?_ | refine rany ?_) | ((first | (go_at_call 134) | (go_at_call 59) | (go_at_call 133) | (go_at_call 14) | (go_at_call 178) | (fail) | (go_at_call 139)); first | refine rin ?_ | refine rout ?_ | refine rany ?_)
              go_ret2
              exact duePost_err hEE.out (by decide) hI.out.fr
          · rw [if_neg (fun h => hx ⟨h.1, h.2.1⟩)] at hEE
            have hx' : x < 0 ∨ 200000 < x := by omega
            clear hx
            go_wp2_with first | (go_at_call 56; first | refine rin ?_ | refine rout ?_ | refine rany ?_) | ((first | (go_at_call 134) | (go_at_call 59) | (go_at_call 133) | (go_at_call 14) | (go_at_call 178) | (fail) | (go_at_call 139)); first | refine rin ?_ | refine rout ?_ | refine rany ?_)
            go_ret2
            exact duePost_err hEE.out (by decide) hI.out.fr
  · have hp1 : (Cal.procErr p != 0) = true := by simpa using h0
    have hfin : Hid (Cal.dueE p l x y = Cal.procErr p) := by show _ = _; unfold Cal.dueE; rw [if_neg h0]
    have hne := Lib.hid h0
    clear h0
    obtain ⟨g1, g2, hb⟩ := start2p w A c p x y
    have k0 := g2.out.c 0 _ rfl
    have k1 := g2.out.c 1 _ rfl
    go_enter Tryz.func20, Tryz.ntmps20
    go_wp2_with (refine wpPr g1.out (.tmp 3) rfl ?_)
    refine (CheckProcedure_any A c p _ (hl.out.below hb.out) (hT.out.below hb.out)).mono ?_
    rintro e w1 ⟨rfl, hb1⟩
    have g1 := Lib.hid (g1.out.below hb1)
    have g2 := Lib.hid (g2.out.below hb1)
    have hb := Lib.hid (below_step hb.out hb1)
    clear hb1 k0 k1
    have k0 := g2.out.c 0 _ rfl
    have k1 := g2.out.c 1 _ rfl
    go_wp2_with fail
    go_ret2
    exact duePost_err hfin.out hne.out hb.out
end Go.Proofs.YtbegbajlagcbdaaGreatDoor
namespace Go.Proofs.YtbegbajlagcbdaaGreatDoor
open Go Go.RowKit
set_option maxRecDepth 100000 in
set_option maxHeartbeats 4000000 in
theorem CheckProcedureR_any (A : Option Addr) (c : Nat) (p : Proc) (w : World) (hl : Hols w A p.hols) :
    Calls Tryz.prog 21 #[.agg #[.int .i64 p.runs.m, .int .i64 p.runs.d, .bool p.runs.k, .int .i64 p.obj.m, .int .i64 p.obj.d, .bool p.obj.k, .int .i64 p.wait.m, .int .i64 p.wait.d, .bool p.wait.k, .int .i64 p.exts, .int .i64 p.longest, .slice A p.hols.length c]] w fun e w' => e = .returned (.int .i64 (Cal.procErr p)) ∧ Below w.heap.size w w' := by
  have hl := Lib.hid hl
  have h1 := Lib.hid (BoxAt.new w #[.int .i64 p.runs.m, .int .i64 p.runs.d, .bool p.runs.k, .int .i64 p.obj.m, .int .i64 p.obj.d, .bool p.obj.k, .int .i64 p.wait.m, .int .i64 p.wait.d, .bool p.wait.k, .int .i64 p.exts, .int .i64 p.longest, .slice A p.hols.length c] 47)
  have hb := Lib.hid (below_alloc w (.cells #[.int .i64 p.runs.m, .int .i64 p.runs.d, .bool p.runs.k, .int .i64 p.obj.m, .int .i64 p.obj.d, .bool p.obj.k, .int .i64 p.wait.m, .int .i64 p.wait.d, .bool p.wait.k, .int .i64 p.exts, .int .i64 p.longest, .slice A p.hols.length c] 47))
  have i0 := per_ix0 p
  have i1 := per_ix1 p
  have i2 := per_ix2 p
  go_enter Tryz.func21, Tryz.ntmps21
  go_wp2_with fail
  go_loopw [13] (fun i wr => ∃ k : Int, ((k = 0) ∨ (k = 1 ∧ Hid (p.runs.err = 0)) ∨ (k = 2 ∧ Hid (p.runs.err = 0) ∧ Hid (p.obj.err = 0)) ∨ (k = 3 ∧ Hid (p.runs.err = 0) ∧ Hid (p.obj.err = 0) ∧ Hid (p.wait.err = 0))) ∧ i = .int .i64 k ∧ Hid (Below w.heap.size w wr) ∧ Hid (BoxAt wr w.heap.size [.int .i64 p.runs.m, .int .i64 p.runs.d, .bool p.runs.k, .int .i64 p.obj.m, .int .i64 p.obj.d, .bool p.obj.k, .int .i64 p.wait.m, .int .i64 p.wait.d, .bool p.wait.k, .int .i64 p.exts, .int .i64 p.longest, .slice A p.hols.length c])) (fun i _ => 3 - (intOf i).toNat)
  case atStart => exact ⟨0, .inl rfl, rfl, hb, h1⟩
  case round =>
    obtain ⟨k, hk, rfl, hb, hp⟩ := hrel
    rcases hk with rfl | ⟨rfl, r1⟩ | ⟨rfl, r1, r2⟩ | ⟨rfl, r1, r2, r3⟩
    · by_cases he : p.runs.err = 0
      · have he1 : (Cal.perE p.runs.m p.runs.d p.runs.k != 0) = false := by have : Cal.perE p.runs.m p.runs.d p.runs.k = 0 := he; simpa using this
        have hez := Lib.hid he
        clear he
        go_wp2_with fail
        refine (CheckPeriodR_any p.runs.m p.runs.d p.runs.k _).mono ?_
        rintro e w2 ⟨rfl, hb2⟩
        have hb3 := Lib.hid (below_step (below_step hb.out (below_alloc wr _)) hb2)
        have hp3 := Lib.hid ((hp.out.alloc _).below hb2)
        clear hb2
        go_wp2_with fail
        go_roundw
        case rel => exact ⟨1, .inr (.inl ⟨rfl, hez⟩), rfl, hb3, hp3⟩
        case measure => simp [intOf]
      · have he1 : (Cal.perE p.runs.m p.runs.d p.runs.k != 0) = true := by have : ¬ Cal.perE p.runs.m p.runs.d p.runs.k = 0 := he; simpa using this
        have hfin : Hid (Cal.procErr p = Cal.perE p.runs.m p.runs.d p.runs.k) := Cal.procErr_1 he
        clear he
        go_wp2_with fail
        refine (CheckPeriodR_any p.runs.m p.runs.d p.runs.k _).mono ?_
        rintro e w2 ⟨rfl, hb2⟩
        have hb3 := Lib.hid (below_step (below_step hb.out (below_alloc wr _)) hb2)
        clear hb2
        go_wp2_with fail
        go_ret
        exact ⟨ret_int hfin.out.symm, hb3.out⟩
    · by_cases he : p.obj.err = 0
      · have he1 : (Cal.perE p.obj.m p.obj.d p.obj.k != 0) = false := by have : Cal.perE p.obj.m p.obj.d p.obj.k = 0 := he; simpa using this
        have hez := Lib.hid he
        clear he
        go_wp2_with fail
        refine (CheckPeriodR_any p.obj.m p.obj.d p.obj.k _).mono ?_
        rintro e w2 ⟨rfl, hb2⟩
        have hb3 := Lib.hid (below_step (below_step hb.out (below_alloc wr _)) hb2)
        have hp3 := Lib.hid ((hp.out.alloc _).below hb2)
        clear hb2
        go_wp2_with fail
        go_roundw
        case rel => exact ⟨2, .inr (.inr (.inl ⟨rfl, r1, hez⟩)), rfl, hb3, hp3⟩
        case measure => simp [intOf]
      · have he1 : (Cal.perE p.obj.m p.obj.d p.obj.k != 0) = true := by have : ¬ Cal.perE p.obj.m p.obj.d p.obj.k = 0 := he; simpa using this
        have hfin : Hid (Cal.procErr p = Cal.perE p.obj.m p.obj.d p.obj.k) := Cal.procErr_2 r1.out he
        clear he
        go_wp2_with fail
        refine (CheckPeriodR_any p.obj.m p.obj.d p.obj.k _).mono ?_
        rintro e w2 ⟨rfl, hb2⟩
        have hb3 := Lib.hid (below_step (below_step hb.out (below_alloc wr _)) hb2)
        clear hb2
        go_wp2_with fail
        go_ret
        exact ⟨ret_int hfin.out.symm, hb3.out⟩
    · by_cases he : p.wait.err = 0
      · have he1 : (Cal.perE p.wait.m p.wait.d p.wait.k != 0) = false := by have : Cal.perE p.wait.m p.wait.d p.wait.k = 0 := he; simpa using this
        have hez := Lib.hid he
        clear he
        go_wp2_with fail
        refine (CheckPeriodR_any p.wait.m p.wait.d p.wait.k _).mono ?_
        rintro e w2 ⟨rfl, hb2⟩
        have hb3 := Lib.hid (below_step (below_step hb.out (below_alloc wr _)) hb2)
        have hp3 := Lib.hid ((hp.out.alloc _).below hb2)
        clear hb2
        go_wp2_with fail
        go_roundw
        case rel => exact ⟨3, .inr (.inr (.inr ⟨rfl, r1, r2, hez⟩)), rfl, hb3, hp3⟩
        case measure => simp [intOf]
      · have he1 : (Cal.perE p.wait.m p.wait.d p.wait.k != 0) = true := by have : ¬ Cal.perE p.wait.m p.wait.d p.wait.k = 0 := he; simpa using this
        have hfin : Hid (Cal.procErr p = Cal.perE p.wait.m p.wait.d p.wait.k) := Cal.procErr_3 r1.out r2.out he
        clear he
        go_wp2_with fail
        refine (CheckPeriodR_any p.wait.m p.wait.d p.wait.k _).mono ?_
        rintro e w2 ⟨rfl, hb2⟩
        have hb3 := Lib.hid (below_step (below_step hb.out (below_alloc wr _)) hb2)
        clear hb2
        go_wp2_with fail
        go_ret
        exact ⟨ret_int hfin.out.symm, hb3.out⟩
    · have hE := Cal.procErr_4 r1.out r2.out r3.out
      have c9 := hp.out.c 9 _ rfl
      have c10 := hp.out.c 10 _ rfl
      have c11 := hp.out.c 11 _ rfl
      by_cases hx : 0 ≤ p.exts ∧ p.exts ≤ 12
      · by_cases hy : 0 ≤ p.longest ∧ p.longest ≤ 3660
        · rw [if_pos ⟨hx.1, hx.2, hy.1, hy.2⟩] at hE
          have hfin := Lib.hid hE
          obtain ⟨x0, x1⟩ := hx
          obtain ⟨y0, y1⟩ := hy
          clear hE
          go_wp2_with (first | (go_at_call 56; first | refine rin ?_ | refine rout ?_ | refine rany ?_) | ((first | (go_at_call 134) | (go_at_call 59) | (go_at_call 133) | (go_at_call 14) | (go_at_call 178) | (fail) | (go_at_call 139)); first | refine rin ?_ | refine rout ?_ | refine rany ?_))
          refine (CheckHolidaysR_any _ _ p.hols _ (hl.out.below hb.out)).mono ?_
          rintro e w2 ⟨rfl, hb2⟩
          have hb3 := Lib.hid (below_step hb.out hb2)
          clear hb2
          go_wp2_with fail
          go_ret
          exact ⟨ret_int hfin.out.symm, hb3.out⟩
        · rw [if_neg (fun h => hy ⟨h.2.2.1, h.2.2.2⟩)] at hE
          have hfin := Lib.hid hE
          obtain ⟨x0, x1⟩ := hx
          have hy' : p.longest < 0 ∨ 3660 < p.longest := by omega
          clear hE hy
          go_wp2_with (first | (go_at_call 56; first | refine rin ?_ | refine rout ?_ | refine rany ?_) | ((first | (go_at_call 134) | (go_at_call 59) | (go_at_call 133) | (go_at_call 14) | (go_at_call 178) | (fail) | (go_at_call 139)); first | refine rin ?_ | refine rout ?_ | refine rany ?_))
          go_ret
          exact ⟨ret_int hfin.out.symm, hb.out⟩
      · rw [if_neg (fun h => hx ⟨h.1, h.2.1⟩)] at hE
        have hfin := Lib.hid hE
        have hx' : p.exts < 0 ∨ 12 < p.exts := by omega
        clear hE hx
        go_wp2_with (first | (go_at_call 56; first | refine rin ?_ | refine rout ?_ | refine rany ?_) | ((first | (go_at_call 134) | (go_at_call 59) | (go_at_call 133) | (go_at_call 14) | (go_at_call 178) | (fail) | (go_at_call 139)); first | refine rin ?_ | refine rout ?_ | refine rany ?_))
        go_ret
        exact ⟨ret_int hfin.out.symm, hb.out⟩
def modB (d : Int) (k : Bool) : Bool := !k || (decide (d ≤ 60) || decide (2000 < d))
theorem modest_any (m d : Int) (k : Bool) (w : World) : Calls Tryz.prog 63 #[.agg #[.int .i64 m, .int .i64 d, .bool k]] w fun e w' => e = .returned (.bool (modB d k)) ∧ Below w.heap.size w w' := by
  cases k
  · go_enter Tryz.func63, Tryz.ntmps63
    go_wp2_with fail
    go_ret
    exact ⟨rfl, by exact blw⟩
  · by_cases h1 : d ≤ 60
    · have hfin : Hid (modB d true = true) := by show _ = _; unfold modB; simp [h1]
      go_enter Tryz.func63, Tryz.ntmps63
      go_wp2_with fail
      go_ret
      exact ⟨ret_bool hfin.out.symm, by exact blw⟩
    · have h1d : decide (d ≤ 60) = false := by simpa using h1
      have hfin : Hid (modB d true = decide (2000 < d)) := by show _ = _; unfold modB; rw [h1d]; rfl
      clear h1
      go_enter Tryz.func63, Tryz.ntmps63
      go_wp2_with fail
      go_ret
      exact ⟨ret_bool hfin.out.symm, by exact blw⟩
def BoolPost (w : World) (e : Ending) (w' : World) : Prop := (∃ b : Bool, e = .returned (.bool b)) ∧ Below w.heap.size w w'
set_option maxRecDepth 100000 in
set_option maxHeartbeats 4000000 in
theorem Modest_any (A : Option Addr) (c : Nat) (p : Proc) (w : World) (hl : Hols w A p.hols) : Calls Tryz.prog 18 #[.agg #[.int .i64 p.runs.m, .int .i64 p.runs.d, .bool p.runs.k, .int .i64 p.obj.m, .int .i64 p.obj.d, .bool p.obj.k, .int .i64 p.wait.m, .int .i64 p.wait.d, .bool p.wait.k, .int .i64 p.exts, .int .i64 p.longest, .slice A p.hols.length c]] w (BoolPost w) := by
  have hl := Lib.hid hl
  have h1 := Lib.hid (BoxAt.new w #[.int .i64 p.runs.m, .int .i64 p.runs.d, .bool p.runs.k, .int .i64 p.obj.m, .int .i64 p.obj.d, .bool p.obj.k, .int .i64 p.wait.m, .int .i64 p.wait.d, .bool p.wait.k, .int .i64 p.exts, .int .i64 p.longest, .slice A p.hols.length c] 47)
  have hb := Lib.hid (below_alloc w (.cells #[.int .i64 p.runs.m, .int .i64 p.runs.d, .bool p.runs.k, .int .i64 p.obj.m, .int .i64 p.obj.d, .bool p.obj.k, .int .i64 p.wait.m, .int .i64 p.wait.d, .bool p.wait.k, .int .i64 p.exts, .int .i64 p.longest, .slice A p.hols.length c] 47))
  cases e1 : modB p.runs.d p.runs.k
  · have e1 := Lib.hid e1
    go_enter Tryz.func18, Tryz.ntmps18
    go_wp2_with fail
    refine (modest_any p.runs.m p.runs.d p.runs.k _).mono ?_
    rintro e w9 ⟨rfl, hbn⟩
    rw [e1.out]
    have hb := Lib.hid (below_step hb.out hbn)
    have h1 := Lib.hid (h1.out.below hbn)
    clear hbn
    have c0 := h1.out.c 0 _ rfl
    have c1 := h1.out.c 1 _ rfl
    have c2 := h1.out.c 2 _ rfl
    have c3 := h1.out.c 3 _ rfl
    have c4 := h1.out.c 4 _ rfl
    have c5 := h1.out.c 5 _ rfl
    have c6 := h1.out.c 6 _ rfl
    have c7 := h1.out.c 7 _ rfl
    have c8 := h1.out.c 8 _ rfl
    have c11 := h1.out.c 11 _ rfl
    go_wp2_with fail
    go_ret
    exact ⟨⟨_, rfl⟩, hb.out⟩
  have e1 := Lib.hid e1
  cases e2 : modB p.obj.d p.obj.k
  · have e2 := Lib.hid e2
    go_enter Tryz.func18, Tryz.ntmps18
    go_wp2_with fail
    refine (modest_any p.runs.m p.runs.d p.runs.k _).mono ?_
    rintro e w9 ⟨rfl, hbn⟩
    rw [e1.out]
    have hb := Lib.hid (below_step hb.out hbn)
    have h1 := Lib.hid (h1.out.below hbn)
    clear hbn
    have c0 := h1.out.c 0 _ rfl
    have c1 := h1.out.c 1 _ rfl
    have c2 := h1.out.c 2 _ rfl
    have c3 := h1.out.c 3 _ rfl
    have c4 := h1.out.c 4 _ rfl
    have c5 := h1.out.c 5 _ rfl
    have c6 := h1.out.c 6 _ rfl
    have c7 := h1.out.c 7 _ rfl
    have c8 := h1.out.c 8 _ rfl
    have c11 := h1.out.c 11 _ rfl
    go_wp2_with fail
    refine (modest_any p.obj.m p.obj.d p.obj.k _).mono ?_
    rintro e w9 ⟨rfl, hbn⟩
    rw [e2.out]
    have hb := Lib.hid (below_step hb.out hbn)
    have h1 := Lib.hid (h1.out.below hbn)
    clear hbn
    have c0 := h1.out.c 0 _ rfl
    have c1 := h1.out.c 1 _ rfl
    have c2 := h1.out.c 2 _ rfl
    have c3 := h1.out.c 3 _ rfl
    have c4 := h1.out.c 4 _ rfl
    have c5 := h1.out.c 5 _ rfl
    have c6 := h1.out.c 6 _ rfl
    have c7 := h1.out.c 7 _ rfl
    have c8 := h1.out.c 8 _ rfl
    have c11 := h1.out.c 11 _ rfl
    go_wp2_with fail
    go_ret
    exact ⟨⟨_, rfl⟩, hb.out⟩
  have e2 := Lib.hid e2
  cases e3 : modB p.wait.d p.wait.k
  · have e3 := Lib.hid e3
    go_enter Tryz.func18, Tryz.ntmps18
    go_wp2_with fail
    refine (modest_any p.runs.m p.runs.d p.runs.k _).mono ?_
    rintro e w9 ⟨rfl, hbn⟩
    rw [e1.out]
    have hb := Lib.hid (below_step hb.out hbn)
    have h1 := Lib.hid (h1.out.below hbn)
    clear hbn
    have c0 := h1.out.c 0 _ rfl
    have c1 := h1.out.c 1 _ rfl
    have c2 := h1.out.c 2 _ rfl
    have c3 := h1.out.c 3 _ rfl
    have c4 := h1.out.c 4 _ rfl
    have c5 := h1.out.c 5 _ rfl
    have c6 := h1.out.c 6 _ rfl
    have c7 := h1.out.c 7 _ rfl
    have c8 := h1.out.c 8 _ rfl
    have c11 := h1.out.c 11 _ rfl
    go_wp2_with fail
    refine (modest_any p.obj.m p.obj.d p.obj.k _).mono ?_
    rintro e w9 ⟨rfl, hbn⟩
    rw [e2.out]
    have hb := Lib.hid (below_step hb.out hbn)
    have h1 := Lib.hid (h1.out.below hbn)
    clear hbn
    have c0 := h1.out.c 0 _ rfl
    have c1 := h1.out.c 1 _ rfl
    have c2 := h1.out.c 2 _ rfl
    have c3 := h1.out.c 3 _ rfl
    have c4 := h1.out.c 4 _ rfl
    have c5 := h1.out.c 5 _ rfl
    have c6 := h1.out.c 6 _ rfl
    have c7 := h1.out.c 7 _ rfl
    have c8 := h1.out.c 8 _ rfl
    have c11 := h1.out.c 11 _ rfl
    go_wp2_with fail
    refine (modest_any p.wait.m p.wait.d p.wait.k _).mono ?_
    rintro e w9 ⟨rfl, hbn⟩
    rw [e3.out]
    have hb := Lib.hid (below_step hb.out hbn)
    have h1 := Lib.hid (h1.out.below hbn)
    clear hbn
    have c0 := h1.out.c 0 _ rfl
    have c1 := h1.out.c 1 _ rfl
    have c2 := h1.out.c 2 _ rfl
    have c3 := h1.out.c 3 _ rfl
    have c4 := h1.out.c 4 _ rfl
    have c5 := h1.out.c 5 _ rfl
    have c6 := h1.out.c 6 _ rfl
    have c7 := h1.out.c 7 _ rfl
    have c8 := h1.out.c 8 _ rfl
    have c11 := h1.out.c 11 _ rfl
    go_wp2_with fail
    go_ret
    exact ⟨⟨_, rfl⟩, hb.out⟩
  · have e3 := Lib.hid e3
    go_enter Tryz.func18, Tryz.ntmps18
    go_wp2_with fail
    refine (modest_any p.runs.m p.runs.d p.runs.k _).mono ?_
    rintro e w9 ⟨rfl, hbn⟩
    rw [e1.out]
    have hb := Lib.hid (below_step hb.out hbn)
    have h1 := Lib.hid (h1.out.below hbn)
    clear hbn
    have c0 := h1.out.c 0 _ rfl
    have c1 := h1.out.c 1 _ rfl
    have c2 := h1.out.c 2 _ rfl
    have c3 := h1.out.c 3 _ rfl
    have c4 := h1.out.c 4 _ rfl
    have c5 := h1.out.c 5 _ rfl
    have c6 := h1.out.c 6 _ rfl
    have c7 := h1.out.c 7 _ rfl
    have c8 := h1.out.c 8 _ rfl
    have c11 := h1.out.c 11 _ rfl
    go_wp2_with fail
    refine (modest_any p.obj.m p.obj.d p.obj.k _).mono ?_
    rintro e w9 ⟨rfl, hbn⟩
    rw [e2.out]
    have hb := Lib.hid (below_step hb.out hbn)
    have h1 := Lib.hid (h1.out.below hbn)
    clear hbn
    have c0 := h1.out.c 0 _ rfl
    have c1 := h1.out.c 1 _ rfl
    have c2 := h1.out.c 2 _ rfl
    have c3 := h1.out.c 3 _ rfl
    have c4 := h1.out.c 4 _ rfl
    have c5 := h1.out.c 5 _ rfl
    have c6 := h1.out.c 6 _ rfl
    have c7 := h1.out.c 7 _ rfl
    have c8 := h1.out.c 8 _ rfl
    have c11 := h1.out.c 11 _ rfl
    go_wp2_with fail
    refine (modest_any p.wait.m p.wait.d p.wait.k _).mono ?_
    rintro e w9 ⟨rfl, hbn⟩
    rw [e3.out]
    have hb := Lib.hid (below_step hb.out hbn)
    have h1 := Lib.hid (h1.out.below hbn)
    clear hbn
    have c0 := h1.out.c 0 _ rfl
    have c1 := h1.out.c 1 _ rfl
    have c2 := h1.out.c 2 _ rfl
    have c3 := h1.out.c 3 _ rfl
    have c4 := h1.out.c 4 _ rfl
    have c5 := h1.out.c 5 _ rfl
    have c6 := h1.out.c 6 _ rfl
    have c7 := h1.out.c 7 _ rfl
    have c8 := h1.out.c 8 _ rfl
    have c11 := h1.out.c 11 _ rfl
    go_wp2_with fail
    refine (Calendar_any A c p.hols _ (hl.out.below hb.out)).mono ?_
    rintro e w9 ⟨⟨b, rfl, hbl⟩, rfl⟩
    clear hbl
    go_wp2_with fail
    go_ret
    exact ⟨⟨_, rfl⟩, hb.out⟩
theorem Brief_any (N : Option Addr) (d : Nat) (n : Note) (w : World) (hn : n.name.size ≤ maxLen) (ha : n.acts.length ≤ 9223372036854775807) : Calls Tryz.prog 41 #[.agg #[.string n.name, .int .i64 n.opened, .slice N n.acts.length d]] w (BoolPost w) := by
  unfold maxLen at hn
  by_cases h1 : n.name.size ≤ 30
  · by_cases h2 : n.acts.length ≤ 12
    · go_enter Tryz.func41, Tryz.ntmps41
      go_wp2_with fail
      go_ret
      exact ⟨⟨_, rfl⟩, by exact blw⟩
    · have h2' : 12 < n.acts.length := by omega
      clear h2
      by_cases h3 : 40 < n.acts.length
      · by_cases h4 : n.acts.length ≤ 50
        · go_enter Tryz.func41, Tryz.ntmps41
          go_wp2_with fail
          go_ret
          exact ⟨⟨_, rfl⟩, by exact blw⟩
        · have h4' : 50 < n.acts.length := by omega
          clear h4
          go_enter Tryz.func41, Tryz.ntmps41
          go_wp2_with fail
          go_ret
          exact ⟨⟨_, rfl⟩, by exact blw⟩
      · have h3' : n.acts.length ≤ 40 := by omega
        clear h3
        go_enter Tryz.func41, Tryz.ntmps41
        go_wp2_with fail
        go_ret
        exact ⟨⟨_, rfl⟩, by exact blw⟩
  · have h1' : 30 < n.name.size := by omega
    clear h1
    go_enter Tryz.func41, Tryz.ntmps41
    go_wp2_with fail
    go_ret
    exact ⟨⟨_, rfl⟩, by exact blw⟩
end Go.Proofs.YtbegbajlagcbdaaGreatDoor
