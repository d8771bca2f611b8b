/- Chapter 8 and what it rests on: definitions and walks, part 24. -/
import Derived.Test.YtconnjkkgaapbaaGreatDoorC22
import Derived.Test.YtconnjkkgaapbaaGreatDoorC23
import Derived.Test.YtconnjkkgaapbaaGreatDoorC14
namespace Go.Proofs.YtconnjkkgaapbaaGreatDoor
open Go Go.RowKit
theorem Cal.atS_more (p : Proc) (day : Int) (a : NAct) (l : List NAct) (s : NSt) : Cal.atS p day (a :: l) s = if a.day ≤ day then Cal.atS p day l (Cal.actS p s a).1 else s := rfl
/-- The loop of At. -/
def AtP (p : Proc) (l : List NAct) (s0 : NSt) (day : Int) (k : Nat) (s : NSt) : Prop := (Cal.runS p (l.drop k) s k).2.2 = 0 ∧ Cal.atS p day (l.drop k) s = Cal.atS p day l s0 ∧ StOk s
theorem AtP.next {p : Proc} {l : List NAct} {s0 : NSt} {day : Int} {k : Nat} {s : NSt} {a : NAct} (h : AtP p l s0 day k s) (hd : l.drop k = a :: l.drop (k + 1)) (hx : p.exts ≤ 12) (hday : a.day ≤ day) : (Cal.actS p s a).2 = 0 ∧ AtP p l s0 day (k + 1) (Cal.actS p s a).1 := by
  obtain ⟨h1, h2, h3⟩ := h
  rw [hd] at h1 h2
  obtain ⟨h4, h5⟩ := Cal.runS_cons.1 h1
  rw [Cal.atS_more, if_pos hday] at h2
  exact ⟨h4, h5, h2, h3.act hx h4⟩
theorem AtP.late {p : Proc} {l : List NAct} {s0 : NSt} {day : Int} {k : Nat} {s : NSt} {a : NAct} (h : AtP p l s0 day k s) (hd : l.drop k = a :: l.drop (k + 1)) (hday : ¬ a.day ≤ day) : Cal.atS p day l s0 = s := by
  have h2 := h.2.1
  rw [hd, Cal.atS_more, if_neg hday] at h2
  exact h2.symm
theorem AtP.stop {p : Proc} {l : List NAct} {s0 : NSt} {day : Int} {k : Nat} {s : NSt} (h : AtP p l s0 day k s) (hk : l.length ≤ k) : Cal.atS p day l s0 = s := by
  have h2 := h.2.1
  rw [List.drop_eq_nil_of_le hk] at h2
  exact h2.symm
structure AtI (w : World) (b7 : Nat) (A : Option Addr) (c : Nat) (p : Proc) (N : Option Addr) (d : Nat) (n : Note) (s : NSt) (wr : World) : Prop where
  fr : Below w.heap.size w wr
  g1 : BoxAt wr w.heap.size [.int .i64 p.runs.m, .int .i64 p.runs.d, .bool p.runs.k, .int .i64 p.obj.m, .int .i64 p.obj.d, .bool p.obj.k, .int .i64 p.wait.m, .int .i64 p.wait.d, .bool p.wait.k, .int .i64 p.exts, .int .i64 p.longest, .slice A p.hols.length c]
  g2 : BoxAt wr (w.heap.size + 1) [.string n.name, .int .i64 n.opened, .slice N n.acts.length d]
  r : BoxAt wr (w.heap.size + 1 + 1) [.int .i64 0, .int .i64 0, .int .i64 0, .int .i64 0, .int .i64 0, .int .i64 0]
  s : BoxAt wr b7 [.int .i64 s.phase, .int .i64 s.deadline, .int .i64 s.object, .int .i64 s.last, .int .i64 s.objected, .int .i64 s.extended]
  h6 : w.heap.size + 1 + 1 < b7
theorem AtI.below {w wr wr' : World} {b7 : Nat} {A : Option Addr} {c : Nat} {p : Proc} {N : Option Addr} {d : Nat} {n : Note} {s : NSt} (h : AtI w b7 A c p N d n s wr) (hb : Below wr.heap.size wr wr') : AtI w b7 A c p N d n s wr' :=
  ⟨below_step h.fr hb, h.g1.below hb, h.g2.below hb, h.r.below hb, h.s.below hb, h.h6⟩
theorem AtI.set {w wr wr' : World} {b7 : Nat} {A : Option Addr} {c : Nat} {p : Proc} {N : Option Addr} {d : Nat} {n : Note} {s s' : NSt} (h : AtI w b7 A c p N d n s wr) (hB : BoxAt wr' b7 [.int .i64 s'.phase, .int .i64 s'.deadline, .int .i64 s'.object, .int .i64 s'.last, .int .i64 s'.objected, .int .i64 s'.extended]) (hg : wr.grownBy wr' (some b7)) : AtI w b7 A c p N d n s' wr' :=
  ⟨below_of_grownB h.fr hg (by have := h.h6; omega), h.g1.grown hg (by have := h.h6; simp; omega), h.g2.grown hg (by have := h.h6; simp; omega), h.r.grown hg (by have := h.h6; simp; omega), hB, h.h6⟩
def AtPost (w : World) (s : NSt) (e : Ending) (w' : World) : Prop := e = .returned (.agg #[.int .i64 s.phase, .int .i64 s.deadline, .int .i64 s.object, .int .i64 s.last, .int .i64 s.objected, .int .i64 s.extended]) ∧ Below w.heap.size w w'
set_option maxRecDepth 100000 in
set_option maxHeartbeats 4000000 in
theorem At_any (A : Option Addr) (c : Nat) (p : Proc) (N : Option Addr) (d : Nat) (n : Note) (day : Int) (w : World) (hl : Hols w A p.hols) (ha : Acts w N n.acts) (hv : (Cal.checkS p n).2 = 0) :
    Calls Tryz.prog 33 #[.agg #[.int .i64 p.runs.m, .int .i64 p.runs.d, .bool p.runs.k, .int .i64 p.obj.m, .int .i64 p.obj.d, .bool p.obj.k, .int .i64 p.wait.m, .int .i64 p.wait.d, .bool p.wait.k, .int .i64 p.exts, .int .i64 p.longest, .slice A p.hols.length c], .agg #[.string n.name, .int .i64 n.opened, .slice N n.acts.length d], .int .i64 day] w (AtPost w (Cal.stAt p n day)) := by
  have hsz := ha.size
  have hl := Lib.hid hl
  have ha := Lib.hid ha
  obtain ⟨hp, _, o0, o1, _, hrun⟩ := Cal.checkS_ok hv
  obtain ⟨_, _, _, _, hx, _, _, _⟩ := Cal.procErr_ok hp
  have hpz := Lib.hid hp
  have hP0 : AtP p n.acts (Cal.openSt n.opened) day 0 (Cal.openSt n.opened) := ⟨hrun, rfl, StOk.openSt o0 o1⟩
  have hS : Cal.stAt p n day = Cal.atS p day n.acts (Cal.openSt n.opened) := rfl
  rw [hS]
  obtain ⟨s0, hs0⟩ : ∃ s0, Cal.openSt n.opened = s0 := ⟨_, rfl⟩
  rw [hs0] at hP0 ⊢
  have hcs : Hid (([.int .i64 0, .int .i64 0, .int .i64 0, .int .i64 n.opened, .int .i64 0, .int .i64 0] : List Value) = [.int .i64 s0.phase, .int .i64 s0.deadline, .int .i64 s0.object, .int .i64 s0.last, .int .i64 s0.objected, .int .i64 s0.extended]) := by show _ = _; rw [← hs0]; rfl
  have hP0 := Lib.hid hP0
  clear hp hrun hv hS hs0
  obtain ⟨h1, h2, hb⟩ := start2 w A c p N d n
  have h3 : Hid (BoxAt ((((w.alloc (.cells #[.int .i64 p.runs.m, .int .i64 p.runs.d, .bool p.runs.k, .int .i64 p.obj.m, .int .i64 p.obj.d, .bool p.obj.k, .int .i64 p.wait.m, .int .i64 p.wait.d, .bool p.wait.k, .int .i64 p.exts, .int .i64 p.longest, .slice A p.hols.length c] 26)).alloc (.cells #[.string n.name, .int .i64 n.opened, .slice N n.acts.length d] 29)).alloc (.cells #[.int .i64 0, .int .i64 0, .int .i64 0, .int .i64 0, .int .i64 0, .int .i64 0] 57))) (w.heap.size + 1 + 1) [.int .i64 0, .int .i64 0, .int .i64 0, .int .i64 0, .int .i64 0, .int .i64 0]) := by
    have h := BoxAt.new (W2n w A c p N d n) #[.int .i64 0, .int .i64 0, .int .i64 0, .int .i64 0, .int .i64 0, .int .i64 0] 57
    rw [W2n_size] at h
    exact h
  have h1 := Lib.hid (h1.out.alloc (.cells #[.int .i64 0, .int .i64 0, .int .i64 0, .int .i64 0, .int .i64 0, .int .i64 0] 57))
  have h2 := Lib.hid (h2.out.alloc (.cells #[.int .i64 0, .int .i64 0, .int .i64 0, .int .i64 0, .int .i64 0, .int .i64 0] 57))
  have hb := Lib.hid (below_step hb.out (below_alloc _ (.cells #[.int .i64 0, .int .i64 0, .int .i64 0, .int .i64 0, .int .i64 0, .int .i64 0] 57)))
  have hN7 : Hid (BoxAt (((((w.alloc (.cells #[.int .i64 p.runs.m, .int .i64 p.runs.d, .bool p.runs.k, .int .i64 p.obj.m, .int .i64 p.obj.d, .bool p.obj.k, .int .i64 p.wait.m, .int .i64 p.wait.d, .bool p.wait.k, .int .i64 p.exts, .int .i64 p.longest, .slice A p.hols.length c] 26)).alloc (.cells #[.string n.name, .int .i64 n.opened, .slice N n.acts.length d] 29)).alloc (.cells #[.int .i64 0, .int .i64 0, .int .i64 0, .int .i64 0, .int .i64 0, .int .i64 0] 57))).alloc (.cells #[.int .i64 0, .int .i64 0, .int .i64 0, .int .i64 0, .int .i64 0, .int .i64 0] 57)) (w.heap.size + 1 + 1 + 1) [.int .i64 0, .int .i64 0, .int .i64 0, .int .i64 0, .int .i64 0, .int .i64 0]) := by
    have h := BoxAt.new ((W2n w A c p N d n).alloc (.cells #[.int .i64 0, .int .i64 0, .int .i64 0, .int .i64 0, .int .i64 0, .int .i64 0] 57)) #[.int .i64 0, .int .i64 0, .int .i64 0, .int .i64 0, .int .i64 0, .int .i64 0] 57
    rw [World.size_alloc, W2n_size] at h
    exact h
  have c1 := h2.out.c 1 _ rfl
  go_enter Tryz.func33, Tryz.ntmps33
  go_wp2_with (first | refine wpList_store_box rfl 57 (.tmp 7) (.tmp 11) rfl (w.heap.size + 1 + 1 + 1) _ [.int .i64 0, .int .i64 0, .int .i64 0, .int .i64 n.opened, .int .i64 0, .int .i64 0] (by rfl) (by rfl) hN7.out rfl rsSize (by kernel_rfl) ?_; intro w3 h7 hg7)
  have hI : Hid (AtI w (w.heap.size + 1 + 1 + 1) A c p N d n s0 w3) := ⟨below_of_grownB (below_step hb.out (below_alloc _ _)) hg7 (by omega), (h1.out.alloc _).grown hg7 (by simp; omega), (h2.out.alloc _).grown hg7 (by first | (simp; done) | (simp; omega)), (h3.out.alloc _).grown hg7 (by first | (simp; done) | (simp; omega)), hcs.out ▸ h7, by omega⟩
  clear h1 h2 h3 hb hN7 h7 hg7 c1 hcs
  generalize w.heap.size + 1 + 1 + 1 = b7 at *
  go_loopw [8] (fun i wr => ∃ (k : Nat) (s : NSt), k ≤ n.acts.length ∧ i = .int .i64 k ∧ Hid (AtP p n.acts s0 day k s) ∧ Hid (AtI w b7 A c p N d n s wr)) (fun i _ => n.acts.length - (intOf i).toNat)
  case atStart => exact ⟨0, s0, Nat.zero_le _, rfl, hP0, hI⟩
  case round =>
    obtain ⟨k, s, hk, rfl, hP, hI⟩ := hrel
    clear hP0
    have c2 := hI.out.g2.c 2 _ rfl
    by_cases hlt : k < n.acts.length
    · have hk' : n.acts[k]? = some n.acts[k] := List.getElem?_eq_getElem hlt
      have hd := Lib.hid (List.drop_eq_getElem_cons hlt)
      obtain ⟨b, o, rfl, hb0, _⟩ := ha.out.at_ hk'
      have hbne : b ≠ b7 := by have := hI.out.h6; omega
      obtain ⟨b', o', hbo, hbl, e0, e1, e2⟩ := (ha.out.below hI.out.fr).at_ hk'
      simp only [Option.some.injEq, Addr.mk.injEq, and_true] at hbo
      obtain ⟨rfl, rfl⟩ := hbo
      clear hk'
      generalize n.acts[k] = a at *
      by_cases hday : a.day ≤ day
      · have hok := hP.out.2.2
        have hz6 := hI.out.s.lt
        obtain ⟨hE, hnx⟩ := hP.out.next hd.out hx hday
        rcases hr : Cal.actS p s a with ⟨s2, E⟩
        rw [hr] at hE hnx
        have hE : E = 0 := hE
        subst hE
        have hst := Lib.hid (fun w1 h => Step_any A c p s a w1 h hok hpz.out)
        rw [hr] at hst
        have hnx := Lib.hid hnx
        clear hr
        go_wp2_with fail
        have hu : ∀ w', Below wr.heap.size wr w' → w'.cell? ⟨b, o + k * 3, none⟩ = some (.int .i64 a.day) ∧ w'.cell? ⟨b, o + k * 3 + 1, none⟩ = some (.int .i64 a.kind) ∧ w'.cell? ⟨b, o + k * 3 + 2, none⟩ = some (.int .i64 a.days) := fun w' hb' => ⟨(hb'.cell (p := ⟨b, _, none⟩) hbl).trans e0, (hb'.cell (p := ⟨b, _, none⟩) hbl).trans e1, (hb'.cell (p := ⟨b, _, none⟩) hbl).trans e2⟩
        have hu := Lib.hid hu
        have x0 := hI.out.s.c 0 _ rfl
        have x1 := hI.out.s.c 1 _ rfl
        have x2 := hI.out.s.c 2 _ rfl
        have x3 := hI.out.s.c 3 _ rfl
        have x4 := hI.out.s.c 4 _ rfl
        have x5 := hI.out.s.c 5 _ rfl
        refine wp_region_held_drew (S := (fun w' => BoxAt w' w.heap.size [.int .i64 p.runs.m, .int .i64 p.runs.d, .bool p.runs.k, .int .i64 p.obj.m, .int .i64 p.obj.d, .bool p.obj.k, .int .i64 p.wait.m, .int .i64 p.wait.d, .bool p.wait.k, .int .i64 p.exts, .int .i64 p.longest, .slice A p.hols.length c] ∧ w'.cell? ⟨w.heap.size + 1, 2, none⟩ = some (.slice (some ⟨b, o, none⟩) n.acts.length d) ∧ w'.cell? ⟨b, o + k * 3, none⟩ = some (.int .i64 a.day) ∧ w'.cell? ⟨b, o + k * 3 + 1, none⟩ = some (.int .i64 a.kind) ∧ w'.cell? ⟨b, o + k * 3 + 2, none⟩ = some (.int .i64 a.days))) (by kernel_rfl) ⟨hI.out.g1.below (Below.refl _ _).drew, c2, e0, e1, e2⟩ (fun hHeld => ?_)
        (refine wpAnyH_take (i := 0) (v := _) rfl (by kernel_rfl) (by decide +kernel) (by decide +kernel) (fun _ _ _ h => h) (yieldsIf_load_mid (by kernel_rfl) 26 _ rfl (w.heap.size) 0 (by kernel_rfl) [.int .i64 p.runs.m, .int .i64 p.runs.d, .bool p.runs.k, .int .i64 p.obj.m, .int .i64 p.obj.d, .bool p.obj.k, .int .i64 p.wait.m, .int .i64 p.wait.d, .bool p.wait.k, .int .i64 p.exts, .int .i64 p.longest, .slice A p.hols.length c] _ (fun _ h => h.1.range) Tryz.underlying26 rfl prSize) (by assumption) ?_; (try simp only [Act.put, List.setIfInBounds_toArray]); (try simp only [List.set_cons_zero, List.set_cons_succ]))
        (refine tkH 2 (v := ?_) ?_ ?_; rotate_left; focus (intro w' hSw; (try dsimp only at hSw); go_simp; (try with_reducible rfl)); (try simp only [Act.put, List.setIfInBounds_toArray, List.set_cons_zero, List.set_cons_succ]))
        (refine tkH 3 (v := ?_) ?_ ?_; rotate_left; focus (intro w' hSw; (try dsimp only at hSw); go_simp; (try with_reducible rfl)); (try simp only [Act.put, List.setIfInBounds_toArray, List.set_cons_zero, List.set_cons_succ]))
        (refine tkH 4 (v := ?_) ?_ ?_; rotate_left; focus (intro w' hSw; (try dsimp only at hSw); go_simp; (try with_reducible rfl)); (try simp only [Act.put, List.setIfInBounds_toArray, List.set_cons_zero, List.set_cons_succ]))
        (refine tkH 5 (v := ?_) ?_ ?_; rotate_left; focus (intro w' hSw; (try dsimp only at hSw); go_simp; (try with_reducible rfl)); (try simp only [Act.put, List.setIfInBounds_toArray, List.set_cons_zero, List.set_cons_succ]))
        (refine tkH 6 (v := ?_) ?_ ?_; rotate_left; focus (intro w' hSw; (try dsimp only at hSw); go_simp; (try with_reducible rfl)); (try simp only [Act.put, List.setIfInBounds_toArray, List.set_cons_zero, List.set_cons_succ]))
        (refine wpAnyH_ready (rs := [1]) (by decide +kernel) (by simp) ?_; refine AllReadyH.cons rfl (fun K hK => ?_) AllReadyH.nil; rw [if_pos (by kernel_rfl)]; go_simp)
        (refine hK.out _ _ ⟨hI.out.g1.below (Below.refl _ _).drew, c2, e0, e1, e2⟩ (fun hHeld => ?_); clear hK K; (try simp only [Act.put, List.setIfInBounds_toArray]); (try simp only [List.set_cons_zero, List.set_cons_succ]))
        (refine wpAnyH_ready (rs := [7]) (by decide +kernel) (by simp) ?_; refine AllReadyH.cons rfl (fun K hK => ?_) AllReadyH.nil; rw [if_pos (by kernel_rfl)]; go_simp)
        refine (hst.out _ (hl.out.below (hI.out.fr.drew))).mono ?_
        rintro e w5 ⟨⟨s', rfl, hsq⟩, hb5⟩
        have hs' := Lib.hid hsq
        clear hsq
        have hb45 := below_of_drewN (n := 1) hb5
        have hI5 := Lib.hid (hI.out.below hb45)
        have hu5 := hu.out _ hb45
        clear x0 x1 x2 x3 x4 x5 hb5
        go_simp
        (refine hK.out _ _ ⟨hI5.out.g1, hI5.out.g2.c 2 _ rfl, hu5⟩ (fun hHeld => ?_); clear hK K; (try simp only [Act.put, List.setIfInBounds_toArray]); (try simp only [List.set_cons_zero, List.set_cons_succ]))
        (refine tkH 8 (v := ?_) ?_ ?_; rotate_left; focus (intro w' hSw; (try dsimp only at hSw); go_simp; (try with_reducible rfl)); (try simp only [Act.put, List.setIfInBounds_toArray, List.set_cons_zero, List.set_cons_succ]))
        (refine tkH 9 (v := ?_) ?_ ?_; rotate_left; focus (intro w' hSw; (try dsimp only at hSw); go_simp; (try with_reducible rfl)); (try simp only [Act.put, List.setIfInBounds_toArray, List.set_cons_zero, List.set_cons_succ]))
        (refine tkH 10 (v := ?_) ?_ ?_; rotate_left; focus (intro w' hSw; (try dsimp only at hSw); go_simp; (try with_reducible rfl)); (try simp only [Act.put, List.setIfInBounds_toArray, List.set_cons_zero, List.set_cons_succ]))
        refine wpAnyH_ready (rs := [11]) (by decide +kernel) (by simp) ?_
        refine AllReadyH.cons rfl (fun K hK => ?_) AllReadyH.nil
        rw [if_pos (by kernel_rfl)]
        refine wp_store_mid 57 (.tmp 7) (.tmp 38) rfl b7 0 #[.int .i64 s'.phase, .int .i64 s'.deadline, .int .i64 s'.object, .int .i64 s'.last, .int .i64 s'.objected, .int .i64 s'.extended] (by rfl) (by rfl) (by exact hI5.out.s.there) rsSize (by kernel_rfl) ?_
        have hB8 := hI5.out.s.put [.int .i64 s'.phase, .int .i64 s'.deadline, .int .i64 s'.object, .int .i64 s'.last, .int .i64 s'.objected, .int .i64 s'.extended] rfl
        have hg8 := grown_setCells b7 [.int .i64 s'.phase, .int .i64 s'.deadline, .int .i64 s'.object, .int .i64 s'.last, .int .i64 s'.objected, .int .i64 s'.extended] 0 w5
        have hI8 := Lib.hid (hI5.out.set hB8 hg8)
        have hcell := fun (x : Addr) (h : x.block < w5.heap.size) (h2 : x.block ≠ b7) => World.cell?_of_block (a := x) (hg8.block x.block h (by simpa using h2))
        have hlt5 := hb45.size
        have hneb : b ≠ b7 := hbne
        have hu8 : (w5.setCells b7 0 [.int .i64 s'.phase, .int .i64 s'.deadline, .int .i64 s'.object, .int .i64 s'.last, .int .i64 s'.objected, .int .i64 s'.extended]).cell? ⟨b, o + k * 3, none⟩ = some (.int .i64 a.day) ∧ (w5.setCells b7 0 [.int .i64 s'.phase, .int .i64 s'.deadline, .int .i64 s'.object, .int .i64 s'.last, .int .i64 s'.objected, .int .i64 s'.extended]).cell? ⟨b, o + k * 3 + 1, none⟩ = some (.int .i64 a.kind) ∧ (w5.setCells b7 0 [.int .i64 s'.phase, .int .i64 s'.deadline, .int .i64 s'.object, .int .i64 s'.last, .int .i64 s'.objected, .int .i64 s'.extended]).cell? ⟨b, o + k * 3 + 2, none⟩ = some (.int .i64 a.days) := ⟨(hcell ⟨b, _, none⟩ (by show b < _; omega) hneb).trans hu5.1, (hcell ⟨b, _, none⟩ (by show b < _; omega) hneb).trans hu5.2.1, (hcell ⟨b, _, none⟩ (by show b < _; omega) hneb).trans hu5.2.2⟩
        clear hcell hB8 hg8
        (refine hK.out _ _ ⟨hI8.out.g1, hI8.out.g2.c 2 _ rfl, hu8⟩ (fun hHeld => ?_); clear hK K; (try simp only [Act.put, List.setIfInBounds_toArray]); (try simp only [List.set_cons_zero, List.set_cons_succ]))
        refine wpAnyH_done (by kernel_rfl) ?_ _
        clear hHeld hu8 hu5 hb45 hI5 hI
        obtain rfl : s' = s2 := hs'.out rfl
        go_wp2_with fail
        go_roundw
        case rel => exact ⟨k + 1, s', by omega, by go_num, hnx, hI8⟩
        case measure => simp [intOf]; omega
      · have hday' : decide (a.day ≤ day) = false := by simpa using hday
        have hfin := Lib.hid (hP.out.late hd.out hday)
        have hz6 := hI.out.h6
        clear hday
        go_wp2_with (first
          | (refine wpList_load_mid rfl 57 (.tmp 7) rfl b7 0 rfl [.int .i64 s.phase, .int .i64 s.deadline, .int .i64 s.object, .int .i64 s.last, .int .i64 s.objected, .int .i64 s.extended] _ hI.out.s.range Tryz.underlying57 rfl rsSize ?_)
          | (refine wpList_store_box rfl 57 (.tmp 6) (.tmp 40) rfl (w.heap.size + 1 + 1) _ [.int .i64 s.phase, .int .i64 s.deadline, .int .i64 s.object, .int .i64 s.last, .int .i64 s.objected, .int .i64 s.extended] (by rfl) (by rfl) hI.out.r rfl rsSize (by kernel_rfl) ?_; intro w66 h66 hg66; have hb66 := Lib.hid (below_of_grownB hI.out.fr hg66 (by omega))))
        (try simp only [Exit.inBlock, Exit.then])
        rw [hfin.out]
        refine bodyPost_ret (results_mid1 rfl _ _ (w.heap.size + 1 + 1) [.int .i64 s.phase, .int .i64 s.deadline, .int .i64 s.object, .int .i64 s.last, .int .i64 s.objected, .int .i64 s.extended] _ (by kernel_rfl) h66.range Tryz.underlying57 rfl rsSize) rfl ⟨by rfl, hb66.out⟩
    · have hfin := Lib.hid (hP.out.stop (by omega : n.acts.length ≤ k))
      have hge : n.acts.length = k := by omega
      have hz6 := hI.out.h6
      clear hP
      go_wp2_with (first
        | (refine wpList_load_mid rfl 57 (.tmp 7) rfl b7 0 rfl [.int .i64 s.phase, .int .i64 s.deadline, .int .i64 s.object, .int .i64 s.last, .int .i64 s.objected, .int .i64 s.extended] _ hI.out.s.range Tryz.underlying57 rfl rsSize ?_)
        | (refine wpList_store_box rfl 57 (.tmp 6) (.tmp 40) rfl (w.heap.size + 1 + 1) _ [.int .i64 s.phase, .int .i64 s.deadline, .int .i64 s.object, .int .i64 s.last, .int .i64 s.objected, .int .i64 s.extended] (by rfl) (by rfl) hI.out.r rfl rsSize (by kernel_rfl) ?_; intro w66 h66 hg66; have hb66 := Lib.hid (below_of_grownB hI.out.fr hg66 (by omega))))
      (try simp only [Exit.inBlock, Exit.then])
      rw [hfin.out]
      refine bodyPost_ret (results_mid1 rfl _ _ (w.heap.size + 1 + 1) [.int .i64 s.phase, .int .i64 s.deadline, .int .i64 s.object, .int .i64 s.last, .int .i64 s.objected, .int .i64 s.extended] _ (by kernel_rfl) h66.range Tryz.underlying57 rfl rsSize) rfl ⟨by rfl, hb66.out⟩
end Go.Proofs.YtconnjkkgaapbaaGreatDoor
namespace Go.Proofs.YtconnjkkgaapbaaGreatDoor
open Go Go.RowKit
theorem Cal.phaseS_6 {p : Proc} {n : Note} {day : Int} {s : NSt} (hE : Cal.onE p n day = 0) (hs : Cal.stAt p n day = s) (h1 : s.phase = 1) (h2 : s.deadline < day) : Cal.phaseS p n day = (6, 0) := by
  unfold Cal.phaseS; rw [if_pos hE, hs, if_pos ⟨h1, h2⟩]
theorem Cal.phaseS_s {p : Proc} {n : Note} {day : Int} {s : NSt} (hE : Cal.onE p n day = 0) (hs : Cal.stAt p n day = s) (h : ¬ (s.phase = 1 ∧ s.deadline < day)) : Cal.phaseS p n day = (s.phase, 0) := by
  unfold Cal.phaseS; rw [if_pos hE, hs, if_neg h]
set_option maxRecDepth 100000 in
set_option maxHeartbeats 4000000 in
theorem Phase_any (A : Option Addr) (c : Nat) (p : Proc) (N : Option Addr) (d : Nat) (n : Note) (day : Int) (w : World) (hN : NB w A p N n) :
    Calls Tryz.prog 23 #[.agg #[.int .i64 p.runs.m, .int .i64 p.runs.d, .bool p.runs.k, .int .i64 p.obj.m, .int .i64 p.obj.d, .bool p.obj.k, .int .i64 p.wait.m, .int .i64 p.wait.d, .bool p.wait.k, .int .i64 p.exts, .int .i64 p.longest, .slice A p.hols.length c], .agg #[.string n.name, .int .i64 n.opened, .slice N n.acts.length d], .int .i64 day] w (IEPost w (Cal.phaseS p n day)) := by
  have hN := Lib.hid hN
  by_cases hE : Cal.onE p n day = 0
  · have hon := Lib.hid (fun w1 h => on_ok A c p N d n day w1 h hE)
    obtain ⟨s, hs⟩ : ∃ s, Cal.stAt p n day = s := ⟨_, rfl⟩
    rw [hs] at hon
    by_cases hp : s.phase = 1
    · have hp1 : (s.phase == 1) = true := by simpa using hp
      by_cases hd : s.deadline < day
      · have hfin := Lib.hid (Cal.phaseS_6 hE hs hp hd)
        have hd1 : decide (s.deadline < day) = true := by simpa using hd
        clear hp hE hs hd
        obtain ⟨h1, h2, hb⟩ := start2 w A c p N d n
        have c0 := h2.out.c 0 _ rfl
        have c1 := h2.out.c 1 _ rfl
        have c2 := h2.out.c 2 _ rfl
        go_enter Tryz.func23, Tryz.ntmps23
        go_wp2_with (refine wpPr h1.out (.tmp 3) rfl ?_)
        clear c0 c1 c2
        refine (hon.out _ (hN.out.below hb.out)).mono ?_
        rintro e w1 ⟨he, hb1⟩
        subst he
        have hbw := Lib.hid (below_step hb.out hb1)
        have g1 := Lib.hid (h1.out.below hb1)
        have hz := (h1.out.below hb1).lt
        have hN8 := Lib.hid (BoxAt.new w1 #[.int .i64 0, .int .i64 0, .bool false, .int .i64 0, .int .i64 0, .bool false, .int .i64 0, .int .i64 0, .bool false, .int .i64 0, .int .i64 0, .slice none 0 0, .int .i64 0, .int .i64 0, .int .i64 0, .int .i64 0, .int .i64 0, .int .i64 0] 104)
        clear hb1 h1 h2 hb
        go_wp2_with ((refine wpList_store_box rfl 104 (.tmp 8) (.tmp 15) rfl (w1.heap.size) _ [.int .i64 p.runs.m, .int .i64 p.runs.d, .bool p.runs.k, .int .i64 p.obj.m, .int .i64 p.obj.d, .bool p.obj.k, .int .i64 p.wait.m, .int .i64 p.wait.d, .bool p.wait.k, .int .i64 p.exts, .int .i64 p.longest, .slice A p.hols.length c, .int .i64 s.phase, .int .i64 s.last, .int .i64 s.deadline, .int .i64 s.object, .int .i64 s.objected, .int .i64 s.extended] (by rfl) (by rfl) hN8.out rfl stSize (by kernel_rfl) ?_; intro w2 h8 hg8); have hb12 := below_of_grownB (below_alloc w1 _) hg8 (Nat.le_refl _); have hb2 := Lib.hid (below_step hbw.out hb12); have g2 := Lib.hid (g1.out.below hb12); have e12 := h8.c 12 _ rfl; have e14 := h8.c 14 _ rfl; have e9 := g2.out.c 11 _ rfl; have e6 := g2.out.c 6 _ rfl; have e7 := g2.out.c 7 _ rfl; have e8 := g2.out.c 8 _ rfl; have h8 := Lib.hid h8; clear hb12 hg8)
        go_ret2
        exact ⟨by rw [hfin.out]; first | done | rfl, hb2.out⟩
      · have hfin := Lib.hid (Cal.phaseS_s hE hs (fun h => hd h.2))
        have hd1 : decide (s.deadline < day) = false := by simpa using hd
        clear hp hE hs hd
        obtain ⟨h1, h2, hb⟩ := start2 w A c p N d n
        have c0 := h2.out.c 0 _ rfl
        have c1 := h2.out.c 1 _ rfl
        have c2 := h2.out.c 2 _ rfl
        go_enter Tryz.func23, Tryz.ntmps23
        go_wp2_with (refine wpPr h1.out (.tmp 3) rfl ?_)
        clear c0 c1 c2
        refine (hon.out _ (hN.out.below hb.out)).mono ?_
        rintro e w1 ⟨he, hb1⟩
        subst he
        have hbw := Lib.hid (below_step hb.out hb1)
        have g1 := Lib.hid (h1.out.below hb1)
        have hz := (h1.out.below hb1).lt
        have hN8 := Lib.hid (BoxAt.new w1 #[.int .i64 0, .int .i64 0, .bool false, .int .i64 0, .int .i64 0, .bool false, .int .i64 0, .int .i64 0, .bool false, .int .i64 0, .int .i64 0, .slice none 0 0, .int .i64 0, .int .i64 0, .int .i64 0, .int .i64 0, .int .i64 0, .int .i64 0] 104)
        clear hb1 h1 h2 hb
        go_wp2_with ((refine wpList_store_box rfl 104 (.tmp 8) (.tmp 15) rfl (w1.heap.size) _ [.int .i64 p.runs.m, .int .i64 p.runs.d, .bool p.runs.k, .int .i64 p.obj.m, .int .i64 p.obj.d, .bool p.obj.k, .int .i64 p.wait.m, .int .i64 p.wait.d, .bool p.wait.k, .int .i64 p.exts, .int .i64 p.longest, .slice A p.hols.length c, .int .i64 s.phase, .int .i64 s.last, .int .i64 s.deadline, .int .i64 s.object, .int .i64 s.objected, .int .i64 s.extended] (by rfl) (by rfl) hN8.out rfl stSize (by kernel_rfl) ?_; intro w2 h8 hg8); have hb12 := below_of_grownB (below_alloc w1 _) hg8 (Nat.le_refl _); have hb2 := Lib.hid (below_step hbw.out hb12); have g2 := Lib.hid (g1.out.below hb12); have e12 := h8.c 12 _ rfl; have e14 := h8.c 14 _ rfl; have e9 := g2.out.c 11 _ rfl; have e6 := g2.out.c 6 _ rfl; have e7 := g2.out.c 7 _ rfl; have e8 := g2.out.c 8 _ rfl; have h8 := Lib.hid h8; clear hb12 hg8)
        go_ret2
        exact ⟨by rw [hfin.out]; first | done | rfl, hb2.out⟩
    · have hfin := Lib.hid (Cal.phaseS_s hE hs (fun h => hp h.1))
      have hp1 : (s.phase == 1) = false := by simpa using hp
      clear hp hE hs
      obtain ⟨h1, h2, hb⟩ := start2 w A c p N d n
      have c0 := h2.out.c 0 _ rfl
      have c1 := h2.out.c 1 _ rfl
      have c2 := h2.out.c 2 _ rfl
      go_enter Tryz.func23, Tryz.ntmps23
      go_wp2_with (refine wpPr h1.out (.tmp 3) rfl ?_)
      clear c0 c1 c2
      refine (hon.out _ (hN.out.below hb.out)).mono ?_
      rintro e w1 ⟨he, hb1⟩
      subst he
      have hbw := Lib.hid (below_step hb.out hb1)
      have g1 := Lib.hid (h1.out.below hb1)
      have hz := (h1.out.below hb1).lt
      have hN8 := Lib.hid (BoxAt.new w1 #[.int .i64 0, .int .i64 0, .bool false, .int .i64 0, .int .i64 0, .bool false, .int .i64 0, .int .i64 0, .bool false, .int .i64 0, .int .i64 0, .slice none 0 0, .int .i64 0, .int .i64 0, .int .i64 0, .int .i64 0, .int .i64 0, .int .i64 0] 104)
      clear hb1 h1 h2 hb
      go_wp2_with ((refine wpList_store_box rfl 104 (.tmp 8) (.tmp 15) rfl (w1.heap.size) _ [.int .i64 p.runs.m, .int .i64 p.runs.d, .bool p.runs.k, .int .i64 p.obj.m, .int .i64 p.obj.d, .bool p.obj.k, .int .i64 p.wait.m, .int .i64 p.wait.d, .bool p.wait.k, .int .i64 p.exts, .int .i64 p.longest, .slice A p.hols.length c, .int .i64 s.phase, .int .i64 s.last, .int .i64 s.deadline, .int .i64 s.object, .int .i64 s.objected, .int .i64 s.extended] (by rfl) (by rfl) hN8.out rfl stSize (by kernel_rfl) ?_; intro w2 h8 hg8); have hb12 := below_of_grownB (below_alloc w1 _) hg8 (Nat.le_refl _); have hb2 := Lib.hid (below_step hbw.out hb12); have g2 := Lib.hid (g1.out.below hb12); have e12 := h8.c 12 _ rfl; have e14 := h8.c 14 _ rfl; have e9 := g2.out.c 11 _ rfl; have e6 := g2.out.c 6 _ rfl; have e7 := g2.out.c 7 _ rfl; have e8 := g2.out.c 8 _ rfl; have h8 := Lib.hid h8; clear hb12 hg8)
      go_ret2
      exact ⟨by rw [hfin.out]; first | done | rfl, hb2.out⟩
  · have hon := fun w1 h => on_bad A c p N d n day w1 h hE
    have hfin : Cal.phaseS p n day = (0, Cal.onE p n day) := by unfold Cal.phaseS; rw [if_neg hE]
    have hE1 : (Cal.onE p n day == 0) = false := by simpa using hE
    generalize Cal.onE p n day = E at *
    have hon := Lib.hid hon
    have hfin := Lib.hid hfin
    clear hE
    obtain ⟨h1, h2, hb⟩ := start2 w A c p N d n
    have c0 := h2.out.c 0 _ rfl
    have c1 := h2.out.c 1 _ rfl
    have c2 := h2.out.c 2 _ rfl
    go_enter Tryz.func23, Tryz.ntmps23
    go_wp2_with (refine wpPr h1.out (.tmp 3) rfl ?_)
    clear c0 c1 c2
    refine (hon.out _ (hN.out.below hb.out)).mono ?_
    rintro e w1 ⟨he, hb1⟩
    subst he
    have hbw := Lib.hid (below_step hb.out hb1)
    have g1 := Lib.hid (h1.out.below hb1)
    have hz := (h1.out.below hb1).lt
    have hN8 := Lib.hid (BoxAt.new w1 #[.int .i64 0, .int .i64 0, .bool false, .int .i64 0, .int .i64 0, .bool false, .int .i64 0, .int .i64 0, .bool false, .int .i64 0, .int .i64 0, .slice none 0 0, .int .i64 0, .int .i64 0, .int .i64 0, .int .i64 0, .int .i64 0, .int .i64 0] 104)
    clear hb1 h1 h2 hb
    go_wp2_with ((refine wpList_store_box rfl 104 (.tmp 8) (.tmp 15) rfl (w1.heap.size) _ [.int .i64 0, .int .i64 0, .bool false, .int .i64 0, .int .i64 0, .bool false, .int .i64 0, .int .i64 0, .bool false, .int .i64 0, .int .i64 0, .slice none 0 0, .int .i64 0, .int .i64 0, .int .i64 0, .int .i64 0, .int .i64 0, .int .i64 0] (by rfl) (by rfl) hN8.out rfl stSize (by kernel_rfl) ?_; intro w2 h8 hg8); have hb12 := below_of_grownB (below_alloc w1 _) hg8 (Nat.le_refl _); have hb2 := Lib.hid (below_step hbw.out hb12); have g2 := Lib.hid (g1.out.below hb12); have e12 := h8.c 12 _ rfl; have e14 := h8.c 14 _ rfl; have e9 := g2.out.c 11 _ rfl; have e6 := g2.out.c 6 _ rfl; have e7 := g2.out.c 7 _ rfl; have e8 := g2.out.c 8 _ rfl; have h8 := Lib.hid h8; clear hb12 hg8)
    go_ret2
    exact ⟨by rw [hfin.out]; first | done | rfl, hb2.out⟩
set_option maxRecDepth 100000 in
set_option maxHeartbeats 4000000 in
theorem both_any (A : Option Addr) (c : Nat) (p : Proc) (N : Option Addr) (d : Nat) (n : Note) (w : World) (hN : NB w A p N n) :
    Calls Tryz.prog 21 #[.agg #[.int .i64 p.runs.m, .int .i64 p.runs.d, .bool p.runs.k, .int .i64 p.obj.m, .int .i64 p.obj.d, .bool p.obj.k, .int .i64 p.wait.m, .int .i64 p.wait.d, .bool p.wait.k, .int .i64 p.exts, .int .i64 p.longest, .slice A p.hols.length c], .agg #[.string n.name, .int .i64 n.opened, .slice N n.acts.length d]] w fun e w' => e = .returned (.int .i64 (Cal.checkS p n).2) ∧ Below w.heap.size w w' := by
  have hN := Lib.hid hN
  obtain ⟨P, hP⟩ : ∃ P, Cal.procErr p = P := ⟨_, rfl⟩
  by_cases h0 : P = 0
  · subst h0
    have hC : Cal.checkS p n = Cal.noteS p n := if_pos hP
    rw [hC]
    rcases hn : Cal.noteS p n with ⟨i, E⟩
    have hnR := Lib.hid hn
    have hPz := Lib.hid hP
    clear hn hC hP
    obtain ⟨g1, g2, hb⟩ := start2 w A c p N d n
    have c0 := g2.out.c 0 _ rfl
    have c1 := g2.out.c 1 _ rfl
    have c2 := g2.out.c 2 _ rfl
    go_enter Tryz.func21, Tryz.ntmps21
    go_wp2_with (refine wpPr g1.out (.tmp 2) rfl ?_)
    refine (CheckProcedureR_any A c p _ (hN.out.hols.below hb.out)).mono ?_
    rintro e w4 ⟨rfl, hbn⟩
    rw [hPz.out]
    have g1 := Lib.hid (g1.out.below hbn)
    have g2 := Lib.hid (g2.out.below hbn)
    have hb := Lib.hid (below_step hb.out hbn)
    clear hbn c0 c1 c2
    have c0 := g2.out.c 0 _ rfl
    have c1 := g2.out.c 1 _ rfl
    have c2 := g2.out.c 2 _ rfl
    go_wp2_with (refine wpPr g1.out (.tmp 2) rfl ?_)
    refine (CheckNoticeR_any A c p N d n _ (hN.out.hols.below hb.out) (hN.out.acts.below hb.out) hN.out.name hPz.out).mono ?_
    rintro e w7 ⟨he, hbn⟩
    rw [hnR.out] at he
    subst he
    have hb := Lib.hid (below_step hb.out hbn)
    clear hbn c0 c1 c2
    go_wp2_with fail
    go_ret
    exact ⟨rfl, hb.out⟩
  · have hC : Cal.checkS p n = (0, P) := by unfold Cal.checkS; rw [if_neg (by rw [hP]; exact h0), hP]
    rw [hC]
    have hP1 : (P != 0) = true := by simpa using h0
    have hPz := Lib.hid hP
    clear hC hP h0
    obtain ⟨g1, g2, hb⟩ := start2 w A c p N d n
    go_enter Tryz.func21, Tryz.ntmps21
    go_wp2_with (refine wpPr g1.out (.tmp 2) rfl ?_)
    refine (CheckProcedureR_any A c p _ (hN.out.hols.below hb.out)).mono ?_
    rintro e w4 ⟨rfl, hbn⟩
    rw [hPz.out]
    have hb := Lib.hid (below_step hb.out hbn)
    clear hbn
    go_wp2_with fail
    go_ret
    exact ⟨rfl, hb.out⟩
/-- The phase on a day, as the reference tells it. -/
def Cal.phaseR (s : NSt) (day : Int) : Int := if s.phase = 1 ∧ s.deadline < day then 6 else s.phase
set_option maxRecDepth 100000 in
set_option maxHeartbeats 4000000 in
theorem PhaseR_any (A : Option Addr) (c : Nat) (p : Proc) (N : Option Addr) (d : Nat) (n : Note) (day : Int) (w : World) (hN : NB w A p N n) (hv : (Cal.checkS p n).2 = 0) :
    Calls Tryz.prog 34 #[.agg #[.int .i64 p.runs.m, .int .i64 p.runs.d, .bool p.runs.k, .int .i64 p.obj.m, .int .i64 p.obj.d, .bool p.obj.k, .int .i64 p.wait.m, .int .i64 p.wait.d, .bool p.wait.k, .int .i64 p.exts, .int .i64 p.longest, .slice A p.hols.length c], .agg #[.string n.name, .int .i64 n.opened, .slice N n.acts.length d], .int .i64 day] w fun e w' => e = .returned (.int .i64 (Cal.phaseR (Cal.stAt p n day) day)) ∧ Below w.heap.size w w' := by
  have hN := Lib.hid hN
  have hat := fun w1 (h : NB w1 A p N n) => At_any A c p N d n day w1 h.hols h.acts hv
  generalize Cal.stAt p n day = s at *
  have hat := Lib.hid hat
  clear hv
  by_cases hp : s.phase = 1
  · have hp1 : (s.phase == 1) = true := by simpa using hp
    by_cases hd : s.deadline < day
    · have hfin : Hid (Cal.phaseR s day = 6) := if_pos ⟨hp, hd⟩
      have hd1 : decide (s.deadline < day) = true := by simpa using hd
      clear hp hd
      obtain ⟨g1, g2, hb⟩ := start2 w A c p N d n
      have c0 := g2.out.c 0 _ rfl
      have c1 := g2.out.c 1 _ rfl
      have c2 := g2.out.c 2 _ rfl
      go_enter Tryz.func34, Tryz.ntmps34
      go_wp2_with (refine wpPr g1.out (.tmp 3) rfl ?_)
      clear c0 c1 c2
      refine (hat.out _ (hN.out.below hb.out)).mono ?_
      rintro e w1 ⟨rfl, hb1⟩
      have hbw := Lib.hid (below_step hb.out hb1)
      have hN7 := Lib.hid (BoxAt.new w1 #[.int .i64 0, .int .i64 0, .int .i64 0, .int .i64 0, .int .i64 0, .int .i64 0] 57)
      clear hb1 g1 g2 hb
      go_wp2_with (first | (refine wpList_store_box rfl 57 (.tmp 7) (.tmp 11) rfl (w1.heap.size) _ [.int .i64 s.phase, .int .i64 s.deadline, .int .i64 s.object, .int .i64 s.last, .int .i64 s.objected, .int .i64 s.extended] (by rfl) (by rfl) hN7.out rfl rsSize (by kernel_rfl) ?_; intro w2 h7 hg7; have hb2 := Lib.hid (below_step hbw.out (below_of_grownB (below_alloc w1 _) hg7 (Nat.le_refl _))); have t0 := h7.c 0 _ rfl; have t1 := h7.c 1 _ rfl))
      go_ret
      exact ⟨ret_int hfin.out.symm, hb2.out⟩
    · have hfin : Hid (Cal.phaseR s day = s.phase) := if_neg (fun h => hd h.2)
      have hd1 : decide (s.deadline < day) = false := by simpa using hd
      clear hp hd
      obtain ⟨g1, g2, hb⟩ := start2 w A c p N d n
      have c0 := g2.out.c 0 _ rfl
      have c1 := g2.out.c 1 _ rfl
      have c2 := g2.out.c 2 _ rfl
      go_enter Tryz.func34, Tryz.ntmps34
      go_wp2_with (refine wpPr g1.out (.tmp 3) rfl ?_)
      clear c0 c1 c2
      refine (hat.out _ (hN.out.below hb.out)).mono ?_
      rintro e w1 ⟨rfl, hb1⟩
      have hbw := Lib.hid (below_step hb.out hb1)
      have hN7 := Lib.hid (BoxAt.new w1 #[.int .i64 0, .int .i64 0, .int .i64 0, .int .i64 0, .int .i64 0, .int .i64 0] 57)
      clear hb1 g1 g2 hb
      go_wp2_with (first | (refine wpList_store_box rfl 57 (.tmp 7) (.tmp 11) rfl (w1.heap.size) _ [.int .i64 s.phase, .int .i64 s.deadline, .int .i64 s.object, .int .i64 s.last, .int .i64 s.objected, .int .i64 s.extended] (by rfl) (by rfl) hN7.out rfl rsSize (by kernel_rfl) ?_; intro w2 h7 hg7; have hb2 := Lib.hid (below_step hbw.out (below_of_grownB (below_alloc w1 _) hg7 (Nat.le_refl _))); have t0 := h7.c 0 _ rfl; have t1 := h7.c 1 _ rfl))
      go_ret
      exact ⟨ret_int hfin.out.symm, hb2.out⟩
  · have hfin : Hid (Cal.phaseR s day = s.phase) := if_neg (fun h => hp h.1)
    have hp1 : (s.phase == 1) = false := by simpa using hp
    clear hp
    obtain ⟨g1, g2, hb⟩ := start2 w A c p N d n
    have c0 := g2.out.c 0 _ rfl
    have c1 := g2.out.c 1 _ rfl
    have c2 := g2.out.c 2 _ rfl
    go_enter Tryz.func34, Tryz.ntmps34
    go_wp2_with (refine wpPr g1.out (.tmp 3) rfl ?_)
    clear c0 c1 c2
    refine (hat.out _ (hN.out.below hb.out)).mono ?_
    rintro e w1 ⟨rfl, hb1⟩
    have hbw := Lib.hid (below_step hb.out hb1)
    have hN7 := Lib.hid (BoxAt.new w1 #[.int .i64 0, .int .i64 0, .int .i64 0, .int .i64 0, .int .i64 0, .int .i64 0] 57)
    clear hb1 g1 g2 hb
    go_wp2_with (first | (refine wpList_store_box rfl 57 (.tmp 7) (.tmp 11) rfl (w1.heap.size) _ [.int .i64 s.phase, .int .i64 s.deadline, .int .i64 s.object, .int .i64 s.last, .int .i64 s.objected, .int .i64 s.extended] (by rfl) (by rfl) hN7.out rfl rsSize (by kernel_rfl) ?_; intro w2 h7 hg7; have hb2 := Lib.hid (below_step hbw.out (below_of_grownB (below_alloc w1 _) hg7 (Nat.le_refl _))); have t0 := h7.c 0 _ rfl; have t1 := h7.c 1 _ rfl))
    go_ret
    exact ⟨ret_int hfin.out.symm, hb2.out⟩
end Go.Proofs.YtconnjkkgaapbaaGreatDoor
namespace Go.Proofs.YtconnjkkgaapbaaGreatDoor
open Go Go.RowKit
/-- Numbers from an address on. -/
structure NumsAt (w : World) (b o : Nat) (zs : List Int) : Prop where
  c : ∀ (k : Nat) z, zs[k]? = some z → w.cell? ⟨b, o + k, none⟩ = some (.int .i64 z)
  lt : b < w.heap.size
  le : zs.length ≤ 1000000
theorem NumsAt.below {w w' : World} {b o : Nat} {zs : List Int} (h : NumsAt w b o zs) (hb : Below w.heap.size w w') : NumsAt w' b o zs := ⟨fun k z hz => (hb.cell (p := ⟨b, o + k, none⟩) h.lt).trans (h.c k z hz), Nat.lt_of_lt_of_le h.lt hb.size, h.le⟩
def inB (most z : Int) : Bool := decide (0 ≤ z) && decide (z ≤ most)
def allB (zs : List Int) (most : Int) : Bool := zs.all (inB most)
theorem all1_any (z most : Int) (B : Nat) (w : World) (h : w.cell? ⟨B, 0, none⟩ = some (.int .i64 most)) : Calls Tryz.prog 132 #[.int .i64 z, .pointer (some ⟨B, 0, none⟩)] w fun e w' => e = .returned (.bool (!(inB most z))) ∧ w = w' := by
  go_enter Tryz.func132, Tryz.ntmps132
  go_wp2_with (go_at_call 60; refine (nwithin_any _ _ _ _).mono ?_; rintro e w' ⟨rfl, rfl⟩)
  go_ret
  exact ⟨ret_bool (by simp [inB]), rfl⟩
def IdxPost (zs : List Int) (most : Int) (w : World) (e : Ending) (w' : World) : Prop := (∃ i : Int, e = .returned (.int .i64 i) ∧ -1 ≤ i ∧ decide (0 ≤ i) = !(allB zs most)) ∧ w = w'
theorem IndexAll_any (zs : List Int) (most : Int) (B b o c : Nat) (w : World) (h : w.cell? ⟨B, 0, none⟩ = some (.int .i64 most)) (hz : NumsAt w b o zs) :
    Calls Tryz.prog 145 #[.slice (some ⟨b, o, none⟩) zs.length c, .func (.func 132) #[] #[.pointer (some ⟨B, 0, none⟩)]] w (IdxPost zs most w) := by
  have hz := Lib.hid hz
  have hle := hz.out.le
  have hinit : Hid ((zs.take 0).all (inB most) = true) := rfl
  go_enter Tryz.func145, Tryz.ntmps145
  go_wp2
  go_loop [8] (fun i => ∃ k : Nat, k ≤ zs.length ∧ i = .int .i64 k ∧ Hid ((zs.take k).all (inB most) = true)) (fun i => zs.length - (intOf i).toNat)
  case atStart => exact ⟨0, Nat.zero_le _, rfl, hinit⟩
  case round =>
    obtain ⟨k, hk, rfl, hall⟩ := hrel
    clear hinit
    by_cases hlt : k < zs.length
    · have hkz := hz.out.c k _ (List.getElem?_eq_getElem hlt)
      have htk : zs.take (k + 1) = zs.take k ++ [zs[k]] := List.take_succ_eq_append_getElem hlt
      have hmem : zs[k] ∈ zs := List.getElem_mem hlt
      generalize zs[k] = z at *
      cases hin : inB most z
      · have hfin : Hid (allB zs most = false) := by
          show _ = _
          unfold allB
          rw [List.all_eq_false]
          exact ⟨z, hmem, by rw [hin]; simp⟩
        have hinz := Lib.hid hin
        clear hin htk hmem
        go_wp2_with (go_at_call 132; refine (all1_any z most B _ h).mono ?_; rintro e w' ⟨rfl, rfl⟩; rw [hinz.out])
        go_ret
        exact ⟨⟨k, rfl, by omega, by rw [hfin.out]; simp⟩, rfl⟩
      · have hnx : Hid ((zs.take (k + 1)).all (inB most) = true) := by show _ = _; rw [htk, List.all_append, hall.out]; simp [hin]
        have hinz := Lib.hid hin
        clear hin htk hmem
        go_wp2_with (go_at_call 132; refine (all1_any z most B _ h).mono ?_; rintro e w' ⟨rfl, rfl⟩; rw [hinz.out])
        go_round
        case rel => exact ⟨k + 1, by omega, by go_num, hnx⟩
        case measure => simp [intOf]; omega
    · have hfin : Hid (allB zs most = true) := by
        have h := hall.out
        rw [List.take_of_length_le (by omega)] at h
        exact h
      have hge : zs.length = k := by omega
      clear hall
      go_wp2
      go_ret
      exact ⟨⟨-1, rfl, by omega, by rw [hfin.out]; rfl⟩, rfl⟩
theorem ContainsAll_any (zs : List Int) (most : Int) (B b o c : Nat) (w : World) (h : w.cell? ⟨B, 0, none⟩ = some (.int .i64 most)) (hz : NumsAt w b o zs) :
    Calls Tryz.prog 131 #[.slice (some ⟨b, o, none⟩) zs.length c, .func (.func 132) #[] #[.pointer (some ⟨B, 0, none⟩)]] w fun e w' => e = .returned (.bool (!(allB zs most))) ∧ w = w' := by
  have hi := Lib.hid (IndexAll_any zs most B b o c w h hz)
  go_enter Tryz.func131, Tryz.ntmps131
  go_wp2_with fail
  refine hi.out.mono ?_
  rintro e w' ⟨⟨i, rfl, hi1, hi2⟩, rfl⟩
  have hi2 := Lib.hid hi2
  go_wp2_with fail
  go_ret
  exact ⟨by first | rfl | exact ret_bool hi2.out, rfl⟩
theorem all_any (zs : List Int) (most : Int) (b o c : Nat) (w : World) (hz : NumsAt w b o zs) :
    Calls Tryz.prog 112 #[.slice (some ⟨b, o, none⟩) zs.length c, .int .i64 most] w fun e w' => e = .returned (.bool (allB zs most)) ∧ Below w.heap.size w w' := by
  have hb := Lib.hid (below_alloc w (.cells #[.int .i64 most] 3))
  have hz := Lib.hid hz
  have hc : Hid ((w.alloc (.cells #[.int .i64 most] 3)).cell? ⟨w.heap.size, 0, none⟩ = some (.int .i64 most)) := by show _ = _; rw [cell_alloc_at]; rfl
  go_enter Tryz.func112, Tryz.ntmps112
  go_wp2_with fail
  refine (ContainsAll_any zs most _ b o c _ hc.out (hz.out.below hb.out)).mono ?_
  rintro e w' ⟨rfl, rfl⟩
  go_wp2_with fail
  go_ret
  exact ⟨ret_bool (by simp), hb.out⟩
end Go.Proofs.YtconnjkkgaapbaaGreatDoor
