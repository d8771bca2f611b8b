/- Chapter 8 and what it rests on: definitions and walks, part 69. -/
import Derived.Test.YtbegbajlagcbdaaGreatDoorC68
import Derived.Test.YtbegbajlagcbdaaGreatDoorC35
namespace Go.Proofs.YtbegbajlagcbdaaGreatDoor
open Go Go.RowKit
theorem Cal.atS_more (p : Proc) (day : Int) (a : NAct) (l : List NAct) (s : NSt) : Cal.atS p day (a :: l) s = if a.day ≤ day then Cal.atS p day l (Cal.actS p s a).1 else s := rfl
/-- The loop of At. -/
def AtP (p : Proc) (l : List NAct) (s0 : NSt) (day : Int) (k : Nat) (s : NSt) : Prop := (Cal.runS p (l.drop k) s k).2.2 = 0 ∧ Cal.atS p day (l.drop k) s = Cal.atS p day l s0 ∧ StOk s
theorem AtP.next {p : Proc} {l : List NAct} {s0 : NSt} {day : Int} {k : Nat} {s : NSt} {a : NAct} (h : AtP p l s0 day k s) (hd : l.drop k = a :: l.drop (k + 1)) (hx : p.exts ≤ 12) (hday : a.day ≤ day) : (Cal.actS p s a).2 = 0 ∧ AtP p l s0 day (k + 1) (Cal.actS p s a).1 := by
  obtain ⟨h1, h2, h3⟩ := h
  rw [hd] at h1 h2
  obtain ⟨h4, h5⟩ := Cal.runS_cons.1 h1
  rw [Cal.atS_more, if_pos hday] at h2
  exact ⟨h4, h5, h2, h3.act hx h4⟩
theorem AtP.late {p : Proc} {l : List NAct} {s0 : NSt} {day : Int} {k : Nat} {s : NSt} {a : NAct} (h : AtP p l s0 day k s) (hd : l.drop k = a :: l.drop (k + 1)) (hday : ¬ a.day ≤ day) : Cal.atS p day l s0 = s := by
  have h2 := h.2.1
  rw [hd, Cal.atS_more, if_neg hday] at h2
  exact h2.symm
theorem AtP.stop {p : Proc} {l : List NAct} {s0 : NSt} {day : Int} {k : Nat} {s : NSt} (h : AtP p l s0 day k s) (hk : l.length ≤ k) : Cal.atS p day l s0 = s := by
  have h2 := h.2.1
  rw [List.drop_eq_nil_of_le hk] at h2
  exact h2.symm
structure AtI (w : World) (b7 : Nat) (A : Option Addr) (c : Nat) (p : Proc) (N : Option Addr) (d : Nat) (n : Note) (s : NSt) (wr : World) : Prop where
  fr : Below w.heap.size w wr
  g1 : BoxAt wr w.heap.size [.int .i64 p.runs.m, .int .i64 p.runs.d, .bool p.runs.k, .int .i64 p.obj.m, .int .i64 p.obj.d, .bool p.obj.k, .int .i64 p.wait.m, .int .i64 p.wait.d, .bool p.wait.k, .int .i64 p.exts, .int .i64 p.longest, .slice A p.hols.length c]
  g2 : BoxAt wr (w.heap.size + 1) [.string n.name, .int .i64 n.opened, .slice N n.acts.length d]
  r : BoxAt wr (w.heap.size + 1 + 1) [.int .i64 0, .int .i64 0, .int .i64 0, .int .i64 0, .int .i64 0, .int .i64 0]
  s : BoxAt wr b7 [.int .i64 s.phase, .int .i64 s.deadline, .int .i64 s.object, .int .i64 s.last, .int .i64 s.objected, .int .i64 s.extended]
  h6 : w.heap.size + 1 + 1 < b7
theorem AtI.below {w wr wr' : World} {b7 : Nat} {A : Option Addr} {c : Nat} {p : Proc} {N : Option Addr} {d : Nat} {n : Note} {s : NSt} (h : AtI w b7 A c p N d n s wr) (hb : Below wr.heap.size wr wr') : AtI w b7 A c p N d n s wr' :=
  ⟨below_step h.fr hb, h.g1.below hb, h.g2.below hb, h.r.below hb, h.s.below hb, h.h6⟩
theorem AtI.set {w wr wr' : World} {b7 : Nat} {A : Option Addr} {c : Nat} {p : Proc} {N : Option Addr} {d : Nat} {n : Note} {s s' : NSt} (h : AtI w b7 A c p N d n s wr) (hB : BoxAt wr' b7 [.int .i64 s'.phase, .int .i64 s'.deadline, .int .i64 s'.object, .int .i64 s'.last, .int .i64 s'.objected, .int .i64 s'.extended]) (hg : wr.grownBy wr' (some b7)) : AtI w b7 A c p N d n s' wr' :=
  ⟨below_of_grownB h.fr hg (by have := h.h6; omega), h.g1.grown hg (by have := h.h6; simp; omega), h.g2.grown hg (by have := h.h6; simp; omega), h.r.grown hg (by have := h.h6; simp; omega), hB, h.h6⟩
def AtPost (w : World) (s : NSt) (e : Ending) (w' : World) : Prop := e = .returned (.agg #[.int .i64 s.phase, .int .i64 s.deadline, .int .i64 s.object, .int .i64 s.last, .int .i64 s.objected, .int .i64 s.extended]) ∧ Below w.heap.size w w'
set_option maxRecDepth 100000 in
set_option maxHeartbeats 4000000 in
theorem At_any (A : Option Addr) (c : Nat) (p : Proc) (N : Option Addr) (d : Nat) (n : Note) (day : Int) (w : World) (hl : Hols w A p.hols) (ha : Acts w N n.acts) (hv : (Cal.checkS p n).2 = 0) :
    Calls Tryz.prog 74 #[.agg #[.int .i64 p.runs.m, .int .i64 p.runs.d, .bool p.runs.k, .int .i64 p.obj.m, .int .i64 p.obj.d, .bool p.obj.k, .int .i64 p.wait.m, .int .i64 p.wait.d, .bool p.wait.k, .int .i64 p.exts, .int .i64 p.longest, .slice A p.hols.length c], .agg #[.string n.name, .int .i64 n.opened, .slice N n.acts.length d], .int .i64 day] w (AtPost w (Cal.stAt p n day)) := by
  have hsz := ha.size
  have hl := Lib.hid hl
  have ha := Lib.hid ha
  obtain ⟨hp, _, o0, o1, _, hrun⟩ := Cal.checkS_ok hv
  obtain ⟨_, _, _, _, hx, _, _, _⟩ := Cal.procErr_ok hp
  have hpz := Lib.hid hp
  have hP0 : AtP p n.acts (Cal.openSt n.opened) day 0 (Cal.openSt n.opened) := ⟨hrun, rfl, StOk.openSt o0 o1⟩
  have hS : Cal.stAt p n day = Cal.atS p day n.acts (Cal.openSt n.opened) := rfl
  rw [hS]
  obtain ⟨s0, hs0⟩ : ∃ s0, Cal.openSt n.opened = s0 := ⟨_, rfl⟩
  rw [hs0] at hP0 ⊢
  have hcs : Hid (([.int .i64 0, .int .i64 0, .int .i64 0, .int .i64 n.opened, .int .i64 0, .int .i64 0] : List Value) = [.int .i64 s0.phase, .int .i64 s0.deadline, .int .i64 s0.object, .int .i64 s0.last, .int .i64 s0.objected, .int .i64 s0.extended]) := by show _ = _; rw [← hs0]; rfl
  have hP0 := Lib.hid hP0
  clear hp hrun hv hS hs0
  obtain ⟨h1, h2, hb⟩ := start2 w A c p N d n
  have h3 : Hid (BoxAt ((((w.alloc (.cells #[.int .i64 p.runs.m, .int .i64 p.runs.d, .bool p.runs.k, .int .i64 p.obj.m, .int .i64 p.obj.d, .bool p.obj.k, .int .i64 p.wait.m, .int .i64 p.wait.d, .bool p.wait.k, .int .i64 p.exts, .int .i64 p.longest, .slice A p.hols.length c] 47)).alloc (.cells #[.string n.name, .int .i64 n.opened, .slice N n.acts.length d] 93)).alloc (.cells #[.int .i64 0, .int .i64 0, .int .i64 0, .int .i64 0, .int .i64 0, .int .i64 0] 145))) (w.heap.size + 1 + 1) [.int .i64 0, .int .i64 0, .int .i64 0, .int .i64 0, .int .i64 0, .int .i64 0]) := by
    have h := BoxAt.new (W2n w A c p N d n) #[.int .i64 0, .int .i64 0, .int .i64 0, .int .i64 0, .int .i64 0, .int .i64 0] 145
    rw [W2n_size] at h
    exact h
  have h1 := Lib.hid (h1.out.alloc (.cells #[.int .i64 0, .int .i64 0, .int .i64 0, .int .i64 0, .int .i64 0, .int .i64 0] 145))
  have h2 := Lib.hid (h2.out.alloc (.cells #[.int .i64 0, .int .i64 0, .int .i64 0, .int .i64 0, .int .i64 0, .int .i64 0] 145))
  have hb := Lib.hid (below_step hb.out (below_alloc _ (.cells #[.int .i64 0, .int .i64 0, .int .i64 0, .int .i64 0, .int .i64 0, .int .i64 0] 145)))
  have hN7 : Hid (BoxAt (((((w.alloc (.cells #[.int .i64 p.runs.m, .int .i64 p.runs.d, .bool p.runs.k, .int .i64 p.obj.m, .int .i64 p.obj.d, .bool p.obj.k, .int .i64 p.wait.m, .int .i64 p.wait.d, .bool p.wait.k, .int .i64 p.exts, .int .i64 p.longest, .slice A p.hols.length c] 47)).alloc (.cells #[.string n.name, .int .i64 n.opened, .slice N n.acts.length d] 93)).alloc (.cells #[.int .i64 0, .int .i64 0, .int .i64 0, .int .i64 0, .int .i64 0, .int .i64 0] 145))).alloc (.cells #[.int .i64 0, .int .i64 0, .int .i64 0, .int .i64 0, .int .i64 0, .int .i64 0] 145)) (w.heap.size + 1 + 1 + 1) [.int .i64 0, .int .i64 0, .int .i64 0, .int .i64 0, .int .i64 0, .int .i64 0]) := by
    have h := BoxAt.new ((W2n w A c p N d n).alloc (.cells #[.int .i64 0, .int .i64 0, .int .i64 0, .int .i64 0, .int .i64 0, .int .i64 0] 145)) #[.int .i64 0, .int .i64 0, .int .i64 0, .int .i64 0, .int .i64 0, .int .i64 0] 145
    rw [World.size_alloc, W2n_size] at h
    exact h
  have c1 := h2.out.c 1 _ rfl
  go_enter Tryz.func74, Tryz.ntmps74
  go_wp2_with (first | refine wpList_store_box rfl 145 (.tmp 7) (.tmp 11) rfl (w.heap.size + 1 + 1 + 1) _ [.int .i64 0, .int .i64 0, .int .i64 0, .int .i64 n.opened, .int .i64 0, .int .i64 0] (by rfl) (by rfl) hN7.out rfl rsSize (by kernel_rfl) ?_; intro w3 h7 hg7)
  have hI : Hid (AtI w (w.heap.size + 1 + 1 + 1) A c p N d n s0 w3) := ⟨below_of_grownB (below_step hb.out (below_alloc _ _)) hg7 (by omega), (h1.out.alloc _).grown hg7 (by simp; omega), (h2.out.alloc _).grown hg7 (by first | (simp; done) | (simp; omega)), (h3.out.alloc _).grown hg7 (by first | (simp; done) | (simp; omega)), hcs.out ▸ h7, by omega⟩
  clear h1 h2 h3 hb hN7 h7 hg7 c1 hcs
  generalize w.heap.size + 1 + 1 + 1 = b7 at *
  go_loopw [8] (fun i wr => ∃ (k : Nat) (s : NSt), k ≤ n.acts.length ∧ i = .int .i64 k ∧ Hid (AtP p n.acts s0 day k s) ∧ Hid (AtI w b7 A c p N d n s wr)) (fun i _ => n.acts.length - (intOf i).toNat)
  case atStart => exact ⟨0, s0, Nat.zero_le _, rfl, hP0, hI⟩
  case round =>
    obtain ⟨k, s, hk, rfl, hP, hI⟩ := hrel
    clear hP0
    have c2 := hI.out.g2.c 2 _ rfl
    by_cases hlt : k < n.acts.length
    · have hk' : n.acts[k]? = some n.acts[k] := List.getElem?_eq_getElem hlt
      have hd := Lib.hid (List.drop_eq_getElem_cons hlt)
      obtain ⟨b, o, rfl, hb0, _⟩ := ha.out.at_ hk'
      have hbne : b ≠ b7 := by have := hI.out.h6; omega
      obtain ⟨b', o', hbo, hbl, e0, e1, e2⟩ := (ha.out.below hI.out.fr).at_ hk'
      simp only [Option.some.injEq, Addr.mk.injEq, and_true] at hbo
      obtain ⟨rfl, rfl⟩ := hbo
      clear hk'
      generalize n.acts[k] = a at *
      by_cases hday : a.day ≤ day
      · have hok := hP.out.2.2
        have hz6 := hI.out.s.lt
        obtain ⟨hE, hnx⟩ := hP.out.next hd.out hx hday
        rcases hr : Cal.actS p s a with ⟨s2, E⟩
        rw [hr] at hE hnx
        have hE : E = 0 := hE
        subst hE
        have hst := Lib.hid (fun w1 h => Step_any A c p s a w1 h hok hpz.out)
        rw [hr] at hst
        have hnx := Lib.hid hnx
        clear hr
        go_wp2_with fail
        have hu : ∀ w', Below wr.heap.size wr w' → w'.cell? ⟨b, o + k * 3, none⟩ = some (.int .i64 a.day) ∧ w'.cell? ⟨b, o + k * 3 + 1, none⟩ = some (.int .i64 a.kind) ∧ w'.cell? ⟨b, o + k * 3 + 2, none⟩ = some (.int .i64 a.days) := fun w' hb' => ⟨(hb'.cell (p := ⟨b, _, none⟩) hbl).trans e0, (hb'.cell (p := ⟨b, _, none⟩) hbl).trans e1, (hb'.cell (p := ⟨b, _, none⟩) hbl).trans e2⟩
        have hu := Lib.hid hu
        have x0 := hI.out.s.c 0 _ rfl
        have x1 := hI.out.s.c 1 _ rfl
        have x2 := hI.out.s.c 2 _ rfl
        have x3 := hI.out.s.c 3 _ rfl
        have x4 := hI.out.s.c 4 _ rfl
        have x5 := hI.out.s.c 5 _ rfl
        refine wp_region_held_drew (S := (fun w' => BoxAt w' w.heap.size [.int .i64 p.runs.m, .int .i64 p.runs.d, .bool p.runs.k, .int .i64 p.obj.m, .int .i64 p.obj.d, .bool p.obj.k, .int .i64 p.wait.m, .int .i64 p.wait.d, .bool p.wait.k, .int .i64 p.exts, .int .i64 p.longest, .slice A p.hols.length c] ∧ w'.cell? ⟨w.heap.size + 1, 2, none⟩ = some (.slice (some ⟨b, o, none⟩) n.acts.length d) ∧ w'.cell? ⟨b, o + k * 3, none⟩ = some (.int .i64 a.day) ∧ w'.cell? ⟨b, o + k * 3 + 1, none⟩ = some (.int .i64 a.kind) ∧ w'.cell? ⟨b, o + k * 3 + 2, none⟩ = some (.int .i64 a.days))) (by kernel_rfl) ⟨hI.out.g1.below (Below.refl _ _).drew, c2, e0, e1, e2⟩ (fun hHeld => ?_)
        (refine wpAnyH_take (i := 0) (v := _) rfl (by kernel_rfl) (by decide +kernel) (by decide +kernel) (fun _ _ _ h => h) (yieldsIf_load_mid (by kernel_rfl) 47 _ rfl (w.heap.size) 0 (by kernel_rfl) [.int .i64 p.runs.m, .int .i64 p.runs.d, .bool p.runs.k, .int .i64 p.obj.m, .int .i64 p.obj.d, .bool p.obj.k, .int .i64 p.wait.m, .int .i64 p.wait.d, .bool p.wait.k, .int .i64 p.exts, .int .i64 p.longest, .slice A p.hols.length c] _ (fun _ h => h.1.range) Tryz.underlying47 rfl prSize) (by assumption) ?_; (try simp only [Act.put, List.setIfInBounds_toArray]); (try simp only [List.set_cons_zero, List.set_cons_succ]))
        (refine tkH 2 (v := ?_) ?_ ?_; rotate_left; focus (intro w' hSw; (try dsimp only at hSw); go_simp; (try with_reducible rfl)); (try simp only [Act.put, List.setIfInBounds_toArray, List.set_cons_zero, List.set_cons_succ]))
        (refine tkH 3 (v := ?_) ?_ ?_; rotate_left; focus (intro w' hSw; (try dsimp only at hSw); go_simp; (try with_reducible rfl)); (try simp only [Act.put, List.setIfInBounds_toArray, List.set_cons_zero, List.set_cons_succ]))
        (refine tkH 4 (v := ?_) ?_ ?_; rotate_left; focus (intro w' hSw; (try dsimp only at hSw); go_simp; (try with_reducible rfl)); (try simp only [Act.put, List.setIfInBounds_toArray, List.set_cons_zero, List.set_cons_succ]))
        (refine tkH 5 (v := ?_) ?_ ?_; rotate_left; focus (intro w' hSw; (try dsimp only at hSw); go_simp; (try with_reducible rfl)); (try simp only [Act.put, List.setIfInBounds_toArray, List.set_cons_zero, List.set_cons_succ]))
        (refine tkH 6 (v := ?_) ?_ ?_; rotate_left; focus (intro w' hSw; (try dsimp only at hSw); go_simp; (try with_reducible rfl)); (try simp only [Act.put, List.setIfInBounds_toArray, List.set_cons_zero, List.set_cons_succ]))
        (refine wpAnyH_ready (rs := [1]) (by decide +kernel) (by simp) ?_; refine AllReadyH.cons rfl (fun K hK => ?_) AllReadyH.nil; rw [if_pos (by kernel_rfl)]; go_simp)
        (refine hK.out _ _ ⟨hI.out.g1.below (Below.refl _ _).drew, c2, e0, e1, e2⟩ (fun hHeld => ?_); clear hK K; (try simp only [Act.put, List.setIfInBounds_toArray]); (try simp only [List.set_cons_zero, List.set_cons_succ]))
        (refine wpAnyH_ready (rs := [7]) (by decide +kernel) (by simp) ?_; refine AllReadyH.cons rfl (fun K hK => ?_) AllReadyH.nil; rw [if_pos (by kernel_rfl)]; go_simp)
        refine (hst.out _ (hl.out.below (hI.out.fr.drew))).mono ?_
        rintro e w5 ⟨⟨s', rfl, hsq⟩, hb5⟩
        have hs' := Lib.hid hsq
        clear hsq
        have hb45 := below_of_drewN (n := 1) hb5
        have hI5 := Lib.hid (hI.out.below hb45)
        have hu5 := hu.out _ hb45
        clear x0 x1 x2 x3 x4 x5 hb5
        go_simp
        (refine hK.out _ _ ⟨hI5.out.g1, hI5.out.g2.c 2 _ rfl, hu5⟩ (fun hHeld => ?_); clear hK K; (try simp only [Act.put, List.setIfInBounds_toArray]); (try simp only [List.set_cons_zero, List.set_cons_succ]))
        (refine tkH 8 (v := ?_) ?_ ?_; rotate_left; focus (intro w' hSw; (try dsimp only at hSw); go_simp; (try with_reducible rfl)); (try simp only [Act.put, List.setIfInBounds_toArray, List.set_cons_zero, List.set_cons_succ]))
        (refine tkH 9 (v := ?_) ?_ ?_; rotate_left; focus (intro w' hSw; (try dsimp only at hSw); go_simp; (try with_reducible rfl)); (try simp only [Act.put, List.setIfInBounds_toArray, List.set_cons_zero, List.set_cons_succ]))
        (refine tkH 10 (v := ?_) ?_ ?_; rotate_left; focus (intro w' hSw; (try dsimp only at hSw); go_simp; (try with_reducible rfl)); (try simp only [Act.put, List.setIfInBounds_toArray, List.set_cons_zero, List.set_cons_succ]))
        refine wpAnyH_ready (rs := [11]) (by decide +kernel) (by simp) ?_
        refine AllReadyH.cons rfl (fun K hK => ?_) AllReadyH.nil
        rw [if_pos (by kernel_rfl)]
        refine wp_store_mid 145 (.tmp 7) (.tmp 38) rfl b7 0 #[.int .i64 s'.phase, .int .i64 s'.deadline, .int .i64 s'.object, .int .i64 s'.last, .int .i64 s'.objected, .int .i64 s'.extended] (by rfl) (by rfl) (by exact hI5.out.s.there) rsSize (by kernel_rfl) ?_
        have hB8 := hI5.out.s.put [.int .i64 s'.phase, .int .i64 s'.deadline, .int .i64 s'.object, .int .i64 s'.last, .int .i64 s'.objected, .int .i64 s'.extended] rfl
        have hg8 := grown_setCells b7 [.int .i64 s'.phase, .int .i64 s'.deadline, .int .i64 s'.object, .int .i64 s'.last, .int .i64 s'.objected, .int .i64 s'.extended] 0 w5
        have hI8 := Lib.hid (hI5.out.set hB8 hg8)
        have hcell := fun (x : Addr) (h : x.block < w5.heap.size) (h2 : x.block ≠ b7) => World.cell?_of_block (a := x) (hg8.block x.block h (by simpa using h2))
        have hlt5 := hb45.size
        have hneb : b ≠ b7 := hbne
        have hu8 : (w5.setCells b7 0 [.int .i64 s'.phase, .int .i64 s'.deadline, .int .i64 s'.object, .int .i64 s'.last, .int .i64 s'.objected, .int .i64 s'.extended]).cell? ⟨b, o + k * 3, none⟩ = some (.int .i64 a.day) ∧ (w5.setCells b7 0 [.int .i64 s'.phase, .int .i64 s'.deadline, .int .i64 s'.object, .int .i64 s'.last, .int .i64 s'.objected, .int .i64 s'.extended]).cell? ⟨b, o + k * 3 + 1, none⟩ = some (.int .i64 a.kind) ∧ (w5.setCells b7 0 [.int .i64 s'.phase, .int .i64 s'.deadline, .int .i64 s'.object, .int .i64 s'.last, .int .i64 s'.objected, .int .i64 s'.extended]).cell? ⟨b, o + k * 3 + 2, none⟩ = some (.int .i64 a.days) := ⟨(hcell ⟨b, _, none⟩ (by show b < _; omega) hneb).trans hu5.1, (hcell ⟨b, _, none⟩ (by show b < _; omega) hneb).trans hu5.2.1, (hcell ⟨b, _, none⟩ (by show b < _; omega) hneb).trans hu5.2.2⟩
        clear hcell hB8 hg8
        (refine hK.out _ _ ⟨hI8.out.g1, hI8.out.g2.c 2 _ rfl, hu8⟩ (fun hHeld => ?_); clear hK K; (try simp only [Act.put, List.setIfInBounds_toArray]); (try simp only [List.set_cons_zero, List.set_cons_succ]))
        refine wpAnyH_done (by kernel_rfl) ?_ _
        clear hHeld hu8 hu5 hb45 hI5 hI
        obtain rfl : s' = s2 := hs'.out rfl
        go_wp2_with fail
        go_roundw
        case rel => exact ⟨k + 1, s', by omega, by go_num, hnx, hI8⟩
        case measure => simp [intOf]; omega
      · have hday' : decide (a.day ≤ day) = false := by simpa using hday
        have hfin := Lib.hid (hP.out.late hd.out hday)
        have hz6 := hI.out.h6
        clear hday
        go_wp2_with (first
          | (refine wpList_load_mid rfl 145 (.tmp 7) rfl b7 0 rfl [.int .i64 s.phase, .int .i64 s.deadline, .int .i64 s.object, .int .i64 s.last, .int .i64 s.objected, .int .i64 s.extended] _ hI.out.s.range Tryz.underlying145 rfl rsSize ?_)
          | (refine wpList_store_box rfl 145 (.tmp 6) (.tmp 40) rfl (w.heap.size + 1 + 1) _ [.int .i64 s.phase, .int .i64 s.deadline, .int .i64 s.object, .int .i64 s.last, .int .i64 s.objected, .int .i64 s.extended] (by rfl) (by rfl) hI.out.r rfl rsSize (by kernel_rfl) ?_; intro w66 h66 hg66; have hb66 := Lib.hid (below_of_grownB hI.out.fr hg66 (by omega))))
        (try simp only [Exit.inBlock, Exit.then])
        rw [hfin.out]
        refine bodyPost_ret (results_mid1 rfl _ _ (w.heap.size + 1 + 1) [.int .i64 s.phase, .int .i64 s.deadline, .int .i64 s.object, .int .i64 s.last, .int .i64 s.objected, .int .i64 s.extended] _ (by kernel_rfl) h66.range Tryz.underlying145 rfl rsSize) rfl ⟨by rfl, hb66.out⟩
    · have hfin := Lib.hid (hP.out.stop (by omega : n.acts.length ≤ k))
      have hge : n.acts.length = k := by omega
      have hz6 := hI.out.h6
      clear hP
      go_wp2_with (first
        | (refine wpList_load_mid rfl 145 (.tmp 7) rfl b7 0 rfl [.int .i64 s.phase, .int .i64 s.deadline, .int .i64 s.object, .int .i64 s.last, .int .i64 s.objected, .int .i64 s.extended] _ hI.out.s.range Tryz.underlying145 rfl rsSize ?_)
        | (refine wpList_store_box rfl 145 (.tmp 6) (.tmp 40) rfl (w.heap.size + 1 + 1) _ [.int .i64 s.phase, .int .i64 s.deadline, .int .i64 s.object, .int .i64 s.last, .int .i64 s.objected, .int .i64 s.extended] (by rfl) (by rfl) hI.out.r rfl rsSize (by kernel_rfl) ?_; intro w66 h66 hg66; have hb66 := Lib.hid (below_of_grownB hI.out.fr hg66 (by omega))))
      (try simp only [Exit.inBlock, Exit.then])
      rw [hfin.out]
      refine bodyPost_ret (results_mid1 rfl _ _ (w.heap.size + 1 + 1) [.int .i64 s.phase, .int .i64 s.deadline, .int .i64 s.object, .int .i64 s.last, .int .i64 s.objected, .int .i64 s.extended] _ (by kernel_rfl) h66.range Tryz.underlying145 rfl rsSize) rfl ⟨by rfl, hb66.out⟩
end Go.Proofs.YtbegbajlagcbdaaGreatDoor
