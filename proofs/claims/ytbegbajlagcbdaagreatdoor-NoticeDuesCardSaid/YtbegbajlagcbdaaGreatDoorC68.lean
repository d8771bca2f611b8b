/- Chapter 8 and what it rests on: definitions and walks, part 68. -/
import Derived.Test.YtbegbajlagcbdaaGreatDoorC67
import Derived.Test.YtbegbajlagcbdaaGreatDoorC62
import Derived.Test.YtbegbajlagcbdaaGreatDoorC63
import Derived.Test.YtbegbajlagcbdaaGreatDoorC17
namespace Go.Proofs.YtbegbajlagcbdaaGreatDoor
open Go Go.RowKit
/-- The loop of CheckNotice: the acts that are left tell the same. -/
def RunP (p : Proc) (l : List NAct) (s0 : NSt) (k : Nat) (s : NSt) : Prop := Cal.runS p (l.drop k) s k = Cal.runS p l s0 0 ∧ StOk s
theorem RunP.bad {p : Proc} {l : List NAct} {s0 : NSt} {k : Nat} {s : NSt} {a : NAct} (h : RunP p l s0 k s) (hd : l.drop k = a :: l.drop (k + 1)) {E : Int} (he : (Cal.actS p s a).2 = E) (hne : E ≠ 0) : (Cal.runS p l s0 0).2 = (k, E) := by
  have h1 := h.1
  rw [hd, Cal.runS_more, he, if_neg hne] at h1
  rw [← h1]
theorem RunP.next {p : Proc} {l : List NAct} {s0 : NSt} {k : Nat} {s s' : NSt} {a : NAct} (h : RunP p l s0 k s) (hd : l.drop k = a :: l.drop (k + 1)) (hx : p.exts ≤ 12) (he : Cal.actS p s a = (s', 0)) : RunP p l s0 (k + 1) s' := by
  obtain ⟨h1, h3⟩ := h
  rw [hd, Cal.runS_more, he, if_pos rfl] at h1
  have := h3.act (a := a) hx (by rw [he])
  rw [he] at this
  exact ⟨h1, this⟩
theorem RunP.stop {p : Proc} {l : List NAct} {s0 : NSt} {k : Nat} {s : NSt} (h : RunP p l s0 k s) (hk : l.length ≤ k) : (Cal.runS p l s0 0).2 = (0, 0) := by
  obtain ⟨h1, _⟩ := h
  rw [List.drop_eq_nil_of_le hk] at h1
  have h1 : (s, 0, 0) = Cal.runS p l s0 0 := h1
  rw [← h1]
structure RcI (w : World) (b6 : Nat) (A : Option Addr) (c : Nat) (p : Proc) (N : Option Addr) (d : Nat) (n : Note) (s : NSt) (wr : World) : Prop where
  fr : Below w.heap.size w wr
  g1 : BoxAt wr w.heap.size [.int .i64 p.runs.m, .int .i64 p.runs.d, .bool p.runs.k, .int .i64 p.obj.m, .int .i64 p.obj.d, .bool p.obj.k, .int .i64 p.wait.m, .int .i64 p.wait.d, .bool p.wait.k, .int .i64 p.exts, .int .i64 p.longest, .slice A p.hols.length c]
  g2 : BoxAt wr (w.heap.size + 1) [.string n.name, .int .i64 n.opened, .slice N n.acts.length d]
  s : BoxAt wr b6 [.int .i64 s.phase, .int .i64 s.deadline, .int .i64 s.object, .int .i64 s.last, .int .i64 s.objected, .int .i64 s.extended]
  h6 : w.heap.size + 1 < b6
theorem RcI.below {w wr wr' : World} {b6 : Nat} {A : Option Addr} {c : Nat} {p : Proc} {N : Option Addr} {d : Nat} {n : Note} {s : NSt} (h : RcI w b6 A c p N d n s wr) (hb : Below wr.heap.size wr wr') : RcI w b6 A c p N d n s wr' :=
  ⟨below_step h.fr hb, h.g1.below hb, h.g2.below hb, h.s.below hb, h.h6⟩
theorem RcI.set {w wr wr' : World} {b6 : Nat} {A : Option Addr} {c : Nat} {p : Proc} {N : Option Addr} {d : Nat} {n : Note} {s s' : NSt} (h : RcI w b6 A c p N d n s wr) (hB : BoxAt wr' b6 [.int .i64 s'.phase, .int .i64 s'.deadline, .int .i64 s'.object, .int .i64 s'.last, .int .i64 s'.objected, .int .i64 s'.extended]) (hg : wr.grownBy wr' (some b6)) : RcI w b6 A c p N d n s' wr' :=
  ⟨below_of_grownB h.fr hg (by have := h.h6; omega), h.g1.grown hg (by have := h.h6; simp; omega), h.g2.grown hg (by have := h.h6; simp; omega), hB, h.h6⟩
set_option maxRecDepth 100000 in
set_option maxHeartbeats 4000000 in
theorem CheckNoticeR_any (A : Option Addr) (c : Nat) (p : Proc) (N : Option Addr) (d : Nat) (n : Note) (w : World) (hl : Hols w A p.hols) (ha : Acts w N n.acts) (hn : n.name.size ≤ maxLen) (hp : Cal.procErr p = 0) :
    Calls Tryz.prog 73 #[.agg #[.int .i64 p.runs.m, .int .i64 p.runs.d, .bool p.runs.k, .int .i64 p.obj.m, .int .i64 p.obj.d, .bool p.obj.k, .int .i64 p.wait.m, .int .i64 p.wait.d, .bool p.wait.k, .int .i64 p.exts, .int .i64 p.longest, .slice A p.hols.length c], .agg #[.string n.name, .int .i64 n.opened, .slice N n.acts.length d]] w (IEPost w (Cal.noteS p n)) := by
  have hsz := ha.size
  have hl := Lib.hid hl
  have ha := Lib.hid ha
  have hpz := Lib.hid hp
  obtain ⟨_, _, _, _, hx, _, _, _⟩ := Cal.procErr_ok hp
  clear hp
  cases hnm : nameB n.name
  · have hfin : Hid (Cal.noteS p n = (0, 4)) := by show _ = _; unfold Cal.noteS; rw [hnm]; rfl
    have hnz := Lib.hid hnm
    clear hnm
    obtain ⟨h1, h2, hb⟩ := start2 w A c p N d n
    have c0 := h2.out.c 0 _ rfl
    have c1 := h2.out.c 1 _ rfl
    have c2 := h2.out.c 2 _ rfl
    go_enter Tryz.func73, Tryz.ntmps73
    go_wp2_with (go_at_call 90; refine (IsName_any n.name _ hn).mono ?_; rintro e w' ⟨rfl, rfl⟩; rw [hnz.out])
    go_ret2
    exact ⟨by rw [hfin.out]; first | done | rfl, hb.out⟩
  · have hnz := Lib.hid hnm
    by_cases ho : 0 ≤ n.opened ∧ n.opened ≤ 200000
    · by_cases hlen : n.acts.length ≤ 40
      · have hC0 : Cal.noteS p n = (((Cal.runS p n.acts (Cal.openSt n.opened) 0).2.1 : Int), (Cal.runS p n.acts (Cal.openSt n.opened) 0).2.2) := by unfold Cal.noteS; rw [hnm, if_pos rfl, if_pos ho, if_pos hlen]
        obtain ⟨o0, o1⟩ := ho
        have hP0 : Hid (RunP p n.acts (Cal.openSt n.opened) 0 (Cal.openSt n.opened)) := ⟨rfl, StOk.openSt o0 o1⟩
        have hC := Lib.hid hC0
        clear hnm hC0
        obtain ⟨h1, h2, hb⟩ := start2 w A c p N d n
        have c0 := h2.out.c 0 _ rfl
        have c1 := h2.out.c 1 _ rfl
        have c2 := h2.out.c 2 _ rfl
        go_enter Tryz.func73, Tryz.ntmps73
        have hN6 : Hid (BoxAt (((w.alloc (.cells #[.int .i64 p.runs.m, .int .i64 p.runs.d, .bool p.runs.k, .int .i64 p.obj.m, .int .i64 p.obj.d, .bool p.obj.k, .int .i64 p.wait.m, .int .i64 p.wait.d, .bool p.wait.k, .int .i64 p.exts, .int .i64 p.longest, .slice A p.hols.length c] 47)).alloc (.cells #[.string n.name, .int .i64 n.opened, .slice N n.acts.length d] 93)).alloc (.cells #[.int .i64 0, .int .i64 0, .int .i64 0, .int .i64 0, .int .i64 0, .int .i64 0] 145)) (w.heap.size + 1 + 1) [.int .i64 0, .int .i64 0, .int .i64 0, .int .i64 0, .int .i64 0, .int .i64 0]) := by
          have h := BoxAt.new (W2n w A c p N d n) #[.int .i64 0, .int .i64 0, .int .i64 0, .int .i64 0, .int .i64 0, .int .i64 0] 145
          rw [W2n_size] at h
          exact h
        go_wp2_with (first
          | (go_at_call 90; refine (IsName_any n.name _ hn).mono ?_; rintro e w' ⟨rfl, rfl⟩; rw [hnz.out])
          | ((first | (go_at_call 134) | (go_at_call 59) | (go_at_call 133) | (go_at_call 14) | (go_at_call 178) | (fail) | (go_at_call 139)); first | refine rin ?_ | refine rout ?_ | refine rany ?_)
          | (refine wpList_store_box rfl 145 (.tmp 6) _ rfl (w.heap.size + 1 + 1) _ [.int .i64 0, .int .i64 0, .int .i64 0, .int .i64 n.opened, .int .i64 0, .int .i64 0] (by rfl) (by rfl) hN6.out rfl rsSize (by kernel_rfl) ?_; intro w3 h6 hg6))
        have hI : Hid (RcI w (w.heap.size + 1 + 1) A c p N d n (Cal.openSt n.opened) w3) := ⟨below_of_grownB (below_step hb.out (below_alloc _ _)) hg6 (by omega), (h1.out.alloc _).grown hg6 (by simp; omega), (h2.out.alloc _).grown hg6 (by simp), h6, by omega⟩
        clear h1 h2 hb hN6 h6 hg6 c0 c1 c2
        generalize Cal.openSt n.opened = s0 at *
        generalize w.heap.size + 1 + 1 = b6 at *
        go_loopw [8] (fun i wr => ∃ (k : Nat) (s : NSt), k ≤ n.acts.length ∧ i = .int .i64 k ∧ Hid (RunP p n.acts s0 k s) ∧ Hid (RcI w b6 A c p N d n s wr)) (fun i _ => n.acts.length - (intOf i).toNat)
        case atStart => exact ⟨0, s0, Nat.zero_le _, rfl, hP0, hI⟩
        case round =>
          obtain ⟨k, s, hk, rfl, hP, hI⟩ := hrel
          clear hP0
          have c2 := hI.out.g2.c 2 _ rfl
          by_cases hlt : k < n.acts.length
          · have hk' : n.acts[k]? = some n.acts[k] := List.getElem?_eq_getElem hlt
            have hd := Lib.hid (List.drop_eq_getElem_cons hlt)
            obtain ⟨b, o, rfl, hb0, _⟩ := ha.out.at_ hk'
            have hbne : b ≠ b6 := by have := hI.out.h6; omega
            obtain ⟨b', o', hbo, hbl, e0, e1, e2⟩ := (ha.out.below hI.out.fr).at_ hk'
            simp only [Option.some.injEq, Addr.mk.injEq, and_true] at hbo
            obtain ⟨rfl, rfl⟩ := hbo
            clear hk'
            generalize n.acts[k] = a at *
            have hok := hP.out.2
            have hz6 := hI.out.s.lt
            rcases hr : Cal.actS p s a with ⟨s2, E⟩
            have hst := Lib.hid (fun w1 h => Step_any A c p s a w1 h hok hpz.out)
            rw [hr] at hst
            have hrz := Lib.hid hr
            clear hr
            by_cases hE : E = 0
            · subst hE
              have hnx := Lib.hid (hP.out.next hd.out hx hrz.out)
              go_wp2_with fail
              have hu : ∀ w', Below wr.heap.size wr w' → w'.cell? ⟨b, o + k * 3, none⟩ = some (.int .i64 a.day) ∧ w'.cell? ⟨b, o + k * 3 + 1, none⟩ = some (.int .i64 a.kind) ∧ w'.cell? ⟨b, o + k * 3 + 2, none⟩ = some (.int .i64 a.days) := fun w' hb' => ⟨(hb'.cell (p := ⟨b, _, none⟩) hbl).trans e0, (hb'.cell (p := ⟨b, _, none⟩) hbl).trans e1, (hb'.cell (p := ⟨b, _, none⟩) hbl).trans e2⟩
              have hu := Lib.hid hu
              have x0 := hI.out.s.c 0 _ rfl
              have x1 := hI.out.s.c 1 _ rfl
              have x2 := hI.out.s.c 2 _ rfl
              have x3 := hI.out.s.c 3 _ rfl
              have x4 := hI.out.s.c 4 _ rfl
              have x5 := hI.out.s.c 5 _ rfl
              refine wp_region_held_drew (S := (fun w' => BoxAt w' w.heap.size [.int .i64 p.runs.m, .int .i64 p.runs.d, .bool p.runs.k, .int .i64 p.obj.m, .int .i64 p.obj.d, .bool p.obj.k, .int .i64 p.wait.m, .int .i64 p.wait.d, .bool p.wait.k, .int .i64 p.exts, .int .i64 p.longest, .slice A p.hols.length c] ∧ w'.cell? ⟨w.heap.size + 1, 2, none⟩ = some (.slice (some ⟨b, o, none⟩) n.acts.length d) ∧ w'.cell? ⟨b, o + k * 3, none⟩ = some (.int .i64 a.day) ∧ w'.cell? ⟨b, o + k * 3 + 1, none⟩ = some (.int .i64 a.kind) ∧ w'.cell? ⟨b, o + k * 3 + 2, none⟩ = some (.int .i64 a.days))) (by kernel_rfl) ⟨hI.out.g1.below (Below.refl _ _).drew, c2, e0, e1, e2⟩ (fun hHeld => ?_)
              (refine wpAnyH_take (i := 0) (v := _) rfl (by kernel_rfl) (by decide +kernel) (by decide +kernel) (fun _ _ _ h => h) (yieldsIf_load_mid (by kernel_rfl) 47 _ rfl (w.heap.size) 0 (by kernel_rfl) [.int .i64 p.runs.m, .int .i64 p.runs.d, .bool p.runs.k, .int .i64 p.obj.m, .int .i64 p.obj.d, .bool p.obj.k, .int .i64 p.wait.m, .int .i64 p.wait.d, .bool p.wait.k, .int .i64 p.exts, .int .i64 p.longest, .slice A p.hols.length c] _ (fun _ h => h.1.range) Tryz.underlying47 rfl prSize) (by assumption) ?_; (try simp only [Act.put, List.setIfInBounds_toArray]); (try simp only [List.set_cons_zero, List.set_cons_succ]))
              (refine tkH 2 (v := ?_) ?_ ?_; rotate_left; focus (intro w' hSw; (try dsimp only at hSw); go_simp; (try with_reducible rfl)); (try simp only [Act.put, List.setIfInBounds_toArray, List.set_cons_zero, List.set_cons_succ]))
              (refine tkH 3 (v := ?_) ?_ ?_; rotate_left; focus (intro w' hSw; (try dsimp only at hSw); go_simp; (try with_reducible rfl)); (try simp only [Act.put, List.setIfInBounds_toArray, List.set_cons_zero, List.set_cons_succ]))
              (refine tkH 4 (v := ?_) ?_ ?_; rotate_left; focus (intro w' hSw; (try dsimp only at hSw); go_simp; (try with_reducible rfl)); (try simp only [Act.put, List.setIfInBounds_toArray, List.set_cons_zero, List.set_cons_succ]))
              (refine tkH 5 (v := ?_) ?_ ?_; rotate_left; focus (intro w' hSw; (try dsimp only at hSw); go_simp; (try with_reducible rfl)); (try simp only [Act.put, List.setIfInBounds_toArray, List.set_cons_zero, List.set_cons_succ]))
              (refine tkH 6 (v := ?_) ?_ ?_; rotate_left; focus (intro w' hSw; (try dsimp only at hSw); go_simp; (try with_reducible rfl)); (try simp only [Act.put, List.setIfInBounds_toArray, List.set_cons_zero, List.set_cons_succ]))
              (refine wpAnyH_ready (rs := [1]) (by decide +kernel) (by simp) ?_; refine AllReadyH.cons rfl (fun K hK => ?_) AllReadyH.nil; rw [if_pos (by kernel_rfl)]; go_simp)
              (refine hK.out _ _ ⟨hI.out.g1.below (Below.refl _ _).drew, c2, e0, e1, e2⟩ (fun hHeld => ?_); clear hK K; (try simp only [Act.put, List.setIfInBounds_toArray]); (try simp only [List.set_cons_zero, List.set_cons_succ]))
              (refine wpAnyH_ready (rs := [7]) (by decide +kernel) (by simp) ?_; refine AllReadyH.cons rfl (fun K hK => ?_) AllReadyH.nil; rw [if_pos (by kernel_rfl)]; go_simp)
              refine (hst.out _ (hl.out.below (hI.out.fr.drew))).mono ?_
              rintro e w5 ⟨⟨s', rfl, hsq⟩, hb5⟩
              have hs' := Lib.hid hsq
              clear hsq
              have hb45 := below_of_drewN (n := 1) hb5
              have hI5 := Lib.hid (hI.out.below hb45)
              have hu5 := hu.out _ hb45
              clear x0 x1 x2 x3 x4 x5 hb5
              go_simp
              (refine hK.out _ _ ⟨hI5.out.g1, hI5.out.g2.c 2 _ rfl, hu5⟩ (fun hHeld => ?_); clear hK K; (try simp only [Act.put, List.setIfInBounds_toArray]); (try simp only [List.set_cons_zero, List.set_cons_succ]))
              (refine tkH 8 (v := ?_) ?_ ?_; rotate_left; focus (intro w' hSw; (try dsimp only at hSw); go_simp; (try with_reducible rfl)); (try simp only [Act.put, List.setIfInBounds_toArray, List.set_cons_zero, List.set_cons_succ]))
              (refine tkH 9 (v := ?_) ?_ ?_; rotate_left; focus (intro w' hSw; (try dsimp only at hSw); go_simp; (try with_reducible rfl)); (try simp only [Act.put, List.setIfInBounds_toArray, List.set_cons_zero, List.set_cons_succ]))
              (refine tkH 10 (v := ?_) ?_ ?_; rotate_left; focus (intro w' hSw; (try dsimp only at hSw); go_simp; (try with_reducible rfl)); (try simp only [Act.put, List.setIfInBounds_toArray, List.set_cons_zero, List.set_cons_succ]))
              refine wpAnyH_ready (rs := [11]) (by decide +kernel) (by simp) ?_
              refine AllReadyH.cons rfl (fun K hK => ?_) AllReadyH.nil
              rw [if_pos (by kernel_rfl)]
              refine wp_store_mid 145 (.tmp 6) (.tmp 40) rfl b6 0 #[.int .i64 s'.phase, .int .i64 s'.deadline, .int .i64 s'.object, .int .i64 s'.last, .int .i64 s'.objected, .int .i64 s'.extended] (by rfl) (by rfl) (by exact hI5.out.s.there) rsSize (by kernel_rfl) ?_
              have hB8 := hI5.out.s.put [.int .i64 s'.phase, .int .i64 s'.deadline, .int .i64 s'.object, .int .i64 s'.last, .int .i64 s'.objected, .int .i64 s'.extended] rfl
              have hg8 := grown_setCells b6 [.int .i64 s'.phase, .int .i64 s'.deadline, .int .i64 s'.object, .int .i64 s'.last, .int .i64 s'.objected, .int .i64 s'.extended] 0 w5
              have hI8 := Lib.hid (hI5.out.set hB8 hg8)
              have hcell := fun (x : Addr) (h : x.block < w5.heap.size) (h2 : x.block ≠ b6) => World.cell?_of_block (a := x) (hg8.block x.block h (by simpa using h2))
              have hlt5 := hb45.size
              have hneb : b ≠ b6 := hbne
              have hu8 : (w5.setCells b6 0 [.int .i64 s'.phase, .int .i64 s'.deadline, .int .i64 s'.object, .int .i64 s'.last, .int .i64 s'.objected, .int .i64 s'.extended]).cell? ⟨b, o + k * 3, none⟩ = some (.int .i64 a.day) ∧ (w5.setCells b6 0 [.int .i64 s'.phase, .int .i64 s'.deadline, .int .i64 s'.object, .int .i64 s'.last, .int .i64 s'.objected, .int .i64 s'.extended]).cell? ⟨b, o + k * 3 + 1, none⟩ = some (.int .i64 a.kind) ∧ (w5.setCells b6 0 [.int .i64 s'.phase, .int .i64 s'.deadline, .int .i64 s'.object, .int .i64 s'.last, .int .i64 s'.objected, .int .i64 s'.extended]).cell? ⟨b, o + k * 3 + 2, none⟩ = some (.int .i64 a.days) := ⟨(hcell ⟨b, _, none⟩ (by show b < _; omega) hneb).trans hu5.1, (hcell ⟨b, _, none⟩ (by show b < _; omega) hneb).trans hu5.2.1, (hcell ⟨b, _, none⟩ (by show b < _; omega) hneb).trans hu5.2.2⟩
              clear hcell hB8 hg8
              (refine hK.out _ _ ⟨hI8.out.g1, hI8.out.g2.c 2 _ rfl, hu8⟩ (fun hHeld => ?_); clear hK K; (try simp only [Act.put, List.setIfInBounds_toArray]); (try simp only [List.set_cons_zero, List.set_cons_succ]))
              (refine tkH 12 (v := ?_) ?_ ?_; rotate_left; focus (intro w' hSw; (try dsimp only at hSw); go_simp; (try with_reducible rfl)); (try simp only [Act.put, List.setIfInBounds_toArray, List.set_cons_zero, List.set_cons_succ]))
              refine wpAnyH_done (by kernel_rfl) ?_ _
              clear hHeld hu8 hu5 hb45 hI5 hI
              obtain rfl : s' = s2 := hs'.out rfl
              go_wp2_with fail
              go_roundw
              case rel => exact ⟨k + 1, s', by omega, by go_num, hnx, hI8⟩
              case measure => simp [intOf]; omega
            · have hE1 : (E != 0) = true := by simpa using hE
              have hbad := hP.out.bad hd.out (by rw [hrz.out]) hE
              have hfin : Hid (Cal.noteS p n = ((k : Int), E)) := by show _ = _; rw [hC.out, hbad]
              clear hbad
              go_wp2_with fail
              have hu : ∀ w', Below wr.heap.size wr w' → w'.cell? ⟨b, o + k * 3, none⟩ = some (.int .i64 a.day) ∧ w'.cell? ⟨b, o + k * 3 + 1, none⟩ = some (.int .i64 a.kind) ∧ w'.cell? ⟨b, o + k * 3 + 2, none⟩ = some (.int .i64 a.days) := fun w' hb' => ⟨(hb'.cell (p := ⟨b, _, none⟩) hbl).trans e0, (hb'.cell (p := ⟨b, _, none⟩) hbl).trans e1, (hb'.cell (p := ⟨b, _, none⟩) hbl).trans e2⟩
              have hu := Lib.hid hu
              have x0 := hI.out.s.c 0 _ rfl
              have x1 := hI.out.s.c 1 _ rfl
              have x2 := hI.out.s.c 2 _ rfl
              have x3 := hI.out.s.c 3 _ rfl
              have x4 := hI.out.s.c 4 _ rfl
              have x5 := hI.out.s.c 5 _ rfl
              refine wp_region_held_drew (S := (fun w' => BoxAt w' w.heap.size [.int .i64 p.runs.m, .int .i64 p.runs.d, .bool p.runs.k, .int .i64 p.obj.m, .int .i64 p.obj.d, .bool p.obj.k, .int .i64 p.wait.m, .int .i64 p.wait.d, .bool p.wait.k, .int .i64 p.exts, .int .i64 p.longest, .slice A p.hols.length c] ∧ w'.cell? ⟨w.heap.size + 1, 2, none⟩ = some (.slice (some ⟨b, o, none⟩) n.acts.length d) ∧ w'.cell? ⟨b, o + k * 3, none⟩ = some (.int .i64 a.day) ∧ w'.cell? ⟨b, o + k * 3 + 1, none⟩ = some (.int .i64 a.kind) ∧ w'.cell? ⟨b, o + k * 3 + 2, none⟩ = some (.int .i64 a.days))) (by kernel_rfl) ⟨hI.out.g1.below (Below.refl _ _).drew, c2, e0, e1, e2⟩ (fun hHeld => ?_)
              (refine wpAnyH_take (i := 0) (v := _) rfl (by kernel_rfl) (by decide +kernel) (by decide +kernel) (fun _ _ _ h => h) (yieldsIf_load_mid (by kernel_rfl) 47 _ rfl (w.heap.size) 0 (by kernel_rfl) [.int .i64 p.runs.m, .int .i64 p.runs.d, .bool p.runs.k, .int .i64 p.obj.m, .int .i64 p.obj.d, .bool p.obj.k, .int .i64 p.wait.m, .int .i64 p.wait.d, .bool p.wait.k, .int .i64 p.exts, .int .i64 p.longest, .slice A p.hols.length c] _ (fun _ h => h.1.range) Tryz.underlying47 rfl prSize) (by assumption) ?_; (try simp only [Act.put, List.setIfInBounds_toArray]); (try simp only [List.set_cons_zero, List.set_cons_succ]))
              (refine tkH 2 (v := ?_) ?_ ?_; rotate_left; focus (intro w' hSw; (try dsimp only at hSw); go_simp; (try with_reducible rfl)); (try simp only [Act.put, List.setIfInBounds_toArray, List.set_cons_zero, List.set_cons_succ]))
              (refine tkH 3 (v := ?_) ?_ ?_; rotate_left; focus (intro w' hSw; (try dsimp only at hSw); go_simp; (try with_reducible rfl)); (try simp only [Act.put, List.setIfInBounds_toArray, List.set_cons_zero, List.set_cons_succ]))
              (refine tkH 4 (v := ?_) ?_ ?_; rotate_left; focus (intro w' hSw; (try dsimp only at hSw); go_simp; (try with_reducible rfl)); (try simp only [Act.put, List.setIfInBounds_toArray, List.set_cons_zero, List.set_cons_succ]))
              (refine tkH 5 (v := ?_) ?_ ?_; rotate_left; focus (intro w' hSw; (try dsimp only at hSw); go_simp; (try with_reducible rfl)); (try simp only [Act.put, List.setIfInBounds_toArray, List.set_cons_zero, List.set_cons_succ]))
              (refine tkH 6 (v := ?_) ?_ ?_; rotate_left; focus (intro w' hSw; (try dsimp only at hSw); go_simp; (try with_reducible rfl)); (try simp only [Act.put, List.setIfInBounds_toArray, List.set_cons_zero, List.set_cons_succ]))
              (refine wpAnyH_ready (rs := [1]) (by decide +kernel) (by simp) ?_; refine AllReadyH.cons rfl (fun K hK => ?_) AllReadyH.nil; rw [if_pos (by kernel_rfl)]; go_simp)
              (refine hK.out _ _ ⟨hI.out.g1.below (Below.refl _ _).drew, c2, e0, e1, e2⟩ (fun hHeld => ?_); clear hK K; (try simp only [Act.put, List.setIfInBounds_toArray]); (try simp only [List.set_cons_zero, List.set_cons_succ]))
              (refine wpAnyH_ready (rs := [7]) (by decide +kernel) (by simp) ?_; refine AllReadyH.cons rfl (fun K hK => ?_) AllReadyH.nil; rw [if_pos (by kernel_rfl)]; go_simp)
              refine (hst.out _ (hl.out.below (hI.out.fr.drew))).mono ?_
              rintro e w5 ⟨⟨s', rfl, hsq⟩, hb5⟩
              have hs' := Lib.hid hsq
              clear hsq
              have hb45 := below_of_drewN (n := 1) hb5
              have hI5 := Lib.hid (hI.out.below hb45)
              have hu5 := hu.out _ hb45
              clear x0 x1 x2 x3 x4 x5 hb5
              go_simp
              (refine hK.out _ _ ⟨hI5.out.g1, hI5.out.g2.c 2 _ rfl, hu5⟩ (fun hHeld => ?_); clear hK K; (try simp only [Act.put, List.setIfInBounds_toArray]); (try simp only [List.set_cons_zero, List.set_cons_succ]))
              (refine tkH 8 (v := ?_) ?_ ?_; rotate_left; focus (intro w' hSw; (try dsimp only at hSw); go_simp; (try with_reducible rfl)); (try simp only [Act.put, List.setIfInBounds_toArray, List.set_cons_zero, List.set_cons_succ]))
              (refine tkH 9 (v := ?_) ?_ ?_; rotate_left; focus (intro w' hSw; (try dsimp only at hSw); go_simp; (try with_reducible rfl)); (try simp only [Act.put, List.setIfInBounds_toArray, List.set_cons_zero, List.set_cons_succ]))
              (refine tkH 10 (v := ?_) ?_ ?_; rotate_left; focus (intro w' hSw; (try dsimp only at hSw); go_simp; (try with_reducible rfl)); (try simp only [Act.put, List.setIfInBounds_toArray, List.set_cons_zero, List.set_cons_succ]))
              refine wpAnyH_ready (rs := [11]) (by decide +kernel) (by simp) ?_
              refine AllReadyH.cons rfl (fun K hK => ?_) AllReadyH.nil
              rw [if_pos (by kernel_rfl)]
              refine wp_store_mid 145 (.tmp 6) (.tmp 40) rfl b6 0 #[.int .i64 s'.phase, .int .i64 s'.deadline, .int .i64 s'.object, .int .i64 s'.last, .int .i64 s'.objected, .int .i64 s'.extended] (by rfl) (by rfl) (by exact hI5.out.s.there) rsSize (by kernel_rfl) ?_
              have hB8 := hI5.out.s.put [.int .i64 s'.phase, .int .i64 s'.deadline, .int .i64 s'.object, .int .i64 s'.last, .int .i64 s'.objected, .int .i64 s'.extended] rfl
              have hg8 := grown_setCells b6 [.int .i64 s'.phase, .int .i64 s'.deadline, .int .i64 s'.object, .int .i64 s'.last, .int .i64 s'.objected, .int .i64 s'.extended] 0 w5
              have hI8 := Lib.hid (hI5.out.set hB8 hg8)
              have hcell := fun (x : Addr) (h : x.block < w5.heap.size) (h2 : x.block ≠ b6) => World.cell?_of_block (a := x) (hg8.block x.block h (by simpa using h2))
              have hlt5 := hb45.size
              have hneb : b ≠ b6 := hbne
              have hu8 : (w5.setCells b6 0 [.int .i64 s'.phase, .int .i64 s'.deadline, .int .i64 s'.object, .int .i64 s'.last, .int .i64 s'.objected, .int .i64 s'.extended]).cell? ⟨b, o + k * 3, none⟩ = some (.int .i64 a.day) ∧ (w5.setCells b6 0 [.int .i64 s'.phase, .int .i64 s'.deadline, .int .i64 s'.object, .int .i64 s'.last, .int .i64 s'.objected, .int .i64 s'.extended]).cell? ⟨b, o + k * 3 + 1, none⟩ = some (.int .i64 a.kind) ∧ (w5.setCells b6 0 [.int .i64 s'.phase, .int .i64 s'.deadline, .int .i64 s'.object, .int .i64 s'.last, .int .i64 s'.objected, .int .i64 s'.extended]).cell? ⟨b, o + k * 3 + 2, none⟩ = some (.int .i64 a.days) := ⟨(hcell ⟨b, _, none⟩ (by show b < _; omega) hneb).trans hu5.1, (hcell ⟨b, _, none⟩ (by show b < _; omega) hneb).trans hu5.2.1, (hcell ⟨b, _, none⟩ (by show b < _; omega) hneb).trans hu5.2.2⟩
              clear hcell hB8 hg8
              (refine hK.out _ _ ⟨hI8.out.g1, hI8.out.g2.c 2 _ rfl, hu8⟩ (fun hHeld => ?_); clear hK K; (try simp only [Act.put, List.setIfInBounds_toArray]); (try simp only [List.set_cons_zero, List.set_cons_succ]))
              (refine tkH 12 (v := ?_) ?_ ?_; rotate_left; focus (intro w' hSw; (try dsimp only at hSw); go_simp; (try with_reducible rfl)); (try simp only [Act.put, List.setIfInBounds_toArray, List.set_cons_zero, List.set_cons_succ]))
              refine wpAnyH_done (by kernel_rfl) ?_ _
              clear hHeld hu8 hu5 hb45 hI5 hI
              go_wp2_with fail
              go_ret2
              exact ⟨by rw [hfin.out]; first | done | rfl, hI8.out.fr⟩
          · have hstop := hP.out.stop (by omega : n.acts.length ≤ k)
            have hfin : Hid (Cal.noteS p n = (0, 0)) := by show _ = _; rw [hC.out, hstop]; rfl
            have hge : n.acts.length = k := by omega
            clear hstop hP
            go_wp2_with fail
            go_ret2
            exact ⟨by rw [hfin.out]; first | done | rfl, hI.out.fr⟩
      · have hfin : Hid (Cal.noteS p n = (0, 8)) := by show _ = _; unfold Cal.noteS; rw [hnm, if_pos rfl, if_pos ho, if_neg hlen]
        obtain ⟨o0, o1⟩ := ho
        have hlen' : 40 < n.acts.length := by omega
        clear hnm hlen
        obtain ⟨h1, h2, hb⟩ := start2 w A c p N d n
        have c0 := h2.out.c 0 _ rfl
        have c1 := h2.out.c 1 _ rfl
        have c2 := h2.out.c 2 _ rfl
        go_enter Tryz.func73, Tryz.ntmps73
        go_wp2_with (first | (go_at_call 90; refine (IsName_any n.name _ hn).mono ?_; rintro e w' ⟨rfl, rfl⟩; rw [hnz.out]) | ((first | (go_at_call 134) | (go_at_call 59) | (go_at_call 133) | (go_at_call 14) | (go_at_call 178) | (fail) | (go_at_call 139)); first | refine rin ?_ | refine rout ?_ | refine rany ?_))
        go_ret2
        exact ⟨by rw [hfin.out]; first | done | rfl, hb.out⟩
    · have hfin : Hid (Cal.noteS p n = (0, 2)) := by show _ = _; unfold Cal.noteS; rw [hnm, if_pos rfl, if_neg ho]
      have ho' : n.opened < 0 ∨ 200000 < n.opened := by omega
      clear hnm ho
      obtain ⟨h1, h2, hb⟩ := start2 w A c p N d n
      have c0 := h2.out.c 0 _ rfl
      have c1 := h2.out.c 1 _ rfl
      have c2 := h2.out.c 2 _ rfl
      go_enter Tryz.func73, Tryz.ntmps73
      go_wp2_with (first | (go_at_call 90; refine (IsName_any n.name _ hn).mono ?_; rintro e w' ⟨rfl, rfl⟩; rw [hnz.out]) | ((first | (go_at_call 134) | (go_at_call 59) | (go_at_call 133) | (go_at_call 14) | (go_at_call 178) | (fail) | (go_at_call 139)); first | refine rin ?_ | refine rout ?_ | refine rany ?_))
      go_ret2
      exact ⟨by rw [hfin.out]; first | done | rfl, hb.out⟩
end Go.Proofs.YtbegbajlagcbdaaGreatDoor
namespace Go.Proofs.YtbegbajlagcbdaaGreatDoor
open Go Go.RowKit
theorem Cal.noteS_ck {p : Proc} {e : NtE} (hp : Cal.procErr p = 0) : (Cal.noteS p e.n).2 = Cal.ckE p e := by unfold Cal.ckE Cal.checkS; rw [if_pos hp]
theorem beq_names {a b : ByteArray} : (a.toList == b.toList) = true ↔ a.data.toList = b.data.toList := by rw [ByteArray.toList_eq, ByteArray.toList_eq]; simp
theorem beq_names_not {a b : ByteArray} (h : ¬ a.data.toList = b.data.toList) : (a.toList == b.toList) = false := by
  rw [Bool.eq_false_iff]; exact fun h2 => h (beq_names.1 h2)
/-- The names ahead of a place are other ones. -/
def otherTo {α : Type} (nm : α → List UInt8) (l : List α) (x : List UInt8) (j : Nat) : Prop := ∀ (i : Nat) e, i < j → l[i]? = some e → nm e ≠ x
theorem otherTo.not_mem {α : Type} {nm : α → List UInt8} {l : List α} {x : List UInt8} {j : Nat} (h : otherTo nm l x j) : x ∉ (l.take j).map nm := fun hm => by
  obtain ⟨e, he, hx⟩ := List.mem_map.1 hm
  obtain ⟨i, hi, hq⟩ := List.getElem_of_mem he
  rw [List.length_take] at hi
  rw [List.getElem_take] at hq
  exact h i e (by omega) (by rw [List.getElem?_eq_getElem (by omega), hq]) hx
theorem mem_of_at {α : Type} {nm : α → List UInt8} {l : List α} {x : List UInt8} {i k : Nat} {e : α} (hi : i < k) (he : l[i]? = some e) (hx : nm e = x) : x ∈ (l.take k).map nm := by
  have hl := (List.getElem?_eq_some_iff.1 he).1
  refine List.mem_map.2 ⟨e, ?_, hx⟩
  rw [List.mem_iff_getElem?]
  exact ⟨i, by rw [List.getElem?_take, if_pos hi, he]⟩
set_option maxRecDepth 100000 in
set_option maxHeartbeats 8000000 in
theorem CheckNoticesR_any (A : Option Addr) (c : Nat) (p : Proc) (L : Option Addr) (lc : Nat) (l : List NtE) (w : World) (hl : Hols w A p.hols) (hN : Nts w L lc l) (hp : Cal.procErr p = 0) :
    Calls Tryz.prog 22 #[.agg #[.int .i64 p.runs.m, .int .i64 p.runs.d, .bool p.runs.k, .int .i64 p.obj.m, .int .i64 p.obj.d, .bool p.obj.k, .int .i64 p.wait.m, .int .i64 p.wait.d, .bool p.wait.k, .int .i64 p.exts, .int .i64 p.longest, .slice A p.hols.length c], .slice L l.length lc] w fun e w' => e = .returned (.int .i64 (Cal.ntsE p l)) ∧ Below w.heap.size w w' := by
  have hsz := hN.size
  have g1 := Lib.hid (BoxAt.new w #[.int .i64 p.runs.m, .int .i64 p.runs.d, .bool p.runs.k, .int .i64 p.obj.m, .int .i64 p.obj.d, .bool p.obj.k, .int .i64 p.wait.m, .int .i64 p.wait.d, .bool p.wait.k, .int .i64 p.exts, .int .i64 p.longest, .slice A p.hols.length c] 47)
  have hb := Lib.hid (below_alloc w (.cells #[.int .i64 p.runs.m, .int .i64 p.runs.d, .bool p.runs.k, .int .i64 p.obj.m, .int .i64 p.obj.d, .bool p.obj.k, .int .i64 p.wait.m, .int .i64 p.wait.d, .bool p.wait.k, .int .i64 p.exts, .int .i64 p.longest, .slice A p.hols.length c] 47))
  by_cases hbig : 40 < l.length
  · have hfin : Hid (Cal.ntsE p l = 8) := by show _ = _; unfold Cal.ntsE; rw [if_pos hbig]
    go_enter Tryz.func22, Tryz.ntmps22
    go_wp2_with fail
    go_ret
    exact ⟨ret_int hfin.out.symm, hb.out⟩
  · have hnE : Hid (Cal.ntsE p l = Cal.namesE (Cal.ckE p) Cal.nmE [] l) := by show _ = _; unfold Cal.ntsE; rw [if_neg hbig]
    have hN := Lib.hid (fun w' (h : Below w.heap.size w w') => hN.below h)
    have hl := Lib.hid (fun w' (h : Below w.heap.size w w') => hl.below h)
    have hpz := Lib.hid hp
    have hI0 : Hid (NamesTo (Cal.ckE p) Cal.nmE l 0) := rfl
    have hlen : l.length ≤ 40 := by omega
    clear hp hbig
    go_enter Tryz.func22, Tryz.ntmps22
    go_wp2_with fail
    go_loopw [5] (fun i wr => ∃ k : Nat, k ≤ l.length ∧ i = .int .i64 k ∧ Hid (NamesTo (Cal.ckE p) Cal.nmE l k) ∧ Hid (BoxAt wr w.heap.size [.int .i64 p.runs.m, .int .i64 p.runs.d, .bool p.runs.k, .int .i64 p.obj.m, .int .i64 p.obj.d, .bool p.obj.k, .int .i64 p.wait.m, .int .i64 p.wait.d, .bool p.wait.k, .int .i64 p.exts, .int .i64 p.longest, .slice A p.hols.length c]) ∧ Hid (Below w.heap.size w wr)) (fun i _ => l.length - (intOf i).toNat)
    case atStart => exact ⟨0, Nat.zero_le _, rfl, hI0, g1, hb⟩
    case round =>
      clear g1 hb hI0
      obtain ⟨k, hk, rfl, hI, g1, hb⟩ := hrel
      by_cases hlt : k < l.length
      · have hk' : l[k]? = some l[k] := List.getElem?_eq_getElem hlt
        have hbad := Lib.hid (fun h => hI.out.bad hlt h)
        have htw := Lib.hid (fun h h2 => hI.out.twice hlt h h2)
        have hnx := Lib.hid (fun h h2 => hI.out.next hlt h h2)
        obtain ⟨ha, hnm⟩ := (hN.out _ hb.out).each k _ hk'
        have hck := fun w1 (h : Below w.heap.size w w1) => CheckNoticeR_any A c p l[k].N l[k].d l[k].n w1 (hl.out _ h) ((hN.out _ h).each k _ hk').1 hnm hpz.out
        rcases hr : Cal.noteS p l[k].n with ⟨ri, rE⟩
        have hrE : Cal.ckE p l[k] = rE := by rw [← Cal.noteS_ck hpz.out, hr]
        simp only [hr] at hck
        have hck := Lib.hid hck
        obtain ⟨b, o, rfl, hbl, c0, c1, c2⟩ := (hN.out _ hb.out).at_ hk'
        clear hr ha hk'
        have hkl : (k : Int) < (l.length : Int) := by omega
        have hk0 : (0 : Int) ≤ (k : Int) := by omega
        have hNm : Hid (Cal.nmE l[k] = l[k].n.name.data.toList) := rfl
        generalize l[k] = e at *
        go_wp2_with fail
        have hdr : Below wr.heap.size wr wr.drew := (Below.refl _ _).drew
        refine wp_region_held_drew (S := (fun w' => BoxAt w' w.heap.size [.int .i64 p.runs.m, .int .i64 p.runs.d, .bool p.runs.k, .int .i64 p.obj.m, .int .i64 p.obj.d, .bool p.obj.k, .int .i64 p.wait.m, .int .i64 p.wait.d, .bool p.wait.k, .int .i64 p.exts, .int .i64 p.longest, .slice A p.hols.length c] ∧ (w'.cell? ⟨b, o + k * 3, none⟩ = some (.string e.n.name) ∧ w'.cell? ⟨b, o + k * 3 + 1, none⟩ = some (.int .i64 e.n.opened) ∧ w'.cell? ⟨b, o + k * 3 + 2, none⟩ = some (.slice e.N e.n.acts.length e.d)))) (by kernel_rfl) ⟨g1.out.below hdr, c0, c1, c2⟩ (fun hHeld => ?_)
        have g1 := Lib.hid (g1.out.below hdr)
        have hb := Lib.hid (below_step hb.out hdr)
        have hbl : b < wr.drew.heap.size := hbl
        have c0 : wr.drew.cell? ⟨b, o + k * 3, none⟩ = some (.string e.n.name) := c0
        have c1 : wr.drew.cell? ⟨b, o + k * 3 + 1, none⟩ = some (.int .i64 e.n.opened) := c1
        have c2 : wr.drew.cell? ⟨b, o + k * 3 + 2, none⟩ = some (.slice e.N e.n.acts.length e.d) := c2
        clear hdr
        generalize wr.drew = w4 at *
        (refine wpAnyH_take (i := 0) (v := _) rfl (by kernel_rfl) (by decide +kernel) (by decide +kernel) (fun _ _ _ h => h) (yieldsIf_load_mid (by kernel_rfl) 47 _ rfl (w.heap.size) 0 (by kernel_rfl) [.int .i64 p.runs.m, .int .i64 p.runs.d, .bool p.runs.k, .int .i64 p.obj.m, .int .i64 p.obj.d, .bool p.obj.k, .int .i64 p.wait.m, .int .i64 p.wait.d, .bool p.wait.k, .int .i64 p.exts, .int .i64 p.longest, .slice A p.hols.length c] _ (fun _ h => h.1.range) Tryz.underlying47 rfl prSize) (by assumption) ?_; (try simp only [Act.put]); (try simp only [List.setIfInBounds_toArray]); (try simp only [List.set_cons_zero, List.set_cons_succ]))
        (refine tkH 1 (v := ?_) ?_ ?_; rotate_left; focus (intro w' hSw; (try dsimp only at hSw); go_simp; (try with_reducible rfl)); (try simp only [Act.put, List.setIfInBounds_toArray, List.set_cons_zero, List.set_cons_succ]))
        (refine tkH 2 (v := ?_) ?_ ?_; rotate_left; focus (intro w' hSw; (try dsimp only at hSw); go_simp; (try with_reducible rfl)); (try simp only [Act.put, List.setIfInBounds_toArray, List.set_cons_zero, List.set_cons_succ]))
        (refine tkH 3 (v := ?_) ?_ ?_; rotate_left; focus (intro w' hSw; (try dsimp only at hSw); go_simp; (try with_reducible rfl)); (try simp only [Act.put, List.setIfInBounds_toArray, List.set_cons_zero, List.set_cons_succ]))
        (refine tkH 4 (v := ?_) ?_ ?_; rotate_left; focus (intro w' hSw; (try dsimp only at hSw); go_simp; (try with_reducible rfl)); (try simp only [Act.put, List.setIfInBounds_toArray, List.set_cons_zero, List.set_cons_succ]))
        (refine wpAnyH_ready (rs := [5]) (by decide +kernel) (by simp) ?_; refine AllReadyH.cons rfl (fun K hK => ?_) AllReadyH.nil; rw [if_pos (by kernel_rfl)]; go_simp)
        refine (hck.out _ hb.out).mono ?_
        rintro en w5 ⟨rfl, hb5⟩
        have g1 := Lib.hid (g1.out.below hb5)
        have hb := Lib.hid (below_step hb.out hb5)
        have c0 := (hb5.cell (p := ⟨b, o + k * 3, none⟩) hbl).trans c0
        have c1 := (hb5.cell (p := ⟨b, o + k * 3 + 1, none⟩) hbl).trans c1
        have c2 := (hb5.cell (p := ⟨b, o + k * 3 + 2, none⟩) hbl).trans c2
        clear hb5
        go_simp
        (refine hK.out _ _ ⟨g1.out, c0, c1, c2⟩ (fun hHeld => ?_); clear hK K; (try simp only [Act.put, List.setIfInBounds_toArray]); (try simp only [List.set_cons_zero, List.set_cons_succ]))
        (refine tkH 6 (v := ?_) ?_ ?_; rotate_left; focus (intro w' hSw; (try dsimp only at hSw); go_simp; (try with_reducible rfl)); (try simp only [Act.put, List.setIfInBounds_toArray, List.set_cons_zero, List.set_cons_succ]))
        (refine tkH 7 (v := ?_) ?_ ?_; rotate_left; focus (intro w' hSw; (try dsimp only at hSw); go_simp; (try with_reducible rfl)); (try simp only [Act.put, List.setIfInBounds_toArray, List.set_cons_zero, List.set_cons_succ]))
        (refine tkH 8 (v := ?_) ?_ ?_; rotate_left; focus (intro w' hSw; (try dsimp only at hSw); go_simp; (try with_reducible rfl)); (try simp only [Act.put, List.setIfInBounds_toArray, List.set_cons_zero, List.set_cons_succ]))
        (refine tkH 9 (v := ?_) ?_ ?_; rotate_left; focus (intro w' hSw; (try dsimp only at hSw); go_simp; (try with_reducible rfl)); (try simp only [Act.put, List.setIfInBounds_toArray, List.set_cons_zero, List.set_cons_succ]))
        (refine wpAnyH_ready (rs := [10]) (by decide +kernel) (by simp) ?_; refine AllReadyH.cons rfl (fun K hK => ?_) AllReadyH.nil; rw [if_pos (by kernel_rfl)]; go_simp)
        (refine hK.out _ _ ⟨g1.out, c0, c1, c2⟩ (fun hHeld => ?_); clear hK K; (try simp only [Act.put, List.setIfInBounds_toArray]); (try simp only [List.set_cons_zero, List.set_cons_succ]))
        refine wpAnyH_done (by kernel_rfl) ?_ _
        clear hHeld
        by_cases hE : rE = 0
        · subst hE
          have hO0 : Hid (otherTo Cal.nmE l (Cal.nmE e) 0) := fun i q h _ => by omega
          go_wp2_with fail
          go_loopw [8] (fun i wr => ∃ (j n : Nat), j ≤ k ∧ i = .int .i64 j ∧ Hid (otherTo Cal.nmE l (Cal.nmE e) j) ∧ wr = w5.drewN n) (fun i _ => k - (intOf i).toNat)
          case atStart => exact ⟨0, 0, Nat.zero_le _, rfl, hO0, rfl⟩
          case round =>
            clear hO0
            obtain ⟨j, n, hj, rfl, hO, rfl⟩ := hrel
            by_cases hjk : j < k
            · have hjl : j < l.length := by omega
              have hj' : l[j]? = some l[j] := List.getElem?_eq_getElem hjl
              obtain ⟨b2, o2, hA2, _, d0, _, _⟩ := (hN.out _ hb.out).at_ hj'
              cases hA2
              by_cases hx : Cal.nmE l[j] = Cal.nmE e
              · have hfin : Hid (Cal.ntsE p l = 5) := by show _ = _; rw [hnE.out]; exact htw.out hrE (mem_of_at hjk hj' hx)
                have hbx : (l[j].n.name.toList == e.n.name.toList) = true := beq_names.2 hx
                clear hx hj' htw hnx
                generalize l[j] = q at *
                go_wp2_with fail
                go_quiet (fail)
                go_wp2_with fail
                go_ret
                exact ⟨ret_int hfin.out.symm, below_drewN (below_drewN hb.out _) _⟩
              · have hO2 : Hid (otherTo Cal.nmE l (Cal.nmE e) (j + 1)) := fun i q hi hq => by
                  rcases Nat.lt_or_ge i j with h | h
                  · exact hO.out i q h hq
                  · obtain rfl : i = j := by omega
                    rw [hj'] at hq; cases hq; exact hx
                have hbx : (l[j].n.name.toList == e.n.name.toList) = false := beq_names_not hx
                clear hx hj'
                generalize l[j] = q at *
                go_wp2_with fail
                go_quiet (fail)
                go_wp2_with fail
                go_roundw
                case rel => exact ⟨j + 1, _, by omega, by go_num, hO2, rfl⟩
                case measure => simp [intOf]; omega
            · obtain rfl : j = k := by omega
              have hI2 : Hid (NamesTo (Cal.ckE p) Cal.nmE l (j + 1)) := hnx.out hrE hO.out.not_mem
              go_wp2_with fail
              go_roundw
              case rel => exact ⟨j + 1, by omega, by go_num, hI2, g1.out.below (below_drewN (Below.refl _ _) _), below_drewN hb.out _⟩
              case measure => simp [intOf]; omega
        · have hfin : Hid (Cal.ntsE p l = rE) := by show _ = _; rw [hnE.out, hbad.out (by rw [hrE]; exact hE), hrE]
          have hE1 : (rE != 0) = true := by simpa using hE
          clear hE
          go_wp2_with fail
          go_ret
          exact ⟨ret_int hfin.out.symm, hb.out⟩
      · obtain rfl : k = l.length := by omega
        have hfin : Hid (Cal.ntsE p l = 0) := by show _ = _; rw [hnE.out]; exact hI.out.stop (Nat.le_refl _)
        go_wp2_with fail
        go_ret
        exact ⟨ret_int hfin.out.symm, hb.out⟩
set_option maxRecDepth 100000 in
theorem brief_any (L : Option Addr) (lc : Nat) (l : List NtE) (w : World) (hN : Nts w L lc l) : Calls Tryz.prog 19 #[.slice L l.length lc] w (BoolPost w) := by
  have hsz := hN.size
  have hb : Hid (Below w.heap.size w w) := Below.refl _ _
  by_cases h4 : 4 < l.length ∧ l.length ≤ 40
  · obtain ⟨h1, h2⟩ := h4
    go_enter Tryz.func19, Tryz.ntmps19
    go_wp2_with fail
    go_ret
    exact ⟨⟨_, rfl⟩, hb.out⟩
  · by_cases h50 : 50 < l.length
    · clear h4
      go_enter Tryz.func19, Tryz.ntmps19
      go_wp2_with fail
      go_ret
      exact ⟨⟨_, rfl⟩, hb.out⟩
    · have hN := Lib.hid (fun w' (h : Below w.heap.size w w') => hN.below h)
      rcases (show l.length ≤ 4 ∨ 40 < l.length by omega) with h5 | h5
      · clear h4
        go_enter Tryz.func19, Tryz.ntmps19
        go_wp2_with fail
        go_loopw [3] (fun i wr => ∃ k : Nat, k ≤ l.length ∧ i = .int .i64 k ∧ Hid (Below w.heap.size w wr)) (fun i _ => l.length - (intOf i).toNat)
        case atStart => exact ⟨0, Nat.zero_le _, rfl, hb⟩
        case round =>
          clear hb
          obtain ⟨k, hk, rfl, hb⟩ := hrel
          by_cases hlt : k < l.length
          · have hk' : l[k]? = some l[k] := List.getElem?_eq_getElem hlt
            obtain ⟨ha, hnm⟩ := (hN.out _ hb.out).each k _ hk'
            obtain ⟨b, o, rfl, hbl, c0, c1, c2⟩ := (hN.out _ hb.out).at_ hk'
            have hasz := ha.size
            clear hk' ha
            generalize l[k] = e at *
            go_wp2_with fail
            refine (Brief_any e.N e.d e.n _ hnm hasz).mono ?_
            rintro en w2 ⟨⟨bb, rfl⟩, hb2⟩
            have hb := Lib.hid (below_step hb.out hb2)
            clear hb2 c0 c1 c2
            cases bb
            · go_wp2_with fail
              go_ret
              exact ⟨⟨_, rfl⟩, hb.out⟩
            · go_wp2_with fail
              go_roundw
              case rel => exact ⟨k + 1, by omega, by go_num, hb⟩
              case measure => simp [intOf]; omega
          · obtain rfl : k = l.length := by omega
            go_wp2_with fail
            go_ret
            exact ⟨⟨_, rfl⟩, hb.out⟩
      · clear h4
        go_enter Tryz.func19, Tryz.ntmps19
        go_wp2_with fail
        go_loopw [3] (fun i wr => ∃ k : Nat, k ≤ l.length ∧ i = .int .i64 k ∧ Hid (Below w.heap.size w wr)) (fun i _ => l.length - (intOf i).toNat)
        case atStart => exact ⟨0, Nat.zero_le _, rfl, hb⟩
        case round =>
          clear hb
          obtain ⟨k, hk, rfl, hb⟩ := hrel
          by_cases hlt : k < l.length
          · have hk' : l[k]? = some l[k] := List.getElem?_eq_getElem hlt
            obtain ⟨ha, hnm⟩ := (hN.out _ hb.out).each k _ hk'
            obtain ⟨b, o, rfl, hbl, c0, c1, c2⟩ := (hN.out _ hb.out).at_ hk'
            have hasz := ha.size
            clear hk' ha
            generalize l[k] = e at *
            go_wp2_with fail
            refine (Brief_any e.N e.d e.n _ hnm hasz).mono ?_
            rintro en w2 ⟨⟨bb, rfl⟩, hb2⟩
            have hb := Lib.hid (below_step hb.out hb2)
            clear hb2 c0 c1 c2
            cases bb
            · go_wp2_with fail
              go_ret
              exact ⟨⟨_, rfl⟩, hb.out⟩
            · go_wp2_with fail
              go_roundw
              case rel => exact ⟨k + 1, by omega, by go_num, hb⟩
              case measure => simp [intOf]; omega
          · obtain rfl : k = l.length := by omega
            go_wp2_with fail
            go_ret
            exact ⟨⟨_, rfl⟩, hb.out⟩
end Go.Proofs.YtbegbajlagcbdaaGreatDoor
