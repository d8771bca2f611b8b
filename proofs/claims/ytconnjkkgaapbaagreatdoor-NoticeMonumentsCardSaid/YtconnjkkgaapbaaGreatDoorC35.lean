/- Chapter 8 and what it rests on: definitions and walks, part 35. -/
import Derived.Test.YtconnjkkgaapbaaGreatDoorC01
import Derived.Test.YtconnjkkgaapbaaGreatDoorC25
import Derived.Test.YtconnjkkgaapbaaGreatDoorC26
import Derived.Deep.RegionWith
import Derived.Test.YtconnjkkgaapbaaGreatDoorC06
import Derived.RangeFuncNested
import Derived.RangeFuncBound
import Derived.RangeFuncCalls
import Derived.RangeFuncLeaves
import Derived.RangeFuncBox
import Derived.Shelf.Abstract
import Derived.Shelf.RegionOpen
import Derived.OwnWalkIn
import Derived.TacticsInMore
import Derived.LoopNIn
import Derived.LoopIn
namespace Go.Proofs.YtconnjkkgaapbaaGreatDoor
open Go Go.RowKit Go.ChangeShapes Go.WideShapes Go.Deep
section
variable {H : Type} {enc : TypeId × Value → H} {w : World} {spare : Nat → Bool} {held : Bool} {r : Reach} {b0 : Nat} {v : Value} {d : DataW H} {ps : List MemPlace}
set_option maxRecDepth 100000 in
theorem visit_of_open (hval : Value.okWide Tryz.prog w r b0 88 v) (h : DataW.Trod enc Tryz.prog w 0 spare held 88 v d ps) : ∃ z : Vis, v = .agg #[.int .i64 z.day, .int .i64 z.kind, .int .i64 z.tilt, .int .i64 z.push] := by
  have hu := Tryz.underlying88
  unfold Value.okWide at hval
  rw [hu] at hval
  obtain ⟨cs, rfl, hcs, _⟩ := hval
  obtain ⟨fuel, hf⟩ := h
  obtain ⟨m, xs, hlen, hxl, hi⟩ := trod_cells hu (by kernel_rfl) hf
  have h0 := hi 0 _ rfl
  have h1 := hi 1 _ rfl
  have h2 := hi 2 _ rfl
  have h3 := hi 3 _ rfl
  rw [show Tryz.prog.cellsOf 88 = 4 by kernel_rfl] at hcs
  obtain ⟨l⟩ := cs
  match l, hcs with
  | [a, b, c, e], _ =>
    match xs, hxl with
    | [y0, y1, y2, y3], _ =>
      simp [Value.cells] at h0 h1 h2 h3
      obtain ⟨s0, e0, _, _⟩ := DataW.trod_int Tryz.underlying3 h0
      obtain ⟨s1, e1, _, _⟩ := DataW.trod_int Tryz.underlying3 h1
      obtain ⟨s2, e2, _, _⟩ := DataW.trod_int Tryz.underlying3 h2
      obtain ⟨s3, e3, _, _⟩ := DataW.trod_int Tryz.underlying3 h3
      cases e0; cases e1; cases e2; cases e3
      exact ⟨⟨s0, s1, s2, s3⟩, rfl⟩
set_option maxRecDepth 100000 in
theorem tri_of_trod {fuel : Nat} {x : DataW H × List MemPlace} {a b c : Value} (hf : DataW.trod enc Tryz.prog w 0 spare held fuel 74 [a, b, c] = some x) : ∃ i j k : Int, a = .int .i64 i ∧ b = .int .i64 j ∧ c = .int .i64 k := by
  have hu := Tryz.underlying74
  obtain ⟨xs, m, _, _, hlen, hxl, hi⟩ := DataW.trod_array hu hf
  have h0 := hi 0 (by decide)
  have h1 := hi 1 (by decide)
  have h2 := hi 2 (by decide)
  rw [show Tryz.prog.cellsOf 3 = 1 by kernel_rfl] at h0 h1 h2
  match xs, hxl with
  | [y0, y1, y2], _ =>
    simp at h0 h1 h2
    obtain ⟨s0, e0, _, _⟩ := DataW.trod_int Tryz.underlying3 h0
    obtain ⟨s1, e1, _, _⟩ := DataW.trod_int Tryz.underlying3 h1
    obtain ⟨s2, e2, _, _⟩ := DataW.trod_int Tryz.underlying3 h2
    cases e0; cases e1; cases e2
    exact ⟨s0, s1, s2, rfl, rfl, rfl⟩
set_option maxRecDepth 100000 in
theorem quad_of_trod {fuel : Nat} {x : DataW H × List MemPlace} {a b c e : Value} (hf : DataW.trod enc Tryz.prog w 0 spare held fuel 75 [a, b, c, e] = some x) : ∃ i j k l : Int, a = .int .i64 i ∧ b = .int .i64 j ∧ c = .int .i64 k ∧ e = .int .i64 l := by
  have hu := Tryz.underlying75
  obtain ⟨xs, m, _, _, hlen, hxl, hi⟩ := DataW.trod_array hu hf
  have h0 := hi 0 (by decide)
  have h1 := hi 1 (by decide)
  have h2 := hi 2 (by decide)
  have h3 := hi 3 (by decide)
  rw [show Tryz.prog.cellsOf 3 = 1 by kernel_rfl] at h0 h1 h2 h3
  match xs, hxl with
  | [y0, y1, y2, y3], _ =>
    simp at h0 h1 h2 h3
    obtain ⟨s0, e0, _, _⟩ := DataW.trod_int Tryz.underlying3 h0
    obtain ⟨s1, e1, _, _⟩ := DataW.trod_int Tryz.underlying3 h1
    obtain ⟨s2, e2, _, _⟩ := DataW.trod_int Tryz.underlying3 h2
    obtain ⟨s3, e3, _, _⟩ := DataW.trod_int Tryz.underlying3 h3
    cases e0; cases e1; cases e2; cases e3
    exact ⟨s0, s1, s2, s3, rfl, rfl, rfl, rfl⟩
set_option maxRecDepth 100000 in
theorem grad_of_open (hval : Value.okWide Tryz.prog w r b0 77 v) (h : DataW.Trod enc Tryz.prog w 0 spare held 77 v d ps) : ∃ g : Grad, v = .agg #[.int .i64 g.t0, .int .i64 g.t1, .int .i64 g.t2, .int .i64 g.p0, .int .i64 g.p1, .int .i64 g.p2, .int .i64 g.m0, .int .i64 g.m1, .int .i64 g.m2, .int .i64 g.m3] := by
  have hu := Tryz.underlying77
  unfold Value.okWide at hval
  rw [hu] at hval
  obtain ⟨cs, rfl, hcs, _⟩ := hval
  obtain ⟨fuel, hf⟩ := h
  obtain ⟨xs, n, _, _, _, hxl, hi⟩ := DataW.trod_struct hu hf
  have h0 : DataW.trod enc Tryz.prog w 0 spare held n 74 (((Value.agg cs).cells.toList.drop 0).take (Tryz.prog.cellsOf 74)) = xs[0]? := hi 0 _ rfl
  have h1 : DataW.trod enc Tryz.prog w 0 spare held n 74 (((Value.agg cs).cells.toList.drop 3).take (Tryz.prog.cellsOf 74)) = xs[1]? := hi 1 _ rfl
  have h2 : DataW.trod enc Tryz.prog w 0 spare held n 75 (((Value.agg cs).cells.toList.drop 6).take (Tryz.prog.cellsOf 75)) = xs[2]? := hi 2 _ rfl
  rw [show Tryz.prog.cellsOf 77 = 10 by kernel_rfl] at hcs
  rw [show Tryz.prog.cellsOf 74 = 3 by kernel_rfl] at h0 h1
  rw [show Tryz.prog.cellsOf 75 = 4 by kernel_rfl] at h2
  obtain ⟨l⟩ := cs
  match l, hcs with
  | [a0, a1, a2, a3, a4, a5, a6, a7, a8, a9], _ =>
    match xs, hxl with
    | [y0, y1, y2], _ =>
      simp [Value.cells] at h0 h1 h2
      obtain ⟨i0, i1, i2, e0, e1, e2⟩ := tri_of_trod h0
      obtain ⟨i3, i4, i5, e3, e4, e5⟩ := tri_of_trod h1
      obtain ⟨i6, i7, i8, i9, e6, e7, e8, e9⟩ := quad_of_trod h2
      subst e0 e1 e2 e3 e4 e5 e6 e7 e8 e9
      exact ⟨⟨i0, i1, i2, i3, i4, i5, i6, i7, i8, i9⟩, rfl⟩
end
end Go.Proofs.YtconnjkkgaapbaaGreatDoor
namespace Go.Proofs.YtconnjkkgaapbaaGreatDoor
open Go Go.RowKit
structure Mon where
  name : ByteArray
  place : ByteArray
  visits : List Vis
def Vis.cells (v : Vis) : List Value := [.int .i64 v.day, .int .i64 v.kind, .int .i64 v.tilt, .int .i64 v.push]
/-- Visits in memory. -/
structure Viss (w : World) (A : Option Addr) (l : List Vis) : Prop where
  rows : RowsAt w A 4 (l.map Vis.cells)
  size : l.length ≤ 9223372036854775807
theorem Viss.below {w w' : World} {A : Option Addr} {l : List Vis} (h : Viss w A l) (hb : Below w.heap.size w w') : Viss w' A l := ⟨h.rows.below hb, h.size⟩
theorem Viss.at_ {w : World} {A : Option Addr} {l : List Vis} (h : Viss w A l) {k : Nat} {v : Vis} (hk : l[k]? = some v) :
    ∃ b o, A = some ⟨b, o, none⟩ ∧ b < w.heap.size ∧ w.cell? ⟨b, o + k * 4, none⟩ = some (.int .i64 v.day) ∧ w.cell? ⟨b, o + k * 4 + 1, none⟩ = some (.int .i64 v.kind) ∧ w.cell? ⟨b, o + k * 4 + 2, none⟩ = some (.int .i64 v.tilt) ∧ w.cell? ⟨b, o + k * 4 + 3, none⟩ = some (.int .i64 v.push) := by
  obtain ⟨b, o, hA, hlt, hc⟩ := h.rows k v.cells (by simp [hk])
  exact ⟨b, o, hA, hlt, hc 0 _ rfl, hc 1 _ rfl, hc 2 _ rfl, hc 3 _ rfl⟩
/-- The error of visits behind a day. -/
def Cal.visitsErr : Int → List Vis → Int
  | _, [] => 0
  | day, v :: l => if Cal.visErr v = 0 then (if v.day < day then 9 else Cal.visitsErr v.day l) else Cal.visErr v
def Cal.monErr (m : Mon) : Int := if nameB m.name = true ∧ nameB m.place = true then (if m.visits.length ≤ 40 then Cal.visitsErr 0 m.visits else 8) else 4
/-- What a monument hangs on in memory. -/
structure MB (w : World) (V : Option Addr) (m : Mon) : Prop where
  vis : Viss w V m.visits
  name : m.name.size ≤ maxLen
  place : m.place.size ≤ maxLen
theorem MB.below {w w' : World} {V : Option Addr} {m : Mon} (h : MB w V m) (hb : Below w.heap.size w w') : MB w' V m := ⟨h.vis.below hb, h.name, h.place⟩
theorem viSize : (Tryz.prog.info? 88).map (·.size) = some 4 := by kernel_rfl
set_option maxRecDepth 100000 in
set_option maxHeartbeats 4000000 in
theorem CheckMonument_any (V : Option Addr) (d : Nat) (m : Mon) (w : World) (hM : MB w V m) :
    Calls Tryz.prog 45 #[.agg #[.string m.name, .string m.place, .slice V m.visits.length d]] w fun e w' => e = .returned (.int .i64 (Cal.monErr m)) ∧ Below w.heap.size w w' := by
  have hsz := hM.vis.size
  have hM := Lib.hid hM
  obtain ⟨b1, q1⟩ : ∃ b, nameB m.name = b := ⟨_, rfl⟩
  obtain ⟨b2, q2⟩ : ∃ b, nameB m.place = b := ⟨_, rfl⟩
  cases b1
  · have hfin : Hid (Cal.monErr m = 4) := by show _ = _; unfold Cal.monErr; rw [if_neg (fun h => by rw [q1] at h; exact absurd h.1 (by decide))]
    have q1 := Lib.hid q1
    have q2 := Lib.hid q2
    have h1 := Lib.hid (BoxAt.new w #[.string m.name, .string m.place, .slice V m.visits.length d] 80)
    have hb := Lib.hid (below_alloc w (.cells #[.string m.name, .string m.place, .slice V m.visits.length d] 80))
    have c0 := h1.out.c 0 _ rfl
    have c1 := h1.out.c 1 _ rfl
    have c2 := h1.out.c 2 _ rfl
    go_enter Tryz.func45, Tryz.ntmps45
    go_wp2_with (first | (go_at_call_of 59 (Value.string m.name); refine (nisName_any m.name _ hM.out.name).mono ?_; rintro e w' ⟨rfl, rfl⟩; rw [q1.out]) | (go_at_call_of 59 (Value.string m.place); refine (nisName_any m.place _ hM.out.place).mono ?_; rintro e w' ⟨rfl, rfl⟩; rw [q2.out]))
    go_ret
    exact ⟨ret_int hfin.out.symm, hb.out⟩
  cases b2
  · have hfin : Hid (Cal.monErr m = 4) := by show _ = _; unfold Cal.monErr; rw [if_neg (fun h => by rw [q2] at h; exact absurd h.2 (by decide))]
    have q1 := Lib.hid q1
    have q2 := Lib.hid q2
    have h1 := Lib.hid (BoxAt.new w #[.string m.name, .string m.place, .slice V m.visits.length d] 80)
    have hb := Lib.hid (below_alloc w (.cells #[.string m.name, .string m.place, .slice V m.visits.length d] 80))
    have c0 := h1.out.c 0 _ rfl
    have c1 := h1.out.c 1 _ rfl
    have c2 := h1.out.c 2 _ rfl
    go_enter Tryz.func45, Tryz.ntmps45
    go_wp2_with (first | (go_at_call_of 59 (Value.string m.name); refine (nisName_any m.name _ hM.out.name).mono ?_; rintro e w' ⟨rfl, rfl⟩; rw [q1.out]) | (go_at_call_of 59 (Value.string m.place); refine (nisName_any m.place _ hM.out.place).mono ?_; rintro e w' ⟨rfl, rfl⟩; rw [q2.out]))
    go_ret
    exact ⟨ret_int hfin.out.symm, hb.out⟩
  by_cases hlen : m.visits.length ≤ 40
  · have hfin : Hid (Cal.monErr m = Cal.visitsErr 0 m.visits) := by show _ = _; unfold Cal.monErr; rw [if_pos ⟨q1, q2⟩, if_pos hlen]
    have q1 := Lib.hid q1
    have q2 := Lib.hid q2
    have h1 := Lib.hid (BoxAt.new w #[.string m.name, .string m.place, .slice V m.visits.length d] 80)
    have hb := Lib.hid (below_alloc w (.cells #[.string m.name, .string m.place, .slice V m.visits.length d] 80))
    have c0 := h1.out.c 0 _ rfl
    have c1 := h1.out.c 1 _ rfl
    have c2 := h1.out.c 2 _ rfl
    go_enter Tryz.func45, Tryz.ntmps45
    go_wp2_with (first | (go_at_call_of 59 (Value.string m.name); refine (nisName_any m.name _ hM.out.name).mono ?_; rintro e w' ⟨rfl, rfl⟩; rw [q1.out]) | (go_at_call_of 59 (Value.string m.place); refine (nisName_any m.place _ hM.out.place).mono ?_; rintro e w' ⟨rfl, rfl⟩; rw [q2.out]))
    clear c0 c1 c2
    go_loopw [3, 26] (fun t i wr => ∃ (k : Nat) (day : Int), k ≤ m.visits.length ∧ t = .int .i64 day ∧ i = .int .i64 k ∧ Hid (Cal.visitsErr 0 m.visits = Cal.visitsErr day (m.visits.drop k)) ∧ Hid (Below w.heap.size w wr)) (fun _ i _ => m.visits.length - (intOf i).toNat)
    case atStart => exact ⟨0, 0, Nat.zero_le _, rfl, rfl, rfl, hb⟩
    case round =>
      clear hb h1
      obtain ⟨k, day, hk, rfl, rfl, hE, hb⟩ := hrel
      by_cases hlt : k < m.visits.length
      · have hk' : m.visits[k]? = some m.visits[k] := List.getElem?_eq_getElem hlt
        have hd := List.drop_eq_getElem_cons hlt
        obtain ⟨b, o, rfl, hbl, e0, e1, e2, e3⟩ := (hM.out.vis.below hb.out).at_ hk'
        have hE0 := hE.out
        rw [hd] at hE0
        clear hk' hd hE
        generalize m.visits[k] = v at *
        have hN5 := Lib.hid (BoxAt.new wr #[.int .i64 0, .int .i64 0, .int .i64 0, .int .i64 0] 88)
        have hEq : Cal.visitsErr day (v :: m.visits.drop (k + 1)) = if Cal.visErr v = 0 then (if v.day < day then 9 else Cal.visitsErr v.day (m.visits.drop (k + 1))) else Cal.visErr v := rfl
        rw [hEq] at hE0
        clear hEq
        by_cases hv : Cal.visErr v = 0
        · have hvz := Lib.hid hv
          rw [if_pos hv] at hE0
          by_cases hday : v.day < day
          · have hf2 : Hid (Cal.monErr m = 9) := by show _ = _; rw [hfin.out, hE0, if_pos hday]
            have hdb : decide (v.day < day) = true := by simpa using hday
            clear hE0 hv hday
            go_wp2_with ((refine wpList_store_box rfl 88 (.tmp 5) (.tmp 29) rfl (wr.heap.size) _ [.int .i64 v.day, .int .i64 v.kind, .int .i64 v.tilt, .int .i64 v.push] (by rfl) (by rfl) hN5.out rfl viSize (by kernel_rfl) ?_; intro w3 h3 hg3); have hbn := below_of_grownB (below_alloc wr _) hg3 (Nat.le_refl _); have hb := Lib.hid (below_step hb.out hbn); have h3 := Lib.hid h3; clear hbn hg3 e0 e1 e2 e3; have f0 := h3.out.c 0 _ rfl; have f1 := h3.out.c 1 _ rfl; have f2 := h3.out.c 2 _ rfl; have f3 := h3.out.c 3 _ rfl)
            refine (checkVisit_any v _).mono ?_
            rintro e w4 ⟨rfl, hbn⟩
            rw [hvz.out]
            have g3 := Lib.hid (h3.out.below hbn)
            have hb := Lib.hid (below_step hb.out hbn)
            clear hbn f0 f1 f2 f3
            have f0 := g3.out.c 0 _ rfl
            go_wp2_with fail
            go_ret
            exact ⟨ret_int hf2.out.symm, hb.out⟩
          · rw [if_neg hday] at hE0
            have hE1 := Lib.hid hE0
            have hdb : decide (v.day < day) = false := by simpa using hday
            clear hE0 hv hday
            go_wp2_with ((refine wpList_store_box rfl 88 (.tmp 5) (.tmp 29) rfl (wr.heap.size) _ [.int .i64 v.day, .int .i64 v.kind, .int .i64 v.tilt, .int .i64 v.push] (by rfl) (by rfl) hN5.out rfl viSize (by kernel_rfl) ?_; intro w3 h3 hg3); have hbn := below_of_grownB (below_alloc wr _) hg3 (Nat.le_refl _); have hb := Lib.hid (below_step hb.out hbn); have h3 := Lib.hid h3; clear hbn hg3 e0 e1 e2 e3; have f0 := h3.out.c 0 _ rfl; have f1 := h3.out.c 1 _ rfl; have f2 := h3.out.c 2 _ rfl; have f3 := h3.out.c 3 _ rfl)
            refine (checkVisit_any v _).mono ?_
            rintro e w4 ⟨rfl, hbn⟩
            rw [hvz.out]
            have g3 := Lib.hid (h3.out.below hbn)
            have hb := Lib.hid (below_step hb.out hbn)
            clear hbn f0 f1 f2 f3
            have f0 := g3.out.c 0 _ rfl
            go_wp2_with fail
            go_roundw
            case rel => exact ⟨k + 1, v.day, by omega, rfl, by go_num, hE1, hb⟩
            case measure => simp [intOf]; omega
        · rw [if_neg hv] at hE0
          obtain ⟨F, hF⟩ : ∃ F, Cal.visErr v = F := ⟨_, rfl⟩
          have hf2 : Hid (Cal.monErr m = F) := by show _ = _; rw [hfin.out, hE0, hF]
          have hFb : (F != 0) = true := by rw [← hF]; simpa using hv
          have hFz := Lib.hid hF
          clear hE0 hv hF
          go_wp2_with ((refine wpList_store_box rfl 88 (.tmp 5) (.tmp 29) rfl (wr.heap.size) _ [.int .i64 v.day, .int .i64 v.kind, .int .i64 v.tilt, .int .i64 v.push] (by rfl) (by rfl) hN5.out rfl viSize (by kernel_rfl) ?_; intro w3 h3 hg3); have hbn := below_of_grownB (below_alloc wr _) hg3 (Nat.le_refl _); have hb := Lib.hid (below_step hb.out hbn); have h3 := Lib.hid h3; clear hbn hg3 e0 e1 e2 e3; have f0 := h3.out.c 0 _ rfl; have f1 := h3.out.c 1 _ rfl; have f2 := h3.out.c 2 _ rfl; have f3 := h3.out.c 3 _ rfl)
          refine (checkVisit_any v _).mono ?_
          rintro e w4 ⟨rfl, hbn⟩
          rw [hFz.out]
          have hb := Lib.hid (below_step hb.out hbn)
          clear hbn f0 f1 f2 f3
          go_wp2_with fail
          go_ret
          exact ⟨ret_int hf2.out.symm, hb.out⟩
      · have hge : m.visits.length = k := by omega
        have hf2 : Hid (Cal.monErr m = 0) := by show _ = _; rw [hfin.out, hE.out, List.drop_eq_nil_of_le (by omega)]; rfl
        clear hE
        go_wp2_with fail
        go_ret
        exact ⟨ret_int hf2.out.symm, hb.out⟩
  · have hfin : Hid (Cal.monErr m = 8) := by show _ = _; unfold Cal.monErr; rw [if_pos ⟨q1, q2⟩, if_neg hlen]
    have q1 := Lib.hid q1
    have q2 := Lib.hid q2
    have hlen' : 40 < m.visits.length := by omega
    clear hlen
    have h1 := Lib.hid (BoxAt.new w #[.string m.name, .string m.place, .slice V m.visits.length d] 80)
    have hb := Lib.hid (below_alloc w (.cells #[.string m.name, .string m.place, .slice V m.visits.length d] 80))
    have c0 := h1.out.c 0 _ rfl
    have c1 := h1.out.c 1 _ rfl
    have c2 := h1.out.c 2 _ rfl
    go_enter Tryz.func45, Tryz.ntmps45
    go_wp2_with (first | (go_at_call_of 59 (Value.string m.name); refine (nisName_any m.name _ hM.out.name).mono ?_; rintro e w' ⟨rfl, rfl⟩; rw [q1.out]) | (go_at_call_of 59 (Value.string m.place); refine (nisName_any m.place _ hM.out.place).mono ?_; rintro e w' ⟨rfl, rfl⟩; rw [q2.out]))
    go_ret
    exact ⟨ret_int hfin.out.symm, hb.out⟩
end Go.Proofs.YtconnjkkgaapbaaGreatDoor
namespace Go.Proofs.YtconnjkkgaapbaaGreatDoor
open Go Go.RowKit Go.ChangeShapes Go.WideShapes Go.Deep
section
variable {H : Type} {enc : TypeId × Value → H} {w : World} {spare : Nat → Bool} {held : Bool} {r : Reach} {b0 : Nat} {v : Value} {d : DataW H} {ps : List MemPlace}
set_option maxRecDepth 100000 in
theorem visits_of_trod {fuel : Nat} {x : DataW H × List MemPlace} (hf : DataW.trod enc Tryz.prog w 0 spare held fuel 78 [v] = some x) : ∃ (A : Option Addr) (l : List Vis) (c : Nat), v = .slice A l.length c ∧ Viss w A l := by
  obtain ⟨A, len, cap, hcs, hlen, hq⟩ := rows_of_open Tryz.underlying78 Tryz.underlying88 (by kernel_rfl) (by kernel_rfl) (by decide) hf
  have he : v = .slice A len cap := by simpa using hcs
  subst he
  have h1 : ∀ i, i < len → ∃ p : Vis, ∃ b o, A = some ⟨b, o, none⟩ ∧ b < w.heap.size ∧ ∀ j v, p.cells[j]? = some v → w.cell? ⟨b, o + (i * 4 + j), none⟩ = some v := fun i hi => by
    obtain ⟨b, o, n, hA, hb, hf⟩ := hq i hi
    obtain ⟨v0, y0, c0, t0⟩ := hf 0 _ rfl
    obtain ⟨v1, y1, c1, t1⟩ := hf 1 _ rfl
    obtain ⟨v2, y2, c2, t2⟩ := hf 2 _ rfl
    obtain ⟨v3, y3, c3, t3⟩ := hf 3 _ rfl
    obtain ⟨s0, e0, _, _⟩ := DataW.trod_int Tryz.underlying3 t0
    obtain ⟨s1, e1, _, _⟩ := DataW.trod_int Tryz.underlying3 t1
    obtain ⟨s2, e2, _, _⟩ := DataW.trod_int Tryz.underlying3 t2
    obtain ⟨s3, e3, _, _⟩ := DataW.trod_int Tryz.underlying3 t3
    cases e0; cases e1; cases e2; cases e3
    refine ⟨⟨s0, s1, s2, s3⟩, b, o, hA, hb, fun j v hv => ?_⟩
    match j, hv with
    | 0, hv => cases hv; exact c0
    | 1, hv => cases hv; exact c1
    | 2, hv => cases hv; exact c2
    | 3, hv => cases hv; exact c3
    | j + 4, hv => simp [Vis.cells] at hv
  obtain ⟨l, hl, hq'⟩ := list_of len h1
  subst hl
  refine ⟨A, l, cap, rfl, ⟨fun k r hr => ?_, by unfold maxLen at hlen; omega⟩⟩
  rw [List.getElem?_map] at hr
  cases hk : l[k]? with
  | none => rw [hk] at hr; cases hr
  | some p => rw [hk] at hr; cases hr; exact hq' k p hk
set_option maxRecDepth 100000 in
theorem mon_of_open (hval : Value.okWide Tryz.prog w r b0 80 v) (h : DataW.Trod enc Tryz.prog w 0 spare held 80 v d ps) :
    ∃ (V : Option Addr) (d : Nat) (m : Mon), v = .agg #[.string m.name, .string m.place, .slice V m.visits.length d] ∧ MB w V m := by
  have hu := Tryz.underlying80
  unfold Value.okWide at hval
  rw [hu] at hval
  obtain ⟨cs, rfl, hcs, _⟩ := hval
  obtain ⟨fuel, hf⟩ := h
  obtain ⟨m, xs, hlen, hxl, hi⟩ := trod_cells hu (by kernel_rfl) hf
  have h0 := hi 0 _ rfl
  have h1 := hi 1 _ rfl
  have h2 := hi 2 _ rfl
  rw [show Tryz.prog.cellsOf 80 = 3 by kernel_rfl] at hcs
  obtain ⟨l⟩ := cs
  match l, hcs with
  | [a, b, c], _ =>
    match xs, hxl with
    | [y0, y1, y2], _ =>
      simp [Value.cells] at h0 h1 h2
      obtain ⟨s0, e0, _, g0⟩ := DataW.trod_string Tryz.underlying9 h0
      obtain ⟨s1, e1, _, g1⟩ := DataW.trod_string Tryz.underlying9 h1
      obtain ⟨V, l, k, e2, ha⟩ := visits_of_trod h2
      cases e0; cases e1
      subst e2
      exact ⟨V, k, ⟨s0, s1, l⟩, rfl, ⟨ha, g0, g1⟩⟩
end
end Go.Proofs.YtconnjkkgaapbaaGreatDoor
namespace Go.Proofs.YtconnjkkgaapbaaGreatDoor
open Go Go.RowKit
/-- The last visit up to a day. -/
def Cal.lastV (day : Int) : List Vis → Option Vis
  | [] => none
  | v :: l => match Cal.lastV day l with | some u => some u | none => if v.day ≤ day then some v else none
theorem Cal.lastV_cons (day : Int) (v : Vis) (l : List Vis) : Cal.lastV day (v :: l) = match Cal.lastV day l with | some u => some u | none => if v.day ≤ day then some v else none := rfl
theorem Cal.lastV_app (day : Int) (b : List Vis) : ∀ a : List Vis, Cal.lastV day (a ++ b) = match Cal.lastV day b with | some u => some u | none => Cal.lastV day a
  | [] => by cases h : Cal.lastV day b <;> simp [h, Cal.lastV]
  | v :: a => by
    rw [List.cons_append, Cal.lastV_cons, Cal.lastV_app day b a]
    cases h : Cal.lastV day b with
    | none => rfl
    | some u => rfl
theorem Cal.lastV_snoc (day : Int) (a : List Vis) (v : Vis) : Cal.lastV day (a ++ [v]) = if v.day ≤ day then some v else Cal.lastV day a := by
  rw [Cal.lastV_app]
  by_cases h : v.day ≤ day
  · rw [if_pos h]; simp [Cal.lastV, h]
  · rw [if_neg h]; simp [Cal.lastV, h]
def zeroVis : Vis := ⟨0, 0, 0, 0⟩
def lastOr (o : Option Vis) : Vis := o.getD zeroVis
structure LasI (w : World) (V : Option Addr) (d : Nat) (m : Mon) (u : Vis) (wr : World) : Prop where
  hb : Below w.heap.size w wr
  g1 : BoxAt wr w.heap.size [.string m.name, .string m.place, .slice V m.visits.length d]
  g4 : BoxAt wr (w.heap.size + 1) [.int .i64 0, .int .i64 0, .int .i64 0, .int .i64 0]
  g6 : BoxAt wr (w.heap.size + 1 + 1) [.int .i64 u.day, .int .i64 u.kind, .int .i64 u.tilt, .int .i64 u.push]
theorem start3l (w : World) (V : Option Addr) (d : Nat) (m : Mon) : LasI w V d m zeroVis (((w.alloc (.cells #[.string m.name, .string m.place, .slice V m.visits.length d] 80)).alloc (.cells #[.int .i64 0, .int .i64 0, .int .i64 0, .int .i64 0] 88)).alloc (.cells #[.int .i64 0, .int .i64 0, .int .i64 0, .int .i64 0] 88)) := by
  have h2 := (BoxAt.new (w.alloc (.cells #[.string m.name, .string m.place, .slice V m.visits.length d] 80)) #[.int .i64 0, .int .i64 0, .int .i64 0, .int .i64 0] 88).alloc (.cells #[.int .i64 0, .int .i64 0, .int .i64 0, .int .i64 0] 88)
  rw [World.size_alloc] at h2
  have h3 := BoxAt.new ((w.alloc (.cells #[.string m.name, .string m.place, .slice V m.visits.length d] 80)).alloc (.cells #[.int .i64 0, .int .i64 0, .int .i64 0, .int .i64 0] 88)) #[.int .i64 0, .int .i64 0, .int .i64 0, .int .i64 0] 88
  rw [World.size_alloc, World.size_alloc] at h3
  exact ⟨below_step (below_step (below_alloc _ _) (below_alloc _ _)) (below_alloc _ _), ((BoxAt.new w _ _).alloc _).alloc _, h2, h3⟩
def LastPost (w : World) (o : Option Vis) (e : Ending) (w' : World) : Prop := ∃ u, e = .returned (.tuple #[.agg #[.int .i64 u.day, .int .i64 u.kind, .int .i64 u.tilt, .int .i64 u.push], .bool o.isSome]) ∧ u = lastOr o ∧ Below w.heap.size w w'
set_option maxRecDepth 100000 in
set_option maxHeartbeats 4000000 in
theorem LastR_any (V : Option Addr) (d : Nat) (m : Mon) (day : Int) (w : World) (hM : MB w V m) :
    Calls Tryz.prog 49 #[.agg #[.string m.name, .string m.place, .slice V m.visits.length d], .int .i64 day] w (LastPost w (Cal.lastV day m.visits)) := by
  have hsz := hM.vis.size
  have hM := Lib.hid hM
  have hI := Lib.hid (start3l w V d m)
  go_enter Tryz.func49, Tryz.ntmps49
  go_wp2_with fail
  go_loopw [7, 8] (fun f i wr => ∃ (k : Nat) (o : Option Vis) (u : Vis) (q : Bool), k ≤ m.visits.length ∧ i = .int .i64 k ∧ f = .bool q ∧ Hid (q = o.isSome) ∧ Hid (u = lastOr o) ∧ Hid (Cal.lastV day (m.visits.take k) = o) ∧ Hid (LasI w V d m u wr)) (fun _ i _ => m.visits.length - (intOf i).toNat)
  case atStart => exact ⟨0, none, zeroVis, false, Nat.zero_le _, rfl, rfl, rfl, rfl, rfl, hI⟩
  case round =>
    clear hI
    obtain ⟨k, o, u, q, hk, rfl, rfl, hq, hu, ho, hI⟩ := hrel
    have c2 := hI.out.g1.c 2 _ rfl
    by_cases hlt : k < m.visits.length
    · have hk' : m.visits[k]? = some m.visits[k] := List.getElem?_eq_getElem hlt
      have ht := List.take_succ_eq_append_getElem hlt
      obtain ⟨b, a0, rfl, hbl, e0, e1, e2, e3⟩ := (hM.out.vis.below hI.out.hb).at_ hk'
      clear hk'
      have hne : b ≠ w.heap.size + 1 + 1 := by
        intro e
        obtain ⟨b', o', hA, hb', _⟩ := (hM.out.vis).at_ (List.getElem?_eq_getElem hlt)
        simp only [Option.some.injEq, Addr.mk.injEq, and_true] at hA
        obtain ⟨rfl, _⟩ := hA
        omega
      generalize m.visits[k] = v at *
      have hsn := Cal.lastV_snoc day (m.visits.take k) v
      rw [← ht] at hsn
      by_cases hd : v.day ≤ day
      · have hdb : decide (v.day ≤ day) = true := by simpa using hd
        rw [if_pos hd] at hsn
        have hsn := Lib.hid hsn
        clear hd ht
        go_wp2_with ((refine wpList_store_box rfl 88 (.tmp 6) (.tmp 28) rfl (w.heap.size + 1 + 1) _ [.int .i64 v.day, .int .i64 v.kind, .int .i64 v.tilt, .int .i64 v.push] (by rfl) (by rfl) hI.out.g6 rfl viSize (by kernel_rfl) ?_; intro w3 h3 hg3); have hI3 : Hid (LasI w _ d m v w3) := ⟨below_of_grownB hI.out.hb hg3 (by omega), hI.out.g1.grown hg3 (by first | (simp; done) | (simp; omega)), hI.out.g4.grown hg3 (by first | (simp; done) | (simp; omega)), h3⟩)
        go_roundw
        case rel => exact ⟨k + 1, some v, v, true, by omega, by go_num, rfl, rfl, rfl, hsn, hI3⟩
        case measure => simp [intOf]; omega
      · have hdb : decide (v.day ≤ day) = false := by simpa using hd
        rw [if_neg hd, ho.out] at hsn
        have hsn := Lib.hid hsn
        clear hd ht
        go_wp2_with fail
        go_roundw
        case rel => exact ⟨k + 1, o, u, q, by omega, by go_num, rfl, hq, hu, hsn, hI⟩
        case measure => simp [intOf]; omega
    · have hge : m.visits.length = k := by omega
      have hfin : Hid (Cal.lastV day m.visits = o) := by show _ = _; rw [← ho.out, List.take_of_length_le (by omega)]
      have x0 := hI.out.g6.c 0 _ rfl
      have x1 := hI.out.g6.c 1 _ rfl
      have x2 := hI.out.g6.c 2 _ rfl
      have x3 := hI.out.g6.c 3 _ rfl
      go_wp2_with ((refine wpList_store_box rfl 88 (.tmp 4) (.tmp 29) rfl (w.heap.size + 1) _ [.int .i64 u.day, .int .i64 u.kind, .int .i64 u.tilt, .int .i64 u.push] (by rfl) (by rfl) hI.out.g4 rfl viSize (by kernel_rfl) ?_; intro w3 h3 hg3); have hb3 := Lib.hid (below_of_grownB hI.out.hb hg3 (by omega)))
      (try simp only [Exit.inBlock, Exit.then])
      rw [hfin.out]
      refine bodyPost_ret (results_mid2 rfl _ _ (w.heap.size + 1) [.int .i64 u.day, .int .i64 u.kind, .int .i64 u.tilt, .int .i64 u.push] _ rfl h3.range Tryz.underlying88 rfl viSize) rfl ⟨u, by rw [← hq.out]; rfl, hu.out, hb3.out⟩
end Go.Proofs.YtconnjkkgaapbaaGreatDoor
namespace Go.Proofs.YtconnjkkgaapbaaGreatDoor
open Go Go.RowKit Go.Shelf
attribute [local go_sem] Oper.semAt_some
/-- What has come of the visits, from the last one on, when k rounds are over. -/
def revAt (vs : List Vis) (k : Nat) : Nat × Vis := (vs.length - 1 - k, vs[vs.length - 1 - k]?.getD zeroVis)
def revTo (vs : List Vis) (k : Nat) : List (Nat × Vis) := (List.range k).map (revAt vs)
theorem revTo_succ (vs : List Vis) (k : Nat) : revTo vs (k + 1) = revTo vs k ++ [revAt vs k] := by simp [revTo, List.range_succ]
theorem revTo_length (vs : List Vis) (k : Nat) : (revTo vs k).length = k := by simp [revTo]
theorem revTo_step {vs : List Vis} {q : Nat} {v : Vis} (hq : q < vs.length) (hv : vs[q]? = some v) : revTo vs (vs.length - q) = revTo vs (vs.length - (q + 1)) ++ [(q, v)] := by
  have h1 : vs.length - q = vs.length - (q + 1) + 1 := by omega
  have h2 : vs.length - 1 - (vs.length - (q + 1)) = q := by omega
  rw [h1, revTo_succ]
  unfold revAt
  rw [h2, hv]
  rfl
theorem lastV_tail {vs : List Vis} {day : Int} : ∀ k, k ≤ vs.length → (∀ x ∈ revTo vs k, ¬ x.2.day ≤ day) → Cal.lastV day (vs.drop (vs.length - k)) = none
  | 0, _, _ => by rw [Nat.sub_zero, List.drop_eq_nil_of_le (Nat.le_refl _)]; rfl
  | k + 1, hk, h => by
    rw [revTo_succ] at h
    have ih := lastV_tail k (by omega) (fun x hx => h x (List.mem_append_left _ hx))
    have hx := h (revAt vs k) (by simp)
    have hlt : vs.length - (k + 1) < vs.length := by omega
    rw [List.drop_eq_getElem_cons hlt, Cal.lastV_cons, show vs.length - (k + 1) + 1 = vs.length - k by omega, ih]
    have he : (revAt vs k).2 = vs[vs.length - (k + 1)] := by
      unfold revAt
      rw [show vs.length - 1 - k = vs.length - (k + 1) by omega, List.getElem?_eq_getElem hlt]
      rfl
    rw [he] at hx
    simp only
    rw [if_neg hx]
theorem lastV_hit {vs : List Vis} {day : Int} {k : Nat} (hk : k < vs.length) (h : ∀ x ∈ revTo vs k, ¬ x.2.day ≤ day) (hx : (revAt vs k).2.day ≤ day) : Cal.lastV day vs = some (revAt vs k).2 := by
  have ht := lastV_tail k (by omega) h
  have hlt : vs.length - (k + 1) < vs.length := by omega
  have he : (revAt vs k).2 = vs[vs.length - (k + 1)] := by
    unfold revAt
    rw [show vs.length - 1 - k = vs.length - (k + 1) by omega, List.getElem?_eq_getElem hlt]
    rfl
  rw [he] at hx ⊢
  have hsplit : vs = vs.take (vs.length - (k + 1)) ++ vs[vs.length - (k + 1)] :: vs.drop (vs.length - k) := by
    have := List.take_append_drop (vs.length - (k + 1)) vs
    rw [List.drop_eq_getElem_cons hlt, show vs.length - (k + 1) + 1 = vs.length - k by omega] at this
    exact this.symm
  generalize vs[vs.length - (k + 1)] = v at *
  rw [hsplit, Cal.lastV_app, Cal.lastV_cons, ht]
  simp only
  rw [if_pos hx]
theorem BoxAt.kept {W W' : World} {row : Option Nat} {B : Nat} {cs : List Value} (h : BoxAt W B cs) (hg : W.grownBy W' row) (hr : Others W row) : BoxAt W' B cs :=
  ⟨fun j v hv => cell_kept (h.range j v hv) hg hr, fun j hj => by
    obtain ⟨v, hv⟩ : ∃ v, cs[j]? = some v := ⟨_, List.getElem?_eq_getElem hj⟩
    have := h.range j v hv
    rw [Nat.zero_add] at this
    exact (frozen_kept this hg hr).trans (h.free j hj), Nat.lt_of_lt_of_le h.lt hg.size⟩
def BackPost (vs : List Vis) (J Jx : List (Nat × Vis) → World → Prop) (e : Ending) (W' : World) : Prop :=
  (∃ v, e = .returned v) ∧ ((∃ ys, ys = revTo vs vs.length ∧ J ys W') ∨ (∃ pre, (∃ k, k ≤ vs.length ∧ pre = revTo vs k) ∧ Jx pre W'))
set_option maxRecDepth 100000 in
set_option maxHeartbeats 4000000 in
theorem back1_in (n : Nat) (hn : 1 ≤ n) (l Bs n₀ : Nat) (V : Option Addr) (d : Nat) (vs : List Vis) (J Jx : List (Nat × Vis) → World → Prop)
    (hY : ∀ pre x W, J pre W → pre.length < vs.length → YieldAt Fence.wide (n - 1) Tryz.prog l #[.int .i64 (x.1 : Int), .agg #[.int .i64 x.2.day, .int .i64 x.2.kind, .int .i64 x.2.tilt, .int .i64 x.2.push]] W fun e W' =>
      (e = .returned (.bool true) ∧ J (pre ++ [x]) W' ∧ Below n₀ W W') ∨ (e = .returned (.bool false) ∧ Jx (pre ++ [x]) W'))
    (W : World) (hBs : W.cell? ⟨Bs, 0, none⟩ = some (.slice V vs.length d)) (hBn : Bs < n₀) (hV : Viss W V vs) (hVn : ∀ ad, V = some ad → 0 < vs.length → ad.block < n₀) (h0 : J [] W) :
    CallsIn Fence.wide n Tryz.prog 144 #[.func (.yield l) #[] #[], .pointer (some ⟨Bs, 0, none⟩)] W (BackPost vs J Jx) := by
  have hsz := hV.size
  refine callsIn_of_wp Tryz.func144 rfl trivial ?_ rfl
  simp only [Tryz.ntmps144, List.size_toArray, List.length_cons, List.length_nil, Nat.reduceAdd, Nat.reduceSub, Array.replicate_succ, Array.replicate_zero, List.push_toArray, List.append_toArray, List.nil_append, List.cons_append]
  have hV := Lib.hid hV
  have hYz := Lib.hid hY
  have hVn := Lib.hid hVn
  clear hY
  gi_wp2
  gi_loopw [3] (fun i wr => ∃ (j : Nat) (z : Int), j ≤ vs.length ∧ z = (j : Int) - 1 ∧ i = .int .i64 z ∧ J (revTo vs (vs.length - j)) wr ∧ Below n₀ W wr) (fun i _ => (intOf i + 1).toNat)
  case atStart => exact ⟨vs.length, _, Nat.le_refl _, rfl, rfl, by rw [Nat.sub_self]; exact h0, Below.refl _ _⟩
  case round =>
    obtain ⟨j, z, hj, hz, rfl, hJ, hb⟩ := hrel
    have hBs' := (hb.cell (p := ⟨Bs, 0, none⟩) hBn).trans hBs
    cases j with
    | zero =>
      obtain rfl : z = -1 := by omega
      have hJz := Lib.hid hJ
      clear hJ hz
      gi_wp2
      refine bodyPost_end (results_none rfl _ _ _) rfl ?_
      exact ⟨⟨_, rfl⟩, .inl ⟨_, rfl, hJz.out⟩⟩
    | succ q =>
      obtain rfl : z = (q : Int) := by omega
      have hlt : q < vs.length := by omega
      have hk' : vs[q]? = some vs[q] := List.getElem?_eq_getElem hlt
      have hst := Lib.hid (revTo_step hlt hk')
      obtain ⟨b, o, rfl, hbl, e0, e1, e2, e3⟩ := hV.out.at_ hk'
      have hbn : b < n₀ := hVn.out _ rfl (by omega)
      have e0 := (hb.cell (p := ⟨b, _, none⟩) hbn).trans e0
      have e1 := (hb.cell (p := ⟨b, _, none⟩) hbn).trans e1
      have e2 := (hb.cell (p := ⟨b, _, none⟩) hbn).trans e2
      have e3 := (hb.cell (p := ⟨b, _, none⟩) hbn).trans e3
      clear hk' hz hBs
      generalize vs[q] = v at *
      obtain ⟨fn, tmps, assign, body, hy, hR⟩ := hYz.out _ (q, v) wr hJ (by rw [revTo_length]; omega)
      dsimp only at hy
      have hbz := Lib.hid hb
      clear hb hJ
      gi_wp2
      refine hR.mono ?_
      clear hy hR
      rintro e w2 (⟨rfl, hJ2, hk2⟩ | ⟨rfl, hJx⟩)
      · have hall := Lib.hid (And.intro hJ2 hk2)
        clear hJ2 hk2
        gi_wp2
        go_roundw
        case rel => exact ⟨q, (q : Int) - 1, by omega, rfl, rfl, by rw [hst.out]; exact hall.out.1, hbz.out.trans hall.out.2⟩
        case measure => simp [intOf]
      · have hJx := Lib.hid hJx
        gi_wp2
        refine bodyPost_ret (results_none rfl _ _ _) rfl ?_
        exact ⟨⟨_, rfl⟩, .inr ⟨_, ⟨vs.length - q, by omega, hst.out.symm⟩, hJx.out⟩⟩
theorem backward_any (V : Option Addr) (k d : Nat) (w : World) :
    Calls Tryz.prog 128 #[.slice V k d] w fun e w' => e = .returned (.func (.func 144) #[] #[.pointer (some ⟨w.heap.size, 0, none⟩)]) ∧ w' = w.alloc (.cells #[.slice V k d] 78) := by
  go_enter Tryz.func128, Tryz.ntmps128
  go_wp2
  go_ret
  exact ⟨rfl, rfl⟩
end Go.Proofs.YtconnjkkgaapbaaGreatDoor
namespace Go.Proofs.YtconnjkkgaapbaaGreatDoor
open Go Go.RowKit Go.Shelf
attribute [local go_sem] Oper.semAt_some
theorem back_stops (n : Nat) (hn : 1 ≤ n) (Bs n₀ : Nat) (V : Option Addr) (d : Nat) (vs : List Vis) (w : World) (hBs : w.cell? ⟨Bs, 0, none⟩ = some (.slice V vs.length d)) (hBn : Bs < n₀) (hn₀ : n₀ ≤ w.heap.size) (hV : Viss w V vs) (hVn : ∀ ad, V = some ad → 0 < vs.length → ad.block < n₀) :
    SeqStopsK Fence.wide n Tryz.prog 144 #[.pointer (some ⟨Bs, 0, none⟩)] (fun x : Nat × Vis => #[.int .i64 (x.1 : Int), .agg #[.int .i64 x.2.day, .int .i64 x.2.kind, .int .i64 x.2.tilt, .int .i64 x.2.push]]) (Below n₀) (fun ys => ys = revTo vs vs.length) (fun pre => ∃ k, k ≤ vs.length ∧ pre = revTo vs k) vs.length w :=
  fun l J Jx W hW _ _ hY h0 => back1_in n hn l Bs n₀ V d vs J Jx hY W ((hW.cell (p := ⟨Bs, 0, none⟩) (Nat.lt_of_lt_of_le hBn hn₀)).trans hBs) hBn (hV.below hW) hVn h0
/-- Results: a wide cell, then a cell. -/
theorem results_midc {P : Program} {fn : Func} {t u : Tmp} {ty ty2 : TypeId} (h : fn.results = #[.cell t ty, .cell u ty2]) (tmps : Array Value) (w : World) (g : Nat) (cs : List Value) (d : TypeDesc)
    (hp : tmps.getD t undef = .pointer (some ⟨g, 0, none⟩)) (hc : w.rangeAt g 0 cs) (hu : P.underlying ty = some d) (hd : d.isRow = true) (hi : (P.info? ty).map (·.size) = some cs.length)
    (b : Addr) (v : Value) (hq : tmps.getD u undef = .pointer (some b)) (hv : (loadVar ty2 b).run P w = .ok v w) :
    (results fn tmps).run P w = .ok (.tuple #[.agg cs.toArray, v]) w := by
  have hp' : tmps[t]?.getD undef = .pointer (some ⟨g, 0, none⟩) := by simpa using hp
  have hq' : tmps[u]?.getD undef = .pointer (some b) := by simpa using hq
  simp [results, h, hp', hq', asAddr, run_loadVar_mid w g 0 ty cs d hc hu hd hi, hv]
def LvI (W0 : World) (day : Int) (pre : List (Nat × Vis)) (W : World) : Prop := (∀ x ∈ pre, day < x.2.day) ∧ Below W0.heap.size W0 W
def LvX (w : World) (day : Int) (c : Code) (pre : List (Nat × Vis)) (W : World) : Prop :=
  c = .ret ∧ (∃ u : Vis, (∃ pre' i, pre = pre' ++ [(i, u)] ∧ (∀ x ∈ pre', day < x.2.day) ∧ u.day ≤ day) ∧ BoxAt W (w.heap.size + 1 + 1) [.int .i64 u.day, .int .i64 u.kind, .int .i64 u.tilt, .int .i64 u.push] ∧ BoxAt W (w.heap.size + 1 + 1 + 1) [.bool true]) ∧ Below w.heap.size w W
theorem lvI_own (W0 : World) (day : Int) : OwnFrom W0.heap.size (LvI W0 day) := OwnFrom.and (ownFrom_pure _ _) (ownFrom_below (Nat.le_refl _) (Nat.le_refl _))
theorem lvX_own (w : World) (B : Nat) (hB : w.heap.size ≤ B) (day : Int) (c : Code) : OwnFrom B (LvX w day c) := fun pre X Y row hs hg hr => by
  obtain ⟨e, ⟨u, hu, b1, b2⟩, hb⟩ := hs
  exact ⟨e, ⟨u, hu, b1.kept hg (fun r e => (hr r e).2), b2.kept hg (fun r e => (hr r e).2)⟩, ownFrom_below (β := Unit) (Nat.le_refl _) hB () X Y row hb hg hr⟩
theorem BoxAt.far {w : World} {B B' : Nat} {cs : List Value} (h : BoxAt w B cs) (o : Nat) (v : Value) (hne : B ≠ B') : BoxAt (w.setCell ⟨B', o, none⟩ v) B cs := h.grown (grown_set w B' o v) (fun e => hne (by cases e; rfl))
theorem fr_putB {w W : World} (h : Below w.heap.size w W) {D : Nat} (hD : w.heap.size ≤ D) (o : Obj) : Below w.heap.size w (W.putObj D o) :=
  h.grown (grownBy_putObj' W D o) h.size (fun k e => by cases e; exact hD)
theorem five (w W : World) (u0 u1 u2 u3 ub v0 v1 v2 v3 vb : Value) (hr : BoxAt W (w.heap.size + 1 + 1) [u0, u1, u2, u3]) (hb : BoxAt W (w.heap.size + 1 + 1 + 1) [ub]) (hB : Below w.heap.size w W) (W' : World)
    (hW : ((((W.setCell ⟨w.heap.size + 1 + 1, 0, none⟩ (v0)).setCell ⟨w.heap.size + 1 + 1, 1, none⟩ (v1)).setCell ⟨w.heap.size + 1 + 1, 2, none⟩ (v2)).setCell ⟨w.heap.size + 1 + 1, 3, none⟩ (v3)).setCell ⟨w.heap.size + 1 + 1 + 1, 0, none⟩ (vb) = W') : BoxAt W' (w.heap.size + 1 + 1) [v0, v1, v2, v3] ∧ BoxAt W' (w.heap.size + 1 + 1 + 1) [vb] ∧ Below w.heap.size w W' ∧ KeepsOthers W W' := by
  rw [← hW]
  refine ⟨?_, ?_, ?_, ?_⟩
  · exact ((((hr.set 0 v0 (by decide : 0 < 4)).set 1 v1 (by decide : 1 < 4)).set 2 v2 (by decide : 2 < 4)).set 3 v3 (by decide : 3 < 4)).far 0 vb (by omega)
  · exact ((((hb.far 0 v0 (by omega)).far 1 v1 (by omega)).far 2 v2 (by omega)).far 3 v3 (by omega)).set 0 vb (by decide : 0 < 1)
  · exact ((((hB.setCell (p := ⟨w.heap.size + 1 + 1, 0, none⟩) (by simp; omega) _).setCell (p := ⟨w.heap.size + 1 + 1, 1, none⟩) (by simp; omega) _).setCell (p := ⟨w.heap.size + 1 + 1, 2, none⟩) (by simp; omega) _).setCell (p := ⟨w.heap.size + 1 + 1, 3, none⟩) (by simp; omega) _).setCell (p := ⟨w.heap.size + 1 + 1 + 1, 0, none⟩) (by simp; omega) _
  · exact ((((KeepsOthers.setCell _ _ _).trans (KeepsOthers.setCell _ _ _)).trans (KeepsOthers.setCell _ _ _)).trans (KeepsOthers.setCell _ _ _)).trans (KeepsOthers.setCell _ _ _)
theorem lastVisit_any (V : Option Addr) (d : Nat) (m : Mon) (day : Int) (w : World) (hM : MB w V m) :
    Calls Tryz.prog 104 #[.agg #[.string m.name, .string m.place, .slice V m.visits.length d], .int .i64 day] w (LastPost w (Cal.lastV day m.visits)) := by
  have hsz := hM.vis.size
  have hM := Lib.hid hM
  refine (callsIn_wide (n := 4)).1 ?_
  refine callsIn_of_wp_marks Tryz.func104 rfl trivial ?_ rfl
  simp only [Tryz.ntmps104, List.size_toArray, List.length_cons, List.length_nil, Nat.reduceAdd, Nat.reduceSub, Array.replicate_succ, Array.replicate_zero, List.push_toArray, List.append_toArray, List.nil_append, List.cons_append]
  gi_wp2_with (refine ⟨trivial, ?_⟩; gi_at_call 128; refine (callsIn_wide.2 (backward_any _ _ _ _)).mono ?_; rintro e w' ⟨rfl, rfl⟩)
  have bV := ((((BoxAt.new w #[.string m.name, .string m.place, .slice V m.visits.length d] 80).alloc (.cells #[.int .i64 day] 3)).alloc (.cells #[.int .i64 0, .int .i64 0, .int .i64 0, .int .i64 0] 88)).alloc (.cells #[.bool false] 4)).alloc (.cells #[.slice V m.visits.length d] 78)
  have bD := (((BoxAt.new (w.alloc (.cells #[.string m.name, .string m.place, .slice V m.visits.length d] 80)) #[.int .i64 day] 3).alloc (.cells #[.int .i64 0, .int .i64 0, .int .i64 0, .int .i64 0] 88)).alloc (.cells #[.bool false] 4)).alloc (.cells #[.slice V m.visits.length d] 78)
  have bR := ((BoxAt.new ((w.alloc (.cells #[.string m.name, .string m.place, .slice V m.visits.length d] 80)).alloc (.cells #[.int .i64 day] 3)) #[.int .i64 0, .int .i64 0, .int .i64 0, .int .i64 0] 88).alloc (.cells #[.bool false] 4)).alloc (.cells #[.slice V m.visits.length d] 78)
  have bB := (BoxAt.new (((w.alloc (.cells #[.string m.name, .string m.place, .slice V m.visits.length d] 80)).alloc (.cells #[.int .i64 day] 3)).alloc (.cells #[.int .i64 0, .int .i64 0, .int .i64 0, .int .i64 0] 88)) #[.bool false] 4).alloc (.cells #[.slice V m.visits.length d] 78)
  have bS := BoxAt.new ((((w.alloc (.cells #[.string m.name, .string m.place, .slice V m.visits.length d] 80)).alloc (.cells #[.int .i64 day] 3)).alloc (.cells #[.int .i64 0, .int .i64 0, .int .i64 0, .int .i64 0] 88)).alloc (.cells #[.bool false] 4)) #[.slice V m.visits.length d] 78
  have hB0 : Below w.heap.size w (((((w.alloc (.cells #[.string m.name, .string m.place, .slice V m.visits.length d] 80)).alloc (.cells #[.int .i64 day] 3)).alloc (.cells #[.int .i64 0, .int .i64 0, .int .i64 0, .int .i64 0] 88)).alloc (.cells #[.bool false] 4)).alloc (.cells #[.slice V m.visits.length d] 78)) := below_step (below_step (below_step (below_step (below_alloc _ _) (below_alloc _ _)) (below_alloc _ _)) (below_alloc _ _)) (below_alloc _ _)
  have hs0 : (((((w.alloc (.cells #[.string m.name, .string m.place, .slice V m.visits.length d] 80)).alloc (.cells #[.int .i64 day] 3)).alloc (.cells #[.int .i64 0, .int .i64 0, .int .i64 0, .int .i64 0] 88)).alloc (.cells #[.bool false] 4)).alloc (.cells #[.slice V m.visits.length d] 78)).heap.size = w.heap.size + 5 := by simp
  simp only [World.size_alloc] at bD bR bB bS
  obtain ⟨W0, hW0⟩ : ∃ W0, ((((w.alloc (.cells #[.string m.name, .string m.place, .slice V m.visits.length d] 80)).alloc (.cells #[.int .i64 day] 3)).alloc (.cells #[.int .i64 0, .int .i64 0, .int .i64 0, .int .i64 0] 88)).alloc (.cells #[.bool false] 4)).alloc (.cells #[.slice V m.visits.length d] 78) = W0 := ⟨_, rfl⟩
  rw [hW0] at bV bD bR bB bS hB0 hs0 ⊢
  clear hW0
  have hVi := hM.out.vis.below hB0
  have hVn : ∀ ad, V = some ad → 0 < m.visits.length → ad.block < W0.heap.size := by
    intro ad e h
    obtain ⟨b, o, hA, hb, _⟩ := hM.out.vis.at_ (List.getElem?_eq_getElem h)
    rw [e] at hA
    cases hA
    exact Nat.lt_of_lt_of_le hb hB0.size
  refine wpIn_rangeFunc_ownH rfl (by omega) (gf := 144) (lb := #[.pointer (some ⟨w.heap.size + 1 + 1 + 1 + 1, 0, none⟩)]) rfl trivial (enters_of Tryz.func144 (by kernel_rfl) rfl)
    (back_stops 3 (by omega) (w.heap.size + 1 + 1 + 1 + 1) W0.heap.size V d m.visits W0 (bS.c 0 _ rfl) (by omega) (Nat.le_refl _) hVi hVn) belowK_t (belowK_b (Nat.le_refl _)) (Below.refl _ _) (fun _ => rfl)
    (LvI W0 day) (LvX w day) (lvI_own W0 day) (lvX_own w _ hB0.size day)
    ⟨fun x hx => by (cases hx), Below.refl _ _⟩
    (fun x a' W => ∃ Bx, W0.heap.size ≤ Bx ∧ BoxAt W Bx [.int .i64 x.2.day, .int .i64 x.2.kind, .int .i64 x.2.tilt, .int .i64 x.2.push] ∧ a' = { tmps := #[.agg #[.string m.name, .string m.place, .slice V m.visits.length d], .int .i64 day, .pointer (some ⟨w.heap.size, 0, none⟩), .pointer (some ⟨w.heap.size + 1, 0, none⟩), .pointer (some ⟨w.heap.size + 1 + 1, 0, none⟩), .pointer (some ⟨w.heap.size + 1 + 1 + 1, 0, none⟩), undef, .pointer (some ⟨Bx, 0, none⟩), .pointer (some ⟨w.heap.size, 2, none⟩), .slice V m.visits.length d, .func (.func 144) #[] #[.pointer (some ⟨w.heap.size + 1 + 1 + 1 + 1, 0, none⟩)], .int .i64 (x.1 : Int), .agg #[.int .i64 x.2.day, .int .i64 x.2.kind, .int .i64 x.2.tilt, .int .i64 x.2.push], undef, undef, undef, undef, undef, undef], defers := [] })
    (fun x a' _ X Y row hs hg hr => by obtain ⟨Bx, e1, e2, e3⟩ := hs; exact ⟨Bx, e1, e2.kept hg (fun r e => (hr r e).2), e3⟩)
    ?assign ?body ?done ?stop
  case assign =>
    rintro l pre x W K ⟨hp, hb⟩ hK
    gi_wp2
    exact hK _ _ ((KeepsOthers.alloc _ _).from _) ((Below.refl _ W).alloc hb.size _) ⟨hp, hb.alloc hb.size _⟩ ⟨W.heap.size, hb.size, BoxAt.new W #[.int .i64 x.2.day, .int .i64 x.2.kind, .int .i64 x.2.tilt, .int .i64 x.2.push] _, rfl⟩
  case body =>
    rintro l pre x a' W hl ⟨r, hr⟩ ⟨hp, hb⟩ ⟨Bx, hBx, bX, rfl⟩ hlt
    have c0 := bX.c 0 _ rfl
    have c1 := bX.c 1 _ rfl
    have c2 := bX.c 2 _ rfl
    have c3 := bX.c 3 _ rfl
    have cd := (bD.below hb).c 0 _ rfl
    have bR1 := bR.below hb
    have f0 := bR1.free 0 (by decide)
    have f1 := bR1.free 1 (by decide)
    have f2 := bR1.free 2 (by decide)
    have f3 := bR1.free 3 (by decide)
    have bB1 := bB.below hb
    have fb := bB1.free 0 (by decide)
    have r0 := bR1.c 0 _ rfl
    have r1 := bR1.c 1 _ rfl
    have r2 := bR1.c 2 _ rfl
    have r3 := bR1.c 3 _ rfl
    have rb := bB1.c 0 _ rfl
    obtain ⟨i, v⟩ := x
    dsimp only at c0 c1 c2 c3
    by_cases hd : v.day ≤ day
    · have hdb : decide (v.day ≤ day) = true := by simpa using hd
      have hAll := Lib.hid (And.intro hp (And.intro hb (And.intro hd (And.intro bR1 bB1))))
      clear hp hb hd bR1 bB1
      gi_wp2
      obtain ⟨hp, hb, hd, bR1, bB1⟩ := hAll.out
      obtain ⟨q1, q2, q3, q4⟩ := five w W _ _ _ _ _ (.int .i64 v.day) (.int .i64 v.kind) (.int .i64 v.tilt) (.int .i64 v.push) (.bool true) bR1 bB1 (hB0.trans (hb.mono hB0.size)) _ rfl
      exact ⟨q4.from _, rfl, ⟨v, ⟨pre, i, rfl, hp, hd⟩, q1, q2⟩, q3⟩
    · have hdb : decide (v.day ≤ day) = false := by simpa using hd
      have hd := Int.not_le.1 hd
      have hAll := Lib.hid (And.intro hp (And.intro hb hd))
      clear hp hb hd bR1 bB1
      gi_wp2
      obtain ⟨hp, hb, hd⟩ := hAll.out
      exact ⟨KeepsFrom.refl _ _, Below.refl _ _, fun x hx => (List.mem_append.1 hx).elim (hp x) (fun e => by obtain rfl := List.mem_singleton.1 e; exact hd), hb⟩
  case done =>
    rintro D ys W hD rfl ⟨hp, hb⟩ hK
    have bR1 := bR.below hb
    have f0 := bR1.free 0 (by decide)
    have f1 := bR1.free 1 (by decide)
    have f2 := bR1.free 2 (by decide)
    have f3 := bR1.free 3 (by decide)
    have bB1 := bB.below hb
    have fb := bB1.free 0 (by decide)
    have r0 := bR1.c 0 _ rfl
    have r1 := bR1.c 1 _ rfl
    have r2 := bR1.c 2 _ rfl
    have r3 := bR1.c 3 _ rfl
    have rb := bB1.c 0 _ rfl
    have hAll := Lib.hid (And.intro hp (And.intro hb (And.intro bR1 bB1)))
    clear hp hb bR1 bB1
    gi_wp2
    obtain ⟨hp, hb, bR1, bB1⟩ := hAll.out
    clear f0 f1 f2 f3 fb r0 r1 r2 r3 rb
    obtain ⟨W2, hW2⟩ : ∃ W2, ((((W.setCell ⟨w.heap.size + 1 + 1, 0, none⟩ (.int .i64 0)).setCell ⟨w.heap.size + 1 + 1, 1, none⟩ (.int .i64 0)).setCell ⟨w.heap.size + 1 + 1, 2, none⟩ (.int .i64 0)).setCell ⟨w.heap.size + 1 + 1, 3, none⟩ (.int .i64 0)).setCell ⟨w.heap.size + 1 + 1 + 1, 0, none⟩ (.bool false) = W2 := ⟨_, rfl⟩
    obtain ⟨q1, q2, q3, q4⟩ := five w W _ _ _ _ _ _ _ _ _ _ bR1 bB1 (hB0.trans (hb.mono hB0.size)) _ hW2
    rw [hW2]
    have hK' := q4.same D _ hK rfl
    have ho' : Others W2 (some D) := fun r e => by cases e; exact ⟨_, hK', rfl⟩
    refine ⟨by simp, .inl ⟨_, _, rfl, run_takeDeferred hK', ?_⟩⟩
    have q5 := (q2.kept (grownBy_putObj' W2 D (.deferred none)) ho').c 0 _ rfl
    refine ⟨.tuple #[.agg #[.int .i64 0, .int .i64 0, .int .i64 0, .int .i64 0], .bool false], results_midc rfl _ _ (w.heap.size + 1 + 1) [.int .i64 0, .int .i64 0, .int .i64 0, .int .i64 0] _ rfl (q1.kept (grownBy_putObj' W2 D (.deferred none)) ho').range Tryz.underlying88 rfl viSize ⟨w.heap.size + 1 + 1 + 1, 0, none⟩ (.bool false) rfl (by simp [loadVar, go_sem, q5]), zeroVis, ?_, ?_, ?_⟩
    · have hl := lastV_tail m.visits.length (Nat.le_refl _) (fun x hx => Int.not_le.2 (hp x hx))
      rw [Nat.sub_self, List.drop_zero] at hl
      rw [hl]; rfl
    · have hl := lastV_tail m.visits.length (Nat.le_refl _) (fun x hx => Int.not_le.2 (hp x hx))
      rw [Nat.sub_self, List.drop_zero] at hl
      rw [hl]; rfl
    · exact fr_putB q3 (by omega) _
  case stop =>
    rintro D c pre W hD hpre ⟨rfl, ⟨u, hu, b1, b2⟩, hb⟩ hK
    have hAll := Lib.hid (And.intro hu (And.intro b1 (And.intro b2 hb)))
    clear hu b1 b2 hb
    gi_wp2
    obtain ⟨hu, b1, b2, hb⟩ := hAll.out
    have ho' : Others W (some D) := fun r e => by cases e; exact ⟨_, hK, rfl⟩
    refine ⟨by simp, .inl ⟨_, _, rfl, run_takeDeferred hK, ?_⟩⟩
    have q5 := (b2.kept (grownBy_putObj' W D (.deferred none)) ho').c 0 _ rfl
    obtain ⟨pre', i, e, hp, hd⟩ := hu
    obtain ⟨k, hk, hpre⟩ := hpre
    rw [e] at hpre
    have hl : Cal.lastV day m.visits = some u := by
      cases k with
      | zero => simp [revTo] at hpre
      | succ k =>
        rw [revTo_succ] at hpre
        obtain ⟨h1, h2⟩ := List.append_inj' hpre rfl
        have h3 := List.singleton_inj.1 h2
        have h4 : (revAt m.visits k).2 = u := by rw [← h3]
        rw [← h4]
        exact lastV_hit (by omega) (by rw [← h1]; exact fun x hx => Int.not_le.2 (hp x hx)) (by rw [h4]; exact hd)
    refine ⟨.tuple #[.agg #[.int .i64 u.day, .int .i64 u.kind, .int .i64 u.tilt, .int .i64 u.push], .bool true], results_midc rfl _ _ (w.heap.size + 1 + 1) [.int .i64 u.day, .int .i64 u.kind, .int .i64 u.tilt, .int .i64 u.push] _ rfl (b1.kept (grownBy_putObj' W D (.deferred none)) ho').range Tryz.underlying88 rfl viSize ⟨w.heap.size + 1 + 1 + 1, 0, none⟩ (.bool true) rfl (by simp [loadVar, go_sem, q5]), u, ?_, ?_, ?_⟩
    · rw [hl]; rfl
    · rw [hl]; rfl
    · exact fr_putB hb (by omega) _
end Go.Proofs.YtconnjkkgaapbaaGreatDoor
