/- Chapter 8 and what it rests on: definitions and walks, part 31. -/
import Derived.Test.YtbegbajlagcbdaaGreatDoorC30
import Derived.Test.YtbegbajlagcbdaaGreatDoorC26
import Derived.Test.YtbegbajlagcbdaaGreatDoorC28
import Derived.Deep.SlicePairs
namespace Go.Proofs.YtbegbajlagcbdaaGreatDoor
open Go Go.RowKit
/-- A number is among others. -/
def memI (d : Int) (zs : List Int) : Bool := decide (d ∈ zs)
theorem IndexI_any (A : Option Addr) (c : Nat) (zs : List Int) (d : Int) (w : World) (h : RowsAt w A 1 (intRows zs)) (hs : zs.length ≤ 1000000) :
    Calls Tryz.prog 200 #[.slice A zs.length c, .int .i64 d] w fun e w' => (∃ i : Int, e = .returned (.int .i64 i) ∧ -1 ≤ i ∧ decide (0 ≤ i) = memI d zs) ∧ w = w' := by
  have h' := Lib.hid h
  have h0 : Hid (missI zs d 0) := fun j z h _ => by omega
  clear h
  go_enter Tryz.func200, Tryz.ntmps200
  go_wp2
  go_loop [8] (fun i => ∃ k : Nat, k ≤ zs.length ∧ i = .int .i64 k ∧ Hid (missI zs d k)) (fun i => zs.length - (intOf i).toNat)
  case atStart => exact ⟨0, Nat.zero_le _, rfl, h0⟩
  case round =>
    obtain ⟨k, hk, rfl, hm⟩ := hrel
    clear h0
    by_cases hlt : k < zs.length
    · obtain ⟨b, o, rfl, _, e1⟩ := ints_at h'.out hlt
      have hzk := Lib.hid (List.getElem?_eq_getElem hlt)
      have hmem := Lib.hid (List.getElem_mem hlt)
      generalize zs[k] = z at *
      by_cases hz : d = z
      · have hfin : Hid (memI d zs = true) := by show decide _ = _; rw [decide_eq_true_iff, hz]; exact hmem.out
        subst hz
        go_wp2
        go_ret
        exact ⟨⟨k, rfl, by omega, by rw [hfin.out]; simp⟩, rfl⟩
      · have hz' : (d == z) = false := by simpa using hz
        have hnx : Hid (missI zs d (k + 1)) := fun j y hj hy => by
          rcases Nat.lt_or_ge j k with h | h
          · exact hm.out j y h hy
          · obtain rfl : j = k := by omega
            rw [hzk.out] at hy; cases hy; exact fun e => hz e.symm
        clear hz
        go_wp2
        go_round
        case rel => exact ⟨k + 1, by omega, by go_num, hnx⟩
        case measure => simp [intOf]; omega
    · obtain rfl : k = zs.length := by omega
      have hfin : Hid (memI d zs = false) := by
        show decide _ = _
        rw [decide_eq_false_iff_not]
        intro hc
        obtain ⟨j, hj, he⟩ := List.getElem_of_mem hc
        exact hm.out j _ hj (List.getElem?_eq_getElem hj) he
      go_wp2
      go_ret
      exact ⟨⟨-1, rfl, by omega, by rw [hfin.out]; rfl⟩, rfl⟩
theorem ContainsI_any (A : Option Addr) (c : Nat) (zs : List Int) (d : Int) (w : World) (h : RowsAt w A 1 (intRows zs)) (hs : zs.length ≤ 1000000) :
    Calls Tryz.prog 127 #[.slice A zs.length c, .int .i64 d] w fun e w' => e = .returned (.bool (memI d zs)) ∧ w = w' := by
  have hi := Lib.hid (IndexI_any A c zs d w h hs)
  go_enter Tryz.func127, Tryz.ntmps127
  go_wp2_with fail
  refine hi.out.mono ?_
  rintro e w' ⟨⟨i, rfl, hi1, hi2⟩, rfl⟩
  have hi2 := Lib.hid hi2
  go_wp2_with fail
  go_ret
  exact ⟨by first | rfl | exact ret_bool hi2.out, rfl⟩
/-- Stops that came in, or were made. -/
structure StopArg (w : World) (S : Option Addr) (e : Nat) (l : List Stp) : Prop where
  rows : RowsAt w S 2 (l.map Stp.cells)
  cap : l.length ≤ e
theorem StopArg.below {w w' : World} {S : Option Addr} {e : Nat} {l : List Stp} (h : StopArg w S e l) (hb : Below w.heap.size w w') : StopArg w' S e l := ⟨h.rows.below hb, h.cap⟩
theorem stops_at {w : World} {S : Option Addr} {l : List Stp} (h : RowsAt w S 2 (l.map Stp.cells)) {k : Nat} (hk : k < l.length) :
    ∃ b o, S = some ⟨b, o, none⟩ ∧ b < w.heap.size ∧ w.cell? ⟨b, o + k * 2, none⟩ = some (.int .i64 l[k].mon) ∧ w.cell? ⟨b, o + k * 2 + 1, none⟩ = some (.int .i64 l[k].day) := by
  obtain ⟨b, o, hA, hlt, hc⟩ := h k l[k].cells (by simp [List.getElem?_eq_getElem hk])
  exact ⟨b, o, hA, hlt, hc 0 _ rfl, hc 1 _ rfl⟩
def Cal.hasM (m : Int) (l : List Stp) : Bool := l.any fun s => s.mon == m
def Cal.cntS (d : Int) (l : List Stp) : Nat := l.countP fun s => s.day == d
theorem checkStop1_any (z zd m dd : Int) (B : Nat) (w : World) (h : BoxAt w B [.int .i64 m, .int .i64 dd]) :
    Calls Tryz.prog 129 #[.agg #[.int .i64 z, .int .i64 zd], .pointer (some ⟨B, 0, none⟩)] w fun e w' => e = .returned (.bool (z == m)) ∧ Below w.heap.size w w' := by
  have hb := Lib.hid (below_alloc w (.cells #[.int .i64 z, .int .i64 zd] 68))
  have c0 := (h.alloc (.cells #[.int .i64 z, .int .i64 zd] 68)).c 0 _ rfl
  have l0 := h.lt
  go_enter Tryz.func129, Tryz.ntmps129
  go_wp2_with fail
  go_ret
  exact ⟨rfl, hb.out⟩
set_option maxRecDepth 100000 in
set_option maxHeartbeats 4000000 in
theorem IndexS_any (S : Option Addr) (e : Nat) (l : List Stp) (m dd : Int) (B : Nat) (w : World) (h : RowsAt w S 2 (l.map Stp.cells)) (hs : l.length ≤ 1000000) (hB : BoxAt w B [.int .i64 m, .int .i64 dd]) :
    Calls Tryz.prog 201 #[.slice S l.length e, .func (.func 129) #[] #[.pointer (some ⟨B, 0, none⟩)]] w fun en w' => (∃ i : Int, en = .returned (.int .i64 i) ∧ -1 ≤ i ∧ decide (0 ≤ i) = Cal.hasM m l) ∧ Below w.heap.size w w' := by
  have h' := Lib.hid h
  have hB := Lib.hid hB
  have hinit : Hid ((l.take 0).any (fun s => s.mon == m) = false) := rfl
  have hb0 := Lib.hid (Below.refl w.heap.size w)
  clear h
  go_enter Tryz.func201, Tryz.ntmps201
  go_wp2_with fail
  go_loopw [8] (fun i wr => ∃ k : Nat, k ≤ l.length ∧ i = .int .i64 k ∧ Hid ((l.take k).any (fun s => s.mon == m) = false) ∧ Hid (Below w.heap.size w wr)) (fun i _ => l.length - (intOf i).toNat)
  case atStart => exact ⟨0, Nat.zero_le _, rfl, hinit, hb0⟩
  case round =>
    clear hb0
    obtain ⟨k, hk, rfl, hall, hb⟩ := hrel
    clear hinit
    by_cases hlt : k < l.length
    · obtain ⟨b, o, rfl, hbl, e0, e1⟩ := stops_at (h'.out.below hb.out) hlt
      have htk := Lib.hid (List.take_succ_eq_append_getElem hlt)
      have hmem : l[k] ∈ l := List.getElem_mem hlt
      generalize l[k] = s at *
      cases hin : (s.mon == m)
      · have hnx : Hid ((l.take (k + 1)).any (fun s => s.mon == m) = false) := by show _ = _; rw [htk.out, List.any_append, hall.out]; simpa using hin
        have hin := Lib.hid hin
        clear hmem
        go_wp2_with (go_at_call 129; refine (checkStop1_any s.mon s.day m dd B _ (hB.out.below hb.out)).mono ?_; rintro e w' ⟨rfl, hbn⟩; rw [hin.out]; have hb := Lib.hid (below_step hb.out hbn); clear hbn)
        go_roundw
        case rel => exact ⟨k + 1, by omega, by go_num, hnx, hb⟩
        case measure => simp [intOf]; omega
      · have hfin : Hid (Cal.hasM m l = true) := by
          show _ = _
          unfold Cal.hasM
          rw [List.any_eq_true]
          exact ⟨s, hmem, hin⟩
        have hin := Lib.hid hin
        clear hmem
        go_wp2_with (go_at_call 129; refine (checkStop1_any s.mon s.day m dd B _ (hB.out.below hb.out)).mono ?_; rintro e w' ⟨rfl, hbn⟩; rw [hin.out]; have hb := Lib.hid (below_step hb.out hbn); clear hbn)
        go_ret
        exact ⟨⟨k, rfl, by omega, by rw [hfin.out]; simp⟩, hb.out⟩
    · have hfin : Hid (Cal.hasM m l = false) := by
        have h := hall.out
        rw [List.take_of_length_le (by omega)] at h
        exact h
      have hge : l.length = k := by omega
      clear hall
      go_wp2_with fail
      go_ret
      exact ⟨⟨-1, rfl, by omega, by rw [hfin.out]; rfl⟩, hb.out⟩
theorem ContainsS_any (S : Option Addr) (e : Nat) (l : List Stp) (m dd : Int) (B : Nat) (w : World) (h : RowsAt w S 2 (l.map Stp.cells)) (hs : l.length ≤ 1000000) (hB : BoxAt w B [.int .i64 m, .int .i64 dd]) :
    Calls Tryz.prog 128 #[.slice S l.length e, .func (.func 129) #[] #[.pointer (some ⟨B, 0, none⟩)]] w fun en w' => en = .returned (.bool (Cal.hasM m l)) ∧ Below w.heap.size w w' := by
  have hi := Lib.hid (IndexS_any S e l m dd B w h hs hB)
  go_enter Tryz.func128, Tryz.ntmps128
  go_wp2_with fail
  refine hi.out.mono ?_
  rintro e w' ⟨⟨i, rfl, hi1, hi2⟩, hb⟩
  have hi2 := Lib.hid hi2
  have hb := Lib.hid hb
  go_wp2_with fail
  go_ret
  exact ⟨by first | rfl | exact ret_bool hi2.out, hb.out⟩
end Go.Proofs.YtbegbajlagcbdaaGreatDoor
namespace Go.Proofs.YtbegbajlagcbdaaGreatDoor
open Go Go.RowKit Go.ChangeShapes Go.WideShapes Go.Deep
section
variable {H : Type} {enc : TypeId × Value → H} {w : World} {spare : Nat → Bool} {held : Bool} {r : Reach} {b0 : Nat} {v : Value} {d : DataW H} {ps : List MemPlace}
set_option maxRecDepth 100000 in
theorem ints_of_trod {fuel : Nat} {y : DataW H × List MemPlace} (hf : DataW.trod enc Tryz.prog w 0 spare held fuel 32 [v] = some y) :
    ∃ (O : Option Addr) (zs : List Int) (c : Nat), v = .slice O zs.length c ∧ IntArg w O c zs ∧ zs.length ≤ 9223372036854775807 := by
  rcases Go.ChangeShapes.open_ints Tryz.underlying32 Tryz.underlying3 cellsInt1 hf with ⟨hcs, _⟩ | ⟨a, len, cap, zs, hcs, _, hlc, hcm, hzl, _, hcell, _⟩
  · exact ⟨none, [], 0, List.singleton_inj.1 hcs, ⟨fun k r hr => (by simp [intRows] at hr), Nat.zero_le _⟩, by simp⟩
  · have hle : len ≤ zs.length := by rw [hzl]; split <;> omega
    have hlen : (zs.take len).length = len := by rw [List.length_take]; omega
    refine ⟨some a, zs.take len, cap, by rw [hlen]; exact List.singleton_inj.1 hcs, ⟨fun k row hr => ?_, by rw [hlen]; exact hlc⟩, by rw [hlen]; unfold maxLen at hcm; omega⟩
    have hk : k < len := by
      have := (List.getElem?_eq_some_iff.1 hr).1
      unfold intRows at this
      rw [List.length_map, hlen] at this
      exact this
    have hrow : row = [.int .i64 (zs.getD k 0)] := by
      unfold intRows at hr
      rw [List.getElem?_map, List.getElem?_take, if_pos hk, List.getElem?_eq_getElem (by omega)] at hr
      have := (Option.some.inj hr).symm
      rw [this]
      simp [List.getD, List.getElem?_eq_getElem (show k < zs.length by omega)]
    have h0 := hcell 0 (by omega)
    have ha : a = ⟨a.block, a.off, none⟩ := addr_plain h0 ⟨_, h0⟩
    refine ⟨a.block, a.off, by rw [← ha], ?_, fun j v hv => ?_⟩
    · obtain ⟨o, ho, _⟩ := cells_of_cell h0
      have := (Array.getElem?_eq_some_iff.1 ho).1
      simpa [Addr.add] using this
    · subst hrow
      match j, hv with
      | 0, hv =>
        cases hv
        have h1 := hcell k (by omega)
        rw [ha, Go.WideShapes.add_plain] at h1
        simpa using h1
      | j + 1, hv => simp at hv
set_option maxRecDepth 100000 in
theorem stops_of_trod {fuel : Nat} {x : DataW H × List MemPlace} (hf : DataW.trod enc Tryz.prog w 0 spare held fuel 57 [v] = some x) : ∃ (A : Option Addr) (l : List Stp) (c : Nat), v = .slice A l.length c ∧ StopArg w A c l ∧ l.length ≤ 9223372036854775807 := by
  obtain ⟨A, len, cap, hcs, hlen, hq⟩ := rows_of_open Tryz.underlying57 Tryz.underlying68 (by kernel_rfl) (by kernel_rfl) (by decide) hf
  have he : v = .slice A len cap := by simpa using hcs
  subst he
  have hcap : len ≤ cap := by
    rcases open_slice Tryz.underlying57 hf with ⟨h0, _⟩ | ⟨a, len', cap', m, n, D, Pl, hc, _, hl, _⟩
    · have := List.singleton_inj.1 h0
      simp only [Value.slice.injEq] at this
      omega
    · have := List.singleton_inj.1 hc
      simp only [Value.slice.injEq] at this
      omega
  have h1 : ∀ i, i < len → ∃ p : Stp, ∃ b o, A = some ⟨b, o, none⟩ ∧ b < w.heap.size ∧ ∀ j v, p.cells[j]? = some v → w.cell? ⟨b, o + (i * 2 + j), none⟩ = some v := fun i hi => by
    obtain ⟨b, o, n, hA, hb, hf⟩ := hq i hi
    obtain ⟨v0, y0, c0, t0⟩ := hf 0 _ rfl
    obtain ⟨v1, y1, c1, t1⟩ := hf 1 _ rfl
    obtain ⟨s0, e0, _, _⟩ := DataW.trod_int Tryz.underlying3 t0
    obtain ⟨s1, e1, _, _⟩ := DataW.trod_int Tryz.underlying3 t1
    cases e0; cases e1
    refine ⟨⟨s0, s1⟩, b, o, hA, hb, fun j v hv => ?_⟩
    match j, hv with
    | 0, hv => cases hv; exact c0
    | 1, hv => cases hv; exact c1
    | j + 2, hv => simp [Stp.cells] at hv
  obtain ⟨l, hl, hq'⟩ := list_of len h1
  subst hl
  refine ⟨A, l, cap, rfl, ⟨fun k r hr => ?_, hcap⟩, by unfold maxLen at hlen; omega⟩
  rw [List.getElem?_map] at hr
  cases hk : l[k]? with
  | none => rw [hk] at hr; cases hr
  | some p => rw [hk] at hr; cases hr; exact hq' k p hk
set_option maxRecDepth 100000 in
theorem plan_of_open (hval : Value.okWide Tryz.prog w r b0 59 v) (h : DataW.Trod enc Tryz.prog w 0 spare held 59 v d ps) :
    ∃ (O : Option Addr) (zs : List Int) (c : Nat) (S : Option Addr) (l : List Stp) (f : Nat), v = .agg #[.slice O zs.length c, .slice S l.length f] ∧ (IntArg w O c zs ∧ zs.length ≤ 9223372036854775807) ∧ StopArg w S f l ∧ l.length ≤ 9223372036854775807 := by
  have hu := Tryz.underlying59
  unfold Value.okWide at hval
  rw [hu] at hval
  obtain ⟨cs, rfl, hcs, _⟩ := hval
  obtain ⟨fuel, hf⟩ := h
  obtain ⟨m, xs, hlen, hxl, hi⟩ := trod_cells hu (by kernel_rfl) hf
  have h0 := hi 0 _ rfl
  have h1 := hi 1 _ rfl
  rw [show Tryz.prog.cellsOf 59 = 2 by kernel_rfl] at hcs
  obtain ⟨l⟩ := cs
  match l, hcs with
  | [a, b], _ =>
    match xs, hxl with
    | [y0, y1], _ =>
      simp [Value.cells] at h0 h1
      obtain ⟨O, zs, c, e0, i0, i1⟩ := ints_of_trod h0
      obtain ⟨S, l, f, e1, s0, s1⟩ := stops_of_trod h1
      subst e0
      subst e1
      exact ⟨O, zs, c, S, l, f, rfl, ⟨i0, i1⟩, s0, s1⟩
end
end Go.Proofs.YtbegbajlagcbdaaGreatDoor
namespace Go.Proofs.YtbegbajlagcbdaaGreatDoor
open Go Go.RowKit
/-- The error of a stop behind others. -/
def Cal.stopE (p : Proc) (order : List Int) (before : List Stp) (s : Stp) (x y : Int) : Int :=
  if memI s.mon order = true then (if Cal.hasM s.mon before = true then 5 else (if Cal.isWorkE p.hols s.day = 0 then (if s.day < x then 22 else (if Cal.isWorkB p.hols s.day = true then (if y ≤ Cal.cntS s.day before then 16 else 0) else 28)) else Cal.isWorkE p.hols s.day)) else 6
theorem start3s (w : World) (A : Option Addr) (c : Nat) (p : Proc) (s : Stp) (x y : Int) : Hid (BoxAt (((w.alloc (.cells #[.int .i64 p.runs.m, .int .i64 p.runs.d, .bool p.runs.k, .int .i64 p.obj.m, .int .i64 p.obj.d, .bool p.obj.k, .int .i64 p.wait.m, .int .i64 p.wait.d, .bool p.wait.k, .int .i64 p.exts, .int .i64 p.longest, .slice A p.hols.length c] 47)).alloc (.cells #[.int .i64 s.mon, .int .i64 s.day] 68)).alloc (.cells #[.int .i64 x, .int .i64 y] 49)) w.heap.size [.int .i64 p.runs.m, .int .i64 p.runs.d, .bool p.runs.k, .int .i64 p.obj.m, .int .i64 p.obj.d, .bool p.obj.k, .int .i64 p.wait.m, .int .i64 p.wait.d, .bool p.wait.k, .int .i64 p.exts, .int .i64 p.longest, .slice A p.hols.length c]) ∧ Hid (BoxAt (((w.alloc (.cells #[.int .i64 p.runs.m, .int .i64 p.runs.d, .bool p.runs.k, .int .i64 p.obj.m, .int .i64 p.obj.d, .bool p.obj.k, .int .i64 p.wait.m, .int .i64 p.wait.d, .bool p.wait.k, .int .i64 p.exts, .int .i64 p.longest, .slice A p.hols.length c] 47)).alloc (.cells #[.int .i64 s.mon, .int .i64 s.day] 68)).alloc (.cells #[.int .i64 x, .int .i64 y] 49)) (w.heap.size + 1) [.int .i64 s.mon, .int .i64 s.day]) ∧ Hid (BoxAt (((w.alloc (.cells #[.int .i64 p.runs.m, .int .i64 p.runs.d, .bool p.runs.k, .int .i64 p.obj.m, .int .i64 p.obj.d, .bool p.obj.k, .int .i64 p.wait.m, .int .i64 p.wait.d, .bool p.wait.k, .int .i64 p.exts, .int .i64 p.longest, .slice A p.hols.length c] 47)).alloc (.cells #[.int .i64 s.mon, .int .i64 s.day] 68)).alloc (.cells #[.int .i64 x, .int .i64 y] 49)) (w.heap.size + 1 + 1) [.int .i64 x, .int .i64 y]) ∧ Hid (Below w.heap.size w (((w.alloc (.cells #[.int .i64 p.runs.m, .int .i64 p.runs.d, .bool p.runs.k, .int .i64 p.obj.m, .int .i64 p.obj.d, .bool p.obj.k, .int .i64 p.wait.m, .int .i64 p.wait.d, .bool p.wait.k, .int .i64 p.exts, .int .i64 p.longest, .slice A p.hols.length c] 47)).alloc (.cells #[.int .i64 s.mon, .int .i64 s.day] 68)).alloc (.cells #[.int .i64 x, .int .i64 y] 49))) := by
  have h2 := BoxAt.new (w.alloc (.cells #[.int .i64 p.runs.m, .int .i64 p.runs.d, .bool p.runs.k, .int .i64 p.obj.m, .int .i64 p.obj.d, .bool p.obj.k, .int .i64 p.wait.m, .int .i64 p.wait.d, .bool p.wait.k, .int .i64 p.exts, .int .i64 p.longest, .slice A p.hols.length c] 47)) #[.int .i64 s.mon, .int .i64 s.day] 68
  have h3 := BoxAt.new ((w.alloc (.cells #[.int .i64 p.runs.m, .int .i64 p.runs.d, .bool p.runs.k, .int .i64 p.obj.m, .int .i64 p.obj.d, .bool p.obj.k, .int .i64 p.wait.m, .int .i64 p.wait.d, .bool p.wait.k, .int .i64 p.exts, .int .i64 p.longest, .slice A p.hols.length c] 47)).alloc (.cells #[.int .i64 s.mon, .int .i64 s.day] 68)) #[.int .i64 x, .int .i64 y] 49
  simp only [World.size_alloc] at h2 h3
  exact ⟨((BoxAt.new w #[.int .i64 p.runs.m, .int .i64 p.runs.d, .bool p.runs.k, .int .i64 p.obj.m, .int .i64 p.obj.d, .bool p.obj.k, .int .i64 p.wait.m, .int .i64 p.wait.d, .bool p.wait.k, .int .i64 p.exts, .int .i64 p.longest, .slice A p.hols.length c] _).alloc _).alloc _, h2.alloc _, h3, below_step (below_step (below_alloc _ _) (below_alloc _ _)) (below_alloc _ _)⟩
set_option maxRecDepth 100000 in
set_option maxHeartbeats 8000000 in
theorem checkStop_any (A : Option Addr) (c : Nat) (p : Proc) (O : Option Addr) (d : Nat) (order : List Int) (S : Option Addr) (f : Nat) (l : List Stp) (s : Stp) (x y : Int) (w : World) (hl : Hols w A p.hols) (hT : Tab w) (hI : IntArg w O d order) (hs : order.length ≤ 1000000) (hS : RowsAt w S 2 (l.map Stp.cells)) (hsl : l.length ≤ 1000000) :
    Calls Tryz.prog 76 #[.agg #[.int .i64 p.runs.m, .int .i64 p.runs.d, .bool p.runs.k, .int .i64 p.obj.m, .int .i64 p.obj.d, .bool p.obj.k, .int .i64 p.wait.m, .int .i64 p.wait.d, .bool p.wait.k, .int .i64 p.exts, .int .i64 p.longest, .slice A p.hols.length c], .slice O order.length d, .slice S l.length f, .agg #[.int .i64 s.mon, .int .i64 s.day], .agg #[.int .i64 x, .int .i64 y]] w fun e w' => e = .returned (.int .i64 (Cal.stopE p order l s x y)) ∧ Below w.heap.size w w' := by
  obtain ⟨g1, g2, g3, hb⟩ := start3s w A c p s x y
  have hl := Lib.hid hl
  have hT := Lib.hid hT
  have hI := Lib.hid hI
  have hS := Lib.hid hS
  have hcz : Hid ((Cal.cntS s.day (l.take 0) : Nat) = 0) := rfl
  go_enter Tryz.func76, Tryz.ntmps76
  go_wp2_with fail
  go_loopw [18, 11] (fun i n wr => ∃ (k q : Nat), k ≤ l.length ∧ i = .int .i64 k ∧ n = .int .i64 q ∧ q ≤ k ∧ Hid (Cal.cntS s.day (l.take k) = q) ∧ Hid (BoxAt wr w.heap.size [.int .i64 p.runs.m, .int .i64 p.runs.d, .bool p.runs.k, .int .i64 p.obj.m, .int .i64 p.obj.d, .bool p.obj.k, .int .i64 p.wait.m, .int .i64 p.wait.d, .bool p.wait.k, .int .i64 p.exts, .int .i64 p.longest, .slice A p.hols.length c]) ∧ Hid (BoxAt wr (w.heap.size + 1) [.int .i64 s.mon, .int .i64 s.day]) ∧ Hid (BoxAt wr (w.heap.size + 1 + 1) [.int .i64 x, .int .i64 y]) ∧ Hid (Below w.heap.size w wr)) (fun i _ _ => l.length - (intOf i).toNat)
  case atStart => exact ⟨0, 0, Nat.zero_le _, rfl, rfl, Nat.le_refl _, hcz, g1, g2, g3, hb⟩
  case round =>
    clear g1 g2 g3 hb hcz
    obtain ⟨k, q, hk, rfl, rfl, hqk, hcn, g1, g2, g3, hb⟩ := hrel
    by_cases hlt : k < l.length
    · obtain ⟨b, o, rfl, hbl, e0, e1⟩ := stops_at (hS.out.below hb.out) hlt
      have htk := Lib.hid (List.take_succ_eq_append_getElem hlt)
      generalize l[k] = u at *
      have hbn := below_alloc wr (.cells #[.int .i64 u.mon, .int .i64 u.day] 68)
      have s1 := (g2.out.below hbn).c 1 _ rfl
      have l2 := g2.out.lt
      have g1 := Lib.hid (g1.out.below hbn)
      have g2 := Lib.hid (g2.out.below hbn)
      have g3 := Lib.hid (g3.out.below hbn)
      have hb := Lib.hid (below_step hb.out hbn)
      clear hbn
      by_cases hu : u.day = s.day
      · have hu1 : (u.day == s.day) = true := by simpa using hu
        have hnx : Hid (Cal.cntS s.day (l.take (k + 1)) = q + 1) := by show _ = _; rw [htk.out]; unfold Cal.cntS at hcn ⊢; rw [List.countP_append, hcn.out]; simp [hu]
        clear hu
        go_wp2_with fail
        go_roundw
        case rel => exact ⟨k + 1, q + 1, by omega, by go_num, by go_num, by omega, hnx, g1, g2, g3, hb⟩
        case measure => simp [intOf]; omega
      · have hu1 : (u.day == s.day) = false := by simpa using hu
        have hnx : Hid (Cal.cntS s.day (l.take (k + 1)) = q) := by show _ = _; rw [htk.out]; unfold Cal.cntS at hcn ⊢; rw [List.countP_append, hcn.out]; simp [hu]
        clear hu
        go_wp2_with fail
        go_roundw
        case rel => exact ⟨k + 1, q, by omega, by go_num, rfl, by omega, hnx, g1, g2, g3, hb⟩
        case measure => simp [intOf]; omega
    · obtain rfl : k = l.length := by omega
      have hcn : Hid (Cal.cntS s.day l = q) := by show _ = _; have := hcn.out; rwa [List.take_length] at this
      cases hm : memI s.mon order
      · have hfin : Hid (Cal.stopE p order l s x y = 6) := by show _ = _; unfold Cal.stopE; rw [hm]; rfl
        have hm := Lib.hid hm
        have s0 := g2.out.c 0 _ rfl
        have s1 := g2.out.c 1 _ rfl
        have p11 := g1.out.c 11 _ rfl
        go_wp2_with fail
        refine (IsWorking_any A c p.hols s.day _ (hl.out.below hb.out) (hT.out.below hb.out)).mono ?_
        rintro e w4 ⟨rfl, hbn⟩
        clear s0 s1 p11
        have g1 := Lib.hid (g1.out.below hbn)
        have g2 := Lib.hid (g2.out.below hbn)
        have g3 := Lib.hid (g3.out.below hbn)
        have hb := Lib.hid (below_step hb.out hbn)
        clear hbn
        have s0 := g2.out.c 0 _ rfl
        have s1 := g2.out.c 1 _ rfl
        have t0 := g3.out.c 0 _ rfl
        have t1 := g3.out.c 1 _ rfl
        go_wp2_with fail
        refine (ContainsI_any O d order s.mon _ (hI.out.below hb.out).rows hs).mono ?_
        rintro e w5 ⟨rfl, rfl⟩
        rw [hm.out]
        go_wp2_with fail
        go_ret
        exact ⟨by rw [hfin.out]; first | done | rfl, hb.out⟩
      · cases hh : Cal.hasM s.mon l
        · have hX : Hid (Cal.stopE p order l s x y = if Cal.isWorkE p.hols s.day = 0 then (if s.day < x then 22 else (if Cal.isWorkB p.hols s.day = true then (if y ≤ Cal.cntS s.day l then 16 else 0) else 28)) else Cal.isWorkE p.hols s.day) := by show _ = _; unfold Cal.stopE; rw [hm, hh]; rfl
          have hm := Lib.hid hm
          have hh := Lib.hid hh
          by_cases hE : Cal.isWorkE p.hols s.day = 0
          · have hX : Hid (Cal.stopE p order l s x y = (if s.day < x then 22 else (if Cal.isWorkB p.hols s.day = true then (if y ≤ Cal.cntS s.day l then 16 else 0) else 28))) := by show _ = _; rw [hX.out, if_pos hE]
            have hEz := Lib.hid hE
            clear hE
            have hqle : (Cal.cntS s.day l : Nat) ≤ 1000000 := by rw [hcn.out]; omega
            by_cases hx : s.day < x
            · have hfin : Hid (Cal.stopE p order l s x y = 22) := by show _ = _; rw [hX.out, if_pos hx]
              obtain ⟨B, hB⟩ : ∃ B, Hid (Cal.isWorkB p.hols s.day = B) := ⟨_, rfl⟩
              clear hX hqle
              have s0 := g2.out.c 0 _ rfl
              have s1 := g2.out.c 1 _ rfl
              have p11 := g1.out.c 11 _ rfl
              go_wp2_with fail
              refine (IsWorking_any A c p.hols s.day _ (hl.out.below hb.out) (hT.out.below hb.out)).mono ?_
              rintro e w4 ⟨rfl, hbn⟩
              rw [hEz.out, hB.out]
              clear s0 s1 p11
              have g1 := Lib.hid (g1.out.below hbn)
              have g2 := Lib.hid (g2.out.below hbn)
              have g3 := Lib.hid (g3.out.below hbn)
              have hb := Lib.hid (below_step hb.out hbn)
              clear hbn
              have s0 := g2.out.c 0 _ rfl
              have s1 := g2.out.c 1 _ rfl
              have t0 := g3.out.c 0 _ rfl
              have t1 := g3.out.c 1 _ rfl
              go_wp2_with fail
              refine (ContainsI_any O d order s.mon _ (hI.out.below hb.out).rows hs).mono ?_
              rintro e w5 ⟨rfl, rfl⟩
              rw [hm.out]
              go_wp2_with fail
              refine (ContainsS_any S f l s.mon s.day _ _ (hS.out.below hb.out) hsl g2.out).mono ?_
              rintro e w6 ⟨rfl, hbn⟩
              clear s0 s1 t0 t1
              have g1 := Lib.hid (g1.out.below hbn)
              have g2 := Lib.hid (g2.out.below hbn)
              have g3 := Lib.hid (g3.out.below hbn)
              have hb := Lib.hid (below_step hb.out hbn)
              clear hbn
              have s0 := g2.out.c 0 _ rfl
              have s1 := g2.out.c 1 _ rfl
              have t0 := g3.out.c 0 _ rfl
              have t1 := g3.out.c 1 _ rfl
              rw [hh.out]
              go_wp2_with fail
              go_ret
              exact ⟨by rw [hfin.out]; first | done | rfl, hb.out⟩
            · cases hB : Cal.isWorkB p.hols s.day
              · have hfin : Hid (Cal.stopE p order l s x y = 28) := by show _ = _; rw [hX.out, if_neg hx, if_neg (by rw [hB]; decide)]
                have hB := Lib.hid hB
                clear hX hqle
                have s0 := g2.out.c 0 _ rfl
                have s1 := g2.out.c 1 _ rfl
                have p11 := g1.out.c 11 _ rfl
                go_wp2_with fail
                refine (IsWorking_any A c p.hols s.day _ (hl.out.below hb.out) (hT.out.below hb.out)).mono ?_
                rintro e w4 ⟨rfl, hbn⟩
                rw [hEz.out, hB.out]
                clear s0 s1 p11
                have g1 := Lib.hid (g1.out.below hbn)
                have g2 := Lib.hid (g2.out.below hbn)
                have g3 := Lib.hid (g3.out.below hbn)
                have hb := Lib.hid (below_step hb.out hbn)
                clear hbn
                have s0 := g2.out.c 0 _ rfl
                have s1 := g2.out.c 1 _ rfl
                have t0 := g3.out.c 0 _ rfl
                have t1 := g3.out.c 1 _ rfl
                go_wp2_with fail
                refine (ContainsI_any O d order s.mon _ (hI.out.below hb.out).rows hs).mono ?_
                rintro e w5 ⟨rfl, rfl⟩
                rw [hm.out]
                go_wp2_with fail
                refine (ContainsS_any S f l s.mon s.day _ _ (hS.out.below hb.out) hsl g2.out).mono ?_
                rintro e w6 ⟨rfl, hbn⟩
                clear s0 s1 t0 t1
                have g1 := Lib.hid (g1.out.below hbn)
                have g2 := Lib.hid (g2.out.below hbn)
                have g3 := Lib.hid (g3.out.below hbn)
                have hb := Lib.hid (below_step hb.out hbn)
                clear hbn
                have s0 := g2.out.c 0 _ rfl
                have s1 := g2.out.c 1 _ rfl
                have t0 := g3.out.c 0 _ rfl
                have t1 := g3.out.c 1 _ rfl
                rw [hh.out]
                go_wp2_with fail
                go_ret
                exact ⟨by rw [hfin.out]; first | done | rfl, hb.out⟩
              · by_cases hy : y ≤ Cal.cntS s.day l
                · have hfin : Hid (Cal.stopE p order l s x y = 16) := by show _ = _; rw [hX.out, if_neg hx, if_pos hB, if_pos hy]
                  have hB := Lib.hid hB
                  rw [hcn.out] at hy
                  clear hX hqle
                  have s0 := g2.out.c 0 _ rfl
                  have s1 := g2.out.c 1 _ rfl
                  have p11 := g1.out.c 11 _ rfl
                  go_wp2_with fail
                  refine (IsWorking_any A c p.hols s.day _ (hl.out.below hb.out) (hT.out.below hb.out)).mono ?_
                  rintro e w4 ⟨rfl, hbn⟩
                  rw [hEz.out, hB.out]
                  clear s0 s1 p11
                  have g1 := Lib.hid (g1.out.below hbn)
                  have g2 := Lib.hid (g2.out.below hbn)
                  have g3 := Lib.hid (g3.out.below hbn)
                  have hb := Lib.hid (below_step hb.out hbn)
                  clear hbn
                  have s0 := g2.out.c 0 _ rfl
                  have s1 := g2.out.c 1 _ rfl
                  have t0 := g3.out.c 0 _ rfl
                  have t1 := g3.out.c 1 _ rfl
                  go_wp2_with fail
                  refine (ContainsI_any O d order s.mon _ (hI.out.below hb.out).rows hs).mono ?_
                  rintro e w5 ⟨rfl, rfl⟩
                  rw [hm.out]
                  go_wp2_with fail
                  refine (ContainsS_any S f l s.mon s.day _ _ (hS.out.below hb.out) hsl g2.out).mono ?_
                  rintro e w6 ⟨rfl, hbn⟩
                  clear s0 s1 t0 t1
                  have g1 := Lib.hid (g1.out.below hbn)
                  have g2 := Lib.hid (g2.out.below hbn)
                  have g3 := Lib.hid (g3.out.below hbn)
                  have hb := Lib.hid (below_step hb.out hbn)
                  clear hbn
                  have s0 := g2.out.c 0 _ rfl
                  have s1 := g2.out.c 1 _ rfl
                  have t0 := g3.out.c 0 _ rfl
                  have t1 := g3.out.c 1 _ rfl
                  rw [hh.out]
                  go_wp2_with fail
                  go_ret
                  exact ⟨by rw [hfin.out]; first | done | rfl, hb.out⟩
                · have hfin : Hid (Cal.stopE p order l s x y = 0) := by show _ = _; rw [hX.out, if_neg hx, if_pos hB, if_neg hy]
                  have hB := Lib.hid hB
                  rw [hcn.out] at hy
                  clear hX hqle
                  have s0 := g2.out.c 0 _ rfl
                  have s1 := g2.out.c 1 _ rfl
                  have p11 := g1.out.c 11 _ rfl
                  go_wp2_with fail
                  refine (IsWorking_any A c p.hols s.day _ (hl.out.below hb.out) (hT.out.below hb.out)).mono ?_
                  rintro e w4 ⟨rfl, hbn⟩
                  rw [hEz.out, hB.out]
                  clear s0 s1 p11
                  have g1 := Lib.hid (g1.out.below hbn)
                  have g2 := Lib.hid (g2.out.below hbn)
                  have g3 := Lib.hid (g3.out.below hbn)
                  have hb := Lib.hid (below_step hb.out hbn)
                  clear hbn
                  have s0 := g2.out.c 0 _ rfl
                  have s1 := g2.out.c 1 _ rfl
                  have t0 := g3.out.c 0 _ rfl
                  have t1 := g3.out.c 1 _ rfl
                  go_wp2_with fail
                  refine (ContainsI_any O d order s.mon _ (hI.out.below hb.out).rows hs).mono ?_
                  rintro e w5 ⟨rfl, rfl⟩
                  rw [hm.out]
                  go_wp2_with fail
                  refine (ContainsS_any S f l s.mon s.day _ _ (hS.out.below hb.out) hsl g2.out).mono ?_
                  rintro e w6 ⟨rfl, hbn⟩
                  clear s0 s1 t0 t1
                  have g1 := Lib.hid (g1.out.below hbn)
                  have g2 := Lib.hid (g2.out.below hbn)
                  have g3 := Lib.hid (g3.out.below hbn)
                  have hb := Lib.hid (below_step hb.out hbn)
                  clear hbn
                  have s0 := g2.out.c 0 _ rfl
                  have s1 := g2.out.c 1 _ rfl
                  have t0 := g3.out.c 0 _ rfl
                  have t1 := g3.out.c 1 _ rfl
                  rw [hh.out]
                  go_wp2_with fail
                  go_ret
                  exact ⟨by rw [hfin.out]; first | done | rfl, hb.out⟩
          · have hfin : Hid (Cal.stopE p order l s x y = Cal.isWorkE p.hols s.day) := by show _ = _; rw [hX.out, if_neg hE]
            have hE1 : (Cal.isWorkE p.hols s.day != 0) = true := by simpa using hE
            clear hE hX
            have s0 := g2.out.c 0 _ rfl
            have s1 := g2.out.c 1 _ rfl
            have p11 := g1.out.c 11 _ rfl
            go_wp2_with fail
            refine (IsWorking_any A c p.hols s.day _ (hl.out.below hb.out) (hT.out.below hb.out)).mono ?_
            rintro e w4 ⟨rfl, hbn⟩
            clear s0 s1 p11
            have g1 := Lib.hid (g1.out.below hbn)
            have g2 := Lib.hid (g2.out.below hbn)
            have g3 := Lib.hid (g3.out.below hbn)
            have hb := Lib.hid (below_step hb.out hbn)
            clear hbn
            have s0 := g2.out.c 0 _ rfl
            have s1 := g2.out.c 1 _ rfl
            have t0 := g3.out.c 0 _ rfl
            have t1 := g3.out.c 1 _ rfl
            go_wp2_with fail
            refine (ContainsI_any O d order s.mon _ (hI.out.below hb.out).rows hs).mono ?_
            rintro e w5 ⟨rfl, rfl⟩
            rw [hm.out]
            go_wp2_with fail
            refine (ContainsS_any S f l s.mon s.day _ _ (hS.out.below hb.out) hsl g2.out).mono ?_
            rintro e w6 ⟨rfl, hbn⟩
            clear s0 s1 t0 t1
            have g1 := Lib.hid (g1.out.below hbn)
            have g2 := Lib.hid (g2.out.below hbn)
            have g3 := Lib.hid (g3.out.below hbn)
            have hb := Lib.hid (below_step hb.out hbn)
            clear hbn
            have s0 := g2.out.c 0 _ rfl
            have s1 := g2.out.c 1 _ rfl
            have t0 := g3.out.c 0 _ rfl
            have t1 := g3.out.c 1 _ rfl
            rw [hh.out]
            go_wp2_with fail
            go_ret
            exact ⟨by rw [hfin.out]; first | done | rfl, hb.out⟩
        · have hfin : Hid (Cal.stopE p order l s x y = 5) := by show _ = _; unfold Cal.stopE; rw [hm, hh]; rfl
          have hm := Lib.hid hm
          have hh := Lib.hid hh
          have s0 := g2.out.c 0 _ rfl
          have s1 := g2.out.c 1 _ rfl
          have p11 := g1.out.c 11 _ rfl
          go_wp2_with fail
          refine (IsWorking_any A c p.hols s.day _ (hl.out.below hb.out) (hT.out.below hb.out)).mono ?_
          rintro e w4 ⟨rfl, hbn⟩
          clear s0 s1 p11
          have g1 := Lib.hid (g1.out.below hbn)
          have g2 := Lib.hid (g2.out.below hbn)
          have g3 := Lib.hid (g3.out.below hbn)
          have hb := Lib.hid (below_step hb.out hbn)
          clear hbn
          have s0 := g2.out.c 0 _ rfl
          have s1 := g2.out.c 1 _ rfl
          have t0 := g3.out.c 0 _ rfl
          have t1 := g3.out.c 1 _ rfl
          go_wp2_with fail
          refine (ContainsI_any O d order s.mon _ (hI.out.below hb.out).rows hs).mono ?_
          rintro e w5 ⟨rfl, rfl⟩
          rw [hm.out]
          go_wp2_with fail
          refine (ContainsS_any S f l s.mon s.day _ _ (hS.out.below hb.out) hsl g2.out).mono ?_
          rintro e w6 ⟨rfl, hbn⟩
          clear s0 s1 t0 t1
          have g1 := Lib.hid (g1.out.below hbn)
          have g2 := Lib.hid (g2.out.below hbn)
          have g3 := Lib.hid (g3.out.below hbn)
          have hb := Lib.hid (below_step hb.out hbn)
          clear hbn
          have s0 := g2.out.c 0 _ rfl
          have s1 := g2.out.c 1 _ rfl
          have t0 := g3.out.c 0 _ rfl
          have t1 := g3.out.c 1 _ rfl
          rw [hh.out]
          go_wp2_with fail
          go_ret
          exact ⟨by rw [hfin.out]; first | done | rfl, hb.out⟩
end Go.Proofs.YtbegbajlagcbdaaGreatDoor
