/- Chapter 8 and what it rests on: definitions and walks, part 18. -/
import Derived.Test.YtbegbajlagcbdaaGreatDoorC12
import Derived.Test.YtbegbajlagcbdaaGreatDoorC17
namespace Go.Proofs.YtbegbajlagcbdaaGreatDoor
open Go Go.RowKit
def noneTo (l : List Hol) (nm : ByteArray) (q : Nat) : Prop := ∀ (j : Nat) p, j < q → l[j]? = some p → (p.name.toList == nm.toList) = false
theorem noneTo_all {l : List Hol} {nm : ByteArray} {k : Nat} (h : noneTo l nm k) : hasName (l.take k) nm = false := by
  unfold hasName
  rw [List.any_eq_false]
  intro p hp
  obtain ⟨j, hj, rfl⟩ := List.getElem_of_mem hp
  have hjl : j < l.length ∧ j < k := by rw [List.length_take] at hj; omega
  have := h j l[j] hjl.2 (List.getElem?_eq_getElem hjl.1)
  rw [List.getElem_take]; simp [this]
theorem hasName_of {l : List Hol} {nm : ByteArray} {k q : Nat} {p : Hol} (hq : q < k) (h : l[q]? = some p) (he : (p.name.toList == nm.toList) = true) : hasName (l.take k) nm = true := by
  unfold hasName
  rw [List.any_eq_true]
  exact ⟨p, List.mem_of_getElem? (i := q) (by rw [List.getElem?_take, if_pos hq, h]), he⟩
set_option maxRecDepth 100000 in
set_option maxHeartbeats 2000000 in
theorem CheckHolidaysR_any (A : Option Addr) (c : Nat) (l : List Hol) (w : World) (hl : Hols w A l) :
    Calls Tryz.prog 72 #[.slice A l.length c] w fun e w' => e = .returned (.int .i64 (Cal.holsErr l)) ∧ Below w.heap.size w w' := by
  have hsz := hl.size
  by_cases hbig : 40 < l.length
  · have hfin : Hid (Cal.holsErr l = 8) := by show _ = _; unfold Cal.holsErr; rw [if_pos hbig]
    go_enter Tryz.func72, Tryz.ntmps72
    go_wp2
    go_ret
    exact ⟨ret_int hfin.out.symm, Below.refl _ _⟩
  · have hfin : Hid (Cal.holsErr l = Cal.holsErrFrom (l.take 0) (l.drop 0)) := by show _ = _; unfold Cal.holsErr; rw [if_neg hbig]; rfl
    have hl' := Lib.hid hl
    clear hl
    go_enter Tryz.func72, Tryz.ntmps72
    go_wp2
    go_loopw [3] (fun i wr => ∃ k : Nat, k ≤ l.length ∧ i = .int .i64 k ∧ Hid (Cal.holsErr l = Cal.holsErrFrom (l.take k) (l.drop k)) ∧ Hid (Below w.heap.size w wr)) (fun i _ => l.length - (intOf i).toNat)
    case atStart => exact ⟨0, Nat.zero_le _, rfl, hfin, Below.refl _ _⟩
    case round =>
      obtain ⟨k, hk, rfl, hinv, hb⟩ := hrel
      clear hfin
      obtain ⟨wo, rfl⟩ : ∃ wo : World, wo = wr := ⟨_, rfl⟩
      by_cases hlt : k < l.length
      · have hk' : l[k]? = some l[k] := List.getElem?_eq_getElem hlt
        have hkz := Lib.hid hk'
        have hd := Lib.hid (List.drop_eq_getElem_cons hlt)
        have htk : Hid (l.take (k + 1) = l.take k ++ [l[k]]) := by show _ = _; rw [List.take_succ_eq_append_getElem hlt]
        have hnm := hl'.out.names k _ hk'
        have hat := Lib.hid (fun (q : Nat) p (h : l[q]? = some p) => (hl'.out.below hb.out).at_ h)
        obtain ⟨b, o, rfl, hbl, c0, c1, c2, c3, c4⟩ := hat.out k _ hk'
        clear hk'
        generalize l[k] = p at *
        have hbs := hb.out.size
        cases hn : nameB p.name
        · have hfin : Hid (Cal.holsErr l = 4) := by show _ = _; rw [hinv.out, hd.out, Cal.holsErrFrom_cons, hn]; rfl
          go_wp2_with (first | (go_at_call 90; refine (IsName_any _ _ hnm).mono ?_; rintro e w' ⟨rfl, rfl⟩))
          go_ret
          exact ⟨ret_int hfin.out.symm, hb.out⟩
        · go_wp2_with (first | (go_at_call 90; refine (IsName_any _ _ hnm).mono ?_; rintro e w' ⟨rfl, rfl⟩))
          have hnz := Lib.hid hn
          clear hn
          have hs0 : Hid (noneTo l p.name 0) := fun j q h _ => by omega
          go_loopw [4] (fun i wr => ∃ (q n : Nat), q ≤ k ∧ i = .int .i64 q ∧ Hid (noneTo l p.name q) ∧ wr = wo.drewN n) (fun i _ => k - (intOf i).toNat)
          case atStart => exact ⟨0, 0, Nat.zero_le _, rfl, hs0, rfl⟩
          case round =>
            obtain ⟨q, n, hq, rfl, hnone, rfl⟩ := hrel
            clear hs0
            by_cases hqk : q < k
            · have hq' : l[q]? = some l[q] := List.getElem?_eq_getElem (by omega)
              obtain ⟨b', o', hA', hbl', d0, d1, d2, d3, d4⟩ := hat.out q _ hq'
              generalize l[q] = pq at *
              simp only [Option.some.injEq, Addr.mk.injEq, and_true] at hA'
              obtain ⟨rfl, rfl⟩ := hA'
              clear c1 c2 c3 c4 d1 d2 d3 d4
              cases hm : pq.name.toList == p.name.toList
              · have hnx : Hid (noneTo l p.name (q + 1)) := fun j r hj hr => by
                  rcases Nat.lt_or_ge j q with h | h
                  · exact hnone.out j r h hr
                  · obtain rfl : j = q := by omega
                    rw [hq'] at hr; cases hr; exact hm
                clear hq'
                go_wp2_with fail
                go_quiet (fail)
                go_wp2_with fail
                go_roundw
                case rel => exact ⟨q + 1, _, by omega, by go_num, hnx, rfl⟩
                case measure => simp [intOf]; omega
              · have hfin : Hid (Cal.holsErr l = 5) := by show _ = _; rw [hinv.out, hd.out, Cal.holsErrFrom_cons, hnz.out, hasName_of hqk hq' hm]; rfl
                clear hq'
                go_wp2_with fail
                go_quiet (fail)
                go_wp2_with fail
                go_ret
                exact ⟨ret_int hfin.out.symm, below_drewN (below_drewN hb.out _) _⟩
            · obtain rfl : q = k := by omega
              have hno := Lib.hid (noneTo_all hnone.out)
              have hb' := Lib.hid (below_drewN hb.out n)
              by_cases hp0 : Cal.holErrOf p = 0
              · have hp1 : (Cal.holErr p.kind p.month p.day p.weekday != 0) = false := by simpa [Cal.holErrOf] using hp0
                have hnx : Hid (Cal.holsErr l = Cal.holsErrFrom (l.take (q + 1)) (l.drop (q + 1))) := by show _ = _; rw [hinv.out, hd.out, Cal.holsErrFrom_cons, hnz.out, hno.out, htk.out]; simp [hp0]
                clear hp0
                go_wp2_with fail
                refine (HolidayErr_any _ _ _ _ _ _).mono ?_
                rintro e w1 ⟨rfl, hb1⟩
                have hbw := Lib.hid (below_step hb'.out hb1)
                clear hb1
                go_wp2_with fail
                go_roundw
                case rel => exact ⟨q + 1, by omega, by go_num, hnx, hbw⟩
                case measure => simp [intOf]; omega
              · have hp1 : (Cal.holErr p.kind p.month p.day p.weekday != 0) = true := by simpa [Cal.holErrOf] using hp0
                have hfin : Hid (Cal.holsErr l = Cal.holErr p.kind p.month p.day p.weekday) := by show _ = _; rw [hinv.out, hd.out, Cal.holsErrFrom_cons, hnz.out, hno.out]; simp [hp0]; rfl
                clear hp0
                go_wp2_with fail
                refine (HolidayErr_any _ _ _ _ _ _).mono ?_
                rintro e w1 ⟨rfl, hb1⟩
                have hbw := Lib.hid (below_step hb'.out hb1)
                clear hb1
                go_wp2_with fail
                go_ret
                exact ⟨ret_int hfin.out.symm, hbw.out⟩
      · obtain rfl : k = l.length := by omega
        have hfin : Hid (Cal.holsErr l = 0) := by show _ = _; rw [hinv.out, List.drop_length]; rfl
        clear hinv
        go_wp2
        go_ret
        exact ⟨ret_int hfin.out.symm, hb.out⟩
/-- A bool that bounds the list where it is true. -/
def CalOut (l : List Hol) (e : Ending) : Prop := ∃ b : Bool, e = .returned (.bool b) ∧ (b = true → l.length ≤ 60)
theorem Calendar_any (A : Option Addr) (c : Nat) (l : List Hol) (w : World) (hl : Hols w A l) :
    Calls Tryz.prog 64 #[.slice A l.length c] w fun e w' => CalOut l e ∧ w = w' := by
  have hsz := hl.size
  by_cases h1 : l.length ≤ 8 ∨ (40 < l.length ∧ l.length ≤ 60)
  · have hl' := Lib.hid hl
    have h60 : l.length ≤ 60 := by omega
    clear hl
    rcases h1 with h1 | ⟨h1, h2⟩
    all_goals
      go_enter Tryz.func64, Tryz.ntmps64
      go_wp2
      go_loop [3] (fun i => ∃ k : Nat, k ≤ l.length ∧ i = .int .i64 k) (fun i => l.length - (intOf i).toNat)
      case atStart => exact ⟨0, Nat.zero_le _, rfl⟩
      case round =>
        obtain ⟨k, hk, rfl⟩ := hrel
        by_cases hlt : k < l.length
        · have hk' : l[k]? = some l[k] := List.getElem?_eq_getElem hlt
          obtain ⟨b, o, rfl, hbl, c0, c1, c2, c3, c4⟩ := hl'.out.at_ hk'
          have hnm := hl'.out.names k _ hk'
          unfold maxLen at hnm
          clear c1 c2 c3 c4 hk'
          generalize l[k] = p at *
          by_cases hs : p.name.size ≤ 30
          · go_wp2
            go_round
            case rel => exact ⟨k + 1, by omega, by go_num⟩
            case measure => simp [intOf]; omega
          · go_wp2
            go_ret
            exact ⟨⟨false, rfl, fun h => by cases h⟩, rfl⟩
        · obtain rfl : k = l.length := by omega
          go_wp2
          go_ret
          exact ⟨⟨true, rfl, fun _ => h60⟩, rfl⟩
  · have h2 : 8 < l.length := by omega
    have h3 : l.length ≤ 40 ∨ 60 < l.length := by omega
    clear h1 hl
    rcases h3 with h3 | h3
    · go_enter Tryz.func64, Tryz.ntmps64
      go_wp2
      go_ret
      exact ⟨⟨false, rfl, fun h => by cases h⟩, rfl⟩
    · go_enter Tryz.func64, Tryz.ntmps64
      go_wp2
      go_ret
      exact ⟨⟨false, rfl, fun h => by cases h⟩, rfl⟩
end Go.Proofs.YtbegbajlagcbdaaGreatDoor
namespace Go.Proofs.YtbegbajlagcbdaaGreatDoor
open Go Go.RowKit
structure Per where
  m : Int
  d : Int
  k : Bool
structure Proc where
  runs : Per
  obj : Per
  wait : Per
  exts : Int
  longest : Int
  hols : List Hol
structure NAct where
  day : Int
  kind : Int
  days : Int
/-- A notice behind some acts. -/
structure NSt where
  phase : Int
  last : Int
  deadline : Int
  object : Int
  objected : Int
  extended : Int
def Per.err (x : Per) : Int := Cal.perE x.m x.d x.k
/-- The error of a procedure. -/
def Cal.procErr (p : Proc) : Int :=
  if p.runs.err = 0 then (if p.obj.err = 0 then (if p.wait.err = 0 then
    (if 0 ≤ p.exts ∧ p.exts ≤ 12 ∧ 0 ≤ p.longest ∧ p.longest ≤ 3660 then Cal.holsErr p.hols else 2) else p.wait.err) else p.obj.err) else p.runs.err
theorem Cal.procErr_ok {p : Proc} (h : Cal.procErr p = 0) : p.runs.err = 0 ∧ p.obj.err = 0 ∧ p.wait.err = 0 ∧ 0 ≤ p.exts ∧ p.exts ≤ 12 ∧ 0 ≤ p.longest ∧ p.longest ≤ 3660 ∧ Cal.holsErr p.hols = 0 := by
  unfold Cal.procErr at h
  split at h
  · split at h
    · split at h
      · split at h
        · rename_i h1 h2 h3 h4; exact ⟨h1, h2, h3, h4.1, h4.2.1, h4.2.2.1, h4.2.2.2, h⟩
        · omega
      · rename_i h1; exact absurd h h1
    · rename_i h1; exact absurd h h1
  · rename_i h1; exact absurd h h1
/-- The error of an act alone. -/
def Cal.formErr (p : Proc) (a : NAct) : Int :=
  if 0 ≤ a.day ∧ a.day ≤ 200000 then (if 0 ≤ a.kind ∧ a.kind ≤ 7 then (if a.kind = 6 then (if 1 ≤ a.days ∧ a.days ≤ p.longest then 0 else 2) else if a.days = 0 then 0 else 3) else 15) else 2
/-- Whether a kind of act is accepted in a phase. -/
def Cal.accB (phase kind : Int) : Bool :=
  if kind = 0 then decide (phase = 0) else if kind = 2 then decide (phase = 2) else if kind = 4 ∨ kind = 5 then decide (phase = 3)
  else if kind = 7 then decide (phase = 1 ∨ phase = 2 ∨ phase = 3) else decide (phase = 1)
/-- The error of an act, but for the days that it leads to. -/
def Cal.mayErr (p : Proc) (s : NSt) (a : NAct) : Int :=
  if Cal.formErr p a = 0 then
    (if a.day < s.last then 9 else if Cal.accB s.phase a.kind = true then
      (if s.phase = 1 ∧ s.deadline < a.day then 21 else if a.kind = 3 ∧ min s.object s.deadline < a.day then 21 else if a.kind = 6 ∧ p.exts ≤ s.extended then 16 else 0)
     else 28)
  else Cal.formErr p a
/-- The state behind an act that is accepted, and the error. -/
def Cal.doneS (p : Proc) (s : NSt) (a : NAct) : NSt × Int :=
  if a.kind = 0 ∨ a.kind = 2 then
    ({ s with last := a.day, phase := 1, deadline := (Cal.dlS p.hols a.day p.runs.m p.runs.d p.runs.k).1, object := (Cal.dlS p.hols a.day p.obj.m p.obj.d p.obj.k).1 },
     if (Cal.dlS p.hols a.day p.runs.m p.runs.d p.runs.k).2 = 0 ∧ (Cal.dlS p.hols a.day p.obj.m p.obj.d p.obj.k).2 = 0 then 0 else 2)
  else if a.kind = 1 then ({ s with last := a.day, phase := 2 }, 0)
  else if a.kind = 3 then ({ s with last := a.day, phase := 3, objected := a.day }, 0)
  else if a.kind = 4 then ({ s with last := a.day, phase := 1, deadline := (Cal.addWorkingS p.hols (s.deadline + (a.day - s.objected)) 0).1 }, (Cal.addWorkingS p.hols (s.deadline + (a.day - s.objected)) 0).2)
  else if a.kind = 6 then ({ s with last := a.day, extended := s.extended + 1, deadline := (Cal.addWorkingS p.hols (s.deadline + a.days) 0).1 }, (Cal.addWorkingS p.hols (s.deadline + a.days) 0).2)
  else if a.kind = 5 then ({ s with last := a.day, phase := 5 }, 0)
  else ({ s with last := a.day, phase := 4 }, 0)
def Cal.actS (p : Proc) (s : NSt) (a : NAct) : NSt × Int := if Cal.mayErr p s a = 0 then Cal.doneS p s a else (s, Cal.mayErr p s a)
def Cal.openSt (opened : Int) : NSt := ⟨0, opened, 0, 0, 0, 0⟩
/-- Behind acts: the state, and the number and the error of the first one that is refused. -/
def Cal.runS (p : Proc) : List NAct → NSt → Nat → NSt × Nat × Int
  | [], s, _ => (s, 0, 0)
  | a :: l, s, i => if (Cal.actS p s a).2 = 0 then Cal.runS p l (Cal.actS p s a).1 (i + 1) else (s, i, (Cal.actS p s a).2)
/-- The state behind the acts up to a day. -/
def Cal.toldS (p : Proc) (day : Int) : List NAct → NSt → NSt → NSt
  | [], _, t => t
  | a :: l, s, t => Cal.toldS p day l (Cal.actS p s a).1 (if a.day ≤ day then (Cal.actS p s a).1 else t)
/-- The state behind the acts up to a day, as the reference counts them. -/
def Cal.atS (p : Proc) (day : Int) : List NAct → NSt → NSt
  | [], s => s
  | a :: l, s => if a.day ≤ day then Cal.atS p day l (Cal.actS p s a).1 else s
theorem Cal.runS_cons {p : Proc} {a : NAct} {l : List NAct} {s : NSt} {i : Nat} : (Cal.runS p (a :: l) s i).2.2 = 0 ↔ (Cal.actS p s a).2 = 0 ∧ (Cal.runS p l (Cal.actS p s a).1 (i + 1)).2.2 = 0 := by
  conv => lhs; unfold Cal.runS
  by_cases h : (Cal.actS p s a).2 = 0
  · rw [if_pos h]; exact ⟨fun h2 => ⟨h, h2⟩, fun h2 => h2.2⟩
  · rw [if_neg h]; exact ⟨fun h2 => absurd h2 h, fun h2 => absurd h2.1 h⟩
theorem Cal.mayErr_ok {p : Proc} {s : NSt} {a : NAct} (h : Cal.mayErr p s a = 0) : Cal.formErr p a = 0 ∧ s.last ≤ a.day ∧ Cal.accB s.phase a.kind = true ∧ ¬ (s.phase = 1 ∧ s.deadline < a.day) ∧ ¬ (a.kind = 3 ∧ min s.object s.deadline < a.day) ∧ ¬ (a.kind = 6 ∧ p.exts ≤ s.extended) := by
  unfold Cal.mayErr at h
  split at h
  · rename_i h0
    split at h
    · omega
    · rename_i h1
      split at h
      · rename_i h2
        split at h
        · omega
        · rename_i h3
          split at h
          · omega
          · rename_i h4
            split at h
            · omega
            · rename_i h5; exact ⟨h0, by omega, h2, h3, h4, h5⟩
      · omega
  · rename_i h0; exact absurd h h0
theorem Cal.formErr_ok {p : Proc} {a : NAct} (h : Cal.formErr p a = 0) : 0 ≤ a.day ∧ a.day ≤ 200000 ∧ 0 ≤ a.kind ∧ a.kind ≤ 7 ∧ (a.kind = 6 → 1 ≤ a.days ∧ a.days ≤ p.longest) ∧ (a.kind ≠ 6 → a.days = 0) := by
  unfold Cal.formErr at h
  split at h
  · rename_i h0
    split at h
    · rename_i h1
      split at h
      · rename_i h2
        split at h
        · rename_i h3; exact ⟨h0.1, h0.2, h1.1, h1.2, fun _ => h3, fun h => absurd h2 h⟩
        · omega
      · rename_i h2
        split at h
        · rename_i h3; exact ⟨h0.1, h0.2, h1.1, h1.2, fun h => absurd h h2, fun _ => h3⟩
        · omega
    · omega
  · omega
theorem Cal.doneS_last (p : Proc) (s : NSt) (a : NAct) : (Cal.doneS p s a).1.last = a.day := by
  unfold Cal.doneS
  repeat (first | rfl | split)
theorem Cal.actS_ok {p : Proc} {s : NSt} {a : NAct} (h : (Cal.actS p s a).2 = 0) : Cal.mayErr p s a = 0 ∧ Cal.actS p s a = Cal.doneS p s a := by
  unfold Cal.actS at h ⊢
  by_cases h0 : Cal.mayErr p s a = 0
  · exact ⟨h0, if_pos h0⟩
  · rw [if_neg h0] at h; exact absurd h h0
theorem Cal.actS_last {p : Proc} {s : NSt} {a : NAct} (h : (Cal.actS p s a).2 = 0) : (Cal.actS p s a).1.last = a.day ∧ s.last ≤ a.day := by
  obtain ⟨h1, h2⟩ := Cal.actS_ok h
  exact ⟨by rw [h2, Cal.doneS_last], (Cal.mayErr_ok h1).2.1⟩
theorem Cal.told_late {p : Proc} {day : Int} : ∀ {l : List NAct} {s t : NSt} {i : Nat}, (Cal.runS p l s i).2.2 = 0 → day < s.last → Cal.toldS p day l s t = t
  | [], _, _, _, _, _ => rfl
  | a :: l, s, t, i, h, hd => by
    obtain ⟨h1, h2⟩ := Cal.runS_cons.1 h
    have hl := Cal.actS_last h1
    unfold Cal.toldS
    rw [if_neg (by omega)]
    exact Cal.told_late h2 (by omega)
theorem Cal.told_at {p : Proc} {day : Int} : ∀ {l : List NAct} {s : NSt} {i : Nat}, (Cal.runS p l s i).2.2 = 0 → Cal.toldS p day l s s = Cal.atS p day l s
  | [], _, _, _ => rfl
  | a :: l, s, i, h => by
    obtain ⟨h1, h2⟩ := Cal.runS_cons.1 h
    have hl := Cal.actS_last h1
    unfold Cal.toldS Cal.atS
    by_cases hd : a.day ≤ day
    · rw [if_pos hd, if_pos hd]; exact Cal.told_at h2
    · rw [if_neg hd, if_neg hd]; exact Cal.told_late h2 (by omega)
/-- A notice. -/
structure Note where
  name : ByteArray
  opened : Int
  acts : List NAct
/-- The number of the act that is wrong, and the error, of a notice alone. -/
def Cal.noteS (p : Proc) (n : Note) : Int × Int :=
  if nameB n.name = true then (if 0 ≤ n.opened ∧ n.opened ≤ 200000 then (if n.acts.length ≤ 40 then
    (((Cal.runS p n.acts (Cal.openSt n.opened) 0).2.1 : Int), (Cal.runS p n.acts (Cal.openSt n.opened) 0).2.2) else (0, 8)) else (0, 2)) else (0, 4)
/-- The same of a procedure and a notice. -/
def Cal.checkS (p : Proc) (n : Note) : Int × Int := if Cal.procErr p = 0 then Cal.noteS p n else (0, Cal.procErr p)
/-- The error of asking on a day. -/
def Cal.onE (p : Proc) (n : Note) (day : Int) : Int :=
  if (Cal.checkS p n).2 = 0 then (if 0 ≤ day ∧ day ≤ 200000 then (if day < n.opened then 22 else 0) else 2) else (Cal.checkS p n).2
def Cal.zeroSt : NSt := ⟨0, 0, 0, 0, 0, 0⟩
def Cal.stAt (p : Proc) (n : Note) (day : Int) : NSt := Cal.atS p day n.acts (Cal.openSt n.opened)
def Cal.phaseS (p : Proc) (n : Note) (day : Int) : Int × Int :=
  if Cal.onE p n day = 0 then (if (Cal.stAt p n day).phase = 1 ∧ (Cal.stAt p n day).deadline < day then (6, 0) else ((Cal.stAt p n day).phase, 0)) else (0, Cal.onE p n day)
def Cal.dlAtS (p : Proc) (n : Note) (day : Int) : Int × Int :=
  if Cal.onE p n day = 0 then (if (Cal.stAt p n day).phase = 1 then ((Cal.stAt p n day).deadline, 0) else (0, 12)) else (0, Cal.onE p n day)
def Cal.objS (p : Proc) (n : Note) (day : Int) : Int × Int :=
  if Cal.onE p n day = 0 then (if (Cal.stAt p n day).phase = 1 then (min (Cal.stAt p n day).object (Cal.stAt p n day).deadline, 0) else (0, 12)) else (0, Cal.onE p n day)
/-- The day from which a notice may be acted on, and the error. -/
def Cal.expS (p : Proc) (n : Note) : Int × Int :=
  if (Cal.checkS p n).2 = 0 then (if (Cal.stAt p n 200000).phase = 1 then
    (if (Cal.dlS p.hols (Cal.stAt p n 200000).deadline p.wait.m p.wait.d p.wait.k).2 = 0 ∧ (Cal.dlS p.hols (Cal.stAt p n 200000).deadline p.wait.m p.wait.d p.wait.k).1 < 200000
     then ((Cal.dlS p.hols (Cal.stAt p n 200000).deadline p.wait.m p.wait.d p.wait.k).1 + 1, 0) else (0, 2)) else (0, 28)) else (0, (Cal.checkS p n).2)
/-! Bounds. -/
theorem Cal.addFrom_day {l : List Hol} {step : Int} : ∀ (f : Nat) (d left x : Int), Cal.addFrom l step f d left = some x → 0 ≤ x ∧ x ≤ 200000
  | 0, _, _, _, h => by cases h
  | f + 1, d, left, x, h => by
    unfold Cal.addFrom at h
    split at h
    · rename_i hd
      split at h
      · split at h
        · cases h; exact ⟨hd.1, hd.2⟩
        · exact Cal.addFrom_day f _ _ _ h
      · exact Cal.addFrom_day f _ _ _ h
    · cases h
theorem Cal.addW_day {l : List Hol} {day n x : Int} (h : Cal.addW l day n = some x) : 0 ≤ x ∧ x ≤ 200000 := by
  unfold Cal.addW at h
  split at h
  · exact Cal.addFrom_day _ _ _ _ h
  · split at h
    · exact Cal.addFrom_day _ _ _ _ h
    · exact Cal.addFrom_day _ _ _ _ h
theorem Cal.dlFrom_day {l : List Hol} {day m d x : Int} {k : Bool} (h : Cal.dlFrom l day m d k = some x) : 0 ≤ x ∧ x ≤ 200000 := by
  unfold Cal.dlFrom at h
  split at h
  · split at h
    · exact Cal.addW_day h
    · split at h
      · exact Cal.addW_day h
      · cases h
  · cases h
theorem Cal.dlS_day (l : List Hol) (day m d : Int) (k : Bool) : 0 ≤ (Cal.dlS l day m d k).1 ∧ (Cal.dlS l day m d k).1 ≤ 200000 := by
  unfold Cal.dlS
  split
  · split
    · split
      · split
        · rename_i h; exact Cal.dlFrom_day h
        · simp
      · simp
    · simp
  · simp
theorem Cal.addWorkingS_day (l : List Hol) (day n : Int) : 0 ≤ (Cal.addWorkingS l day n).1 ∧ (Cal.addWorkingS l day n).1 ≤ 200000 := by
  unfold Cal.addWorkingS
  split
  · split
    · split
      · rename_i h; exact Cal.addW_day h
      · simp
    · simp
  · simp
/-- What a state keeps. -/
structure StOk (s : NSt) : Prop where
  p0 : 0 ≤ s.phase
  p1 : s.phase ≤ 6
  l0 : 0 ≤ s.last
  l1 : s.last ≤ 200000
  d0 : 0 ≤ s.deadline
  d1 : s.deadline ≤ 200000
  o0 : 0 ≤ s.object
  o1 : s.object ≤ 200000
  j0 : 0 ≤ s.objected
  j1 : s.objected ≤ 200000
  x0 : 0 ≤ s.extended
  x1 : s.extended ≤ 12
theorem StOk.openSt {d : Int} (h0 : 0 ≤ d) (h1 : d ≤ 200000) : StOk (Cal.openSt d) := ⟨by simp [Cal.openSt], by simp [Cal.openSt], h0, h1, by simp [Cal.openSt], by simp [Cal.openSt], by simp [Cal.openSt], by simp [Cal.openSt], by simp [Cal.openSt], by simp [Cal.openSt], by simp [Cal.openSt], by simp [Cal.openSt]⟩
theorem StOk.act {p : Proc} {s : NSt} {a : NAct} (hs : StOk s) (he : p.exts ≤ 12) (h : (Cal.actS p s a).2 = 0) : StOk (Cal.actS p s a).1 := by
  obtain ⟨h1, h2⟩ := Cal.actS_ok h
  obtain ⟨hf, _, _, _, _, hx⟩ := Cal.mayErr_ok h1
  obtain ⟨a0, a1, k0, k1, _, _⟩ := Cal.formErr_ok hf
  rw [h2]
  have q1 := Cal.dlS_day p.hols a.day p.runs.m p.runs.d p.runs.k
  have q2 := Cal.dlS_day p.hols a.day p.obj.m p.obj.d p.obj.k
  have q3 := Cal.addWorkingS_day p.hols (s.deadline + (a.day - s.objected)) 0
  have q4 := Cal.addWorkingS_day p.hols (s.deadline + a.days) 0
  obtain ⟨p0, p1, l0, l1, d0, d1, o0, o1, j0, j1, x0, x1⟩ := hs
  unfold Cal.doneS
  split
  · exact ⟨by simp, by simp, a0, a1, q1.1, q1.2, q2.1, q2.2, j0, j1, x0, x1⟩
  · split
    · exact ⟨by simp, by simp, a0, a1, d0, d1, o0, o1, j0, j1, x0, x1⟩
    · split
      · exact ⟨by simp, by simp, a0, a1, d0, d1, o0, o1, a0, a1, x0, x1⟩
      · split
        · exact ⟨by simp, by simp, a0, a1, q3.1, q3.2, o0, o1, j0, j1, x0, x1⟩
        · split
          · rename_i hk
            have : s.extended < p.exts := by
              rcases Int.lt_or_le s.extended p.exts with h | h
              · exact h
              · exact absurd ⟨hk, h⟩ hx
            exact ⟨p0, p1, a0, a1, q4.1, q4.2, o0, o1, j0, j1, by show 0 ≤ s.extended + 1; omega, by show s.extended + 1 ≤ 12; omega⟩
          · split
            · exact ⟨by simp, by simp, a0, a1, d0, d1, o0, o1, j0, j1, x0, x1⟩
            · exact ⟨by simp, by simp, a0, a1, d0, d1, o0, o1, j0, j1, x0, x1⟩
/-! The reference's words. -/
/-- The phase behind an act, or -1. -/
def Cal.accI (ph k : Int) : Int :=
  if (ph = 0 ∧ k = 0) ∨ (ph = 2 ∧ k = 2) ∨ (ph = 3 ∧ k = 4) ∨ (ph = 1 ∧ k = 6) then 1 else if ph = 1 ∧ k = 1 then 2 else if ph = 1 ∧ k = 3 then 3 else if ph = 3 ∧ k = 5 then 5 else if (1 ≤ ph ∧ ph ≤ 3) ∧ k = 7 then 4 else -1
theorem Cal.kinds {k : Int} (h0 : 0 ≤ k) (h1 : k ≤ 7) : k = 0 ∨ k = 1 ∨ k = 2 ∨ k = 3 ∨ k = 4 ∨ k = 5 ∨ k = 6 ∨ k = 7 := by omega
theorem Cal.accI_acc {ph k : Int} (h0 : 0 ≤ k) (h1 : k ≤ 7) : Cal.accB ph k = true ↔ 0 ≤ Cal.accI ph k := by
  by_cases c0 : ph = 0
  · subst c0; rcases Cal.kinds h0 h1 with rfl | rfl | rfl | rfl | rfl | rfl | rfl | rfl <;> decide
  · by_cases c1 : ph = 1
    · subst c1; rcases Cal.kinds h0 h1 with rfl | rfl | rfl | rfl | rfl | rfl | rfl | rfl <;> decide
    · by_cases c2 : ph = 2
      · subst c2; rcases Cal.kinds h0 h1 with rfl | rfl | rfl | rfl | rfl | rfl | rfl | rfl <;> decide
      · by_cases c3 : ph = 3
        · subst c3; rcases Cal.kinds h0 h1 with rfl | rfl | rfl | rfl | rfl | rfl | rfl | rfl <;> decide
        · have hn : ¬ (1 ≤ ph ∧ ph ≤ 3) := by omega
          have hI : Cal.accI ph k = -1 := by unfold Cal.accI; simp [c0, c1, c2, c3, hn]
          have hB : Cal.accB ph k = false := by unfold Cal.accB; simp [c0, c1, c2, c3]
          rw [hI, hB]; simp
theorem Cal.accI_phase {p : Proc} {s : NSt} {a : NAct} (h0 : 0 ≤ a.kind) (h1 : a.kind ≤ 7) (h : Cal.accB s.phase a.kind = true) : (Cal.doneS p s a).1.phase = Cal.accI s.phase a.kind := by
  unfold Cal.accB at h
  unfold Cal.doneS Cal.accI
  rcases Cal.kinds h0 h1 with e | e | e | e | e | e | e | e
  all_goals
    simp only [e] at h ⊢
    simp at h
    first
      | (simp [h]; done)
      | (rcases h with h | h | h <;> simp [h])
/-- Whether an act comes too late. -/
def Cal.lateB (s : NSt) (a : NAct) : Bool :=
  if a.kind = 1 ∨ a.kind = 6 ∨ a.kind = 7 then decide (s.phase = 1 ∧ s.deadline < a.day) else if a.kind = 3 then decide (s.deadline < a.day ∨ s.object < a.day) else false
theorem Cal.late_acc {s : NSt} {a : NAct} (h0 : 0 ≤ a.kind) (h1 : a.kind ≤ 7) (h : Cal.accB s.phase a.kind = true) : Cal.lateB s a = decide ((s.phase = 1 ∧ s.deadline < a.day) ∨ (a.kind = 3 ∧ min s.object s.deadline < a.day)) := by
  unfold Cal.accB at h
  unfold Cal.lateB
  rcases Cal.kinds h0 h1 with e | e | e | e | e | e | e | e
  all_goals
    simp only [e] at h ⊢
    simp at h
    first
      | (simp [h]; done)
      | (simp [h]; rw [← Bool.decide_or, ← Bool.decide_or, decide_eq_decide]; omega)
end Go.Proofs.YtbegbajlagcbdaaGreatDoor
