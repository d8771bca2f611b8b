/- Chapter 8 and what it rests on: definitions and walks, part 06. -/
import Derived.Test.YtbegbajlagcbdaaGreatDoorC05
import Derived.Test.YtbegbajlagcbdaaGreatDoorC01
namespace Go.Proofs.YtbegbajlagcbdaaGreatDoor
open Go Go.RowKit Go.Maps Go.WideMaps
def Cal.holErrOf (h : Hol) : Int := Cal.holErr h.kind h.month h.day h.weekday
def hasName (seen : List Hol) (nm : ByteArray) : Bool := seen.any fun q => q.name.toList == nm.toList
/-- The error of holidays, behind those that have been seen. -/
def Cal.holsErrFrom (seen : List Hol) : List Hol → Int
  | [] => 0
  | h :: r => if nameB h.name = true then (if hasName seen h.name = true then 5 else if Cal.holErrOf h = 0 then Cal.holsErrFrom (seen ++ [h]) r else Cal.holErrOf h) else 4
theorem Cal.holsErrFrom_cons (seen : List Hol) (h : Hol) (r : List Hol) : Cal.holsErrFrom seen (h :: r) = if nameB h.name = true then (if hasName seen h.name = true then 5 else if Cal.holErrOf h = 0 then Cal.holsErrFrom (seen ++ [h]) r else Cal.holErrOf h) else 4 := rfl
def Cal.holsErr (l : List Hol) : Int := if 40 < l.length then 8 else Cal.holsErrFrom [] l
theorem boolZero (w : World) : (zeroValue 4).run Tryz.prog w = .ok (.bool false) w := by kernel_rfl
def strLit (x : List UInt8) : Lit := .string x
theorem strLit_inj (x y : List UInt8) (h : strLit x = strLit y) : x = y := by unfold strLit at h; cases h; rfl
/-- The set of names holds those that have been seen. -/
def NamesOf (seen : List Hol) (f : List UInt8 → Option Value) : Prop := ∀ nm : ByteArray, (f nm.data.toList).getD (.bool false) = .bool (hasName seen nm)
theorem NamesOf.start : NamesOf [] (fun _ => none) := fun _ => rfl
theorem NamesOf.step {seen : List Hol} {f : List UInt8 → Option Value} (h : NamesOf seen f) (q : Hol) : NamesOf (seen ++ [q]) (setAt f q.name.data.toList (.bool true)) := fun nm => by
  have e : hasName (seen ++ [q]) nm = (hasName seen nm || (q.name.toList == nm.toList)) := by simp [hasName]
  rw [e]
  by_cases hn : nm.data.toList = q.name.data.toList
  · rw [hn, setAt_same]
    have : (q.name.toList == nm.toList) = true := by rw [ByteArray.toList_eq, ByteArray.toList_eq, hn]; simp
    rw [this]; simp
  · rw [setAt_other _ _ hn, h nm]
    have : (q.name.toList == nm.toList) = false := by rw [ByteArray.toList_eq, ByteArray.toList_eq]; simp; exact fun h => hn (by rw [h])
    rw [this]; simp
theorem CheckHolidays_any (A : Option Addr) (c : Nat) (l : List Hol) (w : World) (hl : Hols w A l) (hT : Tab w) :
    Calls Tryz.prog 116 #[.slice A l.length c] w fun e w' => e = .returned (.int .i64 (Cal.holsErr l)) ∧ Below w.heap.size w w' := by
  have hsz := hl.size
  by_cases hbig : 40 < l.length
  · have hfin : Hid (Cal.holsErr l = 8) := by show _ = _; unfold Cal.holsErr; rw [if_pos hbig]
    go_enter Tryz.func116, Tryz.ntmps116
    go_wp2
    go_ret
    exact ⟨ret_int hfin.out.symm, Below.refl _ _⟩
  · have hfin : Hid (Cal.holsErr l = Cal.holsErrFrom (l.take 0) (l.drop 0)) := by show _ = _; unfold Cal.holsErr; rw [if_neg hbig]; rfl
    have hl' := Lib.hid hl
    have hT' := Lib.hid (fun w' (h : Below w.heap.size w w') => hT.below h)
    clear hl hT
    have hmm := @run_makeMap Tryz.prog
    have hst := Lib.hid (MapIs.made Tryz.prog 9 strLit w)
    go_enter Tryz.func116, Tryz.ntmps116
    go_wp2
    clear hmm
    go_loopw [13] (fun i wr => ∃ (k : Nat) (f : List UInt8 → Option Value), k ≤ l.length ∧ i = .int .i64 k ∧ Hid (Cal.holsErr l = Cal.holsErrFrom (l.take k) (l.drop k)) ∧ Hid (MapIs Tryz.prog 9 strLit wr w.heap.size k f) ∧ Hid (NamesOf (l.take k) f) ∧ w.heap.size < wr.heap.size ∧ Below w.heap.size w wr) (fun i _ => l.length - (intOf i).toNat)
    case atStart => exact ⟨0, _, Nat.zero_le _, rfl, hfin, hst.out, NamesOf.start, by simp, below_alloc _ _⟩
    case round =>
      obtain ⟨k, f, hk, rfl, hinv, hmap, hnames, hlt0, hb⟩ := hrel
      clear hfin hst
      by_cases hlt : k < l.length
      · have hk' : l[k]? = some l[k] := List.getElem?_eq_getElem hlt
        have hd := Lib.hid (List.drop_eq_getElem_cons hlt)
        have htk : Hid (l.take (k + 1) = l.take k ++ [l[k]]) := by show _ = _; rw [List.take_succ_eq_append_getElem hlt]
        have hnm := hl'.out.names k _ hk'
        obtain ⟨b, o, rfl, hbl, c0, c1, c2, c3, c4⟩ := (hl'.out.below hb).at_ hk'
        clear hk'
        generalize l[k] = p at *
        have hbs := hb.size
        cases hn : nameB p.name
        · have hfin : Hid (Cal.holsErr l = 4) := by show _ = _; rw [hinv.out, hd.out, Cal.holsErrFrom_cons, hn]; rfl
          go_wp2_with (first | (go_at_call 145; refine (isName_any _ _ hnm).mono ?_; rintro e w' ⟨rfl, rfl⟩))
          go_ret
          exact ⟨ret_int hfin.out.symm, hb.alloc hbs _⟩
        · have hlk := fun o => (hmap.out.alloc o).look (string_keyed Tryz.underlying9) Tryz.underlying116 (boolZero _) (keyOf_string_mk Tryz.underlying9 hnm)
          have hnp := hnames.out p.name
          have hlk2 : ∀ o, (Instr.lookup 116 (.map (some w.heap.size)) (.string p.name) false).run Tryz.prog (wr.alloc o) = .ok (.bool (hasName (l.take k) p.name)) (wr.alloc o) := fun o => by rw [hlk o, hnp]
          clear hlk hnp
          cases hs : hasName (l.take k) p.name
          · rw [hs] at hlk2
            obtain ⟨w2, hrun, hm2, hg2, hsz2⟩ := (hmap.out.alloc (.cells #[.string p.name, .int .i64 p.kind, .int .i64 p.month, .int .i64 p.day, .int .i64 p.weekday] 202)).store strLit_inj (string_keyed Tryz.underlying9) Tryz.underlying116 (by unfold maxLen; omega) (val := .bool true) (keyOf_string_mk Tryz.underlying9 hnm)
            have hm2 := Lib.hid hm2
            have hc2 : ∀ (j : Nat), w2.cell? ⟨wr.heap.size, j, none⟩ = (wr.alloc (.cells #[.string p.name, .int .i64 p.kind, .int .i64 p.month, .int .i64 p.day, .int .i64 p.weekday] 202)).cell? ⟨wr.heap.size, j, none⟩ := fun j => World.cell?_of_block (hg2.block _ (by simp) (by simp; omega))
            have hb2 : Below w.heap.size w w2 := (hb.alloc hbs _).grown hg2 (by simp; omega) (by simp)
            have hlt2 : w.heap.size < w2.heap.size := by rw [hsz2]; simp; omega
            have hg2 := Lib.hid hg2
            have hsz2 := Lib.hid hsz2
            have hT2 := Lib.hid (hT'.out _ hb2)
            by_cases hp0 : Cal.holErrOf p = 0
            · have hp1 : (Cal.holErr p.kind p.month p.day p.weekday != 0) = false := by simpa [Cal.holErrOf] using hp0
              have hnx : Hid (Cal.holsErr l = Cal.holsErrFrom (l.take (k + 1)) (l.drop (k + 1))) := by show _ = _; rw [hinv.out, hd.out, Cal.holsErrFrom_cons, hn, hs, htk.out]; simp [hp0]
              have hnms : Hid (NamesOf (l.take (k + 1)) (setAt f p.name.data.toList (.bool true))) := by show NamesOf _ _; rw [htk.out]; exact hnames.out.step p
              clear hp0
              go_wp2_with (first | (go_at_call 145; refine (isName_any _ _ hnm).mono ?_; rintro e w' ⟨rfl, rfl⟩) | (go_at_call 181; refine (checkHoliday_any _ _ _ _ _ _ hT2.out).mono ?_; rintro e w3 ⟨rfl, hb3⟩; obtain ⟨hc3, hf3⟩ := bcell hb3))
              go_roundw
              case rel => exact ⟨k + 1, _, by omega, by go_num, hnx, hm2.out.below hb3 hlt2, hnms, Nat.lt_of_lt_of_le hlt2 hb3.size, below_step hb2 hb3⟩
              case measure => simp [intOf]; omega
            · have hp1 : (Cal.holErr p.kind p.month p.day p.weekday != 0) = true := by simpa [Cal.holErrOf] using hp0
              have hfin : Hid (Cal.holsErr l = Cal.holErr p.kind p.month p.day p.weekday) := by show _ = _; rw [hinv.out, hd.out, Cal.holsErrFrom_cons, hn, hs]; simp [hp0]; rfl
              clear hp0
              go_wp2_with (first | (go_at_call 145; refine (isName_any _ _ hnm).mono ?_; rintro e w' ⟨rfl, rfl⟩) | (go_at_call 181; refine (checkHoliday_any _ _ _ _ _ _ hT2.out).mono ?_; rintro e w3 ⟨rfl, hb3⟩; obtain ⟨hc3, hf3⟩ := bcell hb3))
              go_ret
              exact ⟨ret_int hfin.out.symm, below_step hb2 hb3⟩
          · rw [hs] at hlk2
            have hfin : Hid (Cal.holsErr l = 5) := by show _ = _; rw [hinv.out, hd.out, Cal.holsErrFrom_cons, hn, hs]; rfl
            go_wp2_with (first | (go_at_call 145; refine (isName_any _ _ hnm).mono ?_; rintro e w' ⟨rfl, rfl⟩))
            go_ret
            exact ⟨ret_int hfin.out.symm, hb.alloc hbs _⟩
      · obtain rfl : k = l.length := by omega
        have hfin : Hid (Cal.holsErr l = 0) := by show _ = _; rw [hinv.out, List.drop_length]; rfl
        clear hinv
        go_wp2
        go_ret
        exact ⟨ret_int hfin.out.symm, hb⟩
end Go.Proofs.YtbegbajlagcbdaaGreatDoor
