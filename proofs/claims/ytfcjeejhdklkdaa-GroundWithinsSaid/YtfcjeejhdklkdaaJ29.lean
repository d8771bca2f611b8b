/- What the statements rest on: definitions and walks, part 29. -/
import Derived.Test.YtfcjeejhdklkdaaJ25
import Derived.Lib.ConvBytes
set_option maxRecDepth 100000
set_option maxHeartbeats 16000000
set_option linter.unusedSimpArgs false
set_option linter.unusedVariables false
namespace Go.Proofs.Ytfcjeejhdklkdaa
open Go Go.RowKit
theorem bytes_ex (s : ByteArray) (w : World) : ∃ c W, (convert 9 133 (.string s)).run Try.prog w = .ok (.slice (some ⟨w.heap.size, 0, none⟩) s.size c) W ∧ Below w.heap.size w W ∧
  ∀ k (h : k < s.size), W.cell? ⟨w.heap.size, k, none⟩ = some (.int .u8 (s[k].toNat : Int)) := by
 refine ⟨_, _, Lib.run_convert_string_bytes w 9 133 5 s Try.underlying9 Try.underlying133 Try.underlying5, ⟨rfl, rfl, rfl, ?_, fun k hk => Lib.bytesWorld_at_old w _ s k hk⟩, fun k h => ?_⟩
 ·rw [Lib.bytesWorld_size]; omega
 ·rw [Lib.bytesWorld_cell w _ s k h]
  congr 3
  rw [List.getD_eq_getElem?_getD]
  have : s.data.toList[k]? = some s[k] := by
   rw [Array.getElem?_toList]
   exact Array.getElem?_eq_getElem h
  rw [this]
  rfl
def IsW (W wr : World) : Prop := wr = W
theorem gisName_any (s : ByteArray) (w : World) (hs : s.size ≤ maxLen) :
  Calls Try.prog 73 #[.string s] w fun e w' => e = .returned (.bool (nameB s)) ∧ Below w.heap.size w w' := by
 unfold maxLen at hs
 obtain ⟨cp, W, hcv, hbel, hcell⟩ := bytes_ex s w
 have hbW := Lib.hid hbel
 replace hcell := Lib.hid hcell
 clear hbel
 have hok := okTo_zero s
 go_enter Try.func73, Try.ntmps73
 go_wp2_with fail
 have hI : IsW W W := rfl
 go_loopw [9] (fun i wr => ∃ k : Nat, k ≤ s.size ∧ i = .int .i64 k ∧ okTo s k ∧ IsW W wr) (fun i _ => s.size - (intOf i).toNat)
 case atStart => exact ⟨0, Nat.zero_le _, rfl, hok, hI⟩
 case round =>
  obtain ⟨k, hk, rfl, hok2, hW⟩ := hrel
  obtain rfl : wr = W := hW
  clear hok hI
  by_cases hlt : k < s.size
  ·have hb := byteAt_eq hlt
   have c0 := hcell.out k hlt
   have hcl : (97 ≤ (s[k].toNat : Int) ∧ (s[k].toNat : Int) ≤ 122) ∨ (65 ≤ (s[k].toNat : Int) ∧ (s[k].toNat : Int) ≤ 90) ∨ (48 ≤ (s[k].toNat : Int) ∧ (s[k].toNat : Int) ≤ 57) ∨ (s[k].toNat : Int) = 45 ∨ (s[k].toNat : Int) < 45 ∨ (46 ≤ (s[k].toNat : Int) ∧ (s[k].toNat : Int) ≤ 47) ∨ (58 ≤ (s[k].toNat : Int) ∧ (s[k].toNat : Int) ≤ 64) ∨ (91 ≤ (s[k].toNat : Int) ∧ (s[k].toNat : Int) ≤ 96) ∨ 123 ≤ (s[k].toNat : Int) := by omega
   have x0 : 0 ≤ (s[k].toNat : Int) := by omega
   have hyes := Lib.hid (fun h : okAt s k = true => okTo_succ hok2 h)
   have hno := Lib.hid (fun h : okAt s k = false => nameB_no hlt h)
   generalize (s[k].toNat : Int) = x at *
   by_cases hk0 : k = 0
   ·subst hk0
    rcases hcl with ⟨ca, cb⟩ | ⟨ca, cb⟩ | ⟨ca, cb⟩ | ca | ca | ⟨ca, cb⟩ | ⟨ca, cb⟩ | ⟨ca, cb⟩ | ca
    all_goals first
     |(have hok : Hid (okTo s (0 + 1)) := hyes.out (by unfold okAt; rw [hb]; simp; omega)
       try (have q0 : decide (x ≤ 90) = false := by first | (simp; omega) | (simp; done))
       try (have q1 : decide (x ≤ 122) = false := by first | (simp; omega) | (simp; done))
       try (have q2 : decide (x ≤ 57) = false := by first | (simp; omega) | (simp; done))
       try (have q3 : (x != 45) = true := by first | (simp; omega) | (simp; done))
       try (have q4 : (x == 45) = false := by first | (simp; omega) | (simp; done))
       try (have q5 : decide (57 < x) = true := by first | (simp; omega) | (simp; done))
       try (have q6 : decide (97 ≤ x) = false := by first | (simp; omega) | (simp; done))
       try (have q7 : decide (65 ≤ x) = false := by first | (simp; omega) | (simp; done))
       try (have q8 : decide (x ≤ 90) = true := by first | (simp; omega) | (simp; done))
       try (have q9 : decide (x < 48) = true := by first | (simp; omega) | (simp; done))
       clear hyes hno hb
       go_wp2
       go_roundw
       case rel => exact ⟨1, by omega, rfl, hok.out, rfl⟩
       case measure => simp [intOf]; omega)
     |(have hfin : Hid (nameB s = false) := hno.out (by unfold okAt; rw [hb]; simp; omega)
       try (have q0 : decide (x ≤ 90) = false := by first | (simp; omega) | (simp; done))
       try (have q1 : decide (x ≤ 122) = false := by first | (simp; omega) | (simp; done))
       try (have q2 : decide (x ≤ 57) = false := by first | (simp; omega) | (simp; done))
       try (have q3 : (x != 45) = true := by first | (simp; omega) | (simp; done))
       try (have q4 : (x == 45) = false := by first | (simp; omega) | (simp; done))
       try (have q5 : decide (57 < x) = true := by first | (simp; omega) | (simp; done))
       try (have q6 : decide (97 ≤ x) = false := by first | (simp; omega) | (simp; done))
       try (have q7 : decide (65 ≤ x) = false := by first | (simp; omega) | (simp; done))
       try (have q8 : decide (x ≤ 90) = true := by first | (simp; omega) | (simp; done))
       try (have q9 : decide (x < 48) = true := by first | (simp; omega) | (simp; done))
       clear hyes hno hb
       go_wp2
       go_ret
       exact ⟨ret_bool hfin.out.symm, hbW.out⟩)
   ·have hk1 : 0 < (k : Int) := by omega
    have hk2 : ((k : Int) == 0) = false := by simp; omega
    rcases hcl with ⟨ca, cb⟩ | ⟨ca, cb⟩ | ⟨ca, cb⟩ | ca | ca | ⟨ca, cb⟩ | ⟨ca, cb⟩ | ⟨ca, cb⟩ | ca
    all_goals first
     |(have hok : Hid (okTo s (k + 1)) := hyes.out (by unfold okAt; rw [hb]; simp; omega)
       try (have q0 : decide (x ≤ 90) = false := by first | (simp; omega) | (simp; done))
       try (have q1 : decide (x ≤ 122) = false := by first | (simp; omega) | (simp; done))
       try (have q2 : decide (x ≤ 57) = false := by first | (simp; omega) | (simp; done))
       try (have q3 : (x != 45) = true := by first | (simp; omega) | (simp; done))
       try (have q4 : (x == 45) = false := by first | (simp; omega) | (simp; done))
       try (have q5 : decide (57 < x) = true := by first | (simp; omega) | (simp; done))
       try (have q6 : decide (97 ≤ x) = false := by first | (simp; omega) | (simp; done))
       try (have q7 : decide (65 ≤ x) = false := by first | (simp; omega) | (simp; done))
       try (have q8 : decide (x ≤ 90) = true := by first | (simp; omega) | (simp; done))
       try (have q9 : decide (x < 48) = true := by first | (simp; omega) | (simp; done))
       clear hyes hno hb hk0
       go_wp2
       go_roundw
       case rel => exact ⟨k + 1, by omega, by go_num, hok.out, rfl⟩
       case measure => simp [intOf]; omega)
     |(have hfin : Hid (nameB s = false) := hno.out (by unfold okAt; rw [hb]; simp; omega)
       try (have q0 : decide (x ≤ 90) = false := by first | (simp; omega) | (simp; done))
       try (have q1 : decide (x ≤ 122) = false := by first | (simp; omega) | (simp; done))
       try (have q2 : decide (x ≤ 57) = false := by first | (simp; omega) | (simp; done))
       try (have q3 : (x != 45) = true := by first | (simp; omega) | (simp; done))
       try (have q4 : (x == 45) = false := by first | (simp; omega) | (simp; done))
       try (have q5 : decide (57 < x) = true := by first | (simp; omega) | (simp; done))
       try (have q6 : decide (97 ≤ x) = false := by first | (simp; omega) | (simp; done))
       try (have q7 : decide (65 ≤ x) = false := by first | (simp; omega) | (simp; done))
       try (have q8 : decide (x ≤ 90) = true := by first | (simp; omega) | (simp; done))
       try (have q9 : decide (x < 48) = true := by first | (simp; omega) | (simp; done))
       clear hyes hno hb hk0
       go_wp2
       go_ret
       exact ⟨ret_bool hfin.out.symm, hbW.out⟩)
  ·obtain rfl : k = s.size := by omega
   by_cases h0 : s.size = 0
   ·have hfin := Lib.hid (nameB_size (s := s) (by omega))
    have he := isEmpty_yes h0
    have he2 : s.toList = [] := by simpa using he
    go_wp2
    go_ret
    exact ⟨ret_bool hfin.out.symm, hbW.out⟩
   ·have he := isEmpty_no (s := s) (by omega)
    have he2 : ¬ s.toList = [] := by intro h; rw [h] at he; cases he
    by_cases h12 : s.size ≤ 12
    ·have hfin := Lib.hid (nameB_yes (by omega) h12 hok2)
     go_wp2
     go_ret
     exact ⟨ret_bool (by rw [hfin.out]; exact decide_eq_true (by omega)), hbW.out⟩
    ·have hfin := Lib.hid (nameB_size (s := s) (by omega))
     go_wp2
     go_ret
     exact ⟨ret_bool (by rw [hfin.out]; exact decide_eq_false (by omega)), hbW.out⟩
end Go.Proofs.Ytfcjeejhdklkdaa
namespace Go.Proofs.Ytfcjeejhdklkdaa
open Go Go.RowKit Go.Shelf
structure Plo where
 name : ByteArray
 V : Option Addr
 d : Nat
 ps : List Pt
def Plo.cells (p : Plo) : List Value := [.string p.name, .slice p.V p.ps.length p.d]
def sameN (p q : Plo) : Bool := p.name.toList == q.name.toList
structure Plos (w : World) (S : Option Addr) (l : List Plo) : Prop where
 rows : RowsAt w S 2 (l.map Plo.cells)
 size : l.length ≤ 1000000
 pts : ∀ p ∈ l, PtsR w p.V p.ps
 nm : ∀ p ∈ l, p.name.size ≤ maxLen
theorem Plos.below {w w' : World} {S : Option Addr} {l : List Plo} (h : Plos w S l) (hb : Below w.heap.size w w') : Plos w' S l :=
 ⟨h.rows.below hb, h.size, fun p hp => (h.pts p hp).below hb, h.nm⟩
theorem plo_at {w : World} {S : Option Addr} {l : List Plo} (h : RowsAt w S 2 (l.map Plo.cells)) {k : Nat} {p : Plo} (hk : l[k]? = some p) :
  ∃ b o, S = some ⟨b, o, none⟩ ∧ b < w.heap.size ∧ w.cell? ⟨b, o + k * 2, none⟩ = some (.string p.name) ∧ w.cell? ⟨b, o + k * 2 + 1, none⟩ = some (.slice p.V p.ps.length p.d) := by
 obtain ⟨b, o, hA, hlt, hc⟩ := h k p.cells (by simp [hk])
 exact ⟨b, o, hA, hlt, hc 0 _ rfl, hc 1 _ rfl⟩
theorem checkPlot1_any (q p : Plo) (B : Nat) (w : World) (h : BoxAt w B [.string p.name, .slice p.V p.ps.length p.d]) :
  Calls Try.prog 99 #[.agg #[.string q.name, .slice q.V q.ps.length q.d], .pointer (some ⟨B, 0, none⟩)] w fun e w' => e = .returned (.bool (sameN q p)) ∧ Below w.heap.size w w' := by
 have hb := Lib.hid (below_alloc w (.cells #[.string q.name, .slice q.V q.ps.length q.d] 73))
 have c0 := (h.alloc (.cells #[.string q.name, .slice q.V q.ps.length q.d] 73)).c 0 _ rfl
 have l0 := h.lt
 go_enter Try.func99, Try.ntmps99
 go_wp2_with fail
 go_ret
 exact ⟨rfl, hb.out⟩
theorem checkPlot2_any (q p : Plo) (B : Nat) (w : World) (h : BoxAt w B [.string p.name, .slice p.V p.ps.length p.d]) (hq : Plg w q.V q.ps) (hp : Plg w p.V p.ps) :
  Calls Try.prog 100 #[.agg #[.string q.name, .slice q.V q.ps.length q.d], .pointer (some ⟨B, 0, none⟩)] w fun e w' => e = .returned (.bool (Cal.overlapP q.ps p.ps)) ∧ Below w.heap.size w w' := by
 have hb := Lib.hid (below_alloc w (.cells #[.string q.name, .slice q.V q.ps.length q.d] 73))
 have c1 := (h.alloc (.cells #[.string q.name, .slice q.V q.ps.length q.d] 73)).c 1 _ rfl
 have l0 := h.lt
 have hq := Lib.hid (hq.below hb.out)
 have hp := Lib.hid (hp.below hb.out)
 go_enter Try.func100, Try.ntmps100
 go_wp2_with (refine (overlap_any q.V p.V q.d p.d q.ps p.ps _ hq.out hp.out).mono ?_; rintro e wn ⟨rfl, hbn⟩; have hb2 := Lib.hid (below_step hb.out hbn); clear hbn)
 go_ret
 exact ⟨rfl, hb2.out⟩
def idxP (g : Plo → Bool) : List Plo → Int
 | [] => -1
 | p :: r => if g p = true then 0 else if idxP g r < 0 then -1 else idxP g r + 1
theorem idxP_ge (g : Plo → Bool) : ∀ l, -1 ≤ idxP g l
 | [] => by simp [idxP]
 | p :: r => by
  have := idxP_ge g r
  unfold idxP
  split
  ·omega
  ·split <;> omega
theorem idxP_at {g : Plo → Bool} : ∀ {l : List Plo} {k : Nat} {p : Plo}, l[k]? = some p → (l.take k).any g = false → g p = true → idxP g l = k
 | [], k, p, h, _, _ => by simp at h
 | q :: r, 0, p, h, _, hg => by
  have e : q = p := by simpa using h
  subst e
  unfold idxP
  rw [if_pos hg]; rfl
 | q :: r, k + 1, p, h, ha, hg => by
  rw [List.take_succ_cons, List.any_cons, Bool.or_eq_false_iff] at ha
  have ih := idxP_at (l := r) (k := k) (p := p) (by simpa using h) ha.2 hg
  unfold idxP
  rw [if_neg (by rw [ha.1]; decide), ih, if_neg (by omega)]
  omega
theorem idxP_no {g : Plo → Bool} : ∀ {l : List Plo}, l.any g = false → idxP g l = -1
 | [], _ => rfl
 | q :: r, h => by
  rw [List.any_cons, Bool.or_eq_false_iff] at h
  unfold idxP
  rw [if_neg (by rw [h.1]; decide), idxP_no h.2]
  rfl
theorem idxP_any (g : Plo → Bool) : ∀ l, decide (0 ≤ idxP g l) = l.any g
 | [] => rfl
 | q :: r => by
  have ih := idxP_any g r
  unfold idxP
  rw [List.any_cons]
  cases hq : g q
  ·rw [if_neg (by decide), Bool.false_or, ← ih]
   by_cases h : idxP g r < 0
   ·rw [if_pos h, decide_eq_false (by omega), decide_eq_false (by omega)]
   ·rw [if_neg h, decide_eq_true (by omega), decide_eq_true (by omega)]
  ·rw [if_pos rfl]; rfl
theorem IndexPl1_any (g : Plo → Bool) (S : Option Addr) (e : Nat) (l : List Plo) (B : Nat) (w : World) (h : RowsAt w S 2 (l.map Plo.cells)) (hs : l.length ≤ 1000000)
  (hf : ∀ (q : Plo) (W : World), q ∈ l → Below w.heap.size w W → Calls Try.prog 99 #[.agg #[.string q.name, .slice q.V q.ps.length q.d], .pointer (some ⟨B, 0, none⟩)] W fun e w' => e = .returned (.bool (g q)) ∧ Below W.heap.size W w') :
  Calls Try.prog 80 #[.slice S l.length e, .func (.func 99) #[] #[.pointer (some ⟨B, 0, none⟩)]] w fun en w' => en = .returned (.int .i64 (idxP g l)) ∧ Below w.heap.size w w' := by
 have h' := Lib.hid h
 replace hf := Lib.hid hf
 have hinit : Hid ((l.take 0).any g = false) := rfl
 have hb0 := Lib.hid (Below.refl w.heap.size w)
 clear h
 go_enter Try.func80, Try.ntmps80
 go_wp2_with fail
 go_loopw [8] (fun i wr => ∃ k : Nat, k ≤ l.length ∧ i = .int .i64 k ∧ Hid ((l.take k).any g = false) ∧ Hid (Below w.heap.size w wr)) (fun i _ => l.length - (intOf i).toNat)
 case atStart => exact ⟨0, Nat.zero_le _, rfl, hinit, hb0⟩
 case round =>
  clear hb0
  obtain ⟨k, hk, rfl, hall, hb⟩ := hrel
  clear hinit
  by_cases hlt : k < l.length
  ·have hk' : l[k]? = some l[k] := List.getElem?_eq_getElem hlt
   obtain ⟨b, o, rfl, hbl, e0, e1⟩ := plo_at (h'.out.below hb.out) hk'
   have htk := Lib.hid (List.take_succ_eq_append_getElem hlt)
   have hmem : Hid (l[k] ∈ l) := List.getElem_mem hlt
   have hkk := Lib.hid hk'
   clear hk'
   generalize l[k] = s at *
   cases hin : g s
   ·have hnx : Hid ((l.take (k + 1)).any g = false) := by show _ = _; rw [htk.out, List.any_append, hall.out]; simpa using hin
    have hin := Lib.hid hin
    go_wp2_with (go_at_call 99; refine (hf.out s _ hmem.out hb.out).mono ?_; rintro e w' ⟨rfl, hbn⟩; rw [hin.out]; have hb := Lib.hid (below_step hb.out hbn); clear hbn)
    go_roundw
    case rel => exact ⟨k + 1, by omega, by go_num, hnx, hb⟩
    case measure => simp [intOf]; omega
   ·have hfin : Hid (idxP g l = k) := idxP_at hkk.out hall.out hin
    have hin := Lib.hid hin
    go_wp2_with (go_at_call 99; refine (hf.out s _ hmem.out hb.out).mono ?_; rintro e w' ⟨rfl, hbn⟩; rw [hin.out]; have hb := Lib.hid (below_step hb.out hbn); clear hbn)
    go_ret
    exact ⟨ret_int hfin.out.symm, hb.out⟩
  ·have hfin : Hid (idxP g l = -1) := by
    have h := hall.out
    rw [List.take_of_length_le (by omega)] at h
    exact idxP_no h
   have hge : l.length = k := by omega
   clear hall
   go_wp2_with fail
   go_ret
   exact ⟨ret_int hfin.out.symm, hb.out⟩
theorem ContainsPl1_any (g : Plo → Bool) (S : Option Addr) (e : Nat) (l : List Plo) (B : Nat) (w : World) (h : RowsAt w S 2 (l.map Plo.cells)) (hs : l.length ≤ 1000000)
  (hf : ∀ (q : Plo) (W : World), q ∈ l → Below w.heap.size w W → Calls Try.prog 99 #[.agg #[.string q.name, .slice q.V q.ps.length q.d], .pointer (some ⟨B, 0, none⟩)] W fun e w' => e = .returned (.bool (g q)) ∧ Below W.heap.size W w') :
  Calls Try.prog 98 #[.slice S l.length e, .func (.func 99) #[] #[.pointer (some ⟨B, 0, none⟩)]] w fun en w' => en = .returned (.bool (l.any g)) ∧ Below w.heap.size w w' := by
 have hi := Lib.hid (IndexPl1_any g S e l B w h hs hf)
 have h2 := Lib.hid (idxP_any g l)
 have hge := idxP_ge g l
 obtain ⟨i, hi'⟩ : ∃ i, idxP g l = i := ⟨_, rfl⟩
 rw [hi'] at hge h2 hi
 clear hi' hf
 go_enter Try.func98, Try.ntmps98
 go_wp2_with fail
 refine hi.out.mono ?_
 rintro e w' ⟨rfl, hb⟩
 have hb := Lib.hid hb
 go_wp2_with fail
 go_ret
 exact ⟨by first | rfl | exact ret_bool h2.out, hb.out⟩
theorem IndexPl2_any (g : Plo → Bool) (S : Option Addr) (e : Nat) (l : List Plo) (B : Nat) (w : World) (h : RowsAt w S 2 (l.map Plo.cells)) (hs : l.length ≤ 1000000)
  (hf : ∀ (q : Plo) (W : World), q ∈ l → Below w.heap.size w W → Calls Try.prog 100 #[.agg #[.string q.name, .slice q.V q.ps.length q.d], .pointer (some ⟨B, 0, none⟩)] W fun e w' => e = .returned (.bool (g q)) ∧ Below W.heap.size W w') :
  Calls Try.prog 80 #[.slice S l.length e, .func (.func 100) #[] #[.pointer (some ⟨B, 0, none⟩)]] w fun en w' => en = .returned (.int .i64 (idxP g l)) ∧ Below w.heap.size w w' := by
 have h' := Lib.hid h
 replace hf := Lib.hid hf
 have hinit : Hid ((l.take 0).any g = false) := rfl
 have hb0 := Lib.hid (Below.refl w.heap.size w)
 clear h
 go_enter Try.func80, Try.ntmps80
 go_wp2_with fail
 go_loopw [8] (fun i wr => ∃ k : Nat, k ≤ l.length ∧ i = .int .i64 k ∧ Hid ((l.take k).any g = false) ∧ Hid (Below w.heap.size w wr)) (fun i _ => l.length - (intOf i).toNat)
 case atStart => exact ⟨0, Nat.zero_le _, rfl, hinit, hb0⟩
 case round =>
  clear hb0
  obtain ⟨k, hk, rfl, hall, hb⟩ := hrel
  clear hinit
  by_cases hlt : k < l.length
  ·have hk' : l[k]? = some l[k] := List.getElem?_eq_getElem hlt
   obtain ⟨b, o, rfl, hbl, e0, e1⟩ := plo_at (h'.out.below hb.out) hk'
   have htk := Lib.hid (List.take_succ_eq_append_getElem hlt)
   have hmem : Hid (l[k] ∈ l) := List.getElem_mem hlt
   have hkk := Lib.hid hk'
   clear hk'
   generalize l[k] = s at *
   cases hin : g s
   ·have hnx : Hid ((l.take (k + 1)).any g = false) := by show _ = _; rw [htk.out, List.any_append, hall.out]; simpa using hin
    have hin := Lib.hid hin
    go_wp2_with (go_at_call 100; refine (hf.out s _ hmem.out hb.out).mono ?_; rintro e w' ⟨rfl, hbn⟩; rw [hin.out]; have hb := Lib.hid (below_step hb.out hbn); clear hbn)
    go_roundw
    case rel => exact ⟨k + 1, by omega, by go_num, hnx, hb⟩
    case measure => simp [intOf]; omega
   ·have hfin : Hid (idxP g l = k) := idxP_at hkk.out hall.out hin
    have hin := Lib.hid hin
    go_wp2_with (go_at_call 100; refine (hf.out s _ hmem.out hb.out).mono ?_; rintro e w' ⟨rfl, hbn⟩; rw [hin.out]; have hb := Lib.hid (below_step hb.out hbn); clear hbn)
    go_ret
    exact ⟨ret_int hfin.out.symm, hb.out⟩
  ·have hfin : Hid (idxP g l = -1) := by
    have h := hall.out
    rw [List.take_of_length_le (by omega)] at h
    exact idxP_no h
   have hge : l.length = k := by omega
   clear hall
   go_wp2_with fail
   go_ret
   exact ⟨ret_int hfin.out.symm, hb.out⟩
end Go.Proofs.Ytfcjeejhdklkdaa
namespace Go.Proofs.Ytfcjeejhdklkdaa
open Go Go.RowKit Go.Shelf
structure Sct where
 name : ByteArray
 V : Option Addr
 d : Nat
 ps : List Pt
 S : Option Addr
 e : Nat
 l : List Plo
def plotE (sec : List Pt) (before : List Plo) (p : Plo) : Int × Int :=
 if nameB p.name = true then
  (if before.any (fun q => sameN q p) = true then (before.length, 5)
   else if Cal.polyE p.ps = 0 then
    (if Cal.withinP p.ps sec = true then (if idxP (fun q => Cal.overlapP q.ps p.ps) before < 0 then (0, 0) else (idxP (fun q => Cal.overlapP q.ps p.ps) before, 13)) else (before.length, 2))
   else (before.length, Cal.polyE p.ps))
 else (before.length, 4)
def few (ps : List Pt) : Prop := ps.length ≤ 10 ∨ 40 < ps.length
theorem few_ok {ps : List Pt} (h : few ps) (h0 : Cal.polyE ps = 0) : ps.length ≤ 10 := by
 have := (polyE_zero h0).2.1
 unfold few at h; omega
theorem undPl : Try.prog.underlying 60 = some (.slice (Try.prog.elem 60)) := by kernel_rfl
theorem sizePl (w : World) : (sizeOf (Try.prog.elem 60)).run Try.prog w = .ok 2 w := by kernel_rfl
structure ChkI (w : World) (s : Sct) (p : Plo) (W : World) : Prop where
 a : BoxAt W w.heap.size [.string s.name, .slice s.V s.ps.length s.d, .slice s.S s.l.length s.e]
 b : BoxAt W (w.heap.size + 1) [.string p.name, .slice p.V p.ps.length p.d]
 bel : Below w.heap.size w W
theorem ChkI.below {w : World} {s : Sct} {p : Plo} {X Y : World} (h : ChkI w s p X) (hb : Below X.heap.size X Y) : ChkI w s p Y := ⟨h.a.below hb, h.b.below hb, below_step h.bel hb⟩
theorem checkPlot_any (s : Sct) (i : Nat) (w : World) (hi : i < s.l.length) (hP : Plos w s.S s.l) (hcap : s.l.length ≤ s.e) (hC : Plg w s.V s.ps) (hfew : ∀ p ∈ s.l, few p.ps) (hok : ∀ q ∈ s.l.take i, Cal.polyE q.ps = 0) :
  Calls Try.prog 75 #[.agg #[.string s.name, .slice s.V s.ps.length s.d, .slice s.S s.l.length s.e], .int .i64 (i : Int)] w fun e w' => e = .returned (.tuple #[.int .i64 (plotE s.ps (s.l.take i) s.l[i]).1, .int .i64 (plotE s.ps (s.l.take i) s.l[i]).2]) ∧ Below w.heap.size w w' := by
 have hk' : s.l[i]? = some s.l[i] := List.getElem?_eq_getElem hi
 have hmem := List.getElem_mem hi
 have hpf := Lib.hid (hfew _ hmem)
 have hpp := Lib.hid (hP.pts _ hmem)
 have hpn := Lib.hid (hP.nm _ hmem)
 have hlen : (s.l.take i).length = i := by rw [List.length_take]; omega
 have hbef := Lib.hid (fun q (hq : q ∈ s.l.take i) => (hP.pts q (List.mem_of_mem_take hq)).plg (hok q hq) (few_ok (hfew q (List.mem_of_mem_take hq)) (hok q hq)))
 obtain ⟨A1, c1', hcut, hrows⟩ := cut_headI undPl sizePl (List.length_map ..).symm hP.rows hcap (k := i) (by omega)
 rw [← List.map_take] at hrows
 replace hrows := Lib.hid hrows
 have hl6 : (s.l.take i).length ≤ 1000000 := by have := hP.size; omega
 generalize s.l[i] = p at *
 obtain ⟨b, o, hS, hbl, c0, c1⟩ := plo_at hP.rows hk'
 have hsz := hP.size
 generalize hbf : s.l.take i = bf at *
 obtain ⟨R, hRR⟩ : ∃ R, plotE s.ps bf p = R := ⟨_, rfl⟩
 rw [hRR]
 have hI0 : Hid (ChkI w s p ((w.alloc (.cells #[.string s.name, .slice s.V s.ps.length s.d, .slice s.S s.l.length s.e] 62)).alloc (.cells #[.string p.name, .slice p.V p.ps.length p.d] 73))) := by
  have b2 := BoxAt.new (w.alloc (.cells #[.string s.name, .slice s.V s.ps.length s.d, .slice s.S s.l.length s.e] 62)) #[.string p.name, .slice p.V p.ps.length p.d] 73
  rw [World.size_alloc] at b2
  exact ⟨(BoxAt.new w #[.string s.name, .slice s.V s.ps.length s.d, .slice s.S s.l.length s.e] 62).alloc _, b2, below_step (below_alloc _ _) (below_alloc _ _)⟩
 have hcont : Hid (∀ W, ChkI w s p W → Calls Try.prog 98 #[.slice A1 i c1', .func (.func 99) #[] #[.pointer (some ⟨w.heap.size + 1, 0, none⟩)]] W fun en w' => en = .returned (.bool (bf.any fun q => sameN q p)) ∧ Below W.heap.size W w') := fun W hW => by
  have := ContainsPl1_any (fun q => sameN q p) A1 c1' bf (w.heap.size + 1) W (hrows.out.below hW.bel) hl6 (fun q X _ hX => checkPlot1_any q p _ X (hW.b.below hX))
  rw [hlen] at this
  exact this
 have hidx : Hid (∀ W, ChkI w s p W → Cal.polyE p.ps = 0 → Calls Try.prog 80 #[.slice A1 i c1', .func (.func 100) #[] #[.pointer (some ⟨w.heap.size + 1, 0, none⟩)]] W fun en w' => en = .returned (.int .i64 (idxP (fun q => Cal.overlapP q.ps p.ps) bf)) ∧ Below W.heap.size W w') := fun W hW h0 => by
  have := IndexPl2_any (fun q => Cal.overlapP q.ps p.ps) A1 c1' bf (w.heap.size + 1) W (hrows.out.below hW.bel) hl6 (fun q X hq hX => checkPlot2_any q p _ X (hW.b.below hX) (((hbef.out q hq).below hW.bel).below hX) (((hpp.out.plg h0 (few_ok hpf.out h0)).below hW.bel).below hX))
  rw [hlen] at this
  exact this
 have hwi : Hid (∀ W, ChkI w s p W → Cal.polyE p.ps = 0 → Calls Try.prog 68 #[.slice p.V p.ps.length p.d, .slice s.V s.ps.length s.d] W fun e w' => e = .returned (.bool (Cal.withinP p.ps s.ps)) ∧ Below W.heap.size W w') := fun W hW h0 =>
  withinG_any p.V s.V p.d s.d p.ps s.ps W ((hpp.out.plg h0 (few_ok hpf.out h0)).below hW.bel) (hC.below hW.bel)
 have hge := idxP_ge (fun q => Cal.overlapP q.ps p.ps) bf
 obtain ⟨x1, h1⟩ : ∃ x, nameB p.name = x := ⟨_, rfl⟩
 obtain ⟨x2, h2⟩ : ∃ x, (bf.any fun q => sameN q p) = x := ⟨_, rfl⟩
 obtain ⟨x3, h3⟩ : ∃ x, Cal.polyE p.ps = x := ⟨_, rfl⟩
 obtain ⟨x4, h4⟩ : ∃ x, Cal.withinP p.ps s.ps = x := ⟨_, rfl⟩
 obtain ⟨x5, h5⟩ : ∃ x, idxP (fun q => Cal.overlapP q.ps p.ps) bf = x := ⟨_, rfl⟩
 have hR : Hid (R = if x1 = true then (if x2 = true then ((i : Int), 5) else if x3 = 0 then (if x4 = true then (if x5 < 0 then (0, 0) else (x5, 13)) else ((i : Int), 2)) else ((i : Int), x3)) else ((i : Int), 4)) := by
  show _ = _
  rw [← hRR]
  unfold plotE
  rw [h1, h2, h3, h4, h5, hlen]
 clear hRR hbf hok hfew hP hk' hmem hC hbef hrows
 rw [h5] at hge
 by_cases z3 : x3 = 0
 ·subst z3
  replace hidx := Lib.hid (fun W hW => hidx.out W hW h3)
  replace hwi := Lib.hid (fun W hW => hwi.out W hW h3)
  replace h1 := Lib.hid h1
  replace h2 := Lib.hid h2
  replace h3 := Lib.hid h3
  replace h4 := Lib.hid h4
  replace h5 := Lib.hid h5
  obtain ⟨nm, V, d, ps, S, e, l⟩ := s
  dsimp only at *
  obtain rfl := hS
  cases x1
  ·go_enter Try.func75, Try.ntmps75
   go_wp2_with (first
    |(go_at_call 73; refine (gisName_any p.name _ hpn.out).mono ?_; rintro e0 wn ⟨rfl, hbn⟩; rw [h1.out]; have hI := Lib.hid (hI0.out.below hbn); clear hbn; (have a1 := hI.out.a.c 1 _ rfl; have a2 := hI.out.a.c 2 _ rfl; have b0 := hI.out.b.c 0 _ rfl; have b1 := hI.out.b.c 1 _ rfl))
    |(go_at_call 98; clear a1 a2 b0 b1; refine (hcont.out _ hI.out).mono ?_; rintro e0 wn ⟨rfl, hbn⟩; rw [h2.out]; (replace hI := Lib.hid (hI.out.below hbn); clear hbn; (have a1 := hI.out.a.c 1 _ rfl; have a2 := hI.out.a.c 2 _ rfl; have b0 := hI.out.b.c 0 _ rfl; have b1 := hI.out.b.c 1 _ rfl)))
    |(go_at_call 74; clear a1 a2 b0 b1; refine (CheckPolygon_any p.V p.d p.ps _ (hpp.out.below hI.out.bel)).mono ?_; rintro e0 wn ⟨rfl, hbn⟩; rw [h3.out]; (replace hI := Lib.hid (hI.out.below hbn); clear hbn; (have a1 := hI.out.a.c 1 _ rfl; have a2 := hI.out.a.c 2 _ rfl; have b0 := hI.out.b.c 0 _ rfl; have b1 := hI.out.b.c 1 _ rfl)))
    |(go_at_call 68; clear a1 a2 b0 b1; refine (hwi.out _ hI.out).mono ?_; rintro e0 wn ⟨rfl, hbn⟩; rw [h4.out]; (replace hI := Lib.hid (hI.out.below hbn); clear hbn; (have a1 := hI.out.a.c 1 _ rfl; have a2 := hI.out.a.c 2 _ rfl; have b0 := hI.out.b.c 0 _ rfl; have b1 := hI.out.b.c 1 _ rfl)))
    |(go_at_call 80; clear a1 a2 b0 b1; refine (hidx.out _ hI.out).mono ?_; rintro e0 wn ⟨rfl, hbn⟩; rw [h5.out]; (replace hI := Lib.hid (hI.out.below hbn); clear hbn; (have a1 := hI.out.a.c 1 _ rfl; have a2 := hI.out.a.c 2 _ rfl; have b0 := hI.out.b.c 0 _ rfl; have b1 := hI.out.b.c 1 _ rfl))))
   go_ret2
   exact ⟨by rw [hR.out]; rfl, hI.out.bel⟩
  ·cases x2
   ·cases x4
    ·go_enter Try.func75, Try.ntmps75
     go_wp2_with (first
      |(go_at_call 73; refine (gisName_any p.name _ hpn.out).mono ?_; rintro e0 wn ⟨rfl, hbn⟩; rw [h1.out]; have hI := Lib.hid (hI0.out.below hbn); clear hbn; (have a1 := hI.out.a.c 1 _ rfl; have a2 := hI.out.a.c 2 _ rfl; have b0 := hI.out.b.c 0 _ rfl; have b1 := hI.out.b.c 1 _ rfl))
      |(go_at_call 98; clear a1 a2 b0 b1; refine (hcont.out _ hI.out).mono ?_; rintro e0 wn ⟨rfl, hbn⟩; rw [h2.out]; (replace hI := Lib.hid (hI.out.below hbn); clear hbn; (have a1 := hI.out.a.c 1 _ rfl; have a2 := hI.out.a.c 2 _ rfl; have b0 := hI.out.b.c 0 _ rfl; have b1 := hI.out.b.c 1 _ rfl)))
      |(go_at_call 74; clear a1 a2 b0 b1; refine (CheckPolygon_any p.V p.d p.ps _ (hpp.out.below hI.out.bel)).mono ?_; rintro e0 wn ⟨rfl, hbn⟩; rw [h3.out]; (replace hI := Lib.hid (hI.out.below hbn); clear hbn; (have a1 := hI.out.a.c 1 _ rfl; have a2 := hI.out.a.c 2 _ rfl; have b0 := hI.out.b.c 0 _ rfl; have b1 := hI.out.b.c 1 _ rfl)))
      |(go_at_call 68; clear a1 a2 b0 b1; refine (hwi.out _ hI.out).mono ?_; rintro e0 wn ⟨rfl, hbn⟩; rw [h4.out]; (replace hI := Lib.hid (hI.out.below hbn); clear hbn; (have a1 := hI.out.a.c 1 _ rfl; have a2 := hI.out.a.c 2 _ rfl; have b0 := hI.out.b.c 0 _ rfl; have b1 := hI.out.b.c 1 _ rfl)))
      |(go_at_call 80; clear a1 a2 b0 b1; refine (hidx.out _ hI.out).mono ?_; rintro e0 wn ⟨rfl, hbn⟩; rw [h5.out]; (replace hI := Lib.hid (hI.out.below hbn); clear hbn; (have a1 := hI.out.a.c 1 _ rfl; have a2 := hI.out.a.c 2 _ rfl; have b0 := hI.out.b.c 0 _ rfl; have b1 := hI.out.b.c 1 _ rfl))))
     go_ret2
     exact ⟨by rw [hR.out]; rfl, hI.out.bel⟩
    ·by_cases z5 : x5 < 0
     ·replace hR : Hid (R = (0, 0)) := by show _ = _; rw [hR.out]; simp [z5]
      go_enter Try.func75, Try.ntmps75
      go_wp2_with (first
       |(go_at_call 73; refine (gisName_any p.name _ hpn.out).mono ?_; rintro e0 wn ⟨rfl, hbn⟩; rw [h1.out]; have hI := Lib.hid (hI0.out.below hbn); clear hbn; (have a1 := hI.out.a.c 1 _ rfl; have a2 := hI.out.a.c 2 _ rfl; have b0 := hI.out.b.c 0 _ rfl; have b1 := hI.out.b.c 1 _ rfl))
       |(go_at_call 98; clear a1 a2 b0 b1; refine (hcont.out _ hI.out).mono ?_; rintro e0 wn ⟨rfl, hbn⟩; rw [h2.out]; (replace hI := Lib.hid (hI.out.below hbn); clear hbn; (have a1 := hI.out.a.c 1 _ rfl; have a2 := hI.out.a.c 2 _ rfl; have b0 := hI.out.b.c 0 _ rfl; have b1 := hI.out.b.c 1 _ rfl)))
       |(go_at_call 74; clear a1 a2 b0 b1; refine (CheckPolygon_any p.V p.d p.ps _ (hpp.out.below hI.out.bel)).mono ?_; rintro e0 wn ⟨rfl, hbn⟩; rw [h3.out]; (replace hI := Lib.hid (hI.out.below hbn); clear hbn; (have a1 := hI.out.a.c 1 _ rfl; have a2 := hI.out.a.c 2 _ rfl; have b0 := hI.out.b.c 0 _ rfl; have b1 := hI.out.b.c 1 _ rfl)))
       |(go_at_call 68; clear a1 a2 b0 b1; refine (hwi.out _ hI.out).mono ?_; rintro e0 wn ⟨rfl, hbn⟩; rw [h4.out]; (replace hI := Lib.hid (hI.out.below hbn); clear hbn; (have a1 := hI.out.a.c 1 _ rfl; have a2 := hI.out.a.c 2 _ rfl; have b0 := hI.out.b.c 0 _ rfl; have b1 := hI.out.b.c 1 _ rfl)))
       |(go_at_call 80; clear a1 a2 b0 b1; refine (hidx.out _ hI.out).mono ?_; rintro e0 wn ⟨rfl, hbn⟩; rw [h5.out]; (replace hI := Lib.hid (hI.out.below hbn); clear hbn; (have a1 := hI.out.a.c 1 _ rfl; have a2 := hI.out.a.c 2 _ rfl; have b0 := hI.out.b.c 0 _ rfl; have b1 := hI.out.b.c 1 _ rfl))))
      go_ret2
      exact ⟨by rw [hR.out]; rfl, hI.out.bel⟩
     ·have z6 : 0 ≤ x5 := by omega
      replace hR : Hid (R = (x5, 13)) := by show _ = _; rw [hR.out]; simp [z5]
      go_enter Try.func75, Try.ntmps75
      go_wp2_with (first
       |(go_at_call 73; refine (gisName_any p.name _ hpn.out).mono ?_; rintro e0 wn ⟨rfl, hbn⟩; rw [h1.out]; have hI := Lib.hid (hI0.out.below hbn); clear hbn; (have a1 := hI.out.a.c 1 _ rfl; have a2 := hI.out.a.c 2 _ rfl; have b0 := hI.out.b.c 0 _ rfl; have b1 := hI.out.b.c 1 _ rfl))
       |(go_at_call 98; clear a1 a2 b0 b1; refine (hcont.out _ hI.out).mono ?_; rintro e0 wn ⟨rfl, hbn⟩; rw [h2.out]; (replace hI := Lib.hid (hI.out.below hbn); clear hbn; (have a1 := hI.out.a.c 1 _ rfl; have a2 := hI.out.a.c 2 _ rfl; have b0 := hI.out.b.c 0 _ rfl; have b1 := hI.out.b.c 1 _ rfl)))
       |(go_at_call 74; clear a1 a2 b0 b1; refine (CheckPolygon_any p.V p.d p.ps _ (hpp.out.below hI.out.bel)).mono ?_; rintro e0 wn ⟨rfl, hbn⟩; rw [h3.out]; (replace hI := Lib.hid (hI.out.below hbn); clear hbn; (have a1 := hI.out.a.c 1 _ rfl; have a2 := hI.out.a.c 2 _ rfl; have b0 := hI.out.b.c 0 _ rfl; have b1 := hI.out.b.c 1 _ rfl)))
       |(go_at_call 68; clear a1 a2 b0 b1; refine (hwi.out _ hI.out).mono ?_; rintro e0 wn ⟨rfl, hbn⟩; rw [h4.out]; (replace hI := Lib.hid (hI.out.below hbn); clear hbn; (have a1 := hI.out.a.c 1 _ rfl; have a2 := hI.out.a.c 2 _ rfl; have b0 := hI.out.b.c 0 _ rfl; have b1 := hI.out.b.c 1 _ rfl)))
       |(go_at_call 80; clear a1 a2 b0 b1; refine (hidx.out _ hI.out).mono ?_; rintro e0 wn ⟨rfl, hbn⟩; rw [h5.out]; (replace hI := Lib.hid (hI.out.below hbn); clear hbn; (have a1 := hI.out.a.c 1 _ rfl; have a2 := hI.out.a.c 2 _ rfl; have b0 := hI.out.b.c 0 _ rfl; have b1 := hI.out.b.c 1 _ rfl))))
      go_ret2
      exact ⟨by rw [hR.out]; rfl, hI.out.bel⟩
   ·go_enter Try.func75, Try.ntmps75
    go_wp2_with (first
     |(go_at_call 73; refine (gisName_any p.name _ hpn.out).mono ?_; rintro e0 wn ⟨rfl, hbn⟩; rw [h1.out]; have hI := Lib.hid (hI0.out.below hbn); clear hbn; (have a1 := hI.out.a.c 1 _ rfl; have a2 := hI.out.a.c 2 _ rfl; have b0 := hI.out.b.c 0 _ rfl; have b1 := hI.out.b.c 1 _ rfl))
     |(go_at_call 98; clear a1 a2 b0 b1; refine (hcont.out _ hI.out).mono ?_; rintro e0 wn ⟨rfl, hbn⟩; rw [h2.out]; (replace hI := Lib.hid (hI.out.below hbn); clear hbn; (have a1 := hI.out.a.c 1 _ rfl; have a2 := hI.out.a.c 2 _ rfl; have b0 := hI.out.b.c 0 _ rfl; have b1 := hI.out.b.c 1 _ rfl)))
     |(go_at_call 74; clear a1 a2 b0 b1; refine (CheckPolygon_any p.V p.d p.ps _ (hpp.out.below hI.out.bel)).mono ?_; rintro e0 wn ⟨rfl, hbn⟩; rw [h3.out]; (replace hI := Lib.hid (hI.out.below hbn); clear hbn; (have a1 := hI.out.a.c 1 _ rfl; have a2 := hI.out.a.c 2 _ rfl; have b0 := hI.out.b.c 0 _ rfl; have b1 := hI.out.b.c 1 _ rfl)))
     |(go_at_call 68; clear a1 a2 b0 b1; refine (hwi.out _ hI.out).mono ?_; rintro e0 wn ⟨rfl, hbn⟩; rw [h4.out]; (replace hI := Lib.hid (hI.out.below hbn); clear hbn; (have a1 := hI.out.a.c 1 _ rfl; have a2 := hI.out.a.c 2 _ rfl; have b0 := hI.out.b.c 0 _ rfl; have b1 := hI.out.b.c 1 _ rfl)))
     |(go_at_call 80; clear a1 a2 b0 b1; refine (hidx.out _ hI.out).mono ?_; rintro e0 wn ⟨rfl, hbn⟩; rw [h5.out]; (replace hI := Lib.hid (hI.out.below hbn); clear hbn; (have a1 := hI.out.a.c 1 _ rfl; have a2 := hI.out.a.c 2 _ rfl; have b0 := hI.out.b.c 0 _ rfl; have b1 := hI.out.b.c 1 _ rfl))))
    go_ret2
    exact ⟨by rw [hR.out]; rfl, hI.out.bel⟩
 ·clear hidx hwi
  replace h1 := Lib.hid h1
  replace h2 := Lib.hid h2
  replace h3 := Lib.hid h3
  obtain ⟨nm, V, d, ps, S, e, l⟩ := s
  dsimp only at *
  obtain rfl := hS
  cases x1
  ·go_enter Try.func75, Try.ntmps75
   go_wp2_with (first
    |(go_at_call 73; refine (gisName_any p.name _ hpn.out).mono ?_; rintro e0 wn ⟨rfl, hbn⟩; rw [h1.out]; have hI := Lib.hid (hI0.out.below hbn); clear hbn; (have a1 := hI.out.a.c 1 _ rfl; have a2 := hI.out.a.c 2 _ rfl; have b0 := hI.out.b.c 0 _ rfl; have b1 := hI.out.b.c 1 _ rfl))
    |(go_at_call 98; clear a1 a2 b0 b1; refine (hcont.out _ hI.out).mono ?_; rintro e0 wn ⟨rfl, hbn⟩; rw [h2.out]; (replace hI := Lib.hid (hI.out.below hbn); clear hbn; (have a1 := hI.out.a.c 1 _ rfl; have a2 := hI.out.a.c 2 _ rfl; have b0 := hI.out.b.c 0 _ rfl; have b1 := hI.out.b.c 1 _ rfl)))
    |(go_at_call 74; clear a1 a2 b0 b1; refine (CheckPolygon_any p.V p.d p.ps _ (hpp.out.below hI.out.bel)).mono ?_; rintro e0 wn ⟨rfl, hbn⟩; rw [h3.out]; (replace hI := Lib.hid (hI.out.below hbn); clear hbn; (have a1 := hI.out.a.c 1 _ rfl; have a2 := hI.out.a.c 2 _ rfl; have b0 := hI.out.b.c 0 _ rfl; have b1 := hI.out.b.c 1 _ rfl)))
    |(go_at_call 68; clear a1 a2 b0 b1; refine (hwi.out _ hI.out).mono ?_; rintro e0 wn ⟨rfl, hbn⟩; rw [h4.out]; (replace hI := Lib.hid (hI.out.below hbn); clear hbn; (have a1 := hI.out.a.c 1 _ rfl; have a2 := hI.out.a.c 2 _ rfl; have b0 := hI.out.b.c 0 _ rfl; have b1 := hI.out.b.c 1 _ rfl)))
    |(go_at_call 80; clear a1 a2 b0 b1; refine (hidx.out _ hI.out).mono ?_; rintro e0 wn ⟨rfl, hbn⟩; rw [h5.out]; (replace hI := Lib.hid (hI.out.below hbn); clear hbn; (have a1 := hI.out.a.c 1 _ rfl; have a2 := hI.out.a.c 2 _ rfl; have b0 := hI.out.b.c 0 _ rfl; have b1 := hI.out.b.c 1 _ rfl))))
   go_ret2
   exact ⟨by rw [hR.out]; rfl, hI.out.bel⟩
  ·cases x2
   ·replace hR : Hid (R = ((i : Int), x3)) := by show _ = _; rw [hR.out]; simp [z3]
    go_enter Try.func75, Try.ntmps75
    go_wp2_with (first
     |(go_at_call 73; refine (gisName_any p.name _ hpn.out).mono ?_; rintro e0 wn ⟨rfl, hbn⟩; rw [h1.out]; have hI := Lib.hid (hI0.out.below hbn); clear hbn; (have a1 := hI.out.a.c 1 _ rfl; have a2 := hI.out.a.c 2 _ rfl; have b0 := hI.out.b.c 0 _ rfl; have b1 := hI.out.b.c 1 _ rfl))
     |(go_at_call 98; clear a1 a2 b0 b1; refine (hcont.out _ hI.out).mono ?_; rintro e0 wn ⟨rfl, hbn⟩; rw [h2.out]; (replace hI := Lib.hid (hI.out.below hbn); clear hbn; (have a1 := hI.out.a.c 1 _ rfl; have a2 := hI.out.a.c 2 _ rfl; have b0 := hI.out.b.c 0 _ rfl; have b1 := hI.out.b.c 1 _ rfl)))
     |(go_at_call 74; clear a1 a2 b0 b1; refine (CheckPolygon_any p.V p.d p.ps _ (hpp.out.below hI.out.bel)).mono ?_; rintro e0 wn ⟨rfl, hbn⟩; rw [h3.out]; (replace hI := Lib.hid (hI.out.below hbn); clear hbn; (have a1 := hI.out.a.c 1 _ rfl; have a2 := hI.out.a.c 2 _ rfl; have b0 := hI.out.b.c 0 _ rfl; have b1 := hI.out.b.c 1 _ rfl)))
     |(go_at_call 68; clear a1 a2 b0 b1; refine (hwi.out _ hI.out).mono ?_; rintro e0 wn ⟨rfl, hbn⟩; rw [h4.out]; (replace hI := Lib.hid (hI.out.below hbn); clear hbn; (have a1 := hI.out.a.c 1 _ rfl; have a2 := hI.out.a.c 2 _ rfl; have b0 := hI.out.b.c 0 _ rfl; have b1 := hI.out.b.c 1 _ rfl)))
     |(go_at_call 80; clear a1 a2 b0 b1; refine (hidx.out _ hI.out).mono ?_; rintro e0 wn ⟨rfl, hbn⟩; rw [h5.out]; (replace hI := Lib.hid (hI.out.below hbn); clear hbn; (have a1 := hI.out.a.c 1 _ rfl; have a2 := hI.out.a.c 2 _ rfl; have b0 := hI.out.b.c 0 _ rfl; have b1 := hI.out.b.c 1 _ rfl))))
    go_ret2
    exact ⟨by rw [hR.out]; rfl, hI.out.bel⟩
   ·go_enter Try.func75, Try.ntmps75
    go_wp2_with (first
     |(go_at_call 73; refine (gisName_any p.name _ hpn.out).mono ?_; rintro e0 wn ⟨rfl, hbn⟩; rw [h1.out]; have hI := Lib.hid (hI0.out.below hbn); clear hbn; (have a1 := hI.out.a.c 1 _ rfl; have a2 := hI.out.a.c 2 _ rfl; have b0 := hI.out.b.c 0 _ rfl; have b1 := hI.out.b.c 1 _ rfl))
     |(go_at_call 98; clear a1 a2 b0 b1; refine (hcont.out _ hI.out).mono ?_; rintro e0 wn ⟨rfl, hbn⟩; rw [h2.out]; (replace hI := Lib.hid (hI.out.below hbn); clear hbn; (have a1 := hI.out.a.c 1 _ rfl; have a2 := hI.out.a.c 2 _ rfl; have b0 := hI.out.b.c 0 _ rfl; have b1 := hI.out.b.c 1 _ rfl)))
     |(go_at_call 74; clear a1 a2 b0 b1; refine (CheckPolygon_any p.V p.d p.ps _ (hpp.out.below hI.out.bel)).mono ?_; rintro e0 wn ⟨rfl, hbn⟩; rw [h3.out]; (replace hI := Lib.hid (hI.out.below hbn); clear hbn; (have a1 := hI.out.a.c 1 _ rfl; have a2 := hI.out.a.c 2 _ rfl; have b0 := hI.out.b.c 0 _ rfl; have b1 := hI.out.b.c 1 _ rfl)))
     |(go_at_call 68; clear a1 a2 b0 b1; refine (hwi.out _ hI.out).mono ?_; rintro e0 wn ⟨rfl, hbn⟩; rw [h4.out]; (replace hI := Lib.hid (hI.out.below hbn); clear hbn; (have a1 := hI.out.a.c 1 _ rfl; have a2 := hI.out.a.c 2 _ rfl; have b0 := hI.out.b.c 0 _ rfl; have b1 := hI.out.b.c 1 _ rfl)))
     |(go_at_call 80; clear a1 a2 b0 b1; refine (hidx.out _ hI.out).mono ?_; rintro e0 wn ⟨rfl, hbn⟩; rw [h5.out]; (replace hI := Lib.hid (hI.out.below hbn); clear hbn; (have a1 := hI.out.a.c 1 _ rfl; have a2 := hI.out.a.c 2 _ rfl; have b0 := hI.out.b.c 0 _ rfl; have b1 := hI.out.b.c 1 _ rfl))))
    go_ret2
    exact ⟨by rw [hR.out]; rfl, hI.out.bel⟩
end Go.Proofs.Ytfcjeejhdklkdaa
namespace Go.Proofs.Ytfcjeejhdklkdaa
open Go Go.RowKit Go.Shelf
theorem plotE_zero {sec : List Pt} {bf : List Plo} {p : Plo} (h : (plotE sec bf p).2 = 0) : nameB p.name = true ∧ (bf.any fun q => sameN q p) = false ∧ Cal.polyE p.ps = 0 ∧ Cal.withinP p.ps sec = true ∧ (bf.any fun q => Cal.overlapP q.ps p.ps) = false := by
 unfold plotE at h
 split at h
 ·rename_i h1
  split at h
  ·cases h
  ·rename_i h2
   split at h
   ·rename_i h3
    split at h
    ·rename_i h4
     split at h
     ·rename_i h5
      refine ⟨h1, by simpa using h2, h3, h4, ?_⟩
      rw [← idxP_any, decide_eq_false_iff_not]
      omega
     ·cases h
    ·cases h
   ·rename_i h3; exact absurd h h3
 ·cases h
def sectL (sec : List Pt) : List Plo → List Plo → Int × Int × Int
 | _, [] => (0, 0, 0)
 | bf, p :: r => if (plotE sec bf p).2 = 0 then sectL sec (bf ++ [p]) r else ((plotE sec bf p).1, bf.length, (plotE sec bf p).2)
def sectE (name : ByteArray) (ps : List Pt) (l : List Plo) : Int × Int × Int :=
 if nameB name = true then (if Cal.polyE ps = 0 then (if 60 < l.length then (0, 0, 8) else sectL ps [] l) else (0, 0, Cal.polyE ps)) else (0, 0, 4)
structure CsI (w : World) (s : Sct) (W : World) : Prop where
 a : BoxAt W w.heap.size [.string s.name, .slice s.V s.ps.length s.d, .slice s.S s.l.length s.e]
 r : BoxAt W (w.heap.size + 1) [.int .i64 0, .int .i64 0]
 bel : Below w.heap.size w W
theorem CsI.below {w : World} {s : Sct} {X Y : World} (h : CsI w s X) (hb : Below X.heap.size X Y) : CsI w s Y := ⟨h.a.below hb, h.r.below hb, below_step h.bel hb⟩
structure SctR (w : World) (s : Sct) : Prop where
 nm : s.name.size ≤ maxLen
 pts : PtsR w s.V s.ps
 few : few s.ps
 plots : Plos w s.S s.l
 cap : s.l.length ≤ s.e
 fews : ∀ p ∈ s.l, Go.Proofs.Ytfcjeejhdklkdaa.few p.ps
theorem SctR.below {w w' : World} {s : Sct} (h : SctR w s) (hb : Below w.heap.size w w') : SctR w' s := ⟨h.nm, h.pts.below hb, h.few, h.plots.below hb, h.cap, h.fews⟩
theorem arr2Size : (Try.prog.info? 64).map (·.size) = some 2 := by kernel_rfl
theorem sectL_drop {sec : List Pt} {l : List Plo} {k : Nat} (h : k < l.length) : sectL sec (l.take k) (l.drop k) = if (plotE sec (l.take k) l[k]).2 = 0 then sectL sec (l.take (k + 1)) (l.drop (k + 1)) else ((plotE sec (l.take k) l[k]).1, (k : Int), (plotE sec (l.take k) l[k]).2) := by
 rw [List.drop_eq_getElem_cons h, List.take_succ_eq_append_getElem h]
 show (if (plotE sec (l.take k) l[k]).2 = 0 then _ else ((plotE sec (l.take k) l[k]).1, ((l.take k).length : Int), (plotE sec (l.take k) l[k]).2)) = _
 rw [List.length_take, Nat.min_eq_left (by omega)]
theorem CheckSection_any (s : Sct) (w : World) (hS : SctR w s) :
  Calls Try.prog 37 #[.agg #[.string s.name, .slice s.V s.ps.length s.d, .slice s.S s.l.length s.e]] w fun e w' => e = .returned (.tuple #[.agg #[.int .i64 (sectE s.name s.ps s.l).1, .int .i64 (sectE s.name s.ps s.l).2.1], .int .i64 (sectE s.name s.ps s.l).2.2]) ∧ Below w.heap.size w w' := by
 obtain ⟨R, hRR⟩ : ∃ R, sectE s.name s.ps s.l = R := ⟨_, rfl⟩
 rw [hRR]
 have hsz := hS.plots.size
 have hnm := Lib.hid hS.nm
 replace hS := Lib.hid hS
 obtain ⟨x1, h1⟩ : ∃ x, nameB s.name = x := ⟨_, rfl⟩
 obtain ⟨x2, h2⟩ : ∃ x, Cal.polyE s.ps = x := ⟨_, rfl⟩
 have hR : Hid (R = if x1 = true then (if x2 = 0 then (if 60 < s.l.length then (0, 0, 8) else sectL s.ps [] s.l) else (0, 0, x2)) else (0, 0, 4)) := by
  show _ = _
  rw [← hRR]
  unfold sectE
  rw [h1, h2]
 clear hRR
 have hI : Hid (CsI w s ((w.alloc (.cells #[.string s.name, .slice s.V s.ps.length s.d, .slice s.S s.l.length s.e] 62)).alloc (.cells #[.int .i64 0, .int .i64 0] 64))) := by
  have b2 := BoxAt.new (w.alloc (.cells #[.string s.name, .slice s.V s.ps.length s.d, .slice s.S s.l.length s.e] 62)) #[.int .i64 0, .int .i64 0] 64
  rw [World.size_alloc] at b2
  exact ⟨(BoxAt.new w #[.string s.name, .slice s.V s.ps.length s.d, .slice s.S s.l.length s.e] 62).alloc _, b2, below_step (below_alloc _ _) (below_alloc _ _)⟩
 replace h1 := Lib.hid h1
 (have a0 := hI.out.a.c 0 _ rfl; have a1 := hI.out.a.c 1 _ rfl; have a2 := hI.out.a.c 2 _ rfl; have r0 := hI.out.r.c 0 _ rfl; have r1 := hI.out.r.c 1 _ rfl; have f0 := hI.out.r.free 0 (by simp); have f1 := hI.out.r.free 1 (by simp))
 cases x1
 ·replace h2 := Lib.hid h2
  go_enter Try.func37, Try.ntmps37
  go_wp2_with (first
   |(go_at_call 73; clear a0 a1 a2 r0 r1 f0 f1; refine (gisName_any s.name _ hnm.out).mono ?_; rintro e0 wn ⟨rfl, hbn⟩; rw [h1.out]; (replace hI := Lib.hid (hI.out.below hbn); clear hbn; (have a0 := hI.out.a.c 0 _ rfl; have a1 := hI.out.a.c 1 _ rfl; have a2 := hI.out.a.c 2 _ rfl; have r0 := hI.out.r.c 0 _ rfl; have r1 := hI.out.r.c 1 _ rfl; have f0 := hI.out.r.free 0 (by simp); have f1 := hI.out.r.free 1 (by simp))))
   |(go_at_call 74; clear a0 a1 a2 r0 r1 f0 f1; refine (CheckPolygon_any s.V s.d s.ps _ (hS.out.pts.below hI.out.bel)).mono ?_; rintro e0 wn ⟨rfl, hbn⟩; rw [h2.out]; (replace hI := Lib.hid (hI.out.below hbn); clear hbn; (have a0 := hI.out.a.c 0 _ rfl; have a1 := hI.out.a.c 1 _ rfl; have a2 := hI.out.a.c 2 _ rfl; have r0 := hI.out.r.c 0 _ rfl; have r1 := hI.out.r.c 1 _ rfl; have f0 := hI.out.r.free 0 (by simp); have f1 := hI.out.r.free 1 (by simp)))))
  refine bodyPost_ret (results_mid2 rfl _ _ (w.heap.size + 1) [.int .i64 (0), .int .i64 (0)] _ rfl ((hI.out.r.set 0 (.int .i64 (0)) (by simp)).set 1 (.int .i64 (0)) (by simp)).range Try.underlying64 rfl arr2Size) rfl ⟨by rw [hR.out]; rfl, ?_⟩
  exact (hI.out.bel.setCell (p := ⟨w.heap.size + 1, 0, none⟩) (Nat.le_succ _) _).setCell (p := ⟨w.heap.size + 1, 1, none⟩) (Nat.le_succ _) _
 ·by_cases z2 : x2 = 0
  ·subst z2
   by_cases h60 : 60 < s.l.length
   ·replace hR : Hid (R = (0, 0, 8)) := by show _ = _; rw [hR.out, if_pos rfl, if_pos rfl, if_pos h60]
    have h61 : 60 < (s.l.length : Int) := by omega
    replace h2 := Lib.hid h2
    go_enter Try.func37, Try.ntmps37
    go_wp2_with (first
     |(go_at_call 73; clear a0 a1 a2 r0 r1 f0 f1; refine (gisName_any s.name _ hnm.out).mono ?_; rintro e0 wn ⟨rfl, hbn⟩; rw [h1.out]; (replace hI := Lib.hid (hI.out.below hbn); clear hbn; (have a0 := hI.out.a.c 0 _ rfl; have a1 := hI.out.a.c 1 _ rfl; have a2 := hI.out.a.c 2 _ rfl; have r0 := hI.out.r.c 0 _ rfl; have r1 := hI.out.r.c 1 _ rfl; have f0 := hI.out.r.free 0 (by simp); have f1 := hI.out.r.free 1 (by simp))))
     |(go_at_call 74; clear a0 a1 a2 r0 r1 f0 f1; refine (CheckPolygon_any s.V s.d s.ps _ (hS.out.pts.below hI.out.bel)).mono ?_; rintro e0 wn ⟨rfl, hbn⟩; rw [h2.out]; (replace hI := Lib.hid (hI.out.below hbn); clear hbn; (have a0 := hI.out.a.c 0 _ rfl; have a1 := hI.out.a.c 1 _ rfl; have a2 := hI.out.a.c 2 _ rfl; have r0 := hI.out.r.c 0 _ rfl; have r1 := hI.out.r.c 1 _ rfl; have f0 := hI.out.r.free 0 (by simp); have f1 := hI.out.r.free 1 (by simp)))))
    refine bodyPost_ret (results_mid2 rfl _ _ (w.heap.size + 1) [.int .i64 (0), .int .i64 (0)] _ rfl ((hI.out.r.set 0 (.int .i64 (0)) (by simp)).set 1 (.int .i64 (0)) (by simp)).range Try.underlying64 rfl arr2Size) rfl ⟨by rw [hR.out]; rfl, ?_⟩
    exact (hI.out.bel.setCell (p := ⟨w.heap.size + 1, 0, none⟩) (Nat.le_succ _) _).setCell (p := ⟨w.heap.size + 1, 1, none⟩) (Nat.le_succ _) _
   ·replace hR : Hid (R = sectL s.ps [] s.l) := by show _ = _; rw [hR.out, if_pos rfl, if_pos rfl, if_neg h60]
    have h61 : ¬ 60 < (s.l.length : Int) := by omega
    have hC : Hid (Plg w s.V s.ps) := hS.out.pts.plg h2 (few_ok hS.out.few h2)
    replace h2 := Lib.hid h2
    have hR0 : Hid (R = sectL s.ps (s.l.take 0) (s.l.drop 0)) := hR
    have hok0 : Hid (∀ q ∈ s.l.take 0, Cal.polyE q.ps = 0) := fun q hq => by cases hq
    clear hR
    go_enter Try.func37, Try.ntmps37
    go_wp2_with (first
     |(go_at_call 73; clear a0 a1 a2 r0 r1 f0 f1; refine (gisName_any s.name _ hnm.out).mono ?_; rintro e0 wn ⟨rfl, hbn⟩; rw [h1.out]; (replace hI := Lib.hid (hI.out.below hbn); clear hbn; (have a0 := hI.out.a.c 0 _ rfl; have a1 := hI.out.a.c 1 _ rfl; have a2 := hI.out.a.c 2 _ rfl; have r0 := hI.out.r.c 0 _ rfl; have r1 := hI.out.r.c 1 _ rfl; have f0 := hI.out.r.free 0 (by simp); have f1 := hI.out.r.free 1 (by simp))))
     |(go_at_call 74; clear a0 a1 a2 r0 r1 f0 f1; refine (CheckPolygon_any s.V s.d s.ps _ (hS.out.pts.below hI.out.bel)).mono ?_; rintro e0 wn ⟨rfl, hbn⟩; rw [h2.out]; (replace hI := Lib.hid (hI.out.below hbn); clear hbn; (have a0 := hI.out.a.c 0 _ rfl; have a1 := hI.out.a.c 1 _ rfl; have a2 := hI.out.a.c 2 _ rfl; have r0 := hI.out.r.c 0 _ rfl; have r1 := hI.out.r.c 1 _ rfl; have f0 := hI.out.r.free 0 (by simp); have f1 := hI.out.r.free 1 (by simp)))))
    clear a0 a1 a2 r0 r1 f0 f1
    go_loopw [28] (fun i wr => ∃ k : Nat, k ≤ s.l.length ∧ i = .int .i64 k ∧ Hid (R = sectL s.ps (s.l.take k) (s.l.drop k)) ∧ Hid (∀ q ∈ s.l.take k, Cal.polyE q.ps = 0) ∧ Hid (CsI w s wr)) (fun i _ => s.l.length - (intOf i).toNat)
    case atStart => exact ⟨0, Nat.zero_le _, rfl, hR0, hok0, hI⟩
    case round =>
     clear hR0 hok0 hI
     obtain ⟨k, hk, rfl, hR, hok, hI⟩ := hrel
     by_cases hlt : k < s.l.length
     ·have hd := sectL_drop (sec := s.ps) hlt
      obtain ⟨E, hE⟩ : ∃ E, plotE s.ps (s.l.take k) s.l[k] = E := ⟨_, rfl⟩
      rw [hE] at hd
      have hcall : Hid (∀ W, CsI w s W → Calls Try.prog 75 #[.agg #[.string s.name, .slice s.V s.ps.length s.d, .slice s.S s.l.length s.e], .int .i64 (k : Int)] W fun e w' => e = .returned (.tuple #[.int .i64 E.1, .int .i64 E.2]) ∧ Below W.heap.size W w') := fun W hW => by
       have := checkPlot_any s k W hlt (hS.out.plots.below hW.bel) hS.out.cap (hC.out.below hW.bel) hS.out.fews hok.out
       rw [hE] at this
       exact this
      (have a0 := hI.out.a.c 0 _ rfl; have a1 := hI.out.a.c 1 _ rfl; have a2 := hI.out.a.c 2 _ rfl; have r0 := hI.out.r.c 0 _ rfl; have r1 := hI.out.r.c 1 _ rfl; have f0 := hI.out.r.free 0 (by simp); have f1 := hI.out.r.free 1 (by simp))
      by_cases z : E.2 = 0
      ·have hok2 : Hid (∀ q ∈ s.l.take (k + 1), Cal.polyE q.ps = 0) := fun q hq => by
        rw [List.take_succ_eq_append_getElem hlt] at hq
        rcases List.mem_append.1 hq with h | h
        ·exact hok.out q h
        ·rw [List.mem_singleton.1 h]
         exact (plotE_zero (hE ▸ z)).2.2.1
       rw [if_pos z] at hd
       have hR2 : Hid (R = sectL s.ps (s.l.take (k + 1)) (s.l.drop (k + 1))) := hR.out.trans hd
       obtain ⟨E1, E2⟩ := E
       dsimp only at z hcall
       subst z
       clear hE hd hok hR
       go_wp2_with (go_at_call 75; clear a0 a1 a2 r0 r1 f0 f1; refine (hcall.out _ hI.out).mono ?_; rintro e0 wn ⟨rfl, hbn⟩; (replace hI := Lib.hid (hI.out.below hbn); clear hbn; (have a0 := hI.out.a.c 0 _ rfl; have a1 := hI.out.a.c 1 _ rfl; have a2 := hI.out.a.c 2 _ rfl; have r0 := hI.out.r.c 0 _ rfl; have r1 := hI.out.r.c 1 _ rfl; have f0 := hI.out.r.free 0 (by simp); have f1 := hI.out.r.free 1 (by simp))))
       clear a0 a1 a2 r0 r1 f0 f1
       go_roundw
       case rel => exact ⟨k + 1, by omega, by go_num, hR2, hok2, hI⟩
       case measure => simp [intOf]; omega
      ·rw [if_neg z] at hd
       replace hR : Hid (R = (E.1, (k : Int), E.2)) := hR.out.trans hd
       obtain ⟨E1, E2⟩ := E
       dsimp only at z hcall hR
       clear hE hd hok
       go_wp2_with (go_at_call 75; clear a0 a1 a2 r0 r1 f0 f1; refine (hcall.out _ hI.out).mono ?_; rintro e0 wn ⟨rfl, hbn⟩; (replace hI := Lib.hid (hI.out.below hbn); clear hbn; (have a0 := hI.out.a.c 0 _ rfl; have a1 := hI.out.a.c 1 _ rfl; have a2 := hI.out.a.c 2 _ rfl; have r0 := hI.out.r.c 0 _ rfl; have r1 := hI.out.r.c 1 _ rfl; have f0 := hI.out.r.free 0 (by simp); have f1 := hI.out.r.free 1 (by simp))))
       refine bodyPost_ret (results_mid2 rfl _ _ (w.heap.size + 1) [.int .i64 (E1), .int .i64 ((k : Int))] _ rfl ((hI.out.r.set 0 (.int .i64 (E1)) (by simp)).set 1 (.int .i64 ((k : Int))) (by simp)).range Try.underlying64 rfl arr2Size) rfl ⟨by rw [hR.out]; rfl, ?_⟩
       exact (hI.out.bel.setCell (p := ⟨w.heap.size + 1, 0, none⟩) (Nat.le_succ _) _).setCell (p := ⟨w.heap.size + 1, 1, none⟩) (Nat.le_succ _) _
     ·obtain rfl : k = s.l.length := by omega
      replace hR : Hid (R = (0, 0, 0)) := by show _ = _; rw [hR.out, List.drop_length]; rfl
      clear hok
      (have a0 := hI.out.a.c 0 _ rfl; have a1 := hI.out.a.c 1 _ rfl; have a2 := hI.out.a.c 2 _ rfl; have r0 := hI.out.r.c 0 _ rfl; have r1 := hI.out.r.c 1 _ rfl; have f0 := hI.out.r.free 0 (by simp); have f1 := hI.out.r.free 1 (by simp))
      go_wp2_with fail
      refine bodyPost_ret (results_mid2 rfl _ _ (w.heap.size + 1) [.int .i64 (0), .int .i64 (0)] _ rfl ((hI.out.r.set 0 (.int .i64 (0)) (by simp)).set 1 (.int .i64 (0)) (by simp)).range Try.underlying64 rfl arr2Size) rfl ⟨by rw [hR.out]; rfl, ?_⟩
      exact (hI.out.bel.setCell (p := ⟨w.heap.size + 1, 0, none⟩) (Nat.le_succ _) _).setCell (p := ⟨w.heap.size + 1, 1, none⟩) (Nat.le_succ _) _
  ·replace hR : Hid (R = (0, 0, x2)) := by show _ = _; rw [hR.out, if_pos rfl, if_neg z2]
   replace h2 := Lib.hid h2
   go_enter Try.func37, Try.ntmps37
   go_wp2_with (first
    |(go_at_call 73; clear a0 a1 a2 r0 r1 f0 f1; refine (gisName_any s.name _ hnm.out).mono ?_; rintro e0 wn ⟨rfl, hbn⟩; rw [h1.out]; (replace hI := Lib.hid (hI.out.below hbn); clear hbn; (have a0 := hI.out.a.c 0 _ rfl; have a1 := hI.out.a.c 1 _ rfl; have a2 := hI.out.a.c 2 _ rfl; have r0 := hI.out.r.c 0 _ rfl; have r1 := hI.out.r.c 1 _ rfl; have f0 := hI.out.r.free 0 (by simp); have f1 := hI.out.r.free 1 (by simp))))
    |(go_at_call 74; clear a0 a1 a2 r0 r1 f0 f1; refine (CheckPolygon_any s.V s.d s.ps _ (hS.out.pts.below hI.out.bel)).mono ?_; rintro e0 wn ⟨rfl, hbn⟩; rw [h2.out]; (replace hI := Lib.hid (hI.out.below hbn); clear hbn; (have a0 := hI.out.a.c 0 _ rfl; have a1 := hI.out.a.c 1 _ rfl; have a2 := hI.out.a.c 2 _ rfl; have r0 := hI.out.r.c 0 _ rfl; have r1 := hI.out.r.c 1 _ rfl; have f0 := hI.out.r.free 0 (by simp); have f1 := hI.out.r.free 1 (by simp)))))
   refine bodyPost_ret (results_mid2 rfl _ _ (w.heap.size + 1) [.int .i64 (0), .int .i64 (0)] _ rfl ((hI.out.r.set 0 (.int .i64 (0)) (by simp)).set 1 (.int .i64 (0)) (by simp)).range Try.underlying64 rfl arr2Size) rfl ⟨by rw [hR.out]; rfl, ?_⟩
   exact (hI.out.bel.setCell (p := ⟨w.heap.size + 1, 0, none⟩) (Nat.le_succ _) _).setCell (p := ⟨w.heap.size + 1, 1, none⟩) (Nat.le_succ _) _
end Go.Proofs.Ytfcjeejhdklkdaa
