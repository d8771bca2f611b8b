/- Chapter 8 and what it rests on: definitions and walks, part 34. -/
import Derived.Test.YtconnjkkgaapbaaGreatDoorC33
import Derived.Test.YtconnjkkgaapbaaGreatDoorC31
import Derived.Test.YtconnjkkgaapbaaGreatDoorC29
namespace Go.Proofs.YtconnjkkgaapbaaGreatDoor
open Go Go.RowKit
def Cal.addTo (p : Proc) (n : Note) (day : Int) : Nat → List Int
  | 0 => []
  | k + 1 => Cal.addTo p n day k ++ if Cal.addE p n (mayAct day k) = 0 then [(k : Int)] else []
theorem Cal.addTo_yes {p : Proc} {n : Note} {day : Int} (hv : (Cal.checkS p n).2 = 0) (hl : n.acts.length < 40) : ∀ k, Cal.addTo p n day k = Cal.mayTo p (Cal.stAt p n 200000) day k
  | 0 => rfl
  | k + 1 => by
    have e : Cal.addE p n (mayAct day k) = (Cal.actS p (Cal.stAt p n 200000) (mayAct day k)).2 := by rw [Cal.addE_at hv, if_neg (by omega)]
    unfold Cal.addTo Cal.mayTo
    rw [Cal.addTo_yes hv hl k, e]
theorem Cal.addTo_no {p : Proc} {n : Note} {day : Int} (hv : (Cal.checkS p n).2 = 0) (hl : ¬ n.acts.length < 40) : ∀ k, Cal.addTo p n day k = []
  | 0 => rfl
  | k + 1 => by
    have h8 : Cal.addE p n (mayAct day k) = 8 := by rw [Cal.addE_at hv, if_pos (by omega)]
    unfold Cal.addTo
    rw [Cal.addTo_no hv hl k, h8]; rfl
theorem Cal.addTo_may {p : Proc} {n : Note} {day : Int} (hv : (Cal.checkS p n).2 = 0) : Cal.addTo p n day 8 = Cal.mayL p n day := by
  unfold Cal.mayL
  split
  · rename_i h; exact Cal.addTo_yes hv h 8
  · rename_i h; exact Cal.addTo_no hv h 8
/-- Add of the reference: whatever notice, and the error. -/
def AddRAny (w : World) (E : Int) (e : Ending) (w' : World) : Prop := ∃ (m : Note) (N1 : Option Addr) (d1 : Nat), e = .returned (.tuple #[.agg #[.string m.name, .int .i64 m.opened, .slice N1 m.acts.length d1], .int .i64 E]) ∧ Below w.heap.size w w'
theorem AddR_e (A : Option Addr) (c : Nat) (p : Proc) (N : Option Addr) (d : Nat) (n : Note) (a : NAct) (w : World) (hN : NB w A p N n) (hv : (Cal.checkS p n).2 = 0) :
    Calls Tryz.prog 39 #[.agg #[.int .i64 p.runs.m, .int .i64 p.runs.d, .bool p.runs.k, .int .i64 p.obj.m, .int .i64 p.obj.d, .bool p.obj.k, .int .i64 p.wait.m, .int .i64 p.wait.d, .bool p.wait.k, .int .i64 p.exts, .int .i64 p.longest, .slice A p.hols.length c], .agg #[.string n.name, .int .i64 n.opened, .slice N n.acts.length d], .agg #[.int .i64 a.day, .int .i64 a.kind, .int .i64 a.days]] w (AddRAny w (Cal.addE p n a)) := by
  by_cases hE : Cal.addE p n a = 0
  · refine (AddR_ok A c p N d n a w hN hv hE).mono ?_
    rintro e w' ⟨N1, d1, rfl, _, hb⟩
    exact ⟨n.more a, N1, d1, by rw [hE], hb⟩
  · refine (AddR_no A c p N d n a w hN hv hE).mono ?_
    rintro e w' ⟨rfl, hb⟩
    exact ⟨⟨⟨#[]⟩, 0, []⟩, none, 0, rfl, hb⟩
structure MyRI (w : World) (B : Nat) (A : Option Addr) (c : Nat) (p : Proc) (N : Option Addr) (d : Nat) (n : Note) (v : Value) (zs : List Int) (wr : World) : Prop where
  fr : Below w.heap.size w wr
  g1 : BoxAt wr w.heap.size [.int .i64 p.runs.m, .int .i64 p.runs.d, .bool p.runs.k, .int .i64 p.obj.m, .int .i64 p.obj.d, .bool p.obj.k, .int .i64 p.wait.m, .int .i64 p.wait.d, .bool p.wait.k, .int .i64 p.exts, .int .i64 p.longest, .slice A p.hols.length c]
  g2 : BoxAt wr (w.heap.size + 1) [.string n.name, .int .i64 n.opened, .slice N n.acts.length d]
  own : IntsL wr B v zs
  hB : B ≤ wr.heap.size
  h2 : w.heap.size + 1 < B
theorem MyRI.below {w wr wr' : World} {B : Nat} {A : Option Addr} {c : Nat} {p : Proc} {N : Option Addr} {d : Nat} {n : Note} {v : Value} {zs : List Int} (h : MyRI w B A c p N d n v zs wr) (hb : Below wr.heap.size wr wr') : MyRI w B A c p N d n v zs wr' :=
  ⟨below_step h.fr hb, h.g1.below hb, h.g2.below hb, h.own.below hb, Nat.le_trans h.hB hb.size, h.h2⟩
theorem MyRI.push {w wr wr' : World} {B : Nat} {A : Option Addr} {c : Nat} {p : Proc} {N : Option Addr} {d : Nat} {n : Note} {v v' : Value} {zs zs' : List Int} (h : MyRI w B A c p N d n v zs wr) (hb : Below B wr wr') (ho : IntsL wr' B v' zs') : MyRI w B A c p N d n v' zs' wr' :=
  ⟨h.fr.trans (hb.mono (by have := h.h2; omega)), h.g1.belowB hb (by have := h.h2; omega), h.g2.belowB hb h.h2, ho, Nat.le_trans h.hB hb.size, h.h2⟩
theorem MyRI.six {w wr w3 w4 : World} {B : Nat} {A : Option Addr} {c : Nat} {p : Proc} {N : Option Addr} {d : Nat} {n : Note} {v : Value} {zs : List Int} (h : MyRI w B A c p N d n v zs w3) (h0 : MyRI w B A c p N d n v zs wr) (hg : w3.grownBy w4 (some wr.heap.size)) : MyRI w B A c p N d n v zs w4 := by
  have e1 := h0.hB
  have e3 := h0.h2
  exact ⟨below_of_grownB h.fr hg (by omega), h.g1.grown hg (by simp; omega), h.g2.grown hg (by simp; omega), h.own.kept hg (by right; intro e; have := (OwnL.lt h0.own _ e).2; omega), Nat.le_trans h.hB hg.size, h.h2⟩
set_option maxRecDepth 100000 in
set_option maxHeartbeats 8000000 in
theorem MayR_any (A : Option Addr) (c : Nat) (p : Proc) (N : Option Addr) (d : Nat) (n : Note) (day : Int) (w : World) (hN : NB w A p N n) (hv : (Cal.checkS p n).2 = 0) :
    Calls Tryz.prog 36 #[.agg #[.int .i64 p.runs.m, .int .i64 p.runs.d, .bool p.runs.k, .int .i64 p.obj.m, .int .i64 p.obj.d, .bool p.obj.k, .int .i64 p.wait.m, .int .i64 p.wait.d, .bool p.wait.k, .int .i64 p.exts, .int .i64 p.longest, .slice A p.hols.length c], .agg #[.string n.name, .int .i64 n.opened, .slice N n.acts.length d], .int .i64 day] w (BlPostR w (Cal.mayL p n day)) := by
  rw [← Cal.addTo_may hv]
  have hN := Lib.hid hN
  have haR := Lib.hid (fun w1 a h => AddR_e A c p N d n a w1 h hv)
  clear hv
  obtain ⟨g1, g2, hb⟩ := start2 w A c p N d n
  go_enter Tryz.func36, Tryz.ntmps36
  have hI : Hid (MyRI w (w.heap.size + 1 + 1) A c p N d n (.slice none 0 0) [] ((w.alloc (.cells #[.int .i64 p.runs.m, .int .i64 p.runs.d, .bool p.runs.k, .int .i64 p.obj.m, .int .i64 p.obj.d, .bool p.obj.k, .int .i64 p.wait.m, .int .i64 p.wait.d, .bool p.wait.k, .int .i64 p.exts, .int .i64 p.longest, .slice A p.hols.length c] 26)).alloc (.cells #[.string n.name, .int .i64 n.opened, .slice N n.acts.length d] 29))) := ⟨hb.out, g1.out, g2.out, OwnL.nil _ _ _ _, by simp, by omega⟩
  clear g1 g2 hb
  go_wp2_with fail
  generalize hBe : w.heap.size + 1 + 1 = B at *
  go_loopw [7, 8] (fun v i wr => ∃ (k : Nat) (zs : List Int), k ≤ 8 ∧ i = .int .i64 k ∧ zs.length ≤ k ∧ Hid (Cal.addTo p n day k = zs) ∧ Hid (MyRI w B A c p N d n v zs wr)) (fun _ i _ => 8 - (intOf i).toNat)
  case atStart => exact ⟨0, [], by omega, rfl, by simp, rfl, hI⟩
  case round =>
    clear hI
    obtain ⟨k, zs, hk, rfl, hzl, hzs, hI⟩ := hrel
    by_cases hk8 : k < 8
    · have hN12 := Lib.hid (BoxAt.new wr #[.int .i64 0, .int .i64 0, .int .i64 0] 64)
      by_cases h6 : k = 6
      · have h6b : ((k : Int) == 6) = true := by subst h6; rfl
        have hra : Hid (mayAct day k = ⟨day, k, 1⟩) := by show _ = _; unfold mayAct; subst h6; rfl
        obtain ⟨E, hr0⟩ : ∃ E, Cal.addE p n ⟨day, k, 1⟩ = E := ⟨_, rfl⟩
        have hra : Hid (Cal.addE p n (mayAct day k) = E) := by show _ = _; rw [hra.out, hr0]
        have hr := Lib.hid hr0
        clear hr0 h6
        go_wp2_with (first | ((refine wpList_store_box rfl 64 (.tmp 9) (.tmp 18) rfl (wr.heap.size) _ [.int .i64 day, .int .i64 k, .int .i64 0] (by rfl) (by rfl) hN12.out rfl acSize (by kernel_rfl) ?_; intro w3 h3 hg3); have hI3 := Lib.hid (hI.out.below (below_of_grownB (below_alloc wr _) hg3 (Nat.le_refl _))); have f2 := h3.free 2 (by simp); have x2 := h3.c 2 _ rfl; have h4 := h3.set 2 (.int .i64 1) (by simp); have hg4 := grown_set w3 wr.heap.size 2 (.int .i64 1); have a0 := h4.c 0 _ rfl; have a1 := h4.c 1 _ rfl; have a2 := h4.c 2 _ rfl; have hI4 := Lib.hid (hI3.out.six hI.out hg4); clear hg4 h4 hg3; have c0 := hI4.out.g2.c 0 _ rfl; have c1 := hI4.out.g2.c 1 _ rfl; have c2 := hI4.out.g2.c 2 _ rfl) | (refine wpPr hI4.out.g1 (.tmp 3) rfl ?_))
        refine (haR.out _ ⟨day, k, 1⟩ (hN.out.below hI4.out.fr)).mono ?_
        rintro e w5 ⟨m, N1, d1, he, hb5⟩
        rw [hr.out] at he
        subst he
        have hI5 := Lib.hid (hI4.out.below hb5)
        clear a0 a1 a2 c0 c1 c2 hb5 hI4
        have hN10 := Lib.hid (BoxAt.new w5 #[.string ⟨#[]⟩, .int .i64 0, .slice none 0 0] 29)
        by_cases hE : E = 0
        · have hEb : (E == 0) = true := by simpa using hE
          have hnx : Hid (Cal.addTo p n day (k + 1) = zs ++ [(k : Int)]) := by show _ = _; unfold Cal.addTo; rw [hra.out, if_pos hE, hzs.out]
          clear hE
          go_wp2_with (first | ((refine wpList_store_box rfl 29 (.tmp 10) (.tmp 27) rfl (w5.heap.size) _ [.string m.name, .int .i64 m.opened, .slice N1 m.acts.length d1] (by rfl) (by rfl) hN10.out rfl ntSize (by kernel_rfl) ?_; intro w6 h10 hg10); have hI6 := Lib.hid (hI5.out.below (below_of_grownB (below_alloc w5 _) hg10 (Nat.le_refl _))); clear hg10 h10) | (at_builtin; refine wpPush (k : Int) hI6.out.own hI6.out.hB (by omega) rfl _ _ rfl rfl rfl ?_; intro v' w7 hown7 hb7))
          have hI7 := Lib.hid (hI6.out.push hb7 hown7)
          clear hown7 hb7
          go_wp2_with fail
          go_roundw
          case rel => exact ⟨k + 1, zs ++ [(k : Int)], by omega, by go_num, by simp; omega, hnx, hI7⟩
          case measure => simp [intOf]; omega
        · have hEb : (E == 0) = false := by simpa using hE
          have hnx : Hid (Cal.addTo p n day (k + 1) = zs) := by show _ = _; unfold Cal.addTo; rw [hra.out, if_neg hE, hzs.out, List.append_nil]
          clear hE
          go_wp2_with ((refine wpList_store_box rfl 29 (.tmp 10) (.tmp 27) rfl (w5.heap.size) _ [.string m.name, .int .i64 m.opened, .slice N1 m.acts.length d1] (by rfl) (by rfl) hN10.out rfl ntSize (by kernel_rfl) ?_; intro w6 h10 hg10); have hI6 := Lib.hid (hI5.out.below (below_of_grownB (below_alloc w5 _) hg10 (Nat.le_refl _))); clear hg10 h10)
          go_roundw
          case rel => exact ⟨k + 1, zs, by omega, by go_num, by omega, hnx, hI6⟩
          case measure => simp [intOf]; omega
      · have h6b : ((k : Int) == 6) = false := by simp; omega
        have hra : Hid (mayAct day k = ⟨day, k, 0⟩) := by show _ = _; unfold mayAct; rw [if_neg (by omega)]
        obtain ⟨E, hr0⟩ : ∃ E, Cal.addE p n ⟨day, k, 0⟩ = E := ⟨_, rfl⟩
        have hra : Hid (Cal.addE p n (mayAct day k) = E) := by show _ = _; rw [hra.out, hr0]
        have hr := Lib.hid hr0
        clear hr0 h6
        go_wp2_with (first | ((refine wpList_store_box rfl 64 (.tmp 9) (.tmp 18) rfl (wr.heap.size) _ [.int .i64 day, .int .i64 k, .int .i64 0] (by rfl) (by rfl) hN12.out rfl acSize (by kernel_rfl) ?_; intro w3 h3 hg3); have hI4 := Lib.hid (hI.out.below (below_of_grownB (below_alloc wr _) hg3 (Nat.le_refl _))); have a0 := h3.c 0 _ rfl; have a1 := h3.c 1 _ rfl; have a2 := h3.c 2 _ rfl; have c0 := hI4.out.g2.c 0 _ rfl; have c1 := hI4.out.g2.c 1 _ rfl; have c2 := hI4.out.g2.c 2 _ rfl; clear hg3) | (refine wpPr hI4.out.g1 (.tmp 3) rfl ?_))
        refine (haR.out _ ⟨day, k, 0⟩ (hN.out.below hI4.out.fr)).mono ?_
        rintro e w5 ⟨m, N1, d1, he, hb5⟩
        rw [hr.out] at he
        subst he
        have hI5 := Lib.hid (hI4.out.below hb5)
        clear a0 a1 a2 c0 c1 c2 hb5 hI4
        have hN10 := Lib.hid (BoxAt.new w5 #[.string ⟨#[]⟩, .int .i64 0, .slice none 0 0] 29)
        by_cases hE : E = 0
        · have hEb : (E == 0) = true := by simpa using hE
          have hnx : Hid (Cal.addTo p n day (k + 1) = zs ++ [(k : Int)]) := by show _ = _; unfold Cal.addTo; rw [hra.out, if_pos hE, hzs.out]
          clear hE
          go_wp2_with (first | ((refine wpList_store_box rfl 29 (.tmp 10) (.tmp 27) rfl (w5.heap.size) _ [.string m.name, .int .i64 m.opened, .slice N1 m.acts.length d1] (by rfl) (by rfl) hN10.out rfl ntSize (by kernel_rfl) ?_; intro w6 h10 hg10); have hI6 := Lib.hid (hI5.out.below (below_of_grownB (below_alloc w5 _) hg10 (Nat.le_refl _))); clear hg10 h10) | (at_builtin; refine wpPush (k : Int) hI6.out.own hI6.out.hB (by omega) rfl _ _ rfl rfl rfl ?_; intro v' w7 hown7 hb7))
          have hI7 := Lib.hid (hI6.out.push hb7 hown7)
          clear hown7 hb7
          go_wp2_with fail
          go_roundw
          case rel => exact ⟨k + 1, zs ++ [(k : Int)], by omega, by go_num, by simp; omega, hnx, hI7⟩
          case measure => simp [intOf]; omega
        · have hEb : (E == 0) = false := by simpa using hE
          have hnx : Hid (Cal.addTo p n day (k + 1) = zs) := by show _ = _; unfold Cal.addTo; rw [hra.out, if_neg hE, hzs.out, List.append_nil]
          clear hE
          go_wp2_with ((refine wpList_store_box rfl 29 (.tmp 10) (.tmp 27) rfl (w5.heap.size) _ [.string m.name, .int .i64 m.opened, .slice N1 m.acts.length d1] (by rfl) (by rfl) hN10.out rfl ntSize (by kernel_rfl) ?_; intro w6 h10 hg10); have hI6 := Lib.hid (hI5.out.below (below_of_grownB (below_alloc w5 _) hg10 (Nat.le_refl _))); clear hg10 h10)
          go_roundw
          case rel => exact ⟨k + 1, zs, by omega, by go_num, by omega, hnx, hI6⟩
          case measure => simp [intOf]; omega
    · have hk9 : k = 8 := by omega
      have hfin : Hid (Cal.addTo p n day 8 = zs) := by show _ = _; rw [← hk9]; exact hzs.out
      go_wp2_with fail
      go_ret
      rw [hfin.out]
      exact ⟨_, rfl, (IntsL.slice hI.out.own (by omega)).less (by have := hI.out.h2; omega), hI.out.fr⟩
end Go.Proofs.YtconnjkkgaapbaaGreatDoor
