/- Chapter 8 and what it rests on: definitions and walks, part 31. -/
import Derived.Test.YtconnjkkgaapbaaGreatDoorC29
import Derived.Test.YtconnjkkgaapbaaGreatDoorC28
namespace Go.Proofs.YtconnjkkgaapbaaGreatDoor
open Go Go.RowKit
def mayAct (day k : Int) : NAct := ⟨day, k, if k = 6 then 1 else 0⟩
/-- The kinds of acts that are accepted on a day. -/
def Cal.mayTo (p : Proc) (s : NSt) (day : Int) : Nat → List Int
  | 0 => []
  | k + 1 => Cal.mayTo p s day k ++ if (Cal.actS p s (mayAct day k)).2 = 0 then [(k : Int)] else []
theorem Cal.mayTo_len (p : Proc) (s : NSt) (day : Int) : ∀ k, (Cal.mayTo p s day k).length ≤ k
  | 0 => Nat.le_refl _
  | k + 1 => by
    have := Cal.mayTo_len p s day k
    unfold Cal.mayTo
    rw [List.length_append]
    split <;> simp <;> omega
def Cal.mayL (p : Proc) (n : Note) (day : Int) : List Int := if n.acts.length < 40 then Cal.mayTo p (Cal.stAt p n 200000) day 8 else []
theorem Cal.mayTo_none {p : Proc} {s : NSt} {day : Int} (h : ∀ a, (Cal.actS p s a).2 ≠ 0) : ∀ k, Cal.mayTo p s day k = []
  | 0 => rfl
  | k + 1 => by unfold Cal.mayTo; rw [Cal.mayTo_none h k, if_neg (h _)]; rfl
theorem Cal.over_may {p : Proc} {n : Note} (h : (Cal.stAt p n 200000).phase = 4 ∨ (Cal.stAt p n 200000).phase = 5) : Cal.mayL p n 200000 = [] := by
  unfold Cal.mayL
  split
  · refine Cal.mayTo_none (fun a ha => ?_) 8
    obtain ⟨hm, _⟩ := Cal.actS_ok ha
    have hacc := (Cal.mayErr_ok hm).2.2.1
    unfold Cal.accB at hacc
    rcases h with h | h <;> rw [h] at hacc <;> simp at hacc <;> omega
  · rfl
structure MayI (w : World) (b8 B : Nat) (A : Option Addr) (c : Nat) (p : Proc) (N : Option Addr) (d : Nat) (n : Note) (s : NSt) (v : Value) (zs : List Int) (wr : World) : Prop where
  fr : Below w.heap.size w wr
  g2 : BoxAt wr (w.heap.size + 1) [.string n.name, .int .i64 n.opened, .slice N n.acts.length d]
  st : BoxAt wr b8 [.int .i64 p.runs.m, .int .i64 p.runs.d, .bool p.runs.k, .int .i64 p.obj.m, .int .i64 p.obj.d, .bool p.obj.k, .int .i64 p.wait.m, .int .i64 p.wait.d, .bool p.wait.k, .int .i64 p.exts, .int .i64 p.longest, .slice A p.hols.length c, .int .i64 s.phase, .int .i64 s.last, .int .i64 s.deadline, .int .i64 s.object, .int .i64 s.objected, .int .i64 s.extended]
  own : IntsL wr B v zs
  hB : B ≤ wr.heap.size
  h8 : b8 < B
  h2 : w.heap.size + 1 < b8
theorem MayI.below {w wr wr' : World} {b8 B : Nat} {A : Option Addr} {c : Nat} {p : Proc} {N : Option Addr} {d : Nat} {n : Note} {s : NSt} {v : Value} {zs : List Int} (h : MayI w b8 B A c p N d n s v zs wr) (hb : Below wr.heap.size wr wr') : MayI w b8 B A c p N d n s v zs wr' :=
  ⟨below_step h.fr hb, h.g2.below hb, h.st.below hb, h.own.below hb, Nat.le_trans h.hB hb.size, h.h8, h.h2⟩
theorem MayI.push {w wr wr' : World} {b8 B : Nat} {A : Option Addr} {c : Nat} {p : Proc} {N : Option Addr} {d : Nat} {n : Note} {s : NSt} {v v' : Value} {zs zs' : List Int} (h : MayI w b8 B A c p N d n s v zs wr) (hb : Below B wr wr') (ho : IntsL wr' B v' zs') : MayI w b8 B A c p N d n s v' zs' wr' :=
  ⟨h.fr.trans (hb.mono (by have := h.h8; have := h.h2; omega)), h.g2.belowB hb (by have := h.h8; have := h.h2; omega), h.st.belowB hb h.h8, ho, Nat.le_trans h.hB hb.size, h.h8, h.h2⟩
theorem MayI.six {w wr w3 w4 : World} {b8 B : Nat} {A : Option Addr} {c : Nat} {p : Proc} {N : Option Addr} {d : Nat} {n : Note} {s : NSt} {v : Value} {zs : List Int} (h : MayI w b8 B A c p N d n s v zs w3) (h0 : MayI w b8 B A c p N d n s v zs wr) (hg : w3.grownBy w4 (some wr.heap.size)) : MayI w b8 B A c p N d n s v zs w4 := by
  have e1 := h0.hB
  have e2 := h0.h8
  have e3 := h0.h2
  exact ⟨below_of_grownB h.fr hg (by omega), h.g2.grown hg (by simp; omega), h.st.grown hg (by simp; omega), h.own.kept hg (by right; intro e; have := (OwnL.lt h0.own _ e).2; omega), Nat.le_trans h.hB hg.size, h.h8, h.h2⟩
def MayPost (w : World) (zs : List Int) (E : Int) (e : Ending) (w' : World) : Prop := ∃ v, e = .returned (.tuple #[v, .int .i64 E]) ∧ SliceOf w' w.heap.size v zs ∧ Below w.heap.size w w'
theorem MayPost.none {w w' : World} (E : Int) (hb : Below w.heap.size w w') : MayPost w [] E (.returned (.tuple #[.slice none 0 0, .int .i64 E])) w' := ⟨_, rfl, ⟨.none, 0, rfl, by simp, fun h => absurd rfl h⟩, hb⟩
set_option maxRecDepth 100000 in
set_option maxHeartbeats 4000000 in
theorem May_bad (A : Option Addr) (c : Nat) (p : Proc) (N : Option Addr) (d : Nat) (n : Note) (day : Int) (w : World) (hN : NB w A p N n) (hE : (Cal.checkS p n).2 ≠ 0) :
    Calls Tryz.prog 35 #[.agg #[.int .i64 p.runs.m, .int .i64 p.runs.d, .bool p.runs.k, .int .i64 p.obj.m, .int .i64 p.obj.d, .bool p.obj.k, .int .i64 p.wait.m, .int .i64 p.wait.d, .bool p.wait.k, .int .i64 p.exts, .int .i64 p.longest, .slice A p.hols.length c], .agg #[.string n.name, .int .i64 n.opened, .slice N n.acts.length d], .int .i64 day] w (MayPost w [] (Cal.checkS p n).2) := by
  have hN := Lib.hid hN
  have hbeh := fun w1 h => behind_bad A c p N d n w1 h hE
  have hE1 : ((Cal.checkS p n).2 != 0) = true := by simpa using hE
  generalize (Cal.checkS p n).2 = E at *
  have hbeh := Lib.hid hbeh
  clear hE
  obtain ⟨h1, h2, hb⟩ := start2 w A c p N d n
  have c0 := h2.out.c 0 _ rfl
  have c1 := h2.out.c 1 _ rfl
  have c2 := h2.out.c 2 _ rfl
  go_enter Tryz.func35, Tryz.ntmps35
  go_wp2_with (refine wpPr h1.out (.tmp 3) rfl ?_)
  clear c0 c1 c2
  refine (hbeh.out _ (hN.out.below hb.out)).mono ?_
  rintro e w1 ⟨he, hb1⟩
  subst he
  have hbw := Lib.hid (below_step hb.out hb1)
  have g2 := Lib.hid (h2.out.below hb1)
  have hz := (h2.out.below hb1).lt
  have hN8 := Lib.hid (BoxAt.new w1 #[.int .i64 0, .int .i64 0, .bool false, .int .i64 0, .int .i64 0, .bool false, .int .i64 0, .int .i64 0, .bool false, .int .i64 0, .int .i64 0, .slice none 0 0, .int .i64 0, .int .i64 0, .int .i64 0, .int .i64 0, .int .i64 0, .int .i64 0] 104)
  clear hb1 h1 h2 hb
  go_wp2_with ((refine wpList_store_box rfl 104 (.tmp 8) (.tmp 19) rfl (w1.heap.size) _ [.int .i64 0, .int .i64 0, .bool false, .int .i64 0, .int .i64 0, .bool false, .int .i64 0, .int .i64 0, .bool false, .int .i64 0, .int .i64 0, .slice none 0 0, .int .i64 0, .int .i64 0, .int .i64 0, .int .i64 0, .int .i64 0, .int .i64 0] (by rfl) (by rfl) hN8.out rfl stSize (by kernel_rfl) ?_; intro w2 h8 hg8); have hb12 := below_of_grownB (below_alloc w1 _) hg8 (Nat.le_refl _); have hb2 := Lib.hid (below_step hbw.out hb12); have k2 := Lib.hid (g2.out.below hb12); have h8 := Lib.hid h8; have q2 := k2.out.c 2 _ rfl; clear hb12 hg8)
  go_ret2
  exact MayPost.none E hb2.out
set_option maxRecDepth 100000 in
set_option maxHeartbeats 4000000 in
theorem May_day (A : Option Addr) (c : Nat) (p : Proc) (N : Option Addr) (d : Nat) (n : Note) (day : Int) (w : World) (hN : NB w A p N n) (hE : (Cal.checkS p n).2 = 0) (hd : ¬ (0 ≤ day ∧ day ≤ 200000)) :
    Calls Tryz.prog 35 #[.agg #[.int .i64 p.runs.m, .int .i64 p.runs.d, .bool p.runs.k, .int .i64 p.obj.m, .int .i64 p.obj.d, .bool p.obj.k, .int .i64 p.wait.m, .int .i64 p.wait.d, .bool p.wait.k, .int .i64 p.exts, .int .i64 p.longest, .slice A p.hols.length c], .agg #[.string n.name, .int .i64 n.opened, .slice N n.acts.length d], .int .i64 day] w (MayPost w [] 2) := by
  have hN := Lib.hid hN
  have hbeh := Lib.hid (fun w1 h => behind_ok A c p N d n w1 h hE)
  generalize Cal.stAt p n 200000 = s at *
  have hd' : day < 0 ∨ 200000 < day := by omega
  clear hE hd
  obtain ⟨h1, h2, hb⟩ := start2 w A c p N d n
  have c0 := h2.out.c 0 _ rfl
  have c1 := h2.out.c 1 _ rfl
  have c2 := h2.out.c 2 _ rfl
  go_enter Tryz.func35, Tryz.ntmps35
  go_wp2_with (refine wpPr h1.out (.tmp 3) rfl ?_)
  clear c0 c1 c2
  refine (hbeh.out _ (hN.out.below hb.out)).mono ?_
  rintro e w1 ⟨he, hb1⟩
  subst he
  have hbw := Lib.hid (below_step hb.out hb1)
  have g2 := Lib.hid (h2.out.below hb1)
  have hz := (h2.out.below hb1).lt
  have hN8 := Lib.hid (BoxAt.new w1 #[.int .i64 0, .int .i64 0, .bool false, .int .i64 0, .int .i64 0, .bool false, .int .i64 0, .int .i64 0, .bool false, .int .i64 0, .int .i64 0, .slice none 0 0, .int .i64 0, .int .i64 0, .int .i64 0, .int .i64 0, .int .i64 0, .int .i64 0] 104)
  clear hb1 h1 h2 hb
  go_wp2_with (first | first | (go_at_call 60; first | refine rin ?_ | refine rout ?_ | refine rany ?_) | ((first | (go_at_call 86) | (go_at_call 41) | (go_at_call 74) | (go_at_call 28) | (go_at_call 109) | (fail) | (fail)); first | refine rin ?_ | refine rout ?_ | refine rany ?_) | ((refine wpList_store_box rfl 104 (.tmp 8) (.tmp 19) rfl (w1.heap.size) _ [.int .i64 p.runs.m, .int .i64 p.runs.d, .bool p.runs.k, .int .i64 p.obj.m, .int .i64 p.obj.d, .bool p.obj.k, .int .i64 p.wait.m, .int .i64 p.wait.d, .bool p.wait.k, .int .i64 p.exts, .int .i64 p.longest, .slice A p.hols.length c, .int .i64 s.phase, .int .i64 s.last, .int .i64 s.deadline, .int .i64 s.object, .int .i64 s.objected, .int .i64 s.extended] (by rfl) (by rfl) hN8.out rfl stSize (by kernel_rfl) ?_; intro w2 h8 hg8); have hb12 := below_of_grownB (below_alloc w1 _) hg8 (Nat.le_refl _); have hb2 := Lib.hid (below_step hbw.out hb12); have k2 := Lib.hid (g2.out.below hb12); have h8 := Lib.hid h8; have q2 := k2.out.c 2 _ rfl; clear hb12 hg8))
  go_ret2
  exact MayPost.none 2 hb2.out
set_option maxRecDepth 100000 in
set_option maxHeartbeats 8000000 in
theorem May_ok (A : Option Addr) (c : Nat) (p : Proc) (N : Option Addr) (d : Nat) (n : Note) (day : Int) (w : World) (hN : NB w A p N n) (hE : (Cal.checkS p n).2 = 0) (d0 : 0 ≤ day) (d1 : day ≤ 200000) :
    Calls Tryz.prog 35 #[.agg #[.int .i64 p.runs.m, .int .i64 p.runs.d, .bool p.runs.k, .int .i64 p.obj.m, .int .i64 p.obj.d, .bool p.obj.k, .int .i64 p.wait.m, .int .i64 p.wait.d, .bool p.wait.k, .int .i64 p.exts, .int .i64 p.longest, .slice A p.hols.length c], .agg #[.string n.name, .int .i64 n.opened, .slice N n.acts.length d], .int .i64 day] w (MayPost w (Cal.mayL p n day) 0) := by
  have hN := Lib.hid hN
  have hbeh := Lib.hid (fun w1 h => behind_ok A c p N d n w1 h hE)
  have hok := (Cal.end_ok hE).1
  have hp := (Cal.checkS_ok hE).1
  have hlong := (Cal.procErr_ok hp).2.2.2.2.2.2.1
  have hL : Cal.mayL p n day = if n.acts.length < 40 then Cal.mayTo p (Cal.stAt p n 200000) day 8 else [] := rfl
  generalize Cal.stAt p n 200000 = s at *
  clear hE hp
  by_cases hlen : n.acts.length < 40
  · rw [if_pos hlen] at hL
    rw [hL]
    clear hL
    obtain ⟨h1, h2, hb⟩ := start2 w A c p N d n
    have c0 := h2.out.c 0 _ rfl
    have c1 := h2.out.c 1 _ rfl
    have c2 := h2.out.c 2 _ rfl
    go_enter Tryz.func35, Tryz.ntmps35
    go_wp2_with (refine wpPr h1.out (.tmp 3) rfl ?_)
    clear c0 c1 c2
    refine (hbeh.out _ (hN.out.below hb.out)).mono ?_
    rintro e w1 ⟨he, hb1⟩
    subst he
    have hbw := Lib.hid (below_step hb.out hb1)
    have g2 := Lib.hid (h2.out.below hb1)
    have hz := (h2.out.below hb1).lt
    have hN8 := Lib.hid (BoxAt.new w1 #[.int .i64 0, .int .i64 0, .bool false, .int .i64 0, .int .i64 0, .bool false, .int .i64 0, .int .i64 0, .bool false, .int .i64 0, .int .i64 0, .slice none 0 0, .int .i64 0, .int .i64 0, .int .i64 0, .int .i64 0, .int .i64 0, .int .i64 0] 104)
    clear hb1 h1 h2 hb
    go_wp2_with (first | first | (go_at_call 60; first | refine rin ?_ | refine rout ?_ | refine rany ?_) | ((first | (go_at_call 86) | (go_at_call 41) | (go_at_call 74) | (go_at_call 28) | (go_at_call 109) | (fail) | (fail)); first | refine rin ?_ | refine rout ?_ | refine rany ?_) | ((refine wpList_store_box rfl 104 (.tmp 8) (.tmp 19) rfl (w1.heap.size) _ [.int .i64 p.runs.m, .int .i64 p.runs.d, .bool p.runs.k, .int .i64 p.obj.m, .int .i64 p.obj.d, .bool p.obj.k, .int .i64 p.wait.m, .int .i64 p.wait.d, .bool p.wait.k, .int .i64 p.exts, .int .i64 p.longest, .slice A p.hols.length c, .int .i64 s.phase, .int .i64 s.last, .int .i64 s.deadline, .int .i64 s.object, .int .i64 s.objected, .int .i64 s.extended] (by rfl) (by rfl) hN8.out rfl stSize (by kernel_rfl) ?_; intro w2 h8 hg8); have hb12 := below_of_grownB (below_alloc w1 _) hg8 (Nat.le_refl _); have hb2 := Lib.hid (below_step hbw.out hb12); have k2 := Lib.hid (g2.out.below hb12); have h8 := Lib.hid h8; have q2 := k2.out.c 2 _ rfl; clear hb12 hg8))
    have hI : Hid (MayI w w1.heap.size w2.heap.size A c p N d n s (.slice none 0 0) [] w2) := ⟨hb2.out, k2.out, h8.out, OwnL.nil _ _ _ _, Nat.le_refl _, h8.out.lt, by omega⟩
    clear q2 k2 h8 hb2 hN8 g2 hbw hz
    generalize w2.heap.size = B at *
    generalize w1.heap.size = b8 at *
    go_loopw [10, 11] (fun v i wr => ∃ (k : Nat) (zs : List Int), k ≤ 8 ∧ i = .int .i64 k ∧ zs.length ≤ k ∧ Hid (Cal.mayTo p s day k = zs) ∧ Hid (MayI w b8 B A c p N d n s v zs wr)) (fun _ i _ => 8 - (intOf i).toNat)
    case atStart => exact ⟨0, [], by omega, rfl, by simp, rfl, hI⟩
    case round =>
      clear hI
      obtain ⟨k, zs, hk, rfl, hzl, hzs, hI⟩ := hrel
      have c2 := hI.out.g2.c 2 _ rfl
      by_cases hk8 : k < 8
      · have hN12 := Lib.hid (BoxAt.new wr #[.int .i64 0, .int .i64 0, .int .i64 0] 64)
        by_cases h6 : k = 6
        · have h6b : ((k : Int) == 6) = true := by subst h6; rfl
          have hra : Hid (mayAct day k = ⟨day, k, 1⟩) := by show _ = _; unfold mayAct; subst h6; rfl
          rcases hr0 : Cal.actS p s ⟨day, k, 1⟩ with ⟨s', E⟩
          have hra : Hid ((Cal.actS p s (mayAct day k)).2 = E) := by show _ = _; rw [hra.out, hr0]
          have hr := Lib.hid hr0
          clear hr0 h6
          go_wp2_with (first | ((refine wpList_store_box rfl 64 (.tmp 12) (.tmp 41) rfl (wr.heap.size) _ [.int .i64 day, .int .i64 k, .int .i64 0] (by rfl) (by rfl) hN12.out rfl acSize (by kernel_rfl) ?_; intro w3 h3 hg3); have hI3 := Lib.hid (hI.out.below (below_of_grownB (below_alloc wr _) hg3 (Nat.le_refl _))); have f2 := h3.free 2 (by simp); have x2 := h3.c 2 _ rfl; have h4 := h3.set 2 (.int .i64 1) (by simp); have hg4 := grown_set w3 wr.heap.size 2 (.int .i64 1); have a0 := h4.c 0 _ rfl; have a1 := h4.c 1 _ rfl; have a2 := h4.c 2 _ rfl; have hI4 := Lib.hid (hI3.out.six hI.out hg4); clear hg4 h4 hg3) | (refine wpList_load_mid rfl 104 (.tmp 8) rfl b8 0 rfl [.int .i64 p.runs.m, .int .i64 p.runs.d, .bool p.runs.k, .int .i64 p.obj.m, .int .i64 p.obj.d, .bool p.obj.k, .int .i64 p.wait.m, .int .i64 p.wait.d, .bool p.wait.k, .int .i64 p.exts, .int .i64 p.longest, .slice A p.hols.length c, .int .i64 s.phase, .int .i64 s.last, .int .i64 s.deadline, .int .i64 s.object, .int .i64 s.objected, .int .i64 s.extended] _ hI4.out.st.range Tryz.underlying104 rfl stSize ?_))
          refine (act_any A c p s ⟨day, k, 1⟩ _ (hN.out.below hI4.out.fr).hols (hN.out.below hI4.out.fr).tab hok hlong).mono ?_
          rintro e w5 ⟨he, hb5⟩
          rw [hr.out] at he
          subst he
          have hI5 := Lib.hid (hI4.out.below hb5)
          clear a0 a1 a2 hb5 hI4
          have hN13 := Lib.hid (BoxAt.new w5 #[.int .i64 0, .int .i64 0, .bool false, .int .i64 0, .int .i64 0, .bool false, .int .i64 0, .int .i64 0, .bool false, .int .i64 0, .int .i64 0, .slice none 0 0, .int .i64 0, .int .i64 0, .int .i64 0, .int .i64 0, .int .i64 0, .int .i64 0] 104)
          by_cases hE : E = 0
          · have hEb : (E == 0) = true := by simpa using hE
            have hnx : Hid (Cal.mayTo p s day (k + 1) = zs ++ [(k : Int)]) := by show _ = _; unfold Cal.mayTo; rw [hra.out, if_pos hE, hzs.out]
            clear hE
            go_wp2_with (first | ((refine wpList_store_box rfl 104 (.tmp 13) (.tmp 49) rfl (w5.heap.size) _ [.int .i64 p.runs.m, .int .i64 p.runs.d, .bool p.runs.k, .int .i64 p.obj.m, .int .i64 p.obj.d, .bool p.obj.k, .int .i64 p.wait.m, .int .i64 p.wait.d, .bool p.wait.k, .int .i64 p.exts, .int .i64 p.longest, .slice A p.hols.length c, .int .i64 s'.phase, .int .i64 s'.last, .int .i64 s'.deadline, .int .i64 s'.object, .int .i64 s'.objected, .int .i64 s'.extended] (by rfl) (by rfl) hN13.out rfl stSize (by kernel_rfl) ?_; intro w6 h13 hg13); have hI6 := Lib.hid (hI5.out.below (below_of_grownB (below_alloc w5 _) hg13 (Nat.le_refl _))); clear hg13 h13) | (at_builtin; refine wpPush (k : Int) hI6.out.own hI6.out.hB (by omega) rfl _ _ rfl rfl rfl ?_; intro v' w7 hown7 hb7))
            have hI7 := Lib.hid (hI6.out.push hb7 hown7)
            clear hown7 hb7
            go_wp2_with fail
            go_roundw
            case rel => exact ⟨k + 1, zs ++ [(k : Int)], by omega, by go_num, by simp; omega, hnx, hI7⟩
            case measure => simp [intOf]; omega
          · have hEb : (E == 0) = false := by simpa using hE
            have hnx : Hid (Cal.mayTo p s day (k + 1) = zs) := by show _ = _; unfold Cal.mayTo; rw [hra.out, if_neg hE, hzs.out, List.append_nil]
            clear hE
            go_wp2_with ((refine wpList_store_box rfl 104 (.tmp 13) (.tmp 49) rfl (w5.heap.size) _ [.int .i64 p.runs.m, .int .i64 p.runs.d, .bool p.runs.k, .int .i64 p.obj.m, .int .i64 p.obj.d, .bool p.obj.k, .int .i64 p.wait.m, .int .i64 p.wait.d, .bool p.wait.k, .int .i64 p.exts, .int .i64 p.longest, .slice A p.hols.length c, .int .i64 s'.phase, .int .i64 s'.last, .int .i64 s'.deadline, .int .i64 s'.object, .int .i64 s'.objected, .int .i64 s'.extended] (by rfl) (by rfl) hN13.out rfl stSize (by kernel_rfl) ?_; intro w6 h13 hg13); have hI6 := Lib.hid (hI5.out.below (below_of_grownB (below_alloc w5 _) hg13 (Nat.le_refl _))); clear hg13 h13)
            go_roundw
            case rel => exact ⟨k + 1, zs, by omega, by go_num, by omega, hnx, hI6⟩
            case measure => simp [intOf]; omega
        · have h6b : ((k : Int) == 6) = false := by simp; omega
          have hra : Hid (mayAct day k = ⟨day, k, 0⟩) := by show _ = _; unfold mayAct; rw [if_neg (by omega)]
          rcases hr0 : Cal.actS p s ⟨day, k, 0⟩ with ⟨s', E⟩
          have hra : Hid ((Cal.actS p s (mayAct day k)).2 = E) := by show _ = _; rw [hra.out, hr0]
          have hr := Lib.hid hr0
          clear hr0 h6
          go_wp2_with (first | ((refine wpList_store_box rfl 64 (.tmp 12) (.tmp 41) rfl (wr.heap.size) _ [.int .i64 day, .int .i64 k, .int .i64 0] (by rfl) (by rfl) hN12.out rfl acSize (by kernel_rfl) ?_; intro w3 h3 hg3); have hI4 := Lib.hid (hI.out.below (below_of_grownB (below_alloc wr _) hg3 (Nat.le_refl _))); have a0 := h3.c 0 _ rfl; have a1 := h3.c 1 _ rfl; have a2 := h3.c 2 _ rfl; clear hg3) | (refine wpList_load_mid rfl 104 (.tmp 8) rfl b8 0 rfl [.int .i64 p.runs.m, .int .i64 p.runs.d, .bool p.runs.k, .int .i64 p.obj.m, .int .i64 p.obj.d, .bool p.obj.k, .int .i64 p.wait.m, .int .i64 p.wait.d, .bool p.wait.k, .int .i64 p.exts, .int .i64 p.longest, .slice A p.hols.length c, .int .i64 s.phase, .int .i64 s.last, .int .i64 s.deadline, .int .i64 s.object, .int .i64 s.objected, .int .i64 s.extended] _ hI4.out.st.range Tryz.underlying104 rfl stSize ?_))
          refine (act_any A c p s ⟨day, k, 0⟩ _ (hN.out.below hI4.out.fr).hols (hN.out.below hI4.out.fr).tab hok hlong).mono ?_
          rintro e w5 ⟨he, hb5⟩
          rw [hr.out] at he
          subst he
          have hI5 := Lib.hid (hI4.out.below hb5)
          clear a0 a1 a2 hb5 hI4
          have hN13 := Lib.hid (BoxAt.new w5 #[.int .i64 0, .int .i64 0, .bool false, .int .i64 0, .int .i64 0, .bool false, .int .i64 0, .int .i64 0, .bool false, .int .i64 0, .int .i64 0, .slice none 0 0, .int .i64 0, .int .i64 0, .int .i64 0, .int .i64 0, .int .i64 0, .int .i64 0] 104)
          by_cases hE : E = 0
          · have hEb : (E == 0) = true := by simpa using hE
            have hnx : Hid (Cal.mayTo p s day (k + 1) = zs ++ [(k : Int)]) := by show _ = _; unfold Cal.mayTo; rw [hra.out, if_pos hE, hzs.out]
            clear hE
            go_wp2_with (first | ((refine wpList_store_box rfl 104 (.tmp 13) (.tmp 49) rfl (w5.heap.size) _ [.int .i64 p.runs.m, .int .i64 p.runs.d, .bool p.runs.k, .int .i64 p.obj.m, .int .i64 p.obj.d, .bool p.obj.k, .int .i64 p.wait.m, .int .i64 p.wait.d, .bool p.wait.k, .int .i64 p.exts, .int .i64 p.longest, .slice A p.hols.length c, .int .i64 s'.phase, .int .i64 s'.last, .int .i64 s'.deadline, .int .i64 s'.object, .int .i64 s'.objected, .int .i64 s'.extended] (by rfl) (by rfl) hN13.out rfl stSize (by kernel_rfl) ?_; intro w6 h13 hg13); have hI6 := Lib.hid (hI5.out.below (below_of_grownB (below_alloc w5 _) hg13 (Nat.le_refl _))); clear hg13 h13) | (at_builtin; refine wpPush (k : Int) hI6.out.own hI6.out.hB (by omega) rfl _ _ rfl rfl rfl ?_; intro v' w7 hown7 hb7))
            have hI7 := Lib.hid (hI6.out.push hb7 hown7)
            clear hown7 hb7
            go_wp2_with fail
            go_roundw
            case rel => exact ⟨k + 1, zs ++ [(k : Int)], by omega, by go_num, by simp; omega, hnx, hI7⟩
            case measure => simp [intOf]; omega
          · have hEb : (E == 0) = false := by simpa using hE
            have hnx : Hid (Cal.mayTo p s day (k + 1) = zs) := by show _ = _; unfold Cal.mayTo; rw [hra.out, if_neg hE, hzs.out, List.append_nil]
            clear hE
            go_wp2_with ((refine wpList_store_box rfl 104 (.tmp 13) (.tmp 49) rfl (w5.heap.size) _ [.int .i64 p.runs.m, .int .i64 p.runs.d, .bool p.runs.k, .int .i64 p.obj.m, .int .i64 p.obj.d, .bool p.obj.k, .int .i64 p.wait.m, .int .i64 p.wait.d, .bool p.wait.k, .int .i64 p.exts, .int .i64 p.longest, .slice A p.hols.length c, .int .i64 s'.phase, .int .i64 s'.last, .int .i64 s'.deadline, .int .i64 s'.object, .int .i64 s'.objected, .int .i64 s'.extended] (by rfl) (by rfl) hN13.out rfl stSize (by kernel_rfl) ?_; intro w6 h13 hg13); have hI6 := Lib.hid (hI5.out.below (below_of_grownB (below_alloc w5 _) hg13 (Nat.le_refl _))); clear hg13 h13)
            go_roundw
            case rel => exact ⟨k + 1, zs, by omega, by go_num, by omega, hnx, hI6⟩
            case measure => simp [intOf]; omega
      · have hk9 : k = 8 := by omega
        have hfin : Hid (Cal.mayTo p s day 8 = zs) := by show _ = _; rw [← hk9]; exact hzs.out
        go_wp2_with fail
        go_ret2
        rw [hfin.out]
        exact ⟨_, rfl, (IntsL.slice hI.out.own (by omega)).less (by have := hI.out.h8; have := hI.out.h2; omega), hI.out.fr⟩
  · rw [if_neg hlen] at hL
    rw [hL]
    clear hL
    obtain ⟨h1, h2, hb⟩ := start2 w A c p N d n
    have c0 := h2.out.c 0 _ rfl
    have c1 := h2.out.c 1 _ rfl
    have c2 := h2.out.c 2 _ rfl
    go_enter Tryz.func35, Tryz.ntmps35
    go_wp2_with (refine wpPr h1.out (.tmp 3) rfl ?_)
    clear c0 c1 c2
    refine (hbeh.out _ (hN.out.below hb.out)).mono ?_
    rintro e w1 ⟨he, hb1⟩
    subst he
    have hbw := Lib.hid (below_step hb.out hb1)
    have g2 := Lib.hid (h2.out.below hb1)
    have hz := (h2.out.below hb1).lt
    have hN8 := Lib.hid (BoxAt.new w1 #[.int .i64 0, .int .i64 0, .bool false, .int .i64 0, .int .i64 0, .bool false, .int .i64 0, .int .i64 0, .bool false, .int .i64 0, .int .i64 0, .slice none 0 0, .int .i64 0, .int .i64 0, .int .i64 0, .int .i64 0, .int .i64 0, .int .i64 0] 104)
    clear hb1 h1 h2 hb
    go_wp2_with (first | first | (go_at_call 60; first | refine rin ?_ | refine rout ?_ | refine rany ?_) | ((first | (go_at_call 86) | (go_at_call 41) | (go_at_call 74) | (go_at_call 28) | (go_at_call 109) | (fail) | (fail)); first | refine rin ?_ | refine rout ?_ | refine rany ?_) | ((refine wpList_store_box rfl 104 (.tmp 8) (.tmp 19) rfl (w1.heap.size) _ [.int .i64 p.runs.m, .int .i64 p.runs.d, .bool p.runs.k, .int .i64 p.obj.m, .int .i64 p.obj.d, .bool p.obj.k, .int .i64 p.wait.m, .int .i64 p.wait.d, .bool p.wait.k, .int .i64 p.exts, .int .i64 p.longest, .slice A p.hols.length c, .int .i64 s.phase, .int .i64 s.last, .int .i64 s.deadline, .int .i64 s.object, .int .i64 s.objected, .int .i64 s.extended] (by rfl) (by rfl) hN8.out rfl stSize (by kernel_rfl) ?_; intro w2 h8 hg8); have hb12 := below_of_grownB (below_alloc w1 _) hg8 (Nat.le_refl _); have hb2 := Lib.hid (below_step hbw.out hb12); have k2 := Lib.hid (g2.out.below hb12); have h8 := Lib.hid h8; have q2 := k2.out.c 2 _ rfl; clear hb12 hg8))
    go_loopw [10, 11] (fun v i wr => v = .slice none 0 0 ∧ i = .int .i64 0 ∧ wr = w2) (fun _ _ _ => 0)
    case atStart => exact ⟨rfl, rfl, rfl⟩
    case round =>
      obtain ⟨rfl, rfl, rfl⟩ := hrel
      go_wp2_with fail
      go_ret2
      exact MayPost.none 0 hb2.out
end Go.Proofs.YtconnjkkgaapbaaGreatDoor
