/- Chapter 8 and what it rests on: definitions and walks, part 36. -/
import Derived.Test.YtbegbajlagcbdaaGreatDoorC35
import Derived.Test.YtbegbajlagcbdaaGreatDoorC10
import Derived.Laws.Concat
namespace Go.Proofs.YtbegbajlagcbdaaGreatDoor
open Go Go.RowKit
def i64B (n : Int) : Prop := -9223372036854775808 ≤ n ∧ n ≤ 9223372036854775807
/-- The numbers of a notice are numbers. -/
def NumsOk (n : Note) : Prop := i64B n.opened ∧ ∀ a ∈ n.acts, i64B a.day ∧ i64B a.kind ∧ i64B a.days
theorem Cal.actsT_len {l : List NAct} (h : ∀ a ∈ l, i64B a.day ∧ i64B a.kind ∧ i64B a.days) : (Cal.actsT l).length ≤ 70 * l.length := by
  induction l with
  | nil => exact Nat.le_refl _
  | cons a r ih =>
    have h1 := Cal.actT_len (h a List.mem_cons_self)
    have h2 := ih (fun b hb => h b (List.mem_cons_of_mem _ hb))
    show (Cal.actT a ++ Cal.actsT r).length ≤ _
    rw [List.length_append, List.length_cons]
    omega
theorem Cal.headT_len {name : List UInt8} {n : Int} (h : i64B n) : (Cal.headT name n).length ≤ name.length + 40 := by
  have := Lib.itoa_length_le n h.1 h.2
  unfold Cal.headT Cal.wNotice
  simp only [List.length_append, List.length_cons, List.length_nil]
  omega
def NPrintPost (w : World) (n : Note) (e : Ending) (w' : World) : Prop :=
  e = .returned (.tuple #[.string ⟨(if n.acts.length ≤ 40 then Cal.noteT n else []).toArray⟩, .int .i64 (if n.acts.length ≤ 40 then 0 else 8)]) ∧ Below w.heap.size w w'
theorem add_list {a b : ByteArray} : (a ++ b).data.toList = a.data.toList ++ b.data.toList := by simp [ByteArray.data_append]
theorem size_snoc' {a : ByteArray} {c : UInt8} : (a ++ ⟨#[c]⟩).size = a.size + 1 := by rw [ByteArray.size_append]; rfl
set_option maxRecDepth 100000 in
set_option maxHeartbeats 8000000 in
theorem NPrint_any (N : Option Addr) (d : Nat) (n : Note) (w : World) (ha : Acts w N n.acts) (hX : TxtT w) (hn : n.name.size ≤ 200000) (hok : NumsOk n) : Calls Tryz.prog 42 #[.agg #[.string n.name, .int .i64 n.opened, .slice N n.acts.length d]] w (NPrintPost w n) := by
  have hsz := ha.size
  have ha := Lib.hid (fun w' (h : Below w.heap.size w w') => ha.below h)
  have hX := Lib.hid (fun w' (h : Below w.heap.size w w') => hX.below h)
  obtain ⟨⟨o0, o1⟩, hacts⟩ := hok
  have hacts := Lib.hid hacts
  have g1 := Lib.hid (BoxAt.new w #[.string n.name, .int .i64 n.opened, .slice N n.acts.length d] 93)
  have hb := Lib.hid (below_alloc w (.cells #[.string n.name, .int .i64 n.opened, .slice N n.acts.length d] 93))
  have c2 := g1.out.c 2 _ rfl
  by_cases h40 : n.acts.length ≤ 40
  · have hfin : Hid ((if n.acts.length ≤ 40 then Cal.noteT n else []) = Cal.noteT n ∧ (if n.acts.length ≤ 40 then (0 : Int) else 8) = 0) := ⟨if_pos h40, if_pos h40⟩
    have ha1 := fun W => run_string_add_sum (P := Tryz.prog) W ⟨#[110, 111, 116, 105, 99, 101, 32]⟩ n.name (by show 7 + n.name.size ≤ _; omega)
    have ha2 := fun W => run_string_add_sum (P := Tryz.prog) W (⟨#[110, 111, 116, 105, 99, 101, 32]⟩ ++ n.name) ⟨#[32]⟩ (by rw [ByteArray.size_append]; show 7 + n.name.size + 1 ≤ _; omega)
    go_enter Tryz.func42, Tryz.ntmps42
    go_wp2_with fail
    have hB0 := Lib.hid (bld_new (w.alloc (.cells #[.string n.name, .int .i64 n.opened, .slice N n.acts.length d] 93)))
    have g2 := Lib.hid (g1.out.alloc (.cells #[.pointer none, .slice none 0 0] 171))
    have hb2 := Lib.hid (below_step hb.out (below_alloc (w.alloc (.cells #[.string n.name, .int .i64 n.opened, .slice N n.acts.length d] 93)) (.cells #[.pointer none, .slice none 0 0] 171)))
    rw [World.size_alloc] at hB0
    obtain ⟨w1, hw1⟩ : ∃ w1, (w.alloc (.cells #[.string n.name, .int .i64 n.opened, .slice N n.acts.length d] 93)).alloc (.cells #[.pointer none, .slice none 0 0] 171) = w1 := ⟨_, rfl⟩
    rw [hw1] at hB0 g2 hb2 ⊢
    have hl1 := hB0.out.lt
    clear hw1 g1 hb c2
    have cS := Lib.hid (fun w' (h : Below w1.heap.size w1 w') => (show ((fun w' => w'.cell? ⟨w.heap.size, 0, none⟩ = some (.string n.name) ∧ w'.cell? ⟨w.heap.size, 1, none⟩ = some (.int .i64 n.opened))) w' from ⟨(g2.out.below h).c 0 _ rfl, (g2.out.below h).c 1 _ rfl⟩))
    have hdr := Lib.hid (show Below w1.heap.size w1 w1.drew from (Below.refl _ _).drew)
    refine wp_region_held_drew (S := (fun w' => w'.cell? ⟨w.heap.size, 0, none⟩ = some (.string n.name) ∧ w'.cell? ⟨w.heap.size, 1, none⟩ = some (.int .i64 n.opened))) (by kernel_rfl) (cS.out _ hdr.out) (fun hHeld => ?_)
    (refine tkH 0 (v := ?_) ?_ ?_; rotate_left; focus (intro w' hSw; (try dsimp only at hSw); go_simp; (try with_reducible rfl)); (try simp only [Act.put, List.setIfInBounds_toArray, List.set_cons_zero, List.set_cons_succ]))
    (refine tkH 1 (v := ?_) ?_ ?_; rotate_left; focus (intro w' hSw; (try dsimp only at hSw); go_simp; (try with_reducible rfl)); (try simp only [Act.put, List.setIfInBounds_toArray, List.set_cons_zero, List.set_cons_succ]))
    (refine tkH 2 (v := ?_) ?_ ?_; rotate_left; focus (intro w' hSw; (try dsimp only at hSw); go_simp; (try with_reducible rfl)); (try simp only [Act.put, List.setIfInBounds_toArray, List.set_cons_zero, List.set_cons_succ]))
    (refine tkH 3 (v := ?_) ?_ ?_; rotate_left; focus (intro w' hSw; (try dsimp only at hSw); go_simp; (try with_reducible rfl)); (try simp only [Act.put, List.setIfInBounds_toArray, List.set_cons_zero, List.set_cons_succ]))
    (refine tkH 4 (v := ?_) ?_ ?_; rotate_left; focus (intro w' hSw; (try dsimp only at hSw); go_simp; (try with_reducible rfl)); (try simp only [Act.put, List.setIfInBounds_toArray, List.set_cons_zero, List.set_cons_succ]))
    (refine tkH 5 (v := ?_) ?_ ?_; rotate_left; focus (intro w' hSw; (try dsimp only at hSw); go_simp; (try with_reducible rfl)); (try simp only [Act.put, List.setIfInBounds_toArray, List.set_cons_zero, List.set_cons_succ]))
    (refine wpAnyH_ready (rs := [6]) (by decide +kernel) (by simp) ?_; refine AllReadyH.cons rfl (fun K hK => ?_) AllReadyH.nil; rw [if_pos (by kernel_rfl)]; go_simp)
    refine (Itoa_any n.opened o0 o1 _ (hX.out _ (below_step hb2.out hdr.out)).pow).mono ?_
    rintro e w2 ⟨d1, rfl, hd1, hs1, hb3⟩
    have hx := Lib.hid (below_step hdr.out hb3)
    have hd1 := Lib.hid hd1
    clear hb3
    go_simp
    (refine hK.out _ _ (cS.out _ hx.out) (fun hHeld => ?_); clear hK K; (try simp only [Act.put]); (try simp only [List.setIfInBounds_toArray]); (try simp only [List.set_cons_zero, List.set_cons_succ]))
    have ha3 := fun W => run_string_add_sum (P := Tryz.prog) W (⟨#[110, 111, 116, 105, 99, 101, 32]⟩ ++ n.name ++ ⟨#[32]⟩) d1 (by rw [size_snoc', ByteArray.size_append]; show 7 + n.name.size + 1 + d1.size ≤ _; omega)
    have ha4 := fun W => run_string_add_sum (P := Tryz.prog) W (⟨#[110, 111, 116, 105, 99, 101, 32]⟩ ++ n.name ++ ⟨#[32]⟩ ++ d1) ⟨#[10]⟩ (by rw [ByteArray.size_append, size_snoc', ByteArray.size_append]; show 7 + n.name.size + 1 + d1.size + 1 ≤ _; omega)
    (refine tkH 7 (v := ?_) ?_ ?_; rotate_left; focus (intro w' hSw; (try dsimp only at hSw); go_simp; (try with_reducible rfl)); (try simp only [Act.put, List.setIfInBounds_toArray, List.set_cons_zero, List.set_cons_succ]))
    (refine tkH 8 (v := ?_) ?_ ?_; rotate_left; focus (intro w' hSw; (try dsimp only at hSw); go_simp; (try with_reducible rfl)); (try simp only [Act.put, List.setIfInBounds_toArray, List.set_cons_zero, List.set_cons_succ]))
    (refine wpAnyH_ready (rs := [9]) (by decide +kernel) (by simp) ?_; refine AllReadyH.cons rfl (fun K hK => ?_) AllReadyH.nil; rw [if_pos (by kernel_rfl)]; go_simp)
    have hB2 := Lib.hid (hB0.out.below hx.out)
    have hbx := Lib.hid (below_step hb2.out hx.out)
    have hs2 : w.heap.size + 1 ≤ w2.heap.size := by have := hx.out.size; omega
    have hhd : Hid ((⟨#[110, 111, 116, 105, 99, 101, 32]⟩ ++ n.name ++ ⟨#[32]⟩ ++ d1 ++ ⟨#[10]⟩ : ByteArray).data.toList = Cal.headT n.name.data.toList n.opened) := by
      show _ = _
      unfold Cal.headT Cal.wNotice
      simp only [add_list, hd1.out]
      simp
    have hhl := Lib.hid (Cal.headT_len (name := n.name.data.toList) (n := n.opened) ⟨o0, o1⟩)
    have hnl := list_len n.name
    refine (Write_txt (w.heap.size + 1) (w.heap.size + 1) [] _ (Cal.headT n.name.data.toList n.opened) _ hhd.out hB2.out (by have := hhl.out; simp only [List.length_nil]; omega) hs2).mono ?_
    rintro e w3 ⟨⟨n6, rfl⟩, hB3, hb6, _⟩
    have hB3 := Lib.hid hB3
    have hbw3 := Lib.hid (hbx.out.trans (hb6.mono (Nat.le_succ _)))
    have cS3 : Hid ((fun w' => w'.cell? ⟨w.heap.size, 0, none⟩ = some (.string n.name) ∧ w'.cell? ⟨w.heap.size, 1, none⟩ = some (.int .i64 n.opened)) w3) := ⟨(hb6.cell (p := ⟨w.heap.size, 0, none⟩) (Nat.lt_succ_self _)).trans (cS.out _ hx.out).1, (hb6.cell (p := ⟨w.heap.size, 1, none⟩) (Nat.lt_succ_self _)).trans (cS.out _ hx.out).2⟩
    have g3 : w3.cell? ⟨w.heap.size, 2, none⟩ = some (.slice N n.acts.length d) := (hb6.cell (p := ⟨w.heap.size, 2, none⟩) (Nat.lt_succ_self _)).trans ((g2.out.below hx.out).c 2 _ rfl)
    clear hb6
    go_simp
    (refine hK.out _ _ cS3.out (fun hHeld => ?_); clear hK K; (try simp only [Act.put]); (try simp only [List.setIfInBounds_toArray]); (try simp only [List.set_cons_zero, List.set_cons_succ]))
    refine wpAnyH_done (by kernel_rfl) ?_ _
    clear hHeld ha1 ha2 ha3 ha4 cS cS3 hB0 hB2 g2 hb2 hdr hx hbx hs1 hd1 hhd
    have hL0 : Hid (Bld (w.heap.size + 1) (w.heap.size + 1) (Cal.headT n.name.data.toList n.opened ++ Cal.actsT (n.acts.take 0)) w3) := by
      show Bld _ _ _ _
      have e : Cal.headT n.name.data.toList n.opened ++ Cal.actsT (n.acts.take 0) = [] ++ Cal.headT n.name.data.toList n.opened := by simp [Cal.actsT]
      rw [e]; exact hB3.out
    clear hB3
    go_wp2_with fail
    clear g3
    go_loopw [24] (fun i wr => ∃ (k : Nat), k ≤ n.acts.length ∧ i = .int .i64 k ∧ Hid (Bld (w.heap.size + 1) (w.heap.size + 1) (Cal.headT n.name.data.toList n.opened ++ Cal.actsT (n.acts.take k)) wr) ∧ Hid (Below w.heap.size w wr)) (fun i _ => n.acts.length - (intOf i).toNat)
    case atStart => exact ⟨0, Nat.zero_le _, rfl, hL0, hbw3⟩
    case round =>
      obtain ⟨k, hk, rfl, hB, hb⟩ := hrel
      clear hL0 hbw3
      have hbs2 := hB.out.lt
      by_cases hlt : k < n.acts.length
      · have hk' : n.acts[k]? = some n.acts[k] := List.getElem?_eq_getElem hlt
        have hsn : Hid (Cal.headT n.name.data.toList n.opened ++ Cal.actsT (n.acts.take (k + 1)) = (Cal.headT n.name.data.toList n.opened ++ Cal.actsT (n.acts.take k)) ++ Cal.actT n.acts[k]) := by
          show _ = _
          rw [List.take_succ_eq_append_getElem hlt, Cal.actsT_snoc, List.append_assoc]
        have hlz : Hid ((Cal.headT n.name.data.toList n.opened ++ Cal.actsT (n.acts.take k)).length ≤ 250000) := by
          have h1 := hhl.out
          have h2 := Cal.actsT_len (l := n.acts.take k) (fun a h => hacts.out a (List.mem_of_mem_take h))
          show _ ≤ _
          rw [List.length_append]
          rw [List.length_take] at h2
          omega
        obtain ⟨⟨p0, p1⟩, ⟨p2, p3⟩, p4, p5⟩ := hacts.out _ (List.getElem_mem hlt)
        obtain ⟨b, o, rfl, hbl, e0, e1, e2⟩ := (ha.out _ hb.out).at_ hk'
        clear hk'
        generalize n.acts[k] = a at *
        go_wp2_with fail
        have g4 := Lib.hid (BoxAt.new wr #[.int .i64 a.day, .int .i64 a.kind, .int .i64 a.days] 109)
        have hb4 := Lib.hid (below_step hb.out (below_alloc wr (.cells #[.int .i64 a.day, .int .i64 a.kind, .int .i64 a.days] 109)))
        have hB4 := Lib.hid (hB.out.below (below_alloc wr (.cells #[.int .i64 a.day, .int .i64 a.kind, .int .i64 a.days] 109)))
        obtain ⟨wa, hwa⟩ : ∃ wa, wr.alloc (.cells #[.int .i64 a.day, .int .i64 a.kind, .int .i64 a.days] 109) = wa := ⟨_, rfl⟩
        have hza : wa.heap.size = wr.heap.size + 1 := by rw [← hwa]; exact World.size_alloc _ _
        have hblk : Hid (wa.heap[wr.heap.size]? = some (.cells #[.int .i64 a.day, .int .i64 a.kind, .int .i64 a.days] 109)) := by show _ = _; rw [← hwa]; exact World.alloc_heap_new _ _
        rw [hwa] at g4 hb4 hB4 ⊢
        clear hwa hB hb e0 e1 e2
        have cS := Lib.hid (fun w' (h : Below wa.heap.size wa w') => (show ((fun w' => w'.cell? ⟨wr.heap.size, 0, none⟩ = some (.int .i64 a.day) ∧ w'.cell? ⟨wr.heap.size, 1, none⟩ = some (.int .i64 a.kind) ∧ w'.cell? ⟨wr.heap.size, 2, none⟩ = some (.int .i64 a.days))) w' from ⟨(g4.out.below h).c 0 _ rfl, (g4.out.below h).c 1 _ rfl, (g4.out.below h).c 2 _ rfl⟩))
        have hdr := Lib.hid (show Below wa.heap.size wa wa.drew from (Below.refl _ _).drew)
        refine wp_region_held_drew (S := (fun w' => w'.cell? ⟨wr.heap.size, 0, none⟩ = some (.int .i64 a.day) ∧ w'.cell? ⟨wr.heap.size, 1, none⟩ = some (.int .i64 a.kind) ∧ w'.cell? ⟨wr.heap.size, 2, none⟩ = some (.int .i64 a.days))) (by kernel_rfl) (cS.out _ hdr.out) (fun hHeld => ?_)
        (refine tkH 0 (v := ?_) ?_ ?_; rotate_left; focus (intro w' hSw; (try dsimp only at hSw); go_simp; (try with_reducible rfl)); (try simp only [Act.put, List.setIfInBounds_toArray, List.set_cons_zero, List.set_cons_succ]))
        (refine tkH 1 (v := ?_) ?_ ?_; rotate_left; focus (intro w' hSw; (try dsimp only at hSw); go_simp; (try with_reducible rfl)); (try simp only [Act.put, List.setIfInBounds_toArray, List.set_cons_zero, List.set_cons_succ]))
        (refine tkH 5 (v := ?_) ?_ ?_; rotate_left; focus (intro w' hSw; (try dsimp only at hSw); go_simp; (try with_reducible rfl)); (try simp only [Act.put, List.setIfInBounds_toArray, List.set_cons_zero, List.set_cons_succ]))
        (refine tkH 6 (v := ?_) ?_ ?_; rotate_left; focus (intro w' hSw; (try dsimp only at hSw); go_simp; (try with_reducible rfl)); (try simp only [Act.put, List.setIfInBounds_toArray, List.set_cons_zero, List.set_cons_succ]))
        (refine tkH 10 (v := ?_) ?_ ?_; rotate_left; focus (intro w' hSw; (try dsimp only at hSw); go_simp; (try with_reducible rfl)); (try simp only [Act.put, List.setIfInBounds_toArray, List.set_cons_zero, List.set_cons_succ]))
        (refine tkH 11 (v := ?_) ?_ ?_; rotate_left; focus (intro w' hSw; (try dsimp only at hSw); go_simp; (try with_reducible rfl)); (try simp only [Act.put, List.setIfInBounds_toArray, List.set_cons_zero, List.set_cons_succ]))
        (refine wpAnyH_ready (rs := [2]) (by decide +kernel) (by simp) ?_; refine AllReadyH.cons rfl (fun K hK => ?_) AllReadyH.nil; rw [if_pos (by kernel_rfl)]; go_simp)
        refine (Itoa_any a.day p0 p1 _ (hX.out _ (below_step hb4.out hdr.out)).pow).mono ?_
        rintro e w5 ⟨d1, rfl, hd1, hs1, hb5⟩
        have hx := Lib.hid (below_step hdr.out hb5)
        have hd1 := Lib.hid hd1
        clear hb5
        go_simp
        (refine hK.out _ _ (cS.out _ hx.out) (fun hHeld => ?_); clear hK K; (try simp only [Act.put]); (try simp only [List.setIfInBounds_toArray]); (try simp only [List.set_cons_zero, List.set_cons_succ]))
        have ha1 := fun W => run_string_add_sum (P := Tryz.prog) W ⟨#[97, 99, 116, 32]⟩ d1 (by show 4 + d1.size ≤ _; omega)
        have ha2 := fun W => run_string_add_sum (P := Tryz.prog) W (⟨#[97, 99, 116, 32]⟩ ++ d1) ⟨#[32]⟩ (by rw [ByteArray.size_append]; show 4 + d1.size + 1 ≤ _; omega)
        (refine tkH 3 (v := ?_) ?_ ?_; rotate_left; focus (intro w' hSw; (try dsimp only at hSw); go_simp; (try with_reducible rfl)); (try simp only [Act.put, List.setIfInBounds_toArray, List.set_cons_zero, List.set_cons_succ]))
        (refine tkH 4 (v := ?_) ?_ ?_; rotate_left; focus (intro w' hSw; (try dsimp only at hSw); go_simp; (try with_reducible rfl)); (try simp only [Act.put, List.setIfInBounds_toArray, List.set_cons_zero, List.set_cons_succ]))
        (refine wpAnyH_ready (rs := [7]) (by decide +kernel) (by simp) ?_; refine AllReadyH.cons rfl (fun K hK => ?_) AllReadyH.nil; rw [if_pos (by kernel_rfl)]; go_simp)
        refine (Itoa_any a.kind p2 p3 _ (hX.out _ (below_step hb4.out hx.out)).pow).mono ?_
        rintro e w6 ⟨d2, rfl, hd2, hs2, hb5⟩
        have hx := Lib.hid (below_step hx.out hb5)
        have hd2 := Lib.hid hd2
        clear hb5
        go_simp
        (refine hK.out _ _ (cS.out _ hx.out) (fun hHeld => ?_); clear hK K; (try simp only [Act.put]); (try simp only [List.setIfInBounds_toArray]); (try simp only [List.set_cons_zero, List.set_cons_succ]))
        have ha3 := fun W => run_string_add_sum (P := Tryz.prog) W (⟨#[97, 99, 116, 32]⟩ ++ d1 ++ ⟨#[32]⟩) d2 (by rw [size_snoc', ByteArray.size_append]; show 4 + d1.size + 1 + d2.size ≤ _; omega)
        have ha4 := fun W => run_string_add_sum (P := Tryz.prog) W (⟨#[97, 99, 116, 32]⟩ ++ d1 ++ ⟨#[32]⟩ ++ d2) ⟨#[32]⟩ (by rw [ByteArray.size_append, size_snoc', ByteArray.size_append]; show 4 + d1.size + 1 + d2.size + 1 ≤ _; omega)
        (refine tkH 8 (v := ?_) ?_ ?_; rotate_left; focus (intro w' hSw; (try dsimp only at hSw); go_simp; (try with_reducible rfl)); (try simp only [Act.put, List.setIfInBounds_toArray, List.set_cons_zero, List.set_cons_succ]))
        (refine tkH 9 (v := ?_) ?_ ?_; rotate_left; focus (intro w' hSw; (try dsimp only at hSw); go_simp; (try with_reducible rfl)); (try simp only [Act.put, List.setIfInBounds_toArray, List.set_cons_zero, List.set_cons_succ]))
        (refine wpAnyH_ready (rs := [12]) (by decide +kernel) (by simp) ?_; refine AllReadyH.cons rfl (fun K hK => ?_) AllReadyH.nil; rw [if_pos (by kernel_rfl)]; go_simp)
        refine (Itoa_any a.days p4 p5 _ (hX.out _ (below_step hb4.out hx.out)).pow).mono ?_
        rintro e w7 ⟨d3, rfl, hd3, hs3, hb5⟩
        have hx := Lib.hid (below_step hx.out hb5)
        have hd3 := Lib.hid hd3
        clear hb5
        go_simp
        (refine hK.out _ _ (cS.out _ hx.out) (fun hHeld => ?_); clear hK K; (try simp only [Act.put]); (try simp only [List.setIfInBounds_toArray]); (try simp only [List.set_cons_zero, List.set_cons_succ]))
        have ha5 := fun W => run_string_add_sum (P := Tryz.prog) W (⟨#[97, 99, 116, 32]⟩ ++ d1 ++ ⟨#[32]⟩ ++ d2 ++ ⟨#[32]⟩) d3 (by rw [size_snoc', ByteArray.size_append, size_snoc', ByteArray.size_append]; show 4 + d1.size + 1 + d2.size + 1 + d3.size ≤ _; omega)
        have ha6 := fun W => run_string_add_sum (P := Tryz.prog) W (⟨#[97, 99, 116, 32]⟩ ++ d1 ++ ⟨#[32]⟩ ++ d2 ++ ⟨#[32]⟩ ++ d3) ⟨#[10]⟩ (by rw [ByteArray.size_append, size_snoc', ByteArray.size_append, size_snoc', ByteArray.size_append]; show 4 + d1.size + 1 + d2.size + 1 + d3.size + 1 ≤ _; omega)
        (refine tkH 13 (v := ?_) ?_ ?_; rotate_left; focus (intro w' hSw; (try dsimp only at hSw); go_simp; (try with_reducible rfl)); (try simp only [Act.put, List.setIfInBounds_toArray, List.set_cons_zero, List.set_cons_succ]))
        (refine tkH 14 (v := ?_) ?_ ?_; rotate_left; focus (intro w' hSw; (try dsimp only at hSw); go_simp; (try with_reducible rfl)); (try simp only [Act.put, List.setIfInBounds_toArray, List.set_cons_zero, List.set_cons_succ]))
        (refine wpAnyH_ready (rs := [15]) (by decide +kernel) (by simp) ?_; refine AllReadyH.cons rfl (fun K hK => ?_) AllReadyH.nil; rw [if_pos (by kernel_rfl)]; go_simp)
        have hB5 := Lib.hid (hB4.out.below hx.out)
        have hbx := Lib.hid (below_step hb4.out hx.out)
        have hs7 : w.heap.size + 1 ≤ w7.heap.size := by have := hx.out.size; omega
        have hhd : Hid ((⟨#[97, 99, 116, 32]⟩ ++ d1 ++ ⟨#[32]⟩ ++ d2 ++ ⟨#[32]⟩ ++ d3 ++ ⟨#[10]⟩ : ByteArray).data.toList = Cal.actT a) := by
          show _ = _
          unfold Cal.actT Cal.wAct
          simp only [add_list, hd1.out, hd2.out, hd3.out]
          simp
        have hal := Lib.hid (Cal.actT_len (a := a) ⟨⟨p0, p1⟩, ⟨p2, p3⟩, p4, p5⟩)
        refine (Write_txt (w.heap.size + 1) (w.heap.size + 1) _ _ (Cal.actT a) _ hhd.out hB5.out (by have := hlz.out; have := hal.out; omega) hs7).mono ?_
        rintro e w8 ⟨⟨n6, rfl⟩, hB8, hb6, hk8⟩
        have hB8 := Lib.hid hB8
        have hbw8 := Lib.hid (hbx.out.trans (hb6.mono (Nat.le_succ _)))
        have cS8 : Hid ((fun w' => w'.cell? ⟨wr.heap.size, 0, none⟩ = some (.int .i64 a.day) ∧ w'.cell? ⟨wr.heap.size, 1, none⟩ = some (.int .i64 a.kind) ∧ w'.cell? ⟨wr.heap.size, 2, none⟩ = some (.int .i64 a.days)) w8) := by
          have hb7 := (hx.out.block wr.heap.size (by omega)).trans hblk.out
          have hb8 := hk8 _ _ hb7 (fun e => by injection e with e; omega) (fun c fz e => by injection e with _ e _; exact absurd e (by decide))
          have hold : ∀ (o : Nat) (u : Value), w7.cell? ⟨wr.heap.size, o, none⟩ = some u → w8.cell? ⟨wr.heap.size, o, none⟩ = some u := fun o u hu => (World.cell?_of_block (a := ⟨wr.heap.size, o, none⟩) (hb8.trans hb7.symm)).trans hu
          exact ⟨hold _ _ (cS.out _ hx.out).1, hold _ _ (cS.out _ hx.out).2.1, hold _ _ (cS.out _ hx.out).2.2⟩
        clear hb6 hk8
        go_simp
        (refine hK.out _ _ cS8.out (fun hHeld => ?_); clear hK K; (try simp only [Act.put]); (try simp only [List.setIfInBounds_toArray]); (try simp only [List.set_cons_zero, List.set_cons_succ]))
        refine wpAnyH_done (by kernel_rfl) ?_ _
        clear hHeld ha1 ha2 ha3 ha4 ha5 ha6 cS cS8 hB4 hB5 g4 hb4 hdr hx hbx
        go_wp2_with fail
        go_roundw
        case rel => exact ⟨k + 1, by omega, by go_num, by rw [hsn.out]; exact hB8, hbw8⟩
        case measure => simp [intOf]; omega
      · obtain rfl : k = n.acts.length := by omega
        have hB9 : Hid (Bld (w.heap.size + 1) (w.heap.size + 1) (Cal.noteT n) wr) := by
          have := hB.out
          rw [List.take_length] at this
          exact this
        clear hB
        go_wp2_with fail
        refine (String_any (w.heap.size + 1) (w.heap.size + 1) _ _ hB9.out (Nat.le_of_lt hbs2)).mono ?_
        rintro e w7 ⟨rfl, _, hb7⟩
        have hbw7 := Lib.hid (hb.out.trans (hb7.mono (Nat.le_succ _)))
        clear hb7
        go_wp2_with fail
        go_ret2
        exact ⟨by rw [hfin.out.1, hfin.out.2]; rfl, hbw7.out⟩
  · have hfin : Hid ((if n.acts.length ≤ 40 then Cal.noteT n else []) = [] ∧ (if n.acts.length ≤ 40 then (0 : Int) else 8) = 8) := ⟨if_neg h40, if_neg h40⟩
    have h40' : 40 < n.acts.length := by omega
    clear h40
    go_enter Tryz.func42, Tryz.ntmps42
    go_wp2_with fail
    go_ret2
    exact ⟨by rw [hfin.out.1, hfin.out.2]; rfl, hb.out⟩
theorem DecS_any (n : Int) (h0 : -9223372036854775808 ≤ n) (h1 : n ≤ 9223372036854775807) (w : World) :
    Calls Tryz.prog 89 #[.int .i64 n] w fun e w' => ∃ d : ByteArray, e = .returned (.string d) ∧ d.data.toList = Lib.itoa n ∧ d.size ≤ 21 ∧ Below w.heap.size w w' :=
  (DecimalD_any n h0 h1 w).mono fun _ _ ⟨d, he, hd, hb⟩ => ⟨d, he, hd, by rw [Lib.size_eq, hd]; exact Lib.itoa_length_le n h0 h1, hb⟩
set_option maxRecDepth 100000 in
set_option maxHeartbeats 8000000 in
theorem NPrintR_any (N : Option Addr) (d : Nat) (n : Note) (w : World) (ha : Acts w N n.acts) (hn : n.name.size ≤ 200000) (hok : NumsOk n) (h40 : n.acts.length ≤ 40) :
    Calls Tryz.prog 46 #[.agg #[.string n.name, .int .i64 n.opened, .slice N n.acts.length d]] w fun e w' => e = .returned (.string ⟨(Cal.noteT n).toArray⟩) ∧ Below w.heap.size w w' := by
  have ha := Lib.hid (fun w' (h : Below w.heap.size w w') => ha.below h)
  obtain ⟨⟨o0, o1⟩, hacts⟩ := hok
  have hacts := Lib.hid hacts
  have g1 := Lib.hid (BoxAt.new w #[.string n.name, .int .i64 n.opened, .slice N n.acts.length d] 93)
  have hb := Lib.hid (below_alloc w (.cells #[.string n.name, .int .i64 n.opened, .slice N n.acts.length d] 93))
  have ha1 := fun W => run_string_add_sum (P := Tryz.prog) W ⟨#[110, 111, 116, 105, 99, 101, 32]⟩ n.name (by show 7 + n.name.size ≤ _; omega)
  have ha2 := fun W => run_string_add_sum (P := Tryz.prog) W (⟨#[110, 111, 116, 105, 99, 101, 32]⟩ ++ n.name) ⟨#[32]⟩ (by rw [ByteArray.size_append]; show 7 + n.name.size + 1 ≤ _; omega)
  go_enter Tryz.func46, Tryz.ntmps46
  go_wp2_with fail
  obtain ⟨w1, hw1⟩ : ∃ w1, w.alloc (.cells #[.string n.name, .int .i64 n.opened, .slice N n.acts.length d] 93) = w1 := ⟨_, rfl⟩
  rw [hw1] at g1 hb ⊢
  clear hw1
  have cS := Lib.hid (fun w' (h : Below w1.heap.size w1 w') => (show ((fun w' => w'.cell? ⟨w.heap.size, 0, none⟩ = some (.string n.name) ∧ w'.cell? ⟨w.heap.size, 1, none⟩ = some (.int .i64 n.opened))) w' from ⟨(g1.out.below h).c 0 _ rfl, (g1.out.below h).c 1 _ rfl⟩))
  have hdr := Lib.hid (show Below w1.heap.size w1 w1.drew from (Below.refl _ _).drew)
  refine wp_region_held_drew (S := (fun w' => w'.cell? ⟨w.heap.size, 0, none⟩ = some (.string n.name) ∧ w'.cell? ⟨w.heap.size, 1, none⟩ = some (.int .i64 n.opened))) (by kernel_rfl) (cS.out _ hdr.out) (fun hHeld => ?_)
  (refine tkH 0 (v := ?_) ?_ ?_; rotate_left; focus (intro w' hSw; (try dsimp only at hSw); go_simp; (try with_reducible rfl)); (try simp only [Act.put, List.setIfInBounds_toArray, List.set_cons_zero, List.set_cons_succ]))
  (refine tkH 1 (v := ?_) ?_ ?_; rotate_left; focus (intro w' hSw; (try dsimp only at hSw); go_simp; (try with_reducible rfl)); (try simp only [Act.put, List.setIfInBounds_toArray, List.set_cons_zero, List.set_cons_succ]))
  (refine tkH 2 (v := ?_) ?_ ?_; rotate_left; focus (intro w' hSw; (try dsimp only at hSw); go_simp; (try with_reducible rfl)); (try simp only [Act.put, List.setIfInBounds_toArray, List.set_cons_zero, List.set_cons_succ]))
  (refine tkH 3 (v := ?_) ?_ ?_; rotate_left; focus (intro w' hSw; (try dsimp only at hSw); go_simp; (try with_reducible rfl)); (try simp only [Act.put, List.setIfInBounds_toArray, List.set_cons_zero, List.set_cons_succ]))
  (refine tkH 4 (v := ?_) ?_ ?_; rotate_left; focus (intro w' hSw; (try dsimp only at hSw); go_simp; (try with_reducible rfl)); (try simp only [Act.put, List.setIfInBounds_toArray, List.set_cons_zero, List.set_cons_succ]))
  (refine tkH 5 (v := ?_) ?_ ?_; rotate_left; focus (intro w' hSw; (try dsimp only at hSw); go_simp; (try with_reducible rfl)); (try simp only [Act.put, List.setIfInBounds_toArray, List.set_cons_zero, List.set_cons_succ]))
  (refine wpAnyH_ready (rs := [6]) (by decide +kernel) (by simp) ?_; refine AllReadyH.cons rfl (fun K hK => ?_) AllReadyH.nil; rw [if_pos (by kernel_rfl)]; go_simp)
  refine (DecS_any n.opened o0 o1 _).mono ?_
  rintro e w2 ⟨d1, rfl, hd1, hs1, hb3⟩
  have hx := Lib.hid (below_step hdr.out hb3)
  have hd1 := Lib.hid hd1
  clear hb3
  go_simp
  (refine hK.out _ _ (cS.out _ hx.out) (fun hHeld => ?_); clear hK K; (try simp only [Act.put]); (try simp only [List.setIfInBounds_toArray]); (try simp only [List.set_cons_zero, List.set_cons_succ]))
  have ha3 := fun W => run_string_add_sum (P := Tryz.prog) W (⟨#[110, 111, 116, 105, 99, 101, 32]⟩ ++ n.name ++ ⟨#[32]⟩) d1 (by rw [size_snoc', ByteArray.size_append]; show 7 + n.name.size + 1 + d1.size ≤ _; omega)
  have ha4 := fun W => run_string_add_sum (P := Tryz.prog) W (⟨#[110, 111, 116, 105, 99, 101, 32]⟩ ++ n.name ++ ⟨#[32]⟩ ++ d1) ⟨#[10]⟩ (by rw [ByteArray.size_append, size_snoc', ByteArray.size_append]; show 7 + n.name.size + 1 + d1.size + 1 ≤ _; omega)
  (refine tkH 7 (v := ?_) ?_ ?_; rotate_left; focus (intro w' hSw; (try dsimp only at hSw); go_simp; (try with_reducible rfl)); (try simp only [Act.put, List.setIfInBounds_toArray, List.set_cons_zero, List.set_cons_succ]))
  (refine tkH 8 (v := ?_) ?_ ?_; rotate_left; focus (intro w' hSw; (try dsimp only at hSw); go_simp; (try with_reducible rfl)); (try simp only [Act.put, List.setIfInBounds_toArray, List.set_cons_zero, List.set_cons_succ]))
  (refine wpAnyH_ready (rs := [9]) (by decide +kernel) (by simp) ?_; refine AllReadyH.cons rfl (fun K hK => ?_) AllReadyH.nil; rw [if_pos (by kernel_rfl)]; go_simp)
  (refine hK.out _ _ (cS.out _ hx.out) (fun hHeld => ?_); clear hK K; (try simp only [Act.put]); (try simp only [List.setIfInBounds_toArray]); (try simp only [List.set_cons_zero, List.set_cons_succ]))
  refine wpAnyH_done (by kernel_rfl) ?_ _
  have hhd : (⟨#[110, 111, 116, 105, 99, 101, 32]⟩ ++ n.name ++ ⟨#[32]⟩ ++ d1 ++ ⟨#[10]⟩ : ByteArray).data.toList = Cal.headT n.name.data.toList n.opened := by
    unfold Cal.headT Cal.wNotice
    simp only [add_list, hd1.out]
    simp
  have hhl := Lib.hid (Cal.headT_len (name := n.name.data.toList) (n := n.opened) ⟨o0, o1⟩)
  have hnl := list_len n.name
  generalize (⟨#[110, 111, 116, 105, 99, 101, 32]⟩ ++ n.name ++ ⟨#[32]⟩ ++ d1 ++ ⟨#[10]⟩ : ByteArray) = t0 at *
  have ht0 : Hid (t0.data.toList = Cal.headT n.name.data.toList n.opened ++ Cal.actsT (n.acts.take 0)) := by
    show _ = _
    rw [hhd]; simp [Cal.actsT]
  have g2 := Lib.hid (g1.out.below hx.out)
  have hb2 := Lib.hid (below_step hb.out hx.out)
  clear hHeld ha1 ha2 ha3 ha4 cS g1 hb hdr hx hs1 hd1 hhd
  go_wp2_with fail
  go_loopw [3, 4] (fun s i wr => ∃ (k : Nat) (t : ByteArray), k ≤ n.acts.length ∧ i = .int .i64 k ∧ s = .string t ∧ Hid (t.data.toList = Cal.headT n.name.data.toList n.opened ++ Cal.actsT (n.acts.take k)) ∧ Hid (BoxAt wr w.heap.size [.string n.name, .int .i64 n.opened, .slice N n.acts.length d]) ∧ Hid (Below w.heap.size w wr)) (fun _ i _ => n.acts.length - (intOf i).toNat)
  case atStart => exact ⟨0, _, Nat.zero_le _, rfl, rfl, ht0, g2, hb2⟩
  case round =>
    obtain ⟨k, t, hk, rfl, rfl, ht, g1, hb⟩ := hrel
    clear ht0 g2 hb2
    have c2 := g1.out.c 2 _ rfl
    by_cases hlt : k < n.acts.length
    · have hk' : n.acts[k]? = some n.acts[k] := List.getElem?_eq_getElem hlt
      have hsn : Hid (Cal.headT n.name.data.toList n.opened ++ Cal.actsT (n.acts.take (k + 1)) = (Cal.headT n.name.data.toList n.opened ++ Cal.actsT (n.acts.take k)) ++ Cal.actT n.acts[k]) := by
        show _ = _
        rw [List.take_succ_eq_append_getElem hlt, Cal.actsT_snoc, List.append_assoc]
      have hts : t.size ≤ 250000 := by
        have h1 := hhl.out
        have h2 := Cal.actsT_len (l := n.acts.take k) (fun a h => hacts.out a (List.mem_of_mem_take h))
        rw [← list_len, ht.out, List.length_append]
        rw [List.length_take] at h2
        omega
      obtain ⟨⟨p0, p1⟩, ⟨p2, p3⟩, p4, p5⟩ := hacts.out _ (List.getElem_mem hlt)
      obtain ⟨b, o, rfl, hbl, e0, e1, e2⟩ := (ha.out _ hb.out).at_ hk'
      clear hk'
      generalize n.acts[k] = a at *
      have ha0 := fun W => run_string_add_sum (P := Tryz.prog) W t ⟨#[97, 99, 116, 32]⟩ (by show t.size + 4 ≤ _; omega)
      go_wp2_with fail
      have g4 := Lib.hid (BoxAt.new wr #[.int .i64 a.day, .int .i64 a.kind, .int .i64 a.days] 109)
      have g5 := Lib.hid (g1.out.alloc (.cells #[.int .i64 a.day, .int .i64 a.kind, .int .i64 a.days] 109))
      have hb4 := Lib.hid (below_step hb.out (below_alloc wr (.cells #[.int .i64 a.day, .int .i64 a.kind, .int .i64 a.days] 109)))
      obtain ⟨wa, hwa⟩ : ∃ wa, wr.alloc (.cells #[.int .i64 a.day, .int .i64 a.kind, .int .i64 a.days] 109) = wa := ⟨_, rfl⟩
      rw [hwa] at g4 g5 hb4 ⊢
      clear hwa g1 hb e0 e1 e2 c2
      have cS := Lib.hid (fun w' (h : Below wa.heap.size wa w') => (show ((fun w' => w'.cell? ⟨wr.heap.size, 0, none⟩ = some (.int .i64 a.day) ∧ w'.cell? ⟨wr.heap.size, 1, none⟩ = some (.int .i64 a.kind) ∧ w'.cell? ⟨wr.heap.size, 2, none⟩ = some (.int .i64 a.days))) w' from ⟨(g4.out.below h).c 0 _ rfl, (g4.out.below h).c 1 _ rfl, (g4.out.below h).c 2 _ rfl⟩))
      have hdr := Lib.hid (show Below wa.heap.size wa wa.drew from (Below.refl _ _).drew)
      refine wp_region_held_drew (S := (fun w' => w'.cell? ⟨wr.heap.size, 0, none⟩ = some (.int .i64 a.day) ∧ w'.cell? ⟨wr.heap.size, 1, none⟩ = some (.int .i64 a.kind) ∧ w'.cell? ⟨wr.heap.size, 2, none⟩ = some (.int .i64 a.days))) (by kernel_rfl) (cS.out _ hdr.out) (fun hHeld => ?_)
      (refine tkH 0 (v := ?_) ?_ ?_; rotate_left; focus (intro w' hSw; (try dsimp only at hSw); go_simp; (try with_reducible rfl)); (try simp only [Act.put, List.setIfInBounds_toArray, List.set_cons_zero, List.set_cons_succ]))
      (refine tkH 1 (v := ?_) ?_ ?_; rotate_left; focus (intro w' hSw; (try dsimp only at hSw); go_simp; (try with_reducible rfl)); (try simp only [Act.put, List.setIfInBounds_toArray, List.set_cons_zero, List.set_cons_succ]))
      (refine tkH 2 (v := ?_) ?_ ?_; rotate_left; focus (intro w' hSw; (try dsimp only at hSw); go_simp; (try with_reducible rfl)); (try simp only [Act.put, List.setIfInBounds_toArray, List.set_cons_zero, List.set_cons_succ]))
      (refine tkH 3 (v := ?_) ?_ ?_; rotate_left; focus (intro w' hSw; (try dsimp only at hSw); go_simp; (try with_reducible rfl)); (try simp only [Act.put, List.setIfInBounds_toArray, List.set_cons_zero, List.set_cons_succ]))
      (refine tkH 7 (v := ?_) ?_ ?_; rotate_left; focus (intro w' hSw; (try dsimp only at hSw); go_simp; (try with_reducible rfl)); (try simp only [Act.put, List.setIfInBounds_toArray, List.set_cons_zero, List.set_cons_succ]))
      (refine tkH 8 (v := ?_) ?_ ?_; rotate_left; focus (intro w' hSw; (try dsimp only at hSw); go_simp; (try with_reducible rfl)); (try simp only [Act.put, List.setIfInBounds_toArray, List.set_cons_zero, List.set_cons_succ]))
      (refine tkH 12 (v := ?_) ?_ ?_; rotate_left; focus (intro w' hSw; (try dsimp only at hSw); go_simp; (try with_reducible rfl)); (try simp only [Act.put, List.setIfInBounds_toArray, List.set_cons_zero, List.set_cons_succ]))
      (refine tkH 13 (v := ?_) ?_ ?_; rotate_left; focus (intro w' hSw; (try dsimp only at hSw); go_simp; (try with_reducible rfl)); (try simp only [Act.put, List.setIfInBounds_toArray, List.set_cons_zero, List.set_cons_succ]))
      (refine wpAnyH_ready (rs := [4]) (by decide +kernel) (by simp) ?_; refine AllReadyH.cons rfl (fun K hK => ?_) AllReadyH.nil; rw [if_pos (by kernel_rfl)]; go_simp)
      refine (DecS_any a.day p0 p1 _).mono ?_
      rintro e w5 ⟨d1, rfl, hd1, hs1, hb5⟩
      have hx := Lib.hid (below_step hdr.out hb5)
      have hd1 := Lib.hid hd1
      clear hb5
      go_simp
      (refine hK.out _ _ (cS.out _ hx.out) (fun hHeld => ?_); clear hK K; (try simp only [Act.put]); (try simp only [List.setIfInBounds_toArray]); (try simp only [List.set_cons_zero, List.set_cons_succ]))
      have ha1 := fun W => run_string_add_sum (P := Tryz.prog) W (t ++ ⟨#[97, 99, 116, 32]⟩) d1 (by rw [ByteArray.size_append]; show t.size + 4 + d1.size ≤ _; omega)
      have ha2 := fun W => run_string_add_sum (P := Tryz.prog) W (t ++ ⟨#[97, 99, 116, 32]⟩ ++ d1) ⟨#[32]⟩ (by rw [ByteArray.size_append, ByteArray.size_append]; show t.size + 4 + d1.size + 1 ≤ _; omega)
      (refine tkH 5 (v := ?_) ?_ ?_; rotate_left; focus (intro w' hSw; (try dsimp only at hSw); go_simp; (try with_reducible rfl)); (try simp only [Act.put, List.setIfInBounds_toArray, List.set_cons_zero, List.set_cons_succ]))
      (refine tkH 6 (v := ?_) ?_ ?_; rotate_left; focus (intro w' hSw; (try dsimp only at hSw); go_simp; (try with_reducible rfl)); (try simp only [Act.put, List.setIfInBounds_toArray, List.set_cons_zero, List.set_cons_succ]))
      (refine wpAnyH_ready (rs := [9]) (by decide +kernel) (by simp) ?_; refine AllReadyH.cons rfl (fun K hK => ?_) AllReadyH.nil; rw [if_pos (by kernel_rfl)]; go_simp)
      refine (DecS_any a.kind p2 p3 _).mono ?_
      rintro e w6 ⟨d2, rfl, hd2, hs2, hb5⟩
      have hx := Lib.hid (below_step hx.out hb5)
      have hd2 := Lib.hid hd2
      clear hb5
      go_simp
      (refine hK.out _ _ (cS.out _ hx.out) (fun hHeld => ?_); clear hK K; (try simp only [Act.put]); (try simp only [List.setIfInBounds_toArray]); (try simp only [List.set_cons_zero, List.set_cons_succ]))
      have ha3 := fun W => run_string_add_sum (P := Tryz.prog) W (t ++ ⟨#[97, 99, 116, 32]⟩ ++ d1 ++ ⟨#[32]⟩) d2 (by rw [size_snoc', ByteArray.size_append, ByteArray.size_append]; show t.size + 4 + d1.size + 1 + d2.size ≤ _; omega)
      have ha4 := fun W => run_string_add_sum (P := Tryz.prog) W (t ++ ⟨#[97, 99, 116, 32]⟩ ++ d1 ++ ⟨#[32]⟩ ++ d2) ⟨#[32]⟩ (by rw [ByteArray.size_append, size_snoc', ByteArray.size_append, ByteArray.size_append]; show t.size + 4 + d1.size + 1 + d2.size + 1 ≤ _; omega)
      (refine tkH 10 (v := ?_) ?_ ?_; rotate_left; focus (intro w' hSw; (try dsimp only at hSw); go_simp; (try with_reducible rfl)); (try simp only [Act.put, List.setIfInBounds_toArray, List.set_cons_zero, List.set_cons_succ]))
      (refine tkH 11 (v := ?_) ?_ ?_; rotate_left; focus (intro w' hSw; (try dsimp only at hSw); go_simp; (try with_reducible rfl)); (try simp only [Act.put, List.setIfInBounds_toArray, List.set_cons_zero, List.set_cons_succ]))
      (refine wpAnyH_ready (rs := [14]) (by decide +kernel) (by simp) ?_; refine AllReadyH.cons rfl (fun K hK => ?_) AllReadyH.nil; rw [if_pos (by kernel_rfl)]; go_simp)
      refine (DecS_any a.days p4 p5 _).mono ?_
      rintro e w7 ⟨d3, rfl, hd3, hs3, hb5⟩
      have hx := Lib.hid (below_step hx.out hb5)
      have hd3 := Lib.hid hd3
      clear hb5
      go_simp
      (refine hK.out _ _ (cS.out _ hx.out) (fun hHeld => ?_); clear hK K; (try simp only [Act.put]); (try simp only [List.setIfInBounds_toArray]); (try simp only [List.set_cons_zero, List.set_cons_succ]))
      have ha5 := fun W => run_string_add_sum (P := Tryz.prog) W (t ++ ⟨#[97, 99, 116, 32]⟩ ++ d1 ++ ⟨#[32]⟩ ++ d2 ++ ⟨#[32]⟩) d3 (by rw [size_snoc', ByteArray.size_append, size_snoc', ByteArray.size_append, ByteArray.size_append]; show t.size + 4 + d1.size + 1 + d2.size + 1 + d3.size ≤ _; omega)
      have ha6 := fun W => run_string_add_sum (P := Tryz.prog) W (t ++ ⟨#[97, 99, 116, 32]⟩ ++ d1 ++ ⟨#[32]⟩ ++ d2 ++ ⟨#[32]⟩ ++ d3) ⟨#[10]⟩ (by rw [ByteArray.size_append, size_snoc', ByteArray.size_append, size_snoc', ByteArray.size_append, ByteArray.size_append]; show t.size + 4 + d1.size + 1 + d2.size + 1 + d3.size + 1 ≤ _; omega)
      (refine tkH 15 (v := ?_) ?_ ?_; rotate_left; focus (intro w' hSw; (try dsimp only at hSw); go_simp; (try with_reducible rfl)); (try simp only [Act.put, List.setIfInBounds_toArray, List.set_cons_zero, List.set_cons_succ]))
      (refine tkH 16 (v := ?_) ?_ ?_; rotate_left; focus (intro w' hSw; (try dsimp only at hSw); go_simp; (try with_reducible rfl)); (try simp only [Act.put, List.setIfInBounds_toArray, List.set_cons_zero, List.set_cons_succ]))
      (refine wpAnyH_ready (rs := [17]) (by decide +kernel) (by simp) ?_; refine AllReadyH.cons rfl (fun K hK => ?_) AllReadyH.nil; rw [if_pos (by kernel_rfl)]; go_simp)
      (refine hK.out _ _ (cS.out _ hx.out) (fun hHeld => ?_); clear hK K; (try simp only [Act.put]); (try simp only [List.setIfInBounds_toArray]); (try simp only [List.set_cons_zero, List.set_cons_succ]))
      refine wpAnyH_done (by kernel_rfl) ?_ _
      have hhd : Hid ((t ++ ⟨#[97, 99, 116, 32]⟩ ++ d1 ++ ⟨#[32]⟩ ++ d2 ++ ⟨#[32]⟩ ++ d3 ++ ⟨#[10]⟩ : ByteArray).data.toList = Cal.headT n.name.data.toList n.opened ++ Cal.actsT (n.acts.take (k + 1))) := by
        show _ = _
        rw [hsn.out]
        unfold Cal.actT Cal.wAct
        simp only [add_list, hd1.out, hd2.out, hd3.out, ht.out]
        simp
      have g6 := Lib.hid (g5.out.below hx.out)
      have hb6 := Lib.hid (below_step hb4.out hx.out)
      clear hHeld ha0 ha1 ha2 ha3 ha4 ha5 ha6 cS g4 g5 hb4 hdr hx
      go_wp2_with fail
      go_roundw
      case rel => exact ⟨k + 1, _, by omega, by go_num, rfl, hhd, g6, hb6⟩
      case measure => simp [intOf]; omega
    · obtain rfl : k = n.acts.length := by omega
      go_wp2_with fail
      go_ret
      refine ⟨?_, hb.out⟩
      have h := ht.out
      rw [List.take_length] at h
      have e : (⟨(Cal.noteT n).toArray⟩ : ByteArray) = t := by
        show (⟨(Cal.headT n.name.data.toList n.opened ++ Cal.actsT n.acts).toArray⟩ : ByteArray) = t
        rw [← h]
      rw [e]
      rfl
end Go.Proofs.YtbegbajlagcbdaaGreatDoor
