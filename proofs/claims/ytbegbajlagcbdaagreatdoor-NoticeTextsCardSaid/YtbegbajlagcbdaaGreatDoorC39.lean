/- Chapter 8 and what it rests on: definitions and walks, part 39. -/
import Derived.Test.YtbegbajlagcbdaaGreatDoorC38
import Derived.Test.YtbegbajlagcbdaaGreatDoorC22
import Derived.Test.YtbegbajlagcbdaaGreatDoorC02
namespace Go.Proofs.YtbegbajlagcbdaaGreatDoor
open Go Go.RowKit
theorem start2t (w : World) (N N' : Option Addr) (d d' : Nat) (n : Note) : Hid (BoxAt ((w.alloc (.cells #[.string n.name, .int .i64 n.opened, .slice N n.acts.length d] 93)).alloc (.cells #[.string n.name, .int .i64 n.opened, .slice N' n.acts.length d'] 93)) w.heap.size [.string n.name, .int .i64 n.opened, .slice N n.acts.length d]) ∧ Hid (BoxAt ((w.alloc (.cells #[.string n.name, .int .i64 n.opened, .slice N n.acts.length d] 93)).alloc (.cells #[.string n.name, .int .i64 n.opened, .slice N' n.acts.length d'] 93)) (w.heap.size + 1) [.string n.name, .int .i64 n.opened, .slice N' n.acts.length d']) ∧ Hid (Below w.heap.size w ((w.alloc (.cells #[.string n.name, .int .i64 n.opened, .slice N n.acts.length d] 93)).alloc (.cells #[.string n.name, .int .i64 n.opened, .slice N' n.acts.length d'] 93))) := by
  have h2 := BoxAt.new (w.alloc (.cells #[.string n.name, .int .i64 n.opened, .slice N n.acts.length d] 93)) #[.string n.name, .int .i64 n.opened, .slice N' n.acts.length d'] 93
  rw [World.size_alloc] at h2
  exact ⟨(BoxAt.new w _ _).alloc _, h2, below_step (below_alloc _ _) (below_alloc _ _)⟩
set_option maxRecDepth 100000 in
set_option maxHeartbeats 4000000 in
theorem SameT_any (N N' : Option Addr) (d d' : Nat) (n : Note) (w : World) (ha1 : Acts w N n.acts) (ha2 : Acts w N' n.acts) :
    Calls Tryz.prog 45 #[.agg #[.string n.name, .int .i64 n.opened, .slice N n.acts.length d], .agg #[.string n.name, .int .i64 n.opened, .slice N' n.acts.length d']] w fun e w' => e = .returned (.bool true) ∧ Below w.heap.size w w' := by
  have hsz := ha1.size
  have ha1 := Lib.hid ha1
  have ha2 := Lib.hid ha2
  obtain ⟨g1, g2, hb⟩ := start2t w N N' d d' n
  have c0 := g1.out.c 0 _ rfl
  have c1 := g1.out.c 1 _ rfl
  have c2 := g1.out.c 2 _ rfl
  have e0 := g2.out.c 0 _ rfl
  have e1 := g2.out.c 1 _ rfl
  have e2 := g2.out.c 2 _ rfl
  go_enter Tryz.func45, Tryz.ntmps45
  go_wp2_with fail
  clear c0 c1 c2 e0 e1 e2
  go_loopw [5] (fun i wr => ∃ k : Nat, k ≤ n.acts.length ∧ i = .int .i64 k ∧ Hid (BoxAt wr w.heap.size [.string n.name, .int .i64 n.opened, .slice N n.acts.length d]) ∧ Hid (BoxAt wr (w.heap.size + 1) [.string n.name, .int .i64 n.opened, .slice N' n.acts.length d']) ∧ Hid (Below w.heap.size w wr)) (fun i _ => n.acts.length - (intOf i).toNat)
  case atStart => exact ⟨0, Nat.zero_le _, rfl, g1, g2, hb⟩
  case round =>
    clear g1 g2 hb
    obtain ⟨k, hk, rfl, g1, g2, hb⟩ := hrel
    by_cases hlt : k < n.acts.length
    · have hk' : n.acts[k]? = some n.acts[k] := List.getElem?_eq_getElem hlt
      obtain ⟨b, o, rfl, hb1, x0, x1, x2⟩ := (ha1.out.below hb.out).at_ hk'
      obtain ⟨b2, o2, rfl, hb2, y0, y1, y2⟩ := (ha2.out.below hb.out).at_ hk'
      have c2 := g1.out.c 2 _ rfl
      have e2 := g2.out.c 2 _ rfl
      clear hk'
      generalize n.acts[k] = a at *
      go_wp2_with fail
      go_quiet (fail)
      go_wp2_with fail
      go_roundw
      case rel => exact ⟨k + 1, by omega, by go_num, Lib.hid (g1.out.below (below_drewN (Below.refl _ _) _)), Lib.hid (g2.out.below (below_drewN (Below.refl _ _) _)), Lib.hid (below_drewN hb.out _)⟩
      case measure => simp [intOf]; omega
    · have hge : n.acts.length = k := by omega
      have c2 := g1.out.c 2 _ rfl
      go_wp2_with fail
      go_ret
      exact ⟨rfl, hb.out⟩
/-- The answer is a bool. -/
def BoolT (w : World) (e : Ending) (w' : World) : Prop := (∃ b : Bool, e = .returned (.bool b)) ∧ Below w.heap.size w w'
theorem BriefT_any (N : Option Addr) (d : Nat) (n : Note) (w : World) (hn : n.name.size ≤ maxLen) (ha : n.acts.length ≤ 9223372036854775807) : Calls Tryz.prog 41 #[.agg #[.string n.name, .int .i64 n.opened, .slice N n.acts.length d]] w (BoolT w) := by
  unfold maxLen at hn
  by_cases h1 : n.name.size ≤ 30
  · by_cases h2 : n.acts.length ≤ 12
    · go_enter Tryz.func41, Tryz.ntmps41
      go_wp2_with fail
      go_ret
      exact ⟨⟨_, rfl⟩, below_alloc _ _⟩
    · have h2' : 12 < n.acts.length := by omega
      clear h2
      by_cases h3 : 40 < n.acts.length
      · by_cases h4 : n.acts.length ≤ 50
        · go_enter Tryz.func41, Tryz.ntmps41
          go_wp2_with fail
          go_ret
          exact ⟨⟨_, rfl⟩, below_alloc _ _⟩
        · have h4' : 50 < n.acts.length := by omega
          clear h4
          go_enter Tryz.func41, Tryz.ntmps41
          go_wp2_with fail
          go_ret
          exact ⟨⟨_, rfl⟩, below_alloc _ _⟩
      · have h3' : n.acts.length ≤ 40 := by omega
        clear h3
        go_enter Tryz.func41, Tryz.ntmps41
        go_wp2_with fail
        go_ret
        exact ⟨⟨_, rfl⟩, below_alloc _ _⟩
  · have h1' : 30 < n.name.size := by omega
    clear h1
    go_enter Tryz.func41, Tryz.ntmps41
    go_wp2_with fail
    go_ret
    exact ⟨⟨_, rfl⟩, below_alloc _ _⟩
/-- What is read has numbers that are numbers, and a name no longer than the text. -/
theorem nLine_ok {k : Nat} {s s' : Note} {x : List UInt8} (h : Cal.nLine k s x = some s') (h1 : NumsOk s) : NumsOk s' ∧ (s'.name = s.name ∨ s'.name.size ≤ x.length) := by
  cases k with
  | zero =>
    obtain ⟨b, c, hz, h2, rfl⟩ := Cal.nLine_0 h
    refine ⟨⟨Cal.numS_bds (by decide) h2, h1.2⟩, .inr ?_⟩
    have := (Cal.cutT_mem (c := 32) (l := x) (x := b) (by rw [hz]; simp)).2
    show b.toArray.size ≤ _
    rw [List.size_toArray]; exact this
  | succ k =>
    obtain ⟨b, c, d, hz, h2, h3, h4, rfl⟩ := Cal.nLine_s h
    refine ⟨⟨h1.1, fun a ha => ?_⟩, .inl rfl⟩
    rcases List.mem_append.1 ha with h | h
    · exact h1.2 a h
    · simp only [List.mem_singleton] at h
      subst h
      exact ⟨Cal.numS_bds (by decide) h2, Cal.numS_bds (by decide) h3, Cal.numS_bds (by decide) h4⟩
theorem nLines_ok : ∀ (ps : List (List UInt8)) {k : Nat} {s s' : Note} {m : Nat}, Cal.nLines k s ps = .ok s' → (∀ x ∈ ps, x.length ≤ m) → NumsOk s → s.name.size ≤ m → NumsOk s' ∧ s'.name.size ≤ m
  | [], k, s, s', m, h, _, _, _ => by cases h
  | x :: r, k, s, s', m, h, hm, h1, h2 => by
    by_cases hr : r = []
    · subst hr
      rw [Cal.nLines_last] at h
      split at h
      · cases h; exact ⟨h1, h2⟩
      · cases h
    · cases hl : Cal.nLine k s x with
      | none => rw [Cal.nLines_bad hr hl] at h; cases h
      | some s1 =>
        rw [Cal.nLines_good hr hl] at h
        obtain ⟨h3, h4⟩ := nLine_ok hl h1
        refine nLines_ok r h (fun y hy => hm y (List.mem_cons_of_mem _ hy)) h3 ?_
        rcases h4 with h4 | h4
        · rw [h4]; exact h2
        · exact Nat.le_trans h4 (hm x List.mem_cons_self)
theorem parseN_ok {l : List UInt8} {n : Note} {k : Int} (h : Cal.parseN l = (n, k, 0)) : NumsOk n ∧ n.name.size ≤ 60000 := by
  unfold Cal.parseN at h
  split at h
  · cases h
  · rename_i h0
    cases hn : Cal.nLines 0 Cal.note0 (Cal.cutT 10 l) with
    | error j => rw [hn] at h; cases h
    | ok n' =>
      rw [hn] at h
      unfold Cal.finN at h
      simp only at h
      split at h
      · cases h
      · cases h
        exact nLines_ok _ hn (fun x hx => Nat.le_trans (Cal.cutT_mem hx).2 (by omega)) ⟨by unfold i64B; decide, fun a ha => by cases ha⟩ (by decide)
end Go.Proofs.YtbegbajlagcbdaaGreatDoor
namespace Go.Proofs.YtbegbajlagcbdaaGreatDoor
open Go Go.RowKit
/-- Numbers from an address on. -/
structure NumsAt (w : World) (b o : Nat) (zs : List Int) : Prop where
  c : ∀ (k : Nat) z, zs[k]? = some z → w.cell? ⟨b, o + k, none⟩ = some (.int .i64 z)
  lt : b < w.heap.size
  le : zs.length ≤ 1000000
theorem NumsAt.below {w w' : World} {b o : Nat} {zs : List Int} (h : NumsAt w b o zs) (hb : Below w.heap.size w w') : NumsAt w' b o zs := ⟨fun k z hz => (hb.cell (p := ⟨b, o + k, none⟩) h.lt).trans (h.c k z hz), Nat.lt_of_lt_of_le h.lt hb.size, h.le⟩
def inB (most z : Int) : Bool := decide (0 ≤ z) && decide (z ≤ most)
def allB (zs : List Int) (most : Int) : Bool := zs.all (inB most)
theorem all1_any (z most : Int) (B : Nat) (w : World) (h : w.cell? ⟨B, 0, none⟩ = some (.int .i64 most)) : Calls Tryz.prog 159 #[.int .i64 z, .pointer (some ⟨B, 0, none⟩)] w fun e w' => e = .returned (.bool (!(inB most z))) ∧ w = w' := by
  go_enter Tryz.func159, Tryz.ntmps159
  go_wp2_with (go_at_call 56; refine (nwithin_any _ _ _ _).mono ?_; rintro e w' ⟨rfl, rfl⟩)
  go_ret
  exact ⟨ret_bool (by simp [inB]), rfl⟩
def IdxPost (zs : List Int) (most : Int) (w : World) (e : Ending) (w' : World) : Prop := (∃ i : Int, e = .returned (.int .i64 i) ∧ -1 ≤ i ∧ decide (0 ≤ i) = !(allB zs most)) ∧ w = w'
theorem IndexAll_any (zs : List Int) (most : Int) (B b o c : Nat) (w : World) (h : w.cell? ⟨B, 0, none⟩ = some (.int .i64 most)) (hz : NumsAt w b o zs) :
    Calls Tryz.prog 218 #[.slice (some ⟨b, o, none⟩) zs.length c, .func (.func 159) #[] #[.pointer (some ⟨B, 0, none⟩)]] w (IdxPost zs most w) := by
  have hz := Lib.hid hz
  have hle := hz.out.le
  have hinit : Hid ((zs.take 0).all (inB most) = true) := rfl
  go_enter Tryz.func218, Tryz.ntmps218
  go_wp2
  go_loop [8] (fun i => ∃ k : Nat, k ≤ zs.length ∧ i = .int .i64 k ∧ Hid ((zs.take k).all (inB most) = true)) (fun i => zs.length - (intOf i).toNat)
  case atStart => exact ⟨0, Nat.zero_le _, rfl, hinit⟩
  case round =>
    obtain ⟨k, hk, rfl, hall⟩ := hrel
    clear hinit
    by_cases hlt : k < zs.length
    · have hkz := hz.out.c k _ (List.getElem?_eq_getElem hlt)
      have htk : zs.take (k + 1) = zs.take k ++ [zs[k]] := List.take_succ_eq_append_getElem hlt
      have hmem : zs[k] ∈ zs := List.getElem_mem hlt
      generalize zs[k] = z at *
      cases hin : inB most z
      · have hfin : Hid (allB zs most = false) := by
          show _ = _
          unfold allB
          rw [List.all_eq_false]
          exact ⟨z, hmem, by rw [hin]; simp⟩
        have hinz := Lib.hid hin
        clear hin htk hmem
        go_wp2_with (go_at_call 159; refine (all1_any z most B _ h).mono ?_; rintro e w' ⟨rfl, rfl⟩; rw [hinz.out])
        go_ret
        exact ⟨⟨k, rfl, by omega, by rw [hfin.out]; simp⟩, rfl⟩
      · have hnx : Hid ((zs.take (k + 1)).all (inB most) = true) := by show _ = _; rw [htk, List.all_append, hall.out]; simp [hin]
        have hinz := Lib.hid hin
        clear hin htk hmem
        go_wp2_with (go_at_call 159; refine (all1_any z most B _ h).mono ?_; rintro e w' ⟨rfl, rfl⟩; rw [hinz.out])
        go_round
        case rel => exact ⟨k + 1, by omega, by go_num, hnx⟩
        case measure => simp [intOf]; omega
    · have hfin : Hid (allB zs most = true) := by
        have h := hall.out
        rw [List.take_of_length_le (by omega)] at h
        exact h
      have hge : zs.length = k := by omega
      clear hall
      go_wp2
      go_ret
      exact ⟨⟨-1, rfl, by omega, by rw [hfin.out]; rfl⟩, rfl⟩
theorem ContainsAll_any (zs : List Int) (most : Int) (B b o c : Nat) (w : World) (h : w.cell? ⟨B, 0, none⟩ = some (.int .i64 most)) (hz : NumsAt w b o zs) :
    Calls Tryz.prog 158 #[.slice (some ⟨b, o, none⟩) zs.length c, .func (.func 159) #[] #[.pointer (some ⟨B, 0, none⟩)]] w fun e w' => e = .returned (.bool (!(allB zs most))) ∧ w = w' := by
  have hi := Lib.hid (IndexAll_any zs most B b o c w h hz)
  go_enter Tryz.func158, Tryz.ntmps158
  go_wp2_with fail
  refine hi.out.mono ?_
  rintro e w' ⟨⟨i, rfl, hi1, hi2⟩, rfl⟩
  have hi2 := Lib.hid hi2
  go_wp2_with fail
  go_ret
  exact ⟨by first | rfl | exact ret_bool hi2.out, rfl⟩
theorem all_any (zs : List Int) (most : Int) (b o c : Nat) (w : World) (hz : NumsAt w b o zs) :
    Calls Tryz.prog 103 #[.slice (some ⟨b, o, none⟩) zs.length c, .int .i64 most] w fun e w' => e = .returned (.bool (allB zs most)) ∧ Below w.heap.size w w' := by
  have hb := Lib.hid (below_alloc w (.cells #[.int .i64 most] 3))
  have hz := Lib.hid hz
  have hc : Hid ((w.alloc (.cells #[.int .i64 most] 3)).cell? ⟨w.heap.size, 0, none⟩ = some (.int .i64 most)) := by show _ = _; rw [cell_alloc_at]; rfl
  go_enter Tryz.func103, Tryz.ntmps103
  go_wp2_with fail
  refine (ContainsAll_any zs most _ b o c _ hc.out (hz.out.below hb.out)).mono ?_
  rintro e w' ⟨rfl, rfl⟩
  go_wp2_with fail
  go_ret
  exact ⟨ret_bool (by simp), hb.out⟩
end Go.Proofs.YtbegbajlagcbdaaGreatDoor
namespace Go.Proofs.YtbegbajlagcbdaaGreatDoor
open Go Go.RowKit
theorem less_any (x y : Int) (w : World) : Calls Tryz.prog 160 #[.int .i64 x, .int .i64 y] w fun e w' => e = .returned (.bool (decide (x < y))) ∧ w = w' := (Tryz.cmp_Less_int2 x y w).mono fun _ _ h => ⟨h.1, h.2.symm⟩
theorem falls1_any (x y : Int) (w : World) : Calls Tryz.prog 162 #[.int .i64 x, .int .i64 y] w fun e w' => e = .returned (.int .i64 (Lib.compareInt y x)) ∧ w = w' := by
  go_enter Tryz.func162, Tryz.ntmps162
  go_wp2_with fail
  refine (Tryz.cmp_Compare_int y x w).mono ?_
  rintro e w' ⟨rfl, rfl⟩
  go_wp2_with fail
  go_ret
  exact ⟨rfl, rfl⟩
theorem cmp_neg (x y : Int) : decide (Lib.compareInt x y < 0) = decide (x < y) := by
  unfold Lib.compareInt
  split
  · rename_i h; simp [h]
  · split <;> simp <;> omega
/-- Whether numbers never fall from a place on, and never rise. -/
def upTo (zs : List Int) (k : Nat) : Prop := ∀ j, k ≤ j → j + 1 < zs.length → zs.getD j 0 ≤ zs.getD (j + 1) 0
def downTo (zs : List Int) (k : Nat) : Prop := ∀ j, k ≤ j → j + 1 < zs.length → zs.getD (j + 1) 0 ≤ zs.getD j 0
def upB (zs : List Int) : Bool := decide (∀ j, j < zs.length - 1 → zs.getD j 0 ≤ zs.getD (j + 1) 0)
def downB (zs : List Int) : Bool := decide (∀ j, j < zs.length - 1 → zs.getD (j + 1) 0 ≤ zs.getD j 0)
theorem upB_yes {zs : List Int} (h : upTo zs 0) : upB zs = true := by unfold upB; rw [decide_eq_true_eq]; exact fun j hj => h j (Nat.zero_le _) (by omega)
theorem downB_yes {zs : List Int} (h : downTo zs 0) : downB zs = true := by unfold downB; rw [decide_eq_true_eq]; exact fun j hj => h j (Nat.zero_le _) (by omega)
theorem upB_no {zs : List Int} {k : Nat} (hk : k + 1 < zs.length) (h : zs.getD (k + 1) 0 < zs.getD k 0) : upB zs = false := by unfold upB; rw [decide_eq_false_iff_not]; intro h2; have := h2 k (by omega); omega
theorem downB_no {zs : List Int} {k : Nat} (hk : k + 1 < zs.length) (h : zs.getD k 0 < zs.getD (k + 1) 0) : downB zs = false := by unfold downB; rw [decide_eq_false_iff_not]; intro h2; have := h2 k (by omega); omega
theorem NumsAt.d {w : World} {b o : Nat} {zs : List Int} (h : NumsAt w b o zs) {k : Nat} (hk : k < zs.length) : w.cell? ⟨b, o + k, none⟩ = some (.int .i64 (zs.getD k 0)) := h.c k _ (by rw [List.getD_eq_getElem?_getD, List.getElem?_eq_getElem hk]; rfl)
set_option maxHeartbeats 1000000 in
theorem IsSorted_any (zs : List Int) (b o c : Nat) (w : World) (hz : NumsAt w b o zs) :
    Calls Tryz.prog 104 #[.slice (some ⟨b, o, none⟩) zs.length c] w fun e w' => e = .returned (.bool (upB zs)) ∧ Below w.heap.size w w' := by
  have hz0 := Lib.hid hz
  have hle := hz.le
  have hinit : Hid (upTo zs (zs.length - 1)) := fun j h1 h2 => by omega
  go_enter Tryz.func104, Tryz.ntmps104
  go_wp2
  go_loopw [3] (fun i wr => ∃ (k n : Nat), (k = 0 ∨ k < zs.length) ∧ ((zs.length = 0 ∧ i = .int .i64 (-1)) ∨ (0 < zs.length ∧ i = .int .i64 k)) ∧ Hid (upTo zs k) ∧ wr = w.drewN n) (fun i _ => (intOf i).toNat)
  case atStart => exact ⟨zs.length - 1, 0, by omega, by rcases Nat.eq_zero_or_pos zs.length with h | h; exact .inl ⟨h, by rw [h]; rfl⟩; exact .inr ⟨h, by congr 1; omega⟩, hinit, rfl⟩
  case round =>
    obtain ⟨k, n, hk, hi, hinv, rfl⟩ := hrel
    clear hinit
    rcases hi with ⟨h0, rfl⟩ | ⟨hpos, rfl⟩
    · have hfin : Hid (_ = true) := upB_yes (zs := zs) (fun j h1 h2 => by omega)
      go_wp2
      go_ret
      exact ⟨ret_bool hfin.out.symm, below_drewN (Below.refl _ _) _⟩
    · rcases Nat.eq_zero_or_pos k with rfl | hkp
      · have hfin : Hid (_ = true) := upB_yes (zs := zs) hinv.out
        go_wp2
        go_ret
        exact ⟨ret_bool hfin.out.symm, below_drewN (Below.refl _ _) _⟩
      · obtain ⟨q, hq0⟩ : ∃ q, k = q + 1 := ⟨k - 1, by omega⟩
        have hk2 : q + 1 < zs.length := by omega
        have d1 := hz0.out.d (k := k) (by omega)
        have d0 := hz0.out.d (k := q) (by omega)
        have hdiff : IntKind.i64.wrap ((k : Int) - 1) = (q : Int) := by rw [IntWalk.i64_in _ (by omega)]; omega
        have p1 : 0 < (k : Int) := by omega
        have p2 : (0 : Int) ≤ (k : Int) := by omega
        have p3 : (k : Int) < zs.length := by omega
        have p4 : (q : Int) < zs.length := by omega
        have p5 : (0 : Int) ≤ (q : Int) := by omega
        rw [hq0] at hinv
        have hs := Lib.hid (fun (h : ¬ _ < _) => show upTo zs q from fun j h1 h2 => by
          rcases Nat.lt_or_ge q j with h3 | h3
          · exact hinv.out j h3 h2
          · obtain rfl : j = q := by omega
            exact Int.not_lt.1 h)
        have hn := Lib.hid (fun h => upB_no hk2 h)
        rw [← hq0] at hs hn
        have hq := Lib.hid hq0
        have hk2z := Lib.hid hk2
        clear hinv hq0 hk2 hk
        generalize zs.getD k 0 = x1 at *
        generalize zs.getD q 0 = x0 at *
        by_cases hx : x1 < x0
        · have hfin := Lib.hid (hn.out hx)
          have hd : decide (x1 < x0) = true := by simpa using hx
          clear hx hs hn
          go_wp2_with fail
          refine wp_region_held_drew (S := (fun w' => w'.cell? ⟨b, o + k, none⟩ = some (.int .i64 x1) ∧ w'.cell? ⟨b, o + q, none⟩ = some (.int .i64 x0))) (by kernel_rfl) ⟨d1, d0⟩ (fun hHeld => ?_)
          (refine tkH 0 (v := ?_) ?_ ?_; rotate_left; focus (intro w' hSw; (try dsimp only at hSw); go_simp; (try with_reducible rfl)); (try simp only [Act.put, List.setIfInBounds_toArray, List.set_cons_zero, List.set_cons_succ]))
          (refine tkH 1 (v := ?_) ?_ ?_; rotate_left; focus (intro w' hSw; (try dsimp only at hSw); go_simp; (try with_reducible rfl)); (try simp only [Act.put, List.setIfInBounds_toArray, List.set_cons_zero, List.set_cons_succ]))
          (refine tkH 2 (v := ?_) ?_ ?_; rotate_left; focus (intro w' hSw; (try dsimp only at hSw); go_simp; (try with_reducible rfl)); (try simp only [Act.put, List.setIfInBounds_toArray, List.set_cons_zero, List.set_cons_succ]))
          (refine tkH 3 (v := ?_) ?_ ?_; rotate_left; focus (intro w' hSw; (try dsimp only at hSw); go_simp; (try with_reducible rfl)); (try simp only [Act.put, List.setIfInBounds_toArray, List.set_cons_zero, List.set_cons_succ]))
          (refine tkH 4 (v := ?_) ?_ ?_; rotate_left; focus (intro w' hSw; (try dsimp only at hSw); go_simp; (try with_reducible rfl)); (try simp only [Act.put, List.setIfInBounds_toArray, List.set_cons_zero, List.set_cons_succ]))
          (refine tkH 5 (v := ?_) ?_ ?_; rotate_left; focus (intro w' hSw; (try dsimp only at hSw); go_simp; (try with_reducible rfl)); (try simp only [Act.put, List.setIfInBounds_toArray, List.set_cons_zero, List.set_cons_succ]))
          (refine tkH 6 (v := ?_) ?_ ?_; rotate_left; focus (intro w' hSw; (try dsimp only at hSw); go_simp; (try with_reducible rfl)); (try simp only [Act.put, List.setIfInBounds_toArray, List.set_cons_zero, List.set_cons_succ]))
          (refine tkH 7 (v := ?_) ?_ ?_; rotate_left; focus (intro w' hSw; (try dsimp only at hSw); go_simp; (try with_reducible rfl)); (try simp only [Act.put, List.setIfInBounds_toArray, List.set_cons_zero, List.set_cons_succ]))
          (refine tkH 8 (v := ?_) ?_ ?_; rotate_left; focus (intro w' hSw; (try dsimp only at hSw); go_simp; (try with_reducible rfl)); (try simp only [Act.put, List.setIfInBounds_toArray, List.set_cons_zero, List.set_cons_succ]))
          (refine wpAnyH_ready (rs := [9]) (by decide +kernel) (by simp) ?_; refine AllReadyH.cons rfl (fun K hK => ?_) AllReadyH.nil; rw [if_pos (by kernel_rfl)]; go_simp)
          refine (less_any _ _ _).mono ?_
          rintro e w' ⟨rfl, rfl⟩
          go_simp
          (refine hK.out _ _ ⟨d1, d0⟩ (fun hHeld => ?_); clear hK K; (try simp only [Act.put, List.setIfInBounds_toArray]); (try simp only [List.set_cons_zero, List.set_cons_succ]))
          refine wpAnyH_done (by kernel_rfl) ?_ _
          clear hHeld
          go_wp2_with fail
          go_ret
          exact ⟨ret_bool hfin.out.symm, below_drewN (below_drewN (Below.refl _ _) _) 1⟩
        · have hnx := Lib.hid (hs.out hx)
          have hd : decide (x1 < x0) = false := by simpa using hx
          clear hx hs hn
          go_wp2_with fail
          refine wp_region_held_drew (S := (fun w' => w'.cell? ⟨b, o + k, none⟩ = some (.int .i64 x1) ∧ w'.cell? ⟨b, o + q, none⟩ = some (.int .i64 x0))) (by kernel_rfl) ⟨d1, d0⟩ (fun hHeld => ?_)
          (refine tkH 0 (v := ?_) ?_ ?_; rotate_left; focus (intro w' hSw; (try dsimp only at hSw); go_simp; (try with_reducible rfl)); (try simp only [Act.put, List.setIfInBounds_toArray, List.set_cons_zero, List.set_cons_succ]))
          (refine tkH 1 (v := ?_) ?_ ?_; rotate_left; focus (intro w' hSw; (try dsimp only at hSw); go_simp; (try with_reducible rfl)); (try simp only [Act.put, List.setIfInBounds_toArray, List.set_cons_zero, List.set_cons_succ]))
          (refine tkH 2 (v := ?_) ?_ ?_; rotate_left; focus (intro w' hSw; (try dsimp only at hSw); go_simp; (try with_reducible rfl)); (try simp only [Act.put, List.setIfInBounds_toArray, List.set_cons_zero, List.set_cons_succ]))
          (refine tkH 3 (v := ?_) ?_ ?_; rotate_left; focus (intro w' hSw; (try dsimp only at hSw); go_simp; (try with_reducible rfl)); (try simp only [Act.put, List.setIfInBounds_toArray, List.set_cons_zero, List.set_cons_succ]))
          (refine tkH 4 (v := ?_) ?_ ?_; rotate_left; focus (intro w' hSw; (try dsimp only at hSw); go_simp; (try with_reducible rfl)); (try simp only [Act.put, List.setIfInBounds_toArray, List.set_cons_zero, List.set_cons_succ]))
          (refine tkH 5 (v := ?_) ?_ ?_; rotate_left; focus (intro w' hSw; (try dsimp only at hSw); go_simp; (try with_reducible rfl)); (try simp only [Act.put, List.setIfInBounds_toArray, List.set_cons_zero, List.set_cons_succ]))
          (refine tkH 6 (v := ?_) ?_ ?_; rotate_left; focus (intro w' hSw; (try dsimp only at hSw); go_simp; (try with_reducible rfl)); (try simp only [Act.put, List.setIfInBounds_toArray, List.set_cons_zero, List.set_cons_succ]))
          (refine tkH 7 (v := ?_) ?_ ?_; rotate_left; focus (intro w' hSw; (try dsimp only at hSw); go_simp; (try with_reducible rfl)); (try simp only [Act.put, List.setIfInBounds_toArray, List.set_cons_zero, List.set_cons_succ]))
          (refine tkH 8 (v := ?_) ?_ ?_; rotate_left; focus (intro w' hSw; (try dsimp only at hSw); go_simp; (try with_reducible rfl)); (try simp only [Act.put, List.setIfInBounds_toArray, List.set_cons_zero, List.set_cons_succ]))
          (refine wpAnyH_ready (rs := [9]) (by decide +kernel) (by simp) ?_; refine AllReadyH.cons rfl (fun K hK => ?_) AllReadyH.nil; rw [if_pos (by kernel_rfl)]; go_simp)
          refine (less_any _ _ _).mono ?_
          rintro e w' ⟨rfl, rfl⟩
          go_simp
          (refine hK.out _ _ ⟨d1, d0⟩ (fun hHeld => ?_); clear hK K; (try simp only [Act.put, List.setIfInBounds_toArray]); (try simp only [List.set_cons_zero, List.set_cons_succ]))
          refine wpAnyH_done (by kernel_rfl) ?_ _
          clear hHeld
          go_wp2_with fail
          go_roundw
          case rel => exact ⟨q, n + 1, by have := hk2z.out; omega, .inr ⟨hpos, by first | rfl | go_num⟩, hnx, rfl⟩
          case measure => have := hq.out; simp [intOf]; omega
set_option maxHeartbeats 1000000 in
theorem IsSortedFunc_any (zs : List Int) (b o c : Nat) (w : World) (hz : NumsAt w b o zs) :
    Calls Tryz.prog 161 #[.slice (some ⟨b, o, none⟩) zs.length c, .func (.func 162) #[] #[]] w fun e w' => e = .returned (.bool (downB zs)) ∧ Below w.heap.size w w' := by
  have hz0 := Lib.hid hz
  have hle := hz.le
  have hinit : Hid (downTo zs (zs.length - 1)) := fun j h1 h2 => by omega
  go_enter Tryz.func161, Tryz.ntmps161
  go_wp2
  go_loopw [5] (fun i wr => ∃ (k n : Nat), (k = 0 ∨ k < zs.length) ∧ ((zs.length = 0 ∧ i = .int .i64 (-1)) ∨ (0 < zs.length ∧ i = .int .i64 k)) ∧ Hid (downTo zs k) ∧ wr = w.drewN n) (fun i _ => (intOf i).toNat)
  case atStart => exact ⟨zs.length - 1, 0, by omega, by rcases Nat.eq_zero_or_pos zs.length with h | h; exact .inl ⟨h, by rw [h]; rfl⟩; exact .inr ⟨h, by congr 1; omega⟩, hinit, rfl⟩
  case round =>
    obtain ⟨k, n, hk, hi, hinv, rfl⟩ := hrel
    clear hinit
    rcases hi with ⟨h0, rfl⟩ | ⟨hpos, rfl⟩
    · have hfin : Hid (_ = true) := downB_yes (zs := zs) (fun j h1 h2 => by omega)
      go_wp2
      go_ret
      exact ⟨ret_bool hfin.out.symm, below_drewN (Below.refl _ _) _⟩
    · rcases Nat.eq_zero_or_pos k with rfl | hkp
      · have hfin : Hid (_ = true) := downB_yes (zs := zs) hinv.out
        go_wp2
        go_ret
        exact ⟨ret_bool hfin.out.symm, below_drewN (Below.refl _ _) _⟩
      · obtain ⟨q, hq0⟩ : ∃ q, k = q + 1 := ⟨k - 1, by omega⟩
        have hk2 : q + 1 < zs.length := by omega
        have d1 := hz0.out.d (k := k) (by omega)
        have d0 := hz0.out.d (k := q) (by omega)
        have hdiff : IntKind.i64.wrap ((k : Int) - 1) = (q : Int) := by rw [IntWalk.i64_in _ (by omega)]; omega
        have p1 : 0 < (k : Int) := by omega
        have p2 : (0 : Int) ≤ (k : Int) := by omega
        have p3 : (k : Int) < zs.length := by omega
        have p4 : (q : Int) < zs.length := by omega
        have p5 : (0 : Int) ≤ (q : Int) := by omega
        rw [hq0] at hinv
        have hs := Lib.hid (fun (h : ¬ _ < _) => show downTo zs q from fun j h1 h2 => by
          rcases Nat.lt_or_ge q j with h3 | h3
          · exact hinv.out j h3 h2
          · obtain rfl : j = q := by omega
            exact Int.not_lt.1 h)
        have hn := Lib.hid (fun h => downB_no hk2 h)
        rw [← hq0] at hs hn
        have hq := Lib.hid hq0
        have hk2z := Lib.hid hk2
        clear hinv hq0 hk2 hk
        generalize zs.getD k 0 = x1 at *
        generalize zs.getD q 0 = x0 at *
        by_cases hx : x0 < x1
        · have hfin := Lib.hid (hn.out hx)
          have hd : decide (Lib.compareInt x0 x1 < 0) = true := by rw [cmp_neg]; simpa using hx
          clear hx hs hn
          go_wp2_with fail
          refine wp_region_held_drew (S := (fun w' => w'.cell? ⟨b, o + k, none⟩ = some (.int .i64 x1) ∧ w'.cell? ⟨b, o + q, none⟩ = some (.int .i64 x0))) (by kernel_rfl) ⟨d1, d0⟩ (fun hHeld => ?_)
          (refine tkH 0 (v := ?_) ?_ ?_; rotate_left; focus (intro w' hSw; (try dsimp only at hSw); go_simp; (try with_reducible rfl)); (try simp only [Act.put, List.setIfInBounds_toArray, List.set_cons_zero, List.set_cons_succ]))
          (refine tkH 1 (v := ?_) ?_ ?_; rotate_left; focus (intro w' hSw; (try dsimp only at hSw); go_simp; (try with_reducible rfl)); (try simp only [Act.put, List.setIfInBounds_toArray, List.set_cons_zero, List.set_cons_succ]))
          (refine tkH 2 (v := ?_) ?_ ?_; rotate_left; focus (intro w' hSw; (try dsimp only at hSw); go_simp; (try with_reducible rfl)); (try simp only [Act.put, List.setIfInBounds_toArray, List.set_cons_zero, List.set_cons_succ]))
          (refine tkH 3 (v := ?_) ?_ ?_; rotate_left; focus (intro w' hSw; (try dsimp only at hSw); go_simp; (try with_reducible rfl)); (try simp only [Act.put, List.setIfInBounds_toArray, List.set_cons_zero, List.set_cons_succ]))
          (refine tkH 4 (v := ?_) ?_ ?_; rotate_left; focus (intro w' hSw; (try dsimp only at hSw); go_simp; (try with_reducible rfl)); (try simp only [Act.put, List.setIfInBounds_toArray, List.set_cons_zero, List.set_cons_succ]))
          (refine tkH 5 (v := ?_) ?_ ?_; rotate_left; focus (intro w' hSw; (try dsimp only at hSw); go_simp; (try with_reducible rfl)); (try simp only [Act.put, List.setIfInBounds_toArray, List.set_cons_zero, List.set_cons_succ]))
          (refine tkH 6 (v := ?_) ?_ ?_; rotate_left; focus (intro w' hSw; (try dsimp only at hSw); go_simp; (try with_reducible rfl)); (try simp only [Act.put, List.setIfInBounds_toArray, List.set_cons_zero, List.set_cons_succ]))
          (refine tkH 7 (v := ?_) ?_ ?_; rotate_left; focus (intro w' hSw; (try dsimp only at hSw); go_simp; (try with_reducible rfl)); (try simp only [Act.put, List.setIfInBounds_toArray, List.set_cons_zero, List.set_cons_succ]))
          (refine tkH 8 (v := ?_) ?_ ?_; rotate_left; focus (intro w' hSw; (try dsimp only at hSw); go_simp; (try with_reducible rfl)); (try simp only [Act.put, List.setIfInBounds_toArray, List.set_cons_zero, List.set_cons_succ]))
          (refine tkH 9 (v := ?_) ?_ ?_; rotate_left; focus (intro w' hSw; (try dsimp only at hSw); go_simp; (try with_reducible rfl)); (try simp only [Act.put, List.setIfInBounds_toArray, List.set_cons_zero, List.set_cons_succ]))
          (refine wpAnyH_ready (rs := [10]) (by decide +kernel) (by simp) ?_; refine AllReadyH.cons rfl (fun K hK => ?_) AllReadyH.nil; rw [if_pos (by kernel_rfl)]; go_simp)
          refine (falls1_any _ _ _).mono ?_
          rintro e w' ⟨rfl, rfl⟩
          go_simp
          (refine hK.out _ _ ⟨d1, d0⟩ (fun hHeld => ?_); clear hK K; (try simp only [Act.put, List.setIfInBounds_toArray]); (try simp only [List.set_cons_zero, List.set_cons_succ]))
          (refine tkH 11 (v := ?_) ?_ ?_; rotate_left; focus (intro w' hSw; (try dsimp only at hSw); go_simp; (try with_reducible rfl)); (try simp only [Act.put, List.setIfInBounds_toArray, List.set_cons_zero, List.set_cons_succ]))
          refine wpAnyH_done (by kernel_rfl) ?_ _
          clear hHeld
          go_wp2_with fail
          go_ret
          exact ⟨ret_bool hfin.out.symm, below_drewN (below_drewN (Below.refl _ _) _) 1⟩
        · have hnx := Lib.hid (hs.out hx)
          have hd : decide (Lib.compareInt x0 x1 < 0) = false := by rw [cmp_neg]; simpa using hx
          clear hx hs hn
          go_wp2_with fail
          refine wp_region_held_drew (S := (fun w' => w'.cell? ⟨b, o + k, none⟩ = some (.int .i64 x1) ∧ w'.cell? ⟨b, o + q, none⟩ = some (.int .i64 x0))) (by kernel_rfl) ⟨d1, d0⟩ (fun hHeld => ?_)
          (refine tkH 0 (v := ?_) ?_ ?_; rotate_left; focus (intro w' hSw; (try dsimp only at hSw); go_simp; (try with_reducible rfl)); (try simp only [Act.put, List.setIfInBounds_toArray, List.set_cons_zero, List.set_cons_succ]))
          (refine tkH 1 (v := ?_) ?_ ?_; rotate_left; focus (intro w' hSw; (try dsimp only at hSw); go_simp; (try with_reducible rfl)); (try simp only [Act.put, List.setIfInBounds_toArray, List.set_cons_zero, List.set_cons_succ]))
          (refine tkH 2 (v := ?_) ?_ ?_; rotate_left; focus (intro w' hSw; (try dsimp only at hSw); go_simp; (try with_reducible rfl)); (try simp only [Act.put, List.setIfInBounds_toArray, List.set_cons_zero, List.set_cons_succ]))
          (refine tkH 3 (v := ?_) ?_ ?_; rotate_left; focus (intro w' hSw; (try dsimp only at hSw); go_simp; (try with_reducible rfl)); (try simp only [Act.put, List.setIfInBounds_toArray, List.set_cons_zero, List.set_cons_succ]))
          (refine tkH 4 (v := ?_) ?_ ?_; rotate_left; focus (intro w' hSw; (try dsimp only at hSw); go_simp; (try with_reducible rfl)); (try simp only [Act.put, List.setIfInBounds_toArray, List.set_cons_zero, List.set_cons_succ]))
          (refine tkH 5 (v := ?_) ?_ ?_; rotate_left; focus (intro w' hSw; (try dsimp only at hSw); go_simp; (try with_reducible rfl)); (try simp only [Act.put, List.setIfInBounds_toArray, List.set_cons_zero, List.set_cons_succ]))
          (refine tkH 6 (v := ?_) ?_ ?_; rotate_left; focus (intro w' hSw; (try dsimp only at hSw); go_simp; (try with_reducible rfl)); (try simp only [Act.put, List.setIfInBounds_toArray, List.set_cons_zero, List.set_cons_succ]))
          (refine tkH 7 (v := ?_) ?_ ?_; rotate_left; focus (intro w' hSw; (try dsimp only at hSw); go_simp; (try with_reducible rfl)); (try simp only [Act.put, List.setIfInBounds_toArray, List.set_cons_zero, List.set_cons_succ]))
          (refine tkH 8 (v := ?_) ?_ ?_; rotate_left; focus (intro w' hSw; (try dsimp only at hSw); go_simp; (try with_reducible rfl)); (try simp only [Act.put, List.setIfInBounds_toArray, List.set_cons_zero, List.set_cons_succ]))
          (refine tkH 9 (v := ?_) ?_ ?_; rotate_left; focus (intro w' hSw; (try dsimp only at hSw); go_simp; (try with_reducible rfl)); (try simp only [Act.put, List.setIfInBounds_toArray, List.set_cons_zero, List.set_cons_succ]))
          (refine wpAnyH_ready (rs := [10]) (by decide +kernel) (by simp) ?_; refine AllReadyH.cons rfl (fun K hK => ?_) AllReadyH.nil; rw [if_pos (by kernel_rfl)]; go_simp)
          refine (falls1_any _ _ _).mono ?_
          rintro e w' ⟨rfl, rfl⟩
          go_simp
          (refine hK.out _ _ ⟨d1, d0⟩ (fun hHeld => ?_); clear hK K; (try simp only [Act.put, List.setIfInBounds_toArray]); (try simp only [List.set_cons_zero, List.set_cons_succ]))
          (refine tkH 11 (v := ?_) ?_ ?_; rotate_left; focus (intro w' hSw; (try dsimp only at hSw); go_simp; (try with_reducible rfl)); (try simp only [Act.put, List.setIfInBounds_toArray, List.set_cons_zero, List.set_cons_succ]))
          refine wpAnyH_done (by kernel_rfl) ?_ _
          clear hHeld
          go_wp2_with fail
          go_roundw
          case rel => exact ⟨q, n + 1, by have := hk2z.out; omega, .inr ⟨hpos, by first | rfl | go_num⟩, hnx, rfl⟩
          case measure => have := hq.out; simp [intOf]; omega
theorem falls_any (zs : List Int) (b o c : Nat) (w : World) (hz : NumsAt w b o zs) :
    Calls Tryz.prog 105 #[.slice (some ⟨b, o, none⟩) zs.length c] w fun e w' => e = .returned (.bool (downB zs)) ∧ Below w.heap.size w w' := by
  go_enter Tryz.func105, Tryz.ntmps105
  go_wp2_with fail
  refine (IsSortedFunc_any zs b o c _ hz).mono ?_
  rintro e w' ⟨rfl, hb⟩
  have hb := Lib.hid hb
  go_wp2_with fail
  go_ret
  exact ⟨rfl, hb.out⟩
end Go.Proofs.YtbegbajlagcbdaaGreatDoor
