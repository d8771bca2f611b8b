/- What the statements rest on: definitions and walks, part 38. -/
import Derived.Test.YtfcjeejhdklkdaaJ37
import Derived.Test.YtfcjeejhdklkdaaJ32
import Derived.Test.YtfcjeejhdklkdaaJ17
set_option maxRecDepth 100000
set_option maxHeartbeats 16000000
set_option linter.unusedSimpArgs false
set_option linter.unusedVariables false
namespace Go.Proofs.Ytfcjeejhdklkdaa
theorem minorL_red {n : Nat} (L : Nat → Nat → Int) : minorL 0 (matOf (n + 1) L) = matOf n (Cal.red L) := by
 unfold minorL matOf offC
 rw [List.range_succ_eq_map, List.map_cons, List.drop_succ_cons, List.drop_zero, List.map_map, List.map_map]
 refine List.map_congr_left fun i _ => ?_
 show (listOf (n + 1) (L (i + 1))).eraseIdx 0 = listOf n (Cal.red L i)
 unfold listOf
 rw [List.range_succ_eq_map, List.map_cons, List.eraseIdx_zero, List.tail_cons, List.map_map]
 rfl
theorem listOf_drop {n : Nat} (f : Nat → Int) : (listOf (n + 1) f).drop 1 = listOf n fun i => f (i + 1) := by
 unfold listOf
 rw [List.range_succ_eq_map, List.map_cons, List.drop_succ_cons, List.drop_zero, List.map_map]
 rfl
theorem matFn_with {n : Nat} {L : Nat → Nat → Int} {r : Nat → Int} {q i j : Nat} (hi : i < n) (hj : j < n) : matFn (withL q (listOf n r) (matOf n L)) i j = Cal.colPut L q r i j := by
 unfold matFn withL matOf Cal.colPut
 have h1 : (List.zipWith (putC q) ((List.range n).map fun i => listOf n (L i)) (listOf n r))[i]? = some ((listOf n (L i)).set q (r i)) := by
  rw [List.getElem?_zipWith, listOf_get hi]
  simp [hi, putC]
 rw [h1, Option.getD_some, List.getElem?_set]
 by_cases h : q = j
 ·subst h
  rw [if_pos rfl, if_pos rfl, listOf_length, if_pos hj]; rfl
 ·rw [if_neg h, if_neg (fun e => h e.symm), listOf_get hj]; rfl
namespace Cal
theorem hN_raw {n : Nat} {l : List Lev} {i : Nat} : detF n (withL i ((listOf (n + 1) (rhs (edges l))).drop 1) (minorL 0 (matOf (n + 1) (lap (edges l))))) = detN n (colPut (red (lap (edges l))) i (fun j => rhs (edges l) (j + 1))) := by
 rw [minorL_red, listOf_drop, detF_detN]
 ·exact detN_congr fun a b ha hb => matFn_with ha hb
 ·unfold withL matOf; simp [listOf_length]
 ·intro r hr
  unfold withL at hr
  obtain ⟨j, hj, rfl⟩ := List.getElem_of_mem hr
  rw [List.getElem_zipWith]
  unfold putC matOf
  rw [List.length_set]
  simp [listOf_length]
theorem hN_val {n : Nat} {l : List Lev} (h : netE ((n + 1 : Nat) : Int) l = 0) {i : Nat} (hi : i < n) : hN n l i = detN n (colPut (red (lap (edges l))) i (fun j => rhs (edges l) (j + 1))) := by
 obtain ⟨h1, h2, h3, h4, h5, _⟩ := net_edges h
 have hn := netE_zero h
 have hb := (net_bounds (n := n) (l := edges l) (by omega) h1 (fun e he => ⟨(h3 e he).1, (h3 e he).2, (h4 e he).1, (h4 e he).2⟩)).2 i hi
 unfold hN
 rw [hN_raw]
 unfold ab at hb
 exact wrap_small (by omega) (by omega)
theorem hD_val (n : Nat) (l : List Lev) : hD n l = detN n (red (lap (edges l))) := detF_lap _
theorem hN_le {n : Nat} {l : List Lev} {M : Int} (h : netE ((n + 1 : Nat) : Int) l = 0) (hM : 0 ≤ M) (hd : ∀ e ∈ edges l, -M ≤ e.d ∧ e.d ≤ M) {i : Nat} (hi : i < n) : -((n : Int) * (M * hD n l)) ≤ hN n l i ∧ hN n l i ≤ (n : Int) * (M * hD n l) := by
 obtain ⟨h1, h2, h3, h4, h5, _⟩ := net_edges h
 obtain ⟨hp, _⟩ := hD_pos h
 have hx0 : (fun p => if p = 0 then 0 else hN n l (p - 1)) 0 = (0 : Int) := rfl
 have hg : ∀ p, 0 < p → p < n + 1 → grad (hD n l) (fun p => if p = 0 then 0 else hN n l (p - 1)) (edges l) p = 0 := by
  refine cramer_grad (hD n l) _ h2 (by rw [← hD_val]; omega) rfl (fun j hj => ?_)
  show hN n l (j + 1 - 1) * _ = _
  rw [Nat.add_sub_cancel, hN_val h hj, ← hD_val]
 have hG : ∀ e ∈ edges l, -(M * hD n l) ≤ e.d * hD n l ∧ e.d * hD n l ≤ M * hD n l := fun e he => by
  obtain ⟨a, b⟩ := hd e he
  have := Int.mul_le_mul_of_nonneg_right a (Int.le_of_lt hp)
  have := Int.mul_le_mul_of_nonneg_right b (Int.le_of_lt hp)
  rw [Int.neg_mul] at *
  omega
 have hG0 : 0 ≤ M * hD n l := Int.mul_nonneg hM (Int.le_of_lt hp)
 have hw : ∀ e ∈ edges l, 0 < e.w := fun e he => by have := h3 e he; omega
 have a := height_le _ h2 hw h5 hg hG hx0 hG0 (i + 1) (by omega)
 have b := height_ge _ h2 hw h5 hg hG hx0 hG0 (i + 1) (by omega)
 exact ⟨b, a⟩
theorem hAt_le {n : Nat} {l : List Lev} {M : Int} (h : netE ((n + 1 : Nat) : Int) l = 0) (hM : 0 ≤ M) (hd : ∀ e ∈ edges l, -M ≤ e.d ∧ e.d ≤ M) {i : Nat} (hi : i < n) : -((n : Int) * M * (hAt n l i).2) ≤ (hAt n l i).1 ∧ (hAt n l i).1 ≤ (n : Int) * M * (hAt n l i).2 := by
 obtain ⟨hp, _⟩ := hD_pos h
 obtain ⟨a, b⟩ := hN_le h hM hd hi
 have hc := low_cross (hN n l i) (hD n l)
 have hdp := lowD_pos (a := hN n l i) hp
 unfold hAt
 dsimp only
 generalize hN n l i = x at *
 generalize hD n l = D at *
 generalize lowN x D = N at *
 generalize lowD x D = d at *
 have a2 := Int.mul_le_mul_of_nonneg_right a (Int.le_of_lt hdp)
 have b2 := Int.mul_le_mul_of_nonneg_right b (Int.le_of_lt hdp)
 rw [← hc] at a2 b2
 have e : (n : Int) * (M * D) * d = (n : Int) * M * d * D := by
  rw [← Int.mul_assoc, Int.mul_assoc, Int.mul_comm D d, ← Int.mul_assoc]
 rw [Int.neg_mul, e, ← Int.neg_mul] at a2
 rw [e] at b2
 exact ⟨Int.le_of_mul_le_mul_right a2 hp, Int.le_of_mul_le_mul_right b2 hp⟩
theorem heights_at {n : Nat} {l : List Lev} {x : Int × Int} (hx : x ∈ heightsP n l) : x = (0, 1) ∨ ∃ i, i < n ∧ x = hAt n l i := by
 rcases List.mem_cons.1 hx with e | hx
 ·exact Or.inl e
 ·obtain ⟨i, hi, rfl⟩ := List.mem_map.1 hx
  exact Or.inr ⟨i, List.mem_range.1 hi, rfl⟩
theorem heights_len (n : Nat) (l : List Lev) : (heightsP n l).length = n + 1 := by simp [heightsP]
theorem heights_get {n : Nat} {l : List Lev} {j : Nat} (hj : j < n) : (heightsP n l)[j + 1]? = some (hAt n l j) := by simp [heightsP, hj]
theorem heights_good {n : Nat} {l : List Lev} (h : netE ((n + 1 : Nat) : Int) l = 0) : ∀ x ∈ heightsP n l, 1 ≤ x.2 ∧ Int.gcd x.1 x.2 = 1 ∧ bigH x = false ∧ x.2 ∣ hD n l := fun x hx => by
 obtain ⟨hp, _⟩ := hD_pos h
 obtain ⟨_, _, _, h4, _, _⟩ := net_edges h
 have hn := netE_zero h
 rcases heights_at hx with rfl | ⟨i, hi, rfl⟩
 ·exact ⟨by decide, by decide, by decide, ⟨hD n l, by simp⟩⟩
 ·obtain ⟨a, b⟩ := hAt_le h (M := 100000) (by decide) h4 hi
  have hdp := lowD_pos (a := hN n l i) hp
  refine ⟨by show 1 ≤ lowD _ _; omega, low_coprime hp, ?_, lowD_dvd _ _⟩
  unfold bigH
  refine decide_eq_false ?_
  have hd : 0 < (hAt n l i).2 := hdp
  generalize (hAt n l i).1 = N at *
  generalize (hAt n l i).2 = d at *
  have h5 : (n : Int) * 100000 ≤ 500000 := by omega
  have h6 := Int.mul_le_mul_of_nonneg_right h5 (Int.le_of_lt hd)
  omega
theorem heights_scl {n : Nat} {l : List Lev} (h : netE ((n + 1 : Nat) : Int) l = 0) : sclE ((n + 1 : Nat) : Int) (heightsP n l) = 0 := by
 obtain ⟨hp, hq⟩ := hD_pos h
 unfold sclE
 rw [heights_len, if_pos rfl]
 exact scl_ok (all := hD n l) (by omega) hq _ 1 (by decide) (Int.one_dvd _) (heights_good h)
theorem heights_xs {n : Nat} {l : List Lev} (h : netE ((n + 1 : Nat) : Int) l = 0) {j : Nat} (hj : j < n) : xs (sclP ((n + 1 : Nat) : Int) (heightsP n l)) (heightsP n l) (j + 1) * hD n l = hN n l j * sclP ((n + 1 : Nat) : Int) (heightsP n l) := by
 obtain ⟨_, _, _, _, hall⟩ := sclE_zero (heights_scl h)
 obtain ⟨hp, _⟩ := hD_pos h
 unfold xs
 rw [heights_get hj, Option.getD_some]
 unfold sclH
 refine scaled_cross (low_cross (hN n l j) (hD n l)) (hall (hAt n l j) ?_).2.2.2 (lowD_pos hp)
 exact List.mem_of_getElem? (heights_get hj)
theorem xs_zero (p : Int) (n : Nat) (l : List Lev) : xs p (heightsP n l) 0 = 0 := by
 unfold xs heightsP
 show sclH p (0, 1) = 0
 unfold sclH
 exact Int.zero_mul _
theorem heights_grad {n : Nat} {l : List Lev} (h : netE ((n + 1 : Nat) : Int) l = 0) : ∀ p, 0 < p → p < n + 1 → grad (sclP ((n + 1 : Nat) : Int) (heightsP n l)) (xs (sclP ((n + 1 : Nat) : Int) (heightsP n l)) (heightsP n l)) (edges l) p = 0 := by
 obtain ⟨_, h2, _, _, _, _⟩ := net_edges h
 obtain ⟨hp, _⟩ := hD_pos h
 refine cramer_grad _ _ h2 (by rw [← hD_val]; omega) (xs_zero _ _ _) (fun j hj => ?_)
 rw [← hD_val, heights_xs h hj, hN_val h hj]
end Cal
end Go.Proofs.Ytfcjeejhdklkdaa
namespace Go.Proofs.Ytfcjeejhdklkdaa
open Go Go.RowKit Go.Shelf
namespace Cal
theorem sqv_append (all : Int) (x : Nat → Int) (e : Edge) : ∀ l : List Edge, sqv all x (l ++ [e]) = sqv all x l + e.w * (vOf all x e * vOf all x e)
 | [] => by show e.w * (vOf all x e * vOf all x e) + 0 = 0 + e.w * (vOf all x e * vOf all x e); omega
 | a :: l => by
  rw [List.cons_append]
  show a.w * (vOf all x a * vOf all x a) + sqv all x (l ++ [e]) = a.w * (vOf all x a * vOf all x a) + sqv all x l + _
  rw [sqv_append all x e l]; omega
def getN (hs : List Int) (i : Nat) : Int := hs[i]?.getD 0
def sqK (p : Int) (hs : List Int) (l : List Lev) (k : Nat) : Int := sqv p (getN hs) (edges (l.take k))
theorem sqK_succ {p : Int} {hs : List Int} {l : List Lev} {k : Nat} (h : k < l.length) : sqK p hs l (k + 1) = sqK p hs l k + l[k].w * (vOf p (getN hs) (edge l[k]) * vOf p (getN hs) (edge l[k])) := by
 have e : edges (l.take (k + 1)) = edges (l.take k) ++ [edge l[k]] := by
  unfold edges
  rw [List.take_succ_eq_append_getElem h, List.map_append]; rfl
 unfold sqK
 rw [e, sqv_append]
 rfl
end Cal
structure SqL (l : List Lev) (hs : List Int) (p : Int) : Prop where
 p1 : 1 ≤ p
 p2 : p ≤ 2000
 len : l.length ≤ 20
 at_ : ∀ x ∈ l, (0 ≤ x.f ∧ x.f < hs.length) ∧ (0 ≤ x.t ∧ x.t < hs.length) ∧ -1000 ≤ x.d ∧ x.d ≤ 1000 ∧ 1 ≤ x.w ∧ x.w ≤ 10
 hs : ∀ y ∈ hs, -40000000 ≤ y ∧ y ≤ 40000000
theorem sq_box {w v : Int} (h1 : 1 ≤ w) (h2 : w ≤ 10) (h3 : -82000000 ≤ v) (h4 : v ≤ 82000000) : (-820000000 ≤ w * v ∧ w * v ≤ 820000000) ∧ w * v * v = w * (v * v) ∧ 0 ≤ w * (v * v) ∧ w * (v * v) ≤ 67240000000000000 := by
 have m1 := mul_le_of (a := w) (b := v) (M := 10) (N := 82000000) (by omega) (by omega) h3 h4
 have m2 := mul_le_of (a := v) (b := v) (M := 82000000) (N := 82000000) h3 h4 h3 h4
 have m3 : 0 ≤ v * v := by
  rcases Int.le_total 0 v with h | h
  ·exact Int.mul_nonneg h h
  ·exact Int.mul_nonneg_of_nonpos_of_nonpos h h
 have m4 := Int.mul_nonneg (a := w) (by omega) m3
 have m5 : w * (v * v) ≤ 10 * (v * v) := Int.mul_le_mul_of_nonneg_right h2 m3
 refine ⟨by omega, Int.mul_assoc _ _ _, m4, by omega⟩
theorem square_any (A : Option Addr) (c : Nat) (l : List Lev) (O : Option Addr) (d : Nat) (hs : List Int) (p : Int) (w : World) (hL : Levs w A l) (hI : RowsAt w O 1 (intRows hs)) (hq : SqL l hs p) :
  Calls Try.prog 21 #[.slice A l.length c, .slice O hs.length d, .int .i64 p] w fun e w' => e = .returned (.int .i64 (Cal.sqv p (Cal.getN hs) (Cal.edges l))) ∧ Below w.heap.size w w' := by
 have hp1 := hq.p1
 have hp2 := hq.p2
 have hlen := hq.len
 have hat := Lib.hid hq.at_
 have hhs := Lib.hid hq.hs
 replace hL := Lib.hid hL
 replace hI := Lib.hid hI
 have hb0 : Hid (Below w.heap.size w w) := Below.refl _ _
 have hS0 : Hid (Cal.sqK p hs l 0 = 0) := rfl
 have hfin : Hid (Cal.sqv p (Cal.getN hs) (Cal.edges l) = Cal.sqK p hs l l.length) := by show _ = _; unfold Cal.sqK; rw [List.take_length]
 rw [hfin.out]
 clear hq hfin
 go_enter Try.func21, Try.ntmps21
 go_wp2_with fail
 go_loopw [7, 8] (fun s i wr => ∃ k : Nat, k ≤ l.length ∧ i = .int .i64 k ∧ s = .int .i64 (Cal.sqK p hs l k) ∧ Hid (0 ≤ Cal.sqK p hs l k ∧ Cal.sqK p hs l k ≤ 67240000000000000 * (k : Int)) ∧ Hid (Below w.heap.size w wr)) (fun _ i _ => l.length - (intOf i).toNat)
 case atStart => exact ⟨0, Nat.zero_le _, rfl, rfl, ⟨by rw [hS0.out]; decide, by rw [hS0.out]; decide⟩, hb0⟩
 case round =>
  clear hb0 hS0
  obtain ⟨k, hk, rfl, rfl, hsb, hb⟩ := hrel
  by_cases hlt : k < l.length
  ·have hk' : l[k]? = some l[k] := List.getElem?_eq_getElem hlt
   obtain ⟨a1, a2, a3, a4, a5, a6⟩ := hat.out _ (List.getElem_mem hlt)
   have hst := Cal.sqK_succ (p := p) (hs := hs) hlt
   obtain ⟨b, o, rfl, hbl, c0, c1, c2, c3⟩ := lev_at (hL.out.below hb.out).rows hk'
   generalize l[k] = x at *
   obtain ⟨xf, xt, xd, xw⟩ := x
   dsimp only at *
   obtain ⟨f, rfl⟩ : ∃ f : Nat, xf = (f : Int) := ⟨xf.toNat, by omega⟩
   obtain ⟨t, rfl⟩ : ∃ t : Nat, xt = (t : Int) := ⟨xt.toNat, by omega⟩
   have hfN : f < hs.length := by omega
   have htN : t < hs.length := by omega
   obtain ⟨b2, o2, rfl, hb2, g0⟩ := intsI_at (hI.out.below hb.out) hfN
   obtain ⟨b3, o3, hA3, _, g1⟩ := intsI_at (hI.out.below hb.out) htN
   cases hA3
   have hyf := hhs.out _ (List.getElem_mem hfN)
   have hyt := hhs.out _ (List.getElem_mem htN)
   have hv : Cal.vOf p (Cal.getN hs) (Cal.edge ⟨(f : Int), (t : Int), xd, xw⟩) = xd * p - hs[t] + hs[f] := by
    unfold Cal.vOf Cal.edge Cal.getN
    dsimp only
    rw [Int.toNat_natCast, Int.toNat_natCast, List.getElem?_eq_getElem htN, List.getElem?_eq_getElem hfN]
    rfl
   rw [hv] at hst
   have hew : (Cal.edge ⟨(f : Int), (t : Int), xd, xw⟩).w = xw := rfl
   generalize hs[f] = yf at *
   generalize hs[t] = yt at *
   have hki : (k : Int) < (l.length : Int) := by omega
   have hfi : (f : Int) < (hs.length : Int) := by omega
   have hti : (t : Int) < (hs.length : Int) := by omega
   have hm := mul_le_of (a := xd) (b := p) (M := 1000) (N := 2000) (by omega) (by omega) (by omega) (by omega)
   have w1 : IntKind.i64.wrap (xd * p) = xd * p := wrap_small (by omega) (by omega)
   have w1b : wrap64 (xd * p) = xd * p := by rw [← wrap_eq]; exact w1
   have w2 : IntKind.i64.wrap (xd * p - yt) = xd * p - yt := wrap_small (by omega) (by omega)
   have w2b : wrap64 (xd * p - yt) = xd * p - yt := by rw [← wrap_eq]; exact w2
   obtain ⟨v, hvv⟩ : ∃ v, xd * p - yt + yf = v := ⟨_, rfl⟩
   have w3 : IntKind.i64.wrap (xd * p - yt + yf) = v := by rw [wrap_small (by omega) (by omega)]; exact hvv
   have w3b : wrap64 (xd * p - yt + yf) = v := by rw [← wrap_eq]; exact w3
   rw [hvv] at hst
   obtain ⟨q1, q2, q3, q4⟩ := sq_box (w := xw) (v := v) a5 a6 (by omega) (by omega)
   obtain ⟨hs1, hs2⟩ := hsb.out
   rw [← q2] at hst q3 q4
   generalize hS : Cal.sqK p hs l k = S at *
   generalize hS1 : Cal.sqK p hs l (k + 1) = S1 at *
   have w4 : IntKind.i64.wrap (xw * v) = xw * v := wrap_small (by omega) (by omega)
   have w4b : wrap64 (xw * v) = xw * v := by rw [← wrap_eq]; exact w4
   have w5 : IntKind.i64.wrap (xw * v * v) = xw * v * v := wrap_small (by omega) (by omega)
   have w5b : wrap64 (xw * v * v) = xw * v * v := by rw [← wrap_eq]; exact w5
   have w6 : IntKind.i64.wrap (S + xw * v * v) = S1 := by rw [wrap_small (by omega) (by omega)]; exact hst.symm
   have w6b : wrap64 (S + xw * v * v) = S1 := by rw [← wrap_eq]; exact w6
   have hnb : Hid (0 ≤ Cal.sqK p hs l (k + 1) ∧ Cal.sqK p hs l (k + 1) ≤ 67240000000000000 * ((k + 1 : Nat) : Int)) := by show _ ∧ _; rw [hS1]; omega
   replace hS1 := Lib.hid hS1
   clear hk' hat hst hv hew hm hvv hs1 hs2 hS hsb q1 q2 q3 q4 hyf hyt a1 a2 a3 a4 a5 a6 hhs
   go_wp2_with fail
   refine wp_region_held_drew (S := Sx wr [(b, o + k * 4, .int .i64 (f : Int)), (b, o + k * 4 + 1, .int .i64 (t : Int)), (b, o + k * 4 + 2, .int .i64 xd), (b2, o2 + f, .int .i64 yf), (b2, o2 + t, .int .i64 yt)]) (by kernel_rfl) (Sx.mk (by simp only [cs_iff_cons]; exact ⟨c0, c1, c2, g0, g1, cs_nil _⟩) (Below.refl _ _)).drew (fun hHeld => ?_)
   have c3' := (hHeld.bel.cell (p := ⟨b, o + k * 4 + 3, none⟩) hbl).trans c3
   clear c0 c1 c2 c3 g0 g1
   (refine wpAnyH_hide (fun _ _ _ _ _ h => h) (fun Q0 hp0 hQ0 => ?_))
   refine tkQx 0 16 hp0 ?_
   refine tkQx 1 17 hp0 ?_
   refine tkQx 2 18 hp0 ?_
   refine tkQx 3 19 hp0 ?_
   refine tkQx 4 20 hp0 ?_
   refine tkQx 5 21 hp0 ?_
   refine tkQx 6 22 hp0 ?_
   refine tkQx 7 23 hp0 ?_
   refine tkQx 8 24 hp0 ?_
   refine tkQx 9 25 hp0 ?_
   refine tkQx 10 26 hp0 ?_
   refine tkQx 11 27 hp0 ?_
   refine tkQx 12 28 hp0 ?_
   refine tkQx 13 29 hp0 ?_
   refine tkQx 14 30 hp0 ?_
   refine tkQx 15 31 hp0 ?_
   refine tkQx 16 32 hp0 ?_
   refine tkQx 17 33 hp0 ?_
   refine tkQx 18 34 hp0 ?_
   refine tkQx 19 35 hp0 ?_
   refine tkQx 20 36 hp0 ?_
   refine tkQx 21 37 hp0 ?_
   refine tkQx 22 38 hp0 ?_
   refine tkQx 23 39 hp0 ?_
   refine tkQx 24 40 hp0 ?_
   refine tkQx 25 9 hp0 ?_
   refine wpAnyH_done (by kernel_rfl) ?_ _
   (try simp only [apS, apN, siA, scZ, scS])
   (obtain rfl := hQ0.out; clear hp0)
   have hb2 := Lib.hid (below_step hb.out hHeld.bel)
   clear hHeld
   go_wp2_with fail
   go_roundw
   case rel => exact ⟨k + 1, by omega, by go_num, by rw [hS1.out], hnb, hb2⟩
   case measure => simp [intOf]; omega
  ·obtain rfl : k = l.length := by omega
   go_wp2_with fail
   go_ret
   exact ⟨rfl, hb.out⟩
end Go.Proofs.Ytfcjeejhdklkdaa
namespace Go.Proofs.Ytfcjeejhdklkdaa.Cal
theorem heights_xs_le {n : Nat} {l : List Lev} {M : Int} (h : netE ((n + 1 : Nat) : Int) l = 0) (hM : 0 ≤ M) (hd : ∀ e ∈ edges l, -M ≤ e.d ∧ e.d ≤ M) {i : Nat} (hi : i < n + 1) :
  -((n : Int) * (M * sclP ((n + 1 : Nat) : Int) (heightsP n l))) ≤ xs (sclP ((n + 1 : Nat) : Int) (heightsP n l)) (heightsP n l) i ∧ xs (sclP ((n + 1 : Nat) : Int) (heightsP n l)) (heightsP n l) i ≤ (n : Int) * (M * sclP ((n + 1 : Nat) : Int) (heightsP n l)) := by
 obtain ⟨h1, h2, h3, h4, h5, _⟩ := net_edges h
 obtain ⟨_, _, p1, _, _⟩ := sclE_zero (heights_scl h)
 have hg := heights_grad h
 have h0 := xs_zero (sclP ((n + 1 : Nat) : Int) (heightsP n l)) n l
 generalize sclP ((n + 1 : Nat) : Int) (heightsP n l) = P at *
 have hG : ∀ e ∈ edges l, -(M * P) ≤ e.d * P ∧ e.d * P ≤ M * P := fun e he => by
  obtain ⟨a, b⟩ := hd e he
  have := Int.mul_le_mul_of_nonneg_right a (by omega : 0 ≤ P)
  have := Int.mul_le_mul_of_nonneg_right b (by omega : 0 ≤ P)
  rw [Int.neg_mul] at *
  omega
 have hG0 : 0 ≤ M * P := Int.mul_nonneg hM (by omega)
 have hw : ∀ e ∈ edges l, 0 < e.w := fun e he => by have := h3 e he; omega
 exact ⟨height_ge _ h2 hw h5 hg hG h0 hG0 i hi, height_le _ h2 hw h5 hg hG h0 hG0 i hi⟩
end Go.Proofs.Ytfcjeejhdklkdaa.Cal
namespace Go.Proofs.Ytfcjeejhdklkdaa
open Go Go.RowKit Go.Shelf
def Row30 (w : World) (A : Option Addr) (l : List Lev) : Prop := RowsAt w A 4 (l.map Lev.cells)
theorem Row30.levs {w : World} {A : Option Addr} {l : List Lev} (h : Row30 w A l) (hl : l.length ≤ 1000000) : Levs w A l := ⟨h, hl⟩
end Go.Proofs.Ytfcjeejhdklkdaa
namespace Go.Proofs.Ytfcjeejhdklkdaa
open Go Go.RowKit Go.Shelf
theorem own_swap {a b : Option Nat} (h : a = none ∨ a ≠ b) : b = none ∨ b ≠ a := by
 cases b
 ·exact Or.inl rfl
 ·right
  intro e
  rcases h with h | h
  ·rw [h] at e; cases e
  ·exact h e.symm
theorem own_next {w : World} {B m s : Nat} {E : TypeId} {u : Value} {rows : List (List Value)} (h : OwnL w B E m u rows) (hs : w.heap.size ≤ s) {v v' : Option Nat} (hne : u.ownBlock = none ∨ u.ownBlock ≠ v) (hob : v' = v ∨ v' = some s) : u.ownBlock = none ∨ u.ownBlock ≠ v' := by
 rcases hob with e | e
 ·rw [e]; exact hne
 ·rw [e]
  right
  intro e2
  have := (OwnL.lt h _ e2).2
  omega
theorem wpPushO {ops : Array Oper} {rest : List Oper} {op : Oper} {a : Act} {w : World} {Q : Exit → Act → World → Prop} {B : Nat} {v : Value} {zs : List Int} {t : TypeId} (z : Int) (h : IntsL w B v zs) (hB : B ≤ w.heap.size) (hlen : zs.length ≤ 1000000)
  (hgd : op.guard = none) (s x : Operand) (ho : op.op = .call { callee := .builtin .append, args := #[s, x], argTypes := #[23, 23] }) (hs : a.eval s = v) {c : Nat} (hx : a.eval x = .slice (some ⟨w.heap.size, 0, none⟩) 1 c)
  (k : ∀ v' w', IntsL w' B v' (zs ++ [z]) → Below B w w' → (w.alloc (.cells #[.int .i64 z] t)).grownBy w' v.ownBlock → (v'.ownBlock = v.ownBlock ∨ v'.ownBlock = some (w.heap.size + 1)) → wpList Try.prog ops Q rest (a.put op.dst v') w') : wpList Try.prog ops Q (op :: rest) a (w.alloc (.cells #[.int .i64 z] t)) := by
 refine wpList_append_rows elemInt hgd s x ho hs hx (OwnL.below h (below_alloc _ _)) (rowsAt_new _ [.int .i64 z] _) rfl (intRows_wid [z]) (intRows_one [z]) (by rw [intRows_length]; simp; omega) (by decide) (by simp; omega) ?_
 intro v' w2 hown2 hg2 hob2
 rw [World.size_alloc] at hob2
 refine k v' w2 ?_ ?_ hg2 hob2
 ·unfold IntsL intRows; rw [List.map_append]; exact hown2
 ·exact ((Below.refl B w).alloc hB _).trans (grown_below hg2 (fun g e => (OwnL.lt h g e).1) (by simp; omega))
def Cal.bestL (p : Int) (fr : List (Int × Int)) : List Int := fr.map (Cal.sclH p)
def Cal.otherL (p : Int) (os : List Int) : List Int := os.map fun o => o * p
theorem Cal.best_xs (P : Int) (fr : List (Int × Int)) : Cal.getN (Cal.bestL P fr) = Cal.xs P fr := by
 funext i
 unfold Cal.getN Cal.bestL Cal.xs
 rw [List.getElem?_map]
 cases fr[i]? with
 | some h => rfl
 | none => show (0 : Int) = 0 * _; rw [Int.zero_mul]
theorem Cal.least_facts {n : Nat} {l : List Lev} {os : List Int} (hz : Cal.netE ((n + 1 : Nat) : Int) l = 0) (hd : ∀ x ∈ l, -1000 ≤ x.d ∧ x.d ≤ 1000) (hn : os.length = n + 1) (h0 : os[0]? = some 0) (hP : Cal.sclP ((n + 1 : Nat) : Int) (Cal.heightsP n l) ≤ 2000) :
  SqL l (Cal.bestL (Cal.sclP ((n + 1 : Nat) : Int) (Cal.heightsP n l)) (Cal.heightsP n l)) (Cal.sclP ((n + 1 : Nat) : Int) (Cal.heightsP n l)) ∧
  ((∀ j (hj : j < os.length), -5000 ≤ os[j] ∧ os[j] ≤ 5000) → SqL l (Cal.otherL (Cal.sclP ((n + 1 : Nat) : Int) (Cal.heightsP n l)) os) (Cal.sclP ((n + 1 : Nat) : Int) (Cal.heightsP n l))) ∧
  Cal.sqv (Cal.sclP ((n + 1 : Nat) : Int) (Cal.heightsP n l)) (Cal.getN (Cal.bestL (Cal.sclP ((n + 1 : Nat) : Int) (Cal.heightsP n l)) (Cal.heightsP n l))) (Cal.edges l) ≤ Cal.sqv (Cal.sclP ((n + 1 : Nat) : Int) (Cal.heightsP n l)) (Cal.getN (Cal.otherL (Cal.sclP ((n + 1 : Nat) : Int) (Cal.heightsP n l)) os)) (Cal.edges l) := by
 obtain ⟨e1, e2, e3, e4, e5, e6⟩ := Cal.net_edges hz
 obtain ⟨_, _, p1, _, _⟩ := Cal.sclE_zero (Cal.heights_scl hz)
 obtain ⟨_, n6, l20, _, _⟩ := Cal.netE_zero hz
 have hed : ∀ e ∈ Cal.edges l, -1000 ≤ e.d ∧ e.d ≤ 1000 := fun e he => by
  obtain ⟨x, hx, rfl⟩ := List.mem_map.1 he
  exact hd x hx
 have hxs := fun i (hi : i < n + 1) => Cal.heights_xs_le hz (M := 1000) (by decide) hed hi
 have hx0 := Cal.xs_zero (Cal.sclP ((n + 1 : Nat) : Int) (Cal.heightsP n l)) n l
 have hgr := Cal.heights_grad hz
 have hlen := Cal.heights_len n l
 have hn5 : (n : Int) ≤ 5 := by omega
 generalize Cal.sclP ((n + 1 : Nat) : Int) (Cal.heightsP n l) = P at *
 generalize Cal.heightsP n l = fr at *
 have hat : ∀ m : Nat, m = n + 1 → ∀ x ∈ l, (0 ≤ x.f ∧ x.f < (m : Int)) ∧ (0 ≤ x.t ∧ x.t < (m : Int)) ∧ -1000 ≤ x.d ∧ x.d ≤ 1000 ∧ 1 ≤ x.w ∧ x.w ≤ 10 := fun m hm x hx => by
  have he := List.mem_map_of_mem (f := Cal.edge) hx
  obtain ⟨a1, a2⟩ := e2 _ he
  obtain ⟨b1, b2⟩ := e3 _ he
  obtain ⟨c1, c2⟩ := hd x hx
  have h5 := (Cal.netE_zero hz).2.2.2.1 x hx
  unfold Cal.levE at h5
  split at h5
  ·rename_i h6
   obtain ⟨h7, h8⟩ := h6
   unfold inN at h7 h8
   simp only [Bool.and_eq_true, decide_eq_true_eq] at h7 h8
   have b1' : 1 ≤ x.w := b1
   have b2' : x.w ≤ 10 := b2
   exact ⟨⟨by omega, by omega⟩, ⟨by omega, by omega⟩, c1, c2, b1', b2'⟩
  ·cases h5
 refine ⟨⟨p1, hP, l20, hat _ (by unfold Cal.bestL; rw [List.length_map, hlen]), fun y hy => ?_⟩, fun hos => ⟨p1, hP, l20, hat _ (by unfold Cal.otherL; rw [List.length_map, hn]), fun y hy => ?_⟩, ?_⟩
 ·obtain ⟨i, hi, rfl⟩ := List.getElem_of_mem hy
  have hi' : i < n + 1 := by unfold Cal.bestL at hi; rw [List.length_map, hlen] at hi; exact hi
  have hv : (Cal.bestL P fr)[i] = Cal.xs P fr i := by rw [← Cal.best_xs]; unfold Cal.getN; rw [List.getElem?_eq_getElem hi]; rfl
  rw [hv]
  obtain ⟨x1, x2⟩ := hxs i hi'
  have m : (n : Int) * (1000 * P) ≤ 5 * (1000 * P) := Int.mul_le_mul_of_nonneg_right hn5 (by omega)
  omega
 ·obtain ⟨o, ho, rfl⟩ := List.mem_map.1 hy
  obtain ⟨j, hj, rfl⟩ := List.getElem_of_mem ho
  obtain ⟨o1, o2⟩ := hos j hj
  have m := mul_le_of (a := os[j]) (b := P) (M := 5000) (N := 2000) o1 o2 (by omega) hP
  omega
 ·rw [Cal.best_xs]
  refine Cal.sqv_least P _ _ (n := n + 1) e2 (fun e he => by have := e3 e he; omega) ?_ hgr
  rw [hx0]
  unfold Cal.getN Cal.otherL
  rw [List.getElem?_map, h0]
  show (0 : Int) = 0 * P
  rw [Int.zero_mul]
theorem GroundLeast_any (N : Int) (A : Option Addr) (c : Nat) (l : List Lev) (O : Option Addr) (c2 : Nat) (os : List Int) (w : World) (hR : Row30 w A l) (hI : RowsAt w O 1 (intRows os)) (hi : ∀ n ∈ os, -9223372036854775808 ≤ n ∧ n ≤ 9223372036854775807) :
  Calls Try.prog 4 #[.int .i64 N, .slice A l.length c, .slice O os.length c2] w fun e w' => e = .returned (.bool true) ∧ Below w.heap.size w w' := by
 by_cases hl : 30 < l.length
 ·have hl1 : 30 < (l.length : Int) := by omega
  clear hR hI hi
  go_enter Try.func4, Try.ntmps4
  go_wp2_with (go_at_call 20; refine (lawAwake_any _).mono ?_; rintro e w1 ⟨rfl, hb1⟩; replace hb1 := Lib.hid hb1)
  go_ret
  exact ⟨rfl, hb1.out⟩
 have hl1 : ¬ 30 < (l.length : Int) := by omega
 have hL := hR.levs (by omega)
 have hnet := Lib.hid (fun W (hb : Below w.heap.size w W) => CheckNetR_any N A c l W (hL.below hb))
 clear hR
 by_cases hz : Cal.netE N l = 0
 rotate_left
 ·have hzb : (Cal.netE N l == 0) = false := by simpa using hz
  have hzc : (Cal.netE N l != 0) = true := by simpa using hz
  clear hL hI
  generalize Cal.netE N l = E at *
  go_enter Try.func4, Try.ntmps4
  go_wp2_with (first | (go_at_call 20; refine (lawAwake_any _).mono ?_; rintro e w1 ⟨rfl, hb1⟩; replace hb1 := Lib.hid hb1) | (go_at_call 13; refine (hnet.out _ hb1.out).mono ?_; rintro e w2 ⟨rfl, hb2⟩; replace hb2 := Lib.hid (below_step hb1.out hb2); clear hnet))
  go_ret
  exact ⟨rfl, hb2.out⟩
 rw [hz] at hnet
 by_cases hon : (os.length : Int) = N
 rotate_left
 ·have hob : ((os.length : Int) == N) = false := by simpa using hon
  have hoc : ((os.length : Int) != N) = true := by simpa using hon
  clear hL hI hz
  go_enter Try.func4, Try.ntmps4
  go_wp2_with (first | (go_at_call 20; refine (lawAwake_any _).mono ?_; rintro e w1 ⟨rfl, hb1⟩; replace hb1 := Lib.hid hb1) | (go_at_call 13; refine (hnet.out _ hb1.out).mono ?_; rintro e w2 ⟨rfl, hb2⟩; replace hb2 := Lib.hid (below_step hb1.out hb2); clear hnet))
  go_ret
  exact ⟨rfl, hb2.out⟩
 obtain ⟨hn1, hn6, hl20, hlev, hsw⟩ := Cal.netE_zero hz
 clear hsw
 have h0l : 0 < os.length := by omega
 have hob : ((os.length : Int) != N) = false := by simpa using hon
 have hoc : ((os.length : Int) == N) = true := by simpa using hon
 replace hI := Lib.hid hI
 have hil : (0 : Int) < (os.length : Int) := by omega
 by_cases ho0 : os[0] = 0
 rotate_left
 ·have hog : (os[0] == 0) = false := by simpa using ho0
  have hoh : (os[0] != 0) = true := by simpa using ho0
  have hcell := Lib.hid (fun W (hb : Below w.heap.size w W) => intsI_at (hI.out.below hb) h0l)
  clear hL hz hlev hI
  generalize os[0] = o0 at *
  go_enter Try.func4, Try.ntmps4
  go_wp2_with (first | (go_at_call 20; refine (lawAwake_any _).mono ?_; rintro e w1 ⟨rfl, hb1⟩; replace hb1 := Lib.hid hb1) | (go_at_call 13; refine (hnet.out _ hb1.out).mono ?_; rintro e w2 ⟨rfl, hb2⟩; replace hb2 := Lib.hid (below_step hb1.out hb2); clear hnet; obtain ⟨bO, oO, rfl, hbO, e0⟩ := hcell.out _ hb2.out; rw [Nat.add_zero] at e0))
  go_ret
  exact ⟨rfl, hb2.out⟩
 have hcell := Lib.hid (fun W (hb : Below w.heap.size w W) => intsI_at (hI.out.below hb) h0l)
 replace hlev := Lib.hid hlev
 replace hL := Lib.hid hL
 rw [ho0] at hcell
 go_enter Try.func4, Try.ntmps4
 go_wp2_with (first | (go_at_call 20; refine (lawAwake_any _).mono ?_; rintro e w1 ⟨rfl, hb1⟩; replace hb1 := Lib.hid hb1) | (go_at_call 13; refine (hnet.out _ hb1.out).mono ?_; rintro e w2 ⟨rfl, hb2⟩; replace hb2 := Lib.hid (below_step hb1.out hb2); clear hnet; obtain ⟨bO, oO, rfl, hbO, e0⟩ := hcell.out _ hb2.out; rw [Nat.add_zero] at e0))
 clear e0 hcell
 have hbw : Hid (Below w2.heap.size w2 w2) := Below.refl _ _
 go_loopw [7] (fun i wr => ∃ k : Nat, k ≤ l.length ∧ i = .int .i64 k ∧ Hid (∀ j (hj : j < l.length), j < k → -1000 ≤ l[j].d ∧ l[j].d ≤ 1000) ∧ Hid (Below w2.heap.size w2 wr)) (fun i _ => l.length - (intOf i).toNat)
 case atStart => exact ⟨0, Nat.zero_le _, rfl, fun j _ h => by omega, hbw⟩
 case round =>
  clear hbw
  obtain ⟨k, hk, rfl, hall, hbw⟩ := hrel
  have hbz := Lib.hid (hb2.out.trans (hbw.out.mono hb2.out.size))
  by_cases hlt : k < l.length
  ·have hk' : l[k]? = some l[k] := List.getElem?_eq_getElem hlt
   obtain ⟨b, o, hA, hbl, c0, c1, c2', c3⟩ := lev_at (hL.out.below hbz.out).rows hk'
   subst hA
   have hki : (k : Int) < (l.length : Int) := by omega
   have hW := Lib.hid (fun W => Within_any l[k].d (-1000) 1000 W)
   by_cases hd : -1000 ≤ l[k].d ∧ l[k].d ≤ 1000
   ·rw [show (decide ((-1000 : Int) ≤ l[k].d) && decide (l[k].d ≤ 1000)) = true from by simp; omega] at hW
    have hall2 : Hid (∀ j (hj : j < l.length), j < k + 1 → -1000 ≤ l[j].d ∧ l[j].d ≤ 1000) := fun j hj h => by
     rcases Nat.lt_succ_iff_lt_or_eq.1 h with h' | h'
     ·exact hall.out j hj h'
     ·subst h'; exact hd
    clear hd hall hk'
    generalize l[k] = x at *
    go_wp2_with (go_at_call 19; refine (hW.out _).mono ?_; rintro e w3 ⟨rfl, rfl⟩)
    go_roundw
    case rel => exact ⟨k + 1, by omega, by go_num, hall2, hbw⟩
    case measure => simp [intOf]; omega
   ·rw [show (decide ((-1000 : Int) ≤ l[k].d) && decide (l[k].d ≤ 1000)) = false from by
     rw [Bool.and_eq_false_iff, decide_eq_false_iff_not, decide_eq_false_iff_not]; omega] at hW
    clear hd hall hk'
    generalize l[k] = x at *
    go_wp2_with (go_at_call 19; refine (hW.out _).mono ?_; rintro e w3 ⟨rfl, rfl⟩)
    go_ret
    exact ⟨rfl, hbz.out⟩
  ·obtain rfl : k = l.length := by omega
   have hd1 : ∀ x ∈ l, -1000 ≤ x.d ∧ x.d ≤ 1000 := fun x hx => by
    obtain ⟨j, hj, rfl⟩ := List.getElem_of_mem hx
    exact hall.out j hj hj
   obtain ⟨n, hn⟩ : ∃ n : Nat, os.length = n + 1 := ⟨os.length - 1, by omega⟩
   have hNn : N.toNat - 1 = n := by omega
   have hz2 : Cal.netE ((n + 1 : Nat) : Int) l = 0 := by rw [← hn, hon]; exact hz
   have hgood := Cal.heights_good hz2
   have hscl := Cal.heights_scl hz2
   have hDp := Cal.hD_pos hz2
   obtain ⟨_, hsc2, hp1', hp2', _⟩ := Cal.sclE_zero hscl
   clear hsc2
   have hfl : (Cal.heightsP n l).length = os.length := by rw [Cal.heights_len, hn]
   have hfb : ∀ h ∈ Cal.heightsP n l, (-9223372036854775808 ≤ h.1 ∧ h.1 ≤ 9223372036854775807) ∧ (-9223372036854775808 ≤ h.2 ∧ h.2 ≤ 9223372036854775807) := fun h hh => by
    obtain ⟨g1, _, g3, g4⟩ := hgood h hh
    have g5 := Int.le_of_dvd hDp.1 g4
    have g6 := of_decide_eq_false g3
    omega
   have hhts : Hid (∀ W, Below w.heap.size w W → Calls Try.prog 15 #[.int .i64 N, .slice A l.length c] W fun e w' => ∃ A4 c4, e = .returned (.tuple #[.slice A4 os.length c4, .int .i64 0]) ∧ RowsAt w' A4 2 ((Cal.heightsP n l).map frR) ∧ Below W.heap.size W w') := fun W hb => by
    have := Heights_any N A c l W (hL.out.below hb)
    rw [if_pos hz, hNn, hz] at this
    refine this.mono ?_
    rintro e w' ⟨v, rfl, hO, hb'⟩
    obtain ⟨A4, c4, rfl, hr⟩ := hO.form
    rw [List.length_map, hfl]
    exact ⟨A4, c4, rfl, hr, hb'⟩
   have hher : Hid (∀ A4 c4 W, RowsAt W A4 2 ((Cal.heightsP n l).map frR) → Calls Try.prog 16 #[.int .i64 N, .slice A4 os.length c4] W fun e w' => e = .returned (.tuple #[.int .i64 (Cal.sclP N (Cal.heightsP n l)), .int .i64 0]) ∧ Below W.heap.size W w') := fun A4 c4 W hr => by
    have := HeightsErrR_any N A4 c4 (Cal.heightsP n l) W hr (by omega) hfb
    rw [hfl, show Cal.sclE N (Cal.heightsP n l) = 0 from by rw [← hon, hn]; exact hscl] at this
    exact this
   have hlf := Lib.hid (fun hP => Cal.least_facts hz2 hd1 hn (by rw [List.getElem?_eq_getElem h0l, ho0]) hP)
   rw [← hn, hon] at hlf
   replace hn := Lib.hid hn
   replace hd1 := Lib.hid hd1
   replace hz2 := Lib.hid hz2
   replace hfl := Lib.hid hfl
   replace hgood := Lib.hid hgood
   replace hon := Lib.hid hon
   clear hall hNn hscl hDp hfb hz hlev ho0
   by_cases hP : 2000 < Cal.sclP N (Cal.heightsP n l)
   ·go_wp2_with (first
     |(go_at_call 15; refine (hhts.out _ hbz.out).mono ?_; rintro e w4 ⟨A4, c4, rfl, hr4, hb4⟩; replace hb4 := Lib.hid (below_step hbz.out hb4); replace hr4 := Lib.hid hr4; clear hhts)
     |(go_at_call 16; refine (hher.out _ _ _ hr4.out).mono ?_; rintro e w5 ⟨rfl, hb5⟩; have hr5 := Lib.hid (hr4.out.below hb5); replace hb5 := Lib.hid (below_step hb4.out hb5); clear hher))
    go_ret
    exact ⟨rfl, hb5.out⟩
   ·have hP2 : ¬ 2000 < Cal.sclP N (Cal.heightsP n l) := hP
    go_wp2_with (first
     |(go_at_call 15; refine (hhts.out _ hbz.out).mono ?_; rintro e w4 ⟨A4, c4, rfl, hr4, hb4⟩; replace hb4 := Lib.hid (below_step hbz.out hb4); replace hr4 := Lib.hid hr4; clear hhts)
     |(go_at_call 16; refine (hher.out _ _ _ hr4.out).mono ?_; rintro e w5 ⟨rfl, hb5⟩; have hr5 := Lib.hid (hr4.out.below hb5); replace hb5 := Lib.hid (below_step hb4.out hb5); clear hher))
    have hd0 := hd1.out
    have hb0' : Hid (Below w5.heap.size w5 w5) := Below.refl _ _
    have hw5 : Hid (w.heap.size ≤ w5.heap.size) := hb5.out.size
    have hbnd : Hid (∀ h ∈ Cal.heightsP n l, 1 ≤ h.2 ∧ h.2 ≤ 4000000000 ∧ -(20000 * h.2) ≤ h.1 ∧ h.1 ≤ 20000 * h.2) := fun h hh => by
     obtain ⟨g1, _, _, g4⟩ := hgood.out h hh
     have hD := Cal.hD_pos hz2.out
     have g5 := Int.le_of_dvd hD.1 g4
     rcases Cal.heights_at hh with e | ⟨i, hi, e⟩
     ·subst e; exact ⟨by decide, by decide, by decide, by decide⟩
     ·have hed : ∀ e ∈ Cal.edges l, -1000 ≤ e.d ∧ e.d ≤ 1000 := fun e he => by
       obtain ⟨x, hx, rfl⟩ := List.mem_map.1 he
       exact hd0 x hx
      have h5 := Cal.hAt_le hz2.out (M := 1000) (by decide) hed hi
      rw [← e] at h5
      have hn5 : (n : Int) ≤ 5 := by have := hn.out; have := hon.out; omega
      have h6 : (n : Int) * 1000 * h.2 ≤ 20000 * h.2 := Int.mul_le_mul_of_nonneg_right (by omega) (by omega)
      exact ⟨g1, by omega, by omega, by omega⟩
    have hfl2 := hfl
    obtain ⟨hq1, hq2, hq3⟩ := hlf.out (by omega)
    replace hq1 := Lib.hid hq1
    replace hq2 := Lib.hid hq2
    replace hq3 := Lib.hid hq3
    clear hlf hd0 hd1 hgood hP hz2 hfl
    generalize Cal.heightsP n l = fr at *
    generalize Cal.sclP N fr = P at *
    have hB0 : Hid (IntsL w5 w5.heap.size (.slice none 0 0) ((Cal.bestL P fr).take 0)) := by show IntsL _ _ _ _; rw [List.take_zero]; exact OwnL.nil _ _ _ _
    have hO0 : Hid (IntsL w5 w5.heap.size (.slice none 0 0) ((Cal.otherL P os).take 0)) := by show IntsL _ _ _ _; rw [List.take_zero]; exact OwnL.nil _ _ _ _
    have hoN := Lib.hid hon.out
    go_loopw [12, 13, 14] (fun bv ov i wr => ∃ (k : Nat) (b1 o1 : Value), k ≤ os.length ∧ i = .int .i64 k ∧ bv = b1 ∧ ov = o1 ∧ Hid (IntsL wr w5.heap.size b1 ((Cal.bestL P fr).take k)) ∧ Hid (IntsL wr w5.heap.size o1 ((Cal.otherL P os).take k)) ∧ Hid (b1.ownBlock = none ∨ b1.ownBlock ≠ o1.ownBlock) ∧ Hid (∀ j (hj : j < os.length), j < k → -5000 ≤ os[j] ∧ os[j] ≤ 5000) ∧ Hid (Below w5.heap.size w5 wr)) (fun _ _ i _ => os.length - (intOf i).toNat)
    case atStart => exact ⟨0, _, _, Nat.zero_le _, rfl, rfl, rfl, hB0, hO0, Or.inl rfl, fun j _ h => by omega, hb0'⟩
    case round =>
     clear hB0 hO0 hb0'
     obtain ⟨k, b1, o1, hk, rfl, rfl, rfl, hB, hO, hne, hal, hbq⟩ := hrel
     have hbY := Lib.hid (hb5.out.trans (hbq.out.mono hb5.out.size))
     by_cases hlt : k < os.length
     ·obtain ⟨b2, o2, hA2, hb2', e0w⟩ := intsI_at hI.out hlt
      cases hA2
      have e0 := (hbY.out.cell (p := ⟨bO, oO + k, none⟩) hb2').trans e0w
      replace e0w := Lib.hid e0w
      have hkN : (k : Int) < N := by have := hoN.out; omega
      have hki : (k : Int) < (os.length : Int) := by omega
      have hW := Lib.hid (fun W => Within_any os[k] (-5000) 5000 W)
      by_cases hd : -5000 ≤ os[k] ∧ os[k] ≤ 5000
      ·rw [show (decide ((-5000 : Int) ≤ os[k]) && decide (os[k] ≤ 5000)) = true from by simp; omega] at hW
       have hal2 : Hid (∀ j (hj : j < os.length), j < k + 1 → -5000 ≤ os[j] ∧ os[j] ≤ 5000) := fun j hj h => by
        rcases Nat.lt_succ_iff_lt_or_eq.1 h with h' | h'
        ·exact hal.out j hj h'
        ·subst h'; exact hd
       have hkf : k < fr.length := by have := hfl2.out; omega
       obtain ⟨g1, g2, g3, g4⟩ := hbnd.out _ (List.getElem_mem hkf)
       obtain ⟨bF, oF, hAF, hbF, f0, f1⟩ := fr_at hr5.out (List.getElem?_eq_getElem hkf)
       replace f0 := (hbq.out.cell (p := ⟨bF, oF + k * 2, none⟩) hbF).trans f0
       replace f1 := (hbq.out.cell (p := ⟨bF, oF + k * 2 + 1, none⟩) hbF).trans f1
       subst hAF
       have hbk := hq1.out.hs _ (List.mem_map_of_mem (f := Cal.sclH P) (List.getElem_mem hkf))
       have hnb : Hid ((Cal.bestL P fr).take (k + 1) = (Cal.bestL P fr).take k ++ [fr[k].1 * P.tdiv fr[k].2]) := by
        show _ = _
        unfold Cal.bestL
        rw [← List.map_take, ← List.map_take, List.take_succ_eq_append_getElem hkf, List.map_append]; rfl
       have hno : Hid ((Cal.otherL P os).take (k + 1) = (Cal.otherL P os).take k ++ [os[k] * P]) := by
        show _ = _
        unfold Cal.otherL
        rw [← List.map_take, ← List.map_take, List.take_succ_eq_append_getElem hlt, List.map_append]; rfl
       have hlb : Hid (((Cal.bestL P fr).take k).length ≤ 1000000) := by show _ ≤ _; rw [List.length_take]; omega
       have hlo : Hid (((Cal.otherL P os).take k).length ≤ 1000000) := by show _ ≤ _; rw [List.length_take]; omega
       generalize fr[k] = h at *
       obtain ⟨num, den⟩ := h
       dsimp only at *
       have w1 : IntKind.i64.wrap (20000 * den) = 20000 * den := wrap_small (by omega) (by omega)
       have w1b : wrap64 (20000 * den) = 20000 * den := by rw [← wrap_eq]; exact w1
       have w2 : IntKind.i64.wrap (-20000 * den) = -20000 * den := wrap_small (by omega) (by omega)
       have w2b : wrap64 (-20000 * den) = -20000 * den := by rw [← wrap_eq]; exact w2
       have t1 : decide (20000 * den < num) = false := decide_eq_false (by omega)
       have t2 : decide (num < -20000 * den) = false := decide_eq_false (by omega)
       have hPp1 := hq1.out.p1
       have hPp2 := hq1.out.p2
       have hbk1 : -40000000 ≤ num * P.tdiv den := hbk.1
       have hbk2 : num * P.tdiv den ≤ 40000000 := hbk.2
       have hPq : (P.tdiv den).natAbs ≤ P.natAbs := by rw [Int.natAbs_tdiv]; exact Nat.div_le_self _ _
       have hu1 : IntKind.i64.wrap (P.tdiv den) = P.tdiv den := wrap_small (by omega) (by omega)
       have hu1b : wrap64 (P.tdiv den) = P.tdiv den := by rw [← wrap_eq]; exact hu1
       have hv1 : IntKind.i64.wrap (num * P.tdiv den) = num * P.tdiv den := wrap_small (by omega) (by omega)
       have hv1b : wrap64 (num * P.tdiv den) = num * P.tdiv den := by rw [← wrap_eq]; exact hv1
       have hden : ¬ den = 0 := by omega
       have hxb := mul_le_of (a := os[k]) (b := P) (M := 5000) (N := 2000) hd.1 hd.2 (by omega) (by omega)
       have hx1 : IntKind.i64.wrap (os[k] * P) = os[k] * P := wrap_small (by omega) (by omega)
       have hx1b : wrap64 (os[k] * P) = os[k] * P := by rw [← wrap_eq]; exact hx1
       clear hal g3 g4 hbk hPp1 hPp2 hbk1 hbk2 hPq hxb
       generalize os[k] = x at *
       go_wp2_with (go_at_call 19; refine (hW.out _).mono ?_; rintro e w3 ⟨rfl, rfl⟩)
       refine wp_region_held_drew (S := Sx wr [(bF, oF + k * 2, .int .i64 num), (bF, oF + k * 2 + 1, .int .i64 den)]) (by kernel_rfl) (Sx.mk (by simp only [cs_iff_cons]; exact ⟨f0, f1, cs_nil _⟩) (Below.refl _ _)).drew (fun hHeld => ?_)
       (refine wpAnyH_hide (fun _ _ _ _ _ h => h) (fun Q0 hp0 hQ0 => ?_))
       refine tkQx 0 86 hp0 ?_
       refine tkQx 1 87 hp0 ?_
       refine tkQx 2 88 hp0 ?_
       refine tkQx 3 89 hp0 ?_
       refine tkQx 4 90 hp0 ?_
       refine tkQx 5 91 hp0 ?_
       refine tkQx 6 92 hp0 ?_
       refine tkQx 7 93 hp0 ?_
       refine tkQx 8 94 hp0 ?_
       refine tkQx 9 95 hp0 ?_
       refine tkQx 10 96 hp0 ?_
       refine tkQx 11 97 hp0 ?_
       refine tkQx 12 98 hp0 ?_
       refine tkQx 13 99 hp0 ?_
       refine tkQx 14 100 hp0 ?_
       refine tkQx 15 101 hp0 ?_
       refine tkQx 16 102 hp0 ?_
       refine tkQx 17 103 hp0 ?_
       refine tkQx 18 104 hp0 ?_
       refine tkQx 19 105 hp0 ?_
       refine tkQx 20 106 hp0 ?_
       refine tkQx 21 107 hp0 ?_
       refine tkQx 22 108 hp0 ?_
       refine tkQx 23 109 hp0 ?_
       refine tkQx 24 110 hp0 ?_
       refine tkQx 25 111 hp0 ?_
       refine wpAnyH_done (by kernel_rfl) ?_ _
       (try simp only [apS, apN, siA, scZ, scS])
       (obtain rfl := hQ0.out; clear hp0)
       go_wp2_with fail
       have hBd := Lib.hid (OwnL.below hB.out ((Below.refl _ _).drew))
       have hOd := Lib.hid (OwnL.below hO.out ((Below.refl _ _).drew))
       have hbd := Lib.hid (hbq.out.drew)
       have f2 : wr.drew.cell? ⟨bF, oF + k * 2, none⟩ = some (.int .i64 num) := f0
       have f3 : wr.drew.cell? ⟨bF, oF + k * 2 + 1, none⟩ = some (.int .i64 den) := f1
       clear hHeld hB hO f0 f1 t1 t2 w1 w1b w2 w2b e0
       generalize wr.drew = Y at *
       refine wp_region_held_drew (S := Sx w5 [(bF, oF + k * 2, .int .i64 num), (bF, oF + k * 2 + 1, .int .i64 den)]) (by kernel_rfl) (Sx.mk (by simp only [cs_iff_cons]; exact ⟨f2, f3, cs_nil _⟩) hbd.out).drew (fun hHeld => ?_)
       clear f2 f3
       have hBy := Lib.hid (OwnL.below hBd.out ((Below.refl _ _).drew))
       have hOy := Lib.hid (OwnL.below hOd.out ((Below.refl _ _).drew))
       clear hBd hOd hbd
       generalize Y.drew = Y2 at *
       (refine wpAnyH_hide (fun _ _ _ _ _ h => h) (fun Q0 hp0 hQ0 => ?_))
       refine tkQx 0 112 hp0 ?_
       refine tkQx 1 113 hp0 ?_
       refine tkQx 2 114 hp0 ?_
       refine tkQx 3 115 hp0 ?_
       refine tkQx 4 116 hp0 ?_
       refine tkQx 5 117 hp0 ?_
       refine tkQx 6 118 hp0 ?_
       refine tkQx 7 119 hp0 ?_
       refine tkQx 8 120 hp0 ?_
       refine tkQx 9 121 hp0 ?_
       refine tkQx 10 122 hp0 ?_
       refine tkQx 11 123 hp0 ?_
       refine tkQx 12 124 hp0 ?_
       refine tkQx 13 125 hp0 ?_
       (refine ratHx 14 (fun K hK => ?_); go_simp)
       refine hK.out _ _ (hHeld.alloc _) (fun hHeld => ?_)
       clear hK K
       (try simp only [apS, apN, siA, scZ, scS])
       (refine wpAnyH_ready (rs := [15]) (by decide +kernel) (by simp) ?_; refine AllReadyH.cons rfl (fun K hK => ?_) AllReadyH.nil)
       refine step_append_rows elemInt (by rfl) (.tmp 112) (.tmp 126) (by rfl) (by rfl) (by rfl) (OwnL.below hBy.out (below_alloc _ _)) (rowsAt_new _ [.int .i64 (num * P.tdiv den)] _) rfl (intRows_wid [num * P.tdiv den]) (intRows_one [num * P.tdiv den]) (by rw [intRows_length, List.length_singleton]; exact Nat.le_trans (Nat.succ_le_succ hlb.out) (by decide)) (by decide) hHeld.bel.size ?_
       intro v8 w8 hown8 hg8 hob8
       have hB8 : Hid (IntsL w8 w5.heap.size v8 ((Cal.bestL P fr).take (k + 1))) := by
        show IntsL _ _ _ _
        rw [hnb.out]
        unfold IntsL
        have e : intRows ((Cal.bestL P fr).take k ++ [num * P.tdiv den]) = intRows ((Cal.bestL P fr).take k) ++ intRows [num * P.tdiv den] := by unfold intRows; simp
        rw [e]; exact hown8
       have hO8 := Lib.hid (OwnL.kept (OwnL.below hOy.out (below_alloc _ _)) hg8 (own_swap hne.out))
       have hne8 := Lib.hid (own_next (OwnL.below hOy.out (below_alloc _ _)) (Nat.le_refl _) (own_swap hne.out) hob8)
       have hbFs := hHeld.bel.size
       refine hK.out _ _ (hHeld.grow hg8 (fun g e => (OwnL.lt hBy.out g e).1) (fun x hx => by
        have hxb : x.1 = bF := by
         simp only [List.mem_cons, List.not_mem_nil, or_false] at hx
         rcases hx with rfl | rfl <;> rfl
        rw [hxb]
        exact ⟨fun e => absurd (OwnL.lt hBy.out _ e).1 (Nat.not_le_of_lt hbF), Nat.lt_of_lt_of_le hbF hbFs⟩)) (fun hHeld => ?_)
       clear hK K hown8 hg8 hob8 hBy hOy hnb hbFs
       (try simp only [apS, apN, siA, scZ, scS])
       refine tkQx 16 12 hp0 ?_
       refine wpAnyH_done (by kernel_rfl) ?_ _
       (try simp only [apS, apN, siA, scZ, scS])
       (obtain rfl := hQ0.out; clear hp0)
       have hb8 := Lib.hid hHeld.bel
       have hws8 := hHeld.bel.size
       have e8 : w8.cell? ⟨bO, oO + k, none⟩ = some (.int .i64 x) := ((hb5.out.trans (hb8.out.mono hb5.out.size)).cell (p := ⟨bO, oO + k, none⟩) hb2').trans e0w.out
       clear hHeld hu1 hu1b hv1 hv1b hne hbq hbY
       go_wp2_with (at_builtin; refine wpPushO (x * P) hO8.out hws8 hlo.out rfl _ _ rfl rfl rfl ?_; intro v9 w9 hown9 hb9 hg9 hob9; have hO9 : Hid (IntsL w9 w5.heap.size v9 ((Cal.otherL P os).take (k + 1))) := by { show IntsL _ _ _ _; rw [hno.out]; exact hown9 }; have hB9 := Lib.hid (OwnL.kept (OwnL.below hB8.out (below_alloc _ _)) hg9 (own_swap hne8.out)); have hne9 := Lib.hid (own_next hB8.out (Nat.le_succ _) (own_swap hne8.out) hob9); have hbw9 := Lib.hid (hb8.out.trans hb9); clear hown9 hb9 hg9 hob9)
       go_roundw
       case rel => exact ⟨k + 1, v8, v9, by omega, by go_num, rfl, rfl, hB9, hO9, hne9, hal2, hbw9⟩
       case measure => simp [intOf]; omega
      ·rw [show (decide ((-5000 : Int) ≤ os[k]) && decide (os[k] ≤ 5000)) = false from by
        rw [Bool.and_eq_false_iff, decide_eq_false_iff_not, decide_eq_false_iff_not]; omega] at hW
       clear hd hal
       generalize os[k] = x at *
       go_wp2_with (go_at_call 19; refine (hW.out _).mono ?_; rintro e w3 ⟨rfl, rfl⟩)
       go_ret
       exact ⟨rfl, hbY.out⟩
     ·obtain rfl : k = os.length := by omega
      have hBf : IntsL wr w5.heap.size u12 (Cal.bestL P fr) := by
       have := hB.out
       rwa [List.take_of_length_le (by unfold Cal.bestL; rw [List.length_map, hfl2.out]; exact Nat.le_refl _)] at this
      have hOf : IntsL wr w5.heap.size u13 (Cal.otherL P os) := by
       have := hO.out
       rwa [List.take_of_length_le (by unfold Cal.otherL; rw [List.length_map]; exact Nat.le_refl _)] at this
      obtain ⟨A6, c6, e6, hr6⟩ := OwnL.form hBf
      obtain ⟨A7, c7, e7, hr7⟩ := OwnL.form hOf
      rw [intRows_length] at e6 e7
      subst e6
      subst e7
      have hs1 := Lib.hid (fun W (hb : Below wr.heap.size wr W) => square_any A c l A6 c6 (Cal.bestL P fr) P W ((hL.out.below hbY.out).below hb) (hr6.below hb) hq1.out)
      have hs2 := Lib.hid (fun W (hb : Below wr.heap.size wr W) => square_any A c l A7 c7 (Cal.otherL P os) P W ((hL.out.below hbY.out).below hb) (hr7.below hb) (hq2.out (fun j hj => hal.out j hj hj)))
      clear hBf hOf hr6 hr7 hB hO hne
      have hle := hq3.out
      clear hq1 hq2 hq3
      have hkN : ¬ (os.length : Int) < N := by have := hoN.out; omega
      generalize Cal.sqv P (Cal.getN (Cal.bestL P fr)) (Cal.edges l) = S1 at *
      generalize Cal.sqv P (Cal.getN (Cal.otherL P os)) (Cal.edges l) = S2 at *
      go_wp2_with (first
       |(go_at_call 21; refine (hs1.out _ (Below.refl _ _)).mono ?_; clear hs1; rintro e w6 ⟨rfl, hb6⟩; have hbz6 := Lib.hid (below_step hbY.out hb6); replace hb6 := Lib.hid hb6)
       |(go_at_call 21; refine (hs2.out _ hb6.out).mono ?_; clear hs2; rintro e w7 ⟨rfl, hb7⟩; have hbz7 := Lib.hid (below_step hbz6.out hb7)))
      go_ret
      exact ⟨by simp [hle], hbz7.out⟩
end Go.Proofs.Ytfcjeejhdklkdaa
