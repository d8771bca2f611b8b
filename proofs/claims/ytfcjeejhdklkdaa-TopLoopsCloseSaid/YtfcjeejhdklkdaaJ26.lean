/- What the statements rest on: definitions and walks, part 26. -/
import Derived.Test.YtfcjeejhdklkdaaJ07
import Derived.Test.YtfcjeejhdklkdaaJ17
import Derived.Test.YtfcjeejhdklkdaaJ08
namespace Go.Proofs.Ytfcjeejhdklkdaa.Cal
/-- A height is too great. -/
def bigH (h : Int × Int) : Bool := decide (2000000 * h.2 < (h.1.natAbs : Int))
/-- The error of a height, behind the common part p. -/
def hErr (p : Int) (h : Int × Int) : Int := if h.2 < 1 then 3 else if Int.gcd h.1 h.2 ≠ 1 then 3 else if bigH h = true then 2 else if (4000000000 : Int).tdiv p < more p h.2 then 8 else 0
/-- The first error, and the common part. -/
def scl : Int → List (Int × Int) → Int × Int
  | p, [] => (0, p)
  | p, h :: r => if hErr p h = 0 then scl (p * more p h.2) r else (hErr p h, 0)
theorem scl_drop {p : Int} {l : List (Int × Int)} {k : Nat} (h : k < l.length) : scl p (l.drop k) = if hErr p l[k] = 0 then scl (p * more p l[k].2) (l.drop (k + 1)) else (hErr p l[k], 0) := by
  rw [List.drop_eq_getElem_cons h]; rfl
def sclE (n : Int) (l : List (Int × Int)) : Int := if (l.length : Int) = n then (scl 1 l).1 else 10
def sclP (n : Int) (l : List (Int × Int)) : Int := if (l.length : Int) = n then (if (scl 1 l).1 = 0 then (scl 1 l).2 else 0) else 0
theorem hErr_zero {p : Int} {h : Int × Int} (e : hErr p h = 0) : 1 ≤ h.2 ∧ Int.gcd h.1 h.2 = 1 ∧ bigH h = false ∧ more p h.2 ≤ (4000000000 : Int).tdiv p := by
  unfold hErr at e
  split at e
  · cases e
  · split at e
    · cases e
    · split at e
      · cases e
      · split at e
        · cases e
        · rename_i h1 h2 h3 h4
          exact ⟨by omega, by simpa using h2, by simpa using h3, by omega⟩
/-- The part stays within its bound. -/
theorem part_le {p d : Int} (hp : 1 ≤ p) (hd : 1 ≤ d) (h : more p d ≤ (4000000000 : Int).tdiv p) : 1 ≤ p * more p d ∧ p * more p d ≤ 4000000000 := by
  have h1 := more_pos (parts := p) (den := d) (by omega)
  have h2 : p * (4000000000 : Int).tdiv p ≤ 4000000000 := by
    rw [Int.tdiv_eq_ediv_of_nonneg (by omega)]
    exact Int.mul_ediv_self_le (by omega)
  have h3 := Int.mul_le_mul_of_nonneg_left h (by omega : 0 ≤ p)
  have h4 := Int.mul_pos (by omega : 0 < p) h1
  omega
theorem scl_good : ∀ (l : List (Int × Int)) (p : Int), 1 ≤ p → p ≤ 4000000000 → (scl p l).1 = 0 → 1 ≤ (scl p l).2 ∧ (scl p l).2 ≤ 4000000000 ∧ p ∣ (scl p l).2 ∧ ∀ h ∈ l, 1 ≤ h.2 ∧ Int.gcd h.1 h.2 = 1 ∧ bigH h = false ∧ h.2 ∣ (scl p l).2
  | [], p, h1, h2, _ => ⟨h1, h2, Int.dvd_refl _, fun h hh => by cases hh⟩
  | h :: r, p, h1, h2, e => by
    by_cases hz : hErr p h = 0
    · obtain ⟨a, b, c, d⟩ := hErr_zero hz
      obtain ⟨q1, q2⟩ := part_le h1 a d
      have e' : scl p (h :: r) = scl (p * more p h.2) r := if_pos hz
      rw [e'] at e ⊢
      obtain ⟨g1, g2, g3, g4⟩ := scl_good r (p * more p h.2) q1 q2 e
      obtain ⟨d1, d2⟩ := dvd_parts_more (parts := p) (den := h.2)
      refine ⟨g1, g2, Int.dvd_trans d1 g3, fun x hx => ?_⟩
      rcases List.mem_cons.1 hx with rfl | hx
      · exact ⟨a, b, c, Int.dvd_trans d2 g3⟩
      · exact g4 x hx
    · have e' : scl p (h :: r) = (hErr p h, 0) := if_neg hz
      rw [e'] at e
      exact absurd e hz
/-- If all are accepted one by one, and divide a number within the bound. -/
theorem scl_ok {all : Int} (ha : 1 ≤ all) (hb : all ≤ 4000000000) : ∀ (l : List (Int × Int)) (p : Int), 1 ≤ p → p ∣ all → (∀ h ∈ l, 1 ≤ h.2 ∧ Int.gcd h.1 h.2 = 1 ∧ bigH h = false ∧ h.2 ∣ all) → (scl p l).1 = 0
  | [], _, _, _, _ => rfl
  | h :: r, p, h1, h2, hl => by
    obtain ⟨a, b, c, d⟩ := hl h (List.mem_cons_self ..)
    have hm := parts_more_dvd (parts := p) (den := h.2) (by omega) (by omega) h2 d
    have hm1 := more_pos (parts := p) (den := h.2) (by omega)
    have hpm := Int.mul_pos (by omega : 0 < p) hm1
    have hle := Int.le_of_dvd (by omega) hm
    have hq : more p h.2 ≤ (4000000000 : Int).tdiv p := by
      rw [Int.tdiv_eq_ediv_of_nonneg (by omega)]
      rw [Int.le_ediv_iff_mul_le (by omega), Int.mul_comm]
      omega
    have hz : hErr p h = 0 := by
      unfold hErr
      rw [if_neg (by omega), if_neg (by simpa using b), if_neg (by rw [c]; decide), if_neg (by omega)]
    have e' : scl p (h :: r) = scl (p * more p h.2) r := if_pos hz
    rw [e']
    exact scl_ok ha hb r _ (by omega) hm (fun x hx => hl x (List.mem_cons_of_mem _ hx))
/-- A height as whole numbers of the part. -/
def sclH (p : Int) (h : Int × Int) : Int := h.1 * p.tdiv h.2
theorem sclH_box {p : Int} {h : Int × Int} (hp : 1 ≤ p) (hp2 : p ≤ 4000000000) (hd : 1 ≤ h.2) (hb : bigH h = false) : -8000000000000000 ≤ sclH p h ∧ sclH p h ≤ 8000000000000000 := by
  have hb := of_decide_eq_false hb
  have q0 : 0 ≤ p.tdiv h.2 := Int.tdiv_nonneg (by omega) (by omega)
  have q1 : h.2 * p.tdiv h.2 ≤ p := by
    rw [Int.tdiv_eq_ediv_of_nonneg (by omega)]
    exact Int.mul_ediv_self_le (by omega)
  unfold sclH
  generalize p.tdiv h.2 = q at *
  have h1 : h.1 ≤ 2000000 * h.2 := by omega
  have h2 : -(2000000 * h.2) ≤ h.1 := by omega
  have h3 := Int.mul_le_mul_of_nonneg_right h1 q0
  have h4 := Int.mul_le_mul_of_nonneg_right h2 q0
  have e1 : 2000000 * h.2 * q = 2000000 * (h.2 * q) := by rw [Int.mul_assoc]
  have e2 : -(2000000 * h.2) * q = -(2000000 * (h.2 * q)) := by rw [Int.neg_mul, e1]
  omega
def hAt0 (l : List (Int × Int)) (i : Int) : Int × Int := l[i.toNat]?.getD (0, 1)
/-- A residual, as whole numbers of the part. -/
def resV (p : Int) (fr : List (Int × Int)) (x : Lev) : Int := x.d * p - sclH p (hAt0 fr x.t) + sclH p (hAt0 fr x.f)
def resL (p : Int) (fr : List (Int × Int)) (l : List Lev) : List Int := l.map (resV p fr)
/-- The heights of the points, as whole numbers of the part. -/
def xs (p : Int) (fr : List (Int × Int)) (i : Nat) : Int := sclH p (fr[i]?.getD (0, 1))
theorem resV_vOf (p : Int) (fr : List (Int × Int)) (x : Lev) : resV p fr x = vOf p (xs p fr) (edge x) := rfl
/-- The heights as whole numbers of the part, where they are accepted. -/
def sclL (n : Int) (l : List (Int × Int)) : List Int := if sclE n l = 0 then l.map (sclH (sclP n l)) else []
/-- What residuals answers: the error, the part, the residuals. -/
def resE (n : Int) (l : List Lev) (fr : List (Int × Int)) : Int := if netE n l = 0 then sclE n fr else netE n l
def resPN (n : Int) (l : List Lev) (fr : List (Int × Int)) : Int := if netE n l = 0 then sclP n fr else 0
def resLN (n : Int) (l : List Lev) (fr : List (Int × Int)) : List Int := if resE n l fr = 0 then resL (sclP n fr) fr l else []
theorem sclE_zero {n : Int} {l : List (Int × Int)} (h : sclE n l = 0) : (l.length : Int) = n ∧ sclP n l = (scl 1 l).2 ∧ 1 ≤ sclP n l ∧ sclP n l ≤ 4000000000 ∧ ∀ h ∈ l, 1 ≤ h.2 ∧ Int.gcd h.1 h.2 = 1 ∧ bigH h = false ∧ h.2 ∣ sclP n l := by
  unfold sclE at h
  split at h
  · rename_i hl
    have hg := scl_good l 1 (by decide) (by decide) h
    have e : sclP n l = (scl 1 l).2 := by unfold sclP; rw [if_pos hl, if_pos h]
    rw [e]
    exact ⟨hl, rfl, hg.1, hg.2.1, hg.2.2.2⟩
  · cases h
theorem hAt0_box {n : Int} {l : List (Int × Int)} (he : sclE n l = 0) (i : Int) : -8000000000000000 ≤ sclH (sclP n l) (hAt0 l i) ∧ sclH (sclP n l) (hAt0 l i) ≤ 8000000000000000 := by
  obtain ⟨_, _, p1, p2, hall⟩ := sclE_zero he
  unfold hAt0
  cases h : l[i.toNat]? with
  | none => exact sclH_box p1 p2 (by decide) (by decide)
  | some x =>
    obtain ⟨a, _, b, _⟩ := hall x (List.mem_of_getElem? h)
    exact sclH_box p1 p2 a b
theorem resV_box {n : Int} {l : List Lev} {fr : List (Int × Int)} (hz : netE n l = 0) (he : sclE n fr = 0) : ∀ x ∈ l, -16400000000000000 ≤ resV (sclP n fr) fr x ∧ resV (sclP n fr) fr x ≤ 16400000000000000 := fun x hx => by
  have hl := levE_zero ((netE_zero hz).2.2.2.1 x hx)
  obtain ⟨_, _, p1, p2, _⟩ := sclE_zero he
  have h1 := hAt0_box he x.t
  have h2 := hAt0_box he x.f
  have h3 := mul_le_of (a := x.d) (b := sclP n fr) (M := 100000) (N := 4000000000) (by omega) (by omega) (by omega) (by omega)
  unfold resV
  omega
/-- The residuals as fractions. -/
def resFr (n : Int) (l : List Lev) (fr : List (Int × Int)) : List (Int × Int) := (resLN n l fr).map fun r => (lowN r (resPN n l fr), lowD r (resPN n l fr))
end Go.Proofs.Ytfcjeejhdklkdaa.Cal
namespace Go.Proofs.Ytfcjeejhdklkdaa
open Go Go.RowKit Go.Shelf
set_option maxRecDepth 100000 in
set_option maxHeartbeats 4000000 in
theorem GcdR_any (a b : Int) (w : World) (hb : 0 < b) (hb2 : b ≤ 9223372036854775807) : Calls Try.prog 54 #[.int .i64 a, .int .i64 b] w fun e w' => e = .returned (.int .i64 (Int.gcd a b : Int)) ∧ Below w.heap.size w w' := by
  have hst : Hid (GcI a b a b) := ⟨rfl, .inl ⟨rfl, rfl⟩⟩
  have hb0 : Hid (Below w.heap.size w w) := Below.refl _ _
  go_enter Try.func54, Try.ntmps54
  go_wp2_with fail
  go_loopw [0, 1] (fun x y wr => ∃ p q : Int, x = .int .i64 p ∧ y = .int .i64 q ∧ Hid (GcI a b p q) ∧ Hid (Below w.heap.size w wr)) (fun _ y _ => (intOf y).natAbs)
  case atStart => exact ⟨a, b, rfl, rfl, hst, hb0⟩
  case round =>
    clear hst hb0
    obtain ⟨p, q, rfl, rfl, hs, hB⟩ := hrel
    by_cases hq : q = 0
    · subst hq
      have hr : Hid ((Int.gcd a b : Int) = (p.natAbs : Int)) := by
        have h := hs.out.1
        rw [Cal.gcd_end] at h
        show _ = _
        rw [← h]
      have hp : -9223372036854775807 ≤ p ∧ p ≤ 9223372036854775807 := by
        rcases hs.out.2 with ⟨h1, h2⟩ | ⟨h1, h2⟩
        · omega
        · omega
      have habs := Lib.hid (fun W => absG_any p hp.1 hp.2 W)
      clear hs
      go_wp2_with (go_at_call 18; refine (habs.out _).mono ?_; rintro e1 wn ⟨rfl, rfl⟩)
      go_ret
      exact ⟨ret_int hr.out.symm, hB.out⟩
    · have hlt := tmod_abs (a := p) hq
      have hqb : q.natAbs ≤ b.natAbs := by
        rcases hs.out.2 with ⟨h1, h2⟩ | ⟨h1, h2⟩
        · rw [h2]; exact Nat.le_refl _
        · omega
      have hw : IntKind.i64.wrap (p.tmod q) = p.tmod q := wrap_small (by omega) (by omega)
      have hs2 : Hid (GcI a b q (p.tmod q)) := ⟨(Cal.gcd_step p q).trans hs.out.1, .inr ⟨hlt, hqb⟩⟩
      clear hs
      go_wp2_with fail
      refine wp_region_held_drew (S := Sx wr []) (by kernel_rfl) (Sx.mk (cs_nil _) (Below.refl _ _)).drew (fun hHeld => ?_)
      refine tkHx 0 7 ?_
      refine tkHx 1 8 ?_
      refine tkHx 2 9 ?_
      refine tkHx 3 10 ?_
      refine tkHx 4 0 ?_
      refine tkHx 5 1 ?_
      refine wpAnyH_done (by kernel_rfl) ?_ _
      ((try simp only [Act.put, List.setIfInBounds_toArray]); (try simp only [List.set_cons_zero, List.set_cons_succ]))
      have hB2 := Lib.hid (hB.out.trans (hHeld.bel.mono hB.out.size))
      clear hHeld
      go_wp2_with fail
      go_roundw
      case rel => exact ⟨q, p.tmod q, rfl, by first | rfl | rw [hw], hs2, hB2⟩
      case measure => exact hlt
end Go.Proofs.Ytfcjeejhdklkdaa
namespace Go.Proofs.Ytfcjeejhdklkdaa
open Go Go.RowKit Go.Shelf
theorem fr_at {w : World} {A : Option Addr} {l : List (Int × Int)} (h : RowsAt w A 2 (l.map frR)) {k : Nat} {x : Int × Int} (hk : l[k]? = some x) :
    ∃ b o, A = some ⟨b, o, none⟩ ∧ b < w.heap.size ∧ w.cell? ⟨b, o + k * 2, none⟩ = some (.int .i64 x.1) ∧ w.cell? ⟨b, o + k * 2 + 1, none⟩ = some (.int .i64 x.2) := by
  obtain ⟨b, o, hA, hlt, hc⟩ := h k (frR x) (by simp [hk])
  exact ⟨b, o, hA, hlt, hc 0 _ rfl, hc 1 _ rfl⟩
/-- When a height is too great, as whole numbers and rests say it. -/
theorem Cal.big_cases {n d : Int} (hd : 1 ≤ d) :
    (Cal.bigH (n, d) = true ∧ (2000000 < n.tdiv d ∨ (¬ 2000000 < n.tdiv d ∧ n.tdiv d < -2000000) ∨ (¬ 2000000 < n.tdiv d ∧ ¬ n.tdiv d < -2000000 ∧ ((n.tdiv d).natAbs : Int) = 2000000 ∧ n.tmod d ≠ 0))) ∨
    (Cal.bigH (n, d) = false ∧ ¬ 2000000 < n.tdiv d ∧ ¬ n.tdiv d < -2000000 ∧ (¬ ((n.tdiv d).natAbs : Int) = 2000000 ∨ (((n.tdiv d).natAbs : Int) = 2000000 ∧ n.tmod d = 0))) := by
  have h1 : (n.tdiv d).natAbs = n.natAbs / d.natAbs := Int.natAbs_tdiv n d
  have h2 := Int.natAbs_tmod n d
  have h3 := Nat.div_add_mod n.natAbs d.natAbs
  have h4 := Nat.mod_lt n.natAbs (show 0 < d.natAbs by omega)
  have hD : (d.natAbs : Int) = d := by omega
  generalize n.tdiv d = q at *
  generalize n.tmod d = r at *
  unfold Cal.bigH
  dsimp only
  by_cases hb : 2000000 * d < (n.natAbs : Int)
  · left
    refine ⟨decide_eq_true hb, ?_⟩
    have hq : 2000000 ≤ q.natAbs := by
      rw [h1]
      refine (Nat.le_div_iff_mul_le (by omega)).2 ?_
      omega
    by_cases hq2 : q.natAbs = 2000000
    · rw [← h1, hq2, ← h2] at h3
      omega
    · omega
  · right
    have hq : q.natAbs ≤ 2000000 := by
      rw [h1]
      refine Nat.le_of_lt_succ ((Nat.div_lt_iff_lt_mul (by omega)).2 ?_)
      rw [Nat.succ_mul]
      omega
    refine ⟨decide_eq_false hb, by omega, by omega, ?_⟩
    by_cases hq2 : q.natAbs = 2000000
    · right
      rw [← h1, hq2, ← h2] at h3
      omega
    · left; omega
set_option maxRecDepth 100000 in
set_option maxHeartbeats 4000000 in
theorem HeightsErrR_any (N : Int) (A : Option Addr) (c : Nat) (fr : List (Int × Int)) (w : World) (hF : RowsAt w A 2 (fr.map frR)) (hs : fr.length ≤ 1000000)
    (hv : ∀ h ∈ fr, (-9223372036854775808 ≤ h.1 ∧ h.1 ≤ 9223372036854775807) ∧ (-9223372036854775808 ≤ h.2 ∧ h.2 ≤ 9223372036854775807)) :
    Calls Try.prog 16 #[.int .i64 N, .slice A fr.length c] w fun e w' => e = .returned (.tuple #[.int .i64 (Cal.sclP N fr), .int .i64 (Cal.sclE N fr)]) ∧ Below w.heap.size w w' := by
  have hb0 : Hid (Below w.heap.size w w) := Below.refl _ _
  obtain ⟨E, hE⟩ : ∃ E, Cal.sclE N fr = E := ⟨_, rfl⟩
  obtain ⟨R, hR⟩ : ∃ R, Cal.sclP N fr = R := ⟨_, rfl⟩
  rw [hE, hR]
  unfold Cal.sclE at hE
  unfold Cal.sclP at hR
  by_cases hlen : (fr.length : Int) = N
  · rw [if_pos hlen] at hE hR
    have hS0 : Hid (Cal.scl 1 fr = Cal.scl 1 (fr.drop 0)) := rfl
    have hEE : Hid ((Cal.scl 1 fr).1 = E) := hE
    have hRR : Hid ((if (Cal.scl 1 fr).1 = 0 then (Cal.scl 1 fr).2 else 0) = R) := hR
    replace hF := Lib.hid hF
    replace hv := Lib.hid hv
    subst hlen
    clear hE hR
    go_enter Try.func16, Try.ntmps16
    go_wp2_with fail
    go_loopw [6, 7] (fun pv i wr => ∃ (k : Nat) (p : Int), k ≤ fr.length ∧ i = .int .i64 k ∧ pv = .int .i64 p ∧ 1 ≤ p ∧ p ≤ 4000000000 ∧ Hid (Cal.scl 1 fr = Cal.scl p (fr.drop k)) ∧ Hid (Below w.heap.size w wr)) (fun _ i _ => fr.length - (intOf i).toNat)
    case atStart => exact ⟨0, 1, Nat.zero_le _, rfl, rfl, by decide, by decide, hS0, hb0⟩
    case round =>
      clear hS0 hb0
      obtain ⟨k, p, hk, rfl, rfl, hp1, hp2, hS, hB0⟩ := hrel
      by_cases hlt : k < fr.length
      · have hk' : fr[k]? = some fr[k] := List.getElem?_eq_getElem hlt
        have hd := Cal.scl_drop (p := p) hlt
        obtain ⟨⟨n1, n2⟩, ⟨d1, d2⟩⟩ := hv.out _ (List.getElem_mem hlt)
        have hki : (k : Int) < (fr.length : Int) := by omega
        generalize fr[k] = h at *
        obtain ⟨b, o, rfl, hbl, c0, c1⟩ := fr_at (hF.out.below hB0.out) hk'
        obtain ⟨num, den⟩ := h
        dsimp only at *
        have hx := Lib.hid (BoxAt.new wr #[.int .i64 num, .int .i64 den] 38)
        have hB := Lib.hid (below_step hB0.out (below_alloc wr (.cells #[.int .i64 num, .int .i64 den] 38)))
        have hbad : Hid (∀ v, v ≠ 0 → Cal.hErr p (num, den) = v → E = v ∧ R = 0) := fun v hv0 hz => by
          rw [hz, if_neg hv0] at hd
          have e1 : Cal.scl 1 fr = (v, 0) := hS.out.trans hd
          have e2 := hEE.out
          have e3 := hRR.out
          rw [e1] at e2 e3
          rw [if_neg hv0] at e3
          exact ⟨e2.symm, e3.symm⟩
        have hgood : Hid (Cal.hErr p (num, den) = 0 → Cal.scl 1 fr = Cal.scl (p * Cal.more p den) (fr.drop (k + 1))) := fun hz => by
          rw [hz, if_pos rfl] at hd
          exact hS.out.trans hd
        clear hd hS hk'
        by_cases hd1 : den < 1
        · obtain ⟨e1, e2⟩ := hbad.out 3 (by decide) (by unfold Cal.hErr; exact if_pos hd1)
          replace e1 := Lib.hid e1
          replace e2 := Lib.hid e2
          clear hbad hgood
          go_wp2_with fail
          go_ret2
          exact ⟨by rw [e1.out, e2.out]; rfl, hB.out⟩
        have hg1 := Lib.hid (fun W => GcdR_any num den W (by omega) (by omega))
        have hg2 := Lib.hid (fun W => GcdR_any p den W (by omega) (by omega))
        by_cases hgc : Int.gcd num den = 1
        · have hgi : ((Int.gcd num den : Nat) : Int) = 1 := by omega
          rw [hgi] at hg1
          have hdn : ¬ den = 0 := by omega
          have hqr : (num.tdiv den).natAbs ≤ num.natAbs := by rw [Int.natAbs_tdiv]; exact Nat.div_le_self _ _
          have hq0 : 0 ≤ num → 0 ≤ num.tdiv den := fun h => Int.tdiv_nonneg h (by omega)
          have hq5 : num < 0 → num.tdiv den ≤ 0 := fun h => by
            have := Int.tdiv_nonneg (a := -num) (b := den) (by omega) (by omega)
            rw [Int.neg_tdiv] at this
            omega
          have hrr : (num.tmod den).natAbs < den.natAbs := tmod_abs (by omega)
          have hw1 : IntKind.i64.wrap (num.tdiv den) = num.tdiv den := wrap_small (by omega) (by omega)
          have hw2 : IntKind.i64.wrap (num.tmod den) = num.tmod den := wrap_small (by omega) (by omega)
          rcases Cal.big_cases (n := num) (d := den) (by omega) with ⟨hbg, hcs⟩ | ⟨hbg, hc1, hc2, hcs⟩
          · obtain ⟨e1, e2⟩ := hbad.out 2 (by decide) (by unfold Cal.hErr; rw [if_neg hd1, if_neg (by simpa using hgc), if_pos hbg])
            replace e1 := Lib.hid e1
            replace e2 := Lib.hid e2
            clear hbad hgood hbg hqr hq0 hrr hgc hgi hq5
            rcases hcs with hc1 | ⟨hc1, hc2⟩ | ⟨hc1, hc2, hc3, hc4⟩
            · have habs := hg2
              go_wp2_with (first
                | (go_at_call_of 54 (Value.int .i64 num); refine (hg1.out _).mono ?_; clear hg1; rintro e0 wn ⟨rfl, hbn⟩; replace hx := Lib.hid (hx.out.below hbn); replace hB := Lib.hid (below_step hB.out hbn); clear hbn; have y0 := hx.out.c 0 _ rfl; have y1 := hx.out.c 1 _ rfl)
                | (go_at_call 18; refine (habs.out _).mono ?_; rintro e0 wn ⟨rfl, rfl⟩)
                | (go_at_call_of 54 (Value.int .i64 p); refine (hg2.out _).mono ?_; clear hg2 y0 y1; rintro e0 wn ⟨rfl, hbn⟩; replace hx := Lib.hid (hx.out.below hbn); replace hB := Lib.hid (below_step hB.out hbn); clear hbn; have y0 := hx.out.c 0 _ rfl; have y1 := hx.out.c 1 _ rfl))
              go_ret2
              exact ⟨by rw [e1.out, e2.out]; rfl, hB.out⟩
            · have habs := hg2
              go_wp2_with (first
                | (go_at_call_of 54 (Value.int .i64 num); refine (hg1.out _).mono ?_; clear hg1; rintro e0 wn ⟨rfl, hbn⟩; replace hx := Lib.hid (hx.out.below hbn); replace hB := Lib.hid (below_step hB.out hbn); clear hbn; have y0 := hx.out.c 0 _ rfl; have y1 := hx.out.c 1 _ rfl)
                | (go_at_call 18; refine (habs.out _).mono ?_; rintro e0 wn ⟨rfl, rfl⟩)
                | (go_at_call_of 54 (Value.int .i64 p); refine (hg2.out _).mono ?_; clear hg2 y0 y1; rintro e0 wn ⟨rfl, hbn⟩; replace hx := Lib.hid (hx.out.below hbn); replace hB := Lib.hid (below_step hB.out hbn); clear hbn; have y0 := hx.out.c 0 _ rfl; have y1 := hx.out.c 1 _ rfl))
              go_ret2
              exact ⟨by rw [e1.out, e2.out]; rfl, hB.out⟩
            · have habs := Lib.hid (fun W => absG_any (num.tdiv den) (by omega) (by omega) W)
              rw [hc3] at habs
              have hc4b : (num.tmod den == 0) = false := by simpa using hc4
              have hc4c : (num.tmod den != 0) = true := by simpa using hc4
              clear hc3
              go_wp2_with (first
                | (go_at_call_of 54 (Value.int .i64 num); refine (hg1.out _).mono ?_; clear hg1; rintro e0 wn ⟨rfl, hbn⟩; replace hx := Lib.hid (hx.out.below hbn); replace hB := Lib.hid (below_step hB.out hbn); clear hbn; have y0 := hx.out.c 0 _ rfl; have y1 := hx.out.c 1 _ rfl)
                | (go_at_call 18; refine (habs.out _).mono ?_; rintro e0 wn ⟨rfl, rfl⟩)
                | (go_at_call_of 54 (Value.int .i64 p); refine (hg2.out _).mono ?_; clear hg2 y0 y1; rintro e0 wn ⟨rfl, hbn⟩; replace hx := Lib.hid (hx.out.below hbn); replace hB := Lib.hid (below_step hB.out hbn); clear hbn; have y0 := hx.out.c 0 _ rfl; have y1 := hx.out.c 1 _ rfl))
              go_ret2
              exact ⟨by rw [e1.out, e2.out]; rfl, hB.out⟩
          · clear hqr hq0 hrr hgi hq5
            rcases hcs with hc3 | ⟨hc3, hc4⟩
            · have habs := Lib.hid (fun W => absG_any (num.tdiv den) (by omega) (by omega) W)
              generalize (num.tdiv den).natAbs = aq at *
              have hc3b : ((aq : Int) == 2000000) = false := by simpa using hc3
              have hg3 : (0 : Int) < (Int.gcd p den : Int) := by have := Cal.gcd_pos (a := p) (b := den) (by omega); omega
              have hmo : Hid (Cal.more p den = den.tdiv (Int.gcd p den : Int)) := rfl
              have hm0 : 0 ≤ den.tdiv (Int.gcd p den : Int) := Int.tdiv_nonneg (by omega) (by omega)
              have hm1 : den.tdiv (Int.gcd p den : Int) ≤ den := by
                have : (den.tdiv (Int.gcd p den : Int)).natAbs ≤ den.natAbs := by rw [Int.natAbs_tdiv]; exact Nat.div_le_self _ _
                omega
              generalize Int.gcd p den = g2 at *
              have hgn : ¬ (g2 : Int) = 0 := by omega
              have hgn2 : ¬ g2 = 0 := by omega
              have hw3 : IntKind.i64.wrap (den.tdiv (g2 : Int)) = den.tdiv (g2 : Int) := wrap_small (by omega) (by omega)
              have ht0 : 0 ≤ (4000000000 : Int).tdiv p := Int.tdiv_nonneg (by omega) (by omega)
              have ht1 : (4000000000 : Int).tdiv p ≤ 4000000000 := by
                have : ((4000000000 : Int).tdiv p).natAbs ≤ (4000000000 : Int).natAbs := by rw [Int.natAbs_tdiv]; exact Nat.div_le_self _ _
                omega
              have hw4 : IntKind.i64.wrap ((4000000000 : Int).tdiv p) = (4000000000 : Int).tdiv p := wrap_small (by omega) (by omega)
              have hpn : ¬ p = 0 := by omega
              have hhz : Hid (Cal.hErr p (num, den) = if (4000000000 : Int).tdiv p < den.tdiv (g2 : Int) then 8 else 0) := by
                show _ = _
                unfold Cal.hErr
                dsimp only
                rw [if_neg hd1, if_neg (by simpa using hgc), if_neg (by rw [hbg]; decide), hmo.out]
              by_cases hlg : (4000000000 : Int).tdiv p < den.tdiv (g2 : Int)
              · obtain ⟨e1, e2⟩ := hbad.out 8 (by decide) (by rw [hhz.out, if_pos hlg])
                replace e1 := Lib.hid e1
                replace e2 := Lib.hid e2
                clear hbad hgood hbg hmo hhz hm0 hm1 ht0 ht1 hgc
                go_wp2_with (first
                  | (go_at_call_of 54 (Value.int .i64 num); refine (hg1.out _).mono ?_; clear hg1; rintro e0 wn ⟨rfl, hbn⟩; replace hx := Lib.hid (hx.out.below hbn); replace hB := Lib.hid (below_step hB.out hbn); clear hbn; have y0 := hx.out.c 0 _ rfl; have y1 := hx.out.c 1 _ rfl)
                  | (go_at_call 18; refine (habs.out _).mono ?_; rintro e0 wn ⟨rfl, rfl⟩)
                  | (go_at_call_of 54 (Value.int .i64 p); refine (hg2.out _).mono ?_; clear hg2 y0 y1; rintro e0 wn ⟨rfl, hbn⟩; replace hx := Lib.hid (hx.out.below hbn); replace hB := Lib.hid (below_step hB.out hbn); clear hbn; have y0 := hx.out.c 0 _ rfl; have y1 := hx.out.c 1 _ rfl))
                refine wp_region_held_drew (S := Sx wn [(wr.heap.size, 1, .int .i64 den)]) (by kernel_rfl) (Sx.mk (by simp only [cs_iff_cons]; exact ⟨y1, cs_nil _⟩) (Below.refl _ _)).drew (fun hHeld => ?_)
                clear y0 y1
                refine tkHx 0 70 ?_
                refine tkHx 1 71 ?_
                refine tkHx 2 72 ?_
                refine tkHx 3 73 ?_
                refine tkHx 4 74 ?_
                refine tkHx 5 75 ?_
                refine tkHx 6 76 ?_
                refine wpAnyH_done (by kernel_rfl) ?_ _
                ((try simp only [Act.put, List.setIfInBounds_toArray]); (try simp only [List.set_cons_zero, List.set_cons_succ]))
                replace hx := Lib.hid (hx.out.below hHeld.bel)
                replace hB := Lib.hid (below_step hB.out hHeld.bel)
                clear hHeld
                have y0 := hx.out.c 0 _ rfl
                have y1 := hx.out.c 1 _ rfl
                go_wp2_with (first
                  | (go_at_call_of 54 (Value.int .i64 num); refine (hg1.out _).mono ?_; clear hg1; rintro e0 wn ⟨rfl, hbn⟩; replace hx := Lib.hid (hx.out.below hbn); replace hB := Lib.hid (below_step hB.out hbn); clear hbn; have y0 := hx.out.c 0 _ rfl; have y1 := hx.out.c 1 _ rfl)
                  | (go_at_call 18; refine (habs.out _).mono ?_; rintro e0 wn ⟨rfl, rfl⟩)
                  | (go_at_call_of 54 (Value.int .i64 p); refine (hg2.out _).mono ?_; clear hg2 y0 y1; rintro e0 wn ⟨rfl, hbn⟩; replace hx := Lib.hid (hx.out.below hbn); replace hB := Lib.hid (below_step hB.out hbn); clear hbn; have y0 := hx.out.c 0 _ rfl; have y1 := hx.out.c 1 _ rfl))
                go_ret2
                exact ⟨by rw [e1.out, e2.out]; rfl, hB.out⟩
              · have hnx := Lib.hid (hgood.out (by rw [hhz.out, if_neg hlg]))
                have hpl := Cal.part_le (p := p) (d := den) (by omega) (by omega) (by rw [hmo.out]; omega)
                rw [hmo.out] at hpl
                rw [hmo.out] at hnx
                have hw5 : IntKind.i64.wrap (p * den.tdiv (g2 : Int)) = p * den.tdiv (g2 : Int) := wrap_small (by omega) (by omega)
                clear hbad hgood hbg hmo hhz hm0 hm1 ht0 ht1 hgc
                go_wp2_with (first
                  | (go_at_call_of 54 (Value.int .i64 num); refine (hg1.out _).mono ?_; clear hg1; rintro e0 wn ⟨rfl, hbn⟩; replace hx := Lib.hid (hx.out.below hbn); replace hB := Lib.hid (below_step hB.out hbn); clear hbn; have y0 := hx.out.c 0 _ rfl; have y1 := hx.out.c 1 _ rfl)
                  | (go_at_call 18; refine (habs.out _).mono ?_; rintro e0 wn ⟨rfl, rfl⟩)
                  | (go_at_call_of 54 (Value.int .i64 p); refine (hg2.out _).mono ?_; clear hg2 y0 y1; rintro e0 wn ⟨rfl, hbn⟩; replace hx := Lib.hid (hx.out.below hbn); replace hB := Lib.hid (below_step hB.out hbn); clear hbn; have y0 := hx.out.c 0 _ rfl; have y1 := hx.out.c 1 _ rfl))
                refine wp_region_held_drew (S := Sx wn [(wr.heap.size, 1, .int .i64 den)]) (by kernel_rfl) (Sx.mk (by simp only [cs_iff_cons]; exact ⟨y1, cs_nil _⟩) (Below.refl _ _)).drew (fun hHeld => ?_)
                clear y0 y1
                refine tkHx 0 70 ?_
                refine tkHx 1 71 ?_
                refine tkHx 2 72 ?_
                refine tkHx 3 73 ?_
                refine tkHx 4 74 ?_
                refine tkHx 5 75 ?_
                refine tkHx 6 76 ?_
                refine wpAnyH_done (by kernel_rfl) ?_ _
                ((try simp only [Act.put, List.setIfInBounds_toArray]); (try simp only [List.set_cons_zero, List.set_cons_succ]))
                replace hx := Lib.hid (hx.out.below hHeld.bel)
                replace hB := Lib.hid (below_step hB.out hHeld.bel)
                clear hHeld
                have y0 := hx.out.c 0 _ rfl
                have y1 := hx.out.c 1 _ rfl
                go_wp2_with (first
                  | (go_at_call_of 54 (Value.int .i64 num); refine (hg1.out _).mono ?_; clear hg1; rintro e0 wn ⟨rfl, hbn⟩; replace hx := Lib.hid (hx.out.below hbn); replace hB := Lib.hid (below_step hB.out hbn); clear hbn; have y0 := hx.out.c 0 _ rfl; have y1 := hx.out.c 1 _ rfl)
                  | (go_at_call 18; refine (habs.out _).mono ?_; rintro e0 wn ⟨rfl, rfl⟩)
                  | (go_at_call_of 54 (Value.int .i64 p); refine (hg2.out _).mono ?_; clear hg2 y0 y1; rintro e0 wn ⟨rfl, hbn⟩; replace hx := Lib.hid (hx.out.below hbn); replace hB := Lib.hid (below_step hB.out hbn); clear hbn; have y0 := hx.out.c 0 _ rfl; have y1 := hx.out.c 1 _ rfl))
                go_roundw
                case rel => exact ⟨k + 1, _, by omega, by go_num, rfl, hpl.1, hpl.2, hnx, hB⟩
                case measure => simp [intOf]; omega
            · have habs := Lib.hid (fun W => absG_any (num.tdiv den) (by omega) (by omega) W)
              rw [hc3] at habs
              clear hc3
              have hg3 : (0 : Int) < (Int.gcd p den : Int) := by have := Cal.gcd_pos (a := p) (b := den) (by omega); omega
              have hmo : Hid (Cal.more p den = den.tdiv (Int.gcd p den : Int)) := rfl
              have hm0 : 0 ≤ den.tdiv (Int.gcd p den : Int) := Int.tdiv_nonneg (by omega) (by omega)
              have hm1 : den.tdiv (Int.gcd p den : Int) ≤ den := by
                have : (den.tdiv (Int.gcd p den : Int)).natAbs ≤ den.natAbs := by rw [Int.natAbs_tdiv]; exact Nat.div_le_self _ _
                omega
              generalize Int.gcd p den = g2 at *
              have hgn : ¬ (g2 : Int) = 0 := by omega
              have hgn2 : ¬ g2 = 0 := by omega
              have hw3 : IntKind.i64.wrap (den.tdiv (g2 : Int)) = den.tdiv (g2 : Int) := wrap_small (by omega) (by omega)
              have ht0 : 0 ≤ (4000000000 : Int).tdiv p := Int.tdiv_nonneg (by omega) (by omega)
              have ht1 : (4000000000 : Int).tdiv p ≤ 4000000000 := by
                have : ((4000000000 : Int).tdiv p).natAbs ≤ (4000000000 : Int).natAbs := by rw [Int.natAbs_tdiv]; exact Nat.div_le_self _ _
                omega
              have hw4 : IntKind.i64.wrap ((4000000000 : Int).tdiv p) = (4000000000 : Int).tdiv p := wrap_small (by omega) (by omega)
              have hpn : ¬ p = 0 := by omega
              have hhz : Hid (Cal.hErr p (num, den) = if (4000000000 : Int).tdiv p < den.tdiv (g2 : Int) then 8 else 0) := by
                show _ = _
                unfold Cal.hErr
                dsimp only
                rw [if_neg hd1, if_neg (by simpa using hgc), if_neg (by rw [hbg]; decide), hmo.out]
              by_cases hlg : (4000000000 : Int).tdiv p < den.tdiv (g2 : Int)
              · obtain ⟨e1, e2⟩ := hbad.out 8 (by decide) (by rw [hhz.out, if_pos hlg])
                replace e1 := Lib.hid e1
                replace e2 := Lib.hid e2
                clear hbad hgood hbg hmo hhz hm0 hm1 ht0 ht1 hgc
                go_wp2_with (first
                  | (go_at_call_of 54 (Value.int .i64 num); refine (hg1.out _).mono ?_; clear hg1; rintro e0 wn ⟨rfl, hbn⟩; replace hx := Lib.hid (hx.out.below hbn); replace hB := Lib.hid (below_step hB.out hbn); clear hbn; have y0 := hx.out.c 0 _ rfl; have y1 := hx.out.c 1 _ rfl)
                  | (go_at_call 18; refine (habs.out _).mono ?_; rintro e0 wn ⟨rfl, rfl⟩)
                  | (go_at_call_of 54 (Value.int .i64 p); refine (hg2.out _).mono ?_; clear hg2 y0 y1; rintro e0 wn ⟨rfl, hbn⟩; replace hx := Lib.hid (hx.out.below hbn); replace hB := Lib.hid (below_step hB.out hbn); clear hbn; have y0 := hx.out.c 0 _ rfl; have y1 := hx.out.c 1 _ rfl))
                refine wp_region_held_drew (S := Sx wn [(wr.heap.size, 1, .int .i64 den)]) (by kernel_rfl) (Sx.mk (by simp only [cs_iff_cons]; exact ⟨y1, cs_nil _⟩) (Below.refl _ _)).drew (fun hHeld => ?_)
                clear y0 y1
                refine tkHx 0 70 ?_
                refine tkHx 1 71 ?_
                refine tkHx 2 72 ?_
                refine tkHx 3 73 ?_
                refine tkHx 4 74 ?_
                refine tkHx 5 75 ?_
                refine tkHx 6 76 ?_
                refine wpAnyH_done (by kernel_rfl) ?_ _
                ((try simp only [Act.put, List.setIfInBounds_toArray]); (try simp only [List.set_cons_zero, List.set_cons_succ]))
                replace hx := Lib.hid (hx.out.below hHeld.bel)
                replace hB := Lib.hid (below_step hB.out hHeld.bel)
                clear hHeld
                have y0 := hx.out.c 0 _ rfl
                have y1 := hx.out.c 1 _ rfl
                go_wp2_with (first
                  | (go_at_call_of 54 (Value.int .i64 num); refine (hg1.out _).mono ?_; clear hg1; rintro e0 wn ⟨rfl, hbn⟩; replace hx := Lib.hid (hx.out.below hbn); replace hB := Lib.hid (below_step hB.out hbn); clear hbn; have y0 := hx.out.c 0 _ rfl; have y1 := hx.out.c 1 _ rfl)
                  | (go_at_call 18; refine (habs.out _).mono ?_; rintro e0 wn ⟨rfl, rfl⟩)
                  | (go_at_call_of 54 (Value.int .i64 p); refine (hg2.out _).mono ?_; clear hg2 y0 y1; rintro e0 wn ⟨rfl, hbn⟩; replace hx := Lib.hid (hx.out.below hbn); replace hB := Lib.hid (below_step hB.out hbn); clear hbn; have y0 := hx.out.c 0 _ rfl; have y1 := hx.out.c 1 _ rfl))
                go_ret2
                exact ⟨by rw [e1.out, e2.out]; rfl, hB.out⟩
              · have hnx := Lib.hid (hgood.out (by rw [hhz.out, if_neg hlg]))
                have hpl := Cal.part_le (p := p) (d := den) (by omega) (by omega) (by rw [hmo.out]; omega)
                rw [hmo.out] at hpl
                rw [hmo.out] at hnx
                have hw5 : IntKind.i64.wrap (p * den.tdiv (g2 : Int)) = p * den.tdiv (g2 : Int) := wrap_small (by omega) (by omega)
                clear hbad hgood hbg hmo hhz hm0 hm1 ht0 ht1 hgc
                go_wp2_with (first
                  | (go_at_call_of 54 (Value.int .i64 num); refine (hg1.out _).mono ?_; clear hg1; rintro e0 wn ⟨rfl, hbn⟩; replace hx := Lib.hid (hx.out.below hbn); replace hB := Lib.hid (below_step hB.out hbn); clear hbn; have y0 := hx.out.c 0 _ rfl; have y1 := hx.out.c 1 _ rfl)
                  | (go_at_call 18; refine (habs.out _).mono ?_; rintro e0 wn ⟨rfl, rfl⟩)
                  | (go_at_call_of 54 (Value.int .i64 p); refine (hg2.out _).mono ?_; clear hg2 y0 y1; rintro e0 wn ⟨rfl, hbn⟩; replace hx := Lib.hid (hx.out.below hbn); replace hB := Lib.hid (below_step hB.out hbn); clear hbn; have y0 := hx.out.c 0 _ rfl; have y1 := hx.out.c 1 _ rfl))
                refine wp_region_held_drew (S := Sx wn [(wr.heap.size, 1, .int .i64 den)]) (by kernel_rfl) (Sx.mk (by simp only [cs_iff_cons]; exact ⟨y1, cs_nil _⟩) (Below.refl _ _)).drew (fun hHeld => ?_)
                clear y0 y1
                refine tkHx 0 70 ?_
                refine tkHx 1 71 ?_
                refine tkHx 2 72 ?_
                refine tkHx 3 73 ?_
                refine tkHx 4 74 ?_
                refine tkHx 5 75 ?_
                refine tkHx 6 76 ?_
                refine wpAnyH_done (by kernel_rfl) ?_ _
                ((try simp only [Act.put, List.setIfInBounds_toArray]); (try simp only [List.set_cons_zero, List.set_cons_succ]))
                replace hx := Lib.hid (hx.out.below hHeld.bel)
                replace hB := Lib.hid (below_step hB.out hHeld.bel)
                clear hHeld
                have y0 := hx.out.c 0 _ rfl
                have y1 := hx.out.c 1 _ rfl
                go_wp2_with (first
                  | (go_at_call_of 54 (Value.int .i64 num); refine (hg1.out _).mono ?_; clear hg1; rintro e0 wn ⟨rfl, hbn⟩; replace hx := Lib.hid (hx.out.below hbn); replace hB := Lib.hid (below_step hB.out hbn); clear hbn; have y0 := hx.out.c 0 _ rfl; have y1 := hx.out.c 1 _ rfl)
                  | (go_at_call 18; refine (habs.out _).mono ?_; rintro e0 wn ⟨rfl, rfl⟩)
                  | (go_at_call_of 54 (Value.int .i64 p); refine (hg2.out _).mono ?_; clear hg2 y0 y1; rintro e0 wn ⟨rfl, hbn⟩; replace hx := Lib.hid (hx.out.below hbn); replace hB := Lib.hid (below_step hB.out hbn); clear hbn; have y0 := hx.out.c 0 _ rfl; have y1 := hx.out.c 1 _ rfl))
                go_roundw
                case rel => exact ⟨k + 1, _, by omega, by go_num, rfl, hpl.1, hpl.2, hnx, hB⟩
                case measure => simp [intOf]; omega
        · obtain ⟨e1, e2⟩ := hbad.out 3 (by decide) (by unfold Cal.hErr; rw [if_neg hd1, if_pos (by simpa using hgc)])
          replace e1 := Lib.hid e1
          replace e2 := Lib.hid e2
          have habs := hg2
          clear hbad hgood
          generalize Int.gcd num den = gn at *
          have hgcb : ((gn : Int) == 1) = false := by simp; omega
          go_wp2_with (first
            | (go_at_call_of 54 (Value.int .i64 num); refine (hg1.out _).mono ?_; clear hg1; rintro e0 wn ⟨rfl, hbn⟩; replace hx := Lib.hid (hx.out.below hbn); replace hB := Lib.hid (below_step hB.out hbn); clear hbn; have y0 := hx.out.c 0 _ rfl; have y1 := hx.out.c 1 _ rfl)
            | (go_at_call 18; refine (habs.out _).mono ?_; rintro e0 wn ⟨rfl, rfl⟩)
            | (go_at_call_of 54 (Value.int .i64 p); refine (hg2.out _).mono ?_; clear hg2 y0 y1; rintro e0 wn ⟨rfl, hbn⟩; replace hx := Lib.hid (hx.out.below hbn); replace hB := Lib.hid (below_step hB.out hbn); clear hbn; have y0 := hx.out.c 0 _ rfl; have y1 := hx.out.c 1 _ rfl))
          go_ret2
          exact ⟨by rw [e1.out, e2.out]; rfl, hB.out⟩
      · obtain rfl : k = fr.length := by omega
        have hS1 := hS.out
        rw [List.drop_length] at hS1
        have hz : Cal.scl 1 fr = (0, p) := hS1
        have e1 : Hid (E = 0) := by show _ = _; rw [← hEE.out, hz]
        have e2 : Hid (R = p) := by show _ = _; rw [← hRR.out, hz]; rfl
        clear hS hS1 hz
        go_wp2_with fail
        go_ret2
        exact ⟨by rw [e1.out, e2.out]; rfl, hB0.out⟩
  · rw [if_neg hlen] at hE hR
    subst hE hR
    have hlb : ((fr.length : Int) == N) = false := by simpa using hlen
    go_enter Try.func16, Try.ntmps16
    go_wp2_with fail
    go_ret2
    exact ⟨rfl, hb0.out⟩
end Go.Proofs.Ytfcjeejhdklkdaa
