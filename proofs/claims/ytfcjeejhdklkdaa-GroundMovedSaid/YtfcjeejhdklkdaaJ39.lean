/- What the statements rest on: definitions and walks, part 39. -/
import Derived.Test.YtfcjeejhdklkdaaJ33
import Derived.Test.YtfcjeejhdklkdaaJ27
import Derived.Test.YtfcjeejhdklkdaaJ32
set_option maxRecDepth 100000
set_option maxHeartbeats 16000000
set_option linter.unusedSimpArgs false
set_option linter.unusedVariables false
namespace Go.Proofs.Ytfcjeejhdklkdaa
open Go Go.RowKit Go.ChangeShapes Go.WideShapes Go.Deep
section
variable {H : Type} {enc : TypeId × Value → H} {w : World} {spare : Nat → Bool} {held : Bool} {r : Reach} {b0 : Nat} {v : Value} {d : DataW H} {ps : List MemPlace}
theorem trod_cells {t : TypeId} {fs : Array Field} {fuel : Nat} {cs : List Value} {x : DataW H × List MemPlace} (ht : Try.prog.underlying t = some (.struct fs)) (hone : oneCellFields Try.prog fs = true)
  (h : DataW.trod enc Try.prog w 0 spare held fuel t cs = some x) :
  ∃ (n : Nat) (xs : List (DataW H × List MemPlace)), cs.length = Try.prog.cellsOf t ∧ xs.length = fs.size ∧ ∀ (j : Nat) (f : Field), fs[j]? = some f → DataW.trod enc Try.prog w 0 spare held n f.type ((cs.drop j).take 1) = xs[j]? := by
 obtain ⟨xs, m, _, _, hlen, hxl, hi⟩ := DataW.trod_struct ht h
 refine ⟨m, xs, hlen, hxl, fun j f hj => ?_⟩
 obtain ⟨ho, hk⟩ := hone_of hone j f hj
 have := hi j f hj
 rwa [ho, hk] at this
theorem pt_of_open (hval : Value.okWide Try.prog w r b0 75 v) (h : DataW.Trod enc Try.prog w 0 spare held 75 v d ps) :
  ∃ p : Pt, v = .agg #[.int .i64 p.x, .int .i64 p.y] ∧ (-9223372036854775808 ≤ p.x ∧ p.x ≤ 9223372036854775807) ∧ (-9223372036854775808 ≤ p.y ∧ p.y ≤ 9223372036854775807) := by
 have hu := Try.underlying75
 unfold Value.okWide at hval
 rw [hu] at hval
 obtain ⟨cs, rfl, hcs, _⟩ := hval
 obtain ⟨fuel, hf⟩ := h
 obtain ⟨m, xs, hlen, hxl, hi⟩ := trod_cells hu (by kernel_rfl) hf
 have h0 := hi 0 _ rfl
 have h1 := hi 1 _ rfl
 rw [show Try.prog.cellsOf 75 = 2 by kernel_rfl] at hcs
 obtain ⟨l⟩ := cs
 match l, hcs with
 | [a, b], _ =>
  match xs, hxl with
  | [y0, y1], _ =>
   simp [Value.cells] at h0 h1
   obtain ⟨s0, e0, _, w0⟩ := DataW.trod_int Try.underlying3 h0
   obtain ⟨s1, e1, _, w1⟩ := DataW.trod_int Try.underlying3 h1
   cases e0; cases e1
   exact ⟨⟨s0, s1⟩, rfl, wf_bounds w0, wf_bounds w1⟩
end
end Go.Proofs.Ytfcjeejhdklkdaa
namespace Go.Proofs.Ytfcjeejhdklkdaa
open Go Go.RowKit Go.Shelf
theorem Area_any (V : Option Addr) (d : Nat) (ps : List Pt) (w : World) (hP : PtsR w V ps) :
  Calls Try.prog 41 #[.slice V ps.length d] w fun e w' => e = .returned (.tuple #[.int .i64 (if Cal.polyE ps = 0 then Cal.areaP ps else 0), .int .i64 (Cal.polyE ps)]) ∧ Below w.heap.size w w' := by
 have hP := Lib.hid hP
 by_cases h0 : Cal.polyE ps = 0
 ·have hV := Lib.hid (hP.out.ptsV h0)
  have h0 := Lib.hid h0
  go_enter Try.func41, Try.ntmps41
  go_wp2_with fail
  refine (CheckPolygon_any V d ps _ hP.out).mono ?_
  rintro e wn ⟨rfl, hbn⟩
  rw [h0.out]
  have hb := Lib.hid hbn
  clear hbn
  go_wp2_with fail
  refine (area_any V d ps _ (hV.out.below hb.out).pts).mono ?_
  rintro e wm ⟨rfl, hbn⟩
  have hb := Lib.hid (below_step hb.out hbn)
  clear hbn
  go_wp2_with fail
  go_ret2
  exact ⟨rfl, hb.out⟩
 ·have hn := Lib.hid h0
  go_enter Try.func41, Try.ntmps41
  go_wp2_with fail
  refine (CheckPolygon_any V d ps _ hP.out).mono ?_
  rintro e wn ⟨rfl, hbn⟩
  have hb := Lib.hid hbn
  clear hbn
  go_wp2_with fail
  go_ret2
  exact ⟨rfl, hb.out⟩
end Go.Proofs.Ytfcjeejhdklkdaa
namespace Go.Proofs.Ytfcjeejhdklkdaa
namespace Geo
theorem Free.mid {n : Nat} {P : Nat → RP} {q r : RP} (h : Free n P q r) {x : Rat} (x0 : 0 ≤ x) (x1 : x ≤ 1) : Off n P (at' q r x) :=
 fun i l hi l0 l1 e => h i hi l x l0 l1 x0 x1 e.symm
end Geo
end Go.Proofs.Ytfcjeejhdklkdaa
namespace Go.Proofs.Ytfcjeejhdklkdaa
namespace Geo
section
variable {n m : Nat} {P Q : Nat → RP}
theorem far_out (n m : Nat) (P Q : Nat → RP) : ∃ r, Out n P r ∧ Out m Q r := by
 obtain ⟨M, hM⟩ := max_ex (fun i => (P i).y) (n + 1)
 obtain ⟨K, hK⟩ := max_ex (fun i => (Q i).y) (m + 1)
 obtain ⟨L, hL, hL'⟩ : ∃ L : Rat, M ≤ L ∧ K ≤ L := by
  rcases Rat.le_total (a := M) (b := K) with h | h
  ·exact ⟨K, h, by grind⟩
  ·exact ⟨M, by grind, h⟩
 have one : ∀ (n : Nat) (P : Nat → RP), (∀ i, i < n + 1 → (P i).y ≤ L) → Out n P ⟨0, L + 1⟩ := fun n P hP => by
  refine ⟨fun i l hi l0 l1 e => ?_, wind_above (fun i hi => by have := hP i (by omega); dsimp only; grind)⟩
  have h1 := hP i (by omega)
  have h2 := hP (i + 1) (by omega)
  simp only [at', RP.mk.injEq] at e
  have p1 := mul_nn l0 (b := L - (P (i + 1)).y) (by grind)
  have p2 := mul_nn (a := 1 - l) (b := L - (P i).y) (by grind) (by grind)
  grind
 exact ⟨⟨0, L + 1⟩, one n P (fun i hi => by have := hM i hi; grind), one m Q (fun i hi => by have := hK i hi; grind)⟩
theorem Simple.const_out (hP : Simple n P) (hQ : Simple m Q) (hsub : ∀ q, Off m Q q → Off n P q) {q r : RP} (hq : Out m Q q) (hr : Out m Q r) : wind n P q = wind n P r := by
 have hc := hQ.jordan hq.1 hr.1 (hq.2.trans hr.2.symm)
 refine hc.keep (fun x => wind n P q = wind n P x) (fun x y hf hx => ?_) rfl
 exact hx.trans (wind_move hP.close (Off.free fun z z0 z1 => hsub _ (hf.mid z0 z1)))
theorem in_or_apart (hP : Pos n P) (hQ : Pos m Q) (h1 : ∀ q, In n P q → Off m Q q) : (∀ q, In n P q → In m Q q) ∨ (∀ q, In n P q → Out m Q q) := by
 by_cases h : ∃ q, In n P q ∧ In m Q q
 ·obtain ⟨c, c1, c2⟩ := h
  exact .inl fun q hq => ⟨h1 q hq, (hP.sim.const_in hQ.sim h1 hq c1).trans c2.2⟩
 ·refine .inr fun q hq => ?_
  rcases hQ.two (h1 q hq) with h3 | h3
  ·exact absurd ⟨q, hq, h3⟩ h
  ·exact h3
theorem not_on (hP : Pos n P) (hQ : Pos m Q) (hout : ∀ q, In n P q → Out m Q q) (hsub : ∀ q, Off m Q q → Off n P q) : False := by
 have h3 := hP.sim.three
 obtain ⟨q, _, hq⟩ := hP.border_in (i := 0) (by omega) (l := 0) (by grind) (by grind) (e := 1) (by grind)
 obtain ⟨r, h1, h2⟩ := far_out n m P Q
 have := hP.sim.const_out hQ.sim hsub (hout q hq) h2
 have := hq.2
 have := h1.2
 omega
end
end Geo
end Go.Proofs.Ytfcjeejhdklkdaa
namespace Go.Proofs.Ytfcjeejhdklkdaa
namespace Geo
section
variable {n m : Nat} {A B : Nat → RP}
def Within (n : Nat) (A : Nat → RP) (m : Nat) (B : Nat → RP) : Prop := ∀ q, In n A q → In m B q
theorem Within.nocross (hA : Pos n A) (hB : Pos m B) (h : Within n A m B) : NoCross n A m B := fun i k hi hk hc => by
 obtain ⟨q, h1, h2⟩ := (cross_pts hA hB hi hk hc).2
 exact (h q h1).not_out h2
theorem within_iff (hA : Pos n A) (hB : Pos m B) {F G : Nat → Rat → Rat → Prop} (hF : Parts n A m B F) (hG : Parts m B n A G) :
  Within n A m B ↔ NoCross n A m B ∧ (∀ i u v, F i u v → ¬ Out m B (at' (A i) (A (i + 1)) ((u + v) / 2))) ∧ (∀ k u v, G k u v → ¬ In n A (at' (B k) (B (k + 1)) ((u + v) / 2))) := by
 constructor
 ·intro h
  refine ⟨h.nocross hA hB, fun i u v hf ho => ?_, fun k u v hg hi => ?_⟩
  ·obtain ⟨hi, u0, huv, v1⟩ := hF.rng i u v hf
   obtain ⟨e1, e10, h1⟩ := hA.side_near hi (t := (u + v) / 2) (by grind) (by grind)
   obtain ⟨e2, e20, h2⟩ := ho.near hB.sim
   obtain ⟨g, g0, k1, k2⟩ : ∃ g : Rat, 0 < g ∧ g ≤ e1 ∧ g ≤ e2 := by
    rcases Rat.le_total (a := e1) (b := e2) with h | h
    ·exact ⟨e1, by grind, by grind, h⟩
    ·exact ⟨e2, e20, h, by grind⟩
   obtain ⟨q, hq, hc⟩ := left_pt (hA.sim.ne i) (crs_at _ _ ((u + v) / 2)) (.inl rfl) g0
   exact (h q ((h1 q (hq.mono k1)).1 (by grind))).not_out (h2 q (hq.mono k2))
  ·obtain ⟨hk, u0, huv, v1⟩ := hG.rng k u v hg
   exact (h _ hi).1 k ((u + v) / 2) hk (by grind) (by grind) rfl
 ·rintro ⟨hno, h1, h2⟩
  rcases in_or_apart hA hB (no_enter hA.sim hB.sim hno hG h2) with h | h
  ·exact h
  ·exfalso
   refine not_on hA hB h fun q hq i l hi l0 l1 e => ?_
   obtain ⟨g, g0, hg⟩ := hB.sim.off_near hq
   obtain ⟨t, t0, t1, ht⟩ := inner_near (A i) (A (i + 1)) l0 l1 g0
   rw [← e] at ht
   have hof := (hg _ ht).1
   obtain ⟨u, v, hf, hu, hv⟩ := hF.cover i t hi t0 t1 (fun j hj e => hof j 0 hj (by grind) (by grind) (by rw [at0]; exact e.symm))
   obtain ⟨_, u0, huv, v1⟩ := hF.rng i u v hf
   rcases part_dich hA.sim hB.sim hno hi u0 v1 (hF.clean i u v hf) with ⟨j, hj, _, _, k⟩ | k
   ·obtain ⟨r, r0, r1, er⟩ := k t hu hv
    exact hof j r hj (by grind) (by grind) er
   ·rcases hB.two (k ((u + v) / 2) (by grind) (by grind)) with z | z
    ·obtain ⟨e1, e10, g1⟩ := hA.side_near hi (t := (u + v) / 2) (by grind) (by grind)
     obtain ⟨e2, e20, g2⟩ := z.near hB.sim
     obtain ⟨g, g0, k1, k2⟩ : ∃ g : Rat, 0 < g ∧ g ≤ e1 ∧ g ≤ e2 := by
      rcases Rat.le_total (a := e1) (b := e2) with h | h
      ·exact ⟨e1, by grind, by grind, h⟩
      ·exact ⟨e2, e20, h, by grind⟩
     obtain ⟨q, hq, hc⟩ := left_pt (hA.sim.ne i) (crs_at _ _ ((u + v) / 2)) (.inl rfl) g0
     exact (g2 q (hq.mono k2)).not_out (h q ((g1 q (hq.mono k1)).1 (by grind)))
    ·exact h1 i u v hf z
end
end Geo
end Go.Proofs.Ytfcjeejhdklkdaa
namespace Go.Proofs.Ytfcjeejhdklkdaa
namespace Cal
open Geo (RP at' Simple Pos In Out Off wind wc)
section
variable {a b : List Pt}
theorem within_in (ha : polyE a = 0) (hb : polyE b = 0) : withinP a b = true ↔ Geo.Within a.length (ring a) b.length (ring b) := by
 obtain ⟨pa, na⟩ := polyE_pos ha
 obtain ⟨pb, nb⟩ := polyE_pos hb
 rw [Geo.within_iff pa pb (fp_parts na) (fp_parts nb)]
 unfold withinP
 rw [Bool.and_eq_true, Bool.and_eq_true, List.all_eq_true, List.all_eq_true, Bool.not_eq_true']
 have hc : crossP a b = false ↔ Geo.NoCross a.length (ring a) b.length (ring b) := by
  cases h : crossP a b
  ·exact ⟨fun _ => Classical.byContradiction fun hn => (by rw [crossP_iff.2 hn] at h; cases h), fun _ => rfl⟩
  ·exact ⟨fun h' => (by cases h'), fun hn => absurd hn (crossP_iff.1 h)⟩
 rw [hc]
 refine and_congr_right fun _ => and_congr ⟨fun h i u v hf' ho => ?_, fun h x hx => ?_⟩ ⟨fun h i u v hf' ho => ?_, fun h x hx => ?_⟩
 ·obtain ⟨x, hx, _, hm⟩ := fp_pcs hf'
  have hw := where_mul pb nb (k := 2) (by decide) x.mid
  rw [← dbl_mul, hm] at hw
  have := of_decide_eq_true (h x hx)
  have := hw.2.2.2 ho
  omega
 ·obtain ⟨i, u, v, hf', _, hm⟩ := pcs_mem na hx
  have hw := where_mul pb nb (k := 2) (by decide) x.mid
  rw [← dbl_mul, hm] at hw
  refine decide_eq_true ?_
  have := h i u v hf'
  by_cases ho : Geo.Off b.length (ring b) (at' (ring a i) (ring a (i + 1)) ((u + v) / 2))
  ·rcases pb.two ho with z | z
   ·have := hw.1.2 z; omega
   ·exact absurd z this
  ·have := hw.2.1.2 ho; omega
 ·obtain ⟨x, hx, _, hm⟩ := fp_pcs hf'
  have hw := where_mul pa na (k := 2) (by decide) x.mid
  rw [← dbl_mul, hm] at hw
  have := of_decide_eq_true (h x hx)
  have := hw.1.2 ho
  omega
 ·obtain ⟨i, u, v, hf', _, hm⟩ := pcs_mem nb hx
  have hw := where_mul pa na (k := 2) (by decide) x.mid
  rw [← dbl_mul, hm] at hw
  refine decide_eq_true ?_
  have := h i u v hf'
  by_cases ho : Geo.Off a.length (ring a) (at' (ring b i) (ring b (i + 1)) ((u + v) / 2))
  ·rcases pa.two ho with z | z
   ·exact absurd z this
   ·have := hw.2.2.2 z; omega
  ·have := hw.2.1.2 ho; omega
end
end Cal
end Go.Proofs.Ytfcjeejhdklkdaa
namespace Go.Proofs.Ytfcjeejhdklkdaa
namespace Geo
section
variable {n : Nat} {P : Nat → RP}
theorem Simple.off_shift (h : Simple n P) (s : Nat) {q : RP} : Off n (shiftP P s) q ↔ Off n P q := by
 rw [Off.mod h, Off.mod (h.shift s)]
 constructor
 ·intro ho i l l0 l1 e
  have h3 := h.three
  have hc : ∃ j, (j + s) % n = i % n := ⟨i + n * s - s, by
   have : i + n * s - s + s = i + n * s := by
    have : s ≤ n * s := Nat.le_mul_of_pos_left _ (by omega)
    omega
   rw [this, Nat.add_mul_mod_self_left]⟩
  obtain ⟨j, hj⟩ := hc
  refine ho j l l0 l1 ?_
  show q = at' (P (j + s)) (P (j + 1 + s)) l
  rw [show j + 1 + s = j + s + 1 by omega, ← h.mod (j + s), ← h.next (j + s), hj, h.mod, h.next]
  exact e
 ·intro ho i l l0 l1 e
  refine ho (i + s) l l0 l1 ?_
  rw [show i + s + 1 = i + 1 + s by omega]
  exact e
theorem Pos.in_shift (h : Pos n P) (s : Nat) {q : RP} : In n (shiftP P s) q ↔ In n P q := by
 unfold In
 rw [h.sim.off_shift, h.sim.wind_shift]
end
end Geo
end Go.Proofs.Ytfcjeejhdklkdaa
namespace Go.Proofs.Ytfcjeejhdklkdaa
open Go Go.RowKit Go.Shelf
attribute [local go_sem] Oper.semAt_some
theorem WithinX_any (Va Vb : Option Addr) (da db : Nat) (us vs : List Pt) (w : World) (hA : PtsR w Va us) (hB : PtsR w Vb vs) (hla : Cal.polyE us = 0 → us.length ≤ 10) (hlb : Cal.polyE vs = 0 → vs.length ≤ 10) :
  Calls Try.prog 33 #[.slice Va us.length da, .slice Vb vs.length db] w fun e w' => e = .returned (.tuple #[.bool (if brdE us vs = 0 then Cal.withinP us vs else false), .int .i64 (brdE us vs)]) ∧ Below w.heap.size w w' := by
 have hb1 : Below w.heap.size w (w.alloc (.cells #[.slice Va us.length da, .slice Vb vs.length db] 48)) := below_alloc _ _
 have hx := BoxAt.new w #[.slice Va us.length da, .slice Vb vs.length db] 48
 have hck := Lib.hid (checkAll_any w.heap.size 0 2 [⟨Va, da, us⟩, ⟨Vb, db, vs⟩] _ (fun k p hp => by
  match k, hp with
  | 0, hp => cases hp; exact hx.c 0 _ rfl
  | 1, hp => cases hp; exact hx.c 1 _ rfl) (fun p hp => by
  rcases List.mem_cons.1 hp with e | hp
  ·rw [e]; exact hA.below hb1
  ·rw [List.mem_singleton.1 hp]; exact hB.below hb1) (by simp) hx.lt)
 have hfe : Hid (firstE [⟨Va, da, us⟩, ⟨Vb, db, vs⟩] = brdE us vs) := rfl
 replace hb1 := Lib.hid hb1
 clear hx
 obtain ⟨R, hR⟩ : ∃ R, (if brdE us vs = 0 then Cal.withinP us vs else false) = R := ⟨_, rfl⟩
 rw [hR]
 by_cases h0 : brdE us vs = 0
 ·have hp := brdE_eq us vs
  rw [h0] at hp
  have hu : Cal.polyE us = 0 := by
   split at hp
   ·assumption
   ·rename_i h; exact absurd hp.symm h
  have hv : Cal.polyE vs = 0 := by rw [if_pos hu] at hp; exact hp.symm
  have hPa := Lib.hid (hA.plg hu (hla hu))
  have hPb := Lib.hid (hB.plg hv (hlb hv))
  rw [if_pos h0] at hR
  rw [h0]
  have hin := Lib.hid (fun W (hW : Below w.heap.size w W) => withinG_any Va Vb da db us vs W (hPa.out.below hW) (hPb.out.below hW))
  rw [hR] at hin
  clear hp hu hv hA hB hR
  replace h0 := Lib.hid h0
  go_enter Try.func33, Try.ntmps33
  go_wp2_with (first
   |(go_at_call 60; refine hck.out.mono ?_; rintro e wn ⟨rfl, hbn⟩; rw [hfe.out, h0.out]; have hb2 := Lib.hid (below_step hb1.out hbn); clear hbn)
   |(go_at_call 68; refine (hin.out _ hb2.out).mono ?_; rintro e wm ⟨rfl, hbn⟩; have hb3 := Lib.hid (below_step hb2.out hbn); clear hbn))
  go_ret2
  exact ⟨rfl, hb3.out⟩
 ·rw [if_neg h0] at hR
  subst hR
  obtain ⟨v, hv⟩ : ∃ v, brdE us vs = v := ⟨_, rfl⟩
  rw [hv] at h0 hfe ⊢
  clear hA hB hv
  go_enter Try.func33, Try.ntmps33
  go_wp2_with (go_at_call 60; refine hck.out.mono ?_; rintro e wn ⟨rfl, hbn⟩; rw [hfe.out]; have hb2 := Lib.hid (below_step hb1.out hbn); clear hbn)
  go_ret2
  exact ⟨rfl, hb2.out⟩
end Go.Proofs.Ytfcjeejhdklkdaa
namespace Go.Proofs.Ytfcjeejhdklkdaa
namespace Geo
def mvR (u v : Rat) (q : RP) : RP := ⟨q.x + u, q.y + v⟩
def mvP (u v : Rat) (P : Nat → RP) : Nat → RP := fun i => mvR u v (P i)
section
variable {u v : Rat}
theorem crs_mv (a b q : RP) : crs (mvR u v a) (mvR u v b) (mvR u v q) = crs a b q := by simp only [crs, mvR]; grind
theorem mv_le {a b : Rat} : a + v ≤ b + v ↔ a ≤ b := by constructor <;> intro h <;> grind
theorem mv_lt {a b : Rat} : a + v < b + v ↔ a < b := by constructor <;> intro h <;> grind
theorem wc_mv (a b q : RP) : wc (mvR u v a) (mvR u v b) (mvR u v q) = wc a b q := by
 unfold wc
 rw [crs_mv]
 simp only [mvR, mv_le, mv_lt]
theorem at_mv (a b : RP) (l : Rat) : at' (mvR u v a) (mvR u v b) l = mvR u v (at' a b l) := by
 simp only [at', mvR, RP.mk.injEq]
 constructor <;> grind
theorem mv_inj {p q : RP} : mvR u v p = mvR u v q ↔ p = q := by
 constructor
 ·intro h
  unfold mvR at h
  rw [RP.mk.injEq] at h
  cases p; cases q
  rw [RP.mk.injEq]
  dsimp only at h
  constructor <;> grind
 ·intro h; rw [h]
theorem mv_back (q : RP) : mvR u v (mvR (-u) (-v) q) = q := by
 cases q
 simp only [mvR, RP.mk.injEq]
 constructor <;> grind
theorem wind_mv (n : Nat) (P : Nat → RP) (q : RP) : wind n (mvP u v P) (mvR u v q) = wind n P q := by
 unfold wind
 exact sumZ_congr fun i _ => wc_mv _ _ _
theorem off_mv {n : Nat} {P : Nat → RP} {q : RP} : Off n (mvP u v P) (mvR u v q) ↔ Off n P q := by
 unfold Off mvP
 simp only [at_mv, ne_eq, mv_inj]
theorem in_mv {n : Nat} {P : Nat → RP} {q : RP} : In n (mvP u v P) (mvR u v q) ↔ In n P q := by
 unfold In
 rw [off_mv, wind_mv]
theorem over_mv {n m : Nat} {P Q : Nat → RP} (hP : Pos n P) (s : Nat) : Over n (mvP u v (shiftP P s)) m (mvP u v Q) ↔ Over n P m Q := by
 constructor
 ·rintro ⟨q, h1, h2⟩
  rw [← mv_back (u := u) (v := v) q, in_mv] at h1 h2
  exact ⟨_, (hP.in_shift s).1 h1, h2⟩
 ·rintro ⟨q, h1, h2⟩
  exact ⟨mvR u v q, in_mv.2 ((hP.in_shift s).2 h1), in_mv.2 h2⟩
theorem within_mv {n m : Nat} {P Q : Nat → RP} (hP : Pos n P) (s : Nat) : Within n (mvP u v (shiftP P s)) m (mvP u v Q) ↔ Within n P m Q := by
 constructor
 ·intro h q hq
  exact in_mv.1 (h (mvR u v q) (in_mv.2 ((hP.in_shift s).2 hq)))
 ·intro h q hq
  rw [← mv_back (u := u) (v := v) q, in_mv] at hq ⊢
  exact h _ ((hP.in_shift s).1 hq)
end
end Geo
namespace Cal
open Geo (RP Pos In Over Within)
def mvPt (t q : Pt) : Pt := ⟨q.x + t.x, q.y + t.y⟩
def movP (t : Pt) (a : List Pt) : List Pt := a.map (mvPt t)
def rotP (a : List Pt) : List Pt := (List.range a.length).map fun i => cor a (i + 1)
theorem mov_len (t : Pt) (a : List Pt) : (movP t a).length = a.length := by simp [movP]
theorem rot_len (a : List Pt) : (rotP a).length = a.length := by simp [rotP]
theorem cor_get {a : List Pt} {i : Nat} (h : i < a.length) : cor a i = a[i] := by
 unfold cor
 rw [Nat.mod_eq_of_lt h, List.getElem?_eq_getElem h]; rfl
theorem cor_mov (t : Pt) {a : List Pt} (h0 : 0 < a.length) (i : Nat) : cor (movP t a) i = mvPt t (cor a i) := by
 unfold cor
 rw [mov_len]
 have := Nat.mod_lt i h0
 unfold movP
 rw [List.getElem?_map, List.getElem?_eq_getElem this]; rfl
theorem cor_rot {a : List Pt} (h0 : 0 < a.length) (i : Nat) : cor (rotP a) i = cor a (i + 1) := by
 have hm := Nat.mod_lt i h0
 have e : cor (rotP a) i = cor a (i % a.length + 1) := by
  conv => lhs; unfold cor
  rw [rot_len]
  unfold rotP
  rw [List.getElem?_map, List.getElem?_range hm]; rfl
 rw [e, ← cor_mod, ← cor_mod a (i + 1), Nat.mod_add_mod]
theorem rot_form (q : Pt) (r : List Pt) : rotP (q :: r) = r ++ [q] := by
 refine List.ext_getElem (by rw [rot_len]; simp) fun i h1 h2 => ?_
 rw [rot_len, List.length_cons] at h1
 have e : (rotP (q :: r))[i]'(by rw [rot_len, List.length_cons]; exact h1) = cor (q :: r) (i + 1) := by simp [rotP]
 rw [e]
 by_cases hi : i < r.length
 ·rw [cor_get (by rw [List.length_cons]; omega), List.getElem_append_left hi, List.getElem_cons_succ]
 ·have hi : i = r.length := by omega
  subst hi
  have : cor (q :: r) (r.length + 1) = cor (q :: r) 0 := by
   have := cor_per (q :: r) 0
   rw [Nat.zero_add] at this
   exact this
  rw [this, cor_get (by simp)]
  simp
theorem rot_perm : ∀ a : List Pt, (rotP a).Perm a
 | [] => List.Perm.refl _
 | q :: r => by rw [rot_form]; exact List.perm_append_comm (l₁ := r) (l₂ := [q])
theorem ptsErr_of : ∀ {ps : List Pt}, (∀ p ∈ ps, ptErr p = 0) → ptsErr ps = 0
 | [], _ => rfl
 | q :: r, h => by
  unfold ptsErr
  rw [if_pos (h q List.mem_cons_self)]
  exact ptsErr_of fun p hp => h p (List.mem_cons_of_mem _ hp)
theorem twice_none : ∀ (l s : List Pt), (∀ p ∈ s, p ∉ l) → l.Nodup → twiceP s l = false
 | [], _, _, _ => rfl
 | q :: r, s, hs, hn => by
  unfold twiceP
  rw [List.nodup_cons] at hn
  rw [Bool.or_eq_false_iff]
  constructor
  ·rw [List.any_eq_false]
   intro p hp he
   have : q = p := ptB_iff.1 he
   exact hs p hp (this ▸ List.mem_cons_self)
  ·refine twice_none r (q :: s) (fun p hp => ?_) hn.2
   rcases List.mem_cons.1 hp with rfl | hp
   ·exact hn.1
   ·exact fun hm => hs p hp (List.mem_cons_of_mem _ hm)
theorem polyE_of {ps : List Pt} (h : Poly ps) (h40 : ps.length ≤ 40) (hp : ∀ p ∈ ps, ptErr p = 0) (ha : 0 < areaP ps) : polyE ps = 0 := by
 unfold polyE
 rw [if_neg (by have := h.three; omega), if_pos (ptsErr_of hp), if_neg (by rw [twice_none ps [] (fun _ h => by cases h) h.nd]; decide), if_pos h.sim, if_neg (by omega)]
theorem polyE_le {ps : List Pt} (h : polyE ps = 0) : ps.length ≤ 40 := by
 unfold polyE at h
 split at h
 ·cases h
 ·omega
theorem simple_of {ps : List Pt} (h1 : ∀ i, i < ps.length → backS ps i = false) (h2 : ∀ i k, i < ps.length → k < ps.length → badK ps i k = false) : simpleP ps = true := by
 unfold simpleP
 rw [List.all_eq_true]
 intro i hi
 have hi := List.mem_range.1 hi
 rw [h1 i hi, Bool.not_false, Bool.true_and, List.all_eq_true]
 intro k hk
 rw [h2 i k hi (List.mem_range.1 hk)]; rfl
def mvS (t : Pt) (s : Sd) : Sd := ⟨mvPt t s.a, mvPt t s.b⟩
theorem sd_mov (t : Pt) {a : List Pt} {i : Nat} (hi : i < a.length) : sd (movP t a) i = mvS t (sd a i) := by
 rw [sd_cor (by rw [mov_len]; exact hi), sd_cor hi, cor_mov t (by omega), cor_mov t (by omega)]; rfl
theorem crs_mov (t : Pt) (s : Sd) (q : Pt) : crs (mvS t s) (mvPt t q) = crs s q := by unfold crs mvS mvPt; grind
theorem trn_mov (t : Pt) (s : Sd) (q : Pt) : trn (mvS t s) (mvPt t q) = trn s q := by unfold trn; rw [crs_mov]
theorem dot_mov (t p q r : Pt) : dotP (mvPt t p) (mvPt t q) (mvPt t r) = dotP p q r := by unfold dotP mvPt; grind
theorem has_mov (t : Pt) (s : Sd) (q : Pt) : hasP (mvS t s) (mvPt t q) = hasP s q := by
 unfold hasP
 rw [trn_mov, show (mvS t s).a = mvPt t s.a from rfl, show (mvS t s).b = mvPt t s.b from rfl, dot_mov]
theorem cros_mov (t : Pt) (s z : Sd) : crosS (mvS t s) (mvS t z) = crosS s z := by
 unfold crosS
 rw [show (mvS t z).a = mvPt t z.a from rfl, show (mvS t z).b = mvPt t z.b from rfl, show (mvS t s).a = mvPt t s.a from rfl, show (mvS t s).b = mvPt t s.b from rfl, trn_mov, trn_mov, trn_mov, trn_mov]
theorem meet_mov (t : Pt) (s z : Sd) : meetS (mvS t s) (mvS t z) = meetS s z := by
 unfold meetS
 rw [cros_mov, show (mvS t z).a = mvPt t z.a from rfl, show (mvS t z).b = mvPt t z.b from rfl, show (mvS t s).a = mvPt t s.a from rfl, show (mvS t s).b = mvPt t s.b from rfl, has_mov, has_mov, has_mov, has_mov]
theorem back_cor {a : List Pt} {i : Nat} (_ : i < a.length) : a[(i + a.length - 1) % a.length]?.getD pt0 = cor a (i + a.length - 1) := rfl
theorem back_mov (t : Pt) {a : List Pt} {i : Nat} (hi : i < a.length) : backS (movP t a) i = backS a i := by
 unfold backS
 rw [back_cor (a := movP t a) (by rw [mov_len]; exact hi), back_cor hi, mov_len, sd_mov t hi, cor_mov t (by omega), trn_mov, show (mvS t (sd a i)).a = mvPt t (sd a i).a from rfl, show (mvS t (sd a i)).b = mvPt t (sd a i).b from rfl, dot_mov]
theorem bad_mov (t : Pt) {a : List Pt} {i k : Nat} (hi : i < a.length) (hk : k < a.length) : badK (movP t a) i k = badK a i k := by
 unfold badK
 rw [mov_len, sd_mov t hi, sd_mov t hk, meet_mov]
theorem areaTo_mov (t : Pt) {a : List Pt} (h0 : 0 < a.length) : ∀ k, k ≤ a.length → areaTo (movP t a) k = areaTo a k + t.x * ((cor a k).y - (cor a 0).y) - t.y * ((cor a k).x - (cor a 0).x)
 | 0, _ => by unfold areaTo; grind
 | k + 1, hk => by
  unfold areaTo
  rw [areaTo_mov t h0 k (by omega), sd_mov t (by omega), sd_cor (show k < a.length by omega)]
  unfold mvS mvPt
  dsimp only
  grind
theorem area_mov (t : Pt) {a : List Pt} (h0 : 0 < a.length) : areaP (movP t a) = areaP a := by
 unfold areaP
 rw [mov_len, areaTo_mov t h0 _ (Nat.le_refl _)]
 have : cor a a.length = cor a 0 := by have := cor_per a 0; rwa [Nat.zero_add] at this
 rw [this]; grind
theorem mvPt_inj {t p q : Pt} (h : mvPt t p = mvPt t q) : p = q := by
 unfold mvPt at h
 rw [Pt.mk.injEq] at h
 cases p; cases q
 rw [Pt.mk.injEq]
 dsimp only at h
 omega
theorem nodup_mov (t : Pt) {a : List Pt} (h : a.Nodup) : (movP t a).Nodup := by
 unfold movP
 rw [List.nodup_iff_pairwise_ne] at h ⊢
 exact List.Pairwise.map _ (fun p q hpq e => hpq (mvPt_inj e)) h
theorem polyE_mov (t : Pt) {a : List Pt} (h : polyE a = 0) (hp : ∀ p ∈ movP t a, ptErr p = 0) : polyE (movP t a) = 0 ∧ areaP (movP t a) = areaP a := by
 obtain ⟨hP, _, har⟩ := polyE_poly h
 have h3 := hP.three
 have e := area_mov t (a := a) (by omega)
 refine ⟨polyE_of ⟨by rw [mov_len]; exact h3, nodup_mov t hP.nd, ?_⟩ (by rw [mov_len]; exact polyE_le h) hp (by rw [e]; exact har), e⟩
 refine simple_of (fun i hi => ?_) (fun i k hi hk => ?_)
 ·rw [mov_len] at hi
  rw [back_mov t hi]; exact (hP.parts hi).1
 ·rw [mov_len] at hi hk
  rw [bad_mov t hi hk]; exact (hP.parts hi).2 k hk
theorem sd_rot {a : List Pt} {i : Nat} (hi : i + 1 < a.length) : sd (rotP a) i = sd a (i + 1) := by
 rw [sd_cor (by rw [rot_len]; omega), sd_cor hi, cor_rot (by omega), cor_rot (by omega)]
theorem sd_rot_last {a : List Pt} {i : Nat} (hi : i + 1 = a.length) : sd (rotP a) i = sd a 0 := by
 rw [sd_cor (by rw [rot_len]; omega), sd_cor (show 0 < a.length by omega), cor_rot (by omega), cor_rot (by omega)]
 have e0 := cor_per a 0
 have e1 := cor_per a 1
 rw [Nat.zero_add] at e0
 rw [hi, e0, Nat.add_comm a.length 1, e1]
theorem meet_symm (s t : Sd) : meetS s t = meetS t s := by
 unfold meetS crosS
 rw [Bool.and_comm]
 cases (decide (trn t s.a * trn t s.b < 0) && decide (trn s t.a * trn s t.b < 0)) <;> cases hasP s t.a <;> cases hasP s t.b <;> cases hasP t s.a <;> cases hasP t s.b <;> rfl
theorem back_rot {a : List Pt} (h : Poly a) {i : Nat} (hi : i < a.length) : backS (rotP a) i = false := by
 have h3 := h.three
 have e : backS (rotP a) i = backS a ((i + 1) % a.length) := by
  unfold backS
  rw [back_cor (a := rotP a) (by rw [rot_len]; exact hi), back_cor (Nat.mod_lt _ (by omega)), rot_len, cor_rot (by omega)]
  by_cases hl : i + 1 < a.length
  ·rw [Nat.mod_eq_of_lt hl, sd_rot hl, show i + a.length - 1 + 1 = i + 1 + a.length - 1 by omega]
  ·have hl : i + 1 = a.length := by omega
   have e0 := cor_per a (0 + a.length - 1)
   rw [hl, Nat.mod_self, sd_rot_last hl, show i + a.length - 1 + 1 = 0 + a.length - 1 + a.length by omega, e0]
 rw [e]
 exact (h.parts (Nat.mod_lt _ (by omega))).1
theorem bad_rot {a : List Pt} (h : Poly a) {i k : Nat} (hi : i < a.length) (hk : k < a.length) : badK (rotP a) i k = false := by
 unfold badK
 rw [rot_len]
 by_cases h1 : i + 1 < k
 ·by_cases h2 : (k + 1) % a.length = i
  ·rw [h2]; simp
  ·have hm : meetS (sd (rotP a) i) (sd (rotP a) k) = false := by
    by_cases hl : k + 1 < a.length
    ·rw [sd_rot (by omega), sd_rot hl]
     refine h.nomeet (by omega) hl (by omega) fun e => ?_
     by_cases h5 : k + 1 + 1 < a.length
     ·rw [Nat.mod_eq_of_lt h5] at e; omega
     ·rw [show k + 1 + 1 = a.length by omega, Nat.mod_self] at e; omega
    ·have hl : k + 1 = a.length := by omega
     rw [hl, Nat.mod_self] at h2
     rw [sd_rot (by omega), sd_rot_last hl, meet_symm]
     refine h.nomeet (by omega) (by omega) (by omega) fun e => ?_
     rw [Nat.mod_eq_of_lt (by omega)] at e; omega
   rw [hm, Bool.and_false]
 ·rw [decide_eq_false h1]; rfl
theorem areaTo_rot {a : List Pt} : ∀ k, k + 1 ≤ a.length → areaTo (rotP a) k + areaTo a 1 = areaTo a (k + 1)
 | 0, _ => by
  show 0 + areaTo a 1 = areaTo a 1
  omega
 | k + 1, hk => by
  have ih := areaTo_rot (a := a) k (by omega)
  have e : areaTo (rotP a) (k + 1) = areaTo (rotP a) k + ((sd (rotP a) k).a.x * (sd (rotP a) k).b.y - (sd (rotP a) k).a.y * (sd (rotP a) k).b.x) := rfl
  have e2 : areaTo a (k + 1 + 1) = areaTo a (k + 1) + ((sd a (k + 1)).a.x * (sd a (k + 1)).b.y - (sd a (k + 1)).a.y * (sd a (k + 1)).b.x) := rfl
  rw [e, e2, sd_rot hk]
  omega
theorem area_rot {a : List Pt} (h0 : 0 < a.length) : areaP (rotP a) = areaP a := by
 unfold areaP
 rw [rot_len]
 obtain ⟨n, hn⟩ : ∃ n, a.length = n + 1 := ⟨a.length - 1, by omega⟩
 have ih := areaTo_rot (a := a) n (by omega)
 have e : areaTo (rotP a) (n + 1) = areaTo (rotP a) n + ((sd (rotP a) n).a.x * (sd (rotP a) n).b.y - (sd (rotP a) n).a.y * (sd (rotP a) n).b.x) := rfl
 have e1 : areaTo a 1 = 0 + ((sd a 0).a.x * (sd a 0).b.y - (sd a 0).a.y * (sd a 0).b.x) := rfl
 rw [hn, e, sd_rot_last hn.symm]
 omega
theorem polyE_rot {a : List Pt} (h : polyE a = 0) : polyE (rotP a) = 0 ∧ areaP (rotP a) = areaP a := by
 obtain ⟨hP, hp, har⟩ := polyE_poly h
 have h3 := hP.three
 have e := area_rot (a := a) (by omega)
 refine ⟨polyE_of ⟨by rw [rot_len]; exact h3, (rot_perm a).nodup_iff.2 hP.nd, ?_⟩ (by rw [rot_len]; exact polyE_le h) (fun p hm => hp p ((rot_perm a).mem_iff.1 hm)) (by rw [e]; exact har), e⟩
 refine simple_of (fun i hi => ?_) (fun i k hi hk => ?_)
 ·rw [rot_len] at hi; exact back_rot hP hi
 ·rw [rot_len] at hi hk; exact bad_rot hP hi hk
theorem rp_mv (t q : Pt) : rp (mvPt t q) = Geo.mvR (t.x : Rat) (t.y : Rat) (rp q) := by
 unfold rp mvPt Geo.mvR
 dsimp only
 rw [Rat.intCast_add, Rat.intCast_add]
theorem ring_mov (t : Pt) {a : List Pt} (h0 : 0 < a.length) : ring (movP t a) = Geo.mvP (t.x : Rat) (t.y : Rat) (ring a) := by
 funext i
 unfold ring Geo.mvP
 rw [cor_mov t h0, rp_mv]
theorem ring_rot {a : List Pt} (h0 : 0 < a.length) : ring (rotP a) = Geo.shiftP (ring a) 1 := by
 funext i
 unfold ring Geo.shiftP
 rw [cor_rot h0]
theorem moved_same {a b : List Pt} (t : Pt) (ha : polyE a = 0) (hb : polyE b = 0) (hc : ∀ p ∈ movP t (rotP a), ptErr p = 0) (hd : ∀ p ∈ movP t b, ptErr p = 0) :
  polyE (movP t (rotP a)) = 0 ∧ polyE (movP t b) = 0 ∧ areaP (movP t (rotP a)) = areaP a ∧ overlapP (movP t (rotP a)) (movP t b) = overlapP a b ∧ withinP (movP t (rotP a)) (movP t b) = withinP a b := by
 obtain ⟨r1, r2⟩ := polyE_rot ha
 obtain ⟨c1, c2⟩ := polyE_mov t r1 hc
 obtain ⟨d1, _⟩ := polyE_mov t hb hd
 have ha0 : 0 < a.length := by have := (polyE_poly ha).1.three; omega
 have hb0 : 0 < b.length := by have := (polyE_poly hb).1.three; omega
 have hP := (polyE_pos ha).1
 have e1 : ring (movP t (rotP a)) = Geo.mvP (t.x : Rat) (t.y : Rat) (Geo.shiftP (ring a) 1) := by
  rw [ring_mov t (by rw [rot_len]; exact ha0), ring_rot ha0]
 refine ⟨c1, d1, by rw [c2, r2], ?_, ?_⟩
 ·rw [Bool.eq_iff_iff, overlap_over c1 d1, overlap_over ha hb, mov_len, mov_len, rot_len, e1, ring_mov t hb0, Geo.over_mv hP]
 ·rw [Bool.eq_iff_iff, within_in c1 d1, within_in ha hb, mov_len, mov_len, rot_len, e1, ring_mov t hb0, Geo.within_mv hP]
theorem self_same {a : List Pt} (ha : polyE a = 0) : withinP a a = true ∧ overlapP a a = true := by
 refine ⟨(within_in ha ha).2 fun q h => h, (overlap_over ha ha).2 ?_⟩
 have hP := (polyE_pos ha).1
 have h3 := hP.sim.three
 obtain ⟨q, _, hq⟩ := hP.border_in (i := 0) (by omega) (l := 0) (by grind) (by grind) (e := 1) (by grind)
 exact ⟨q, hq, hq⟩
end Cal
end Go.Proofs.Ytfcjeejhdklkdaa
namespace Go.Proofs.Ytfcjeejhdklkdaa
open Go Go.RowKit Go.Shelf
theorem rot_take {a : List Pt} {k : Nat} (h : k < a.length) (t : Pt) : Cal.movP t ((Cal.rotP a).take (k + 1)) = Cal.movP t ((Cal.rotP a).take k) ++ [Cal.mvPt t (Cal.cor a (k + 1))] := by
 have hk : k < (Cal.rotP a).length := by rw [Cal.rot_len]; exact h
 rw [List.take_succ_eq_append_getElem hk]
 unfold Cal.movP
 rw [List.map_append]
 congr 1
 simp [Cal.rotP]
theorem mov_take {b : List Pt} {k : Nat} (h : k < b.length) (t : Pt) : Cal.movP t (b.take (k + 1)) = Cal.movP t (b.take k) ++ [Cal.mvPt t b[k]] := by
 rw [List.take_succ_eq_append_getElem h]
 unfold Cal.movP
 rw [List.map_append]; rfl
theorem inPl_box {t : Pt} (h : inPl t = true) : -100000 ≤ t.x ∧ t.x ≤ 100000 ∧ -100000 ≤ t.y ∧ t.y ≤ 100000 := by
 unfold inPl inR at h
 simp only [Bool.and_eq_true, decide_eq_true_eq] at h
 omega
theorem GroundMoved_any (V : Option Addr) (d : Nat) (a : List Pt) (V2 : Option Addr) (d2 : Nat) (c : List Pt) (t : Pt) (w : World) (hR : RowsAt w V 2 (a.map ptR)) (hR2 : RowsAt w V2 2 (c.map ptR)) :
  Calls Try.prog 10 #[.slice V a.length d, .slice V2 c.length d2, .agg #[.int .i64 t.x, .int .i64 t.y]] w fun e w' => e = .returned (.bool true) ∧ Below w.heap.size w w' := by
 have hB := Lib.hid (BoxAt.new w #[.int .i64 t.x, .int .i64 t.y] 75)
 have hb := Lib.hid (below_alloc w (.cells #[.int .i64 t.x, .int .i64 t.y] 75))
 have t0 := hB.out.c 0 _ rfl
 have t1 := hB.out.c 1 _ rfl
 by_cases hl1 : 10 < a.length
 ·have hl1' : 10 < (a.length : Int) := by omega
  clear hR hR2
  go_enter Try.func10, Try.ntmps10
  go_wp2_with (go_at_call 20; refine (lawAwake_any _).mono ?_; rintro e w1 ⟨rfl, hbn⟩; replace hB := Lib.hid (hB.out.below hbn); replace hb := Lib.hid (below_step hb.out hbn); clear hbn t0 t1; have t0 := hB.out.c 0 _ rfl; have t1 := hB.out.c 1 _ rfl)
  go_ret
  exact ⟨rfl, hb.out⟩
 have hl1' : ¬ 10 < (a.length : Int) := by omega
 by_cases hl2 : 10 < c.length
 ·have hl2' : 10 < (c.length : Int) := by omega
  clear hR hR2
  go_enter Try.func10, Try.ntmps10
  go_wp2_with (go_at_call 20; refine (lawAwake_any _).mono ?_; rintro e w1 ⟨rfl, hbn⟩; replace hB := Lib.hid (hB.out.below hbn); replace hb := Lib.hid (below_step hb.out hbn); clear hbn t0 t1; have t0 := hB.out.c 0 _ rfl; have t1 := hB.out.c 1 _ rfl)
  go_ret
  exact ⟨rfl, hb.out⟩
 have hl2' : ¬ 10 < (c.length : Int) := by omega
 obtain ⟨ip, hip⟩ : ∃ ip, inPl t = ip := ⟨_, rfl⟩
 replace hip := Lib.hid hip
 cases ip
 ·clear hR hR2
  go_enter Try.func10, Try.ntmps10
  go_wp2_with (first | (go_at_call 20; refine (lawAwake_any _).mono ?_; rintro e w1 ⟨rfl, hbn⟩; replace hB := Lib.hid (hB.out.below hbn); replace hb := Lib.hid (below_step hb.out hbn); clear hbn t0 t1; have t0 := hB.out.c 0 _ rfl; have t1 := hB.out.c 1 _ rfl) | (go_at_call 42; refine (InPlaceR_any t _).mono ?_; rintro e w2 ⟨rfl, hbn⟩; rw [hip.out]; replace hB := Lib.hid (hB.out.below hbn); replace hb := Lib.hid (below_step hb.out hbn); clear hbn t0 t1; have t0 := hB.out.c 0 _ rfl; have t1 := hB.out.c 1 _ rfl))
  go_ret
  exact ⟨rfl, hb.out⟩
 have hA := ptsR_of hR (by omega)
 have hC := ptsR_of hR2 (by omega)
 have htw := Lib.hid (fun W (hb : Below w.heap.size w W) => two_any V V2 d d2 a c W (hA.below hb) (hC.below hb))
 by_cases h0 : brdE a c = 0
 rotate_left
 ·have hb1' : (brdE a c == 0) = false := by simpa using h0
  have hb2' : (brdE a c != 0) = true := by simpa using h0
  clear hA hC hR hR2
  generalize brdE a c = E at *
  go_enter Try.func10, Try.ntmps10
  go_wp2_with (first | (go_at_call 20; refine (lawAwake_any _).mono ?_; rintro e w1 ⟨rfl, hbn⟩; replace hB := Lib.hid (hB.out.below hbn); replace hb := Lib.hid (below_step hb.out hbn); clear hbn t0 t1; have t0 := hB.out.c 0 _ rfl; have t1 := hB.out.c 1 _ rfl) | (go_at_call 42; refine (InPlaceR_any t _).mono ?_; rintro e w2 ⟨rfl, hbn⟩; rw [hip.out]; replace hB := Lib.hid (hB.out.below hbn); replace hb := Lib.hid (below_step hb.out hbn); clear hbn t0 t1; have t0 := hB.out.c 0 _ rfl; have t1 := hB.out.c 1 _ rfl) | (go_at_call 28; refine (htw.out _ hb.out).mono ?_; clear htw; rintro e w3 ⟨rfl, hbn⟩; replace hB := Lib.hid (hB.out.below hbn); replace hb := Lib.hid (below_step hb.out hbn); clear hbn t0 t1; have t0 := hB.out.c 0 _ rfl; have t1 := hB.out.c 1 _ rfl))
  go_ret
  exact ⟨rfl, hb.out⟩
 have hp := brdE_eq a c
 rw [h0] at hp htw
 have ha : Cal.polyE a = 0 := by
  split at hp
  ·assumption
  ·rename_i h; exact absurd hp.symm h
 have hc : Cal.polyE c = 0 := by rw [if_pos ha] at hp; exact hp.symm
 have ht := inPl_box hip.out
 have hsa := Lib.hid (hA.plg ha (by omega)).v.pts.sm
 have hsc := Lib.hid (hC.plg hc (by omega)).v.pts.sm
 have h3a := (Cal.polyE_poly ha).1.three
 replace ha := Lib.hid ha
 replace hc := Lib.hid hc
 replace hA := Lib.hid hA
 replace hC := Lib.hid hC
 clear hp h0 hR hR2
 go_enter Try.func10, Try.ntmps10
 go_wp2_with (first | (go_at_call 20; refine (lawAwake_any _).mono ?_; rintro e w1 ⟨rfl, hbn⟩; replace hB := Lib.hid (hB.out.below hbn); replace hb := Lib.hid (below_step hb.out hbn); clear hbn t0 t1; have t0 := hB.out.c 0 _ rfl; have t1 := hB.out.c 1 _ rfl) | (go_at_call 42; refine (InPlaceR_any t _).mono ?_; rintro e w2 ⟨rfl, hbn⟩; rw [hip.out]; replace hB := Lib.hid (hB.out.below hbn); replace hb := Lib.hid (below_step hb.out hbn); clear hbn t0 t1; have t0 := hB.out.c 0 _ rfl; have t1 := hB.out.c 1 _ rfl) | (go_at_call 28; refine (htw.out _ hb.out).mono ?_; clear htw; rintro e w3 ⟨rfl, hbn⟩; replace hB := Lib.hid (hB.out.below hbn); replace hb := Lib.hid (below_step hb.out hbn); clear hbn t0 t1; have t0 := hB.out.c 0 _ rfl; have t1 := hB.out.c 1 _ rfl))
 clear t0 t1
 have hb0 : Hid (Below w3.heap.size w3 w3) := Below.refl _ _
 have hO0 : Hid (OwnL w3 w3.heap.size 75 2 (.slice none 0 0) ((Cal.movP t ((Cal.rotP a).take 0)).map ptR)) := OwnL.nil _ _ _ _
 go_loopw [7, 9] (fun cv iv wr => ∃ (k : Nat) (v : Value), k ≤ a.length ∧ iv = .int .i64 k ∧ cv = v ∧ Hid (OwnL wr w3.heap.size 75 2 v ((Cal.movP t ((Cal.rotP a).take k)).map ptR)) ∧ Hid (Below w3.heap.size w3 wr)) (fun _ iv _ => a.length - (intOf iv).toNat)
 case atStart => exact ⟨0, _, Nat.zero_le _, rfl, rfl, hO0, hb0⟩
 case round =>
  clear hb0 hO0
  obtain ⟨k, v, hk, rfl, rfl, hO, hbw⟩ := hrel
  have hbz := Lib.hid (hb.out.trans (hbw.out.mono hb.out.size))
  by_cases hlt : k < a.length
  ·have hqlt : (k + 1) % a.length < a.length := Nat.mod_lt _ (by omega)
   obtain ⟨bA, oA, rfl, _, e0, e1⟩ := pts_at (hA.out.below hbz.out).rows (List.getElem?_eq_getElem hqlt)
   have hcor : Cal.cor a (k + 1) = a[(k + 1) % a.length] := by unfold Cal.cor; rw [List.getElem?_eq_getElem hqlt]; rfl
   have hqs : SmP a[(k + 1) % a.length] := hsa.out _ (List.getElem_mem hqlt)
   have hst := rot_take hlt t
   rw [hcor] at hst
   have hn1 : Hid (((Cal.movP t ((Cal.rotP a).take k)).map ptR).length ≤ 1000000) := by show _ ≤ _; rw [List.length_map, Cal.mov_len, List.length_take]; omega
   have hk1 : IntKind.i64.wrap ((k : Int) + 1) = (k : Int) + 1 := wrap_small (by omega) (by omega)
   have hk1b : wrap64 ((k : Int) + 1) = (k : Int) + 1 := by rw [← wrap_eq]; exact hk1
   have hq1 : ((k : Int) + 1).tmod (a.length : Int) = (((k + 1) % a.length : Nat) : Int) := rfl
   have hq2 : IntKind.i64.wrap ((((k + 1) % a.length : Nat)) : Int) = (((k + 1) % a.length : Nat) : Int) := wrap_small (by omega) (by omega)
   have hki : (k : Int) < (a.length : Int) := by omega
   have hqi : (((k + 1) % a.length : Nat) : Int) < (a.length : Int) := by omega
   have hne : ¬ a.length = 0 := by omega
   clear hcor
   generalize a[(k + 1) % a.length] = q at *
   generalize (k + 1) % a.length = j at *
   obtain ⟨x0, x1, x2, x3⟩ := hqs
   have hx1 : IntKind.i64.wrap (q.x + t.x) = q.x + t.x := wrap_small (by omega) (by omega)
   have hx1b : wrap64 (q.x + t.x) = q.x + t.x := by rw [← wrap_eq]; exact hx1
   have hy1 : IntKind.i64.wrap (q.y + t.y) = q.y + t.y := wrap_small (by omega) (by omega)
   have hy1b : wrap64 (q.y + t.y) = q.y + t.y := by rw [← wrap_eq]; exact hy1
   have hBq := BoxAt.new wr #[.int .i64 q.x, .int .i64 q.y] 75
   have q0 := hBq.c 0 _ rfl
   have q1 := hBq.c 1 _ rfl
   have hBt := (hB.out.below hbw.out).alloc (.cells #[.int .i64 q.x, .int .i64 q.y] 75)
   have t0 := hBt.c 0 _ rfl
   have t1 := hBt.c 1 _ rfl
   have hst2 := Lib.hid hst
   have hO1 := Lib.hid (OwnL.below hO.out (below_alloc wr (.cells #[.int .i64 q.x, .int .i64 q.y] 75)))
   have hb1 := Lib.hid (hbw.out.alloc hbw.out.size (.cells #[.int .i64 q.x, .int .i64 q.y] 75))
   clear hBq hBt hst x0 x1 x2 x3 hO
   go_wp2_with (at_builtin; refine wpPushP (Cal.mvPt t q) hO1.out hb1.out.size hn1.out rfl _ _ rfl rfl rfl (by simp) ?_; intro v6 w6 hown6 hb6 _; have hO6 : Hid (OwnL w6 w3.heap.size 75 2 v6 ((Cal.movP t ((Cal.rotP a).take (k + 1))).map ptR)) := by { show OwnL _ _ _ _ _ _; rw [hst2.out, List.map_append]; exact hown6 }; have hbw6 := Lib.hid (hb1.out.trans hb6); clear hown6 hb6)
   go_roundw
   case rel => exact ⟨k + 1, v6, by omega, by go_num, rfl, hO6, hbw6⟩
   case measure => simp [intOf]; omega
  ·obtain rfl : k = a.length := by omega
   rw [List.take_of_length_le (by rw [Cal.rot_len]; exact Nat.le_refl _)] at hO
   obtain ⟨CC, hCC⟩ : ∃ CC, Cal.movP t (Cal.rotP a) = CC := ⟨_, rfl⟩
   rw [hCC] at hO
   have hCl : CC.length ≤ 10 := by rw [← hCC, Cal.mov_len, Cal.rot_len]; omega
   replace hCC := Lib.hid hCC
   obtain ⟨A7, c7, e7, hr7⟩ := OwnL.form hO.out
   rw [List.length_map] at e7
   subst e7
   have hD := Lib.hid (PtsR.mk hr7 (by omega) (fun ad e _ => (OwnL.blk hO.out ad e).2))
   have hBw := Lib.hid (hB.out.below hbw.out)
   clear hB hO hb hbw hr7
   generalize hwo : wr = w4 at *
   clear hwo wr
   have hb0 : Hid (Below w4.heap.size w4 w4) := Below.refl _ _
   have hO0 : Hid (OwnL w4 w4.heap.size 75 2 (.slice none 0 0) ((Cal.movP t (c.take 0)).map ptR)) := OwnL.nil _ _ _ _
   go_wp2_with fail
   go_loopw [8, 11] (fun cv iv wr => ∃ (k : Nat) (v : Value), k ≤ c.length ∧ iv = .int .i64 k ∧ cv = v ∧ Hid (OwnL wr w4.heap.size 75 2 v ((Cal.movP t (c.take k)).map ptR)) ∧ Hid (Below w4.heap.size w4 wr)) (fun _ iv _ => c.length - (intOf iv).toNat)
   case atStart => exact ⟨0, _, Nat.zero_le _, rfl, rfl, hO0, hb0⟩
   case round =>
    clear hb0 hO0
    obtain ⟨k, v, hk, rfl, rfl, hO, hbw⟩ := hrel
    by_cases hlt : k < c.length
    ·obtain ⟨bA, oA, rfl, hbA, e0, e1⟩ := pts_at (hC.out.below hbz.out).rows (List.getElem?_eq_getElem hlt)
     replace e0 := (hbw.out.cell (p := ⟨bA, oA + k * 2, none⟩) hbA).trans e0
     replace e1 := (hbw.out.cell (p := ⟨bA, oA + k * 2 + 1, none⟩) hbA).trans e1
     have hqs : SmP c[k] := hsc.out _ (List.getElem_mem hlt)
     have hst := Lib.hid (mov_take hlt t)
     have hn1 : Hid (((Cal.movP t (c.take k)).map ptR).length + 1 ≤ 4000000000) := by show _ ≤ _; rw [List.length_map, Cal.mov_len, List.length_take]; omega
     have hki : (k : Int) < (c.length : Int) := by omega
     generalize c[k] = q at *
     obtain ⟨x0, x1, x2, x3⟩ := hqs
     have hx1 : IntKind.i64.wrap (q.x + t.x) = q.x + t.x := wrap_small (by omega) (by omega)
     have hx1b : wrap64 (q.x + t.x) = q.x + t.x := by rw [← wrap_eq]; exact hx1
     have hy1 : IntKind.i64.wrap (q.y + t.y) = q.y + t.y := wrap_small (by omega) (by omega)
     have hy1b : wrap64 (q.y + t.y) = q.y + t.y := by rw [← wrap_eq]; exact hy1
     have hBt := hBw.out.below hbw.out
     have hBl := hBw.out.lt
     have t0 := hBt.c 0 _ rfl
     have t1 := hBt.c 1 _ rfl
     have hOd := Lib.hid (OwnL.below hO.out (Below.refl _ _).drew)
     clear hBt x0 x1 x2 x3
     go_wp2_with fail
     refine wp_region_held_drew (S := Sx w4 [(bA, oA + k * 2, .int .i64 q.x), (bA, oA + k * 2 + 1, .int .i64 q.y), (w.heap.size, 0, .int .i64 t.x), (w.heap.size, 1, .int .i64 t.y)]) (by kernel_rfl) (Sx.mk (by simp only [cs_iff_cons]; exact ⟨e0, e1, t0, t1, cs_nil _⟩) hbw.out).drew (fun hHeld => ?_)
     clear e0 e1 t0 t1 hO hbw
     generalize wr.drew = Y at *
     (refine wpAnyH_hide (fun _ _ _ _ _ h => h) (fun Q0 hp0 hQ0 => ?_))
     refine tkQx 0 85 hp0 ?_
     refine tkQx 1 86 hp0 ?_
     refine tkQx 2 87 hp0 ?_
     refine tkQx 3 88 hp0 ?_
     refine tkQx 4 89 hp0 ?_
     refine tkQx 5 90 hp0 ?_
     refine tkQx 6 91 hp0 ?_
     refine tkQx 7 92 hp0 ?_
     refine tkQx 8 93 hp0 ?_
     refine tkQx 9 94 hp0 ?_
     refine tkQx 10 95 hp0 ?_
     refine tkQx 11 96 hp0 ?_
     refine tkQx 12 97 hp0 ?_
     refine tkQx 13 98 hp0 ?_
     refine tkQx 14 99 hp0 ?_
     refine tkQx 15 100 hp0 ?_
     refine tkQx 16 101 hp0 ?_
     refine tkQx 17 102 hp0 ?_
     (refine ratHx 18 (fun K hK => ?_); go_simp)
     refine hK.out _ _ (hHeld.alloc _) (fun hHeld => ?_)
     clear hK K
     (try simp only [apS, apN, siA, scZ, scS])
     (refine wpAnyH_ready (rs := [19]) (by decide +kernel) (by simp) ?_; refine AllReadyH.cons rfl (fun K hK => ?_) AllReadyH.nil)
     refine step_append_rows elemPtW (by rfl) (.tmp 85) (.tmp 103) (by rfl) (by rfl) (by rfl) (OwnL.below hOd.out (below_alloc _ _)) (rowsAt_new _ (ptR (Cal.mvPt t q)) _) rfl (ptRows_wid [Cal.mvPt t q]) (ptRows_one [Cal.mvPt t q]) (by rw [List.length_singleton]; exact hn1.out) (by decide) hHeld.bel.size ?_
     intro v8 w8 hown8 hg8 _
     have hO8 : Hid (OwnL w8 w4.heap.size 75 2 v8 ((Cal.movP t (c.take (k + 1))).map ptR)) := by
      show OwnL _ _ _ _ _ _
      rw [hst.out, List.map_append]; exact hown8
     have hsz := hHeld.bel.size
     refine hK.out _ _ (hHeld.grow hg8 (fun g e => (OwnL.lt hOd.out g e).1) (fun z hz => by
      have hzb : z.1 < w4.heap.size := by
       simp only [List.mem_cons, List.not_mem_nil, or_false] at hz
       rcases hz with rfl | rfl | rfl | rfl
       ·exact hbA
       ·exact hbA
       ·exact hBl
       ·exact hBl
      exact ⟨fun e => absurd (OwnL.lt hOd.out _ e).1 (Nat.not_le_of_lt hzb), Nat.lt_of_lt_of_le hzb hsz⟩)) (fun hHeld => ?_)
     clear hK K hown8 hg8 hOd hsz
     (try simp only [apS, apN, siA, scZ, scS])
     refine tkQx 20 8 hp0 ?_
     refine wpAnyH_done (by kernel_rfl) ?_ _
     (try simp only [apS, apN, siA, scZ, scS])
     (obtain rfl := hQ0.out; clear hp0)
     have hb8 := Lib.hid hHeld.bel
     clear hHeld
     go_wp2_with fail
     go_roundw
     case rel => exact ⟨k + 1, v8, by omega, by go_num, rfl, hO8, hb8⟩
     case measure => simp [intOf]; omega
    ·obtain rfl : k = c.length := by omega
     rw [List.take_length] at hO
     obtain ⟨DD, hDD⟩ : ∃ DD, Cal.movP t c = DD := ⟨_, rfl⟩
     rw [hDD] at hO
     have hDl : DD.length ≤ 10 := by rw [← hDD, Cal.mov_len]; omega
     replace hDD := Lib.hid hDD
     obtain ⟨A8, c8, e8, hr8⟩ := OwnL.form hO.out
     rw [List.length_map] at e8
     subst e8
     have hE := Lib.hid (PtsR.mk hr8 (by omega) (fun ad e _ => (OwnL.blk hO.out ad e).2))
     replace hD := Lib.hid (hD.out.below hbw.out)
     have hbx := Lib.hid (hbz.out.trans (hbw.out.mono hbz.out.size))
     clear hBw hO hbw hr8 hbz
     generalize hwo : wr = w5 at *
     clear hwo wr
     have hb0 : Hid (Below w5.heap.size w5 w5) := Below.refl _ _
     go_wp2_with fail
     go_loopw [12] (fun iv wr => ∃ k : Nat, k ≤ CC.length ∧ iv = .int .i64 k ∧ Hid (∀ j (hj : j < CC.length), j < k → Cal.ptErr CC[j] = 0) ∧ Hid (Below w5.heap.size w5 wr)) (fun iv _ => CC.length - (intOf iv).toNat)
     case atStart => exact ⟨0, Nat.zero_le _, rfl, fun j _ h => by omega, hb0⟩
     case round =>
      clear hb0
      obtain ⟨k, hk, rfl, hall, hbw⟩ := hrel
      by_cases hlt : k < CC.length
      ·obtain ⟨bA, oA, hAA, _, e0, e1⟩ := pts_at (hD.out.below hbw.out).rows (List.getElem?_eq_getElem hlt)
       subst hAA
       have hki : (k : Int) < (CC.length : Int) := by omega
       have hin := Lib.hid (fun W => InPlaceR_any CC[k] W)
       cases hi : inPl CC[k]
       ·rw [hi] at hin
        clear hi hall
        generalize CC[k] = q at *
        go_wp2_with (go_at_call 42; refine (hin.out _).mono ?_; rintro e w6 ⟨rfl, hb6⟩; have hbe := Lib.hid (below_step (hbx.out.trans (hbw.out.mono hbx.out.size)) hb6))
        go_ret
        exact ⟨rfl, hbe.out⟩
       ·rw [hi] at hin
        have hall2 : Hid (∀ j (hj : j < CC.length), j < k + 1 → Cal.ptErr CC[j] = 0) := fun j hj h => by
         rcases Nat.lt_succ_iff_lt_or_eq.1 h with h' | h'
         ·exact hall.out j hj h'
         ·subst h'; exact (inPl_err _).1 hi
        clear hi hall
        generalize CC[k] = q at *
        go_wp2_with (go_at_call 42; refine (hin.out _).mono ?_; rintro e w6 ⟨rfl, hb6⟩; have hbe := Lib.hid (hbw.out.trans (hb6.mono hbw.out.size)))
        go_roundw
        case rel => exact ⟨k + 1, by omega, by go_num, hall2, hbe⟩
        case measure => simp [intOf]; omega
      ·obtain rfl : k = CC.length := by omega
       have hcin : Hid (∀ p ∈ CC, Cal.ptErr p = 0) := fun p hp => by
        obtain ⟨j, hj, rfl⟩ := List.getElem_of_mem hp
        exact hall.out j hj hj
       replace hD := Lib.hid (hD.out.below hbw.out)
       replace hE := Lib.hid (hE.out.below hbw.out)
       replace hbx := Lib.hid (hbx.out.trans (hbw.out.mono hbx.out.size))
       clear hall hbw
       generalize hwo : wr = w6 at *
       clear hwo wr
       have hb0 : Hid (Below w6.heap.size w6 w6) := Below.refl _ _
       go_wp2_with fail
       go_loopw [13] (fun iv wr => ∃ k : Nat, k ≤ DD.length ∧ iv = .int .i64 k ∧ Hid (∀ j (hj : j < DD.length), j < k → Cal.ptErr DD[j] = 0) ∧ Hid (Below w6.heap.size w6 wr)) (fun iv _ => DD.length - (intOf iv).toNat)
       case atStart => exact ⟨0, Nat.zero_le _, rfl, fun j _ h => by omega, hb0⟩
       case round =>
        clear hb0
        obtain ⟨k, hk, rfl, hall, hbw⟩ := hrel
        by_cases hlt : k < DD.length
        ·obtain ⟨bA, oA, hAA, _, e0, e1⟩ := pts_at (hE.out.below hbw.out).rows (List.getElem?_eq_getElem hlt)
         subst hAA
         have hki : (k : Int) < (DD.length : Int) := by omega
         have hin := Lib.hid (fun W => InPlaceR_any DD[k] W)
         cases hi : inPl DD[k]
         ·rw [hi] at hin
          clear hi hall
          generalize DD[k] = q at *
          go_wp2_with (go_at_call 42; refine (hin.out _).mono ?_; rintro e w7 ⟨rfl, hb7⟩; have hbe := Lib.hid (below_step (hbx.out.trans (hbw.out.mono hbx.out.size)) hb7))
          go_ret
          exact ⟨rfl, hbe.out⟩
         ·rw [hi] at hin
          have hall2 : Hid (∀ j (hj : j < DD.length), j < k + 1 → Cal.ptErr DD[j] = 0) := fun j hj h => by
           rcases Nat.lt_succ_iff_lt_or_eq.1 h with h' | h'
           ·exact hall.out j hj h'
           ·subst h'; exact (inPl_err _).1 hi
          clear hi hall
          generalize DD[k] = q at *
          go_wp2_with (go_at_call 42; refine (hin.out _).mono ?_; rintro e w7 ⟨rfl, hb7⟩; have hbe := Lib.hid (hbw.out.trans (hb7.mono hbw.out.size)))
          go_roundw
          case rel => exact ⟨k + 1, by omega, by go_num, hall2, hbe⟩
          case measure => simp [intOf]; omega
        ·obtain rfl : k = DD.length := by omega
         have hdin : ∀ p ∈ DD, Cal.ptErr p = 0 := fun p hp => by
          obtain ⟨j, hj, rfl⟩ := List.getElem_of_mem hp
          exact hall.out j hj hj
         obtain ⟨m1, m2, m3, m4, m5⟩ := Cal.moved_same t ha.out hc.out (by rw [hCC.out]; exact hcin.out) (by rw [hDD.out]; exact hdin)
         rw [hCC.out] at m1 m3
         rw [hDD.out] at m2
         rw [hCC.out, hDD.out] at m4 m5
         obtain ⟨s1, s2⟩ := Cal.self_same ha.out
         replace hD := Lib.hid (hD.out.below hbw.out)
         replace hE := Lib.hid (hE.out.below hbw.out)
         replace hbx := Lib.hid (hbx.out.trans (hbw.out.mono hbx.out.size))
         have gA := Lib.hid (hA.out.below hbx.out)
         have gC := Lib.hid (hC.out.below hbx.out)
         have z1 : brdE a c = 0 := by rw [brdE_eq, if_pos ha.out, hc.out]
         have z2 : brdE CC DD = 0 := by rw [brdE_eq, if_pos m1, m2]
         have z3 : brdE a a = 0 := by rw [brdE_eq, if_pos ha.out, ha.out]
         have f1 := Lib.hid (fun W (hb : Below wr.heap.size wr W) => Area_any V d a W (gA.out.below hb))
         have f2 := Lib.hid (fun W (hb : Below wr.heap.size wr W) => Area_any A7 c7 CC W (hD.out.below hb))
         have f3 := Lib.hid (fun W (hb : Below wr.heap.size wr W) => OverlapX_any V V2 d d2 a c W (gA.out.below hb) (gC.out.below hb) (fun _ => by omega) (fun _ => by omega))
         have f4 := Lib.hid (fun W (hb : Below wr.heap.size wr W) => OverlapX_any A7 A8 c7 c8 CC DD W (hD.out.below hb) (hE.out.below hb) (fun _ => hCl) (fun _ => hDl))
         have f5 := Lib.hid (fun W (hb : Below wr.heap.size wr W) => WithinX_any V V2 d d2 a c W (gA.out.below hb) (gC.out.below hb) (fun _ => by omega) (fun _ => by omega))
         have f6 := Lib.hid (fun W (hb : Below wr.heap.size wr W) => WithinX_any A7 A8 c7 c8 CC DD W (hD.out.below hb) (hE.out.below hb) (fun _ => hCl) (fun _ => hDl))
         have f7 := Lib.hid (fun W (hb : Below wr.heap.size wr W) => WithinX_any V V d d a a W (gA.out.below hb) (gA.out.below hb) (fun _ => by omega) (fun _ => by omega))
         have f8 := Lib.hid (fun W (hb : Below wr.heap.size wr W) => OverlapX_any V V d d a a W (gA.out.below hb) (gA.out.below hb) (fun _ => by omega) (fun _ => by omega))
         rw [ha.out, if_pos rfl] at f1
         rw [m1, if_pos rfl, m3] at f2
         rw [z1, if_pos rfl] at f3 f5
         rw [z2, if_pos rfl] at f4 f6
         rw [z3, if_pos rfl] at f7 f8
         rw [m4] at f4
         rw [m5] at f6
         rw [s1] at f7
         rw [s2] at f8
         have hb0 : Hid (Below wr.heap.size wr wr) := Below.refl _ _
         clear m1 m2 m3 m4 m5 s1 s2 z1 z2 z3 gA gC hD hE hA hC hall hbw hcin hdin hCC hDD hsa hsc ha hc ht hip
         generalize Cal.areaP a = M at *
         generalize Cal.overlapP a c = Z at *
         generalize Cal.withinP a c = U at *
         go_wp2_with (first
          |(go_at_call 41; refine (f1.out _ hb0.out).mono ?_; clear f1; rintro e v1 ⟨rfl, hbn⟩; have g1 := Lib.hid (below_step hb0.out hbn); clear hbn)
          |(go_at_call 41; refine (f2.out _ g1.out).mono ?_; clear f2; rintro e v2 ⟨rfl, hbn⟩; have g2 := Lib.hid (below_step g1.out hbn); clear hbn)
          |(go_at_call 32; refine (f3.out _ g2.out).mono ?_; clear f3; rintro e v3 ⟨rfl, hbn⟩; have g3 := Lib.hid (below_step g2.out hbn); clear hbn)
          |(go_at_call 32; refine (f4.out _ g3.out).mono ?_; clear f4; rintro e v4 ⟨rfl, hbn⟩; have g4 := Lib.hid (below_step g3.out hbn); clear hbn)
          |(go_at_call 33; refine (f5.out _ g4.out).mono ?_; clear f5; rintro e v5 ⟨rfl, hbn⟩; have g5 := Lib.hid (below_step g4.out hbn); clear hbn)
          |(go_at_call 33; refine (f6.out _ g5.out).mono ?_; clear f6; rintro e v6 ⟨rfl, hbn⟩; have g6 := Lib.hid (below_step g5.out hbn); clear hbn)
          |(go_at_call 33; refine (f7.out _ g6.out).mono ?_; clear f7; rintro e v7 ⟨rfl, hbn⟩; have g7 := Lib.hid (below_step g6.out hbn); clear hbn)
          |(go_at_call 32; refine (f8.out _ g7.out).mono ?_; clear f8; rintro e v8 ⟨rfl, hbn⟩; have g8 := Lib.hid (below_step g7.out hbn); clear hbn))
         go_ret
         exact ⟨by simp, hbx.out.trans (g8.out.mono hbx.out.size)⟩
end Go.Proofs.Ytfcjeejhdklkdaa
