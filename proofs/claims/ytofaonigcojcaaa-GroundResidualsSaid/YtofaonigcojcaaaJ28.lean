/- What the statements rest on: definitions and walks, part 28. -/
import Derived.Test.YtofaonigcojcaaaJ27
import Derived.Test.YtofaonigcojcaaaJ26
namespace Go.Proofs.Ytofaonigcojcaaa
open Go Go.RowKit Go.Shelf
set_option maxRecDepth 100000 in
set_option maxHeartbeats 4000000 in
theorem Residuals_any (N : Int) (A : Option Addr) (c : Nat) (l : List Lev) (B : Option Addr) (d : Nat) (fr : List (Int × Int)) (w : World) (hL : Levs w A l) (hF : RowsAt w B 2 (fr.map frR)) (hs : fr.length ≤ 1000000)
    (hv : ∀ h ∈ fr, (-9223372036854775808 ≤ h.1 ∧ h.1 ≤ 9223372036854775807) ∧ (-9223372036854775808 ≤ h.2 ∧ h.2 ≤ 9223372036854775807)) :
    Calls Try.prog 25 #[.int .i64 N, .slice A l.length c, .slice B fr.length d] w fun e w' => ∃ v, e = .returned (.tuple #[v, .int .i64 (Cal.resE N l fr)]) ∧ OwnL w' w.heap.size 59 2 v ((Cal.resFr N l fr).map frR) ∧ Below w.heap.size w w' := by
  have hres := Lib.hid (residuals_any N A c l B d fr w hL hF hs hv)
  by_cases he : Cal.resE N l fr = 0
  · have hz : Cal.netE N l = 0 := by
      unfold Cal.resE at he
      split at he
      · assumption
      · rename_i h; exact absurd he h
    have hse : Cal.sclE N fr = 0 := by
      unfold Cal.resE at he
      rw [if_pos hz] at he
      exact he
    have hP : Cal.resPN N l fr = Cal.sclP N fr := by unfold Cal.resPN; rw [if_pos hz]
    have hRL : Cal.resLN N l fr = Cal.resL (Cal.sclP N fr) fr l := by unfold Cal.resLN; rw [if_pos he]
    have hbox : Hid (∀ r ∈ Cal.resLN N l fr, -16400000000000000 ≤ r ∧ r ≤ 16400000000000000) := fun r hr => by
      rw [hRL] at hr
      unfold Cal.resL at hr
      obtain ⟨x, hx, rfl⟩ := List.mem_map.1 hr
      exact Cal.resV_box hz hse x hx
    obtain ⟨hq1, hq2, hp1, hp2, hq3⟩ := Cal.sclE_zero hse
    clear hq1 hq2 hq3
    have hrl : (Cal.resLN N l fr).length ≤ 20 := by rw [hRL]; unfold Cal.resL; rw [List.length_map]; exact (Cal.netE_zero hz).2.2.1
    have hFr : Hid (Cal.resFr N l fr = (Cal.resLN N l fr).map fun r => (Cal.lowN r (Cal.sclP N fr), Cal.lowD r (Cal.sclP N fr))) := by show _ = _; unfold Cal.resFr; rw [hP]
    rw [he]
    rw [he, hP] at hres
    rw [hFr.out]
    clear hz hse hP hRL he hFr
    generalize Cal.resLN N l fr = rs at *
    generalize Cal.sclP N fr = p at *
    go_enter Try.func25, Try.ntmps25
    go_wp2_with (go_at_call 68; refine hres.out.mono ?_; rintro e0 w2 ⟨vh, rfl, hH, hb2⟩; obtain ⟨A7, c7, rfl, hH7⟩ := hH.rows; replace hH7 := Lib.hid hH7; replace hb2 := Lib.hid hb2; clear hres hH)
    have hb2s := Lib.hid hb2.out.size
    have hO0 : Hid (OwnL w2 w2.heap.size 59 2 (.slice none 0 0) (((rs.take 0).map fun r => (Cal.lowN r p, Cal.lowD r p)).map frR)) := by show OwnL _ _ _ _ _ _; rw [List.take_zero]; exact OwnL.nil _ _ _ _
    have hbw : Hid (Below w2.heap.size w2 w2) := Below.refl _ _
    go_loopw [11, 27] (fun ov i wz => ∃ (k : Nat) (v : Value), k ≤ rs.length ∧ i = .int .i64 k ∧ ov = v ∧ Hid (OwnL wz w2.heap.size 59 2 v (((rs.take k).map fun r => (Cal.lowN r p, Cal.lowD r p)).map frR)) ∧ Hid (Below w2.heap.size w2 wz)) (fun _ i _ => rs.length - (intOf i).toNat)
    case atStart => exact ⟨0, _, Nat.zero_le _, rfl, rfl, hO0, hbw⟩
    case round =>
      clear hO0 hbw
      obtain ⟨k, v, hk, rfl, rfl, hO, hbw⟩ := hrel
      by_cases hlt : k < rs.length
      · have htk : Hid (((rs.take (k + 1)).map fun r => (Cal.lowN r p, Cal.lowD r p)).map frR = (((rs.take k).map fun r => (Cal.lowN r p, Cal.lowD r p)).map frR) ++ [[.int .i64 (Cal.lowN rs[k] p), .int .i64 (Cal.lowD rs[k] p)]]) := by show _ = _; rw [List.take_succ_eq_append_getElem hlt, List.map_append, List.map_append]; rfl
        have hol : (((rs.take k).map fun r => (Cal.lowN r p, Cal.lowD r p)).map frR).length ≤ 100 := by rw [List.length_map, List.length_map, List.length_take]; omega
        obtain ⟨rows, hrows⟩ : ∃ rows, ((rs.take k).map fun r => (Cal.lowN r p, Cal.lowD r p)).map frR = rows := ⟨_, rfl⟩
        rw [hrows] at hO htk hol
        have hbk := hbox.out _ (List.getElem_mem hlt)
        have hki : (k : Int) < (rs.length : Int) := by omega
        obtain ⟨b7, o7, rfl, hb7, g0⟩ := intsI_at (hH7.out.below hbw.out) hlt
        generalize rs[k] = r at *
        have hlow := Lib.hid (fun W => lowest_any r p W (by omega) (by omega) (by omega))
        have hws := Lib.hid hbw.out.size
        clear hrows hbk
        go_wp2_with (first
          | (go_at_call 63; refine (hlow.out _).mono ?_; rintro e0 x3 ⟨rfl, hbx3⟩; have hz3 := Lib.hid (hbw.out.trans (hbx3.mono hbw.out.size)); have hO3 := Lib.hid ((hO.out.below hbx3).below (below_alloc x3 (.cells #[.int .i64 (Cal.lowN r p), .int .i64 (Cal.lowD r p)] 59))); have hsrc := Lib.hid (rowsAt_new x3 [.int .i64 (Cal.lowN r p), .int .i64 (Cal.lowD r p)] 59); clear hbx3)
          | (at_builtin; go_must (refine wpList_append_rows elemFr rfl _ _ rfl rfl rfl hO3.out hsrc.out rfl (fun r hr => by rw [List.mem_singleton.1 hr]; rfl) (fun r hr u hu => by rw [List.mem_singleton.1 hr] at hu; rcases List.mem_cons.1 hu with e | hu; rw [e]; rfl; rw [List.mem_singleton.1 hu]; rfl) (by simp only [List.length_singleton]; omega) (by decide) (by have h2 := hz3.out.size; simp; omega) ?_); intro v' x4 hown7 hg7 hob7))
        have hO4 : Hid (OwnL x4 w2.heap.size 59 2 v' (((rs.take (k + 1)).map fun r => (Cal.lowN r p, Cal.lowD r p)).map frR)) := by show OwnL _ _ _ _ _ _; rw [htk.out]; exact hown7
        have hb4 : Hid (Below w2.heap.size w2 x4) := (below_step hz3.out (below_alloc x3 (.cells #[.int .i64 (Cal.lowN r p), .int .i64 (Cal.lowD r p)] 59))).trans (grown_below hg7 (fun g e => (OwnL.lt hO3.out g e).1) (by have h2 := hz3.out.size; simp; omega))
        clear hown7 hg7 hob7 hO3 hz3 hlow hsrc htk
        go_wp2_with fail
        go_roundw
        case rel => exact ⟨k + 1, _, by omega, by go_num, rfl, hO4, hb4⟩
        case measure => simp [intOf]; omega
      · obtain rfl : k = rs.length := by omega
        rw [List.take_length] at hO
        have hbz : Hid (Below w.heap.size w wr) := hb2.out.trans (hbw.out.mono hb2s.out)
        have hOz := Lib.hid (OwnL.less hO.out hb2s.out)
        clear hO hbw
        go_wp2_with fail
        go_ret2
        exact ⟨_, rfl, hOz.out, hbz.out⟩
  · have heb : (Cal.resE N l fr == 0) = false := by simpa using he
    have hec : (Cal.resE N l fr != 0) = true := by simpa using he
    have hLL : Cal.resFr N l fr = [] := by unfold Cal.resFr Cal.resLN; rw [if_neg he]; rfl
    rw [hLL]
    clear hLL
    go_enter Try.func25, Try.ntmps25
    go_wp2_with (go_at_call 68; refine hres.out.mono ?_; rintro e0 w2 ⟨vh, rfl, hH, hb2⟩; replace hb2 := Lib.hid hb2; clear hres hH)
    go_ret2
    exact ⟨_, rfl, OwnL.nil _ _ _ _, hb2.out⟩
end Go.Proofs.Ytofaonigcojcaaa
namespace Go.Proofs.Ytofaonigcojcaaa.Cal
theorem grad_append (all : Int) (x : Nat → Int) (p : Nat) (e : Edge) : ∀ l : List Edge, grad all x (l ++ [e]) p = grad all x l p + e.w * vOf all x e * (dl e.t p - dl e.f p)
  | [] => by simp [grad]
  | a :: l => by
    rw [List.cons_append]
    show a.w * vOf all x a * (dl a.t p - dl a.f p) + grad all x (l ++ [e]) p = a.w * vOf all x a * (dl a.t p - dl a.f p) + grad all x l p + _
    rw [grad_append all x p e l]; omega
/-- The sums of the first k differences. -/
def sumsK (p : Int) (fr : List (Int × Int)) (l : List Lev) (k : Nat) : Nat → Int := grad p (xs p fr) (edges (l.take k))
theorem sumsK_zero (p : Int) (fr : List (Int × Int)) (l : List Lev) : sumsK p fr l 0 = fun _ => 0 := rfl
theorem sumsK_succ {p : Int} {fr : List (Int × Int)} {l : List Lev} {k : Nat} (h : k < l.length) (hne : (edge l[k]).f ≠ (edge l[k]).t) :
    updR (updR (sumsK p fr l k) (edge l[k]).t (sumsK p fr l k (edge l[k]).t + l[k].w * resV p fr l[k])) (edge l[k]).f (sumsK p fr l k (edge l[k]).f - l[k].w * resV p fr l[k]) = sumsK p fr l (k + 1) := by
  have e : edges (l.take (k + 1)) = edges (l.take k) ++ [edge l[k]] := by
    unfold edges
    rw [List.take_succ_eq_append_getElem h, List.map_append]; rfl
  funext i
  show _ = grad p (xs p fr) (edges (l.take (k + 1))) i
  rw [e, grad_append, ← resV_vOf]
  show _ = sumsK p fr l k i + l[k].w * resV p fr l[k] * (dl (edge l[k]).t i - dl (edge l[k]).f i)
  generalize l[k].w * resV p fr l[k] = z
  generalize edge l[k] = ed at *
  unfold updR dl
  by_cases h1 : i = ed.f <;> by_cases h2 : i = ed.t <;> simp_all <;> omega
theorem sumsK_box {n : Int} {l : List Lev} {fr : List (Int × Int)} (hz : netE n l = 0) (he : sclE n fr = 0) : ∀ k, k ≤ l.length → ∀ i, -(164000000000000000 * (k : Int)) ≤ sumsK (sclP n fr) fr l k i ∧ sumsK (sclP n fr) fr l k i ≤ 164000000000000000 * (k : Int)
  | 0, _, i => by rw [sumsK_zero]; simp
  | k + 1, hk, i => by
    have ih := sumsK_box hz he k (by omega) i
    have hb := resV_box hz he _ (List.getElem_mem (show k < l.length by omega))
    have hl := levE_zero ((netE_zero hz).2.2.2.1 _ (List.getElem_mem (show k < l.length by omega)))
    have e : edges (l.take (k + 1)) = edges (l.take k) ++ [edge l[k]] := by
      unfold edges
      rw [List.take_succ_eq_append_getElem (by omega), List.map_append]; rfl
    have hs : sumsK (sclP n fr) fr l (k + 1) i = sumsK (sclP n fr) fr l k i + l[k].w * resV (sclP n fr) fr l[k] * (dl (edge l[k]).t i - dl (edge l[k]).f i) := by
      show grad _ _ (edges (l.take (k + 1))) i = _
      rw [e, grad_append, ← resV_vOf]; rfl
    have hm := mul_le_of (a := l[k].w) (b := resV (sclP n fr) fr l[k]) (M := 10) (N := 16400000000000000) (by omega) (by omega) hb.1 hb.2
    rw [hs]
    generalize l[k].w * resV (sclP n fr) fr l[k] = z at *
    have hd : dl (edge l[k]).t i - dl (edge l[k]).f i = 0 ∨ dl (edge l[k]).t i - dl (edge l[k]).f i = 1 ∨ dl (edge l[k]).t i - dl (edge l[k]).f i = -1 := by
      unfold dl; split <;> split <;> simp
    rw [show ((k + 1 : Nat) : Int) = (k : Int) + 1 by omega, Int.mul_add]
    rcases hd with h | h | h <;> rw [h] <;> omega
/-- The first point behind point 0 that is wrong. -/
def badAt (G : Nat → Int) : Nat → Nat → Option Nat
  | 0, _ => none
  | m + 1, p => if G p ≠ 0 then some p else badAt G m (p + 1)
def badP (n : Nat) (G : Nat → Int) : Option Nat := badAt G (n - 1) 1
/-- All sums. -/
def sumsAll (p : Int) (fr : List (Int × Int)) (l : List Lev) : Nat → Int := sumsK p fr l l.length
def num0 (fr : List (Int × Int)) : Int := (fr[0]?.getD (0, 1)).1
def chkE (n : Int) (l : List Lev) (fr : List (Int × Int)) : Int := if resE n l fr = 0 then (if num0 fr = 0 then (match badP n.toNat (sumsAll (sclP n fr) fr l) with | none => 0 | some _ => 26) else 26) else resE n l fr
def chkP (n : Int) (l : List Lev) (fr : List (Int × Int)) : Int := if resE n l fr = 0 then (if num0 fr = 0 then (match badP n.toNat (sumsAll (sclP n fr) fr l) with | none => 0 | some p => (p : Int)) else 0) else 0
theorem badAt_step (G : Nat → Int) (m p : Nat) : badAt G (m + 1) p = if G p ≠ 0 then some p else badAt G m (p + 1) := rfl
theorem sumsK_at {p : Int} {fr : List (Int × Int)} {l : List Lev} {k : Nat} (h : k < l.length) (i : Nat) : sumsK p fr l (k + 1) i = sumsK p fr l k i + l[k].w * resV p fr l[k] * (dl (edge l[k]).t i - dl (edge l[k]).f i) := by
  have e : edges (l.take (k + 1)) = edges (l.take k) ++ [edge l[k]] := by
    unfold edges
    rw [List.take_succ_eq_append_getElem h, List.map_append]; rfl
  show grad _ _ (edges (l.take (k + 1))) i = _
  rw [e, grad_append, ← resV_vOf]; rfl
/-- What Unbalanced answers. -/
def unbP (n : Nat) (fr : List (Int × Int)) (G : Nat → Int) : Int := if num0 fr = 0 then (match badP n G with | none => -1 | some p => (p : Int)) else 0
end Go.Proofs.Ytofaonigcojcaaa.Cal
namespace Go.Proofs.Ytofaonigcojcaaa
open Go Go.RowKit Go.Shelf
/-- The sums in memory, in the first block that is laid. -/
structure SmsI (w : World) (n : Nat) (g : Nat → Int) (W : World) : Prop where
  row : W.rowIs w.heap.size 3 n (fun j => .int .i64 (g j))
  bel : Below w.heap.size w W
theorem SmsI.below {w : World} {n : Nat} {g : Nat → Int} {W W' : World} (h : SmsI w n g W) (hb : Below W.heap.size W W') : SmsI w n g W' := ⟨h.row.of_block (hb.block _ h.row.lt), below_step h.bel hb⟩
theorem SmsI.set {w : World} {n : Nat} {g : Nat → Int} {W : World} (h : SmsI w n g W) (a : Nat) (x : Int) : SmsI w n (updR g a x) (W.setCell ⟨w.heap.size, a, none⟩ (.int .i64 x)) :=
  ⟨(h.row.set a _).congr (fun j _ => by unfold updR; split <;> rfl), h.bel.setCell (p := ⟨w.heap.size, a, none⟩) (Nat.le_refl _) _⟩
theorem SmsI.start (w : World) (n : Nat) : SmsI w n (fun _ => 0) (w.alloc (.cells (madeCells #[.int .i64 0] n) 3)) := ⟨World.rowIs_made w (.int .i64 0) n 3, below_alloc _ _⟩
set_option maxRecDepth 100000 in
set_option maxHeartbeats 4000000 in
theorem CheckHeights_any (N : Int) (A : Option Addr) (c : Nat) (l : List Lev) (B : Option Addr) (d : Nat) (fr : List (Int × Int)) (w : World) (hL : Levs w A l) (hF : RowsAt w B 2 (fr.map frR)) (hs : fr.length ≤ 1000000)
    (hv : ∀ h ∈ fr, (-9223372036854775808 ≤ h.1 ∧ h.1 ≤ 9223372036854775807) ∧ (-9223372036854775808 ≤ h.2 ∧ h.2 ≤ 9223372036854775807)) :
    Calls Try.prog 24 #[.int .i64 N, .slice A l.length c, .slice B fr.length d] w fun e w' => e = .returned (.tuple #[.int .i64 (Cal.chkP N l fr), .int .i64 (Cal.chkE N l fr)]) ∧ Below w.heap.size w w' := by
  have hres := Lib.hid (residuals_any N A c l B d fr w hL hF hs hv)
  obtain ⟨E, hE⟩ : ∃ E, Cal.chkE N l fr = E := ⟨_, rfl⟩
  obtain ⟨R, hR⟩ : ∃ R, Cal.chkP N l fr = R := ⟨_, rfl⟩
  rw [hE, hR]
  unfold Cal.chkE at hE
  unfold Cal.chkP at hR
  by_cases he : Cal.resE N l fr = 0
  · rw [if_pos he] at hE hR
    have hz : Cal.netE N l = 0 := by
      unfold Cal.resE at he
      split at he
      · assumption
      · rename_i h; exact absurd he h
    have hse : Cal.sclE N fr = 0 := by
      unfold Cal.resE at he
      rw [if_pos hz] at he
      exact he
    obtain ⟨hn1, hn6, hl20, hlev, _⟩ := Cal.netE_zero hz
    obtain ⟨hlen, hq2, hp1, hp2, hq3⟩ := Cal.sclE_zero hse
    obtain ⟨n, rfl⟩ : ∃ n : Nat, N = (n : Int) := ⟨N.toNat, by omega⟩
    have hfn : fr.length = n := by omega
    have h0 : fr[0]? = some fr[0] := List.getElem?_eq_getElem (by omega)
    have hnum : Cal.num0 fr = fr[0].1 := by unfold Cal.num0; rw [h0]; rfl
    rw [hnum] at hE hR
    obtain ⟨bF, oF, rfl, hbF, m0, m1⟩ := fr_at hF h0
    rw [Nat.zero_mul, Nat.add_zero] at m0
    have hRL : Cal.resLN (n : Int) l fr = Cal.resL (Cal.sclP (n : Int) fr) fr l := by unfold Cal.resLN; rw [if_pos he]
    rw [he, hRL, show Cal.resPN (n : Int) l fr = Cal.sclP (n : Int) fr from by unfold Cal.resPN; rw [if_pos hz]] at hres
    have hbox := Lib.hid (Cal.sumsK_box hz hse)
    have hrbox := Lib.hid (Cal.resV_box hz hse)
    rw [Int.toNat_natCast] at hE hR
    replace hlev := Lib.hid hlev
    replace hL := Lib.hid hL
    clear hz hse hq2 hq3 hRL he h0 hnum hF hfn
    replace hlen := Lib.hid hlen
    have hfn : 0 < fr.length := by have := hlen.out; omega
    generalize Cal.sclP (n : Int) fr = p at *
    generalize fr[0].1 = nm at *
    by_cases hnm : nm = 0
    · rw [if_pos hnm] at hE hR
      have hEE := Lib.hid hE
      have hRR := Lib.hid hR
      have hmk := fun W => mk_ints W n (by omega)
      subst hnm
      have hf0 : (0 : Int) < (fr.length : Int) := by omega
      clear hE hR
      go_enter Try.func24, Try.ntmps24
      go_wp2_with (go_at_call 68; refine hres.out.mono ?_; rintro e0 w2 ⟨vh, rfl, hH, hb2⟩; obtain ⟨A7, c7, rfl, hH7⟩ := hH.rows; replace hH7 := Lib.hid hH7; have m2 := (hb2.cell (p := ⟨bF, oF, none⟩) hbF).trans m0; replace hb2 := Lib.hid hb2; clear hres hH)
      have hS0 := Lib.hid (SmsI.start w2 n)
      rw [← Cal.sumsK_zero p fr l] at hS0
      generalize w2.alloc (.cells (madeCells #[.int .i64 0] n) 3) = W1 at *
      clear hmk
      go_loopw [36] (fun i wz => ∃ k : Nat, k ≤ l.length ∧ i = .int .i64 k ∧ Hid (SmsI w2 n (Cal.sumsK p fr l k) wz)) (fun i _ => l.length - (intOf i).toNat)
      case atStart => exact ⟨0, Nat.zero_le _, rfl, hS0⟩
      case round =>
        clear hS0
        obtain ⟨k, hk, rfl, hS⟩ := hrel
        by_cases hlt : k < l.length
        · have hk' : l[k]? = some l[k] := List.getElem?_eq_getElem hlt
          have hlz := Cal.levE_zero (hlev.out _ (List.getElem_mem hlt))
          have hkM : k < (Cal.resL p fr l).length := by unfold Cal.resL; rw [List.length_map]; exact hlt
          obtain ⟨b7, o7, rfl, hb7, r0⟩ := intsI_at hH7.out hkM
          rw [show (Cal.resL p fr l)[k] = Cal.resV p fr l[k] from List.getElem_map ..] at r0
          have hrb := hrbox.out _ (List.getElem_mem hlt)
          have hsucc := Cal.sumsK_succ (p := p) (fr := fr) hlt (by unfold Cal.edge; dsimp only; omega)
          have hsb := hbox.out k hk
          have hki : (k : Int) < (l.length : Int) := by omega
          have hki2 : (k : Int) < ((Cal.resL p fr l).length : Int) := by omega
          generalize l[k] = x at *
          obtain ⟨b, o, rfl, hbl, c0, c1, c2, c3⟩ := lev_at (hL.out.below (hb2.out.trans (hS.out.bel.mono hb2.out.size))).rows hk'
          generalize Cal.resV p fr x = rv at *
          obtain ⟨xf, xt, xd, xw⟩ := x
          dsimp only at *
          obtain ⟨⟨f0, f1⟩, ⟨t0, t1⟩, hne, -, -, wl1, wl2⟩ := hlz
          obtain ⟨f, rfl⟩ : ∃ f : Nat, xf = (f : Int) := ⟨xf.toNat, by omega⟩
          obtain ⟨t, rfl⟩ : ∃ t : Nat, xt = (t : Int) := ⟨xt.toNat, by omega⟩
          have hfN : f < n := by omega
          have htN : t < n := by omega
          have hft : ¬ f = t := fun e => hne (by rw [e])
          have hsuccH : Hid (updR (updR (Cal.sumsK p fr l k) t (Cal.sumsK p fr l k t + xw * rv)) f (Cal.sumsK p fr l k f - xw * rv) = Cal.sumsK p fr l (k + 1)) := hsucc
          obtain ⟨gt1, gt2⟩ := hsb t
          obtain ⟨gf1, gf2⟩ := hsb f
          have hm := mul_le_of (a := xw) (b := rv) (M := 10) (N := 16400000000000000) (by omega) (by omega) hrb.1 hrb.2
          generalize hz : xw * rv = z at *
          generalize hG : Cal.sumsK p fr l k = G at *
          clear hG hsucc hsb
          have hgf : Hid (updR G t (G t + z) f = G f) := by show _ = _; unfold updR; rw [if_neg hft]
          have hw1 : IntKind.i64.wrap z = z := wrap_small (by omega) (by omega)
          have hw1b : wrap64 z = z := by rw [← wrap_eq]; exact hw1
          have hw2 : IntKind.i64.wrap (G t + z) = G t + z := wrap_small (by omega) (by omega)
          have hw2b : wrap64 (G t + z) = G t + z := by rw [← wrap_eq]; exact hw2
          have hw3 : IntKind.i64.wrap (G f - z) = G f - z := wrap_small (by omega) (by omega)
          have hw3b : wrap64 (G f - z) = G f - z := by rw [← wrap_eq]; exact hw3
          have hx := Lib.hid (BoxAt.new wr #[.int .i64 (f : Int), .int .i64 (t : Int), .int .i64 xd, .int .i64 xw] 57)
          have hS1 := Lib.hid (hS.out.below (below_alloc wr (.cells #[.int .i64 (f : Int), .int .i64 (t : Int), .int .i64 xd, .int .i64 xw] 57)))
          have hBl := Lib.hid hS.out.row.lt
          have r1 := (hS1.out.bel.cell (p := ⟨b7, o7 + k, none⟩) hb7).trans r0
          have y0 := hx.out.c 0 _ rfl
          have y1 := hx.out.c 1 _ rfl
          have y3 := hx.out.c 3 _ rfl
          have s1 := hS1.out.row.cell htN
          have fz := hS1.out.row.frozen t
          have hfi : (f : Int) < (n : Int) := by omega
          have hti : (t : Int) < (n : Int) := by omega
          clear hk' hS hm gt1 gt2 gf1 gf2 hrb hne
          go_wp2_with fail
          generalize hW1 : wr.alloc (.cells #[.int .i64 (f : Int), .int .i64 (t : Int), .int .i64 xd, .int .i64 xw] 57) = W1 at *
          clear hW1
          have hHB : Hid (wr.heap.size ≠ w2.heap.size) := fun e => by have := hBl.out; omega
          generalize wr.heap.size = Bx at *
          refine wp_region_heldZ (S := Sx W1 [(Bx, 1, .int .i64 (t : Int)), (Bx, 3, .int .i64 xw), (w2.heap.size, t, .int .i64 (G t)), (b7, o7 + k, .int .i64 rv)]) 14 (by kernel_rfl) (Sx.mk (by simp only [cs_iff_cons]; exact ⟨y1, y3, s1, r1, cs_nil _⟩) (Below.refl _ _)).drew (fun hHeld => ?_)
          clear y0 y1 y3 r1
          replace hS1 := Lib.hid (hS1.out.below hHeld.bel)
          replace hx := Lib.hid (hx.out.below hHeld.bel)
          replace s1 : W1.drew.cell? _ = _ := s1
          replace fz : W1.drew.frozen? _ = _ := fz
          generalize W1.drew = Y1 at *
          (refine tkZ 0 41 (v := ?_) ?_ ?_; rotate_left; focus (intro w' hSw; replace hSw := hSw.cs; (try simp only [cs_iff_cons] at hSw); go_simp; (try with_reducible rfl)); (try simp only [Act.put, List.setIfInBounds_toArray, List.set_cons_zero, List.set_cons_succ]))
          (refine tkZ 1 42 (v := ?_) ?_ ?_; rotate_left; focus (intro w' hSw; replace hSw := hSw.cs; (try simp only [cs_iff_cons] at hSw); go_simp; (try with_reducible rfl)); (try simp only [Act.put, List.setIfInBounds_toArray, List.set_cons_zero, List.set_cons_succ]))
          (refine tkZ 2 43 (v := ?_) ?_ ?_; rotate_left; focus (intro w' hSw; replace hSw := hSw.cs; (try simp only [cs_iff_cons] at hSw); go_simp; (try with_reducible rfl)); (try simp only [Act.put, List.setIfInBounds_toArray, List.set_cons_zero, List.set_cons_succ]))
          (refine tkZ 3 44 (v := ?_) ?_ ?_; rotate_left; focus (intro w' hSw; replace hSw := hSw.cs; (try simp only [cs_iff_cons] at hSw); go_simp; (try with_reducible rfl)); (try simp only [Act.put, List.setIfInBounds_toArray, List.set_cons_zero, List.set_cons_succ]))
          (refine tkZ 4 45 (v := ?_) ?_ ?_; rotate_left; focus (intro w' hSw; replace hSw := hSw.cs; (try simp only [cs_iff_cons] at hSw); go_simp; (try with_reducible rfl)); (try simp only [Act.put, List.setIfInBounds_toArray, List.set_cons_zero, List.set_cons_succ]))
          (refine tkZ 5 46 (v := ?_) ?_ ?_; rotate_left; focus (intro w' hSw; replace hSw := hSw.cs; (try simp only [cs_iff_cons] at hSw); go_simp; (try with_reducible rfl)); (try simp only [Act.put, List.setIfInBounds_toArray, List.set_cons_zero, List.set_cons_succ]))
          (refine tkZ 6 47 (v := ?_) ?_ ?_; rotate_left; focus (intro w' hSw; replace hSw := hSw.cs; (try simp only [cs_iff_cons] at hSw); go_simp; (try with_reducible rfl)); (try simp only [Act.put, List.setIfInBounds_toArray, List.set_cons_zero, List.set_cons_succ]))
          (refine tkZ 7 48 (v := ?_) ?_ ?_; rotate_left; focus (intro w' hSw; replace hSw := hSw.cs; (try simp only [cs_iff_cons] at hSw); go_simp; (try with_reducible rfl)); (try simp only [Act.put, List.setIfInBounds_toArray, List.set_cons_zero, List.set_cons_succ]))
          (refine tkZ 8 49 (v := ?_) ?_ ?_; rotate_left; focus (intro w' hSw; replace hSw := hSw.cs; (try simp only [cs_iff_cons] at hSw); go_simp; (try with_reducible rfl)); (try simp only [Act.put, List.setIfInBounds_toArray, List.set_cons_zero, List.set_cons_succ]))
          (refine tkZ 9 50 (v := ?_) ?_ ?_; rotate_left; focus (intro w' hSw; replace hSw := hSw.cs; (try simp only [cs_iff_cons] at hSw); go_simp; (try with_reducible rfl)); (try simp only [Act.put, List.setIfInBounds_toArray, List.set_cons_zero, List.set_cons_succ]))
          (refine tkZ 10 51 (v := ?_) ?_ ?_; rotate_left; focus (intro w' hSw; replace hSw := hSw.cs; (try simp only [cs_iff_cons] at hSw); go_simp; (try with_reducible rfl)); (try simp only [Act.put, List.setIfInBounds_toArray, List.set_cons_zero, List.set_cons_succ]))
          (refine tkZ 11 52 (v := ?_) ?_ ?_; rotate_left; focus (intro w' hSw; replace hSw := hSw.cs; (try simp only [cs_iff_cons] at hSw); go_simp; (try with_reducible rfl)); (try simp only [Act.put, List.setIfInBounds_toArray, List.set_cons_zero, List.set_cons_succ]))
          (refine tkZ 12 53 (v := ?_) ?_ ?_; rotate_left; focus (intro w' hSw; replace hSw := hSw.cs; (try simp only [cs_iff_cons] at hSw); go_simp; (try with_reducible rfl)); (try simp only [Act.put, List.setIfInBounds_toArray, List.set_cons_zero, List.set_cons_succ]))
          (refine tkZ 13 54 (v := ?_) ?_ ?_; rotate_left; focus (intro w' hSw; replace hSw := hSw.cs; (try simp only [cs_iff_cons] at hSw); go_simp; (try with_reducible rfl)); (try simp only [Act.put, List.setIfInBounds_toArray, List.set_cons_zero, List.set_cons_succ]))
          (refine ratZc 14 (by decide +kernel) rfl (by decide +kernel) (fun K hK => ?_); rw [if_pos (by kernel_rfl)]; go_simp; refine hK.out _ _ ?_; clear hK K; ((try simp only [Act.put, List.setIfInBounds_toArray]); (try simp only [List.set_cons_zero, List.set_cons_succ])))
          refine wpAnyHY_done (by decide +kernel) ?_ _
          ((try simp only [Act.put, List.setIfInBounds_toArray]); (try simp only [List.set_cons_zero, List.set_cons_succ]))
          clear hHeld s1 fz
          replace hx := Lib.hid (hx.out.aside1 (o := t) hHB.out (.int .i64 (G t + z)))
          replace hS1 := Lib.hid (hS1.out.set t (G t + z))
          generalize Y1.setCell ⟨w2.heap.size, t, none⟩ (.int .i64 (G t + z)) = X2 at *
          have r1 := (hS1.out.bel.cell (p := ⟨b7, o7 + k, none⟩) hb7).trans r0
          have y0 := hx.out.c 0 _ rfl
          have y3 := hx.out.c 3 _ rfl
          have s1 := hS1.out.row.cell hfN
          rw [hgf.out] at s1
          have fz := hS1.out.row.frozen f
          go_wp2_with fail
          refine wp_region_heldZ (S := Sx X2 [(Bx, 0, .int .i64 (f : Int)), (Bx, 3, .int .i64 xw), (w2.heap.size, f, .int .i64 (G f)), (b7, o7 + k, .int .i64 rv)]) 14 (by kernel_rfl) (Sx.mk (by simp only [cs_iff_cons]; exact ⟨y0, y3, s1, r1, cs_nil _⟩) (Below.refl _ _)).drew (fun hHeld => ?_)
          clear y0 y3 r1
          replace hS1 := Lib.hid (hS1.out.below hHeld.bel)
          replace s1 : X2.drew.cell? _ = _ := s1
          replace fz : X2.drew.frozen? _ = _ := fz
          generalize X2.drew = Y2 at *
          (refine tkZ 0 55 (v := ?_) ?_ ?_; rotate_left; focus (intro w' hSw; replace hSw := hSw.cs; (try simp only [cs_iff_cons] at hSw); go_simp; (try with_reducible rfl)); (try simp only [Act.put, List.setIfInBounds_toArray, List.set_cons_zero, List.set_cons_succ]))
          (refine tkZ 1 56 (v := ?_) ?_ ?_; rotate_left; focus (intro w' hSw; replace hSw := hSw.cs; (try simp only [cs_iff_cons] at hSw); go_simp; (try with_reducible rfl)); (try simp only [Act.put, List.setIfInBounds_toArray, List.set_cons_zero, List.set_cons_succ]))
          (refine tkZ 2 57 (v := ?_) ?_ ?_; rotate_left; focus (intro w' hSw; replace hSw := hSw.cs; (try simp only [cs_iff_cons] at hSw); go_simp; (try with_reducible rfl)); (try simp only [Act.put, List.setIfInBounds_toArray, List.set_cons_zero, List.set_cons_succ]))
          (refine tkZ 3 58 (v := ?_) ?_ ?_; rotate_left; focus (intro w' hSw; replace hSw := hSw.cs; (try simp only [cs_iff_cons] at hSw); go_simp; (try with_reducible rfl)); (try simp only [Act.put, List.setIfInBounds_toArray, List.set_cons_zero, List.set_cons_succ]))
          (refine tkZ 4 59 (v := ?_) ?_ ?_; rotate_left; focus (intro w' hSw; replace hSw := hSw.cs; (try simp only [cs_iff_cons] at hSw); go_simp; (try with_reducible rfl)); (try simp only [Act.put, List.setIfInBounds_toArray, List.set_cons_zero, List.set_cons_succ]))
          (refine tkZ 5 60 (v := ?_) ?_ ?_; rotate_left; focus (intro w' hSw; replace hSw := hSw.cs; (try simp only [cs_iff_cons] at hSw); go_simp; (try with_reducible rfl)); (try simp only [Act.put, List.setIfInBounds_toArray, List.set_cons_zero, List.set_cons_succ]))
          (refine tkZ 6 61 (v := ?_) ?_ ?_; rotate_left; focus (intro w' hSw; replace hSw := hSw.cs; (try simp only [cs_iff_cons] at hSw); go_simp; (try with_reducible rfl)); (try simp only [Act.put, List.setIfInBounds_toArray, List.set_cons_zero, List.set_cons_succ]))
          (refine tkZ 7 62 (v := ?_) ?_ ?_; rotate_left; focus (intro w' hSw; replace hSw := hSw.cs; (try simp only [cs_iff_cons] at hSw); go_simp; (try with_reducible rfl)); (try simp only [Act.put, List.setIfInBounds_toArray, List.set_cons_zero, List.set_cons_succ]))
          (refine tkZ 8 63 (v := ?_) ?_ ?_; rotate_left; focus (intro w' hSw; replace hSw := hSw.cs; (try simp only [cs_iff_cons] at hSw); go_simp; (try with_reducible rfl)); (try simp only [Act.put, List.setIfInBounds_toArray, List.set_cons_zero, List.set_cons_succ]))
          (refine tkZ 9 64 (v := ?_) ?_ ?_; rotate_left; focus (intro w' hSw; replace hSw := hSw.cs; (try simp only [cs_iff_cons] at hSw); go_simp; (try with_reducible rfl)); (try simp only [Act.put, List.setIfInBounds_toArray, List.set_cons_zero, List.set_cons_succ]))
          (refine tkZ 10 65 (v := ?_) ?_ ?_; rotate_left; focus (intro w' hSw; replace hSw := hSw.cs; (try simp only [cs_iff_cons] at hSw); go_simp; (try with_reducible rfl)); (try simp only [Act.put, List.setIfInBounds_toArray, List.set_cons_zero, List.set_cons_succ]))
          (refine tkZ 11 66 (v := ?_) ?_ ?_; rotate_left; focus (intro w' hSw; replace hSw := hSw.cs; (try simp only [cs_iff_cons] at hSw); go_simp; (try with_reducible rfl)); (try simp only [Act.put, List.setIfInBounds_toArray, List.set_cons_zero, List.set_cons_succ]))
          (refine tkZ 12 67 (v := ?_) ?_ ?_; rotate_left; focus (intro w' hSw; replace hSw := hSw.cs; (try simp only [cs_iff_cons] at hSw); go_simp; (try with_reducible rfl)); (try simp only [Act.put, List.setIfInBounds_toArray, List.set_cons_zero, List.set_cons_succ]))
          (refine tkZ 13 68 (v := ?_) ?_ ?_; rotate_left; focus (intro w' hSw; replace hSw := hSw.cs; (try simp only [cs_iff_cons] at hSw); go_simp; (try with_reducible rfl)); (try simp only [Act.put, List.setIfInBounds_toArray, List.set_cons_zero, List.set_cons_succ]))
          (refine ratZc 14 (by decide +kernel) rfl (by decide +kernel) (fun K hK => ?_); rw [if_pos (by kernel_rfl)]; go_simp; refine hK.out _ _ ?_; clear hK K; ((try simp only [Act.put, List.setIfInBounds_toArray]); (try simp only [List.set_cons_zero, List.set_cons_succ])))
          refine wpAnyHY_done (by decide +kernel) ?_ _
          ((try simp only [Act.put, List.setIfInBounds_toArray]); (try simp only [List.set_cons_zero, List.set_cons_succ]))
          clear hHeld s1 fz hx
          have hS3 := Lib.hid (hS1.out.set f (G f - z))
          rw [hsuccH.out] at hS3
          clear hS1
          generalize Y2.setCell ⟨w2.heap.size, f, none⟩ (.int .i64 (G f - z)) = X3 at *
          go_wp2_with fail
          go_roundw
          case rel => exact ⟨k + 1, by omega, by go_num, hS3⟩
          case measure => simp [intOf]; omega
        · obtain rfl : k = l.length := by omega
          have hSA : Hid (Cal.sumsK p fr l l.length = Cal.sumsAll p fr l) := rfl
          rw [hSA.out] at hS
          generalize Cal.sumsAll p fr l = G at *
          have hbz : Hid (Below w.heap.size w wr) := hb2.out.trans (hS.out.bel.mono hb2.out.size)
          clear hSA hbox hrbox hlev hH7
          go_wp2_with fail
          go_loopw [72] (fun i wz => ∃ k : Nat, k ≤ n ∧ i = .int .i64 k ∧ Hid (k = 0 ∨ Cal.badP n G = Cal.badAt G (n - k) k) ∧ Hid (SmsI w2 n G wz)) (fun i _ => n - (intOf i).toNat)
          case atStart => exact ⟨0, Nat.zero_le _, rfl, .inl rfl, hS⟩
          case round =>
            clear hS hbz
            obtain ⟨k, hk, rfl, hbp, hS⟩ := hrel
            have hbz : Hid (Below w.heap.size w wr) := hb2.out.trans (hS.out.bel.mono hb2.out.size)
            by_cases hlt : k < n
            · have g0 := hS.out.row.cell hlt
              have hki : (k : Int) < (n : Int) := by omega
              by_cases hk0 : k = 0
              · subst hk0
                have hnx : Hid (1 = 0 ∨ Cal.badP n G = Cal.badAt G (n - 1) 1) := .inr rfl
                clear hbp
                go_wp2_with fail
                go_roundw
                case rel => exact ⟨1, by omega, by go_num, hnx, hS⟩
                case measure => simp [intOf]; omega
              · have hbp2 : Cal.badP n G = Cal.badAt G (n - k) k := by rcases hbp.out with h | h; exact absurd h hk0; exact h
                rw [show n - k = (n - (k + 1)) + 1 by omega, Cal.badAt_step] at hbp2
                have hkp : (0 : Int) < (k : Int) := by omega
                by_cases hgz : G k = 0
                · rw [if_neg (by simpa using hgz)] at hbp2
                  have hnx : Hid (k + 1 = 0 ∨ Cal.badP n G = Cal.badAt G (n - (k + 1)) (k + 1)) := .inr hbp2
                  rw [hgz] at g0
                  clear hbp hbp2 hgz
                  go_wp2_with fail
                  go_roundw
                  case rel => exact ⟨k + 1, by omega, by go_num, hnx, hS⟩
                  case measure => simp [intOf]; omega
                · rw [if_pos hgz] at hbp2
                  have e1 : Hid (E = 26) := by show _ = _; rw [← hEE.out, hbp2]
                  have e2 : Hid (R = (k : Int)) := by show _ = _; rw [← hRR.out, hbp2]
                  have hgb : (G k == 0) = false := by simpa using hgz
                  have hgc : (G k != 0) = true := by simpa using hgz
                  clear hbp hbp2
                  generalize G k = gk at *
                  go_wp2_with fail
                  go_ret2
                  exact ⟨by rw [e1.out, e2.out]; rfl, hbz.out⟩
            · obtain rfl : k = n := by omega
              have hbp2 : Cal.badP k G = none := by
                rcases hbp.out with h | h
                · omega
                · rw [h, Nat.sub_self]; rfl
              have e1 : Hid (E = 0) := by show _ = _; rw [← hEE.out, hbp2]
              have e2 : Hid (R = 0) := by show _ = _; rw [← hRR.out, hbp2]
              clear hbp hbp2
              go_wp2_with fail
              go_ret2
              exact ⟨by rw [e1.out, e2.out]; rfl, hbz.out⟩
    · rw [if_neg hnm] at hE hR
      subst hE hR
      have hnb : (nm == 0) = false := by simpa using hnm
      have hnc : (nm != 0) = true := by simpa using hnm
      have hf0 : (0 : Int) < (fr.length : Int) := by omega
      go_enter Try.func24, Try.ntmps24
      go_wp2_with (go_at_call 68; refine hres.out.mono ?_; rintro e0 w2 ⟨vh, rfl, hH, hb2⟩; have m2 := (hb2.cell (p := ⟨bF, oF, none⟩) hbF).trans m0; replace hb2 := Lib.hid hb2; clear hres hH)
      go_ret2
      exact ⟨rfl, hb2.out⟩
  · rw [if_neg he] at hE hR
    have heb : (Cal.resE N l fr == 0) = false := by simpa using he
    have hec : (Cal.resE N l fr != 0) = true := by simpa using he
    subst hR
    rw [hE] at heb hec hres
    clear he hE
    go_enter Try.func24, Try.ntmps24
    go_wp2_with (go_at_call 68; refine hres.out.mono ?_; rintro e0 w2 ⟨vh, rfl, hH, hb2⟩; replace hb2 := Lib.hid hb2; clear hres hH)
    go_ret2
    exact ⟨rfl, hb2.out⟩
end Go.Proofs.Ytofaonigcojcaaa
namespace Go.Proofs.Ytofaonigcojcaaa
open Go Go.RowKit Go.Shelf
set_option maxRecDepth 100000 in
set_option maxHeartbeats 4000000 in
theorem residualR_any (x : Lev) (B : Option Addr) (d : Nat) (fr : List (Int × Int)) (p : Int) (w : World) (hF : RowsAt w B 2 (fr.map frR)) (hp1 : 1 ≤ p) (hp2 : p ≤ 4000000000)
    (hall : ∀ h ∈ fr, 1 ≤ h.2 ∧ Cal.bigH h = false) (hf : 0 ≤ x.f ∧ x.f < fr.length) (ht : 0 ≤ x.t ∧ x.t < fr.length) (hd : -100000 ≤ x.d ∧ x.d ≤ 100000) :
    Calls Try.prog 70 #[.agg #[.int .i64 x.f, .int .i64 x.t, .int .i64 x.d, .int .i64 x.w], .slice B fr.length d, .int .i64 p] w fun e w' => e = .returned (.int .i64 (Cal.resV p fr x)) ∧ Below w.heap.size w w' := by
  obtain ⟨xf, xt, xd, xw⟩ := x
  dsimp only at *
  obtain ⟨f, rfl⟩ : ∃ f : Nat, xf = (f : Int) := ⟨xf.toNat, by omega⟩
  obtain ⟨t, rfl⟩ : ∃ t : Nat, xt = (t : Int) := ⟨xt.toNat, by omega⟩
  have hfN : f < fr.length := by omega
  have htN : t < fr.length := by omega
  have hX : Cal.resV p fr ⟨(f : Int), (t : Int), xd, xw⟩ = xd * p - Cal.sclH p fr[t] + Cal.sclH p fr[f] := by
    unfold Cal.resV Cal.hAt0
    dsimp only
    rw [Int.toNat_natCast, Int.toNat_natCast, List.getElem?_eq_getElem htN, List.getElem?_eq_getElem hfN]
    rfl
  rw [hX]
  have hal := Lib.hid (below_alloc w (.cells #[.int .i64 (f : Int), .int .i64 (t : Int), .int .i64 xd, .int .i64 xw] 57))
  have hx := Lib.hid (BoxAt.new w #[.int .i64 (f : Int), .int .i64 (t : Int), .int .i64 xd, .int .i64 xw] 57)
  obtain ⟨b, o, rfl, hbl, c0, c1⟩ := fr_at (hF.below hal.out) (List.getElem?_eq_getElem hfN)
  obtain ⟨b', o', hA, _, c2, c3⟩ := fr_at (hF.below hal.out) (List.getElem?_eq_getElem htN)
  cases hA
  obtain ⟨a1, a3⟩ := hall _ (List.getElem_mem hfN)
  obtain ⟨b1, b3⟩ := hall _ (List.getElem_mem htN)
  have hbxf := Cal.sclH_box hp1 hp2 a1 a3
  have hbxt := Cal.sclH_box hp1 hp2 b1 b3
  generalize fr[f] = hf0 at *
  generalize fr[t] = ht0 at *
  obtain ⟨nf, df⟩ := hf0
  obtain ⟨nt, dt⟩ := ht0
  unfold Cal.sclH at hbxf hbxt ⊢
  dsimp only at *
  have hfi : (f : Int) < (fr.length : Int) := by omega
  have hti : (t : Int) < (fr.length : Int) := by omega
  have y0 := hx.out.c 0 _ rfl
  have y1 := hx.out.c 1 _ rfl
  clear hX hF a3 b3 hall
  go_enter Try.func70, Try.ntmps70
  go_wp2_with fail
  generalize hW1 : w.alloc (.cells #[.int .i64 (f : Int), .int .i64 (t : Int), .int .i64 xd, .int .i64 xw] 57) = W1 at *
  have hW1s : Hid (w.heap.size < W1.heap.size) := by show _ < _; rw [← hW1]; simp
  clear hW1
  go_cut [7, 8] from 9 to 18 (fun x7 x8 wc => ∃ B7 B8, x7 = .pointer (some ⟨B7, 0, none⟩) ∧ x8 = .pointer (some ⟨B8, 0, none⟩) ∧ Hid (BoxAt wc B7 [.int .i64 nf, .int .i64 df]) ∧ Hid (BoxAt wc B8 [.int .i64 nt, .int .i64 dt]) ∧ Hid (Below W1.heap.size W1 wc))
  case first =>
    have hLb : Hid (∀ x ∈ [(w.heap.size, 0, Value.int .i64 (f : Int)), (w.heap.size, 1, .int .i64 (t : Int)), (b, o + f * 2, .int .i64 nf), (b, o + f * 2 + 1, .int .i64 df), (b, o + t * 2, .int .i64 nt), (b, o + t * 2 + 1, .int .i64 dt)], x.1 < W1.heap.size) := fun x hx => by
      have h1 := hW1s.out
      simp only [List.mem_cons, List.not_mem_nil, or_false] at hx
      rcases hx with rfl | rfl | rfl | rfl | rfl | rfl <;> dsimp only <;> omega
    refine wp_region_held_drew (S := Sx W1 [(w.heap.size, 0, .int .i64 (f : Int)), (w.heap.size, 1, .int .i64 (t : Int)), (b, o + f * 2, .int .i64 nf), (b, o + f * 2 + 1, .int .i64 df), (b, o + t * 2, .int .i64 nt), (b, o + t * 2 + 1, .int .i64 dt)]) (by kernel_rfl) (Sx.mk (by simp only [cs_iff_cons]; exact ⟨y0, y1, c0, c1, c2, c3, cs_nil _⟩) (Below.refl _ _)).drew (fun hHeld => ?_)
    clear y0 y1 c0 c1 c2 c3
    have hYs : Hid (W1.heap.size ≤ W1.drew.heap.size) := Nat.le_refl _
    generalize W1.drew = Y at *
    (refine tkH2 0 9 (v := ?_) ?_ ?_; rotate_left; focus (intro w' hSw; replace hSw := hSw.cs; (try simp only [cs_iff_cons] at hSw); go_simp; (try with_reducible rfl)); (try simp only [Act.put, List.setIfInBounds_toArray, List.set_cons_zero, List.set_cons_succ]))
    (refine tkH2 1 10 (v := ?_) ?_ ?_; rotate_left; focus (intro w' hSw; replace hSw := hSw.cs; (try simp only [cs_iff_cons] at hSw); go_simp; (try with_reducible rfl)); (try simp only [Act.put, List.setIfInBounds_toArray, List.set_cons_zero, List.set_cons_succ]))
    (refine tkH2 2 11 (v := ?_) ?_ ?_; rotate_left; focus (intro w' hSw; replace hSw := hSw.cs; (try simp only [cs_iff_cons] at hSw); go_simp; (try with_reducible rfl)); (try simp only [Act.put, List.setIfInBounds_toArray, List.set_cons_zero, List.set_cons_succ]))
    (refine tkH2 3 12 (v := ?_) ?_ ?_; rotate_left; focus (intro w' hSw; replace hSw := hSw.cs; (try simp only [cs_iff_cons] at hSw); go_simp; (try with_reducible rfl)); (try simp only [Act.put, List.setIfInBounds_toArray, List.set_cons_zero, List.set_cons_succ]))
    (refine tkH2 4 13 (v := ?_) ?_ ?_; rotate_left; focus (intro w' hSw; replace hSw := hSw.cs; (try simp only [cs_iff_cons] at hSw); go_simp; (try with_reducible rfl)); (try simp only [Act.put, List.setIfInBounds_toArray, List.set_cons_zero, List.set_cons_succ]))
    (refine tkH2 5 14 (v := ?_) ?_ ?_; rotate_left; focus (intro w' hSw; replace hSw := hSw.cs; (try simp only [cs_iff_cons] at hSw); go_simp; (try with_reducible rfl)); (try simp only [Act.put, List.setIfInBounds_toArray, List.set_cons_zero, List.set_cons_succ]))
    (refine tkH2 6 15 (v := ?_) ?_ ?_; rotate_left; focus (intro w' hSw; replace hSw := hSw.cs; (try simp only [cs_iff_cons] at hSw); go_simp; (try with_reducible rfl)); (try simp only [Act.put, List.setIfInBounds_toArray, List.set_cons_zero, List.set_cons_succ]))
    (refine tkH2 7 16 (v := ?_) ?_ ?_; rotate_left; focus (intro w' hSw; replace hSw := hSw.cs; (try simp only [cs_iff_cons] at hSw); go_simp; (try with_reducible rfl)); (try simp only [Act.put, List.setIfInBounds_toArray, List.set_cons_zero, List.set_cons_succ]))
    (refine tkH2 8 17 (v := ?_) ?_ ?_; rotate_left; focus (intro w' hSw; replace hSw := hSw.cs; (try simp only [cs_iff_cons] at hSw); go_simp; (try with_reducible rfl)); (try simp only [Act.put, List.setIfInBounds_toArray, List.set_cons_zero, List.set_cons_succ]))
    (refine tkH2 9 18 (v := ?_) ?_ ?_; rotate_left; focus (intro w' hSw; replace hSw := hSw.cs; (try simp only [cs_iff_cons] at hSw); go_simp; (try with_reducible rfl)); (try simp only [Act.put, List.setIfInBounds_toArray, List.set_cons_zero, List.set_cons_succ]))
    (refine wpAnyH_ready (rs := [10, 11]) (by decide +kernel) (by simp) ?_; refine AllReadyH.cons rfl (fun K hK => ?_) (AllReadyH.cons rfl (fun K hK => ?_) AllReadyH.nil))
    · (rw [if_pos (by kernel_rfl)]; go_simp)
      refine hK.out _ _ (hHeld.alloc _) (fun hHeld => ?_)
      clear hK K
      ((try simp only [Act.put, List.setIfInBounds_toArray]); (try simp only [List.set_cons_zero, List.set_cons_succ]))
      (refine wpAnyH_ready (rs := [11]) (by decide +kernel) (by simp) ?_; refine AllReadyH.cons rfl (fun K hK => ?_) AllReadyH.nil; rw [if_pos (by kernel_rfl)]; go_simp)
      refine hK.out _ _ (hHeld.alloc _) (fun hHeld => ?_)
      clear hK K
      ((try simp only [Act.put, List.setIfInBounds_toArray]); (try simp only [List.set_cons_zero, List.set_cons_succ]))
      have h7 := Lib.hid ((BoxAt.new Y #[.int .i64 0, .int .i64 0] 59).alloc (.cells #[.int .i64 0, .int .i64 0] 59))
      have h8 := Lib.hid (BoxAt.new (Y.alloc (.cells #[.int .i64 0, .int .i64 0] 59)) #[.int .i64 0, .int .i64 0] 59)
      rw [World.size_alloc] at h8
      have h7l := hYs
      have h8l : Hid (W1.heap.size ≤ Y.heap.size + 1) := Nat.le_succ_of_le hYs.out
      have hne : Hid (Y.heap.size + 1 ≠ Y.heap.size) := Nat.succ_ne_self _
      refine storeC 12 59 (.tmp 7) (.tmp 13) (Y.heap.size) 0 #[.int .i64 nf, .int .i64 df] (by decide +kernel) (by exact rfl) (by exact rfl) (by kernel_rfl) (by rfl) (by rfl) (by exact h7.out.there) frSize (by kernel_rfl) (hHeld.putC h7l.out hLb.out) (fun hHeld => ?_)
      ((try simp only [Act.put, List.setIfInBounds_toArray]); (try simp only [List.set_cons_zero, List.set_cons_succ]))
      replace h7 := Lib.hid (h7.out.put [.int .i64 nf, .int .i64 df] rfl)
      replace h8 := Lib.hid (h8.out.aside (B' := Y.heap.size) [.int .i64 nf, .int .i64 df] hne.out)
      refine storeC 13 59 (.tmp 8) (.tmp 18) (Y.heap.size + 1) 0 #[.int .i64 nt, .int .i64 dt] (by decide +kernel) (by exact rfl) (by exact rfl) (by kernel_rfl) (by rfl) (by rfl) (by exact h8.out.there) frSize (by kernel_rfl) (hHeld.putC h8l.out hLb.out) (fun hHeld => ?_)
      ((try simp only [Act.put, List.setIfInBounds_toArray]); (try simp only [List.set_cons_zero, List.set_cons_succ]))
      replace h8 := Lib.hid (h8.out.put [.int .i64 nt, .int .i64 dt] rfl)
      replace h7 := Lib.hid (h7.out.aside (B' := Y.heap.size + 1) [.int .i64 nt, .int .i64 dt] (Ne.symm hne.out))
      refine wpAnyH_done (by kernel_rfl) ?_ _
      have hbe := Lib.hid hHeld.bel
      go_wp2_with fail
      go_meet
      case rel => exact ⟨_, _, rfl, rfl, h7, h8, hbe⟩
    · (rw [if_pos (by kernel_rfl)]; go_simp)
      refine hK.out _ _ (hHeld.alloc _) (fun hHeld => ?_)
      clear hK K
      ((try simp only [Act.put, List.setIfInBounds_toArray]); (try simp only [List.set_cons_zero, List.set_cons_succ]))
      (refine wpAnyH_ready (rs := [10]) (by decide +kernel) (by simp) ?_; refine AllReadyH.cons rfl (fun K hK => ?_) AllReadyH.nil; rw [if_pos (by kernel_rfl)]; go_simp)
      refine hK.out _ _ (hHeld.alloc _) (fun hHeld => ?_)
      clear hK K
      ((try simp only [Act.put, List.setIfInBounds_toArray]); (try simp only [List.set_cons_zero, List.set_cons_succ]))
      have h8 := Lib.hid ((BoxAt.new Y #[.int .i64 0, .int .i64 0] 59).alloc (.cells #[.int .i64 0, .int .i64 0] 59))
      have h7 := Lib.hid (BoxAt.new (Y.alloc (.cells #[.int .i64 0, .int .i64 0] 59)) #[.int .i64 0, .int .i64 0] 59)
      rw [World.size_alloc] at h7
      have h8l := hYs
      have h7l : Hid (W1.heap.size ≤ Y.heap.size + 1) := Nat.le_succ_of_le hYs.out
      have hne : Hid (Y.heap.size ≠ Y.heap.size + 1) := (Nat.succ_ne_self _).symm
      refine storeC 12 59 (.tmp 7) (.tmp 13) (Y.heap.size + 1) 0 #[.int .i64 nf, .int .i64 df] (by decide +kernel) (by exact rfl) (by exact rfl) (by kernel_rfl) (by rfl) (by rfl) (by exact h7.out.there) frSize (by kernel_rfl) (hHeld.putC h7l.out hLb.out) (fun hHeld => ?_)
      ((try simp only [Act.put, List.setIfInBounds_toArray]); (try simp only [List.set_cons_zero, List.set_cons_succ]))
      replace h7 := Lib.hid (h7.out.put [.int .i64 nf, .int .i64 df] rfl)
      replace h8 := Lib.hid (h8.out.aside (B' := Y.heap.size + 1) [.int .i64 nf, .int .i64 df] hne.out)
      refine storeC 13 59 (.tmp 8) (.tmp 18) (Y.heap.size) 0 #[.int .i64 nt, .int .i64 dt] (by decide +kernel) (by exact rfl) (by exact rfl) (by kernel_rfl) (by rfl) (by rfl) (by exact h8.out.there) frSize (by kernel_rfl) (hHeld.putC h8l.out hLb.out) (fun hHeld => ?_)
      ((try simp only [Act.put, List.setIfInBounds_toArray]); (try simp only [List.set_cons_zero, List.set_cons_succ]))
      replace h8 := Lib.hid (h8.out.put [.int .i64 nt, .int .i64 dt] rfl)
      replace h7 := Lib.hid (h7.out.aside (B' := Y.heap.size) [.int .i64 nt, .int .i64 dt] (Ne.symm hne.out))
      refine wpAnyH_done (by kernel_rfl) ?_ _
      have hbe := Lib.hid hHeld.bel
      go_wp2_with fail
      go_meet
      case rel => exact ⟨_, _, rfl, rfl, h7, h8, hbe⟩
  case rest =>
    obtain ⟨B7, B8, rfl, rfl, h7, h8, hbe⟩ := hcut
    have hx2 := Lib.hid (hx.out.below hbe.out)
    have hbz := Lib.hid (below_step hal.out hbe.out)
    have y2 := hx2.out.c 2 _ rfl
    have z0 := h7.out.c 0 _ rfl
    have z1 := h7.out.c 1 _ rfl
    have v0 := h8.out.c 0 _ rfl
    have v1 := h8.out.c 1 _ rfl
    have hdf : ¬ df = 0 := by omega
    have hdt : ¬ dt = 0 := by omega
    have hq1 : (p.tdiv df).natAbs ≤ p.natAbs := by rw [Int.natAbs_tdiv]; exact Nat.div_le_self _ _
    have hq2 : (p.tdiv dt).natAbs ≤ p.natAbs := by rw [Int.natAbs_tdiv]; exact Nat.div_le_self _ _
    have hm := mul_le_of (a := xd) (b := p) (M := 100000) (N := 4000000000) (by omega) (by omega) (by omega) (by omega)
    have hw1 : IntKind.i64.wrap (p.tdiv df) = p.tdiv df := wrap_small (by omega) (by omega)
    have hw1b : wrap64 (p.tdiv df) = p.tdiv df := by rw [← wrap_eq]; exact hw1
    have hw2 : IntKind.i64.wrap (p.tdiv dt) = p.tdiv dt := wrap_small (by omega) (by omega)
    have hw2b : wrap64 (p.tdiv dt) = p.tdiv dt := by rw [← wrap_eq]; exact hw2
    have hw3 : IntKind.i64.wrap (nf * p.tdiv df) = nf * p.tdiv df := wrap_small (by omega) (by omega)
    have hw3b : wrap64 (nf * p.tdiv df) = nf * p.tdiv df := by rw [← wrap_eq]; exact hw3
    have hw4 : IntKind.i64.wrap (nt * p.tdiv dt) = nt * p.tdiv dt := wrap_small (by omega) (by omega)
    have hw4b : wrap64 (nt * p.tdiv dt) = nt * p.tdiv dt := by rw [← wrap_eq]; exact hw4
    have hw5 : IntKind.i64.wrap (xd * p) = xd * p := wrap_small (by omega) (by omega)
    have hw5b : wrap64 (xd * p) = xd * p := by rw [← wrap_eq]; exact hw5
    have hw6 : IntKind.i64.wrap (xd * p - nt * p.tdiv dt) = xd * p - nt * p.tdiv dt := wrap_small (by omega) (by omega)
    have hw6b : wrap64 (xd * p - nt * p.tdiv dt) = xd * p - nt * p.tdiv dt := by rw [← wrap_eq]; exact hw6
    have hw7 : IntKind.i64.wrap (xd * p - nt * p.tdiv dt + nf * p.tdiv df) = xd * p - nt * p.tdiv dt + nf * p.tdiv df := wrap_small (by omega) (by omega)
    have hw7b : wrap64 (xd * p - nt * p.tdiv dt + nf * p.tdiv df) = xd * p - nt * p.tdiv dt + nf * p.tdiv df := by rw [← wrap_eq]; exact hw7
    clear hx hal y0 y1 c0 c1 c2 c3 hq1 hq2 hm hbxf hbxt
    go_wp2_with fail
    refine wp_region_held_drew (S := Sx wc [(w.heap.size, 2, .int .i64 xd), (B7, 0, .int .i64 nf), (B7, 1, .int .i64 df), (B8, 0, .int .i64 nt), (B8, 1, .int .i64 dt)]) (by kernel_rfl) (Sx.mk (by simp only [cs_iff_cons]; exact ⟨y2, z0, z1, v0, v1, cs_nil _⟩) (Below.refl _ _)).drew (fun hHeld => ?_)
    clear y2 z0 z1 v0 v1
    (refine tkH2 0 19 (v := ?_) ?_ ?_; rotate_left; focus (intro w' hSw; replace hSw := hSw.cs; (try simp only [cs_iff_cons] at hSw); go_simp; (try with_reducible rfl)); (try simp only [Act.put, List.setIfInBounds_toArray, List.set_cons_zero, List.set_cons_succ]))
    (refine tkH2 1 20 (v := ?_) ?_ ?_; rotate_left; focus (intro w' hSw; replace hSw := hSw.cs; (try simp only [cs_iff_cons] at hSw); go_simp; (try with_reducible rfl)); (try simp only [Act.put, List.setIfInBounds_toArray, List.set_cons_zero, List.set_cons_succ]))
    (refine tkH2 2 21 (v := ?_) ?_ ?_; rotate_left; focus (intro w' hSw; replace hSw := hSw.cs; (try simp only [cs_iff_cons] at hSw); go_simp; (try with_reducible rfl)); (try simp only [Act.put, List.setIfInBounds_toArray, List.set_cons_zero, List.set_cons_succ]))
    (refine tkH2 3 22 (v := ?_) ?_ ?_; rotate_left; focus (intro w' hSw; replace hSw := hSw.cs; (try simp only [cs_iff_cons] at hSw); go_simp; (try with_reducible rfl)); (try simp only [Act.put, List.setIfInBounds_toArray, List.set_cons_zero, List.set_cons_succ]))
    (refine tkH2 4 23 (v := ?_) ?_ ?_; rotate_left; focus (intro w' hSw; replace hSw := hSw.cs; (try simp only [cs_iff_cons] at hSw); go_simp; (try with_reducible rfl)); (try simp only [Act.put, List.setIfInBounds_toArray, List.set_cons_zero, List.set_cons_succ]))
    (refine tkH2 5 24 (v := ?_) ?_ ?_; rotate_left; focus (intro w' hSw; replace hSw := hSw.cs; (try simp only [cs_iff_cons] at hSw); go_simp; (try with_reducible rfl)); (try simp only [Act.put, List.setIfInBounds_toArray, List.set_cons_zero, List.set_cons_succ]))
    (refine tkH2 6 25 (v := ?_) ?_ ?_; rotate_left; focus (intro w' hSw; replace hSw := hSw.cs; (try simp only [cs_iff_cons] at hSw); go_simp; (try with_reducible rfl)); (try simp only [Act.put, List.setIfInBounds_toArray, List.set_cons_zero, List.set_cons_succ]))
    (refine tkH2 7 26 (v := ?_) ?_ ?_; rotate_left; focus (intro w' hSw; replace hSw := hSw.cs; (try simp only [cs_iff_cons] at hSw); go_simp; (try with_reducible rfl)); (try simp only [Act.put, List.setIfInBounds_toArray, List.set_cons_zero, List.set_cons_succ]))
    (refine tkH2 8 27 (v := ?_) ?_ ?_; rotate_left; focus (intro w' hSw; replace hSw := hSw.cs; (try simp only [cs_iff_cons] at hSw); go_simp; (try with_reducible rfl)); (try simp only [Act.put, List.setIfInBounds_toArray, List.set_cons_zero, List.set_cons_succ]))
    (refine tkH2 9 28 (v := ?_) ?_ ?_; rotate_left; focus (intro w' hSw; replace hSw := hSw.cs; (try simp only [cs_iff_cons] at hSw); go_simp; (try with_reducible rfl)); (try simp only [Act.put, List.setIfInBounds_toArray, List.set_cons_zero, List.set_cons_succ]))
    (refine tkH2 10 29 (v := ?_) ?_ ?_; rotate_left; focus (intro w' hSw; replace hSw := hSw.cs; (try simp only [cs_iff_cons] at hSw); go_simp; (try with_reducible rfl)); (try simp only [Act.put, List.setIfInBounds_toArray, List.set_cons_zero, List.set_cons_succ]))
    (refine tkH2 11 30 (v := ?_) ?_ ?_; rotate_left; focus (intro w' hSw; replace hSw := hSw.cs; (try simp only [cs_iff_cons] at hSw); go_simp; (try with_reducible rfl)); (try simp only [Act.put, List.setIfInBounds_toArray, List.set_cons_zero, List.set_cons_succ]))
    (refine tkH2 12 31 (v := ?_) ?_ ?_; rotate_left; focus (intro w' hSw; replace hSw := hSw.cs; (try simp only [cs_iff_cons] at hSw); go_simp; (try with_reducible rfl)); (try simp only [Act.put, List.setIfInBounds_toArray, List.set_cons_zero, List.set_cons_succ]))
    (refine tkH2 13 32 (v := ?_) ?_ ?_; rotate_left; focus (intro w' hSw; replace hSw := hSw.cs; (try simp only [cs_iff_cons] at hSw); go_simp; (try with_reducible rfl)); (try simp only [Act.put, List.setIfInBounds_toArray, List.set_cons_zero, List.set_cons_succ]))
    (refine tkH2 14 33 (v := ?_) ?_ ?_; rotate_left; focus (intro w' hSw; replace hSw := hSw.cs; (try simp only [cs_iff_cons] at hSw); go_simp; (try with_reducible rfl)); (try simp only [Act.put, List.setIfInBounds_toArray, List.set_cons_zero, List.set_cons_succ]))
    (refine tkH2 15 34 (v := ?_) ?_ ?_; rotate_left; focus (intro w' hSw; replace hSw := hSw.cs; (try simp only [cs_iff_cons] at hSw); go_simp; (try with_reducible rfl)); (try simp only [Act.put, List.setIfInBounds_toArray, List.set_cons_zero, List.set_cons_succ]))
    (refine tkH2 16 35 (v := ?_) ?_ ?_; rotate_left; focus (intro w' hSw; replace hSw := hSw.cs; (try simp only [cs_iff_cons] at hSw); go_simp; (try with_reducible rfl)); (try simp only [Act.put, List.setIfInBounds_toArray, List.set_cons_zero, List.set_cons_succ]))
    (refine tkH2 17 36 (v := ?_) ?_ ?_; rotate_left; focus (intro w' hSw; replace hSw := hSw.cs; (try simp only [cs_iff_cons] at hSw); go_simp; (try with_reducible rfl)); (try simp only [Act.put, List.setIfInBounds_toArray, List.set_cons_zero, List.set_cons_succ]))
    (refine tkH2 18 37 (v := ?_) ?_ ?_; rotate_left; focus (intro w' hSw; replace hSw := hSw.cs; (try simp only [cs_iff_cons] at hSw); go_simp; (try with_reducible rfl)); (try simp only [Act.put, List.setIfInBounds_toArray, List.set_cons_zero, List.set_cons_succ]))
    (refine tkH2 19 38 (v := ?_) ?_ ?_; rotate_left; focus (intro w' hSw; replace hSw := hSw.cs; (try simp only [cs_iff_cons] at hSw); go_simp; (try with_reducible rfl)); (try simp only [Act.put, List.setIfInBounds_toArray, List.set_cons_zero, List.set_cons_succ]))
    (refine tkH2 20 6 (v := ?_) ?_ ?_; rotate_left; focus (intro w' hSw; replace hSw := hSw.cs; (try simp only [cs_iff_cons] at hSw); go_simp; (try with_reducible rfl)); (try simp only [Act.put, List.setIfInBounds_toArray, List.set_cons_zero, List.set_cons_succ]))
    refine wpAnyH_done (by kernel_rfl) ?_ _
    ((try simp only [Act.put, List.setIfInBounds_toArray]); (try simp only [List.set_cons_zero, List.set_cons_succ]))
    have hbf := Lib.hid (below_step hbz.out hHeld.bel)
    clear hHeld
    go_wp2_with fail
    go_ret
    exact ⟨rfl, hbf.out⟩
end Go.Proofs.Ytofaonigcojcaaa
