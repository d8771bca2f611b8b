/- What the statements rest on: definitions and walks, part 25. -/
import Derived.Test.YthfokpchdlcidaaJ24
set_option maxRecDepth 100000
set_option maxHeartbeats 16000000
set_option linter.unusedSimpArgs false
set_option linter.unusedVariables false
namespace Go.Proofs.Ythfokpchdlcidaa
open Go Go.RowKit Go.Shelf
theorem GcdR_any (a b : Int) (w : World) (hb : 0 < b) (hb2 : b ≤ 9223372036854775807) : Calls Try.prog 62 #[.int .i64 a,.int .i64 b] w fun e w'=>e = .returned (.int .i64 (Int.gcd a b : Int)) ∧ Below w.heap.size w w':=by
 have hst : Hid (GcI a b a b):=⟨rfl,.inl ⟨rfl,rfl⟩⟩
 have hb0 : Hid (Below w.heap.size w w):=Below.refl _ _
 go_enter Try.func62,Try.ntmps62
 go_wp2_with fail
 go_loopw [0,1] (fun x y wr=>∃ p q : Int,x = .int .i64 p ∧ y = .int .i64 q ∧ Hid (GcI a b p q) ∧ Hid (Below w.heap.size w wr)) (fun _ y _=>(intOf y).natAbs)
 case atStart=>exact ⟨a,b,rfl,rfl,hst,hb0⟩
 case round =>
  clear hst hb0
  obtain ⟨p,q,rfl,rfl,hs,hB⟩:=hrel
  by_cases hq : q = 0
  ·subst hq
   have hr : Hid ((Int.gcd a b : Int) = (p.natAbs : Int)):=by
    have h:=hs.out.1
    rw [Cal.gcd_end] at h
    show _ = _
    rw [← h]
   have hp : -9223372036854775807 ≤ p ∧ p ≤ 9223372036854775807:=by
    rcases hs.out.2 with ⟨h1,h2⟩ | ⟨h1,h2⟩
    ·omega
    ·omega
   have habs:=Lib.hid (fun W=>absG_any p hp.1 hp.2 W)
   clear hs
   go_wp2_with (go_at_call 90;refine (habs.out _).mono ?_;rintro e1 wn ⟨rfl,rfl⟩)
   go_ret
   exact ⟨ret_int hr.out.symm,hB.out⟩
  ·have hlt:=tmod_abs (a:=p) hq
   have hqb : q.natAbs ≤ b.natAbs:=by
    rcases hs.out.2 with ⟨h1,h2⟩ | ⟨h1,h2⟩
    ·rw [h2];exact Nat.le_refl _
    ·omega
   have hw : IntKind.i64.wrap (p.tmod q) = p.tmod q:=wrap_small (by omega) (by omega)
   have hs2 : Hid (GcI a b q (p.tmod q)):=⟨(Cal.gcd_step p q).trans hs.out.1,.inr ⟨hlt,hqb⟩⟩
   clear hs
   go_wp2_with fail
   refine wp_region_held_drew (S:=Sx wr []) (by kernel_rfl) (Sx.mk (cs_nil _) (Below.refl _ _)).drew (fun hHeld=>?_)
   refine tkHx 0 7 ?_
   refine tkHx 1 8 ?_
   refine tkHx 2 9 ?_
   refine tkHx 3 10 ?_
   refine tkHx 4 0 ?_
   refine tkHx 5 1 ?_
   refine wpAnyH_done (by kernel_rfl) ?_ _
   (try simp only [apS,apN,siA,scZ,scS])
   have hB2:=Lib.hid (hB.out.trans (hHeld.bel.mono hB.out.size))
   clear hHeld
   go_wp2_with fail
   go_roundw
   case rel=>exact ⟨q,p.tmod q,rfl,by first | rfl | rw [hw],hs2,hB2⟩
   case measure=>exact hlt
theorem LowestR_any (a b : Int) (w : World) (ha : -9223372036854775808 ≤ a ∧ a ≤ 9223372036854775807) (hb : 0 < b) (hb2 : b ≤ 9223372036854775807) :
  Calls Try.prog 38 #[.int .i64 a,.int .i64 b] w fun e w'=>e = .returned (.agg #[.int .i64 (Cal.lowN a b),.int .i64 (Cal.lowD a b)]) ∧ Below w.heap.size w w':=by
 have hgp:=Cal.gcd_pos (a:=a) hb
 obtain ⟨ha1,ha2⟩:=ha
 have hcall:=Lib.hid (fun W=>GcdR_any a b W hb hb2)
 have hN : Hid (Cal.lowN a b = a.tdiv (Int.gcd a b : Int)):=rfl
 have hD : Hid (Cal.lowD a b = b.tdiv (Int.gcd a b : Int)):=rfl
 have e1 : (a.tdiv (Int.gcd a b : Int)).natAbs ≤ a.natAbs:=by rw [Int.natAbs_tdiv];exact Nat.div_le_self _ _
 have e2 : (b.tdiv (Int.gcd a b : Int)).natAbs ≤ b.natAbs:=by rw [Int.natAbs_tdiv];exact Nat.div_le_self _ _
 have e3 : 0 ≤ b.tdiv (Int.gcd a b : Int):=Int.tdiv_nonneg (by omega) (by omega)
 have e4 : 0 ≤ a → 0 ≤ a.tdiv (Int.gcd a b : Int):=fun h=>Int.tdiv_nonneg h (by omega)
 have e5 : a < 0 → a.tdiv (Int.gcd a b : Int) ≤ 0:=fun h=>by
  have:=Int.tdiv_nonneg (a:=-a) (b:=(Int.gcd a b : Int)) (by omega) (by omega)
  rw [Int.neg_tdiv] at this
  omega
 generalize Int.gcd a b = g at *
 have w1 : IntKind.i64.wrap (a.tdiv (g : Int)) = a.tdiv (g : Int):=wrap_small (by omega) (by omega)
 have w2 : IntKind.i64.wrap (b.tdiv (g : Int)) = b.tdiv (g : Int):=wrap_small (by omega) (by omega)
 have hg0 : ¬ (g : Int) = 0:=by omega
 have hg1 : ¬ g = 0:=by omega
 have hbn : ¬ b < 0:=by omega
 have hb0:=BoxAt.new w #[.int .i64 0,.int .i64 0] 70
 have hal:=below_alloc w (.cells #[.int .i64 0,.int .i64 0] 70)
 replace hb0:=Lib.hid hb0
 replace hal:=Lib.hid hal
 rw [hN.out,hD.out]
 clear e1 e2 e3 e4 e5 hN hD
 go_enter Try.func38,Try.ntmps38
 go_wp2_with (go_at_call 62;refine (hcall.out _).mono ?_;rintro e0 w2 ⟨rfl,hbn⟩;replace hb0:=Lib.hid (hb0.out.below hbn);have hbw:=Lib.hid (below_step hal.out hbn);clear hbn hal hcall;have x0:=hb0.out.c 0 _ rfl;have x1:=hb0.out.c 1 _ rfl;have f0:=hb0.out.free 0 (by simp);have f1:=hb0.out.free 1 (by simp))
 refine wp_region_held_drew (S:=FrK w) (by kernel_rfl) ⟨_,_,hb0.out.below ((Below.refl _ _).drew),hbw.out.drew⟩ (fun hHeld=>?_)
 clear x0 x1 f0 f1
 generalize w2.drew = W9 at *
 (refine tkH2 0 13 (v:=?_) ?_ ?_;rotate_left;focus (intro w' hSw;clear hSw;go_simp;(try with_reducible rfl));(try simp only [Act.put,List.setIfInBounds_toArray,List.set_cons_zero,List.set_cons_succ]))
 (refine tkH2 1 14 (v:=?_) ?_ ?_;rotate_left;focus (intro w' hSw;clear hSw;go_simp;(try with_reducible rfl));(try simp only [Act.put,List.setIfInBounds_toArray,List.set_cons_zero,List.set_cons_succ]))
 (refine tkH2 2 15 (v:=?_) ?_ ?_;rotate_left;focus (intro w' hSw;clear hSw;go_simp;(try with_reducible rfl));(try simp only [Act.put,List.setIfInBounds_toArray,List.set_cons_zero,List.set_cons_succ]))
 (refine tkH2 3 16 (v:=?_) ?_ ?_;rotate_left;focus (intro w' hSw;clear hSw;go_simp;(try with_reducible rfl));(try simp only [Act.put,List.setIfInBounds_toArray,List.set_cons_zero,List.set_cons_succ]))
 (refine tkH2 4 17 (v:=?_) ?_ ?_;rotate_left;focus (intro w' hSw;clear hSw;go_simp;(try with_reducible rfl));(try simp only [Act.put,List.setIfInBounds_toArray,List.set_cons_zero,List.set_cons_succ]))
 (refine tkH2 5 18 (v:=?_) ?_ ?_;rotate_left;focus (intro w' hSw;clear hSw;go_simp;(try with_reducible rfl));(try simp only [Act.put,List.setIfInBounds_toArray,List.set_cons_zero,List.set_cons_succ]))
 (refine tkH2 6 19 (v:=?_) ?_ ?_;rotate_left;focus (intro w' hSw;clear hSw;go_simp;(try with_reducible rfl));(try simp only [Act.put,List.setIfInBounds_toArray,List.set_cons_zero,List.set_cons_succ]))
 obtain ⟨z0,z1,hz,hzb⟩:=hHeld
 have x0:=hz.c 0 _ rfl
 have x1:=hz.c 1 _ rfl
 have f0:=hz.free 0 (by simp)
 have f1:=hz.free 1 (by simp)
 have hz9:=Lib.hid ((hz.set 0 (.int .i64 (a.tdiv (g : Int))) (by simp)).set 1 (.int .i64 (b.tdiv (g : Int))) (by simp))
 have hzb9:=Lib.hid ((hzb.setCell (p:=⟨w.heap.size,0,none⟩) (Nat.le_refl _) (.int .i64 (a.tdiv (g : Int)))).setCell (p:=⟨w.heap.size,1,none⟩) (Nat.le_refl _) (.int .i64 (b.tdiv (g : Int))))
 (refine ratHx 7 (fun K hK=>?_);go_simp)
 refine hK.out _ _ ⟨_,_,hz9.out,hzb9.out⟩ (fun hHeld=>?_)
 clear hK K hHeld
 (try simp only [apS,apN,siA,scZ,scS])
 refine wpAnyH_done (by kernel_rfl) ?_ _
 go_wp2_with fail
 refine bodyPost_ret (results_mid1 rfl _ _ w.heap.size [.int .i64 (a.tdiv (g : Int)),.int .i64 (b.tdiv (g : Int))] _ rfl hz9.out.range Try.underlying70 rfl frSize) rfl ⟨rfl,hzb9.out⟩
end Go.Proofs.Ythfokpchdlcidaa
namespace Go.Proofs.Ythfokpchdlcidaa
open Go Go.RowKit Go.Shelf
theorem fr_at {w : World} {A : Option Addr} {l : List (Int × Int)} (h : RowsAt w A 2 (l.map frR)) {k : Nat} {x : Int × Int} (hk : l[k]? = some x) :
  ∃ b o,A = some ⟨b,o,none⟩ ∧ b < w.heap.size ∧ w.cell? ⟨b,o + k * 2,none⟩ = some (.int .i64 x.1) ∧ w.cell? ⟨b,o + k * 2 + 1,none⟩ = some (.int .i64 x.2):=by
 obtain ⟨b,o,hA,hlt,hc⟩:=h k (frR x) (by simp [hk])
 exact ⟨b,o,hA,hlt,hc 0 _ rfl,hc 1 _ rfl⟩
theorem Cal.big_cases {n d : Int} (hd : 1 ≤ d) :
  (Cal.bigH (n,d) = true ∧ (2000000 < n.tdiv d ∨ (¬ 2000000 < n.tdiv d ∧ n.tdiv d < -2000000) ∨ (¬ 2000000 < n.tdiv d ∧ ¬ n.tdiv d < -2000000 ∧ ((n.tdiv d).natAbs : Int) = 2000000 ∧ n.tmod d ≠ 0))) ∨
  (Cal.bigH (n,d) = false ∧ ¬ 2000000 < n.tdiv d ∧ ¬ n.tdiv d < -2000000 ∧ (¬ ((n.tdiv d).natAbs : Int) = 2000000 ∨ (((n.tdiv d).natAbs : Int) = 2000000 ∧ n.tmod d = 0))):=by
 have h1 : (n.tdiv d).natAbs = n.natAbs / d.natAbs:=Int.natAbs_tdiv n d
 have h2:=Int.natAbs_tmod n d
 have h3:=Nat.div_add_mod n.natAbs d.natAbs
 have h4:=Nat.mod_lt n.natAbs (show 0 < d.natAbs by omega)
 have hD : (d.natAbs : Int) = d:=by omega
 generalize n.tdiv d = q at *
 generalize n.tmod d = r at *
 unfold Cal.bigH
 dsimp only
 by_cases hb : 2000000 * d < (n.natAbs : Int)
 ·left
  refine ⟨decide_eq_true hb,?_⟩
  have hq : 2000000 ≤ q.natAbs:=by
   rw [h1]
   refine (Nat.le_div_iff_mul_le (by omega)).2 ?_
   omega
  by_cases hq2 : q.natAbs = 2000000
  ·rw [← h1,hq2,← h2] at h3
   omega
  ·omega
 ·right
  have hq : q.natAbs ≤ 2000000:=by
   rw [h1]
   refine Nat.le_of_lt_succ ((Nat.div_lt_iff_lt_mul (by omega)).2 ?_)
   rw [Nat.succ_mul]
   omega
  refine ⟨decide_eq_false hb,by omega,by omega,?_⟩
  by_cases hq2 : q.natAbs = 2000000
  ·right
   rw [← h1,hq2,← h2] at h3
   omega
  ·left;omega
end Go.Proofs.Ythfokpchdlcidaa
namespace Go.Proofs.Ythfokpchdlcidaa
open Go Go.RowKit Go.Shelf
theorem wrap_u {n : Int} (h0 : 0 ≤ n) (h1 : n < 18446744073709551616) : IntKind.u64.wrap n = n:=by rw [wrap_u64];omega
theorem Cal.big_nat {n d : Int} (hd : 1 ≤ d) : (Cal.bigH (n,d) = true ∧ (2000000 < n.natAbs / d.natAbs ∨ (n.natAbs / d.natAbs = 2000000 ∧ 0 < n.natAbs % d.natAbs))) ∨ (Cal.bigH (n,d) = false ∧ ¬ 2000000 < n.natAbs / d.natAbs ∧ (¬ n.natAbs / d.natAbs = 2000000 ∨ (n.natAbs / d.natAbs = 2000000 ∧ n.natAbs % d.natAbs = 0))):=by
 have h1:=Int.natAbs_tdiv n d
 have h2:=Int.natAbs_tmod n d
 have h3 : (n.tdiv d).natAbs = n.natAbs / d.natAbs:=h1
 rcases Cal.big_cases (n:=n) hd with ⟨a,b⟩ | ⟨a,b,c,e⟩
 ·left;refine ⟨a,?_⟩
  rw [← h3,← h2]
  omega
 ·right;refine ⟨a,?_⟩
  rw [← h3,← h2]
  omega
theorem scaled_any (N : Int) (A : Option Addr) (c : Nat) (fr : List (Int × Int)) (w : World) (hF : RowsAt w A 2 (fr.map frR)) (hs : fr.length ≤ 1000000)
  (hv : ∀ h ∈ fr,(-9223372036854775808 ≤ h.1 ∧ h.1 ≤ 9223372036854775807) ∧ (-9223372036854775808 ≤ h.2 ∧ h.2 ≤ 9223372036854775807)) :
  Calls Try.prog 63 #[.int .i64 N,.slice A fr.length c] w fun e w'=>∃ v,e = .returned (.tuple #[v,.int .i64 (Cal.sclP N fr),.int .i64 (Cal.sclE N fr)]) ∧ IntsL w' w.heap.size v (Cal.sclL N fr) ∧ Below w.heap.size w w':=by
 have hb0 : Hid (Below w.heap.size w w):=Below.refl _ _
 obtain ⟨E,hE⟩ : ∃ E,Cal.sclE N fr = E:=⟨_,rfl⟩
 obtain ⟨R,hR⟩ : ∃ R,Cal.sclP N fr = R:=⟨_,rfl⟩
 obtain ⟨L,hL⟩ : ∃ L,Cal.sclL N fr = L:=⟨_,rfl⟩
 rw [hE,hR,hL]
 replace hL : Hid ((if E = 0 then fr.map (Cal.sclH R) else []) = L):=by show _ = _;rw [← hL,← hE,← hR];rfl
 unfold Cal.sclE at hE
 unfold Cal.sclP at hR
 by_cases hlen : (fr.length : Int) = N
 ·rw [if_pos hlen] at hE hR
  have hS0 : Hid (Cal.scl 1 fr = Cal.scl 1 (fr.drop 0)):=rfl
  have hEE : Hid ((Cal.scl 1 fr).1 = E):=hE
  have hRR : Hid ((if (Cal.scl 1 fr).1 = 0 then (Cal.scl 1 fr).2 else 0) = R):=hR
  replace hF:=Lib.hid hF
  replace hv:=Lib.hid hv
  subst hlen
  clear hE hR
  go_enter Try.func63,Try.ntmps63
  go_wp2_with fail
  go_loopw [7,25] (fun pv i wr=>∃ (k : Nat) (p : Int),k ≤ fr.length ∧ i = .int .i64 k ∧ pv = .int .i64 p ∧ 1 ≤ p ∧ p ≤ 4000000000 ∧ Hid (Cal.scl 1 fr = Cal.scl p (fr.drop k)) ∧ Hid (Below w.heap.size w wr)) (fun _ i _=>fr.length - (intOf i).toNat)
  case atStart=>exact ⟨0,1,Nat.zero_le _,rfl,rfl,by decide,by decide,hS0,hb0⟩
  case round =>
   clear hS0 hb0
   obtain ⟨k,p,hk,rfl,rfl,hp1,hp2,hS,hB0⟩:=hrel
   by_cases hlt : k < fr.length
   ·have hk' : fr[k]? = some fr[k]:=List.getElem?_eq_getElem hlt
    have hd:=Cal.scl_drop (p:=p) hlt
    obtain ⟨⟨n1,n2⟩,⟨d1,d2⟩⟩:=hv.out _ (List.getElem_mem hlt)
    have hki : (k : Int) < (fr.length : Int):=by omega
    generalize fr[k] = h at *
    obtain ⟨b,o,rfl,hbl,c0,c1⟩:=fr_at (hF.out.below hB0.out) hk'
    obtain ⟨num,den⟩:=h
    dsimp only at *
    have hx:=Lib.hid (BoxAt.new wr #[.int .i64 num,.int .i64 den] 70)
    have hB:=Lib.hid (below_step hB0.out (below_alloc wr (.cells #[.int .i64 num,.int .i64 den] 70)))
    have hbad : Hid (∀ v,v ≠ 0 → Cal.hErr p (num,den) = v → E = v ∧ R = 0):=fun v hv0 hz=>by
     rw [hz,if_neg hv0] at hd
     have e1 : Cal.scl 1 fr = (v,0):=hS.out.trans hd
     have e2:=hEE.out
     have e3:=hRR.out
     rw [e1] at e2 e3
     rw [if_neg hv0] at e3
     exact ⟨e2.symm,e3.symm⟩
    have hgood : Hid (Cal.hErr p (num,den) = 0 → Cal.scl 1 fr = Cal.scl (p * Cal.more p den) (fr.drop (k + 1))):=fun hz=>by
     rw [hz,if_pos rfl] at hd
     exact hS.out.trans hd
    clear hd hS hk'
    by_cases hd1 : den < 1
    ·obtain ⟨e1,e2⟩:=hbad.out 3 (by decide) (by unfold Cal.hErr;exact if_pos hd1)
     replace e1:=Lib.hid e1
     replace e2:=Lib.hid e2
     clear hbad hgood
     go_wp2_with fail
     go_ret3
     exact ⟨_,by rw [e1.out,e2.out];rfl,by rw [← hL.out,e1.out,if_neg (by decide)];exact OwnL.nil _ _ _ _,hB.out⟩
    have y0:=hx.out.c 0 _ rfl
    have y1:=hx.out.c 1 _ rfl
    have hwd : IntKind.u64.wrap den = den:=wrap_u (by omega) (by omega)
    have hsize:=Lib.hid (fun W=>size_any num W n1 n2)
    go_wp2_with fail
    refine wp_region_held_drew (S:=Sx (wr.alloc (.cells #[.int .i64 num,.int .i64 den] 70)) [(wr.heap.size,0,.int .i64 num),(wr.heap.size,1,.int .i64 den)]) (by kernel_rfl) (Sx.mk (by simp only [cs_iff_cons];exact ⟨y0,y1,cs_nil _⟩) (Below.refl _ _)).drew (fun hHeld=>?_)
    clear y0 y1 c0 c1
    refine tkHx 0 32 ?_
    refine tkHx 1 33 ?_
    refine tkHx 3 35 ?_
    refine tkHx 4 36 ?_
    refine tkHx 5 37 ?_
    (refine ratHx 2 (fun K hK=>?_);go_simp)
    refine (hsize.out _).mono ?_
    rintro e0 wz ⟨rfl,rfl⟩
    go_simp
    (refine hK.out _ _ hHeld (fun hHeld=>?_);clear hK K;(try simp only [apS,apN,siA,scZ,scS]))
    refine tkHx 6 10 ?_
    refine tkHx 7 11 ?_
    refine wpAnyH_done (by kernel_rfl) ?_ _
    (try simp only [apS,apN,siA,scZ,scS])
    replace hx:=Lib.hid (hx.out.below hHeld.bel)
    replace hB:=Lib.hid (below_step hB.out hHeld.bel)
    clear hHeld hwd hsize
    generalize (wr.alloc (.cells #[.int .i64 num,.int .i64 den] 70)).drew = w2 at *
    generalize wr.heap.size = Bx at *
    obtain ⟨nd,rfl⟩ : ∃ nd : Nat,den = (nd : Int):=⟨den.toNat,by omega⟩
    have hgE : Hid (Int.gcd num (nd : Int) = Nat.gcd num.natAbs nd):=rfl
    have hbn:=Cal.big_nat (n:=num) (d:=(nd : Int)) (by omega)
    rw [Int.natAbs_natCast] at hbn
    have hna : (num.natAbs : Int) ≤ 9223372036854775808:=by omega
    generalize num.natAbs = na at *
    go_wp2_with fail
    go_loopw [12,13] (fun a b wi=>∃ x y : Nat,a = .int .u64 (x : Int) ∧ b = .int .u64 (y : Int) ∧ (x : Int) ≤ 9223372036854775808 ∧ (y : Int) ≤ 9223372036854775808 ∧ Hid (Nat.gcd x y = Nat.gcd na nd) ∧ Hid (BoxAt wi Bx [.int .i64 num,.int .i64 (nd : Int)]) ∧ Hid (Below w.heap.size w wi)) (fun _ b _=>(intOf b).toNat)
    case atStart=>exact ⟨na,nd,rfl,rfl,hna,by omega,(show Nat.gcd na nd = Nat.gcd na nd from rfl),hx,hB⟩
    case round =>
     clear hx hB
     obtain ⟨x,y,rfl,rfl,hx1,hy1,hg,hx,hB⟩:=hrel
     by_cases hy : y = 0
     ·subst hy
      have hxg : x = Nat.gcd na nd:=by have:=hg.out;rwa [Nat.gcd_zero_right] at this
      by_cases hx11 : x = 1
      ·subst hx11
       have hgc : Int.gcd num (nd : Int) = 1:=by rw [hgE.out];omega
       have hndn : ¬ (nd : Int) = 0:=by omega
       have hndn2 : ¬ nd = 0:=by omega
       have hdiv : (na : Int).tdiv (nd : Int) = ((na / nd : Nat) : Int):=rfl
       have hmod : (na : Int).tmod (nd : Int) = ((na % nd : Nat) : Int):=rfl
       have hq1:=Nat.div_le_self na nd
       have hq2:=Nat.mod_le na nd
       have y0:=hx.out.c 0 _ rfl
       have y1:=hx.out.c 1 _ rfl
       clear hgE hxg hg
       have hdivH:=Lib.hid hdiv
       have hmodH:=Lib.hid hmod
       clear hdiv hmod
       generalize na / nd = Q at *
       generalize na % nd = M at *
       have hdv : (na : Int).tdiv (nd : Int) = (Q : Int):=hdivH.out
       have hmv : (na : Int).tmod (nd : Int) = (M : Int):=hmodH.out
       have hw1 : IntKind.u64.wrap (Q : Int) = (Q : Int):=wrap_u (by omega) (by omega)
       have hw2 : IntKind.u64.wrap (M : Int) = (M : Int):=wrap_u (by omega) (by omega)
       rcases hbn with ⟨hbg,hcs⟩ | ⟨hbg,hcs1,hcs⟩
       ·obtain ⟨e1,e2⟩:=hbad.out 2 (by decide) (by unfold Cal.hErr;rw [if_neg (by simpa using hd1),if_neg (by simpa using hgc),if_pos hbg])
        replace e1:=Lib.hid e1
        replace e2:=Lib.hid e2
        clear hbad hgood hbg hgc
        rcases hcs with hcs | ⟨hcs,hcs2⟩
        ·have hcsi : (2000000 : Int) < (Q : Int):=by omega
         go_wp2_with fail
         go_ret3
         exact ⟨_,by rw [e1.out,e2.out];rfl,by rw [← hL.out,e1.out,if_neg (by decide)];exact OwnL.nil _ _ _ _,hB.out⟩
        ·subst hcs
         have hcsi : (0 : Int) < (M : Int):=by omega
         go_wp2_with fail
         go_ret3
         exact ⟨_,by rw [e1.out,e2.out];rfl,by rw [← hL.out,e1.out,if_neg (by decide)];exact OwnL.nil _ _ _ _,hB.out⟩
       ·have hcsi : ¬ (2000000 : Int) < (Q : Int):=by omega
        clear hcs1
        rcases hcs with hcs | ⟨hcs,hcs2⟩
        ·have hqb : ((Q : Int) == 2000000) = false:=by simp;omega
         have hqn : ¬ (Q : Int) = 2000000:=by omega
         clear hcs
         go_wp2_with fail
         have hcall:=Lib.hid (fun W=>gcd_any p (nd : Int) W (by omega) (by omega))
         have hg3 : (0 : Int) < (Int.gcd p (nd : Int) : Int):=by have:=Cal.gcd_pos (a:=p) (b:=(nd : Int)) (by omega);omega
         have hmo : Hid (Cal.more p (nd : Int) = (nd : Int).tdiv (Int.gcd p (nd : Int) : Int)):=rfl
         have hte:=Int.tdiv_eq_ediv_of_nonneg (a:=(nd : Int)) (b:=(Int.gcd p (nd : Int) : Int)) (by omega)
         rw [hte] at hmo
         have hm0 : 0 ≤ (nd : Int) / (Int.gcd p (nd : Int) : Int):=by rw [← hte];exact Int.tdiv_nonneg (by omega) (by omega)
         have hm1 : (nd : Int) / (Int.gcd p (nd : Int) : Int) ≤ (nd : Int):=by
          rw [← hte]
          have h0 : 0 ≤ (nd : Int).tdiv (Int.gcd p (nd : Int) : Int):=Int.tdiv_nonneg (by omega) (by omega)
          have : ((nd : Int).tdiv (Int.gcd p (nd : Int) : Int)).natAbs ≤ (nd : Int).natAbs:=by rw [Int.natAbs_tdiv];exact Nat.div_le_self _ _
          omega
         clear hte
         generalize Int.gcd p (nd : Int) = g2 at *
         have hgn : ¬ (g2 : Int) = 0:=by omega
         have hgn2 : ¬ g2 = 0:=by omega
         have hw3 : IntKind.i64.wrap ((nd : Int) / (g2 : Int)) = (nd : Int) / (g2 : Int):=wrap_small (by omega) (by omega)
         have hw3b : wrap64 ((nd : Int) / (g2 : Int)) = (nd : Int) / (g2 : Int):=by rw [← wrap_eq];exact hw3
         refine wp_region_held_drew (S:=Sx wr [(Bx,1,.int .i64 (nd : Int))]) (by kernel_rfl) (Sx.mk (by simp only [cs_iff_cons];exact ⟨y1,cs_nil _⟩) (Below.refl _ _)).drew (fun hHeld=>?_)
         clear y0 y1
         refine tkHx 0 63 ?_
         refine tkHx 1 64 ?_
         refine tkHx 2 65 ?_
         refine tkHx 3 66 ?_
         refine tkHx 4 67 ?_
         (refine ratHx 5 (fun K hK=>?_);go_simp)
         refine (hcall.out _).mono ?_
         rintro e wn ⟨rfl,hbn⟩
         go_simp
         (refine hK.out _ _ (hHeld.step hbn) (fun hHeld=>?_);clear hK K;(try simp only [apS,apN,siA,scZ,scS]))
         refine tkHx 6 69 ?_
         refine tkHx 7 15 ?_
         refine wpAnyH_done (by kernel_rfl) ?_ _
         (try simp only [apS,apN,siA,scZ,scS])
         replace hx:=Lib.hid (hx.out.below hHeld.bel)
         replace hB:=Lib.hid (below_step hB.out hHeld.bel)
         clear hHeld hcall hdv hmv hw1 hw2 hdivH hmodH
         have ht0 : 0 ≤ (4000000000 : Int).tdiv p:=Int.tdiv_nonneg (by omega) (by omega)
         have ht1 : (4000000000 : Int).tdiv p ≤ 4000000000:=by
          have : ((4000000000 : Int).tdiv p).natAbs ≤ (4000000000 : Int).natAbs:=by rw [Int.natAbs_tdiv];exact Nat.div_le_self _ _
          omega
         have hw4 : IntKind.i64.wrap ((4000000000 : Int).tdiv p) = (4000000000 : Int).tdiv p:=wrap_small (by omega) (by omega)
         have hpn : ¬ p = 0:=by omega
         have hhz : Hid (Cal.hErr p (num,(nd : Int)) = if (4000000000 : Int).tdiv p < (nd : Int) / (g2 : Int) then 8 else 0):=by
          show _ = _
          unfold Cal.hErr
          dsimp only
          rw [if_neg (by omega),if_neg (by simpa using hgc),if_neg (by rw [hbg];decide),hmo.out]
         by_cases hlg : (4000000000 : Int).tdiv p < (nd : Int) / (g2 : Int)
         ·obtain ⟨e1,e2⟩:=hbad.out 8 (by decide) (by rw [hhz.out,if_pos hlg])
          replace e1:=Lib.hid e1
          replace e2:=Lib.hid e2
          clear hbad hgood hbg hmo hhz hm0 hm1 ht0 ht1 hgc
          go_wp2_with fail
          go_ret3
          exact ⟨_,by rw [e1.out,e2.out];rfl,by rw [← hL.out,e1.out,if_neg (by decide)];exact OwnL.nil _ _ _ _,hB.out⟩
         ·have hnx:=Lib.hid (hgood.out (by rw [hhz.out,if_neg hlg]))
          have hpl:=Cal.part_le (p:=p) (d:=(nd : Int)) (by omega) (by omega) (by rw [hmo.out];exact Int.not_lt.1 hlg)
          rw [hmo.out] at hpl
          rw [hmo.out] at hnx
          have hw5 : IntKind.i64.wrap (p * ((nd : Int) / (g2 : Int))) = p * ((nd : Int) / (g2 : Int)):=wrap_small (by omega) (by omega)
          have hw5b : wrap64 (p * ((nd : Int) / (g2 : Int))) = p * ((nd : Int) / (g2 : Int)):=by rw [← wrap_eq];exact hw5
          clear hbad hgood hbg hmo hhz hm0 hm1 ht0 ht1 hgc
          go_wp2_with fail
          go_roundw
          case rel=>exact ⟨k + 1,_,by omega,by go_num,rfl,hpl.1,hpl.2,hnx,hB⟩
          case measure=>simp [intOf];omega
        ·subst hcs hcs2
         go_wp2_with fail
         have hcall:=Lib.hid (fun W=>gcd_any p (nd : Int) W (by omega) (by omega))
         have hg3 : (0 : Int) < (Int.gcd p (nd : Int) : Int):=by have:=Cal.gcd_pos (a:=p) (b:=(nd : Int)) (by omega);omega
         have hmo : Hid (Cal.more p (nd : Int) = (nd : Int).tdiv (Int.gcd p (nd : Int) : Int)):=rfl
         have hte:=Int.tdiv_eq_ediv_of_nonneg (a:=(nd : Int)) (b:=(Int.gcd p (nd : Int) : Int)) (by omega)
         rw [hte] at hmo
         have hm0 : 0 ≤ (nd : Int) / (Int.gcd p (nd : Int) : Int):=by rw [← hte];exact Int.tdiv_nonneg (by omega) (by omega)
         have hm1 : (nd : Int) / (Int.gcd p (nd : Int) : Int) ≤ (nd : Int):=by
          rw [← hte]
          have h0 : 0 ≤ (nd : Int).tdiv (Int.gcd p (nd : Int) : Int):=Int.tdiv_nonneg (by omega) (by omega)
          have : ((nd : Int).tdiv (Int.gcd p (nd : Int) : Int)).natAbs ≤ (nd : Int).natAbs:=by rw [Int.natAbs_tdiv];exact Nat.div_le_self _ _
          omega
         clear hte
         generalize Int.gcd p (nd : Int) = g2 at *
         have hgn : ¬ (g2 : Int) = 0:=by omega
         have hgn2 : ¬ g2 = 0:=by omega
         have hw3 : IntKind.i64.wrap ((nd : Int) / (g2 : Int)) = (nd : Int) / (g2 : Int):=wrap_small (by omega) (by omega)
         have hw3b : wrap64 ((nd : Int) / (g2 : Int)) = (nd : Int) / (g2 : Int):=by rw [← wrap_eq];exact hw3
         refine wp_region_held_drew (S:=Sx wr [(Bx,1,.int .i64 (nd : Int))]) (by kernel_rfl) (Sx.mk (by simp only [cs_iff_cons];exact ⟨y1,cs_nil _⟩) (Below.refl _ _)).drew (fun hHeld=>?_)
         clear y0 y1
         refine tkHx 0 63 ?_
         refine tkHx 1 64 ?_
         refine tkHx 2 65 ?_
         refine tkHx 3 66 ?_
         refine tkHx 4 67 ?_
         (refine ratHx 5 (fun K hK=>?_);go_simp)
         refine (hcall.out _).mono ?_
         rintro e wn ⟨rfl,hbn⟩
         go_simp
         (refine hK.out _ _ (hHeld.step hbn) (fun hHeld=>?_);clear hK K;(try simp only [apS,apN,siA,scZ,scS]))
         refine tkHx 6 69 ?_
         refine tkHx 7 15 ?_
         refine wpAnyH_done (by kernel_rfl) ?_ _
         (try simp only [apS,apN,siA,scZ,scS])
         replace hx:=Lib.hid (hx.out.below hHeld.bel)
         replace hB:=Lib.hid (below_step hB.out hHeld.bel)
         clear hHeld hcall hdv hmv hw1 hw2 hdivH hmodH
         have ht0 : 0 ≤ (4000000000 : Int).tdiv p:=Int.tdiv_nonneg (by omega) (by omega)
         have ht1 : (4000000000 : Int).tdiv p ≤ 4000000000:=by
          have : ((4000000000 : Int).tdiv p).natAbs ≤ (4000000000 : Int).natAbs:=by rw [Int.natAbs_tdiv];exact Nat.div_le_self _ _
          omega
         have hw4 : IntKind.i64.wrap ((4000000000 : Int).tdiv p) = (4000000000 : Int).tdiv p:=wrap_small (by omega) (by omega)
         have hpn : ¬ p = 0:=by omega
         have hhz : Hid (Cal.hErr p (num,(nd : Int)) = if (4000000000 : Int).tdiv p < (nd : Int) / (g2 : Int) then 8 else 0):=by
          show _ = _
          unfold Cal.hErr
          dsimp only
          rw [if_neg (by omega),if_neg (by simpa using hgc),if_neg (by rw [hbg];decide),hmo.out]
         by_cases hlg : (4000000000 : Int).tdiv p < (nd : Int) / (g2 : Int)
         ·obtain ⟨e1,e2⟩:=hbad.out 8 (by decide) (by rw [hhz.out,if_pos hlg])
          replace e1:=Lib.hid e1
          replace e2:=Lib.hid e2
          clear hbad hgood hbg hmo hhz hm0 hm1 ht0 ht1 hgc
          go_wp2_with fail
          go_ret3
          exact ⟨_,by rw [e1.out,e2.out];rfl,by rw [← hL.out,e1.out,if_neg (by decide)];exact OwnL.nil _ _ _ _,hB.out⟩
         ·have hnx:=Lib.hid (hgood.out (by rw [hhz.out,if_neg hlg]))
          have hpl:=Cal.part_le (p:=p) (d:=(nd : Int)) (by omega) (by omega) (by rw [hmo.out];exact Int.not_lt.1 hlg)
          rw [hmo.out] at hpl
          rw [hmo.out] at hnx
          have hw5 : IntKind.i64.wrap (p * ((nd : Int) / (g2 : Int))) = p * ((nd : Int) / (g2 : Int)):=wrap_small (by omega) (by omega)
          have hw5b : wrap64 (p * ((nd : Int) / (g2 : Int))) = p * ((nd : Int) / (g2 : Int)):=by rw [← wrap_eq];exact hw5
          clear hbad hgood hbg hmo hhz hm0 hm1 ht0 ht1 hgc
          go_wp2_with fail
          go_roundw
          case rel=>exact ⟨k + 1,_,by omega,by go_num,rfl,hpl.1,hpl.2,hnx,hB⟩
          case measure=>simp [intOf];omega
      ·obtain ⟨e1,e2⟩:=hbad.out 3 (by decide) (by unfold Cal.hErr;rw [if_neg (by simpa using hd1),if_pos (by rw [hgE.out];omega)])
       replace e1:=Lib.hid e1
       replace e2:=Lib.hid e2
       have hxb : ((x : Int) == 1) = false:=by simp;omega
       have hxn : ¬ (x : Int) = 1:=by omega
       clear hbad hgood hbn hxg hgE
       go_wp2_with fail
       go_ret3
       exact ⟨_,by rw [e1.out,e2.out];rfl,by rw [← hL.out,e1.out,if_neg (by decide)];exact OwnL.nil _ _ _ _,hB.out⟩
     ·have hyb : ((y : Int) == 0) = false:=by simp;omega
      have hyn : ¬ (y : Int) = 0:=by omega
      have hr : Hid (IntKind.u64.wrap ((x : Int).tmod (y : Int)) = ((x % y : Nat) : Int)):=by
       show _ = _
       have : (x : Int).tmod (y : Int) = ((x % y : Nat) : Int):=rfl
       have h2:=Nat.mod_lt x (show 0 < y by omega)
       rw [this,wrap_u (by omega) (by omega)]
      have hg2 : Hid (Nat.gcd y (x % y) = Nat.gcd na nd):=by
       show _ = _
       rw [← hg.out,Nat.gcd_comm x y,Nat.gcd_rec y x,Nat.gcd_comm (x % y) y]
      have hlt2:=Nat.mod_lt x (show 0 < y by omega)
      clear hbad hgood hbn hgE
      go_wp2_with fail
      refine wp_region_held_drew (S:=Sx wr []) (by kernel_rfl) (Sx.mk (cs_nil _) (Below.refl _ _)).drew (fun hHeld=>?_)
      refine tkHx 0 40 ?_
      refine tkHx 1 41 ?_
      refine tkHx 2 42 ?_
      refine tkHx 3 43 ?_
      refine tkHx 4 12 ?_
      refine tkHx 5 13 ?_
      refine wpAnyH_done (by kernel_rfl) ?_ _
      (try simp only [apS,apN,siA,scZ,scS])
      replace hx:=Lib.hid (hx.out.below hHeld.bel)
      replace hB:=Lib.hid (below_step hB.out hHeld.bel)
      clear hHeld
      go_wp2_with fail
      go_roundw
      case rel=>exact ⟨y,x % y,rfl,by first | rfl | rw [hr.out],hy1,by omega,hg2,hx,hB⟩
      case measure =>
       have h5:=hr.out
       simp only [intOf]
       first | (rw [h5];omega) | (rw [show (x : Int).tmod (y : Int) = ((x % y : Nat) : Int) from rfl];omega) | omega
   ·obtain rfl : k = fr.length:=by omega
    have hS1:=hS.out
    rw [List.drop_length] at hS1
    have hz : Cal.scl 1 fr = (0,p):=hS1
    have e1 : Hid (E = 0):=by show _ = _;rw [← hEE.out,hz]
    have e2 : Hid (R = p):=by show _ = _;rw [← hRR.out,hz];rfl
    have hall:=(Cal.scl_good fr 1 (by decide) (by decide) (by rw [hz])).2.2.2
    rw [hz] at hall
    have hLL : Hid (L = fr.map (Cal.sclH p)):=by show _ = _;rw [← hL.out,e1.out,if_pos rfl,e2.out]
    have hB0s:=Lib.hid hB0.out.size
    clear hS hS1 hz
    replace hall:=Lib.hid hall
    generalize wr = w0 at *
    have hO0 : Hid (IntsL w0 w0.heap.size (.slice none 0 0) ((fr.take 0).map (Cal.sclH p))):=by show IntsL _ _ _ _;rw [List.take_zero];exact OwnL.nil _ _ _ _
    have hbw : Hid (Below w0.heap.size w0 w0):=Below.refl _ _
    go_wp2_with fail
    go_loopw [16,80] (fun ov i wz=>∃ (k : Nat) (v : Value),k ≤ fr.length ∧ i = .int .i64 k ∧ ov = v ∧ Hid (IntsL wz w0.heap.size v ((fr.take k).map (Cal.sclH p))) ∧ Hid (Below w0.heap.size w0 wz)) (fun _ i _=>fr.length - (intOf i).toNat)
    case atStart=>exact ⟨0,_,Nat.zero_le _,rfl,rfl,hO0,hbw⟩
    case round =>
     clear hO0 hbw
     obtain ⟨k,v,hk,rfl,rfl,hO,hbw⟩:=hrel
     by_cases hlt : k < fr.length
     ·have hk' : fr[k]? = some fr[k]:=List.getElem?_eq_getElem hlt
      have htk : Hid ((fr.take (k + 1)).map (Cal.sclH p) = (fr.take k).map (Cal.sclH p) ++ [Cal.sclH p fr[k]]):=by show _ = _;rw [List.take_succ_eq_append_getElem hlt,List.map_append];rfl
      have hlk : ((fr.take k).map (Cal.sclH p)).length ≤ 1000000:=by rw [List.length_map,List.length_take];omega
      obtain ⟨a1,_,a3,_⟩:=hall.out _ (List.getElem_mem hlt)
      have hbx:=Cal.sclH_box hp1 hp2 a1 a3
      have hki : (k : Int) < (fr.length : Int):=by omega
      generalize fr[k] = h at *
      have hb1 : Below w.heap.size w wr:=hB0.out.trans (hbw.out.mono hB0s.out)
      obtain ⟨b,o,rfl,hbl,c0,c1⟩:=fr_at (hF.out.below hb1) hk'
      obtain ⟨num,den⟩:=h
      dsimp only at *
      have hdn : ¬ den = 0:=by omega
      have hq0 : 0 ≤ p.tdiv den:=Int.tdiv_nonneg (by omega) (by omega)
      have hq1 : (p.tdiv den).natAbs ≤ p.natAbs:=by rw [Int.natAbs_tdiv];exact Nat.div_le_self _ _
      have hX : Cal.sclH p (num,den) = num * p.tdiv den:=rfl
      rw [hX] at hbx htk
      have hw1 : IntKind.i64.wrap (p.tdiv den) = p.tdiv den:=wrap_small (by omega) (by omega)
      have hw1b : wrap64 (p.tdiv den) = p.tdiv den:=by rw [← wrap_eq];exact hw1
      have hw2 : IntKind.i64.wrap (num * p.tdiv den) = num * p.tdiv den:=wrap_small (by omega) (by omega)
      have hw2b : wrap64 (num * p.tdiv den) = num * p.tdiv den:=by rw [← wrap_eq];exact hw2
      have hx:=Lib.hid (BoxAt.new wr #[.int .i64 num,.int .i64 den] 70)
      have hO1:=Lib.hid (OwnL.below hO.out (below_alloc wr (.cells #[.int .i64 num,.int .i64 den] 70)))
      have hbw1:=Lib.hid (below_step hbw.out (below_alloc wr (.cells #[.int .i64 num,.int .i64 den] 70)))
      have y0:=hx.out.c 0 _ rfl
      have y1:=hx.out.c 1 _ rfl
      have hown:=Lib.hid (OwnL.lt hO.out)
      have hws : Hid (w0.heap.size ≤ wr.heap.size):=hbw.out.size
      clear hX hq0 hq1 hk' hb1 hO hbw
      go_wp2_with fail
      generalize hW1 : wr.alloc (.cells #[.int .i64 num,.int .i64 den] 70) = W1 at *
      have hW1s : Hid (wr.heap.size < W1.heap.size):=by show _ < _;rw [← hW1];simp
      clear hW1
      generalize wr.heap.size = Bx at *
      refine wp_region_held_drew (S:=Sx w0 [(Bx,0,.int .i64 num),(Bx,1,.int .i64 den)]) (by kernel_rfl) (Sx.mk (by simp only [cs_iff_cons];exact ⟨y0,y1,cs_nil _⟩) hbw1.out).drew (fun hHeld=>?_)
      clear y0 y1
      replace hO1:=Lib.hid (OwnL.below hO1.out ((Below.refl _ _).drew))
      replace hW1s : Hid (Bx < W1.drew.heap.size):=hW1s.out
      generalize W1.drew = W2 at *
      refine tkHx 0 84 ?_
      refine tkHx 1 85 ?_
      refine tkHx 2 86 ?_
      refine tkHx 3 87 ?_
      refine tkHx 4 88 ?_
      refine tkHx 5 89 ?_
      refine tkHx 6 90 ?_
      refine tkHx 7 91 ?_
      (refine ratHx 8 (fun K hK=>?_);go_simp)
      refine hK.out _ _ (hHeld.alloc _) (fun hHeld=>?_)
      clear hK K
      (try simp only [apS,apN,siA,scZ,scS])
      (refine wpAnyH_ready (rs:=[9]) (by decide +kernel) (by simp) ?_;refine AllReadyH.cons rfl (fun K hK=>?_) AllReadyH.nil)
      refine step_append_rows elemInt (by rfl) (.tmp 84) (.tmp 92) (by rfl) (by rfl) (by rfl) (OwnL.below hO1.out (below_alloc _ _)) (rowsAt_new _ [.int .i64 (num * p.tdiv den)] _) rfl (intRows_wid [num * p.tdiv den]) (intRows_one [num * p.tdiv den]) (by rw [intRows_length,List.length_singleton];omega) (by decide) (by have h1:=hws.out;have h2:=hW1s.out;rw [World.size_alloc];omega) ?_
      intro v' w5 hown5 hg5 hob5
      have hS5 : Sx w0 [(Bx,0,Value.int .i64 num),(Bx,1,Value.int .i64 den)] w5:=hHeld.grow hg5 (fun g e=>(hown.out g e).1) (fun x hx=>by
       have hxb : x.1 = Bx:=by
        simp only [List.mem_cons,List.not_mem_nil,or_false] at hx
        rcases hx with rfl | rfl <;> rfl
       rw [hxb]
       refine ⟨fun e=>by have:=(hown.out _ e).2;omega,?_⟩
       have h2:=hW1s.out
       rw [World.size_alloc];omega)
      refine hK.out _ _ hS5 (fun hHeld=>?_)
      clear hK K hS5
      (try simp only [apS,apN,siA,scZ,scS])
      refine tkHx 10 16 ?_
      refine wpAnyH_done (by kernel_rfl) ?_ _
      (try simp only [apS,apN,siA,scZ,scS])
      have hO2 : Hid (IntsL w5 w0.heap.size v' ((fr.take (k + 1)).map (Cal.sclH p))):=by
       show IntsL _ _ _ _
       rw [htk.out]
       unfold IntsL intRows
       rw [List.map_append]
       exact hown5
      have hbw2:=Lib.hid hHeld.bel
      clear hHeld hown5 hg5 hob5 hO1 hown htk hW1s hx
      go_wp2_with fail
      go_roundw
      case rel=>exact ⟨k + 1,_,by omega,by go_num,rfl,hO2,hbw2⟩
      case measure=>simp [intOf];omega
     ·obtain rfl : k = fr.length:=by omega
      rw [List.take_length,← hLL.out] at hO
      have hbz : Hid (Below w.heap.size w wr):=hB0.out.trans (hbw.out.mono hB0s.out)
      have hOz:=Lib.hid (IntsL.less hO.out hB0s.out)
      clear hO hbw
      go_wp2_with fail
      go_ret3
      exact ⟨_,by rw [e1.out,e2.out];rfl,hOz.out,hbz.out⟩
 ·rw [if_neg hlen] at hE hR
  subst hE hR
  have hlb : ((fr.length : Int) == N) = false:=by simpa using hlen
  go_enter Try.func63,Try.ntmps63
  go_wp2_with fail
  go_ret3
  exact ⟨_,rfl,by rw [← hL.out,if_neg (by decide)];exact OwnL.nil _ _ _ _,hb0.out⟩
end Go.Proofs.Ythfokpchdlcidaa
namespace Go.Proofs.Ythfokpchdlcidaa.Cal
theorem grad_append (all : Int) (x : Nat → Int) (p : Nat) (e : Edge) : ∀ l : List Edge,grad all x (l ++ [e]) p = grad all x l p + e.w * vOf all x e * (dl e.t p - dl e.f p)
 | []=>by simp [grad]
 | a :: l=>by
  rw [List.cons_append]
  show a.w * vOf all x a * (dl a.t p - dl a.f p) + grad all x (l ++ [e]) p = a.w * vOf all x a * (dl a.t p - dl a.f p) + grad all x l p + _
  rw [grad_append all x p e l];omega
def sumsK (p : Int) (fr : List (Int × Int)) (l : List Lev) (k : Nat) : Nat → Int:=grad p (xs p fr) (edges (l.take k))
theorem sumsK_zero (p : Int) (fr : List (Int × Int)) (l : List Lev) : sumsK p fr l 0 = fun _=>0:=rfl
theorem sumsK_succ {p : Int} {fr : List (Int × Int)} {l : List Lev} {k : Nat} (h : k < l.length) (hne : (edge l[k]).f ≠ (edge l[k]).t) :
  updR (updR (sumsK p fr l k) (edge l[k]).t (sumsK p fr l k (edge l[k]).t + l[k].w * resV p fr l[k])) (edge l[k]).f (sumsK p fr l k (edge l[k]).f - l[k].w * resV p fr l[k]) = sumsK p fr l (k + 1):=by
 have e : edges (l.take (k + 1)) = edges (l.take k) ++ [edge l[k]]:=by
  unfold edges
  rw [List.take_succ_eq_append_getElem h,List.map_append];rfl
 funext i
 show _ = grad p (xs p fr) (edges (l.take (k + 1))) i
 rw [e,grad_append,← resV_vOf]
 show _ = sumsK p fr l k i + l[k].w * resV p fr l[k] * (dl (edge l[k]).t i - dl (edge l[k]).f i)
 generalize l[k].w * resV p fr l[k] = z
 generalize edge l[k] = ed at *
 unfold updR dl
 by_cases h1 : i = ed.f <;> by_cases h2 : i = ed.t <;> simp_all <;> omega
theorem sumsK_box {n : Int} {l : List Lev} {fr : List (Int × Int)} (hz : netE n l = 0) (he : sclE n fr = 0) : ∀ k,k ≤ l.length → ∀ i,-(164000000000000000 * (k : Int)) ≤ sumsK (sclP n fr) fr l k i ∧ sumsK (sclP n fr) fr l k i ≤ 164000000000000000 * (k : Int)
 | 0,_,i=>by rw [sumsK_zero];simp
 | k + 1,hk,i=>by
  have ih:=sumsK_box hz he k (by omega) i
  have hb:=resV_box hz he _ (List.getElem_mem (show k < l.length by omega))
  have hl:=levE_zero ((netE_zero hz).2.2.2.1 _ (List.getElem_mem (show k < l.length by omega)))
  have e : edges (l.take (k + 1)) = edges (l.take k) ++ [edge l[k]]:=by
   unfold edges
   rw [List.take_succ_eq_append_getElem (by omega),List.map_append];rfl
  have hs : sumsK (sclP n fr) fr l (k + 1) i = sumsK (sclP n fr) fr l k i + l[k].w * resV (sclP n fr) fr l[k] * (dl (edge l[k]).t i - dl (edge l[k]).f i):=by
   show grad _ _ (edges (l.take (k + 1))) i = _
   rw [e,grad_append,← resV_vOf];rfl
  have hm:=mul_le_of (a:=l[k].w) (b:=resV (sclP n fr) fr l[k]) (M:=10) (N:=16400000000000000) (by omega) (by omega) hb.1 hb.2
  rw [hs]
  generalize l[k].w * resV (sclP n fr) fr l[k] = z at *
  have hd : dl (edge l[k]).t i - dl (edge l[k]).f i = 0 ∨ dl (edge l[k]).t i - dl (edge l[k]).f i = 1 ∨ dl (edge l[k]).t i - dl (edge l[k]).f i = -1:=by
   unfold dl;split <;> split <;> simp
  rw [show ((k + 1 : Nat) : Int) = (k : Int) + 1 by omega,Int.mul_add]
  rcases hd with h | h | h <;> rw [h] <;> omega
def badAt (G : Nat → Int) : Nat → Nat → Option Nat
 | 0,_=>none
 | m + 1,p=>if G p ≠ 0 then some p else badAt G m (p + 1)
def badP (n : Nat) (G : Nat → Int) : Option Nat:=badAt G (n - 1) 1
def sumsAll (p : Int) (fr : List (Int × Int)) (l : List Lev) : Nat → Int:=sumsK p fr l l.length
def num0 (fr : List (Int × Int)) : Int:=(fr[0]?.getD (0,1)).1
def chkE (n : Int) (l : List Lev) (fr : List (Int × Int)) : Int:=if resE n l fr = 0 then (if num0 fr = 0 then (match badP n.toNat (sumsAll (sclP n fr) fr l) with | none=>0 | some _=>26) else 26) else resE n l fr
def chkP (n : Int) (l : List Lev) (fr : List (Int × Int)) : Int:=if resE n l fr = 0 then (if num0 fr = 0 then (match badP n.toNat (sumsAll (sclP n fr) fr l) with | none=>0 | some p=>(p : Int)) else 0) else 0
theorem badAt_step (G : Nat → Int) (m p : Nat) : badAt G (m + 1) p = if G p ≠ 0 then some p else badAt G m (p + 1):=rfl
end Go.Proofs.Ythfokpchdlcidaa.Cal
namespace Go.Proofs.Ythfokpchdlcidaa
theorem minorL_red {n : Nat} (L : Nat → Nat → Int) : minorL 0 (matOf (n + 1) L) = matOf n (Cal.red L):=by
 unfold minorL matOf offC
 rw [List.range_succ_eq_map,List.map_cons,List.drop_succ_cons,List.drop_zero,List.map_map,List.map_map]
 refine List.map_congr_left fun i _=>?_
 show (listOf (n + 1) (L (i + 1))).eraseIdx 0 = listOf n (Cal.red L i)
 unfold listOf
 rw [List.range_succ_eq_map,List.map_cons,List.eraseIdx_zero,List.tail_cons,List.map_map]
 rfl
theorem listOf_drop {n : Nat} (f : Nat → Int) : (listOf (n + 1) f).drop 1 = listOf n fun i=>f (i + 1):=by
 unfold listOf
 rw [List.range_succ_eq_map,List.map_cons,List.drop_succ_cons,List.drop_zero,List.map_map]
 rfl
theorem matFn_with {n : Nat} {L : Nat → Nat → Int} {r : Nat → Int} {q i j : Nat} (hi : i < n) (hj : j < n) : matFn (withL q (listOf n r) (matOf n L)) i j = Cal.colPut L q r i j:=by
 unfold matFn withL matOf Cal.colPut
 have h1 : (List.zipWith (putC q) ((List.range n).map fun i=>listOf n (L i)) (listOf n r))[i]? = some ((listOf n (L i)).set q (r i)):=by
  rw [List.getElem?_zipWith,listOf_get hi]
  simp [hi,putC]
 rw [h1,Option.getD_some,List.getElem?_set]
 by_cases h : q = j
 ·subst h
  rw [if_pos rfl,if_pos rfl,listOf_length,if_pos hj];rfl
 ·rw [if_neg h,if_neg (fun e=>h e.symm),listOf_get hj];rfl
namespace Cal
theorem hN_raw {n : Nat} {l : List Lev} {i : Nat} : detF n (withL i ((listOf (n + 1) (rhs (edges l))).drop 1) (minorL 0 (matOf (n + 1) (lap (edges l))))) = detN n (colPut (red (lap (edges l))) i (fun j=>rhs (edges l) (j + 1))):=by
 rw [minorL_red,listOf_drop,detF_detN]
 ·exact detN_congr fun a b ha hb=>matFn_with ha hb
 ·unfold withL matOf;simp [listOf_length]
 ·intro r hr
  unfold withL at hr
  obtain ⟨j,hj,rfl⟩:=List.getElem_of_mem hr
  rw [List.getElem_zipWith]
  unfold putC matOf
  rw [List.length_set]
  simp [listOf_length]
theorem hN_val {n : Nat} {l : List Lev} (h : netE ((n + 1 : Nat) : Int) l = 0) {i : Nat} (hi : i < n) : hN n l i = detN n (colPut (red (lap (edges l))) i (fun j=>rhs (edges l) (j + 1))):=by
 obtain ⟨h1,h2,h3,h4,h5,_⟩:=net_edges h
 have hn:=netE_zero h
 have hb:=(net_bounds (n:=n) (l:=edges l) (by omega) h1 (fun e he=>⟨(h3 e he).1,(h3 e he).2,(h4 e he).1,(h4 e he).2⟩)).2 i hi
 unfold hN
 rw [hN_raw]
 unfold ab at hb
 exact wrap_small (by omega) (by omega)
theorem hD_val (n : Nat) (l : List Lev) : hD n l = detN n (red (lap (edges l))):=detF_lap _
theorem hN_le {n : Nat} {l : List Lev} {M : Int} (h : netE ((n + 1 : Nat) : Int) l = 0) (hM : 0 ≤ M) (hd : ∀ e ∈ edges l,-M ≤ e.d ∧ e.d ≤ M) {i : Nat} (hi : i < n) : -((n : Int) * (M * hD n l)) ≤ hN n l i ∧ hN n l i ≤ (n : Int) * (M * hD n l):=by
 obtain ⟨h1,h2,h3,h4,h5,_⟩:=net_edges h
 obtain ⟨hp,_⟩:=hD_pos h
 have hx0 : (fun p=>if p = 0 then 0 else hN n l (p - 1)) 0 = (0 : Int):=rfl
 have hg : ∀ p,0 < p → p < n + 1 → grad (hD n l) (fun p=>if p = 0 then 0 else hN n l (p - 1)) (edges l) p = 0:=by
  refine cramer_grad (hD n l) _ h2 (by rw [← hD_val];omega) rfl (fun j hj=>?_)
  show hN n l (j + 1 - 1) * _ = _
  rw [Nat.add_sub_cancel,hN_val h hj,← hD_val]
 have hG : ∀ e ∈ edges l,-(M * hD n l) ≤ e.d * hD n l ∧ e.d * hD n l ≤ M * hD n l:=fun e he=>by
  obtain ⟨a,b⟩:=hd e he
  have:=Int.mul_le_mul_of_nonneg_right a (Int.le_of_lt hp)
  have:=Int.mul_le_mul_of_nonneg_right b (Int.le_of_lt hp)
  rw [Int.neg_mul] at *
  omega
 have hG0 : 0 ≤ M * hD n l:=Int.mul_nonneg hM (Int.le_of_lt hp)
 have hw : ∀ e ∈ edges l,0 < e.w:=fun e he=>by have:=h3 e he;omega
 have a:=height_le _ h2 hw h5 hg hG hx0 hG0 (i + 1) (by omega)
 have b:=height_ge _ h2 hw h5 hg hG hx0 hG0 (i + 1) (by omega)
 exact ⟨b,a⟩
theorem hAt_le {n : Nat} {l : List Lev} {M : Int} (h : netE ((n + 1 : Nat) : Int) l = 0) (hM : 0 ≤ M) (hd : ∀ e ∈ edges l,-M ≤ e.d ∧ e.d ≤ M) {i : Nat} (hi : i < n) : -((n : Int) * M * (hAt n l i).2) ≤ (hAt n l i).1 ∧ (hAt n l i).1 ≤ (n : Int) * M * (hAt n l i).2:=by
 obtain ⟨hp,_⟩:=hD_pos h
 obtain ⟨a,b⟩:=hN_le h hM hd hi
 have hc:=low_cross (hN n l i) (hD n l)
 have hdp:=lowD_pos (a:=hN n l i) hp
 unfold hAt
 dsimp only
 generalize hN n l i = x at *
 generalize hD n l = D at *
 generalize lowN x D = N at *
 generalize lowD x D = d at *
 have a2:=Int.mul_le_mul_of_nonneg_right a (Int.le_of_lt hdp)
 have b2:=Int.mul_le_mul_of_nonneg_right b (Int.le_of_lt hdp)
 rw [← hc] at a2 b2
 have e : (n : Int) * (M * D) * d = (n : Int) * M * d * D:=by
  rw [← Int.mul_assoc,Int.mul_assoc,Int.mul_comm D d,← Int.mul_assoc]
 rw [Int.neg_mul,e,← Int.neg_mul] at a2
 rw [e] at b2
 exact ⟨Int.le_of_mul_le_mul_right a2 hp,Int.le_of_mul_le_mul_right b2 hp⟩
theorem heights_at {n : Nat} {l : List Lev} {x : Int × Int} (hx : x ∈ heightsP n l) : x = (0,1) ∨ ∃ i,i < n ∧ x = hAt n l i:=by
 rcases List.mem_cons.1 hx with e | hx
 ·exact Or.inl e
 ·obtain ⟨i,hi,rfl⟩:=List.mem_map.1 hx
  exact Or.inr ⟨i,List.mem_range.1 hi,rfl⟩
theorem heights_len (n : Nat) (l : List Lev) : (heightsP n l).length = n + 1:=by simp [heightsP]
theorem heights_get {n : Nat} {l : List Lev} {j : Nat} (hj : j < n) : (heightsP n l)[j + 1]? = some (hAt n l j):=by simp [heightsP,hj]
theorem heights_good {n : Nat} {l : List Lev} (h : netE ((n + 1 : Nat) : Int) l = 0) : ∀ x ∈ heightsP n l,1 ≤ x.2 ∧ Int.gcd x.1 x.2 = 1 ∧ bigH x = false ∧ x.2 ∣ hD n l:=fun x hx=>by
 obtain ⟨hp,_⟩:=hD_pos h
 obtain ⟨_,_,_,h4,_,_⟩:=net_edges h
 have hn:=netE_zero h
 rcases heights_at hx with rfl | ⟨i,hi,rfl⟩
 ·exact ⟨by decide,by decide,by decide,⟨hD n l,by simp⟩⟩
 ·obtain ⟨a,b⟩:=hAt_le h (M:=100000) (by decide) h4 hi
  have hdp:=lowD_pos (a:=hN n l i) hp
  refine ⟨by show 1 ≤ lowD _ _;omega,low_coprime hp,?_,lowD_dvd _ _⟩
  unfold bigH
  refine decide_eq_false ?_
  have hd : 0 < (hAt n l i).2:=hdp
  generalize (hAt n l i).1 = N at *
  generalize (hAt n l i).2 = d at *
  have h5 : (n : Int) * 100000 ≤ 500000:=by omega
  have h6:=Int.mul_le_mul_of_nonneg_right h5 (Int.le_of_lt hd)
  omega
theorem heights_scl {n : Nat} {l : List Lev} (h : netE ((n + 1 : Nat) : Int) l = 0) : sclE ((n + 1 : Nat) : Int) (heightsP n l) = 0:=by
 obtain ⟨hp,hq⟩:=hD_pos h
 unfold sclE
 rw [heights_len,if_pos rfl]
 exact scl_ok (all:=hD n l) (by omega) hq _ 1 (by decide) (Int.one_dvd _) (heights_good h)
theorem heights_xs {n : Nat} {l : List Lev} (h : netE ((n + 1 : Nat) : Int) l = 0) {j : Nat} (hj : j < n) : xs (sclP ((n + 1 : Nat) : Int) (heightsP n l)) (heightsP n l) (j + 1) * hD n l = hN n l j * sclP ((n + 1 : Nat) : Int) (heightsP n l):=by
 obtain ⟨_,_,_,_,hall⟩:=sclE_zero (heights_scl h)
 obtain ⟨hp,_⟩:=hD_pos h
 unfold xs
 rw [heights_get hj,Option.getD_some]
 unfold sclH
 refine scaled_cross (low_cross (hN n l j) (hD n l)) (hall (hAt n l j) ?_).2.2.2 (lowD_pos hp)
 exact List.mem_of_getElem? (heights_get hj)
theorem xs_zero (p : Int) (n : Nat) (l : List Lev) : xs p (heightsP n l) 0 = 0:=by
 unfold xs heightsP
 show sclH p (0,1) = 0
 unfold sclH
 exact Int.zero_mul _
theorem heights_grad {n : Nat} {l : List Lev} (h : netE ((n + 1 : Nat) : Int) l = 0) : ∀ p,0 < p → p < n + 1 → grad (sclP ((n + 1 : Nat) : Int) (heightsP n l)) (xs (sclP ((n + 1 : Nat) : Int) (heightsP n l)) (heightsP n l)) (edges l) p = 0:=by
 obtain ⟨_,h2,_,_,_,_⟩:=net_edges h
 obtain ⟨hp,_⟩:=hD_pos h
 refine cramer_grad _ _ h2 (by rw [← hD_val];omega) (xs_zero _ _ _) (fun j hj=>?_)
 rw [← hD_val,heights_xs h hj,hN_val h hj]
theorem badAt_none {G : Nat → Int} : ∀ (m p : Nat),(∀ q,p ≤ q → q < p + m → G q = 0) → badAt G m p = none
 | 0,_,_=>rfl
 | m + 1,p,h=>by
  rw [badAt_step,if_neg (by rw [h p (Nat.le_refl _) (by omega)];simp)]
  exact badAt_none m (p + 1) fun q h1 h2=>h q (by omega) (by omega)
theorem heights_chk {n : Nat} {l : List Lev} (h : netE ((n + 1 : Nat) : Int) l = 0) : chkE ((n + 1 : Nat) : Int) l (heightsP n l) = 0 ∧ chkP ((n + 1 : Nat) : Int) l (heightsP n l) = 0:=by
 have hE : resE ((n + 1 : Nat) : Int) l (heightsP n l) = 0:=by unfold resE;rw [if_pos h,heights_scl h]
 have h0 : num0 (heightsP n l) = 0:=rfl
 have hb : badP ((n + 1 : Nat) : Int).toNat (sumsAll (sclP ((n + 1 : Nat) : Int) (heightsP n l)) (heightsP n l) l) = none:=by
  unfold badP
  refine badAt_none _ _ fun q h1 h2=>?_
  unfold sumsAll sumsK
  rw [List.take_length]
  exact heights_grad h q h1 (by omega)
 unfold chkE chkP
 rw [if_pos hE,if_pos h0,hb,if_pos hE,if_pos h0]
 exact ⟨rfl,rfl⟩
end Cal
end Go.Proofs.Ythfokpchdlcidaa
namespace Go.Proofs.Ythfokpchdlcidaa
open Go Go.RowKit Go.Shelf
theorem residuals_any (N : Int) (A : Option Addr) (c : Nat) (l : List Lev) (B : Option Addr) (d : Nat) (fr : List (Int × Int)) (w : World) (hL : Levs w A l) (hF : RowsAt w B 2 (fr.map frR)) (hs : fr.length ≤ 1000000)
  (hv : ∀ h ∈ fr,(-9223372036854775808 ≤ h.1 ∧ h.1 ≤ 9223372036854775807) ∧ (-9223372036854775808 ≤ h.2 ∧ h.2 ≤ 9223372036854775807)) :
  Calls Try.prog 39 #[.int .i64 N,.slice A l.length c,.slice B fr.length d] w fun e w'=>∃ v,e = .returned (.tuple #[v,.int .i64 (Cal.resPN N l fr),.int .i64 (Cal.resE N l fr)]) ∧ IntsL w' w.heap.size v (Cal.resLN N l fr) ∧ Below w.heap.size w w':=by
 have hb0 : Hid (Below w.heap.size w w):=Below.refl _ _
 obtain ⟨E,hE⟩ : ∃ E,Cal.resE N l fr = E:=⟨_,rfl⟩
 obtain ⟨R,hR⟩ : ∃ R,Cal.resPN N l fr = R:=⟨_,rfl⟩
 obtain ⟨L,hLn⟩ : ∃ L,Cal.resLN N l fr = L:=⟨_,rfl⟩
 rw [hE,hR,hLn]
 unfold Cal.resLN at hLn
 rw [hE] at hLn
 unfold Cal.resE at hE
 unfold Cal.resPN at hR
 have hck:=Lib.hid (fun W (hb : Below w.heap.size w W)=>CheckNet_any N A c l W (hL.below hb))
 have hsc:=Lib.hid (fun W (hb : Below w.heap.size w W)=>scaled_any N B d fr W (hF.below hb) hs hv)
 have hsz:=hL.size
 replace hL:=Lib.hid hL
 by_cases hz : Cal.netE N l = 0
 ·rw [if_pos hz] at hE hR
  have hz0:=Lib.hid hz
  by_cases he : Cal.sclE N fr = 0
  ·obtain ⟨hlen,_,hp1,hp2,hall⟩:=Cal.sclE_zero he
   have hLL : Hid (L = Cal.resL R fr l):=by show _ = _;rw [← hLn,← hR,← hE,if_pos he]
   have hsl : Cal.sclL N fr = fr.map (Cal.sclH R):=by unfold Cal.sclL;rw [if_pos he,hR]
   rw [hR] at hp1 hp2
   rw [hsl,he,hR] at hsc
   obtain ⟨_,_,hl20,hlev,_⟩:=Cal.netE_zero hz
   replace hall:=Lib.hid hall
   replace hlev:=Lib.hid hlev
   have hE2 : Hid (E = 0):=by show _ = _;rw [← hE,he]
   subst hlen
   clear hz he hE hR hLn hsl
   go_enter Try.func39,Try.ntmps39
   go_wp2_with (first
    |(go_at_call 9;refine (hck.out _ hb0.out).mono ?_;rintro e0 w1 ⟨rfl,hb1⟩;rw [hz0.out];replace hb1:=Lib.hid hb1;clear hck)
    |(go_at_call 63;refine (hsc.out _ hb1.out).mono ?_;rintro e0 w2 ⟨vh,rfl,hH,hb2⟩;obtain ⟨A7,c7,rfl,hH7⟩:=hH.rows;replace hH7:=Lib.hid hH7;replace hb2:=Lib.hid (below_step hb1.out hb2);clear hsc hH))
   have hb2s:=Lib.hid hb2.out.size
   have hO0 : Hid (IntsL w2 w2.heap.size (.slice none 0 0) ((l.take 0).map (Cal.resV R fr))):=by show IntsL _ _ _ _;rw [List.take_zero];exact OwnL.nil _ _ _ _
   have hbw : Hid (Below w2.heap.size w2 w2):=Below.refl _ _
   go_loopw [13,34] (fun ov i wz=>∃ (k : Nat) (v : Value),k ≤ l.length ∧ i = .int .i64 k ∧ ov = v ∧ Hid (IntsL wz w2.heap.size v ((l.take k).map (Cal.resV R fr))) ∧ Hid (Below w2.heap.size w2 wz)) (fun _ i _=>l.length - (intOf i).toNat)
   case atStart=>exact ⟨0,_,Nat.zero_le _,rfl,rfl,hO0,hbw⟩
   case round =>
    clear hO0 hbw
    obtain ⟨k,v,hk,rfl,rfl,hO,hbw⟩:=hrel
    by_cases hlt : k < l.length
    ·have hk' : l[k]? = some l[k]:=List.getElem?_eq_getElem hlt
     have htk : Hid ((l.take (k + 1)).map (Cal.resV R fr) = (l.take k).map (Cal.resV R fr) ++ [Cal.resV R fr l[k]]):=by show _ = _;rw [List.take_succ_eq_append_getElem hlt,List.map_append];rfl
     have hlk : ((l.take k).map (Cal.resV R fr)).length ≤ 1000000:=by rw [List.length_map,List.length_take];omega
     have hlz:=Cal.levE_zero (hlev.out _ (List.getElem_mem hlt))
     have hki : (k : Int) < (l.length : Int):=by omega
     generalize l[k] = x at *
     obtain ⟨b,o,rfl,hbl,c0,c1,c2,c3⟩:=lev_at (hL.out.below (hb2.out.trans (hbw.out.mono hb2s.out))).rows hk'
     obtain ⟨xf,xt,xd,xw⟩:=x
     dsimp only at *
     obtain ⟨⟨f0,f1⟩,⟨t0,t1⟩,-,dl1,dl2,-,-⟩:=hlz
     obtain ⟨f,rfl⟩ : ∃ f : Nat,xf = (f : Int):=⟨xf.toNat,by omega⟩
     obtain ⟨t,rfl⟩ : ∃ t : Nat,xt = (t : Int):=⟨xt.toNat,by omega⟩
     have hfN : f < fr.length:=by omega
     have htN : t < fr.length:=by omega
     have hfM : f < (fr.map (Cal.sclH R)).length:=by rw [List.length_map];exact hfN
     have htM : t < (fr.map (Cal.sclH R)).length:=by rw [List.length_map];exact htN
     obtain ⟨b7,o7,rfl,hb7,g0⟩:=intsI_at hH7.out hfM
     obtain ⟨b7',o7',hA7,_,g1⟩:=intsI_at hH7.out htM
     cases hA7
     rw [List.getElem_map] at g0 g1
     have hX : Cal.resV R fr ⟨(f : Int),(t : Int),xd,xw⟩ = xd * R - Cal.sclH R fr[t] + Cal.sclH R fr[f]:=by
      unfold Cal.resV Cal.hAt0
      dsimp only
      rw [Int.toNat_natCast,Int.toNat_natCast,List.getElem?_eq_getElem htN,List.getElem?_eq_getElem hfN]
      rfl
     obtain ⟨a1,_,a3,_⟩:=hall.out _ (List.getElem_mem hfN)
     obtain ⟨b1,_,b3,_⟩:=hall.out _ (List.getElem_mem htN)
     have hbxf:=Cal.sclH_box hp1 hp2 a1 a3
     have hbxt:=Cal.sclH_box hp1 hp2 b1 b3
     rw [hX] at htk
     generalize Cal.sclH R fr[t] = Ht at *
     generalize Cal.sclH R fr[f] = Hf at *
     have hm:=mul_le_of (a:=xd) (b:=R) (M:=100000) (N:=4000000000) (by omega) (by omega) (by omega) (by omega)
     generalize hP : xd * R = P at *
     have hw1 : IntKind.i64.wrap P = P:=wrap_small (by omega) (by omega)
     have hw1b : wrap64 P = P:=by rw [← wrap_eq];exact hw1
     have hw2 : IntKind.i64.wrap (P - Ht) = P - Ht:=wrap_small (by omega) (by omega)
     have hw2b : wrap64 (P - Ht) = P - Ht:=by rw [← wrap_eq];exact hw2
     have hw3 : IntKind.i64.wrap (P - Ht + Hf) = P - Ht + Hf:=wrap_small (by omega) (by omega)
     have hw3b : wrap64 (P - Ht + Hf) = P - Ht + Hf:=by rw [← wrap_eq];exact hw3
     have hx:=Lib.hid (BoxAt.new wr #[.int .i64 (f : Int),.int .i64 (t : Int),.int .i64 xd,.int .i64 xw] 75)
     have hO1:=Lib.hid (OwnL.below hO.out (below_alloc wr (.cells #[.int .i64 (f : Int),.int .i64 (t : Int),.int .i64 xd,.int .i64 xw] 75)))
     have hbw1:=Lib.hid (below_step hbw.out (below_alloc wr (.cells #[.int .i64 (f : Int),.int .i64 (t : Int),.int .i64 xd,.int .i64 xw] 75)))
     have y0:=hx.out.c 0 _ rfl
     have y1:=hx.out.c 1 _ rfl
     have y2:=hx.out.c 2 _ rfl
     have g0:=(hbw1.out.cell (p:=⟨b7,o7 + f,none⟩) hb7).trans g0
     have g1:=(hbw1.out.cell (p:=⟨b7,o7 + t,none⟩) hb7).trans g1
     have hown:=Lib.hid (OwnL.lt hO.out)
     have hfi : (f : Int) < (fr.length : Int):=by omega
     have hti : (t : Int) < (fr.length : Int):=by omega
     clear hX hk' hO hbw hbxf hbxt a1 a3 b1 b3 hm
     go_wp2_with fail
     generalize hW1 : wr.alloc (.cells #[.int .i64 (f : Int),.int .i64 (t : Int),.int .i64 xd,.int .i64 xw] 75) = W1 at *
     have hW1s : Hid (wr.heap.size < W1.heap.size):=by show _ < _;rw [← hW1];simp
     clear hW1
     have hws : Hid (w2.heap.size ≤ W1.drew.heap.size):=hbw1.out.size
     have hLb : Hid (∀ x ∈ [(wr.heap.size,0,Value.int .i64 (f : Int)),(wr.heap.size,1,.int .i64 (t : Int)),(wr.heap.size,2,.int .i64 xd),(b7,o7 + f,.int .i64 Hf),(b7,o7 + t,.int .i64 Ht)],x.1 < W1.drew.heap.size ∧ ∀ g,_ = some g → some g ≠ some x.1):=fun x hx=>by
      have h1:=hW1s.out
      have h2 : W1.drew.heap.size = W1.heap.size:=rfl
      have h3:=hws.out
      refine ⟨?_,fun g e e2=>?_⟩
      ·simp only [List.mem_cons,List.not_mem_nil,or_false] at hx
       rcases hx with rfl | rfl | rfl | rfl | rfl <;> dsimp only <;> omega
      ·have h4:=hown.out g e
       have h5 : g = x.1:=Option.some.inj e2
       simp only [List.mem_cons,List.not_mem_nil,or_false] at hx
       rcases hx with rfl | rfl | rfl | rfl | rfl <;> dsimp only at h5 <;> omega
     refine wp_region_held_drew (S:=Sx w2 [(wr.heap.size,0,.int .i64 (f : Int)),(wr.heap.size,1,.int .i64 (t : Int)),(wr.heap.size,2,.int .i64 xd),(b7,o7 + f,.int .i64 Hf),(b7,o7 + t,.int .i64 Ht)]) (by kernel_rfl) (Sx.mk (by simp only [cs_iff_cons];exact ⟨y0,y1,y2,g0,g1,cs_nil _⟩) hbw1.out).drew (fun hHeld=>?_)
     clear y0 y1 y2 g0 g1 hW1s
     replace hO1:=Lib.hid (OwnL.below hO1.out ((Below.refl _ _).drew))
     generalize W1.drew = W2 at *
     generalize wr.heap.size = Bx at *
     refine tkHx 0 38 ?_
     refine tkHx 1 39 ?_
     refine tkHx 2 40 ?_
     refine tkHx 3 41 ?_
     refine tkHx 4 42 ?_
     refine tkHx 5 43 ?_
     refine tkHx 6 44 ?_
     refine tkHx 7 45 ?_
     refine tkHx 8 46 ?_
     refine tkHx 9 47 ?_
     refine tkHx 10 48 ?_
     refine tkHx 11 49 ?_
     refine tkHx 12 50 ?_
     refine tkHx 13 51 ?_
     refine tkHx 14 52 ?_
     refine tkHx 15 53 ?_
     refine tkHx 16 54 ?_
     (refine ratHx 17 (fun K hK=>?_);go_simp)
     refine hK.out _ _ (hHeld.alloc _) (fun hHeld=>?_)
     clear hK K
     (try simp only [apS,apN,siA,scZ,scS])
     (refine wpAnyH_ready (rs:=[18]) (by decide +kernel) (by simp) ?_;refine AllReadyH.cons rfl (fun K hK=>?_) AllReadyH.nil)
     refine step_append_rows elemInt (by rfl) (.tmp 38) (.tmp 55) (by rfl) (by rfl) (by rfl) (OwnL.below hO1.out (below_alloc _ _)) (rowsAt_new _ [.int .i64 (P - Ht + Hf)] _) rfl (intRows_wid [P - Ht + Hf]) (intRows_one [P - Ht + Hf]) (by rw [intRows_length,List.length_singleton];omega) (by decide) (by have h1:=hws.out;rw [World.size_alloc];omega) ?_
     intro v' w5 hown5 hg5 hob5
     refine hK.out _ _ (hHeld.grow hg5 (fun g e=>(hown.out g e).1) (fun x hx=>⟨fun e=>(hLb.out x hx).2 _ e rfl,by rw [World.size_alloc];have:=(hLb.out x hx).1;omega⟩)) (fun hHeld=>?_)
     clear hK K
     (try simp only [apS,apN,siA,scZ,scS])
     refine tkHx 19 13 ?_
     refine wpAnyH_done (by kernel_rfl) ?_ _
     (try simp only [apS,apN,siA,scZ,scS])
     have hO2 : Hid (IntsL w5 w2.heap.size v' ((l.take (k + 1)).map (Cal.resV R fr))):=by
      show IntsL _ _ _ _
      rw [htk.out]
      unfold IntsL intRows
      rw [List.map_append]
      exact hown5
     have hbw2:=Lib.hid hHeld.bel
     clear hHeld hown5 hg5 hob5 hO1 hown htk hx hLb
     go_wp2_with fail
     go_roundw
     case rel=>exact ⟨k + 1,_,by omega,by go_num,rfl,hO2,hbw2⟩
     case measure=>simp [intOf];omega
    ·obtain rfl : k = l.length:=by omega
     rw [List.take_length] at hO
     rw [show l.map (Cal.resV R fr) = L from hLL.out.symm] at hO
     have hbz : Hid (Below w.heap.size w wr):=hb2.out.trans (hbw.out.mono hb2s.out)
     have hOz:=Lib.hid (IntsL.less hO.out hb2s.out)
     clear hO hbw
     go_wp2_with fail
     go_ret3
     exact ⟨_,by rw [hE2.out];rfl,hOz.out,hbz.out⟩
  ·have hneb : (Cal.sclE N fr == 0) = false:=by simpa using he
   have hnec : (Cal.sclE N fr != 0) = true:=by simpa using he
   have hP0 : R = 0:=by rw [← hR];unfold Cal.sclP;unfold Cal.sclE at he;split at he <;> rename_i h <;> first | rw [if_pos h,if_neg he] | rw [if_neg h]
   have hLL : L = []:=by rw [← hLn,← hE,if_neg he]
   subst hP0 hLL
   rw [hR,hE] at hsc
   rw [hE] at hneb hnec
   clear he hR hE hLn
   go_enter Try.func39,Try.ntmps39
   go_wp2_with (first
    |(go_at_call 9;refine (hck.out _ hb0.out).mono ?_;rintro e0 w1 ⟨rfl,hb1⟩;rw [hz0.out];replace hb1:=Lib.hid hb1;clear hck)
    |(go_at_call 63;refine (hsc.out _ hb1.out).mono ?_;rintro e0 w2 ⟨vh,rfl,hH,hb2⟩;clear hH;replace hb2:=Lib.hid (below_step hb1.out hb2);clear hsc))
   go_ret3
   exact ⟨_,rfl,OwnL.nil _ _ _ _,hb2.out⟩
 ·rw [if_neg hz] at hE hR
  have hzb : (Cal.netE N l == 0) = false:=by simpa using hz
  have hzc : (Cal.netE N l != 0) = true:=by simpa using hz
  have hLL : L = []:=by rw [← hLn,← hE,if_neg hz]
  subst hR hLL
  rw [hE] at hzb hzc hck
  clear hz hE hLn hsc
  go_enter Try.func39,Try.ntmps39
  go_wp2_with (go_at_call 9;refine (hck.out _ hb0.out).mono ?_;rintro e0 w1 ⟨rfl,hb1⟩;replace hb1:=Lib.hid hb1;clear hck)
  go_ret3
  exact ⟨_,rfl,OwnL.nil _ _ _ _,hb1.out⟩
end Go.Proofs.Ythfokpchdlcidaa
