/- What the statements rest on: definitions and walks, part 03. -/
import Derived.Test.YthfokpchdlcidaaJ02
import Derived.Deep.OwnRows
import Derived.Sort.EncStr
import Derived.Lib.ItoaLen
import Derived.Laws.BytesString
import Derived.Lib.IndexBytes
import Derived.Lib.IndexLaws
import Derived.Lib.Split
import Derived.Lib.CountLaws
import Derived.Lib.AtoiTie
import Derived.Lib.AtoiAllCases
import Derived.Lib.ItoaNum
import Derived.Lib.ItoaMem
import Derived.Lib.Strings
import Derived.Sort.LoopGhostIn
set_option maxRecDepth 100000
set_option maxHeartbeats 16000000
set_option linter.unusedSimpArgs false
set_option linter.unusedVariables false
namespace Go.Proofs.Ythfokpchdlcidaa
open Go Go.RowKit Go.Shelf
structure CnI (w : World) (n : Int) (W : World) : Prop where
 a : W.cell? ⟨w.heap.size,0,none⟩ = some (.int .i64 n)
 bel : Below w.heap.size w W
 lt : w.heap.size < W.heap.size
theorem CnI.below {w : World} {n : Int} {X Y : World} (h : CnI w n X) (hb : Below X.heap.size X Y) : CnI w n Y:=⟨(hb.cell (p:=⟨w.heap.size,0,none⟩) h.lt).trans h.a,below_step h.bel hb,Nat.lt_of_lt_of_le h.lt hb.size⟩
theorem levE_cases (n : Int) (x : Lev) : (inN x.f n = false ∧ Cal.levE n x = 6) ∨ (inN x.f n = true ∧ inN x.t n = false ∧ Cal.levE n x = 6) ∨ (inN x.f n = true ∧ inN x.t n = true ∧ x.f = x.t ∧ Cal.levE n x = 3) ∨
  (inN x.f n = true ∧ inN x.t n = true ∧ x.f ≠ x.t ∧ Cal.levE n x = 2 ∧ (x.d < -100000 ∨ (¬ x.d < -100000 ∧ 100000 < x.d) ∨ (¬ x.d < -100000 ∧ ¬ 100000 < x.d ∧ x.w < 1) ∨ (¬ x.d < -100000 ∧ ¬ 100000 < x.d ∧ ¬ x.w < 1 ∧ 10 < x.w))) ∨
  (inN x.f n = true ∧ inN x.t n = true ∧ x.f ≠ x.t ∧ Cal.levE n x = 0 ∧ ¬ x.d < -100000 ∧ ¬ 100000 < x.d ∧ ¬ x.w < 1 ∧ ¬ 10 < x.w):=by
 unfold Cal.levE
 cases inN x.f n
 ·exact .inl ⟨rfl,rfl⟩
 ·cases inN x.t n
  ·exact .inr (.inl ⟨rfl,rfl,rfl⟩)
  ·by_cases h : x.f = x.t
   ·exact .inr (.inr (.inl ⟨rfl,rfl,h,by rw [if_pos ⟨rfl,rfl⟩,if_pos h]⟩))
   ·by_cases g : x.d < -100000 ∨ 100000 < x.d ∨ x.w < 1 ∨ 10 < x.w
    ·exact .inr (.inr (.inr (.inl ⟨rfl,rfl,h,by rw [if_pos ⟨rfl,rfl⟩,if_neg h,if_pos g],by omega⟩)))
    ·exact .inr (.inr (.inr (.inr ⟨rfl,rfl,h,by rw [if_pos ⟨rfl,rfl⟩,if_neg h,if_neg g],by omega,by omega,by omega,by omega⟩)))
theorem wrap_pow {N : Nat} (h : N ≤ 6) : IntKind.i64.wrap ((2 : Int) ^ N) = ((2 ^ N : Nat) : Int):=by
 have : N = 0 ∨ N = 1 ∨ N = 2 ∨ N = 3 ∨ N = 4 ∨ N = 5 ∨ N = 6:=by omega
 rcases this with rfl | rfl | rfl | rfl | rfl | rfl | rfl <;> decide
theorem wrap_pow1 {N : Nat} (h : N ≤ 6) : IntKind.i64.wrap (((2 ^ N : Nat) : Int) - 1) = ((2 ^ N - 1 : Nat) : Int):=by
 have : N = 0 ∨ N = 1 ∨ N = 2 ∨ N = 3 ∨ N = 4 ∨ N = 5 ∨ N = 6:=by omega
 rcases this with rfl | rfl | rfl | rfl | rfl | rfl | rfl <;> decide
theorem CheckNet_any (n : Int) (A : Option Addr) (c : Nat) (l : List Lev) (w : World) (hL : Levs w A l) :
  Calls Try.prog 9 #[.int .i64 n,.slice A l.length c] w fun e w'=>e = .returned (.int .i64 (Cal.netE n l)) ∧ Below w.heap.size w w':=by
 have hI : Hid (CnI w n (w.alloc (.cells #[.int .i64 n] 3))):=⟨by simp,below_alloc _ _,by simp⟩
 have hsz:=hL.size
 obtain ⟨R,hRR⟩ : ∃ R,Cal.netE n l = R:=⟨_,rfl⟩
 rw [hRR]
 by_cases hn : n < 1 ∨ 6 < n
 ·have hR : Hid (R = 2):=by show _ = _;rw [← hRR];unfold Cal.netE;rw [if_pos hn]
  clear hRR
  rcases hn with hn | hn
  ·go_enter Try.func9,Try.ntmps9
   go_wp2_with fail
   go_ret
   exact ⟨ret_int hR.out.symm,hI.out.bel⟩
  ·have hn1 : ¬ n < 1:=by omega
   go_enter Try.func9,Try.ntmps9
   go_wp2_with fail
   go_ret
   exact ⟨ret_int hR.out.symm,hI.out.bel⟩
 ·have hn1 : ¬ n < 1:=by omega
  have hn2 : ¬ 6 < n:=by omega
  by_cases hl : 20 < l.length
  ·have hR : Hid (R = 8):=by show _ = _;rw [← hRR];unfold Cal.netE;rw [if_neg hn,if_pos hl]
   have hl1 : 20 < (l.length : Int):=by omega
   clear hRR hn
   go_enter Try.func9,Try.ntmps9
   go_wp2_with fail
   go_ret
   exact ⟨ret_int hR.out.symm,hI.out.bel⟩
  ·have hR : Hid (R = if Cal.levsE n (l.drop 0) = 0 then (if (List.range n.toNat).all (Cal.swept n.toNat l) = true then 0 else 29) else Cal.levsE n (l.drop 0)):=by show _ = _;rw [← hRR];unfold Cal.netE;rw [if_neg hn,if_neg hl];rfl
   have hE0 : Hid (Cal.levsE n l = Cal.levsE n (l.drop 0)):=rfl
   have hl1 : ¬ 20 < (l.length : Int):=by omega
   replace hL:=Lib.hid hL
   clear hRR hn
   go_enter Try.func9,Try.ntmps9
   go_wp2_with fail
   go_loopw [25] (fun i wr=>∃ k : Nat,k ≤ l.length ∧ i = .int .i64 k ∧ Hid (Cal.levsE n l = Cal.levsE n (l.drop k)) ∧ Hid (CnI w n wr)) (fun i _=>l.length - (intOf i).toNat)
   case atStart=>exact ⟨0,Nat.zero_le _,rfl,hE0,hI⟩
   case round =>
    clear hE0 hI
    obtain ⟨k,hk,rfl,hE,hI⟩:=hrel
    by_cases hlt : k < l.length
    ·have hk' : l[k]? = some l[k]:=List.getElem?_eq_getElem hlt
     have hd:=Cal.levsE_drop (n:=n) hlt
     have hcs:=levE_cases n l[k]
     generalize l[k] = x at *
     obtain ⟨b,o,rfl,hbl,c0,c1,c2,c3⟩:=lev_at (hL.out.below hI.out.bel).rows hk'
     have lt0:=hI.out.lt
     have n0:=((below_alloc wr (.cells #[.int .i64 x.f,.int .i64 x.t,.int .i64 x.d,.int .i64 x.w] 75)).cell (p:=⟨w.heap.size,0,none⟩) lt0).trans hI.out.a
     have hI2:=Lib.hid (hI.out.below (below_alloc wr (.cells #[.int .i64 x.f,.int .i64 x.t,.int .i64 x.d,.int .i64 x.w] 75)))
     have m1 : Hid True:=trivial
     clear hk'
     obtain ⟨f,t,d,wt⟩:=x
     dsimp only at *
     have hRk : Hid (∀ v,v ≠ 0 → Cal.levE n ⟨f,t,d,wt⟩ = v → R = v):=fun v hv hz=>by
      rw [hz,if_neg hv] at hd
      rw [hR.out,show Cal.levsE n (l.drop 0) = v from hE.out.trans hd,if_neg hv]
     have hE2 : Hid (Cal.levE n ⟨f,t,d,wt⟩ = 0 → Cal.levsE n l = Cal.levsE n (l.drop (k + 1))):=fun hz=>by
      rw [hz,if_pos rfl] at hd
      exact hE.out.trans hd
     clear hd hE hI hR
     rcases hcs with ⟨h1,hz⟩ | ⟨h1,h2,hz⟩ | ⟨h1,h2,h3,hz⟩ | ⟨h1,h2,h3,hz,h4⟩ | ⟨h1,h2,h3,hz,h4,h5,h6,h7⟩
     ·have hR:=Lib.hid (hRk.out _ (by decide) hz)
      replace h1:=Lib.hid h1
      clear hz hE2 hRk
      go_wp2_with (first
       |(go_at_call 36;clear m1;refine (isN_any f n _ _ (by first | exact n0 | simpa using n0)).mono ?_;rintro e0 wn ⟨rfl,rfl⟩;rw [h1.out])
       |(go_at_call 36;refine (isN_any _ n _ _ (by first | exact n0 | simpa using n0)).mono ?_;rintro e0 wn ⟨rfl,rfl⟩;rw [h2.out]))
      go_ret
      exact ⟨ret_int hR.out.symm,hI2.out.bel⟩
     ·have hR:=Lib.hid (hRk.out _ (by decide) hz)
      replace h1:=Lib.hid h1
      replace h2:=Lib.hid h2
      clear hz hE2 hRk
      go_wp2_with (first
       |(go_at_call 36;clear m1;refine (isN_any f n _ _ (by first | exact n0 | simpa using n0)).mono ?_;rintro e0 wn ⟨rfl,rfl⟩;rw [h1.out])
       |(go_at_call 36;refine (isN_any _ n _ _ (by first | exact n0 | simpa using n0)).mono ?_;rintro e0 wn ⟨rfl,rfl⟩;rw [h2.out]))
      go_ret
      exact ⟨ret_int hR.out.symm,hI2.out.bel⟩
     ·have hR:=Lib.hid (hRk.out _ (by decide) hz)
      replace h1:=Lib.hid h1
      replace h2:=Lib.hid h2
      clear hz hE2 hRk
      subst h3
      go_wp2_with (first
       |(go_at_call 36;clear m1;refine (isN_any f n _ _ (by first | exact n0 | simpa using n0)).mono ?_;rintro e0 wn ⟨rfl,rfl⟩;rw [h1.out])
       |(go_at_call 36;refine (isN_any _ n _ _ (by first | exact n0 | simpa using n0)).mono ?_;rintro e0 wn ⟨rfl,rfl⟩;rw [h2.out]))
      go_ret
      exact ⟨ret_int hR.out.symm,hI2.out.bel⟩
     ·have hR:=Lib.hid (hRk.out _ (by decide) hz)
      replace h1:=Lib.hid h1
      replace h2:=Lib.hid h2
      clear hz hE2 hRk
      rcases h4 with h4 | ⟨h4,h5⟩ | ⟨h4,h5,h6⟩ | ⟨h4,h5,h6,h7⟩
      ·go_wp2_with (first
        |(go_at_call 36;clear m1;refine (isN_any f n _ _ (by first | exact n0 | simpa using n0)).mono ?_;rintro e0 wn ⟨rfl,rfl⟩;rw [h1.out])
        |(go_at_call 36;refine (isN_any _ n _ _ (by first | exact n0 | simpa using n0)).mono ?_;rintro e0 wn ⟨rfl,rfl⟩;rw [h2.out]))
       go_ret
       exact ⟨ret_int hR.out.symm,hI2.out.bel⟩
      ·go_wp2_with (first
        |(go_at_call 36;clear m1;refine (isN_any f n _ _ (by first | exact n0 | simpa using n0)).mono ?_;rintro e0 wn ⟨rfl,rfl⟩;rw [h1.out])
        |(go_at_call 36;refine (isN_any _ n _ _ (by first | exact n0 | simpa using n0)).mono ?_;rintro e0 wn ⟨rfl,rfl⟩;rw [h2.out]))
       go_ret
       exact ⟨ret_int hR.out.symm,hI2.out.bel⟩
      ·go_wp2_with (first
        |(go_at_call 36;clear m1;refine (isN_any f n _ _ (by first | exact n0 | simpa using n0)).mono ?_;rintro e0 wn ⟨rfl,rfl⟩;rw [h1.out])
        |(go_at_call 36;refine (isN_any _ n _ _ (by first | exact n0 | simpa using n0)).mono ?_;rintro e0 wn ⟨rfl,rfl⟩;rw [h2.out]))
       go_ret
       exact ⟨ret_int hR.out.symm,hI2.out.bel⟩
      ·go_wp2_with (first
        |(go_at_call 36;clear m1;refine (isN_any f n _ _ (by first | exact n0 | simpa using n0)).mono ?_;rintro e0 wn ⟨rfl,rfl⟩;rw [h1.out])
        |(go_at_call 36;refine (isN_any _ n _ _ (by first | exact n0 | simpa using n0)).mono ?_;rintro e0 wn ⟨rfl,rfl⟩;rw [h2.out]))
       go_ret
       exact ⟨ret_int hR.out.symm,hI2.out.bel⟩
     ·replace hE2:=Lib.hid (hE2.out hz)
      replace h1:=Lib.hid h1
      replace h2:=Lib.hid h2
      clear hz hRk
      go_wp2_with (first
       |(go_at_call 36;clear m1;refine (isN_any f n _ _ (by first | exact n0 | simpa using n0)).mono ?_;rintro e0 wn ⟨rfl,rfl⟩;rw [h1.out])
       |(go_at_call 36;refine (isN_any _ n _ _ (by first | exact n0 | simpa using n0)).mono ?_;rintro e0 wn ⟨rfl,rfl⟩;rw [h2.out]))
      go_roundw
      case rel=>exact ⟨k + 1,by omega,by go_num,hE2,hI2⟩
      case measure=>simp [intOf];omega
    ·obtain rfl : k = l.length:=by omega
     have hz : Cal.levsE n l = 0:=by rw [hE.out,List.drop_length];rfl
     have hval:=Lib.hid (Cal.levsE_zero hz)
     replace hR : Hid (R = if (List.range n.toNat).all (Cal.swept n.toNat l) = true then 0 else 29):=by show _ = _;rw [hR.out];exact if_pos hz
     clear hz hE
     obtain ⟨N,rfl⟩ : ∃ N : Nat,n = (N : Int):=⟨n.toNat,by omega⟩
     rw [Int.toNat_natCast] at hR
     have hN1 : 1 ≤ N:=by omega
     have hN6 : N ≤ 6:=by omega
     have lt0:=hI.out.lt
     have n0:=hI.out.a
     have p1:=Lib.hid (wrap_pow hN6)
     have p2:=Lib.hid (wrap_pow1 hN6)
     have hc0 : Hid (Cal.Codes N 1 (Cal.sweeps (l.map Cal.edge) 0 Cal.only0)):=Cal.codes_only0 hN1
     clear hn1 hn2
     go_wp2_with fail
     refine wp_region_held_drew (S:=Sx wr [(w.heap.size,0,.int .i64 (N : Int))]) (by kernel_rfl) (Sx.mk (by simp only [cs_iff_cons];exact ⟨n0,cs_nil _⟩) (Below.refl _ _)).drew (fun hHeld=>?_)
     refine tkHx 0 68 ?_
     refine tkHx 1 69 ?_
     refine tkHx 2 70 ?_
     refine tkHx 3 8 ?_
     refine tkHx 4 9 ?_
     refine wpAnyH_done (by kernel_rfl) ?_ _
     simp only [p1.out,p2.out]
     replace hI:=Lib.hid (hI.out.below hHeld.bel)
     clear hHeld n0 lt0 p1 p2
     generalize wr.drew = wr at *
     have n0:=hI.out.a
     go_wp2_with fail
     clear n0
     go_loopw [8,72] (fun v i wr=>∃ r c : Nat,r ≤ N ∧ i = .int .i64 r ∧ v = .int .i64 c ∧ Hid (Cal.Codes N c (Cal.sweeps (l.map Cal.edge) r Cal.only0)) ∧ Hid (CnI w N wr)) (fun _ i _=>N - (intOf i).toNat)
     case atStart=>exact ⟨0,1,Nat.zero_le _,rfl,rfl,hc0,hI⟩
     case round =>
      clear hc0 hI
      obtain ⟨r,c,hr,rfl,rfl,hc,hI⟩:=hrel
      by_cases hrlt : r < N
      ·have hd0 : Hid (Cal.Codes N c (Cal.sweep1 ((l.map Cal.edge).take 0) (Cal.sweeps (l.map Cal.edge) r Cal.only0))):=hc.out
       go_wp2_with fail
       go_loopw [8,76] (fun v i wr=>∃ k c : Nat,k ≤ l.length ∧ i = .int .i64 k ∧ v = .int .i64 c ∧ Hid (Cal.Codes N c (Cal.sweep1 ((l.map Cal.edge).take k) (Cal.sweeps (l.map Cal.edge) r Cal.only0))) ∧ Hid (CnI w N wr)) (fun _ i _=>l.length - (intOf i).toNat)
       case atStart=>exact ⟨0,c,Nat.zero_le _,rfl,rfl,hd0,hI⟩
       case round =>
        clear hd0 hI hc
        obtain ⟨k,c,hk,rfl,rfl,hc,hI⟩:=hrel
        by_cases hlt : k < l.length
        ·have hk' : l[k]? = some l[k]:=List.getElem?_eq_getElem hlt
         have hv:=Cal.levE_zero (hval.out _ (List.getElem_mem hlt))
         have hst:=Cal.sweep1_take (l:=l.map Cal.edge) (k:=k) (by simpa using hlt) (Cal.sweeps (l.map Cal.edge) r Cal.only0)
         rw [List.getElem_map] at hst
         obtain ⟨S,hS⟩ : ∃ S,Cal.sweep1 ((l.map Cal.edge).take k) (Cal.sweeps (l.map Cal.edge) r Cal.only0) = S:=⟨_,rfl⟩
         rw [hS] at hst hc
         generalize l[k] = x at *
         obtain ⟨b,o,rfl,hbl,c0,c1,c2,c3⟩:=lev_at (hL.out.below hI.out.bel).rows hk'
         obtain ⟨xf,xt,xd,xw⟩:=x
         dsimp only at *
         obtain ⟨⟨f0,f1⟩,⟨t0,t1⟩,-⟩:=hv
         obtain ⟨f,rfl⟩ : ∃ f : Nat,xf = (f : Int):=⟨xf.toNat,by omega⟩
         obtain ⟨t,rfl⟩ : ∃ t : Nat,xt = (t : Int):=⟨xt.toNat,by omega⟩
         have hfN : f < N:=by omega
         have htN : t < N:=by omega
         have q1:=Lib.hid (wrap_pow (N:=f) (by omega))
         have q2:=Lib.hid (wrap_pow (N:=t) (by omega))
         have hc64 : c < 64:=Nat.lt_of_lt_of_le hc.out.1 (Cal.pow_le6 hN6)
         have hE64 : 2 ^ f ||| 2 ^ t < 64:=Nat.lt_of_lt_of_le (Nat.or_lt_two_pow (Cal.two_pow_lt hfN) (Cal.two_pow_lt htN)) (Cal.pow_le6 hN6)
         have q3:=Lib.hid (bits_or6 ⟨2 ^ f,Nat.lt_of_lt_of_le (Cal.two_pow_lt hfN) (Cal.pow_le6 hN6)⟩ ⟨2 ^ t,Nat.lt_of_lt_of_le (Cal.two_pow_lt htN) (Cal.pow_le6 hN6)⟩)
         have q4:=bits_and6 ⟨c,hc64⟩ ⟨2 ^ f ||| 2 ^ t,hE64⟩
         have q5:=bits_or6 ⟨c,hc64⟩ ⟨2 ^ f ||| 2 ^ t,hE64⟩
         have hhit:=hc.out.hit hN6 hfN htN
         have hnx1:=fun h=>hc.out.step ⟨f,t,xd,xw⟩ hfN htN h
         have hnx2:=fun h=>hc.out.stay ⟨f,t,xd,xw⟩ h
         have hst2 : Cal.sweep1 ((l.map Cal.edge).take (k + 1)) (Cal.sweeps (l.map Cal.edge) r Cal.only0) = Cal.stepE S ⟨f,t,xd,xw⟩:=by rw [hst];rfl
         dsimp only at hnx1 hnx2 q4 q5 q3
         rw [← hst2] at hnx1 hnx2
         have lt0:=hI.out.lt
         have hI2:=Lib.hid (hI.out.below (below_alloc wr (.cells #[.int .i64 (Lev.mk f t xd xw).f,.int .i64 (Lev.mk f t xd xw).t,.int .i64 (Lev.mk f t xd xw).d,.int .i64 (Lev.mk f t xd xw).w] 75)))
         have e0 : (wr.alloc (.cells #[.int .i64 (Lev.mk f t xd xw).f,.int .i64 (Lev.mk f t xd xw).t,.int .i64 (Lev.mk f t xd xw).d,.int .i64 (Lev.mk f t xd xw).w] 75)).cell? ⟨wr.heap.size,0,none⟩ = some (.int .i64 (f : Int)):=by simp
         have e1 : (wr.alloc (.cells #[.int .i64 (Lev.mk f t xd xw).f,.int .i64 (Lev.mk f t xd xw).t,.int .i64 (Lev.mk f t xd xw).d,.int .i64 (Lev.mk f t xd xw).w] 75)).cell? ⟨wr.heap.size,1,none⟩ = some (.int .i64 (t : Int)):=by simp
         dsimp only at e0 e1 hI2
         clear hst hst2 hS hk' hc hI
         go_wp2_with fail
         refine wp_region_held_drew (S:=Sx (wr.alloc (.cells #[.int .i64 (f : Int),.int .i64 (t : Int),.int .i64 xd,.int .i64 xw] 75)) [(wr.heap.size,0,.int .i64 (f : Int)),(wr.heap.size,1,.int .i64 (t : Int))]) (by kernel_rfl) (Sx.mk (by simp only [cs_iff_cons];exact ⟨e0,e1,cs_nil _⟩) (Below.refl _ _)).drew (fun hHeld=>?_)
         refine tkHx 0 80 ?_
         refine tkHx 1 81 ?_
         refine tkHx 2 82 ?_
         refine tkHx 3 83 ?_
         refine tkHx 4 84 ?_
         refine tkHx 5 85 ?_
         refine tkHx 6 86 ?_
         refine tkHx 7 12 ?_
         refine wpAnyH_done (by kernel_rfl) ?_ _
         simp only [q1.out,q2.out,q3.out]
         replace hI2:=Lib.hid (hI2.out.below hHeld.bel)
         clear hHeld e0 e1 q1 q2 q3 c0 c1 c2 c3
         generalize (wr.alloc (.cells #[.int .i64 (f : Int),.int .i64 (t : Int),.int .i64 xd,.int .i64 xw] 75)).drew = wn at *
         generalize 2 ^ f ||| 2 ^ t = E at *
         by_cases hz : c &&& E = 0
         ·have hnx:=Lib.hid (hnx2 (hhit.1 hz))
          rw [hz] at q4
          clear hnx1 hnx2 hhit hz q5
          go_wp2_with fail
          go_roundw
          case rel=>exact ⟨k + 1,c,by omega,by go_num,rfl,hnx,hI2⟩
          case measure=>simp [intOf];omega
         ·have hnx:=Lib.hid (hnx1 (by
           cases h : (S f || S t)
           ·exact absurd (hhit.2 h) hz
           ·rfl))
          generalize c &&& E = Z at *
          generalize c ||| E = C2 at *
          have hZ : ((Z : Int) == 0) = false:=by simpa using hz
          have hZ2 : ¬ (Z : Int) = 0:=by omega
          clear hnx1 hnx2 hhit
          go_wp2_with fail
          go_roundw
          case rel=>exact ⟨k + 1,C2,by omega,by go_num,rfl,hnx,hI2⟩
          case measure=>simp [intOf];omega
        ·obtain rfl : k = l.length:=by omega
         have hc2 : Hid (Cal.Codes N c (Cal.sweeps (l.map Cal.edge) (r + 1) Cal.only0)):=by
          show Cal.Codes _ _ _
          rw [Cal.sweeps_succ]
          have:=hc.out
          rw [List.take_of_length_le (by simp)] at this
          exact this
         clear hc
         go_wp2_with fail
         go_roundw
         case rel=>exact ⟨r + 1,c,by omega,by go_num,rfl,hc2,hI⟩
         case measure=>simp [intOf];omega
      ·obtain rfl : r = N:=by omega
       have hfull:=hc.out.full hN6
       have hc64 : c < 64:=Nat.lt_of_lt_of_le hc.out.1 (Cal.pow_le6 hN6)
       have hP:=Cal.pow_le6 hN6
       have hP1 : 1 ≤ 2 ^ r:=Nat.one_le_two_pow
       by_cases hz : c = 2 ^ r - 1
       ·have hall : (List.range r).all (Cal.swept r l) = true:=by
         rw [List.all_eq_true]
         intro p hp
         exact hfull.1 hz p (List.mem_range.1 hp)
        replace hR : Hid (R = 0):=by show _ = _;rw [hR.out,if_pos hall]
        have hcz : (c : Int) = ((2 ^ r - 1 : Nat) : Int):=by rw [hz]
        clear hall hfull hc
        generalize 2 ^ r - 1 = M at *
        subst hz
        go_wp2_with fail
        go_ret
        exact ⟨ret_int hR.out.symm,hI.out.bel⟩
       ·have hall : ¬ (List.range r).all (Cal.swept r l) = true:=fun h=>by
         rw [List.all_eq_true] at h
         exact hz (hfull.2 fun p hp=>h p (List.mem_range.2 hp))
        replace hR : Hid (R = 29):=by show _ = _;rw [hR.out,if_neg hall]
        clear hall hfull hc
        generalize 2 ^ r - 1 = M at *
        have hM1 : ((c : Int) == (M : Int)) = false:=by simp;omega
        have hM2 : ¬ (c : Int) = (M : Int):=by omega
        go_wp2_with fail
        go_ret
        exact ⟨ret_int hR.out.symm,hI.out.bel⟩
end Go.Proofs.Ythfokpchdlcidaa
namespace Go.Proofs.Ythfokpchdlcidaa
open Go Go.RowKit Go.Shelf
theorem cut_tail {t : TypeId} {m : Nat} (hu : Try.prog.underlying t = some (.slice (Try.prog.elem t))) (hz : ∀ w,(sizeOf (Try.prog.elem t)).run Try.prog w = .ok m w) {w : World} {A : Option Addr} {n c : Nat} {rows : List (List Value)} (hn : n = rows.length) (hr : RowsAt w A m rows) (hc : n ≤ c) {k : Nat} (hk : k ≤ n) :
  ∃ A1 c1,(∀ w',(Instr.slice t (.slice A n c) (some (.int .i64 (k : Int))) none none).run Try.prog w' = .ok (.slice A1 (n - k) c1) w') ∧ n - k ≤ c1 ∧ RowsAt w A1 m (rows.drop k):=by
 refine ⟨if c = k then A else A.map (·.add (k * m)),c - k,fun w'=>?_,by omega,?_⟩
 ·rw [run_slice_l w' t A n c hu .i64 k (by omega) (by omega),hz]
  simp [Result.andThen,sliced]
 ·intro j r hj
  rw [List.getElem?_drop] at hj
  obtain ⟨b,o,hA,hb,hcell⟩:=hr (k + j) r hj
  have hlt : k + j < rows.length:=(List.getElem?_eq_some_iff.1 hj).1
  refine ⟨b,o + k * m,?_,hb,fun i v hv=>?_⟩
  ·rw [if_neg (by omega),hA,Option.map_some,addr_add]
  ·have:=hcell i v hv
   rw [show o + k * m + (j * m + i) = o + ((k + j) * m + i) by rw [Nat.add_mul];omega]
   exact this
end Go.Proofs.Ythfokpchdlcidaa
namespace Go.Proofs.Ythfokpchdlcidaa
open Go Go.RowKit Go.Shelf
def offC (q : Nat) (r : List Int) : List Int:=r.eraseIdx q
def minorL (q : Nat) (M : List (List Int)) : List (List Int):=(M.drop 1).map (offC q)
end Go.Proofs.Ythfokpchdlcidaa
namespace Go.Proofs.Ythfokpchdlcidaa
open Go Go.RowKit Go.Shelf
theorem wrap_eq (x : Int) : IntKind.i64.wrap x = wrap64 x:=by rw [IntKind.wrap_i64];unfold wrap64;rfl
def detF : Nat → List (List Int) → Int
 | 0,_=>1
 | n + 1,M=>Cal.sumTo (n + 1) fun c=>Cal.sg c * ((M[0]?.getD [])[c]?.getD 0) * detF n (minorL c M)
end Go.Proofs.Ythfokpchdlcidaa
namespace Go.Proofs.Ythfokpchdlcidaa
open Go Go.RowKit Go.Shelf
theorem IntsL.lit {w : World} {B : Nat} {v : Value} {zs : List Int} (h : IntsL w B v zs) (hne : 0 < zs.length) : ∃ g c,v = .slice (some ⟨g,0,none⟩) zs.length c ∧ B ≤ g ∧ g < w.heap.size:=by
 rcases (IntsL.own h).2 with ⟨_,h2⟩ | ⟨g,cap,cur,h1,h3,h4,h2,_⟩
 ·omega
 ·exact ⟨g,cap,h1,h3,(Array.getElem?_eq_some_iff.1 h4).1⟩
end Go.Proofs.Ythfokpchdlcidaa
namespace Go.Proofs.Ythfokpchdlcidaa
open Go Go.RowKit Go.Shelf
def listOf (n : Nat) (f : Nat → Int) : List Int:=(List.range n).map f
def matOf (n : Nat) (L : Nat → Nat → Int) : List (List Int):=(List.range n).map fun i=>listOf n (L i)
end Go.Proofs.Ythfokpchdlcidaa
namespace Go.Proofs.Ythfokpchdlcidaa
open Go Go.RowKit Go.Shelf
namespace Cal
def edges (l : List Lev) : List Edge:=l.map edge
def hD (n : Nat) (l : List Lev) : Int:=detF n (minorL 0 (matOf (n + 1) (lap (edges l))))
theorem netE_zero {n : Int} {l : List Lev} (h : netE n l = 0) : 1 ≤ n ∧ n ≤ 6 ∧ l.length ≤ 20 ∧ (∀ x ∈ l,levE n x = 0) ∧ ∀ p,p < n.toNat → swept n.toNat l p = true:=by
 unfold netE at h
 split at h
 ·cases h
 ·split at h
  ·cases h
  ·split at h
   ·rename_i h0
    split at h
    ·rename_i h1
     rw [List.all_eq_true] at h1
     exact ⟨by omega,by omega,by omega,levsE_zero h0,fun p hp=>h1 p (List.mem_range.2 hp)⟩
    ·cases h
   ·rename_i h0;exact absurd h h0
end Cal
end Go.Proofs.Ythfokpchdlcidaa
namespace Go.Proofs.Ythfokpchdlcidaa
open Go Go.RowKit Go.Shelf
theorem wpListF_append_rows {F : Fence} {n0 : Nat} {P : Program} {t e : TypeId} {m bytes : Nat} (el : Elem P t e m bytes) {w : World} {ops : Array Oper} {rest : List Oper} {o : Oper} {a : Act} {Q : Exit → Act → World → Prop} (hg : o.guard = none) (s x : Operand)
  (hop : o.op = Op.call { callee:=Callee.builtin Builtin.append,args:=#[s,x],argTypes:=#[t,t] }) {v : Value} {A : Option Addr} {n c : Nat} (hs : a.eval s = v) (hx : a.eval x = .slice A n c)
  {B : Nat} {rows : List (List Value)} (h : OwnL w B e m v rows) {rows2 : List (List Value)} (h2 : RowsAt w A m rows2) (hn : n = rows2.length) (hw : ∀ r ∈ rows2,r.length = m) (h1 : ∀ r ∈ rows2,∀ u ∈ r,u.oneCell' = true)
  (h63 : rows.length + rows2.length ≤ 4000000000) (hby : bytes ≤ 10000) (hbase : B ≤ w.heap.size)
  (hK : ∀ v' w',OwnL w' B e m v' (rows ++ rows2) → w.grownBy w' v.ownBlock → (v'.ownBlock = v.ownBlock ∨ v'.ownBlock = some w.heap.size) → wpListIn F n0 P ops Q rest (a.put o.dst v') w') : wpListIn F n0 P ops Q (o :: rest) a w:=by
 refine wpListIn_plain hg fun K hK'=>?_
 obtain ⟨v',w',hrun,h3,h4,h5⟩:=run_append_rows el o.type h h2 hn hw h1 h63 hby hbase
 unfold Oper.wpIn
 refine ⟨?_,?_⟩
 ·simp [Oper.about,hop,resolve,Target.leads,Sem.run_pure]
 ·rw [Oper.semAt_plain F _ _ (by rw [hop];intro c hc';cases hc')]
  simp only [execOp,hop,resolve,invoke,builtin,Sem.run_bind,Sem.run_pure,Result.andThen_ok,List.map_toArray,List.map_cons,List.map_nil,hs,hx]
  rw [hrun]
  exact hK' _ _ (hK v' w' h3 h4 h5)
theorem BoxAt.keptF {W W' : World} {row : Option Nat} {B : Nat} {cs : List Value} (h : BoxAt W B cs) (hg : W.grownBy W' row) (hr : Others W row) : BoxAt W' B cs :=
 ⟨fun j v hv=>cell_kept (h.range j v hv) hg hr,fun j hj=>by
  obtain ⟨v,hv⟩ : ∃ v,cs[j]? = some v:=⟨_,List.getElem?_eq_getElem hj⟩
  have:=h.range j v hv
  rw [Nat.zero_add] at this
  exact (frozen_kept this hg hr).trans (h.free j hj),Nat.lt_of_lt_of_le h.lt hg.size⟩
theorem keepsF_below {W W' : World} (hb : Below W.heap.size W W') : KeepsOthers W W':=KeepsOthers.of_grownBy (below_grown hb none) (fun j o e=>by cases e)
theorem belowF_put {w W : World} (h : Below w.heap.size w W) {D : Nat} (hD : w.heap.size ≤ D) (o : Obj) : Below w.heap.size w (W.putObj D o) :=
 h.grown (grownBy_putObj' W D o) h.size (fun k e=>by cases e;exact hD)
end Go.Proofs.Ythfokpchdlcidaa
namespace Go.Proofs.Ythfokpchdlcidaa
open Go Go.RowKit
structure FromB (B : Nat) (W W' : World) : Prop where
 size : W.heap.size ≤ W'.heap.size
 same : ∀ b,B ≤ b → b < W.heap.size → W'.heap[b]? = W.heap[b]?
def AbG (_ : Nat) (X Y : World) : Prop:=X.grownBy Y none
def SeqIx {α : Type} (F : Fence) (n : Nat) (P : Program) (g : Nat) (lb : Array Value) (encs : α → Array Value) (Ab Kp : Nat → World → World → Prop) (xs : List α) (w : World) : Prop :=
 ∀ (l : Nat) (J Jx : Nat → World → Prop) (W : World),Below w.heap.size w W → (∀ k X Y,J k X → Ab W.heap.size X Y → J k Y) → (∀ k X Y,Jx k X → Ab W.heap.size X Y → Jx k Y) →
  (∀ k x W1,xs[k]? = some x → J k W1 → YieldAt F (n - 1) P l (encs x) W1 fun e W' =>
   (e = .returned (.bool true) ∧ J (k + 1) W' ∧ Kp W.heap.size W1 W') ∨ (e = .returned (.bool false) ∧ Jx k W' ∧ Kp W.heap.size W1 W')) →
  J 0 W →
  CallsIn F n P g (#[.func (.yield l) #[] #[]] ++ lb) W fun e W'=>(∃ v,e = .returned v) ∧ (J xs.length W' ∨ ∃ k,k < xs.length ∧ Jx k W')
theorem SeqIx.inRound {α : Type} {F : Fence} {n : Nat} {P : Program} {g : Nat} {lb : Array Value} {encs : α → Array Value} {Ab Kp : Nat → World → World → Prop} {xs : List α} {w : World} (l : Nat) (h : SeqIx F n P g lb encs Ab Kp xs w) : SeqIx (F.inRound l) n P g lb encs Ab Kp xs w:=h
def ixPost (B : Nat) (Kp : World → World → Prop) (In : World → Prop) (Ix : Code → World → Prop) (W : World) : Exit → Act → World → Prop
 | .normal,_,W'=>KeepsFrom B W W' ∧ Kp W W' ∧ In W'
 | .ret,_,W'=>KeepsFrom B W W' ∧ Kp W W' ∧ Ix .ret W'
 | .exit id,_,W'=>KeepsFrom B W W' ∧ Kp W W' ∧ Ix (.exit id) W'
 | .goto t,_,W'=>KeepsFrom B W W' ∧ Kp W W' ∧ Ix (.goto t) W'
 | .panic _,_,_=>False
 | .outgrown,_,_=>False
theorem FromB.refl (B : Nat) (W : World) : FromB B W W:=⟨Nat.le_refl _,fun _ _ _=>rfl⟩
theorem FromB.trans {B : Nat} {X Y Z : World} (h : FromB B X Y) (k : FromB B Y Z) : FromB B X Z:=⟨Nat.le_trans h.size k.size,fun b h1 h2=>(k.same b h1 (Nat.lt_of_lt_of_le h2 h.size)).trans (h.same b h1 h2)⟩
variable {F : Fence} {n : Nat} {P : Program} {w : World}
theorem wpIn_rangeFunc_ix {α : Type} {g : Operand} {ps : Array Tmp} {assign body : Code} {Q : Exit → Act → World → Prop} {a : Act} {w : World}
  (hro : F.round = none) (h1 : 1 ≤ n) {gf : Nat} {lb : Array Value} (hg : a.eval g = .func (.func gf) #[] lb) (hFg : F.fn gf) (eg : ∀ args w,(callFunc gf args).run P w = .ok (.enter gf args) w)
  {encs : α → Array Value} {Ab Kp : Nat → World → World → Prop} {xs : List α} {w0 : World} (hseq : SeqIx F (n - 1) P gf lb encs Ab Kp xs w0)
  (hAb : ∀ (X Y : World) (k : Nat) (o : Obj),Ab (w.heap.size + 1 + 1) X Y → k < w.heap.size + 1 + 1 → X.heap[k]? = some o → o.isCells = false → Y.heap[k]? = some o)
  (hKt : ∀ {A B C : World},Kp (w.heap.size + 1 + 1) A B → Kp (w.heap.size + 1 + 1) B C → Kp (w.heap.size + 1 + 1) A C) (hKb : ∀ (W : World) (l : Nat) (o o' : Obj),w.heap.size ≤ l → l < w.heap.size + 1 + 1 → W.heap[l]? = some o → o.isCells = false → o.isWalk = false → Kp (w.heap.size + 1 + 1) W (W.putObj l o')) (hb0 : Below w0.heap.size w0 w) (hps : ∀ x,(encs x).size = ps.size)
  (I : Nat → World → Prop) (Ix : Code → Nat → World → Prop) (hI : OwnFrom w.heap.size I) (hIx : ∀ c,OwnFrom w.heap.size (Ix c))
  (hIA : ∀ k X Y,I k X → Ab (w.heap.size + 1 + 1) X Y → I k Y) (hIxA : ∀ c k X Y,Ix c k X → Ab (w.heap.size + 1 + 1) X Y → Ix c k Y) (h0 : I 0 w) (Ax : α → Act → World → Prop) (hAx : ∀ x a',OwnFrom w.heap.size (fun (_ : Unit) W=>Ax x a' W))
  (hassign : ∀ (l : Nat) (k : Nat) (x : α) (W : World) (K : Act → World → Prop),xs[k]? = some x → I k W → (∀ a' W',KeepsFrom w.heap.size W W' → Kp (w.heap.size + 1 + 1) W W' → I k W' → Ax x a' W' → K a' W') →
   assign.wpIn (F.inRound l) (n - 1 - 1) P (Exit.then K (fun _ _ _=>False)) { tmps:=(ps.zip (encs x)).foldl (fun t (p,v)=>t.setIfInBounds p v) a.tmps,defers:=[] } W)
  (hbody : ∀ (l : Nat) (k : Nat) (x : α) (a' : Act) (W : World),w.heap.size ≤ l → (∃ r,W.heap[l]? = some (.loop r)) → xs[k]? = some x → I k W → Ax x a' W → body.wpIn (F.inRound l) (n - 1 - 1) P (ixPost w.heap.size (Kp (w.heap.size + 1 + 1)) (I (k + 1)) (fun c=>Ix c k) W) a' W)
  (hdone : ∀ (D : Nat) (W : World),w.heap.size ≤ D → I xs.length W → W.heap[D]? = some (.deferred (some [])) → Q .normal { a with defers:={ target:=.collected D,args:=#[] } :: a.defers } W)
  (hstop : ∀ (D : Nat) (c : Code) (k : Nat) (W : World),w.heap.size ≤ D → k < xs.length → Ix c k W → W.heap[D]? = some (.deferred (some [])) → c.wpIn F n P Q { a with defers:={ target:=.collected D,args:=#[] } :: a.defers } W) :
  (Code.rangeFunc g ps assign body).wpIn F n P Q a w:=by
 refine wpIn_rangeFunc ?_
 intro fn hfn
 rw [hro]
 obtain ⟨rec,hrec⟩ : ∃ rec : LoopState → Option Code → Loop,rec = fun st pe=>{ state:=st,pending:=pe,fn,tmps:=a.tmps,params:=ps,assign,body,defers:=w.heap.size }:=⟨_,rfl⟩
 obtain ⟨W1,hW1⟩ : ∃ W1,(w.alloc (.deferred (some []))).alloc (.loop (rec .ready none)) = W1:=⟨_,rfl⟩
 have hL1 : W1.heap[w.heap.size + 1]? = some (.loop (rec .ready none)):=by
  rw [← hW1];have:=World.alloc_heap_new (w.alloc (.deferred (some []))) (.loop (rec .ready none));rwa [World.size_alloc] at this
 have hK1 : W1.heap[w.heap.size]? = some (.deferred (some [])):=by
  rw [← hW1];exact (Below.heap_alloc _ _ _ (by simp)).trans (World.alloc_heap_new w _)
 have hI1 : I 0 W1:=by rw [← hW1];exact hI.alloc _ (hI.alloc _ h0)
 have hb1 : Below w0.heap.size w0 W1:=by
  rw [← hW1];exact hb0.trans ((((Below.refl _ w).alloc (Nat.le_refl _) _).alloc (by simp) _).mono hb0.size)
 refine ⟨w.heap.size + 1,[{ target:=.collected w.heap.size,args:=#[] }],W1,{ target:=.fn (.func gf) lb,args:=#[.func (.yield (w.heap.size + 1)) #[] #[]] },W1,gf,
  #[.func (.yield (w.heap.size + 1)) #[] #[]] ++ lb,W1,?_,?_,?_,?_,fun _=>h1,?_⟩
 ·rw [← hW1,hrec];exact run_enterLoop_outer _ _ _ _ _
 ·simp only [resolve,hg]
  simp [go_sem]
 ·intro f' hf';simp [Target.leads] at hf';subst hf';exact hFg
 ·simp [invoke,go_sem,eg]
 ·-- THE ITERATOR's CONTRACT,AT THE CALLER's INVARIANT WITH THE TWO FACTS OF BOOK-KEEPING BESIDE IT
  have hsz1 : W1.heap.size = w.heap.size + 1 + 1:=by rw [← hW1];simp
  rw [← hsz1] at hAb hIA hIxA hKt hKb
  refine (hseq (w.heap.size + 1)
   (fun k W=>I k W ∧ W.heap[w.heap.size + 1]? = some (.loop (rec .ready none)) ∧ W.heap[w.heap.size]? = some (.deferred (some [])))
   (fun k W=>∃ c,Ix c k W ∧ W.heap[w.heap.size + 1]? = some (.loop (rec .done (some c))) ∧ W.heap[w.heap.size]? = some (.deferred (some [])))
   W1 hb1
   (fun k A B hs hab=>⟨hIA k A B hs.1 hab,hAb A B _ _ hab (by rw [hsz1];omega) hs.2.1 rfl,hAb A B _ _ hab (by rw [hsz1];omega) hs.2.2 rfl⟩)
   (fun k A B hs hab=>by
    obtain ⟨c,hc,hl,hk⟩:=hs
    exact ⟨c,hIxA c k A B hc hab,hAb A B _ _ hab (by rw [hsz1];omega) hl rfl,hAb A B _ _ hab (by rw [hsz1];omega) hk rfl⟩)
   ?_ ⟨hI1,hL1,hK1⟩).mono ?_
  ·-- ONE ROUND
   rintro k x W hx ⟨hi,hl,hk⟩
   have hlt : w.heap.size + 1 < W.heap.size:=(Array.getElem?_eq_some_iff.1 hl).1
   have hy:=run_yield (P:=P) (args:=encs x) hl (by rw [hrec];exact hps x)
   rw [hrec] at hy
   refine ⟨fn,_,assign,body,hy,roundIn_of_wpIn hfn (hassign _ k x W _ hx hi ?_)⟩
   clear hy
   intro a' Wa hkfa hkpa hia hax
   rw [← hsz1] at hkpa
   replace hl:=hkfa.same _ _ (by omega) hl rfl
   replace hk:=hkfa.same _ _ (Nat.le_refl _) hk rfl
   replace hlt : w.heap.size + 1 < Wa.heap.size:=(Array.getElem?_eq_some_iff.1 hl).1
   replace hi:=hia
   clear hia
   revert hkpa hkfa
   generalize W = Wb
   intro hkfa hkpa
   obtain ⟨W,rfl⟩ : ∃ W,W = Wa:=⟨_,rfl⟩
   refine ⟨_,run_beginRound hl (by rw [hrec]),?_⟩
   have hl2 : (W.putObj (w.heap.size + 1) (.loop { rec .ready none with state:=.busy })).heap[w.heap.size + 1]? = some (.loop { rec .ready none with state:=.busy }):=World.putObj_heap_same hlt
   have hk2 : (W.putObj (w.heap.size + 1) (.loop { rec .ready none with state:=.busy })).heap[w.heap.size]? = some (.deferred (some [])):=(World.putObj_heap_other (by omega)).trans hk
   have hw2 : Kp W1.heap.size W (W.putObj (w.heap.size + 1) (.loop { rec .ready none with state:=.busy })):=hKb _ _ _ _ (by omega) (by rw [hsz1];omega) hl rfl rfl
   refine wpIn_mono (hbody _ k x a' _ (by omega) ⟨_,hl2⟩ hx (hI.putObj _ hi (by omega) hl rfl) ((hAx x a').putObj (s:=()) _ hax (by omega) hl rfl)) ?_
   have fin : ∀ (jump : Option Code) (Wz : World),KeepsFrom w.heap.size (W.putObj (w.heap.size + 1) (.loop { rec .ready none with state:=.busy })) Wz →
     (Instr.endRound (w.heap.size + 1) jump).run P Wz = .ok (.bool jump.isNone) (Wz.putObj (w.heap.size + 1) (.loop (rec (if jump.isNone then .ready else .done) jump))) ∧
     Wz.heap[w.heap.size + 1]? = some (.loop { rec .ready none with state:=.busy }) ∧
     (Wz.putObj (w.heap.size + 1) (.loop (rec (if jump.isNone then .ready else .done) jump))).heap[w.heap.size + 1]? = some (.loop (rec (if jump.isNone then .ready else .done) jump)) ∧
     (Wz.putObj (w.heap.size + 1) (.loop (rec (if jump.isNone then .ready else .done) jump))).heap[w.heap.size]? = some (.deferred (some [])):=fun jump Wz hk3=>by
    have hl3:=hk3.same _ _ (by omega) hl2 rfl
    have:=run_endRound (P:=P) jump hl3
    rw [hrec] at this ⊢
    exact ⟨this,by rw [hrec] at hl3;exact hl3,World.putObj_heap_same (Array.getElem?_eq_some_iff.1 hl3).1,(World.putObj_heap_other (by omega)).trans (hk3.same _ _ (Nat.le_refl _) hk2 rfl)⟩
   rintro e a3 Wz hp
   cases e with
   | normal =>
    obtain ⟨hk3,hkp3,hi3⟩:=hp
    obtain ⟨hr,hl3,hl4,hk4⟩:=fin none Wz hk3
    exact ⟨_,_,hr,.inl ⟨rfl,⟨hI.putObj _ hi3 (by omega) hl3 rfl,hl4,hk4⟩,hKt hkpa (hKt (hKt hw2 (by rw [hsz1];exact hkp3)) (hKb _ _ _ _ (by omega) (by rw [hsz1];omega) hl3 rfl rfl))⟩⟩
   | ret =>
    obtain ⟨hk3,hkp3,hi3⟩:=hp
    obtain ⟨hr,hl3,hl4,hk4⟩:=fin (some .ret) Wz hk3
    exact ⟨_,_,hr,.inr ⟨rfl,⟨.ret,(hIx _).putObj _ hi3 (by omega) hl3 rfl,hl4,hk4⟩,hKt hkpa (hKt (hKt hw2 (by rw [hsz1];exact hkp3)) (hKb _ _ _ _ (by omega) (by rw [hsz1];omega) hl3 rfl rfl))⟩⟩
   | exit id =>
    obtain ⟨hk3,hkp3,hi3⟩:=hp
    obtain ⟨hr,hl3,hl4,hk4⟩:=fin (some (.exit id)) Wz hk3
    exact ⟨_,_,hr,.inr ⟨rfl,⟨.exit id,(hIx _).putObj _ hi3 (by omega) hl3 rfl,hl4,hk4⟩,hKt hkpa (hKt (hKt hw2 (by rw [hsz1];exact hkp3)) (hKb _ _ _ _ (by omega) (by rw [hsz1];omega) hl3 rfl rfl))⟩⟩
   | goto t =>
    obtain ⟨hk3,hkp3,hi3⟩:=hp
    obtain ⟨hr,hl3,hl4,hk4⟩:=fin (some (.goto t)) Wz hk3
    exact ⟨_,_,hr,.inr ⟨rfl,⟨.goto t,(hIx _).putObj _ hi3 (by omega) hl3 rfl,hl4,hk4⟩,hKt hkpa (hKt (hKt hw2 (by rw [hsz1];exact hkp3)) (hKb _ _ _ _ (by omega) (by rw [hsz1];omega) hl3 rfl rfl))⟩⟩
   | panic ch=>exact hp.elim
   | outgrown=>exact hp.elim
  ·-- BEHIND THE ITERATOR
   rintro e W2 ⟨⟨v,rfl⟩,(⟨hi,hl,hk⟩ | ⟨k,hSp,c,hi,hl,hk⟩)⟩
   ·exact ⟨none,_,by have:=run_endLoop (P:=P) hl (by rw [hrec];simp);rw [hrec] at this;exact this,hdone _ _ (Nat.le_refl _) (hI.putObj _ hi (by omega) hl rfl) ((World.putObj_heap_other (by omega)).trans hk)⟩
   ·exact ⟨some c,_,by have:=run_endLoop (P:=P) hl (by rw [hrec];simp);rw [hrec] at this;exact this,hstop _ c k _ (Nat.le_refl _) hSp ((hIx c).putObj _ hi (by omega) hl rfl) ((World.putObj_heap_other (by omega)).trans hk)⟩
theorem wpIn_rangeFunc_ixN {α : Type} {g : Operand} {ps : Array Tmp} {assign body : Code} {Q : Exit → Act → World → Prop} {a : Act} {w : World}
  {l₀ : Nat} {r₀ : Loop} (hro : F.round = some l₀) (hl₀ : w.heap[l₀]? = some (.loop r₀)) (h1 : 1 ≤ n) {gf : Nat} {lb : Array Value} (hg : a.eval g = .func (.func gf) #[] lb) (hFg : F.fn gf) (eg : ∀ args w,(callFunc gf args).run P w = .ok (.enter gf args) w)
  {encs : α → Array Value} {Ab Kp : Nat → World → World → Prop} {xs : List α} {w0 : World} (hseq : SeqIx F (n - 1) P gf lb encs Ab Kp xs w0)
  (hAb : ∀ (X Y : World) (k : Nat) (o : Obj),Ab (w.heap.size + 1) X Y → k < w.heap.size + 1 → X.heap[k]? = some o → o.isCells = false → Y.heap[k]? = some o)
  (hKt : ∀ {A B C : World},Kp (w.heap.size + 1) A B → Kp (w.heap.size + 1) B C → Kp (w.heap.size + 1) A C) (hKb : ∀ (W : World) (l : Nat) (o o' : Obj),w.heap.size ≤ l → l < w.heap.size + 1 → W.heap[l]? = some o → o.isCells = false → o.isWalk = false → Kp (w.heap.size + 1) W (W.putObj l o')) (hb0 : Below w0.heap.size w0 w) (hps : ∀ x,(encs x).size = ps.size)
  (I : Nat → World → Prop) (Ix : Code → Nat → World → Prop) (hI : OwnFrom w.heap.size I) (hIx : ∀ c,OwnFrom w.heap.size (Ix c))
  (hIA : ∀ k X Y,I k X → Ab (w.heap.size + 1) X Y → I k Y) (hIxA : ∀ c k X Y,Ix c k X → Ab (w.heap.size + 1) X Y → Ix c k Y) (h0 : I 0 w) (Ax : α → Act → World → Prop) (hAx : ∀ x a',OwnFrom w.heap.size (fun (_ : Unit) W=>Ax x a' W))
  (hassign : ∀ (l : Nat) (k : Nat) (x : α) (W : World) (K : Act → World → Prop),xs[k]? = some x → I k W → (∀ a' W',KeepsFrom w.heap.size W W' → Kp (w.heap.size + 1) W W' → I k W' → Ax x a' W' → K a' W') →
   assign.wpIn (F.inRound l) (n - 1 - 1) P (Exit.then K (fun _ _ _=>False)) { tmps:=(ps.zip (encs x)).foldl (fun t (p,v)=>t.setIfInBounds p v) a.tmps,defers:=[] } W)
  (hbody : ∀ (l : Nat) (k : Nat) (x : α) (a' : Act) (W : World),w.heap.size ≤ l → (∃ r,W.heap[l]? = some (.loop r)) → xs[k]? = some x → I k W → Ax x a' W → body.wpIn (F.inRound l) (n - 1 - 1) P (ixPost w.heap.size (Kp (w.heap.size + 1)) (I (k + 1)) (fun c=>Ix c k) W) a' W)
  (hdone : ∀ (W : World),I xs.length W → Q .normal a W)
  (hstop : ∀ (c : Code) (k : Nat) (W : World),k < xs.length → Ix c k W → c.wpIn F n P Q a W) :
  (Code.rangeFunc g ps assign body).wpIn F n P Q a w:=by
 refine wpIn_rangeFunc ?_
 intro fn hfn
 rw [hro]
 obtain ⟨rec,hrec⟩ : ∃ rec : LoopState → Option Code → Loop,rec = fun st pe=>{ state:=st,pending:=pe,fn,tmps:=a.tmps,params:=ps,assign,body,defers:=r₀.defers }:=⟨_,rfl⟩
 obtain ⟨W1,hW1⟩ : ∃ W1,w.alloc (.loop (rec .ready none)) = W1:=⟨_,rfl⟩
 have hL1 : W1.heap[w.heap.size]? = some (.loop (rec .ready none)):=by rw [← hW1];exact World.alloc_heap_new w _
 have hI1 : I 0 W1:=by rw [← hW1];exact hI.alloc _ h0
 have hb1 : Below w0.heap.size w0 W1:=by
  rw [← hW1];exact hb0.trans (((Below.refl _ w).alloc (Nat.le_refl _) _).mono hb0.size)
 refine ⟨w.heap.size,[],W1,{ target:=.fn (.func gf) lb,args:=#[.func (.yield w.heap.size) #[] #[]] },W1,gf,
  #[.func (.yield w.heap.size) #[] #[]] ++ lb,W1,?_,?_,?_,?_,fun _=>h1,?_⟩
 ·rw [← hW1,hrec];exact run_enterLoop_inner hl₀ _ _ _ _ _
 ·simp only [resolve,hg]
  simp [go_sem]
 ·intro f' hf';simp [Target.leads] at hf';subst hf';exact hFg
 ·simp [invoke,go_sem,eg]
 ·have hsz1 : W1.heap.size = w.heap.size + 1:=by rw [← hW1];simp
  rw [← hsz1] at hAb hIA hIxA hKt hKb
  refine (hseq w.heap.size
   (fun k W=>I k W ∧ W.heap[w.heap.size]? = some (.loop (rec .ready none)))
   (fun k W=>∃ c,Ix c k W ∧ W.heap[w.heap.size]? = some (.loop (rec .done (some c))))
   W1 hb1
   (fun k A B hs hab=>⟨hIA k A B hs.1 hab,hAb A B _ _ hab (by rw [hsz1];omega) hs.2 rfl⟩)
   (fun k A B hs hab=>by
    obtain ⟨c,hc,hl⟩:=hs
    exact ⟨c,hIxA c k A B hc hab,hAb A B _ _ hab (by rw [hsz1];omega) hl rfl⟩)
   ?_ ⟨hI1,hL1⟩).mono ?_
  ·-- ONE ROUND
   rintro k x W hx ⟨hi,hl⟩
   have hlt : w.heap.size < W.heap.size:=(Array.getElem?_eq_some_iff.1 hl).1
   have hy:=run_yield (P:=P) (args:=encs x) hl (by rw [hrec];exact hps x)
   rw [hrec] at hy
   refine ⟨fn,_,assign,body,hy,roundIn_of_wpIn hfn (hassign _ k x W _ hx hi ?_)⟩
   clear hy
   intro a' Wa hkfa hkpa hia hax
   rw [← hsz1] at hkpa
   replace hl:=hkfa.same _ _ (Nat.le_refl _) hl rfl
   replace hlt : w.heap.size < Wa.heap.size:=(Array.getElem?_eq_some_iff.1 hl).1
   replace hi:=hia
   clear hia
   revert hkpa hkfa
   generalize W = Wb
   intro hkfa hkpa
   obtain ⟨W,rfl⟩ : ∃ W,W = Wa:=⟨_,rfl⟩
   refine ⟨_,run_beginRound hl (by rw [hrec]),?_⟩
   have hl2 : (W.putObj w.heap.size (.loop { rec .ready none with state:=.busy })).heap[w.heap.size]? = some (.loop { rec .ready none with state:=.busy }):=World.putObj_heap_same hlt
   have hw2 : Kp W1.heap.size W (W.putObj w.heap.size (.loop { rec .ready none with state:=.busy })):=hKb _ _ _ _ (Nat.le_refl _) (by rw [hsz1];omega) hl rfl rfl
   refine wpIn_mono (hbody _ k x a' _ (Nat.le_refl _) ⟨_,hl2⟩ hx (hI.putObj _ hi (Nat.le_refl _) hl rfl) ((hAx x a').putObj (s:=()) _ hax (Nat.le_refl _) hl rfl)) ?_
   have fin : ∀ (jump : Option Code) (Wz : World),KeepsFrom w.heap.size (W.putObj w.heap.size (.loop { rec .ready none with state:=.busy })) Wz →
     (Instr.endRound w.heap.size jump).run P Wz = .ok (.bool jump.isNone) (Wz.putObj w.heap.size (.loop (rec (if jump.isNone then .ready else .done) jump))) ∧
     Wz.heap[w.heap.size]? = some (.loop { rec .ready none with state:=.busy }) ∧
     (Wz.putObj w.heap.size (.loop (rec (if jump.isNone then .ready else .done) jump))).heap[w.heap.size]? = some (.loop (rec (if jump.isNone then .ready else .done) jump)):=fun jump Wz hk3=>by
    have hl3:=hk3.same _ _ (Nat.le_refl _) hl2 rfl
    have:=run_endRound (P:=P) jump hl3
    rw [hrec] at this ⊢
    exact ⟨this,by rw [hrec] at hl3;exact hl3,World.putObj_heap_same (Array.getElem?_eq_some_iff.1 hl3).1⟩
   rintro e a3 Wz hp
   cases e with
   | normal =>
    obtain ⟨hk3,hkp3,hi3⟩:=hp
    obtain ⟨hr,hl3,hl4⟩:=fin none Wz hk3
    exact ⟨_,_,hr,.inl ⟨rfl,⟨hI.putObj _ hi3 (Nat.le_refl _) hl3 rfl,hl4⟩,hKt hkpa (hKt (hKt hw2 (by rw [hsz1];exact hkp3)) (hKb _ _ _ _ (Nat.le_refl _) (by rw [hsz1];omega) hl3 rfl rfl))⟩⟩
   | ret =>
    obtain ⟨hk3,hkp3,hi3⟩:=hp
    obtain ⟨hr,hl3,hl4⟩:=fin (some .ret) Wz hk3
    exact ⟨_,_,hr,.inr ⟨rfl,⟨.ret,(hIx _).putObj _ hi3 (Nat.le_refl _) hl3 rfl,hl4⟩,hKt hkpa (hKt (hKt hw2 (by rw [hsz1];exact hkp3)) (hKb _ _ _ _ (Nat.le_refl _) (by rw [hsz1];omega) hl3 rfl rfl))⟩⟩
   | exit id =>
    obtain ⟨hk3,hkp3,hi3⟩:=hp
    obtain ⟨hr,hl3,hl4⟩:=fin (some (.exit id)) Wz hk3
    exact ⟨_,_,hr,.inr ⟨rfl,⟨.exit id,(hIx _).putObj _ hi3 (Nat.le_refl _) hl3 rfl,hl4⟩,hKt hkpa (hKt (hKt hw2 (by rw [hsz1];exact hkp3)) (hKb _ _ _ _ (Nat.le_refl _) (by rw [hsz1];omega) hl3 rfl rfl))⟩⟩
   | goto t =>
    obtain ⟨hk3,hkp3,hi3⟩:=hp
    obtain ⟨hr,hl3,hl4⟩:=fin (some (.goto t)) Wz hk3
    exact ⟨_,_,hr,.inr ⟨rfl,⟨.goto t,(hIx _).putObj _ hi3 (Nat.le_refl _) hl3 rfl,hl4⟩,hKt hkpa (hKt (hKt hw2 (by rw [hsz1];exact hkp3)) (hKb _ _ _ _ (Nat.le_refl _) (by rw [hsz1];omega) hl3 rfl rfl))⟩⟩
   | panic ch=>exact hp.elim
   | outgrown=>exact hp.elim
  ·-- BEHIND THE ITERATOR
   rintro e W2 ⟨⟨v,rfl⟩,(⟨hi,hl⟩ | ⟨k,hSp,c,hi,hl⟩)⟩
   ·exact ⟨none,_,by have:=run_endLoop (P:=P) hl (by rw [hrec];simp);rw [hrec] at this;exact this,hdone _ (hI.putObj _ hi (Nat.le_refl _) hl rfl)⟩
   ·exact ⟨some c,_,by have:=run_endLoop (P:=P) hl (by rw [hrec];simp);rw [hrec] at this;exact this,hstop c k _ hSp ((hIx c).putObj _ hi (Nat.le_refl _) hl rfl)⟩
end Go.Proofs.Ythfokpchdlcidaa
namespace Go.Proofs.Ythfokpchdlcidaa
open Go Go.RowKit Go.Shelf
attribute [local go_sem] Oper.semAt_some
def ptR (q : Pt) : List Value:=[.int .i64 q.x,.int .i64 q.y]
theorem pts_at {w : World} {V : Option Addr} {ps : List Pt} (h : RowsAt w V 2 (ps.map ptR)) {k : Nat} {q : Pt} (hk : ps[k]? = some q) :
  ∃ b o,V = some ⟨b,o,none⟩ ∧ b < w.heap.size ∧ w.cell? ⟨b,o + k * 2,none⟩ = some (.int .i64 q.x) ∧ w.cell? ⟨b,o + k * 2 + 1,none⟩ = some (.int .i64 q.y):=by
 obtain ⟨b,o,hA,hlt,hc⟩:=h k (ptR q) (by simp [hk])
 exact ⟨b,o,hA,hlt,hc 0 _ rfl,hc 1 _ rfl⟩
def KpS (n₀ Bs : Nat) (_ : Nat) (X Y : World) : Prop:=Below n₀ X Y ∧ Y.heap[Bs]? = X.heap[Bs]?
theorem KpS.refl (n₀ Bs B : Nat) (X : World) : KpS n₀ Bs B X X:=⟨Below.refl _ _,rfl⟩
theorem KpS.trans {n₀ Bs B : Nat} {X Y Z : World} (h : KpS n₀ Bs B X Y) (k : KpS n₀ Bs B Y Z) : KpS n₀ Bs B X Z:=⟨h.1.trans k.1,k.2.trans h.2⟩
theorem KpS.grown {n₀ Bs B : Nat} {X Y : World} (h : X.grownBy Y none) (hn : n₀ ≤ X.heap.size) (hB : Bs < X.heap.size) : KpS n₀ Bs B X Y :=
 ⟨(Below.refl _ _).grown h hn (fun k e=>by cases e),h.block Bs hB (by simp)⟩
def sdE (x : Nat × Sd) : Array Value:=#[.int .i64 (x.1 : Int),.agg #[.int .i64 x.2.a.x,.int .i64 x.2.a.y,.int .i64 x.2.b.x,.int .i64 x.2.b.y]]
def sdsI (ps : List Pt) : List (Nat × Sd):=(List.range ps.length).map fun i=>(i,Cal.sd ps i)
theorem sdsI_at {ps : List Pt} {k : Nat} (h : k < ps.length) : (sdsI ps)[k]? = some (k,Cal.sd ps k):=by
 unfold sdsI
 rw [List.getElem?_map,List.getElem?_range h]
 rfl
theorem sdsI_length (ps : List Pt) : (sdsI ps).length = ps.length:=by simp [sdsI]
theorem sd_of {ps : List Pt} {k : Nat} {a b : Pt} (ha : ps[k]? = some a) (hb : ps[(k + 1) % ps.length]? = some b) : Cal.sd ps k = ⟨a,b⟩:=by
 unfold Cal.sd
 rw [ha,hb]
 rfl
theorem sides_any (V : Option Addr) (k d : Nat) (w : World) :
  Calls Try.prog 79 #[.slice V k d] w fun e w'=>e = .returned (.func (.func 98) #[] #[.pointer (some ⟨w.heap.size,0,none⟩)]) ∧ w' = w.alloc (.cells #[.slice V k d] 35):=by
 go_enter Try.func79,Try.ntmps79
 go_wp2
 go_ret
 exact ⟨rfl,rfl⟩
def IxPost (N : Nat) (J Jx : Nat → World → Prop) (e : Ending) (W' : World) : Prop:=(∃ v,e = .returned v) ∧ (J N W' ∨ ∃ k,k < N ∧ Jx k W')
structure KpOK (Kp : Nat → World → World → Prop) (V : Option Addr) (k Bs : Nat) (w : World) : Prop where
 refl : ∀ x X,Kp x X X
 trans : ∀ x X Y Z,Kp x X Y → Kp x Y Z → Kp x X Z
 size : ∀ x X Y,Kp x X Y → X.heap.size ≤ Y.heap.size
 cells : ∀ x X Y,Kp x X Y → ∀ ad,V = some ad → 0 < k → Y.heap[ad.block]? = X.heap[ad.block]?
 bs : ∀ x X Y,Kp x X Y → Y.heap[Bs]? = X.heap[Bs]?
 grown : ∀ x X Y,X.grownBy Y none → w.heap.size ≤ X.heap.size → Kp x X Y
theorem sides_gen (n : Nat) (hn : 1 ≤ n) (Bs : Nat) (Kp : Nat → World → World → Prop) (V : Option Addr) (d : Nat) (ps : List Pt) (w : World) (hKp : KpOK Kp V ps.length Bs w) (hBs : w.cell? ⟨Bs,0,none⟩ = some (.slice V ps.length d)) (hBw : Bs < w.heap.size)
  (hP : RowsAt w V 2 (ps.map ptR)) (hl : ps.length ≤ 1000000) :
  SeqIx Fence.wide n Try.prog 98 #[.pointer (some ⟨Bs,0,none⟩)] sdE AbG Kp (sdsI ps) w:=by
 intro l J Jx W hW hJ hJx hY h0
 show CallsIn Fence.wide n Try.prog 98 _ W (IxPost (sdsI ps).length J Jx)
 rw [sdsI_length]
 refine callsIn_of_wp Try.func98 rfl trivial ?_ rfl
 simp only [Try.ntmps98,List.size_toArray,List.length_cons,List.length_nil,Nat.reduceAdd,Nat.reduceSub,Array.replicate_succ,Array.replicate_zero,List.push_toArray,List.append_toArray,List.nil_append,List.cons_append]
 have hs0:=(hW.cell (p:=⟨Bs,0,none⟩) hBw).trans hBs
 have hPW:=Lib.hid (hP.below hW)
 have hWz:=Lib.hid hW.size
 have hY:=Lib.hid hY
 have hJ:=Lib.hid hJ
 clear hJx hBs hW hP
 have hs0:=Lib.hid hs0
 have hs0':=hs0.out
 gi_wp2
 clear hs0'
 gi_loopw [7] (fun i wr=>∃ k : Nat,k ≤ ps.length ∧ i = .int .i64 k ∧ J k wr ∧ Kp W.heap.size W wr) (fun i _=>ps.length - (intOf i).toNat)
 case atStart=>exact ⟨0,Nat.zero_le _,rfl,h0,hKp.refl _ _⟩
 case round =>
  obtain ⟨k,hk,rfl,hJk,hb⟩:=hrel
  by_cases hlt : k < ps.length
  ·have hmod : (k + 1) % ps.length < ps.length:=Nat.mod_lt _ (by omega)
   have ha : ps[k]? = some ps[k]:=List.getElem?_eq_getElem hlt
   have hc : ps[(k + 1) % ps.length]? = some ps[(k + 1) % ps.length]:=List.getElem?_eq_getElem hmod
   have hsd:=Lib.hid (sd_of ha hc)
   obtain ⟨b,o,rfl,hbl,e0,e1⟩:=pts_at hPW.out ha
   obtain ⟨b',o',hbo,_,e2,e3⟩:=pts_at hPW.out hc
   obtain ⟨rfl,rfl⟩ : b = b' ∧ o = o':=by simpa using hbo
   have hbk:=hKp.cells _ _ _ hb _ rfl (by omega)
   have hat : ∀ (x : Nat) (v : Value),W.cell? ⟨b,x,none⟩ = some v → wr.cell? ⟨b,x,none⟩ = some v:=fun x v h=>(World.cell?_of_block (a:=⟨b,x,none⟩) hbk).trans h
   have e0:=hat _ _ e0
   have e1:=hat _ _ e1
   have e2:=hat _ _ e2
   have e3:=hat _ _ e3
   clear hat hbk
   have s0:=(World.cell?_of_block (a:=⟨Bs,0,none⟩) (hKp.bs _ _ _ hb)).trans hs0.out
   have hBr : Bs < wr.heap.size:=by have:=hWz.out;have:=hKp.size _ _ _ hb;omega
   obtain ⟨q,hq⟩ : ∃ q,q = (k + 1) % ps.length:=⟨_,rfl⟩
   simp only [← hq] at e2 e3 hsd hmod hc
   have hq1 : ((k : Int) + 1).tmod (ps.length : Int) = (q : Int):=by rw [hq];rfl
   have hq3 : ((k : Int) + 1) % (ps.length : Int) = (q : Int):=by rw [hq];rfl
   have hk1 : IntKind.i64.wrap ((k : Int) + 1) = (k : Int) + 1:=wrap_small (by omega) (by omega)
   have hq2 : IntKind.i64.wrap (q : Int) = (q : Int):=wrap_small (by omega) (by omega)
   have hne : ¬ ps.length = 0:=by omega
   generalize ps[k] = pa at *
   generalize ps[q] = pc at *
   clear hq
   have hAll:=Lib.hid (And.intro hb (And.intro hJk hlt))
   have h1 : Cs [(wr.heap.size,0,.int .i64 pa.x),(wr.heap.size,1,.int .i64 pa.y),(Bs,0,.slice (some ⟨b,o,none⟩) ps.length d),(b,o + q * 2,.int .i64 pc.x),(b,o + q * 2 + 1,.int .i64 pc.y)] (wr.alloc (.cells #[.int .i64 pa.x,.int .i64 pa.y] 40)) :=
    cs_iff_cons.2 ⟨by simp,cs_iff_cons.2 ⟨by simp,Cs.below (cs_iff_cons.2 ⟨s0,cs_iff_cons.2 ⟨e2,cs_iff_cons.2 ⟨e3,cs_nil _⟩⟩⟩) (below_alloc _ _)⟩⟩
   have h1:=Lib.hid h1
   clear hb hJk ha hc
   gi_wp2
   refine wpIn_region_heldY (S:=Cs [(wr.heap.size,0,.int .i64 pa.x),(wr.heap.size,1,.int .i64 pa.y),(Bs,0,.slice (some ⟨b,o,none⟩) ps.length d),(b,o + q * 2,.int .i64 pc.x),(b,o + q * 2 + 1,.int .i64 pc.y)]) 12 (by kernel_rfl) h1.out (fun hHeld=>?_)
   (refine tkY 0 12 (fun _=>trivial) (v:=?_) ?_ ?_;rotate_left;focus (intro w' hSw;simp only [cs_iff_cons] at hSw;go_simp;(try with_reducible rfl));(try simp only [Act.put,List.setIfInBounds_toArray,List.set_cons_zero,List.set_cons_succ]))
   (refine tkY 1 13 (fun _=>trivial) (v:=?_) ?_ ?_;rotate_left;focus (intro w' hSw;simp only [cs_iff_cons] at hSw;go_simp;(try with_reducible rfl));(try simp only [Act.put,List.setIfInBounds_toArray,List.set_cons_zero,List.set_cons_succ]))
   (refine tkY 2 14 (fun _=>trivial) (v:=?_) ?_ ?_;rotate_left;focus (intro w' hSw;simp only [cs_iff_cons] at hSw;go_simp;(try with_reducible rfl));(try simp only [Act.put,List.setIfInBounds_toArray,List.set_cons_zero,List.set_cons_succ]))
   (refine tkY 3 15 (fun _=>trivial) (v:=?_) ?_ ?_;rotate_left;focus (intro w' hSw;simp only [cs_iff_cons] at hSw;go_simp;(try with_reducible rfl));(try simp only [Act.put,List.setIfInBounds_toArray,List.set_cons_zero,List.set_cons_succ]))
   (refine tkY 4 16 (fun _=>trivial) (v:=?_) ?_ ?_;rotate_left;focus (intro w' hSw;simp only [cs_iff_cons] at hSw;go_simp;(try with_reducible rfl));(try simp only [Act.put,List.setIfInBounds_toArray,List.set_cons_zero,List.set_cons_succ]))
   (refine tkY 5 17 (fun _=>trivial) (v:=?_) ?_ ?_;rotate_left;focus (intro w' hSw;simp only [cs_iff_cons] at hSw;go_simp;(try with_reducible rfl));(try simp only [Act.put,List.setIfInBounds_toArray,List.set_cons_zero,List.set_cons_succ]))
   (refine tkY 6 18 (fun _=>trivial) (v:=?_) ?_ ?_;rotate_left;focus (intro w' hSw;simp only [cs_iff_cons] at hSw;go_simp;(try with_reducible rfl));(try simp only [Act.put,List.setIfInBounds_toArray,List.set_cons_zero,List.set_cons_succ]))
   (refine tkY 7 19 (fun _=>trivial) (v:=?_) ?_ ?_;rotate_left;focus (intro w' hSw;simp only [cs_iff_cons] at hSw;go_simp;(try with_reducible rfl));(try simp only [Act.put,List.setIfInBounds_toArray,List.set_cons_zero,List.set_cons_succ]))
   (refine tkY 8 20 (fun _=>trivial) (v:=?_) ?_ ?_;rotate_left;focus (intro w' hSw;simp only [cs_iff_cons] at hSw;go_simp;(try with_reducible rfl));(try simp only [Act.put,List.setIfInBounds_toArray,List.set_cons_zero,List.set_cons_succ]))
   (refine tkY 9 21 (fun _=>trivial) (v:=?_) ?_ ?_;rotate_left;focus (intro w' hSw;simp only [cs_iff_cons] at hSw;go_simp;(try with_reducible rfl));(try simp only [Act.put,List.setIfInBounds_toArray,List.set_cons_zero,List.set_cons_succ]))
   (refine tkY 10 22 (fun _=>trivial) (v:=?_) ?_ ?_;rotate_left;focus (intro w' hSw;simp only [cs_iff_cons] at hSw;go_simp;(try with_reducible rfl));(try simp only [Act.put,List.setIfInBounds_toArray,List.set_cons_zero,List.set_cons_succ]))
   (refine tkY 11 23 (fun _=>trivial) (v:=?_) ?_ ?_;rotate_left;focus (intro w' hSw;simp only [cs_iff_cons] at hSw;go_simp;(try with_reducible rfl));(try simp only [Act.put,List.setIfInBounds_toArray,List.set_cons_zero,List.set_cons_succ]))
   refine ratYc 12 (fun _=>trivial) (by decide +kernel) rfl (by decide +kernel) (fun K hK=>?_)
   rw [if_pos (by kernel_rfl)]
   have hy1:=hY.out k _ (wr.alloc (.cells #[.int .i64 pa.x,.int .i64 pa.y] 40)).drew (sdsI_at hlt) (hJ.out k _ _ hAll.out.2.1 ((World.grownBy_alloc wr _ none).trans (grown_drewN _ 1 _)))
   rw [hsd.out] at hy1
   obtain ⟨fn,tmps,assign,body,hy,hR⟩:=hy1
   dsimp only [sdE] at hy
   go_simp
   refine hR.mono ?_
   clear hy hR
   rintro e w2 (⟨rfl,hJ2,hKq⟩ | ⟨rfl,hJx,_⟩)
   ·dsimp only
    refine hK.out _ _ ?_
    clear hK K
    (try simp only [Act.put,List.setIfInBounds_toArray]);(try simp only [List.set_cons_zero,List.set_cons_succ])
    refine ratYc 13 (fun _=>trivial) (by decide +kernel) rfl (by decide +kernel) (fun K hK=>?_)
    rw [if_pos (by kernel_rfl)]
    go_simp
    refine hK.out _ _ ?_
    clear hK K
    (try simp only [Act.put,List.setIfInBounds_toArray]);(try simp only [List.set_cons_zero,List.set_cons_succ])
    refine wpAnyInY_done (by decide +kernel) ?_ _
    have hJ2:=Lib.hid hJ2
    have hKq:=Lib.hid hKq
    gi_wp2
    go_roundw
    case rel=>exact ⟨k + 1,hlt,by go_num,hJ2.out,hKp.trans _ _ _ _ (hKp.trans _ _ _ _ hAll.out.1 (hKp.grown _ _ _ ((World.grownBy_alloc wr _ none).trans (grown_drewN _ 1 _)) (by have:=hWz.out;have:=hKp.size _ _ _ hAll.out.1;omega))) hKq.out⟩
    case measure=>simp [intOf];omega
   ·dsimp only
    refine hK.out _ _ ?_
    clear hK K
    (try simp only [Act.put,List.setIfInBounds_toArray]);(try simp only [List.set_cons_zero,List.set_cons_succ])
    refine ratYc 13 (fun _=>trivial) (by decide +kernel) rfl (by decide +kernel) (fun K hK=>?_)
    rw [if_pos (by kernel_rfl)]
    go_simp
    refine hK.out _ _ ?_
    clear hK K
    (try simp only [Act.put,List.setIfInBounds_toArray]);(try simp only [List.set_cons_zero,List.set_cons_succ])
    refine wpAnyInY_done (by decide +kernel) ?_ _
    have hJx:=Lib.hid hJx
    gi_wp2
    refine bodyPost_ret (results_none rfl _ _ _) rfl ?_
    exact ⟨⟨_,rfl⟩,.inr ⟨k,hlt,hJx.out⟩⟩
  ·obtain rfl : k = ps.length:=by omega
   have hJz:=Lib.hid hJk
   clear hJk
   gi_wp2
   refine bodyPost_end (results_none rfl _ _ _) rfl ?_
   exact ⟨⟨_,rfl⟩,.inl hJz.out⟩
theorem kpS_ok {n₀ Bs : Nat} {V : Option Addr} {k : Nat} {w : World} (hBw : Bs < w.heap.size) (hVn : ∀ ad,V = some ad → 0 < k → ad.block < n₀) (hn0 : n₀ ≤ w.heap.size) : KpOK (KpS n₀ Bs) V k Bs w where
 refl:=fun x X=>KpS.refl _ _ _ _
 trans:=fun _ _ _ _ h k=>h.trans k
 size:=fun _ _ _ h=>h.1.size
 cells:=fun _ _ _ h ad e hk=>h.1.block _ (hVn ad e hk)
 bs:=fun _ _ _ h=>h.2
 grown:=fun _ X _ hg hs=>KpS.grown hg (by omega) (by omega)
theorem sides_ix (n : Nat) (hn : 1 ≤ n) (Bs n₀ : Nat) (V : Option Addr) (d : Nat) (ps : List Pt) (w : World) (hBs : w.cell? ⟨Bs,0,none⟩ = some (.slice V ps.length d)) (hBw : Bs < w.heap.size)
  (hP : RowsAt w V 2 (ps.map ptR)) (hVn : ∀ ad,V = some ad → 0 < ps.length → ad.block < n₀) (hn0 : n₀ ≤ w.heap.size) (hl : ps.length ≤ 1000000) :
  SeqIx Fence.wide n Try.prog 98 #[.pointer (some ⟨Bs,0,none⟩)] sdE AbG (KpS n₀ Bs) (sdsI ps) w :=
 sides_gen n hn Bs (KpS n₀ Bs) V d ps w (kpS_ok hBw hVn hn0) hBs hBw hP hl
def KpM (M Bs : Nat) (_ : Nat) (X Y : World) : Prop:=Two M Bs X Y ∧ X.heap.size ≤ Y.heap.size
theorem KpM.refl (M Bs x : Nat) (X : World) : KpM M Bs x X X:=⟨Two.refl _ _ _,Nat.le_refl _⟩
theorem KpM.trans {M Bs x : Nat} {X Y Z : World} (h : KpM M Bs x X Y) (k : KpM M Bs x Y Z) : KpM M Bs x X Z:=⟨h.1.trans k.1,Nat.le_trans h.2 k.2⟩
theorem KpM.below {M Bs x : Nat} {X Y : World} (h : Below X.heap.size X Y) (hn : M < X.heap.size) (hB : Bs < X.heap.size) : KpM M Bs x X Y:=⟨⟨h.block _ hn,h.block _ hB⟩,h.size⟩
theorem KpM.set {M Bs x : Nat} {X : World} {b o : Nat} (v : Value) (hn : M ≠ b) (hB : Bs ≠ b) : KpM M Bs x X (X.setCell ⟨b,o,none⟩ v) :=
 ⟨⟨Below.heap_setCell X ⟨b,o,none⟩ v M hn,Below.heap_setCell X ⟨b,o,none⟩ v Bs hB⟩,by rw [World.size_setCell];exact Nat.le_refl _⟩
theorem kpM_ok {M Bs o k : Nat} {w : World} (hBw : Bs < w.heap.size) (hM : M < w.heap.size) : KpOK (KpM M Bs) (some ⟨M,o,none⟩) k Bs w where
 refl:=fun x X=>KpM.refl _ _ _ _
 trans:=fun _ _ _ _ h k=>h.trans k
 size:=fun _ _ _ h=>h.2
 cells:=fun _ _ _ h ad e _=>by cases e;exact h.1.1
 bs:=fun _ _ _ h=>h.1.2
 grown:=fun _ X _ hg hs=>⟨⟨hg.block _ (by omega) (by simp),hg.block _ (by omega) (by simp)⟩,hg.size⟩
end Go.Proofs.Ythfokpchdlcidaa
