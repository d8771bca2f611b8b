/- What the statements rest on: definitions and walks, part 04. -/
import Derived.Test.YthfokpchdlcidaaGreatJ03
set_option maxRecDepth 100000
set_option maxHeartbeats 16000000
set_option linter.unusedSimpArgs false
set_option linter.unusedVariables false
namespace Go.Proofs.YthfokpchdlcidaaGreat
open Go Go.RowKit Go.Shelf
structure CnI (w : World) (n : Int) (W : World) : Prop where
 a : W.cell? ⟨w.heap.size,0,none⟩ = some (.int .i64 n)
 bel : Below w.heap.size w W
 lt : w.heap.size < W.heap.size
theorem CnI.below {w : World} {n : Int} {X Y : World} (h : CnI w n X) (hb : Below X.heap.size X Y) : CnI w n Y:=⟨(hb.cell (p:=⟨w.heap.size,0,none⟩) h.lt).trans h.a,below_step h.bel hb,Nat.lt_of_lt_of_le h.lt hb.size⟩
theorem levE_cases (n : Int) (x : Lev) : (inN x.f n = false ∧ Cal.levE n x = 6) ∨ (inN x.f n = true ∧ inN x.t n = false ∧ Cal.levE n x = 6) ∨ (inN x.f n = true ∧ inN x.t n = true ∧ x.f = x.t ∧ Cal.levE n x = 3) ∨
  (inN x.f n = true ∧ inN x.t n = true ∧ x.f ≠ x.t ∧ Cal.levE n x = 2 ∧ (x.d < -100000 ∨ (¬ x.d < -100000 ∧ 100000 < x.d) ∨ (¬ x.d < -100000 ∧ ¬ 100000 < x.d ∧ x.w < 1) ∨ (¬ x.d < -100000 ∧ ¬ 100000 < x.d ∧ ¬ x.w < 1 ∧ 10 < x.w))) ∨
  (inN x.f n = true ∧ inN x.t n = true ∧ x.f ≠ x.t ∧ Cal.levE n x = 0 ∧ ¬ x.d < -100000 ∧ ¬ 100000 < x.d ∧ ¬ x.w < 1 ∧ ¬ 10 < x.w):=by
 unfold Cal.levE
 cases inN x.f n
 ·exact .inl ⟨rfl,rfl⟩
 ·cases inN x.t n
  ·exact .inr (.inl ⟨rfl,rfl,rfl⟩)
  ·by_cases h : x.f = x.t
   ·exact .inr (.inr (.inl ⟨rfl,rfl,h,by rw [if_pos ⟨rfl,rfl⟩,if_pos h]⟩))
   ·by_cases g : x.d < -100000 ∨ 100000 < x.d ∨ x.w < 1 ∨ 10 < x.w
    ·exact .inr (.inr (.inr (.inl ⟨rfl,rfl,h,by rw [if_pos ⟨rfl,rfl⟩,if_neg h,if_pos g],by omega⟩)))
    ·exact .inr (.inr (.inr (.inr ⟨rfl,rfl,h,by rw [if_pos ⟨rfl,rfl⟩,if_neg h,if_neg g],by omega,by omega,by omega,by omega⟩)))
theorem wrap_pow {N : Nat} (h : N ≤ 6) : IntKind.i64.wrap ((2 : Int) ^ N) = ((2 ^ N : Nat) : Int):=by
 have : N = 0 ∨ N = 1 ∨ N = 2 ∨ N = 3 ∨ N = 4 ∨ N = 5 ∨ N = 6:=by omega
 rcases this with rfl | rfl | rfl | rfl | rfl | rfl | rfl <;> decide
theorem wrap_pow1 {N : Nat} (h : N ≤ 6) : IntKind.i64.wrap (((2 ^ N : Nat) : Int) - 1) = ((2 ^ N - 1 : Nat) : Int):=by
 have : N = 0 ∨ N = 1 ∨ N = 2 ∨ N = 3 ∨ N = 4 ∨ N = 5 ∨ N = 6:=by omega
 rcases this with rfl | rfl | rfl | rfl | rfl | rfl | rfl <;> decide
theorem CheckNet_any (n : Int) (A : Option Addr) (c : Nat) (l : List Lev) (w : World) (hL : Levs w A l) :
  Calls Tryz.prog 69 #[.int .i64 n,.slice A l.length c] w fun e w'=>e = .returned (.int .i64 (Cal.netE n l)) ∧ Below w.heap.size w w':=by
 have hI : Hid (CnI w n (w.alloc (.cells #[.int .i64 n] 3))):=⟨by simp,below_alloc _ _,by simp⟩
 have hsz:=hL.size
 obtain ⟨R,hRR⟩ : ∃ R,Cal.netE n l = R:=⟨_,rfl⟩
 rw [hRR]
 by_cases hn : n < 1 ∨ 6 < n
 ·have hR : Hid (R = 2):=by show _ = _;rw [← hRR];unfold Cal.netE;rw [if_pos hn]
  clear hRR
  rcases hn with hn | hn
  ·go_enter Tryz.func69,Tryz.ntmps69
   go_wp2_with fail
   go_ret
   exact ⟨ret_int hR.out.symm,hI.out.bel⟩
  ·have hn1 : ¬ n < 1:=by omega
   go_enter Tryz.func69,Tryz.ntmps69
   go_wp2_with fail
   go_ret
   exact ⟨ret_int hR.out.symm,hI.out.bel⟩
 ·have hn1 : ¬ n < 1:=by omega
  have hn2 : ¬ 6 < n:=by omega
  by_cases hl : 20 < l.length
  ·have hR : Hid (R = 8):=by show _ = _;rw [← hRR];unfold Cal.netE;rw [if_neg hn,if_pos hl]
   have hl1 : 20 < (l.length : Int):=by omega
   clear hRR hn
   go_enter Tryz.func69,Tryz.ntmps69
   go_wp2_with fail
   go_ret
   exact ⟨ret_int hR.out.symm,hI.out.bel⟩
  ·have hR : Hid (R = if Cal.levsE n (l.drop 0) = 0 then (if (List.range n.toNat).all (Cal.swept n.toNat l) = true then 0 else 29) else Cal.levsE n (l.drop 0)):=by show _ = _;rw [← hRR];unfold Cal.netE;rw [if_neg hn,if_neg hl];rfl
   have hE0 : Hid (Cal.levsE n l = Cal.levsE n (l.drop 0)):=rfl
   have hl1 : ¬ 20 < (l.length : Int):=by omega
   replace hL:=Lib.hid hL
   clear hRR hn
   go_enter Tryz.func69,Tryz.ntmps69
   go_wp2_with fail
   go_loopw [25] (fun i wr=>∃ k : Nat,k ≤ l.length ∧ i = .int .i64 k ∧ Hid (Cal.levsE n l = Cal.levsE n (l.drop k)) ∧ Hid (CnI w n wr)) (fun i _=>l.length - (intOf i).toNat)
   case atStart=>exact ⟨0,Nat.zero_le _,rfl,hE0,hI⟩
   case round =>
    clear hE0 hI
    obtain ⟨k,hk,rfl,hE,hI⟩:=hrel
    by_cases hlt : k < l.length
    ·have hk' : l[k]? = some l[k]:=List.getElem?_eq_getElem hlt
     have hd:=Cal.levsE_drop (n:=n) hlt
     have hcs:=levE_cases n l[k]
     generalize l[k] = x at *
     obtain ⟨b,o,rfl,hbl,c0,c1,c2,c3⟩:=lev_at (hL.out.below hI.out.bel).rows hk'
     have lt0:=hI.out.lt
     have n0:=((below_alloc wr (.cells #[.int .i64 x.f,.int .i64 x.t,.int .i64 x.d,.int .i64 x.w] 120)).cell (p:=⟨w.heap.size,0,none⟩) lt0).trans hI.out.a
     have hI2:=Lib.hid (hI.out.below (below_alloc wr (.cells #[.int .i64 x.f,.int .i64 x.t,.int .i64 x.d,.int .i64 x.w] 120)))
     have m1 : Hid True:=trivial
     clear hk'
     obtain ⟨f,t,d,wt⟩:=x
     dsimp only at *
     have hRk : Hid (∀ v,v ≠ 0 → Cal.levE n ⟨f,t,d,wt⟩ = v → R = v):=fun v hv hz=>by
      rw [hz,if_neg hv] at hd
      rw [hR.out,show Cal.levsE n (l.drop 0) = v from hE.out.trans hd,if_neg hv]
     have hE2 : Hid (Cal.levE n ⟨f,t,d,wt⟩ = 0 → Cal.levsE n l = Cal.levsE n (l.drop (k + 1))):=fun hz=>by
      rw [hz,if_pos rfl] at hd
      exact hE.out.trans hd
     clear hd hE hI hR
     rcases hcs with ⟨h1,hz⟩ | ⟨h1,h2,hz⟩ | ⟨h1,h2,h3,hz⟩ | ⟨h1,h2,h3,hz,h4⟩ | ⟨h1,h2,h3,hz,h4,h5,h6,h7⟩
     ·have hR:=Lib.hid (hRk.out _ (by decide) hz)
      replace h1:=Lib.hid h1
      clear hz hE2 hRk
      go_wp2_with (first
       |(go_at_call 106;clear m1;refine (isN_any f n _ _ (by first | exact n0 | simpa using n0)).mono ?_;rintro e0 wn ⟨rfl,rfl⟩;rw [h1.out])
       |(go_at_call 106;refine (isN_any _ n _ _ (by first | exact n0 | simpa using n0)).mono ?_;rintro e0 wn ⟨rfl,rfl⟩;rw [h2.out]))
      go_ret
      exact ⟨ret_int hR.out.symm,hI2.out.bel⟩
     ·have hR:=Lib.hid (hRk.out _ (by decide) hz)
      replace h1:=Lib.hid h1
      replace h2:=Lib.hid h2
      clear hz hE2 hRk
      go_wp2_with (first
       |(go_at_call 106;clear m1;refine (isN_any f n _ _ (by first | exact n0 | simpa using n0)).mono ?_;rintro e0 wn ⟨rfl,rfl⟩;rw [h1.out])
       |(go_at_call 106;refine (isN_any _ n _ _ (by first | exact n0 | simpa using n0)).mono ?_;rintro e0 wn ⟨rfl,rfl⟩;rw [h2.out]))
      go_ret
      exact ⟨ret_int hR.out.symm,hI2.out.bel⟩
     ·have hR:=Lib.hid (hRk.out _ (by decide) hz)
      replace h1:=Lib.hid h1
      replace h2:=Lib.hid h2
      clear hz hE2 hRk
      subst h3
      go_wp2_with (first
       |(go_at_call 106;clear m1;refine (isN_any f n _ _ (by first | exact n0 | simpa using n0)).mono ?_;rintro e0 wn ⟨rfl,rfl⟩;rw [h1.out])
       |(go_at_call 106;refine (isN_any _ n _ _ (by first | exact n0 | simpa using n0)).mono ?_;rintro e0 wn ⟨rfl,rfl⟩;rw [h2.out]))
      go_ret
      exact ⟨ret_int hR.out.symm,hI2.out.bel⟩
     ·have hR:=Lib.hid (hRk.out _ (by decide) hz)
      replace h1:=Lib.hid h1
      replace h2:=Lib.hid h2
      clear hz hE2 hRk
      rcases h4 with h4 | ⟨h4,h5⟩ | ⟨h4,h5,h6⟩ | ⟨h4,h5,h6,h7⟩
      ·go_wp2_with (first
        |(go_at_call 106;clear m1;refine (isN_any f n _ _ (by first | exact n0 | simpa using n0)).mono ?_;rintro e0 wn ⟨rfl,rfl⟩;rw [h1.out])
        |(go_at_call 106;refine (isN_any _ n _ _ (by first | exact n0 | simpa using n0)).mono ?_;rintro e0 wn ⟨rfl,rfl⟩;rw [h2.out]))
       go_ret
       exact ⟨ret_int hR.out.symm,hI2.out.bel⟩
      ·go_wp2_with (first
        |(go_at_call 106;clear m1;refine (isN_any f n _ _ (by first | exact n0 | simpa using n0)).mono ?_;rintro e0 wn ⟨rfl,rfl⟩;rw [h1.out])
        |(go_at_call 106;refine (isN_any _ n _ _ (by first | exact n0 | simpa using n0)).mono ?_;rintro e0 wn ⟨rfl,rfl⟩;rw [h2.out]))
       go_ret
       exact ⟨ret_int hR.out.symm,hI2.out.bel⟩
      ·go_wp2_with (first
        |(go_at_call 106;clear m1;refine (isN_any f n _ _ (by first | exact n0 | simpa using n0)).mono ?_;rintro e0 wn ⟨rfl,rfl⟩;rw [h1.out])
        |(go_at_call 106;refine (isN_any _ n _ _ (by first | exact n0 | simpa using n0)).mono ?_;rintro e0 wn ⟨rfl,rfl⟩;rw [h2.out]))
       go_ret
       exact ⟨ret_int hR.out.symm,hI2.out.bel⟩
      ·go_wp2_with (first
        |(go_at_call 106;clear m1;refine (isN_any f n _ _ (by first | exact n0 | simpa using n0)).mono ?_;rintro e0 wn ⟨rfl,rfl⟩;rw [h1.out])
        |(go_at_call 106;refine (isN_any _ n _ _ (by first | exact n0 | simpa using n0)).mono ?_;rintro e0 wn ⟨rfl,rfl⟩;rw [h2.out]))
       go_ret
       exact ⟨ret_int hR.out.symm,hI2.out.bel⟩
     ·replace hE2:=Lib.hid (hE2.out hz)
      replace h1:=Lib.hid h1
      replace h2:=Lib.hid h2
      clear hz hRk
      go_wp2_with (first
       |(go_at_call 106;clear m1;refine (isN_any f n _ _ (by first | exact n0 | simpa using n0)).mono ?_;rintro e0 wn ⟨rfl,rfl⟩;rw [h1.out])
       |(go_at_call 106;refine (isN_any _ n _ _ (by first | exact n0 | simpa using n0)).mono ?_;rintro e0 wn ⟨rfl,rfl⟩;rw [h2.out]))
      go_roundw
      case rel=>exact ⟨k + 1,by omega,by go_num,hE2,hI2⟩
      case measure=>simp [intOf];omega
    ·obtain rfl : k = l.length:=by omega
     have hz : Cal.levsE n l = 0:=by rw [hE.out,List.drop_length];rfl
     have hval:=Lib.hid (Cal.levsE_zero hz)
     replace hR : Hid (R = if (List.range n.toNat).all (Cal.swept n.toNat l) = true then 0 else 29):=by show _ = _;rw [hR.out];exact if_pos hz
     clear hz hE
     obtain ⟨N,rfl⟩ : ∃ N : Nat,n = (N : Int):=⟨n.toNat,by omega⟩
     rw [Int.toNat_natCast] at hR
     have hN1 : 1 ≤ N:=by omega
     have hN6 : N ≤ 6:=by omega
     have lt0:=hI.out.lt
     have n0:=hI.out.a
     have p1:=Lib.hid (wrap_pow hN6)
     have p2:=Lib.hid (wrap_pow1 hN6)
     have hc0 : Hid (Cal.Codes N 1 (Cal.sweeps (l.map Cal.edge) 0 Cal.only0)):=Cal.codes_only0 hN1
     clear hn1 hn2
     go_wp2_with fail
     refine wp_region_held_drew (S:=Sx wr [(w.heap.size,0,.int .i64 (N : Int))]) (by kernel_rfl) (Sx.mk (by simp only [cs_iff_cons];exact ⟨n0,cs_nil _⟩) (Below.refl _ _)).drew (fun hHeld=>?_)
     refine tkHx 0 68 ?_
     refine tkHx 1 69 ?_
     refine tkHx 2 70 ?_
     refine tkHx 3 8 ?_
     refine tkHx 4 9 ?_
     refine wpAnyH_done (by kernel_rfl) ?_ _
     simp only [p1.out,p2.out]
     replace hI:=Lib.hid (hI.out.below hHeld.bel)
     clear hHeld n0 lt0 p1 p2
     generalize wr.drew = wr at *
     have n0:=hI.out.a
     go_wp2_with fail
     clear n0
     go_loopw [8,72] (fun v i wr=>∃ r c : Nat,r ≤ N ∧ i = .int .i64 r ∧ v = .int .i64 c ∧ Hid (Cal.Codes N c (Cal.sweeps (l.map Cal.edge) r Cal.only0)) ∧ Hid (CnI w N wr)) (fun _ i _=>N - (intOf i).toNat)
     case atStart=>exact ⟨0,1,Nat.zero_le _,rfl,rfl,hc0,hI⟩
     case round =>
      clear hc0 hI
      obtain ⟨r,c,hr,rfl,rfl,hc,hI⟩:=hrel
      by_cases hrlt : r < N
      ·have hd0 : Hid (Cal.Codes N c (Cal.sweep1 ((l.map Cal.edge).take 0) (Cal.sweeps (l.map Cal.edge) r Cal.only0))):=hc.out
       go_wp2_with fail
       go_loopw [8,76] (fun v i wr=>∃ k c : Nat,k ≤ l.length ∧ i = .int .i64 k ∧ v = .int .i64 c ∧ Hid (Cal.Codes N c (Cal.sweep1 ((l.map Cal.edge).take k) (Cal.sweeps (l.map Cal.edge) r Cal.only0))) ∧ Hid (CnI w N wr)) (fun _ i _=>l.length - (intOf i).toNat)
       case atStart=>exact ⟨0,c,Nat.zero_le _,rfl,rfl,hd0,hI⟩
       case round =>
        clear hd0 hI hc
        obtain ⟨k,c,hk,rfl,rfl,hc,hI⟩:=hrel
        by_cases hlt : k < l.length
        ·have hk' : l[k]? = some l[k]:=List.getElem?_eq_getElem hlt
         have hv:=Cal.levE_zero (hval.out _ (List.getElem_mem hlt))
         have hst:=Cal.sweep1_take (l:=l.map Cal.edge) (k:=k) (by simpa using hlt) (Cal.sweeps (l.map Cal.edge) r Cal.only0)
         rw [List.getElem_map] at hst
         obtain ⟨S,hS⟩ : ∃ S,Cal.sweep1 ((l.map Cal.edge).take k) (Cal.sweeps (l.map Cal.edge) r Cal.only0) = S:=⟨_,rfl⟩
         rw [hS] at hst hc
         generalize l[k] = x at *
         obtain ⟨b,o,rfl,hbl,c0,c1,c2,c3⟩:=lev_at (hL.out.below hI.out.bel).rows hk'
         obtain ⟨xf,xt,xd,xw⟩:=x
         dsimp only at *
         obtain ⟨⟨f0,f1⟩,⟨t0,t1⟩,-⟩:=hv
         obtain ⟨f,rfl⟩ : ∃ f : Nat,xf = (f : Int):=⟨xf.toNat,by omega⟩
         obtain ⟨t,rfl⟩ : ∃ t : Nat,xt = (t : Int):=⟨xt.toNat,by omega⟩
         have hfN : f < N:=by omega
         have htN : t < N:=by omega
         have q1:=Lib.hid (wrap_pow (N:=f) (by omega))
         have q2:=Lib.hid (wrap_pow (N:=t) (by omega))
         have hc64 : c < 64:=Nat.lt_of_lt_of_le hc.out.1 (Cal.pow_le6 hN6)
         have hE64 : 2 ^ f ||| 2 ^ t < 64:=Nat.lt_of_lt_of_le (Nat.or_lt_two_pow (Cal.two_pow_lt hfN) (Cal.two_pow_lt htN)) (Cal.pow_le6 hN6)
         have q3:=Lib.hid (bits_or6 ⟨2 ^ f,Nat.lt_of_lt_of_le (Cal.two_pow_lt hfN) (Cal.pow_le6 hN6)⟩ ⟨2 ^ t,Nat.lt_of_lt_of_le (Cal.two_pow_lt htN) (Cal.pow_le6 hN6)⟩)
         have q4:=bits_and6 ⟨c,hc64⟩ ⟨2 ^ f ||| 2 ^ t,hE64⟩
         have q5:=bits_or6 ⟨c,hc64⟩ ⟨2 ^ f ||| 2 ^ t,hE64⟩
         have hhit:=hc.out.hit hN6 hfN htN
         have hnx1:=fun h=>hc.out.step ⟨f,t,xd,xw⟩ hfN htN h
         have hnx2:=fun h=>hc.out.stay ⟨f,t,xd,xw⟩ h
         have hst2 : Cal.sweep1 ((l.map Cal.edge).take (k + 1)) (Cal.sweeps (l.map Cal.edge) r Cal.only0) = Cal.stepE S ⟨f,t,xd,xw⟩:=by rw [hst];rfl
         dsimp only at hnx1 hnx2 q4 q5 q3
         rw [← hst2] at hnx1 hnx2
         have lt0:=hI.out.lt
         have hI2:=Lib.hid (hI.out.below (below_alloc wr (.cells #[.int .i64 (Lev.mk f t xd xw).f,.int .i64 (Lev.mk f t xd xw).t,.int .i64 (Lev.mk f t xd xw).d,.int .i64 (Lev.mk f t xd xw).w] 120)))
         have e0 : (wr.alloc (.cells #[.int .i64 (Lev.mk f t xd xw).f,.int .i64 (Lev.mk f t xd xw).t,.int .i64 (Lev.mk f t xd xw).d,.int .i64 (Lev.mk f t xd xw).w] 120)).cell? ⟨wr.heap.size,0,none⟩ = some (.int .i64 (f : Int)):=by simp
         have e1 : (wr.alloc (.cells #[.int .i64 (Lev.mk f t xd xw).f,.int .i64 (Lev.mk f t xd xw).t,.int .i64 (Lev.mk f t xd xw).d,.int .i64 (Lev.mk f t xd xw).w] 120)).cell? ⟨wr.heap.size,1,none⟩ = some (.int .i64 (t : Int)):=by simp
         dsimp only at e0 e1 hI2
         clear hst hst2 hS hk' hc hI
         go_wp2_with fail
         refine wp_region_held_drew (S:=Sx (wr.alloc (.cells #[.int .i64 (f : Int),.int .i64 (t : Int),.int .i64 xd,.int .i64 xw] 120)) [(wr.heap.size,0,.int .i64 (f : Int)),(wr.heap.size,1,.int .i64 (t : Int))]) (by kernel_rfl) (Sx.mk (by simp only [cs_iff_cons];exact ⟨e0,e1,cs_nil _⟩) (Below.refl _ _)).drew (fun hHeld=>?_)
         refine tkHx 0 80 ?_
         refine tkHx 1 81 ?_
         refine tkHx 2 82 ?_
         refine tkHx 3 83 ?_
         refine tkHx 4 84 ?_
         refine tkHx 5 85 ?_
         refine tkHx 6 86 ?_
         refine tkHx 7 12 ?_
         refine wpAnyH_done (by kernel_rfl) ?_ _
         simp only [q1.out,q2.out,q3.out]
         replace hI2:=Lib.hid (hI2.out.below hHeld.bel)
         clear hHeld e0 e1 q1 q2 q3 c0 c1 c2 c3
         generalize (wr.alloc (.cells #[.int .i64 (f : Int),.int .i64 (t : Int),.int .i64 xd,.int .i64 xw] 120)).drew = wn at *
         generalize 2 ^ f ||| 2 ^ t = E at *
         by_cases hz : c &&& E = 0
         ·have hnx:=Lib.hid (hnx2 (hhit.1 hz))
          rw [hz] at q4
          clear hnx1 hnx2 hhit hz q5
          go_wp2_with fail
          go_roundw
          case rel=>exact ⟨k + 1,c,by omega,by go_num,rfl,hnx,hI2⟩
          case measure=>simp [intOf];omega
         ·have hnx:=Lib.hid (hnx1 (by
           cases h : (S f || S t)
           ·exact absurd (hhit.2 h) hz
           ·rfl))
          generalize c &&& E = Z at *
          generalize c ||| E = C2 at *
          have hZ : ((Z : Int) == 0) = false:=by simpa using hz
          have hZ2 : ¬ (Z : Int) = 0:=by omega
          clear hnx1 hnx2 hhit
          go_wp2_with fail
          go_roundw
          case rel=>exact ⟨k + 1,C2,by omega,by go_num,rfl,hnx,hI2⟩
          case measure=>simp [intOf];omega
        ·obtain rfl : k = l.length:=by omega
         have hc2 : Hid (Cal.Codes N c (Cal.sweeps (l.map Cal.edge) (r + 1) Cal.only0)):=by
          show Cal.Codes _ _ _
          rw [Cal.sweeps_succ]
          have:=hc.out
          rw [List.take_of_length_le (by simp)] at this
          exact this
         clear hc
         go_wp2_with fail
         go_roundw
         case rel=>exact ⟨r + 1,c,by omega,by go_num,rfl,hc2,hI⟩
         case measure=>simp [intOf];omega
      ·obtain rfl : r = N:=by omega
       have hfull:=hc.out.full hN6
       have hc64 : c < 64:=Nat.lt_of_lt_of_le hc.out.1 (Cal.pow_le6 hN6)
       have hP:=Cal.pow_le6 hN6
       have hP1 : 1 ≤ 2 ^ r:=Nat.one_le_two_pow
       by_cases hz : c = 2 ^ r - 1
       ·have hall : (List.range r).all (Cal.swept r l) = true:=by
         rw [List.all_eq_true]
         intro p hp
         exact hfull.1 hz p (List.mem_range.1 hp)
        replace hR : Hid (R = 0):=by show _ = _;rw [hR.out,if_pos hall]
        have hcz : (c : Int) = ((2 ^ r - 1 : Nat) : Int):=by rw [hz]
        clear hall hfull hc
        generalize 2 ^ r - 1 = M at *
        subst hz
        go_wp2_with fail
        go_ret
        exact ⟨ret_int hR.out.symm,hI.out.bel⟩
       ·have hall : ¬ (List.range r).all (Cal.swept r l) = true:=fun h=>by
         rw [List.all_eq_true] at h
         exact hz (hfull.2 fun p hp=>h p (List.mem_range.2 hp))
        replace hR : Hid (R = 29):=by show _ = _;rw [hR.out,if_neg hall]
        clear hall hfull hc
        generalize 2 ^ r - 1 = M at *
        have hM1 : ((c : Int) == (M : Int)) = false:=by simp;omega
        have hM2 : ¬ (c : Int) = (M : Int):=by omega
        go_wp2_with fail
        go_ret
        exact ⟨ret_int hR.out.symm,hI.out.bel⟩
end Go.Proofs.YthfokpchdlcidaaGreat
namespace Go.Proofs.YthfokpchdlcidaaGreat
open Go Go.RowKit Go.Shelf
theorem cut_tail {t : TypeId} {m : Nat} (hu : Tryz.prog.underlying t = some (.slice (Tryz.prog.elem t))) (hz : ∀ w,(sizeOf (Tryz.prog.elem t)).run Tryz.prog w = .ok m w) {w : World} {A : Option Addr} {n c : Nat} {rows : List (List Value)} (hn : n = rows.length) (hr : RowsAt w A m rows) (hc : n ≤ c) {k : Nat} (hk : k ≤ n) :
  ∃ A1 c1,(∀ w',(Instr.slice t (.slice A n c) (some (.int .i64 (k : Int))) none none).run Tryz.prog w' = .ok (.slice A1 (n - k) c1) w') ∧ n - k ≤ c1 ∧ RowsAt w A1 m (rows.drop k):=by
 refine ⟨if c = k then A else A.map (·.add (k * m)),c - k,fun w'=>?_,by omega,?_⟩
 ·rw [run_slice_l w' t A n c hu .i64 k (by omega) (by omega),hz]
  simp [Result.andThen,sliced]
 ·intro j r hj
  rw [List.getElem?_drop] at hj
  obtain ⟨b,o,hA,hb,hcell⟩:=hr (k + j) r hj
  have hlt : k + j < rows.length:=(List.getElem?_eq_some_iff.1 hj).1
  refine ⟨b,o + k * m,?_,hb,fun i v hv=>?_⟩
  ·rw [if_neg (by omega),hA,Option.map_some,addr_add]
  ·have:=hcell i v hv
   rw [show o + k * m + (j * m + i) = o + ((k + j) * m + i) by rw [Nat.add_mul];omega]
   exact this
structure MatR (w : World) (A : Option Addr) (M : List (List Int)) (vs : List Value) : Prop where
 rows : RowsAt w A 1 (vs.map fun v=>[v])
 len : vs.length = M.length
 row : ∀ (i : Nat) (r : List Int),M[i]? = some r → ∃ (Ai : Option Addr) (ci : Nat),vs[i]? = some (Value.slice Ai r.length ci) ∧ r.length ≤ ci ∧ RowsAt w Ai 1 (intRows r)
theorem MatR.below {w w' : World} {A : Option Addr} {M : List (List Int)} {vs : List Value} (h : MatR w A M vs) (hb : Below w.heap.size w w') : MatR w' A M vs :=
 ⟨h.rows.below hb,h.len,fun i r hi=>by obtain ⟨Ai,ci,h1,h2,h3⟩:=h.row i r hi;exact ⟨Ai,ci,h1,h2,h3.below hb⟩⟩
theorem MatR.at_ {w : World} {A : Option Addr} {M : List (List Int)} {vs : List Value} (h : MatR w A M vs) {i : Nat} {r : List Int} (hi : M[i]? = some r) :
  ∃ (b o : Nat) (Ai : Option Addr) (ci : Nat),A = some ⟨b,o,none⟩ ∧ b < w.heap.size ∧ w.cell? ⟨b,o + i,none⟩ = some (Value.slice Ai r.length ci) ∧ r.length ≤ ci ∧ RowsAt w Ai 1 (intRows r):=by
 obtain ⟨Ai,ci,h1,h2,h3⟩:=h.row i r hi
 obtain ⟨b,o,hA,hb,hc⟩:=h.rows i [.slice Ai r.length ci] (by simp [h1])
 have:=hc 0 _ rfl
 simp only [Nat.mul_one,Nat.add_zero] at this
 exact ⟨b,o,Ai,ci,hA,hb,this,h2,h3⟩
theorem MatR.drop {w : World} {A A1 : Option Addr} {M : List (List Int)} {vs : List Value} (h : MatR w A M vs) {k : Nat} (hr : RowsAt w A1 1 ((vs.map fun v=>[v]).drop k)) : MatR w A1 (M.drop k) (vs.drop k) :=
 ⟨by rw [List.map_drop];exact hr,by rw [List.length_drop,List.length_drop,h.len],fun i r hi=>by
  rw [List.getElem?_drop] at hi
  obtain ⟨Ai,ci,h1,h2,h3⟩:=h.row (k + i) r hi
  exact ⟨Ai,ci,by rw [List.getElem?_drop];exact h1,h2,h3⟩⟩
structure MatO (w : World) (B : Nat) (v : Value) (M : List (List Int)) (vs : List Value) : Prop where
 own : OwnL w B 30 1 v (vs.map fun v=>[v])
 len : vs.length = M.length
 row : ∀ (i : Nat) (r : List Int),M[i]? = some r → ∃ (Ai : Option Addr) (ci : Nat),vs[i]? = some (Value.slice Ai r.length ci) ∧ r.length ≤ ci ∧ RowsAt w Ai 1 (intRows r) ∧ ∀ ad,Ai = some ad → 0 < r.length → ad.block < w.heap.size ∧ v.ownBlock ≠ some ad.block
theorem MatO.nil (w : World) (B : Nat) : MatO w B (.slice none 0 0) [] []:=⟨OwnL.nil _ _ _ _,rfl,fun i r h=>by simp at h⟩
theorem MatO.below {w w' : World} {B : Nat} {v : Value} {M : List (List Int)} {vs : List Value} (h : MatO w B v M vs) (hb : Below w.heap.size w w') : MatO w' B v M vs :=
 ⟨h.own.below hb,h.len,fun i r hi=>by
  obtain ⟨Ai,ci,h1,h2,h3,h4⟩:=h.row i r hi
  exact ⟨Ai,ci,h1,h2,h3.below hb,fun ad e hl=>⟨Nat.lt_of_lt_of_le (h4 ad e hl).1 hb.size,(h4 ad e hl).2⟩⟩⟩
theorem MatO.read {w : World} {B : Nat} {v : Value} {M : List (List Int)} {vs : List Value} (h : MatO w B v M vs) : ∃ A c,v = .slice A M.length c ∧ M.length ≤ c ∧ MatR w A M vs:=by
 obtain ⟨A,c,e,hr⟩:=h.own.form
 have hcap : M.length ≤ c:=by
  have:=h.own.own.2
  rw [e,List.length_map,h.len] at this
  rcases this with ⟨h1,h2⟩ | ⟨g,cap,cur,h1,_,_,h2,_⟩
  ·simp only [Value.slice.injEq] at h1;omega
  ·simp only [Value.slice.injEq] at h1;omega
 refine ⟨A,c,by rw [e,List.length_map,h.len],hcap,hr,h.len,fun i r hi=>?_⟩
 obtain ⟨Ai,ci,h1,h2,h3,_⟩:=h.row i r hi
 exact ⟨Ai,ci,h1,h2,h3⟩
theorem RowsAt.grown1 {w w' : World} {A : Option Addr} {zs : List Int} {row : Option Nat} (h : RowsAt w A 1 (intRows zs)) (hg : w.grownBy w' row) (hA : ∀ ad,A = some ad → 0 < zs.length → row ≠ some ad.block) : RowsAt w' A 1 (intRows zs):=fun j r hj=>by
 obtain ⟨b,o,e,hb,hc⟩:=h j r hj
 have hl : 0 < zs.length:=by
  have:=(List.getElem?_eq_some_iff.1 hj).1
  rw [intRows_length] at this
  omega
 have hne:=hA _ e hl
 refine ⟨b,o,e,Nat.lt_of_lt_of_le hb hg.size,fun i v hv=>?_⟩
 exact (World.cell?_of_block (a:=⟨b,o + (j * 1 + i),none⟩) (hg.block b hb (fun e=>hne e.symm))).trans (hc i v hv)
theorem MatO.push {w w' : World} {B Bs : Nat} {v v' : Value} {M : List (List Int)} {vs : List Value} (h : MatO w B v M vs) {A : Option Addr} {c : Nat} {r : List Int} (hr : IntsL w Bs (.slice A r.length c) r) (hvB : ∀ g,v.ownBlock = some g → g < Bs)
  (hown : OwnL w' B 30 1 v' ((vs.map fun v=>[v]) ++ [[.slice A r.length c]])) (hg : w.grownBy w' v.ownBlock) (hob : v'.ownBlock = v.ownBlock ∨ v'.ownBlock = some w.heap.size) : MatO w' B v' (M ++ [r]) (vs ++ [.slice A r.length c]):=by
 have hcap : r.length ≤ c:=by
  have:=(IntsL.own hr).2
  rcases this with ⟨h1,h2⟩ | ⟨g,cap,cur,h1,_,_,h2,_⟩
  ·simp only [Value.slice.injEq] at h1;omega
  ·simp only [Value.slice.injEq] at h1;omega
 have hrA : ∀ ad,A = some ad → 0 < r.length → Bs ≤ ad.block ∧ ad.block < w.heap.size:=fun ad e hl=>by
  have:=(IntsL.own hr).2
  rcases this with ⟨h1,h2⟩ | ⟨g,cap,cur,h1,h3,h4,h2,_⟩
  ·omega
  ·simp only [Value.slice.injEq] at h1
   rw [e] at h1
   obtain ⟨h1,_⟩:=h1
   cases h1
   exact ⟨h3,(Array.getElem?_eq_some_iff.1 h4).1⟩
 obtain ⟨A',c',e',hrow⟩:=hr.rows
 have hrow' : RowsAt w A 1 (intRows r):=by
  simp only [Value.slice.injEq] at e'
  rw [e'.1];exact hrow
 refine ⟨by rw [List.map_append];exact hown,by simp [h.len],fun i q hi=>?_⟩
 by_cases hlt : i < M.length
 ·rw [List.getElem?_append_left hlt] at hi
  obtain ⟨Ai,ci,h1,h2,h3,h4⟩:=h.row i q hi
  refine ⟨Ai,ci,by rw [List.getElem?_append_left (by rw [h.len];exact hlt)];exact h1,h2,h3.grown1 hg (fun ad e hl=>(h4 ad e hl).2),fun ad e hl=>⟨Nat.lt_of_lt_of_le (h4 ad e hl).1 hg.size,?_⟩⟩
  rcases hob with o | o
  ·rw [o];exact (h4 ad e hl).2
  ·rw [o];intro e2;have:=Option.some.inj e2;have:=(h4 ad e hl).1;omega
 ·have hie : i = M.length:=by
   have:=(List.getElem?_eq_some_iff.1 hi).1
   simp at this;omega
  subst hie
  have hq : r = q:=by simpa using hi
  subst hq
  refine ⟨A,c,by rw [← h.len];simp,hcap,hrow'.grown1 hg (fun ad e hl e2=>?_),fun ad e hl=>⟨Nat.lt_of_lt_of_le (hrA ad e hl).2 hg.size,?_⟩⟩
  ·have:=hvB _ e2;have:=(hrA ad e hl).1;omega
  ·rcases hob with o | o
   ·rw [o];intro e2;have:=hvB _ e2;have:=(hrA ad e hl).1;omega
   ·rw [o];intro e2;have:=Option.some.inj e2;have:=(hrA ad e hl).2;omega
theorem elemRow : Elem Tryz.prog 118 30 1 24:=Elem.mk' Tryz.underlying118 (z:=.slice none 0 0) (by kernel_rfl) rfl (by decide)
theorem undMat : Tryz.prog.underlying 118 = some (.slice (Tryz.prog.elem 118)):=by kernel_rfl
theorem sizeMat (w : World) : (sizeOf (Tryz.prog.elem 118)).run Tryz.prog w = .ok 1 w:=by kernel_rfl
end Go.Proofs.YthfokpchdlcidaaGreat
namespace Go.Proofs.YthfokpchdlcidaaGreat
open Go Go.RowKit Go.Shelf
def offC (q : Nat) (r : List Int) : List Int:=r.eraseIdx q
def minorL (q : Nat) (M : List (List Int)) : List (List Int):=(M.drop 1).map (offC q)
theorem off_step {r : List Int} {q k : Nat} (h : k < r.length) : offC q (r.take (k + 1)) = if k = q then offC q (r.take k) else offC q (r.take k) ++ [r[k]]:=by
 unfold offC
 rw [List.take_succ_eq_append_getElem h]
 by_cases hk : k = q
 ·rw [if_pos hk]
  subst hk
  rw [List.eraseIdx_append_of_length_le (by rw [List.length_take];omega),List.length_take,Nat.min_eq_left (by omega),Nat.sub_self,List.eraseIdx_of_length_le (l:=r.take k) (by rw [List.length_take];omega)]
  simp
 ·rw [if_neg hk]
  by_cases hlt : k < q
  ·rw [List.eraseIdx_of_length_le (l:=r.take k ++ [r[k]]) (by rw [List.length_append,List.length_take,List.length_singleton];omega),List.eraseIdx_of_length_le (l:=r.take k) (by rw [List.length_take];omega)]
  ·rw [List.eraseIdx_append_of_lt_length (by rw [List.length_take];omega)]
structure SmM (M : List (List Int)) : Prop where
 len : M.length ≤ 1000
 row : ∀ r ∈ M,r.length ≤ 1000
theorem offC_length (q : Nat) (r : List Int) : (offC q r).length ≤ r.length:=by unfold offC;exact (List.eraseIdx_sublist r q).length_le
theorem without_any (A : Option Addr) (c : Nat) (M : List (List Int)) (vs : List Value) (q : Nat) (w : World) (hM : MatR w A M vs) (hcap : M.length ≤ c) (h1 : 1 ≤ M.length) (hs : SmM M) (hq : q ≤ 1000) :
  Calls Tryz.prog 70 #[.slice A M.length c,.int .i64 (q : Int)] w fun e w'=>∃ v us,e = .returned v ∧ MatO w' w.heap.size v (minorL q M) us ∧ Below w.heap.size w w':=by
 have hvl : (vs.map fun v=>[v]).length = M.length:=by rw [List.length_map,hM.len]
 obtain ⟨A1,c1,hcut,hc1,hrows⟩:=cut_tail undMat sizeMat hvl.symm hM.rows hcap (k:=1) h1
 have hR:=Lib.hid (hM.drop hrows)
 have hlen : M.length - 1 = (M.drop 1).length:=by rw [List.length_drop]
 have hsz : (M.drop 1).length ≤ 1000:=by have:=hs.len;omega
 have hsr : Hid (∀ r ∈ M.drop 1,r.length ≤ 1000):=fun r hr=>hs.row r (List.mem_of_mem_drop hr)
 rw [hlen] at hcut hc1
 obtain ⟨D,hD⟩ : ∃ D,M.drop 1 = D:=⟨_,rfl⟩
 have hmin : Hid (minorL q M = D.map (offC q)):=by show _ = _;unfold minorL;rw [hD]
 obtain ⟨us0,hus⟩ : ∃ us,vs.drop 1 = us:=⟨_,rfl⟩
 rw [hD] at hcut hc1 hR hsz hsr hlen
 rw [hus] at hR
 rw [hmin.out]
 obtain ⟨L0,hL0⟩ : ∃ L,M.length = L:=⟨_,rfl⟩
 rw [hL0] at hcut ⊢
 have hcut2 : ∀ w',(Instr.slice 118 (.slice A L0 c) (some (.int .i64 1)) none none).run Tryz.prog w' = .ok (.slice A1 D.length c1) w':=hcut
 clear hcut
 clear hrows hus hD hM hs hmin hvl hlen hcap h1 hL0
 have hO0 : Hid (MatO w w.heap.size (.slice none 0 0) ((D.take 0).map (offC q)) []):=MatO.nil _ _
 have hb0 : Hid (Below w.heap.size w w):=Below.refl _ _
 go_enter Tryz.func70,Tryz.ntmps70
 go_wp2_with fail
 clear hcut2
 go_loopw [5,14] (fun ov i wr=>∃ (k : Nat) (us : List Value) (v : Value),k ≤ D.length ∧ i = .int .i64 k ∧ ov = v ∧ Hid (MatO wr w.heap.size v ((D.take k).map (offC q)) us) ∧ Hid (Below w.heap.size w wr)) (fun _ i _=>D.length - (intOf i).toNat)
 case atStart=>exact ⟨0,[],_,Nat.zero_le _,rfl,rfl,hO0,hb0⟩
 case round =>
  clear hO0 hb0
  obtain ⟨k,us,v,hk,rfl,rfl,hO,hb⟩:=hrel
  generalize hwo : wr = wo at *
  clear hwo wr
  by_cases hlt : k < D.length
  ·have hk' : D[k]? = some D[k]:=List.getElem?_eq_getElem hlt
   have hrl:=hsr.out _ (List.getElem_mem hlt)
   have htk:=Lib.hid (show (D.take (k + 1)).map (offC q) = (D.take k).map (offC q) ++ [offC q D[k]] by rw [List.take_succ_eq_append_getElem hlt,List.map_append];rfl)
   obtain ⟨b,o,Ai,ci,rfl,hbl,c0,hci,hrow⟩:=(hR.out.below hb.out).at_ hk'
   generalize D[k] = r at *
   have hrow:=Lib.hid hrow
   have hI0 : Hid (IntsL wo wo.heap.size (.slice none 0 0) (offC q (r.take 0))):=OwnL.nil _ _ _ _
   have hb0 : Hid (Below wo.heap.size wo wo):=Below.refl _ _
   clear hk'
   go_wp2_with fail
   clear c0
   have hvB:=Lib.hid (fun g e=>(OwnL.lt hO.out.own g e).2)
   go_loopw [8,20] (fun rw i wr=>∃ (m : Nat) (rv : Value),m ≤ r.length ∧ i = .int .i64 m ∧ rw = rv ∧ Hid (IntsL wr wo.heap.size rv (offC q (r.take m))) ∧ Hid (Below wo.heap.size wo wr)) (fun _ i _=>r.length - (intOf i).toNat)
   case atStart=>exact ⟨0,_,Nat.zero_le _,rfl,rfl,hI0,hb0⟩
   case round =>
    clear hI0 hb0
    obtain ⟨m,rv,hm,rfl,rfl,hI,hbi⟩:=hrel
    by_cases hmlt : m < r.length
    ·obtain ⟨b2,o2,rfl,hb2,e0⟩:=intsI_at (hrow.out.below hbi.out) hmlt
     have hst:=off_step (q:=q) hmlt
     have hol : (offC q (r.take m)).length ≤ 1000:=Nat.le_trans (offC_length _ _) (by rw [List.length_take];omega)
     generalize r[m] = x at *
     by_cases hmq : m = q
     ·rw [if_pos hmq] at hst
      have hI2 : Hid (IntsL wr wo.heap.size u8 (offC q (r.take (m + 1)))):=by show IntsL _ _ _ _;rw [hst];exact hI.out
      subst hmq
      clear hst hI
      go_wp2_with fail
      go_roundw
      case rel=>exact ⟨m + 1,_,by omega,by go_num,rfl,hI2,hbi⟩
      case measure=>simp [intOf];omega
     ·rw [if_neg hmq] at hst
      have hmq2 : ((m : Int) == (q : Int)) = false:=by simp;omega
      have hmq3 : ¬ (m : Int) = (q : Int):=by omega
      have hst:=Lib.hid hst
      have hown5 : Hid (IntsL (wr.alloc (.cells #[.int .i64 x] 3)) wo.heap.size u8 (offC q (r.take m))):=hI.out.below (below_alloc _ _)
      have hsrc : Hid (RowsAt (wr.alloc (.cells #[.int .i64 x] 3)) (some ⟨wr.heap.size,0,none⟩) 1 (intRows [x])):=rowsAt_new wr [.int .i64 x] 3
      have hbs:=hbi.out.size
      clear hI
      go_wp2_with (at_builtin;go_must (refine wpList_append_rows elemInt rfl _ _ rfl rfl rfl hown5.out hsrc.out rfl (intRows_wid [x]) (intRows_one [x]) (by simp only [intRows_length,List.length_singleton];omega) (by decide) (by (try simp);omega) ?_);intro v' w5 hown6 hg6 _)
      have hb6 : Hid (Below wo.heap.size wo w5):=hbi.out.trans (((Below.refl _ _).alloc hbs _).trans (grown_below hg6 (fun g e=>(OwnL.lt hown5.out g e).1) (by simp;omega)))
      have hI2 : Hid (IntsL w5 wo.heap.size v' (offC q (r.take (m + 1)))):=by show OwnL _ _ _ _ _ _;rw [hst.out];unfold intRows;rw [List.map_append];exact hown6
      clear hown6 hg6 hown5 hsrc hbi
      go_wp2_with fail
      go_roundw
      case rel=>exact ⟨m + 1,_,by omega,by go_num,rfl,hI2,hb6⟩
      case measure=>simp [intOf];omega
    ·obtain rfl : m = r.length:=by omega
     have hI2 : IntsL wr wo.heap.size u8 (offC q r):=by have:=hI.out;rwa [List.take_length] at this
     have hol : (D.take k).length ≤ 1000:=by rw [List.length_take];omega
     obtain ⟨Ar,cr,rfl,hrr⟩:=hI2.rows
     have hbs:=hbi.out.size
     have hb1:=hb.out.size
     have hO2:=Lib.hid ((hO.out.below hbi.out).below (below_alloc wr (.cells #[.slice Ar (offC q r).length cr] 30)))
     have hI3:=Lib.hid (hI2.below (below_alloc wr (.cells #[.slice Ar (offC q r).length cr] 30)))
     have hsrc : Hid (RowsAt (wr.alloc (.cells #[.slice Ar (offC q r).length cr] 30)) (some ⟨wr.heap.size,0,none⟩) 1 [[.slice Ar (offC q r).length cr]]):=rowsAt_new wr [.slice Ar (offC q r).length cr] 30
     have hul : us.length ≤ 1000:=by rw [hO.out.len,List.length_map];exact hol
     have hbw:=Lib.hid (hb.out.trans (hbi.out.mono hb1))
     clear hI hI2 hrr hO hol
     go_wp2_with (at_builtin;go_must (refine wpList_append_rows elemRow rfl _ _ rfl rfl rfl hO2.out.own hsrc.out rfl (fun r hr=>by rw [List.mem_singleton.1 hr];rfl) (fun r hr u hu=>by rw [List.mem_singleton.1 hr] at hu;rw [List.mem_singleton.1 hu];rfl) (by simp only [List.length_map,List.length_singleton];omega) (by decide) (by (try simp);omega) ?_);intro v' w5 hown6 hg6 hob6)
     have hb6 : Hid (Below w.heap.size w w5):=hbw.out.trans (((Below.refl _ _).alloc (by omega) _).trans (grown_below hg6 (fun g e=>(OwnL.lt hO2.out.own g e).1) (by simp;omega)))
     have hO3 : Hid (MatO w5 w.heap.size v' ((D.take (k + 1)).map (offC q)) (us ++ [.slice Ar (offC q r).length cr])):=by show MatO _ _ _ _ _;rw [htk.out];exact hO2.out.push hI3.out hvB.out hown6 hg6 hob6
     clear hown6 hg6 hob6 hO2 hI3 hsrc hb hbi
     go_wp2_with fail
     go_roundw
     case rel=>exact ⟨k + 1,_,_,by omega,by go_num,rfl,hO3,hb6⟩
     case measure=>simp [intOf];omega
  ·obtain rfl : k = D.length:=by omega
   have hO2 : MatO wo w.heap.size u5 (D.map (offC q)) us:=by have:=hO.out;rwa [List.take_length] at this
   go_wp2_with fail
   go_ret
   exact ⟨_,us,rfl,hO2,hb.out⟩
end Go.Proofs.YthfokpchdlcidaaGreat
namespace Go.Proofs.YthfokpchdlcidaaGreat
open Go Go.RowKit Go.Shelf
theorem wrap_mod (a : Int) : IntKind.i64.wrap a % 18446744073709551616 = a % 18446744073709551616:=by
 unfold IntKind.wrap
 simp [IntKind.bits,IntKind.signed]
 split <;> omega
theorem wrap_cong {a b : Int} (h : a % 18446744073709551616 = b % 18446744073709551616) : IntKind.i64.wrap a = IntKind.i64.wrap b:=by
 unfold IntKind.wrap
 simp [IntKind.bits,IntKind.signed,h]
theorem wrap_add (a b : Int) : IntKind.i64.wrap (IntKind.i64.wrap a + b) = IntKind.i64.wrap (a + b):=wrap_cong (by
 have:=wrap_mod a
 omega)
theorem wrap_add2 (a b : Int) : IntKind.i64.wrap (a + IntKind.i64.wrap b) = IntKind.i64.wrap (a + b):=wrap_cong (by
 have:=wrap_mod b
 omega)
theorem wrap_mul (a b : Int) : IntKind.i64.wrap (IntKind.i64.wrap a * b) = IntKind.i64.wrap (a * b):=wrap_cong (by
 rw [Int.mul_emod,wrap_mod,← Int.mul_emod])
theorem wrap_mul2 (a b : Int) : IntKind.i64.wrap (a * IntKind.i64.wrap b) = IntKind.i64.wrap (a * b):=wrap_cong (by
 rw [Int.mul_emod,wrap_mod,← Int.mul_emod])
theorem wrap_eq (x : Int) : IntKind.i64.wrap x = wrap64 x:=by rw [IntKind.wrap_i64];unfold wrap64;rfl
def detF : Nat → List (List Int) → Int
 | 0,_=>1
 | n + 1,M=>Cal.sumTo (n + 1) fun c=>Cal.sg c * ((M[0]?.getD [])[c]?.getD 0) * detF n (minorL c M)
theorem detF_succ {n : Nat} {M : List (List Int)} {r : List Int} (h : M[0]? = some r) : detF (n + 1) M = Cal.sumTo (n + 1) fun c=>Cal.sg c * (r[c]?.getD 0) * detF n (minorL c M):=by
 show (Cal.sumTo (n + 1) fun c=>Cal.sg c * ((M[0]?.getD [])[c]?.getD 0) * detF n (minorL c M)) = _
 rw [h]
 rfl
theorem minorL_sq {n : Nat} {M : List (List Int)} (h : M.length = n + 1) (hr : ∀ r ∈ M,r.length = n + 1) {c : Nat} (hc : c < n + 1) : (minorL c M).length = n ∧ ∀ r ∈ minorL c M,r.length = n:=by
 unfold minorL
 refine ⟨by rw [List.length_map,List.length_drop];omega,fun r hr'=>?_⟩
 obtain ⟨x,hx,rfl⟩:=List.mem_map.1 hr'
 have:=hr x (List.mem_of_mem_drop hx)
 unfold offC
 rw [List.length_eraseIdx_of_lt (by omega)]
 omega
theorem sg_val (c : Nat) : Cal.sg c = 1 ∨ Cal.sg c = -1:=by unfold Cal.sg;split <;> simp
theorem det_any : ∀ (n : Nat) (A : Option Addr) (c : Nat) (M : List (List Int)) (vs : List Value) (w : World),MatR w A M vs → M.length = n → n ≤ c → (∀ r ∈ M,r.length = n) → n ≤ 100 →
  Calls Tryz.prog 71 #[.slice A n c] w fun e w'=>e = .returned (.int .i64 (IntKind.i64.wrap (detF n M))) ∧ Below w.heap.size w w'
 | 0,A,c,M,vs,w,hM,hl,hcap,hsq,hn=>by
  have hf : Hid (IntKind.i64.wrap (detF 0 M) = 1):=rfl
  rw [hf.out]
  go_enter Tryz.func71,Tryz.ntmps71
  go_wp2_with fail
  go_ret
  exact ⟨rfl,Below.refl _ _⟩
 | n + 1,A,c,M,vs,w,hM,hl,hcap,hsq,hn=>by
  have ih:=Lib.hid (fun A c M vs w h1 h2 h3 h4=>det_any n A c M vs w h1 h2 h3 h4 (by omega))
  obtain ⟨r,hk'⟩ : ∃ r,M[0]? = some r:=⟨M[0],List.getElem?_eq_getElem (by omega)⟩
  have hrl:=hsq _ (List.mem_of_getElem? hk')
  obtain ⟨b,o,Ai,ci,rfl,hbl,c0,hci,hrow⟩:=hM.at_ hk'
  rw [Nat.add_zero] at c0
  have hdet:=Lib.hid (detF_succ (n:=n) hk')
  have hwo : Hid (∀ (q : Nat) (W : World),q < n + 1 → Below w.heap.size w W → Calls Tryz.prog 70 #[.slice (some ⟨b,o,none⟩) (n + 1) c,.int .i64 (q : Int)] W fun e w'=>∃ A' c' us,e = .returned (.slice A' n c') ∧ n ≤ c' ∧ MatR w' A' (minorL q M) us ∧ Below W.heap.size W w'):=fun q W hq hb=>by
   have:=without_any (some ⟨b,o,none⟩) c M vs q W (hM.below hb) (by omega) (by omega) ⟨by omega,fun r hr=>by rw [hsq r hr];omega⟩ (by omega)
   rw [hl] at this
   refine this.mono ?_
   rintro e w' ⟨v,us,rfl,hO,hb'⟩
   obtain ⟨A',c',rfl,hc',hR⟩:=hO.read
   have hml:=(minorL_sq hl hsq hq).1
   rw [hml] at hc' ⊢
   exact ⟨A',c',us,rfl,hc',hR,hb'⟩
  have hsqm : Hid (∀ q,q < n + 1 → (minorL q M).length = n ∧ ∀ r ∈ minorL q M,r.length = n):=fun q hq=>minorL_sq hl hsq hq
  replace hrow:=Lib.hid hrow
  have hS0 : Hid (Cal.sumTo 0 (fun c=>Cal.sg c * (r[c]?.getD 0) * detF n (minorL c M)) = 0):=rfl
  have hb0 : Hid (Below w.heap.size w w):=Below.refl _ _
  rw [hdet.out]
  clear hk' hsq hM hdet hl
  have hz : ((n : Int) + 1 == 0) = false:=by simp;omega
  have hz2 : ¬ (n : Int) + 1 = 0:=by omega
  go_enter Tryz.func71,Tryz.ntmps71
  go_wp2_with fail
  clear c0 hz hz2
  go_loopw [3,4,14] (fun s g i wr=>∃ k : Nat,k ≤ n + 1 ∧ i = .int .i64 k ∧ s = .int .i64 (IntKind.i64.wrap (Cal.sumTo k fun c=>Cal.sg c * (r[c]?.getD 0) * detF n (minorL c M))) ∧ g = .int .i64 (Cal.sg k) ∧ Hid (Below w.heap.size w wr)) (fun _ _ i _=>n + 1 - (intOf i).toNat)
  case atStart=>exact ⟨0,Nat.zero_le _,rfl,rfl,rfl,hb0⟩
  case round =>
   clear hb0 hS0
   obtain ⟨k,hk,rfl,rfl,rfl,hb⟩:=hrel
   by_cases hlt : k < n + 1
   ·have hkr : k < r.length:=by omega
    obtain ⟨b2,o2,rfl,hb2,e0⟩:=intsI_at (hrow.out.below hb.out) hkr
    have hx : r[k]?.getD 0 = r[k]:=by rw [List.getElem?_eq_getElem hkr];rfl
    have hst : Hid (Cal.sumTo (k + 1) (fun c=>Cal.sg c * (r[c]?.getD 0) * detF n (minorL c M)) = Cal.sumTo k (fun c=>Cal.sg c * (r[c]?.getD 0) * detF n (minorL c M)) + Cal.sg k * r[k] * detF n (minorL k M)):=by
     show _ = _
     rw [← hx];rfl
    have hsg:=Cal.sg_succ k
    obtain ⟨hl1,hl2⟩:=hsqm.out k hlt
    have hwk:=Lib.hid (fun W hb=>hwo.out k W hlt hb)
    generalize r[k] = x at *
    generalize Cal.sumTo k (fun c=>Cal.sg c * (r[c]?.getD 0) * detF n (minorL c M)) = S at *
    generalize hS2 : Cal.sumTo (k + 1) (fun c=>Cal.sg c * (r[c]?.getD 0) * detF n (minorL c M)) = S2 at *
    have hgn : IntKind.i64.wrap (- Cal.sg k) = - Cal.sg k:=by rcases sg_val k with h | h <;> rw [h] <;> decide
    by_cases hx0 : x = 0
    ·have hf : Hid (S2 = S):=by show _ = _;rw [hst.out,hx0,Int.mul_zero,Int.zero_mul,Int.add_zero]
     clear hst hwk hx
     subst hx0
     go_wp2_with fail
     go_roundw
     case rel=>exact ⟨k + 1,by omega,by go_num,by rw [hS2,hf.out],by rw [hsg],hb⟩
     case measure=>simp [intOf];omega
    ·have hf : Hid (IntKind.i64.wrap (IntKind.i64.wrap S + IntKind.i64.wrap (IntKind.i64.wrap (Cal.sg k * x) * IntKind.i64.wrap (detF n (minorL k M)))) = IntKind.i64.wrap S2):=by
      show _ = _
      rw [wrap_mul,wrap_mul2,wrap_add,wrap_add2,hst.out]
     clear hst hx
     have hx1 : ¬ x = 0:=hx0
     go_wp2_with (first
      |(go_at_call 70;refine (hwk.out _ hb.out).mono ?_;rintro e0 w2 ⟨A',c',us,rfl,hc',hMR,hb2⟩;replace hMR:=Lib.hid hMR;have hb3:=Lib.hid (hb.out.trans (hb2.mono hb.out.size));clear hb2)
      |(go_at_call 71;refine (ih.out A' c' _ us _ hMR.out hl1 hc' hl2).mono ?_;rintro e0 w3 ⟨rfl,hb4⟩;have hb5:=Lib.hid (hb3.out.trans (hb4.mono hb3.out.size));clear hb4))
     go_roundw
     case rel=>exact ⟨k + 1,by omega,by go_num,by rw [hS2];have h:=hf.out;simp only [wrap_eq] at h ⊢;rw [h],by rw [hsg],hb5⟩
     case measure=>simp [intOf];omega
   ·obtain rfl : k = n + 1:=by omega
    go_wp2_with fail
    go_ret
    exact ⟨rfl,hb.out⟩
end Go.Proofs.YthfokpchdlcidaaGreat
namespace Go.Proofs.YthfokpchdlcidaaGreat
open Go Go.RowKit Go.Shelf
def GcI (a b p q : Int) : Prop:=Int.gcd p q = Int.gcd a b ∧ ((p = a ∧ q = b) ∨ (q.natAbs < p.natAbs ∧ p.natAbs ≤ b.natAbs))
theorem tmod_abs {a b : Int} (hb : b ≠ 0) : (a.tmod b).natAbs < b.natAbs:=Cal.step_less hb
theorem gcd_any (a b : Int) (w : World) (hb : 0 < b) (hb2 : b ≤ 9223372036854775807) : Calls Tryz.prog 107 #[.int .i64 a,.int .i64 b] w fun e w'=>e = .returned (.int .i64 (Int.gcd a b : Int)) ∧ Below w.heap.size w w':=by
 have hst : Hid (GcI a b a b):=⟨rfl,.inl ⟨rfl,rfl⟩⟩
 have hb0 : Hid (Below w.heap.size w w):=Below.refl _ _
 go_enter Tryz.func107,Tryz.ntmps107
 go_wp2_with fail
 go_loopw [0,1] (fun x y wr=>∃ p q : Int,x = .int .i64 p ∧ y = .int .i64 q ∧ Hid (GcI a b p q) ∧ Hid (Below w.heap.size w wr)) (fun _ y _=>(intOf y).natAbs)
 case atStart=>exact ⟨a,b,rfl,rfl,hst,hb0⟩
 case round =>
  clear hst hb0
  obtain ⟨p,q,rfl,rfl,hs,hB⟩:=hrel
  by_cases hq : q = 0
  ·subst hq
   have hr : Hid ((Int.gcd a b : Int) = max p (-p)):=by
    have h:=hs.out.1
    rw [Cal.gcd_end] at h
    show _ = _
    rw [← h]
    omega
   have hp : -9223372036854775807 ≤ p ∧ p ≤ 9223372036854775807:=by
    rcases hs.out.2 with ⟨h1,h2⟩ | ⟨h1,h2⟩
    ·omega
    ·omega
   have hng : IntKind.i64.wrap (-p) = -p:=wrap_small (by omega) (by omega)
   obtain ⟨p0,p1⟩:=hp
   clear hs
   go_wp2_with fail
   go_ret
   exact ⟨ret_int hr.out.symm,hB.out⟩
  ·have hlt:=tmod_abs (a:=p) hq
   have hqb : q.natAbs ≤ b.natAbs:=by
    rcases hs.out.2 with ⟨h1,h2⟩ | ⟨h1,h2⟩
    ·rw [h2];exact Nat.le_refl _
    ·omega
   have hw : IntKind.i64.wrap (p.tmod q) = p.tmod q:=wrap_small (by omega) (by omega)
   have hs2 : Hid (GcI a b q (p.tmod q)):=⟨(Cal.gcd_step p q).trans hs.out.1,.inr ⟨hlt,hqb⟩⟩
   clear hs
   go_wp2_with fail
   refine wp_region_held_drew (S:=Sx wr []) (by kernel_rfl) (Sx.mk (cs_nil _) (Below.refl _ _)).drew (fun hHeld=>?_)
   refine tkHx 0 7 ?_
   refine tkHx 1 8 ?_
   refine tkHx 2 9 ?_
   refine tkHx 3 10 ?_
   refine tkHx 4 0 ?_
   refine tkHx 5 1 ?_
   refine wpAnyH_done (by kernel_rfl) ?_ _
   (try simp only [apS,apN,siA,scZ,scS])
   have hB2:=Lib.hid (hB.out.trans (hHeld.bel.mono hB.out.size))
   clear hHeld
   go_wp2_with fail
   go_roundw
   case rel=>exact ⟨q,p.tmod q,rfl,by first | rfl | rw [hw],hs2,hB2⟩
   case measure=>exact hlt
def FrK (w : World) (W : World) : Prop:=∃ x y,BoxAt W w.heap.size [x,y] ∧ Below w.heap.size w W
theorem frSize : (Tryz.prog.info? 88).map (·.size) = some 2:=by kernel_rfl
theorem lowest_any (a b : Int) (w : World) (ha : -9223372036854775808 ≤ a ∧ a ≤ 9223372036854775807) (hb : 0 < b) (hb2 : b ≤ 9223372036854775807) :
  Calls Tryz.prog 72 #[.int .i64 a,.int .i64 b] w fun e w'=>e = .returned (.agg #[.int .i64 (Cal.lowN a b),.int .i64 (Cal.lowD a b)]) ∧ Below w.heap.size w w':=by
 have hgp:=Cal.gcd_pos (a:=a) hb
 obtain ⟨ha1,ha2⟩:=ha
 have hcall:=Lib.hid (fun W=>gcd_any a b W hb hb2)
 have hN : Hid (Cal.lowN a b = a.tdiv (Int.gcd a b : Int)):=rfl
 have hD : Hid (Cal.lowD a b = b.tdiv (Int.gcd a b : Int)):=rfl
 have e1 : (a.tdiv (Int.gcd a b : Int)).natAbs ≤ a.natAbs:=by rw [Int.natAbs_tdiv];exact Nat.div_le_self _ _
 have e2 : (b.tdiv (Int.gcd a b : Int)).natAbs ≤ b.natAbs:=by rw [Int.natAbs_tdiv];exact Nat.div_le_self _ _
 have e3 : 0 ≤ b.tdiv (Int.gcd a b : Int):=Int.tdiv_nonneg (by omega) (by omega)
 have e4 : 0 ≤ a → 0 ≤ a.tdiv (Int.gcd a b : Int):=fun h=>Int.tdiv_nonneg h (by omega)
 have e5 : a < 0 → a.tdiv (Int.gcd a b : Int) ≤ 0:=fun h=>by
  have:=Int.tdiv_nonneg (a:=-a) (b:=(Int.gcd a b : Int)) (by omega) (by omega)
  rw [Int.neg_tdiv] at this
  omega
 generalize Int.gcd a b = g at *
 have w1 : IntKind.i64.wrap (a.tdiv (g : Int)) = a.tdiv (g : Int):=wrap_small (by omega) (by omega)
 have w2 : IntKind.i64.wrap (b.tdiv (g : Int)) = b.tdiv (g : Int):=wrap_small (by omega) (by omega)
 have hg0 : ¬ (g : Int) = 0:=by omega
 have hg1 : ¬ g = 0:=by omega
 have hb0:=BoxAt.new w #[.int .i64 0,.int .i64 0] 88
 have hal:=below_alloc w (.cells #[.int .i64 0,.int .i64 0] 88)
 replace hb0:=Lib.hid hb0
 replace hal:=Lib.hid hal
 rw [hN.out,hD.out]
 clear e1 e2 e3 e4 e5 hN hD
 go_enter Tryz.func72,Tryz.ntmps72
 go_wp2_with (go_at_call 107;refine (hcall.out _).mono ?_;rintro e0 w2 ⟨rfl,hbn⟩;replace hb0:=Lib.hid (hb0.out.below hbn);have hbw:=Lib.hid (below_step hal.out hbn);clear hbn hal hcall;have x0:=hb0.out.c 0 _ rfl;have x1:=hb0.out.c 1 _ rfl;have f0:=hb0.out.free 0 (by simp);have f1:=hb0.out.free 1 (by simp))
 refine wp_region_held_drew (S:=FrK w) (by kernel_rfl) ⟨_,_,hb0.out.below ((Below.refl _ _).drew),hbw.out.drew⟩ (fun hHeld=>?_)
 clear x0 x1 f0 f1
 generalize w2.drew = W9 at *
 (refine tkH2 0 9 (v:=?_) ?_ ?_;rotate_left;focus (intro w' hSw;clear hSw;go_simp;(try with_reducible rfl));(try simp only [Act.put,List.setIfInBounds_toArray,List.set_cons_zero,List.set_cons_succ]))
 (refine tkH2 1 10 (v:=?_) ?_ ?_;rotate_left;focus (intro w' hSw;clear hSw;go_simp;(try with_reducible rfl));(try simp only [Act.put,List.setIfInBounds_toArray,List.set_cons_zero,List.set_cons_succ]))
 (refine tkH2 2 11 (v:=?_) ?_ ?_;rotate_left;focus (intro w' hSw;clear hSw;go_simp;(try with_reducible rfl));(try simp only [Act.put,List.setIfInBounds_toArray,List.set_cons_zero,List.set_cons_succ]))
 (refine tkH2 3 12 (v:=?_) ?_ ?_;rotate_left;focus (intro w' hSw;clear hSw;go_simp;(try with_reducible rfl));(try simp only [Act.put,List.setIfInBounds_toArray,List.set_cons_zero,List.set_cons_succ]))
 (refine tkH2 4 13 (v:=?_) ?_ ?_;rotate_left;focus (intro w' hSw;clear hSw;go_simp;(try with_reducible rfl));(try simp only [Act.put,List.setIfInBounds_toArray,List.set_cons_zero,List.set_cons_succ]))
 (refine tkH2 5 14 (v:=?_) ?_ ?_;rotate_left;focus (intro w' hSw;clear hSw;go_simp;(try with_reducible rfl));(try simp only [Act.put,List.setIfInBounds_toArray,List.set_cons_zero,List.set_cons_succ]))
 (refine tkH2 6 15 (v:=?_) ?_ ?_;rotate_left;focus (intro w' hSw;clear hSw;go_simp;(try with_reducible rfl));(try simp only [Act.put,List.setIfInBounds_toArray,List.set_cons_zero,List.set_cons_succ]))
 obtain ⟨z0,z1,hz,hzb⟩:=hHeld
 have x0:=hz.c 0 _ rfl
 have x1:=hz.c 1 _ rfl
 have f0:=hz.free 0 (by simp)
 have f1:=hz.free 1 (by simp)
 have hz9:=Lib.hid ((hz.set 0 (.int .i64 (a.tdiv (g : Int))) (by simp)).set 1 (.int .i64 (b.tdiv (g : Int))) (by simp))
 have hzb9:=Lib.hid ((hzb.setCell (p:=⟨w.heap.size,0,none⟩) (Nat.le_refl _) (.int .i64 (a.tdiv (g : Int)))).setCell (p:=⟨w.heap.size,1,none⟩) (Nat.le_refl _) (.int .i64 (b.tdiv (g : Int))))
 (refine ratHx 7 (fun K hK=>?_);go_simp)
 refine hK.out _ _ ⟨_,_,hz9.out,hzb9.out⟩ (fun hHeld=>?_)
 clear hK K hHeld
 (try simp only [apS,apN,siA,scZ,scS])
 refine wpAnyH_done (by kernel_rfl) ?_ _
 go_wp2_with fail
 refine bodyPost_ret (results_mid1 rfl _ _ w.heap.size [.int .i64 (a.tdiv (g : Int)),.int .i64 (b.tdiv (g : Int))] _ rfl hz9.out.range Tryz.underlying88 rfl frSize) rfl ⟨rfl,hzb9.out⟩
end Go.Proofs.YthfokpchdlcidaaGreat
namespace Go.Proofs.YthfokpchdlcidaaGreat
open Go Go.RowKit Go.Shelf
def putC (q : Nat) (r : List Int) (x : Int) : List Int:=r.set q x
def withL (q : Nat) (l : List Int) (M : List (List Int)) : List (List Int):=M.zipWith (putC q) l
theorem IntsL.stored {w : World} {B g c : Nat} {zs : List Int} (h : IntsL w B (.slice (some ⟨g,0,none⟩) zs.length c) zs) (j : Nat) (x : Int) :
  IntsL (w.setCell ⟨g,j,none⟩ (.int .i64 x)) B (.slice (some ⟨g,0,none⟩) (zs.set j x).length c) (zs.set j x) ∧ w.grownBy (w.setCell ⟨g,j,none⟩ (.int .i64 x)) (some g):=by
 have:=World.ownsRow.stored h.own j (.int .i64 x)
 refine ⟨IntsL.of ?_,this.2⟩
 rw [List.length_set,List.map_set]
 exact this.1
theorem IntsL.lit {w : World} {B : Nat} {v : Value} {zs : List Int} (h : IntsL w B v zs) (hne : 0 < zs.length) : ∃ g c,v = .slice (some ⟨g,0,none⟩) zs.length c ∧ B ≤ g ∧ g < w.heap.size:=by
 rcases (IntsL.own h).2 with ⟨_,h2⟩ | ⟨g,cap,cur,h1,h3,h4,h2,_⟩
 ·omega
 ·exact ⟨g,cap,h1,h3,(Array.getElem?_eq_some_iff.1 h4).1⟩
theorem IntsL.cellOf {w : World} {B g c : Nat} {zs : List Int} (h : IntsL w B (.slice (some ⟨g,0,none⟩) zs.length c) zs) {j : Nat} (hj : j < zs.length) : w.cell? ⟨g,j,none⟩ = some (.int .i64 zs[j]) ∧ w.frozen? ⟨g,j,none⟩ = false:=by
 refine ⟨?_,World.ownsRow.frozenAt h.own j⟩
 rw [World.ownsRow.cellAt h.own j (by omega),List.getElem?_map,List.getElem?_eq_getElem hj]
 rfl
theorem withL_take {q k : Nat} {l : List Int} {M : List (List Int)} (h : k < M.length) (hl : k < l.length) : withL q (l.take (k + 1)) (M.take (k + 1)) = withL q (l.take k) (M.take k) ++ [putC q M[k] l[k]]:=by
 unfold withL
 rw [List.take_succ_eq_append_getElem h,List.take_succ_eq_append_getElem hl,List.zipWith_append (by rw [List.length_take,List.length_take];omega)]
 rfl
theorem with_any (A Al : Option Addr) (c cl : Nat) (M : List (List Int)) (vs : List Value) (l : List Int) (q : Nat) (w : World) (hM : MatR w A M vs) (hs : SmM M) (hL : RowsAt w Al 1 (intRows l)) (hll : M.length ≤ l.length) (hl2 : l.length ≤ 1000) (hq : ∀ r ∈ M,q < r.length) :
  Calls Tryz.prog 73 #[.slice A M.length c,.int .i64 (q : Int),.slice Al l.length cl] w fun e w'=>∃ v us,e = .returned v ∧ MatO w' w.heap.size v (withL q (l.take M.length) M) us ∧ Below w.heap.size w w':=by
 have hsz:=hs.len
 have hsr:=Lib.hid hs.row
 replace hM:=Lib.hid hM
 replace hL:=Lib.hid hL
 replace hq:=Lib.hid hq
 have hO0 : Hid (MatO w w.heap.size (.slice none 0 0) (withL q (l.take 0) (M.take 0)) []):=MatO.nil _ _
 have hb0 : Hid (Below w.heap.size w w):=Below.refl _ _
 clear hs
 go_enter Tryz.func73,Tryz.ntmps73
 go_wp2_with fail
 go_loopw [7,13] (fun ov i wr=>∃ (k : Nat) (us : List Value) (v : Value),k ≤ M.length ∧ i = .int .i64 k ∧ ov = v ∧ Hid (MatO wr w.heap.size v (withL q (l.take k) (M.take k)) us) ∧ Hid (Below w.heap.size w wr)) (fun _ i _=>M.length - (intOf i).toNat)
 case atStart=>exact ⟨0,[],_,Nat.zero_le _,rfl,rfl,hO0,hb0⟩
 case round =>
  clear hO0 hb0
  obtain ⟨k,us,v,hk,rfl,rfl,hO,hb⟩:=hrel
  by_cases hlt : k < M.length
  ·have hk' : M[k]? = some M[k]:=List.getElem?_eq_getElem hlt
   have hkl : k < l.length:=by omega
   have hrl:=hsr.out _ (List.getElem_mem hlt)
   have hqr:=hq.out _ (List.getElem_mem hlt)
   have htk:=Lib.hid (withL_take (q:=q) hlt hkl)
   obtain ⟨b,o,Ai,ci,rfl,hbl,c0,hci,hrow⟩:=(hM.out.below hb.out).at_ hk'
   obtain ⟨bl,ol,hAl,hbl2,e0⟩:=intsI_at (hL.out.below hb.out) hkl
   have hol : (withL q (l.take k) (M.take k)).length ≤ 1000:=by unfold withL;rw [List.length_zipWith,List.length_take,List.length_take];omega
   generalize M[k] = r at *
   generalize l[k] = x at *
   subst hAl
   have hmade : Hid (OwnL (wr.alloc (.cells #[] 3)) wr.heap.size 3 1 (.slice (some ⟨wr.heap.size,0,none⟩) 0 0) []):=OwnL.made wr _ _ _ (Nat.le_refl _)
   have hsrc : Hid (RowsAt (wr.alloc (.cells #[] 3)) Ai 1 (intRows r)):=hrow.below (below_alloc _ _)
   clear hk' hrow
   have m1 : Hid True:=trivial
   have hvB:=Lib.hid (fun g e=>(OwnL.lt hO.out.own g e).2)
   have hul : us.length ≤ 1000:=by rw [hO.out.len];exact hol
   go_wp2_with (first
    |(at_builtin;clear m1;go_must (refine wpList_append_rows elemInt rfl _ _ rfl rfl rfl hmade.out hsrc.out (intRows_length r).symm (intRows_wid r) (intRows_one r) (by simp only [intRows_length,List.length_nil];omega) (by decide) (by (try simp)) ?_;intro v' w5 hown6 hg6 hob6;replace hown6 : IntsL w5 wr.heap.size v' r:=hown6;obtain ⟨g,c5,rfl,hg1,hg2⟩:=IntsL.lit hown6 (Nat.lt_of_le_of_lt (Nat.zero_le _) hqr);have hb5:=Lib.hid (((Below.refl _ _).alloc (Nat.le_refl _) _).trans (grown_below hg6 (fun g e=>(OwnL.lt hmade.out g e).1) (by simp)) : Below wr.heap.size wr w5);have e5:=(hb5.out.cell (p:=⟨bl,ol + k,none⟩) hbl2).trans e0;obtain ⟨q0,q1⟩:=IntsL.cellOf hown6 hqr;have hst:=IntsL.stored hown6 q x;replace hown6:=Lib.hid hown6;have hI3:=Lib.hid hst.1;have hb6:=Lib.hid (hb5.out.trans (grown_below (v:=.slice (some ⟨g,0,none⟩) 0 0) hst.2 (fun g' e=>by cases e;exact hg1) hb5.out.size));have hbs6:=hb6.out.size;have hsrc2:=rowsAt_new (w5.setCell ⟨g,q,none⟩ (.int .i64 x)) [.slice (some ⟨g,0,none⟩) (r.set q x).length c5] 30;have hO3:=Lib.hid ((hO.out.below hb6.out).below (below_alloc _ (.cells #[.slice (some ⟨g,0,none⟩) (r.set q x).length c5] 30)));have hI4:=Lib.hid (hI3.out.below (below_alloc _ (.cells #[.slice (some ⟨g,0,none⟩) (r.set q x).length c5] 30)));have hbw6:=Lib.hid (hb.out.trans (hb6.out.mono hb.out.size));rw [List.length_set] at hsrc2 hO3 hI4;simp only [World.size_setCell,List.length_singleton] at hsrc2;replace hsrc2:=Lib.hid hsrc2;clear hg6 hob6 e0 hmade hsrc c0 hst hI3))
    |(at_builtin;go_must (refine wpList_append_rows elemRow rfl _ _ rfl rfl rfl hO3.out.own hsrc2.out rfl (fun r hr=>by rw [List.mem_singleton.1 hr];rfl) (fun r hr u hu=>by rw [List.mem_singleton.1 hr] at hu;rw [List.mem_singleton.1 hu];rfl) (by simp only [List.length_map,List.length_singleton];omega) (by decide) (by have:=hbw6.out.size;simp at this ⊢;omega) ?_;intro v' w7 hown7 hg7 hob7)))
   have hpush : Hid (MatO w7 w.heap.size v' (withL q (l.take (k + 1)) (M.take (k + 1))) (us ++ [.slice (some ⟨g,0,none⟩) r.length c5])):=by
    have:=hO3.out.push (Bs:=wr.heap.size) (r:=r.set q x) (A:=some ⟨g,0,none⟩) (c:=c5) (by rw [List.length_set];exact hI4.out) hvB.out (by rw [List.length_set];exact hown7) hg7 hob7
    rw [List.length_set] at this
    show MatO _ _ _ _ _
    rw [htk.out]
    exact this
   have hb7 : Hid (Below w.heap.size w w7):=(below_step hbw6.out (below_alloc _ _)).trans (grown_below hg7 (fun g e=>(OwnL.lt hO3.out.own g e).1) (by have:=hbw6.out.size;simp at this ⊢;omega))
   clear hown7 hg7 hob7 hO3 hI4 hsrc2 hbw6 hb6 hb5
   go_wp2_with fail
   go_roundw
   case rel=>exact ⟨k + 1,_,_,by omega,by go_num,rfl,hpush,hb7⟩
   case measure=>simp [intOf];omega
  ·obtain rfl : k = M.length:=by omega
   have hO2 : MatO wr w.heap.size u7 (withL q (l.take M.length) M) us:=by have:=hO.out;rwa [List.take_length (l:=M)] at this
   go_wp2_with fail
   go_ret
   exact ⟨_,us,rfl,hO2,hb.out⟩
end Go.Proofs.YthfokpchdlcidaaGreat
