/- What the statements rest on: definitions and walks, part 42. -/
import Derived.Test.YthfokpchdlcidaaJ41
set_option maxRecDepth 100000
set_option maxHeartbeats 16000000
set_option linter.unusedSimpArgs false
set_option linter.unusedVariables false
namespace Go.Proofs.Ythfokpchdlcidaa
open Go Go.RowKit Go.Shelf
theorem polyE_401 {ps : List Pt} (h : Cal.polyE ps = 0) : ps.length ≤ 40:=by
 unfold Cal.polyE at h
 split at h
 ·cases h
 ·omega
theorem badSide_no {a b : List Pt} {i : Nat} (h1 : ∀ k,k < a.length → Cal.crosS (Cal.sd b i) (Cal.sd a k) = false) (h2 : ¬ 0 < Cal.whereP a (Cal.sd b i).a) (h3 : Cal.entersR (Cal.sd b i) a = false) : Cal.badSide a b i = false:=by
 unfold Cal.badSide
 rw [decide_eq_false h2,h3,Bool.or_false,Bool.or_false,List.any_eq_false]
 intro k hk
 rw [h1 k (List.mem_range.1 hk)];decide
theorem badSide_cross {a b : List Pt} {i k : Nat} (hk : k < a.length) (h1 : Cal.crosS (Cal.sd b i) (Cal.sd a k) = true) : Cal.badSide a b i = true:=by
 unfold Cal.badSide
 rw [List.any_eq_true.2 ⟨k,List.mem_range.2 hk,h1⟩];rfl
theorem badSide_other {a b : List Pt} {i : Nat} (h : (decide (0 < Cal.whereP a (Cal.sd b i).a) || Cal.entersR (Cal.sd b i) a) = true) : Cal.badSide a b i = true:=by
 unfold Cal.badSide
 rw [h,Bool.or_true]
theorem within_bad {a b : List Pt} {i : Nat} (hi : i < b.length) (h : Cal.badSide a b i = true) : Cal.withinR a b = false:=by
 unfold Cal.withinR
 rw [List.any_eq_true.2 ⟨i,List.mem_range.2 hi,h⟩];rfl
theorem within_fine {a b : List Pt} (h : ∀ i,i < b.length → Cal.badSide a b i = false) : Cal.withinR a b = decide (0 < Cal.whereP (Cal.mulP 3 b) (Cal.third3 (Cal.firstTri a))):=by
 unfold Cal.withinR
 have : (List.range b.length).any (Cal.badSide a b) = false:=by
  rw [List.any_eq_false]
  intro i hi
  rw [h i (List.mem_range.1 hi)];decide
 rw [this];rfl
theorem WithinR_any (V : Option Addr) (d : Nat) (a : List Pt) (V2 : Option Addr) (d2 : Nat) (b : List Pt) (w : World) (hA : PtsR w V a) (hd : a.length ≤ d) (hB : PtsR w V2 b) (ha : Cal.polyE a = 0) (hb : Cal.polyE b = 0) :
  Calls Try.prog 43 #[.slice V a.length d,.slice V2 b.length d2] w fun e w'=>e = .returned (.bool (Cal.withinR a b)) ∧ Below w.heap.size w w':=by
 obtain ⟨hpa,hia,_⟩:=Cal.polyE_poly ha
 obtain ⟨hpb,hib,_⟩:=Cal.polyE_poly hb
 have hla:=polyE_401 ha
 have hlb:=polyE_401 hb
 have h3b:=hpb.three
 have hsa : ∀ p ∈ a,SmP p:=fun p hp=>ptErr_sm (hia p hp)
 have hsb : ∀ p ∈ b,SmP p:=fun p hp=>ptErr_sm (hib p hp)
 have hPa : Pts w V a:=⟨hA.rows,hA.size,hsa,hA.own⟩
 have hPb : Pts w V2 b:=⟨hB.rows,hB.size,hsb,hB.own⟩
 obtain ⟨R,hR⟩ : ∃ R,Cal.withinR a b = R:=⟨_,rfl⟩
 rw [hR]
 have hbad:=Lib.hid (fun i (hi : i < b.length) h=>hR ▸ within_bad (a:=a) hi h)
 have hfine:=Lib.hid (fun h=>hR ▸ within_fine (a:=a) (b:=b) h)
 have hft : Hid (Cal.firstTri a ∈ Cal.trisOf a):=Cal.firstTri_mem (Cal.goodP_of ha)
 have hgood:=Lib.hid (fun (l0 : 0 < (Cal.trisOf a).length)=>(rfl : Cal.firstTri a = Cal.firstTri a))
 have htr:=Lib.hid (fun W (hW : Below w.heap.size w W)=>TrianglesR_any V d a W (hPa.below hW) hd)
 have hsdB:=Lib.hid (fun i (hi : i < b.length) W (hW : Below w.heap.size w W)=>sideR_any V2 d2 b i W (hB.below hW) hi (by omega))
 have hsdA:=Lib.hid (fun k (hk : k < a.length) W (hW : Below w.heap.size w W)=>sideR_any V d a k W (hA.below hW) hk (by omega))
 have hwh1:=Lib.hid (fun q (hq : SmP q) W (hW : Below w.heap.size w W)=>WhereR_any V d a q W (hPa.below hW) hq (by omega))
 have hent:=Lib.hid (fun s h1 h2 W (hW : Below w.heap.size w W)=>entersR_any s V d a W h1 h2 (hA.below hW) hia (by omega))
 have hti : Hid (∀ W,Below w.heap.size w W → Calls Try.prog 76 #[.slice V2 b.length d2,.int .i64 3] W fun e w'=>∃ A c,e = .returned (.slice A (Cal.mulP 3 b).length c) ∧ Pts w' A (Cal.mulP 3 b) ∧ Below W.heap.size W w'):=fun W hb=>by
  refine (timesR_any V2 d2 b 3 W (hB.below hb) hib (by decide) (by decide)).mono ?_
  rintro e w' ⟨v,rfl,hO,hb'⟩
  obtain ⟨A5,c5,rfl,hr⟩:=OwnL.form hO
  rw [List.length_map]
  refine ⟨A5,c5,rfl,pts_own hO hr (by rw [Cal.mul_length];omega) (fun p hp=>?_),hb'⟩
  obtain ⟨q,hq,rfl⟩:=List.mem_map.1 hp
  have:=ptErr_box (hib q hq)
  exact ⟨by dsimp only;omega,by dsimp only;omega,by dsimp only;omega,by dsimp only;omega⟩
 have hmem:=Lib.hid (trisR_mem a.length a)
 change Hid (∀ t ∈ Cal.trisOf a,_) at hmem
 have hia':=Lib.hid hia
 have hib':=Lib.hid hib
 have hsa':=Lib.hid hsa
 have hsB : Hid (∀ i,i < b.length → Cal.ptErr (Cal.sd b i).a = 0 ∧ Cal.ptErr (Cal.sd b i).b = 0):=fun i hi=>by
  unfold Cal.sd
  rw [List.getElem?_eq_getElem hi,List.getElem?_eq_getElem (Nat.mod_lt (i + 1) (show 0 < b.length by omega))]
  exact ⟨hib _ (List.getElem_mem _),hib _ (List.getElem_mem _)⟩
 have hsA:=Lib.hid (fun k (hk : k < a.length)=>hPa.sd k hk)
 have hb0 : Hid (Below w.heap.size w w):=Below.refl _ _
 clear hA hB hia hib hsa hsb hPa hPb hpa hpb ha hb hR hgood
 go_enter Try.func43,Try.ntmps43
 go_wp2_with fail
 go_loopw [5] (fun iv wr=>∃ i : Nat,i ≤ b.length ∧ iv = .int .i64 i ∧ Hid (∀ j,j < i → Cal.badSide a b j = false) ∧ Hid (Below w.heap.size w wr)) (fun iv _=>b.length - (intOf iv).toNat)
 case atStart=>exact ⟨0,Nat.zero_le _,rfl,fun j h=>by omega,hb0⟩
 case round =>
  clear hb0
  obtain ⟨i,hi,rfl,hdone,hb⟩:=hrel
  by_cases hlt : i < b.length
  ·have hii : (i : Int) < (b.length : Int):=by omega
   have hsd1:=Lib.hid (hsdB.out i hlt)
   obtain ⟨he1,he2⟩:=hsB.out i hlt
   have hnc:=Lib.hid (fun h1 h2 h3=>badSide_no (a:=a) (b:=b) (i:=i) h1 h2 h3)
   have hyc:=Lib.hid (fun k hk h1=>hbad.out i hlt (badSide_cross (a:=a) (b:=b) (i:=i) (k:=k) hk h1))
   have hyo:=Lib.hid (fun h=>hbad.out i hlt (badSide_other (a:=a) (b:=b) (i:=i) h))
   generalize Cal.sd b i = s at *
   have hss : SmS s:=⟨ptErr_sm he1,ptErr_sm he2⟩
   have hwhs:=Lib.hid (hwh1.out s.a hss.a)
   have hens:=Lib.hid (hent.out s he1 he2)
   generalize hwo : wr = wo at *
   clear hwo wr
   go_wp2_with (go_at_call 68;refine (hsd1.out _ hb.out).mono ?_;rintro e w1 ⟨rfl,hb1⟩;have h6:=Lib.hid (BoxAt.new w1 #[.int .i64 s.a.x,.int .i64 s.a.y,.int .i64 s.b.x,.int .i64 s.b.y] 72);have hb2:=Lib.hid (below_step (below_step hb.out hb1) (below_alloc w1 (.cells #[.int .i64 s.a.x,.int .i64 s.a.y,.int .i64 s.b.x,.int .i64 s.b.y] 72)));clear hb1)
   generalize hwx : w1.alloc (.cells #[.int .i64 s.a.x,.int .i64 s.a.y,.int .i64 s.b.x,.int .i64 s.b.y] 72) = w2 at *
   generalize w1.heap.size = B6 at *
   clear hwx w1
   have hbm : Hid (Below w2.heap.size w2 w2):=Below.refl _ _
   go_loopw [7] (fun kv wr=>∃ k : Nat,k ≤ a.length ∧ kv = .int .i64 k ∧ Hid (∀ j,j < k → Cal.crosS s (Cal.sd a j) = false) ∧ Hid (Below w2.heap.size w2 wr)) (fun kv _=>a.length - (intOf kv).toNat)
   case atStart=>exact ⟨0,Nat.zero_le _,rfl,fun j h=>by omega,hbm⟩
   case round =>
    clear hbm
    obtain ⟨k,hk,rfl,hno,hbm⟩:=hrel
    have hbT:=Lib.hid (hb2.out.trans (hbm.out.mono hb2.out.size))
    replace h6:=Lib.hid (h6.out.below hbm.out)
    (have s0:=h6.out.c 0 _ rfl;have s1:=h6.out.c 1 _ rfl;have s2:=h6.out.c 2 _ rfl;have s3:=h6.out.c 3 _ rfl)
    by_cases hlk : k < a.length
    ·have hkk : (k : Int) < (a.length : Int):=by omega
     have hst : SmS (Cal.sd a k):=hsA.out k hlk
     have hsd2:=Lib.hid (hsdA.out k hlk)
     have hcc:=hyc.out k hlk
     generalize hta : Cal.sd a k = t at *
     replace hta:=Lib.hid hta
     have hcr:=Lib.hid (fun W=>crossesR_any s t W hss hst)
     cases hh : Cal.crosS s t
     ·rw [hh] at hcr
      have hno2 : Hid (∀ j,j < k + 1 → Cal.crosS s (Cal.sd a j) = false):=fun j hj=>by
       rcases Nat.lt_succ_iff_lt_or_eq.1 hj with h' | h'
       ·exact hno.out j h'
       ·rw [h',hta.out];exact hh
      clear hh hno hcc
      go_wp2_with fail
      refine wp_region_held_drew (S:=Sx wr [(B6,0,.int .i64 s.a.x),(B6,1,.int .i64 s.a.y),(B6,2,.int .i64 s.b.x),(B6,3,.int .i64 s.b.y)]) (by kernel_rfl) (Sx.mk (by simp only [cs_iff_cons];exact ⟨s0,s1,s2,s3,cs_nil _⟩) (Below.refl _ _)).drew (fun hHeld=>?_)
      clear s0 s1 s2 s3
      refine tkHx 0 24 ?_
      refine tkHx 1 25 ?_
      refine tkHx 2 26 ?_
      (refine ratHx 3 (fun K hK=>?_);go_simp)
      refine (hsd2.out _ (hbT.out.trans (hHeld.bel.mono hbT.out.size))).mono ?_
      rintro e wn ⟨rfl,hbn⟩
      go_simp
      (refine hK.out _ _ (hHeld.step hbn) (fun hHeld=>?_);clear hK K;(try simp only [apS,apN,siA,scZ,scS]))
      (refine ratHx 4 (fun K hK=>?_);go_simp)
      refine (hcr.out _).mono ?_
      rintro e wn ⟨rfl,hbn⟩
      go_simp
      (refine hK.out _ _ (hHeld.step hbn) (fun hHeld=>?_);clear hK K;(try simp only [apS,apN,siA,scZ,scS]))
      refine wpAnyH_done (by kernel_rfl) ?_ _
      (try simp only [apS,apN,siA,scZ,scS])
      have hbe:=Lib.hid (hbm.out.trans (hHeld.bel.mono hbm.out.size))
      clear hHeld
      go_wp2_with fail
      go_roundw
      case rel=>exact ⟨k + 1,by omega,by go_num,hno2,hbe⟩
      case measure=>simp [intOf];omega
     ·rw [hh] at hcr
      have hRf : Hid (R = false):=hcc hh
      clear hh hno hcc
      go_wp2_with fail
      refine wp_region_held_drew (S:=Sx wr [(B6,0,.int .i64 s.a.x),(B6,1,.int .i64 s.a.y),(B6,2,.int .i64 s.b.x),(B6,3,.int .i64 s.b.y)]) (by kernel_rfl) (Sx.mk (by simp only [cs_iff_cons];exact ⟨s0,s1,s2,s3,cs_nil _⟩) (Below.refl _ _)).drew (fun hHeld=>?_)
      clear s0 s1 s2 s3
      refine tkHx 0 24 ?_
      refine tkHx 1 25 ?_
      refine tkHx 2 26 ?_
      (refine ratHx 3 (fun K hK=>?_);go_simp)
      refine (hsd2.out _ (hbT.out.trans (hHeld.bel.mono hbT.out.size))).mono ?_
      rintro e wn ⟨rfl,hbn⟩
      go_simp
      (refine hK.out _ _ (hHeld.step hbn) (fun hHeld=>?_);clear hK K;(try simp only [apS,apN,siA,scZ,scS]))
      (refine ratHx 4 (fun K hK=>?_);go_simp)
      refine (hcr.out _).mono ?_
      rintro e wn ⟨rfl,hbn⟩
      go_simp
      (refine hK.out _ _ (hHeld.step hbn) (fun hHeld=>?_);clear hK K;(try simp only [apS,apN,siA,scZ,scS]))
      refine wpAnyH_done (by kernel_rfl) ?_ _
      (try simp only [apS,apN,siA,scZ,scS])
      have hbe:=Lib.hid (hbT.out.trans (hHeld.bel.mono hbT.out.size))
      clear hHeld
      go_wp2_with fail
      go_ret
      exact ⟨by rw [hRf.out];rfl,hbe.out⟩
    ·obtain rfl : k = a.length:=by omega
     have hnc2:=Lib.hid (hnc.out hno.out)
     generalize Cal.whereP a s.a = z at *
     by_cases h0 : 0 < z
     ·have hRf : Hid (R = false):=hyo.out (by rw [decide_eq_true h0];rfl)
      clear hnc2 hyo hens
      go_wp2_with (go_at_call 73;refine (hwhs.out _ hbT.out).mono ?_;rintro e w3 ⟨rfl,hb3⟩;have hbe:=Lib.hid (below_step hbT.out hb3);clear hb3 s0 s1 s2 s3)
      go_ret
      exact ⟨by rw [hRf.out];rfl,hbe.out⟩
     ·generalize Cal.entersR s a = en at *
      cases en
      ·have hdone2 : Hid (∀ j,j < i + 1 → Cal.badSide a b j = false):=fun j hj=>by
        rcases Nat.lt_succ_iff_lt_or_eq.1 hj with h' | h'
        ·exact hdone.out j h'
        ·rw [h'];exact hnc2.out (by omega) rfl
       clear hnc2 hyo hdone
       go_wp2_with (first
        |(go_at_call 73;refine (hwhs.out _ hbT.out).mono ?_;clear hwhs;rintro e w3 ⟨rfl,hb3⟩;have hbe:=Lib.hid (below_step hbT.out hb3);replace h6:=Lib.hid (h6.out.below hb3);clear hb3 s0 s1 s2 s3;(have s0:=h6.out.c 0 _ rfl;have s1:=h6.out.c 1 _ rfl;have s2:=h6.out.c 2 _ rfl;have s3:=h6.out.c 3 _ rfl))
        |(go_at_call 74;refine (hens.out _ hbe.out).mono ?_;clear hens;rintro e w4 ⟨rfl,hb4⟩;have hbf:=Lib.hid (below_step hbe.out hb4);clear hb4 s0 s1 s2 s3))
       go_roundw
       case rel=>exact ⟨i + 1,by omega,by go_num,hdone2,hbf⟩
       case measure=>simp [intOf];omega
      ·have hRf : Hid (R = false):=hyo.out (by rw [Bool.or_true])
       clear hnc2 hyo hdone
       go_wp2_with (first
        |(go_at_call 73;refine (hwhs.out _ hbT.out).mono ?_;clear hwhs;rintro e w3 ⟨rfl,hb3⟩;have hbe:=Lib.hid (below_step hbT.out hb3);replace h6:=Lib.hid (h6.out.below hb3);clear hb3 s0 s1 s2 s3;(have s0:=h6.out.c 0 _ rfl;have s1:=h6.out.c 1 _ rfl;have s2:=h6.out.c 2 _ rfl;have s3:=h6.out.c 3 _ rfl))
        |(go_at_call 74;refine (hens.out _ hbe.out).mono ?_;clear hens;rintro e w4 ⟨rfl,hb4⟩;have hbf:=Lib.hid (below_step hbe.out hb4);clear hb4 s0 s1 s2 s3))
       go_ret
       exact ⟨by rw [hRf.out];rfl,hbf.out⟩
  ·obtain rfl : i = b.length:=by omega
   have hRe:=hfine.out hdone.out
   have h0T : 0 < (Cal.trisOf a).length:=List.length_pos_of_mem hft.out
   have hf0 : Cal.firstTri a = (Cal.trisOf a)[0]:=by unfold Cal.firstTri;rw [List.getElem?_eq_getElem h0T];rfl
   have htr2 : Hid (∀ W,Below w.heap.size w W → Calls Try.prog 75 #[.slice V a.length d] W fun e w'=>∃ b9 o9 c9 g x y z,e = .returned (.slice (some ⟨b9,o9,none⟩) (Cal.trisOf a).length c9) ∧ b9 < w'.heap.size ∧ w'.cell? ⟨b9,o9,none⟩ = some (.slice (some ⟨g,0,none⟩) 3 3) ∧ (Cal.trisOf a)[0] = [x,y,z] ∧ Pts w' (some ⟨g,0,none⟩) [x,y,z] ∧ (x ∈ a ∧ y ∈ a ∧ z ∈ a) ∧ Below W.heap.size W w'):=fun W hW=>by
    refine (htr.out W hW).mono ?_
    rintro e w' ⟨v,gs,rfl,hT,hb'⟩
    obtain ⟨A9,c9,rfl,hr9⟩:=hT.read
    obtain ⟨b9,o9,g,x,y,z,rfl,hb9,hc9,he9,_,_,_,hp9⟩:=hr9.tri hmem.out hsa'.out h0T
    obtain ⟨x',y',z',e2,h1,h2,h3⟩:=hmem.out _ (List.getElem_mem h0T)
    rw [he9] at e2
    simp only [List.cons.injEq,and_true] at e2
    obtain ⟨rfl,rfl,rfl⟩:=e2
    exact ⟨b9,o9,c9,g,x,y,z,rfl,hb9,hc9,he9,hp9,⟨h1,h2,h3⟩,hb'⟩
   have hlT : (0 : Int) < ((Cal.trisOf a).length : Int):=by omega
   have hlT2 : (Cal.trisOf a).length ≤ 1000000:=Nat.le_trans (trisR_len _ _) (by omega)
   rw [hf0] at hRe
   clear hfine hdone htr hft hf0 hent hwh1 hsdA hsdB hbad hsA hsB
   obtain ⟨T0,hT0⟩ : ∃ T,(Cal.trisOf a)[0] = T:=⟨_,rfl⟩
   simp only [hT0] at hRe htr2
   clear hT0 hmem h0T
   generalize (Cal.trisOf a).length = lT at *
   go_wp2_with (go_at_call 75;refine (htr2.out _ hb.out).mono ?_;clear htr2;rintro e w3 ⟨b9,o9,c9,g,x,y,z,rfl,hb9,hc9,rfl,hp9,⟨hx,hy,hz⟩,hb3⟩;have hbe:=Lib.hid (below_step hb.out hb3);clear hb3)
   obtain ⟨b8,o8,hA8,_,x0,x1⟩:=pts_at hp9.rows (k:=0) (q:=x) rfl
   cases hA8
   obtain ⟨b8,o8,hA8,_,y0,y1⟩:=pts_at hp9.rows (k:=1) (q:=y) rfl
   cases hA8
   obtain ⟨b8,o8,hA8,_,z0,z1⟩:=pts_at hp9.rows (k:=2) (q:=z) rfl
   cases hA8
   have bx:=ptErr_box (hia'.out x hx)
   have by':=ptErr_box (hia'.out y hy)
   have bz:=ptErr_box (hia'.out z hz)
   simp only [Nat.zero_mul,Nat.add_zero,Nat.zero_add,Nat.one_mul,Nat.reduceMul] at x0 x1 y0 y1 z0 z1
   have f1 : IntKind.i64.wrap (x.x + y.x) = x.x + y.x:=wrap_small (by omega) (by omega)
   have f1b : wrap64 (x.x + y.x) = x.x + y.x:=by rw [← wrap_eq];exact f1
   have f2 : IntKind.i64.wrap (x.x + y.x + z.x) = x.x + y.x + z.x:=wrap_small (by omega) (by omega)
   have f2b : wrap64 (x.x + y.x + z.x) = x.x + y.x + z.x:=by rw [← wrap_eq];exact f2
   have f3 : IntKind.i64.wrap (x.y + y.y) = x.y + y.y:=wrap_small (by omega) (by omega)
   have f3b : wrap64 (x.y + y.y) = x.y + y.y:=by rw [← wrap_eq];exact f3
   have f4 : IntKind.i64.wrap (x.y + y.y + z.y) = x.y + y.y + z.y:=wrap_small (by omega) (by omega)
   have f4b : wrap64 (x.y + y.y + z.y) = x.y + y.y + z.y:=by rw [← wrap_eq];exact f4
   have hms : SmP ⟨x.x + y.x + z.x,x.y + y.y + z.y⟩:=⟨by dsimp only;omega,by dsimp only;omega,by dsimp only;omega,by dsimp only;omega⟩
   have hwh:=Lib.hid (fun A c W hp=>WhereR_any A c (Cal.mulP 3 b) ⟨x.x + y.x + z.x,x.y + y.y + z.y⟩ W hp hms (by rw [Cal.mul_length];omega))
   replace hRe : Hid (R = decide (0 < Cal.whereP (Cal.mulP 3 b) ⟨x.x + y.x + z.x,x.y + y.y + z.y⟩)):=hRe
   generalize Cal.whereP (Cal.mulP 3 b) ⟨x.x + y.x + z.x,x.y + y.y + z.y⟩ = q at *
   clear bx by' bz hms hp9 hx hy hz
   go_wp2_with fail
   refine wp_region_held_drew (S:=Sx w3 [(g,0,.int .i64 x.x),(g,1,.int .i64 x.y),(g,2,.int .i64 y.x),(g,3,.int .i64 y.y),(g,4,.int .i64 z.x),(g,5,.int .i64 z.y)]) (by kernel_rfl) (Sx.mk (by simp only [cs_iff_cons];exact ⟨x0,x1,y0,y1,z0,z1,cs_nil _⟩) (Below.refl _ _)).drew (fun hHeld=>?_)
   clear x0 x1 y0 y1 z0 z1
   refine tkHx 0 43 ?_
   refine tkHx 2 45 ?_
   refine tkHx 3 46 ?_
   refine tkHx 4 47 ?_
   refine tkHx 5 48 ?_
   refine tkHx 6 49 ?_
   refine tkHx 7 50 ?_
   refine tkHx 8 51 ?_
   refine tkHx 9 52 ?_
   refine tkHx 10 53 ?_
   refine tkHx 11 54 ?_
   refine tkHx 12 55 ?_
   refine tkHx 13 56 ?_
   refine tkHx 14 57 ?_
   refine tkHx 15 58 ?_
   refine tkHx 16 59 ?_
   refine tkHx 17 60 ?_
   refine tkHx 18 61 ?_
   refine tkHx 19 62 ?_
   refine tkHx 20 63 ?_
   refine tkHx 21 64 ?_
   refine tkHx 22 65 ?_
   refine tkHx 23 66 ?_
   refine tkHx 24 67 ?_
   refine tkHx 25 68 ?_
   refine tkHx 26 69 ?_
   refine tkHx 27 70 ?_
   refine tkHx 28 71 ?_
   refine tkHx 29 72 ?_
   refine tkHx 30 73 ?_
   (refine ratHx 1 (fun K hK=>?_);go_simp)
   refine (hti.out _ (hbe.out.trans (hHeld.bel.mono hbe.out.size))).mono ?_
   rintro e wn ⟨A9,c9',rfl,hp9,hbn⟩
   go_simp
   (refine hK.out _ _ (hHeld.step hbn) (fun hHeld=>?_);clear hK K;(try simp only [apS,apN,siA,scZ,scS]))
   (refine ratHx 31 (fun K hK=>?_);go_simp)
   refine (hwh.out A9 c9' _ hp9).mono ?_
   rintro e wm ⟨rfl,hbm⟩
   go_simp
   (refine hK.out _ _ (hHeld.step hbm) (fun hHeld=>?_);clear hK K;(try simp only [apS,apN,siA,scZ,scS]))
   refine tkHx 32 75 ?_
   refine tkHx 33 4 ?_
   refine wpAnyH_done (by kernel_rfl) ?_ _
   (try simp only [apS,apN,siA,scZ,scS])
   have hbf:=Lib.hid (hbe.out.trans (hHeld.bel.mono hbe.out.size))
   clear hHeld
   go_wp2_with fail
   go_ret
   exact ⟨by rw [hRe.out];rfl,hbf.out⟩
end Go.Proofs.Ythfokpchdlcidaa
namespace Go.Proofs.Ythfokpchdlcidaa
open Go Go.RowKit Go.Shelf
theorem over_same {a b : List Pt} (ha : Cal.polyE a = 0) (hb : Cal.polyE b = 0) : Cal.overR a b = Cal.overlapP a b:=by
 rw [Bool.eq_iff_iff,Cal.overR_over (Cal.goodP_of ha) (Cal.goodP_of hb),Cal.overlap_over ha hb]
theorem within_same {a b : List Pt} (ha : Cal.polyE a = 0) (hb : Cal.polyE b = 0) : Cal.withinR a b = Cal.withinP a b:=by
 rw [Bool.eq_iff_iff,Cal.withinR_in ha hb,Cal.within_in ha hb]
def ovB (p : Plo) (q : Plo) : Bool:=Cal.overlapP q.ps p.ps
theorem plotE_4 {sec : List Pt} {bf : List Plo} {p : Plo} (h1 : nameB p.name = false) : plotE sec bf p = ((bf.length : Int),4):=by
 unfold plotE;rw [h1];rfl
theorem plotE_5 {sec : List Pt} {bf : List Plo} {p : Plo} (h1 : nameB p.name = true) (h2 : (bf.any fun q=>sameN q p) = true) : plotE sec bf p = ((bf.length : Int),5):=by
 unfold plotE;rw [if_pos h1,if_pos h2]
theorem plotE_6 {sec : List Pt} {bf : List Plo} {p : Plo} (h1 : nameB p.name = true) (h2 : (bf.any fun q=>sameN q p) = false) (h3 : Cal.polyE p.ps ≠ 0) : plotE sec bf p = ((bf.length : Int),Cal.polyE p.ps):=by
 unfold plotE;rw [if_pos h1,h2,if_neg (by decide),if_neg h3]
theorem plotE_7 {sec : List Pt} {bf : List Plo} {p : Plo} (h1 : nameB p.name = true) (h2 : (bf.any fun q=>sameN q p) = false) (h3 : Cal.polyE p.ps = 0) (h4 : Cal.withinP p.ps sec = false) : plotE sec bf p = ((bf.length : Int),2):=by
 unfold plotE;rw [if_pos h1,h2,if_neg (by decide),if_pos h3,h4,if_neg (by decide)]
theorem plotE_13 {sec : List Pt} {bf : List Plo} {p : Plo} (h1 : nameB p.name = true) (h2 : (bf.any fun q=>sameN q p) = false) (h3 : Cal.polyE p.ps = 0) (h4 : Cal.withinP p.ps sec = true) {j : Nat} {q : Plo} (hj : bf[j]? = some q) (h5 : (bf.take j).any (ovB p) = false) (h6 : ovB p q = true) : plotE sec bf p = ((j : Int),13):=by
 have : idxP (fun q=>Cal.overlapP q.ps p.ps) bf = j:=idxP_at hj h5 h6
 unfold plotE;rw [if_pos h1,h2,if_neg (by decide),if_pos h3,if_pos h4,this,if_neg (by omega)]
theorem plotE_0 {sec : List Pt} {bf : List Plo} {p : Plo} (h1 : nameB p.name = true) (h2 : (bf.any fun q=>sameN q p) = false) (h3 : Cal.polyE p.ps = 0) (h4 : Cal.withinP p.ps sec = true) (h5 : bf.any (ovB p) = false) : plotE sec bf p = (0,0):=by
 have : idxP (fun q=>Cal.overlapP q.ps p.ps) bf = -1:=idxP_no h5
 unfold plotE;rw [if_pos h1,h2,if_neg (by decide),if_pos h3,if_pos h4,this,if_pos (by omega)]
structure CdI (w : World) (s : Sct) (p : Plo) (k : Nat) (B : Nat) (W : World) : Prop where
 cs : CsI w s W
 b6 : BoxAt W B [.string p.name,.slice p.V p.ps.length p.d]
 b7 : BoxAt W (B + 1) [.int .i64 k,.int .i64 k]
theorem CdI.below {w : World} {s : Sct} {p : Plo} {k B : Nat} {X Y : World} (h : CdI w s p k B X) (hb : Below X.heap.size X Y) : CdI w s p k B Y:=⟨h.cs.below hb,h.b6.below hb,h.b7.below hb⟩
theorem any_take_succ {g : Plo → Bool} {l : List Plo} {j : Nat} {q : Plo} (hj : l[j]? = some q) (h : (l.take j).any g = false) (hq : g q = false) : (l.take (j + 1)).any g = false:=by
 obtain ⟨hlt,rfl⟩:=List.getElem?_eq_some_iff.1 hj
 rw [List.take_succ_eq_append_getElem hlt,List.any_append,h]
 simpa using hq
theorem any_take_hit {g : Plo → Bool} {l : List Plo} {j k : Nat} {q : Plo} (hj : l[j]? = some q) (hk : j < k) (hq : g q = true) : (l.take k).any g = true :=
 List.any_eq_true.2 ⟨q,List.mem_of_getElem? (i:=j) (by rw [List.getElem?_take_of_lt hk];exact hj),hq⟩
end Go.Proofs.Ythfokpchdlcidaa
namespace Go.Proofs.Ythfokpchdlcidaa
open Go Go.RowKit Go.Shelf
theorem few2_any (V : Option Addr) (n d : Nat) (w : World) : Calls Try.prog 45 #[.slice V n d] w fun e w'=>e = .returned (.bool (fewL n)) ∧ Below w.heap.size w w':=by
 by_cases hn : n ≤ 1000000
 ·exact few_any V n d w hn
 ·have hf : Hid (fewL n = false):=by show _ = _;unfold fewL;rw [decide_eq_false (by omega),decide_eq_false (by omega : ¬ n ≤ 60)];simp
  have hi : ¬ (n : Int) ≤ 10:=by omega
  have hi2 : (40 : Int) < n:=by omega
  have hi3 : ¬ (n : Int) ≤ 60:=by omega
  go_enter Try.func45,Try.ntmps45
  go_wp2_with fail
  go_ret
  exact ⟨by rw [hf.out];rfl,blw⟩
theorem fewL_le {n : Nat} (h : fewL n = true) : n ≤ 60:=by
 unfold fewL at h
 rw [Bool.or_eq_true,Bool.and_eq_true,decide_eq_true_iff,decide_eq_true_iff,decide_eq_true_iff] at h
 omega
theorem ptsR_of {w : World} {V : Option Addr} {ps : List Pt} (h : RowsAt w V 2 (ps.map ptR)) (hl : ps.length ≤ 1000000) : PtsR w V ps :=
 ⟨h,hl,fun ad e h0=>by
  obtain ⟨b,o,hA,hb,_⟩:=h 0 (ptR ps[0]) (by simp [h0])
  rw [e] at hA
  cases hA
  exact hb⟩
end Go.Proofs.Ythfokpchdlcidaa
namespace Go.Proofs.Ythfokpchdlcidaa
namespace Cal
open Geo (RP at' Pos In Out Off Near)
section
variable {a b : List Pt}
theorem where_three (ha : polyE a = 0) (q : Pt) : whereP a q = 1 ∨ whereP a q = 0 ∨ whereP a q = -1:=by
 obtain ⟨hp,hne⟩:=polyE_pos ha
 obtain ⟨h1,h2,h3⟩:=where_pos hp hne q
 by_cases ho : Off a.length (ring a) (rp q)
 ·rcases hp.two ho with h | h
  ·exact Or.inl (h1.2 h)
  ·exact Or.inr (Or.inr (h3.2 h))
 ·exact Or.inr (Or.inl (h2.2 ho))
theorem where_near (ha : polyE a = 0) {q : Pt} (h : 0 ≤ whereP a q) {e : Rat} (he : 0 < e) : ∃ r,Near e (rp q) r ∧ In a.length (ring a) r:=by
 obtain ⟨hp,hne⟩:=polyE_pos ha
 obtain ⟨h1,h2,h3⟩:=where_pos hp hne q
 rcases where_three ha q with k | k | k
 ·exact ⟨rp q,Geo.Near.self he _,h1.1 k⟩
 ·have hn:=h2.1 k
  obtain ⟨i,l,hi,l0,l1,e1⟩ : ∃ i l,i < a.length ∧ 0 ≤ l ∧ l ≤ 1 ∧ rp q = at' (ring a i) (ring a (i + 1)) l:=by
   refine Classical.byContradiction fun hno=>hn fun i l hi l0 l1 e1=>hno ⟨i,l,hi,l0,l1,e1⟩
  rw [e1]
  exact hp.border_in hi l0 l1 he
 ·omega
theorem within_where (ha : polyE a = 0) (hb : polyE b = 0) (hw : withinP a b = true) (q : Pt) : (whereP b q < 0 → whereP a q < 0) ∧ (0 < whereP a q → whereP b q = 1):=by
 have hW:=(within_in ha hb).1 hw
 obtain ⟨hpa,hna⟩:=polyE_pos ha
 obtain ⟨hpb,hnb⟩:=polyE_pos hb
 obtain ⟨a1,_,_⟩:=where_pos hpa hna q
 obtain ⟨b1,_,b3⟩:=where_pos hpb hnb q
 constructor
 ·intro h
  refine Int.not_le.1 fun h0=>?_
  have ho : Out b.length (ring b) (rp q):=b3.1 (by rcases where_three hb q with k | k | k <;> omega)
  obtain ⟨e,he,hne⟩:=ho.near hpb.sim
  obtain ⟨r,hr,hin⟩:=where_near ha h0 he
  exact (hW r hin).not_out (hne r hr)
 ·intro h
  exact b1.2 (hW _ (a1.1 (by rcases where_three ha q with k | k | k <;> omega)))
theorem apart_where (ha : polyE a = 0) (hb : polyE b = 0) (ho : overlapP a b = false) {q : Pt} (h : 0 < whereP a q) : whereP b q < 0:=by
 refine Int.not_le.1 fun h0=>?_
 obtain ⟨hpa,hna⟩:=polyE_pos ha
 obtain ⟨a1,_,_⟩:=where_pos hpa hna q
 have hi : In a.length (ring a) (rp q):=a1.1 (by rcases where_three ha q with k | k | k <;> omega)
 obtain ⟨e,he,hne⟩:=hi.near hpa.sim
 obtain ⟨r,hr,hin⟩:=where_near hb h0 he
 have:=(overlap_over ha hb).2 ⟨r,hne r hr,hin⟩
 rw [this] at ho
 cases ho
theorem overlap_symm (ha : polyE a = 0) (hb : polyE b = 0) : overlapP a b = overlapP b a:=by
 rw [Bool.eq_iff_iff,overlap_over ha hb,overlap_over hb ha]
 exact ⟨Geo.Over.symm,Geo.Over.symm⟩
end
end Cal
end Go.Proofs.Ythfokpchdlcidaa
namespace Go.Proofs.Ythfokpchdlcidaa
open Go Go.RowKit Go.Shelf
structure SmallF (s : Sct) : Prop where
 name : s.name.size ≤ 30
 few : fewL s.ps.length = true
 plots : s.l.length ≤ 4 ∨ 60 < s.l.length ∧ s.l.length ≤ 70
 each : ∀ p ∈ s.l,p.name.size ≤ 30 ∧ fewL p.ps.length = true
def SmallQ (s : Sct) (w : World) (e : Ending) (w' : World) : Prop:=∃ b,e = .returned (.bool b) ∧ (b = true → SmallF s) ∧ Below w.heap.size w w'
theorem Small_any (s : Sct) (w : World) (hR : RowsAt w s.S 2 (s.l.map Plo.cells)) :
  Calls Try.prog 15 #[.agg #[.string s.name,.slice s.V s.ps.length s.d,.slice s.S s.l.length s.e]] w fun e w'=>SmallQ s w e w':=by
 have hI : Hid (GpI w s (w.alloc (.cells #[.string s.name,.slice s.V s.ps.length s.d,.slice s.S s.l.length s.e] 38))):=⟨BoxAt.new w #[.string s.name,.slice s.V s.ps.length s.d,.slice s.S s.l.length s.e] 38,below_alloc _ _⟩
 have hrows:=Lib.hid hR
 clear hR
 obtain ⟨nm,V,d,ps,S,e,l⟩:=s
 dsimp only at *
 have hf:=Lib.hid (fun W=>few2_any V ps.length d W)
 (have a0:=hI.out.a.c 0 _ rfl;have a1:=hI.out.a.c 1 _ rfl;have a2:=hI.out.a.c 2 _ rfl)
 by_cases z1 : 30 < (nm.size : Int)
 ·go_enter Try.func15,Try.ntmps15
  go_wp2_with fail
  go_ret
  exact ⟨false,rfl,fun h=>(by cases h),hI.out.bel⟩
 cases hx : fewL ps.length
 ·rw [hx] at hf
  go_enter Try.func15,Try.ntmps15
  go_wp2_with (go_at_call 45;clear a0 a1 a2;refine (hf.out _).mono ?_;rintro e0 wm ⟨rfl,hbn⟩;replace hI:=Lib.hid (hI.out.below hbn);clear hbn;(have a0:=hI.out.a.c 0 _ rfl;have a1:=hI.out.a.c 1 _ rfl;have a2:=hI.out.a.c 2 _ rfl))
  go_ret
  exact ⟨false,rfl,fun h=>(by cases h),hI.out.bel⟩
 rw [hx] at hf
 have hf0:=Lib.hid hx
 clear hx
 by_cases z2 : 4 < (l.length : Int)
 ·by_cases z3 : (l.length : Int) ≤ 60
  ·go_enter Try.func15,Try.ntmps15
   go_wp2_with (go_at_call 45;clear a0 a1 a2;refine (hf.out _).mono ?_;rintro e0 wm ⟨rfl,hbn⟩;replace hI:=Lib.hid (hI.out.below hbn);clear hbn;(have a0:=hI.out.a.c 0 _ rfl;have a1:=hI.out.a.c 1 _ rfl;have a2:=hI.out.a.c 2 _ rfl))
   go_ret
   exact ⟨false,rfl,fun h=>(by cases h),hI.out.bel⟩
  ·by_cases z4 : 70 < (l.length : Int)
   ·go_enter Try.func15,Try.ntmps15
    go_wp2_with (go_at_call 45;clear a0 a1 a2;refine (hf.out _).mono ?_;rintro e0 wm ⟨rfl,hbn⟩;replace hI:=Lib.hid (hI.out.below hbn);clear hbn;(have a0:=hI.out.a.c 0 _ rfl;have a1:=hI.out.a.c 1 _ rfl;have a2:=hI.out.a.c 2 _ rfl))
    go_ret
    exact ⟨false,rfl,fun h=>(by cases h),hI.out.bel⟩
   ·have hpl : Hid (l.length ≤ 4 ∨ 60 < l.length ∧ l.length ≤ 70):=Or.inr ⟨by omega,by omega⟩
    have z5 : l.length ≤ 70:=by omega
    go_enter Try.func15,Try.ntmps15
    go_wp2_with (go_at_call 45;clear a0 a1 a2;refine (hf.out _).mono ?_;rintro e0 wm ⟨rfl,hbn⟩;replace hI:=Lib.hid (hI.out.below hbn);clear hbn;(have a0:=hI.out.a.c 0 _ rfl;have a1:=hI.out.a.c 1 _ rfl;have a2:=hI.out.a.c 2 _ rfl))
    clear a0 a1 a2
    go_loopw [3] (fun i wr=>∃ k : Nat,k ≤ l.length ∧ i = .int .i64 k ∧ Hid (∀ j (h : j < l.length),j < k → l[j].name.size ≤ 30 ∧ fewL l[j].ps.length = true) ∧ Hid (GpI w _ wr)) (fun i _=>l.length - (intOf i).toNat)
    case atStart=>exact ⟨0,Nat.zero_le _,rfl,fun j h h'=>absurd h' (Nat.not_lt_zero _),hI⟩
    case round =>
     clear hI
     obtain ⟨k,hk,rfl,hdone,hI⟩:=hrel
     (have a0:=hI.out.a.c 0 _ rfl;have a1:=hI.out.a.c 1 _ rfl;have a2:=hI.out.a.c 2 _ rfl)
     by_cases hlt : k < l.length
     ·have hk' : l[k]? = some l[k]:=List.getElem?_eq_getElem hlt
      have hnext:=Lib.hid (fun (h1 : l[k].name.size ≤ 30 ∧ fewL l[k].ps.length = true) j (h : j < l.length) (h2 : j < k + 1)=>show l[j].name.size ≤ 30 ∧ fewL l[j].ps.length = true by
       rcases Nat.lt_succ_iff_lt_or_eq.1 h2 with h3 | h3
       ·exact hdone.out j h h3
       ·subst h3;exact h1)
      have hkk : (k : Int) < (l.length : Int):=by omega
      generalize l[k] = p at *
      obtain ⟨b,o,rfl,hbl,c0,c1⟩:=plo_at (hrows.out.below hI.out.bel) hk'
      have hf2:=Lib.hid (fun W=>few2_any p.V p.ps.length p.d W)
      by_cases z1 : p.name.size ≤ 30
      ·have z2 : ¬ 30 < (p.name.size : Int):=by omega
       cases hx : fewL p.ps.length
       ·rw [hx] at hf2
        clear hk' hnext
        go_wp2_with (go_at_call 45;clear a0 a1 a2;refine (hf2.out _).mono ?_;rintro e0 wm ⟨rfl,hbn⟩;replace hI:=Lib.hid (hI.out.below hbn);clear hbn)
        go_ret
        exact ⟨false,rfl,fun h=>(by cases h),hI.out.bel⟩
       ·rw [hx] at hf2
        have hnx:=Lib.hid (hnext.out ⟨z1,hx⟩)
        clear hk' hnext
        go_wp2_with (go_at_call 45;clear a0 a1 a2;refine (hf2.out _).mono ?_;rintro e0 wm ⟨rfl,hbn⟩;replace hI:=Lib.hid (hI.out.below hbn);clear hbn)
        go_roundw
        case rel=>exact ⟨k + 1,by omega,by go_num,hnx,hI⟩
        case measure=>simp [intOf];omega
      ·have z2 : 30 < (p.name.size : Int):=by omega
       clear hk' hnext
       go_wp2_with fail
       go_ret
       exact ⟨false,rfl,fun h=>(by cases h),hI.out.bel⟩
     ·obtain rfl : k = l.length:=by omega
      go_wp2_with fail
      go_ret
      refine ⟨true,?_,fun _=>?_,hI.out.bel⟩
      ·rfl
      exact ⟨by show nm.size ≤ 30;omega,hf0.out,hpl.out,fun p hp=>by
       obtain ⟨j,hj,rfl⟩:=List.getElem_of_mem hp
       exact hdone.out j hj hj⟩
 ·have hpl : Hid (l.length ≤ 4 ∨ 60 < l.length ∧ l.length ≤ 70):=Or.inl (by omega)
  have z4 : ¬ 70 < (l.length : Int):=by omega
  have z5 : l.length ≤ 70:=by omega
  go_enter Try.func15,Try.ntmps15
  go_wp2_with (go_at_call 45;clear a0 a1 a2;refine (hf.out _).mono ?_;rintro e0 wm ⟨rfl,hbn⟩;replace hI:=Lib.hid (hI.out.below hbn);clear hbn;(have a0:=hI.out.a.c 0 _ rfl;have a1:=hI.out.a.c 1 _ rfl;have a2:=hI.out.a.c 2 _ rfl))
  clear a0 a1 a2
  go_loopw [3] (fun i wr=>∃ k : Nat,k ≤ l.length ∧ i = .int .i64 k ∧ Hid (∀ j (h : j < l.length),j < k → l[j].name.size ≤ 30 ∧ fewL l[j].ps.length = true) ∧ Hid (GpI w _ wr)) (fun i _=>l.length - (intOf i).toNat)
  case atStart=>exact ⟨0,Nat.zero_le _,rfl,fun j h h'=>absurd h' (Nat.not_lt_zero _),hI⟩
  case round =>
   clear hI
   obtain ⟨k,hk,rfl,hdone,hI⟩:=hrel
   (have a0:=hI.out.a.c 0 _ rfl;have a1:=hI.out.a.c 1 _ rfl;have a2:=hI.out.a.c 2 _ rfl)
   by_cases hlt : k < l.length
   ·have hk' : l[k]? = some l[k]:=List.getElem?_eq_getElem hlt
    have hnext:=Lib.hid (fun (h1 : l[k].name.size ≤ 30 ∧ fewL l[k].ps.length = true) j (h : j < l.length) (h2 : j < k + 1)=>show l[j].name.size ≤ 30 ∧ fewL l[j].ps.length = true by
     rcases Nat.lt_succ_iff_lt_or_eq.1 h2 with h3 | h3
     ·exact hdone.out j h h3
     ·subst h3;exact h1)
    have hkk : (k : Int) < (l.length : Int):=by omega
    generalize l[k] = p at *
    obtain ⟨b,o,rfl,hbl,c0,c1⟩:=plo_at (hrows.out.below hI.out.bel) hk'
    have hf2:=Lib.hid (fun W=>few2_any p.V p.ps.length p.d W)
    by_cases z1 : p.name.size ≤ 30
    ·have z2 : ¬ 30 < (p.name.size : Int):=by omega
     cases hx : fewL p.ps.length
     ·rw [hx] at hf2
      clear hk' hnext
      go_wp2_with (go_at_call 45;clear a0 a1 a2;refine (hf2.out _).mono ?_;rintro e0 wm ⟨rfl,hbn⟩;replace hI:=Lib.hid (hI.out.below hbn);clear hbn)
      go_ret
      exact ⟨false,rfl,fun h=>(by cases h),hI.out.bel⟩
     ·rw [hx] at hf2
      have hnx:=Lib.hid (hnext.out ⟨z1,hx⟩)
      clear hk' hnext
      go_wp2_with (go_at_call 45;clear a0 a1 a2;refine (hf2.out _).mono ?_;rintro e0 wm ⟨rfl,hbn⟩;replace hI:=Lib.hid (hI.out.below hbn);clear hbn)
      go_roundw
      case rel=>exact ⟨k + 1,by omega,by go_num,hnx,hI⟩
      case measure=>simp [intOf];omega
    ·have z2 : 30 < (p.name.size : Int):=by omega
     clear hk' hnext
     go_wp2_with fail
     go_ret
     exact ⟨false,rfl,fun h=>(by cases h),hI.out.bel⟩
   ·obtain rfl : k = l.length:=by omega
    go_wp2_with fail
    go_ret
    refine ⟨true,?_,fun _=>?_,hI.out.bel⟩
    ·rfl
    exact ⟨by show nm.size ≤ 30;omega,hf0.out,hpl.out,fun p hp=>by
     obtain ⟨j,hj,rfl⟩:=List.getElem_of_mem hp
     exact hdone.out j hj hj⟩
end Go.Proofs.Ythfokpchdlcidaa
namespace Go.Proofs.Ythfokpchdlcidaa
namespace Geo
structure Whole (M : Int) (p : Nat × (Nat → RP)) : Prop where
 per : p.2 p.1 = p.2 0
 int : ∀ i,i ≤ p.1 → ∃ y : Int,(p.2 i).y = y ∧ -M ≤ y ∧ y < M
theorem Whole.cor {M : Int} {p : Nat × (Nat → RP)} (h : Whole M p) (k : Nat) : ∀ i,i ≤ p.1 → (p.2 i).y ≠ slab M k:=fun i hi e=>by
 obtain ⟨y,ey,_,_⟩:=h.int i hi
 rw [ey] at e
 exact slab_off M y k e
section
variable {K : Rat} (hK : 0 < K)
include hK
end
end Geo
end Go.Proofs.Ythfokpchdlcidaa
namespace Go.Proofs.Ythfokpchdlcidaa
open Go Go.RowKit Go.Shelf
structure SctO (w : World) (s : Sct) : Prop where
 nm : s.name.size ≤ maxLen
 rows : RowsAt w s.V 2 (s.ps.map ptR)
 capp : s.ps.length ≤ s.d
 prow : RowsAt w s.S 2 (s.l.map Plo.cells)
 cap : s.l.length ≤ s.e
 each : ∀ p ∈ s.l,RowsAt w p.V 2 (p.ps.map ptR) ∧ p.ps.length ≤ p.d ∧ p.name.size ≤ maxLen
theorem few_of {ps : List Pt} (h : fewL ps.length = true) : few ps:=by
 unfold fewL at h
 unfold few
 simp at h
 omega
theorem SctO.sct {w : World} {s : Sct} (h : SctO w s) (hf : SmallF s) : SctR w s :=
 ⟨h.nm,ptsR_of h.rows (by have:=fewL_le hf.few;omega),few_of hf.few,⟨h.prow,by have:=hf.plots;omega,fun p hp=>ptsR_of (h.each p hp).1 (by have:=fewL_le (hf.each p hp).2;omega),fun p hp=>(h.each p hp).2.2⟩,h.cap,fun p hp=>few_of (hf.each p hp).2⟩
theorem idxP_neg {g : Plo → Bool} {l : List Plo} (h : l.any g = false) : ∀ q ∈ l,g q = false:=fun q hq=>by
 cases hg : g q
 ·rfl
 ·rw [List.any_eq_true.2 ⟨q,hq,hg⟩] at h;cases h
end Go.Proofs.Ythfokpchdlcidaa
namespace Go.Proofs.Ythfokpchdlcidaa
open Go Go.RowKit Go.ChangeShapes Go.WideShapes Go.Deep
section
variable {H : Type} {enc : TypeId × Value → H} {w : World} {spare : Nat → Bool} {held : Bool} {r : Reach} {b0 : Nat} {v : Value} {d : DataW H} {ps : List MemPlace}
theorem pts_of_trod {fuel : Nat} {x : DataW H × List MemPlace} (hf : DataW.trod enc Try.prog w 0 spare held fuel 35 [v] = some x) :
  ∃ (A : Option Addr) (l : List Pt) (c : Nat),v = .slice A l.length c ∧ RowsAt w A 2 (l.map ptR) ∧ l.length ≤ c:=by
 obtain ⟨A,len,cap,hcs,hlen,hq⟩:=rows_of_open Try.underlying35 Try.underlying40 (by kernel_rfl) (by kernel_rfl) (by decide) hf
 have he : v = .slice A len cap:=by simpa using hcs
 subst he
 have h1 : ∀ i,i < len → ∃ p : Pt,∃ b o,A = some ⟨b,o,none⟩ ∧ b < w.heap.size ∧ ∀ j v,(ptR p)[j]? = some v → w.cell? ⟨b,o + (i * 2 + j),none⟩ = some v:=fun i hi=>by
  obtain ⟨b,o,n,hA,hb,hf⟩:=hq i hi
  obtain ⟨v0,y0,c0,t0⟩:=hf 0 _ rfl
  obtain ⟨v1,y1,c1,t1⟩:=hf 1 _ rfl
  obtain ⟨s0,e0,_,_⟩:=DataW.trod_int Try.underlying3 t0
  obtain ⟨s1,e1,_,_⟩:=DataW.trod_int Try.underlying3 t1
  cases e0;cases e1
  refine ⟨⟨s0,s1⟩,b,o,hA,hb,fun j v hv=>?_⟩
  match j,hv with
  | 0,hv=>cases hv;exact c0
  | 1,hv=>cases hv;exact c1
  | j + 2,hv=>simp [ptR] at hv
 obtain ⟨l,hl,hq'⟩:=list_of len h1
 subst hl
 refine ⟨A,l,cap,rfl,fun k r hr=>?_,hlen⟩
 rw [List.getElem?_map] at hr
 cases hk : l[k]? with
 | none=>rw [hk] at hr;cases hr
 | some p=>rw [hk] at hr;cases hr;exact hq' k p hk
theorem plots_of_trod {fuel : Nat} {x : DataW H × List MemPlace} (hf : DataW.trod enc Try.prog w 0 spare held fuel 36 [v] = some x) :
  ∃ (A : Option Addr) (l : List Plo) (c : Nat),v = .slice A l.length c ∧ RowsAt w A 2 (l.map Plo.cells) ∧ l.length ≤ c ∧ ∀ p ∈ l,RowsAt w p.V 2 (p.ps.map ptR) ∧ p.ps.length ≤ p.d ∧ p.name.size ≤ maxLen:=by
 obtain ⟨A,len,cap,hcs,hlen,hq⟩:=rows_of_open Try.underlying36 Try.underlying48 (by kernel_rfl) (by kernel_rfl) (by decide) hf
 have he : v = .slice A len cap:=by simpa using hcs
 subst he
 have h1 : ∀ i,i < len → ∃ p : Plo,(RowsAt w p.V 2 (p.ps.map ptR) ∧ p.ps.length ≤ p.d ∧ p.name.size ≤ maxLen) ∧ ∃ b o,A = some ⟨b,o,none⟩ ∧ b < w.heap.size ∧ ∀ j v,(Plo.cells p)[j]? = some v → w.cell? ⟨b,o + (i * 2 + j),none⟩ = some v:=fun i hi=>by
  obtain ⟨b,o,n,hA,hb,hf⟩:=hq i hi
  obtain ⟨v0,y0,c0,t0⟩:=hf 0 _ rfl
  obtain ⟨v1,y1,c1,t1⟩:=hf 1 _ rfl
  obtain ⟨s0,e0,_,g0⟩:=DataW.trod_string Try.underlying9 t0
  obtain ⟨V,l,k,e1,ha,hk⟩:=pts_of_trod t1
  cases e0
  subst e1
  refine ⟨⟨s0,V,k,l⟩,⟨ha,hk,g0⟩,b,o,hA,hb,fun j v hv=>?_⟩
  match j,hv with
  | 0,hv=>cases hv;exact c0
  | 1,hv=>cases hv;exact c1
  | j + 2,hv=>simp [Plo.cells] at hv
 obtain ⟨l,hl,hq'⟩:=list_of len h1
 subst hl
 refine ⟨A,l,cap,rfl,fun k r hr=>?_,hlen,fun p hp=>?_⟩
 ·rw [List.getElem?_map] at hr
  cases hk : l[k]? with
  | none=>rw [hk] at hr;cases hr
  | some p=>rw [hk] at hr;cases hr;exact (hq' k p hk).2
 ·obtain ⟨k,hk,rfl⟩:=List.getElem_of_mem hp
  exact (hq' k _ (List.getElem?_eq_getElem hk)).1
theorem sec_of_open (hval : Value.okWide Try.prog w r b0 38 v) (h : DataW.Trod enc Try.prog w 0 spare held 38 v d ps) :
  ∃ s : Sct,v = .agg #[.string s.name,.slice s.V s.ps.length s.d,.slice s.S s.l.length s.e] ∧ SctO w s:=by
 have hu:=Try.underlying38
 unfold Value.okWide at hval
 rw [hu] at hval
 obtain ⟨cs,rfl,hcs,_⟩:=hval
 obtain ⟨fuel,hf⟩:=h
 obtain ⟨m,xs,hlen,hxl,hi⟩:=trod_cells hu (by kernel_rfl) hf
 have h0:=hi 0 _ rfl
 have h1:=hi 1 _ rfl
 have h2:=hi 2 _ rfl
 rw [show Try.prog.cellsOf 38 = 3 by kernel_rfl] at hcs
 obtain ⟨l⟩:=cs
 match l,hcs with
 | [a,b,c],_ =>
  match xs,hxl with
  | [y0,y1,y2],_ =>
   simp [Value.cells] at h0 h1 h2
   obtain ⟨s0,e0,_,g0⟩:=DataW.trod_string Try.underlying9 h0
   obtain ⟨V,l1,k1,e1,ha,hk⟩:=pts_of_trod h1
   obtain ⟨S,l2,k2,e2,hb,hk2,hall⟩:=plots_of_trod h2
   cases e0
   subst e1
   subst e2
   exact ⟨⟨s0,V,k1,l1,S,k2,l2⟩,rfl,⟨g0,ha,hk,hb,hk2,hall⟩⟩
end
end Go.Proofs.Ythfokpchdlcidaa
