/- What the statements rest on: definitions and walks, part 27. -/
import Derived.Test.YtfcjeejhdklkdaaJ26
import Derived.Test.YtfcjeejhdklkdaaJ13
set_option maxRecDepth 100000
set_option maxHeartbeats 16000000
set_option linter.unusedSimpArgs false
set_option linter.unusedVariables false
namespace Go.Proofs.Ytfcjeejhdklkdaa
open Go Go.RowKit Go.Shelf
theorem polyE_401 {ps : List Pt} (h : Cal.polyE ps = 0) : ps.length ≤ 40:=by
 unfold Cal.polyE at h
 split at h
 ·cases h
 ·omega
theorem badSide_no {a b : List Pt} {i : Nat} (h1 : ∀ k,k < a.length → Cal.crosS (Cal.sd b i) (Cal.sd a k) = false) (h2 : ¬ 0 < Cal.whereP a (Cal.sd b i).a) (h3 : Cal.entersR (Cal.sd b i) a = false) : Cal.badSide a b i = false:=by
 unfold Cal.badSide
 rw [decide_eq_false h2,h3,Bool.or_false,Bool.or_false,List.any_eq_false]
 intro k hk
 rw [h1 k (List.mem_range.1 hk)];decide
theorem badSide_cross {a b : List Pt} {i k : Nat} (hk : k < a.length) (h1 : Cal.crosS (Cal.sd b i) (Cal.sd a k) = true) : Cal.badSide a b i = true:=by
 unfold Cal.badSide
 rw [List.any_eq_true.2 ⟨k,List.mem_range.2 hk,h1⟩];rfl
theorem badSide_other {a b : List Pt} {i : Nat} (h : (decide (0 < Cal.whereP a (Cal.sd b i).a) || Cal.entersR (Cal.sd b i) a) = true) : Cal.badSide a b i = true:=by
 unfold Cal.badSide
 rw [h,Bool.or_true]
theorem within_bad {a b : List Pt} {i : Nat} (hi : i < b.length) (h : Cal.badSide a b i = true) : Cal.withinR a b = false:=by
 unfold Cal.withinR
 rw [List.any_eq_true.2 ⟨i,List.mem_range.2 hi,h⟩];rfl
theorem within_fine {a b : List Pt} (h : ∀ i,i < b.length → Cal.badSide a b i = false) : Cal.withinR a b = decide (0 < Cal.whereP (Cal.mulP 3 b) (Cal.third3 (Cal.firstTri a))):=by
 unfold Cal.withinR
 have : (List.range b.length).any (Cal.badSide a b) = false:=by
  rw [List.any_eq_false]
  intro i hi
  rw [h i (List.mem_range.1 hi)];decide
 rw [this];rfl
theorem WithinR_any (V : Option Addr) (d : Nat) (a : List Pt) (V2 : Option Addr) (d2 : Nat) (b : List Pt) (w : World) (hA : PtsR w V a) (hd : a.length ≤ d) (hB : PtsR w V2 b) (ha : Cal.polyE a = 0) (hb : Cal.polyE b = 0) :
  Calls Try.prog 34 #[.slice V a.length d,.slice V2 b.length d2] w fun e w'=>e = .returned (.bool (Cal.withinR a b)) ∧ Below w.heap.size w w':=by
 obtain ⟨hpa,hia,_⟩:=Cal.polyE_poly ha
 obtain ⟨hpb,hib,_⟩:=Cal.polyE_poly hb
 have hla:=polyE_401 ha
 have hlb:=polyE_401 hb
 have h3b:=hpb.three
 have hsa : ∀ p ∈ a,SmP p:=fun p hp=>ptErr_sm (hia p hp)
 have hsb : ∀ p ∈ b,SmP p:=fun p hp=>ptErr_sm (hib p hp)
 have hPa : Pts w V a:=⟨hA.rows,hA.size,hsa,hA.own⟩
 have hPb : Pts w V2 b:=⟨hB.rows,hB.size,hsb,hB.own⟩
 obtain ⟨R,hR⟩ : ∃ R,Cal.withinR a b = R:=⟨_,rfl⟩
 rw [hR]
 have hbad:=Lib.hid (fun i (hi : i < b.length) h=>hR ▸ within_bad (a:=a) hi h)
 have hfine:=Lib.hid (fun h=>hR ▸ within_fine (a:=a) (b:=b) h)
 have hft : Hid (Cal.firstTri a ∈ Cal.trisOf a):=Cal.firstTri_mem (Cal.goodP_of ha)
 have hgood:=Lib.hid (fun (l0 : 0 < (Cal.trisOf a).length)=>(rfl : Cal.firstTri a = Cal.firstTri a))
 have htr:=Lib.hid (fun W (hW : Below w.heap.size w W)=>TrianglesR_any V d a W (hPa.below hW) hd)
 have hsdB:=Lib.hid (fun i (hi : i < b.length) W (hW : Below w.heap.size w W)=>sideR_any V2 d2 b i W (hB.below hW) hi (by omega))
 have hsdA:=Lib.hid (fun k (hk : k < a.length) W (hW : Below w.heap.size w W)=>sideR_any V d a k W (hA.below hW) hk (by omega))
 have hwh1:=Lib.hid (fun q (hq : SmP q) W (hW : Below w.heap.size w W)=>WhereR_any V d a q W (hPa.below hW) hq (by omega))
 have hent:=Lib.hid (fun s h1 h2 W (hW : Below w.heap.size w W)=>entersR_any s V d a W h1 h2 (hA.below hW) hia (by omega))
 have hti : Hid (∀ W,Below w.heap.size w W → Calls Try.prog 72 #[.slice V2 b.length d2,.int .i64 3] W fun e w'=>∃ A c,e = .returned (.slice A (Cal.mulP 3 b).length c) ∧ Pts w' A (Cal.mulP 3 b) ∧ Below W.heap.size W w'):=fun W hb=>by
  refine (timesR_any V2 d2 b 3 W (hB.below hb) hib (by decide) (by decide)).mono ?_
  rintro e w' ⟨v,rfl,hO,hb'⟩
  obtain ⟨A5,c5,rfl,hr⟩:=OwnL.form hO
  rw [List.length_map]
  refine ⟨A5,c5,rfl,pts_own hO hr (by rw [Cal.mul_length];omega) (fun p hp=>?_),hb'⟩
  obtain ⟨q,hq,rfl⟩:=List.mem_map.1 hp
  have:=ptErr_box (hib q hq)
  exact ⟨by dsimp only;omega,by dsimp only;omega,by dsimp only;omega,by dsimp only;omega⟩
 have hmem:=Lib.hid (trisR_mem a.length a)
 change Hid (∀ t ∈ Cal.trisOf a,_) at hmem
 have hia':=Lib.hid hia
 have hib':=Lib.hid hib
 have hsa':=Lib.hid hsa
 have hsB : Hid (∀ i,i < b.length → Cal.ptErr (Cal.sd b i).a = 0 ∧ Cal.ptErr (Cal.sd b i).b = 0):=fun i hi=>by
  unfold Cal.sd
  rw [List.getElem?_eq_getElem hi,List.getElem?_eq_getElem (Nat.mod_lt (i + 1) (show 0 < b.length by omega))]
  exact ⟨hib _ (List.getElem_mem _),hib _ (List.getElem_mem _)⟩
 have hsA:=Lib.hid (fun k (hk : k < a.length)=>hPa.sd k hk)
 have hb0 : Hid (Below w.heap.size w w):=Below.refl _ _
 clear hA hB hia hib hsa hsb hPa hPb hpa hpb ha hb hR hgood
 go_enter Try.func34,Try.ntmps34
 go_wp2_with fail
 go_loopw [5] (fun iv wr=>∃ i : Nat,i ≤ b.length ∧ iv = .int .i64 i ∧ Hid (∀ j,j < i → Cal.badSide a b j = false) ∧ Hid (Below w.heap.size w wr)) (fun iv _=>b.length - (intOf iv).toNat)
 case atStart=>exact ⟨0,Nat.zero_le _,rfl,fun j h=>by omega,hb0⟩
 case round =>
  clear hb0
  obtain ⟨i,hi,rfl,hdone,hb⟩:=hrel
  by_cases hlt : i < b.length
  ·have hii : (i : Int) < (b.length : Int):=by omega
   have hsd1:=Lib.hid (hsdB.out i hlt)
   obtain ⟨he1,he2⟩:=hsB.out i hlt
   have hnc:=Lib.hid (fun h1 h2 h3=>badSide_no (a:=a) (b:=b) (i:=i) h1 h2 h3)
   have hyc:=Lib.hid (fun k hk h1=>hbad.out i hlt (badSide_cross (a:=a) (b:=b) (i:=i) (k:=k) hk h1))
   have hyo:=Lib.hid (fun h=>hbad.out i hlt (badSide_other (a:=a) (b:=b) (i:=i) h))
   generalize Cal.sd b i = s at *
   have hss : SmS s:=⟨ptErr_sm he1,ptErr_sm he2⟩
   have hwhs:=Lib.hid (hwh1.out s.a hss.a)
   have hens:=Lib.hid (hent.out s he1 he2)
   generalize hwo : wr = wo at *
   clear hwo wr
   go_wp2_with (go_at_call 67;refine (hsd1.out _ hb.out).mono ?_;rintro e w1 ⟨rfl,hb1⟩;have h6:=Lib.hid (BoxAt.new w1 #[.int .i64 s.a.x,.int .i64 s.a.y,.int .i64 s.b.x,.int .i64 s.b.y] 97);have hb2:=Lib.hid (below_step (below_step hb.out hb1) (below_alloc w1 (.cells #[.int .i64 s.a.x,.int .i64 s.a.y,.int .i64 s.b.x,.int .i64 s.b.y] 97)));clear hb1)
   generalize hwx : w1.alloc (.cells #[.int .i64 s.a.x,.int .i64 s.a.y,.int .i64 s.b.x,.int .i64 s.b.y] 97) = w2 at *
   generalize w1.heap.size = B6 at *
   clear hwx w1
   have hbm : Hid (Below w2.heap.size w2 w2):=Below.refl _ _
   go_loopw [7] (fun kv wr=>∃ k : Nat,k ≤ a.length ∧ kv = .int .i64 k ∧ Hid (∀ j,j < k → Cal.crosS s (Cal.sd a j) = false) ∧ Hid (Below w2.heap.size w2 wr)) (fun kv _=>a.length - (intOf kv).toNat)
   case atStart=>exact ⟨0,Nat.zero_le _,rfl,fun j h=>by omega,hbm⟩
   case round =>
    clear hbm
    obtain ⟨k,hk,rfl,hno,hbm⟩:=hrel
    have hbT:=Lib.hid (hb2.out.trans (hbm.out.mono hb2.out.size))
    replace h6:=Lib.hid (h6.out.below hbm.out)
    (have s0:=h6.out.c 0 _ rfl;have s1:=h6.out.c 1 _ rfl;have s2:=h6.out.c 2 _ rfl;have s3:=h6.out.c 3 _ rfl)
    by_cases hlk : k < a.length
    ·have hkk : (k : Int) < (a.length : Int):=by omega
     have hst : SmS (Cal.sd a k):=hsA.out k hlk
     have hsd2:=Lib.hid (hsdA.out k hlk)
     have hcc:=hyc.out k hlk
     generalize hta : Cal.sd a k = t at *
     replace hta:=Lib.hid hta
     have hcr:=Lib.hid (fun W=>crossesR_any s t W hss hst)
     cases hh : Cal.crosS s t
     ·rw [hh] at hcr
      have hno2 : Hid (∀ j,j < k + 1 → Cal.crosS s (Cal.sd a j) = false):=fun j hj=>by
       rcases Nat.lt_succ_iff_lt_or_eq.1 hj with h' | h'
       ·exact hno.out j h'
       ·rw [h',hta.out];exact hh
      clear hh hno hcc
      go_wp2_with fail
      refine wp_region_held_drew (S:=Sx wr [(B6,0,.int .i64 s.a.x),(B6,1,.int .i64 s.a.y),(B6,2,.int .i64 s.b.x),(B6,3,.int .i64 s.b.y)]) (by kernel_rfl) (Sx.mk (by simp only [cs_iff_cons];exact ⟨s0,s1,s2,s3,cs_nil _⟩) (Below.refl _ _)).drew (fun hHeld=>?_)
      clear s0 s1 s2 s3
      refine tkHx 0 24 ?_
      refine tkHx 1 25 ?_
      refine tkHx 2 26 ?_
      (refine ratHx 3 (fun K hK=>?_);go_simp)
      refine (hsd2.out _ (hbT.out.trans (hHeld.bel.mono hbT.out.size))).mono ?_
      rintro e wn ⟨rfl,hbn⟩
      go_simp
      (refine hK.out _ _ (hHeld.step hbn) (fun hHeld=>?_);clear hK K;(try simp only [apS,apN,siA,scZ,scS]))
      (refine ratHx 4 (fun K hK=>?_);go_simp)
      refine (hcr.out _).mono ?_
      rintro e wn ⟨rfl,hbn⟩
      go_simp
      (refine hK.out _ _ (hHeld.step hbn) (fun hHeld=>?_);clear hK K;(try simp only [apS,apN,siA,scZ,scS]))
      refine wpAnyH_done (by kernel_rfl) ?_ _
      (try simp only [apS,apN,siA,scZ,scS])
      have hbe:=Lib.hid (hbm.out.trans (hHeld.bel.mono hbm.out.size))
      clear hHeld
      go_wp2_with fail
      go_roundw
      case rel=>exact ⟨k + 1,by omega,by go_num,hno2,hbe⟩
      case measure=>simp [intOf];omega
     ·rw [hh] at hcr
      have hRf : Hid (R = false):=hcc hh
      clear hh hno hcc
      go_wp2_with fail
      refine wp_region_held_drew (S:=Sx wr [(B6,0,.int .i64 s.a.x),(B6,1,.int .i64 s.a.y),(B6,2,.int .i64 s.b.x),(B6,3,.int .i64 s.b.y)]) (by kernel_rfl) (Sx.mk (by simp only [cs_iff_cons];exact ⟨s0,s1,s2,s3,cs_nil _⟩) (Below.refl _ _)).drew (fun hHeld=>?_)
      clear s0 s1 s2 s3
      refine tkHx 0 24 ?_
      refine tkHx 1 25 ?_
      refine tkHx 2 26 ?_
      (refine ratHx 3 (fun K hK=>?_);go_simp)
      refine (hsd2.out _ (hbT.out.trans (hHeld.bel.mono hbT.out.size))).mono ?_
      rintro e wn ⟨rfl,hbn⟩
      go_simp
      (refine hK.out _ _ (hHeld.step hbn) (fun hHeld=>?_);clear hK K;(try simp only [apS,apN,siA,scZ,scS]))
      (refine ratHx 4 (fun K hK=>?_);go_simp)
      refine (hcr.out _).mono ?_
      rintro e wn ⟨rfl,hbn⟩
      go_simp
      (refine hK.out _ _ (hHeld.step hbn) (fun hHeld=>?_);clear hK K;(try simp only [apS,apN,siA,scZ,scS]))
      refine wpAnyH_done (by kernel_rfl) ?_ _
      (try simp only [apS,apN,siA,scZ,scS])
      have hbe:=Lib.hid (hbT.out.trans (hHeld.bel.mono hbT.out.size))
      clear hHeld
      go_wp2_with fail
      go_ret
      exact ⟨by rw [hRf.out];rfl,hbe.out⟩
    ·obtain rfl : k = a.length:=by omega
     have hnc2:=Lib.hid (hnc.out hno.out)
     generalize Cal.whereP a s.a = z at *
     by_cases h0 : 0 < z
     ·have hRf : Hid (R = false):=hyo.out (by rw [decide_eq_true h0];rfl)
      clear hnc2 hyo hens
      go_wp2_with (go_at_call 70;refine (hwhs.out _ hbT.out).mono ?_;rintro e w3 ⟨rfl,hb3⟩;have hbe:=Lib.hid (below_step hbT.out hb3);clear hb3 s0 s1 s2 s3)
      go_ret
      exact ⟨by rw [hRf.out];rfl,hbe.out⟩
     ·generalize Cal.entersR s a = en at *
      cases en
      ·have hdone2 : Hid (∀ j,j < i + 1 → Cal.badSide a b j = false):=fun j hj=>by
        rcases Nat.lt_succ_iff_lt_or_eq.1 hj with h' | h'
        ·exact hdone.out j h'
        ·rw [h'];exact hnc2.out (by omega) rfl
       clear hnc2 hyo hdone
       go_wp2_with (first
        |(go_at_call 70;refine (hwhs.out _ hbT.out).mono ?_;clear hwhs;rintro e w3 ⟨rfl,hb3⟩;have hbe:=Lib.hid (below_step hbT.out hb3);replace h6:=Lib.hid (h6.out.below hb3);clear hb3 s0 s1 s2 s3;(have s0:=h6.out.c 0 _ rfl;have s1:=h6.out.c 1 _ rfl;have s2:=h6.out.c 2 _ rfl;have s3:=h6.out.c 3 _ rfl))
        |(go_at_call 71;refine (hens.out _ hbe.out).mono ?_;clear hens;rintro e w4 ⟨rfl,hb4⟩;have hbf:=Lib.hid (below_step hbe.out hb4);clear hb4 s0 s1 s2 s3))
       go_roundw
       case rel=>exact ⟨i + 1,by omega,by go_num,hdone2,hbf⟩
       case measure=>simp [intOf];omega
      ·have hRf : Hid (R = false):=hyo.out (by rw [Bool.or_true])
       clear hnc2 hyo hdone
       go_wp2_with (first
        |(go_at_call 70;refine (hwhs.out _ hbT.out).mono ?_;clear hwhs;rintro e w3 ⟨rfl,hb3⟩;have hbe:=Lib.hid (below_step hbT.out hb3);replace h6:=Lib.hid (h6.out.below hb3);clear hb3 s0 s1 s2 s3;(have s0:=h6.out.c 0 _ rfl;have s1:=h6.out.c 1 _ rfl;have s2:=h6.out.c 2 _ rfl;have s3:=h6.out.c 3 _ rfl))
        |(go_at_call 71;refine (hens.out _ hbe.out).mono ?_;clear hens;rintro e w4 ⟨rfl,hb4⟩;have hbf:=Lib.hid (below_step hbe.out hb4);clear hb4 s0 s1 s2 s3))
       go_ret
       exact ⟨by rw [hRf.out];rfl,hbf.out⟩
  ·obtain rfl : i = b.length:=by omega
   have hRe:=hfine.out hdone.out
   have h0T : 0 < (Cal.trisOf a).length:=List.length_pos_of_mem hft.out
   have hf0 : Cal.firstTri a = (Cal.trisOf a)[0]:=by unfold Cal.firstTri;rw [List.getElem?_eq_getElem h0T];rfl
   have htr2 : Hid (∀ W,Below w.heap.size w W → Calls Try.prog 64 #[.slice V a.length d] W fun e w'=>∃ b9 o9 c9 g x y z,e = .returned (.slice (some ⟨b9,o9,none⟩) (Cal.trisOf a).length c9) ∧ b9 < w'.heap.size ∧ w'.cell? ⟨b9,o9,none⟩ = some (.slice (some ⟨g,0,none⟩) 3 3) ∧ (Cal.trisOf a)[0] = [x,y,z] ∧ Pts w' (some ⟨g,0,none⟩) [x,y,z] ∧ (x ∈ a ∧ y ∈ a ∧ z ∈ a) ∧ Below W.heap.size W w'):=fun W hW=>by
    refine (htr.out W hW).mono ?_
    rintro e w' ⟨v,gs,rfl,hT,hb'⟩
    obtain ⟨A9,c9,rfl,hr9⟩:=hT.read
    obtain ⟨b9,o9,g,x,y,z,rfl,hb9,hc9,he9,_,_,_,hp9⟩:=hr9.tri hmem.out hsa'.out h0T
    obtain ⟨x',y',z',e2,h1,h2,h3⟩:=hmem.out _ (List.getElem_mem h0T)
    rw [he9] at e2
    simp only [List.cons.injEq,and_true] at e2
    obtain ⟨rfl,rfl,rfl⟩:=e2
    exact ⟨b9,o9,c9,g,x,y,z,rfl,hb9,hc9,he9,hp9,⟨h1,h2,h3⟩,hb'⟩
   have hlT : (0 : Int) < ((Cal.trisOf a).length : Int):=by omega
   have hlT2 : (Cal.trisOf a).length ≤ 1000000:=Nat.le_trans (trisR_len _ _) (by omega)
   rw [hf0] at hRe
   clear hfine hdone htr hft hf0 hent hwh1 hsdA hsdB hbad hsA hsB
   obtain ⟨T0,hT0⟩ : ∃ T,(Cal.trisOf a)[0] = T:=⟨_,rfl⟩
   simp only [hT0] at hRe htr2
   clear hT0 hmem h0T
   generalize (Cal.trisOf a).length = lT at *
   go_wp2_with (go_at_call 64;refine (htr2.out _ hb.out).mono ?_;clear htr2;rintro e w3 ⟨b9,o9,c9,g,x,y,z,rfl,hb9,hc9,rfl,hp9,⟨hx,hy,hz⟩,hb3⟩;have hbe:=Lib.hid (below_step hb.out hb3);clear hb3)
   obtain ⟨b8,o8,hA8,_,x0,x1⟩:=pts_at hp9.rows (k:=0) (q:=x) rfl
   cases hA8
   obtain ⟨b8,o8,hA8,_,y0,y1⟩:=pts_at hp9.rows (k:=1) (q:=y) rfl
   cases hA8
   obtain ⟨b8,o8,hA8,_,z0,z1⟩:=pts_at hp9.rows (k:=2) (q:=z) rfl
   cases hA8
   have bx:=ptErr_box (hia'.out x hx)
   have by':=ptErr_box (hia'.out y hy)
   have bz:=ptErr_box (hia'.out z hz)
   simp only [Nat.zero_mul,Nat.add_zero,Nat.zero_add,Nat.one_mul,Nat.reduceMul] at x0 x1 y0 y1 z0 z1
   have f1 : IntKind.i64.wrap (x.x + y.x) = x.x + y.x:=wrap_small (by omega) (by omega)
   have f1b : wrap64 (x.x + y.x) = x.x + y.x:=by rw [← wrap_eq];exact f1
   have f2 : IntKind.i64.wrap (x.x + y.x + z.x) = x.x + y.x + z.x:=wrap_small (by omega) (by omega)
   have f2b : wrap64 (x.x + y.x + z.x) = x.x + y.x + z.x:=by rw [← wrap_eq];exact f2
   have f3 : IntKind.i64.wrap (x.y + y.y) = x.y + y.y:=wrap_small (by omega) (by omega)
   have f3b : wrap64 (x.y + y.y) = x.y + y.y:=by rw [← wrap_eq];exact f3
   have f4 : IntKind.i64.wrap (x.y + y.y + z.y) = x.y + y.y + z.y:=wrap_small (by omega) (by omega)
   have f4b : wrap64 (x.y + y.y + z.y) = x.y + y.y + z.y:=by rw [← wrap_eq];exact f4
   have hms : SmP ⟨x.x + y.x + z.x,x.y + y.y + z.y⟩:=⟨by dsimp only;omega,by dsimp only;omega,by dsimp only;omega,by dsimp only;omega⟩
   have hwh:=Lib.hid (fun A c W hp=>WhereR_any A c (Cal.mulP 3 b) ⟨x.x + y.x + z.x,x.y + y.y + z.y⟩ W hp hms (by rw [Cal.mul_length];omega))
   replace hRe : Hid (R = decide (0 < Cal.whereP (Cal.mulP 3 b) ⟨x.x + y.x + z.x,x.y + y.y + z.y⟩)):=hRe
   generalize Cal.whereP (Cal.mulP 3 b) ⟨x.x + y.x + z.x,x.y + y.y + z.y⟩ = q at *
   clear bx by' bz hms hp9 hx hy hz
   go_wp2_with fail
   refine wp_region_held_drew (S:=Sx w3 [(g,0,.int .i64 x.x),(g,1,.int .i64 x.y),(g,2,.int .i64 y.x),(g,3,.int .i64 y.y),(g,4,.int .i64 z.x),(g,5,.int .i64 z.y)]) (by kernel_rfl) (Sx.mk (by simp only [cs_iff_cons];exact ⟨x0,x1,y0,y1,z0,z1,cs_nil _⟩) (Below.refl _ _)).drew (fun hHeld=>?_)
   clear x0 x1 y0 y1 z0 z1
   refine tkHx 0 43 ?_
   refine tkHx 2 45 ?_
   refine tkHx 3 46 ?_
   refine tkHx 4 47 ?_
   refine tkHx 5 48 ?_
   refine tkHx 6 49 ?_
   refine tkHx 7 50 ?_
   refine tkHx 8 51 ?_
   refine tkHx 9 52 ?_
   refine tkHx 10 53 ?_
   refine tkHx 11 54 ?_
   refine tkHx 12 55 ?_
   refine tkHx 13 56 ?_
   refine tkHx 14 57 ?_
   refine tkHx 15 58 ?_
   refine tkHx 16 59 ?_
   refine tkHx 17 60 ?_
   refine tkHx 18 61 ?_
   refine tkHx 19 62 ?_
   refine tkHx 20 63 ?_
   refine tkHx 21 64 ?_
   refine tkHx 22 65 ?_
   refine tkHx 23 66 ?_
   refine tkHx 24 67 ?_
   refine tkHx 25 68 ?_
   refine tkHx 26 69 ?_
   refine tkHx 27 70 ?_
   refine tkHx 28 71 ?_
   refine tkHx 29 72 ?_
   refine tkHx 30 73 ?_
   (refine ratHx 1 (fun K hK=>?_);go_simp)
   refine (hti.out _ (hbe.out.trans (hHeld.bel.mono hbe.out.size))).mono ?_
   rintro e wn ⟨A9,c9',rfl,hp9,hbn⟩
   go_simp
   (refine hK.out _ _ (hHeld.step hbn) (fun hHeld=>?_);clear hK K;(try simp only [apS,apN,siA,scZ,scS]))
   (refine ratHx 31 (fun K hK=>?_);go_simp)
   refine (hwh.out A9 c9' _ hp9).mono ?_
   rintro e wm ⟨rfl,hbm⟩
   go_simp
   (refine hK.out _ _ (hHeld.step hbm) (fun hHeld=>?_);clear hK K;(try simp only [apS,apN,siA,scZ,scS]))
   refine tkHx 32 75 ?_
   refine tkHx 33 4 ?_
   refine wpAnyH_done (by kernel_rfl) ?_ _
   (try simp only [apS,apN,siA,scZ,scS])
   have hbf:=Lib.hid (hbe.out.trans (hHeld.bel.mono hbe.out.size))
   clear hHeld
   go_wp2_with fail
   go_ret
   exact ⟨by rw [hRe.out];rfl,hbf.out⟩
end Go.Proofs.Ytfcjeejhdklkdaa
namespace Go.Proofs.Ytfcjeejhdklkdaa
open Go Go.RowKit Go.Shelf
theorem over_same {a b : List Pt} (ha : Cal.polyE a = 0) (hb : Cal.polyE b = 0) : Cal.overR a b = Cal.overlapP a b:=by
 rw [Bool.eq_iff_iff,Cal.overR_over (Cal.goodP_of ha) (Cal.goodP_of hb),Cal.overlap_over ha hb]
theorem within_same {a b : List Pt} (ha : Cal.polyE a = 0) (hb : Cal.polyE b = 0) : Cal.withinR a b = Cal.withinP a b:=by
 rw [Bool.eq_iff_iff,Cal.withinR_in ha hb,Cal.within_in ha hb]
def ovB (p : Plo) (q : Plo) : Bool:=Cal.overlapP q.ps p.ps
theorem plotE_4 {sec : List Pt} {bf : List Plo} {p : Plo} (h1 : nameB p.name = false) : plotE sec bf p = ((bf.length : Int),4):=by
 unfold plotE;rw [h1];rfl
theorem plotE_5 {sec : List Pt} {bf : List Plo} {p : Plo} (h1 : nameB p.name = true) (h2 : (bf.any fun q=>sameN q p) = true) : plotE sec bf p = ((bf.length : Int),5):=by
 unfold plotE;rw [if_pos h1,if_pos h2]
theorem plotE_6 {sec : List Pt} {bf : List Plo} {p : Plo} (h1 : nameB p.name = true) (h2 : (bf.any fun q=>sameN q p) = false) (h3 : Cal.polyE p.ps ≠ 0) : plotE sec bf p = ((bf.length : Int),Cal.polyE p.ps):=by
 unfold plotE;rw [if_pos h1,h2,if_neg (by decide),if_neg h3]
theorem plotE_7 {sec : List Pt} {bf : List Plo} {p : Plo} (h1 : nameB p.name = true) (h2 : (bf.any fun q=>sameN q p) = false) (h3 : Cal.polyE p.ps = 0) (h4 : Cal.withinP p.ps sec = false) : plotE sec bf p = ((bf.length : Int),2):=by
 unfold plotE;rw [if_pos h1,h2,if_neg (by decide),if_pos h3,h4,if_neg (by decide)]
theorem plotE_13 {sec : List Pt} {bf : List Plo} {p : Plo} (h1 : nameB p.name = true) (h2 : (bf.any fun q=>sameN q p) = false) (h3 : Cal.polyE p.ps = 0) (h4 : Cal.withinP p.ps sec = true) {j : Nat} {q : Plo} (hj : bf[j]? = some q) (h5 : (bf.take j).any (ovB p) = false) (h6 : ovB p q = true) : plotE sec bf p = ((j : Int),13):=by
 have : idxP (fun q=>Cal.overlapP q.ps p.ps) bf = j:=idxP_at hj h5 h6
 unfold plotE;rw [if_pos h1,h2,if_neg (by decide),if_pos h3,if_pos h4,this,if_neg (by omega)]
theorem plotE_0 {sec : List Pt} {bf : List Plo} {p : Plo} (h1 : nameB p.name = true) (h2 : (bf.any fun q=>sameN q p) = false) (h3 : Cal.polyE p.ps = 0) (h4 : Cal.withinP p.ps sec = true) (h5 : bf.any (ovB p) = false) : plotE sec bf p = (0,0):=by
 have : idxP (fun q=>Cal.overlapP q.ps p.ps) bf = -1:=idxP_no h5
 unfold plotE;rw [if_pos h1,h2,if_neg (by decide),if_pos h3,if_pos h4,this,if_pos (by omega)]
structure CdI (w : World) (s : Sct) (p : Plo) (k : Nat) (B : Nat) (W : World) : Prop where
 cs : CsI w s W
 b6 : BoxAt W B [.string p.name,.slice p.V p.ps.length p.d]
 b7 : BoxAt W (B + 1) [.int .i64 k,.int .i64 k]
theorem CdI.below {w : World} {s : Sct} {p : Plo} {k B : Nat} {X Y : World} (h : CdI w s p k B X) (hb : Below X.heap.size X Y) : CdI w s p k B Y:=⟨h.cs.below hb,h.b6.below hb,h.b7.below hb⟩
theorem any_take_succ {g : Plo → Bool} {l : List Plo} {j : Nat} {q : Plo} (hj : l[j]? = some q) (h : (l.take j).any g = false) (hq : g q = false) : (l.take (j + 1)).any g = false:=by
 obtain ⟨hlt,rfl⟩:=List.getElem?_eq_some_iff.1 hj
 rw [List.take_succ_eq_append_getElem hlt,List.any_append,h]
 simpa using hq
theorem any_take_hit {g : Plo → Bool} {l : List Plo} {j k : Nat} {q : Plo} (hj : l[j]? = some q) (hk : j < k) (hq : g q = true) : (l.take k).any g = true :=
 List.any_eq_true.2 ⟨q,List.mem_of_getElem? (i:=j) (by rw [List.getElem?_take_of_lt hk];exact hj),hq⟩
theorem CheckSectionR_any (s : Sct) (w : World) (hS : SctR w s) (hcap : ∀ p ∈ s.l,p.ps.length ≤ p.d) :
  Calls Try.prog 39 #[.agg #[.string s.name,.slice s.V s.ps.length s.d,.slice s.S s.l.length s.e]] w fun e w'=>e = .returned (.tuple #[.agg #[.int .i64 (sectE s.name s.ps s.l).1,.int .i64 (sectE s.name s.ps s.l).2.1],.int .i64 (sectE s.name s.ps s.l).2.2]) ∧ Below w.heap.size w w':=by
 obtain ⟨R,hRR⟩ : ∃ R,sectE s.name s.ps s.l = R:=⟨_,rfl⟩
 rw [hRR]
 have hsz:=hS.plots.size
 have hnm:=Lib.hid hS.nm
 replace hS:=Lib.hid hS
 obtain ⟨x1,h1⟩ : ∃ x,nameB s.name = x:=⟨_,rfl⟩
 obtain ⟨x2,h2⟩ : ∃ x,Cal.polyE s.ps = x:=⟨_,rfl⟩
 have hR : Hid (R = if x1 = true then (if x2 = 0 then (if 60 < s.l.length then (0,0,8) else sectL s.ps [] s.l) else (0,0,x2)) else (0,0,4)):=by
  show _ = _
  rw [← hRR]
  unfold sectE
  rw [h1,h2]
 clear hRR
 have hI : Hid (CsI w s ((w.alloc (.cells #[.string s.name,.slice s.V s.ps.length s.d,.slice s.S s.l.length s.e] 62)).alloc (.cells #[.int .i64 0,.int .i64 0] 64))):=by
  have b2:=BoxAt.new (w.alloc (.cells #[.string s.name,.slice s.V s.ps.length s.d,.slice s.S s.l.length s.e] 62)) #[.int .i64 0,.int .i64 0] 64
  rw [World.size_alloc] at b2
  exact ⟨(BoxAt.new w #[.string s.name,.slice s.V s.ps.length s.d,.slice s.S s.l.length s.e] 62).alloc _,b2,below_step (below_alloc _ _) (below_alloc _ _)⟩
 replace h1:=Lib.hid h1
 have hpz : Cal.polyR s.ps = x2:=(Cal.polyR_eq _).trans h2
 (have a0:=hI.out.a.c 0 _ rfl;have a1:=hI.out.a.c 1 _ rfl;have a2:=hI.out.a.c 2 _ rfl;have r0:=hI.out.r.c 0 _ rfl;have r1:=hI.out.r.c 1 _ rfl;have f0:=hI.out.r.free 0 (by simp);have f1:=hI.out.r.free 1 (by simp))
 cases x1
 ·replace h2:=Lib.hid hpz
  clear hpz
  go_enter Try.func39,Try.ntmps39
  go_wp2_with (first
   |(go_at_call 77;refine (IsName_any s.name _ hnm.out).mono ?_;rintro e0 wn ⟨rfl,rfl⟩;rw [h1.out])
   |(go_at_call 63;clear a0 a1 a2 r0 r1 f0 f1;refine (CheckPolyR_any s.V s.d s.ps _ (hS.out.pts.below hI.out.bel)).mono ?_;rintro e0 wn ⟨rfl,hbn⟩;rw [h2.out];(replace hI:=Lib.hid (hI.out.below hbn);clear hbn;(have a0:=hI.out.a.c 0 _ rfl;have a1:=hI.out.a.c 1 _ rfl;have a2:=hI.out.a.c 2 _ rfl;have r0:=hI.out.r.c 0 _ rfl;have r1:=hI.out.r.c 1 _ rfl;have f0:=hI.out.r.free 0 (by simp);have f1:=hI.out.r.free 1 (by simp)))))
  refine bodyPost_ret (results_mid2 rfl _ _ (w.heap.size + 1) [.int .i64 0,.int .i64 0] _ rfl hI.out.r.range Try.underlying64 rfl arr2Size) rfl ⟨by rw [hR.out];rfl,?_⟩
  exact hI.out.bel
 ·by_cases z2 : x2 = 0
  ·subst z2
   by_cases h60 : 60 < s.l.length
   ·replace hR : Hid (R = (0,0,8)):=by show _ = _;rw [hR.out,if_pos rfl,if_pos rfl,if_pos h60]
    have h61 : 60 < (s.l.length : Int):=by omega
    replace h2:=Lib.hid hpz
    clear hpz
    go_enter Try.func39,Try.ntmps39
    go_wp2_with (first
     |(go_at_call 77;refine (IsName_any s.name _ hnm.out).mono ?_;rintro e0 wn ⟨rfl,rfl⟩;rw [h1.out])
     |(go_at_call 63;clear a0 a1 a2 r0 r1 f0 f1;refine (CheckPolyR_any s.V s.d s.ps _ (hS.out.pts.below hI.out.bel)).mono ?_;rintro e0 wn ⟨rfl,hbn⟩;rw [h2.out];(replace hI:=Lib.hid (hI.out.below hbn);clear hbn;(have a0:=hI.out.a.c 0 _ rfl;have a1:=hI.out.a.c 1 _ rfl;have a2:=hI.out.a.c 2 _ rfl;have r0:=hI.out.r.c 0 _ rfl;have r1:=hI.out.r.c 1 _ rfl;have f0:=hI.out.r.free 0 (by simp);have f1:=hI.out.r.free 1 (by simp)))))
    refine bodyPost_ret (results_mid2 rfl _ _ (w.heap.size + 1) [.int .i64 (0),.int .i64 (0)] _ rfl ((hI.out.r.set 0 (.int .i64 (0)) (by simp)).set 1 (.int .i64 (0)) (by simp)).range Try.underlying64 rfl arr2Size) rfl ⟨by rw [hR.out];rfl,?_⟩
    exact (hI.out.bel.setCell (p:=⟨w.heap.size + 1,0,none⟩) (Nat.le_succ _) _).setCell (p:=⟨w.heap.size + 1,1,none⟩) (Nat.le_succ _) _
   ·replace hR : Hid (R = sectL s.ps [] s.l):=by show _ = _;rw [hR.out,if_pos rfl,if_pos rfl,if_neg h60]
    have h61 : ¬ 60 < (s.l.length : Int):=by omega
    have hz0:=Lib.hid h2
    replace h2:=Lib.hid hpz
    clear hpz
    replace hcap:=Lib.hid hcap
    have hR0 : Hid (R = sectL s.ps (s.l.take 0) (s.l.drop 0)):=hR
    have hok0 : Hid (∀ q ∈ s.l.take 0,Cal.polyE q.ps = 0):=fun q hq=>by cases hq
    clear hR
    go_enter Try.func39,Try.ntmps39
    go_wp2_with (first
     |(go_at_call 77;refine (IsName_any s.name _ hnm.out).mono ?_;rintro e0 wn ⟨rfl,rfl⟩;rw [h1.out])
     |(go_at_call 63;clear a0 a1 a2 r0 r1 f0 f1;refine (CheckPolyR_any s.V s.d s.ps _ (hS.out.pts.below hI.out.bel)).mono ?_;rintro e0 wn ⟨rfl,hbn⟩;rw [h2.out];(replace hI:=Lib.hid (hI.out.below hbn);clear hbn;(have a0:=hI.out.a.c 0 _ rfl;have a1:=hI.out.a.c 1 _ rfl;have a2:=hI.out.a.c 2 _ rfl;have r0:=hI.out.r.c 0 _ rfl;have r1:=hI.out.r.c 1 _ rfl;have f0:=hI.out.r.free 0 (by simp);have f1:=hI.out.r.free 1 (by simp)))))
    clear a0 a1 a2 r0 r1 f0 f1
    go_loopw [5] (fun i wr=>∃ k : Nat,k ≤ s.l.length ∧ i = .int .i64 k ∧ Hid (R = sectL s.ps (s.l.take k) (s.l.drop k)) ∧ Hid (∀ q ∈ s.l.take k,Cal.polyE q.ps = 0) ∧ Hid (CsI w s wr)) (fun i _=>s.l.length - (intOf i).toNat)
    case atStart=>exact ⟨0,Nat.zero_le _,rfl,hR0,hok0,hI⟩
    case round =>
     clear hR0 hok0 hI
     obtain ⟨k,hk,rfl,hR,hok,hI⟩:=hrel
     by_cases hlt : k < s.l.length
     ·have hd:=sectL_drop (sec:=s.ps) hlt
      have hkk : (k : Int) < (s.l.length : Int):=by omega
      have hk' : s.l[k]? = some s.l[k]:=List.getElem?_eq_getElem hlt
      have hmem:=List.getElem_mem hlt
      have hok2:=Lib.hid (fun (h : Cal.polyE s.l[k].ps = 0) q (hq : q ∈ s.l.take (k + 1))=>show Cal.polyE q.ps = 0 by
       rw [List.take_succ_eq_append_getElem hlt] at hq
       rcases List.mem_append.1 hq with h' | h'
       ·exact hok.out q h'
       ·rw [List.mem_singleton.1 h']
        exact h)
      generalize s.l[k] = p at *
      have hlen : (s.l.take k).length = k:=by rw [List.length_take];omega
      have hR':=hR.out.trans hd
      have hE4 : Hid (nameB p.name = false → R = ((k : Int),(k : Int),4)):=fun h1=>hR'.trans (by rw [plotE_4 h1,hlen];rfl)
      have hE5 : Hid (nameB p.name = true → ((s.l.take k).any fun q=>sameN q p) = true → R = ((k : Int),(k : Int),5)):=fun h1 h2=>hR'.trans (by rw [plotE_5 h1 h2,hlen];rfl)
      have hE6 : Hid (nameB p.name = true → ((s.l.take k).any fun q=>sameN q p) = false → Cal.polyE p.ps ≠ 0 → R = ((k : Int),(k : Int),Cal.polyE p.ps)):=fun h1 h2 h3=>hR'.trans (by rw [plotE_6 h1 h2 h3,hlen,if_neg h3])
      have hE7 : Hid (nameB p.name = true → ((s.l.take k).any fun q=>sameN q p) = false → Cal.polyE p.ps = 0 → Cal.withinP p.ps s.ps = false → R = ((k : Int),(k : Int),2)):=fun h1 h2 h3 h4=>hR'.trans (by rw [plotE_7 h1 h2 h3 h4,hlen];rfl)
      have hE13 : Hid (nameB p.name = true → ((s.l.take k).any fun q=>sameN q p) = false → Cal.polyE p.ps = 0 → Cal.withinP p.ps s.ps = true → ∀ (j : Nat) (q : Plo),j < k → s.l[j]? = some q → ((s.l.take j).any (ovB p)) = false → ovB p q = true → R = ((j : Int),(k : Int),13)):=fun h1 h2 h3 h4 j q hjk hj h5 h6=>hR'.trans (by rw [plotE_13 (sec:=s.ps) (bf:=s.l.take k) h1 h2 h3 h4 (j:=j) (q:=q) (by rw [List.getElem?_take_of_lt hjk];exact hj) (by rw [List.take_take,Nat.min_eq_left (by omega)];exact h5) h6];rfl)
      have hE0 : Hid (nameB p.name = true → ((s.l.take k).any fun q=>sameN q p) = false → Cal.polyE p.ps = 0 → Cal.withinP p.ps s.ps = true → (s.l.take k).any (ovB p) = false → R = sectL s.ps (s.l.take (k + 1)) (s.l.drop (k + 1))):=fun h1 h2 h3 h4 h5=>hR'.trans (by rw [plotE_0 h1 h2 h3 h4 h5];rfl)
      have hpn:=Lib.hid (hS.out.plots.nm _ hmem)
      have hpp:=Lib.hid (hS.out.plots.pts _ hmem)
      have hpf:=Lib.hid (hS.out.fews _ hmem)
      have hpc:=Lib.hid (hcap.out _ hmem)
      have hpR:=Cal.polyR_eq p.ps
      obtain ⟨b,o,hSS,hbl,c0,c1⟩:=plo_at (hS.out.plots.rows.below hI.out.bel) hk'
      have hrows:=Lib.hid (fun W (hW : Below w.heap.size w W)=>hS.out.plots.rows.below hW)
      have hgone:=Lib.hid (fun j (hj : j < k)=>List.getElem?_eq_getElem (l:=s.l) (Nat.lt_trans hj hlt))
      clear hd hR' hR hmem hk' hlen
      have hI2:=Lib.hid (show CdI w s p k wr.heap.size ((wr.alloc (.cells #[.string p.name,.slice p.V p.ps.length p.d] 73)).alloc (.cells #[.int .i64 (k : Int),.int .i64 (k : Int)] 64)) by
       have b2:=BoxAt.new (wr.alloc (.cells #[.string p.name,.slice p.V p.ps.length p.d] 73)) #[.int .i64 (k : Int),.int .i64 (k : Int)] 64
       rw [World.size_alloc] at b2
       exact ⟨(hI.out.below (below_alloc _ _)).below (below_alloc _ _),(BoxAt.new wr #[.string p.name,.slice p.V p.ps.length p.d] 73).alloc _,b2⟩)
      have hwi:=Lib.hid (fun (h0 : Cal.polyE p.ps = 0) W (hW : Below w.heap.size w W)=>WithinR_any p.V p.d p.ps s.V s.d s.ps W (hpp.out.below hW) hpc.out (hS.out.pts.below hW) h0 hz0.out)
      replace hwi:=Lib.hid (fun (h0 : Cal.polyE p.ps = 0) W (hW : Below w.heap.size w W)=>(within_same h0 hz0.out) ▸ hwi.out h0 W hW)
      have hov:=Lib.hid (fun (h0 : Cal.polyE p.ps = 0) (j : Nat) (q : Plo) (hjk : j < k) (hj : s.l[j]? = some q) W (hW : Below w.heap.size w W)=>by
       have hq : q ∈ s.l.take k:=by
        have : (s.l.take k)[j]? = some q:=by rw [List.getElem?_take_of_lt hjk];exact hj
        exact List.mem_of_getElem? this
       have hq0:=hok.out q hq
       have hqm:=List.mem_of_mem_take hq
       have hqP:=((hS.out.plots.pts q hqm).plg hq0 (few_ok (hS.out.fews q hqm) hq0)).below hW
       have hpP:=(hpp.out.plg h0 (few_ok hpf.out h0)).below hW
       have:=OverlapR_any q.V q.d q.ps p.V p.d p.ps W hqP.v.pts (hcap.out q hqm) hpP.v.pts hpc.out
       rw [over_same hq0 h0] at this
       exact this : ∀ (h0 : Cal.polyE p.ps = 0) (j : Nat) (q : Plo) (hjk : j < k) (hj : s.l[j]? = some q) W (hW : Below w.heap.size w W),Calls Try.prog 29 #[.slice q.V q.ps.length q.d,.slice p.V p.ps.length p.d] W fun e w'=>e = .returned (.bool (ovB p q)) ∧ Below W.heap.size W w')
      obtain ⟨y1,g1⟩ : ∃ x,nameB p.name = x:=⟨_,rfl⟩
      have hch:=Lib.hid (fun W (hW : Below w.heap.size w W)=>CheckPolyR_any p.V p.d p.ps W (hpp.out.below hW))
      rw [hpR] at hch
      rw [g1] at hE4 hE5 hE6 hE7 hE13 hE0
      replace g1:=Lib.hid g1
      generalize Cal.polyE p.ps = y3 at *
      generalize Cal.withinP p.ps s.ps = y4 at *
      clear hz0 hcap hS hpR hok hpf hpc hpp
      obtain ⟨nm,V,d,ps,S,e,l⟩:=s
      dsimp only at *
      obtain rfl:=hSS
      (have a0:=hI.out.a.c 0 _ rfl;have a1:=hI.out.a.c 1 _ rfl;have a2:=hI.out.a.c 2 _ rfl;have r0:=hI.out.r.c 0 _ rfl;have r1:=hI.out.r.c 1 _ rfl;have f0:=hI.out.r.free 0 (by simp);have f1:=hI.out.r.free 1 (by simp))
      cases y1
      ·have hR:=Lib.hid (hE4.out rfl)
       clear hE4 hE5 hE6 hE7 hE13 hE0 hwi hov hch
       go_wp2_with (go_at_call 77;clear a0 a1 a2 r0 r1 f0 f1;replace hI:=hI2;clear hI2;(have a0:=hI.out.cs.a.c 0 _ rfl;have a1:=hI.out.cs.a.c 1 _ rfl;have a2:=hI.out.cs.a.c 2 _ rfl;have r0:=hI.out.cs.r.c 0 _ rfl;have r1:=hI.out.cs.r.c 1 _ rfl;have f0:=hI.out.cs.r.free 0 (by simp);have f1:=hI.out.cs.r.free 1 (by simp);have p0:=hI.out.b6.c 0 _ rfl;have p1:=hI.out.b6.c 1 _ rfl;have k0:=hI.out.b7.c 0 _ rfl;have k1:=hI.out.b7.c 1 _ rfl);refine (IsName_any p.name _ hpn.out).mono ?_;rintro e0 wn ⟨rfl,rfl⟩;rw [g1.out])
       refine bodyPost_ret (results_mid2 rfl _ _ (w.heap.size + 1) [.int .i64 ((k : Int)),.int .i64 ((k : Int))] _ rfl ((hI.out.cs.r.set 0 (.int .i64 ((k : Int))) (by simp)).set 1 (.int .i64 ((k : Int))) (by simp)).range Try.underlying64 rfl arr2Size) rfl ⟨by rw [hR.out];rfl,?_⟩
       exact (hI.out.cs.bel.setCell (p:=⟨w.heap.size + 1,0,none⟩) (Nat.le_succ _) _).setCell (p:=⟨w.heap.size + 1,1,none⟩) (Nat.le_succ _) _
      ·replace hE5:=Lib.hid (hE5.out rfl)
       replace hE6:=Lib.hid (hE6.out rfl)
       replace hE7:=Lib.hid (hE7.out rfl)
       replace hE13:=Lib.hid (hE13.out rfl)
       replace hE0:=Lib.hid (hE0.out rfl)
       clear hE4
       go_wp2_with (go_at_call 77;clear a0 a1 a2 r0 r1 f0 f1;replace hI:=hI2;clear hI2 c0 c1 hbl;refine (IsName_any p.name _ hpn.out).mono ?_;rintro e0 wn ⟨rfl,rfl⟩;rw [g1.out])
       have hno0 : Hid (((l.take 0).any fun q=>sameN q p) = false):=rfl
       generalize hwx : (wr.alloc (.cells #[.string p.name,.slice p.V p.ps.length p.d] 73)).alloc (.cells #[.int .i64 (k : Int),.int .i64 (k : Int)] 64) = wx at *
       generalize wr.heap.size = B at *
       clear hwx wr
       go_loopw [8] (fun jv wr=>∃ j : Nat,j ≤ k ∧ jv = .int .i64 j ∧ Hid (((l.take j).any fun q=>sameN q p) = false) ∧ Hid (CdI w _ p k B wr)) (fun jv _=>k - (intOf jv).toNat)
       case atStart=>exact ⟨0,Nat.zero_le _,rfl,hno0,hI⟩
       case round =>
        clear hno0 hI
        obtain ⟨j,hj,rfl,hno,hI⟩:=hrel
        by_cases hlj : j < k
        ·have hjl : (j : Int) < (l.length : Int):=by omega
         have hjk : (j : Int) < (k : Int):=by omega
         have hq:=hgone.out j hlj
         generalize l[j] = q at *
         obtain ⟨b',o',hSS,_,d0,d1⟩:=plo_at (hrows.out _ hI.out.cs.bel) hq
         cases hSS
         (have a0:=hI.out.cs.a.c 0 _ rfl;have a1:=hI.out.cs.a.c 1 _ rfl;have a2:=hI.out.cs.a.c 2 _ rfl;have r0:=hI.out.cs.r.c 0 _ rfl;have r1:=hI.out.cs.r.c 1 _ rfl;have f0:=hI.out.cs.r.free 0 (by simp);have f1:=hI.out.cs.r.free 1 (by simp);have p0:=hI.out.b6.c 0 _ rfl;have p1:=hI.out.b6.c 1 _ rfl;have k0:=hI.out.b7.c 0 _ rfl;have k1:=hI.out.b7.c 1 _ rfl)
         cases hs : sameN q p
         ·have hnx : Hid (((l.take (j + 1)).any fun q=>sameN q p) = false):=any_take_succ hq hno.out hs
          unfold sameN at hs
          clear hq d1
          go_wp2_with fail
          refine wp_region_held_drew (S:=Sx wr [(w.heap.size,2,.slice (some ⟨b,o,none⟩) l.length e),(b,o + j * 2,.string q.name),(B,0,.string p.name)]) (by kernel_rfl) (Sx.mk (by simp only [cs_iff_cons];exact ⟨a2,d0,p0,cs_nil _⟩) (Below.refl _ _)).drew (fun hHeld=>?_)
          clear a0 a1 a2 r0 r1 f0 f1 p0 p1 k0 k1
          clear d0
          refine tkHx 0 53 ?_
          refine tkHx 1 54 ?_
          refine tkHx 2 55 ?_
          refine tkHx 3 56 ?_
          refine tkHx 4 57 ?_
          refine tkHx 5 58 ?_
          refine tkHx 6 59 ?_
          refine tkHx 7 60 ?_
          refine tkHx 8 61 ?_
          refine wpAnyH_done (by kernel_rfl) ?_ _
          (try simp only [apS,apN,siA,scZ,scS])
          replace hI:=Lib.hid (hI.out.below hHeld.bel)
          clear hHeld
          go_wp2_with fail
          go_roundw
          case rel=>exact ⟨j + 1,by omega,by go_num,hnx,hI⟩
          case measure=>simp [intOf];omega
         ·have hR:=Lib.hid (hE5.out (any_take_hit hq hlj hs))
          unfold sameN at hs
          clear hq d1 hE5 hE6 hE7 hE13 hE0 hwi hov hch
          go_wp2_with fail
          refine wp_region_held_drew (S:=Sx wr [(w.heap.size,2,.slice (some ⟨b,o,none⟩) l.length e),(b,o + j * 2,.string q.name),(B,0,.string p.name)]) (by kernel_rfl) (Sx.mk (by simp only [cs_iff_cons];exact ⟨a2,d0,p0,cs_nil _⟩) (Below.refl _ _)).drew (fun hHeld=>?_)
          clear a0 a1 a2 r0 r1 f0 f1 p0 p1 k0 k1
          clear d0
          refine tkHx 0 53 ?_
          refine tkHx 1 54 ?_
          refine tkHx 2 55 ?_
          refine tkHx 3 56 ?_
          refine tkHx 4 57 ?_
          refine tkHx 5 58 ?_
          refine tkHx 6 59 ?_
          refine tkHx 7 60 ?_
          refine tkHx 8 61 ?_
          refine wpAnyH_done (by kernel_rfl) ?_ _
          (try simp only [apS,apN,siA,scZ,scS])
          replace hI:=Lib.hid (hI.out.below hHeld.bel)
          clear hHeld
          generalize hwd : wr.drew = wd at *
          clear hwd
          (have a0:=hI.out.cs.a.c 0 _ rfl;have a1:=hI.out.cs.a.c 1 _ rfl;have a2:=hI.out.cs.a.c 2 _ rfl;have r0:=hI.out.cs.r.c 0 _ rfl;have r1:=hI.out.cs.r.c 1 _ rfl;have f0:=hI.out.cs.r.free 0 (by simp);have f1:=hI.out.cs.r.free 1 (by simp);have p0:=hI.out.b6.c 0 _ rfl;have p1:=hI.out.b6.c 1 _ rfl;have k0:=hI.out.b7.c 0 _ rfl;have k1:=hI.out.b7.c 1 _ rfl)
          go_wp2_with fail
          refine bodyPost_ret (results_mid2 rfl _ _ (w.heap.size + 1) [.int .i64 ((k : Int)),.int .i64 ((k : Int))] _ rfl ((hI.out.cs.r.set 0 (.int .i64 ((k : Int))) (by simp)).set 1 (.int .i64 ((k : Int))) (by simp)).range Try.underlying64 rfl arr2Size) rfl ⟨by rw [hR.out];rfl,?_⟩
          exact (hI.out.cs.bel.setCell (p:=⟨w.heap.size + 1,0,none⟩) (Nat.le_succ _) _).setCell (p:=⟨w.heap.size + 1,1,none⟩) (Nat.le_succ _) _
        ·obtain rfl : j = k:=by omega
         replace hE6:=Lib.hid (hE6.out hno.out)
         replace hE7:=Lib.hid (hE7.out hno.out)
         replace hE13:=Lib.hid (hE13.out hno.out)
         replace hE0:=Lib.hid (hE0.out hno.out)
         clear hno hE5
         (have a0:=hI.out.cs.a.c 0 _ rfl;have a1:=hI.out.cs.a.c 1 _ rfl;have a2:=hI.out.cs.a.c 2 _ rfl;have r0:=hI.out.cs.r.c 0 _ rfl;have r1:=hI.out.cs.r.c 1 _ rfl;have f0:=hI.out.cs.r.free 0 (by simp);have f1:=hI.out.cs.r.free 1 (by simp);have p0:=hI.out.b6.c 0 _ rfl;have p1:=hI.out.b6.c 1 _ rfl;have k0:=hI.out.b7.c 0 _ rfl;have k1:=hI.out.b7.c 1 _ rfl)
         by_cases z3 : y3 = 0
         ·subst z3
          replace hE7:=Lib.hid (hE7.out rfl)
          replace hE13:=Lib.hid (hE13.out rfl)
          replace hE0:=Lib.hid (hE0.out rfl)
          replace hwi:=Lib.hid (hwi.out rfl)
          replace hov:=Lib.hid (hov.out rfl)
          replace hok2:=Lib.hid (hok2.out rfl)
          clear hE6
          cases y4
          ·have hR:=Lib.hid (hE7.out rfl)
           clear hE7 hE13 hE0 hov
           go_wp2_with (first
            |(go_at_call 63;clear a0 a1 a2 r0 r1 f0 f1 p0 p1 k0 k1;refine (hch.out _ hI.out.cs.bel).mono ?_;clear hch;rintro e0 wn ⟨rfl,hbn⟩;(replace hI:=Lib.hid (hI.out.below hbn);clear hbn;(have a0:=hI.out.cs.a.c 0 _ rfl;have a1:=hI.out.cs.a.c 1 _ rfl;have a2:=hI.out.cs.a.c 2 _ rfl;have r0:=hI.out.cs.r.c 0 _ rfl;have r1:=hI.out.cs.r.c 1 _ rfl;have f0:=hI.out.cs.r.free 0 (by simp);have f1:=hI.out.cs.r.free 1 (by simp);have p0:=hI.out.b6.c 0 _ rfl;have p1:=hI.out.b6.c 1 _ rfl;have k0:=hI.out.b7.c 0 _ rfl;have k1:=hI.out.b7.c 1 _ rfl)))
            |(go_at_call 34;clear a0 a1 a2 r0 r1 f0 f1 p0 p1 k0 k1;refine (hwi.out _ hI.out.cs.bel).mono ?_;clear hwi;rintro e0 wn ⟨rfl,hbn⟩;(replace hI:=Lib.hid (hI.out.below hbn);clear hbn;(have a0:=hI.out.cs.a.c 0 _ rfl;have a1:=hI.out.cs.a.c 1 _ rfl;have a2:=hI.out.cs.a.c 2 _ rfl;have r0:=hI.out.cs.r.c 0 _ rfl;have r1:=hI.out.cs.r.c 1 _ rfl;have f0:=hI.out.cs.r.free 0 (by simp);have f1:=hI.out.cs.r.free 1 (by simp);have p0:=hI.out.b6.c 0 _ rfl;have p1:=hI.out.b6.c 1 _ rfl;have k0:=hI.out.b7.c 0 _ rfl;have k1:=hI.out.b7.c 1 _ rfl))))
           refine bodyPost_ret (results_mid2 rfl _ _ (w.heap.size + 1) [.int .i64 ((j : Int)),.int .i64 ((j : Int))] _ rfl ((hI.out.cs.r.set 0 (.int .i64 ((j : Int))) (by simp)).set 1 (.int .i64 ((j : Int))) (by simp)).range Try.underlying64 rfl arr2Size) rfl ⟨by rw [hR.out];rfl,?_⟩
           exact (hI.out.cs.bel.setCell (p:=⟨w.heap.size + 1,0,none⟩) (Nat.le_succ _) _).setCell (p:=⟨w.heap.size + 1,1,none⟩) (Nat.le_succ _) _
          ·replace hE13:=Lib.hid (hE13.out rfl)
           replace hE0:=Lib.hid (hE0.out rfl)
           clear hE7
           have hno0 : Hid ((l.take 0).any (ovB p) = false):=rfl
           go_wp2_with (first
            |(go_at_call 63;clear a0 a1 a2 r0 r1 f0 f1 p0 p1 k0 k1;refine (hch.out _ hI.out.cs.bel).mono ?_;clear hch;rintro e0 wn ⟨rfl,hbn⟩;(replace hI:=Lib.hid (hI.out.below hbn);clear hbn;(have a0:=hI.out.cs.a.c 0 _ rfl;have a1:=hI.out.cs.a.c 1 _ rfl;have a2:=hI.out.cs.a.c 2 _ rfl;have r0:=hI.out.cs.r.c 0 _ rfl;have r1:=hI.out.cs.r.c 1 _ rfl;have f0:=hI.out.cs.r.free 0 (by simp);have f1:=hI.out.cs.r.free 1 (by simp);have p0:=hI.out.b6.c 0 _ rfl;have p1:=hI.out.b6.c 1 _ rfl;have k0:=hI.out.b7.c 0 _ rfl;have k1:=hI.out.b7.c 1 _ rfl)))
            |(go_at_call 34;clear a0 a1 a2 r0 r1 f0 f1 p0 p1 k0 k1;refine (hwi.out _ hI.out.cs.bel).mono ?_;clear hwi;rintro e0 wn ⟨rfl,hbn⟩;replace hI:=Lib.hid (hI.out.below hbn);clear hbn))
           go_loopw [10] (fun jv wr=>∃ i : Nat,i ≤ j ∧ jv = .int .i64 i ∧ Hid ((l.take i).any (ovB p) = false) ∧ Hid (CdI w _ p j B wr)) (fun jv _=>j - (intOf jv).toNat)
           case atStart=>exact ⟨0,Nat.zero_le _,rfl,hno0,hI⟩
           case round =>
            clear hno0 hI
            obtain ⟨i,hi,rfl,hno,hI⟩:=hrel
            by_cases hli : i < j
            ·have hil : (i : Int) < (l.length : Int):=by omega
             have hij : (i : Int) < (j : Int):=by omega
             have hq:=hgone.out i hli
             generalize l[i] = q at *
             obtain ⟨b',o',hSS,_,d0,d1⟩:=plo_at (hrows.out _ hI.out.cs.bel) hq
             cases hSS
             have hbT:=Lib.hid hI.out.cs.bel
             have hovq:=Lib.hid (hov.out i q hli hq)
             have hhit:=Lib.hid (hE13.out i q hli hq hno.out)
             (have a0:=hI.out.cs.a.c 0 _ rfl;have a1:=hI.out.cs.a.c 1 _ rfl;have a2:=hI.out.cs.a.c 2 _ rfl;have r0:=hI.out.cs.r.c 0 _ rfl;have r1:=hI.out.cs.r.c 1 _ rfl;have f0:=hI.out.cs.r.free 0 (by simp);have f1:=hI.out.cs.r.free 1 (by simp);have p0:=hI.out.b6.c 0 _ rfl;have p1:=hI.out.b6.c 1 _ rfl;have k0:=hI.out.b7.c 0 _ rfl;have k1:=hI.out.b7.c 1 _ rfl)
             cases hs : ovB p q
             ·have hnx : Hid ((l.take (i + 1)).any (ovB p) = false):=any_take_succ hq hno.out hs
              rw [hs] at hovq
              clear hq d0 hhit hs
              go_wp2_with fail
              refine wp_region_held_drew (S:=Sx wr [(w.heap.size,2,.slice (some ⟨b,o,none⟩) l.length e),(b,o + i * 2 + 1,.slice q.V q.ps.length q.d),(B,1,.slice p.V p.ps.length p.d)]) (by kernel_rfl) (Sx.mk (by simp only [cs_iff_cons];exact ⟨a2,d1,p1,cs_nil _⟩) (Below.refl _ _)).drew (fun hHeld=>?_)
              clear a0 a1 a2 r0 r1 f0 f1 p0 p1 k0 k1
              clear d1
              refine tkHx 0 82 ?_
              refine tkHx 1 83 ?_
              refine tkHx 2 84 ?_
              refine tkHx 3 85 ?_
              refine tkHx 4 86 ?_
              refine tkHx 5 87 ?_
              refine tkHx 6 88 ?_
              refine tkHx 7 89 ?_
              (refine ratHx 8 (fun K hK=>?_);go_simp)
              refine (hovq.out _ (hbT.out.trans (hHeld.bel.mono hbT.out.size))).mono ?_
              rintro e wn ⟨rfl,hbn⟩
              go_simp
              (refine hK.out _ _ (hHeld.step hbn) (fun hHeld=>?_);clear hK K;(try simp only [apS,apN,siA,scZ,scS]))
              refine wpAnyH_done (by kernel_rfl) ?_ _
              (try simp only [apS,apN,siA,scZ,scS])
              replace hI:=Lib.hid (hI.out.below hHeld.bel)
              clear hHeld
              go_wp2_with fail
              go_roundw
              case rel=>exact ⟨i + 1,by omega,by go_num,hnx,hI⟩
              case measure=>simp [intOf];omega
             ·have hR:=Lib.hid (hhit.out hs)
              rw [hs] at hovq
              clear hq d0 hhit hs
              go_wp2_with fail
              refine wp_region_held_drew (S:=Sx wr [(w.heap.size,2,.slice (some ⟨b,o,none⟩) l.length e),(b,o + i * 2 + 1,.slice q.V q.ps.length q.d),(B,1,.slice p.V p.ps.length p.d)]) (by kernel_rfl) (Sx.mk (by simp only [cs_iff_cons];exact ⟨a2,d1,p1,cs_nil _⟩) (Below.refl _ _)).drew (fun hHeld=>?_)
              clear a0 a1 a2 r0 r1 f0 f1 p0 p1 k0 k1
              clear d1
              refine tkHx 0 82 ?_
              refine tkHx 1 83 ?_
              refine tkHx 2 84 ?_
              refine tkHx 3 85 ?_
              refine tkHx 4 86 ?_
              refine tkHx 5 87 ?_
              refine tkHx 6 88 ?_
              refine tkHx 7 89 ?_
              (refine ratHx 8 (fun K hK=>?_);go_simp)
              refine (hovq.out _ (hbT.out.trans (hHeld.bel.mono hbT.out.size))).mono ?_
              rintro e wn ⟨rfl,hbn⟩
              go_simp
              (refine hK.out _ _ (hHeld.step hbn) (fun hHeld=>?_);clear hK K;(try simp only [apS,apN,siA,scZ,scS]))
              refine wpAnyH_done (by kernel_rfl) ?_ _
              (try simp only [apS,apN,siA,scZ,scS])
              replace hI:=Lib.hid (hI.out.below hHeld.bel)
              clear hHeld
              (have a0:=hI.out.cs.a.c 0 _ rfl;have a1:=hI.out.cs.a.c 1 _ rfl;have a2:=hI.out.cs.a.c 2 _ rfl;have r0:=hI.out.cs.r.c 0 _ rfl;have r1:=hI.out.cs.r.c 1 _ rfl;have f0:=hI.out.cs.r.free 0 (by simp);have f1:=hI.out.cs.r.free 1 (by simp);have p0:=hI.out.b6.c 0 _ rfl;have p1:=hI.out.b6.c 1 _ rfl;have k0:=hI.out.b7.c 0 _ rfl;have k1:=hI.out.b7.c 1 _ rfl)
              go_wp2_with fail
              refine bodyPost_ret (results_mid2 rfl _ _ (w.heap.size + 1) [.int .i64 ((i : Int)),.int .i64 ((j : Int))] _ rfl ((hI.out.cs.r.set 0 (.int .i64 ((i : Int))) (by simp)).set 1 (.int .i64 ((j : Int))) (by simp)).range Try.underlying64 rfl arr2Size) rfl ⟨by rw [hR.out];rfl,?_⟩
              exact (hI.out.cs.bel.setCell (p:=⟨w.heap.size + 1,0,none⟩) (Nat.le_succ _) _).setCell (p:=⟨w.heap.size + 1,1,none⟩) (Nat.le_succ _) _
            ·obtain rfl : i = j:=by omega
             have hR2:=Lib.hid (hE0.out hno.out)
             go_wp2_with fail
             go_roundw
             case rel=>exact ⟨i + 1,by omega,by go_num,hR2,hok2,Lib.hid hI.out.cs⟩
             case measure=>simp [intOf];omega
         ·have hR:=Lib.hid (hE6.out z3)
          clear hE6 hE7 hE13 hE0 hwi hov hok2
          go_wp2_with (go_at_call 63;clear a0 a1 a2 r0 r1 f0 f1 p0 p1 k0 k1;refine (hch.out _ hI.out.cs.bel).mono ?_;clear hch;rintro e0 wn ⟨rfl,hbn⟩;(replace hI:=Lib.hid (hI.out.below hbn);clear hbn;(have a0:=hI.out.cs.a.c 0 _ rfl;have a1:=hI.out.cs.a.c 1 _ rfl;have a2:=hI.out.cs.a.c 2 _ rfl;have r0:=hI.out.cs.r.c 0 _ rfl;have r1:=hI.out.cs.r.c 1 _ rfl;have f0:=hI.out.cs.r.free 0 (by simp);have f1:=hI.out.cs.r.free 1 (by simp);have p0:=hI.out.b6.c 0 _ rfl;have p1:=hI.out.b6.c 1 _ rfl;have k0:=hI.out.b7.c 0 _ rfl;have k1:=hI.out.b7.c 1 _ rfl)))
          refine bodyPost_ret (results_mid2 rfl _ _ (w.heap.size + 1) [.int .i64 ((j : Int)),.int .i64 ((j : Int))] _ rfl ((hI.out.cs.r.set 0 (.int .i64 ((j : Int))) (by simp)).set 1 (.int .i64 ((j : Int))) (by simp)).range Try.underlying64 rfl arr2Size) rfl ⟨by rw [hR.out];rfl,?_⟩
          exact (hI.out.cs.bel.setCell (p:=⟨w.heap.size + 1,0,none⟩) (Nat.le_succ _) _).setCell (p:=⟨w.heap.size + 1,1,none⟩) (Nat.le_succ _) _
     ·obtain rfl : k = s.l.length:=by omega
      replace hR : Hid (R = (0,0,0)):=by show _ = _;rw [hR.out,List.drop_length];rfl
      clear hok
      (have a0:=hI.out.a.c 0 _ rfl;have a1:=hI.out.a.c 1 _ rfl;have a2:=hI.out.a.c 2 _ rfl;have r0:=hI.out.r.c 0 _ rfl;have r1:=hI.out.r.c 1 _ rfl;have f0:=hI.out.r.free 0 (by simp);have f1:=hI.out.r.free 1 (by simp))
      go_wp2_with fail
      refine bodyPost_ret (results_mid2 rfl _ _ (w.heap.size + 1) [.int .i64 (0),.int .i64 (0)] _ rfl ((hI.out.r.set 0 (.int .i64 (0)) (by simp)).set 1 (.int .i64 (0)) (by simp)).range Try.underlying64 rfl arr2Size) rfl ⟨by rw [hR.out];rfl,?_⟩
      exact (hI.out.bel.setCell (p:=⟨w.heap.size + 1,0,none⟩) (Nat.le_succ _) _).setCell (p:=⟨w.heap.size + 1,1,none⟩) (Nat.le_succ _) _
  ·replace hR : Hid (R = (0,0,x2)):=by show _ = _;rw [hR.out,if_pos rfl,if_neg z2]
   replace h2:=Lib.hid hpz
   clear hpz
   go_enter Try.func39,Try.ntmps39
   go_wp2_with (first
    |(go_at_call 77;refine (IsName_any s.name _ hnm.out).mono ?_;rintro e0 wn ⟨rfl,rfl⟩;rw [h1.out])
    |(go_at_call 63;clear a0 a1 a2 r0 r1 f0 f1;refine (CheckPolyR_any s.V s.d s.ps _ (hS.out.pts.below hI.out.bel)).mono ?_;rintro e0 wn ⟨rfl,hbn⟩;rw [h2.out];(replace hI:=Lib.hid (hI.out.below hbn);clear hbn;(have a0:=hI.out.a.c 0 _ rfl;have a1:=hI.out.a.c 1 _ rfl;have a2:=hI.out.a.c 2 _ rfl;have r0:=hI.out.r.c 0 _ rfl;have r1:=hI.out.r.c 1 _ rfl;have f0:=hI.out.r.free 0 (by simp);have f1:=hI.out.r.free 1 (by simp)))))
   refine bodyPost_ret (results_mid2 rfl _ _ (w.heap.size + 1) [.int .i64 (0),.int .i64 (0)] _ rfl ((hI.out.r.set 0 (.int .i64 (0)) (by simp)).set 1 (.int .i64 (0)) (by simp)).range Try.underlying64 rfl arr2Size) rfl ⟨by rw [hR.out];rfl,?_⟩
   exact (hI.out.bel.setCell (p:=⟨w.heap.size + 1,0,none⟩) (Nat.le_succ _) _).setCell (p:=⟨w.heap.size + 1,1,none⟩) (Nat.le_succ _) _
end Go.Proofs.Ytfcjeejhdklkdaa
namespace Go.Proofs.Ytfcjeejhdklkdaa
open Go Go.RowKit Go.Shelf
theorem sectL_zero {sec : List Pt} : ∀ {l bf : List Plo},(sectL sec bf l).2.2 = 0 → ∀ k (h : k < l.length),(plotE sec (bf ++ l.take k) l[k]).2 = 0
 | [],_,_,k,h=>by simp at h
 | p :: r,bf,hz,k,h=>by
  unfold sectL at hz
  split at hz
  ·rename_i h0
   cases k with
   | zero=>simpa using h0
   | succ k =>
    have:=sectL_zero (l:=r) (bf:=bf ++ [p]) hz k (by simpa using h)
    simpa using this
  ·rename_i h0;exact absurd hz h0
theorem sectE_zero {name : ByteArray} {ps : List Pt} {l : List Plo} (h : (sectE name ps l).2.2 = 0) : nameB name = true ∧ Cal.polyE ps = 0 ∧ l.length ≤ 60 ∧ ∀ k (h : k < l.length),(plotE ps (l.take k) l[k]).2 = 0:=by
 unfold sectE at h
 split at h
 ·rename_i h1
  split at h
  ·rename_i h2
   split at h
   ·cases h
   ·refine ⟨h1,h2,by omega,fun k hk=>?_⟩
    have:=sectL_zero h k hk
    simpa using this
  ·rename_i h2;exact absurd h h2
 ·cases h
def sumA : List Plo → Int
 | []=>0
 | p :: r=>Cal.areaP p.ps + sumA r
theorem sumA_take {l : List Plo} {k : Nat} (h : k < l.length) : sumA (l.take (k + 1)) = sumA (l.take k) + Cal.areaP l[k].ps:=by
 rw [List.take_succ_eq_append_getElem h]
 have app : ∀ a b : List Plo,sumA (a ++ b) = sumA a + sumA b:=fun a b=>by
  induction a with
  | nil=>simp [sumA]
  | cons x r ih=>rw [List.cons_append,sumA,sumA,ih];omega
 rw [app]
 simp [sumA]
theorem sumA_box : ∀ {l : List Plo},(∀ p ∈ l,-20000000000000 ≤ Cal.areaP p.ps ∧ Cal.areaP p.ps ≤ 20000000000000) → -(20000000000000 * (l.length : Int)) ≤ sumA l ∧ sumA l ≤ 20000000000000 * (l.length : Int)
 | [],_=>by simp [sumA]
 | p :: r,h=>by
  have ih:=sumA_box (l:=r) (fun q hq=>h q (List.mem_cons_of_mem _ hq))
  have hp:=h p (List.mem_cons_self ..)
  rw [sumA,List.length_cons]
  omega
theorem area_box {w : World} {V : Option Addr} {ps : List Pt} (h : Pts w V ps) (hl : ps.length ≤ 10) : -20000000000000 ≤ Cal.areaP ps ∧ Cal.areaP ps ≤ 20000000000000:=by
 have:=areaTo_box h ps.length (Nat.le_refl _)
 unfold Cal.areaP
 omega
def gapS (s : Sct) : Int:=if (sectE s.name s.ps s.l).2.2 = 0 then Cal.areaP s.ps - sumA s.l else 0
structure GpI (w : World) (s : Sct) (W : World) : Prop where
 a : BoxAt W w.heap.size [.string s.name,.slice s.V s.ps.length s.d,.slice s.S s.l.length s.e]
 bel : Below w.heap.size w W
theorem GpI.below {w : World} {s : Sct} {X Y : World} (h : GpI w s X) (hb : Below X.heap.size X Y) : GpI w s Y:=⟨h.a.below hb,below_step h.bel hb⟩
theorem Gap_any (s : Sct) (w : World) (hS : SctR w s) :
  Calls Try.prog 38 #[.agg #[.string s.name,.slice s.V s.ps.length s.d,.slice s.S s.l.length s.e]] w fun e w'=>e = .returned (.tuple #[.int .i64 (gapS s),.int .i64 (sectE s.name s.ps s.l).2.2]) ∧ Below w.heap.size w w':=by
 have hI : Hid (GpI w s (w.alloc (.cells #[.string s.name,.slice s.V s.ps.length s.d,.slice s.S s.l.length s.e] 62))):=⟨BoxAt.new w #[.string s.name,.slice s.V s.ps.length s.d,.slice s.S s.l.length s.e] 62,below_alloc _ _⟩
 have hcs:=Lib.hid (fun W (hW : GpI w s W)=>CheckSection_any s W (hS.below hW.bel))
 have hsz:=hS.plots.size
 by_cases h0 : (sectE s.name s.ps s.l).2.2 = 0
 ·have hz:=sectE_zero h0
  have hg : gapS s = Cal.areaP s.ps - sumA s.l:=by unfold gapS;rw [if_pos h0]
  have hC:=hS.pts.plg hz.2.1 (few_ok hS.few hz.2.1)
  have hCb:=area_box hC.v.pts hC.len
  have hPl : Hid (∀ p ∈ s.l,Plg w p.V p.ps ∧ -20000000000000 ≤ Cal.areaP p.ps ∧ Cal.areaP p.ps ≤ 20000000000000):=fun p hp=>by
   obtain ⟨k,hk,rfl⟩:=List.getElem_of_mem hp
   have h3:=(plotE_zero (hz.2.2.2 k hk)).2.2.1
   have hq:=(hS.plots.pts _ hp).plg h3 (few_ok (hS.fews _ hp) h3)
   exact ⟨hq,area_box hq.v.pts hq.len⟩
  have hl60:=hz.2.2.1
  obtain ⟨R,hR⟩ : ∃ R,sectE s.name s.ps s.l = R:=⟨_,rfl⟩
  rw [hR] at h0 hcs
  rw [hg,hR]
  obtain ⟨R1,R2,R3⟩:=R
  dsimp only at h0 hcs ⊢
  subst h0
  obtain ⟨A,hA⟩ : ∃ A,Cal.areaP s.ps = A:=⟨_,rfl⟩
  rw [hA] at hCb ⊢
  replace hA:=Lib.hid hA
  replace hC:=Lib.hid hC
  have hrows:=Lib.hid hS.plots.rows
  clear hz hg hR hS
  obtain ⟨nm,V,d,ps,S,e,l⟩:=s
  dsimp only at *
  have hS0 : Hid ((0 : Int) = sumA (l.take 0)):=rfl
  (have a0:=hI.out.a.c 0 _ rfl;have a1:=hI.out.a.c 1 _ rfl;have a2:=hI.out.a.c 2 _ rfl)
  go_enter Try.func38,Try.ntmps38
  go_wp2_with (first
   |(go_at_call 37;clear a0 a1 a2;refine (hcs.out _ hI.out).mono ?_;rintro e0 wn ⟨rfl,hbn⟩;replace hI:=Lib.hid (hI.out.below hbn);clear hbn;have lt0:=hI.out.a.lt;(have a0:=hI.out.a.c 0 _ rfl;have a1:=hI.out.a.c 1 _ rfl;have a2:=hI.out.a.c 2 _ rfl))
   |(go_at_call 76;clear a0 a1 a2;refine (area_any V d ps _ (hC.out.below (below_step hI.out.bel (below_alloc _ _))).v.pts).mono ?_;rintro e0 wm ⟨rfl,hbn⟩;rw [hA.out];replace hI:=Lib.hid ((hI.out.below (below_alloc _ _)).below hbn);clear hbn lt0;(have a0:=hI.out.a.c 0 _ rfl;have a1:=hI.out.a.c 1 _ rfl;have a2:=hI.out.a.c 2 _ rfl)))
  clear a0 a1 a2
  go_loopw [6,23] (fun v i wr=>∃ (k : Nat) (z : Int),k ≤ l.length ∧ i = .int .i64 k ∧ v = .int .i64 (A - z) ∧ Hid (z = sumA (l.take k)) ∧ Hid (GpI w _ wr)) (fun _ i _=>l.length - (intOf i).toNat)
  case atStart=>exact ⟨0,0,Nat.zero_le _,rfl,by go_num,hS0,hI⟩
  case round =>
   clear hS0 hI
   obtain ⟨k,z,hk,rfl,rfl,hz,hI⟩:=hrel
   by_cases hlt : k < l.length
   ·have hk' : l[k]? = some l[k]:=List.getElem?_eq_getElem hlt
    have hst:=sumA_take hlt
    have hp:=hPl.out _ (List.getElem_mem hlt)
    have hb1 : ∀ m,-(20000000000000 * 60) ≤ sumA (l.take m) ∧ sumA (l.take m) ≤ 20000000000000 * 60:=fun m=>by
     have:=sumA_box (l:=l.take m) (fun p hp=>(hPl.out p (List.mem_of_mem_take hp)).2)
     rw [List.length_take] at this
     omega
    have hz1:=hb1 k
    rw [← hz.out] at hz1 hst
    clear hb1
    generalize l[k] = p at *
    obtain ⟨b,o,rfl,hbl,c0,c1⟩:=plo_at (hrows.out.below hI.out.bel) hk'
    obtain ⟨g,hg⟩ : ∃ g,Cal.areaP p.ps = g:=⟨_,rfl⟩
    have hPp:=Lib.hid hp.1
    have hgb:=hp.2
    rw [hg] at hgb hst
    replace hg:=Lib.hid hg
    have hz2 : Hid (z + g = sumA (l.take (k + 1))):=hst.symm
    clear hst hp hk' hz
    have lt0:=hI.out.a.lt
    go_wp2_with (go_at_call 76;refine (area_any p.V p.d p.ps _ (hPp.out.below (below_step hI.out.bel (below_alloc _ _))).v.pts).mono ?_;rintro e0 wm ⟨rfl,hbn⟩;rw [hg.out];replace hI:=Lib.hid ((hI.out.below (below_alloc _ _)).below hbn);clear hbn lt0)
    go_roundw
    case rel=>exact ⟨k + 1,z + g,by omega,by go_num,by go_num,hz2,hI⟩
    case measure=>simp [intOf];omega
   ·obtain rfl : k = l.length:=by omega
    replace hz : Hid (z = sumA l):=by show _ = _;rw [hz.out,List.take_length]
    go_wp2_with fail
    go_ret2
    exact ⟨by rw [← hz.out];rfl,hI.out.bel⟩
 ·have hg : gapS s = 0:=by unfold gapS;rw [if_neg h0]
  rw [hg]
  obtain ⟨R,hR⟩ : ∃ R,sectE s.name s.ps s.l = R:=⟨_,rfl⟩
  rw [hR] at h0 hcs
  rw [hR]
  obtain ⟨R1,R2,R3⟩:=R
  dsimp only at h0 hcs ⊢
  clear hR hg hS
  (have a0:=hI.out.a.c 0 _ rfl;have a1:=hI.out.a.c 1 _ rfl;have a2:=hI.out.a.c 2 _ rfl)
  go_enter Try.func38,Try.ntmps38
  go_wp2_with (go_at_call 37;clear a0 a1 a2;refine (hcs.out _ hI.out).mono ?_;rintro e0 wn ⟨rfl,hbn⟩;replace hI:=Lib.hid (hI.out.below hbn);clear hbn)
  go_ret2
  exact ⟨rfl,hI.out.bel.trans (below_alloc _ _ |>.mono (by have:=hI.out.bel.size;omega))⟩
end Go.Proofs.Ytfcjeejhdklkdaa
