/- What the statements rest on: definitions and walks, part 44. -/
import Derived.Test.YthfokpchdlcidaaJ43
set_option maxRecDepth 100000
set_option maxHeartbeats 16000000
set_option linter.unusedSimpArgs false
set_option linter.unusedVariables false
namespace Go.Proofs.Ythfokpchdlcidaa
open Go Go.RowKit Go.Shelf
def insB (q : Pt) (p : Plo) : Prop:=0 < Cal.whereP p.ps q
def InsR (q : Pt) (l : List Plo) (k : Nat) (n m : Int) : Prop :=
 (n = 0 ∧ m = -1 ∧ ∀ i (h : i < l.length),i < k → ¬ insB q l[i]) ∨ (n = 1 ∧ ∃ (j : Nat) (h : j < l.length),j < k ∧ m = j ∧ insB q l[j])
theorem InsR.start (q : Pt) (l : List Plo) : InsR q l 0 0 (-1):=Or.inl ⟨rfl,rfl,fun i _ h=>absurd h (Nat.not_lt_zero _)⟩
def OneIn (q : Pt) (l : List Plo) : Prop:=∀ i j (hi : i < l.length) (hj : j < l.length),i ≠ j → insB q l[i] → Cal.whereP l[j].ps q < 0
theorem InsR.no {q : Pt} {l : List Plo} {k : Nat} {n m : Int} (h : InsR q l k n m) (hk : k < l.length) (hn : ¬ insB q l[k]) : InsR q l (k + 1) n m:=by
 rcases h with ⟨h1,h2,h3⟩ | ⟨h1,j,hj,h2,h3,h4⟩
 ·refine Or.inl ⟨h1,h2,fun i hi h=>?_⟩
  rcases Nat.lt_succ_iff_lt_or_eq.1 h with h' | h'
  ·exact h3 i hi h'
  ·subst h';exact hn
 ·exact Or.inr ⟨h1,j,hj,Nat.lt_succ_of_lt h2,h3,h4⟩
theorem InsR.yes {q : Pt} {l : List Plo} {k : Nat} {n m : Int} (h : InsR q l k n m) (ho : OneIn q l) (hk : k < l.length) (hn : insB q l[k]) : n = 0 ∧ InsR q l (k + 1) 1 k:=by
 refine ⟨?_,Or.inr ⟨rfl,k,hk,Nat.lt_succ_self _,rfl,hn⟩⟩
 rcases h with ⟨h1,h2,h3⟩ | ⟨h1,j,hj,h2,h3,h4⟩
 ·exact h1
 ·have:=ho j k hj hk (by omega) h4
  unfold insB at hn
  omega
theorem InsR.end {q : Pt} {l : List Plo} {n m : Int} (h : InsR q l l.length n m) (ho : OneIn q l) : n = 0 ∨ n = 1 ∧ 0 ≤ idxP (atB q) l ∧ idxP (atB q) l = m:=by
 rcases h with ⟨h1,h2,h3⟩ | ⟨h1,j,hj,h2,h3,h4⟩
 ·exact Or.inl h1
 ·have : idxP (atB q) l = j:=by
   refine idxP_at (List.getElem?_eq_getElem hj) ?_ ?_
   ·rw [List.any_eq_false]
    intro p hp
    obtain ⟨i,hi,rfl⟩:=List.getElem_of_mem hp
    rw [List.length_take] at hi
    rw [List.getElem_take]
    have:=ho j i hj (by omega) (by omega) h4
    unfold atB
    rw [decide_eq_false (by omega)]
    decide
   ·unfold atB insB at *
    rw [decide_eq_true (by omega)]
  exact Or.inr ⟨h1,by omega,by omega⟩
theorem one_in {name : ByteArray} {ps : List Pt} {l : List Plo} (h : (sectE name ps l).2.2 = 0) (q : Pt) :
  OneIn q l ∧ ∀ k (hk : k < l.length),((Cal.whereP ps q < 0 → Cal.whereP l[k].ps q < 0) ∧ (0 < Cal.whereP l[k].ps q → Cal.whereP ps q = 1)) ∧ (Cal.whereP l[k].ps q = 1 ∨ Cal.whereP l[k].ps q = 0 ∨ Cal.whereP l[k].ps q = -1):=by
 obtain ⟨_,hs,_,hk⟩:=sectE_zero h
 have key : ∀ k (h : k < l.length),Cal.polyE l[k].ps = 0 ∧ Cal.withinP l[k].ps ps = true ∧ ∀ q ∈ l.take k,Cal.overlapP q.ps l[k].ps = false:=fun k h=>by
  obtain ⟨_,_,h3,h4,h5⟩:=plotE_zero (hk k h)
  exact ⟨h3,h4,idxP_neg h5⟩
 have hno : ∀ i j (hi : i < l.length) (hj : j < l.length),i < j → Cal.overlapP l[i].ps l[j].ps = false:=fun i j hi hj hij =>
  (key j hj).2.2 l[i] (List.mem_of_getElem? (i:=i) (by rw [List.getElem?_take_of_lt hij];exact List.getElem?_eq_getElem hi))
 refine ⟨fun i j hi hj hne hin=>?_,fun k hk=>⟨Cal.within_where (key k hk).1 hs (key k hk).2.1 q,Cal.where_three (key k hk).1 q⟩⟩
 refine Cal.apart_where (key i hi).1 (key j hj).1 ?_ hin
 rcases Nat.lt_or_gt_of_ne hne with h | h
 ·exact hno i j hi hj h
 ·rw [Cal.overlap_symm (key i hi).1 (key j hj).1]
  exact hno j i hj hi h
theorem TopOneGround_any (s : Sct) (q : Pt) (w : World) (hO : SctO w s) :
  Calls Try.prog 4 #[.agg #[.string s.name,.slice s.V s.ps.length s.d,.slice s.S s.l.length s.e],.agg #[.int .i64 q.x,.int .i64 q.y]] w fun e w'=>e = .returned (.bool true) ∧ Below w.heap.size w w':=by
 have hI : Hid (PaI w s q ((w.alloc (.cells #[.string s.name,.slice s.V s.ps.length s.d,.slice s.S s.l.length s.e] 38)).alloc (.cells #[.int .i64 q.x,.int .i64 q.y] 40))):=by
  have b2:=BoxAt.new (w.alloc (.cells #[.string s.name,.slice s.V s.ps.length s.d,.slice s.S s.l.length s.e] 38)) #[.int .i64 q.x,.int .i64 q.y] 40
  rw [World.size_alloc] at b2
  exact ⟨(BoxAt.new w #[.string s.name,.slice s.V s.ps.length s.d,.slice s.S s.l.length s.e] 38).alloc _,b2,below_step (below_alloc _ _) (below_alloc _ _)⟩
 have hsm:=Lib.hid (fun W (hb : Below w.heap.size w W)=>Small_any s W (hO.prow.below hb))
 have hrs:=Lib.hid (fun W (hb : Below w.heap.size w W)=>CheckSectionO_any s W (hO.below hb))
 replace hO:=Lib.hid hO
 have hg1 : (sectE s.name s.ps s.l).2.2 = 0 → gapS s = Cal.areaP s.ps - sumA s.l:=fun h=>by unfold gapS;rw [if_pos h]
 have hcs:=Lib.hid (fun (hS : SctR w s) W (hb : Below w.heap.size w W)=>Gap_any s W (hS.below hb))
 have hpa:=Lib.hid (fun (hS : SctR w s) (h0 : (sectE s.name s.ps s.l).2.2 = 0) (hq : Cal.ptErr q = 0) W (hb : Below w.heap.size w W)=>PlotAt_any s q W (hS.below hb) h0 hq)
 have hz:=Lib.hid (fun h=>sectE_zero (name:=s.name) (ps:=s.ps) (l:=s.l) h)
 have hon:=Lib.hid (fun h=>one_in (name:=s.name) (ps:=s.ps) (l:=s.l) h q)
 have hin:=Lib.hid (fun W=>InPlaceR_any q W)
 generalize gapS s = G at *
 generalize sectE s.name s.ps s.l = E at *
 obtain ⟨e1,e2,c⟩:=E
 dsimp only at *
 (have a0:=hI.out.a.c 0 _ rfl;have a1:=hI.out.a.c 1 _ rfl;have a2:=hI.out.a.c 2 _ rfl;have b0:=hI.out.b.c 0 _ rfl;have b1:=hI.out.b.c 1 _ rfl)
 go_enter Try.func4,Try.ntmps4
 go_wp2_with (first
  |(go_at_call 13;clear a0 a1 a2 b0 b1;refine (surveyed_any _).mono ?_;rintro e0 wn ⟨rfl,hbn⟩;replace hI:=Lib.hid (hI.out.below hbn);clear hbn;(have a0:=hI.out.a.c 0 _ rfl;have a1:=hI.out.a.c 1 _ rfl;have a2:=hI.out.a.c 2 _ rfl;have b0:=hI.out.b.c 0 _ rfl;have b1:=hI.out.b.c 1 _ rfl))
  |(go_at_call 14;clear a0 a1 a2 b0 b1;refine (hrs.out _ hI.out.bel).mono ?_;clear hrs;rintro e0 wk ⟨rfl,hbn⟩;replace hI:=Lib.hid ((hI.out.below hbn).below (below_alloc wk (.cells #[.int .i64 e1,.int .i64 e2] 41)));clear hbn;(have a0:=hI.out.a.c 0 _ rfl;have a1:=hI.out.a.c 1 _ rfl;have a2:=hI.out.a.c 2 _ rfl;have b0:=hI.out.b.c 0 _ rfl;have b1:=hI.out.b.c 1 _ rfl)))
 clear a0 a1 a2 b0 b1
 refine (hsm.out _ hI.out.bel).mono ?_
 clear hsm
 rintro e0 wm ⟨bs,rfl,hf,hbn⟩
 replace hI:=Lib.hid (hI.out.below hbn)
 clear hbn
 (have a0:=hI.out.a.c 0 _ rfl;have a1:=hI.out.a.c 1 _ rfl;have a2:=hI.out.a.c 2 _ rfl;have b0:=hI.out.b.c 0 _ rfl;have b1:=hI.out.b.c 1 _ rfl)
 cases bs
 ·clear hO hf hcs hpa hz hon hin hg1
  go_wp2_with fail
  go_ret
  exact ⟨rfl,hI.out.bel⟩
 have hS:=hO.out.sct (hf rfl)
 clear hf hO
 by_cases h0 : c = 0
 ·subst h0
  have hG:=hg1 rfl
  have hz':=hz.out rfl
  obtain ⟨hone,hwk⟩:=hon.out rfl
  replace hcs:=Lib.hid (hcs.out hS)
  replace hpa:=Lib.hid (hpa.out hS rfl)
  clear hz hon hg1
  cases hx : inPl q
  ·rw [hx] at hin
   clear hcs hpa hone hwk hz' hG hS
   go_wp2_with (go_at_call 16;refine (hin.out _).mono ?_;rintro e0 wj ⟨rfl,hbn⟩;replace hI:=Lib.hid (hI.out.below hbn);clear hbn)
   go_ret
   exact ⟨rfl,hI.out.bel⟩
  ·rw [hx] at hin
   have hq0:=(inPl_err q).1 hx
   clear hx
   replace hpa:=Lib.hid (hpa.out hq0)
   have hC:=hS.pts.plg hz'.2.1 (few_ok hS.few hz'.2.1)
   have hCb:=area_box hC.v.pts hC.len
   have hPl : Hid (∀ p ∈ s.l,Cal.polyE p.ps = 0 ∧ PtsR w p.V p.ps ∧ -20000000000000 ≤ Cal.areaP p.ps ∧ Cal.areaP p.ps ≤ 20000000000000):=fun p hp=>by
    obtain ⟨k,hk,rfl⟩:=List.getElem_of_mem hp
    have h3:=(plotE_zero (hz'.2.2.2 k hk)).2.2.1
    have hq:=(hS.plots.pts _ hp).plg h3 (few_ok (hS.fews _ hp) h3)
    exact ⟨h3,hS.plots.pts _ hp,area_box hq.v.pts hq.len⟩
   have hl60:=hz'.2.2.1
   have hAr:=Lib.hid (fun W (hb : Below w.heap.size w W)=>Area_any s.V s.d s.ps W (hS.pts.below hb))
   rw [hz'.2.1,if_pos rfl] at hAr
   have hwe : whE s.ps q = 0:=by unfold whE;rw [if_pos hz'.2.1,hq0]
   have hWh:=Lib.hid (fun W (hb : Below w.heap.size w W)=>Where_any s.V s.d s.ps q W (hS.pts.below hb))
   rw [hwe,if_pos rfl] at hWh
   have hx3:=Cal.where_three hz'.2.1 q
   have hrows:=Lib.hid hS.plots.rows
   have hPW : Hid (∀ p ∈ s.l,∀ W,Below w.heap.size w W → Calls Try.prog 17 #[.slice p.V p.ps.length p.d,.agg #[.int .i64 q.x,.int .i64 q.y]] W fun e w'=>e = .returned (.tuple #[.int .i64 (Cal.whereP p.ps q),.int .i64 0]) ∧ Below W.heap.size W w'):=fun p hp W hb=>by
    obtain ⟨h3,hR,_⟩:=hPl.out p hp
    have hwe : whE p.ps q = 0:=by unfold whE;rw [if_pos h3,hq0]
    have:=Where_any p.V p.d p.ps q W (hR.below hb)
    rw [hwe,if_pos rfl] at this
    exact this
   have hPA : Hid (∀ p ∈ s.l,∀ W,Below w.heap.size w W → Calls Try.prog 18 #[.slice p.V p.ps.length p.d] W fun e w'=>e = .returned (.tuple #[.int .i64 (Cal.areaP p.ps),.int .i64 0]) ∧ Below W.heap.size W w'):=fun p hp W hb=>by
    obtain ⟨h3,hR,_⟩:=hPl.out p hp
    have:=Area_any p.V p.d p.ps W (hR.below hb)
    rw [h3,if_pos rfl] at this
    exact this
   replace hPl:=Lib.hid (fun p hp=>(hPl.out p hp).2.2)
   replace hone:=Lib.hid hone
   replace hwk:=Lib.hid hwk
   replace hG:=Lib.hid hG
   clear hz' hC hS hwe hq0
   generalize Cal.areaP s.ps = A at *
   generalize Cal.whereP s.ps q = x at *
   obtain ⟨nm,V,d,ps,S,e,l⟩:=s
   dsimp only at *
   have hi0 : Hid (InsR q l 0 0 (-1)):=InsR.start q l
   have hS0 : Hid ((0 : Int) = sumA (l.take 0)):=rfl
   go_wp2_with (first
    |(go_at_call 16;clear a0 a1 a2 b0 b1;refine (hin.out _).mono ?_;clear hin;rintro e0 wj ⟨rfl,hbn⟩;replace hI:=Lib.hid (hI.out.below hbn);clear hbn;(have a0:=hI.out.a.c 0 _ rfl;have a1:=hI.out.a.c 1 _ rfl;have a2:=hI.out.a.c 2 _ rfl;have b0:=hI.out.b.c 0 _ rfl;have b1:=hI.out.b.c 1 _ rfl))
    |(go_at_call 17;clear a0 a1 a2 b0 b1;refine (hWh.out _ hI.out.bel).mono ?_;clear hWh;rintro e0 wj ⟨rfl,hbn⟩;replace hI:=Lib.hid (hI.out.below hbn);clear hbn;(have a0:=hI.out.a.c 0 _ rfl;have a1:=hI.out.a.c 1 _ rfl;have a2:=hI.out.a.c 2 _ rfl;have b0:=hI.out.b.c 0 _ rfl;have b1:=hI.out.b.c 1 _ rfl)))
   clear a0 a1 a2 b0 b1
   go_loopw [9,10,11,12] (fun nv mv av iv wr=>∃ (k : Nat) (n m z : Int),k ≤ l.length ∧ iv = .int .i64 k ∧ nv = .int .i64 n ∧ mv = .int .i64 m ∧ av = .int .i64 z ∧ Hid (InsR q l k n m) ∧ Hid (z = sumA (l.take k)) ∧ Hid (PaI w _ q wr)) (fun _ _ _ iv _=>l.length - (intOf iv).toNat)
   case atStart=>exact ⟨0,0,-1,0,Nat.zero_le _,rfl,rfl,rfl,rfl,hi0,hS0,hI⟩
   case round =>
    clear hi0 hS0 hI
    obtain ⟨k,n,m,z,hk,rfl,rfl,rfl,rfl,hin,hz,hI⟩:=hrel
    have hb1 : ∀ m,-(20000000000000 * 60) ≤ sumA (l.take m) ∧ sumA (l.take m) ≤ 20000000000000 * 60:=fun m=>by
     have:=sumA_box (l:=l.take m) (fun p hp=>hPl.out p (List.mem_of_mem_take hp))
     rw [List.length_take] at this
     omega
    have hz1:=hb1 k
    rw [← hz.out] at hz1
    by_cases hlt : k < l.length
    ·have hk' : l[k]? = some l[k]:=List.getElem?_eq_getElem hlt
     have hst:=sumA_take hlt
     rw [← hz.out] at hst
     have hgb:=hPl.out _ (List.getElem_mem hlt)
     obtain ⟨⟨hw1,hw2⟩,hw3⟩:=hwk.out k hlt
     have hpw:=Lib.hid (hPW.out _ (List.getElem_mem hlt))
     have hpr:=Lib.hid (hPA.out _ (List.getElem_mem hlt))
     have hyes:=Lib.hid (fun h=>hin.out.yes hone.out hlt h)
     have hno:=Lib.hid (fun h=>hin.out.no hlt h)
     have hki : (k : Int) < (l.length : Int):=by omega
     clear hb1 hin
     generalize l[k] = p at *
     unfold insB at hyes hno
     obtain ⟨b,o,rfl,hbl,c0,c1⟩:=plo_at (hrows.out.below hI.out.bel) hk'
     generalize Cal.areaP p.ps = g at *
     generalize Cal.whereP p.ps q = v at *
     have hz2 : Hid (z + g = sumA (l.take (k + 1))):=hst.symm
     have hbT:=Lib.hid hI.out.bel
     have hkh:=Lib.hid hk'
     clear hst hk' hz c0
     (have a0:=hI.out.a.c 0 _ rfl;have a1:=hI.out.a.c 1 _ rfl;have a2:=hI.out.a.c 2 _ rfl;have b0:=hI.out.b.c 0 _ rfl;have b1:=hI.out.b.c 1 _ rfl)
     go_wp2_with fail
     refine wp_region_held_drew (S:=Sx wr [(w.heap.size,2,.slice (some ⟨b,o,none⟩) l.length e),(b,o + k * 2 + 1,.slice p.V p.ps.length p.d),(w.heap.size + 1,0,.int .i64 q.x),(w.heap.size + 1,1,.int .i64 q.y)]) (by kernel_rfl) (Sx.mk (by simp only [cs_iff_cons];exact ⟨a2,c1,b0,b1,cs_nil _⟩) (Below.refl _ _)).drew (fun hHeld=>?_)
     clear a0 a1 a2 b0 b1
     clear c1
     refine tkHx 0 59 ?_
     refine tkHx 1 60 ?_
     refine tkHx 2 61 ?_
     refine tkHx 3 62 ?_
     refine tkHx 4 63 ?_
     refine tkHx 5 64 ?_
     refine tkHx 6 65 ?_
     (refine ratHx 7 (fun K hK=>?_);go_simp)
     refine (hpw.out _ (hbT.out.trans (hHeld.bel.mono hbT.out.size))).mono ?_
     rintro e wn ⟨rfl,hbn⟩
     go_simp
     (refine hK.out _ _ (hHeld.step hbn) (fun hHeld=>?_);clear hK K;(try simp only [apS,apN,siA,scZ,scS]))
     refine tkHx 8 58 ?_
     refine tkHx 9 67 ?_
     refine tkHx 10 68 ?_
     refine tkHx 11 13 ?_
     refine tkHx 12 14 ?_
     refine wpAnyH_done (by kernel_rfl) ?_ _
     (try simp only [apS,apN,siA,scZ,scS])
     replace hI:=Lib.hid (hI.out.below hHeld.bel)
     clear hHeld hbT hpw
     obtain ⟨b',o',hSS,_,_,c1⟩:=plo_at (hrows.out.below hI.out.bel) hkh.out
     cases hSS
     (have a0:=hI.out.a.c 0 _ rfl;have a1:=hI.out.a.c 1 _ rfl;have a2:=hI.out.a.c 2 _ rfl;have b0:=hI.out.b.c 0 _ rfl;have b1:=hI.out.b.c 1 _ rfl)
     rcases hx3 with rfl | rfl | rfl
     ·rcases hw3 with rfl | rfl | rfl
      ·clear hw1 hw2
       obtain ⟨rfl,hnx⟩:=hyes.out (by decide)
       replace hnx:=Lib.hid hnx
       clear hyes hno
       go_wp2_with (go_at_call 18;clear a0 a1 a2 b0 b1;refine (hpr.out _ hI.out.bel).mono ?_;rintro e0 wj ⟨rfl,hbn⟩;replace hI:=Lib.hid (hI.out.below hbn);clear hbn)
       go_roundw
       case rel=>exact ⟨k + 1,_,_,z + g,by omega,by go_num,rfl,rfl,by go_num,hnx,hz2,hI⟩
       case measure=>simp [intOf];omega
      ·clear hw1 hw2
       have hnx:=Lib.hid (hno.out (by decide))
       clear hyes hno
       go_wp2_with (go_at_call 18;clear a0 a1 a2 b0 b1;refine (hpr.out _ hI.out.bel).mono ?_;rintro e0 wj ⟨rfl,hbn⟩;replace hI:=Lib.hid (hI.out.below hbn);clear hbn)
       go_roundw
       case rel=>exact ⟨k + 1,_,_,z + g,by omega,by go_num,rfl,rfl,by go_num,hnx,hz2,hI⟩
       case measure=>simp [intOf];omega
      ·clear hw1 hw2
       have hnx:=Lib.hid (hno.out (by decide))
       clear hyes hno
       go_wp2_with (go_at_call 18;clear a0 a1 a2 b0 b1;refine (hpr.out _ hI.out.bel).mono ?_;rintro e0 wj ⟨rfl,hbn⟩;replace hI:=Lib.hid (hI.out.below hbn);clear hbn)
       go_roundw
       case rel=>exact ⟨k + 1,_,_,z + g,by omega,by go_num,rfl,rfl,by go_num,hnx,hz2,hI⟩
       case measure=>simp [intOf];omega
     ·rcases hw3 with rfl | rfl | rfl
      ·exact absurd (hw2 (by decide)) (by decide)
      ·clear hw1 hw2
       have hnx:=Lib.hid (hno.out (by decide))
       clear hyes hno
       go_wp2_with (go_at_call 18;clear a0 a1 a2 b0 b1;refine (hpr.out _ hI.out.bel).mono ?_;rintro e0 wj ⟨rfl,hbn⟩;replace hI:=Lib.hid (hI.out.below hbn);clear hbn)
       go_roundw
       case rel=>exact ⟨k + 1,_,_,z + g,by omega,by go_num,rfl,rfl,by go_num,hnx,hz2,hI⟩
       case measure=>simp [intOf];omega
      ·clear hw1 hw2
       have hnx:=Lib.hid (hno.out (by decide))
       clear hyes hno
       go_wp2_with (go_at_call 18;clear a0 a1 a2 b0 b1;refine (hpr.out _ hI.out.bel).mono ?_;rintro e0 wj ⟨rfl,hbn⟩;replace hI:=Lib.hid (hI.out.below hbn);clear hbn)
       go_roundw
       case rel=>exact ⟨k + 1,_,_,z + g,by omega,by go_num,rfl,rfl,by go_num,hnx,hz2,hI⟩
       case measure=>simp [intOf];omega
     ·rcases hw3 with rfl | rfl | rfl
      ·exact absurd (hw2 (by decide)) (by decide)
      ·exact absurd (hw1 (by decide)) (by decide)
      ·clear hw1 hw2
       have hnx:=Lib.hid (hno.out (by decide))
       clear hyes hno
       go_wp2_with (go_at_call 18;clear a0 a1 a2 b0 b1;refine (hpr.out _ hI.out.bel).mono ?_;rintro e0 wj ⟨rfl,hbn⟩;replace hI:=Lib.hid (hI.out.below hbn);clear hbn)
       go_roundw
       case rel=>exact ⟨k + 1,_,_,z + g,by omega,by go_num,rfl,rfl,by go_num,hnx,hz2,hI⟩
       case measure=>simp [intOf];omega
    ·obtain rfl : k = l.length:=by omega
     have hzG : z + G = A:=by
      have h1:=hz.out
      rw [List.take_length] at h1
      have h2:=hG.out
      omega
     have hend:=hin.out.end hone.out
     clear hb1 hz hG hin hwk hone hPW hPA hrows
     generalize idxP (atB q) l = y at *
     (have a0:=hI.out.a.c 0 _ rfl;have a1:=hI.out.a.c 1 _ rfl;have a2:=hI.out.a.c 2 _ rfl;have b0:=hI.out.b.c 0 _ rfl;have b1:=hI.out.b.c 1 _ rfl)
     rcases hend with rfl | ⟨rfl,hy,rfl⟩
     ·generalize (if 0 ≤ y then y else 0) = y1 at *
      generalize (if 0 ≤ y then (0 : Int) else 12) = y2 at *
      go_wp2_with (first
       |(go_at_call 19;clear a0 a1 a2 b0 b1;refine (hpa.out _ hI.out.bel).mono ?_;clear hpa;rintro e0 wj ⟨rfl,hbn⟩;replace hI:=Lib.hid (hI.out.below hbn);clear hbn;(have a0:=hI.out.a.c 0 _ rfl;have a1:=hI.out.a.c 1 _ rfl;have a2:=hI.out.a.c 2 _ rfl;have b0:=hI.out.b.c 0 _ rfl;have b1:=hI.out.b.c 1 _ rfl))
       |(go_at_call 18;clear a0 a1 a2 b0 b1;refine (hAr.out _ hI.out.bel).mono ?_;clear hAr;rintro e0 wj ⟨rfl,hbn⟩;replace hI:=Lib.hid (hI.out.below hbn);clear hbn;(have a0:=hI.out.a.c 0 _ rfl;have a1:=hI.out.a.c 1 _ rfl;have a2:=hI.out.a.c 2 _ rfl;have b0:=hI.out.b.c 0 _ rfl;have b1:=hI.out.b.c 1 _ rfl))
       |(go_at_call 20;clear a0 a1 a2 b0 b1;refine (hcs.out _ hI.out.bel).mono ?_;clear hcs;rintro e0 wj ⟨rfl,hbn⟩;replace hI:=Lib.hid (hI.out.below hbn);clear hbn))
      go_ret
      exact ⟨by first | rfl | simp,hI.out.bel⟩
     ·rw [if_pos hy,if_pos hy] at hpa
      go_wp2_with (first
       |(go_at_call 19;clear a0 a1 a2 b0 b1;refine (hpa.out _ hI.out.bel).mono ?_;clear hpa;rintro e0 wj ⟨rfl,hbn⟩;replace hI:=Lib.hid (hI.out.below hbn);clear hbn;(have a0:=hI.out.a.c 0 _ rfl;have a1:=hI.out.a.c 1 _ rfl;have a2:=hI.out.a.c 2 _ rfl;have b0:=hI.out.b.c 0 _ rfl;have b1:=hI.out.b.c 1 _ rfl))
       |(go_at_call 18;clear a0 a1 a2 b0 b1;refine (hAr.out _ hI.out.bel).mono ?_;clear hAr;rintro e0 wj ⟨rfl,hbn⟩;replace hI:=Lib.hid (hI.out.below hbn);clear hbn;(have a0:=hI.out.a.c 0 _ rfl;have a1:=hI.out.a.c 1 _ rfl;have a2:=hI.out.a.c 2 _ rfl;have b0:=hI.out.b.c 0 _ rfl;have b1:=hI.out.b.c 1 _ rfl))
       |(go_at_call 20;clear a0 a1 a2 b0 b1;refine (hcs.out _ hI.out.bel).mono ?_;clear hcs;rintro e0 wj ⟨rfl,hbn⟩;replace hI:=Lib.hid (hI.out.below hbn);clear hbn))
      go_ret
      exact ⟨by first | rfl | simp,hI.out.bel⟩
 ·have hc2 : (c != 0) = true:=by simpa using h0
  clear hcs hpa hz hon hin hg1 hS
  go_wp2_with fail
  go_ret
  exact ⟨rfl,hI.out.bel⟩
end Go.Proofs.Ythfokpchdlcidaa
