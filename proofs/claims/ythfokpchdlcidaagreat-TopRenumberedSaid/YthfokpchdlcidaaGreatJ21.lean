/- What the statements rest on: definitions and walks, part 21. -/
import Derived.Test.YthfokpchdlcidaaGreatJ20
set_option maxRecDepth 100000
set_option maxHeartbeats 16000000
set_option linter.unusedSimpArgs false
set_option linter.unusedVariables false
namespace Go.Proofs.YthfokpchdlcidaaGreat
open Go Go.RowKit Go.Shelf
def cutK (s:Sd) (a:List Pt) (k:Nat):List Pt:=s.a :: s.b :: (a.take k).filter (Cal.hasP s)
theorem cutK_all (s:Sd) (a:List Pt):cutK s a a.length=Cal.cutsR s a:=by unfold cutK Cal.cutsR;rw[List.take_length]
theorem cutK_succ {s:Sd} {a:List Pt} {k:Nat} (h:k<a.length):cutK s a (k+1)=if Cal.hasP s a[k]=true then cutK s a k ++ [a[k]] else cutK s a k:=by
 unfold cutK
 rw[List.take_succ_eq_append_getElem h,List.filter_append]
 by_cases hh:Cal.hasP s a[k]=true
 ·rw[if_pos hh,List.filter_cons_of_pos hh,List.filter_nil];rfl
 rw[if_neg hh,List.filter_cons_of_neg hh,List.filter_nil,List.append_nil]
theorem cutK_len (s:Sd) (a:List Pt) (k:Nat) (hk:k≤a.length):(cutK s a k).length≤k+2:=by
 unfold cutK
 have:=List.length_filter_le (Cal.hasP s) (a.take k)
 rw[List.length_take] at this
 simp only[List.length_cons]
 omega
theorem ptErr_sm {p:Pt} (h:Cal.ptErr p=0):SmP p:=ptErr_zero h
def freeM (l:List Pt) (i k m:Nat):Bool:=ptB (Cal.ptAt l m) (Cal.ptAt l i) || ptB (Cal.ptAt l m) (Cal.ptAt l k) || !Cal.hasP ⟨Cal.ptAt l k,Cal.ptAt l i⟩ (Cal.ptAt l m)
def frTo (l:List Pt) (i k m:Nat):Bool:=!ptB (Cal.ptAt l i) (Cal.ptAt l k) && (List.range m).all (freeM l i k)
theorem frTo_succ (l:List Pt) (i k m:Nat):frTo l i k (m+1)=(frTo l i k m && freeM l i k m):=by
 unfold frTo
 rw[List.range_succ,List.all_append,←Bool.and_assoc]
 simp
theorem frTo_all (l:List Pt) (i k:Nat):frTo l i k l.length=Cal.freeR l i k:=rfl
theorem frTo_zero (l:List Pt) (i k:Nat):frTo l i k 0=!ptB (Cal.ptAt l i) (Cal.ptAt l k):=by unfold frTo;simp
def entB (a l:List Pt) (i k:Nat):Bool:=Cal.freeR l i k && decide (0<Cal.whereP (Cal.mulP 2 a) (Cal.midR l i k))
theorem ent_yes {s:Sd} {a:List Pt} {i k:Nat} (hi:i<(Cal.cutsR s a).length) (hk:k<i) (h:entB a (Cal.cutsR s a) i k=true):Cal.entersR s a=true:=by
 unfold Cal.entersR
 exact List.any_eq_true.2 ⟨i,List.mem_range.2 hi,List.any_eq_true.2 ⟨k,List.mem_range.2 hk,h⟩⟩
theorem ent_no {s:Sd} {a:List Pt} (h:∀ i,i<(Cal.cutsR s a).length→∀ k,k<i→entB a (Cal.cutsR s a) i k=false):Cal.entersR s a=false:=by
 unfold Cal.entersR
 rw[List.any_eq_false]
 intro i hi h2
 obtain⟨k,hk,h3⟩:=List.any_eq_true.1 h2
 have:=h i (List.mem_range.1 hi) k (List.mem_range.1 hk)
 unfold entB at this
 rw[this] at h3
 cases h3
theorem ptAt_lt {l:List Pt} {i:Nat} (h:i<l.length):Cal.ptAt l i=l[i]:=by unfold Cal.ptAt;rw[List.getElem?_eq_getElem h];rfl
theorem entersR_any (s:Sd) (V:Option Addr) (d:Nat) (a:List Pt) (w:World) (h1:Cal.ptErr s.a=0) (h2:Cal.ptErr s.b=0) (hP:PtsR w V a) (hin:∀ p∈a,Cal.ptErr p=0) (hl:a.length≤1000) :
  Calls Tryz.prog 89 #[.agg #[.int .i64 s.a.x,.int .i64 s.a.y,.int .i64 s.b.x,.int .i64 s.b.y],.slice V a.length d] w fun e w'=>e=.returned (.bool (Cal.entersR s a))∧Below w.heap.size w w':=by
 obtain⟨R,hR⟩:∃ R,Cal.entersR s a=R:=⟨_,rfl⟩
 rw[hR]
 have hyes:=Lib.hid (fun i k hi hk h=>hR ▸ ent_yes (s:=s) (a:=a) (i:=i) (k:=k) hi hk h)
 have hnone:=Lib.hid (fun h=>hR ▸ ent_no (s:=s) (a:=a) h)
 have hss:SmS s:=⟨ptErr_sm h1,ptErr_sm h2⟩
 have hall:Hid (∀ p∈Cal.cutsR s a,Cal.ptErr p=0):=fun p hp=>by
  unfold Cal.cutsR at hp
  rcases List.mem_cons.1 hp with rfl | hp
  ·exact h1
  rcases List.mem_cons.1 hp with rfl | hp
  ·exact h2
  exact hin p (List.mem_filter.1 hp).1
 have hB:=Lib.hid (BoxAt.new w #[.int .i64 s.a.x,.int .i64 s.a.y,.int .i64 s.b.x,.int .i64 s.b.y] 90)
 have hbw0:=Lib.hid (below_alloc w (.cells #[.int .i64 s.a.x,.int .i64 s.a.y,.int .i64 s.b.x,.int .i64 s.b.y] 90))
 have hO0:=Lib.hid (own_lit (w.alloc (.cells #[.int .i64 s.a.x,.int .i64 s.a.y,.int .i64 s.b.x,.int .i64 s.b.y] 90)) (w.alloc (.cells #[.int .i64 s.a.x,.int .i64 s.a.y,.int .i64 s.b.x,.int .i64 s.b.y] 90)).heap.size [s.a,s.b] (Nat.le_refl _) (by simp) #[.int .i64 s.a.x,.int .i64 s.a.y,.int .i64 s.b.x,.int .i64 s.b.y] rfl)
 have hb0:=Lib.hid (below_alloc (w.alloc (.cells #[.int .i64 s.a.x,.int .i64 s.a.y,.int .i64 s.b.x,.int .i64 s.b.y] 90)) (.cells #[.int .i64 s.a.x,.int .i64 s.a.y,.int .i64 s.b.x,.int .i64 s.b.y] 27))
 obtain⟨c0,c1,c2,c3⟩:=hB.out.c4
 have hPw:=Lib.hid (hP.below hbw0.out)
 have hti:Hid (∀ W,Below w.heap.size w W→Calls Tryz.prog 91 #[.slice V a.length d,.int .i64 2] W fun e w'=>∃ A c,e=.returned (.slice A (Cal.mulP 2 a).length c)∧Pts w' A (Cal.mulP 2 a)∧Below W.heap.size W w'):=fun W hb=>by
  refine (timesR_any V d a 2 W (hP.below hb) hin (by decide) (by decide)).mono ?_
  rintro e w' ⟨v,rfl,hO,hb'⟩
  obtain⟨A5,c5,rfl,hr⟩:=OwnL.form hO
  rw[List.length_map]
  refine⟨A5,c5,rfl,pts_own hO hr (by rw[Cal.mul_length];omega) (fun p hp=>?_),hb'⟩
  obtain⟨q,hq,rfl⟩:=List.mem_map.1 hp
  have:=ptErr_box (hin q hq)
  exact⟨by dsimp only;omega,by dsimp only;omega,by dsimp only;omega,by dsimp only;omega⟩
 replace hin:=Lib.hid hin
 clear hP hR h1 h2
 go_enter Tryz.func89,Tryz.ntmps89
 go_wp2_with fail
 clear c0 c1 c2 c3
 generalize hw1:w.alloc (.cells #[.int .i64 s.a.x,.int .i64 s.a.y,.int .i64 s.b.x,.int .i64 s.b.y] 90)=w1 at *
 have hwl:Hid (w.heap.size<w1.heap.size):=hB.out.lt
 have hws:w1.heap.size=w.heap.size+1:=by rw[←hw1,World.size_alloc]
 clear hw1
 replace hO0:Hid (OwnL (w1.alloc (.cells #[.int .i64 s.a.x,.int .i64 s.a.y,.int .i64 s.b.x,.int .i64 s.b.y] 27)) w1.heap.size 27 2 (.slice (some ⟨w.heap.size+1,0,none⟩) 2 2) ((cutK s a 0).map ptR)):=by
  have h:=hO0.out
  rw[←hws];exact h
 clear hws
 go_loopw [5,6] (fun cv iv wr=>∃ (k:Nat) (v:Value),k≤a.length∧iv=.int .i64 k∧cv=v∧Hid (OwnL wr w1.heap.size 27 2 v ((cutK s a k).map ptR))∧Hid (Below w1.heap.size w1 wr)) (fun _ iv _=>a.length-(intOf iv).toNat)
 case atStart=>exact⟨0,_,Nat.zero_le _,rfl,rfl,hO0,hb0⟩
 case round =>
  clear hb0 hO0
  obtain⟨k,v,hk,rfl,rfl,hO,hb⟩:=hrel
  by_cases hlt:k<a.length
  ·obtain⟨bA,oA,rfl,hbA,e0,e1⟩:=pts_at (hPw.out.below hb.out).rows (List.getElem?_eq_getElem hlt)
   have hqs:SmP a[k]:=ptErr_sm (hin.out _ (List.getElem_mem hlt))
   have hst:=cutK_succ (s:=s) hlt
   have hn1:=cutK_len s a k hk
   have hn2:Hid (((cutK s a k).map ptR).length≤1000000):=by show _≤_;rw[List.length_map];omega
   have hki:(k:Int)<(a.length:Int):=by omega
   have hBr:=hB.out.below hb.out
   obtain⟨c0,c1,c2,c3⟩:=hBr.c4
   generalize a[k]=q at *
   have hon:=Lib.hid (fun W=>OnR_any s q W hss hqs)
   have hOd:=Lib.hid (OwnL.below hO.out (Below.refl _ _).drew)
   clear hBr hO hn1 hqs
   cases hh:Cal.hasP s q
   ·rw[hh] at hon hst
    replace hst:Hid (cutK s a (k+1)=cutK s a k):=by show _=_;rw[hst];simp
    clear hh
    go_wp2_with fail
    refine wp_region_held_drew (S:=Sx wr [(w.heap.size,0,.int .i64 s.a.x),(w.heap.size,1,.int .i64 s.a.y),(w.heap.size,2,.int .i64 s.b.x),(w.heap.size,3,.int .i64 s.b.y),(bA,oA+k*2,.int .i64 q.x),(bA,oA+k*2+1,.int .i64 q.y)]) (by kernel_rfl) (Sx.mk (by simp only[cs_iff_cons];exact⟨c0,c1,c2,c3,e0,e1,cs_nil _⟩) (Below.refl _ _)).drew (fun hHeld=>?_)
    clear c0 c1 c2 c3 e0 e1
    refine tkHx 0 23 ?_
    refine tkHx 1 24 ?_
    refine tkHx 2 25 ?_
    refine tkHx 3 26 ?_
    refine tkHx 4 27 ?_
    (refine ratHx 5 (fun K hK=>?_);go_simp)
    refine (hon.out _).mono ?_
    rintro e wn ⟨rfl,hbn⟩
    go_simp
    replace hOd:=Lib.hid (OwnL.below hOd.out hbn)
    (refine hK.out _ _ (hHeld.step hbn) (fun hHeld=>?_);clear hK K;(try simp only[apS,apN,siA,scZ,scS]))
    refine wpAnyH_done (by kernel_rfl) ?_ _
    (try simp only[apS,apN,siA,scZ,scS])
    have hbe:=Lib.hid (hb.out.trans (hHeld.bel.mono hb.out.size))
    clear hHeld
    go_wp2_with fail
    go_roundw
    case rel=>exact⟨k+1,_,by omega,by go_num,rfl,by rw[hst.out];exact hOd,hbe⟩
    case measure=>simp[intOf];omega
   rw[hh] at hon hst
   replace hst:Hid (cutK s a (k+1)=cutK s a k ++ [q]):=by show _=_;rw[hst];simp
   clear hh
   go_wp2_with fail
   refine wp_region_held_drew (S:=Sx wr [(w.heap.size,0,.int .i64 s.a.x),(w.heap.size,1,.int .i64 s.a.y),(w.heap.size,2,.int .i64 s.b.x),(w.heap.size,3,.int .i64 s.b.y),(bA,oA+k*2,.int .i64 q.x),(bA,oA+k*2+1,.int .i64 q.y)]) (by kernel_rfl) (Sx.mk (by simp only[cs_iff_cons];exact⟨c0,c1,c2,c3,e0,e1,cs_nil _⟩) (Below.refl _ _)).drew (fun hHeld=>?_)
   clear c0 c1 c2 c3 e0 e1
   refine tkHx 0 23 ?_
   refine tkHx 1 24 ?_
   refine tkHx 2 25 ?_
   refine tkHx 3 26 ?_
   refine tkHx 4 27 ?_
   (refine ratHx 5 (fun K hK=>?_);go_simp)
   refine (hon.out _).mono ?_
   rintro e wn ⟨rfl,hbn⟩
   go_simp
   replace hOd:=Lib.hid (OwnL.below hOd.out hbn)
   (refine hK.out _ _ (hHeld.step hbn) (fun hHeld=>?_);clear hK K;(try simp only[apS,apN,siA,scZ,scS]))
   refine wpAnyH_done (by kernel_rfl) ?_ _
   (try simp only[apS,apN,siA,scZ,scS])
   have hbe:=Lib.hid (hb.out.trans (hHeld.bel.mono hb.out.size))
   have hcs:=hHeld.cs
   simp only[cs_iff_cons] at hcs
   obtain⟨_,_,_,_,e0,e1,_⟩:=hcs
   clear hHeld
   go_wp2_with (at_builtin;refine wpPushP q hOd.out hbe.out.size hn2.out rfl _ _ rfl rfl rfl rfl ?_;intro v6 w6 hown6 hb6 _;have hO6:Hid (OwnL w6 w1.heap.size 27 2 v6 ((cutK s a (k+1)).map ptR)):=by { show OwnL _ _ _ _ _ _;rw[hst.out,List.map_append];exact hown6 };have hbw6:=Lib.hid (hbe.out.trans hb6);clear hown6 hb6)
   go_roundw
   case rel=>exact⟨k+1,v6,by omega,by go_num,rfl,hO6,hbw6⟩
   case measure=>simp[intOf];omega
  obtain rfl:k=a.length:=by omega
  rw[cutK_all] at hO
  have hcl:(Cal.cutsR s a).length≤1002:=by rw[←cutK_all];have:=cutK_len s a a.length (Nat.le_refl _);omega
  obtain⟨A5,c5,e5,hr5⟩:=OwnL.form hO.out
  rw[List.length_map] at e5
  subst e5
  have hbw:=Lib.hid (hbw0.out.trans (hb.out.mono hbw0.out.size))
  replace hr5:=Lib.hid hr5
  have hbz:=hb
  clear hO hb hPw
  generalize hwo:wr=w2 at *
  clear hwo wr
  replace hB:=Lib.hid (hB.out.below hbz.out)
  clear hbw0 hbz
  generalize Cal.cutsR s a=cs at *
  have hb0:Hid (Below w2.heap.size w2 w2):=Below.refl _ _
  go_wp2_with fail
  go_loopw [7] (fun iv wr=>∃ i:Nat,i≤cs.length∧iv=.int .i64 i∧Hid (∀ i',i'<i→∀ k,k<i'→entB a cs i' k=false)∧Hid (Below w2.heap.size w2 wr)) (fun iv _=>cs.length-(intOf iv).toNat)
  case atStart=>exact⟨0,Nat.zero_le _,rfl,fun i h=>by omega,hb0⟩
  case round =>
   clear hb0
   obtain⟨i,hi,rfl,hdone,hb⟩:=hrel
   by_cases hlt:i<cs.length
   ·have hii:(i:Int)<(cs.length:Int):=by omega
    generalize hwo:wr=w3 at *
    clear hwo wr
    go_wp2_with fail
    go_loopw [8] (fun kv wr=>∃ k:Nat,k≤i∧kv=.int .i64 k∧Hid (∀ k',k'<k→entB a cs i k'=false)∧Hid (Below w2.heap.size w2 wr)) (fun kv _=>i-(intOf kv).toNat)
    case atStart=>exact⟨0,Nat.zero_le _,rfl,fun k h=>by omega,hb⟩
    case round =>
     clear hb
     obtain⟨k,hk,rfl,hrow,hb⟩:=hrel
     by_cases hlk:k<i
     ·have hkl:k<cs.length:=by omega
      have hkk:(k:Int)<(i:Int):=by omega
      have hkc:(k:Int)<(cs.length:Int):=by omega
      obtain⟨b5,o5,hA5,hb5,i0,i1⟩:=pts_at (hr5.out.below hb.out) (List.getElem?_eq_getElem hlt)
      obtain⟨b',o',hA',_,k0,k1⟩:=pts_at (hr5.out.below hb.out) (List.getElem?_eq_getElem hkl)
      subst hA5
      cases hA'
      have hpi:=hall.out _ (List.getElem_mem hlt)
      have hpk:=hall.out _ (List.getElem_mem hkl)
      have hmi:Cal.midR cs i k=⟨cs[k].x+cs[i].x,cs[k].y+cs[i].y⟩:=by unfold Cal.midR;rw[ptAt_lt hlt,ptAt_lt hkl]
      have hf0:Hid ((!ptB cs[i] cs[k])=frTo cs i k 0):=by show _=_;rw[frTo_zero,ptAt_lt hlt,ptAt_lt hkl]
      have hfs:Hid (∀ m (hm:m<cs.length),frTo cs i k (m+1)=(frTo cs i k m && (ptB cs[m] cs[i] || ptB cs[m] cs[k] || !Cal.hasP ⟨cs[k],cs[i]⟩ cs[m]))):=fun m hm=>by
       rw[frTo_succ];unfold freeM;rw[ptAt_lt hm,ptAt_lt hlt,ptAt_lt hkl]
      have hen:Hid (entB a cs i k=(Cal.freeR cs i k && decide (0<Cal.whereP (Cal.mulP 2 a) (Cal.midR cs i k)))):=rfl
      rw[hmi] at hen
      obtain⟨pi,hpie⟩:∃ p,cs[i]=p:=⟨_,rfl⟩
      obtain⟨pk,hpke⟩:∃ p,cs[k]=p:=⟨_,rfl⟩
      simp only[hpie,hpke] at i0 i1 k0 k1 hpi hpk hf0 hfs hen
      have hsi:SmP pi:=ptErr_sm hpi
      have hsk:SmP pk:=ptErr_sm hpk
      have bi:=ptErr_box hpi
      have bk:=ptErr_box hpk
      have hmx:IntKind.i64.wrap (pk.x+pi.x)=pk.x+pi.x:=wrap_small (by omega) (by omega)
      have hmxb:wrap64 (pk.x+pi.x)=pk.x+pi.x:=by rw[←wrap_eq];exact hmx
      have hmy:IntKind.i64.wrap (pk.y+pi.y)=pk.y+pi.y:=wrap_small (by omega) (by omega)
      have hmyb:wrap64 (pk.y+pi.y)=pk.y+pi.y:=by rw[←wrap_eq];exact hmy
      have hms:Hid (SmP ⟨pk.x+pi.x,pk.y+pi.y⟩):=⟨by dsimp only;omega,by dsimp only;omega,by dsimp only;omega,by dsimp only;omega⟩
      have hwh:=Lib.hid (fun A c W hp=>WhereR_any A c (Cal.mulP 2 a) ⟨pk.x+pi.x,pk.y+pi.y⟩ W hp hms.out (by rw[Cal.mul_length];omega))
      have hn0:=pt_neq pi pk
      have hsx:=Lib.hid (hB.out.below hb.out)
      have hs9:Hid (∀ n,wr.heap.size≤n→w.heap.size≠n):=fun n hn=>by have:=hsx.out.lt;omega
      replace hpie:=Lib.hid hpie
      replace hpke:=Lib.hid hpke
      clear hmi bi bk hpi hpk
      go_wp2_with fail
      refine wp_region_held_drew (S:=Sx wr [(b5,o5+k*2,.int .i64 pk.x),(b5,o5+k*2+1,.int .i64 pk.y),(b5,o5+i*2,.int .i64 pi.x),(b5,o5+i*2+1,.int .i64 pi.y)]) (by kernel_rfl) (Sx.mk (by simp only[cs_iff_cons];exact⟨k0,k1,i0,i1,cs_nil _⟩) (Below.refl _ _)).drew (fun hHeld=>?_)
      clear k0 k1 i0 i1
      have hYs:Hid (wr.heap.size≤wr.drew.heap.size):=Nat.le_refl _
      generalize wr.drew=Y at *
      refine tkHx 0 47 ?_
      refine tkHx 1 48 ?_
      refine tkHx 2 49 ?_
      refine tkHx 3 50 ?_
      refine tkHx 4 51 ?_
      refine tkHx 5 52 ?_
      refine tkHx 6 53 ?_
      refine tkHx 7 54 ?_
      refine tkHx 8 55 ?_
      refine tkHx 9 56 ?_
      refine tkHx 10 57 ?_
      refine tkHx 11 58 ?_
      refine tkHx 12 59 ?_
      refine tkHx 13 60 ?_
      refine tkHx 14 61 ?_
      refine tkHx 15 62 ?_
      refine tkHx 16 63 ?_
      refine tkHx 17 64 ?_
      (refine ratHx 18 (fun K hK=>?_);go_simp)
      refine hK.out _ _ (hHeld.alloc _) (fun hHeld=>?_)
      clear hK K
      (try simp only[apS,apN,siA,scZ,scS])
      have hx9:=Lib.hid (BoxAt.new Y #[.int .i64 0,.int .i64 0,.int .i64 0,.int .i64 0] 90)
      refine storeP 19 90 (.tmp 9) (.tmp 55) _ [.int .i64 pk.x,.int .i64 pk.y,.int .i64 pi.x,.int .i64 pi.y] hYs.out (fun z hz=>by
       simp only[List.mem_cons,List.not_mem_nil,or_false] at hz
       rcases hz with rfl | rfl | rfl | rfl <;> exact hb5) hHeld hx9 rfl (hsx.out.below (hHeld.bel)) (hs9.out Y.heap.size hYs.out) (hsx.out.below (hHeld.bel)) (hs9.out Y.heap.size hYs.out) (fun Z1 hHeld h9 _ _=>?_)
      refine tkHx 20 10 ?_
      refine wpAnyH_done (by kernel_rfl) ?_ _
      (try simp only[apS,apN,siA,scZ,scS])
      have hb1:=Lib.hid (hb.out.trans (hHeld.bel.mono hb.out.size))
      clear hHeld hsx hs9 hx9 hn0 hYs hb
      generalize Y.heap.size=B9 at *
      generalize hwo:Z1=w5 at *
      clear hwo Z1
      have hbm0:Hid (Below w5.heap.size w5 w5):=Below.refl _ _
      go_wp2_with fail
      go_loopw [10,11] (fun fv mv wr=>∃ (m:Nat) (f:Bool),m≤cs.length∧mv=.int .i64 m∧fv=.bool f∧Hid (f=frTo cs i k m)∧Hid (BoxAt wr B9 [.int .i64 pk.x,.int .i64 pk.y,.int .i64 pi.x,.int .i64 pi.y])∧Hid (Below w5.heap.size w5 wr)) (fun _ mv _=>cs.length-(intOf mv).toNat)
      case atStart=>exact⟨0,_,Nat.zero_le _,rfl,rfl,hf0,h9,hbm0⟩
      case round =>
       clear hf0 h9 hbm0
       obtain⟨m,f,hm,rfl,rfl,hfr,h9,hb⟩:=hrel
       obtain⟨y0,y1,y2,y3⟩:=h9.out.c4
       by_cases hlm:m<cs.length
       ·have hmm:(m:Int)<(cs.length:Int):=by omega
        have hr9:=hr5.out.below (hb1.out.trans (hb.out.mono hb1.out.size))
        obtain⟨b',o',hA',_,m0,m1⟩:=pts_at hr9 (List.getElem?_eq_getElem hlm)
        cases hA'
        obtain⟨b',o',hA',_,i0,i1⟩:=pts_at hr9 (List.getElem?_eq_getElem hlt)
        cases hA'
        obtain⟨b',o',hA',_,k0,k1⟩:=pts_at hr9 (List.getElem?_eq_getElem hkl)
        cases hA'
        rw[hpie.out] at i0 i1
        rw[hpke.out] at k0 k1
        have hsm:SmP cs[m]:=ptErr_sm (hall.out _ (List.getElem_mem hlm))
        have hst:=hfs.out m hlm
        rw[←hfr.out] at hst
        clear hr9 hfr
        generalize cs[m]=pm at *
        have q1:=pt_eql pm pi
        have q2:=pt_eql pm pk
        have hon:=Lib.hid (fun W=>OnR_any ⟨pk,pi⟩ pm W ⟨hsk,hsi⟩ hsm)
        cases f
        ·have hfr2:Hid (false=frTo cs i k (m+1)):=by show _=_;rw[hst];rfl
         clear hst q1 q2 hon
         go_wp2_with fail
         refine wp_region_held_drew (S:=Sx wr [(B9,0,.int .i64 pk.x),(B9,1,.int .i64 pk.y),(B9,2,.int .i64 pi.x),(B9,3,.int .i64 pi.y),(b5,o5+m*2,.int .i64 pm.x),(b5,o5+m*2+1,.int .i64 pm.y),(b5,o5+i*2,.int .i64 pi.x),(b5,o5+i*2+1,.int .i64 pi.y),(b5,o5+k*2,.int .i64 pk.x),(b5,o5+k*2+1,.int .i64 pk.y)]) (by kernel_rfl) (Sx.mk (by simp only[cs_iff_cons];exact⟨y0,y1,y2,y3,m0,m1,i0,i1,k0,k1,cs_nil _⟩) (Below.refl _ _)).drew (fun hHeld=>?_)
         clear y0 y1 y2 y3 m0 m1 i0 i1 k0 k1
         generalize wr.drew=Y at *
         refine tkHx 0 71 ?_
         refine tkHx 1 72 ?_
         refine tkFx 2 73 ?_
         refine tkFx 3 74 ?_
         refine tkFx 4 75 ?_
         refine tkFx 5 76 ?_
         refine tkFx 6 77 ?_
         refine tkFx 7 78 ?_
         refine tkFx 8 79 ?_
         refine tkFx 9 80 ?_
         refine tkFx 10 81 ?_
         refine tkFx 11 82 ?_
         refine tkFx 12 83 ?_
         refine tkFx 13 84 ?_
         refine tkFx 14 85 ?_
         refine tkFx 15 86 ?_
         refine tkFx 16 87 ?_
         refine tkFx 17 88 ?_
         refine tkFx 18 89 ?_
         refine tkFx 19 90 ?_
         refine tkFx 20 91 ?_
         refine tkFx 21 92 ?_
         refine tkFx 22 93 ?_
         refine tkFx 23 94 ?_
         refine tkFx 24 95 ?_
         refine tkFx 25 96 ?_
         refine tkFx 26 97 ?_
         refine tkFx 27 98 ?_
         refine tkFx 28 99 ?_
         refine tkFx 29 100 ?_
         refine tkFx 30 101 ?_
         refine tkHx 31 102 ?_
         refine tkHx 32 10 ?_
         refine wpAnyH_done (by kernel_rfl) ?_ _
         (try simp only[apS,apN,siA,scZ,scS])
         have g9:=Lib.hid (h9.out.below hHeld.bel)
         have hbe:=Lib.hid (hb.out.trans (hHeld.bel.mono hb.out.size))
         clear hHeld
         go_wp2_with fail
         go_roundw
         case rel=>exact⟨m+1,false,by omega,by go_num,rfl,hfr2,g9,hbe⟩
         case measure=>simp[intOf];omega
        cases e1:ptB pm pi
        ·cases e2:ptB pm pk
         ·rw[e1] at q1
          rw[e2] at q2
          rw[e1,e2] at hst
          obtain⟨h,hh⟩:∃ h,Cal.hasP ⟨pk,pi⟩ pm=h:=⟨_,rfl⟩
          rw[hh] at hst hon
          have hfr2:Hid ((!h)=frTo cs i k (m+1)):=by show _=_;rw[hst];cases h <;> rfl
          clear hst e1 e2 hh
          go_wp2_with fail
          refine wp_region_held_drew (S:=Sx wr [(B9,0,.int .i64 pk.x),(B9,1,.int .i64 pk.y),(B9,2,.int .i64 pi.x),(B9,3,.int .i64 pi.y),(b5,o5+m*2,.int .i64 pm.x),(b5,o5+m*2+1,.int .i64 pm.y),(b5,o5+i*2,.int .i64 pi.x),(b5,o5+i*2+1,.int .i64 pi.y),(b5,o5+k*2,.int .i64 pk.x),(b5,o5+k*2+1,.int .i64 pk.y)]) (by kernel_rfl) (Sx.mk (by simp only[cs_iff_cons];exact⟨y0,y1,y2,y3,m0,m1,i0,i1,k0,k1,cs_nil _⟩) (Below.refl _ _)).drew (fun hHeld=>?_)
          clear y0 y1 y2 y3 m0 m1 i0 i1 k0 k1
          generalize wr.drew=Y at *
          refine tkHx 0 71 ?_
          refine tkHx 1 72 ?_
          refine tkHx 2 73 ?_
          refine tkHx 3 74 ?_
          refine tkHx 4 75 ?_
          refine tkHx 5 76 ?_
          refine tkHx 6 77 ?_
          refine tkHx 7 78 ?_
          refine tkHx 8 79 ?_
          refine tkHx 9 80 ?_
          refine tkHx 10 81 ?_
          refine tkHx 11 82 ?_
          refine tkHx 12 83 ?_
          refine tkHx 13 84 ?_
          refine tkHx 14 85 ?_
          refine tkHx 15 86 ?_
          refine tkHx 16 87 ?_
          refine tkHx 17 88 ?_
          refine tkHx 18 89 ?_
          refine tkHx 19 90 ?_
          refine tkHx 20 91 ?_
          refine tkHx 21 92 ?_
          refine tkHx 22 93 ?_
          refine tkHx 23 94 ?_
          refine tkHx 24 95 ?_
          refine tkHx 25 96 ?_
          refine tkHx 26 97 ?_
          refine tkHx 27 98 ?_
          (refine ratHx 28 (fun K hK=>?_);go_simp)
          refine (hon.out _).mono ?_
          rintro e wn ⟨rfl,hbn⟩
          go_simp
          (refine hK.out _ _ (hHeld.step hbn) (fun hHeld=>?_);clear hK K;(try simp only[apS,apN,siA,scZ,scS]))
          refine tkHx 29 100 ?_
          refine tkHx 30 101 ?_
          refine tkHx 31 102 ?_
          refine tkHx 32 10 ?_
          refine wpAnyH_done (by kernel_rfl) ?_ _
          (try simp only[apS,apN,siA,scZ,scS])
          have g9:=Lib.hid (h9.out.below hHeld.bel)
          have hbe:=Lib.hid (hb.out.trans (hHeld.bel.mono hb.out.size))
          clear hHeld
          go_wp2_with fail
          go_roundw
          case rel=>exact⟨m+1,!h,by omega,by go_num,rfl,hfr2,g9,hbe⟩
          case measure=>simp[intOf];omega
         rw[e1] at q1
         rw[e2] at q2
         have hfr2:Hid (true=frTo cs i k (m+1)):=by show _=_;rw[hst,e1,e2];rfl
         clear hst hon e1 e2
         go_wp2_with fail
         refine wp_region_held_drew (S:=Sx wr [(B9,0,.int .i64 pk.x),(B9,1,.int .i64 pk.y),(B9,2,.int .i64 pi.x),(B9,3,.int .i64 pi.y),(b5,o5+m*2,.int .i64 pm.x),(b5,o5+m*2+1,.int .i64 pm.y),(b5,o5+i*2,.int .i64 pi.x),(b5,o5+i*2+1,.int .i64 pi.y),(b5,o5+k*2,.int .i64 pk.x),(b5,o5+k*2+1,.int .i64 pk.y)]) (by kernel_rfl) (Sx.mk (by simp only[cs_iff_cons];exact⟨y0,y1,y2,y3,m0,m1,i0,i1,k0,k1,cs_nil _⟩) (Below.refl _ _)).drew (fun hHeld=>?_)
         clear y0 y1 y2 y3 m0 m1 i0 i1 k0 k1
         generalize wr.drew=Y at *
         refine tkHx 0 71 ?_
         refine tkHx 1 72 ?_
         refine tkHx 2 73 ?_
         refine tkHx 3 74 ?_
         refine tkHx 4 75 ?_
         refine tkHx 5 76 ?_
         refine tkHx 6 77 ?_
         refine tkHx 7 78 ?_
         refine tkHx 8 79 ?_
         refine tkHx 9 80 ?_
         refine tkHx 10 81 ?_
         refine tkHx 11 82 ?_
         refine tkHx 12 83 ?_
         refine tkHx 13 84 ?_
         refine tkHx 14 85 ?_
         refine tkHx 15 86 ?_
         refine tkHx 16 87 ?_
         refine tkHx 17 88 ?_
         refine tkHx 18 89 ?_
         refine tkHx 19 90 ?_
         refine tkHx 20 91 ?_
         refine tkHx 21 92 ?_
         refine tkHx 22 93 ?_
         refine tkFx 23 94 ?_
         refine tkFx 24 95 ?_
         refine tkFx 25 96 ?_
         refine tkFx 26 97 ?_
         refine tkFx 27 98 ?_
         refine tkFx 28 99 ?_
         refine tkFx 29 100 ?_
         refine tkHx 30 101 ?_
         refine tkHx 31 102 ?_
         refine tkHx 32 10 ?_
         refine wpAnyH_done (by kernel_rfl) ?_ _
         (try simp only[apS,apN,siA,scZ,scS])
         have g9:=Lib.hid (h9.out.below hHeld.bel)
         have hbe:=Lib.hid (hb.out.trans (hHeld.bel.mono hb.out.size))
         clear hHeld
         go_wp2_with fail
         go_roundw
         case rel=>exact⟨m+1,true,by omega,by go_num,rfl,hfr2,g9,hbe⟩
         case measure=>simp[intOf];omega
        rw[e1] at q1
        have hfr2:Hid (true=frTo cs i k (m+1)):=by show _=_;rw[hst,e1];rfl
        clear hst hon e1 q2
        go_wp2_with fail
        refine wp_region_held_drew (S:=Sx wr [(B9,0,.int .i64 pk.x),(B9,1,.int .i64 pk.y),(B9,2,.int .i64 pi.x),(B9,3,.int .i64 pi.y),(b5,o5+m*2,.int .i64 pm.x),(b5,o5+m*2+1,.int .i64 pm.y),(b5,o5+i*2,.int .i64 pi.x),(b5,o5+i*2+1,.int .i64 pi.y),(b5,o5+k*2,.int .i64 pk.x),(b5,o5+k*2+1,.int .i64 pk.y)]) (by kernel_rfl) (Sx.mk (by simp only[cs_iff_cons];exact⟨y0,y1,y2,y3,m0,m1,i0,i1,k0,k1,cs_nil _⟩) (Below.refl _ _)).drew (fun hHeld=>?_)
        clear y0 y1 y2 y3 m0 m1 i0 i1 k0 k1
        generalize wr.drew=Y at *
        refine tkHx 0 71 ?_
        refine tkHx 1 72 ?_
        refine tkHx 2 73 ?_
        refine tkHx 3 74 ?_
        refine tkHx 4 75 ?_
        refine tkHx 5 76 ?_
        refine tkHx 6 77 ?_
        refine tkHx 7 78 ?_
        refine tkHx 8 79 ?_
        refine tkHx 9 80 ?_
        refine tkHx 10 81 ?_
        refine tkHx 11 82 ?_
        refine tkFx 12 83 ?_
        refine tkFx 13 84 ?_
        refine tkFx 14 85 ?_
        refine tkFx 15 86 ?_
        refine tkFx 16 87 ?_
        refine tkFx 17 88 ?_
        refine tkFx 18 89 ?_
        refine tkFx 19 90 ?_
        refine tkFx 20 91 ?_
        refine tkHx 21 92 ?_
        refine tkHx 22 93 ?_
        refine tkFx 23 94 ?_
        refine tkFx 24 95 ?_
        refine tkFx 25 96 ?_
        refine tkFx 26 97 ?_
        refine tkFx 27 98 ?_
        refine tkFx 28 99 ?_
        refine tkFx 29 100 ?_
        refine tkHx 30 101 ?_
        refine tkHx 31 102 ?_
        refine tkHx 32 10 ?_
        refine wpAnyH_done (by kernel_rfl) ?_ _
        (try simp only[apS,apN,siA,scZ,scS])
        have g9:=Lib.hid (h9.out.below hHeld.bel)
        have hbe:=Lib.hid (hb.out.trans (hHeld.bel.mono hb.out.size))
        clear hHeld
        go_wp2_with fail
        go_roundw
        case rel=>exact⟨m+1,true,by omega,by go_num,rfl,hfr2,g9,hbe⟩
        case measure=>simp[intOf];omega
       obtain rfl:m=cs.length:=by omega
       have hfe:f=Cal.freeR cs i k:=by rw[hfr.out,frTo_all]
       rw[←hfe] at hen
       have hb2:=Lib.hid (hb1.out.trans (hb.out.mono hb1.out.size))
       have hbT:=Lib.hid (hbw.out.trans (hb2.out.mono hbw.out.size))
       have next:entB a cs i k=false→Hid (∀ k',k'<k+1→entB a cs i k'=false):=fun h k' hk'=>by
        rcases Nat.lt_succ_iff_lt_or_eq.1 hk' with h' | h'
        ·exact hrow.out k' h'
        rw[h'];exact h
       clear hfr hfe hfs h9
       cases f
       ·have hrow2:=next (by rw[hen.out];rfl)
        clear next hen hrow
        go_wp2_with fail
        refine wp_region_held_drew (S:=Sx wr [(B9,0,.int .i64 pk.x),(B9,1,.int .i64 pk.y),(B9,2,.int .i64 pi.x),(B9,3,.int .i64 pi.y)]) (by kernel_rfl) (Sx.mk (by simp only[cs_iff_cons];exact⟨y0,y1,y2,y3,cs_nil _⟩) (Below.refl _ _)).drew (fun hHeld=>?_)
        clear y0 y1 y2 y3
        generalize wr.drew=Y at *
        refine tkHx 0 103 ?_
        refine tkHx 1 104 ?_
        refine tkFx 2 105 ?_
        refine tkFx 3 106 ?_
        refine tkFx 4 107 ?_
        refine tkFx 5 108 ?_
        refine tkFx 6 109 ?_
        refine tkFx 7 110 ?_
        refine tkFx 8 111 ?_
        refine tkFx 9 112 ?_
        refine tkFx 10 113 ?_
        refine tkFx 11 114 ?_
        refine tkFx 12 115 ?_
        refine tkFx 13 116 ?_
        refine tkFx 14 117 ?_
        refine tkFx 15 118 ?_
        refine tkFx 16 119 ?_
        refine tkFx 17 120 ?_
        refine tkFx 18 121 ?_
        refine tkFx 19 122 ?_
        refine tkFx 20 123 ?_
        refine tkHx 21 124 ?_
        refine wpAnyH_done (by kernel_rfl) ?_ _
        (try simp only[apS,apN,siA,scZ,scS])
        have hbe:=Lib.hid (hb2.out.trans (hHeld.bel.mono hb2.out.size))
        clear hHeld
        go_wp2_with fail
        go_roundw
        case rel=>exact⟨k+1,by omega,by go_num,hrow2,hbe⟩
        case measure=>simp[intOf];omega
       obtain⟨z,hz⟩:∃ z,Cal.whereP (Cal.mulP 2 a) ⟨pk.x+pi.x,pk.y+pi.y⟩=z:=⟨_,rfl⟩
       rw[hz] at hen hwh
       clear hz
       by_cases h0:0<z
       ·have hRt:Hid (R=true):=hyes.out i k hlt hlk (by rw[hen.out,decide_eq_true h0];rfl)
        clear next hen hrow hyes hnone
        go_wp2_with fail
        refine wp_region_held_drew (S:=Sx wr [(B9,0,.int .i64 pk.x),(B9,1,.int .i64 pk.y),(B9,2,.int .i64 pi.x),(B9,3,.int .i64 pi.y)]) (by kernel_rfl) (Sx.mk (by simp only[cs_iff_cons];exact⟨y0,y1,y2,y3,cs_nil _⟩) (Below.refl _ _)).drew (fun hHeld=>?_)
        clear y0 y1 y2 y3
        generalize wr.drew=Y at *
        refine tkHx 0 103 ?_
        refine tkHx 1 104 ?_
        refine tkHx 2 105 ?_
        refine tkHx 4 107 ?_
        refine tkHx 5 108 ?_
        refine tkHx 6 109 ?_
        refine tkHx 7 110 ?_
        refine tkHx 8 111 ?_
        refine tkHx 9 112 ?_
        refine tkHx 10 113 ?_
        refine tkHx 11 114 ?_
        refine tkHx 12 115 ?_
        refine tkHx 13 116 ?_
        refine tkHx 14 117 ?_
        refine tkHx 15 118 ?_
        refine tkHx 16 119 ?_
        refine tkHx 17 120 ?_
        refine tkHx 18 121 ?_
        (refine ratHx 3 (fun K hK=>?_);go_simp)
        refine (hti.out _ (hbT.out.trans (hHeld.bel.mono hbT.out.size))).mono ?_
        rintro e wn ⟨A9,c9,rfl,hp9,hbn⟩
        go_simp
        (refine hK.out _ _ (hHeld.step hbn) (fun hHeld=>?_);clear hK K;(try simp only[apS,apN,siA,scZ,scS]))
        (refine ratHx 19 (fun K hK=>?_);go_simp)
        refine (hwh.out A9 c9 _ hp9).mono ?_
        rintro e wm ⟨rfl,hbm⟩
        go_simp
        (refine hK.out _ _ (hHeld.step hbm) (fun hHeld=>?_);clear hK K;(try simp only[apS,apN,siA,scZ,scS]))
        refine tkHx 20 123 ?_
        refine tkHx 21 124 ?_
        refine wpAnyH_done (by kernel_rfl) ?_ _
        (try simp only[apS,apN,siA,scZ,scS])
        have hbe:=Lib.hid (hbT.out.trans (hHeld.bel.mono hbT.out.size))
        clear hHeld
        go_wp2_with fail
        go_ret
        exact⟨by rw[hRt.out];rfl,hbe.out⟩
       have hrow2:=next (by rw[hen.out,decide_eq_false h0];rfl)
       clear next hen hrow
       go_wp2_with fail
       refine wp_region_held_drew (S:=Sx wr [(B9,0,.int .i64 pk.x),(B9,1,.int .i64 pk.y),(B9,2,.int .i64 pi.x),(B9,3,.int .i64 pi.y)]) (by kernel_rfl) (Sx.mk (by simp only[cs_iff_cons];exact⟨y0,y1,y2,y3,cs_nil _⟩) (Below.refl _ _)).drew (fun hHeld=>?_)
       clear y0 y1 y2 y3
       generalize wr.drew=Y at *
       refine tkHx 0 103 ?_
       refine tkHx 1 104 ?_
       refine tkHx 2 105 ?_
       refine tkHx 4 107 ?_
       refine tkHx 5 108 ?_
       refine tkHx 6 109 ?_
       refine tkHx 7 110 ?_
       refine tkHx 8 111 ?_
       refine tkHx 9 112 ?_
       refine tkHx 10 113 ?_
       refine tkHx 11 114 ?_
       refine tkHx 12 115 ?_
       refine tkHx 13 116 ?_
       refine tkHx 14 117 ?_
       refine tkHx 15 118 ?_
       refine tkHx 16 119 ?_
       refine tkHx 17 120 ?_
       refine tkHx 18 121 ?_
       (refine ratHx 3 (fun K hK=>?_);go_simp)
       refine (hti.out _ (hbT.out.trans (hHeld.bel.mono hbT.out.size))).mono ?_
       rintro e wn ⟨A9,c9,rfl,hp9,hbn⟩
       go_simp
       (refine hK.out _ _ (hHeld.step hbn) (fun hHeld=>?_);clear hK K;(try simp only[apS,apN,siA,scZ,scS]))
       (refine ratHx 19 (fun K hK=>?_);go_simp)
       refine (hwh.out A9 c9 _ hp9).mono ?_
       rintro e wm ⟨rfl,hbm⟩
       go_simp
       (refine hK.out _ _ (hHeld.step hbm) (fun hHeld=>?_);clear hK K;(try simp only[apS,apN,siA,scZ,scS]))
       refine tkHx 20 123 ?_
       refine tkHx 21 124 ?_
       refine wpAnyH_done (by kernel_rfl) ?_ _
       (try simp only[apS,apN,siA,scZ,scS])
       have hbe:=Lib.hid (hb2.out.trans (hHeld.bel.mono hb2.out.size))
       clear hHeld
       go_wp2_with fail
       go_roundw
       case rel=>exact⟨k+1,by omega,by go_num,hrow2,hbe⟩
       case measure=>simp[intOf];omega
     obtain rfl:k=i:=by omega
     have hdone2:Hid (∀ i',i'<k+1→∀ k',k'<i'→entB a cs i' k'=false):=fun i' hi' k' hk'=>by
      rcases Nat.lt_succ_iff_lt_or_eq.1 hi' with h' | h'
      ·exact hdone.out i' h' k' hk'
      subst h';exact hrow.out k' hk'
     go_wp2_with fail
     go_roundw
     case rel=>exact⟨k+1,by omega,by go_num,hdone2,hb⟩
     case measure=>simp[intOf];omega
   obtain rfl:i=cs.length:=by omega
   have hRf:Hid (R=false):=hnone.out (fun i hi k hk=>hdone.out i hi k hk)
   have hbT:=Lib.hid (hbw.out.trans (hb.out.mono hbw.out.size))
   go_wp2_with fail
   go_ret
   exact⟨by rw[hRf.out];rfl,hbT.out⟩
end Go.Proofs.YthfokpchdlcidaaGreat
namespace Go.Proofs.YthfokpchdlcidaaGreat
open Go Go.RowKit Go.Shelf
theorem cor_mem {p:List Pt} {k:Nat} (h:k<p.length):p[k]?.getD Cal.pt0∈p:=by
 rw[List.getElem?_eq_getElem h];exact List.getElem_mem h
theorem trisR_mem:∀ (f:Nat) (p:List Pt),∀ t∈Cal.trisR f p,∃ x y z,t=[x,y,z]∧x∈p∧y∈p∧z∈p
 | 0,_,t,h=>by cases h
 | f+1,p,t,h=>by
  unfold Cal.trisR at h
  split at h
  ·cases h
  rename_i h2
  split at h
  ·cases h
  rename_i i hi
  have hil:i<p.length:=by
   unfold Cal.firstEar at hi
   exact List.mem_range.1 (List.mem_of_find?_eq_some hi)
  rcases List.mem_append.1 h with h | h
  ·split at h
   ·rw[List.mem_singleton.1 h]
    exact⟨_,_,_,rfl,cor_mem (Nat.mod_lt _ (by omega)),cor_mem hil,cor_mem (Nat.mod_lt _ (by omega))⟩
   cases h
  obtain⟨x,y,z,e,hx,hy,hz⟩:=trisR_mem f _ t h
  exact⟨x,y,z,e,List.mem_of_mem_eraseIdx hx,List.mem_of_mem_eraseIdx hy,List.mem_of_mem_eraseIdx hz⟩
theorem trisR_len:∀ (f:Nat) (p:List Pt),(Cal.trisR f p).length≤f
 | 0,_=>Nat.le_refl _
 | f+1,p=>by
  unfold Cal.trisR
  split
  ·exact Nat.zero_le _
  split
  ·exact Nat.zero_le _
  rename_i i _
  have:=trisR_len f (p.eraseIdx i)
  rw[List.length_append]
  split
  ·rw[List.length_singleton];omega
  rw[List.length_nil];omega
def meetT (s t:List Pt):Bool:=!Cal.apartR s t && !Cal.apartR t s
theorem any_drop {α:Type} {f:α→Bool} {l:List α} {k:Nat} (h:k<l.length):(l.drop k).any f=(f l[k] || (l.drop (k+1)).any f):=by
 rw[List.drop_eq_getElem_cons h,List.any_cons]
theorem TrsR.tri {w:World} {A:Option Addr} {T:List (List Pt)} {gs:List Nat} {p:List Pt} (h:TrsR w A T gs) (hT:∀ t∈T,∃ x y z,t=[x,y,z]∧x∈p∧y∈p∧z∈p) (hs:∀ q∈p,SmP q) {i:Nat} (hi:i<T.length) :
  ∃ b o g x y z,A=some ⟨b,o,none⟩∧b<w.heap.size∧w.cell? ⟨b,o+i,none⟩=some (.slice (some ⟨g,0,none⟩) 3 3)∧T[i]=[x,y,z]∧SmP x∧SmP y∧SmP z∧Pts w (some ⟨g,0,none⟩) [x,y,z]:=by
 obtain⟨b,o,g,h1,h2,h3,h4,h5⟩:=h.at_ (List.getElem?_eq_getElem hi)
 obtain⟨x,y,z,e,hx,hy,hz⟩:=hT _ (List.getElem_mem hi)
 rw[e] at h4
 refine⟨b,o,g,x,y,z,h1,h2,h3,e,hs x hx,hs y hy,hs z hz,h4,by simp,fun q hq=>?_,fun ad e _=>by cases e;exact h5⟩
 rcases List.mem_cons.1 hq with rfl | hq
 ·exact hs _ hx
 rcases List.mem_cons.1 hq with rfl | hq
 ·exact hs _ hy
 rw[List.mem_singleton.1 hq];exact hs _ hz
theorem OverlapR_any (V:Option Addr) (d:Nat) (a:List Pt) (V2:Option Addr) (d2:Nat) (c:List Pt) (w:World) (hA:Pts w V a) (hd:a.length≤d) (hC:Pts w V2 c) (hd2:c.length≤d2) :
  Calls Tryz.prog 50 #[.slice V a.length d,.slice V2 c.length d2] w fun e w'=>e=.returned (.bool (Cal.overR a c))∧Below w.heap.size w w':=by
 have ht1:=Lib.hid (TrianglesR_any V d a w hA hd)
 have ht2:=Lib.hid (fun W (hW:Below w.heap.size w W)=>TrianglesR_any V2 d2 c W (hC.below hW) hd2)
 have hm1:=Lib.hid (trisR_mem a.length a)
 have hm2:=Lib.hid (trisR_mem c.length c)
 have hs1:=Lib.hid hA.sm
 have hl1:(Cal.trisOf a).length≤1000000:=Nat.le_trans (trisR_len _ _) hA.size
 have hl2:(Cal.trisOf c).length≤1000000:=Nat.le_trans (trisR_len _ _) hC.size
 have hs2:=Lib.hid hC.sm
 obtain⟨R,hR⟩:∃ R,Cal.overR a c=R:=⟨_,rfl⟩
 rw[hR]
 have hR0:Hid (R=((Cal.trisOf a).drop 0).any fun s=>(Cal.trisOf c).any fun t=>meetT s t):=hR.symm
 change Hid (∀ t∈Cal.trisOf a,_) at hm1
 change Hid (∀ t∈Cal.trisOf c,_) at hm2
 clear hR hA hC
 go_enter Tryz.func50,Tryz.ntmps50
 go_wp2_with (first
  |(clear ht2;fail)
  |(go_at_call 90;refine ht1.out.mono ?_;clear ht1;rintro e w1 ⟨v1,gs1,rfl,hT1,hb1⟩;have hT1:=Lib.hid hT1;have hb1:=Lib.hid hb1)
  |(go_at_call 90;refine (ht2.out _ hb1.out).mono ?_;clear ht2;rintro e w2 ⟨v2,gs2,rfl,hT2,hb2⟩;have hT3:=Lib.hid (hT1.out.below hb2);have hb3:=Lib.hid (below_step hb1.out hb2);have hT2:=Lib.hid hT2;clear hb2 hT1))
 obtain⟨A1,c1,rfl,hr1⟩:=hT3.out.read
 obtain⟨A2,c2,rfl,hr2⟩:=hT2.out.read
 replace hr1:=Lib.hid hr1
 replace hr2:=Lib.hid hr2
 have hb0:Hid (Below w2.heap.size w2 w2):=Below.refl _ _
 clear hT3 hT2
 generalize Cal.trisOf a=Ta at *
 generalize Cal.trisOf c=Tc at *
 go_loopw [7] (fun iv wr=>∃ i:Nat,i≤Ta.length∧iv=.int .i64 i∧Hid (R=(Ta.drop i).any fun s=>Tc.any fun t=>meetT s t)∧Hid (Below w2.heap.size w2 wr)) (fun iv _=>Ta.length-(intOf iv).toNat)
 case atStart=>exact⟨0,Nat.zero_le _,rfl,hR0,hb0⟩
 case round =>
  clear hR0 hb0
  obtain⟨i,hi,rfl,hR,hb⟩:=hrel
  by_cases hlt:i<Ta.length
  ·have hii:(i:Int)<(Ta.length:Int):=by omega
   have hR1:Hid (R=((Tc.drop 0).any (fun t=>meetT Ta[i] t) || (Ta.drop (i+1)).any fun s=>Tc.any fun t=>meetT s t)):=by show _=_;rw[hR.out,any_drop hlt];rfl
   clear hR
   generalize hwo:wr=wo at *
   clear hwo wr
   go_wp2_with fail
   go_loopw [8] (fun kv wr=>∃ k:Nat,k≤Tc.length∧kv=.int .i64 k∧Hid (R=((Tc.drop k).any (fun t=>meetT Ta[i] t) || (Ta.drop (i+1)).any fun s=>Tc.any fun t=>meetT s t))∧Hid (Below w2.heap.size w2 wr)) (fun kv _=>Tc.length-(intOf kv).toNat)
   case atStart=>exact⟨0,Nat.zero_le _,rfl,hR1,hb⟩
   case round =>
    clear hR1 hb
    obtain⟨k,hk,rfl,hR,hb⟩:=hrel
    by_cases hlk:k<Tc.length
    ·have hkk:(k:Int)<(Tc.length:Int):=by omega
     obtain⟨bA,oA,g1,x1,y1,z1,rfl,_,e1,ht1,sx1,sy1,sz1,hp1⟩:=(hr1.out.below hb.out).tri hm1.out hs1.out hlt
     obtain⟨bB,oB,g2,x2,y2,z2,rfl,_,e2,ht2,sx2,sy2,sz2,hp2⟩:=(hr2.out.below hb.out).tri hm2.out hs2.out hlk
     have hst:R=(meetT Ta[i] Tc[k] || ((Tc.drop (k+1)).any (fun t=>meetT Ta[i] t) || (Ta.drop (i+1)).any fun s=>Tc.any fun t=>meetT s t)):=by rw[hR.out,any_drop hlk,Bool.or_assoc]
     have hmt:meetT Ta[i] Tc[k]=(!Cal.apartR [x1,y1,z1] [x2,y2,z2] && !Cal.apartR [x2,y2,z2] [x1,y1,z1]):=by unfold meetT;rw[ht1,ht2]
     rw[hmt] at hst
     have hap1:=Lib.hid (fun W (hW:Below wr.heap.size wr W)=>apartR_any (some ⟨g1,0,none⟩) 3 [x1,y1,z1] (some ⟨g2,0,none⟩) 3 x2 y2 z2 W (hp1.below hW) rfl (hp2.below hW).rows sx2 sy2 sz2)
     have hap2:=Lib.hid (fun W (hW:Below wr.heap.size wr W)=>apartR_any (some ⟨g2,0,none⟩) 3 [x2,y2,z2] (some ⟨g1,0,none⟩) 3 x1 y1 z1 W (hp2.below hW) rfl (hp1.below hW).rows sx1 sy1 sz1)
     clear hR hmt ht1 ht2 hp1 hp2 sx1 sy1 sz1 sx2 sy2 sz2
     generalize Cal.apartR [x1,y1,z1] [x2,y2,z2]=q1 at *
     generalize Cal.apartR [x2,y2,z2] [x1,y1,z1]=q2 at *
     cases q1
     ·cases q2
      ·have hRt:Hid (R=true):=by show _=_;rw[hst];rfl
       clear hst
       go_wp2_with fail
       refine wp_region_held_drew (S:=Sx wr [(bA,oA+i,.slice (some ⟨g1,0,none⟩) 3 3),(bB,oB+k,.slice (some ⟨g2,0,none⟩) 3 3)]) (by kernel_rfl) (Sx.mk (by simp only[cs_iff_cons];exact⟨e1,e2,cs_nil _⟩) (Below.refl _ _)).drew (fun hHeld=>?_)
       clear e1 e2
       refine tkHx 0 25 ?_
       refine tkHx 1 26 ?_
       refine tkHx 2 27 ?_
       refine tkHx 3 28 ?_
       refine tkHx 4 29 ?_
       refine tkHx 5 30 ?_
       refine tkHx 6 31 ?_
       refine tkHx 7 32 ?_
       (refine ratHx 8 (fun K hK=>?_);go_simp)
       refine (hap1.out _ hHeld.bel).mono ?_
       rintro e wn ⟨rfl,hbn⟩
       go_simp
       (refine hK.out _ _ (hHeld.step hbn) (fun hHeld=>?_);clear hK K;(try simp only[apS,apN,siA,scZ,scS]))
       refine tkHx 9 34 ?_
       refine tkHx 10 35 ?_
       refine tkHx 11 36 ?_
       refine tkHx 12 37 ?_
       refine tkHx 13 38 ?_
       refine tkHx 14 39 ?_
       refine tkHx 15 40 ?_
       refine tkHx 16 41 ?_
       refine tkHx 17 42 ?_
       refine tkHx 18 43 ?_
       (refine ratHx 19 (fun K hK=>?_);go_simp)
       refine (hap2.out _ hHeld.bel).mono ?_
       rintro e wn ⟨rfl,hbn⟩
       go_simp
       (refine hK.out _ _ (hHeld.step hbn) (fun hHeld=>?_);clear hK K;(try simp only[apS,apN,siA,scZ,scS]))
       refine tkHx 20 45 ?_
       refine tkHx 21 46 ?_
       refine wpAnyH_done (by kernel_rfl) ?_ _
       (try simp only[apS,apN,siA,scZ,scS])
       have hbe:=Lib.hid (hb3.out.trans ((hb.out.trans (hHeld.bel.mono hb.out.size)).mono hb3.out.size))
       clear hHeld
       go_wp2_with fail
       go_ret
       exact⟨by rw[hRt.out];rfl,hbe.out⟩
      have hR2:Hid (R=((Tc.drop (k+1)).any (fun t=>meetT Ta[i] t) || (Ta.drop (i+1)).any fun s=>Tc.any fun t=>meetT s t)):=by show _=_;rw[hst];rfl
      clear hst
      go_wp2_with fail
      refine wp_region_held_drew (S:=Sx wr [(bA,oA+i,.slice (some ⟨g1,0,none⟩) 3 3),(bB,oB+k,.slice (some ⟨g2,0,none⟩) 3 3)]) (by kernel_rfl) (Sx.mk (by simp only[cs_iff_cons];exact⟨e1,e2,cs_nil _⟩) (Below.refl _ _)).drew (fun hHeld=>?_)
      clear e1 e2
      refine tkHx 0 25 ?_
      refine tkHx 1 26 ?_
      refine tkHx 2 27 ?_
      refine tkHx 3 28 ?_
      refine tkHx 4 29 ?_
      refine tkHx 5 30 ?_
      refine tkHx 6 31 ?_
      refine tkHx 7 32 ?_
      (refine ratHx 8 (fun K hK=>?_);go_simp)
      refine (hap1.out _ hHeld.bel).mono ?_
      rintro e wn ⟨rfl,hbn⟩
      go_simp
      (refine hK.out _ _ (hHeld.step hbn) (fun hHeld=>?_);clear hK K;(try simp only[apS,apN,siA,scZ,scS]))
      refine tkHx 9 34 ?_
      refine tkHx 10 35 ?_
      refine tkHx 11 36 ?_
      refine tkHx 12 37 ?_
      refine tkHx 13 38 ?_
      refine tkHx 14 39 ?_
      refine tkHx 15 40 ?_
      refine tkHx 16 41 ?_
      refine tkHx 17 42 ?_
      refine tkHx 18 43 ?_
      (refine ratHx 19 (fun K hK=>?_);go_simp)
      refine (hap2.out _ hHeld.bel).mono ?_
      rintro e wn ⟨rfl,hbn⟩
      go_simp
      (refine hK.out _ _ (hHeld.step hbn) (fun hHeld=>?_);clear hK K;(try simp only[apS,apN,siA,scZ,scS]))
      refine tkHx 20 45 ?_
      refine tkHx 21 46 ?_
      refine wpAnyH_done (by kernel_rfl) ?_ _
      (try simp only[apS,apN,siA,scZ,scS])
      have hbe:=Lib.hid (hb.out.trans (hHeld.bel.mono hb.out.size))
      clear hHeld
      go_wp2_with fail
      go_roundw
      case rel=>exact⟨k+1,by omega,by go_num,hR2,hbe⟩
      case measure=>simp[intOf];omega
     have hR2:Hid (R=((Tc.drop (k+1)).any (fun t=>meetT Ta[i] t) || (Ta.drop (i+1)).any fun s=>Tc.any fun t=>meetT s t)):=by show _=_;rw[hst];rfl
     clear hst hap2
     go_wp2_with fail
     refine wp_region_held_drew (S:=Sx wr [(bA,oA+i,.slice (some ⟨g1,0,none⟩) 3 3),(bB,oB+k,.slice (some ⟨g2,0,none⟩) 3 3)]) (by kernel_rfl) (Sx.mk (by simp only[cs_iff_cons];exact⟨e1,e2,cs_nil _⟩) (Below.refl _ _)).drew (fun hHeld=>?_)
     clear e1 e2
     refine tkHx 0 25 ?_
     refine tkHx 1 26 ?_
     refine tkHx 2 27 ?_
     refine tkHx 3 28 ?_
     refine tkHx 4 29 ?_
     refine tkHx 5 30 ?_
     refine tkHx 6 31 ?_
     refine tkHx 7 32 ?_
     (refine ratHx 8 (fun K hK=>?_);go_simp)
     refine (hap1.out _ hHeld.bel).mono ?_
     rintro e wn ⟨rfl,hbn⟩
     go_simp
     (refine hK.out _ _ (hHeld.step hbn) (fun hHeld=>?_);clear hK K;(try simp only[apS,apN,siA,scZ,scS]))
     refine tkHx 9 34 ?_
     refine tkHx 10 35 ?_
     refine tkFx 11 36 ?_
     refine tkFx 12 37 ?_
     refine tkFx 13 38 ?_
     refine tkFx 14 39 ?_
     refine tkFx 15 40 ?_
     refine tkFx 16 41 ?_
     refine tkFx 17 42 ?_
     refine tkFx 18 43 ?_
     refine tkFx 19 44 ?_
     refine tkFx 20 45 ?_
     refine tkHx 21 46 ?_
     refine wpAnyH_done (by kernel_rfl) ?_ _
     (try simp only[apS,apN,siA,scZ,scS])
     have hbe:=Lib.hid (hb.out.trans (hHeld.bel.mono hb.out.size))
     clear hHeld
     go_wp2_with fail
     go_roundw
     case rel=>exact⟨k+1,by omega,by go_num,hR2,hbe⟩
     case measure=>simp[intOf];omega
    have hRi:Hid (R=(Ta.drop (i+1)).any fun s=>Tc.any fun t=>meetT s t):=by show _=_;rw[hR.out,List.drop_of_length_le (by omega)];rfl
    go_wp2_with fail
    go_roundw
    case rel=>exact⟨i+1,by omega,by go_num,hRi,hb⟩
    case measure=>simp[intOf];omega
  have hRf:Hid (R=false):=by show _=_;rw[hR.out,List.drop_of_length_le (by omega)];rfl
  have hbe:=Lib.hid (hb3.out.trans (hb.out.mono hb3.out.size))
  go_wp2_with fail
  go_ret
  exact⟨by rw[hRf.out];rfl,hbe.out⟩
end Go.Proofs.YthfokpchdlcidaaGreat
namespace Go.Proofs.YthfokpchdlcidaaGreat
open Go Go.RowKit Go.Shelf
theorem polyE_401 {ps:List Pt} (h:Cal.polyE ps=0):ps.length≤40:=by
 unfold Cal.polyE at h
 split at h
 ·cases h
 omega
theorem badSide_no {a b:List Pt} {i:Nat} (h1:∀ k,k<a.length→Cal.crosS (Cal.sd b i) (Cal.sd a k)=false) (h2:¬0<Cal.whereP a (Cal.sd b i).a) (h3:Cal.entersR (Cal.sd b i) a=false):Cal.badSide a b i=false:=by
 unfold Cal.badSide
 rw[decide_eq_false h2,h3,Bool.or_false,Bool.or_false,List.any_eq_false]
 intro k hk
 rw[h1 k (List.mem_range.1 hk)];decide
theorem badSide_cross {a b:List Pt} {i k:Nat} (hk:k<a.length) (h1:Cal.crosS (Cal.sd b i) (Cal.sd a k)=true):Cal.badSide a b i=true:=by
 unfold Cal.badSide
 rw[List.any_eq_true.2 ⟨k,List.mem_range.2 hk,h1⟩];rfl
theorem badSide_other {a b:List Pt} {i:Nat} (h:(decide (0<Cal.whereP a (Cal.sd b i).a) || Cal.entersR (Cal.sd b i) a)=true):Cal.badSide a b i=true:=by
 unfold Cal.badSide
 rw[h,Bool.or_true]
theorem within_bad {a b:List Pt} {i:Nat} (hi:i<b.length) (h:Cal.badSide a b i=true):Cal.withinR a b=false:=by
 unfold Cal.withinR
 rw[List.any_eq_true.2 ⟨i,List.mem_range.2 hi,h⟩];rfl
theorem within_fine {a b:List Pt} (h:∀ i,i<b.length→Cal.badSide a b i=false):Cal.withinR a b=decide (0<Cal.whereP (Cal.mulP 3 b) (Cal.third3 (Cal.firstTri a))):=by
 unfold Cal.withinR
 have:(List.range b.length).any (Cal.badSide a b)=false:=by
  rw[List.any_eq_false]
  intro i hi
  rw[h i (List.mem_range.1 hi)];decide
 rw[this];rfl
theorem WithinR_any (V:Option Addr) (d:Nat) (a:List Pt) (V2:Option Addr) (d2:Nat) (b:List Pt) (w:World) (hA:PtsR w V a) (hd:a.length≤d) (hB:PtsR w V2 b) (ha:Cal.polyE a=0) (hb:Cal.polyE b=0) :
  Calls Tryz.prog 49 #[.slice V a.length d,.slice V2 b.length d2] w fun e w'=>e=.returned (.bool (Cal.withinR a b))∧Below w.heap.size w w':=by
 obtain⟨hpa,hia,_⟩:=Cal.polyE_poly ha
 obtain⟨hpb,hib,_⟩:=Cal.polyE_poly hb
 have hla:=polyE_401 ha
 have hlb:=polyE_401 hb
 have h3b:=hpb.three
 have hsa:∀ p∈a,SmP p:=fun p hp=>ptErr_sm (hia p hp)
 have hsb:∀ p∈b,SmP p:=fun p hp=>ptErr_sm (hib p hp)
 have hPa:Pts w V a:=⟨hA.rows,hA.size,hsa,hA.own⟩
 have hPb:Pts w V2 b:=⟨hB.rows,hB.size,hsb,hB.own⟩
 obtain⟨R,hR⟩:∃ R,Cal.withinR a b=R:=⟨_,rfl⟩
 rw[hR]
 have hbad:=Lib.hid (fun i (hi:i<b.length) h=>hR ▸ within_bad (a:=a) hi h)
 have hfine:=Lib.hid (fun h=>hR ▸ within_fine (a:=a) (b:=b) h)
 have hft:Hid (Cal.firstTri a∈Cal.trisOf a):=Cal.firstTri_mem (Cal.goodP_of ha)
 have hgood:=Lib.hid (fun (l0:0<(Cal.trisOf a).length)=>(rfl:Cal.firstTri a=Cal.firstTri a))
 have htr:=Lib.hid (fun W (hW:Below w.heap.size w W)=>TrianglesR_any V d a W (hPa.below hW) hd)
 have hsdB:=Lib.hid (fun i (hi:i<b.length) W (hW:Below w.heap.size w W)=>sideR_any V2 d2 b i W (hB.below hW) hi (by omega))
 have hsdA:=Lib.hid (fun k (hk:k<a.length) W (hW:Below w.heap.size w W)=>sideR_any V d a k W (hA.below hW) hk (by omega))
 have hwh1:=Lib.hid (fun q (hq:SmP q) W (hW:Below w.heap.size w W)=>WhereR_any V d a q W (hPa.below hW) hq (by omega))
 have hent:=Lib.hid (fun s h1 h2 W (hW:Below w.heap.size w W)=>entersR_any s V d a W h1 h2 (hA.below hW) hia (by omega))
 have hti:Hid (∀ W,Below w.heap.size w W→Calls Tryz.prog 91 #[.slice V2 b.length d2,.int .i64 3] W fun e w'=>∃ A c,e=.returned (.slice A (Cal.mulP 3 b).length c)∧Pts w' A (Cal.mulP 3 b)∧Below W.heap.size W w'):=fun W hb=>by
  refine (timesR_any V2 d2 b 3 W (hB.below hb) hib (by decide) (by decide)).mono ?_
  rintro e w' ⟨v,rfl,hO,hb'⟩
  obtain⟨A5,c5,rfl,hr⟩:=OwnL.form hO
  rw[List.length_map]
  refine⟨A5,c5,rfl,pts_own hO hr (by rw[Cal.mul_length];omega) (fun p hp=>?_),hb'⟩
  obtain⟨q,hq,rfl⟩:=List.mem_map.1 hp
  have:=ptErr_box (hib q hq)
  exact⟨by dsimp only;omega,by dsimp only;omega,by dsimp only;omega,by dsimp only;omega⟩
 have hmem:=Lib.hid (trisR_mem a.length a)
 change Hid (∀ t∈Cal.trisOf a,_) at hmem
 have hia':=Lib.hid hia
 have hib':=Lib.hid hib
 have hsa':=Lib.hid hsa
 have hsB:Hid (∀ i,i<b.length→Cal.ptErr (Cal.sd b i).a=0∧Cal.ptErr (Cal.sd b i).b=0):=fun i hi=>by
  unfold Cal.sd
  rw[List.getElem?_eq_getElem hi,List.getElem?_eq_getElem (Nat.mod_lt (i+1) (show 0<b.length by omega))]
  exact⟨hib _ (List.getElem_mem _),hib _ (List.getElem_mem _)⟩
 have hsA:=Lib.hid (fun k (hk:k<a.length)=>hPa.sd k hk)
 have hb0:Hid (Below w.heap.size w w):=Below.refl _ _
 clear hA hB hia hib hsa hsb hPa hPb hpa hpb ha hb hR hgood
 go_enter Tryz.func49,Tryz.ntmps49
 go_wp2_with fail
 go_loopw [5] (fun iv wr=>∃ i:Nat,i≤b.length∧iv=.int .i64 i∧Hid (∀ j,j<i→Cal.badSide a b j=false)∧Hid (Below w.heap.size w wr)) (fun iv _=>b.length-(intOf iv).toNat)
 case atStart=>exact⟨0,Nat.zero_le _,rfl,fun j h=>by omega,hb0⟩
 case round =>
  clear hb0
  obtain⟨i,hi,rfl,hdone,hb⟩:=hrel
  by_cases hlt:i<b.length
  ·have hii:(i:Int)<(b.length:Int):=by omega
   have hsd1:=Lib.hid (hsdB.out i hlt)
   obtain⟨he1,he2⟩:=hsB.out i hlt
   have hnc:=Lib.hid (fun h1 h2 h3=>badSide_no (a:=a) (b:=b) (i:=i) h1 h2 h3)
   have hyc:=Lib.hid (fun k hk h1=>hbad.out i hlt (badSide_cross (a:=a) (b:=b) (i:=i) (k:=k) hk h1))
   have hyo:=Lib.hid (fun h=>hbad.out i hlt (badSide_other (a:=a) (b:=b) (i:=i) h))
   generalize Cal.sd b i=s at *
   have hss:SmS s:=⟨ptErr_sm he1,ptErr_sm he2⟩
   have hwhs:=Lib.hid (hwh1.out s.a hss.a)
   have hens:=Lib.hid (hent.out s he1 he2)
   generalize hwo:wr=wo at *
   clear hwo wr
   go_wp2_with (go_at_call 84;refine (hsd1.out _ hb.out).mono ?_;rintro e w1 ⟨rfl,hb1⟩;have h6:=Lib.hid (BoxAt.new w1 #[.int .i64 s.a.x,.int .i64 s.a.y,.int .i64 s.b.x,.int .i64 s.b.y] 90);have hb2:=Lib.hid (below_step (below_step hb.out hb1) (below_alloc w1 (.cells #[.int .i64 s.a.x,.int .i64 s.a.y,.int .i64 s.b.x,.int .i64 s.b.y] 90)));clear hb1)
   generalize hwx:w1.alloc (.cells #[.int .i64 s.a.x,.int .i64 s.a.y,.int .i64 s.b.x,.int .i64 s.b.y] 90)=w2 at *
   generalize w1.heap.size=B6 at *
   clear hwx w1
   have hbm:Hid (Below w2.heap.size w2 w2):=Below.refl _ _
   go_loopw [7] (fun kv wr=>∃ k:Nat,k≤a.length∧kv=.int .i64 k∧Hid (∀ j,j<k→Cal.crosS s (Cal.sd a j)=false)∧Hid (Below w2.heap.size w2 wr)) (fun kv _=>a.length-(intOf kv).toNat)
   case atStart=>exact⟨0,Nat.zero_le _,rfl,fun j h=>by omega,hbm⟩
   case round =>
    clear hbm
    obtain⟨k,hk,rfl,hno,hbm⟩:=hrel
    have hbT:=Lib.hid (hb2.out.trans (hbm.out.mono hb2.out.size))
    replace h6:=Lib.hid (h6.out.below hbm.out)
    (obtain⟨s0,s1,s2,s3⟩:=h6.out.c4)
    by_cases hlk:k<a.length
    ·have hkk:(k:Int)<(a.length:Int):=by omega
     have hst:SmS (Cal.sd a k):=hsA.out k hlk
     have hsd2:=Lib.hid (hsdA.out k hlk)
     have hcc:=hyc.out k hlk
     generalize hta:Cal.sd a k=t at *
     replace hta:=Lib.hid hta
     have hcr:=Lib.hid (fun W=>crossesR_any s t W hss hst)
     cases hh:Cal.crosS s t
     ·rw[hh] at hcr
      have hno2:Hid (∀ j,j<k+1→Cal.crosS s (Cal.sd a j)=false):=fun j hj=>by
       rcases Nat.lt_succ_iff_lt_or_eq.1 hj with h' | h'
       ·exact hno.out j h'
       rw[h',hta.out];exact hh
      clear hh hno hcc
      go_wp2_with fail
      refine wp_region_held_drew (S:=Sx wr [(B6,0,.int .i64 s.a.x),(B6,1,.int .i64 s.a.y),(B6,2,.int .i64 s.b.x),(B6,3,.int .i64 s.b.y)]) (by kernel_rfl) (Sx.mk (by simp only[cs_iff_cons];exact⟨s0,s1,s2,s3,cs_nil _⟩) (Below.refl _ _)).drew (fun hHeld=>?_)
      clear s0 s1 s2 s3
      refine tkHx 0 24 ?_
      refine tkHx 1 25 ?_
      refine tkHx 2 26 ?_
      (refine ratHx 3 (fun K hK=>?_);go_simp)
      refine (hsd2.out _ (hbT.out.trans (hHeld.bel.mono hbT.out.size))).mono ?_
      rintro e wn ⟨rfl,hbn⟩
      go_simp
      (refine hK.out _ _ (hHeld.step hbn) (fun hHeld=>?_);clear hK K;(try simp only[apS,apN,siA,scZ,scS]))
      (refine ratHx 4 (fun K hK=>?_);go_simp)
      refine (hcr.out _).mono ?_
      rintro e wn ⟨rfl,hbn⟩
      go_simp
      (refine hK.out _ _ (hHeld.step hbn) (fun hHeld=>?_);clear hK K;(try simp only[apS,apN,siA,scZ,scS]))
      refine wpAnyH_done (by kernel_rfl) ?_ _
      (try simp only[apS,apN,siA,scZ,scS])
      have hbe:=Lib.hid (hbm.out.trans (hHeld.bel.mono hbm.out.size))
      clear hHeld
      go_wp2_with fail
      go_roundw
      case rel=>exact⟨k+1,by omega,by go_num,hno2,hbe⟩
      case measure=>simp[intOf];omega
     rw[hh] at hcr
     have hRf:Hid (R=false):=hcc hh
     clear hh hno hcc
     go_wp2_with fail
     refine wp_region_held_drew (S:=Sx wr [(B6,0,.int .i64 s.a.x),(B6,1,.int .i64 s.a.y),(B6,2,.int .i64 s.b.x),(B6,3,.int .i64 s.b.y)]) (by kernel_rfl) (Sx.mk (by simp only[cs_iff_cons];exact⟨s0,s1,s2,s3,cs_nil _⟩) (Below.refl _ _)).drew (fun hHeld=>?_)
     clear s0 s1 s2 s3
     refine tkHx 0 24 ?_
     refine tkHx 1 25 ?_
     refine tkHx 2 26 ?_
     (refine ratHx 3 (fun K hK=>?_);go_simp)
     refine (hsd2.out _ (hbT.out.trans (hHeld.bel.mono hbT.out.size))).mono ?_
     rintro e wn ⟨rfl,hbn⟩
     go_simp
     (refine hK.out _ _ (hHeld.step hbn) (fun hHeld=>?_);clear hK K;(try simp only[apS,apN,siA,scZ,scS]))
     (refine ratHx 4 (fun K hK=>?_);go_simp)
     refine (hcr.out _).mono ?_
     rintro e wn ⟨rfl,hbn⟩
     go_simp
     (refine hK.out _ _ (hHeld.step hbn) (fun hHeld=>?_);clear hK K;(try simp only[apS,apN,siA,scZ,scS]))
     refine wpAnyH_done (by kernel_rfl) ?_ _
     (try simp only[apS,apN,siA,scZ,scS])
     have hbe:=Lib.hid (hbT.out.trans (hHeld.bel.mono hbT.out.size))
     clear hHeld
     go_wp2_with fail
     go_ret
     exact⟨by rw[hRf.out];rfl,hbe.out⟩
    obtain rfl:k=a.length:=by omega
    have hnc2:=Lib.hid (hnc.out hno.out)
    generalize Cal.whereP a s.a=z at *
    by_cases h0:0<z
    ·have hRf:Hid (R=false):=hyo.out (by rw[decide_eq_true h0];rfl)
     clear hnc2 hyo hens
     go_wp2_with (go_at_call 51;refine (hwhs.out _ hbT.out).mono ?_;rintro e w3 ⟨rfl,hb3⟩;have hbe:=Lib.hid (below_step hbT.out hb3);clear hb3 s0 s1 s2 s3)
     go_ret
     exact⟨by rw[hRf.out];rfl,hbe.out⟩
    generalize Cal.entersR s a=en at *
    cases en
    ·have hdone2:Hid (∀ j,j<i+1→Cal.badSide a b j=false):=fun j hj=>by
      rcases Nat.lt_succ_iff_lt_or_eq.1 hj with h' | h'
      ·exact hdone.out j h'
      rw[h'];exact hnc2.out (by omega) rfl
     clear hnc2 hyo hdone
     go_wp2_with (first
      |(go_at_call 51;refine (hwhs.out _ hbT.out).mono ?_;clear hwhs;rintro e w3 ⟨rfl,hb3⟩;have hbe:=Lib.hid (below_step hbT.out hb3);replace h6:=Lib.hid (h6.out.below hb3);clear hb3 s0 s1 s2 s3;(obtain⟨s0,s1,s2,s3⟩:=h6.out.c4))
      |(go_at_call 89;refine (hens.out _ hbe.out).mono ?_;clear hens;rintro e w4 ⟨rfl,hb4⟩;have hbf:=Lib.hid (below_step hbe.out hb4);clear hb4 s0 s1 s2 s3))
     go_roundw
     case rel=>exact⟨i+1,by omega,by go_num,hdone2,hbf⟩
     case measure=>simp[intOf];omega
    have hRf:Hid (R=false):=hyo.out (by rw[Bool.or_true])
    clear hnc2 hyo hdone
    go_wp2_with (first
     |(go_at_call 51;refine (hwhs.out _ hbT.out).mono ?_;clear hwhs;rintro e w3 ⟨rfl,hb3⟩;have hbe:=Lib.hid (below_step hbT.out hb3);replace h6:=Lib.hid (h6.out.below hb3);clear hb3 s0 s1 s2 s3;(obtain⟨s0,s1,s2,s3⟩:=h6.out.c4))
     |(go_at_call 89;refine (hens.out _ hbe.out).mono ?_;clear hens;rintro e w4 ⟨rfl,hb4⟩;have hbf:=Lib.hid (below_step hbe.out hb4);clear hb4 s0 s1 s2 s3))
    go_ret
    exact⟨by rw[hRf.out];rfl,hbf.out⟩
  obtain rfl:i=b.length:=by omega
  have hRe:=hfine.out hdone.out
  have h0T:0<(Cal.trisOf a).length:=List.length_pos_of_mem hft.out
  have hf0:Cal.firstTri a=(Cal.trisOf a)[0]:=by unfold Cal.firstTri;rw[List.getElem?_eq_getElem h0T];rfl
  have htr2:Hid (∀ W,Below w.heap.size w W→Calls Tryz.prog 90 #[.slice V a.length d] W fun e w'=>∃ b9 o9 c9 g x y z,e=.returned (.slice (some ⟨b9,o9,none⟩) (Cal.trisOf a).length c9)∧b9<w'.heap.size∧w'.cell? ⟨b9,o9,none⟩=some (.slice (some ⟨g,0,none⟩) 3 3)∧(Cal.trisOf a)[0]=[x,y,z]∧Pts w' (some ⟨g,0,none⟩) [x,y,z]∧(x∈a∧y∈a∧z∈a)∧Below W.heap.size W w'):=fun W hW=>by
   refine (htr.out W hW).mono ?_
   rintro e w' ⟨v,gs,rfl,hT,hb'⟩
   obtain⟨A9,c9,rfl,hr9⟩:=hT.read
   obtain⟨b9,o9,g,x,y,z,rfl,hb9,hc9,he9,_,_,_,hp9⟩:=hr9.tri hmem.out hsa'.out h0T
   obtain⟨x',y',z',e2,h1,h2,h3⟩:=hmem.out _ (List.getElem_mem h0T)
   rw[he9] at e2
   simp only[List.cons.injEq,and_true] at e2
   obtain⟨rfl,rfl,rfl⟩:=e2
   exact⟨b9,o9,c9,g,x,y,z,rfl,hb9,hc9,he9,hp9,⟨h1,h2,h3⟩,hb'⟩
  have hlT:(0:Int)<((Cal.trisOf a).length:Int):=by omega
  have hlT2:(Cal.trisOf a).length≤1000000:=Nat.le_trans (trisR_len _ _) (by omega)
  rw[hf0] at hRe
  clear hfine hdone htr hft hf0 hent hwh1 hsdA hsdB hbad hsA hsB
  obtain⟨T0,hT0⟩:∃ T,(Cal.trisOf a)[0]=T:=⟨_,rfl⟩
  simp only[hT0] at hRe htr2
  clear hT0 hmem h0T
  generalize (Cal.trisOf a).length=lT at *
  go_wp2_with (go_at_call 90;refine (htr2.out _ hb.out).mono ?_;clear htr2;rintro e w3 ⟨b9,o9,c9,g,x,y,z,rfl,hb9,hc9,rfl,hp9,⟨hx,hy,hz⟩,hb3⟩;have hbe:=Lib.hid (below_step hb.out hb3);clear hb3)
  obtain⟨b8,o8,hA8,_,x0,x1⟩:=pts_at hp9.rows (k:=0) (q:=x) rfl
  cases hA8
  obtain⟨b8,o8,hA8,_,y0,y1⟩:=pts_at hp9.rows (k:=1) (q:=y) rfl
  cases hA8
  obtain⟨b8,o8,hA8,_,z0,z1⟩:=pts_at hp9.rows (k:=2) (q:=z) rfl
  cases hA8
  have bx:=ptErr_box (hia'.out x hx)
  have by':=ptErr_box (hia'.out y hy)
  have bz:=ptErr_box (hia'.out z hz)
  simp only[Nat.zero_mul,Nat.add_zero,Nat.zero_add,Nat.one_mul,Nat.reduceMul] at x0 x1 y0 y1 z0 z1
  have f1:IntKind.i64.wrap (x.x+y.x)=x.x+y.x:=wrap_small (by omega) (by omega)
  have f1b:wrap64 (x.x+y.x)=x.x+y.x:=by rw[←wrap_eq];exact f1
  have f2:IntKind.i64.wrap (x.x+y.x+z.x)=x.x+y.x+z.x:=wrap_small (by omega) (by omega)
  have f2b:wrap64 (x.x+y.x+z.x)=x.x+y.x+z.x:=by rw[←wrap_eq];exact f2
  have f3:IntKind.i64.wrap (x.y+y.y)=x.y+y.y:=wrap_small (by omega) (by omega)
  have f3b:wrap64 (x.y+y.y)=x.y+y.y:=by rw[←wrap_eq];exact f3
  have f4:IntKind.i64.wrap (x.y+y.y+z.y)=x.y+y.y+z.y:=wrap_small (by omega) (by omega)
  have f4b:wrap64 (x.y+y.y+z.y)=x.y+y.y+z.y:=by rw[←wrap_eq];exact f4
  have hms:SmP ⟨x.x+y.x+z.x,x.y+y.y+z.y⟩:=⟨by dsimp only;omega,by dsimp only;omega,by dsimp only;omega,by dsimp only;omega⟩
  have hwh:=Lib.hid (fun A c W hp=>WhereR_any A c (Cal.mulP 3 b) ⟨x.x+y.x+z.x,x.y+y.y+z.y⟩ W hp hms (by rw[Cal.mul_length];omega))
  replace hRe:Hid (R=decide (0<Cal.whereP (Cal.mulP 3 b) ⟨x.x+y.x+z.x,x.y+y.y+z.y⟩)):=hRe
  generalize Cal.whereP (Cal.mulP 3 b) ⟨x.x+y.x+z.x,x.y+y.y+z.y⟩=q at *
  clear bx by' bz hms hp9 hx hy hz
  go_wp2_with fail
  refine wp_region_held_drew (S:=Sx w3 [(g,0,.int .i64 x.x),(g,1,.int .i64 x.y),(g,2,.int .i64 y.x),(g,3,.int .i64 y.y),(g,4,.int .i64 z.x),(g,5,.int .i64 z.y)]) (by kernel_rfl) (Sx.mk (by simp only[cs_iff_cons];exact⟨x0,x1,y0,y1,z0,z1,cs_nil _⟩) (Below.refl _ _)).drew (fun hHeld=>?_)
  clear x0 x1 y0 y1 z0 z1
  refine tkHx 0 43 ?_
  refine tkHx 2 45 ?_
  refine tkHx 3 46 ?_
  refine tkHx 4 47 ?_
  refine tkHx 5 48 ?_
  refine tkHx 6 49 ?_
  refine tkHx 7 50 ?_
  refine tkHx 8 51 ?_
  refine tkHx 9 52 ?_
  refine tkHx 10 53 ?_
  refine tkHx 11 54 ?_
  refine tkHx 12 55 ?_
  refine tkHx 13 56 ?_
  refine tkHx 14 57 ?_
  refine tkHx 15 58 ?_
  refine tkHx 16 59 ?_
  refine tkHx 17 60 ?_
  refine tkHx 18 61 ?_
  refine tkHx 19 62 ?_
  refine tkHx 20 63 ?_
  refine tkHx 21 64 ?_
  refine tkHx 22 65 ?_
  refine tkHx 23 66 ?_
  refine tkHx 24 67 ?_
  refine tkHx 25 68 ?_
  refine tkHx 26 69 ?_
  refine tkHx 27 70 ?_
  refine tkHx 28 71 ?_
  refine tkHx 29 72 ?_
  refine tkHx 30 73 ?_
  (refine ratHx 1 (fun K hK=>?_);go_simp)
  refine (hti.out _ (hbe.out.trans (hHeld.bel.mono hbe.out.size))).mono ?_
  rintro e wn ⟨A9,c9',rfl,hp9,hbn⟩
  go_simp
  (refine hK.out _ _ (hHeld.step hbn) (fun hHeld=>?_);clear hK K;(try simp only[apS,apN,siA,scZ,scS]))
  (refine ratHx 31 (fun K hK=>?_);go_simp)
  refine (hwh.out A9 c9' _ hp9).mono ?_
  rintro e wm ⟨rfl,hbm⟩
  go_simp
  (refine hK.out _ _ (hHeld.step hbm) (fun hHeld=>?_);clear hK K;(try simp only[apS,apN,siA,scZ,scS]))
  refine tkHx 32 75 ?_
  refine tkHx 33 4 ?_
  refine wpAnyH_done (by kernel_rfl) ?_ _
  (try simp only[apS,apN,siA,scZ,scS])
  have hbf:=Lib.hid (hbe.out.trans (hHeld.bel.mono hbe.out.size))
  clear hHeld
  go_wp2_with fail
  go_ret
  exact⟨by rw[hRe.out];rfl,hbf.out⟩
end Go.Proofs.YthfokpchdlcidaaGreat
