/- What the statements rest on: definitions and walks, part 14. -/
import Derived.Test.YthfokpchdlcidaaGreatJ13
set_option maxRecDepth 100000
set_option maxHeartbeats 16000000
set_option linter.unusedSimpArgs false
set_option linter.unusedVariables false
namespace Go.Proofs.YthfokpchdlcidaaGreat
open Go Go.RowKit Go.Shelf
theorem simpleR_no1 {ps:List Pt} {i:Nat} (hi:i<ps.length) (h:Cal.turnsR ps i=true):Cal.simpleR ps=false:=by
 rw[←Bool.not_eq_true]
 intro hs
 unfold Cal.simpleR at hs
 have:=List.all_eq_true.1 hs i (List.mem_range.2 hi)
 rw[h] at this
 simp at this
theorem simpleR_no2 {ps:List Pt} {i k:Nat} (hi:i<ps.length) (hk:k<ps.length) (h:Cal.badK ps i k=true):Cal.simpleR ps=false:=by
 rw[←Bool.not_eq_true]
 intro hs
 unfold Cal.simpleR at hs
 have:=List.all_eq_true.1 hs i (List.mem_range.2 hi)
 rw[Bool.and_eq_true] at this
 have:=List.all_eq_true.1 this.2 k (List.mem_range.2 hk)
 rw[h] at this
 simp at this
theorem simpleR_all {ps:List Pt} (h:∀ i,i<ps.length→Cal.turnsR ps i=false∧∀ j,j<ps.length→Cal.badK ps i j=false):Cal.simpleR ps=true:=by
 unfold Cal.simpleR
 refine List.all_eq_true.2 fun i hi=>?_
 obtain⟨h1,h2⟩:=h i (List.mem_range.1 hi)
 rw[h1,Bool.not_false,Bool.true_and]
 exact List.all_eq_true.2 fun k hk=>by rw[h2 k (List.mem_range.1 hk)];rfl
theorem CheckPolyR_any (V:Option Addr) (d:Nat) (ps:List Pt) (w:World) (hP:PtsR w V ps):Calls Tryz.prog 48 #[.slice V ps.length d] w fun e w'=>e=.returned (.int .i64 (Cal.polyR ps))∧Below w.heap.size w w':=by
 have hsz:=hP.size
 have hb0:Hid (Below w.heap.size w w):=Below.refl _ _
 obtain⟨E,hE⟩:∃ E,Cal.polyR ps=E:=⟨_,rfl⟩
 rw[hE]
 unfold Cal.polyR at hE
 have hW:=Lib.hid (fun W=>Within_any (ps.length:Int) 3 40 W)
 rcases Nat.lt_or_ge ps.length 3 with h1 | h1
 ·rw[if_pos (by omega)] at hE
  subst hE
  rw[show decide ((3:Int)≤(ps.length:Int))=false from by simp;omega] at hW
  rw[Bool.false_and] at hW
  go_enter Tryz.func48,Tryz.ntmps48
  go_wp2_with (go_at_call 14;refine (hW.out _).mono ?_;rintro e _ ⟨rfl,rfl⟩)
  go_ret
  exact⟨rfl,hb0.out⟩
 rcases Nat.lt_or_ge 40 ps.length with h2 | h2
 ·rw[if_pos (by omega)] at hE
  subst hE
  rw[show decide ((ps.length:Int)≤40)=false from by simp;omega] at hW
  rw[Bool.and_false] at hW
  go_enter Tryz.func48,Tryz.ntmps48
  go_wp2_with (go_at_call 14;refine (hW.out _).mono ?_;rintro e _ ⟨rfl,rfl⟩)
  go_ret
  exact⟨rfl,hb0.out⟩
 rw[if_neg (by omega)] at hE
 rw[show (decide ((3:Int)≤(ps.length:Int)) && decide ((ps.length:Int)≤40))=true from by simp;omega] at hW
 replace hE:=Lib.hid hE
 have hP:=Lib.hid hP
 go_enter Tryz.func48,Tryz.ntmps48
 go_wp2_with (go_at_call 14;refine (hW.out _).mono ?_;rintro e _ ⟨rfl,rfl⟩)
 go_loopw [3] (fun i wr=>∃ k:Nat,k≤ps.length∧i=.int .i64 k∧Hid (∀ j (hj:j<ps.length),j<k→Cal.ptErr ps[j]=0)∧Hid (Below w.heap.size w wr)) (fun i _=>ps.length-(intOf i).toNat)
 case atStart=>exact⟨0,Nat.zero_le _,rfl,fun j hj h=>by omega,hb0⟩
 case round =>
  clear hb0 hW
  obtain⟨k,hk,rfl,hall,hb⟩:=hrel
  by_cases hlt:k<ps.length
  ·have hkg:ps[k]?=some ps[k]:=List.getElem?_eq_getElem hlt
   obtain⟨b,o,rfl,hbl,e0,e1⟩:=pts_at (hP.out.below hb.out).rows hkg
   have hki:(k:Int)<(ps.length:Int):=by omega
   have hin:=Lib.hid (fun W=>InPlaceR_any ps[k] W)
   cases hx:inPl ps[k]
   ·have hE2:Hid (E=2):=by
     show _=_
     have hne:Cal.ptErr ps[k]≠0:=fun h=>by rw[(inPl_err _).2 h] at hx;cases hx
     have:=hE.out
     rw[if_neg (by rw[ptsErr_first ps k hlt (fun j hj=>hall.out j _ hj) hne];decide),ptsErr_first ps k hlt (fun j hj=>hall.out j _ hj) hne] at this
     exact this.symm
    rw[hx] at hin
    clear hx hkg
    generalize ps[k]=p at *
    go_wp2_with (go_at_call 12;refine (hin.out _).mono ?_;rintro e w1 ⟨rfl,hb1⟩;have hb2:=Lib.hid (below_step hb.out hb1);clear hb1)
    go_ret
    exact⟨by rw[hE2.out];rfl,hb2.out⟩
   have hall2:Hid (∀ j (hj:j<ps.length),j<k+1→Cal.ptErr ps[j]=0):=fun j hj h=>by
    rcases Nat.lt_succ_iff_lt_or_eq.1 h with h | h
    ·exact hall.out j hj h
    subst h;exact (inPl_err _).1 hx
   rw[hx] at hin
   clear hx hkg hall
   generalize ps[k]=p at *
   go_wp2_with (go_at_call 12;refine (hin.out _).mono ?_;rintro e w1 ⟨rfl,hb1⟩;have hb2:=Lib.hid (below_step hb.out hb1);clear hb1)
   go_roundw
   case rel=>exact⟨k+1,hlt,by go_num,hall2,hb2⟩
   case measure=>simp[intOf];omega
  have hke:k=ps.length:=by omega
  have hz:=ptsErr_all ps (fun j hj=>hall.out j hj (by omega))
  have hsm:=Lib.hid (PtsR.pts hP.out hz)
  have hE:=hE.out
  rw[if_pos hz] at hE
  replace hE:=Lib.hid hE
  subst hke
  clear hz hall
  go_wp2_with fail
  go_loopw [4,5] (fun i kv wr=>∃ k:Nat,k≤ps.length∧i=.int .i64 k∧Hid (∀ i (hi:i<ps.length) j (hj:j<i),i<k→ps[j]≠ps[i])∧Hid (Below w.heap.size w wr)) (fun i _ _=>ps.length-(intOf i).toNat)
  case atStart=>exact⟨0,Nat.zero_le _,rfl,fun i hi j hj h=>by omega,hb⟩
  case round =>
   clear hb
   obtain⟨i,hi,rfl,hall,hb⟩:=hrel
   by_cases hlt:i<ps.length
   ·go_wp2_with fail
    go_loopw [5] (fun kv wr=>∃ k:Nat,k≤i∧kv=.int .i64 k∧Hid (∀ j (hj:j<i),j<k→ps[j]≠ps[i])∧Hid (Below w.heap.size w wr)) (fun kv _=>i-(intOf kv).toNat)
    case atStart=>exact⟨0,Nat.zero_le _,rfl,fun j hj h=>by omega,hb⟩
    case round =>
     clear hb
     obtain⟨k,hk,rfl,hin,hb⟩:=hrel
     by_cases hki:k<i
     ·have hkl:k<ps.length:=by omega
      obtain⟨b,o,rfl,hbl,e0,e1⟩:=pts_at (hP.out.below hb.out).rows (List.getElem?_eq_getElem hlt)
      obtain⟨b',o',hA,_,e2,e3⟩:=pts_at (hP.out.below hb.out).rows (List.getElem?_eq_getElem hkl)
      cases hA
      have hii:(i:Int)<(ps.length:Int):=by omega
      have hkk:(k:Int)<(ps.length:Int):=by omega
      by_cases heq:ps[k]=ps[i]
      ·have hE5:Hid (E=5):=by
        show _=_
        have:=hE.out
        rw[if_pos (twiceP_hit hlt hki heq)] at this
        exact this.symm
       rw[heq] at e2 e3
       clear heq
       generalize ps[i]=pi at *
       go_wp2_with fail
       refine wp_region_held_drew (S:=Sx wr [(b,o+i*2,.int .i64 pi.x),(b,o+i*2+1,.int .i64 pi.y),(b,o+k*2,.int .i64 pi.x),(b,o+k*2+1,.int .i64 pi.y)]) (by kernel_rfl) (Sx.mk (by simp only[cs_iff_cons];exact⟨e0,e1,e2,e3,cs_nil _⟩) (Below.refl _ _)).drew (fun hHeld=>?_)
       refine tkHx 0 37 ?_
       refine tkHx 1 38 ?_
       refine tkHx 2 39 ?_
       refine tkHx 3 40 ?_
       refine tkHx 4 41 ?_
       refine tkHx 5 42 ?_
       refine tkHx 6 43 ?_
       refine tkHx 7 44 ?_
       refine tkHx 8 45 ?_
       refine wpAnyH_done (by kernel_rfl) ?_ _
       (try simp only[apS,apN,siA,scZ,scS])
       go_wp2_with fail
       go_ret
       exact⟨by rw[hE5.out];rfl,below_step hb.out hHeld.bel⟩
      have hin2:Hid (∀ j (hj:j<i),j<k+1→ps[j]≠ps[i]):=fun j hj h=>by
       rcases Nat.lt_succ_iff_lt_or_eq.1 h with h | h
       ·exact hin.out j hj h
       subst h;exact heq
      generalize ps[k]=pk at *
      generalize ps[i]=pi at *
      obtain⟨kx,ky⟩:=pk
      obtain⟨ix,iy⟩:=pi
      dsimp only at *
      by_cases hx:kx=ix
      ·subst hx
       have hy:¬ky=iy:=fun h=>heq (by rw[h])
       clear heq hin
       go_wp2_with fail
       refine wp_region_held_drew (S:=Sx wr [(b,o+i*2,.int .i64 kx),(b,o+i*2+1,.int .i64 iy),(b,o+k*2,.int .i64 kx),(b,o+k*2+1,.int .i64 ky)]) (by kernel_rfl) (Sx.mk (by simp only[cs_iff_cons];exact⟨e0,e1,e2,e3,cs_nil _⟩) (Below.refl _ _)).drew (fun hHeld=>?_)
       refine tkHx 0 37 ?_
       refine tkHx 1 38 ?_
       refine tkHx 2 39 ?_
       refine tkHx 3 40 ?_
       refine tkHx 4 41 ?_
       refine tkHx 5 42 ?_
       refine tkHx 6 43 ?_
       refine tkHx 7 44 ?_
       refine tkHx 8 45 ?_
       refine wpAnyH_done (by kernel_rfl) ?_ _
       (try simp only[apS,apN,siA,scZ,scS])
       have hb2:=Lib.hid (below_step hb.out hHeld.bel)
       clear hHeld
       go_wp2_with fail
       go_roundw
       case rel=>exact⟨k+1,hki,by go_num,hin2,hb2⟩
       case measure=>simp[intOf];omega
      clear heq hin
      go_wp2_with fail
      refine wp_region_held_drew (S:=Sx wr [(b,o+i*2,.int .i64 ix),(b,o+i*2+1,.int .i64 iy),(b,o+k*2,.int .i64 kx),(b,o+k*2+1,.int .i64 ky)]) (by kernel_rfl) (Sx.mk (by simp only[cs_iff_cons];exact⟨e0,e1,e2,e3,cs_nil _⟩) (Below.refl _ _)).drew (fun hHeld=>?_)
      refine tkHx 0 37 ?_
      refine tkHx 1 38 ?_
      refine tkHx 2 39 ?_
      refine tkHx 3 40 ?_
      refine tkHx 4 41 ?_
      refine tkHx 5 42 ?_
      refine tkHx 6 43 ?_
      refine tkHx 7 44 ?_
      refine tkHx 8 45 ?_
      refine wpAnyH_done (by kernel_rfl) ?_ _
      (try simp only[apS,apN,siA,scZ,scS])
      have hb2:=Lib.hid (below_step hb.out hHeld.bel)
      clear hHeld
      go_wp2_with fail
      go_roundw
      case rel=>exact⟨k+1,hki,by go_num,hin2,hb2⟩
      case measure=>simp[intOf];omega
     have hall2:Hid (∀ i' (hi:i'<ps.length) j (hj:j<i'),i'<i+1→ps[j]≠ps[i']):=fun i' hi' j hj h=>by
      rcases Nat.lt_succ_iff_lt_or_eq.1 h with h | h
      ·exact hall.out i' hi' j hj h
      subst h;exact hin.out j hj (by omega)
     have hke:k=i:=by omega
     subst hke
     clear hall hin
     go_wp2_with fail
     go_roundw
     case rel=>exact⟨k+1,hlt,by go_num,hall2,hb⟩
     case measure=>simp[intOf];omega
   have hke:i=ps.length:=by omega
   have hnt:=twiceP_pairs (ps:=ps) (fun i' hi' j hj=>hall.out i' hi' j hj (by omega))
   have hE:=hE.out
   rw[if_neg (by rw[hnt];decide)] at hE
   replace hE:=Lib.hid hE
   clear hnt hall
   subst hke
   go_wp2_with fail
   go_loopw [6,7,8,9] (fun iv _ _ _ wr=>∃ k:Nat,k≤ps.length∧iv=.int .i64 k∧Hid (∀ i,i<ps.length→i<k→Cal.turnsR ps i=false∧∀ j,j<ps.length→Cal.badK ps i j=false)∧Hid (Below w.heap.size w wr)) (fun i _ _ _ _=>ps.length-(intOf i).toNat)
   case atStart=>exact⟨0,Nat.zero_le _,rfl,fun i hi h=>by omega,hb⟩
   case round =>
    clear hb
    obtain⟨i,hi,rfl,hall,hb⟩:=hrel
    by_cases hlt:i<ps.length
    ·obtain⟨m,hm⟩:∃ m,m=(i+1) % ps.length:=⟨_,rfl⟩
     have hmlt:m<ps.length:=by rw[hm];exact Nat.mod_lt _ (by omega)
     have hm1:((i:Int)+1).tmod (ps.length:Int)=(m:Int):=by rw[hm];rfl
     have hi1:IntKind.i64.wrap ((i:Int)+1)=(i:Int)+1:=wrap_small (by omega) (by omega)
     have hm2:IntKind.i64.wrap (m:Int)=(m:Int):=wrap_small (by omega) (by omega)
     have hne:¬ps.length=0:=by omega
     have hs1:=Lib.hid (fun W (h:Below wr.heap.size wr W)=>sideR_any V d ps i W ((hP.out.below hb.out).below h) hlt (by omega))
     have hs2:=Lib.hid (fun W (h:Below wr.heap.size wr W)=>sideR_any V d ps m W ((hP.out.below hb.out).below h) hmlt (by omega))
     have hS:=hsm.out.sd i hlt
     have hT:=hsm.out.sd m hmlt
     have htn:Hid (Cal.turnsR ps i=(Cal.hasP (Cal.sd ps i) (Cal.sd ps m).b || Cal.hasP (Cal.sd ps m) (Cal.sd ps i).a)):=by show _=_;unfold Cal.turnsR;rw[hm]
     have hbk:Hid (∀ j,Cal.badK ps i j=(decide (i+1<j) && ((j+1) % ps.length != i) && Cal.meetS (Cal.sd ps i) (Cal.sd ps j))):=fun j=>rfl
     generalize hsi:Cal.sd ps i=s at *
     generalize hsm':Cal.sd ps m=t at *
     clear hsi hsm'
     have hii:(i:Int)<(ps.length:Int):=by omega
     clear hm
     go_wp2_with fail
     go_cut [7,8] from 52 to 61 (fun x7 x8 wc=>∃ B7 B8,x7=.pointer (some ⟨B7,0,none⟩)∧x8=.pointer (some ⟨B8,0,none⟩)∧Hid (BoxAt wc B7 [.int .i64 s.a.x,.int .i64 s.a.y,.int .i64 s.b.x,.int .i64 s.b.y])∧Hid (BoxAt wc B8 [.int .i64 t.a.x,.int .i64 t.a.y,.int .i64 t.b.x,.int .i64 t.b.y])∧Hid (Below wr.heap.size wr wc))
     case first =>
      refine wp_region_held_drew (S:=Sx wr []) (by kernel_rfl) (Sx.mk (cs_nil _) (Below.refl _ _)).drew (fun hHeld=>?_)
      generalize wr.drew=Y at *
      refine tkHx 0 52 ?_
      refine tkHx 1 53 ?_
      refine tkHx 3 55 ?_
      refine tkHx 4 56 ?_
      refine tkHx 5 57 ?_
      refine tkHx 6 58 ?_
      refine tkHx 7 59 ?_
      refine tkHx 8 60 ?_
      (try simp only[apS,apN,siA,scZ,scS])
      (refine wpAnyH_ready (rs:=[2,10,11]) (by decide +kernel) (by simp) ?_;refine AllReadyH.cons rfl (fun K hK=>?_) (AllReadyH.cons rfl (fun K hK=>?_) (AllReadyH.cons rfl (fun K hK=>?_) AllReadyH.nil)))
      ·skip
       (rw[if_pos (by kernel_rfl)];go_simp)
       refine (hs1.out _ hHeld.bel).mono ?_
       rintro e wn ⟨rfl,hbn⟩
       go_simp
       refine hK.out _ _ (hHeld.step hbn) (fun hHeld=>?_)
       clear hK K
       (try simp only[apS,apN,siA,scZ,scS])
       (refine wpAnyH_ready (rs:=[9,10,11]) (by decide +kernel) (by simp) ?_;refine AllReadyH.cons rfl (fun K hK=>?_) (AllReadyH.cons rfl (fun K hK=>?_) (AllReadyH.cons rfl (fun K hK=>?_) AllReadyH.nil)))
       ·skip
        (rw[if_pos (by kernel_rfl)];go_simp)
        refine (hs2.out _ hHeld.bel).mono ?_
        rintro e wn ⟨rfl,hbn⟩
        go_simp
        refine hK.out _ _ (hHeld.step hbn) (fun hHeld=>?_)
        clear hK K
        (try simp only[apS,apN,siA,scZ,scS])
        (refine wpAnyH_ready (rs:=[10,11]) (by decide +kernel) (by simp) ?_;refine AllReadyH.cons rfl (fun K hK=>?_) (AllReadyH.cons rfl (fun K hK=>?_) AllReadyH.nil))
        ·skip
         (rw[if_pos (by kernel_rfl)];go_simp)
         have hH0:=hHeld
         refine hK.out _ _ (hHeld.alloc _) (fun hHeld=>?_)
         have x7:=Lib.hid (newBox hHeld)
         have x7l:=Lib.hid (ltBox hH0 hHeld)
         clear hH0
         clear hK K
         (try simp only[apS,apN,siA,scZ,scS])
         (refine ratHx 11 (fun K hK=>?_);go_simp)
         have hH0:=hHeld
         refine hK.out _ _ (hHeld.alloc _) (fun hHeld=>?_)
         have x8:=Lib.hid (newBox hHeld)
         have x8l:=Lib.hid (ltBox hH0 hHeld)
         have ne78:=Lib.hid (Nat.ne_of_lt x7.out.lt)
         replace x7:=Lib.hid (oldBox hHeld x7.out)
         clear hH0
         clear hK K
         (try simp only[apS,apN,siA,scZ,scS])
         (try simp only[World.size_alloc] at x7 x8 x7l x8l ne78)
         refine storeP 12 90 (.tmp 7) (.tmp 54) _ [.int .i64 s.a.x,.int .i64 s.a.y,.int .i64 s.b.x,.int .i64 s.b.y] x7l.out (fun x hx=>by cases hx) hHeld x7 rfl x8 (Ne.symm ne78.out) x8 (Ne.symm ne78.out) (fun Z2 hHeld x7 x8 _=>?_)
         refine storeP 13 90 (.tmp 8) (.tmp 61) _ [.int .i64 t.a.x,.int .i64 t.a.y,.int .i64 t.b.x,.int .i64 t.b.y] x8l.out (fun x hx=>by cases hx) hHeld x8 rfl x7 ne78.out x7 ne78.out (fun Z3 hHeld x8 x7 _=>?_)
         refine wpAnyH_done (by kernel_rfl) ?_ _
         have hbe:=Lib.hid hHeld.bel
         clear hHeld
         go_wp2_with fail
         go_meet
         case rel=>exact⟨_,_,rfl,rfl,x7,x8,hbe⟩
        skip
        (rw[if_pos (by kernel_rfl)];go_simp)
        have hH0:=hHeld
        refine hK.out _ _ (hHeld.alloc _) (fun hHeld=>?_)
        have x8:=Lib.hid (newBox hHeld)
        have x8l:=Lib.hid (ltBox hH0 hHeld)
        clear hH0
        clear hK K
        (try simp only[apS,apN,siA,scZ,scS])
        (refine ratHx 10 (fun K hK=>?_);go_simp)
        have hH0:=hHeld
        refine hK.out _ _ (hHeld.alloc _) (fun hHeld=>?_)
        have x7:=Lib.hid (newBox hHeld)
        have x7l:=Lib.hid (ltBox hH0 hHeld)
        have ne78:=Lib.hid (Nat.ne_of_gt x8.out.lt)
        replace x8:=Lib.hid (oldBox hHeld x8.out)
        clear hH0
        clear hK K
        (try simp only[apS,apN,siA,scZ,scS])
        (try simp only[World.size_alloc] at x7 x8 x7l x8l ne78)
        refine storeP 12 90 (.tmp 7) (.tmp 54) _ [.int .i64 s.a.x,.int .i64 s.a.y,.int .i64 s.b.x,.int .i64 s.b.y] x7l.out (fun x hx=>by cases hx) hHeld x7 rfl x8 (Ne.symm ne78.out) x8 (Ne.symm ne78.out) (fun Z2 hHeld x7 x8 _=>?_)
        refine storeP 13 90 (.tmp 8) (.tmp 61) _ [.int .i64 t.a.x,.int .i64 t.a.y,.int .i64 t.b.x,.int .i64 t.b.y] x8l.out (fun x hx=>by cases hx) hHeld x8 rfl x7 ne78.out x7 ne78.out (fun Z3 hHeld x8 x7 _=>?_)
        refine wpAnyH_done (by kernel_rfl) ?_ _
        have hbe:=Lib.hid hHeld.bel
        clear hHeld
        go_wp2_with fail
        go_meet
        case rel=>exact⟨_,_,rfl,rfl,x7,x8,hbe⟩
       ·skip
        (rw[if_pos (by kernel_rfl)];go_simp)
        have hH0:=hHeld
        refine hK.out _ _ (hHeld.alloc _) (fun hHeld=>?_)
        have x7:=Lib.hid (newBox hHeld)
        have x7l:=Lib.hid (ltBox hH0 hHeld)
        clear hH0
        clear hK K
        (try simp only[apS,apN,siA,scZ,scS])
        (refine wpAnyH_ready (rs:=[9,11]) (by decide +kernel) (by simp) ?_;refine AllReadyH.cons rfl (fun K hK=>?_) (AllReadyH.cons rfl (fun K hK=>?_) AllReadyH.nil))
        ·skip
         (rw[if_pos (by kernel_rfl)];go_simp)
         refine (hs2.out _ hHeld.bel).mono ?_
         rintro e wn ⟨rfl,hbn⟩
         go_simp
         replace x7:=Lib.hid (x7.out.below hbn)
         refine hK.out _ _ (hHeld.step hbn) (fun hHeld=>?_)
         clear hK K
         (try simp only[apS,apN,siA,scZ,scS])
         (refine ratHx 11 (fun K hK=>?_);go_simp)
         have hH0:=hHeld
         refine hK.out _ _ (hHeld.alloc _) (fun hHeld=>?_)
         have x8:=Lib.hid (newBox hHeld)
         have x8l:=Lib.hid (ltBox hH0 hHeld)
         have ne78:=Lib.hid (Nat.ne_of_lt x7.out.lt)
         replace x7:=Lib.hid (oldBox hHeld x7.out)
         clear hH0
         clear hK K
         (try simp only[apS,apN,siA,scZ,scS])
         (try simp only[World.size_alloc] at x7 x8 x7l x8l ne78)
         refine storeP 12 90 (.tmp 7) (.tmp 54) _ [.int .i64 s.a.x,.int .i64 s.a.y,.int .i64 s.b.x,.int .i64 s.b.y] x7l.out (fun x hx=>by cases hx) hHeld x7 rfl x8 (Ne.symm ne78.out) x8 (Ne.symm ne78.out) (fun Z2 hHeld x7 x8 _=>?_)
         refine storeP 13 90 (.tmp 8) (.tmp 61) _ [.int .i64 t.a.x,.int .i64 t.a.y,.int .i64 t.b.x,.int .i64 t.b.y] x8l.out (fun x hx=>by cases hx) hHeld x8 rfl x7 ne78.out x7 ne78.out (fun Z3 hHeld x8 x7 _=>?_)
         refine wpAnyH_done (by kernel_rfl) ?_ _
         have hbe:=Lib.hid hHeld.bel
         clear hHeld
         go_wp2_with fail
         go_meet
         case rel=>exact⟨_,_,rfl,rfl,x7,x8,hbe⟩
        skip
        (rw[if_pos (by kernel_rfl)];go_simp)
        have hH0:=hHeld
        refine hK.out _ _ (hHeld.alloc _) (fun hHeld=>?_)
        have x8:=Lib.hid (newBox hHeld)
        have x8l:=Lib.hid (ltBox hH0 hHeld)
        have ne78:=Lib.hid (Nat.ne_of_lt x7.out.lt)
        replace x7:=Lib.hid (oldBox hHeld x7.out)
        clear hH0
        clear hK K
        (try simp only[apS,apN,siA,scZ,scS])
        (refine ratHx 9 (fun K hK=>?_);go_simp)
        refine (hs2.out _ hHeld.bel).mono ?_
        rintro e wn ⟨rfl,hbn⟩
        go_simp
        replace x7:=Lib.hid (x7.out.below hbn)
        replace x8:=Lib.hid (x8.out.below hbn)
        refine hK.out _ _ (hHeld.step hbn) (fun hHeld=>?_)
        clear hK K
        (try simp only[apS,apN,siA,scZ,scS])
        (try simp only[World.size_alloc] at x7 x8 x7l x8l ne78)
        refine storeP 12 90 (.tmp 7) (.tmp 54) _ [.int .i64 s.a.x,.int .i64 s.a.y,.int .i64 s.b.x,.int .i64 s.b.y] x7l.out (fun x hx=>by cases hx) hHeld x7 rfl x8 (Ne.symm ne78.out) x8 (Ne.symm ne78.out) (fun Z2 hHeld x7 x8 _=>?_)
        refine storeP 13 90 (.tmp 8) (.tmp 61) _ [.int .i64 t.a.x,.int .i64 t.a.y,.int .i64 t.b.x,.int .i64 t.b.y] x8l.out (fun x hx=>by cases hx) hHeld x8 rfl x7 ne78.out x7 ne78.out (fun Z3 hHeld x8 x7 _=>?_)
        refine wpAnyH_done (by kernel_rfl) ?_ _
        have hbe:=Lib.hid hHeld.bel
        clear hHeld
        go_wp2_with fail
        go_meet
        case rel=>exact⟨_,_,rfl,rfl,x7,x8,hbe⟩
       skip
       (rw[if_pos (by kernel_rfl)];go_simp)
       have hH0:=hHeld
       refine hK.out _ _ (hHeld.alloc _) (fun hHeld=>?_)
       have x8:=Lib.hid (newBox hHeld)
       have x8l:=Lib.hid (ltBox hH0 hHeld)
       clear hH0
       clear hK K
       (try simp only[apS,apN,siA,scZ,scS])
       (refine wpAnyH_ready (rs:=[9,10]) (by decide +kernel) (by simp) ?_;refine AllReadyH.cons rfl (fun K hK=>?_) (AllReadyH.cons rfl (fun K hK=>?_) AllReadyH.nil))
       ·skip
        (rw[if_pos (by kernel_rfl)];go_simp)
        refine (hs2.out _ hHeld.bel).mono ?_
        rintro e wn ⟨rfl,hbn⟩
        go_simp
        replace x8:=Lib.hid (x8.out.below hbn)
        refine hK.out _ _ (hHeld.step hbn) (fun hHeld=>?_)
        clear hK K
        (try simp only[apS,apN,siA,scZ,scS])
        (refine ratHx 10 (fun K hK=>?_);go_simp)
        have hH0:=hHeld
        refine hK.out _ _ (hHeld.alloc _) (fun hHeld=>?_)
        have x7:=Lib.hid (newBox hHeld)
        have x7l:=Lib.hid (ltBox hH0 hHeld)
        have ne78:=Lib.hid (Nat.ne_of_gt x8.out.lt)
        replace x8:=Lib.hid (oldBox hHeld x8.out)
        clear hH0
        clear hK K
        (try simp only[apS,apN,siA,scZ,scS])
        (try simp only[World.size_alloc] at x7 x8 x7l x8l ne78)
        refine storeP 12 90 (.tmp 7) (.tmp 54) _ [.int .i64 s.a.x,.int .i64 s.a.y,.int .i64 s.b.x,.int .i64 s.b.y] x7l.out (fun x hx=>by cases hx) hHeld x7 rfl x8 (Ne.symm ne78.out) x8 (Ne.symm ne78.out) (fun Z2 hHeld x7 x8 _=>?_)
        refine storeP 13 90 (.tmp 8) (.tmp 61) _ [.int .i64 t.a.x,.int .i64 t.a.y,.int .i64 t.b.x,.int .i64 t.b.y] x8l.out (fun x hx=>by cases hx) hHeld x8 rfl x7 ne78.out x7 ne78.out (fun Z3 hHeld x8 x7 _=>?_)
        refine wpAnyH_done (by kernel_rfl) ?_ _
        have hbe:=Lib.hid hHeld.bel
        clear hHeld
        go_wp2_with fail
        go_meet
        case rel=>exact⟨_,_,rfl,rfl,x7,x8,hbe⟩
       skip
       (rw[if_pos (by kernel_rfl)];go_simp)
       have hH0:=hHeld
       refine hK.out _ _ (hHeld.alloc _) (fun hHeld=>?_)
       have x7:=Lib.hid (newBox hHeld)
       have x7l:=Lib.hid (ltBox hH0 hHeld)
       have ne78:=Lib.hid (Nat.ne_of_gt x8.out.lt)
       replace x8:=Lib.hid (oldBox hHeld x8.out)
       clear hH0
       clear hK K
       (try simp only[apS,apN,siA,scZ,scS])
       (refine ratHx 9 (fun K hK=>?_);go_simp)
       refine (hs2.out _ hHeld.bel).mono ?_
       rintro e wn ⟨rfl,hbn⟩
       go_simp
       replace x7:=Lib.hid (x7.out.below hbn)
       replace x8:=Lib.hid (x8.out.below hbn)
       refine hK.out _ _ (hHeld.step hbn) (fun hHeld=>?_)
       clear hK K
       (try simp only[apS,apN,siA,scZ,scS])
       (try simp only[World.size_alloc] at x7 x8 x7l x8l ne78)
       refine storeP 12 90 (.tmp 7) (.tmp 54) _ [.int .i64 s.a.x,.int .i64 s.a.y,.int .i64 s.b.x,.int .i64 s.b.y] x7l.out (fun x hx=>by cases hx) hHeld x7 rfl x8 (Ne.symm ne78.out) x8 (Ne.symm ne78.out) (fun Z2 hHeld x7 x8 _=>?_)
       refine storeP 13 90 (.tmp 8) (.tmp 61) _ [.int .i64 t.a.x,.int .i64 t.a.y,.int .i64 t.b.x,.int .i64 t.b.y] x8l.out (fun x hx=>by cases hx) hHeld x8 rfl x7 ne78.out x7 ne78.out (fun Z3 hHeld x8 x7 _=>?_)
       refine wpAnyH_done (by kernel_rfl) ?_ _
       have hbe:=Lib.hid hHeld.bel
       clear hHeld
       go_wp2_with fail
       go_meet
       case rel=>exact⟨_,_,rfl,rfl,x7,x8,hbe⟩
      ·skip
       (rw[if_pos (by kernel_rfl)];go_simp)
       have hH0:=hHeld
       refine hK.out _ _ (hHeld.alloc _) (fun hHeld=>?_)
       have x7:=Lib.hid (newBox hHeld)
       have x7l:=Lib.hid (ltBox hH0 hHeld)
       clear hH0
       clear hK K
       (try simp only[apS,apN,siA,scZ,scS])
       (refine wpAnyH_ready (rs:=[2,11]) (by decide +kernel) (by simp) ?_;refine AllReadyH.cons rfl (fun K hK=>?_) (AllReadyH.cons rfl (fun K hK=>?_) AllReadyH.nil))
       ·skip
        (rw[if_pos (by kernel_rfl)];go_simp)
        refine (hs1.out _ hHeld.bel).mono ?_
        rintro e wn ⟨rfl,hbn⟩
        go_simp
        replace x7:=Lib.hid (x7.out.below hbn)
        refine hK.out _ _ (hHeld.step hbn) (fun hHeld=>?_)
        clear hK K
        (try simp only[apS,apN,siA,scZ,scS])
        (refine wpAnyH_ready (rs:=[9,11]) (by decide +kernel) (by simp) ?_;refine AllReadyH.cons rfl (fun K hK=>?_) (AllReadyH.cons rfl (fun K hK=>?_) AllReadyH.nil))
        ·skip
         (rw[if_pos (by kernel_rfl)];go_simp)
         refine (hs2.out _ hHeld.bel).mono ?_
         rintro e wn ⟨rfl,hbn⟩
         go_simp
         replace x7:=Lib.hid (x7.out.below hbn)
         refine hK.out _ _ (hHeld.step hbn) (fun hHeld=>?_)
         clear hK K
         (try simp only[apS,apN,siA,scZ,scS])
         (refine ratHx 11 (fun K hK=>?_);go_simp)
         have hH0:=hHeld
         refine hK.out _ _ (hHeld.alloc _) (fun hHeld=>?_)
         have x8:=Lib.hid (newBox hHeld)
         have x8l:=Lib.hid (ltBox hH0 hHeld)
         have ne78:=Lib.hid (Nat.ne_of_lt x7.out.lt)
         replace x7:=Lib.hid (oldBox hHeld x7.out)
         clear hH0
         clear hK K
         (try simp only[apS,apN,siA,scZ,scS])
         (try simp only[World.size_alloc] at x7 x8 x7l x8l ne78)
         refine storeP 12 90 (.tmp 7) (.tmp 54) _ [.int .i64 s.a.x,.int .i64 s.a.y,.int .i64 s.b.x,.int .i64 s.b.y] x7l.out (fun x hx=>by cases hx) hHeld x7 rfl x8 (Ne.symm ne78.out) x8 (Ne.symm ne78.out) (fun Z2 hHeld x7 x8 _=>?_)
         refine storeP 13 90 (.tmp 8) (.tmp 61) _ [.int .i64 t.a.x,.int .i64 t.a.y,.int .i64 t.b.x,.int .i64 t.b.y] x8l.out (fun x hx=>by cases hx) hHeld x8 rfl x7 ne78.out x7 ne78.out (fun Z3 hHeld x8 x7 _=>?_)
         refine wpAnyH_done (by kernel_rfl) ?_ _
         have hbe:=Lib.hid hHeld.bel
         clear hHeld
         go_wp2_with fail
         go_meet
         case rel=>exact⟨_,_,rfl,rfl,x7,x8,hbe⟩
        skip
        (rw[if_pos (by kernel_rfl)];go_simp)
        have hH0:=hHeld
        refine hK.out _ _ (hHeld.alloc _) (fun hHeld=>?_)
        have x8:=Lib.hid (newBox hHeld)
        have x8l:=Lib.hid (ltBox hH0 hHeld)
        have ne78:=Lib.hid (Nat.ne_of_lt x7.out.lt)
        replace x7:=Lib.hid (oldBox hHeld x7.out)
        clear hH0
        clear hK K
        (try simp only[apS,apN,siA,scZ,scS])
        (refine ratHx 9 (fun K hK=>?_);go_simp)
        refine (hs2.out _ hHeld.bel).mono ?_
        rintro e wn ⟨rfl,hbn⟩
        go_simp
        replace x7:=Lib.hid (x7.out.below hbn)
        replace x8:=Lib.hid (x8.out.below hbn)
        refine hK.out _ _ (hHeld.step hbn) (fun hHeld=>?_)
        clear hK K
        (try simp only[apS,apN,siA,scZ,scS])
        (try simp only[World.size_alloc] at x7 x8 x7l x8l ne78)
        refine storeP 12 90 (.tmp 7) (.tmp 54) _ [.int .i64 s.a.x,.int .i64 s.a.y,.int .i64 s.b.x,.int .i64 s.b.y] x7l.out (fun x hx=>by cases hx) hHeld x7 rfl x8 (Ne.symm ne78.out) x8 (Ne.symm ne78.out) (fun Z2 hHeld x7 x8 _=>?_)
        refine storeP 13 90 (.tmp 8) (.tmp 61) _ [.int .i64 t.a.x,.int .i64 t.a.y,.int .i64 t.b.x,.int .i64 t.b.y] x8l.out (fun x hx=>by cases hx) hHeld x8 rfl x7 ne78.out x7 ne78.out (fun Z3 hHeld x8 x7 _=>?_)
        refine wpAnyH_done (by kernel_rfl) ?_ _
        have hbe:=Lib.hid hHeld.bel
        clear hHeld
        go_wp2_with fail
        go_meet
        case rel=>exact⟨_,_,rfl,rfl,x7,x8,hbe⟩
       skip
       (rw[if_pos (by kernel_rfl)];go_simp)
       have hH0:=hHeld
       refine hK.out _ _ (hHeld.alloc _) (fun hHeld=>?_)
       have x8:=Lib.hid (newBox hHeld)
       have x8l:=Lib.hid (ltBox hH0 hHeld)
       have ne78:=Lib.hid (Nat.ne_of_lt x7.out.lt)
       replace x7:=Lib.hid (oldBox hHeld x7.out)
       clear hH0
       clear hK K
       (try simp only[apS,apN,siA,scZ,scS])
       (refine ratHx 2 (fun K hK=>?_);go_simp)
       refine (hs1.out _ hHeld.bel).mono ?_
       rintro e wn ⟨rfl,hbn⟩
       go_simp
       replace x7:=Lib.hid (x7.out.below hbn)
       replace x8:=Lib.hid (x8.out.below hbn)
       refine hK.out _ _ (hHeld.step hbn) (fun hHeld=>?_)
       clear hK K
       (try simp only[apS,apN,siA,scZ,scS])
       (refine ratHx 9 (fun K hK=>?_);go_simp)
       refine (hs2.out _ hHeld.bel).mono ?_
       rintro e wn ⟨rfl,hbn⟩
       go_simp
       replace x7:=Lib.hid (x7.out.below hbn)
       replace x8:=Lib.hid (x8.out.below hbn)
       refine hK.out _ _ (hHeld.step hbn) (fun hHeld=>?_)
       clear hK K
       (try simp only[apS,apN,siA,scZ,scS])
       (try simp only[World.size_alloc] at x7 x8 x7l x8l ne78)
       refine storeP 12 90 (.tmp 7) (.tmp 54) _ [.int .i64 s.a.x,.int .i64 s.a.y,.int .i64 s.b.x,.int .i64 s.b.y] x7l.out (fun x hx=>by cases hx) hHeld x7 rfl x8 (Ne.symm ne78.out) x8 (Ne.symm ne78.out) (fun Z2 hHeld x7 x8 _=>?_)
       refine storeP 13 90 (.tmp 8) (.tmp 61) _ [.int .i64 t.a.x,.int .i64 t.a.y,.int .i64 t.b.x,.int .i64 t.b.y] x8l.out (fun x hx=>by cases hx) hHeld x8 rfl x7 ne78.out x7 ne78.out (fun Z3 hHeld x8 x7 _=>?_)
       refine wpAnyH_done (by kernel_rfl) ?_ _
       have hbe:=Lib.hid hHeld.bel
       clear hHeld
       go_wp2_with fail
       go_meet
       case rel=>exact⟨_,_,rfl,rfl,x7,x8,hbe⟩
      skip
      (rw[if_pos (by kernel_rfl)];go_simp)
      have hH0:=hHeld
      refine hK.out _ _ (hHeld.alloc _) (fun hHeld=>?_)
      have x8:=Lib.hid (newBox hHeld)
      have x8l:=Lib.hid (ltBox hH0 hHeld)
      clear hH0
      clear hK K
      (try simp only[apS,apN,siA,scZ,scS])
      (refine wpAnyH_ready (rs:=[2,10]) (by decide +kernel) (by simp) ?_;refine AllReadyH.cons rfl (fun K hK=>?_) (AllReadyH.cons rfl (fun K hK=>?_) AllReadyH.nil))
      ·skip
       (rw[if_pos (by kernel_rfl)];go_simp)
       refine (hs1.out _ hHeld.bel).mono ?_
       rintro e wn ⟨rfl,hbn⟩
       go_simp
       replace x8:=Lib.hid (x8.out.below hbn)
       refine hK.out _ _ (hHeld.step hbn) (fun hHeld=>?_)
       clear hK K
       (try simp only[apS,apN,siA,scZ,scS])
       (refine wpAnyH_ready (rs:=[9,10]) (by decide +kernel) (by simp) ?_;refine AllReadyH.cons rfl (fun K hK=>?_) (AllReadyH.cons rfl (fun K hK=>?_) AllReadyH.nil))
       ·skip
        (rw[if_pos (by kernel_rfl)];go_simp)
        refine (hs2.out _ hHeld.bel).mono ?_
        rintro e wn ⟨rfl,hbn⟩
        go_simp
        replace x8:=Lib.hid (x8.out.below hbn)
        refine hK.out _ _ (hHeld.step hbn) (fun hHeld=>?_)
        clear hK K
        (try simp only[apS,apN,siA,scZ,scS])
        (refine ratHx 10 (fun K hK=>?_);go_simp)
        have hH0:=hHeld
        refine hK.out _ _ (hHeld.alloc _) (fun hHeld=>?_)
        have x7:=Lib.hid (newBox hHeld)
        have x7l:=Lib.hid (ltBox hH0 hHeld)
        have ne78:=Lib.hid (Nat.ne_of_gt x8.out.lt)
        replace x8:=Lib.hid (oldBox hHeld x8.out)
        clear hH0
        clear hK K
        (try simp only[apS,apN,siA,scZ,scS])
        (try simp only[World.size_alloc] at x7 x8 x7l x8l ne78)
        refine storeP 12 90 (.tmp 7) (.tmp 54) _ [.int .i64 s.a.x,.int .i64 s.a.y,.int .i64 s.b.x,.int .i64 s.b.y] x7l.out (fun x hx=>by cases hx) hHeld x7 rfl x8 (Ne.symm ne78.out) x8 (Ne.symm ne78.out) (fun Z2 hHeld x7 x8 _=>?_)
        refine storeP 13 90 (.tmp 8) (.tmp 61) _ [.int .i64 t.a.x,.int .i64 t.a.y,.int .i64 t.b.x,.int .i64 t.b.y] x8l.out (fun x hx=>by cases hx) hHeld x8 rfl x7 ne78.out x7 ne78.out (fun Z3 hHeld x8 x7 _=>?_)
        refine wpAnyH_done (by kernel_rfl) ?_ _
        have hbe:=Lib.hid hHeld.bel
        clear hHeld
        go_wp2_with fail
        go_meet
        case rel=>exact⟨_,_,rfl,rfl,x7,x8,hbe⟩
       skip
       (rw[if_pos (by kernel_rfl)];go_simp)
       have hH0:=hHeld
       refine hK.out _ _ (hHeld.alloc _) (fun hHeld=>?_)
       have x7:=Lib.hid (newBox hHeld)
       have x7l:=Lib.hid (ltBox hH0 hHeld)
       have ne78:=Lib.hid (Nat.ne_of_gt x8.out.lt)
       replace x8:=Lib.hid (oldBox hHeld x8.out)
       clear hH0
       clear hK K
       (try simp only[apS,apN,siA,scZ,scS])
       (refine ratHx 9 (fun K hK=>?_);go_simp)
       refine (hs2.out _ hHeld.bel).mono ?_
       rintro e wn ⟨rfl,hbn⟩
       go_simp
       replace x7:=Lib.hid (x7.out.below hbn)
       replace x8:=Lib.hid (x8.out.below hbn)
       refine hK.out _ _ (hHeld.step hbn) (fun hHeld=>?_)
       clear hK K
       (try simp only[apS,apN,siA,scZ,scS])
       (try simp only[World.size_alloc] at x7 x8 x7l x8l ne78)
       refine storeP 12 90 (.tmp 7) (.tmp 54) _ [.int .i64 s.a.x,.int .i64 s.a.y,.int .i64 s.b.x,.int .i64 s.b.y] x7l.out (fun x hx=>by cases hx) hHeld x7 rfl x8 (Ne.symm ne78.out) x8 (Ne.symm ne78.out) (fun Z2 hHeld x7 x8 _=>?_)
       refine storeP 13 90 (.tmp 8) (.tmp 61) _ [.int .i64 t.a.x,.int .i64 t.a.y,.int .i64 t.b.x,.int .i64 t.b.y] x8l.out (fun x hx=>by cases hx) hHeld x8 rfl x7 ne78.out x7 ne78.out (fun Z3 hHeld x8 x7 _=>?_)
       refine wpAnyH_done (by kernel_rfl) ?_ _
       have hbe:=Lib.hid hHeld.bel
       clear hHeld
       go_wp2_with fail
       go_meet
       case rel=>exact⟨_,_,rfl,rfl,x7,x8,hbe⟩
      skip
      (rw[if_pos (by kernel_rfl)];go_simp)
      have hH0:=hHeld
      refine hK.out _ _ (hHeld.alloc _) (fun hHeld=>?_)
      have x7:=Lib.hid (newBox hHeld)
      have x7l:=Lib.hid (ltBox hH0 hHeld)
      have ne78:=Lib.hid (Nat.ne_of_gt x8.out.lt)
      replace x8:=Lib.hid (oldBox hHeld x8.out)
      clear hH0
      clear hK K
      (try simp only[apS,apN,siA,scZ,scS])
      (refine ratHx 2 (fun K hK=>?_);go_simp)
      refine (hs1.out _ hHeld.bel).mono ?_
      rintro e wn ⟨rfl,hbn⟩
      go_simp
      replace x7:=Lib.hid (x7.out.below hbn)
      replace x8:=Lib.hid (x8.out.below hbn)
      refine hK.out _ _ (hHeld.step hbn) (fun hHeld=>?_)
      clear hK K
      (try simp only[apS,apN,siA,scZ,scS])
      (refine ratHx 9 (fun K hK=>?_);go_simp)
      refine (hs2.out _ hHeld.bel).mono ?_
      rintro e wn ⟨rfl,hbn⟩
      go_simp
      replace x7:=Lib.hid (x7.out.below hbn)
      replace x8:=Lib.hid (x8.out.below hbn)
      refine hK.out _ _ (hHeld.step hbn) (fun hHeld=>?_)
      clear hK K
      (try simp only[apS,apN,siA,scZ,scS])
      (try simp only[World.size_alloc] at x7 x8 x7l x8l ne78)
      refine storeP 12 90 (.tmp 7) (.tmp 54) _ [.int .i64 s.a.x,.int .i64 s.a.y,.int .i64 s.b.x,.int .i64 s.b.y] x7l.out (fun x hx=>by cases hx) hHeld x7 rfl x8 (Ne.symm ne78.out) x8 (Ne.symm ne78.out) (fun Z2 hHeld x7 x8 _=>?_)
      refine storeP 13 90 (.tmp 8) (.tmp 61) _ [.int .i64 t.a.x,.int .i64 t.a.y,.int .i64 t.b.x,.int .i64 t.b.y] x8l.out (fun x hx=>by cases hx) hHeld x8 rfl x7 ne78.out x7 ne78.out (fun Z3 hHeld x8 x7 _=>?_)
      refine wpAnyH_done (by kernel_rfl) ?_ _
      have hbe:=Lib.hid hHeld.bel
      clear hHeld
      go_wp2_with fail
      go_meet
      case rel=>exact⟨_,_,rfl,rfl,x7,x8,hbe⟩
     case rest =>
      obtain⟨B7,B8,rfl,rfl,x7,x8,hbe⟩:=hcut
      have hbz:=Lib.hid (below_step hb.out hbe.out)
      clear hs1 hs2 hbe
      have on1:=Lib.hid (fun W=>OnR_any s t.b W hS hT.b)
      have on2:=Lib.hid (fun W=>OnR_any t s.a W hT hS.a)
      obtain⟨c0,c1,c2,c3⟩:=x7.out.c4;obtain⟨d0,d1,d2,d3⟩:=x8.out.c4
      generalize Cal.hasP s t.b=h1 at *
      generalize Cal.hasP t s.a=h2 at *
      cases h1
      ·cases h2
       ·have htz:Hid (Cal.turnsR ps i=false):=htn.out
        clear htn
        go_wp2_with (first
         |(go_at_call 85;refine (on1.out _).mono ?_;rintro e w1 ⟨rfl,hb1⟩;replace x7:=Lib.hid (x7.out.below hb1);replace x8:=Lib.hid (x8.out.below hb1);replace hbz:=Lib.hid (below_step hbz.out hb1);clear hb1 on1 c0 c1 c2 c3 d0 d1 d2 d3;obtain⟨c0,c1⟩:=x7.out.c2;obtain⟨d0,d1,d2,d3⟩:=x8.out.c4)
         |(go_at_call 85;refine (on2.out _).mono ?_;rintro e w2 ⟨rfl,hb2⟩;replace x7:=Lib.hid (x7.out.below hb2);replace hbz:=Lib.hid (below_step hbz.out hb2);clear hb2 on2 c0 c1 d0 d1 d2 d3 x8))
        have hi2:IntKind.i64.wrap ((i:Int)+2)=(i:Int)+2:=wrap_small (by omega) (by omega)
        have hi2b:wrap64 ((i:Int)+2)=(i:Int)+2:=by rw[show wrap64 ((i:Int)+2)=IntKind.i64.wrap ((i:Int)+2) from (by rw[IntKind.wrap_i64];unfold wrap64;rfl)];exact hi2
        go_wp2_with fail
        go_loopw [9] (fun kv wr=>∃ j:Nat,i+2≤j∧j≤ps.length+1∧kv=.int .i64 j∧Hid (∀ j',j'<ps.length→j'<j→Cal.badK ps i j'=false)∧Hid (BoxAt wr B7 [.int .i64 s.a.x,.int .i64 s.a.y,.int .i64 s.b.x,.int .i64 s.b.y])∧Hid (Below w.heap.size w wr)) (fun kv _=>ps.length+2-(intOf kv).toNat)
        case atStart=>exact⟨i+2,Nat.le_refl _,by omega,by go_num,fun j' _ h=>by rw[hbk.out,decide_eq_false (by omega),Bool.false_and,Bool.false_and],x7,hbz⟩
        case round =>
         clear x7 hbz
         obtain⟨j,hj1,hj2,rfl,hno,x7,hbz⟩:=hrel
         by_cases hjl:j<ps.length
         ·obtain⟨mj,hmj⟩:∃ mj,mj=(j+1) % ps.length:=⟨_,rfl⟩
          have hj3:((j:Int)+1).tmod (ps.length:Int)=(mj:Int):=by rw[hmj];rfl
          have hj4:IntKind.i64.wrap ((j:Int)+1)=(j:Int)+1:=wrap_small (by omega) (by omega)
          have hmjl:mj<ps.length:=by rw[hmj];exact Nat.mod_lt _ (by omega)
          have hj5:IntKind.i64.wrap (mj:Int)=(mj:Int):=wrap_small (by omega) (by omega)
          have hjl2:(j:Int)<(ps.length:Int):=by omega
          by_cases hw:mj=i
          ·have hno2:Hid (∀ j',j'<ps.length→j'<j+1→Cal.badK ps i j'=false):=fun j' h1 h2=>by
            rcases Nat.lt_succ_iff_lt_or_eq.1 h2 with h | h
            ·exact hno.out j' h1 h
            rw[h,hbk.out,←hmj,hw];simp
           have hne1:((mj:Int) != (i:Int))=false:=by rw[hw];simp
           clear hmj hno hw
           go_wp2_with fail
           refine wp_region_held_drew (S:=Sx wr []) (by kernel_rfl) (Sx.mk (cs_nil _) (Below.refl _ _)).drew (fun hHeld=>?_)
           refine tkHx 0 80 ?_
           refine tkHx 1 81 ?_
           refine tkHx 2 82 ?_
           refine tkHx 3 83 ?_
           refine tkHx 4 84 ?_
           refine tkHx 5 85 ?_
           refine tkHx 6 86 ?_
           refine tkHx 7 87 ?_
           refine tkFx 8 88 ?_
           refine tkFx 9 89 ?_
           refine tkFx 10 90 ?_
           refine tkFx 11 91 ?_
           refine tkFx 12 92 ?_
           refine tkHx 13 93 ?_
           refine wpAnyH_done (by kernel_rfl) ?_ _
           (try simp only[apS,apN,siA,scZ,scS])
           replace x7:=Lib.hid (x7.out.below hHeld.bel)
           replace hbz:=Lib.hid (below_step hbz.out hHeld.bel)
           clear hHeld
           go_wp2_with fail
           go_roundw
           case rel=>exact⟨j+1,by omega,by omega,by go_num,hno2,x7,hbz⟩
           case measure=>simp[intOf];omega
          have hne1:((mj:Int) != (i:Int))=true:=by simp;omega
          have hne2:¬(mj:Int)=(i:Int):=by omega
          have hbj:Cal.badK ps i j=Cal.meetS s (Cal.sd ps j):=by
           rw[hbk.out,decide_eq_true (by omega),←hmj]
           simp[hw]
          have hU:=hsm.out.sd j hjl
          have hs3:=Lib.hid (fun W (h:Below wr.heap.size wr W)=>sideR_any V d ps j W ((hP.out.below hbz.out).below h) hjl (by omega))
          generalize Cal.sd ps j=u at *
          have htc:=Lib.hid (fun W=>touchR_any s u W hS hU (fun W=>crossesR_any s u W hS hU))
          obtain⟨c0,c1,c2,c3⟩:=x7.out.c4
          generalize hM:Cal.meetS s u=M at *
          cases M
          ·have hno2:Hid (∀ j',j'<ps.length→j'<j+1→Cal.badK ps i j'=false):=fun j' h1 h2=>by
            rcases Nat.lt_succ_iff_lt_or_eq.1 h2 with h | h
            ·exact hno.out j' h1 h
            rw[h];exact hbj
           clear hmj hno hw hbj hM
           go_wp2_with fail
           refine wp_region_held_drew (S:=Sx wr [(B7,0,.int .i64 s.a.x),(B7,1,.int .i64 s.a.y),(B7,2,.int .i64 s.b.x),(B7,3,.int .i64 s.b.y)]) (by kernel_rfl) (Sx.mk (by simp only[cs_iff_cons];exact⟨c0,c1,c2,c3,cs_nil _⟩) (Below.refl _ _)).drew (fun hHeld=>?_)
           refine tkHx 0 80 ?_
           refine tkHx 1 81 ?_
           refine tkHx 2 82 ?_
           refine tkHx 3 83 ?_
           refine tkHx 4 84 ?_
           refine tkHx 5 85 ?_
           refine tkHx 6 86 ?_
           refine tkHx 7 87 ?_
           refine tkHx 8 88 ?_
           refine tkHx 9 89 ?_
           refine tkHx 10 90 ?_
           (refine ratHx 11 (fun K hK=>?_);go_simp)
           refine (hs3.out _ hHeld.bel).mono ?_
           rintro e wn ⟨rfl,hbn⟩
           go_simp
           (refine hK.out _ _ (hHeld.step hbn) (fun hHeld=>?_);clear hK K;(try simp only[apS,apN,siA,scZ,scS]))
           (refine ratHx 12 (fun K hK=>?_);go_simp)
           refine (htc.out _).mono ?_
           rintro e wn ⟨rfl,hbn⟩
           go_simp
           (refine hK.out _ _ (hHeld.step hbn) (fun hHeld=>?_);clear hK K;(try simp only[apS,apN,siA,scZ,scS]))
           refine tkHx 13 93 ?_
           refine wpAnyH_done (by kernel_rfl) ?_ _
           (try simp only[apS,apN,siA,scZ,scS])
           replace x7:=Lib.hid (x7.out.below hHeld.bel)
           replace hbz:=Lib.hid (below_step hbz.out hHeld.bel)
           clear hHeld hs3 htc
           go_wp2_with fail
           go_roundw
           case rel=>exact⟨j+1,by omega,by omega,by go_num,hno2,x7,hbz⟩
           case measure=>simp[intOf];omega
          have hE3:Hid (E=3):=by
           show _=_
           have:=hE.out
           rw[simpleR_no2 hlt hjl hbj,if_neg (by decide)] at this
           exact this.symm
          clear hmj hno hw hbj hM
          go_wp2_with fail
          refine wp_region_held_drew (S:=Sx wr [(B7,0,.int .i64 s.a.x),(B7,1,.int .i64 s.a.y),(B7,2,.int .i64 s.b.x),(B7,3,.int .i64 s.b.y)]) (by kernel_rfl) (Sx.mk (by simp only[cs_iff_cons];exact⟨c0,c1,c2,c3,cs_nil _⟩) (Below.refl _ _)).drew (fun hHeld=>?_)
          refine tkHx 0 80 ?_
          refine tkHx 1 81 ?_
          refine tkHx 2 82 ?_
          refine tkHx 3 83 ?_
          refine tkHx 4 84 ?_
          refine tkHx 5 85 ?_
          refine tkHx 6 86 ?_
          refine tkHx 7 87 ?_
          refine tkHx 8 88 ?_
          refine tkHx 9 89 ?_
          refine tkHx 10 90 ?_
          (refine ratHx 11 (fun K hK=>?_);go_simp)
          refine (hs3.out _ hHeld.bel).mono ?_
          rintro e wn ⟨rfl,hbn⟩
          go_simp
          (refine hK.out _ _ (hHeld.step hbn) (fun hHeld=>?_);clear hK K;(try simp only[apS,apN,siA,scZ,scS]))
          (refine ratHx 12 (fun K hK=>?_);go_simp)
          refine (htc.out _).mono ?_
          rintro e wn ⟨rfl,hbn⟩
          go_simp
          (refine hK.out _ _ (hHeld.step hbn) (fun hHeld=>?_);clear hK K;(try simp only[apS,apN,siA,scZ,scS]))
          refine tkHx 13 93 ?_
          refine wpAnyH_done (by kernel_rfl) ?_ _
          (try simp only[apS,apN,siA,scZ,scS])
          replace hbz:=Lib.hid (below_step hbz.out hHeld.bel)
          clear hHeld hs3 htc
          go_wp2_with fail
          go_ret
          exact⟨by rw[hE3.out];rfl,hbz.out⟩
         have hall2:Hid (∀ i',i'<ps.length→i'<i+1→Cal.turnsR ps i'=false∧∀ j,j<ps.length→Cal.badK ps i' j=false):=fun i' h1 h2=>by
          rcases Nat.lt_succ_iff_lt_or_eq.1 h2 with h | h
          ·exact hall.out i' h1 h
          subst h;exact⟨htz.out,fun j' hj'=>hno.out j' hj' (by omega)⟩
         clear hno hall
         go_wp2_with fail
         go_roundw
         case rel=>exact⟨i+1,by omega,by go_num,hall2,hbz⟩
         case measure=>simp[intOf];omega
       have hE3:Hid (E=3):=by
        show _=_
        have:=hE.out
        rw[simpleR_no1 hlt htn.out,if_neg (by decide)] at this
        exact this.symm
       clear htn
       go_wp2_with (first
        |(go_at_call 85;refine (on1.out _).mono ?_;rintro e w1 ⟨rfl,hb1⟩;replace x7:=Lib.hid (x7.out.below hb1);replace x8:=Lib.hid (x8.out.below hb1);replace hbz:=Lib.hid (below_step hbz.out hb1);clear hb1 on1 c0 c1 c2 c3 d0 d1 d2 d3;obtain⟨c0,c1⟩:=x7.out.c2;obtain⟨d0,d1,d2,d3⟩:=x8.out.c4)
        |(go_at_call 85;refine (on2.out _).mono ?_;rintro e w2 ⟨rfl,hb2⟩;replace hbz:=Lib.hid (below_step hbz.out hb2);clear hb2 on2 c0 c1 d0 d1 d2 d3))
       go_ret
       exact⟨by rw[hE3.out];rfl,hbz.out⟩
      have hE3:Hid (E=3):=by
       show _=_
       have:=hE.out
       rw[simpleR_no1 hlt htn.out,if_neg (by decide)] at this
       exact this.symm
      clear htn
      go_wp2_with (go_at_call 85;refine (on1.out _).mono ?_;rintro e w1 ⟨rfl,hb1⟩;replace hbz:=Lib.hid (below_step hbz.out hb1);clear hb1 on1)
      go_ret
      exact⟨by rw[hE3.out];rfl,hbz.out⟩
    have hke:i=ps.length:=by omega
    have hsim:=simpleR_all (fun i' hi'=>hall.out i' hi' (by omega))
    have hE:=hE.out
    rw[if_pos hsim] at hE
    have hdb:=Lib.hid (fun W (h:Below w.heap.size w W)=>DoubleR_any V d ps W (hsm.out.below h) (by omega))
    subst hke
    clear hsim hall
    generalize Cal.areaP ps=Ar at *
    by_cases har:Ar≤0
    ·rw[if_pos har] at hE
     subst hE
     go_wp2_with (go_at_call 87;refine (hdb.out _ hb.out).mono ?_;rintro e w1 ⟨rfl,hb1⟩;replace hb:=Lib.hid (below_step hb.out hb1);clear hb1)
     go_ret
     exact⟨rfl,hb.out⟩
    rw[if_neg har] at hE
    subst hE
    go_wp2_with (go_at_call 87;refine (hdb.out _ hb.out).mono ?_;rintro e w1 ⟨rfl,hb1⟩;replace hb:=Lib.hid (below_step hb.out hb1);clear hb1)
    go_ret
    exact⟨rfl,hb.out⟩
end Go.Proofs.YthfokpchdlcidaaGreat
namespace Go.Proofs.YthfokpchdlcidaaGreat
open Go Go.RowKit Go.Shelf
theorem Sx.putC {w W:World} {L:List (Nat × Nat × Value)} {b:Nat} {vs:List Value} (h:Sx w L W) (hb:w.heap.size≤b) (hL:∀ x∈L,x.1<w.heap.size):Sx w L (W.setCells b 0 vs) :=
 ⟨fun x hx=>(World.cell?_of_block (a:=⟨x.1,x.2.1,none⟩) ((grown_setCells b vs 0 W).block x.1 (Nat.lt_of_lt_of_le (hL x hx) h.bel.size) (fun e=>by have:=hL x hx;have:=Option.some.inj e;omega))).trans (h.cs x hx),below_of_grownB h.bel (grown_setCells b vs 0 W) hb⟩
end Go.Proofs.YthfokpchdlcidaaGreat
namespace Go.Proofs.YthfokpchdlcidaaGreat.Cal
def sclH (p:Int) (h:Int × Int):Int:=h.1*p.tdiv h.2
def xs (p:Int) (fr:List (Int × Int)) (i:Nat):Int:=sclH p (fr[i]?.getD (0,1))
end Go.Proofs.YthfokpchdlcidaaGreat.Cal
namespace Go.Proofs.YthfokpchdlcidaaGreat
open Go Go.RowKit Go.Shelf
theorem Sx.grow {w W W':World} {L:List (Nat × Nat × Value)} {row:Option Nat} (h:Sx w L W) (hg:W.grownBy W' row) (hw:∀ g,row=some g→w.heap.size≤g) (hL:∀ x∈L,row≠some x.1∧x.1<W.heap.size):Sx w L W' :=
 ⟨fun x hx=>(World.cell?_of_block (a:=⟨x.1,x.2.1,none⟩) (hg.block x.1 (hL x hx).2 (fun e=>(hL x hx).1 e.symm))).trans (h.cs x hx),h.bel.trans ((Below.refl _ _).grown hg h.bel.size (fun k e=>hw k e))⟩
end Go.Proofs.YthfokpchdlcidaaGreat
namespace Go.Proofs.YthfokpchdlcidaaGreat
open Go Go.RowKit Go.Shelf
theorem undPtsW:Tryz.prog.underlying 22=some (.slice (Tryz.prog.elem 22)):=by kernel_rfl
theorem sizePtW (w:World):(sizeOf (Tryz.prog.elem 22)).run Tryz.prog w=.ok 2 w:=by kernel_rfl
theorem elemPtW:Elem Tryz.prog 22 27 2 16:=Elem.mk' Tryz.underlying22 (z:=.agg #[.int .i64 0,.int .i64 0]) (by kernel_rfl) rfl (by decide)
theorem cut_headP {t:TypeId} {m:Nat} (hu:Tryz.prog.underlying t=some (.slice (Tryz.prog.elem t))) (hz:∀ w,(sizeOf (Tryz.prog.elem t)).run Tryz.prog w=.ok m w) {w:World} {A:Option Addr} {n c:Nat} {rows:List (List Value)} (hr:RowsAt w A m rows) (hc:n≤c) {k:Nat} (hk:k≤n) :
  ∃ A1 c1,(∀ w',(Instr.slice t (.slice A n c) none (some (.int .i64 (k:Int))) none).run Tryz.prog w'=.ok (.slice A1 k c1) w')∧RowsAt w A1 m (rows.take k):=by
 have hr1:RowsAt w A m (rows.take k):=fun j r hr'=>by
  refine hr j r ?_
  rw[List.getElem?_take] at hr'
  split at hr'
  ·exact hr'
  cases hr'
 refine⟨if c=0 then A else A.map (·.add (0*m)),c-0,fun w'=>?_,?_⟩
 ·rw[run_slice_h w' t A n c hu .i64 k (by omega) (by omega),hz]
  simp[Result.andThen,sliced]
 split
 ·exact hr1
 intro j r hj
 obtain⟨b,o,hA,hb,hcell⟩:=hr1 j r hj
 exact⟨b,o,by rw[hA,Option.map_some,Nat.zero_mul];rfl,hb,hcell⟩
theorem ptRows_wid (ps:List Pt):∀ r∈ps.map ptR,r.length=2:=fun r hr=>by obtain⟨p,_,rfl⟩:=List.mem_map.1 hr;rfl
theorem ptRows_one (ps:List Pt):∀ r∈ps.map ptR,∀ u∈r,u.oneCell'=true:=fun r hr u hu=>by
 obtain⟨p,_,rfl⟩:=List.mem_map.1 hr
 unfold ptR at hu
 rcases List.mem_cons.1 hu with e | hu
 ·rw[e];rfl
 rw[List.mem_singleton.1 hu];rfl
theorem erase_rows {ps:List Pt} {k:Nat}:(ps.take k).map ptR ++ (ps.drop (k+1)).map ptR=(ps.eraseIdx k).map ptR:=by
 rw[←List.map_append,List.eraseIdx_eq_take_drop_succ]
theorem part_len {n k:Nat} (hk:k<n) (hn:n≤1000000):k≤4000000000∧k+(n-(k+1))≤4000000000∧min k n=k:=by omega
theorem withoutR_any (V:Option Addr) (d:Nat) (ps:List Pt) (k:Nat) (w:World) (hP:RowsAt w V 2 (ps.map ptR)) (hd:ps.length≤d) (hk:k<ps.length) (hn:ps.length≤1000000) :
  Calls Tryz.prog 122 #[.slice V ps.length d,.int .i64 (k:Int)] w fun e w'=>∃ v,e=.returned v∧OwnL w' w.heap.size 27 2 v ((ps.eraseIdx k).map ptR)∧Below w.heap.size w w':=by
 obtain⟨A1,d1,hcut1,hr1⟩:=cut_headP undPtsW sizePtW hP hd (k:=k) (by omega)
 obtain⟨A2,d2,hcut2,_,hr2⟩:=cut_tail undPtsW sizePtW (n:=ps.length) (c:=d) (by rw[List.length_map]) hP hd (k:=k+1) (by omega)
 rw[←List.map_take] at hr1
 rw[←List.map_drop] at hr2
 have hcut1':∀ w',(Instr.slice 22 (.slice V ps.length d) none (some (.int .i64 (k:Int))) none).run Tryz.prog w'=.ok (.slice A1 k d1) w':=hcut1
 have hcut2':∀ w',(Instr.slice 22 (.slice V ps.length d) (some (.int .i64 ((k:Int)+1))) none none).run Tryz.prog w'=.ok (.slice A2 (ps.length-(k+1)) d2) w':=by
  have e:((k+1:Nat):Int)=(k:Int)+1:=by omega
  rw[e] at hcut2
  exact hcut2
 have hk1:IntKind.i64.wrap ((k:Int)+1)=(k:Int)+1:=wrap_small (by omega) (by omega)
 have hk1b:wrap64 ((k:Int)+1)=(k:Int)+1:=by rw[←wrap_eq];exact hk1
 obtain⟨q1,q2,q3⟩:=part_len hk hn
 have q1:=Lib.hid q1
 have q2:=Lib.hid q2
 have hl1:Hid ((ps.take k).length=k):=by show _=_;rw[List.length_take];exact q3
 have hl2:Hid ((ps.drop (k+1)).length=ps.length-(k+1)):=by show _=_;rw[List.length_drop]
 replace hr1:=Lib.hid (hr1.below ((Below.refl _ _).drew))
 replace hr2:=Lib.hid (hr2.below ((Below.refl _ _).drew))
 have hws:Hid (w.heap.size≤w.drew.heap.size):=Nat.le_refl _
 clear q3 hcut1 hcut2 hP
 go_enter Tryz.func122,Tryz.ntmps122
 go_wp2_with fail
 refine wp_region_held_drew (S:=Sx w []) (by kernel_rfl) (Sx.mk (cs_nil _) (Below.refl _ _)).drew (fun hHeld=>?_)
 generalize w.drew=Y at *
 refine tkHx 1 6 ?_
 refine tkHx 2 7 ?_
 refine tkHx 3 8 ?_
 refine tkHx 5 10 ?_
 refine tkHx 6 11 ?_
 refine tkHx 7 12 ?_
 refine tkHx 8 13 ?_
 (refine ratHx 0 (fun K hK=>?_);go_simp)
 refine hK.out _ _ (hHeld.alloc _) (fun hHeld=>?_)
 clear hK K
 (try simp only[apS,apN,siA,scZ,scS])
 have hmade:=Lib.hid (OwnL.made Y Y.heap.size 27 2 (Nat.le_refl _))
 (refine wpAnyH_ready (rs:=[4]) (by decide +kernel) (by simp) ?_;refine AllReadyH.cons rfl (fun K hK=>?_) AllReadyH.nil)
 refine step_append_rows elemPtW (by rfl) (.tmp 5) (.tmp 8) (by rfl) (by rfl) (by rfl) hmade.out (hr1.out.below (below_alloc _ _)) (by rw[List.length_map,hl1.out]) (ptRows_wid _) (ptRows_one _) (by rw[List.length_map,hl1.out,List.length_nil,Nat.zero_add];exact q1.out) (by decide) (by rw[World.size_alloc];exact Nat.le_succ _) ?_
 intro v1 w5 hown5 hg5 hob5
 have hb5:=Lib.hid (((Below.refl _ _).alloc (Nat.le_refl _) _).trans (grown_below hg5 (fun g e=>(OwnL.lt hmade.out g e).1) (by rw[World.size_alloc];exact Nat.le_succ _)):Below Y.heap.size Y w5)
 refine hK.out _ _ (hHeld.grow hg5 (fun g e=>Nat.le_trans hws.out (OwnL.lt hmade.out g e).1) (fun x hx=>by cases hx)) (fun hHeld=>?_)
 clear hK K hg5 hob5
 (try simp only[apS,apN,siA,scZ,scS])
 (refine wpAnyH_ready (rs:=[9]) (by decide +kernel) (by simp) ?_;refine AllReadyH.cons rfl (fun K hK=>?_) AllReadyH.nil)
 refine step_append_rows elemPtW (by rfl) (.tmp 9) (.tmp 13) (by rfl) (by rfl) (by rfl) hown5 (hr2.out.below hb5.out) (by rw[List.length_map,hl2.out]) (ptRows_wid _) (ptRows_one _) (by rw[List.length_map,hl2.out,List.nil_append,List.length_map,hl1.out];exact q2.out) (by decide) hb5.out.size ?_
 intro v2 w6 hown6 hg6 hob6
 refine hK.out _ _ (hHeld.grow hg6 (fun g e=>Nat.le_trans hws.out (OwnL.lt hown5 g e).1) (fun x hx=>by cases hx)) (fun hHeld=>?_)
 clear hK K hg6 hob6
 rw[List.nil_append,erase_rows] at hown6
 (try simp only[apS,apN,siA,scZ,scS])
 dsimp only[List.getElem_toArray,List.getElem_cons_succ,List.getElem_cons_zero]
 (try simp only[apS,apN,siA,scZ,scS])
 refine tkHx 10 4 ?_
 refine wpAnyH_done (by kernel_rfl) ?_ _
 (try simp only[apS,apN,siA,scZ,scS])
 go_wp2_with fail
 go_ret
 exact⟨v2,rfl,OwnL.less hown6 hws.out,hHeld.bel⟩
end Go.Proofs.YthfokpchdlcidaaGreat
namespace Go.Proofs.YthfokpchdlcidaaGreat
open Go Go.RowKit Go.Shelf
theorem wpPushP {ops:Array Oper} {rest:List Oper} {op:Oper} {a:Act} {w:World} {Q:Exit→Act→World→Prop} {B:Nat} {v:Value} {rows:List (List Value)} {t:TypeId} (q:Pt) (h:OwnL w B 27 2 v rows) (hB:B≤w.heap.size) (hlen:rows.length≤1000000)
  (hgd:op.guard=none) (s x:Operand) (ho:op.op=.call { callee:=.builtin .append,args:=#[s,x],argTypes:=#[22,22] }) (hs:a.eval s=v) {c n:Nat} (hx:a.eval x=.slice (some ⟨n,0,none⟩) 1 c) (hn:n=w.heap.size)
  (k:∀ v' w',OwnL w' B 27 2 v' (rows ++ [ptR q])→Below B w w'→(w.alloc (.cells #[.int .i64 q.x,.int .i64 q.y] t)).grownBy w' v.ownBlock→wpList Tryz.prog ops Q rest (a.put op.dst v') w'):wpList Tryz.prog ops Q (op :: rest) a (w.alloc (.cells #[.int .i64 q.x,.int .i64 q.y] t)):=by
 subst hn
 refine wpList_append_rows elemPtW hgd s x ho hs hx (OwnL.below h (below_alloc _ _)) (rowsAt_new _ (ptR q) _) rfl (fun r hr=>by rw[List.mem_singleton.1 hr];rfl) (fun r hr u hu=>by
  rw[List.mem_singleton.1 hr] at hu
  unfold ptR at hu
  rcases List.mem_cons.1 hu with e | hu
  ·rw[e];rfl
  rw[List.mem_singleton.1 hu];rfl) (by rw[List.length_singleton];omega) (by decide) (by simp;omega) ?_
 intro v' w2 hown2 hg2 _
 exact k v' w2 hown2 (((Below.refl B w).alloc hB _).trans (grown_below hg2 (fun g e=>(OwnL.lt h g e).1) (by simp;omega))) hg2
end Go.Proofs.YthfokpchdlcidaaGreat
