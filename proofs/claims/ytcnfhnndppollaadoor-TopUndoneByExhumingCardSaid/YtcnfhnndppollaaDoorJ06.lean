/- What the statements rest on: definitions and walks, part 06. -/
import Derived.Test.YtcnfhnndppollaaDoorJ05
set_option maxRecDepth 100000
set_option maxHeartbeats 16000000
set_option linter.unusedSimpArgs false
set_option linter.unusedVariables false
namespace Go.Proofs.YtcnfhnndppollaaDoor
open Go Go.RowKit Go.Maps
theorem place_site {y:Yd} {l:List Sty} {n:ByteArray} {a b:Int} (h:Cal.placeE y l n a b=0):∃ s,Cal.siteOf y.sites n=some s:=by
 unfold Cal.placeE at h
 split at h
 ·cases h
 rename_i s hs;exact⟨s,hs⟩
theorem event_num {e:Ev} (h:Cal.eventE e=0) (hk:e.kind=0∨e.kind=2):(0≤e.level∧e.level≤11)∧(0≤e.cont∧e.cont≤2):=by
 unfold Cal.eventE at h
 dsimp only at h
 repeat' split at h
 all_goals first | (cases h;done) | skip
 all_goals (constructor <;> constructor <;> omega)
theorem error_put (B M:Nat) (S R:Option Addr) (c d:Nat) (y:Yd) (A:Option Addr) (cap:Nat) (bk:Bk) (e:Ev) (w:World) (hB:BkR w B M S R c d y A cap bk) (hn1:e.remain.size≤maxLen) (hn2:e.site.size≤maxLen) (h0:Cal.eventE e=0) (hd:¬e.day<bk.day) (hk:e.kind=0∨e.kind=2) :
  Calls Tryd.prog 36 #[.pointer (some ⟨B,0,none⟩),.agg #[.int .i64 e.day,.int .i64 e.kind,.string e.site,.int .i64 e.level,.string e.remain,.int .i64 e.cont,.bool e.order]] w (ErP w (Cal.bkErr y bk e)):=by
 have hI:=Lib.hid (ErI.start w e)
 have hBz:=Lib.hid (fun w' (h:Below w.heap.size w w')=>hB.below h)
 have hfE:Hid (Cal.bkErr y bk e=match Cal.lotOf bk.stays e.remain with
  | some old=>if e.kind=0 then (Cal.lot0,5) else if old.state≠0 then (Cal.lot0,28) else Cal.bkErr.putS y bk e
  | none=>if e.kind=2 then (Cal.lot0,6) else Cal.bkErr.putS y bk e):=by show _=_;unfold Cal.bkErr;rw[if_neg (by rw[h0];simp),if_neg hd,if_pos hk];rfl
 have hdq:=decide_eq_false hd
 have hnum:=Lib.hid (event_num h0 hk)
 have h0z:=Lib.hid h0
 obtain⟨o,ho⟩:∃ o,o=Cal.lotOf bk.stays e.remain:=⟨_,rfl⟩
 have hoz:=Lib.hid ho
 rw[←ho] at hfE
 clear hB h0 hd ho
 (obtain⟨e0,e1,e2,e3⟩:=hI.out.e.c4;have e4:=hI.out.e.c 4 _ rfl;have e5:=hI.out.e.c 5 _ rfl;have e6:=hI.out.e.c 6 _ rfl)
 go_enter Tryd.func36,Tryd.ntmps36
 go_upto_region 4 with (go_at_call 56;clear e0 e1 e2 e3 e4 e5 e6;refine (CheckEvent_any e _ hn1 hn2).mono ?_;rintro e9 wn ⟨rfl,hbn⟩;rw[h0z.out];replace hI:=Lib.hid (hI.out.below hbn);clear hbn;(obtain⟨e0,e1,e2,e3⟩:=hI.out.e.c4;have e4:=hI.out.e.c 4 _ rfl;have e5:=hI.out.e.c 5 _ rfl;have e6:=hI.out.e.c 6 _ rfl))
 clear e0 e1 e2 e3 e4 e5 e6
 refine wp_region_held_drew (S:=Sx w [(w.heap.size,0,.int .i64 e.day),(B,7,.int .i64 bk.day)]) (by kernel_rfl) (Sx.mk (by simp only[cs_iff_cons];exact⟨hI.out.e.c 0 _ rfl,(hBz.out _ hI.out.bel).box.c 7 _ rfl,cs_nil _⟩) (hI.out.bel.trans (Below.refl _ _).drew)) (fun hHeld=>?_)
 refine tkHx 0 17 ?_
 refine tkHx 1 18 ?_
 refine tkHx 2 19 ?_
 refine tkHx 3 20 ?_
 refine tkHx 4 21 ?_
 refine tkHx 5 22 ?_
 refine tkHx 6 23 ?_
 refine wpAnyH_done (by kernel_rfl) ?_ _
 replace hI:=Lib.hid (hI.out.below ((Below.refl _ _).drew))
 clear hHeld
 (obtain⟨e0,e1,e2,e3⟩:=hI.out.e.c4;have e4:=hI.out.e.c 4 _ rfl;have e5:=hI.out.e.c 5 _ rfl;have e6:=hI.out.e.c 6 _ rfl)
 go_upto_region 8 with (go_at_call 21;clear e0 e1 e2 e3 e4 e5 e6;refine (lot_any B M S R c d y A cap bk e.remain _ (hBz.out _ hI.out.bel) hn1).mono ?_;rintro e9 wm ⟨rfl,hbm⟩;rw[←hoz.out];replace hI:=Lib.hid (hI.out.below hbm);clear hbm;have hI3:=hI.out.below (below_alloc wm (.cells #[.string (lotD o).remain,.int .i64 (lotD o).state,.string (lotD o).site,.int .i64 (lotD o).level,.int .i64 (lotD o).cont,.int .i64 (lotD o).since] 38));have e0:=hI3.e.c 0 _ rfl;have e4:=hI3.e.c 4 _ rfl;have k4:=hI.out.e.c 4 _ rfl;clear hI3)
 clear e0 e4 k4
 have hJ:=hI.out.two (lotD o)
 generalize wm.heap.size=O at *
 obtain⟨W,hW⟩:∃ W,(wm.alloc (.cells #[.string (lotD o).remain,.int .i64 (lotD o).state,.string (lotD o).site,.int .i64 (lotD o).level,.int .i64 (lotD o).cont,.int .i64 (lotD o).since] 38)).alloc (.cells #[.string e.remain,.int .i64 0,.string ⟨#[]⟩,.int .i64 0,.int .i64 0,.int .i64 e.day] 38)=W:=⟨_,rfl⟩
 rw[hW] at hJ ⊢
 clear hW hI
 replace hJ:=Lib.hid hJ
 (obtain⟨e0,e1,e2,e3⟩:=hJ.out.e.c4;have e4:=hJ.out.e.c 4 _ rfl;have e5:=hJ.out.e.c 5 _ rfl;have e6:=hJ.out.e.c 6 _ rfl;obtain⟨o0,o1,o2,o3⟩:=hJ.out.old.c4;have o4:=hJ.out.old.c 4 _ rfl;have o5:=hJ.out.old.c 5 _ rfl;obtain⟨n0,n1,n2,n3⟩:=hJ.out.nx.c4;have n4:=hJ.out.nx.c 4 _ rfl;have n5:=hJ.out.nx.c 5 _ rfl;have f1:=hJ.out.nx.free 1 (by simp))
 rcases hk with hk | hk
 ·have q0:(e.kind == 0)=true:=by simp[hk]
  have q2:(e.kind == 2)=false:=by simp[hk]
  cases o with
  | some t =>
   have hf:Hid (Cal.bkErr y bk e=(Cal.lot0,5)):=by show _=_;rw[hfE.out];simp[hk]
   clear hfE hk
   go_wp2_with (refine wpList_store_box rfl 38 (.tmp 4) (.tmp 49) rfl (w.heap.size+1) _ [.string ⟨#[]⟩,.int .i64 0,.string ⟨#[]⟩,.int .i64 0,.int .i64 0,.int .i64 0] (by rfl) (by rfl) hJ.out.r rfl ltSz (by kernel_rfl) ?_;intro w4 h4 hg4)
   refine bodyPost_ret (results_mid2 rfl _ _ (w.heap.size+1) [.string ⟨#[]⟩,.int .i64 0,.string ⟨#[]⟩,.int .i64 0,.int .i64 0,.int .i64 0] _ rfl h4.range Tryd.underlying38 rfl ltSz) rfl ?_
   rw[hf.out]
   exact⟨rfl,below_of_grownB hJ.out.bel hg4 (by omega)⟩
  | none =>
   have hfP:Hid (Cal.bkErr y bk e=Cal.bkErr.putS y bk e):=by show _=_;rw[hfE.out];simp[hk]
   clear hfE hk
   have hl0:Hid ((0≤e.level∧e.level≤11)∧(0≤e.cont∧e.cont≤2)):=hnum.out
   by_cases hpl:Cal.placeE y bk.stays e.site e.level e.cont=0
   ·obtain⟨s,hs⟩:=place_site hpl
    have hkd:Hid (Cal.bkErr.kindOf y e.site=s.kind):=by show _=_;unfold Cal.bkErr.kindOf;rw[hs]
    have hf:Hid (Cal.bkErr y bk e=(⟨e.remain,if s.kind=3 then 3 else 1,e.site,e.level,e.cont,e.day⟩,0)):=by show _=_;rw[hfP.out];unfold Cal.bkErr.putS;rw[if_neg (by rw[hpl];simp),hkd.out]
    have hs:=Lib.hid hs
    have hplz:=Lib.hid hpl
    clear hpl hfP hkd
    go_upto_region 20 with (go_at_call 39;clear e0 e1 e2 e3 e4 e5 e6 o0 o1 o2 o3 o4 o5 n0 n1 n2 n3 n4 n5 f1;refine (place_any B M S R c d y A cap bk e.site e.level e.cont _ (hBz.out _ hJ.out.bel) hl0.out.1.1 (by have:=hl0.out.1.2;omega) hl0.out.2.1 hl0.out.2.2).mono ?_;rintro e9 wn ⟨rfl,hbn⟩;rw[hplz.out];replace hJ:=Lib.hid (hJ.out.below hbn);clear hbn;(obtain⟨e0,e1,e2,e3⟩:=hJ.out.e.c4;have e4:=hJ.out.e.c 4 _ rfl;have e5:=hJ.out.e.c 5 _ rfl;have e6:=hJ.out.e.c 6 _ rfl;obtain⟨o0,o1,o2,o3⟩:=hJ.out.old.c4;have o4:=hJ.out.old.c 4 _ rfl;have o5:=hJ.out.old.c 5 _ rfl;obtain⟨n0,n1,n2,n3⟩:=hJ.out.nx.c4;have n4:=hJ.out.nx.c 4 _ rfl;have n5:=hJ.out.nx.c 5 _ rfl;have f1:=hJ.out.nx.free 1 (by simp)))
    clear e0 e1 e2 e3 e4 e5 e6 o0 o1 o2 o3 o4 o5 n0 n1 n2 n3 n4 n5 f1
    replace hJ:=Lib.hid (hJ.out.below ((Below.refl wn.heap.size wn).drew))
    obtain⟨X,hX⟩:∃ X,wn.drew=X:=⟨_,rfl⟩
    rw[hX] at hJ
    refine wp_region_held_drew (S:=Sx w [(w.heap.size,2,.string e.site),(w.heap.size,3,.int .i64 e.level),(w.heap.size,5,.int .i64 e.cont)]) (by kernel_rfl) (by rw[hX];exact (Sx.mk (by simp only[cs_iff_cons];exact⟨hJ.out.e.c 2 _ rfl,hJ.out.e.c 3 _ rfl,hJ.out.e.c 5 _ rfl,cs_nil _⟩) hJ.out.bel)) (fun hHeld=>?_)
    rw[hX] at hHeld ⊢
    clear hX
    have hOs:Hid (O+1<X.heap.size):=hJ.out.nx.lt
    have hlt:=hJ.out.lt
    have hws:=hJ.out.e.lt
    have hkp:∀ (X1 X2:World),Sx w [(w.heap.size,2,.string e.site),(w.heap.size,3,.int .i64 e.level),(w.heap.size,5,.int .i64 e.cont)] X1→X1.heap.size=X.heap.size→X1.grownBy X2 (some (O+1))→Sx w [(w.heap.size,2,.string e.site),(w.heap.size,3,.int .i64 e.level),(w.heap.size,5,.int .i64 e.cont)] X2:=fun X1 X2 h hz hg=>h.keep hg (fun x hx=>by simp at hx;rcases hx with rfl | rfl | rfl <;> exact⟨by show w.heap.size≠O+1;omega,by rw[hz];exact hws⟩) (by omega)
    have hkp:=Lib.hid hkp
    have hN0:=hJ.out.nx
    have c1:=hN0.c 1 _ rfl;have g1:=hN0.free 1 (by simp)
    refine tkHx 0 81 ?_
    refine tkHx 1 82 ?_
    refine tkHx 2 83 ?_
    refine tkHx 3 84 ?_
    refine tkHx 4 85 ?_
    refine tkHx 5 86 ?_
    refine tkHx 6 87 ?_
    (refine ratHx 7 (fun K hK=>?_);go_simp)
    refine hK.out _ _ (hkp.out _ _ hHeld rfl (grown_set _ _ _ _)) (fun hHeld=>?_)
    clear hK K
    (try simp only[apS,apN,siA,scZ,scS])
    have hN1:=hN0.set 1 (.int .i64 1) (by simp)
    have c2:=hN1.c 2 _ rfl;have g2:=hN1.free 2 (by simp)
    clear c1 g1
    refine tkHx 8 88 ?_
    (refine ratHx 9 (fun K hK=>?_);go_simp)
    refine hK.out _ _ (hkp.out _ _ hHeld (World.size_setCell ..) (grown_set _ _ _ _)) (fun hHeld=>?_)
    clear hK K
    (try simp only[apS,apN,siA,scZ,scS])
    have hN2:=hN1.set 2 (.string e.site) (by simp)
    have c3:=hN2.c 3 _ rfl;have g3:=hN2.free 3 (by simp)
    clear c2 g2
    refine tkHx 10 89 ?_
    (refine ratHx 11 (fun K hK=>?_);go_simp)
    refine hK.out _ _ (hkp.out _ _ hHeld (by simp) (grown_set _ _ _ _)) (fun hHeld=>?_)
    clear hK K
    (try simp only[apS,apN,siA,scZ,scS])
    have hN3:=hN2.set 3 (.int .i64 e.level) (by simp)
    have c4:=hN3.c 4 _ rfl;have g4:=hN3.free 4 (by simp)
    clear c3 g3
    refine tkHx 12 90 ?_
    (refine ratHx 13 (fun K hK=>?_);go_simp)
    refine hK.out _ _ (hkp.out _ _ hHeld (by simp) (grown_set _ _ _ _)) (fun hHeld=>?_)
    clear hK K
    (try simp only[apS,apN,siA,scZ,scS])
    refine wpAnyH_done (by kernel_rfl) ?_ _
    have hN4:=hN3.set 4 (.int .i64 e.cont) (by simp)
    clear c4 g4 hHeld
    replace hJ:=Lib.hid (hJ.out.next (nx':=⟨e.remain,1,e.site,e.level,e.cont,e.day⟩) hN4 ((((grown_set _ _ _ _).trans (grown_set _ _ _ _)).trans (grown_set _ _ _ _)).trans (grown_set _ _ _ _)))
    clear hN0 hN1 hN2 hN3 hN4 hkp hOs
    obtain⟨W,hW⟩:∃ W,(((X.setCell ⟨O+1,1,none⟩ (.int .i64 1)).setCell ⟨O+1,2,none⟩ (.string e.site)).setCell ⟨O+1,3,none⟩ (.int .i64 e.level)).setCell ⟨O+1,4,none⟩ (.int .i64 e.cont)=W:=⟨_,rfl⟩
    rw[hW] at hJ ⊢
    clear hW
    (obtain⟨e0,e1,e2,e3⟩:=hJ.out.e.c4;have e4:=hJ.out.e.c 4 _ rfl;have e5:=hJ.out.e.c 5 _ rfl;have e6:=hJ.out.e.c 6 _ rfl;obtain⟨o0,o1,o2,o3⟩:=hJ.out.old.c4;have o4:=hJ.out.old.c 4 _ rfl;have o5:=hJ.out.old.c 5 _ rfl;obtain⟨n0,n1,n2,n3⟩:=hJ.out.nx.c4;have n4:=hJ.out.nx.c 4 _ rfl;have n5:=hJ.out.nx.c 5 _ rfl;have f1:=hJ.out.nx.free 1 (by simp))
    go_upto_region 21 with fail
    clear e0 e1 e2 e3 e4 e5 e6 o0 o1 o2 o3 o4 o5 n0 n1 n2 n3 n4 n5 f1
    replace hJ:=Lib.hid (hJ.out.below ((Below.refl W.heap.size W).drew))
    obtain⟨X1,hX1⟩:∃ X1,W.drew=X1:=⟨_,rfl⟩
    rw[hX1] at hJ
    have hB1:=Lib.hid (hBz.out _ hJ.out.bel)
    have hso:=Lib.hid (siteOf_any S R c d y e.site X1 hB1.out.yd.sites hB1.out.yd.slen)
    refine wp_region_held_drew (S:=Sx X1 [(w.heap.size,2,.string e.site),(B,0,.slice S y.sites.length c),(B,1,.slice R y.rests.length d),(B,2,.int .i64 y.c0),(B,3,.int .i64 y.c1),(B,4,.int .i64 y.c2)]) (by kernel_rfl) (by rw[hX1];exact (Sx.mk (by simp only[cs_iff_cons];exact⟨hJ.out.e.c 2 _ rfl,hB1.out.box.c 0 _ rfl,hB1.out.box.c 1 _ rfl,hB1.out.box.c 2 _ rfl,hB1.out.box.c 3 _ rfl,hB1.out.box.c 4 _ rfl,cs_nil _⟩) (Below.refl _ _))) (fun hHeld=>?_)
    rw[hX1] at hHeld ⊢
    clear hX1
    refine tkHx 0 91 ?_
    refine tkHx 1 92 ?_
    refine tkHx 2 93 ?_
    refine tkHx 3 94 ?_
    refine tkHx 4 95 ?_
    refine tkHx 5 96 ?_
    (refine ratHx 6 (fun K hK=>?_);go_simp)
    refine hso.out.mono ?_
    rintro e9 wk ⟨v,rfl,hv,hbk⟩
    rw[hs.out] at hv
    obtain⟨qb,qo,rfl,hql,hqr⟩:=hv
    have hst:SiteC X1 qb qo s:=⟨hql,hqr⟩
    clear hql hqr
    go_simp
    (refine hK.out _ _ (hHeld.step hbk) (fun hHeld=>?_);clear hK K;(try simp only[apS,apN,siA,scZ,scS]))
    refine tkHx 7 98 ?_
    refine tkHx 8 99 ?_
    refine tkHx 9 100 (hy:=by (intro w' hSw;obtain⟨q0,q1,q2,q3,q4,q5⟩:=(SiteC.below hst hSw.bel).c;go_simp;(try with_reducible rfl))) ?_
    refine tkHx 10 101 ?_
    refine wpAnyH_done (by kernel_rfl) ?_ _
    replace hJ:=Lib.hid (hJ.out.below hHeld.bel)
    clear hHeld hst hso hB1
    by_cases k3:s.kind=3
    ·have kq:(s.kind == 3)=true:=by simp[k3]
     rw[if_pos k3] at hf
     clear k3
     (obtain⟨e0,e1,e2,e3⟩:=hJ.out.e.c4;have e4:=hJ.out.e.c 4 _ rfl;have e5:=hJ.out.e.c 5 _ rfl;have e6:=hJ.out.e.c 6 _ rfl;obtain⟨o0,o1,o2,o3⟩:=hJ.out.old.c4;have o4:=hJ.out.old.c 4 _ rfl;have o5:=hJ.out.old.c 5 _ rfl;obtain⟨n0,n1,n2,n3⟩:=hJ.out.nx.c4;have n4:=hJ.out.nx.c 4 _ rfl;have n5:=hJ.out.nx.c 5 _ rfl;have f1:=hJ.out.nx.free 1 (by simp))
     go_upto_region 23 with fail
     clear e0 e1 e2 e3 e4 e5 e6 o0 o1 o2 o3 o4 o5 n0 n1 n2 n3 n4 n5 f1
     replace hJ:=Lib.hid (hJ.out.next (nx':=⟨e.remain,3,e.site,e.level,e.cont,e.day⟩) (hJ.out.nx.set 1 (.int .i64 3) (by simp)) (grown_set _ _ _ _))
     obtain⟨Y,hY⟩:∃ Y,wk.setCell ⟨O+1,1,none⟩ (.int .i64 3)=Y:=⟨_,rfl⟩
     rw[hY] at hJ ⊢
     clear hY
     (obtain⟨e0,e1,e2,e3⟩:=hJ.out.e.c4;have e4:=hJ.out.e.c 4 _ rfl;have e5:=hJ.out.e.c 5 _ rfl;have e6:=hJ.out.e.c 6 _ rfl;obtain⟨o0,o1,o2,o3⟩:=hJ.out.old.c4;have o4:=hJ.out.old.c 4 _ rfl;have o5:=hJ.out.old.c 5 _ rfl;obtain⟨n0,n1,n2,n3⟩:=hJ.out.nx.c4;have n4:=hJ.out.nx.c 4 _ rfl;have n5:=hJ.out.nx.c 5 _ rfl;have f1:=hJ.out.nx.free 1 (by simp))
     go_wp2_with (refine wpList_store_box rfl 38 (.tmp 4) (.tmp 103) rfl (w.heap.size+1) _ [.string e.remain,.int .i64 3,.string e.site,.int .i64 e.level,.int .i64 e.cont,.int .i64 e.day] (by rfl) (by rfl) hJ.out.r rfl ltSz (by kernel_rfl) ?_;intro w4 h4 hg4)
     refine bodyPost_ret (results_mid2 rfl _ _ (w.heap.size+1) [.string e.remain,.int .i64 3,.string e.site,.int .i64 e.level,.int .i64 e.cont,.int .i64 e.day] _ rfl h4.range Tryd.underlying38 rfl ltSz) rfl ?_
     rw[hf.out]
     exact⟨rfl,below_of_grownB hJ.out.bel hg4 (by omega)⟩
    have kq:(s.kind == 3)=false:=by simp[k3]
    rw[if_neg k3] at hf
    clear k3
    (obtain⟨e0,e1,e2,e3⟩:=hJ.out.e.c4;have e4:=hJ.out.e.c 4 _ rfl;have e5:=hJ.out.e.c 5 _ rfl;have e6:=hJ.out.e.c 6 _ rfl;obtain⟨o0,o1,o2,o3⟩:=hJ.out.old.c4;have o4:=hJ.out.old.c 4 _ rfl;have o5:=hJ.out.old.c 5 _ rfl;obtain⟨n0,n1,n2,n3⟩:=hJ.out.nx.c4;have n4:=hJ.out.nx.c 4 _ rfl;have n5:=hJ.out.nx.c 5 _ rfl;have f1:=hJ.out.nx.free 1 (by simp))
    go_wp2_with (refine wpList_store_box rfl 38 (.tmp 4) (.tmp 103) rfl (w.heap.size+1) _ [.string e.remain,.int .i64 1,.string e.site,.int .i64 e.level,.int .i64 e.cont,.int .i64 e.day] (by rfl) (by rfl) hJ.out.r rfl ltSz (by kernel_rfl) ?_;intro w4 h4 hg4)
    refine bodyPost_ret (results_mid2 rfl _ _ (w.heap.size+1) [.string e.remain,.int .i64 1,.string e.site,.int .i64 e.level,.int .i64 e.cont,.int .i64 e.day] _ rfl h4.range Tryd.underlying38 rfl ltSz) rfl ?_
    rw[hf.out]
    exact⟨rfl,below_of_grownB hJ.out.bel hg4 (by omega)⟩
   have hf:Hid (Cal.bkErr y bk e=(Cal.lot0,Cal.placeE y bk.stays e.site e.level e.cont)):=by show _=_;rw[hfP.out];unfold Cal.bkErr.putS;rw[if_pos hpl]
   have h1:(Cal.placeE y bk.stays e.site e.level e.cont != 0)=true:=by simp[hpl]
   clear hpl hfP
   go_wp2_with (first
    |(go_at_call 39;clear e0 e1 e2 e3 e4 e5 e6 o0 o1 o2 o3 o4 o5 n0 n1 n2 n3 n4 n5 f1;refine (place_any B M S R c d y A cap bk e.site e.level e.cont _ (hBz.out _ hJ.out.bel) hl0.out.1.1 (by have:=hl0.out.1.2;omega) hl0.out.2.1 hl0.out.2.2).mono ?_;rintro e9 wn ⟨rfl,hbn⟩;replace hJ:=Lib.hid (hJ.out.below hbn);clear hbn;(obtain⟨e0,e1,e2,e3⟩:=hJ.out.e.c4;have e4:=hJ.out.e.c 4 _ rfl;have e5:=hJ.out.e.c 5 _ rfl;have e6:=hJ.out.e.c 6 _ rfl;obtain⟨o0,o1,o2,o3⟩:=hJ.out.old.c4;have o4:=hJ.out.old.c 4 _ rfl;have o5:=hJ.out.old.c 5 _ rfl;obtain⟨n0,n1,n2,n3⟩:=hJ.out.nx.c4;have n4:=hJ.out.nx.c 4 _ rfl;have n5:=hJ.out.nx.c 5 _ rfl;have f1:=hJ.out.nx.free 1 (by simp)))
    |(refine wpList_store_box rfl 38 (.tmp 4) (.tmp 79) rfl (w.heap.size+1) _ [.string ⟨#[]⟩,.int .i64 0,.string ⟨#[]⟩,.int .i64 0,.int .i64 0,.int .i64 0] (by rfl) (by rfl) hJ.out.r rfl ltSz (by kernel_rfl) ?_;intro w4 h4 hg4))
   refine bodyPost_ret (results_mid2 rfl _ _ (w.heap.size+1) [.string ⟨#[]⟩,.int .i64 0,.string ⟨#[]⟩,.int .i64 0,.int .i64 0,.int .i64 0] _ rfl h4.range Tryd.underlying38 rfl ltSz) rfl ?_
   rw[hf.out]
   exact⟨rfl,below_of_grownB hJ.out.bel hg4 (by omega)⟩
 have q0:(e.kind == 0)=false:=by simp[hk]
 have q2:(e.kind == 2)=true:=by simp[hk]
 cases o with
 | none =>
  have hf:Hid (Cal.bkErr y bk e=(Cal.lot0,6)):=by show _=_;rw[hfE.out];simp[hk]
  clear hfE hk
  go_wp2_with (refine wpList_store_box rfl 38 (.tmp 4) (.tmp 58) rfl (w.heap.size+1) _ [.string ⟨#[]⟩,.int .i64 0,.string ⟨#[]⟩,.int .i64 0,.int .i64 0,.int .i64 0] (by rfl) (by rfl) hJ.out.r rfl ltSz (by kernel_rfl) ?_;intro w4 h4 hg4)
  refine bodyPost_ret (results_mid2 rfl _ _ (w.heap.size+1) [.string ⟨#[]⟩,.int .i64 0,.string ⟨#[]⟩,.int .i64 0,.int .i64 0,.int .i64 0] _ rfl h4.range Tryd.underlying38 rfl ltSz) rfl ?_
  rw[hf.out]
  exact⟨rfl,below_of_grownB hJ.out.bel hg4 (by omega)⟩
 | some t =>
  simp only[lotD_some] at hJ o0 o1 o2 o3 o4 o5 ⊢
  by_cases hs0:t.state=0
  ·have q4:(t.state != 0)=false:=by simp[hs0]
   have hfP:Hid (Cal.bkErr y bk e=Cal.bkErr.putS y bk e):=by show _=_;rw[hfE.out];simp[hk,hs0]
   clear hfE hk hs0
   have hl0:Hid ((0≤e.level∧e.level≤11)∧(0≤e.cont∧e.cont≤2)):=hnum.out
   by_cases hpl:Cal.placeE y bk.stays e.site e.level e.cont=0
   ·obtain⟨s,hs⟩:=place_site hpl
    have hkd:Hid (Cal.bkErr.kindOf y e.site=s.kind):=by show _=_;unfold Cal.bkErr.kindOf;rw[hs]
    have hf:Hid (Cal.bkErr y bk e=(⟨e.remain,if s.kind=3 then 3 else 1,e.site,e.level,e.cont,e.day⟩,0)):=by show _=_;rw[hfP.out];unfold Cal.bkErr.putS;rw[if_neg (by rw[hpl];simp),hkd.out]
    have hs:=Lib.hid hs
    have hplz:=Lib.hid hpl
    clear hpl hfP hkd
    go_upto_region 20 with (go_at_call 39;clear e0 e1 e2 e3 e4 e5 e6 o0 o1 o2 o3 o4 o5 n0 n1 n2 n3 n4 n5 f1;refine (place_any B M S R c d y A cap bk e.site e.level e.cont _ (hBz.out _ hJ.out.bel) hl0.out.1.1 (by have:=hl0.out.1.2;omega) hl0.out.2.1 hl0.out.2.2).mono ?_;rintro e9 wn ⟨rfl,hbn⟩;rw[hplz.out];replace hJ:=Lib.hid (hJ.out.below hbn);clear hbn;(obtain⟨e0,e1,e2,e3⟩:=hJ.out.e.c4;have e4:=hJ.out.e.c 4 _ rfl;have e5:=hJ.out.e.c 5 _ rfl;have e6:=hJ.out.e.c 6 _ rfl;obtain⟨o0,o1,o2,o3⟩:=hJ.out.old.c4;have o4:=hJ.out.old.c 4 _ rfl;have o5:=hJ.out.old.c 5 _ rfl;obtain⟨n0,n1,n2,n3⟩:=hJ.out.nx.c4;have n4:=hJ.out.nx.c 4 _ rfl;have n5:=hJ.out.nx.c 5 _ rfl;have f1:=hJ.out.nx.free 1 (by simp)))
    clear e0 e1 e2 e3 e4 e5 e6 o0 o1 o2 o3 o4 o5 n0 n1 n2 n3 n4 n5 f1
    replace hJ:=Lib.hid (hJ.out.below ((Below.refl wn.heap.size wn).drew))
    obtain⟨X,hX⟩:∃ X,wn.drew=X:=⟨_,rfl⟩
    rw[hX] at hJ
    refine wp_region_held_drew (S:=Sx w [(w.heap.size,2,.string e.site),(w.heap.size,3,.int .i64 e.level),(w.heap.size,5,.int .i64 e.cont)]) (by kernel_rfl) (by rw[hX];exact (Sx.mk (by simp only[cs_iff_cons];exact⟨hJ.out.e.c 2 _ rfl,hJ.out.e.c 3 _ rfl,hJ.out.e.c 5 _ rfl,cs_nil _⟩) hJ.out.bel)) (fun hHeld=>?_)
    rw[hX] at hHeld ⊢
    clear hX
    have hOs:Hid (O+1<X.heap.size):=hJ.out.nx.lt
    have hlt:=hJ.out.lt
    have hws:=hJ.out.e.lt
    have hkp:∀ (X1 X2:World),Sx w [(w.heap.size,2,.string e.site),(w.heap.size,3,.int .i64 e.level),(w.heap.size,5,.int .i64 e.cont)] X1→X1.heap.size=X.heap.size→X1.grownBy X2 (some (O+1))→Sx w [(w.heap.size,2,.string e.site),(w.heap.size,3,.int .i64 e.level),(w.heap.size,5,.int .i64 e.cont)] X2:=fun X1 X2 h hz hg=>h.keep hg (fun x hx=>by simp at hx;rcases hx with rfl | rfl | rfl <;> exact⟨by show w.heap.size≠O+1;omega,by rw[hz];exact hws⟩) (by omega)
    have hkp:=Lib.hid hkp
    have hN0:=hJ.out.nx
    have c1:=hN0.c 1 _ rfl;have g1:=hN0.free 1 (by simp)
    refine tkHx 0 81 ?_
    refine tkHx 1 82 ?_
    refine tkHx 2 83 ?_
    refine tkHx 3 84 ?_
    refine tkHx 4 85 ?_
    refine tkHx 5 86 ?_
    refine tkHx 6 87 ?_
    (refine ratHx 7 (fun K hK=>?_);go_simp)
    refine hK.out _ _ (hkp.out _ _ hHeld rfl (grown_set _ _ _ _)) (fun hHeld=>?_)
    clear hK K
    (try simp only[apS,apN,siA,scZ,scS])
    have hN1:=hN0.set 1 (.int .i64 1) (by simp)
    have c2:=hN1.c 2 _ rfl;have g2:=hN1.free 2 (by simp)
    clear c1 g1
    refine tkHx 8 88 ?_
    (refine ratHx 9 (fun K hK=>?_);go_simp)
    refine hK.out _ _ (hkp.out _ _ hHeld (World.size_setCell ..) (grown_set _ _ _ _)) (fun hHeld=>?_)
    clear hK K
    (try simp only[apS,apN,siA,scZ,scS])
    have hN2:=hN1.set 2 (.string e.site) (by simp)
    have c3:=hN2.c 3 _ rfl;have g3:=hN2.free 3 (by simp)
    clear c2 g2
    refine tkHx 10 89 ?_
    (refine ratHx 11 (fun K hK=>?_);go_simp)
    refine hK.out _ _ (hkp.out _ _ hHeld (by simp) (grown_set _ _ _ _)) (fun hHeld=>?_)
    clear hK K
    (try simp only[apS,apN,siA,scZ,scS])
    have hN3:=hN2.set 3 (.int .i64 e.level) (by simp)
    have c4:=hN3.c 4 _ rfl;have g4:=hN3.free 4 (by simp)
    clear c3 g3
    refine tkHx 12 90 ?_
    (refine ratHx 13 (fun K hK=>?_);go_simp)
    refine hK.out _ _ (hkp.out _ _ hHeld (by simp) (grown_set _ _ _ _)) (fun hHeld=>?_)
    clear hK K
    (try simp only[apS,apN,siA,scZ,scS])
    refine wpAnyH_done (by kernel_rfl) ?_ _
    have hN4:=hN3.set 4 (.int .i64 e.cont) (by simp)
    clear c4 g4 hHeld
    replace hJ:=Lib.hid (hJ.out.next (nx':=⟨e.remain,1,e.site,e.level,e.cont,e.day⟩) hN4 ((((grown_set _ _ _ _).trans (grown_set _ _ _ _)).trans (grown_set _ _ _ _)).trans (grown_set _ _ _ _)))
    clear hN0 hN1 hN2 hN3 hN4 hkp hOs
    obtain⟨W,hW⟩:∃ W,(((X.setCell ⟨O+1,1,none⟩ (.int .i64 1)).setCell ⟨O+1,2,none⟩ (.string e.site)).setCell ⟨O+1,3,none⟩ (.int .i64 e.level)).setCell ⟨O+1,4,none⟩ (.int .i64 e.cont)=W:=⟨_,rfl⟩
    rw[hW] at hJ ⊢
    clear hW
    (obtain⟨e0,e1,e2,e3⟩:=hJ.out.e.c4;have e4:=hJ.out.e.c 4 _ rfl;have e5:=hJ.out.e.c 5 _ rfl;have e6:=hJ.out.e.c 6 _ rfl;obtain⟨o0,o1,o2,o3⟩:=hJ.out.old.c4;have o4:=hJ.out.old.c 4 _ rfl;have o5:=hJ.out.old.c 5 _ rfl;obtain⟨n0,n1,n2,n3⟩:=hJ.out.nx.c4;have n4:=hJ.out.nx.c 4 _ rfl;have n5:=hJ.out.nx.c 5 _ rfl;have f1:=hJ.out.nx.free 1 (by simp))
    go_upto_region 21 with fail
    clear e0 e1 e2 e3 e4 e5 e6 o0 o1 o2 o3 o4 o5 n0 n1 n2 n3 n4 n5 f1
    replace hJ:=Lib.hid (hJ.out.below ((Below.refl W.heap.size W).drew))
    obtain⟨X1,hX1⟩:∃ X1,W.drew=X1:=⟨_,rfl⟩
    rw[hX1] at hJ
    have hB1:=Lib.hid (hBz.out _ hJ.out.bel)
    have hso:=Lib.hid (siteOf_any S R c d y e.site X1 hB1.out.yd.sites hB1.out.yd.slen)
    refine wp_region_held_drew (S:=Sx X1 [(w.heap.size,2,.string e.site),(B,0,.slice S y.sites.length c),(B,1,.slice R y.rests.length d),(B,2,.int .i64 y.c0),(B,3,.int .i64 y.c1),(B,4,.int .i64 y.c2)]) (by kernel_rfl) (by rw[hX1];exact (Sx.mk (by simp only[cs_iff_cons];exact⟨hJ.out.e.c 2 _ rfl,hB1.out.box.c 0 _ rfl,hB1.out.box.c 1 _ rfl,hB1.out.box.c 2 _ rfl,hB1.out.box.c 3 _ rfl,hB1.out.box.c 4 _ rfl,cs_nil _⟩) (Below.refl _ _))) (fun hHeld=>?_)
    rw[hX1] at hHeld ⊢
    clear hX1
    refine tkHx 0 91 ?_
    refine tkHx 1 92 ?_
    refine tkHx 2 93 ?_
    refine tkHx 3 94 ?_
    refine tkHx 4 95 ?_
    refine tkHx 5 96 ?_
    (refine ratHx 6 (fun K hK=>?_);go_simp)
    refine hso.out.mono ?_
    rintro e9 wk ⟨v,rfl,hv,hbk⟩
    rw[hs.out] at hv
    obtain⟨qb,qo,rfl,hql,hqr⟩:=hv
    have hst:SiteC X1 qb qo s:=⟨hql,hqr⟩
    clear hql hqr
    go_simp
    (refine hK.out _ _ (hHeld.step hbk) (fun hHeld=>?_);clear hK K;(try simp only[apS,apN,siA,scZ,scS]))
    refine tkHx 7 98 ?_
    refine tkHx 8 99 ?_
    refine tkHx 9 100 (hy:=by (intro w' hSw;obtain⟨q0,q1,q2,q3,q4,q5⟩:=(SiteC.below hst hSw.bel).c;go_simp;(try with_reducible rfl))) ?_
    refine tkHx 10 101 ?_
    refine wpAnyH_done (by kernel_rfl) ?_ _
    replace hJ:=Lib.hid (hJ.out.below hHeld.bel)
    clear hHeld hst hso hB1
    by_cases k3:s.kind=3
    ·have kq:(s.kind == 3)=true:=by simp[k3]
     rw[if_pos k3] at hf
     clear k3
     (obtain⟨e0,e1,e2,e3⟩:=hJ.out.e.c4;have e4:=hJ.out.e.c 4 _ rfl;have e5:=hJ.out.e.c 5 _ rfl;have e6:=hJ.out.e.c 6 _ rfl;obtain⟨o0,o1,o2,o3⟩:=hJ.out.old.c4;have o4:=hJ.out.old.c 4 _ rfl;have o5:=hJ.out.old.c 5 _ rfl;obtain⟨n0,n1,n2,n3⟩:=hJ.out.nx.c4;have n4:=hJ.out.nx.c 4 _ rfl;have n5:=hJ.out.nx.c 5 _ rfl;have f1:=hJ.out.nx.free 1 (by simp))
     go_upto_region 23 with fail
     clear e0 e1 e2 e3 e4 e5 e6 o0 o1 o2 o3 o4 o5 n0 n1 n2 n3 n4 n5 f1
     replace hJ:=Lib.hid (hJ.out.next (nx':=⟨e.remain,3,e.site,e.level,e.cont,e.day⟩) (hJ.out.nx.set 1 (.int .i64 3) (by simp)) (grown_set _ _ _ _))
     obtain⟨Y,hY⟩:∃ Y,wk.setCell ⟨O+1,1,none⟩ (.int .i64 3)=Y:=⟨_,rfl⟩
     rw[hY] at hJ ⊢
     clear hY
     (obtain⟨e0,e1,e2,e3⟩:=hJ.out.e.c4;have e4:=hJ.out.e.c 4 _ rfl;have e5:=hJ.out.e.c 5 _ rfl;have e6:=hJ.out.e.c 6 _ rfl;obtain⟨o0,o1,o2,o3⟩:=hJ.out.old.c4;have o4:=hJ.out.old.c 4 _ rfl;have o5:=hJ.out.old.c 5 _ rfl;obtain⟨n0,n1,n2,n3⟩:=hJ.out.nx.c4;have n4:=hJ.out.nx.c 4 _ rfl;have n5:=hJ.out.nx.c 5 _ rfl;have f1:=hJ.out.nx.free 1 (by simp))
     go_wp2_with (refine wpList_store_box rfl 38 (.tmp 4) (.tmp 103) rfl (w.heap.size+1) _ [.string e.remain,.int .i64 3,.string e.site,.int .i64 e.level,.int .i64 e.cont,.int .i64 e.day] (by rfl) (by rfl) hJ.out.r rfl ltSz (by kernel_rfl) ?_;intro w4 h4 hg4)
     refine bodyPost_ret (results_mid2 rfl _ _ (w.heap.size+1) [.string e.remain,.int .i64 3,.string e.site,.int .i64 e.level,.int .i64 e.cont,.int .i64 e.day] _ rfl h4.range Tryd.underlying38 rfl ltSz) rfl ?_
     rw[hf.out]
     exact⟨rfl,below_of_grownB hJ.out.bel hg4 (by omega)⟩
    have kq:(s.kind == 3)=false:=by simp[k3]
    rw[if_neg k3] at hf
    clear k3
    (obtain⟨e0,e1,e2,e3⟩:=hJ.out.e.c4;have e4:=hJ.out.e.c 4 _ rfl;have e5:=hJ.out.e.c 5 _ rfl;have e6:=hJ.out.e.c 6 _ rfl;obtain⟨o0,o1,o2,o3⟩:=hJ.out.old.c4;have o4:=hJ.out.old.c 4 _ rfl;have o5:=hJ.out.old.c 5 _ rfl;obtain⟨n0,n1,n2,n3⟩:=hJ.out.nx.c4;have n4:=hJ.out.nx.c 4 _ rfl;have n5:=hJ.out.nx.c 5 _ rfl;have f1:=hJ.out.nx.free 1 (by simp))
    go_wp2_with (refine wpList_store_box rfl 38 (.tmp 4) (.tmp 103) rfl (w.heap.size+1) _ [.string e.remain,.int .i64 1,.string e.site,.int .i64 e.level,.int .i64 e.cont,.int .i64 e.day] (by rfl) (by rfl) hJ.out.r rfl ltSz (by kernel_rfl) ?_;intro w4 h4 hg4)
    refine bodyPost_ret (results_mid2 rfl _ _ (w.heap.size+1) [.string e.remain,.int .i64 1,.string e.site,.int .i64 e.level,.int .i64 e.cont,.int .i64 e.day] _ rfl h4.range Tryd.underlying38 rfl ltSz) rfl ?_
    rw[hf.out]
    exact⟨rfl,below_of_grownB hJ.out.bel hg4 (by omega)⟩
   have hf:Hid (Cal.bkErr y bk e=(Cal.lot0,Cal.placeE y bk.stays e.site e.level e.cont)):=by show _=_;rw[hfP.out];unfold Cal.bkErr.putS;rw[if_pos hpl]
   have h1:(Cal.placeE y bk.stays e.site e.level e.cont != 0)=true:=by simp[hpl]
   clear hpl hfP
   go_wp2_with (first
    |(go_at_call 39;clear e0 e1 e2 e3 e4 e5 e6 o0 o1 o2 o3 o4 o5 n0 n1 n2 n3 n4 n5 f1;refine (place_any B M S R c d y A cap bk e.site e.level e.cont _ (hBz.out _ hJ.out.bel) hl0.out.1.1 (by have:=hl0.out.1.2;omega) hl0.out.2.1 hl0.out.2.2).mono ?_;rintro e9 wn ⟨rfl,hbn⟩;replace hJ:=Lib.hid (hJ.out.below hbn);clear hbn;(obtain⟨e0,e1,e2,e3⟩:=hJ.out.e.c4;have e4:=hJ.out.e.c 4 _ rfl;have e5:=hJ.out.e.c 5 _ rfl;have e6:=hJ.out.e.c 6 _ rfl;obtain⟨o0,o1,o2,o3⟩:=hJ.out.old.c4;have o4:=hJ.out.old.c 4 _ rfl;have o5:=hJ.out.old.c 5 _ rfl;obtain⟨n0,n1,n2,n3⟩:=hJ.out.nx.c4;have n4:=hJ.out.nx.c 4 _ rfl;have n5:=hJ.out.nx.c 5 _ rfl;have f1:=hJ.out.nx.free 1 (by simp)))
    |(refine wpList_store_box rfl 38 (.tmp 4) (.tmp 79) rfl (w.heap.size+1) _ [.string ⟨#[]⟩,.int .i64 0,.string ⟨#[]⟩,.int .i64 0,.int .i64 0,.int .i64 0] (by rfl) (by rfl) hJ.out.r rfl ltSz (by kernel_rfl) ?_;intro w4 h4 hg4))
   refine bodyPost_ret (results_mid2 rfl _ _ (w.heap.size+1) [.string ⟨#[]⟩,.int .i64 0,.string ⟨#[]⟩,.int .i64 0,.int .i64 0,.int .i64 0] _ rfl h4.range Tryd.underlying38 rfl ltSz) rfl ?_
   rw[hf.out]
   exact⟨rfl,below_of_grownB hJ.out.bel hg4 (by omega)⟩
  have q4:(t.state != 0)=true:=by simp[hs0]
  have hf:Hid (Cal.bkErr y bk e=(Cal.lot0,28)):=by show _=_;rw[hfE.out];simp[hk,hs0]
  clear hfE hk hs0
  go_wp2_with (refine wpList_store_box rfl 38 (.tmp 4) (.tmp 68) rfl (w.heap.size+1) _ [.string ⟨#[]⟩,.int .i64 0,.string ⟨#[]⟩,.int .i64 0,.int .i64 0,.int .i64 0] (by rfl) (by rfl) hJ.out.r rfl ltSz (by kernel_rfl) ?_;intro w4 h4 hg4)
  refine bodyPost_ret (results_mid2 rfl _ _ (w.heap.size+1) [.string ⟨#[]⟩,.int .i64 0,.string ⟨#[]⟩,.int .i64 0,.int .i64 0,.int .i64 0] _ rfl h4.range Tryd.underlying38 rfl ltSz) rfl ?_
  rw[hf.out]
  exact⟨rfl,below_of_grownB hJ.out.bel hg4 (by omega)⟩
end Go.Proofs.YtcnfhnndppollaaDoor
namespace Go.Proofs.YtcnfhnndppollaaDoor
open Go Go.RowKit Go.Maps
theorem vstoreX {P:Program} {ops:Array Oper} {Q:Exit→Act→World→Prop} {md:Region.Mode} {S:World→Prop} {w:World} (i:Nat) (ty:TypeId) (e f:Operand) (b:Nat) {cs:List Value} (vs:List Value) {op:Oper} {fuel:Nat} {listed l':Array Bool} {a a':Act}
  (x:Hid (BoxAt w b cs)) (hl:vs.length=cs.length) (hS:∀ W',w.grownBy W' (some b)→S W') (h:∀ W',S W'→Hid (BoxAt W' b vs)→wpAnyH P md ops Q S fuel l' a' W')
  (ho:ops[i]?=some op:=by exact rfl) (hst:op.op=.store ty e f:=by exact rfl) (hr:Region.ready md ops listed=[i]:=by decide +kernel) (hw:Region.wanted op (yielded ops a.tmps)=true:=by kernel_rfl)
  (hx:a.eval e=.pointer (some ⟨b,0,none⟩):=by rfl) (hy:a.eval f=.agg vs.toArray:=by rfl) (hi:(P.info? ty).map (·.size)=some vs.toArray.size:=by kernel_rfl) (h1:vs.toArray.all (·.oneCell')=true:=by kernel_rfl)
  (ha:a.put op.dst undef=a':=by ((try simp only[Act.put,List.setIfInBounds_toArray,List.set_cons_zero,List.set_cons_succ]);exact rfl))
  (hl':listed.setIfInBounds i true=l':=by ((try simp only[List.setIfInBounds_toArray,List.set_cons_zero,List.set_cons_succ]);exact rfl)):wpAnyH P md ops Q S (fuel+1) listed a w:=by
 refine vstoreH i ty e f b 0 vs.toArray hr ho hst hw hx hy ?_ hi h1 (hS _ (grown_setCells b vs 0 w)) (fun h2=>?_)
 ·have:=x.out.there
  rw[←hl] at this
  exact this
 rw[ha,hl']
 exact h _ h2 (x.out.put vs hl)
theorem event_kind {e:Ev} (h:Cal.eventE e=0):0≤e.kind∧e.kind≤4:=by
 unfold Cal.eventE at h
 dsimp only at h
 repeat' split at h
 all_goals first | (cases h;done) | skip
 all_goals omega
theorem event_lev {e:Ev} (h:Cal.eventE e=0) (hk:e.kind=3):0≤e.level∧e.level≤11:=by
 unfold Cal.eventE at h
 dsimp only at h
 repeat' split at h
 all_goals first | (cases h;done) | skip
 all_goals omega
theorem error_take (B M:Nat) (S R:Option Addr) (c d:Nat) (y:Yd) (A:Option Addr) (cap:Nat) (bk:Bk) (e:Ev) (w:World) (hB:BkR w B M S R c d y A cap bk) (hn1:e.remain.size≤maxLen) (hn2:e.site.size≤maxLen) (h0:Cal.eventE e=0) (hd:¬e.day<bk.day) (hk:¬(e.kind=0∨e.kind=2)) :
  Calls Tryd.prog 36 #[.pointer (some ⟨B,0,none⟩),.agg #[.int .i64 e.day,.int .i64 e.kind,.string e.site,.int .i64 e.level,.string e.remain,.int .i64 e.cont,.bool e.order]] w (ErP w (Cal.bkErr y bk e)):=by
 have hI:=Lib.hid (ErI.start w e)
 have hBz:=Lib.hid (fun w' (h:Below w.heap.size w w')=>hB.below h)
 have hfE:Hid (Cal.bkErr y bk e=match Cal.lotOf bk.stays e.remain with
  | none=>(Cal.lot0,6)
  | some old=>if old.state≠1 then (Cal.lot0,28) else
   if e.kind=1 then (⟨e.remain,0,⟨#[]⟩,0,0,e.day⟩,Cal.openE y bk.stays old e.day e.order)
   else if e.kind=4 then (⟨e.remain,2,⟨#[]⟩,0,0,e.day⟩,Cal.openE y bk.stays old e.day e.order)
   else if Cal.bkErr.kindOf y old.site≠0 then (Cal.lot0,15)
   else if old.level≤e.level then (Cal.lot0,2)
   else if Cal.occB bk.stays old.site e.level (old.level-1) then (Cal.lot0,16)
   else (⟨e.remain,1,old.site,e.level,old.cont,e.day⟩,Cal.openE y bk.stays old e.day e.order)):=by show _=_;unfold Cal.bkErr;rw[if_neg (by rw[h0];simp),if_neg hd,if_neg hk];rfl
 have hdq:=decide_eq_false hd
 have h0z:=Lib.hid h0
 have hmem:=Lib.hid (fun t (h:some t=Cal.lotOf bk.stays e.remain)=>lotOf_mem h.symm)
 have hok:=Lib.hid hB.ok
 obtain⟨o,ho⟩:∃ o,o=Cal.lotOf bk.stays e.remain:=⟨_,rfl⟩
 have hoz:=Lib.hid ho
 rw[←ho] at hfE
 clear hB h0 hd ho
 (obtain⟨e0,e1,e2,e3⟩:=hI.out.e.c4;have e4:=hI.out.e.c 4 _ rfl;have e5:=hI.out.e.c 5 _ rfl;have e6:=hI.out.e.c 6 _ rfl)
 go_enter Tryd.func36,Tryd.ntmps36
 go_upto_region 4 with (go_at_call 56;clear e0 e1 e2 e3 e4 e5 e6;refine (CheckEvent_any e _ hn1 hn2).mono ?_;rintro e9 wn ⟨rfl,hbn⟩;rw[h0z.out];replace hI:=Lib.hid (hI.out.below hbn);clear hbn;(obtain⟨e0,e1,e2,e3⟩:=hI.out.e.c4;have e4:=hI.out.e.c 4 _ rfl;have e5:=hI.out.e.c 5 _ rfl;have e6:=hI.out.e.c 6 _ rfl))
 clear e0 e1 e2 e3 e4 e5 e6
 refine wp_region_held_drew (S:=Sx w [(w.heap.size,0,.int .i64 e.day),(B,7,.int .i64 bk.day)]) (by kernel_rfl) (Sx.mk (by simp only[cs_iff_cons];exact⟨hI.out.e.c 0 _ rfl,(hBz.out _ hI.out.bel).box.c 7 _ rfl,cs_nil _⟩) (hI.out.bel.trans (Below.refl _ _).drew)) (fun hHeld=>?_)
 refine tkHx 0 17 ?_
 refine tkHx 1 18 ?_
 refine tkHx 2 19 ?_
 refine tkHx 3 20 ?_
 refine tkHx 4 21 ?_
 refine tkHx 5 22 ?_
 refine tkHx 6 23 ?_
 refine wpAnyH_done (by kernel_rfl) ?_ _
 replace hI:=Lib.hid (hI.out.below ((Below.refl _ _).drew))
 clear hHeld
 (obtain⟨e0,e1,e2,e3⟩:=hI.out.e.c4;have e4:=hI.out.e.c 4 _ rfl;have e5:=hI.out.e.c 5 _ rfl;have e6:=hI.out.e.c 6 _ rfl)
 go_upto_region 8 with (go_at_call 21;clear e0 e1 e2 e3 e4 e5 e6;refine (lot_any B M S R c d y A cap bk e.remain _ (hBz.out _ hI.out.bel) hn1).mono ?_;rintro e9 wm ⟨rfl,hbm⟩;rw[←hoz.out];replace hI:=Lib.hid (hI.out.below hbm);clear hbm;have hI3:=hI.out.below (below_alloc wm (.cells #[.string (lotD o).remain,.int .i64 (lotD o).state,.string (lotD o).site,.int .i64 (lotD o).level,.int .i64 (lotD o).cont,.int .i64 (lotD o).since] 38));have e0:=hI3.e.c 0 _ rfl;have e4:=hI3.e.c 4 _ rfl;have k4:=hI.out.e.c 4 _ rfl;clear hI3)
 clear e0 e4 k4
 have hJ:=hI.out.two (lotD o)
 generalize wm.heap.size=O at *
 obtain⟨W,hW⟩:∃ W,(wm.alloc (.cells #[.string (lotD o).remain,.int .i64 (lotD o).state,.string (lotD o).site,.int .i64 (lotD o).level,.int .i64 (lotD o).cont,.int .i64 (lotD o).since] 38)).alloc (.cells #[.string e.remain,.int .i64 0,.string ⟨#[]⟩,.int .i64 0,.int .i64 0,.int .i64 e.day] 38)=W:=⟨_,rfl⟩
 rw[hW] at hJ ⊢
 clear hW hI
 replace hJ:=Lib.hid hJ
 (obtain⟨e0,e1,e2,e3⟩:=hJ.out.e.c4;have e4:=hJ.out.e.c 4 _ rfl;have e5:=hJ.out.e.c 5 _ rfl;have e6:=hJ.out.e.c 6 _ rfl;obtain⟨o0,o1,o2,o3⟩:=hJ.out.old.c4;have o4:=hJ.out.old.c 4 _ rfl;have o5:=hJ.out.old.c 5 _ rfl;obtain⟨n0,n1,n2,n3⟩:=hJ.out.nx.c4;have n4:=hJ.out.nx.c 4 _ rfl;have n5:=hJ.out.nx.c 5 _ rfl;have f1:=hJ.out.nx.free 1 (by simp))
 have q0:(e.kind == 0)=false:=by simp;omega
 have q2:(e.kind == 2)=false:=by simp;omega
 cases o with
 | none =>
  have hf:Hid (Cal.bkErr y bk e=(Cal.lot0,6)):=hfE
  clear hfE hk
  go_wp2_with (refine wpList_store_box rfl 38 (.tmp 4) (.tmp 107) rfl (w.heap.size+1) _ [.string ⟨#[]⟩,.int .i64 0,.string ⟨#[]⟩,.int .i64 0,.int .i64 0,.int .i64 0] (by rfl) (by rfl) hJ.out.r rfl ltSz (by kernel_rfl) ?_;intro w4 h4 hg4)
  refine bodyPost_ret (results_mid2 rfl _ _ (w.heap.size+1) [.string ⟨#[]⟩,.int .i64 0,.string ⟨#[]⟩,.int .i64 0,.int .i64 0,.int .i64 0] _ rfl h4.range Tryd.underlying38 rfl ltSz) rfl ?_
  rw[hf.out]
  exact⟨rfl,below_of_grownB hJ.out.bel hg4 (by omega)⟩
 | some t =>
  simp only[lotD_some] at hJ o0 o1 o2 o3 o4 o5 ⊢
  have hoz2:=Lib.hid (hmem.out t hoz.out)
  clear hmem
  by_cases hs1:t.state=1
  ·have qs:(t.state != 1)=false:=by simp[hs1]
   obtain⟨st,hst,hlot,hrem⟩:=hoz2.out
   have hnum:=Lib.hid (hok.out.num st hst)
   rw[hlot] at hnum
   have hsite:=hok.out.site st hst (.inl (by rw[hlot];exact hs1))
   rw[hlot] at hsite
   obtain⟨s,hs⟩:=Option.isSome_iff_exists.1 hsite
   have hs:=Lib.hid hs
   clear hst hlot hrem hsite hoz2
   by_cases k1:e.kind=1
   ·have q1:(e.kind == 1)=true:=by simp[k1]
    obtain⟨nx,hnx⟩:∃ nx:Lot,nx=⟨e.remain,0,⟨#[]⟩,0,0,e.day⟩:=⟨_,rfl⟩
    have hf:Hid (Cal.bkErr y bk e=(nx,Cal.openE y bk.stays t e.day e.order)):=by show _=_;rw[hfE.out,hnx];simp[hs1,k1]
    replace hnx:=Lib.hid hnx
    clear hfE hk hs1 k1
    go_upto_region 40 with fail
    clear e0 e1 e2 e3 e4 e5 e6 o0 o1 o2 o3 o4 o5 n0 n1 n2 n3 n4 n5 f1
    have hJn:=hJ.out.next (nx':=nx) (by rw[hnx.out];exact hJ.out.nx.set 1 (.int .i64 0) (by simp)) (grown_set _ _ _ _)
    obtain⟨Y,hY⟩:∃ Y,W.setCell ⟨O+1,1,none⟩ (.int .i64 0)=Y:=⟨_,rfl⟩
    rw[hY] at hJn ⊢
    clear hY hJ hnx
    have hJ:=Lib.hid hJn
    clear hJn
    replace hJ:=Lib.hid (hJ.out.below ((Below.refl _ _).drew))
    obtain⟨X,hX⟩:∃ X,Y.drew=X:=⟨_,rfl⟩
    rw[hX] at hJ
    refine wp_region_held_drew (S:=Sx w [(O+1,0,.string nx.remain),(O+1,1,.int .i64 nx.state),(O+1,2,.string nx.site),(O+1,3,.int .i64 nx.level),(O+1,4,.int .i64 nx.cont),(O+1,5,.int .i64 nx.since),(O,0,.string t.remain),(O,1,.int .i64 t.state),(O,2,.string t.site),(O,3,.int .i64 t.level),(O,4,.int .i64 t.cont),(O,5,.int .i64 t.since),(w.heap.size,0,.int .i64 e.day),(w.heap.size,6,.bool e.order)]) (by kernel_rfl) (by rw[hX];exact (Sx.mk (by (obtain⟨e0,e1,e2,e3⟩:=hJ.out.e.c4;have e4:=hJ.out.e.c 4 _ rfl;have e5:=hJ.out.e.c 5 _ rfl;have e6:=hJ.out.e.c 6 _ rfl;obtain⟨o0,o1,o2,o3⟩:=hJ.out.old.c4;have o4:=hJ.out.old.c 4 _ rfl;have o5:=hJ.out.old.c 5 _ rfl;obtain⟨n0,n1,n2,n3⟩:=hJ.out.nx.c4;have n4:=hJ.out.nx.c 4 _ rfl;have n5:=hJ.out.nx.c 5 _ rfl;have f1:=hJ.out.nx.free 1 (by simp));simp only[cs_iff_cons];exact⟨n0,n1,n2,n3,n4,n5,o0,o1,o2,o3,o4,o5,e0,e6,cs_nil _⟩) hJ.out.bel)) (fun hHeld=>?_)
    rw[hX] at hHeld ⊢
    clear hX
    refine tkHx 0 162 ?_
    refine tkHx 1 163 ?_
    refine tkHx 2 164 ?_
    refine tkHx 3 165 ?_
    refine tkHx 4 166 ?_
    refine tkHx 5 167 ?_
    refine tkHx 6 168 ?_
    (refine ratHx 7 (fun K hK=>?_);go_simp)
    refine (open_any B M S R c d y A cap bk t e.day e.order s _ (hBz.out _ hJ.out.bel) hs.out hnum.out.2.1.1 hnum.out.2.1.2 hnum.out.1.1 hnum.out.1.2).mono ?_
    rintro e9 wk ⟨rfl,hbk⟩
    go_simp
    replace hJ:=Lib.hid (hJ.out.below hbk)
    (refine hK.out _ _ (hHeld.step hbk) (fun hHeld=>?_);clear hK K;(try simp only[apS,apN,siA,scZ,scS]))
    have hlt:=hJ.out.lt
    have hlr:=hJ.out.r.lt
    have hln:=hJ.out.nx.lt
    refine vstoreX 8 38 (.tmp 4) (.tmp 162) (w.heap.size+1) [.string nx.remain,.int .i64 nx.state,.string nx.site,.int .i64 nx.level,.int .i64 nx.cont,.int .i64 nx.since] (Lib.hid hJ.out.r) rfl (fun W' hg=>hHeld.keep hg (fun x hx=>by simp at hx;rcases hx with rfl | rfl | rfl | rfl | rfl | rfl | rfl | rfl | rfl | rfl | rfl | rfl | rfl | rfl <;> exact⟨by show _≠w.heap.size+1;omega,by show _<wk.heap.size;omega⟩) (by omega)) (fun w4 hHeld4 h4=>?_)
    clear hHeld
    refine tkHx 9 5 ?_
    refine wpAnyH_done (by kernel_rfl) ?_ _
    clear hJ
    go_wp2
    refine bodyPost_ret (results_mid2 rfl _ _ (w.heap.size+1) [.string nx.remain,.int .i64 nx.state,.string nx.site,.int .i64 nx.level,.int .i64 nx.cont,.int .i64 nx.since] _ rfl h4.out.range Tryd.underlying38 rfl ltSz) rfl ?_
    rw[hf.out]
    exact⟨rfl,hHeld4.bel⟩
   have q1:(e.kind == 1)=false:=by simp[k1]
   by_cases k4:e.kind=4
   ·have q4:(e.kind == 4)=true:=by simp[k4]
    obtain⟨nx,hnx⟩:∃ nx:Lot,nx=⟨e.remain,2,⟨#[]⟩,0,0,e.day⟩:=⟨_,rfl⟩
    have hf:Hid (Cal.bkErr y bk e=(nx,Cal.openE y bk.stays t e.day e.order)):=by show _=_;rw[hfE.out,hnx];simp[hs1,k4]
    replace hnx:=Lib.hid hnx
    clear hfE hk hs1 k1 k4
    go_upto_region 40 with fail
    clear e0 e1 e2 e3 e4 e5 e6 o0 o1 o2 o3 o4 o5 n0 n1 n2 n3 n4 n5 f1
    have hJn:=hJ.out.next (nx':=nx) (by rw[hnx.out];exact hJ.out.nx.set 1 (.int .i64 2) (by simp)) (grown_set _ _ _ _)
    obtain⟨Y,hY⟩:∃ Y,W.setCell ⟨O+1,1,none⟩ (.int .i64 2)=Y:=⟨_,rfl⟩
    rw[hY] at hJn ⊢
    clear hY hJ hnx
    have hJ:=Lib.hid hJn
    clear hJn
    replace hJ:=Lib.hid (hJ.out.below ((Below.refl _ _).drew))
    obtain⟨X,hX⟩:∃ X,Y.drew=X:=⟨_,rfl⟩
    rw[hX] at hJ
    refine wp_region_held_drew (S:=Sx w [(O+1,0,.string nx.remain),(O+1,1,.int .i64 nx.state),(O+1,2,.string nx.site),(O+1,3,.int .i64 nx.level),(O+1,4,.int .i64 nx.cont),(O+1,5,.int .i64 nx.since),(O,0,.string t.remain),(O,1,.int .i64 t.state),(O,2,.string t.site),(O,3,.int .i64 t.level),(O,4,.int .i64 t.cont),(O,5,.int .i64 t.since),(w.heap.size,0,.int .i64 e.day),(w.heap.size,6,.bool e.order)]) (by kernel_rfl) (by rw[hX];exact (Sx.mk (by (obtain⟨e0,e1,e2,e3⟩:=hJ.out.e.c4;have e4:=hJ.out.e.c 4 _ rfl;have e5:=hJ.out.e.c 5 _ rfl;have e6:=hJ.out.e.c 6 _ rfl;obtain⟨o0,o1,o2,o3⟩:=hJ.out.old.c4;have o4:=hJ.out.old.c 4 _ rfl;have o5:=hJ.out.old.c 5 _ rfl;obtain⟨n0,n1,n2,n3⟩:=hJ.out.nx.c4;have n4:=hJ.out.nx.c 4 _ rfl;have n5:=hJ.out.nx.c 5 _ rfl;have f1:=hJ.out.nx.free 1 (by simp));simp only[cs_iff_cons];exact⟨n0,n1,n2,n3,n4,n5,o0,o1,o2,o3,o4,o5,e0,e6,cs_nil _⟩) hJ.out.bel)) (fun hHeld=>?_)
    rw[hX] at hHeld ⊢
    clear hX
    refine tkHx 0 162 ?_
    refine tkHx 1 163 ?_
    refine tkHx 2 164 ?_
    refine tkHx 3 165 ?_
    refine tkHx 4 166 ?_
    refine tkHx 5 167 ?_
    refine tkHx 6 168 ?_
    (refine ratHx 7 (fun K hK=>?_);go_simp)
    refine (open_any B M S R c d y A cap bk t e.day e.order s _ (hBz.out _ hJ.out.bel) hs.out hnum.out.2.1.1 hnum.out.2.1.2 hnum.out.1.1 hnum.out.1.2).mono ?_
    rintro e9 wk ⟨rfl,hbk⟩
    go_simp
    replace hJ:=Lib.hid (hJ.out.below hbk)
    (refine hK.out _ _ (hHeld.step hbk) (fun hHeld=>?_);clear hK K;(try simp only[apS,apN,siA,scZ,scS]))
    have hlt:=hJ.out.lt
    have hlr:=hJ.out.r.lt
    have hln:=hJ.out.nx.lt
    refine vstoreX 8 38 (.tmp 4) (.tmp 162) (w.heap.size+1) [.string nx.remain,.int .i64 nx.state,.string nx.site,.int .i64 nx.level,.int .i64 nx.cont,.int .i64 nx.since] (Lib.hid hJ.out.r) rfl (fun W' hg=>hHeld.keep hg (fun x hx=>by simp at hx;rcases hx with rfl | rfl | rfl | rfl | rfl | rfl | rfl | rfl | rfl | rfl | rfl | rfl | rfl | rfl <;> exact⟨by show _≠w.heap.size+1;omega,by show _<wk.heap.size;omega⟩) (by omega)) (fun w4 hHeld4 h4=>?_)
    clear hHeld
    refine tkHx 9 5 ?_
    refine wpAnyH_done (by kernel_rfl) ?_ _
    clear hJ
    go_wp2
    refine bodyPost_ret (results_mid2 rfl _ _ (w.heap.size+1) [.string nx.remain,.int .i64 nx.state,.string nx.site,.int .i64 nx.level,.int .i64 nx.cont,.int .i64 nx.since] _ rfl h4.out.range Tryd.underlying38 rfl ltSz) rfl ?_
    rw[hf.out]
    exact⟨rfl,hHeld4.bel⟩
   have q4:(e.kind == 4)=false:=by simp[k4]
   have hkd:Cal.bkErr.kindOf y t.site=s.kind:=by unfold Cal.bkErr.kindOf;rw[hs.out]
   have hfL:Hid (Cal.bkErr y bk e=if s.kind≠0 then (Cal.lot0,15) else if t.level≤e.level then (Cal.lot0,2) else if Cal.occB bk.stays t.site e.level (t.level-1) then (Cal.lot0,16) else (⟨e.remain,1,t.site,e.level,t.cont,e.day⟩,Cal.openE y bk.stays t e.day e.order)):=by show _=_;rw[hfE.out,←hkd];simp[hs1,k1,k4]
   have hlv:Hid (0≤e.level∧e.level≤11):=event_lev h0z.out (by have:=event_kind h0z.out;omega)
   clear hfE hk hs1 k1 k4 hkd
   go_upto_region 29 with fail
   clear e0 e1 e2 e3 e4 e5 e6 o0 o1 o2 o3 o4 o5 n0 n1 n2 n3 n4 n5 f1
   replace hJ:=Lib.hid (hJ.out.below ((Below.refl W.heap.size W).drew))
   obtain⟨X1,hX1⟩:∃ X1,W.drew=X1:=⟨_,rfl⟩
   rw[hX1] at hJ
   have hB1:=Lib.hid (hBz.out _ hJ.out.bel)
   have hso:=Lib.hid (siteOf_any S R c d y t.site X1 hB1.out.yd.sites hB1.out.yd.slen)
   refine wp_region_held_drew (S:=Sx X1 [(O,2,.string t.site),(B,0,.slice S y.sites.length c),(B,1,.slice R y.rests.length d),(B,2,.int .i64 y.c0),(B,3,.int .i64 y.c1),(B,4,.int .i64 y.c2)]) (by kernel_rfl) (by rw[hX1];exact (Sx.mk (by simp only[cs_iff_cons];exact⟨hJ.out.old.c 2 _ rfl,hB1.out.box.c 0 _ rfl,hB1.out.box.c 1 _ rfl,hB1.out.box.c 2 _ rfl,hB1.out.box.c 3 _ rfl,hB1.out.box.c 4 _ rfl,cs_nil _⟩) (Below.refl _ _))) (fun hHeld=>?_)
   rw[hX1] at hHeld ⊢
   clear hX1
   refine tkHx 0 116 ?_
   refine tkHx 1 117 ?_
   refine tkHx 2 118 ?_
   refine tkHx 3 119 ?_
   refine tkHx 4 120 ?_
   refine tkHx 5 121 ?_
   (refine ratHx 6 (fun K hK=>?_);go_simp)
   refine hso.out.mono ?_
   rintro e9 wk ⟨v,rfl,hv,hbk⟩
   rw[hs.out] at hv
   obtain⟨qb,qo,rfl,hql,hqr⟩:=hv
   have hst:SiteC X1 qb qo s:=⟨hql,hqr⟩
   clear hql hqr
   go_simp
   (refine hK.out _ _ (hHeld.step hbk) (fun hHeld=>?_);clear hK K;(try simp only[apS,apN,siA,scZ,scS]))
   refine tkHx 7 123 ?_
   refine tkHx 8 124 ?_
   refine tkHx 9 125 (hy:=by (intro w' hSw;obtain⟨q0,q1,q2,q3,q4,q5⟩:=(SiteC.below hst hSw.bel).c;go_simp;(try with_reducible rfl))) ?_
   refine tkHx 10 126 ?_
   refine tkHx 11 115 ?_
   refine wpAnyH_done (by kernel_rfl) ?_ _
   replace hJ:=Lib.hid (hJ.out.below hHeld.bel)
   clear hHeld hst hso hB1
   (obtain⟨e0,e1,e2,e3⟩:=hJ.out.e.c4;have e4:=hJ.out.e.c 4 _ rfl;have e5:=hJ.out.e.c 5 _ rfl;have e6:=hJ.out.e.c 6 _ rfl;obtain⟨o0,o1,o2,o3⟩:=hJ.out.old.c4;have o4:=hJ.out.old.c 4 _ rfl;have o5:=hJ.out.old.c 5 _ rfl;obtain⟨n0,n1,n2,n3⟩:=hJ.out.nx.c4;have n4:=hJ.out.nx.c 4 _ rfl;have n5:=hJ.out.nx.c 5 _ rfl;have f1:=hJ.out.nx.free 1 (by simp))
   by_cases ke:s.kind=0
   ·have kq:(s.kind != 0)=false:=by simp[ke]
    rw[if_neg (by simp[ke])] at hfL
    clear ke
    by_cases hle:t.level≤e.level
    ·have hlq:=decide_eq_true hle
     rw[if_pos hle] at hfL
     have hf:=hfL
     clear hfL hle
     go_wp2_with (refine wpList_store_box rfl 38 (.tmp 4) (.tmp 134) rfl (w.heap.size+1) _ [.string ⟨#[]⟩,.int .i64 0,.string ⟨#[]⟩,.int .i64 0,.int .i64 0,.int .i64 0] (by rfl) (by rfl) hJ.out.r rfl ltSz (by kernel_rfl) ?_;intro w4 h4 hg4)
     refine bodyPost_ret (results_mid2 rfl _ _ (w.heap.size+1) [.string ⟨#[]⟩,.int .i64 0,.string ⟨#[]⟩,.int .i64 0,.int .i64 0,.int .i64 0] _ rfl h4.range Tryd.underlying38 rfl ltSz) rfl ?_
     rw[hf.out]
     exact⟨rfl,below_of_grownB hJ.out.bel hg4 (by omega)⟩
    have hlq:decide (t.level≤e.level)=false:=decide_eq_false hle
    rw[if_neg hle] at hfL
    have hle2:e.level<t.level:=by omega
    have hnb:=hnum.out.1
    clear hle
    have hlv1:=hlv.out.1
    have hw1:IntKind.i64.wrap (t.level-1)=t.level-1:=wrap_small _ (by omega) (by omega)
    cases ho:Cal.occB bk.stays t.site e.level (t.level-1)
    ·rw[ho,if_neg (by decide)] at hfL
     have ho:=Lib.hid ho
     obtain⟨nx,hnx⟩:∃ nx:Lot,nx=⟨e.remain,1,t.site,e.level,t.cont,e.day⟩:=⟨_,rfl⟩
     rw[←hnx] at hfL
     have hf:=hfL
     replace hnx:=Lib.hid hnx
     clear hfL
     go_upto_region 35 with (go_at_call 57;clear e0 e1 e2 e3 e4 e5 e6 o0 o1 o2 o3 o4 o5 n0 n1 n2 n3 n4 n5 f1;refine (occupied_any B M S R c d y A cap bk t.site e.level (t.level-1) _ (hBz.out _ hJ.out.bel)).mono ?_;rintro e9 wq ⟨rfl,hbn⟩;rw[ho.out];replace hJ:=Lib.hid (hJ.out.below hbn);clear hbn;(obtain⟨e0,e1,e2,e3⟩:=hJ.out.e.c4;have e4:=hJ.out.e.c 4 _ rfl;have e5:=hJ.out.e.c 5 _ rfl;have e6:=hJ.out.e.c 6 _ rfl;obtain⟨o0,o1,o2,o3⟩:=hJ.out.old.c4;have o4:=hJ.out.old.c 4 _ rfl;have o5:=hJ.out.old.c 5 _ rfl;obtain⟨n0,n1,n2,n3⟩:=hJ.out.nx.c4;have n4:=hJ.out.nx.c 4 _ rfl;have n5:=hJ.out.nx.c 5 _ rfl;have f1:=hJ.out.nx.free 1 (by simp)))
     clear e0 e1 e2 e3 e4 e5 e6 o0 o1 o2 o3 o4 o5 n0 n1 n2 n3 n4 n5 f1
     replace hJ:=Lib.hid (hJ.out.below ((Below.refl wq.heap.size wq).drew))
     obtain⟨X,hX⟩:∃ X,wq.drew=X:=⟨_,rfl⟩
     rw[hX] at hJ
     refine wp_region_held_drew (S:=Sx w [(O,2,.string t.site),(w.heap.size,3,.int .i64 e.level),(O,4,.int .i64 t.cont)]) (by kernel_rfl) (by rw[hX];exact (Sx.mk (by simp only[cs_iff_cons];exact⟨hJ.out.old.c 2 _ rfl,hJ.out.e.c 3 _ rfl,hJ.out.old.c 4 _ rfl,cs_nil _⟩) hJ.out.bel)) (fun hHeld=>?_)
     rw[hX] at hHeld ⊢
     clear hX
     have hlt:=hJ.out.lt
     have hws:=hJ.out.e.lt
     have hos:=hJ.out.old.lt
     have hkp:∀ (X1 X2:World),Sx w [(O,2,.string t.site),(w.heap.size,3,.int .i64 e.level),(O,4,.int .i64 t.cont)] X1→X1.heap.size=X.heap.size→X1.grownBy X2 (some (O+1))→Sx w [(O,2,.string t.site),(w.heap.size,3,.int .i64 e.level),(O,4,.int .i64 t.cont)] X2:=fun X1 X2 h hz hg=>h.keep hg (fun x hx=>by simp at hx;rcases hx with rfl | rfl | rfl <;> exact⟨by show _≠O+1;omega,by rw[hz];show _<X.heap.size;omega⟩) (by omega)
     have hkp:=Lib.hid hkp
     have hN0:=hJ.out.nx
     have c1:=hN0.c 1 _ rfl;have g1:=hN0.free 1 (by simp)
     refine tkHx 0 146 ?_
     refine tkHx 1 147 ?_
     refine tkHx 2 148 ?_
     refine tkHx 3 149 ?_
     refine tkHx 4 150 ?_
     refine tkHx 5 151 ?_
     refine tkHx 6 152 ?_
     (refine ratHx 7 (fun K hK=>?_);go_simp)
     refine hK.out _ _ (hkp.out _ _ hHeld rfl (grown_set _ _ _ _)) (fun hHeld=>?_)
     clear hK K
     (try simp only[apS,apN,siA,scZ,scS])
     have hN1:=hN0.set 1 (.int .i64 1) (by simp)
     have c2:=hN1.c 2 _ rfl;have g2:=hN1.free 2 (by simp)
     clear c1 g1
     refine tkHx 8 153 ?_
     (refine ratHx 9 (fun K hK=>?_);go_simp)
     refine hK.out _ _ (hkp.out _ _ hHeld (World.size_setCell ..) (grown_set _ _ _ _)) (fun hHeld=>?_)
     clear hK K
     (try simp only[apS,apN,siA,scZ,scS])
     have hN2:=hN1.set 2 (.string t.site) (by simp)
     have c3:=hN2.c 3 _ rfl;have g3:=hN2.free 3 (by simp)
     clear c2 g2
     refine tkHx 10 154 ?_
     (refine ratHx 11 (fun K hK=>?_);go_simp)
     refine hK.out _ _ (hkp.out _ _ hHeld (by simp) (grown_set _ _ _ _)) (fun hHeld=>?_)
     clear hK K
     (try simp only[apS,apN,siA,scZ,scS])
     have hN3:=hN2.set 3 (.int .i64 e.level) (by simp)
     have c4:=hN3.c 4 _ rfl;have g4:=hN3.free 4 (by simp)
     clear c3 g3
     refine tkHx 12 155 ?_
     (refine ratHx 13 (fun K hK=>?_);go_simp)
     refine hK.out _ _ (hkp.out _ _ hHeld (by simp) (grown_set _ _ _ _)) (fun hHeld=>?_)
     clear hK K
     (try simp only[apS,apN,siA,scZ,scS])
     refine wpAnyH_done (by kernel_rfl) ?_ _
     have hN4:=hN3.set 4 (.int .i64 t.cont) (by simp)
     clear c4 g4 hHeld
     replace hJ:=Lib.hid (hJ.out.next (nx':=nx) (by rw[hnx.out];exact hN4) ((((grown_set _ _ _ _).trans (grown_set _ _ _ _)).trans (grown_set _ _ _ _)).trans (grown_set _ _ _ _)))
     clear hN0 hN1 hN2 hN3 hN4 hkp hnx hlt hws hos
     obtain⟨Y,hY⟩:∃ Y,(((X.setCell ⟨O+1,1,none⟩ (.int .i64 1)).setCell ⟨O+1,2,none⟩ (.string t.site)).setCell ⟨O+1,3,none⟩ (.int .i64 e.level)).setCell ⟨O+1,4,none⟩ (.int .i64 t.cont)=Y:=⟨_,rfl⟩
     rw[hY] at hJ ⊢
     clear hY
     (obtain⟨e0,e1,e2,e3⟩:=hJ.out.e.c4;have e4:=hJ.out.e.c 4 _ rfl;have e5:=hJ.out.e.c 5 _ rfl;have e6:=hJ.out.e.c 6 _ rfl;obtain⟨o0,o1,o2,o3⟩:=hJ.out.old.c4;have o4:=hJ.out.old.c 4 _ rfl;have o5:=hJ.out.old.c 5 _ rfl;obtain⟨n0,n1,n2,n3⟩:=hJ.out.nx.c4;have n4:=hJ.out.nx.c 4 _ rfl;have n5:=hJ.out.nx.c 5 _ rfl;have f1:=hJ.out.nx.free 1 (by simp))
     go_upto_region 40 with fail
     clear e0 e1 e2 e3 e4 e5 e6 o0 o1 o2 o3 o4 o5 n0 n1 n2 n3 n4 n5 f1
     replace hJ:=Lib.hid (hJ.out.below ((Below.refl _ _).drew))
     obtain⟨X,hX⟩:∃ X,Y.drew=X:=⟨_,rfl⟩
     rw[hX] at hJ
     refine wp_region_held_drew (S:=Sx w [(O+1,0,.string nx.remain),(O+1,1,.int .i64 nx.state),(O+1,2,.string nx.site),(O+1,3,.int .i64 nx.level),(O+1,4,.int .i64 nx.cont),(O+1,5,.int .i64 nx.since),(O,0,.string t.remain),(O,1,.int .i64 t.state),(O,2,.string t.site),(O,3,.int .i64 t.level),(O,4,.int .i64 t.cont),(O,5,.int .i64 t.since),(w.heap.size,0,.int .i64 e.day),(w.heap.size,6,.bool e.order)]) (by kernel_rfl) (by rw[hX];exact (Sx.mk (by (obtain⟨e0,e1,e2,e3⟩:=hJ.out.e.c4;have e4:=hJ.out.e.c 4 _ rfl;have e5:=hJ.out.e.c 5 _ rfl;have e6:=hJ.out.e.c 6 _ rfl;obtain⟨o0,o1,o2,o3⟩:=hJ.out.old.c4;have o4:=hJ.out.old.c 4 _ rfl;have o5:=hJ.out.old.c 5 _ rfl;obtain⟨n0,n1,n2,n3⟩:=hJ.out.nx.c4;have n4:=hJ.out.nx.c 4 _ rfl;have n5:=hJ.out.nx.c 5 _ rfl;have f1:=hJ.out.nx.free 1 (by simp));simp only[cs_iff_cons];exact⟨n0,n1,n2,n3,n4,n5,o0,o1,o2,o3,o4,o5,e0,e6,cs_nil _⟩) hJ.out.bel)) (fun hHeld=>?_)
     rw[hX] at hHeld ⊢
     clear hX
     refine tkHx 0 162 ?_
     refine tkHx 1 163 ?_
     refine tkHx 2 164 ?_
     refine tkHx 3 165 ?_
     refine tkHx 4 166 ?_
     refine tkHx 5 167 ?_
     refine tkHx 6 168 ?_
     (refine ratHx 7 (fun K hK=>?_);go_simp)
     refine (open_any B M S R c d y A cap bk t e.day e.order s _ (hBz.out _ hJ.out.bel) hs.out hnum.out.2.1.1 hnum.out.2.1.2 hnum.out.1.1 hnum.out.1.2).mono ?_
     rintro e9 wk ⟨rfl,hbk⟩
     go_simp
     replace hJ:=Lib.hid (hJ.out.below hbk)
     (refine hK.out _ _ (hHeld.step hbk) (fun hHeld=>?_);clear hK K;(try simp only[apS,apN,siA,scZ,scS]))
     have hlt:=hJ.out.lt
     have hlr:=hJ.out.r.lt
     have hln:=hJ.out.nx.lt
     refine vstoreX 8 38 (.tmp 4) (.tmp 162) (w.heap.size+1) [.string nx.remain,.int .i64 nx.state,.string nx.site,.int .i64 nx.level,.int .i64 nx.cont,.int .i64 nx.since] (Lib.hid hJ.out.r) rfl (fun W' hg=>hHeld.keep hg (fun x hx=>by simp at hx;rcases hx with rfl | rfl | rfl | rfl | rfl | rfl | rfl | rfl | rfl | rfl | rfl | rfl | rfl | rfl <;> exact⟨by show _≠w.heap.size+1;omega,by show _<wk.heap.size;omega⟩) (by omega)) (fun w4 hHeld4 h4=>?_)
     clear hHeld
     refine tkHx 9 5 ?_
     refine wpAnyH_done (by kernel_rfl) ?_ _
     clear hJ
     go_wp2
     refine bodyPost_ret (results_mid2 rfl _ _ (w.heap.size+1) [.string nx.remain,.int .i64 nx.state,.string nx.site,.int .i64 nx.level,.int .i64 nx.cont,.int .i64 nx.since] _ rfl h4.out.range Tryd.underlying38 rfl ltSz) rfl ?_
     rw[hf.out]
     exact⟨rfl,hHeld4.bel⟩
    rw[ho,if_pos rfl] at hfL
    have hf:=hfL
    have ho:=Lib.hid ho
    clear hfL
    go_wp2_with (first
     |(go_at_call 57;clear e0 e1 e2 e3 e4 e5 e6 o0 o1 o2 o3 o4 o5 n0 n1 n2 n3 n4 n5 f1;refine (occupied_any B M S R c d y A cap bk t.site e.level (t.level-1) _ (hBz.out _ hJ.out.bel)).mono ?_;rintro e9 wq ⟨rfl,hbn⟩;rw[ho.out];replace hJ:=Lib.hid (hJ.out.below hbn);clear hbn)
     |(refine wpList_store_box rfl 38 (.tmp 4) (.tmp 145) rfl (w.heap.size+1) _ [.string ⟨#[]⟩,.int .i64 0,.string ⟨#[]⟩,.int .i64 0,.int .i64 0,.int .i64 0] (by rfl) (by rfl) hJ.out.r rfl ltSz (by kernel_rfl) ?_;intro w4 h4 hg4))
    refine bodyPost_ret (results_mid2 rfl _ _ (w.heap.size+1) [.string ⟨#[]⟩,.int .i64 0,.string ⟨#[]⟩,.int .i64 0,.int .i64 0,.int .i64 0] _ rfl h4.range Tryd.underlying38 rfl ltSz) rfl ?_
    rw[hf.out]
    exact⟨rfl,below_of_grownB hJ.out.bel hg4 (by omega)⟩
   have kq:(s.kind != 0)=true:=by simp[ke]
   rw[if_pos ke] at hfL
   have hf:=hfL
   clear hfL ke
   go_wp2_with (refine wpList_store_box rfl 38 (.tmp 4) (.tmp 127) rfl (w.heap.size+1) _ [.string ⟨#[]⟩,.int .i64 0,.string ⟨#[]⟩,.int .i64 0,.int .i64 0,.int .i64 0] (by rfl) (by rfl) hJ.out.r rfl ltSz (by kernel_rfl) ?_;intro w4 h4 hg4)
   refine bodyPost_ret (results_mid2 rfl _ _ (w.heap.size+1) [.string ⟨#[]⟩,.int .i64 0,.string ⟨#[]⟩,.int .i64 0,.int .i64 0,.int .i64 0] _ rfl h4.range Tryd.underlying38 rfl ltSz) rfl ?_
   rw[hf.out]
   exact⟨rfl,below_of_grownB hJ.out.bel hg4 (by omega)⟩
  have qs:(t.state != 1)=true:=by simp[hs1]
  have hf:Hid (Cal.bkErr y bk e=(Cal.lot0,28)):=by show _=_;rw[hfE.out];simp[hs1]
  clear hfE hk hs1
  go_wp2_with (refine wpList_store_box rfl 38 (.tmp 4) (.tmp 112) rfl (w.heap.size+1) _ [.string ⟨#[]⟩,.int .i64 0,.string ⟨#[]⟩,.int .i64 0,.int .i64 0,.int .i64 0] (by rfl) (by rfl) hJ.out.r rfl ltSz (by kernel_rfl) ?_;intro w4 h4 hg4)
  refine bodyPost_ret (results_mid2 rfl _ _ (w.heap.size+1) [.string ⟨#[]⟩,.int .i64 0,.string ⟨#[]⟩,.int .i64 0,.int .i64 0,.int .i64 0] _ rfl h4.range Tryd.underlying38 rfl ltSz) rfl ?_
  rw[hf.out]
  exact⟨rfl,below_of_grownB hJ.out.bel hg4 (by omega)⟩
end Go.Proofs.YtcnfhnndppollaaDoor
