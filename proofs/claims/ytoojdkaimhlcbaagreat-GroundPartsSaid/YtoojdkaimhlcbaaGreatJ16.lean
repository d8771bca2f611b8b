/- What the statements rest on: definitions and walks, part 16. -/
import Derived.Test.YtoojdkaimhlcbaaGreatJ15
set_option maxRecDepth 100000
set_option maxHeartbeats 16000000
set_option linter.unusedSimpArgs false
set_option linter.unusedVariables false
namespace Go.Proofs.YtoojdkaimhlcbaaGreat
open Go Go.RowKit Go.Shelf
attribute [local go_sem] Oper.semAt_some
theorem pieces_any (Vp Vo:Option Addr) (np dp no do_:Nat) (w:World) :
  Calls Tryz.prog 74 #[.slice Vp np dp,.slice Vo no do_] w fun e w'=>e=.returned (.func (.func 92) #[] #[.pointer (some ⟨w.heap.size,0,none⟩),.pointer (some ⟨w.heap.size+1,0,none⟩)])∧w'=(w.alloc (.cells #[.slice Vp np dp] 44)).alloc (.cells #[.slice Vo no do_] 44):=by
 go_enter Tryz.func74,Tryz.ntmps74
 go_wp2
 go_ret
 exact⟨rfl,rfl⟩
theorem rowsAt_belowN {n₀:Nat} {w w':World} {V:Option Addr} {l:List Pt} (h:RowsAt w V 2 (l.map ptR)) (hV:∀ ad,V=some ad→0<l.length→ad.block<n₀) (hb:Below n₀ w w'):RowsAt w' V 2 (l.map ptR):=fun j r hr=>by
 obtain⟨b,o,hA,hlt,hc⟩:=h j r hr
 have hj:j<l.length:=by have:=(List.getElem?_eq_some_iff.1 hr).1;rwa [List.length_map] at this
 have hbn:=hV _ hA (by omega)
 exact⟨b,o,hA,Nat.lt_of_lt_of_le hlt hb.size,fun i v hv=>(hb.cell (p:=⟨b,o+(j*2+i),none⟩) hbn).trans (hc i v hv)⟩
theorem pieces_ix (Bp Bo n₀:Nat) (Vp Vo:Option Addr) (dp do_:Nat) (ps os:List Pt) (w:World) (hBp:w.cell? ⟨Bp,0,none⟩=some (.slice Vp ps.length dp)) (hBo:w.cell? ⟨Bo,0,none⟩=some (.slice Vo os.length do_))
  (hBpw:Bp<w.heap.size) (hBow:Bo<w.heap.size) (hP:PtsV w Vp ps) (hO:PtsV w Vo os) (hVp:∀ ad,Vp=some ad→0<ps.length→ad.block<n₀) (hVo:∀ ad,Vo=some ad→0<os.length→ad.block<n₀) (hn0:n₀≤w.heap.size)
  (hos:os.length≤10) (hnd:∀ i,i<ps.length→(Cal.sd ps i).a≠(Cal.sd ps i).b) :
  SeqIx Fence.wide 8 Tryz.prog 92 #[.pointer (some ⟨Bp,0,none⟩),.pointer (some ⟨Bo,0,none⟩)] pcE AbM (KpP n₀ Bp Bo) (Cal.pcsP ps os) w:=by
 intro l J Jx W hW hJ hJx hY h0
 show CallsIn Fence.wide 8 Tryz.prog 92 _ W (IxPost (Cal.pcsP ps os).length J Jx)
 have hWz:=hW.size
 have hBpW:Bp<W.heap.size:=by omega
 have hBoW:Bo<W.heap.size:=by omega
 have hneB:¬Bp=W.heap.size:=by omega
 have p0:=(hW.cell (p:=⟨Bp,0,none⟩) hBpw).trans hBp
 have hJx:=Lib.hid hJx
 have hJz:=Lib.hid hJ
 have hYz:=Lib.hid hY
 clear hY hJ
 refine callsIn_of_wp_marks Tryz.func92 rfl trivial ?_ rfl
 simp only[Tryz.ntmps92,List.size_toArray,List.length_cons,List.length_nil,Nat.reduceAdd,Nat.reduceSub,Array.replicate_succ,Array.replicate_zero,List.push_toArray,List.append_toArray,List.nil_append,List.cons_append]
 gi_wp2_with (refine⟨trivial,?_⟩;gi_at_call 52;refine (callsIn_wide.2 (sides_any _ _ _ _)).mono ?_;rintro e w' ⟨rfl,rfl⟩)
 have bY:=(BoxAt.new W #[.func (.yield l) #[] #[]] 148).alloc (.cells #[.slice Vp ps.length dp] 44)
 have bS:=BoxAt.new (W.alloc (.cells #[.func (.yield l) #[] #[]] 148)) #[.slice Vp ps.length dp] 44
 have hB0:Below W.heap.size W ((W.alloc (.cells #[.func (.yield l) #[] #[]] 148)).alloc (.cells #[.slice Vp ps.length dp] 44)):=below_step (below_alloc _ _) (below_alloc _ _)
 have hs0:(((W.alloc (.cells #[.func (.yield l) #[] #[]] 148)).alloc (.cells #[.slice Vp ps.length dp] 44))).heap.size=W.heap.size+2:=by simp
 simp only[World.size_alloc] at bS
 obtain⟨W0,hW0⟩:∃ W0,((W.alloc (.cells #[.func (.yield l) #[] #[]] 148)).alloc (.cells #[.slice Vp ps.length dp] 44))=W0:=⟨_,rfl⟩
 rw[hW0] at bY bS hB0 hs0 ⊢
 clear hW0
 have hPW:=hP.below hW
 have hOW:=hO.below hW
 have hb0:Below n₀ W W0:=hB0.mono (by omega)
 refine wpIn_sides1 (Bs:=W.heap.size+1) (n₀:=n₀) (V:=Vp) (d:=dp) (ps:=ps) (by omega) rfl rfl (bS.c 0 _ rfl) (by omega) (hPW.pts.below hB0) (by omega) hVp
  (PcI W n₀ Bp Bo l J ps os) (PcX Jx (Cal.pcsP ps os).length) (pcI_own hJz.out (by omega) (by omega) hBpW hBoW) (pcX_own hJx.out (by omega))
  ⟨hJz.out _ _ _ h0 (AbM.of hB0),bY,hb0,⟨hB0.block _ hBpW,hB0.block _ hBoW⟩,by omega⟩
  (fun T k t By=>((T.setIfInBounds 12 (.int .i64 (k:Int))).setIfInBounds 13 (.agg #[.int .i64 t.a.x,.int .i64 t.a.y,.int .i64 t.b.x,.int .i64 t.b.y])).setIfInBounds 5 (.pointer (some ⟨By,0,none⟩)))
  ?assign ?body ?done ?stop
 case assign =>
  rintro l2 k Y K hk hI hK
  gi_wp2
  obtain⟨h1,h2,h3,h4,h5⟩:=hI
  have hba:=below_alloc Y (.cells #[.int .i64 (Cal.sd ps k).a.x,.int .i64 (Cal.sd ps k).a.y,.int .i64 (Cal.sd ps k).b.x,.int .i64 (Cal.sd ps k).b.y] 105)
  exact hK Y.heap.size _ (by omega) ((KeepsOthers.alloc _ _).from _) (KpS.below hba (by omega) (by omega)) ⟨hJz.out _ _ _ h1 (AbM.of (hba.mono (by omega))),h2.below hba,h3.trans (hba.mono (by omega)),h4.trans ⟨hba.block _ (by omega),hba.block _ (by omega)⟩,by simp;omega⟩ (BoxAt.new Y #[.int .i64 (Cal.sd ps k).a.x,.int .i64 (Cal.sd ps k).a.y,.int .i64 (Cal.sd ps k).b.x,.int .i64 (Cal.sd ps k).b.y] _)
 case body =>
  rintro l2 k Bx Y hl2 ⟨r,hr⟩ hk hI hBx bX
  simp only[List.setIfInBounds_toArray,List.set_cons_zero,List.set_cons_succ]
  have hsd:=hPW.pts.sd k hk
  have hndk:=hnd k hk
  have hpn:=pcN_succ (os:=os) hk
  have hpa:=Lib.hid (fun q hq=>pc_at (ps:=ps) (os:=os) (q:=q) hk hq)
  obtain⟨e0,e1,e2,e3⟩:=bX.c4
  obtain⟨s,hs⟩:∃ s,Cal.sd ps k=s:=⟨_,rfl⟩
  rw[hs] at e0 e1 e2 e3 hsd hndk bX hpn hpa ⊢
  clear hs
  have hIz:=Lib.hid hI
  have bXz:=Lib.hid bX
  have hpn:=Lib.hid hpn
  have hz5:=hI.2.2.2.2
  have o0:Y.cell? ⟨Bo,0,none⟩=some (.slice Vo os.length do_):=(hI.2.2.2.1.other).trans ((hW.cell (p:=⟨Bo,0,none⟩) hBow).trans hBo)
  have hneO:¬Bo=Y.heap.size:=by omega
  have hBoY:Bo<Y.heap.size:=by omega
  have hOY:=Lib.hid (fun (Z:World) (h:Below Y.heap.size Y Z)=>((rowsAt_belowN (hO.below hW).rows hVo hI.2.2.1).below h))
  have hO0:=Lib.hid (PtsO.two Y Y.heap.size s.a s.b (Nat.le_refl _))
  have hb9:Hid (Below Y.heap.size Y (Y.alloc (.cells #[.int .i64 s.a.x,.int .i64 s.a.y,.int .i64 s.b.x,.int .i64 s.b.y] 61))):=below_alloc _ _
  clear hI bX
  gi_wp2
  obtain⟨Y1,hY1⟩:∃ Y1,Y.alloc (.cells #[.int .i64 s.a.x,.int .i64 s.a.y,.int .i64 s.b.x,.int .i64 s.b.y] 61)=Y1:=⟨_,rfl⟩
  rw[hY1] at hO0 hb9 ⊢
  clear hY1
  gi_loopw [21,6] (fun i v wr=>∃ k:Nat,k≤os.length∧i=.int .i64 k∧Hid (PtsO wr Y.heap.size v (s.a :: s.b :: (os.take k).filter (Cal.hasP s)))∧Hid (Below Y.heap.size Y wr)) (fun i _ _=>os.length-(intOf i).toNat)
  case atStart=>exact⟨0,Nat.zero_le _,rfl,hO0,hb9⟩
  case round =>
   clear hO0 hb9
   obtain⟨j,hj,rfl,hA,hB⟩:=hrel
   by_cases hlt:j<os.length
   ·have hk':os[j]?=some os[j]:=List.getElem?_eq_getElem hlt
    have hsm:=(hO.sm _ (List.getElem_mem hlt)).sm
    have htk:os.take (j+1)=os.take j ++ [os[j]]:=List.take_succ_eq_append_getElem hlt
    have hfl:((os.take j).filter (Cal.hasP s)).length≤10:=by
     have h1:=List.length_filter_le (Cal.hasP s) (os.take j)
     rw[List.length_take] at h1
     omega
    obtain⟨b,o,hVo2,hbl,c0,c1⟩:=pts_at (hOY.out wr hB.out) hk'
    subst hVo2
    clear hk'
    generalize os[j]=q at *
    obtain⟨ht,hht0⟩:∃ t,Cal.hasP s q=t:=⟨_,rfl⟩
    have hba:Below wr.heap.size wr (wr.alloc (.cells #[.int .i64 q.x,.int .i64 q.y] 61)):=below_alloc _ _
    have hQ1:=Lib.hid (BoxAt.new wr #[.int .i64 q.x,.int .i64 q.y] 61)
    have hX1:=Lib.hid ((bXz.out.below hB.out).below hba)
    have hA1:=Lib.hid (OwnL.below hA.out hba)
    have hB1:=Lib.hid (below_step hB.out hba)
    have x0:=((bXz.out.below hB.out).below hba).c 0 _ rfl
    have x1:=((bXz.out.below hB.out).below hba).c 1 _ rfl
    have x2:=((bXz.out.below hB.out).below hba).c 2 _ rfl
    have x3:=((bXz.out.below hB.out).below hba).c 3 _ rfl
    have z0:=(bXz.out.below hB.out).c 0 _ rfl
    have z1:=(bXz.out.below hB.out).c 1 _ rfl
    have z2:=(bXz.out.below hB.out).c 2 _ rfl
    have z3:=(bXz.out.below hB.out).c 3 _ rfl
    have hBxr:Bx<wr.heap.size:=(bXz.out.below hB.out).lt
    have hht:=Lib.hid hht0
    clear hht0 hA hB hba
    cases ht
    ·have hft:Hid ((os.take (j+1)).filter (Cal.hasP s)=(os.take j).filter (Cal.hasP s)):=by show _=_;rw[htk,List.filter_append];simp[hht.out]
     clear htk
     gi_wp2_with (refine⟨trivial,?_⟩;gi_at_call 76;refine (callsIn_wide.2 (has_any s q _ hsd hsm)).mono ?_;rintro e wn ⟨rfl,hbn⟩;rw[hht.out];have hA2:=Lib.hid (OwnL.below hA1.out hbn);have hB2:=Lib.hid (below_step hB1.out hbn);clear hbn)
     go_roundw
     case rel=>exact⟨j+1,by omega,by go_num,by rw[hft.out];exact hA2.out,hB2.out⟩
     case measure=>simp[intOf];omega
    have hft:Hid ((s.a :: s.b :: (os.take (j+1)).filter (Cal.hasP s)).map ptR=(s.a :: s.b :: (os.take j).filter (Cal.hasP s)).map ptR ++ [q].map ptR):=by show _=_;rw[htk,List.filter_append];simp[hht.out]
    clear htk
    gi_wp2_with (first
     |(refine⟨trivial,?_⟩;gi_at_call 76;refine (callsIn_wide.2 (has_any s q _ hsd hsm)).mono ?_;rintro e wn ⟨rfl,hbn⟩;rw[hht.out];have hA2:=Lib.hid (OwnL.below hA1.out hbn);have hB2:=Lib.hid (below_step hB1.out hbn);have hQ2:=Lib.hid (hQ1.out.below hbn);clear hbn x0 x1 x2 x3;obtain⟨g0,g1⟩:=hQ2.out.c2;have hA3:=Lib.hid (OwnL.below hA2.out (below_alloc wn (.cells #[.int .i64 q.x,.int .i64 q.y] 61)));have hB3:=Lib.hid (below_step hB2.out (below_alloc wn (.cells #[.int .i64 q.x,.int .i64 q.y] 61)));have hsrc:=Lib.hid (rowsAt_new wn (ptR q) 61);have hYn:=hB3.out.size)
     |(gi_at_builtin;refine wpListF_append_rows elemPt rfl _ _ rfl rfl rfl hA3.out (rows2:=[q].map ptR) hsrc.out rfl (ptR_wid [q]) (ptR_one [q]) (by simp only[List.length_map,List.length_cons,List.length_nil];omega) (by decide) hYn ?_;intro v' w5 hown5 hg5 _;have hA5:=Lib.hid hown5;have hB5:=Lib.hid (hB3.out.trans (grown_below hg5 (fun g e=>(OwnL.lt hA3.out g e).1) hYn));clear hown5 hg5))
    go_roundw
    case rel=>exact⟨j+1,by omega,by go_num,by show OwnL _ _ _ _ _ _;rw[hft.out];exact hA5.out,hB5.out⟩
    case measure=>simp[intOf];omega
   obtain rfl:j=os.length:=by omega
   rw[List.take_length] at hA
   obtain⟨L,hL⟩:∃ L,L=s.a :: s.b :: os.filter (Cal.hasP s):=⟨_,rfl⟩
   have hL2:2≤L.length:=by rw[hL];simp
   have hL12:L.length≤12:=by
    have h1:=List.length_filter_le (Cal.hasP s) os
    rw[hL];simp only[List.length_cons];omega
   have hsmL:∀ p∈L,SmP p:=fun p hp=>by
    rw[hL] at hp
    rcases List.mem_cons.1 hp with e | hp
    ·rw[e];exact hsd.a
    rcases List.mem_cons.1 hp with e | hp
    ·rw[e];exact hsd.b
    exact (hO.sm p (List.mem_filter.1 hp).1).sm
   rw[←hL] at hA
   obtain⟨M,c,rfl,hAt,hcap,hM⟩:=PtsO.atP hA.out (by omega)
   have hkpL:=Lib.hid (fun l' (h:l'.Perm L) (h2:SrtTo s l' l'.length)=>kp_atP (other:=os) hndk (by rw[←hL];exact h) h2)
   have hRlt:Hid (∀ p∈Cal.atP s os,SmP p):=fun p hp=>by
    have hm:p∈s.a :: s.b :: os.filter (Cal.hasP s):=by
     have:=(fold_insP hndk (s.a :: s.b :: os.filter (Cal.hasP s)) [] (fun p hp=>by
      rcases List.mem_cons.1 hp with e | hp
      ·rw[e];exact Cal.crs_a s
      rcases List.mem_cons.1 hp with e | hp
      ·rw[e];exact Cal.crs_b s
      exact Cal.hasP_crs (List.mem_filter.1 hp).2) (fun p hp=>by cases hp) List.Pairwise.nil).2 p
     rcases this.1 hp with h | h
     ·cases h
     exact h
    rw[←hL] at hm
    exact hsmL p hm
   clear hL
   obtain⟨n6,hn6⟩:∃ n6,n6=L.length:=⟨_,rfl⟩
   have hAt:=Lib.hid hAt
   have hn6z:=Lib.hid hn6
   have hsrt:=Lib.hid (fun W (h:AtP W M L)=>SortFunc_small s M c L W h hsd hsmL hL12)
   rw[←hn6] at hsrt hL2 hL12 hcap ⊢
   clear hA hn6
   have z0:=(bXz.out.below hB.out).c 0 _ rfl
   have z1:=(bXz.out.below hB.out).c 1 _ rfl
   have z2:=(bXz.out.below hB.out).c 2 _ rfl
   have z3:=(bXz.out.below hB.out).c 3 _ rfl
   have hBxr:Bx<wr.heap.size:=(bXz.out.below hB.out).lt
   gi_wp2
   refine⟨trivial,?_⟩
   refine (callsIn_wide.2 (hsrt.out _ hAt.out)).mono ?_
   rintro e w7 ⟨rfl,l',h1,h2,h3,h4⟩
   have hl':l'.length=n6:=by rw[h2.length_eq,hn6z.out]
   have hcp:=Compact_any M c l' w7 h1 (by omega) (by omega) (by omega)
   have hkp:=hkpL.out l' h2 h3
   rw[hl'] at hcp hkp
   rw[hkp] at hcp
   have hcp:=Lib.hid hcp
   have hRl:(Cal.atP s os).length≤12:=by rw[←hkp];exact Nat.le_trans (kp_length l' n6) hL12
   have hB7:=Lib.hid (hB.out.grown h4 (by have:=hB.out.size;omega) (fun k e=>by cases e;exact hM))
   clear h1 h2 h3 h4 hl' hkp z0 z1 z2 z3
   gi_wp2
   refine⟨trivial,?_⟩
   refine (callsIn_wide.2 hcp.out).mono ?_
   rintro e w8 ⟨rfl,h1,h2⟩
   have hA8:=Lib.hid h1
   have hB8:=Lib.hid (hB7.out.grown h2 (by have:=hB7.out.size;omega) (fun k e=>by cases e;exact hM))
   clear h1 h2 hcp hsrt
   gi_wp2
   have hJ8:Hid (J (pcN ps os k+(1-1)) w8):=hJz.out _ _ _ hIz.out.1 (AbM.of (hB8.out.mono (by omega)))
   have hK8:Hid (KpP n₀ Bp Bo W.heap.size w8 w8):=KpP.refl _ _ _ _ _
   have hb8z:=hB8.out.size
   have hY8:=Lib.hid (hIz.out.2.1.below (hB8.out))
   have hX8:=Lib.hid (bXz.out.below (hB8.out))
   obtain⟨R,hR⟩:∃ R,Cal.atP s os=R:=⟨_,rfl⟩
   have hpcF:Hid (pcF os s=Cal.pcsOf s R):=by show _=_;unfold pcF;rw[hR]
   rw[hR] at hRl hRlt hA8 ⊢
   clear hR
   have hAlt:=hA8.out.lt
   gi_loopw [9] (fun i Z=>∃ j:Nat,1≤j∧j≤max 1 R.length∧i=.int .i64 j∧Hid (J (pcN ps os k+(j-1)) Z)∧Hid (KpP n₀ Bp Bo W.heap.size w8 Z)) (fun i _=>R.length-(intOf i).toNat)
   case atStart=>exact⟨1,Nat.le_refl _,by omega,rfl,hJ8,hK8⟩
   case round =>
    clear hJ8 hK8
    obtain⟨j,hj1,hj2,rfl,hJj,hK⟩:=hrel
    by_cases hlt:j<R.length
    ·have hAj:=Lib.hid (hA8.out.ofBlock (hK.out.2.1.same M (by omega) hAlt) hK.out.2.1.size)
     have hYj:=Lib.hid (hY8.out.ofBlock (hK.out.2.1.same _ (by omega) hY8.out.lt) hK.out.2.1.size)
     have hXj:=Lib.hid (hX8.out.ofBlock (hK.out.2.1.same _ (by omega) hX8.out.lt) hK.out.2.1.size)
     obtain⟨a0,a1⟩:=hAj.out.at_ (show j-1<R.length by omega)
     obtain⟨b0,b1⟩:=hAj.out.at_ hlt
     have y0:=hYj.out.c 0 _ rfl;obtain⟨z0,z1,z2,z3⟩:=hXj.out.c4
     have hsp:=sm_at hRlt.out (show j-1<R.length by omega)
     have hsq:=sm_at hRlt.out hlt
     have hw1:IntKind.i64.wrap ((j:Int)-1)=(j:Int)-1:=wrap_small (by omega) (by omega)
     have ht1:((j:Int)-1).toNat=j-1:=by omega
     have ht2:(1:Int)≤(j:Int):=by omega
     have ht3:(j:Int)-1<(R.length:Int):=by omega
     have ht4:(0:Int)≤(j:Int)-1:=by omega
     have ht5:(j:Int)<(R.length:Int):=by omega
     have ht7:j-1<R.length:=by omega
     have hpc:Hid ((Cal.pcsP ps os)[pcN ps os k+(j-1)]?=some ⟨⟨(ptAt R (j-1)).x+(ptAt R j).x,(ptAt R (j-1)).y+(ptAt R j).y⟩,s⟩):=by
      show _=_
      have h1:j-1<(pcF os s).length:=by rw[hpcF.out,pcsOf_length];omega
      rw[hpa.out _ h1,hpcF.out]
      have h2:=pcsOf_at s R (j-1) (by omega)
      rw[show j-1+1=j by omega] at h2
      exact h2
     generalize ptAt R (j-1)=p at *
     generalize ptAt R j=q at *
     have hx:=hsp.x0;have hx1:=hsp.x1;have hx2:=hsp.y0;have hx3:=hsp.y1
     have hy:=hsq.x0;have hy1:=hsq.x1;have hy2:=hsq.y0;have hy3:=hsq.y1
     have hw2:IntKind.i64.wrap (p.x+q.x)=p.x+q.x:=wrap_small (by omega) (by omega)
     have hw3:IntKind.i64.wrap (p.y+q.y)=p.y+q.y:=wrap_small (by omega) (by omega)
     gi_wp2
     refine wpIn_region_heldY (S:=Sx wr [(W.heap.size,0,.func (.yield l) #[] #[]),(M,(j-1)*2,.int .i64 p.x),(M,(j-1)*2+1,.int .i64 p.y),(M,j*2,.int .i64 q.x),(M,j*2+1,.int .i64 q.y),(Bx,0,.int .i64 s.a.x),(Bx,1,.int .i64 s.a.y),(Bx,2,.int .i64 s.b.x),(Bx,3,.int .i64 s.b.y)]) 32 (by kernel_rfl) (Sx.mk (by simp only[cs_iff_cons];exact⟨y0,a0,a1,b0,b1,z0,z1,z2,z3,cs_nil _⟩) (Below.refl _ _)).drew (fun hHeld=>?_)
     refine tkYx 0 45 ?_
     refine tkYx 1 46 ?_
     refine tkYx 2 47 ?_
     refine tkYx 3 48 ?_
     refine tkYx 4 49 ?_
     refine tkYx 5 50 ?_
     refine tkYx 6 51 ?_
     refine tkYx 7 52 ?_
     refine tkYx 8 53 ?_
     refine tkYx 9 54 ?_
     refine tkYx 10 55 ?_
     refine tkYx 11 56 ?_
     refine tkYx 12 57 ?_
     refine tkYx 13 58 ?_
     refine tkYx 14 59 ?_
     refine tkYx 15 60 ?_
     refine tkYx 16 61 ?_
     refine tkYx 17 62 ?_
     refine tkYx 18 63 ?_
     refine tkYx 19 64 ?_
     refine tkYx 20 65 ?_
     refine tkYx 21 66 ?_
     refine tkYx 22 67 ?_
     refine tkYx 23 68 ?_
     refine tkYx 24 69 ?_
     refine tkYx 25 70 ?_
     refine tkYx 26 71 ?_
     refine tkYx 27 72 ?_
     refine tkYx 28 73 ?_
     refine tkYx 29 74 ?_
     (refine ratY 30 (fun _=>trivial) (by decide +kernel) rfl (fun K hK=>?_);rw[if_pos (by kernel_rfl)];go_simp)
     refine⟨trivial,?_⟩
     refine (callsIn_wide.2 (to_any s.a s.b _ hsd.a hsd.b)).mono ?_
     rintro e wn ⟨rfl,hbn⟩
     go_simp
     (refine hK.out _ _ (hHeld.step hbn) (fun hHeld=>?_);clear hK K;(try simp only[apS,apN,siA,scZ,scS]))
     refine tkYx 31 76 ?_
     refine ratYc 32 (fun _=>trivial) (by decide +kernel) rfl (by decide +kernel) (fun K hK'=>?_)
     rw[if_pos (by kernel_rfl)]
     have hbz:=Lib.hid hHeld.bel
     have hy1:=yield_wide (m':=5) (l0:=l2) (hYz.out _ _ wn hpc.out (hJz.out _ _ _ hJj.out (AbM.of (hHeld.bel.mono (by have:=hK.out.2.1.size;omega)))))
     obtain⟨fn,tmps,assign,body,hy,hR⟩:=hy1
     dsimp only[pcE] at hy
     go_simp
     refine hR.mono ?_
     clear hy hR
     rintro e w2 (⟨rfl,hJ2,hKp⟩ | ⟨rfl,hJx2,hKp⟩)
     ·dsimp only
      refine hK'.out _ _ ?_
      clear hK' K
      (try simp only[Act.put,List.setIfInBounds_toArray]);(try simp only[List.set_cons_zero,List.set_cons_succ])
      refine ratYc 33 (fun _=>trivial) (by decide +kernel) rfl (by decide +kernel) (fun K hK'=>?_)
      rw[if_pos (by kernel_rfl)]
      go_simp
      refine hK'.out _ _ ?_
      clear hK' K
      (try simp only[Act.put,List.setIfInBounds_toArray]);(try simp only[List.set_cons_zero,List.set_cons_succ])
      refine wpAnyInY_done (by decide +kernel) ?_ _
      have hJ2:=Lib.hid hJ2
      have hKn:=Lib.hid (hK.out.trans ((KpP.below hbz.out (by have:=hK.out.2.1.size;omega) (by have:=hK.out.2.1.size;omega) (by have:=hK.out.2.1.size;omega)).trans hKp))
      gi_wp2
      go_roundw
      case rel=>exact⟨j+1,by omega,by omega,by go_num,by show J _ _;have h:=hJ2.out;rw[show pcN ps os k+(j-1)+1=pcN ps os k+(j+1-1) by omega] at h;exact h,hKn.out⟩
      case measure=>simp[intOf];omega
     dsimp only
     refine hK'.out _ _ ?_
     clear hK' K
     (try simp only[Act.put,List.setIfInBounds_toArray]);(try simp only[List.set_cons_zero,List.set_cons_succ])
     refine ratYc 33 (fun _=>trivial) (by decide +kernel) rfl (by decide +kernel) (fun K hK'=>?_)
     rw[if_pos (by kernel_rfl)]
     go_simp
     refine hK'.out _ _ ?_
     clear hK' K
     (try simp only[Act.put,List.setIfInBounds_toArray]);(try simp only[List.set_cons_zero,List.set_cons_succ])
     refine wpAnyInY_done (by decide +kernel) ?_ _
     have hJx2:=Lib.hid hJx2
     have hKn:=Lib.hid (hK.out.trans ((KpP.below hbz.out (by have:=hK.out.2.1.size;omega) (by have:=hK.out.2.1.size;omega) (by have:=hK.out.2.1.size;omega)).trans hKp))
     gi_wp2
     obtain⟨k1,k2,k3⟩:=hKn.out
     refine⟨((keepsF_below hB8.out).from _).trans ⟨k2.size,fun i o hi hio _=>(k2.same i (by omega) (Array.getElem?_eq_some_iff.1 hio).1).trans hio⟩,⟨((hB8.out.mono (by omega)).trans k1),(k2.same _ (by omega) (by omega)).trans (hB8.out.block _ (by omega))⟩,rfl,_,(List.getElem?_eq_some_iff.1 hpc.out).1,hJx2.out⟩
    have hend:Hid (pcN ps os k+(j-1)=pcN ps os (k+1)):=by
     show _=_
     rw[hpn.out,hpcF.out,pcsOf_length]
     omega
    gi_wp2
    obtain⟨h1,h2,h3,h4,h5⟩:=hIz.out
    obtain⟨k1,k2,k3⟩:=hK.out
    have hs2:=k2.size
    rw[hend.out] at hJj
    refine⟨?_,⟨((hB8.out.mono (by omega)).trans k1),(k2.same _ (by omega) (by omega)).trans (hB8.out.block _ (by omega))⟩,hJj.out,hY8.out.ofBlock (k2.same _ (by omega) hY8.out.lt) k2.size,h3.trans ((hB8.out.mono (by omega)).trans k1),(h4.trans ⟨hB8.out.block _ (by omega),hB8.out.block _ (by omega)⟩).trans k3,by omega⟩
    exact ((keepsF_below hB8.out).from _).trans ⟨k2.size,fun i o hi hio _=>(k2.same i (by omega) (Array.getElem?_eq_some_iff.1 hio).1).trans hio⟩
 case done =>
  rintro D Y hD hI hK
  have hend:=Lib.hid (pcN_all ps os)
  have hall:=Lib.hid hI
  have hK:=Lib.hid hK
  clear hI
  gi_wp2
  refine⟨by simp,.inl ⟨_,_,rfl,run_takeDeferred hK.out,?_⟩⟩
  obtain⟨h1,h2,h3,h4,h5⟩:=hall.out
  rw[hend.out] at h1
  exact⟨_,results_none rfl _ _ _,⟨_,rfl⟩,.inl (hJz.out _ _ _ h1 (AbM.of ((Below.refl _ _).grown (grownBy_putObj' Y D (.deferred none)) (by omega) (fun k e=>by cases e;omega))))⟩
 case stop =>
  rintro D c k Y hD hk ⟨rfl,j,hj,hx⟩ hK
  have hx:=Lib.hid hx
  have hK:=Lib.hid hK
  gi_wp2
  refine⟨by simp,.inl ⟨_,_,rfl,run_takeDeferred hK.out,?_⟩⟩
  exact⟨_,results_none rfl _ _ _,⟨_,rfl⟩,.inr ⟨j,hj,hJx.out _ _ _ hx.out ((Below.refl _ _).grown (grownBy_putObj' Y D (.deferred none)) (Nat.min_le_right _ _) (fun k e=>by cases e;exact Nat.le_trans (Nat.min_le_left _ _) (by omega)))⟩⟩
end Go.Proofs.YtoojdkaimhlcbaaGreat
namespace Go.Proofs.YtoojdkaimhlcbaaGreat
open Go Go.RowKit Go.Shelf
attribute [local go_sem] Oper.semAt_some
section
variable {g : Operand} {qs : Array Tmp} {assign body : Code} {Q : Exit → Act → World → Prop} {a : Act} {w : World} {Bp Bo n₀ : Nat} {Vp Vo : Option Addr} {dp do_ : Nat} {ps os : List Pt}
theorem wpIn_range_pieces (hg:a.eval g=.func (.func 92) #[] #[.pointer (some ⟨Bp,0,none⟩),.pointer (some ⟨Bo,0,none⟩)]) (hq:qs.size=1)
  (hBp:w.cell? ⟨Bp,0,none⟩=some (.slice Vp ps.length dp)) (hBo:w.cell? ⟨Bo,0,none⟩=some (.slice Vo os.length do_)) (hBpw:Bp<w.heap.size) (hBow:Bo<w.heap.size)
  (hP:PtsV w Vp ps) (hO:PtsV w Vo os) (hVp:∀ ad,Vp=some ad→0<ps.length→ad.block<n₀) (hVo:∀ ad,Vo=some ad→0<os.length→ad.block<n₀) (hn0:n₀≤w.heap.size)
  (hos:os.length≤10) (hnd:∀ i,i<ps.length→(Cal.sd ps i).a≠(Cal.sd ps i).b)
  (I:Nat→World→Prop) (Ix:Code→Nat→World→Prop) (hI:OwnFrom w.heap.size I) (hIx:∀ c,OwnFrom w.heap.size (Ix c))
  (hIA:∀ k X Y,I k X→AbM (w.heap.size+1+1) X Y→I k Y) (hIxA:∀ c k X Y,Ix c k X→AbM (w.heap.size+1+1) X Y→Ix c k Y) (h0:I 0 w)
  (Af:Array Value→Cal.Pc→Nat→Array Value)
  (hassign:∀ (l:Nat) (k:Nat) (x:Cal.Pc) (W:World) (K:Act→World→Prop),(Cal.pcsP ps os)[k]?=some x→I k W→(∀ By W',w.heap.size≤By→KeepsFrom w.heap.size W W'→KpP n₀ Bp Bo (w.heap.size+1+1) W W'→I k W'→BoxAt W' By [.int .i64 x.mid.x,.int .i64 x.mid.y,.int .i64 (x.of.b.x-x.of.a.x),.int .i64 (x.of.b.y-x.of.a.y)]→K { tmps:=Af a.tmps x By,defers:=[] } W') →
   assign.wpIn (Fence.wide.inRound l) (9-1-1) Tryz.prog (Exit.then K (fun _ _ _=>False)) { tmps:=(qs.zip #[.agg #[.int .i64 x.mid.x,.int .i64 x.mid.y,.int .i64 (x.of.b.x-x.of.a.x),.int .i64 (x.of.b.y-x.of.a.y)]]).foldl (fun t (p,v)=>t.setIfInBounds p v) a.tmps,defers:=[] } W)
  (hbody:∀ (l:Nat) (k:Nat) (x:Cal.Pc) (By:Nat) (W:World),w.heap.size≤l→(∃ r,W.heap[l]?=some (.loop r))→(Cal.pcsP ps os)[k]?=some x→I k W→w.heap.size≤By→BoxAt W By [.int .i64 x.mid.x,.int .i64 x.mid.y,.int .i64 (x.of.b.x-x.of.a.x),.int .i64 (x.of.b.y-x.of.a.y)]→body.wpIn (Fence.wide.inRound l) (9-1-1) Tryz.prog (ixPost w.heap.size (KpP n₀ Bp Bo (w.heap.size+1+1)) (I (k+1)) (fun c=>Ix c k) W) { tmps:=Af a.tmps x By,defers:=[] } W)
  (hdone:∀ (D:Nat) (W:World),w.heap.size≤D→I (Cal.pcsP ps os).length W→W.heap[D]?=some (.deferred (some []))→Q .normal { a with defers:={ target:=.collected D,args:=#[] } :: a.defers } W)
  (hstop:∀ (D:Nat) (c:Code) (k:Nat) (W:World),w.heap.size≤D→k<(Cal.pcsP ps os).length→Ix c k W→W.heap[D]?=some (.deferred (some []))→c.wpIn Fence.wide 9 Tryz.prog Q { a with defers:={ target:=.collected D,args:=#[] } :: a.defers } W) :
  (Code.rangeFunc g qs assign body).wpIn Fence.wide 9 Tryz.prog Q a w :=
 wpIn_rangeFunc_ix rfl (by omega) hg trivial (enters_of Tryz.func92 (by kernel_rfl) rfl)
  (pieces_ix Bp Bo n₀ Vp Vo dp do_ ps os w hBp hBo hBpw hBow hP hO hVp hVo hn0 hos hnd) (fun X Y k o hab hk h _=>(hab.block k (by have:=(Array.getElem?_eq_some_iff.1 h).1;omega)).trans h) KpP.trans
  (fun W l o o' hl hl2 ho _ _=>⟨(Below.refl _ _).grown (grownBy_putObj' W l o') (by have:=(Array.getElem?_eq_some_iff.1 ho).1;omega) (fun k e=>by cases e;omega),⟨by simp,fun b h1 _=>World.putObj_heap_other (by omega)⟩,World.putObj_heap_other (by omega),World.putObj_heap_other (by omega)⟩)
  (Below.refl _ _) (fun x=>hq.symm ▸ rfl) I Ix hI hIx hIA hIxA h0
  (fun x a' W=>∃ By,w.heap.size≤By∧BoxAt W By [.int .i64 x.mid.x,.int .i64 x.mid.y,.int .i64 (x.of.b.x-x.of.a.x),.int .i64 (x.of.b.y-x.of.a.y)]∧a'={ tmps:=Af a.tmps x By,defers:=[] })
  (fun x a' _ X Y row hs hg hr=>by obtain⟨By,e1,e2,e3⟩:=hs;exact⟨By,e1,e2.keptF hg (fun r e=>(hr r e).2),e3⟩)
  (fun l k x W K hx hi hK=>hassign l k x W K hx hi (fun By W' h1 h2 h3 h4 h5=>hK _ _ h2 h3 h4 ⟨By,h1,h5,rfl⟩))
  (fun l k x a' W hl hr hx hi hax=>by obtain⟨By,h1,h2,rfl⟩:=hax;exact hbody l k x By W hl hr hx hi h1 h2)
  hdone hstop
end
end Go.Proofs.YtoojdkaimhlcbaaGreat
namespace Go.Proofs.YtoojdkaimhlcbaaGreat
open Go Go.RowKit Go.Shelf
attribute [local go_sem] Oper.semAt_some
theorem dblP_length (ps:List Pt):(Cal.dblP ps).length=ps.length:=by unfold Cal.dblP;rw[List.length_map]
theorem doubled_any2 (V:Option Addr) (d:Nat) (ps:List Pt) (w:World) (hP:PtsV w V ps) :
  Calls Tryz.prog 73 #[.slice V ps.length d] w fun e w'=>e=.returned (.slice (some ⟨w.heap.size,0,none⟩) (Cal.dblP ps).length (Cal.dblP ps).length)∧Pts w' (some ⟨w.heap.size,0,none⟩) (Cal.dblP ps)∧Below w.heap.size w w' :=
 (doubled_any V d ps w hP).mono fun _ _ ⟨h1,h2,h3⟩=>⟨by rw[h1,dblP_length],h2,h3⟩
theorem whereP_cases (ps:List Pt) (q:Pt):Cal.whereP ps q=1∨Cal.whereP ps q=0∨Cal.whereP ps q=-1:=by
 unfold Cal.whereP
 have:∀ (l:List Sd) (b:Bool),Cal.whereFrom q b l=1∨Cal.whereFrom q b l=0∨Cal.whereFrom q b l=-1:=by
  intro l
  induction l with
  | nil=>intro b;cases b <;> simp[Cal.whereFrom]
  | cons s r ih =>
   intro b
   unfold Cal.whereFrom
   split
   ·exact .inr (.inl rfl)
   exact ih _
 exact this _ _
theorem pcs_sm {ps os:List Pt} (hp:∀ p∈ps,SmV p) (ho:∀ p∈os,SmV p) (hnd:∀ i,i<ps.length→(Cal.sd ps i).a≠(Cal.sd ps i).b) {x:Cal.Pc} (hx:x∈Cal.pcsP ps os):SmP x.mid∧SmS x.of:=by
 unfold Cal.pcsP at hx
 obtain⟨s,hs,hx⟩:=List.mem_flatMap.1 hx
 unfold Cal.sds at hs
 obtain⟨i,hi,rfl⟩:=List.mem_map.1 hs
 have hi:=List.mem_range.1 hi
 have hmod:(i+1) % ps.length<ps.length:=Nat.mod_lt _ (by omega)
 have hsa:SmV (Cal.sd ps i).a:=by rw[sd_of (List.getElem?_eq_getElem hi) (List.getElem?_eq_getElem hmod)];exact hp _ (List.getElem_mem _)
 have hsb:SmV (Cal.sd ps i).b:=by rw[sd_of (List.getElem?_eq_getElem hi) (List.getElem?_eq_getElem hmod)];exact hp _ (List.getElem_mem _)
 have hn:=hnd i hi
 generalize Cal.sd ps i=s at *
 have hm:∀ p∈Cal.atP s os,SmV p:=fun p hp=>by
  have:=(fold_insP hn (s.a :: s.b :: os.filter (Cal.hasP s)) [] (fun p hp=>by
   rcases List.mem_cons.1 hp with e | hp
   ·rw[e];exact Cal.crs_a s
   rcases List.mem_cons.1 hp with e | hp
   ·rw[e];exact Cal.crs_b s
   exact Cal.hasP_crs (List.mem_filter.1 hp).2) (fun p hp=>by cases hp) List.Pairwise.nil).2 p
  rcases this.1 hp with h | h
  ·cases h
  rcases List.mem_cons.1 h with e | h
  ·rw[e];exact hsa
  rcases List.mem_cons.1 h with e | h
  ·rw[e];exact hsb
  exact ho p (List.mem_filter.1 h).1
 have:∀ l:List Pt,(∀ p∈l,SmV p)→∀ x∈Cal.pcsOf s l,SmP x.mid∧x.of=s:=by
  intro l
  induction l with
  | nil=>intro _ x hx;cases hx
  | cons p r ih =>
   cases r with
   | nil=>intro _ x hx;cases hx
   | cons q r =>
    intro hl x hx
    rw[Cal.pcsOf] at hx
    rcases List.mem_cons.1 hx with e | hx
    ·subst e
     obtain⟨a0,a1,a2,a3⟩:=hl p List.mem_cons_self
     obtain⟨b0,b1,b2,b3⟩:=hl q (List.mem_cons_of_mem _ List.mem_cons_self)
     exact⟨by constructor <;> (dsimp only;omega),rfl⟩
    exact ih (fun p h=>hl p (List.mem_cons_of_mem _ h)) x hx
 obtain⟨h1,h2⟩:=this _ hm x hx
 exact⟨h1,by rw[h2];exact⟨hsa.sm,hsb.sm⟩⟩
def enT (x:Cal.Pc) (t:Sd):Bool:=Cal.hasP t x.mid && decide (0<(x.of.b.x-x.of.a.x)*(t.b.x-t.a.x)+(x.of.b.y-x.of.a.y)*(t.b.y-t.a.y))
def enX (ds:List Pt) (x:Cal.Pc):Bool:=if Cal.whereP ds x.mid=1 then true else if Cal.whereP ds x.mid=0 then (Cal.sds ds).any (enT x) else false
theorem sds_any_true {ds:List Pt} {f:Sd→Bool} {j:Nat} (hj:j<ds.length) (h:f (Cal.sd ds j)=true):(Cal.sds ds).any f=true:=by
 rw[List.any_eq_true]
 unfold Cal.sds
 exact⟨_,List.mem_map.2 ⟨j,List.mem_range.2 hj,rfl⟩,h⟩
theorem sds_any_false {ds:List Pt} {f:Sd→Bool} (h:∀ j,j<ds.length→f (Cal.sd ds j)=false):(Cal.sds ds).any f=false:=by
 rw[List.any_eq_false]
 unfold Cal.sds
 rintro x hx
 obtain⟨j,hj,rfl⟩:=List.mem_map.1 hx
 rw[h j (List.mem_range.1 hj)]
 decide
theorem pcs_any_true {l:List Cal.Pc} {f:Cal.Pc→Bool} {k:Nat} {x:Cal.Pc} (hk:l[k]?=some x) (h:f x=true):l.any f=true:=by
 rw[List.any_eq_true]
 exact⟨x,List.mem_of_getElem? hk,h⟩
theorem pcs_any_false {l:List Cal.Pc} {f:Cal.Pc→Bool} (h:∀ k x,k<l.length→l[k]?=some x→f x=false):l.any f=false:=by
 rw[List.any_eq_false]
 rintro x hx
 obtain⟨k,hk,rfl⟩:=List.getElem_of_mem hx
 rw[h k _ hk (List.getElem?_eq_getElem hk)]
 decide
structure RdP (B n₀ Bp Bo:Nat) (W Y:World):Prop where
 keeps:KeepsFrom B W Y
 kp:KpP n₀ Bp Bo (B+1+1) W Y
theorem RdP.trans {B n₀ Bp Bo:Nat} {X Y Z:World} (h:RdP B n₀ Bp Bo X Y) (k:RdP B n₀ Bp Bo Y Z):RdP B n₀ Bp Bo X Z:=⟨h.keeps.trans k.keeps,h.kp.trans k.kp⟩
theorem RdP.below {B n₀ Bp Bo:Nat} {X Y:World} (h:Below X.heap.size X Y) (hn:n₀≤X.heap.size) (hp:Bp<X.heap.size) (ho:Bo<X.heap.size):RdP B n₀ Bp Bo X Y:=⟨(keepsF_below h).from _,KpP.below h hn hp ho⟩
theorem KpP.set {n₀ Bp Bo B:Nat} {X:World} {b o:Nat} (v:Value) (hn:n₀≤b) (hb:b<B) (hp:Bp≠b) (ho:Bo≠b):KpP n₀ Bp Bo B X (X.setCell ⟨b,o,none⟩ v) :=
 ⟨(Below.refl _ _).setCell (p:=⟨b,o,none⟩) hn v,⟨by simp,fun c h1 _=>Below.heap_setCell X ⟨b,o,none⟩ v c (show c≠b by omega)⟩,Below.heap_setCell X ⟨b,o,none⟩ v Bp hp,Below.heap_setCell X ⟨b,o,none⟩ v Bo ho⟩
theorem RdP.set {B n₀ Bp Bo:Nat} {X:World} {b o:Nat} (v:Value) (hn:n₀≤b) (hb:b<B) (hp:Bp≠b) (ho:Bo≠b):RdP B n₀ Bp Bo X (X.setCell ⟨b,o,none⟩ v):=⟨(KeepsOthers.setCell _ _ _).from _,KpP.set v hn (by omega) hp ho⟩
theorem rdP_own {β:Type} {B n₀ Bp Bo B':Nat} {W:World} (hB:W.heap.size≤B') (hn:n₀≤W.heap.size) (hp:Bp<W.heap.size) (ho:Bo<W.heap.size):OwnFrom B' (fun (_:β) Y=>RdP B n₀ Bp Bo W Y):=fun k X Y row h hg hr=>by
 have hz:=h.kp.2.1.size
 have hbl:∀ b,b<W.heap.size→Y.heap[b]?=X.heap[b]?:=fun b hb=>World.grownBy.block hg b (by omega) (fun e=>by have:=(hr b e.symm).1;omega)
 exact⟨ownFrom_keepsFrom (β:=β) hB k X Y row h.keeps hg hr,ownFrom_below (β:=β) hn (Nat.le_trans hn hB) k X Y row h.kp.1 hg hr,
  ⟨Nat.le_trans hz hg.size,fun b h1 h2=>(hbl b h2).trans (h.kp.2.1.same b h1 h2)⟩,(hbl _ hp).trans h.kp.2.2.1,(hbl _ ho).trans h.kp.2.2.2⟩
structure EnI (w:World) (T M N:Nat) (ds:List Pt) (W:World):Prop where
 r:∃ v,BoxAt W w.heap.size [v]
 t:BoxAt W T [.slice (some ⟨M,0,none⟩) ds.length ds.length]
 p:Pts W (some ⟨M,0,none⟩) ds
 bel:Below w.heap.size w W
 lt:w.heap.size<M∧M≤T∧T<N
 size:N≤W.heap.size
theorem BoxAt.belowN {w w':World} {n B:Nat} {cs:List Value} (h:BoxAt w B cs) (hb:Below n w w') (hn:B<n):BoxAt w' B cs:=h.ofBlock (hb.block _ hn) hb.size
theorem EnI.belowN {w:World} {T M N:Nat} {ds:List Pt} {X Y:World} (h:EnI w T M N ds X) (hb:Below N X Y):EnI w T M N ds Y:=by
 obtain⟨⟨v,h1⟩,h2,h3,h4,h5,h6⟩:=h
 exact⟨⟨v,h1.belowN hb (by omega)⟩,h2.belowN hb (by omega),⟨rowsAt_belowN h3.rows (fun ad e _=>by cases e;show M<N;omega) hb,h3.size,h3.sm,fun ad e hl=>Nat.lt_of_lt_of_le (h3.own ad e hl) hb.size⟩,h4.trans (hb.mono (by omega)),h5,Nat.le_trans h6 hb.size⟩
theorem EnI.below {w:World} {T M N:Nat} {ds:List Pt} {X Y:World} (h:EnI w T M N ds X) (hb:Below X.heap.size X Y):EnI w T M N ds Y:=h.belowN (hb.mono h.size)
theorem EnI.kept {w:World} {T M N B:Nat} {ds:List Pt} {X Y:World} {row:Option Nat} (h:EnI w T M N ds X) (hg:X.grownBy Y row) (hB:N≤B) (hr:∀ r,row=some r→B≤r∧∃ o:Obj,X.heap[r]?=some o∧o.isCells=false):EnI w T M N ds Y :=
 h.belowN ((Below.refl _ _).grown hg h.size (fun r e=>Nat.le_trans hB (hr r e).1))
theorem EnI.abM {w:World} {T M N:Nat} {ds:List Pt} {X Y:World} (h:EnI w T M N ds X) (ha:AbM (N+1+1) X Y):EnI w T M N ds Y:=h.belowN (ha.mono (by have:=h.size;omega))
def EnJ (w:World) (T M N:Nat) (ds:List Pt) (L:List Cal.Pc) (k:Nat) (W:World):Prop:=(∀ i x,i<k→L[i]?=some x→enX ds x=false)∧EnI w T M N ds W
def EnZ (w:World) (W:World):Prop:=BoxAt W w.heap.size [.bool true]∧Below w.heap.size w W
def EnXt (w:World) (b:Bool) (c:Code) (_:Nat) (W:World):Prop:=c=.ret∧b=true∧EnZ w W
def EnJ2 (w:World) (T M N Bp Bo Bx S:Nat) (W:World) (ds:List Pt) (x:Cal.Pc) (j:Nat) (Y:World):Prop:=(∀ i,i<j→enT x (Cal.sd ds i)=false)∧EnI w T M N ds Y∧BoxAt Y Bx [.int .i64 x.mid.x,.int .i64 x.mid.y,.int .i64 (x.of.b.x-x.of.a.x),.int .i64 (x.of.b.y-x.of.a.y)]∧RdP N w.heap.size Bp Bo W Y∧S≤Y.heap.size
def EnX2 (w:World) (N Bp Bo:Nat) (W:World) (ds:List Pt) (x:Cal.Pc) (c:Code) (j:Nat) (Y:World):Prop:=c=.ret∧j<ds.length∧enT x (Cal.sd ds j)=true∧EnZ w Y∧RdP N w.heap.size Bp Bo W Y
theorem enZ_own {β:Type} {w:World} {B:Nat} (hB:w.heap.size≤B):OwnFrom B (fun (_:β) W=>EnZ w W):=fun k X Y row h hg hr =>
 ⟨h.1.keptF hg (fun r e=>(hr r e).2),ownFrom_below (β:=β) (Nat.le_refl _) hB k X Y row h.2 hg hr⟩
theorem EnZ.abM {w:World} {B:Nat} {X Y:World} (h:EnZ w X) (hB:w.heap.size<B) (ha:AbM B X Y):EnZ w Y :=
 ⟨h.1.belowN ha (by have:=h.1.lt;omega),h.2.trans (ha.mono (by have:=h.1.lt;omega))⟩
theorem enJ_own (w:World) (T M N:Nat) (ds:List Pt) (L:List Cal.Pc) {B:Nat} (hB:N≤B):OwnFrom B (EnJ w T M N ds L):=fun _ _ _ _ h hg hr=>⟨h.1,h.2.kept hg hB hr⟩
theorem enXt_own (w:World) (b:Bool) {B:Nat} (hB:w.heap.size≤B) (c:Code):OwnFrom B (EnXt w b c):=fun k X Y row h hg hr=>⟨h.1,h.2.1,enZ_own (β:=Nat) hB k X Y row h.2.2 hg hr⟩
theorem enJ2_own (w:World) (T M N Bp Bo Bx S:Nat) (W:World) (ds:List Pt) (x:Cal.Pc) {B:Nat} (hB:W.heap.size≤B) (hN:N≤B) (hn:w.heap.size≤W.heap.size) (hp:Bp<W.heap.size) (ho:Bo<W.heap.size):OwnFrom B (EnJ2 w T M N Bp Bo Bx S W ds x):=fun k X Y row h hg hr =>
 ⟨h.1,h.2.1.kept hg hN hr,h.2.2.1.keptF hg (fun r e=>(hr r e).2),rdP_own (β:=Nat) hB hn hp ho k X Y row h.2.2.2.1 hg hr,Nat.le_trans h.2.2.2.2 hg.size⟩
theorem enX2_own (w:World) (N Bp Bo:Nat) (W:World) (ds:List Pt) (x:Cal.Pc) {B:Nat} (hB:W.heap.size≤B) (hn:w.heap.size≤W.heap.size) (hp:Bp<W.heap.size) (ho:Bo<W.heap.size) (c:Code):OwnFrom B (EnX2 w N Bp Bo W ds x c):=fun k X Y row h hg hr =>
 ⟨h.1,h.2.1,h.2.2.1,enZ_own (β:=Nat) (by omega) k X Y row h.2.2.2.1 hg hr,rdP_own (β:=Nat) hB hn hp ho k X Y row h.2.2.2.2 hg hr⟩
theorem EnI.true {w:World} {T M N:Nat} {ds:List Pt} {X:World} (h:EnI w T M N ds X):EnZ w (X.setCell ⟨w.heap.size,0,none⟩ (.bool true)):=by
 obtain⟨⟨v,h1⟩,_,_,h4,_,_⟩:=h
 exact⟨h1.set 0 _ Nat.zero_lt_one,h4.setCell (p:=⟨w.heap.size,0,none⟩) (Nat.le_refl _) _⟩
theorem enters_any (Vp Vo:Option Addr) (dp do_:Nat) (ps os:List Pt) (w:World) (hP:PtsV w Vp ps) (hO:PtsV w Vo os) (hos:os.length≤10) (hnd:∀ i,i<ps.length→(Cal.sd ps i).a≠(Cal.sd ps i).b) :
  Calls Tryz.prog 57 #[.slice Vp ps.length dp,.slice Vo os.length do_] w fun e w'=>e=.returned (.bool (Cal.entersP ps os))∧Below w.heap.size w w':=by
 show Calls Tryz.prog 57 _ w fun e w'=>e=.returned (.bool ((Cal.pcsP ps os).any (enX (Cal.dblP os))))∧Below w.heap.size w w'
 refine (callsIn_wide (n:=9)).1 ?_
 refine callsIn_of_wp_marks Tryz.func57 rfl trivial ?_ rfl
 simp only[Tryz.ntmps57,List.size_toArray,List.length_cons,List.length_nil,Nat.reduceAdd,Nat.reduceSub,Array.replicate_succ,Array.replicate_zero,List.push_toArray,List.append_toArray,List.nil_append,List.cons_append]
 have hsmx:=Lib.hid (fun (x:Cal.Pc) (h:x∈Cal.pcsP ps os)=>pcs_sm hP.sm hO.sm hnd h)
 have hA1:Below w.heap.size w (w.alloc (.cells #[.bool false] 4)):=below_alloc _ _
 have hPz:=Lib.hid hP
 have hOz:=Lib.hid (hO.below hA1)
 have bR:=Lib.hid (BoxAt.new w #[.bool false] 4)
 gi_wp2_with (first
  |(refine⟨trivial,?_⟩;gi_at_call 73;refine (callsIn_wide.2 (doubled_any2 _ _ _ _ hOz.out)).mono ?_;rintro e w2 ⟨rfl,hD2,hb2⟩)
  |(refine⟨trivial,?_⟩;gi_at_call 74;refine (callsIn_wide.2 (pieces_any _ _ _ _ _ _ _)).mono ?_;rintro e w3 ⟨rfl,rfl⟩))
 have hs1:(w.alloc (.cells #[.bool false] 4)).heap.size=w.heap.size+1:=by simp
 rw[hs1] at hD2 hb2
 have hb2z:=hb2.size
 rw[hs1] at hb2z
 have bR2:=bR.out.belowN hb2 (by omega)
 have hw2:Below w.heap.size w w2:=hA1.trans (hb2.mono (by omega))
 clear bR hOz hb2 hs1
 have bT:=((BoxAt.new w2 #[.slice (some ⟨w.heap.size+1,0,none⟩) (Cal.dblP os).length (Cal.dblP os).length] 44).alloc (.cells #[.slice Vp ps.length dp] 44)).alloc (.cells #[.slice Vo os.length do_] 44)
 have bP:=(BoxAt.new (w2.alloc (.cells #[.slice (some ⟨w.heap.size+1,0,none⟩) (Cal.dblP os).length (Cal.dblP os).length] 44)) #[.slice Vp ps.length dp] 44).alloc (.cells #[.slice Vo os.length do_] 44)
 have bO:=BoxAt.new ((w2.alloc (.cells #[.slice (some ⟨w.heap.size+1,0,none⟩) (Cal.dblP os).length (Cal.dblP os).length] 44)).alloc (.cells #[.slice Vp ps.length dp] 44)) #[.slice Vo os.length do_] 44
 have hB0:Below w2.heap.size w2 (((w2.alloc (.cells #[.slice (some ⟨w.heap.size+1,0,none⟩) (Cal.dblP os).length (Cal.dblP os).length] 44)).alloc (.cells #[.slice Vp ps.length dp] 44)).alloc (.cells #[.slice Vo os.length do_] 44)):=below_step (below_step (below_alloc _ _) (below_alloc _ _)) (below_alloc _ _)
 have hs0:((((w2.alloc (.cells #[.slice (some ⟨w.heap.size+1,0,none⟩) (Cal.dblP os).length (Cal.dblP os).length] 44)).alloc (.cells #[.slice Vp ps.length dp] 44)).alloc (.cells #[.slice Vo os.length do_] 44))).heap.size=w2.heap.size+3:=by simp
 simp only[World.size_alloc] at bP bO
 obtain⟨W0,hW0⟩:∃ W0,(((w2.alloc (.cells #[.slice (some ⟨w.heap.size+1,0,none⟩) (Cal.dblP os).length (Cal.dblP os).length] 44)).alloc (.cells #[.slice Vp ps.length dp] 44)).alloc (.cells #[.slice Vo os.length do_] 44))=W0:=⟨_,rfl⟩
 rw[hW0] at bT bP bO hB0 hs0 ⊢
 clear hW0
 replace hs0:w2.heap.size+3≤W0.heap.size:=Nat.le_of_eq hs0.symm
 have hI0:EnI w w2.heap.size (w.heap.size+1) W0.heap.size (Cal.dblP os) W0:=⟨⟨_,bR2.below hB0⟩,bT,hD2.below hB0,hw2.trans (hB0.mono hw2.size),⟨by omega,by omega,by omega⟩,Nat.le_refl _⟩
 have hPW:=hPz.out.below (hw2.trans (hB0.mono hw2.size))
 have hOW:=hO.below (hw2.trans (hB0.mono hw2.size))
 obtain⟨ds,hds⟩:∃ ds,Cal.dblP os=ds:=⟨_,rfl⟩
 rw[hds] at hI0 bT ⊢
 have hds:=Lib.hid hds
 refine wpIn_range_pieces (Bp:=w2.heap.size+1) (Bo:=w2.heap.size+1+1) (n₀:=w.heap.size) (Vp:=Vp) (Vo:=Vo) (dp:=dp) (do_:=do_) (ps:=ps) (os:=os) rfl rfl (bP.c 0 _ rfl) (bO.c 0 _ rfl) (by omega) (by omega) hPW hOW hP.own hO.own (by omega) hos hnd
  (EnJ w w2.heap.size (w.heap.size+1) W0.heap.size ds (Cal.pcsP ps os)) (EnXt w ((Cal.pcsP ps os).any (enX ds))) (enJ_own w _ _ _ ds _ (Nat.le_refl _)) (enXt_own w _ (by omega))
  (fun k X Y h ha=>⟨h.1,h.2.abM ha⟩) (fun c k X Y h ha=>⟨h.1,h.2.1,h.2.2.abM (by omega) ha⟩) ⟨fun i x hi=>by omega,hI0⟩
  (fun T x By=>(T.setIfInBounds 14 (.agg #[.int .i64 x.mid.x,.int .i64 x.mid.y,.int .i64 (x.of.b.x-x.of.a.x),.int .i64 (x.of.b.y-x.of.a.y)])).setIfInBounds 6 (.pointer (some ⟨By,0,none⟩)))
  ?assign ?body ?done ?stop
 case assign =>
  rintro l k x W K hx ⟨hc,hI⟩ hK
  gi_wp2
  have hz:=hI.size
  exact hK W.heap.size _ hz ((KeepsOthers.alloc _ _).from _) (KpP.below (below_alloc _ _) hI.bel.size (by omega) (by omega)) ⟨hc,hI.below (below_alloc _ _)⟩ (BoxAt.new W #[.int .i64 x.mid.x,.int .i64 x.mid.y,.int .i64 (x.of.b.x-x.of.a.x),.int .i64 (x.of.b.y-x.of.a.y)] _)
 case body =>
  rintro l k x Bx W hl ⟨r,hr⟩ hx ⟨hc,hI⟩ hBx bX
  simp only[List.setIfInBounds_toArray,List.set_cons_zero,List.set_cons_succ]
  have hsx:=hsmx.out x (List.mem_of_getElem? hx)
  have hz:=hI.size
  have t0:=hI.t.c 0 _ rfl;obtain⟨c0,c1⟩:=bX.c2
  have hIz:=Lib.hid hI
  have bXz:=Lib.hid bX
  have hcz:=Lib.hid hc
  clear hI bX hc
  rcases whereP_cases ds x.mid with hw | hw | hw
  ·have hex:Hid (enX ds x=true):=by show _=_;unfold enX;rw[if_pos hw]
   gi_wp2_with (refine⟨trivial,?_⟩;gi_at_call 75;refine (callsIn_wide.2 (where_any _ _ _ _ _ hIz.out.p hsx.1)).mono ?_;rintro e wn ⟨rfl,hbn⟩;rw[hw];have hbz:=Lib.hid hbn;have hI2:=Lib.hid (hIz.out.below hbn);clear hbn;obtain⟨rv,hrv⟩:=hI2.out.r;have r0:=hrv.c 0 _ rfl;have r1:=hrv.free 0 Nat.zero_lt_one;clear hrv)
   have hlt:=hIz.out.lt
   have hbl:=hIz.out.bel.size
   have hb9:=hbz.out.size
   exact⟨((keepsF_below hbz.out).trans (KeepsOthers.setCell _ _ _)).from _,(KpP.below hbz.out (by omega) (by omega) (by omega)).trans (KpP.set _ (Nat.le_refl _) (by omega) (by omega) (by omega)),rfl,pcs_any_true hx hex.out,hI2.out.true⟩
  ·have hexq:Hid (enX ds x=(Cal.sds ds).any (enT x)):=by show _=_;unfold enX;rw[if_neg (by omega),if_pos hw]
   gi_wp2_with (first
    |(refine⟨trivial,?_⟩;gi_at_call 75;refine (callsIn_wide.2 (where_any _ _ _ _ _ hIz.out.p hsx.1)).mono ?_;rintro e wn ⟨rfl,hbn⟩;rw[hw];have hbz:=Lib.hid hbn;have hI2:=Lib.hid (hIz.out.below hbn);have bX2:=Lib.hid (bXz.out.below hbn);clear hbn;have t1:=hI2.out.t.c 0 _ rfl)
    |(refine⟨trivial,?_⟩;gi_at_call 52;refine (callsIn_wide.2 (sides_any _ _ _ _)).mono ?_;rintro e w' ⟨rfl,rfl⟩))
   have bT:=BoxAt.new wn #[.slice (some ⟨w.heap.size+1,0,none⟩) ds.length ds.length] 44
   have hbw:Below wn.heap.size wn (wn.alloc (.cells #[.slice (some ⟨w.heap.size+1,0,none⟩) ds.length ds.length] 44)):=below_alloc _ _
   have hlt:=hIz.out.lt
   have hblz:=hIz.out.bel.size
   have hI6:=hI2.out.below hbw
   have hbz9:=hbz.out.size
   have hs1:(wn.alloc (.cells #[.slice (some ⟨w.heap.size+1,0,none⟩) ds.length ds.length] 44)).heap.size=wn.heap.size+1:=by simp
   have hbW1:Below W.heap.size W (wn.alloc (.cells #[.slice (some ⟨w.heap.size+1,0,none⟩) ds.length ds.length] 44)):=hbz.out.trans (hbw.mono (by omega))
   have hr1:(wn.alloc (.cells #[.slice (some ⟨w.heap.size+1,0,none⟩) ds.length ds.length] 44)).heap[l]?=some (.loop r):=(hbW1.block l (Array.getElem?_eq_some_iff.1 hr).1).trans hr
   have bX6:=bXz.out.below hbW1
   obtain⟨W1,hW1⟩:∃ W1,wn.alloc (.cells #[.slice (some ⟨w.heap.size+1,0,none⟩) ds.length ds.length] 44)=W1:=⟨_,rfl⟩
   rw[hW1] at bT hI6 hs1 hr1 hbw hbW1 bX6 ⊢
   clear hW1
   refine wpIn_sides1NM hr1 (M:=w.heap.size+1) (ofs:=0) (Bs:=wn.heap.size) (d:=ds.length) (ps:=ds) (by omega) rfl rfl (bT.c 0 _ rfl) (by omega) hI6.p (by omega)
    (EnJ2 w w2.heap.size (w.heap.size+1) W0.heap.size (w2.heap.size+1) (w2.heap.size+1+1) Bx W1.heap.size W ds x) (EnX2 w W0.heap.size (w2.heap.size+1) (w2.heap.size+1+1) W ds x) (enJ2_own w _ _ _ _ _ _ _ W ds x (by omega) (by omega) (by omega) (by omega) (by omega)) (enX2_own w _ _ _ W ds x (by omega) (by omega) (by omega) (by omega))
    ⟨fun j hj=>by omega,hI6,bX6,RdP.below hbW1 (by omega) (by omega) (by omega),by omega⟩
    (fun T j t By=>((T.setIfInBounds 25 (.int .i64 (j:Int))).setIfInBounds 26 (.agg #[.int .i64 t.a.x,.int .i64 t.a.y,.int .i64 t.b.x,.int .i64 t.b.y])).setIfInBounds 8 (.pointer (some ⟨By,0,none⟩)))
    ?assign2 ?body2 ?done2 ?stop2
   case assign2 =>
    rintro l2 j Y K hj ⟨hc2,hI2,bX2,hR2,hz2⟩ hK
    gi_wp2
    exact hK Y.heap.size _ (by omega) ((KeepsOthers.alloc _ _).from _) (KpM.below (below_alloc _ _) (by omega) (by omega)) ⟨hc2,hI2.below (below_alloc _ _),bX2.alloc _,hR2.trans (RdP.below (below_alloc _ _) (by omega) (by omega) (by omega)),by simp;omega⟩ (BoxAt.new Y #[.int .i64 (Cal.sd ds j).a.x,.int .i64 (Cal.sd ds j).a.y,.int .i64 (Cal.sd ds j).b.x,.int .i64 (Cal.sd ds j).b.y] _)
   case body2 =>
    rintro l2 j By Y hl2 ⟨r2,hr2⟩ hj ⟨hc2,hI2,bX2,hR2,hz2⟩ hBy bY
    simp only[List.setIfInBounds_toArray,List.set_cons_zero,List.set_cons_succ]
    have hse:=hI2.p.sd j hj
    obtain⟨e0,e1,e2,e3⟩:=bX2.c4;obtain⟨g0,g1,g2,g3⟩:=bY.c4
    obtain⟨t,htt⟩:∃ t,Cal.sd ds j=t:=⟨_,rfl⟩
    rw[htt] at g0 g1 g2 g3 hse ⊢
    have htt:=Lib.hid htt
    have hall:=Lib.hid (And.intro hc2 (And.intro hI2 (And.intro bX2 hR2)))
    clear hc2 hI2 bX2 hR2 bY
    obtain⟨cb,hcb⟩:∃ cb,Cal.hasP t x.mid=cb:=⟨_,rfl⟩
    have hcb:=Lib.hid hcb
    cases cb
    ·have hbf:Hid (enT x t=false):=by show _=_;unfold enT;rw[hcb.out];rfl
     gi_wp2;refine wpIn_region_held_drew (S:=Sx Y [(By,0,.int .i64 t.a.x),(By,1,.int .i64 t.a.y),(By,2,.int .i64 t.b.x),(By,3,.int .i64 t.b.y),(Bx,0,.int .i64 x.mid.x),(Bx,1,.int .i64 x.mid.y),(Bx,2,.int .i64 (x.of.b.x-x.of.a.x)),(Bx,3,.int .i64 (x.of.b.y-x.of.a.y))]) (by kernel_rfl) (Sx.mk (by simp only[cs_iff_cons];exact⟨g0,g1,g2,g3,e0,e1,e2,e3,cs_nil _⟩) (Below.refl _ _)).drew (fun hHeld=>?_)
     refine tkIx 0 27 ?_
     refine tkIx 1 28 ?_
     refine tkIx 2 29 ?_
     (refine ratI 3 (fun _=>trivial) (by decide +kernel) rfl (fun K hK=>?_);rw[if_pos (by kernel_rfl)];go_simp)
     refine⟨trivial,?_⟩
     refine (callsIn_wide.2 (has_any t x.mid _ hse hsx.1)).mono ?_
     rintro e wn ⟨rfl,hbn⟩
     rw[hcb.out]
     go_simp
     (refine hK.out _ _ (hHeld.step hbn) (fun hHeld=>?_);clear hK K;(try simp only[apS,apN,siA,scZ,scS]))
     refine tkIx 4 31 ?_
     refine tkNx 5 32 ?_
     refine tkNx 6 33 ?_
     refine tkNx 7 34 ?_
     refine tkNx 8 35 ?_
     refine tkNx 9 36 ?_
     refine tkNx 10 37 ?_
     refine tkNx 11 38 ?_
     refine tkNx 12 39 ?_
     refine tkNx 13 40 ?_
     refine tkIx 14 41 ?_
     refine wpAnyInH_done (by decide +kernel) ?_ _
     gi_wp2
     obtain⟨hc2,hI2,bX2,hR2⟩:=hall.out
     have hz5:=hHeld.bel.size
     refine⟨(keepsF_below hHeld.bel).from _,KpM.below hHeld.bel (by omega) (by omega),fun i hi=>?_,hI2.below hHeld.bel,bX2.below hHeld.bel,hR2.trans (RdP.below hHeld.bel (by omega) (by omega) (by omega)),by omega⟩
     by_cases hij:i=j
     ·subst hij;rw[htt.out];exact hbf.out
     exact hc2 i (by omega)
    by_cases hd:0<(x.of.b.x-x.of.a.x)*(t.b.x-t.a.x)+(x.of.b.y-x.of.a.y)*(t.b.y-t.a.y)
    ·have hdd:=decide_eq_true hd
     have hbf:Hid (enT x t=true):=by show _=_;unfold enT;rw[hcb.out,hdd];rfl
     gi_wp2;refine wpIn_region_held_drew (S:=Sx Y [(By,0,.int .i64 t.a.x),(By,1,.int .i64 t.a.y),(By,2,.int .i64 t.b.x),(By,3,.int .i64 t.b.y),(Bx,0,.int .i64 x.mid.x),(Bx,1,.int .i64 x.mid.y),(Bx,2,.int .i64 (x.of.b.x-x.of.a.x)),(Bx,3,.int .i64 (x.of.b.y-x.of.a.y))]) (by kernel_rfl) (Sx.mk (by simp only[cs_iff_cons];exact⟨g0,g1,g2,g3,e0,e1,e2,e3,cs_nil _⟩) (Below.refl _ _)).drew (fun hHeld=>?_)
     refine tkIx 0 27 ?_
     refine tkIx 1 28 ?_
     refine tkIx 2 29 ?_
     (refine ratI 3 (fun _=>trivial) (by decide +kernel) rfl (fun K hK=>?_);rw[if_pos (by kernel_rfl)];go_simp)
     refine⟨trivial,?_⟩
     refine (callsIn_wide.2 (has_any t x.mid _ hse hsx.1)).mono ?_
     rintro e wn ⟨rfl,hbn⟩
     rw[hcb.out]
     go_simp
     (refine hK.out _ _ (hHeld.step hbn) (fun hHeld=>?_);clear hK K;(try simp only[apS,apN,siA,scZ,scS]))
     refine tkIx 4 31 ?_
     refine tkIx 5 32 ?_
     refine tkIx 6 33 ?_
     refine tkIx 7 34 ?_
     refine tkIx 8 35 ?_
     refine tkIx 9 36 ?_
     refine tkIx 10 37 ?_
     (refine ratI 11 (fun _=>trivial) (by decide +kernel) rfl (fun K hK=>?_);rw[if_pos (by kernel_rfl)];go_simp)
     refine⟨trivial,?_⟩
     refine (callsIn_wide.2 (to_any t.a t.b _ hse.a hse.b)).mono ?_
     rintro e wn ⟨rfl,hbn⟩
     go_simp
     (refine hK.out _ _ (hHeld.step hbn) (fun hHeld=>?_);clear hK K;(try simp only[apS,apN,siA,scZ,scS]))
     have x0:=hsx.2.a.x0
     have x1:=hsx.2.a.x1
     have x2:=hsx.2.a.y0
     have x3:=hsx.2.a.y1
     have x4:=hsx.2.b.x0
     have x5:=hsx.2.b.x1
     have x6:=hsx.2.b.y0
     have x7:=hsx.2.b.y1
     have z0:=hse.a.x0
     have z1:=hse.a.x1
     have z2:=hse.a.y0
     have z3:=hse.a.y1
     have z4:=hse.b.x0
     have z5:=hse.b.x1
     have z6:=hse.b.y0
     have z7:=hse.b.y1
     (refine ratI 12 (fun _=>trivial) (by decide +kernel) rfl (fun K hK=>?_);rw[if_pos (by kernel_rfl)];go_simp)
     refine⟨trivial,?_⟩
     refine (callsIn_wide.2 (dot_any ⟨x.of.b.x-x.of.a.x,x.of.b.y-x.of.a.y⟩ ⟨t.b.x-t.a.x,t.b.y-t.a.y⟩ _ (by dsimp only;omega) (by dsimp only;omega))).mono ?_
     rintro e wn ⟨rfl,hbn⟩
     go_simp
     (refine hK.out _ _ (hHeld.step hbn) (fun hHeld=>?_);clear hK K;(try simp only[apS,apN,siA,scZ,scS]))
     refine tkIx 13 40 ?_
     refine tkIx 14 41 ?_
     refine wpAnyInH_done (by decide +kernel) ?_ _
     have hI7:=Lib.hid (hall.out.2.1.below hHeld.bel)
     obtain⟨rv,hrv⟩:=hI7.out.r
     have r0:=hrv.c 0 _ rfl
     have r1:=hrv.free 0 Nat.zero_lt_one
     clear hrv
     gi_wp2
     exact⟨((keepsF_below hHeld.bel).trans (KeepsOthers.setCell _ _ _)).from _,(KpM.below hHeld.bel (by omega) (by omega)).trans (KpM.set _ (by omega) (by omega)),rfl,hj,by rw[htt.out];exact hbf.out,hI7.out.true,hall.out.2.2.2.trans ((RdP.below hHeld.bel (by omega) (by omega) (by omega)).trans (RdP.set _ (Nat.le_refl _) (by omega) (by omega) (by omega)))⟩
    have hdd:=decide_eq_false hd
    have hbf:Hid (enT x t=false):=by show _=_;unfold enT;rw[hcb.out,hdd];rfl
    gi_wp2;refine wpIn_region_held_drew (S:=Sx Y [(By,0,.int .i64 t.a.x),(By,1,.int .i64 t.a.y),(By,2,.int .i64 t.b.x),(By,3,.int .i64 t.b.y),(Bx,0,.int .i64 x.mid.x),(Bx,1,.int .i64 x.mid.y),(Bx,2,.int .i64 (x.of.b.x-x.of.a.x)),(Bx,3,.int .i64 (x.of.b.y-x.of.a.y))]) (by kernel_rfl) (Sx.mk (by simp only[cs_iff_cons];exact⟨g0,g1,g2,g3,e0,e1,e2,e3,cs_nil _⟩) (Below.refl _ _)).drew (fun hHeld=>?_)
    refine tkIx 0 27 ?_
    refine tkIx 1 28 ?_
    refine tkIx 2 29 ?_
    (refine ratI 3 (fun _=>trivial) (by decide +kernel) rfl (fun K hK=>?_);rw[if_pos (by kernel_rfl)];go_simp)
    refine⟨trivial,?_⟩
    refine (callsIn_wide.2 (has_any t x.mid _ hse hsx.1)).mono ?_
    rintro e wn ⟨rfl,hbn⟩
    rw[hcb.out]
    go_simp
    (refine hK.out _ _ (hHeld.step hbn) (fun hHeld=>?_);clear hK K;(try simp only[apS,apN,siA,scZ,scS]))
    refine tkIx 4 31 ?_
    refine tkIx 5 32 ?_
    refine tkIx 6 33 ?_
    refine tkIx 7 34 ?_
    refine tkIx 8 35 ?_
    refine tkIx 9 36 ?_
    refine tkIx 10 37 ?_
    (refine ratI 11 (fun _=>trivial) (by decide +kernel) rfl (fun K hK=>?_);rw[if_pos (by kernel_rfl)];go_simp)
    refine⟨trivial,?_⟩
    refine (callsIn_wide.2 (to_any t.a t.b _ hse.a hse.b)).mono ?_
    rintro e wn ⟨rfl,hbn⟩
    go_simp
    (refine hK.out _ _ (hHeld.step hbn) (fun hHeld=>?_);clear hK K;(try simp only[apS,apN,siA,scZ,scS]))
    have x0:=hsx.2.a.x0
    have x1:=hsx.2.a.x1
    have x2:=hsx.2.a.y0
    have x3:=hsx.2.a.y1
    have x4:=hsx.2.b.x0
    have x5:=hsx.2.b.x1
    have x6:=hsx.2.b.y0
    have x7:=hsx.2.b.y1
    have z0:=hse.a.x0
    have z1:=hse.a.x1
    have z2:=hse.a.y0
    have z3:=hse.a.y1
    have z4:=hse.b.x0
    have z5:=hse.b.x1
    have z6:=hse.b.y0
    have z7:=hse.b.y1
    (refine ratI 12 (fun _=>trivial) (by decide +kernel) rfl (fun K hK=>?_);rw[if_pos (by kernel_rfl)];go_simp)
    refine⟨trivial,?_⟩
    refine (callsIn_wide.2 (dot_any ⟨x.of.b.x-x.of.a.x,x.of.b.y-x.of.a.y⟩ ⟨t.b.x-t.a.x,t.b.y-t.a.y⟩ _ (by dsimp only;omega) (by dsimp only;omega))).mono ?_
    rintro e wn ⟨rfl,hbn⟩
    go_simp
    (refine hK.out _ _ (hHeld.step hbn) (fun hHeld=>?_);clear hK K;(try simp only[apS,apN,siA,scZ,scS]))
    refine tkIx 13 40 ?_
    refine tkIx 14 41 ?_
    refine wpAnyInH_done (by decide +kernel) ?_ _
    gi_wp2
    obtain⟨hc2,hI2,bX2,hR2⟩:=hall.out
    have hz5:=hHeld.bel.size
    refine⟨(keepsF_below hHeld.bel).from _,KpM.below hHeld.bel (by omega) (by omega),fun i hi=>?_,hI2.below hHeld.bel,bX2.below hHeld.bel,hR2.trans (RdP.below hHeld.bel (by omega) (by omega) (by omega)),by omega⟩
    by_cases hij:i=j
    ·subst hij;rw[htt.out];exact hbf.out
    exact hc2 i (by omega)
   case done2 =>
    rintro Y ⟨hc2,hI2,bX2,hR2,hz2⟩
    gi_wp2
    refine⟨hR2.keeps,hR2.kp,fun i y hi hy=>?_,hI2⟩
    by_cases hik:i=k
    ·subst hik;rw[hx] at hy;cases hy;rw[hexq.out];exact sds_any_false hc2
    exact hcz.out i y (by omega) hy
   case stop2 =>
    rintro c j Y hj ⟨rfl,h2,h3,h4,h5⟩
    gi_wp2
    exact⟨h5.keeps,h5.kp,rfl,pcs_any_true hx (by rw[hexq.out];exact sds_any_true hj h3),h4⟩
  have hex:Hid (enX ds x=false):=by show _=_;unfold enX;rw[if_neg (by omega),if_neg (by omega)]
  gi_wp2_with (refine⟨trivial,?_⟩;gi_at_call 75;refine (callsIn_wide.2 (where_any _ _ _ _ _ hIz.out.p hsx.1)).mono ?_;rintro e wn ⟨rfl,hbn⟩;rw[hw])
  have hbl:=hIz.out.bel.size
  refine⟨(keepsF_below hbn).from _,KpP.below hbn (by omega) (by omega) (by omega),fun i y hi hy=>?_,hIz.out.below hbn⟩
  by_cases hik:i=k
  ·subst hik;rw[hx] at hy;cases hy;exact hex.out
  exact hcz.out i y (by omega) hy
 case done =>
  rintro D W hD ⟨hc,hI⟩ hK
  obtain⟨v,hr⟩:=hI.r
  have r0:=hr.c 0 _ rfl
  have r1:=hr.free 0 Nat.zero_lt_one
  have hAll:=Lib.hid (And.intro hc (And.intro hI (And.intro hK hr)))
  clear hc hI hK hr
  gi_wp2
  obtain⟨hc,hI,hK,hr⟩:=hAll.out
  have hr1:=hr.set 0 (.bool false) Nat.zero_lt_one
  have hK':=(KeepsOthers.setCell W ⟨w.heap.size,0,none⟩ (.bool false)).same D _ hK rfl
  have ho':Others (W.setCell ⟨w.heap.size,0,none⟩ (.bool false)) (some D):=fun r e=>by cases e;exact⟨_,hK',rfl⟩
  refine⟨by simp,.inl ⟨_,_,rfl,run_takeDeferred hK',?_⟩⟩
  have q5:=(hr1.keptF (grownBy_putObj' _ D (.deferred none)) ho').c 0 _ rfl
  exact⟨_,results_c1 rfl _ _ ⟨w.heap.size,0,none⟩ (.bool false) rfl (by simp[loadVar,go_sem,q5]),by rw[pcs_any_false hc],belowF_put (hI.bel.setCell (p:=⟨w.heap.size,0,none⟩) (Nat.le_refl _) _) (by omega) _⟩
 case stop =>
  rintro D c k W hD hk ⟨rfl,h0,hR,hB⟩ hK
  have hAll:=Lib.hid (And.intro h0 (And.intro hR (And.intro hB hK)))
  clear h0 hR hB hK
  gi_wp2
  obtain⟨h0,hR,hB,hK⟩:=hAll.out
  have ho':Others W (some D):=fun r e=>by cases e;exact⟨_,hK,rfl⟩
  refine⟨by simp,.inl ⟨_,_,rfl,run_takeDeferred hK,?_⟩⟩
  have q5:=(hR.keptF (grownBy_putObj' W D (.deferred none)) ho').c 0 _ rfl
  exact⟨_,results_c1 rfl _ _ ⟨w.heap.size,0,none⟩ (.bool true) rfl (by simp[loadVar,go_sem,q5]),by rw[h0],belowF_put hB (by omega) _⟩
end Go.Proofs.YtoojdkaimhlcbaaGreat
namespace Go.Proofs.YtoojdkaimhlcbaaGreat
open Go Go.RowKit Go.Shelf
attribute [local go_sem] Oper.semAt_some
theorem ptB_eq {p q:Pt} (h:p=q):ptB p q=true:=by subst h;unfold ptB;simp
theorem twiceP_get:∀ (l s:List Pt),Cal.twiceP s l=false→(∀ p∈s,p∉l)∧l.Nodup
 | [],_,_=>⟨fun _ _ h=>(by cases h),List.nodup_nil⟩
 | q :: r,s,h=>by
  unfold Cal.twiceP at h
  rw[Bool.or_eq_false_iff] at h
  obtain⟨h1,h2⟩:=h
  obtain⟨h3,h4⟩:=twiceP_get r (q :: s) h2
  rw[List.any_eq_false] at h1
  refine⟨fun p hp hm=>?_,List.nodup_cons.2 ⟨h3 q List.mem_cons_self,h4⟩⟩
  rcases List.mem_cons.1 hm with e | hm
  ·exact h1 p hp (ptB_eq e.symm)
  exact h3 p (List.mem_cons_of_mem _ hp) hm
theorem sd_ne {ps:List Pt} (hn:ps.Nodup) (hl:2≤ps.length) (i:Nat) (hi:i<ps.length):(Cal.sd ps i).a≠(Cal.sd ps i).b:=by
 have hmod:(i+1) % ps.length<ps.length:=Nat.mod_lt _ (by omega)
 rw[sd_of (List.getElem?_eq_getElem hi) (List.getElem?_eq_getElem hmod)]
 intro e
 have h:=(List.getElem_inj (h₀:=hi) (h₁:=hmod) hn).1 e
 by_cases h1:i+1<ps.length
 ·rw[Nat.mod_eq_of_lt h1] at h;omega
 have:i+1=ps.length:=by omega
 rw[this,Nat.mod_self] at h;omega
structure Plg (w:World) (V:Option Addr) (ps:List Pt):Prop where
 v:PtsV w V ps
 len:ps.length≤10
 nd:∀ i,i<ps.length→(Cal.sd ps i).a≠(Cal.sd ps i).b
theorem Plg.below {w w':World} {V:Option Addr} {ps:List Pt} (h:Plg w V ps) (hb:Below w.heap.size w w'):Plg w' V ps:=⟨h.v.below hb,h.len,h.nd⟩
theorem PtsR.plg {w:World} {V:Option Addr} {ps:List Pt} (h:PtsR w V ps) (h0:Cal.polyE ps=0) (hl:ps.length≤10):Plg w V ps :=
 ⟨h.ptsV h0,hl,sd_ne (twiceP_get _ _ (polyE_zero h0).2.2.2.1).2 (by have:=(polyE_zero h0).1;omega)⟩
theorem overlap_any (Va Vb:Option Addr) (da db:Nat) (us vs:List Pt) (w:World) (hA:Plg w Va us) (hB:Plg w Vb vs) :
  Calls Tryz.prog 41 #[.slice Va us.length da,.slice Vb vs.length db] w fun e w'=>e=.returned (.bool (Cal.overlapP us vs))∧Below w.heap.size w w':=by
 obtain⟨c1,h1⟩:∃ c,Cal.crossP us vs=c:=⟨_,rfl⟩
 obtain⟨c2,h2⟩:∃ c,Cal.entersP us vs=c:=⟨_,rfl⟩
 obtain⟨c3,h3⟩:∃ c,Cal.entersP vs us=c:=⟨_,rfl⟩
 replace hA:=Lib.hid hA
 replace hB:=Lib.hid hB
 have hR:Hid (Cal.overlapP us vs=(c1 || (c2 || c3))):=by show _=_;unfold Cal.overlapP;rw[h1,h2,h3]
 replace h1:=Lib.hid h1
 replace h2:=Lib.hid h2
 replace h3:=Lib.hid h3
 have hb:Hid (Below w.heap.size w w):=Below.refl _ _
 have m1:Hid True:=trivial
 cases c1
 ·cases c2
  ·cases c3
   ·go_enter Tryz.func41,Tryz.ntmps41
    go_wp2_with (first | (go_at_call 56;refine (crossing_any _ _ _ _ _ _ _ (hA.out.v.below hb.out).pts (hB.out.v.below hb.out).pts).mono ?_;rintro e wn ⟨rfl,hbn⟩;rw[h1.out];replace hb:=Lib.hid (below_step hb.out hbn);clear hbn) | (go_at_call 57;clear m1;refine (enters_any _ _ _ _ _ _ _ (hA.out.v.below hb.out) (hB.out.v.below hb.out) hB.out.len hA.out.nd).mono ?_;rintro e wn ⟨rfl,hbn⟩;rw[h2.out];replace hb:=Lib.hid (below_step hb.out hbn);clear hbn) | (go_at_call 57;refine (enters_any _ _ _ _ _ _ _ (hB.out.v.below hb.out) (hA.out.v.below hb.out) hA.out.len hB.out.nd).mono ?_;rintro e wn ⟨rfl,hbn⟩;rw[h3.out];replace hb:=Lib.hid (below_step hb.out hbn);clear hbn))
    go_ret
    exact⟨by rw[hR.out];rfl,hb.out⟩
   go_enter Tryz.func41,Tryz.ntmps41
   go_wp2_with (first | (go_at_call 56;refine (crossing_any _ _ _ _ _ _ _ (hA.out.v.below hb.out).pts (hB.out.v.below hb.out).pts).mono ?_;rintro e wn ⟨rfl,hbn⟩;rw[h1.out];replace hb:=Lib.hid (below_step hb.out hbn);clear hbn) | (go_at_call 57;clear m1;refine (enters_any _ _ _ _ _ _ _ (hA.out.v.below hb.out) (hB.out.v.below hb.out) hB.out.len hA.out.nd).mono ?_;rintro e wn ⟨rfl,hbn⟩;rw[h2.out];replace hb:=Lib.hid (below_step hb.out hbn);clear hbn) | (go_at_call 57;refine (enters_any _ _ _ _ _ _ _ (hB.out.v.below hb.out) (hA.out.v.below hb.out) hA.out.len hB.out.nd).mono ?_;rintro e wn ⟨rfl,hbn⟩;rw[h3.out];replace hb:=Lib.hid (below_step hb.out hbn);clear hbn))
   go_ret
   exact⟨by rw[hR.out];rfl,hb.out⟩
  go_enter Tryz.func41,Tryz.ntmps41
  go_wp2_with (first | (go_at_call 56;refine (crossing_any _ _ _ _ _ _ _ (hA.out.v.below hb.out).pts (hB.out.v.below hb.out).pts).mono ?_;rintro e wn ⟨rfl,hbn⟩;rw[h1.out];replace hb:=Lib.hid (below_step hb.out hbn);clear hbn) | (go_at_call 57;clear m1;refine (enters_any _ _ _ _ _ _ _ (hA.out.v.below hb.out) (hB.out.v.below hb.out) hB.out.len hA.out.nd).mono ?_;rintro e wn ⟨rfl,hbn⟩;rw[h2.out];replace hb:=Lib.hid (below_step hb.out hbn);clear hbn) | (go_at_call 57;refine (enters_any _ _ _ _ _ _ _ (hB.out.v.below hb.out) (hA.out.v.below hb.out) hA.out.len hB.out.nd).mono ?_;rintro e wn ⟨rfl,hbn⟩;rw[h3.out];replace hb:=Lib.hid (below_step hb.out hbn);clear hbn))
  go_ret
  exact⟨by rw[hR.out];rfl,hb.out⟩
 go_enter Tryz.func41,Tryz.ntmps41
 go_wp2_with (first | (go_at_call 56;refine (crossing_any _ _ _ _ _ _ _ (hA.out.v.below hb.out).pts (hB.out.v.below hb.out).pts).mono ?_;rintro e wn ⟨rfl,hbn⟩;rw[h1.out];replace hb:=Lib.hid (below_step hb.out hbn);clear hbn) | (go_at_call 57;clear m1;refine (enters_any _ _ _ _ _ _ _ (hA.out.v.below hb.out) (hB.out.v.below hb.out) hB.out.len hA.out.nd).mono ?_;rintro e wn ⟨rfl,hbn⟩;rw[h2.out];replace hb:=Lib.hid (below_step hb.out hbn);clear hbn) | (go_at_call 57;refine (enters_any _ _ _ _ _ _ _ (hB.out.v.below hb.out) (hA.out.v.below hb.out) hA.out.len hB.out.nd).mono ?_;rintro e wn ⟨rfl,hbn⟩;rw[h3.out];replace hb:=Lib.hid (below_step hb.out hbn);clear hbn))
 go_ret
 exact⟨by rw[hR.out];rfl,hb.out⟩
end Go.Proofs.YtoojdkaimhlcbaaGreat
