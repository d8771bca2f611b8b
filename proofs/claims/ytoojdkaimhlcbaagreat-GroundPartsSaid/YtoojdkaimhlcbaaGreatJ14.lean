/- What the statements rest on: definitions and walks, part 14. -/
import Derived.Test.YtoojdkaimhlcbaaGreatJ11
set_option maxRecDepth 100000
set_option maxHeartbeats 16000000
set_option linter.unusedSimpArgs false
set_option linter.unusedVariables false
namespace Go.Proofs.YtoojdkaimhlcbaaGreat
open Go Go.RowKit Go.Sort
def offW (T n:Nat) (W:World):Nat:=((List.range n).filter fun k=>match W.cell? ⟨T,k,none⟩ with | some (.bool false)=>true | _=>false).length
def moreN:Value→Nat
 | .bool true=>1
 | _=>0
theorem offW_of {T:Nat} {W:World} {tk:List Bool} (h:BoxAt W T (tk.map .bool)):offW T tk.length W=tk.length-tk.count true:=by
 have key:∀ k (hk:k<tk.length),(match W.cell? ⟨T,k,none⟩ with | some (.bool false)=>true | _=>false)=!tk[k]:=fun k hk=>by
  rw[h.c k (.bool tk[k]) (by rw[List.getElem?_map,List.getElem?_eq_getElem hk];rfl)]
  cases tk[k] <;> rfl
 have h2:(List.range tk.length).filter (fun k=>match W.cell? ⟨T,k,none⟩ with | some (.bool false)=>true | _=>false)=(List.range tk.length).filter fun k=>!(tk[k]?.getD true):=by
  apply List.filter_congr
  intro k hk
  have hk:=List.mem_range.1 hk
  rw[key k hk,List.getElem?_eq_getElem hk]
  rfl
 unfold offW
 rw[h2]
 clear key h2 h
 induction tk with
 | nil=>rfl
 | cons b r ih =>
  rw[List.length_cons,List.range_succ_eq_map,List.filter_cons,List.filter_map,List.count_cons]
  have e:((fun k=>!((b :: r)[k]?.getD true)) ∘ Nat.succ)=fun k=>!(r[k]?.getD true):=by
   funext k
   simp
  rw[e]
  have hc:=List.count_le_length (a:=true) (l:=r)
  cases b
  ·simp[ih]
   omega
  simp[ih]
theorem Parts_any (A:Option Addr) (c:Nat) (l:List Rn) (w:World) (hl:Rns w A l) :
  Calls Tryz.prog 8 #[.slice A l.length c] w fun e w'=>∃ S d ps,e=.returned (.tuple #[.slice S ps.length d,.int .i64 (Cal.numE l)])∧Prts w' S ps∧ps.map Prt.two=(if Cal.numE l=0 then Cal.prtTo l l.length else [])∧Below w.heap.size w w':=by
 have hck:=Lib.hid (CheckNumbers_any A c l w hl)
 by_cases h0:Cal.numE l=0
 ·obtain⟨hl200,_,_⟩:=Cal.numE_zero.1 h0
  rw[h0] at hck ⊢
  rw[if_pos rfl]
  replace hl:=Lib.hid hl
  have hmk:=fun W=>mk_bools W l.length (by omega)
  go_enter Tryz.func8,Tryz.ntmps8
  go_wp2_with (go_at_call 27;refine hck.out.mono ?_;rintro e0 w1 ⟨rfl,hb1⟩;replace hb1:=Lib.hid hb1;clear hck)
  clear hmk
  have hI0:Hid (PtO w1 (List.replicate l.length false) (.slice none 0 0) [] (w1.alloc (.cells (madeCells #[.bool false] l.length) 4))):=⟨below_alloc _ _,by
   have:=BoxAt.new w1 (madeCells #[.bool false] l.length) 4
   rw[made_bools] at this
   exact this,OwnL.nil _ _ _ _,fun p hp=>(by cases hp),fun p hp=>(by cases hp)⟩
  have hU0:=Lib.hid (Cal.Outs.zero l)
  have hP0:Hid ((([]:List Prt).map Prt.two)=Cal.prtTo l 0):=rfl
  go_loopw [6,23] (fun ov i wr=>∃ (k:Nat) (v:Value) (tk:List Bool) (ps:List Prt),k≤l.length∧i=.int .i64 k∧ov=v∧Hid (Cal.Outs l k tk)∧Hid (ps.map Prt.two=Cal.prtTo l k)∧Hid (PtO w1 tk v ps wr)) (fun _ i _=>l.length-(intOf i).toNat)
  case atStart=>exact⟨0,_,_,[],Nat.zero_le _,rfl,rfl,hU0,hP0,hI0⟩
  case round =>
   clear hI0 hU0 hP0
   obtain⟨k,v,tk,ps,hk,rfl,rfl,hU,hP,hI⟩:=hrel
   by_cases hlt:k<l.length
   ·have hk':l[k]?=some l[k]:=List.getElem?_eq_getElem hlt
    obtain⟨b,o,rfl,hbl,ao,an,ha1,ha2,c0,c1⟩:=rn_at (hl.out.rows.below (hb1.out.trans (hI.out.bel.mono hb1.out.size))) hk'
    have hki:(k:Int)<(l.length:Int):=by omega
    have hkt:k<tk.length:=by rw[hU.out.len];exact hlt
    have hbx:=BoxAt.new wr #[.string ao,.string an] 41
    obtain⟨x0,x1⟩:=hbx.c2
    replace hI:=Lib.hid (hI.out.below (below_alloc wr (.cells #[.string ao,.string an] 41)))
    have t0:=hI.out.t.c k (.bool tk[k]) (by rw[List.getElem?_map,List.getElem?_eq_getElem hkt];rfl)
    clear hk'
    cases htk:tk[k]
    ·rw[htk] at t0
     have hG:=Lib.hid (hU.out.gather hlt (by rw[List.getElem?_eq_getElem hkt,htk]) [Cal.newT l k] (fun d hd=>List.mem_singleton.1 hd))
     have hfst:=Lib.hid hG.out.first
     have hIs:=PtI.start (wp:=wr.alloc (.cells #[.string ao,.string an] 41)) hI.out.t ao an
     rw[Cal.oldT_at hlt,Cal.newT_at hlt,←ha1,←ha2] at hG
     have hb1T:Hid (w1.heap.size≤w1.heap.size):=Nat.le_refl _
     have hbt:=Lib.hid (hI.out.t.lt)
     rw[World.size_alloc] at hIs
     have hJ0:=Lib.hid hIs
     have hlen0:Hid ([ao.toList].length=[an.toList].length∧[ao.toList].length≤1+tk.count true):=⟨rfl,by rw[List.length_singleton];omega⟩
     have hcl0:Hid (true=false→Cal.Cls l tk [ao.toList] [an.toList]):=fun h=>by cases h
     clear hIs htk hbx ha1 ha2
     go_wp2_with fail
     clear t0 x0 x1 c0 c1
     generalize ([ao.toList]:List Cal.Txt)=O0 at *
     generalize ([an.toList]:List Cal.Txt)=M0 at *
     generalize hwp:wr.alloc (.cells #[.string ao,.string an] 41)=wp at *
     generalize wr.heap.size+1+1+1=R at *
     clear hwp
     go_loopw [10] (fun ov wx=>∃ (bm:Bool) (tk:List Bool) (v1 v2:Value) (O M:List Cal.Txt),ov=.bool bm∧Hid (Cal.Gth l k tk O M)∧Hid (PtI wp w1.heap.size R tk v1 v2 v1 v2 O M wx)∧Hid (O.length=M.length∧O.length≤1+tk.count true)∧Hid (bm=false→Cal.Cls l tk O M)) (fun ov wx=>offW w1.heap.size l.length wx+moreN ov)
     case atStart=>exact⟨true,_,_,_,_,_,rfl,hG,hJ0,hlen0,hcl0⟩
     case round =>
      clear hG hJ0 hlen0 hcl0
      obtain⟨bm,tk0,v1,v2,O,M,rfl,hG,hJ,hlen,hcl⟩:=hrel
      cases bm
      ·have hends:=hG.out.ends (hcl.out rfl)
       have hU2:=Lib.hid hends.1
       have hOO:=Lib.hid hends.2.1
       have hMM:=Lib.hid hends.2.2
       have hO9:O.length≤300:=by have:=hlen.out.2;have:=List.count_le_length (a:=true) (l:=tk0);rw[hG.out.len] at this;omega
       have hM9:M.length≤300:=by have:=hlen.out.1;omega
       have hP2:Hid ((∀ p:Prt,p.O=Cal.compO l k→p.M=Cal.compM l k→(ps ++ [p]).map Prt.two=Cal.prtTo l (k+1))):=fun p e1 e2=>by
        rw[List.map_append,List.map_singleton,hP.out,Cal.prtTo_yes hfst.out]
        unfold Prt.two
        rw[e1,e2]
       have hbx:=Lib.hid (hI.out.gather hJ.out).bel
       clear hends hcl hG hlen hP hU hfst
       go_wp2_with fail
       replace hJ:=Lib.hid (hJ.out.below ((Below.refl _ wr).drew))
       refine wp_region_held_drew (S:=Sx w1 [(R,0,v1),(R,1,v2)]) (by kernel_rfl) (Sx.mk (by simp only[cs_iff_cons];exact⟨hJ.out.r.c 0 _ rfl,hJ.out.r.c 1 _ rfl,cs_nil _⟩) (hI.out.gather hJ.out).bel) (fun hHeld=>?_)
       generalize wr.drew=Z0 at *
       refine tkHx 0 85 ?_
       refine tkHx 1 86 ?_
       refine tkHx 2 87 ?_
       refine tkHx 4 89 ?_
       refine tkHx 5 90 ?_
       (refine ratHx 3 (fun K hK=>?_);go_simp)
       refine (gSortedB_any _ wp.heap.size v1 O hJ.out.o1 (by omega)).mono ?_
       rintro e0 Z1 ⟨s1,rfl,hs1,hg1,hv1⟩
       go_simp
       replace hJ:=Lib.hid (hJ.out.first hg1 hs1 (.inl hv1))
       refine hK.out _ _ (Sx.mk (by simp only[cs_iff_cons];exact⟨hJ.out.r.c 0 _ rfl,hJ.out.r.c 1 _ rfl,cs_nil _⟩) (hI.out.gather hJ.out).bel) (fun hH2=>?_)
       clear hK K hHeld hs1 hg1 hv1
       have hHeld:=hH2
       clear hH2
       (try simp only[apS,apN,siA,scZ,scS])
       (refine ratHx 6 (fun K hK=>?_);go_simp)
       refine (gSortedB_any _ wp.heap.size v2 M hJ.out.o2 (by omega)).mono ?_
       rintro e0 Z2 ⟨s2,rfl,hs2,hg2,hv2⟩
       go_simp
       replace hJ:=Lib.hid (hJ.out.second hg2 hs2 (.inl hv2))
       refine hK.out _ _ (Sx.mk (by simp only[cs_iff_cons];exact⟨hJ.out.r.c 0 _ rfl,hJ.out.r.c 1 _ rfl,cs_nil _⟩) (hI.out.gather hJ.out).bel) (fun hH2=>?_)
       clear hK K hHeld hs2 hg2 hv2
       have hHeld:=hH2
       clear hH2
       (try simp only[apS,apN,siA,scZ,scS])
       have hO8:=Cal.tups_length O
       have hM8:=Cal.tups_length M
       rw[hOO.out] at hJ hO8
       rw[hMM.out] at hJ hM8
       obtain⟨A1,c1,hs1,_⟩:=TextsL.rows hJ.out.o1
       obtain⟨A2,c2,hs2,_⟩:=TextsL.rows hJ.out.o2
       subst hs1
       subst hs2
       have hpp:=Lib.hid (hP2.out ⟨A1,c1,Cal.compO l k,A2,c2,Cal.compM l k⟩ rfl rfl)
       clear hP2 hOO hMM
       refine tkHx 7 92 ?_
       have hQ:=Lib.hid ((hI.out.gather hJ.out).below (below_alloc Z2 (.cells #[.slice A1 (Cal.compO l k).length c1,.slice A2 (Cal.compM l k).length c2] 25)))
       have hsrc:RowsAt (Z2.alloc (.cells #[.slice A1 (Cal.compO l k).length c1,.slice A2 (Cal.compM l k).length c2] 25)) (some ⟨Z2.heap.size,0,none⟩) 2 [Prt.cells ⟨A1,c1,Cal.compO l k,A2,c2,Cal.compM l k⟩]:=rowsAt_new Z2 [.slice A1 (Cal.compO l k).length c1,.slice A2 (Cal.compM l k).length c2] 25
       have hul:∀ g,u6.ownBlock=some g→g<wp.heap.size:=fun g eg=>(OwnL.lt hI.out.o g eg).2
       replace hJ:=Lib.hid (hJ.out.below (below_alloc Z2 (.cells #[.slice A1 (Cal.compO l k).length c1,.slice A2 (Cal.compM l k).length c2] 25)))
       have hpf:∀ a,(A1=some a∨A2=some a)→w1.heap.size<a.block∧a.block<(Z2.alloc (.cells #[.slice A1 (Cal.compO l k).length c1,.slice A2 (Cal.compM l k).length c2] 25)).heap.size∧u6.ownBlock≠some a.block:=fun a ha=>by
        have htl:=hJ.out.tl
        have:wp.heap.size≤a.block∧a.block<(Z2.alloc (.cells #[.slice A1 (Cal.compO l k).length c1,.slice A2 (Cal.compM l k).length c2] 25)).heap.size:=by
         rcases ha with ha | ha
         ·exact OwnL.lt hJ.out.o1 a.block (by rw[ha];rfl)
         exact OwnL.lt hJ.out.o2 a.block (by rw[ha];rfl)
        exact⟨by omega,this.2,fun eg=>by have:=hul _ eg;omega⟩
       have hxr:=Lib.hid (And.intro (OwnL.formR hJ.out.o1) (OwnL.formR hJ.out.o2))
       have hRb:=Lib.hid hJ.out.r
       have hRl:=hJ.out.rl
       have hw1:w1.heap.size+1≤Z2.heap.size+1:=by have:=hJ.out.tl;have:=hJ.out.g.size;rw[World.size_alloc] at this;omega
       (refine ratHx 8 (fun K hK=>?_);go_simp)
       refine hK.out _ _ (hHeld.alloc _) (fun hH2=>?_)
       clear hK K hHeld
       have hHeld:=hH2
       clear hH2
       (try simp only[apS,apN,siA,scZ,scS])
       (refine wpAnyH_ready (rs:=[9]) (by decide +kernel) (by simp) ?_;refine AllReadyH.cons rfl (fun K hK=>?_) AllReadyH.nil)
       refine step_append_rows elemPrt (by rfl) (.tmp 85) (.tmp 93) (by rfl) (by rfl) (by rfl) hQ.out.o hsrc rfl (prt_wid [⟨A1,c1,Cal.compO l k,A2,c2,Cal.compM l k⟩]) (prt_one [⟨A1,c1,Cal.compO l k,A2,c2,Cal.compM l k⟩]) (by
        have:=congrArg List.length hpp.out
        have h2:=Cal.prtTo_len l (k+1)
        rw[←this,List.length_map,List.length_append] at h2
        simp only[List.length_map,List.length_singleton] at h2 ⊢
        omega) (by decide) (by rw[World.size_alloc];exact hw1) ?_
       intro v' Z4 hown hg hob
       have hown2:OwnL Z4 (w1.heap.size+1) 25 2 v' ((ps ++ [(⟨A1,c1,Cal.compO l k,A2,c2,Cal.compM l k⟩:Prt)]).map Prt.cells):=by
        rw[List.map_append,List.map_singleton]
        exact hown
       have hN:=Lib.hid (hQ.out.push hg hown2 hob hxr.out hpf)
       have hR4:=Lib.hid (hRb.out.grown hg (fun eg=>by have:=hul _ eg.symm;omega))
       refine hK.out _ _ (Sx.mk (by simp only[cs_iff_cons];exact⟨hR4.out.c 0 _ rfl,hR4.out.c 1 _ rfl,cs_nil _⟩) hN.out.bel) (fun hH2=>?_)
       clear hK K hHeld hown hown2 hg hob hQ hsrc hpf hxr hRb hul hJ hR4
       have hHeld:=hH2
       clear hH2
       (try simp only[apS,apN,siA,scZ,scS])
       refine tkHx 10 6 ?_
       refine wpAnyH_done (by kernel_rfl) ?_ _
       (try simp only[apS,apN,siA,scZ,scS])
       clear hHeld
       go_wp2_with fail
       go_roundw
       case rel=>exact⟨k+1,_,_,_,by omega,by go_num,rfl,hU2,hpp,hN⟩
       case measure=>simp[intOf];omega
      clear hcl
      go_wp2_with fail
      obtain⟨cn,hc9⟩:∃ cn,tk0.count true=cn:=⟨_,rfl⟩
      have hs0:Hid ((false=false→tk0.count true=cn∧∀ q:Nat,q<0→tk0[q]?=some false→¬Cal.mtc l O M q)∧(false=true→cn<tk0.count true)):=⟨fun _=>⟨hc9,fun q hq=>absurd hq (Nat.not_lt_zero _)⟩,fun h=>by cases h⟩
      have hofs:=Lib.hid (offW_of hJ.out.t)
      rw[hG.out.len] at hofs
      replace hc9:=Lib.hid hc9
      go_loopw [10,42] (fun ov iv wx=>∃ (m:Nat) (bm:Bool) (tk:List Bool) (v1 v2:Value) (O M:List Cal.Txt),m≤l.length∧iv=.int .i64 m∧ov=.bool bm∧Hid (Cal.Gth l k tk O M)∧Hid (PtI wp w1.heap.size R tk v1 v2 v1 v2 O M wx)∧Hid (O.length=M.length∧O.length≤1+tk.count true)∧Hid ((bm=false→tk.count true=cn∧∀ q:Nat,q<m→tk[q]?=some false→¬Cal.mtc l O M q)∧(bm=true→cn<tk.count true))) (fun _ iv _=>l.length-(intOf iv).toNat)
      case atStart=>exact⟨0,false,_,_,_,_,_,Nat.zero_le _,rfl,rfl,hG,hJ,hlen,hs0⟩
      case round =>
       clear hG hJ hlen hs0
       obtain⟨m,bm,tk1,v1,v2,O,M,hm,rfl,rfl,hG,hJ,hlen,hst⟩:=hrel
       have hbx:=(hI.out.gather hJ.out).bel
       by_cases hmt:m<l.length
       ·have hm':l[m]?=some l[m]:=List.getElem?_eq_getElem hmt
        obtain⟨b',o',hA',_,ay,an2,hy1,hy2,q0,q1⟩:=rn_at (hl.out.rows.below (hb1.out.trans (hbx.mono hb1.out.size))) hm'
        cases hA'
        have hmi:(m:Int)<(l.length:Int):=by omega
        have hmt1:m<tk1.length:=by rw[hG.out.len];exact hmt
        have hY:=Lib.hid (hJ.out.look hbx (Nat.le_refl _) ay an2)
        have htm3:(tk1.map Value.bool)[m]?=some (.bool tk1[m]):=by rw[List.getElem?_map,List.getElem?_eq_getElem hmt1];rfl
        have hmm9:Hid (Cal.mtc l O M m↔ay.toList∈O∨an2.toList∈M):=by show _↔_;unfold Cal.mtc;rw[Cal.oldT_at hmt,Cal.newT_at hmt,←hy1,←hy2]
        clear hJ hm'
        cases htm:tk1[m]
        ·have htm2:tk1[m]?=some false:=by rw[List.getElem?_eq_getElem hmt1,htm]
         rw[htm] at htm3
         obtain⟨A1,c1,rfl,_⟩:=TextsL.rows hY.out.i.o1
         obtain⟨A2,c2,rfl,_⟩:=TextsL.rows hY.out.i.o2
         have hO8:O.length≤1000000:=by have:=hlen.out.2;have:=List.count_le_length (a:=true) (l:=tk1);rw[hG.out.len] at this;omega
         have hM8:M.length≤1000000:=by have:=hlen.out.1;omega
         have hcA:=Lib.hid (fun W (hW:PtY w1 wp w1.heap.size R wr.heap.size ay an2 tk1 (.slice A1 O.length c1) (.slice A2 M.length c2) (.slice A1 O.length c1) (.slice A2 M.length c2) O M W)=>ContainsS_any A1 c1 O ay W (OwnL.formR hW.i.o1) hO8)
         have hcB:=Lib.hid (fun W (hW:PtY w1 wp w1.heap.size R wr.heap.size ay an2 tk1 (.slice A1 O.length c1) (.slice A2 M.length c2) (.slice A1 O.length c1) (.slice A2 M.length c2) O M W)=>ContainsS_any A2 c2 M an2 W (OwnL.formR hW.i.o2) hM8)
         clear hO8 hM8
         by_cases ho:ay.toList∈O
         ·have hmm:=hmm9.out.2 (.inl ho)
          rw[decide_eq_true ho] at hcA
          have hct:=hcA
          clear hcA hcB hmm9 ho htm
          (obtain⟨y0,y1⟩:=hY.out.y.c2;obtain⟨r0,r1⟩:=hY.out.i.r.c2;have t0:=hY.out.i.t.c m _ htm3;have tf:=hY.out.i.t.free m (by rw[List.length_map];exact hmt1))
          have hG2:=Lib.hid (hG.out.join hmt hmm (O':=O ++ [ay.toList]) (M':=M ++ [an2.toList]) (fun d=>by rw[List.mem_append,List.mem_singleton,Cal.oldT_at hmt,←hy1]) (fun d=>by rw[List.mem_append,List.mem_singleton,Cal.newT_at hmt,←hy2]))
          have hcs:=Cal.count_set (tk:=tk1) (k:=m) htm2
          have hlen2:Hid ((O ++ [ay.toList]).length=(M ++ [an2.toList]).length∧(O ++ [ay.toList]).length≤1+(tk1.set m true).count true):=⟨by rw[List.length_append,List.length_append,List.length_singleton,List.length_singleton,hlen.out.1],by rw[List.length_append,List.length_singleton,hcs];have:=hlen.out.2;omega⟩
          have hst2:Hid (cn<(tk1.set m true).count true):=by
           show _<_
           rw[hcs]
           cases bm
           ·have:=(hst.out.1 rfl).1;omega
           have:=hst.out.2 rfl;omega
          have hO9:O.length≤300:=by have:=hlen.out.2;have:=List.count_le_length (a:=true) (l:=tk1);rw[hG.out.len] at this;omega
          have hM9:M.length≤300:=by have:=hlen.out.1;omega
          clear hG hlen hst hmm hcs htm2 hy1 hy2 hm hlt
          go_wp2_with (go_at_call 28;clear t0 tf r0 r1 y0 y1;(first | (with_reducible refine (hct.out _ hY.out).mono ?_;clear hct) | (with_reducible refine (hcn2.out _ hY.out).mono ?_;clear hcn2));rintro e0 wn ⟨rfl,hbn⟩;replace hY:=Lib.hid (hY.out.below hbn);clear hbn;(obtain⟨y0,y1⟩:=hY.out.y.c2;obtain⟨r0,r1⟩:=hY.out.i.r.c2;have t0:=hY.out.i.t.c m _ htm3;have tf:=hY.out.i.t.free m (by rw[List.length_map];exact hmt1)))
          clear t0 tf r0 r1 y0 y1
          replace hY:=Lib.hid (hY.out.mark hmt1)
          generalize wn.setCell ⟨w1.heap.size,m,none⟩ (.bool true)=Zs at *
          replace hY:=Lib.hid (hY.out.below ((Below.refl _ Zs).drew))
          refine wp_region_heldP (S:=Sx w1 [(wr.heap.size,0,.string ay),(wr.heap.size,1,.string an2)]) (A:=fun W=>W.cell? ⟨R,0,none⟩=some (.slice A1 O.length c1)) (B:=fun W=>W.cell? ⟨R,1,none⟩=some (.slice A2 M.length c2)) 13 15 (by kernel_rfl) (Sx.mk (by simp only[cs_iff_cons];exact⟨hY.out.y.c 0 _ rfl,hY.out.y.c 1 _ rfl,cs_nil _⟩) hY.out.bel) (hY.out.i.r.c 0 _ rfl) (hY.out.i.r.c 1 _ rfl) (fun hHeld=>?_)
          generalize Zs.drew=Z0 at *
          (refine tkPx 0 70 (fun hH2=>?_) hHeld;clear hHeld;have hHeld:=hH2;clear hH2)
          (refine tkPx 1 71 (fun hH2=>?_) hHeld;clear hHeld;have hHeld:=hH2;clear hH2)
          (refine tkPx 2 72 (fun hH2=>?_) hHeld;clear hHeld;have hHeld:=hH2;clear hH2)
          (refine tkPx 3 73 (fun hH2=>?_) hHeld;clear hHeld;have hHeld:=hH2;clear hH2)
          (refine tkPx 6 76 (fun hH2=>?_) hHeld;clear hHeld;have hHeld:=hH2;clear hH2)
          (refine tkPx 7 77 (fun hH2=>?_) hHeld;clear hHeld;have hHeld:=hH2;clear hH2)
          (refine tkPx 8 78 (fun hH2=>?_) hHeld;clear hHeld;have hHeld:=hH2;clear hH2)
          (refine tkPx 9 79 (fun hH2=>?_) hHeld;clear hHeld;have hHeld:=hH2;clear hH2)
          (refine wpAnyHP_ready (rs:=[4,10]) (by decide +kernel) (by simp) ?_;refine AllReadyP.cons rfl (fun K hK=>?_) (AllReadyP.cons rfl (fun K hK=>?_) AllReadyP.nil))
          ·(rw[if_pos (by kernel_rfl)];go_simp)
           have hsO:=Lib.hid (rowsAt_new Z0 [.string ay] 9)
           skip
           replace hY:=Lib.hid (hY.out.below (below_alloc Z0 (.cells #[.string ay] 9)))
           skip
           refine hK.out _ _ ⟨(Sx.mk (by simp only[cs_iff_cons];exact⟨hY.out.y.c 0 _ rfl,hY.out.y.c 1 _ rfl,cs_nil _⟩) hY.out.bel),fun _=>hY.out.i.r.c 0 _ rfl,fun _=>hY.out.i.r.c 1 _ rfl⟩ (fun hH2=>?_)
           clear hK K hHeld
           have hHeld:=hH2
           clear hH2
           (try simp only[apS,apN,siA,scZ,scS])
           generalize Z0.alloc (.cells #[.string ay] 9)=Z1 at *
           (refine wpAnyHP_ready (rs:=[5,10]) (by decide +kernel) (by simp) ?_;refine AllReadyP.cons rfl (fun K hK=>?_) (AllReadyP.cons rfl (fun K hK=>?_) AllReadyP.nil))
           ·refine step_append_rows elemTxt (by rfl) (.tmp 71) (.tmp 74) (by rfl) (by rfl) (by rfl) hY.out.i.o1 hsO.out rfl (fun r hr=>by rw[List.mem_singleton.1 hr];rfl) (fun r hr u hu=>by rw[List.mem_singleton.1 hr] at hu;rw[List.mem_singleton.1 hu];rfl) (by rw[txtRows_length,List.length_singleton];omega) (by decide) hY.out.i.g.size ?_
            intro u1 Z2 hown hg hob
            rw[←txtRows_snoc O (a:=ay) rfl] at hown
            skip
            replace hY:=Lib.hid (hY.out.first hg hown hob)
            refine hK.out _ _ ⟨(Sx.mk (by simp only[cs_iff_cons];exact⟨hY.out.y.c 0 _ rfl,hY.out.y.c 1 _ rfl,cs_nil _⟩) hY.out.bel),fun _=>hY.out.i.r.c 0 _ rfl,fun _=>hY.out.i.r.c 1 _ rfl⟩ (fun hH2=>?_)
            clear hK K hHeld
            have hHeld:=hH2
            clear hH2
            (try simp only[apS,apN,siA,scZ,scS])
            clear hown hg hob
            (refine tkPx 12 82 (fun hH2=>?_) hHeld;clear hHeld;have hHeld:=hH2;clear hH2)
            (refine wpAnyHP_ready (rs:=[10]) (by decide +kernel) (by simp) ?_;refine AllReadyP.cons rfl (fun K hK=>?_) AllReadyP.nil)
            (rw[if_pos (by kernel_rfl)];go_simp)
            have hsN:=Lib.hid (rowsAt_new Z2 [.string an2] 9)
            skip
            replace hY:=Lib.hid (hY.out.below (below_alloc Z2 (.cells #[.string an2] 9)))
            skip
            refine hK.out _ _ ⟨(Sx.mk (by simp only[cs_iff_cons];exact⟨hY.out.y.c 0 _ rfl,hY.out.y.c 1 _ rfl,cs_nil _⟩) hY.out.bel),fun _=>hY.out.i.r.c 0 _ rfl,fun _=>hY.out.i.r.c 1 _ rfl⟩ (fun hH2=>?_)
            clear hK K hHeld
            have hHeld:=hH2
            clear hH2
            (try simp only[apS,apN,siA,scZ,scS])
            generalize Z2.alloc (.cells #[.string an2] 9)=Z3 at *
            (refine wpAnyHP_ready (rs:=[11]) (by decide +kernel) (by simp) ?_;refine AllReadyP.cons rfl (fun K hK=>?_) AllReadyP.nil)
            refine step_append_rows elemTxt (by rfl) (.tmp 77) (.tmp 80) (by rfl) (by rfl) (by rfl) hY.out.i.o2 hsN.out rfl (fun r hr=>by rw[List.mem_singleton.1 hr];rfl) (fun r hr u hu=>by rw[List.mem_singleton.1 hr] at hu;rw[List.mem_singleton.1 hu];rfl) (by rw[txtRows_length,List.length_singleton];omega) (by decide) hY.out.i.g.size ?_
            intro u2 Z7 hown hg hob
            rw[←txtRows_snoc M (a:=an2) rfl] at hown
            replace hY:=Lib.hid (hY.out.second hg hown hob)
            refine hK.out _ _ ⟨(Sx.mk (by simp only[cs_iff_cons];exact⟨hY.out.y.c 0 _ rfl,hY.out.y.c 1 _ rfl,cs_nil _⟩) hY.out.bel),fun _=>hY.out.i.r.c 0 _ rfl,fun _=>hY.out.i.r.c 1 _ rfl⟩ (fun hH2=>?_)
            clear hK K hHeld
            have hHeld:=hH2
            clear hH2
            (try simp only[apS,apN,siA,scZ,scS])
            clear hown hg hob
            obtain⟨B1,e1,hu1,_⟩:=(show ∃ A c,u1=.slice A _ c∧_ from TextsL.rows hY.out.i.o1)
            obtain⟨B2,e2,hu2,_⟩:=(show ∃ A c,u2=.slice A _ c∧_ from TextsL.rows hY.out.i.o2)
            generalize (O ++ [ay.toList]).length=N1 at hu1
            generalize (M ++ [an2.toList]).length=N2 at hu2
            subst hu1
            subst hu2
            have r0:=hY.out.i.r.c 0 _ rfl;have f0:=hY.out.i.r.free 0 (by simp)
            (refine wpAnyHP_ready (rs:=[13]) (by decide +kernel) (by simp) ?_;refine AllReadyP.cons rfl (fun K hK=>?_) AllReadyP.nil;rw[if_pos (by kernel_rfl)];go_simp)
            replace hY:=Lib.hid (hY.out.setR 0 (.slice B1 N1 e1) (by decide) (.slice B1 N1 e1) (Value.slice A2 M.length c2) rfl)
            refine hK.out _ _ ⟨(Sx.mk (by simp only[cs_iff_cons];exact⟨hY.out.y.c 0 _ rfl,hY.out.y.c 1 _ rfl,cs_nil _⟩) hY.out.bel),fun h=>absurd h (by decide +kernel),fun _=>hY.out.i.r.c 1 _ rfl⟩ (fun hH2=>?_)
            clear hK K hHeld r0 f0
            have hHeld:=hH2
            clear hH2
            (try simp only[apS,apN,siA,scZ,scS])
            generalize Z7.setCell ⟨R,0,none⟩ (.slice B1 N1 e1)=Z8 at *
            (refine tkPx 14 83 (fun hH2=>?_) hHeld;clear hHeld;have hHeld:=hH2;clear hH2)
            have r1:=hY.out.i.r.c 1 _ rfl;have f1:=hY.out.i.r.free 1 (by simp)
            (refine wpAnyHP_ready (rs:=[15]) (by decide +kernel) (by simp) ?_;refine AllReadyP.cons rfl (fun K hK=>?_) AllReadyP.nil;rw[if_pos (by kernel_rfl)];go_simp)
            replace hY:=Lib.hid (hY.out.setR 1 (.slice B2 N2 e2) (by decide) (.slice B1 N1 e1) (.slice B2 N2 e2) rfl)
            refine hK.out _ _ ⟨(Sx.mk (by simp only[cs_iff_cons];exact⟨hY.out.y.c 0 _ rfl,hY.out.y.c 1 _ rfl,cs_nil _⟩) hY.out.bel),fun h=>absurd h (by decide +kernel),fun h=>absurd h (by decide +kernel)⟩ (fun hH2=>?_)
            clear hK K hHeld r1 f1 hH2
            (try simp only[apS,apN,siA,scZ,scS])
            generalize Z8.setCell ⟨R,1,none⟩ (.slice B2 N2 e2)=Z9 at *
            refine wpAnyHP_done (by decide +kernel) ?_ _
            (try simp only[apS,apN,siA,scZ,scS])
            have hJ2:=Lib.hid hY.out.i
            clear hY
            go_wp2_with fail
            go_roundw
            case rel=>exact⟨m+1,true,_,_,_,_,_,by omega,by go_num,rfl,hG2,hJ2,hlen2,⟨fun h=>(by cases h),fun _=>hst2.out⟩⟩
            case measure=>simp[intOf];omega
           (rw[if_pos (by kernel_rfl)];go_simp)
           have hsN:=Lib.hid (rowsAt_new Z1 [.string an2] 9)
           (have hn1:Hid ((Value.slice A1 O.length c1).ownBlock≠some Z1.heap.size):=fun e=>by have:=(OwnL.lt hY.out.i.o1 _ e).2;omega)
           replace hY:=Lib.hid (hY.out.below (below_alloc Z1 (.cells #[.string an2] 9)))
           (replace hsO:=Lib.hid (hsO.out.below (below_alloc Z1 (.cells #[.string an2] 9))))
           refine hK.out _ _ ⟨(Sx.mk (by simp only[cs_iff_cons];exact⟨hY.out.y.c 0 _ rfl,hY.out.y.c 1 _ rfl,cs_nil _⟩) hY.out.bel),fun _=>hY.out.i.r.c 0 _ rfl,fun _=>hY.out.i.r.c 1 _ rfl⟩ (fun hH2=>?_)
           clear hK K hHeld
           have hHeld:=hH2
           clear hH2
           (try simp only[apS,apN,siA,scZ,scS])
           generalize Z1.alloc (.cells #[.string an2] 9)=Z2 at *
           have hnN:=hn1
           clear hn1
           (refine wpAnyHP_ready (rs:=[5]) (by decide +kernel) (by simp) ?_;refine AllReadyP.cons rfl (fun K hK=>?_) AllReadyP.nil)
           refine step_append_rows elemTxt (by rfl) (.tmp 71) (.tmp 74) (by rfl) (by rfl) (by rfl) hY.out.i.o1 hsO.out rfl (fun r hr=>by rw[List.mem_singleton.1 hr];rfl) (fun r hr u hu=>by rw[List.mem_singleton.1 hr] at hu;rw[List.mem_singleton.1 hu];rfl) (by rw[txtRows_length,List.length_singleton];omega) (by decide) hY.out.i.g.size ?_
           intro u1 Z3 hown hg hob
           rw[←txtRows_snoc O (a:=ay) rfl] at hown
           (have hsN2:=Lib.hid (rows_far hsN.out hg (fun a ea=>by cases ea;exact Ne.symm hnN.out));have hsN:=hsN2;clear hsN2)
           replace hY:=Lib.hid (hY.out.first hg hown hob)
           refine hK.out _ _ ⟨(Sx.mk (by simp only[cs_iff_cons];exact⟨hY.out.y.c 0 _ rfl,hY.out.y.c 1 _ rfl,cs_nil _⟩) hY.out.bel),fun _=>hY.out.i.r.c 0 _ rfl,fun _=>hY.out.i.r.c 1 _ rfl⟩ (fun hH2=>?_)
           clear hK K hHeld
           have hHeld:=hH2
           clear hH2
           (try simp only[apS,apN,siA,scZ,scS])
           clear hown hg hob
           (refine tkPx 12 82 (fun hH2=>?_) hHeld;clear hHeld;have hHeld:=hH2;clear hH2)
           (refine wpAnyHP_ready (rs:=[11]) (by decide +kernel) (by simp) ?_;refine AllReadyP.cons rfl (fun K hK=>?_) AllReadyP.nil)
           refine step_append_rows elemTxt (by rfl) (.tmp 77) (.tmp 80) (by rfl) (by rfl) (by rfl) hY.out.i.o2 hsN.out rfl (fun r hr=>by rw[List.mem_singleton.1 hr];rfl) (fun r hr u hu=>by rw[List.mem_singleton.1 hr] at hu;rw[List.mem_singleton.1 hu];rfl) (by rw[txtRows_length,List.length_singleton];omega) (by decide) hY.out.i.g.size ?_
           intro u2 Z7 hown hg hob
           rw[←txtRows_snoc M (a:=an2) rfl] at hown
           replace hY:=Lib.hid (hY.out.second hg hown hob)
           refine hK.out _ _ ⟨(Sx.mk (by simp only[cs_iff_cons];exact⟨hY.out.y.c 0 _ rfl,hY.out.y.c 1 _ rfl,cs_nil _⟩) hY.out.bel),fun _=>hY.out.i.r.c 0 _ rfl,fun _=>hY.out.i.r.c 1 _ rfl⟩ (fun hH2=>?_)
           clear hK K hHeld
           have hHeld:=hH2
           clear hH2
           (try simp only[apS,apN,siA,scZ,scS])
           clear hown hg hob
           obtain⟨B1,e1,hu1,_⟩:=(show ∃ A c,u1=.slice A _ c∧_ from TextsL.rows hY.out.i.o1)
           obtain⟨B2,e2,hu2,_⟩:=(show ∃ A c,u2=.slice A _ c∧_ from TextsL.rows hY.out.i.o2)
           generalize (O ++ [ay.toList]).length=N1 at hu1
           generalize (M ++ [an2.toList]).length=N2 at hu2
           subst hu1
           subst hu2
           have r0:=hY.out.i.r.c 0 _ rfl;have f0:=hY.out.i.r.free 0 (by simp)
           (refine wpAnyHP_ready (rs:=[13]) (by decide +kernel) (by simp) ?_;refine AllReadyP.cons rfl (fun K hK=>?_) AllReadyP.nil;rw[if_pos (by kernel_rfl)];go_simp)
           replace hY:=Lib.hid (hY.out.setR 0 (.slice B1 N1 e1) (by decide) (.slice B1 N1 e1) (Value.slice A2 M.length c2) rfl)
           refine hK.out _ _ ⟨(Sx.mk (by simp only[cs_iff_cons];exact⟨hY.out.y.c 0 _ rfl,hY.out.y.c 1 _ rfl,cs_nil _⟩) hY.out.bel),fun h=>absurd h (by decide +kernel),fun _=>hY.out.i.r.c 1 _ rfl⟩ (fun hH2=>?_)
           clear hK K hHeld r0 f0
           have hHeld:=hH2
           clear hH2
           (try simp only[apS,apN,siA,scZ,scS])
           generalize Z7.setCell ⟨R,0,none⟩ (.slice B1 N1 e1)=Z8 at *
           (refine tkPx 14 83 (fun hH2=>?_) hHeld;clear hHeld;have hHeld:=hH2;clear hH2)
           have r1:=hY.out.i.r.c 1 _ rfl;have f1:=hY.out.i.r.free 1 (by simp)
           (refine wpAnyHP_ready (rs:=[15]) (by decide +kernel) (by simp) ?_;refine AllReadyP.cons rfl (fun K hK=>?_) AllReadyP.nil;rw[if_pos (by kernel_rfl)];go_simp)
           replace hY:=Lib.hid (hY.out.setR 1 (.slice B2 N2 e2) (by decide) (.slice B1 N1 e1) (.slice B2 N2 e2) rfl)
           refine hK.out _ _ ⟨(Sx.mk (by simp only[cs_iff_cons];exact⟨hY.out.y.c 0 _ rfl,hY.out.y.c 1 _ rfl,cs_nil _⟩) hY.out.bel),fun h=>absurd h (by decide +kernel),fun h=>absurd h (by decide +kernel)⟩ (fun hH2=>?_)
           clear hK K hHeld r1 f1 hH2
           (try simp only[apS,apN,siA,scZ,scS])
           generalize Z8.setCell ⟨R,1,none⟩ (.slice B2 N2 e2)=Z9 at *
           refine wpAnyHP_done (by decide +kernel) ?_ _
           (try simp only[apS,apN,siA,scZ,scS])
           have hJ2:=Lib.hid hY.out.i
           clear hY
           go_wp2_with fail
           go_roundw
           case rel=>exact⟨m+1,true,_,_,_,_,_,by omega,by go_num,rfl,hG2,hJ2,hlen2,⟨fun h=>(by cases h),fun _=>hst2.out⟩⟩
           case measure=>simp[intOf];omega
          (rw[if_pos (by kernel_rfl)];go_simp)
          have hsN:=Lib.hid (rowsAt_new Z0 [.string an2] 9)
          (have hn1:Hid ((Value.slice A1 O.length c1).ownBlock≠some Z0.heap.size):=fun e=>by have:=(OwnL.lt hY.out.i.o1 _ e).2;omega)
          replace hY:=Lib.hid (hY.out.below (below_alloc Z0 (.cells #[.string an2] 9)))
          skip
          refine hK.out _ _ ⟨(Sx.mk (by simp only[cs_iff_cons];exact⟨hY.out.y.c 0 _ rfl,hY.out.y.c 1 _ rfl,cs_nil _⟩) hY.out.bel),fun _=>hY.out.i.r.c 0 _ rfl,fun _=>hY.out.i.r.c 1 _ rfl⟩ (fun hH2=>?_)
          clear hK K hHeld
          have hHeld:=hH2
          clear hH2
          (try simp only[apS,apN,siA,scZ,scS])
          generalize Z0.alloc (.cells #[.string an2] 9)=Z1 at *
          have hnN:=hn1
          clear hn1
          (refine wpAnyHP_ready (rs:=[4]) (by decide +kernel) (by simp) ?_;refine AllReadyP.cons rfl (fun K hK=>?_) AllReadyP.nil)
          (rw[if_pos (by kernel_rfl)];go_simp)
          have hsO:=Lib.hid (rowsAt_new Z1 [.string ay] 9)
          skip
          replace hY:=Lib.hid (hY.out.below (below_alloc Z1 (.cells #[.string ay] 9)))
          (replace hsN:=Lib.hid (hsN.out.below (below_alloc Z1 (.cells #[.string ay] 9))))
          refine hK.out _ _ ⟨(Sx.mk (by simp only[cs_iff_cons];exact⟨hY.out.y.c 0 _ rfl,hY.out.y.c 1 _ rfl,cs_nil _⟩) hY.out.bel),fun _=>hY.out.i.r.c 0 _ rfl,fun _=>hY.out.i.r.c 1 _ rfl⟩ (fun hH2=>?_)
          clear hK K hHeld
          have hHeld:=hH2
          clear hH2
          (try simp only[apS,apN,siA,scZ,scS])
          generalize Z1.alloc (.cells #[.string ay] 9)=Z2 at *
          (refine wpAnyHP_ready (rs:=[5]) (by decide +kernel) (by simp) ?_;refine AllReadyP.cons rfl (fun K hK=>?_) AllReadyP.nil)
          refine step_append_rows elemTxt (by rfl) (.tmp 71) (.tmp 74) (by rfl) (by rfl) (by rfl) hY.out.i.o1 hsO.out rfl (fun r hr=>by rw[List.mem_singleton.1 hr];rfl) (fun r hr u hu=>by rw[List.mem_singleton.1 hr] at hu;rw[List.mem_singleton.1 hu];rfl) (by rw[txtRows_length,List.length_singleton];omega) (by decide) hY.out.i.g.size ?_
          intro u1 Z3 hown hg hob
          rw[←txtRows_snoc O (a:=ay) rfl] at hown
          (have hsN2:=Lib.hid (rows_far hsN.out hg (fun a ea=>by cases ea;exact Ne.symm hnN.out));have hsN:=hsN2;clear hsN2)
          replace hY:=Lib.hid (hY.out.first hg hown hob)
          refine hK.out _ _ ⟨(Sx.mk (by simp only[cs_iff_cons];exact⟨hY.out.y.c 0 _ rfl,hY.out.y.c 1 _ rfl,cs_nil _⟩) hY.out.bel),fun _=>hY.out.i.r.c 0 _ rfl,fun _=>hY.out.i.r.c 1 _ rfl⟩ (fun hH2=>?_)
          clear hK K hHeld
          have hHeld:=hH2
          clear hH2
          (try simp only[apS,apN,siA,scZ,scS])
          clear hown hg hob
          (refine tkPx 12 82 (fun hH2=>?_) hHeld;clear hHeld;have hHeld:=hH2;clear hH2)
          (refine wpAnyHP_ready (rs:=[11]) (by decide +kernel) (by simp) ?_;refine AllReadyP.cons rfl (fun K hK=>?_) AllReadyP.nil)
          refine step_append_rows elemTxt (by rfl) (.tmp 77) (.tmp 80) (by rfl) (by rfl) (by rfl) hY.out.i.o2 hsN.out rfl (fun r hr=>by rw[List.mem_singleton.1 hr];rfl) (fun r hr u hu=>by rw[List.mem_singleton.1 hr] at hu;rw[List.mem_singleton.1 hu];rfl) (by rw[txtRows_length,List.length_singleton];omega) (by decide) hY.out.i.g.size ?_
          intro u2 Z7 hown hg hob
          rw[←txtRows_snoc M (a:=an2) rfl] at hown
          replace hY:=Lib.hid (hY.out.second hg hown hob)
          refine hK.out _ _ ⟨(Sx.mk (by simp only[cs_iff_cons];exact⟨hY.out.y.c 0 _ rfl,hY.out.y.c 1 _ rfl,cs_nil _⟩) hY.out.bel),fun _=>hY.out.i.r.c 0 _ rfl,fun _=>hY.out.i.r.c 1 _ rfl⟩ (fun hH2=>?_)
          clear hK K hHeld
          have hHeld:=hH2
          clear hH2
          (try simp only[apS,apN,siA,scZ,scS])
          clear hown hg hob
          obtain⟨B1,e1,hu1,_⟩:=(show ∃ A c,u1=.slice A _ c∧_ from TextsL.rows hY.out.i.o1)
          obtain⟨B2,e2,hu2,_⟩:=(show ∃ A c,u2=.slice A _ c∧_ from TextsL.rows hY.out.i.o2)
          generalize (O ++ [ay.toList]).length=N1 at hu1
          generalize (M ++ [an2.toList]).length=N2 at hu2
          subst hu1
          subst hu2
          have r0:=hY.out.i.r.c 0 _ rfl;have f0:=hY.out.i.r.free 0 (by simp)
          (refine wpAnyHP_ready (rs:=[13]) (by decide +kernel) (by simp) ?_;refine AllReadyP.cons rfl (fun K hK=>?_) AllReadyP.nil;rw[if_pos (by kernel_rfl)];go_simp)
          replace hY:=Lib.hid (hY.out.setR 0 (.slice B1 N1 e1) (by decide) (.slice B1 N1 e1) (Value.slice A2 M.length c2) rfl)
          refine hK.out _ _ ⟨(Sx.mk (by simp only[cs_iff_cons];exact⟨hY.out.y.c 0 _ rfl,hY.out.y.c 1 _ rfl,cs_nil _⟩) hY.out.bel),fun h=>absurd h (by decide +kernel),fun _=>hY.out.i.r.c 1 _ rfl⟩ (fun hH2=>?_)
          clear hK K hHeld r0 f0
          have hHeld:=hH2
          clear hH2
          (try simp only[apS,apN,siA,scZ,scS])
          generalize Z7.setCell ⟨R,0,none⟩ (.slice B1 N1 e1)=Z8 at *
          (refine tkPx 14 83 (fun hH2=>?_) hHeld;clear hHeld;have hHeld:=hH2;clear hH2)
          have r1:=hY.out.i.r.c 1 _ rfl;have f1:=hY.out.i.r.free 1 (by simp)
          (refine wpAnyHP_ready (rs:=[15]) (by decide +kernel) (by simp) ?_;refine AllReadyP.cons rfl (fun K hK=>?_) AllReadyP.nil;rw[if_pos (by kernel_rfl)];go_simp)
          replace hY:=Lib.hid (hY.out.setR 1 (.slice B2 N2 e2) (by decide) (.slice B1 N1 e1) (.slice B2 N2 e2) rfl)
          refine hK.out _ _ ⟨(Sx.mk (by simp only[cs_iff_cons];exact⟨hY.out.y.c 0 _ rfl,hY.out.y.c 1 _ rfl,cs_nil _⟩) hY.out.bel),fun h=>absurd h (by decide +kernel),fun h=>absurd h (by decide +kernel)⟩ (fun hH2=>?_)
          clear hK K hHeld r1 f1 hH2
          (try simp only[apS,apN,siA,scZ,scS])
          generalize Z8.setCell ⟨R,1,none⟩ (.slice B2 N2 e2)=Z9 at *
          refine wpAnyHP_done (by decide +kernel) ?_ _
          (try simp only[apS,apN,siA,scZ,scS])
          have hJ2:=Lib.hid hY.out.i
          clear hY
          go_wp2_with fail
          go_roundw
          case rel=>exact⟨m+1,true,_,_,_,_,_,by omega,by go_num,rfl,hG2,hJ2,hlen2,⟨fun h=>(by cases h),fun _=>hst2.out⟩⟩
          case measure=>simp[intOf];omega
         rw[decide_eq_false ho] at hcA
         have hct:=hcA
         by_cases hn:an2.toList∈M
         ·have hmm:=hmm9.out.2 (.inr hn)
          rw[decide_eq_true hn] at hcB
          have hcn2:=hcB
          clear hcA hcB hmm9 ho hn htm
          (obtain⟨y0,y1⟩:=hY.out.y.c2;obtain⟨r0,r1⟩:=hY.out.i.r.c2;have t0:=hY.out.i.t.c m _ htm3;have tf:=hY.out.i.t.free m (by rw[List.length_map];exact hmt1))
          have hG2:=Lib.hid (hG.out.join hmt hmm (O':=O ++ [ay.toList]) (M':=M ++ [an2.toList]) (fun d=>by rw[List.mem_append,List.mem_singleton,Cal.oldT_at hmt,←hy1]) (fun d=>by rw[List.mem_append,List.mem_singleton,Cal.newT_at hmt,←hy2]))
          have hcs:=Cal.count_set (tk:=tk1) (k:=m) htm2
          have hlen2:Hid ((O ++ [ay.toList]).length=(M ++ [an2.toList]).length∧(O ++ [ay.toList]).length≤1+(tk1.set m true).count true):=⟨by rw[List.length_append,List.length_append,List.length_singleton,List.length_singleton,hlen.out.1],by rw[List.length_append,List.length_singleton,hcs];have:=hlen.out.2;omega⟩
          have hst2:Hid (cn<(tk1.set m true).count true):=by
           show _<_
           rw[hcs]
           cases bm
           ·have:=(hst.out.1 rfl).1;omega
           have:=hst.out.2 rfl;omega
          have hO9:O.length≤300:=by have:=hlen.out.2;have:=List.count_le_length (a:=true) (l:=tk1);rw[hG.out.len] at this;omega
          have hM9:M.length≤300:=by have:=hlen.out.1;omega
          clear hG hlen hst hmm hcs htm2 hy1 hy2 hm hlt
          go_wp2_with (go_at_call 28;clear t0 tf r0 r1 y0 y1;(first | (with_reducible refine (hct.out _ hY.out).mono ?_;clear hct) | (with_reducible refine (hcn2.out _ hY.out).mono ?_;clear hcn2));rintro e0 wn ⟨rfl,hbn⟩;replace hY:=Lib.hid (hY.out.below hbn);clear hbn;(obtain⟨y0,y1⟩:=hY.out.y.c2;obtain⟨r0,r1⟩:=hY.out.i.r.c2;have t0:=hY.out.i.t.c m _ htm3;have tf:=hY.out.i.t.free m (by rw[List.length_map];exact hmt1)))
          clear t0 tf r0 r1 y0 y1
          replace hY:=Lib.hid (hY.out.mark hmt1)
          generalize wn.setCell ⟨w1.heap.size,m,none⟩ (.bool true)=Zs at *
          replace hY:=Lib.hid (hY.out.below ((Below.refl _ Zs).drew))
          refine wp_region_heldP (S:=Sx w1 [(wr.heap.size,0,.string ay),(wr.heap.size,1,.string an2)]) (A:=fun W=>W.cell? ⟨R,0,none⟩=some (.slice A1 O.length c1)) (B:=fun W=>W.cell? ⟨R,1,none⟩=some (.slice A2 M.length c2)) 13 15 (by kernel_rfl) (Sx.mk (by simp only[cs_iff_cons];exact⟨hY.out.y.c 0 _ rfl,hY.out.y.c 1 _ rfl,cs_nil _⟩) hY.out.bel) (hY.out.i.r.c 0 _ rfl) (hY.out.i.r.c 1 _ rfl) (fun hHeld=>?_)
          generalize Zs.drew=Z0 at *
          (refine tkPx 0 70 (fun hH2=>?_) hHeld;clear hHeld;have hHeld:=hH2;clear hH2)
          (refine tkPx 1 71 (fun hH2=>?_) hHeld;clear hHeld;have hHeld:=hH2;clear hH2)
          (refine tkPx 2 72 (fun hH2=>?_) hHeld;clear hHeld;have hHeld:=hH2;clear hH2)
          (refine tkPx 3 73 (fun hH2=>?_) hHeld;clear hHeld;have hHeld:=hH2;clear hH2)
          (refine tkPx 6 76 (fun hH2=>?_) hHeld;clear hHeld;have hHeld:=hH2;clear hH2)
          (refine tkPx 7 77 (fun hH2=>?_) hHeld;clear hHeld;have hHeld:=hH2;clear hH2)
          (refine tkPx 8 78 (fun hH2=>?_) hHeld;clear hHeld;have hHeld:=hH2;clear hH2)
          (refine tkPx 9 79 (fun hH2=>?_) hHeld;clear hHeld;have hHeld:=hH2;clear hH2)
          (refine wpAnyHP_ready (rs:=[4,10]) (by decide +kernel) (by simp) ?_;refine AllReadyP.cons rfl (fun K hK=>?_) (AllReadyP.cons rfl (fun K hK=>?_) AllReadyP.nil))
          ·(rw[if_pos (by kernel_rfl)];go_simp)
           have hsO:=Lib.hid (rowsAt_new Z0 [.string ay] 9)
           skip
           replace hY:=Lib.hid (hY.out.below (below_alloc Z0 (.cells #[.string ay] 9)))
           skip
           refine hK.out _ _ ⟨(Sx.mk (by simp only[cs_iff_cons];exact⟨hY.out.y.c 0 _ rfl,hY.out.y.c 1 _ rfl,cs_nil _⟩) hY.out.bel),fun _=>hY.out.i.r.c 0 _ rfl,fun _=>hY.out.i.r.c 1 _ rfl⟩ (fun hH2=>?_)
           clear hK K hHeld
           have hHeld:=hH2
           clear hH2
           (try simp only[apS,apN,siA,scZ,scS])
           generalize Z0.alloc (.cells #[.string ay] 9)=Z1 at *
           (refine wpAnyHP_ready (rs:=[5,10]) (by decide +kernel) (by simp) ?_;refine AllReadyP.cons rfl (fun K hK=>?_) (AllReadyP.cons rfl (fun K hK=>?_) AllReadyP.nil))
           ·refine step_append_rows elemTxt (by rfl) (.tmp 71) (.tmp 74) (by rfl) (by rfl) (by rfl) hY.out.i.o1 hsO.out rfl (fun r hr=>by rw[List.mem_singleton.1 hr];rfl) (fun r hr u hu=>by rw[List.mem_singleton.1 hr] at hu;rw[List.mem_singleton.1 hu];rfl) (by rw[txtRows_length,List.length_singleton];omega) (by decide) hY.out.i.g.size ?_
            intro u1 Z2 hown hg hob
            rw[←txtRows_snoc O (a:=ay) rfl] at hown
            skip
            replace hY:=Lib.hid (hY.out.first hg hown hob)
            refine hK.out _ _ ⟨(Sx.mk (by simp only[cs_iff_cons];exact⟨hY.out.y.c 0 _ rfl,hY.out.y.c 1 _ rfl,cs_nil _⟩) hY.out.bel),fun _=>hY.out.i.r.c 0 _ rfl,fun _=>hY.out.i.r.c 1 _ rfl⟩ (fun hH2=>?_)
            clear hK K hHeld
            have hHeld:=hH2
            clear hH2
            (try simp only[apS,apN,siA,scZ,scS])
            clear hown hg hob
            (refine tkPx 12 82 (fun hH2=>?_) hHeld;clear hHeld;have hHeld:=hH2;clear hH2)
            (refine wpAnyHP_ready (rs:=[10]) (by decide +kernel) (by simp) ?_;refine AllReadyP.cons rfl (fun K hK=>?_) AllReadyP.nil)
            (rw[if_pos (by kernel_rfl)];go_simp)
            have hsN:=Lib.hid (rowsAt_new Z2 [.string an2] 9)
            skip
            replace hY:=Lib.hid (hY.out.below (below_alloc Z2 (.cells #[.string an2] 9)))
            skip
            refine hK.out _ _ ⟨(Sx.mk (by simp only[cs_iff_cons];exact⟨hY.out.y.c 0 _ rfl,hY.out.y.c 1 _ rfl,cs_nil _⟩) hY.out.bel),fun _=>hY.out.i.r.c 0 _ rfl,fun _=>hY.out.i.r.c 1 _ rfl⟩ (fun hH2=>?_)
            clear hK K hHeld
            have hHeld:=hH2
            clear hH2
            (try simp only[apS,apN,siA,scZ,scS])
            generalize Z2.alloc (.cells #[.string an2] 9)=Z3 at *
            (refine wpAnyHP_ready (rs:=[11]) (by decide +kernel) (by simp) ?_;refine AllReadyP.cons rfl (fun K hK=>?_) AllReadyP.nil)
            refine step_append_rows elemTxt (by rfl) (.tmp 77) (.tmp 80) (by rfl) (by rfl) (by rfl) hY.out.i.o2 hsN.out rfl (fun r hr=>by rw[List.mem_singleton.1 hr];rfl) (fun r hr u hu=>by rw[List.mem_singleton.1 hr] at hu;rw[List.mem_singleton.1 hu];rfl) (by rw[txtRows_length,List.length_singleton];omega) (by decide) hY.out.i.g.size ?_
            intro u2 Z7 hown hg hob
            rw[←txtRows_snoc M (a:=an2) rfl] at hown
            replace hY:=Lib.hid (hY.out.second hg hown hob)
            refine hK.out _ _ ⟨(Sx.mk (by simp only[cs_iff_cons];exact⟨hY.out.y.c 0 _ rfl,hY.out.y.c 1 _ rfl,cs_nil _⟩) hY.out.bel),fun _=>hY.out.i.r.c 0 _ rfl,fun _=>hY.out.i.r.c 1 _ rfl⟩ (fun hH2=>?_)
            clear hK K hHeld
            have hHeld:=hH2
            clear hH2
            (try simp only[apS,apN,siA,scZ,scS])
            clear hown hg hob
            obtain⟨B1,e1,hu1,_⟩:=(show ∃ A c,u1=.slice A _ c∧_ from TextsL.rows hY.out.i.o1)
            obtain⟨B2,e2,hu2,_⟩:=(show ∃ A c,u2=.slice A _ c∧_ from TextsL.rows hY.out.i.o2)
            generalize (O ++ [ay.toList]).length=N1 at hu1
            generalize (M ++ [an2.toList]).length=N2 at hu2
            subst hu1
            subst hu2
            have r0:=hY.out.i.r.c 0 _ rfl;have f0:=hY.out.i.r.free 0 (by simp)
            (refine wpAnyHP_ready (rs:=[13]) (by decide +kernel) (by simp) ?_;refine AllReadyP.cons rfl (fun K hK=>?_) AllReadyP.nil;rw[if_pos (by kernel_rfl)];go_simp)
            replace hY:=Lib.hid (hY.out.setR 0 (.slice B1 N1 e1) (by decide) (.slice B1 N1 e1) (Value.slice A2 M.length c2) rfl)
            refine hK.out _ _ ⟨(Sx.mk (by simp only[cs_iff_cons];exact⟨hY.out.y.c 0 _ rfl,hY.out.y.c 1 _ rfl,cs_nil _⟩) hY.out.bel),fun h=>absurd h (by decide +kernel),fun _=>hY.out.i.r.c 1 _ rfl⟩ (fun hH2=>?_)
            clear hK K hHeld r0 f0
            have hHeld:=hH2
            clear hH2
            (try simp only[apS,apN,siA,scZ,scS])
            generalize Z7.setCell ⟨R,0,none⟩ (.slice B1 N1 e1)=Z8 at *
            (refine tkPx 14 83 (fun hH2=>?_) hHeld;clear hHeld;have hHeld:=hH2;clear hH2)
            have r1:=hY.out.i.r.c 1 _ rfl;have f1:=hY.out.i.r.free 1 (by simp)
            (refine wpAnyHP_ready (rs:=[15]) (by decide +kernel) (by simp) ?_;refine AllReadyP.cons rfl (fun K hK=>?_) AllReadyP.nil;rw[if_pos (by kernel_rfl)];go_simp)
            replace hY:=Lib.hid (hY.out.setR 1 (.slice B2 N2 e2) (by decide) (.slice B1 N1 e1) (.slice B2 N2 e2) rfl)
            refine hK.out _ _ ⟨(Sx.mk (by simp only[cs_iff_cons];exact⟨hY.out.y.c 0 _ rfl,hY.out.y.c 1 _ rfl,cs_nil _⟩) hY.out.bel),fun h=>absurd h (by decide +kernel),fun h=>absurd h (by decide +kernel)⟩ (fun hH2=>?_)
            clear hK K hHeld r1 f1 hH2
            (try simp only[apS,apN,siA,scZ,scS])
            generalize Z8.setCell ⟨R,1,none⟩ (.slice B2 N2 e2)=Z9 at *
            refine wpAnyHP_done (by decide +kernel) ?_ _
            (try simp only[apS,apN,siA,scZ,scS])
            have hJ2:=Lib.hid hY.out.i
            clear hY
            go_wp2_with fail
            go_roundw
            case rel=>exact⟨m+1,true,_,_,_,_,_,by omega,by go_num,rfl,hG2,hJ2,hlen2,⟨fun h=>(by cases h),fun _=>hst2.out⟩⟩
            case measure=>simp[intOf];omega
           (rw[if_pos (by kernel_rfl)];go_simp)
           have hsN:=Lib.hid (rowsAt_new Z1 [.string an2] 9)
           (have hn1:Hid ((Value.slice A1 O.length c1).ownBlock≠some Z1.heap.size):=fun e=>by have:=(OwnL.lt hY.out.i.o1 _ e).2;omega)
           replace hY:=Lib.hid (hY.out.below (below_alloc Z1 (.cells #[.string an2] 9)))
           (replace hsO:=Lib.hid (hsO.out.below (below_alloc Z1 (.cells #[.string an2] 9))))
           refine hK.out _ _ ⟨(Sx.mk (by simp only[cs_iff_cons];exact⟨hY.out.y.c 0 _ rfl,hY.out.y.c 1 _ rfl,cs_nil _⟩) hY.out.bel),fun _=>hY.out.i.r.c 0 _ rfl,fun _=>hY.out.i.r.c 1 _ rfl⟩ (fun hH2=>?_)
           clear hK K hHeld
           have hHeld:=hH2
           clear hH2
           (try simp only[apS,apN,siA,scZ,scS])
           generalize Z1.alloc (.cells #[.string an2] 9)=Z2 at *
           have hnN:=hn1
           clear hn1
           (refine wpAnyHP_ready (rs:=[5]) (by decide +kernel) (by simp) ?_;refine AllReadyP.cons rfl (fun K hK=>?_) AllReadyP.nil)
           refine step_append_rows elemTxt (by rfl) (.tmp 71) (.tmp 74) (by rfl) (by rfl) (by rfl) hY.out.i.o1 hsO.out rfl (fun r hr=>by rw[List.mem_singleton.1 hr];rfl) (fun r hr u hu=>by rw[List.mem_singleton.1 hr] at hu;rw[List.mem_singleton.1 hu];rfl) (by rw[txtRows_length,List.length_singleton];omega) (by decide) hY.out.i.g.size ?_
           intro u1 Z3 hown hg hob
           rw[←txtRows_snoc O (a:=ay) rfl] at hown
           (have hsN2:=Lib.hid (rows_far hsN.out hg (fun a ea=>by cases ea;exact Ne.symm hnN.out));have hsN:=hsN2;clear hsN2)
           replace hY:=Lib.hid (hY.out.first hg hown hob)
           refine hK.out _ _ ⟨(Sx.mk (by simp only[cs_iff_cons];exact⟨hY.out.y.c 0 _ rfl,hY.out.y.c 1 _ rfl,cs_nil _⟩) hY.out.bel),fun _=>hY.out.i.r.c 0 _ rfl,fun _=>hY.out.i.r.c 1 _ rfl⟩ (fun hH2=>?_)
           clear hK K hHeld
           have hHeld:=hH2
           clear hH2
           (try simp only[apS,apN,siA,scZ,scS])
           clear hown hg hob
           (refine tkPx 12 82 (fun hH2=>?_) hHeld;clear hHeld;have hHeld:=hH2;clear hH2)
           (refine wpAnyHP_ready (rs:=[11]) (by decide +kernel) (by simp) ?_;refine AllReadyP.cons rfl (fun K hK=>?_) AllReadyP.nil)
           refine step_append_rows elemTxt (by rfl) (.tmp 77) (.tmp 80) (by rfl) (by rfl) (by rfl) hY.out.i.o2 hsN.out rfl (fun r hr=>by rw[List.mem_singleton.1 hr];rfl) (fun r hr u hu=>by rw[List.mem_singleton.1 hr] at hu;rw[List.mem_singleton.1 hu];rfl) (by rw[txtRows_length,List.length_singleton];omega) (by decide) hY.out.i.g.size ?_
           intro u2 Z7 hown hg hob
           rw[←txtRows_snoc M (a:=an2) rfl] at hown
           replace hY:=Lib.hid (hY.out.second hg hown hob)
           refine hK.out _ _ ⟨(Sx.mk (by simp only[cs_iff_cons];exact⟨hY.out.y.c 0 _ rfl,hY.out.y.c 1 _ rfl,cs_nil _⟩) hY.out.bel),fun _=>hY.out.i.r.c 0 _ rfl,fun _=>hY.out.i.r.c 1 _ rfl⟩ (fun hH2=>?_)
           clear hK K hHeld
           have hHeld:=hH2
           clear hH2
           (try simp only[apS,apN,siA,scZ,scS])
           clear hown hg hob
           obtain⟨B1,e1,hu1,_⟩:=(show ∃ A c,u1=.slice A _ c∧_ from TextsL.rows hY.out.i.o1)
           obtain⟨B2,e2,hu2,_⟩:=(show ∃ A c,u2=.slice A _ c∧_ from TextsL.rows hY.out.i.o2)
           generalize (O ++ [ay.toList]).length=N1 at hu1
           generalize (M ++ [an2.toList]).length=N2 at hu2
           subst hu1
           subst hu2
           have r0:=hY.out.i.r.c 0 _ rfl;have f0:=hY.out.i.r.free 0 (by simp)
           (refine wpAnyHP_ready (rs:=[13]) (by decide +kernel) (by simp) ?_;refine AllReadyP.cons rfl (fun K hK=>?_) AllReadyP.nil;rw[if_pos (by kernel_rfl)];go_simp)
           replace hY:=Lib.hid (hY.out.setR 0 (.slice B1 N1 e1) (by decide) (.slice B1 N1 e1) (Value.slice A2 M.length c2) rfl)
           refine hK.out _ _ ⟨(Sx.mk (by simp only[cs_iff_cons];exact⟨hY.out.y.c 0 _ rfl,hY.out.y.c 1 _ rfl,cs_nil _⟩) hY.out.bel),fun h=>absurd h (by decide +kernel),fun _=>hY.out.i.r.c 1 _ rfl⟩ (fun hH2=>?_)
           clear hK K hHeld r0 f0
           have hHeld:=hH2
           clear hH2
           (try simp only[apS,apN,siA,scZ,scS])
           generalize Z7.setCell ⟨R,0,none⟩ (.slice B1 N1 e1)=Z8 at *
           (refine tkPx 14 83 (fun hH2=>?_) hHeld;clear hHeld;have hHeld:=hH2;clear hH2)
           have r1:=hY.out.i.r.c 1 _ rfl;have f1:=hY.out.i.r.free 1 (by simp)
           (refine wpAnyHP_ready (rs:=[15]) (by decide +kernel) (by simp) ?_;refine AllReadyP.cons rfl (fun K hK=>?_) AllReadyP.nil;rw[if_pos (by kernel_rfl)];go_simp)
           replace hY:=Lib.hid (hY.out.setR 1 (.slice B2 N2 e2) (by decide) (.slice B1 N1 e1) (.slice B2 N2 e2) rfl)
           refine hK.out _ _ ⟨(Sx.mk (by simp only[cs_iff_cons];exact⟨hY.out.y.c 0 _ rfl,hY.out.y.c 1 _ rfl,cs_nil _⟩) hY.out.bel),fun h=>absurd h (by decide +kernel),fun h=>absurd h (by decide +kernel)⟩ (fun hH2=>?_)
           clear hK K hHeld r1 f1 hH2
           (try simp only[apS,apN,siA,scZ,scS])
           generalize Z8.setCell ⟨R,1,none⟩ (.slice B2 N2 e2)=Z9 at *
           refine wpAnyHP_done (by decide +kernel) ?_ _
           (try simp only[apS,apN,siA,scZ,scS])
           have hJ2:=Lib.hid hY.out.i
           clear hY
           go_wp2_with fail
           go_roundw
           case rel=>exact⟨m+1,true,_,_,_,_,_,by omega,by go_num,rfl,hG2,hJ2,hlen2,⟨fun h=>(by cases h),fun _=>hst2.out⟩⟩
           case measure=>simp[intOf];omega
          (rw[if_pos (by kernel_rfl)];go_simp)
          have hsN:=Lib.hid (rowsAt_new Z0 [.string an2] 9)
          (have hn1:Hid ((Value.slice A1 O.length c1).ownBlock≠some Z0.heap.size):=fun e=>by have:=(OwnL.lt hY.out.i.o1 _ e).2;omega)
          replace hY:=Lib.hid (hY.out.below (below_alloc Z0 (.cells #[.string an2] 9)))
          skip
          refine hK.out _ _ ⟨(Sx.mk (by simp only[cs_iff_cons];exact⟨hY.out.y.c 0 _ rfl,hY.out.y.c 1 _ rfl,cs_nil _⟩) hY.out.bel),fun _=>hY.out.i.r.c 0 _ rfl,fun _=>hY.out.i.r.c 1 _ rfl⟩ (fun hH2=>?_)
          clear hK K hHeld
          have hHeld:=hH2
          clear hH2
          (try simp only[apS,apN,siA,scZ,scS])
          generalize Z0.alloc (.cells #[.string an2] 9)=Z1 at *
          have hnN:=hn1
          clear hn1
          (refine wpAnyHP_ready (rs:=[4]) (by decide +kernel) (by simp) ?_;refine AllReadyP.cons rfl (fun K hK=>?_) AllReadyP.nil)
          (rw[if_pos (by kernel_rfl)];go_simp)
          have hsO:=Lib.hid (rowsAt_new Z1 [.string ay] 9)
          skip
          replace hY:=Lib.hid (hY.out.below (below_alloc Z1 (.cells #[.string ay] 9)))
          (replace hsN:=Lib.hid (hsN.out.below (below_alloc Z1 (.cells #[.string ay] 9))))
          refine hK.out _ _ ⟨(Sx.mk (by simp only[cs_iff_cons];exact⟨hY.out.y.c 0 _ rfl,hY.out.y.c 1 _ rfl,cs_nil _⟩) hY.out.bel),fun _=>hY.out.i.r.c 0 _ rfl,fun _=>hY.out.i.r.c 1 _ rfl⟩ (fun hH2=>?_)
          clear hK K hHeld
          have hHeld:=hH2
          clear hH2
          (try simp only[apS,apN,siA,scZ,scS])
          generalize Z1.alloc (.cells #[.string ay] 9)=Z2 at *
          (refine wpAnyHP_ready (rs:=[5]) (by decide +kernel) (by simp) ?_;refine AllReadyP.cons rfl (fun K hK=>?_) AllReadyP.nil)
          refine step_append_rows elemTxt (by rfl) (.tmp 71) (.tmp 74) (by rfl) (by rfl) (by rfl) hY.out.i.o1 hsO.out rfl (fun r hr=>by rw[List.mem_singleton.1 hr];rfl) (fun r hr u hu=>by rw[List.mem_singleton.1 hr] at hu;rw[List.mem_singleton.1 hu];rfl) (by rw[txtRows_length,List.length_singleton];omega) (by decide) hY.out.i.g.size ?_
          intro u1 Z3 hown hg hob
          rw[←txtRows_snoc O (a:=ay) rfl] at hown
          (have hsN2:=Lib.hid (rows_far hsN.out hg (fun a ea=>by cases ea;exact Ne.symm hnN.out));have hsN:=hsN2;clear hsN2)
          replace hY:=Lib.hid (hY.out.first hg hown hob)
          refine hK.out _ _ ⟨(Sx.mk (by simp only[cs_iff_cons];exact⟨hY.out.y.c 0 _ rfl,hY.out.y.c 1 _ rfl,cs_nil _⟩) hY.out.bel),fun _=>hY.out.i.r.c 0 _ rfl,fun _=>hY.out.i.r.c 1 _ rfl⟩ (fun hH2=>?_)
          clear hK K hHeld
          have hHeld:=hH2
          clear hH2
          (try simp only[apS,apN,siA,scZ,scS])
          clear hown hg hob
          (refine tkPx 12 82 (fun hH2=>?_) hHeld;clear hHeld;have hHeld:=hH2;clear hH2)
          (refine wpAnyHP_ready (rs:=[11]) (by decide +kernel) (by simp) ?_;refine AllReadyP.cons rfl (fun K hK=>?_) AllReadyP.nil)
          refine step_append_rows elemTxt (by rfl) (.tmp 77) (.tmp 80) (by rfl) (by rfl) (by rfl) hY.out.i.o2 hsN.out rfl (fun r hr=>by rw[List.mem_singleton.1 hr];rfl) (fun r hr u hu=>by rw[List.mem_singleton.1 hr] at hu;rw[List.mem_singleton.1 hu];rfl) (by rw[txtRows_length,List.length_singleton];omega) (by decide) hY.out.i.g.size ?_
          intro u2 Z7 hown hg hob
          rw[←txtRows_snoc M (a:=an2) rfl] at hown
          replace hY:=Lib.hid (hY.out.second hg hown hob)
          refine hK.out _ _ ⟨(Sx.mk (by simp only[cs_iff_cons];exact⟨hY.out.y.c 0 _ rfl,hY.out.y.c 1 _ rfl,cs_nil _⟩) hY.out.bel),fun _=>hY.out.i.r.c 0 _ rfl,fun _=>hY.out.i.r.c 1 _ rfl⟩ (fun hH2=>?_)
          clear hK K hHeld
          have hHeld:=hH2
          clear hH2
          (try simp only[apS,apN,siA,scZ,scS])
          clear hown hg hob
          obtain⟨B1,e1,hu1,_⟩:=(show ∃ A c,u1=.slice A _ c∧_ from TextsL.rows hY.out.i.o1)
          obtain⟨B2,e2,hu2,_⟩:=(show ∃ A c,u2=.slice A _ c∧_ from TextsL.rows hY.out.i.o2)
          generalize (O ++ [ay.toList]).length=N1 at hu1
          generalize (M ++ [an2.toList]).length=N2 at hu2
          subst hu1
          subst hu2
          have r0:=hY.out.i.r.c 0 _ rfl;have f0:=hY.out.i.r.free 0 (by simp)
          (refine wpAnyHP_ready (rs:=[13]) (by decide +kernel) (by simp) ?_;refine AllReadyP.cons rfl (fun K hK=>?_) AllReadyP.nil;rw[if_pos (by kernel_rfl)];go_simp)
          replace hY:=Lib.hid (hY.out.setR 0 (.slice B1 N1 e1) (by decide) (.slice B1 N1 e1) (Value.slice A2 M.length c2) rfl)
          refine hK.out _ _ ⟨(Sx.mk (by simp only[cs_iff_cons];exact⟨hY.out.y.c 0 _ rfl,hY.out.y.c 1 _ rfl,cs_nil _⟩) hY.out.bel),fun h=>absurd h (by decide +kernel),fun _=>hY.out.i.r.c 1 _ rfl⟩ (fun hH2=>?_)
          clear hK K hHeld r0 f0
          have hHeld:=hH2
          clear hH2
          (try simp only[apS,apN,siA,scZ,scS])
          generalize Z7.setCell ⟨R,0,none⟩ (.slice B1 N1 e1)=Z8 at *
          (refine tkPx 14 83 (fun hH2=>?_) hHeld;clear hHeld;have hHeld:=hH2;clear hH2)
          have r1:=hY.out.i.r.c 1 _ rfl;have f1:=hY.out.i.r.free 1 (by simp)
          (refine wpAnyHP_ready (rs:=[15]) (by decide +kernel) (by simp) ?_;refine AllReadyP.cons rfl (fun K hK=>?_) AllReadyP.nil;rw[if_pos (by kernel_rfl)];go_simp)
          replace hY:=Lib.hid (hY.out.setR 1 (.slice B2 N2 e2) (by decide) (.slice B1 N1 e1) (.slice B2 N2 e2) rfl)
          refine hK.out _ _ ⟨(Sx.mk (by simp only[cs_iff_cons];exact⟨hY.out.y.c 0 _ rfl,hY.out.y.c 1 _ rfl,cs_nil _⟩) hY.out.bel),fun h=>absurd h (by decide +kernel),fun h=>absurd h (by decide +kernel)⟩ (fun hH2=>?_)
          clear hK K hHeld r1 f1 hH2
          (try simp only[apS,apN,siA,scZ,scS])
          generalize Z8.setCell ⟨R,1,none⟩ (.slice B2 N2 e2)=Z9 at *
          refine wpAnyHP_done (by decide +kernel) ?_ _
          (try simp only[apS,apN,siA,scZ,scS])
          have hJ2:=Lib.hid hY.out.i
          clear hY
          go_wp2_with fail
          go_roundw
          case rel=>exact⟨m+1,true,_,_,_,_,_,by omega,by go_num,rfl,hG2,hJ2,hlen2,⟨fun h=>(by cases h),fun _=>hst2.out⟩⟩
          case measure=>simp[intOf];omega
         have hnm:¬Cal.mtc l O M m:=fun h=>by
          rcases hmm9.out.1 h with h | h
          ·exact ho h
          exact hn h
         rw[decide_eq_false hn] at hcB
         have hcn2:=hcB
         have hst2:Hid ((bm=false→tk1.count true=cn∧∀ q:Nat,q<m+1→tk1[q]?=some false→¬Cal.mtc l O M q)∧(bm=true→cn<tk1.count true)):=⟨fun h=>⟨(hst.out.1 h).1,fun q hq hf=>by
          rcases Nat.lt_or_eq_of_le (show q≤m by omega) with h' | rfl
          ·exact (hst.out.1 h).2 q h' hf
          exact hnm⟩,hst.out.2⟩
         clear hcA hcB hmm9 ho hn htm hst hnm
         (obtain⟨y0,y1⟩:=hY.out.y.c2;obtain⟨r0,r1⟩:=hY.out.i.r.c2;have t0:=hY.out.i.t.c m _ htm3;have tf:=hY.out.i.t.free m (by rw[List.length_map];exact hmt1))
         go_wp2_with (go_at_call 28;clear t0 tf r0 r1 y0 y1;(first | (with_reducible refine (hct.out _ hY.out).mono ?_;clear hct) | (with_reducible refine (hcn2.out _ hY.out).mono ?_;clear hcn2));rintro e0 wn ⟨rfl,hbn⟩;replace hY:=Lib.hid (hY.out.below hbn);clear hbn;(obtain⟨y0,y1⟩:=hY.out.y.c2;obtain⟨r0,r1⟩:=hY.out.i.r.c2;have t0:=hY.out.i.t.c m _ htm3;have tf:=hY.out.i.t.free m (by rw[List.length_map];exact hmt1)))
         clear y0 y1 r0 r1 t0 tf
         have hJ2:=Lib.hid hY.out.i
         go_roundw
         case rel=>exact⟨m+1,bm,_,_,_,_,_,by omega,by go_num,rfl,hG,hJ2,hlen,hst2⟩
         case measure=>simp[intOf];omega
        rw[htm] at htm3
        have hst2:Hid ((bm=false→tk1.count true=cn∧∀ q:Nat,q<m+1→tk1[q]?=some false→¬Cal.mtc l O M q)∧(bm=true→cn<tk1.count true)):=⟨fun h=>⟨(hst.out.1 h).1,fun q hq hf=>by
         rcases Nat.lt_or_eq_of_le (show q≤m by omega) with h' | rfl
         ·exact (hst.out.1 h).2 q h' hf
         rw[List.getElem?_eq_getElem hmt1,htm] at hf;cases hf⟩,hst.out.2⟩
        clear htm hst hmm9
        (obtain⟨y0,y1⟩:=hY.out.y.c2;obtain⟨r0,r1⟩:=hY.out.i.r.c2;have t0:=hY.out.i.t.c m _ htm3;have tf:=hY.out.i.t.free m (by rw[List.length_map];exact hmt1))
        go_wp2_with fail
        clear y0 y1 r0 r1 t0 tf
        have hJ2:=Lib.hid hY.out.i
        go_roundw
        case rel=>exact⟨m+1,bm,_,_,_,_,_,by omega,by go_num,rfl,hG,hJ2,hlen,hst2⟩
        case measure=>simp[intOf];omega
       obtain rfl:m=l.length:=by omega
       have hcl2:Hid (bm=false→Cal.Cls l tk1 O M):=fun h q hq hmq=>by
        have hqt:q<tk1.length:=by rw[hG.out.len];exact hq
        cases hb:tk1[q] with
        | true=>rw[List.getElem?_eq_getElem hqt,hb]
        | false=>exact absurd hmq ((hst.out.1 h).2 q hq (by rw[List.getElem?_eq_getElem hqt,hb]))
       have hof2:=Lib.hid (offW_of hJ.out.t)
       rw[hG.out.len] at hof2
       have hcle:=List.count_le_length (a:=true) (l:=tk1)
       rw[hG.out.len] at hcle
       go_wp2_with fail
       go_roundw
       case rel=>exact⟨bm,_,_,_,_,_,rfl,hG,hJ,hlen,hcl2⟩
       case measure =>
        have e1:=hofs.out
        have e2:=hof2.out
        show _<_
        cases bm
        ·have:=(hst.out.1 rfl).1
         have:=hc9.out
         simp only[moreN] at *
         omega
        have:=hst.out.2 rfl
        have:=hc9.out
        simp only[moreN] at *
        omega
    rw[htk] at t0
    obtain⟨hU2,hnf⟩:=hU.out.skip hlt (by rw[List.getElem?_eq_getElem hkt,htk])
    replace hU2:=Lib.hid hU2
    have hP2:Hid (ps.map Prt.two=Cal.prtTo l (k+1)):=by show _=_;rw[Cal.prtTo_no hnf];exact hP.out
    clear hnf hU hP htk
    go_wp2_with fail
    go_roundw
    case rel=>exact⟨k+1,_,_,ps,by omega,by go_num,rfl,hU2,hP2,hI⟩
    case measure=>simp[intOf];omega
   obtain rfl:k=l.length:=by omega
   obtain⟨S,d,rfl,_⟩:=OwnL.form hI.out.o
   rw[List.length_map] at hI ⊢
   have hbe:=Lib.hid (hb1.out.trans (hI.out.bel.mono hb1.out.size))
   clear hl
   go_wp2_with fail
   go_ret2
   exact⟨S,d,ps,rfl,hI.out.prts,hP.out,hbe.out⟩
 have h1:(Cal.numE l == 0)=false:=by simpa using h0
 have h2:(Cal.numE l != 0)=true:=by simpa using h0
 rw[if_neg h0]
 clear hl h0
 generalize Cal.numE l=E at *
 go_enter Tryz.func8,Tryz.ntmps8
 go_wp2_with (go_at_call 27;refine hck.out.mono ?_;rintro e0 w1 ⟨rfl,hb1⟩;replace hb1:=Lib.hid hb1;clear hck)
 go_ret2
 exact⟨none,0,[],rfl,⟨RowsAt.nil _ _ _,fun p hp=>(by cases hp)⟩,rfl,hb1.out⟩
end Go.Proofs.YtoojdkaimhlcbaaGreat
