/- What the statements rest on: definitions and walks, part 13. -/
import Derived.Test.YtoojdkaimhlcbaaGreatJ12
set_option maxRecDepth 100000
set_option maxHeartbeats 16000000
set_option linter.unusedSimpArgs false
set_option linter.unusedVariables false
namespace Go.Proofs.YtoojdkaimhlcbaaGreat
open Go Go.RowKit Go.Sort
theorem PartsR_any (A:Option Addr) (c:Nat) (l:List Rn) (w:World) (hl:RowsAt w A 2 (l.map rnR)) (hs:l.length≤200) :
  Calls Tryz.prog 11 #[.slice A l.length c] w fun e w'=>∃ S d ps,e=.returned (.slice S ps.length d)∧Prts w' S ps∧ps.map Prt.two=Cal.prtTo l l.length∧Below w.heap.size w w':=by
 replace hl:=Lib.hid hl
 have hmk:=fun W=>mk_bools W l.length (by omega)
 have hI0:Hid (PtO w (List.replicate l.length false) (.slice none 0 0) [] (w.alloc (.cells (madeCells #[.bool false] l.length) 4))):=⟨below_alloc _ _,by
  have:=BoxAt.new w (madeCells #[.bool false] l.length) 4
  rw[made_bools] at this
  exact this,OwnL.nil _ _ _ _,fun p hp=>(by cases hp),fun p hp=>(by cases hp)⟩
 have hU0:=Lib.hid (Cal.Outs.zero l)
 have hP0:Hid ((([]:List Prt).map Prt.two)=Cal.prtTo l 0):=rfl
 go_enter Tryz.func11,Tryz.ntmps11
 go_wp2_with fail
 clear hmk
 go_loopw [4,5] (fun ov i wr=>∃ (k:Nat) (v:Value) (tk:List Bool) (ps:List Prt),k≤l.length∧i=.int .i64 k∧ov=v∧Hid (Cal.Outs l k tk)∧Hid (ps.map Prt.two=Cal.prtTo l k)∧Hid (PtO w tk v ps wr)) (fun _ i _=>l.length-(intOf i).toNat)
 case atStart=>exact⟨0,_,_,[],Nat.zero_le _,rfl,rfl,hU0,hP0,hI0⟩
 case round =>
  clear hI0 hU0 hP0
  obtain⟨k,v,tk,ps,hk,rfl,rfl,hU,hP,hI⟩:=hrel
  by_cases hlt:k<l.length
  ·have hk':l[k]?=some l[k]:=List.getElem?_eq_getElem hlt
   obtain⟨b,o,rfl,hbl,ao,an,ha1,ha2,c0,c1⟩:=rn_at (hl.out.below hI.out.bel) hk'
   have hki:(k:Int)<(l.length:Int):=by omega
   have hkt:k<tk.length:=by rw[hU.out.len];exact hlt
   have t0:=hI.out.t.c k (.bool tk[k]) (by rw[List.getElem?_map,List.getElem?_eq_getElem hkt];rfl)
   clear hk'
   cases htk:tk[k]
   ·rw[htk] at t0
    have hG:=Lib.hid (hU.out.gather hlt (by rw[List.getElem?_eq_getElem hkt,htk]) [] (fun d hd=>by cases hd))
    have hfst:=Lib.hid hG.out.first
    rw[Cal.oldT_at hlt,←ha1] at hG
    have hQ0:=Lib.hid (PtQ.start (wp:=wr) hI.out.t ao)
    have hup0:Hid (([ao.toList]:List Cal.Txt).Pairwise (·<·)∧([]:List Cal.Txt).Pairwise (·<·)):=⟨List.pairwise_singleton _ _,List.Pairwise.nil⟩
    obtain⟨cn,hcn⟩:∃ cn,tk.count true=cn:=⟨_,rfl⟩
    have hcl0:Hid (Cal.Cls l tk [ao.toList] []∨cn+0≤tk.count true):=.inr (by omega)
    clear htk ha1 ha2 hcn
    go_wp2_with fail
    clear t0 c0 c1
    generalize ([ao.toList]:List Cal.Txt)=O0 at *
    generalize ([]:List Cal.Txt)=M0 at hG hQ0 hup0 hcl0
    generalize wr.heap.size+1=R at *
    generalize wr=wp at *
    go_loopw [7] (fun iv wx=>∃ (p:Nat) (tk:List Bool) (v1 v2:Value) (O M:List Cal.Txt),p≤l.length∧iv=.int .i64 p∧Hid (Cal.Gth l k tk O M)∧Hid (PtQ wp w.heap.size R tk v1 v2 v1 v2 O M wx)∧Hid (O.Pairwise (·<·)∧M.Pairwise (·<·))∧Hid (Cal.Cls l tk O M∨cn+p≤tk.count true)) (fun iv _=>l.length-(intOf iv).toNat)
    case atStart=>exact⟨0,_,_,_,_,_,Nat.zero_le _,rfl,hG,hQ0,hup0,hcl0⟩
    case round =>
     clear hG hQ0 hup0 hcl0
     obtain⟨p,tk0,v1,v2,O0,M0,hp,rfl,hG,hQ,hup,hcl⟩:=hrel
     by_cases hpt:p<l.length
     ·have hpi:(p:Int)<(l.length:Int):=by omega
      have hP0:=Lib.hid (Cal.Pss.start hG.out hup.out.1 hup.out.2)
      go_wp2_with fail
      go_loopw [8] (fun iv wx=>∃ (m:Nat) (tk:List Bool) (v1 v2:Value) (O M:List Cal.Txt),m≤l.length∧iv=.int .i64 m∧Hid (Cal.Pss l k m tk0 tk O0 M0 O M)∧Hid (PtQ wp w.heap.size R tk v1 v2 v1 v2 O M wx)) (fun iv _=>l.length-(intOf iv).toNat)
      case atStart=>exact⟨0,_,_,_,_,_,Nat.zero_le _,rfl,hP0,hQ⟩
      case round =>
       clear hP0 hQ hG hup
       obtain⟨m,tk1,v1,v2,O,M,hm,rfl,hP,hQ⟩:=hrel
       by_cases hmt:m<l.length
       ·have hm':l[m]?=some l[m]:=List.getElem?_eq_getElem hmt
        obtain⟨b',o',hA',hbw,ay,an2,hy1,hy2,c0,c1⟩:=rn_at hl.out hm'
        cases hA'
        have hq0:=Lib.hid (fun W (hW:Below w.heap.size w W)=>(hW.cell (p:=⟨b,o+m*2,none⟩) hbw).trans c0)
        have hq1:=Lib.hid (fun W (hW:Below w.heap.size w W)=>(hW.cell (p:=⟨b,o+m*2+1,none⟩) hbw).trans c1)
        have hmi:(m:Int)<(l.length:Int):=by omega
        have hmt1:m<tk1.length:=by rw[hP.out.g.len];exact hmt
        have hmm9:Cal.mtc l O M m↔ay.toList∈O∨an2.toList∈M:=by unfold Cal.mtc;rw[Cal.oldT_at hmt,Cal.newT_at hmt,←hy1,←hy2]
        have hO9:O.length≤200:=Nat.le_trans (Cal.lenO (l:=l) (Cal.oldT l) hP.out.upO (fun d hd=>by obtain⟨q,hq,e⟩:=hP.out.g.oin d hd;exact⟨q,hq.lt,e⟩)) hs
        have hM9:M.length≤200:=Nat.le_trans (Cal.lenO (l:=l) (Cal.newT l) hP.out.upM (fun d hd=>by obtain⟨q,hq,e⟩:=hP.out.g.min d hd;exact⟨q,hq.lt,e⟩)) hs
        have htm3:(tk1.map Value.bool)[m]?=some (.bool tk1[m]):=by rw[List.getElem?_map,List.getElem?_eq_getElem hmt1];rfl
        generalize tk1[m]=tm at htm3
        clear hm' c0 c1
        obtain⟨A1,c1,rfl,_⟩:=TextsL.rows hQ.out.o1
        obtain⟨A2,c2,rfl,_⟩:=TextsL.rows hQ.out.o2
        have hh1:=Lib.hid (fun W (hW:Below wr.heap.size wr W)=>HasText_any A1 c1 O ay W (OwnL.formR (OwnL.below hQ.out.o1 hW)) (by omega))
        have hh2:=Lib.hid (fun W (hW:Below wr.heap.size wr W)=>HasText_any A2 c2 M an2 W (OwnL.formR (OwnL.below hQ.out.o2 hW)) (by omega))
        obtain⟨r0,r1⟩:=hQ.out.r.c2
        have l0:=hq0.out _ (hI.out.gatherG hQ.out.g hQ.out.t).bel
        have l1:=hq1.out _ (hI.out.gatherG hQ.out.g hQ.out.t).bel
        by_cases hO:ay.toList∈O
        ·have hmm:=hmm9.2 (.inl hO)
         rw[decide_eq_true hO] at hh1
         clear hmm9 hh2
         go_wp2_with fail
         refine wp_region_held_drew (S:=Sx wr [(R,0,(Value.slice A1 O.length c1)),(R,1,(Value.slice A2 M.length c2)),(b,o+m*2,.string ay),(b,o+m*2+1,.string an2)]) (by kernel_rfl) (Sx.mk (by simp only[cs_iff_cons];exact⟨r0,r1,l0,l1,cs_nil _⟩) (Below.refl _ _)).drew (fun hHeld=>?_)
         clear r0 r1 l0 l1
         refine tkHx 0 41 ?_
         refine tkHx 1 42 ?_
         refine tkHx 2 43 ?_
         refine tkHx 3 44 ?_
         refine tkHx 4 45 ?_
         refine tkHx 5 46 ?_
         refine tkHx 6 47 ?_
         (refine ratHx 7 (fun K hK=>?_);go_simp)
         refine (hh1.out _ hHeld.bel).mono ?_
         rintro e wn ⟨rfl,hbn⟩
         go_simp
         (refine hK.out _ _ (hHeld.step hbn) (fun hHeld=>?_);clear hK K;(try simp only[apS,apN,siA,scZ,scS]))
         refine tkHx 8 49 ?_
         refine tkFx 9 50 ?_
         refine tkFx 10 51 ?_
         refine tkFx 11 52 ?_
         refine tkFx 12 53 ?_
         refine tkFx 13 54 ?_
         refine tkFx 14 55 ?_
         refine tkFx 15 56 ?_
         refine tkFx 16 57 ?_
         refine tkHx 17 58 ?_
         refine wpAnyH_done (by kernel_rfl) ?_ _
         (try simp only[apS,apN,siA,scZ,scS])
         replace hQ:=Lib.hid (hQ.out.below hHeld.bel)
         clear hHeld hh1 hO
         have hP2:=hP.out.yes hmt hmm
         rw[Cal.oldT_at hmt,Cal.newT_at hmt,←hy1,←hy2] at hP2
         replace hP2:=Lib.hid hP2
         have hup1:=hP.out.upO
         have hup2:=hP.out.upM
         have hne1:Cal.tups (O ++ [ay.toList])≠[]:=fun e=>by
          have h1:ay.toList∈Cal.tups (O ++ [ay.toList]):=((Cal.tups_spec _).2 _).2 (List.mem_append.2 (.inr (List.mem_singleton.2 rfl)))
          rw[e] at h1;cases h1
         have hne2:Cal.tups (M ++ [an2.toList])≠[]:=fun e=>by
          have h1:an2.toList∈Cal.tups (M ++ [an2.toList]):=((Cal.tups_spec _).2 _).2 (List.mem_append.2 (.inr (List.mem_singleton.2 rfl)))
          rw[e] at h1;cases h1
         have had1:=Lib.hid (fun W (h:TextsL W wp.heap.size (Value.slice A1 O.length c1) O) (hs:wp.heap.size≤W.heap.size)=>addTx_any W wp.heap.size (Value.slice A1 O.length c1) O ay h hup1 (by omega) hs)
         have had2:=Lib.hid (fun W (h:TextsL W wp.heap.size (Value.slice A2 M.length c2) M) (hs:wp.heap.size≤W.heap.size)=>addTx_any W wp.heap.size (Value.slice A2 M.length c2) M an2 h hup2 (by omega) hs)
         clear hP hmm hy1 hy2 hup1 hup2
         generalize Cal.tups (O ++ [ay.toList])=O2 at *
         generalize Cal.tups (M ++ [an2.toList])=M2 at *
         go_wp2_with fail
         replace hQ:=Lib.hid (hQ.out.below ((Below.refl _ wn).drew))
         refine wp_region_heldP (S:=Sx w [(b,o+m*2,.string ay),(b,o+m*2+1,.string an2)]) (A:=fun W=>W.cell? ⟨R,0,none⟩=some (Value.slice A1 O.length c1)) (B:=fun W=>W.cell? ⟨R,1,none⟩=some (Value.slice A2 M.length c2)) 19 21 (by kernel_rfl) (Sx.mk (by simp only[cs_iff_cons];exact⟨hq0.out _ (hI.out.gatherG hQ.out.g hQ.out.t).bel,hq1.out _ (hI.out.gatherG hQ.out.g hQ.out.t).bel,cs_nil _⟩) (hI.out.gatherG hQ.out.g hQ.out.t).bel) (hQ.out.r.c 0 _ rfl) (hQ.out.r.c 1 _ rfl) (fun hHeld=>?_)
         generalize wn.drew=Z0 at *
         (refine tkPx 0 59 (fun hH2=>?_) hHeld;clear hHeld;have hHeld:=hH2;clear hH2)
         (refine tkPx 1 60 (fun hH2=>?_) hHeld;clear hHeld;have hHeld:=hH2;clear hH2)
         (refine tkPx 2 61 (fun hH2=>?_) hHeld;clear hHeld;have hHeld:=hH2;clear hH2)
         (refine tkPx 3 62 (fun hH2=>?_) hHeld;clear hHeld;have hHeld:=hH2;clear hH2)
         (refine tkPx 4 63 (fun hH2=>?_) hHeld;clear hHeld;have hHeld:=hH2;clear hH2)
         (refine tkPx 5 64 (fun hH2=>?_) hHeld;clear hHeld;have hHeld:=hH2;clear hH2)
         (refine tkPx 6 65 (fun hH2=>?_) hHeld;clear hHeld;have hHeld:=hH2;clear hH2)
         (refine tkPx 7 66 (fun hH2=>?_) hHeld;clear hHeld;have hHeld:=hH2;clear hH2)
         (refine tkPx 8 67 (fun hH2=>?_) hHeld;clear hHeld;have hHeld:=hH2;clear hH2)
         (refine tkPx 10 69 (fun hH2=>?_) hHeld;clear hHeld;have hHeld:=hH2;clear hH2)
         (refine tkPx 11 70 (fun hH2=>?_) hHeld;clear hHeld;have hHeld:=hH2;clear hH2)
         (refine tkPx 12 71 (fun hH2=>?_) hHeld;clear hHeld;have hHeld:=hH2;clear hH2)
         (refine tkPx 13 72 (fun hH2=>?_) hHeld;clear hHeld;have hHeld:=hH2;clear hH2)
         (refine tkPx 14 73 (fun hH2=>?_) hHeld;clear hHeld;have hHeld:=hH2;clear hH2)
         (refine tkPx 15 74 (fun hH2=>?_) hHeld;clear hHeld;have hHeld:=hH2;clear hH2)
         (refine tkPx 16 75 (fun hH2=>?_) hHeld;clear hHeld;have hHeld:=hH2;clear hH2)
         (refine wpAnyHP_ready (rs:=[9]) (by decide +kernel) (by simp) ?_;refine AllReadyP.cons rfl (fun K hK=>?_) AllReadyP.nil;rw[if_pos (by kernel_rfl)];go_simp)
         refine (had1.out _ hQ.out.o1 hQ.out.g.size).mono ?_
         rintro e0 Z1 ⟨u1,rfl,hu1,hbn⟩
         go_simp
         replace hQ:=Lib.hid (hQ.out.put1 hbn hu1 hne1 (fun s e=>by cases e))
         refine hK.out _ _ ⟨(Sx.mk (by simp only[cs_iff_cons];exact⟨hq0.out _ (hI.out.gatherG hQ.out.g hQ.out.t).bel,hq1.out _ (hI.out.gatherG hQ.out.g hQ.out.t).bel,cs_nil _⟩) (hI.out.gatherG hQ.out.g hQ.out.t).bel),fun _=>hQ.out.r.c 0 _ rfl,fun _=>hQ.out.r.c 1 _ rfl⟩ (fun hH2=>?_)
         clear hu1 hbn
         clear hK K hHeld
         have hHeld:=hH2
         clear hH2
         (try simp only[apS,apN,siA,scZ,scS])
         (refine tkPx 18 77 (fun hH2=>?_) hHeld;clear hHeld;have hHeld:=hH2;clear hH2)
         (refine wpAnyHP_ready (rs:=[17]) (by decide +kernel) (by simp) ?_;refine AllReadyP.cons rfl (fun K hK=>?_) AllReadyP.nil;rw[if_pos (by kernel_rfl)];go_simp)
         refine (had2.out _ hQ.out.o2 hQ.out.g.size).mono ?_
         rintro e0 Z2 ⟨u2,rfl,hu2,hbn⟩
         go_simp
         replace hQ:=Lib.hid (hQ.out.put2 hbn hu2 hne2 (fun s e=>by cases e))
         refine hK.out _ _ ⟨(Sx.mk (by simp only[cs_iff_cons];exact⟨hq0.out _ (hI.out.gatherG hQ.out.g hQ.out.t).bel,hq1.out _ (hI.out.gatherG hQ.out.g hQ.out.t).bel,cs_nil _⟩) (hI.out.gatherG hQ.out.g hQ.out.t).bel),fun _=>hQ.out.r.c 0 _ rfl,fun _=>hQ.out.r.c 1 _ rfl⟩ (fun hH2=>?_)
         clear hu2 hbn
         clear hK K hHeld
         have hHeld:=hH2
         clear hH2
         (try simp only[apS,apN,siA,scZ,scS])
         obtain⟨B1,e1,hv1,_⟩:=TextsL.rows hQ.out.o1
         obtain⟨B2,e2,hv2,_⟩:=TextsL.rows hQ.out.o2
         generalize O2.length=N1 at hv1
         generalize M2.length=N2 at hv2
         subst hv1
         subst hv2
         have r0:=hQ.out.r.c 0 _ rfl;have f0:=hQ.out.r.free 0 (by simp)
         (refine wpAnyHP_ready (rs:=[19]) (by decide +kernel) (by simp) ?_;refine AllReadyP.cons rfl (fun K hK=>?_) AllReadyP.nil;rw[if_pos (by kernel_rfl)];go_simp)
         replace hQ:=Lib.hid (hQ.out.setR 0 (.slice B1 N1 e1) (by decide) (.slice B1 N1 e1) (Value.slice A2 M.length c2) rfl)
         refine hK.out _ _ ⟨(Sx.mk (by simp only[cs_iff_cons];exact⟨hq0.out _ (hI.out.gatherG hQ.out.g hQ.out.t).bel,hq1.out _ (hI.out.gatherG hQ.out.g hQ.out.t).bel,cs_nil _⟩) (hI.out.gatherG hQ.out.g hQ.out.t).bel),fun h=>absurd h (by decide +kernel),fun _=>hQ.out.r.c 1 _ rfl⟩ (fun hH2=>?_)
         clear r0 f0
         clear hK K hHeld
         have hHeld:=hH2
         clear hH2
         (try simp only[apS,apN,siA,scZ,scS])
         generalize Z2.setCell ⟨R,0,none⟩ (.slice B1 N1 e1)=Z3 at *
         (refine tkPx 20 78 (fun hH2=>?_) hHeld;clear hHeld;have hHeld:=hH2;clear hH2)
         have r1:=hQ.out.r.c 1 _ rfl;have f1:=hQ.out.r.free 1 (by simp)
         (refine wpAnyHP_ready (rs:=[21]) (by decide +kernel) (by simp) ?_;refine AllReadyP.cons rfl (fun K hK=>?_) AllReadyP.nil;rw[if_pos (by kernel_rfl)];go_simp)
         replace hQ:=Lib.hid (hQ.out.setR 1 (.slice B2 N2 e2) (by decide) (.slice B1 N1 e1) (.slice B2 N2 e2) rfl)
         refine hK.out _ _ ⟨(Sx.mk (by simp only[cs_iff_cons];exact⟨hq0.out _ (hI.out.gatherG hQ.out.g hQ.out.t).bel,hq1.out _ (hI.out.gatherG hQ.out.g hQ.out.t).bel,cs_nil _⟩) (hI.out.gatherG hQ.out.g hQ.out.t).bel),fun h=>absurd h (by decide +kernel),fun h=>absurd h (by decide +kernel)⟩ (fun hH2=>?_)
         clear r1 f1
         clear hK K hHeld
         have hHeld:=hH2
         clear hH2
         (try simp only[apS,apN,siA,scZ,scS])
         generalize Z3.setCell ⟨R,1,none⟩ (.slice B2 N2 e2)=Z4 at *
         (refine tkPx 22 79 (fun hH2=>?_) hHeld;clear hHeld;have hHeld:=hH2;clear hH2)
         have t0:=hQ.out.t.c m _ htm3
         have tf:=hQ.out.t.free m (by rw[List.length_map];exact hmt1)
         (refine wpAnyHP_ready (rs:=[23]) (by decide +kernel) (by simp) ?_;refine AllReadyP.cons rfl (fun K hK=>?_) AllReadyP.nil;rw[if_pos (by kernel_rfl)];go_simp)
         replace hQ:=Lib.hid (hQ.out.mark hmt1)
         refine hK.out _ _ ⟨(Sx.mk (by simp only[cs_iff_cons];exact⟨hq0.out _ (hI.out.gatherG hQ.out.g hQ.out.t).bel,hq1.out _ (hI.out.gatherG hQ.out.g hQ.out.t).bel,cs_nil _⟩) (hI.out.gatherG hQ.out.g hQ.out.t).bel),fun h=>absurd h (by decide +kernel),fun h=>absurd h (by decide +kernel)⟩ (fun hH2=>?_)
         clear hK K hHeld t0 tf hH2
         (try simp only[apS,apN,siA,scZ,scS])
         generalize Z4.setCell ⟨w.heap.size,m,none⟩ (.bool true)=Z5 at *
         refine wpAnyHP_done (by decide +kernel) ?_ _
         (try simp only[apS,apN,siA,scZ,scS])
         go_wp2_with fail
         go_roundw
         case rel=>exact⟨m+1,_,_,_,_,_,by omega,by go_num,hP2,hQ⟩
         case measure=>simp[intOf];omega
        rw[decide_eq_false hO] at hh1
        by_cases hM:an2.toList∈M
        ·have hmm:=hmm9.2 (.inr hM)
         rw[decide_eq_true hM] at hh2
         clear hmm9
         go_wp2_with fail
         refine wp_region_held_drew (S:=Sx wr [(R,0,(Value.slice A1 O.length c1)),(R,1,(Value.slice A2 M.length c2)),(b,o+m*2,.string ay),(b,o+m*2+1,.string an2)]) (by kernel_rfl) (Sx.mk (by simp only[cs_iff_cons];exact⟨r0,r1,l0,l1,cs_nil _⟩) (Below.refl _ _)).drew (fun hHeld=>?_)
         clear r0 r1 l0 l1
         refine tkHx 0 41 ?_
         refine tkHx 1 42 ?_
         refine tkHx 2 43 ?_
         refine tkHx 3 44 ?_
         refine tkHx 4 45 ?_
         refine tkHx 5 46 ?_
         refine tkHx 6 47 ?_
         (refine ratHx 7 (fun K hK=>?_);go_simp)
         refine (hh1.out _ hHeld.bel).mono ?_
         rintro e wn ⟨rfl,hbn⟩
         go_simp
         (refine hK.out _ _ (hHeld.step hbn) (fun hHeld=>?_);clear hK K;(try simp only[apS,apN,siA,scZ,scS]))
         refine tkHx 8 49 ?_
         refine tkHx 9 50 ?_
         refine tkHx 10 51 ?_
         refine tkHx 11 52 ?_
         refine tkHx 12 53 ?_
         refine tkHx 13 54 ?_
         refine tkHx 14 55 ?_
         refine tkHx 15 56 ?_
         (refine ratHx 16 (fun K hK=>?_);go_simp)
         refine (hh2.out _ hHeld.bel).mono ?_
         rintro e wn ⟨rfl,hbn⟩
         go_simp
         (refine hK.out _ _ (hHeld.step hbn) (fun hHeld=>?_);clear hK K;(try simp only[apS,apN,siA,scZ,scS]))
         refine tkHx 17 58 ?_
         refine wpAnyH_done (by kernel_rfl) ?_ _
         (try simp only[apS,apN,siA,scZ,scS])
         replace hQ:=Lib.hid (hQ.out.below hHeld.bel)
         clear hHeld hh1 hh2 hO hM
         have hP2:=hP.out.yes hmt hmm
         rw[Cal.oldT_at hmt,Cal.newT_at hmt,←hy1,←hy2] at hP2
         replace hP2:=Lib.hid hP2
         have hup1:=hP.out.upO
         have hup2:=hP.out.upM
         have hne1:Cal.tups (O ++ [ay.toList])≠[]:=fun e=>by
          have h1:ay.toList∈Cal.tups (O ++ [ay.toList]):=((Cal.tups_spec _).2 _).2 (List.mem_append.2 (.inr (List.mem_singleton.2 rfl)))
          rw[e] at h1;cases h1
         have hne2:Cal.tups (M ++ [an2.toList])≠[]:=fun e=>by
          have h1:an2.toList∈Cal.tups (M ++ [an2.toList]):=((Cal.tups_spec _).2 _).2 (List.mem_append.2 (.inr (List.mem_singleton.2 rfl)))
          rw[e] at h1;cases h1
         have had1:=Lib.hid (fun W (h:TextsL W wp.heap.size (Value.slice A1 O.length c1) O) (hs:wp.heap.size≤W.heap.size)=>addTx_any W wp.heap.size (Value.slice A1 O.length c1) O ay h hup1 (by omega) hs)
         have had2:=Lib.hid (fun W (h:TextsL W wp.heap.size (Value.slice A2 M.length c2) M) (hs:wp.heap.size≤W.heap.size)=>addTx_any W wp.heap.size (Value.slice A2 M.length c2) M an2 h hup2 (by omega) hs)
         clear hP hmm hy1 hy2 hup1 hup2
         generalize Cal.tups (O ++ [ay.toList])=O2 at *
         generalize Cal.tups (M ++ [an2.toList])=M2 at *
         go_wp2_with fail
         replace hQ:=Lib.hid (hQ.out.below ((Below.refl _ wn).drew))
         refine wp_region_heldP (S:=Sx w [(b,o+m*2,.string ay),(b,o+m*2+1,.string an2)]) (A:=fun W=>W.cell? ⟨R,0,none⟩=some (Value.slice A1 O.length c1)) (B:=fun W=>W.cell? ⟨R,1,none⟩=some (Value.slice A2 M.length c2)) 19 21 (by kernel_rfl) (Sx.mk (by simp only[cs_iff_cons];exact⟨hq0.out _ (hI.out.gatherG hQ.out.g hQ.out.t).bel,hq1.out _ (hI.out.gatherG hQ.out.g hQ.out.t).bel,cs_nil _⟩) (hI.out.gatherG hQ.out.g hQ.out.t).bel) (hQ.out.r.c 0 _ rfl) (hQ.out.r.c 1 _ rfl) (fun hHeld=>?_)
         generalize wn.drew=Z0 at *
         (refine tkPx 0 59 (fun hH2=>?_) hHeld;clear hHeld;have hHeld:=hH2;clear hH2)
         (refine tkPx 1 60 (fun hH2=>?_) hHeld;clear hHeld;have hHeld:=hH2;clear hH2)
         (refine tkPx 2 61 (fun hH2=>?_) hHeld;clear hHeld;have hHeld:=hH2;clear hH2)
         (refine tkPx 3 62 (fun hH2=>?_) hHeld;clear hHeld;have hHeld:=hH2;clear hH2)
         (refine tkPx 4 63 (fun hH2=>?_) hHeld;clear hHeld;have hHeld:=hH2;clear hH2)
         (refine tkPx 5 64 (fun hH2=>?_) hHeld;clear hHeld;have hHeld:=hH2;clear hH2)
         (refine tkPx 6 65 (fun hH2=>?_) hHeld;clear hHeld;have hHeld:=hH2;clear hH2)
         (refine tkPx 7 66 (fun hH2=>?_) hHeld;clear hHeld;have hHeld:=hH2;clear hH2)
         (refine tkPx 8 67 (fun hH2=>?_) hHeld;clear hHeld;have hHeld:=hH2;clear hH2)
         (refine tkPx 10 69 (fun hH2=>?_) hHeld;clear hHeld;have hHeld:=hH2;clear hH2)
         (refine tkPx 11 70 (fun hH2=>?_) hHeld;clear hHeld;have hHeld:=hH2;clear hH2)
         (refine tkPx 12 71 (fun hH2=>?_) hHeld;clear hHeld;have hHeld:=hH2;clear hH2)
         (refine tkPx 13 72 (fun hH2=>?_) hHeld;clear hHeld;have hHeld:=hH2;clear hH2)
         (refine tkPx 14 73 (fun hH2=>?_) hHeld;clear hHeld;have hHeld:=hH2;clear hH2)
         (refine tkPx 15 74 (fun hH2=>?_) hHeld;clear hHeld;have hHeld:=hH2;clear hH2)
         (refine tkPx 16 75 (fun hH2=>?_) hHeld;clear hHeld;have hHeld:=hH2;clear hH2)
         (refine wpAnyHP_ready (rs:=[9]) (by decide +kernel) (by simp) ?_;refine AllReadyP.cons rfl (fun K hK=>?_) AllReadyP.nil;rw[if_pos (by kernel_rfl)];go_simp)
         refine (had1.out _ hQ.out.o1 hQ.out.g.size).mono ?_
         rintro e0 Z1 ⟨u1,rfl,hu1,hbn⟩
         go_simp
         replace hQ:=Lib.hid (hQ.out.put1 hbn hu1 hne1 (fun s e=>by cases e))
         refine hK.out _ _ ⟨(Sx.mk (by simp only[cs_iff_cons];exact⟨hq0.out _ (hI.out.gatherG hQ.out.g hQ.out.t).bel,hq1.out _ (hI.out.gatherG hQ.out.g hQ.out.t).bel,cs_nil _⟩) (hI.out.gatherG hQ.out.g hQ.out.t).bel),fun _=>hQ.out.r.c 0 _ rfl,fun _=>hQ.out.r.c 1 _ rfl⟩ (fun hH2=>?_)
         clear hu1 hbn
         clear hK K hHeld
         have hHeld:=hH2
         clear hH2
         (try simp only[apS,apN,siA,scZ,scS])
         (refine tkPx 18 77 (fun hH2=>?_) hHeld;clear hHeld;have hHeld:=hH2;clear hH2)
         (refine wpAnyHP_ready (rs:=[17]) (by decide +kernel) (by simp) ?_;refine AllReadyP.cons rfl (fun K hK=>?_) AllReadyP.nil;rw[if_pos (by kernel_rfl)];go_simp)
         refine (had2.out _ hQ.out.o2 hQ.out.g.size).mono ?_
         rintro e0 Z2 ⟨u2,rfl,hu2,hbn⟩
         go_simp
         replace hQ:=Lib.hid (hQ.out.put2 hbn hu2 hne2 (fun s e=>by cases e))
         refine hK.out _ _ ⟨(Sx.mk (by simp only[cs_iff_cons];exact⟨hq0.out _ (hI.out.gatherG hQ.out.g hQ.out.t).bel,hq1.out _ (hI.out.gatherG hQ.out.g hQ.out.t).bel,cs_nil _⟩) (hI.out.gatherG hQ.out.g hQ.out.t).bel),fun _=>hQ.out.r.c 0 _ rfl,fun _=>hQ.out.r.c 1 _ rfl⟩ (fun hH2=>?_)
         clear hu2 hbn
         clear hK K hHeld
         have hHeld:=hH2
         clear hH2
         (try simp only[apS,apN,siA,scZ,scS])
         obtain⟨B1,e1,hv1,_⟩:=TextsL.rows hQ.out.o1
         obtain⟨B2,e2,hv2,_⟩:=TextsL.rows hQ.out.o2
         generalize O2.length=N1 at hv1
         generalize M2.length=N2 at hv2
         subst hv1
         subst hv2
         have r0:=hQ.out.r.c 0 _ rfl;have f0:=hQ.out.r.free 0 (by simp)
         (refine wpAnyHP_ready (rs:=[19]) (by decide +kernel) (by simp) ?_;refine AllReadyP.cons rfl (fun K hK=>?_) AllReadyP.nil;rw[if_pos (by kernel_rfl)];go_simp)
         replace hQ:=Lib.hid (hQ.out.setR 0 (.slice B1 N1 e1) (by decide) (.slice B1 N1 e1) (Value.slice A2 M.length c2) rfl)
         refine hK.out _ _ ⟨(Sx.mk (by simp only[cs_iff_cons];exact⟨hq0.out _ (hI.out.gatherG hQ.out.g hQ.out.t).bel,hq1.out _ (hI.out.gatherG hQ.out.g hQ.out.t).bel,cs_nil _⟩) (hI.out.gatherG hQ.out.g hQ.out.t).bel),fun h=>absurd h (by decide +kernel),fun _=>hQ.out.r.c 1 _ rfl⟩ (fun hH2=>?_)
         clear r0 f0
         clear hK K hHeld
         have hHeld:=hH2
         clear hH2
         (try simp only[apS,apN,siA,scZ,scS])
         generalize Z2.setCell ⟨R,0,none⟩ (.slice B1 N1 e1)=Z3 at *
         (refine tkPx 20 78 (fun hH2=>?_) hHeld;clear hHeld;have hHeld:=hH2;clear hH2)
         have r1:=hQ.out.r.c 1 _ rfl;have f1:=hQ.out.r.free 1 (by simp)
         (refine wpAnyHP_ready (rs:=[21]) (by decide +kernel) (by simp) ?_;refine AllReadyP.cons rfl (fun K hK=>?_) AllReadyP.nil;rw[if_pos (by kernel_rfl)];go_simp)
         replace hQ:=Lib.hid (hQ.out.setR 1 (.slice B2 N2 e2) (by decide) (.slice B1 N1 e1) (.slice B2 N2 e2) rfl)
         refine hK.out _ _ ⟨(Sx.mk (by simp only[cs_iff_cons];exact⟨hq0.out _ (hI.out.gatherG hQ.out.g hQ.out.t).bel,hq1.out _ (hI.out.gatherG hQ.out.g hQ.out.t).bel,cs_nil _⟩) (hI.out.gatherG hQ.out.g hQ.out.t).bel),fun h=>absurd h (by decide +kernel),fun h=>absurd h (by decide +kernel)⟩ (fun hH2=>?_)
         clear r1 f1
         clear hK K hHeld
         have hHeld:=hH2
         clear hH2
         (try simp only[apS,apN,siA,scZ,scS])
         generalize Z3.setCell ⟨R,1,none⟩ (.slice B2 N2 e2)=Z4 at *
         (refine tkPx 22 79 (fun hH2=>?_) hHeld;clear hHeld;have hHeld:=hH2;clear hH2)
         have t0:=hQ.out.t.c m _ htm3
         have tf:=hQ.out.t.free m (by rw[List.length_map];exact hmt1)
         (refine wpAnyHP_ready (rs:=[23]) (by decide +kernel) (by simp) ?_;refine AllReadyP.cons rfl (fun K hK=>?_) AllReadyP.nil;rw[if_pos (by kernel_rfl)];go_simp)
         replace hQ:=Lib.hid (hQ.out.mark hmt1)
         refine hK.out _ _ ⟨(Sx.mk (by simp only[cs_iff_cons];exact⟨hq0.out _ (hI.out.gatherG hQ.out.g hQ.out.t).bel,hq1.out _ (hI.out.gatherG hQ.out.g hQ.out.t).bel,cs_nil _⟩) (hI.out.gatherG hQ.out.g hQ.out.t).bel),fun h=>absurd h (by decide +kernel),fun h=>absurd h (by decide +kernel)⟩ (fun hH2=>?_)
         clear hK K hHeld t0 tf hH2
         (try simp only[apS,apN,siA,scZ,scS])
         generalize Z4.setCell ⟨w.heap.size,m,none⟩ (.bool true)=Z5 at *
         refine wpAnyHP_done (by decide +kernel) ?_ _
         (try simp only[apS,apN,siA,scZ,scS])
         go_wp2_with fail
         go_roundw
         case rel=>exact⟨m+1,_,_,_,_,_,by omega,by go_num,hP2,hQ⟩
         case measure=>simp[intOf];omega
        have hno:¬Cal.mtc l O M m:=fun h=>by
         rcases hmm9.1 h with h | h
         ·exact hO h
         exact hM h
        rw[decide_eq_false hM] at hh2
        have hP2:=Lib.hid (hP.out.no hno)
        clear hmm9 hno
        go_wp2_with fail
        refine wp_region_held_drew (S:=Sx wr [(R,0,(Value.slice A1 O.length c1)),(R,1,(Value.slice A2 M.length c2)),(b,o+m*2,.string ay),(b,o+m*2+1,.string an2)]) (by kernel_rfl) (Sx.mk (by simp only[cs_iff_cons];exact⟨r0,r1,l0,l1,cs_nil _⟩) (Below.refl _ _)).drew (fun hHeld=>?_)
        clear r0 r1 l0 l1
        refine tkHx 0 41 ?_
        refine tkHx 1 42 ?_
        refine tkHx 2 43 ?_
        refine tkHx 3 44 ?_
        refine tkHx 4 45 ?_
        refine tkHx 5 46 ?_
        refine tkHx 6 47 ?_
        (refine ratHx 7 (fun K hK=>?_);go_simp)
        refine (hh1.out _ hHeld.bel).mono ?_
        rintro e wn ⟨rfl,hbn⟩
        go_simp
        (refine hK.out _ _ (hHeld.step hbn) (fun hHeld=>?_);clear hK K;(try simp only[apS,apN,siA,scZ,scS]))
        refine tkHx 8 49 ?_
        refine tkHx 9 50 ?_
        refine tkHx 10 51 ?_
        refine tkHx 11 52 ?_
        refine tkHx 12 53 ?_
        refine tkHx 13 54 ?_
        refine tkHx 14 55 ?_
        refine tkHx 15 56 ?_
        (refine ratHx 16 (fun K hK=>?_);go_simp)
        refine (hh2.out _ hHeld.bel).mono ?_
        rintro e wn ⟨rfl,hbn⟩
        go_simp
        (refine hK.out _ _ (hHeld.step hbn) (fun hHeld=>?_);clear hK K;(try simp only[apS,apN,siA,scZ,scS]))
        refine tkHx 17 58 ?_
        refine wpAnyH_done (by kernel_rfl) ?_ _
        (try simp only[apS,apN,siA,scZ,scS])
        replace hQ:=Lib.hid (hQ.out.below hHeld.bel)
        clear hHeld hh1 hh2 hO hM hP
        go_wp2_with fail
        go_roundw
        case rel=>exact⟨m+1,_,_,_,_,_,by omega,by go_num,hP2,hQ⟩
        case measure=>simp[intOf];omega
       obtain rfl:m=l.length:=by omega
       have hcl2:=Lib.hid (hP.out.ends hcl.out)
       have hG2:=Lib.hid hP.out.g
       have hup2:=Lib.hid (And.intro hP.out.upO hP.out.upM)
       clear hP
       go_wp2_with fail
       go_roundw
       case rel=>exact⟨p+1,_,_,_,_,_,by omega,by go_num,hG2,hQ,hup2,hcl2⟩
       case measure=>simp[intOf];omega
     obtain rfl:p=l.length:=by omega
     have hends:=hG.out.ends (Cal.cls_full hG.out.len hcl.out)
     have hU2:=Lib.hid hends.1
     have hO8:=hends.2.1
     have hM8:=hends.2.2
     rw[Cal.tups_self hup.out.1] at hO8
     rw[Cal.tups_self hup.out.2] at hM8
     subst hO8
     subst hM8
     obtain⟨A1,c1,rfl,_⟩:=TextsL.rows hQ.out.o1
     obtain⟨A2,c2,rfl,_⟩:=TextsL.rows hQ.out.o2
     have hpp:Hid ((ps ++ [(⟨A1,c1,Cal.compO l k,A2,c2,Cal.compM l k⟩:Prt)]).map Prt.two=Cal.prtTo l (k+1)):=by
      show _=_
      rw[List.map_append,List.map_singleton,hP.out,Cal.prtTo_yes hfst.out]
      rfl
     have hpl:ps.length≤l.length:=by
      have:=congrArg List.length hP.out
      rw[List.length_map] at this
      have:=Cal.prtTo_len l k
      omega
     have hX:=Lib.hid ((hI.out.gatherG hQ.out.g hQ.out.t).below (below_alloc wr (.cells #[.slice A1 (Cal.compO l k).length c1,.slice A2 (Cal.compM l k).length c2] 25)))
     have hsrc:Hid (RowsAt (wr.alloc (.cells #[.slice A1 (Cal.compO l k).length c1,.slice A2 (Cal.compM l k).length c2] 25)) (some ⟨wr.heap.size,0,none⟩) 2 [Prt.cells ⟨A1,c1,Cal.compO l k,A2,c2,Cal.compM l k⟩]):=rowsAt_new wr [.slice A1 (Cal.compO l k).length c1,.slice A2 (Cal.compM l k).length c2] 25
     obtain⟨r0,r1⟩:=hQ.out.r.c2
     have hul:Hid (∀ g,u4.ownBlock=some g→g<wp.heap.size):=fun g eg=>(OwnL.lt hI.out.o g eg).2
     replace hQ:=Lib.hid (hQ.out.below (below_alloc wr (.cells #[.slice A1 (Cal.compO l k).length c1,.slice A2 (Cal.compM l k).length c2] 25)))
     have hpf:Hid (∀ a,(A1=some a∨A2=some a)→w.heap.size<a.block∧a.block<(wr.alloc (.cells #[.slice A1 (Cal.compO l k).length c1,.slice A2 (Cal.compM l k).length c2] 25)).heap.size∧u4.ownBlock≠some a.block):=fun a ha=>by
      have htl:=hQ.out.tl
      have:wp.heap.size≤a.block∧a.block<(wr.alloc (.cells #[.slice A1 (Cal.compO l k).length c1,.slice A2 (Cal.compM l k).length c2] 25)).heap.size:=by
       rcases ha with ha | ha
       ·exact OwnL.lt hQ.out.o1 a.block (by rw[ha];rfl)
       exact OwnL.lt hQ.out.o2 a.block (by rw[ha];rfl)
      exact⟨by omega,this.2,fun eg=>by have:=hul.out _ eg;omega⟩
     have hxr:=Lib.hid (And.intro (OwnL.formR hQ.out.o1) (OwnL.formR hQ.out.o2))
     have hw1:w.heap.size+1≤wr.heap.size+1:=by have:=hQ.out.tl;have:=hQ.out.g.size;rw[World.size_alloc] at this;omega
     clear hends hcl hG hP hU hfst hQ hI hup
     go_wp2_with (at_builtin;refine wpList_append_rows elemPrt rfl _ _ rfl rfl rfl hX.out.o hsrc.out rfl (prt_wid [⟨A1,c1,Cal.compO l k,A2,c2,Cal.compM l k⟩]) (prt_one [⟨A1,c1,Cal.compO l k,A2,c2,Cal.compM l k⟩]) (by rw[List.length_map,List.length_singleton];omega) (by decide) (by rw[World.size_alloc];exact hw1) ?_;intro v' Z4 hown hg hob;have hN:=Lib.hid (hX.out.push hg (by rw[List.map_append,List.map_singleton];exact hown) hob hxr.out hpf.out);clear hown hg hob)
     go_roundw
     case rel=>exact⟨k+1,_,_,_,by omega,by go_num,rfl,hU2,hpp,hN⟩
     case measure=>simp[intOf];omega
   rw[htk] at t0
   obtain⟨hU2,hnf⟩:=hU.out.skip hlt (by rw[List.getElem?_eq_getElem hkt,htk])
   replace hU2:=Lib.hid hU2
   have hP2:Hid (ps.map Prt.two=Cal.prtTo l (k+1)):=by show _=_;rw[Cal.prtTo_no hnf];exact hP.out
   clear hnf hU hP htk
   go_wp2_with fail
   go_roundw
   case rel=>exact⟨k+1,_,_,ps,by omega,by go_num,rfl,hU2,hP2,hI⟩
   case measure=>simp[intOf];omega
  obtain rfl:k=l.length:=by omega
  obtain⟨S,d,rfl,_⟩:=OwnL.form hI.out.o
  rw[List.length_map] at hI ⊢
  clear hl
  go_wp2_with fail
  go_ret
  exact⟨S,d,ps,rfl,hI.out.prts,hP.out,hI.out.bel⟩
end Go.Proofs.YtoojdkaimhlcbaaGreat
