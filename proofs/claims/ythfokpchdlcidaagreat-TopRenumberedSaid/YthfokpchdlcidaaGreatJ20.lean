/- What the statements rest on: definitions and walks, part 20. -/
import Derived.Test.YthfokpchdlcidaaGreatJ19
set_option maxRecDepth 100000
set_option maxHeartbeats 16000000
set_option linter.unusedSimpArgs false
set_option linter.unusedVariables false
namespace Go.Proofs.YthfokpchdlcidaaGreat
open Go Go.RowKit Go.Shelf
def lenV:Value→Nat
 | .slice _ n _=>n
 | _=>0
theorem OwnL.blk {w:World} {B m n c:Nat} {E:TypeId} {A:Option Addr} {rows:List (List Value)} (h:OwnL w B E m (.slice A n c) rows):∀ ad,A=some ad→B≤ad.block∧ad.block<w.heap.size:=fun ad e=>by
 subst e
 exact OwnL.lt h ad.block rfl
theorem pts_own {w:World} {B n c:Nat} {A:Option Addr} {ps:List Pt} (h:OwnL w B 27 2 (.slice A n c) (ps.map ptR)) (hr:RowsAt w A 2 (ps.map ptR)) (hl:ps.length≤1000000) (hs:∀ p∈ps,SmP p):Pts w A ps :=
 ⟨hr,hl,hs,fun ad e _=>(h.blk ad e).2⟩
def EarSt (q:List Pt) (k:Nat) (a:Int):Prop:=(a=-1∧∀ j,j<k→decide (0≤Cal.earR q j)=false)∨(∃ j:Nat,a=j∧j<q.length∧decide (0≤Cal.earR q j)=true∧∀ i,i<j→decide (0≤Cal.earR q i)=false)
theorem TrianglesR_any (V:Option Addr) (d:Nat) (ps:List Pt) (w:World) (hP:Pts w V ps) (hd:ps.length≤d) :
  Calls Tryz.prog 90 #[.slice V ps.length d] w fun e w'=>∃ v gs,e=.returned v∧TrsO w' w.heap.size v (Cal.trisOf ps) gs∧Below w.heap.size w w':=by
 have hb0:Hid (Below w.heap.size w w):=Below.refl _ _
 have hsz:=hP.size
 have hP0:=Lib.hid hP
 have hT0:Hid (TrsO w w.heap.size (.slice none 0 0) [] []):=TrsO.nil _ _
 have hE0:Hid (Cal.trisOf ps=[] ++ Cal.trisR ps.length ps):=rfl
 have hd0:=Lib.hid hd
 have hne0:Hid (∀ ad,V=some ad→(Value.slice none 0 0).ownBlock≠some ad.block):=fun ad _ e=>by cases e
 have hl0:Hid (([]:List Nat).length+ps.length≤ps.length):=by show _≤_;simp
 have hf0:Hid (ps.length≤ps.length):=Nat.le_refl _
 generalize Cal.trisOf ps=T at *
 clear hP hd
 go_enter Tryz.func90,Tryz.ntmps90
 go_wp2_with fail
 go_loopw [0,3] (fun pv ov wr=>∃ (q:List Pt) (V1:Option Addr) (d1 f:Nat) (v:Value) (done:List (List Pt)) (gs:List Nat),pv=.slice V1 q.length d1∧ov=v∧Hid (q.length≤d1)∧Hid (Pts wr V1 q)∧Hid (T=done ++ Cal.trisR f q)∧Hid (q.length≤f)∧Hid (TrsO wr w.heap.size v done gs)∧Hid (∀ ad,V1=some ad→v.ownBlock≠some ad.block)∧Hid (gs.length+q.length≤ps.length)∧Hid (Below w.heap.size w wr)) (fun pv _ _=>lenV pv)
 case atStart=>exact⟨ps,V,d,ps.length,_,[],[],rfl,rfl,hd0,hP0,hE0,hf0,hT0,hne0,hl0,hb0⟩
 case round =>
  clear hd0 hP0 hE0 hf0 hT0 hne0 hl0 hb0
  obtain⟨q,V1,d1,f,v,done,gs,rfl,rfl,hdq,hPq,hE,hfq,hT,hne,hl,hb⟩:=hrel
  generalize hwo:wr=wo at *
  clear hwo wr
  by_cases hlt:2<q.length
  ·have hki:(2:Int)<(q.length:Int):=by omega
   have hq6:q.length≤1000000:=hPq.out.size
   have hear:=Lib.hid (fun W (hW:Below wo.heap.size wo W) (j:Nat) (hj:j<q.length)=>earR_any V1 d1 q j W (hPq.out.below hW) hj)
   have hbr:Hid (Below wo.heap.size wo wo):=Below.refl _ _
   go_wp2_with fail
   go_loopw [4,5] (fun av iv wi=>∃ (k:Nat) (a:Int),k≤q.length∧iv=.int .i64 k∧av=.int .i64 a∧Hid (EarSt q k a)∧Hid (Below wo.heap.size wo wi)) (fun _ iv _=>q.length-(intOf iv).toNat)
   case atStart=>exact⟨0,-1,Nat.zero_le _,rfl,rfl,Or.inl ⟨rfl,fun j h=>by omega⟩,hbr⟩
   case round =>
    clear hbr
    obtain⟨k,a,hk,rfl,rfl,hst,hbi⟩:=hrel
    rcases hst.out with ⟨rfl,hno⟩ | ⟨j,rfl,hj,hj1,hj2⟩
    ·by_cases hk2:k<q.length
     ·have hkk:(k:Int)<(q.length:Int):=by omega
      obtain⟨Z,hZ⟩:∃ Z,Cal.earR q k=Z:=⟨_,rfl⟩
      have hec:Hid (Calls Tryz.prog 121 #[.slice V1 q.length d1,.int .i64 (k:Int)] wr fun e w'=>e=.returned (.int .i64 Z)∧Below wr.heap.size wr w'):=by
       have:=hear.out wr hbi.out k hk2
       rw[hZ] at this
       exact this
      by_cases hz:0≤Z
      ·have hst2:Hid (EarSt q (k+1) k) :=
        Or.inr ⟨k,rfl,hk2,by rw[hZ];exact decide_eq_true hz,hno⟩
       clear hst hno hZ
       go_wp2_with (go_at_call 121;refine hec.out.mono ?_;rintro e w1 ⟨rfl,hb1⟩;have hbj:=Lib.hid (hbi.out.trans (hb1.mono hbi.out.size));clear hb1)
       go_roundw
       case rel=>exact⟨k+1,k,by omega,by go_num,rfl,hst2,hbj⟩
       case measure=>simp[intOf];omega
      have hst2:Hid (EarSt q (k+1) (-1)) :=
       Or.inl ⟨rfl,fun j hj=>by
        rcases Nat.lt_succ_iff_lt_or_eq.1 hj with h' | h'
        ·exact hno j h'
        rw[h',hZ];exact decide_eq_false hz⟩
      clear hst hno hZ
      go_wp2_with (go_at_call 121;refine hec.out.mono ?_;rintro e w1 ⟨rfl,hb1⟩;have hbj:=Lib.hid (hbi.out.trans (hb1.mono hbi.out.size));clear hb1)
      go_roundw
      case rel=>exact⟨k+1,-1,by omega,by go_num,rfl,hst2,hbj⟩
      case measure=>simp[intOf];omega
     obtain rfl:k=q.length:=by omega
     have hTe:Hid (T=done):=by show _=_;rw[hE.out,trisR_none (by omega) hno,List.append_nil]
     clear hst hno
     go_wp2_with fail
     go_ret
     exact⟨_,gs,rfl,by rw[hTe.out];exact hT.out.below hbi.out,below_step hb.out hbi.out⟩
    obtain⟨f',rfl,hTr⟩:=trisR_some (f:=f) (by omega) hj hj1 hj2 (by have:=hfq.out;omega)
    have hjn:¬(j:Int)<0:=by omega
    have hel:Hid ((q.eraseIdx j).length+1=q.length∧(q.eraseIdx j).length≤1000000):=by
     have:=List.length_eraseIdx_of_lt hj
     exact⟨by omega,by omega⟩
    have hsm2:Hid (∀ p∈q.eraseIdx j,SmP p):=fun p hp=>hPq.out.sm p (List.mem_of_mem_eraseIdx hp)
    have hfq2:Hid ((q.eraseIdx j).length≤f'):=by have:=hfq.out;have:=hel.out.1;show _≤_;omega
    have hwo:=Lib.hid (fun W (hW:RowsAt W V1 2 (q.map ptR))=>withoutR_any V1 d1 q j W hW hdq.out hj hq6)
    have hec:=hear.out wr hbi.out j hj
    rcases earR_one_or hj1 with h1 | h1
    ·rw[h1] at hec
     rw[if_pos h1] at hTr
     replace hec:=Lib.hid hec
     have hE2':Hid (T=(done ++ [Cal.triAt q j]) ++ Cal.trisR f' (q.eraseIdx j)):=by show _=_;rw[hE.out,hTr,List.append_assoc]
     have m1:=Nat.mod_lt (j+q.length-1) (Nat.lt_of_le_of_lt (Nat.zero_le _) hj)
     have m2:=Nat.mod_lt (j+1) (Nat.lt_of_le_of_lt (Nat.zero_le _) hj)
     have hta:Cal.triAt q j=[q[(j+q.length-1) % q.length],q[j],q[(j+1) % q.length]]:=by
      unfold Cal.triAt Cal.earA Cal.earB Cal.earC
      rw[List.getElem?_eq_getElem m1,List.getElem?_eq_getElem m2,List.getElem?_eq_getElem hj];rfl
     have hE2:Hid (T=(done ++ [[q[(j+q.length-1) % q.length],q[j],q[(j+1) % q.length]]]) ++ Cal.trisR f' (q.eraseIdx j)):=by show _=_;rw[hE2'.out,hta]
     have hlz:Hid ((gs.length+1:Nat)≤4000000000):=by have:=hl.out;show _≤_;omega
     have hl2:∀ g:Nat,Hid ((gs ++ [g]).length+(q.eraseIdx j).length≤ps.length):=fun g=>by have:=hl.out;have:=hel.out.1;show _≤_;rw[List.length_append,List.length_singleton];omega
     have r1:(((j+q.length-1) % q.length:Nat):Int)<(q.length:Int):=Int.ofNat_lt.2 m1
     have r2:(((j+1) % q.length:Nat):Int)<(q.length:Int):=Int.ofNat_lt.2 m2
     have r3:(j:Int)<(q.length:Int):=Int.ofNat_lt.2 hj
     have hn0:¬q.length=0:=fun e=>by rw[e] at hj;exact absurd hj (Nat.not_lt_zero _)
     obtain⟨q1,q2,q3,q4,q5,q6,q7⟩:=ear_idx hj hq6
     have q1b:wrap64 ((j:Int)+(q.length:Int))=((j+q.length:Nat):Int):=by rw[←wrap_eq];exact q1
     have q2b:wrap64 (((j+q.length:Nat):Int)-1)=((j+q.length-1:Nat):Int):=by rw[←wrap_eq];exact q2
     have q4b:wrap64 ((j:Int)+1)=((j+1:Nat):Int):=by rw[←wrap_eq];exact q4
     clear hst hj1 hj2 hTr h1 hear hE hl hfq hE2' hta
     by_cases hk2:k<q.length
     ·have hkk:(k:Int)<(q.length:Int):=Int.ofNat_lt.2 hk2
      go_wp2_with (go_at_call 121;refine hec.out.mono ?_;rintro e w1 ⟨rfl,hb1⟩;have hbk:=Lib.hid (hbi.out.trans (hb1.mono hbi.out.size));clear hb1)
      have hPk:=hPq.out.rows.below hbk.out
      obtain⟨b,o,rfl,hbx,a0,a1⟩:=pts_at hPk (List.getElem?_eq_getElem m1)
      obtain⟨b',o',hA,_,b0,b1⟩:=pts_at hPk (List.getElem?_eq_getElem hj)
      cases hA
      obtain⟨b',o',hA,_,c0,c1⟩:=pts_at hPk (List.getElem?_eq_getElem m2)
      cases hA
      generalize q[(j+q.length-1) % q.length]=pa at *
      generalize q[j]=pb at *
      generalize q[(j+1) % q.length]=pc at *
      generalize (j+q.length-1) % q.length=ja at *
      generalize (j+1) % q.length=jc at *
      generalize j+q.length-1=z1 at *
      generalize j+q.length=z2 at *
      generalize j+1=z3 at *
      refine wp_region_held_drew (S:=Sx w [(b,o+ja*2,.int .i64 pa.x),(b,o+ja*2+1,.int .i64 pa.y),(b,o+j*2,.int .i64 pb.x),(b,o+j*2+1,.int .i64 pb.y),(b,o+jc*2,.int .i64 pc.x),(b,o+jc*2+1,.int .i64 pc.y)]) (by kernel_rfl) (Sx.mk (by simp only[cs_iff_cons];exact⟨a0,a1,b0,b1,c0,c1,cs_nil _⟩) (below_step hb.out hbk.out)).drew (fun hHeld=>?_)
      clear a0 a1 b0 b1 c0 c1 hPk
      have hTd:=Lib.hid (hT.out.below hbk.out.drew)
      have hRd:=Lib.hid (hPq.out.rows.below hbk.out.drew)
      have hbY:Hid (b<w1.drew.heap.size):=hbx
      have hnb:Hid (u3.ownBlock≠some b):=hne.out _ rfl
      generalize w1.drew=Y at *
      refine tkHx 0 31 ?_
      refine tkHx 1 32 ?_
      refine tkHx 2 33 ?_
      refine tkHx 3 34 ?_
      refine tkHx 4 35 ?_
      refine tkHx 5 36 ?_
      refine tkHx 6 37 ?_
      refine tkHx 7 38 ?_
      refine tkHx 8 39 ?_
      refine tkHx 9 40 ?_
      refine tkHx 10 41 ?_
      refine tkHx 11 42 ?_
      refine tkHx 12 43 ?_
      refine tkHx 13 44 ?_
      refine tkHx 14 45 ?_
      refine tkHx 15 46 ?_
      refine tkHx 16 47 ?_
      refine tkHx 17 48 ?_
      refine tkHx 18 49 ?_
      refine tkHx 19 50 ?_
      refine tkHx 20 51 ?_
      refine tkHx 21 52 ?_
      refine tkHx 22 53 ?_
      refine tkHx 23 54 ?_
      clear q1 q2 q3 q4 q5 q6 q7 q1b q2b q4b
      (refine ratHx 24 (fun K hK=>?_);go_simp)
      refine hK.out _ _ (hHeld.alloc _) (fun hHeld=>?_)
      clear hK K
      (try simp only[apS,apN,siA,scZ,scS])
      have hrw:=Lib.hid (rows_new (m:=2) Y ([pa,pb,pc].map ptR) (fun r hr=>by obtain⟨p,_,rfl⟩:=List.mem_map.1 hr;rfl) #[.int .i64 pa.x,.int .i64 pa.y,.int .i64 pb.x,.int .i64 pb.y,.int .i64 pc.x,.int .i64 pc.y] rfl 27)
      have hg0:Hid (Y.heap.size<(Y.alloc (.cells #[.int .i64 pa.x,.int .i64 pa.y,.int .i64 pb.x,.int .i64 pb.y,.int .i64 pc.x,.int .i64 pc.y] 27)).heap.size):=by show _<_;rw[World.size_alloc];exact Nat.lt_succ_self _
      have hnY:Hid (u3.ownBlock≠some Y.heap.size):=fun e=>Nat.lt_irrefl _ (OwnL.lt hTd.out.own _ e).2
      replace hbY:Hid (b<(Y.alloc (.cells #[.int .i64 pa.x,.int .i64 pa.y,.int .i64 pb.x,.int .i64 pb.y,.int .i64 pc.x,.int .i64 pc.y] 27)).heap.size):=Nat.lt_trans hbY.out hg0.out
      replace hTd:=Lib.hid (hTd.out.below (below_alloc _ (.cells #[.int .i64 pa.x,.int .i64 pa.y,.int .i64 pb.x,.int .i64 pb.y,.int .i64 pc.x,.int .i64 pc.y] 27)))
      replace hRd:=Lib.hid (hRd.out.below (below_alloc _ (.cells #[.int .i64 pa.x,.int .i64 pa.y,.int .i64 pb.x,.int .i64 pb.y,.int .i64 pc.x,.int .i64 pc.y] 27)))
      generalize Y.alloc (.cells #[.int .i64 pa.x,.int .i64 pa.y,.int .i64 pb.x,.int .i64 pb.y,.int .i64 pc.x,.int .i64 pc.y] 27)=Y1 at *
      generalize Y.heap.size=g0 at *
      (refine ratHx 25 (fun K hK=>?_);go_simp)
      refine hK.out _ _ (hHeld.alloc _) (fun hHeld=>?_)
      clear hK K
      (try simp only[apS,apN,siA,scZ,scS])
      replace hrw:=Lib.hid (hrw.out.below (below_alloc _ (.cells (triV g0).toArray 22)))
      replace hTd:=Lib.hid (hTd.out.below (below_alloc _ (.cells (triV g0).toArray 22)))
      replace hRd:=Lib.hid (hRd.out.below (below_alloc _ (.cells (triV g0).toArray 22)))
      (refine wpAnyH_ready (rs:=[26]) (by decide +kernel) (by simp) ?_;refine AllReadyH.cons rfl (fun K hK=>?_) AllReadyH.nil)
      refine step_append_rows elemTrs (by rfl) (.tmp 31) (.tmp 56) (by rfl) (by rfl) (by rfl) hTd.out.own (rowsAt_new _ (triV g0) _) rfl (fun r hr=>by rw[List.mem_singleton.1 hr];rfl) (fun r hr u hu=>by rw[List.mem_singleton.1 hr] at hu;rw[List.mem_singleton.1 hu];rfl) (by rw[List.length_map,List.length_singleton];exact hlz.out) (by decide) hHeld.bel.size ?_
      intro v9 w9 hown9 hg9 hob9
      have hT9:=Lib.hid (hTd.out.push hrw.out (by rw[World.size_alloc];exact Nat.lt_succ_of_lt hg0.out) hnY.out hown9 hg9 hob9)
      have hR9:=Lib.hid (hRd.out.farI hg9 (fun a e=>by cases e;exact hnb.out.symm))
      refine hK.out _ _ (hHeld.grow hg9 (fun g e=>(OwnL.lt hTd.out.own g e).1) (fun x hx=>by
       have hxb:x.1=b:=by
        simp only[List.mem_cons,List.not_mem_nil,or_false] at hx
        rcases hx with rfl | rfl | rfl | rfl | rfl | rfl <;> rfl
       rw[hxb]
       exact⟨hnb.out,by rw[World.size_alloc];exact Nat.lt_succ_of_lt hbY.out⟩)) (fun hHeld=>?_)
      clear hK K hg9 hob9 hown9 hrw hTd hRd
      (try simp only[apS,apN,siA,scZ,scS])
      refine tkHx 27 3 ?_
      refine wpAnyH_done (by kernel_rfl) ?_ _
      (try simp only[apS,apN,siA,scZ,scS])
      have hb9:=Lib.hid hHeld.bel
      clear hHeld
      go_wp2_with (go_at_call 122;refine (hwo.out _ hR9.out).mono ?_;rintro e w2 ⟨v2,rfl,hO2,hb2⟩)
      have hbn:=Lib.hid (below_step hb9.out hb2)
      have hT2:=Lib.hid (hT9.out.below hb2)
      obtain⟨A2,c2,rfl,hr2⟩:=hO2.form
      rw[List.length_map] at hO2 ⊢
      have hP2:=Lib.hid (pts_own hO2 hr2 hel.out.2 hsm2.out)
      have hcap2:=Lib.hid (hO2.capO (by rw[List.length_map]))
      have hne2:Hid (∀ ad,A2=some ad→(v9).ownBlock≠some ad.block):=fun ad e e2=>by
       have h3:=(hO2.blk ad e).1
       have h4:=(OwnL.lt hT9.out.own _ e2).2
       omega
      clear hO2 hr2 hb2
      go_wp2_with fail
      go_roundw
      case rel=>exact⟨q.eraseIdx j,A2,c2,f',_,(done ++ [[pa,pb,pc]]),(gs ++ [g0]),rfl,rfl,hcap2,hP2,hE2,hfq2,hT2,hne2,(hl2 g0),hbn⟩
      case measure=>simp[lenV];have:=hel.out.1;omega
     have hkk:¬(k:Int)<(q.length:Int):=fun h=>hk2 (Int.ofNat_lt.1 h)
     go_wp2_with (go_at_call 121;refine hec.out.mono ?_;rintro e w1 ⟨rfl,hb1⟩;have hbk:=Lib.hid (hbi.out.trans (hb1.mono hbi.out.size));clear hb1)
     have hPk:=hPq.out.rows.below hbk.out
     obtain⟨b,o,rfl,hbx,a0,a1⟩:=pts_at hPk (List.getElem?_eq_getElem m1)
     obtain⟨b',o',hA,_,b0,b1⟩:=pts_at hPk (List.getElem?_eq_getElem hj)
     cases hA
     obtain⟨b',o',hA,_,c0,c1⟩:=pts_at hPk (List.getElem?_eq_getElem m2)
     cases hA
     generalize q[(j+q.length-1) % q.length]=pa at *
     generalize q[j]=pb at *
     generalize q[(j+1) % q.length]=pc at *
     generalize (j+q.length-1) % q.length=ja at *
     generalize (j+1) % q.length=jc at *
     generalize j+q.length-1=z1 at *
     generalize j+q.length=z2 at *
     generalize j+1=z3 at *
     refine wp_region_held_drew (S:=Sx w [(b,o+ja*2,.int .i64 pa.x),(b,o+ja*2+1,.int .i64 pa.y),(b,o+j*2,.int .i64 pb.x),(b,o+j*2+1,.int .i64 pb.y),(b,o+jc*2,.int .i64 pc.x),(b,o+jc*2+1,.int .i64 pc.y)]) (by kernel_rfl) (Sx.mk (by simp only[cs_iff_cons];exact⟨a0,a1,b0,b1,c0,c1,cs_nil _⟩) (below_step hb.out hbk.out)).drew (fun hHeld=>?_)
     clear a0 a1 b0 b1 c0 c1 hPk
     have hTd:=Lib.hid (hT.out.below hbk.out.drew)
     have hRd:=Lib.hid (hPq.out.rows.below hbk.out.drew)
     have hbY:Hid (b<w1.drew.heap.size):=hbx
     have hnb:Hid (u3.ownBlock≠some b):=hne.out _ rfl
     generalize w1.drew=Y at *
     refine tkHx 0 31 ?_
     refine tkHx 1 32 ?_
     refine tkHx 2 33 ?_
     refine tkHx 3 34 ?_
     refine tkHx 4 35 ?_
     refine tkHx 5 36 ?_
     refine tkHx 6 37 ?_
     refine tkHx 7 38 ?_
     refine tkHx 8 39 ?_
     refine tkHx 9 40 ?_
     refine tkHx 10 41 ?_
     refine tkHx 11 42 ?_
     refine tkHx 12 43 ?_
     refine tkHx 13 44 ?_
     refine tkHx 14 45 ?_
     refine tkHx 15 46 ?_
     refine tkHx 16 47 ?_
     refine tkHx 17 48 ?_
     refine tkHx 18 49 ?_
     refine tkHx 19 50 ?_
     refine tkHx 20 51 ?_
     refine tkHx 21 52 ?_
     refine tkHx 22 53 ?_
     refine tkHx 23 54 ?_
     clear q1 q2 q3 q4 q5 q6 q7 q1b q2b q4b
     (refine ratHx 24 (fun K hK=>?_);go_simp)
     refine hK.out _ _ (hHeld.alloc _) (fun hHeld=>?_)
     clear hK K
     (try simp only[apS,apN,siA,scZ,scS])
     have hrw:=Lib.hid (rows_new (m:=2) Y ([pa,pb,pc].map ptR) (fun r hr=>by obtain⟨p,_,rfl⟩:=List.mem_map.1 hr;rfl) #[.int .i64 pa.x,.int .i64 pa.y,.int .i64 pb.x,.int .i64 pb.y,.int .i64 pc.x,.int .i64 pc.y] rfl 27)
     have hg0:Hid (Y.heap.size<(Y.alloc (.cells #[.int .i64 pa.x,.int .i64 pa.y,.int .i64 pb.x,.int .i64 pb.y,.int .i64 pc.x,.int .i64 pc.y] 27)).heap.size):=by show _<_;rw[World.size_alloc];exact Nat.lt_succ_self _
     have hnY:Hid (u3.ownBlock≠some Y.heap.size):=fun e=>Nat.lt_irrefl _ (OwnL.lt hTd.out.own _ e).2
     replace hbY:Hid (b<(Y.alloc (.cells #[.int .i64 pa.x,.int .i64 pa.y,.int .i64 pb.x,.int .i64 pb.y,.int .i64 pc.x,.int .i64 pc.y] 27)).heap.size):=Nat.lt_trans hbY.out hg0.out
     replace hTd:=Lib.hid (hTd.out.below (below_alloc _ (.cells #[.int .i64 pa.x,.int .i64 pa.y,.int .i64 pb.x,.int .i64 pb.y,.int .i64 pc.x,.int .i64 pc.y] 27)))
     replace hRd:=Lib.hid (hRd.out.below (below_alloc _ (.cells #[.int .i64 pa.x,.int .i64 pa.y,.int .i64 pb.x,.int .i64 pb.y,.int .i64 pc.x,.int .i64 pc.y] 27)))
     generalize Y.alloc (.cells #[.int .i64 pa.x,.int .i64 pa.y,.int .i64 pb.x,.int .i64 pb.y,.int .i64 pc.x,.int .i64 pc.y] 27)=Y1 at *
     generalize Y.heap.size=g0 at *
     (refine ratHx 25 (fun K hK=>?_);go_simp)
     refine hK.out _ _ (hHeld.alloc _) (fun hHeld=>?_)
     clear hK K
     (try simp only[apS,apN,siA,scZ,scS])
     replace hrw:=Lib.hid (hrw.out.below (below_alloc _ (.cells (triV g0).toArray 22)))
     replace hTd:=Lib.hid (hTd.out.below (below_alloc _ (.cells (triV g0).toArray 22)))
     replace hRd:=Lib.hid (hRd.out.below (below_alloc _ (.cells (triV g0).toArray 22)))
     (refine wpAnyH_ready (rs:=[26]) (by decide +kernel) (by simp) ?_;refine AllReadyH.cons rfl (fun K hK=>?_) AllReadyH.nil)
     refine step_append_rows elemTrs (by rfl) (.tmp 31) (.tmp 56) (by rfl) (by rfl) (by rfl) hTd.out.own (rowsAt_new _ (triV g0) _) rfl (fun r hr=>by rw[List.mem_singleton.1 hr];rfl) (fun r hr u hu=>by rw[List.mem_singleton.1 hr] at hu;rw[List.mem_singleton.1 hu];rfl) (by rw[List.length_map,List.length_singleton];exact hlz.out) (by decide) hHeld.bel.size ?_
     intro v9 w9 hown9 hg9 hob9
     have hT9:=Lib.hid (hTd.out.push hrw.out (by rw[World.size_alloc];exact Nat.lt_succ_of_lt hg0.out) hnY.out hown9 hg9 hob9)
     have hR9:=Lib.hid (hRd.out.farI hg9 (fun a e=>by cases e;exact hnb.out.symm))
     refine hK.out _ _ (hHeld.grow hg9 (fun g e=>(OwnL.lt hTd.out.own g e).1) (fun x hx=>by
      have hxb:x.1=b:=by
       simp only[List.mem_cons,List.not_mem_nil,or_false] at hx
       rcases hx with rfl | rfl | rfl | rfl | rfl | rfl <;> rfl
      rw[hxb]
      exact⟨hnb.out,by rw[World.size_alloc];exact Nat.lt_succ_of_lt hbY.out⟩)) (fun hHeld=>?_)
     clear hK K hg9 hob9 hown9 hrw hTd hRd
     (try simp only[apS,apN,siA,scZ,scS])
     refine tkHx 27 3 ?_
     refine wpAnyH_done (by kernel_rfl) ?_ _
     (try simp only[apS,apN,siA,scZ,scS])
     have hb9:=Lib.hid hHeld.bel
     clear hHeld
     go_wp2_with (go_at_call 122;refine (hwo.out _ hR9.out).mono ?_;rintro e w2 ⟨v2,rfl,hO2,hb2⟩)
     have hbn:=Lib.hid (below_step hb9.out hb2)
     have hT2:=Lib.hid (hT9.out.below hb2)
     obtain⟨A2,c2,rfl,hr2⟩:=hO2.form
     rw[List.length_map] at hO2 ⊢
     have hP2:=Lib.hid (pts_own hO2 hr2 hel.out.2 hsm2.out)
     have hcap2:=Lib.hid (hO2.capO (by rw[List.length_map]))
     have hne2:Hid (∀ ad,A2=some ad→(v9).ownBlock≠some ad.block):=fun ad e e2=>by
      have h3:=(hO2.blk ad e).1
      have h4:=(OwnL.lt hT9.out.own _ e2).2
      omega
     clear hO2 hr2 hb2
     go_wp2_with fail
     go_roundw
     case rel=>exact⟨q.eraseIdx j,A2,c2,f',_,(done ++ [[pa,pb,pc]]),(gs ++ [g0]),rfl,rfl,hcap2,hP2,hE2,hfq2,hT2,hne2,(hl2 g0),hbn⟩
     case measure=>simp[lenV];have:=hel.out.1;omega
    rw[h1] at hec
    rw[if_neg (by rw[h1];decide),List.nil_append] at hTr
    replace hec:=Lib.hid hec
    have hE2:Hid (T=done ++ Cal.trisR f' (q.eraseIdx j)):=by show _=_;rw[hE.out,hTr]
    have hl2:Hid (gs.length+(q.eraseIdx j).length≤ps.length):=by have:=hl.out;have:=hel.out.1;show _≤_;omega
    clear hst hj1 hj2 hTr h1 hear hE hl hfq
    by_cases hk2:k<q.length
    ·have hkk:(k:Int)<(q.length:Int):=by omega
     go_wp2_with (go_at_call 121;refine hec.out.mono ?_;rintro e w1 ⟨rfl,hb1⟩;have hbk:=Lib.hid (hbi.out.trans (hb1.mono hbi.out.size));clear hb1)
     have hTk:=Lib.hid (hT.out.below hbk.out)
     have hbK:=Lib.hid (below_step hb.out hbk.out)
     go_wp2_with (go_at_call 122;refine (hwo.out _ (hPq.out.rows.below hbk.out)).mono ?_;rintro e w2 ⟨v2,rfl,hO2,hb2⟩)
     have hbn:=Lib.hid (below_step hbK.out hb2)
     have hT2:=Lib.hid (hTk.out.below hb2)
     obtain⟨A2,c2,rfl,hr2⟩:=hO2.form
     rw[List.length_map] at hO2 ⊢
     have hP2:=Lib.hid (pts_own hO2 hr2 hel.out.2 hsm2.out)
     have hcap2:=Lib.hid (hO2.capO (by rw[List.length_map]))
     have hne2:Hid (∀ ad,A2=some ad→(u3).ownBlock≠some ad.block):=fun ad e e2=>by
      have h3:=(hO2.blk ad e).1
      have h4:=(OwnL.lt hTk.out.own _ e2).2
      omega
     clear hO2 hr2 hb2
     go_wp2_with fail
     go_roundw
     case rel=>exact⟨q.eraseIdx j,A2,c2,f',_,done,gs,rfl,rfl,hcap2,hP2,hE2,hfq2,hT2,hne2,hl2,hbn⟩
     case measure=>simp[lenV];have:=hel.out.1;omega
    have hkk:¬(k:Int)<(q.length:Int):=by omega
    go_wp2_with (go_at_call 121;refine hec.out.mono ?_;rintro e w1 ⟨rfl,hb1⟩;have hbk:=Lib.hid (hbi.out.trans (hb1.mono hbi.out.size));clear hb1)
    have hTk:=Lib.hid (hT.out.below hbk.out)
    have hbK:=Lib.hid (below_step hb.out hbk.out)
    go_wp2_with (go_at_call 122;refine (hwo.out _ (hPq.out.rows.below hbk.out)).mono ?_;rintro e w2 ⟨v2,rfl,hO2,hb2⟩)
    have hbn:=Lib.hid (below_step hbK.out hb2)
    have hT2:=Lib.hid (hTk.out.below hb2)
    obtain⟨A2,c2,rfl,hr2⟩:=hO2.form
    rw[List.length_map] at hO2 ⊢
    have hP2:=Lib.hid (pts_own hO2 hr2 hel.out.2 hsm2.out)
    have hcap2:=Lib.hid (hO2.capO (by rw[List.length_map]))
    have hne2:Hid (∀ ad,A2=some ad→(u3).ownBlock≠some ad.block):=fun ad e e2=>by
     have h3:=(hO2.blk ad e).1
     have h4:=(OwnL.lt hTk.out.own _ e2).2
     omega
    clear hO2 hr2 hb2
    go_wp2_with fail
    go_roundw
    case rel=>exact⟨q.eraseIdx j,A2,c2,f',_,done,gs,rfl,rfl,hcap2,hP2,hE2,hfq2,hT2,hne2,hl2,hbn⟩
    case measure=>simp[lenV];have:=hel.out.1;omega
  have hki:¬(2:Int)<(q.length:Int):=by omega
  have hTe:Hid (T=done):=by show _=_;rw[hE.out,Cal.trisR_short (by omega),List.append_nil]
  go_wp2_with fail
  go_ret
  exact⟨_,rfl,⟨gs,by rw[hTe.out];exact hT.out⟩,hb.out⟩
end Go.Proofs.YthfokpchdlcidaaGreat
namespace Go.Proofs.YthfokpchdlcidaaGreat
open Go Go.RowKit Go.Shelf
theorem own_lit (w:World) (B:Nat) (ps:List Pt) (hB:B≤w.heap.size) (hl:ps.length≤1000) (cs:Array Value) (hcs:cs=((ps.map ptR).flatten).toArray):OwnL (w.alloc (.cells cs 27)) B 27 2 (.slice (some ⟨w.heap.size,0,none⟩) ps.length ps.length) (ps.map ptR):=by
 have hfl:((ps.map ptR).flatten).length=ps.length*2:=by rw[flat_len (ptRows_wid ps),List.length_map]
 refine⟨⟨by rw[hfl,List.length_map],Or.inr ⟨w.heap.size,ps.length,cs,by rw[List.length_map],hB,?_,by rw[List.length_map];exact Nat.le_refl _,by unfold maxLen;omega,?_,?_⟩⟩,ptRows_wid ps,ptRows_one ps⟩
 ·rw[heap_alloc_new]
 ·rw[hcs,List.size_toArray,hfl]
 rw[hcs,List.length_map]
 show ((ps.map ptR).flatten).take (ps.length*2)=_
 rw[List.take_of_length_le (by rw[hfl];exact Nat.le_refl _)]
theorem mul_take {b:List Pt} {k:Nat} (h:k<b.length) (n:Int):Cal.mulP n (b.take (k+1))=Cal.mulP n (b.take k) ++ [⟨n*b[k].x,n*b[k].y⟩]:=by
 rw[List.take_succ_eq_append_getElem h]
 unfold Cal.mulP
 rw[List.map_append];rfl
theorem inPl_box2 {t:Pt} (h:inPl t=true):-100000≤t.x∧t.x≤100000∧-100000≤t.y∧t.y≤100000:=by
 unfold inPl inR at h
 simp only[Bool.and_eq_true,decide_eq_true_eq] at h
 omega
theorem ptErr_box {p:Pt} (h:Cal.ptErr p=0):-100000≤p.x∧p.x≤100000∧-100000≤p.y∧p.y≤100000:=inPl_box2 ((inPl_err p).2 h)
theorem timesR_any (V:Option Addr) (d:Nat) (ps:List Pt) (n:Int) (w:World) (hP:PtsR w V ps) (hin:∀ p∈ps,Cal.ptErr p=0) (h1:1≤n) (h3:n≤3) :
  Calls Tryz.prog 91 #[.slice V ps.length d,.int .i64 n] w fun e w'=>∃ v,e=.returned v∧OwnL w' w.heap.size 27 2 v ((Cal.mulP n ps).map ptR)∧Below w.heap.size w w':=by
 have hsz:=hP.size
 replace hP:=Lib.hid hP
 replace hin:=Lib.hid hin
 have hb0:Hid (Below w.heap.size w w):=Below.refl _ _
 have hO0:Hid (OwnL w w.heap.size 27 2 (.slice none 0 0) ((Cal.mulP n (ps.take 0)).map ptR)):=OwnL.nil _ _ _ _
 go_enter Tryz.func91,Tryz.ntmps91
 go_wp2_with fail
 go_loopw [5,6] (fun cv iv wr=>∃ (k:Nat) (v:Value),k≤ps.length∧iv=.int .i64 k∧cv=v∧Hid (OwnL wr w.heap.size 27 2 v ((Cal.mulP n (ps.take k)).map ptR))∧Hid (Below w.heap.size w wr)) (fun _ iv _=>ps.length-(intOf iv).toNat)
 case atStart=>exact⟨0,_,Nat.zero_le _,rfl,rfl,hO0,hb0⟩
 case round =>
  clear hb0 hO0
  obtain⟨k,v,hk,rfl,rfl,hO,hbw⟩:=hrel
  by_cases hlt:k<ps.length
  ·obtain⟨bA,oA,rfl,hbA,e0,e1⟩:=pts_at hP.out.rows (List.getElem?_eq_getElem hlt)
   replace e0:=(hbw.out.cell (p:=⟨bA,oA+k*2,none⟩) hbA).trans e0
   replace e1:=(hbw.out.cell (p:=⟨bA,oA+k*2+1,none⟩) hbA).trans e1
   obtain⟨x0,x1,x2,x3⟩:=ptErr_box (hin.out _ (List.getElem_mem hlt))
   have hst:=Lib.hid (mul_take hlt n)
   have hn1:Hid (((Cal.mulP n (ps.take k)).map ptR).length+1≤4000000000):=by show _≤_;rw[List.length_map,Cal.mul_length,List.length_take];omega
   have hki:(k:Int)<(ps.length:Int):=by omega
   generalize ps[k]=q at *
   have m1:=mul_le_of (a:=n) (b:=q.x) (M:=3) (N:=100000) (by omega) h3 x0 x1
   have m2:=mul_le_of (a:=n) (b:=q.y) (M:=3) (N:=100000) (by omega) h3 x2 x3
   have hx1:IntKind.i64.wrap (n*q.x)=n*q.x:=wrap_small (by omega) (by omega)
   have hx1b:wrap64 (n*q.x)=n*q.x:=by rw[←wrap_eq];exact hx1
   have hy1:IntKind.i64.wrap (n*q.y)=n*q.y:=wrap_small (by omega) (by omega)
   have hy1b:wrap64 (n*q.y)=n*q.y:=by rw[←wrap_eq];exact hy1
   have hOd:=Lib.hid (OwnL.below hO.out (Below.refl _ _).drew)
   clear x0 x1 x2 x3 m1 m2
   go_wp2_with fail
   refine wp_region_held_drew (S:=Sx w [(bA,oA+k*2,.int .i64 q.x),(bA,oA+k*2+1,.int .i64 q.y)]) (by kernel_rfl) (Sx.mk (by simp only[cs_iff_cons];exact⟨e0,e1,cs_nil _⟩) hbw.out).drew (fun hHeld=>?_)
   clear e0 e1 hO hbw
   generalize wr.drew=Y at *
   refine tkHx 0 13 ?_
   refine tkHx 1 14 ?_
   refine tkHx 2 15 ?_
   refine tkHx 3 16 ?_
   refine tkHx 4 17 ?_
   refine tkHx 5 18 ?_
   refine tkHx 6 19 ?_
   refine tkHx 7 20 ?_
   refine tkHx 8 21 ?_
   refine tkHx 9 22 ?_
   refine tkHx 10 23 ?_
   refine tkHx 11 24 ?_
   refine tkHx 12 25 ?_
   refine tkHx 13 26 ?_
   refine tkHx 14 27 ?_
   refine tkHx 15 28 ?_
   (refine ratHx 16 (fun K hK=>?_);go_simp)
   refine hK.out _ _ (hHeld.alloc _) (fun hHeld=>?_)
   clear hK K
   (try simp only[apS,apN,siA,scZ,scS])
   (refine wpAnyH_ready (rs:=[17]) (by decide +kernel) (by simp) ?_;refine AllReadyH.cons rfl (fun K hK=>?_) AllReadyH.nil)
   refine step_append_rows elemPtW (by rfl) (.tmp 13) (.tmp 29) (by rfl) (by rfl) (by rfl) (OwnL.below hOd.out (below_alloc _ _)) (rowsAt_new _ (ptR ⟨n*q.x,n*q.y⟩) _) rfl (ptRows_wid [⟨n*q.x,n*q.y⟩]) (ptRows_one [⟨n*q.x,n*q.y⟩]) (by rw[List.length_singleton];exact hn1.out) (by decide) hHeld.bel.size ?_
   intro v8 w8 hown8 hg8 _
   have hO8:Hid (OwnL w8 w.heap.size 27 2 v8 ((Cal.mulP n (ps.take (k+1))).map ptR)):=by
    show OwnL _ _ _ _ _ _
    rw[hst.out,List.map_append];exact hown8
   have hsz8:=hHeld.bel.size
   refine hK.out _ _ (hHeld.grow hg8 (fun g e=>(OwnL.lt hOd.out g e).1) (fun z hz=>by
    have hzb:z.1<w.heap.size:=by
     simp only[List.mem_cons,List.not_mem_nil,or_false] at hz
     rcases hz with rfl | rfl <;> exact hbA
    exact⟨fun e=>absurd (OwnL.lt hOd.out _ e).1 (Nat.not_le_of_lt hzb),Nat.lt_of_lt_of_le hzb hsz8⟩)) (fun hHeld=>?_)
   clear hK K hown8 hg8 hOd hsz8
   (try simp only[apS,apN,siA,scZ,scS])
   refine tkHx 18 5 ?_
   refine wpAnyH_done (by kernel_rfl) ?_ _
   (try simp only[apS,apN,siA,scZ,scS])
   have hb8:=Lib.hid hHeld.bel
   clear hHeld
   go_wp2_with fail
   go_roundw
   case rel=>exact⟨k+1,v8,by omega,by go_num,rfl,hO8,hb8⟩
   case measure=>simp[intOf];omega
  obtain rfl:k=ps.length:=by omega
  rw[List.take_length] at hO
  go_wp2_with fail
  go_ret
  exact⟨_,rfl,hO.out,hbw.out⟩
end Go.Proofs.YthfokpchdlcidaaGreat
namespace Go.Proofs.YthfokpchdlcidaaGreat
namespace Geo
variable {n : Nat} {P : Nat → RP}
theorem Pos.border_out (h:Pos n P) {i:Nat} (hi:i<n) {l:Rat} (l0:0≤l) (l1:l≤1) {e:Rat} (he:0<e):∃ q,Near e (at' (P i) (P (i+1)) l) q∧Out n P q:=by
 obtain⟨t,t0,t1,ht⟩:∃ t:Rat,0<t∧t<1∧Near (e / 2) (at' (P i) (P (i+1)) l) (at' (P i) (P (i+1)) t):=by
  obtain⟨x,x0,xh,hx,_⟩:=near_parts (at' (P i) (P (i+1)) l) (at' (P i) (P (i+1)) l) (at' (P i) (P (i+1)) (1 / 2)) (at' (P i) (P (i+1)) (1 / 2)) (e:=e / 2) (by grind)
  rw[at_at] at hx
  refine⟨_,?_,?_,hx⟩
  ·have:=mul_nn (a:=1-x) (b:=l) (by grind) l0;grind
  have:=mul_nn (a:=1-x) (b:=1-l) (by grind) (by grind);grind
 obtain⟨f,f0,hf⟩:=h.side_near hi t0 t1
 obtain⟨g,g0,ge,gf⟩:∃ g:Rat,0<g∧g≤e / 2∧g≤f:=by
  rcases Rat.le_total (a:=e / 2) (b:=f) with h | h
  ·exact⟨e / 2,by grind,by grind,h⟩
  exact⟨f,f0,h,by grind⟩
 obtain⟨q,hq,hc⟩:=left_pt (h.sim.ne i) (crs_at _ _ t) (.inr rfl) g0
 refine⟨q,?_,(hf q (hq.mono gf)).2 (by grind)⟩
 have:=hq.mono ge
 unfold Near at this ht ⊢
 grind
end Geo
namespace Cal
open Geo (RP at' Simple Pos In Out Off wind wc EarAt Tri triP Near Dense InT Sided)
def cutsR (s:Sd) (a:List Pt):List Pt:=s.a :: s.b :: a.filter (hasP s)
def ptAt (l:List Pt) (i:Nat):Pt:=l[i]?.getD pt0
def freeR (l:List Pt) (i k:Nat):Bool:=!ptB (ptAt l i) (ptAt l k) && (List.range l.length).all fun m=>ptB (ptAt l m) (ptAt l i) || ptB (ptAt l m) (ptAt l k) || !hasP ⟨ptAt l k,ptAt l i⟩ (ptAt l m)
def midR (l:List Pt) (i k:Nat):Pt:=⟨(ptAt l k).x+(ptAt l i).x,(ptAt l k).y+(ptAt l i).y⟩
def entersR (s:Sd) (a:List Pt):Bool:=(List.range (cutsR s a).length).any fun i=>(List.range i).any fun k=>freeR (cutsR s a) i k && decide (0<whereP (mulP 2 a) (midR (cutsR s a) i k))
def badSide (a b:List Pt) (i:Nat):Bool:=(List.range a.length).any (fun k=>crosS (sd b i) (sd a k)) || (decide (0<whereP a (sd b i).a) || entersR (sd b i) a)
def third3 (t:List Pt):Pt:=⟨(ptAt t 0).x+(ptAt t 1).x+(ptAt t 2).x,(ptAt t 0).y+(ptAt t 1).y+(ptAt t 2).y⟩
def firstTri (a:List Pt):List Pt:=(trisOf a)[0]?.getD []
def withinR (a b:List Pt):Bool:=!(List.range b.length).any (badSide a b) && decide (0<whereP (mulP 3 b) (third3 (firstTri a)))
theorem firstTri_mem {a:List Pt} (h:GoodP a):firstTri a∈trisOf a:=by
 have h3:=(tris_wind a.length a h (by omega)).2.2
 unfold firstTri trisOf
 cases e:trisR a.length a with
 | nil=>exact absurd e h3
 | cons t r=>simp
theorem third_in {t:List Pt} (h:IsTri t):In 3 (ring t) (hf (third3 t) 3):=by
 obtain⟨a,b,c,rfl,hD⟩:=h
 have d:=(crs_pos ⟨a,b⟩ c).2 hD
 dsimp only at d
 rw[ring_tri,Geo.tri_in d]
 obtain⟨z1,z2,z3⟩:=Geo.third (rp a) (rp b) (rp c)
 have e:hf (third3 [a,b,c]) 3=⟨((rp a).x+(rp b).x+(rp c).x) / 3,((rp a).y+(rp b).y+(rp c).y) / 3⟩:=by
  unfold hf third3 ptAt rp
  simp only[List.getElem?_cons_zero,List.getElem?_cons_succ,Option.getD_some,Rat.intCast_add]
  rfl
 rw[e,z1,z2,z3]
 grind
section
variable {a b : List Pt}
theorem mid_within (ha:GoodP a) (hb:GoodP b) (h:Geo.Within a.length (ring a) b.length (ring b)) {c:RP} {t:List Pt} (ht:t∈trisOf a) (hc:In 3 (ring t) c):In b.length (ring b) c:=by
 have ta:=(tris_wind a.length a ha (by omega)).1
 have hd:=Dense.and ha.pos.sim.dense (tris_dense ta)
 obtain⟨e1,e10,k1⟩:=hc.near (ta t ht).pos.sim
 have some:∀ (x:RP) (e:Rat),0<e→Near (e1 / 2) c x→∃ r,Near e x r∧In b.length (ring b) r:=fun x e e0 hx=>by
  obtain⟨g,g0,ga,gb⟩:∃ g:Rat,0<g∧g≤e∧g≤e1 / 2:=by
   rcases Rat.le_total (a:=e) (b:=e1 / 2) with h | h
   ·exact⟨e,e0,by grind,h⟩
   exact⟨e1 / 2,by grind,h,by grind⟩
  obtain⟨r,hr,f,f0,hf⟩:=hd x g g0
  have hff:=hf r (Near.self f0 r)
  refine⟨r,hr.mono ga,h r ((in_tris ha hff.1 hff.2).2 ⟨t,ht,k1 r ?_⟩)⟩
  exact (hx.add (hr.mono gb)).mono (by grind)
 have hoff:Off b.length (ring b) c:=fun i l hi l0 l1 e=>by
  obtain⟨q,hq,ho⟩:=hb.pos.border_out hi l0 l1 (e:=e1 / 2) (by grind)
  rw[←e] at hq
  obtain⟨f,f0,hf⟩:=ho.near hb.pos.sim
  obtain⟨r,hr,hin⟩:=some q f f0 hq
  exact hin.not_out (hf r hr)
 rcases hb.pos.two hoff with e | e
 ·exact e
 obtain⟨f,f0,hf⟩:=e.near hb.pos.sim
 obtain⟨r,hr,hin⟩:=some c f f0 (Near.self (by grind) c)
 exact (hin.not_out (hf r hr)).elim
theorem ptAt_mem {l:List Pt} {i:Nat} (h:i<l.length):ptAt l i∈l:=by
 unfold ptAt
 rw[List.getElem?_eq_getElem h]
 exact List.getElem_mem h
theorem mem_ptAt {l:List Pt} {x:Pt} (h:x∈l):∃ i,i<l.length∧ptAt l i=x:=by
 obtain⟨i,hi,e⟩:=List.getElem_of_mem h
 exact⟨i,hi,by unfold ptAt;rw[List.getElem?_eq_getElem hi];exact e⟩
theorem cuts_at {s:Sd} (hne:s.a≠s.b) {a:List Pt} {x:Pt}:x∈cutsR s a↔x∈atP s a:=by
 rw[(at_spec hne a).2]
 unfold cutsR
 rw[List.mem_cons,List.mem_cons,List.mem_filter]
theorem cut_param {s:Sd} (hne:s.a≠s.b) {a:List Pt} {x:Pt} (h:x∈cutsR s a):∃ u:Rat,0≤u∧u≤1∧rp x=at' (rp s.a) (rp s.b) u:=by
 unfold cutsR at h
 rcases List.mem_cons.1 h with e | h
 ·rw[e];exact⟨0,by grind,by grind,(Geo.at0 _ _).symm⟩
 rcases List.mem_cons.1 h with e | h
 ·rw[e];exact⟨1,by grind,by grind,(Geo.at1 _ _).symm⟩
 exact (has_at_iff hne).1 (List.mem_filter.1 h).2
theorem mid_half {p q:Pt} {A B:RP} {u v:Rat} (hp:rp p=at' A B u) (hq:rp q=at' A B v):hf ⟨p.x+q.x,p.y+q.y⟩ 2=at' A B ((u+v) / 2):=half_mid hp hq
theorem free_of {s:Sd} (hne:s.a≠s.b) {a:List Pt} {pre post:List Pt} {p q:Pt} (e:atP s a=pre ++ p :: q :: post) {i k:Nat}
  (h:(ptAt (cutsR s a) i=p∧ptAt (cutsR s a) k=q)∨(ptAt (cutsR s a) i=q∧ptAt (cutsR s a) k=p)):freeR (cutsR s a) i k=true:=by
 have hasc:=(at_spec hne a).1
 rw[e] at hasc
 have hlt:=asc_lt hasc
 have hpq:p≠q:=fun h=>by rw[h] at hlt;omega
 have hline:∀ x∈cutsR s a,crs s x=0:=fun x hx=>by
  obtain⟨u,_,_,eu⟩:=cut_param hne hx
  rw[←crs0,eu,Geo.crs_at]
 unfold freeR
 rw[Bool.and_eq_true,ptB_not,List.all_eq_true]
 constructor
 ·rcases h with ⟨h1,h2⟩ | ⟨h1,h2⟩
  ·rw[h1,h2];exact hpq
  rw[h1,h2];exact Ne.symm hpq
 intro m hm
 have hm:=List.mem_range.1 hm
 have hmc:=ptAt_mem hm
 generalize ptAt (cutsR s a) m=w at *
 have hw:w∈pre ++ p :: q :: post:=by rw[←e];exact (cuts_at hne).1 hmc
 have g:=asc_gap hasc hw
 have kp:p∈cutsR s a:=(cuts_at hne).2 (by rw[e];simp)
 have kq:q∈cutsR s a:=(cuts_at hne).2 (by rw[e];simp)
 have main:hasP ⟨p,q⟩ w=true→w=p∨w=q:=fun hon=>by
  obtain⟨l,l0,l1,el⟩:=(has_at_iff (s:=⟨p,q⟩) hpq).1 hon
  obtain⟨up,_,_,ep⟩:=cut_param hne kp
  obtain⟨uq,_,_,eq⟩:=cut_param hne kq
  obtain⟨uw,_,_,ew⟩:=cut_param hne hmc
  have k1:=key_at ep
  have k2:=key_at eq
  have k3:=key_at ew
  have hL:(0:Rat)<((key s s.b:Int):Rat):=Rat.intCast_pos.2 (key_b_pos hne)
  have rne:rp s.a≠rp s.b:=pt_ne hne
  dsimp only at el
  rw[ep,eq,Geo.at_at,ew] at el
  have e3:=Geo.at_inj rne el
  have hlt':=Rat.intCast_lt_intCast.2 hlt
  rw[k1,k2] at hlt'
  have huv:0<uq-up:=Geo.pos_of_mul hL (by grind)
  have b1:=Geo.mul_nn l0 (b:=uq-up) (by grind)
  have b2:=Geo.mul_nn (a:=1-l) (b:=uq-up) (by grind) (by grind)
  rcases g with g | g
  ·left
   have g':=Rat.intCast_le_intCast.2 g
   rw[k1,k3] at g'
   have h4:=Geo.nonneg_of_mul (x:=up-uw) hL (by grind)
   have:uw=up:=by grind
   exact rp_inj (by rw[ew,ep,this])
  right
  have g':=Rat.intCast_le_intCast.2 g
  rw[k2,k3] at g'
  have h4:=Geo.nonneg_of_mul (x:=uw-uq) hL (by grind)
  have:uw=uq:=by grind
  exact rp_inj (by rw[ew,eq,this])
 have rev:hasP ⟨q,p⟩ w=hasP ⟨p,q⟩ w:=by
  rw[Bool.eq_iff_iff,has_at_iff (s:=⟨q,p⟩) (Ne.symm hpq),has_at_iff (s:=⟨p,q⟩) hpq]
  dsimp only
  constructor
  ·rintro⟨l,l0,l1,el⟩;exact⟨1-l,by grind,by grind,by rw[el,Geo.at_rev]⟩
  rintro⟨l,l0,l1,el⟩;exact⟨1-l,by grind,by grind,by rw[el,Geo.at_rev]⟩
 cases hb:hasP ⟨p,q⟩ w with
 | true =>
  rcases main hb with e | e
  ·have:ptB w p=true:=ptB_iff.2 e
   rcases h with ⟨h1,h2⟩ | ⟨h1,h2⟩ <;> rw[h1,h2,this] <;> simp
  have:ptB w q=true:=ptB_iff.2 e
  rcases h with ⟨h1,h2⟩ | ⟨h1,h2⟩ <;> rw[h1,h2,this] <;> simp
 | false =>
  rcases h with ⟨h1,h2⟩ | ⟨h1,h2⟩
  ·rw[h1,h2,rev,hb];simp
  rw[h1,h2,hb];simp
theorem withinR_in (ha:polyE a=0) (hb:polyE b=0):withinR a b=true↔Geo.Within a.length (ring a) b.length (ring b):=by
 have ga:=goodP_of ha
 have gb:=goodP_of hb
 obtain⟨pa,na⟩:=polyE_pos ha
 obtain⟨pb,nb⟩:=polyE_pos hb
 have ta:=(tris_wind a.length a ga (by omega)).1
 have hft:=firstTri_mem ga
 have hmid:=third_in (ta _ hft)
 have w3:=(where_mul pb nb (k:=3) (by decide) (third3 (firstTri a))).1
 have w2:=fun q=>(where_mul pa na (k:=2) (by decide) q).1
 have w1:=fun q=>(where_pos pa na q).1
 have pos1:∀ p q,0<whereP p q↔whereP p q=1:=fun p q=>by
  constructor
  ·intro h
   have main:∀ (l:List Sd) (b:Bool),whereFrom q b l=1∨whereFrom q b l=0∨whereFrom q b l=-1:=fun l=>by
    induction l with
    | nil=>intro b;unfold whereFrom;cases b <;> simp
    | cons s l ih =>
     intro b
     unfold whereFrom
     split
     ·exact Or.inr (Or.inl rfl)
     exact ih _
   rcases main (sds p) false with e | e | e
   ·exact e
   ·unfold whereP at h;omega
   unfold whereP at h;omega
  intro h;omega
 unfold withinR
 rw[Bool.and_eq_true,Bool.not_eq_true',List.any_eq_false,decide_eq_true_iff,pos1,w3]
 constructor
 ·rintro⟨hno,hc⟩
  have hcr:Geo.NoCross b.length (ring b) a.length (ring a):=fun i k hi hk hcross=>by
   have h:=hno i (List.mem_range.2 hi)
   unfold badSide at h
   rw[Bool.or_eq_true] at h
   exact h (Or.inl (List.any_eq_true.2 ⟨k,List.mem_range.2 hk,(cross_iff hi hk).2 hcross⟩))
  have corner:∀ i,i<b.length→¬In a.length (ring a) (ring b i):=fun i hi hin=>by
   have h:=hno i (List.mem_range.2 hi)
   unfold badSide at h
   rw[Bool.or_eq_true,Bool.or_eq_true,decide_eq_true_iff,pos1,w1] at h
   exact h (Or.inr (Or.inl (by rw[←(ring_ps (ps:=b) i hi).1];exact hin)))
  have hoff:∀ q,In a.length (ring a) q→Off b.length (ring b) q:=fun q hq i t hi t0 t1 e=>by
   by_cases ht0:t=0
   ·rw[ht0,Geo.at0] at e
    exact corner i hi (e ▸ hq)
   by_cases ht1:t=1
   ·rw[ht1,Geo.at1] at e
    have h3:=pb.sim.three
    have hm:=Nat.mod_lt (i+1) (show 0<b.length by omega)
    exact corner _ hm (by rw[pb.sim.mod,←e];exact hq)
   obtain⟨u,v,hF,hut,htv⟩:=(fp_parts (a:=b) (b:=a) nb).cover i t hi (by grind) (by grind) (fun k hk hw=>by
    have:=hq.1 k 0 hk (by grind) (by grind)
    rw[Geo.at0,hw] at this
    exact this e)
   obtain⟨_,u0,huv,v1⟩:=(fp_parts (a:=b) (b:=a) nb).rng i u v hF
   have hcl:=(fp_parts (a:=b) (b:=a) nb).clean i u v hF
   obtain⟨_,pre,p,q',post,eat,hp,hq'⟩:=hF
   rcases Geo.part_dich pb.sim pa.sim hcr hi u0 v1 hcl with ⟨k,hk,_,_,hall⟩ | hfree
   ·obtain⟨r,r0,r1,er⟩:=hall t hut htv
    exact hq.1 k r hk (by grind) (by grind) (e.trans er)
   -- the middle of the part is inside of a
   have hin:In a.length (ring a) (at' (ring b i) (ring b (i+1)) ((u+v) / 2)):=by
    refine pa.sim.region_in (fun x=>∃ s,u<s∧s<v∧x=at' (ring b i) (ring b (i+1)) s) (fun x y z hx hy z0 z1=>?_) (fun x hx=>?_) ⟨t,hut,htv,e⟩ hq ⟨(u+v) / 2,by grind,by grind,rfl⟩
    ·obtain⟨s,s0,s1,es⟩:=hx
     obtain⟨s',s0',s1',es'⟩:=hy
     refine⟨s+z*(s'-s),?_,?_,by rw[es,es',Geo.at_at]⟩
     ·have p1:=Geo.mul_nn (a:=1-z) (b:=s-u) (by grind) (by grind)
      have p2:=Geo.mul_nn (a:=z) (b:=s'-u) z0 (by grind)
      rcases Rat.le_total (a:=z) (b:=1 / 2) with h | h
      ·have:=Geo.mul_pp (a:=1-z) (b:=s-u) (by grind) (by grind);grind
      have:=Geo.mul_pp (a:=z) (b:=s'-u) (by grind) (by grind);grind
     have p1:=Geo.mul_nn (a:=1-z) (b:=v-s) (by grind) (by grind)
     have p2:=Geo.mul_nn (a:=z) (b:=v-s') z0 (by grind)
     rcases Rat.le_total (a:=z) (b:=1 / 2) with h | h
     ·have:=Geo.mul_pp (a:=1-z) (b:=v-s) (by grind) (by grind);grind
     have:=Geo.mul_pp (a:=z) (b:=v-s') (by grind) (by grind);grind
    obtain⟨s,s0,s1,es⟩:=hx
    rw[es];exact hfree s s0 s1
   have kp:p∈cutsR (sd b i) a:=(cuts_at (nb i hi)).2 (by rw[eat];simp)
   have kq:q'∈cutsR (sd b i) a:=(cuts_at (nb i hi)).2 (by rw[eat];simp)
   obtain⟨x,hx,ex⟩:=mem_ptAt kp
   obtain⟨y,hy,ey⟩:=mem_ptAt kq
   have hpq:p≠q':=fun h=>by
    rw[h,hq'] at hp
    have:=Geo.at_inj (pb.sim.ne i) hp
    grind
   have hxy:x≠y:=fun h=>hpq (by rw[←ex,←ey,h])
   have hent:entersR (sd b i) a=true:=by
    unfold entersR
    rcases Nat.lt_or_gt_of_ne hxy with h | h
    ·refine List.any_eq_true.2 ⟨y,List.mem_range.2 hy,List.any_eq_true.2 ⟨x,List.mem_range.2 h,?_⟩⟩
     rw[free_of (nb i hi) eat (Or.inr ⟨ey,ex⟩),Bool.true_and,decide_eq_true_iff,pos1,w2]
     unfold midR
     rw[ex,ey,mid_half hp hq']
     exact hin
    refine List.any_eq_true.2 ⟨x,List.mem_range.2 hx,List.any_eq_true.2 ⟨y,List.mem_range.2 h,?_⟩⟩
    rw[free_of (nb i hi) eat (Or.inl ⟨ex,ey⟩),Bool.true_and,decide_eq_true_iff,pos1,w2]
    unfold midR
    rw[ex,ey,mid_half hq' hp,show (v+u) / 2=(u+v) / 2 by grind]
    exact hin
   have h:=hno i (List.mem_range.2 hi)
   unfold badSide at h
   rw[hent,Bool.or_true,Bool.or_true] at h
   exact h rfl
  rcases Geo.in_or_apart pa pb hoff with h | h
  ·exact h
  exfalso
  have hd:=Dense.and pa.sim.dense (tris_dense ta)
  obtain⟨e1,e10,k1⟩:=hmid.near (ta _ hft).pos.sim
  obtain⟨e2,e20,k2⟩:=hc.near pb.sim
  obtain⟨g,g0,g1,g2⟩:∃ g:Rat,0<g∧g≤e1∧g≤e2:=by
   rcases Rat.le_total (a:=e1) (b:=e2) with h | h
   ·exact⟨e1,e10,by grind,h⟩
   exact⟨e2,e20,h,by grind⟩
  obtain⟨r,hr,f,f0,hf⟩:=hd _ g g0
  have hff:=hf r (Near.self f0 r)
  have hin:=(in_tris ga hff.1 hff.2).2 ⟨_,hft,k1 r (hr.mono g1)⟩
  exact (k2 r (hr.mono g2)).not_out (h r hin)
 intro hw
 have noin:∀ i (l:Rat),i<b.length→0≤l→l≤1→¬In a.length (ring a) (at' (ring b i) (ring b (i+1)) l):=fun i l hi l0 l1 hin=>(hw _ hin).1 i l hi l0 l1 rfl
 refine⟨fun i hi h=>?_,mid_within ga gb hw hft hmid⟩
 have hi:=List.mem_range.1 hi
 have hr:=ring_ps (ps:=b) i hi
 unfold badSide at h
 rw[Bool.or_eq_true,Bool.or_eq_true,decide_eq_true_iff,pos1,w1] at h
 rcases h with h | h | h
 ·obtain⟨k,hk,hc⟩:=List.any_eq_true.1 h
  have hk:=List.mem_range.1 hk
  exact (hw.nocross pa pb).symm i k hi hk ((cross_iff hi hk).1 hc)
 ·refine noin i 0 hi (by grind) (by grind) ?_
  rw[Geo.at0,hr.1];exact h
 unfold entersR at h
 obtain⟨x,hx,h⟩:=List.any_eq_true.1 h
 obtain⟨y,hy,h⟩:=List.any_eq_true.1 h
 have hx:=List.mem_range.1 hx
 have hy:=List.mem_range.1 hy
 rw[Bool.and_eq_true,decide_eq_true_iff,pos1,w2] at h
 obtain⟨u,u0,u1,eu⟩:=cut_param (nb i hi) (ptAt_mem hx)
 obtain⟨v,v0,v1,ev⟩:=cut_param (a:=a) (nb i hi) (ptAt_mem (i:=y) (by omega))
 have hm:=mid_half ev eu
 refine noin i ((v+u) / 2) hi (by grind) (by grind) ?_
 rw[hr.1,hr.2,←hm]
 exact h.2
end
end Cal
end Go.Proofs.YthfokpchdlcidaaGreat
