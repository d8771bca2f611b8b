/- What the statements rest on: definitions and walks, part 29. -/
import Derived.Test.YthfokpchdlcidaaGreatJ28
import Derived.Test.YthfokpchdlcidaaGreatJ24
set_option maxRecDepth 100000
set_option maxHeartbeats 16000000
set_option linter.unusedSimpArgs false
set_option linter.unusedVariables false
namespace Go.Proofs.YthfokpchdlcidaaGreat
open Go Go.RowKit Go.Shelf
theorem sect_pos {name:ByteArray} {ps:List Pt} {l:List Plo} (h:(sectE name ps l).2.2=0):∀ k (hk:k<l.length),Cal.polyE l[k].ps=0:=fun k hk=>(plotE_zero ((sectE_zero h).2.2.2 k hk)).2.2.1
theorem nbG_comm {l:List Plo} {i j:Nat} (hi:i<l.length) (hj:j<l.length) (h:∀ k (hk:k<l.length),Cal.polyE l[k].ps=0):nbG l i j=nbG l j i:=by
 unfold nbG
 rw[psOf_get hi,psOf_get hj]
 exact Cal.nbB_comm (Cal.polyE_pos (h i hi)).2 (Cal.polyE_pos (h j hj)).2
theorem borderRN_any (Va Vb:Option Addr) (da db:Nat) (us vs:List Pt) (w:World) (hA:Pts w Va us) (hB:Pts w Vb vs) (hla:us.length≤40) (hlb:vs.length≤40) (ha:Cal.polyE us=0) (hb:Cal.polyE vs=0) :
  Calls Tryz.prog 52 #[.slice Va us.length da,.slice Vb vs.length db] w fun e w'=>∃ A5 c5,e=.returned (.slice A5 (Cal.borderP us vs).length c5)∧Below w.heap.size w w':=by
 refine (BorderR_any Va da us Vb db vs w hA hB hla hlb).mono ?_
 rw[Cal.borderR_eq (Cal.polyE_pos ha).2 (Cal.polyE_pos hb).2]
 rintro e w' ⟨v,rfl,hO,hb⟩
 obtain⟨A5,c5,rfl,_⟩:=OwnL.form hO
 rw[List.length_map]
 exact⟨A5,c5,rfl,hb⟩
theorem NeighboursR_any (s:Sct) (q:Nat) (w:World) (hS:SctR w s) (h0:(sectE s.name s.ps s.l).2.2=0) (hq:q<s.l.length) :
  Calls Tryz.prog 16 #[.agg #[.string s.name,.slice s.V s.ps.length s.d,.slice s.S s.l.length s.e],.int .i64 (q:Int)] w fun e w'=>∃ v,e=.returned v∧IntsL w' w.heap.size v (Cal.nbL s.l.length (nbG s.l q) q)∧Below w.heap.size w w':=by
 have hI:Hid (GpI w s (w.alloc (.cells #[.string s.name,.slice s.V s.ps.length s.d,.slice s.S s.l.length s.e] 25))):=⟨BoxAt.new w #[.string s.name,.slice s.V s.ps.length s.d,.slice s.S s.l.length s.e] 25,below_alloc _ _⟩
 have hz:=sectE_zero h0
 have hps:=sect_pos h0
 have hPl:Hid (∀ p∈s.l,Plg w p.V p.ps):=fun p hp=>by
  obtain⟨k,hk,rfl⟩:=List.getElem_of_mem hp
  have h3:=(plotE_zero (hz.2.2.2 k hk)).2.2.1
  exact (hS.plots.pts _ hp).plg h3 (few_ok (hS.fews _ hp) h3)
 have hl60:=hz.2.2.1
 have hrows:=Lib.hid hS.plots.rows
 have hcm:=Lib.hid (fun k hk=>nbG_comm (l:=s.l) (i:=q) (j:=k) hq hk hps)
 replace hps:=Lib.hid hps
 clear hz hS h0
 obtain⟨nm,V,d,ps,S,e,l⟩:=s
 dsimp only at *
 have hqi:(q:Int)<(l.length:Int):=by omega
 have hqk:=Lib.hid (List.getElem?_eq_getElem hq)
 have hqg:=Lib.hid (psOf_get hq)
 have hqP:=Lib.hid (hPl.out _ (List.getElem_mem hq))
 have hqv:=Lib.hid (hps.out q hq)
 generalize hpq0:l[q]=pq at *
 clear hpq0
 (obtain⟨a0,a1,a2⟩:=hI.out.a.c3)
 go_enter Tryz.func16,Tryz.ntmps16
 go_wp2_with fail
 clear a0 a1 a2
 go_loopw [5,6] (fun ov i wr=>∃ (k:Nat) (v:Value),k≤l.length∧i=.int .i64 k∧ov=v∧Hid (IntsL wr (w.heap.size+1) v (Cal.nbL k (nbG l q) q))∧Hid (GpI w _ wr)) (fun _ i _=>l.length-(intOf i).toNat)
 case atStart=>exact⟨0,_,Nat.zero_le _,rfl,rfl,OwnL.nil _ _ _ _,hI⟩
 case round =>
  clear hI
  obtain⟨k,v,hk,rfl,rfl,hO,hI⟩:=hrel
  (obtain⟨a0,a1,a2⟩:=hI.out.a.c3)
  by_cases hlt:k<l.length
  ·have hk':l[k]?=some l[k]:=List.getElem?_eq_getElem hlt
   have hg:=psOf_get hlt
   have hpP:=Lib.hid (hPl.out _ (List.getElem_mem hlt))
   have hpv:=Lib.hid (hps.out k hlt)
   have hki:(k:Int)<(l.length:Int):=by omega
   have hnl:=Cal.nbL_len k (nbG l q) q
   have hcmk:=hcm.out k hlt
   generalize l[k]=p at *
   obtain⟨b,o,hA,hbl,c0,c1⟩:=plo_at (hrows.out.below hI.out.bel) hk'
   obtain⟨b',o',hA',hbl',d0,d1⟩:=plo_at (hrows.out.below hI.out.bel) hqk.out
   subst hA
   cases hA'
   by_cases hkq:k=q
   ·subst hkq
    have hnx:Hid (Cal.nbL (k+1) (nbG l k) k=Cal.nbL k (nbG l k) k):=Cal.nbL_no (Or.inl rfl)
    clear hk' d0 d1 c0 c1 hcmk
    go_wp2_with fail
    refine wp_region_held_drew (S:=Sx wr []) (by kernel_rfl) (Sx.mk (cs_nil _) (Below.refl _ _)).drew (fun hHeld=>?_)
    clear a0 a1 a2
    refine tkHx 0 14 ?_
    refine tkHx 1 15 ?_
    refine tkHx 2 16 ?_
    refine tkHx 3 17 ?_
    refine tkFx 4 18 ?_
    refine tkFx 5 19 ?_
    refine tkFx 6 20 ?_
    refine tkFx 7 21 ?_
    refine tkFx 8 22 ?_
    refine tkFx 9 23 ?_
    refine tkFx 10 24 ?_
    refine tkFx 11 25 ?_
    refine tkFx 12 26 ?_
    refine tkFx 13 27 ?_
    refine tkFx 14 28 ?_
    refine tkFx 15 29 ?_
    refine tkFx 16 30 ?_
    refine tkFx 17 31 ?_
    refine tkFx 18 32 ?_
    refine tkHx 19 33 ?_
    refine wpAnyH_done (by kernel_rfl) ?_ _
    (try simp only[apS,apN,siA,scZ,scS])
    replace hI:=Lib.hid (hI.out.below hHeld.bel)
    replace hO:=Lib.hid (hO.out.below hHeld.bel)
    clear hHeld
    go_wp2_with fail
    go_roundw
    case rel=>exact⟨k+1,_,by omega,by go_num,rfl,by rw[hnx.out];exact hO,hI⟩
    case measure=>simp[intOf];omega
   have hkb:((k:Int) == (q:Int))=false:=by simp;omega
   have hkc:¬(k:Int)=(q:Int):=by omega
   have hkd:((k:Int) != (q:Int))=true:=by simp;omega
   have hkn:(k:Int)≠(q:Int):=by omega
   have hbd:=Lib.hid (fun W (hb:Below w.heap.size w W)=>borderRN_any p.V pq.V p.d pq.d p.ps pq.ps W ((hpP.out.below hb).v.pts) ((hqP.out.below hb).v.pts) (by have:=hpP.out.len;omega) (by have:=hqP.out.len;omega) hpv.out hqv.out)
   have hng:nbG l q k=decide (0<(Cal.borderP p.ps pq.ps).length):=by rw[hcmk];unfold nbG Cal.nbB;rw[hqg.out,hg]
   generalize (Cal.borderP p.ps pq.ps).length=m at *
   have hbw:=Lib.hid hI.out.bel
   clear hk' d0 c0 hg hcmk
   go_wp2_with fail
   refine wp_region_held_drew (S:=Sx wr [(w.heap.size,2,.slice (some ⟨b,o,none⟩) l.length e),(b,o+k*2+1,.slice p.V p.ps.length p.d),(b,o+q*2+1,.slice pq.V pq.ps.length pq.d)]) (by kernel_rfl) (Sx.mk (by simp only[cs_iff_cons];exact⟨a2,c1,d1,cs_nil _⟩) (Below.refl _ _)).drew (fun hHeld=>?_)
   clear a0 a1 a2
   clear c1 d1
   refine tkHx 0 14 ?_
   refine tkHx 1 15 ?_
   refine tkHx 2 16 ?_
   refine tkHx 3 17 ?_
   refine tkHx 4 18 ?_
   refine tkHx 5 19 ?_
   refine tkHx 6 20 ?_
   refine tkHx 7 21 ?_
   refine tkHx 8 22 ?_
   refine tkHx 9 23 ?_
   refine tkHx 10 24 ?_
   refine tkHx 11 25 ?_
   refine tkHx 12 26 ?_
   refine tkHx 13 27 ?_
   refine tkHx 14 28 ?_
   refine tkHx 15 29 ?_
   (refine ratHx 16 (fun K hK=>?_);go_simp)
   refine (hbd.out _ (hbw.out.trans (hHeld.bel.mono hbw.out.size))).mono ?_
   rintro e0 wn ⟨A5,c5,rfl,hbn⟩
   go_simp
   (refine hK.out _ _ (hHeld.step hbn) (fun hHeld=>?_);clear hK K;(try simp only[apS,apN,siA,scZ,scS]))
   refine tkHx 17 31 ?_
   refine tkHx 18 32 ?_
   refine tkHx 19 33 ?_
   refine wpAnyH_done (by kernel_rfl) ?_ _
   (try simp only[apS,apN,siA,scZ,scS])
   replace hI:=Lib.hid (hI.out.below hHeld.bel)
   replace hO:=Lib.hid (hO.out.below hHeld.bel)
   clear hHeld hbw hbd
   by_cases hm:0<m
   ·have hnx:Hid (Cal.nbL (k+1) (nbG l q) q=Cal.nbL k (nbG l q) q ++ [(k:Int)]):=Cal.nbL_yes hkq (by rw[hng];exact decide_eq_true hm)
    have hmi:(0:Int)<(m:Int):=by omega
    have hwz:w.heap.size+1≤wn.heap.size:=hI.out.a.lt
    have hsz:(Cal.nbL k (nbG l q) q).length≤1000000:=by omega
    have hbT:=Lib.hid hI.out
    clear hng
    go_wp2_with (at_builtin;refine wpPushI (k:Int) hO.out hwz hsz rfl _ _ rfl rfl rfl ?_;intro v' w6 hown6 hb6;have hO2:=Lib.hid hown6;have hI2:=Lib.hid (show GpI w _ w6 from ⟨hbT.out.a.belowN hb6 (Nat.lt_succ_self _),hbT.out.bel.trans (hb6.mono (Nat.le_succ _))⟩);clear hown6 hb6)
    go_roundw
    case rel=>exact⟨k+1,_,by omega,by go_num,rfl,by rw[hnx.out];exact hO2,hI2⟩
    case measure=>simp[intOf];omega
   have hnx:Hid (Cal.nbL (k+1) (nbG l q) q=Cal.nbL k (nbG l q) q):=Cal.nbL_no (Or.inr (by rw[hng];exact decide_eq_false hm))
   have hmi:¬(0:Int)<(m:Int):=by omega
   clear hng
   go_wp2_with fail
   go_roundw
   case rel=>exact⟨k+1,_,by omega,by go_num,rfl,by rw[hnx.out];exact hO,hI⟩
   case measure=>simp[intOf];omega
  obtain rfl:k=l.length:=by omega
  go_wp2_with fail
  go_ret
  exact⟨_,rfl,OwnL.less hO.out (Nat.le_succ _),hI.out.bel⟩
theorem PlotAtR_any (s:Sct) (q:Pt) (w:World) (hrows:RowsAt w s.S 2 (s.l.map Plo.cells)) (hP:∀ p∈s.l,Pts w p.V p.ps∧p.ps.length≤100000) (hq:SmP q) (hsz:s.l.length≤1000000) :
  Calls Tryz.prog 13 #[.agg #[.string s.name,.slice s.V s.ps.length s.d,.slice s.S s.l.length s.e],.agg #[.int .i64 q.x,.int .i64 q.y]] w fun e w'=>e=.returned (.int .i64 (idxP (atB q) s.l))∧Below w.heap.size w w':=by
 have hI:Hid (PaI w s q ((w.alloc (.cells #[.string s.name,.slice s.V s.ps.length s.d,.slice s.S s.l.length s.e] 25)).alloc (.cells #[.int .i64 q.x,.int .i64 q.y] 27))):=by
  have b2:=BoxAt.new (w.alloc (.cells #[.string s.name,.slice s.V s.ps.length s.d,.slice s.S s.l.length s.e] 25)) #[.int .i64 q.x,.int .i64 q.y] 27
  rw[World.size_alloc] at b2
  exact⟨(BoxAt.new w #[.string s.name,.slice s.V s.ps.length s.d,.slice s.S s.l.length s.e] 25).alloc _,b2,below_step (below_alloc _ _) (below_alloc _ _)⟩
 replace hrows:=Lib.hid hrows
 replace hP:=Lib.hid hP
 obtain⟨nm,V,d,ps,S,e,l⟩:=s
 dsimp only at *
 (obtain⟨a0,a1,a2⟩:=hI.out.a.c3;obtain⟨b0,b1⟩:=hI.out.b.c2)
 go_enter Tryz.func13,Tryz.ntmps13
 go_wp2_with fail
 clear a0 a1 a2 b0 b1
 go_loopw [5] (fun i wr=>∃ k:Nat,k≤l.length∧i=.int .i64 k∧Hid ((l.take k).any (atB q)=false)∧Hid (PaI w _ q wr)) (fun i _=>l.length-(intOf i).toNat)
 case atStart=>exact⟨0,Nat.zero_le _,rfl,rfl,hI⟩
 case round =>
  clear hI
  obtain⟨k,hk,rfl,hno,hI⟩:=hrel
  (obtain⟨a0,a1,a2⟩:=hI.out.a.c3;obtain⟨b0,b1⟩:=hI.out.b.c2)
  by_cases hlt:k<l.length
  ·have hk':l[k]?=some l[k]:=List.getElem?_eq_getElem hlt
   have hpP:=Lib.hid (hP.out _ (List.getElem_mem hlt))
   have hki:(k:Int)<(l.length:Int):=by omega
   generalize l[k]=p at *
   obtain⟨b,o,rfl,hbl,c0,c1⟩:=plo_at (hrows.out.below hI.out.bel) hk'
   have hwh:=Lib.hid (fun W (hb:Below w.heap.size w W)=>WhereR_any p.V p.d p.ps q W (hpP.out.1.below hb) hq hpP.out.2)
   have hat:atB q p=decide (0≤Cal.whereP p.ps q):=rfl
   generalize Cal.whereP p.ps q=z at *
   have hbw:=Lib.hid hI.out.bel
   have hkh:=Lib.hid hk'
   have hah:=Lib.hid hat
   clear c0 hk' hat
   go_wp2_with fail
   refine wp_region_held_drew (S:=Sx wr [(w.heap.size,2,.slice (some ⟨b,o,none⟩) l.length e),(b,o+k*2+1,.slice p.V p.ps.length p.d),(w.heap.size+1,0,.int .i64 q.x),(w.heap.size+1,1,.int .i64 q.y)]) (by kernel_rfl) (Sx.mk (by simp only[cs_iff_cons];exact⟨a2,c1,b0,b1,cs_nil _⟩) (Below.refl _ _)).drew (fun hHeld=>?_)
   clear a0 a1 a2 b0 b1
   clear c1
   refine tkHx 0 13 ?_
   refine tkHx 1 14 ?_
   refine tkHx 2 15 ?_
   refine tkHx 3 16 ?_
   refine tkHx 4 17 ?_
   refine tkHx 5 18 ?_
   refine tkHx 6 19 ?_
   (refine ratHx 7 (fun K hK=>?_);go_simp)
   refine (hwh.out _ (hbw.out.trans (hHeld.bel.mono hbw.out.size))).mono ?_
   rintro e wn ⟨rfl,hbn⟩
   go_simp
   (refine hK.out _ _ (hHeld.step hbn) (fun hHeld=>?_);clear hK K;(try simp only[apS,apN,siA,scZ,scS]))
   refine tkHx 8 21 ?_
   refine wpAnyH_done (by kernel_rfl) ?_ _
   (try simp only[apS,apN,siA,scZ,scS])
   replace hI:=Lib.hid (hI.out.below hHeld.bel)
   clear hHeld hbw hwh
   by_cases hz:0≤z
   ·have hR:Hid (idxP (atB q) l=k):=idxP_at hkh.out hno.out (by rw[hah.out];exact decide_eq_true hz)
    go_wp2_with fail
    go_ret
    exact⟨ret_int hR.out.symm,hI.out.bel⟩
   have hnx:Hid ((l.take (k+1)).any (atB q)=false):=any_take_succ hkh.out hno.out (by rw[hah.out];exact decide_eq_false hz)
   go_wp2_with fail
   go_roundw
   case rel=>exact⟨k+1,by omega,by go_num,hnx,hI⟩
   case measure=>simp[intOf];omega
  have hR:Hid (idxP (atB q) l=-1):=by
   have h:=hno.out
   rw[List.take_of_length_le (by omega)] at h
   exact idxP_no h
  go_wp2_with fail
  go_ret
  exact⟨ret_int hR.out.symm,hI.out.bel⟩
def paE (s:Sct) (q:Pt):Int:=if (sectE s.name s.ps s.l).2.2=0 then (if Cal.ptErr q=0 then (if 0≤idxP (atB q) s.l then 0 else 12) else Cal.ptErr q) else (sectE s.name s.ps s.l).2.2
def paI (s:Sct) (q:Pt):Int:=if paE s q=0 then idxP (atB q) s.l else 0
theorem PlotAtE_any (s:Sct) (q:Pt) (w:World) (hS:SctR w s) :
  Calls Tryz.prog 10 #[.agg #[.string s.name,.slice s.V s.ps.length s.d,.slice s.S s.l.length s.e],.agg #[.int .i64 q.x,.int .i64 q.y]] w fun e w'=>e=.returned (.tuple #[.int .i64 (paI s q),.int .i64 (paE s q)])∧Below w.heap.size w w':=by
 by_cases h0:(sectE s.name s.ps s.l).2.2=0
 ·by_cases hq:Cal.ptErr q=0
  ·have:=PlotAt_any s q w hS h0 hq
   unfold paI paE
   rw[if_pos h0,if_pos hq]
   by_cases hz:0≤idxP (atB q) s.l
   ·rw[if_pos hz] at this ⊢
    rw[if_pos hz] at this
    exact this
   rw[if_neg hz] at this ⊢
   rw[if_neg hz] at this
   exact this
  have hE:paE s q=Cal.ptErr q:=by unfold paE;rw[if_pos h0,if_neg hq]
  have hR:paI s q=0:=by unfold paI;rw[hE,if_neg hq]
  rw[hE,hR]
  have hI:Hid (PaI w s q ((w.alloc (.cells #[.string s.name,.slice s.V s.ps.length s.d,.slice s.S s.l.length s.e] 25)).alloc (.cells #[.int .i64 q.x,.int .i64 q.y] 27))):=by
   have b2:=BoxAt.new (w.alloc (.cells #[.string s.name,.slice s.V s.ps.length s.d,.slice s.S s.l.length s.e] 25)) #[.int .i64 q.x,.int .i64 q.y] 27
   rw[World.size_alloc] at b2
   exact⟨(BoxAt.new w #[.string s.name,.slice s.V s.ps.length s.d,.slice s.S s.l.length s.e] 25).alloc _,b2,below_step (below_alloc _ _) (below_alloc _ _)⟩
  have hcs:=Lib.hid (fun W (hb:Below w.heap.size w W)=>CheckSection_any s W (hS.below hb))
  have hpt:=Lib.hid (fun W=>checkPoint_any q W)
  clear hE hR hS
  generalize sectE s.name s.ps s.l=E at *
  obtain⟨e1,e2,c⟩:=E
  dsimp only at h0 hcs
  subst h0
  generalize Cal.ptErr q=z at *
  (obtain⟨a0,a1,a2⟩:=hI.out.a.c3;obtain⟨b0,b1⟩:=hI.out.b.c2)
  go_enter Tryz.func10,Tryz.ntmps10
  go_wp2_with (first
   |(go_at_call 41;clear a0 a1 a2 b0 b1;refine (hcs.out _ hI.out.bel).mono ?_;clear hcs;rintro e0 wn ⟨rfl,hbn⟩;replace hI:=Lib.hid ((hI.out.below hbn).below (below_alloc wn (.cells #[.int .i64 e1,.int .i64 e2] 36)));clear hbn;(obtain⟨a0,a1,a2⟩:=hI.out.a.c3;obtain⟨b0,b1⟩:=hI.out.b.c2))
   |(go_at_call 43;clear a0 a1 a2 b0 b1;refine (hpt.out _).mono ?_;clear hpt;rintro e0 wm ⟨rfl,hbn⟩;replace hI:=Lib.hid (hI.out.below hbn);clear hbn))
  go_ret2
  exact⟨rfl,hI.out.bel⟩
 have hE:paE s q=(sectE s.name s.ps s.l).2.2:=by unfold paE;rw[if_neg h0]
 have hR:paI s q=0:=by unfold paI;rw[hE,if_neg h0]
 rw[hE,hR]
 have hI:Hid (PaI w s q ((w.alloc (.cells #[.string s.name,.slice s.V s.ps.length s.d,.slice s.S s.l.length s.e] 25)).alloc (.cells #[.int .i64 q.x,.int .i64 q.y] 27))):=by
  have b2:=BoxAt.new (w.alloc (.cells #[.string s.name,.slice s.V s.ps.length s.d,.slice s.S s.l.length s.e] 25)) #[.int .i64 q.x,.int .i64 q.y] 27
  rw[World.size_alloc] at b2
  exact⟨(BoxAt.new w #[.string s.name,.slice s.V s.ps.length s.d,.slice s.S s.l.length s.e] 25).alloc _,b2,below_step (below_alloc _ _) (below_alloc _ _)⟩
 have hcs:=Lib.hid (fun W (hb:Below w.heap.size w W)=>CheckSection_any s W (hS.below hb))
 clear hE hR hS
 generalize sectE s.name s.ps s.l=E at *
 obtain⟨e1,e2,c⟩:=E
 dsimp only at h0 hcs ⊢
 (obtain⟨a0,a1,a2⟩:=hI.out.a.c3;obtain⟨b0,b1⟩:=hI.out.b.c2)
 go_enter Tryz.func10,Tryz.ntmps10
 go_wp2_with (go_at_call 41;clear a0 a1 a2 b0 b1;refine (hcs.out _ hI.out.bel).mono ?_;clear hcs;rintro e0 wn ⟨rfl,hbn⟩;replace hI:=Lib.hid ((hI.out.below hbn).below (below_alloc wn (.cells #[.int .i64 e1,.int .i64 e2] 36)));clear hbn;(obtain⟨a0,a1,a2⟩:=hI.out.a.c3;obtain⟨b0,b1⟩:=hI.out.b.c2))
 go_ret2
 exact⟨rfl,hI.out.bel⟩
end Go.Proofs.YthfokpchdlcidaaGreat
namespace Go.Proofs.YthfokpchdlcidaaGreat
open Go Go.RowKit Go.Shelf
theorem GroundPlots_any (s:Sct) (plot:Int) (q:Pt) (w:World) (hO:SctO w s) :
  Calls Tryz.prog 3 #[.agg #[.string s.name,.slice s.V s.ps.length s.d,.slice s.S s.l.length s.e],.int .i64 plot,.agg #[.int .i64 q.x,.int .i64 q.y]] w fun e w'=>e=.returned (.bool true)∧Below w.heap.size w w':=by
 have hI:Hid (PaI w s q ((w.alloc (.cells #[.string s.name,.slice s.V s.ps.length s.d,.slice s.S s.l.length s.e] 25)).alloc (.cells #[.int .i64 q.x,.int .i64 q.y] 27))):=by
  have b2:=BoxAt.new (w.alloc (.cells #[.string s.name,.slice s.V s.ps.length s.d,.slice s.S s.l.length s.e] 25)) #[.int .i64 q.x,.int .i64 q.y] 27
  rw[World.size_alloc] at b2
  exact⟨(BoxAt.new w #[.string s.name,.slice s.V s.ps.length s.d,.slice s.S s.l.length s.e] 25).alloc _,b2,below_step (below_alloc _ _) (below_alloc _ _)⟩
 have hsm:=Lib.hid (fun W (hb:Below w.heap.size w W)=>Small_any s W (hO.prow.below hb))
 have hrs:=Lib.hid (fun W (hb:Below w.heap.size w W)=>CheckSectionO_any s W (hO.below hb))
 have hin:=Lib.hid (fun W=>InPlaceR_any q W)
 replace hO:=Lib.hid hO
 (obtain⟨a0,a1,a2⟩:=hI.out.a.c3;obtain⟨b0,b1⟩:=hI.out.b.c2)
 go_enter Tryz.func3,Tryz.ntmps3
 go_wp2_with (go_at_call 7;clear a0 a1 a2 b0 b1;refine (lawAwake_any _).mono ?_;rintro e0 wn ⟨rfl,hbn⟩;replace hI:=Lib.hid (hI.out.below hbn);clear hbn;(obtain⟨a0,a1,a2⟩:=hI.out.a.c3;obtain⟨b0,b1⟩:=hI.out.b.c2))
 clear a0 a1 a2 b0 b1
 refine (hsm.out _ hI.out.bel).mono ?_
 clear hsm
 rintro e0 wm ⟨bs,rfl,hf,hbn⟩
 replace hI:=Lib.hid (hI.out.below hbn)
 clear hbn
 (obtain⟨a0,a1,a2⟩:=hI.out.a.c3;obtain⟨b0,b1⟩:=hI.out.b.c2)
 cases bs
 ·clear hO hf hrs hin
  go_wp2_with fail
  go_ret
  exact⟨rfl,hI.out.bel⟩
 have hS:=hO.out.sct (hf rfl)
 clear hf hO
 have hnb:Hid (∀ W,Below w.heap.size w W→Calls Tryz.prog 9 #[.agg #[.string s.name,.slice s.V s.ps.length s.d,.slice s.S s.l.length s.e],.int .i64 plot] W fun e w'=>∃ A c,e=.returned (.tuple #[.slice A (nbR s plot).length c,.int .i64 (nbE s plot)])∧RowsAt w' A 1 (intRows (nbR s plot))∧Below W.heap.size W w'):=fun W hb=>by
  refine (Neighbours_any s plot W (hS.below hb)).mono ?_
  rintro e w' ⟨v,rfl,hO,hb'⟩
  obtain⟨A5,c5,rfl,hr⟩:=hO.rows
  exact⟨A5,c5,rfl,hr,hb'⟩
 have hpa:=Lib.hid (fun W (hb:Below w.heap.size w W)=>PlotAtE_any s q W (hS.below hb))
 by_cases h0:(sectE s.name s.ps s.l).2.2=0
 ·have hz:=sectE_zero h0
  have hps:=sect_pos h0
  have hPl:∀ p∈s.l,Plg w p.V p.ps:=fun p hp=>by
   obtain⟨k,hk,rfl⟩:=List.getElem_of_mem hp
   have h3:=(plotE_zero (hz.2.2.2 k hk)).2.2.1
   exact (hS.plots.pts _ hp).plg h3 (few_ok (hS.fews _ hp) h3)
  have hl60:=hz.2.2.1
  have hpr:=Lib.hid (fun (hx:Cal.ptErr q=0) W (hb:Below w.heap.size w W)=>PlotAtR_any s q W (hS.plots.rows.below hb) (fun p hp=>⟨((hPl p hp).below hb).v.pts,by have:=(hPl p hp).len;omega⟩) (smP_of hx) (by omega))
  have hpe:Cal.ptErr q=0∨Cal.ptErr q=2:=by unfold Cal.ptErr;split <;> simp
  have hpE:paE s q=if Cal.ptErr q=0 then (if 0≤idxP (atB q) s.l then 0 else 12) else Cal.ptErr q:=by unfold paE;rw[if_pos h0]
  have hpI:paI s q=if paE s q=0 then idxP (atB q) s.l else 0:=rfl
  have hxe:=inPl_err q
  have hge:=idxP_ge (atB q) s.l
  have hwi0:=fun W=>Within_any plot 0 ((s.l.length:Int)-1) W
  by_cases hp:0≤plot∧plot<(s.l.length:Int)
  ·have hE:nbE s plot=0:=by unfold nbE;rw[if_pos h0,if_pos hp]
   have hR:nbR s plot=Cal.nbL s.l.length (nbG s.l plot.toNat) plot.toNat:=by unfold nbR;rw[if_pos hE]
   obtain⟨k0,rfl⟩:∃ k0:Nat,plot=k0:=⟨plot.toNat,by omega⟩
   rw[hE,hR,Int.toNat_natCast] at hnb
   have hk0:k0<s.l.length:=by omega
   have hwi:=Lib.hid hwi0
   rw[show (decide ((0:Int)≤(k0:Int)) && decide ((k0:Int)≤(s.l.length:Int)-1))=true from by simp;omega] at hwi
   have hnr:Hid (∀ W,Below w.heap.size w W→Calls Tryz.prog 16 #[.agg #[.string s.name,.slice s.V s.ps.length s.d,.slice s.S s.l.length s.e],.int .i64 (k0:Int)] W fun e w'=>∃ A c,e=.returned (.slice A (Cal.nbL s.l.length (nbG s.l k0) k0).length c)∧RowsAt w' A 1 (intRows (Cal.nbL s.l.length (nbG s.l k0) k0))∧Below W.heap.size W w'):=fun W hb=>by
    refine (NeighboursR_any s k0 W (hS.below hb) h0 hk0).mono ?_
    rintro e w' ⟨v,rfl,hO,hb'⟩
    obtain⟨A5,c5,rfl,hr⟩:=hO.rows
    exact⟨A5,c5,rfl,hr,hb'⟩
   have hback:Hid (∀ z∈Cal.nbL s.l.length (nbG s.l k0) k0,∀ W,Below w.heap.size w W→Calls Tryz.prog 9 #[.agg #[.string s.name,.slice s.V s.ps.length s.d,.slice s.S s.l.length s.e],.int .i64 z] W fun e w'=>∃ A c bs,e=.returned (.tuple #[.slice A bs.length c,.int .i64 0])∧RowsAt w' A 1 (intRows bs)∧(k0:Int)∈bs∧bs.length≤1000000∧Below W.heap.size W w'):=fun z hz W hb=>by
    obtain⟨i,rfl,hi,hne,hg⟩:=Cal.nbL_mem.1 hz
    have hE2:nbE s (i:Int)=0:=by unfold nbE;rw[if_pos h0,if_pos ⟨by omega,by omega⟩]
    have hR2:nbR s (i:Int)=Cal.nbL s.l.length (nbG s.l i) i:=by unfold nbR;rw[if_pos hE2,Int.toNat_natCast]
    refine (Neighbours_any s i W (hS.below hb)).mono ?_
    rw[hE2,hR2]
    rintro e w' ⟨v,rfl,hO,hb'⟩
    obtain⟨A5,c5,rfl,hr⟩:=hO.rows
    exact⟨A5,c5,_,rfl,hr,Cal.nbL_mem.2 ⟨k0,rfl,hk0,fun e=>hne e.symm,by rw[nbG_comm hi hk0 hps];exact hg⟩,by have:=Cal.nbL_len s.l.length (nbG s.l i) i;omega,hb'⟩
   have hzl:(Cal.nbL s.l.length (nbG s.l k0) k0).length≤1000000:=by have:=Cal.nbL_len s.l.length (nbG s.l k0) k0;omega
   clear hwi0 hE hR hz hps hPl hS
   generalize Cal.nbL s.l.length (nbG s.l k0) k0=zs at *
   generalize sectE s.name s.ps s.l=E at *
   obtain⟨e1,e2,c⟩:=E
   dsimp only at h0 hrs
   subst h0
   rw[hpI,hpE] at hpa
   clear hpI hpE
   cases hx:inPl q
   ·rw[hx] at hin hxe
    have hq2:Cal.ptErr q=2:=by
     rcases hpe with h | h
     ·exact absurd (hxe.2 h) (by decide)
     exact h
    rw[hq2] at hpa
    clear hpr hpe hxe hx hq2
    generalize idxP (atB q) s.l=x at *
    obtain⟨nm,V,d,ps,S,e,l⟩:=s
    dsimp only at *
    go_wp2_with (first
     |(go_at_call 9;clear a0 a1 a2 b0 b1;refine (hnb.out _ hI.out.bel).mono ?_;clear hnb;rintro e0 w4 ⟨A4,c4,rfl,hr4,hbn⟩;replace hI:=Lib.hid (hI.out.below hbn);replace hr4:=Lib.hid hr4;clear hbn;(obtain⟨a0,a1,a2⟩:=hI.out.a.c3;obtain⟨b0,b1⟩:=hI.out.b.c2))
     |(go_at_call 10;clear a0 a1 a2 b0 b1;refine (hpa.out _ hI.out.bel).mono ?_;clear hpa;rintro e0 w5 ⟨rfl,hbn⟩;(replace hI:=Lib.hid (hI.out.below hbn);replace hr4:=Lib.hid (hr4.out.below hbn);clear hbn;(obtain⟨a0,a1,a2⟩:=hI.out.a.c3;obtain⟨b0,b1⟩:=hI.out.b.c2)))
     |(go_at_call 11;clear a0 a1 a2 b0 b1;refine (hrs.out _ hI.out.bel).mono ?_;clear hrs;rintro e0 wk ⟨rfl,hbn⟩;replace hI:=Lib.hid ((hI.out.below hbn).below (below_alloc wk (.cells #[.int .i64 e1,.int .i64 e2] 36)));replace hr4:=Lib.hid ((hr4.out.below hbn).below (below_alloc wk (.cells #[.int .i64 e1,.int .i64 e2] 36)));clear hbn;(obtain⟨a0,a1,a2⟩:=hI.out.a.c3;obtain⟨b0,b1⟩:=hI.out.b.c2))
     |(go_at_call 12;clear a0 a1 a2 b0 b1;refine (hin.out _).mono ?_;rintro e0 w6 ⟨rfl,hbn⟩;(replace hI:=Lib.hid (hI.out.below hbn);replace hr4:=Lib.hid (hr4.out.below hbn);clear hbn;(obtain⟨a0,a1,a2⟩:=hI.out.a.c3;obtain⟨b0,b1⟩:=hI.out.b.c2)))
     |(go_at_call 13;clear a0 a1 a2 b0 b1;refine (hpr.out _ hI.out.bel).mono ?_;clear hpr;rintro e0 w7 ⟨rfl,hbn⟩;(replace hI:=Lib.hid (hI.out.below hbn);replace hr4:=Lib.hid (hr4.out.below hbn);clear hbn;(obtain⟨a0,a1,a2⟩:=hI.out.a.c3;obtain⟨b0,b1⟩:=hI.out.b.c2)))
     |(go_at_call 14;refine (hwi.out _).mono ?_;clear hwi;rintro e0 w8 ⟨rfl,rfl⟩)
     |(go_at_call 16;clear a0 a1 a2 b0 b1;refine (hnr.out _ hI.out.bel).mono ?_;clear hnr;rintro e0 w9 ⟨A9,c9,rfl,hr9,hbn⟩;(replace hI:=Lib.hid (hI.out.below hbn);replace hr4:=Lib.hid (hr4.out.below hbn);clear hbn;(obtain⟨a0,a1,a2⟩:=hI.out.a.c3;obtain⟨b0,b1⟩:=hI.out.b.c2));replace hr9:=Lib.hid hr9)
     |(go_at_call 15;clear a0 a1 a2 b0 b1;refine (IntsR_any A4 c4 A9 c9 zs _ hr4.out hr9.out hzl).mono ?_;clear hr9;rintro e0 w10 ⟨rfl,hbn⟩;(replace hI:=Lib.hid (hI.out.below hbn);replace hr4:=Lib.hid (hr4.out.below hbn);clear hbn;(obtain⟨a0,a1,a2⟩:=hI.out.a.c3;obtain⟨b0,b1⟩:=hI.out.b.c2))))
    clear a0 a1 a2 b0 b1
    go_loopw [14] (fun i wr=>∃ j:Nat,j≤zs.length∧i=.int .i64 j∧Hid (PaI w _ q wr)∧Hid (RowsAt wr A4 1 (intRows zs))) (fun i _=>zs.length-(intOf i).toNat)
    case atStart=>exact⟨0,Nat.zero_le _,rfl,hI,hr4⟩
    case round =>
     clear hI hr4
     obtain⟨j,hj,rfl,hI,hr4⟩:=hrel
     (obtain⟨a0,a1,a2⟩:=hI.out.a.c3;obtain⟨b0,b1⟩:=hI.out.b.c2)
     by_cases hlt:j<zs.length
     ·obtain⟨bz,oz,rfl,_,z0⟩:=intsI_at hr4.out hlt
      have hba:=Lib.hid (fun W hW=>hback.out _ (List.getElem_mem hlt) W hW)
      have hji:(j:Int)<(zs.length:Int):=by omega
      generalize zs[j]=z at *
      have hbw:=Lib.hid hI.out.bel
      go_wp2_with fail
      refine wp_region_held_drew (S:=Sx wr [(w.heap.size,0,.string nm),(w.heap.size,1,.slice V ps.length d),(w.heap.size,2,.slice S l.length e),(bz,oz+j,.int .i64 z)]) (by kernel_rfl) (Sx.mk (by simp only[cs_iff_cons];exact⟨a0,a1,a2,z0,cs_nil _⟩) (Below.refl _ _)).drew (fun hHeld=>?_)
      clear a0 a1 a2 b0 b1
      clear z0
      refine tkHx 0 120 ?_
      refine tkHx 1 121 ?_
      refine tkHx 2 122 ?_
      refine tkHx 3 123 ?_
      refine tkHx 4 124 ?_
      (refine ratHx 5 (fun K hK=>?_);go_simp)
      refine (hba.out _ (hbw.out.trans (hHeld.bel.mono hbw.out.size))).mono ?_
      rintro e0 wn ⟨A5,c5,bs,rfl,hr5,hmem,hbl,hbn⟩
      go_simp
      (refine hK.out _ _ (hHeld.step hbn) (fun hHeld=>?_);clear hK K;(try simp only[apS,apN,siA,scZ,scS]))
      replace hr5:=Lib.hid hr5
      refine tkHx 6 119 ?_
      refine tkHx 7 126 ?_
      refine tkHx 8 127 ?_
      refine tkHx 9 15 ?_
      refine tkHx 10 16 ?_
      refine wpAnyH_done (by kernel_rfl) ?_ _
      (try simp only[apS,apN,siA,scZ,scS])
      replace hI:=Lib.hid (hI.out.below hHeld.bel)
      replace hr4:=Lib.hid (hr4.out.below hHeld.bel)
      clear hHeld hbw hba
      have hhas:=HasI_any A5 c5 bs (k0:Int) wn hr5.out hbl
      rw[decide_eq_true hmem] at hhas
      replace hhas:=Lib.hid hhas
      clear hmem
      go_wp2_with (go_at_call 17;refine hhas.out.mono ?_;rintro e0 wm ⟨rfl,rfl⟩;clear hhas)
      go_roundw
      case rel=>exact⟨j+1,by omega,by go_num,hI,hr4⟩
      case measure=>simp[intOf];omega
     go_wp2_with fail
     go_ret
     exact⟨rfl,hI.out.bel⟩
   rw[hx] at hin
   have hq0:=hxe.1 hx
   replace hpr:=Lib.hid (hpr.out hq0)
   rw[hq0] at hpa
   clear hpe hxe hx hq0
   generalize idxP (atB q) s.l=x at *
   obtain⟨nm,V,d,ps,S,e,l⟩:=s
   dsimp only at *
   by_cases hx0:0≤x
   ·rw[if_pos rfl,if_pos hx0,if_pos rfl] at hpa
    have hx1:¬x<0:=by omega
    go_wp2_with (first
     |(go_at_call 9;clear a0 a1 a2 b0 b1;refine (hnb.out _ hI.out.bel).mono ?_;clear hnb;rintro e0 w4 ⟨A4,c4,rfl,hr4,hbn⟩;replace hI:=Lib.hid (hI.out.below hbn);replace hr4:=Lib.hid hr4;clear hbn;(obtain⟨a0,a1,a2⟩:=hI.out.a.c3;obtain⟨b0,b1⟩:=hI.out.b.c2))
     |(go_at_call 10;clear a0 a1 a2 b0 b1;refine (hpa.out _ hI.out.bel).mono ?_;clear hpa;rintro e0 w5 ⟨rfl,hbn⟩;(replace hI:=Lib.hid (hI.out.below hbn);replace hr4:=Lib.hid (hr4.out.below hbn);clear hbn;(obtain⟨a0,a1,a2⟩:=hI.out.a.c3;obtain⟨b0,b1⟩:=hI.out.b.c2)))
     |(go_at_call 11;clear a0 a1 a2 b0 b1;refine (hrs.out _ hI.out.bel).mono ?_;clear hrs;rintro e0 wk ⟨rfl,hbn⟩;replace hI:=Lib.hid ((hI.out.below hbn).below (below_alloc wk (.cells #[.int .i64 e1,.int .i64 e2] 36)));replace hr4:=Lib.hid ((hr4.out.below hbn).below (below_alloc wk (.cells #[.int .i64 e1,.int .i64 e2] 36)));clear hbn;(obtain⟨a0,a1,a2⟩:=hI.out.a.c3;obtain⟨b0,b1⟩:=hI.out.b.c2))
     |(go_at_call 12;clear a0 a1 a2 b0 b1;refine (hin.out _).mono ?_;rintro e0 w6 ⟨rfl,hbn⟩;(replace hI:=Lib.hid (hI.out.below hbn);replace hr4:=Lib.hid (hr4.out.below hbn);clear hbn;(obtain⟨a0,a1,a2⟩:=hI.out.a.c3;obtain⟨b0,b1⟩:=hI.out.b.c2)))
     |(go_at_call 13;clear a0 a1 a2 b0 b1;refine (hpr.out _ hI.out.bel).mono ?_;clear hpr;rintro e0 w7 ⟨rfl,hbn⟩;(replace hI:=Lib.hid (hI.out.below hbn);replace hr4:=Lib.hid (hr4.out.below hbn);clear hbn;(obtain⟨a0,a1,a2⟩:=hI.out.a.c3;obtain⟨b0,b1⟩:=hI.out.b.c2)))
     |(go_at_call 14;refine (hwi.out _).mono ?_;clear hwi;rintro e0 w8 ⟨rfl,rfl⟩)
     |(go_at_call 16;clear a0 a1 a2 b0 b1;refine (hnr.out _ hI.out.bel).mono ?_;clear hnr;rintro e0 w9 ⟨A9,c9,rfl,hr9,hbn⟩;(replace hI:=Lib.hid (hI.out.below hbn);replace hr4:=Lib.hid (hr4.out.below hbn);clear hbn;(obtain⟨a0,a1,a2⟩:=hI.out.a.c3;obtain⟨b0,b1⟩:=hI.out.b.c2));replace hr9:=Lib.hid hr9)
     |(go_at_call 15;clear a0 a1 a2 b0 b1;refine (IntsR_any A4 c4 A9 c9 zs _ hr4.out hr9.out hzl).mono ?_;clear hr9;rintro e0 w10 ⟨rfl,hbn⟩;(replace hI:=Lib.hid (hI.out.below hbn);replace hr4:=Lib.hid (hr4.out.below hbn);clear hbn;(obtain⟨a0,a1,a2⟩:=hI.out.a.c3;obtain⟨b0,b1⟩:=hI.out.b.c2))))
    clear a0 a1 a2 b0 b1
    go_loopw [14] (fun i wr=>∃ j:Nat,j≤zs.length∧i=.int .i64 j∧Hid (PaI w _ q wr)∧Hid (RowsAt wr A4 1 (intRows zs))) (fun i _=>zs.length-(intOf i).toNat)
    case atStart=>exact⟨0,Nat.zero_le _,rfl,hI,hr4⟩
    case round =>
     clear hI hr4
     obtain⟨j,hj,rfl,hI,hr4⟩:=hrel
     (obtain⟨a0,a1,a2⟩:=hI.out.a.c3;obtain⟨b0,b1⟩:=hI.out.b.c2)
     by_cases hlt:j<zs.length
     ·obtain⟨bz,oz,rfl,_,z0⟩:=intsI_at hr4.out hlt
      have hba:=Lib.hid (fun W hW=>hback.out _ (List.getElem_mem hlt) W hW)
      have hji:(j:Int)<(zs.length:Int):=by omega
      generalize zs[j]=z at *
      have hbw:=Lib.hid hI.out.bel
      go_wp2_with fail
      refine wp_region_held_drew (S:=Sx wr [(w.heap.size,0,.string nm),(w.heap.size,1,.slice V ps.length d),(w.heap.size,2,.slice S l.length e),(bz,oz+j,.int .i64 z)]) (by kernel_rfl) (Sx.mk (by simp only[cs_iff_cons];exact⟨a0,a1,a2,z0,cs_nil _⟩) (Below.refl _ _)).drew (fun hHeld=>?_)
      clear a0 a1 a2 b0 b1
      clear z0
      refine tkHx 0 120 ?_
      refine tkHx 1 121 ?_
      refine tkHx 2 122 ?_
      refine tkHx 3 123 ?_
      refine tkHx 4 124 ?_
      (refine ratHx 5 (fun K hK=>?_);go_simp)
      refine (hba.out _ (hbw.out.trans (hHeld.bel.mono hbw.out.size))).mono ?_
      rintro e0 wn ⟨A5,c5,bs,rfl,hr5,hmem,hbl,hbn⟩
      go_simp
      (refine hK.out _ _ (hHeld.step hbn) (fun hHeld=>?_);clear hK K;(try simp only[apS,apN,siA,scZ,scS]))
      replace hr5:=Lib.hid hr5
      refine tkHx 6 119 ?_
      refine tkHx 7 126 ?_
      refine tkHx 8 127 ?_
      refine tkHx 9 15 ?_
      refine tkHx 10 16 ?_
      refine wpAnyH_done (by kernel_rfl) ?_ _
      (try simp only[apS,apN,siA,scZ,scS])
      replace hI:=Lib.hid (hI.out.below hHeld.bel)
      replace hr4:=Lib.hid (hr4.out.below hHeld.bel)
      clear hHeld hbw hba
      have hhas:=HasI_any A5 c5 bs (k0:Int) wn hr5.out hbl
      rw[decide_eq_true hmem] at hhas
      replace hhas:=Lib.hid hhas
      clear hmem
      go_wp2_with (go_at_call 17;refine hhas.out.mono ?_;rintro e0 wm ⟨rfl,rfl⟩;clear hhas)
      go_roundw
      case rel=>exact⟨j+1,by omega,by go_num,hI,hr4⟩
      case measure=>simp[intOf];omega
     go_wp2_with fail
     go_ret
     exact⟨rfl,hI.out.bel⟩
   rw[if_pos rfl,if_neg hx0,if_neg (by decide)] at hpa
   have hx1:x<0:=by omega
   go_wp2_with (first
    |(go_at_call 9;clear a0 a1 a2 b0 b1;refine (hnb.out _ hI.out.bel).mono ?_;clear hnb;rintro e0 w4 ⟨A4,c4,rfl,hr4,hbn⟩;replace hI:=Lib.hid (hI.out.below hbn);replace hr4:=Lib.hid hr4;clear hbn;(obtain⟨a0,a1,a2⟩:=hI.out.a.c3;obtain⟨b0,b1⟩:=hI.out.b.c2))
    |(go_at_call 10;clear a0 a1 a2 b0 b1;refine (hpa.out _ hI.out.bel).mono ?_;clear hpa;rintro e0 w5 ⟨rfl,hbn⟩;(replace hI:=Lib.hid (hI.out.below hbn);replace hr4:=Lib.hid (hr4.out.below hbn);clear hbn;(obtain⟨a0,a1,a2⟩:=hI.out.a.c3;obtain⟨b0,b1⟩:=hI.out.b.c2)))
    |(go_at_call 11;clear a0 a1 a2 b0 b1;refine (hrs.out _ hI.out.bel).mono ?_;clear hrs;rintro e0 wk ⟨rfl,hbn⟩;replace hI:=Lib.hid ((hI.out.below hbn).below (below_alloc wk (.cells #[.int .i64 e1,.int .i64 e2] 36)));replace hr4:=Lib.hid ((hr4.out.below hbn).below (below_alloc wk (.cells #[.int .i64 e1,.int .i64 e2] 36)));clear hbn;(obtain⟨a0,a1,a2⟩:=hI.out.a.c3;obtain⟨b0,b1⟩:=hI.out.b.c2))
    |(go_at_call 12;clear a0 a1 a2 b0 b1;refine (hin.out _).mono ?_;rintro e0 w6 ⟨rfl,hbn⟩;(replace hI:=Lib.hid (hI.out.below hbn);replace hr4:=Lib.hid (hr4.out.below hbn);clear hbn;(obtain⟨a0,a1,a2⟩:=hI.out.a.c3;obtain⟨b0,b1⟩:=hI.out.b.c2)))
    |(go_at_call 13;clear a0 a1 a2 b0 b1;refine (hpr.out _ hI.out.bel).mono ?_;clear hpr;rintro e0 w7 ⟨rfl,hbn⟩;(replace hI:=Lib.hid (hI.out.below hbn);replace hr4:=Lib.hid (hr4.out.below hbn);clear hbn;(obtain⟨a0,a1,a2⟩:=hI.out.a.c3;obtain⟨b0,b1⟩:=hI.out.b.c2)))
    |(go_at_call 14;refine (hwi.out _).mono ?_;clear hwi;rintro e0 w8 ⟨rfl,rfl⟩)
    |(go_at_call 16;clear a0 a1 a2 b0 b1;refine (hnr.out _ hI.out.bel).mono ?_;clear hnr;rintro e0 w9 ⟨A9,c9,rfl,hr9,hbn⟩;(replace hI:=Lib.hid (hI.out.below hbn);replace hr4:=Lib.hid (hr4.out.below hbn);clear hbn;(obtain⟨a0,a1,a2⟩:=hI.out.a.c3;obtain⟨b0,b1⟩:=hI.out.b.c2));replace hr9:=Lib.hid hr9)
    |(go_at_call 15;clear a0 a1 a2 b0 b1;refine (IntsR_any A4 c4 A9 c9 zs _ hr4.out hr9.out hzl).mono ?_;clear hr9;rintro e0 w10 ⟨rfl,hbn⟩;(replace hI:=Lib.hid (hI.out.below hbn);replace hr4:=Lib.hid (hr4.out.below hbn);clear hbn;(obtain⟨a0,a1,a2⟩:=hI.out.a.c3;obtain⟨b0,b1⟩:=hI.out.b.c2))))
   clear a0 a1 a2 b0 b1
   go_loopw [14] (fun i wr=>∃ j:Nat,j≤zs.length∧i=.int .i64 j∧Hid (PaI w _ q wr)∧Hid (RowsAt wr A4 1 (intRows zs))) (fun i _=>zs.length-(intOf i).toNat)
   case atStart=>exact⟨0,Nat.zero_le _,rfl,hI,hr4⟩
   case round =>
    clear hI hr4
    obtain⟨j,hj,rfl,hI,hr4⟩:=hrel
    (obtain⟨a0,a1,a2⟩:=hI.out.a.c3;obtain⟨b0,b1⟩:=hI.out.b.c2)
    by_cases hlt:j<zs.length
    ·obtain⟨bz,oz,rfl,_,z0⟩:=intsI_at hr4.out hlt
     have hba:=Lib.hid (fun W hW=>hback.out _ (List.getElem_mem hlt) W hW)
     have hji:(j:Int)<(zs.length:Int):=by omega
     generalize zs[j]=z at *
     have hbw:=Lib.hid hI.out.bel
     go_wp2_with fail
     refine wp_region_held_drew (S:=Sx wr [(w.heap.size,0,.string nm),(w.heap.size,1,.slice V ps.length d),(w.heap.size,2,.slice S l.length e),(bz,oz+j,.int .i64 z)]) (by kernel_rfl) (Sx.mk (by simp only[cs_iff_cons];exact⟨a0,a1,a2,z0,cs_nil _⟩) (Below.refl _ _)).drew (fun hHeld=>?_)
     clear a0 a1 a2 b0 b1
     clear z0
     refine tkHx 0 120 ?_
     refine tkHx 1 121 ?_
     refine tkHx 2 122 ?_
     refine tkHx 3 123 ?_
     refine tkHx 4 124 ?_
     (refine ratHx 5 (fun K hK=>?_);go_simp)
     refine (hba.out _ (hbw.out.trans (hHeld.bel.mono hbw.out.size))).mono ?_
     rintro e0 wn ⟨A5,c5,bs,rfl,hr5,hmem,hbl,hbn⟩
     go_simp
     (refine hK.out _ _ (hHeld.step hbn) (fun hHeld=>?_);clear hK K;(try simp only[apS,apN,siA,scZ,scS]))
     replace hr5:=Lib.hid hr5
     refine tkHx 6 119 ?_
     refine tkHx 7 126 ?_
     refine tkHx 8 127 ?_
     refine tkHx 9 15 ?_
     refine tkHx 10 16 ?_
     refine wpAnyH_done (by kernel_rfl) ?_ _
     (try simp only[apS,apN,siA,scZ,scS])
     replace hI:=Lib.hid (hI.out.below hHeld.bel)
     replace hr4:=Lib.hid (hr4.out.below hHeld.bel)
     clear hHeld hbw hba
     have hhas:=HasI_any A5 c5 bs (k0:Int) wn hr5.out hbl
     rw[decide_eq_true hmem] at hhas
     replace hhas:=Lib.hid hhas
     clear hmem
     go_wp2_with (go_at_call 17;refine hhas.out.mono ?_;rintro e0 wm ⟨rfl,rfl⟩;clear hhas)
     go_roundw
     case rel=>exact⟨j+1,by omega,by go_num,hI,hr4⟩
     case measure=>simp[intOf];omega
    go_wp2_with fail
    go_ret
    exact⟨rfl,hI.out.bel⟩
  have hE:nbE s plot=6:=by unfold nbE;rw[if_pos h0,if_neg hp]
  have hR:nbR s plot=[]:=by unfold nbR;rw[hE];rfl
  rw[hE,hR] at hnb
  have hwi:=Lib.hid hwi0
  rw[show (decide ((0:Int)≤plot) && decide (plot≤(s.l.length:Int)-1))=false from by
   rw[Bool.and_eq_false_iff,decide_eq_false_iff_not,decide_eq_false_iff_not];omega] at hwi
  clear hwi0 hE hR hz hps hPl hS hp
  generalize sectE s.name s.ps s.l=E at *
  obtain⟨e1,e2,c⟩:=E
  dsimp only at h0 hrs
  subst h0
  rw[hpI,hpE] at hpa
  clear hpI hpE
  cases hx:inPl q
  ·rw[hx] at hin hxe
   have hq2:Cal.ptErr q=2:=by
    rcases hpe with h | h
    ·exact absurd (hxe.2 h) (by decide)
    exact h
   rw[hq2] at hpa
   clear hpr hpe hxe hx hq2
   generalize idxP (atB q) s.l=x at *
   obtain⟨nm,V,d,ps,S,e,l⟩:=s
   dsimp only at *
   go_wp2_with (first
    |(go_at_call 9;clear a0 a1 a2 b0 b1;refine (hnb.out _ hI.out.bel).mono ?_;clear hnb;rintro e0 w4 ⟨A4,c4,rfl,hr4,hbn⟩;replace hI:=Lib.hid (hI.out.below hbn);replace hr4:=Lib.hid hr4;clear hbn;(obtain⟨a0,a1,a2⟩:=hI.out.a.c3;obtain⟨b0,b1⟩:=hI.out.b.c2))
    |(go_at_call 10;clear a0 a1 a2 b0 b1;refine (hpa.out _ hI.out.bel).mono ?_;clear hpa;rintro e0 w5 ⟨rfl,hbn⟩;(replace hI:=Lib.hid (hI.out.below hbn);replace hr4:=Lib.hid (hr4.out.below hbn);clear hbn;(obtain⟨a0,a1,a2⟩:=hI.out.a.c3;obtain⟨b0,b1⟩:=hI.out.b.c2)))
    |(go_at_call 11;clear a0 a1 a2 b0 b1;refine (hrs.out _ hI.out.bel).mono ?_;clear hrs;rintro e0 wk ⟨rfl,hbn⟩;replace hI:=Lib.hid ((hI.out.below hbn).below (below_alloc wk (.cells #[.int .i64 e1,.int .i64 e2] 36)));replace hr4:=Lib.hid ((hr4.out.below hbn).below (below_alloc wk (.cells #[.int .i64 e1,.int .i64 e2] 36)));clear hbn;(obtain⟨a0,a1,a2⟩:=hI.out.a.c3;obtain⟨b0,b1⟩:=hI.out.b.c2))
    |(go_at_call 12;clear a0 a1 a2 b0 b1;refine (hin.out _).mono ?_;rintro e0 w6 ⟨rfl,hbn⟩;(replace hI:=Lib.hid (hI.out.below hbn);replace hr4:=Lib.hid (hr4.out.below hbn);clear hbn;(obtain⟨a0,a1,a2⟩:=hI.out.a.c3;obtain⟨b0,b1⟩:=hI.out.b.c2)))
    |(go_at_call 13;clear a0 a1 a2 b0 b1;refine (hpr.out _ hI.out.bel).mono ?_;clear hpr;rintro e0 w7 ⟨rfl,hbn⟩;(replace hI:=Lib.hid (hI.out.below hbn);replace hr4:=Lib.hid (hr4.out.below hbn);clear hbn;(obtain⟨a0,a1,a2⟩:=hI.out.a.c3;obtain⟨b0,b1⟩:=hI.out.b.c2)))
    |(go_at_call 14;refine (hwi.out _).mono ?_;clear hwi;rintro e0 w8 ⟨rfl,rfl⟩)
    |(go_at_call 16;clear a0 a1 a2 b0 b1;refine (hnr.out _ hI.out.bel).mono ?_;clear hnr;rintro e0 w9 ⟨A9,c9,rfl,hr9,hbn⟩;(replace hI:=Lib.hid (hI.out.below hbn);replace hr4:=Lib.hid (hr4.out.below hbn);clear hbn;(obtain⟨a0,a1,a2⟩:=hI.out.a.c3;obtain⟨b0,b1⟩:=hI.out.b.c2));replace hr9:=Lib.hid hr9)
    |(go_at_call 15;clear a0 a1 a2 b0 b1;refine (IntsR_any A4 c4 A9 c9 zs _ hr4.out hr9.out hzl).mono ?_;clear hr9;rintro e0 w10 ⟨rfl,hbn⟩;(replace hI:=Lib.hid (hI.out.below hbn);replace hr4:=Lib.hid (hr4.out.below hbn);clear hbn;(obtain⟨a0,a1,a2⟩:=hI.out.a.c3;obtain⟨b0,b1⟩:=hI.out.b.c2))))
   go_ret
   exact⟨rfl,hI.out.bel⟩
  rw[hx] at hin
  have hq0:=hxe.1 hx
  replace hpr:=Lib.hid (hpr.out hq0)
  rw[hq0] at hpa
  clear hpe hxe hx hq0
  generalize idxP (atB q) s.l=x at *
  obtain⟨nm,V,d,ps,S,e,l⟩:=s
  dsimp only at *
  by_cases hx0:0≤x
  ·rw[if_pos rfl,if_pos hx0,if_pos rfl] at hpa
   have hx1:¬x<0:=by omega
   go_wp2_with (first
    |(go_at_call 9;clear a0 a1 a2 b0 b1;refine (hnb.out _ hI.out.bel).mono ?_;clear hnb;rintro e0 w4 ⟨A4,c4,rfl,hr4,hbn⟩;replace hI:=Lib.hid (hI.out.below hbn);replace hr4:=Lib.hid hr4;clear hbn;(obtain⟨a0,a1,a2⟩:=hI.out.a.c3;obtain⟨b0,b1⟩:=hI.out.b.c2))
    |(go_at_call 10;clear a0 a1 a2 b0 b1;refine (hpa.out _ hI.out.bel).mono ?_;clear hpa;rintro e0 w5 ⟨rfl,hbn⟩;(replace hI:=Lib.hid (hI.out.below hbn);replace hr4:=Lib.hid (hr4.out.below hbn);clear hbn;(obtain⟨a0,a1,a2⟩:=hI.out.a.c3;obtain⟨b0,b1⟩:=hI.out.b.c2)))
    |(go_at_call 11;clear a0 a1 a2 b0 b1;refine (hrs.out _ hI.out.bel).mono ?_;clear hrs;rintro e0 wk ⟨rfl,hbn⟩;replace hI:=Lib.hid ((hI.out.below hbn).below (below_alloc wk (.cells #[.int .i64 e1,.int .i64 e2] 36)));replace hr4:=Lib.hid ((hr4.out.below hbn).below (below_alloc wk (.cells #[.int .i64 e1,.int .i64 e2] 36)));clear hbn;(obtain⟨a0,a1,a2⟩:=hI.out.a.c3;obtain⟨b0,b1⟩:=hI.out.b.c2))
    |(go_at_call 12;clear a0 a1 a2 b0 b1;refine (hin.out _).mono ?_;rintro e0 w6 ⟨rfl,hbn⟩;(replace hI:=Lib.hid (hI.out.below hbn);replace hr4:=Lib.hid (hr4.out.below hbn);clear hbn;(obtain⟨a0,a1,a2⟩:=hI.out.a.c3;obtain⟨b0,b1⟩:=hI.out.b.c2)))
    |(go_at_call 13;clear a0 a1 a2 b0 b1;refine (hpr.out _ hI.out.bel).mono ?_;clear hpr;rintro e0 w7 ⟨rfl,hbn⟩;(replace hI:=Lib.hid (hI.out.below hbn);replace hr4:=Lib.hid (hr4.out.below hbn);clear hbn;(obtain⟨a0,a1,a2⟩:=hI.out.a.c3;obtain⟨b0,b1⟩:=hI.out.b.c2)))
    |(go_at_call 14;refine (hwi.out _).mono ?_;clear hwi;rintro e0 w8 ⟨rfl,rfl⟩)
    |(go_at_call 16;clear a0 a1 a2 b0 b1;refine (hnr.out _ hI.out.bel).mono ?_;clear hnr;rintro e0 w9 ⟨A9,c9,rfl,hr9,hbn⟩;(replace hI:=Lib.hid (hI.out.below hbn);replace hr4:=Lib.hid (hr4.out.below hbn);clear hbn;(obtain⟨a0,a1,a2⟩:=hI.out.a.c3;obtain⟨b0,b1⟩:=hI.out.b.c2));replace hr9:=Lib.hid hr9)
    |(go_at_call 15;clear a0 a1 a2 b0 b1;refine (IntsR_any A4 c4 A9 c9 zs _ hr4.out hr9.out hzl).mono ?_;clear hr9;rintro e0 w10 ⟨rfl,hbn⟩;(replace hI:=Lib.hid (hI.out.below hbn);replace hr4:=Lib.hid (hr4.out.below hbn);clear hbn;(obtain⟨a0,a1,a2⟩:=hI.out.a.c3;obtain⟨b0,b1⟩:=hI.out.b.c2))))
   go_ret
   exact⟨rfl,hI.out.bel⟩
  rw[if_pos rfl,if_neg hx0,if_neg (by decide)] at hpa
  have hx1:x<0:=by omega
  go_wp2_with (first
   |(go_at_call 9;clear a0 a1 a2 b0 b1;refine (hnb.out _ hI.out.bel).mono ?_;clear hnb;rintro e0 w4 ⟨A4,c4,rfl,hr4,hbn⟩;replace hI:=Lib.hid (hI.out.below hbn);replace hr4:=Lib.hid hr4;clear hbn;(obtain⟨a0,a1,a2⟩:=hI.out.a.c3;obtain⟨b0,b1⟩:=hI.out.b.c2))
   |(go_at_call 10;clear a0 a1 a2 b0 b1;refine (hpa.out _ hI.out.bel).mono ?_;clear hpa;rintro e0 w5 ⟨rfl,hbn⟩;(replace hI:=Lib.hid (hI.out.below hbn);replace hr4:=Lib.hid (hr4.out.below hbn);clear hbn;(obtain⟨a0,a1,a2⟩:=hI.out.a.c3;obtain⟨b0,b1⟩:=hI.out.b.c2)))
   |(go_at_call 11;clear a0 a1 a2 b0 b1;refine (hrs.out _ hI.out.bel).mono ?_;clear hrs;rintro e0 wk ⟨rfl,hbn⟩;replace hI:=Lib.hid ((hI.out.below hbn).below (below_alloc wk (.cells #[.int .i64 e1,.int .i64 e2] 36)));replace hr4:=Lib.hid ((hr4.out.below hbn).below (below_alloc wk (.cells #[.int .i64 e1,.int .i64 e2] 36)));clear hbn;(obtain⟨a0,a1,a2⟩:=hI.out.a.c3;obtain⟨b0,b1⟩:=hI.out.b.c2))
   |(go_at_call 12;clear a0 a1 a2 b0 b1;refine (hin.out _).mono ?_;rintro e0 w6 ⟨rfl,hbn⟩;(replace hI:=Lib.hid (hI.out.below hbn);replace hr4:=Lib.hid (hr4.out.below hbn);clear hbn;(obtain⟨a0,a1,a2⟩:=hI.out.a.c3;obtain⟨b0,b1⟩:=hI.out.b.c2)))
   |(go_at_call 13;clear a0 a1 a2 b0 b1;refine (hpr.out _ hI.out.bel).mono ?_;clear hpr;rintro e0 w7 ⟨rfl,hbn⟩;(replace hI:=Lib.hid (hI.out.below hbn);replace hr4:=Lib.hid (hr4.out.below hbn);clear hbn;(obtain⟨a0,a1,a2⟩:=hI.out.a.c3;obtain⟨b0,b1⟩:=hI.out.b.c2)))
   |(go_at_call 14;refine (hwi.out _).mono ?_;clear hwi;rintro e0 w8 ⟨rfl,rfl⟩)
   |(go_at_call 16;clear a0 a1 a2 b0 b1;refine (hnr.out _ hI.out.bel).mono ?_;clear hnr;rintro e0 w9 ⟨A9,c9,rfl,hr9,hbn⟩;(replace hI:=Lib.hid (hI.out.below hbn);replace hr4:=Lib.hid (hr4.out.below hbn);clear hbn;(obtain⟨a0,a1,a2⟩:=hI.out.a.c3;obtain⟨b0,b1⟩:=hI.out.b.c2));replace hr9:=Lib.hid hr9)
   |(go_at_call 15;clear a0 a1 a2 b0 b1;refine (IntsR_any A4 c4 A9 c9 zs _ hr4.out hr9.out hzl).mono ?_;clear hr9;rintro e0 w10 ⟨rfl,hbn⟩;(replace hI:=Lib.hid (hI.out.below hbn);replace hr4:=Lib.hid (hr4.out.below hbn);clear hbn;(obtain⟨a0,a1,a2⟩:=hI.out.a.c3;obtain⟨b0,b1⟩:=hI.out.b.c2))))
  go_ret
  exact⟨rfl,hI.out.bel⟩
 have hE:nbE s plot=(sectE s.name s.ps s.l).2.2:=by unfold nbE;rw[if_neg h0]
 have hR:nbR s plot=[]:=by unfold nbR;rw[hE,if_neg h0]
 have hE2:paE s q=(sectE s.name s.ps s.l).2.2:=by unfold paE;rw[if_neg h0]
 have hR2:paI s q=0:=by unfold paI;rw[hE2,if_neg h0]
 rw[hE,hR] at hnb
 rw[hE2,hR2] at hpa
 clear hE hR hE2 hR2 hS hin
 generalize sectE s.name s.ps s.l=E at *
 obtain⟨e1,e2,c⟩:=E
 dsimp only at h0 hrs hnb hpa
 have hc1:(c == 0)=false:=by simpa using h0
 have hc2:(c != 0)=true:=by simpa using h0
 go_wp2_with (first
  |(go_at_call 9;clear a0 a1 a2 b0 b1;refine (hnb.out _ hI.out.bel).mono ?_;clear hnb;rintro e0 w4 ⟨A4,c4,rfl,hr4,hbn⟩;replace hI:=Lib.hid (hI.out.below hbn);replace hr4:=Lib.hid hr4;clear hbn;(obtain⟨a0,a1,a2⟩:=hI.out.a.c3;obtain⟨b0,b1⟩:=hI.out.b.c2))
  |(go_at_call 10;clear a0 a1 a2 b0 b1;refine (hpa.out _ hI.out.bel).mono ?_;clear hpa;rintro e0 w5 ⟨rfl,hbn⟩;(replace hI:=Lib.hid (hI.out.below hbn);replace hr4:=Lib.hid (hr4.out.below hbn);clear hbn;(obtain⟨a0,a1,a2⟩:=hI.out.a.c3;obtain⟨b0,b1⟩:=hI.out.b.c2)))
  |(go_at_call 11;clear a0 a1 a2 b0 b1;refine (hrs.out _ hI.out.bel).mono ?_;clear hrs;rintro e0 wk ⟨rfl,hbn⟩;replace hI:=Lib.hid ((hI.out.below hbn).below (below_alloc wk (.cells #[.int .i64 e1,.int .i64 e2] 36)));replace hr4:=Lib.hid ((hr4.out.below hbn).below (below_alloc wk (.cells #[.int .i64 e1,.int .i64 e2] 36)));clear hbn;(obtain⟨a0,a1,a2⟩:=hI.out.a.c3;obtain⟨b0,b1⟩:=hI.out.b.c2))
  |(go_at_call 12;clear a0 a1 a2 b0 b1;refine (hin.out _).mono ?_;rintro e0 w6 ⟨rfl,hbn⟩;(replace hI:=Lib.hid (hI.out.below hbn);replace hr4:=Lib.hid (hr4.out.below hbn);clear hbn;(obtain⟨a0,a1,a2⟩:=hI.out.a.c3;obtain⟨b0,b1⟩:=hI.out.b.c2)))
  |(go_at_call 13;clear a0 a1 a2 b0 b1;refine (hpr.out _ hI.out.bel).mono ?_;clear hpr;rintro e0 w7 ⟨rfl,hbn⟩;(replace hI:=Lib.hid (hI.out.below hbn);replace hr4:=Lib.hid (hr4.out.below hbn);clear hbn;(obtain⟨a0,a1,a2⟩:=hI.out.a.c3;obtain⟨b0,b1⟩:=hI.out.b.c2)))
  |(go_at_call 14;refine (hwi.out _).mono ?_;clear hwi;rintro e0 w8 ⟨rfl,rfl⟩)
  |(go_at_call 16;clear a0 a1 a2 b0 b1;refine (hnr.out _ hI.out.bel).mono ?_;clear hnr;rintro e0 w9 ⟨A9,c9,rfl,hr9,hbn⟩;(replace hI:=Lib.hid (hI.out.below hbn);replace hr4:=Lib.hid (hr4.out.below hbn);clear hbn;(obtain⟨a0,a1,a2⟩:=hI.out.a.c3;obtain⟨b0,b1⟩:=hI.out.b.c2));replace hr9:=Lib.hid hr9)
  |(go_at_call 15;clear a0 a1 a2 b0 b1;refine (IntsR_any A4 c4 A9 c9 zs _ hr4.out hr9.out hzl).mono ?_;clear hr9;rintro e0 w10 ⟨rfl,hbn⟩;(replace hI:=Lib.hid (hI.out.below hbn);replace hr4:=Lib.hid (hr4.out.below hbn);clear hbn;(obtain⟨a0,a1,a2⟩:=hI.out.a.c3;obtain⟨b0,b1⟩:=hI.out.b.c2))))
 go_ret
 exact⟨by first | rfl | simp,hI.out.bel⟩
end Go.Proofs.YthfokpchdlcidaaGreat
