/- What the statements rest on: definitions and walks, part 24. -/
import Derived.Test.YthfokpchdlcidaaGreatJ23
set_option maxRecDepth 100000
set_option maxHeartbeats 16000000
set_option linter.unusedSimpArgs false
set_option linter.unusedVariables false
namespace Go.Proofs.YthfokpchdlcidaaGreat
open Go Go.RowKit Go.Shelf
def psOf (l:List Plo) (i:Nat):List Pt:=(l[i]?.map Plo.ps).getD []
theorem psOf_get {l:List Plo} {i:Nat} (h:i<l.length):psOf l i=l[i].ps:=by unfold psOf;rw[List.getElem?_eq_getElem h];rfl
def nbG (l:List Plo) (p i:Nat):Bool:=Cal.nbB (psOf l p) (psOf l i)
def nbE (s:Sct) (plot:Int):Int:=if (sectE s.name s.ps s.l).2.2=0 then (if 0≤plot∧plot<(s.l.length:Int) then 0 else 6) else (sectE s.name s.ps s.l).2.2
def nbR (s:Sct) (plot:Int):List Int:=if nbE s plot=0 then Cal.nbL s.l.length (nbG s.l plot.toNat) plot.toNat else []
theorem borderN_any (Va Vb:Option Addr) (da db:Nat) (us vs:List Pt) (w:World) (hA:Pts w Va us) (hB:Pts w Vb vs) (hla:us.length≤40) (hlb:vs.length≤40) :
  Calls Tryz.prog 42 #[.slice Va us.length da,.slice Vb vs.length db] w fun e w'=>∃ A5 c5,e=.returned (.slice A5 (Cal.borderP us vs).length c5)∧Below w.heap.size w w':=by
 refine (border_any Va Vb da db us vs w hA hB hla hlb).mono ?_
 rintro e w' ⟨v,rfl,hO,hb⟩
 obtain⟨A5,c5,rfl,_⟩:=OwnL.form hO
 rw[List.length_map]
 exact⟨A5,c5,rfl,hb⟩
theorem Neighbours_any (s:Sct) (plot:Int) (w:World) (hS:SctR w s) :
  Calls Tryz.prog 9 #[.agg #[.string s.name,.slice s.V s.ps.length s.d,.slice s.S s.l.length s.e],.int .i64 plot] w fun e w'=>∃ v,e=.returned (.tuple #[v,.int .i64 (nbE s plot)])∧IntsL w' w.heap.size v (nbR s plot)∧Below w.heap.size w w':=by
 have hI:Hid (GpI w s (w.alloc (.cells #[.string s.name,.slice s.V s.ps.length s.d,.slice s.S s.l.length s.e] 25))):=⟨BoxAt.new w #[.string s.name,.slice s.V s.ps.length s.d,.slice s.S s.l.length s.e] 25,below_alloc _ _⟩
 have hcs:=Lib.hid (fun W (hW:GpI w s W)=>CheckSection_any s W (hS.below hW.bel))
 by_cases h0:(sectE s.name s.ps s.l).2.2=0
 ·have hz:=sectE_zero h0
  have hPl:Hid (∀ p∈s.l,Plg w p.V p.ps):=fun p hp=>by
   obtain⟨k,hk,rfl⟩:=List.getElem_of_mem hp
   have h3:=(plotE_zero (hz.2.2.2 k hk)).2.2.1
   exact (hS.plots.pts _ hp).plg h3 (few_ok (hS.fews _ hp) h3)
  have hl60:=hz.2.2.1
  have hrows:=Lib.hid hS.plots.rows
  by_cases hp:0≤plot∧plot<(s.l.length:Int)
  ·have hE:nbE s plot=0:=by unfold nbE;rw[if_pos h0,if_pos hp]
   have hR:nbR s plot=Cal.nbL s.l.length (nbG s.l plot.toNat) plot.toNat:=by unfold nbR;rw[if_pos hE]
   obtain⟨q,rfl⟩:∃ q:Nat,plot=q:=⟨plot.toNat,by omega⟩
   rw[hE,hR,Int.toNat_natCast]
   obtain⟨R,hRR⟩:∃ R,sectE s.name s.ps s.l=R:=⟨_,rfl⟩
   rw[hRR] at h0 hcs
   obtain⟨R1,R2,R3⟩:=R
   dsimp only at h0 hcs
   subst h0
   obtain⟨hq0,hq1⟩:=hp
   have hq:q<s.l.length:=by omega
   have hq2:¬s.l.length≤q:=by omega
   have hq3:¬(q:Int)<0:=by omega
   have hq4:¬(s.l.length:Int)≤(q:Int):=by omega
   clear hz hRR hS hE hR
   obtain⟨nm,V,d,ps,S,e,l⟩:=s
   dsimp only at *
   have hqk:=Lib.hid (List.getElem?_eq_getElem hq)
   have hqg:=Lib.hid (psOf_get hq)
   have hqP:=Lib.hid (hPl.out _ (List.getElem_mem hq))
   generalize hpq0:l[q]=pq at *
   clear hpq0
   (obtain⟨a0,a1,a2⟩:=hI.out.a.c3)
   go_enter Tryz.func9,Tryz.ntmps9
   go_wp2_with (go_at_call 41;clear a0 a1 a2;refine (hcs.out _ hI.out).mono ?_;clear hcs;rintro e0 wn ⟨rfl,hbn⟩;replace hI:=Lib.hid ((hI.out.below hbn).below (below_alloc wn (.cells #[.int .i64 R1,.int .i64 R2] 36)));clear hbn;(obtain⟨a0,a1,a2⟩:=hI.out.a.c3))
   clear a0 a1 a2
   go_loopw [8,31] (fun ov i wr=>∃ (k:Nat) (v:Value),k≤l.length∧i=.int .i64 k∧ov=v∧Hid (IntsL wr (w.heap.size+1) v (Cal.nbL k (nbG l q) q))∧Hid (GpI w _ wr)) (fun _ i _=>l.length-(intOf i).toNat)
   case atStart=>exact⟨0,_,Nat.zero_le _,rfl,rfl,OwnL.nil _ _ _ _,hI⟩
   case round =>
    clear hI
    obtain⟨k,v,hk,rfl,rfl,hO,hI⟩:=hrel
    by_cases hlt:k<l.length
    ·have hk':l[k]?=some l[k]:=List.getElem?_eq_getElem hlt
     have hg:=psOf_get hlt
     have hpP:=Lib.hid (hPl.out _ (List.getElem_mem hlt))
     have hki:(k:Int)<(l.length:Int):=by omega
     have hnl:=Cal.nbL_len k (nbG l q) q
     generalize l[k]=p at *
     obtain⟨b,o,hA,hbl,c0,c1⟩:=plo_at (hrows.out.below hI.out.bel) hk'
     obtain⟨b',o',hA',hbl',d0,d1⟩:=plo_at (hrows.out.below hI.out.bel) hqk.out
     subst hA
     cases hA'
     have hX:=Lib.hid (hI.out.below (below_alloc wr (.cells #[.string p.name,.slice p.V p.ps.length p.d] 74)))
     have hOX:=Lib.hid (hO.out.below (below_alloc wr (.cells #[.string p.name,.slice p.V p.ps.length p.d] 74)))
     have x2:=hX.out.a.c 2 _ rfl
     have y1:=(below_alloc wr (.cells #[.string p.name,.slice p.V p.ps.length p.d] 74)).cell (p:=⟨b,o+q*2+1,none⟩) hbl'
     rw[d1] at y1
     have z1:=(BoxAt.new wr #[.string p.name,.slice p.V p.ps.length p.d] 74).c 1 _ rfl
     by_cases hkq:k=q
     ·subst hkq
      have hnx:Hid (Cal.nbL (k+1) (nbG l k) k=Cal.nbL k (nbG l k) k):=Cal.nbL_no (Or.inl rfl)
      clear hk' d0 d1
      go_wp2_with fail
      clear c1
      refine wp_region_held_drew (S:=Sx (wr.alloc (.cells #[.string p.name,.slice p.V p.ps.length p.d] 74)) []) (by kernel_rfl) (Sx.mk (cs_nil _) (Below.refl _ _)).drew (fun hHeld=>?_)
      clear x2 y1 z1 c0
      refine tkHx 0 36 ?_
      refine tkHx 1 37 ?_
      refine tkHx 2 38 ?_
      refine tkHx 3 39 ?_
      refine tkFx 4 40 ?_
      refine tkFx 5 41 ?_
      refine tkFx 6 42 ?_
      refine tkFx 7 43 ?_
      refine tkFx 8 44 ?_
      refine tkFx 9 45 ?_
      refine tkFx 10 46 ?_
      refine tkFx 11 47 ?_
      refine tkFx 12 48 ?_
      refine tkFx 13 49 ?_
      refine tkFx 14 50 ?_
      refine tkHx 15 51 ?_
      refine wpAnyH_done (by kernel_rfl) ?_ _
      (try simp only[apS,apN,siA,scZ,scS])
      replace hI:=Lib.hid (hX.out.below hHeld.bel)
      replace hO:=Lib.hid (hOX.out.below hHeld.bel)
      clear hHeld hX hOX
      go_wp2_with fail
      go_roundw
      case rel=>exact⟨k+1,_,by omega,by go_num,rfl,by rw[hnx.out];exact hO,hI⟩
      case measure=>simp[intOf];omega
     have hkb:((k:Int) == (q:Int))=false:=by simp;omega
     have hkc:¬(k:Int)=(q:Int):=by omega
     have hkd:((k:Int) != (q:Int))=true:=by simp;omega
     have hkn:(k:Int)≠(q:Int):=by omega
     have hbd:=Lib.hid (fun W (hb:Below w.heap.size w W)=>borderN_any pq.V p.V pq.d p.d pq.ps p.ps W ((hqP.out.below hb).v.pts) ((hpP.out.below hb).v.pts) (by have:=hqP.out.len;omega) (by have:=hpP.out.len;omega))
     have hng:nbG l q k=decide (0<(Cal.borderP pq.ps p.ps).length):=by unfold nbG Cal.nbB;rw[hqg.out,hg]
     generalize (Cal.borderP pq.ps p.ps).length=m at *
     have hbw:=Lib.hid hX.out.bel
     clear hk' d0 d1 hg
     go_wp2_with fail
     clear c1
     refine wp_region_held_drew (S:=Sx (wr.alloc (.cells #[.string p.name,.slice p.V p.ps.length p.d] 74)) [(w.heap.size,2,.slice (some ⟨b,o,none⟩) l.length e),(b,o+q*2+1,.slice pq.V pq.ps.length pq.d),(wr.heap.size,1,.slice p.V p.ps.length p.d)]) (by kernel_rfl) (Sx.mk (by simp only[cs_iff_cons];exact⟨x2,y1,z1,cs_nil _⟩) (Below.refl _ _)).drew (fun hHeld=>?_)
     clear x2 y1 z1 c0
     refine tkHx 0 36 ?_
     refine tkHx 1 37 ?_
     refine tkHx 2 38 ?_
     refine tkHx 3 39 ?_
     refine tkHx 4 40 ?_
     refine tkHx 5 41 ?_
     refine tkHx 6 42 ?_
     refine tkHx 7 43 ?_
     refine tkHx 8 44 ?_
     refine tkHx 9 45 ?_
     refine tkHx 10 46 ?_
     refine tkHx 11 47 ?_
     (refine ratHx 12 (fun K hK=>?_);go_simp)
     refine (hbd.out _ (hbw.out.trans (hHeld.bel.mono hbw.out.size))).mono ?_
     rintro e0 wn ⟨A5,c5,rfl,hbn⟩
     go_simp
     (refine hK.out _ _ (hHeld.step hbn) (fun hHeld=>?_);clear hK K;(try simp only[apS,apN,siA,scZ,scS]))
     refine tkHx 13 49 ?_
     refine tkHx 14 50 ?_
     refine tkHx 15 51 ?_
     refine wpAnyH_done (by kernel_rfl) ?_ _
     (try simp only[apS,apN,siA,scZ,scS])
     replace hI:=Lib.hid (hX.out.below hHeld.bel)
     replace hO:=Lib.hid (hOX.out.below hHeld.bel)
     clear hHeld hX hOX hbw hbd
     by_cases hm:0<m
     ·have hnx:Hid (Cal.nbL (k+1) (nbG l q) q=Cal.nbL k (nbG l q) q ++ [(k:Int)]):=Cal.nbL_yes hkq (by rw[hng];exact decide_eq_true hm)
      have hmi:(0:Int)<(m:Int):=by omega
      have hwz:w.heap.size+1≤wn.heap.size:=hI.out.a.lt
      have hsz:(Cal.nbL k (nbG l q) q).length≤1000000:=by omega
      have hbT:=Lib.hid hI.out
      clear hng
      go_wp2_with (at_builtin;refine wpPushI (k:Int) hO.out hwz hsz rfl _ _ rfl rfl rfl ?_;intro v' w6 hown6 hb6;have hO2:=Lib.hid hown6;have hI2:=Lib.hid (show GpI w _ w6 from ⟨hbT.out.a.belowN hb6 (Nat.lt_succ_self _),hbT.out.bel.trans (hb6.mono (Nat.le_succ _))⟩);clear hown6 hb6)
      go_roundw
      case rel=>exact⟨k+1,_,by omega,by go_num,rfl,by rw[hnx.out];exact hO2,hI2⟩
      case measure=>simp[intOf];omega
     have hnx:Hid (Cal.nbL (k+1) (nbG l q) q=Cal.nbL k (nbG l q) q):=Cal.nbL_no (Or.inr (by rw[hng];exact decide_eq_false hm))
     have hmi:¬(0:Int)<(m:Int):=by omega
     clear hng
     go_wp2_with fail
     go_roundw
     case rel=>exact⟨k+1,_,by omega,by go_num,rfl,by rw[hnx.out];exact hO,hI⟩
     case measure=>simp[intOf];omega
    obtain rfl:k=l.length:=by omega
    go_wp2_with fail
    go_ret2
    exact⟨_,rfl,OwnL.less hO.out (Nat.le_succ _),hI.out.bel⟩
  have hE:nbE s plot=6:=by unfold nbE;rw[if_pos h0,if_neg hp]
  have hR:nbR s plot=[]:=by unfold nbR;rw[hE];rfl
  rw[hE,hR]
  obtain⟨R,hRR⟩:∃ R,sectE s.name s.ps s.l=R:=⟨_,rfl⟩
  rw[hRR] at h0 hcs
  obtain⟨R1,R2,R3⟩:=R
  dsimp only at h0 hcs
  subst h0
  clear hz hRR hS hE hR hPl hrows
  obtain⟨nm,V,d,ps,S,e,l⟩:=s
  dsimp only at *
  (obtain⟨a0,a1,a2⟩:=hI.out.a.c3)
  by_cases h1:plot<0
  ·clear hp
   go_enter Tryz.func9,Tryz.ntmps9
   go_wp2_with (go_at_call 41;clear a0 a1 a2;refine (hcs.out _ hI.out).mono ?_;clear hcs;rintro e0 wn ⟨rfl,hbn⟩;replace hI:=Lib.hid ((hI.out.below hbn).below (below_alloc wn (.cells #[.int .i64 R1,.int .i64 R2] 36)));clear hbn;(obtain⟨a0,a1,a2⟩:=hI.out.a.c3))
   go_ret2
   exact⟨_,rfl,OwnL.nil _ _ _ _,hI.out.bel⟩
  have h2:(l.length:Int)≤plot:=by omega
  clear hp
  go_enter Tryz.func9,Tryz.ntmps9
  go_wp2_with (go_at_call 41;clear a0 a1 a2;refine (hcs.out _ hI.out).mono ?_;clear hcs;rintro e0 wn ⟨rfl,hbn⟩;replace hI:=Lib.hid ((hI.out.below hbn).below (below_alloc wn (.cells #[.int .i64 R1,.int .i64 R2] 36)));clear hbn;(obtain⟨a0,a1,a2⟩:=hI.out.a.c3))
  go_ret2
  exact⟨_,rfl,OwnL.nil _ _ _ _,hI.out.bel⟩
 have hE:nbE s plot=(sectE s.name s.ps s.l).2.2:=by unfold nbE;rw[if_neg h0]
 have hR:nbR s plot=[]:=by unfold nbR;rw[hE,if_neg h0]
 rw[hE,hR]
 clear hE hR hS
 generalize sectE s.name s.ps s.l=R at *
 obtain⟨R1,R2,R3⟩:=R
 dsimp only at h0 hcs ⊢
 (obtain⟨a0,a1,a2⟩:=hI.out.a.c3)
 go_enter Tryz.func9,Tryz.ntmps9
 go_wp2_with (go_at_call 41;clear a0 a1 a2;refine (hcs.out _ hI.out).mono ?_;clear hcs;rintro e0 wn ⟨rfl,hbn⟩;replace hI:=Lib.hid ((hI.out.below hbn).below (below_alloc wn (.cells #[.int .i64 R1,.int .i64 R2] 36)));clear hbn;(obtain⟨a0,a1,a2⟩:=hI.out.a.c3))
 go_ret2
 exact⟨_,rfl,OwnL.nil _ _ _ _,hI.out.bel⟩
end Go.Proofs.YthfokpchdlcidaaGreat
namespace Go.Proofs.YthfokpchdlcidaaGreat
open Go Go.RowKit Go.Shelf
theorem IntsR_any (V:Option Addr) (d:Nat) (V2:Option Addr) (d2:Nat) (l:List Int) (w:World) (hA:RowsAt w V 1 (intRows l)) (hB:RowsAt w V2 1 (intRows l)) (hl:l.length≤1000000) :
  Calls Tryz.prog 15 #[.slice V l.length d,.slice V2 l.length d2] w fun e w'=>e=.returned (.bool true)∧Below w.heap.size w w':=by
 have hb0:Hid (Below w.heap.size w w):=Below.refl _ _
 replace hA:=Lib.hid hA
 replace hB:=Lib.hid hB
 go_enter Tryz.func15,Tryz.ntmps15
 go_wp2_with fail
 go_loopw [5] (fun kv wr=>∃ k:Nat,k≤l.length∧kv=.int .i64 k∧Hid (Below w.heap.size w wr)) (fun kv _=>l.length-(intOf kv).toNat)
 case atStart=>exact⟨0,Nat.zero_le _,rfl,hb0⟩
 case round =>
  clear hb0
  obtain⟨k,hk,rfl,hb⟩:=hrel
  by_cases hlt:k<l.length
  ·obtain⟨b1,o1,rfl,_,a0⟩:=intsI_at (hA.out.below hb.out) hlt
   obtain⟨b2,o2,rfl,_,c0⟩:=intsI_at (hB.out.below hb.out) hlt
   have hki:(k:Int)<(l.length:Int):=by omega
   generalize l[k]=q at *
   go_wp2_with fail
   refine wp_region_held_drew (S:=Sx wr [(b1,o1+k,.int .i64 q),(b2,o2+k,.int .i64 q)]) (by kernel_rfl) (Sx.mk (by simp only[cs_iff_cons];exact⟨a0,c0,cs_nil _⟩) (Below.refl _ _)).drew (fun hHeld=>?_)
   clear a0 c0
   refine tkHx 0 17 ?_
   refine tkHx 1 18 ?_
   refine tkHx 2 19 ?_
   refine tkHx 3 20 ?_
   refine tkHx 4 21 ?_
   refine tkHx 5 22 ?_
   refine tkHx 6 23 ?_
   refine tkHx 7 24 ?_
   refine tkHx 8 25 ?_
   refine wpAnyH_done (by kernel_rfl) ?_ _
   (try simp only[apS,apN,siA,scZ,scS])
   have hbe:=Lib.hid (hb.out.trans (hHeld.bel.mono hb.out.size))
   clear hHeld
   go_wp2_with fail
   go_roundw
   case rel=>exact⟨k+1,by omega,by go_num,hbe⟩
   case measure=>simp[intOf];omega
  go_wp2_with fail
  go_ret
  exact⟨rfl,hb.out⟩
end Go.Proofs.YthfokpchdlcidaaGreat
