/- What the statements rest on: definitions and walks, part 33. -/
import Derived.Test.YthfokpchdlcidaaGreatJ32
set_option maxRecDepth 100000
set_option maxHeartbeats 16000000
set_option linter.unusedSimpArgs false
set_option linter.unusedVariables false
namespace Go.Proofs.YthfokpchdlcidaaGreat
open Go Go.RowKit Go.Shelf Go.Sort
theorem elemPlo:Elem Tryz.prog 23 74 2 40:=Elem.mk' Tryz.underlying23 (z:=.agg #[.string ⟨#[]⟩,.slice none 0 0]) (by kernel_rfl) rfl (by decide)
theorem plo_wid (l:List Plo):∀ r∈l.map Plo.cells,r.length=2:=fun r hr=>by obtain⟨s,_,rfl⟩:=List.mem_map.1 hr;rfl
theorem plo_one (l:List Plo):∀ r∈l.map Plo.cells,∀ u∈r,u.oneCell'=true:=fun r hr u hu=>by
 obtain⟨s,_,rfl⟩:=List.mem_map.1 hr
 simp only[Plo.cells,List.mem_cons,List.not_mem_nil,or_false] at hu
 rcases hu with rfl | rfl <;> rfl
structure TrI (wm:World) (s:Sct) (v:Value) (acc:List Plo) (W:World):Prop where
 bel:Below wm.heap.size wm W
 m:BoxAt W wm.heap.size [.string s.name,.slice s.V s.ps.length s.d,v]
 o:OwnL W (wm.heap.size+1) 74 2 v (acc.map Plo.cells)
theorem TrI.below {wm:World} {s:Sct} {v:Value} {acc:List Plo} {X Y:World} (h:TrI wm s v acc X) (hb:Below X.heap.size X Y):TrI wm s v acc Y:=⟨below_step h.bel hb,h.m.below hb,OwnL.below h.o hb⟩
abbrev ImgTo (A:Option Addr) (c:Nat) (l:List Rn) (zs rs:List Cal.Txt) (E:Int):Prop:=∀ N d W,RowsAt W A 2 (l.map rnR)→RowsAt W N 1 (txtRows zs)→Calls Tryz.prog 33 #[.slice A l.length c,.slice N zs.length d] W fun e w'=>∃ A' c',e=.returned (.tuple #[.slice A' rs.length c',.int .i64 E])∧RowsAt w' A' 1 (txtRows rs)∧(∀ a,A'=some a→W.heap.size≤a.block)∧Below W.heap.size W w'
theorem img_to {A:Option Addr} {c:Nat} {l:List Rn} {zs:List Cal.Txt} (hl:LenR l) (hz:zs.length≤1000000) (hm:∀ x∈zs,x.length≤maxLen):ImgTo A c l zs (Cal.imgR l zs) (Cal.imgE l zs):=fun N d W h1 h2=>by
 refine (gImages_any A c l N d zs W (hl.rns h1) ⟨h2,hz,hm⟩).mono ?_
 rintro e w' ⟨v,rfl,hO,hb'⟩
 obtain⟨A4,c4,rfl,hr⟩:=hO.rows
 exact⟨A4,c4,rfl,hr,fun a ea=>(OwnL.lt hO a.block (by rw[ea];rfl)).1,hb'⟩
structure TrJ (W0:World) (Bm:Nat) (s2:Sct) (W:World):Prop where
 m:BoxAt W Bm [.string s2.name,.slice s2.V s2.ps.length s2.d,.slice s2.S s2.l.length s2.e]
 bel:Below W0.heap.size W0 W
theorem TrJ.below {W0:World} {Bm:Nat} {s2:Sct} {X Y:World} (h:TrJ W0 Bm s2 X) (hb:Below X.heap.size X Y):TrJ W0 Bm s2 Y:=⟨h.m.below hb,below_step h.bel hb⟩
theorem name_rows (wr:World) (nm:ByteArray):RowsAt (wr.alloc (.cells #[.string nm] 9)) (some ⟨wr.heap.size,0,none⟩) 1 (txtRows [nm.toList]):=by
 rw[show txtRows [nm.toList]=[[.string nm]] from by unfold txtRows;rw[List.map_singleton,encStr_of rfl]]
 exact rowsAt_new wr [.string nm] 9
theorem TopRenumbered_any (s:Sct) (A:Option Addr) (c:Nat) (l:List Rn) (w:World) (hO:SctO w s) (hR:RowsAt w A 2 (l.map rnR)) (hv:∀ p∈l,p.old.length≤maxLen∧p.new.length≤maxLen) :
  Calls Tryz.prog 6 #[.agg #[.string s.name,.slice s.V s.ps.length s.d,.slice s.S s.l.length s.e],.slice A l.length c] w fun e w'=>e=.returned (.bool true)∧Below w.heap.size w w':=by
 have hG:Hid (GpI w s (w.alloc (.cells #[.string s.name,.slice s.V s.ps.length s.d,.slice s.S s.l.length s.e] 25))):=⟨BoxAt.new w #[.string s.name,.slice s.V s.ps.length s.d,.slice s.S s.l.length s.e] 25,below_alloc _ _⟩
 have hsm:=Lib.hid (fun W (hb:Below w.heap.size w W)=>Small_any s W (hO.prow.below hb))
 have hrs:=Lib.hid (fun W (hb:Below w.heap.size w W)=>CheckSectionO_any s W (hO.below hb))
 replace hO:=Lib.hid hO
 have hL:=Lib.hid hR
 clear hR
 generalize hE:sectE s.name s.ps s.l=E at *
 obtain⟨e1,e2,cc⟩:=E
 dsimp only at *
 replace hE:=Lib.hid hE
 (obtain⟨a0,a1,a2⟩:=hG.out.a.c3)
 go_enter Tryz.func6,Tryz.ntmps6
 go_wp2_with (first
  |(go_at_call 32;clear a0 a1 a2;refine (surveyed_any _).mono ?_;rintro e0 wn ⟨rfl,hbn⟩;(replace hG:=Lib.hid (hG.out.below hbn);clear hbn;(obtain⟨a0,a1,a2⟩:=hG.out.a.c3)))
  |(go_at_call 11;clear a0 a1 a2;refine (hrs.out _ hG.out.bel).mono ?_;clear hrs;rintro e0 wk ⟨rfl,hbn⟩;replace hG:=Lib.hid ((hG.out.below hbn).below (below_alloc wk (.cells #[.int .i64 e1,.int .i64 e2] 36)));clear hbn;(obtain⟨a0,a1,a2⟩:=hG.out.a.c3))
  |(go_at_call 19;clear a0 a1 a2;refine (hrc.out _ (hL.out.below hG.out.bel)).mono ?_;clear hrc;rintro e0 wk ⟨rfl,hbn⟩;(replace hG:=Lib.hid (hG.out.below hbn);clear hbn;(obtain⟨a0,a1,a2⟩:=hG.out.a.c3)))
  |(go_at_call 20;clear a0 a1 a2;refine (htn.out _ _ _ (hL.out.below hG.out.bel)).mono ?_;clear htn;rintro e0 wk ⟨A7,c7,rfl,hr7,hbn⟩;replace hr7:=Lib.hid hr7;(replace hG:=Lib.hid (hG.out.below hbn);clear hbn;(obtain⟨a0,a1,a2⟩:=hG.out.a.c3))))
 clear a0 a1 a2
 refine (hsm.out _ hG.out.bel).mono ?_
 clear hsm
 rintro e0 wm ⟨bs,rfl,hf,hbn⟩
 replace hG:=Lib.hid (hG.out.below hbn)
 clear hbn
 (obtain⟨a0,a1,a2⟩:=hG.out.a.c3)
 cases bs
 ·clear hO hf
  go_wp2_with fail
  go_ret
  exact⟨rfl,hG.out.bel⟩
 have hS:=Lib.hid (hO.out.sct (hf rfl))
 clear hf hO
 by_cases h0:cc=0
 ·subst h0
  by_cases hll:20<l.length
  ·have hli:20<(l.length:Int):=by omega
   go_wp2_with fail
   go_ret
   exact⟨rfl,hG.out.bel⟩
  have hli:¬20<(l.length:Int):=by omega
  have la:LenR l:=⟨by omega,hv⟩
  have hrc:Hid (∀ W,RowsAt W A 2 (l.map rnR)→Calls Tryz.prog 19 #[.slice A l.length c] W fun e w'=>e=.returned (.int .i64 (Cal.numE l))∧Below W.heap.size W w'):=fun W hr=>CheckNumbersR_any A c l W (la.rns hr)
  by_cases hn0:Cal.numE l=0
  ·rw[hn0] at hrc
   have htn:=Lib.hid (trn_good la hn0)
   have lt:=la.turn
   have htg:=Cal.turnR_good hn0
   replace la:=Lib.hid la
   replace lt:=Lib.hid lt
   replace hn0:=Lib.hid hn0
   replace htg:=Lib.hid htg
   clear hv
   go_wp2_with fail
   go_wp2_with (first
    |(go_at_call 32;clear a0 a1 a2;refine (surveyed_any _).mono ?_;rintro e0 wn ⟨rfl,hbn⟩;(replace hG:=Lib.hid (hG.out.below hbn);clear hbn;(obtain⟨a0,a1,a2⟩:=hG.out.a.c3)))
    |(go_at_call 11;clear a0 a1 a2;refine (hrs.out _ hG.out.bel).mono ?_;clear hrs;rintro e0 wk ⟨rfl,hbn⟩;replace hG:=Lib.hid ((hG.out.below hbn).below (below_alloc wk (.cells #[.int .i64 e1,.int .i64 e2] 36)));clear hbn;(obtain⟨a0,a1,a2⟩:=hG.out.a.c3))
    |(go_at_call 19;clear a0 a1 a2;refine (hrc.out _ (hL.out.below hG.out.bel)).mono ?_;clear hrc;rintro e0 wk ⟨rfl,hbn⟩;(replace hG:=Lib.hid (hG.out.below hbn);clear hbn;(obtain⟨a0,a1,a2⟩:=hG.out.a.c3)))
    |(go_at_call 20;clear a0 a1 a2;refine (htn.out _ _ _ (hL.out.below hG.out.bel)).mono ?_;clear htn;rintro e0 wk ⟨A7,c7,rfl,hr7,hbn⟩;replace hr7:=Lib.hid hr7;(replace hG:=Lib.hid (hG.out.below hbn);clear hbn;(obtain⟨a0,a1,a2⟩:=hG.out.a.c3))))
   clear a0 a1 a2
   have hT:=hr7
   clear hr7
   have hz:=sectE_zero (name:=s.name) (ps:=s.ps) (l:=s.l) (by rw[hE.out])
   have hnames:Hid (∀ k (h:k<s.l.length),nmT s.l[k].name.toList=true):=fun k h=>by
    rw[nmT_of]
    exact (plotE_zero (hz.2.2.2 k h)).1
   have hl60:=hz.2.2.1
   have hrows:=Lib.hid (hS.out.plots.rows.below hG.out.bel)
   have hnm:=Lib.hid hS.out.plots.nm
   clear hz
   obtain⟨nm,V,d,ps,S,e,pl⟩:=s
   dsimp only at *
   have hI0:Hid (TrI wk ⟨nm,V,d,ps,S,e,pl⟩ (.slice none 0 0) [] (wk.alloc (.cells #[.string nm,.slice V ps.length d,.slice none 0 0] 25))):=⟨below_alloc _ _,BoxAt.new wk #[.string nm,.slice V ps.length d,.slice none 0 0] 25,OwnL.nil _ _ _ _⟩
   have hR0:=Lib.hid (RenI.nil l pl)
   go_loopw [10] (fun i wr=>∃ (v:Value) (acc:List Plo),acc.length≤pl.length∧i=.int .i64 acc.length∧Hid (RenI l pl acc)∧Hid (TrI wk ⟨nm,V,d,ps,S,e,pl⟩ v acc wr)) (fun i _=>pl.length-(intOf i).toNat)
   case atStart=>exact⟨_,[],Nat.zero_le _,rfl,hR0,hI0⟩
   case round =>
    clear hI0 hR0
    obtain⟨v,acc,hk,rfl,hRn,hI⟩:=hrel
    by_cases hlt:acc.length<pl.length
    ·have hk':pl[acc.length]?=some pl[acc.length]:=List.getElem?_eq_getElem hlt
     obtain⟨b,o,rfl,hbl,c0,c1⟩:=plo_at hrows.out hk'
     have hsn:=Lib.hid (fun q h1 h2 h3=>hRn.out.snoc (q:=q) hlt h1 h2 h3)
     have hx:=hnames.out _ hlt
     have hnl:=hnm.out _ (List.getElem_mem hlt)
     have hki:(acc.length:Int)<(pl.length:Int):=by omega
     clear hk'
     generalize pl[acc.length]=p at *
     have hrow0:=Lib.hid (fun W (hW:Below wk.heap.size wk W)=>(hW.cell (p:=⟨b,o+acc.length*2,none⟩) hbl).trans c0)
     have hrow1:=Lib.hid (fun W (hW:Below wk.heap.size wk W)=>(hW.cell (p:=⟨b,o+acc.length*2+1,none⟩) hbl).trans c1)
     have hnw:=Lib.hid (name_rows wr p.name)
     obtain⟨hE1,hR1⟩:=img_one hn0.out hx
     have him:Hid (∀ N d W,RowsAt W A 2 (l.map rnR)→RowsAt W N 1 (txtRows [p.name.toList])→Calls Tryz.prog 33 #[.slice A l.length c,.slice N 1 d] W fun e w'=>∃ A' c',e=.returned (.tuple #[.slice A' (Cal.imgR l [p.name.toList]).length c',.int .i64 (Cal.imgE l [p.name.toList])])∧RowsAt w' A' 1 (txtRows (Cal.imgR l [p.name.toList]))∧(∀ a,A'=some a→W.heap.size≤a.block)∧Below W.heap.size W w'):=fun N d W h1 h2=>img_to la.out (by rw[List.length_singleton];decide) (fun x hx=>by rw[List.mem_singleton.1 hx,←size_len (a:=p.name) rfl];exact hnl) N d W h1 h2
     clear c0 c1
     (have a2:=(hG.out.below hI.out.bel).a.c 2 _ rfl;have c0:=hrow0.out _ hI.out.bel;have c1:=hrow1.out _ hI.out.bel)
     have hI9:=Lib.hid hI.out.o
     replace hI:=Lib.hid (hI.out.below (below_alloc wr (.cells #[.string p.name] 9)))
     cases hkn:Cal.knownT l p.name.toList
     ·rw[hkn] at hE1
      rw[hE1] at him
      clear hE1 hR1 hkn hsn hx
      generalize Cal.imgR l [p.name.toList]=zs at *
      go_wp2_with (first
       |(go_at_call 33;clear a2 c0 c1;first
        |(with_reducible refine (him.out _ _ _ (hL.out.below (hG.out.bel.trans (hI.out.bel.mono hG.out.bel.size))) hnw.out).mono ?_;clear him hnw;rintro e0 wn ⟨A11,c11,rfl,hr11,h11,hbn⟩;replace hr11:=Lib.hid hr11;replace h11:=Lib.hid h11;replace hI:=Lib.hid (hI.out.below hbn);clear hbn;(have a2:=(hG.out.below hI.out.bel).a.c 2 _ rfl;have c0:=hrow0.out _ hI.out.bel;have c1:=hrow1.out _ hI.out.bel))
        |(with_reducible refine (him2.out _ _ _ (hT.out.below hI.out.bel) hr11.out).mono ?_;clear him2;rintro e0 wn ⟨A13,c13,rfl,hr13,_,hbn⟩;replace hr13:=Lib.hid hr13;replace hr11:=Lib.hid (hr11.out.below hbn);replace hI:=Lib.hid (hI.out.below hbn);clear hbn;(have a2:=(hG.out.below hI.out.bel).a.c 2 _ rfl;have c0:=hrow0.out _ hI.out.bel;have c1:=hrow1.out _ hI.out.bel)))
       |(go_at_call 31;clear a2 c0 c1;refine (hht.out _ _ _ hr13.out).mono ?_;clear hht;rintro e0 wn ⟨rfl,hbn⟩;replace hr13:=Lib.hid (hr13.out.below hbn);replace hr11:=Lib.hid (hr11.out.below hbn);replace hI:=Lib.hid (hI.out.below hbn);clear hbn;(have a2:=(hG.out.below hI.out.bel).a.c 2 _ rfl;have c0:=hrow0.out _ hI.out.bel;have c1:=hrow1.out _ hI.out.bel)))
      go_ret
      exact⟨rfl,hG.out.bel.trans (hI.out.bel.mono hG.out.bel.size)⟩
     rw[hkn] at hE1
     rw[hE1,hR1 hkn] at him
     have hbk:=Lib.hid (fun y hy=>img_back (x:=p.name.toList) (y:=y) hn0.out hy)
     clear hE1 hR1 hkn hx
     generalize hzs:Cal.tups (Cal.newsOf l p.name.toList)=zs at *
     clear hzs
     by_cases hz1:zs.length=1
     ·have hz2:(zs.length:Int)=1:=by omega
      have hz3:(0:Int)<(zs.length:Int):=by omega
      have hz0:0<zs.length:=by omega
      obtain⟨hm1,hny,hky,hxb⟩:=hbk.out _ (List.getElem_mem hz0)
      have hzz:zs=[zs[0]]:=by
       match zs,hz1 with
       | [y],_=>rfl
      have hylen:zs[0].length≤maxLen:=(la.out.2 _ hm1).2
      obtain⟨hE2,hR2⟩:=img_one htg.out hny
      rw[hky] at hE2
      replace hR2:=hR2 hky
      rw[←hzz] at hE2 hR2
      have him2:=img_to (A:=A7) (c:=c7) (zs:=zs) lt.out (by omega) (fun x hx=>by rw[hzz,List.mem_singleton] at hx;rw[hx];exact hylen)
      rw[hE2,hR2] at him2
      unfold ImgTo at him2
      rw[hz1] at him2
      replace him2:=Lib.hid him2
      have hht:Hid (∀ N d W,RowsAt W N 1 (txtRows (Cal.tups (Cal.newsOf (Cal.turnR l) zs[0])))→Calls Tryz.prog 31 #[.slice N (Cal.tups (Cal.newsOf (Cal.turnR l) zs[0])).length d,.string p.name] W fun e w'=>e=.returned (.bool true)∧Below W.heap.size W w'):=fun N d W hr=>by
       have h1:=Cal.tups_length (Cal.newsOf (Cal.turnR l) zs[0])
       have h2:=Cal.newsOf_len (Cal.turnR l) zs[0]
       have h3:=lt.out.1
       have:=HasText_any N d _ p.name W hr (by omega)
       rw[decide_eq_true hxb] at this
       exact this
      have hone:Hid ((Cal.tups (Cal.newsOf (Cal.turnR l) zs[0])).length=1→oneT l p.name.toList zs[0]):=fun hb1=>⟨hm1,by
       obtain⟨z,hz⟩:=List.length_eq_one_iff.1 hb1
       rw[hz] at hxb ⊢
       rw[List.mem_singleton.1 hxb]⟩
      replace hylen:=Lib.hid hylen
      clear hbk hE2 hR2 hm1 hny hky hxb hzz
      generalize Cal.tups (Cal.newsOf (Cal.turnR l) zs[0])=bs at *
      by_cases hb1:bs.length=1
      ·have hb2:(bs.length:Int)=1:=by omega
       replace hone:=Lib.hid (hone.out hb1)
       rw[hb1] at him2 hht
       have hv1:=Lib.hid (fun g (eg:v.ownBlock=some g)=>OwnL.lt hI9.out g eg)
       clear hI9
       go_wp2_with (first
        |(go_at_call 33;clear a2 c0 c1;first
         |(with_reducible refine (him.out _ _ _ (hL.out.below (hG.out.bel.trans (hI.out.bel.mono hG.out.bel.size))) hnw.out).mono ?_;clear him hnw;rintro e0 wn ⟨A11,c11,rfl,hr11,h11,hbn⟩;replace hr11:=Lib.hid hr11;replace h11:=Lib.hid h11;replace hI:=Lib.hid (hI.out.below hbn);clear hbn;(have a2:=(hG.out.below hI.out.bel).a.c 2 _ rfl;have c0:=hrow0.out _ hI.out.bel;have c1:=hrow1.out _ hI.out.bel))
         |(with_reducible refine (him2.out _ _ _ (hT.out.below hI.out.bel) hr11.out).mono ?_;clear him2;rintro e0 wn ⟨A13,c13,rfl,hr13,_,hbn⟩;replace hr13:=Lib.hid hr13;replace hr11:=Lib.hid (hr11.out.below hbn);replace hI:=Lib.hid (hI.out.below hbn);clear hbn;(have a2:=(hG.out.below hI.out.bel).a.c 2 _ rfl;have c0:=hrow0.out _ hI.out.bel;have c1:=hrow1.out _ hI.out.bel)))
        |(go_at_call 31;clear a2 c0 c1;refine (hht.out _ _ _ hr13.out).mono ?_;clear hht;rintro e0 wn ⟨rfl,hbn⟩;replace hr13:=Lib.hid (hr13.out.below hbn);replace hr11:=Lib.hid (hr11.out.below hbn);replace hI:=Lib.hid (hI.out.below hbn);clear hbn;(have a2:=(hG.out.below hI.out.bel).a.c 2 _ rfl;have c0:=hrow0.out _ hI.out.bel;have c1:=hrow1.out _ hI.out.bel)))
       obtain⟨b11,o11,rfl,hb11,yb,hyb,d0⟩:=txtRow_at hr11.out hz0
       rw[Nat.add_zero] at d0
       have h11b:wr.heap.size+1≤b11:=by have:=h11.out _ rfl;rw[World.size_alloc] at this;exact this
       have m2:=hI.out.m.c 2 _ rfl
       have hmlt:=hI.out.m.lt
       have hwlt:=hG.out.a.lt
       have hwks:=hI.out.bel.size
       have hL4:Hid (∀ x∈[(wk.heap.size,2,v),(w.heap.size,2,Value.slice (some ⟨b,o,none⟩) pl.length e),(b,o+acc.length*2+1,.slice p.V p.ps.length p.d),(b11,o11,.string yb)],v.ownBlock≠some x.1∧x.1<wn.heap.size):=fun x hx=>by
        simp only[List.mem_cons,List.not_mem_nil,or_false] at hx
        rcases hx with rfl | rfl | rfl | rfl
        ·exact⟨fun eg=>by have:=hv1.out _ eg;omega,hmlt⟩
        ·exact⟨fun eg=>by have:=hv1.out _ eg;omega,by dsimp only;omega⟩
        ·exact⟨fun eg=>by have:=hv1.out _ eg;omega,by dsimp only;omega⟩
        exact⟨fun eg=>by have:=hv1.out _ eg;omega,hb11⟩
       have hbl4:=Lib.hid hI.out.bel
       have hyz:oneT l p.name.toList yb.toList:=by rw[hyb];exact hone.out
       have hsn2:=Lib.hid (hsn.out ⟨yb,p.V,p.d,p.ps⟩ rfl rfl hyz)
       clear hsn hyz hone hyb h11 hr11 hr13 hmlt hwlt hwks h11b
       refine wp_region_heldZ (S:=Sx wk [(wk.heap.size,2,v),(w.heap.size,2,.slice (some ⟨b,o,none⟩) pl.length e),(b,o+acc.length*2+1,.slice p.V p.ps.length p.d),(b11,o11,.string yb)]) 15 (by kernel_rfl) (Sx.mk (by simp only[cs_iff_cons];exact⟨m2,a2,c1,d0,cs_nil _⟩) hbl4.out).drew (fun hHeld=>?_)
       clear a2 c0 c1
       clear m2 d0 hbl4
       replace hI:=Lib.hid (hI.out.below ((Below.refl _ _).drew))
       have hsz4:=Lib.hid (show wn.heap.size≤wn.drew.heap.size from Nat.le_refl _)
       generalize wn.drew=X1 at *
       refine tkZx 0 106 ?_
       refine tkZx 1 107 ?_
       refine tkZx 2 108 ?_
       refine tkZx 3 109 ?_
       refine tkZx 4 110 ?_
       refine tkZx 5 111 ?_
       refine tkZx 6 112 ?_
       refine tkZx 7 113 ?_
       refine tkZx 8 114 ?_
       refine tkZx 9 115 ?_
       refine tkZx 10 116 ?_
       refine tkZx 11 117 ?_
       refine ratZ 12 (by decide +kernel) rfl (fun K hK=>?_)
       rw[if_pos (by kernel_rfl)]
       go_simp
       refine hK.out _ _ (hHeld.alloc _) (fun hH2=>?_)
       clear hK K hHeld
       have hHeld:=hH2
       clear hH2
       (try simp only[apS,apN,siA,scZ,scS])
       have hsrc:RowsAt (X1.alloc (.cells #[.string yb,.slice p.V p.ps.length p.d] 74)) (some ⟨X1.heap.size,0,none⟩) 2 [Plo.cells ⟨yb,p.V,p.d,p.ps⟩]:=rowsAt_new X1 [.string yb,.slice p.V p.ps.length p.d] 74
       replace hI:=Lib.hid (hI.out.below (below_alloc X1 (.cells #[.string yb,.slice p.V p.ps.length p.d] 74)))
       have hsz5:wn.heap.size≤(X1.alloc (.cells #[.string yb,.slice p.V p.ps.length p.d] 74)).heap.size:=by rw[World.size_alloc];exact Nat.le_succ_of_le hsz4.out
       refine ratZ 13 (by decide +kernel) rfl (fun K hK=>?_)
       refine step_append_rows elemPlo (by rfl) (.tmp 107) (.tmp 118) (by rfl) (by rfl) (by rfl) hI.out.o hsrc rfl (plo_wid [⟨yb,p.V,p.d,p.ps⟩]) (plo_one [⟨yb,p.V,p.d,p.ps⟩]) (by rw[List.length_map,List.length_singleton];omega) (by decide) hI.out.m.lt ?_
       intro v' Wp hown hg hob
       obtain⟨A9,c9,hv9,_⟩:=OwnL.form hown
       generalize ((acc.map Plo.cells ++ [Plo.cells ⟨yb,p.V,p.d,p.ps⟩]).length)=n9 at hv9
       subst hv9
       have hm:=Lib.hid (hI.out.m.grown hg (fun eg=>by have:=OwnL.lt hI.out.o _ eg.symm;omega))
       have hH3:=hHeld.grow hg (fun g eg=>by have:=OwnL.lt hI.out.o g eg;omega) (fun x hx=>⟨(hL4.out x hx).1,Nat.lt_of_lt_of_le (hL4.out x hx).2 hsz5⟩)
       have hb5:=Lib.hid hH3.bel
       refine hK.out _ _ hH3 (fun hH2=>?_)
       clear hK K hHeld hH3
       have hHeld:=hH2
       clear hH2
       (try simp only[apS,apN,siA,scZ,scS])
       refine tkZx 14 120 ?_
       have y2:=hm.out.c 2 _ rfl;have f2:=hm.out.free 2 (by simp)
       (refine ratZc 15 (by decide +kernel) rfl (by decide +kernel) (fun K hK=>?_);rw[if_pos (by kernel_rfl)];go_simp;refine hK.out _ _ ?_;clear hK K;(try simp only[apS,apN,siA,scZ,scS]))
       refine wpAnyHY_done (by decide +kernel) ?_ _
       (try simp only[apS,apN,siA,scZ,scS])
       have hn4:Hid (TrI wk ⟨nm,V,d,ps,some ⟨b,o,none⟩,e,pl⟩ (.slice A9 n9 c9) (acc ++ [⟨yb,p.V,p.d,p.ps⟩]) (Wp.setCell ⟨wk.heap.size,2,none⟩ (.slice A9 n9 c9))):=⟨hb5.out.setCell (Nat.le_refl _) _,hm.out.set 2 (.slice A9 n9 c9) (by simp),by
        rw[List.map_append,List.map_singleton]
        refine hown.kept (grown_setCells wk.heap.size [.slice A9 n9 c9] 2 Wp) ?_
        cases ho:(Value.slice A9 n9 c9).ownBlock with
        | none=>exact .inl rfl
        | some g=>exact .inr (fun eg=>by cases eg;have:=OwnL.lt hown _ ho;omega)⟩
       clear hHeld y2 f2 hm hb5 hown hg hob hsrc hI hL4 hsz4 hsz5
       go_wp2_with fail
       go_roundw
       case rel=>exact⟨_,acc ++ [⟨yb,p.V,p.d,p.ps⟩],by rw[List.length_append,List.length_singleton];omega,by rw[List.length_append,List.length_singleton];go_num,hsn2,hn4⟩
       case measure=>simp[intOf];omega
      have hb2:((bs.length:Int) != 1)=true:=by
       have:¬(bs.length:Int)=1:=by omega
       simpa using this
      clear hone hsn
      go_wp2_with (first
       |(go_at_call 33;clear a2 c0 c1;first
        |(with_reducible refine (him.out _ _ _ (hL.out.below (hG.out.bel.trans (hI.out.bel.mono hG.out.bel.size))) hnw.out).mono ?_;clear him hnw;rintro e0 wn ⟨A11,c11,rfl,hr11,h11,hbn⟩;replace hr11:=Lib.hid hr11;replace h11:=Lib.hid h11;replace hI:=Lib.hid (hI.out.below hbn);clear hbn;(have a2:=(hG.out.below hI.out.bel).a.c 2 _ rfl;have c0:=hrow0.out _ hI.out.bel;have c1:=hrow1.out _ hI.out.bel))
        |(with_reducible refine (him2.out _ _ _ (hT.out.below hI.out.bel) hr11.out).mono ?_;clear him2;rintro e0 wn ⟨A13,c13,rfl,hr13,_,hbn⟩;replace hr13:=Lib.hid hr13;replace hr11:=Lib.hid (hr11.out.below hbn);replace hI:=Lib.hid (hI.out.below hbn);clear hbn;(have a2:=(hG.out.below hI.out.bel).a.c 2 _ rfl;have c0:=hrow0.out _ hI.out.bel;have c1:=hrow1.out _ hI.out.bel)))
       |(go_at_call 31;clear a2 c0 c1;refine (hht.out _ _ _ hr13.out).mono ?_;clear hht;rintro e0 wn ⟨rfl,hbn⟩;replace hr13:=Lib.hid (hr13.out.below hbn);replace hr11:=Lib.hid (hr11.out.below hbn);replace hI:=Lib.hid (hI.out.below hbn);clear hbn;(have a2:=(hG.out.below hI.out.bel).a.c 2 _ rfl;have c0:=hrow0.out _ hI.out.bel;have c1:=hrow1.out _ hI.out.bel)))
      go_ret
      exact⟨rfl,hG.out.bel.trans (hI.out.bel.mono hG.out.bel.size)⟩
     have hz2:((zs.length:Int) != 1)=true:=by
      have:¬(zs.length:Int)=1:=by omega
      simpa using this
     clear hbk hsn
     go_wp2_with (first
      |(go_at_call 33;clear a2 c0 c1;first
       |(with_reducible refine (him.out _ _ _ (hL.out.below (hG.out.bel.trans (hI.out.bel.mono hG.out.bel.size))) hnw.out).mono ?_;clear him hnw;rintro e0 wn ⟨A11,c11,rfl,hr11,h11,hbn⟩;replace hr11:=Lib.hid hr11;replace h11:=Lib.hid h11;replace hI:=Lib.hid (hI.out.below hbn);clear hbn;(have a2:=(hG.out.below hI.out.bel).a.c 2 _ rfl;have c0:=hrow0.out _ hI.out.bel;have c1:=hrow1.out _ hI.out.bel))
       |(with_reducible refine (him2.out _ _ _ (hT.out.below hI.out.bel) hr11.out).mono ?_;clear him2;rintro e0 wn ⟨A13,c13,rfl,hr13,_,hbn⟩;replace hr13:=Lib.hid hr13;replace hr11:=Lib.hid (hr11.out.below hbn);replace hI:=Lib.hid (hI.out.below hbn);clear hbn;(have a2:=(hG.out.below hI.out.bel).a.c 2 _ rfl;have c0:=hrow0.out _ hI.out.bel;have c1:=hrow1.out _ hI.out.bel)))
      |(go_at_call 31;clear a2 c0 c1;refine (hht.out _ _ _ hr13.out).mono ?_;clear hht;rintro e0 wn ⟨rfl,hbn⟩;replace hr13:=Lib.hid (hr13.out.below hbn);replace hr11:=Lib.hid (hr11.out.below hbn);replace hI:=Lib.hid (hI.out.below hbn);clear hbn;(have a2:=(hG.out.below hI.out.bel).a.c 2 _ rfl;have c0:=hrow0.out _ hI.out.bel;have c1:=hrow1.out _ hI.out.bel)))
     go_ret
     exact⟨rfl,hG.out.bel.trans (hI.out.bel.mono hG.out.bel.size)⟩
    have hge:¬(acc.length:Int)<(pl.length:Int):=by omega
    have hk2:=Lib.hid (show acc.length=pl.length by omega)
    obtain⟨S',e',rfl,hrS⟩:=OwnL.form hI.out.o
    have hcap:=(OwnL.capN hI.out.o).2
    rw[List.length_map] at hI hcap
    have hs0:(sectE nm ps pl).2.2=0:=by rw[hE.out]
    have hs2:=hRn.out.sect (name:=nm) (sec:=ps) hk2.out hn0.out hs0
    have hpq:∀ q∈acc,∃ p∈pl,q.V=p.V∧q.ps=p.ps∧q.name.size≤maxLen:=fun q hq=>by
     obtain⟨i,hi,rfl⟩:=List.getElem_of_mem hq
     obtain⟨h1,h2,h3⟩:=hRn.out.at_ i hi (by have:=hk2.out;omega)
     exact⟨_,List.getElem_mem (by have:=hk2.out;omega),h1,h2,by rw[size_len (a:=acc[i].name) rfl];exact (la.out.2 _ h3.1).2⟩
    have hbw:=hG.out.bel.trans (hI.out.bel.mono hG.out.bel.size)
    have hS2:Hid (SctR wr ⟨nm,V,d,ps,S',e',acc⟩):=⟨hS.out.nm,hS.out.pts.below hbw,hS.out.few,⟨hrS,(show acc.length≤1000000 by have:=hk2.out;omega),fun q hq=>by
     obtain⟨p,hp,h1,h2,_⟩:=hpq q hq
     rw[h1,h2]
     exact (hS.out.plots.pts p hp).below hbw,fun q hq=>by
     obtain⟨p,hp,_,_,h3⟩:=hpq q hq
     exact h3⟩,hcap,fun q hq=>by
     obtain⟨p,hp,h1,h2,_⟩:=hpq q hq
     show few q.ps
     rw[h2]
     exact hS.out.fews p hp⟩
    have hsame:=hRn.out.ps_same hk2.out
    have hgap:gapS ⟨nm,V,d,ps,S',e',acc⟩=gapS ⟨nm,V,d,ps,S,e,pl⟩:=by
     unfold gapS
     rw[if_pos hs2,if_pos hs0]
     show Cal.areaP ps-sumA acc=Cal.areaP ps-sumA pl
     rw[sumA_same hsame]
    have hg1:Hid (∀ W,Below w.heap.size w W→Calls Tryz.prog 34 #[.agg #[.string nm,.slice V ps.length d,.slice S pl.length e]] W fun e9 w'=>e9=.returned (.tuple #[.int .i64 (gapS ⟨nm,V,d,ps,S,e,pl⟩),.int .i64 0])∧Below W.heap.size W w'):=fun W hb=>by
     have:=Gap_any ⟨nm,V,d,ps,S,e,pl⟩ W (hS.out.below hb)
     rw[show (sectE nm ps pl).2.2=0 from hs0] at this
     exact this
    have hg2:Hid (∀ W,Below wr.heap.size wr W→Calls Tryz.prog 34 #[.agg #[.string nm,.slice V ps.length d,.slice S' acc.length e']] W fun e9 w'=>e9=.returned (.tuple #[.int .i64 (gapS ⟨nm,V,d,ps,S,e,pl⟩),.int .i64 0])∧Below W.heap.size W w'):=fun W hb=>by
     have:=Gap_any ⟨nm,V,d,ps,S',e',acc⟩ W (hS2.out.below hb)
     rw[show (sectE nm ps acc).2.2=0 from hs2,hgap] at this
     exact this
    have hnb:Hid (∀ k:Nat,k<pl.length→∃ zs:List Int,zs.length≤1000000∧(∀ W,Below w.heap.size w W→Calls Tryz.prog 9 #[.agg #[.string nm,.slice V ps.length d,.slice S pl.length e],.int .i64 k] W fun e9 w'=>∃ A' c',e9=.returned (.tuple #[.slice A' zs.length c',.int .i64 0])∧RowsAt w' A' 1 (intRows zs)∧Below W.heap.size W w')∧(∀ W,Below wr.heap.size wr W→Calls Tryz.prog 9 #[.agg #[.string nm,.slice V ps.length d,.slice S' acc.length e'],.int .i64 k] W fun e9 w'=>∃ A' c',e9=.returned (.tuple #[.slice A' zs.length c',.int .i64 0])∧RowsAt w' A' 1 (intRows zs)∧Below W.heap.size W w')):=fun k hk9=>by
     have hE1:nbE ⟨nm,V,d,ps,S,e,pl⟩ (k:Int)=0:=by
      unfold nbE
      rw[if_pos (show (sectE nm ps pl).2.2=0 from hs0),if_pos ⟨by omega,by show (k:Int)<(pl.length:Int);omega⟩]
     have hE2:nbE ⟨nm,V,d,ps,S',e',acc⟩ (k:Int)=0:=by
      unfold nbE
      rw[if_pos (show (sectE nm ps acc).2.2=0 from hs2),if_pos ⟨by omega,by show (k:Int)<(acc.length:Int);have:=hk2.out;omega⟩]
     have hR1:nbR ⟨nm,V,d,ps,S,e,pl⟩ (k:Int)=Cal.nbL pl.length (nbG pl k) k:=by unfold nbR;rw[if_pos hE1,Int.toNat_natCast]
     have hR2:nbR ⟨nm,V,d,ps,S',e',acc⟩ (k:Int)=Cal.nbL pl.length (nbG pl k) k:=by
      unfold nbR
      rw[if_pos hE2,Int.toNat_natCast]
      show Cal.nbL acc.length (nbG acc k) k=_
      rw[hk2.out,nbG_same hsame]
     refine⟨Cal.nbL pl.length (nbG pl k) k,by have:=Cal.nbL_len pl.length (nbG pl k) k;omega,fun W hb=>?_,fun W hb=>?_⟩
     ·refine (Neighbours_any ⟨nm,V,d,ps,S,e,pl⟩ k W (hS.out.below hb)).mono ?_
      rw[hE1,hR1]
      rintro e9 w' ⟨v9,rfl,hO9,hb'⟩
      obtain⟨A5,c5,rfl,hr⟩:=hO9.rows
      exact⟨A5,c5,rfl,hr,hb'⟩
     refine (Neighbours_any ⟨nm,V,d,ps,S',e',acc⟩ k W (hS2.out.below hb)).mono ?_
     rw[hE2,hR2]
     rintro e9 w' ⟨v9,rfl,hO9,hb'⟩
     obtain⟨A5,c5,rfl,hr⟩:=hO9.rows
     exact⟨A5,c5,rfl,hr,hb'⟩
    have hJ:Hid (TrJ wr wk.heap.size ⟨nm,V,d,ps,S',e',acc⟩ wr):=⟨hI.out.m,Below.refl _ _⟩
    replace hG:=Lib.hid (hG.out.below hI.out.bel)
    clear hI hRn hT hS hS2 hs0 hs2 hpq hbw hgap hsame hrS hcap hrows hnm hnames hk hlt la lt hn0 htg hE hL
    generalize gapS ⟨nm,V,d,ps,S,e,pl⟩=G9 at *
    generalize wk.heap.size=Bm at *
    (have a0:=(hG.out.below hJ.out.bel).a.c 0 _ rfl;have a1:=(hG.out.below hJ.out.bel).a.c 1 _ rfl;have a2:=(hG.out.below hJ.out.bel).a.c 2 _ rfl;obtain⟨m0,m1,m2⟩:=hJ.out.m.c3)
    go_wp2_with (first
     |(go_at_call 34;clear a0 a1 a2 m0 m1 m2;(first | with_reducible refine (hg1.out _ (hG.out.bel.trans (hJ.out.bel.mono hG.out.bel.size))).mono ?_ | with_reducible refine (hg2.out _ hJ.out.bel).mono ?_);rintro e0 wn ⟨rfl,hbn⟩;replace hJ:=Lib.hid (hJ.out.below hbn);clear hbn;(have a0:=(hG.out.below hJ.out.bel).a.c 0 _ rfl;have a1:=(hG.out.below hJ.out.bel).a.c 1 _ rfl;have a2:=(hG.out.below hJ.out.bel).a.c 2 _ rfl;obtain⟨m0,m1,m2⟩:=hJ.out.m.c3))
     |(go_at_call 9;clear a0 a1 a2 m0 m1 m2;first
      |(with_reducible refine (hn1.out _ (hG.out.bel.trans (hJ.out.bel.mono hG.out.bel.size))).mono ?_;rintro e0 wn ⟨A18,c18,rfl,hr18,hbn⟩;replace hr18:=Lib.hid hr18;replace hJ:=Lib.hid (hJ.out.below hbn);clear hbn;(have a0:=(hG.out.below hJ.out.bel).a.c 0 _ rfl;have a1:=(hG.out.below hJ.out.bel).a.c 1 _ rfl;have a2:=(hG.out.below hJ.out.bel).a.c 2 _ rfl;obtain⟨m0,m1,m2⟩:=hJ.out.m.c3))
      |(with_reducible refine (hn2.out _ hJ.out.bel).mono ?_;rintro e0 wn ⟨A20,c20,rfl,hr20,hbn⟩;replace hr20:=Lib.hid hr20;replace hr18:=Lib.hid (hr18.out.below hbn);replace hJ:=Lib.hid (hJ.out.below hbn);clear hbn;(have a0:=(hG.out.below hJ.out.bel).a.c 0 _ rfl;have a1:=(hG.out.below hJ.out.bel).a.c 1 _ rfl;have a2:=(hG.out.below hJ.out.bel).a.c 2 _ rfl;obtain⟨m0,m1,m2⟩:=hJ.out.m.c3)))
     |(go_at_call 15;clear a0 a1 a2 m0 m1 m2;refine (IntsR_any A18 c18 A20 c20 zs _ hr18.out hr20.out hzl).mono ?_;clear hr18 hr20;rintro e0 wn ⟨rfl,hbn⟩;replace hJ:=Lib.hid (hJ.out.below hbn);clear hbn;(have a0:=(hG.out.below hJ.out.bel).a.c 0 _ rfl;have a1:=(hG.out.below hJ.out.bel).a.c 1 _ rfl;have a2:=(hG.out.below hJ.out.bel).a.c 2 _ rfl;obtain⟨m0,m1,m2⟩:=hJ.out.m.c3)))
    clear a0 a1 a2 m0 m1 m2
    go_loopw [17] (fun i wx=>∃ k:Nat,k≤pl.length∧i=.int .i64 k∧Hid (TrJ wr Bm ⟨nm,V,d,ps,S',e',acc⟩ wx)) (fun i _=>pl.length-(intOf i).toNat)
    case atStart=>exact⟨0,Nat.zero_le _,rfl,hJ⟩
    case round =>
     clear hJ
     obtain⟨k,hk,rfl,hJ⟩:=hrel
     (have a0:=(hG.out.below hJ.out.bel).a.c 0 _ rfl;have a1:=(hG.out.below hJ.out.bel).a.c 1 _ rfl;have a2:=(hG.out.below hJ.out.bel).a.c 2 _ rfl;obtain⟨m0,m1,m2⟩:=hJ.out.m.c3)
     by_cases hlt:k<pl.length
     ·obtain⟨zs,hzl,hn1,hn2⟩:=hnb.out k hlt
      replace hn1:=Lib.hid hn1
      replace hn2:=Lib.hid hn2
      have hki:(k:Int)<(pl.length:Int):=by omega
      go_wp2_with (first
       |(go_at_call 34;clear a0 a1 a2 m0 m1 m2;(first | with_reducible refine (hg1.out _ (hG.out.bel.trans (hJ.out.bel.mono hG.out.bel.size))).mono ?_ | with_reducible refine (hg2.out _ hJ.out.bel).mono ?_);rintro e0 wn ⟨rfl,hbn⟩;replace hJ:=Lib.hid (hJ.out.below hbn);clear hbn;(have a0:=(hG.out.below hJ.out.bel).a.c 0 _ rfl;have a1:=(hG.out.below hJ.out.bel).a.c 1 _ rfl;have a2:=(hG.out.below hJ.out.bel).a.c 2 _ rfl;obtain⟨m0,m1,m2⟩:=hJ.out.m.c3))
       |(go_at_call 9;clear a0 a1 a2 m0 m1 m2;first
        |(with_reducible refine (hn1.out _ (hG.out.bel.trans (hJ.out.bel.mono hG.out.bel.size))).mono ?_;rintro e0 wn ⟨A18,c18,rfl,hr18,hbn⟩;replace hr18:=Lib.hid hr18;replace hJ:=Lib.hid (hJ.out.below hbn);clear hbn;(have a0:=(hG.out.below hJ.out.bel).a.c 0 _ rfl;have a1:=(hG.out.below hJ.out.bel).a.c 1 _ rfl;have a2:=(hG.out.below hJ.out.bel).a.c 2 _ rfl;obtain⟨m0,m1,m2⟩:=hJ.out.m.c3))
        |(with_reducible refine (hn2.out _ hJ.out.bel).mono ?_;rintro e0 wn ⟨A20,c20,rfl,hr20,hbn⟩;replace hr20:=Lib.hid hr20;replace hr18:=Lib.hid (hr18.out.below hbn);replace hJ:=Lib.hid (hJ.out.below hbn);clear hbn;(have a0:=(hG.out.below hJ.out.bel).a.c 0 _ rfl;have a1:=(hG.out.below hJ.out.bel).a.c 1 _ rfl;have a2:=(hG.out.below hJ.out.bel).a.c 2 _ rfl;obtain⟨m0,m1,m2⟩:=hJ.out.m.c3)))
       |(go_at_call 15;clear a0 a1 a2 m0 m1 m2;refine (IntsR_any A18 c18 A20 c20 zs _ hr18.out hr20.out hzl).mono ?_;clear hr18 hr20;rintro e0 wn ⟨rfl,hbn⟩;replace hJ:=Lib.hid (hJ.out.below hbn);clear hbn;(have a0:=(hG.out.below hJ.out.bel).a.c 0 _ rfl;have a1:=(hG.out.below hJ.out.bel).a.c 1 _ rfl;have a2:=(hG.out.below hJ.out.bel).a.c 2 _ rfl;obtain⟨m0,m1,m2⟩:=hJ.out.m.c3)))
      go_roundw
      case rel=>exact⟨k+1,by omega,by go_num,hJ⟩
      case measure=>simp[intOf];omega
     have hki:¬(k:Int)<(pl.length:Int):=by omega
     go_wp2_with fail
     go_ret
     exact⟨rfl,hG.out.bel.trans (hJ.out.bel.mono hG.out.bel.size)⟩
  have q2:(Cal.numE l != 0)=true:=by simpa using hn0
  clear la hv hn0
  generalize Cal.numE l=Z at *
  go_wp2_with fail
  go_wp2_with (first
   |(go_at_call 32;clear a0 a1 a2;refine (surveyed_any _).mono ?_;rintro e0 wn ⟨rfl,hbn⟩;(replace hG:=Lib.hid (hG.out.below hbn);clear hbn;(obtain⟨a0,a1,a2⟩:=hG.out.a.c3)))
   |(go_at_call 11;clear a0 a1 a2;refine (hrs.out _ hG.out.bel).mono ?_;clear hrs;rintro e0 wk ⟨rfl,hbn⟩;replace hG:=Lib.hid ((hG.out.below hbn).below (below_alloc wk (.cells #[.int .i64 e1,.int .i64 e2] 36)));clear hbn;(obtain⟨a0,a1,a2⟩:=hG.out.a.c3))
   |(go_at_call 19;clear a0 a1 a2;refine (hrc.out _ (hL.out.below hG.out.bel)).mono ?_;clear hrc;rintro e0 wk ⟨rfl,hbn⟩;(replace hG:=Lib.hid (hG.out.below hbn);clear hbn;(obtain⟨a0,a1,a2⟩:=hG.out.a.c3)))
   |(go_at_call 20;clear a0 a1 a2;refine (htn.out _ _ _ (hL.out.below hG.out.bel)).mono ?_;clear htn;rintro e0 wk ⟨A7,c7,rfl,hr7,hbn⟩;replace hr7:=Lib.hid hr7;(replace hG:=Lib.hid (hG.out.below hbn);clear hbn;(obtain⟨a0,a1,a2⟩:=hG.out.a.c3))))
  go_ret
  exact⟨rfl,hG.out.bel⟩
 have hc2:(cc != 0)=true:=by simpa using h0
 go_wp2_with fail
 go_ret
 exact⟨rfl,hG.out.bel⟩
end Go.Proofs.YthfokpchdlcidaaGreat
