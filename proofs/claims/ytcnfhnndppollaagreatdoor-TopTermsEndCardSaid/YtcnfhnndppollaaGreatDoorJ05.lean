/- What the statements rest on: definitions and walks, part 05. -/
import Derived.Test.YtcnfhnndppollaaGreatDoorJ04
set_option maxRecDepth 100000
set_option maxHeartbeats 16000000
set_option linter.unusedSimpArgs false
set_option linter.unusedVariables false
namespace Go.Proofs.YtcnfhnndppollaaGreatDoor
open Go Go.RowKit Go.Maps Go.WideMaps
theorem elemStr:Elem Tryz.prog 64 9 1 16:=Elem.mk' Tryz.underlying64 (z:=.string ⟨#[]⟩) (by kernel_rfl) rfl (by decide)
theorem str_wid (s:ByteArray):∀ r∈[[Value.string s]],r.length=1:=fun r hr=>by rw[List.mem_singleton.1 hr];rfl
theorem str_one (s:ByteArray):∀ r∈[[Value.string s]],∀ u∈r,u.oneCell'=true:=fun r hr u hu=>by
 rw[List.mem_singleton.1 hr] at hu
 rw[List.mem_singleton.1 hu]
 rfl
theorem Wd.ask {W:World} {q k:Nat} {fd fk fp:List UInt8→Option Value} {M T kv:Value} {la ct:Int} (h:Wd W q k fd fk fp M T la ct) {x s:ByteArray} (hx:x.size≤maxLen) (hs:s.size≤maxLen) (hkv:(fk x.data.toList).getD (.slice none 0 0)=kv) (hps:fp s.data.toList=none) :
  (Instr.lookup 73 (.map (some (q+1+1))) (.string x) false).run Tryz.prog W=.ok kv W∧(Instr.lookup 73 (.map (some (q+1+1+1))) (.string s) false).run Tryz.prog W=.ok (.slice none 0 0) W:=by
 have h1:=h.kid x hx
 have h2:=h.par s hs
 rw[hkv] at h1
 rw[hps,Option.getD_none] at h2
 exact⟨h1,h2⟩
theorem descends_none {q k:Nat} {fd fk fp:List UInt8→Option Value} {M T:Value} {la ct:Int} (n s:ByteArray) (hn:n.size≤maxLen) (hs:s.size≤maxLen) (w:World) (h:Wd w q k fd fk fp M T la ct) (hk:fk s.data.toList=none) :
  Calls Tryz.prog 66 #[.pointer (some ⟨q+6,0,none⟩),.string n,.string s] w fun e w'=>e=.returned (.bool false)∧Below w.heap.size w w':=by
 have hd:=Lib.hid (desc_none s hs w h hk)
 clear h hk
 go_enter Tryz.func66,Tryz.ntmps66
 go_wp2_with (go_at_call 85;refine hd.out.mono ?_;rintro e9 wn ⟨rfl,hbn,hm⟩;have hlk:=(MapIs.empty Tryz.prog 9 strLit hm).look (string_keyed Tryz.underlying9) Tryz.underlying72 (boolZeroU _) (keyOf_string_mk Tryz.underlying9 hn);replace hbn:=Lib.hid hbn;clear hm;simp only[Option.getD_none] at hlk)
 go_ret
 exact⟨rfl,hbn.out⟩
theorem Wd.kids {Y W7 W9:World} {q k n n':Nat} {fd fk fp fk' fp':List UInt8→Option Value} {M T:Value} {la ct:Int} (h:Wd Y q k fd fk fp M T la ct) (hg:Y.grownBy W7 (some (q+1+1))) (hm7:MapIs Tryz.prog 9 strLit W7 (q+1+1) n fk') (hn:n≤k+1)
  (hg9:W7.grownBy W9 (some (q+1+1+1))) (hm9:MapIs Tryz.prog 9 strLit W9 (q+1+1+1) n' fp') (hn':n'≤k+1):Wd W9 q (k+1) fd fk' fp' M T la ct:=by
 have hne:∀ b c:Nat,b≠c→some b≠some c:=fun b c h9 e9=>h9 (Option.some.inj e9)
 have hl:=h.lt
 have hs:=hg.size
 obtain⟨n1,e1,m1⟩:=h.pd
 exact⟨(h.box.grown hg (hne _ _ (by omega))).grown hg9 (hne _ _ (by omega)),⟨n1,by omega,(m1.kept hg (hne _ _ (by omega))).kept hg9 (hne _ _ (by omega))⟩,⟨n,hn,hm7.kept hg9 (hne _ _ (by omega))⟩,⟨n',hn',hm9⟩,
  (hg9.block _ (by omega) (hne _ _ (by omega))).trans ((hg.block _ (by omega) (hne _ _ (by omega))).trans h.pl),(hg9.block _ (by omega) (hne _ _ (by omega))).trans ((hg.block _ (by omega) (hne _ _ (by omega))).trans h.pr)⟩
def KidP (kv:Value) (q k:Nat) (fd fk fp:List UInt8→Option Value) (M T:Value) (la ct:Int) (x s:ByteArray) (rows:List (List Value)) (w:World) (e:Ending) (w':World):Prop :=
 e=.returned (.int .i64 0)∧∃ v' u',Wd w' q (k+1) fd (setAt fk x.data.toList v') (setAt fp s.data.toList u') M T la ct∧OwnL w' (q+7) 9 1 v' (rows ++ [[.string s]])∧Below (q+1) w w'∧∀ B,B<w.heap.size→B≠q+1+1→B≠q+1+1+1→some B≠kv.ownBlock→w'.heap[B]?=w.heap[B]?
theorem take_child {q k:Nat} {fd fk fp:List UInt8→Option Value} {M T:Value} {la ct:Int} (dy:Int) (c:Nat) (A:Option Addr) (x s:ByteArray) (hx:x.size≤maxLen) (hs:s.size≤maxLen) (kv:Value) (w:World) (hk9:k≤1000) (h:Wd w q k fd fk fp M T la ct)
  (hr:RowsAt w A 3 ([⟨s,0,0⟩].map Pa.cells)) (hkv:(fk x.data.toList).getD (.slice none 0 0)=kv) (hks:fk s.data.toList=none) (hps:fp s.data.toList=none)
  (rows:List (List Value)) (hrl:rows.length≤1000) (hown:OwnL w (q+7) 9 1 kv rows) (hcon:∀ W,Below w.heap.size w W→Calls Tryz.prog 65 #[kv,.string s] W fun e w'=>e=.returned (.bool false)∧w'=W) :
  Calls Tryz.prog 40 #[.pointer (some ⟨q+6,0,none⟩),.agg #[.int .i64 6,.int .i64 dy,.string ⟨#[]⟩,.string x,.slice A 1 c,.int .i64 0,.int .i64 0]] w fun e w'=>KidP kv q k fd fk fp M T la ct x s rows w e w':=by
 obtain⟨b1,o1,hA,hbl,p0,p1,p2⟩:=pa_at hr
 subst hA
 have hz:=Lib.hid (fun W (hb:Below w.heap.size w W)=>pa_at (hr.below hb))
 clear p0 p1 p2 hr
 have ha:=below_alloc w (.cells #[.int .i64 6,.int .i64 dy,.string ⟨#[]⟩,.string x,.slice (some ⟨b1,o1,none⟩) 1 c,.int .i64 0,.int .i64 0] 38)
 have hb:=Lib.hid (BoxAt.new w #[.int .i64 6,.int .i64 dy,.string ⟨#[]⟩,.string x,.slice (some ⟨b1,o1,none⟩) 1 c,.int .i64 0,.int .i64 0] 38)
 have h2:=h.below ha
 have e1:=h2.kid x hx
 rw[hkv] at e1
 have e2:=h2.par s hs
 rw[hps,Option.getD_none] at e2
 obtain⟨b0,b1,b2⟩:=h2.box.c3
 obtain⟨b9,o9,hA9,_,p0,p1,p2⟩:=hz.out _ ha
 cases hA9
 have hde:=Lib.hid (fun W (hb:Below w.heap.size w W)=>descends_none x s hx hs W (h.below hb) hks)
 replace hcon:=Lib.hid hcon
 replace ha:=Lib.hid ha
 clear hbl
 replace h2:=Lib.hid h2
 have hwl:=h.lt
 replace h:=Lib.hid h
 replace hkv:=Lib.hid hkv
 replace hown:=Lib.hid hown
 go_enter Tryz.func40,Tryz.ntmps40
 go_upto_region 17 with (first
  |(go_at_call 65;refine (hcon.out _ ha.out).mono ?_;rintro e9 w9 ⟨rfl,rfl⟩)
  |(go_at_call 66;refine (hde.out _ ha.out).mono ?_;rintro e9 w2 ⟨rfl,hbn⟩;have ha2:=Lib.hid (below_step ha.out hbn);clear hbn))
 clear e1 e2 b0 b1 b2 p0 p1 p2
 replace h:=Lib.hid (h.out.below ha2.out)
 replace hown:=Lib.hid (hown.out.below ha2.out)
 have hvb:=Lib.hid (fun g (e1:Value.ownBlock kv=some g)=>hown.out.lt g e1)
 replace h:=Lib.hid (h.out.below (Below.refl _ _).drew)
 replace hown:=Lib.hid (hown.out.below (Below.refl _ _).drew)
 replace ha2:=Lib.hid (ha2.out.trans (Below.refl _ _).drew)
 obtain⟨X,hX⟩:∃ X,w2.drew=X:=⟨_,rfl⟩
 have hk1:=h.out.kid x hx
 rw[hkv.out] at hk1
 have hk2:=h.out.par s hs
 rw[hps,Option.getD_none] at hk2
 refine wp_region_heldP (S:=Sc [(q+6,1,.map (some (q+1+1))),(q+6,2,.map (some (q+1+1+1)))]) (A:=fun W=>(Instr.lookup 73 (.map (some (q+1+1))) (.string x) false).run Tryz.prog W=.ok kv W∧(Instr.lookup 73 (.map (some (q+1+1+1))) (.string s) false).run Tryz.prog W=.ok (.slice none 0 0) W) (B:=fun _=>True) 28 33 (by kernel_rfl) (Sc.mk (by simp only[cs_iff_cons];exact⟨h.out.box.c 1 _ rfl,h.out.box.c 2 _ rfl,cs_nil _⟩)) ⟨hk1,hk2⟩ trivial (fun hHeld=>?_)
 rw[hX] at hHeld h hown ha2 ⊢
 clear hk1 hk2 hX h2 hz hb hde hcon hvb
 have hvb:=Lib.hid (fun g (e1:Value.ownBlock kv=some g)=>hown.out.lt g e1)
 have hsX:=h.out.lt
 have hfr:Hid (∀ B,B<w.heap.size→B≠q+1+1→B≠q+1+1+1→some B≠kv.ownBlock→X.heap[B]?=w.heap[B]?):=fun B h1 _ _ _=>ha2.out.block B h1
 have hbel:=Lib.hid (ha2.out.mono (show q+1≤w.heap.size by have:=hwl;omega))
 (refine tkPx 0 75 (fun hH2=>?_) hHeld;clear hHeld;have hHeld:=hH2;clear hH2)
 (refine tkPx 1 76 (fun hH2=>?_) hHeld;clear hHeld;have hHeld:=hH2;clear hH2)
 (refine tkPx 2 77 (fun hH2=>?_) hHeld;clear hHeld;have hHeld:=hH2;clear hH2)
 (refine tkPx 3 78 (fun hH2=>?_) hHeld;clear hHeld;have hHeld:=hH2;clear hH2)
 (refine tkPx 4 79 (fun hH2=>?_) hHeld;clear hHeld;have hHeld:=hH2;clear hH2)
 (refine tkPx 5 80 (fun hH2=>?_) hHeld;clear hHeld;have hHeld:=hH2;clear hH2)
 (refine tkPx 6 81 (fun hH2=>?_) hHeld;clear hHeld;have hHeld:=hH2;clear hH2)
 (refine tkPx 7 82 (fun hH2=>?_) hHeld;clear hHeld;have hHeld:=hH2;clear hH2)
 (refine tkPx 8 83 (fun hH2=>?_) hHeld;clear hHeld;have hHeld:=hH2;clear hH2)
 (refine tkPx 9 84 (fun hH2=>?_) hHeld;clear hHeld;have hHeld:=hH2;clear hH2)
 (refine tkPx 10 85 (fun hH2=>?_) hHeld;clear hHeld;have hHeld:=hH2;clear hH2)
 (refine tkPx 11 86 (fun hH2=>?_) hHeld;clear hHeld;have hHeld:=hH2;clear hH2)
 (refine tkPx 12 87 (fun hH2=>?_) hHeld;clear hHeld;have hHeld:=hH2;clear hH2)
 (refine tkPx 13 88 (fun hH2=>?_) hHeld;clear hHeld;have hHeld:=hH2;clear hH2)
 (refine tkPx 14 89 (fun hH2=>?_) hHeld;clear hHeld;have hHeld:=hH2;clear hH2)
 (refine tkPx 15 90 (fun hH2=>?_) hHeld;clear hHeld;have hHeld:=hH2;clear hH2)
 (refine tkPx 16 91 (fun hH2=>?_) hHeld;clear hHeld;have hHeld:=hH2;clear hH2)
 (refine tkPx 19 94 (fun hH2=>?_) hHeld;clear hHeld;have hHeld:=hH2;clear hH2)
 (refine tkPx 20 95 (fun hH2=>?_) hHeld;clear hHeld;have hHeld:=hH2;clear hH2)
 (refine tkPx 21 96 (fun hH2=>?_) hHeld;clear hHeld;have hHeld:=hH2;clear hH2)
 (refine tkPx 22 97 (fun hH2=>?_) hHeld;clear hHeld;have hHeld:=hH2;clear hH2)
 (refine tkPx 23 98 (fun hH2=>?_) hHeld;clear hHeld;have hHeld:=hH2;clear hH2)
 (refine tkPx 24 99 (fun hH2=>?_) hHeld;clear hHeld;have hHeld:=hH2;clear hH2)
 (refine tkPx 25 100 (fun hH2=>?_) hHeld;clear hHeld;have hHeld:=hH2;clear hH2)
 (refine wpAnyHP_ready (rs:=[17,26]) (by decide +kernel) (by simp) ?_;refine AllReadyP.cons rfl (fun K hK=>?_) (AllReadyP.cons rfl (fun K hK=>?_) AllReadyP.nil))
 ·rw[if_pos (by kernel_rfl)]
  go_simp
  have hba:=below_alloc X (.cells #[.string s] 9)
  have src1:=Lib.hid (rowsAt_new X [.string s] 9)
  replace h:=Lib.hid (h.out.below hba)
  replace hfr:=Lib.hid (fun B h1 h2 h3 h4=>(hba.block B (by have:=hbel.out.size;omega)).trans (hfr.out B h1 h2 h3 h4))
  replace hbel:=Lib.hid (hbel.out.trans (hba.mono (by omega)))
  have hsY:X.heap.size<(X.alloc (.cells #[.string s] 9)).heap.size:=by simp
  obtain⟨Y1,hZ⟩:∃ Y1,X.alloc (.cells #[.string s] 9)=Y1:=⟨_,rfl⟩
  rw[hZ] at h hbel hfr src1 hba hsY ⊢
  clear hZ
  refine hK.out _ _ ⟨Sc.mk (by simp only[cs_iff_cons];exact⟨h.out.box.c 1 _ rfl,h.out.box.c 2 _ rfl,cs_nil _⟩),fun _=>h.out.ask hx hs hkv.out hps,fun _=>trivial⟩ (fun hH2=>?_)
  clear hK K hHeld
  have hHeld:=hH2
  clear hH2
  (try simp only[apS,apN,siA,scZ,scS])
  replace hown:=Lib.hid (hown.out.below hba)
  clear hba
  (refine wpAnyHP_ready (rs:=[18,26]) (by decide +kernel) (by simp) ?_;refine AllReadyP.cons rfl (fun K hK=>?_) (AllReadyP.cons rfl (fun K hK=>?_) AllReadyP.nil))
  ·refine step_append_rows elemStr (by rfl) (.tmp 90) (.tmp 92) (by rfl) (by rfl) (by rfl) hown.out src1.out rfl (str_wid s) (str_one s) (by simp;omega) (by decide) (by have:=h.out.lt;omega) ?_
   intro v' Y2 hv hg _
   replace h:=Lib.hid (h.out.grown hg (fun g e1=>(hvb.out g e1).1))
   replace hfr:=Lib.hid (fun B h1 h2 h3 h4=>(hg.block B (by have:=hbel.out.size;omega) h4).trans (hfr.out B h1 h2 h3 h4))
   replace hbel:=Lib.hid (hbel.out.trans ((grown_below hg (fun g e1=>(hvb.out g e1).1) (by omega)).mono (by omega)))
   replace hv:=Lib.hid hv
   have hsZ:=hg.size
   refine hK.out _ _ ⟨Sc.mk (by simp only[cs_iff_cons];exact⟨h.out.box.c 1 _ rfl,h.out.box.c 2 _ rfl,cs_nil _⟩),fun _=>h.out.ask hx hs hkv.out hps,fun _=>trivial⟩ (fun hH2=>?_)
   clear hK K hHeld
   have hHeld:=hH2
   clear hH2
   (try simp only[apS,apN,siA,scZ,scS])
   (refine wpAnyHP_ready (rs:=[26]) (by decide +kernel) (by simp) ?_;refine AllReadyP.cons rfl (fun K hK=>?_) AllReadyP.nil)
   rw[if_pos (by kernel_rfl)]
   go_simp
   have hba:=below_alloc Y2 (.cells #[.string x] 9)
   have src2:=Lib.hid (rowsAt_new Y2 [.string x] 9)
   replace h:=Lib.hid (h.out.below hba)
   replace hfr:=Lib.hid (fun B h1 h2 h3 h4=>(hba.block B (by have:=hbel.out.size;omega)).trans (hfr.out B h1 h2 h3 h4))
   replace hbel:=Lib.hid (hbel.out.trans (hba.mono (by omega)))
   have hsY:Y2.heap.size<(Y2.alloc (.cells #[.string x] 9)).heap.size:=by simp
   obtain⟨Y3,hZ⟩:∃ Y3,Y2.alloc (.cells #[.string x] 9)=Y3:=⟨_,rfl⟩
   rw[hZ] at h hbel hfr src2 hba hsY ⊢
   clear hZ
   refine hK.out _ _ ⟨Sc.mk (by simp only[cs_iff_cons];exact⟨h.out.box.c 1 _ rfl,h.out.box.c 2 _ rfl,cs_nil _⟩),fun _=>h.out.ask hx hs hkv.out hps,fun _=>trivial⟩ (fun hH2=>?_)
   clear hK K hHeld
   have hHeld:=hH2
   clear hH2
   (try simp only[apS,apN,siA,scZ,scS])
   replace hv:=Lib.hid (hv.out.below hba)
   clear hba
   (refine wpAnyHP_ready (rs:=[27]) (by decide +kernel) (by simp) ?_;refine AllReadyP.cons rfl (fun K hK=>?_) AllReadyP.nil)
   refine step_append_rows elemStr (by rfl) (.tmp 99) (.tmp 101) (by rfl) (by rfl) (by rfl) (OwnL.nil _ (q+7) 9 1) src2.out rfl (str_wid x) (str_one x) (by simp) (by decide) (by have:=h.out.lt;omega) ?_
   intro u' Y4 _ hgu _
   replace h:=Lib.hid (h.out.grown hgu (fun g e1=>by cases e1))
   replace hfr:=Lib.hid (fun B h1 h2 h3 h4=>(hgu.block B (by have:=hbel.out.size;omega) (by simp[Value.ownBlock])).trans (hfr.out B h1 h2 h3 h4))
   replace hbel:=Lib.hid (hbel.out.trans ((grown_below hgu (fun g e1=>by cases e1) (by have:=h.out.lt;omega)).mono (Nat.le_refl (q+1))))
   replace hv:=Lib.hid (hv.out.kept hgu (by rcases h9:Value.ownBlock v' with _ | g9 <;> simp[Value.ownBlock]))
   refine hK.out _ _ ⟨Sc.mk (by simp only[cs_iff_cons];exact⟨h.out.box.c 1 _ rfl,h.out.box.c 2 _ rfl,cs_nil _⟩),fun _=>h.out.ask hx hs hkv.out hps,fun _=>trivial⟩ (fun hH2=>?_)
   clear hK K hHeld
   have hHeld:=hH2
   clear hH2
   (try simp only[apS,apN,siA,scZ,scS])
   clear hgu
   have hne:∀ b c:Nat,b≠c→some b≠some c:=fun b c h9 e9=>h9 (Option.some.inj e9)
   obtain⟨n2,hn2,m2⟩:=h.out.pk
   obtain⟨v8,st,W6,hme,hg6,hs6,W7,hes,hm7,hg7,hs7⟩:=m2.entry strLit_inj (string_keyed Tryz.underlying9) Tryz.underlying73 (by unfold maxLen;omega) (strsZero _) (val:=v') (keyOf_string_mk Tryz.underlying9 hx)
   obtain⟨n3,hn3,m3⟩:=h.out.pp
   obtain⟨v9,st2,W8,hme2,hg8,hs8,W9,hes2,hm9,hg9,hs9⟩:=((m3.kept hg6 (hne _ _ (by omega))).kept hg7 (hne _ _ (by omega))).entry strLit_inj (string_keyed Tryz.underlying9) Tryz.underlying73 (by unfold maxLen;omega) (strsZero _) (val:=u') (keyOf_string_mk Tryz.underlying9 hs)
   have b6:=h.out.box.grown hg6 (hne _ _ (by omega))
   have b7:=b6.grown hg7 (hne _ _ (by omega))
   have b8:=b7.grown hg8 (hne _ _ (by omega))
   have b9:=Lib.hid (b8.grown hg9 (hne _ _ (by omega)))
   replace b6:=Lib.hid b6
   replace b7:=Lib.hid b7
   replace b8:=Lib.hid b8
   have hend:=Lib.hid (h.out.kids (hg6.trans hg7) hm7 (by omega) (hg8.trans hg9) hm9 (by omega))
   have hvend:=Lib.hid (((hv.out.kept (hg6.trans hg7) (.inr (fun e9=>by have:=(hv.out.lt _ e9).1;omega))).kept (hg8.trans hg9) (.inr (fun e9=>by have:=(hv.out.lt _ e9).1;omega))))
   have hgA:=hg6.trans hg7
   have hgB:=hg8.trans hg9
   have hlt4:=h.out.lt
   have hszA:=hgA.size
   have hbA:=(Below.refl (q+1) Y4).grown hgA (by omega) (fun g e9=>by have:=Option.some.inj e9;omega)
   have hbB:=(Below.refl (q+1) W7).grown hgB (by omega) (fun g e9=>by have:=Option.some.inj e9;omega)
   have hfend:=Lib.hid (fun B h1 h2 h3 h4=>((hgB.block B (by have:=hbel.out.size;omega) (hne _ _ h3)).trans (hgA.block B (by have:=hbel.out.size;omega) (hne _ _ h2))).trans (hfr.out B h1 h2 h3 h4))
   have hbend:=Lib.hid (hbel.out.trans (hbA.trans hbB))
   clear hgA hgB hszA hlt4 hbA hbB
   clear hm7 hg6 hg7 hg8 hg9 hm9 m2 m3 hs6 hs7 hs8 hs9 h hbel hv
   (refine wpAnyHP_ready (rs:=[28]) (by decide +kernel) (by simp) ?_;refine AllReadyP.cons rfl (fun K hK=>?_) AllReadyP.nil;rw[if_pos (by kernel_rfl)];go_simp)
   refine hK.out _ _ ⟨Sc.mk (by simp only[cs_iff_cons];exact⟨b6.out.c 1 _ rfl,b6.out.c 2 _ rfl,cs_nil _⟩),fun h=>absurd h (by decide +kernel),fun _=>trivial⟩ (fun hH2=>?_)
   clear hK K hHeld
   have hHeld:=hH2
   clear hH2
   (try simp only[apS,apN,siA,scZ,scS])
   (refine tkPx 29 104 (fun hH2=>?_) hHeld;clear hHeld;have hHeld:=hH2;clear hH2)
   (refine wpAnyHP_ready (rs:=[30]) (by decide +kernel) (by simp) ?_;refine AllReadyP.cons rfl (fun K hK=>?_) AllReadyP.nil;rw[if_pos (by kernel_rfl)];go_simp)
   refine hK.out _ _ ⟨Sc.mk (by simp only[cs_iff_cons];exact⟨b7.out.c 1 _ rfl,b7.out.c 2 _ rfl,cs_nil _⟩),fun h=>absurd h (by decide +kernel),fun _=>trivial⟩ (fun hH2=>?_)
   clear hK K hHeld
   have hHeld:=hH2
   clear hH2
   (try simp only[apS,apN,siA,scZ,scS])
   (refine wpAnyHP_ready (rs:=[31]) (by decide +kernel) (by simp) ?_;refine AllReadyP.cons rfl (fun K hK=>?_) AllReadyP.nil;rw[if_pos (by kernel_rfl)];go_simp)
   refine hK.out _ _ ⟨Sc.mk (by simp only[cs_iff_cons];exact⟨b8.out.c 1 _ rfl,b8.out.c 2 _ rfl,cs_nil _⟩),fun h=>absurd h (by decide +kernel),fun _=>trivial⟩ (fun hH2=>?_)
   clear hK K hHeld
   have hHeld:=hH2
   clear hH2
   (try simp only[apS,apN,siA,scZ,scS])
   (refine tkPx 32 106 (fun hH2=>?_) hHeld;clear hHeld;have hHeld:=hH2;clear hH2)
   (refine wpAnyHP_ready (rs:=[33]) (by decide +kernel) (by simp) ?_;refine AllReadyP.cons rfl (fun K hK=>?_) AllReadyP.nil;rw[if_pos (by kernel_rfl)];go_simp)
   refine hK.out _ _ ⟨Sc.mk (by simp only[cs_iff_cons];exact⟨b9.out.c 1 _ rfl,b9.out.c 2 _ rfl,cs_nil _⟩),fun h=>absurd h (by decide +kernel),fun h=>absurd h (by decide +kernel)⟩ (fun _=>?_)
   clear hK K hHeld
   (try simp only[apS,apN,siA,scZ,scS])
   refine wpAnyHP_done (by decide +kernel) ?_ _
   (try simp only[apS,apN,siA,scZ,scS])
   clear hme hes hme2 hes2
   go_wp2
   go_ret
   exact⟨rfl,_,_,hend.out,hvend.out,hbend.out,hfend.out⟩
  rw[if_pos (by kernel_rfl)]
  go_simp
  have hba:=below_alloc Y1 (.cells #[.string x] 9)
  have src2:=Lib.hid (rowsAt_new Y1 [.string x] 9)
  replace h:=Lib.hid (h.out.below hba)
  replace hfr:=Lib.hid (fun B h1 h2 h3 h4=>(hba.block B (by have:=hbel.out.size;omega)).trans (hfr.out B h1 h2 h3 h4))
  replace hbel:=Lib.hid (hbel.out.trans (hba.mono (by omega)))
  have hsY:Y1.heap.size<(Y1.alloc (.cells #[.string x] 9)).heap.size:=by simp
  obtain⟨Y2,hZ⟩:∃ Y2,Y1.alloc (.cells #[.string x] 9)=Y2:=⟨_,rfl⟩
  rw[hZ] at h hbel hfr src2 hba hsY ⊢
  clear hZ
  refine hK.out _ _ ⟨Sc.mk (by simp only[cs_iff_cons];exact⟨h.out.box.c 1 _ rfl,h.out.box.c 2 _ rfl,cs_nil _⟩),fun _=>h.out.ask hx hs hkv.out hps,fun _=>trivial⟩ (fun hH2=>?_)
  clear hK K hHeld
  have hHeld:=hH2
  clear hH2
  (try simp only[apS,apN,siA,scZ,scS])
  replace hown:=Lib.hid (hown.out.below hba)
  replace src1:=Lib.hid (src1.out.below hba)
  clear hba
  (refine wpAnyHP_ready (rs:=[18]) (by decide +kernel) (by simp) ?_;refine AllReadyP.cons rfl (fun K hK=>?_) AllReadyP.nil)
  refine step_append_rows elemStr (by rfl) (.tmp 90) (.tmp 92) (by rfl) (by rfl) (by rfl) hown.out src1.out rfl (str_wid s) (str_one s) (by simp;omega) (by decide) (by have:=h.out.lt;omega) ?_
  intro v' Y3 hv hg _
  replace h:=Lib.hid (h.out.grown hg (fun g e1=>(hvb.out g e1).1))
  replace hfr:=Lib.hid (fun B h1 h2 h3 h4=>(hg.block B (by have:=hbel.out.size;omega) h4).trans (hfr.out B h1 h2 h3 h4))
  replace hbel:=Lib.hid (hbel.out.trans ((grown_below hg (fun g e1=>(hvb.out g e1).1) (by omega)).mono (by omega)))
  replace hv:=Lib.hid hv
  have hsZ:=hg.size
  replace src2:=Lib.hid (rows_far src2.out hg (fun a e1 e2=>by cases e1;have:=(hvb.out _ e2.symm).2;simp at this;omega))
  refine hK.out _ _ ⟨Sc.mk (by simp only[cs_iff_cons];exact⟨h.out.box.c 1 _ rfl,h.out.box.c 2 _ rfl,cs_nil _⟩),fun _=>h.out.ask hx hs hkv.out hps,fun _=>trivial⟩ (fun hH2=>?_)
  clear hK K hHeld
  have hHeld:=hH2
  clear hH2
  (try simp only[apS,apN,siA,scZ,scS])
  (refine wpAnyHP_ready (rs:=[27]) (by decide +kernel) (by simp) ?_;refine AllReadyP.cons rfl (fun K hK=>?_) AllReadyP.nil)
  refine step_append_rows elemStr (by rfl) (.tmp 99) (.tmp 101) (by rfl) (by rfl) (by rfl) (OwnL.nil _ (q+7) 9 1) src2.out rfl (str_wid x) (str_one x) (by simp) (by decide) (by have:=h.out.lt;omega) ?_
  intro u' Y4 _ hgu _
  replace h:=Lib.hid (h.out.grown hgu (fun g e1=>by cases e1))
  replace hfr:=Lib.hid (fun B h1 h2 h3 h4=>(hgu.block B (by have:=hbel.out.size;omega) (by simp[Value.ownBlock])).trans (hfr.out B h1 h2 h3 h4))
  replace hbel:=Lib.hid (hbel.out.trans ((grown_below hgu (fun g e1=>by cases e1) (by have:=h.out.lt;omega)).mono (Nat.le_refl (q+1))))
  replace hv:=Lib.hid (hv.out.kept hgu (by rcases h9:Value.ownBlock v' with _ | g9 <;> simp[Value.ownBlock]))
  refine hK.out _ _ ⟨Sc.mk (by simp only[cs_iff_cons];exact⟨h.out.box.c 1 _ rfl,h.out.box.c 2 _ rfl,cs_nil _⟩),fun _=>h.out.ask hx hs hkv.out hps,fun _=>trivial⟩ (fun hH2=>?_)
  clear hK K hHeld
  have hHeld:=hH2
  clear hH2
  (try simp only[apS,apN,siA,scZ,scS])
  clear hgu
  have hne:∀ b c:Nat,b≠c→some b≠some c:=fun b c h9 e9=>h9 (Option.some.inj e9)
  obtain⟨n2,hn2,m2⟩:=h.out.pk
  obtain⟨v8,st,W6,hme,hg6,hs6,W7,hes,hm7,hg7,hs7⟩:=m2.entry strLit_inj (string_keyed Tryz.underlying9) Tryz.underlying73 (by unfold maxLen;omega) (strsZero _) (val:=v') (keyOf_string_mk Tryz.underlying9 hx)
  obtain⟨n3,hn3,m3⟩:=h.out.pp
  obtain⟨v9,st2,W8,hme2,hg8,hs8,W9,hes2,hm9,hg9,hs9⟩:=((m3.kept hg6 (hne _ _ (by omega))).kept hg7 (hne _ _ (by omega))).entry strLit_inj (string_keyed Tryz.underlying9) Tryz.underlying73 (by unfold maxLen;omega) (strsZero _) (val:=u') (keyOf_string_mk Tryz.underlying9 hs)
  have b6:=h.out.box.grown hg6 (hne _ _ (by omega))
  have b7:=b6.grown hg7 (hne _ _ (by omega))
  have b8:=b7.grown hg8 (hne _ _ (by omega))
  have b9:=Lib.hid (b8.grown hg9 (hne _ _ (by omega)))
  replace b6:=Lib.hid b6
  replace b7:=Lib.hid b7
  replace b8:=Lib.hid b8
  have hend:=Lib.hid (h.out.kids (hg6.trans hg7) hm7 (by omega) (hg8.trans hg9) hm9 (by omega))
  have hvend:=Lib.hid (((hv.out.kept (hg6.trans hg7) (.inr (fun e9=>by have:=(hv.out.lt _ e9).1;omega))).kept (hg8.trans hg9) (.inr (fun e9=>by have:=(hv.out.lt _ e9).1;omega))))
  have hgA:=hg6.trans hg7
  have hgB:=hg8.trans hg9
  have hlt4:=h.out.lt
  have hszA:=hgA.size
  have hbA:=(Below.refl (q+1) Y4).grown hgA (by omega) (fun g e9=>by have:=Option.some.inj e9;omega)
  have hbB:=(Below.refl (q+1) W7).grown hgB (by omega) (fun g e9=>by have:=Option.some.inj e9;omega)
  have hfend:=Lib.hid (fun B h1 h2 h3 h4=>((hgB.block B (by have:=hbel.out.size;omega) (hne _ _ h3)).trans (hgA.block B (by have:=hbel.out.size;omega) (hne _ _ h2))).trans (hfr.out B h1 h2 h3 h4))
  have hbend:=Lib.hid (hbel.out.trans (hbA.trans hbB))
  clear hgA hgB hszA hlt4 hbA hbB
  clear hm7 hg6 hg7 hg8 hg9 hm9 m2 m3 hs6 hs7 hs8 hs9 h hbel hv
  (refine wpAnyHP_ready (rs:=[28]) (by decide +kernel) (by simp) ?_;refine AllReadyP.cons rfl (fun K hK=>?_) AllReadyP.nil;rw[if_pos (by kernel_rfl)];go_simp)
  refine hK.out _ _ ⟨Sc.mk (by simp only[cs_iff_cons];exact⟨b6.out.c 1 _ rfl,b6.out.c 2 _ rfl,cs_nil _⟩),fun h=>absurd h (by decide +kernel),fun _=>trivial⟩ (fun hH2=>?_)
  clear hK K hHeld
  have hHeld:=hH2
  clear hH2
  (try simp only[apS,apN,siA,scZ,scS])
  (refine tkPx 29 104 (fun hH2=>?_) hHeld;clear hHeld;have hHeld:=hH2;clear hH2)
  (refine wpAnyHP_ready (rs:=[30]) (by decide +kernel) (by simp) ?_;refine AllReadyP.cons rfl (fun K hK=>?_) AllReadyP.nil;rw[if_pos (by kernel_rfl)];go_simp)
  refine hK.out _ _ ⟨Sc.mk (by simp only[cs_iff_cons];exact⟨b7.out.c 1 _ rfl,b7.out.c 2 _ rfl,cs_nil _⟩),fun h=>absurd h (by decide +kernel),fun _=>trivial⟩ (fun hH2=>?_)
  clear hK K hHeld
  have hHeld:=hH2
  clear hH2
  (try simp only[apS,apN,siA,scZ,scS])
  (refine wpAnyHP_ready (rs:=[31]) (by decide +kernel) (by simp) ?_;refine AllReadyP.cons rfl (fun K hK=>?_) AllReadyP.nil;rw[if_pos (by kernel_rfl)];go_simp)
  refine hK.out _ _ ⟨Sc.mk (by simp only[cs_iff_cons];exact⟨b8.out.c 1 _ rfl,b8.out.c 2 _ rfl,cs_nil _⟩),fun h=>absurd h (by decide +kernel),fun _=>trivial⟩ (fun hH2=>?_)
  clear hK K hHeld
  have hHeld:=hH2
  clear hH2
  (try simp only[apS,apN,siA,scZ,scS])
  (refine tkPx 32 106 (fun hH2=>?_) hHeld;clear hHeld;have hHeld:=hH2;clear hH2)
  (refine wpAnyHP_ready (rs:=[33]) (by decide +kernel) (by simp) ?_;refine AllReadyP.cons rfl (fun K hK=>?_) AllReadyP.nil;rw[if_pos (by kernel_rfl)];go_simp)
  refine hK.out _ _ ⟨Sc.mk (by simp only[cs_iff_cons];exact⟨b9.out.c 1 _ rfl,b9.out.c 2 _ rfl,cs_nil _⟩),fun h=>absurd h (by decide +kernel),fun h=>absurd h (by decide +kernel)⟩ (fun _=>?_)
  clear hK K hHeld
  (try simp only[apS,apN,siA,scZ,scS])
  refine wpAnyHP_done (by decide +kernel) ?_ _
  (try simp only[apS,apN,siA,scZ,scS])
  clear hme hes hme2 hes2
  go_wp2
  go_ret
  exact⟨rfl,_,_,hend.out,hvend.out,hbend.out,hfend.out⟩
 rw[if_pos (by kernel_rfl)]
 go_simp
 have hba:=below_alloc X (.cells #[.string x] 9)
 have src2:=Lib.hid (rowsAt_new X [.string x] 9)
 replace h:=Lib.hid (h.out.below hba)
 replace hfr:=Lib.hid (fun B h1 h2 h3 h4=>(hba.block B (by have:=hbel.out.size;omega)).trans (hfr.out B h1 h2 h3 h4))
 replace hbel:=Lib.hid (hbel.out.trans (hba.mono (by omega)))
 have hsY:X.heap.size<(X.alloc (.cells #[.string x] 9)).heap.size:=by simp
 obtain⟨Y1,hZ⟩:∃ Y1,X.alloc (.cells #[.string x] 9)=Y1:=⟨_,rfl⟩
 rw[hZ] at h hbel hfr src2 hba hsY ⊢
 clear hZ
 refine hK.out _ _ ⟨Sc.mk (by simp only[cs_iff_cons];exact⟨h.out.box.c 1 _ rfl,h.out.box.c 2 _ rfl,cs_nil _⟩),fun _=>h.out.ask hx hs hkv.out hps,fun _=>trivial⟩ (fun hH2=>?_)
 clear hK K hHeld
 have hHeld:=hH2
 clear hH2
 (try simp only[apS,apN,siA,scZ,scS])
 replace hown:=Lib.hid (hown.out.below hba)
 clear hba
 (refine wpAnyHP_ready (rs:=[17]) (by decide +kernel) (by simp) ?_;refine AllReadyP.cons rfl (fun K hK=>?_) AllReadyP.nil)
 rw[if_pos (by kernel_rfl)]
 go_simp
 have hba:=below_alloc Y1 (.cells #[.string s] 9)
 have src1:=Lib.hid (rowsAt_new Y1 [.string s] 9)
 replace h:=Lib.hid (h.out.below hba)
 replace hfr:=Lib.hid (fun B h1 h2 h3 h4=>(hba.block B (by have:=hbel.out.size;omega)).trans (hfr.out B h1 h2 h3 h4))
 replace hbel:=Lib.hid (hbel.out.trans (hba.mono (by omega)))
 have hsY:Y1.heap.size<(Y1.alloc (.cells #[.string s] 9)).heap.size:=by simp
 obtain⟨Y2,hZ⟩:∃ Y2,Y1.alloc (.cells #[.string s] 9)=Y2:=⟨_,rfl⟩
 rw[hZ] at h hbel hfr src1 hba hsY ⊢
 clear hZ
 refine hK.out _ _ ⟨Sc.mk (by simp only[cs_iff_cons];exact⟨h.out.box.c 1 _ rfl,h.out.box.c 2 _ rfl,cs_nil _⟩),fun _=>h.out.ask hx hs hkv.out hps,fun _=>trivial⟩ (fun hH2=>?_)
 clear hK K hHeld
 have hHeld:=hH2
 clear hH2
 (try simp only[apS,apN,siA,scZ,scS])
 replace hown:=Lib.hid (hown.out.below hba)
 replace src2:=Lib.hid (src2.out.below hba)
 clear hba
 (refine wpAnyHP_ready (rs:=[18]) (by decide +kernel) (by simp) ?_;refine AllReadyP.cons rfl (fun K hK=>?_) AllReadyP.nil)
 refine step_append_rows elemStr (by rfl) (.tmp 90) (.tmp 92) (by rfl) (by rfl) (by rfl) hown.out src1.out rfl (str_wid s) (str_one s) (by simp;omega) (by decide) (by have:=h.out.lt;omega) ?_
 intro v' Y3 hv hg _
 replace h:=Lib.hid (h.out.grown hg (fun g e1=>(hvb.out g e1).1))
 replace hfr:=Lib.hid (fun B h1 h2 h3 h4=>(hg.block B (by have:=hbel.out.size;omega) h4).trans (hfr.out B h1 h2 h3 h4))
 replace hbel:=Lib.hid (hbel.out.trans ((grown_below hg (fun g e1=>(hvb.out g e1).1) (by omega)).mono (by omega)))
 replace hv:=Lib.hid hv
 have hsZ:=hg.size
 replace src2:=Lib.hid (rows_far src2.out hg (fun a e1 e2=>by cases e1;have:=(hvb.out _ e2.symm).2;simp at this))
 refine hK.out _ _ ⟨Sc.mk (by simp only[cs_iff_cons];exact⟨h.out.box.c 1 _ rfl,h.out.box.c 2 _ rfl,cs_nil _⟩),fun _=>h.out.ask hx hs hkv.out hps,fun _=>trivial⟩ (fun hH2=>?_)
 clear hK K hHeld
 have hHeld:=hH2
 clear hH2
 (try simp only[apS,apN,siA,scZ,scS])
 (refine wpAnyHP_ready (rs:=[27]) (by decide +kernel) (by simp) ?_;refine AllReadyP.cons rfl (fun K hK=>?_) AllReadyP.nil)
 refine step_append_rows elemStr (by rfl) (.tmp 99) (.tmp 101) (by rfl) (by rfl) (by rfl) (OwnL.nil _ (q+7) 9 1) src2.out rfl (str_wid x) (str_one x) (by simp) (by decide) (by have:=h.out.lt;omega) ?_
 intro u' Y4 _ hgu _
 replace h:=Lib.hid (h.out.grown hgu (fun g e1=>by cases e1))
 replace hfr:=Lib.hid (fun B h1 h2 h3 h4=>(hgu.block B (by have:=hbel.out.size;omega) (by simp[Value.ownBlock])).trans (hfr.out B h1 h2 h3 h4))
 replace hbel:=Lib.hid (hbel.out.trans ((grown_below hgu (fun g e1=>by cases e1) (by have:=h.out.lt;omega)).mono (Nat.le_refl (q+1))))
 replace hv:=Lib.hid (hv.out.kept hgu (by rcases h9:Value.ownBlock v' with _ | g9 <;> simp[Value.ownBlock]))
 refine hK.out _ _ ⟨Sc.mk (by simp only[cs_iff_cons];exact⟨h.out.box.c 1 _ rfl,h.out.box.c 2 _ rfl,cs_nil _⟩),fun _=>h.out.ask hx hs hkv.out hps,fun _=>trivial⟩ (fun hH2=>?_)
 clear hK K hHeld
 have hHeld:=hH2
 clear hH2
 (try simp only[apS,apN,siA,scZ,scS])
 clear hgu
 have hne:∀ b c:Nat,b≠c→some b≠some c:=fun b c h9 e9=>h9 (Option.some.inj e9)
 obtain⟨n2,hn2,m2⟩:=h.out.pk
 obtain⟨v8,st,W6,hme,hg6,hs6,W7,hes,hm7,hg7,hs7⟩:=m2.entry strLit_inj (string_keyed Tryz.underlying9) Tryz.underlying73 (by unfold maxLen;omega) (strsZero _) (val:=v') (keyOf_string_mk Tryz.underlying9 hx)
 obtain⟨n3,hn3,m3⟩:=h.out.pp
 obtain⟨v9,st2,W8,hme2,hg8,hs8,W9,hes2,hm9,hg9,hs9⟩:=((m3.kept hg6 (hne _ _ (by omega))).kept hg7 (hne _ _ (by omega))).entry strLit_inj (string_keyed Tryz.underlying9) Tryz.underlying73 (by unfold maxLen;omega) (strsZero _) (val:=u') (keyOf_string_mk Tryz.underlying9 hs)
 have b6:=h.out.box.grown hg6 (hne _ _ (by omega))
 have b7:=b6.grown hg7 (hne _ _ (by omega))
 have b8:=b7.grown hg8 (hne _ _ (by omega))
 have b9:=Lib.hid (b8.grown hg9 (hne _ _ (by omega)))
 replace b6:=Lib.hid b6
 replace b7:=Lib.hid b7
 replace b8:=Lib.hid b8
 have hend:=Lib.hid (h.out.kids (hg6.trans hg7) hm7 (by omega) (hg8.trans hg9) hm9 (by omega))
 have hvend:=Lib.hid (((hv.out.kept (hg6.trans hg7) (.inr (fun e9=>by have:=(hv.out.lt _ e9).1;omega))).kept (hg8.trans hg9) (.inr (fun e9=>by have:=(hv.out.lt _ e9).1;omega))))
 have hgA:=hg6.trans hg7
 have hgB:=hg8.trans hg9
 have hlt4:=h.out.lt
 have hszA:=hgA.size
 have hbA:=(Below.refl (q+1) Y4).grown hgA (by omega) (fun g e9=>by have:=Option.some.inj e9;omega)
 have hbB:=(Below.refl (q+1) W7).grown hgB (by omega) (fun g e9=>by have:=Option.some.inj e9;omega)
 have hfend:=Lib.hid (fun B h1 h2 h3 h4=>((hgB.block B (by have:=hbel.out.size;omega) (hne _ _ h3)).trans (hgA.block B (by have:=hbel.out.size;omega) (hne _ _ h2))).trans (hfr.out B h1 h2 h3 h4))
 have hbend:=Lib.hid (hbel.out.trans (hbA.trans hbB))
 clear hgA hgB hszA hlt4 hbA hbB
 clear hm7 hg6 hg7 hg8 hg9 hm9 m2 m3 hs6 hs7 hs8 hs9 h hbel hv
 (refine wpAnyHP_ready (rs:=[28]) (by decide +kernel) (by simp) ?_;refine AllReadyP.cons rfl (fun K hK=>?_) AllReadyP.nil;rw[if_pos (by kernel_rfl)];go_simp)
 refine hK.out _ _ ⟨Sc.mk (by simp only[cs_iff_cons];exact⟨b6.out.c 1 _ rfl,b6.out.c 2 _ rfl,cs_nil _⟩),fun h=>absurd h (by decide +kernel),fun _=>trivial⟩ (fun hH2=>?_)
 clear hK K hHeld
 have hHeld:=hH2
 clear hH2
 (try simp only[apS,apN,siA,scZ,scS])
 (refine tkPx 29 104 (fun hH2=>?_) hHeld;clear hHeld;have hHeld:=hH2;clear hH2)
 (refine wpAnyHP_ready (rs:=[30]) (by decide +kernel) (by simp) ?_;refine AllReadyP.cons rfl (fun K hK=>?_) AllReadyP.nil;rw[if_pos (by kernel_rfl)];go_simp)
 refine hK.out _ _ ⟨Sc.mk (by simp only[cs_iff_cons];exact⟨b7.out.c 1 _ rfl,b7.out.c 2 _ rfl,cs_nil _⟩),fun h=>absurd h (by decide +kernel),fun _=>trivial⟩ (fun hH2=>?_)
 clear hK K hHeld
 have hHeld:=hH2
 clear hH2
 (try simp only[apS,apN,siA,scZ,scS])
 (refine wpAnyHP_ready (rs:=[31]) (by decide +kernel) (by simp) ?_;refine AllReadyP.cons rfl (fun K hK=>?_) AllReadyP.nil;rw[if_pos (by kernel_rfl)];go_simp)
 refine hK.out _ _ ⟨Sc.mk (by simp only[cs_iff_cons];exact⟨b8.out.c 1 _ rfl,b8.out.c 2 _ rfl,cs_nil _⟩),fun h=>absurd h (by decide +kernel),fun _=>trivial⟩ (fun hH2=>?_)
 clear hK K hHeld
 have hHeld:=hH2
 clear hH2
 (try simp only[apS,apN,siA,scZ,scS])
 (refine tkPx 32 106 (fun hH2=>?_) hHeld;clear hHeld;have hHeld:=hH2;clear hH2)
 (refine wpAnyHP_ready (rs:=[33]) (by decide +kernel) (by simp) ?_;refine AllReadyP.cons rfl (fun K hK=>?_) AllReadyP.nil;rw[if_pos (by kernel_rfl)];go_simp)
 refine hK.out _ _ ⟨Sc.mk (by simp only[cs_iff_cons];exact⟨b9.out.c 1 _ rfl,b9.out.c 2 _ rfl,cs_nil _⟩),fun h=>absurd h (by decide +kernel),fun h=>absurd h (by decide +kernel)⟩ (fun _=>?_)
 clear hK K hHeld
 (try simp only[apS,apN,siA,scZ,scS])
 refine wpAnyHP_done (by decide +kernel) ?_ _
 (try simp only[apS,apN,siA,scZ,scS])
 clear hme hes hme2 hes2
 go_wp2
 go_ret
 exact⟨rfl,_,_,hend.out,hvend.out,hbend.out,hfend.out⟩
end Go.Proofs.YtcnfhnndppollaaGreatDoor
namespace Go.Proofs.YtcnfhnndppollaaGreatDoor
open Go Go.RowKit Go.Shelf Go.Maps
attribute [local go_sem] Oper.semAt_some
def prR (p:ByteArray × ByteArray):List Value:=[.string p.1,.string p.2]
def prL (l:List (ByteArray × ByteArray)) (k:Nat):ByteArray × ByteArray:=l.getD (l.length-1-k) (⟨#[]⟩,⟨#[]⟩)
def prE (l:List (ByteArray × ByteArray)) (k:Nat):Array Value:=#[.int .i64 ((l.length-1-k:Nat):Int),.agg #[.string (prL l k).1,.string (prL l k).2]]
structure BkI (bx c:Nat) (A:Option Addr) (l:List (ByteArray × ByteArray)) (W:World):Prop where
 box:BoxAt W bx [.slice A l.length c]
 rows:RowsAt W A 2 (l.map prR)
theorem back_raw (bx c:Nat) (A:Option Addr) (l:List (ByteArray × ByteArray)) (hl:l.length≤1000) (n:Nat) :
  SeqRaw Fence.wide n Tryz.prog 93 #[.pointer (some ⟨bx,0,none⟩)]
   (prE l) (fun k=>k+1) (fun _ W=>BkI bx c A l W) (fun _ _ _=>False) (fun k X Y=>k<l.length∧X=Y) (fun k=>k=l.length) 0:=by
 intro lp J Jx W hInv hStep hAsk h0
 show CallsIn Fence.wide n Tryz.prog 93 _ W _
 refine callsIn_of_wp Tryz.func93 rfl trivial ?_ rfl
 simp only[Tryz.ntmps93,List.size_toArray,List.length_cons,List.length_nil,Nat.reduceAdd,Nat.reduceSub,Array.replicate_succ,Array.replicate_zero,List.push_toArray,List.append_toArray,List.nil_append,List.cons_append]
 have hf0:=(hInv _ _ h0).box.c 0 _ rfl
 have hInv:=Lib.hid hInv
 have hAsk:=Lib.hid hAsk
 clear hStep
 gi_wp2
 clear hf0
 gi_loopw [3] (fun v wr=>∃ m:Nat,m≤l.length∧v=.int .i64 ((m:Int)-1)∧J (l.length-m) wr) (fun v _=>(intOf v+1).toNat)
 case atStart=>exact⟨l.length,Nat.le_refl _,by go_num,by rw[Nat.sub_self];exact h0⟩
 case round =>
  obtain⟨m,hm,rfl,hJ⟩:=hrel
  clear h0
  rcases Nat.eq_zero_or_pos m with rfl | hpos
  ·have hJ:=Lib.hid hJ
   gi_wp2
   refine bodyPost_end (results_none rfl _ _ _) rfl ?_
   exact⟨⟨_,rfl⟩,.inl ⟨_,rfl,hJ.out⟩⟩
  obtain⟨j,rfl⟩:∃ j,m=j+1:=⟨m-1,by omega⟩
  have hi:=hInv.out _ _ hJ
  have x0:=hi.box.c 0 _ rfl
  have hj:j<l.length:=by omega
  obtain⟨b,o,hA,hbl,hc⟩:=hi.rows j (prR l[j]) (by simp[hj])
  subst hA
  have c0:=hc 0 _ rfl
  have c1:=hc 1 _ rfl
  rw[Nat.add_zero] at c0
  rw[←Nat.add_assoc] at c1
  have he:prE l (l.length-(j+1))=#[.int .i64 (j:Int),.agg #[.string (l[j]).1,.string (l[j]).2]]:=by
   unfold prE prL
   rw[show l.length-1-(l.length-(j+1))=j by omega]
   simp[hj]
  have hask:=hAsk.out _ wr wr hJ ⟨by omega,rfl⟩
  rw[he] at hask
  obtain⟨fn,tmps,assign,body,hy,hR⟩:=hask
  have hv:((j+1:Nat):Int)-1=(j:Int):=by omega
  rw[hv]
  clear hi hJ hInv hAsk he hc hv
  have hnx:l.length-(j+1)+1=l.length-j:=by omega
  rw[hnx] at hR
  clear hnx
  gi_wp2
  refine⟨fun h=>(by cases h),?_⟩
  refine hR.mono ?_
  clear hy hR x0 c0 c1
  rintro e w2 (⟨rfl,hJ2⟩ | ⟨rfl,hJx⟩)
  ·have hJ2:=Lib.hid hJ2
   gi_wp2
   go_roundw
   case rel=>exact⟨j,by omega,by go_num,hJ2.out⟩
   case measure=>simp[intOf]
  have hJx:=Lib.hid hJx
  gi_wp2
  refine bodyPost_ret (results_none rfl _ _ _) rfl ?_
  exact⟨⟨_,rfl⟩,.inr hJx.out⟩
end Go.Proofs.YtcnfhnndppollaaGreatDoor
namespace Go.Proofs.YtcnfhnndppollaaGreatDoor
open Go Go.RowKit
variable {F : Fence} {n : Nat} {P : Program}
theorem wpIn_rangeFunc_rawD {β:Type} {g:Operand} {ps:Array Tmp} {assign body:Code} {Q:Exit→Act→World→Prop} {a:Act} {w:World}
  (hro:F.round=none) (h1:1≤n) {gf:Nat} {lb:Array Value} (hg:a.eval g=.func (.func gf) #[] lb) (hFg:F.fn gf) (eg:∀ args w,(callFunc gf args).run P w=.ok (.enter gf args) w)
  {encs:β→Array Value} {next:β→β} {Inv:β→World→Prop} {Step Ask:β→World→World→Prop} {End:β→Prop} {s0:β}
  (hseq:SeqRaw F (n-1) P gf lb encs next Inv Step Ask End s0) (hps:∀ x,(encs x).size=ps.size)
  (hkS:∀ s A B (k:Nat) (o:Obj),Inv s A→(Step s A B∨Ask s A B)→A.heap[k]?=some o→isBook o=true→B.heap[k]?=some o)
  (I IA:β→World→Prop) (Ix:Code→World→Prop)
  (hIInv:∀ s A,I s A→Inv s A) (hIS:∀ s A B,I s A→Step s A B→I (next s) B) (hIA:∀ s A B,I s A→Ask s A B→IA s B)
  (hI1:∀ s A o,isBook o=true→I s A→I s (A.alloc o))
  (hI2:∀ s A (l:Nat) (o o':Obj),w.heap.size≤l→A.heap[l]?=some o→isBook o=true→isBook o'=true→I s A→I s (A.putObj l o'))
  (IB:β→Act→World→Prop) (hIB2:∀ s a' A (l:Nat) (o o':Obj),w.heap.size≤l→A.heap[l]?=some o→isBook o=true→isBook o'=true→IB s a' A→IB s a' (A.putObj l o'))
  (hIx2:∀ c A (l:Nat) (o o':Obj),w.heap.size≤l→A.heap[l]?=some o→isBook o=true→isBook o'=true→Ix c A→Ix c (A.putObj l o'))
  (h0:I s0 w)
  (hassign:∀ (l:Nat) (x:β) (W:World) (K:Act→World→Prop),IA x W→(∀ a' W',KeepsOthers W W'→IB x a' W'→K a' W') →
   assign.wpIn (F.inRound l) (n-1-1) P (Exit.then K (fun _ _ _=>False)) { tmps:=(ps.zip (encs x)).foldl (fun t (p,v)=>t.setIfInBounds p v) a.tmps,defers:=[] } W)
  (hbody:∀ (l:Nat) (x:β) (a':Act) (W:World),IB x a' W→body.wpIn (F.inRound l) (n-1-1) P (rawPost (I (next x)) Ix W) a' W)
  (hdone:∀ (D:Nat) (s:β) (W:World),End s→I s W→w.heap.size≤D→W.heap[D]?=some (.deferred (some []))→Q .normal { a with defers:={ target:=.collected D,args:=#[] } :: a.defers } W)
  (hstop:∀ (D:Nat) (c:Code) (W:World),Ix c W→w.heap.size≤D→W.heap[D]?=some (.deferred (some []))→c.wpIn F n P Q { a with defers:={ target:=.collected D,args:=#[] } :: a.defers } W) :
  (Code.rangeFunc g ps assign body).wpIn F n P Q a w:=by
 refine wpIn_rangeFunc ?_
 intro fn hfn
 rw[hro]
 obtain⟨rec,hrec⟩:∃ rec:LoopState→Option Code→Loop,rec=fun st pe=>{ state:=st,pending:=pe,fn,tmps:=a.tmps,params:=ps,assign,body,defers:=w.heap.size }:=⟨_,rfl⟩
 obtain⟨Z1,hZ1⟩:∃ Z1,(w.alloc (.deferred (some []))).alloc (.loop (rec .ready none))=Z1:=⟨_,rfl⟩
 have hL1:Z1.heap[w.heap.size+1]?=some (.loop (rec .ready none)):=by
  rw[←hZ1];have:=World.alloc_heap_new (w.alloc (.deferred (some []))) (.loop (rec .ready none));rwa [World.size_alloc] at this
 have hK1:Z1.heap[w.heap.size]?=some (.deferred (some [])):=by
  rw[←hZ1];exact (Below.heap_alloc _ _ _ (by simp)).trans (World.alloc_heap_new w _)
 have hI1':I s0 Z1:=by rw[←hZ1];exact hI1 _ _ _ rfl (hI1 _ _ _ rfl h0)
 refine⟨w.heap.size+1,[{ target:=.collected w.heap.size,args:=#[] }],Z1,{ target:=.fn (.func gf) lb,args:=#[.func (.yield (w.heap.size+1)) #[] #[]] },Z1,gf,
  #[.func (.yield (w.heap.size+1)) #[] #[]] ++ lb,Z1,?_,?_,?_,?_,fun _=>h1,?_⟩
 ·rw[←hZ1,hrec];exact run_enterLoop_outer _ _ _ _ _
 ·simp only[resolve,hg]
  simp[go_sem]
 ·intro f' hf';simp[Target.leads] at hf';subst hf';exact hFg
 ·simp[invoke,go_sem,eg]
 refine (hseq (w.heap.size+1)
  (fun s W=>I s W∧W.heap[w.heap.size+1]?=some (.loop (rec .ready none))∧W.heap[w.heap.size]?=some (.deferred (some [])))
  (fun W=>∃ c,Ix c W∧W.heap[w.heap.size+1]?=some (.loop (rec .done (some c)))∧W.heap[w.heap.size]?=some (.deferred (some [])))
  Z1 (fun s A h=>hIInv s A h.1)
  (fun s A B h hs=>⟨hIS s A B h.1 hs,hkS s A B _ _ (hIInv s A h.1) (.inl hs) h.2.1 rfl,hkS s A B _ _ (hIInv s A h.1) (.inl hs) h.2.2 rfl⟩)
  ?_ ⟨hI1',hL1,hK1⟩).mono ?_
 ·rintro x A W ⟨hi,hl0,hk0⟩ hask
  have hl:=hkS x A W _ _ (hIInv x A hi) (.inr hask) hl0 rfl
  have hk:=hkS x A W _ _ (hIInv x A hi) (.inr hask) hk0 rfl
  have hia:=hIA x A W hi hask
  have hlt:w.heap.size+1<W.heap.size:=(Array.getElem?_eq_some_iff.1 hl).1
  have hy:=run_yield (P:=P) (args:=encs x) hl (by rw[hrec];exact hps x)
  rw[hrec] at hy
  refine⟨fn,_,assign,body,hy,roundIn_of_wpIn hfn (hassign _ x W _ hia (fun a' X9 hk9 hib=>?_))⟩
  have hl9:=hk9.same _ _ hl rfl
  have hkk9:=hk9.same _ _ hk rfl
  have hlt9:w.heap.size+1<X9.heap.size:=(Array.getElem?_eq_some_iff.1 hl9).1
  refine⟨_,run_beginRound hl9 (by rw[hrec]),?_⟩
  have hl2:(X9.putObj (w.heap.size+1) (.loop { rec .ready none with state:=.busy })).heap[w.heap.size+1]?=some (.loop { rec .ready none with state:=.busy }):=World.putObj_heap_same hlt9
  have hk2:(X9.putObj (w.heap.size+1) (.loop { rec .ready none with state:=.busy })).heap[w.heap.size]?=some (.deferred (some [])):=(World.putObj_heap_other (by omega)).trans hkk9
  refine wpIn_mono (hbody _ x a' _ (hIB2 _ _ _ _ _ _ (by omega) hl9 rfl rfl hib)) ?_
  have fin:∀ (jump:Option Code) (Z3:World),KeepsOthers (X9.putObj (w.heap.size+1) (.loop { rec .ready none with state:=.busy })) Z3 →
    (Instr.endRound (w.heap.size+1) jump).run P Z3=.ok (.bool jump.isNone) (Z3.putObj (w.heap.size+1) (.loop (rec (if jump.isNone then .ready else .done) jump))) ∧
    Z3.heap[w.heap.size+1]?=some (.loop { rec .ready none with state:=.busy }) ∧
    (Z3.putObj (w.heap.size+1) (.loop (rec (if jump.isNone then .ready else .done) jump))).heap[w.heap.size+1]?=some (.loop (rec (if jump.isNone then .ready else .done) jump)) ∧
    (Z3.putObj (w.heap.size+1) (.loop (rec (if jump.isNone then .ready else .done) jump))).heap[w.heap.size]?=some (.deferred (some [])):=fun jump Z3 hk3=>by
   have hl3:=hk3.same _ _ hl2 rfl
   have:=run_endRound (P:=P) jump hl3
   rw[hrec] at this ⊢
   exact⟨this,by rw[hrec] at hl3;exact hl3,World.putObj_heap_same (Array.getElem?_eq_some_iff.1 hl3).1,(World.putObj_heap_other (by omega)).trans (hk3.same _ _ hk2 rfl)⟩
  rintro e a3 Z3 hp
  cases e with
  | normal =>
   obtain⟨hk3,hi3⟩:=hp
   obtain⟨hr,hl3,hl4,hk4⟩:=fin none Z3 hk3
   exact⟨_,_,hr,.inl ⟨rfl,hI2 _ _ _ _ _ (by omega) hl3 rfl rfl hi3,hl4,hk4⟩⟩
  | ret =>
   obtain⟨hk3,hi3⟩:=hp
   obtain⟨hr,hl3,hl4,hk4⟩:=fin (some .ret) Z3 hk3
   exact⟨_,_,hr,.inr ⟨rfl,.ret,hIx2 _ _ _ _ _ (by omega) hl3 rfl rfl hi3,hl4,hk4⟩⟩
  | exit id =>
   obtain⟨hk3,hi3⟩:=hp
   obtain⟨hr,hl3,hl4,hk4⟩:=fin (some (.exit id)) Z3 hk3
   exact⟨_,_,hr,.inr ⟨rfl,.exit id,hIx2 _ _ _ _ _ (by omega) hl3 rfl rfl hi3,hl4,hk4⟩⟩
  | goto t =>
   obtain⟨hk3,hi3⟩:=hp
   obtain⟨hr,hl3,hl4,hk4⟩:=fin (some (.goto t)) Z3 hk3
   exact⟨_,_,hr,.inr ⟨rfl,.goto t,hIx2 _ _ _ _ _ (by omega) hl3 rfl rfl hi3,hl4,hk4⟩⟩
  | panic ch=>exact hp.elim
  | outgrown=>exact hp.elim
 rintro e Z2 ⟨⟨v,rfl⟩,(⟨s,hE,hi,hl,hk⟩ | ⟨c,hi,hl,hk⟩)⟩
 ·exact⟨none,_,by have:=run_endLoop (P:=P) hl (by rw[hrec];simp);rw[hrec] at this;exact this,hdone _ s _ hE (hI2 _ _ _ _ _ (by omega) hl rfl rfl hi) (Nat.le_refl _) ((World.putObj_heap_other (by omega)).trans hk)⟩
 exact⟨some c,_,by have:=run_endLoop (P:=P) hl (by rw[hrec];simp);rw[hrec] at this;exact this,hstop _ c _ (hIx2 _ _ _ _ _ (by omega) hl rfl rfl hi) (Nat.le_refl _) ((World.putObj_heap_other (by omega)).trans hk)⟩
end Go.Proofs.YtcnfhnndppollaaGreatDoor
namespace Go.Proofs.YtcnfhnndppollaaGreatDoor
open Go Go.RowKit Go.Shelf Go.Maps
attribute [local go_sem] Oper.semAt_some
theorem results_cel1 {P:Program} {fn:Func} {t:Tmp} {ty:TypeId} (h:fn.results=#[.cell t ty]) (tmps:Array Value) (w:World) (b:Addr) (v:Value)
  (hq:tmps.getD t undef=.pointer (some b)) (hv:(loadVar ty b).run P w=.ok v w):(results fn tmps).run P w=.ok v w:=by
 have hq':tmps[t]?.getD undef=.pointer (some b):=by simpa using hq
 simp[results,h,hq',asAddr,hv]
structure SpI (w:World) (q c:Nat) (A:Option Addr) (l:List (ByteArray × ByteArray)) (s:ByteArray) (W:World):Prop where
 p:BoxAt W w.heap.size [.pointer (some ⟨q+6,0,none⟩)]
 n:BoxAt W (w.heap.size+1) [.string s]
 r:BoxAt W (w.heap.size+1+1) [.string ⟨#[]⟩]
 b:BkI (w.heap.size+1+1+1) c A l W
 bel:Below w.heap.size w W
theorem SpI.below {w:World} {q c:Nat} {A:Option Addr} {l:List (ByteArray × ByteArray)} {s:ByteArray} {W W':World} (h:SpI w q c A l s W) (hb:Below W.heap.size W W'):SpI w q c A l s W' :=
 ⟨h.p.below hb,h.n.below hb,h.r.below hb,⟨h.b.box.below hb,h.b.rows.below hb⟩,h.bel.trans (hb.mono h.bel.size)⟩
theorem SpI.put {w:World} {q c:Nat} {A:Option Addr} {l:List (ByteArray × ByteArray)} {s:ByteArray} {W:World} (h:SpI w q c A l s W) {k:Nat} {o o':Obj} (hk:W.heap[k]?=some o) (ho:isBook o=true) (hle:w.heap.size+1+1+1<k) (hA:l=[]∨∀ a,A=some a→a.block<w.heap.size):SpI w q c A l s (W.putObj k o'):=by
 have hg:=grownBy_putObj' W k o'
 have ne:∀ b,b≤w.heap.size+1+1+1→some b≠some k:=fun b hb e=>by have:=Option.some.inj e;omega
 refine⟨h.p.grown hg (ne _ (by omega)),h.n.grown hg (ne _ (by omega)),h.r.grown hg (ne _ (by omega)),⟨h.b.box.grown hg (ne _ (by omega)),?_⟩,h.bel.trans ((Below.refl _ W).grown hg h.bel.size (fun g e=>by have:=Option.some.inj e;omega))⟩
 rcases hA with rfl | hA
 ·exact RowsAt.nil _ _ _
 exact rows_far h.b.rows hg (fun a e=>ne _ (by have:=hA a e;omega))
theorem Back_any (v:Value) (hv:v.oneCell'=true) (w:World):Calls Tryz.prog 83 #[v] w fun e w'=>e=.returned (.func (.func 93) #[] #[.pointer (some ⟨w.heap.size,0,none⟩)])∧w'=w.alloc (.cells #[v] 74):=by
 go_enter Tryz.func83,Tryz.ntmps83
 cases v <;> first | (cases hv;done) | skip
 all_goals
  go_wp2
  go_ret
  exact⟨rfl,rfl⟩
theorem spouse_nil {q k:Nat} {fd fk fp:List UInt8→Option Value} {T:Value} {la ct:Int} (A:Option Addr) (c:Nat) (s:ByteArray) (w:World) (h:Wd w q k fd fk fp (.slice A 0 c) T la ct) :
  Calls Tryz.prog 64 #[.pointer (some ⟨q+6,0,none⟩),.string s] w fun e w'=>e=.returned (.string ⟨#[]⟩)∧Below w.heap.size w w':=by
 refine (callsIn_wide (n:=4)).1 ?_
 refine callsIn_of_wp_marks Tryz.func64 rfl trivial ?_ rfl
 simp only[Tryz.ntmps64,List.size_toArray,List.length_cons,List.length_nil,Nat.reduceAdd,Nat.reduceSub,Array.replicate_succ,Array.replicate_zero,List.push_toArray,List.append_toArray,List.nil_append,List.cons_append]
 have h3:=((((h.below (below_alloc w (.cells #[.pointer (some ⟨q+6,0,none⟩)] 110))).below (below_alloc _ (.cells #[.string s] 9))).below (below_alloc _ (.cells #[.string ⟨#[]⟩] 9)))).box.c 3 _ rfl
 obtain⟨Y,hY⟩:∃ Y,((w.alloc (.cells #[.pointer (some ⟨q+6,0,none⟩)] 110)).alloc (.cells #[.string s] 9)).alloc (.cells #[.string ⟨#[]⟩] 9)=Y:=⟨_,rfl⟩
 have hYs:Y.heap.size=w.heap.size+1+1+1:=by rw[←hY];simp
 have hp:BoxAt Y w.heap.size [.pointer (some ⟨q+6,0,none⟩)]:=by rw[←hY];exact ((BoxAt.new w #[.pointer (some ⟨q+6,0,none⟩)] _).alloc _).alloc _
 have hn:BoxAt Y (w.heap.size+1) [.string s]:=by
  rw[←hY]
  have:=BoxAt.new (w.alloc (.cells #[.pointer (some ⟨q+6,0,none⟩)] 110)) #[.string s] 9
  rw[World.size_alloc] at this
  exact this.alloc _
 have hr:BoxAt Y (w.heap.size+1+1) [.string ⟨#[]⟩]:=by
  rw[←hY]
  have:=BoxAt.new ((w.alloc (.cells #[.pointer (some ⟨q+6,0,none⟩)] 110)).alloc (.cells #[.string s] 9)) #[.string ⟨#[]⟩] 9
  rw[World.size_alloc,World.size_alloc] at this
  exact this
 have hbY:Below w.heap.size w Y:=by rw[←hY];exact below_step (below_step (below_alloc _ _) (below_alloc _ _)) (below_alloc _ _)
 have hb:=BoxAt.new Y #[.slice A 0 c] 74
 rw[hYs] at hb
 have hI:=Lib.hid (SpI.mk (w:=w) (A:=A) (c:=c) (l:=[]) (hp.alloc (.cells #[.slice A 0 c] 74)) (hn.alloc _) (hr.alloc _) ⟨hb,RowsAt.nil _ _ _⟩ (below_step hbY (below_alloc _ _)))
 have hbk:=Lib.hid (Back_any (.slice A 0 c) rfl Y)
 have hYs:=Lib.hid hYs
 have y0:=hp.c 0 _ rfl
 rw[hY] at h3
 clear hp hn hr hbY hb h
 gi_wp2_with (refine⟨trivial,?_⟩;refine (callsIn_wide.2 hbk.out).mono ?_;clear h3 y0;rintro e9 w9 ⟨rfl,rfl⟩)
 clear hY
 refine wpIn_rangeFunc_rawD rfl (by omega) (gf:=93) (lb:=#[.pointer (some ⟨w.heap.size+1+1+1,0,none⟩)]) rfl trivial (enters_of Tryz.func93 (by kernel_rfl) rfl)
  (back_raw (w.heap.size+1+1+1) c A [] (by simp) 3) (fun _=>rfl)
  (fun _ X Z j o _ hs hj _=>by
   rcases hs with h | h
   ·exact h.elim
   obtain⟨_,rfl⟩:=h
   exact hj)
  (fun _ W=>SpI w q c A [] s W) (fun _ _=>False) (fun _ _=>False)
  (fun _ X h=>h.b) (fun _ _ _ _ h=>h.elim) (fun _ _ _ _ hs=>by simp at hs)
  (fun _ X o _ h=>h.below (below_alloc _ _))
  (fun _ X l o o' hl hX ho _ h=>h.put hX ho (by rw[World.size_alloc,hYs.out] at hl;omega) (.inl rfl))
  (fun _ _ _=>False) (fun _ _ _ _ _ _ _ _ _ _ h=>h.elim) (fun _ _ _ _ _ _ _ _ _ h=>h.elim)
  hI.out ?assign ?body ?done ?stop
 case assign=>exact fun _ _ _ _ h _=>h.elim
 case body=>exact fun _ _ _ _ h=>h.elim
 case stop=>exact fun _ _ _ h=>h.elim
 case done =>
  rintro D kk W hE hS hD hK
  have r0:=hS.r.c 0 _ rfl;have r1:=hS.r.free 0 (by simp)
  have hDl:w.heap.size+1+1+1<D:=by rw[World.size_alloc,hYs.out] at hD;omega
  have hS:=Lib.hid hS
  have hK:=Lib.hid hK
  clear hD hE hI
  gi_wp2
  have hK2:(W.setCell ⟨w.heap.size+1+1,0,none⟩ (.string ⟨#[]⟩)).heap[D]?=some (.deferred (some [])):=(Below.heap_setCell W ⟨w.heap.size+1+1,0,none⟩ (.string ⟨#[]⟩) D (by show D≠w.heap.size+1+1;omega)).trans hK.out
  refine⟨by simp,.inl ⟨_,_,rfl,run_takeDeferred hK2,?_⟩⟩
  have hz:=((hS.out.r.set 0 (.string ⟨#[]⟩) (by simp)).grown (grownBy_putObj' _ D (.deferred none)) (fun e=>by have:=Option.some.inj e;omega)).c 0 _ rfl
  have hbe:=(hS.out.bel.setCell (p:=⟨w.heap.size+1+1,0,none⟩) (by show w.heap.size≤w.heap.size+1+1;omega) (.string ⟨#[]⟩)).trans ((Below.refl w.heap.size _).grown (grownBy_putObj' _ D (.deferred none)) (by have:=hS.out.bel.size;simpa using this) (fun g e=>by have:=Option.some.inj e;omega))
  exact⟨_,results_cel1 rfl _ _ ⟨w.heap.size+1+1,0,none⟩ (.string ⟨#[]⟩) rfl (by simp[go_sem,hz]),rfl,hbe⟩
end Go.Proofs.YtcnfhnndppollaaGreatDoor
namespace Go.Proofs.YtcnfhnndppollaaGreatDoor
open Go Go.RowKit Go.Maps Go.WideMaps
theorem elemPr:Elem Tryz.prog 74 111 2 32:=Elem.mk' Tryz.underlying74 (z:=.agg #[.string ⟨#[]⟩,.string ⟨#[]⟩]) (by kernel_rfl) rfl (by decide)
theorem pr_wid (l:List (ByteArray × ByteArray)):∀ r∈l.map prR,r.length=2:=fun r hr=>by obtain⟨x,_,rfl⟩:=List.mem_map.1 hr;rfl
theorem pr_one (l:List (ByteArray × ByteArray)):∀ r∈l.map prR,∀ u∈r,u.oneCell'=true:=fun r hr u hu=>by
 obtain⟨x,_,rfl⟩:=List.mem_map.1 hr
 unfold prR at hu
 simp only[List.mem_cons,List.not_mem_nil,or_false] at hu
 rcases hu with rfl | rfl <;> rfl
theorem grown_any {w w':World} (h:w.grownBy w' none) (r:Option Nat):w.grownBy w' r:=⟨h.os,h.tape,h.output,h.size,fun k hk _=>h.block k hk (by simp)⟩
def MarP (q k:Nat) (fd fk fp:List UInt8→Option Value) (T:Value) (la ct:Int) (x s:ByteArray) (w:World) (e:Ending) (w':World):Prop :=
 e=.returned (.int .i64 0)∧∃ v',Wd w' q k fd fk fp v' T la ct∧OwnL w' (q+7) 111 2 v' ([(x,s)].map prR)∧Below (q+1) w w'∧w.grownBy w' (some (q+6))
theorem Wd.setM {W:World} {q k:Nat} {fd fk fp:List UInt8→Option Value} {M T:Value} {la ct:Int} (h:Wd W q k fd fk fp M T la ct) (v:Value):Wd (W.setCell ⟨q+6,3,none⟩ v) q k fd fk fp v T la ct:=by
 have hg:=grown_set W (q+6) 3 v
 have hne:∀ b,b<q+6→some b≠some (q+6):=fun b hb e=>by have:=Option.some.inj e;omega
 have hl:=h.lt
 obtain⟨n1,e1,m1⟩:=h.pd
 obtain⟨n2,e2,m2⟩:=h.pk
 obtain⟨n3,e3,m3⟩:=h.pp
 exact⟨h.box.set 3 v (by simp),⟨n1,e1,m1.kept hg (hne _ (by omega))⟩,⟨n2,e2,m2.kept hg (hne _ (by omega))⟩,⟨n3,e3,m3.kept hg (hne _ (by omega))⟩,(hg.block _ (by omega) (hne _ (by omega))).trans h.pl,(hg.block _ (by omega) (hne _ (by omega))).trans h.pr⟩
theorem take_marriage {q k:Nat} {fd fk fp:List UInt8→Option Value} {T:Value} {la ct:Int} (dy:Int) (c:Nat) (A:Option Addr) (x s:ByteArray) (hx:x.size≤maxLen) (hs:s.size≤maxLen) (w:World) (h:Wd w q k fd fk fp (.slice none 0 0) T la ct)
  (hr:RowsAt w A 3 ([⟨s,0,0⟩].map Pa.cells)) (hdx:fd x.data.toList=none) (hds:fd s.data.toList=none) :
  Calls Tryz.prog 40 #[.pointer (some ⟨q+6,0,none⟩),.agg #[.int .i64 7,.int .i64 dy,.string ⟨#[]⟩,.string x,.slice A 1 c,.int .i64 0,.int .i64 0]] w (MarP q k fd fk fp T la ct x s w):=by
 obtain⟨b1,o1,hA,hbl,p0,p1,p2⟩:=pa_at hr
 subst hA
 have hz:=Lib.hid (fun W (hb:Below w.heap.size w W)=>pa_at (hr.below hb))
 clear p0 p1 p2 hr
 have ha:=below_alloc w (.cells #[.int .i64 7,.int .i64 dy,.string ⟨#[]⟩,.string x,.slice (some ⟨b1,o1,none⟩) 1 c,.int .i64 0,.int .i64 0] 38)
 have h2:=h.below ha
 have e1:=h2.dead x hx
 rw[hdx,Option.getD_none] at e1
 have e2:=h2.dead s hs
 rw[hds,Option.getD_none] at e2
 have b0:=h2.box.c 0 _ rfl
 obtain⟨b9,o9,hA9,_,p0,p1,p2⟩:=hz.out _ ha
 cases hA9
 have hsp:=Lib.hid (fun W (hb:Below w.heap.size w W) (n:ByteArray)=>spouse_nil none 0 n W (h.below hb))
 replace ha:=Lib.hid ha
 clear hbl h2 hz
 have hwl:=h.lt
 replace h:=Lib.hid h
 go_enter Tryz.func40,Tryz.ntmps40
 go_upto_region 25 with (first
  |(go_at_call 64;refine (hsp.out _ ha.out _).mono ?_;rintro e9 w9 ⟨rfl,hbn⟩;replace ha:=Lib.hid (below_step ha.out hbn);clear hbn))
 clear e1 e2 b0 p0 p1 p2 hsp
 replace h:=Lib.hid (h.out.below ha.out)
 have hl9:=h.out.lt
 have b3:=h.out.box.c 3 _ rfl
 go_wp2_with (at_builtin;refine wpList_append_rows elemPr rfl _ _ rfl rfl rfl (OwnL.nil _ (q+7) 111 2) (rowsAt_new w9 (prR (x,s)) 111) rfl (pr_wid [(x,s)]) (pr_one [(x,s)]) (by simp) (by decide) (by simp;omega) ?_;intro v' w6 hown hg _;clear b3;have h6:=(h.out.below (below_alloc w9 (.cells #[.string x,.string s] 111))).grown hg (fun g e=>by cases e);have hb6:Below (q+1) w w6:=(ha.out.mono (by omega)).trans (((below_alloc w9 (.cells #[.string x,.string s] 111)).mono (by omega)).trans (grown_below hg (fun g e=>by cases e) (by simp;omega)));have hgr:=Lib.hid (((below_grown ha.out (some (q+6))).trans (World.grownBy_alloc w9 (.cells #[.string x,.string s] 111) (some (q+6)))).trans (grown_any hg (some (q+6))));have y0:=h6.box.c 3 _ rfl;have y1:=h6.box.free 3 (by simp);obtain⟨A5,c5,hv5,_⟩:=OwnL.form hown;subst hv5;replace hown:=Lib.hid hown;replace h6:=Lib.hid h6;replace hb6:=Lib.hid hb6;clear hg)
 clear y0 y1
 go_ret
 exact⟨rfl,_,h6.out.setM _,hown.out.offF (B':=q+6) 3 _ (by omega),hb6.out.setCell (p:=⟨q+6,3,none⟩) (by show q+1≤q+6;omega) _,hgr.out.trans (grown_set _ (q+6) 3 _)⟩
end Go.Proofs.YtcnfhnndppollaaGreatDoor
namespace Go.Proofs.YtcnfhnndppollaaGreatDoor
open Go Go.RowKit Go.Maps Go.WideMaps
theorem inForce_any (b n c:Nat) (pl:ByteArray) (cl fr en dy:Int) (A:Option Addr) (D:Value) (hn:0<n) (w:World) (hx:BoxAt w b [.string pl,.int .i64 cl,.int .i64 fr,.int .i64 en,.slice A n c,D]) :
  Calls Tryz.prog 47 #[.pointer (some ⟨b,0,none⟩),.int .i64 dy] w fun e w'=>e=.returned (.bool (decide (en<0) || decide (dy<en)))∧w=w':=by
 have c4:=hx.c 4 _ rfl;have c3:=hx.c 3 _ rfl
 have hn1:(0:Int)<(n:Int):=by omega
 clear hx
 by_cases h1:en<0
 ·go_enter Tryz.func47,Tryz.ntmps47
  go_wp2
  go_ret
  exact⟨by simp[h1],rfl⟩
 by_cases h2:dy<en
 all_goals
  go_enter Tryz.func47,Tryz.ntmps47
  go_wp2
  go_ret
  exact⟨by simp[h1,h2],rfl⟩
theorem in_none {q k c:Nat} {fd fk fp:List UInt8→Option Value} {A:Option Addr} {M:Value} {la ct:Int} (pl:ByteArray) (dy:Int) (w:World) (h:Wd w q k fd fk fp M (.slice A 0 c) la ct) :
  Calls Tryz.prog 24 #[.pointer (some ⟨q+6,0,none⟩),.string pl,.int .i64 dy] w fun e w'=>e=.returned (.pointer none)∧Below w.heap.size w w':=by
 have b6:=h.box.c 6 _ rfl
 clear h
 go_enter Tryz.func24,Tryz.ntmps24
 go_wp2
 refine wp_unroll 1 ?_
 unfold unroll
 go_wp2
 go_ret
 exact⟨rfl,Below.refl _ _⟩
structure TbAt (W:World) (b n c:Nat) (cl fr en:Int) (A TA:Option Addr) (D:Value):Prop where
 row:RowsAt W TA 1 [[.pointer (some ⟨b,0,none⟩)]]
 box:BoxAt W b [.string ⟨#[97,49]⟩,.int .i64 cl,.int .i64 fr,.int .i64 en,.slice A n c,D]
theorem TbAt.below {W W':World} {b n c:Nat} {cl fr en:Int} {A TA:Option Addr} {D:Value} (h:TbAt W b n c cl fr en A TA D) (hb:Below W.heap.size W W'):TbAt W' b n c cl fr en A TA D:=⟨h.row.below hb,h.box.below hb⟩
theorem in_one {q k n c tc b:Nat} {fd fk fp:List UInt8→Option Value} {A TA:Option Addr} {M D:Value} {la ct cl fr en:Int} (dy:Int) (hn:0<n) (w:World) (h:Wd w q k fd fk fp M (.slice TA 1 tc) la ct) (ht:TbAt w b n c cl fr en A TA D) :
  Calls Tryz.prog 24 #[.pointer (some ⟨q+6,0,none⟩),.string ⟨#[97,49]⟩,.int .i64 dy] w fun e w'=>e=.returned (.pointer (if en<0∨dy<en then some ⟨b,0,none⟩ else none))∧Below w.heap.size w w':=by
 have b6:=h.box.c 6 _ rfl
 obtain⟨b1,o1,hA,_,hc⟩:=ht.row 0 _ rfl
 subst hA
 have c0:=hc 0 _ rfl
 rw[Nat.add_zero] at c0
 have c1:=ht.box.c 0 _ rfl
 have hf:=Lib.hid (inForce_any b n c ⟨#[97,49]⟩ cl fr en dy A D hn w ht.box)
 clear h ht hc
 by_cases hh:en<0∨dy<en
 ·have hd:(decide (en<0) || decide (dy<en))=true:=by simpa using hh
  rw[hd] at hf
  rw[if_pos hh]
  clear hd hh
  go_enter Tryz.func24,Tryz.ntmps24
  go_wp2
  refine wp_unroll 2 ?_
  unfold unroll
  go_wp2_with (go_at_call 47;refine hf.out.mono ?_;rintro e9 w9 ⟨rfl,rfl⟩)
  go_ret
  exact⟨rfl,Below.refl _ _⟩
 have hd:(decide (en<0) || decide (dy<en))=false:=by simpa using hh
 rw[hd] at hf
 rw[if_neg hh]
 clear hd hh
 go_enter Tryz.func24,Tryz.ntmps24
 go_wp2
 refine wp_unroll 2 ?_
 unfold unroll
 go_wp2_with (go_at_call 47;refine hf.out.mono ?_;rintro e9 w9 ⟨rfl,rfl⟩)
 unfold unroll
 go_wp2
 go_ret
 exact⟨rfl,Below.refl _ _⟩
end Go.Proofs.YtcnfhnndppollaaGreatDoor
namespace Go.Proofs.YtcnfhnndppollaaGreatDoor
open Go Go.RowKit Go.Maps Go.WideMaps
theorem dead1_any {q k:Nat} {fd fk fp:List UInt8→Option Value} {M T:Value} {la ct:Int} (bx:Nat) (p:Pa) (hs:p.name.size≤maxLen) (hd:fd p.name.data.toList=none) (w:World) (h:Wd w q k fd fk fp M T la ct) (hx:BoxAt w bx [.pointer (some ⟨q+6,0,none⟩)]) :
  Calls Tryz.prog 71 #[.agg #[.string p.name,.int .i64 p.n,.int .i64 p.d],.pointer (some ⟨bx,0,none⟩)] w fun e w'=>e=.returned (.bool false)∧Below w.heap.size w w':=by
 have ha:=below_alloc w (.cells #[.string p.name,.int .i64 p.n,.int .i64 p.d] 35)
 have hy:=BoxAt.new w #[.string p.name,.int .i64 p.n,.int .i64 p.d] 35
 have h2:=Lib.hid (h.below ha)
 have hx2:=Lib.hid (hx.below ha)
 have hy2:=Lib.hid hy
 have ha2:=Lib.hid ha
 clear h hx hy ha
 go_enter Tryz.func71,Tryz.ntmps71
 go_upto_region 1 with fail
 replace h2:=Lib.hid (h2.out.below (Below.refl _ _).drew)
 replace hx2:=Lib.hid (hx2.out.below (Below.refl _ _).drew)
 replace hy2:=Lib.hid (hy2.out.below (Below.refl _ _).drew)
 have ha3:=Lib.hid (below_step ha2.out (Below.refl _ _).drew)
 obtain⟨X,hX⟩:∃ X,(w.alloc (.cells #[.string p.name,.int .i64 p.n,.int .i64 p.d] 35)).drew=X:=⟨_,rfl⟩
 rw[hX] at h2 hx2 hy2 ha3
 have hlk:=Lib.hid (fun W (hb:Below X.heap.size X W)=>by
  have:=(h2.out.below hb).dead p.name hs
  rw[hd,Option.getD_none] at this
  exact this)
 refine wp_region_held_drew (S:=Sx X [(bx,0,.pointer (some ⟨q+6,0,none⟩)),(q+6,0,.map (some (q+1))),(w.heap.size,0,.string p.name)]) (by kernel_rfl) (by rw[hX];exact Sx.mk (by simp only[cs_iff_cons];exact⟨hx2.out.c 0 _ rfl,h2.out.box.c 0 _ rfl,hy2.out.c 0 _ rfl,cs_nil _⟩) (Below.refl _ _)) (fun hHeld=>?_)
 rw[hX] at hHeld ⊢
 clear hX
 refine tkHx 0 4 ?_
 refine tkHx 1 5 ?_
 refine tkHx 2 6 ?_
 refine tkHx 3 7 ?_
 refine tkHx 4 8 ?_
 refine tkHx 5 9 ?_
 refine tkHx 6 10 ?_
 refine tkHx 7 11 (v:=.bool false) ?_ (hy:=fun W hS=>by (have hl:=hlk.out W hS.bel);go_simp)
 refine tkHx 8 3 ?_
 refine wpAnyH_done (by kernel_rfl) ?_ _
 clear hHeld
 go_wp2
 go_ret
 exact⟨rfl,ha3.out⟩
theorem anyDead_one {q k:Nat} {fd fk fp:List UInt8→Option Value} {M T:Value} {la ct:Int} (A:Option Addr) (c:Nat) (p:Pa) (hs:p.name.size≤maxLen) (hd:fd p.name.data.toList=none) (w:World) (h:Wd w q k fd fk fp M T la ct) (hr:RowsAt w A 3 ([p].map Pa.cells)) :
  Calls Tryz.prog 53 #[.pointer (some ⟨q+6,0,none⟩),.slice A 1 c] w fun e w'=>e=.returned (.bool false)∧Below w.heap.size w w':=by
 have ha:=below_alloc w (.cells #[.pointer (some ⟨q+6,0,none⟩)] 49)
 have hx:=BoxAt.new w #[.pointer (some ⟨q+6,0,none⟩)] 49
 obtain⟨b,o,hA,hbl,p0,p1,p2⟩:=pa_at (hr.below ha)
 subst hA
 have hc:=Lib.hid (dead1_any w.heap.size p hs hd _ (h.below ha) hx)
 have ha:=Lib.hid ha
 clear h hr hx hbl
 go_enter Tryz.func53,Tryz.ntmps53
 go_wp2
 refine wp_unroll 2 ?_
 unfold unroll
 go_wp2_with (go_at_call 71;clear p0 p1 p2;refine hc.out.mono ?_;rintro e9 wn ⟨rfl,hbn⟩;replace hbn:=Lib.hid (below_step ha.out hbn))
 unfold unroll
 go_wp2
 go_ret
 exact⟨rfl,hbn.out⟩
end Go.Proofs.YtcnfhnndppollaaGreatDoor
