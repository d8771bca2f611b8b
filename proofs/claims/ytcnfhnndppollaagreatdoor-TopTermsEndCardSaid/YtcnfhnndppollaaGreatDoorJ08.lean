/- What the statements rest on: definitions and walks, part 08. -/
import Derived.Test.YtcnfhnndppollaaGreatDoorJ07
set_option maxRecDepth 100000
set_option maxHeartbeats 16000000
set_option linter.unusedSimpArgs false
set_option linter.unusedVariables false
namespace Go.Proofs.YtcnfhnndppollaaGreatDoor
open Go Go.RowKit Go.Maps Go.WideMaps
theorem heap_below {W W':World} {B:Nat} {o:Obj} (h:W.heap[B]?=some o) (hb:Below W.heap.size W W'):W'.heap[B]?=some o:=(hb.block B (Array.getElem?_eq_some_iff.1 h).1).trans h
theorem cell_of_heap {W:World} {B i t:Nat} {cs:Array Value} {r:Nat × Nat} {v:Value} (h:W.heap[B]?=some (.cells cs t r)) (hv:cs[i]?=some v):W.cell? ⟨B,i,none⟩=some v:=by
 simp[World.cell?,h,hv]
theorem est_at {w:World} {A:Option Addr} (h:RowsAt w A 3 (estPs.map Pa.cells)):∃ b o,A=some ⟨b,o,none⟩∧b<w.heap.size∧(w.cell? ⟨b,o,none⟩=some (.string ⟨#[98,111,98]⟩)∧w.cell? ⟨b,o+1,none⟩=some (.int .i64 3)∧w.cell? ⟨b,o+2,none⟩=some (.int .i64 8))∧(w.cell? ⟨b,o+3,none⟩=some (.string ⟨#[99,97,116]⟩)∧w.cell? ⟨b,o+3+1,none⟩=some (.int .i64 3)∧w.cell? ⟨b,o+3+2,none⟩=some (.int .i64 8))∧w.cell? ⟨b,o+6,none⟩=some (.string ⟨#[100,97,110]⟩)∧w.cell? ⟨b,o+6+1,none⟩=some (.int .i64 1)∧w.cell? ⟨b,o+6+2,none⟩=some (.int .i64 4):=by
 obtain⟨b,o,hA,hb,h0⟩:=h 0 _ rfl
 obtain⟨b',o',hA',_,h1⟩:=h 1 _ rfl
 obtain⟨b'',o'',hA'',_,h2⟩:=h 2 _ rfl
 rw[hA] at hA' hA''
 cases hA'
 cases hA''
 exact⟨b,o,hA,hb,⟨h0 0 _ rfl,h0 1 _ rfl,h0 2 _ rfl⟩,⟨h1 0 _ rfl,h1 1 _ rfl,h1 2 _ rfl⟩,h2 0 _ rfl,h2 1 _ rfl,h2 2 _ rfl⟩
structure FamW (q k b c tc kc mc:Nat) (fd fk fp:List UInt8→Option Value) (cl fr la ct:Int) (A TA KA MA LA:Option Addr) (W:World):Prop where
 wd:Wd W q k fd fk fp (.slice MA 1 mc) (.slice TA 1 tc) la ct
 tb:TbAt W b 1 c cl fr (-1) A TA (.slice none 0 0)
 ho:RowsAt W A 3 ([ann1].map Pa.cells)
 kd:RowsAt W KA 1 famKids
 mr:RowsAt W MA 2 (annDan.map prR)
 lw:RowsAt W LA 4 (famLaws.map Lw.cells)
theorem FamW.below {q k b c tc kc mc:Nat} {fd fk fp:List UInt8→Option Value} {cl fr la ct:Int} {A TA KA MA LA:Option Addr} {W W':World} (h:FamW q k b c tc kc mc fd fk fp cl fr la ct A TA KA MA LA W) (hb:Below W.heap.size W W'):FamW q k b c tc kc mc fd fk fp cl fr la ct A TA KA MA LA W' :=
 ⟨h.wd.below hb,h.tb.below hb,h.ho.below hb,h.kd.below hb,h.mr.below hb,h.lw.below hb⟩
theorem elemTm:Elem Tryz.prog 108 66 6 88:=Elem.mk' Tryz.underlying108 (z:=.agg #[.string ⟨#[]⟩,.int .i64 0,.int .i64 0,.int .i64 0,.slice none 0 0,.slice none 0 0]) (by kernel_rfl) rfl (by decide)
theorem tbSize:(Tryz.prog.info? 66).map (·.size)=some 6:=by kernel_rfl
theorem Wd.deadS {W W':World} {q k n:Nat} {fd fd' fk fp:List UInt8→Option Value} {M T:Value} {la ct:Int} (h:Wd W q k fd fk fp M T la ct) (hg:W.grownBy W' (some (q+1))) (hm:MapIs Tryz.prog 9 strLit W' (q+1) n fd') (hn:n≤k+1):Wd W' q (k+1) fd' fk fp M T la ct:=by
 have hne:∀ b c:Nat,b≠c→some b≠some c:=fun b c h9 e9=>h9 (Option.some.inj e9)
 have hl:=h.lt
 obtain⟨n2,e2,m2⟩:=h.pk
 obtain⟨n3,e3,m3⟩:=h.pp
 exact⟨h.box.grown hg (hne _ _ (by omega)),⟨n,hn,hm⟩,⟨n2,by omega,m2.kept hg (hne _ _ (by omega))⟩,⟨n3,by omega,m3.kept hg (hne _ _ (by omega))⟩,(hg.block _ (by omega) (hne _ _ (by omega))).trans h.pl,(hg.block _ (by omega) (hne _ _ (by omega))).trans h.pr⟩
def DthP (q k b tc mc:Nat) (fd fk fp:List UInt8→Option Value) (cl fr la ct:Int) (TA MA:Option Addr) (w:World) (e:Ending) (w':World):Prop :=
 e=.returned (.int .i64 0)∧∃ c' A' D,Wd w' q (k+1) (setAt fd [97,110,110] (.bool true)) fk fp (.slice MA 1 mc) (.slice TA 1 tc) la ct∧TbAt w' b 3 c' cl fr (-1) A' TA D∧RowsAt w' A' 3 (estPs.map Pa.cells)∧Below (q+1) w w'∧(∀ B,B<w.heap.size→B≠q+1→B≠b→w'.heap[B]?=w.heap[B]?)∧∀ a,A'=some a→w.heap.size≤a.block
theorem death_fam {q k b c tc kc mc lc:Nat} {fd fk fp:List UInt8→Option Value} {cl fr la ct:Int} (A TA KA MA LA:Option Addr) (w:World) (h:FamW q k b c tc kc mc fd fk fp cl fr la ct A TA KA MA LA w) (hk:fk [97,110,110]=some (.slice KA 2 kc))
  (hqb:q+7≤b) (hk9:k≤1000) (hTA:∀ a,TA=some a→a.block≠b∧q+7≤a.block) (hda:fd [97,110,110]=none) (hdb:fd [98,111,98]=none) (hdc:fd [99,97,116]=none) (hdd:fd [100,97,110]=none) :
  Calls Tryz.prog 39 #[.pointer (some ⟨q+6,0,none⟩),.slice LA 2 lc,.agg #[.int .i64 8,.int .i64 200,.string ⟨#[]⟩,.string ⟨#[97,110,110]⟩,.slice none 0 0,.int .i64 0,.int .i64 0]] w (DthP q k b tc mc fd fk fp cl fr la ct TA MA w):=by
 have hwl:=h.wd.lt
 have hbl:=h.tb.box.lt
 have ha:=below_alloc w (.cells #[.int .i64 8,.int .i64 200,.string ⟨#[]⟩,.string ⟨#[97,110,110]⟩,.slice none 0 0,.int .i64 0,.int .i64 0] 38)
 have hb:=Lib.hid (BoxAt.new w #[.int .i64 8,.int .i64 200,.string ⟨#[]⟩,.string ⟨#[97,110,110]⟩,.slice none 0 0,.int .i64 0,.int .i64 0] 38)
 have hz:=Lib.hid (fun W (hb9:Below w.heap.size w W)=>h.below hb9)
 have ha:=Lib.hid ha
 clear h
 go_enter Tryz.func39,Tryz.ntmps39
 go_upto_region 1 with fail
 obtain⟨X,hX⟩:∃ X,(w.alloc (.cells #[.int .i64 8,.int .i64 200,.string ⟨#[]⟩,.string ⟨#[97,110,110]⟩,.slice none 0 0,.int .i64 0,.int .i64 0] 38)).drew=X:=⟨_,rfl⟩
 replace hb:=Lib.hid (hb.out.below (Below.refl _ _).drew)
 replace ha:=Lib.hid (below_step ha.out (Below.refl _ _).drew)
 rw[hX] at hb ha
 have hlk:=Lib.hid (fun W (hb9:Below w.heap.size w W)=>by
  have:=(hz.out W hb9).wd.dead ⟨#[97,110,110]⟩ (by decide)
  rw[show fd (ByteArray.data ⟨#[97,110,110]⟩).toList=none from hda,Option.getD_none] at this
  exact this)
 refine wp_region_held_drew (S:=Sx w [(q+6,0,.map (some (q+1))),(w.heap.size,3,.string ⟨#[97,110,110]⟩)]) (by kernel_rfl) (by rw[hX];exact Sx.mk (by simp only[cs_iff_cons];exact⟨(hz.out _ ha.out).wd.box.c 0 _ rfl,hb.out.c 3 _ rfl,cs_nil _⟩) ha.out) (fun hHeld=>?_)
 rw[hX] at hHeld ⊢
 clear hX
 refine tkHx 0 22 ?_
 refine tkHx 1 23 ?_
 refine tkHx 2 24 ?_
 refine tkHx 3 25 ?_
 refine tkHx 4 26 ?_
 refine tkHx 5 27 ?_
 refine tkHx 6 28 ?_
 refine tkHx 7 29 (v:=.bool false) ?_ (hy:=fun W hS=>by (have hl:=hlk.out W hS.bel);go_simp)
 refine wpAnyH_done (by kernel_rfl) ?_ _
 clear hHeld hlk
 have hX1:w.heap.size+1≤X.heap.size:=hb.out.lt
 have hc0:=BoxAt.new X #[.bool false] 104
 obtain⟨V,hV⟩:∃ V,X.alloc (.cells #[.bool false] 104)=V:=⟨_,rfl⟩
 have hbV:=below_alloc X (.cells #[.bool false] 104)
 rw[hV] at hc0 hbV
 replace hb:=Lib.hid (hb.out.below hbV)
 replace ha:=Lib.hid (below_step ha.out hbV)
 have hcb:=Lib.hid (fun W (hb9:Below V.heap.size V W)=>hc0.below hb9)
 have hdb9:=Lib.hid (fun W (hb9:Below V.heap.size V W)=>hb.out.below hb9)
 have hVl:X.heap.size<V.heap.size:=hc0.lt
 have m6:=(hz.out _ ha.out).wd.box.c 6 _ rfl
 obtain⟨tq,tof,hTAe,_,htc⟩:=(hz.out _ ha.out).tb.row 0 _ rfl
 have u0:=htc 0 _ rfl
 rw[Nat.add_zero] at u0
 have d1:=hb.out.c 1 _ rfl;have d3:=hb.out.c 3 _ rfl
 have hin:=inForce_any b 1 c ⟨#[97,49]⟩ cl fr (-1) 200 A (.slice none 0 0) (by omega) V (hz.out _ ha.out).tb.box
 have hin2:Calls Tryz.prog 47 #[.pointer (some ⟨b,0,none⟩),.int .i64 200] V fun e w'=>e=.returned (.bool true)∧V=w':=by simpa using hin
 have hin2:=Lib.hid hin2
 have hsh:=Lib.hid (share_ann b c ⟨#[97,49]⟩ cl fr (-1) 1 1 A (.slice none 0 0) V (hz.out _ ha.out).tb.box (hz.out _ ha.out).ho)
 have hfld:∀ W,(Instr.field 33 (.agg #[.int .i64 1,.int .i64 1]) 0).run Tryz.prog W=.ok (.int .i64 1) W:=fun W=>by kernel_rfl
 subst hTAe
 obtain⟨htq,htq2⟩:=hTA _ rfl
 clear hbV htc hc0 hb hin hX1
 go_wp2
 refine wp_unroll 2 ?_
 unfold unroll
 go_wp2_with (first
  |(go_at_call 47;refine hin2.out.mono ?_;rintro e9 w9 ⟨rfl,rfl⟩)
  |(go_at_call 56;clear m6 u0 d1 d3;refine hsh.out.mono ?_;rintro e9 w2 ⟨rfl,hbn⟩;clear hsh hin2)
  |(at_builtin;refine wpList_append_rows elemTb rfl _ _ rfl rfl rfl (OwnL.nil _ w2.heap.size 61 1) (rowsAt_new w2 [.pointer (some ⟨b,0,none⟩)] 61) rfl (fun r hr=>by rw[List.mem_singleton.1 hr];rfl) (fun r hr u hu=>by rw[List.mem_singleton.1 hr] at hu;rw[List.mem_singleton.1 hu];rfl) (by simp) (by decide) (by simp) ?_;intro hv w3 hown hg _))
 have hba:=below_step hbn (below_alloc w2 (.cells #[.pointer (some ⟨b,0,none⟩)] 61))
 have hb3:Below V.heap.size V w3:=hba.trans (grown_below hg (fun g e=>by cases e) (by have:=hbn.size;simp;omega))
 obtain⟨HA,hc,hhv,hhr⟩:=OwnL.form hown
 have hhv2:hv=.slice HA 1 hc:=hhv
 subst hhv2
 have hhr:=Lib.hid hhr
 replace ha:=Lib.hid (below_step ha.out hb3)
 have hb3:=Lib.hid hb3
 clear hown hg hba hbn hhv hfld
 unfold unroll
 go_upto_region 12 with fail
 refine wp_region_held_drew (S:=Sx w3 [(w.heap.size,1,.int .i64 200),(w.heap.size,3,.string ⟨#[97,110,110]⟩)]) (by kernel_rfl) ((Sx.mk (by simp only[cs_iff_cons];exact⟨(hdb9.out _ hb3.out).c 1 _ rfl,(hdb9.out _ hb3.out).c 3 _ rfl,cs_nil _⟩) (Below.refl _ _):Sx w3 _ w3).drew) (fun hHeld=>?_)
 generalize w3.drew=w3d at *
 refine tkHx 0 59 ?_
 refine tkHx 1 60 ?_
 refine tkHx 2 61 ?_
 refine tkHx 3 62 ?_
 refine tkHx 4 63 ?_
 refine tkHx 5 64 ?_
 refine tkHx 7 66 ?_
 refine tkHx 8 67 ?_
 (refine ratHx 6 (fun K hK=>?_);go_simp)
 refine (lawOn_fam lc LA _ (hz.out _ (below_step ha.out hHeld.bel)).lw).mono ?_
 rintro e9 w4 ⟨rfl,hbn⟩
 refine hK.out _ _ (hHeld.step hbn) (fun hHeld2=>?_)
 clear hK K hHeld hbn
 (try simp only[apS,apN,siA,scZ,scS])
 (refine ratHx 9 (fun K hK=>?_);go_simp)
 refine (estate_fam KA MA _ (hz.out _ (below_step ha.out hHeld2.bel)).wd hk (hz.out _ (below_step ha.out hHeld2.bel)).kd (hz.out _ (below_step ha.out hHeld2.bel)).mr sort_est hdb hdc hdd).mono ?_
 rintro e9 w5 ⟨ev,rfl,hoe,hbn⟩
 obtain⟨EA,ec,hev,her⟩:=OwnL.form hoe
 have hev2:ev=.slice EA 3 ec:=hev
 subst hev2
 refine hK.out _ _ (hHeld2.step hbn) (fun hHeld3=>?_)
 have b35:=hHeld3.bel
 clear hK K hHeld2 hbn hev hoe
 (try simp only[apS,apN,siA,scZ,scS])
 refine tkHx 10 11 ?_
 refine wpAnyH_done (by kernel_rfl) ?_ _
 clear hHeld3
 replace hhr:=Lib.hid (hhr.out.below b35)
 replace ha:=Lib.hid (below_step ha.out b35)
 replace hb3:=Lib.hid (below_step hb3.out b35)
 have her:=Lib.hid her
 clear b35
 obtain⟨hq,hof,hHA,_,hhc⟩:=hhr.out 0 _ rfl
 have hh0:=hhc 0 _ rfl
 rw[Nat.add_zero] at hh0
 cases hHA
 have q0:=(hz.out _ ha.out).tb.box.c 0 _ rfl
 have q1:=(hz.out _ ha.out).tb.box.c 1 _ rfl
 have q2:=(hz.out _ ha.out).tb.box.c 2 _ rfl
 have q3:=(hz.out _ ha.out).tb.box.c 3 _ rfl
 have q4:=(hz.out _ ha.out).tb.box.c 4 _ rfl
 have q5:=(hz.out _ ha.out).tb.box.c 5 _ rfl
 have hba:=below_alloc w5 (.cells #[.string ⟨#[97,49]⟩,.int .i64 cl,.int .i64 fr,.int .i64 (-1),.slice A 1 c,.slice none 0 0] 66)
 have hxn:=BoxAt.new w5 #[.string ⟨#[97,49]⟩,.int .i64 cl,.int .i64 fr,.int .i64 (-1),.slice A 1 c,.slice none 0 0] 66
 have s4:=(hz.out _ (below_step ha.out hba)).tb.box.c 4 _ rfl
 have hba:=Lib.hid hba
 have hxn:=Lib.hid hxn
 clear hhc
 go_wp2
 refine wp_unroll 2 ?_
 unfold unroll
 go_upto_region 19 with (first
  |(go_at_call 41;clear hh0 q0 q1 q2 q3 q4 q5 s4;refine (CloneParts_ne A 1 c [ann1] _ (hz.out _ (below_step ha.out hba.out)).ho rfl (by decide) (by decide)).mono ?_;rintro e9 w7 ⟨cv,rfl,hoc,hbn⟩;obtain⟨CA,cc,hcv,_⟩:=OwnL.form hoc;have hcv2:cv=.slice CA 1 cc:=hcv;subst hcv2;have hx7:=hxn.out.below hbn;have y0:=hx7.c 4 _ rfl;have y1:=hx7.free 4 (by simp);have hx7:=Lib.hid hx7;replace hba:=Lib.hid (below_step hba.out hbn);(have hoc7:Hid (OwnL w7 (w5.heap.size+1) 35 3 (.slice CA 1 cc) ([ann1].map Pa.cells)):=hoc.less (by simp));clear hbn hcv hoc hxn))
 have hx8:Hid (BoxAt (w7.setCell ⟨w5.heap.size,4,none⟩ (.slice CA 1 cc)) w5.heap.size [.string ⟨#[97,49]⟩,.int .i64 cl,.int .i64 fr,.int .i64 (-1),.slice CA 1 cc,.slice none 0 0]):=hx7.out.set 4 _ (by simp)
 have ho8:=Lib.hid (hoc7.out.offF (B':=w5.heap.size) 4 (.slice CA 1 cc) (by omega))
 have hb8:=Lib.hid (hba.out.setCell (p:=⟨w5.heap.size,4,none⟩) (Nat.le_refl _) (.slice CA 1 cc))
 obtain⟨w8,hw8⟩:∃ w8,w7.setCell ⟨w5.heap.size,4,none⟩ (.slice CA 1 cc)=w8:=⟨_,rfl⟩
 rw[hw8] at hx8 ho8 hb8 ⊢
 have hS5:=Lib.hid (Sx.mk (w:=w5) (W:=w5) (L:=[(b,5,.slice none 0 0),(w.heap.size,3,.string ⟨#[97,110,110]⟩)]) (by simp only[cs_iff_cons];exact⟨(hz.out _ ha.out).tb.box.c 5 _ rfl,(hdb9.out _ hb3.out).c 3 _ rfl,cs_nil _⟩) (Below.refl _ _))
 clear hw8 y0 y1 hx7 hoc7 hba
 replace hx8:=Lib.hid (hx8.out.below (Below.refl _ _).drew)
 replace ho8:=Lib.hid (ho8.out.below (Below.refl _ _).drew)
 replace hb8:=Lib.hid (hb8.out.drew)
 refine wp_region_held_drew (S:=Sx w5 [(b,5,.slice none 0 0),(w.heap.size,3,.string ⟨#[97,110,110]⟩)]) (by kernel_rfl) (hS5.out.step hb8.out) (fun hHeld=>?_)
 generalize w8.drew=w9 at *
 have hxl:=hx8.out.lt
 refine tkHx 0 84 ?_
 refine tkHx 1 85 ?_
 refine tkHx 2 86 ?_
 refine tkHx 3 87 ?_
 refine tkHx 5 89 ?_
 refine tkHx 6 90 ?_
 (refine wpAnyH_ready (rs:=[4,7]) (by decide +kernel) (by simp) ?_;refine AllReadyH.cons rfl (fun K hK=>?_) (AllReadyH.cons rfl (fun K hK=>?_) AllReadyH.nil))
 ·(rw[if_pos (by kernel_rfl)];go_simp)
  refine (CloneStrs_nil 0 _).mono ?_
  rintro e9 wc ⟨rfl,rfl⟩
  refine hK.out _ _ hHeld (fun hHeld2=>?_)
  clear hK K hHeld
  (try simp only[apS,apN,siA,scZ,scS])
  (refine ratHx 7 (fun K hK=>?_);go_simp)
  refine hK.out _ _ (hHeld2.step (below_alloc _ _)) (fun hHeld3=>?_)
  clear hK K hHeld2
  (try simp only[apS,apN,siA,scZ,scS])
  (refine wpAnyH_ready (rs:=[8]) (by decide +kernel) (by simp) ?_;refine AllReadyH.cons rfl (fun K hK=>?_) AllReadyH.nil)
  refine step_append_rows elemStr (by rfl) (.tmp 88) (.tmp 91) (by rfl) (by rfl) (by rfl) (OwnL.nil _ (w5.heap.size+1) 9 1) (rowsAt_new w9 [.string ⟨#[97,110,110]⟩] 9) rfl (str_wid _) (str_one _) (by simp) (by decide) (by simp;omega) ?_
  intro dv w10 hod hgd _
  obtain⟨DA,dc,hdv,_⟩:=OwnL.form hod
  have hdv2:dv=.slice DA 1 dc:=hdv
  subst hdv2
  have hba:=below_alloc w9 (.cells #[.string ⟨#[97,110,110]⟩] 9)
  have hgd2:(w9.alloc (.cells #[.string ⟨#[97,110,110]⟩] 9)).grownBy w10 none:=hgd
  have hx10:=(hx8.out.below hba).grown hgd2 (fun e=>by cases e)
  have ho10:=(ho8.out.below hba).kept hgd2 (Classical.em _)
  have hb10:=below_step hb8.out (below_step hba (grown_below hgd (fun g e=>by cases e) (Nat.le_refl _)))
  have hx10l:=hx10.lt
  have hS10:=hS5.out.step hb10
  refine hK.out _ _ hS10 (fun hHeld4=>?_)
  clear hK K hHeld3 hod hdv hgd hgd2 hba
  (try simp only[apS,apN,siA,scZ,scS])
  refine tkHx 9 93 ?_
  have y0:=hx10.c 5 _ rfl;have y1:=hx10.free 5 (by simp)
  have hx11:Hid (BoxAt (w10.setCell ⟨w5.heap.size,5,none⟩ (.slice DA 1 dc)) w5.heap.size [.string ⟨#[97,49]⟩,.int .i64 cl,.int .i64 fr,.int .i64 (-1),.slice CA 1 cc,.slice DA 1 dc]):=hx10.set 5 _ (by simp)
  have ho11:=Lib.hid (ho10.offF (B':=w5.heap.size) 5 (.slice DA 1 dc) (by omega))
  have hb11:=Lib.hid (hb10.setCell (p:=⟨w5.heap.size,5,none⟩) (Nat.le_refl _) (.slice DA 1 dc))
  have hS11:=Lib.hid (hS5.out.step hb11.out)
  clear hx10 ho10 hb10 hS10 hx8 ho8 hb8
  (refine ratHx 10 (fun K hK=>?_);go_simp)
  refine hK.out _ _ hS11.out (fun hHeld5=>?_)
  clear hK K hHeld4 hHeld5 y0 y1 hS11
  (try simp only[apS,apN,siA,scZ,scS])
  refine wpAnyH_done (by kernel_rfl) ?_ _
  obtain⟨w11,hw11⟩:∃ w11,w10.setCell ⟨w5.heap.size,5,none⟩ (.slice DA 1 dc)=w11:=⟨_,rfl⟩
  rw[hw11] at hx11 ho11 hb11 ⊢
  clear hw11 hx10l hxl hS5
  have haW:=Lib.hid (below_step ha.out hb11.out)
  have h3W:=Lib.hid (below_step hb3.out hb11.out)
  have d3:=(hdb9.out _ h3W.out).c 3 _ rfl
  have hCr:RowsAt w11 CA 3 ([ann1].map Pa.cells):=by
   obtain⟨A0,c0,hv,hr⟩:=ho11.out.form
   cases hv
   exact hr
  have hsh2:=Lib.hid (share_ann w5.heap.size cc ⟨#[97,49]⟩ cl fr (-1) 1 1 CA (.slice DA 1 dc) w11 hx11.out hCr)
  have hxl11:=hx11.out.lt
  clear hCr
  go_wp2_with (first
   |(go_at_call 56;clear d3;refine hsh2.out.mono ?_;rintro e9 w12 ⟨rfl,hbn⟩;have hba:=below_step hbn (below_alloc w12 (.cells #[.int .i64 1,.int .i64 1] 33));have hOB:=World.alloc_heap_new w12 (.cells #[.int .i64 1,.int .i64 1] 33);have hsz12:=hbn.size;replace hx11:=Lib.hid (hx11.out.below hba);replace ho11:=Lib.hid (ho11.out.below hba);replace hb11:=Lib.hid (below_step hb11.out hba);replace hOB:=Lib.hid hOB;have d3:=(hdb9.out _ (below_step h3W.out hba)).c 3 _ rfl;clear hba hbn hsh2)
   |(go_at_call 55;clear d3;refine (set_del w5.heap.size cc ⟨#[97,49]⟩ cl fr (-1) 1 1 1 CA (.slice DA 1 dc) _ hx11.out ho11.out).mono ?_;rintro e9 wS ⟨rfl,NA,nn,nc,hx,ho,hbS,hkS⟩;have hb:=Lib.hid (hb11.out.trans hbS);replace hOB:=Lib.hid (hkS _ _ _ hOB.out (by decide) (by omega));clear hkS hbS hx11 ho11 hb11))
  obtain⟨hn0,_⟩:=ho.capN
  have hn1:nn=0:=by simpa using hn0
  subst hn1
  replace hx:=Lib.hid hx
  replace ho:=Lib.hid ho
  clear hn0 haW h3W
  refine wp_unroll 4 ?_
  unfold unroll
  obtain⟨b9,o9,hA9,_,⟨e0,e1,e2⟩,⟨e3,e4,e5⟩,e6,e7,e8⟩:=est_at (her.out.below hb.out)
  cases hA9
  have hba:=below_alloc wS (.cells #[.string ⟨#[98,111,98]⟩,.int .i64 3,.int .i64 8] 35)
  have hoP:=heap_below hOB.out hba
  have o0:=cell_of_heap hoP (i:=0) rfl
  have o1:=cell_of_heap hoP (i:=1) rfl
  have hszS:=hb.out.size
  have hOl:w12.heap.size<wS.heap.size:=(Array.getElem?_eq_some_iff.1 hOB.out).1
  have hbP:=Lib.hid (BoxAt.new wS #[.string ⟨#[98,111,98]⟩,.int .i64 3,.int .i64 8] 35)
  have hZ:=Lib.hid hba
  clear hoP hba
  go_upto_region 26 with (go_at_call 58;clear e0 e1 e2 e3 e4 e5 e6 e7 e8 o0 o1;refine (cmul_1_1_3_8 X.heap.size _).mono ?_;rintro e9 wM ⟨rfl,hbn⟩;replace hZ:=Lib.hid (below_step hZ.out hbn);replace hbP:=Lib.hid (hbP.out.below hbn);have hbG:=Lib.hid (BoxAt.new wM #[.int .i64 3,.int .i64 8] 33);have hba:=below_alloc wM (.cells #[.int .i64 3,.int .i64 8] 33);replace hZ:=Lib.hid (below_step hZ.out hba);replace hbP:=Lib.hid (hbP.out.below hba);clear hba hbn)
  obtain⟨z,hz9⟩:∃ z,(wM.alloc (.cells #[.int .i64 3,.int .i64 8] 33)).drew=z:=⟨_,rfl⟩
  replace hZ:=Lib.hid (below_step hZ.out (Below.refl _ _).drew)
  replace hbP:=Lib.hid (hbP.out.below (Below.refl _ _).drew)
  replace hbG:=Lib.hid (hbG.out.below (Below.refl _ _).drew)
  rw[hz9] at hZ hbP hbG
  refine wp_region_heldZ (S:=Sc [(wS.heap.size,0,.string ⟨#[98,111,98]⟩),(wM.heap.size,0,.int .i64 3),(wM.heap.size,1,.int .i64 8)]) 7 (by kernel_rfl) (by rw[hz9];exact (Sc.mk (by simp only[cs_iff_cons];exact⟨hbP.out.c 0 _ rfl,hbG.out.c 0 _ rfl,hbG.out.c 1 _ rfl,cs_nil _⟩))) (fun hHeld=>?_)
  rw[hz9] at hHeld ⊢
  clear hz9 hbP hbG
  refine tkZx 0 111 ?_
  refine tkZx 1 112 ?_
  refine tkZx 2 113 ?_
  refine tkZx 3 114 ?_
  refine tkZx 5 116 ?_
  refine ratZ 4 (by decide +kernel) rfl (fun K hK=>?_)
  rw[if_pos (by kernel_rfl)]
  go_simp
  have hrow:RowsAt z NA 3 (([]:List Pa).map Pa.cells):=by
   obtain⟨A0,c0,hv,hr⟩:=(ho.out.below hZ.out).form
   cases hv
   exact hr
  refine (share_none w5.heap.size 0 nc ⟨#[97,49]⟩ ⟨#[98,111,98]⟩ cl fr (-1) 0 NA (.slice DA 1 dc) _ (hx.out.below hZ.out) (fun W h9=>Search_nil NA nc ⟨#[98,111,98]⟩ W)).mono ?_
  rintro e9 z2 ⟨rfl,hbn⟩
  refine hK.out _ _ (hHeld.below hbn) (fun hH2=>?_)
  replace hZ:=Lib.hid (below_step hZ.out hbn)
  clear hK K hHeld hrow hbn
  have hHeld:=hH2
  clear hH2
  (try simp only[apS,apN,siA,scZ,scS])
  refine ratZ 6 (by decide +kernel) rfl (fun K hK=>?_)
  rw[if_pos (by kernel_rfl)]
  go_simp
  refine (cadd_0_1_3_8 X.heap.size _).mono ?_
  rintro e9 z3 ⟨rfl,hbn⟩
  refine hK.out _ _ (hHeld.below hbn) (fun hH2=>?_)
  replace hZ:=Lib.hid (below_step hZ.out hbn)
  clear hK K hHeld hbn
  have hHeld:=hH2
  clear hH2
  (try simp only[apS,apN,siA,scZ,scS])
  refine ratZc 7 (by decide +kernel) rfl (by decide +kernel) (fun K hK=>?_)
  rw[if_pos (by kernel_rfl)]
  go_simp
  have hrow:RowsAt z3 NA 3 (([]:List Pa).map Pa.cells):=by
   obtain⟨A0,c0,hv,hr⟩:=(ho.out.below hZ.out).form
   cases hv
   exact hr
  refine (set_put w5.heap.size 0 nc ⟨#[97,49]⟩ ⟨#[98,111,98]⟩ cl fr (-1) 3 8 NA (.slice DA 1 dc) [] _ (hx.out.below hZ.out) (ho.out.below hZ.out) (by simp) rfl (fun W h9=>Search_nil NA nc ⟨#[98,111,98]⟩ W)).mono ?_
  rintro e9 wN ⟨rfl,NB,nn,nc2,hxN,hoN,hbN,hkN⟩
  have hbN2:=Lib.hid ((below_step hb.out hZ.out).trans hbN)
  have hOBN:=Lib.hid (hkN _ _ _ (heap_below hOB.out hZ.out) (by decide) (by omega))
  obtain⟨hn0,_⟩:=hoN.capN
  have hn1:nn=1:=by simpa using hn0
  subst hn1
  clear hb hx ho hZ hOB hrow hbN hkN hn0 hszS hOl
  refine hK.out _ _ ?_
  clear hK K hHeld
  (try simp only[apS,apN,siA,scZ,scS])
  refine wpAnyHY_done (by decide +kernel) ?_ _
  have hx:=Lib.hid hxN
  have ho:=Lib.hid hoN
  have hb:=hbN2
  have hOB:=hOBN
  clear hxN hoN hbN2 hOBN
  obtain⟨wS,hwS⟩:∃ wS,wS=wN:=⟨_,rfl⟩
  obtain⟨NA,hNA⟩:∃ NA,NA=NB:=⟨_,rfl⟩
  obtain⟨nc,hnc⟩:∃ nc,nc=nc2:=⟨_,rfl⟩
  subst hwS hNA hnc
  go_wp2
  unfold unroll
  obtain⟨b9,o9,hA9,_,⟨e0,e1,e2⟩,⟨e3,e4,e5⟩,e6,e7,e8⟩:=est_at (her.out.below hb.out)
  cases hA9
  have hba:=below_alloc wS (.cells #[.string ⟨#[99,97,116]⟩,.int .i64 3,.int .i64 8] 35)
  have hoP:=heap_below hOB.out hba
  have o0:=cell_of_heap hoP (i:=0) rfl
  have o1:=cell_of_heap hoP (i:=1) rfl
  have hszS:=hb.out.size
  have hOl:w12.heap.size<wS.heap.size:=(Array.getElem?_eq_some_iff.1 hOB.out).1
  have hbP:=Lib.hid (BoxAt.new wS #[.string ⟨#[99,97,116]⟩,.int .i64 3,.int .i64 8] 35)
  have hZ:=Lib.hid hba
  clear hoP hba
  go_upto_region 26 with (go_at_call 58;clear e0 e1 e2 e3 e4 e5 e6 e7 e8 o0 o1;refine (cmul_1_1_3_8 X.heap.size _).mono ?_;rintro e9 wM ⟨rfl,hbn⟩;replace hZ:=Lib.hid (below_step hZ.out hbn);replace hbP:=Lib.hid (hbP.out.below hbn);have hbG:=Lib.hid (BoxAt.new wM #[.int .i64 3,.int .i64 8] 33);have hba:=below_alloc wM (.cells #[.int .i64 3,.int .i64 8] 33);replace hZ:=Lib.hid (below_step hZ.out hba);replace hbP:=Lib.hid (hbP.out.below hba);clear hba hbn)
  obtain⟨z,hz9⟩:∃ z,(wM.alloc (.cells #[.int .i64 3,.int .i64 8] 33)).drew=z:=⟨_,rfl⟩
  replace hZ:=Lib.hid (below_step hZ.out (Below.refl _ _).drew)
  replace hbP:=Lib.hid (hbP.out.below (Below.refl _ _).drew)
  replace hbG:=Lib.hid (hbG.out.below (Below.refl _ _).drew)
  rw[hz9] at hZ hbP hbG
  refine wp_region_heldZ (S:=Sc [(wS.heap.size,0,.string ⟨#[99,97,116]⟩),(wM.heap.size,0,.int .i64 3),(wM.heap.size,1,.int .i64 8)]) 7 (by kernel_rfl) (by rw[hz9];exact (Sc.mk (by simp only[cs_iff_cons];exact⟨hbP.out.c 0 _ rfl,hbG.out.c 0 _ rfl,hbG.out.c 1 _ rfl,cs_nil _⟩))) (fun hHeld=>?_)
  rw[hz9] at hHeld ⊢
  clear hz9 hbP hbG
  refine tkZx 0 111 ?_
  refine tkZx 1 112 ?_
  refine tkZx 2 113 ?_
  refine tkZx 3 114 ?_
  refine tkZx 5 116 ?_
  refine ratZ 4 (by decide +kernel) rfl (fun K hK=>?_)
  rw[if_pos (by kernel_rfl)]
  go_simp
  have hrow:RowsAt z NA 3 (([⟨⟨#[98,111,98]⟩,3,8⟩]:List Pa).map Pa.cells):=by
   obtain⟨A0,c0,hv,hr⟩:=(ho.out.below hZ.out).form
   cases hv
   exact hr
  refine (share_none w5.heap.size 1 nc ⟨#[97,49]⟩ ⟨#[99,97,116]⟩ cl fr (-1) 1 NA (.slice DA 1 dc) _ (hx.out.below hZ.out) (fun W h9=>Search_cat NA nc 3 8 W (hrow.below h9))).mono ?_
  rintro e9 z2 ⟨rfl,hbn⟩
  refine hK.out _ _ (hHeld.below hbn) (fun hH2=>?_)
  replace hZ:=Lib.hid (below_step hZ.out hbn)
  clear hK K hHeld hrow hbn
  have hHeld:=hH2
  clear hH2
  (try simp only[apS,apN,siA,scZ,scS])
  refine ratZ 6 (by decide +kernel) rfl (fun K hK=>?_)
  rw[if_pos (by kernel_rfl)]
  go_simp
  refine (cadd_0_1_3_8 X.heap.size _).mono ?_
  rintro e9 z3 ⟨rfl,hbn⟩
  refine hK.out _ _ (hHeld.below hbn) (fun hH2=>?_)
  replace hZ:=Lib.hid (below_step hZ.out hbn)
  clear hK K hHeld hbn
  have hHeld:=hH2
  clear hH2
  (try simp only[apS,apN,siA,scZ,scS])
  refine ratZc 7 (by decide +kernel) rfl (by decide +kernel) (fun K hK=>?_)
  rw[if_pos (by kernel_rfl)]
  go_simp
  have hrow:RowsAt z3 NA 3 (([⟨⟨#[98,111,98]⟩,3,8⟩]:List Pa).map Pa.cells):=by
   obtain⟨A0,c0,hv,hr⟩:=(ho.out.below hZ.out).form
   cases hv
   exact hr
  refine (set_put w5.heap.size 1 nc ⟨#[97,49]⟩ ⟨#[99,97,116]⟩ cl fr (-1) 3 8 NA (.slice DA 1 dc) [⟨⟨#[98,111,98]⟩,3,8⟩] _ (hx.out.below hZ.out) (ho.out.below hZ.out) (by simp) rfl (fun W h9=>Search_cat NA nc 3 8 W (hrow.below h9))).mono ?_
  rintro e9 wN ⟨rfl,NB,nn,nc2,hxN,hoN,hbN,hkN⟩
  have hbN2:=Lib.hid ((below_step hb.out hZ.out).trans hbN)
  have hOBN:=Lib.hid (hkN _ _ _ (heap_below hOB.out hZ.out) (by decide) (by omega))
  obtain⟨hn0,_⟩:=hoN.capN
  have hn1:nn=2:=by simpa using hn0
  subst hn1
  clear hb hx ho hZ hOB hrow hbN hkN hn0 hszS hOl
  refine hK.out _ _ ?_
  clear hK K hHeld
  (try simp only[apS,apN,siA,scZ,scS])
  refine wpAnyHY_done (by decide +kernel) ?_ _
  have hx:=Lib.hid hxN
  have ho:=Lib.hid hoN
  have hb:=hbN2
  have hOB:=hOBN
  clear hxN hoN hbN2 hOBN
  obtain⟨wS,hwS⟩:∃ wS,wS=wN:=⟨_,rfl⟩
  obtain⟨NA,hNA⟩:∃ NA,NA=NB:=⟨_,rfl⟩
  obtain⟨nc,hnc⟩:∃ nc,nc=nc2:=⟨_,rfl⟩
  subst hwS hNA hnc
  go_wp2
  unfold unroll
  obtain⟨b9,o9,hA9,_,⟨e0,e1,e2⟩,⟨e3,e4,e5⟩,e6,e7,e8⟩:=est_at (her.out.below hb.out)
  cases hA9
  have hba:=below_alloc wS (.cells #[.string ⟨#[100,97,110]⟩,.int .i64 1,.int .i64 4] 35)
  have hoP:=heap_below hOB.out hba
  have o0:=cell_of_heap hoP (i:=0) rfl
  have o1:=cell_of_heap hoP (i:=1) rfl
  have hszS:=hb.out.size
  have hOl:w12.heap.size<wS.heap.size:=(Array.getElem?_eq_some_iff.1 hOB.out).1
  have hbP:=Lib.hid (BoxAt.new wS #[.string ⟨#[100,97,110]⟩,.int .i64 1,.int .i64 4] 35)
  have hZ:=Lib.hid hba
  clear hoP hba
  go_upto_region 26 with (go_at_call 58;clear e0 e1 e2 e3 e4 e5 e6 e7 e8 o0 o1;refine (cmul_1_1_1_4 X.heap.size _).mono ?_;rintro e9 wM ⟨rfl,hbn⟩;replace hZ:=Lib.hid (below_step hZ.out hbn);replace hbP:=Lib.hid (hbP.out.below hbn);have hbG:=Lib.hid (BoxAt.new wM #[.int .i64 1,.int .i64 4] 33);have hba:=below_alloc wM (.cells #[.int .i64 1,.int .i64 4] 33);replace hZ:=Lib.hid (below_step hZ.out hba);replace hbP:=Lib.hid (hbP.out.below hba);clear hba hbn)
  obtain⟨z,hz9⟩:∃ z,(wM.alloc (.cells #[.int .i64 1,.int .i64 4] 33)).drew=z:=⟨_,rfl⟩
  replace hZ:=Lib.hid (below_step hZ.out (Below.refl _ _).drew)
  replace hbP:=Lib.hid (hbP.out.below (Below.refl _ _).drew)
  replace hbG:=Lib.hid (hbG.out.below (Below.refl _ _).drew)
  rw[hz9] at hZ hbP hbG
  refine wp_region_heldZ (S:=Sc [(wS.heap.size,0,.string ⟨#[100,97,110]⟩),(wM.heap.size,0,.int .i64 1),(wM.heap.size,1,.int .i64 4)]) 7 (by kernel_rfl) (by rw[hz9];exact (Sc.mk (by simp only[cs_iff_cons];exact⟨hbP.out.c 0 _ rfl,hbG.out.c 0 _ rfl,hbG.out.c 1 _ rfl,cs_nil _⟩))) (fun hHeld=>?_)
  rw[hz9] at hHeld ⊢
  clear hz9 hbP hbG
  refine tkZx 0 111 ?_
  refine tkZx 1 112 ?_
  refine tkZx 2 113 ?_
  refine tkZx 3 114 ?_
  refine tkZx 5 116 ?_
  refine ratZ 4 (by decide +kernel) rfl (fun K hK=>?_)
  rw[if_pos (by kernel_rfl)]
  go_simp
  have hrow:RowsAt z NA 3 (([⟨⟨#[98,111,98]⟩,3,8⟩,⟨⟨#[99,97,116]⟩,3,8⟩]:List Pa).map Pa.cells):=by
   obtain⟨A0,c0,hv,hr⟩:=(ho.out.below hZ.out).form
   cases hv
   exact hr
  refine (share_none w5.heap.size 2 nc ⟨#[97,49]⟩ ⟨#[100,97,110]⟩ cl fr (-1) 2 NA (.slice DA 1 dc) _ (hx.out.below hZ.out) (fun W h9=>Search_dan NA nc 3 8 3 8 W (hrow.below h9))).mono ?_
  rintro e9 z2 ⟨rfl,hbn⟩
  refine hK.out _ _ (hHeld.below hbn) (fun hH2=>?_)
  replace hZ:=Lib.hid (below_step hZ.out hbn)
  clear hK K hHeld hrow hbn
  have hHeld:=hH2
  clear hH2
  (try simp only[apS,apN,siA,scZ,scS])
  refine ratZ 6 (by decide +kernel) rfl (fun K hK=>?_)
  rw[if_pos (by kernel_rfl)]
  go_simp
  refine (cadd_0_1_1_4 X.heap.size _).mono ?_
  rintro e9 z3 ⟨rfl,hbn⟩
  refine hK.out _ _ (hHeld.below hbn) (fun hH2=>?_)
  replace hZ:=Lib.hid (below_step hZ.out hbn)
  clear hK K hHeld hbn
  have hHeld:=hH2
  clear hH2
  (try simp only[apS,apN,siA,scZ,scS])
  refine ratZc 7 (by decide +kernel) rfl (by decide +kernel) (fun K hK=>?_)
  rw[if_pos (by kernel_rfl)]
  go_simp
  have hrow:RowsAt z3 NA 3 (([⟨⟨#[98,111,98]⟩,3,8⟩,⟨⟨#[99,97,116]⟩,3,8⟩]:List Pa).map Pa.cells):=by
   obtain⟨A0,c0,hv,hr⟩:=(ho.out.below hZ.out).form
   cases hv
   exact hr
  refine (set_put w5.heap.size 2 nc ⟨#[97,49]⟩ ⟨#[100,97,110]⟩ cl fr (-1) 1 4 NA (.slice DA 1 dc) [⟨⟨#[98,111,98]⟩,3,8⟩,⟨⟨#[99,97,116]⟩,3,8⟩] _ (hx.out.below hZ.out) (ho.out.below hZ.out) (by simp) rfl (fun W h9=>Search_dan NA nc 3 8 3 8 W (hrow.below h9))).mono ?_
  rintro e9 wN ⟨rfl,NB,nn,nc2,hxN,hoN,hbN,hkN⟩
  have hbN2:=Lib.hid ((below_step hb.out hZ.out).trans hbN)
  have hOBN:=Lib.hid (hkN _ _ _ (heap_below hOB.out hZ.out) (by decide) (by omega))
  obtain⟨hn0,_⟩:=hoN.capN
  have hn1:nn=3:=by simpa using hn0
  subst hn1
  clear hb hx ho hZ hOB hrow hbN hkN hn0 hszS hOl
  refine hK.out _ _ ?_
  clear hK K hHeld
  (try simp only[apS,apN,siA,scZ,scS])
  refine wpAnyHY_done (by decide +kernel) ?_ _
  have hx:=Lib.hid hxN
  have ho:=Lib.hid hoN
  have hb:=hbN2
  have hOB:=hOBN
  clear hxN hoN hbN2 hOBN
  obtain⟨wS,hwS⟩:∃ wS,wS=wN:=⟨_,rfl⟩
  obtain⟨NA,hNA⟩:∃ NA,NA=NB:=⟨_,rfl⟩
  obtain⟨nc,hnc⟩:∃ nc,nc=nc2:=⟨_,rfl⟩
  subst hwS hNA hnc
  go_wp2
  unfold unroll
  obtain⟨x0,x1,x2,x3⟩:=hx.out.c4;have x4:=hx.out.c 4 _ rfl;have x5:=hx.out.c 5 _ rfl
  clear hOB hxl11 hsz12
  go_wp2_with (at_builtin;refine wpList_append_rows elemTm rfl _ _ rfl rfl rfl (OwnL.nil _ wS.heap.size 66 6) (rowsAt_new wS [.string ⟨#[97,49]⟩,.int .i64 cl,.int .i64 fr,.int .i64 (-1),.slice NA 3 nc,.slice DA 1 dc] 66) rfl (fun r hr=>by rw[List.mem_singleton.1 hr];rfl) (fun r hr u hu=>by rw[List.mem_singleton.1 hr] at hu;simp at hu;rcases hu with rfl | rfl | rfl | rfl | rfl | rfl <;> rfl) (by simp) (by decide) (by simp) ?_;intro nv wT hon hgn _)
  clear x0 x1 x2 x3 x4 x5
  have hbT:=below_step (below_alloc wS (.cells #[.string ⟨#[97,49]⟩,.int .i64 cl,.int .i64 fr,.int .i64 (-1),.slice NA 3 nc,.slice DA 1 dc] 66)) (grown_below hgn (fun g e=>by cases e) (Nat.le_refl _))
  have hcr:RowsAt wT NA 3 (estPs.map Pa.cells):=by
   obtain⟨A0,c0,hv,hr⟩:=(ho.out.below hbT).form
   cases hv
   exact hr
  have hNA:∀ a,NA=some a→w5.heap.size+1≤a.block:=fun a e=>(ho.out.lt a.block (by rw[e];rfl)).1
  obtain⟨QA,qc,hnv,hnr⟩:=OwnL.form hon
  have hnv2:nv=.slice QA 1 qc:=hnv
  subst hnv2
  obtain⟨nb,no,hQA,_,hnc⟩:=hnr 0 _ rfl
  subst hQA
  have n0:=hnc 0 _ rfl
  have n1:=hnc 1 _ rfl
  have n2:=hnc 2 _ rfl
  have n3:=hnc 3 _ rfl
  have n4:=hnc 4 _ rfl
  have n5:=hnc 5 _ rfl
  rw[Nat.add_zero] at n0
  replace hb:=Lib.hid (below_step hb.out hbT)
  obtain⟨hq9,hof9,hHA9,_,hhc9⟩:=(hhr.out.below hb.out) 0 _ rfl
  cases hHA9
  have hh0:=hhc9 0 _ rfl
  rw[Nat.add_zero] at hh0
  have haT:=Lib.hid (below_step ha.out hb.out)
  have cc0:=(hcb.out _ (below_step hb3.out hb.out)).c 0 _ rfl
  have htb:=Lib.hid (hz.out _ haT.out).tb.box
  have hcr:=Lib.hid hcr
  have hNAq:=Lib.hid hNA
  have hNA:=Lib.hid hNA
  have hw5:=ha.out.size
  clear hon hgn hbT hnv hnr hnc hhc9 hx ho her hhr
  unfold unroll
  go_wp2
  refine wp_unroll 2 ?_
  unfold unroll
  go_wp2_with (refine wpList_store_box rfl 66 (.tmp 139) (.tmp 138) rfl b _ [.string ⟨#[97,49]⟩,.int .i64 cl,.int .i64 fr,.int .i64 (-1),.slice NA 3 nc,.slice DA 1 dc] (by rfl) (by rfl) htb.out rfl tbSize (by kernel_rfl) ?_;intro wU hU hgU;clear n0 n1 n2 n3 n4 n5 hh0 cc0 htb)
  have hne:∀ b9 c9:Nat,b9≠c9→some b9≠some c9:=fun b9 c9 h9 e9=>h9 (Option.some.inj e9)
  have hF:=hz.out _ haT.out
  have hcr2:=Lib.hid (rows_far hcr.out hgU (fun a e=>hne _ _ (by have:=hNA.out a e;omega)))
  have hrow:=Lib.hid (rows_far hF.tb.row hgU (fun a e=>hne _ _ (by cases e;exact htq)))
  have hU:=Lib.hid hU
  have hwU:=Lib.hid (hF.wd.grown hgU (fun g e=>by have:=Option.some.inj e;omega))
  have hB0:=Lib.hid (((hdb9.out _ (below_step hb3.out hb.out))).grown hgU (hne _ _ (by omega)))
  have hgU:=Lib.hid hgU
  clear hF hcr hNA hz hcb hdb9 hb3 ha hb
  unfold unroll
  go_upto_region 37 with fail
  replace hwU:=Lib.hid (hwU.out.below (Below.refl _ _).drew)
  replace hB0:=Lib.hid (hB0.out.below (Below.refl _ _).drew)
  replace hU:=Lib.hid (hU.out.below (Below.refl _ _).drew)
  replace hrow:=Lib.hid (hrow.out.below (Below.refl _ _).drew)
  replace hcr2:=Lib.hid (hcr2.out.below (Below.refl _ _).drew)
  replace hgU:=Lib.hid (hgU.out.trans (below_grown (Below.refl wU.heap.size wU).drew (some b)))
  obtain⟨wR,hwR⟩:∃ wR,wU.drew=wR:=⟨_,rfl⟩
  rw[hwR] at hwU hB0 hU hrow hcr2 hgU
  refine wp_region_heldZ (S:=Sc [(q+6,0,.map (some (q+1))),(w.heap.size,3,.string ⟨#[97,110,110]⟩)]) 7 (by kernel_rfl) (by rw[hwR];exact (Sc.mk (by simp only[cs_iff_cons];exact⟨hwU.out.box.c 0 _ rfl,hB0.out.c 3 _ rfl,cs_nil _⟩))) (fun hHeld=>?_)
  rw[hwR] at hHeld ⊢
  clear hwR hB0
  refine tkZx 0 141 ?_
  refine tkZx 1 142 ?_
  refine tkZx 2 143 ?_
  refine tkZx 3 144 ?_
  refine tkZx 4 145 ?_
  refine tkZx 5 146 ?_
  refine tkZx 6 147 ?_
  obtain⟨nd,hnd,md⟩:=hwU.out.pd
  obtain⟨wE,hrun,hmE,hgE,hsE⟩:=md.store strLit_inj (string_keyed Tryz.underlying9) Tryz.underlying72 (by unfold maxLen;omega) (val:=.bool true) (keyOf_string_mk Tryz.underlying9 (s:=⟨#[97,110,110]⟩) (by decide))
  have hwE:=Lib.hid (hwU.out.deadS hgE hmE (by omega))
  have hlU:=hwU.out.lt
  have htE:Hid (TbAt wE b 3 nc cl fr (-1) NA (some ⟨tq,tof,none⟩) (.slice DA 1 dc)):=⟨rows_far hrow.out hgE (fun a e=>hne _ _ (by cases e;show tq≠q+1;have h8:q+7≤tq:=htq2;omega)),hU.out.grown hgE (hne _ _ (by omega))⟩
  have hcE:=Lib.hid (rows_far hcr2.out hgE (fun a e=>hne _ _ (by have:=hNAq.out a e;omega)))
  have hfin:Hid (Below (q+1) w wE∧∀ B,B<w.heap.size→B≠q+1→B≠b→wE.heap[B]?=w.heap[B]?):=by
   have s1:=haT.out.size
   have s2:=hgU.out.size
   refine⟨((haT.out.mono (by omega):Below (q+1) w wT).grown hgU.out (by omega) (fun g e=>by have:=Option.some.inj e;omega)).grown hgE (by omega) (fun g e=>by have:=Option.some.inj e;omega),fun B h1 h2 h3=>?_⟩
   exact (hgE.block B (by omega) (hne _ _ h2)).trans ((hgU.out.block B (by omega) (hne _ _ h3)).trans (haT.out.block B h1))
  clear hmE hgE hsE md hwU hU hrow hcr2 hgU haT
  refine ratZc 7 (by decide +kernel) rfl (by decide +kernel) (fun K hK=>?_)
  rw[if_pos (by kernel_rfl)]
  go_simp
  refine hK.out _ _ ?_
  clear hK K
  (try simp only[apS,apN,siA,scZ,scS])
  refine wpAnyHY_done (by decide +kernel) ?_ _
  clear hrun hHeld
  go_wp2
  go_ret
  exact⟨rfl,_,_,_,hwE.out,htE.out,hcE.out,hfin.out.1,hfin.out.2,fun a e=>by have:=hNAq.out a e;omega⟩
 (rw[if_pos (by kernel_rfl)];go_simp)
 refine hK.out _ _ (hHeld.step (below_alloc _ _)) (fun hHeld2=>?_)
 clear hK K hHeld
 (try simp only[apS,apN,siA,scZ,scS])
 (refine ratHx 4 (fun K hK=>?_);go_simp)
 refine (CloneStrs_nil 0 _).mono ?_
 rintro e9 wc ⟨rfl,rfl⟩
 refine hK.out _ _ hHeld2 (fun hHeld3=>?_)
 clear hK K hHeld2
 (try simp only[apS,apN,siA,scZ,scS])
 (refine wpAnyH_ready (rs:=[8]) (by decide +kernel) (by simp) ?_;refine AllReadyH.cons rfl (fun K hK=>?_) AllReadyH.nil)
 refine step_append_rows elemStr (by rfl) (.tmp 88) (.tmp 91) (by rfl) (by rfl) (by rfl) (OwnL.nil _ (w5.heap.size+1) 9 1) (rowsAt_new w9 [.string ⟨#[97,110,110]⟩] 9) rfl (str_wid _) (str_one _) (by simp) (by decide) (by simp;omega) ?_
 intro dv w10 hod hgd _
 obtain⟨DA,dc,hdv,_⟩:=OwnL.form hod
 have hdv2:dv=.slice DA 1 dc:=hdv
 subst hdv2
 have hba:=below_alloc w9 (.cells #[.string ⟨#[97,110,110]⟩] 9)
 have hgd2:(w9.alloc (.cells #[.string ⟨#[97,110,110]⟩] 9)).grownBy w10 none:=hgd
 have hx10:=(hx8.out.below hba).grown hgd2 (fun e=>by cases e)
 have ho10:=(ho8.out.below hba).kept hgd2 (Classical.em _)
 have hb10:=below_step hb8.out (below_step hba (grown_below hgd (fun g e=>by cases e) (Nat.le_refl _)))
 have hx10l:=hx10.lt
 have hS10:=hS5.out.step hb10
 refine hK.out _ _ hS10 (fun hHeld4=>?_)
 clear hK K hHeld3 hod hdv hgd hgd2 hba
 (try simp only[apS,apN,siA,scZ,scS])
 refine tkHx 9 93 ?_
 have y0:=hx10.c 5 _ rfl;have y1:=hx10.free 5 (by simp)
 have hx11:Hid (BoxAt (w10.setCell ⟨w5.heap.size,5,none⟩ (.slice DA 1 dc)) w5.heap.size [.string ⟨#[97,49]⟩,.int .i64 cl,.int .i64 fr,.int .i64 (-1),.slice CA 1 cc,.slice DA 1 dc]):=hx10.set 5 _ (by simp)
 have ho11:=Lib.hid (ho10.offF (B':=w5.heap.size) 5 (.slice DA 1 dc) (by omega))
 have hb11:=Lib.hid (hb10.setCell (p:=⟨w5.heap.size,5,none⟩) (Nat.le_refl _) (.slice DA 1 dc))
 have hS11:=Lib.hid (hS5.out.step hb11.out)
 clear hx10 ho10 hb10 hS10 hx8 ho8 hb8
 (refine ratHx 10 (fun K hK=>?_);go_simp)
 refine hK.out _ _ hS11.out (fun hHeld5=>?_)
 clear hK K hHeld4 hHeld5 y0 y1 hS11
 (try simp only[apS,apN,siA,scZ,scS])
 refine wpAnyH_done (by kernel_rfl) ?_ _
 obtain⟨w11,hw11⟩:∃ w11,w10.setCell ⟨w5.heap.size,5,none⟩ (.slice DA 1 dc)=w11:=⟨_,rfl⟩
 rw[hw11] at hx11 ho11 hb11 ⊢
 clear hw11 hx10l hxl hS5
 have haW:=Lib.hid (below_step ha.out hb11.out)
 have h3W:=Lib.hid (below_step hb3.out hb11.out)
 have d3:=(hdb9.out _ h3W.out).c 3 _ rfl
 have hCr:RowsAt w11 CA 3 ([ann1].map Pa.cells):=by
  obtain⟨A0,c0,hv,hr⟩:=ho11.out.form
  cases hv
  exact hr
 have hsh2:=Lib.hid (share_ann w5.heap.size cc ⟨#[97,49]⟩ cl fr (-1) 1 1 CA (.slice DA 1 dc) w11 hx11.out hCr)
 have hxl11:=hx11.out.lt
 clear hCr
 go_wp2_with (first
  |(go_at_call 56;clear d3;refine hsh2.out.mono ?_;rintro e9 w12 ⟨rfl,hbn⟩;have hba:=below_step hbn (below_alloc w12 (.cells #[.int .i64 1,.int .i64 1] 33));have hOB:=World.alloc_heap_new w12 (.cells #[.int .i64 1,.int .i64 1] 33);have hsz12:=hbn.size;replace hx11:=Lib.hid (hx11.out.below hba);replace ho11:=Lib.hid (ho11.out.below hba);replace hb11:=Lib.hid (below_step hb11.out hba);replace hOB:=Lib.hid hOB;have d3:=(hdb9.out _ (below_step h3W.out hba)).c 3 _ rfl;clear hba hbn hsh2)
  |(go_at_call 55;clear d3;refine (set_del w5.heap.size cc ⟨#[97,49]⟩ cl fr (-1) 1 1 1 CA (.slice DA 1 dc) _ hx11.out ho11.out).mono ?_;rintro e9 wS ⟨rfl,NA,nn,nc,hx,ho,hbS,hkS⟩;have hb:=Lib.hid (hb11.out.trans hbS);replace hOB:=Lib.hid (hkS _ _ _ hOB.out (by decide) (by omega));clear hkS hbS hx11 ho11 hb11))
 obtain⟨hn0,_⟩:=ho.capN
 have hn1:nn=0:=by simpa using hn0
 subst hn1
 replace hx:=Lib.hid hx
 replace ho:=Lib.hid ho
 clear hn0 haW h3W
 refine wp_unroll 4 ?_
 unfold unroll
 obtain⟨b9,o9,hA9,_,⟨e0,e1,e2⟩,⟨e3,e4,e5⟩,e6,e7,e8⟩:=est_at (her.out.below hb.out)
 cases hA9
 have hba:=below_alloc wS (.cells #[.string ⟨#[98,111,98]⟩,.int .i64 3,.int .i64 8] 35)
 have hoP:=heap_below hOB.out hba
 have o0:=cell_of_heap hoP (i:=0) rfl
 have o1:=cell_of_heap hoP (i:=1) rfl
 have hszS:=hb.out.size
 have hOl:w12.heap.size<wS.heap.size:=(Array.getElem?_eq_some_iff.1 hOB.out).1
 have hbP:=Lib.hid (BoxAt.new wS #[.string ⟨#[98,111,98]⟩,.int .i64 3,.int .i64 8] 35)
 have hZ:=Lib.hid hba
 clear hoP hba
 go_upto_region 26 with (go_at_call 58;clear e0 e1 e2 e3 e4 e5 e6 e7 e8 o0 o1;refine (cmul_1_1_3_8 X.heap.size _).mono ?_;rintro e9 wM ⟨rfl,hbn⟩;replace hZ:=Lib.hid (below_step hZ.out hbn);replace hbP:=Lib.hid (hbP.out.below hbn);have hbG:=Lib.hid (BoxAt.new wM #[.int .i64 3,.int .i64 8] 33);have hba:=below_alloc wM (.cells #[.int .i64 3,.int .i64 8] 33);replace hZ:=Lib.hid (below_step hZ.out hba);replace hbP:=Lib.hid (hbP.out.below hba);clear hba hbn)
 obtain⟨z,hz9⟩:∃ z,(wM.alloc (.cells #[.int .i64 3,.int .i64 8] 33)).drew=z:=⟨_,rfl⟩
 replace hZ:=Lib.hid (below_step hZ.out (Below.refl _ _).drew)
 replace hbP:=Lib.hid (hbP.out.below (Below.refl _ _).drew)
 replace hbG:=Lib.hid (hbG.out.below (Below.refl _ _).drew)
 rw[hz9] at hZ hbP hbG
 refine wp_region_heldZ (S:=Sc [(wS.heap.size,0,.string ⟨#[98,111,98]⟩),(wM.heap.size,0,.int .i64 3),(wM.heap.size,1,.int .i64 8)]) 7 (by kernel_rfl) (by rw[hz9];exact (Sc.mk (by simp only[cs_iff_cons];exact⟨hbP.out.c 0 _ rfl,hbG.out.c 0 _ rfl,hbG.out.c 1 _ rfl,cs_nil _⟩))) (fun hHeld=>?_)
 rw[hz9] at hHeld ⊢
 clear hz9 hbP hbG
 refine tkZx 0 111 ?_
 refine tkZx 1 112 ?_
 refine tkZx 2 113 ?_
 refine tkZx 3 114 ?_
 refine tkZx 5 116 ?_
 refine ratZ 4 (by decide +kernel) rfl (fun K hK=>?_)
 rw[if_pos (by kernel_rfl)]
 go_simp
 have hrow:RowsAt z NA 3 (([]:List Pa).map Pa.cells):=by
  obtain⟨A0,c0,hv,hr⟩:=(ho.out.below hZ.out).form
  cases hv
  exact hr
 refine (share_none w5.heap.size 0 nc ⟨#[97,49]⟩ ⟨#[98,111,98]⟩ cl fr (-1) 0 NA (.slice DA 1 dc) _ (hx.out.below hZ.out) (fun W h9=>Search_nil NA nc ⟨#[98,111,98]⟩ W)).mono ?_
 rintro e9 z2 ⟨rfl,hbn⟩
 refine hK.out _ _ (hHeld.below hbn) (fun hH2=>?_)
 replace hZ:=Lib.hid (below_step hZ.out hbn)
 clear hK K hHeld hrow hbn
 have hHeld:=hH2
 clear hH2
 (try simp only[apS,apN,siA,scZ,scS])
 refine ratZ 6 (by decide +kernel) rfl (fun K hK=>?_)
 rw[if_pos (by kernel_rfl)]
 go_simp
 refine (cadd_0_1_3_8 X.heap.size _).mono ?_
 rintro e9 z3 ⟨rfl,hbn⟩
 refine hK.out _ _ (hHeld.below hbn) (fun hH2=>?_)
 replace hZ:=Lib.hid (below_step hZ.out hbn)
 clear hK K hHeld hbn
 have hHeld:=hH2
 clear hH2
 (try simp only[apS,apN,siA,scZ,scS])
 refine ratZc 7 (by decide +kernel) rfl (by decide +kernel) (fun K hK=>?_)
 rw[if_pos (by kernel_rfl)]
 go_simp
 have hrow:RowsAt z3 NA 3 (([]:List Pa).map Pa.cells):=by
  obtain⟨A0,c0,hv,hr⟩:=(ho.out.below hZ.out).form
  cases hv
  exact hr
 refine (set_put w5.heap.size 0 nc ⟨#[97,49]⟩ ⟨#[98,111,98]⟩ cl fr (-1) 3 8 NA (.slice DA 1 dc) [] _ (hx.out.below hZ.out) (ho.out.below hZ.out) (by simp) rfl (fun W h9=>Search_nil NA nc ⟨#[98,111,98]⟩ W)).mono ?_
 rintro e9 wN ⟨rfl,NB,nn,nc2,hxN,hoN,hbN,hkN⟩
 have hbN2:=Lib.hid ((below_step hb.out hZ.out).trans hbN)
 have hOBN:=Lib.hid (hkN _ _ _ (heap_below hOB.out hZ.out) (by decide) (by omega))
 obtain⟨hn0,_⟩:=hoN.capN
 have hn1:nn=1:=by simpa using hn0
 subst hn1
 clear hb hx ho hZ hOB hrow hbN hkN hn0 hszS hOl
 refine hK.out _ _ ?_
 clear hK K hHeld
 (try simp only[apS,apN,siA,scZ,scS])
 refine wpAnyHY_done (by decide +kernel) ?_ _
 have hx:=Lib.hid hxN
 have ho:=Lib.hid hoN
 have hb:=hbN2
 have hOB:=hOBN
 clear hxN hoN hbN2 hOBN
 obtain⟨wS,hwS⟩:∃ wS,wS=wN:=⟨_,rfl⟩
 obtain⟨NA,hNA⟩:∃ NA,NA=NB:=⟨_,rfl⟩
 obtain⟨nc,hnc⟩:∃ nc,nc=nc2:=⟨_,rfl⟩
 subst hwS hNA hnc
 go_wp2
 unfold unroll
 obtain⟨b9,o9,hA9,_,⟨e0,e1,e2⟩,⟨e3,e4,e5⟩,e6,e7,e8⟩:=est_at (her.out.below hb.out)
 cases hA9
 have hba:=below_alloc wS (.cells #[.string ⟨#[99,97,116]⟩,.int .i64 3,.int .i64 8] 35)
 have hoP:=heap_below hOB.out hba
 have o0:=cell_of_heap hoP (i:=0) rfl
 have o1:=cell_of_heap hoP (i:=1) rfl
 have hszS:=hb.out.size
 have hOl:w12.heap.size<wS.heap.size:=(Array.getElem?_eq_some_iff.1 hOB.out).1
 have hbP:=Lib.hid (BoxAt.new wS #[.string ⟨#[99,97,116]⟩,.int .i64 3,.int .i64 8] 35)
 have hZ:=Lib.hid hba
 clear hoP hba
 go_upto_region 26 with (go_at_call 58;clear e0 e1 e2 e3 e4 e5 e6 e7 e8 o0 o1;refine (cmul_1_1_3_8 X.heap.size _).mono ?_;rintro e9 wM ⟨rfl,hbn⟩;replace hZ:=Lib.hid (below_step hZ.out hbn);replace hbP:=Lib.hid (hbP.out.below hbn);have hbG:=Lib.hid (BoxAt.new wM #[.int .i64 3,.int .i64 8] 33);have hba:=below_alloc wM (.cells #[.int .i64 3,.int .i64 8] 33);replace hZ:=Lib.hid (below_step hZ.out hba);replace hbP:=Lib.hid (hbP.out.below hba);clear hba hbn)
 obtain⟨z,hz9⟩:∃ z,(wM.alloc (.cells #[.int .i64 3,.int .i64 8] 33)).drew=z:=⟨_,rfl⟩
 replace hZ:=Lib.hid (below_step hZ.out (Below.refl _ _).drew)
 replace hbP:=Lib.hid (hbP.out.below (Below.refl _ _).drew)
 replace hbG:=Lib.hid (hbG.out.below (Below.refl _ _).drew)
 rw[hz9] at hZ hbP hbG
 refine wp_region_heldZ (S:=Sc [(wS.heap.size,0,.string ⟨#[99,97,116]⟩),(wM.heap.size,0,.int .i64 3),(wM.heap.size,1,.int .i64 8)]) 7 (by kernel_rfl) (by rw[hz9];exact (Sc.mk (by simp only[cs_iff_cons];exact⟨hbP.out.c 0 _ rfl,hbG.out.c 0 _ rfl,hbG.out.c 1 _ rfl,cs_nil _⟩))) (fun hHeld=>?_)
 rw[hz9] at hHeld ⊢
 clear hz9 hbP hbG
 refine tkZx 0 111 ?_
 refine tkZx 1 112 ?_
 refine tkZx 2 113 ?_
 refine tkZx 3 114 ?_
 refine tkZx 5 116 ?_
 refine ratZ 4 (by decide +kernel) rfl (fun K hK=>?_)
 rw[if_pos (by kernel_rfl)]
 go_simp
 have hrow:RowsAt z NA 3 (([⟨⟨#[98,111,98]⟩,3,8⟩]:List Pa).map Pa.cells):=by
  obtain⟨A0,c0,hv,hr⟩:=(ho.out.below hZ.out).form
  cases hv
  exact hr
 refine (share_none w5.heap.size 1 nc ⟨#[97,49]⟩ ⟨#[99,97,116]⟩ cl fr (-1) 1 NA (.slice DA 1 dc) _ (hx.out.below hZ.out) (fun W h9=>Search_cat NA nc 3 8 W (hrow.below h9))).mono ?_
 rintro e9 z2 ⟨rfl,hbn⟩
 refine hK.out _ _ (hHeld.below hbn) (fun hH2=>?_)
 replace hZ:=Lib.hid (below_step hZ.out hbn)
 clear hK K hHeld hrow hbn
 have hHeld:=hH2
 clear hH2
 (try simp only[apS,apN,siA,scZ,scS])
 refine ratZ 6 (by decide +kernel) rfl (fun K hK=>?_)
 rw[if_pos (by kernel_rfl)]
 go_simp
 refine (cadd_0_1_3_8 X.heap.size _).mono ?_
 rintro e9 z3 ⟨rfl,hbn⟩
 refine hK.out _ _ (hHeld.below hbn) (fun hH2=>?_)
 replace hZ:=Lib.hid (below_step hZ.out hbn)
 clear hK K hHeld hbn
 have hHeld:=hH2
 clear hH2
 (try simp only[apS,apN,siA,scZ,scS])
 refine ratZc 7 (by decide +kernel) rfl (by decide +kernel) (fun K hK=>?_)
 rw[if_pos (by kernel_rfl)]
 go_simp
 have hrow:RowsAt z3 NA 3 (([⟨⟨#[98,111,98]⟩,3,8⟩]:List Pa).map Pa.cells):=by
  obtain⟨A0,c0,hv,hr⟩:=(ho.out.below hZ.out).form
  cases hv
  exact hr
 refine (set_put w5.heap.size 1 nc ⟨#[97,49]⟩ ⟨#[99,97,116]⟩ cl fr (-1) 3 8 NA (.slice DA 1 dc) [⟨⟨#[98,111,98]⟩,3,8⟩] _ (hx.out.below hZ.out) (ho.out.below hZ.out) (by simp) rfl (fun W h9=>Search_cat NA nc 3 8 W (hrow.below h9))).mono ?_
 rintro e9 wN ⟨rfl,NB,nn,nc2,hxN,hoN,hbN,hkN⟩
 have hbN2:=Lib.hid ((below_step hb.out hZ.out).trans hbN)
 have hOBN:=Lib.hid (hkN _ _ _ (heap_below hOB.out hZ.out) (by decide) (by omega))
 obtain⟨hn0,_⟩:=hoN.capN
 have hn1:nn=2:=by simpa using hn0
 subst hn1
 clear hb hx ho hZ hOB hrow hbN hkN hn0 hszS hOl
 refine hK.out _ _ ?_
 clear hK K hHeld
 (try simp only[apS,apN,siA,scZ,scS])
 refine wpAnyHY_done (by decide +kernel) ?_ _
 have hx:=Lib.hid hxN
 have ho:=Lib.hid hoN
 have hb:=hbN2
 have hOB:=hOBN
 clear hxN hoN hbN2 hOBN
 obtain⟨wS,hwS⟩:∃ wS,wS=wN:=⟨_,rfl⟩
 obtain⟨NA,hNA⟩:∃ NA,NA=NB:=⟨_,rfl⟩
 obtain⟨nc,hnc⟩:∃ nc,nc=nc2:=⟨_,rfl⟩
 subst hwS hNA hnc
 go_wp2
 unfold unroll
 obtain⟨b9,o9,hA9,_,⟨e0,e1,e2⟩,⟨e3,e4,e5⟩,e6,e7,e8⟩:=est_at (her.out.below hb.out)
 cases hA9
 have hba:=below_alloc wS (.cells #[.string ⟨#[100,97,110]⟩,.int .i64 1,.int .i64 4] 35)
 have hoP:=heap_below hOB.out hba
 have o0:=cell_of_heap hoP (i:=0) rfl
 have o1:=cell_of_heap hoP (i:=1) rfl
 have hszS:=hb.out.size
 have hOl:w12.heap.size<wS.heap.size:=(Array.getElem?_eq_some_iff.1 hOB.out).1
 have hbP:=Lib.hid (BoxAt.new wS #[.string ⟨#[100,97,110]⟩,.int .i64 1,.int .i64 4] 35)
 have hZ:=Lib.hid hba
 clear hoP hba
 go_upto_region 26 with (go_at_call 58;clear e0 e1 e2 e3 e4 e5 e6 e7 e8 o0 o1;refine (cmul_1_1_1_4 X.heap.size _).mono ?_;rintro e9 wM ⟨rfl,hbn⟩;replace hZ:=Lib.hid (below_step hZ.out hbn);replace hbP:=Lib.hid (hbP.out.below hbn);have hbG:=Lib.hid (BoxAt.new wM #[.int .i64 1,.int .i64 4] 33);have hba:=below_alloc wM (.cells #[.int .i64 1,.int .i64 4] 33);replace hZ:=Lib.hid (below_step hZ.out hba);replace hbP:=Lib.hid (hbP.out.below hba);clear hba hbn)
 obtain⟨z,hz9⟩:∃ z,(wM.alloc (.cells #[.int .i64 1,.int .i64 4] 33)).drew=z:=⟨_,rfl⟩
 replace hZ:=Lib.hid (below_step hZ.out (Below.refl _ _).drew)
 replace hbP:=Lib.hid (hbP.out.below (Below.refl _ _).drew)
 replace hbG:=Lib.hid (hbG.out.below (Below.refl _ _).drew)
 rw[hz9] at hZ hbP hbG
 refine wp_region_heldZ (S:=Sc [(wS.heap.size,0,.string ⟨#[100,97,110]⟩),(wM.heap.size,0,.int .i64 1),(wM.heap.size,1,.int .i64 4)]) 7 (by kernel_rfl) (by rw[hz9];exact (Sc.mk (by simp only[cs_iff_cons];exact⟨hbP.out.c 0 _ rfl,hbG.out.c 0 _ rfl,hbG.out.c 1 _ rfl,cs_nil _⟩))) (fun hHeld=>?_)
 rw[hz9] at hHeld ⊢
 clear hz9 hbP hbG
 refine tkZx 0 111 ?_
 refine tkZx 1 112 ?_
 refine tkZx 2 113 ?_
 refine tkZx 3 114 ?_
 refine tkZx 5 116 ?_
 refine ratZ 4 (by decide +kernel) rfl (fun K hK=>?_)
 rw[if_pos (by kernel_rfl)]
 go_simp
 have hrow:RowsAt z NA 3 (([⟨⟨#[98,111,98]⟩,3,8⟩,⟨⟨#[99,97,116]⟩,3,8⟩]:List Pa).map Pa.cells):=by
  obtain⟨A0,c0,hv,hr⟩:=(ho.out.below hZ.out).form
  cases hv
  exact hr
 refine (share_none w5.heap.size 2 nc ⟨#[97,49]⟩ ⟨#[100,97,110]⟩ cl fr (-1) 2 NA (.slice DA 1 dc) _ (hx.out.below hZ.out) (fun W h9=>Search_dan NA nc 3 8 3 8 W (hrow.below h9))).mono ?_
 rintro e9 z2 ⟨rfl,hbn⟩
 refine hK.out _ _ (hHeld.below hbn) (fun hH2=>?_)
 replace hZ:=Lib.hid (below_step hZ.out hbn)
 clear hK K hHeld hrow hbn
 have hHeld:=hH2
 clear hH2
 (try simp only[apS,apN,siA,scZ,scS])
 refine ratZ 6 (by decide +kernel) rfl (fun K hK=>?_)
 rw[if_pos (by kernel_rfl)]
 go_simp
 refine (cadd_0_1_1_4 X.heap.size _).mono ?_
 rintro e9 z3 ⟨rfl,hbn⟩
 refine hK.out _ _ (hHeld.below hbn) (fun hH2=>?_)
 replace hZ:=Lib.hid (below_step hZ.out hbn)
 clear hK K hHeld hbn
 have hHeld:=hH2
 clear hH2
 (try simp only[apS,apN,siA,scZ,scS])
 refine ratZc 7 (by decide +kernel) rfl (by decide +kernel) (fun K hK=>?_)
 rw[if_pos (by kernel_rfl)]
 go_simp
 have hrow:RowsAt z3 NA 3 (([⟨⟨#[98,111,98]⟩,3,8⟩,⟨⟨#[99,97,116]⟩,3,8⟩]:List Pa).map Pa.cells):=by
  obtain⟨A0,c0,hv,hr⟩:=(ho.out.below hZ.out).form
  cases hv
  exact hr
 refine (set_put w5.heap.size 2 nc ⟨#[97,49]⟩ ⟨#[100,97,110]⟩ cl fr (-1) 1 4 NA (.slice DA 1 dc) [⟨⟨#[98,111,98]⟩,3,8⟩,⟨⟨#[99,97,116]⟩,3,8⟩] _ (hx.out.below hZ.out) (ho.out.below hZ.out) (by simp) rfl (fun W h9=>Search_dan NA nc 3 8 3 8 W (hrow.below h9))).mono ?_
 rintro e9 wN ⟨rfl,NB,nn,nc2,hxN,hoN,hbN,hkN⟩
 have hbN2:=Lib.hid ((below_step hb.out hZ.out).trans hbN)
 have hOBN:=Lib.hid (hkN _ _ _ (heap_below hOB.out hZ.out) (by decide) (by omega))
 obtain⟨hn0,_⟩:=hoN.capN
 have hn1:nn=3:=by simpa using hn0
 subst hn1
 clear hb hx ho hZ hOB hrow hbN hkN hn0 hszS hOl
 refine hK.out _ _ ?_
 clear hK K hHeld
 (try simp only[apS,apN,siA,scZ,scS])
 refine wpAnyHY_done (by decide +kernel) ?_ _
 have hx:=Lib.hid hxN
 have ho:=Lib.hid hoN
 have hb:=hbN2
 have hOB:=hOBN
 clear hxN hoN hbN2 hOBN
 obtain⟨wS,hwS⟩:∃ wS,wS=wN:=⟨_,rfl⟩
 obtain⟨NA,hNA⟩:∃ NA,NA=NB:=⟨_,rfl⟩
 obtain⟨nc,hnc⟩:∃ nc,nc=nc2:=⟨_,rfl⟩
 subst hwS hNA hnc
 go_wp2
 unfold unroll
 obtain⟨x0,x1,x2,x3⟩:=hx.out.c4;have x4:=hx.out.c 4 _ rfl;have x5:=hx.out.c 5 _ rfl
 clear hOB hxl11 hsz12
 go_wp2_with (at_builtin;refine wpList_append_rows elemTm rfl _ _ rfl rfl rfl (OwnL.nil _ wS.heap.size 66 6) (rowsAt_new wS [.string ⟨#[97,49]⟩,.int .i64 cl,.int .i64 fr,.int .i64 (-1),.slice NA 3 nc,.slice DA 1 dc] 66) rfl (fun r hr=>by rw[List.mem_singleton.1 hr];rfl) (fun r hr u hu=>by rw[List.mem_singleton.1 hr] at hu;simp at hu;rcases hu with rfl | rfl | rfl | rfl | rfl | rfl <;> rfl) (by simp) (by decide) (by simp) ?_;intro nv wT hon hgn _)
 clear x0 x1 x2 x3 x4 x5
 have hbT:=below_step (below_alloc wS (.cells #[.string ⟨#[97,49]⟩,.int .i64 cl,.int .i64 fr,.int .i64 (-1),.slice NA 3 nc,.slice DA 1 dc] 66)) (grown_below hgn (fun g e=>by cases e) (Nat.le_refl _))
 have hcr:RowsAt wT NA 3 (estPs.map Pa.cells):=by
  obtain⟨A0,c0,hv,hr⟩:=(ho.out.below hbT).form
  cases hv
  exact hr
 have hNA:∀ a,NA=some a→w5.heap.size+1≤a.block:=fun a e=>(ho.out.lt a.block (by rw[e];rfl)).1
 obtain⟨QA,qc,hnv,hnr⟩:=OwnL.form hon
 have hnv2:nv=.slice QA 1 qc:=hnv
 subst hnv2
 obtain⟨nb,no,hQA,_,hnc⟩:=hnr 0 _ rfl
 subst hQA
 have n0:=hnc 0 _ rfl
 have n1:=hnc 1 _ rfl
 have n2:=hnc 2 _ rfl
 have n3:=hnc 3 _ rfl
 have n4:=hnc 4 _ rfl
 have n5:=hnc 5 _ rfl
 rw[Nat.add_zero] at n0
 replace hb:=Lib.hid (below_step hb.out hbT)
 obtain⟨hq9,hof9,hHA9,_,hhc9⟩:=(hhr.out.below hb.out) 0 _ rfl
 cases hHA9
 have hh0:=hhc9 0 _ rfl
 rw[Nat.add_zero] at hh0
 have haT:=Lib.hid (below_step ha.out hb.out)
 have cc0:=(hcb.out _ (below_step hb3.out hb.out)).c 0 _ rfl
 have htb:=Lib.hid (hz.out _ haT.out).tb.box
 have hcr:=Lib.hid hcr
 have hNAq:=Lib.hid hNA
 have hNA:=Lib.hid hNA
 have hw5:=ha.out.size
 clear hon hgn hbT hnv hnr hnc hhc9 hx ho her hhr
 unfold unroll
 go_wp2
 refine wp_unroll 2 ?_
 unfold unroll
 go_wp2_with (refine wpList_store_box rfl 66 (.tmp 139) (.tmp 138) rfl b _ [.string ⟨#[97,49]⟩,.int .i64 cl,.int .i64 fr,.int .i64 (-1),.slice NA 3 nc,.slice DA 1 dc] (by rfl) (by rfl) htb.out rfl tbSize (by kernel_rfl) ?_;intro wU hU hgU;clear n0 n1 n2 n3 n4 n5 hh0 cc0 htb)
 have hne:∀ b9 c9:Nat,b9≠c9→some b9≠some c9:=fun b9 c9 h9 e9=>h9 (Option.some.inj e9)
 have hF:=hz.out _ haT.out
 have hcr2:=Lib.hid (rows_far hcr.out hgU (fun a e=>hne _ _ (by have:=hNA.out a e;omega)))
 have hrow:=Lib.hid (rows_far hF.tb.row hgU (fun a e=>hne _ _ (by cases e;exact htq)))
 have hU:=Lib.hid hU
 have hwU:=Lib.hid (hF.wd.grown hgU (fun g e=>by have:=Option.some.inj e;omega))
 have hB0:=Lib.hid (((hdb9.out _ (below_step hb3.out hb.out))).grown hgU (hne _ _ (by omega)))
 have hgU:=Lib.hid hgU
 clear hF hcr hNA hz hcb hdb9 hb3 ha hb
 unfold unroll
 go_upto_region 37 with fail
 replace hwU:=Lib.hid (hwU.out.below (Below.refl _ _).drew)
 replace hB0:=Lib.hid (hB0.out.below (Below.refl _ _).drew)
 replace hU:=Lib.hid (hU.out.below (Below.refl _ _).drew)
 replace hrow:=Lib.hid (hrow.out.below (Below.refl _ _).drew)
 replace hcr2:=Lib.hid (hcr2.out.below (Below.refl _ _).drew)
 replace hgU:=Lib.hid (hgU.out.trans (below_grown (Below.refl wU.heap.size wU).drew (some b)))
 obtain⟨wR,hwR⟩:∃ wR,wU.drew=wR:=⟨_,rfl⟩
 rw[hwR] at hwU hB0 hU hrow hcr2 hgU
 refine wp_region_heldZ (S:=Sc [(q+6,0,.map (some (q+1))),(w.heap.size,3,.string ⟨#[97,110,110]⟩)]) 7 (by kernel_rfl) (by rw[hwR];exact (Sc.mk (by simp only[cs_iff_cons];exact⟨hwU.out.box.c 0 _ rfl,hB0.out.c 3 _ rfl,cs_nil _⟩))) (fun hHeld=>?_)
 rw[hwR] at hHeld ⊢
 clear hwR hB0
 refine tkZx 0 141 ?_
 refine tkZx 1 142 ?_
 refine tkZx 2 143 ?_
 refine tkZx 3 144 ?_
 refine tkZx 4 145 ?_
 refine tkZx 5 146 ?_
 refine tkZx 6 147 ?_
 obtain⟨nd,hnd,md⟩:=hwU.out.pd
 obtain⟨wE,hrun,hmE,hgE,hsE⟩:=md.store strLit_inj (string_keyed Tryz.underlying9) Tryz.underlying72 (by unfold maxLen;omega) (val:=.bool true) (keyOf_string_mk Tryz.underlying9 (s:=⟨#[97,110,110]⟩) (by decide))
 have hwE:=Lib.hid (hwU.out.deadS hgE hmE (by omega))
 have hlU:=hwU.out.lt
 have htE:Hid (TbAt wE b 3 nc cl fr (-1) NA (some ⟨tq,tof,none⟩) (.slice DA 1 dc)):=⟨rows_far hrow.out hgE (fun a e=>hne _ _ (by cases e;show tq≠q+1;have h8:q+7≤tq:=htq2;omega)),hU.out.grown hgE (hne _ _ (by omega))⟩
 have hcE:=Lib.hid (rows_far hcr2.out hgE (fun a e=>hne _ _ (by have:=hNAq.out a e;omega)))
 have hfin:Hid (Below (q+1) w wE∧∀ B,B<w.heap.size→B≠q+1→B≠b→wE.heap[B]?=w.heap[B]?):=by
  have s1:=haT.out.size
  have s2:=hgU.out.size
  refine⟨((haT.out.mono (by omega):Below (q+1) w wT).grown hgU.out (by omega) (fun g e=>by have:=Option.some.inj e;omega)).grown hgE (by omega) (fun g e=>by have:=Option.some.inj e;omega),fun B h1 h2 h3=>?_⟩
  exact (hgE.block B (by omega) (hne _ _ h2)).trans ((hgU.out.block B (by omega) (hne _ _ h3)).trans (haT.out.block B h1))
 clear hmE hgE hsE md hwU hU hrow hcr2 hgU haT
 refine ratZc 7 (by decide +kernel) rfl (by decide +kernel) (fun K hK=>?_)
 rw[if_pos (by kernel_rfl)]
 go_simp
 refine hK.out _ _ ?_
 clear hK K
 (try simp only[apS,apN,siA,scZ,scS])
 refine wpAnyHY_done (by decide +kernel) ?_ _
 clear hrun hHeld
 go_wp2
 go_ret
 exact⟨rfl,_,_,_,hwE.out,htE.out,hcE.out,hfin.out.1,hfin.out.2,fun a e=>by have:=hNAq.out a e;omega⟩
end Go.Proofs.YtcnfhnndppollaaGreatDoor
