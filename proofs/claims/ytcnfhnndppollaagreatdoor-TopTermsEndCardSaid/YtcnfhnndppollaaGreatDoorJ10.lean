/- What the statements rest on: definitions and walks, part 10. -/
import Derived.Test.YtcnfhnndppollaaGreatDoorJ09
set_option maxRecDepth 100000
set_option maxHeartbeats 16000000
set_option linter.unusedSimpArgs false
set_option linter.unusedVariables false
namespace Go.Proofs.YtcnfhnndppollaaGreatDoor
open Go Go.RowKit Go.Maps Go.WideMaps
def FamP (w:World) (e:Ending) (w':World):Prop :=
 e=.returned (.tuple #[.pointer (some ⟨w.heap.size+1+6,0,none⟩),.int .i64 5,.int .i64 0])∧(∃ k fd fk fp M b c tc A TA D la ct,Wd w' (w.heap.size+1) k fd fk fp M (.slice TA 1 tc) la ct∧TbAt w' b 3 c 1 100 (-1) A TA D∧RowsAt w' A 3 (estPs.map Pa.cells))∧Below w.heap.size w w'
theorem ownRows {w:World} {B n c m:Nat} {E:TypeId} {A:Option Addr} {rows:List (List Value)} (h:OwnL w B E m (.slice A n c) rows):RowsAt w A m rows:=by
 obtain⟨A0,c0,hv,hr⟩:=h.form
 cases hv
 exact hr
theorem ConS_nil (s:ByteArray) (w:World):Calls Tryz.prog 65 #[.slice none 0 0,.string s] w fun e w'=>e=.returned (.bool false)∧w'=w:=by
 go_enter Tryz.func65,Tryz.ntmps65
 go_wp2
 refine wp_unroll 1 ?_
 unfold unroll
 go_wp2
 go_ret
 exact⟨rfl,rfl⟩
theorem ConS_bob (A:Option Addr) (c:Nat) (w:World) (h:RowsAt w A 1 [[.string ⟨#[98,111,98]⟩]]):Calls Tryz.prog 65 #[.slice A 1 c,.string ⟨#[99,97,116]⟩] w fun e w'=>e=.returned (.bool false)∧w'=w:=by
 obtain⟨b,o,hA,_,hc⟩:=h 0 _ rfl
 have c0:=hc 0 _ rfl
 rw[Nat.add_zero] at c0
 subst hA
 clear h hc
 go_enter Tryz.func65,Tryz.ntmps65
 go_wp2
 refine wp_unroll 2 ?_
 unfold unroll
 go_wp2
 unfold unroll
 go_wp2
 go_ret
 exact⟨rfl,rfl⟩
theorem replay_fam (LA RA P1 P2 P3 P4:Option Addr) (lc rc c1 c2 c3 c4:Nat) (day:Int) (w:World) (hF:FTab w) (hlw:RowsAt w LA 4 (famLaws.map Lw.cells)) (hro:RowsAt w RA 7 [[.int .i64 6,.int .i64 0,.string ⟨#[]⟩,.string ⟨#[97,110,110]⟩,.slice P1 1 c1,.int .i64 0,.int .i64 0],[.int .i64 6,.int .i64 0,.string ⟨#[]⟩,.string ⟨#[97,110,110]⟩,.slice P2 1 c2,.int .i64 0,.int .i64 0],[.int .i64 7,.int .i64 0,.string ⟨#[]⟩,.string ⟨#[97,110,110]⟩,.slice P3 1 c3,.int .i64 0,.int .i64 0],[.int .i64 0,.int .i64 100,.string ⟨#[97,49]⟩,.string ⟨#[]⟩,.slice P4 1 c4,.int .i64 1,.int .i64 0],[.int .i64 8,.int .i64 200,.string ⟨#[]⟩,.string ⟨#[97,110,110]⟩,.slice none 0 0,.int .i64 0,.int .i64 0]])
  (hp1:RowsAt w P1 3 ([⟨⟨#[98,111,98]⟩,0,0⟩].map Pa.cells)) (hp2:RowsAt w P2 3 ([⟨⟨#[99,97,116]⟩,0,0⟩].map Pa.cells)) (hp3:RowsAt w P3 3 ([⟨⟨#[100,97,110]⟩,0,0⟩].map Pa.cells)) (hp4:RowsAt w P4 3 ([ann1].map Pa.cells)) (hd0:¬day<0) (hd1:¬day<100) (hd2:¬day<200) :
  Calls Tryz.prog 13 #[.agg #[.slice LA 2 lc,.slice RA 5 rc],.int .i64 day] w (FamP w):=by
 have hFz:=Lib.hid (fun W (hb9:Below w.heap.size w W)=>hF.below hb9)
 have hz1:=Lib.hid (fun W (hb9:Below w.heap.size w W)=>hp1.below hb9)
 have hz2:=Lib.hid (fun W (hb9:Below w.heap.size w W)=>hp2.below hb9)
 have hz3:=Lib.hid (fun W (hb9:Below w.heap.size w W)=>hp3.below hb9)
 have hz4:=Lib.hid (fun W (hb9:Below w.heap.size w W)=>hp4.below hb9)
 have hlz:=Lib.hid (fun W (hb9:Below w.heap.size w W)=>hlw.below hb9)
 have hro:=Lib.hid (fun W (hb9:Below w.heap.size w W)=>hro.below hb9)
 clear hF hp1 hp2 hp3 hp4 hlw
 have hnp:=newPeople_any (w.alloc (.cells #[.slice LA 2 lc,.slice RA 5 rc] 28))
 have hA:=below_alloc w (.cells #[.slice LA 2 lc,.slice RA 5 rc] 28)
 have hrb:=BoxAt.new w #[.slice LA 2 lc,.slice RA 5 rc] 28
 obtain⟨wA,hwA⟩:∃ wA,w.alloc (.cells #[.slice LA 2 lc,.slice RA 5 rc] 28)=wA:=⟨_,rfl⟩
 rw[hwA] at hnp hA hrb
 have hqA:=hrb.lt
 have hqE:wA.heap.size=w.heap.size+1:=by rw[←hwA];simp
 have hnp:=Lib.hid hnp
 have hA:=Lib.hid hA
 have hrz:=Lib.hid (fun W (hb9:Below wA.heap.size wA W)=>hrb.below hb9)
 clear hrb
 go_enter Tryz.func13,Tryz.ntmps13
 go_wp2_with (first
  |(go_at_call 27;refine hnp.out.mono ?_;clear hwA hnp;rintro e9 w1 ⟨rfl,hmps,hsz,hb1⟩;rw[hqE] at hmps hsz;have hba:=below_alloc w1 (.cells #[.map (some (w.heap.size+1+1)),.map (some (w.heap.size+1+1+1)),.map (some (w.heap.size+1+1+1+1)),.slice none 0 0,.map (some (w.heap.size+1+1+1+1+1)),.map (some (w.heap.size+1+1+1+1+1+1)),.slice none 0 0,.int .i64 0,.int .i64 0] 82);have hW:=Lib.hid (Wd.made (t:=82) hmps hsz);have hB:=Lib.hid (below_step hb1 hba);have r0:=(hrz.out _ hB.out).c 0 _ rfl;clear hmps hb1 hba)
  |(go_at_call 28;clear r0;refine (CheckLaws_fam lc LA _ (hlz.out _ (below_step hA.out hB.out))).mono ?_;rintro e9 wS ⟨rfl,hbn⟩;replace hW:=Lib.hid (hW.out.below hbn);replace hB:=Lib.hid (below_step hB.out hbn);clear hbn;have r1:=(hrz.out _ hB.out).c 1 _ rfl))
 have hro:=Lib.hid (fun W (hb9:Below wA.heap.size wA W)=>hro.out W (below_step hA.out hb9))
 refine wp_unroll 6 ?_
 unfold unroll
 obtain⟨rb,ro,hRA,_,hrc⟩:=(hro.out _ hB.out) 0 _ rfl
 cases hRA
 have m0:=hrc 0 _ rfl
 have m1:=hrc 1 _ rfl
 have m2:=hrc 2 _ rfl
 have m3:=hrc 3 _ rfl
 have m4:=hrc 4 _ rfl
 have m5:=hrc 5 _ rfl
 have m6:=hrc 6 _ rfl
 change wS.cell? ⟨rb,ro,none⟩=_ at m0
 change wS.cell? ⟨rb,ro+1,none⟩=_ at m1
 change wS.cell? ⟨rb,ro+2,none⟩=_ at m2
 change wS.cell? ⟨rb,ro+3,none⟩=_ at m3
 change wS.cell? ⟨rb,ro+4,none⟩=_ at m4
 change wS.cell? ⟨rb,ro+5,none⟩=_ at m5
 change wS.cell? ⟨rb,ro+6,none⟩=_ at m6
 have hbP:=Lib.hid (BoxAt.new wS #[.int .i64 6,.int .i64 0,.string ⟨#[]⟩,.string ⟨#[97,110,110]⟩,.slice P1 1 c1,.int .i64 0,.int .i64 0] 38)
 have hba:=Lib.hid (below_alloc wS (.cells #[.int .i64 6,.int .i64 0,.string ⟨#[]⟩,.string ⟨#[97,110,110]⟩,.slice P1 1 c1,.int .i64 0,.int .i64 0] 38))
 clear hrc
 go_wp2_with (first
  |(go_at_call 14;clear m0 m1 m2 m3 m4 m5 m6;refine (CheckDeed_bob P1 c1 _ (hFz.out _ (below_step hA.out (below_step hB.out hba.out))) (hz1.out _ (below_step hA.out (below_step hB.out hba.out)))).mono ?_;rintro e9 wC ⟨rfl,hbn⟩;have hbPC:=hbP.out.below hbn;have hst:=below_step hba.out hbn;replace hW:=Lib.hid (hW.out.below hst);have hB2:=Lib.hid hst;replace hB:=Lib.hid (below_step hB.out hst);obtain⟨p0,p1,p2,p3⟩:=hbPC.c4;have p4:=hbPC.c 4 _ rfl;have p5:=hbPC.c 5 _ rfl;have p6:=hbPC.c 6 _ rfl;have r0:=(hrz.out _ hB.out).c 0 _ rfl;clear hbP hba hbn hbPC hst)
  |(go_at_call 15;clear p0 p1 p2 p3 p4 p5 p6 r0;go_loud (refine (wtake_child 0 c1 P1 ⟨#[97,110,110]⟩ ⟨#[98,111,98]⟩ (by decide) (by decide) (.slice none 0 0) _ (by decide) hW.out (hz1.out _ (below_step hA.out hB.out)) rfl rfl rfl [] (by simp) (OwnL.nil _ _ _ _) (fun W _=>ConS_nil _ W) (by decide) (by decide) (by decide)).mono ?_;rintro e9 wS ⟨rfl,v1,u1,hW2,ho1,hbl⟩;replace hW:=Lib.hid hW2;replace hB:=Lib.hid (hB.out.trans (hbl.mono (by omega)));obtain⟨K1,kc1,hv1,hkr1⟩:=OwnL.form ho1;have hv1b:v1=.slice K1 1 kc1:=hv1;subst hv1b;replace ho1:=Lib.hid ho1;replace hkr1:=Lib.hid hkr1;clear hW2 hbl hB2 hv1)))
 unfold unroll
 obtain⟨rb,ro,hRA,_,hrc⟩:=(hro.out _ hB.out) 1 _ rfl
 cases hRA
 have m0:=hrc 0 _ rfl
 have m1:=hrc 1 _ rfl
 have m2:=hrc 2 _ rfl
 have m3:=hrc 3 _ rfl
 have m4:=hrc 4 _ rfl
 have m5:=hrc 5 _ rfl
 have m6:=hrc 6 _ rfl
 change wS.cell? ⟨rb,ro+7,none⟩=_ at m0
 change wS.cell? ⟨rb,ro+7+1,none⟩=_ at m1
 change wS.cell? ⟨rb,ro+7+2,none⟩=_ at m2
 change wS.cell? ⟨rb,ro+7+3,none⟩=_ at m3
 change wS.cell? ⟨rb,ro+7+4,none⟩=_ at m4
 change wS.cell? ⟨rb,ro+7+5,none⟩=_ at m5
 change wS.cell? ⟨rb,ro+7+6,none⟩=_ at m6
 have hbP:=Lib.hid (BoxAt.new wS #[.int .i64 6,.int .i64 0,.string ⟨#[]⟩,.string ⟨#[97,110,110]⟩,.slice P2 1 c2,.int .i64 0,.int .i64 0] 38)
 have hba:=Lib.hid (below_alloc wS (.cells #[.int .i64 6,.int .i64 0,.string ⟨#[]⟩,.string ⟨#[97,110,110]⟩,.slice P2 1 c2,.int .i64 0,.int .i64 0] 38))
 clear hrc
 go_wp2_with (first
  |(go_at_call 14;clear m0 m1 m2 m3 m4 m5 m6;refine (CheckDeed_cat P2 c2 _ (hFz.out _ (below_step hA.out (below_step hB.out hba.out))) (hz2.out _ (below_step hA.out (below_step hB.out hba.out)))).mono ?_;rintro e9 wC ⟨rfl,hbn⟩;have hbPC:=hbP.out.below hbn;have hst:=below_step hba.out hbn;replace hW:=Lib.hid (hW.out.below hst);have hB2:=Lib.hid hst;replace hB:=Lib.hid (below_step hB.out hst);obtain⟨p0,p1,p2,p3⟩:=hbPC.c4;have p4:=hbPC.c 4 _ rfl;have p5:=hbPC.c 5 _ rfl;have p6:=hbPC.c 6 _ rfl;have r0:=(hrz.out _ hB.out).c 0 _ rfl;clear hbP hba hbn hbPC hst)
  |(go_at_call 15;clear p0 p1 p2 p3 p4 p5 p6 r0;go_loud (refine (wtake_child 0 c2 P2 ⟨#[97,110,110]⟩ ⟨#[99,97,116]⟩ (by decide) (by decide) (.slice K1 1 kc1) _ (by decide) hW.out (hz2.out _ (below_step hA.out hB.out)) (by simp[setAt]) (by simp[setAt]) (by simp[setAt]) [[.string ⟨#[98,111,98]⟩]] (by simp) (ho1.out.below hB2.out) (fun W h9=>ConS_bob K1 kc1 W ((hkr1.out.below hB2.out).below h9)) (by decide) (by decide) (by decide)).mono ?_;rintro e9 wS ⟨rfl,v2,u2,hW2,ho2,hbl⟩;replace hW:=Lib.hid hW2;replace hB:=Lib.hid (hB.out.trans (hbl.mono (by omega)));obtain⟨K2,kc2,hv2,_⟩:=OwnL.form ho2;have hv2b:v2=.slice K2 2 kc2:=hv2;subst hv2b;replace ho2:=Lib.hid ho2;clear hW2 hbl hB2 hv2 ho1 hkr1)))
 unfold unroll
 obtain⟨rb,ro,hRA,_,hrc⟩:=(hro.out _ hB.out) 2 _ rfl
 cases hRA
 have m0:=hrc 0 _ rfl
 have m1:=hrc 1 _ rfl
 have m2:=hrc 2 _ rfl
 have m3:=hrc 3 _ rfl
 have m4:=hrc 4 _ rfl
 have m5:=hrc 5 _ rfl
 have m6:=hrc 6 _ rfl
 change wS.cell? ⟨rb,ro+14,none⟩=_ at m0
 change wS.cell? ⟨rb,ro+14+1,none⟩=_ at m1
 change wS.cell? ⟨rb,ro+14+2,none⟩=_ at m2
 change wS.cell? ⟨rb,ro+14+3,none⟩=_ at m3
 change wS.cell? ⟨rb,ro+14+4,none⟩=_ at m4
 change wS.cell? ⟨rb,ro+14+5,none⟩=_ at m5
 change wS.cell? ⟨rb,ro+14+6,none⟩=_ at m6
 have hbP:=Lib.hid (BoxAt.new wS #[.int .i64 7,.int .i64 0,.string ⟨#[]⟩,.string ⟨#[97,110,110]⟩,.slice P3 1 c3,.int .i64 0,.int .i64 0] 38)
 have hba:=Lib.hid (below_alloc wS (.cells #[.int .i64 7,.int .i64 0,.string ⟨#[]⟩,.string ⟨#[97,110,110]⟩,.slice P3 1 c3,.int .i64 0,.int .i64 0] 38))
 clear hrc
 go_wp2_with (first
  |(go_at_call 14;clear m0 m1 m2 m3 m4 m5 m6;refine (CheckDeed_dan P3 c3 _ (hFz.out _ (below_step hA.out (below_step hB.out hba.out))) (hz3.out _ (below_step hA.out (below_step hB.out hba.out)))).mono ?_;rintro e9 wC ⟨rfl,hbn⟩;have hbPC:=hbP.out.below hbn;have hst:=below_step hba.out hbn;replace hW:=Lib.hid (hW.out.below hst);have hB2:=Lib.hid hst;replace hB:=Lib.hid (below_step hB.out hst);obtain⟨p0,p1,p2,p3⟩:=hbPC.c4;have p4:=hbPC.c 4 _ rfl;have p5:=hbPC.c 5 _ rfl;have p6:=hbPC.c 6 _ rfl;have r0:=(hrz.out _ hB.out).c 0 _ rfl;clear hbP hba hbn hbPC hst)
  |(go_at_call 15;clear p0 p1 p2 p3 p4 p5 p6 r0;go_loud (refine (wtake_marriage 0 c3 P3 ⟨#[97,110,110]⟩ ⟨#[100,97,110]⟩ (by decide) (by decide) _ hW.out (hz3.out _ (below_step hA.out hB.out)) rfl rfl (by decide) (by decide) (by decide)).mono ?_;rintro e9 wS ⟨rfl,v3,hW2,ho3,hbl,hg3⟩;replace hW:=Lib.hid hW2;replace hB:=Lib.hid (hB.out.trans (hbl.mono (by omega)));obtain⟨K3,kc3,hv3,_⟩:=OwnL.form ho3;have hv3b:v3=.slice K3 1 kc3:=hv3;subst hv3b;replace ho3:=Lib.hid ho3;replace ho2:=Lib.hid ((ho2.out.below hB2.out).kept hg3 (.inr (fun e=>by have:=(ho2.out.lt _ e).1;omega)));clear hW2 hbl hB2 hv3 hg3)))
 unfold unroll
 obtain⟨rb,ro,hRA,_,hrc⟩:=(hro.out _ hB.out) 3 _ rfl
 cases hRA
 have m0:=hrc 0 _ rfl
 have m1:=hrc 1 _ rfl
 have m2:=hrc 2 _ rfl
 have m3:=hrc 3 _ rfl
 have m4:=hrc 4 _ rfl
 have m5:=hrc 5 _ rfl
 have m6:=hrc 6 _ rfl
 change wS.cell? ⟨rb,ro+21,none⟩=_ at m0
 change wS.cell? ⟨rb,ro+21+1,none⟩=_ at m1
 change wS.cell? ⟨rb,ro+21+2,none⟩=_ at m2
 change wS.cell? ⟨rb,ro+21+3,none⟩=_ at m3
 change wS.cell? ⟨rb,ro+21+4,none⟩=_ at m4
 change wS.cell? ⟨rb,ro+21+5,none⟩=_ at m5
 change wS.cell? ⟨rb,ro+21+6,none⟩=_ at m6
 have hbP:=Lib.hid (BoxAt.new wS #[.int .i64 0,.int .i64 100,.string ⟨#[97,49]⟩,.string ⟨#[]⟩,.slice P4 1 c4,.int .i64 1,.int .i64 0] 38)
 have hba:=Lib.hid (below_alloc wS (.cells #[.int .i64 0,.int .i64 100,.string ⟨#[97,49]⟩,.string ⟨#[]⟩,.slice P4 1 c4,.int .i64 1,.int .i64 0] 38))
 clear hrc
 go_wp2_with (first
  |(go_at_call 14;clear m0 m1 m2 m3 m4 m5 m6;refine (CheckDeed_grantF P4 c4 _ (hFz.out _ (below_step hA.out (below_step hB.out hba.out))) (hz4.out _ (below_step hA.out (below_step hB.out hba.out)))).mono ?_;rintro e9 wC ⟨rfl,hbn⟩;have hbPC:=hbP.out.below hbn;have hst:=below_step hba.out hbn;replace hW:=Lib.hid (hW.out.below hst);have hB2:=Lib.hid hst;replace hB:=Lib.hid (below_step hB.out hst);obtain⟨p0,p1,p2,p3⟩:=hbPC.c4;have p4:=hbPC.c 4 _ rfl;have p5:=hbPC.c 5 _ rfl;have p6:=hbPC.c 6 _ rfl;have r0:=(hrz.out _ hB.out).c 0 _ rfl;clear hbP hba hbn hbPC hst)
  |(go_at_call 15;clear p0 p1 p2 p3 p4 p5 p6 r0;go_loud (refine (wtake_ever 100 1 c4 P4 _ hW.out (hz4.out _ (below_step hA.out hB.out)) rfl (by decide) (by decide) (by decide)).mono ?_;rintro e9 wS ⟨rfl,b,c,tc,A9,TA,hW2,ht,ho4,hqb,hbl,hg4,hTA⟩;replace hW:=Lib.hid hW2;replace hB:=Lib.hid (hB.out.trans (hbl.mono (by omega)));replace ht:=Lib.hid ht;replace ho4:=Lib.hid ho4;replace hTA:=Lib.hid hTA;replace ho3:=Lib.hid ((ho3.out.below hB2.out).kept hg4 (.inr (fun e=>by have:=(ho3.out.lt _ e).1;omega)));replace ho2:=Lib.hid ((ho2.out.below hB2.out).kept hg4 (.inr (fun e=>by have:=(ho2.out.lt _ e).1;omega)));clear hW2 hbl hB2 hg4)))
 have hF5:=Lib.hid (fun W (hb9:Below wS.heap.size wS W)=>FamW.mk (kc:=kc2) (hW.out.below hb9) (ht.out.below hb9) (ownRows (ho4.out.below hb9)) (ownRows (ho2.out.below hb9)) (ownRows (ho3.out.below hb9)) (hlz.out _ (below_step hA.out (below_step hB.out hb9))))
 have hdth:=Lib.hid (fun W (hb9:Below wS.heap.size wS W)=>wtake_death (lc:=lc) A9 TA K2 K3 LA 200 rfl W (hF5.out W hb9) (by simp[setAt]) hqb (by decide) hTA.out rfl rfl rfl rfl (by decide) (by decide) (by decide))
 clear hF5
 unfold unroll
 obtain⟨rb,ro,hRA,_,hrc⟩:=(hro.out _ hB.out) 4 _ rfl
 cases hRA
 have m0:=hrc 0 _ rfl
 have m1:=hrc 1 _ rfl
 have m2:=hrc 2 _ rfl
 have m3:=hrc 3 _ rfl
 have m4:=hrc 4 _ rfl
 have m5:=hrc 5 _ rfl
 have m6:=hrc 6 _ rfl
 change wS.cell? ⟨rb,ro+28,none⟩=_ at m0
 change wS.cell? ⟨rb,ro+28+1,none⟩=_ at m1
 change wS.cell? ⟨rb,ro+28+2,none⟩=_ at m2
 change wS.cell? ⟨rb,ro+28+3,none⟩=_ at m3
 change wS.cell? ⟨rb,ro+28+4,none⟩=_ at m4
 change wS.cell? ⟨rb,ro+28+5,none⟩=_ at m5
 change wS.cell? ⟨rb,ro+28+6,none⟩=_ at m6
 have hbP:=Lib.hid (BoxAt.new wS #[.int .i64 8,.int .i64 200,.string ⟨#[]⟩,.string ⟨#[97,110,110]⟩,.slice none 0 0,.int .i64 0,.int .i64 0] 38)
 have hba:=Lib.hid (below_alloc wS (.cells #[.int .i64 8,.int .i64 200,.string ⟨#[]⟩,.string ⟨#[97,110,110]⟩,.slice none 0 0,.int .i64 0,.int .i64 0] 38))
 clear hrc
 go_wp2_with (first
  |(go_at_call 14;clear m0 m1 m2 m3 m4 m5 m6;refine (CheckDeed_death _ (hFz.out _ (below_step hA.out (below_step hB.out hba.out)))).mono ?_;rintro e9 wC ⟨rfl,hbn⟩;have hbPC:=hbP.out.below hbn;have hst:=below_step hba.out hbn;replace hW:=Lib.hid (hW.out.below hst);have hB2:=Lib.hid hst;replace hB:=Lib.hid (below_step hB.out hst);obtain⟨p0,p1,p2,p3⟩:=hbPC.c4;have p4:=hbPC.c 4 _ rfl;have p5:=hbPC.c 5 _ rfl;have p6:=hbPC.c 6 _ rfl;have r0:=(hrz.out _ hB.out).c 0 _ rfl;clear hbP hba hbn hbPC hst)
  |(go_at_call 15;clear p0 p1 p2 p3 p4 p5 p6 r0;go_loud (refine (hdth.out _ hB2.out).mono ?_;rintro e9 wS ⟨rfl,nc,nA,nD,hW2,ht2,hr2,hbl⟩;replace hW:=Lib.hid hW2;replace hB:=Lib.hid (hB.out.trans (hbl.mono (by omega)));replace ht:=Lib.hid ht2;have hr:=Lib.hid hr2;clear hW2 hbl hB2)))
 unfold unroll
 have r1:=Lib.hid ((hrz.out _ hB.out).c 1 _ rfl)
 go_upto_region 15 with fail
 refine wp_region_held_drew (S:=Sx wS [(w.heap.size,1,.slice (some ⟨rb,ro,none⟩) 5 rc)]) (by kernel_rfl) ((Sx.mk (by simp only[cs_iff_cons];exact⟨r1.out,cs_nil _⟩) (Below.refl _ _):Sx wS _ wS).drew) (fun hHeld=>?_)
 clear r1
 have hdz:=Lib.hid hHeld.bel
 replace hW:=Lib.hid (hW.out.below hHeld.bel)
 replace hB:=Lib.hid (below_step hB.out hHeld.bel)
 generalize wS.drew=wZ at *
 refine tkHx 0 53 ?_
 refine tkHx 1 54 ?_
 refine tkHx 2 55 ?_
 refine tkHx 3 56 ?_
 refine tkHx 4 4 ?_
 refine tkHx 5 5 ?_
 refine tkHx 6 6 ?_
 refine wpAnyH_done (by kernel_rfl) ?_ _
 clear hHeld
 go_wp2
 go_ret3
 exact⟨rfl,⟨_,_,_,_,_,_,_,_,_,_,_,_,_,hW.out,ht.out.below hdz.out,hr.out.below hdz.out⟩,below_step hA.out hB.out⟩
end Go.Proofs.YtcnfhnndppollaaGreatDoor
namespace Go.Proofs.YtcnfhnndppollaaGreatDoor
open Go Go.RowKit Go.Maps Go.WideMaps
def RepQ (G:Nat→World→Prop) (n:Int) (w:World) (e:Ending) (w':World):Prop :=
 e=.returned (.tuple #[.pointer (some ⟨w.heap.size+1+6,0,none⟩),.int .i64 n,.int .i64 0])∧G (w.heap.size+1) w'∧Below w.heap.size w w'
def FamG (q:Nat) (w':World):Prop:=∃ k fd fk fp M b c tc TA A D la ct,Wd w' q k fd fk fp M (.slice TA 1 tc) la ct∧TbAt w' b 3 c 1 100 (-1) A TA D∧RowsAt w' A 3 (estPs.map Pa.cells)
theorem Replay_any (LA RA:Option Addr) (nl lc nr rc:Nat) (n:Int) (G:Nat→World→Prop) (w:World) (hm:∀ W,Below w.heap.size w W→Calls Tryz.prog 13 #[.agg #[.slice LA nl lc,.slice RA nr rc],.int .i64 200000] W (RepQ G n W)) :
  Calls Tryz.prog 44 #[.agg #[.slice LA nl lc,.slice RA nr rc]] w fun e w'=>e=.returned (.tuple #[.int .i64 n,.int .i64 0])∧Below w.heap.size w w':=by
 have ha:=Lib.hid (below_alloc w (.cells #[.slice LA nl lc,.slice RA nr rc] 28))
 replace hm:=Lib.hid hm
 go_enter Tryz.func44,Tryz.ntmps44
 go_wp2_with (go_at_call 13;refine (hm.out _ ha.out).mono ?_;rintro e9 w2 ⟨rfl,_,hbn⟩;replace ha:=Lib.hid (below_step ha.out hbn);clear hbn)
 go_ret2
 exact⟨rfl,ha.out⟩
theorem on1_a1 (w:World):Calls Tryz.prog 46 #[.string ⟨#[97,49]⟩] w fun e w'=>e=.returned (.bool false)∧w=w':=by
 go_enter Tryz.func46,Tryz.ntmps46
 go_wp2_with (go_at_call 31;refine (isName_a1 _).mono ?_;rintro e w' ⟨rfl,rfl⟩)
 go_ret
 exact⟨rfl,rfl⟩
theorem ConN_a1 (A:Option Addr) (c:Nat) (w:World) (h:RowsAt w A 1 [[.string ⟨#[97,49]⟩]]):Calls Tryz.prog 45 #[.slice A 1 c,.func (.func 46) #[] #[]] w fun e w'=>e=.returned (.bool false)∧w=w':=by
 obtain⟨b,o,hA,_,hc⟩:=h 0 _ rfl
 have c0:=hc 0 _ rfl
 rw[Nat.add_zero] at c0
 subst hA
 clear h hc
 go_enter Tryz.func45,Tryz.ntmps45
 go_wp2
 refine wp_unroll 2 ?_
 unfold unroll
 go_wp2_with (go_at_call 46;refine (on1_a1 _).mono ?_;rintro e w' ⟨rfl,rfl⟩)
 unfold unroll
 go_wp2
 go_ret
 exact⟨rfl,rfl⟩
def OnP (G:Nat→World→Prop) (w:World) (e:Ending) (w':World):Prop:=∃ q,e=.returned (.tuple #[.pointer (some ⟨q+6,0,none⟩),.int .i64 0])∧G q w'∧Below w.heap.size w w'
theorem ronDay (LA RA NA:Option Addr) (nl lc nr rc nc:Nat) (day n n2:Int) (G0 G:Nat→World→Prop) (w:World) (hn:RowsAt w NA 1 [[.string ⟨#[97,49]⟩]]) (h0:0≤day) (h1:day≤200000)
  (hm:∀ W,Below w.heap.size w W→Calls Tryz.prog 13 #[.agg #[.slice LA nl lc,.slice RA nr rc],.int .i64 200000] W (RepQ G0 n W))
  (hd:∀ W,Below w.heap.size w W→Calls Tryz.prog 13 #[.agg #[.slice LA nl lc,.slice RA nr rc],.int .i64 day] W (RepQ G n2 W)) :
  Calls Tryz.prog 23 #[.agg #[.slice LA nl lc,.slice RA nr rc],.int .i64 day,.slice NA 1 nc] w (OnP G w):=by
 have ha:=below_alloc w (.cells #[.slice LA nl lc,.slice RA nr rc] 28)
 have hx:=Lib.hid (BoxAt.new w #[.slice LA nl lc,.slice RA nr rc] 28)
 have hday:Calls Tryz.prog 30 #[.int .i64 day] w fun e w'=>e=.returned (.bool true)∧w=w':=by
  have:=risDay_any day w
  rw[decide_eq_true h0,decide_eq_true h1] at this
  exact this
 have hdz:∀ W,Calls Tryz.prog 30 #[.int .i64 day] W fun e w'=>e=.returned (.bool true)∧W=w':=fun W=>by
  have:=risDay_any day W
  rw[decide_eq_true h0,decide_eq_true h1] at this
  exact this
 replace hdz:=Lib.hid hdz
 replace ha:=Lib.hid ha
 replace hm:=Lib.hid hm
 replace hd:=Lib.hid hd
 have hnz:=Lib.hid (fun W (hb9:Below w.heap.size w W)=>hn.below hb9)
 clear hn hday h0 h1
 go_enter Tryz.func23,Tryz.ntmps23
 go_wp2_with (first
  |(go_at_call 44;refine (Replay_any LA RA nl lc nr rc n G0 _ (fun W h9=>hm.out W (below_step ha.out h9))).mono ?_;rintro e9 w2 ⟨rfl,hbn⟩;replace ha:=Lib.hid (below_step ha.out hbn);replace hx:=Lib.hid (hx.out.below hbn);clear hbn;obtain⟨x0,x1⟩:=hx.out.c2)
  |(go_at_call 45;refine (ConN_a1 NA nc _ (hnz.out _ ha.out)).mono ?_;rintro e9 w3 ⟨rfl,rfl⟩)
  |(go_at_call 30;refine (hdz.out _).mono ?_;rintro e9 w3 ⟨rfl,rfl⟩)
  |(go_at_call 13;clear x0 x1;refine (hd.out _ ha.out).mono ?_;rintro e9 w4 ⟨rfl,hG,hbn⟩;replace ha:=Lib.hid (below_step ha.out hbn);replace hG:=Lib.hid hG;clear hbn))
 go_ret2
 exact⟨_,rfl,hG.out,ha.out⟩
def HoldP (w:World) (k:Nat) (rows:List (List Value)) (e:Ending) (w':World):Prop:=∃ A c,e=.returned (.tuple #[.slice A k c,.int .i64 0])∧RowsAt w' A 3 rows∧Below w.heap.size w w'
theorem Holders_term (LA RA:Option Addr) (nl lc nr rc:Nat) (day n n2 la ct dy en:Int) (G0:Nat→World→Prop) (w:World) (h0:0≤day) (h1:day≤200000) (hde:day<en)
  (hm:∀ W,Below w.heap.size w W→Calls Tryz.prog 13 #[.agg #[.slice LA nl lc,.slice RA nr rc],.int .i64 200000] W (RepQ G0 n W))
  (hd:∀ W,Below w.heap.size w W→Calls Tryz.prog 13 #[.agg #[.slice LA nl lc,.slice RA nr rc],.int .i64 day] W (RepQ (fun q W=>TermW q la ct dy en W) n2 W)) :
  Calls Tryz.prog 10 #[.agg #[.slice LA nl lc,.slice RA nr rc],.string ⟨#[97,49]⟩,.int .i64 day] w (HoldP w 1 ([ann1].map Pa.cells)):=by
 have ha:=below_alloc w (.cells #[.slice LA nl lc,.slice RA nr rc] 28)
 have hx:=BoxAt.new w #[.slice LA nl lc,.slice RA nr rc] 28
 have hba:=below_alloc (w.alloc (.cells #[.slice LA nl lc,.slice RA nr rc] 28)) (.cells #[.string ⟨#[97,49]⟩] 9)
 have hn:=rowsAt_new (w.alloc (.cells #[.slice LA nl lc,.slice RA nr rc] 28)) [.string ⟨#[97,49]⟩] 9
 have hon:=Lib.hid (ronDay LA RA _ nl lc nr rc 1 day n n2 G0 (fun q W=>TermW q la ct dy en W) _ hn h0 h1 (fun W h9=>hm W (below_step (below_step ha hba) h9)) (fun W h9=>hd W (below_step (below_step ha hba) h9)))
 rw[World.size_alloc] at hon
 have hb2:=Lib.hid (below_step ha hba)
 clear ha hx hba hn hm hd
 replace hde:=Lib.hid hde
 go_enter Tryz.func10,Tryz.ntmps10
 go_wp2_with (first
  |(go_at_call 23;refine hon.out.mono ?_;rintro e9 w2 ⟨q,rfl,⟨b,c,tc,A9,TA,hW,ht,ho,hqb,hTA⟩,hbn⟩;replace hb2:=Lib.hid (below_step hb2.out hbn);have hin:=in_one day (by decide) _ hW ht;rw[if_pos (Or.inr hde.out)] at hin;replace hin:=Lib.hid hin;replace ht:=Lib.hid ht;replace ho:=Lib.hid ho;clear hW hbn hon)
  |(go_at_call 24;refine hin.out.mono ?_;rintro e9 w3 ⟨rfl,hbn⟩;have t4:=(ht.out.below hbn).box.c 4 _ rfl;replace ho:=Lib.hid (ho.out.below hbn);replace hb2:=Lib.hid (below_step hb2.out hbn);clear hbn hin ht))
 go_ret2
 exact⟨_,_,rfl,ownRows ho.out,hb2.out⟩
theorem Holders_over (LA RA:Option Addr) (nl lc nr rc:Nat) (day n n2 la ct dy en:Int) (G0:Nat→World→Prop) (w:World) (h0:0≤day) (h1:day≤200000) (hde:¬(en<0∨day<en))
  (hm:∀ W,Below w.heap.size w W→Calls Tryz.prog 13 #[.agg #[.slice LA nl lc,.slice RA nr rc],.int .i64 200000] W (RepQ G0 n W))
  (hd:∀ W,Below w.heap.size w W→Calls Tryz.prog 13 #[.agg #[.slice LA nl lc,.slice RA nr rc],.int .i64 day] W (RepQ (fun q W=>TermW q la ct dy en W) n2 W)) :
  Calls Tryz.prog 10 #[.agg #[.slice LA nl lc,.slice RA nr rc],.string ⟨#[97,49]⟩,.int .i64 day] w fun e w'=>e=.returned (.tuple #[.slice none 0 0,.int .i64 0])∧Below w.heap.size w w':=by
 have ha:=below_alloc w (.cells #[.slice LA nl lc,.slice RA nr rc] 28)
 have hx:=BoxAt.new w #[.slice LA nl lc,.slice RA nr rc] 28
 have hba:=below_alloc (w.alloc (.cells #[.slice LA nl lc,.slice RA nr rc] 28)) (.cells #[.string ⟨#[97,49]⟩] 9)
 have hn:=rowsAt_new (w.alloc (.cells #[.slice LA nl lc,.slice RA nr rc] 28)) [.string ⟨#[97,49]⟩] 9
 have hon:=Lib.hid (ronDay LA RA _ nl lc nr rc 1 day n n2 G0 (fun q W=>TermW q la ct dy en W) _ hn h0 h1 (fun W h9=>hm W (below_step (below_step ha hba) h9)) (fun W h9=>hd W (below_step (below_step ha hba) h9)))
 rw[World.size_alloc] at hon
 have hb2:=Lib.hid (below_step ha hba)
 clear ha hx hba hn hm hd
 replace hde:=Lib.hid hde
 go_enter Tryz.func10,Tryz.ntmps10
 go_wp2_with (first
  |(go_at_call 23;refine hon.out.mono ?_;rintro e9 w2 ⟨q,rfl,⟨b,c,tc,A9,TA,hW,ht,ho,hqb,hTA⟩,hbn⟩;replace hb2:=Lib.hid (below_step hb2.out hbn);have hin:=in_one day (by decide) _ hW ht;rw[if_neg hde.out] at hin;replace hin:=Lib.hid hin;clear ht ho hW hbn hon)
  |(go_at_call 24;refine hin.out.mono ?_;rintro e9 w3 ⟨rfl,hbn⟩;replace hb2:=Lib.hid (below_step hb2.out hbn);clear hbn hin))
 go_ret2
 exact⟨rfl,hb2.out⟩
theorem Holders_fam (LA RA:Option Addr) (nl lc nr rc:Nat) (n n2:Int) (G0:Nat→World→Prop) (w:World)
  (hm:∀ W,Below w.heap.size w W→Calls Tryz.prog 13 #[.agg #[.slice LA nl lc,.slice RA nr rc],.int .i64 200000] W (RepQ G0 n W))
  (hd:∀ W,Below w.heap.size w W→Calls Tryz.prog 13 #[.agg #[.slice LA nl lc,.slice RA nr rc],.int .i64 200] W (RepQ FamG n2 W)) :
  Calls Tryz.prog 10 #[.agg #[.slice LA nl lc,.slice RA nr rc],.string ⟨#[97,49]⟩,.int .i64 200] w (HoldP w 3 (estPs.map Pa.cells)):=by
 have h0:(0:Int)≤200:=by decide
 have h1:(200:Int)≤200000:=by decide
 obtain⟨day,hday⟩:∃ day:Int,day=200:=⟨_,rfl⟩
 rw[←hday] at h0 h1 hd ⊢
 clear hday
 have ha:=below_alloc w (.cells #[.slice LA nl lc,.slice RA nr rc] 28)
 have hx:=BoxAt.new w #[.slice LA nl lc,.slice RA nr rc] 28
 have hba:=below_alloc (w.alloc (.cells #[.slice LA nl lc,.slice RA nr rc] 28)) (.cells #[.string ⟨#[97,49]⟩] 9)
 have hn:=rowsAt_new (w.alloc (.cells #[.slice LA nl lc,.slice RA nr rc] 28)) [.string ⟨#[97,49]⟩] 9
 have hon:=Lib.hid (ronDay LA RA _ nl lc nr rc 1 day n n2 G0 FamG _ hn h0 h1 (fun W h9=>hm W (below_step (below_step ha hba) h9)) (fun W h9=>hd W (below_step (below_step ha hba) h9)))
 rw[World.size_alloc] at hon
 have hb2:=Lib.hid (below_step ha hba)
 clear ha hx hba hn hm hd
 go_enter Tryz.func10,Tryz.ntmps10
 go_wp2_with (first
  |(go_at_call 23;refine hon.out.mono ?_;rintro e9 w2 ⟨q,rfl,⟨k,fd,fk,fp,M,b,c,tc,TA,A9,D,la,ct,hW,ht,ho⟩,hbn⟩;replace hb2:=Lib.hid (below_step hb2.out hbn);have hin:=in_one day (by decide) _ hW ht;rw[if_pos (Or.inl (by decide))] at hin;replace hin:=Lib.hid hin;replace ht:=Lib.hid ht;replace ho:=Lib.hid ho;clear hW hbn hon)
  |(go_at_call 24;refine hin.out.mono ?_;rintro e9 w3 ⟨rfl,hbn⟩;have t4:=(ht.out.below hbn).box.c 4 _ rfl;replace ho:=Lib.hid (ho.out.below hbn);replace hb2:=Lib.hid (below_step hb2.out hbn);clear hbn hin ht))
 go_ret2
 exact⟨_,_,rfl,ho.out,hb2.out⟩
end Go.Proofs.YtcnfhnndppollaaGreatDoor
namespace Go.Proofs.YtcnfhnndppollaaGreatDoor
open Go Go.RowKit Go.Maps Go.WideMaps
theorem app_nothing (w:World) (ty:TypeId) (a:Addr):(Builtin.append_ #[64,64] ty #[.slice (some a) 1 1,.slice none 0 0]).run Tryz.prog w=.ok (.slice (some a) 1 1) w:=by
 have hs:(Tryz.prog.info? 9).isSome=true:=by kernel_rfl
 obtain⟨i,hi⟩:=Option.isSome_iff_exists.1 hs
 have ht:Tryz.prog.underlying 64=some (.slice 9):=by kernel_rfl
 simp[Builtin.append_,run_underlying ht,sizeOf,typeInfo,hi,Builtin.lenOf,Builtin.firstCells,loadCells,loadCellsFrom,storeCells]
def InfP (day la ct dy en:Int) (w:World) (e:Ending) (w':World):Prop:=∃ q b c A D,e=.returned (.tuple #[.pointer (some ⟨q+6,0,none⟩),.pointer (some ⟨b,0,none⟩),.int .i64 0])∧BoxAt w' b [.string ⟨#[97,49]⟩,.int .i64 2,.int .i64 dy,.int .i64 en,.slice A 1 c,D]∧Below w.heap.size w w'
theorem rinForce_term (LA RA:Option Addr) (nl lc nr rc:Nat) (day n n2 la ct dy en:Int) (G0:Nat→World→Prop) (w:World) (h0:0≤day) (h1:day≤200000) (hde:day<en)
  (hm:∀ W,Below w.heap.size w W→Calls Tryz.prog 13 #[.agg #[.slice LA nl lc,.slice RA nr rc],.int .i64 200000] W (RepQ G0 n W))
  (hd:∀ W,Below w.heap.size w W→Calls Tryz.prog 13 #[.agg #[.slice LA nl lc,.slice RA nr rc],.int .i64 day] W (RepQ (fun q W=>TermW q la ct dy en W) n2 W)) :
  Calls Tryz.prog 22 #[.agg #[.slice LA nl lc,.slice RA nr rc],.int .i64 day,.string ⟨#[97,49]⟩,.slice none 0 0] w (InfP day la ct dy en w):=by
 have ha:=below_alloc w (.cells #[.slice LA nl lc,.slice RA nr rc] 28)
 have hx:=Lib.hid (BoxAt.new w #[.slice LA nl lc,.slice RA nr rc] 28)
 replace hde:=Lib.hid hde
 replace hm:=Lib.hid hm
 replace hd:=Lib.hid hd
 go_enter Tryz.func22,Tryz.ntmps22
 go_upto_region 1 with fail
 obtain⟨X,hX⟩:∃ X,(w.alloc (.cells #[.slice LA nl lc,.slice RA nr rc] 28)).drew=X:=⟨_,rfl⟩
 replace hx:=Lib.hid (hx.out.below (Below.refl _ _).drew)
 replace ha:=Lib.hid (below_step ha (Below.refl _ _).drew)
 rw[hX] at hx ha
 have hxl:=hx.out.lt
 refine wp_region_held_drew (S:=Sx X [(w.heap.size,0,.slice LA nl lc),(w.heap.size,1,.slice RA nr rc)]) (by kernel_rfl) (by rw[hX];exact Sx.mk (by simp only[cs_iff_cons];exact⟨hx.out.c 0 _ rfl,hx.out.c 1 _ rfl,cs_nil _⟩) (Below.refl _ _)) (fun hHeld=>?_)
 rw[hX] at hHeld ⊢
 clear hX
 refine tkHx 0 15 ?_
 refine tkHx 1 16 ?_
 refine tkHx 2 17 ?_
 refine tkHx 4 19 ?_
 (refine ratHx 3 (fun K hK=>?_);go_simp)
 refine hK.out _ _ (hHeld.step (below_alloc _ _)) (fun hHeld2=>?_)
 clear hK K hHeld
 (try simp only[apS,apN,siA,scZ,scS])
 have happ:=app_nothing
 (refine ratHx 5 (fun K hK=>?_);go_simp)
 refine hK.out _ _ hHeld2 (fun hHeld3=>?_)
 clear hK K hHeld2 happ
 (try simp only[apS,apN,siA,scZ,scS])
 have hba:=below_alloc X (.cells #[.string ⟨#[97,49]⟩] 9)
 have hon:=ronDay LA RA _ nl lc nr rc 1 day n n2 G0 (fun q W=>TermW q la ct dy en W) _ (rowsAt_new X [.string ⟨#[97,49]⟩] 9) h0 h1 (fun W h9=>hm.out W (below_step (below_step ha.out hba) h9)) (fun W h9=>hd.out W (below_step (below_step ha.out hba) h9))
 replace hon:=Lib.hid hon
 (refine ratHx 6 (fun K hK=>?_);go_simp)
 refine hon.out.mono ?_
 rintro e9 w2 ⟨q,rfl,⟨b,c,tc,A9,TA,hW,ht,ho,hqb,hTA⟩,hbn⟩
 refine hK.out _ _ (hHeld3.step hbn) (fun hHeld4=>?_)
 replace ha:=Lib.hid (below_step ha.out (below_step hba hbn))
 clear hK K hHeld3 hbn hba hon
 (try simp only[apS,apN,siA,scZ,scS])
 refine tkHx 7 14 ?_
 refine tkHx 8 22 ?_
 refine tkHx 9 23 ?_
 refine tkHx 10 11 ?_
 refine tkHx 11 12 ?_
 refine wpAnyH_done (by kernel_rfl) ?_ _
 clear hHeld4
 have hin:=in_one day (by decide) _ hW ht
 rw[if_pos (Or.inr hde.out)] at hin
 replace hin:=Lib.hid hin
 replace ht:=Lib.hid ht
 clear hW ho hm hd
 go_wp2_with (go_at_call 24;refine hin.out.mono ?_;rintro e9 w3 ⟨rfl,hbn⟩;replace ht:=Lib.hid (ht.out.below hbn);replace ha:=Lib.hid (below_step ha.out hbn);clear hbn hin)
 go_ret3
 exact⟨q,b,c,A9,_,rfl,ht.out.box,ha.out⟩
theorem Ends_term (LA RA:Option Addr) (nl lc nr rc:Nat) (day n n2 la ct dy en:Int) (G0:Nat→World→Prop) (w:World) (h0:0≤day) (h1:day≤200000) (hde:day<en)
  (hm:∀ W,Below w.heap.size w W→Calls Tryz.prog 13 #[.agg #[.slice LA nl lc,.slice RA nr rc],.int .i64 200000] W (RepQ G0 n W))
  (hd:∀ W,Below w.heap.size w W→Calls Tryz.prog 13 #[.agg #[.slice LA nl lc,.slice RA nr rc],.int .i64 day] W (RepQ (fun q W=>TermW q la ct dy en W) n2 W)) :
  Calls Tryz.prog 9 #[.agg #[.slice LA nl lc,.slice RA nr rc],.string ⟨#[97,49]⟩,.int .i64 day] w fun e w'=>e=.returned (.tuple #[.int .i64 en,.int .i64 0])∧Below w.heap.size w w':=by
 have ha:=below_alloc w (.cells #[.slice LA nl lc,.slice RA nr rc] 28)
 have hin:=Lib.hid (rinForce_term LA RA nl lc nr rc day n n2 la ct dy en G0 _ h0 h1 hde (fun W h9=>hm W (below_step ha h9)) (fun W h9=>hd W (below_step ha h9)))
 replace ha:=Lib.hid ha
 clear hm hd hde
 go_enter Tryz.func9,Tryz.ntmps9
 go_wp2_with (go_at_call 22;refine hin.out.mono ?_;rintro e9 w2 ⟨q,b,c,A9,D,rfl,hb,hbn⟩;replace ha:=Lib.hid (below_step ha.out hbn);have b3:=hb.c 3 _ rfl;clear hb hbn hin)
 go_ret2
 exact⟨rfl,ha.out⟩
end Go.Proofs.YtcnfhnndppollaaGreatDoor
namespace Go.Proofs.YtcnfhnndppollaaGreatDoor
open Go Go.RowKit Go.Maps Go.WideMaps
theorem ddSize5:(Tryz.prog.info? 38).map (·.size)=some 7:=by kernel_rfl
theorem elemDd:Elem Tryz.prog 26 38 7 88:=Elem.mk' Tryz.underlying26 (z:=.agg #[.int .i64 0,.int .i64 0,.string ⟨#[]⟩,.string ⟨#[]⟩,.slice none 0 0,.int .i64 0,.int .i64 0]) (by kernel_rfl) rfl (by decide)
theorem CloneLaws_nil (c:Nat) (w:World) :
  Calls Tryz.prog 16 #[.slice none 0 c] w fun e w'=>e=.returned (.slice none 0 0)∧w=w':=by
 have hnil:=fun w=>Lib.run_eql_slice_nil (P:=Tryz.prog) w 25 56 none 0 c 0 0 Tryz.underlying25
 go_enter Tryz.func16,Tryz.ntmps16
 go_wp2
 go_ret
 exact⟨rfl,rfl⟩
theorem CloneDeeds_nil (c:Nat) (w:World) :
  Calls Tryz.prog 17 #[.slice none 0 c] w fun e w'=>e=.returned (.slice none 0 0)∧w=w':=by
 have hnil:=fun w=>Lib.run_eql_slice_nil (P:=Tryz.prog) w 26 38 none 0 c 0 0 Tryz.underlying26
 go_enter Tryz.func17,Tryz.ntmps17
 go_wp2
 go_ret
 exact⟨rfl,rfl⟩
def CldP (w:World) (rows:List (List Value)) (e:Ending) (w':World):Prop:=∃ v,e=.returned v∧OwnL w' w.heap.size 38 7 v rows∧Below w.heap.size w w'
theorem CloneDeeds_some (a:Addr) (c:Nat) (r:List Value) (w:World) (hl:RowsAt w (some a) 7 [r]) (h7:r.length=7) (h1:∀ u∈r,u.oneCell'=true) :
  Calls Tryz.prog 17 #[.slice (some a) 1 c] w (CldP w [r]):=by
 have hnil:=fun w=>Lib.run_eql_slice_nil (P:=Tryz.prog) w 26 38 (some a) 1 c 0 0 Tryz.underlying26
 have hl':=Lib.hid (fun w1 (h:Below w.heap.size w w1)=>hl.below h)
 have hw:∀ q∈[r],q.length=7:=fun q hq=>by rw[List.mem_singleton.1 hq];exact h7
 have ho:∀ q∈[r],∀ u∈q,u.oneCell'=true:=fun q hq u hu=>by rw[List.mem_singleton.1 hq] at hu;exact h1 u hu
 have hw:=Lib.hid hw
 have ho:=Lib.hid ho
 clear hl h7 h1
 go_enter Tryz.func17,Tryz.ntmps17
 go_wp2_with (at_builtin;refine wpList_append_rows elemDd rfl _ _ rfl rfl rfl (OwnL.made w w.heap.size _ 7 (Nat.le_refl _)) (hl'.out _ (below_alloc _ _)) rfl hw.out ho.out (by simp) (by decide) (by simp) ?_;intro v' w1 hown hg _)
 go_ret
 exact⟨_,rfl,by simpa using hown,(below_alloc _ _).trans (grown_below hg (fun g e=>by cases e;exact Nat.le_refl _) (by simp))⟩
def CopP (w:World) (dy yr:Int) (e:Ending) (w':World):Prop:=∃ PB pb,e=.returned (.agg #[.int .i64 0,.int .i64 dy,.string ⟨#[97,49]⟩,.string ⟨#[]⟩,.slice PB 1 pb,.int .i64 2,.int .i64 yr])∧RowsAt w' PB 3 ([ann1].map Pa.cells)∧Below w.heap.size w w'∧∀ a,PB=some a→w.heap.size≤a.block
theorem copied_grant (PA:Option Addr) (pc:Nat) (dy yr:Int) (w:World) (hp:RowsAt w PA 3 ([ann1].map Pa.cells)):Calls Tryz.prog 18 #[.agg #[.int .i64 0,.int .i64 dy,.string ⟨#[97,49]⟩,.string ⟨#[]⟩,.slice PA 1 pc,.int .i64 2,.int .i64 yr]] w (CopP w dy yr):=by
 have hx:=BoxAt.new w #[.int .i64 0,.int .i64 dy,.string ⟨#[97,49]⟩,.string ⟨#[]⟩,.slice PA 1 pc,.int .i64 2,.int .i64 yr] 38
 have ha:=below_alloc w (.cells #[.int .i64 0,.int .i64 dy,.string ⟨#[97,49]⟩,.string ⟨#[]⟩,.slice PA 1 pc,.int .i64 2,.int .i64 yr] 38)
 have hr:=BoxAt.new (w.alloc (.cells #[.int .i64 0,.int .i64 dy,.string ⟨#[97,49]⟩,.string ⟨#[]⟩,.slice PA 1 pc,.int .i64 2,.int .i64 yr] 38)) #[.int .i64 0,.int .i64 0,.string ⟨#[]⟩,.string ⟨#[]⟩,.slice none 0 0,.int .i64 0,.int .i64 0] 38
 rw[World.size_alloc] at hr
 have hba:=below_alloc (w.alloc (.cells #[.int .i64 0,.int .i64 dy,.string ⟨#[97,49]⟩,.string ⟨#[]⟩,.slice PA 1 pc,.int .i64 2,.int .i64 yr] 38)) (.cells #[.int .i64 0,.int .i64 0,.string ⟨#[]⟩,.string ⟨#[]⟩,.slice none 0 0,.int .i64 0,.int .i64 0] 38)
 replace hx:=Lib.hid (hx.below hba)
 replace ha:=Lib.hid (below_step ha hba)
 replace hr:=Lib.hid hr
 have hpz:=Lib.hid (fun W (hb9:Below w.heap.size w W)=>hp.below hb9)
 clear hp hba
 go_enter Tryz.func18,Tryz.ntmps18
 go_wp2_with (first
  |(go_at_call 41;refine (CloneParts_ne PA 1 pc [ann1] _ (hpz.out _ ha.out) rfl (by decide) (by decide)).mono ?_;rintro e9 w2 ⟨cv,rfl,hoc,hbn⟩;obtain⟨PB,pb,hcv,hpb⟩:=OwnL.form hoc;have hcv2:cv=.slice PB 1 pb:=hcv;subst hcv2;have hx2:=hx.out.below hbn;have y0:=hx2.c 4 _ rfl;have y1:=hx2.free 4 (by simp);have hsz:=ha.out.size;(have hlo:=Lib.hid (fun a (e:PB=some a)=>(show w.heap.size≤a.block by have:=(hoc.lt a.block (by rw[e];rfl)).1;omega)));(have hlo2:=Lib.hid (fun a (e:PB=some a)=>(hoc.lt a.block (by rw[e];rfl)).1));replace ha:=Lib.hid (below_step ha.out hbn);replace hr:=Lib.hid (hr.out.below hbn);have hrl:=hr.out.lt;(have hx3:Hid (BoxAt (w2.setCell ⟨w.heap.size,4,none⟩ (.slice PB 1 pb)) w.heap.size [.int .i64 0,.int .i64 dy,.string ⟨#[97,49]⟩,.string ⟨#[]⟩,.slice PB 1 pb,.int .i64 2,.int .i64 yr]):=hx2.set 4 _ (by simp));obtain⟨z0,z1,z2,z3⟩:=hx3.out.c4;have z4:=hx3.out.c 4 _ rfl;have z5:=hx3.out.c 5 _ rfl;have z6:=hx3.out.c 6 _ rfl;(have hr3:=Lib.hid (hr.out.offF (B':=w.heap.size) 4 (.slice PB 1 pb) (by omega)));(have ha3:=Lib.hid (ha.out.setCell (p:=⟨w.heap.size,4,none⟩) (Nat.le_refl _) (.slice PB 1 pb)));(have hp3:=Lib.hid (rows_far hpb (grown_set w2 w.heap.size 4 (.slice PB 1 pb)) (fun a e e2=>by have:=hlo2.out a e;have:=Option.some.inj e2;simp at *;omega)));clear hcv hoc hbn hx2 hpb)
  |(refine wpList_store_box rfl 38 (.tmp 2) (.tmp 7) rfl (w.heap.size+1) _ [.int .i64 0,.int .i64 dy,.string ⟨#[97,49]⟩,.string ⟨#[]⟩,.slice PB 1 pb,.int .i64 2,.int .i64 yr] (by rfl) (by rfl) hr3.out rfl ddSize5 (by kernel_rfl) ?_;intro w4 h4 hg4;clear y0 y1 z0 z1 z2 z3 z4 z5 z6))
 refine bodyPost_ret (results_mid1 rfl _ _ (w.heap.size+1) [.int .i64 0,.int .i64 dy,.string ⟨#[97,49]⟩,.string ⟨#[]⟩,.slice PB 1 pb,.int .i64 2,.int .i64 yr] _ rfl h4.range Tryz.underlying38 rfl ddSize5) rfl ⟨PB,pb,rfl,rows_far hp3.out hg4 (fun a e e2=>by have:=hlo2.out a e;have:=Option.some.inj e2;simp at *;omega),?_,hlo.out⟩
 exact ha3.out.grown hg4 ha3.out.size (fun g e=>by have:=Option.some.inj e;omega)
theorem copied_ren (d2 y2:Int) (w:World):Calls Tryz.prog 18 #[.agg #[.int .i64 3,.int .i64 d2,.string ⟨#[97,49]⟩,.string ⟨#[]⟩,.slice none 0 0,.int .i64 0,.int .i64 y2]] w fun e w'=>e=.returned (.agg #[.int .i64 3,.int .i64 d2,.string ⟨#[97,49]⟩,.string ⟨#[]⟩,.slice none 0 0,.int .i64 0,.int .i64 y2])∧Below w.heap.size w w':=by
 have hx:=BoxAt.new w #[.int .i64 3,.int .i64 d2,.string ⟨#[97,49]⟩,.string ⟨#[]⟩,.slice none 0 0,.int .i64 0,.int .i64 y2] 38
 have ha:=below_alloc w (.cells #[.int .i64 3,.int .i64 d2,.string ⟨#[97,49]⟩,.string ⟨#[]⟩,.slice none 0 0,.int .i64 0,.int .i64 y2] 38)
 have hr:=BoxAt.new (w.alloc (.cells #[.int .i64 3,.int .i64 d2,.string ⟨#[97,49]⟩,.string ⟨#[]⟩,.slice none 0 0,.int .i64 0,.int .i64 y2] 38)) #[.int .i64 0,.int .i64 0,.string ⟨#[]⟩,.string ⟨#[]⟩,.slice none 0 0,.int .i64 0,.int .i64 0] 38
 rw[World.size_alloc] at hr
 have hba:=below_alloc (w.alloc (.cells #[.int .i64 3,.int .i64 d2,.string ⟨#[97,49]⟩,.string ⟨#[]⟩,.slice none 0 0,.int .i64 0,.int .i64 y2] 38)) (.cells #[.int .i64 0,.int .i64 0,.string ⟨#[]⟩,.string ⟨#[]⟩,.slice none 0 0,.int .i64 0,.int .i64 0] 38)
 replace hx:=hx.below hba
 replace ha:=Lib.hid (below_step ha hba)
 obtain⟨w2,hw2⟩:∃ w2,(w.alloc (.cells #[.int .i64 3,.int .i64 d2,.string ⟨#[97,49]⟩,.string ⟨#[]⟩,.slice none 0 0,.int .i64 0,.int .i64 y2] 38)).alloc (.cells #[.int .i64 0,.int .i64 0,.string ⟨#[]⟩,.string ⟨#[]⟩,.slice none 0 0,.int .i64 0,.int .i64 0] 38)=w2:=⟨_,rfl⟩
 rw[hw2] at hx ha hr
 have x4:=hx.c 4 _ rfl;have y1:=hx.free 4 (by simp)
 have hx3:Hid (BoxAt (w2.setCell ⟨w.heap.size,4,none⟩ (.slice none 0 0)) w.heap.size [.int .i64 3,.int .i64 d2,.string ⟨#[97,49]⟩,.string ⟨#[]⟩,.slice none 0 0,.int .i64 0,.int .i64 y2]):=hx.set 4 _ (by simp)
 obtain⟨z0,z1,z2,z3⟩:=hx3.out.c4;have z4:=hx3.out.c 4 _ rfl;have z5:=hx3.out.c 5 _ rfl;have z6:=hx3.out.c 6 _ rfl
 have hr3:=Lib.hid (hr.offF (B':=w.heap.size) 4 (.slice none 0 0) (by omega))
 have ha3:=Lib.hid (ha.out.setCell (p:=⟨w.heap.size,4,none⟩) (Nat.le_refl _) (.slice none 0 0))
 clear hr hx ha hba
 go_enter Tryz.func18,Tryz.ntmps18
 go_wp2_with (first
  |(go_at_call 41;refine (CloneParts_nil 0 _).mono ?_;rintro e9 w9 ⟨rfl,rfl⟩)
  |(refine wpList_store_box rfl 38 (.tmp 2) (.tmp 7) rfl (w.heap.size+1) _ [.int .i64 3,.int .i64 d2,.string ⟨#[97,49]⟩,.string ⟨#[]⟩,.slice none 0 0,.int .i64 0,.int .i64 y2] (by rfl) (by rfl) hr3.out rfl ddSize5 (by kernel_rfl) ?_;intro w4 h4 hg4;clear x4 y1 z0 z1 z2 z3 z4 z5 z6))
 refine bodyPost_ret (results_mid1 rfl _ _ (w.heap.size+1) [.int .i64 3,.int .i64 d2,.string ⟨#[97,49]⟩,.string ⟨#[]⟩,.slice none 0 0,.int .i64 0,.int .i64 y2] _ rfl h4.range Tryz.underlying38 rfl ddSize5) rfl ⟨rfl,?_⟩
 exact ha3.out.grown hg4 ha3.out.size (fun g e=>by have:=Option.some.inj e;omega)
end Go.Proofs.YtcnfhnndppollaaGreatDoor
