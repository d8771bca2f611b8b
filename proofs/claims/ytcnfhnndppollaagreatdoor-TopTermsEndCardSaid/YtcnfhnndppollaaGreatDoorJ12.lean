/- What the statements rest on: definitions and walks, part 12. -/
import Derived.Test.YtcnfhnndppollaaGreatDoorJ11
set_option maxRecDepth 100000
set_option maxHeartbeats 16000000
set_option linter.unusedSimpArgs false
set_option linter.unusedVariables false
namespace Go.Proofs.YtcnfhnndppollaaGreatDoor
open Go Go.RowKit Go.Maps Go.WideMaps
theorem Next_renX (RA0 PA:Option Addr) (rc0 pc:Nat) (dy yr en d2 y2:Int) (w:World) (hF:FTab w) (hT:Tab w) (hro:RowsAt w RA0 7 [[.int .i64 0,.int .i64 dy,.string ⟨#[97,49]⟩,.string ⟨#[]⟩,.slice PA 1 pc,.int .i64 2,.int .i64 yr]]) (hpa:RowsAt w PA 3 ([ann1].map Pa.cells)) (h0:0≤dy∧dy≤200000) (h2:1≤yr∧yr≤99) (hadd:Cal.addS dy (12*yr)=(en,0)) (hen:0≤en) (h3:1≤y2∧y2≤99) (hd2:dy≤d2∧d2<en∧d2≤200000) (hadd2:(Cal.addS en (12*y2)).2≠0) :
  Calls Tryz.prog 7 #[.agg #[.slice none 0 0,.slice RA0 1 rc0],.agg #[.int .i64 3,.int .i64 d2,.string ⟨#[97,49]⟩,.string ⟨#[]⟩,.slice none 0 0,.int .i64 0,.int .i64 y2]] w fun e w'=>e=.returned (.tuple #[.agg #[.slice none 0 0,.slice none 0 0],.int .i64 2])∧Below w.heap.size w w':=by
 have hlz2:=Lib.hid (fun W (hb9:Below w.heap.size w W)=>by
  have:=rlater_any en y2 W (hT.below hb9) (by omega) (by omega)
  rw[if_neg hadd2] at this
  exact this)
 clear hadd2
 have hFz:=Lib.hid (fun W (hb9:Below w.heap.size w W)=>hF.below hb9)
 have hpz:=Lib.hid (fun W (hb9:Below w.heap.size w W)=>hpa.below hb9)
 have hrz0:=Lib.hid (fun W (hb9:Below w.heap.size w W)=>hro.below hb9)
 have hTz:=Lib.hid (fun W (hb9:Below w.heap.size w W)=>hT.below hb9)
 have hq2:(y2 == 0)=false:=by simp;omega
 clear hF hT hpa hro
 have hRb:=BoxAt.new w #[.slice none 0 0,.slice RA0 1 rc0] 28
 have ha1:=below_alloc w (.cells #[.slice none 0 0,.slice RA0 1 rc0] 28)
 have hDb:=BoxAt.new (w.alloc (.cells #[.slice none 0 0,.slice RA0 1 rc0] 28)) #[.int .i64 3,.int .i64 d2,.string ⟨#[97,49]⟩,.string ⟨#[]⟩,.slice none 0 0,.int .i64 0,.int .i64 y2] 38
 have ha2:=below_alloc (w.alloc (.cells #[.slice none 0 0,.slice RA0 1 rc0] 28)) (.cells #[.int .i64 3,.int .i64 d2,.string ⟨#[97,49]⟩,.string ⟨#[]⟩,.slice none 0 0,.int .i64 0,.int .i64 y2] 38)
 have hOb:=BoxAt.new ((w.alloc (.cells #[.slice none 0 0,.slice RA0 1 rc0] 28)).alloc (.cells #[.int .i64 3,.int .i64 d2,.string ⟨#[97,49]⟩,.string ⟨#[]⟩,.slice none 0 0,.int .i64 0,.int .i64 y2] 38)) #[.slice none 0 0,.slice none 0 0] 28
 have ha3:=below_alloc ((w.alloc (.cells #[.slice none 0 0,.slice RA0 1 rc0] 28)).alloc (.cells #[.int .i64 3,.int .i64 d2,.string ⟨#[97,49]⟩,.string ⟨#[]⟩,.slice none 0 0,.int .i64 0,.int .i64 y2] 38)) (.cells #[.slice none 0 0,.slice none 0 0] 28)
 obtain⟨X,hX⟩:∃ X,((w.alloc (.cells #[.slice none 0 0,.slice RA0 1 rc0] 28)).alloc (.cells #[.int .i64 3,.int .i64 d2,.string ⟨#[97,49]⟩,.string ⟨#[]⟩,.slice none 0 0,.int .i64 0,.int .i64 y2] 38)).alloc (.cells #[.slice none 0 0,.slice none 0 0] 28)=X:=⟨_,rfl⟩
 rw[World.size_alloc,World.size_alloc] at hOb
 rw[World.size_alloc] at hDb
 replace hRb:=(hRb.below ha2).below ha3
 replace hDb:=hDb.below ha3
 have hwX:=below_step (below_step ha1 ha2) ha3
 rw[hX] at hRb hDb hOb hwX
 obtain⟨r0,r1⟩:=hRb.c2
 have hRz:=Lib.hid (fun W (hb9:Below X.heap.size X W)=>hRb.below hb9)
 have hDz:=Lib.hid (fun W (hb9:Below X.heap.size X W)=>hDb.below hb9)
 have hOz:=Lib.hid (fun W (hb9:Below X.heap.size X W)=>hOb.below hb9)
 have hXl:=hOb.lt
 replace hwX:=Lib.hid hwX
 clear hRb hDb hOb ha1 ha2 ha3
 have hrep:=replay_grant none RA0 PA 0 rc0 pc 200000 dy yr en X (hFz.out _ hwX.out) (hTz.out _ hwX.out) (hrz0.out _ hwX.out) (hpz.out _ hwX.out) h0 h2 (by omega) hadd hen
 obtain⟨q,hq⟩:∃ q,q=X.heap.size+1:=⟨_,rfl⟩
 rw[←hq] at hrep
 have hrep:=Lib.hid hrep
 have hqX:X.heap.size≤q:=by omega
 clear hq hadd
 go_enter Tryz.func7,Tryz.ntmps7
 go_wp2_with (first
  |(go_at_call 13;refine hrep.out.mono ?_;clear hX r0 r1 hrep;rintro e9 w2 ⟨rfl,⟨b,c,tc,A9,TA,hW,ht,ho,hqb,hTA⟩,hb2⟩;replace hW:=Lib.hid hW;replace hb2:=Lib.hid hb2;have d0:=(hDz.out _ hb2.out).c 0 _ rfl;have d1:=(hDz.out _ hb2.out).c 1 _ rfl;have dd2:=(hDz.out _ hb2.out).c 2 _ rfl;have d3:=(hDz.out _ hb2.out).c 3 _ rfl;have d4:=(hDz.out _ hb2.out).c 4 _ rfl;have d5:=(hDz.out _ hb2.out).c 5 _ rfl;have d6:=(hDz.out _ hb2.out).c 6 _ rfl)
    |(go_at_call 14;clear d0 d1 dd2 d3 d4 d5 d6;refine (CheckDeed_renewal d2 y2 _ (hFz.out _ (below_step hwX.out hb2.out)) ⟨by omega,by omega⟩ ⟨by omega,h3.2⟩ hq2).mono ?_;rintro e9 w3 ⟨rfl,hbn⟩;have hb3:=Lib.hid hbn;replace hW:=Lib.hid (hW.out.below hbn);replace hb2:=Lib.hid (below_step hb2.out hbn);clear hbn;have r0:=(hRz.out _ hb2.out).c 0 _ rfl;have d0:=(hDz.out _ hb2.out).c 0 _ rfl;have d1:=(hDz.out _ hb2.out).c 1 _ rfl;have dd2:=(hDz.out _ hb2.out).c 2 _ rfl;have d3:=(hDz.out _ hb2.out).c 3 _ rfl;have d4:=(hDz.out _ hb2.out).c 4 _ rfl;have d5:=(hDz.out _ hb2.out).c 5 _ rfl;have d6:=(hDz.out _ hb2.out).c 6 _ rfl)
    |(go_at_call 15;clear r0 d0 d1 dd2 d3 d4 d5 d6;refine (wtake_renewalX A9 TA none 0 d2 y2 2 dy en (-1) _ hW.out (ht.below hb3.out) (ho.below hb3.out) hqb hTA hd2.2.1 hen (by decide) (fun W h9=>hlz2.out W (below_step (below_step hwX.out hb2.out) h9)) (by decide) (by decide) hd2.1).mono ?_;rintro e9 w4 ⟨rfl,hbn⟩;replace hb2:=Lib.hid (below_step hb2.out hbn);clear hbn hW ht ho hb3;have ho:=hOz.out _ hb2.out)
  |(refine wpList_store_box rfl 28 (.tmp 4) (.tmp 37) rfl (w.heap.size+1+1) _ [.slice none 0 0,.slice none 0 0] (by rfl) (by rfl) ho rfl riSize5 (by kernel_rfl) ?_;intro w6 h6 hg6;clear ho))
 refine bodyPost_ret (results_mid2 rfl _ _ (w.heap.size+1+1) [.slice none 0 0,.slice none 0 0] _ rfl h6.range Tryz.underlying28 rfl riSize5) rfl ⟨rfl,?_⟩
 exact (below_step hwX.out hb2.out).grown hg6 (below_step hwX.out hb2.out).size (fun g e=>by have:=Option.some.inj e;omega)
def NxtR (dy yr d2 y2:Int) (w:World) (e:Ending) (w':World):Prop:=∃ RB rb PB pb,e=.returned (.tuple #[.agg #[.slice none 0 0,.slice RB 2 rb],.int .i64 0])∧RowsAt w' RB 7 [[.int .i64 0,.int .i64 dy,.string ⟨#[97,49]⟩,.string ⟨#[]⟩,.slice PB 1 pb,.int .i64 2,.int .i64 yr],[.int .i64 3,.int .i64 d2,.string ⟨#[97,49]⟩,.string ⟨#[]⟩,.slice none 0 0,.int .i64 0,.int .i64 y2]]∧RowsAt w' PB 3 ([ann1].map Pa.cells)∧Below w.heap.size w w'
theorem Next_ren (RA0 PA:Option Addr) (rc0 pc:Nat) (dy yr en d2 y2 e2:Int) (w:World) (hF:FTab w) (hT:Tab w) (hro:RowsAt w RA0 7 [[.int .i64 0,.int .i64 dy,.string ⟨#[97,49]⟩,.string ⟨#[]⟩,.slice PA 1 pc,.int .i64 2,.int .i64 yr]]) (hpa:RowsAt w PA 3 ([ann1].map Pa.cells)) (h0:0≤dy∧dy≤200000) (h2:1≤yr∧yr≤99) (hadd:Cal.addS dy (12*yr)=(en,0)) (hen:0≤en) (h3:1≤y2∧y2≤99) (hd2:dy≤d2∧d2<en∧d2≤200000) (hadd2:Cal.addS en (12*y2)=(e2,0)) (he2:0≤e2) :
  Calls Tryz.prog 7 #[.agg #[.slice none 0 0,.slice RA0 1 rc0],.agg #[.int .i64 3,.int .i64 d2,.string ⟨#[97,49]⟩,.string ⟨#[]⟩,.slice none 0 0,.int .i64 0,.int .i64 y2]] w (NxtR dy yr d2 y2 w):=by
 have hlz2:=Lib.hid (fun W (hb9:Below w.heap.size w W)=>by
  have:=rlater_any en y2 W (hT.below hb9) (by omega) (by omega)
  rw[hadd2] at this
  exact this)
 clear hadd2
 obtain⟨rb0,ro0,hRA0,_,_⟩:=hro 0 _ rfl
 subst hRA0
 have hFz:=Lib.hid (fun W (hb9:Below w.heap.size w W)=>hF.below hb9)
 have hpz:=Lib.hid (fun W (hb9:Below w.heap.size w W)=>hpa.below hb9)
 have hrz0:=Lib.hid (fun W (hb9:Below w.heap.size w W)=>hro.below hb9)
 have hTz:=Lib.hid (fun W (hb9:Below w.heap.size w W)=>hT.below hb9)
 have hq2:(y2 == 0)=false:=by simp;omega
 clear hF hT hpa hro
 have hRb:=BoxAt.new w #[.slice none 0 0,.slice (some ⟨rb0,ro0,none⟩) 1 rc0] 28
 have ha1:=below_alloc w (.cells #[.slice none 0 0,.slice (some ⟨rb0,ro0,none⟩) 1 rc0] 28)
 have hDb:=BoxAt.new (w.alloc (.cells #[.slice none 0 0,.slice (some ⟨rb0,ro0,none⟩) 1 rc0] 28)) #[.int .i64 3,.int .i64 d2,.string ⟨#[97,49]⟩,.string ⟨#[]⟩,.slice none 0 0,.int .i64 0,.int .i64 y2] 38
 have ha2:=below_alloc (w.alloc (.cells #[.slice none 0 0,.slice (some ⟨rb0,ro0,none⟩) 1 rc0] 28)) (.cells #[.int .i64 3,.int .i64 d2,.string ⟨#[97,49]⟩,.string ⟨#[]⟩,.slice none 0 0,.int .i64 0,.int .i64 y2] 38)
 have hOb:=BoxAt.new ((w.alloc (.cells #[.slice none 0 0,.slice (some ⟨rb0,ro0,none⟩) 1 rc0] 28)).alloc (.cells #[.int .i64 3,.int .i64 d2,.string ⟨#[97,49]⟩,.string ⟨#[]⟩,.slice none 0 0,.int .i64 0,.int .i64 y2] 38)) #[.slice none 0 0,.slice none 0 0] 28
 have ha3:=below_alloc ((w.alloc (.cells #[.slice none 0 0,.slice (some ⟨rb0,ro0,none⟩) 1 rc0] 28)).alloc (.cells #[.int .i64 3,.int .i64 d2,.string ⟨#[97,49]⟩,.string ⟨#[]⟩,.slice none 0 0,.int .i64 0,.int .i64 y2] 38)) (.cells #[.slice none 0 0,.slice none 0 0] 28)
 obtain⟨X,hX⟩:∃ X,((w.alloc (.cells #[.slice none 0 0,.slice (some ⟨rb0,ro0,none⟩) 1 rc0] 28)).alloc (.cells #[.int .i64 3,.int .i64 d2,.string ⟨#[97,49]⟩,.string ⟨#[]⟩,.slice none 0 0,.int .i64 0,.int .i64 y2] 38)).alloc (.cells #[.slice none 0 0,.slice none 0 0] 28)=X:=⟨_,rfl⟩
 rw[World.size_alloc,World.size_alloc] at hOb
 rw[World.size_alloc] at hDb
 replace hRb:=(hRb.below ha2).below ha3
 replace hDb:=hDb.below ha3
 have hwX:=below_step (below_step ha1 ha2) ha3
 rw[hX] at hRb hDb hOb hwX
 obtain⟨r0,r1⟩:=hRb.c2
 have hRz:=Lib.hid (fun W (hb9:Below X.heap.size X W)=>hRb.below hb9)
 have hDz:=Lib.hid (fun W (hb9:Below X.heap.size X W)=>hDb.below hb9)
 have hOz:=Lib.hid (fun W (hb9:Below X.heap.size X W)=>hOb.below hb9)
 have hXl:=hOb.lt
 replace hwX:=Lib.hid hwX
 clear hRb hDb hOb ha1 ha2 ha3
 have hrep:=replay_grant none (some ⟨rb0,ro0,none⟩) PA 0 rc0 pc 200000 dy yr en X (hFz.out _ hwX.out) (hTz.out _ hwX.out) (hrz0.out _ hwX.out) (hpz.out _ hwX.out) h0 h2 (by omega) hadd hen
 obtain⟨q,hq⟩:∃ q,q=X.heap.size+1:=⟨_,rfl⟩
 rw[←hq] at hrep
 have hrep:=Lib.hid hrep
 have hqX:X.heap.size≤q:=by omega
 clear hq hadd
 go_enter Tryz.func7,Tryz.ntmps7
 go_upto_region 11 with (first
  |(go_at_call 13;refine hrep.out.mono ?_;clear hX r0 r1 hrep;rintro e9 w2 ⟨rfl,⟨b,c,tc,A9,TA,hW,ht,ho,hqb,hTA⟩,hb2⟩;replace hW:=Lib.hid hW;replace hb2:=Lib.hid hb2;have d0:=(hDz.out _ hb2.out).c 0 _ rfl;have d1:=(hDz.out _ hb2.out).c 1 _ rfl;have dd2:=(hDz.out _ hb2.out).c 2 _ rfl;have d3:=(hDz.out _ hb2.out).c 3 _ rfl;have d4:=(hDz.out _ hb2.out).c 4 _ rfl;have d5:=(hDz.out _ hb2.out).c 5 _ rfl;have d6:=(hDz.out _ hb2.out).c 6 _ rfl)
    |(go_at_call 14;clear d0 d1 dd2 d3 d4 d5 d6;refine (CheckDeed_renewal d2 y2 _ (hFz.out _ (below_step hwX.out hb2.out)) ⟨by omega,by omega⟩ ⟨by omega,h3.2⟩ hq2).mono ?_;rintro e9 w3 ⟨rfl,hbn⟩;have hb3:=Lib.hid hbn;replace hW:=Lib.hid (hW.out.below hbn);replace hb2:=Lib.hid (below_step hb2.out hbn);clear hbn;have r0:=(hRz.out _ hb2.out).c 0 _ rfl;have d0:=(hDz.out _ hb2.out).c 0 _ rfl;have d1:=(hDz.out _ hb2.out).c 1 _ rfl;have dd2:=(hDz.out _ hb2.out).c 2 _ rfl;have d3:=(hDz.out _ hb2.out).c 3 _ rfl;have d4:=(hDz.out _ hb2.out).c 4 _ rfl;have d5:=(hDz.out _ hb2.out).c 5 _ rfl;have d6:=(hDz.out _ hb2.out).c 6 _ rfl)
    |(go_at_call 15;clear r0 d0 d1 dd2 d3 d4 d5 d6;refine (wtake_renewal A9 TA none 0 d2 y2 2 dy en e2 _ hW.out (ht.below hb3.out) (ho.below hb3.out) hqb hTA hd2.2.1 hen he2 (fun W h9=>hlz2.out W (below_step (below_step hwX.out hb2.out) h9)) (by decide) (by decide) hd2.1).mono ?_;rintro e9 w4 ⟨rfl,_,_,_,hbl⟩;replace hb2:=Lib.hid (hb2.out.trans (hbl.mono (by omega)));clear hbl hW ht ho hb3;have r0:=(hRz.out _ hb2.out).c 0 _ rfl)
  |(go_at_call 16;clear r0;refine (CloneLaws_nil 0 _).mono ?_;rintro e9 w5 ⟨rfl,rfl⟩))
 have hXw:=hb2.out.size
 have hSX:=Lib.hid (Sx.mk (w:=X) (W:=X) (L:=[(w.heap.size,1,.slice (some ⟨rb0,ro0,none⟩) 1 rc0),(w.heap.size+1,0,.int .i64 3),(w.heap.size+1,1,.int .i64 d2),(w.heap.size+1,2,.string ⟨#[97,49]⟩),(w.heap.size+1,3,.string ⟨#[]⟩),(w.heap.size+1,4,.slice none 0 0),(w.heap.size+1,5,.int .i64 0),(w.heap.size+1,6,.int .i64 y2)]) (by simp only[cs_iff_cons];exact⟨(hRz.out _ (Below.refl _ _)).c 1 _ rfl,(hDz.out _ (Below.refl _ _)).c 0 _ rfl,(hDz.out _ (Below.refl _ _)).c 1 _ rfl,(hDz.out _ (Below.refl _ _)).c 2 _ rfl,(hDz.out _ (Below.refl _ _)).c 3 _ rfl,(hDz.out _ (Below.refl _ _)).c 4 _ rfl,(hDz.out _ (Below.refl _ _)).c 5 _ rfl,(hDz.out _ (Below.refl _ _)).c 6 _ rfl,cs_nil _⟩) (Below.refl _ _))
 have hbO:=below_alloc w4 (.cells #[.slice none 0 0,.slice none 0 0] 28)
 have hO:=BoxAt.new w4 #[.slice none 0 0,.slice none 0 0] 28
 obtain⟨y,hy9⟩:∃ y,(w4.alloc (.cells #[.slice none 0 0,.slice none 0 0] 28)).drew=y:=⟨_,rfl⟩
 replace hb2:=Lib.hid (below_step hb2.out (below_step hbO (Below.refl _ _).drew))
 replace hO:=Lib.hid (hO.below (Below.refl _ _).drew)
 rw[hy9] at hb2 hO
 clear hbO
 have hszO:=hO.out.lt
 refine wp_region_held_drew (S:=Sx X [(w.heap.size,1,.slice (some ⟨rb0,ro0,none⟩) 1 rc0),(w.heap.size+1,0,.int .i64 3),(w.heap.size+1,1,.int .i64 d2),(w.heap.size+1,2,.string ⟨#[97,49]⟩),(w.heap.size+1,3,.string ⟨#[]⟩),(w.heap.size+1,4,.slice none 0 0),(w.heap.size+1,5,.int .i64 0),(w.heap.size+1,6,.int .i64 y2)]) (by kernel_rfl) (by rw[hy9];exact Sx.mk (by simp only[cs_iff_cons];exact⟨(hRz.out _ hb2.out).c 1 _ rfl,(hDz.out _ hb2.out).c 0 _ rfl,(hDz.out _ hb2.out).c 1 _ rfl,(hDz.out _ hb2.out).c 2 _ rfl,(hDz.out _ hb2.out).c 3 _ rfl,(hDz.out _ hb2.out).c 4 _ rfl,(hDz.out _ hb2.out).c 5 _ rfl,(hDz.out _ hb2.out).c 6 _ rfl,cs_nil _⟩) hb2.out) (fun hHeld=>?_)
 rw[hy9] at hHeld ⊢
 clear hy9
 refine tkHx 0 43 ?_
 refine tkHx 1 44 ?_
 refine tkHx 3 46 ?_
 refine tkHx 7 50 ?_
 (refine wpAnyH_ready (rs:=[2,4]) (by decide +kernel) (by simp) ?_;refine AllReadyH.cons rfl (fun K hK=>?_) (AllReadyH.cons rfl (fun K hK=>?_) AllReadyH.nil))
 ·(rw[if_pos (by kernel_rfl)];go_simp)
  refine (CloneDeeds_some ⟨rb0,ro0,none⟩ rc0 [.int .i64 0,.int .i64 dy,.string ⟨#[97,49]⟩,.string ⟨#[]⟩,.slice PA 1 pc,.int .i64 2,.int .i64 yr] _ (hrz0.out _ (below_step hwX.out hb2.out)) rfl (fun u hu=>by simp at hu;rcases hu with rfl | rfl | rfl | rfl | rfl | rfl | rfl <;> rfl)).mono ?_
  rintro e9 y3 ⟨cv,rfl,hoc,hbn⟩
  obtain⟨CV,cvc,hcv,_⟩:=OwnL.form hoc
  have hcv2:cv=.slice CV 1 cvc:=hcv
  subst hcv2
  refine hK.out _ _ (hHeld.step hbn) (fun hHeld2=>?_)
  clear hK K hHeld
  (try simp only[apS,apN,siA,scZ,scS])
  (refine ratHx 4 (fun K hK=>?_);go_simp)
  refine hK.out _ _ (hHeld2.step (below_alloc _ _)) (fun hHeld3=>?_)
  clear hK K hHeld2
  (try simp only[apS,apN,siA,scZ,scS])
  have hba:=below_alloc y3 (.cells #[.int .i64 3,.int .i64 d2,.string ⟨#[97,49]⟩,.string ⟨#[]⟩,.slice none 0 0,.int .i64 0,.int .i64 y2] 38)
  have hcb:∀ g,Value.ownBlock (.slice CV 1 cvc)=some g→w4.heap.size+1≤g:=fun g e=>by have:=(hoc.lt g e).1;omega
  have hOW:=(hO.out.below hbn).below hba
  have hbW:=below_step (below_step hb2.out hbn) hba
  have hsW:w4.heap.size+1≤(y3.alloc (.cells #[.int .i64 3,.int .i64 d2,.string ⟨#[97,49]⟩,.string ⟨#[]⟩,.slice none 0 0,.int .i64 0,.int .i64 y2] 38)).heap.size:=by have:=hOW.lt;omega
  have hocW:=(hoc.less (show w4.heap.size+1≤y.heap.size by omega)).below hba
  (refine wpAnyH_ready (rs:=[5]) (by decide +kernel) (by simp) ?_;refine AllReadyH.cons rfl (fun K hK=>?_) AllReadyH.nil)
  refine step_append_rows elemDd (by rfl) (.tmp 45) (.tmp 47) (by rfl) (by rfl) (by rfl) hocW (rowsAt_new y3 [.int .i64 3,.int .i64 d2,.string ⟨#[97,49]⟩,.string ⟨#[]⟩,.slice none 0 0,.int .i64 0,.int .i64 y2] 38) rfl (fun r hr=>by rw[List.mem_singleton.1 hr];rfl) (fun r hr u hu=>by rw[List.mem_singleton.1 hr] at hu;simp at hu;rcases hu with rfl | rfl | rfl | rfl | rfl | rfl | rfl <;> rfl) (by simp) (by decide) (by have:=hsW;omega) ?_
  intro dv wL hod hgd _
  have hOL:=hOW.grown hgd (fun e=>by have:=hcb _ e.symm;omega)
  have hb2L:=hbW.grown hgd hbW.size (fun g e=>by have:=hcb _ e;omega)
  have hdb:∀ g,Value.ownBlock dv=some g→w4.heap.size+1≤g∧g<wL.heap.size:=fun g e=>⟨(hod.lt g e).1,(hod.lt g e).2⟩
  obtain⟨DA,dc,hdv,hDr⟩:=OwnL.form hod
  have hdv2:dv=.slice DA 2 dc:=hdv
  subst hdv2
  have hDb:=Lib.hid (fun a (e:DA=some a)=>hdb a.block (by rw[e];rfl))
  have hDl:Hid (RowsAt wL DA 7 [[.int .i64 0,.int .i64 dy,.string ⟨#[97,49]⟩,.string ⟨#[]⟩,.slice PA 1 pc,.int .i64 2,.int .i64 yr],[.int .i64 3,.int .i64 d2,.string ⟨#[97,49]⟩,.string ⟨#[]⟩,.slice none 0 0,.int .i64 0,.int .i64 y2]]):=hDr
  refine hK.out _ _ (hSX.out.step hb2L) (fun hHeld4=>?_)
  replace hb2:=Lib.hid hb2L
  have hO:=Lib.hid hOL
  clear hK K hHeld3 hod hgd hdv hdb hOW hbW hsW hcb hOL hb2L
  (try simp only[apS,apN,siA,scZ,scS])
  refine tkHx 6 49 ?_
  refine wpAnyH_done (by kernel_rfl) ?_ _
  clear hHeld4 hSX
  obtain⟨wS,hwS⟩:∃ wS,wS=wL:=⟨_,rfl⟩
  subst hwS
  have hszL:w4.heap.size<wS.heap.size:=hO.out.lt
  have hb:=Lib.hid (Below.refl wS.heap.size wS)
  have hXw4:X.heap.size≤w4.heap.size:=hXw
  go_wp2
  refine wp_unroll 3 ?_
  unfold unroll
  obtain⟨db,dof,hDA,_,hdc⟩:=hDl.out 0 _ rfl
  cases hDA
  have m0:=hdc 0 _ rfl
  have m1:=hdc 1 _ rfl
  have m2:=hdc 2 _ rfl
  have m3:=hdc 3 _ rfl
  have m4:=hdc 4 _ rfl
  have m5:=hdc 5 _ rfl
  have m6:=hdc 6 _ rfl
  change wS.cell? ⟨db,dof,none⟩=_ at m0
  change wS.cell? ⟨db,dof+1,none⟩=_ at m1
  change wS.cell? ⟨db,dof+2,none⟩=_ at m2
  change wS.cell? ⟨db,dof+3,none⟩=_ at m3
  change wS.cell? ⟨db,dof+4,none⟩=_ at m4
  change wS.cell? ⟨db,dof+5,none⟩=_ at m5
  change wS.cell? ⟨db,dof+6,none⟩=_ at m6
  have hbP:=BoxAt.new wS #[.int .i64 0,.int .i64 dy,.string ⟨#[97,49]⟩,.string ⟨#[]⟩,.slice PA 1 pc,.int .i64 2,.int .i64 yr] 38
  have hZ:=below_alloc wS (.cells #[.int .i64 0,.int .i64 dy,.string ⟨#[97,49]⟩,.string ⟨#[]⟩,.slice PA 1 pc,.int .i64 2,.int .i64 yr] 38)
  have hszS:=hO.out.lt
  clear hdc
  go_upto_region 14 with fail
  clear m0 m1 m2 m3 m4 m5 m6
  obtain⟨z,hz9⟩:∃ z,(wS.alloc (.cells #[.int .i64 0,.int .i64 dy,.string ⟨#[97,49]⟩,.string ⟨#[]⟩,.slice PA 1 pc,.int .i64 2,.int .i64 yr] 38)).drew=z:=⟨_,rfl⟩
  replace hbP:=Lib.hid (hbP.below (Below.refl _ _).drew)
  replace hZ:=Lib.hid (below_step hZ (Below.refl _ _).drew)
  rw[hz9] at hbP hZ
  refine wp_region_heldZ (S:=Sc [(w4.heap.size,1,.slice none 0 0),(wS.heap.size,0,.int .i64 0),(wS.heap.size,1,.int .i64 dy),(wS.heap.size,2,.string ⟨#[97,49]⟩),(wS.heap.size,3,.string ⟨#[]⟩),(wS.heap.size,4,.slice PA 1 pc),(wS.heap.size,5,.int .i64 2),(wS.heap.size,6,.int .i64 yr)]) 7 (by kernel_rfl) (by rw[hz9];exact (Sc.mk (by simp only[cs_iff_cons];exact⟨(hO.out.below hZ.out).c 1 _ rfl,hbP.out.c 0 _ rfl,hbP.out.c 1 _ rfl,hbP.out.c 2 _ rfl,hbP.out.c 3 _ rfl,hbP.out.c 4 _ rfl,hbP.out.c 5 _ rfl,hbP.out.c 6 _ rfl,cs_nil _⟩))) (fun hHeld=>?_)
  rw[hz9] at hHeld ⊢
  clear hz9
  refine tkZx 0 54 ?_
  refine tkZx 1 55 ?_
  refine tkZx 2 56 ?_
  have hszz:=hZ.out.size
  refine ratZ 3 (by decide +kernel) rfl (fun K hK=>?_)
  rw[if_pos (by kernel_rfl)]
  go_simp
  refine (copied_grant PA pc dy yr _ (hpz.out _ (below_step hwX.out (below_step hb2.out hZ.out)))).mono ?_
  rintro e9 z2 ⟨PB,pb,rfl,hpB,hbn,hpBl⟩
  refine hK.out _ _ (hHeld.below hbn) (fun hH2=>?_)
  replace hZ:=Lib.hid (below_step hZ.out hbn)
  replace hbP:=Lib.hid (hbP.out.below hbn)
  clear hK K hHeld hbn
  have hHeld:=hH2
  clear hH2
  (try simp only[apS,apN,siA,scZ,scS])
  refine ratZ 4 (by decide +kernel) rfl (fun K hK=>?_)
  rw[if_pos (by kernel_rfl)]
  go_simp
  refine hK.out _ _ (hHeld.below (below_alloc _ _)) (fun hH2=>?_)
  clear hK K hHeld
  have hHeld:=hH2
  clear hH2
  (try simp only[apS,apN,siA,scZ,scS])
  have hba:=below_alloc z2 (.cells #[.int .i64 0,.int .i64 dy,.string ⟨#[97,49]⟩,.string ⟨#[]⟩,.slice PB 1 pb,.int .i64 2,.int .i64 yr] 38)
  have hZ3:=below_step hZ.out hba
  have hbP3:=hbP.out.below hba
  have hO3:=hO.out.below hZ3
  have hsz3:=hZ3.size
  refine ratZ 5 (by decide +kernel) rfl (fun K hK=>?_)
  refine step_append_rows elemDd (by rfl) (.tmp 55) (.tmp 58) (by rfl) (by rfl) (by rfl) (OwnL.nil _ (z2.alloc (.cells #[.int .i64 0,.int .i64 dy,.string ⟨#[97,49]⟩,.string ⟨#[]⟩,.slice PB 1 pb,.int .i64 2,.int .i64 yr] 38)).heap.size 38 7) (rowsAt_new z2 [.int .i64 0,.int .i64 dy,.string ⟨#[97,49]⟩,.string ⟨#[]⟩,.slice PB 1 pb,.int .i64 2,.int .i64 yr] 38) rfl (fun r hr=>by rw[List.mem_singleton.1 hr];rfl) (fun r hr u hu=>by rw[List.mem_singleton.1 hr] at hu;simp at hu;rcases hu with rfl | rfl | rfl | rfl | rfl | rfl | rfl <;> rfl) (by simp) (by decide) (by first | (simp;done) | omega) ?_
  intro rv z4 hor hgr _
  have hgr:(z2.alloc (.cells #[.int .i64 0,.int .i64 dy,.string ⟨#[97,49]⟩,.string ⟨#[]⟩,.slice PB 1 pb,.int .i64 2,.int .i64 yr] 38)).grownBy z4 none:=hgr
  have hne1:some w4.heap.size≠none:=by simp
  have hne2:some wS.heap.size≠none:=by simp
  have hszB:=Lib.hid hO3.lt
  have hO4:=hO3.grown hgr hne1
  have hbP4:=hbP3.grown hgr hne2
  refine hK.out _ _ (Sc.mk (by simp only[cs_iff_cons];exact⟨hO4.c 1 _ rfl,hbP4.c 0 _ rfl,hbP4.c 1 _ rfl,hbP4.c 2 _ rfl,hbP4.c 3 _ rfl,hbP4.c 4 _ rfl,hbP4.c 5 _ rfl,hbP4.c 6 _ rfl,cs_nil _⟩)) (fun hH2=>?_)
  clear hK K hHeld
  have hHeld:=hH2
  clear hH2
  (try simp only[apS,apN,siA,scZ,scS])
  obtain⟨RA,ra,hrv,_⟩:=OwnL.form hor
  have hrv2:rv=.slice RA 1 ra:=hrv
  subst hrv2
  refine tkZx 6 60 ?_
  have y0:=hO4.c 1 _ rfl;have y1:=hO4.free 1 (by simp)
  have hO5:Hid (BoxAt (z4.setCell ⟨w4.heap.size,1,none⟩ (.slice RA 1 ra)) w4.heap.size [.slice none 0 0,.slice RA 1 ra]):=hO4.set 1 _ (by simp)
  have hor5:=Lib.hid (hor.offF (B':=w4.heap.size) 1 (.slice RA 1 ra) (by have:=hszB.out;omega))
  have hg5:=grown_set z4 w4.heap.size 1 (.slice RA 1 ra)
  have hsz4:=hgr.size
  have hPBu:=Lib.hid (fun a (e:PB=some a)=>(show w4.heap.size+1≤a.block∧a.block<(z2.alloc (.cells #[.int .i64 0,.int .i64 dy,.string ⟨#[97,49]⟩,.string ⟨#[]⟩,.slice PB 1 pb,.int .i64 2,.int .i64 yr] 38)).heap.size by
   have h8:=hpBl a e
   obtain⟨b8,o8,hA8,hbl8,_⟩:=pa_at hpB
   rw[e] at hA8
   cases hA8
   refine⟨by omega,?_⟩
   simp
   omega))
  have hpB5:=Lib.hid (rows_far (rows_far (hpB.below hba) hgr (fun a e=>by simp)) hg5 (fun a e e2=>by have:=hPBu.out a e;have:=Option.some.inj e2;omega))
  have hb5:=Lib.hid (((below_step hb2.out hZ3).grown hgr (below_step hb2.out hZ3).size (fun g e=>by cases e)).setCell (p:=⟨w4.heap.size,1,none⟩) (by show X.heap.size≤w4.heap.size;exact hXw4) (.slice RA 1 ra))
  have hDl5:=Lib.hid (rows_far (rows_far (hDl.out.below hZ3) hgr (fun a e=>by simp)) hg5 (fun a e e2=>by cases e;have:=hDb.out _ rfl;have:=Option.some.inj e2;simp at *;omega))
  obtain⟨B1,hB1⟩:∃ B1,B1=(z2.alloc (.cells #[.int .i64 0,.int .i64 dy,.string ⟨#[97,49]⟩,.string ⟨#[]⟩,.slice PB 1 pb,.int .i64 2,.int .i64 yr] 38)).heap.size:=⟨_,rfl⟩
  have hB1a:w4.heap.size+1≤B1:=by have:=hO3.lt;omega
  have hB1b:B1≤z4.heap.size:=by omega
  rw[←hB1] at hor5 hPBu
  clear hpB hpBl hB1
  clear hO4 hbP4 hO3 hbP3 hor hrv hgr hg5 hba hZ3 hZ hbP hO hb hne1 hne2 hDl
  refine ratZc 7 (by decide +kernel) rfl (by decide +kernel) (fun K hK=>?_)
  rw[if_pos (by kernel_rfl)]
  go_simp
  refine hK.out _ _ ?_
  clear hK K
  (try simp only[apS,apN,siA,scZ,scS])
  refine wpAnyHY_done (by decide +kernel) ?_ _
  clear y0 y1 hHeld
  obtain⟨wS,hwT⟩:∃ wS,z4.setCell ⟨w4.heap.size,1,none⟩ (.slice RA 1 ra)=wS:=⟨_,rfl⟩
  have hB1w:B1≤wS.heap.size:=by rw[←hwT];simpa using hB1b
  rw[hwT] at hO5 hor5 hpB5 hb5 hDl5 ⊢
  have hO:=hO5
  have hDl:=hDl5
  have hb2:=hb5
  have hor1:=hor5
  clear hO5 hDl5 hb5 hor5 hwT hszS hszz hsz3 hsz4 hB1b hszB
  have hb:=Lib.hid (Below.refl wS.heap.size wS)
  have hcb1:=Lib.hid (fun g (e:Value.ownBlock (.slice RA 1 ra)=some g)=>hor1.out.lt g e)
  go_wp2
  unfold unroll
  obtain⟨db,dof,hDA,_,hdc⟩:=hDl.out 1 _ rfl
  cases hDA
  have m0:=hdc 0 _ rfl
  have m1:=hdc 1 _ rfl
  have m2:=hdc 2 _ rfl
  have m3:=hdc 3 _ rfl
  have m4:=hdc 4 _ rfl
  have m5:=hdc 5 _ rfl
  have m6:=hdc 6 _ rfl
  change wS.cell? ⟨db,dof+7,none⟩=_ at m0
  change wS.cell? ⟨db,dof+7+1,none⟩=_ at m1
  change wS.cell? ⟨db,dof+7+2,none⟩=_ at m2
  change wS.cell? ⟨db,dof+7+3,none⟩=_ at m3
  change wS.cell? ⟨db,dof+7+4,none⟩=_ at m4
  change wS.cell? ⟨db,dof+7+5,none⟩=_ at m5
  change wS.cell? ⟨db,dof+7+6,none⟩=_ at m6
  have hbP:=BoxAt.new wS #[.int .i64 3,.int .i64 d2,.string ⟨#[97,49]⟩,.string ⟨#[]⟩,.slice none 0 0,.int .i64 0,.int .i64 y2] 38
  have hZ:=below_alloc wS (.cells #[.int .i64 3,.int .i64 d2,.string ⟨#[97,49]⟩,.string ⟨#[]⟩,.slice none 0 0,.int .i64 0,.int .i64 y2] 38)
  have hszS:=hO.out.lt
  clear hdc
  go_upto_region 14 with fail
  clear m0 m1 m2 m3 m4 m5 m6
  obtain⟨z,hz9⟩:∃ z,(wS.alloc (.cells #[.int .i64 3,.int .i64 d2,.string ⟨#[97,49]⟩,.string ⟨#[]⟩,.slice none 0 0,.int .i64 0,.int .i64 y2] 38)).drew=z:=⟨_,rfl⟩
  replace hbP:=Lib.hid (hbP.below (Below.refl _ _).drew)
  replace hZ:=Lib.hid (below_step hZ (Below.refl _ _).drew)
  rw[hz9] at hbP hZ
  refine wp_region_heldZ (S:=Sc [(w4.heap.size,1,.slice RA 1 ra),(wS.heap.size,0,.int .i64 3),(wS.heap.size,1,.int .i64 d2),(wS.heap.size,2,.string ⟨#[97,49]⟩),(wS.heap.size,3,.string ⟨#[]⟩),(wS.heap.size,4,.slice none 0 0),(wS.heap.size,5,.int .i64 0),(wS.heap.size,6,.int .i64 y2)]) 7 (by kernel_rfl) (by rw[hz9];exact (Sc.mk (by simp only[cs_iff_cons];exact⟨(hO.out.below hZ.out).c 1 _ rfl,hbP.out.c 0 _ rfl,hbP.out.c 1 _ rfl,hbP.out.c 2 _ rfl,hbP.out.c 3 _ rfl,hbP.out.c 4 _ rfl,hbP.out.c 5 _ rfl,hbP.out.c 6 _ rfl,cs_nil _⟩))) (fun hHeld=>?_)
  rw[hz9] at hHeld ⊢
  clear hz9
  refine tkZx 0 54 ?_
  refine tkZx 1 55 ?_
  refine tkZx 2 56 ?_
  have hszz:=hZ.out.size
  refine ratZ 3 (by decide +kernel) rfl (fun K hK=>?_)
  rw[if_pos (by kernel_rfl)]
  go_simp
  refine (copied_ren d2 y2 _).mono ?_
  rintro e9 z2 ⟨rfl,hbn⟩
  refine hK.out _ _ (hHeld.below hbn) (fun hH2=>?_)
  replace hZ:=Lib.hid (below_step hZ.out hbn)
  replace hbP:=Lib.hid (hbP.out.below hbn)
  clear hK K hHeld hbn
  have hHeld:=hH2
  clear hH2
  (try simp only[apS,apN,siA,scZ,scS])
  refine ratZ 4 (by decide +kernel) rfl (fun K hK=>?_)
  rw[if_pos (by kernel_rfl)]
  go_simp
  refine hK.out _ _ (hHeld.below (below_alloc _ _)) (fun hH2=>?_)
  clear hK K hHeld
  have hHeld:=hH2
  clear hH2
  (try simp only[apS,apN,siA,scZ,scS])
  have hba:=below_alloc z2 (.cells #[.int .i64 3,.int .i64 d2,.string ⟨#[97,49]⟩,.string ⟨#[]⟩,.slice none 0 0,.int .i64 0,.int .i64 y2] 38)
  have hZ3:=below_step hZ.out hba
  have hbP3:=hbP.out.below hba
  have hO3:=hO.out.below hZ3
  have hsz3:=hZ3.size
  refine ratZ 5 (by decide +kernel) rfl (fun K hK=>?_)
  refine step_append_rows elemDd (by rfl) (.tmp 55) (.tmp 58) (by rfl) (by rfl) (by rfl) ((hor1.out.below hZ.out).below (below_alloc _ _)) (rowsAt_new z2 [.int .i64 3,.int .i64 d2,.string ⟨#[97,49]⟩,.string ⟨#[]⟩,.slice none 0 0,.int .i64 0,.int .i64 y2] 38) rfl (fun r hr=>by rw[List.mem_singleton.1 hr];rfl) (fun r hr u hu=>by rw[List.mem_singleton.1 hr] at hu;simp at hu;rcases hu with rfl | rfl | rfl | rfl | rfl | rfl | rfl <;> rfl) (by simp) (by decide) (by first | (simp;done) | omega) ?_
  intro rv z4 hor hgr _
  have hne1:some w4.heap.size≠Value.ownBlock (.slice RA 1 ra):=fun e=>by have:=(hcb1.out _ e.symm).1;omega
  have hne2:some wS.heap.size≠Value.ownBlock (.slice RA 1 ra):=fun e=>by have:=(hcb1.out _ e.symm).2;omega
  have hszB:Hid (w4.heap.size<B1):=by exact hB1a
  have hpB6a:=rows_far (hpB5.out.below hZ3) hgr (fun a e e2=>by have:=(hPBu.out a e).2;have:=(hcb1.out _ e2.symm).1;omega)
  have hb6a:=(below_step hb2.out hZ3).grown hgr (below_step hb2.out hZ3).size (fun g e=>by have:=(hcb1.out _ e).1;omega)
  have hO4:=hO3.grown hgr hne1
  have hbP4:=hbP3.grown hgr hne2
  refine hK.out _ _ (Sc.mk (by simp only[cs_iff_cons];exact⟨hO4.c 1 _ rfl,hbP4.c 0 _ rfl,hbP4.c 1 _ rfl,hbP4.c 2 _ rfl,hbP4.c 3 _ rfl,hbP4.c 4 _ rfl,hbP4.c 5 _ rfl,hbP4.c 6 _ rfl,cs_nil _⟩)) (fun hH2=>?_)
  clear hK K hHeld
  have hHeld:=hH2
  clear hH2
  (try simp only[apS,apN,siA,scZ,scS])
  obtain⟨RA,ra,hrv,_⟩:=OwnL.form hor
  have hrv2:rv=.slice RA 2 ra:=hrv
  subst hrv2
  refine tkZx 6 60 ?_
  have y0:=hO4.c 1 _ rfl;have y1:=hO4.free 1 (by simp)
  have hO5:Hid (BoxAt (z4.setCell ⟨w4.heap.size,1,none⟩ (.slice RA 2 ra)) w4.heap.size [.slice none 0 0,.slice RA 2 ra]):=hO4.set 1 _ (by simp)
  have hor5:=Lib.hid (hor.offF (B':=w4.heap.size) 1 (.slice RA 2 ra) (by have:=hszB.out;omega))
  have hg5:=grown_set z4 w4.heap.size 1 (.slice RA 2 ra)
  have hsz4:=hgr.size
  have hpB6:=Lib.hid (rows_far hpB6a hg5 (fun a e e2=>by have:=hPBu.out a e;have:=Option.some.inj e2;omega))
  have hb5:=Lib.hid (hb6a.setCell (p:=⟨w4.heap.size,1,none⟩) (by show X.heap.size≤w4.heap.size;exact hXw4) (.slice RA 2 ra))
  clear hpB6a hb6a hpB5
  clear hO4 hbP4 hO3 hbP3 hor hrv hgr hg5 hba hZ3 hZ hbP hO hb hne1 hne2 hDl
  refine ratZc 7 (by decide +kernel) rfl (by decide +kernel) (fun K hK=>?_)
  rw[if_pos (by kernel_rfl)]
  go_simp
  refine hK.out _ _ ?_
  clear hK K
  (try simp only[apS,apN,siA,scZ,scS])
  refine wpAnyHY_done (by decide +kernel) ?_ _
  clear y0 y1 hHeld
  have ho:=hOz.out _ hb5.out
  obtain⟨o0,o1⟩:=hO5.out.c2
  go_wp2
  unfold unroll
  go_wp2_with (refine wpList_store_box rfl 28 (.tmp 4) (.tmp 62) rfl (w.heap.size+1+1) _ [.slice none 0 0,.slice RA 2 ra] (by rfl) (by rfl) ho rfl riSize5 (by kernel_rfl) ?_;intro w6 h6 hg6;clear ho o0 o1)
  have hRAb:=fun a (e:RA=some a)=>(hor5.out.lt a.block (by rw[e];rfl)).1
  refine bodyPost_ret (results_mid2 rfl _ _ (w.heap.size+1+1) [.slice none 0 0,.slice RA 2 ra] _ rfl h6.range Tryz.underlying28 rfl riSize5) rfl ⟨RA,ra,PB,pb,rfl,?_,?_,?_⟩
  ·exact rows_far (ownRows hor5.out) hg6 (fun a e e2=>by have:=hRAb a e;have:=Option.some.inj e2;omega)
  ·exact rows_far hpB6.out hg6 (fun a e e2=>by have:=hPBu.out a e;have:=Option.some.inj e2;omega)
  exact (below_step hwX.out hb5.out).grown hg6 (below_step hwX.out hb5.out).size (fun g e=>by have:=Option.some.inj e;omega)
 (rw[if_pos (by kernel_rfl)];go_simp)
 refine hK.out _ _ (hHeld.step (below_alloc _ _)) (fun hHeld2=>?_)
 clear hK K hHeld
 (try simp only[apS,apN,siA,scZ,scS])
 have hba:=below_alloc y (.cells #[.int .i64 3,.int .i64 d2,.string ⟨#[97,49]⟩,.string ⟨#[]⟩,.slice none 0 0,.int .i64 0,.int .i64 y2] 38)
 (refine ratHx 2 (fun K hK=>?_);go_simp)
 refine (CloneDeeds_some ⟨rb0,ro0,none⟩ rc0 [.int .i64 0,.int .i64 dy,.string ⟨#[97,49]⟩,.string ⟨#[]⟩,.slice PA 1 pc,.int .i64 2,.int .i64 yr] _ (hrz0.out _ (below_step hwX.out (below_step hb2.out hba))) rfl (fun u hu=>by simp at hu;rcases hu with rfl | rfl | rfl | rfl | rfl | rfl | rfl <;> rfl)).mono ?_
 rintro e9 y3 ⟨cv,rfl,hoc,hbn⟩
 obtain⟨CV,cvc,hcv,_⟩:=OwnL.form hoc
 have hcv2:cv=.slice CV 1 cvc:=hcv
 subst hcv2
 refine hK.out _ _ (hHeld2.step hbn) (fun hHeld3=>?_)
 clear hK K hHeld2
 (try simp only[apS,apN,siA,scZ,scS])
 have hcb:∀ g,Value.ownBlock (.slice CV 1 cvc)=some g→w4.heap.size+1≤g:=fun g e=>by have:=(hoc.lt g e).1;simp at this;omega
 have hOW:=(hO.out.below hba).below hbn
 have hbW:=below_step (below_step hb2.out hba) hbn
 have hsW:w4.heap.size+1≤y3.heap.size:=by have:=hOW.lt;omega
 have hocW:=hoc.less (show w4.heap.size+1≤(y.alloc (.cells #[.int .i64 3,.int .i64 d2,.string ⟨#[97,49]⟩,.string ⟨#[]⟩,.slice none 0 0,.int .i64 0,.int .i64 y2] 38)).heap.size by simp;omega)
 (refine wpAnyH_ready (rs:=[5]) (by decide +kernel) (by simp) ?_;refine AllReadyH.cons rfl (fun K hK=>?_) AllReadyH.nil)
 refine step_append_rows elemDd (by rfl) (.tmp 45) (.tmp 47) (by rfl) (by rfl) (by rfl) hocW ((rowsAt_new y [.int .i64 3,.int .i64 d2,.string ⟨#[97,49]⟩,.string ⟨#[]⟩,.slice none 0 0,.int .i64 0,.int .i64 y2] 38).below hbn) rfl (fun r hr=>by rw[List.mem_singleton.1 hr];rfl) (fun r hr u hu=>by rw[List.mem_singleton.1 hr] at hu;simp at hu;rcases hu with rfl | rfl | rfl | rfl | rfl | rfl | rfl <;> rfl) (by simp) (by decide) (by have:=hsW;omega) ?_
 intro dv wL hod hgd _
 have hOL:=hOW.grown hgd (fun e=>by have:=hcb _ e.symm;omega)
 have hb2L:=hbW.grown hgd hbW.size (fun g e=>by have:=hcb _ e;omega)
 have hdb:∀ g,Value.ownBlock dv=some g→w4.heap.size+1≤g∧g<wL.heap.size:=fun g e=>⟨(hod.lt g e).1,(hod.lt g e).2⟩
 obtain⟨DA,dc,hdv,hDr⟩:=OwnL.form hod
 have hdv2:dv=.slice DA 2 dc:=hdv
 subst hdv2
 have hDb:=Lib.hid (fun a (e:DA=some a)=>hdb a.block (by rw[e];rfl))
 have hDl:Hid (RowsAt wL DA 7 [[.int .i64 0,.int .i64 dy,.string ⟨#[97,49]⟩,.string ⟨#[]⟩,.slice PA 1 pc,.int .i64 2,.int .i64 yr],[.int .i64 3,.int .i64 d2,.string ⟨#[97,49]⟩,.string ⟨#[]⟩,.slice none 0 0,.int .i64 0,.int .i64 y2]]):=hDr
 refine hK.out _ _ (hSX.out.step hb2L) (fun hHeld4=>?_)
 replace hb2:=Lib.hid hb2L
 have hO:=Lib.hid hOL
 clear hK K hHeld3 hod hgd hdv hdb hOW hbW hsW hcb hOL hb2L
 (try simp only[apS,apN,siA,scZ,scS])
 refine tkHx 6 49 ?_
 refine wpAnyH_done (by kernel_rfl) ?_ _
 clear hHeld4 hSX
 obtain⟨wS,hwS⟩:∃ wS,wS=wL:=⟨_,rfl⟩
 subst hwS
 have hszL:w4.heap.size<wS.heap.size:=hO.out.lt
 have hb:=Lib.hid (Below.refl wS.heap.size wS)
 have hXw4:X.heap.size≤w4.heap.size:=hXw
 go_wp2
 refine wp_unroll 3 ?_
 unfold unroll
 obtain⟨db,dof,hDA,_,hdc⟩:=hDl.out 0 _ rfl
 cases hDA
 have m0:=hdc 0 _ rfl
 have m1:=hdc 1 _ rfl
 have m2:=hdc 2 _ rfl
 have m3:=hdc 3 _ rfl
 have m4:=hdc 4 _ rfl
 have m5:=hdc 5 _ rfl
 have m6:=hdc 6 _ rfl
 change wS.cell? ⟨db,dof,none⟩=_ at m0
 change wS.cell? ⟨db,dof+1,none⟩=_ at m1
 change wS.cell? ⟨db,dof+2,none⟩=_ at m2
 change wS.cell? ⟨db,dof+3,none⟩=_ at m3
 change wS.cell? ⟨db,dof+4,none⟩=_ at m4
 change wS.cell? ⟨db,dof+5,none⟩=_ at m5
 change wS.cell? ⟨db,dof+6,none⟩=_ at m6
 have hbP:=BoxAt.new wS #[.int .i64 0,.int .i64 dy,.string ⟨#[97,49]⟩,.string ⟨#[]⟩,.slice PA 1 pc,.int .i64 2,.int .i64 yr] 38
 have hZ:=below_alloc wS (.cells #[.int .i64 0,.int .i64 dy,.string ⟨#[97,49]⟩,.string ⟨#[]⟩,.slice PA 1 pc,.int .i64 2,.int .i64 yr] 38)
 have hszS:=hO.out.lt
 clear hdc
 go_upto_region 14 with fail
 clear m0 m1 m2 m3 m4 m5 m6
 obtain⟨z,hz9⟩:∃ z,(wS.alloc (.cells #[.int .i64 0,.int .i64 dy,.string ⟨#[97,49]⟩,.string ⟨#[]⟩,.slice PA 1 pc,.int .i64 2,.int .i64 yr] 38)).drew=z:=⟨_,rfl⟩
 replace hbP:=Lib.hid (hbP.below (Below.refl _ _).drew)
 replace hZ:=Lib.hid (below_step hZ (Below.refl _ _).drew)
 rw[hz9] at hbP hZ
 refine wp_region_heldZ (S:=Sc [(w4.heap.size,1,.slice none 0 0),(wS.heap.size,0,.int .i64 0),(wS.heap.size,1,.int .i64 dy),(wS.heap.size,2,.string ⟨#[97,49]⟩),(wS.heap.size,3,.string ⟨#[]⟩),(wS.heap.size,4,.slice PA 1 pc),(wS.heap.size,5,.int .i64 2),(wS.heap.size,6,.int .i64 yr)]) 7 (by kernel_rfl) (by rw[hz9];exact (Sc.mk (by simp only[cs_iff_cons];exact⟨(hO.out.below hZ.out).c 1 _ rfl,hbP.out.c 0 _ rfl,hbP.out.c 1 _ rfl,hbP.out.c 2 _ rfl,hbP.out.c 3 _ rfl,hbP.out.c 4 _ rfl,hbP.out.c 5 _ rfl,hbP.out.c 6 _ rfl,cs_nil _⟩))) (fun hHeld=>?_)
 rw[hz9] at hHeld ⊢
 clear hz9
 refine tkZx 0 54 ?_
 refine tkZx 1 55 ?_
 refine tkZx 2 56 ?_
 have hszz:=hZ.out.size
 refine ratZ 3 (by decide +kernel) rfl (fun K hK=>?_)
 rw[if_pos (by kernel_rfl)]
 go_simp
 refine (copied_grant PA pc dy yr _ (hpz.out _ (below_step hwX.out (below_step hb2.out hZ.out)))).mono ?_
 rintro e9 z2 ⟨PB,pb,rfl,hpB,hbn,hpBl⟩
 refine hK.out _ _ (hHeld.below hbn) (fun hH2=>?_)
 replace hZ:=Lib.hid (below_step hZ.out hbn)
 replace hbP:=Lib.hid (hbP.out.below hbn)
 clear hK K hHeld hbn
 have hHeld:=hH2
 clear hH2
 (try simp only[apS,apN,siA,scZ,scS])
 refine ratZ 4 (by decide +kernel) rfl (fun K hK=>?_)
 rw[if_pos (by kernel_rfl)]
 go_simp
 refine hK.out _ _ (hHeld.below (below_alloc _ _)) (fun hH2=>?_)
 clear hK K hHeld
 have hHeld:=hH2
 clear hH2
 (try simp only[apS,apN,siA,scZ,scS])
 have hba:=below_alloc z2 (.cells #[.int .i64 0,.int .i64 dy,.string ⟨#[97,49]⟩,.string ⟨#[]⟩,.slice PB 1 pb,.int .i64 2,.int .i64 yr] 38)
 have hZ3:=below_step hZ.out hba
 have hbP3:=hbP.out.below hba
 have hO3:=hO.out.below hZ3
 have hsz3:=hZ3.size
 refine ratZ 5 (by decide +kernel) rfl (fun K hK=>?_)
 refine step_append_rows elemDd (by rfl) (.tmp 55) (.tmp 58) (by rfl) (by rfl) (by rfl) (OwnL.nil _ (z2.alloc (.cells #[.int .i64 0,.int .i64 dy,.string ⟨#[97,49]⟩,.string ⟨#[]⟩,.slice PB 1 pb,.int .i64 2,.int .i64 yr] 38)).heap.size 38 7) (rowsAt_new z2 [.int .i64 0,.int .i64 dy,.string ⟨#[97,49]⟩,.string ⟨#[]⟩,.slice PB 1 pb,.int .i64 2,.int .i64 yr] 38) rfl (fun r hr=>by rw[List.mem_singleton.1 hr];rfl) (fun r hr u hu=>by rw[List.mem_singleton.1 hr] at hu;simp at hu;rcases hu with rfl | rfl | rfl | rfl | rfl | rfl | rfl <;> rfl) (by simp) (by decide) (by first | (simp;done) | omega) ?_
 intro rv z4 hor hgr _
 have hgr:(z2.alloc (.cells #[.int .i64 0,.int .i64 dy,.string ⟨#[97,49]⟩,.string ⟨#[]⟩,.slice PB 1 pb,.int .i64 2,.int .i64 yr] 38)).grownBy z4 none:=hgr
 have hne1:some w4.heap.size≠none:=by simp
 have hne2:some wS.heap.size≠none:=by simp
 have hszB:=Lib.hid hO3.lt
 have hO4:=hO3.grown hgr hne1
 have hbP4:=hbP3.grown hgr hne2
 refine hK.out _ _ (Sc.mk (by simp only[cs_iff_cons];exact⟨hO4.c 1 _ rfl,hbP4.c 0 _ rfl,hbP4.c 1 _ rfl,hbP4.c 2 _ rfl,hbP4.c 3 _ rfl,hbP4.c 4 _ rfl,hbP4.c 5 _ rfl,hbP4.c 6 _ rfl,cs_nil _⟩)) (fun hH2=>?_)
 clear hK K hHeld
 have hHeld:=hH2
 clear hH2
 (try simp only[apS,apN,siA,scZ,scS])
 obtain⟨RA,ra,hrv,_⟩:=OwnL.form hor
 have hrv2:rv=.slice RA 1 ra:=hrv
 subst hrv2
 refine tkZx 6 60 ?_
 have y0:=hO4.c 1 _ rfl;have y1:=hO4.free 1 (by simp)
 have hO5:Hid (BoxAt (z4.setCell ⟨w4.heap.size,1,none⟩ (.slice RA 1 ra)) w4.heap.size [.slice none 0 0,.slice RA 1 ra]):=hO4.set 1 _ (by simp)
 have hor5:=Lib.hid (hor.offF (B':=w4.heap.size) 1 (.slice RA 1 ra) (by have:=hszB.out;omega))
 have hg5:=grown_set z4 w4.heap.size 1 (.slice RA 1 ra)
 have hsz4:=hgr.size
 have hPBu:=Lib.hid (fun a (e:PB=some a)=>(show w4.heap.size+1≤a.block∧a.block<(z2.alloc (.cells #[.int .i64 0,.int .i64 dy,.string ⟨#[97,49]⟩,.string ⟨#[]⟩,.slice PB 1 pb,.int .i64 2,.int .i64 yr] 38)).heap.size by
  have h8:=hpBl a e
  obtain⟨b8,o8,hA8,hbl8,_⟩:=pa_at hpB
  rw[e] at hA8
  cases hA8
  refine⟨by omega,?_⟩
  simp
  omega))
 have hpB5:=Lib.hid (rows_far (rows_far (hpB.below hba) hgr (fun a e=>by simp)) hg5 (fun a e e2=>by have:=hPBu.out a e;have:=Option.some.inj e2;omega))
 have hb5:=Lib.hid (((below_step hb2.out hZ3).grown hgr (below_step hb2.out hZ3).size (fun g e=>by cases e)).setCell (p:=⟨w4.heap.size,1,none⟩) (by show X.heap.size≤w4.heap.size;exact hXw4) (.slice RA 1 ra))
 have hDl5:=Lib.hid (rows_far (rows_far (hDl.out.below hZ3) hgr (fun a e=>by simp)) hg5 (fun a e e2=>by cases e;have:=hDb.out _ rfl;have:=Option.some.inj e2;simp at *;omega))
 obtain⟨B1,hB1⟩:∃ B1,B1=(z2.alloc (.cells #[.int .i64 0,.int .i64 dy,.string ⟨#[97,49]⟩,.string ⟨#[]⟩,.slice PB 1 pb,.int .i64 2,.int .i64 yr] 38)).heap.size:=⟨_,rfl⟩
 have hB1a:w4.heap.size+1≤B1:=by have:=hO3.lt;omega
 have hB1b:B1≤z4.heap.size:=by omega
 rw[←hB1] at hor5 hPBu
 clear hpB hpBl hB1
 clear hO4 hbP4 hO3 hbP3 hor hrv hgr hg5 hba hZ3 hZ hbP hO hb hne1 hne2 hDl
 refine ratZc 7 (by decide +kernel) rfl (by decide +kernel) (fun K hK=>?_)
 rw[if_pos (by kernel_rfl)]
 go_simp
 refine hK.out _ _ ?_
 clear hK K
 (try simp only[apS,apN,siA,scZ,scS])
 refine wpAnyHY_done (by decide +kernel) ?_ _
 clear y0 y1 hHeld
 obtain⟨wS,hwT⟩:∃ wS,z4.setCell ⟨w4.heap.size,1,none⟩ (.slice RA 1 ra)=wS:=⟨_,rfl⟩
 have hB1w:B1≤wS.heap.size:=by rw[←hwT];simpa using hB1b
 rw[hwT] at hO5 hor5 hpB5 hb5 hDl5 ⊢
 have hO:=hO5
 have hDl:=hDl5
 have hb2:=hb5
 have hor1:=hor5
 clear hO5 hDl5 hb5 hor5 hwT hszS hszz hsz3 hsz4 hB1b hszB
 have hb:=Lib.hid (Below.refl wS.heap.size wS)
 have hcb1:=Lib.hid (fun g (e:Value.ownBlock (.slice RA 1 ra)=some g)=>hor1.out.lt g e)
 go_wp2
 unfold unroll
 obtain⟨db,dof,hDA,_,hdc⟩:=hDl.out 1 _ rfl
 cases hDA
 have m0:=hdc 0 _ rfl
 have m1:=hdc 1 _ rfl
 have m2:=hdc 2 _ rfl
 have m3:=hdc 3 _ rfl
 have m4:=hdc 4 _ rfl
 have m5:=hdc 5 _ rfl
 have m6:=hdc 6 _ rfl
 change wS.cell? ⟨db,dof+7,none⟩=_ at m0
 change wS.cell? ⟨db,dof+7+1,none⟩=_ at m1
 change wS.cell? ⟨db,dof+7+2,none⟩=_ at m2
 change wS.cell? ⟨db,dof+7+3,none⟩=_ at m3
 change wS.cell? ⟨db,dof+7+4,none⟩=_ at m4
 change wS.cell? ⟨db,dof+7+5,none⟩=_ at m5
 change wS.cell? ⟨db,dof+7+6,none⟩=_ at m6
 have hbP:=BoxAt.new wS #[.int .i64 3,.int .i64 d2,.string ⟨#[97,49]⟩,.string ⟨#[]⟩,.slice none 0 0,.int .i64 0,.int .i64 y2] 38
 have hZ:=below_alloc wS (.cells #[.int .i64 3,.int .i64 d2,.string ⟨#[97,49]⟩,.string ⟨#[]⟩,.slice none 0 0,.int .i64 0,.int .i64 y2] 38)
 have hszS:=hO.out.lt
 clear hdc
 go_upto_region 14 with fail
 clear m0 m1 m2 m3 m4 m5 m6
 obtain⟨z,hz9⟩:∃ z,(wS.alloc (.cells #[.int .i64 3,.int .i64 d2,.string ⟨#[97,49]⟩,.string ⟨#[]⟩,.slice none 0 0,.int .i64 0,.int .i64 y2] 38)).drew=z:=⟨_,rfl⟩
 replace hbP:=Lib.hid (hbP.below (Below.refl _ _).drew)
 replace hZ:=Lib.hid (below_step hZ (Below.refl _ _).drew)
 rw[hz9] at hbP hZ
 refine wp_region_heldZ (S:=Sc [(w4.heap.size,1,.slice RA 1 ra),(wS.heap.size,0,.int .i64 3),(wS.heap.size,1,.int .i64 d2),(wS.heap.size,2,.string ⟨#[97,49]⟩),(wS.heap.size,3,.string ⟨#[]⟩),(wS.heap.size,4,.slice none 0 0),(wS.heap.size,5,.int .i64 0),(wS.heap.size,6,.int .i64 y2)]) 7 (by kernel_rfl) (by rw[hz9];exact (Sc.mk (by simp only[cs_iff_cons];exact⟨(hO.out.below hZ.out).c 1 _ rfl,hbP.out.c 0 _ rfl,hbP.out.c 1 _ rfl,hbP.out.c 2 _ rfl,hbP.out.c 3 _ rfl,hbP.out.c 4 _ rfl,hbP.out.c 5 _ rfl,hbP.out.c 6 _ rfl,cs_nil _⟩))) (fun hHeld=>?_)
 rw[hz9] at hHeld ⊢
 clear hz9
 refine tkZx 0 54 ?_
 refine tkZx 1 55 ?_
 refine tkZx 2 56 ?_
 have hszz:=hZ.out.size
 refine ratZ 3 (by decide +kernel) rfl (fun K hK=>?_)
 rw[if_pos (by kernel_rfl)]
 go_simp
 refine (copied_ren d2 y2 _).mono ?_
 rintro e9 z2 ⟨rfl,hbn⟩
 refine hK.out _ _ (hHeld.below hbn) (fun hH2=>?_)
 replace hZ:=Lib.hid (below_step hZ.out hbn)
 replace hbP:=Lib.hid (hbP.out.below hbn)
 clear hK K hHeld hbn
 have hHeld:=hH2
 clear hH2
 (try simp only[apS,apN,siA,scZ,scS])
 refine ratZ 4 (by decide +kernel) rfl (fun K hK=>?_)
 rw[if_pos (by kernel_rfl)]
 go_simp
 refine hK.out _ _ (hHeld.below (below_alloc _ _)) (fun hH2=>?_)
 clear hK K hHeld
 have hHeld:=hH2
 clear hH2
 (try simp only[apS,apN,siA,scZ,scS])
 have hba:=below_alloc z2 (.cells #[.int .i64 3,.int .i64 d2,.string ⟨#[97,49]⟩,.string ⟨#[]⟩,.slice none 0 0,.int .i64 0,.int .i64 y2] 38)
 have hZ3:=below_step hZ.out hba
 have hbP3:=hbP.out.below hba
 have hO3:=hO.out.below hZ3
 have hsz3:=hZ3.size
 refine ratZ 5 (by decide +kernel) rfl (fun K hK=>?_)
 refine step_append_rows elemDd (by rfl) (.tmp 55) (.tmp 58) (by rfl) (by rfl) (by rfl) ((hor1.out.below hZ.out).below (below_alloc _ _)) (rowsAt_new z2 [.int .i64 3,.int .i64 d2,.string ⟨#[97,49]⟩,.string ⟨#[]⟩,.slice none 0 0,.int .i64 0,.int .i64 y2] 38) rfl (fun r hr=>by rw[List.mem_singleton.1 hr];rfl) (fun r hr u hu=>by rw[List.mem_singleton.1 hr] at hu;simp at hu;rcases hu with rfl | rfl | rfl | rfl | rfl | rfl | rfl <;> rfl) (by simp) (by decide) (by first | (simp;done) | omega) ?_
 intro rv z4 hor hgr _
 have hne1:some w4.heap.size≠Value.ownBlock (.slice RA 1 ra):=fun e=>by have:=(hcb1.out _ e.symm).1;omega
 have hne2:some wS.heap.size≠Value.ownBlock (.slice RA 1 ra):=fun e=>by have:=(hcb1.out _ e.symm).2;omega
 have hszB:Hid (w4.heap.size<B1):=by exact hB1a
 have hpB6a:=rows_far (hpB5.out.below hZ3) hgr (fun a e e2=>by have:=(hPBu.out a e).2;have:=(hcb1.out _ e2.symm).1;omega)
 have hb6a:=(below_step hb2.out hZ3).grown hgr (below_step hb2.out hZ3).size (fun g e=>by have:=(hcb1.out _ e).1;omega)
 have hO4:=hO3.grown hgr hne1
 have hbP4:=hbP3.grown hgr hne2
 refine hK.out _ _ (Sc.mk (by simp only[cs_iff_cons];exact⟨hO4.c 1 _ rfl,hbP4.c 0 _ rfl,hbP4.c 1 _ rfl,hbP4.c 2 _ rfl,hbP4.c 3 _ rfl,hbP4.c 4 _ rfl,hbP4.c 5 _ rfl,hbP4.c 6 _ rfl,cs_nil _⟩)) (fun hH2=>?_)
 clear hK K hHeld
 have hHeld:=hH2
 clear hH2
 (try simp only[apS,apN,siA,scZ,scS])
 obtain⟨RA,ra,hrv,_⟩:=OwnL.form hor
 have hrv2:rv=.slice RA 2 ra:=hrv
 subst hrv2
 refine tkZx 6 60 ?_
 have y0:=hO4.c 1 _ rfl;have y1:=hO4.free 1 (by simp)
 have hO5:Hid (BoxAt (z4.setCell ⟨w4.heap.size,1,none⟩ (.slice RA 2 ra)) w4.heap.size [.slice none 0 0,.slice RA 2 ra]):=hO4.set 1 _ (by simp)
 have hor5:=Lib.hid (hor.offF (B':=w4.heap.size) 1 (.slice RA 2 ra) (by have:=hszB.out;omega))
 have hg5:=grown_set z4 w4.heap.size 1 (.slice RA 2 ra)
 have hsz4:=hgr.size
 have hpB6:=Lib.hid (rows_far hpB6a hg5 (fun a e e2=>by have:=hPBu.out a e;have:=Option.some.inj e2;omega))
 have hb5:=Lib.hid (hb6a.setCell (p:=⟨w4.heap.size,1,none⟩) (by show X.heap.size≤w4.heap.size;exact hXw4) (.slice RA 2 ra))
 clear hpB6a hb6a hpB5
 clear hO4 hbP4 hO3 hbP3 hor hrv hgr hg5 hba hZ3 hZ hbP hO hb hne1 hne2 hDl
 refine ratZc 7 (by decide +kernel) rfl (by decide +kernel) (fun K hK=>?_)
 rw[if_pos (by kernel_rfl)]
 go_simp
 refine hK.out _ _ ?_
 clear hK K
 (try simp only[apS,apN,siA,scZ,scS])
 refine wpAnyHY_done (by decide +kernel) ?_ _
 clear y0 y1 hHeld
 have ho:=hOz.out _ hb5.out
 obtain⟨o0,o1⟩:=hO5.out.c2
 go_wp2
 unfold unroll
 go_wp2_with (refine wpList_store_box rfl 28 (.tmp 4) (.tmp 62) rfl (w.heap.size+1+1) _ [.slice none 0 0,.slice RA 2 ra] (by rfl) (by rfl) ho rfl riSize5 (by kernel_rfl) ?_;intro w6 h6 hg6;clear ho o0 o1)
 have hRAb:=fun a (e:RA=some a)=>(hor5.out.lt a.block (by rw[e];rfl)).1
 refine bodyPost_ret (results_mid2 rfl _ _ (w.heap.size+1+1) [.slice none 0 0,.slice RA 2 ra] _ rfl h6.range Tryz.underlying28 rfl riSize5) rfl ⟨RA,ra,PB,pb,rfl,?_,?_,?_⟩
 ·exact rows_far (ownRows hor5.out) hg6 (fun a e e2=>by have:=hRAb a e;have:=Option.some.inj e2;omega)
 ·exact rows_far hpB6.out hg6 (fun a e e2=>by have:=hPBu.out a e;have:=Option.some.inj e2;omega)
 exact (below_step hwX.out hb5.out).grown hg6 (below_step hwX.out hb5.out).size (fun g e=>by have:=Option.some.inj e;omega)
end Go.Proofs.YtcnfhnndppollaaGreatDoor
namespace Go.Proofs.YtcnfhnndppollaaGreatDoor
open Go Go.RowKit Go.Maps Go.WideMaps
theorem ref5IsDay (n:Int) (w:World):Calls Tryz.prog 5 #[.int .i64 n] w fun e w'=>e=.returned (.bool (decide (0≤n) && decide (n≤200000)))∧w=w':=by
 by_cases h1:0≤n
 ·by_cases h2:n≤200000
  all_goals
   go_enter Tryz.func5,Tryz.ntmps5
   go_wp2_with (((first | (go_at_call 20) | (go_at_call 6) | (go_at_call 19) | (fail) | (fail) | (fail) | (fail));first | refine rin ?_ | refine rout ?_ | refine rany ?_))
   go_ret
   exact⟨by simp[h1,h2],rfl⟩
 go_enter Tryz.func5,Tryz.ntmps5
 go_wp2_with (((first | (go_at_call 20) | (go_at_call 6) | (go_at_call 19) | (fail) | (fail) | (fail) | (fail));first | refine rin ?_ | refine rout ?_ | refine rany ?_))
 go_ret
 exact⟨by simp;omega,rfl⟩
theorem bWithin (n a b:Int) (w:World):Calls Tryz.prog 6 #[.int .i64 n,.int .i64 a,.int .i64 b] w fun e w'=>e=.returned (.bool (decide (a≤n) && decide (n≤b)))∧w=w':=by
 by_cases h1:a≤n
 ·by_cases h2:n≤b
  all_goals
   go_enter Tryz.func6,Tryz.ntmps6
   go_wp2
   go_ret
   exact⟨by simp[h1,h2],rfl⟩
 go_enter Tryz.func6,Tryz.ntmps6
 go_wp2
 go_ret
 exact⟨by simp;omega,rfl⟩
theorem addS_bad {d n:Int} (h:(Cal.addS d n).2≠0):Cal.addS d n=(0,2):=by
 unfold Cal.addS at h ⊢
 split
 ·rename_i h1
  rw[if_pos h1] at h
  exact absurd rfl h
 rfl
theorem dec_and_no {a b:Prop} [Decidable a] [Decidable b] (h:¬(a∧b)):(decide a && decide b)=false:=by
 rw[Bool.and_eq_false_iff]
 by_cases ha:a
 ·right;simpa using fun hb=>h ⟨ha,hb⟩
 left;simpa using ha
theorem dec_and_yes {a b:Prop} [Decidable a] [Decidable b] (h:a∧b):(decide a && decide b)=true:=by simp[h.1,h.2]
theorem TermsEnd_no1 (day years more:Int) (w:World) (hF:FTab w) (hT:Tab w) (h:¬(0≤day∧day≤200000)) :
  Calls Tryz.prog 3 #[.int .i64 day,.int .i64 years,.int .i64 more] w fun e w'=>e=.returned (.bool true)∧Below w.heap.size w w':=by
 have hFz:=Lib.hid (fun W (hb9:Below w.heap.size w W)=>hF.below hb9)
 have hTz:=Lib.hid (fun W (hb9:Below w.heap.size w W)=>hT.below hb9)
 have hinh:=Lib.hid (inherits_any w hF hT)
 clear hF hT
 have d1:=fun W=>ref5IsDay day W
 rw[dec_and_no h] at d1
 replace d1:=Lib.hid d1
 clear h
 go_enter Tryz.func3,Tryz.ntmps3
 go_wp2_with (first
  |(go_at_call 4;refine hinh.out.mono ?_;rintro e9 w1 ⟨rfl,hb1⟩;replace hb1:=Lib.hid hb1)
  |(go_at_call 5;refine (d1.out _).mono ?_;rintro e9 w9 ⟨rfl,rfl⟩))
 go_ret
 exact⟨rfl,hb1.out⟩
theorem TermsEnd_no2 (day years more:Int) (w:World) (hF:FTab w) (hT:Tab w) (h0:0≤day∧day≤200000) (h:¬(1≤years∧years≤99)) :
  Calls Tryz.prog 3 #[.int .i64 day,.int .i64 years,.int .i64 more] w fun e w'=>e=.returned (.bool true)∧Below w.heap.size w w':=by
 have hFz:=Lib.hid (fun W (hb9:Below w.heap.size w W)=>hF.below hb9)
 have hTz:=Lib.hid (fun W (hb9:Below w.heap.size w W)=>hT.below hb9)
 have hinh:=Lib.hid (inherits_any w hF hT)
 clear hF hT
 have d1:=fun W=>ref5IsDay day W
 rw[dec_and_yes h0] at d1
 replace d1:=Lib.hid d1
 have d2:=fun W=>bWithin years 1 99 W
 rw[dec_and_no h] at d2
 replace d2:=Lib.hid d2
 clear h h0
 go_enter Tryz.func3,Tryz.ntmps3
 go_wp2_with (first
  |(go_at_call 4;refine hinh.out.mono ?_;rintro e9 w1 ⟨rfl,hb1⟩;replace hb1:=Lib.hid hb1)
  |(go_at_call 5;refine (d1.out _).mono ?_;rintro e9 w9 ⟨rfl,rfl⟩)
  |(go_at_call 6;refine (d2.out _).mono ?_;rintro e9 w9 ⟨rfl,rfl⟩))
 go_ret
 exact⟨rfl,hb1.out⟩
theorem TermsEnd_no3 (day years more:Int) (w:World) (hF:FTab w) (hT:Tab w) (h0:0≤day∧day≤200000) (h1:1≤years∧years≤99) (h:¬(1≤more∧more≤99)) :
  Calls Tryz.prog 3 #[.int .i64 day,.int .i64 years,.int .i64 more] w fun e w'=>e=.returned (.bool true)∧Below w.heap.size w w':=by
 have hFz:=Lib.hid (fun W (hb9:Below w.heap.size w W)=>hF.below hb9)
 have hTz:=Lib.hid (fun W (hb9:Below w.heap.size w W)=>hT.below hb9)
 have hinh:=Lib.hid (inherits_any w hF hT)
 clear hF hT
 have d1:=fun W=>ref5IsDay day W
 rw[dec_and_yes h0] at d1
 replace d1:=Lib.hid d1
 have d2:=fun W=>bWithin years 1 99 W
 rw[dec_and_yes h1] at d2
 replace d2:=Lib.hid d2
 have d3:=fun W=>bWithin more 1 99 W
 rw[dec_and_no h] at d3
 replace d3:=Lib.hid d3
 clear h h0 h1
 obtain⟨B,hB⟩:∃ B:Nat,B=0:=⟨_,rfl⟩
 clear hB B
 go_enter Tryz.func3,Tryz.ntmps3
 go_wp2_with (first
  |(go_at_call 4;refine hinh.out.mono ?_;rintro e9 w1 ⟨rfl,hb1⟩;replace hb1:=Lib.hid hb1)
  |(go_at_call 5;refine (d1.out _).mono ?_;rintro e9 w9 ⟨rfl,rfl⟩)
  |(go_at_call 6;refine (d2.out _).mono ?_;clear d2;rintro e9 w9 ⟨rfl,rfl⟩)
  |(go_at_call 6;refine (d3.out _).mono ?_;rintro e9 w9 ⟨rfl,rfl⟩))
 go_ret
 exact⟨rfl,hb1.out⟩
end Go.Proofs.YtcnfhnndppollaaGreatDoor
namespace Go.Proofs.YtcnfhnndppollaaGreatDoor
open Go Go.RowKit Go.Maps Go.WideMaps
theorem TermsEnd_X (day years more:Int) (w:World) (hF:FTab w) (hT:Tab w) (h0:0≤day∧day≤200000) (h1:1≤years∧years≤99) (h2:1≤more∧more≤99) (hadd:(Cal.addS day (12*years)).2≠0) :
  Calls Tryz.prog 3 #[.int .i64 day,.int .i64 years,.int .i64 more] w fun e w'=>e=.returned (.bool true)∧Below w.heap.size w w':=by
 have hFz:=Lib.hid (fun W (hb9:Below w.heap.size w W)=>hF.below hb9)
 have hTz:=Lib.hid (fun W (hb9:Below w.heap.size w W)=>hT.below hb9)
 have hinh:=Lib.hid (inherits_any w hF hT)
 have d1:=fun W=>ref5IsDay day W
 rw[dec_and_yes h0] at d1
 replace d1:=Lib.hid d1
 have d2:=fun W=>bWithin years 1 99 W
 rw[dec_and_yes h1] at d2
 replace d2:=Lib.hid d2
 have d3:=fun W=>bWithin more 1 99 W
 rw[dec_and_yes h2] at d3
 replace d3:=Lib.hid d3
 have hw1:IntKind.i64.wrap (12*years)=12*years:=wrap_sm (by omega) (by omega)
 have hw2:IntKind.i64.wrap (12*more)=12*more:=wrap_sm (by omega) (by omega)
 clear hF hT
 have haz:=fun W (hb9:Below w.heap.size w W)=>AddMonths_any day (12*years) W (hTz.out W hb9)
 rw[addS_bad hadd] at haz
 replace haz:=Lib.hid haz
 replace hadd:=Lib.hid hadd
 go_enter Tryz.func3,Tryz.ntmps3
 go_wp2_with (first
  |(go_at_call 4;refine hinh.out.mono ?_;rintro e9 w1 ⟨rfl,hb⟩;have hpn:=Lib.hid (rowsAt_new w1 [.string ⟨#[97,110,110]⟩,.int .i64 1,.int .i64 1] 35);replace hb:=Lib.hid (below_step hb (below_alloc w1 (.cells #[.string ⟨#[97,110,110]⟩,.int .i64 1,.int .i64 1] 35)));clear hinh)
     |(go_at_call 5;refine (d1.out _).mono ?_;clear d1;rintro e9 w9 ⟨rfl,rfl⟩)
     |(go_at_call 6;refine (d2.out _).mono ?_;clear d2;rintro e9 w9 ⟨rfl,rfl⟩)
     |(go_at_call 6;refine (d3.out _).mono ?_;clear d3;rintro e9 w9 ⟨rfl,rfl⟩)
  |(go_at_call 7;refine (Next_grantX _ 1 day years _ (hFz.out _ hb.out) (hTz.out _ hb.out) hpn.out h0 h1 hadd.out).mono ?_;rintro e9 w2 ⟨rfl,hbn⟩;replace hb:=Lib.hid (below_step (below_step hb.out hbn) (below_alloc w2 (.cells #[.slice none 0 0,.slice none 0 0] 28)));clear hbn hpn)
  |(go_at_call 8;refine (haz.out _ hb.out).mono ?_;rintro e9 w4 ⟨rfl,hbn⟩;replace hb:=Lib.hid (below_step hb.out hbn);clear hbn))
 go_ret
 exact⟨rfl,hb.out⟩
end Go.Proofs.YtcnfhnndppollaaGreatDoor
namespace Go.Proofs.YtcnfhnndppollaaGreatDoor
open Go Go.RowKit Go.Maps Go.WideMaps
theorem date_neq (y:Int) (w:World):(binOp .neq 45 (.agg #[.int .i64 y,.int .i64 0,.int .i64 0]) (.agg #[.int .i64 y,.int .i64 0,.int .i64 0])).run Tryz.prog w=.ok (.bool false) w:=by
 have hu:(Tryz.prog).underlying 45=_:=Tryz.underlying45
 go_simp
 try simp
theorem TermsEnd_X2 (day years more en:Int) (w:World) (hF:FTab w) (hT:Tab w) (h0:0≤day∧day≤200000) (h1:1≤years∧years≤99) (h2:1≤more∧more≤99) (hadd:Cal.addS day (12*years)=(en,0)) (hadd2:(Cal.addS en (12*more)).2≠0) :
  Calls Tryz.prog 3 #[.int .i64 day,.int .i64 years,.int .i64 more] w fun e w'=>e=.returned (.bool true)∧Below w.heap.size w w':=by
 have hFz:=Lib.hid (fun W (hb9:Below w.heap.size w W)=>hF.below hb9)
 have hTz:=Lib.hid (fun W (hb9:Below w.heap.size w W)=>hT.below hb9)
 have hinh:=Lib.hid (inherits_any w hF hT)
 have d1:=fun W=>ref5IsDay day W
 rw[dec_and_yes h0] at d1
 replace d1:=Lib.hid d1
 have d2:=fun W=>bWithin years 1 99 W
 rw[dec_and_yes h1] at d2
 replace d2:=Lib.hid d2
 have d3:=fun W=>bWithin more 1 99 W
 rw[dec_and_yes h2] at d3
 replace d3:=Lib.hid d3
 have hw1:IntKind.i64.wrap (12*years)=12*years:=wrap_sm (by omega) (by omega)
 have hw2:IntKind.i64.wrap (12*more)=12*more:=wrap_sm (by omega) (by omega)
 clear hF hT
 have haz:=fun W (hb9:Below w.heap.size w W)=>AddMonths_any day (12*years) W (hTz.out W hb9)
 rw[hadd] at haz
 replace haz:=Lib.hid haz
 have hde:=Cal.term_after hadd (by omega)
 have hen2:=(Cal.term_val hadd).2
 have hen:0≤en:=by omega
 have hage:=fun W (hb9:Below w.heap.size w W)=>Age_any day en h0.1 (by omega) hen2 W (hTz.out W hb9)
 unfold Cal.AgePost at hage
 rw[Cal.term_agg hadd h1.1] at hage
 replace hage:=Lib.hid hage
 have hneq:=date_neq years
 have hwe:IntKind.i64.wrap (en-1)=en-1:=wrap_sm (by omega) (by omega)
 have qs:Hid (¬(200000:Int)<day∧¬day<day∧¬en-1<day∧¬en<day):=⟨by omega,by omega,by omega,by omega⟩
 have be:Hid (0≤en-1∧en-1≤200000∧en-1<en∧en≤200000∧¬(en<0∨en<en)):=⟨by omega,by omega,by omega,hen2,by omega⟩
 have hdd:Hid (day≤en-1∧en-1<en∧en-1≤200000):=⟨by omega,by omega,by omega⟩
 have tok1:Hid True:=trivial
 have tok2:Hid True:=trivial
 have tok4:Hid True:=trivial
 replace hde:=Lib.hid hde
 replace hadd:=Lib.hid hadd
 clear hen2
 have haz2:=fun W (hb9:Below w.heap.size w W)=>AddMonths_any en (12*more) W (hTz.out W hb9)
 rw[addS_bad hadd2] at haz2
 replace haz2:=Lib.hid haz2
 replace hadd2:=Lib.hid hadd2
 go_enter Tryz.func3,Tryz.ntmps3
 go_wp2_with (first
  |(go_at_call 4;refine hinh.out.mono ?_;rintro e9 w1 ⟨rfl,hb⟩;have hpn:=Lib.hid (rowsAt_new w1 [.string ⟨#[97,110,110]⟩,.int .i64 1,.int .i64 1] 35);replace hb:=Lib.hid (below_step hb (below_alloc w1 (.cells #[.string ⟨#[97,110,110]⟩,.int .i64 1,.int .i64 1] 35)));clear hinh)
     |(go_at_call 5;refine (d1.out _).mono ?_;clear d1;rintro e9 w9 ⟨rfl,rfl⟩)
     |(go_at_call 6;refine (d2.out _).mono ?_;clear d2;rintro e9 w9 ⟨rfl,rfl⟩)
     |(go_at_call 6;refine (d3.out _).mono ?_;clear d3;rintro e9 w9 ⟨rfl,rfl⟩)
  |(go_at_call 7;refine (Next_grant _ 1 day years en _ (hFz.out _ hb.out) (hTz.out _ hb.out) hpn.out h0 h1 hadd.out hen).mono ?_;rintro e9 w2 ⟨RB,rb,PB,pb,rfl,hRB,hPB,hbn⟩;have hba:=below_alloc w2 (.cells #[.slice none 0 0,.slice RB 1 rb] 28);have hR7:=BoxAt.new w2 #[.slice none 0 0,.slice RB 1 rb] 28;obtain⟨w3,hw3⟩:∃ w3,w2.alloc (.cells #[.slice none 0 0,.slice RB 1 rb] 28)=w3:=⟨_,rfl⟩;replace hRB:=hRB.below hba;replace hPB:=hPB.below hba;replace hb:=below_step (below_step hb.out hbn) hba;rw[hw3] at hRB hPB hR7 hb;have hrep:=Lib.hid (fun day2 (q0:¬day2<day) W (hb9:Below w3.heap.size w3 W)=>(replay_grant none RB PB 0 rb pb day2 day years en W (hFz.out _ (below_step hb hb9)) (hTz.out _ (below_step hb hb9)) (hRB.below hb9) (hPB.below hb9) h0 h1 q0 hadd.out hen).mono (fun e w9 h=>(h:RepQ (fun q W=>TermW q day 1 day en W) 1 W e w9)));have hRz:=Lib.hid (fun W (hb9:Below w3.heap.size w3 W)=>(⟨hRB.below hb9,hPB.below hb9,hR7.below hb9⟩:RowsAt W RB 7 [[.int .i64 0,.int .i64 day,.string ⟨#[97,49]⟩,.string ⟨#[]⟩,.slice PB 1 pb,.int .i64 2,.int .i64 years]]∧RowsAt W PB 3 ([ann1].map Pa.cells)∧BoxAt W w2.heap.size [.slice none 0 0,.slice RB 1 rb]));replace hb:=Lib.hid hb;clear hbn hpn hRB hPB hR7 hba)
  |(go_at_call 8;refine (haz.out _ hb.out).mono ?_;clear hw3 haz;rintro e9 w4 ⟨rfl,hbn⟩;have h3:=Lib.hid hbn;replace hb:=Lib.hid (below_step hb.out hbn);clear hbn;have r0:=(hRz.out _ h3.out).2.2.c 0 _ rfl;have r1:=(hRz.out _ h3.out).2.2.c 1 _ rfl)
  |(go_at_call 9;clear tok2;clear r0 r1;refine (Ends_term none RB 0 0 1 rb day 1 1 day 1 day en (fun q W=>TermW q day 1 day en W) _ h0.1 h0.2 hde.out (fun W h9=>hrep.out 200000 qs.out.1 W (below_step h3.out h9)) (fun W h9=>hrep.out day qs.out.2.1 W (below_step h3.out h9))).mono ?_;rintro e9 w5 ⟨rfl,hbn⟩;replace h3:=Lib.hid (below_step h3.out hbn);replace hb:=Lib.hid (below_step hb.out hbn);clear hbn;have r0:=(hRz.out _ h3.out).2.2.c 0 _ rfl;have r1:=(hRz.out _ h3.out).2.2.c 1 _ rfl)
  |(go_at_call 10;clear tok1;clear r0 r1;refine (Holders_term none RB 0 0 1 rb (en-1) 1 1 day 1 day en (fun q W=>TermW q day 1 day en W) _ be.out.1 be.out.2.1 be.out.2.2.1 (fun W h9=>hrep.out 200000 qs.out.1 W (below_step h3.out h9)) (fun W h9=>hrep.out (en-1) qs.out.2.2.1 W (below_step h3.out h9))).mono ?_;rintro e9 w6 ⟨HA,hc,rfl,_,hbn⟩;replace h3:=Lib.hid (below_step h3.out hbn);replace hb:=Lib.hid (below_step hb.out hbn);clear hbn;have r0:=(hRz.out _ h3.out).2.2.c 0 _ rfl;have r1:=(hRz.out _ h3.out).2.2.c 1 _ rfl)
  |(go_at_call 10;clear tok4;clear r0 r1;refine (Holders_over none RB 0 0 1 rb en 1 1 day 1 day en (fun q W=>TermW q day 1 day en W) _ hen be.out.2.2.2.1 be.out.2.2.2.2 (fun W h9=>hrep.out 200000 qs.out.1 W (below_step h3.out h9)) (fun W h9=>hrep.out en qs.out.2.2.2 W (below_step h3.out h9))).mono ?_;rintro e9 w7 ⟨rfl,hbn⟩;replace h3:=Lib.hid (below_step h3.out hbn);replace hb:=Lib.hid (below_step hb.out hbn);clear hbn)
  |(go_at_call 11;refine (hage.out _ hb.out).mono ?_;clear hage;rintro e9 w8 ⟨rfl,hbn⟩;have hba:=below_alloc w8 (.cells #[.int .i64 years,.int .i64 0,.int .i64 0] 45);replace h3:=Lib.hid (below_step (below_step h3.out hbn) hba);replace hb:=Lib.hid (below_step (below_step hb.out hbn) hba);clear hbn hba;have r0:=(hRz.out _ h3.out).2.2.c 0 _ rfl;have r1:=(hRz.out _ h3.out).2.2.c 1 _ rfl)
  |(go_at_call 7;clear r0 r1;refine (Next_renX RB PB rb pb day years en (en-1) more _ (hFz.out _ hb.out) (hTz.out _ hb.out) (hRz.out _ h3.out).1 (hRz.out _ h3.out).2.1 h0 h1 hadd.out hen h2 hdd.out hadd2.out).mono ?_;rintro e9 w10 ⟨rfl,hbn⟩;replace hb:=Lib.hid (below_step (below_step hb.out hbn) (below_alloc w10 (.cells #[.slice none 0 0,.slice none 0 0] 28)));clear hbn)
  |(go_at_call 8;refine (haz2.out _ hb.out).mono ?_;rintro e9 w12 ⟨rfl,hbn⟩;replace hb:=Lib.hid (below_step hb.out hbn);clear hbn))
 go_ret
 exact⟨rfl,hb.out⟩
end Go.Proofs.YtcnfhnndppollaaGreatDoor
