/- What the statements rest on: definitions and walks, part 11. -/
import Derived.Test.YtcnfhnndppollaaGreatDoorJ10
set_option maxRecDepth 100000
set_option maxHeartbeats 16000000
set_option linter.unusedSimpArgs false
set_option linter.unusedVariables false
namespace Go.Proofs.YtcnfhnndppollaaGreatDoor
open Go Go.RowKit Go.Maps Go.WideMaps
theorem riSize5:(Tryz.prog.info? 28).map (·.size)=some 2:=by kernel_rfl
def NxtG (dy yr:Int) (w:World) (e:Ending) (w':World):Prop:=∃ RB rb PB pb,e=.returned (.tuple #[.agg #[.slice none 0 0,.slice RB 1 rb],.int .i64 0])∧RowsAt w' RB 7 [[.int .i64 0,.int .i64 dy,.string ⟨#[97,49]⟩,.string ⟨#[]⟩,.slice PB 1 pb,.int .i64 2,.int .i64 yr]]∧RowsAt w' PB 3 ([ann1].map Pa.cells)∧Below w.heap.size w w'
theorem Next_grantX (PA:Option Addr) (pc:Nat) (dy yr:Int) (w:World) (hF:FTab w) (hT:Tab w) (hpa:RowsAt w PA 3 ([ann1].map Pa.cells)) (h0:0≤dy∧dy≤200000) (h2:1≤yr∧yr≤99) (hadd:(Cal.addS dy (12*yr)).2≠0) :
  Calls Tryz.prog 7 #[.agg #[.slice none 0 0,.slice none 0 0],.agg #[.int .i64 0,.int .i64 dy,.string ⟨#[97,49]⟩,.string ⟨#[]⟩,.slice PA 1 pc,.int .i64 2,.int .i64 yr]] w fun e w'=>e=.returned (.tuple #[.agg #[.slice none 0 0,.slice none 0 0],.int .i64 2])∧Below w.heap.size w w':=by
 have hlz:=Lib.hid (fun W (hb9:Below w.heap.size w W)=>by
  have:=rlater_any dy yr W (hT.below hb9) (by omega) (by omega)
  rw[if_neg hadd] at this
  exact this)
 have hFz:=Lib.hid (fun W (hb9:Below w.heap.size w W)=>hF.below hb9)
 have hpz:=Lib.hid (fun W (hb9:Below w.heap.size w W)=>hpa.below hb9)
 have hq0:(yr == 0)=false:=by simp;omega
 clear hF hT hpa hadd
 have hRb:=BoxAt.new w #[.slice none 0 0,.slice none 0 0] 28
 have ha1:=below_alloc w (.cells #[.slice none 0 0,.slice none 0 0] 28)
 have hDb:=BoxAt.new (w.alloc (.cells #[.slice none 0 0,.slice none 0 0] 28)) #[.int .i64 0,.int .i64 dy,.string ⟨#[97,49]⟩,.string ⟨#[]⟩,.slice PA 1 pc,.int .i64 2,.int .i64 yr] 38
 have ha2:=below_alloc (w.alloc (.cells #[.slice none 0 0,.slice none 0 0] 28)) (.cells #[.int .i64 0,.int .i64 dy,.string ⟨#[97,49]⟩,.string ⟨#[]⟩,.slice PA 1 pc,.int .i64 2,.int .i64 yr] 38)
 have hOb:=BoxAt.new ((w.alloc (.cells #[.slice none 0 0,.slice none 0 0] 28)).alloc (.cells #[.int .i64 0,.int .i64 dy,.string ⟨#[97,49]⟩,.string ⟨#[]⟩,.slice PA 1 pc,.int .i64 2,.int .i64 yr] 38)) #[.slice none 0 0,.slice none 0 0] 28
 have ha3:=below_alloc ((w.alloc (.cells #[.slice none 0 0,.slice none 0 0] 28)).alloc (.cells #[.int .i64 0,.int .i64 dy,.string ⟨#[97,49]⟩,.string ⟨#[]⟩,.slice PA 1 pc,.int .i64 2,.int .i64 yr] 38)) (.cells #[.slice none 0 0,.slice none 0 0] 28)
 obtain⟨X,hX⟩:∃ X,((w.alloc (.cells #[.slice none 0 0,.slice none 0 0] 28)).alloc (.cells #[.int .i64 0,.int .i64 dy,.string ⟨#[97,49]⟩,.string ⟨#[]⟩,.slice PA 1 pc,.int .i64 2,.int .i64 yr] 38)).alloc (.cells #[.slice none 0 0,.slice none 0 0] 28)=X:=⟨_,rfl⟩
 rw[World.size_alloc,World.size_alloc] at hOb
 rw[World.size_alloc] at hDb
 replace hRb:=(hRb.below ha2).below ha3
 replace hDb:=hDb.below ha3
 have hwX:=below_step (below_step ha1 ha2) ha3
 rw[hX] at hRb hDb hOb hwX
 obtain⟨r0,r1⟩:=hRb.c2
 have hRz:=Lib.hid (fun W (hb9:Below X.heap.size X W)=>hRb.below hb9)
 have hDz:=Lib.hid (fun W (hb9:Below X.heap.size X W)=>hDb.below hb9)
 have hOz:=Lib.hid (fun W (hb9:Below X.heap.size X W)=>hOb.below hb9)
 have hXl:=hOb.lt
 replace hwX:=Lib.hid hwX
 clear hRb hDb hOb ha1 ha2 ha3
 have hrep:=replay_nil none none 0 0 200000 X
 obtain⟨q,hq⟩:∃ q,q=X.heap.size+1:=⟨_,rfl⟩
 rw[←hq] at hrep
 have hrep:=Lib.hid hrep
 have hqX:X.heap.size≤q:=by omega
 clear hq
 go_enter Tryz.func7,Tryz.ntmps7
 go_wp2_with (first
  |(go_at_call 13;refine hrep.out.mono ?_;clear hX r0 r1 hrep;rintro e9 w2 ⟨rfl,hW,hb2⟩;replace hW:=Lib.hid hW;replace hb2:=Lib.hid hb2;have d0:=(hDz.out _ hb2.out).c 0 _ rfl;have d1:=(hDz.out _ hb2.out).c 1 _ rfl;have d2:=(hDz.out _ hb2.out).c 2 _ rfl;have d3:=(hDz.out _ hb2.out).c 3 _ rfl;have d4:=(hDz.out _ hb2.out).c 4 _ rfl;have d5:=(hDz.out _ hb2.out).c 5 _ rfl;have d6:=(hDz.out _ hb2.out).c 6 _ rfl)
  |(go_at_call 14;clear d0 d1 d2 d3 d4 d5 d6;refine (CheckDeed_grantT PA pc dy yr _ (hFz.out _ (below_step hwX.out hb2.out)) (hpz.out _ (below_step hwX.out hb2.out)) h0 ⟨by omega,h2.2⟩ hq0).mono ?_;rintro e9 w3 ⟨rfl,hbn⟩;replace hW:=Lib.hid (hW.out.below hbn);replace hb2:=Lib.hid (below_step hb2.out hbn);clear hbn;have r0:=(hRz.out _ hb2.out).c 0 _ rfl;have d0:=(hDz.out _ hb2.out).c 0 _ rfl;have d1:=(hDz.out _ hb2.out).c 1 _ rfl;have d2:=(hDz.out _ hb2.out).c 2 _ rfl;have d3:=(hDz.out _ hb2.out).c 3 _ rfl;have d4:=(hDz.out _ hb2.out).c 4 _ rfl;have d5:=(hDz.out _ hb2.out).c 5 _ rfl;have d6:=(hDz.out _ hb2.out).c 6 _ rfl)
  |(go_at_call 15;clear r0 d0 d1 d2 d3 d4 d5 d6;refine (wtake_termX dy 2 yr (-1) pc PA _ hW.out (hpz.out _ (below_step hwX.out hb2.out)) rfl (by omega) (by decide) (fun W h9=>hlz.out W (below_step (below_step hwX.out hb2.out) h9)) (by decide) (by decide) h0.1).mono ?_;rintro e9 w4 ⟨rfl,hbn⟩;replace hb2:=Lib.hid (below_step hb2.out hbn);clear hbn hW;have ho:=hOz.out _ hb2.out)
  |(refine wpList_store_box rfl 28 (.tmp 4) (.tmp 37) rfl (w.heap.size+1+1) _ [.slice none 0 0,.slice none 0 0] (by rfl) (by rfl) ho rfl riSize5 (by kernel_rfl) ?_;intro w6 h6 hg6;clear ho))
 refine bodyPost_ret (results_mid2 rfl _ _ (w.heap.size+1+1) [.slice none 0 0,.slice none 0 0] _ rfl h6.range Tryz.underlying28 rfl riSize5) rfl ⟨rfl,?_⟩
 exact (below_step hwX.out hb2.out).grown hg6 (below_step hwX.out hb2.out).size (fun g e=>by have:=Option.some.inj e;omega)
theorem Next_grant (PA:Option Addr) (pc:Nat) (dy yr en:Int) (w:World) (hF:FTab w) (hT:Tab w) (hpa:RowsAt w PA 3 ([ann1].map Pa.cells)) (h0:0≤dy∧dy≤200000) (h2:1≤yr∧yr≤99) (hadd:Cal.addS dy (12*yr)=(en,0)) (hen:0≤en) :
  Calls Tryz.prog 7 #[.agg #[.slice none 0 0,.slice none 0 0],.agg #[.int .i64 0,.int .i64 dy,.string ⟨#[97,49]⟩,.string ⟨#[]⟩,.slice PA 1 pc,.int .i64 2,.int .i64 yr]] w (NxtG dy yr w):=by
 have hlz:=Lib.hid (fun W (hb9:Below w.heap.size w W)=>by
  have:=rlater_any dy yr W (hT.below hb9) (by omega) (by omega)
  rw[hadd] at this
  exact this)
 have hFz:=Lib.hid (fun W (hb9:Below w.heap.size w W)=>hF.below hb9)
 have hpz:=Lib.hid (fun W (hb9:Below w.heap.size w W)=>hpa.below hb9)
 have hq0:(yr == 0)=false:=by simp;omega
 clear hF hT hpa hadd
 have hRb:=BoxAt.new w #[.slice none 0 0,.slice none 0 0] 28
 have ha1:=below_alloc w (.cells #[.slice none 0 0,.slice none 0 0] 28)
 have hDb:=BoxAt.new (w.alloc (.cells #[.slice none 0 0,.slice none 0 0] 28)) #[.int .i64 0,.int .i64 dy,.string ⟨#[97,49]⟩,.string ⟨#[]⟩,.slice PA 1 pc,.int .i64 2,.int .i64 yr] 38
 have ha2:=below_alloc (w.alloc (.cells #[.slice none 0 0,.slice none 0 0] 28)) (.cells #[.int .i64 0,.int .i64 dy,.string ⟨#[97,49]⟩,.string ⟨#[]⟩,.slice PA 1 pc,.int .i64 2,.int .i64 yr] 38)
 have hOb:=BoxAt.new ((w.alloc (.cells #[.slice none 0 0,.slice none 0 0] 28)).alloc (.cells #[.int .i64 0,.int .i64 dy,.string ⟨#[97,49]⟩,.string ⟨#[]⟩,.slice PA 1 pc,.int .i64 2,.int .i64 yr] 38)) #[.slice none 0 0,.slice none 0 0] 28
 have ha3:=below_alloc ((w.alloc (.cells #[.slice none 0 0,.slice none 0 0] 28)).alloc (.cells #[.int .i64 0,.int .i64 dy,.string ⟨#[97,49]⟩,.string ⟨#[]⟩,.slice PA 1 pc,.int .i64 2,.int .i64 yr] 38)) (.cells #[.slice none 0 0,.slice none 0 0] 28)
 obtain⟨X,hX⟩:∃ X,((w.alloc (.cells #[.slice none 0 0,.slice none 0 0] 28)).alloc (.cells #[.int .i64 0,.int .i64 dy,.string ⟨#[97,49]⟩,.string ⟨#[]⟩,.slice PA 1 pc,.int .i64 2,.int .i64 yr] 38)).alloc (.cells #[.slice none 0 0,.slice none 0 0] 28)=X:=⟨_,rfl⟩
 rw[World.size_alloc,World.size_alloc] at hOb
 rw[World.size_alloc] at hDb
 replace hRb:=(hRb.below ha2).below ha3
 replace hDb:=hDb.below ha3
 have hwX:=below_step (below_step ha1 ha2) ha3
 rw[hX] at hRb hDb hOb hwX
 obtain⟨r0,r1⟩:=hRb.c2
 have hRz:=Lib.hid (fun W (hb9:Below X.heap.size X W)=>hRb.below hb9)
 have hDz:=Lib.hid (fun W (hb9:Below X.heap.size X W)=>hDb.below hb9)
 have hOz:=Lib.hid (fun W (hb9:Below X.heap.size X W)=>hOb.below hb9)
 have hXl:=hOb.lt
 replace hwX:=Lib.hid hwX
 clear hRb hDb hOb ha1 ha2 ha3
 have hrep:=replay_nil none none 0 0 200000 X
 obtain⟨q,hq⟩:∃ q,q=X.heap.size+1:=⟨_,rfl⟩
 rw[←hq] at hrep
 have hrep:=Lib.hid hrep
 have hqX:X.heap.size≤q:=by omega
 clear hq
 go_enter Tryz.func7,Tryz.ntmps7
 go_upto_region 11 with (first
  |(go_at_call 13;refine hrep.out.mono ?_;clear hX r0 r1 hrep;rintro e9 w2 ⟨rfl,hW,hb2⟩;replace hW:=Lib.hid hW;replace hb2:=Lib.hid hb2;have d0:=(hDz.out _ hb2.out).c 0 _ rfl;have d1:=(hDz.out _ hb2.out).c 1 _ rfl;have dd2:=(hDz.out _ hb2.out).c 2 _ rfl;have d3:=(hDz.out _ hb2.out).c 3 _ rfl;have d4:=(hDz.out _ hb2.out).c 4 _ rfl;have d5:=(hDz.out _ hb2.out).c 5 _ rfl;have d6:=(hDz.out _ hb2.out).c 6 _ rfl)
    |(go_at_call 14;clear d0 d1 dd2 d3 d4 d5 d6;refine (CheckDeed_grantT PA pc dy yr _ (hFz.out _ (below_step hwX.out hb2.out)) (hpz.out _ (below_step hwX.out hb2.out)) h0 ⟨by omega,h2.2⟩ hq0).mono ?_;rintro e9 w3 ⟨rfl,hbn⟩;have hb3:=Lib.hid hbn;replace hW:=Lib.hid (hW.out.below hbn);replace hb2:=Lib.hid (below_step hb2.out hbn);clear hbn;have r0:=(hRz.out _ hb2.out).c 0 _ rfl;have d0:=(hDz.out _ hb2.out).c 0 _ rfl;have d1:=(hDz.out _ hb2.out).c 1 _ rfl;have dd2:=(hDz.out _ hb2.out).c 2 _ rfl;have d3:=(hDz.out _ hb2.out).c 3 _ rfl;have d4:=(hDz.out _ hb2.out).c 4 _ rfl;have d5:=(hDz.out _ hb2.out).c 5 _ rfl;have d6:=(hDz.out _ hb2.out).c 6 _ rfl)
    |(go_at_call 15;clear r0 d0 d1 dd2 d3 d4 d5 d6;refine (wtake_term dy 2 yr en pc PA _ hW.out (hpz.out _ (below_step hwX.out hb2.out)) rfl (by omega) hen (fun W h9=>hlz.out W (below_step (below_step hwX.out hb2.out) h9)) (by decide) (by decide) h0.1).mono ?_;rintro e9 w4 ⟨rfl,b,c,tc,A9,TA,_,_,_,_,hbl,_,_⟩;replace hb2:=Lib.hid (hb2.out.trans (hbl.mono (by omega)));clear hbl hW hb3;have r0:=(hRz.out _ hb2.out).c 0 _ rfl)
  |(go_at_call 16;clear r0;refine (CloneLaws_nil 0 _).mono ?_;rintro e9 w5 ⟨rfl,rfl⟩))
 have hXw:=hb2.out.size
 have hbO:=below_alloc w4 (.cells #[.slice none 0 0,.slice none 0 0] 28)
 have hO:=BoxAt.new w4 #[.slice none 0 0,.slice none 0 0] 28
 obtain⟨y,hy9⟩:∃ y,(w4.alloc (.cells #[.slice none 0 0,.slice none 0 0] 28)).drew=y:=⟨_,rfl⟩
 replace hb2:=Lib.hid (below_step hb2.out (below_step hbO (Below.refl _ _).drew))
 replace hO:=Lib.hid (hO.below (Below.refl _ _).drew)
 rw[hy9] at hb2 hO
 clear hbO
 have hszO:=hO.out.lt
 refine wp_region_held_drew (S:=Sx X [(w.heap.size,1,.slice none 0 0),(w.heap.size+1,0,.int .i64 0),(w.heap.size+1,1,.int .i64 dy),(w.heap.size+1,2,.string ⟨#[97,49]⟩),(w.heap.size+1,3,.string ⟨#[]⟩),(w.heap.size+1,4,.slice PA 1 pc),(w.heap.size+1,5,.int .i64 2),(w.heap.size+1,6,.int .i64 yr)]) (by kernel_rfl) (by rw[hy9];exact Sx.mk (by simp only[cs_iff_cons];exact⟨(hRz.out _ hb2.out).c 1 _ rfl,(hDz.out _ hb2.out).c 0 _ rfl,(hDz.out _ hb2.out).c 1 _ rfl,(hDz.out _ hb2.out).c 2 _ rfl,(hDz.out _ hb2.out).c 3 _ rfl,(hDz.out _ hb2.out).c 4 _ rfl,(hDz.out _ hb2.out).c 5 _ rfl,(hDz.out _ hb2.out).c 6 _ rfl,cs_nil _⟩) hb2.out) (fun hHeld=>?_)
 rw[hy9] at hHeld ⊢
 clear hy9
 refine tkHx 0 43 ?_
 refine tkHx 1 44 ?_
 refine tkHx 3 46 ?_
 refine tkHx 7 50 ?_
 (refine wpAnyH_ready (rs:=[2,4]) (by decide +kernel) (by simp) ?_;refine AllReadyH.cons rfl (fun K hK=>?_) (AllReadyH.cons rfl (fun K hK=>?_) AllReadyH.nil))
 ·(rw[if_pos (by kernel_rfl)];go_simp)
  refine (CloneDeeds_nil 0 _).mono ?_
  rintro e9 wc ⟨rfl,rfl⟩
  refine hK.out _ _ hHeld (fun hHeld2=>?_)
  clear hK K hHeld
  (try simp only[apS,apN,siA,scZ,scS])
  (refine ratHx 4 (fun K hK=>?_);go_simp)
  refine hK.out _ _ (hHeld2.step (below_alloc _ _)) (fun hHeld3=>?_)
  clear hK K hHeld2
  (try simp only[apS,apN,siA,scZ,scS])
  (refine wpAnyH_ready (rs:=[5]) (by decide +kernel) (by simp) ?_;refine AllReadyH.cons rfl (fun K hK=>?_) AllReadyH.nil)
  refine step_append_rows elemDd (by rfl) (.tmp 45) (.tmp 47) (by rfl) (by rfl) (by rfl) (OwnL.nil _ (w4.heap.size+1) 38 7) (rowsAt_new y [.int .i64 0,.int .i64 dy,.string ⟨#[97,49]⟩,.string ⟨#[]⟩,.slice PA 1 pc,.int .i64 2,.int .i64 yr] 38) rfl (fun r hr=>by rw[List.mem_singleton.1 hr];rfl) (fun r hr u hu=>by rw[List.mem_singleton.1 hr] at hu;simp at hu;rcases hu with rfl | rfl | rfl | rfl | rfl | rfl | rfl <;> rfl) (by simp) (by decide) (by simp;omega) ?_
  intro dv wL hod hgd _
  have hgd2:(y.alloc (.cells #[.int .i64 0,.int .i64 dy,.string ⟨#[97,49]⟩,.string ⟨#[]⟩,.slice PA 1 pc,.int .i64 2,.int .i64 yr] 38)).grownBy wL none:=hgd
  have hba0:=below_alloc y (.cells #[.int .i64 0,.int .i64 dy,.string ⟨#[97,49]⟩,.string ⟨#[]⟩,.slice PA 1 pc,.int .i64 2,.int .i64 yr] 38)
  have hOL:=(hO.out.below hba0).grown hgd2 (fun e=>by cases e)
  have hbG:=grown_below hgd (fun g e=>by cases e) (Nat.le_refl _)
  have hbE:=below_step hba0 hbG
  clear hgd2 hba0
  have hdb:∀ g,Value.ownBlock dv=some g→w4.heap.size+1≤g∧g<wL.heap.size:=fun g e=>⟨(hod.lt g e).1,(hod.lt g e).2⟩
  obtain⟨DA,dc,hdv,hDr⟩:=OwnL.form hod
  have hdv2:dv=.slice DA 1 dc:=hdv
  subst hdv2
  have hDb:=Lib.hid (fun a (e:DA=some a)=>hdb a.block (by rw[e];rfl))
  have hDl:=Lib.hid hDr
  refine hK.out _ _ (hHeld3.step hbG) (fun hHeld4=>?_)
  replace hb2:=Lib.hid (below_step hb2.out hbE)
  have hO:=Lib.hid hOL
  clear hK K hHeld3 hod hgd hdv hdb hbG hbE
  (try simp only[apS,apN,siA,scZ,scS])
  refine tkHx 6 49 ?_
  refine wpAnyH_done (by kernel_rfl) ?_ _
  clear hHeld4
  obtain⟨wS,hwS⟩:∃ wS,wS=wL:=⟨_,rfl⟩
  have hszL:w4.heap.size<wL.heap.size:=hO.out.lt
  have hXw4:X.heap.size≤w4.heap.size:=hXw
  have hb:=Lib.hid (Below.refl wL.heap.size wL)
  subst hwS
  go_wp2
  refine wp_unroll 2 ?_
  unfold unroll
  obtain⟨db,dof,hDA,_,hdc⟩:=hDl.out 0 _ rfl
  cases hDA
  have m0:=hdc 0 _ rfl
  have m1:=hdc 1 _ rfl
  have m2:=hdc 2 _ rfl
  have m3:=hdc 3 _ rfl
  have m4:=hdc 4 _ rfl
  have m5:=hdc 5 _ rfl
  have m6:=hdc 6 _ rfl
  change wS.cell? ⟨db,dof,none⟩=_ at m0
  change wS.cell? ⟨db,dof+1,none⟩=_ at m1
  change wS.cell? ⟨db,dof+2,none⟩=_ at m2
  change wS.cell? ⟨db,dof+3,none⟩=_ at m3
  change wS.cell? ⟨db,dof+4,none⟩=_ at m4
  change wS.cell? ⟨db,dof+5,none⟩=_ at m5
  change wS.cell? ⟨db,dof+6,none⟩=_ at m6
  have hbP:=BoxAt.new wS #[.int .i64 0,.int .i64 dy,.string ⟨#[97,49]⟩,.string ⟨#[]⟩,.slice PA 1 pc,.int .i64 2,.int .i64 yr] 38
  have hZ:=below_alloc wS (.cells #[.int .i64 0,.int .i64 dy,.string ⟨#[97,49]⟩,.string ⟨#[]⟩,.slice PA 1 pc,.int .i64 2,.int .i64 yr] 38)
  have hszS:=hO.out.lt
  clear hdc
  go_upto_region 14 with fail
  clear m0 m1 m2 m3 m4 m5 m6
  obtain⟨z,hz9⟩:∃ z,(wS.alloc (.cells #[.int .i64 0,.int .i64 dy,.string ⟨#[97,49]⟩,.string ⟨#[]⟩,.slice PA 1 pc,.int .i64 2,.int .i64 yr] 38)).drew=z:=⟨_,rfl⟩
  replace hbP:=Lib.hid (hbP.below (Below.refl _ _).drew)
  replace hZ:=Lib.hid (below_step hZ (Below.refl _ _).drew)
  rw[hz9] at hbP hZ
  refine wp_region_heldZ (S:=Sc [(w4.heap.size,1,.slice none 0 0),(wS.heap.size,0,.int .i64 0),(wS.heap.size,1,.int .i64 dy),(wS.heap.size,2,.string ⟨#[97,49]⟩),(wS.heap.size,3,.string ⟨#[]⟩),(wS.heap.size,4,.slice PA 1 pc),(wS.heap.size,5,.int .i64 2),(wS.heap.size,6,.int .i64 yr)]) 7 (by kernel_rfl) (by rw[hz9];exact (Sc.mk (by simp only[cs_iff_cons];exact⟨(hO.out.below hZ.out).c 1 _ rfl,hbP.out.c 0 _ rfl,hbP.out.c 1 _ rfl,hbP.out.c 2 _ rfl,hbP.out.c 3 _ rfl,hbP.out.c 4 _ rfl,hbP.out.c 5 _ rfl,hbP.out.c 6 _ rfl,cs_nil _⟩))) (fun hHeld=>?_)
  rw[hz9] at hHeld ⊢
  clear hz9
  refine tkZx 0 54 ?_
  refine tkZx 1 55 ?_
  refine tkZx 2 56 ?_
  have hszz:=hZ.out.size
  refine ratZ 3 (by decide +kernel) rfl (fun K hK=>?_)
  rw[if_pos (by kernel_rfl)]
  go_simp
  refine (copied_grant PA pc dy yr _ (hpz.out _ (below_step hwX.out (below_step hb2.out hZ.out)))).mono ?_
  rintro e9 z2 ⟨PB,pb,rfl,hpB,hbn,hpBl⟩
  refine hK.out _ _ (hHeld.below hbn) (fun hH2=>?_)
  replace hZ:=Lib.hid (below_step hZ.out hbn)
  replace hbP:=Lib.hid (hbP.out.below hbn)
  clear hK K hHeld hbn
  have hHeld:=hH2
  clear hH2
  (try simp only[apS,apN,siA,scZ,scS])
  refine ratZ 4 (by decide +kernel) rfl (fun K hK=>?_)
  rw[if_pos (by kernel_rfl)]
  go_simp
  refine hK.out _ _ (hHeld.below (below_alloc _ _)) (fun hH2=>?_)
  clear hK K hHeld
  have hHeld:=hH2
  clear hH2
  (try simp only[apS,apN,siA,scZ,scS])
  have hba:=below_alloc z2 (.cells #[.int .i64 0,.int .i64 dy,.string ⟨#[97,49]⟩,.string ⟨#[]⟩,.slice PB 1 pb,.int .i64 2,.int .i64 yr] 38)
  have hZ3:=below_step hZ.out hba
  have hbP3:=hbP.out.below hba
  have hO3:=hO.out.below hZ3
  have hsz3:=hZ3.size
  refine ratZ 5 (by decide +kernel) rfl (fun K hK=>?_)
  refine step_append_rows elemDd (by rfl) (.tmp 55) (.tmp 58) (by rfl) (by rfl) (by rfl) (OwnL.nil _ (z2.alloc (.cells #[.int .i64 0,.int .i64 dy,.string ⟨#[97,49]⟩,.string ⟨#[]⟩,.slice PB 1 pb,.int .i64 2,.int .i64 yr] 38)).heap.size 38 7) (rowsAt_new z2 [.int .i64 0,.int .i64 dy,.string ⟨#[97,49]⟩,.string ⟨#[]⟩,.slice PB 1 pb,.int .i64 2,.int .i64 yr] 38) rfl (fun r hr=>by rw[List.mem_singleton.1 hr];rfl) (fun r hr u hu=>by rw[List.mem_singleton.1 hr] at hu;simp at hu;rcases hu with rfl | rfl | rfl | rfl | rfl | rfl | rfl <;> rfl) (by simp) (by decide) (by first | (simp;done) | omega) ?_
  intro rv z4 hor hgr _
  have hgr:(z2.alloc (.cells #[.int .i64 0,.int .i64 dy,.string ⟨#[97,49]⟩,.string ⟨#[]⟩,.slice PB 1 pb,.int .i64 2,.int .i64 yr] 38)).grownBy z4 none:=hgr
  have hne1:some w4.heap.size≠none:=by simp
  have hne2:some wS.heap.size≠none:=by simp
  have hszB:=Lib.hid hO3.lt
  have hO4:=hO3.grown hgr hne1
  have hbP4:=hbP3.grown hgr hne2
  refine hK.out _ _ (Sc.mk (by simp only[cs_iff_cons];exact⟨hO4.c 1 _ rfl,hbP4.c 0 _ rfl,hbP4.c 1 _ rfl,hbP4.c 2 _ rfl,hbP4.c 3 _ rfl,hbP4.c 4 _ rfl,hbP4.c 5 _ rfl,hbP4.c 6 _ rfl,cs_nil _⟩)) (fun hH2=>?_)
  clear hK K hHeld
  have hHeld:=hH2
  clear hH2
  (try simp only[apS,apN,siA,scZ,scS])
  obtain⟨RA,ra,hrv,_⟩:=OwnL.form hor
  have hrv2:rv=.slice RA 1 ra:=hrv
  subst hrv2
  refine tkZx 6 60 ?_
  have y0:=hO4.c 1 _ rfl;have y1:=hO4.free 1 (by simp)
  have hO5:Hid (BoxAt (z4.setCell ⟨w4.heap.size,1,none⟩ (.slice RA 1 ra)) w4.heap.size [.slice none 0 0,.slice RA 1 ra]):=hO4.set 1 _ (by simp)
  have hor5:=Lib.hid (hor.offF (B':=w4.heap.size) 1 (.slice RA 1 ra) (by have:=hszB.out;omega))
  have hg5:=grown_set z4 w4.heap.size 1 (.slice RA 1 ra)
  have hsz4:=hgr.size
  have hpB5:=Lib.hid (rows_far (rows_far (hpB.below hba) hgr (fun a e=>by simp)) hg5 (fun a e e2=>by have:=hpBl a e;have:=Option.some.inj e2;have:=hO.out.lt;have:=hZ.out.size;omega))
  have hb5:=Lib.hid (((below_step hb2.out hZ3).grown hgr (below_step hb2.out hZ3).size (fun g e=>by cases e)).setCell (p:=⟨w4.heap.size,1,none⟩) (by show X.heap.size≤w4.heap.size;exact hXw4) (.slice RA 1 ra))
  have hPBl5:=fun a (e:PB=some a)=>(show wS.heap.size≤a.block by have:=hpBl a e;have:=hZ.out.size;omega)
  clear hpB hpBl
  clear hO4 hbP4 hO3 hbP3 hor hrv hgr hg5 hba hZ3 hZ hbP hO hb hne1 hne2 hDl
  refine ratZc 7 (by decide +kernel) rfl (by decide +kernel) (fun K hK=>?_)
  rw[if_pos (by kernel_rfl)]
  go_simp
  refine hK.out _ _ ?_
  clear hK K
  (try simp only[apS,apN,siA,scZ,scS])
  refine wpAnyHY_done (by decide +kernel) ?_ _
  clear y0 y1 hHeld
  have ho:=hOz.out _ hb5.out
  obtain⟨o0,o1⟩:=hO5.out.c2
  go_wp2
  unfold unroll
  go_wp2_with (refine wpList_store_box rfl 28 (.tmp 4) (.tmp 62) rfl (w.heap.size+1+1) _ [.slice none 0 0,.slice RA 1 ra] (by rfl) (by rfl) ho rfl riSize5 (by kernel_rfl) ?_;intro w6 h6 hg6;clear ho o0 o1)
  have hRAb:=fun a (e:RA=some a)=>(hor5.out.lt a.block (by rw[e];rfl)).1
  refine bodyPost_ret (results_mid2 rfl _ _ (w.heap.size+1+1) [.slice none 0 0,.slice RA 1 ra] _ rfl h6.range Tryz.underlying28 rfl riSize5) rfl ⟨RA,ra,PB,pb,rfl,?_,?_,?_⟩
  ·exact rows_far (ownRows hor5.out) hg6 (fun a e e2=>by have:=hRAb a e;have:=Option.some.inj e2;omega)
  ·exact rows_far hpB5.out hg6 (fun a e e2=>by have:=hPBl5 a e;have:=Option.some.inj e2;omega)
  exact (below_step hwX.out hb5.out).grown hg6 (below_step hwX.out hb5.out).size (fun g e=>by have:=Option.some.inj e;omega)
 (rw[if_pos (by kernel_rfl)];go_simp)
 refine hK.out _ _ (hHeld.step (below_alloc _ _)) (fun hHeld2=>?_)
 clear hK K hHeld
 (try simp only[apS,apN,siA,scZ,scS])
 (refine ratHx 2 (fun K hK=>?_);go_simp)
 refine (CloneDeeds_nil 0 _).mono ?_
 rintro e9 wc ⟨rfl,rfl⟩
 refine hK.out _ _ hHeld2 (fun hHeld3=>?_)
 clear hK K hHeld2
 (try simp only[apS,apN,siA,scZ,scS])
 (refine wpAnyH_ready (rs:=[5]) (by decide +kernel) (by simp) ?_;refine AllReadyH.cons rfl (fun K hK=>?_) AllReadyH.nil)
 refine step_append_rows elemDd (by rfl) (.tmp 45) (.tmp 47) (by rfl) (by rfl) (by rfl) (OwnL.nil _ (w4.heap.size+1) 38 7) (rowsAt_new y [.int .i64 0,.int .i64 dy,.string ⟨#[97,49]⟩,.string ⟨#[]⟩,.slice PA 1 pc,.int .i64 2,.int .i64 yr] 38) rfl (fun r hr=>by rw[List.mem_singleton.1 hr];rfl) (fun r hr u hu=>by rw[List.mem_singleton.1 hr] at hu;simp at hu;rcases hu with rfl | rfl | rfl | rfl | rfl | rfl | rfl <;> rfl) (by simp) (by decide) (by simp;omega) ?_
 intro dv wL hod hgd _
 have hgd2:(y.alloc (.cells #[.int .i64 0,.int .i64 dy,.string ⟨#[97,49]⟩,.string ⟨#[]⟩,.slice PA 1 pc,.int .i64 2,.int .i64 yr] 38)).grownBy wL none:=hgd
 have hba0:=below_alloc y (.cells #[.int .i64 0,.int .i64 dy,.string ⟨#[97,49]⟩,.string ⟨#[]⟩,.slice PA 1 pc,.int .i64 2,.int .i64 yr] 38)
 have hOL:=(hO.out.below hba0).grown hgd2 (fun e=>by cases e)
 have hbG:=grown_below hgd (fun g e=>by cases e) (Nat.le_refl _)
 have hbE:=below_step hba0 hbG
 clear hgd2 hba0
 have hdb:∀ g,Value.ownBlock dv=some g→w4.heap.size+1≤g∧g<wL.heap.size:=fun g e=>⟨(hod.lt g e).1,(hod.lt g e).2⟩
 obtain⟨DA,dc,hdv,hDr⟩:=OwnL.form hod
 have hdv2:dv=.slice DA 1 dc:=hdv
 subst hdv2
 have hDb:=Lib.hid (fun a (e:DA=some a)=>hdb a.block (by rw[e];rfl))
 have hDl:=Lib.hid hDr
 refine hK.out _ _ (hHeld3.step hbG) (fun hHeld4=>?_)
 replace hb2:=Lib.hid (below_step hb2.out hbE)
 have hO:=Lib.hid hOL
 clear hK K hHeld3 hod hgd hdv hdb hbG hbE
 (try simp only[apS,apN,siA,scZ,scS])
 refine tkHx 6 49 ?_
 refine wpAnyH_done (by kernel_rfl) ?_ _
 clear hHeld4
 obtain⟨wS,hwS⟩:∃ wS,wS=wL:=⟨_,rfl⟩
 have hszL:w4.heap.size<wL.heap.size:=hO.out.lt
 have hXw4:X.heap.size≤w4.heap.size:=hXw
 have hb:=Lib.hid (Below.refl wL.heap.size wL)
 subst hwS
 go_wp2
 refine wp_unroll 2 ?_
 unfold unroll
 obtain⟨db,dof,hDA,_,hdc⟩:=hDl.out 0 _ rfl
 cases hDA
 have m0:=hdc 0 _ rfl
 have m1:=hdc 1 _ rfl
 have m2:=hdc 2 _ rfl
 have m3:=hdc 3 _ rfl
 have m4:=hdc 4 _ rfl
 have m5:=hdc 5 _ rfl
 have m6:=hdc 6 _ rfl
 change wS.cell? ⟨db,dof,none⟩=_ at m0
 change wS.cell? ⟨db,dof+1,none⟩=_ at m1
 change wS.cell? ⟨db,dof+2,none⟩=_ at m2
 change wS.cell? ⟨db,dof+3,none⟩=_ at m3
 change wS.cell? ⟨db,dof+4,none⟩=_ at m4
 change wS.cell? ⟨db,dof+5,none⟩=_ at m5
 change wS.cell? ⟨db,dof+6,none⟩=_ at m6
 have hbP:=BoxAt.new wS #[.int .i64 0,.int .i64 dy,.string ⟨#[97,49]⟩,.string ⟨#[]⟩,.slice PA 1 pc,.int .i64 2,.int .i64 yr] 38
 have hZ:=below_alloc wS (.cells #[.int .i64 0,.int .i64 dy,.string ⟨#[97,49]⟩,.string ⟨#[]⟩,.slice PA 1 pc,.int .i64 2,.int .i64 yr] 38)
 have hszS:=hO.out.lt
 clear hdc
 go_upto_region 14 with fail
 clear m0 m1 m2 m3 m4 m5 m6
 obtain⟨z,hz9⟩:∃ z,(wS.alloc (.cells #[.int .i64 0,.int .i64 dy,.string ⟨#[97,49]⟩,.string ⟨#[]⟩,.slice PA 1 pc,.int .i64 2,.int .i64 yr] 38)).drew=z:=⟨_,rfl⟩
 replace hbP:=Lib.hid (hbP.below (Below.refl _ _).drew)
 replace hZ:=Lib.hid (below_step hZ (Below.refl _ _).drew)
 rw[hz9] at hbP hZ
 refine wp_region_heldZ (S:=Sc [(w4.heap.size,1,.slice none 0 0),(wS.heap.size,0,.int .i64 0),(wS.heap.size,1,.int .i64 dy),(wS.heap.size,2,.string ⟨#[97,49]⟩),(wS.heap.size,3,.string ⟨#[]⟩),(wS.heap.size,4,.slice PA 1 pc),(wS.heap.size,5,.int .i64 2),(wS.heap.size,6,.int .i64 yr)]) 7 (by kernel_rfl) (by rw[hz9];exact (Sc.mk (by simp only[cs_iff_cons];exact⟨(hO.out.below hZ.out).c 1 _ rfl,hbP.out.c 0 _ rfl,hbP.out.c 1 _ rfl,hbP.out.c 2 _ rfl,hbP.out.c 3 _ rfl,hbP.out.c 4 _ rfl,hbP.out.c 5 _ rfl,hbP.out.c 6 _ rfl,cs_nil _⟩))) (fun hHeld=>?_)
 rw[hz9] at hHeld ⊢
 clear hz9
 refine tkZx 0 54 ?_
 refine tkZx 1 55 ?_
 refine tkZx 2 56 ?_
 have hszz:=hZ.out.size
 refine ratZ 3 (by decide +kernel) rfl (fun K hK=>?_)
 rw[if_pos (by kernel_rfl)]
 go_simp
 refine (copied_grant PA pc dy yr _ (hpz.out _ (below_step hwX.out (below_step hb2.out hZ.out)))).mono ?_
 rintro e9 z2 ⟨PB,pb,rfl,hpB,hbn,hpBl⟩
 refine hK.out _ _ (hHeld.below hbn) (fun hH2=>?_)
 replace hZ:=Lib.hid (below_step hZ.out hbn)
 replace hbP:=Lib.hid (hbP.out.below hbn)
 clear hK K hHeld hbn
 have hHeld:=hH2
 clear hH2
 (try simp only[apS,apN,siA,scZ,scS])
 refine ratZ 4 (by decide +kernel) rfl (fun K hK=>?_)
 rw[if_pos (by kernel_rfl)]
 go_simp
 refine hK.out _ _ (hHeld.below (below_alloc _ _)) (fun hH2=>?_)
 clear hK K hHeld
 have hHeld:=hH2
 clear hH2
 (try simp only[apS,apN,siA,scZ,scS])
 have hba:=below_alloc z2 (.cells #[.int .i64 0,.int .i64 dy,.string ⟨#[97,49]⟩,.string ⟨#[]⟩,.slice PB 1 pb,.int .i64 2,.int .i64 yr] 38)
 have hZ3:=below_step hZ.out hba
 have hbP3:=hbP.out.below hba
 have hO3:=hO.out.below hZ3
 have hsz3:=hZ3.size
 refine ratZ 5 (by decide +kernel) rfl (fun K hK=>?_)
 refine step_append_rows elemDd (by rfl) (.tmp 55) (.tmp 58) (by rfl) (by rfl) (by rfl) (OwnL.nil _ (z2.alloc (.cells #[.int .i64 0,.int .i64 dy,.string ⟨#[97,49]⟩,.string ⟨#[]⟩,.slice PB 1 pb,.int .i64 2,.int .i64 yr] 38)).heap.size 38 7) (rowsAt_new z2 [.int .i64 0,.int .i64 dy,.string ⟨#[97,49]⟩,.string ⟨#[]⟩,.slice PB 1 pb,.int .i64 2,.int .i64 yr] 38) rfl (fun r hr=>by rw[List.mem_singleton.1 hr];rfl) (fun r hr u hu=>by rw[List.mem_singleton.1 hr] at hu;simp at hu;rcases hu with rfl | rfl | rfl | rfl | rfl | rfl | rfl <;> rfl) (by simp) (by decide) (by first | (simp;done) | omega) ?_
 intro rv z4 hor hgr _
 have hgr:(z2.alloc (.cells #[.int .i64 0,.int .i64 dy,.string ⟨#[97,49]⟩,.string ⟨#[]⟩,.slice PB 1 pb,.int .i64 2,.int .i64 yr] 38)).grownBy z4 none:=hgr
 have hne1:some w4.heap.size≠none:=by simp
 have hne2:some wS.heap.size≠none:=by simp
 have hszB:=Lib.hid hO3.lt
 have hO4:=hO3.grown hgr hne1
 have hbP4:=hbP3.grown hgr hne2
 refine hK.out _ _ (Sc.mk (by simp only[cs_iff_cons];exact⟨hO4.c 1 _ rfl,hbP4.c 0 _ rfl,hbP4.c 1 _ rfl,hbP4.c 2 _ rfl,hbP4.c 3 _ rfl,hbP4.c 4 _ rfl,hbP4.c 5 _ rfl,hbP4.c 6 _ rfl,cs_nil _⟩)) (fun hH2=>?_)
 clear hK K hHeld
 have hHeld:=hH2
 clear hH2
 (try simp only[apS,apN,siA,scZ,scS])
 obtain⟨RA,ra,hrv,_⟩:=OwnL.form hor
 have hrv2:rv=.slice RA 1 ra:=hrv
 subst hrv2
 refine tkZx 6 60 ?_
 have y0:=hO4.c 1 _ rfl;have y1:=hO4.free 1 (by simp)
 have hO5:Hid (BoxAt (z4.setCell ⟨w4.heap.size,1,none⟩ (.slice RA 1 ra)) w4.heap.size [.slice none 0 0,.slice RA 1 ra]):=hO4.set 1 _ (by simp)
 have hor5:=Lib.hid (hor.offF (B':=w4.heap.size) 1 (.slice RA 1 ra) (by have:=hszB.out;omega))
 have hg5:=grown_set z4 w4.heap.size 1 (.slice RA 1 ra)
 have hsz4:=hgr.size
 have hpB5:=Lib.hid (rows_far (rows_far (hpB.below hba) hgr (fun a e=>by simp)) hg5 (fun a e e2=>by have:=hpBl a e;have:=Option.some.inj e2;have:=hO.out.lt;have:=hZ.out.size;omega))
 have hb5:=Lib.hid (((below_step hb2.out hZ3).grown hgr (below_step hb2.out hZ3).size (fun g e=>by cases e)).setCell (p:=⟨w4.heap.size,1,none⟩) (by show X.heap.size≤w4.heap.size;exact hXw4) (.slice RA 1 ra))
 have hPBl5:=fun a (e:PB=some a)=>(show wS.heap.size≤a.block by have:=hpBl a e;have:=hZ.out.size;omega)
 clear hpB hpBl
 clear hO4 hbP4 hO3 hbP3 hor hrv hgr hg5 hba hZ3 hZ hbP hO hb hne1 hne2 hDl
 refine ratZc 7 (by decide +kernel) rfl (by decide +kernel) (fun K hK=>?_)
 rw[if_pos (by kernel_rfl)]
 go_simp
 refine hK.out _ _ ?_
 clear hK K
 (try simp only[apS,apN,siA,scZ,scS])
 refine wpAnyHY_done (by decide +kernel) ?_ _
 clear y0 y1 hHeld
 have ho:=hOz.out _ hb5.out
 obtain⟨o0,o1⟩:=hO5.out.c2
 go_wp2
 unfold unroll
 go_wp2_with (refine wpList_store_box rfl 28 (.tmp 4) (.tmp 62) rfl (w.heap.size+1+1) _ [.slice none 0 0,.slice RA 1 ra] (by rfl) (by rfl) ho rfl riSize5 (by kernel_rfl) ?_;intro w6 h6 hg6;clear ho o0 o1)
 have hRAb:=fun a (e:RA=some a)=>(hor5.out.lt a.block (by rw[e];rfl)).1
 refine bodyPost_ret (results_mid2 rfl _ _ (w.heap.size+1+1) [.slice none 0 0,.slice RA 1 ra] _ rfl h6.range Tryz.underlying28 rfl riSize5) rfl ⟨RA,ra,PB,pb,rfl,?_,?_,?_⟩
 ·exact rows_far (ownRows hor5.out) hg6 (fun a e e2=>by have:=hRAb a e;have:=Option.some.inj e2;omega)
 ·exact rows_far hpB5.out hg6 (fun a e e2=>by have:=hPBl5 a e;have:=Option.some.inj e2;omega)
 exact (below_step hwX.out hb5.out).grown hg6 (below_step hwX.out hb5.out).size (fun g e=>by have:=Option.some.inj e;omega)
end Go.Proofs.YtcnfhnndppollaaGreatDoor
namespace Go.Proofs.YtcnfhnndppollaaGreatDoor
open Go Go.RowKit Go.Maps Go.WideMaps
theorem part_any (s:ByteArray) (x y:Int) (w:World):Calls Tryz.prog 26 #[.string s,.int .i64 x,.int .i64 y] w fun e w'=>e=.returned (.agg #[.string s,.int .i64 x,.int .i64 y])∧Below w.heap.size w w':=by
 go_enter Tryz.func26,Tryz.ntmps26
 go_wp2
 refine bodyPost_ret (results_mid1 rfl _ _ (w.heap.size) [.string s,.int .i64 x,.int .i64 y] _ rfl (BoxAt.new w #[.string s,.int .i64 x,.int .i64 y] 35).range Tryz.underlying35 rfl (by kernel_rfl)) rfl ⟨rfl,below_alloc _ _⟩
theorem rowsAt_flat (w:World) (rows:List (List Value)) (m:Nat) (t:TypeId) (cs:Array Value) (hc:cs=rows.flatten.toArray) (hw:∀ r∈rows,r.length=m):RowsAt (w.alloc (.cells cs t)) (some ⟨w.heap.size,0,none⟩) m rows:=fun k r hr =>
 ⟨w.heap.size,0,rfl,by simp,fun j v hv=>by
  rw[cell_of_row _ _ _ cs t (0,0) (heap_alloc_new w _)]
  subst hc
  simpa using flat_get hw hr hv⟩
def FamRP (w:World) (e:Ending) (w':World):Prop:=∃ LA RA P1 P2 P3 P4 lc rc c1 c2 c3 c4,e=.returned (.agg #[.slice LA 2 lc,.slice RA 5 rc])∧RowsAt w' LA 4 (famLaws.map Lw.cells)∧RowsAt w' RA 7 [[.int .i64 6,.int .i64 0,.string ⟨#[]⟩,.string ⟨#[97,110,110]⟩,.slice (P1) 1 c1,.int .i64 0,.int .i64 0],[.int .i64 6,.int .i64 0,.string ⟨#[]⟩,.string ⟨#[97,110,110]⟩,.slice (P2) 1 c2,.int .i64 0,.int .i64 0],[.int .i64 7,.int .i64 0,.string ⟨#[]⟩,.string ⟨#[97,110,110]⟩,.slice (P3) 1 c3,.int .i64 0,.int .i64 0],[.int .i64 0,.int .i64 100,.string ⟨#[97,49]⟩,.string ⟨#[]⟩,.slice (P4) 1 c4,.int .i64 1,.int .i64 0],[.int .i64 8,.int .i64 200,.string ⟨#[]⟩,.string ⟨#[97,110,110]⟩,.slice none 0 0,.int .i64 0,.int .i64 0]] ∧
 RowsAt w' P1 3 ([⟨⟨#[98,111,98]⟩,0,0⟩].map Pa.cells)∧RowsAt w' P2 3 ([⟨⟨#[99,97,116]⟩,0,0⟩].map Pa.cells)∧RowsAt w' P3 3 ([⟨⟨#[100,97,110]⟩,0,0⟩].map Pa.cells)∧RowsAt w' P4 3 ([ann1].map Pa.cells)∧Below w.heap.size w w'
theorem Family_any (w:World):Calls Tryz.prog 12 #[] w (FamRP w):=by
 have hR:=BoxAt.new w #[.slice none 0 0,.slice none 0 0] 28
 have a1:=below_alloc w (.cells #[.slice none 0 0,.slice none 0 0] 28)
 have hL:=rowsAt_flat (w.alloc (.cells #[.slice none 0 0,.slice none 0 0] 28)) (famLaws.map Lw.cells) 4 56 #[.int .i64 0,.bool false,.int .i64 1,.int .i64 4,.int .i64 50000,.bool true,.int .i64 1,.int .i64 2] rfl (by decide)
 have a2:=below_alloc (w.alloc (.cells #[.slice none 0 0,.slice none 0 0] 28)) (.cells #[.int .i64 0,.bool false,.int .i64 1,.int .i64 4,.int .i64 50000,.bool true,.int .i64 1,.int .i64 2] 56)
 have h1:=rowsAt_new ((w.alloc (.cells #[.slice none 0 0,.slice none 0 0] 28)).alloc (.cells #[.int .i64 0,.bool false,.int .i64 1,.int .i64 4,.int .i64 50000,.bool true,.int .i64 1,.int .i64 2] 56)) [.string ⟨#[98,111,98]⟩,.int .i64 0,.int .i64 0] 35
 have a3:=below_alloc ((w.alloc (.cells #[.slice none 0 0,.slice none 0 0] 28)).alloc (.cells #[.int .i64 0,.bool false,.int .i64 1,.int .i64 4,.int .i64 50000,.bool true,.int .i64 1,.int .i64 2] 56)) (.cells #[.string ⟨#[98,111,98]⟩,.int .i64 0,.int .i64 0] 35)
 have h2:=rowsAt_new (((w.alloc (.cells #[.slice none 0 0,.slice none 0 0] 28)).alloc (.cells #[.int .i64 0,.bool false,.int .i64 1,.int .i64 4,.int .i64 50000,.bool true,.int .i64 1,.int .i64 2] 56)).alloc (.cells #[.string ⟨#[98,111,98]⟩,.int .i64 0,.int .i64 0] 35)) [.string ⟨#[99,97,116]⟩,.int .i64 0,.int .i64 0] 35
 have a4:=below_alloc (((w.alloc (.cells #[.slice none 0 0,.slice none 0 0] 28)).alloc (.cells #[.int .i64 0,.bool false,.int .i64 1,.int .i64 4,.int .i64 50000,.bool true,.int .i64 1,.int .i64 2] 56)).alloc (.cells #[.string ⟨#[98,111,98]⟩,.int .i64 0,.int .i64 0] 35)) (.cells #[.string ⟨#[99,97,116]⟩,.int .i64 0,.int .i64 0] 35)
 have h3:=rowsAt_new ((((w.alloc (.cells #[.slice none 0 0,.slice none 0 0] 28)).alloc (.cells #[.int .i64 0,.bool false,.int .i64 1,.int .i64 4,.int .i64 50000,.bool true,.int .i64 1,.int .i64 2] 56)).alloc (.cells #[.string ⟨#[98,111,98]⟩,.int .i64 0,.int .i64 0] 35)).alloc (.cells #[.string ⟨#[99,97,116]⟩,.int .i64 0,.int .i64 0] 35)) [.string ⟨#[100,97,110]⟩,.int .i64 0,.int .i64 0] 35
 have a5:=below_alloc ((((w.alloc (.cells #[.slice none 0 0,.slice none 0 0] 28)).alloc (.cells #[.int .i64 0,.bool false,.int .i64 1,.int .i64 4,.int .i64 50000,.bool true,.int .i64 1,.int .i64 2] 56)).alloc (.cells #[.string ⟨#[98,111,98]⟩,.int .i64 0,.int .i64 0] 35)).alloc (.cells #[.string ⟨#[99,97,116]⟩,.int .i64 0,.int .i64 0] 35)) (.cells #[.string ⟨#[100,97,110]⟩,.int .i64 0,.int .i64 0] 35)
 rw[World.size_alloc] at hL
 rw[World.size_alloc,World.size_alloc] at h1
 rw[World.size_alloc,World.size_alloc,World.size_alloc] at h2
 rw[World.size_alloc,World.size_alloc,World.size_alloc,World.size_alloc] at h3
 replace hR:=(((hR.below a2).below a3).below a4).below a5
 replace hL:=((hL.below a3).below a4).below a5
 replace h1:=(h1.below a4).below a5
 replace h2:=h2.below a5
 have ha:=below_step (below_step (below_step (below_step a1 a2) a3) a4) a5
 clear a1 a2 a3 a4 a5
 obtain⟨w5,hw5⟩:∃ w5,((((w.alloc (.cells #[.slice none 0 0,.slice none 0 0] 28)).alloc (.cells #[.int .i64 0,.bool false,.int .i64 1,.int .i64 4,.int .i64 50000,.bool true,.int .i64 1,.int .i64 2] 56)).alloc (.cells #[.string ⟨#[98,111,98]⟩,.int .i64 0,.int .i64 0] 35)).alloc (.cells #[.string ⟨#[99,97,116]⟩,.int .i64 0,.int .i64 0] 35)).alloc (.cells #[.string ⟨#[100,97,110]⟩,.int .i64 0,.int .i64 0] 35)=w5:=⟨_,rfl⟩
 rw[hw5] at hR hL h1 h2 h3 ha
 have hR:=Lib.hid hR
 have hL:=Lib.hid hL
 have h1:=Lib.hid h1
 have h2:=Lib.hid h2
 have h3:=Lib.hid h3
 have ha:=Lib.hid ha
 have hlL:=hR.out.lt
 go_enter Tryz.func12,Tryz.ntmps12
 go_wp2_with (first
  |(go_at_call 26;refine (part_any _ _ _ _).mono ?_;clear hw5;rintro e9 w6 ⟨rfl,hb6⟩;have b7:=below_alloc w6 (.cells #[.string ⟨#[97,110,110]⟩,.int .i64 1,.int .i64 1] 35);have h4:=rowsAt_new w6 [.string ⟨#[97,110,110]⟩,.int .i64 1,.int .i64 1] 35;have b8:=below_alloc (w6.alloc (.cells #[.string ⟨#[97,110,110]⟩,.int .i64 1,.int .i64 1] 35)) (.cells #[.int .i64 6,.int .i64 0,.string ⟨#[]⟩,.string ⟨#[97,110,110]⟩,.slice (some ⟨w.heap.size+1+1,0,none⟩) 1 1,.int .i64 0,.int .i64 0,.int .i64 6,.int .i64 0,.string ⟨#[]⟩,.string ⟨#[97,110,110]⟩,.slice (some ⟨w.heap.size+1+1+1,0,none⟩) 1 1,.int .i64 0,.int .i64 0,.int .i64 7,.int .i64 0,.string ⟨#[]⟩,.string ⟨#[97,110,110]⟩,.slice (some ⟨w.heap.size+1+1+1+1,0,none⟩) 1 1,.int .i64 0,.int .i64 0,.int .i64 0,.int .i64 100,.string ⟨#[97,49]⟩,.string ⟨#[]⟩,.slice (some ⟨w6.heap.size,0,none⟩) 1 1,.int .i64 1,.int .i64 0,.int .i64 8,.int .i64 200,.string ⟨#[]⟩,.string ⟨#[97,110,110]⟩,.slice none 0 0,.int .i64 0,.int .i64 0] 38);(have h5:=rowsAt_flat (w6.alloc (.cells #[.string ⟨#[97,110,110]⟩,.int .i64 1,.int .i64 1] 35)) [[.int .i64 6,.int .i64 0,.string ⟨#[]⟩,.string ⟨#[97,110,110]⟩,.slice (some ⟨w.heap.size+1+1,0,none⟩) 1 1,.int .i64 0,.int .i64 0],[.int .i64 6,.int .i64 0,.string ⟨#[]⟩,.string ⟨#[97,110,110]⟩,.slice (some ⟨w.heap.size+1+1+1,0,none⟩) 1 1,.int .i64 0,.int .i64 0],[.int .i64 7,.int .i64 0,.string ⟨#[]⟩,.string ⟨#[97,110,110]⟩,.slice (some ⟨w.heap.size+1+1+1+1,0,none⟩) 1 1,.int .i64 0,.int .i64 0],[.int .i64 0,.int .i64 100,.string ⟨#[97,49]⟩,.string ⟨#[]⟩,.slice (some ⟨w6.heap.size,0,none⟩) 1 1,.int .i64 1,.int .i64 0],[.int .i64 8,.int .i64 200,.string ⟨#[]⟩,.string ⟨#[97,110,110]⟩,.slice none 0 0,.int .i64 0,.int .i64 0]] 7 38 #[.int .i64 6,.int .i64 0,.string ⟨#[]⟩,.string ⟨#[97,110,110]⟩,.slice (some ⟨w.heap.size+1+1,0,none⟩) 1 1,.int .i64 0,.int .i64 0,.int .i64 6,.int .i64 0,.string ⟨#[]⟩,.string ⟨#[97,110,110]⟩,.slice (some ⟨w.heap.size+1+1+1,0,none⟩) 1 1,.int .i64 0,.int .i64 0,.int .i64 7,.int .i64 0,.string ⟨#[]⟩,.string ⟨#[97,110,110]⟩,.slice (some ⟨w.heap.size+1+1+1+1,0,none⟩) 1 1,.int .i64 0,.int .i64 0,.int .i64 0,.int .i64 100,.string ⟨#[97,49]⟩,.string ⟨#[]⟩,.slice (some ⟨w6.heap.size,0,none⟩) 1 1,.int .i64 1,.int .i64 0,.int .i64 8,.int .i64 200,.string ⟨#[]⟩,.string ⟨#[97,110,110]⟩,.slice none 0 0,.int .i64 0,.int .i64 0] rfl (fun r hr=>by simp at hr;rcases hr with rfl | rfl | rfl | rfl | rfl <;> rfl));rw[World.size_alloc] at h5;replace h4:=h4.below b8;have hbb:=below_step hb6 (below_step b7 b8);replace hR:=Lib.hid (hR.out.below hbb);replace hL:=Lib.hid (hL.out.below hbb);replace h1:=Lib.hid (h1.out.below hbb);replace h2:=Lib.hid (h2.out.below hbb);replace h3:=Lib.hid (h3.out.below hbb);replace ha:=Lib.hid (below_step ha.out hbb);have hs6:=hb6.size;replace h4:=Lib.hid h4;replace h5:=Lib.hid h5;clear hb6 b7 b8 hbb)
  |(refine wpList_store_box rfl 28 (.tmp 0) (.tmp 20) rfl w.heap.size _ [.slice (some ⟨w.heap.size+1,0,none⟩) 2 2,.slice (some ⟨w6.heap.size+1,0,none⟩) 5 5] (by rfl) (by rfl) hR.out rfl riSize5 (by kernel_rfl) ?_;intro wE hE hgE))
 have hne:∀ a b:Nat,a≠b→some a≠some b:=fun a b h9 e9=>h9 (Option.some.inj e9)
 refine bodyPost_ret (results_mid1 rfl _ _ w.heap.size [.slice (some ⟨w.heap.size+1,0,none⟩) 2 2,.slice (some ⟨w6.heap.size+1,0,none⟩) 5 5] _ rfl hE.range Tryz.underlying28 rfl riSize5) rfl ⟨_,_,_,_,_,_,_,_,_,_,_,_,rfl,rows_far hL.out hgE (fun a e=>hne _ _ (by cases e;simp)),rows_far h5.out hgE (fun a e=>hne _ _ (by cases e;simp;omega)),rows_far h1.out hgE (fun a e=>hne _ _ (by cases e;simp;omega)),rows_far h2.out hgE (fun a e=>hne _ _ (by cases e;simp;omega)),rows_far h3.out hgE (fun a e=>hne _ _ (by cases e;simp;omega)),rows_far h4.out hgE (fun a e=>hne _ _ (by cases e;simp;omega)),ha.out.grown hgE ha.out.size (fun g e=>by have:=Option.some.inj e;omega)⟩
end Go.Proofs.YtcnfhnndppollaaGreatDoor
namespace Go.Proofs.YtcnfhnndppollaaGreatDoor
open Go Go.RowKit
def Cal.ageAgg (a b m:Int):Value:=.agg #[.int .i64 (m / 12),.int .i64 (m % 12),.int .i64 (b-(Cal.laterS a m).1)]
theorem Cal.months_idx (a b:Int):12*(Cal.dY b-Cal.dY a)+Cal.dM b-Cal.dM a=Cal.idx b-Cal.idx a:=by unfold Cal.idx;omega
def Cal.AgePost (w:World) (a b:Int) (e:Ending) (w':World):Prop:=e=.returned (.tuple #[Cal.ageAgg a b (Cal.ageM a b),.int .i64 0])∧Below w.heap.size w w'
theorem Age_any (a b:Int) (h0:0≤a) (h:a≤b) (h1:b≤200000) (w:World) (hT:Tab w) :
  Calls Tryz.prog 11 #[.int .i64 a,.int .i64 b] w (Cal.AgePost w a b):=by
 have hda:=fun w1 (h:Below w.heap.size w w1)=>dateOf_any a h0 (by omega) w1 (hT.below h)
 have hdb:=fun w1 (h:Below w.heap.size w w1)=>dateOf_any b (by omega) h1 w1 (hT.below h)
 have hidx:=Cal.months_idx a b
 have hi0:=Cal.idx_mono h0 h h1
 have ya:=Cal.dY_bd a h0 (by omega)
 have yb:=Cal.dY_bd b (by omega) h1
 have ma:=Cal.date_spec a h0 (by omega)
 have mb:=Cal.date_spec b (by omega) (by omega)
 obtain⟨ma1,ma2,-,-,-⟩:=ma
 obtain⟨mb1,mb2,-,-,-⟩:=mb
 have hl0:=fun w1 (h:Below w.heap.size w w1)=>later_any a (12*(Cal.dY b-Cal.dY a)+Cal.dM b-Cal.dM a) h0 (by omega) (by omega) (by omega) w1 (hT.below h)
 have hl1:=fun w1 (h:Below w.heap.size w w1)=>later_any a (12*(Cal.dY b-Cal.dY a)+Cal.dM b-Cal.dM a-1) h0 (by omega) (by omega) (by omega) w1 (hT.below h)
 have hage:Cal.ageM a b=if Cal.Good a b (12*(Cal.dY b-Cal.dY a)+Cal.dM b-Cal.dM a) then (12*(Cal.dY b-Cal.dY a)+Cal.dM b-Cal.dM a) else (12*(Cal.dY b-Cal.dY a)+Cal.dM b-Cal.dM a)-1:=by rw[hidx];rfl
 have hgood:=Cal.age_good h0 h h1
 have hnn:=Cal.age_nonneg h0 h h1
 have hnl:=Cal.age_le h0 h h1
 clear hidx hi0
 have hda:=Lib.hid hda
 have hdb:=Lib.hid hdb
 generalize hM:12*(Cal.dY b-Cal.dY a)+Cal.dM b-Cal.dM a=M at hl0 hl1 hage
 have hMz:=Lib.hid hM
 clear hM
 rcases hq0:Cal.laterS a M with ⟨x0,k0⟩
 rw[hq0] at hl0
 rcases hq1:Cal.laterS a (M-1) with ⟨x1,k1⟩
 rw[hq1] at hl1
 have hx0:=Cal.laterS_nonneg h0 (show a≤200000 by omega) M
 have hx1:=Cal.laterS_nonneg h0 (show a≤200000 by omega) (M-1)
 rw[hq0] at hx0
 rw[hq1] at hx1
 simp only at hx0 hx1
 by_cases hg:Cal.Good a b M
 ·rw[if_pos hg] at hage
  rw[hage] at hnn hnl
  obtain⟨g1,g2⟩:=hg
  rw[hq0] at g1 g2
  simp only at g1 g2 hl0
  subst g1
  have hfin:Hid (Cal.ageAgg a b (Cal.ageM a b)=.agg #[.int .i64 (M / 12),.int .i64 (M % 12),.int .i64 (b-x0)]):=by show _=_;unfold Cal.ageAgg;rw[hage,hq0]
  have hl0:=Lib.hid hl0
  clear hage hq0 hq1 hl1 hgood
  go_enter Tryz.func11,Tryz.ntmps11
  go_wp2_with (((first | (go_at_call 20) | (go_at_call 6) | (go_at_call 19) | (fail) | (fail) | (fail) | (fail));first | refine rin ?_ | refine rout ?_ | refine rany ?_))
  refine (hda.out _ (by exact blw)).mono ?_
  rintro e w1 ⟨rfl,hb1⟩
  have hbw1:=Lib.hid hb1
  have hb1':=below_step (below_alloc w _) hb1
  have hbs1:=hb1'.size
  go_wp2_with fail
  refine (hdb.out _ hb1').mono ?_
  rintro e w2 ⟨rfl,hb2⟩
  have hbw2:=Lib.hid (below_step hbw1.out hb2)
  have hb2':=below_step hb1' hb2
  have hbs2:=hb2'.size
  clear hb1 hb1' hb2
  go_wp2_with fail
  rw[hMz.out]
  refine (hl0.out _ (by exact blw)).mono ?_
  rintro e w3 ⟨rfl,hb3⟩
  have hbw3:=Lib.hid (below_step (below_step (below_step hbw2.out (below_alloc _ _)) (below_alloc _ _)) hb3)
  clear hb3 hb2'
  go_wp2_with fail
  go_loopw [8,9,10] (fun m t k wr=>m=.int .i64 M∧t=.int .i64 x0∧k=.bool true∧Hid (Below (w.alloc (.cells #[.int .i64 0,.int .i64 0,.int .i64 0] 45)).heap.size (w.alloc (.cells #[.int .i64 0,.int .i64 0,.int .i64 0] 45)) wr)) (fun _ _ _ _=>0)
  case atStart=>exact⟨rfl,rfl,rfl,hbw3⟩
  case round =>
   obtain⟨rfl,rfl,rfl,hbr⟩:=hrel
   clear hbw3 hbw2 hbw1
   obtain⟨hc,hf⟩:=bcell hbr.out
   go_wp2_with fail
   refine bodyPost_ret (v:=.tuple #[.agg #[.int .i64 (M / 12),.int .i64 (M % 12),.int .i64 (b-x0)],.int .i64 0]) (by simp[results,Tryz.results11,go_sem,hc]) rfl ⟨by rw[hfin.out],?_⟩
   have hbs:=(below_step (below_alloc w _) hbr.out).size
   have hbq:=below_step (below_alloc w _) hbr.out
   exact blw
 rw[if_neg hg] at hage
 rw[hage] at hnn hnl hgood
 obtain⟨g1,g2⟩:=hgood
 rw[hq1] at g1 g2
 simp only at g1 g2 hl0 hl1
 subst g1
 have hfin:Hid (Cal.ageAgg a b (Cal.ageM a b)=.agg #[.int .i64 ((M-1) / 12),.int .i64 ((M-1) % 12),.int .i64 (b-x1)]):=by show _=_;unfold Cal.ageAgg;rw[hage,hq1]
 have hl0:=Lib.hid hl0
 have hl1:=Lib.hid hl1
 have hng:k0=false∨b<x0:=by
  cases k0
  ·exact .inl rfl
  right;apply Classical.byContradiction;intro hn;apply hg;unfold Cal.Good;rw[hq0];exact⟨rfl,by simp only;omega⟩
 clear hage hq0 hq1 hg
 have hmain:k0=false∨(k0=true∧b<x0):=by
  cases k0
  ·exact .inl rfl
  rcases hng with h | h
  ·cases h
  exact .inr ⟨rfl,h⟩
 clear hng
 rcases hmain with rfl | ⟨rfl,hbx⟩
 all_goals
  go_enter Tryz.func11,Tryz.ntmps11
  go_wp2_with (((first | (go_at_call 20) | (go_at_call 6) | (go_at_call 19) | (fail) | (fail) | (fail) | (fail));first | refine rin ?_ | refine rout ?_ | refine rany ?_))
  refine (hda.out _ (by exact blw)).mono ?_
  rintro e w1 ⟨rfl,hb1⟩
  have hbw1:=Lib.hid hb1
  have hb1':=below_step (below_alloc w _) hb1
  have hbs1:=hb1'.size
  go_wp2_with fail
  refine (hdb.out _ hb1').mono ?_
  rintro e w2 ⟨rfl,hb2⟩
  have hbw2:=Lib.hid (below_step hbw1.out hb2)
  have hb2':=below_step hb1' hb2
  have hbs2:=hb2'.size
  clear hb1 hb1' hb2
  go_wp2_with fail
  rw[hMz.out]
  refine (hl0.out _ (by exact blw)).mono ?_
  rintro e w3 ⟨rfl,hb3⟩
  have hbw3:=Lib.hid (below_step (below_step (below_step hbw2.out (below_alloc _ _)) (below_alloc _ _)) hb3)
  clear hb3 hb2'
  go_wp2_with fail
  go_loopw [8,9,10] (fun m t k wr=>((m=.int .i64 M∧t=.int .i64 x0∧k=_)∨(m=.int .i64 (M-1)∧t=.int .i64 x1∧k=.bool true))∧Hid (Below (w.alloc (.cells #[.int .i64 0,.int .i64 0,.int .i64 0] 45)).heap.size (w.alloc (.cells #[.int .i64 0,.int .i64 0,.int .i64 0] 45)) wr)) (fun m _ _ _=>(intOf m-(M-1)).toNat)
  case atStart=>exact⟨.inl ⟨rfl,rfl,rfl⟩,hbw3⟩
  case round =>
   obtain⟨⟨rfl,rfl,rfl⟩ | ⟨rfl,rfl,rfl⟩,hbr⟩:=hrel
   ·clear hbw3 hbw2 hbw1
    have hbq:=below_step (below_alloc w _) hbr.out
    go_wp2_with fail
    refine (hl1.out _ hbq).mono ?_
    rintro e w4 ⟨rfl,hb4⟩
    have hbw4:=Lib.hid (below_step hbr.out hb4)
    clear hb4 hbq
    go_wp2_with fail
    go_roundw
    case rel=>exact⟨.inr ⟨rfl,rfl,rfl⟩,hbw4⟩
    case measure=>simp[intOf];omega
   clear hbw3 hbw2 hbw1
   obtain⟨hc,hf⟩:=bcell hbr.out
   go_wp2_with fail
   refine bodyPost_ret (v:=.tuple #[.agg #[.int .i64 ((M-1) / 12),.int .i64 ((M-1) % 12),.int .i64 (b-x1)],.int .i64 0]) (by simp[results,Tryz.results11,go_sem,hc]) rfl ⟨by rw[hfin.out],?_⟩
   have hbs:=(below_step (below_alloc w _) hbr.out).size
   have hbq:=below_step (below_alloc w _) hbr.out
   exact blw
end Go.Proofs.YtcnfhnndppollaaGreatDoor
namespace Go.Proofs.YtcnfhnndppollaaGreatDoor
namespace Cal
theorem addS_ok {d n en:Int} (h:addS d n=(en,0)):0≤d∧d≤200000∧(laterS d n).2=true∧(laterS d n).1=en:=by
 unfold addS at h
 split at h
 ·rename_i h1
  obtain⟨a,b,_,_,c⟩:=h1
  exact⟨a,b,c,(Prod.mk.inj h).1⟩
 exact absurd (Prod.mk.inj h).2 (by decide)
theorem term_val {d n en:Int} (h:addS d n=(en,0)):en=mval (dD d) (idx d+n)∧en≤200000:=by
 obtain⟨h0,h1,h2,h3⟩:=addS_ok h
 rw[laterS_eq] at h2 h3
 split at h2
 ·rename_i hc
  rw[if_pos hc] at h3
  simp only[decide_eq_true_eq] at h2
  exact⟨h3.symm,by rw[←h3];exact h2⟩
 cases h2
theorem term_after {d n en:Int} (h:addS d n=(en,0)) (hn:1≤n):d<en:=by
 obtain⟨h0,h1,_,_⟩:=addS_ok h
 obtain⟨h4,_⟩:=term_val h
 have a:=(mfirst_idx (day:=d) h0 h1).2
 have b:=mfirst_mono (t:=idx d+1) (u:=idx d+n) (by omega)
 have c:=mval_lo (d:=dD d) (t:=idx d+n) (dD_pos (day:=d) h0 h1)
 omega
theorem term_idx {d n en:Int} (h:addS d n=(en,0)) (hn:1≤n):idx en=idx d+n:=by
 obtain⟨h0,h1,_,_⟩:=addS_ok h
 obtain⟨h4,h5⟩:=term_val h
 have h6:=term_after h hn
 have lo:=mval_lo (d:=dD d) (t:=idx d+n) (dD_pos (day:=d) h0 h1)
 have hi:=mval_hi (dD d) (idx d+n)
 have e:=mfirst_idx (day:=en) (by omega) h5
 rcases Int.lt_trichotomy (idx en) (idx d+n) with h7 | h7 | h7
 ·have:=mfirst_mono (t:=idx en+1) (u:=idx d+n) (by omega)
  omega
 ·exact h7
 have:=mfirst_mono (t:=idx d+n+1) (u:=idx en) (by omega)
 omega
theorem term_age {d n en:Int} (h:addS d n=(en,0)) (hn:1≤n):ageM d en=n:=by
 obtain⟨_,_,h2,h3⟩:=addS_ok h
 have h4:=term_idx h hn
 unfold ageM
 rw[show idx en-idx d=n by omega,if_pos]
 exact⟨h2,by rw[h3];exact Int.le_refl _⟩
theorem term_agg {d y en:Int} (h:addS d (12*y)=(en,0)) (hy:1≤y):ageAgg d en (ageM d en)=.agg #[.int .i64 y,.int .i64 0,.int .i64 0]:=by
 rw[term_age h (by omega)]
 unfold ageAgg
 rw[(addS_ok h).2.2.2,show 12*y / 12=y by omega,show 12*y % 12=0 by omega,Int.sub_self]
theorem addS_30:addS 30 1=(58,0):=by decide +kernel
end Cal
end Go.Proofs.YtcnfhnndppollaaGreatDoor
namespace Go.Proofs.YtcnfhnndppollaaGreatDoor
open Go Go.RowKit Go.Maps Go.WideMaps
theorem fam_rep {W:World} (e:Ending) (w':World) (h:FamP W e w'):RepQ FamG 5 W e w':=by
 obtain⟨h1,⟨k,fd,fk,fp,M,b,c,tc,TA,A,D,la,ct,h2,h4,h5⟩,h3⟩:=h
 exact⟨h1,⟨k,fd,fk,fp,M,b,c,tc,_,_,D,la,ct,h2,h4,h5⟩,h3⟩
theorem inherits_any (w:World) (hF:FTab w) (hT:Tab w):Calls Tryz.prog 4 #[] w fun e w'=>e=.returned (.bool true)∧Below w.heap.size w w':=by
 have hFz:=Lib.hid (fun W (hb9:Below w.heap.size w W)=>hF.below hb9)
 have hAz:=Lib.hid (fun W (hb9:Below w.heap.size w W)=>by
  have:=AddMonths_any 30 1 W (hT.below hb9)
  rw[Cal.addS_30] at this
  exact this)
 clear hF hT
 go_enter Tryz.func4,Tryz.ntmps4
 go_wp2_with (first
  |(go_at_call 12;refine (Family_any _).mono ?_;rintro e9 w2 ⟨LA,RA,P1,P2,P3,P4,lc,rc,c1,c2,c3,c4,rfl,hl,hr,h1,h2,h3,h4,hb2⟩;have hrep:=Lib.hid (fun day (q0:¬day<0) (q1:¬day<100) (q2:¬day<200) W (hb9:Below w2.heap.size w2 W)=>(replay_fam LA RA P1 P2 P3 P4 lc rc c1 c2 c3 c4 day W (hFz.out _ (below_step hb2 hb9)) (hl.below hb9) (hr.below hb9) (h1.below hb9) (h2.below hb9) (h3.below hb9) (h4.below hb9) q0 q1 q2).mono fam_rep);replace hb2:=Lib.hid hb2;clear hl hr h1 h2 h3 h4)
  |(go_at_call 10;refine (Holders_fam LA RA 2 lc 5 rc 5 5 FamG _ (fun W h9=>hrep.out 200000 (by decide) (by decide) (by decide) W h9) (fun W h9=>hrep.out 200 (by decide) (by decide) (by decide) W h9)).mono ?_;rintro e9 w3 ⟨EA,ec,rfl,her,hb3⟩;replace hb2:=Lib.hid (below_step hb2.out hb3);replace her:=Lib.hid her;clear hb3 hrep)
  |(go_at_call 8;refine (hAz.out _ hb2.out).mono ?_;rintro e9 w4 ⟨rfl,hb4⟩;obtain⟨eb,eo,hEA,_,⟨e0,e1,e2⟩,_⟩:=est_at (her.out.below hb4);have e3:w4.cell? ⟨eb,eo+1+1,none⟩=_:=e2;subst hEA;replace hb2:=Lib.hid (below_step hb2.out hb4);clear hb4))
 go_ret
 exact⟨rfl,hb2.out⟩
end Go.Proofs.YtcnfhnndppollaaGreatDoor
