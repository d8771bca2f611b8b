/- What the statements rest on: definitions and walks, part 13. -/
import Derived.Test.YtcnfhnndppollaaGreatDoorJ12
set_option maxRecDepth 100000
set_option maxHeartbeats 16000000
set_option linter.unusedSimpArgs false
set_option linter.unusedVariables false
namespace Go.Proofs.YtcnfhnndppollaaGreatDoor
open Go Go.RowKit Go.Maps Go.WideMaps
theorem TermsEnd_Y (day years more en e2:Int) (w:World) (hF:FTab w) (hT:Tab w) (h0:0≤day∧day≤200000) (h1:1≤years∧years≤99) (h2:1≤more∧more≤99) (hadd:Cal.addS day (12*years)=(en,0)) (hadd2:Cal.addS en (12*more)=(e2,0)) :
  Calls Tryz.prog 3 #[.int .i64 day,.int .i64 years,.int .i64 more] w fun e w'=>e=.returned (.bool true)∧Below w.heap.size w w':=by
 have hFz:=Lib.hid (fun W (hb9:Below w.heap.size w W)=>hF.below hb9)
 have hTz:=Lib.hid (fun W (hb9:Below w.heap.size w W)=>hT.below hb9)
 have hinh:=Lib.hid (inherits_any w hF hT)
 have d1:=fun W=>ref5IsDay day W
 rw[dec_and_yes h0] at d1
 replace d1:=Lib.hid d1
 have d2:=fun W=>bWithin years 1 99 W
 rw[dec_and_yes h1] at d2
 replace d2:=Lib.hid d2
 have d3:=fun W=>bWithin more 1 99 W
 rw[dec_and_yes h2] at d3
 replace d3:=Lib.hid d3
 have hw1:IntKind.i64.wrap (12*years)=12*years:=wrap_sm (by omega) (by omega)
 have hw2:IntKind.i64.wrap (12*more)=12*more:=wrap_sm (by omega) (by omega)
 clear hF hT
 have haz:=fun W (hb9:Below w.heap.size w W)=>AddMonths_any day (12*years) W (hTz.out W hb9)
 rw[hadd] at haz
 replace haz:=Lib.hid haz
 have hde:=Cal.term_after hadd (by omega)
 have hen2:=(Cal.term_val hadd).2
 have hen:0≤en:=by omega
 have hage:=fun W (hb9:Below w.heap.size w W)=>Age_any day en h0.1 (by omega) hen2 W (hTz.out W hb9)
 unfold Cal.AgePost at hage
 rw[Cal.term_agg hadd h1.1] at hage
 replace hage:=Lib.hid hage
 have hneq:=date_neq years
 have hwe:IntKind.i64.wrap (en-1)=en-1:=wrap_sm (by omega) (by omega)
 have qs:Hid (¬(200000:Int)<day∧¬day<day∧¬en-1<day∧¬en<day):=⟨by omega,by omega,by omega,by omega⟩
 have be:Hid (0≤en-1∧en-1≤200000∧en-1<en∧en≤200000∧¬(en<0∨en<en)):=⟨by omega,by omega,by omega,hen2,by omega⟩
 have hdd:Hid (day≤en-1∧en-1<en∧en-1≤200000):=⟨by omega,by omega,by omega⟩
 have tok1:Hid True:=trivial
 have tok2:Hid True:=trivial
 have tok4:Hid True:=trivial
 replace hde:=Lib.hid hde
 replace hadd:=Lib.hid hadd
 clear hen2
 have haz2:=fun W (hb9:Below w.heap.size w W)=>AddMonths_any en (12*more) W (hTz.out W hb9)
 rw[hadd2] at haz2
 replace haz2:=Lib.hid haz2
 have hee0:=Cal.term_after hadd2 (by omega)
 have hee:Hid (en-1<e2∧en<e2):=⟨by omega,hee0⟩
 have he2:0≤e2:=by omega
 have qx:Hid (¬(200000:Int)<en-1∧¬en-1<en-1∧¬en<en-1):=⟨by have:=be.out;omega,by omega,by omega⟩
 clear hee0
 replace hadd2:=Lib.hid hadd2
 go_enter Tryz.func3,Tryz.ntmps3
 go_wp2_with (first
  |(go_at_call 4;refine hinh.out.mono ?_;rintro e9 w1 ⟨rfl,hb⟩;have hpn:=Lib.hid (rowsAt_new w1 [.string ⟨#[97,110,110]⟩,.int .i64 1,.int .i64 1] 35);replace hb:=Lib.hid (below_step hb (below_alloc w1 (.cells #[.string ⟨#[97,110,110]⟩,.int .i64 1,.int .i64 1] 35)));clear hinh)
     |(go_at_call 5;refine (d1.out _).mono ?_;clear d1;rintro e9 w9 ⟨rfl,rfl⟩)
     |(go_at_call 6;refine (d2.out _).mono ?_;clear d2;rintro e9 w9 ⟨rfl,rfl⟩)
     |(go_at_call 6;refine (d3.out _).mono ?_;clear d3;rintro e9 w9 ⟨rfl,rfl⟩)
  |(go_at_call 7;refine (Next_grant _ 1 day years en _ (hFz.out _ hb.out) (hTz.out _ hb.out) hpn.out h0 h1 hadd.out hen).mono ?_;rintro e9 w2 ⟨RB,rb,PB,pb,rfl,hRB,hPB,hbn⟩;have hba:=below_alloc w2 (.cells #[.slice none 0 0,.slice RB 1 rb] 28);have hR7:=BoxAt.new w2 #[.slice none 0 0,.slice RB 1 rb] 28;obtain⟨w3,hw3⟩:∃ w3,w2.alloc (.cells #[.slice none 0 0,.slice RB 1 rb] 28)=w3:=⟨_,rfl⟩;replace hRB:=hRB.below hba;replace hPB:=hPB.below hba;replace hb:=below_step (below_step hb.out hbn) hba;rw[hw3] at hRB hPB hR7 hb;have hrep:=Lib.hid (fun day2 (q0:¬day2<day) W (hb9:Below w3.heap.size w3 W)=>(replay_grant none RB PB 0 rb pb day2 day years en W (hFz.out _ (below_step hb hb9)) (hTz.out _ (below_step hb hb9)) (hRB.below hb9) (hPB.below hb9) h0 h1 q0 hadd.out hen).mono (fun e w9 h=>(h:RepQ (fun q W=>TermW q day 1 day en W) 1 W e w9)));have hRz:=Lib.hid (fun W (hb9:Below w3.heap.size w3 W)=>(⟨hRB.below hb9,hPB.below hb9,hR7.below hb9⟩:RowsAt W RB 7 [[.int .i64 0,.int .i64 day,.string ⟨#[97,49]⟩,.string ⟨#[]⟩,.slice PB 1 pb,.int .i64 2,.int .i64 years]]∧RowsAt W PB 3 ([ann1].map Pa.cells)∧BoxAt W w2.heap.size [.slice none 0 0,.slice RB 1 rb]));replace hb:=Lib.hid hb;clear hbn hpn hRB hPB hR7 hba)
  |(go_at_call 8;refine (haz.out _ hb.out).mono ?_;clear hw3 haz;rintro e9 w4 ⟨rfl,hbn⟩;have h3:=Lib.hid hbn;replace hb:=Lib.hid (below_step hb.out hbn);clear hbn;have r0:=(hRz.out _ h3.out).2.2.c 0 _ rfl;have r1:=(hRz.out _ h3.out).2.2.c 1 _ rfl)
  |(go_at_call 9;clear tok2;clear r0 r1;refine (Ends_term none RB 0 0 1 rb day 1 1 day 1 day en (fun q W=>TermW q day 1 day en W) _ h0.1 h0.2 hde.out (fun W h9=>hrep.out 200000 qs.out.1 W (below_step h3.out h9)) (fun W h9=>hrep.out day qs.out.2.1 W (below_step h3.out h9))).mono ?_;rintro e9 w5 ⟨rfl,hbn⟩;replace h3:=Lib.hid (below_step h3.out hbn);replace hb:=Lib.hid (below_step hb.out hbn);clear hbn;have r0:=(hRz.out _ h3.out).2.2.c 0 _ rfl;have r1:=(hRz.out _ h3.out).2.2.c 1 _ rfl)
  |(go_at_call 10;clear tok1;clear r0 r1;refine (Holders_term none RB 0 0 1 rb (en-1) 1 1 day 1 day en (fun q W=>TermW q day 1 day en W) _ be.out.1 be.out.2.1 be.out.2.2.1 (fun W h9=>hrep.out 200000 qs.out.1 W (below_step h3.out h9)) (fun W h9=>hrep.out (en-1) qs.out.2.2.1 W (below_step h3.out h9))).mono ?_;rintro e9 w6 ⟨HA,hc,rfl,_,hbn⟩;replace h3:=Lib.hid (below_step h3.out hbn);replace hb:=Lib.hid (below_step hb.out hbn);clear hbn;have r0:=(hRz.out _ h3.out).2.2.c 0 _ rfl;have r1:=(hRz.out _ h3.out).2.2.c 1 _ rfl)
  |(go_at_call 10;clear tok4;clear r0 r1;refine (Holders_over none RB 0 0 1 rb en 1 1 day 1 day en (fun q W=>TermW q day 1 day en W) _ hen be.out.2.2.2.1 be.out.2.2.2.2 (fun W h9=>hrep.out 200000 qs.out.1 W (below_step h3.out h9)) (fun W h9=>hrep.out en qs.out.2.2.2 W (below_step h3.out h9))).mono ?_;rintro e9 w7 ⟨rfl,hbn⟩;replace h3:=Lib.hid (below_step h3.out hbn);replace hb:=Lib.hid (below_step hb.out hbn);clear hbn)
  |(go_at_call 11;refine (hage.out _ hb.out).mono ?_;clear hage;rintro e9 w8 ⟨rfl,hbn⟩;have hba:=below_alloc w8 (.cells #[.int .i64 years,.int .i64 0,.int .i64 0] 45);replace h3:=Lib.hid (below_step (below_step h3.out hbn) hba);replace hb:=Lib.hid (below_step (below_step hb.out hbn) hba);clear hbn hba;have r0:=(hRz.out _ h3.out).2.2.c 0 _ rfl;have r1:=(hRz.out _ h3.out).2.2.c 1 _ rfl)
  |(go_at_call 7;clear r0 r1;refine (Next_ren RB PB rb pb day years en (en-1) more e2 _ (hFz.out _ hb.out) (hTz.out _ hb.out) (hRz.out _ h3.out).1 (hRz.out _ h3.out).2.1 h0 h1 hadd.out hen h2 hdd.out hadd2.out he2).mono ?_;rintro e9 w10 ⟨RX,rx,PX,px,rfl,hRX,hPX,hbn⟩;have hba:=below_alloc w10 (.cells #[.slice none 0 0,.slice RX 2 rx] 28);have hR7:=BoxAt.new w10 #[.slice none 0 0,.slice RX 2 rx] 28;obtain⟨w11,hw11⟩:∃ w11,w10.alloc (.cells #[.slice none 0 0,.slice RX 2 rx] 28)=w11:=⟨_,rfl⟩;replace hRX:=hRX.below hba;replace hPX:=hPX.below hba;replace hb:=below_step (below_step hb.out hbn) hba;rw[hw11] at hRX hPX hR7 hb;have hrex:=Lib.hid (fun day2 (q0:¬day2<day) (q1:¬day2<en-1) W (hb9:Below w11.heap.size w11 W)=>(replay_two none RX PX 0 rx px day2 day years en (en-1) more e2 W (hFz.out _ (below_step hb hb9)) (hTz.out _ (below_step hb hb9)) (hRX.below hb9) (hPX.below hb9) h0 h1 q0 hadd.out hen q1 h2 hadd2.out he2 hdd.out).mono (fun e w9 h=>(h:RepQ (fun q W=>TermW q (en-1) 2 day e2 W) 2 W e w9)));have hXz:=Lib.hid (fun W (hb9:Below w11.heap.size w11 W)=>hR7.below hb9);replace hb:=Lib.hid hb;clear hbn hRX hPX hR7 hba)
  |(go_at_call 8;refine (haz2.out _ hb.out).mono ?_;clear hw11;rintro e9 w12 ⟨rfl,hbn⟩;have h11:=Lib.hid hbn;replace hb:=Lib.hid (below_step hb.out hbn);clear hbn;have r0:=(hXz.out _ h11.out).c 0 _ rfl;have r1:=(hXz.out _ h11.out).c 1 _ rfl)
  |(go_at_call 9;clear r0 r1;refine (Ends_term none RX 0 0 2 rx (en-1) 2 2 (en-1) 2 day e2 (fun q W=>TermW q (en-1) 2 day e2 W) _ be.out.1 be.out.2.1 hee.out.1 (fun W h9=>hrex.out 200000 qs.out.1 qx.out.1 W (below_step h11.out h9)) (fun W h9=>hrex.out (en-1) qs.out.2.2.1 qx.out.2.1 W (below_step h11.out h9))).mono ?_;rintro e9 w13 ⟨rfl,hbn⟩;replace h11:=Lib.hid (below_step h11.out hbn);replace hb:=Lib.hid (below_step hb.out hbn);clear hbn;have r0:=(hXz.out _ h11.out).c 0 _ rfl;have r1:=(hXz.out _ h11.out).c 1 _ rfl;have tok3:Hid True:=trivial)
  |(go_at_call 10;clear tok3;clear r0 r1;refine (Holders_term none RX 0 0 2 rx en 2 2 (en-1) 2 day e2 (fun q W=>TermW q (en-1) 2 day e2 W) _ hen be.out.2.2.2.1 hee.out.2 (fun W h9=>hrex.out 200000 qs.out.1 qx.out.1 W (below_step h11.out h9)) (fun W h9=>hrex.out en qs.out.2.2.2 qx.out.2.2 W (below_step h11.out h9))).mono ?_;rintro e9 w14 ⟨HX,hxc,rfl,_,hbn⟩;replace hb:=Lib.hid (below_step hb.out hbn);clear hbn))
 go_ret
 exact⟨rfl,hb.out⟩
end Go.Proofs.YtcnfhnndppollaaGreatDoor
namespace Go.Proofs.YtcnfhnndppollaaGreatDoor
open Go Go.RowKit
theorem TermsEnd_any (day years more:Int) (w:World) (hF:FTab w) (hT:Tab w) :
  Calls Tryz.prog 3 #[.int .i64 day,.int .i64 years,.int .i64 more] w fun e w'=>e=.returned (.bool true)∧Below w.heap.size w w':=by
 by_cases h0:0≤day∧day≤200000
 ·by_cases h1:1≤years∧years≤99
  ·by_cases h2:1≤more∧more≤99
   ·by_cases h3:(Cal.addS day (12*years)).2=0
    ·have e3:Cal.addS day (12*years)=((Cal.addS day (12*years)).1,0):=Prod.ext rfl h3
     by_cases h4:(Cal.addS (Cal.addS day (12*years)).1 (12*more)).2=0
     ·have e4:Cal.addS (Cal.addS day (12*years)).1 (12*more)=((Cal.addS (Cal.addS day (12*years)).1 (12*more)).1,0):=Prod.ext rfl h4
      exact TermsEnd_Y day years more _ _ w hF hT h0 h1 h2 e3 e4
     exact TermsEnd_X2 day years more _ w hF hT h0 h1 h2 e3 h4
    exact TermsEnd_X day years more w hF hT h0 h1 h2 h3
   exact TermsEnd_no3 day years more w hF hT h0 h1 h2
  exact TermsEnd_no2 day years more w hF hT h0 h1
 exact TermsEnd_no1 day years more w hF hT h0
end Go.Proofs.YtcnfhnndppollaaGreatDoor
