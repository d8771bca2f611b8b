/- What the statements rest on: definitions and walks, part 20. -/
import Derived.Test.YtoojdkaimhlcbaaGreatJ19
import Derived.Test.YtoojdkaimhlcbaaGreatJ13
import Derived.Test.YtoojdkaimhlcbaaGreatJ14
set_option maxRecDepth 100000
set_option maxHeartbeats 16000000
set_option linter.unusedSimpArgs false
set_option linter.unusedVariables false
namespace Go.Proofs.YtoojdkaimhlcbaaGreat
open Go Go.RowKit Go.Shelf
theorem ex_heights:Cal.netE 3 (triLevs 2)=0∧(Cal.heightsP 2 (triLevs 2)).length=3∧(Cal.heightsP 2 (triLevs 2))[1]?=some (512,5):=by decide +kernel
theorem ex_bord:bordE (Cal.boxP 0 0 50 100) (Cal.boxP 50 0 100 50)=0:=by decide +kernel
theorem ex_bord2:(Cal.borderP (Cal.boxP 0 0 50 100) (Cal.boxP 50 0 100 50)).map sdR=[[.int .i64 50,.int .i64 0,.int .i64 50,.int .i64 50]]:=by kernel_rfl
theorem lawAwake_any (w:World):Calls Tryz.prog 4 #[] w fun e w'=>e=.returned (.bool true)∧Below w.heap.size w w':=by
 have hgap:=Lib.hid (fun A1 A2 A3 S W (h:SctR W (fieldS A1 A2 A3 S))=>by
  have:=Gap_any (fieldS A1 A2 A3 S) W h
  rw[field_zero,field_gap] at this
  exact this)
 have hhts:=Lib.hid (fun A c W (h:Levs W A (triLevs 2))=>by
  have:=Heights_any 3 A c (triLevs 2) W h
  rw[ex_heights.1,if_pos rfl] at this
  exact this)
 have hbor:=Lib.hid (fun A B c d W (h:PtsR W A (Cal.boxP 0 0 50 100)) (h2:PtsR W B (Cal.boxP 50 0 100 50))=>by
  have:=Border_any A B c d _ _ W h h2 (fun _=>by decide) (fun _=>by decide)
  rw[ex_bord] at this
  unfold bordL at this
  rw[if_pos rfl,ex_bord2] at this
  exact this)
 go_enter Tryz.func4,Tryz.ntmps4
 go_wp2_with fail
 refine (Field_any _).mono ?_
 rintro e w1 ⟨A1,A2,A3,S,rfl,hS1,hb1⟩
 have hS1:=Lib.hid hS1
 have hb1:=Lib.hid hb1
 go_wp2_with fail
 refine (hgap.out A1 A2 A3 S _ hS1.out).mono ?_
 rintro e w2 ⟨rfl,hb2⟩
 have hb2:=Lib.hid (below_step hb1.out hb2)
 clear hS1 hgap hb1
 go_wp2_with fail
 refine (lawTri_any _ _).mono ?_
 rintro e w3 ⟨A4,rfl,hL,hb3⟩
 have hL:=Lib.hid hL
 have hb3:=Lib.hid (below_step hb2.out hb3)
 go_wp2_with fail
 refine (hhts.out A4 3 _ hL.out).mono ?_
 rintro e w4 ⟨v4,rfl,ho4,hb4⟩
 obtain⟨A5,c5,rfl,hr5⟩:=ho4.form
 have hr5:=Lib.hid hr5
 have hb4:=Lib.hid (below_step hb3.out hb4)
 rw[List.length_map,show (Cal.heightsP ((3:Int).toNat-1) (triLevs 2)).length=3 from ex_heights.2.1]
 clear hL hhts hb2 hb3 ho4
 go_wp2_with fail
 refine (lawBox_any _ _ _ _ _).mono ?_
 rintro e w5 ⟨B1,rfl,_,hp1,hb5⟩
 have hp1:=Lib.hid hp1
 have hr5:=Lib.hid (hr5.out.below hb5)
 have hb5:=Lib.hid (below_step hb4.out hb5)
 go_wp2_with fail
 refine (lawBox_any _ _ _ _ _).mono ?_
 rintro e w6 ⟨B2,rfl,_,hp2,hb6⟩
 have hp2:=Lib.hid hp2
 have hp1:=Lib.hid (hp1.out.below hb6)
 have hr5:=Lib.hid (hr5.out.below hb6)
 have hb6:=Lib.hid (below_step hb5.out hb6)
 go_wp2_with fail
 refine (hbor.out _ _ _ _ _ hp1.out hp2.out).mono ?_
 rintro e w7 ⟨v7,rfl,ho7,hb7⟩
 obtain⟨A7,c7,rfl,hr7⟩:=ho7.form
 obtain⟨b7,o7,rfl,hl7,hc7⟩:=hr7 0 _ rfl
 have d0:w7.cell? ⟨b7,o7,none⟩=some (.int .i64 50):=hc7 0 _ rfl
 have d1:w7.cell? ⟨b7,o7+1,none⟩=some (.int .i64 0):=by have this:=hc7 1 _ rfl;rw[Nat.zero_mul,Nat.zero_add] at this;exact this
 have d2:w7.cell? ⟨b7,o7+2,none⟩=some (.int .i64 50):=by have this:=hc7 2 _ rfl;rw[Nat.zero_mul,Nat.zero_add] at this;exact this
 have d3:w7.cell? ⟨b7,o7+3,none⟩=some (.int .i64 50):=by have this:=hc7 3 _ rfl;rw[Nat.zero_mul,Nat.zero_add] at this;exact this
 have hr5:=hr5.out.below hb7
 obtain⟨b5,o5,rfl,hl5,hc5⟩:=hr5 1 (frR (512,5)) (by rw[List.getElem?_map,show (Cal.heightsP ((3:Int).toNat-1) (triLevs 2))[1]?=some (512,5) from ex_heights.2.2];rfl)
 have e0:w7.cell? ⟨b5,o5+2,none⟩=some (.int .i64 512):=hc5 0 _ rfl
 have e1:w7.cell? ⟨b5,o5+3,none⟩=some (.int .i64 5):=hc5 1 _ rfl
 have hb7:=Lib.hid (below_step hb6.out hb7)
 clear hp1 hp2 hbor hb4 hb5 hb6 hr5 hr7 hc7 hc5 ho7
 go_wp2_with fail
 go_ret
 exact⟨rfl,hb7.out⟩
end Go.Proofs.YtoojdkaimhlcbaaGreat
namespace Go.Proofs.YtoojdkaimhlcbaaGreat
open Go Go.RowKit Go.Sort
structure PrW (w:World) (S:Option Addr) (ps:List Prt) (W:World):Prop where
 bel:Below w.heap.size w W
 p:Prts W S ps
theorem PrW.below {w:World} {S:Option Addr} {ps:List Prt} {X Y:World} (h:PrW w S ps X) (hb:Below X.heap.size X Y):PrW w S ps Y:=⟨below_step h.bel hb,h.p.below hb⟩
theorem prtTo_lens {l:List Rn} {k:Nat}:∀ z∈Cal.prtTo l k,z.1.length≤l.length∧z.2.length≤l.length:=fun z hz=>by
 unfold Cal.prtTo at hz
 obtain⟨q,_,rfl⟩:=List.mem_map.1 hz
 refine⟨?_,?_⟩
 ·show (Cal.compO l q).length≤_
  refine Cal.lenO (Cal.oldT l) (by unfold Cal.compO;exact (Cal.tups_spec _).1) fun d hd=>?_
  obtain⟨j,hj,e⟩:=Cal.compO_mem.1 hd
  exact⟨j,hj.lt,e⟩
 show (Cal.compM l q).length≤_
 refine Cal.lenO (Cal.newT l) (by unfold Cal.compM;exact (Cal.tups_spec _).1) fun d hd=>?_
 obtain⟨j,hj,e⟩:=Cal.compM_mem.1 hd
 exact⟨j,hj.lt,e⟩
theorem GroundParts_any (A:Option Addr) (c:Nat) (l:List Rn) (x y:TxS) (w:World) (hR:RowsAt w A 2 (l.map rnR)) (hv:∀ p∈l,p.old.length≤maxLen∧p.new.length≤maxLen) (hX:RowsAt w x.A 1 (txtRows x.zs)) (hXl:∀ t∈x.zs,t.length≤maxLen) (hY:RowsAt w y.A 1 (txtRows y.zs)) (hYl:∀ t∈y.zs,t.length≤maxLen) :
  Calls Tryz.prog 3 #[.slice A l.length c,.agg #[.slice x.A x.zs.length x.c,.slice y.A y.zs.length y.c]] w fun e w'=>e=.returned (.bool true)∧Below w.heap.size w w':=by
 have hI:Hid (KrI w x y (w.alloc (.cells #[.slice x.A x.zs.length x.c,.slice y.A y.zs.length y.c] 25))):=⟨BoxAt.new w #[.slice x.A x.zs.length x.c,.slice y.A y.zs.length y.c] 25,below_alloc _ _⟩
 have hnm:Hid (∀ W,RowsAt W A 2 (l.map rnR)→Calls Tryz.prog 5 #[.slice A l.length c] W fun e w'=>e=.returned (.bool (namL l))∧Below W.heap.size W w'):=fun W hr=>lawNames_any A c l W hr
 replace hR:=Lib.hid hR
 (obtain⟨x0,x1⟩:=hI.out.bx.c2)
 cases hx:namL l
 ·rw[hx] at hnm
  go_enter Tryz.func3,Tryz.ntmps3
  go_wp2_with (first
   |(go_at_call 4;clear x0 x1;refine (lawAwake_any _).mono ?_;rintro e w1 ⟨rfl,hbn⟩;(replace hI:=Lib.hid (hI.out.below hbn);clear hbn;(obtain⟨x0,x1⟩:=hI.out.bx.c2)))
   |(go_at_call 5;clear x0 x1;refine (hnm.out _ (hR.out.below hI.out.bel)).mono ?_;clear hnm;rintro e w1 ⟨rfl,hbn⟩;(replace hI:=Lib.hid (hI.out.below hbn);clear hbn;(obtain⟨x0,x1⟩:=hI.out.bx.c2)))
   |(go_at_call 6;clear x0 x1;refine (KindOf_any x y _ (hX.out.below hI.out.bel) (hY.out.below hI.out.bel)).mono ?_;rintro e w1 ⟨rfl,hbn⟩;(replace hI:=Lib.hid (hI.out.below hbn);clear hbn;(obtain⟨x0,x1⟩:=hI.out.bx.c2)))
   |(go_at_call 7;clear x0 x1;refine (KindOfR_any x y _ (hX.out.below hI.out.bel) (hY.out.below hI.out.bel)).mono ?_;rintro e w1 ⟨rfl,hbn⟩;(replace hI:=Lib.hid (hI.out.below hbn);clear hbn;(obtain⟨x0,x1⟩:=hI.out.bx.c2)))
   |(go_at_call 8;clear x0 x1;refine (hpa.out _ (hR.out.below hI.out.bel)).mono ?_;clear hpa;rintro e w1 ⟨S,d,ps,rfl,hps,hpe,hbn⟩;replace hps:=Lib.hid hps;replace hpe:=Lib.hid hpe;(replace hI:=Lib.hid (hI.out.below hbn);clear hbn;(obtain⟨x0,x1⟩:=hI.out.bx.c2)))
   |(go_at_call 9;clear x0 x1;refine (hck.out _ (hR.out.below hI.out.bel)).mono ?_;clear hck;rintro e w1 ⟨rfl,hbn⟩;replace hps:=Lib.hid (hps.out.below hbn);(replace hI:=Lib.hid (hI.out.below hbn);clear hbn;(obtain⟨x0,x1⟩:=hI.out.bx.c2)))
   |(go_at_call 11;clear x0 x1;refine (hpr.out _ (hR.out.below hI.out.bel)).mono ?_;clear hpr;rintro e w1 ⟨S2,d2,qs,rfl,hqs,hqe,hbn⟩;replace hqs:=Lib.hid hqs;replace hqe:=Lib.hid hqe;replace hps:=Lib.hid (hps.out.below hbn);(replace hI:=Lib.hid (hI.out.below hbn);clear hbn;(obtain⟨x0,x1⟩:=hI.out.bx.c2)))
   |(go_at_call 10;clear x0 x1;refine (hsp.out S d ps S2 d2 qs _ hps.out hqs.out hpe.out hqe.out).mono ?_;clear hsp hqs hqe;rintro e w1 ⟨rfl,hbn⟩;replace hps:=Lib.hid (hps.out.below hbn);(replace hI:=Lib.hid (hI.out.below hbn);clear hbn;(obtain⟨x0,x1⟩:=hI.out.bx.c2))))
  go_ret
  exact⟨rfl,hI.out.bel⟩
 rw[hx] at hnm
 have hll:l.length≤210:=by
  unfold namL at hx
  simp only[Bool.and_eq_true,decide_eq_true_eq] at hx
  exact hx.1.2
 clear hx
 by_cases n1:210<x.zs.length
 ·have n2:210<(x.zs.length:Int):=by omega
  go_enter Tryz.func3,Tryz.ntmps3
  go_wp2_with (first
   |(go_at_call 4;clear x0 x1;refine (lawAwake_any _).mono ?_;rintro e w1 ⟨rfl,hbn⟩;(replace hI:=Lib.hid (hI.out.below hbn);clear hbn;(obtain⟨x0,x1⟩:=hI.out.bx.c2)))
   |(go_at_call 5;clear x0 x1;refine (hnm.out _ (hR.out.below hI.out.bel)).mono ?_;clear hnm;rintro e w1 ⟨rfl,hbn⟩;(replace hI:=Lib.hid (hI.out.below hbn);clear hbn;(obtain⟨x0,x1⟩:=hI.out.bx.c2)))
   |(go_at_call 6;clear x0 x1;refine (KindOf_any x y _ (hX.out.below hI.out.bel) (hY.out.below hI.out.bel)).mono ?_;rintro e w1 ⟨rfl,hbn⟩;(replace hI:=Lib.hid (hI.out.below hbn);clear hbn;(obtain⟨x0,x1⟩:=hI.out.bx.c2)))
   |(go_at_call 7;clear x0 x1;refine (KindOfR_any x y _ (hX.out.below hI.out.bel) (hY.out.below hI.out.bel)).mono ?_;rintro e w1 ⟨rfl,hbn⟩;(replace hI:=Lib.hid (hI.out.below hbn);clear hbn;(obtain⟨x0,x1⟩:=hI.out.bx.c2)))
   |(go_at_call 8;clear x0 x1;refine (hpa.out _ (hR.out.below hI.out.bel)).mono ?_;clear hpa;rintro e w1 ⟨S,d,ps,rfl,hps,hpe,hbn⟩;replace hps:=Lib.hid hps;replace hpe:=Lib.hid hpe;(replace hI:=Lib.hid (hI.out.below hbn);clear hbn;(obtain⟨x0,x1⟩:=hI.out.bx.c2)))
   |(go_at_call 9;clear x0 x1;refine (hck.out _ (hR.out.below hI.out.bel)).mono ?_;clear hck;rintro e w1 ⟨rfl,hbn⟩;replace hps:=Lib.hid (hps.out.below hbn);(replace hI:=Lib.hid (hI.out.below hbn);clear hbn;(obtain⟨x0,x1⟩:=hI.out.bx.c2)))
   |(go_at_call 11;clear x0 x1;refine (hpr.out _ (hR.out.below hI.out.bel)).mono ?_;clear hpr;rintro e w1 ⟨S2,d2,qs,rfl,hqs,hqe,hbn⟩;replace hqs:=Lib.hid hqs;replace hqe:=Lib.hid hqe;replace hps:=Lib.hid (hps.out.below hbn);(replace hI:=Lib.hid (hI.out.below hbn);clear hbn;(obtain⟨x0,x1⟩:=hI.out.bx.c2)))
   |(go_at_call 10;clear x0 x1;refine (hsp.out S d ps S2 d2 qs _ hps.out hqs.out hpe.out hqe.out).mono ?_;clear hsp hqs hqe;rintro e w1 ⟨rfl,hbn⟩;replace hps:=Lib.hid (hps.out.below hbn);(replace hI:=Lib.hid (hI.out.below hbn);clear hbn;(obtain⟨x0,x1⟩:=hI.out.bx.c2))))
  go_ret
  exact⟨rfl,hI.out.bel⟩
 have n2:¬210<(x.zs.length:Int):=by omega
 by_cases n3:210<y.zs.length
 ·have n4:210<(y.zs.length:Int):=by omega
  go_enter Tryz.func3,Tryz.ntmps3
  go_wp2_with (first
   |(go_at_call 4;clear x0 x1;refine (lawAwake_any _).mono ?_;rintro e w1 ⟨rfl,hbn⟩;(replace hI:=Lib.hid (hI.out.below hbn);clear hbn;(obtain⟨x0,x1⟩:=hI.out.bx.c2)))
   |(go_at_call 5;clear x0 x1;refine (hnm.out _ (hR.out.below hI.out.bel)).mono ?_;clear hnm;rintro e w1 ⟨rfl,hbn⟩;(replace hI:=Lib.hid (hI.out.below hbn);clear hbn;(obtain⟨x0,x1⟩:=hI.out.bx.c2)))
   |(go_at_call 6;clear x0 x1;refine (KindOf_any x y _ (hX.out.below hI.out.bel) (hY.out.below hI.out.bel)).mono ?_;rintro e w1 ⟨rfl,hbn⟩;(replace hI:=Lib.hid (hI.out.below hbn);clear hbn;(obtain⟨x0,x1⟩:=hI.out.bx.c2)))
   |(go_at_call 7;clear x0 x1;refine (KindOfR_any x y _ (hX.out.below hI.out.bel) (hY.out.below hI.out.bel)).mono ?_;rintro e w1 ⟨rfl,hbn⟩;(replace hI:=Lib.hid (hI.out.below hbn);clear hbn;(obtain⟨x0,x1⟩:=hI.out.bx.c2)))
   |(go_at_call 8;clear x0 x1;refine (hpa.out _ (hR.out.below hI.out.bel)).mono ?_;clear hpa;rintro e w1 ⟨S,d,ps,rfl,hps,hpe,hbn⟩;replace hps:=Lib.hid hps;replace hpe:=Lib.hid hpe;(replace hI:=Lib.hid (hI.out.below hbn);clear hbn;(obtain⟨x0,x1⟩:=hI.out.bx.c2)))
   |(go_at_call 9;clear x0 x1;refine (hck.out _ (hR.out.below hI.out.bel)).mono ?_;clear hck;rintro e w1 ⟨rfl,hbn⟩;replace hps:=Lib.hid (hps.out.below hbn);(replace hI:=Lib.hid (hI.out.below hbn);clear hbn;(obtain⟨x0,x1⟩:=hI.out.bx.c2)))
   |(go_at_call 11;clear x0 x1;refine (hpr.out _ (hR.out.below hI.out.bel)).mono ?_;clear hpr;rintro e w1 ⟨S2,d2,qs,rfl,hqs,hqe,hbn⟩;replace hqs:=Lib.hid hqs;replace hqe:=Lib.hid hqe;replace hps:=Lib.hid (hps.out.below hbn);(replace hI:=Lib.hid (hI.out.below hbn);clear hbn;(obtain⟨x0,x1⟩:=hI.out.bx.c2)))
   |(go_at_call 10;clear x0 x1;refine (hsp.out S d ps S2 d2 qs _ hps.out hqs.out hpe.out hqe.out).mono ?_;clear hsp hqs hqe;rintro e w1 ⟨rfl,hbn⟩;replace hps:=Lib.hid (hps.out.below hbn);(replace hI:=Lib.hid (hI.out.below hbn);clear hbn;(obtain⟨x0,x1⟩:=hI.out.bx.c2))))
  go_ret
  exact⟨rfl,hI.out.bel⟩
 have n4:¬210<(y.zs.length:Int):=by omega
 replace hX:Hid (TxSR w x):=⟨hX,by omega,hXl⟩
 replace hY:Hid (TxSR w y):=⟨hY,by omega,hYl⟩
 clear hXl hYl
 have hns:∀ W,RowsAt W A 2 (l.map rnR)→Rns W A l:=fun W hr=>⟨hr,by omega,hv⟩
 have hck:Hid (∀ W,RowsAt W A 2 (l.map rnR)→Calls Tryz.prog 9 #[.slice A l.length c] W fun e w'=>e=.returned (.int .i64 (Cal.numE l))∧Below W.heap.size W w'):=fun W hr=>CheckNumbersR_any A c l W (hns W hr)
 have hpa:Hid (∀ W,RowsAt W A 2 (l.map rnR)→Calls Tryz.prog 8 #[.slice A l.length c] W fun e w'=>∃ S d ps,e=.returned (.tuple #[.slice S ps.length d,.int .i64 (Cal.numE l)])∧Prts w' S ps∧ps.map Prt.two=(if Cal.numE l=0 then Cal.prtTo l l.length else [])∧Below W.heap.size W w'):=fun W hr=>Parts_any A c l W (hns W hr)
 by_cases h0:Cal.numE l=0
 ·have hl200:=(Cal.numE_zero.1 h0).1
  rw[h0] at hck hpa
  rw[if_pos rfl] at hpa
  have hpr:Hid (∀ W,RowsAt W A 2 (l.map rnR)→Calls Tryz.prog 11 #[.slice A l.length c] W fun e w'=>∃ S d ps,e=.returned (.slice S ps.length d)∧Prts w' S ps∧ps.map Prt.two=Cal.prtTo l l.length∧Below W.heap.size W w'):=fun W hr=>PartsR_any A c l W hr hl200
  have hsp:Hid (∀ S d ps S2 d2 qs W,Prts W S ps→Prts W S2 qs→ps.map Prt.two=Cal.prtTo l l.length→qs.map Prt.two=Cal.prtTo l l.length→Calls Tryz.prog 10 #[.slice S ps.length d,.slice S2 qs.length d2] W fun e w'=>e=.returned (.bool true)∧Below W.heap.size W w'):=fun S d ps S2 d2 qs W h1 h2 e1 e2=>by
   refine SamePartsR_any S d ps S2 d2 qs W h1 h2 (e1.trans e2.symm) (fun p hp=>?_) ?_
   ·have hm:p.two∈Cal.prtTo l l.length:=by rw[←e1];exact List.mem_map.2 ⟨p,hp,rfl⟩
    obtain⟨q1,q2⟩:=prtTo_lens _ hm
    have q3:p.O.length≤l.length:=q1
    have q4:p.M.length≤l.length:=q2
    exact⟨by omega,by omega⟩
   have h1:=congrArg List.length e1
   have h2:=Cal.prtTo_len l l.length
   rw[List.length_map] at h1
   omega
  have hone:Hid (∀ k (h:k<l.length),((Cal.prtTo l l.length).filter (Cal.hasR l[k])).length=1):=fun k h=>Cal.one_part h
  have hlen:=Lib.hid (fun z hz=>prtTo_lens (l:=l) (k:=l.length) z hz)
  have hpl:=Cal.prtTo_len l l.length
  clear hns h0 hv
  generalize Cal.prtTo l l.length=P9 at *
  go_enter Tryz.func3,Tryz.ntmps3
  go_wp2_with (first
   |(go_at_call 4;clear x0 x1;refine (lawAwake_any _).mono ?_;rintro e w1 ⟨rfl,hbn⟩;(replace hI:=Lib.hid (hI.out.below hbn);clear hbn;(obtain⟨x0,x1⟩:=hI.out.bx.c2)))
   |(go_at_call 5;clear x0 x1;refine (hnm.out _ (hR.out.below hI.out.bel)).mono ?_;clear hnm;rintro e w1 ⟨rfl,hbn⟩;(replace hI:=Lib.hid (hI.out.below hbn);clear hbn;(obtain⟨x0,x1⟩:=hI.out.bx.c2)))
   |(go_at_call 6;clear x0 x1;refine (KindOf_any x y _ (hX.out.below hI.out.bel) (hY.out.below hI.out.bel)).mono ?_;rintro e w1 ⟨rfl,hbn⟩;(replace hI:=Lib.hid (hI.out.below hbn);clear hbn;(obtain⟨x0,x1⟩:=hI.out.bx.c2)))
   |(go_at_call 7;clear x0 x1;refine (KindOfR_any x y _ (hX.out.below hI.out.bel) (hY.out.below hI.out.bel)).mono ?_;rintro e w1 ⟨rfl,hbn⟩;(replace hI:=Lib.hid (hI.out.below hbn);clear hbn;(obtain⟨x0,x1⟩:=hI.out.bx.c2)))
   |(go_at_call 8;clear x0 x1;refine (hpa.out _ (hR.out.below hI.out.bel)).mono ?_;clear hpa;rintro e w1 ⟨S,d,ps,rfl,hps,hpe,hbn⟩;replace hps:=Lib.hid hps;replace hpe:=Lib.hid hpe;(replace hI:=Lib.hid (hI.out.below hbn);clear hbn;(obtain⟨x0,x1⟩:=hI.out.bx.c2)))
   |(go_at_call 9;clear x0 x1;refine (hck.out _ (hR.out.below hI.out.bel)).mono ?_;clear hck;rintro e w1 ⟨rfl,hbn⟩;replace hps:=Lib.hid (hps.out.below hbn);(replace hI:=Lib.hid (hI.out.below hbn);clear hbn;(obtain⟨x0,x1⟩:=hI.out.bx.c2)))
   |(go_at_call 11;clear x0 x1;refine (hpr.out _ (hR.out.below hI.out.bel)).mono ?_;clear hpr;rintro e w1 ⟨S2,d2,qs,rfl,hqs,hqe,hbn⟩;replace hqs:=Lib.hid hqs;replace hqe:=Lib.hid hqe;replace hps:=Lib.hid (hps.out.below hbn);(replace hI:=Lib.hid (hI.out.below hbn);clear hbn;(obtain⟨x0,x1⟩:=hI.out.bx.c2)))
   |(go_at_call 10;clear x0 x1;refine (hsp.out S d ps S2 d2 qs _ hps.out hqs.out hpe.out hqe.out).mono ?_;clear hsp hqs hqe;rintro e w1 ⟨rfl,hbn⟩;replace hps:=Lib.hid (hps.out.below hbn);(replace hI:=Lib.hid (hI.out.below hbn);clear hbn;(obtain⟨x0,x1⟩:=hI.out.bx.c2))))
  have hW:=Lib.hid (show PrW w S ps _ from ⟨hI.out.bel,hps.out⟩)
  have hpn:Hid (ps.length=P9.length):=by show _=_;have:=congrArg List.length hpe.out;simpa using this
  clear hI hps x0 x1
  go_loopw [12] (fun iv wx=>∃ k:Nat,k≤l.length∧iv=.int .i64 k∧Hid (PrW w S ps wx)) (fun iv _=>l.length-(intOf iv).toNat)
  case atStart=>exact⟨0,Nat.zero_le _,rfl,hW⟩
  case round =>
   clear hW
   obtain⟨k,hk,rfl,hW⟩:=hrel
   by_cases hlt:k<l.length
   ·have hk':l[k]?=some l[k]:=List.getElem?_eq_getElem hlt
    obtain⟨b,o,rfl,hbl,ao,an,ha1,ha2,c0,c1⟩:=rn_at hR.out hk'
    have l0:=Lib.hid (fun W (hb:Below w.heap.size w W)=>(hb.cell (p:=⟨b,o+k*2,none⟩) hbl).trans c0)
    have l1:=Lib.hid (fun W (hb:Below w.heap.size w W)=>(hb.cell (p:=⟨b,o+k*2+1,none⟩) hbl).trans c1)
    have h1:=Lib.hid (hone.out k hlt)
    have hki:(k:Int)<(l.length:Int):=by omega
    clear hk' c0 c1
    generalize l[k]=z at *
    have hn0:Hid ((0:Int)=(((P9.take 0).filter (Cal.hasR z)).length:Int)):=rfl
    go_wp2_with fail
    go_loopw [13,14] (fun nv pv wx=>∃ (q:Nat) (n:Int),q≤ps.length∧pv=.int .i64 q∧nv=.int .i64 n∧Hid (n=(((P9.take q).filter (Cal.hasR z)).length:Int))∧Hid (PrW w S ps wx)) (fun _ pv _=>ps.length-(intOf pv).toNat)
    case atStart=>exact⟨0,0,Nat.zero_le _,rfl,rfl,hn0,hW⟩
    case round =>
     clear hn0 hW
     obtain⟨q,n,hq,rfl,rfl,hn,hW⟩:=hrel
     by_cases hqt:q<ps.length
     ·have hq':ps[q]?=some ps[q]:=List.getElem?_eq_getElem hqt
      have hqP:q<P9.length:=by have:=hpn.out;omega
      have htk:Hid ((P9.take (q+1)).filter (Cal.hasR z)=(P9.take q).filter (Cal.hasR z) ++ [ps[q].two].filter (Cal.hasR z)):=by
       show _=_
       have e1:P9[q]=ps[q].two:=by
        have:=congrArg (·[q]?) hpe.out
        simp only[List.getElem?_map,List.getElem?_eq_getElem hqt,List.getElem?_eq_getElem hqP,Option.map_some,Option.some.injEq] at this
        exact this.symm
       rw[List.take_succ_eq_append_getElem hqP,List.filter_append,e1]
      have hln:ps[q].O.length≤1000000∧ps[q].M.length≤1000000:=by
       have hm:ps[q].two∈P9:=by rw[←hpe.out];exact List.mem_map.2 ⟨_,List.getElem_mem hqt,rfl⟩
       obtain⟨g1,g2⟩:=hlen.out _ hm
       have q3:ps[q].O.length≤l.length:=g1
       have q4:ps[q].M.length≤l.length:=g2
       exact⟨by omega,by omega⟩
      obtain⟨bS,oS,rfl,_,s0,s1⟩:=prt_at hW.out.p.rows hq'
      obtain⟨t1,t2⟩:=hW.out.p.txt _ (List.getElem_mem hqt)
      have hqi:(q:Int)<(ps.length:Int):=by omega
      have hnb:(0:Int)≤n∧n≤300:=by
       have e:=hn.out
       have:=List.length_filter_le (Cal.hasR z) (P9.take q)
       rw[List.length_take] at this
       omega
      clear hq'
      generalize ps[q]=p at *
      have hha:Cal.hasR z p.two=(decide (ao.toList∈p.O) && decide (an.toList∈p.M)):=by unfold Cal.hasR Prt.two;rw[ha1,ha2]
      obtain⟨A1,y1,O,B1,y2,M⟩:=p
      dsimp only at *
      have hc1:=Lib.hid (fun W (hb:Below wr.heap.size wr W)=>HasText_any A1 y1 O ao W (t1.below hb) hln.1)
      have hc2:=Lib.hid (fun W (hb:Below wr.heap.size wr W)=>HasText_any B1 y2 M an W (t2.below hb) hln.2)
      have c0:=l0.out _ hW.out.bel
      have c1:=l1.out _ hW.out.bel
      have hno:Hid (Cal.hasR z (O,M)=false→n=(((P9.take (q+1)).filter (Cal.hasR z)).length:Int)):=fun h=>by
       rw[htk.out,show Prt.two ⟨A1,y1,O,B1,y2,M⟩=(O,M) from rfl,List.filter_cons_of_neg (by rw[h];decide),List.filter_nil,List.append_nil]
       exact hn.out
      have hyes:Hid (Cal.hasR z (O,M)=true→n+1=(((P9.take (q+1)).filter (Cal.hasR z)).length:Int)):=fun h=>by
       rw[htk.out,show Prt.two ⟨A1,y1,O,B1,y2,M⟩=(O,M) from rfl,List.filter_cons_of_pos h,List.filter_nil,List.length_append,List.length_singleton]
       have:=hn.out
       omega
      rw[show Prt.two ⟨A1,y1,O,B1,y2,M⟩=(O,M) from rfl] at hha
      have p1:IntKind.i64.wrap (n+1)=n+1:=wrap_small (by omega) (by omega)
      clear t1 t2 hln htk hn
      go_wp2_with fail
      refine wp_region_held_drew (S:=Sx wr [(bS,oS+q*2,.slice A1 O.length y1),(bS,oS+q*2+1,.slice B1 M.length y2),(b,o+k*2,.string ao),(b,o+k*2+1,.string an)]) (by kernel_rfl) (Sx.mk (by simp only[cs_iff_cons];exact⟨s0,s1,c0,c1,cs_nil _⟩) (Below.refl _ _)).drew (fun hHeld=>?_)
      clear s0 s1 c0 c1
      by_cases g1:ao.toList∈O
      ·rw[decide_eq_true g1] at hc1 hha
       by_cases g2:an.toList∈M
       ·rw[decide_eq_true g2] at hc2 hha
        have hnx:=Lib.hid (hyes.out hha)
        clear hha hyes hno g1 g2
        refine tkHx 0 88 ?_
        refine tkHx 1 89 ?_
        refine tkHx 2 90 ?_
        refine tkHx 3 91 ?_
        refine tkHx 4 92 ?_
        refine tkHx 5 93 ?_
        refine tkHx 6 94 ?_
        refine tkHx 7 95 ?_
        refine tkHx 8 96 ?_
        refine tkHx 9 97 ?_
        (refine ratHx 10 (fun K hK=>?_);go_simp)
        refine (hc1.out _ hHeld.bel).mono ?_
        rintro e wn ⟨rfl,hbn⟩
        go_simp
        (refine hK.out _ _ (hHeld.step hbn) (fun hHeld=>?_);clear hK K;(try simp only[apS,apN,siA,scZ,scS]))
        refine tkHx 11 99 ?_
        refine tkHx 12 100 ?_
        refine tkHx 13 101 ?_
        refine tkHx 14 102 ?_
        refine tkHx 15 103 ?_
        refine tkHx 16 104 ?_
        refine tkHx 17 105 ?_
        refine tkHx 18 106 ?_
        refine tkHx 19 107 ?_
        refine tkHx 20 108 ?_
        refine tkHx 21 109 ?_
        (refine ratHx 22 (fun K hK=>?_);go_simp)
        refine (hc2.out _ hHeld.bel).mono ?_
        rintro e wn ⟨rfl,hbn⟩
        go_simp
        (refine hK.out _ _ (hHeld.step hbn) (fun hHeld=>?_);clear hK K;(try simp only[apS,apN,siA,scZ,scS]))
        refine tkHx 23 111 ?_
        refine wpAnyH_done (by kernel_rfl) ?_ _
        (try simp only[apS,apN,siA,scZ,scS])
        replace hW:=Lib.hid (hW.out.below hHeld.bel)
        clear hHeld hc1 hc2
        go_wp2_with fail
        go_roundw
        case rel=>exact⟨q+1,n+1,by omega,by go_num,rfl,hnx,hW⟩
        case measure=>simp[intOf];omega
       rw[decide_eq_false g2] at hc2 hha
       have hnx:=Lib.hid (hno.out hha)
       clear hha hyes hno g1 g2
       refine tkHx 0 88 ?_
       refine tkHx 1 89 ?_
       refine tkHx 2 90 ?_
       refine tkHx 3 91 ?_
       refine tkHx 4 92 ?_
       refine tkHx 5 93 ?_
       refine tkHx 6 94 ?_
       refine tkHx 7 95 ?_
       refine tkHx 8 96 ?_
       refine tkHx 9 97 ?_
       (refine ratHx 10 (fun K hK=>?_);go_simp)
       refine (hc1.out _ hHeld.bel).mono ?_
       rintro e wn ⟨rfl,hbn⟩
       go_simp
       (refine hK.out _ _ (hHeld.step hbn) (fun hHeld=>?_);clear hK K;(try simp only[apS,apN,siA,scZ,scS]))
       refine tkHx 11 99 ?_
       refine tkHx 12 100 ?_
       refine tkHx 13 101 ?_
       refine tkHx 14 102 ?_
       refine tkHx 15 103 ?_
       refine tkHx 16 104 ?_
       refine tkHx 17 105 ?_
       refine tkHx 18 106 ?_
       refine tkHx 19 107 ?_
       refine tkHx 20 108 ?_
       refine tkHx 21 109 ?_
       (refine ratHx 22 (fun K hK=>?_);go_simp)
       refine (hc2.out _ hHeld.bel).mono ?_
       rintro e wn ⟨rfl,hbn⟩
       go_simp
       (refine hK.out _ _ (hHeld.step hbn) (fun hHeld=>?_);clear hK K;(try simp only[apS,apN,siA,scZ,scS]))
       refine tkHx 23 111 ?_
       refine wpAnyH_done (by kernel_rfl) ?_ _
       (try simp only[apS,apN,siA,scZ,scS])
       replace hW:=Lib.hid (hW.out.below hHeld.bel)
       clear hHeld hc1 hc2
       go_wp2_with fail
       go_roundw
       case rel=>exact⟨q+1,n,by omega,by go_num,rfl,hnx,hW⟩
       case measure=>simp[intOf];omega
      rw[decide_eq_false g1] at hc1 hha
      have hnx:=Lib.hid (hno.out hha)
      clear hha hyes hno g1 hc2
      refine tkHx 0 88 ?_
      refine tkHx 1 89 ?_
      refine tkHx 2 90 ?_
      refine tkHx 3 91 ?_
      refine tkHx 4 92 ?_
      refine tkHx 5 93 ?_
      refine tkHx 6 94 ?_
      refine tkHx 7 95 ?_
      refine tkHx 8 96 ?_
      refine tkHx 9 97 ?_
      (refine ratHx 10 (fun K hK=>?_);go_simp)
      refine (hc1.out _ hHeld.bel).mono ?_
      rintro e wn ⟨rfl,hbn⟩
      go_simp
      (refine hK.out _ _ (hHeld.step hbn) (fun hHeld=>?_);clear hK K;(try simp only[apS,apN,siA,scZ,scS]))
      refine tkHx 11 99 ?_
      refine tkFx 12 100 ?_
      refine tkFx 13 101 ?_
      refine tkFx 14 102 ?_
      refine tkFx 15 103 ?_
      refine tkFx 16 104 ?_
      refine tkFx 17 105 ?_
      refine tkFx 18 106 ?_
      refine tkFx 19 107 ?_
      refine tkFx 20 108 ?_
      refine tkFx 21 109 ?_
      refine tkFx 22 110 ?_
      refine tkHx 23 111 ?_
      refine wpAnyH_done (by kernel_rfl) ?_ _
      (try simp only[apS,apN,siA,scZ,scS])
      replace hW:=Lib.hid (hW.out.below hHeld.bel)
      clear hHeld hc1
      go_wp2_with fail
      go_roundw
      case rel=>exact⟨q+1,n,by omega,by go_num,rfl,hnx,hW⟩
      case measure=>simp[intOf];omega
     have hn1:n=1:=by
      have:=hn.out
      rw[List.take_of_length_le (by have:=hpn.out;omega),h1.out] at this
      exact this
     have hqi:¬(q:Int)<(ps.length:Int):=by omega
     subst hn1
     clear hn
     go_wp2_with fail
     go_roundw
     case rel=>exact⟨k+1,by omega,by go_num,hW⟩
     case measure=>simp[intOf];omega
   have hki:¬(k:Int)<(l.length:Int):=by omega
   go_wp2_with fail
   go_ret
   exact⟨rfl,hW.out.bel⟩
 rw[if_neg h0] at hpa
 have q1:(Cal.numE l == 0)=false:=by simpa using h0
 have q2:(Cal.numE l != 0)=true:=by simpa using h0
 have hpb:Hid (∀ W,RowsAt W A 2 (l.map rnR)→Calls Tryz.prog 8 #[.slice A l.length c] W fun e w'=>∃ S d ps,e=.returned (.tuple #[.slice S 0 d,.int .i64 (Cal.numE l)])∧Prts w' S ps∧True∧Below W.heap.size W w'):=fun W hr=>by
  refine (hpa.out W hr).mono ?_
  rintro e w' ⟨S,d,ps,rfl,h1,h2,h3⟩
  have:ps=[]:=List.map_eq_nil_iff.1 h2
  subst this
  exact⟨S,d,[],rfl,h1,trivial,h3⟩
 clear hpa hns h0 hv
 have hpa:=hpb
 clear hpb
 generalize Cal.numE l=E at *
 go_enter Tryz.func3,Tryz.ntmps3
 go_wp2_with (first
  |(go_at_call 4;clear x0 x1;refine (lawAwake_any _).mono ?_;rintro e w1 ⟨rfl,hbn⟩;(replace hI:=Lib.hid (hI.out.below hbn);clear hbn;(obtain⟨x0,x1⟩:=hI.out.bx.c2)))
  |(go_at_call 5;clear x0 x1;refine (hnm.out _ (hR.out.below hI.out.bel)).mono ?_;clear hnm;rintro e w1 ⟨rfl,hbn⟩;(replace hI:=Lib.hid (hI.out.below hbn);clear hbn;(obtain⟨x0,x1⟩:=hI.out.bx.c2)))
  |(go_at_call 6;clear x0 x1;refine (KindOf_any x y _ (hX.out.below hI.out.bel) (hY.out.below hI.out.bel)).mono ?_;rintro e w1 ⟨rfl,hbn⟩;(replace hI:=Lib.hid (hI.out.below hbn);clear hbn;(obtain⟨x0,x1⟩:=hI.out.bx.c2)))
  |(go_at_call 7;clear x0 x1;refine (KindOfR_any x y _ (hX.out.below hI.out.bel) (hY.out.below hI.out.bel)).mono ?_;rintro e w1 ⟨rfl,hbn⟩;(replace hI:=Lib.hid (hI.out.below hbn);clear hbn;(obtain⟨x0,x1⟩:=hI.out.bx.c2)))
  |(go_at_call 8;clear x0 x1;refine (hpa.out _ (hR.out.below hI.out.bel)).mono ?_;clear hpa;rintro e w1 ⟨S,d,ps,rfl,hps,hpe,hbn⟩;replace hps:=Lib.hid hps;replace hpe:=Lib.hid hpe;(replace hI:=Lib.hid (hI.out.below hbn);clear hbn;(obtain⟨x0,x1⟩:=hI.out.bx.c2)))
  |(go_at_call 9;clear x0 x1;refine (hck.out _ (hR.out.below hI.out.bel)).mono ?_;clear hck;rintro e w1 ⟨rfl,hbn⟩;replace hps:=Lib.hid (hps.out.below hbn);(replace hI:=Lib.hid (hI.out.below hbn);clear hbn;(obtain⟨x0,x1⟩:=hI.out.bx.c2)))
  |(go_at_call 11;clear x0 x1;refine (hpr.out _ (hR.out.below hI.out.bel)).mono ?_;clear hpr;rintro e w1 ⟨S2,d2,qs,rfl,hqs,hqe,hbn⟩;replace hqs:=Lib.hid hqs;replace hqe:=Lib.hid hqe;replace hps:=Lib.hid (hps.out.below hbn);(replace hI:=Lib.hid (hI.out.below hbn);clear hbn;(obtain⟨x0,x1⟩:=hI.out.bx.c2)))
  |(go_at_call 10;clear x0 x1;refine (hsp.out S d ps S2 d2 qs _ hps.out hqs.out hpe.out hqe.out).mono ?_;clear hsp hqs hqe;rintro e w1 ⟨rfl,hbn⟩;replace hps:=Lib.hid (hps.out.below hbn);(replace hI:=Lib.hid (hI.out.below hbn);clear hbn;(obtain⟨x0,x1⟩:=hI.out.bx.c2))))
 go_ret
 exact⟨by first | rfl | simp,hI.out.bel⟩
end Go.Proofs.YtoojdkaimhlcbaaGreat
