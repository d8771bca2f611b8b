/- What the statements rest on: definitions and walks, part 06. -/
import Derived.Test.YtcnfhnndppollaaGreatDoorJ05
import Derived.DeepKeys4
set_option maxRecDepth 100000
set_option maxHeartbeats 16000000
set_option linter.unusedSimpArgs false
set_option linter.unusedVariables false
namespace Go.Proofs.YtcnfhnndppollaaGreatDoor
open Go Go.RowKit Go.Maps Go.WideMaps
theorem BoxAt.ofBlk {w w':World} {B:Nat} {cs:List Value} (h:BoxAt w B cs) (hb:w'.heap[B]?=w.heap[B]?) (hs:w.heap.size≤w'.heap.size):BoxAt w' B cs :=
 ⟨fun j v hv=>(World.cell?_of_block (a:=⟨B,0+j,none⟩) hb).trans (h.range j v hv),fun j hj=>(World.frozen?_of_block (a:=⟨B,j,none⟩) hb).trans (h.free j hj),Nat.lt_of_lt_of_le h.lt hs⟩
theorem Wd.belowN {W W':World} {q k B:Nat} {fd fk fp:List UInt8→Option Value} {M T:Value} {la ct:Int} (h:Wd W q k fd fk fp M T la ct) (hb:Below B W W') (hB:q+6<B):Wd W' q k fd fk fp M T la ct:=by
 obtain⟨n1,e1,m1⟩:=h.pd
 obtain⟨n2,e2,m2⟩:=h.pk
 obtain⟨n3,e3,m3⟩:=h.pp
 exact⟨h.box.ofBlk (hb.block _ hB) hb.size,⟨n1,e1,m1.below hb (by omega)⟩,⟨n2,e2,m2.below hb (by omega)⟩,⟨n3,e3,m3.below hb (by omega)⟩,(hb.block _ (by omega)).trans h.pl,(hb.block _ (by omega)).trans h.pr⟩
theorem Wd.setT {W:World} {q k:Nat} {fd fk fp:List UInt8→Option Value} {M T:Value} {la ct:Int} (h:Wd W q k fd fk fp M T la ct) (v:Value):Wd (W.setCell ⟨q+6,6,none⟩ v) q k fd fk fp M v la ct:=by
 have hg:=grown_set W (q+6) 6 v
 have hne:∀ b,b<q+6→some b≠some (q+6):=fun b hb e=>by have:=Option.some.inj e;omega
 have hl:=h.lt
 obtain⟨n1,e1,m1⟩:=h.pd
 obtain⟨n2,e2,m2⟩:=h.pk
 obtain⟨n3,e3,m3⟩:=h.pp
 exact⟨h.box.set 6 v (by simp),⟨n1,e1,m1.kept hg (hne _ (by omega))⟩,⟨n2,e2,m2.kept hg (hne _ (by omega))⟩,⟨n3,e3,m3.kept hg (hne _ (by omega))⟩,(hg.block _ (by omega) (hne _ (by omega))).trans h.pl,(hg.block _ (by omega) (hne _ (by omega))).trans h.pr⟩
theorem elemTb:Elem Tryz.prog 80 61 1 8:=Elem.mk' Tryz.underlying80 (z:=.pointer none) (by kernel_rfl) rfl (by decide)
def ann1:Pa:=⟨⟨#[97,110,110]⟩,1,1⟩
def GraP (q k:Nat) (fd fk fp:List UInt8→Option Value) (M:Value) (la ct cl dy en:Int) (w:World) (e:Ending) (w':World):Prop :=
 e=.returned (.int .i64 0)∧∃ b c tc A TA,Wd w' q k fd fk fp M (.slice TA 1 tc) la ct∧TbAt w' b 1 c cl dy en A TA (.slice none 0 0)∧OwnL w' (b+1) 35 3 (.slice A 1 c) ([ann1].map Pa.cells)∧q+7≤b∧Below (q+1) w w'∧w.grownBy w' (some (q+6))∧∀ a,TA=some a→a.block≠b∧q+7≤a.block
theorem grant_ever {q k:Nat} {fd fk fp:List UInt8→Option Value} {M:Value} {la ct:Int} (dy cl:Int) (c:Nat) (A:Option Addr) (w:World) (h:Wd w q k fd fk fp M (.slice none 0 0) la ct)
  (hr:RowsAt w A 3 ([ann1].map Pa.cells)) (hd:fd ann1.name.data.toList=none) :
  Calls Tryz.prog 35 #[.pointer (some ⟨q+6,0,none⟩),.agg #[.int .i64 0,.int .i64 dy,.string ⟨#[97,49]⟩,.string ⟨#[]⟩,.slice A 1 c,.int .i64 cl,.int .i64 0]] w (GraP q k fd fk fp M la ct cl dy (-1) w):=by
 obtain⟨b1,o1,hA,hbl,p0,p1,p2⟩:=pa_at hr
 subst hA
 have hz:=Lib.hid (fun W (hb:Below w.heap.size w W)=>pa_at (hr.below hb))
 have ha:=below_alloc w (.cells #[.int .i64 0,.int .i64 dy,.string ⟨#[97,49]⟩,.string ⟨#[]⟩,.slice (some ⟨b1,o1,none⟩) 1 c,.int .i64 cl,.int .i64 0] 38)
 have hx:=Lib.hid (BoxAt.new w #[.int .i64 0,.int .i64 dy,.string ⟨#[97,49]⟩,.string ⟨#[]⟩,.slice (some ⟨b1,o1,none⟩) 1 c,.int .i64 cl,.int .i64 0] 38)
 have hin:=Lib.hid (in_none ⟨#[97,49]⟩ dy _ (h.below ha))
 have hde:=Lib.hid (fun W (hb:Below w.heap.size w W)=>anyDead_one (some ⟨b1,o1,none⟩) c ann1 (by decide) hd W (h.below hb) (hr.below hb))
 have hwl:=h.lt
 replace h:=Lib.hid h
 replace ha:=Lib.hid ha
 clear p0 p1 p2 hbl hr
 go_enter Tryz.func35,Tryz.ntmps35
 go_wp2_with (first
  |(go_at_call 24;refine hin.out.mono ?_;rintro e9 w2 ⟨rfl,hbn⟩;replace hx:=Lib.hid (hx.out.below hbn);replace ha:=Lib.hid (below_step ha.out hbn);clear hbn hin;have x1:=hx.out.c 1 _ rfl;have x2:=hx.out.c 2 _ rfl;have x4:=hx.out.c 4 _ rfl;have x5:=hx.out.c 5 _ rfl;have x6:=hx.out.c 6 _ rfl)
  |(go_at_call 53;clear x1 x2 x4 x5 x6;refine (hde.out _ ha.out).mono ?_;rintro e9 w3 ⟨rfl,hbn⟩;replace hx:=Lib.hid (hx.out.below hbn);replace ha:=Lib.hid (below_step ha.out hbn);clear hbn hde;have x1:=hx.out.c 1 _ rfl;have x2:=hx.out.c 2 _ rfl;have x5:=hx.out.c 5 _ rfl;have x6:=hx.out.c 6 _ rfl;have t0:=below_alloc w3 (.cells #[.string ⟨#[97,49]⟩,.int .i64 cl,.int .i64 dy,.int .i64 (-1),.slice none 0 0,.slice none 0 0] 66);have x4:=(hx.out.below t0).c 4 _ rfl))
 clear x1 x2 x5 x6
 have hw3:=ha.out.size
 have hT:=BoxAt.new w3 #[.string ⟨#[97,49]⟩,.int .i64 cl,.int .i64 dy,.int .i64 (-1),.slice none 0 0,.slice none 0 0] 66
 have haY:=below_step ha.out t0
 obtain⟨Y,hY⟩:∃ Y,w3.alloc (.cells #[.string ⟨#[97,49]⟩,.int .i64 cl,.int .i64 dy,.int .i64 (-1),.slice none 0 0,.slice none 0 0] 66)=Y:=⟨_,rfl⟩
 rw[hY] at hT haY t0 x4 ⊢
 clear hY x4
 obtain⟨b9,o9,hA9,_,p0,p1,p2⟩:=hz.out _ haY
 cases hA9
 have hpb:=below_alloc Y (.cells #[.string ⟨#[97,110,110]⟩,.int .i64 1,.int .i64 1] 35)
 have hset:=Lib.hid (set_put w3.heap.size 0 0 ⟨#[97,49]⟩ ⟨#[97,110,110]⟩ cl dy (-1) 1 1 none (.slice none 0 0) [] _ (hT.below hpb) (OwnL.nil _ _ _ _) (by simp) rfl (fun W _=>Search_nil none 0 ⟨#[97,110,110]⟩ W))
 have hh:=Lib.hid ((h.out.below haY).below hpb)
 have hbY:=Lib.hid (below_step haY hpb)
 have hbz:Hid (w3.heap.size<Y.heap.size):=hT.lt
 clear hT haY hpb t0 hx hz h ha
 refine wp_unroll 2 ?_
 unfold unroll
 go_wp2_with (go_at_call 55;clear p0 p1 p2;refine hset.out.mono ?_;clear hset;rintro e9 w5 ⟨rfl,A5,n5,c5,hx5,ho5,hb5,_⟩)
 obtain⟨hn5,hc5⟩:=ho5.capN
 have hn6:n5=1:=by simpa using hn5
 subst hn6
 clear hn5
 have hh5:=hh.out.belowN hb5 (by omega)
 have hB5:Below (q+1) w w5:=(hbY.out.mono (by omega)).trans (hb5.mono (by omega))
 have hl5:=hh5.lt
 have hG5:=Lib.hid (below_grown (hbY.out.trans (hb5.mono hw3)) (some (q+6)))
 have b6:=hh5.box.c 6 _ rfl
 have hx5l:=hx5.lt
 have hx5:=Lib.hid hx5
 have ho5:=Lib.hid ho5
 have hh5:=Lib.hid hh5
 have hB5:=Lib.hid hB5
 clear hb5 hh hbY hc5
 unfold unroll
 go_wp2_with (at_builtin;refine wpList_append_rows elemTb rfl _ _ rfl rfl rfl (OwnL.nil _ (w3.heap.size+1) 61 1) (rowsAt_new w5 [.pointer (some ⟨w3.heap.size,0,none⟩)] 61) rfl (fun r hr=>by rw[List.mem_singleton.1 hr];rfl) (fun r hr u hu=>by rw[List.mem_singleton.1 hr] at hu;rw[List.mem_singleton.1 hu];rfl) (by simp) (by decide) (by simp;omega) ?_;intro v' w6 hown hg _;clear b6;have hba:=below_alloc w5 (.cells #[.pointer (some ⟨w3.heap.size,0,none⟩)] 61);have h6:=(hh5.out.below hba).grown hg (fun g e=>by cases e);have hx6:=(hx5.out.below hba).grown hg (fun e=>by cases e);have hg2:(w5.alloc (.cells #[.pointer (some ⟨w3.heap.size,0,none⟩)] 61)).grownBy w6 none:=hg;have ho6:=(ho5.out.below hba).kept hg2 (by rcases h9:Value.ownBlock (.slice A5 1 c5) with _ | g9 <;> simp);clear hg2;have hb6:Below (q+1) w w6:=hB5.out.trans ((hba.mono (by omega)).trans (grown_below hg (fun g e=>by cases e) (by simp;omega)));have hgr:=Lib.hid ((hG5.out.trans (World.grownBy_alloc w5 (.cells #[.pointer (some ⟨w3.heap.size,0,none⟩)] 61) (some (q+6)))).trans (grown_any hg (some (q+6))));have y0:=h6.box.c 6 _ rfl;have y1:=h6.box.free 6 (by simp);obtain⟨A7,c7,hv7,hr7⟩:=OwnL.form hown;have hrw:RowsAt w6 A7 1 [[.pointer (some ⟨w3.heap.size,0,none⟩)]]:=hr7;have hA7:=fun a (e:A7=some a)=>(hown.lt a.block (by rw[hv7,e];rfl)).1;subst hv7;replace hrw:=Lib.hid hrw;replace hA7:=Lib.hid hA7;replace h6:=Lib.hid h6;replace hx6:=Lib.hid hx6;replace ho6:=Lib.hid ho6;replace hb6:=Lib.hid hb6;clear hg hown hr7 hba)
 clear y0 y1
 go_ret
 exact⟨rfl,w3.heap.size,c5,c7,A5,A7,h6.out.setT _,⟨rows_far hrw.out (grown_set w6 (q+6) 6 _) (fun a e e2=>by have:=hA7.out a e;have:=Option.some.inj e2;omega),hx6.out.offF (B':=q+6) 6 _ (by omega)⟩,ho6.out.offF (B':=q+6) 6 _ (by omega),by omega,hb6.out.setCell (p:=⟨q+6,6,none⟩) (by show q+1≤q+6;omega) _,hgr.out.trans (grown_set w6 (q+6) 6 _),fun a e=>by have:=hA7.out a e;omega⟩
end Go.Proofs.YtcnfhnndppollaaGreatDoor
namespace Go.Proofs.YtcnfhnndppollaaGreatDoor
open Go Go.RowKit Go.Maps Go.WideMaps
theorem grant_term {q k:Nat} {fd fk fp:List UInt8→Option Value} {M:Value} {la ct:Int} (dy cl yr en:Int) (c:Nat) (A:Option Addr) (w:World) (h:Wd w q k fd fk fp M (.slice none 0 0) la ct)
  (hr:RowsAt w A 3 ([ann1].map Pa.cells)) (hd:fd ann1.name.data.toList=none) (hyr:0<yr) (hen:0≤en) (hlat:∀ W,Below w.heap.size w W→Calls Tryz.prog 54 #[.int .i64 dy,.int .i64 yr] W fun e w'=>e=.returned (.int .i64 en)∧Below W.heap.size W w') :
  Calls Tryz.prog 35 #[.pointer (some ⟨q+6,0,none⟩),.agg #[.int .i64 0,.int .i64 dy,.string ⟨#[97,49]⟩,.string ⟨#[]⟩,.slice A 1 c,.int .i64 cl,.int .i64 yr]] w (GraP q k fd fk fp M la ct cl dy en w):=by
 obtain⟨b1,o1,hA,hbl,p0,p1,p2⟩:=pa_at hr
 subst hA
 have hz:=Lib.hid (fun W (hb:Below w.heap.size w W)=>pa_at (hr.below hb))
 have ha:=below_alloc w (.cells #[.int .i64 0,.int .i64 dy,.string ⟨#[97,49]⟩,.string ⟨#[]⟩,.slice (some ⟨b1,o1,none⟩) 1 c,.int .i64 cl,.int .i64 yr] 38)
 have hx:=Lib.hid (BoxAt.new w #[.int .i64 0,.int .i64 dy,.string ⟨#[97,49]⟩,.string ⟨#[]⟩,.slice (some ⟨b1,o1,none⟩) 1 c,.int .i64 cl,.int .i64 yr] 38)
 have hin:=Lib.hid (in_none ⟨#[97,49]⟩ dy _ (h.below ha))
 have hde:=Lib.hid (fun W (hb:Below w.heap.size w W)=>anyDead_one (some ⟨b1,o1,none⟩) c ann1 (by decide) hd W (h.below hb) (hr.below hb))
 have hwl:=h.lt
 replace h:=Lib.hid h
 replace ha:=Lib.hid ha
 have hlat:=Lib.hid hlat
 have hen9:¬en<0:=by omega
 clear p0 p1 p2 hbl hr
 go_enter Tryz.func35,Tryz.ntmps35
 go_wp2_with (first
  |(go_at_call 24;refine hin.out.mono ?_;rintro e9 w2 ⟨rfl,hbn⟩;replace hx:=Lib.hid (hx.out.below hbn);replace ha:=Lib.hid (below_step ha.out hbn);clear hbn hin;have x1:=hx.out.c 1 _ rfl;have x2:=hx.out.c 2 _ rfl;have x4:=hx.out.c 4 _ rfl;have x5:=hx.out.c 5 _ rfl;have x6:=hx.out.c 6 _ rfl)
  |(go_at_call 53;clear x1 x2 x4 x5 x6;refine (hde.out _ ha.out).mono ?_;rintro e9 w3 ⟨rfl,hbn⟩;replace hx:=Lib.hid (hx.out.below hbn);replace ha:=Lib.hid (below_step ha.out hbn);clear hbn hde;have x1:=hx.out.c 1 _ rfl;have x2:=hx.out.c 2 _ rfl;have x6:=hx.out.c 6 _ rfl)
  |(go_at_call 54;clear x1 x2 x6;refine (hlat.out _ ha.out).mono ?_;rintro e9 w4 ⟨rfl,hbn⟩;replace hx:=Lib.hid (hx.out.below hbn);replace ha:=Lib.hid (below_step ha.out hbn);clear hbn hlat;have x1:=hx.out.c 1 _ rfl;have x2:=hx.out.c 2 _ rfl;have x5:=hx.out.c 5 _ rfl;have x6:=hx.out.c 6 _ rfl;have t0:=below_alloc w4 (.cells #[.string ⟨#[97,49]⟩,.int .i64 cl,.int .i64 dy,.int .i64 en,.slice none 0 0,.slice none 0 0] 66);have x4:=(hx.out.below t0).c 4 _ rfl))
 clear x1 x2 x5 x6
 have hw4:=ha.out.size
 have hT:=BoxAt.new w4 #[.string ⟨#[97,49]⟩,.int .i64 cl,.int .i64 dy,.int .i64 en,.slice none 0 0,.slice none 0 0] 66
 have haY:=below_step ha.out t0
 obtain⟨Y,hY⟩:∃ Y,w4.alloc (.cells #[.string ⟨#[97,49]⟩,.int .i64 cl,.int .i64 dy,.int .i64 en,.slice none 0 0,.slice none 0 0] 66)=Y:=⟨_,rfl⟩
 rw[hY] at hT haY t0 x4 ⊢
 clear hY x4
 obtain⟨b9,o9,hA9,_,p0,p1,p2⟩:=hz.out _ haY
 cases hA9
 have hpb:=below_alloc Y (.cells #[.string ⟨#[97,110,110]⟩,.int .i64 1,.int .i64 1] 35)
 have hset:=Lib.hid (set_put w4.heap.size 0 0 ⟨#[97,49]⟩ ⟨#[97,110,110]⟩ cl dy en 1 1 none (.slice none 0 0) [] _ (hT.below hpb) (OwnL.nil _ _ _ _) (by simp) rfl (fun W _=>Search_nil none 0 ⟨#[97,110,110]⟩ W))
 have hh:=Lib.hid ((h.out.below haY).below hpb)
 have hbY:=Lib.hid (below_step haY hpb)
 have hbz:Hid (w4.heap.size<Y.heap.size):=hT.lt
 clear hT haY hpb t0 hx hz h ha
 refine wp_unroll 2 ?_
 unfold unroll
 go_wp2_with (go_at_call 55;clear p0 p1 p2;refine hset.out.mono ?_;clear hset;rintro e9 w5 ⟨rfl,A5,n5,c5,hx5,ho5,hb5,_⟩)
 obtain⟨hn5,hc5⟩:=ho5.capN
 have hn6:n5=1:=by simpa using hn5
 subst hn6
 clear hn5
 have hh5:=hh.out.belowN hb5 (by omega)
 have hB5:Below (q+1) w w5:=(hbY.out.mono (by omega)).trans (hb5.mono (by omega))
 have hl5:=hh5.lt
 have hG5:=Lib.hid (below_grown (hbY.out.trans (hb5.mono hw4)) (some (q+6)))
 have b6:=hh5.box.c 6 _ rfl
 have hx5l:=hx5.lt
 have hx5:=Lib.hid hx5
 have ho5:=Lib.hid ho5
 have hh5:=Lib.hid hh5
 have hB5:=Lib.hid hB5
 clear hb5 hh hbY hc5
 unfold unroll
 go_wp2_with (at_builtin;refine wpList_append_rows elemTb rfl _ _ rfl rfl rfl (OwnL.nil _ (w4.heap.size+1) 61 1) (rowsAt_new w5 [.pointer (some ⟨w4.heap.size,0,none⟩)] 61) rfl (fun r hr=>by rw[List.mem_singleton.1 hr];rfl) (fun r hr u hu=>by rw[List.mem_singleton.1 hr] at hu;rw[List.mem_singleton.1 hu];rfl) (by simp) (by decide) (by simp;omega) ?_;intro v' w6 hown hg _;clear b6;have hba:=below_alloc w5 (.cells #[.pointer (some ⟨w4.heap.size,0,none⟩)] 61);have h6:=(hh5.out.below hba).grown hg (fun g e=>by cases e);have hx6:=(hx5.out.below hba).grown hg (fun e=>by cases e);have hg2:(w5.alloc (.cells #[.pointer (some ⟨w4.heap.size,0,none⟩)] 61)).grownBy w6 none:=hg;have ho6:=(ho5.out.below hba).kept hg2 (by rcases h9:Value.ownBlock (.slice A5 1 c5) with _ | g9 <;> simp);clear hg2;have hb6:Below (q+1) w w6:=hB5.out.trans ((hba.mono (by omega)).trans (grown_below hg (fun g e=>by cases e) (by simp;omega)));have hgr:=Lib.hid ((hG5.out.trans (World.grownBy_alloc w5 (.cells #[.pointer (some ⟨w4.heap.size,0,none⟩)] 61) (some (q+6)))).trans (grown_any hg (some (q+6))));have y0:=h6.box.c 6 _ rfl;have y1:=h6.box.free 6 (by simp);obtain⟨A7,c7,hv7,hr7⟩:=OwnL.form hown;have hrw:RowsAt w6 A7 1 [[.pointer (some ⟨w4.heap.size,0,none⟩)]]:=hr7;have hA7:=fun a (e:A7=some a)=>(hown.lt a.block (by rw[hv7,e];rfl)).1;subst hv7;replace hrw:=Lib.hid hrw;replace hA7:=Lib.hid hA7;replace h6:=Lib.hid h6;replace hx6:=Lib.hid hx6;replace ho6:=Lib.hid ho6;replace hb6:=Lib.hid hb6;clear hg hown hr7 hba)
 clear y0 y1
 go_ret
 exact⟨rfl,w4.heap.size,c5,c7,A5,A7,h6.out.setT _,⟨rows_far hrw.out (grown_set w6 (q+6) 6 _) (fun a e e2=>by have:=hA7.out a e;have:=Option.some.inj e2;omega),hx6.out.offF (B':=q+6) 6 _ (by omega)⟩,ho6.out.offF (B':=q+6) 6 _ (by omega),by omega,hb6.out.setCell (p:=⟨q+6,6,none⟩) (by show q+1≤q+6;omega) _,hgr.out.trans (grown_set w6 (q+6) 6 _),fun a e=>by have:=hA7.out a e;omega⟩
end Go.Proofs.YtcnfhnndppollaaGreatDoor
namespace Go.Proofs.YtcnfhnndppollaaGreatDoor
open Go Go.RowKit Go.Maps Go.WideMaps
theorem grant_range {q k:Nat} {fd fk fp:List UInt8→Option Value} {M:Value} {la ct:Int} (dy cl yr en:Int) (c:Nat) (A:Option Addr) (w:World) (h:Wd w q k fd fk fp M (.slice none 0 0) la ct)
  (hr:RowsAt w A 3 ([ann1].map Pa.cells)) (hd:fd ann1.name.data.toList=none) (hyr:0<yr) (hen:en<0) (hlat:∀ W,Below w.heap.size w W→Calls Tryz.prog 54 #[.int .i64 dy,.int .i64 yr] W fun e w'=>e=.returned (.int .i64 en)∧Below W.heap.size W w') :
  Calls Tryz.prog 35 #[.pointer (some ⟨q+6,0,none⟩),.agg #[.int .i64 0,.int .i64 dy,.string ⟨#[97,49]⟩,.string ⟨#[]⟩,.slice A 1 c,.int .i64 cl,.int .i64 yr]] w (fun e w'=>e=.returned (.int .i64 2)∧Below w.heap.size w w'):=by
 obtain⟨b1,o1,hA,hbl,p0,p1,p2⟩:=pa_at hr
 subst hA
 have hz:=Lib.hid (fun W (hb:Below w.heap.size w W)=>pa_at (hr.below hb))
 have ha:=below_alloc w (.cells #[.int .i64 0,.int .i64 dy,.string ⟨#[97,49]⟩,.string ⟨#[]⟩,.slice (some ⟨b1,o1,none⟩) 1 c,.int .i64 cl,.int .i64 yr] 38)
 have hx:=Lib.hid (BoxAt.new w #[.int .i64 0,.int .i64 dy,.string ⟨#[97,49]⟩,.string ⟨#[]⟩,.slice (some ⟨b1,o1,none⟩) 1 c,.int .i64 cl,.int .i64 yr] 38)
 have hin:=Lib.hid (in_none ⟨#[97,49]⟩ dy _ (h.below ha))
 have hde:=Lib.hid (fun W (hb:Below w.heap.size w W)=>anyDead_one (some ⟨b1,o1,none⟩) c ann1 (by decide) hd W (h.below hb) (hr.below hb))
 have hwl:=h.lt
 replace h:=Lib.hid h
 replace ha:=Lib.hid ha
 have hlat:=Lib.hid hlat
 clear p0 p1 p2 hbl hr
 go_enter Tryz.func35,Tryz.ntmps35
 go_wp2_with (first
  |(go_at_call 24;refine hin.out.mono ?_;rintro e9 w2 ⟨rfl,hbn⟩;replace hx:=Lib.hid (hx.out.below hbn);replace ha:=Lib.hid (below_step ha.out hbn);clear hbn hin;have x1:=hx.out.c 1 _ rfl;have x2:=hx.out.c 2 _ rfl;have x4:=hx.out.c 4 _ rfl;have x5:=hx.out.c 5 _ rfl;have x6:=hx.out.c 6 _ rfl)
  |(go_at_call 53;clear x1 x2 x4 x5 x6;refine (hde.out _ ha.out).mono ?_;rintro e9 w3 ⟨rfl,hbn⟩;replace hx:=Lib.hid (hx.out.below hbn);replace ha:=Lib.hid (below_step ha.out hbn);clear hbn hde;have x1:=hx.out.c 1 _ rfl;have x2:=hx.out.c 2 _ rfl;have x6:=hx.out.c 6 _ rfl)
  |(go_at_call 54;clear x1 x2 x6;refine (hlat.out _ ha.out).mono ?_;rintro e9 w4 ⟨rfl,hbn⟩;replace ha:=Lib.hid (below_step ha.out hbn);clear hbn hlat hx))
 go_ret
 exact⟨rfl,ha.out⟩
end Go.Proofs.YtcnfhnndppollaaGreatDoor
namespace Go.Proofs.YtcnfhnndppollaaGreatDoor
open Go Go.RowKit Go.Maps Go.WideMaps
def RenP (q k:Nat) (fd fk fp:List UInt8→Option Value) (M:Value) (la ct:Int) (b c tc:Nat) (A TA:Option Addr) (D:Value) (cl fr en:Int) (w:World) (e:Ending) (w':World):Prop :=
 e=.returned (.int .i64 0)∧Wd w' q k fd fk fp M (.slice TA 1 tc) la ct∧TbAt w' b 1 c cl fr en A TA D∧OwnL w' (b+1) 35 3 (.slice A 1 c) ([ann1].map Pa.cells)∧Below (q+1) w w'∧w.grownBy w' (some b)
theorem renewal_ok {q k b c tc:Nat} {fd fk fp:List UInt8→Option Value} {M D:Value} {la ct:Int} (A TA A2:Option Addr) (c2:Nat) (dy yr cl fr en e2:Int) (w:World) (h:Wd w q k fd fk fp M (.slice TA 1 tc) la ct) (ht:TbAt w b 1 c cl fr en A TA D) (ho:OwnL w (b+1) 35 3 (.slice A 1 c) ([ann1].map Pa.cells)) (hq:q+7≤b) (hTA:∀ a,TA=some a→a.block≠b)
  (hdy:dy<en) (hen:0≤en) (he2:0≤e2) (hlat:∀ W,Below w.heap.size w W→Calls Tryz.prog 54 #[.int .i64 en,.int .i64 yr] W fun e w'=>e=.returned (.int .i64 e2)∧Below W.heap.size W w') :
  Calls Tryz.prog 38 #[.pointer (some ⟨q+6,0,none⟩),.agg #[.int .i64 3,.int .i64 dy,.string ⟨#[97,49]⟩,.string ⟨#[]⟩,.slice A2 0 c2,.int .i64 0,.int .i64 yr]] w (RenP q k fd fk fp M la ct b c tc A TA D cl fr e2 w):=by
 have ha:=below_alloc w (.cells #[.int .i64 3,.int .i64 dy,.string ⟨#[97,49]⟩,.string ⟨#[]⟩,.slice A2 0 c2,.int .i64 0,.int .i64 yr] 38)
 have hx:=Lib.hid (BoxAt.new w #[.int .i64 3,.int .i64 dy,.string ⟨#[97,49]⟩,.string ⟨#[]⟩,.slice A2 0 c2,.int .i64 0,.int .i64 yr] 38)
 have hin:=Lib.hid (in_one dy (by omega) _ (h.below ha) (ht.below ha))
 rw[if_pos (Or.inr hdy)] at hin
 have hwl:=h.lt
 have hen9:¬en<0:=by omega
 have he9:¬e2<0:=by omega
 replace h:=Lib.hid h
 replace ht:=Lib.hid ht
 replace ho:=Lib.hid ho
 replace ha:=Lib.hid ha
 replace hlat:=Lib.hid hlat
 go_enter Tryz.func38,Tryz.ntmps38
 go_upto_region 6 with (first
  |(go_at_call 24;refine hin.out.mono ?_;rintro e9 w2 ⟨rfl,hbn⟩;replace hx:=Lib.hid (hx.out.below hbn);replace ha:=Lib.hid (below_step ha.out hbn);clear hbn hin;have x6:=hx.out.c 6 _ rfl;have t3:=(ht.out.below ha.out).box.c 3 _ rfl))
 clear x6 t3
 replace hx:=Lib.hid (hx.out.below (Below.refl _ w2).drew)
 replace ha:=Lib.hid (below_step ha.out (Below.refl _ w2).drew)
 refine wp_region_held_drew (S:=Sx w [(b,3,.int .i64 en),(w.heap.size,6,.int .i64 yr)]) (by kernel_rfl) (Sx.mk (by simp only[cs_iff_cons];exact⟨(ht.out.below ha.out).box.c 3 _ rfl,hx.out.c 6 _ rfl,cs_nil _⟩) ha.out) (fun hHeld=>?_)
 refine tkHx 0 22 ?_
 refine tkHx 1 23 ?_
 refine tkHx 2 24 ?_
 refine tkHx 3 25 ?_
 refine tkHx 4 26 ?_
 refine tkHx 5 27 ?_
 (refine ratHx 6 (fun K hK=>?_);go_simp)
 refine (hlat.out _ hHeld.bel).mono ?_
 rintro e9 w4 ⟨rfl,hbn⟩
 refine hK.out _ _ (hHeld.step hbn) (fun hHeld2=>?_)
 replace ha:=Lib.hid (below_step ha.out hbn)
 clear hK K hHeld hbn hlat hx
 (try simp only[apS,apN,siA,scZ,scS])
 refine tkHx 7 6 ?_
 refine wpAnyH_done (by kernel_rfl) ?_ _
 clear hHeld2
 have t4:=Lib.hid (ht.out.below ha.out)
 have y0:=t4.out.box.c 3 _ rfl;have y1:=t4.out.box.free 3 (by simp)
 go_wp2
 clear y0 y1
 have h4:=h.out.below ha.out
 have o4:=ho.out.below ha.out
 have hg:=grown_set w4 b 3 (.int .i64 e2)
 go_ret
 exact⟨rfl,h4.grown hg (fun g e=>by have:=Option.some.inj e;omega),⟨rows_far t4.out.row hg (fun a e e2=>hTA a e (Option.some.inj e2)),t4.out.box.set 3 _ (by simp)⟩,o4.offF (B':=b) 3 _ (by omega),(ha.out.mono (by omega)).setCell (p:=⟨b,3,none⟩) (by show q+1≤b;omega) _,(below_grown ha.out (some b)).trans hg⟩
end Go.Proofs.YtcnfhnndppollaaGreatDoor
namespace Go.Proofs.YtcnfhnndppollaaGreatDoor
open Go Go.RowKit Go.Maps Go.WideMaps
theorem renewal_range {q k b c tc:Nat} {fd fk fp:List UInt8→Option Value} {M D:Value} {la ct:Int} (A TA A2:Option Addr) (c2:Nat) (dy yr cl fr en e2:Int) (w:World) (h:Wd w q k fd fk fp M (.slice TA 1 tc) la ct) (ht:TbAt w b 1 c cl fr en A TA D) (ho:OwnL w (b+1) 35 3 (.slice A 1 c) ([ann1].map Pa.cells)) (hq:q+7≤b) (hTA:∀ a,TA=some a→a.block≠b)
  (hdy:dy<en) (hen:0≤en) (he2:e2<0) (hlat:∀ W,Below w.heap.size w W→Calls Tryz.prog 54 #[.int .i64 en,.int .i64 yr] W fun e w'=>e=.returned (.int .i64 e2)∧Below W.heap.size W w') :
  Calls Tryz.prog 38 #[.pointer (some ⟨q+6,0,none⟩),.agg #[.int .i64 3,.int .i64 dy,.string ⟨#[97,49]⟩,.string ⟨#[]⟩,.slice A2 0 c2,.int .i64 0,.int .i64 yr]] w (fun e w'=>e=.returned (.int .i64 2)∧Below w.heap.size w w'):=by
 have ha:=below_alloc w (.cells #[.int .i64 3,.int .i64 dy,.string ⟨#[97,49]⟩,.string ⟨#[]⟩,.slice A2 0 c2,.int .i64 0,.int .i64 yr] 38)
 have hx:=Lib.hid (BoxAt.new w #[.int .i64 3,.int .i64 dy,.string ⟨#[97,49]⟩,.string ⟨#[]⟩,.slice A2 0 c2,.int .i64 0,.int .i64 yr] 38)
 have hin:=Lib.hid (in_one dy (by omega) _ (h.below ha) (ht.below ha))
 rw[if_pos (Or.inr hdy)] at hin
 have hwl:=h.lt
 have hen9:¬en<0:=by omega
 replace h:=Lib.hid h
 replace ht:=Lib.hid ht
 replace ho:=Lib.hid ho
 replace ha:=Lib.hid ha
 replace hlat:=Lib.hid hlat
 go_enter Tryz.func38,Tryz.ntmps38
 go_upto_region 6 with (first
  |(go_at_call 24;refine hin.out.mono ?_;rintro e9 w2 ⟨rfl,hbn⟩;replace hx:=Lib.hid (hx.out.below hbn);replace ha:=Lib.hid (below_step ha.out hbn);clear hbn hin;have x6:=hx.out.c 6 _ rfl;have t3:=(ht.out.below ha.out).box.c 3 _ rfl))
 clear x6 t3
 replace hx:=Lib.hid (hx.out.below (Below.refl _ w2).drew)
 replace ha:=Lib.hid (below_step ha.out (Below.refl _ w2).drew)
 refine wp_region_held_drew (S:=Sx w [(b,3,.int .i64 en),(w.heap.size,6,.int .i64 yr)]) (by kernel_rfl) (Sx.mk (by simp only[cs_iff_cons];exact⟨(ht.out.below ha.out).box.c 3 _ rfl,hx.out.c 6 _ rfl,cs_nil _⟩) ha.out) (fun hHeld=>?_)
 refine tkHx 0 22 ?_
 refine tkHx 1 23 ?_
 refine tkHx 2 24 ?_
 refine tkHx 3 25 ?_
 refine tkHx 4 26 ?_
 refine tkHx 5 27 ?_
 (refine ratHx 6 (fun K hK=>?_);go_simp)
 refine (hlat.out _ hHeld.bel).mono ?_
 rintro e9 w4 ⟨rfl,hbn⟩
 refine hK.out _ _ (hHeld.step hbn) (fun hHeld2=>?_)
 replace ha:=Lib.hid (below_step ha.out hbn)
 clear hK K hHeld hbn hlat hx
 (try simp only[apS,apN,siA,scZ,scS])
 refine tkHx 7 6 ?_
 refine wpAnyH_done (by kernel_rfl) ?_ _
 clear hHeld2
 go_wp2
 go_ret
 exact⟨rfl,ha.out⟩
end Go.Proofs.YtcnfhnndppollaaGreatDoor
namespace Go.Proofs.YtcnfhnndppollaaGreatDoor
open Go Go.RowKit Go.Maps Go.WideMaps
theorem Wd.setL {W:World} {q k:Nat} {fd fk fp:List UInt8→Option Value} {M T:Value} {la ct:Int} (h:Wd W q k fd fk fp M T la ct) (x:Int):Wd (W.setCell ⟨q+6,7,none⟩ (.int .i64 x)) q k fd fk fp M T x ct:=by
 have hg:=grown_set W (q+6) 7 (.int .i64 x)
 have hne:∀ b,b<q+6→some b≠some (q+6):=fun b hb e=>by have:=Option.some.inj e;omega
 have hl:=h.lt
 obtain⟨n1,e1,m1⟩:=h.pd
 obtain⟨n2,e2,m2⟩:=h.pk
 obtain⟨n3,e3,m3⟩:=h.pp
 exact⟨h.box.set 7 _ (by simp),⟨n1,e1,m1.kept hg (hne _ (by omega))⟩,⟨n2,e2,m2.kept hg (hne _ (by omega))⟩,⟨n3,e3,m3.kept hg (hne _ (by omega))⟩,(hg.block _ (by omega) (hne _ (by omega))).trans h.pl,(hg.block _ (by omega) (hne _ (by omega))).trans h.pr⟩
theorem Wd.setC {W:World} {q k:Nat} {fd fk fp:List UInt8→Option Value} {M T:Value} {la ct:Int} (h:Wd W q k fd fk fp M T la ct) (x:Int):Wd (W.setCell ⟨q+6,8,none⟩ (.int .i64 x)) q k fd fk fp M T la x:=by
 have hg:=grown_set W (q+6) 8 (.int .i64 x)
 have hne:∀ b,b<q+6→some b≠some (q+6):=fun b hb e=>by have:=Option.some.inj e;omega
 have hl:=h.lt
 obtain⟨n1,e1,m1⟩:=h.pd
 obtain⟨n2,e2,m2⟩:=h.pk
 obtain⟨n3,e3,m3⟩:=h.pp
 exact⟨h.box.set 8 _ (by simp),⟨n1,e1,m1.kept hg (hne _ (by omega))⟩,⟨n2,e2,m2.kept hg (hne _ (by omega))⟩,⟨n3,e3,m3.kept hg (hne _ (by omega))⟩,(hg.block _ (by omega) (hne _ (by omega))).trans h.pl,(hg.block _ (by omega) (hne _ (by omega))).trans h.pr⟩
end Go.Proofs.YtcnfhnndppollaaGreatDoor
namespace Go.Proofs.YtcnfhnndppollaaGreatDoor
open Go Go.RowKit Go.Maps Go.WideMaps
theorem wtake_marriage {q k:Nat} {fd fk fp:List UInt8→Option Value} {T L:Value} {la ct:Int} (dy:Int) (c:Nat) (A:Option Addr) (x s:ByteArray) (hx:x.size≤maxLen) (hs:s.size≤maxLen) (w:World) (h:Wd w q k fd fk fp (.slice none 0 0) T la ct)
  (hr:RowsAt w A 3 ([⟨s,0,0⟩].map Pa.cells)) (hdx:fd x.data.toList=none) (hds:fd s.data.toList=none) (hct:ct<60) (hct0:0≤ct) (hdy:la≤dy) :
  Calls Tryz.prog 15 #[.pointer (some ⟨q+6,0,none⟩),L,.agg #[.int .i64 7,.int .i64 dy,.string ⟨#[]⟩,.string x,.slice A 1 c,.int .i64 0,.int .i64 0]] w fun e w'=>e=.returned (.int .i64 0)∧∃ v',Wd w' q k fd fk fp v' T dy (ct+1)∧OwnL w' (q+7) 111 2 v' ([(x,s)].map prR)∧Below (q+1) w w'∧w.grownBy w' (some (q+6)):=by
 have ha:=below_alloc w (.cells #[.int .i64 7,.int .i64 dy,.string ⟨#[]⟩,.string x,.slice A 1 c,.int .i64 0,.int .i64 0] 38)
 have hb:=Lib.hid (BoxAt.new w #[.int .i64 7,.int .i64 dy,.string ⟨#[]⟩,.string x,.slice A 1 c,.int .i64 0,.int .i64 0] 38)
 have h2:=h.below ha
 have c8:=h2.box.c 8 _ rfl
 have hl1:¬dy<la:=by omega
 have hl2:¬(60:Int)≤ct:=by omega
 have hwl:=h.lt
 replace h:=Lib.hid h
 replace h2:=Lib.hid h2
 replace ha:=Lib.hid ha
 go_enter Tryz.func15,Tryz.ntmps15
 go_upto_region 3 with fail
 clear c8
 obtain⟨X,hX⟩:∃ X,(w.alloc (.cells #[.int .i64 7,.int .i64 dy,.string ⟨#[]⟩,.string x,.slice A 1 c,.int .i64 0,.int .i64 0] 38)).drew=X:=⟨_,rfl⟩
 replace h2:=Lib.hid (h2.out.below (Below.refl _ _).drew)
 replace hb:=Lib.hid (hb.out.below (Below.refl _ _).drew)
 replace ha:=Lib.hid (below_step ha.out (Below.refl _ _).drew)
 refine wp_region_held_drew (S:=Sx w [(q+6,7,.int .i64 la),(w.heap.size,1,.int .i64 dy)]) (by kernel_rfl) (Sx.mk (by simp only[cs_iff_cons];exact⟨h2.out.box.c 7 _ rfl,hb.out.c 1 _ rfl,cs_nil _⟩) ha.out) (fun hHeld=>?_)
 rw[hX] at hHeld h2 hb ha ⊢
 clear hX
 refine tkHx 0 15 ?_
 refine tkHx 1 16 ?_
 refine tkHx 2 17 ?_
 refine tkHx 3 18 ?_
 refine tkHx 4 19 ?_
 refine tkHx 5 20 ?_
 refine tkHx 6 21 ?_
 refine tkHx 7 14 ?_
 refine wpAnyH_done (by kernel_rfl) ?_ _
 clear hHeld
 have d0:=hb.out.c 0 _ rfl
 go_upto_region 7 with fail
 clear d0
 replace h2:=Lib.hid (h2.out.below (Below.refl _ _).drew)
 replace hb:=Lib.hid (hb.out.below (Below.refl _ _).drew)
 replace ha:=Lib.hid (below_step ha.out (Below.refl _ _).drew)
 obtain⟨Y,hY⟩:∃ Y,X.drew=Y:=⟨_,rfl⟩
 refine wp_region_held_drew (S:=Sc [(w.heap.size,0,.int .i64 7),(w.heap.size,1,.int .i64 dy),(w.heap.size,2,.string ⟨#[]⟩),(w.heap.size,3,.string x),(w.heap.size,4,.slice A 1 c),(w.heap.size,5,.int .i64 0),(w.heap.size,6,.int .i64 0)]) (by kernel_rfl) (Sc.mk (by simp only[cs_iff_cons];exact⟨hb.out.c 0 _ rfl,hb.out.c 1 _ rfl,hb.out.c 2 _ rfl,hb.out.c 3 _ rfl,hb.out.c 4 _ rfl,hb.out.c 5 _ rfl,hb.out.c 6 _ rfl,cs_nil _⟩)) (fun hHeld=>?_)
 rw[hY] at hHeld h2 hb ha ⊢
 clear hY
 have hcall:=Lib.hid (take_marriage dy c A x s hx hs Y h2.out (hr.below ha.out) hdx hds)
 refine tkHx 0 24 ?_
 refine tkHx 1 25 ?_
 refine tkHx 2 26 ?_
 refine tkHx 3 27 ?_
 (refine ratHx 4 (fun K hK=>?_);go_simp)
 refine hcall.out.mono ?_
 rintro e9 w5 ⟨rfl,v',hw5,ho5,hb5,hg5⟩
 have hb6:=hb.out.grown hg5 (fun e=>by have:=Option.some.inj e;omega)
 refine hK.out _ _ (Sc.mk (by simp only[cs_iff_cons];exact⟨hb6.c 0 _ rfl,hb6.c 1 _ rfl,hb6.c 2 _ rfl,hb6.c 3 _ rfl,hb6.c 4 _ rfl,hb6.c 5 _ rfl,hb6.c 6 _ rfl,cs_nil _⟩)) (fun hHeld2=>?_)
 clear hK K hHeld hcall
 (try simp only[apS,apN,siA,scZ,scS])
 refine tkHx 5 7 ?_
 refine wpAnyH_done (by kernel_rfl) ?_ _
 clear hHeld2
 replace ho5:=Lib.hid ho5
 replace hb5:=Lib.hid (((ha.out.mono (by omega)):Below (q+1) w Y).trans hb5)
 have hG5:=Lib.hid ((below_grown ha.out (some (q+6))).trans hg5)
 have hsz5:=hG5.out.size
 clear hg5 h2 hb
 have hct1:IntKind.i64.wrap (ct+1)=ct+1:=wrap_sm (by omega) (by omega)
 replace hb6:=Lib.hid hb6
 replace hw5:=Lib.hid hw5
 go_upto_region 19 with fail
 replace hb6:=Lib.hid (hb6.out.below (Below.refl _ _).drew)
 replace hw5:=Lib.hid (hw5.out.below (Below.refl _ _).drew)
 have hR:=Lib.hid (below_grown ((Below.refl w5.heap.size w5).drew) (some (q+6)))
 obtain⟨Z,hZ⟩:∃ Z,w5.drew=Z:=⟨_,rfl⟩
 refine wp_region_heldZ (S:=Sc [(w.heap.size,1,.int .i64 dy),(q+6,8,.int .i64 ct)]) 14 (by kernel_rfl) (Sc.mk (by simp only[cs_iff_cons];exact⟨hb6.out.c 1 _ rfl,hw5.out.box.c 8 _ rfl,cs_nil _⟩)) (fun hHeld=>?_)
 rw[hZ] at hHeld hw5 hb6 hR ⊢
 clear hZ
 refine tkZx 0 57 ?_
 refine tkZx 1 58 ?_
 refine tkZx 2 59 ?_
 refine tkZx 3 60 ?_
 refine tkZx 4 61 ?_
 refine tkZx 5 62 ?_
 refine tkZx 6 63 ?_
 refine tkZx 7 64 ?_
 refine tkZx 8 65 ?_
 refine tkZx 9 66 ?_
 refine tkZx 10 67 ?_
 have y0:=hw5.out.box.c 7 _ rfl;have y1:=hw5.out.box.free 7 (by simp)
 refine ratZ 11 (by decide +kernel) rfl (fun K hK=>?_)
 rw[if_pos (by kernel_rfl)]
 go_simp
 replace hw5:=Lib.hid (hw5.out.setL dy)
 replace hb6:=Lib.hid (hb6.out.offF (B':=q+6) 7 (.int .i64 dy) (by omega))
 replace hR:=Lib.hid (hR.out.trans (grown_set _ (q+6) 7 (.int .i64 dy)))
 refine hK.out _ _ (Sc.mk (by simp only[cs_iff_cons];exact⟨hb6.out.c 1 _ rfl,hw5.out.box.c 8 _ rfl,cs_nil _⟩)) (fun hH2=>?_)
 clear hK K hHeld y0 y1
 have hHeld:=hH2
 clear hH2
 (try simp only[apS,apN,siA,scZ,scS])
 refine tkZx 12 68 ?_
 refine tkZx 13 69 ?_
 have y0:=hw5.out.box.c 8 _ rfl;have y1:=hw5.out.box.free 8 (by simp)
 refine ratZc 14 (by decide +kernel) rfl (by decide +kernel) (fun K hK=>?_)
 rw[if_pos (by kernel_rfl)]
 go_simp
 refine hK.out _ _ ?_
 clear hK K
 (try simp only[apS,apN,siA,scZ,scS])
 refine wpAnyHY_done (by decide +kernel) ?_ _
 clear y0 y1 hHeld
 have hw9:=Lib.hid (hw5.out.setC (ct+1))
 replace hR:=Lib.hid (hR.out.trans (grown_set _ (q+6) 8 (.int .i64 (ct+1))))
 clear hw5 hb6
 go_wp2
 go_ret
 exact⟨rfl,_,hw9.out,ho5.out.kept hR.out (.inr (fun e=>by have:=(ho5.out.lt _ e).1;omega)),hb5.out.grown hR.out (by omega) (fun g e=>by have:=Option.some.inj e;omega),hG5.out.trans hR.out⟩
def WKidP (q k:Nat) (fd fk fp:List UInt8→Option Value) (M T:Value) (dy ct:Int) (x s:ByteArray) (rows:List (List Value)) (w:World) (e:Ending) (w':World):Prop :=
 e=.returned (.int .i64 0)∧∃ v' u',Wd w' q (k+1) fd (setAt fk x.data.toList v') (setAt fp s.data.toList u') M T dy (ct+1)∧OwnL w' (q+7) 9 1 v' (rows ++ [[.string s]])∧Below (q+1) w w'
theorem wtake_child {q k:Nat} {fd fk fp:List UInt8→Option Value} {M T L:Value} {la ct:Int} (dy:Int) (c:Nat) (A:Option Addr) (x s:ByteArray) (hx:x.size≤maxLen) (hs:s.size≤maxLen) (kv:Value) (w:World) (hk9:k≤1000) (h:Wd w q k fd fk fp M T la ct)
  (hr:RowsAt w A 3 ([⟨s,0,0⟩].map Pa.cells)) (hkv:(fk x.data.toList).getD (.slice none 0 0)=kv) (hks:fk s.data.toList=none) (hps:fp s.data.toList=none)
  (rows:List (List Value)) (hrl:rows.length≤1000) (hown:OwnL w (q+7) 9 1 kv rows) (hcon:∀ W,Below w.heap.size w W→Calls Tryz.prog 65 #[kv,.string s] W fun e w'=>e=.returned (.bool false)∧w'=W) (hct:ct<60) (hct0:0≤ct) (hdy:la≤dy) :
  Calls Tryz.prog 15 #[.pointer (some ⟨q+6,0,none⟩),L,.agg #[.int .i64 6,.int .i64 dy,.string ⟨#[]⟩,.string x,.slice A 1 c,.int .i64 0,.int .i64 0]] w (WKidP q k fd fk fp M T dy ct x s rows w):=by
 have hvb:=Lib.hid (fun g (e1:Value.ownBlock kv=some g)=>(hown.lt g e1).2)
 replace hown:=Lib.hid hown
 replace hcon:=Lib.hid hcon
 replace hkv:=Lib.hid hkv
 have ha:=below_alloc w (.cells #[.int .i64 6,.int .i64 dy,.string ⟨#[]⟩,.string x,.slice A 1 c,.int .i64 0,.int .i64 0] 38)
 have hb:=Lib.hid (BoxAt.new w #[.int .i64 6,.int .i64 dy,.string ⟨#[]⟩,.string x,.slice A 1 c,.int .i64 0,.int .i64 0] 38)
 have h2:=h.below ha
 have c8:=h2.box.c 8 _ rfl
 have hl1:¬dy<la:=by omega
 have hl2:¬(60:Int)≤ct:=by omega
 have hwl:=h.lt
 replace h:=Lib.hid h
 replace h2:=Lib.hid h2
 replace ha:=Lib.hid ha
 go_enter Tryz.func15,Tryz.ntmps15
 go_upto_region 3 with fail
 clear c8
 obtain⟨X,hX⟩:∃ X,(w.alloc (.cells #[.int .i64 6,.int .i64 dy,.string ⟨#[]⟩,.string x,.slice A 1 c,.int .i64 0,.int .i64 0] 38)).drew=X:=⟨_,rfl⟩
 replace h2:=Lib.hid (h2.out.below (Below.refl _ _).drew)
 replace hb:=Lib.hid (hb.out.below (Below.refl _ _).drew)
 replace ha:=Lib.hid (below_step ha.out (Below.refl _ _).drew)
 refine wp_region_held_drew (S:=Sx w [(q+6,7,.int .i64 la),(w.heap.size,1,.int .i64 dy)]) (by kernel_rfl) (Sx.mk (by simp only[cs_iff_cons];exact⟨h2.out.box.c 7 _ rfl,hb.out.c 1 _ rfl,cs_nil _⟩) ha.out) (fun hHeld=>?_)
 rw[hX] at hHeld h2 hb ha ⊢
 clear hX
 refine tkHx 0 15 ?_
 refine tkHx 1 16 ?_
 refine tkHx 2 17 ?_
 refine tkHx 3 18 ?_
 refine tkHx 4 19 ?_
 refine tkHx 5 20 ?_
 refine tkHx 6 21 ?_
 refine tkHx 7 14 ?_
 refine wpAnyH_done (by kernel_rfl) ?_ _
 clear hHeld
 have d0:=hb.out.c 0 _ rfl
 go_upto_region 7 with fail
 clear d0
 replace h2:=Lib.hid (h2.out.below (Below.refl _ _).drew)
 replace hb:=Lib.hid (hb.out.below (Below.refl _ _).drew)
 replace ha:=Lib.hid (below_step ha.out (Below.refl _ _).drew)
 obtain⟨Y,hY⟩:∃ Y,X.drew=Y:=⟨_,rfl⟩
 refine wp_region_held_drew (S:=Sc [(w.heap.size,0,.int .i64 6),(w.heap.size,1,.int .i64 dy),(w.heap.size,2,.string ⟨#[]⟩),(w.heap.size,3,.string x),(w.heap.size,4,.slice A 1 c),(w.heap.size,5,.int .i64 0),(w.heap.size,6,.int .i64 0)]) (by kernel_rfl) (Sc.mk (by simp only[cs_iff_cons];exact⟨hb.out.c 0 _ rfl,hb.out.c 1 _ rfl,hb.out.c 2 _ rfl,hb.out.c 3 _ rfl,hb.out.c 4 _ rfl,hb.out.c 5 _ rfl,hb.out.c 6 _ rfl,cs_nil _⟩)) (fun hHeld=>?_)
 rw[hY] at hHeld h2 hb ha ⊢
 clear hY
 have hcall:=Lib.hid (take_child dy c A x s hx hs kv Y hk9 h2.out (hr.below ha.out) hkv.out hks hps rows hrl (hown.out.below ha.out) (fun W hW=>hcon.out W (below_step ha.out hW)))
 have hszY:=hb.out.lt
 refine tkHx 0 24 ?_
 refine tkHx 1 25 ?_
 refine tkHx 2 26 ?_
 refine tkHx 3 27 ?_
 (refine ratHx 4 (fun K hK=>?_);go_simp)
 refine hcall.out.mono ?_
 rintro e9 w5 ⟨rfl,v',u',hw5,ho5,hb5,hg5⟩
 have hb6:=hb.out.ofBlk (hg5 w.heap.size hszY (by omega) (by omega) (fun e=>by have:=hvb.out _ e.symm;omega)) hb5.size
 refine hK.out _ _ (Sc.mk (by simp only[cs_iff_cons];exact⟨hb6.c 0 _ rfl,hb6.c 1 _ rfl,hb6.c 2 _ rfl,hb6.c 3 _ rfl,hb6.c 4 _ rfl,hb6.c 5 _ rfl,hb6.c 6 _ rfl,cs_nil _⟩)) (fun hHeld2=>?_)
 clear hK K hHeld hcall
 (try simp only[apS,apN,siA,scZ,scS])
 refine tkHx 5 7 ?_
 refine wpAnyH_done (by kernel_rfl) ?_ _
 clear hHeld2
 replace ho5:=Lib.hid ho5
 replace hb5:=Lib.hid (((ha.out.mono (by omega)):Below (q+1) w Y).trans hb5)
 have hsz5:=hb5.out.size
 clear hg5 h2 hb
 have hct1:IntKind.i64.wrap (ct+1)=ct+1:=wrap_sm (by omega) (by omega)
 replace hb6:=Lib.hid hb6
 replace hw5:=Lib.hid hw5
 go_upto_region 19 with fail
 replace hb6:=Lib.hid (hb6.out.below (Below.refl _ _).drew)
 replace hw5:=Lib.hid (hw5.out.below (Below.refl _ _).drew)
 have hR:=Lib.hid (below_grown ((Below.refl w5.heap.size w5).drew) (some (q+6)))
 obtain⟨Z,hZ⟩:∃ Z,w5.drew=Z:=⟨_,rfl⟩
 refine wp_region_heldZ (S:=Sc [(w.heap.size,1,.int .i64 dy),(q+6,8,.int .i64 ct)]) 14 (by kernel_rfl) (Sc.mk (by simp only[cs_iff_cons];exact⟨hb6.out.c 1 _ rfl,hw5.out.box.c 8 _ rfl,cs_nil _⟩)) (fun hHeld=>?_)
 rw[hZ] at hHeld hw5 hb6 hR ⊢
 clear hZ
 refine tkZx 0 57 ?_
 refine tkZx 1 58 ?_
 refine tkZx 2 59 ?_
 refine tkZx 3 60 ?_
 refine tkZx 4 61 ?_
 refine tkZx 5 62 ?_
 refine tkZx 6 63 ?_
 refine tkZx 7 64 ?_
 refine tkZx 8 65 ?_
 refine tkZx 9 66 ?_
 refine tkZx 10 67 ?_
 have y0:=hw5.out.box.c 7 _ rfl;have y1:=hw5.out.box.free 7 (by simp)
 refine ratZ 11 (by decide +kernel) rfl (fun K hK=>?_)
 rw[if_pos (by kernel_rfl)]
 go_simp
 replace hw5:=Lib.hid (hw5.out.setL dy)
 replace hb6:=Lib.hid (hb6.out.offF (B':=q+6) 7 (.int .i64 dy) (by omega))
 replace hR:=Lib.hid (hR.out.trans (grown_set _ (q+6) 7 (.int .i64 dy)))
 refine hK.out _ _ (Sc.mk (by simp only[cs_iff_cons];exact⟨hb6.out.c 1 _ rfl,hw5.out.box.c 8 _ rfl,cs_nil _⟩)) (fun hH2=>?_)
 clear hK K hHeld y0 y1
 have hHeld:=hH2
 clear hH2
 (try simp only[apS,apN,siA,scZ,scS])
 refine tkZx 12 68 ?_
 refine tkZx 13 69 ?_
 have y0:=hw5.out.box.c 8 _ rfl;have y1:=hw5.out.box.free 8 (by simp)
 refine ratZc 14 (by decide +kernel) rfl (by decide +kernel) (fun K hK=>?_)
 rw[if_pos (by kernel_rfl)]
 go_simp
 refine hK.out _ _ ?_
 clear hK K
 (try simp only[apS,apN,siA,scZ,scS])
 refine wpAnyHY_done (by decide +kernel) ?_ _
 clear y0 y1 hHeld
 have hw9:=Lib.hid (hw5.out.setC (ct+1))
 replace hR:=Lib.hid (hR.out.trans (grown_set _ (q+6) 8 (.int .i64 (ct+1))))
 clear hw5 hb6
 go_wp2
 go_ret
 exact⟨rfl,_,_,hw9.out,ho5.out.kept hR.out (.inr (fun e=>by have:=(ho5.out.lt _ e).1;omega)),hb5.out.grown hR.out (by omega) (fun g e=>by have:=Option.some.inj e;omega)⟩
end Go.Proofs.YtcnfhnndppollaaGreatDoor
namespace Go.Proofs.YtcnfhnndppollaaGreatDoor
open Go Go.RowKit Go.Shelf Go.Maps
attribute [local go_sem] Oper.semAt_some
def annDan:List (ByteArray × ByteArray):=[(⟨#[97,110,110]⟩,⟨#[100,97,110]⟩)]
structure SpB (w:World) (q c:Nat) (A:Option Addr) (B:Nat) (W:World):Prop where
 i:SpI w q c A annDan ⟨#[97,110,110]⟩ W
 b:BoxAt W B [.string ⟨#[97,110,110]⟩,.string ⟨#[100,97,110]⟩]
 far:w.heap.size+1+1+1<B
structure SpX (w:World) (W:World):Prop where
 r:BoxAt W (w.heap.size+1+1) [.string ⟨#[100,97,110]⟩]
 bel:Below w.heap.size w W
theorem spouse_ann {q k:Nat} {fd fk fp:List UInt8→Option Value} {T:Value} {la ct:Int} (A:Option Addr) (c:Nat) (w:World) (h:Wd w q k fd fk fp (.slice A 1 c) T la ct) (hr:RowsAt w A 2 (annDan.map prR)) (hdn:fd [100,97,110]=none) :
  Calls Tryz.prog 64 #[.pointer (some ⟨q+6,0,none⟩),.string ⟨#[97,110,110]⟩] w fun e w'=>e=.returned (.string ⟨#[100,97,110]⟩)∧Below w.heap.size w w':=by
 refine (callsIn_wide (n:=4)).1 ?_
 refine callsIn_of_wp_marks Tryz.func64 rfl trivial ?_ rfl
 simp only[Tryz.ntmps64,List.size_toArray,List.length_cons,List.length_nil,Nat.reduceAdd,Nat.reduceSub,Array.replicate_succ,Array.replicate_zero,List.push_toArray,List.append_toArray,List.nil_append,List.cons_append]
 have hz:=Lib.hid (fun W (hb:Below w.heap.size w W)=>h.below hb)
 have hA:∀ a,A=some a→a.block<w.heap.size:=fun a ha=>by
  obtain⟨b,o,hAe,hbl,_⟩:=hr 0 _ rfl
  rw[hAe] at ha
  cases ha
  exact hbl
 have h3:=((((h.below (below_alloc w (.cells #[.pointer (some ⟨q+6,0,none⟩)] 110))).below (below_alloc _ (.cells #[.string ⟨#[97,110,110]⟩] 9))).below (below_alloc _ (.cells #[.string ⟨#[]⟩] 9)))).box.c 3 _ rfl
 obtain⟨Y,hY⟩:∃ Y,((w.alloc (.cells #[.pointer (some ⟨q+6,0,none⟩)] 110)).alloc (.cells #[.string ⟨#[97,110,110]⟩] 9)).alloc (.cells #[.string ⟨#[]⟩] 9)=Y:=⟨_,rfl⟩
 have hYs:Y.heap.size=w.heap.size+1+1+1:=by rw[←hY];simp
 have hp:BoxAt Y w.heap.size [.pointer (some ⟨q+6,0,none⟩)]:=by rw[←hY];exact ((BoxAt.new w #[.pointer (some ⟨q+6,0,none⟩)] _).alloc _).alloc _
 have hn:BoxAt Y (w.heap.size+1) [.string ⟨#[97,110,110]⟩]:=by
  rw[←hY]
  have:=BoxAt.new (w.alloc (.cells #[.pointer (some ⟨q+6,0,none⟩)] 110)) #[.string ⟨#[97,110,110]⟩] 9
  rw[World.size_alloc] at this
  exact this.alloc _
 have hr2:BoxAt Y (w.heap.size+1+1) [.string ⟨#[]⟩]:=by
  rw[←hY]
  have:=BoxAt.new ((w.alloc (.cells #[.pointer (some ⟨q+6,0,none⟩)] 110)).alloc (.cells #[.string ⟨#[97,110,110]⟩] 9)) #[.string ⟨#[]⟩] 9
  rw[World.size_alloc,World.size_alloc] at this
  exact this
 have hbY:Below w.heap.size w Y:=by rw[←hY];exact below_step (below_step (below_alloc _ _) (below_alloc _ _)) (below_alloc _ _)
 have hb:=BoxAt.new Y #[.slice A 1 c] 74
 rw[hYs] at hb
 have hI:=Lib.hid (SpI.mk (w:=w) (A:=A) (c:=c) (l:=annDan) (hp.alloc (.cells #[.slice A 1 c] 74)) (hn.alloc _) (hr2.alloc _) ⟨hb,(hr.below hbY).below (below_alloc _ _)⟩ (below_step hbY (below_alloc _ _)))
 have hbk:=Lib.hid (Back_any (.slice A 1 c) rfl Y)
 have hYs:=Lib.hid hYs
 have hA:=Lib.hid hA
 have y0:=hp.c 0 _ rfl
 rw[hY] at h3
 clear hp hn hr2 hbY hb h hr
 gi_wp2_with (refine⟨trivial,?_⟩;refine (callsIn_wide.2 hbk.out).mono ?_;clear h3 y0;rintro e9 w9 ⟨rfl,rfl⟩)
 clear hY
 refine wpIn_rangeFunc_rawD rfl (by omega) (gf:=93) (lb:=#[.pointer (some ⟨w.heap.size+1+1+1,0,none⟩)]) rfl trivial (enters_of Tryz.func93 (by kernel_rfl) rfl)
  (back_raw (w.heap.size+1+1+1) c A annDan (by decide) 3) (fun _=>rfl)
  (fun _ X Z j o _ hs hj _=>by
   rcases hs with h | h
   ·exact h.elim
   obtain⟨_,rfl⟩:=h
   exact hj)
  (fun k W=>k=0∧SpI w q c A annDan ⟨#[97,110,110]⟩ W) (fun k W=>k=0∧SpI w q c A annDan ⟨#[97,110,110]⟩ W) (fun cd W=>cd=.ret∧SpX w W)
  (fun _ X h=>h.2.b) (fun _ _ _ _ h=>h.elim) (fun s X Z h hs=>⟨h.1,hs.2 ▸ h.2⟩)
  (fun _ X o _ h=>⟨h.1,h.2.below (below_alloc _ _)⟩)
  (fun _ X l o o' hl hX ho _ h=>⟨h.1,h.2.put hX ho (by rw[World.size_alloc,hYs.out] at hl;omega) (.inr hA.out)⟩)
  (fun k a' W=>k=0∧∃ B,SpB w q c A B W∧a'=⟨#[.pointer (some ⟨q+6,0,none⟩),.string ⟨#[97,110,110]⟩,.pointer (some ⟨w.heap.size,0,none⟩),.pointer (some ⟨w.heap.size+1,0,none⟩),.pointer (some ⟨w.heap.size+1+1,0,none⟩),undef,.pointer (some ⟨B,0,none⟩),undef,undef,undef,.pointer (some ⟨q+6,0,none⟩),.pointer (some ⟨q+6,0,none⟩),.pointer (some ⟨q+6,3,none⟩),.slice A 1 c,.func (.func 93) #[] #[.pointer (some ⟨w.heap.size+1+1+1,0,none⟩)],.int .i64 0,.agg #[.string ⟨#[97,110,110]⟩,.string ⟨#[100,97,110]⟩],undef,undef,undef,undef,undef,undef,undef,undef,undef,undef,undef,undef,undef,undef,undef,undef,undef,undef,undef,undef,undef],[]⟩)
  (fun _ a' X l o o' hl hX ho _ h=>by
   obtain⟨h1,B,hB,h2⟩:=h
   refine⟨h1,B,⟨hB.i.put hX ho (by rw[World.size_alloc,hYs.out] at hl;omega) (.inr hA.out),hB.b.grown (grownBy_putObj' X l o') (fun e=>?_),hB.far⟩,h2⟩
   have e2:=Option.some.inj e
   subst e2
   have hc:=hB.b.c 0 _ rfl
   simp[World.cell?,hX] at hc
   cases o <;> simp_all [isBook])
  (fun cd X l o o' hl hX ho _ h=>by
   have hg:=grownBy_putObj' X l o'
   have hl2:w.heap.size+1+1+1<l:=by rw[World.size_alloc,hYs.out] at hl;omega
   exact⟨h.1,h.2.r.grown hg (fun e=>by have:=Option.some.inj e;omega),h.2.bel.trans ((Below.refl w.heap.size X).grown hg h.2.bel.size (fun g e=>by have:=Option.some.inj e;omega))⟩)
  ⟨rfl,hI.out⟩ ?assign ?body ?done ?stop
 case assign =>
  rintro l x W K ⟨rfl,hS⟩ hK
  have hx:=Lib.hid (hS.below (below_alloc W (.cells #[.string ⟨#[97,110,110]⟩,.string ⟨#[100,97,110]⟩] 111)))
  have hsz:=hS.b.box.lt
  replace hK:=Lib.hid hK
  clear hS
  simp[prE,prL,annDan]
  gi_wp2
  exact hK.out _ _ (KeepsOthers.alloc _ _) ⟨trivial,W.heap.size,⟨hx.out,BoxAt.new W #[.string ⟨#[97,110,110]⟩,.string ⟨#[100,97,110]⟩] _,hsz⟩,rfl⟩
 case body =>
  rintro l x a' W ⟨rfl,B,hS,rfl⟩
  obtain⟨c0,c1⟩:=hS.b.c2;have n0:=hS.i.n.c 0 _ rfl;have p0:=hS.i.p.c 0 _ rfl;have r0:=hS.i.r.c 0 _ rfl;have r1:=hS.i.r.free 0 (by simp)
  have m0:=(hz.out W hS.i.bel).box.c 0 _ rfl
  have lk:=(hz.out W hS.i.bel).dead ⟨#[100,97,110]⟩ (by decide)
  rw[hdn,Option.getD_none] at lk
  have hix:∀ W,(Instr.index 111 (.agg #[.string ⟨#[97,110,110]⟩,.string ⟨#[100,97,110]⟩]) (.int .i64 0)).run Tryz.prog W=.ok (.string ⟨#[97,110,110]⟩) W:=fun W=>by kernel_rfl
  replace hS:=Lib.hid hS
  gi_wp2
  gi_loopw [18] (fun v wr=>v=.int .i64 0∧wr=W) (fun v _=>(2-intOf v).toNat)
  case atStart=>exact⟨rfl,rfl⟩
  case round =>
   obtain⟨rfl,rfl⟩:=hrel
   gi_wp2
   exact⟨KeepsOthers.setCell _ _ _,rfl,hS.out.i.r.set 0 _ (by simp),hS.out.i.bel.setCell (p:=⟨w.heap.size+1+1,0,none⟩) (by show w.heap.size≤w.heap.size+1+1;omega) _⟩
 case stop =>
  rintro D cd W ⟨rfl,hS⟩ hD hK
  have hDl:w.heap.size+1+1+1<D:=by rw[World.size_alloc,hYs.out] at hD;omega
  have hS:=Lib.hid hS
  have hK:=Lib.hid hK
  clear hD hI
  gi_wp2
  refine⟨by simp,.inl ⟨_,_,rfl,run_takeDeferred hK.out,?_⟩⟩
  have hz9:=(hS.out.r.grown (grownBy_putObj' _ D (.deferred none)) (fun e=>by have:=Option.some.inj e;omega)).c 0 _ rfl
  have hbe:=hS.out.bel.trans ((Below.refl w.heap.size _).grown (grownBy_putObj' _ D (.deferred none)) hS.out.bel.size (fun g e=>by have:=Option.some.inj e;omega))
  exact⟨_,results_cel1 rfl _ _ ⟨w.heap.size+1+1,0,none⟩ (.string ⟨#[100,97,110]⟩) rfl (by simp[go_sem,hz9]),rfl,hbe⟩
 case done =>
  rintro D kk W hE hS hD hK
  exact absurd (hS.1.symm.trans hE) (by decide)
end Go.Proofs.YtcnfhnndppollaaGreatDoor
namespace Go.Proofs.YtcnfhnndppollaaGreatDoor
open Go Go.RowKit Go.Maps Go.WideMaps
theorem laid_ok5:laidOutB Tryz.prog=true:=by kernel_rfl
theorem pair_keyed:Keyed Tryz.prog 111:=Keyed.of_law (deep_law_laid laid_ok5 (m:=3) (by decide) (by decide +kernel) (by kernel_rfl) (by kernel_rfl))
theorem ren_none {W:World} {b:Nat} (s:ByteArray) (l:Lit) (hl:keyOf Tryz.prog 111 (.agg #[.string s,.string ⟨#[97,110,110]⟩])=some l) (h:W.heap[b]?=some (.map #[] 0)) :
  (Instr.lookup 76 (.map (some b)) (.agg #[.string s,.string ⟨#[97,110,110]⟩]) false).run Tryz.prog W=.ok (.bool false) W:=by
 have:=(MapIs.empty Tryz.prog 111 (fun _:Unit=>l) h).look (kl:=()) pair_keyed Tryz.underlying76 (boolZeroU _) hl
 rw[this]
 rfl
theorem renkey_bob:∃ l,keyOf Tryz.prog 111 (.agg #[.string ⟨#[98,111,98]⟩,.string ⟨#[97,110,110]⟩])=some l:=Option.isSome_iff_exists.1 (show (keyOf Tryz.prog 111 (.agg #[.string ⟨#[98,111,98]⟩,.string ⟨#[97,110,110]⟩])).isSome=true by kernel_rfl)
   set_option maxRecDepth 100000 in
   set_option maxHeartbeats 4000000 in
   theorem able_bob {q k hb cb mp:Nat} {fd fk fp:List UInt8→Option Value} {M T:Value} {la ct:Int} (w:World) (h:Wd w q k fd fk fp M T la ct) (hh:BoxAt w hb [.pointer (some ⟨q+6,0,none⟩),.int .i64 0,.bool false,.int .i64 1,.int .i64 4,.string ⟨#[97,110,110]⟩,.pointer (some ⟨cb,0,none⟩),.map (some mp)]) (hd:fd [98,111,98]=none) :
     Calls Tryz.prog 76 #[.pointer (some ⟨hb,0,none⟩),.string ⟨#[98,111,98]⟩] w fun e w'=>e=.returned (.bool true)∧Below w.heap.size w w':=by
    obtain⟨l,hl⟩:=renkey_bob
    have hdl:=Lib.hid (fun W (hb9:Below w.heap.size w W)=>by
     have:=(h.below hb9).dead ⟨#[98,111,98]⟩ (by decide)
     rw[show fd (ByteArray.data ⟨#[98,111,98]⟩).toList=none from hd,Option.getD_none] at this
     exact this)
    have hrl:=Lib.hid (fun W (hb9:Below w.heap.size w W)=>ren_none ⟨#[98,111,98]⟩ l hl (h.below hb9).pr)
    have s0:=hh.c 0 _ rfl;have s5:=hh.c 5 _ rfl;have m0:=h.box.c 0 _ rfl;have m5:=h.box.c 5 _ rfl
    have hS:=Lib.hid (Sx.mk (w:=w) (W:=w.drew) (L:=[(hb,0,.pointer (some ⟨q+6,0,none⟩)),(hb,5,.string ⟨#[97,110,110]⟩),(q+6,0,.map (some (q+1))),(q+6,5,.map (some (q+1+1+1+1+1)))]) (by simp only[cs_iff_cons];exact⟨(hh.below (Below.refl _ _).drew).c 0 _ rfl,(hh.below (Below.refl _ _).drew).c 5 _ rfl,(h.below (Below.refl _ _).drew).box.c 0 _ rfl,(h.below (Below.refl _ _).drew).box.c 5 _ rfl,cs_nil _⟩) (Below.refl _ _).drew)
    clear h hh s0 s5 m0 m5 hl hd
    go_enter Tryz.func76,Tryz.ntmps76
    go_upto_region 1 with fail
    refine wp_region_held_drew (S:=Sx w [(hb,0,.pointer (some ⟨q+6,0,none⟩)),(hb,5,.string ⟨#[97,110,110]⟩),(q+6,0,.map (some (q+1))),(q+6,5,.map (some (q+1+1+1+1+1)))]) (by kernel_rfl) hS.out (fun hHeld=>?_)
    clear hS
    have hbz:=Lib.hid hHeld.bel
    refine tkHx 0 5 ?_
    refine tkHx 1 6 ?_
    refine tkHx 2 7 ?_
    refine tkHx 3 8 ?_
    refine tkHx 4 9 ?_
    refine tkHx 5 10 (v:=.bool true) ?_ (hy:=fun W hS=>by go_simp)
    refine tkHx 6 11 ?_
    refine tkHx 7 12 ?_
    refine tkHx 8 13 ?_
    refine tkHx 9 14 ?_
    refine tkHx 10 15 ?_
    refine tkHx 11 16 ?_
    refine tkHx 12 17 ?_
    refine tkHx 13 18 ?_
    refine tkHx 14 19 ?_
    refine tkHx 15 20 (v:=.bool false) ?_ (hy:=fun W hS=>by (have hl:=hdl.out W hS.bel);go_simp)
    refine tkHx 16 21 ?_
    refine tkHx 17 22 ?_
    refine tkHx 18 23 ?_
    refine tkHx 19 24 ?_
    refine tkHx 20 25 ?_
    refine tkHx 21 26 ?_
    refine tkHx 22 27 ?_
    refine tkHx 23 28 ?_
    refine tkHx 24 29 ?_
    refine tkHx 25 30 ?_
    refine tkHx 26 31 ?_
    refine tkHx 27 32 ?_
    refine tkHx 28 33 ?_
    refine tkHx 29 34 ?_
    refine tkHx 30 35 ?_
    refine tkHx 31 36 ?_
    refine tkHx 32 37 (v:=.bool false) ?_ (hy:=fun W hS=>by (have hl:=hrl.out W hS.bel);go_simp)
    refine tkHx 33 38 ?_
    refine tkHx 34 39 ?_
    refine tkHx 35 4 ?_
    refine wpAnyH_done (by kernel_rfl) ?_ _
    clear hHeld
    go_wp2
    go_ret
    exact⟨rfl,hbz.out⟩
theorem renkey_cat:∃ l,keyOf Tryz.prog 111 (.agg #[.string ⟨#[99,97,116]⟩,.string ⟨#[97,110,110]⟩])=some l:=Option.isSome_iff_exists.1 (show (keyOf Tryz.prog 111 (.agg #[.string ⟨#[99,97,116]⟩,.string ⟨#[97,110,110]⟩])).isSome=true by kernel_rfl)
              set_option maxRecDepth 100000 in
              set_option maxHeartbeats 4000000 in
              theorem able_cat {q k hb cb mp:Nat} {fd fk fp:List UInt8→Option Value} {M T:Value} {la ct:Int} (w:World) (h:Wd w q k fd fk fp M T la ct) (hh:BoxAt w hb [.pointer (some ⟨q+6,0,none⟩),.int .i64 0,.bool false,.int .i64 1,.int .i64 4,.string ⟨#[97,110,110]⟩,.pointer (some ⟨cb,0,none⟩),.map (some mp)]) (hd:fd [99,97,116]=none) :
                Calls Tryz.prog 76 #[.pointer (some ⟨hb,0,none⟩),.string ⟨#[99,97,116]⟩] w fun e w'=>e=.returned (.bool true)∧Below w.heap.size w w':=by
               obtain⟨l,hl⟩:=renkey_cat
               have hdl:=Lib.hid (fun W (hb9:Below w.heap.size w W)=>by
                have:=(h.below hb9).dead ⟨#[99,97,116]⟩ (by decide)
                rw[show fd (ByteArray.data ⟨#[99,97,116]⟩).toList=none from hd,Option.getD_none] at this
                exact this)
               have hrl:=Lib.hid (fun W (hb9:Below w.heap.size w W)=>ren_none ⟨#[99,97,116]⟩ l hl (h.below hb9).pr)
               have s0:=hh.c 0 _ rfl;have s5:=hh.c 5 _ rfl;have m0:=h.box.c 0 _ rfl;have m5:=h.box.c 5 _ rfl
               have hS:=Lib.hid (Sx.mk (w:=w) (W:=w.drew) (L:=[(hb,0,.pointer (some ⟨q+6,0,none⟩)),(hb,5,.string ⟨#[97,110,110]⟩),(q+6,0,.map (some (q+1))),(q+6,5,.map (some (q+1+1+1+1+1)))]) (by simp only[cs_iff_cons];exact⟨(hh.below (Below.refl _ _).drew).c 0 _ rfl,(hh.below (Below.refl _ _).drew).c 5 _ rfl,(h.below (Below.refl _ _).drew).box.c 0 _ rfl,(h.below (Below.refl _ _).drew).box.c 5 _ rfl,cs_nil _⟩) (Below.refl _ _).drew)
               clear h hh s0 s5 m0 m5 hl hd
               go_enter Tryz.func76,Tryz.ntmps76
               go_upto_region 1 with fail
               refine wp_region_held_drew (S:=Sx w [(hb,0,.pointer (some ⟨q+6,0,none⟩)),(hb,5,.string ⟨#[97,110,110]⟩),(q+6,0,.map (some (q+1))),(q+6,5,.map (some (q+1+1+1+1+1)))]) (by kernel_rfl) hS.out (fun hHeld=>?_)
               clear hS
               have hbz:=Lib.hid hHeld.bel
               refine tkHx 0 5 ?_
               refine tkHx 1 6 ?_
               refine tkHx 2 7 ?_
               refine tkHx 3 8 ?_
               refine tkHx 4 9 ?_
               refine tkHx 5 10 (v:=.bool true) ?_ (hy:=fun W hS=>by go_simp)
               refine tkHx 6 11 ?_
               refine tkHx 7 12 ?_
               refine tkHx 8 13 ?_
               refine tkHx 9 14 ?_
               refine tkHx 10 15 ?_
               refine tkHx 11 16 ?_
               refine tkHx 12 17 ?_
               refine tkHx 13 18 ?_
               refine tkHx 14 19 ?_
               refine tkHx 15 20 (v:=.bool false) ?_ (hy:=fun W hS=>by (have hl:=hdl.out W hS.bel);go_simp)
               refine tkHx 16 21 ?_
               refine tkHx 17 22 ?_
               refine tkHx 18 23 ?_
               refine tkHx 19 24 ?_
               refine tkHx 20 25 ?_
               refine tkHx 21 26 ?_
               refine tkHx 22 27 ?_
               refine tkHx 23 28 ?_
               refine tkHx 24 29 ?_
               refine tkHx 25 30 ?_
               refine tkHx 26 31 ?_
               refine tkHx 27 32 ?_
               refine tkHx 28 33 ?_
               refine tkHx 29 34 ?_
               refine tkHx 30 35 ?_
               refine tkHx 31 36 ?_
               refine tkHx 32 37 (v:=.bool false) ?_ (hy:=fun W hS=>by (have hl:=hrl.out W hS.bel);go_simp)
               refine tkHx 33 38 ?_
               refine tkHx 34 39 ?_
               refine tkHx 35 4 ?_
               refine wpAnyH_done (by kernel_rfl) ?_ _
               clear hHeld
               go_wp2
               go_ret
               exact⟨rfl,hbz.out⟩
theorem renkey_dan:∃ l,keyOf Tryz.prog 111 (.agg #[.string ⟨#[100,97,110]⟩,.string ⟨#[97,110,110]⟩])=some l:=Option.isSome_iff_exists.1 (show (keyOf Tryz.prog 111 (.agg #[.string ⟨#[100,97,110]⟩,.string ⟨#[97,110,110]⟩])).isSome=true by kernel_rfl)
                         set_option maxRecDepth 100000 in
                         set_option maxHeartbeats 4000000 in
                         theorem able_dan {q k hb cb mp:Nat} {fd fk fp:List UInt8→Option Value} {M T:Value} {la ct:Int} (w:World) (h:Wd w q k fd fk fp M T la ct) (hh:BoxAt w hb [.pointer (some ⟨q+6,0,none⟩),.int .i64 0,.bool false,.int .i64 1,.int .i64 4,.string ⟨#[97,110,110]⟩,.pointer (some ⟨cb,0,none⟩),.map (some mp)]) (hd:fd [100,97,110]=none) :
                           Calls Tryz.prog 76 #[.pointer (some ⟨hb,0,none⟩),.string ⟨#[100,97,110]⟩] w fun e w'=>e=.returned (.bool true)∧Below w.heap.size w w':=by
                          obtain⟨l,hl⟩:=renkey_dan
                          have hdl:=Lib.hid (fun W (hb9:Below w.heap.size w W)=>by
                           have:=(h.below hb9).dead ⟨#[100,97,110]⟩ (by decide)
                           rw[show fd (ByteArray.data ⟨#[100,97,110]⟩).toList=none from hd,Option.getD_none] at this
                           exact this)
                          have hrl:=Lib.hid (fun W (hb9:Below w.heap.size w W)=>ren_none ⟨#[100,97,110]⟩ l hl (h.below hb9).pr)
                          have s0:=hh.c 0 _ rfl;have s5:=hh.c 5 _ rfl;have m0:=h.box.c 0 _ rfl;have m5:=h.box.c 5 _ rfl
                          have hS:=Lib.hid (Sx.mk (w:=w) (W:=w.drew) (L:=[(hb,0,.pointer (some ⟨q+6,0,none⟩)),(hb,5,.string ⟨#[97,110,110]⟩),(q+6,0,.map (some (q+1))),(q+6,5,.map (some (q+1+1+1+1+1)))]) (by simp only[cs_iff_cons];exact⟨(hh.below (Below.refl _ _).drew).c 0 _ rfl,(hh.below (Below.refl _ _).drew).c 5 _ rfl,(h.below (Below.refl _ _).drew).box.c 0 _ rfl,(h.below (Below.refl _ _).drew).box.c 5 _ rfl,cs_nil _⟩) (Below.refl _ _).drew)
                          clear h hh s0 s5 m0 m5 hl hd
                          go_enter Tryz.func76,Tryz.ntmps76
                          go_upto_region 1 with fail
                          refine wp_region_held_drew (S:=Sx w [(hb,0,.pointer (some ⟨q+6,0,none⟩)),(hb,5,.string ⟨#[97,110,110]⟩),(q+6,0,.map (some (q+1))),(q+6,5,.map (some (q+1+1+1+1+1)))]) (by kernel_rfl) hS.out (fun hHeld=>?_)
                          clear hS
                          have hbz:=Lib.hid hHeld.bel
                          refine tkHx 0 5 ?_
                          refine tkHx 1 6 ?_
                          refine tkHx 2 7 ?_
                          refine tkHx 3 8 ?_
                          refine tkHx 4 9 ?_
                          refine tkHx 5 10 (v:=.bool true) ?_ (hy:=fun W hS=>by go_simp)
                          refine tkHx 6 11 ?_
                          refine tkHx 7 12 ?_
                          refine tkHx 8 13 ?_
                          refine tkHx 9 14 ?_
                          refine tkHx 10 15 ?_
                          refine tkHx 11 16 ?_
                          refine tkHx 12 17 ?_
                          refine tkHx 13 18 ?_
                          refine tkHx 14 19 ?_
                          refine tkHx 15 20 (v:=.bool false) ?_ (hy:=fun W hS=>by (have hl:=hdl.out W hS.bel);go_simp)
                          refine tkHx 16 21 ?_
                          refine tkHx 17 22 ?_
                          refine tkHx 18 23 ?_
                          refine tkHx 19 24 ?_
                          refine tkHx 20 25 ?_
                          refine tkHx 21 26 ?_
                          refine tkHx 22 27 ?_
                          refine tkHx 23 28 ?_
                          refine tkHx 24 29 ?_
                          refine tkHx 25 30 ?_
                          refine tkHx 26 31 ?_
                          refine tkHx 27 32 ?_
                          refine tkHx 28 33 ?_
                          refine tkHx 29 34 ?_
                          refine tkHx 30 35 ?_
                          refine tkHx 31 36 ?_
                          refine tkHx 32 37 (v:=.bool false) ?_ (hy:=fun W hS=>by (have hl:=hrl.out W hS.bel);go_simp)
                          refine tkHx 33 38 ?_
                          refine tkHx 34 39 ?_
                          refine tkHx 35 4 ?_
                          refine wpAnyH_done (by kernel_rfl) ?_ _
                          clear hHeld
                          go_wp2
                          go_ret
                          exact⟨rfl,hbz.out⟩
end Go.Proofs.YtcnfhnndppollaaGreatDoor
