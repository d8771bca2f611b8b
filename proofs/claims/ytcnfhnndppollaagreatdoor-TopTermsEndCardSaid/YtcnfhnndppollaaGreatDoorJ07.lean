/- What the statements rest on: definitions and walks, part 07. -/
import Derived.Test.YtcnfhnndppollaaGreatDoorJ06
import Derived.Maps.RangeWalk
import Derived.Lib.Bytealg
import Derived.Ground.SlsfProg
import Derived.Shelf.SlSortCmp.NoneTotal
set_option maxRecDepth 100000
set_option maxHeartbeats 16000000
set_option linter.unusedSimpArgs false
set_option linter.unusedVariables false
namespace Go.Proofs.YtcnfhnndppollaaGreatDoor
open Go Go.RowKit Go.Maps Go.WideMaps
theorem fracZero (w:World):(zeroValue 33).run Tryz.prog w=.ok (.agg #[.int .i64 0,.int .i64 0]) w:=by kernel_rfl
def GivP (mp n:Nat) (fh:List UInt8→Option Value) (s:ByteArray) (x y:Int) (w:World) (e:Ending) (w':World):Prop :=
 e=.returned (.tuple #[])∧MapIs Tryz.prog 9 strLit w' mp (n+1) (setAt fh s.data.toList (.agg #[.int .i64 x,.int .i64 y]))∧w.grownBy w' (some mp)
theorem gives_new {q hb cb mp n:Nat} {fh:List UInt8→Option Value} (s:ByteArray) (x y:Int) (hs:s.size≤maxLen) (w:World) (hh:BoxAt w hb [.pointer (some ⟨q+6,0,none⟩),.int .i64 0,.bool false,.int .i64 1,.int .i64 4,.string ⟨#[97,110,110]⟩,.pointer (some ⟨cb,0,none⟩),.map (some mp)]) (hm:MapIs Tryz.prog 9 strLit w mp n fh) (hn:n≤1000) (h0:fh s.data.toList=none)
  (hadd:∀ W,Calls Tryz.prog 59 #[.pointer (some ⟨cb,0,none⟩),.agg #[.int .i64 0,.int .i64 1],.agg #[.int .i64 x,.int .i64 y]] W fun e w'=>e=.returned (.agg #[.int .i64 x,.int .i64 y])∧Below W.heap.size W w') :
  Calls Tryz.prog 77 #[.pointer (some ⟨hb,0,none⟩),.string s,.agg #[.int .i64 x,.int .i64 y]] w (GivP mp n fh s x y w):=by
 have ha:=below_alloc w (.cells #[.int .i64 x,.int .i64 y] 33)
 have hx:=Lib.hid (BoxAt.new w #[.int .i64 x,.int .i64 y] 33)
 have hR:=BoxAt.new (w.alloc (.cells #[.int .i64 x,.int .i64 y] 33)) #[.int .i64 0,.int .i64 0] 33
 rw[World.size_alloc] at hR
 have hlk:=(hm.below ha hm.lt).look_ok (string_keyed Tryz.underlying9) Tryz.underlying123 (fracZero _) (keyOf_string_mk Tryz.underlying9 hs)
 rw[h0] at hlk
 have s7:=(hh.below ha).c 7 _ rfl
 have hml:=hm.lt
 have hhl:=hh.lt
 replace hh:=Lib.hid hh
 replace hm:=Lib.hid hm
 replace hadd:=Lib.hid hadd
 replace hR:=Lib.hid hR
 replace ha:=Lib.hid (below_step ha (below_alloc _ (.cells #[.int .i64 0,.int .i64 0] 33)))
 go_enter Tryz.func77,Tryz.ntmps77
 go_upto_region 4 with fail
 clear s7 hlk
 have hX0:=Lib.hid (BoxAt.new (w.alloc (.cells #[.int .i64 x,.int .i64 y] 33)) #[.int .i64 0,.int .i64 1] 33)
 obtain⟨Y,hY⟩:∃ Y,((w.alloc (.cells #[.int .i64 x,.int .i64 y] 33)).alloc (.cells #[.int .i64 0,.int .i64 1] 33)).drew=Y:=⟨_,rfl⟩
 have ba:Below w.heap.size w Y:=by rw[←hY];exact below_step (below_step (below_alloc _ _) (below_alloc _ _)) (Below.refl _ _).drew
 have bx:BoxAt Y w.heap.size [.int .i64 x,.int .i64 y]:=by rw[←hY];exact (hx.out.alloc _).below (Below.refl _ _).drew
 have bz:BoxAt Y (w.heap.size+1) [.int .i64 0,.int .i64 1]:=by
  rw[←hY]
  have:=hX0.out
  rw[World.size_alloc] at this
  exact this.below (Below.refl _ _).drew
 replace bx:=Lib.hid bx
 replace bz:=Lib.hid bz
 replace ba:=Lib.hid ba
 clear hX0 hx hR ha
 refine wp_region_heldZ (S:=Sc [(hb,7,.map (some mp)),(hb,6,.pointer (some ⟨cb,0,none⟩)),(w.heap.size,0,.int .i64 x),(w.heap.size,1,.int .i64 y),(w.heap.size+1,0,.int .i64 0),(w.heap.size+1,1,.int .i64 1)]) 12 (by kernel_rfl) (by rw[hY];exact (Sc.mk (by simp only[cs_iff_cons];exact⟨(hh.out.below ba.out).c 7 _ rfl,(hh.out.below ba.out).c 6 _ rfl,bx.out.c 0 _ rfl,bx.out.c 1 _ rfl,bz.out.c 0 _ rfl,bz.out.c 1 _ rfl,cs_nil _⟩))) (fun hHeld=>?_)
 rw[hY] at hHeld ⊢
 clear hY bx bz
 refine tkZx 0 20 ?_
 refine tkZx 1 21 ?_
 refine tkZx 2 22 ?_
 refine tkZx 3 23 ?_
 refine tkZx 4 24 ?_
 refine tkZx 5 25 ?_
 refine tkZx 6 26 ?_
 refine tkZx 7 27 ?_
 refine tkZx 8 28 ?_
 refine tkZx 9 29 ?_
 refine tkZx 10 30 ?_
 refine ratZ 11 (by decide +kernel) rfl (fun K hK=>?_)
 rw[if_pos (by kernel_rfl)]
 go_simp
 refine (hadd.out _).mono ?_
 rintro e9 w5 ⟨rfl,hbn⟩
 refine hK.out _ _ (hHeld.below hbn) (fun hH2=>?_)
 replace ba:=Lib.hid (below_step ba.out hbn)
 clear hK K hHeld hbn hadd
 have hHeld:=hH2
 clear hH2
 (try simp only[apS,apN,siA,scZ,scS])
 obtain⟨w6,hrun,hm6,hg6,hs6⟩:=(hm.out.below ba.out hml).store strLit_inj (string_keyed Tryz.underlying9) Tryz.underlying123 (by unfold maxLen;omega) (val:=.agg #[.int .i64 x,.int .i64 y]) (keyOf_string_mk Tryz.underlying9 hs)
 replace hm6:=Lib.hid hm6
 replace hg6:=Lib.hid ((below_grown ba.out (some mp)).trans hg6)
 clear hs6 hm
 refine ratZc 12 (by decide +kernel) rfl (by decide +kernel) (fun K hK=>?_)
 rw[if_pos (by kernel_rfl)]
 go_simp
 refine hK.out _ _ ?_
 clear hK K
 (try simp only[apS,apN,siA,scZ,scS])
 refine wpAnyHY_done (by decide +kernel) ?_ _
 clear hrun hHeld
 go_wp2
 refine bodyPost_end (results_none rfl _ _ _) rfl ?_
 exact⟨rfl,hm6.out,hg6.out⟩
end Go.Proofs.YtcnfhnndppollaaGreatDoor
namespace Go.Proofs.YtcnfhnndppollaaGreatDoor
open Go Go.RowKit Go.Maps Go.WideMaps
theorem elemLn:Elem Tryz.prog 126 143 2 40:=Elem.mk' Tryz.underlying126 (z:=.agg #[.string ⟨#[]⟩,.slice none 0 0]) (by kernel_rfl) rfl (by decide)
theorem ln_wid (s:ByteArray):∀ r∈[[Value.string s,.slice none 0 0]],r.length=2:=fun r hr=>by rw[List.mem_singleton.1 hr];rfl
theorem ln_one (s:ByteArray):∀ r∈[[Value.string s,.slice none 0 0]],∀ u∈r,u.oneCell'=true:=fun r hr u hu=>by
 rw[List.mem_singleton.1 hr] at hu
 simp at hu
 rcases hu with rfl | rfl <;> rfl
def famKids:List (List Value):=[[.string ⟨#[98,111,98]⟩],[.string ⟨#[99,97,116]⟩]]
def famLines:List (List Value):=[[.string ⟨#[98,111,98]⟩,.slice none 0 0],[.string ⟨#[99,97,116]⟩,.slice none 0 0]]
theorem kids_at {w:World} {A:Option Addr} (h:RowsAt w A 1 famKids):∃ b o,A=some ⟨b,o,none⟩∧b<w.heap.size∧w.cell? ⟨b,o,none⟩=some (.string ⟨#[98,111,98]⟩)∧w.cell? ⟨b,o+1,none⟩=some (.string ⟨#[99,97,116]⟩):=by
 obtain⟨b,o,hA,hbl,hc⟩:=h 0 _ rfl
 obtain⟨b2,o2,hA2,hbl2,hc2⟩:=h 1 _ rfl
 rw[hA] at hA2
 cases hA2
 exact⟨b,o,hA,hbl,hc 0 _ rfl,hc2 0 _ rfl⟩
def LinP (w:World) (e:Ending) (w':World):Prop:=∃ v,e=.returned v∧OwnL w' w.heap.size 143 2 v famLines∧Below w.heap.size w w'
theorem lines_fam {q k hb cb mp kc:Nat} {fd fk fp:List UInt8→Option Value} {M T:Value} {la ct:Int} (KA:Option Addr) (w:World) (h:Wd w q k fd fk fp M T la ct) (hh:BoxAt w hb [.pointer (some ⟨q+6,0,none⟩),.int .i64 0,.bool false,.int .i64 1,.int .i64 4,.string ⟨#[97,110,110]⟩,.pointer (some ⟨cb,0,none⟩),.map (some mp)]) (hk:fk [97,110,110]=some (.slice KA 2 kc)) (hr:RowsAt w KA 1 famKids) (hdb:fd [98,111,98]=none) (hdc:fd [99,97,116]=none) :
  Calls Tryz.prog 78 #[.pointer (some ⟨hb,0,none⟩),.string ⟨#[97,110,110]⟩] w (LinP w):=by
 obtain⟨b,o,hA,hbl,k0,k1⟩:=kids_at hr
 subst hA
 have hz:=Lib.hid (fun W (hb9:Below w.heap.size w W)=>kids_at (hr.below hb9))
 have hab:=Lib.hid (fun W (hb9:Below w.heap.size w W)=>able_bob W (h.below hb9) (hh.below hb9) hdb)
 have hac:=Lib.hid (fun W (hb9:Below w.heap.size w W)=>able_cat W (h.below hb9) (hh.below hb9) hdc)
 have s0:=hh.c 0 _ rfl;have m1:=h.box.c 1 _ rfl
 have lk:=h.kid ⟨#[97,110,110]⟩ (by decide)
 rw[show fk (ByteArray.data ⟨#[97,110,110]⟩).toList=_ from hk,Option.getD_some] at lk
 have ha:=Lib.hid (Below.refl w.heap.size w)
 clear hr h hh hbl k1 hk hdb hdc
 go_enter Tryz.func78,Tryz.ntmps78
 go_wp2
 refine wp_unroll 3 ?_
 unfold unroll
 go_wp2_with (first
  |(go_at_call 76;clear s0 m1 lk k0;refine (hab.out _ ha.out).mono ?_;rintro e9 w2 ⟨rfl,hbn⟩;replace ha:=Lib.hid (below_step ha.out hbn);clear hbn hab)
  |((at_builtin;refine wpList_append_rows elemLn rfl _ _ rfl rfl rfl (OwnL.nil _ w.heap.size 143 2) (rowsAt_new w2 [.string ⟨#[98,111,98]⟩,.slice none 0 0] 143) rfl (ln_wid _) (ln_one _) (by simp) (by decide) (by have:=ha.out.size;simp;omega) ?_);intro v1 w4 ho1 hg1 _))
 have hba1:=below_alloc w2 (.cells #[.string ⟨#[98,111,98]⟩,.slice none 0 0] 143)
 replace ha:=Lib.hid (below_step ha.out hba1)
 replace ha:=Lib.hid (ha.out.trans (grown_below hg1 (fun g e=>by cases e) (ha.out.size)))
 obtain⟨b9,o9,hA9,_,k0,k1⟩:=hz.out _ ha.out
 cases hA9
 have hvb1:=Lib.hid (fun g (e1:Value.ownBlock v1=some g)=>ho1.lt g e1)
 replace ho1:=Lib.hid ho1
 clear hba1 hg1 k0
 unfold unroll
 go_wp2_with (first
  |(go_at_call 76;clear k1;refine (hac.out _ ha.out).mono ?_;rintro e9 w5 ⟨rfl,hbn⟩;replace ho1:=Lib.hid (ho1.out.below hbn);replace ha:=Lib.hid (below_step ha.out hbn);clear hbn hac)
  |((at_builtin;refine wpList_append_rows elemLn rfl _ _ rfl rfl rfl (ho1.out.below (below_alloc _ _)) (rowsAt_new w5 [.string ⟨#[99,97,116]⟩,.slice none 0 0] 143) rfl (ln_wid _) (ln_one _) (by simp) (by decide) (by have:=ha.out.size;simp;omega) ?_);intro v2 w7 ho2 hg2 _))
 have hba2:=below_alloc w5 (.cells #[.string ⟨#[99,97,116]⟩,.slice none 0 0] 143)
 replace ha:=Lib.hid (below_step ha.out hba2)
 replace ha:=Lib.hid (ha.out.trans (grown_below hg2 (fun g e=>(hvb1.out g e).1) (ha.out.size)))
 replace ho2:=Lib.hid ho2
 clear hba2 hg2
 unfold unroll
 go_wp2
 go_ret
 exact⟨_,rfl,ho2.out,ha.out⟩
end Go.Proofs.YtcnfhnndppollaaGreatDoor
namespace Go.Proofs.YtcnfhnndppollaaGreatDoor
open Go Go.RowKit Go.Maps Go.WideMaps
theorem lines_at {w:World} {A:Option Addr} (h:RowsAt w A 2 famLines):∃ b o,A=some ⟨b,o,none⟩∧b<w.heap.size∧(w.cell? ⟨b,o,none⟩=some (.string ⟨#[98,111,98]⟩)∧w.cell? ⟨b,o+1,none⟩=some (.slice none 0 0))∧(w.cell? ⟨b,o+2,none⟩=some (.string ⟨#[99,97,116]⟩)∧w.cell? ⟨b,o+2+1,none⟩=some (.slice none 0 0)):=by
 obtain⟨b,o,hA,hbl,hc⟩:=h 0 _ rfl
 obtain⟨b2,o2,hA2,hbl2,hc2⟩:=h 1 _ rfl
 rw[hA] at hA2
 cases hA2
 exact⟨b,o,hA,hbl,⟨hc 0 _ rfl,hc 1 _ rfl⟩,⟨hc2 0 _ rfl,hc2 1 _ rfl⟩⟩
def DivP (mp n:Nat) (fh:List UInt8→Option Value) (w:World) (e:Ending) (w':World):Prop :=
 e=.returned (.tuple #[])∧MapIs Tryz.prog 9 strLit w' mp (n+1+1) (setAt (setAt fh [98,111,98] (.agg #[.int .i64 3,.int .i64 8])) [99,97,116] (.agg #[.int .i64 3,.int .i64 8]))∧w.grownBy w' (some mp)
theorem divide_fam {q hb cb mp n c:Nat} {fh:List UInt8→Option Value} (A:Option Addr) (w:World) (hh:BoxAt w hb [.pointer (some ⟨q+6,0,none⟩),.int .i64 0,.bool false,.int .i64 1,.int .i64 4,.string ⟨#[97,110,110]⟩,.pointer (some ⟨cb,0,none⟩),.map (some mp)]) (hm:MapIs Tryz.prog 9 strLit w mp n fh) (hn:n≤900) (hr:RowsAt w A 2 famLines) (hmh:mp≠hb) (hml:∀ a,A=some a→a.block≠mp)
  (hb0:fh [98,111,98]=none) (hc0:fh [99,97,116]=none) :
  Calls Tryz.prog 79 #[.pointer (some ⟨hb,0,none⟩),.slice A 2 c,.agg #[.int .i64 3,.int .i64 4]] w (DivP mp n fh w):=by
 have ha:=below_alloc w (.cells #[.int .i64 3,.int .i64 4] 33)
 have hx:=Lib.hid (BoxAt.new w #[.int .i64 3,.int .i64 4] 33)
 have hhl:=hh.lt
 have hmlt:=hm.lt
 replace hh:=Lib.hid hh
 replace hm:=Lib.hid hm
 replace hr:=Lib.hid hr
 replace ha:=Lib.hid ha
 go_enter Tryz.func79,Tryz.ntmps79
 go_upto_region 1 with fail
 obtain⟨X,hX⟩:∃ X,(w.alloc (.cells #[.int .i64 3,.int .i64 4] 33)).drew=X:=⟨_,rfl⟩
 have bx:BoxAt X w.heap.size [.int .i64 3,.int .i64 4]:=by rw[←hX];exact hx.out.below (Below.refl _ _).drew
 replace ha:Hid (Below w.heap.size w X):=by rw[←hX];exact below_step ha.out (Below.refl _ _).drew
 have hsX:w.heap.size+1=X.heap.size:=by rw[←hX];simp
 have hS0:=Lib.hid (Sx.mk (w:=X) (W:=X) (L:=[(hb,6,.pointer (some ⟨cb,0,none⟩)),(w.heap.size,0,.int .i64 3),(w.heap.size,1,.int .i64 4)]) (by simp only[cs_iff_cons];exact⟨(hh.out.below ha.out).c 6 _ rfl,bx.c 0 _ rfl,bx.c 1 _ rfl,cs_nil _⟩) (Below.refl _ _))
 refine wp_region_held_drew (S:=Sx X [(hb,6,.pointer (some ⟨cb,0,none⟩)),(w.heap.size,0,.int .i64 3),(w.heap.size,1,.int .i64 4)]) (by kernel_rfl) (by rw[hX];exact hS0.out) (fun hHeld=>?_)
 rw[hX] at hHeld ⊢
 clear hX bx hx
 refine tkHx 0 9 ?_
 refine tkHx 1 10 ?_
 refine tkHx 2 11 ?_
 refine tkHx 3 12 ?_
 refine tkHx 4 13 ?_
 refine tkHx 5 14 ?_
 refine tkHx 6 15 ?_
 refine tkHx 7 16 ?_
 (refine wpAnyH_ready (rs:=[8,9]) (by decide +kernel) (by simp) ?_;refine AllReadyH.cons rfl (fun K hK=>?_) (AllReadyH.cons rfl (fun K hK=>?_) AllReadyH.nil))
 ·(rw[if_pos (by kernel_rfl)];go_simp)
  refine (cmul_3_4_1_2 cb _).mono ?_
  rintro e9 w5 ⟨rfl,hbn⟩
  refine hK.out _ _ (hS0.out.step hbn) (fun hHeld2=>?_)
  clear hK K hHeld
  (try simp only[apS,apN,siA,scZ,scS])
  (refine ratHx 9 (fun K hK=>?_);go_simp)
  refine hK.out _ _ (hHeld2.step (below_alloc _ _)) (fun hHeld3=>?_)
  clear hK K hHeld2
  (try simp only[apS,apN,siA,scZ,scS])
  have hZb:=BoxAt.new w5 #[.int .i64 0,.int .i64 0] 33
  have hZa:=below_step hbn (below_alloc w5 (.cells #[.int .i64 0,.int .i64 0] 33))
  obtain⟨Y,hY⟩:∃ Y,w5.alloc (.cells #[.int .i64 0,.int .i64 0] 33)=Y:=⟨_,rfl⟩
  rw[hY] at hZb hZa hHeld3 ⊢
  have hsz5:=hbn.size
  clear hY
  obtain⟨x0,x1⟩:=hZb.c2;obtain⟨f0,f1⟩:=hZb.fr2
  have hz9:=Lib.hid ((hZb.set 0 (.int .i64 3) (by simp)).set 1 (.int .i64 8) (by simp))
  have hzb9:=Lib.hid ((hZa.setCell (p:=⟨w5.heap.size,0,none⟩) hsz5 (.int .i64 3)).setCell (p:=⟨w5.heap.size,1,none⟩) hsz5 (.int .i64 8))
  (refine ratHx 10 (fun K hK=>?_);go_simp)
  refine hK.out _ _ (hS0.out.step hzb9.out) (fun hHeld4=>?_)
  clear hK K hHeld3 x0 x1 f0 f1 hHeld4 hZb hZa
  (try simp only[apS,apN,siA,scZ,scS])
  refine wpAnyH_done (by kernel_rfl) ?_ _
  obtain⟨Z,hZ⟩:∃ Z,(Y.setCell ⟨w5.heap.size,0,none⟩ (.int .i64 3)).setCell ⟨w5.heap.size,1,none⟩ (.int .i64 8)=Z:=⟨_,rfl⟩
  rw[hZ] at hz9 hzb9 ⊢
  clear hZ
  have gz:=Lib.hid (below_step ha.out hzb9.out)
  obtain⟨bq,hbq,hBl⟩:∃ bq,bq=w5.heap.size∧w.heap.size+1≤bq:=⟨_,rfl,by omega⟩
  rw[←hbq] at hz9 ⊢
  clear hzb9
  have bB:Hid (BoxAt Z bq [.int .i64 3,.int .i64 8]):=hz9.out
  clear hz9 hbq hbn hS0
  have hrZ:=Lib.hid (hr.out.below gz.out)
  obtain⟨lb,lo,hA,_,⟨l0,l1⟩,_⟩:=lines_at hrZ.out
  have hba:=below_alloc Z (.cells #[.string ⟨#[98,111,98]⟩,.slice none 0 0] 143)
  have b0:=(bB.out.below hba).c 0 _ rfl
  have b1:=(bB.out.below hba).c 1 _ rfl
  have hmZ:=Lib.hid (hm.out.below gz.out hmlt)
  have hhZ:=Lib.hid (hh.out.below gz.out)
  have hba:=Lib.hid hba
  subst hA
  go_wp2
  refine wp_unroll 3 ?_
  unfold unroll
  go_wp2_with (go_at_call 77;clear l0 l1 b0 b1;refine (gives_new ⟨#[98,111,98]⟩ 3 8 (by decide) _ (hhZ.out.below hba.out) (hmZ.out.below hba.out hmZ.out.lt) (by omega) hb0 (fun W=>cadd_0_1_3_8 cb W)).mono ?_;rintro e9 Z2 ⟨rfl,hm2,hg2⟩)
  have hne:∀ b9,b9≠mp→some b9≠some mp:=fun b9 h9 e9=>h9 (Option.some.inj e9)
  have hr2:=rows_far (hrZ.out.below hba.out) hg2 (fun a e e2=>hml a e (Option.some.inj e2))
  have hh2:=(hhZ.out.below hba.out).grown hg2 (hne _ (Ne.symm hmh))
  have bB2:=(bB.out.below hba.out).grown hg2 (hne _ (by omega))
  have hG2:=Lib.hid ((below_grown (below_step gz.out hba.out) (some mp)).trans hg2)
  obtain⟨lb2,lo2,hA2,_,_,⟨l2,l3⟩⟩:=lines_at hr2
  cases hA2
  clear hg2 hba hmZ hhZ hrZ bB
  have hba:=below_alloc Z2 (.cells #[.string ⟨#[99,97,116]⟩,.slice none 0 0] 143)
  have b0:=(bB2.below hba).c 0 _ rfl
  have b1:=(bB2.below hba).c 1 _ rfl
  have hm2:=Lib.hid hm2
  have hh2:=Lib.hid hh2
  have hba:=Lib.hid hba
  clear hr2 bB2
  unfold unroll
  go_wp2_with (go_at_call 77;clear l2 l3 b0 b1;refine (gives_new ⟨#[99,97,116]⟩ 3 8 (by decide) _ (hh2.out.below hba.out) (hm2.out.below hba.out hm2.out.lt) (by omega) (by show setAt fh [98,111,98] _ [99,97,116]=none;rw[setAt_other _ _ (by decide)];exact hc0) (fun W=>cadd_0_1_3_8 cb W)).mono ?_;rintro e9 Z3 ⟨rfl,hm3,hg3⟩)
  have hG3:=Lib.hid (hG2.out.trans ((below_grown hba.out (some mp)).trans hg3))
  have hm3:=Lib.hid hm3
  clear hg3 hba hm2 hh2
  unfold unroll
  go_wp2
  refine bodyPost_end (results_none rfl _ _ _) rfl ?_
  exact⟨rfl,hm3.out,hG3.out⟩
 (rw[if_pos (by kernel_rfl)];go_simp)
 refine hK.out _ _ (hS0.out.step (below_alloc _ _)) (fun hHeld2=>?_)
 clear hK K hHeld
 (try simp only[apS,apN,siA,scZ,scS])
 have hZb:=BoxAt.new X #[.int .i64 0,.int .i64 0] 33
 have hZa:=below_alloc X (.cells #[.int .i64 0,.int .i64 0] 33)
 (refine ratHx 8 (fun K hK=>?_);go_simp)
 refine (cmul_3_4_1_2 cb _).mono ?_
 rintro e9 w5 ⟨rfl,hbn⟩
 refine hK.out _ _ (hHeld2.step hbn) (fun hHeld3=>?_)
 replace hZb:=hZb.below hbn
 replace hZa:=below_step hZa hbn
 clear hK K hHeld2
 (try simp only[apS,apN,siA,scZ,scS])
 obtain⟨x0,x1⟩:=hZb.c2;obtain⟨f0,f1⟩:=hZb.fr2
 have hz9:=Lib.hid ((hZb.set 0 (.int .i64 3) (by simp)).set 1 (.int .i64 8) (by simp))
 have hzb9:=Lib.hid ((hZa.setCell (p:=⟨X.heap.size,0,none⟩) (Nat.le_refl _) (.int .i64 3)).setCell (p:=⟨X.heap.size,1,none⟩) (Nat.le_refl _) (.int .i64 8))
 (refine ratHx 10 (fun K hK=>?_);go_simp)
 refine hK.out _ _ (hS0.out.step hzb9.out) (fun hHeld4=>?_)
 clear hK K hHeld3 x0 x1 f0 f1 hHeld4 hZb hZa
 (try simp only[apS,apN,siA,scZ,scS])
 refine wpAnyH_done (by kernel_rfl) ?_ _
 obtain⟨Z,hZ⟩:∃ Z,(w5.setCell ⟨X.heap.size,0,none⟩ (.int .i64 3)).setCell ⟨X.heap.size,1,none⟩ (.int .i64 8)=Z:=⟨_,rfl⟩
 rw[hZ] at hz9 hzb9 ⊢
 clear hZ
 have gz:=Lib.hid (below_step ha.out hzb9.out)
 obtain⟨bq,hbq,hBl⟩:∃ bq,bq=X.heap.size∧w.heap.size+1≤bq:=⟨_,rfl,by omega⟩
 rw[←hbq] at hz9 ⊢
 clear hzb9
 have bB:Hid (BoxAt Z bq [.int .i64 3,.int .i64 8]):=hz9.out
 clear hz9 hbq hbn hS0
 have hrZ:=Lib.hid (hr.out.below gz.out)
 obtain⟨lb,lo,hA,_,⟨l0,l1⟩,_⟩:=lines_at hrZ.out
 have hba:=below_alloc Z (.cells #[.string ⟨#[98,111,98]⟩,.slice none 0 0] 143)
 have b0:=(bB.out.below hba).c 0 _ rfl
 have b1:=(bB.out.below hba).c 1 _ rfl
 have hmZ:=Lib.hid (hm.out.below gz.out hmlt)
 have hhZ:=Lib.hid (hh.out.below gz.out)
 have hba:=Lib.hid hba
 subst hA
 go_wp2
 refine wp_unroll 3 ?_
 unfold unroll
 go_wp2_with (go_at_call 77;clear l0 l1 b0 b1;refine (gives_new ⟨#[98,111,98]⟩ 3 8 (by decide) _ (hhZ.out.below hba.out) (hmZ.out.below hba.out hmZ.out.lt) (by omega) hb0 (fun W=>cadd_0_1_3_8 cb W)).mono ?_;rintro e9 Z2 ⟨rfl,hm2,hg2⟩)
 have hne:∀ b9,b9≠mp→some b9≠some mp:=fun b9 h9 e9=>h9 (Option.some.inj e9)
 have hr2:=rows_far (hrZ.out.below hba.out) hg2 (fun a e e2=>hml a e (Option.some.inj e2))
 have hh2:=(hhZ.out.below hba.out).grown hg2 (hne _ (Ne.symm hmh))
 have bB2:=(bB.out.below hba.out).grown hg2 (hne _ (by omega))
 have hG2:=Lib.hid ((below_grown (below_step gz.out hba.out) (some mp)).trans hg2)
 obtain⟨lb2,lo2,hA2,_,_,⟨l2,l3⟩⟩:=lines_at hr2
 cases hA2
 clear hg2 hba hmZ hhZ hrZ bB
 have hba:=below_alloc Z2 (.cells #[.string ⟨#[99,97,116]⟩,.slice none 0 0] 143)
 have b0:=(bB2.below hba).c 0 _ rfl
 have b1:=(bB2.below hba).c 1 _ rfl
 have hm2:=Lib.hid hm2
 have hh2:=Lib.hid hh2
 have hba:=Lib.hid hba
 clear hr2 bB2
 unfold unroll
 go_wp2_with (go_at_call 77;clear l2 l3 b0 b1;refine (gives_new ⟨#[99,97,116]⟩ 3 8 (by decide) _ (hh2.out.below hba.out) (hm2.out.below hba.out hm2.out.lt) (by omega) (by show setAt fh [98,111,98] _ [99,97,116]=none;rw[setAt_other _ _ (by decide)];exact hc0) (fun W=>cadd_0_1_3_8 cb W)).mono ?_;rintro e9 Z3 ⟨rfl,hm3,hg3⟩)
 have hG3:=Lib.hid (hG2.out.trans ((below_grown hba.out (some mp)).trans hg3))
 have hm3:=Lib.hid hm3
 clear hg3 hba hm2 hh2
 unfold unroll
 go_wp2
 refine bodyPost_end (results_none rfl _ _ _) rfl ?_
 exact⟨rfl,hm3.out,hG3.out⟩
end Go.Proofs.YtcnfhnndppollaaGreatDoor
namespace Go.Proofs.YtcnfhnndppollaaGreatDoor
open Go Go.RowKit Go.Maps Go.WideMaps
theorem partsZero (w:World):(zeroValue 36).run Tryz.prog w=.ok (.slice none 0 0) w:=by kernel_rfl
structure EsI (w:World) (q cb n:Nat) (f:List UInt8→Option Value) (x y:Int) (W:World):Prop where
 l:BoxAt W w.heap.size [.int .i64 0,.bool false,.int .i64 1,.int .i64 4]
 h:BoxAt W (w.heap.size+1+1) [.pointer (some ⟨q+6,0,none⟩),.int .i64 0,.bool false,.int .i64 1,.int .i64 4,.string ⟨#[97,110,110]⟩,.pointer (some ⟨cb,0,none⟩),.map (some (w.heap.size+1))]
 r:BoxAt W (w.heap.size+1+1+1) [.int .i64 x,.int .i64 y]
 m:MapIs Tryz.prog 9 strLit W (w.heap.size+1) n f
 bel:Below w.heap.size w W
theorem EsI.below {w:World} {q cb n:Nat} {f:List UInt8→Option Value} {x y:Int} {W W':World} (h:EsI w q cb n f x y W) (hb:Below W.heap.size W W'):EsI w q cb n f x y W' :=
 ⟨h.l.below hb,h.h.below hb,h.r.below hb,h.m.below hb h.m.lt,below_step h.bel hb⟩
theorem EsI.grown {w:World} {q cb n n':Nat} {f f':List UInt8→Option Value} {x y:Int} {W W':World} (h:EsI w q cb n f x y W) (hm:MapIs Tryz.prog 9 strLit W' (w.heap.size+1) n' f') (hg:W.grownBy W' (some (w.heap.size+1))):EsI w q cb n' f' x y W':=by
 have hne:∀ b c:Nat,b≠c→some b≠some c:=fun b c h9 e9=>h9 (Option.some.inj e9)
 exact⟨h.l.grown hg (hne _ _ (by omega)),h.h.grown hg (hne _ _ (by omega)),h.r.grown hg (hne _ _ (by omega)),hm,h.bel.grown hg h.bel.size (fun g e=>by have:=Option.some.inj e;omega)⟩
theorem EsI.put {w:World} {q cb n:Nat} {f:List UInt8→Option Value} {x y x' y':Int} {W W':World} (h:EsI w q cb n f x y W) (hr:BoxAt W' (w.heap.size+1+1+1) [.int .i64 x',.int .i64 y']) (hg:W.grownBy W' (some (w.heap.size+1+1+1))):EsI w q cb n f x' y' W':=by
 have hne:∀ b c:Nat,b≠c→some b≠some c:=fun b c h9 e9=>h9 (Option.some.inj e9)
 exact⟨h.l.grown hg (hne _ _ (by omega)),h.h.grown hg (hne _ _ (by omega)),hr,h.m.kept hg (hne _ _ (by omega)),h.bel.grown hg h.bel.size (fun g e=>by have:=Option.some.inj e;omega)⟩
def estFn:List UInt8→Option Value:=setAt (setAt (setAt (fun _=>none) [100,97,110] (.agg #[.int .i64 1,.int .i64 4])) [98,111,98] (.agg #[.int .i64 3,.int .i64 8])) [99,97,116] (.agg #[.int .i64 3,.int .i64 8])
def estPs:List Pa:=[⟨⟨#[98,111,98]⟩,3,8⟩,⟨⟨#[99,97,116]⟩,3,8⟩,⟨⟨#[100,97,110]⟩,1,4⟩]
theorem est_cases {k:List UInt8} {v:Value} (h:estFn k=some v):(k=[98,111,98]∧v=.agg #[.int .i64 3,.int .i64 8])∨(k=[99,97,116]∧v=.agg #[.int .i64 3,.int .i64 8])∨(k=[100,97,110]∧v=.agg #[.int .i64 1,.int .i64 4]):=by
 unfold estFn setAt at h
 split at h
 ·rename_i h1;exact .inr (.inl ⟨h1,(Option.some.inj h).symm⟩)
 split at h
 ·rename_i h1;exact .inl ⟨h1,(Option.some.inj h).symm⟩
 split at h
 ·rename_i h1;exact .inr (.inr ⟨h1,(Option.some.inj h).symm⟩)
 cases h
theorem bytes_ext {a b:ByteArray} (h:a.data.toList=b.data.toList):a=b:=ByteArray.ext (Array.toList_inj.1 h)
theorem got_of {k:List UInt8} {f:List UInt8→Option Value} {D:DataW Value} {cv:Value} (hD:∀ z,D.atKey (strLit k) (.held z)=.held ((f k).getD z)) (hat:∀ zd,D.atKey (strLit k) zd=.held cv):f k=some cv:=by
 cases hf:f k with
 | none =>
  have h1:=(hD (.bool true)).symm.trans (hat _)
  have h2:=(hD (.bool false)).symm.trans (hat _)
  rw[hf] at h1 h2
  simp at h1 h2
  rw[←h1] at h2
  cases h2
 | some u =>
  have h1:=(hD (.bool true)).symm.trans (hat _)
  rw[hf] at h1
  simp at h1
  rw[h1]
theorem cnt_le {W:World} {P:Program} {k:TypeId} {R:Value→Option (DataW Value × List MemPlace)} {b r n:Nat} {D:DataW Value} {left:Lit→Bool} {cnt:Nat} (h:W.ranges P k R b r n D left cnt):cnt≤n:=by
 obtain⟨es,clock,since,seen,c0,_,_,hs,_,_,_,hc,_⟩:=h
 rw[←hc]
 exact Nat.le_trans (by unfold leftOf;exact Array.size_filter_le ..) hs
structure EsL (w:World) (mp r n N:Nat) (D:DataW Value) (left:Lit→Bool) (cnt:Nat) (l:List Pa) (v:Value) (W:World):Prop where
 rg:W.ranges Tryz.prog 9 heldR mp r n D left cnt
 own:OwnL W (r+1) 35 3 v (l.map Pa.cells)
 bel:Below w.heap.size w W
 sub:∀ p∈l,p∈estPs∧left (strLit p.name.data.toList)=false
 nd:l.Nodup
 all:∀ p∈estPs,left (strLit p.name.data.toList)=false→p∈l
 len:l.length+cnt≤N
theorem EsL.more {w:World} {mp r n N:Nat} {D:DataW Value} {left:Lit→Bool} {cnt cnt1:Nat} {l:List Pa} {v v':Value} {W W':World} (h:EsL w mp r n N D left cnt l v W) (p:Pa) (hp:p∈estPs) (hl:left (strLit p.name.data.toList)=true)
  (rg:W'.ranges Tryz.prog 9 heldR mp r n D (fun z=>left z && !z.sameKey (strLit p.name.data.toList)) cnt1) (hc:cnt1<cnt) (own:OwnL W' (r+1) 35 3 v' ((l ++ [p]).map Pa.cells)) (bel:Below w.heap.size w W') :
  EsL w mp r n N D (fun z=>left z && !z.sameKey (strLit p.name.data.toList)) cnt1 (l ++ [p]) v' W':=by
 refine⟨rg,own,bel,fun x hx=>?_,?_,fun x hx h0=>?_,?_⟩
 ·rcases List.mem_append.1 hx with hx | hx
  ·obtain⟨h1,h2⟩:=h.sub x hx
   exact⟨h1,by simp[h2]⟩
  rw[List.mem_singleton.1 hx]
  exact⟨hp,by simp[strLit,Lit.sameKey]⟩
 ·rw[List.nodup_append]
  refine⟨h.nd,by simp,fun x hx y hy e=>?_⟩
  rw[List.mem_singleton.1 hy] at e
  subst e
  rw[(h.sub x hx).2] at hl
  cases hl
 ·rcases hx0:left (strLit x.name.data.toList) with _ | _
  ·exact List.mem_append_left _ (h.all x hx hx0)
  simp[hx0,strLit,Lit.sameKey] at h0
  have:x=p:=by
   simp[estPs] at hx hp
   rcases hx with rfl | rfl | rfl <;> rcases hp with rfl | rfl | rfl <;> simp_all [strLit]
  exact List.mem_append_right _ (by rw[this];simp)
 have:=h.len
 simp
 omega
theorem EsL.perm {w:World} {mp r n N:Nat} {D:DataW Value} {left:Lit→Bool} {cnt:Nat} {l:List Pa} {v:Value} {W:World} (h:EsL w mp r n N D left cnt l v W) (h0:∀ kl,left kl=false):l.Perm estPs :=
 (List.perm_ext_iff_of_nodup h.nd (by simp[estPs])).2 fun x=>⟨fun hx=>(h.sub x hx).1,fun hx=>h.all x hx (h0 _)⟩
def EstP (w:World) (e:Ending) (w':World):Prop:=∃ v,e=.returned v∧OwnL w' w.heap.size 35 3 v (estPs.map Pa.cells)∧Below w.heap.size w w'
theorem estate_fam {q k cb kc mc:Nat} {fd fk fp:List UInt8→Option Value} {T:Value} {la ct:Int} (KA MA:Option Addr) (w:World) (h:Wd w q k fd fk fp (.slice MA 1 mc) T la ct) (hk:fk [97,110,110]=some (.slice KA 2 kc)) (hr:RowsAt w KA 1 famKids) (hmr:RowsAt w MA 2 (annDan.map prR))
  (hsort:∀ (W:World) (B:Nat) (v:Value) (L:List Pa),OwnL W B 35 3 v (L.map Pa.cells)→L.Perm estPs→Calls Tryz.prog 80 #[v,.func (.func 81) #[] #[]] W fun e w'=>e=.returned (.tuple #[])∧OwnL w' B 35 3 v (estPs.map Pa.cells)∧W.grownBy w' v.ownBlock)
  (hdb:fd [98,111,98]=none) (hdc:fd [99,97,116]=none) (hdd:fd [100,97,110]=none) :
  Calls Tryz.prog 61 #[.pointer (some ⟨q+6,0,none⟩),.agg #[.int .i64 0,.bool false,.int .i64 1,.int .i64 4],.string ⟨#[97,110,110]⟩,.pointer (some ⟨cb,0,none⟩)] w (EstP w):=by
 have hmm:=@run_makeMap Tryz.prog
 have hE0:EsI w q cb 0 (fun _=>none) 1 1 ((((w.alloc (.cells #[.int .i64 0,.bool false,.int .i64 1,.int .i64 4] 56)).alloc (.map #[] 0)).alloc (.cells #[.pointer (some ⟨q+6,0,none⟩),.int .i64 0,.bool false,.int .i64 1,.int .i64 4,.string ⟨#[97,110,110]⟩,.pointer (some ⟨cb,0,none⟩),.map (some (w.heap.size+1))] 125)).alloc (.cells #[.int .i64 1,.int .i64 1] 33)):=by
  refine⟨(((BoxAt.new w #[.int .i64 0,.bool false,.int .i64 1,.int .i64 4] _).alloc _).alloc _).alloc _,?_,?_,?_,below_step (below_step (below_step (below_alloc _ _) (below_alloc _ _)) (below_alloc _ _)) (below_alloc _ _)⟩
  ·have:=BoxAt.new ((w.alloc (.cells #[.int .i64 0,.bool false,.int .i64 1,.int .i64 4] 56)).alloc (.map #[] 0)) #[.pointer (some ⟨q+6,0,none⟩),.int .i64 0,.bool false,.int .i64 1,.int .i64 4,.string ⟨#[97,110,110]⟩,.pointer (some ⟨cb,0,none⟩),.map (some (w.heap.size+1))] 125
   rw[World.size_alloc,World.size_alloc] at this
   exact this.alloc _
  ·have:=BoxAt.new (((w.alloc (.cells #[.int .i64 0,.bool false,.int .i64 1,.int .i64 4] 56)).alloc (.map #[] 0)).alloc (.cells #[.pointer (some ⟨q+6,0,none⟩),.int .i64 0,.bool false,.int .i64 1,.int .i64 4,.string ⟨#[97,110,110]⟩,.pointer (some ⟨cb,0,none⟩),.map (some (w.heap.size+1))] 125)) #[.int .i64 1,.int .i64 1] 33
   rw[World.size_alloc,World.size_alloc,World.size_alloc] at this
   exact this
  have:=MapIs.made Tryz.prog 9 strLit (w.alloc (.cells #[.int .i64 0,.bool false,.int .i64 1,.int .i64 4] 56))
  rw[World.size_alloc] at this
  exact (this.alloc _).alloc _
 obtain⟨X,hX⟩:∃ X,(((w.alloc (.cells #[.int .i64 0,.bool false,.int .i64 1,.int .i64 4] 56)).alloc (.map #[] 0)).alloc (.cells #[.pointer (some ⟨q+6,0,none⟩),.int .i64 0,.bool false,.int .i64 1,.int .i64 4,.string ⟨#[97,110,110]⟩,.pointer (some ⟨cb,0,none⟩),.map (some (w.heap.size+1))] 125)).alloc (.cells #[.int .i64 1,.int .i64 1] 33)=X:=⟨_,rfl⟩
 rw[hX] at hE0
 have hz:=Lib.hid (fun W (hb9:Below w.heap.size w W)=>h.below hb9)
 have hkz:=Lib.hid (fun W (hb9:Below w.heap.size w W)=>hr.below hb9)
 have hmz:=Lib.hid (fun W (hb9:Below w.heap.size w W)=>hmr.below hb9)
 have m4:=(h.below hE0.bel).box.c 4 _ rfl
 have hwl:=(MapIs.empty Tryz.prog 9 strLit (h.below hE0.bel).pl).look (string_keyed Tryz.underlying9) Tryz.underlying75 (partsZero _) (keyOf_string_mk Tryz.underlying9 (s:=⟨#[97,110,110]⟩) (by decide))
 simp only[Option.getD_none] at hwl
 have hlt:=h.lt
 have hE:=Lib.hid hE0
 clear hE0 h hr hmr
 go_enter Tryz.func61,Tryz.ntmps61
 go_wp2
 refine wp_unroll 1 ?_
 unfold unroll
 have hXl:w.heap.size+1+1+1<X.heap.size:=hE.out.r.lt
 clear hX
 go_wp2_with (first
  |(go_at_call 78;clear m4 hwl;refine (lines_fam KA _ (hz.out _ hE.out.bel) hE.out.h hk (hkz.out _ hE.out.bel) hdb hdc).mono ?_;rintro e9 Y1 ⟨lv,rfl,hol,hbn⟩;obtain⟨LA,lc,hlv,hlr⟩:=OwnL.form hol;have hlv2:lv=.slice LA 2 lc:=hlv;have hLA:=Lib.hid (fun a (e:LA=some a)=>(hol.lt a.block (by rw[hlv2,e];rfl)).1);subst hlv2;replace hlr:=Lib.hid hlr;replace hE:=Lib.hid (hE.out.below hbn);clear hol hlv hbn)
  |(go_at_call 64;refine (spouse_ann MA mc _ (hz.out _ hE.out.bel) (hmz.out _ hE.out.bel) hdd).mono ?_;rintro e9 Y2 ⟨rfl,hbn⟩;replace hlr:=Lib.hid (hlr.out.below hbn);replace hE:=Lib.hid (hE.out.below hbn);clear hbn)
  |(go_at_call 76;refine (able_dan _ (hz.out _ hE.out.bel) hE.out.h hdd).mono ?_;rintro e9 Y3 ⟨rfl,hbn⟩;replace hlr:=Lib.hid (hlr.out.below hbn);replace hE:=Lib.hid (hE.out.below hbn);clear hbn;obtain⟨r0,r1⟩:=hE.out.r.c2;have l2:=hE.out.l.c 2 _ rfl;have l3:=hE.out.l.c 3 _ rfl)
  |(go_at_call 70;clear r0 r1 l2 l3;refine (lowest_1_4 _).mono ?_;rintro e9 Y4 ⟨rfl,hbn⟩;replace hlr:=Lib.hid (hlr.out.below hbn);replace hE:=Lib.hid (hE.out.below hbn);clear hbn;have hba:=below_alloc Y4 (.cells #[.int .i64 1,.int .i64 4] 33);replace hlr:=Lib.hid (hlr.out.below hba);replace hE:=Lib.hid (hE.out.below hba);have ob:=Lib.hid (BoxAt.new Y4 #[.int .i64 1,.int .i64 4] 33);(have hY4:w.heap.size+1+1+1<Y4.heap.size+1:=by (have:=hE.out.r.lt;rw[World.size_alloc] at this;exact this));clear hba)
  |(go_at_call 77;refine (gives_new ⟨#[100,97,110]⟩ 1 4 (by decide) _ hE.out.h hE.out.m (by omega) rfl (fun W=>cadd_0_1_1_4 cb W)).mono ?_;rintro e9 Y6 ⟨rfl,hm6,hg6⟩;replace hlr:=Lib.hid (rows_far hlr.out hg6 (fun a e e2=>by have:=hLA.out a e;have:=Option.some.inj e2;omega));replace ob:=Lib.hid (ob.out.grown hg6 (fun e=>by have:=Option.some.inj e;omega));replace hE:=Lib.hid (hE.out.grown hm6 hg6);clear hm6 hg6;obtain⟨r0,r1⟩:=hE.out.r.c2;obtain⟨o0,o1⟩:=ob.out.c2)
  |(go_at_call 57;clear r0 r1 o0 o1;refine (rsub_1_1_1_4 _).mono ?_;rintro e9 Y7 ⟨rfl,hbn⟩;replace hlr:=Lib.hid (hlr.out.below hbn);replace hE:=Lib.hid (hE.out.below hbn);clear hbn ob)
  |(refine wpList_store_box rfl 33 (.tmp 10) (.tmp 97) rfl (w.heap.size+1+1+1) _ [.int .i64 3,.int .i64 4] (by rfl) (by rfl) hE.out.r rfl frSize (by kernel_rfl) ?_;intro Y8 h8 hg8;replace hlr:=Lib.hid (rows_far hlr.out hg8 (fun a e e2=>by have:=hLA.out a e;have:=Option.some.inj e2;omega));replace hE:=Lib.hid (hE.out.put h8 hg8);clear h8 hg8;obtain⟨r0,r1⟩:=hE.out.r.c2)
  |(go_at_call 79;clear r0 r1;refine (divide_fam LA _ hE.out.h hE.out.m (by omega) hlr.out (by omega) (fun a e e2=>by have:=hLA.out a e;omega) rfl rfl).mono ?_;rintro e9 Y9 ⟨rfl,hm9,hg9⟩;replace hE:=Lib.hid (hE.out.grown hm9 hg9);clear hm9 hg9 hlr;have s7:=hE.out.h.c 7 _ rfl)
  |(at_range;clear s7;obtain⟨D,hown,hD⟩:=hE.out.m;refine wpList_range_own _ rfl _ 123 rfl 9 33 (string_keyed Tryz.underlying9) Tryz.underlying123 heldR (w.heap.size+1) _ D rfl hown ?_;intro w0 hrg0 hg0 hs0))
 have hb0:Below w.heap.size w w0:=hE.out.bel.grown hg0 hE.out.bel.size (fun g e=>by cases e)
 have hst:Hid (EsL w (w.heap.size+1) Y9.heap.size (0+1+1+1) (0+1+1+1) D (Maps.has D) (Maps.size D) [] (.slice none 0 0) w0):=by
  refine⟨hrg0,OwnL.nil _ _ _ _,hb0,fun p hp=>by simp at hp,List.nodup_nil,fun p hp h0=>?_,by have:=cnt_le hrg0;simpa using this⟩
  have:=(hD p.name.data.toList trivial).1
  rw[h0] at this
  simp[estPs] at hp
  rcases hp with rfl | rfl | rfl <;> exact absurd this (by decide)
 have hDz:=Lib.hid hD
 have hY9:w.heap.size+1+1+1<Y9.heap.size:=hE.out.r.lt
 have hso:=Lib.hid hsort
 clear hg0 hs0 hrg0 hb0 hown hD hE hLA hz hkz hmz hk hsort
 go_frame
 go_loopw [16] (fun v wr=>∃ (left:Lit→Bool) (cnt:Nat) (l:List Pa),Hid (EsL w (w.heap.size+1) Y9.heap.size (0+1+1+1) (0+1+1+1) D left cnt l v wr)) (fun _ wr=>wr.rangeLeft (w.heap.size+1) Y9.heap.size)
 case atStart=>exact⟨_,_,_,hst⟩
 case round =>
  clear hst
  obtain⟨left,cnt,l,hL⟩:=hrel
  go_wp2_with (first
   |(at_next;refine wpList_next_ranges _ rfl _ rfl 9 (string_keyed Tryz.underlying9) heldR Value.string id (fun key kl hkey=>by obtain⟨s,h1,_⟩:=string_of_keyOf Tryz.underlying9 hkey;exact⟨s,h1⟩) (fun v y _=>⟨v,rfl⟩) (w.heap.size+1) Y9.heap.size _ _ _ _ rfl hL.out.rg ?_ ?_))
  ·intro _ hl0
   have hperm:=hL.out.perm hl0
   have hend:=Lib.hid (hso.out _ _ _ _ hL.out.own hperm)
   have hbel:=Lib.hid hL.out.bel
   have hown:=Lib.hid (fun g e=>(hL.out.own.lt g e).1)
   clear hperm hL hso
   go_wp2_with (go_at_call 80;refine hend.out.mono ?_;rintro e9 w9 ⟨rfl,ho9,hg9⟩;clear hend;replace ho9:=Lib.hid ho9;replace hg9:=Lib.hid hg9)
   go_ret
   exact⟨_,rfl,ho9.out.less (by omega),hbel.out.grown hg9.out hbel.out.size (fun g e=>by have:=hown.out g e;omega)⟩
  intro x cv kl y ys w1 cnt1 hkey hlk hRv hat hrg1 hlt1 hg1 hs1 hen
  obtain⟨s9,hs9,hkl,hsz9⟩:=string_of_keyOf Tryz.underlying9 hkey
  obtain rfl:x=s9:=Value.string.inj hs9
  have hat2:∀ zd,D.atKey (strLit x.data.toList) zd=.held cv:=fun zd=>by
   rw[show strLit x.data.toList=kl from hkl.symm,hat zd]
   have h1:(some (DataW.held cv,[]):Option (DataW Value × List MemPlace))=some (y,ys):=hRv
   injection h1 with h1
   exact (congrArg Prod.fst h1).symm
  have hgot:=got_of (fun z=>(hDz.out x.data.toList trivial).2 z) hat2
  have hkl2:kl=strLit x.data.toList:=hkl
  subst hkl2
  have hpick:∃ p∈estPs,x=p.name∧cv=.agg #[.int .i64 p.n,.int .i64 p.d]:=by
   rcases est_cases hgot with ⟨h1,h2⟩ | ⟨h1,h2⟩ | ⟨h1,h2⟩
   ·exact⟨⟨⟨#[98,111,98]⟩,3,8⟩,by simp[estPs],bytes_ext h1,h2⟩
   ·exact⟨⟨⟨#[99,97,116]⟩,3,8⟩,by simp[estPs],bytes_ext h1,h2⟩
   exact⟨⟨⟨#[100,97,110]⟩,1,4⟩,by simp[estPs],bytes_ext h1,h2⟩
  obtain⟨p,hp,rfl,rfl⟩:=hpick
  have hpos:¬p.n≤0:=by
   simp[estPs] at hp
   rcases hp with rfl | rfl | rfl <;> decide
  have hown1:=Lib.hid (hL.out.own.kept hg1 (.inr (fun e=>by have:=(hL.out.own.lt _ e).1;omega)))
  have hbel1:=Lib.hid (hL.out.bel.grown hg1 hL.out.bel.size (fun g e=>by have:=Option.some.inj e;omega))
  have hlen:=hL.out.len
  have hrl:=hrg1.lt
  replace hrg1:=Lib.hid hrg1
  replace hp:=Lib.hid hp
  replace hlk:=Lib.hid hlk
  have hvb:=Lib.hid hown1.out.lt
  clear hat hat2 hgot hkey hs9 hRv hg1 hs1 hkl hso hDz
  have hsrc:=rowsAt_new (w1.alloc (.cells #[.int .i64 p.n,.int .i64 p.d] 33)) [.string p.name,.int .i64 p.n,.int .i64 p.d] 35
  rw[World.size_alloc] at hsrc
  have hsrc:=Lib.hid hsrc
  go_wp2_with (at_builtin;refine wpList_append_rows elemPa rfl _ _ rfl rfl rfl ((hown1.out.below (below_alloc _ _)).below (below_alloc _ _)) hsrc.out rfl (pa_wid [p]) (pa_one [p]) (by rw[List.length_map];simp;omega) (by decide) (by simp;omega) ?_;intro v6 w6 hown6 hg6 _)
  have hba:=below_step (below_alloc w1 (.cells #[.int .i64 p.n,.int .i64 p.d] 33)) (below_alloc _ (.cells #[.string p.name,.int .i64 p.n,.int .i64 p.d] 35))
  have hb1:=hbel1.out.size
  have hrg6:=Lib.hid (((hrg1.out.alloc (.cells #[.int .i64 p.n,.int .i64 p.d] 33)).alloc (.cells #[.string p.name,.int .i64 p.n,.int .i64 p.d] 35)).kept hg6 (fun e=>by have:=(hvb.out _ e.symm).1;omega) (fun e=>by have:=(hvb.out _ e.symm).1;omega))
  have hbel6:=Lib.hid ((below_step hbel1.out hba).grown hg6 (by simp;omega) (fun g e=>by have:=(hvb.out _ e).1;omega))
  replace hown6:=Lib.hid hown6
  clear hg6 hba hvb hsrc
  go_wp2
  go_roundw
  case rel=>exact⟨_,_,_,Lib.hid (hL.out.more p hp.out hlk.out hrg6.out hlt1 (by rw[List.map_append];exact hown6.out) hbel6.out)⟩
  case measure=>rw[hrg6.out.left_eq,hL.out.rg.left_eq];exact hlt1
end Go.Proofs.YtcnfhnndppollaaGreatDoor
namespace Go.Proofs.YtcnfhnndppollaaGreatDoor.Cal
open Go.Lib
theorem cb_lt:∀ {a b:List UInt8},compareBytes a b<0↔a<b
 | [],[]=>by simp[compareBytes]
 | [],_ :: _=>by simp[compareBytes]
 | _ :: _,[]=>by simp[compareBytes]
 | x :: r,y :: s=>by
  rw[List.cons_lt_cons_iff]
  unfold compareBytes
  split
  ·rename_i h;simp[h]
  rename_i h
  split
  ·rename_i h2
   have hne:x≠y:=fun e=>by subst e;exact h h2
   simp[h,hne]
  rename_i h2
  have e:x=y:=by
   have h3:=UInt8.not_lt.1 h
   have h4:=UInt8.not_lt.1 h2
   exact UInt8.le_antisymm h4 h3
  subst e
  rw[cb_lt]
  simp
theorem cb_total {a b:List UInt8} (h1:¬compareBytes a b<0) (h2:¬compareBytes b a<0):a=b:=by
 rw[cb_lt] at h1 h2
 exact List.le_antisymm (List.not_lt.1 h2) (List.not_lt.1 h1)
end Go.Proofs.YtcnfhnndppollaaGreatDoor.Cal
namespace Go.Proofs
open Go.Shelf
def Tryz.laysSlF06_f80_ren:Go.Shelf.Ren:=⟨fun | 6=>80 | 15=>91 | 14=>90 | 28=>103 | 29=>104 | 20=>95 | 21=>96 | 22=>97 | 23=>98 | 24=>99 | 25=>100 | 26=>101 | 27=>102 | 46=>107 | 47=>108 | 48=>109 | 49=>110 | 50=>111 | 57=>112 | n=>n,fun | 22=>36 | 24=>35 | 25=>131 | 3=>3 | 39=>146 | 0=>0 | 53=>156 | 55=>158 | 4=>4 | 46=>150 | 45=>149 | 50=>59 | 5=>5 | 9=>9 | 66=>160 | 70=>164 | 76=>166 | 77=>167 | n=>n,fun | n=>n⟩
theorem Tryz.laysSlF06_f80:Go.Proofs.SlLaysF0.n6 Tryz.prog Tryz.laysSlF06_f80_ren:={
 mixed:=by kernel_rfl
 f6:=⟨Tryz.f80.name,by decide,Tryz.func80.trans (congrArg some (by kernel_rfl))⟩
 f14:=⟨Tryz.f90.name,by decide,Tryz.func90.trans (congrArg some (by kernel_rfl))⟩
 f15:=Tryz.func91.trans (congrArg some (by kernel_rfl))
 f20:=⟨Tryz.f95.name,by decide,Tryz.func95.trans (congrArg some (by kernel_rfl))⟩
 f21:=⟨Tryz.f96.name,by decide,Tryz.func96.trans (congrArg some (by kernel_rfl))⟩
 f22:=⟨Tryz.f97.name,by decide,Tryz.func97.trans (congrArg some (by kernel_rfl))⟩
 f23:=⟨Tryz.f98.name,by decide,Tryz.func98.trans (congrArg some (by kernel_rfl))⟩
 f24:=⟨Tryz.f99.name,by decide,Tryz.func99.trans (congrArg some (by kernel_rfl))⟩
 f25:=⟨Tryz.f100.name,by decide,Tryz.func100.trans (congrArg some (by kernel_rfl))⟩
 f26:=⟨Tryz.f101.name,by decide,Tryz.func101.trans (congrArg some (by kernel_rfl))⟩
 f27:=⟨Tryz.f102.name,by decide,Tryz.func102.trans (congrArg some (by kernel_rfl))⟩
 f28:=Tryz.func103.trans (congrArg some (by kernel_rfl))
 f29:=Tryz.func104.trans (congrArg some (by kernel_rfl))
 f46:=⟨Tryz.f107.name,by decide,Tryz.func107.trans (congrArg some (by kernel_rfl))⟩
 f47:=Tryz.func108.trans (congrArg some (by kernel_rfl))
 f48:=Tryz.func109.trans (congrArg some (by kernel_rfl))
 f49:=⟨Tryz.f110.name,by decide,Tryz.func110.trans (congrArg some (by kernel_rfl))⟩
 f50:=⟨Tryz.f111.name,by decide,Tryz.func111.trans (congrArg some (by kernel_rfl))⟩
 f57:=⟨Tryz.f112.name,by decide,Tryz.func112.trans (congrArg some (by kernel_rfl))⟩
 t0:=Tryz.underlying0
 a0:=Tryz.isAgg0
 z0:=Tryz.sizeOf0
 v0:=Tryz.zeroValue0
 t3:=Tryz.underlying3
 a3:=Tryz.isAgg3
 z3:=Tryz.sizeOf3
 v3:=Tryz.zeroValue3
 t4:=Tryz.underlying4
 a4:=Tryz.isAgg4
 z4:=Tryz.sizeOf4
 v4:=Tryz.zeroValue4
 t5:=Tryz.underlying5
 a5:=Tryz.isAgg5
 z5:=Tryz.sizeOf5
 v5:=Tryz.zeroValue5
 t9:=Tryz.underlying9
 a9:=Tryz.isAgg9
 z9:=Tryz.sizeOf9
 v9:=Tryz.zeroValue9
 t22:=Tryz.underlying36
 a22:=Tryz.isAgg36
 z22:=Tryz.sizeOf36
 v22:=Tryz.zeroValue36
 t25:=Tryz.underlying131
 a25:=Tryz.isAgg131
 z25:=Tryz.sizeOf131
 v25:=Tryz.zeroValue131
 t39:=Tryz.underlying146
 a39:=Tryz.isAgg146
 z39:=Tryz.sizeOf146
 v39:=Tryz.zeroValue146
 t45:=Tryz.underlying149
 a45:=Tryz.isAgg149
 z45:=Tryz.sizeOf149
 v45:=Tryz.zeroValue149
 t46:=Tryz.underlying150
 a46:=Tryz.isAgg150
 z46:=Tryz.sizeOf150
 v46:=Tryz.zeroValue150
 t50:=Tryz.underlying59
 a50:=Tryz.isAgg59
 z50:=Tryz.sizeOf59
 v50:=Tryz.zeroValue59
 t53:=Tryz.underlying156
 a53:=Tryz.isAgg156
 z53:=Tryz.sizeOf156
 v53:=Tryz.zeroValue156
 t55:=Tryz.underlying158
 a55:=Tryz.isAgg158
 z55:=Tryz.sizeOf158
 v55:=Tryz.zeroValue158
 t66:=Tryz.underlying160
 a66:=Tryz.isAgg160
 z66:=Tryz.sizeOf160
 v66:=Tryz.zeroValue160
 t70:=Tryz.underlying164
 a70:=Tryz.isAgg164
 z70:=Tryz.sizeOf164
 v70:=Tryz.zeroValue164
 t76:=Tryz.underlying166
 a76:=Tryz.isAgg166
 z76:=Tryz.sizeOf166
 v76:=Tryz.zeroValue166
 t77:=Tryz.underlying167
 a77:=Tryz.isAgg167
 z77:=Tryz.sizeOf167
 v77:=Tryz.zeroValue167 }
open Go.RowKit Go.Lib Go.Sort in
theorem Tryz.sortQ_none {α:Type} [Inhabited α] (p:Option Addr) (cap:Nat) (fv:Value) (w:World) :
  Calls Tryz.prog 80 #[.slice p 0 cap,fv] w fun e w'=>e=.returned (.tuple #[])∧w'=w:=AnyF.slices_SortFunc_none Tryz.laysSlF06_f80 p cap fv w
open Go.RowKit Go.Lib Go.Sort in
theorem Tryz.sortQ_total {α:Type} [Inhabited α] (k:Nat) (aE:∀ w,(isAgg (Tryz.laysSlF06_f80_ren.t 24)).run Tryz.prog w=.ok true w) (zE:∀ w,(Go.sizeOf (Tryz.laysSlF06_f80_ren.t 24)).run Tryz.prog w=.ok k w) (enc:α→List Value) (hk:∀ x,(enc x).length=k) (h1:∀ x,∀ v∈enc x,v.oneCell'=true) (cf:α→α→Int) (hO:SWO (ltOf cf)) (g:Nat) (cb:Array Value) (blk off cap:Nat) (d:Array α) (w:World) (eg:∀ args w,(callFunc g args).run Tryz.prog w=.ok (.enter g args) w) (hcmp:CmpLays Tryz.prog g cb enc k cf blk off d.size w) (hH:HoldsK enc k w blk off d) (hblk:blk<w.heap.size) (hsz:d.size<4611686018427387904) (hT:∀ x y,(ltOf cf) x y=false→(ltOf cf) y x=false→x=y) :
  Calls Tryz.prog 80 #[.slice (some ⟨blk,off,none⟩) d.size cap,.func (.func g) #[] cb] w fun e w' =>
   e=.returned (.tuple #[])∧∃ n os,w'=sortWorldK enc k w blk off n (d.toList.mergeSort fun x y=>!(ltOf cf) y x).toArray os:=AnyQ.slices_SortFunc_total Tryz.laysSlF06_f80 k aE zE enc hk h1 cf hO g cb blk off cap d w eg hcmp hH hblk hsz hT
end Go.Proofs
namespace Go.Proofs.YtcnfhnndppollaaGreatDoor
open Go Go.RowKit Go.Sort Go.Lib
theorem cb_swo {α:Type} (f:α→List UInt8):SWO (ltOf fun x y=>compareBytes (f x) (f y)) where
 irrefl:=fun x=>by simp only[ltOf,decide_eq_false_iff_not,Cal.cb_lt];exact List.lt_irrefl _
 trans:=fun x y z h1 h2=>by simp only[ltOf,decide_eq_true_eq,Cal.cb_lt] at *;exact List.lt_trans h1 h2
 ntrans:=fun x y z h1 h2=>by
  simp only[ltOf,decide_eq_false_iff_not,Cal.cb_lt] at *
  exact List.not_lt.2 (List.le_trans (List.not_lt.1 h2) (List.not_lt.1 h1))
def paCf (a b:Pa):Int:=compareBytes a.name.data.toList b.name.data.toList
theorem cmpPart_any (a b:Pa) (w:World):Calls Tryz.prog 81 #[.agg #[.string a.name,.int .i64 a.n,.int .i64 a.d],.agg #[.string b.name,.int .i64 b.n,.int .i64 b.d]] w fun e w'=>e=.returned (.int .i64 (paCf a b))∧w'=(w.alloc (.cells #[.string a.name,.int .i64 a.n,.int .i64 a.d] 35)).alloc (.cells #[.string b.name,.int .i64 b.n,.int .i64 b.d] 35):=by
 have h:=fun w=>Tryz.strings_Compare a.name b.name w
 go_enter Tryz.func81,Tryz.ntmps81
 go_wp2_with (go_at_call 82;refine (h _).mono ?_;rintro e w' ⟨rfl,rfl⟩)
 go_ret
 exact⟨rfl,rfl⟩
theorem flatK_list {α:Type} [Inhabited α] (enc:α→List Value) (k:Nat) (hk0:0<k) (hk:∀ x,(enc x).length=k) (d:Array α):(flatK enc k d).toList=(d.toList.map enc).flatten:=by
 have hwid:∀ r∈d.toList.map enc,r.length=k:=fun r hr=>by obtain⟨x,_,rfl⟩:=List.mem_map.1 hr;exact hk x
 have hlen:(d.toList.map enc).flatten.length=d.size*k:=by rw[flat_len hwid];simp
 apply List.ext_getElem
 ·rw[hlen,Array.length_toList,size_flatK]
 intro t h1 h2
 rw[hlen] at h2
 have hd:t / k<d.size:=by
  rw[Nat.div_lt_iff_lt_mul hk0];exact h2
 have hm:t % k<k:=Nat.mod_lt _ hk0
 have e1:(d.toList.map enc)[t / k]?=some (enc d[t / k]):=by simp[hd]
 have e2:(enc d[t / k])[t % k]?=some ((enc d[t / k])[t % k]'(by rw[hk];exact hm)):=List.getElem?_eq_getElem _
 have e3:=flat_get hwid e1 e2
 rw[Nat.div_add_mod' t k,List.getElem?_eq_getElem (by rw[hlen];exact h2)] at e3
 have e4:=get_flatK enc k d t (by exact h2)
 rw[getElem!_pos (flatK enc k d) t (by rw[size_flatK];exact h2),getElem!_pos d (t / k) hd,getElem!_pos (enc d[t / k]) (t % k) (by rw[hk];exact hm)] at e4
 rw[Array.getElem_toList,e4]
 exact (Option.some.inj e3).symm
theorem putId_take {cur:Array Value} {ys:List Value} (h:ys.length≤cur.size):(putCells (id:Value→Value) 0 ys.toArray cur).toList.take ys.length=ys∧(putCells (id:Value→Value) 0 ys.toArray cur).size=cur.size:=by
 refine⟨?_,by simp[putCells]⟩
 apply List.ext_getElem
 ·simp[putCells];omega
 intro i h1 h2
 simp[putCells,h2]
theorem OwnL.putRows {w:World} {B g c n:Nat} {E:TypeId} {m:Nat} {rows rows2:List (List Value)} (h:OwnL w B E m (.slice (some ⟨g,0,none⟩) n c) rows) (hl:rows2.length=rows.length) (hw:∀ r∈rows2,r.length=m) (h1:∀ r∈rows2,∀ u∈r,u.oneCell'=true) :
  OwnL (putRow (id:Value→Value) w g 0 rows2.flatten.toArray) B E m (.slice (some ⟨g,0,none⟩) n c) rows2∧w.grownBy (putRow (id:Value→Value) w g 0 rows2.flatten.toArray) (some g):=by
 have hlen2:rows2.flatten.length=rows2.length*m:=flat_len hw
 rcases h.own.2 with ⟨h0,_⟩ | ⟨g',cap,cur,hv,hb,hg,h2,h3,h4,h5⟩
 ·cases h0
 simp only[Value.slice.injEq,Option.some.injEq,Addr.mk.injEq,and_true] at hv
 obtain⟨rfl,rfl,rfl⟩:=hv
 have hsz:rows2.flatten.length≤cur.size:=by
  rw[hlen2,hl,h4];exact Nat.mul_le_mul_right _ h2
 obtain⟨t1,t2⟩:=putId_take hsz
 have hh:(putRow (id:Value→Value) w g 0 rows2.flatten.toArray).heap[g]?=some (.cells (putCells (id:Value→Value) 0 rows2.flatten.toArray cur) E (0,0)):=by simp[putRow,mapBlock,Array.getElem?_modify,hg,onCells]
 refine⟨⟨⟨by rw[hl,hlen2,hl],.inr ⟨g,c,_,by rw[hl],hb,hh,by rw[hl];exact h2,h3,by rw[t2,h4],by rw[←hlen2];exact t1⟩⟩,hw,h1⟩,rfl,rfl,rfl,by simp[putRow,mapBlock],fun k _ hk=>?_⟩
 have hne:k≠g:=fun e=>hk (by rw[e])
 simp[putRow,mapBlock,Array.getElem?_modify,Ne.symm hne]
def SrtP (w:World) (B:Nat) (v:Value) (L:List Pa) (e:Ending) (w':World):Prop:=e=.returned (.tuple #[])∧(∃ ts:List Pa,ts.Perm L∧ts.Pairwise (fun a b=>¬b.name.data.toList<a.name.data.toList)∧OwnL w' B 35 3 v (ts.map Pa.cells))∧w.grownBy w' v.ownBlock
theorem cmpPart_grow (a b:Pa) (w:World):Calls Tryz.prog 81 #[.agg #[.string a.name,.int .i64 a.n,.int .i64 a.d],.agg #[.string b.name,.int .i64 b.n,.int .i64 b.d]] w fun e w'=>e=.returned (.int .i64 (paCf a b))∧∃ q os,w'=grow (w.drewN q) os:=by
 refine (cmpPart_any a b w).mono ?_
 rintro e w' ⟨rfl,rfl⟩
 refine⟨rfl,0,#[.cells #[.string a.name,.int .i64 a.n,.int .i64 a.d] 35,.cells #[.string b.name,.int .i64 b.n,.int .i64 b.d] 35],?_⟩
 rw[alloc_eq_grow,alloc_eq_grow,grow_grow]
 rfl
theorem ba_ext {a b:ByteArray} (h:a.data.toList=b.data.toList):a=b:=ByteArray.ext (Array.toList_inj.1 h)
theorem SortParts_own (w:World) (B:Nat) (v:Value) (L:List Pa) (h:OwnL w B 35 3 v (L.map Pa.cells)) (hs:L.length≤1000000) (hd:∀ x∈L,∀ y∈L,x.name=y.name→x=y) :
  Calls Tryz.prog 80 #[v,.func (.func 81) #[] #[]] w (SrtP w B v L):=by
 obtain⟨A,c,rfl,hr⟩:=OwnL.form h
 by_cases hne:L=[]
 ·subst hne
  refine (Tryz.sortQ_none (α:=Nat) A c _ w).mono fun e w' ⟨he,hw⟩=>?_
  subst hw
  exact⟨he,⟨[],List.Perm.refl _,List.Pairwise.nil,h⟩,World.grownBy.refl _ _⟩
 rcases h.own.2 with ⟨_,h0⟩ | ⟨g,cap,cur,hv,hb,hg,h1,h2,h3,h4⟩
 ·rw[List.length_map] at h0
  exact absurd (List.eq_nil_of_length_eq_zero h0) hne
 simp only[Value.slice.injEq,true_and] at hv
 obtain⟨rfl,rfl⟩:=hv
 haveI:Inhabited {t:Pa // t∈L}:=⟨⟨L.head hne,List.head_mem hne⟩⟩
 have hgw:g<w.heap.size:=(Array.getElem?_eq_some_iff.1 hg).1
 let enc:{t:Pa // t∈L}→List Value:=fun x=>x.1.cells
 let cf:{t:Pa // t∈L}→{t:Pa // t∈L}→Int:=fun x y=>compareBytes x.1.name.data.toList y.1.name.data.toList
 have hat:L.attach.map enc=L.map Pa.cells:=List.attach_map_val ..
 have hfl:=flatK_list enc 3 (by decide) (fun _=>rfl) L.attach.toArray
 have hfl:(flatK enc 3 L.attach.toArray).toList=(L.map Pa.cells).flatten:=by rw[hfl];show (L.attach.map enc).flatten=_;rw[hat]
 have hsz:L.attach.toArray.size=L.length:=by simp
 have hH:HoldsK enc 3 w g 0 L.attach.toArray:=fun j hj=>by
  rw[size_flatK] at hj
  have hj':j<L.length*3:=by rw[←hsz];exact hj
  have e1:(flatK enc 3 L.attach.toArray)[j]?=cur[j]?:=by
   have:=congrArg (·[j]?) h4
   simp only[List.getElem?_take] at this
   rw[if_pos (by rw[List.length_map];exact hj'),Array.getElem?_toList] at this
   rw[←Array.getElem?_toList,hfl,this]
  constructor
  ·rw[cell_of_row w g (0+j) cur _ (0,0) hg,Nat.zero_add,←e1,getElem!_pos (flatK enc 3 L.attach.toArray) j (by rw[size_flatK];exact hj)]
   simp
  exact h.own.frozenAt (0+j)
 have hcmp:CmpLays Tryz.prog 81 #[] enc 3 cf g 0 L.attach.toArray.size w:=fun m os dk _ x y=>cmpPart_grow x.1 y.1 _
 have hO:SWO (ltOf cf):=cb_swo (fun x:{t:Pa // t∈L}=>x.1.name.data.toList)
 have hT:∀ x y,(ltOf cf) x y=false→(ltOf cf) y x=false→x=y:=fun x y h1 h2=>by
  simp only[ltOf,decide_eq_false_iff_not] at h1 h2
  exact Subtype.ext (hd _ x.2 _ y.2 (ba_ext (Cal.cb_total h1 h2)))
 have hcon:=Tryz.sortQ_total 3 (fun w=>by kernel_rfl) (fun w=>by kernel_rfl) enc (fun _=>rfl) (fun x v hv=>pa_one [x.1] x.1.cells (by simp) v hv) cf hO 81 #[] g 0 c L.attach.toArray w (enters_of Tryz.func81 (by kernel_rfl) rfl) hcmp hH hgw (by rw[hsz];omega) hT
 rw[show L.attach.toArray.size=(L.map Pa.cells).length by simp] at hcon
 refine hcon.mono fun e w' ⟨he,m,os,hw⟩=>?_
 subst hw
 obtain⟨S,hS⟩:∃ S,S=L.attach.toArray.toList.mergeSort fun x y=>!(ltOf cf) y x:=⟨_,rfl⟩
 rw[←hS]
 have hperm:(S.map Subtype.val).Perm L:=by
  have h5:=(List.mergeSort_perm L.attach.toArray.toList (fun x y=>!(ltOf cf) y x)).map Subtype.val
  rw[←hS] at h5
  simpa using h5
 have hpw:(S.map Subtype.val).Pairwise (fun a b:Pa=>¬b.name.data.toList<a.name.data.toList):=by
  rw[List.pairwise_map]
  have h5:=List.pairwise_mergeSort (le:=fun x y=>!(ltOf cf) y x) (fun a b c h1 h2=>by
   simp only[Bool.not_eq_true'] at *
   exact hO.ntrans _ _ _ h2 h1) (fun a b=>by
   rw[Bool.or_eq_true,Bool.not_eq_true',Bool.not_eq_true']
   cases h6:ltOf cf b a
   ·exact .inl rfl
   refine .inr ?_
   cases h7:ltOf cf a b
   ·rfl
   have h8:=hO.trans _ _ _ h6 h7
   rw[hO.irrefl] at h8
   cases h8) L.attach.toArray.toList
  rw[←hS] at h5
  refine h5.imp fun {a b} h6=>?_
  simp only[ltOf,Bool.not_eq_true',decide_eq_false_iff_not] at h6
  rw[←Cal.cb_lt]
  exact h6
 have hA:OwnL (Sort.ahead w m) B 35 3 (.slice (some ⟨g,0,none⟩) (L.map Pa.cells).length c) (L.map Pa.cells):=OwnL.below h ⟨rfl,rfl,rfl,Nat.le_refl _,fun _ _=>rfl⟩
 obtain⟨p1,p2⟩:=hA.putRows (rows2:=(S.map Subtype.val).map Pa.cells) (by rw[List.length_map,hperm.length_eq,List.length_map]) (pa_wid _) (pa_one _)
 have hW:sortWorldK enc 3 w g 0 m S.toArray os=grow (putRow (id:Value→Value) (Sort.ahead w m) g 0 ((S.map Subtype.val).map Pa.cells).flatten.toArray) os:=by
  show grow (putRow id (Sort.ahead w m) g 0 (flatK enc 3 _)) os=_
  have h5:=flatK_list enc 3 (by decide) (fun _=>rfl) S.toArray
  rw[show flatK enc 3 S.toArray=((S.map Subtype.val).map Pa.cells).flatten.toArray from by rw[←Array.toList_inj,h5,List.map_map];rfl]
 rw[hW]
 have p3:=OwnL.below p1 (grow_below _ os)
 exact⟨he,⟨_,hperm,hpw,p3⟩,⟨p2.os,p2.tape,p2.output,Nat.le_trans p2.size (grow_below _ os).size,fun k hk hne=>((grow_below _ os).block k (Nat.lt_of_lt_of_le hk p2.size)).trans (p2.block k hk hne)⟩⟩
theorem est_sorted {ts:List Pa} (hp:ts.Perm estPs) (hs:ts.Pairwise (fun a b=>¬b.name.data.toList<a.name.data.toList)):ts=estPs:=by
 refine List.Perm.eq_of_pairwise (le:=fun a b=>¬b.name.data.toList<a.name.data.toList) (fun a b ha hb h1 h2=>?_) hs (by simp[estPs];decide) hp
 have ha':=hp.mem_iff.1 ha
 simp[estPs] at ha' hb
 rcases ha' with rfl | rfl | rfl <;> rcases hb with rfl | rfl | rfl <;> first | rfl | (exfalso;revert h1 h2;decide)
theorem sort_est (W:World) (B:Nat) (v:Value) (L:List Pa) (h:OwnL W B 35 3 v (L.map Pa.cells)) (hp:L.Perm estPs) :
  Calls Tryz.prog 80 #[v,.func (.func 81) #[] #[]] W fun e w'=>e=.returned (.tuple #[])∧OwnL w' B 35 3 v (estPs.map Pa.cells)∧W.grownBy w' v.ownBlock:=by
 refine (SortParts_own W B v L h (by rw[hp.length_eq];decide) (fun x hx y hy e=>?_)).mono ?_
 ·have h1:=hp.mem_iff.1 hx
  have h2:=hp.mem_iff.1 hy
  simp[estPs] at h1 h2
  rcases h1 with rfl | rfl | rfl <;> rcases h2 with rfl | rfl | rfl <;> first | rfl | (exfalso;revert e;decide)
 rintro e w' ⟨he,⟨ts,h1,h2,h3⟩,hg⟩
 rw[est_sorted (h1.trans hp) h2] at h3
 exact⟨he,h3,hg⟩
end Go.Proofs.YtcnfhnndppollaaGreatDoor
namespace Go.Proofs.YtcnfhnndppollaaGreatDoor
open Go Go.RowKit
def CloP (w:World) (rows:List (List Value)) (e:Ending) (w':World):Prop:=∃ v,e=.returned v∧OwnL w' w.heap.size 35 3 v rows∧Below w.heap.size w w'
theorem CloneParts_some (a:Addr) (n c:Nat) (l:List Pa) (w:World) (hl:RowsAt w (some a) 3 (l.map Pa.cells)) (hn:n=l.length) (hs:l.length≤1000000) :
  Calls Tryz.prog 41 #[.slice (some a) n c] w (CloP w (l.map Pa.cells)):=by
 have hnil:=fun w=>Lib.run_eql_slice_nil (P:=Tryz.prog) w 36 35 (some a) n c 0 0 Tryz.underlying36
 have hl':=Lib.hid (fun w1 (h:Below w.heap.size w w1)=>hl.below h)
 have hw:=Lib.hid (pa_wid l)
 have h1:=Lib.hid (pa_one l)
 have hn2:=Lib.hid (hn.trans (List.length_map ..).symm:n=(l.map Pa.cells).length)
 clear hl hn
 go_enter Tryz.func41,Tryz.ntmps41
 go_wp2_with (at_builtin;refine wpList_append_rows elemPa rfl _ _ rfl rfl rfl (OwnL.made w w.heap.size _ 3 (Nat.le_refl _)) (hl'.out _ (below_alloc _ _)) hn2.out hw.out h1.out (by simp;omega) (by decide) (by simp) ?_;intro v' w1 hown hg _)
 go_ret
 exact⟨_,rfl,by simpa using hown,(below_alloc _ _).trans (grown_below hg (fun g e=>by cases e;exact Nat.le_refl _) (by simp))⟩
theorem CloneParts_ne (A:Option Addr) (n c:Nat) (l:List Pa) (w:World) (hl:RowsAt w A 3 (l.map Pa.cells)) (hn:n=l.length) (h0:0<l.length) (hs:l.length≤1000000) :
  Calls Tryz.prog 41 #[.slice A n c] w (CloP w (l.map Pa.cells)):=by
 cases A with
 | none =>
  obtain⟨b,o,hA,_⟩:=hl 0 (l[0]).cells (by simp[h0])
  cases hA
 | some a=>exact CloneParts_some a n c l w hl hn hs
theorem CloneParts_nil (c:Nat) (w:World) :
  Calls Tryz.prog 41 #[.slice none 0 c] w fun e w'=>e=.returned (.slice none 0 0)∧w=w':=by
 have hnil:=fun w=>Lib.run_eql_slice_nil (P:=Tryz.prog) w 36 35 none 0 c 0 0 Tryz.underlying36
 go_enter Tryz.func41,Tryz.ntmps41
 go_wp2
 go_ret
 exact⟨rfl,rfl⟩
theorem CloneStrs_nil (c:Nat) (w:World) :
  Calls Tryz.prog 63 #[.slice none 0 c] w fun e w'=>e=.returned (.slice none 0 0)∧w=w':=by
 have hnil:=fun w=>Lib.run_eql_slice_nil (P:=Tryz.prog) w 64 9 none 0 c 0 0 Tryz.underlying64
 go_enter Tryz.func63,Tryz.ntmps63
 go_wp2
 go_ret
 exact⟨rfl,rfl⟩
end Go.Proofs.YtcnfhnndppollaaGreatDoor
