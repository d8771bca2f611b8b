/- What the statements rest on: definitions and walks, part 09. -/
import Derived.Test.YtcnfhnndppollaaGreatDoorJ08
set_option maxRecDepth 100000
set_option maxHeartbeats 16000000
set_option linter.unusedSimpArgs false
set_option linter.unusedVariables false
namespace Go.Proofs.YtcnfhnndppollaaGreatDoor
open Go Go.RowKit Go.Maps Go.WideMaps
def WGraP (q k:Nat) (fd fk fp:List UInt8→Option Value) (M:Value) (dy ct cl en:Int) (w:World) (e:Ending) (w':World):Prop :=
 e=.returned (.int .i64 0)∧∃ b c tc A TA,Wd w' q k fd fk fp M (.slice TA 1 tc) dy (ct+1)∧TbAt w' b 1 c cl dy en A TA (.slice none 0 0)∧OwnL w' (b+1) 35 3 (.slice A 1 c) ([ann1].map Pa.cells)∧q+7≤b∧Below (q+1) w w'∧w.grownBy w' (some (q+6))∧∀ a,TA=some a→a.block≠b∧q+7≤a.block
theorem TbAt.grownQ {W W':World} {b n c q:Nat} {cl fr en:Int} {A TA:Option Addr} {D:Value} (h:TbAt W b n c cl fr en A TA D) (hg:W.grownBy W' (some q)) (hb:q<b) (hT:∀ a,TA=some a→q<a.block):TbAt W' b n c cl fr en A TA D :=
 ⟨rows_far h.row hg (fun a e e2=>by have:=hT a e;have:=Option.some.inj e2;omega),h.box.grown hg (fun e=>by have:=Option.some.inj e;omega)⟩
theorem wtake_ever {q k:Nat} {fd fk fp:List UInt8→Option Value} {M L:Value} {la ct:Int} (dy cl:Int) (c:Nat) (A:Option Addr) (w:World) (h:Wd w q k fd fk fp M (.slice none 0 0) la ct)
  (hr:RowsAt w A 3 ([ann1].map Pa.cells)) (hd:fd ann1.name.data.toList=none) (hct:ct<60) (hct0:0≤ct) (hdy:la≤dy) :
  Calls Tryz.prog 15 #[.pointer (some ⟨q+6,0,none⟩),L,.agg #[.int .i64 0,.int .i64 dy,.string ⟨#[97,49]⟩,.string ⟨#[]⟩,.slice A 1 c,.int .i64 cl,.int .i64 0]] w (WGraP q k fd fk fp M dy ct cl (-1) w):=by
 have hcall:=Lib.hid (fun W (hb9:Below w.heap.size w W)=>grant_ever dy cl c A W (h.below hb9) (hr.below hb9) hd)
 have ha:=below_alloc w (.cells #[.int .i64 0,.int .i64 dy,.string ⟨#[97,49]⟩,.string ⟨#[]⟩,.slice A 1 c,.int .i64 cl,.int .i64 0] 38)
 have hb:=Lib.hid (BoxAt.new w #[.int .i64 0,.int .i64 dy,.string ⟨#[97,49]⟩,.string ⟨#[]⟩,.slice A 1 c,.int .i64 cl,.int .i64 0] 38)
 have h2:=h.below ha
 have c8:=h2.box.c 8 _ rfl
 have hl1:¬dy<la:=by omega
 have hl2:¬(60:Int)≤ct:=by omega
 have hwl:=h.lt
 replace h:=Lib.hid h
 replace h2:=Lib.hid h2
 replace ha:=Lib.hid ha
 go_enter Tryz.func15,Tryz.ntmps15
 go_upto_region 3 with fail
 clear c8
 obtain⟨X,hX⟩:∃ X,(w.alloc (.cells #[.int .i64 0,.int .i64 dy,.string ⟨#[97,49]⟩,.string ⟨#[]⟩,.slice A 1 c,.int .i64 cl,.int .i64 0] 38)).drew=X:=⟨_,rfl⟩
 replace h2:=Lib.hid (h2.out.below (Below.refl _ _).drew)
 replace hb:=Lib.hid (hb.out.below (Below.refl _ _).drew)
 replace ha:=Lib.hid (below_step ha.out (Below.refl _ _).drew)
 refine wp_region_held_drew (S:=Sx w [(q+6,7,.int .i64 la),(w.heap.size,1,.int .i64 dy)]) (by kernel_rfl) (Sx.mk (by simp only[cs_iff_cons];exact⟨h2.out.box.c 7 _ rfl,hb.out.c 1 _ rfl,cs_nil _⟩) ha.out) (fun hHeld=>?_)
 rw[hX] at hHeld h2 hb ha ⊢
 clear hX
 refine tkHx 0 15 ?_
 refine tkHx 1 16 ?_
 refine tkHx 2 17 ?_
 refine tkHx 3 18 ?_
 refine tkHx 4 19 ?_
 refine tkHx 5 20 ?_
 refine tkHx 6 21 ?_
 refine tkHx 7 14 ?_
 refine wpAnyH_done (by kernel_rfl) ?_ _
 clear hHeld
 obtain⟨d0,d1,d2,d3⟩:=hb.out.c4;have d4:=hb.out.c 4 _ rfl;have d5:=hb.out.c 5 _ rfl;have d6:=hb.out.c 6 _ rfl
 go_upto_region 19 with (go_at_call 35;clear d0 d1 d2 d3 d4 d5 d6;refine (hcall.out _ ha.out).mono ?_;rintro e9 w5 ⟨rfl,tb,tc,ttc,tA,tTA,hw5,ht5,ho5,hq5,hb5,hg5,hT5⟩;have hb6:=Lib.hid (hb.out.grown hg5 (fun e=>by have:=Option.some.inj e;omega));have hG5:=Lib.hid ((below_grown ha.out (some (q+6))).trans hg5);replace hw5:=Lib.hid hw5;replace ht5:=Lib.hid ht5;replace ho5:=Lib.hid ho5;(replace hb5:=Lib.hid (((ha.out.mono (by omega)):Below (q+1) w X).trans hb5));replace hT5:=Lib.hid hT5;clear hg5 h2 hb hcall)
 have hsz5:=hG5.out.size
 have hct1:IntKind.i64.wrap (ct+1)=ct+1:=wrap_sm (by omega) (by omega)
 replace hb6:=Lib.hid (hb6.out.below (Below.refl _ _).drew)
 replace hw5:=Lib.hid (hw5.out.below (Below.refl _ _).drew)
 have hR:=Lib.hid (below_grown ((Below.refl w5.heap.size w5).drew) (some (q+6)))
 obtain⟨Z,hZ⟩:∃ Z,w5.drew=Z:=⟨_,rfl⟩
 refine wp_region_heldZ (S:=Sc [(w.heap.size,1,.int .i64 dy),(q+6,8,.int .i64 ct)]) 14 (by kernel_rfl) (Sc.mk (by simp only[cs_iff_cons];exact⟨hb6.out.c 1 _ rfl,hw5.out.box.c 8 _ rfl,cs_nil _⟩)) (fun hHeld=>?_)
 rw[hZ] at hHeld hw5 hb6 hR ⊢
 clear hZ
 refine tkZx 0 57 ?_
 refine tkZx 1 58 ?_
 refine tkZx 2 59 ?_
 refine tkZx 3 60 ?_
 refine tkZx 4 61 ?_
 refine tkZx 5 62 ?_
 refine tkZx 6 63 ?_
 refine tkZx 7 64 ?_
 refine tkZx 8 65 ?_
 refine tkZx 9 66 ?_
 refine tkZx 10 67 ?_
 have y0:=hw5.out.box.c 7 _ rfl;have y1:=hw5.out.box.free 7 (by simp)
 refine ratZ 11 (by decide +kernel) rfl (fun K hK=>?_)
 rw[if_pos (by kernel_rfl)]
 go_simp
 replace hw5:=Lib.hid (hw5.out.setL dy)
 replace hb6:=Lib.hid (hb6.out.offF (B':=q+6) 7 (.int .i64 dy) (by omega))
 replace hR:=Lib.hid (hR.out.trans (grown_set _ (q+6) 7 (.int .i64 dy)))
 refine hK.out _ _ (Sc.mk (by simp only[cs_iff_cons];exact⟨hb6.out.c 1 _ rfl,hw5.out.box.c 8 _ rfl,cs_nil _⟩)) (fun hH2=>?_)
 clear hK K hHeld y0 y1
 have hHeld:=hH2
 clear hH2
 (try simp only[apS,apN,siA,scZ,scS])
 refine tkZx 12 68 ?_
 refine tkZx 13 69 ?_
 have y0:=hw5.out.box.c 8 _ rfl;have y1:=hw5.out.box.free 8 (by simp)
 refine ratZc 14 (by decide +kernel) rfl (by decide +kernel) (fun K hK=>?_)
 rw[if_pos (by kernel_rfl)]
 go_simp
 refine hK.out _ _ ?_
 clear hK K
 (try simp only[apS,apN,siA,scZ,scS])
 refine wpAnyHY_done (by decide +kernel) ?_ _
 clear y0 y1 hHeld
 have hw9:=Lib.hid (hw5.out.setC (ct+1))
 replace hR:=Lib.hid (hR.out.trans (grown_set _ (q+6) 8 (.int .i64 (ct+1))))
 clear hw5 hb6
 go_wp2
 go_ret
 exact⟨rfl,_,_,_,_,_,hw9.out,ht5.out.grownQ hR.out (by omega) (fun a e=>by have:=hT5.out a e;omega),ho5.out.kept hR.out (.inr (fun e=>by have:=(ho5.out.lt _ e).1;omega)),hq5,hb5.out.grown hR.out (by omega) (fun g e=>by have:=Option.some.inj e;omega),hG5.out.trans hR.out,hT5.out⟩
theorem wtake_term {q k:Nat} {fd fk fp:List UInt8→Option Value} {M L:Value} {la ct:Int} (dy cl yr en:Int) (c:Nat) (A:Option Addr) (w:World) (h:Wd w q k fd fk fp M (.slice none 0 0) la ct)
  (hr:RowsAt w A 3 ([ann1].map Pa.cells)) (hd:fd ann1.name.data.toList=none) (hyr:0<yr) (hen:0≤en) (hlat:∀ W,Below w.heap.size w W→Calls Tryz.prog 54 #[.int .i64 dy,.int .i64 yr] W fun e w'=>e=.returned (.int .i64 en)∧Below W.heap.size W w') (hct:ct<60) (hct0:0≤ct) (hdy:la≤dy) :
  Calls Tryz.prog 15 #[.pointer (some ⟨q+6,0,none⟩),L,.agg #[.int .i64 0,.int .i64 dy,.string ⟨#[97,49]⟩,.string ⟨#[]⟩,.slice A 1 c,.int .i64 cl,.int .i64 yr]] w (WGraP q k fd fk fp M dy ct cl en w):=by
 have hlat:=Lib.hid hlat
 have hcall:=Lib.hid (fun W (hb9:Below w.heap.size w W)=>grant_term dy cl yr en c A W (h.below hb9) (hr.below hb9) hd hyr hen (fun W2 h9=>hlat.out W2 (below_step hb9 h9)))
 have ha:=below_alloc w (.cells #[.int .i64 0,.int .i64 dy,.string ⟨#[97,49]⟩,.string ⟨#[]⟩,.slice A 1 c,.int .i64 cl,.int .i64 yr] 38)
 have hb:=Lib.hid (BoxAt.new w #[.int .i64 0,.int .i64 dy,.string ⟨#[97,49]⟩,.string ⟨#[]⟩,.slice A 1 c,.int .i64 cl,.int .i64 yr] 38)
 have h2:=h.below ha
 have c8:=h2.box.c 8 _ rfl
 have hl1:¬dy<la:=by omega
 have hl2:¬(60:Int)≤ct:=by omega
 have hwl:=h.lt
 replace h:=Lib.hid h
 replace h2:=Lib.hid h2
 replace ha:=Lib.hid ha
 go_enter Tryz.func15,Tryz.ntmps15
 go_upto_region 3 with fail
 clear c8
 obtain⟨X,hX⟩:∃ X,(w.alloc (.cells #[.int .i64 0,.int .i64 dy,.string ⟨#[97,49]⟩,.string ⟨#[]⟩,.slice A 1 c,.int .i64 cl,.int .i64 yr] 38)).drew=X:=⟨_,rfl⟩
 replace h2:=Lib.hid (h2.out.below (Below.refl _ _).drew)
 replace hb:=Lib.hid (hb.out.below (Below.refl _ _).drew)
 replace ha:=Lib.hid (below_step ha.out (Below.refl _ _).drew)
 refine wp_region_held_drew (S:=Sx w [(q+6,7,.int .i64 la),(w.heap.size,1,.int .i64 dy)]) (by kernel_rfl) (Sx.mk (by simp only[cs_iff_cons];exact⟨h2.out.box.c 7 _ rfl,hb.out.c 1 _ rfl,cs_nil _⟩) ha.out) (fun hHeld=>?_)
 rw[hX] at hHeld h2 hb ha ⊢
 clear hX
 refine tkHx 0 15 ?_
 refine tkHx 1 16 ?_
 refine tkHx 2 17 ?_
 refine tkHx 3 18 ?_
 refine tkHx 4 19 ?_
 refine tkHx 5 20 ?_
 refine tkHx 6 21 ?_
 refine tkHx 7 14 ?_
 refine wpAnyH_done (by kernel_rfl) ?_ _
 clear hHeld
 obtain⟨d0,d1,d2,d3⟩:=hb.out.c4;have d4:=hb.out.c 4 _ rfl;have d5:=hb.out.c 5 _ rfl;have d6:=hb.out.c 6 _ rfl
 go_upto_region 19 with (go_at_call 35;clear d0 d1 d2 d3 d4 d5 d6;refine (hcall.out _ ha.out).mono ?_;rintro e9 w5 ⟨rfl,tb,tc,ttc,tA,tTA,hw5,ht5,ho5,hq5,hb5,hg5,hT5⟩;have hb6:=Lib.hid (hb.out.grown hg5 (fun e=>by have:=Option.some.inj e;omega));have hG5:=Lib.hid ((below_grown ha.out (some (q+6))).trans hg5);replace hw5:=Lib.hid hw5;replace ht5:=Lib.hid ht5;replace ho5:=Lib.hid ho5;(replace hb5:=Lib.hid (((ha.out.mono (by omega)):Below (q+1) w X).trans hb5));replace hT5:=Lib.hid hT5;clear hg5 h2 hb hcall)
 have hsz5:=hG5.out.size
 have hct1:IntKind.i64.wrap (ct+1)=ct+1:=wrap_sm (by omega) (by omega)
 replace hb6:=Lib.hid (hb6.out.below (Below.refl _ _).drew)
 replace hw5:=Lib.hid (hw5.out.below (Below.refl _ _).drew)
 have hR:=Lib.hid (below_grown ((Below.refl w5.heap.size w5).drew) (some (q+6)))
 obtain⟨Z,hZ⟩:∃ Z,w5.drew=Z:=⟨_,rfl⟩
 refine wp_region_heldZ (S:=Sc [(w.heap.size,1,.int .i64 dy),(q+6,8,.int .i64 ct)]) 14 (by kernel_rfl) (Sc.mk (by simp only[cs_iff_cons];exact⟨hb6.out.c 1 _ rfl,hw5.out.box.c 8 _ rfl,cs_nil _⟩)) (fun hHeld=>?_)
 rw[hZ] at hHeld hw5 hb6 hR ⊢
 clear hZ
 refine tkZx 0 57 ?_
 refine tkZx 1 58 ?_
 refine tkZx 2 59 ?_
 refine tkZx 3 60 ?_
 refine tkZx 4 61 ?_
 refine tkZx 5 62 ?_
 refine tkZx 6 63 ?_
 refine tkZx 7 64 ?_
 refine tkZx 8 65 ?_
 refine tkZx 9 66 ?_
 refine tkZx 10 67 ?_
 have y0:=hw5.out.box.c 7 _ rfl;have y1:=hw5.out.box.free 7 (by simp)
 refine ratZ 11 (by decide +kernel) rfl (fun K hK=>?_)
 rw[if_pos (by kernel_rfl)]
 go_simp
 replace hw5:=Lib.hid (hw5.out.setL dy)
 replace hb6:=Lib.hid (hb6.out.offF (B':=q+6) 7 (.int .i64 dy) (by omega))
 replace hR:=Lib.hid (hR.out.trans (grown_set _ (q+6) 7 (.int .i64 dy)))
 refine hK.out _ _ (Sc.mk (by simp only[cs_iff_cons];exact⟨hb6.out.c 1 _ rfl,hw5.out.box.c 8 _ rfl,cs_nil _⟩)) (fun hH2=>?_)
 clear hK K hHeld y0 y1
 have hHeld:=hH2
 clear hH2
 (try simp only[apS,apN,siA,scZ,scS])
 refine tkZx 12 68 ?_
 refine tkZx 13 69 ?_
 have y0:=hw5.out.box.c 8 _ rfl;have y1:=hw5.out.box.free 8 (by simp)
 refine ratZc 14 (by decide +kernel) rfl (by decide +kernel) (fun K hK=>?_)
 rw[if_pos (by kernel_rfl)]
 go_simp
 refine hK.out _ _ ?_
 clear hK K
 (try simp only[apS,apN,siA,scZ,scS])
 refine wpAnyHY_done (by decide +kernel) ?_ _
 clear y0 y1 hHeld
 have hw9:=Lib.hid (hw5.out.setC (ct+1))
 replace hR:=Lib.hid (hR.out.trans (grown_set _ (q+6) 8 (.int .i64 (ct+1))))
 clear hw5 hb6
 go_wp2
 go_ret
 exact⟨rfl,_,_,_,_,_,hw9.out,ht5.out.grownQ hR.out (by omega) (fun a e=>by have:=hT5.out a e;omega),ho5.out.kept hR.out (.inr (fun e=>by have:=(ho5.out.lt _ e).1;omega)),hq5,hb5.out.grown hR.out (by omega) (fun g e=>by have:=Option.some.inj e;omega),hG5.out.trans hR.out,hT5.out⟩
end Go.Proofs.YtcnfhnndppollaaGreatDoor
namespace Go.Proofs.YtcnfhnndppollaaGreatDoor
open Go Go.RowKit Go.Maps Go.WideMaps
theorem wtake_termX {q k:Nat} {fd fk fp:List UInt8→Option Value} {M L:Value} {la ct:Int} (dy cl yr en:Int) (c:Nat) (A:Option Addr) (w:World) (h:Wd w q k fd fk fp M (.slice none 0 0) la ct)
  (hr:RowsAt w A 3 ([ann1].map Pa.cells)) (hd:fd ann1.name.data.toList=none) (hyr:0<yr) (hen:en<0) (hlat:∀ W,Below w.heap.size w W→Calls Tryz.prog 54 #[.int .i64 dy,.int .i64 yr] W fun e w'=>e=.returned (.int .i64 en)∧Below W.heap.size W w') (hct:ct<60) (hct0:0≤ct) (hdy:la≤dy) :
  Calls Tryz.prog 15 #[.pointer (some ⟨q+6,0,none⟩),L,.agg #[.int .i64 0,.int .i64 dy,.string ⟨#[97,49]⟩,.string ⟨#[]⟩,.slice A 1 c,.int .i64 cl,.int .i64 yr]] w fun e w'=>e=.returned (.int .i64 2)∧Below w.heap.size w w':=by
 have hlat:=Lib.hid hlat
 have hcall:=Lib.hid (fun W (hb9:Below w.heap.size w W)=>grant_range dy cl yr en c A W (h.below hb9) (hr.below hb9) hd hyr hen (fun W2 h9=>hlat.out W2 (below_step hb9 h9)))
 have ha:=below_alloc w (.cells #[.int .i64 0,.int .i64 dy,.string ⟨#[97,49]⟩,.string ⟨#[]⟩,.slice A 1 c,.int .i64 cl,.int .i64 yr] 38)
 have hb:=Lib.hid (BoxAt.new w #[.int .i64 0,.int .i64 dy,.string ⟨#[97,49]⟩,.string ⟨#[]⟩,.slice A 1 c,.int .i64 cl,.int .i64 yr] 38)
 have h2:=h.below ha
 have c8:=h2.box.c 8 _ rfl
 have hl1:¬dy<la:=by omega
 have hl2:¬(60:Int)≤ct:=by omega
 have hwl:=h.lt
 replace h:=Lib.hid h
 replace h2:=Lib.hid h2
 replace ha:=Lib.hid ha
 go_enter Tryz.func15,Tryz.ntmps15
 go_upto_region 3 with fail
 clear c8
 obtain⟨X,hX⟩:∃ X,(w.alloc (.cells #[.int .i64 0,.int .i64 dy,.string ⟨#[97,49]⟩,.string ⟨#[]⟩,.slice A 1 c,.int .i64 cl,.int .i64 yr] 38)).drew=X:=⟨_,rfl⟩
 replace h2:=Lib.hid (h2.out.below (Below.refl _ _).drew)
 replace hb:=Lib.hid (hb.out.below (Below.refl _ _).drew)
 replace ha:=Lib.hid (below_step ha.out (Below.refl _ _).drew)
 refine wp_region_held_drew (S:=Sx w [(q+6,7,.int .i64 la),(w.heap.size,1,.int .i64 dy)]) (by kernel_rfl) (Sx.mk (by simp only[cs_iff_cons];exact⟨h2.out.box.c 7 _ rfl,hb.out.c 1 _ rfl,cs_nil _⟩) ha.out) (fun hHeld=>?_)
 rw[hX] at hHeld h2 hb ha ⊢
 clear hX
 refine tkHx 0 15 ?_
 refine tkHx 1 16 ?_
 refine tkHx 2 17 ?_
 refine tkHx 3 18 ?_
 refine tkHx 4 19 ?_
 refine tkHx 5 20 ?_
 refine tkHx 6 21 ?_
 refine tkHx 7 14 ?_
 refine wpAnyH_done (by kernel_rfl) ?_ _
 clear hHeld
 obtain⟨d0,d1,d2,d3⟩:=hb.out.c4;have d4:=hb.out.c 4 _ rfl;have d5:=hb.out.c 5 _ rfl;have d6:=hb.out.c 6 _ rfl
 go_wp2_with (go_at_call 35;clear d0 d1 d2 d3 d4 d5 d6;refine (hcall.out _ ha.out).mono ?_;rintro e9 w5 ⟨rfl,hb5⟩;replace hb5:=Lib.hid (below_step ha.out hb5))
 go_ret
 exact⟨rfl,hb5.out⟩
def WRenP (q k b c tc:Nat) (fd fk fp:List UInt8→Option Value) (M D:Value) (dy ct cl fr en:Int) (A TA:Option Addr) (w:World) (e:Ending) (w':World):Prop :=
 e=.returned (.int .i64 0)∧Wd w' q k fd fk fp M (.slice TA 1 tc) dy (ct+1)∧TbAt w' b 1 c cl fr en A TA D∧OwnL w' (b+1) 35 3 (.slice A 1 c) ([ann1].map Pa.cells)∧Below (q+1) w w'
theorem wtake_renewal {q k b c tc:Nat} {fd fk fp:List UInt8→Option Value} {M D L:Value} {la ct:Int} (A TA A2:Option Addr) (c2:Nat) (dy yr cl fr en e2:Int) (w:World) (h:Wd w q k fd fk fp M (.slice TA 1 tc) la ct) (ht:TbAt w b 1 c cl fr en A TA D) (ho:OwnL w (b+1) 35 3 (.slice A 1 c) ([ann1].map Pa.cells)) (hq:q+7≤b) (hTA:∀ a,TA=some a→a.block≠b∧q+7≤a.block)
  (hde:dy<en) (hen:0≤en) (he2:0≤e2) (hlat:∀ W,Below w.heap.size w W→Calls Tryz.prog 54 #[.int .i64 en,.int .i64 yr] W fun e w'=>e=.returned (.int .i64 e2)∧Below W.heap.size W w') (hct:ct<60) (hct0:0≤ct) (hdy:la≤dy) :
  Calls Tryz.prog 15 #[.pointer (some ⟨q+6,0,none⟩),L,.agg #[.int .i64 3,.int .i64 dy,.string ⟨#[97,49]⟩,.string ⟨#[]⟩,.slice A2 0 c2,.int .i64 0,.int .i64 yr]] w (WRenP q k b c tc fd fk fp M D dy ct cl fr e2 A TA w):=by
 have hlat:=Lib.hid hlat
 have hbl:=ht.box.lt
 have hcall:=Lib.hid (fun W (hb9:Below w.heap.size w W)=>renewal_ok A TA A2 c2 dy yr cl fr en e2 W (h.below hb9) (ht.below hb9) (ho.below hb9) hq (fun a e=>(hTA a e).1) hde hen he2 (fun W2 h9=>hlat.out W2 (below_step hb9 h9)))
 clear ht ho
 have ha:=below_alloc w (.cells #[.int .i64 3,.int .i64 dy,.string ⟨#[97,49]⟩,.string ⟨#[]⟩,.slice A2 0 c2,.int .i64 0,.int .i64 yr] 38)
 have hb:=Lib.hid (BoxAt.new w #[.int .i64 3,.int .i64 dy,.string ⟨#[97,49]⟩,.string ⟨#[]⟩,.slice A2 0 c2,.int .i64 0,.int .i64 yr] 38)
 have h2:=h.below ha
 have c8:=h2.box.c 8 _ rfl
 have hl1:¬dy<la:=by omega
 have hl2:¬(60:Int)≤ct:=by omega
 have hwl:=h.lt
 replace h:=Lib.hid h
 replace h2:=Lib.hid h2
 replace ha:=Lib.hid ha
 go_enter Tryz.func15,Tryz.ntmps15
 go_upto_region 3 with fail
 clear c8
 obtain⟨X,hX⟩:∃ X,(w.alloc (.cells #[.int .i64 3,.int .i64 dy,.string ⟨#[97,49]⟩,.string ⟨#[]⟩,.slice A2 0 c2,.int .i64 0,.int .i64 yr] 38)).drew=X:=⟨_,rfl⟩
 replace h2:=Lib.hid (h2.out.below (Below.refl _ _).drew)
 replace hb:=Lib.hid (hb.out.below (Below.refl _ _).drew)
 replace ha:=Lib.hid (below_step ha.out (Below.refl _ _).drew)
 refine wp_region_held_drew (S:=Sx w [(q+6,7,.int .i64 la),(w.heap.size,1,.int .i64 dy)]) (by kernel_rfl) (Sx.mk (by simp only[cs_iff_cons];exact⟨h2.out.box.c 7 _ rfl,hb.out.c 1 _ rfl,cs_nil _⟩) ha.out) (fun hHeld=>?_)
 rw[hX] at hHeld h2 hb ha ⊢
 clear hX
 refine tkHx 0 15 ?_
 refine tkHx 1 16 ?_
 refine tkHx 2 17 ?_
 refine tkHx 3 18 ?_
 refine tkHx 4 19 ?_
 refine tkHx 5 20 ?_
 refine tkHx 6 21 ?_
 refine tkHx 7 14 ?_
 refine wpAnyH_done (by kernel_rfl) ?_ _
 clear hHeld
 obtain⟨d0,d1,d2,d3⟩:=hb.out.c4;have d4:=hb.out.c 4 _ rfl;have d5:=hb.out.c 5 _ rfl;have d6:=hb.out.c 6 _ rfl
 go_upto_region 19 with (go_at_call 38;clear d0 d1 d2 d3 d4 d5 d6;refine (hcall.out _ ha.out).mono ?_;rintro e9 w5 ⟨rfl,hw5,ht5,ho5,hb5,hg5⟩;have hb6:=Lib.hid (hb.out.grown hg5 (fun e=>by have:=Option.some.inj e;omega));have hsz5:=hb5.size;replace hw5:=Lib.hid hw5;replace ht5:=Lib.hid ht5;replace ho5:=Lib.hid ho5;(replace hb5:=Lib.hid (((ha.out.mono (by omega)):Below (q+1) w X).trans hb5));clear hg5 h2 hb hcall)
 have hct1:IntKind.i64.wrap (ct+1)=ct+1:=wrap_sm (by omega) (by omega)
 have hsz6:=hb5.out.size
 replace hb6:=Lib.hid (hb6.out.below (Below.refl _ _).drew)
 replace hw5:=Lib.hid (hw5.out.below (Below.refl _ _).drew)
 have hR:=Lib.hid (below_grown ((Below.refl w5.heap.size w5).drew) (some (q+6)))
 obtain⟨Z,hZ⟩:∃ Z,w5.drew=Z:=⟨_,rfl⟩
 refine wp_region_heldZ (S:=Sc [(w.heap.size,1,.int .i64 dy),(q+6,8,.int .i64 ct)]) 14 (by kernel_rfl) (Sc.mk (by simp only[cs_iff_cons];exact⟨hb6.out.c 1 _ rfl,hw5.out.box.c 8 _ rfl,cs_nil _⟩)) (fun hHeld=>?_)
 rw[hZ] at hHeld hw5 hb6 hR ⊢
 clear hZ
 refine tkZx 0 57 ?_
 refine tkZx 1 58 ?_
 refine tkZx 2 59 ?_
 refine tkZx 3 60 ?_
 refine tkZx 4 61 ?_
 refine tkZx 5 62 ?_
 refine tkZx 6 63 ?_
 refine tkZx 7 64 ?_
 refine tkZx 8 65 ?_
 refine tkZx 9 66 ?_
 refine tkZx 10 67 ?_
 have y0:=hw5.out.box.c 7 _ rfl;have y1:=hw5.out.box.free 7 (by simp)
 refine ratZ 11 (by decide +kernel) rfl (fun K hK=>?_)
 rw[if_pos (by kernel_rfl)]
 go_simp
 replace hw5:=Lib.hid (hw5.out.setL dy)
 replace hb6:=Lib.hid (hb6.out.offF (B':=q+6) 7 (.int .i64 dy) (by omega))
 replace hR:=Lib.hid (hR.out.trans (grown_set _ (q+6) 7 (.int .i64 dy)))
 refine hK.out _ _ (Sc.mk (by simp only[cs_iff_cons];exact⟨hb6.out.c 1 _ rfl,hw5.out.box.c 8 _ rfl,cs_nil _⟩)) (fun hH2=>?_)
 clear hK K hHeld y0 y1
 have hHeld:=hH2
 clear hH2
 (try simp only[apS,apN,siA,scZ,scS])
 refine tkZx 12 68 ?_
 refine tkZx 13 69 ?_
 have y0:=hw5.out.box.c 8 _ rfl;have y1:=hw5.out.box.free 8 (by simp)
 refine ratZc 14 (by decide +kernel) rfl (by decide +kernel) (fun K hK=>?_)
 rw[if_pos (by kernel_rfl)]
 go_simp
 refine hK.out _ _ ?_
 clear hK K
 (try simp only[apS,apN,siA,scZ,scS])
 refine wpAnyHY_done (by decide +kernel) ?_ _
 clear y0 y1 hHeld
 have hw9:=Lib.hid (hw5.out.setC (ct+1))
 replace hR:=Lib.hid (hR.out.trans (grown_set _ (q+6) 8 (.int .i64 (ct+1))))
 clear hw5 hb6
 go_wp2
 go_ret
 exact⟨rfl,hw9.out,ht5.out.grownQ hR.out (by omega) (fun a e=>by have:=hTA a e;omega),ho5.out.kept hR.out (.inr (fun e=>by have:=(ho5.out.lt _ e).1;omega)),hb5.out.grown hR.out (by omega) (fun g e=>by have:=Option.some.inj e;omega)⟩
theorem wtake_renewalX {q k b c tc:Nat} {fd fk fp:List UInt8→Option Value} {M D L:Value} {la ct:Int} (A TA A2:Option Addr) (c2:Nat) (dy yr cl fr en e2:Int) (w:World) (h:Wd w q k fd fk fp M (.slice TA 1 tc) la ct) (ht:TbAt w b 1 c cl fr en A TA D) (ho:OwnL w (b+1) 35 3 (.slice A 1 c) ([ann1].map Pa.cells)) (hq:q+7≤b) (hTA:∀ a,TA=some a→a.block≠b∧q+7≤a.block)
  (hde:dy<en) (hen:0≤en) (he2:e2<0) (hlat:∀ W,Below w.heap.size w W→Calls Tryz.prog 54 #[.int .i64 en,.int .i64 yr] W fun e w'=>e=.returned (.int .i64 e2)∧Below W.heap.size W w') (hct:ct<60) (hct0:0≤ct) (hdy:la≤dy) :
  Calls Tryz.prog 15 #[.pointer (some ⟨q+6,0,none⟩),L,.agg #[.int .i64 3,.int .i64 dy,.string ⟨#[97,49]⟩,.string ⟨#[]⟩,.slice A2 0 c2,.int .i64 0,.int .i64 yr]] w fun e w'=>e=.returned (.int .i64 2)∧Below w.heap.size w w':=by
 have hlat:=Lib.hid hlat
 have hcall:=Lib.hid (fun W (hb9:Below w.heap.size w W)=>renewal_range A TA A2 c2 dy yr cl fr en e2 W (h.below hb9) (ht.below hb9) (ho.below hb9) hq (fun a e=>(hTA a e).1) hde hen he2 (fun W2 h9=>hlat.out W2 (below_step hb9 h9)))
 clear ht ho
 have ha:=below_alloc w (.cells #[.int .i64 3,.int .i64 dy,.string ⟨#[97,49]⟩,.string ⟨#[]⟩,.slice A2 0 c2,.int .i64 0,.int .i64 yr] 38)
 have hb:=Lib.hid (BoxAt.new w #[.int .i64 3,.int .i64 dy,.string ⟨#[97,49]⟩,.string ⟨#[]⟩,.slice A2 0 c2,.int .i64 0,.int .i64 yr] 38)
 have h2:=h.below ha
 have c8:=h2.box.c 8 _ rfl
 have hl1:¬dy<la:=by omega
 have hl2:¬(60:Int)≤ct:=by omega
 have hwl:=h.lt
 replace h:=Lib.hid h
 replace h2:=Lib.hid h2
 replace ha:=Lib.hid ha
 go_enter Tryz.func15,Tryz.ntmps15
 go_upto_region 3 with fail
 clear c8
 obtain⟨X,hX⟩:∃ X,(w.alloc (.cells #[.int .i64 3,.int .i64 dy,.string ⟨#[97,49]⟩,.string ⟨#[]⟩,.slice A2 0 c2,.int .i64 0,.int .i64 yr] 38)).drew=X:=⟨_,rfl⟩
 replace h2:=Lib.hid (h2.out.below (Below.refl _ _).drew)
 replace hb:=Lib.hid (hb.out.below (Below.refl _ _).drew)
 replace ha:=Lib.hid (below_step ha.out (Below.refl _ _).drew)
 refine wp_region_held_drew (S:=Sx w [(q+6,7,.int .i64 la),(w.heap.size,1,.int .i64 dy)]) (by kernel_rfl) (Sx.mk (by simp only[cs_iff_cons];exact⟨h2.out.box.c 7 _ rfl,hb.out.c 1 _ rfl,cs_nil _⟩) ha.out) (fun hHeld=>?_)
 rw[hX] at hHeld h2 hb ha ⊢
 clear hX
 refine tkHx 0 15 ?_
 refine tkHx 1 16 ?_
 refine tkHx 2 17 ?_
 refine tkHx 3 18 ?_
 refine tkHx 4 19 ?_
 refine tkHx 5 20 ?_
 refine tkHx 6 21 ?_
 refine tkHx 7 14 ?_
 refine wpAnyH_done (by kernel_rfl) ?_ _
 clear hHeld
 obtain⟨d0,d1,d2,d3⟩:=hb.out.c4;have d4:=hb.out.c 4 _ rfl;have d5:=hb.out.c 5 _ rfl;have d6:=hb.out.c 6 _ rfl
 go_wp2_with (go_at_call 38;clear d0 d1 d2 d3 d4 d5 d6;refine (hcall.out _ ha.out).mono ?_;rintro e9 w5 ⟨rfl,hb5⟩;replace hb5:=Lib.hid (below_step ha.out hb5))
 go_ret
 exact⟨rfl,hb5.out⟩
def WDthP (q k b tc mc:Nat) (fd fk fp:List UInt8→Option Value) (cl fr dy ct:Int) (TA MA:Option Addr) (w:World) (e:Ending) (w':World):Prop :=
 e=.returned (.int .i64 0)∧∃ c' A' D,Wd w' q (k+1) (setAt fd [97,110,110] (.bool true)) fk fp (.slice MA 1 mc) (.slice TA 1 tc) dy (ct+1)∧TbAt w' b 3 c' cl fr (-1) A' TA D∧RowsAt w' A' 3 (estPs.map Pa.cells)∧Below (q+1) w w'
theorem wtake_death {q k b c tc kc mc lc:Nat} {fd fk fp:List UInt8→Option Value} {cl fr la ct:Int} (A TA KA MA LA:Option Addr) (dy:Int) (h200:dy=200) (w:World) (hF:FamW q k b c tc kc mc fd fk fp cl fr la ct A TA KA MA LA w) (hk:fk [97,110,110]=some (.slice KA 2 kc))
  (hqb:q+7≤b) (hk9:k≤1000) (hTA:∀ a,TA=some a→a.block≠b∧q+7≤a.block) (hda:fd [97,110,110]=none) (hdb:fd [98,111,98]=none) (hdc:fd [99,97,116]=none) (hdd:fd [100,97,110]=none) (hct:ct<60) (hct0:0≤ct) (hdy:la≤dy) :
  Calls Tryz.prog 15 #[.pointer (some ⟨q+6,0,none⟩),.slice LA 2 lc,.agg #[.int .i64 8,.int .i64 dy,.string ⟨#[]⟩,.string ⟨#[97,110,110]⟩,.slice none 0 0,.int .i64 0,.int .i64 0]] w (WDthP q k b tc mc fd fk fp cl fr dy ct TA MA w):=by
 have hbl:=hF.tb.box.lt
 have hcall:=Lib.hid (fun W (hb9:Below w.heap.size w W)=>death_fam (lc:=lc) A TA KA MA LA W (hF.below hb9) hk hqb hk9 hTA hda hdb hdc hdd)
 rw[←h200] at hcall
 have h:=hF.wd
 clear hF h200
 have ha:=below_alloc w (.cells #[.int .i64 8,.int .i64 dy,.string ⟨#[]⟩,.string ⟨#[97,110,110]⟩,.slice none 0 0,.int .i64 0,.int .i64 0] 38)
 have hb:=Lib.hid (BoxAt.new w #[.int .i64 8,.int .i64 dy,.string ⟨#[]⟩,.string ⟨#[97,110,110]⟩,.slice none 0 0,.int .i64 0,.int .i64 0] 38)
 have h2:=h.below ha
 have c8:=h2.box.c 8 _ rfl
 have hl1:¬dy<la:=by omega
 have hl2:¬(60:Int)≤ct:=by omega
 have hwl:=h.lt
 replace h:=Lib.hid h
 replace h2:=Lib.hid h2
 replace ha:=Lib.hid ha
 go_enter Tryz.func15,Tryz.ntmps15
 go_upto_region 3 with fail
 clear c8
 obtain⟨X,hX⟩:∃ X,(w.alloc (.cells #[.int .i64 8,.int .i64 dy,.string ⟨#[]⟩,.string ⟨#[97,110,110]⟩,.slice none 0 0,.int .i64 0,.int .i64 0] 38)).drew=X:=⟨_,rfl⟩
 replace h2:=Lib.hid (h2.out.below (Below.refl _ _).drew)
 replace hb:=Lib.hid (hb.out.below (Below.refl _ _).drew)
 replace ha:=Lib.hid (below_step ha.out (Below.refl _ _).drew)
 refine wp_region_held_drew (S:=Sx w [(q+6,7,.int .i64 la),(w.heap.size,1,.int .i64 dy)]) (by kernel_rfl) (Sx.mk (by simp only[cs_iff_cons];exact⟨h2.out.box.c 7 _ rfl,hb.out.c 1 _ rfl,cs_nil _⟩) ha.out) (fun hHeld=>?_)
 rw[hX] at hHeld h2 hb ha ⊢
 clear hX
 refine tkHx 0 15 ?_
 refine tkHx 1 16 ?_
 refine tkHx 2 17 ?_
 refine tkHx 3 18 ?_
 refine tkHx 4 19 ?_
 refine tkHx 5 20 ?_
 refine tkHx 6 21 ?_
 refine tkHx 7 14 ?_
 refine wpAnyH_done (by kernel_rfl) ?_ _
 clear hHeld
 obtain⟨d0,d1,d2,d3⟩:=hb.out.c4;have d4:=hb.out.c 4 _ rfl;have d5:=hb.out.c 5 _ rfl;have d6:=hb.out.c 6 _ rfl
 have hbx:=hb.out.lt
 have hszX:=ha.out.size
 go_upto_region 19 with (go_at_call 39;clear d0 d1 d2 d3 d4 d5 d6;refine (hcall.out _ ha.out).mono ?_;rintro e9 w5 ⟨rfl,nc,nA,nD,hw5,ht5,hr5,hb5,hk5,hn5⟩;have hsz5:=hb5.size;have hb6:=Lib.hid (hb.out.ofBlk (hk5 _ hbx (by omega) (by omega)) hb5.size);replace hw5:=Lib.hid hw5;replace ht5:=Lib.hid ht5;replace hr5:=Lib.hid hr5;replace hn5:=Lib.hid hn5;(replace hb5:=Lib.hid (((ha.out.mono (by omega)):Below (q+1) w X).trans hb5));clear hk5 h2 hb hcall)
 have hct1:IntKind.i64.wrap (ct+1)=ct+1:=wrap_sm (by omega) (by omega)
 have hsz6:=hb5.out.size
 replace hb6:=Lib.hid (hb6.out.below (Below.refl _ _).drew)
 replace hw5:=Lib.hid (hw5.out.below (Below.refl _ _).drew)
 have hR:=Lib.hid (below_grown ((Below.refl w5.heap.size w5).drew) (some (q+6)))
 obtain⟨Z,hZ⟩:∃ Z,w5.drew=Z:=⟨_,rfl⟩
 refine wp_region_heldZ (S:=Sc [(w.heap.size,1,.int .i64 dy),(q+6,8,.int .i64 ct)]) 14 (by kernel_rfl) (Sc.mk (by simp only[cs_iff_cons];exact⟨hb6.out.c 1 _ rfl,hw5.out.box.c 8 _ rfl,cs_nil _⟩)) (fun hHeld=>?_)
 rw[hZ] at hHeld hw5 hb6 hR ⊢
 clear hZ
 refine tkZx 0 57 ?_
 refine tkZx 1 58 ?_
 refine tkZx 2 59 ?_
 refine tkZx 3 60 ?_
 refine tkZx 4 61 ?_
 refine tkZx 5 62 ?_
 refine tkZx 6 63 ?_
 refine tkZx 7 64 ?_
 refine tkZx 8 65 ?_
 refine tkZx 9 66 ?_
 refine tkZx 10 67 ?_
 have y0:=hw5.out.box.c 7 _ rfl;have y1:=hw5.out.box.free 7 (by simp)
 refine ratZ 11 (by decide +kernel) rfl (fun K hK=>?_)
 rw[if_pos (by kernel_rfl)]
 go_simp
 replace hw5:=Lib.hid (hw5.out.setL dy)
 replace hb6:=Lib.hid (hb6.out.offF (B':=q+6) 7 (.int .i64 dy) (by omega))
 replace hR:=Lib.hid (hR.out.trans (grown_set _ (q+6) 7 (.int .i64 dy)))
 refine hK.out _ _ (Sc.mk (by simp only[cs_iff_cons];exact⟨hb6.out.c 1 _ rfl,hw5.out.box.c 8 _ rfl,cs_nil _⟩)) (fun hH2=>?_)
 clear hK K hHeld y0 y1
 have hHeld:=hH2
 clear hH2
 (try simp only[apS,apN,siA,scZ,scS])
 refine tkZx 12 68 ?_
 refine tkZx 13 69 ?_
 have y0:=hw5.out.box.c 8 _ rfl;have y1:=hw5.out.box.free 8 (by simp)
 refine ratZc 14 (by decide +kernel) rfl (by decide +kernel) (fun K hK=>?_)
 rw[if_pos (by kernel_rfl)]
 go_simp
 refine hK.out _ _ ?_
 clear hK K
 (try simp only[apS,apN,siA,scZ,scS])
 refine wpAnyHY_done (by decide +kernel) ?_ _
 clear y0 y1 hHeld
 have hw9:=Lib.hid (hw5.out.setC (ct+1))
 replace hR:=Lib.hid (hR.out.trans (grown_set _ (q+6) 8 (.int .i64 (ct+1))))
 clear hw5 hb6
 go_wp2
 go_ret
 exact⟨rfl,_,_,_,hw9.out,ht5.out.grownQ hR.out (by omega) (fun a e=>by have:=hTA a e;omega),rows_far hr5.out hR.out (fun a e e2=>by have:=hn5.out a e;have:=Option.some.inj e2;omega),hb5.out.grown hR.out (by omega) (fun g e=>by have:=Option.some.inj e;omega)⟩
end Go.Proofs.YtcnfhnndppollaaGreatDoor
namespace Go.Proofs.YtcnfhnndppollaaGreatDoor
open Go Go.RowKit Go.Maps Go.WideMaps
theorem Wd.made {W:World} {q t:Nat} (hm:Mps W q) (hs:W.heap.size=q+1+1+1+1+1+1) :
  Wd (W.alloc (.cells #[.map (some (q+1)),.map (some (q+1+1)),.map (some (q+1+1+1)),.slice none 0 0,.map (some (q+1+1+1+1)),.map (some (q+1+1+1+1+1)),.slice none 0 0,.int .i64 0,.int .i64 0] t)) q 0 (fun _=>none) (fun _=>none) (fun _=>none) (.slice none 0 0) (.slice none 0 0) 0 0:=by
 have hB:=BoxAt.new W #[.map (some (q+1)),.map (some (q+1+1)),.map (some (q+1+1+1)),.slice none 0 0,.map (some (q+1+1+1+1)),.map (some (q+1+1+1+1+1)),.slice none 0 0,.int .i64 0,.int .i64 0] t
 rw[hs] at hB
 exact⟨hB,⟨0,Nat.le_refl _,MapIs.empty _ _ _ (heap_old _ _ _ _ hm.m1)⟩,⟨0,Nat.le_refl _,MapIs.empty _ _ _ (heap_old _ _ _ _ hm.m2)⟩,⟨0,Nat.le_refl _,MapIs.empty _ _ _ (heap_old _ _ _ _ hm.m3)⟩,heap_old _ _ _ _ hm.m4,heap_old _ _ _ _ hm.m5⟩
theorem replay_nil (LA RA:Option Addr) (lc rc:Nat) (day:Int) (w:World) :
  Calls Tryz.prog 13 #[.agg #[.slice LA 0 lc,.slice RA 0 rc],.int .i64 day] w fun e w'=>e=.returned (.tuple #[.pointer (some ⟨w.heap.size+1+6,0,none⟩),.int .i64 0,.int .i64 0])∧Wd w' (w.heap.size+1) 0 (fun _=>none) (fun _=>none) (fun _=>none) (.slice none 0 0) (.slice none 0 0) 0 0∧Below w.heap.size w w':=by
 have hnp:=newPeople_any (w.alloc (.cells #[.slice LA 0 lc,.slice RA 0 rc] 28))
 have hA:=below_alloc w (.cells #[.slice LA 0 lc,.slice RA 0 rc] 28)
 have hrb:=BoxAt.new w #[.slice LA 0 lc,.slice RA 0 rc] 28
 obtain⟨wA,hwA⟩:∃ wA,w.alloc (.cells #[.slice LA 0 lc,.slice RA 0 rc] 28)=wA:=⟨_,rfl⟩
 rw[hwA] at hnp hA hrb
 have hqA:=hrb.lt
 have hqE:wA.heap.size=w.heap.size+1:=by rw[←hwA];simp
 have hnp:=Lib.hid hnp
 have hA:=Lib.hid hA
 have hrz:=Lib.hid (fun W (hb9:Below wA.heap.size wA W)=>hrb.below hb9)
 clear hrb
 go_enter Tryz.func13,Tryz.ntmps13
 go_wp2_with (first
  |(go_at_call 27;refine hnp.out.mono ?_;clear hwA hnp;rintro e9 w1 ⟨rfl,hmps,hsz,hb1⟩;rw[hqE] at hmps hsz;have hba:=below_alloc w1 (.cells #[.map (some (w.heap.size+1+1)),.map (some (w.heap.size+1+1+1)),.map (some (w.heap.size+1+1+1+1)),.slice none 0 0,.map (some (w.heap.size+1+1+1+1+1)),.map (some (w.heap.size+1+1+1+1+1+1)),.slice none 0 0,.int .i64 0,.int .i64 0] 82);have hW:=Lib.hid (Wd.made (t:=82) hmps hsz);have hB:=Lib.hid (below_step hb1 hba);have r0:=(hrz.out _ hB.out).c 0 _ rfl;clear hmps hb1 hba)
  |(go_at_call 28;clear r0;refine (CheckLaws_nil lc LA _).mono ?_;rintro e9 wS ⟨rfl,hbn⟩;replace hW:=Lib.hid (hW.out.below hbn);replace hB:=Lib.hid (below_step hB.out hbn);clear hbn;have r1:=(hrz.out _ hB.out).c 1 _ rfl))
 refine wp_unroll 1 ?_
 unfold unroll
 have r1:=Lib.hid ((hrz.out _ hB.out).c 1 _ rfl)
 go_upto_region 15 with fail
 refine wp_region_held_drew (S:=Sx wS [(w.heap.size,1,.slice RA 0 rc)]) (by kernel_rfl) ((Sx.mk (by simp only[cs_iff_cons];exact⟨r1.out,cs_nil _⟩) (Below.refl _ _):Sx wS _ wS).drew) (fun hHeld=>?_)
 clear r1
 have hdz:=Lib.hid hHeld.bel
 replace hW:=Lib.hid (hW.out.below hHeld.bel)
 replace hB:=Lib.hid (below_step hB.out hHeld.bel)
 generalize wS.drew=wZ at *
 refine tkHx 0 53 ?_
 refine tkHx 1 54 ?_
 refine tkHx 2 55 ?_
 refine tkHx 3 56 ?_
 refine tkHx 4 4 ?_
 refine tkHx 5 5 ?_
 refine tkHx 6 6 ?_
 refine wpAnyH_done (by kernel_rfl) ?_ _
 clear hHeld
 go_wp2
 go_ret3
 exact⟨rfl,hW.out,below_step hA.out hB.out⟩
def TermW (q:Nat) (la ct dy en:Int) (W:World):Prop:=∃ b c tc A TA,Wd W q 0 (fun _=>none) (fun _=>none) (fun _=>none) (.slice none 0 0) (.slice TA 1 tc) la ct∧TbAt W b 1 c 2 dy en A TA (.slice none 0 0)∧OwnL W (b+1) 35 3 (.slice A 1 c) ([ann1].map Pa.cells)∧q+7≤b∧∀ a,TA=some a→a.block≠b∧q+7≤a.block
theorem replay_grant (LA RA PA:Option Addr) (lc rc pc:Nat) (day dy yr en:Int) (w:World) (hF:FTab w) (hT:Tab w) (hro:RowsAt w RA 7 [[.int .i64 0,.int .i64 dy,.string ⟨#[97,49]⟩,.string ⟨#[]⟩,.slice PA 1 pc,.int .i64 2,.int .i64 yr]]) (hpa:RowsAt w PA 3 ([ann1].map Pa.cells)) (h0:0≤dy∧dy≤200000) (h2:1≤yr∧yr≤99) (hday:¬day<dy) (hadd:Cal.addS dy (12*yr)=(en,0)) (hen:0≤en) :
  Calls Tryz.prog 13 #[.agg #[.slice LA 0 lc,.slice RA 1 rc],.int .i64 day] w fun e w'=>e=.returned (.tuple #[.pointer (some ⟨w.heap.size+1+6,0,none⟩),.int .i64 1,.int .i64 0])∧TermW (w.heap.size+1) dy 1 dy en w'∧Below w.heap.size w w':=by
 have hlz:=Lib.hid (fun W (hb9:Below w.heap.size w W)=>by
  have:=rlater_any dy yr W (hT.below hb9) (by omega) (by omega)
  rw[hadd] at this
  exact this)
 have hFz:=Lib.hid (fun W (hb9:Below w.heap.size w W)=>hF.below hb9)
 have hpz:=Lib.hid (fun W (hb9:Below w.heap.size w W)=>hpa.below hb9)
 have hro:=Lib.hid (fun W (hb9:Below w.heap.size w W)=>hro.below hb9)
 have hq0:(yr == 0)=false:=by simp;omega
 clear hF hT hpa hadd
 have hnp:=newPeople_any (w.alloc (.cells #[.slice LA 0 lc,.slice RA 1 rc] 28))
 have hA:=below_alloc w (.cells #[.slice LA 0 lc,.slice RA 1 rc] 28)
 have hrb:=BoxAt.new w #[.slice LA 0 lc,.slice RA 1 rc] 28
 obtain⟨wA,hwA⟩:∃ wA,w.alloc (.cells #[.slice LA 0 lc,.slice RA 1 rc] 28)=wA:=⟨_,rfl⟩
 rw[hwA] at hnp hA hrb
 have hqA:=hrb.lt
 have hqE:wA.heap.size=w.heap.size+1:=by rw[←hwA];simp
 have hnp:=Lib.hid hnp
 have hA:=Lib.hid hA
 have hrz:=Lib.hid (fun W (hb9:Below wA.heap.size wA W)=>hrb.below hb9)
 clear hrb
 go_enter Tryz.func13,Tryz.ntmps13
 go_wp2_with (first
  |(go_at_call 27;refine hnp.out.mono ?_;clear hwA hnp;rintro e9 w1 ⟨rfl,hmps,hsz,hb1⟩;rw[hqE] at hmps hsz;have hba:=below_alloc w1 (.cells #[.map (some (w.heap.size+1+1)),.map (some (w.heap.size+1+1+1)),.map (some (w.heap.size+1+1+1+1)),.slice none 0 0,.map (some (w.heap.size+1+1+1+1+1)),.map (some (w.heap.size+1+1+1+1+1+1)),.slice none 0 0,.int .i64 0,.int .i64 0] 82);have hW:=Lib.hid (Wd.made (t:=82) hmps hsz);have hB:=Lib.hid (below_step hb1 hba);have r0:=(hrz.out _ hB.out).c 0 _ rfl;clear hmps hb1 hba)
  |(go_at_call 28;clear r0;refine (CheckLaws_nil lc LA _).mono ?_;rintro e9 wS ⟨rfl,hbn⟩;replace hW:=Lib.hid (hW.out.below hbn);replace hB:=Lib.hid (below_step hB.out hbn);clear hbn;have r1:=(hrz.out _ hB.out).c 1 _ rfl))
 have hro:=Lib.hid (fun W (hb9:Below wA.heap.size wA W)=>hro.out W (below_step hA.out hb9))
 refine wp_unroll 2 ?_
 unfold unroll
 obtain⟨rb,ro,hRA,_,hrc⟩:=(hro.out _ hB.out) 0 _ rfl
 cases hRA
 have m0:=hrc 0 _ rfl
 have m1:=hrc 1 _ rfl
 have m2:=hrc 2 _ rfl
 have m3:=hrc 3 _ rfl
 have m4:=hrc 4 _ rfl
 have m5:=hrc 5 _ rfl
 have m6:=hrc 6 _ rfl
 change wS.cell? ⟨rb,ro,none⟩=_ at m0
 change wS.cell? ⟨rb,ro+1,none⟩=_ at m1
 change wS.cell? ⟨rb,ro+2,none⟩=_ at m2
 change wS.cell? ⟨rb,ro+3,none⟩=_ at m3
 change wS.cell? ⟨rb,ro+4,none⟩=_ at m4
 change wS.cell? ⟨rb,ro+5,none⟩=_ at m5
 change wS.cell? ⟨rb,ro+6,none⟩=_ at m6
 have hbP:=Lib.hid (BoxAt.new wS #[.int .i64 0,.int .i64 dy,.string ⟨#[97,49]⟩,.string ⟨#[]⟩,.slice PA 1 pc,.int .i64 2,.int .i64 yr] 38)
 have hba:=Lib.hid (below_alloc wS (.cells #[.int .i64 0,.int .i64 dy,.string ⟨#[97,49]⟩,.string ⟨#[]⟩,.slice PA 1 pc,.int .i64 2,.int .i64 yr] 38))
 clear hrc
 go_wp2_with (first
  |(go_at_call 14;clear m0 m1 m2 m3 m4 m5 m6;refine (CheckDeed_grantT PA pc dy yr _ (hFz.out _ (below_step hA.out (below_step hB.out hba.out))) (hpz.out _ (below_step hA.out (below_step hB.out hba.out))) h0 ⟨by omega,h2.2⟩ hq0).mono ?_;rintro e9 wC ⟨rfl,hbn⟩;have hbPC:=hbP.out.below hbn;have hst:=below_step hba.out hbn;replace hW:=Lib.hid (hW.out.below hst);have hB2:=Lib.hid hst;replace hB:=Lib.hid (below_step hB.out hst);obtain⟨p0,p1,p2,p3⟩:=hbPC.c4;have p4:=hbPC.c 4 _ rfl;have p5:=hbPC.c 5 _ rfl;have p6:=hbPC.c 6 _ rfl;have r0:=(hrz.out _ hB.out).c 0 _ rfl;clear hbP hba hbn hbPC hst)
  |(go_at_call 15;clear p0 p1 p2 p3 p4 p5 p6 r0;go_loud (refine (wtake_term dy 2 yr en pc PA _ hW.out (hpz.out _ (below_step hA.out hB.out)) rfl (by omega) hen (fun W h9=>hlz.out W (below_step (below_step hA.out hB.out) h9)) (by decide) (by decide) h0.1).mono ?_;rintro e9 wS ⟨rfl,b,c,tc,A9,TA,hW2,ht,ho,hqb,hbl,_,hTA⟩;replace hW:=Lib.hid hW2;replace hB:=Lib.hid (hB.out.trans (hbl.mono (by omega)));replace ht:=Lib.hid ht;replace ho:=Lib.hid ho;replace hTA:=Lib.hid hTA;clear hW2 hbl hB2)))
 unfold unroll
 have r1:=Lib.hid ((hrz.out _ hB.out).c 1 _ rfl)
 go_upto_region 15 with fail
 refine wp_region_held_drew (S:=Sx wS [(w.heap.size,1,.slice (some ⟨rb,ro,none⟩) 1 rc)]) (by kernel_rfl) ((Sx.mk (by simp only[cs_iff_cons];exact⟨r1.out,cs_nil _⟩) (Below.refl _ _):Sx wS _ wS).drew) (fun hHeld=>?_)
 clear r1
 have hdz:=Lib.hid hHeld.bel
 replace hW:=Lib.hid (hW.out.below hHeld.bel)
 replace hB:=Lib.hid (below_step hB.out hHeld.bel)
 generalize wS.drew=wZ at *
 refine tkHx 0 53 ?_
 refine tkHx 1 54 ?_
 refine tkHx 2 55 ?_
 refine tkHx 3 56 ?_
 refine tkHx 4 4 ?_
 refine tkHx 5 5 ?_
 refine tkHx 6 6 ?_
 refine wpAnyH_done (by kernel_rfl) ?_ _
 clear hHeld
 go_wp2
 go_ret3
 exact⟨rfl,⟨b,c,tc,A9,TA,hW.out,ht.out.below hdz.out,ho.out.below hdz.out,hqb,hTA.out⟩,below_step hA.out hB.out⟩
theorem replay_two (LA RA PA:Option Addr) (lc rc pc:Nat) (day dy yr en d2 y2 e2:Int) (w:World) (hF:FTab w) (hT:Tab w) (hro:RowsAt w RA 7 [[.int .i64 0,.int .i64 dy,.string ⟨#[97,49]⟩,.string ⟨#[]⟩,.slice PA 1 pc,.int .i64 2,.int .i64 yr],[.int .i64 3,.int .i64 d2,.string ⟨#[97,49]⟩,.string ⟨#[]⟩,.slice none 0 0,.int .i64 0,.int .i64 y2]]) (hpa:RowsAt w PA 3 ([ann1].map Pa.cells)) (h0:0≤dy∧dy≤200000) (h2:1≤yr∧yr≤99) (hday:¬day<dy) (hadd:Cal.addS dy (12*yr)=(en,0)) (hen:0≤en)
  (hday2:¬day<d2) (h3:1≤y2∧y2≤99) (hadd2:Cal.addS en (12*y2)=(e2,0)) (he2:0≤e2) (hd2:dy≤d2∧d2<en∧d2≤200000) :
  Calls Tryz.prog 13 #[.agg #[.slice LA 0 lc,.slice RA 2 rc],.int .i64 day] w fun e w'=>e=.returned (.tuple #[.pointer (some ⟨w.heap.size+1+6,0,none⟩),.int .i64 2,.int .i64 0])∧TermW (w.heap.size+1) d2 2 dy e2 w'∧Below w.heap.size w w':=by
 have hlz:=Lib.hid (fun W (hb9:Below w.heap.size w W)=>by
  have:=rlater_any dy yr W (hT.below hb9) (by omega) (by omega)
  rw[hadd] at this
  exact this)
 have hlz2:=Lib.hid (fun W (hb9:Below w.heap.size w W)=>by
  have:=rlater_any en y2 W (hT.below hb9) (by omega) (by omega)
  rw[hadd2] at this
  exact this)
 have hFz:=Lib.hid (fun W (hb9:Below w.heap.size w W)=>hF.below hb9)
 have hpz:=Lib.hid (fun W (hb9:Below w.heap.size w W)=>hpa.below hb9)
 have hro:=Lib.hid (fun W (hb9:Below w.heap.size w W)=>hro.below hb9)
 have hq0:(yr == 0)=false:=by simp;omega
 have hq2:(y2 == 0)=false:=by simp;omega
 clear hF hT hpa hadd hadd2
 have hnp:=newPeople_any (w.alloc (.cells #[.slice LA 0 lc,.slice RA 2 rc] 28))
 have hA:=below_alloc w (.cells #[.slice LA 0 lc,.slice RA 2 rc] 28)
 have hrb:=BoxAt.new w #[.slice LA 0 lc,.slice RA 2 rc] 28
 obtain⟨wA,hwA⟩:∃ wA,w.alloc (.cells #[.slice LA 0 lc,.slice RA 2 rc] 28)=wA:=⟨_,rfl⟩
 rw[hwA] at hnp hA hrb
 have hqA:=hrb.lt
 have hqE:wA.heap.size=w.heap.size+1:=by rw[←hwA];simp
 have hnp:=Lib.hid hnp
 have hA:=Lib.hid hA
 have hrz:=Lib.hid (fun W (hb9:Below wA.heap.size wA W)=>hrb.below hb9)
 clear hrb
 go_enter Tryz.func13,Tryz.ntmps13
 go_wp2_with (first
  |(go_at_call 27;refine hnp.out.mono ?_;clear hwA hnp;rintro e9 w1 ⟨rfl,hmps,hsz,hb1⟩;rw[hqE] at hmps hsz;have hba:=below_alloc w1 (.cells #[.map (some (w.heap.size+1+1)),.map (some (w.heap.size+1+1+1)),.map (some (w.heap.size+1+1+1+1)),.slice none 0 0,.map (some (w.heap.size+1+1+1+1+1)),.map (some (w.heap.size+1+1+1+1+1+1)),.slice none 0 0,.int .i64 0,.int .i64 0] 82);have hW:=Lib.hid (Wd.made (t:=82) hmps hsz);have hB:=Lib.hid (below_step hb1 hba);have r0:=(hrz.out _ hB.out).c 0 _ rfl;clear hmps hb1 hba)
  |(go_at_call 28;clear r0;refine (CheckLaws_nil lc LA _).mono ?_;rintro e9 wS ⟨rfl,hbn⟩;replace hW:=Lib.hid (hW.out.below hbn);replace hB:=Lib.hid (below_step hB.out hbn);clear hbn;have r1:=(hrz.out _ hB.out).c 1 _ rfl))
 have hro:=Lib.hid (fun W (hb9:Below wA.heap.size wA W)=>hro.out W (below_step hA.out hb9))
 refine wp_unroll 3 ?_
 unfold unroll
 obtain⟨rb,ro,hRA,_,hrc⟩:=(hro.out _ hB.out) 0 _ rfl
 cases hRA
 have m0:=hrc 0 _ rfl
 have m1:=hrc 1 _ rfl
 have m2:=hrc 2 _ rfl
 have m3:=hrc 3 _ rfl
 have m4:=hrc 4 _ rfl
 have m5:=hrc 5 _ rfl
 have m6:=hrc 6 _ rfl
 change wS.cell? ⟨rb,ro,none⟩=_ at m0
 change wS.cell? ⟨rb,ro+1,none⟩=_ at m1
 change wS.cell? ⟨rb,ro+2,none⟩=_ at m2
 change wS.cell? ⟨rb,ro+3,none⟩=_ at m3
 change wS.cell? ⟨rb,ro+4,none⟩=_ at m4
 change wS.cell? ⟨rb,ro+5,none⟩=_ at m5
 change wS.cell? ⟨rb,ro+6,none⟩=_ at m6
 have hbP:=Lib.hid (BoxAt.new wS #[.int .i64 0,.int .i64 dy,.string ⟨#[97,49]⟩,.string ⟨#[]⟩,.slice PA 1 pc,.int .i64 2,.int .i64 yr] 38)
 have hba:=Lib.hid (below_alloc wS (.cells #[.int .i64 0,.int .i64 dy,.string ⟨#[97,49]⟩,.string ⟨#[]⟩,.slice PA 1 pc,.int .i64 2,.int .i64 yr] 38))
 clear hrc
 go_wp2_with (first
  |(go_at_call 14;clear m0 m1 m2 m3 m4 m5 m6;refine (CheckDeed_grantT PA pc dy yr _ (hFz.out _ (below_step hA.out (below_step hB.out hba.out))) (hpz.out _ (below_step hA.out (below_step hB.out hba.out))) h0 ⟨by omega,h2.2⟩ hq0).mono ?_;rintro e9 wC ⟨rfl,hbn⟩;have hbPC:=hbP.out.below hbn;have hst:=below_step hba.out hbn;replace hW:=Lib.hid (hW.out.below hst);have hB2:=Lib.hid hst;replace hB:=Lib.hid (below_step hB.out hst);obtain⟨p0,p1,p2,p3⟩:=hbPC.c4;have p4:=hbPC.c 4 _ rfl;have p5:=hbPC.c 5 _ rfl;have p6:=hbPC.c 6 _ rfl;have r0:=(hrz.out _ hB.out).c 0 _ rfl;clear hbP hba hbn hbPC hst)
  |(go_at_call 15;clear p0 p1 p2 p3 p4 p5 p6 r0;go_loud (refine (wtake_term dy 2 yr en pc PA _ hW.out (hpz.out _ (below_step hA.out hB.out)) rfl (by omega) hen (fun W h9=>hlz.out W (below_step (below_step hA.out hB.out) h9)) (by decide) (by decide) h0.1).mono ?_;rintro e9 wS ⟨rfl,b,c,tc,A9,TA,hW2,ht,ho,hqb,hbl,_,hTA⟩;replace hW:=Lib.hid hW2;replace hB:=Lib.hid (hB.out.trans (hbl.mono (by omega)));replace ht:=Lib.hid ht;replace ho:=Lib.hid ho;replace hTA:=Lib.hid hTA;clear hW2 hbl hB2)))
 unfold unroll
 obtain⟨rb,ro,hRA,_,hrc⟩:=(hro.out _ hB.out) 1 _ rfl
 cases hRA
 have m0:=hrc 0 _ rfl
 have m1:=hrc 1 _ rfl
 have m2:=hrc 2 _ rfl
 have m3:=hrc 3 _ rfl
 have m4:=hrc 4 _ rfl
 have m5:=hrc 5 _ rfl
 have m6:=hrc 6 _ rfl
 change wS.cell? ⟨rb,ro+7,none⟩=_ at m0
 change wS.cell? ⟨rb,ro+7+1,none⟩=_ at m1
 change wS.cell? ⟨rb,ro+7+2,none⟩=_ at m2
 change wS.cell? ⟨rb,ro+7+3,none⟩=_ at m3
 change wS.cell? ⟨rb,ro+7+4,none⟩=_ at m4
 change wS.cell? ⟨rb,ro+7+5,none⟩=_ at m5
 change wS.cell? ⟨rb,ro+7+6,none⟩=_ at m6
 have hbP:=Lib.hid (BoxAt.new wS #[.int .i64 3,.int .i64 d2,.string ⟨#[97,49]⟩,.string ⟨#[]⟩,.slice none 0 0,.int .i64 0,.int .i64 y2] 38)
 have hba:=Lib.hid (below_alloc wS (.cells #[.int .i64 3,.int .i64 d2,.string ⟨#[97,49]⟩,.string ⟨#[]⟩,.slice none 0 0,.int .i64 0,.int .i64 y2] 38))
 clear hrc
 go_wp2_with (first
  |(go_at_call 14;clear m0 m1 m2 m3 m4 m5 m6;refine (CheckDeed_renewal d2 y2 _ (hFz.out _ (below_step hA.out (below_step hB.out hba.out))) ⟨by omega,by omega⟩ ⟨by omega,h3.2⟩ hq2).mono ?_;rintro e9 wC ⟨rfl,hbn⟩;have hbPC:=hbP.out.below hbn;have hst:=below_step hba.out hbn;replace hW:=Lib.hid (hW.out.below hst);have hB2:=Lib.hid hst;replace hB:=Lib.hid (below_step hB.out hst);obtain⟨p0,p1,p2,p3⟩:=hbPC.c4;have p4:=hbPC.c 4 _ rfl;have p5:=hbPC.c 5 _ rfl;have p6:=hbPC.c 6 _ rfl;have r0:=(hrz.out _ hB.out).c 0 _ rfl;clear hbP hba hbn hbPC hst)
  |(go_at_call 15;clear p0 p1 p2 p3 p4 p5 p6 r0;go_loud (refine (wtake_renewal A9 TA none 0 d2 y2 2 dy en e2 _ hW.out (ht.out.below hB2.out) (ho.out.below hB2.out) hqb hTA.out hd2.2.1 hen he2 (fun W h9=>hlz2.out W (below_step (below_step hA.out hB.out) h9)) (by decide) (by decide) hd2.1).mono ?_;rintro e9 wS ⟨rfl,hW2,ht2,ho2,hbl⟩;replace hW:=Lib.hid hW2;replace hB:=Lib.hid (hB.out.trans (hbl.mono (by omega)));replace ht:=Lib.hid ht2;replace ho:=Lib.hid ho2;clear hW2 hbl hB2)))
 unfold unroll
 have r1:=Lib.hid ((hrz.out _ hB.out).c 1 _ rfl)
 go_upto_region 15 with fail
 refine wp_region_held_drew (S:=Sx wS [(w.heap.size,1,.slice (some ⟨rb,ro,none⟩) 2 rc)]) (by kernel_rfl) ((Sx.mk (by simp only[cs_iff_cons];exact⟨r1.out,cs_nil _⟩) (Below.refl _ _):Sx wS _ wS).drew) (fun hHeld=>?_)
 clear r1
 have hdz:=Lib.hid hHeld.bel
 replace hW:=Lib.hid (hW.out.below hHeld.bel)
 replace hB:=Lib.hid (below_step hB.out hHeld.bel)
 generalize wS.drew=wZ at *
 refine tkHx 0 53 ?_
 refine tkHx 1 54 ?_
 refine tkHx 2 55 ?_
 refine tkHx 3 56 ?_
 refine tkHx 4 4 ?_
 refine tkHx 5 5 ?_
 refine tkHx 6 6 ?_
 refine wpAnyH_done (by kernel_rfl) ?_ _
 clear hHeld
 go_wp2
 go_ret3
 exact⟨rfl,⟨b,c,tc,A9,TA,hW.out,ht.out.below hdz.out,ho.out.below hdz.out,hqb,hTA.out⟩,below_step hA.out hB.out⟩
end Go.Proofs.YtcnfhnndppollaaGreatDoor
