/- What the statements rest on: definitions and walks, part 03. -/
import Derived.Test.YtcnfhnndppollaaGreatDoorJ02
set_option maxRecDepth 100000
set_option maxHeartbeats 16000000
set_option linter.unusedSimpArgs false
set_option linter.unusedVariables false
namespace Go.Proofs.YtcnfhnndppollaaGreatDoor
open Go Go.RowKit
def formTab:List Value:=[.string ⟨#[103,114,97,110,116]⟩,.bool true,.bool false,.bool true,.bool true,.bool true,.bool true,.bool true,.string ⟨#[116,114,97,110,115,102,101,114]⟩,.bool true,.bool true,.bool false,.bool false,.bool false,.bool true,.bool true,.string ⟨#[115,117,114,114,101,110,100,101,114]⟩,.bool true,.bool true,.bool false,.bool false,.bool false,.bool false,.bool false,.string ⟨#[114,101,110,101,119,97,108]⟩,.bool true,.bool false,.bool false,.bool true,.bool false,.bool false,.bool false,.string ⟨#[119,105,108,108]⟩,.bool false,.bool true,.bool false,.bool false,.bool false,.bool true,.bool true,.string ⟨#[114,101,110,111,117,110,99,101]⟩,.bool false,.bool true,.bool false,.bool false,.bool false,.bool true,.bool false,.string ⟨#[99,104,105,108,100]⟩,.bool false,.bool true,.bool false,.bool false,.bool false,.bool true,.bool false,.string ⟨#[109,97,114,114,105,97,103,101]⟩,.bool false,.bool true,.bool false,.bool false,.bool false,.bool true,.bool false,.string ⟨#[100,101,97,116,104]⟩,.bool false,.bool true,.bool false,.bool false,.bool false,.bool false,.bool false]
structure FTab (w:World):Prop where
 lt:0<w.heap.size
 cell:∀ i:Nat,i<72→w.cell? ⟨0,i,none⟩=some (formTab.getD i undef)
theorem FTab.below {w w':World} (h:FTab w) (hb:Below w.heap.size w w'):FTab w' :=
 ⟨Nat.lt_of_lt_of_le h.lt hb.size,fun i hi=>(hb.cell (p:=⟨0,i,none⟩) h.lt).trans (h.cell i hi)⟩
def NmOk (n:ByteArray):Prop:=∀ w,Calls Tryz.prog 31 #[.string n] w fun e w'=>e=.returned (.bool true)∧w=w'
theorem pa_at {w:World} {A:Option Addr} {p:Pa} (h:RowsAt w A 3 ([p].map Pa.cells)):∃ b o,A=some ⟨b,o,none⟩∧b<w.heap.size∧w.cell? ⟨b,o,none⟩=some (.string p.name)∧w.cell? ⟨b,o+1,none⟩=some (.int .i64 p.n)∧w.cell? ⟨b,o+2,none⟩=some (.int .i64 p.d):=by
 obtain⟨b,o,hA,hbl,hc⟩:=h 0 _ rfl
 exact⟨b,o,hA,hbl,hc 0 _ rfl,hc 1 _ rfl,hc 2 _ rfl⟩
theorem chk1_any (p:Pa) (w:World) (hn:NmOk p.name):Calls Tryz.prog 33 #[.agg #[.string p.name,.int .i64 p.n,.int .i64 p.d]] w fun e w'=>e=.returned (.bool false)∧Below w.heap.size w w':=by
 have hb:=Lib.hid (below_alloc w (.cells #[.string p.name,.int .i64 p.n,.int .i64 p.d] 35))
 go_enter Tryz.func33,Tryz.ntmps33
 go_wp2_with (go_at_call 31;refine (hn _).mono ?_;rintro e9 wn ⟨rfl,rfl⟩)
 go_ret
 exact⟨rfl,hb.out⟩
theorem Contains_chk (A:Option Addr) (c:Nat) (p:Pa) (w:World) (h:RowsAt w A 3 ([p].map Pa.cells)) (hn:NmOk p.name):Calls Tryz.prog 32 #[.slice A 1 c,.func (.func 33) #[] #[]] w fun e w'=>e=.returned (.bool false)∧Below w.heap.size w w':=by
 obtain⟨b,o,hA,hbl,p0,p1,p2⟩:=pa_at h
 subst hA
 clear h
 go_enter Tryz.func32,Tryz.ntmps32
 go_wp2
 refine wp_unroll 2 ?_
 unfold unroll
 go_wp2_with (go_at_call 33;clear p0 p1 p2;refine (chk1_any p _ hn).mono ?_;rintro e9 wn ⟨rfl,hbn⟩;replace hbn:=Lib.hid hbn)
 unfold unroll
 go_wp2
 go_ret
 exact⟨rfl,hbn.out⟩
theorem Contains_none (A:Option Addr) (c:Nat) (f:Value) (w:World):Calls Tryz.prog 32 #[.slice A 0 c,f] w fun e w'=>e=.returned (.bool false)∧Below w.heap.size w w':=by
 go_enter Tryz.func32,Tryz.ntmps32
 go_wp2
 refine wp_unroll 1 ?_
 unfold unroll
 go_wp2
 go_ret
 exact⟨rfl,Below.refl _ _⟩
theorem sizePa (w:World):(sizeOf (Tryz.prog.elem 36)).run Tryz.prog w=.ok 3 w:=by kernel_rfl
theorem undPa:Tryz.prog.underlying 36=some (.slice (Tryz.prog.elem 36)):=by kernel_rfl
theorem pa_head (A:Option Addr) (n c:Nat):∃ A2,∀ w',(Instr.slice 36 (.slice A n c) none (some (.int .i64 0)) none).run Tryz.prog w'=.ok (.slice A2 0 c) w':=by
 refine⟨if c=0 then A else A.map (·.add (0*3)),fun w'=>?_⟩
 have h:=run_slice_h w' 36 A n c undPa .i64 (0:Nat) (by omega) (by omega)
 rw[sizePa] at h
 rw[show (0:Int)=((0:Nat):Int) from rfl,h]
 simp[Result.andThen,sliced]
theorem right_bob (A:Option Addr) (c:Nat) (wd:ByteArray) (k d cl yr:Int) (pl:ByteArray) (w:World) (h:RowsAt w A 3 ([⟨⟨#[98,111,98]⟩,0,0⟩].map Pa.cells)) :
  Calls Tryz.prog 34 #[.agg #[.string wd,.bool false,.bool true,.bool false,.bool false,.bool false,.bool true,.bool false],.agg #[.int .i64 k,.int .i64 d,.string pl,.string ⟨#[97,110,110]⟩,.slice A 1 c,.int .i64 cl,.int .i64 yr]] w fun e w'=>e=.returned (.bool true)∧Below w.heap.size w w':=by
 obtain⟨b,o,hA,hbl,p0,p1,p2⟩:=pa_at h
 have hz:=Lib.hid (fun W (hb:Below w.heap.size w W)=>pa_at (h.below hb))
 subst hA
 obtain⟨A2,hsl⟩:=pa_head (some ⟨b,o,none⟩) 1 c
 have b2:=BoxAt.new w #[.string wd,.bool false,.bool true,.bool false,.bool false,.bool false,.bool true,.bool false] 88
 have b3:=BoxAt.new (w.alloc (.cells #[.string wd,.bool false,.bool true,.bool false,.bool false,.bool false,.bool true,.bool false] 88)) #[.int .i64 k,.int .i64 d,.string pl,.string ⟨#[97,110,110]⟩,.slice (some ⟨b,o,none⟩) 1 c,.int .i64 cl,.int .i64 yr] 38
 rw[World.size_alloc] at b3
 have hb:=below_step (below_alloc w (.cells #[.string wd,.bool false,.bool true,.bool false,.bool false,.bool false,.bool true,.bool false] 88)) (below_alloc _ (.cells #[.int .i64 k,.int .i64 d,.string pl,.string ⟨#[97,110,110]⟩,.slice (some ⟨b,o,none⟩) 1 c,.int .i64 cl,.int .i64 yr] 38))
 have b2:=Lib.hid (b2.alloc (.cells #[.int .i64 k,.int .i64 d,.string pl,.string ⟨#[97,110,110]⟩,.slice (some ⟨b,o,none⟩) 1 c,.int .i64 cl,.int .i64 yr] 38))
 have b3:=Lib.hid b3
 have hb:=Lib.hid hb
 clear p0 p1 p2 h
 go_enter Tryz.func34,Tryz.ntmps34
 go_upto_region 5 with fail
 have b5:=Lib.hid (BoxAt.new ((w.alloc (.cells #[.string wd,.bool false,.bool true,.bool false,.bool false,.bool false,.bool true,.bool false] 88)).alloc (.cells #[.int .i64 k,.int .i64 d,.string pl,.string ⟨#[97,110,110]⟩,.slice (some ⟨b,o,none⟩) 1 c,.int .i64 cl,.int .i64 yr] 38)) #[.int .i64 0,.int .i64 1] 33)
 replace b2:=Lib.hid (b2.out.alloc (.cells #[.int .i64 0,.int .i64 1] 33))
 replace b3:=Lib.hid (b3.out.alloc (.cells #[.int .i64 0,.int .i64 1] 33))
 replace hb:=Lib.hid (below_step hb.out (below_alloc _ (.cells #[.int .i64 0,.int .i64 1] 33)))
 go_wp2
 generalize ((w.alloc (.cells #[.string wd,.bool false,.bool true,.bool false,.bool false,.bool false,.bool true,.bool false] 88)).alloc (.cells #[.int .i64 k,.int .i64 d,.string pl,.string ⟨#[97,110,110]⟩,.slice (some ⟨b,o,none⟩) 1 c,.int .i64 cl,.int .i64 yr] 38)).alloc (.cells #[.int .i64 0,.int .i64 1] 33)=X at *
 obtain⟨b1,o1,hA1,_,p0,p1,p2⟩:=hz.out _ hb.out
 cases hA1
 have b7:=Lib.hid (BoxAt.new X #[.string ⟨#[98,111,98]⟩,.int .i64 0,.int .i64 0] 35)
 replace b2:=Lib.hid (b2.out.alloc (.cells #[.string ⟨#[98,111,98]⟩,.int .i64 0,.int .i64 0] 35))
 replace b3:=Lib.hid (b3.out.alloc (.cells #[.string ⟨#[98,111,98]⟩,.int .i64 0,.int .i64 0] 35))
 replace hb:=Lib.hid (below_step hb.out (below_alloc X (.cells #[.string ⟨#[98,111,98]⟩,.int .i64 0,.int .i64 0] 35)))
 have d4:=b3.out.c 4 _ rfl
 refine wp_unroll 2 ?_
 unfold unroll
 go_wp2_with (go_at_call 32;clear d4 p0 p1 p2;refine (Contains_none _ _ _ _).mono ?_;rintro e9 wn ⟨rfl,hbn⟩;replace b2:=Lib.hid (b2.out.below hbn);replace b3:=Lib.hid (b3.out.below hbn);replace b7:=Lib.hid (b7.out.below hbn);replace hb:=Lib.hid (below_step hb.out hbn);clear hbn;have d3:=b3.out.c 3 _ rfl;have d4:=b3.out.c 4 _ rfl;have m2:=b2.out.c 2 _ rfl;have m6:=b2.out.c 6 _ rfl;have m7:=b2.out.c 7 _ rfl;obtain⟨q0,q1,q2⟩:=b7.out.c3)
 unfold unroll
 go_wp2
 go_ret
 exact⟨rfl,hb.out⟩
theorem right_cat (A:Option Addr) (c:Nat) (wd:ByteArray) (k d cl yr:Int) (pl:ByteArray) (w:World) (h:RowsAt w A 3 ([⟨⟨#[99,97,116]⟩,0,0⟩].map Pa.cells)) :
  Calls Tryz.prog 34 #[.agg #[.string wd,.bool false,.bool true,.bool false,.bool false,.bool false,.bool true,.bool false],.agg #[.int .i64 k,.int .i64 d,.string pl,.string ⟨#[97,110,110]⟩,.slice A 1 c,.int .i64 cl,.int .i64 yr]] w fun e w'=>e=.returned (.bool true)∧Below w.heap.size w w':=by
 obtain⟨b,o,hA,hbl,p0,p1,p2⟩:=pa_at h
 have hz:=Lib.hid (fun W (hb:Below w.heap.size w W)=>pa_at (h.below hb))
 subst hA
 obtain⟨A2,hsl⟩:=pa_head (some ⟨b,o,none⟩) 1 c
 have b2:=BoxAt.new w #[.string wd,.bool false,.bool true,.bool false,.bool false,.bool false,.bool true,.bool false] 88
 have b3:=BoxAt.new (w.alloc (.cells #[.string wd,.bool false,.bool true,.bool false,.bool false,.bool false,.bool true,.bool false] 88)) #[.int .i64 k,.int .i64 d,.string pl,.string ⟨#[97,110,110]⟩,.slice (some ⟨b,o,none⟩) 1 c,.int .i64 cl,.int .i64 yr] 38
 rw[World.size_alloc] at b3
 have hb:=below_step (below_alloc w (.cells #[.string wd,.bool false,.bool true,.bool false,.bool false,.bool false,.bool true,.bool false] 88)) (below_alloc _ (.cells #[.int .i64 k,.int .i64 d,.string pl,.string ⟨#[97,110,110]⟩,.slice (some ⟨b,o,none⟩) 1 c,.int .i64 cl,.int .i64 yr] 38))
 have b2:=Lib.hid (b2.alloc (.cells #[.int .i64 k,.int .i64 d,.string pl,.string ⟨#[97,110,110]⟩,.slice (some ⟨b,o,none⟩) 1 c,.int .i64 cl,.int .i64 yr] 38))
 have b3:=Lib.hid b3
 have hb:=Lib.hid hb
 clear p0 p1 p2 h
 go_enter Tryz.func34,Tryz.ntmps34
 go_upto_region 5 with fail
 have b5:=Lib.hid (BoxAt.new ((w.alloc (.cells #[.string wd,.bool false,.bool true,.bool false,.bool false,.bool false,.bool true,.bool false] 88)).alloc (.cells #[.int .i64 k,.int .i64 d,.string pl,.string ⟨#[97,110,110]⟩,.slice (some ⟨b,o,none⟩) 1 c,.int .i64 cl,.int .i64 yr] 38)) #[.int .i64 0,.int .i64 1] 33)
 replace b2:=Lib.hid (b2.out.alloc (.cells #[.int .i64 0,.int .i64 1] 33))
 replace b3:=Lib.hid (b3.out.alloc (.cells #[.int .i64 0,.int .i64 1] 33))
 replace hb:=Lib.hid (below_step hb.out (below_alloc _ (.cells #[.int .i64 0,.int .i64 1] 33)))
 go_wp2
 generalize ((w.alloc (.cells #[.string wd,.bool false,.bool true,.bool false,.bool false,.bool false,.bool true,.bool false] 88)).alloc (.cells #[.int .i64 k,.int .i64 d,.string pl,.string ⟨#[97,110,110]⟩,.slice (some ⟨b,o,none⟩) 1 c,.int .i64 cl,.int .i64 yr] 38)).alloc (.cells #[.int .i64 0,.int .i64 1] 33)=X at *
 obtain⟨b1,o1,hA1,_,p0,p1,p2⟩:=hz.out _ hb.out
 cases hA1
 have b7:=Lib.hid (BoxAt.new X #[.string ⟨#[99,97,116]⟩,.int .i64 0,.int .i64 0] 35)
 replace b2:=Lib.hid (b2.out.alloc (.cells #[.string ⟨#[99,97,116]⟩,.int .i64 0,.int .i64 0] 35))
 replace b3:=Lib.hid (b3.out.alloc (.cells #[.string ⟨#[99,97,116]⟩,.int .i64 0,.int .i64 0] 35))
 replace hb:=Lib.hid (below_step hb.out (below_alloc X (.cells #[.string ⟨#[99,97,116]⟩,.int .i64 0,.int .i64 0] 35)))
 have d4:=b3.out.c 4 _ rfl
 refine wp_unroll 2 ?_
 unfold unroll
 go_wp2_with (go_at_call 32;clear d4 p0 p1 p2;refine (Contains_none _ _ _ _).mono ?_;rintro e9 wn ⟨rfl,hbn⟩;replace b2:=Lib.hid (b2.out.below hbn);replace b3:=Lib.hid (b3.out.below hbn);replace b7:=Lib.hid (b7.out.below hbn);replace hb:=Lib.hid (below_step hb.out hbn);clear hbn;have d3:=b3.out.c 3 _ rfl;have d4:=b3.out.c 4 _ rfl;have m2:=b2.out.c 2 _ rfl;have m6:=b2.out.c 6 _ rfl;have m7:=b2.out.c 7 _ rfl;obtain⟨q0,q1,q2⟩:=b7.out.c3)
 unfold unroll
 go_wp2
 go_ret
 exact⟨rfl,hb.out⟩
theorem right_dan (A:Option Addr) (c:Nat) (wd:ByteArray) (k d cl yr:Int) (pl:ByteArray) (w:World) (h:RowsAt w A 3 ([⟨⟨#[100,97,110]⟩,0,0⟩].map Pa.cells)) :
  Calls Tryz.prog 34 #[.agg #[.string wd,.bool false,.bool true,.bool false,.bool false,.bool false,.bool true,.bool false],.agg #[.int .i64 k,.int .i64 d,.string pl,.string ⟨#[97,110,110]⟩,.slice A 1 c,.int .i64 cl,.int .i64 yr]] w fun e w'=>e=.returned (.bool true)∧Below w.heap.size w w':=by
 obtain⟨b,o,hA,hbl,p0,p1,p2⟩:=pa_at h
 have hz:=Lib.hid (fun W (hb:Below w.heap.size w W)=>pa_at (h.below hb))
 subst hA
 obtain⟨A2,hsl⟩:=pa_head (some ⟨b,o,none⟩) 1 c
 have b2:=BoxAt.new w #[.string wd,.bool false,.bool true,.bool false,.bool false,.bool false,.bool true,.bool false] 88
 have b3:=BoxAt.new (w.alloc (.cells #[.string wd,.bool false,.bool true,.bool false,.bool false,.bool false,.bool true,.bool false] 88)) #[.int .i64 k,.int .i64 d,.string pl,.string ⟨#[97,110,110]⟩,.slice (some ⟨b,o,none⟩) 1 c,.int .i64 cl,.int .i64 yr] 38
 rw[World.size_alloc] at b3
 have hb:=below_step (below_alloc w (.cells #[.string wd,.bool false,.bool true,.bool false,.bool false,.bool false,.bool true,.bool false] 88)) (below_alloc _ (.cells #[.int .i64 k,.int .i64 d,.string pl,.string ⟨#[97,110,110]⟩,.slice (some ⟨b,o,none⟩) 1 c,.int .i64 cl,.int .i64 yr] 38))
 have b2:=Lib.hid (b2.alloc (.cells #[.int .i64 k,.int .i64 d,.string pl,.string ⟨#[97,110,110]⟩,.slice (some ⟨b,o,none⟩) 1 c,.int .i64 cl,.int .i64 yr] 38))
 have b3:=Lib.hid b3
 have hb:=Lib.hid hb
 clear p0 p1 p2 h
 go_enter Tryz.func34,Tryz.ntmps34
 go_upto_region 5 with fail
 have b5:=Lib.hid (BoxAt.new ((w.alloc (.cells #[.string wd,.bool false,.bool true,.bool false,.bool false,.bool false,.bool true,.bool false] 88)).alloc (.cells #[.int .i64 k,.int .i64 d,.string pl,.string ⟨#[97,110,110]⟩,.slice (some ⟨b,o,none⟩) 1 c,.int .i64 cl,.int .i64 yr] 38)) #[.int .i64 0,.int .i64 1] 33)
 replace b2:=Lib.hid (b2.out.alloc (.cells #[.int .i64 0,.int .i64 1] 33))
 replace b3:=Lib.hid (b3.out.alloc (.cells #[.int .i64 0,.int .i64 1] 33))
 replace hb:=Lib.hid (below_step hb.out (below_alloc _ (.cells #[.int .i64 0,.int .i64 1] 33)))
 go_wp2
 generalize ((w.alloc (.cells #[.string wd,.bool false,.bool true,.bool false,.bool false,.bool false,.bool true,.bool false] 88)).alloc (.cells #[.int .i64 k,.int .i64 d,.string pl,.string ⟨#[97,110,110]⟩,.slice (some ⟨b,o,none⟩) 1 c,.int .i64 cl,.int .i64 yr] 38)).alloc (.cells #[.int .i64 0,.int .i64 1] 33)=X at *
 obtain⟨b1,o1,hA1,_,p0,p1,p2⟩:=hz.out _ hb.out
 cases hA1
 have b7:=Lib.hid (BoxAt.new X #[.string ⟨#[100,97,110]⟩,.int .i64 0,.int .i64 0] 35)
 replace b2:=Lib.hid (b2.out.alloc (.cells #[.string ⟨#[100,97,110]⟩,.int .i64 0,.int .i64 0] 35))
 replace b3:=Lib.hid (b3.out.alloc (.cells #[.string ⟨#[100,97,110]⟩,.int .i64 0,.int .i64 0] 35))
 replace hb:=Lib.hid (below_step hb.out (below_alloc X (.cells #[.string ⟨#[100,97,110]⟩,.int .i64 0,.int .i64 0] 35)))
 have d4:=b3.out.c 4 _ rfl
 refine wp_unroll 2 ?_
 unfold unroll
 go_wp2_with (go_at_call 32;clear d4 p0 p1 p2;refine (Contains_none _ _ _ _).mono ?_;rintro e9 wn ⟨rfl,hbn⟩;replace b2:=Lib.hid (b2.out.below hbn);replace b3:=Lib.hid (b3.out.below hbn);replace b7:=Lib.hid (b7.out.below hbn);replace hb:=Lib.hid (below_step hb.out hbn);clear hbn;have d3:=b3.out.c 3 _ rfl;have d4:=b3.out.c 4 _ rfl;have m2:=b2.out.c 2 _ rfl;have m6:=b2.out.c 6 _ rfl;have m7:=b2.out.c 7 _ rfl;obtain⟨q0,q1,q2⟩:=b7.out.c3)
 unfold unroll
 go_wp2
 go_ret
 exact⟨rfl,hb.out⟩
end Go.Proofs.YtcnfhnndppollaaGreatDoor
namespace Go.Proofs.YtcnfhnndppollaaGreatDoor
open Go Go.RowKit Go.ChangeShapes Go.WideShapes Go.Deep
theorem laid_restT {P:Program} {x:String × DataW Unit} {r:List (String × DataW Unit)} {w:World} (h:laidMet P (x :: r) w):laidMet P r w:=by
 obtain⟨ps,hv,hnd,hrows⟩:=h
 obtain⟨n,d⟩:=x
 obtain⟨g,t,cs,fuel,p,q,_,_,_,_,hq,rfl⟩:=hv
 exact⟨q,hq,List.Nodup.sublist (List.sublist_append_right _ _) hnd,fun b off hm=>hrows b off (List.mem_append_right _ hm)⟩
theorem gForm : Tryz.prog.globalNamed "mortsafe/right.forms" = some 0 := by kernel_rfl
theorem gFormType:(Tryz.prog.globals[0]?).map (·.type)=some 89:=by kernel_rfl
theorem cellsForm:Tryz.prog.cellsOf 88=8:=by kernel_rfl
theorem cellsForms:Tryz.prog.cellsOf 89=72:=by kernel_rfl
theorem str_back {s:ByteArray} {l:List UInt8} (h:s.data.toList=l):s=⟨l.toArray⟩:=ByteArray.ext (by rw[←h])
section
variable {H : Type} {enc : TypeId × Value → H} {w : World} {spare : Nat → Bool} {held : Bool}
theorem form_cells {fuel:Nat} {cs:List Value} {x:DataW H × List MemPlace} {l:List UInt8} {b1 b2 b3 b4 b5 b6 b7:Bool} (h:DataW.trod enc Tryz.prog w 0 spare held fuel 88 cs=some x)
  (hx:x.1=.agg [.lit (.string l),.lit (.bool b1),.lit (.bool b2),.lit (.bool b3),.lit (.bool b4),.lit (.bool b5),.lit (.bool b6),.lit (.bool b7)]) :
  cs=[.string ⟨l.toArray⟩,.bool b1,.bool b2,.bool b3,.bool b4,.bool b5,.bool b6,.bool b7]:=by
 have hu:=Tryz.underlying88
 obtain⟨ys,m,_,rfl,hlen,hyl,hi⟩:=DataW.trod_struct hu h
 rw[cellsForm] at hlen
 have c1:Tryz.prog.cellsOf 9=1:=by kernel_rfl
 have c2:Tryz.prog.cellsOf 4=1:=by kernel_rfl
 have h0:=hi 0 _ rfl
 have h1:=hi 1 _ rfl
 have h2:=hi 2 _ rfl
 have h3:=hi 3 _ rfl
 have h4:=hi 4 _ rfl
 have h5:=hi 5 _ rfl
 have h6:=hi 6 _ rfl
 have h7:=hi 7 _ rfl
 match cs,hlen with
 | [a,b,c,d,e,f,g,k],_ =>
  match ys,hyl with
  | [y0,y1,y2,y3,y4,y5,y6,y7],_ =>
   simp[c1,c2] at h0 h1 h2 h3 h4 h5 h6 h7 hx
   obtain⟨s0,e0,z0,g0⟩:=DataW.trod_string Tryz.underlying9 h0
   obtain⟨s1,e1,z1⟩:=DataW.trod_bool Tryz.underlying4 h1
   obtain⟨s2,e2,z2⟩:=DataW.trod_bool Tryz.underlying4 h2
   obtain⟨s3,e3,z3⟩:=DataW.trod_bool Tryz.underlying4 h3
   obtain⟨s4,e4,z4⟩:=DataW.trod_bool Tryz.underlying4 h4
   obtain⟨s5,e5,z5⟩:=DataW.trod_bool Tryz.underlying4 h5
   obtain⟨s6,e6,z6⟩:=DataW.trod_bool Tryz.underlying4 h6
   obtain⟨s7,e7,z7⟩:=DataW.trod_bool Tryz.underlying4 h7
   cases e0;cases e1;cases e2;cases e3;cases e4;cases e5;cases e6;cases e7
   rw[z0,z1,z2,z3,z4,z5,z6,z7] at hx
   simp at hx
   obtain⟨q0,rfl,rfl,rfl,rfl,rfl,rfl,rfl⟩:=hx
   rw[str_back q0]
end
theorem cut8 (L:List Value) (k:Nat):L.drop k=(L.drop k).take 8 ++ L.drop (k+8):=by
 rw[←List.drop_drop,List.take_append_drop]
theorem ftab_of {W : World} {r : List (String × DataW Unit)} (h : laidMet Tryz.prog (("mortsafe/right.forms", Rows.laid_mortsafe_right_forms) :: r) W) : FTab W := by
 obtain⟨ps,⟨g',t',cs,fuel,p,q,hg',ht',hvar,hd,_,_⟩,_⟩:=h
 obtain rfl:=Option.some.inj (gForm.symm.trans hg')
 obtain rfl:=Option.some.inj (gFormType.symm.trans ht')
 obtain⟨xs,m,_,hx,hlen,hxl,hi⟩:=DataW.trod_array Tryz.underlying89 hd
 rw[cellsForms] at hlen
 have hx1:xs.map (·.1)=_:=(DataW.agg.inj (congrArg Prod.fst hx)).symm
 rw[cellsForm] at hi
 have key:∀ i,i<9→∃ y,xs[i]?=some y∧DataW.trod _ Tryz.prog W 0 _ _ m 88 ((cs.toList.drop (i*8)).take 8)=some y:=fun i h9=>by
  have h1:=hi i h9
  rw[List.getElem?_eq_getElem (by omega)] at h1 ⊢
  exact⟨_,rfl,h1⟩
 obtain⟨y0,hy0,ht0⟩:=key 0 (by decide)
 have g0:=congrArg (fun z=>z[0]?) hx1
 simp only[List.getElem?_map,hy0,Option.map_some,List.getElem?_cons_succ,List.getElem?_cons_zero,Option.some.injEq] at g0
 have r0:=form_cells ht0 g0
 have e0:=cut8 cs.toList 0
 simp only[Nat.reduceMul,Nat.reduceAdd] at r0 e0
 rw[r0] at e0
 obtain⟨y1,hy1,ht1⟩:=key 1 (by decide)
 have g1:=congrArg (fun z=>z[1]?) hx1
 simp only[List.getElem?_map,hy1,Option.map_some,List.getElem?_cons_succ,List.getElem?_cons_zero,Option.some.injEq] at g1
 have r1:=form_cells ht1 g1
 have e1:=cut8 cs.toList 8
 simp only[Nat.reduceMul,Nat.reduceAdd] at r1 e1
 rw[r1] at e1
 obtain⟨y2,hy2,ht2⟩:=key 2 (by decide)
 have g2:=congrArg (fun z=>z[2]?) hx1
 simp only[List.getElem?_map,hy2,Option.map_some,List.getElem?_cons_succ,List.getElem?_cons_zero,Option.some.injEq] at g2
 have r2:=form_cells ht2 g2
 have e2:=cut8 cs.toList 16
 simp only[Nat.reduceMul,Nat.reduceAdd] at r2 e2
 rw[r2] at e2
 obtain⟨y3,hy3,ht3⟩:=key 3 (by decide)
 have g3:=congrArg (fun z=>z[3]?) hx1
 simp only[List.getElem?_map,hy3,Option.map_some,List.getElem?_cons_succ,List.getElem?_cons_zero,Option.some.injEq] at g3
 have r3:=form_cells ht3 g3
 have e3:=cut8 cs.toList 24
 simp only[Nat.reduceMul,Nat.reduceAdd] at r3 e3
 rw[r3] at e3
 obtain⟨y4,hy4,ht4⟩:=key 4 (by decide)
 have g4:=congrArg (fun z=>z[4]?) hx1
 simp only[List.getElem?_map,hy4,Option.map_some,List.getElem?_cons_succ,List.getElem?_cons_zero,Option.some.injEq] at g4
 have r4:=form_cells ht4 g4
 have e4:=cut8 cs.toList 32
 simp only[Nat.reduceMul,Nat.reduceAdd] at r4 e4
 rw[r4] at e4
 obtain⟨y5,hy5,ht5⟩:=key 5 (by decide)
 have g5:=congrArg (fun z=>z[5]?) hx1
 simp only[List.getElem?_map,hy5,Option.map_some,List.getElem?_cons_succ,List.getElem?_cons_zero,Option.some.injEq] at g5
 have r5:=form_cells ht5 g5
 have e5:=cut8 cs.toList 40
 simp only[Nat.reduceMul,Nat.reduceAdd] at r5 e5
 rw[r5] at e5
 obtain⟨y6,hy6,ht6⟩:=key 6 (by decide)
 have g6:=congrArg (fun z=>z[6]?) hx1
 simp only[List.getElem?_map,hy6,Option.map_some,List.getElem?_cons_succ,List.getElem?_cons_zero,Option.some.injEq] at g6
 have r6:=form_cells ht6 g6
 have e6:=cut8 cs.toList 48
 simp only[Nat.reduceMul,Nat.reduceAdd] at r6 e6
 rw[r6] at e6
 obtain⟨y7,hy7,ht7⟩:=key 7 (by decide)
 have g7:=congrArg (fun z=>z[7]?) hx1
 simp only[List.getElem?_map,hy7,Option.map_some,List.getElem?_cons_succ,List.getElem?_cons_zero,Option.some.injEq] at g7
 have r7:=form_cells ht7 g7
 have e7:=cut8 cs.toList 56
 simp only[Nat.reduceMul,Nat.reduceAdd] at r7 e7
 rw[r7] at e7
 obtain⟨y8,hy8,ht8⟩:=key 8 (by decide)
 have g8:=congrArg (fun z=>z[8]?) hx1
 simp only[List.getElem?_map,hy8,Option.map_some,List.getElem?_cons_succ,List.getElem?_cons_zero,Option.some.injEq] at g8
 have r8:=form_cells ht8 g8
 have e8:=cut8 cs.toList 64
 simp only[Nat.reduceMul,Nat.reduceAdd] at r8 e8
 rw[r8] at e8
 have hz:cs.toList.drop 72=[]:=List.drop_of_length_le (by omega)
 rw[hz] at e8
 rw[e8] at e7
 rw[e7] at e6
 rw[e6] at e5
 rw[e5] at e4
 rw[e4] at e3
 rw[e3] at e2
 rw[e2] at e1
 rw[e1] at e0
 have hL:cs.toList=formTab:=by
  rw[List.drop_zero] at e0
  rw[e0]
  rfl
 have hc:∀ i:Nat,i<72→W.cell? ⟨0,i,none⟩=some (formTab.getD i undef):=fun i hi9=>by
  rw[World.var?_cell gForm hvar i,←Array.getElem?_toList,hL]
  have hl:i<formTab.length:=by show i<72;exact hi9
  rw[List.getElem?_eq_getElem hl,List.getD_eq_getElem?_getD,List.getElem?_eq_getElem hl]
  rfl
 refine⟨?_,hc⟩
 have:=hc 0 (by decide)
 unfold World.cell? at this
 rcases Nat.lt_or_ge 0 W.heap.size with h | h
 ·exact h
 rw[Array.getElem?_eq_none h] at this
 cases this
theorem tabs_of5 {W : World} (h : laidMetH Tryz.prog [("mortsafe/rule.lengths", Rows.laid_mortsafe_rule_lengths), ("mortsafe/right.forms", Rows.laid_mortsafe_right_forms)] W) : Tab W ∧ FTab W := by
 have h' : laidMet Tryz.prog [("mortsafe/rule.lengths", Rows.laid_mortsafe_rule_lengths), ("mortsafe/right.forms", Rows.laid_mortsafe_right_forms)] W := h
 have h2:=laid_restT h'
 refine⟨?_,ftab_of h2⟩
 have ht : Lib.TabIs Tryz.prog W "mortsafe/rule.lengths" .i64 lenTab := Lib.tabIs_of_head gLen gLenType Tryz.underlying115 Tryz.underlying3 cellsInt cellsLen h'
 have hc:∀ i:Nat,i<12→W.cell? ⟨1,i,none⟩=some (.int .i64 (lenTab.getD i 0)):=fun i hi=>ht.cell gLen i (by simpa [lenTab] using hi)
 refine⟨?_,hc⟩
 have:=hc 0 (by decide)
 unfold World.cell? at this
 rcases Nat.lt_or_ge 1 W.heap.size with h | h
 ·exact h
 rw[Array.getElem?_eq_none h] at this
 cases this
def litV:DataW Unit→Value
 | .lit (.int k z)=>.int k z
 | .lit (.bool b)=>.bool b
 | .lit (.string l)=>.string ⟨l.toArray⟩
 | _=>undef
def litRow:DataW Unit→List Value
 | .agg xs=>xs.map litV
 | d=>[litV d]
def litCellsF:DataW Unit→Array Value
 | .agg xs=>(xs.flatMap litRow).toArray
 | _=>#[]
def layAtF (g:Nat) (d:DataW Unit) (w:World):World :=
 { w with heap:=w.heap.modify g fun
   | .cells _ t frozen=>.cells (litCellsF d) t frozen
   | o=>o }
noncomputable def laidWorldF (os:Os):World :=
 layAtF 1 Rows.laid_mortsafe_rule_lengths (layAtF 0 Rows.laid_mortsafe_right_forms (World.holding Tryz.prog os ⟨#[],#[],[]⟩))
end Go.Proofs.YtcnfhnndppollaaGreatDoor
namespace Go.Proofs.YtcnfhnndppollaaGreatDoor
open Go Go.RowKit
theorem frcSize:(Tryz.prog.info? 33).map (·.size)=some 2:=by kernel_rfl
theorem right_renewal (k d cl yr:Int) (pl fr:ByteArray) (w:World) :
  Calls Tryz.prog 34 #[.agg #[.string ⟨#[114,101,110,101,119,97,108]⟩,.bool true,.bool false,.bool false,.bool true,.bool false,.bool false,.bool false],.agg #[.int .i64 k,.int .i64 d,.string pl,.string fr,.slice none 0 0,.int .i64 cl,.int .i64 yr]] w fun e w'=>e=.returned (.bool true)∧Below w.heap.size w w':=by
 have hb:=Lib.hid (below_step (below_alloc w (.cells #[.string ⟨#[114,101,110,101,119,97,108]⟩,.bool true,.bool false,.bool false,.bool true,.bool false,.bool false,.bool false] 88)) (below_alloc _ (.cells #[.int .i64 k,.int .i64 d,.string pl,.string fr,.slice none 0 0,.int .i64 cl,.int .i64 yr] 38)))
 go_enter Tryz.func34,Tryz.ntmps34
 go_wp2
 go_ret
 exact⟨rfl,hb.out⟩
theorem right_death (k d cl yr:Int) (pl fr:ByteArray) (w:World) :
  Calls Tryz.prog 34 #[.agg #[.string ⟨#[100,101,97,116,104]⟩,.bool false,.bool true,.bool false,.bool false,.bool false,.bool false,.bool false],.agg #[.int .i64 k,.int .i64 d,.string pl,.string fr,.slice none 0 0,.int .i64 cl,.int .i64 yr]] w fun e w'=>e=.returned (.bool true)∧Below w.heap.size w w':=by
 have hb:=Lib.hid (below_step (below_alloc w (.cells #[.string ⟨#[100,101,97,116,104]⟩,.bool false,.bool true,.bool false,.bool false,.bool false,.bool false,.bool false] 88)) (below_alloc _ (.cells #[.int .i64 k,.int .i64 d,.string pl,.string fr,.slice none 0 0,.int .i64 cl,.int .i64 yr] 38)))
 go_enter Tryz.func34,Tryz.ntmps34
 go_wp2
 go_ret
 exact⟨rfl,hb.out⟩
theorem right_grant (A:Option Addr) (c:Nat) (k d cl yr:Int) (pl:ByteArray) (w:World) (h:RowsAt w A 3 ([⟨⟨#[97,110,110]⟩,1,1⟩].map Pa.cells)) :
  Calls Tryz.prog 34 #[.agg #[.string ⟨#[103,114,97,110,116]⟩,.bool true,.bool false,.bool true,.bool true,.bool true,.bool true,.bool true],.agg #[.int .i64 k,.int .i64 d,.string pl,.string ⟨#[]⟩,.slice A 1 c,.int .i64 cl,.int .i64 yr]] w fun e w'=>e=.returned (.bool true)∧Below w.heap.size w w':=by
 obtain⟨b,o,hA,hbl,p0,p1,p2⟩:=pa_at h
 have hz:=Lib.hid (fun W (hb:Below w.heap.size w W)=>pa_at (h.below hb))
 subst hA
 obtain⟨A2,hsl⟩:=pa_head (some ⟨b,o,none⟩) 1 c
 have b2:=BoxAt.new w #[.string ⟨#[103,114,97,110,116]⟩,.bool true,.bool false,.bool true,.bool true,.bool true,.bool true,.bool true] 88
 have b3:=BoxAt.new (w.alloc (.cells #[.string ⟨#[103,114,97,110,116]⟩,.bool true,.bool false,.bool true,.bool true,.bool true,.bool true,.bool true] 88)) #[.int .i64 k,.int .i64 d,.string pl,.string ⟨#[]⟩,.slice (some ⟨b,o,none⟩) 1 c,.int .i64 cl,.int .i64 yr] 38
 rw[World.size_alloc] at b3
 have b5:=BoxAt.new ((w.alloc (.cells #[.string ⟨#[103,114,97,110,116]⟩,.bool true,.bool false,.bool true,.bool true,.bool true,.bool true,.bool true] 88)).alloc (.cells #[.int .i64 k,.int .i64 d,.string pl,.string ⟨#[]⟩,.slice (some ⟨b,o,none⟩) 1 c,.int .i64 cl,.int .i64 yr] 38)) #[.int .i64 0,.int .i64 1] 33
 rw[World.size_alloc,World.size_alloc] at b5
 have hb:=below_step (below_step (below_alloc w (.cells #[.string ⟨#[103,114,97,110,116]⟩,.bool true,.bool false,.bool true,.bool true,.bool true,.bool true,.bool true] 88)) (below_alloc _ (.cells #[.int .i64 k,.int .i64 d,.string pl,.string ⟨#[]⟩,.slice (some ⟨b,o,none⟩) 1 c,.int .i64 cl,.int .i64 yr] 38))) (below_alloc _ (.cells #[.int .i64 0,.int .i64 1] 33))
 have b2:=Lib.hid ((b2.alloc (.cells #[.int .i64 k,.int .i64 d,.string pl,.string ⟨#[]⟩,.slice (some ⟨b,o,none⟩) 1 c,.int .i64 cl,.int .i64 yr] 38)).alloc (.cells #[.int .i64 0,.int .i64 1] 33))
 have b3:=Lib.hid (b3.alloc (.cells #[.int .i64 0,.int .i64 1] 33))
 have b5:=Lib.hid b5
 have hb:=Lib.hid hb
 clear p0 p1 p2 h
 go_enter Tryz.func34,Tryz.ntmps34
 go_wp2
 generalize ((w.alloc (.cells #[.string ⟨#[103,114,97,110,116]⟩,.bool true,.bool false,.bool true,.bool true,.bool true,.bool true,.bool true] 88)).alloc (.cells #[.int .i64 k,.int .i64 d,.string pl,.string ⟨#[]⟩,.slice (some ⟨b,o,none⟩) 1 c,.int .i64 cl,.int .i64 yr] 38)).alloc (.cells #[.int .i64 0,.int .i64 1] 33)=X at *
 obtain⟨b1,o1,hA1,_,p0,p1,p2⟩:=hz.out _ hb.out
 cases hA1
 have b7:=Lib.hid (BoxAt.new X #[.string ⟨#[97,110,110]⟩,.int .i64 1,.int .i64 1] 35)
 replace b2:=Lib.hid (b2.out.alloc (.cells #[.string ⟨#[97,110,110]⟩,.int .i64 1,.int .i64 1] 35))
 replace b3:=Lib.hid (b3.out.alloc (.cells #[.string ⟨#[97,110,110]⟩,.int .i64 1,.int .i64 1] 35))
 have h57:w.heap.size+1+1<X.heap.size:=b5.out.lt
 replace b5:=Lib.hid (b5.out.alloc (.cells #[.string ⟨#[97,110,110]⟩,.int .i64 1,.int .i64 1] 35))
 replace hb:=Lib.hid (below_step hb.out (below_alloc X (.cells #[.string ⟨#[97,110,110]⟩,.int .i64 1,.int .i64 1] 35)))
 have d4:=b3.out.c 4 _ rfl
 refine wp_unroll 2 ?_
 unfold unroll
 go_wp2_with (first
  |(go_at_call 32;clear d4 p0 p1 p2;refine (Contains_none _ _ _ _).mono ?_;rintro e9 wn ⟨rfl,hbn⟩;(replace b2:=Lib.hid (b2.out.below hbn);replace b3:=Lib.hid (b3.out.below hbn);replace b5:=Lib.hid (b5.out.below hbn);replace b7:=Lib.hid (b7.out.below hbn);replace hb:=Lib.hid (below_step hb.out hbn);clear hbn);have d3:=b3.out.c 3 _ rfl;have d4:=b3.out.c 4 _ rfl;have m2:=b2.out.c 2 _ rfl;have m7:=b2.out.c 7 _ rfl;obtain⟨q0,q1,q2⟩:=b7.out.c3)
  |(go_at_call 49;clear d3 d4 m2 m7 q0 q1 q2;refine (isFr_1_1 _).mono ?_;rintro e9 wn2 ⟨rfl,hbn⟩;(replace b2:=Lib.hid (b2.out.below hbn);replace b3:=Lib.hid (b3.out.below hbn);replace b5:=Lib.hid (b5.out.below hbn);replace b7:=Lib.hid (b7.out.below hbn);replace hb:=Lib.hid (below_step hb.out hbn);clear hbn);have q1:=b7.out.c 1 _ rfl;have q2:=b7.out.c 2 _ rfl;obtain⟨s0,s1⟩:=b5.out.c2)
  |(go_at_call 52;clear q1 q2 s0 s1;refine (radd_0_1_1_1 _).mono ?_;rintro e9 wn3 ⟨rfl,hbn⟩;(replace b2:=Lib.hid (b2.out.below hbn);replace b3:=Lib.hid (b3.out.below hbn);replace b5:=Lib.hid (b5.out.below hbn);replace b7:=Lib.hid (b7.out.below hbn);replace hb:=Lib.hid (below_step hb.out hbn);clear hbn))
  |(refine wpList_store_box rfl 33 (.tmp 5) (.tmp 78) rfl (w.heap.size+1+1) _ [.int .i64 1,.int .i64 1] (by rfl) (by rfl) b5.out rfl frcSize (by kernel_rfl) ?_;intro w4 h4 hg4;replace b2:=Lib.hid (b2.out.grown hg4 (by simp <;> omega));replace hb:=Lib.hid (below_of_grownB hb.out hg4 (by omega));replace b5:=Lib.hid h4;clear b3 b7 hg4 h4;have m5:=b2.out.c 5 _ rfl;have m7:=b2.out.c 7 _ rfl;obtain⟨s0,s1⟩:=b5.out.c2))
 unfold unroll
 go_wp2
 go_ret
 exact⟨rfl,hb.out⟩
theorem CheckDeed_bob (A:Option Addr) (c:Nat) (w:World) (hF:FTab w) (h:RowsAt w A 3 ([⟨⟨#[98,111,98]⟩,0,0⟩].map Pa.cells)):Calls Tryz.prog 14 #[.agg #[.int .i64 6,.int .i64 0,.string ⟨#[]⟩,.string ⟨#[97,110,110]⟩,.slice A 1 c,.int .i64 0,.int .i64 0]] w fun e w'=>e=.returned (.int .i64 0)∧Below w.heap.size w w':=by
 have hFz:=Lib.hid (fun W (hb:Below w.heap.size w W)=>hF.below hb)
 have hz:=Lib.hid (fun W (hb:Below w.heap.size w W)=>h.below hb)
 obtain⟨b,o,hA,hbl,p0,p1,p2⟩:=pa_at h
 subst hA
 clear p0 p1 p2 h
 clear hF
 have b1:=Lib.hid (BoxAt.new w #[.int .i64 6,.int .i64 0,.string ⟨#[]⟩,.string ⟨#[97,110,110]⟩,.slice (some ⟨b,o,none⟩) 1 c,.int .i64 0,.int .i64 0] 38)
 have hb:=Lib.hid (below_alloc w (.cells #[.int .i64 6,.int .i64 0,.string ⟨#[]⟩,.string ⟨#[97,110,110]⟩,.slice (some ⟨b,o,none⟩) 1 c,.int .i64 0,.int .i64 0] 38))
 obtain⟨d0,d1,d2,d3⟩:=b1.out.c4;have d4:=b1.out.c 4 _ rfl;have d5:=b1.out.c 5 _ rfl;have d6:=b1.out.c 6 _ rfl
 go_enter Tryz.func14,Tryz.ntmps14
 go_upto_region 12 with (first
  |(go_at_call 29;refine (rwithin_any _ _ _ _).mono ?_;rintro e w' ⟨rfl,rfl⟩)
  |(go_at_call 30;refine (risDay_any _ _).mono ?_;rintro e w' ⟨rfl,rfl⟩)
  |(go_at_call 31;refine (isName_ann _).mono ?_;rintro e9 wn ⟨rfl,rfl⟩)
  |(go_at_call 32;clear d0 d1 d2 d3 d4 d5 d6;refine (Contains_chk _ _ _ _ (hz.out _ hb.out) isName_bob).mono ?_;rintro e9 wn ⟨rfl,hbn⟩;replace b1:=Lib.hid (b1.out.below hbn);replace hb:=Lib.hid (below_step hb.out hbn);clear hbn;obtain⟨d0,d1,d2,d3⟩:=b1.out.c4;have d4:=b1.out.c 4 _ rfl;have d5:=b1.out.c 5 _ rfl;have d6:=b1.out.c 6 _ rfl;have f0:=(hFz.out _ hb.out).cell 48 (by decide);have f1:=(hFz.out _ hb.out).cell 49 (by decide);have f2:=(hFz.out _ hb.out).cell 50 (by decide);have f3:=(hFz.out _ hb.out).cell 51 (by decide);have f4:=(hFz.out _ hb.out).cell 52 (by decide);have f5:=(hFz.out _ hb.out).cell 53 (by decide);have f6:=(hFz.out _ hb.out).cell 54 (by decide);have f7:=(hFz.out _ hb.out).cell 55 (by decide);simp only[formTab,List.getD_cons_succ,List.getD_cons_zero] at f0 f1 f2 f3 f4 f5 f6 f7))
 replace b1:=Lib.hid (b1.out.alloc (.cells #[.string ⟨#[99,104,105,108,100]⟩,.bool false,.bool true,.bool false,.bool false,.bool false,.bool true,.bool false] 88))
 have b3:=Lib.hid (BoxAt.new wn #[.string ⟨#[99,104,105,108,100]⟩,.bool false,.bool true,.bool false,.bool false,.bool false,.bool true,.bool false] 88)
 replace hb:=Lib.hid (below_step hb.out (below_alloc wn (.cells #[.string ⟨#[99,104,105,108,100]⟩,.bool false,.bool true,.bool false,.bool false,.bool false,.bool true,.bool false] 88)))
 clear d0 d1 d2 d3 d4 d5 d6;clear f0 f1 f2 f3 f4 f5 f6 f7
 generalize wn.alloc (.cells #[.string ⟨#[99,104,105,108,100]⟩,.bool false,.bool true,.bool false,.bool false,.bool false,.bool true,.bool false] 88)=X at *
 generalize wn.heap.size=B3 at *
 obtain⟨d0,d1,d2,d3⟩:=b1.out.c4;have d4:=b1.out.c 4 _ rfl;have d5:=b1.out.c 5 _ rfl;have d6:=b1.out.c 6 _ rfl;obtain⟨f0,f1,f2,f3⟩:=b3.out.c4;have f4:=b3.out.c 4 _ rfl;have f5:=b3.out.c 5 _ rfl;have f6:=b3.out.c 6 _ rfl;have f7:=b3.out.c 7 _ rfl
 go_wp2_with (go_at_call 34;clear d0 d1 d2 d3 d4 d5 d6;clear f0 f1 f2 f3 f4 f5 f6 f7;refine (right_bob _ c _ _ _ _ _ _ _ (hz.out _ hb.out)).mono ?_;rintro e9 wm ⟨rfl,hbm⟩;replace hb:=Lib.hid (below_step hb.out hbm);clear hbm)
 go_ret
 exact⟨rfl,hb.out⟩
theorem CheckDeed_cat (A:Option Addr) (c:Nat) (w:World) (hF:FTab w) (h:RowsAt w A 3 ([⟨⟨#[99,97,116]⟩,0,0⟩].map Pa.cells)):Calls Tryz.prog 14 #[.agg #[.int .i64 6,.int .i64 0,.string ⟨#[]⟩,.string ⟨#[97,110,110]⟩,.slice A 1 c,.int .i64 0,.int .i64 0]] w fun e w'=>e=.returned (.int .i64 0)∧Below w.heap.size w w':=by
 have hFz:=Lib.hid (fun W (hb:Below w.heap.size w W)=>hF.below hb)
 have hz:=Lib.hid (fun W (hb:Below w.heap.size w W)=>h.below hb)
 obtain⟨b,o,hA,hbl,p0,p1,p2⟩:=pa_at h
 subst hA
 clear p0 p1 p2 h
 clear hF
 have b1:=Lib.hid (BoxAt.new w #[.int .i64 6,.int .i64 0,.string ⟨#[]⟩,.string ⟨#[97,110,110]⟩,.slice (some ⟨b,o,none⟩) 1 c,.int .i64 0,.int .i64 0] 38)
 have hb:=Lib.hid (below_alloc w (.cells #[.int .i64 6,.int .i64 0,.string ⟨#[]⟩,.string ⟨#[97,110,110]⟩,.slice (some ⟨b,o,none⟩) 1 c,.int .i64 0,.int .i64 0] 38))
 obtain⟨d0,d1,d2,d3⟩:=b1.out.c4;have d4:=b1.out.c 4 _ rfl;have d5:=b1.out.c 5 _ rfl;have d6:=b1.out.c 6 _ rfl
 go_enter Tryz.func14,Tryz.ntmps14
 go_upto_region 12 with (first
  |(go_at_call 29;refine (rwithin_any _ _ _ _).mono ?_;rintro e w' ⟨rfl,rfl⟩)
  |(go_at_call 30;refine (risDay_any _ _).mono ?_;rintro e w' ⟨rfl,rfl⟩)
  |(go_at_call 31;refine (isName_ann _).mono ?_;rintro e9 wn ⟨rfl,rfl⟩)
  |(go_at_call 32;clear d0 d1 d2 d3 d4 d5 d6;refine (Contains_chk _ _ _ _ (hz.out _ hb.out) isName_cat).mono ?_;rintro e9 wn ⟨rfl,hbn⟩;replace b1:=Lib.hid (b1.out.below hbn);replace hb:=Lib.hid (below_step hb.out hbn);clear hbn;obtain⟨d0,d1,d2,d3⟩:=b1.out.c4;have d4:=b1.out.c 4 _ rfl;have d5:=b1.out.c 5 _ rfl;have d6:=b1.out.c 6 _ rfl;have f0:=(hFz.out _ hb.out).cell 48 (by decide);have f1:=(hFz.out _ hb.out).cell 49 (by decide);have f2:=(hFz.out _ hb.out).cell 50 (by decide);have f3:=(hFz.out _ hb.out).cell 51 (by decide);have f4:=(hFz.out _ hb.out).cell 52 (by decide);have f5:=(hFz.out _ hb.out).cell 53 (by decide);have f6:=(hFz.out _ hb.out).cell 54 (by decide);have f7:=(hFz.out _ hb.out).cell 55 (by decide);simp only[formTab,List.getD_cons_succ,List.getD_cons_zero] at f0 f1 f2 f3 f4 f5 f6 f7))
 replace b1:=Lib.hid (b1.out.alloc (.cells #[.string ⟨#[99,104,105,108,100]⟩,.bool false,.bool true,.bool false,.bool false,.bool false,.bool true,.bool false] 88))
 have b3:=Lib.hid (BoxAt.new wn #[.string ⟨#[99,104,105,108,100]⟩,.bool false,.bool true,.bool false,.bool false,.bool false,.bool true,.bool false] 88)
 replace hb:=Lib.hid (below_step hb.out (below_alloc wn (.cells #[.string ⟨#[99,104,105,108,100]⟩,.bool false,.bool true,.bool false,.bool false,.bool false,.bool true,.bool false] 88)))
 clear d0 d1 d2 d3 d4 d5 d6;clear f0 f1 f2 f3 f4 f5 f6 f7
 generalize wn.alloc (.cells #[.string ⟨#[99,104,105,108,100]⟩,.bool false,.bool true,.bool false,.bool false,.bool false,.bool true,.bool false] 88)=X at *
 generalize wn.heap.size=B3 at *
 obtain⟨d0,d1,d2,d3⟩:=b1.out.c4;have d4:=b1.out.c 4 _ rfl;have d5:=b1.out.c 5 _ rfl;have d6:=b1.out.c 6 _ rfl;obtain⟨f0,f1,f2,f3⟩:=b3.out.c4;have f4:=b3.out.c 4 _ rfl;have f5:=b3.out.c 5 _ rfl;have f6:=b3.out.c 6 _ rfl;have f7:=b3.out.c 7 _ rfl
 go_wp2_with (go_at_call 34;clear d0 d1 d2 d3 d4 d5 d6;clear f0 f1 f2 f3 f4 f5 f6 f7;refine (right_cat _ c _ _ _ _ _ _ _ (hz.out _ hb.out)).mono ?_;rintro e9 wm ⟨rfl,hbm⟩;replace hb:=Lib.hid (below_step hb.out hbm);clear hbm)
 go_ret
 exact⟨rfl,hb.out⟩
theorem CheckDeed_dan (A:Option Addr) (c:Nat) (w:World) (hF:FTab w) (h:RowsAt w A 3 ([⟨⟨#[100,97,110]⟩,0,0⟩].map Pa.cells)):Calls Tryz.prog 14 #[.agg #[.int .i64 7,.int .i64 0,.string ⟨#[]⟩,.string ⟨#[97,110,110]⟩,.slice A 1 c,.int .i64 0,.int .i64 0]] w fun e w'=>e=.returned (.int .i64 0)∧Below w.heap.size w w':=by
 have hFz:=Lib.hid (fun W (hb:Below w.heap.size w W)=>hF.below hb)
 have hz:=Lib.hid (fun W (hb:Below w.heap.size w W)=>h.below hb)
 obtain⟨b,o,hA,hbl,p0,p1,p2⟩:=pa_at h
 subst hA
 clear p0 p1 p2 h
 clear hF
 have b1:=Lib.hid (BoxAt.new w #[.int .i64 7,.int .i64 0,.string ⟨#[]⟩,.string ⟨#[97,110,110]⟩,.slice (some ⟨b,o,none⟩) 1 c,.int .i64 0,.int .i64 0] 38)
 have hb:=Lib.hid (below_alloc w (.cells #[.int .i64 7,.int .i64 0,.string ⟨#[]⟩,.string ⟨#[97,110,110]⟩,.slice (some ⟨b,o,none⟩) 1 c,.int .i64 0,.int .i64 0] 38))
 obtain⟨d0,d1,d2,d3⟩:=b1.out.c4;have d4:=b1.out.c 4 _ rfl;have d5:=b1.out.c 5 _ rfl;have d6:=b1.out.c 6 _ rfl
 go_enter Tryz.func14,Tryz.ntmps14
 go_upto_region 12 with (first
  |(go_at_call 29;refine (rwithin_any _ _ _ _).mono ?_;rintro e w' ⟨rfl,rfl⟩)
  |(go_at_call 30;refine (risDay_any _ _).mono ?_;rintro e w' ⟨rfl,rfl⟩)
  |(go_at_call 31;refine (isName_ann _).mono ?_;rintro e9 wn ⟨rfl,rfl⟩)
  |(go_at_call 32;clear d0 d1 d2 d3 d4 d5 d6;refine (Contains_chk _ _ _ _ (hz.out _ hb.out) isName_dan).mono ?_;rintro e9 wn ⟨rfl,hbn⟩;replace b1:=Lib.hid (b1.out.below hbn);replace hb:=Lib.hid (below_step hb.out hbn);clear hbn;obtain⟨d0,d1,d2,d3⟩:=b1.out.c4;have d4:=b1.out.c 4 _ rfl;have d5:=b1.out.c 5 _ rfl;have d6:=b1.out.c 6 _ rfl;have f0:=(hFz.out _ hb.out).cell 56 (by decide);have f1:=(hFz.out _ hb.out).cell 57 (by decide);have f2:=(hFz.out _ hb.out).cell 58 (by decide);have f3:=(hFz.out _ hb.out).cell 59 (by decide);have f4:=(hFz.out _ hb.out).cell 60 (by decide);have f5:=(hFz.out _ hb.out).cell 61 (by decide);have f6:=(hFz.out _ hb.out).cell 62 (by decide);have f7:=(hFz.out _ hb.out).cell 63 (by decide);simp only[formTab,List.getD_cons_succ,List.getD_cons_zero] at f0 f1 f2 f3 f4 f5 f6 f7))
 replace b1:=Lib.hid (b1.out.alloc (.cells #[.string ⟨#[109,97,114,114,105,97,103,101]⟩,.bool false,.bool true,.bool false,.bool false,.bool false,.bool true,.bool false] 88))
 have b3:=Lib.hid (BoxAt.new wn #[.string ⟨#[109,97,114,114,105,97,103,101]⟩,.bool false,.bool true,.bool false,.bool false,.bool false,.bool true,.bool false] 88)
 replace hb:=Lib.hid (below_step hb.out (below_alloc wn (.cells #[.string ⟨#[109,97,114,114,105,97,103,101]⟩,.bool false,.bool true,.bool false,.bool false,.bool false,.bool true,.bool false] 88)))
 clear d0 d1 d2 d3 d4 d5 d6;clear f0 f1 f2 f3 f4 f5 f6 f7
 generalize wn.alloc (.cells #[.string ⟨#[109,97,114,114,105,97,103,101]⟩,.bool false,.bool true,.bool false,.bool false,.bool false,.bool true,.bool false] 88)=X at *
 generalize wn.heap.size=B3 at *
 obtain⟨d0,d1,d2,d3⟩:=b1.out.c4;have d4:=b1.out.c 4 _ rfl;have d5:=b1.out.c 5 _ rfl;have d6:=b1.out.c 6 _ rfl;obtain⟨f0,f1,f2,f3⟩:=b3.out.c4;have f4:=b3.out.c 4 _ rfl;have f5:=b3.out.c 5 _ rfl;have f6:=b3.out.c 6 _ rfl;have f7:=b3.out.c 7 _ rfl
 go_wp2_with (go_at_call 34;clear d0 d1 d2 d3 d4 d5 d6;clear f0 f1 f2 f3 f4 f5 f6 f7;refine (right_dan _ c _ _ _ _ _ _ _ (hz.out _ hb.out)).mono ?_;rintro e9 wm ⟨rfl,hbm⟩;replace hb:=Lib.hid (below_step hb.out hbm);clear hbm)
 go_ret
 exact⟨rfl,hb.out⟩
theorem CheckDeed_death (w:World) (hF:FTab w):Calls Tryz.prog 14 #[.agg #[.int .i64 8,.int .i64 200,.string ⟨#[]⟩,.string ⟨#[97,110,110]⟩,.slice none 0 0,.int .i64 0,.int .i64 0]] w fun e w'=>e=.returned (.int .i64 0)∧Below w.heap.size w w':=by
 have hFz:=Lib.hid (fun W (hb:Below w.heap.size w W)=>hF.below hb)
 clear hF
 have b1:=Lib.hid (BoxAt.new w #[.int .i64 8,.int .i64 200,.string ⟨#[]⟩,.string ⟨#[97,110,110]⟩,.slice none 0 0,.int .i64 0,.int .i64 0] 38)
 have hb:=Lib.hid (below_alloc w (.cells #[.int .i64 8,.int .i64 200,.string ⟨#[]⟩,.string ⟨#[97,110,110]⟩,.slice none 0 0,.int .i64 0,.int .i64 0] 38))
 obtain⟨d0,d1,d2,d3⟩:=b1.out.c4;have d4:=b1.out.c 4 _ rfl;have d5:=b1.out.c 5 _ rfl;have d6:=b1.out.c 6 _ rfl
 have f0:=(hFz.out _ hb.out).cell 64 (by decide)
 have f1:=(hFz.out _ hb.out).cell 65 (by decide)
 have f2:=(hFz.out _ hb.out).cell 66 (by decide)
 have f3:=(hFz.out _ hb.out).cell 67 (by decide)
 have f4:=(hFz.out _ hb.out).cell 68 (by decide)
 have f5:=(hFz.out _ hb.out).cell 69 (by decide)
 have f6:=(hFz.out _ hb.out).cell 70 (by decide)
 have f7:=(hFz.out _ hb.out).cell 71 (by decide)
 simp only[formTab,List.getD_cons_succ,List.getD_cons_zero] at f0 f1 f2 f3 f4 f5 f6 f7
 go_enter Tryz.func14,Tryz.ntmps14
 go_upto_region 12 with (first
  |(go_at_call 29;refine (rwithin_any _ _ _ _).mono ?_;rintro e w' ⟨rfl,rfl⟩)
  |(go_at_call 30;refine (risDay_any _ _).mono ?_;rintro e w' ⟨rfl,rfl⟩)
  |(go_at_call 31;refine (isName_ann _).mono ?_;rintro e9 wn ⟨rfl,rfl⟩)
  |(go_at_call 32;clear d0 d1 d2 d3 d4 d5 d6;clear f0 f1 f2 f3 f4 f5 f6 f7;refine (Contains_none _ _ _ _).mono ?_;rintro e9 wn ⟨rfl,hbn⟩;replace b1:=Lib.hid (b1.out.below hbn);replace hb:=Lib.hid (below_step hb.out hbn);clear hbn;obtain⟨d0,d1,d2,d3⟩:=b1.out.c4;have d4:=b1.out.c 4 _ rfl;have d5:=b1.out.c 5 _ rfl;have d6:=b1.out.c 6 _ rfl;have f0:=(hFz.out _ hb.out).cell 64 (by decide);have f1:=(hFz.out _ hb.out).cell 65 (by decide);have f2:=(hFz.out _ hb.out).cell 66 (by decide);have f3:=(hFz.out _ hb.out).cell 67 (by decide);have f4:=(hFz.out _ hb.out).cell 68 (by decide);have f5:=(hFz.out _ hb.out).cell 69 (by decide);have f6:=(hFz.out _ hb.out).cell 70 (by decide);have f7:=(hFz.out _ hb.out).cell 71 (by decide);simp only[formTab,List.getD_cons_succ,List.getD_cons_zero] at f0 f1 f2 f3 f4 f5 f6 f7))
 replace b1:=Lib.hid (b1.out.alloc (.cells #[.string ⟨#[100,101,97,116,104]⟩,.bool false,.bool true,.bool false,.bool false,.bool false,.bool false,.bool false] 88))
 have b3:=Lib.hid (BoxAt.new wn #[.string ⟨#[100,101,97,116,104]⟩,.bool false,.bool true,.bool false,.bool false,.bool false,.bool false,.bool false] 88)
 replace hb:=Lib.hid (below_step hb.out (below_alloc wn (.cells #[.string ⟨#[100,101,97,116,104]⟩,.bool false,.bool true,.bool false,.bool false,.bool false,.bool false,.bool false] 88)))
 clear d0 d1 d2 d3 d4 d5 d6;clear f0 f1 f2 f3 f4 f5 f6 f7
 generalize wn.alloc (.cells #[.string ⟨#[100,101,97,116,104]⟩,.bool false,.bool true,.bool false,.bool false,.bool false,.bool false,.bool false] 88)=X at *
 generalize wn.heap.size=B3 at *
 obtain⟨d0,d1,d2,d3⟩:=b1.out.c4;have d4:=b1.out.c 4 _ rfl;have d5:=b1.out.c 5 _ rfl;have d6:=b1.out.c 6 _ rfl;obtain⟨f0,f1,f2,f3⟩:=b3.out.c4;have f4:=b3.out.c 4 _ rfl;have f5:=b3.out.c 5 _ rfl;have f6:=b3.out.c 6 _ rfl;have f7:=b3.out.c 7 _ rfl
 go_wp2_with (go_at_call 34;clear d0 d1 d2 d3 d4 d5 d6;clear f0 f1 f2 f3 f4 f5 f6 f7;refine (right_death _ _ _ _ _ _ _).mono ?_;rintro e9 wm ⟨rfl,hbm⟩;replace hb:=Lib.hid (below_step hb.out hbm);clear hbm)
 go_ret
 exact⟨rfl,hb.out⟩
theorem CheckDeed_grantT (A:Option Addr) (c:Nat) (d yr:Int) (w:World) (hF:FTab w) (h:RowsAt w A 3 ([⟨⟨#[97,110,110]⟩,1,1⟩].map Pa.cells)) (h0:0≤d∧d≤200000) (h2:0≤yr∧yr≤99) (q1:(yr == 0)=false):Calls Tryz.prog 14 #[.agg #[.int .i64 0,.int .i64 d,.string ⟨#[97,49]⟩,.string ⟨#[]⟩,.slice A 1 c,.int .i64 2,.int .i64 yr]] w fun e w'=>e=.returned (.int .i64 0)∧Below w.heap.size w w':=by
 have hFz:=Lib.hid (fun W (hb:Below w.heap.size w W)=>hF.below hb)
 have hz:=Lib.hid (fun W (hb:Below w.heap.size w W)=>h.below hb)
 obtain⟨b,o,hA,hbl,p0,p1,p2⟩:=pa_at h
 subst hA
 clear p0 p1 p2 h
 clear hF
 have b1:=Lib.hid (BoxAt.new w #[.int .i64 0,.int .i64 d,.string ⟨#[97,49]⟩,.string ⟨#[]⟩,.slice (some ⟨b,o,none⟩) 1 c,.int .i64 2,.int .i64 yr] 38)
 have hb:=Lib.hid (below_alloc w (.cells #[.int .i64 0,.int .i64 d,.string ⟨#[97,49]⟩,.string ⟨#[]⟩,.slice (some ⟨b,o,none⟩) 1 c,.int .i64 2,.int .i64 yr] 38))
 obtain⟨d0,d1,d2,d3⟩:=b1.out.c4;have d4:=b1.out.c 4 _ rfl;have d5:=b1.out.c 5 _ rfl;have d6:=b1.out.c 6 _ rfl
 go_enter Tryz.func14,Tryz.ntmps14
 go_upto_region 12 with (first
  |(go_at_call 29;refine (rwithin_any _ _ _ _).mono ?_;rintro e w' ⟨rfl,rfl⟩)
  |(go_at_call 30;refine (risDay_any _ _).mono ?_;rintro e w' ⟨rfl,rfl⟩)
  |(go_at_call 31;refine (isName_a1 _).mono ?_;rintro e9 wn ⟨rfl,rfl⟩)
  |(go_at_call 32;clear d0 d1 d2 d3 d4 d5 d6;refine (Contains_chk _ _ _ _ (hz.out _ hb.out) isName_ann).mono ?_;rintro e9 wn ⟨rfl,hbn⟩;replace b1:=Lib.hid (b1.out.below hbn);replace hb:=Lib.hid (below_step hb.out hbn);clear hbn;obtain⟨d0,d1,d2,d3⟩:=b1.out.c4;have d4:=b1.out.c 4 _ rfl;have d5:=b1.out.c 5 _ rfl;have d6:=b1.out.c 6 _ rfl;have f0:=(hFz.out _ hb.out).cell 0 (by decide);have f1:=(hFz.out _ hb.out).cell 1 (by decide);have f2:=(hFz.out _ hb.out).cell 2 (by decide);have f3:=(hFz.out _ hb.out).cell 3 (by decide);have f4:=(hFz.out _ hb.out).cell 4 (by decide);have f5:=(hFz.out _ hb.out).cell 5 (by decide);have f6:=(hFz.out _ hb.out).cell 6 (by decide);have f7:=(hFz.out _ hb.out).cell 7 (by decide);simp only[formTab,List.getD_cons_succ,List.getD_cons_zero] at f0 f1 f2 f3 f4 f5 f6 f7))
 replace b1:=Lib.hid (b1.out.alloc (.cells #[.string ⟨#[103,114,97,110,116]⟩,.bool true,.bool false,.bool true,.bool true,.bool true,.bool true,.bool true] 88))
 have b3:=Lib.hid (BoxAt.new wn #[.string ⟨#[103,114,97,110,116]⟩,.bool true,.bool false,.bool true,.bool true,.bool true,.bool true,.bool true] 88)
 replace hb:=Lib.hid (below_step hb.out (below_alloc wn (.cells #[.string ⟨#[103,114,97,110,116]⟩,.bool true,.bool false,.bool true,.bool true,.bool true,.bool true,.bool true] 88)))
 clear d0 d1 d2 d3 d4 d5 d6;clear f0 f1 f2 f3 f4 f5 f6 f7
 generalize wn.alloc (.cells #[.string ⟨#[103,114,97,110,116]⟩,.bool true,.bool false,.bool true,.bool true,.bool true,.bool true,.bool true] 88)=X at *
 generalize wn.heap.size=B3 at *
 obtain⟨d0,d1,d2,d3⟩:=b1.out.c4;have d4:=b1.out.c 4 _ rfl;have d5:=b1.out.c 5 _ rfl;have d6:=b1.out.c 6 _ rfl;obtain⟨f0,f1,f2,f3⟩:=b3.out.c4;have f4:=b3.out.c 4 _ rfl;have f5:=b3.out.c 5 _ rfl;have f6:=b3.out.c 6 _ rfl;have f7:=b3.out.c 7 _ rfl
 go_wp2_with (go_at_call 34;clear d0 d1 d2 d3 d4 d5 d6;clear f0 f1 f2 f3 f4 f5 f6 f7;refine (right_grant _ c _ _ _ _ _ _ (hz.out _ hb.out)).mono ?_;rintro e9 wm ⟨rfl,hbm⟩;replace hb:=Lib.hid (below_step hb.out hbm);clear hbm)
 go_ret
 exact⟨rfl,hb.out⟩
theorem CheckDeed_grantF (A:Option Addr) (c:Nat) (w:World) (hF:FTab w) (h:RowsAt w A 3 ([⟨⟨#[97,110,110]⟩,1,1⟩].map Pa.cells)):Calls Tryz.prog 14 #[.agg #[.int .i64 0,.int .i64 100,.string ⟨#[97,49]⟩,.string ⟨#[]⟩,.slice A 1 c,.int .i64 1,.int .i64 0]] w fun e w'=>e=.returned (.int .i64 0)∧Below w.heap.size w w':=by
 have hFz:=Lib.hid (fun W (hb:Below w.heap.size w W)=>hF.below hb)
 have hz:=Lib.hid (fun W (hb:Below w.heap.size w W)=>h.below hb)
 obtain⟨b,o,hA,hbl,p0,p1,p2⟩:=pa_at h
 subst hA
 clear p0 p1 p2 h
 clear hF
 have b1:=Lib.hid (BoxAt.new w #[.int .i64 0,.int .i64 100,.string ⟨#[97,49]⟩,.string ⟨#[]⟩,.slice (some ⟨b,o,none⟩) 1 c,.int .i64 1,.int .i64 0] 38)
 have hb:=Lib.hid (below_alloc w (.cells #[.int .i64 0,.int .i64 100,.string ⟨#[97,49]⟩,.string ⟨#[]⟩,.slice (some ⟨b,o,none⟩) 1 c,.int .i64 1,.int .i64 0] 38))
 obtain⟨d0,d1,d2,d3⟩:=b1.out.c4;have d4:=b1.out.c 4 _ rfl;have d5:=b1.out.c 5 _ rfl;have d6:=b1.out.c 6 _ rfl
 go_enter Tryz.func14,Tryz.ntmps14
 go_upto_region 12 with (first
  |(go_at_call 29;refine (rwithin_any _ _ _ _).mono ?_;rintro e w' ⟨rfl,rfl⟩)
  |(go_at_call 30;refine (risDay_any _ _).mono ?_;rintro e w' ⟨rfl,rfl⟩)
  |(go_at_call 31;refine (isName_a1 _).mono ?_;rintro e9 wn ⟨rfl,rfl⟩)
  |(go_at_call 32;clear d0 d1 d2 d3 d4 d5 d6;refine (Contains_chk _ _ _ _ (hz.out _ hb.out) isName_ann).mono ?_;rintro e9 wn ⟨rfl,hbn⟩;replace b1:=Lib.hid (b1.out.below hbn);replace hb:=Lib.hid (below_step hb.out hbn);clear hbn;obtain⟨d0,d1,d2,d3⟩:=b1.out.c4;have d4:=b1.out.c 4 _ rfl;have d5:=b1.out.c 5 _ rfl;have d6:=b1.out.c 6 _ rfl;have f0:=(hFz.out _ hb.out).cell 0 (by decide);have f1:=(hFz.out _ hb.out).cell 1 (by decide);have f2:=(hFz.out _ hb.out).cell 2 (by decide);have f3:=(hFz.out _ hb.out).cell 3 (by decide);have f4:=(hFz.out _ hb.out).cell 4 (by decide);have f5:=(hFz.out _ hb.out).cell 5 (by decide);have f6:=(hFz.out _ hb.out).cell 6 (by decide);have f7:=(hFz.out _ hb.out).cell 7 (by decide);simp only[formTab,List.getD_cons_succ,List.getD_cons_zero] at f0 f1 f2 f3 f4 f5 f6 f7))
 replace b1:=Lib.hid (b1.out.alloc (.cells #[.string ⟨#[103,114,97,110,116]⟩,.bool true,.bool false,.bool true,.bool true,.bool true,.bool true,.bool true] 88))
 have b3:=Lib.hid (BoxAt.new wn #[.string ⟨#[103,114,97,110,116]⟩,.bool true,.bool false,.bool true,.bool true,.bool true,.bool true,.bool true] 88)
 replace hb:=Lib.hid (below_step hb.out (below_alloc wn (.cells #[.string ⟨#[103,114,97,110,116]⟩,.bool true,.bool false,.bool true,.bool true,.bool true,.bool true,.bool true] 88)))
 clear d0 d1 d2 d3 d4 d5 d6;clear f0 f1 f2 f3 f4 f5 f6 f7
 generalize wn.alloc (.cells #[.string ⟨#[103,114,97,110,116]⟩,.bool true,.bool false,.bool true,.bool true,.bool true,.bool true,.bool true] 88)=X at *
 generalize wn.heap.size=B3 at *
 obtain⟨d0,d1,d2,d3⟩:=b1.out.c4;have d4:=b1.out.c 4 _ rfl;have d5:=b1.out.c 5 _ rfl;have d6:=b1.out.c 6 _ rfl;obtain⟨f0,f1,f2,f3⟩:=b3.out.c4;have f4:=b3.out.c 4 _ rfl;have f5:=b3.out.c 5 _ rfl;have f6:=b3.out.c 6 _ rfl;have f7:=b3.out.c 7 _ rfl
 go_wp2_with (go_at_call 34;clear d0 d1 d2 d3 d4 d5 d6;clear f0 f1 f2 f3 f4 f5 f6 f7;refine (right_grant _ c _ _ _ _ _ _ (hz.out _ hb.out)).mono ?_;rintro e9 wm ⟨rfl,hbm⟩;replace hb:=Lib.hid (below_step hb.out hbm);clear hbm)
 go_ret
 exact⟨rfl,hb.out⟩
theorem CheckDeed_renewal (d yr:Int) (w:World) (hF:FTab w) (h0:0≤d∧d≤200000) (h2:0≤yr∧yr≤99) (q1:(yr == 0)=false):Calls Tryz.prog 14 #[.agg #[.int .i64 3,.int .i64 d,.string ⟨#[97,49]⟩,.string ⟨#[]⟩,.slice none 0 0,.int .i64 0,.int .i64 yr]] w fun e w'=>e=.returned (.int .i64 0)∧Below w.heap.size w w':=by
 have hFz:=Lib.hid (fun W (hb:Below w.heap.size w W)=>hF.below hb)
 clear hF
 have b1:=Lib.hid (BoxAt.new w #[.int .i64 3,.int .i64 d,.string ⟨#[97,49]⟩,.string ⟨#[]⟩,.slice none 0 0,.int .i64 0,.int .i64 yr] 38)
 have hb:=Lib.hid (below_alloc w (.cells #[.int .i64 3,.int .i64 d,.string ⟨#[97,49]⟩,.string ⟨#[]⟩,.slice none 0 0,.int .i64 0,.int .i64 yr] 38))
 obtain⟨d0,d1,d2,d3⟩:=b1.out.c4;have d4:=b1.out.c 4 _ rfl;have d5:=b1.out.c 5 _ rfl;have d6:=b1.out.c 6 _ rfl
 have f0:=(hFz.out _ hb.out).cell 24 (by decide)
 have f1:=(hFz.out _ hb.out).cell 25 (by decide)
 have f2:=(hFz.out _ hb.out).cell 26 (by decide)
 have f3:=(hFz.out _ hb.out).cell 27 (by decide)
 have f4:=(hFz.out _ hb.out).cell 28 (by decide)
 have f5:=(hFz.out _ hb.out).cell 29 (by decide)
 have f6:=(hFz.out _ hb.out).cell 30 (by decide)
 have f7:=(hFz.out _ hb.out).cell 31 (by decide)
 simp only[formTab,List.getD_cons_succ,List.getD_cons_zero] at f0 f1 f2 f3 f4 f5 f6 f7
 go_enter Tryz.func14,Tryz.ntmps14
 go_upto_region 12 with (first
  |(go_at_call 29;refine (rwithin_any _ _ _ _).mono ?_;rintro e w' ⟨rfl,rfl⟩)
  |(go_at_call 30;refine (risDay_any _ _).mono ?_;rintro e w' ⟨rfl,rfl⟩)
  |(go_at_call 31;refine (isName_a1 _).mono ?_;rintro e9 wn ⟨rfl,rfl⟩)
  |(go_at_call 32;clear d0 d1 d2 d3 d4 d5 d6;clear f0 f1 f2 f3 f4 f5 f6 f7;refine (Contains_none _ _ _ _).mono ?_;rintro e9 wn ⟨rfl,hbn⟩;replace b1:=Lib.hid (b1.out.below hbn);replace hb:=Lib.hid (below_step hb.out hbn);clear hbn;obtain⟨d0,d1,d2,d3⟩:=b1.out.c4;have d4:=b1.out.c 4 _ rfl;have d5:=b1.out.c 5 _ rfl;have d6:=b1.out.c 6 _ rfl;have f0:=(hFz.out _ hb.out).cell 24 (by decide);have f1:=(hFz.out _ hb.out).cell 25 (by decide);have f2:=(hFz.out _ hb.out).cell 26 (by decide);have f3:=(hFz.out _ hb.out).cell 27 (by decide);have f4:=(hFz.out _ hb.out).cell 28 (by decide);have f5:=(hFz.out _ hb.out).cell 29 (by decide);have f6:=(hFz.out _ hb.out).cell 30 (by decide);have f7:=(hFz.out _ hb.out).cell 31 (by decide);simp only[formTab,List.getD_cons_succ,List.getD_cons_zero] at f0 f1 f2 f3 f4 f5 f6 f7))
 replace b1:=Lib.hid (b1.out.alloc (.cells #[.string ⟨#[114,101,110,101,119,97,108]⟩,.bool true,.bool false,.bool false,.bool true,.bool false,.bool false,.bool false] 88))
 have b3:=Lib.hid (BoxAt.new wn #[.string ⟨#[114,101,110,101,119,97,108]⟩,.bool true,.bool false,.bool false,.bool true,.bool false,.bool false,.bool false] 88)
 replace hb:=Lib.hid (below_step hb.out (below_alloc wn (.cells #[.string ⟨#[114,101,110,101,119,97,108]⟩,.bool true,.bool false,.bool false,.bool true,.bool false,.bool false,.bool false] 88)))
 clear d0 d1 d2 d3 d4 d5 d6;clear f0 f1 f2 f3 f4 f5 f6 f7
 generalize wn.alloc (.cells #[.string ⟨#[114,101,110,101,119,97,108]⟩,.bool true,.bool false,.bool false,.bool true,.bool false,.bool false,.bool false] 88)=X at *
 generalize wn.heap.size=B3 at *
 obtain⟨d0,d1,d2,d3⟩:=b1.out.c4;have d4:=b1.out.c 4 _ rfl;have d5:=b1.out.c 5 _ rfl;have d6:=b1.out.c 6 _ rfl;obtain⟨f0,f1,f2,f3⟩:=b3.out.c4;have f4:=b3.out.c 4 _ rfl;have f5:=b3.out.c 5 _ rfl;have f6:=b3.out.c 6 _ rfl;have f7:=b3.out.c 7 _ rfl
 go_wp2_with (go_at_call 34;clear d0 d1 d2 d3 d4 d5 d6;clear f0 f1 f2 f3 f4 f5 f6 f7;refine (right_renewal _ _ _ _ _ _ _).mono ?_;rintro e9 wm ⟨rfl,hbm⟩;replace hb:=Lib.hid (below_step hb.out hbm);clear hbm)
 go_ret
 exact⟨rfl,hb.out⟩
end Go.Proofs.YtcnfhnndppollaaGreatDoor
namespace Go.Proofs.YtcnfhnndppollaaGreatDoor
open Go Go.RowKit Go.Maps Go.WideMaps
theorem pplSize:(Tryz.prog.info? 78).map (·.size)=some 6:=by kernel_rfl
structure Mps (W:World) (q:Nat):Prop where
 m1:W.heap[q+1]?=some (.map #[] 0)
 m2:W.heap[q+1+1]?=some (.map #[] 0)
 m3:W.heap[q+1+1+1]?=some (.map #[] 0)
 m4:W.heap[q+1+1+1+1]?=some (.map #[] 0)
 m5:W.heap[q+1+1+1+1+1]?=some (.map #[] 0)
theorem heap_push (w:World) (o:Obj) (k:Nat) (hk:k=w.heap.size):(w.alloc o).heap[k]?=some o:=by subst hk;exact World.alloc_heap_new w o
theorem heap_old (w:World) (o o':Obj) (k:Nat) (h:w.heap[k]?=some o'):(w.alloc o).heap[k]?=some o':=(Below.heap_alloc _ _ _ (Array.getElem?_eq_some_iff.1 h).1).trans h
def NpP (w:World) (e:Ending) (w':World):Prop:=e=.returned (.agg #[.map (some (w.heap.size+1)),.map (some (w.heap.size+1+1)),.map (some (w.heap.size+1+1+1)),.slice none 0 0,.map (some (w.heap.size+1+1+1+1)),.map (some (w.heap.size+1+1+1+1+1))])∧Mps w' w.heap.size∧w'.heap.size=w.heap.size+1+1+1+1+1+1∧Below w.heap.size w w'
theorem newPeople_any (w:World):Calls Tryz.prog 27 #[] w (NpP w):=by
 have hmm:=@run_makeMap Tryz.prog
 go_enter Tryz.func27,Tryz.ntmps27
 go_wp2
 have hB:=((((((BoxAt.new w #[.map (some (w.heap.size+1)),.map (some (w.heap.size+1+1)),.map (some (w.heap.size+1+1+1)),.slice none 0 0,.map (some (w.heap.size+1+1+1+1)),.map (some (w.heap.size+1+1+1+1+1))] 78).alloc (.map #[] 0)).alloc (.map #[] 0)).alloc (.map #[] 0)).alloc (.map #[] 0)).alloc (.map #[] 0))
 refine bodyPost_ret (results_mid1 rfl _ _ w.heap.size [.map (some (w.heap.size+1)),.map (some (w.heap.size+1+1)),.map (some (w.heap.size+1+1+1)),.slice none 0 0,.map (some (w.heap.size+1+1+1+1)),.map (some (w.heap.size+1+1+1+1+1))] _ rfl hB.range Tryz.underlying78 rfl pplSize) rfl ⟨rfl,⟨?_,?_,?_,?_,?_⟩,by simp,?_⟩
 ·exact heap_old _ _ _ _ (heap_old _ _ _ _ (heap_old _ _ _ _ (heap_old _ _ _ _ (heap_push _ _ _ (by simp)))))
 ·exact heap_old _ _ _ _ (heap_old _ _ _ _ (heap_old _ _ _ _ (heap_push _ _ _ (by simp))))
 ·exact heap_old _ _ _ _ (heap_old _ _ _ _ (heap_push _ _ _ (by simp)))
 ·exact heap_old _ _ _ _ (heap_push _ _ _ (by simp))
 ·exact heap_push _ _ _ (by simp)
 exact below_step (below_step (below_step (below_step (below_step (below_alloc _ _) (below_alloc _ _)) (below_alloc _ _)) (below_alloc _ _)) (below_alloc _ _)) (below_alloc _ _)
end Go.Proofs.YtcnfhnndppollaaGreatDoor
