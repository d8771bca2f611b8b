/- What the statements rest on: definitions and walks, part 09. -/
import Derived.Test.YtoojdkaimhlcbaaDoorJ08
set_option maxRecDepth 100000
set_option maxHeartbeats 16000000
set_option linter.unusedSimpArgs false
set_option linter.unusedVariables false
namespace Go.Proofs.YtoojdkaimhlcbaaDoor
open Go Go.RowKit Go.Maps
structure RyI (w:World) (s:Site) (n d:Int) (W:World):Prop where
 s:BoxAt W w.heap.size [.string s.name,.int .i64 s.kind,.int .i64 s.soil,.int .i64 s.depth,.int .i64 s.step,.int .i64 s.room]
 x:BoxAt W (w.heap.size+1) [.int .i64 n,.int .i64 d]
 bel:Below w.heap.size w W
theorem RyI.below {w:World} {s:Site} {n d:Int} {W W':World} (h:RyI w s n d W) (hb:Below W.heap.size W W'):RyI w s n d W':=⟨h.s.below hb,h.x.below hb,below_step h.bel hb⟩
theorem RyI.start (w:World) (s:Site) (n d:Int):RyI w s n d ((w.alloc (.cells #[.string s.name,.int .i64 s.kind,.int .i64 s.soil,.int .i64 s.depth,.int .i64 s.step,.int .i64 s.room] 23)).alloc (.cells #[.int .i64 n,.int .i64 d] 25)):=by
 have h:=BoxAt.new (w.alloc (.cells #[.string s.name,.int .i64 s.kind,.int .i64 s.soil,.int .i64 s.depth,.int .i64 s.step,.int .i64 s.room] 23)) #[.int .i64 n,.int .i64 d] 25
 rw[World.size_alloc] at h
 exact⟨(BoxAt.new w #[.string s.name,.int .i64 s.kind,.int .i64 s.soil,.int .i64 s.depth,.int .i64 s.step,.int .i64 s.room] 23).alloc _,h,below_step (below_alloc _ _) (below_alloc _ _)⟩
theorem RowsAt.far1 {w w':World} {b m:Nat} {rows:List (List Value)} {B:Nat} (h:RowsAt w (some ⟨b,0,none⟩) m rows) (hg:w.grownBy w' (some B)) (hne:b≠B):RowsAt w' (some ⟨b,0,none⟩) m rows:=fun k r hr=>by
 obtain⟨b',o,hA,hlt,hc⟩:=h k r hr
 cases hA
 exact⟨b,0,rfl,Nat.lt_of_lt_of_le hlt hg.size,fun j v hv=>(World.cell?_of_block (a:=⟨b,0+(k*m+j),none⟩) (hg.block b hlt (fun e=>hne (by cases e;rfl)))).trans (hc j v hv)⟩
structure RyJ (w:World) (s:Site) (n d:Int) (A B:Nat) (D:Int) (W:World):Prop where
 i:RyI w s n d W
 y:BoxAt W (A+1) [.slice (some ⟨A,0,none⟩) (Cal.yd1 s D).sites.length 1,.slice (some ⟨B,0,none⟩) (Cal.yd1 s D).rests.length 1,.int .i64 (Cal.yd1 s D).c0,.int .i64 (Cal.yd1 s D).c1,.int .i64 (Cal.yd1 s D).c2]
 yd:YdIn W (some ⟨A,0,none⟩) (some ⟨B,0,none⟩) (Cal.yd1 s D)
theorem RyJ.below {w:World} {s:Site} {n d:Int} {A B:Nat} {D:Int} {W W':World} (h:RyJ w s n d A B D W) (hb:Below W.heap.size W W'):RyJ w s n d A B D W':=⟨h.i.below hb,h.y.below hb,h.yd.below hb⟩
theorem one_max {b:UInt8}:(⟨#[b]⟩:ByteArray).size≤maxLen:=Nat.le_trans (show _≤1 from Nat.le_refl 1) (by unfold maxLen;omega)
section
variable (w : World) (s : Site) (n d : Int) (A B : Nat) (D : Int)
theorem addB_any (hs:Cal.siteErr s=0) (h3:s.kind≠3) (n0:0≤D) (n1:D≤100000) (d0:0≤d) (d1:d≤200000) (hnm:s.name.size≤maxLen) (W:World) (hJ:RyJ w s n d A B D W) :
  Calls Tryd.prog 10 #[.agg #[.slice (some ⟨A,0,none⟩) (Cal.yd1 s D).sites.length 1,.slice (some ⟨B,0,none⟩) (Cal.yd1 s D).rests.length 1,.int .i64 (Cal.yd1 s D).c0,.int .i64 (Cal.yd1 s D).c1,.int .i64 (Cal.yd1 s D).c2],.slice none 0 0,.agg #[.int .i64 (Cal.evB s d).day,.int .i64 (Cal.evB s d).kind,.string (Cal.evB s d).site,.int .i64 (Cal.evB s d).level,.string (Cal.evB s d).remain,.int .i64 (Cal.evB s d).cont,.bool (Cal.evB s d).order]] W fun e w'=>∃ A5 c5,e=.returned (.tuple #[.slice A5 1 c5,.int .i64 0])∧EvIn w' A5 [Cal.evB s d]∧Below W.heap.size W w':=by
 have h:=AddE_any (some ⟨A,0,none⟩) (some ⟨B,0,none⟩) 1 1 (Cal.yd1 s D) none 0 [] (Cal.evB s d) W hJ.yd (Nat.le_refl 1) ⟨fun k q hq=>(by cases hq),Nat.zero_le _,fun e he=>(by cases he)⟩ one_max hnm
 rw[Cal.rest_B hs h3 n0 n1 d0 d1] at h
 refine h.mono ?_
 rintro e w' ⟨v,rfl,hown,hb⟩
 obtain⟨A5,c5,rfl,hr⟩:=hown.form
 exact⟨A5,c5,rfl,⟨hr,by simp,fun e he=>by rw[List.mem_singleton.1 he];exact⟨one_max,hnm⟩⟩,hb⟩
theorem addG_any (g:Int) (hs:Cal.siteErr s=0) (h3:s.kind≠3) (n0:0≤D) (n1:D≤100000) (d0:0≤d) (d1:d≤200000) (hg:d≤g) (g1:g≤200000) (hnm:s.name.size≤maxLen) (W:World) (A5:Option Addr) (c5:Nat) (hJ:RyJ w s n d A B D W) (hE:EvIn W A5 [Cal.evB s d]) :
  Calls Tryd.prog 10 #[.agg #[.slice (some ⟨A,0,none⟩) (Cal.yd1 s D).sites.length 1,.slice (some ⟨B,0,none⟩) (Cal.yd1 s D).rests.length 1,.int .i64 (Cal.yd1 s D).c0,.int .i64 (Cal.yd1 s D).c1,.int .i64 (Cal.yd1 s D).c2],.slice A5 1 c5,.agg #[.int .i64 (Cal.evG g).day,.int .i64 (Cal.evG g).kind,.string (Cal.evG g).site,.int .i64 (Cal.evG g).level,.string (Cal.evG g).remain,.int .i64 (Cal.evG g).cont,.bool (Cal.evG g).order]] W fun e w'=>∃ v,e=.returned (.tuple #[v,.int .i64 (if g<d+D then 17 else 0)])∧Below W.heap.size W w':=by
 have h:=AddE_any (some ⟨A,0,none⟩) (some ⟨B,0,none⟩) 1 1 (Cal.yd1 s D) A5 c5 [Cal.evB s d] (Cal.evG g) W hJ.yd (Nat.le_refl 1) hE one_max (Nat.zero_le _)
 refine h.mono ?_
 rintro e w' ⟨v,rfl,_,hb⟩
 rw[Cal.rest_G hs h3 n0 n1 d0 d1 g1 hg]
 exact⟨v,rfl,hb⟩
theorem over_any (hs:Cal.siteErr s=0) (h3:s.kind≠3) (n0:0≤D) (n1:D≤100000) (d0:0≤d) (d1:d≤200000) (_:s.name.size≤maxLen) (W:World) (A5:Option Addr) (c5:Nat) (hJ:RyJ w s n d A B D W) (hE:EvIn W A5 [Cal.evB s d]) :
  Calls Tryd.prog 11 #[.agg #[.slice (some ⟨A,0,none⟩) (Cal.yd1 s D).sites.length 1,.slice (some ⟨B,0,none⟩) (Cal.yd1 s D).rests.length 1,.int .i64 (Cal.yd1 s D).c0,.int .i64 (Cal.yd1 s D).c1,.int .i64 (Cal.yd1 s D).c2],.slice A5 1 c5,.string ⟨#[120]⟩] W fun e w'=>e=.returned (.tuple #[.int .i64 (d+D),.int .i64 0])∧Below W.heap.size W w':=by
 have h:=RestOver_any (some ⟨A,0,none⟩) (some ⟨B,0,none⟩) 1 1 (Cal.yd1 s D) A5 c5 [Cal.evB s d] ⟨#[120]⟩ W hJ.yd (Nat.le_refl 1) hE one_max _ (Cal.read_B hs h3 n0 n1 d0 d1) (Cal.lotB s d) (by simp[Cal.lotOf,Cal.lastIx,Cal.bkB,Cal.lotB]) rfl s (Cal.siteOfY s D) d0 d1
 rw[Cal.over_B] at h
 exact h
end
theorem RestY_any (s:Site) (n d:Int) (w:World) (hnm:s.name.size≤maxLen) (hT:Tab w) :
  Calls Tryd.prog 3 #[.agg #[.string s.name,.int .i64 s.kind,.int .i64 s.soil,.int .i64 s.depth,.int .i64 s.step,.int .i64 s.room],.agg #[.int .i64 n,.int .i64 d]] w fun e w'=>e=.returned (.bool true)∧Below w.heap.size w w':=by
 have hI:=Lib.hid (RyI.start w s n d)
 have hT1:=Lib.hid (hT.below hI.out.bel)
 have hTz:=Lib.hid hT
 have hS:=Lib.hid (fun w1=>CheckSiteR_any s w1 hnm)
 (obtain⟨s0,s1,s2,s3⟩:=hI.out.s.c4;have s4:=hI.out.s.c 4 _ rfl;have s5:=hI.out.s.c 5 _ rfl;obtain⟨x0,x1⟩:=hI.out.x.c2)
 by_cases h3:s.kind=3
 ·have h3q:(s.kind == 3)=true:=by simp[h3]
  clear h3
  go_enter Tryd.func3,Tryd.ntmps3
  go_wp2_with (go_at_call 5;clear s0 s1 s2 s3 s4 s5 x0 x1;refine (grounds_any _ hT1.out).mono ?_;rintro e9 wn ⟨rfl,hbn⟩;replace hI:=Lib.hid (hI.out.below hbn);clear hbn;(obtain⟨s0,s1,s2,s3⟩:=hI.out.s.c4;have s4:=hI.out.s.c 4 _ rfl;have s5:=hI.out.s.c 5 _ rfl;obtain⟨x0,x1⟩:=hI.out.x.c2))
  go_ret
  exact⟨rfl,hI.out.bel⟩
 have h3q:(s.kind == 3)=false:=by simp[h3]
 have h3z:=Lib.hid h3
 clear h3
 by_cases hse:Cal.siteErr s=0
 ·have hse:=Lib.hid hse
  by_cases hn:0≤n∧n≤100
  ·obtain⟨n0,n1⟩:=hn
   by_cases hd:0≤d∧d≤200000
   ·obtain⟨d0,d1⟩:=hd
    have hA:=Lib.hid (fun w1 (h:Below w.heap.size w w1)=>AddMonths_any d (12*n) w1 (hT.below h))
    have hG:=Lib.hid (fun h=>Cal.years_gap n0 n1 (day:=d) h)
    have hR2:=Lib.hid (Cal.addS_err2 d (12*n))
    obtain⟨q,hq⟩:∃ q,q=Cal.addS d (12*n):=⟨_,rfl⟩
    rw[←hq] at hA hG hR2
    clear hq
    obtain⟨E,ec⟩:=q
    by_cases he:ec=0
    ·subst he
     obtain⟨_,gE,gE2,gEd,gE0,gE1⟩:=hG.out rfl
     go_enter Tryd.func3,Tryd.ntmps3
     go_upto_region 10 with (first
      |(go_at_call 5;clear s0 s1 s2 s3 s4 s5 x0 x1;refine (grounds_any _ hT1.out).mono ?_;rintro e9 wn ⟨rfl,hbn⟩;replace hI:=Lib.hid (hI.out.below hbn);clear hbn;(obtain⟨s0,s1,s2,s3⟩:=hI.out.s.c4;have s4:=hI.out.s.c 4 _ rfl;have s5:=hI.out.s.c 5 _ rfl;obtain⟨x0,x1⟩:=hI.out.x.c2))
      |(go_at_call 6;clear s0 s1 s2 s3 s4 s5 x0 x1;refine (hS.out _).mono ?_;rintro e9 wm ⟨rfl,hbm⟩;(try rw[hse.out]);replace hI:=Lib.hid (hI.out.below hbm);clear hbm;(obtain⟨s0,s1,s2,s3⟩:=hI.out.s.c4;have s4:=hI.out.s.c 4 _ rfl;have s5:=hI.out.s.c 5 _ rfl;obtain⟨x0,x1⟩:=hI.out.x.c2))
      |(go_at_call 7;refine rin ?_)
      |(go_at_call 8;refine rin ?_)
      |(go_at_call 9;clear s0 s1 s2 s3 s4 s5 x0 x1;refine (hA.out _ hI.out.bel).mono ?_;rintro e9 wk ⟨rfl,hbk⟩;replace hI:=Lib.hid (hI.out.below hbk);clear hbk;(obtain⟨s0,s1,s2,s3⟩:=hI.out.s.c4;have s4:=hI.out.s.c 4 _ rfl;have s5:=hI.out.s.c 5 _ rfl;obtain⟨x0,x1⟩:=hI.out.x.c2)))
     clear s0 s1 s2 s3 s4 s5 x0 x1
     have hAlt:=hI.out.x.lt
     have hI3:=hI.out.below (below_step (below_alloc wk (.cells #[.string s.name,.int .i64 s.kind,.int .i64 s.soil,.int .i64 s.depth,.int .i64 s.step,.int .i64 s.room] 23)) (below_alloc (wk.alloc (.cells #[.string s.name,.int .i64 s.kind,.int .i64 s.soil,.int .i64 s.depth,.int .i64 s.step,.int .i64 s.room] 23)) (.cells #[.slice (some ⟨wk.heap.size,0,none⟩) 1 1,.slice none 0 0,.int .i64 0,.int .i64 0,.int .i64 0] 37)))
     have hY3:=BoxAt.new (wk.alloc (.cells #[.string s.name,.int .i64 s.kind,.int .i64 s.soil,.int .i64 s.depth,.int .i64 s.step,.int .i64 s.room] 23)) #[.slice (some ⟨wk.heap.size,0,none⟩) 1 1,.slice none 0 0,.int .i64 0,.int .i64 0,.int .i64 0] 37
     have hS3:RowsAt ((wk.alloc (.cells #[.string s.name,.int .i64 s.kind,.int .i64 s.soil,.int .i64 s.depth,.int .i64 s.step,.int .i64 s.room] 23)).alloc (.cells #[.slice (some ⟨wk.heap.size,0,none⟩) 1 1,.slice none 0 0,.int .i64 0,.int .i64 0,.int .i64 0] 37)) (some ⟨wk.heap.size,0,none⟩) 6 ((Cal.yd1 s (E-d)).sites.map Site.cells):=(rows_lay wk ((Cal.yd1 s (E-d)).sites.map Site.cells) (site_wid _) _ rfl _).alloc _
     rw[World.size_alloc] at hY3
     obtain⟨WX3,hW3⟩:∃ WX3,(wk.alloc (.cells #[.string s.name,.int .i64 s.kind,.int .i64 s.soil,.int .i64 s.depth,.int .i64 s.step,.int .i64 s.room] 23)).alloc (.cells #[.slice (some ⟨wk.heap.size,0,none⟩) 1 1,.slice none 0 0,.int .i64 0,.int .i64 0,.int .i64 0] 37)=WX3:=⟨_,rfl⟩
     rw[hW3] at hI3 hY3 hS3 ⊢
     clear hW3
     generalize wk.heap.size=A at *
     replace hI:=Lib.hid hI3
     clear hI3
     have s2:=hI.out.s.c 2 _ rfl;have x1:=hI.out.x.c 1 _ rfl
     have hYa:=hY3.alloc (.cells #[.int .i64 s.soil,.int .i64 1,.int .i64 (E-d)] 39)
     have f1:=hYa.free 1 (by simp);have g1:=hYa.c 1 _ rfl
     have hYa:=Lib.hid hYa
     have hY3:=Lib.hid hY3
     have hS3:=Lib.hid hS3
     go_upto_region 11 with fail
     replace hI:=Lib.hid (hI.out.below (below_alloc WX3 (.cells #[.int .i64 s.soil,.int .i64 1,.int .i64 (E-d)] 39)))
     have hYb:=hYa.out.set 1 (.slice (some ⟨WX3.heap.size,0,none⟩) 1 1) (by simp)
     have hRb:=rows_lay WX3 ((Cal.yd1 s (E-d)).rests.map Rst.cells) (rest_wid _) _ rfl 39
     have hA1:=hY3.out.lt
     have hI4:RyI w s n d ((WX3.alloc (.cells #[.int .i64 s.soil,.int .i64 1,.int .i64 (E-d)] 39)).setCell ⟨A+1,1,none⟩ (.slice (some ⟨WX3.heap.size,0,none⟩) 1 1)):=⟨hI.out.s.grown (grown_set _ _ _ _) (by simp;omega),hI.out.x.grown (grown_set _ _ _ _) (by simp;omega),below_of_grownB hI.out.bel (grown_set _ _ _ _) (by omega)⟩
     have hS4:=(hS3.out.alloc (.cells #[.int .i64 s.soil,.int .i64 1,.int .i64 (E-d)] 39)).far1 (grown_set (WX3.alloc (.cells #[.int .i64 s.soil,.int .i64 1,.int .i64 (E-d)] 39)) (A+1) 1 (.slice (some ⟨WX3.heap.size,0,none⟩) 1 1)) (by omega)
     have hR4:=hRb.far1 (grown_set (WX3.alloc (.cells #[.int .i64 s.soil,.int .i64 1,.int .i64 (E-d)] 39)) (A+1) 1 (.slice (some ⟨WX3.heap.size,0,none⟩) 1 1)) (by omega)
     generalize WX3.heap.size=B at *
     obtain⟨X,hX⟩:∃ X,(WX3.alloc (.cells #[.int .i64 s.soil,.int .i64 1,.int .i64 (E-d)] 39)).setCell ⟨A+1,1,none⟩ (.slice (some ⟨B,0,none⟩) 1 1)=X:=⟨_,rfl⟩
     rw[hX] at hI4 hS4 hR4 hYb ⊢
     have hJ:Hid (RyJ w s n d A B (E-d) X):=⟨hI4,hYb,hS4,hR4,by simp[Cal.yd1],by simp[Cal.yd1],fun r hr=>by rw[List.mem_singleton.1 hr];exact hnm⟩
     clear hX hI4 hS4 hR4 hYb hRb hI hYa hY3 hS3 hA1 hAlt s2 x1 f1 g1
     clear hA hT1 hTz hT hS
     have hadd1:=Lib.hid (addB_any w s n d A B (E-d) hse.out h3z.out (by omega) gEd d0 d1 hnm)
     have hadd2:=Lib.hid (addG_any w s n d A B (E-d) E hse.out h3z.out (by omega) gEd d0 d1 gE gE2 hnm)
     have hadd3:=Lib.hid (addG_any w s n d A B (E-d) (max (E-1) d) hse.out h3z.out (by omega) gEd d0 d1 (Int.le_max_right _ _) (by omega) hnm)
     have hover:=Lib.hid (over_any w s n d A B (E-d) hse.out h3z.out (by omega) gEd d0 d1 hnm)
     rw[if_neg (by omega)] at hadd2
     rw[show d+(E-d)=E by omega] at hover
     (have s0:=hJ.out.i.s.c 0 _ rfl;obtain⟨x0,x1⟩:=hJ.out.i.x.c2;obtain⟨y0,y1,y2,y3⟩:=hJ.out.y.c4;have y4:=hJ.out.y.c 4 _ rfl)
     go_upto_region 14 with (go_at_call 10;clear s0 x0 x1 y0 y1 y2 y3 y4;refine (hadd1.out X hJ.out).mono ?_;rintro e9 w5 ⟨A5,c5,rfl,hE5,hb5⟩;replace hJ:=Lib.hid (hJ.out.below hb5);have hE5:=Lib.hid hE5;clear hb5;(have s0:=hJ.out.i.s.c 0 _ rfl;obtain⟨x0,x1⟩:=hJ.out.i.x.c2;obtain⟨y0,y1,y2,y3⟩:=hJ.out.y.c4;have y4:=hJ.out.y.c 4 _ rfl))
     go_upto_region 17 with (go_at_call 10;clear s0 x0 x1 y0 y1 y2 y3 y4;refine (hadd2.out w5 A5 c5 hJ.out hE5.out).mono ?_;rintro e9 w6 ⟨v6,rfl,hb6⟩;replace hJ:=Lib.hid (hJ.out.below hb6);replace hE5:=Lib.hid (hE5.out.below hb6);clear hb6;(have s0:=hJ.out.i.s.c 0 _ rfl;obtain⟨x0,x1⟩:=hJ.out.i.x.c2;obtain⟨y0,y1,y2,y3⟩:=hJ.out.y.c4;have y4:=hJ.out.y.c 4 _ rfl))
     go_upto_region 20 with (go_at_call 11;clear s0 x0 x1 y0 y1 y2 y3 y4;refine (hover.out w6 A5 c5 hJ.out hE5.out).mono ?_;rintro e9 w7 ⟨rfl,hb7⟩;replace hJ:=Lib.hid (hJ.out.below hb7);replace hE5:=Lib.hid (hE5.out.below hb7);clear hb7;(have s0:=hJ.out.i.s.c 0 _ rfl;obtain⟨x0,x1⟩:=hJ.out.i.x.c2;obtain⟨y0,y1,y2,y3⟩:=hJ.out.y.c4;have y4:=hJ.out.y.c 4 _ rfl))
     go_upto_region 21 with (go_at_call 10;clear s0 x0 x1 y0 y1 y2 y3 y4;refine (hadd3.out w7 A5 c5 hJ.out hE5.out).mono ?_;rintro e9 w8 ⟨v8,rfl,hb8⟩;replace hJ:=Lib.hid (hJ.out.below hb8);clear hb8;(have s0:=hJ.out.i.s.c 0 _ rfl;obtain⟨x0,x1⟩:=hJ.out.i.x.c2;obtain⟨y0,y1,y2,y3⟩:=hJ.out.y.c4;have y4:=hJ.out.y.c 4 _ rfl))
     by_cases hz:n=0
     ·have hq1:(n == 0)=true:=by simp[hz]
      have hq2:decide (0<n)=false:=by simp[hz]
      have hq3:(max (E-1) d<d+(E-d))=False:=by have:=gE0 hz;simp;omega
      simp only[hq3,if_false]
      go_wp2
      go_ret
      exact⟨rfl,hJ.out.i.bel⟩
     have hq1:(n == 0)=false:=by simp[hz]
     have hq2:decide (0<n)=true:=decide_eq_true (by omega)
     have hq3:(max (E-1) d<d+(E-d))=True:=by have:=gE1 (by omega);simp;omega
     simp only[hq3,if_true]
     go_wp2
     go_ret
     exact⟨rfl,hJ.out.i.bel⟩
    have he2:ec=2:=by rcases hR2.out with h | h;exact absurd h he;exact h
    subst he2
    go_enter Tryd.func3,Tryd.ntmps3
    go_wp2_with (first
     |(go_at_call 5;clear s0 s1 s2 s3 s4 s5 x0 x1;refine (grounds_any _ hT1.out).mono ?_;rintro e9 wn ⟨rfl,hbn⟩;replace hI:=Lib.hid (hI.out.below hbn);clear hbn;(obtain⟨s0,s1,s2,s3⟩:=hI.out.s.c4;have s4:=hI.out.s.c 4 _ rfl;have s5:=hI.out.s.c 5 _ rfl;obtain⟨x0,x1⟩:=hI.out.x.c2))
     |(go_at_call 6;clear s0 s1 s2 s3 s4 s5 x0 x1;refine (hS.out _).mono ?_;rintro e9 wm ⟨rfl,hbm⟩;(try rw[hse.out]);replace hI:=Lib.hid (hI.out.below hbm);clear hbm;(obtain⟨s0,s1,s2,s3⟩:=hI.out.s.c4;have s4:=hI.out.s.c 4 _ rfl;have s5:=hI.out.s.c 5 _ rfl;obtain⟨x0,x1⟩:=hI.out.x.c2))
     |(go_at_call 7;refine rin ?_)
     |(go_at_call 8;refine rin ?_)
     |(go_at_call 9;clear s0 s1 s2 s3 s4 s5 x0 x1;refine (hA.out _ hI.out.bel).mono ?_;rintro e9 wk ⟨rfl,hbk⟩;replace hI:=Lib.hid (hI.out.below hbk);clear hbk;(obtain⟨s0,s1,s2,s3⟩:=hI.out.s.c4;have s4:=hI.out.s.c 4 _ rfl;have s5:=hI.out.s.c 5 _ rfl;obtain⟨x0,x1⟩:=hI.out.x.c2)))
    go_ret
    exact⟨rfl,hI.out.bel⟩
   go_enter Tryd.func3,Tryd.ntmps3
   go_wp2_with (first
    |(go_at_call 5;clear s0 s1 s2 s3 s4 s5 x0 x1;refine (grounds_any _ hT1.out).mono ?_;rintro e9 wn ⟨rfl,hbn⟩;replace hI:=Lib.hid (hI.out.below hbn);clear hbn;(obtain⟨s0,s1,s2,s3⟩:=hI.out.s.c4;have s4:=hI.out.s.c 4 _ rfl;have s5:=hI.out.s.c 5 _ rfl;obtain⟨x0,x1⟩:=hI.out.x.c2))
    |(go_at_call 6;clear s0 s1 s2 s3 s4 s5 x0 x1;refine (hS.out _).mono ?_;rintro e9 wm ⟨rfl,hbm⟩;(try rw[hse.out]);replace hI:=Lib.hid (hI.out.below hbm);clear hbm;(obtain⟨s0,s1,s2,s3⟩:=hI.out.s.c4;have s4:=hI.out.s.c 4 _ rfl;have s5:=hI.out.s.c 5 _ rfl;obtain⟨x0,x1⟩:=hI.out.x.c2))
    |(go_at_call 7;refine rin ?_)
    |(go_at_call 8;refine rout ?_))
   go_ret
   exact⟨rfl,hI.out.bel⟩
  go_enter Tryd.func3,Tryd.ntmps3
  go_wp2_with (first
   |(go_at_call 5;clear s0 s1 s2 s3 s4 s5 x0 x1;refine (grounds_any _ hT1.out).mono ?_;rintro e9 wn ⟨rfl,hbn⟩;replace hI:=Lib.hid (hI.out.below hbn);clear hbn;(obtain⟨s0,s1,s2,s3⟩:=hI.out.s.c4;have s4:=hI.out.s.c 4 _ rfl;have s5:=hI.out.s.c 5 _ rfl;obtain⟨x0,x1⟩:=hI.out.x.c2))
   |(go_at_call 6;clear s0 s1 s2 s3 s4 s5 x0 x1;refine (hS.out _).mono ?_;rintro e9 wm ⟨rfl,hbm⟩;(try rw[hse.out]);replace hI:=Lib.hid (hI.out.below hbm);clear hbm;(obtain⟨s0,s1,s2,s3⟩:=hI.out.s.c4;have s4:=hI.out.s.c 4 _ rfl;have s5:=hI.out.s.c 5 _ rfl;obtain⟨x0,x1⟩:=hI.out.x.c2))
   |(go_at_call 7;refine rout ?_))
  go_ret
  exact⟨rfl,hI.out.bel⟩
 have hseq:(Cal.siteErr s != 0)=true:=by simp[hse]
 clear hse
 go_enter Tryd.func3,Tryd.ntmps3
 go_wp2_with (first
  |(go_at_call 5;clear s0 s1 s2 s3 s4 s5 x0 x1;refine (grounds_any _ hT1.out).mono ?_;rintro e9 wn ⟨rfl,hbn⟩;replace hI:=Lib.hid (hI.out.below hbn);clear hbn;(obtain⟨s0,s1,s2,s3⟩:=hI.out.s.c4;have s4:=hI.out.s.c 4 _ rfl;have s5:=hI.out.s.c 5 _ rfl;obtain⟨x0,x1⟩:=hI.out.x.c2))
  |(go_at_call 6;clear s0 s1 s2 s3 s4 s5 x0 x1;refine (hS.out _).mono ?_;rintro e9 wm ⟨rfl,hbm⟩;(try rw[hse.out]);replace hI:=Lib.hid (hI.out.below hbm);clear hbm;(obtain⟨s0,s1,s2,s3⟩:=hI.out.s.c4;have s4:=hI.out.s.c 4 _ rfl;have s5:=hI.out.s.c 5 _ rfl;obtain⟨x0,x1⟩:=hI.out.x.c2)))
 go_ret
 exact⟨rfl,hI.out.bel⟩
end Go.Proofs.YtoojdkaimhlcbaaDoor
