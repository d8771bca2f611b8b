/- What the statements rest on: definitions and walks, part 14. -/
import Derived.Test.YtcnfhnndppollaaDoorJ13
set_option maxRecDepth 100000
set_option maxHeartbeats 16000000
set_option linter.unusedSimpArgs false
set_option linter.unusedVariables false
namespace Go.Proofs.YtcnfhnndppollaaDoor
open Go Go.RowKit Go.Maps
def awayB (n:ByteArray) (x:Lot):Bool:=decide (x.remain≠n)
theorem fl_no {l:List Lot} {p:Lot→Bool} {i:Nat} {x:Lot} (hi:l[i]?=some x) (h:p x=false):((l.take (i+1)).filter p).length=((l.take i).filter p).length:=by
 rw[List.take_add_one,hi]
 simp[h]
theorem fl_yes {l:List Lot} {p:Lot→Bool} {i:Nat} {x:Lot} (hi:l[i]?=some x) (h:p x=true):((l.take (i+1)).filter p).length=((l.take i).filter p).length+1:=by
 rw[List.take_add_one,hi]
 simp[h]
theorem fl_at {l m:List Lot} {p:Lot→Bool} {i:Nat} {x:Lot} (hm:l.filter p=m) (hi:l[i]?=some x) (h:p x=true):m[((l.take i).filter p).length]?=some x:=by
 obtain⟨hlt,rfl⟩:=List.getElem?_eq_some_iff.1 hi
 have key:l.filter p=(l.take i).filter p ++ l[i] :: (l.drop (i+1)).filter p:=by
  have h1:l.filter p=(l.take i ++ l[i] :: l.drop (i+1)).filter p:=by rw[←List.drop_eq_getElem_cons hlt,List.take_append_drop]
  rw[h1,List.filter_append,List.filter_cons,if_pos h]
 rw[←hm,key,List.getElem?_append_right (Nat.le_refl _)]
 simp
theorem ev_snoc {l:List Ev} {x:Ev} {w:World} {E:Option Addr} {E5:Option Addr} {w':World} (hE:EvIn w E l) (hl:l.length≤400) (hn1:x.remain.size≤maxLen) (hn2:x.site.size≤maxLen) (hr:RowsAt w' E5 7 ((l ++ [x]).map Ev.cells)):EvIn w' E5 (l ++ [x]) :=
 ⟨hr,by simp;omega,fun e he=>by
  rcases List.mem_append.1 he with h | h
  ·exact hE.nm e h
  rw[List.mem_singleton.1 h];exact⟨hn1,hn2⟩⟩
def AdOk (w:World) (l:List Ev) (x:Ev) (e:Ending) (w':World):Prop:=∃ (A:Option Addr) (k M:Nat),e=.returned (.tuple #[.slice A M k,.int .i64 0])∧M=(l ++ [x]).length∧EvIn w' A (l ++ [x])∧Below w.heap.size w w'
def AdNo (w:World) (n:Int) (e:Ending) (w':World):Prop:=∃ v,e=.returned (.tuple #[v,.int .i64 n])∧Below w.heap.size w w'
def FrR (w:World) (L:List Bth) (e:Ending) (w':World):Prop:=∃ (A:Option Addr) (k:Nat),e=.returned (.tuple #[.slice A L.length k,.int .i64 0])∧RowsAt w' A 2 (L.map Bth.cells)∧Below w.heap.size w w'
def OnR (w:World) (L:List Lot) (e:Ending) (w':World):Prop:=∃ (A:Option Addr) (k:Nat) (ts:List Lot),e=.returned (.tuple #[.slice A ts.length k,.int .i64 0])∧ts.Perm L∧ts.Pairwise (fun a b:Lot=>¬b.remain.data.toList<a.remain.data.toList)∧RowsAt w' A 6 (ts.map Lot.cells)∧Below w.heap.size w w'
def WhP (w:World) (t:Lot) (e:Ending) (w':World):Prop:=e=.returned (.tuple #[.agg #[.string t.remain,.int .i64 t.state,.string t.site,.int .i64 t.level,.int .i64 t.cont,.int .i64 t.since],.int .i64 0])∧Below w.heap.size w w'
section
variable (S R : Option Addr) (c d : Nat) (y : Yd) (E : Option Addr) (ec : Nat) (l : List Ev) (N : Nat) (w : World)
theorem add_ok (hN:N=l.length) (x:Ev) (hY:YdIn w S R y) (hcap:y.sites.length≤c) (hE:EvIn w E l) (hl:l.length≤400) (hn1:x.remain.size≤maxLen) (hn2:x.site.size≤maxLen) (h:Cal.grvAdd y l x=(l ++ [x],0)) :
  Calls Tryd.prog 8 #[.agg #[.slice S y.sites.length c,.slice R y.rests.length d,.int .i64 y.c0,.int .i64 y.c1,.int .i64 y.c2],.slice E N ec,.agg #[.int .i64 x.day,.int .i64 x.kind,.string x.site,.int .i64 x.level,.string x.remain,.int .i64 x.cont,.bool x.order]] w (AdOk w l x):=by
 subst hN
 have hA:=AddE_any S R c d y E ec l x w hY hcap hE hn1 hn2
 rw[h] at hA
 refine hA.mono ?_
 rintro e w' ⟨v,rfl,hown,hb⟩
 obtain⟨A5,c5,hv,hr⟩:=hown.form
 rw[List.length_map] at hv
 subst hv
 exact⟨A5,c5,_,rfl,rfl,ev_snoc hE hl hn1 hn2 hr,hb⟩
theorem add_no (hN:N=l.length) (x:Ev) (n:Int) (hY:YdIn w S R y) (hcap:y.sites.length≤c) (hE:EvIn w E l) (hn1:x.remain.size≤maxLen) (hn2:x.site.size≤maxLen) (h:(Cal.grvAdd y l x).2=n) :
  Calls Tryd.prog 8 #[.agg #[.slice S y.sites.length c,.slice R y.rests.length d,.int .i64 y.c0,.int .i64 y.c1,.int .i64 y.c2],.slice E N ec,.agg #[.int .i64 x.day,.int .i64 x.kind,.string x.site,.int .i64 x.level,.string x.remain,.int .i64 x.cont,.bool x.order]] w (AdNo w n):=by
 subst hN
 refine (AddE_any S R c d y E ec l x w hY hcap hE hn1 hn2).mono ?_
 rintro e w' ⟨v,rfl,hown,hb⟩
 rw[h]
 exact⟨v,rfl,hb⟩
theorem free_rows (hN:N=l.length) (cont day:Int) (hY:YdIn w S R y) (hcap:y.sites.length≤c) (hE:EvIn w E l) (bk:Bk) (hr:Cal.bkRead y l=(bk,0)) (hd:bk.day≤day) (d0:0≤day) (d1:day≤200000) (n0:0≤cont) (n1:cont≤2) (L:List Bth) (hL:Cal.freeL y bk.stays cont=L) :
  Calls Tryd.prog 10 #[.agg #[.slice S y.sites.length c,.slice R y.rests.length d,.int .i64 y.c0,.int .i64 y.c1,.int .i64 y.c2],.slice E N ec,.int .i64 cont,.int .i64 day] w (FrR w L):=by
 subst hL
 subst hN
 refine (Free_any S R c d y E ec l cont day w hY hcap hE bk hr hd d0 d1 n0 n1).mono ?_
 rintro e w' ⟨v,rfl,hown,hb⟩
 obtain⟨A5,c5,hv,hr⟩:=hown.form
 rw[List.length_map] at hv
 subst hv
 exact⟨A5,c5,rfl,hr,hb⟩
theorem on_rows (hN:N=l.length) (day:Int) (hY:YdIn w S R y) (hcap:y.sites.length≤c) (hE:EvIn w E l) (bk:Bk) (hr:Cal.bkRead y l=(bk,0)) (hd:bk.day≤day) (d0:0≤day) (d1:day≤200000) (L:List Lot) (hL:nowL bk.stays=L) :
  Calls Tryd.prog 12 #[.agg #[.slice S y.sites.length c,.slice R y.rests.length d,.int .i64 y.c0,.int .i64 y.c1,.int .i64 y.c2],.slice E N ec,.int .i64 day] w (OnR w L):=by
 subst hL
 subst hN
 refine (gOn_any S R c d y E ec l day w hY hcap hE bk hr hd d0 d1).mono ?_
 rintro e w' ⟨v,ts,rfl,h1,h2,hown,hb⟩
 obtain⟨A5,c5,hv,hr⟩:=hown.form
 rw[List.length_map] at hv
 subst hv
 exact⟨A5,c5,ts,rfl,h1,h2,hr,hb⟩
theorem where_ok (hN:N=l.length) (n:ByteArray) (day:Int) (hY:YdIn w S R y) (hcap:y.sites.length≤c) (hE:EvIn w E l) (hn:n.size≤maxLen) (bk:Bk) (hr:Cal.bkRead y l=(bk,0)) (hd:bk.day≤day) (d0:0≤day) (d1:day≤200000) (t:Lot) (ht:Cal.lotOf bk.stays n=some t) :
  Calls Tryd.prog 9 #[.agg #[.slice S y.sites.length c,.slice R y.rests.length d,.int .i64 y.c0,.int .i64 y.c1,.int .i64 y.c2],.slice E N ec,.string n,.int .i64 day] w (WhP w t):=by
 subst hN
 exact Where_any S R c d y E ec l n day w hY hcap hE hn bk hr hd d0 d1 t ht
end
theorem Undone_any (S R:Option Addr) (c d:Nat) (y:Yd) (E:Option Addr) (ec:Nat) (l:List Ev) (e:Ev) (w:World) (hS:RowsAt w S 6 (y.sites.map Site.cells)) (hR:RowsAt w R 3 (y.rests.map Rst.cells)) (hsn:∀ s∈y.sites,s.name.size≤maxLen) (hcap:y.sites.length≤c) (hE:RowsAt w E 7 (l.map Ev.cells)) (hen:∀ e∈l,e.remain.size≤maxLen∧e.site.size≤maxLen) (hn1:e.remain.size≤maxLen) (hn2:e.site.size≤maxLen) (hT:Tab w) :
  Calls Tryd.prog 3 #[.agg #[.slice S y.sites.length c,.slice R y.rests.length d,.int .i64 y.c0,.int .i64 y.c1,.int .i64 y.c2],.slice E l.length ec,.agg #[.int .i64 e.day,.int .i64 e.kind,.string e.site,.int .i64 e.level,.string e.remain,.int .i64 e.cont,.bool e.order]] w fun e' w'=>e'=.returned (.bool true)∧Below w.heap.size w w':=by
 have hI:=Lib.hid (RfI.start w S R c d y e)
 have hT1:=Lib.hid (fun W (h:Below w.heap.size w W)=>hT.below h)
 have hSz:=Lib.hid (fun W (h:Below w.heap.size w W)=>hS.below h)
 have hYq:=Lib.hid (fun (h1:y.sites.length≤63) (h2:y.rests.length≤43)=>(⟨hS,hR,by omega,by omega,hsn⟩:YdIn w S R y))
 have hEz0:=Lib.hid (fun W (h:Below w.heap.size w W)=>hE.below h)
 have hEq:=Lib.hid (fun (h1:l.length≤303)=>(⟨hE,by omega,hen⟩:EvIn w E l))
 have hn1:=Lib.hid hn1
 have hn2:=Lib.hid hn2
 clear hS hR hsn hE hen hT
 (obtain⟨y0,y1,y2,y3⟩:=hI.out.y.c4;have y4:=hI.out.y.c 4 _ rfl;obtain⟨e0,e1,e2,e3⟩:=hI.out.e.c4;have e4:=hI.out.e.c 4 _ rfl;have e5:=hI.out.e.c 5 _ rfl;have e6:=hI.out.e.c 6 _ rfl)
 go_enter Tryd.func3,Tryd.ntmps3
 go_wp2_with (first
  |(go_at_call 4;clear y0 y1 y2 y3 y4 e0 e1 e2 e3 e4 e5 e6;refine (grounds_any _ (hT1.out _ hI.out.bel)).mono ?_;rintro e9 wn ⟨rfl,hbn⟩;(replace hI:=Lib.hid (hI.out.below hbn);clear hbn);(obtain⟨y0,y1,y2,y3⟩:=hI.out.y.c4;have y4:=hI.out.y.c 4 _ rfl;obtain⟨e0,e1,e2,e3⟩:=hI.out.e.c4;have e4:=hI.out.e.c 4 _ rfl;have e5:=hI.out.e.c 5 _ rfl;have e6:=hI.out.e.c 6 _ rfl))
  |(go_at_call 5;clear y0 y1 y2 y3 y4 e0 e1 e2 e3 e4 e5 e6;refine (Small3_any S R c d y _ (hSz.out _ hI.out.bel)).mono ?_;rintro e9 wn ⟨b1,rfl,hsm,hbn⟩;have hsm:=Lib.hid hsm;(replace hI:=Lib.hid (hI.out.below hbn);clear hbn);(obtain⟨y0,y1,y2,y3⟩:=hI.out.y.c4;have y4:=hI.out.y.c 4 _ rfl;obtain⟨e0,e1,e2,e3⟩:=hI.out.e.c4;have e4:=hI.out.e.c 4 _ rfl;have e5:=hI.out.e.c 5 _ rfl;have e6:=hI.out.e.c 6 _ rfl);cases b1))
 ·go_wp2_with fail
  go_ret
  exact⟨rfl,hI.out.bel⟩
 have hYY:=hYq.out (hsm.out trivial).1 (hsm.out trivial).2
 have hYz:=Lib.hid (fun W (h:Below w.heap.size w W)=>hYY.below h)
 clear hYq hSz hsm hYY
 go_wp2_with (go_at_call 6;clear y0 y1 y2 y3 y4 e0 e1 e2 e3 e4 e5 e6;refine (Few3_any E ec l _ (hEz0.out _ hI.out.bel)).mono ?_;rintro e9 wn ⟨b1,rfl,hfew,hbn⟩;have hfew:=Lib.hid hfew;(replace hI:=Lib.hid (hI.out.below hbn);clear hbn);(obtain⟨y0,y1,y2,y3⟩:=hI.out.y.c4;have y4:=hI.out.y.c 4 _ rfl;obtain⟨e0,e1,e2,e3⟩:=hI.out.e.c4;have e4:=hI.out.e.c 4 _ rfl;have e5:=hI.out.e.c 5 _ rfl;have e6:=hI.out.e.c 6 _ rfl);cases b1)
 ·go_wp2_with fail
  go_ret
  exact⟨rfl,hI.out.bel⟩
 have hEE:=hEq.out (hfew.out trivial).2
 have hEz:=Lib.hid (fun W (h:Below w.heap.size w W)=>hEE.below h)
 have hl3:=(hfew.out trivial).2
 replace hfew:=(hfew.out trivial).1
 clear hEq hEz0 hEE
 by_cases z1:30<(e.site.size:Int)
 ·go_wp2_with (go_at_call 7;clear y0 y1 y2 y3 y4 e0 e1 e2 e3 e4 e5 e6;refine (CheckR_any S R c d y E ec l _ (hYz.out _ hI.out.bel) (hEz.out _ hI.out.bel)).mono ?_;rintro e9 wn ⟨i,rfl,hbn⟩;(replace hI:=Lib.hid (hI.out.below hbn);clear hbn);(obtain⟨y0,y1,y2,y3⟩:=hI.out.y.c4;have y4:=hI.out.y.c 4 _ rfl;obtain⟨e0,e1,e2,e3⟩:=hI.out.e.c4;have e4:=hI.out.e.c 4 _ rfl;have e5:=hI.out.e.c 5 _ rfl;have e6:=hI.out.e.c 6 _ rfl);rcases (show (i != 0)=true∨(i != 0)=false by cases (i != 0) <;> simp) with hzq | hzq)
  all_goals (try go_wp2_with fail)
  all_goals (go_ret;exact⟨rfl,hI.out.bel⟩)
 by_cases z2:30<(e.remain.size:Int)
 ·go_wp2_with (go_at_call 7;clear y0 y1 y2 y3 y4 e0 e1 e2 e3 e4 e5 e6;refine (CheckR_any S R c d y E ec l _ (hYz.out _ hI.out.bel) (hEz.out _ hI.out.bel)).mono ?_;rintro e9 wn ⟨i,rfl,hbn⟩;(replace hI:=Lib.hid (hI.out.below hbn);clear hbn);(obtain⟨y0,y1,y2,y3⟩:=hI.out.y.c4;have y4:=hI.out.y.c 4 _ rfl;obtain⟨e0,e1,e2,e3⟩:=hI.out.e.c4;have e4:=hI.out.e.c 4 _ rfl;have e5:=hI.out.e.c 5 _ rfl;have e6:=hI.out.e.c 6 _ rfl);rcases (show (i != 0)=true∨(i != 0)=false by cases (i != 0) <;> simp) with hzq | hzq)
  all_goals (try go_wp2_with fail)
  all_goals (go_ret;exact⟨rfl,hI.out.bel⟩)
 by_cases k0:e.kind=0
 ·have kq:(e.kind != 0)=false:=by simp[k0]
  by_cases hz:(Cal.grvAdd y l e).2=0
  ·obtain⟨bk,t,hU⟩:=undo k0 hfew hz
   have hM1:=Lib.hid (fun W (h:Below w.heap.size w W)=>add_ok S R c d y E ec l _ W rfl e (hYz.out W h) hcap (hEz.out W h) (by omega) hn1.out hn2.out hU.add)
   have hW1:=Lib.hid (fun W (h:Below w.heap.size w W) A5 c5 N5 (hN5:N5=(l ++ [e]).length) (hM:EvIn W A5 (l ++ [e]))=>where_ok S R c d y A5 c5 (l ++ [e]) N5 W hN5 e.remain e.day (hYz.out W h) hcap hM hn1.out _ hU.read1 (Int.le_refl _) hU.lo hU.hi t hU.lot)
   clear hz k0 hfew
   go_wp2_with (go_at_call 7;clear y0 y1 y2 y3 y4 e0 e1 e2 e3 e4 e5 e6;refine (CheckR_any S R c d y E ec l _ (hYz.out _ hI.out.bel) (hEz.out _ hI.out.bel)).mono ?_;rintro e9 wn ⟨i,rfl,hbn⟩;(replace hI:=Lib.hid (hI.out.below hbn);clear hbn);(obtain⟨y0,y1,y2,y3⟩:=hI.out.y.c4;have y4:=hI.out.y.c 4 _ rfl;obtain⟨e0,e1,e2,e3⟩:=hI.out.e.c4;have e4:=hI.out.e.c 4 _ rfl;have e5:=hI.out.e.c 5 _ rfl;have e6:=hI.out.e.c 6 _ rfl);rcases (show (i != 0)=true∨(i != 0)=false by cases (i != 0) <;> simp) with hzq | hzq)
   ·(try go_wp2_with fail)
    go_ret
    exact⟨rfl,hI.out.bel⟩
   go_upto_region 8 with (go_at_call 8;clear y0 y1 y2 y3 y4 e0 e1 e2 e3 e4 e5 e6;have hq9:=hM1.out _ hI.out.bel;refine hq9.mono ?_;clear hq9;rintro e9 wn ⟨A5,c5,N5,rfl,hN5,hM,hbn⟩;replace hN5:=Lib.hid hN5;(replace hI:=Lib.hid (hI.out.below hbn);clear hbn);replace hM:=Lib.hid hM;(obtain⟨y0,y1,y2,y3⟩:=hI.out.y.c4;have y4:=hI.out.y.c 4 _ rfl;obtain⟨e0,e1,e2,e3⟩:=hI.out.e.c4;have e4:=hI.out.e.c 4 _ rfl;have e5:=hI.out.e.c 5 _ rfl;have e6:=hI.out.e.c 6 _ rfl))
   go_upto_region 11 with (go_at_call 9;clear y0 y1 y2 y3 y4 e0 e1 e2 e3 e4 e5 e6;have hq9:=hW1.out _ hI.out.bel A5 c5 N5 hN5.out hM.out;refine hq9.mono ?_;clear hq9;rintro e9 wm ⟨rfl,hbm⟩;replace hM:=Lib.hid ((hM.out.below hbm).below (below_alloc wm (.cells #[.string t.remain,.int .i64 t.state,.string t.site,.int .i64 t.level,.int .i64 t.cont,.int .i64 t.since] 38)));have hB:=Lib.hid (BoxAt.new wm #[.string t.remain,.int .i64 t.state,.string t.site,.int .i64 t.level,.int .i64 t.cont,.int .i64 t.since] 38);replace hI:=Lib.hid ((hI.out.below hbm).below (below_alloc wm (.cells #[.string t.remain,.int .i64 t.state,.string t.site,.int .i64 t.level,.int .i64 t.cont,.int .i64 t.since] 38)));clear hbm)
   clear hM1 hW1
   generalize wm.alloc (.cells #[.string t.remain,.int .i64 t.state,.string t.site,.int .i64 t.level,.int .i64 t.cont,.int .i64 t.since] 38)=wo at *
   generalize wm.heap.size=O at *
   (obtain⟨y0,y1,y2,y3⟩:=hI.out.y.c4;have y4:=hI.out.y.c 4 _ rfl;obtain⟨e0,e1,e2,e3⟩:=hI.out.e.c4;have e4:=hI.out.e.c 4 _ rfl;have e5:=hI.out.e.c 5 _ rfl;have e6:=hI.out.e.c 6 _ rfl)
   have t1:=hB.out.c 1 _ rfl
   have hmn:∀ W,EvIn W A5 (l ++ [e])→(l ++ [e]).length≤400:=fun W _=>by simp;omega
   have hx1:(Cal.exhume e).remain.size≤maxLen:=hn1.out
   have hx2:(Cal.exhume e).site.size≤maxLen:=Nat.zero_le _
   rcases hU.out with ⟨h3,hA⟩ | ⟨h1,hA,hR2⟩
   ·have q3:(t.state == 3)=true:=by simp[h3]
    have hN:=Lib.hid (add_no S R c d y A5 c5 (l ++ [e]) N5 wo hN5.out (Cal.exhume e) 28 (hYz.out _ hI.out.bel) hcap hM.out hx1 hx2 (by rw[hA]))
    clear h3 hA
    go_wp2_with (go_at_call 8;clear y0 y1 y2 y3 y4 e0 e1 e2 e3 e4 e5 e6;clear t1;have hq9:=hN.out;refine hq9.mono ?_;clear hq9;rintro e9 wk ⟨v,rfl,hbk⟩;replace hB:=Lib.hid (hB.out.below hbk);(replace hI:=Lib.hid (hI.out.below hbk);clear hbk);have t1:=hB.out.c 1 _ rfl)
    go_ret
    exact⟨rfl,hI.out.bel⟩
   have q3:(t.state == 3)=false:=by simp[h1]
   have hN:=Lib.hid (add_ok S R c d y A5 c5 (l ++ [e]) N5 wo hN5.out (Cal.exhume e) (hYz.out _ hI.out.bel) hcap hM.out (by simp;omega) hx1 hx2 hA)
   clear h1 hA
   go_upto_region 17 with (go_at_call 8;clear y0 y1 y2 y3 y4 e0 e1 e2 e3 e4 e5 e6;clear t1;have hq9:=hN.out;refine hq9.mono ?_;clear hq9;rintro e9 wk ⟨A6,c6,N6,rfl,hN6,hM6,hbk⟩;replace hN6:=Lib.hid hN6;replace hB:=Lib.hid (hB.out.below hbk);(replace hI:=Lib.hid (hI.out.below hbk);clear hbk);have t1:=hB.out.c 1 _ rfl)
   clear t1 hB hN hM
   replace hM6:=Lib.hid hM6
   have hUz:=Lib.hid hU
   have hR2z:=Lib.hid hR2
   have hy60:=(bkRead_ok hU.read).1
   have hLl:=Lib.hid (fun (n:Int)=>(show (Cal.freeL y bk.stays n).length≤1000000 by
    have h1:=rowsF_len (y:=y) (st:=bk.stays) (cont:=n) (fun s hs=>(siteErr_all (yard_sites hy60 s hs)).2) y.sites.length
    rw[rowsF_all] at h1
    have h2:=yard_len hy60
    omega))
   clear hU hR2 hy60
   have hFa:=Lib.hid (fun (n:Nat) (hn:n<3) W (h:Below w.heap.size w W)=>free_rows S R c d y E ec l _ W rfl (n:Int) e.day (hYz.out W h) hcap (hEz.out W h) bk hUz.out.read hUz.out.day hUz.out.lo hUz.out.hi (by omega) (by omega) _ rfl)
   have hFb:=Lib.hid (fun (n:Nat) (hn:n<3) W (h:Below w.heap.size w W) (hM:EvIn W A6 (l ++ [e] ++ [Cal.exhume e]))=>free_rows S R c d y A6 c6 (l ++ [e] ++ [Cal.exhume e]) N6 W hN6.out (n:Int) e.day (hYz.out W h) hcap hM _ hR2z.out (Int.le_refl _) hUz.out.lo hUz.out.hi (by omega) (by omega) _ (hUz.out.free (n:Int)))
   have hOa:=Lib.hid (fun W (h:Below w.heap.size w W)=>on_rows S R c d y E ec l _ W rfl e.day (hYz.out W h) hcap (hEz.out W h) bk hUz.out.read hUz.out.day hUz.out.lo hUz.out.hi _ rfl)
   have hOb:=Lib.hid (fun W (h:Below w.heap.size w W) (hM:EvIn W A6 (l ++ [e] ++ [Cal.exhume e]))=>on_rows S R c d y A6 c6 (l ++ [e] ++ [Cal.exhume e]) N6 W hN6.out e.day (hYz.out W h) hcap hM _ hR2z.out (Int.le_refl _) hUz.out.lo hUz.out.hi _ hUz.out.now)
   have hsrt:=Lib.hid (fun (a b:List Lot) (ha:a.Perm (nowL bk.stays)) (hb:b.Perm (nowL bk.stays ++ [Cal.kept e])) h1 h2=>sorted_but (n:=e.remain) ha hb rfl hUz.out.away (nowL_inj (bkRead_solo hUz.out.read)) h1 h2)
   have hst3:bk.stays.length≤300:=by
    have h1:=bkRead_len (y:=y) (l:=l) (by rw[hUz.out.read])
    rw[hUz.out.read] at h1
    exact h1
   have hnl:(nowL bk.stays).length≤300:=by
    unfold nowL
    rw[List.length_map]
    exact Nat.le_trans (List.length_filter_le _ _) hst3
   clear hUz hR2z hYz hEz hmn hx1 hx2 hst3
   go_loopw [11,12,13,14,15] (fun i _ _ _ _ wr=>∃ n:Nat,n≤3∧i=.int .i64 n∧Hid (RfI w S R c d y e wr)∧Hid (EvIn wr A6 (l ++ [e] ++ [Cal.exhume e]))) (fun i _ _ _ _ _=>3-(intOf i).toNat)
   case atStart=>exact⟨0,by omega,rfl,hI,hM6⟩
   case round =>
    clear hI hM6
    obtain⟨n,hn,rfl,hI,hM6⟩:=hrel
    (obtain⟨y0,y1,y2,y3⟩:=hI.out.y.c4;have y4:=hI.out.y.c 4 _ rfl;obtain⟨e0,e1,e2,e3⟩:=hI.out.e.c4;have e4:=hI.out.e.c 4 _ rfl;have e5:=hI.out.e.c 5 _ rfl;have e6:=hI.out.e.c 6 _ rfl)
    by_cases hlt:n<3
    ·have hn2':(n:Int)≤2:=by omega
     have hfa:=Lib.hid (hFa.out n hlt)
     have hfb:=Lib.hid (hFb.out n hlt)
     have hlen:=hLl.out (n:Int)
     clear hFa hFb hOa hOb hsrt
     generalize Cal.freeL y bk.stays (n:Int)=L at *
     go_upto_region 20 with (go_at_call 10;clear y0 y1 y2 y3 y4 e0 e1 e2 e3 e4 e5 e6;have hq9:=hfa.out _ hI.out.bel;refine hq9.mono ?_;clear hq9;rintro e9 wa ⟨A7,k7,rfl,hR7,hba⟩;replace hR7:=Lib.hid hR7;replace hM6:=Lib.hid (hM6.out.below hba);(replace hI:=Lib.hid (hI.out.below hba);clear hba);(obtain⟨y0,y1,y2,y3⟩:=hI.out.y.c4;have y4:=hI.out.y.c 4 _ rfl;obtain⟨e0,e1,e2,e3⟩:=hI.out.e.c4;have e4:=hI.out.e.c 4 _ rfl;have e5:=hI.out.e.c 5 _ rfl;have e6:=hI.out.e.c 6 _ rfl))
     go_upto_region 21 with (go_at_call 10;clear y0 y1 y2 y3 y4 e0 e1 e2 e3 e4 e5 e6;have hq9:=hfb.out _ hI.out.bel hM6.out;refine hq9.mono ?_;clear hq9;rintro e9 wb ⟨A8,k8,rfl,hR8,hbb⟩;replace hR8:=Lib.hid hR8;replace hR7:=Lib.hid (hR7.out.below hbb);replace hM6:=Lib.hid (hM6.out.below hbb);(replace hI:=Lib.hid (hI.out.below hbb);clear hbb);(obtain⟨y0,y1,y2,y3⟩:=hI.out.y.c4;have y4:=hI.out.y.c 4 _ rfl;obtain⟨e0,e1,e2,e3⟩:=hI.out.e.c4;have e4:=hI.out.e.c 4 _ rfl;have e5:=hI.out.e.c 5 _ rfl;have e6:=hI.out.e.c 6 _ rfl))
     go_wp2_with (go_at_call 11;clear y0 y1 y2 y3 y4 e0 e1 e2 e3 e4 e5 e6;have hq9:=SameBerths_any A7 A8 k7 k8 L _ hR7.out hR8.out hlen;refine hq9.mono ?_;clear hq9;rintro e9 wc ⟨rfl,hbc⟩;replace hM6:=Lib.hid (hM6.out.below hbc);(replace hI:=Lib.hid (hI.out.below hbc);clear hbc))
     go_roundw
     case rel=>exact⟨n+1,by omega,by go_num,hI,hM6⟩
     case measure=>simp[intOf];omega
    obtain rfl:n=3:=by omega
    clear hFa hFb hLl
    go_upto_region 24 with (go_at_call 12;clear y0 y1 y2 y3 y4 e0 e1 e2 e3 e4 e5 e6;have hq9:=hOa.out _ hI.out.bel;refine hq9.mono ?_;clear hq9;rintro e9 wa ⟨A1,k1,ts1,rfl,hp1,hs1,hR1,hba⟩;replace hR1:=Lib.hid hR1;replace hp1:=Lib.hid hp1;replace hs1:=Lib.hid hs1;replace hM6:=Lib.hid (hM6.out.below hba);(replace hI:=Lib.hid (hI.out.below hba);clear hba);(obtain⟨y0,y1,y2,y3⟩:=hI.out.y.c4;have y4:=hI.out.y.c 4 _ rfl;obtain⟨e0,e1,e2,e3⟩:=hI.out.e.c4;have e4:=hI.out.e.c 4 _ rfl;have e5:=hI.out.e.c 5 _ rfl;have e6:=hI.out.e.c 6 _ rfl))
    go_upto_region 25 with (go_at_call 12;clear y0 y1 y2 y3 y4 e0 e1 e2 e3 e4 e5 e6;have hq9:=hOb.out _ hI.out.bel hM6.out;refine hq9.mono ?_;clear hq9;rintro e9 wz ⟨A2,k2,ts2,rfl,hp2,hs2,hR2,hbb⟩;replace hR2:=Lib.hid hR2;replace hp2:=Lib.hid hp2;replace hs2:=Lib.hid hs2;replace hR1:=Lib.hid (hR1.out.below hbb);(replace hI:=Lib.hid (hI.out.below hbb);clear hbb))
    clear hM6 hOa hOb
    obtain⟨hfl,hkp,hln⟩:=hsrt.out ts1 ts2 hp1.out hp2.out hs1.out hs2.out
    replace hfl:Hid (ts2.filter (awayB e.remain)=ts1):=hfl
    replace hkp:=Lib.hid hkp
    have hln1:((ts2.length:Int) != (ts1.length:Int)+1)=false:=by simp;omega
    have hl2:ts2.length≤301:=by have:=hp1.out.length_eq;omega
    have hlx:ts1.length≤300:=by omega
    have hwl:IntKind.i64.wrap ((ts1.length:Int)+1)=(ts1.length:Int)+1:=wrap_small _ (by omega) (by omega)
    (obtain⟨y0,y1,y2,y3⟩:=hI.out.y.c4;have y4:=hI.out.y.c 4 _ rfl;obtain⟨e0,e1,e2,e3⟩:=hI.out.e.c4;have e4:=hI.out.e.c 4 _ rfl;have e5:=hI.out.e.c 5 _ rfl;have e6:=hI.out.e.c 6 _ rfl)
    clear hln
    clear hnl hsrt hp1 hp2 hs1 hs2
    go_upto_region 29 with fail
    go_loopw [20,21] (fun kk i wr=>∃ n:Nat,n≤ts2.length∧i=.int .i64 n∧kk=.int .i64 ((ts2.take n).filter (awayB e.remain)).length∧Hid (Below wz.heap.size wz wr)) (fun _ i _=>ts2.length-(intOf i).toNat)
    case atStart=>exact⟨0,Nat.zero_le _,rfl,rfl,Below.refl _ _⟩
    case round =>
     clear y0 y1 y2 y3 y4 e0 e1 e2 e3 e4 e5 e6
     obtain⟨n,hn,rfl,rfl,hbz⟩:=hrel
     have e4:=(hI.out.e.below hbz.out).c 4 _ rfl
     by_cases hlt:n<ts2.length
     ·have hnn:(n:Int)<(ts2.length:Int):=by omega
      have hx:=List.getElem?_eq_getElem hlt
      have hxm:=List.getElem_mem hlt
      generalize ts2[n]=x at *
      obtain⟨b,o,hS2,hbl,hc⟩:=lotRow_at (hR2.out.below hbz.out) hx
      subst hS2
      have d0:=hc 0 _ rfl
      have d1:=hc 1 _ rfl
      have d2:=hc 2 _ rfl
      have d3:=hc 3 _ rfl
      have d4:=hc 4 _ rfl
      have d5:=hc 5 _ rfl
      rw[Nat.add_zero] at d0
      clear hc
      by_cases he:x.remain=e.remain
      ·have hxk:=hkp.out x hxm he
       have q0:(x.state != 0)=false:=by rw[hxk];rfl
       have hq:=name_yes he
       have hfn:=Lib.hid (fl_no hx (show awayB e.remain x=false by simp[awayB,he]))
       clear he hxk hx hxm
       go_wp2_with fail
       go_quiet (fail)
       go_wp2_with fail
       go_roundw
       case rel=>exact⟨n+1,by omega,by go_num,by rw[hfn.out],below_step hbz.out (below_drewN (Below.refl _ _) _)⟩
       case measure=>simp[intOf];omega
      have hq:=name_no he
      have ha:awayB e.remain x=true:=by simp[awayB,he]
      have hfy:=fl_yes hx ha
      have hat:=fl_at hfl.out hx ha
      generalize ((ts2.take n).filter (awayB e.remain)).length=j at *
      have hjl:=(List.getElem?_eq_some_iff.1 hat).1
      have hge:¬(ts1.length:Int)≤(j:Int):=by omega
      have hjj:(j:Int)<(ts1.length:Int):=by omega
      replace hfy:=Lib.hid hfy
      have hhx:=Lib.hid hx
      have hha:=Lib.hid hat
      clear he hx hxm ha hat
      go_wp2_with fail
      go_quiet (fail)
      go_upto_region 34 with fail
      replace hbz:=Lib.hid (below_step hbz.out (below_drewN (Below.refl wr.heap.size wr) nq))
      generalize wr.drewN nq=X at *
      clear d0 d1 d2 d3 d4 d5 hbl e4
      obtain⟨b2,o2,hS2,_,hc⟩:=lotRow_at (hR2.out.below hbz.out) hhx.out
      cases hS2
      have d0:=hc 0 _ rfl
      have d1:=hc 1 _ rfl
      have d2:=hc 2 _ rfl
      have d3:=hc 3 _ rfl
      have d4:=hc 4 _ rfl
      have d5:=hc 5 _ rfl
      rw[Nat.add_zero] at d0
      obtain⟨b',o',hS3,_,hc'⟩:=lotRow_at (hR1.out.below hbz.out) hha.out
      subst hS3
      have g0:=hc' 0 _ rfl
      have g1:=hc' 1 _ rfl
      have g2:=hc' 2 _ rfl
      have g3:=hc' 3 _ rfl
      have g4:=hc' 4 _ rfl
      have g5:=hc' 5 _ rfl
      rw[Nat.add_zero] at g0
      clear hc hc'
      refine wp_region_held_drew (S:=Sx X [(b,o+n*6,.string x.remain),(b,o+n*6+1,.int .i64 x.state),(b,o+n*6+2,.string x.site),(b,o+n*6+3,.int .i64 x.level),(b,o+n*6+4,.int .i64 x.cont),(b,o+n*6+5,.int .i64 x.since),(b',o'+j*6,.string x.remain),(b',o'+j*6+1,.int .i64 x.state),(b',o'+j*6+2,.string x.site),(b',o'+j*6+3,.int .i64 x.level),(b',o'+j*6+4,.int .i64 x.cont),(b',o'+j*6+5,.int .i64 x.since)]) (by kernel_rfl) (Sx.mk (by simp only[cs_iff_cons];exact⟨d0,d1,d2,d3,d4,d5,g0,g1,g2,g3,g4,g5,cs_nil _⟩) (Below.refl _ _)).drew (fun hHeld=>?_)
      clear d0 d1 d2 d3 d4 d5 g0 g1 g2 g3 g4 g5
      (refine wpAnyH_hide (fun _ _ _ _ _ h=>h) (fun Q0 hp0 hQ0=>?_))
      refine tkQx 0 178 hp0 ?_
      refine tkQx 1 179 hp0 ?_
      refine tkQx 2 180 hp0 ?_
      refine tkQx 3 181 hp0 (v:=.bool false) ?_ (hy:=by (intro w' hSw;go_simp;(first | done | (simp;omega) | (simp[hge]) | omega)))
      refine tkQx 4 182 hp0 ?_
      refine tkQx 5 183 hp0 ?_
      refine tkQx 6 184 hp0 ?_
      refine tkQx 7 185 hp0 ?_
      refine tkQx 8 186 hp0 ?_
      refine tkQx 9 187 hp0 ?_
      refine tkQx 10 188 hp0 ?_
      refine tkQx 11 189 hp0 ?_
      refine tkQx 12 190 hp0 ?_
      refine tkQx 13 191 hp0 ?_
      refine tkQx 14 192 hp0 ?_
      refine wpAnyH_done (by kernel_rfl) ?_ _
      (try simp only[apS,apN,siA,scZ,scS])
      (obtain rfl:=hQ0.out;clear hp0)
      replace hbz:=Lib.hid (below_step hbz.out hHeld.bel)
      clear hHeld
      go_wp2_with fail
      go_roundw
      case rel=>exact⟨n+1,by omega,by go_num,by rw[hfy.out];go_num,hbz⟩
      case measure=>simp[intOf];omega
     obtain rfl:n=ts2.length:=by omega
     go_wp2_with fail
     go_ret
     exact⟨rfl,below_step hI.out.bel hbz.out⟩
  have hzq2:((Cal.grvAdd y l e).2 != 0)=true:=by simp[hz]
  have hN:=Lib.hid (fun W (h:Below w.heap.size w W)=>add_no S R c d y E ec l _ W rfl e _ (hYz.out W h) hcap (hEz.out W h) hn1.out hn2.out rfl)
  clear hz k0
  go_wp2_with (first
   |(go_at_call 7;clear y0 y1 y2 y3 y4 e0 e1 e2 e3 e4 e5 e6;refine (CheckR_any S R c d y E ec l _ (hYz.out _ hI.out.bel) (hEz.out _ hI.out.bel)).mono ?_;rintro e9 wn ⟨i,rfl,hbn⟩;(replace hI:=Lib.hid (hI.out.below hbn);clear hbn);(obtain⟨y0,y1,y2,y3⟩:=hI.out.y.c4;have y4:=hI.out.y.c 4 _ rfl;obtain⟨e0,e1,e2,e3⟩:=hI.out.e.c4;have e4:=hI.out.e.c 4 _ rfl;have e5:=hI.out.e.c 5 _ rfl;have e6:=hI.out.e.c 6 _ rfl);rcases (show (i != 0)=true∨(i != 0)=false by cases (i != 0) <;> simp) with hzq | hzq)
   |(go_at_call 8;clear y0 y1 y2 y3 y4 e0 e1 e2 e3 e4 e5 e6;refine (hN.out _ hI.out.bel).mono ?_;rintro e9 wn ⟨v,rfl,hbn⟩;(replace hI:=Lib.hid (hI.out.below hbn);clear hbn);(obtain⟨y0,y1,y2,y3⟩:=hI.out.y.c4;have y4:=hI.out.y.c 4 _ rfl;obtain⟨e0,e1,e2,e3⟩:=hI.out.e.c4;have e4:=hI.out.e.c 4 _ rfl;have e5:=hI.out.e.c 5 _ rfl;have e6:=hI.out.e.c 6 _ rfl)))
  all_goals (try go_wp2_with (go_at_call 8;clear y0 y1 y2 y3 y4 e0 e1 e2 e3 e4 e5 e6;refine (hN.out _ hI.out.bel).mono ?_;rintro e9 wn ⟨v,rfl,hbn⟩;(replace hI:=Lib.hid (hI.out.below hbn);clear hbn);(obtain⟨y0,y1,y2,y3⟩:=hI.out.y.c4;have y4:=hI.out.y.c 4 _ rfl;obtain⟨e0,e1,e2,e3⟩:=hI.out.e.c4;have e4:=hI.out.e.c 4 _ rfl;have e5:=hI.out.e.c 5 _ rfl;have e6:=hI.out.e.c 6 _ rfl)))
  all_goals (go_ret;exact⟨rfl,hI.out.bel⟩)
 have kq:(e.kind != 0)=true:=by simp[k0]
 clear k0
 go_wp2_with (go_at_call 7;clear y0 y1 y2 y3 y4 e0 e1 e2 e3 e4 e5 e6;refine (CheckR_any S R c d y E ec l _ (hYz.out _ hI.out.bel) (hEz.out _ hI.out.bel)).mono ?_;rintro e9 wn ⟨i,rfl,hbn⟩;(replace hI:=Lib.hid (hI.out.below hbn);clear hbn);(obtain⟨y0,y1,y2,y3⟩:=hI.out.y.c4;have y4:=hI.out.y.c 4 _ rfl;obtain⟨e0,e1,e2,e3⟩:=hI.out.e.c4;have e4:=hI.out.e.c 4 _ rfl;have e5:=hI.out.e.c 5 _ rfl;have e6:=hI.out.e.c 6 _ rfl);rcases (show (i != 0)=true∨(i != 0)=false by cases (i != 0) <;> simp) with hzq | hzq)
 all_goals (try go_wp2_with fail)
 all_goals (go_ret;exact⟨rfl,hI.out.bel⟩)
end Go.Proofs.YtcnfhnndppollaaDoor
