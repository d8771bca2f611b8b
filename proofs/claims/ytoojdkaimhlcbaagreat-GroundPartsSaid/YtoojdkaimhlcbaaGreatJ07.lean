/- What the statements rest on: definitions and walks, part 07. -/
import Derived.Test.YtoojdkaimhlcbaaGreatJ06
set_option maxRecDepth 100000
set_option maxHeartbeats 16000000
set_option linter.unusedSimpArgs false
set_option linter.unusedVariables false
namespace Go.Proofs.YtoojdkaimhlcbaaGreat
open Go Go.RowKit Go.Shelf
attribute [local go_sem] Oper.semAt_some
theorem results_c1 {P:Program} {fn:Func} {t:Tmp} {ty:TypeId} (h:fn.results=#[.cell t ty]) (tmps:Array Value) (w:World) (b:Addr) (v:Value)
  (hq:tmps.getD t undef=.pointer (some b)) (hv:(loadVar ty b).run P w=.ok v w):(results fn tmps).run P w=.ok v w:=by
 have hq':tmps[t]?.getD undef=.pointer (some b):=by simpa using hq
 simp[results,h,hq',asAddr,hv]
theorem Cal.whereFrom_cons (q:Pt) (b:Bool) (s:Sd) (r:List Sd):Cal.whereFrom q b (s :: r)=if Cal.hasP s q then 0 else Cal.whereFrom q (if (decide (q.y<s.a.y) != decide (q.y<s.b.y)) && (decide (0<Cal.trn s q) == decide (s.a.y<s.b.y)) then !b else b) r:=rfl
theorem sds_drop {ps:List Pt} {k:Nat} (h:k<ps.length):(Cal.sds ps).drop k=Cal.sd ps k :: (Cal.sds ps).drop (k+1):=by
 have hl:k<(Cal.sds ps).length:=by unfold Cal.sds;simpa using h
 rw[List.drop_eq_getElem_cons hl]
 rw[show (Cal.sds ps)[k]=Cal.sd ps k from by simp[Cal.sds]]
structure WhI (w:World) (q:Pt) (b:Bool) (W:World):Prop where
 q:BoxAt W w.heap.size [.int .i64 q.x,.int .i64 q.y]
 r:∃ v,BoxAt W (w.heap.size+1) [v]
 b:BoxAt W (w.heap.size+1+1) [.bool b]
 bel:Below w.heap.size w W
 size:w.heap.size+4≤W.heap.size
def WhJ (w:World) (q:Pt) (ps:List Pt) (k:Nat) (W:World):Prop:=∃ b,Cal.whereP ps q=Cal.whereFrom q b ((Cal.sds ps).drop k)∧WhI w q b W
def WhX (w:World) (q:Pt) (ps:List Pt) (c:Code) (_:Nat) (W:World):Prop:=c=.ret∧Cal.whereP ps q=0∧BoxAt W (w.heap.size+1) [.int .i64 0]∧Below w.heap.size w W
theorem WhI.kept {w:World} {q:Pt} {b:Bool} {X Y:World} {row:Option Nat} (h:WhI w q b X) (hg:X.grownBy Y row) (hr:∀ r,row=some r→w.heap.size≤r∧∃ o:Obj,X.heap[r]?=some o∧o.isCells=false):WhI w q b Y:=by
 obtain⟨h1,⟨v,h2⟩,h3,h4,h5⟩:=h
 exact⟨h1.keptF hg (fun r e=>(hr r e).2),⟨v,h2.keptF hg (fun r e=>(hr r e).2)⟩,h3.keptF hg (fun r e=>(hr r e).2),ownFrom_below (β:=Unit) (Nat.le_refl _) (Nat.le_refl _) () X Y row h4 hg hr,Nat.le_trans h5 hg.size⟩
theorem WhI.below {w:World} {q:Pt} {b:Bool} {X Y:World} (h:WhI w q b X) (hb:Below X.heap.size X Y):WhI w q b Y:=by
 obtain⟨h1,⟨v,h2⟩,h3,h4,h5⟩:=h
 exact⟨h1.below hb,⟨v,h2.below hb⟩,h3.below hb,h4.trans (hb.mono h4.size),Nat.le_trans h5 hb.size⟩
theorem whJ_own (w:World) (q:Pt) (ps:List Pt) (B:Nat) (hB:w.heap.size≤B):OwnFrom B (WhJ w q ps):=fun k X Y row hs hg hr=>by
 obtain⟨b,h1,h2⟩:=hs
 exact⟨b,h1,h2.kept hg (fun r e=>⟨by have:=(hr r e).1;omega,(hr r e).2⟩)⟩
theorem whX_own (w:World) (q:Pt) (ps:List Pt) (B:Nat) (hB:w.heap.size≤B) (c:Code):OwnFrom B (WhX w q ps c):=fun k X Y row hs hg hr=>by
 obtain⟨h1,h2,h3,h4⟩:=hs
 exact⟨h1,h2,h3.keptF hg (fun r e=>(hr r e).2),ownFrom_below (β:=Unit) (Nat.le_refl _) hB () X Y row h4 hg hr⟩
theorem WhI.turn {w:World} {q:Pt} {b:Bool} {W:World} (h:WhI w q b W) (b':Bool):WhI w q b' (W.setCell ⟨w.heap.size+1+1,0,none⟩ (.bool b')):=by
 obtain⟨h1,⟨v,h2⟩,h3,h4,h5⟩:=h
 exact⟨h1.grown (grown_set _ _ _ _) (fun e=>by injection e with e;omega),⟨v,h2.grown (grown_set _ _ _ _) (fun e=>by injection e with e;omega)⟩,h3.set 0 _ Nat.zero_lt_one,h4.setCell (p:=⟨w.heap.size+1+1,0,none⟩) (by simp;omega) _,by rw[World.size_setCell];exact h5⟩
theorem where_any (V:Option Addr) (d:Nat) (ps:List Pt) (q:Pt) (w:World) (hP:Pts w V ps) (hq:SmP q) :
  Calls Tryz.prog 75 #[.slice V ps.length d,.agg #[.int .i64 q.x,.int .i64 q.y]] w fun e w'=>e=.returned (.int .i64 (Cal.whereP ps q))∧Below w.heap.size w w':=by
 refine (callsIn_wide (n:=4)).1 ?_
 refine callsIn_of_wp_marks Tryz.func75 rfl trivial ?_ rfl
 simp only[Tryz.ntmps75,List.size_toArray,List.length_cons,List.length_nil,Nat.reduceAdd,Nat.reduceSub,Array.replicate_succ,Array.replicate_zero,List.push_toArray,List.append_toArray,List.nil_append,List.cons_append]
 gi_wp2_with (refine⟨trivial,?_⟩;gi_at_call 52;refine (callsIn_wide.2 (sides_any _ _ _ _)).mono ?_;rintro e w' ⟨rfl,rfl⟩)
 have bQ:=(((BoxAt.new w #[.int .i64 q.x,.int .i64 q.y] 61).alloc (.cells #[.int .i64 0] 3)).alloc (.cells #[.bool false] 4)).alloc (.cells #[.slice V ps.length d] 44)
 have bR:=((BoxAt.new (w.alloc (.cells #[.int .i64 q.x,.int .i64 q.y] 61)) #[.int .i64 0] 3).alloc (.cells #[.bool false] 4)).alloc (.cells #[.slice V ps.length d] 44)
 have bB:=(BoxAt.new ((w.alloc (.cells #[.int .i64 q.x,.int .i64 q.y] 61)).alloc (.cells #[.int .i64 0] 3)) #[.bool false] 4).alloc (.cells #[.slice V ps.length d] 44)
 have bS:=BoxAt.new (((w.alloc (.cells #[.int .i64 q.x,.int .i64 q.y] 61)).alloc (.cells #[.int .i64 0] 3)).alloc (.cells #[.bool false] 4)) #[.slice V ps.length d] 44
 have hB0:Below w.heap.size w ((((w.alloc (.cells #[.int .i64 q.x,.int .i64 q.y] 61)).alloc (.cells #[.int .i64 0] 3)).alloc (.cells #[.bool false] 4)).alloc (.cells #[.slice V ps.length d] 44)):=below_step (below_step (below_step (below_alloc _ _) (below_alloc _ _)) (below_alloc _ _)) (below_alloc _ _)
 have hs0:(((((w.alloc (.cells #[.int .i64 q.x,.int .i64 q.y] 61)).alloc (.cells #[.int .i64 0] 3)).alloc (.cells #[.bool false] 4)).alloc (.cells #[.slice V ps.length d] 44))).heap.size=w.heap.size+4:=by simp
 simp only[World.size_alloc] at bR bB bS
 obtain⟨W0,hW0⟩:∃ W0,((((w.alloc (.cells #[.int .i64 q.x,.int .i64 q.y] 61)).alloc (.cells #[.int .i64 0] 3)).alloc (.cells #[.bool false] 4)).alloc (.cells #[.slice V ps.length d] 44))=W0:=⟨_,rfl⟩
 rw[hW0] at bQ bR bB bS hB0 hs0 ⊢
 clear hW0
 have hP0:=hP.below hB0
 refine wpIn_range_sides (Bs:=w.heap.size+1+1+1) (n₀:=w.heap.size) (V:=V) (d:=d) (ps:=ps) (by omega) rfl rfl (bS.c 0 _ rfl) (by omega) hP0 (by omega) hP.own
  (WhJ w q ps) (WhX w q ps) (whJ_own w q ps _ (by omega)) (whX_own w q ps _ (by omega)) ⟨false,rfl,bQ,⟨_,bR⟩,bB,hB0,by omega⟩
  (fun x a' W=>∃ Bx,W0.heap.size≤Bx∧BoxAt W Bx [.int .i64 x.2.a.x,.int .i64 x.2.a.y,.int .i64 x.2.b.x,.int .i64 x.2.b.y]∧a'={ tmps:=#[.slice V ps.length d,.agg #[.int .i64 q.x,.int .i64 q.y],undef,.pointer (some ⟨w.heap.size,0,none⟩),.pointer (some ⟨w.heap.size+1,0,none⟩),.pointer (some ⟨w.heap.size+1+1,0,none⟩),undef,.pointer (some ⟨Bx,0,none⟩),.slice V ps.length d,.func (.func 71) #[] #[.pointer (some ⟨w.heap.size+1+1+1,0,none⟩)],.int .i64 (x.1:Int),.agg #[.int .i64 x.2.a.x,.int .i64 x.2.a.y,.int .i64 x.2.b.x,.int .i64 x.2.b.y],undef,undef,undef,undef,undef,undef,undef,undef,undef,undef,undef,undef,undef,undef,undef,undef,undef,undef,undef,undef,undef,undef,undef,undef,undef,undef,undef,undef,undef,undef,undef,undef,undef],defers:=[] })
  (fun x a' _ X Y row hs hg hr=>by obtain⟨Bx,e1,e2,e3⟩:=hs;exact⟨Bx,e1,e2.keptF hg (fun r e=>(hr r e).2),e3⟩)
  ?assign ?body ?done ?stop
 case assign =>
  rintro l k W K hk ⟨b,hb,hI⟩ hK
  gi_wp2
  have hz:=hI.size
  exact hK _ _ ((KeepsOthers.alloc _ _).from _) (KpS.below (below_alloc _ _) hI.bel.size (by omega)) ⟨b,hb,hI.below (below_alloc _ _)⟩ ⟨W.heap.size,by omega,BoxAt.new W #[.int .i64 (Cal.sd ps k).a.x,.int .i64 (Cal.sd ps k).a.y,.int .i64 (Cal.sd ps k).b.x,.int .i64 (Cal.sd ps k).b.y] _,rfl⟩
 case body =>
  rintro l k a' W hl ⟨r,hr⟩ hk ⟨b,hb,hI⟩ ⟨Bx,hBx,bX,rfl⟩
  have hsd:=hP.sd k hk
  have hz:=hI.size
  rw[sds_drop hk,Cal.whereFrom_cons] at hb
  obtain⟨c0,c1⟩:=hI.q.c2;obtain⟨e0,e1,e2,e3⟩:=bX.c4
  dsimp only at e0 e1 e2 e3
  generalize Cal.sd ps k=s at *
  obtain⟨ht,hht⟩:∃ ht,Cal.hasP s q=ht:=⟨_,rfl⟩
  rw[hht] at hb
  have hht:=Lib.hid hht
  have hIz:=Lib.hid hI
  have bXz:=Lib.hid bX
  clear hI bX
  cases ht
  ·rw[if_neg (by decide)] at hb
   have hb:=Lib.hid hb
   gi_wp2_with (refine⟨trivial,?_⟩;gi_at_call 76;refine (callsIn_wide.2 (has_any s q _ hsd hq)).mono ?_;rintro e wn ⟨rfl,hbn⟩;rw[hht.out];(have hIz:=Lib.hid (hIz.out.below hbn);have bXz:=Lib.hid (bXz.out.below hbn);have hbW:=Lib.hid hbn;clear hbn c0 c1 e0 e1 e2 e3;obtain⟨c0,c1⟩:=hIz.out.q.c2;obtain⟨e0,e1,e2,e3⟩:=bXz.out.c4;obtain⟨rv,hrv⟩:=hIz.out.r;have r0:=hrv.c 0 _ rfl;have r1:=hrv.free 0 Nat.zero_lt_one;have hrv:=Lib.hid hrv;have b0:=hIz.out.b.c 0 _ rfl;have b1:=hIz.out.b.free 0 Nat.zero_lt_one))
   have hz2:=hbW.out.size
   by_cases h1:q.y<s.a.y <;> by_cases h2:q.y<s.b.y
   ·have hb:Hid (Cal.whereP ps q=Cal.whereFrom q b ((Cal.sds ps).drop (k+1))):=by have h:=hb.out;rw[decide_eq_true h1,decide_eq_true h2] at h;exact h
    have d1:=decide_eq_true h1
    have d2:=decide_eq_true h2
    refine wpIn_region_held_drew (S:=Sx wn [(w.heap.size,0,.int .i64 q.x),(w.heap.size,1,.int .i64 q.y),(Bx,0,.int .i64 s.a.x),(Bx,1,.int .i64 s.a.y),(Bx,2,.int .i64 s.b.x),(Bx,3,.int .i64 s.b.y)]) (by kernel_rfl) (Sx.mk (by simp only[cs_iff_cons];exact⟨c0,c1,e0,e1,e2,e3,cs_nil _⟩) (Below.refl _ _)).drew (fun hHeld=>?_)
    refine tkIx 0 15 ?_
    refine tkIx 1 16 ?_
    refine tkIx 2 17 ?_
    refine tkIx 3 18 ?_
    refine tkIx 4 19 ?_
    refine tkIx 5 20 ?_
    refine tkIx 6 21 ?_
    refine tkIx 7 22 ?_
    refine tkIx 8 23 ?_
    refine tkIx 9 24 ?_
    refine tkIx 10 25 ?_
    refine tkIx 11 26 ?_
    refine tkIx 12 27 ?_
    refine tkIx 13 28 ?_
    refine tkNx 14 29 ?_
    refine tkNx 15 30 ?_
    refine tkNx 16 31 ?_
    refine tkNx 17 32 ?_
    refine tkNx 18 33 ?_
    refine tkNx 19 34 ?_
    refine tkNx 20 35 ?_
    refine tkNx 21 36 ?_
    refine tkNx 22 37 ?_
    refine tkNx 23 38 ?_
    refine tkNx 24 39 ?_
    refine tkNx 25 40 ?_
    refine tkIx 26 41 ?_
    refine wpAnyInH_done (by decide +kernel) ?_ _
    gi_wp2
    exact⟨(keepsF_below (hbW.out.trans (hHeld.bel.mono hz2))).from _,KpS.below (hbW.out.trans (hHeld.bel.mono hz2)) (by omega) (by omega),b,hb.out,hIz.out.below hHeld.bel⟩
   ·have d1:=decide_eq_true h1
    have d2:=decide_eq_false h2
    have h5:¬s.a.y<s.b.y:=by omega
    have d3:=decide_eq_false h5
    by_cases h3:0<Cal.trn s q
    ·have d4:=decide_eq_true h3
     have hb:Hid (Cal.whereP ps q=Cal.whereFrom q (b) ((Cal.sds ps).drop (k+1))):=by have h:=hb.out;rw[d1,d2,d3,d4] at h;exact h
     refine wpIn_region_held_drew (S:=Sx wn [(w.heap.size,0,.int .i64 q.x),(w.heap.size,1,.int .i64 q.y),(Bx,0,.int .i64 s.a.x),(Bx,1,.int .i64 s.a.y),(Bx,2,.int .i64 s.b.x),(Bx,3,.int .i64 s.b.y)]) (by kernel_rfl) (Sx.mk (by simp only[cs_iff_cons];exact⟨c0,c1,e0,e1,e2,e3,cs_nil _⟩) (Below.refl _ _)).drew (fun hHeld=>?_)
     refine tkIx 0 15 ?_
     refine tkIx 1 16 ?_
     refine tkIx 2 17 ?_
     refine tkIx 3 18 ?_
     refine tkIx 4 19 ?_
     refine tkIx 5 20 ?_
     refine tkIx 6 21 ?_
     refine tkIx 7 22 ?_
     refine tkIx 8 23 ?_
     refine tkIx 9 24 ?_
     refine tkIx 10 25 ?_
     refine tkIx 11 26 ?_
     refine tkIx 12 27 ?_
     refine tkIx 13 28 ?_
     refine tkIx 14 29 ?_
     refine tkIx 15 30 ?_
     refine tkIx 18 33 ?_
     refine tkIx 19 34 ?_
     refine tkIx 20 35 ?_
     refine tkIx 21 36 ?_
     refine tkIx 22 37 ?_
     refine tkIx 23 38 ?_
     refine tkIx 24 39 ?_
     (refine ratI 16 (fun _=>trivial) (by decide +kernel) rfl (fun K hK=>?_);rw[if_pos (by kernel_rfl)];go_simp)
     refine⟨trivial,?_⟩
     refine (callsIn_wide.2 (turn_any s q _ hsd hq)).mono ?_
     rintro e wn ⟨rfl,hbn⟩
     go_simp
     (refine hK.out _ _ (hHeld.step hbn) (fun hHeld=>?_);clear hK K;(try simp only[apS,apN,siA,scZ,scS]))
     refine tkIx 17 32 ?_
     refine tkIx 25 40 ?_
     refine tkIx 26 41 ?_
     refine wpAnyInH_done (by decide +kernel) ?_ _
     gi_wp2
     exact⟨(keepsF_below (hbW.out.trans (hHeld.bel.mono hz2))).from _,KpS.below (hbW.out.trans (hHeld.bel.mono hz2)) (by omega) (by omega),b,hb.out,hIz.out.below hHeld.bel⟩
    have d4:=decide_eq_false h3
    have hb:Hid (Cal.whereP ps q=Cal.whereFrom q (!b) ((Cal.sds ps).drop (k+1))):=by have h:=hb.out;rw[d1,d2,d3,d4] at h;exact h
    refine wpIn_region_held_drew (S:=Sx wn [(w.heap.size,0,.int .i64 q.x),(w.heap.size,1,.int .i64 q.y),(Bx,0,.int .i64 s.a.x),(Bx,1,.int .i64 s.a.y),(Bx,2,.int .i64 s.b.x),(Bx,3,.int .i64 s.b.y)]) (by kernel_rfl) (Sx.mk (by simp only[cs_iff_cons];exact⟨c0,c1,e0,e1,e2,e3,cs_nil _⟩) (Below.refl _ _)).drew (fun hHeld=>?_)
    refine tkIx 0 15 ?_
    refine tkIx 1 16 ?_
    refine tkIx 2 17 ?_
    refine tkIx 3 18 ?_
    refine tkIx 4 19 ?_
    refine tkIx 5 20 ?_
    refine tkIx 6 21 ?_
    refine tkIx 7 22 ?_
    refine tkIx 8 23 ?_
    refine tkIx 9 24 ?_
    refine tkIx 10 25 ?_
    refine tkIx 11 26 ?_
    refine tkIx 12 27 ?_
    refine tkIx 13 28 ?_
    refine tkIx 14 29 ?_
    refine tkIx 15 30 ?_
    refine tkIx 18 33 ?_
    refine tkIx 19 34 ?_
    refine tkIx 20 35 ?_
    refine tkIx 21 36 ?_
    refine tkIx 22 37 ?_
    refine tkIx 23 38 ?_
    refine tkIx 24 39 ?_
    (refine ratI 16 (fun _=>trivial) (by decide +kernel) rfl (fun K hK=>?_);rw[if_pos (by kernel_rfl)];go_simp)
    refine⟨trivial,?_⟩
    refine (callsIn_wide.2 (turn_any s q _ hsd hq)).mono ?_
    rintro e wn ⟨rfl,hbn⟩
    go_simp
    (refine hK.out _ _ (hHeld.step hbn) (fun hHeld=>?_);clear hK K;(try simp only[apS,apN,siA,scZ,scS]))
    refine tkIx 17 32 ?_
    refine tkIx 25 40 ?_
    refine tkIx 26 41 ?_
    refine wpAnyInH_done (by decide +kernel) ?_ _
    have hJ:=Lib.hid (hIz.out.below hHeld.bel)
    have b0:=hJ.out.b.c 0 _ rfl
    have b1:=hJ.out.b.free 0 Nat.zero_lt_one
    gi_wp2
    exact⟨((keepsF_below (hbW.out.trans (hHeld.bel.mono hz2))).trans (KeepsOthers.setCell _ _ _)).from _,(KpS.below (hbW.out.trans (hHeld.bel.mono hz2)) (by omega) (by omega)).trans (KpS.set _ (by omega) (by omega)),!b,hb.out,hJ.out.turn (!b)⟩
   ·have d1:=decide_eq_false h1
    have d2:=decide_eq_true h2
    have h5:s.a.y<s.b.y:=by omega
    have d3:=decide_eq_true h5
    by_cases h3:0<Cal.trn s q
    ·have d4:=decide_eq_true h3
     have hb:Hid (Cal.whereP ps q=Cal.whereFrom q (!b) ((Cal.sds ps).drop (k+1))):=by have h:=hb.out;rw[d1,d2,d3,d4] at h;exact h
     refine wpIn_region_held_drew (S:=Sx wn [(w.heap.size,0,.int .i64 q.x),(w.heap.size,1,.int .i64 q.y),(Bx,0,.int .i64 s.a.x),(Bx,1,.int .i64 s.a.y),(Bx,2,.int .i64 s.b.x),(Bx,3,.int .i64 s.b.y)]) (by kernel_rfl) (Sx.mk (by simp only[cs_iff_cons];exact⟨c0,c1,e0,e1,e2,e3,cs_nil _⟩) (Below.refl _ _)).drew (fun hHeld=>?_)
     refine tkIx 0 15 ?_
     refine tkIx 1 16 ?_
     refine tkIx 2 17 ?_
     refine tkIx 3 18 ?_
     refine tkIx 4 19 ?_
     refine tkIx 5 20 ?_
     refine tkIx 6 21 ?_
     refine tkIx 7 22 ?_
     refine tkIx 8 23 ?_
     refine tkIx 9 24 ?_
     refine tkIx 10 25 ?_
     refine tkIx 11 26 ?_
     refine tkIx 12 27 ?_
     refine tkIx 13 28 ?_
     refine tkIx 14 29 ?_
     refine tkIx 15 30 ?_
     refine tkIx 18 33 ?_
     refine tkIx 19 34 ?_
     refine tkIx 20 35 ?_
     refine tkIx 21 36 ?_
     refine tkIx 22 37 ?_
     refine tkIx 23 38 ?_
     refine tkIx 24 39 ?_
     (refine ratI 16 (fun _=>trivial) (by decide +kernel) rfl (fun K hK=>?_);rw[if_pos (by kernel_rfl)];go_simp)
     refine⟨trivial,?_⟩
     refine (callsIn_wide.2 (turn_any s q _ hsd hq)).mono ?_
     rintro e wn ⟨rfl,hbn⟩
     go_simp
     (refine hK.out _ _ (hHeld.step hbn) (fun hHeld=>?_);clear hK K;(try simp only[apS,apN,siA,scZ,scS]))
     refine tkIx 17 32 ?_
     refine tkIx 25 40 ?_
     refine tkIx 26 41 ?_
     refine wpAnyInH_done (by decide +kernel) ?_ _
     have hJ:=Lib.hid (hIz.out.below hHeld.bel)
     have b0:=hJ.out.b.c 0 _ rfl
     have b1:=hJ.out.b.free 0 Nat.zero_lt_one
     gi_wp2
     exact⟨((keepsF_below (hbW.out.trans (hHeld.bel.mono hz2))).trans (KeepsOthers.setCell _ _ _)).from _,(KpS.below (hbW.out.trans (hHeld.bel.mono hz2)) (by omega) (by omega)).trans (KpS.set _ (by omega) (by omega)),!b,hb.out,hJ.out.turn (!b)⟩
    have d4:=decide_eq_false h3
    have hb:Hid (Cal.whereP ps q=Cal.whereFrom q (b) ((Cal.sds ps).drop (k+1))):=by have h:=hb.out;rw[d1,d2,d3,d4] at h;exact h
    refine wpIn_region_held_drew (S:=Sx wn [(w.heap.size,0,.int .i64 q.x),(w.heap.size,1,.int .i64 q.y),(Bx,0,.int .i64 s.a.x),(Bx,1,.int .i64 s.a.y),(Bx,2,.int .i64 s.b.x),(Bx,3,.int .i64 s.b.y)]) (by kernel_rfl) (Sx.mk (by simp only[cs_iff_cons];exact⟨c0,c1,e0,e1,e2,e3,cs_nil _⟩) (Below.refl _ _)).drew (fun hHeld=>?_)
    refine tkIx 0 15 ?_
    refine tkIx 1 16 ?_
    refine tkIx 2 17 ?_
    refine tkIx 3 18 ?_
    refine tkIx 4 19 ?_
    refine tkIx 5 20 ?_
    refine tkIx 6 21 ?_
    refine tkIx 7 22 ?_
    refine tkIx 8 23 ?_
    refine tkIx 9 24 ?_
    refine tkIx 10 25 ?_
    refine tkIx 11 26 ?_
    refine tkIx 12 27 ?_
    refine tkIx 13 28 ?_
    refine tkIx 14 29 ?_
    refine tkIx 15 30 ?_
    refine tkIx 18 33 ?_
    refine tkIx 19 34 ?_
    refine tkIx 20 35 ?_
    refine tkIx 21 36 ?_
    refine tkIx 22 37 ?_
    refine tkIx 23 38 ?_
    refine tkIx 24 39 ?_
    (refine ratI 16 (fun _=>trivial) (by decide +kernel) rfl (fun K hK=>?_);rw[if_pos (by kernel_rfl)];go_simp)
    refine⟨trivial,?_⟩
    refine (callsIn_wide.2 (turn_any s q _ hsd hq)).mono ?_
    rintro e wn ⟨rfl,hbn⟩
    go_simp
    (refine hK.out _ _ (hHeld.step hbn) (fun hHeld=>?_);clear hK K;(try simp only[apS,apN,siA,scZ,scS]))
    refine tkIx 17 32 ?_
    refine tkIx 25 40 ?_
    refine tkIx 26 41 ?_
    refine wpAnyInH_done (by decide +kernel) ?_ _
    gi_wp2
    exact⟨(keepsF_below (hbW.out.trans (hHeld.bel.mono hz2))).from _,KpS.below (hbW.out.trans (hHeld.bel.mono hz2)) (by omega) (by omega),b,hb.out,hIz.out.below hHeld.bel⟩
   have hb:Hid (Cal.whereP ps q=Cal.whereFrom q b ((Cal.sds ps).drop (k+1))):=by have h:=hb.out;rw[decide_eq_false h1,decide_eq_false h2] at h;exact h
   have d1:=decide_eq_false h1
   have d2:=decide_eq_false h2
   refine wpIn_region_held_drew (S:=Sx wn [(w.heap.size,0,.int .i64 q.x),(w.heap.size,1,.int .i64 q.y),(Bx,0,.int .i64 s.a.x),(Bx,1,.int .i64 s.a.y),(Bx,2,.int .i64 s.b.x),(Bx,3,.int .i64 s.b.y)]) (by kernel_rfl) (Sx.mk (by simp only[cs_iff_cons];exact⟨c0,c1,e0,e1,e2,e3,cs_nil _⟩) (Below.refl _ _)).drew (fun hHeld=>?_)
   refine tkIx 0 15 ?_
   refine tkIx 1 16 ?_
   refine tkIx 2 17 ?_
   refine tkIx 3 18 ?_
   refine tkIx 4 19 ?_
   refine tkIx 5 20 ?_
   refine tkIx 6 21 ?_
   refine tkIx 7 22 ?_
   refine tkIx 8 23 ?_
   refine tkIx 9 24 ?_
   refine tkIx 10 25 ?_
   refine tkIx 11 26 ?_
   refine tkIx 12 27 ?_
   refine tkIx 13 28 ?_
   refine tkNx 14 29 ?_
   refine tkNx 15 30 ?_
   refine tkNx 16 31 ?_
   refine tkNx 17 32 ?_
   refine tkNx 18 33 ?_
   refine tkNx 19 34 ?_
   refine tkNx 20 35 ?_
   refine tkNx 21 36 ?_
   refine tkNx 22 37 ?_
   refine tkNx 23 38 ?_
   refine tkNx 24 39 ?_
   refine tkNx 25 40 ?_
   refine tkIx 26 41 ?_
   refine wpAnyInH_done (by decide +kernel) ?_ _
   gi_wp2
   exact⟨(keepsF_below (hbW.out.trans (hHeld.bel.mono hz2))).from _,KpS.below (hbW.out.trans (hHeld.bel.mono hz2)) (by omega) (by omega),b,hb.out,hIz.out.below hHeld.bel⟩
  rw[if_pos rfl] at hb
  have hb:=Lib.hid hb
  gi_wp2_with (refine⟨trivial,?_⟩;gi_at_call 76;refine (callsIn_wide.2 (has_any s q _ hsd hq)).mono ?_;rintro e wn ⟨rfl,hbn⟩;rw[hht.out];(have hIz:=Lib.hid (hIz.out.below hbn);have bXz:=Lib.hid (bXz.out.below hbn);have hbW:=Lib.hid hbn;clear hbn c0 c1 e0 e1 e2 e3;obtain⟨c0,c1⟩:=hIz.out.q.c2;obtain⟨e0,e1,e2,e3⟩:=bXz.out.c4;obtain⟨rv,hrv⟩:=hIz.out.r;have r0:=hrv.c 0 _ rfl;have r1:=hrv.free 0 Nat.zero_lt_one;have hrv:=Lib.hid hrv;have b0:=hIz.out.b.c 0 _ rfl;have b1:=hIz.out.b.free 0 Nat.zero_lt_one))
  exact⟨((keepsF_below hbW.out).trans (KeepsOthers.setCell _ _ _)).from _,(KpS.below hbW.out (by omega) (by omega)).trans (KpS.set _ (by omega) (by omega)),rfl,hb.out,hrv.out.set 0 _ Nat.zero_lt_one,hIz.out.bel.setCell (p:=⟨w.heap.size+1,0,none⟩) (Nat.le_succ _) _⟩
 case done =>
  rintro D W hD ⟨b,hb,hI⟩ hK
  have hd:(Cal.sds ps).drop ps.length=[]:=by unfold Cal.sds;simp
  rw[hd] at hb
  have c0:=hI.b.c 0 _ rfl
  obtain⟨v,hr⟩:=hI.r
  have r0:=hr.c 0 _ rfl
  have r1:=hr.free 0 Nat.zero_lt_one
  have hAll:=Lib.hid (And.intro hb (And.intro hI (And.intro hK hr)))
  clear hb hI hK hr
  cases b
  ·gi_wp2
   obtain⟨hb,hI,hK,hr⟩:=hAll.out
   have hr1:=hr.set 0 (.int .i64 (-1)) Nat.zero_lt_one
   have hK':=(KeepsOthers.setCell W ⟨w.heap.size+1,0,none⟩ (.int .i64 (-1))).same D _ hK rfl
   have ho':Others (W.setCell ⟨w.heap.size+1,0,none⟩ (.int .i64 (-1))) (some D):=fun r e=>by cases e;exact⟨_,hK',rfl⟩
   refine⟨by simp,.inl ⟨_,_,rfl,run_takeDeferred hK',?_⟩⟩
   have q5:=(hr1.keptF (grownBy_putObj' _ D (.deferred none)) ho').c 0 _ rfl
   exact⟨_,results_c1 rfl _ _ ⟨w.heap.size+1,0,none⟩ (.int .i64 (-1)) rfl (by simp[loadVar,go_sem,q5]),by rw[hb];rfl,belowF_put (hI.bel.setCell (p:=⟨w.heap.size+1,0,none⟩) (Nat.le_succ _) _) (by omega) _⟩
  gi_wp2
  obtain⟨hb,hI,hK,hr⟩:=hAll.out
  have hr1:=hr.set 0 (.int .i64 (1)) Nat.zero_lt_one
  have hK':=(KeepsOthers.setCell W ⟨w.heap.size+1,0,none⟩ (.int .i64 (1))).same D _ hK rfl
  have ho':Others (W.setCell ⟨w.heap.size+1,0,none⟩ (.int .i64 (1))) (some D):=fun r e=>by cases e;exact⟨_,hK',rfl⟩
  refine⟨by simp,.inl ⟨_,_,rfl,run_takeDeferred hK',?_⟩⟩
  have q5:=(hr1.keptF (grownBy_putObj' _ D (.deferred none)) ho').c 0 _ rfl
  exact⟨_,results_c1 rfl _ _ ⟨w.heap.size+1,0,none⟩ (.int .i64 (1)) rfl (by simp[loadVar,go_sem,q5]),by rw[hb];rfl,belowF_put (hI.bel.setCell (p:=⟨w.heap.size+1,0,none⟩) (Nat.le_succ _) _) (by omega) _⟩
 case stop =>
  rintro D c k W hD hk ⟨rfl,h0,hR,hB⟩ hK
  have hAll:=Lib.hid (And.intro h0 (And.intro hR (And.intro hB hK)))
  clear h0 hR hB hK
  gi_wp2
  obtain⟨h0,hR,hB,hK⟩:=hAll.out
  have ho':Others W (some D):=fun r e=>by cases e;exact⟨_,hK,rfl⟩
  refine⟨by simp,.inl ⟨_,_,rfl,run_takeDeferred hK,?_⟩⟩
  have q5:=(hR.keptF (grownBy_putObj' W D (.deferred none)) ho').c 0 _ rfl
  exact⟨_,results_c1 rfl _ _ ⟨w.heap.size+1,0,none⟩ (.int .i64 0) rfl (by simp[loadVar,go_sem,q5]),by rw[h0],belowF_put hB (by omega) _⟩
end Go.Proofs.YtoojdkaimhlcbaaGreat
namespace Go.Proofs.YtoojdkaimhlcbaaGreat
open Go Go.RowKit Go.Shelf
attribute [local go_sem] Oper.semAt_some
structure Rd (B n₀ Bs:Nat) (W Y:World):Prop where
 keeps:KeepsFrom B W Y
 kp:KpS n₀ Bs 0 W Y
theorem Rd.trans {B n₀ Bs:Nat} {X Y Z:World} (h:Rd B n₀ Bs X Y) (k:Rd B n₀ Bs Y Z):Rd B n₀ Bs X Z:=⟨h.keeps.trans k.keeps,h.kp.trans k.kp⟩
theorem Rd.below {B n₀ Bs:Nat} {X Y:World} (h:Below X.heap.size X Y) (hn:n₀≤X.heap.size) (hs:Bs<X.heap.size):Rd B n₀ Bs X Y:=⟨(keepsF_below h).from _,KpS.below h hn hs⟩
theorem Rd.set {B n₀ Bs:Nat} {X:World} {b o:Nat} (v:Value) (hn:n₀≤b) (hs:Bs≠b):Rd B n₀ Bs X (X.setCell ⟨b,o,none⟩ v):=⟨(KeepsOthers.setCell _ _ _).from _,KpS.set v hn hs⟩
theorem rd_own {β:Type} {B n₀ Bs B':Nat} {W:World} (hB:W.heap.size≤B') (hn:n₀≤W.heap.size) (hs:Bs<W.heap.size):OwnFrom B' (fun (_:β) Y=>Rd B n₀ Bs W Y):=fun k X Y row h hg hr =>
 ⟨ownFrom_keepsFrom (β:=β) hB k X Y row h.keeps hg hr,ownFrom_below (β:=β) hn (Nat.le_trans hn hB) k X Y row h.kp.1 hg hr,
  (World.grownBy.block hg Bs (by have:=h.kp.1.size;omega) (fun e=>by have:=(hr Bs e.symm).1;omega)).trans h.kp.2⟩
structure CrI (w:World) (Vb:Option Addr) (nb db:Nat) (W:World):Prop where
 b:BoxAt W w.heap.size [.slice Vb nb db]
 r:∃ v,BoxAt W (w.heap.size+1) [v]
 bel:Below w.heap.size w W
 size:w.heap.size+3≤W.heap.size
theorem CrI.below {w:World} {Vb:Option Addr} {nb db:Nat} {X Y:World} (h:CrI w Vb nb db X) (hb:Below X.heap.size X Y):CrI w Vb nb db Y:=by
 obtain⟨h1,⟨v,h2⟩,h4,h5⟩:=h
 exact⟨h1.below hb,⟨v,h2.below hb⟩,h4.trans (hb.mono h4.size),Nat.le_trans h5 hb.size⟩
theorem CrI.kept {w:World} {Vb:Option Addr} {nb db:Nat} {X Y:World} {row:Option Nat} (h:CrI w Vb nb db X) (hg:X.grownBy Y row) (hr:∀ r,row=some r→w.heap.size≤r∧∃ o:Obj,X.heap[r]?=some o∧o.isCells=false):CrI w Vb nb db Y:=by
 obtain⟨h1,⟨v,h2⟩,h4,h5⟩:=h
 exact⟨h1.keptF hg (fun r e=>(hr r e).2),⟨v,h2.keptF hg (fun r e=>(hr r e).2)⟩,ownFrom_below (β:=Unit) (Nat.le_refl _) (Nat.le_refl _) () X Y row h4 hg hr,Nat.le_trans h5 hg.size⟩
def CrJ (w:World) (Vb:Option Addr) (db:Nat) (us vs:List Pt) (k:Nat) (W:World):Prop:=(∀ i,i<k→∀ j,j<vs.length→Cal.crosS (Cal.sd us i) (Cal.sd vs j)=false)∧CrI w Vb vs.length db W
def CrX (w:World) (us vs:List Pt) (c:Code) (_:Nat) (W:World):Prop:=c=.ret∧Cal.crossP us vs=true∧BoxAt W (w.heap.size+1) [.bool true]∧Below w.heap.size w W
def CrJ2 (w:World) (Vb:Option Addr) (nb db B Bs Bx:Nat) (W:World) (s:Sd) (vs:List Pt) (k:Nat) (Y:World):Prop :=
 (∀ j,j<k→Cal.crosS s (Cal.sd vs j)=false)∧CrI w Vb nb db Y∧BoxAt Y Bx [.int .i64 s.a.x,.int .i64 s.a.y,.int .i64 s.b.x,.int .i64 s.b.y]∧Rd B w.heap.size Bs W Y∧W.heap.size+1≤Y.heap.size
def CrX2 (w:World) (B Bs:Nat) (W:World) (s:Sd) (vs:List Pt) (c:Code) (k:Nat) (Y:World):Prop :=
 c=.ret∧k<vs.length∧Cal.crosS s (Cal.sd vs k)=true∧BoxAt Y (w.heap.size+1) [.bool true]∧Below w.heap.size w Y∧Rd B w.heap.size Bs W Y
theorem crJ_own (w:World) (Vb:Option Addr) (db:Nat) (us vs:List Pt) (B:Nat) (hB:w.heap.size≤B):OwnFrom B (CrJ w Vb db us vs):=fun _ _ _ _ hs hg hr =>
 ⟨hs.1,hs.2.kept hg (fun r e=>⟨Nat.le_trans hB (hr r e).1,(hr r e).2⟩)⟩
theorem crX_own (w:World) (us vs:List Pt) (B:Nat) (hB:w.heap.size≤B) (c:Code):OwnFrom B (CrX w us vs c):=fun k X Y row hs hg hr=>by
 obtain⟨h1,h2,h3,h4⟩:=hs
 exact⟨h1,h2,h3.keptF hg (fun r e=>(hr r e).2),ownFrom_below (β:=Unit) (Nat.le_refl _) hB () X Y row h4 hg hr⟩
theorem crJ2_own (w:World) (Vb:Option Addr) (nb db B Bs Bx:Nat) (W:World) (s:Sd) (vs:List Pt) (B':Nat) (hB:W.heap.size≤B') (hn:w.heap.size≤W.heap.size) (hs:Bs<W.heap.size):OwnFrom B' (CrJ2 w Vb nb db B Bs Bx W s vs):=fun k X Y row h hg hr =>
 ⟨h.1,h.2.1.kept hg (fun r e=>⟨by have:=(hr r e).1;omega,(hr r e).2⟩),h.2.2.1.keptF hg (fun r e=>(hr r e).2),rd_own (β:=Nat) hB hn hs k X Y row h.2.2.2.1 hg hr,Nat.le_trans h.2.2.2.2 hg.size⟩
theorem crX2_own (w:World) (B Bs:Nat) (W:World) (s:Sd) (vs:List Pt) (B':Nat) (hB:W.heap.size≤B') (hn:w.heap.size≤W.heap.size) (hs:Bs<W.heap.size) (c:Code):OwnFrom B' (CrX2 w B Bs W s vs c):=fun k X Y row h hg hr=>by
 obtain⟨h1,h2,h3,h4,h5,h6⟩:=h
 exact⟨h1,h2,h3,h4.keptF hg (fun r e=>(hr r e).2),ownFrom_below (β:=Unit) (Nat.le_refl _) (by omega) () X Y row h5 hg hr,rd_own (β:=Nat) hB hn hs k X Y row h6 hg hr⟩
theorem crossP_true {us vs:List Pt} {i j:Nat} (hi:i<us.length) (hj:j<vs.length) (h:Cal.crosS (Cal.sd us i) (Cal.sd vs j)=true):Cal.crossP us vs=true:=by
 unfold Cal.crossP Cal.sds
 rw[List.any_eq_true]
 refine⟨_,List.mem_map.2 ⟨i,List.mem_range.2 hi,rfl⟩,?_⟩
 rw[List.any_eq_true]
 exact⟨_,List.mem_map.2 ⟨j,List.mem_range.2 hj,rfl⟩,h⟩
theorem crossP_false {us vs:List Pt} (h:∀ i,i<us.length→∀ j,j<vs.length→Cal.crosS (Cal.sd us i) (Cal.sd vs j)=false):Cal.crossP us vs=false:=by
 unfold Cal.crossP Cal.sds
 rw[List.any_eq_false]
 rintro x hx
 obtain⟨i,hi,rfl⟩:=List.mem_map.1 hx
 rw[Bool.not_eq_true,List.any_eq_false]
 rintro y hy
 obtain⟨j,hj,rfl⟩:=List.mem_map.1 hy
 rw[h i (List.mem_range.1 hi) j (List.mem_range.1 hj)]
 decide
theorem crossing_any (Va Vb:Option Addr) (da db:Nat) (us vs:List Pt) (w:World) (hA:Pts w Va us) (hB:Pts w Vb vs) :
  Calls Tryz.prog 56 #[.slice Va us.length da,.slice Vb vs.length db] w fun e w'=>e=.returned (.bool (Cal.crossP us vs))∧Below w.heap.size w w':=by
 refine (callsIn_wide (n:=6)).1 ?_
 refine callsIn_of_wp_marks Tryz.func56 rfl trivial ?_ rfl
 simp only[Tryz.ntmps56,List.size_toArray,List.length_cons,List.length_nil,Nat.reduceAdd,Nat.reduceSub,Array.replicate_succ,Array.replicate_zero,List.push_toArray,List.append_toArray,List.nil_append,List.cons_append]
 gi_wp2_with (refine⟨trivial,?_⟩;gi_at_call 52;refine (callsIn_wide.2 (sides_any _ _ _ _)).mono ?_;rintro e w' ⟨rfl,rfl⟩)
 have bB:=((BoxAt.new w #[.slice Vb vs.length db] 44).alloc (.cells #[.bool false] 4)).alloc (.cells #[.slice Va us.length da] 44)
 have bR:=(BoxAt.new (w.alloc (.cells #[.slice Vb vs.length db] 44)) #[.bool false] 4).alloc (.cells #[.slice Va us.length da] 44)
 have bS:=BoxAt.new ((w.alloc (.cells #[.slice Vb vs.length db] 44)).alloc (.cells #[.bool false] 4)) #[.slice Va us.length da] 44
 have hB0:Below w.heap.size w (((w.alloc (.cells #[.slice Vb vs.length db] 44)).alloc (.cells #[.bool false] 4)).alloc (.cells #[.slice Va us.length da] 44)):=below_step (below_step (below_alloc _ _) (below_alloc _ _)) (below_alloc _ _)
 have hs0:((((w.alloc (.cells #[.slice Vb vs.length db] 44)).alloc (.cells #[.bool false] 4)).alloc (.cells #[.slice Va us.length da] 44))).heap.size=w.heap.size+3:=by simp
 simp only[World.size_alloc] at bR bS
 obtain⟨W0,hW0⟩:∃ W0,(((w.alloc (.cells #[.slice Vb vs.length db] 44)).alloc (.cells #[.bool false] 4)).alloc (.cells #[.slice Va us.length da] 44))=W0:=⟨_,rfl⟩
 rw[hW0] at bB bR bS hB0 hs0 ⊢
 clear hW0
 have hA0:=hA.below hB0
 refine wpIn_range_sides (Bs:=w.heap.size+1+1) (n₀:=w.heap.size) (V:=Va) (d:=da) (ps:=us) (by omega) rfl rfl (bS.c 0 _ rfl) (by omega) hA0 (by omega) hA.own
  (CrJ w Vb db us vs) (CrX w us vs) (crJ_own w Vb db us vs _ (by omega)) (crX_own w us vs _ (by omega)) ⟨fun i hi=>by omega,bB,⟨_,bR⟩,hB0,by omega⟩
  (fun x a' W=>∃ Bx,W0.heap.size≤Bx∧BoxAt W Bx [.int .i64 x.2.a.x,.int .i64 x.2.a.y,.int .i64 x.2.b.x,.int .i64 x.2.b.y]∧a'={ tmps:=#[.slice Va us.length da,.slice Vb vs.length db,undef,.pointer (some ⟨w.heap.size,0,none⟩),.pointer (some ⟨w.heap.size+1,0,none⟩),undef,.pointer (some ⟨Bx,0,none⟩),undef,undef,.slice Va us.length da,.func (.func 71) #[] #[.pointer (some ⟨w.heap.size+1+1,0,none⟩)],.int .i64 (x.1:Int),.agg #[.int .i64 x.2.a.x,.int .i64 x.2.a.y,.int .i64 x.2.b.x,.int .i64 x.2.b.y],undef,undef,undef,undef,undef,undef,undef],defers:=[] })
  (fun x a' _ X Y row hs hg hr=>by obtain⟨Bx,e1,e2,e3⟩:=hs;exact⟨Bx,e1,e2.keptF hg (fun r e=>(hr r e).2),e3⟩)
  ?assign ?body ?done ?stop
 case assign =>
  rintro l k W K hk ⟨hc,hI⟩ hK
  gi_wp2
  have hz:=hI.size
  exact hK _ _ ((KeepsOthers.alloc _ _).from _) (KpS.below (below_alloc _ _) hI.bel.size (by omega)) ⟨hc,hI.below (below_alloc _ _)⟩ ⟨W.heap.size,by omega,BoxAt.new W #[.int .i64 (Cal.sd us k).a.x,.int .i64 (Cal.sd us k).a.y,.int .i64 (Cal.sd us k).b.x,.int .i64 (Cal.sd us k).b.y] _,rfl⟩
 case body =>
  rintro l k a' W hl ⟨r,hr⟩ hk ⟨hc,hI⟩ ⟨Bx,hBx,bX,rfl⟩
  have hsd:=hA.sd k hk
  have hz:=hI.size
  have b0:=hI.b.c 0 _ rfl
  have hIz:=Lib.hid hI
  have bXz:=Lib.hid bX
  have hcz:=Lib.hid hc
  clear hI bX hc
  gi_wp2_with (refine⟨trivial,?_⟩;gi_at_call 52;refine (callsIn_wide.2 (sides_any _ _ _ _)).mono ?_;rintro e w' ⟨rfl,rfl⟩)
  have hbw:Below W.heap.size W (W.alloc (.cells #[.slice Vb vs.length db] 44)):=below_alloc _ _
  have bT:=BoxAt.new W #[.slice Vb vs.length db] 44
  have hI1:=hIz.out.below hbw
  have hs1:(W.alloc (.cells #[.slice Vb vs.length db] 44)).heap.size=W.heap.size+1:=by simp
  have hr1:(W.alloc (.cells #[.slice Vb vs.length db] 44)).heap[l]?=some (.loop r):=(hbw.block l (Array.getElem?_eq_some_iff.1 hr).1).trans hr
  obtain⟨W1,hW1⟩:∃ W1,W.alloc (.cells #[.slice Vb vs.length db] 44)=W1:=⟨_,rfl⟩
  rw[hW1] at bT hI1 hs1 hr1 hbw ⊢
  clear hW1
  refine wpIn_range_sidesN hr1 (Bs:=W.heap.size) (n₀:=w.heap.size) (V:=Vb) (d:=db) (ps:=vs) (by omega) rfl rfl (bT.c 0 _ rfl) (by omega) (hB.below hI1.bel) (by omega) hB.own
   (CrJ2 w Vb vs.length db W0.heap.size (w.heap.size+1+1) Bx W (Cal.sd us k) vs) (CrX2 w W0.heap.size (w.heap.size+1+1) W (Cal.sd us k) vs) (crJ2_own w Vb vs.length db W0.heap.size (w.heap.size+1+1) Bx W _ vs _ (by omega) (by omega) (by omega)) (crX2_own w W0.heap.size (w.heap.size+1+1) W _ vs _ (by omega) (by omega) (by omega)) ⟨fun j hj=>by omega,hI1,bXz.out.below hbw,Rd.below hbw (by omega) (by omega),by omega⟩
   (fun x a' Y=>∃ By,W1.heap.size≤By∧BoxAt Y By [.int .i64 x.2.a.x,.int .i64 x.2.a.y,.int .i64 x.2.b.x,.int .i64 x.2.b.y]∧a'={ tmps:=#[.slice Va us.length da,.slice Vb vs.length db,undef,.pointer (some ⟨w.heap.size,0,none⟩),.pointer (some ⟨w.heap.size+1,0,none⟩),undef,.pointer (some ⟨Bx,0,none⟩),undef,.pointer (some ⟨By,0,none⟩),.slice Va us.length da,.func (.func 71) #[] #[.pointer (some ⟨w.heap.size+1+1,0,none⟩)],.int .i64 (k:Int),.agg #[.int .i64 (Cal.sd us k).a.x,.int .i64 (Cal.sd us k).a.y,.int .i64 (Cal.sd us k).b.x,.int .i64 (Cal.sd us k).b.y],.slice Vb vs.length db,.func (.func 71) #[] #[.pointer (some ⟨W.heap.size,0,none⟩)],.int .i64 (x.1:Int),.agg #[.int .i64 x.2.a.x,.int .i64 x.2.a.y,.int .i64 x.2.b.x,.int .i64 x.2.b.y],undef,undef,undef],defers:=[] })
   (fun x a' _ X Y row hs hg hr=>by obtain⟨By,e1,e2,e3⟩:=hs;exact⟨By,e1,e2.keptF hg (fun r e=>(hr r e).2),e3⟩)
   ?assign2 ?body2 ?done2 ?stop2
  case assign2 =>
   rintro l2 j Y K hj ⟨hc2,hI2,bX2,hR2,hz2⟩ hK
   gi_wp2
   have hz3:=hI2.size
   exact hK _ _ ((KeepsOthers.alloc _ _).from _) (KpS.below (below_alloc _ _) (by omega) (by omega)) ⟨hc2,hI2.below (below_alloc _ _),bX2.alloc _,hR2.trans (Rd.below (below_alloc _ _) (by omega) (by omega)),by simp;omega⟩ ⟨Y.heap.size,by omega,BoxAt.new Y #[.int .i64 (Cal.sd vs j).a.x,.int .i64 (Cal.sd vs j).a.y,.int .i64 (Cal.sd vs j).b.x,.int .i64 (Cal.sd vs j).b.y] _,rfl⟩
  case body2 =>
   rintro l2 j a' Y hl2 ⟨r2,hr2⟩ hj ⟨hc2,hI2,bX2,hR2,hz2⟩ ⟨By,hBy,bY,rfl⟩
   have hse:=hB.sd j hj
   obtain⟨e0,e1,e2,e3⟩:=bX2.c4;obtain⟨g0,g1,g2,g3⟩:=bY.c4
   have hAll:=Lib.hid (And.intro hc2 (And.intro hI2 (And.intro bX2 hR2)))
   clear hc2 hI2 bX2 hR2 bY
   dsimp only at g0 g1 g2 g3
   generalize Cal.sd us k=s at *
   obtain⟨t,ht⟩:∃ t,Cal.sd vs j=t:=⟨_,rfl⟩
   rw[ht] at g0 g1 g2 g3 hse ⊢
   have ht:=Lib.hid ht
   obtain⟨cb,hcb⟩:∃ cb,Cal.crosS s t=cb:=⟨_,rfl⟩
   have hcb:=Lib.hid hcb
   cases cb
   ·gi_wp2_with (refine⟨trivial,?_⟩;gi_at_call 72;refine (callsIn_wide.2 (crosses_any s t _ hsd hse)).mono ?_;rintro e wn ⟨rfl,hbn⟩;rw[hcb.out])
    obtain⟨hc2,hI2,bX2,hR2⟩:=hAll.out
    have hz4:=hbn.size
    refine⟨(keepsF_below hbn).from _,KpS.below hbn (by omega) (by omega),fun i hi=>?_,hI2.below hbn,bX2.below hbn,hR2.trans (Rd.below hbn (by omega) (by omega)),by omega⟩
    by_cases hij:i=j
    ·subst hij;rw[ht.out];exact hcb.out
    exact hc2 i (by omega)
   gi_wp2_with (refine⟨trivial,?_⟩;gi_at_call 72;refine (callsIn_wide.2 (crosses_any s t _ hsd hse)).mono ?_;rintro e wn ⟨rfl,hbn⟩;rw[hcb.out];have hIz:=Lib.hid (hAll.out.2.1.below hbn);have hbz:=Lib.hid hbn;clear hbn;obtain⟨rv,hrv⟩:=hIz.out.r;have r0:=hrv.c 0 _ rfl;have r1:=hrv.free 0 Nat.zero_lt_one;have hrv:=Lib.hid hrv)
   obtain⟨hc2,hI2,bX2,hR2⟩:=hAll.out
   refine⟨((keepsF_below hbz.out).trans (KeepsOthers.setCell _ _ _)).from _,(KpS.below hbz.out (by omega) (by omega)).trans (KpS.set _ (by omega) (by omega)),rfl,hj,by rw[ht.out];exact hcb.out,hrv.out.set 0 _ Nat.zero_lt_one,hIz.out.bel.setCell (p:=⟨w.heap.size+1,0,none⟩) (Nat.le_succ _) _,hR2.trans ((Rd.below hbz.out (by omega) (by omega)).trans (Rd.set _ (Nat.le_succ _) (by omega)))⟩
  case done2 =>
   rintro Y ⟨hc2,hI2,bX2,hR2,hz2⟩
   gi_wp2
   refine⟨(by have h:=hR2.keeps;rwa [hs0] at h),hR2.kp,fun i hi=>?_,hI2⟩
   by_cases hik:i=k
   ·subst hik;exact hc2
   exact hcz.out i (by omega)
  case stop2 =>
   rintro c j Y hj ⟨rfl,h2,h3,h4,h5,h6⟩
   gi_wp2
   exact⟨(by have h:=h6.keeps;rwa [hs0] at h),h6.kp,rfl,crossP_true hk hj h3,h4,h5⟩
 case done =>
  rintro D W hD ⟨hc,hI⟩ hK
  obtain⟨v,hr⟩:=hI.r
  have r0:=hr.c 0 _ rfl
  have r1:=hr.free 0 Nat.zero_lt_one
  have hAll:=Lib.hid (And.intro hc (And.intro hI (And.intro hK hr)))
  clear hc hI hK hr
  gi_wp2
  obtain⟨hc,hI,hK,hr⟩:=hAll.out
  have hr1:=hr.set 0 (.bool false) Nat.zero_lt_one
  have hK':=(KeepsOthers.setCell W ⟨w.heap.size+1,0,none⟩ (.bool false)).same D _ hK rfl
  have ho':Others (W.setCell ⟨w.heap.size+1,0,none⟩ (.bool false)) (some D):=fun r e=>by cases e;exact⟨_,hK',rfl⟩
  refine⟨by simp,.inl ⟨_,_,rfl,run_takeDeferred hK',?_⟩⟩
  have q5:=(hr1.keptF (grownBy_putObj' _ D (.deferred none)) ho').c 0 _ rfl
  exact⟨_,results_c1 rfl _ _ ⟨w.heap.size+1,0,none⟩ (.bool false) rfl (by simp[loadVar,go_sem,q5]),by rw[crossP_false hc],belowF_put (hI.bel.setCell (p:=⟨w.heap.size+1,0,none⟩) (Nat.le_succ _) _) (by omega) _⟩
 case stop =>
  rintro D c k W hD hk ⟨rfl,h0,hR,hB⟩ hK
  have hAll:=Lib.hid (And.intro h0 (And.intro hR (And.intro hB hK)))
  clear h0 hR hB hK
  gi_wp2
  obtain⟨h0,hR,hB,hK⟩:=hAll.out
  have ho':Others W (some D):=fun r e=>by cases e;exact⟨_,hK,rfl⟩
  refine⟨by simp,.inl ⟨_,_,rfl,run_takeDeferred hK,?_⟩⟩
  have q5:=(hR.keptF (grownBy_putObj' W D (.deferred none)) ho').c 0 _ rfl
  exact⟨_,results_c1 rfl _ _ ⟨w.heap.size+1,0,none⟩ (.bool true) rfl (by simp[loadVar,go_sem,q5]),by rw[h0],belowF_put hB (by omega) _⟩
end Go.Proofs.YtoojdkaimhlcbaaGreat
namespace Go.Proofs.YtoojdkaimhlcbaaGreat
open Go Go.RowKit
theorem meets_any (s t:Sd) (w:World) (hs:SmS s) (ht:SmS t) :
  Calls Tryz.prog 91 #[.agg #[.int .i64 s.a.x,.int .i64 s.a.y,.int .i64 s.b.x,.int .i64 s.b.y],.agg #[.int .i64 t.a.x,.int .i64 t.a.y,.int .i64 t.b.x,.int .i64 t.b.y]] w fun e w'=>e=.returned (.bool (Cal.meetS s t))∧Below w.heap.size w w':=by
 rcases Bool.eq_false_or_eq_true (Cal.crosS s t) with h1 | h1
 ·have h1:=Lib.hid h1
  have hS:Hid (Sx w [(w.heap.size,0,.int .i64 s.a.x),(w.heap.size,1,.int .i64 s.a.y),(w.heap.size,2,.int .i64 s.b.x),(w.heap.size,3,.int .i64 s.b.y),(w.heap.size+1,0,.int .i64 t.a.x),(w.heap.size+1,1,.int .i64 t.a.y),(w.heap.size+1,2,.int .i64 t.b.x),(w.heap.size+1,3,.int .i64 t.b.y)] ((w.alloc (.cells #[.int .i64 s.a.x,.int .i64 s.a.y,.int .i64 s.b.x,.int .i64 s.b.y] 105)).alloc (.cells #[.int .i64 t.a.x,.int .i64 t.a.y,.int .i64 t.b.x,.int .i64 t.b.y] 105))):=⟨by simp[cs_iff_cons,cs_nil],blw⟩
  obtain⟨c0,c1,c2,c3,c4,c5,c6,c7,_⟩:_∧_∧_∧_∧_∧_∧_∧_∧_:=by have h:=hS.out.cs;simp only[cs_iff_cons] at h;exact h
  go_enter Tryz.func91,Tryz.ntmps91
  go_wp2_with fail
  refine (crosses_any s t _ hs ht).mono ?_
  rintro e wn ⟨rfl,hbn⟩
  rw[h1.out]
  clear c0 c1 c2 c3 c4 c5 c6 c7
  have hS:=Lib.hid (hS.out.step hbn)
  clear hbn
  obtain⟨c0,c1,c2,c3,c4,c5,c6,c7,_⟩:_∧_∧_∧_∧_∧_∧_∧_∧_:=by have h:=hS.out.cs;simp only[cs_iff_cons] at h;exact h
  go_wp2_with fail
  go_ret
  exact⟨ret_bool (by unfold Cal.meetS;simp[h1.out]),hS.out.bel⟩
 have h1:=Lib.hid h1
 rcases Bool.eq_false_or_eq_true (Cal.hasP s t.a) with h2 | h2
 ·have h2:=Lib.hid h2
  have hS:Hid (Sx w [(w.heap.size,0,.int .i64 s.a.x),(w.heap.size,1,.int .i64 s.a.y),(w.heap.size,2,.int .i64 s.b.x),(w.heap.size,3,.int .i64 s.b.y),(w.heap.size+1,0,.int .i64 t.a.x),(w.heap.size+1,1,.int .i64 t.a.y),(w.heap.size+1,2,.int .i64 t.b.x),(w.heap.size+1,3,.int .i64 t.b.y)] ((w.alloc (.cells #[.int .i64 s.a.x,.int .i64 s.a.y,.int .i64 s.b.x,.int .i64 s.b.y] 105)).alloc (.cells #[.int .i64 t.a.x,.int .i64 t.a.y,.int .i64 t.b.x,.int .i64 t.b.y] 105))):=⟨by simp[cs_iff_cons,cs_nil],blw⟩
  obtain⟨c0,c1,c2,c3,c4,c5,c6,c7,_⟩:_∧_∧_∧_∧_∧_∧_∧_∧_:=by have h:=hS.out.cs;simp only[cs_iff_cons] at h;exact h
  go_enter Tryz.func91,Tryz.ntmps91
  go_wp2_with fail
  refine (crosses_any s t _ hs ht).mono ?_
  rintro e wn ⟨rfl,hbn⟩
  rw[h1.out]
  clear c0 c1 c2 c3 c4 c5 c6 c7
  have hS:=Lib.hid (hS.out.step hbn)
  clear hbn
  obtain⟨c0,c1,c2,c3,c4,c5,c6,c7,_⟩:_∧_∧_∧_∧_∧_∧_∧_∧_:=by have h:=hS.out.cs;simp only[cs_iff_cons] at h;exact h
  go_wp2_with fail
  refine (has_any s t.a _ hs ht.a).mono ?_
  rintro e wn ⟨rfl,hbn⟩
  rw[h2.out]
  clear c0 c1 c2 c3 c4 c5 c6 c7
  have hS:=Lib.hid (hS.out.step hbn)
  clear hbn
  obtain⟨c0,c1,c2,c3,c4,c5,c6,c7,_⟩:_∧_∧_∧_∧_∧_∧_∧_∧_:=by have h:=hS.out.cs;simp only[cs_iff_cons] at h;exact h
  go_wp2_with fail
  go_ret
  exact⟨ret_bool (by unfold Cal.meetS;simp[h1.out,h2.out]),hS.out.bel⟩
 have h2:=Lib.hid h2
 rcases Bool.eq_false_or_eq_true (Cal.hasP s t.b) with h3 | h3
 ·have h3:=Lib.hid h3
  have hS:Hid (Sx w [(w.heap.size,0,.int .i64 s.a.x),(w.heap.size,1,.int .i64 s.a.y),(w.heap.size,2,.int .i64 s.b.x),(w.heap.size,3,.int .i64 s.b.y),(w.heap.size+1,0,.int .i64 t.a.x),(w.heap.size+1,1,.int .i64 t.a.y),(w.heap.size+1,2,.int .i64 t.b.x),(w.heap.size+1,3,.int .i64 t.b.y)] ((w.alloc (.cells #[.int .i64 s.a.x,.int .i64 s.a.y,.int .i64 s.b.x,.int .i64 s.b.y] 105)).alloc (.cells #[.int .i64 t.a.x,.int .i64 t.a.y,.int .i64 t.b.x,.int .i64 t.b.y] 105))):=⟨by simp[cs_iff_cons,cs_nil],blw⟩
  obtain⟨c0,c1,c2,c3,c4,c5,c6,c7,_⟩:_∧_∧_∧_∧_∧_∧_∧_∧_:=by have h:=hS.out.cs;simp only[cs_iff_cons] at h;exact h
  go_enter Tryz.func91,Tryz.ntmps91
  go_wp2_with fail
  refine (crosses_any s t _ hs ht).mono ?_
  rintro e wn ⟨rfl,hbn⟩
  rw[h1.out]
  clear c0 c1 c2 c3 c4 c5 c6 c7
  have hS:=Lib.hid (hS.out.step hbn)
  clear hbn
  obtain⟨c0,c1,c2,c3,c4,c5,c6,c7,_⟩:_∧_∧_∧_∧_∧_∧_∧_∧_:=by have h:=hS.out.cs;simp only[cs_iff_cons] at h;exact h
  go_wp2_with fail
  refine (has_any s t.a _ hs ht.a).mono ?_
  rintro e wn ⟨rfl,hbn⟩
  rw[h2.out]
  clear c0 c1 c2 c3 c4 c5 c6 c7
  have hS:=Lib.hid (hS.out.step hbn)
  clear hbn
  obtain⟨c0,c1,c2,c3,c4,c5,c6,c7,_⟩:_∧_∧_∧_∧_∧_∧_∧_∧_:=by have h:=hS.out.cs;simp only[cs_iff_cons] at h;exact h
  go_wp2_with fail
  refine (has_any s t.b _ hs ht.b).mono ?_
  rintro e wn ⟨rfl,hbn⟩
  rw[h3.out]
  clear c0 c1 c2 c3 c4 c5 c6 c7
  have hS:=Lib.hid (hS.out.step hbn)
  clear hbn
  obtain⟨c0,c1,c2,c3,c4,c5,c6,c7,_⟩:_∧_∧_∧_∧_∧_∧_∧_∧_:=by have h:=hS.out.cs;simp only[cs_iff_cons] at h;exact h
  go_wp2_with fail
  go_ret
  exact⟨ret_bool (by unfold Cal.meetS;simp[h1.out,h2.out,h3.out]),hS.out.bel⟩
 have h3:=Lib.hid h3
 rcases Bool.eq_false_or_eq_true (Cal.hasP t s.a) with h4 | h4
 ·have h4:=Lib.hid h4
  have hS:Hid (Sx w [(w.heap.size,0,.int .i64 s.a.x),(w.heap.size,1,.int .i64 s.a.y),(w.heap.size,2,.int .i64 s.b.x),(w.heap.size,3,.int .i64 s.b.y),(w.heap.size+1,0,.int .i64 t.a.x),(w.heap.size+1,1,.int .i64 t.a.y),(w.heap.size+1,2,.int .i64 t.b.x),(w.heap.size+1,3,.int .i64 t.b.y)] ((w.alloc (.cells #[.int .i64 s.a.x,.int .i64 s.a.y,.int .i64 s.b.x,.int .i64 s.b.y] 105)).alloc (.cells #[.int .i64 t.a.x,.int .i64 t.a.y,.int .i64 t.b.x,.int .i64 t.b.y] 105))):=⟨by simp[cs_iff_cons,cs_nil],blw⟩
  obtain⟨c0,c1,c2,c3,c4,c5,c6,c7,_⟩:_∧_∧_∧_∧_∧_∧_∧_∧_:=by have h:=hS.out.cs;simp only[cs_iff_cons] at h;exact h
  go_enter Tryz.func91,Tryz.ntmps91
  go_wp2_with fail
  refine (crosses_any s t _ hs ht).mono ?_
  rintro e wn ⟨rfl,hbn⟩
  rw[h1.out]
  clear c0 c1 c2 c3 c4 c5 c6 c7
  have hS:=Lib.hid (hS.out.step hbn)
  clear hbn
  obtain⟨c0,c1,c2,c3,c4,c5,c6,c7,_⟩:_∧_∧_∧_∧_∧_∧_∧_∧_:=by have h:=hS.out.cs;simp only[cs_iff_cons] at h;exact h
  go_wp2_with fail
  refine (has_any s t.a _ hs ht.a).mono ?_
  rintro e wn ⟨rfl,hbn⟩
  rw[h2.out]
  clear c0 c1 c2 c3 c4 c5 c6 c7
  have hS:=Lib.hid (hS.out.step hbn)
  clear hbn
  obtain⟨c0,c1,c2,c3,c4,c5,c6,c7,_⟩:_∧_∧_∧_∧_∧_∧_∧_∧_:=by have h:=hS.out.cs;simp only[cs_iff_cons] at h;exact h
  go_wp2_with fail
  refine (has_any s t.b _ hs ht.b).mono ?_
  rintro e wn ⟨rfl,hbn⟩
  rw[h3.out]
  clear c0 c1 c2 c3 c4 c5 c6 c7
  have hS:=Lib.hid (hS.out.step hbn)
  clear hbn
  obtain⟨c0,c1,c2,c3,c4,c5,c6,c7,_⟩:_∧_∧_∧_∧_∧_∧_∧_∧_:=by have h:=hS.out.cs;simp only[cs_iff_cons] at h;exact h
  go_wp2_with fail
  refine (has_any t s.a _ ht hs.a).mono ?_
  rintro e wn ⟨rfl,hbn⟩
  rw[h4.out]
  clear c0 c1 c2 c3 c4 c5 c6 c7
  have hS:=Lib.hid (hS.out.step hbn)
  clear hbn
  obtain⟨c0,c1,c2,c3,c4,c5,c6,c7,_⟩:_∧_∧_∧_∧_∧_∧_∧_∧_:=by have h:=hS.out.cs;simp only[cs_iff_cons] at h;exact h
  go_wp2_with fail
  go_ret
  exact⟨ret_bool (by unfold Cal.meetS;simp[h1.out,h2.out,h3.out,h4.out]),hS.out.bel⟩
 have h4:=Lib.hid h4
 have h5:Hid (Cal.hasP t s.b=Cal.hasP t s.b∧True):=⟨rfl,trivial⟩
 have hS:Hid (Sx w [(w.heap.size,0,.int .i64 s.a.x),(w.heap.size,1,.int .i64 s.a.y),(w.heap.size,2,.int .i64 s.b.x),(w.heap.size,3,.int .i64 s.b.y),(w.heap.size+1,0,.int .i64 t.a.x),(w.heap.size+1,1,.int .i64 t.a.y),(w.heap.size+1,2,.int .i64 t.b.x),(w.heap.size+1,3,.int .i64 t.b.y)] ((w.alloc (.cells #[.int .i64 s.a.x,.int .i64 s.a.y,.int .i64 s.b.x,.int .i64 s.b.y] 105)).alloc (.cells #[.int .i64 t.a.x,.int .i64 t.a.y,.int .i64 t.b.x,.int .i64 t.b.y] 105))):=⟨by simp[cs_iff_cons,cs_nil],blw⟩
 obtain⟨c0,c1,c2,c3,c4,c5,c6,c7,_⟩:_∧_∧_∧_∧_∧_∧_∧_∧_:=by have h:=hS.out.cs;simp only[cs_iff_cons] at h;exact h
 go_enter Tryz.func91,Tryz.ntmps91
 go_wp2_with fail
 refine (crosses_any s t _ hs ht).mono ?_
 rintro e wn ⟨rfl,hbn⟩
 rw[h1.out]
 clear c0 c1 c2 c3 c4 c5 c6 c7
 have hS:=Lib.hid (hS.out.step hbn)
 clear hbn
 obtain⟨c0,c1,c2,c3,c4,c5,c6,c7,_⟩:_∧_∧_∧_∧_∧_∧_∧_∧_:=by have h:=hS.out.cs;simp only[cs_iff_cons] at h;exact h
 go_wp2_with fail
 refine (has_any s t.a _ hs ht.a).mono ?_
 rintro e wn ⟨rfl,hbn⟩
 rw[h2.out]
 clear c0 c1 c2 c3 c4 c5 c6 c7
 have hS:=Lib.hid (hS.out.step hbn)
 clear hbn
 obtain⟨c0,c1,c2,c3,c4,c5,c6,c7,_⟩:_∧_∧_∧_∧_∧_∧_∧_∧_:=by have h:=hS.out.cs;simp only[cs_iff_cons] at h;exact h
 go_wp2_with fail
 refine (has_any s t.b _ hs ht.b).mono ?_
 rintro e wn ⟨rfl,hbn⟩
 rw[h3.out]
 clear c0 c1 c2 c3 c4 c5 c6 c7
 have hS:=Lib.hid (hS.out.step hbn)
 clear hbn
 obtain⟨c0,c1,c2,c3,c4,c5,c6,c7,_⟩:_∧_∧_∧_∧_∧_∧_∧_∧_:=by have h:=hS.out.cs;simp only[cs_iff_cons] at h;exact h
 go_wp2_with fail
 refine (has_any t s.a _ ht hs.a).mono ?_
 rintro e wn ⟨rfl,hbn⟩
 rw[h4.out]
 clear c0 c1 c2 c3 c4 c5 c6 c7
 have hS:=Lib.hid (hS.out.step hbn)
 clear hbn
 obtain⟨c0,c1,c2,c3,c4,c5,c6,c7,_⟩:_∧_∧_∧_∧_∧_∧_∧_∧_:=by have h:=hS.out.cs;simp only[cs_iff_cons] at h;exact h
 go_wp2_with fail
 refine (has_any t s.b _ ht hs.b).mono ?_
 rintro e wn ⟨rfl,hbn⟩
 have hS:=Lib.hid (hS.out.step hbn)
 clear hbn c0 c1 c2 c3 c4 c5 c6 c7
 go_wp2_with fail
 go_ret
 exact⟨ret_bool (by unfold Cal.meetS;simp[h1.out,h2.out,h3.out,h4.out]),hS.out.bel⟩
theorem along_any (s:Sd) (p q:Pt) (w:World) (hs:SmS s) (hp:SmP p) (hq:SmP q) :
  Calls Tryz.prog 80 #[.agg #[.int .i64 s.a.x,.int .i64 s.a.y,.int .i64 s.b.x,.int .i64 s.b.y],.agg #[.int .i64 p.x,.int .i64 p.y],.agg #[.int .i64 q.x,.int .i64 q.y]] w fun e w'=>e=.returned (.int .i64 (Cal.alongS s p q))∧Below w.heap.size w w':=by
 have hS:Hid (Sx w [(w.heap.size+1+1,0,.int .i64 q.x),(w.heap.size+1+1,1,.int .i64 q.y),(w.heap.size+1,0,.int .i64 p.x),(w.heap.size+1,1,.int .i64 p.y),(w.heap.size,0,.int .i64 s.a.x),(w.heap.size,1,.int .i64 s.a.y),(w.heap.size,2,.int .i64 s.b.x),(w.heap.size,3,.int .i64 s.b.y)] (((w.alloc (.cells #[.int .i64 s.a.x,.int .i64 s.a.y,.int .i64 s.b.x,.int .i64 s.b.y] 105)).alloc (.cells #[.int .i64 p.x,.int .i64 p.y] 61)).alloc (.cells #[.int .i64 q.x,.int .i64 q.y] 61))):=(((Sx.init w).box4).box2).box2
 obtain⟨_,_,_,_,c0,c1,c2,c3,_⟩:_∧_∧_∧_∧_∧_∧_∧_∧_:=by have h:=hS.out.cs;simp only[cs_iff_cons] at h;exact h
 have x0:=hs.a.x0
 have x1:=hs.a.x1
 have x2:=hs.a.y0
 have x3:=hs.a.y1
 have x4:=hs.b.x0
 have x5:=hs.b.x1
 have x6:=hs.b.y0
 have x7:=hs.b.y1
 have x8:=hp.x0
 have x9:=hp.x1
 have x10:=hp.y0
 have x11:=hp.y1
 have y8:=hq.x0
 have y9:=hq.x1
 have y10:=hq.y0
 have y11:=hq.y1
 go_enter Tryz.func80,Tryz.ntmps80
 go_wp2_with fail
 refine (to_any s.a s.b _ hs.a hs.b).mono ?_
 rintro e wn ⟨rfl,hbn⟩
 have hS:=Lib.hid (hS.out.step hbn)
 clear hbn
 go_wp2_with fail
 refine wp_region_held_drew (S:=Sx w [(wn.heap.size,0,.int .i64 (s.b.x-s.a.x)),(wn.heap.size,1,.int .i64 (s.b.y-s.a.y)),(w.heap.size+1+1,0,.int .i64 q.x),(w.heap.size+1+1,1,.int .i64 q.y),(w.heap.size+1,0,.int .i64 p.x),(w.heap.size+1,1,.int .i64 p.y),(w.heap.size,0,.int .i64 s.a.x),(w.heap.size,1,.int .i64 s.a.y),(w.heap.size,2,.int .i64 s.b.x),(w.heap.size,3,.int .i64 s.b.y)]) (by kernel_rfl) (hS.out.box2).drew (fun hHeld=>?_)
 refine tkHx 0 13 ?_
 refine tkHx 1 14 ?_
 refine tkHx 2 15 ?_
 refine tkHx 3 16 ?_
 refine tkHx 6 19 ?_
 refine tkHx 7 20 ?_
 refine tkHx 8 21 ?_
 refine tkHx 9 22 ?_
 (refine ratHx 4 (fun K hK=>?_);go_simp)
 refine (to_any s.a p _ hs.a hp).mono ?_
 rintro e wn ⟨rfl,hbn⟩
 go_simp
 (refine hK.out _ _ (hHeld.step hbn) (fun hHeld=>?_);clear hK K;(try simp only[apS,apN,siA,scZ,scS]))
 (refine ratHx 5 (fun K hK=>?_);go_simp)
 refine (dot_any ⟨s.b.x-s.a.x,s.b.y-s.a.y⟩ ⟨p.x-s.a.x,p.y-s.a.y⟩ _ (by dsimp only;omega) (by dsimp only;omega)).mono ?_
 rintro e wn ⟨rfl,hbn⟩
 go_simp
 (refine hK.out _ _ (hHeld.step hbn) (fun hHeld=>?_);clear hK K;(try simp only[apS,apN,siA,scZ,scS]))
 (refine ratHx 10 (fun K hK=>?_);go_simp)
 refine (to_any s.a q _ hs.a hq).mono ?_
 rintro e wn ⟨rfl,hbn⟩
 go_simp
 (refine hK.out _ _ (hHeld.step hbn) (fun hHeld=>?_);clear hK K;(try simp only[apS,apN,siA,scZ,scS]))
 (refine ratHx 11 (fun K hK=>?_);go_simp)
 refine (dot_any ⟨s.b.x-s.a.x,s.b.y-s.a.y⟩ ⟨q.x-s.a.x,q.y-s.a.y⟩ _ (by dsimp only;omega) (by dsimp only;omega)).mono ?_
 rintro e wn ⟨rfl,hbn⟩
 go_simp
 (refine hK.out _ _ (hHeld.step hbn) (fun hHeld=>?_);clear hK K;(try simp only[apS,apN,siA,scZ,scS]))
 (refine ratHx 12 (fun K hK=>?_);go_simp)
 refine (cmpG_any _ _ _).mono ?_
 rintro e wn ⟨rfl,hbn⟩
 go_simp
 (refine hK.out _ _ (hHeld.step hbn) (fun hHeld=>?_);clear hK K;(try simp only[apS,apN,siA,scZ,scS]))
 refine tkHx 13 6 ?_
 refine wpAnyH_done (by kernel_rfl) ?_ _
 go_wp2_with fail
 go_ret
 exact⟨rfl,hHeld.bel⟩
end Go.Proofs.YtoojdkaimhlcbaaGreat
