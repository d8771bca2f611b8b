/- What the statements rest on: definitions and walks, part 08. -/
import Derived.Test.YtoojdkaimhlcbaaGreatJ07
import Derived.DeepKeys4
set_option maxRecDepth 100000
set_option maxHeartbeats 16000000
set_option linter.unusedSimpArgs false
set_option linter.unusedVariables false
namespace Go.Proofs.YtoojdkaimhlcbaaGreat
open Go Go.RowKit Go.Shelf
attribute [local go_sem] Oper.semAt_some
structure SmI (w:World) (V:Option Addr) (n d:Nat) (W:World):Prop where
 p:BoxAt W w.heap.size [.slice V n d]
 r:∃ v,BoxAt W (w.heap.size+1) [v]
 n:BoxAt W (w.heap.size+1+1) [.int .i64 n]
 bel:Below w.heap.size w W
 size:w.heap.size+4≤W.heap.size
section
variable {w : World} {V : Option Addr} {n d : Nat} {X Y : World}
theorem SmI.below (h:SmI w V n d X) (hb:Below X.heap.size X Y):SmI w V n d Y:=by
 obtain⟨h1,⟨v,h2⟩,h3,h4,h5⟩:=h
 exact⟨h1.below hb,⟨v,h2.below hb⟩,h3.below hb,h4.trans (hb.mono h4.size),Nat.le_trans h5 hb.size⟩
theorem SmI.kept {row:Option Nat} (h:SmI w V n d X) (hg:X.grownBy Y row) (hr:∀ r,row=some r→w.heap.size≤r∧∃ o:Obj,X.heap[r]?=some o∧o.isCells=false):SmI w V n d Y:=by
 obtain⟨h1,⟨v,h2⟩,h3,h4,h5⟩:=h
 exact⟨h1.keptF hg (fun r e=>(hr r e).2),⟨v,h2.keptF hg (fun r e=>(hr r e).2)⟩,h3.keptF hg (fun r e=>(hr r e).2),ownFrom_below (β:=Unit) (Nat.le_refl _) (Nat.le_refl _) () X Y row h4 hg hr,Nat.le_trans h5 hg.size⟩
end
def SmJ (w:World) (V:Option Addr) (d:Nat) (ps:List Pt) (k:Nat) (W:World):Prop:=(∀ i,i<k→Cal.backS ps i=false∧∀ j,j<ps.length→Cal.badK ps i j=false)∧SmI w V ps.length d W
def SmX (w:World) (ps:List Pt) (c:Code) (_:Nat) (W:World):Prop:=c=.ret∧Cal.simpleP ps=false∧BoxAt W (w.heap.size+1) [.bool false]∧Below w.heap.size w W
def SmJ2 (w:World) (V:Option Addr) (d B Bs Bi Bx N:Nat) (W:World) (s:Sd) (ps:List Pt) (i k:Nat) (Y:World):Prop :=
 (∀ j,j<k→Cal.badK ps i j=false)∧SmI w V ps.length d Y∧BoxAt Y Bi [.int .i64 i]∧BoxAt Y Bx [.int .i64 s.a.x,.int .i64 s.a.y,.int .i64 s.b.x,.int .i64 s.b.y]∧Rd B w.heap.size Bs W Y∧N≤Y.heap.size
def SmX2 (w:World) (B Bs:Nat) (W:World) (ps:List Pt) (i:Nat) (c:Code) (k:Nat) (Y:World):Prop :=
 c=.ret∧k<ps.length∧Cal.badK ps i k=true∧BoxAt Y (w.heap.size+1) [.bool false]∧Below w.heap.size w Y∧Rd B w.heap.size Bs W Y
theorem smJ_own (w:World) (V:Option Addr) (d:Nat) (ps:List Pt) (B:Nat) (hB:w.heap.size≤B):OwnFrom B (SmJ w V d ps):=fun _ _ _ _ hs hg hr =>
 ⟨hs.1,hs.2.kept hg (fun r e=>⟨Nat.le_trans hB (hr r e).1,(hr r e).2⟩)⟩
theorem smX_own (w:World) (ps:List Pt) (B:Nat) (hB:w.heap.size≤B) (c:Code):OwnFrom B (SmX w ps c):=fun k X Y row hs hg hr=>by
 obtain⟨h1,h2,h3,h4⟩:=hs
 exact⟨h1,h2,h3.keptF hg (fun r e=>(hr r e).2),ownFrom_below (β:=Unit) (Nat.le_refl _) hB () X Y row h4 hg hr⟩
theorem smJ2_own (w:World) (V:Option Addr) (d B Bs Bi Bx N:Nat) (W:World) (s:Sd) (ps:List Pt) (i B':Nat) (hB:W.heap.size≤B') (hn:w.heap.size≤W.heap.size) (hs:Bs<W.heap.size):OwnFrom B' (SmJ2 w V d B Bs Bi Bx N W s ps i):=fun k X Y row h hg hr =>
 ⟨h.1,h.2.1.kept hg (fun r e=>⟨by have:=(hr r e).1;omega,(hr r e).2⟩),h.2.2.1.keptF hg (fun r e=>(hr r e).2),h.2.2.2.1.keptF hg (fun r e=>(hr r e).2),rd_own (β:=Nat) hB hn hs k X Y row h.2.2.2.2.1 hg hr,Nat.le_trans h.2.2.2.2.2 hg.size⟩
theorem smX2_own (w:World) (B Bs:Nat) (W:World) (ps:List Pt) (i B':Nat) (hB:W.heap.size≤B') (hn:w.heap.size≤W.heap.size) (hs:Bs<W.heap.size) (c:Code):OwnFrom B' (SmX2 w B Bs W ps i c):=fun k X Y row h hg hr=>by
 obtain⟨h1,h2,h3,h4,h5,h6⟩:=h
 exact⟨h1,h2,h3,h4.keptF hg (fun r e=>(hr r e).2),ownFrom_below (β:=Unit) (Nat.le_refl _) (by omega) () X Y row h5 hg hr,rd_own (β:=Nat) hB hn hs k X Y row h6 hg hr⟩
theorem simpleP_back {ps:List Pt} {i:Nat} (hi:i<ps.length) (h:Cal.backS ps i=true):Cal.simpleP ps=false:=by
 unfold Cal.simpleP
 rw[List.all_eq_false]
 exact⟨i,List.mem_range.2 hi,by rw[h];simp⟩
theorem simpleP_bad {ps:List Pt} {i j:Nat} (hi:i<ps.length) (hj:j<ps.length) (h:Cal.badK ps i j=true):Cal.simpleP ps=false:=by
 unfold Cal.simpleP
 rw[List.all_eq_false]
 refine⟨i,List.mem_range.2 hi,?_⟩
 have:(List.range ps.length).all (fun k=>!Cal.badK ps i k)=false:=by
  rw[List.all_eq_false]
  exact⟨j,List.mem_range.2 hj,by rw[h];decide⟩
 rw[this,Bool.and_false]
 exact Bool.false_ne_true
theorem simpleP_ok {ps:List Pt} (h:∀ i,i<ps.length→Cal.backS ps i=false∧∀ j,j<ps.length→Cal.badK ps i j=false):Cal.simpleP ps=true:=by
 unfold Cal.simpleP
 rw[List.all_eq_true]
 intro i hi
 obtain⟨h1,h2⟩:=h i (List.mem_range.1 hi)
 rw[h1,Bool.not_false,Bool.true_and,List.all_eq_true]
 intro j hj
 rw[h2 j (List.mem_range.1 hj)]
 rfl
theorem simple_any (V:Option Addr) (d:Nat) (ps:List Pt) (w:World) (hP:Pts w V ps) :
  Calls Tryz.prog 65 #[.slice V ps.length d] w fun e w'=>e=.returned (.bool (Cal.simpleP ps))∧Below w.heap.size w w':=by
 refine (callsIn_wide (n:=6)).1 ?_
 refine callsIn_of_wp_marks Tryz.func65 rfl trivial ?_ rfl
 simp only[Tryz.ntmps65,List.size_toArray,List.length_cons,List.length_nil,Nat.reduceAdd,Nat.reduceSub,Array.replicate_succ,Array.replicate_zero,List.push_toArray,List.append_toArray,List.nil_append,List.cons_append]
 gi_wp2_with (refine⟨trivial,?_⟩;gi_at_call 52;refine (callsIn_wide.2 (sides_any _ _ _ _)).mono ?_;rintro e w' ⟨rfl,rfl⟩)
 have bP:=(((BoxAt.new w #[.slice V ps.length d] 44).alloc (.cells #[.bool false] 4)).alloc (.cells #[.int .i64 ps.length] 3)).alloc (.cells #[.slice V ps.length d] 44)
 have bR:=((BoxAt.new (w.alloc (.cells #[.slice V ps.length d] 44)) #[.bool false] 4).alloc (.cells #[.int .i64 ps.length] 3)).alloc (.cells #[.slice V ps.length d] 44)
 have bN:=(BoxAt.new ((w.alloc (.cells #[.slice V ps.length d] 44)).alloc (.cells #[.bool false] 4)) #[.int .i64 ps.length] 3).alloc (.cells #[.slice V ps.length d] 44)
 have bS:=BoxAt.new (((w.alloc (.cells #[.slice V ps.length d] 44)).alloc (.cells #[.bool false] 4)).alloc (.cells #[.int .i64 ps.length] 3)) #[.slice V ps.length d] 44
 have hB0:Below w.heap.size w ((((w.alloc (.cells #[.slice V ps.length d] 44)).alloc (.cells #[.bool false] 4)).alloc (.cells #[.int .i64 ps.length] 3)).alloc (.cells #[.slice V ps.length d] 44)):=below_step (below_step (below_step (below_alloc _ _) (below_alloc _ _)) (below_alloc _ _)) (below_alloc _ _)
 have hs0:(((((w.alloc (.cells #[.slice V ps.length d] 44)).alloc (.cells #[.bool false] 4)).alloc (.cells #[.int .i64 ps.length] 3)).alloc (.cells #[.slice V ps.length d] 44))).heap.size=w.heap.size+4:=by simp
 simp only[World.size_alloc] at bR bN bS
 obtain⟨W0,hW0⟩:∃ W0,((((w.alloc (.cells #[.slice V ps.length d] 44)).alloc (.cells #[.bool false] 4)).alloc (.cells #[.int .i64 ps.length] 3)).alloc (.cells #[.slice V ps.length d] 44))=W0:=⟨_,rfl⟩
 rw[hW0] at bP bR bN bS hB0 hs0 ⊢
 clear hW0
 have hP0:=hP.below hB0
 refine wpIn_range_sides (Bs:=w.heap.size+1+1+1) (n₀:=w.heap.size) (V:=V) (d:=d) (ps:=ps) (by omega) rfl rfl (bS.c 0 _ rfl) (by omega) hP0 (by omega) hP.own
  (SmJ w V d ps) (SmX w ps) (smJ_own w V d ps _ (by omega)) (smX_own w ps _ (by omega)) ⟨fun i hi=>by omega,bP,⟨_,bR⟩,bN,hB0,by omega⟩
  (fun x a' W=>∃ Bi Bx,W0.heap.size≤Bi∧W0.heap.size≤Bx∧BoxAt W Bi [.int .i64 (x.1:Int)]∧BoxAt W Bx [.int .i64 x.2.a.x,.int .i64 x.2.a.y,.int .i64 x.2.b.x,.int .i64 x.2.b.y]∧a'={ tmps:=#[.slice V ps.length d,.pointer (some ⟨w.heap.size,0,none⟩),.pointer (some ⟨w.heap.size+1,0,none⟩),.pointer (some ⟨w.heap.size+1+1,0,none⟩),.pointer (some ⟨Bi,0,none⟩),.pointer (some ⟨Bx,0,none⟩),undef,undef,undef,.slice V ps.length d,.int .i64 ps.length,.slice V ps.length d,.func (.func 71) #[] #[.pointer (some ⟨w.heap.size+1+1+1,0,none⟩)],.int .i64 (x.1:Int),.agg #[.int .i64 x.2.a.x,.int .i64 x.2.a.y,.int .i64 x.2.b.x,.int .i64 x.2.b.y],undef,undef,undef,undef,undef,undef,undef,undef,undef,undef,undef,undef,undef,undef,undef,undef,undef,undef,undef,undef,undef,undef,undef,undef,undef,undef,undef,undef,undef,undef,undef,undef,undef,undef,undef,undef,undef,undef,undef,undef,undef,undef,undef,undef,undef,undef,undef],defers:=[] })
  (fun x a' _ X Y row hs hg hr=>by obtain⟨Bi,Bx,e0,e1,e2,e3,e4⟩:=hs;exact⟨Bi,Bx,e0,e1,e2.keptF hg (fun r e=>(hr r e).2),e3.keptF hg (fun r e=>(hr r e).2),e4⟩)
  ?assign ?body ?done ?stop
 case assign =>
  rintro l k W K hk ⟨hc,hI⟩ hK
  gi_wp2
  have hz:=hI.size
  refine hK _ _ (((KeepsOthers.alloc _ _).trans (KeepsOthers.alloc _ _)).from _) (KpS.below (below_step (below_alloc _ _) (below_alloc _ _)) hI.bel.size (by omega)) ⟨hc,hI.below (below_step (below_alloc _ _) (below_alloc _ _))⟩ ⟨W.heap.size,W.heap.size+1,by omega,by omega,(BoxAt.new W #[.int .i64 (k:Int)] _).alloc _,?_,rfl⟩
  have h:=BoxAt.new (W.alloc (.cells #[.int .i64 (k:Int)] 3)) #[.int .i64 (Cal.sd ps k).a.x,.int .i64 (Cal.sd ps k).a.y,.int .i64 (Cal.sd ps k).b.x,.int .i64 (Cal.sd ps k).b.y] 105
  simp only[World.size_alloc] at h
  exact h
 case body =>
  rintro l k a' W hl ⟨r,hr⟩ hk ⟨hc,hI⟩ ⟨Bi,Bx,hBi,hBx,bI,bX,rfl⟩
  have hsd:=hP.sd k hk
  have hz:=hI.size
  have hlen:=hP.size
  have hPW:=hP.below hI.bel
  have hmod:(k+ps.length-1) % ps.length<ps.length:=Nat.mod_lt _ (by omega)
  obtain⟨q,hq⟩:∃ q,q=(k+ps.length-1) % ps.length:=⟨_,rfl⟩
  rw[←hq] at hmod
  have hc':ps[q]?=some ps[q]:=List.getElem?_eq_getElem hmod
  have hsm:=hP.sm _ (List.getElem_mem hmod)
  obtain⟨b,o,rfl,hbl,x0,x1⟩:=pts_at hPW.rows hc'
  have hq1:((k:Int)+ps.length-1).tmod (ps.length:Int)=(q:Int):=by
   rw[hq,show ((k:Int)+ps.length-1)=((k+ps.length-1:Nat):Int) by omega];rfl
  have hq3:((k:Int)+ps.length-1) % (ps.length:Int)=(q:Int):=by
   rw[hq,show ((k:Int)+ps.length-1)=((k+ps.length-1:Nat):Int) by omega];rfl
  have hk1:IntKind.i64.wrap ((k:Int)+ps.length)=(k:Int)+ps.length:=wrap_small (by omega) (by omega)
  have hk2:IntKind.i64.wrap ((k:Int)+ps.length-1)=(k:Int)+ps.length-1:=wrap_small (by omega) (by omega)
  have hq2:IntKind.i64.wrap (q:Int)=(q:Int):=wrap_small (by omega) (by omega)
  have hne:¬ps.length=0:=by omega
  have hback:Hid (Cal.backS ps k=(Cal.trn (Cal.sd ps k) ps[q] == 0 && decide (0<Cal.dotP (Cal.sd ps k).a ps[q] (Cal.sd ps k).b))):=by
   show _=_
   unfold Cal.backS
   rw[←hq,hc']
   rfl
  clear hq
  generalize ps[q]=pq at *
  have p0:=hI.p.c 0 _ rfl;have n0:=hI.n.c 0 _ rfl;have i0:=bI.c 0 _ rfl;obtain⟨e0,e1,e2,e3⟩:=bX.c4
  dsimp only at i0 e0 e1 e2 e3
  obtain⟨s,hs⟩:∃ s,Cal.sd ps k=s:=⟨_,rfl⟩
  rw[hs] at e0 e1 e2 e3 hsd bX hback ⊢
  have hs:=Lib.hid hs
  have hIz:=Lib.hid hI
  have bXz:=Lib.hid bX
  have bIz:=Lib.hid bI
  have hcz:=Lib.hid hc
  clear hI bX bI hc hc'
  gi_wp2
  refine wpIn_region_heldY (S:=Sx W [(w.heap.size,0,.slice (some ⟨b,o,none⟩) ps.length d),(w.heap.size+1+1,0,.int .i64 ps.length),(Bi,0,.int .i64 k),(Bx,0,.int .i64 s.a.x),(Bx,1,.int .i64 s.a.y),(Bx,2,.int .i64 s.b.x),(Bx,3,.int .i64 s.b.y),(b,o+q*2,.int .i64 pq.x),(b,o+q*2+1,.int .i64 pq.y)]) 10 (by kernel_rfl) (Sx.mk (by simp only[cs_iff_cons];exact⟨p0,n0,i0,e0,e1,e2,e3,x0,x1,cs_nil _⟩) (Below.refl _ _)).drew (fun hHeld=>?_)
  refine tkYx 0 15 ?_
  refine tkYx 1 16 ?_
  refine tkYx 2 17 ?_
  refine tkYx 3 18 ?_
  refine tkYx 4 19 ?_
  refine tkYx 5 20 ?_
  refine tkYx 6 21 ?_
  refine tkYx 7 22 ?_
  refine tkYx 8 23 ?_
  (refine ratY 9 (fun _=>trivial) (by decide +kernel) rfl (fun K hK=>?_);rw[if_pos (by kernel_rfl)];go_simp)
  refine hK.out _ _ (hHeld.alloc _) (fun hHeld=>?_)
  clear hK K
  (try simp only[apS,apN,siA,scZ,scS])
  (refine ratYc 10 (fun _=>trivial) (by decide +kernel) rfl (by decide +kernel) (fun K hK=>?_);rw[if_pos (by kernel_rfl)];go_simp;refine hK.out _ _ ?_;clear hK K;(try simp only[apS,apN,siA,scZ,scS]))
  refine wpAnyInY_done (by decide +kernel) ?_ _
  gi_wp2
  have hb4:Below W.heap.size W (W.alloc (.cells #[.int .i64 pq.x,.int .i64 pq.y] 61)).drew:=(((Below.refl _ W).alloc (Nat.le_refl _) _).drew)
  have bQ:BoxAt (W.alloc (.cells #[.int .i64 pq.x,.int .i64 pq.y] 61)).drew W.heap.size [.int .i64 pq.x,.int .i64 pq.y]:=(BoxAt.new W #[.int .i64 pq.x,.int .i64 pq.y] 61).below ((Below.refl _ _).drew)
  have hs4:(W.alloc (.cells #[.int .i64 pq.x,.int .i64 pq.y] 61)).drew.heap.size=W.heap.size+1:=by simp
  obtain⟨W4,hW4⟩:∃ W4,(W.alloc (.cells #[.int .i64 pq.x,.int .i64 pq.y] 61)).drew=W4:=⟨_,rfl⟩
  rw[hW4] at hb4 bQ hs4 ⊢
  clear hW4 hHeld
  obtain⟨y0,y1⟩:=bQ.c2
  have e0:=(bXz.out.below hb4).c 0 _ rfl
  have e1:=(bXz.out.below hb4).c 1 _ rfl
  have e2:=(bXz.out.below hb4).c 2 _ rfl
  have e3:=(bXz.out.below hb4).c 3 _ rfl
  have hI4:=Lib.hid (hIz.out.below hb4)
  have bX4:=Lib.hid (bXz.out.below hb4)
  have bI4:=Lib.hid (bIz.out.below hb4)
  have hb4:=Lib.hid hb4
  by_cases ht:Cal.trn s pq=0
  ·by_cases hd:0<(pq.x-s.a.x)*(s.b.x-s.a.x)+(pq.y-s.a.y)*(s.b.y-s.a.y)
   ·have hbk:Hid (Cal.backS ps k=true):=by
     show _=_
     rw[hback.out,ht,decide_eq_true (show 0<Cal.dotP s.a pq s.b from hd)]
     rfl
    have hdd:=decide_eq_true hd
    have ht:=Lib.hid ht
    refine wpIn_region_held_drew (S:=Sx W4 [(W.heap.size,0,.int .i64 pq.x),(W.heap.size,1,.int .i64 pq.y),(Bx,0,.int .i64 s.a.x),(Bx,1,.int .i64 s.a.y),(Bx,2,.int .i64 s.b.x),(Bx,3,.int .i64 s.b.y)]) (by kernel_rfl) (Sx.mk (by simp only[cs_iff_cons];exact⟨y0,y1,e0,e1,e2,e3,cs_nil _⟩) (Below.refl _ _)).drew (fun hHeld=>?_)
    refine tkIx 0 24 ?_
    refine tkIx 1 25 ?_
    (refine ratI 2 (fun _=>trivial) (by decide +kernel) rfl (fun K hK=>?_);rw[if_pos (by kernel_rfl)];go_simp)
    refine⟨trivial,?_⟩
    refine (callsIn_wide.2 (turn_any s pq _ hsd hsm)).mono ?_
    rintro e wn ⟨rfl,hbn⟩
    rw[ht.out]
    go_simp
    (refine hK.out _ _ (hHeld.step hbn) (fun hHeld=>?_);clear hK K;(try simp only[apS,apN,siA,scZ,scS]))
    refine tkIx 3 27 ?_
    refine tkIx 4 28 ?_
    refine tkIx 5 29 ?_
    refine tkIx 6 30 ?_
    refine tkIx 7 31 ?_
    refine tkIx 9 33 ?_
    refine tkIx 10 34 ?_
    refine tkIx 11 35 ?_
    refine tkIx 12 36 ?_
    (refine ratI 8 (fun _=>trivial) (by decide +kernel) rfl (fun K hK=>?_);rw[if_pos (by kernel_rfl)];go_simp)
    refine⟨trivial,?_⟩
    refine (callsIn_wide.2 (to_any s.a pq _ hsd.a hsm)).mono ?_
    rintro e wn ⟨rfl,hbn⟩
    go_simp
    (refine hK.out _ _ (hHeld.step hbn) (fun hHeld=>?_);clear hK K;(try simp only[apS,apN,siA,scZ,scS]))
    (refine ratI 13 (fun _=>trivial) (by decide +kernel) rfl (fun K hK=>?_);rw[if_pos (by kernel_rfl)];go_simp)
    refine⟨trivial,?_⟩
    refine (callsIn_wide.2 (to_any s.a s.b _ hsd.a hsd.b)).mono ?_
    rintro e wn ⟨rfl,hbn⟩
    go_simp
    (refine hK.out _ _ (hHeld.step hbn) (fun hHeld=>?_);clear hK K;(try simp only[apS,apN,siA,scZ,scS]))
    have x0:=hsd.a.x0
    have x1:=hsd.a.x1
    have x2:=hsd.a.y0
    have x3:=hsd.a.y1
    have x4:=hsd.b.x0
    have x5:=hsd.b.x1
    have x6:=hsd.b.y0
    have x7:=hsd.b.y1
    have x8:=hsm.x0
    have x9:=hsm.x1
    have x10:=hsm.y0
    have x11:=hsm.y1
    (refine ratI 14 (fun _=>trivial) (by decide +kernel) rfl (fun K hK=>?_);rw[if_pos (by kernel_rfl)];go_simp)
    refine⟨trivial,?_⟩
    refine (callsIn_wide.2 (dot_any ⟨pq.x-s.a.x,pq.y-s.a.y⟩ ⟨s.b.x-s.a.x,s.b.y-s.a.y⟩ _ (by dsimp only;omega) (by dsimp only;omega))).mono ?_
    rintro e wn ⟨rfl,hbn⟩
    go_simp
    (refine hK.out _ _ (hHeld.step hbn) (fun hHeld=>?_);clear hK K;(try simp only[apS,apN,siA,scZ,scS]))
    refine tkIx 15 39 ?_
    refine tkIx 16 40 ?_
    refine wpAnyInH_done (by decide +kernel) ?_ _
    have hI5:=Lib.hid (hI4.out.below hHeld.bel)
    have hbl:=Lib.hid (hb4.out.trans (hHeld.bel.mono (by omega)))
    obtain⟨rv,hrv⟩:=hI5.out.r
    have r0:=hrv.c 0 _ rfl
    have r1:=hrv.free 0 Nat.zero_lt_one
    have hrv:=Lib.hid hrv
    gi_wp2
    exact⟨((keepsF_below hbl.out).trans (KeepsOthers.setCell _ _ _)).from _,(KpS.below hbl.out (by omega) (by omega)).trans (KpS.set _ (by omega) (by omega)),rfl,simpleP_back hk hbk.out,hrv.out.set 0 _ Nat.zero_lt_one,hI5.out.bel.setCell (p:=⟨w.heap.size+1,0,none⟩) (Nat.le_succ _) _⟩
   have hbk:Hid (Cal.backS ps k=false):=by
    show _=_
    rw[hback.out,ht,decide_eq_false (show ¬0<Cal.dotP s.a pq s.b from hd)]
    rfl
   have hdd:=decide_eq_false hd
   have ht:=Lib.hid ht
   refine wpIn_region_held_drew (S:=Sx W4 [(W.heap.size,0,.int .i64 pq.x),(W.heap.size,1,.int .i64 pq.y),(Bx,0,.int .i64 s.a.x),(Bx,1,.int .i64 s.a.y),(Bx,2,.int .i64 s.b.x),(Bx,3,.int .i64 s.b.y)]) (by kernel_rfl) (Sx.mk (by simp only[cs_iff_cons];exact⟨y0,y1,e0,e1,e2,e3,cs_nil _⟩) (Below.refl _ _)).drew (fun hHeld=>?_)
   refine tkIx 0 24 ?_
   refine tkIx 1 25 ?_
   (refine ratI 2 (fun _=>trivial) (by decide +kernel) rfl (fun K hK=>?_);rw[if_pos (by kernel_rfl)];go_simp)
   refine⟨trivial,?_⟩
   refine (callsIn_wide.2 (turn_any s pq _ hsd hsm)).mono ?_
   rintro e wn ⟨rfl,hbn⟩
   rw[ht.out]
   go_simp
   (refine hK.out _ _ (hHeld.step hbn) (fun hHeld=>?_);clear hK K;(try simp only[apS,apN,siA,scZ,scS]))
   refine tkIx 3 27 ?_
   refine tkIx 4 28 ?_
   refine tkIx 5 29 ?_
   refine tkIx 6 30 ?_
   refine tkIx 7 31 ?_
   refine tkIx 9 33 ?_
   refine tkIx 10 34 ?_
   refine tkIx 11 35 ?_
   refine tkIx 12 36 ?_
   (refine ratI 8 (fun _=>trivial) (by decide +kernel) rfl (fun K hK=>?_);rw[if_pos (by kernel_rfl)];go_simp)
   refine⟨trivial,?_⟩
   refine (callsIn_wide.2 (to_any s.a pq _ hsd.a hsm)).mono ?_
   rintro e wn ⟨rfl,hbn⟩
   go_simp
   (refine hK.out _ _ (hHeld.step hbn) (fun hHeld=>?_);clear hK K;(try simp only[apS,apN,siA,scZ,scS]))
   (refine ratI 13 (fun _=>trivial) (by decide +kernel) rfl (fun K hK=>?_);rw[if_pos (by kernel_rfl)];go_simp)
   refine⟨trivial,?_⟩
   refine (callsIn_wide.2 (to_any s.a s.b _ hsd.a hsd.b)).mono ?_
   rintro e wn ⟨rfl,hbn⟩
   go_simp
   (refine hK.out _ _ (hHeld.step hbn) (fun hHeld=>?_);clear hK K;(try simp only[apS,apN,siA,scZ,scS]))
   have x0:=hsd.a.x0
   have x1:=hsd.a.x1
   have x2:=hsd.a.y0
   have x3:=hsd.a.y1
   have x4:=hsd.b.x0
   have x5:=hsd.b.x1
   have x6:=hsd.b.y0
   have x7:=hsd.b.y1
   have x8:=hsm.x0
   have x9:=hsm.x1
   have x10:=hsm.y0
   have x11:=hsm.y1
   (refine ratI 14 (fun _=>trivial) (by decide +kernel) rfl (fun K hK=>?_);rw[if_pos (by kernel_rfl)];go_simp)
   refine⟨trivial,?_⟩
   refine (callsIn_wide.2 (dot_any ⟨pq.x-s.a.x,pq.y-s.a.y⟩ ⟨s.b.x-s.a.x,s.b.y-s.a.y⟩ _ (by dsimp only;omega) (by dsimp only;omega))).mono ?_
   rintro e wn ⟨rfl,hbn⟩
   go_simp
   (refine hK.out _ _ (hHeld.step hbn) (fun hHeld=>?_);clear hK K;(try simp only[apS,apN,siA,scZ,scS]))
   refine tkIx 15 39 ?_
   refine tkIx 16 40 ?_
   refine wpAnyInH_done (by decide +kernel) ?_ _
   have hI5:=Lib.hid (hI4.out.below hHeld.bel)
   have hbl:=Lib.hid (hb4.out.trans (hHeld.bel.mono (by omega)))
   have p0:=hI5.out.p.c 0 _ rfl
   gi_wp2_with (refine⟨trivial,?_⟩;gi_at_call 52;refine (callsIn_wide.2 (sides_any _ _ _ _)).mono ?_;rintro e w' ⟨rfl,rfl⟩)
   obtain⟨Wn,hWn⟩:∃ Wn,wn=Wn:=⟨_,rfl⟩
   have bT:=BoxAt.new wn #[.slice (some ⟨b,o,none⟩) ps.length d] 44
   have hbw:Below wn.heap.size wn (wn.alloc (.cells #[.slice (some ⟨b,o,none⟩) ps.length d] 44)):=below_alloc _ _
   have hI6:=hI5.out.below hbw
   have hbz:=hHeld.bel.size
   have hs1:(wn.alloc (.cells #[.slice (some ⟨b,o,none⟩) ps.length d] 44)).heap.size=wn.heap.size+1:=by simp
   have hbW1:Below W.heap.size W (wn.alloc (.cells #[.slice (some ⟨b,o,none⟩) ps.length d] 44)):=hbl.out.trans (hbw.mono (by omega))
   have hr1:(wn.alloc (.cells #[.slice (some ⟨b,o,none⟩) ps.length d] 44)).heap[l]?=some (.loop r):=(hbW1.block l (Array.getElem?_eq_some_iff.1 hr).1).trans hr
   have bI6:=bIz.out.below hbW1
   have bX6:=bXz.out.below hbW1
   clear hWn
   obtain⟨W1,hW1⟩:∃ W1,wn.alloc (.cells #[.slice (some ⟨b,o,none⟩) ps.length d] 44)=W1:=⟨_,rfl⟩
   rw[hW1] at bT hI6 hs1 hr1 hbw hbW1 bI6 bX6 ⊢
   clear hW1
   refine wpIn_sides1N hr1 (Bs:=wn.heap.size) (n₀:=w.heap.size) (V:=some ⟨b,o,none⟩) (d:=d) (ps:=ps) (by omega) rfl rfl (bT.c 0 _ rfl) (by omega) (hP.below hI6.bel) (by omega) hP.own
    (SmJ2 w (some ⟨b,o,none⟩) d W0.heap.size (w.heap.size+1+1+1) Bi Bx (wn.heap.size+1) W s ps k) (SmX2 w W0.heap.size (w.heap.size+1+1+1) W ps k) (smJ2_own w _ d W0.heap.size (w.heap.size+1+1+1) Bi Bx (wn.heap.size+1) W s ps k _ (by omega) (by omega) (by omega)) (smX2_own w W0.heap.size (w.heap.size+1+1+1) W ps k _ (by omega) (by omega) (by omega))
    ⟨fun j hj=>by omega,hI6,bI6,bX6,Rd.below hbW1 (by omega) (by omega),by omega⟩
    (fun T j t By=>(((T.setIfInBounds 43 (.int .i64 (j:Int))).setIfInBounds 44 (.agg #[.int .i64 t.a.x,.int .i64 t.a.y,.int .i64 t.b.x,.int .i64 t.b.y])).setIfInBounds 7 (.int .i64 (j:Int))).setIfInBounds 8 (.pointer (some ⟨By,0,none⟩)))
    ?assign2 ?body2 ?done2 ?stop2
   case assign2 =>
    rintro l2 j Y K hj ⟨hc2,hI2,bI2,bX2,hR2,hz2⟩ hK
    gi_wp2
    have hz3:=hI2.size
    exact hK Y.heap.size _ (by omega) ((KeepsOthers.alloc _ _).from _) (KpS.below (below_alloc _ _) (by omega) (by omega)) ⟨hc2,hI2.below (below_alloc _ _),bI2.alloc _,bX2.alloc _,hR2.trans (Rd.below (below_alloc _ _) (by omega) (by omega)),by simp;omega⟩ (BoxAt.new Y #[.int .i64 (Cal.sd ps j).a.x,.int .i64 (Cal.sd ps j).a.y,.int .i64 (Cal.sd ps j).b.x,.int .i64 (Cal.sd ps j).b.y] _)
   case body2 =>
    rintro l2 j By Y hl2 ⟨r2,hr2⟩ hj ⟨hc2,hI2,bI2,bX2,hR2,hz2⟩ hBy bY
    simp only[List.setIfInBounds_toArray,List.set_cons_zero,List.set_cons_succ]
    have hse:=hP.sd j hj
    have n0:=hI2.n.c 0 _ rfl;have i0:=bI2.c 0 _ rfl;obtain⟨e0,e1,e2,e3⟩:=bX2.c4;obtain⟨g0,g1,g2,g3⟩:=bY.c4
    obtain⟨t,htt⟩:∃ t,Cal.sd ps j=t:=⟨_,rfl⟩
    rw[htt] at g0 g1 g2 g3 hse ⊢
    obtain⟨m,hm⟩:∃ m,m=(j+1) % ps.length:=⟨_,rfl⟩
    have hm1:((j:Int)+1).tmod (ps.length:Int)=(m:Int):=by rw[hm];rfl
    have hm3:((j:Int)+1) % (ps.length:Int)=(m:Int):=by rw[hm];rfl
    have hj1:IntKind.i64.wrap ((j:Int)+1)=(j:Int)+1:=wrap_small (by omega) (by omega)
    have hi1:IntKind.i64.wrap ((k:Int)+1)=(k:Int)+1:=wrap_small (by omega) (by omega)
    have hm2:IntKind.i64.wrap (m:Int)=(m:Int):=wrap_small (by omega) (by have:=Nat.mod_lt (j+1) (y:=ps.length) (by omega);omega)
    have hbad:Hid (Cal.badK ps k j=(decide (k+1<j) && (m != k) && Cal.meetS s t)):=by show _=_;rw[hm,←htt,←hs.out];rfl
    clear hm
    have htt:=Lib.hid htt
    have hall:=Lib.hid (And.intro hc2 (And.intro hI2 (And.intro bI2 (And.intro bX2 hR2))))
    have hzY:=hz2
    clear hc2 hI2 bI2 bX2 hR2 bY
    by_cases c1:k+1<j
    ·have d1:decide ((k:Int)+1<(j:Int))=true:=decide_eq_true (by omega)
     have c1':(k:Int)+1<(j:Int):=by omega
     by_cases c2:m=k
     ·have hbf:Hid (Cal.badK ps k j=false):=by show _=_;rw[hbad.out,c2];simp
      have d2:((m:Int) != (k:Int))=false:=by rw[c2];simp
      have d3:((m:Int) == (k:Int))=true:=by rw[c2];simp
      have d4:decide ((m:Int)=(k:Int))=true:=by rw[c2];simp
      clear c2
      gi_wp2;refine wpIn_region_held_drew (S:=Sx Y [(w.heap.size+1+1,0,.int .i64 ps.length),(Bi,0,.int .i64 k),(Bx,0,.int .i64 s.a.x),(Bx,1,.int .i64 s.a.y),(Bx,2,.int .i64 s.b.x),(Bx,3,.int .i64 s.b.y),(By,0,.int .i64 t.a.x),(By,1,.int .i64 t.a.y),(By,2,.int .i64 t.b.x),(By,3,.int .i64 t.b.y)]) (by kernel_rfl) (Sx.mk (by simp only[cs_iff_cons];exact⟨n0,i0,e0,e1,e2,e3,g0,g1,g2,g3,cs_nil _⟩) (Below.refl _ _)).drew (fun hHeld=>?_)
      refine tkIx 0 45 ?_
      refine tkIx 1 46 ?_
      refine tkIx 2 47 ?_
      refine tkIx 3 48 ?_
      refine tkIx 4 49 ?_
      refine tkIx 5 50 ?_
      refine tkIx 6 51 ?_
      refine tkIx 7 52 ?_
      refine tkIx 8 53 ?_
      refine tkIx 9 54 ?_
      refine tkIx 10 55 ?_
      refine tkIx 11 56 ?_
      refine tkIx 12 57 ?_
      refine tkNx 13 58 ?_
      refine tkNx 14 59 ?_
      refine tkNx 15 60 ?_
      refine tkIx 16 61 ?_
      refine wpAnyInH_done (by decide +kernel) ?_ _
      gi_wp2
      obtain⟨hc2,hI2,bI2,bX2,hR2⟩:=hall.out
      have hz5:=hHeld.bel.size
      refine⟨(keepsF_below hHeld.bel).from _,KpS.below hHeld.bel (by omega) (by omega),fun i hi=>?_,hI2.below hHeld.bel,bI2.below hHeld.bel,bX2.below hHeld.bel,hR2.trans (Rd.below hHeld.bel (by omega) (by omega)),by omega⟩
      by_cases hij:i=j
      ·subst hij;exact hbf.out
      exact hc2 i (by omega)
     have c2':¬(m:Int)=(k:Int):=by omega
     have d2:((m:Int) != (k:Int))=true:=by simp;omega
     have d3:((m:Int) == (k:Int))=false:=by simp;omega
     obtain⟨cb,hcb⟩:∃ cb,Cal.meetS s t=cb:=⟨_,rfl⟩
     have hcb:=Lib.hid hcb
     cases cb
     ·have hbf:Hid (Cal.badK ps k j=false):=by show _=_;rw[hbad.out,hcb.out];simp
      gi_wp2;refine wpIn_region_held_drew (S:=Sx Y [(w.heap.size+1+1,0,.int .i64 ps.length),(Bi,0,.int .i64 k),(Bx,0,.int .i64 s.a.x),(Bx,1,.int .i64 s.a.y),(Bx,2,.int .i64 s.b.x),(Bx,3,.int .i64 s.b.y),(By,0,.int .i64 t.a.x),(By,1,.int .i64 t.a.y),(By,2,.int .i64 t.b.x),(By,3,.int .i64 t.b.y)]) (by kernel_rfl) (Sx.mk (by simp only[cs_iff_cons];exact⟨n0,i0,e0,e1,e2,e3,g0,g1,g2,g3,cs_nil _⟩) (Below.refl _ _)).drew (fun hHeld=>?_)
      refine tkIx 0 45 ?_
      refine tkIx 1 46 ?_
      refine tkIx 2 47 ?_
      refine tkIx 3 48 ?_
      refine tkIx 4 49 ?_
      refine tkIx 5 50 ?_
      refine tkIx 6 51 ?_
      refine tkIx 7 52 ?_
      refine tkIx 8 53 ?_
      refine tkIx 9 54 ?_
      refine tkIx 10 55 ?_
      refine tkIx 11 56 ?_
      refine tkIx 12 57 ?_
      refine tkIx 13 58 ?_
      refine tkIx 14 59 ?_
      (refine ratI 15 (fun _=>trivial) (by decide +kernel) rfl (fun K hK=>?_);rw[if_pos (by kernel_rfl)];go_simp)
      refine⟨trivial,?_⟩
      refine (callsIn_wide.2 (meets_any s t _ hsd hse)).mono ?_
      rintro e wn ⟨rfl,hbn⟩
      rw[hcb.out]
      go_simp
      (refine hK.out _ _ (hHeld.step hbn) (fun hHeld=>?_);clear hK K;(try simp only[apS,apN,siA,scZ,scS]))
      refine tkIx 16 61 ?_
      refine wpAnyInH_done (by decide +kernel) ?_ _
      gi_wp2
      obtain⟨hc2,hI2,bI2,bX2,hR2⟩:=hall.out
      have hz5:=hHeld.bel.size
      refine⟨(keepsF_below hHeld.bel).from _,KpS.below hHeld.bel (by omega) (by omega),fun i hi=>?_,hI2.below hHeld.bel,bI2.below hHeld.bel,bX2.below hHeld.bel,hR2.trans (Rd.below hHeld.bel (by omega) (by omega)),by omega⟩
      by_cases hij:i=j
      ·subst hij;exact hbf.out
      exact hc2 i (by omega)
     have hbf:Hid (Cal.badK ps k j=true):=by show _=_;rw[hbad.out,hcb.out];simp[c1,c2]
     gi_wp2;refine wpIn_region_held_drew (S:=Sx Y [(w.heap.size+1+1,0,.int .i64 ps.length),(Bi,0,.int .i64 k),(Bx,0,.int .i64 s.a.x),(Bx,1,.int .i64 s.a.y),(Bx,2,.int .i64 s.b.x),(Bx,3,.int .i64 s.b.y),(By,0,.int .i64 t.a.x),(By,1,.int .i64 t.a.y),(By,2,.int .i64 t.b.x),(By,3,.int .i64 t.b.y)]) (by kernel_rfl) (Sx.mk (by simp only[cs_iff_cons];exact⟨n0,i0,e0,e1,e2,e3,g0,g1,g2,g3,cs_nil _⟩) (Below.refl _ _)).drew (fun hHeld=>?_)
     refine tkIx 0 45 ?_
     refine tkIx 1 46 ?_
     refine tkIx 2 47 ?_
     refine tkIx 3 48 ?_
     refine tkIx 4 49 ?_
     refine tkIx 5 50 ?_
     refine tkIx 6 51 ?_
     refine tkIx 7 52 ?_
     refine tkIx 8 53 ?_
     refine tkIx 9 54 ?_
     refine tkIx 10 55 ?_
     refine tkIx 11 56 ?_
     refine tkIx 12 57 ?_
     refine tkIx 13 58 ?_
     refine tkIx 14 59 ?_
     (refine ratI 15 (fun _=>trivial) (by decide +kernel) rfl (fun K hK=>?_);rw[if_pos (by kernel_rfl)];go_simp)
     refine⟨trivial,?_⟩
     refine (callsIn_wide.2 (meets_any s t _ hsd hse)).mono ?_
     rintro e wn ⟨rfl,hbn⟩
     rw[hcb.out]
     go_simp
     (refine hK.out _ _ (hHeld.step hbn) (fun hHeld=>?_);clear hK K;(try simp only[apS,apN,siA,scZ,scS]))
     refine tkIx 16 61 ?_
     refine wpAnyInH_done (by decide +kernel) ?_ _
     have hz5:=hHeld.bel.size
     have hI7:=Lib.hid (hall.out.2.1.below hHeld.bel)
     obtain⟨rv,hrv⟩:=hI7.out.r
     have r0:=hrv.c 0 _ rfl
     have r1:=hrv.free 0 Nat.zero_lt_one
     have hrv:=Lib.hid hrv
     gi_wp2
     exact⟨((keepsF_below hHeld.bel).trans (KeepsOthers.setCell _ _ _)).from _,(KpS.below hHeld.bel (by omega) (by omega)).trans (KpS.set _ (by omega) (by omega)),rfl,hj,hbf.out,hrv.out.set 0 _ Nat.zero_lt_one,hI7.out.bel.setCell (p:=⟨w.heap.size+1,0,none⟩) (Nat.le_succ _) _,hall.out.2.2.2.2.trans ((Rd.below hHeld.bel (by omega) (by omega)).trans (Rd.set _ (Nat.le_succ _) (by omega)))⟩
    have d1:decide ((k:Int)+1<(j:Int))=false:=decide_eq_false (by omega)
    have c1':¬(k:Int)+1<(j:Int):=by omega
    have hbf:Hid (Cal.badK ps k j=false):=by show _=_;rw[hbad.out];simp[c1]
    gi_wp2;refine wpIn_region_held_drew (S:=Sx Y [(w.heap.size+1+1,0,.int .i64 ps.length),(Bi,0,.int .i64 k),(Bx,0,.int .i64 s.a.x),(Bx,1,.int .i64 s.a.y),(Bx,2,.int .i64 s.b.x),(Bx,3,.int .i64 s.b.y),(By,0,.int .i64 t.a.x),(By,1,.int .i64 t.a.y),(By,2,.int .i64 t.b.x),(By,3,.int .i64 t.b.y)]) (by kernel_rfl) (Sx.mk (by simp only[cs_iff_cons];exact⟨n0,i0,e0,e1,e2,e3,g0,g1,g2,g3,cs_nil _⟩) (Below.refl _ _)).drew (fun hHeld=>?_)
    refine tkIx 0 45 ?_
    refine tkIx 1 46 ?_
    refine tkIx 2 47 ?_
    refine tkIx 3 48 ?_
    refine tkIx 4 49 ?_
    refine tkNx 5 50 ?_
    refine tkNx 6 51 ?_
    refine tkNx 7 52 ?_
    refine tkNx 8 53 ?_
    refine tkNx 9 54 ?_
    refine tkNx 10 55 ?_
    refine tkIx 11 56 ?_
    refine tkIx 12 57 ?_
    refine tkNx 13 58 ?_
    refine tkNx 14 59 ?_
    refine tkNx 15 60 ?_
    refine tkIx 16 61 ?_
    refine wpAnyInH_done (by decide +kernel) ?_ _
    gi_wp2
    obtain⟨hc2,hI2,bI2,bX2,hR2⟩:=hall.out
    have hz5:=hHeld.bel.size
    refine⟨(keepsF_below hHeld.bel).from _,KpS.below hHeld.bel (by omega) (by omega),fun i hi=>?_,hI2.below hHeld.bel,bI2.below hHeld.bel,bX2.below hHeld.bel,hR2.trans (Rd.below hHeld.bel (by omega) (by omega)),by omega⟩
    by_cases hij:i=j
    ·subst hij;exact hbf.out
    exact hc2 i (by omega)
   case done2 =>
    rintro Y ⟨hc2,hI2,bI2,bX2,hR2,hz2⟩
    gi_wp2
    refine⟨(by have h:=hR2.keeps;rwa [hs0] at h),hR2.kp,fun i hi=>?_,hI2⟩
    by_cases hik:i=k
    ·subst hik;exact⟨hbk.out,hc2⟩
    exact hcz.out i (by omega)
   case stop2 =>
    rintro c j Y hj ⟨rfl,h2,h3,h4,h5,h6⟩
    gi_wp2
    exact⟨(by have h:=h6.keeps;rwa [hs0] at h),h6.kp,rfl,simpleP_bad hk hj h3,h4,h5⟩
  have hbk:Hid (Cal.backS ps k=false):=by
   show _=_
   rw[hback.out,beq_false_of_ne ht]
   rfl
  have htb:(Cal.trn s pq == 0)=false:=beq_false_of_ne ht
  refine wpIn_region_held_drew (S:=Sx W4 [(W.heap.size,0,.int .i64 pq.x),(W.heap.size,1,.int .i64 pq.y),(Bx,0,.int .i64 s.a.x),(Bx,1,.int .i64 s.a.y),(Bx,2,.int .i64 s.b.x),(Bx,3,.int .i64 s.b.y)]) (by kernel_rfl) (Sx.mk (by simp only[cs_iff_cons];exact⟨y0,y1,e0,e1,e2,e3,cs_nil _⟩) (Below.refl _ _)).drew (fun hHeld=>?_)
  refine tkIx 0 24 ?_
  refine tkIx 1 25 ?_
  (refine ratI 2 (fun _=>trivial) (by decide +kernel) rfl (fun K hK=>?_);rw[if_pos (by kernel_rfl)];go_simp)
  refine⟨trivial,?_⟩
  refine (callsIn_wide.2 (turn_any s pq _ hsd hsm)).mono ?_
  rintro e wn ⟨rfl,hbn⟩
  go_simp
  (refine hK.out _ _ (hHeld.step hbn) (fun hHeld=>?_);clear hK K;(try simp only[apS,apN,siA,scZ,scS]))
  refine tkIx 3 27 ?_
  refine tkIx 4 28 ?_
  refine tkNx 5 29 ?_
  refine tkNx 6 30 ?_
  refine tkNx 7 31 ?_
  refine tkNx 8 32 ?_
  refine tkNx 9 33 ?_
  refine tkNx 10 34 ?_
  refine tkNx 11 35 ?_
  refine tkNx 12 36 ?_
  refine tkNx 13 37 ?_
  refine tkNx 14 38 ?_
  refine tkNx 15 39 ?_
  refine tkIx 16 40 ?_
  refine wpAnyInH_done (by decide +kernel) ?_ _
  have hI5:=Lib.hid (hI4.out.below hHeld.bel)
  have hbl:=Lib.hid (hb4.out.trans (hHeld.bel.mono (by omega)))
  have p0:=hI5.out.p.c 0 _ rfl
  gi_wp2_with (refine⟨trivial,?_⟩;gi_at_call 52;refine (callsIn_wide.2 (sides_any _ _ _ _)).mono ?_;rintro e w' ⟨rfl,rfl⟩)
  obtain⟨Wn,hWn⟩:∃ Wn,wn=Wn:=⟨_,rfl⟩
  have bT:=BoxAt.new wn #[.slice (some ⟨b,o,none⟩) ps.length d] 44
  have hbw:Below wn.heap.size wn (wn.alloc (.cells #[.slice (some ⟨b,o,none⟩) ps.length d] 44)):=below_alloc _ _
  have hI6:=hI5.out.below hbw
  have hbz:=hHeld.bel.size
  have hs1:(wn.alloc (.cells #[.slice (some ⟨b,o,none⟩) ps.length d] 44)).heap.size=wn.heap.size+1:=by simp
  have hbW1:Below W.heap.size W (wn.alloc (.cells #[.slice (some ⟨b,o,none⟩) ps.length d] 44)):=hbl.out.trans (hbw.mono (by omega))
  have hr1:(wn.alloc (.cells #[.slice (some ⟨b,o,none⟩) ps.length d] 44)).heap[l]?=some (.loop r):=(hbW1.block l (Array.getElem?_eq_some_iff.1 hr).1).trans hr
  have bI6:=bIz.out.below hbW1
  have bX6:=bXz.out.below hbW1
  clear hWn
  obtain⟨W1,hW1⟩:∃ W1,wn.alloc (.cells #[.slice (some ⟨b,o,none⟩) ps.length d] 44)=W1:=⟨_,rfl⟩
  rw[hW1] at bT hI6 hs1 hr1 hbw hbW1 bI6 bX6 ⊢
  clear hW1
  refine wpIn_sides1N hr1 (Bs:=wn.heap.size) (n₀:=w.heap.size) (V:=some ⟨b,o,none⟩) (d:=d) (ps:=ps) (by omega) rfl rfl (bT.c 0 _ rfl) (by omega) (hP.below hI6.bel) (by omega) hP.own
   (SmJ2 w (some ⟨b,o,none⟩) d W0.heap.size (w.heap.size+1+1+1) Bi Bx (wn.heap.size+1) W s ps k) (SmX2 w W0.heap.size (w.heap.size+1+1+1) W ps k) (smJ2_own w _ d W0.heap.size (w.heap.size+1+1+1) Bi Bx (wn.heap.size+1) W s ps k _ (by omega) (by omega) (by omega)) (smX2_own w W0.heap.size (w.heap.size+1+1+1) W ps k _ (by omega) (by omega) (by omega))
   ⟨fun j hj=>by omega,hI6,bI6,bX6,Rd.below hbW1 (by omega) (by omega),by omega⟩
   (fun T j t By=>(((T.setIfInBounds 43 (.int .i64 (j:Int))).setIfInBounds 44 (.agg #[.int .i64 t.a.x,.int .i64 t.a.y,.int .i64 t.b.x,.int .i64 t.b.y])).setIfInBounds 7 (.int .i64 (j:Int))).setIfInBounds 8 (.pointer (some ⟨By,0,none⟩)))
   ?assign2 ?body2 ?done2 ?stop2
  case assign2 =>
   rintro l2 j Y K hj ⟨hc2,hI2,bI2,bX2,hR2,hz2⟩ hK
   gi_wp2
   have hz3:=hI2.size
   exact hK Y.heap.size _ (by omega) ((KeepsOthers.alloc _ _).from _) (KpS.below (below_alloc _ _) (by omega) (by omega)) ⟨hc2,hI2.below (below_alloc _ _),bI2.alloc _,bX2.alloc _,hR2.trans (Rd.below (below_alloc _ _) (by omega) (by omega)),by simp;omega⟩ (BoxAt.new Y #[.int .i64 (Cal.sd ps j).a.x,.int .i64 (Cal.sd ps j).a.y,.int .i64 (Cal.sd ps j).b.x,.int .i64 (Cal.sd ps j).b.y] _)
  case body2 =>
   rintro l2 j By Y hl2 ⟨r2,hr2⟩ hj ⟨hc2,hI2,bI2,bX2,hR2,hz2⟩ hBy bY
   simp only[List.setIfInBounds_toArray,List.set_cons_zero,List.set_cons_succ]
   have hse:=hP.sd j hj
   have n0:=hI2.n.c 0 _ rfl;have i0:=bI2.c 0 _ rfl;obtain⟨e0,e1,e2,e3⟩:=bX2.c4;obtain⟨g0,g1,g2,g3⟩:=bY.c4
   obtain⟨t,htt⟩:∃ t,Cal.sd ps j=t:=⟨_,rfl⟩
   rw[htt] at g0 g1 g2 g3 hse ⊢
   obtain⟨m,hm⟩:∃ m,m=(j+1) % ps.length:=⟨_,rfl⟩
   have hm1:((j:Int)+1).tmod (ps.length:Int)=(m:Int):=by rw[hm];rfl
   have hm3:((j:Int)+1) % (ps.length:Int)=(m:Int):=by rw[hm];rfl
   have hj1:IntKind.i64.wrap ((j:Int)+1)=(j:Int)+1:=wrap_small (by omega) (by omega)
   have hi1:IntKind.i64.wrap ((k:Int)+1)=(k:Int)+1:=wrap_small (by omega) (by omega)
   have hm2:IntKind.i64.wrap (m:Int)=(m:Int):=wrap_small (by omega) (by have:=Nat.mod_lt (j+1) (y:=ps.length) (by omega);omega)
   have hbad:Hid (Cal.badK ps k j=(decide (k+1<j) && (m != k) && Cal.meetS s t)):=by show _=_;rw[hm,←htt,←hs.out];rfl
   clear hm
   have htt:=Lib.hid htt
   have hall:=Lib.hid (And.intro hc2 (And.intro hI2 (And.intro bI2 (And.intro bX2 hR2))))
   have hzY:=hz2
   clear hc2 hI2 bI2 bX2 hR2 bY
   by_cases c1:k+1<j
   ·have d1:decide ((k:Int)+1<(j:Int))=true:=decide_eq_true (by omega)
    have c1':(k:Int)+1<(j:Int):=by omega
    by_cases c2:m=k
    ·have hbf:Hid (Cal.badK ps k j=false):=by show _=_;rw[hbad.out,c2];simp
     have d2:((m:Int) != (k:Int))=false:=by rw[c2];simp
     have d3:((m:Int) == (k:Int))=true:=by rw[c2];simp
     have d4:decide ((m:Int)=(k:Int))=true:=by rw[c2];simp
     clear c2
     gi_wp2;refine wpIn_region_held_drew (S:=Sx Y [(w.heap.size+1+1,0,.int .i64 ps.length),(Bi,0,.int .i64 k),(Bx,0,.int .i64 s.a.x),(Bx,1,.int .i64 s.a.y),(Bx,2,.int .i64 s.b.x),(Bx,3,.int .i64 s.b.y),(By,0,.int .i64 t.a.x),(By,1,.int .i64 t.a.y),(By,2,.int .i64 t.b.x),(By,3,.int .i64 t.b.y)]) (by kernel_rfl) (Sx.mk (by simp only[cs_iff_cons];exact⟨n0,i0,e0,e1,e2,e3,g0,g1,g2,g3,cs_nil _⟩) (Below.refl _ _)).drew (fun hHeld=>?_)
     refine tkIx 0 45 ?_
     refine tkIx 1 46 ?_
     refine tkIx 2 47 ?_
     refine tkIx 3 48 ?_
     refine tkIx 4 49 ?_
     refine tkIx 5 50 ?_
     refine tkIx 6 51 ?_
     refine tkIx 7 52 ?_
     refine tkIx 8 53 ?_
     refine tkIx 9 54 ?_
     refine tkIx 10 55 ?_
     refine tkIx 11 56 ?_
     refine tkIx 12 57 ?_
     refine tkNx 13 58 ?_
     refine tkNx 14 59 ?_
     refine tkNx 15 60 ?_
     refine tkIx 16 61 ?_
     refine wpAnyInH_done (by decide +kernel) ?_ _
     gi_wp2
     obtain⟨hc2,hI2,bI2,bX2,hR2⟩:=hall.out
     have hz5:=hHeld.bel.size
     refine⟨(keepsF_below hHeld.bel).from _,KpS.below hHeld.bel (by omega) (by omega),fun i hi=>?_,hI2.below hHeld.bel,bI2.below hHeld.bel,bX2.below hHeld.bel,hR2.trans (Rd.below hHeld.bel (by omega) (by omega)),by omega⟩
     by_cases hij:i=j
     ·subst hij;exact hbf.out
     exact hc2 i (by omega)
    have c2':¬(m:Int)=(k:Int):=by omega
    have d2:((m:Int) != (k:Int))=true:=by simp;omega
    have d3:((m:Int) == (k:Int))=false:=by simp;omega
    obtain⟨cb,hcb⟩:∃ cb,Cal.meetS s t=cb:=⟨_,rfl⟩
    have hcb:=Lib.hid hcb
    cases cb
    ·have hbf:Hid (Cal.badK ps k j=false):=by show _=_;rw[hbad.out,hcb.out];simp
     gi_wp2;refine wpIn_region_held_drew (S:=Sx Y [(w.heap.size+1+1,0,.int .i64 ps.length),(Bi,0,.int .i64 k),(Bx,0,.int .i64 s.a.x),(Bx,1,.int .i64 s.a.y),(Bx,2,.int .i64 s.b.x),(Bx,3,.int .i64 s.b.y),(By,0,.int .i64 t.a.x),(By,1,.int .i64 t.a.y),(By,2,.int .i64 t.b.x),(By,3,.int .i64 t.b.y)]) (by kernel_rfl) (Sx.mk (by simp only[cs_iff_cons];exact⟨n0,i0,e0,e1,e2,e3,g0,g1,g2,g3,cs_nil _⟩) (Below.refl _ _)).drew (fun hHeld=>?_)
     refine tkIx 0 45 ?_
     refine tkIx 1 46 ?_
     refine tkIx 2 47 ?_
     refine tkIx 3 48 ?_
     refine tkIx 4 49 ?_
     refine tkIx 5 50 ?_
     refine tkIx 6 51 ?_
     refine tkIx 7 52 ?_
     refine tkIx 8 53 ?_
     refine tkIx 9 54 ?_
     refine tkIx 10 55 ?_
     refine tkIx 11 56 ?_
     refine tkIx 12 57 ?_
     refine tkIx 13 58 ?_
     refine tkIx 14 59 ?_
     (refine ratI 15 (fun _=>trivial) (by decide +kernel) rfl (fun K hK=>?_);rw[if_pos (by kernel_rfl)];go_simp)
     refine⟨trivial,?_⟩
     refine (callsIn_wide.2 (meets_any s t _ hsd hse)).mono ?_
     rintro e wn ⟨rfl,hbn⟩
     rw[hcb.out]
     go_simp
     (refine hK.out _ _ (hHeld.step hbn) (fun hHeld=>?_);clear hK K;(try simp only[apS,apN,siA,scZ,scS]))
     refine tkIx 16 61 ?_
     refine wpAnyInH_done (by decide +kernel) ?_ _
     gi_wp2
     obtain⟨hc2,hI2,bI2,bX2,hR2⟩:=hall.out
     have hz5:=hHeld.bel.size
     refine⟨(keepsF_below hHeld.bel).from _,KpS.below hHeld.bel (by omega) (by omega),fun i hi=>?_,hI2.below hHeld.bel,bI2.below hHeld.bel,bX2.below hHeld.bel,hR2.trans (Rd.below hHeld.bel (by omega) (by omega)),by omega⟩
     by_cases hij:i=j
     ·subst hij;exact hbf.out
     exact hc2 i (by omega)
    have hbf:Hid (Cal.badK ps k j=true):=by show _=_;rw[hbad.out,hcb.out];simp[c1,c2]
    gi_wp2;refine wpIn_region_held_drew (S:=Sx Y [(w.heap.size+1+1,0,.int .i64 ps.length),(Bi,0,.int .i64 k),(Bx,0,.int .i64 s.a.x),(Bx,1,.int .i64 s.a.y),(Bx,2,.int .i64 s.b.x),(Bx,3,.int .i64 s.b.y),(By,0,.int .i64 t.a.x),(By,1,.int .i64 t.a.y),(By,2,.int .i64 t.b.x),(By,3,.int .i64 t.b.y)]) (by kernel_rfl) (Sx.mk (by simp only[cs_iff_cons];exact⟨n0,i0,e0,e1,e2,e3,g0,g1,g2,g3,cs_nil _⟩) (Below.refl _ _)).drew (fun hHeld=>?_)
    refine tkIx 0 45 ?_
    refine tkIx 1 46 ?_
    refine tkIx 2 47 ?_
    refine tkIx 3 48 ?_
    refine tkIx 4 49 ?_
    refine tkIx 5 50 ?_
    refine tkIx 6 51 ?_
    refine tkIx 7 52 ?_
    refine tkIx 8 53 ?_
    refine tkIx 9 54 ?_
    refine tkIx 10 55 ?_
    refine tkIx 11 56 ?_
    refine tkIx 12 57 ?_
    refine tkIx 13 58 ?_
    refine tkIx 14 59 ?_
    (refine ratI 15 (fun _=>trivial) (by decide +kernel) rfl (fun K hK=>?_);rw[if_pos (by kernel_rfl)];go_simp)
    refine⟨trivial,?_⟩
    refine (callsIn_wide.2 (meets_any s t _ hsd hse)).mono ?_
    rintro e wn ⟨rfl,hbn⟩
    rw[hcb.out]
    go_simp
    (refine hK.out _ _ (hHeld.step hbn) (fun hHeld=>?_);clear hK K;(try simp only[apS,apN,siA,scZ,scS]))
    refine tkIx 16 61 ?_
    refine wpAnyInH_done (by decide +kernel) ?_ _
    have hz5:=hHeld.bel.size
    have hI7:=Lib.hid (hall.out.2.1.below hHeld.bel)
    obtain⟨rv,hrv⟩:=hI7.out.r
    have r0:=hrv.c 0 _ rfl
    have r1:=hrv.free 0 Nat.zero_lt_one
    have hrv:=Lib.hid hrv
    gi_wp2
    exact⟨((keepsF_below hHeld.bel).trans (KeepsOthers.setCell _ _ _)).from _,(KpS.below hHeld.bel (by omega) (by omega)).trans (KpS.set _ (by omega) (by omega)),rfl,hj,hbf.out,hrv.out.set 0 _ Nat.zero_lt_one,hI7.out.bel.setCell (p:=⟨w.heap.size+1,0,none⟩) (Nat.le_succ _) _,hall.out.2.2.2.2.trans ((Rd.below hHeld.bel (by omega) (by omega)).trans (Rd.set _ (Nat.le_succ _) (by omega)))⟩
   have d1:decide ((k:Int)+1<(j:Int))=false:=decide_eq_false (by omega)
   have c1':¬(k:Int)+1<(j:Int):=by omega
   have hbf:Hid (Cal.badK ps k j=false):=by show _=_;rw[hbad.out];simp[c1]
   gi_wp2;refine wpIn_region_held_drew (S:=Sx Y [(w.heap.size+1+1,0,.int .i64 ps.length),(Bi,0,.int .i64 k),(Bx,0,.int .i64 s.a.x),(Bx,1,.int .i64 s.a.y),(Bx,2,.int .i64 s.b.x),(Bx,3,.int .i64 s.b.y),(By,0,.int .i64 t.a.x),(By,1,.int .i64 t.a.y),(By,2,.int .i64 t.b.x),(By,3,.int .i64 t.b.y)]) (by kernel_rfl) (Sx.mk (by simp only[cs_iff_cons];exact⟨n0,i0,e0,e1,e2,e3,g0,g1,g2,g3,cs_nil _⟩) (Below.refl _ _)).drew (fun hHeld=>?_)
   refine tkIx 0 45 ?_
   refine tkIx 1 46 ?_
   refine tkIx 2 47 ?_
   refine tkIx 3 48 ?_
   refine tkIx 4 49 ?_
   refine tkNx 5 50 ?_
   refine tkNx 6 51 ?_
   refine tkNx 7 52 ?_
   refine tkNx 8 53 ?_
   refine tkNx 9 54 ?_
   refine tkNx 10 55 ?_
   refine tkIx 11 56 ?_
   refine tkIx 12 57 ?_
   refine tkNx 13 58 ?_
   refine tkNx 14 59 ?_
   refine tkNx 15 60 ?_
   refine tkIx 16 61 ?_
   refine wpAnyInH_done (by decide +kernel) ?_ _
   gi_wp2
   obtain⟨hc2,hI2,bI2,bX2,hR2⟩:=hall.out
   have hz5:=hHeld.bel.size
   refine⟨(keepsF_below hHeld.bel).from _,KpS.below hHeld.bel (by omega) (by omega),fun i hi=>?_,hI2.below hHeld.bel,bI2.below hHeld.bel,bX2.below hHeld.bel,hR2.trans (Rd.below hHeld.bel (by omega) (by omega)),by omega⟩
   by_cases hij:i=j
   ·subst hij;exact hbf.out
   exact hc2 i (by omega)
  case done2 =>
   rintro Y ⟨hc2,hI2,bI2,bX2,hR2,hz2⟩
   gi_wp2
   refine⟨(by have h:=hR2.keeps;rwa [hs0] at h),hR2.kp,fun i hi=>?_,hI2⟩
   by_cases hik:i=k
   ·subst hik;exact⟨hbk.out,hc2⟩
   exact hcz.out i (by omega)
  case stop2 =>
   rintro c j Y hj ⟨rfl,h2,h3,h4,h5,h6⟩
   gi_wp2
   exact⟨(by have h:=h6.keeps;rwa [hs0] at h),h6.kp,rfl,simpleP_bad hk hj h3,h4,h5⟩
 case done =>
  rintro D W hD ⟨hc,hI⟩ hK
  obtain⟨v,hr⟩:=hI.r
  have r0:=hr.c 0 _ rfl
  have r1:=hr.free 0 Nat.zero_lt_one
  have hAll:=Lib.hid (And.intro hc (And.intro hI (And.intro hK hr)))
  clear hc hI hK hr
  gi_wp2
  obtain⟨hc,hI,hK,hr⟩:=hAll.out
  have hr1:=hr.set 0 (.bool true) Nat.zero_lt_one
  have hK':=(KeepsOthers.setCell W ⟨w.heap.size+1,0,none⟩ (.bool true)).same D _ hK rfl
  have ho':Others (W.setCell ⟨w.heap.size+1,0,none⟩ (.bool true)) (some D):=fun r e=>by cases e;exact⟨_,hK',rfl⟩
  refine⟨by simp,.inl ⟨_,_,rfl,run_takeDeferred hK',?_⟩⟩
  have q5:=(hr1.keptF (grownBy_putObj' _ D (.deferred none)) ho').c 0 _ rfl
  exact⟨_,results_c1 rfl _ _ ⟨w.heap.size+1,0,none⟩ (.bool true) rfl (by simp[loadVar,go_sem,q5]),by rw[simpleP_ok hc],belowF_put (hI.bel.setCell (p:=⟨w.heap.size+1,0,none⟩) (Nat.le_succ _) _) (by omega) _⟩
 case stop =>
  rintro D c k W hD hk ⟨rfl,h0,hR,hB⟩ hK
  have hAll:=Lib.hid (And.intro h0 (And.intro hR (And.intro hB hK)))
  clear h0 hR hB hK
  gi_wp2
  obtain⟨h0,hR,hB,hK⟩:=hAll.out
  have ho':Others W (some D):=fun r e=>by cases e;exact⟨_,hK,rfl⟩
  refine⟨by simp,.inl ⟨_,_,rfl,run_takeDeferred hK,?_⟩⟩
  have q5:=(hR.keptF (grownBy_putObj' W D (.deferred none)) ho').c 0 _ rfl
  exact⟨_,results_c1 rfl _ _ ⟨w.heap.size+1,0,none⟩ (.bool false) rfl (by simp[loadVar,go_sem,q5]),by rw[h0],belowF_put hB (by omega) _⟩
end Go.Proofs.YtoojdkaimhlcbaaGreat
namespace Go.Proofs.YtoojdkaimhlcbaaGreat
open Go Go.RowKit Go.Shelf Go.Maps
theorem laid_ok:laidOutB Tryz.prog=true:=by kernel_rfl
theorem pt_keyed:Keyed Tryz.prog 61:=Keyed.of_law (deep_law_laid laid_ok (m:=3) (by decide) (by decide +kernel) (by kernel_rfl) (by kernel_rfl))
theorem keyLits_int (d:Nat) (n:Int) (h0:-9223372036854775808≤n) (h1:n≤9223372036854775807):(Tryz.prog).keyLits (d+1) 3 [.int .i64 n]=some [.int .i64 n]:=by
 have hu:(Tryz.prog).underlying 3=_:=Tryz.underlying3
 unfold Program.keyLits
 rw[hu]
 dsimp only
 rw[if_pos]
 refine⟨rfl,?_⟩
 have e0:IntKind.i64.min=-9223372036854775808:=by decide
 have e1:IntKind.i64.max=9223372036854775807:=by decide
 simp only[Lit.wf,Bool.and_eq_true,decide_eq_true_eq,e0,e1]
 exact⟨h0,h1⟩
theorem pt_key (p:Pt) (hp:SmP p):∃ l,keyOf Tryz.prog 61 (.agg #[.int .i64 p.x,.int .i64 p.y])=some l:=by
 have hu:(Tryz.prog).underlying 61=_:=Tryz.underlying61
 have hk:(Tryz.prog).keyType 61=true:=by kernel_rfl
 have hf:Value.formed Tryz.prog 61 (.agg #[.int .i64 p.x,.int .i64 p.y])=true:=by unfold Value.formed;rw[hu];kernel_rfl
 unfold keyOf
 rw[hu]
 dsimp only
 rw[hk,hf,Bool.and_self,if_pos rfl]
 have hsz:1<(Tryz.prog).types.size:=by decide +kernel
 obtain⟨d,hd⟩:∃ d,(Tryz.prog).types.size+1=d+1+1:=⟨(Tryz.prog).types.size-1,by omega⟩
 rw[hd]
 unfold Program.keyLits
 rw[hu]
 dsimp only
 have hc:(Tryz.prog).cellsOf 61=2:=by kernel_rfl
 have hi:(Tryz.prog).cellsOf 3=1:=by kernel_rfl
 have hcs:(Value.agg #[.int .i64 p.x,.int .i64 p.y]).cells.toList=[.int .i64 p.x,.int .i64 p.y]:=rfl
 rw[hc,hcs,if_pos ⟨rfl,by decide +kernel⟩]
 have k1:=keyLits_int d p.x (by have:=hp.x0;omega) (by have:=hp.x1;omega)
 have k2:=keyLits_int d p.y (by have:=hp.y0;omega) (by have:=hp.y1;omega)
 simp[hi,k1,k2]
end Go.Proofs.YtoojdkaimhlcbaaGreat
namespace Go.Proofs.YtoojdkaimhlcbaaGreat
open Go Go.RowKit Go.Shelf Go.Maps Go.WideMaps
structure PtsR (w:World) (V:Option Addr) (ps:List Pt):Prop where
 rows:RowsAt w V 2 (ps.map ptR)
 size:ps.length≤1000000
 own:∀ ad,V=some ad→0<ps.length→ad.block<w.heap.size
theorem PtsR.below {w w':World} {V:Option Addr} {ps:List Pt} (h:PtsR w V ps) (hb:Below w.heap.size w w'):PtsR w' V ps :=
 ⟨h.rows.below hb,h.size,fun ad e hl=>Nat.lt_of_lt_of_le (h.own ad e hl) hb.size⟩
theorem ptErr_zero {p:Pt} (h:Cal.ptErr p=0):SmP p:=by
 unfold Cal.ptErr at h
 split at h
 ·cases h
 constructor <;> omega
theorem ptsErr_zero:∀ {ps:List Pt},Cal.ptsErr ps=0→∀ p∈ps,Cal.ptErr p=0
 | [],_,p,hp=>by cases hp
 | q :: r,h,p,hp=>by
  unfold Cal.ptsErr at h
  split at h
  ·rename_i hq
   rcases List.mem_cons.1 hp with rfl | hp
   ·exact hq
   exact ptsErr_zero h p hp
  rename_i hq
  exact absurd h hq
theorem PtsR.pts {w:World} {V:Option Addr} {ps:List Pt} (h:PtsR w V ps) (h0:Cal.ptsErr ps=0):Pts w V ps :=
 ⟨h.rows,h.size,fun p hp=>ptErr_zero (ptsErr_zero h0 p hp),h.own⟩
instance instPt:DecidableEq Pt:=fun a b=>decidable_of_iff (ptB a b=true) ptB_iff
def PtK:Type:={ p:Pt // SmP p }
instance instPtK:DecidableEq PtK:=fun a b=>decidable_of_iff (a.1=b.1) ⟨Subtype.ext,fun h=>by rw[h]⟩
theorem pt_lits:∃ lit:PtK→Lit,(∀ p:PtK,keyOf Tryz.prog 61 (.agg #[.int .i64 p.1.x,.int .i64 p.1.y])=some (lit p))∧∀ p q,lit p=lit q→p=q:=by
 have hk:∀ p:PtK,keyOf Tryz.prog 61 (.agg #[.int .i64 p.1.x,.int .i64 p.1.y])=some ((keyOf Tryz.prog 61 (.agg #[.int .i64 p.1.x,.int .i64 p.1.y])).getD (.bool true)):=fun p=>by
  obtain⟨l,hl⟩:=pt_key p.1 p.2
  rw[hl]
  rfl
 refine⟨fun p=>(keyOf Tryz.prog 61 (.agg #[.int .i64 p.1.x,.int .i64 p.1.y])).getD (.bool true),hk,fun p q h=>?_⟩
 have h1:=hk p
 have h2:=hk q
 dsimp only at h
 rw[←h] at h2
 have h3:=pt_keyed.inj h1 h2
 refine Subtype.ext ?_
 obtain⟨⟨a,b⟩,hp⟩:=p
 obtain⟨⟨c,d⟩,hq⟩:=q
 simp at h3
 simp[h3]
def SeenP (seen:List Pt) (f:PtK→Option Value):Prop:=∀ x:PtK,(f x).getD (.bool false)=.bool (seen.any (ptB x.1))
theorem SeenP.start:SeenP [] (fun _=>none):=fun _=>rfl
theorem SeenP.step {seen:List Pt} {f:PtK→Option Value} (h:SeenP seen f) (q:PtK):SeenP (q.1 :: seen) (setAt f q (.bool true)):=fun x=>by
 rw[List.any_cons]
 by_cases e:x=q
 ·subst e
  rw[setAt_same,ptB_iff.2 rfl]
  rfl
 rw[setAt_other _ _ e,h x]
 have:ptB x.1 q.1=false:=by
  cases hb:ptB x.1 q.1
  ·rfl
  exact absurd (Subtype.ext (ptB_iff.1 hb)) e
 rw[this,Bool.false_or]
theorem ptsErr_drop {ps:List Pt} {k:Nat} (h:k<ps.length):Cal.ptsErr (ps.drop k)=if Cal.ptErr ps[k]=0 then Cal.ptsErr (ps.drop (k+1)) else Cal.ptErr ps[k]:=by
 rw[List.drop_eq_getElem_cons h];rfl
theorem twiceP_drop {ps:List Pt} {k:Nat} (h:k<ps.length) (seen:List Pt):Cal.twiceP seen (ps.drop k)=(seen.any (ptB ps[k]) || Cal.twiceP (ps[k] :: seen) (ps.drop (k+1))):=by
 rw[List.drop_eq_getElem_cons h];rfl
structure PmI (w:World) (lit:PtK→Lit) (M:Nat) (seen:List Pt) (n:Nat) (W:World):Prop where
 map:∃ f,MapIs Tryz.prog 61 lit W M n f∧SeenP seen f
 lt:M<W.heap.size
 bel:Below w.heap.size w W
section
variable {w : World} {lit : PtK → Lit} {M n : Nat} {seen : List Pt} {W W' : World}
theorem PmI.below (h:PmI w lit M seen n W) (hb:Below W.heap.size W W'):PmI w lit M seen n W':=by
 obtain⟨⟨f,h1,h2⟩,h3,h4⟩:=h
 exact⟨⟨f,h1.below hb h3,h2⟩,Nat.lt_of_lt_of_le h3 hb.size,below_step h4 hb⟩
theorem PmI.look (h:PmI w lit M seen n W) (hkey:∀ p:PtK,keyOf Tryz.prog 61 (.agg #[.int .i64 p.1.x,.int .i64 p.1.y])=some (lit p)) (q:PtK):(Instr.lookup 119 (.map (some M)) (.agg #[.int .i64 q.1.x,.int .i64 q.1.y]) false).run Tryz.prog W=.ok (.bool (seen.any (ptB q.1))) W:=by
 obtain⟨f,h1,h2⟩:=h.map
 rw[h1.look pt_keyed Tryz.underlying119 (boolZero _) (hkey q),h2]
theorem PmI.update (h:PmI w lit M seen n W) (hkey:∀ p:PtK,keyOf Tryz.prog 61 (.agg #[.int .i64 p.1.x,.int .i64 p.1.y])=some (lit p)) (hinj:∀ p q,lit p=lit q→p=q) (q:PtK) (hn:n<1000000) (hM:w.heap.size≤M) :
  ∃ w',(Instr.mapUpdate 119 (.map (some M)) (.agg #[.int .i64 q.1.x,.int .i64 q.1.y]) (.bool true)).run Tryz.prog W=.ok () w'∧PmI w lit M (q.1 :: seen) (n+1) w'∧w'.heap.size=W.heap.size:=by
 obtain⟨⟨f,h1,h2⟩,h3,h4⟩:=h
 obtain⟨w2,hrun,hm2,hg2,hsz2⟩:=h1.store hinj pt_keyed Tryz.underlying119 (by unfold maxLen;omega) (val:=.bool true) (hkey q)
 exact⟨w2,hrun,⟨⟨_,hm2,h2.step q⟩,by omega,h4.grown hg2 h4.size (fun k e=>by cases e;exact hM)⟩,hsz2⟩
end
theorem CheckPolygon_any (V:Option Addr) (d:Nat) (ps:List Pt) (w:World) (hP:PtsR w V ps) :
  Calls Tryz.prog 50 #[.slice V ps.length d] w fun e w'=>e=.returned (.int .i64 (Cal.polyE ps))∧Below w.heap.size w w':=by
 have hsz:=hP.size
 have hP:=Lib.hid hP
 by_cases hn:ps.length<3∨40<ps.length
 ·have hf:Hid (Cal.polyE ps=10):=by show _=_;unfold Cal.polyE;rw[if_pos hn]
  rcases hn with hn | hn
  ·have h1:(ps.length:Int)<3:=by omega
   go_enter Tryz.func50,Tryz.ntmps50
   go_wp2_with fail
   go_ret
   exact⟨ret_int hf.out.symm,blw⟩
  have h1:¬(ps.length:Int)<3:=by omega
  have h2:40<(ps.length:Int):=by omega
  go_enter Tryz.func50,Tryz.ntmps50
  go_wp2_with fail
  go_ret
  exact⟨ret_int hf.out.symm,blw⟩
 have hfE:Hid (Cal.polyE ps=if Cal.ptsErr ps=0 then (if Cal.twiceP [] ps=true then 5 else if Cal.simpleP ps=true then (if Cal.areaP ps<0 then 9 else 0) else 3) else Cal.ptsErr ps):=by show _=_;unfold Cal.polyE;rw[if_neg hn]
 have h1:¬(ps.length:Int)<3:=by omega
 have h2:¬40<(ps.length:Int):=by omega
 have hmm:=@run_makeMap Tryz.prog
 have hl40:ps.length≤40:=by omega
 clear hn
 go_enter Tryz.func50,Tryz.ntmps50
 go_wp2_with fail
 go_loopw [19] (fun i wr=>∃ k:Nat,k≤ps.length∧i=.int .i64 k∧Hid (Cal.ptsErr ps=Cal.ptsErr (ps.drop k))∧Hid (Below w.heap.size w wr)) (fun i _=>ps.length-(intOf i).toNat)
 case atStart=>exact⟨0,Nat.zero_le _,rfl,rfl,Below.refl _ _⟩
 case round =>
  obtain⟨k,hk,rfl,hE,hB⟩:=hrel
  by_cases hlt:k<ps.length
  ·have hd:=ptsErr_drop hlt
   have hk':ps[k]?=some ps[k]:=List.getElem?_eq_getElem hlt
   obtain⟨b,o,rfl,hbl,c0,c1⟩:=pts_at (hP.out.below hB.out).rows hk'
   clear hk'
   generalize ps[k]=q at *
   by_cases h0:Cal.ptErr q=0
   ·rw[if_pos h0] at hd
    have hE2:Hid (Cal.ptsErr ps=Cal.ptsErr (ps.drop (k+1))):=hE.out.trans hd
    have h0:=Lib.hid h0
    clear hd hE
    go_wp2_with fail
    refine (checkPoint_any q _).mono ?_
    rintro e wn ⟨rfl,hbn⟩
    rw[h0.out]
    have hB2:=Lib.hid (below_step (below_step hB.out (below_alloc _ _)) hbn)
    clear hbn hB c0 c1
    go_wp2_with fail
    go_roundw
    case rel=>exact⟨k+1,by omega,by go_num,hE2,hB2⟩
    case measure=>simp[intOf];omega
   rw[if_neg h0] at hd
   have hf2:Hid (Cal.polyE ps=Cal.ptErr q):=by
    show _=_
    rw[hfE.out,hE.out,hd,if_neg h0]
   clear hd hE
   go_wp2_with fail
   refine (checkPoint_any q _).mono ?_
   rintro e wn ⟨rfl,hbn⟩
   have hB2:=Lib.hid (below_step (below_step hB.out (below_alloc _ _)) hbn)
   clear hbn hB c0 c1
   go_wp2_with fail
   go_ret
   exact⟨ret_int hf2.out.symm,hB2.out⟩
  obtain rfl:k=ps.length:=by omega
  have hE0:Cal.ptsErr ps=0:=by rw[hE.out,List.drop_length];rfl
  have hPP:=Lib.hid (fun w' h=>(hP.out.below (w':=w') h).pts hE0)
  rw[hE0,if_pos rfl] at hfE
  clear hE hE0
  go_wp2_with fail
  obtain⟨lit,hkey,hinj⟩:=pt_lits
  have hM:=MapIs.made Tryz.prog 61 lit wr
  have hlt0:wr.heap.size<(wr.alloc (.map #[] 0)).heap.size:=by simp
  have hB1:Below w.heap.size w (wr.alloc (.map #[] 0)):=below_step hB.out (below_alloc _ _)
  have hMw:w.heap.size≤wr.heap.size:=hB.out.size
  obtain⟨w1,hw1⟩:∃ w1,wr.alloc (.map #[] 0)=w1:=⟨_,rfl⟩
  rw[hw1] at hM hB1 hlt0 ⊢
  clear hw1 hmm hB
  generalize wr.heap.size=M at *
  have hI0:Hid (PmI w lit M [] 0 w1):=⟨⟨_,hM,SeenP.start⟩,hlt0,hB1⟩
  clear hM hlt0 hB1
  go_loopw [32] (fun i wr=>∃ (k:Nat) (seen:List Pt),k≤ps.length∧i=.int .i64 k∧Hid (Cal.twiceP [] ps=Cal.twiceP seen (ps.drop k))∧Hid (PmI w lit M seen k wr)) (fun i _=>ps.length-(intOf i).toNat)
  case atStart=>exact⟨0,[],Nat.zero_le _,rfl,rfl,hI0⟩
  case round =>
   clear hI0
   obtain⟨k,seen,hk,rfl,hE,hI⟩:=hrel
   by_cases hlt:k<ps.length
   ·have hd:=twiceP_drop hlt seen
    have hk':ps[k]?=some ps[k]:=List.getElem?_eq_getElem hlt
    obtain⟨b,o,rfl,hbl,c0,c1⟩:=pts_at (hPP.out _ hI.out.bel).rows hk'
    have hsm:=(hPP.out _ hI.out.bel).sm _ (List.getElem_mem hlt)
    clear hk'
    generalize ps[k]=q at *
    have hI1:=Lib.hid (hI.out.below (below_alloc wr (.cells #[.int .i64 q.x,.int .i64 q.y] 61)))
    have hlk:=hI1.out.look hkey ⟨q,hsm⟩
    dsimp only at hlk
    cases hs:seen.any (ptB q)
    ·rw[hs] at hlk hd
     have hE2:Hid (Cal.twiceP [] ps=Cal.twiceP (q :: seen) (ps.drop (k+1))):=hE.out.trans hd
     clear hd hE hs
     obtain⟨w2,hup,hI2,hsz2⟩:=hI1.out.update hkey hinj ⟨q,hsm⟩ (by omega) hMw
     dsimp only at hup hI2
     have hI2:=Lib.hid hI2
     go_wp2_with fail
     go_roundw
     case rel=>exact⟨k+1,q :: seen,by omega,by go_num,hE2,hI2⟩
     case measure=>simp[intOf];omega
    rw[hs] at hlk hd
    have hf2:Hid (Cal.polyE ps=5):=by
     show _=_
     rw[hfE.out,hE.out,hd]
     rfl
    clear hd hE hs
    go_wp2_with fail
    go_ret
    exact⟨ret_int hf2.out.symm,hI1.out.bel⟩
   obtain rfl:k=ps.length:=by omega
   have hE0:Cal.twiceP [] ps=false:=by rw[hE.out,List.drop_length];rfl
   rw[hE0,if_neg (by decide)] at hfE
   have hB:=Lib.hid hI.out.bel
   clear hE hE0 hI
   by_cases hsi:Cal.simpleP ps=true
   ·rw[hsi,if_pos rfl] at hfE
    by_cases har:Cal.areaP ps<0
    ·rw[if_pos har] at hfE
     have hsi:=Lib.hid hsi
     have hard:=decide_eq_true har
     go_wp2_with fail
     refine (simple_any V d ps _ (hPP.out _ hB.out)).mono ?_
     rintro e wn ⟨rfl,hbn⟩
     rw[hsi.out]
     have hB2:=Lib.hid (below_step hB.out hbn)
     clear hbn hB
     go_wp2_with fail
     refine (area_any V d ps _ (hPP.out _ hB2.out)).mono ?_
     rintro e wm ⟨rfl,hbn⟩
     have hB3:=Lib.hid (below_step hB2.out hbn)
     clear hbn
     go_wp2_with fail
     go_ret
     exact⟨ret_int hfE.out.symm,hB3.out⟩
    rw[if_neg har] at hfE
    have hsi:=Lib.hid hsi
    have hard:=decide_eq_false har
    go_wp2_with fail
    refine (simple_any V d ps _ (hPP.out _ hB.out)).mono ?_
    rintro e wn ⟨rfl,hbn⟩
    rw[hsi.out]
    have hB2:=Lib.hid (below_step hB.out hbn)
    clear hbn hB
    go_wp2_with fail
    refine (area_any V d ps _ (hPP.out _ hB2.out)).mono ?_
    rintro e wm ⟨rfl,hbn⟩
    have hB3:=Lib.hid (below_step hB2.out hbn)
    clear hbn
    go_wp2_with fail
    go_ret
    exact⟨ret_int hfE.out.symm,hB3.out⟩
   have hsi:Cal.simpleP ps=false:=by simpa using hsi
   rw[hsi,if_neg (by decide)] at hfE
   have hsi:=Lib.hid hsi
   go_wp2_with fail
   refine (simple_any V d ps _ (hPP.out _ hB.out)).mono ?_
   rintro e wn ⟨rfl,hbn⟩
   rw[hsi.out]
   have hB2:=Lib.hid (below_step hB.out hbn)
   clear hbn hB
   go_wp2_with fail
   go_ret
   exact⟨ret_int hfE.out.symm,hB2.out⟩
end Go.Proofs.YtoojdkaimhlcbaaGreat
