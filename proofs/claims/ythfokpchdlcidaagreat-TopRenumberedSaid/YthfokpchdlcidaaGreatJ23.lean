/- What the statements rest on: definitions and walks, part 23. -/
import Derived.Test.YthfokpchdlcidaaGreatJ22
set_option maxRecDepth 100000
set_option maxHeartbeats 16000000
set_option linter.unusedSimpArgs false
set_option linter.unusedVariables false
namespace Go.Proofs.YthfokpchdlcidaaGreat
open Go Go.RowKit Go.Shelf
attribute [local go_sem] Oper.semAt_some
theorem BdI.any {w:World} {Vb:Option Addr} {nb db N:Nat} {Ns:List Nat} {out:List Sd} {X:World} (h:BdI w Vb nb db N Ns out X):BdI w Vb nb db N [] out X :=
 ⟨h.b,by obtain⟨v,h2,h3,h4⟩:=h.o;exact⟨v,h2,h3,fun g _ hm=>by cases hm⟩,h.bel,h.lt,h.size⟩
section
variable {n : Nat} {g : Operand} {qs : Array Tmp} {assign body : Code} {Q : Exit → Act → World → Prop} {a : Act} {w : World} {Bs n₀ : Nat} {V : Option Addr} {d : Nat} {ps : List Pt}
theorem wpIn_sides1X (h1:2≤n) (hg:a.eval g=.func (.func 115) #[] #[.pointer (some ⟨Bs,0,none⟩)]) (hq:qs.size=2)
  (hBs:w.cell? ⟨Bs,0,none⟩=some (.slice V ps.length d)) (hBw:Bs<w.heap.size) (hP:Pts w V ps) (hn:n₀≤w.heap.size) (hVn:∀ ad,V=some ad→0<ps.length→ad.block<n₀)
  (I:Nat→World→Prop) (Ix:Code→Nat→World→Prop) (hI:OwnFrom w.heap.size I) (hIx:∀ c,OwnFrom w.heap.size (Ix c)) (h0:I 0 w)
  (Af:Array Value→Nat→Sd→Nat→Array Value) (Ex:Nat→World→Prop) (hEx:∀ b,OwnFrom w.heap.size (fun (_:Unit) W=>Ex b W))
  (hassign:∀ (l:Nat) (k:Nat) (W:World) (K:Act→World→Prop),k<ps.length→I k W→(∀ By W',w.heap.size≤By→KeepsFrom w.heap.size W W'→KpS n₀ Bs (w.heap.size+1+1) W W'→I k W'→BoxAt W' By [.int .i64 (Cal.sd ps k).a.x,.int .i64 (Cal.sd ps k).a.y,.int .i64 (Cal.sd ps k).b.x,.int .i64 (Cal.sd ps k).b.y]→Ex By W'→K { tmps:=Af a.tmps k (Cal.sd ps k) By,defers:=[] } W') →
   assign.wpIn (Fence.wide.inRound l) (n-1-1) Tryz.prog (Exit.then K (fun _ _ _=>False)) { tmps:=(qs.zip #[.int .i64 (k:Int),.agg #[.int .i64 (Cal.sd ps k).a.x,.int .i64 (Cal.sd ps k).a.y,.int .i64 (Cal.sd ps k).b.x,.int .i64 (Cal.sd ps k).b.y]]).foldl (fun t (p,v)=>t.setIfInBounds p v) a.tmps,defers:=[] } W)
  (hbody:∀ (l:Nat) (k:Nat) (By:Nat) (W:World),w.heap.size≤l→(∃ r,W.heap[l]?=some (.loop r))→k<ps.length→I k W→w.heap.size≤By→BoxAt W By [.int .i64 (Cal.sd ps k).a.x,.int .i64 (Cal.sd ps k).a.y,.int .i64 (Cal.sd ps k).b.x,.int .i64 (Cal.sd ps k).b.y]→Ex By W→body.wpIn (Fence.wide.inRound l) (n-1-1) Tryz.prog (ixPost w.heap.size (KpS n₀ Bs (w.heap.size+1+1)) (I (k+1)) (fun c=>Ix c k) W) { tmps:=Af a.tmps k (Cal.sd ps k) By,defers:=[] } W)
  (hdone:∀ (D:Nat) (W:World),w.heap.size≤D→I ps.length W→W.heap[D]?=some (.deferred (some []))→Q .normal { a with defers:={ target:=.collected D,args:=#[] } :: a.defers } W)
  (hstop:∀ (D:Nat) (c:Code) (k:Nat) (W:World),w.heap.size≤D→k<ps.length→Ix c k W→W.heap[D]?=some (.deferred (some []))→c.wpIn Fence.wide n Tryz.prog Q { a with defers:={ target:=.collected D,args:=#[] } :: a.defers } W) :
  (Code.rangeFunc g qs assign body).wpIn Fence.wide n Tryz.prog Q a w :=
 wpIn_range_sides h1 hg hq hBs hBw hP hn hVn I Ix hI hIx h0
  (fun x a' W=>∃ By,w.heap.size≤By∧BoxAt W By [.int .i64 x.2.a.x,.int .i64 x.2.a.y,.int .i64 x.2.b.x,.int .i64 x.2.b.y]∧Ex By W∧a'={ tmps:=Af a.tmps x.1 x.2 By,defers:=[] })
  (fun x a' _ X Y row hs hg hr=>by obtain⟨By,e1,e2,e4,e3⟩:=hs;exact⟨By,e1,e2.keptF hg (fun r e=>(hr r e).2),hEx By () X Y row e4 hg hr,e3⟩)
  (fun l k W K hk hi hK=>hassign l k W K hk hi (fun By W' h1 h2 h3 h4 h5 h6=>hK _ _ h2 h3 h4 ⟨By,h1,h5,h6,rfl⟩))
  (fun l k a' W hl hr hk hi hax=>by obtain⟨By,h1,h2,h3,rfl⟩:=hax;exact hbody l k By W hl hr hk hi h1 h2 h3) hdone hstop
end
def BdX (w:World) (b:Nat) (W:World):Prop:=∃ v,BoxAt W (w.heap.size+1) [v]∧∀ g,v.ownBlock=some g→g≠b
theorem bdX_own (w:World) (b:Nat) (B:Nat):OwnFrom B (fun (_:Unit) W=>BdX w b W):=fun _ X Y row h hg hr=>by
 obtain⟨v,h1,h2⟩:=h
 exact⟨v,h1.keptF hg (fun r e=>(hr r e).2),h2⟩
theorem BdI.avoid2 {w:World} {Vb:Option Addr} {nb db N b:Nat} {Ns:List Nat} {out:List Sd} {X:World} (h:BdI w Vb nb db N Ns out X) (hx:BdX w b X):BdI w Vb nb db N [X.heap.size,b] out X:=by
 obtain⟨h1,⟨v,h2,h3,h4⟩,h5,h6,h7⟩:=h
 obtain⟨v',k1,k2⟩:=hx
 have e:v=v':=by
  have a1:=h2.c 0 _ rfl;have a2:=k1.c 0 _ rfl
  rw[a1] at a2
  exact Option.some.inj a2
 subst e
 refine⟨h1,⟨v,h2,h3,fun g hg hm=>?_⟩,h5,h6,h7⟩
 rcases List.mem_cons.1 hm with e | hm
 ·have:=(OwnL.lt h3 g hg).2;omega
 exact k2 g hg (List.mem_singleton.1 hm)
theorem bdIn_len (s:Sd) (vs:List Pt) (j:Nat):(bdIn s vs j).length≤vs.length:=by
 unfold bdIn
 refine Nat.le_trans (List.length_filterMap_le _ _) ?_
 rw[List.length_take,sds_length]
 exact Nat.min_le_right _ _
theorem bdTo_len (us vs:List Pt) (k:Nat):(bdTo us vs k).length≤us.length*vs.length:=by
 unfold bdTo
 have h:∀ L:List Sd,(L.flatMap fun s=>(Cal.sds vs).filterMap (Cal.commonS s)).length≤L.length*vs.length:=by
  intro L
  induction L with
  | nil=>simp
  | cons a L ih =>
   rw[List.flatMap_cons,List.length_append,List.length_cons,Nat.succ_mul]
   have:=List.length_filterMap_le (Cal.commonS a) (Cal.sds vs)
   rw[sds_length] at this
   omega
 refine Nat.le_trans (h _) (Nat.mul_le_mul_right _ ?_)
 rw[List.length_take,sds_length]
 exact Nat.min_le_right _ _
theorem sdR_wid (l:List Sd):∀ r∈l.map sdR,r.length=4:=fun r hr=>by obtain⟨s,_,rfl⟩:=List.mem_map.1 hr;rfl
theorem sdR_one (l:List Sd):∀ r∈l.map sdR,∀ u∈r,u.oneCell'=true:=fun r hr u hu=>by
 obtain⟨s,_,rfl⟩:=List.mem_map.1 hr
 simp only[sdR,List.mem_cons,List.not_mem_nil,or_false] at hu
 rcases hu with rfl | rfl | rfl | rfl <;> rfl
def BdJ (w:World) (Vb:Option Addr) (db:Nat) (us vs:List Pt) (k:Nat) (W:World):Prop:=BdI w Vb vs.length db (w.heap.size+3) [] (bdTo us vs k) W
def BdJ2 (w:World) (Vb:Option Addr) (db B Bs Bx S Bi:Nat) (W:World) (out:List Sd) (s:Sd) (vs:List Pt) (j:Nat) (Y:World):Prop :=
 BdI w Vb vs.length db (w.heap.size+3) [Bi,Bx] (out ++ bdIn s vs j) Y∧BoxAt Y Bx [.int .i64 s.a.x,.int .i64 s.a.y,.int .i64 s.b.x,.int .i64 s.b.y]∧Rd B w.heap.size Bs W Y∧S≤Y.heap.size
theorem bdJ_own (w:World) (Vb:Option Addr) (db:Nat) (us vs:List Pt) (B:Nat) (hB:w.heap.size≤B):OwnFrom B (BdJ w Vb db us vs):=fun _ _ _ _ hs hg hr =>
 BdI.kept hs hg (fun r e=>⟨Nat.le_trans hB (hr r e).1,(hr r e).2⟩)
theorem bdJ2_own (w:World) (Vb:Option Addr) (db B Bs Bx S Bi:Nat) (W:World) (out:List Sd) (s:Sd) (vs:List Pt) (B':Nat) (hB:W.heap.size≤B') (hn:w.heap.size≤W.heap.size) (hs:Bs<W.heap.size):OwnFrom B' (BdJ2 w Vb db B Bs Bx S Bi W out s vs):=fun k X Y row h hg hr =>
 ⟨h.1.kept hg (fun r e=>⟨by have:=(hr r e).1;omega,(hr r e).2⟩),h.2.1.keptF hg (fun r e=>(hr r e).2),rd_own (β:=Nat) hB hn hs k X Y row h.2.2.1 hg hr,Nat.le_trans h.2.2.2 hg.size⟩
theorem no_own (B:Nat):OwnFrom B (fun (_:Nat) (_:World)=>False):=fun _ _ _ _ h _ _=>h
theorem border_any (Va Vb:Option Addr) (da db:Nat) (us vs:List Pt) (w:World) (hA:Pts w Va us) (hB:Pts w Vb vs) (hla:us.length≤40) (hlb:vs.length≤40) :
  Calls Tryz.prog 42 #[.slice Va us.length da,.slice Vb vs.length db] w fun e w'=>∃ v,e=.returned v∧OwnL w' w.heap.size 90 4 v ((Cal.borderP us vs).map sdR)∧Below w.heap.size w w':=by
 refine (callsIn_wide (n:=6)).1 ?_
 refine callsIn_of_wp_marks Tryz.func42 rfl trivial ?_ rfl
 simp only[Tryz.ntmps42,List.size_toArray,List.length_cons,List.length_nil,Nat.reduceAdd,Nat.reduceSub,Array.replicate_succ,Array.replicate_zero,List.push_toArray,List.append_toArray,List.nil_append,List.cons_append]
 gi_wp2_with (refine⟨trivial,?_⟩;gi_at_call 78;refine (callsIn_wide.2 (sides_any _ _ _ _)).mono ?_;rintro e w' ⟨rfl,rfl⟩)
 have bB:=((BoxAt.new w #[.slice Vb vs.length db] 22).alloc (.cells #[.slice none 0 0] 83)).alloc (.cells #[.slice Va us.length da] 22)
 have bR:=(BoxAt.new (w.alloc (.cells #[.slice Vb vs.length db] 22)) #[.slice none 0 0] 83).alloc (.cells #[.slice Va us.length da] 22)
 have bS:=BoxAt.new ((w.alloc (.cells #[.slice Vb vs.length db] 22)).alloc (.cells #[.slice none 0 0] 83)) #[.slice Va us.length da] 22
 have hB0:Below w.heap.size w (((w.alloc (.cells #[.slice Vb vs.length db] 22)).alloc (.cells #[.slice none 0 0] 83)).alloc (.cells #[.slice Va us.length da] 22)):=below_step (below_step (below_alloc _ _) (below_alloc _ _)) (below_alloc _ _)
 have hs0:((((w.alloc (.cells #[.slice Vb vs.length db] 22)).alloc (.cells #[.slice none 0 0] 83)).alloc (.cells #[.slice Va us.length da] 22))).heap.size=w.heap.size+3:=by simp
 simp only[World.size_alloc] at bR bS
 obtain⟨W0,hW0⟩:∃ W0,(((w.alloc (.cells #[.slice Vb vs.length db] 22)).alloc (.cells #[.slice none 0 0] 83)).alloc (.cells #[.slice Va us.length da] 22))=W0:=⟨_,rfl⟩
 rw[hW0] at bB bR bS hB0 hs0 ⊢
 clear hW0
 have hs00:=Lib.hid hs0
 replace hs0:w.heap.size+3≤W0.heap.size:=Nat.le_of_eq hs0.symm
 have hA0:=hA.below hB0
 refine wpIn_sides1X (Bs:=w.heap.size+1+1) (n₀:=w.heap.size) (V:=Va) (d:=da) (ps:=us) (by omega) rfl rfl (bS.c 0 _ rfl) (by omega) hA0 (by omega) hA.own
  (BdJ w Vb db us vs) (fun _ _ _=>False) (bdJ_own w Vb db us vs _ (by omega)) (fun _=>no_own _) ⟨bB,⟨_,bR,OwnL.nil _ _ _ _,fun g h=>by cases h⟩,hB0,Nat.le_refl _,hs0⟩
  (fun T k t By=>((T.setIfInBounds 14 (.int .i64 (k:Int))).setIfInBounds 15 (.agg #[.int .i64 t.a.x,.int .i64 t.a.y,.int .i64 t.b.x,.int .i64 t.b.y])).setIfInBounds 7 (.pointer (some ⟨By,0,none⟩))) (BdX w) (fun b=>bdX_own w b _)
  ?assign ?body ?done ?stop
 case assign =>
  rintro l k W K hk hI hK
  gi_wp2
  have hz:=BdI.size hI
  exact hK W.heap.size _ (by have:=hs00.out;omega) ((KeepsOthers.alloc _ _).from _) (KpS.below (below_alloc _ _) hI.bel.size (by omega)) (BdI.below hI (below_alloc _ _)) (BoxAt.new W #[.int .i64 (Cal.sd us k).a.x,.int .i64 (Cal.sd us k).a.y,.int .i64 (Cal.sd us k).b.x,.int .i64 (Cal.sd us k).b.y] _) (by obtain⟨v,h2,h3,_⟩:=BdI.o hI;exact⟨v,h2.alloc _,fun g hg e=>by have:=(OwnL.lt h3 g hg).2;omega⟩)
 case body =>
  rintro l k Bx W hl ⟨r,hr⟩ hk hI hBx bX hX
  simp only[List.setIfInBounds_toArray,List.set_cons_zero,List.set_cons_succ]
  have hsd:=hA.sd k hk
  have hz:=BdI.size hI
  have hbl:=BdI.bel hI
  have b0:=(BdI.b hI).c 0 _ rfl
  have hIz:=Lib.hid (BdI.avoid2 hI hX)
  have bXz:=Lib.hid bX
  clear hI bX hX
  gi_wp2_with (refine⟨trivial,?_⟩;gi_at_call 78;refine (callsIn_wide.2 (sides_any _ _ _ _)).mono ?_;rintro e w' ⟨rfl,rfl⟩)
  have hbw:Below W.heap.size W (W.alloc (.cells #[.slice Vb vs.length db] 22)):=below_alloc _ _
  have bT:=BoxAt.new W #[.slice Vb vs.length db] 22
  have hI1:=hIz.out.below hbw
  have bX1:=bXz.out.below hbw
  have hs1:(W.alloc (.cells #[.slice Vb vs.length db] 22)).heap.size=W.heap.size+1:=by simp
  have hr1:(W.alloc (.cells #[.slice Vb vs.length db] 22)).heap[l]?=some (.loop r):=(hbw.block l (Array.getElem?_eq_some_iff.1 hr).1).trans hr
  obtain⟨W1,hW1⟩:∃ W1,W.alloc (.cells #[.slice Vb vs.length db] 22)=W1:=⟨_,rfl⟩
  rw[hW1] at bT hI1 hs1 hr1 hbw bX1 ⊢
  clear hW1
  replace hs1:W.heap.size+1≤W1.heap.size:=Nat.le_of_eq hs1.symm
  obtain⟨s,hs⟩:∃ s,Cal.sd us k=s:=⟨_,rfl⟩
  rw[hs] at bX1 hsd ⊢
  have hs:=Lib.hid hs
  obtain⟨out,hout⟩:∃ out,bdTo us vs k=out:=⟨_,rfl⟩
  have hI1:=hI1
  rw[hout] at hI1
  have hout:=Lib.hid hout
  refine wpIn_sides1N hr1 (Bs:=W.heap.size) (n₀:=w.heap.size) (V:=Vb) (d:=db) (ps:=vs) (by omega) rfl rfl (bT.c 0 _ rfl) (by omega) (hB.below hI1.bel) (by omega) hB.own
   (BdJ2 w Vb db W0.heap.size (w.heap.size+1+1) Bx W1.heap.size W.heap.size W out s vs) (fun _ _ _=>False) (bdJ2_own w Vb db _ _ _ _ _ W out s vs _ (by omega) (by omega) (by omega)) (fun _=>no_own _)
   ⟨by rw[bdIn_zero,List.append_nil];exact hI1,bX1,Rd.below hbw (by omega) (by omega),Nat.le_refl _⟩
   (fun T j t By=>((T.setIfInBounds 18 (.int .i64 (j:Int))).setIfInBounds 19 (.agg #[.int .i64 t.a.x,.int .i64 t.a.y,.int .i64 t.b.x,.int .i64 t.b.y])).setIfInBounds 9 (.pointer (some ⟨By,0,none⟩)))
   ?assign2 ?body2 ?done2 ?stop2
  case assign2 =>
   rintro l2 j Y K hj ⟨hI2,bX2,hR2,hz2⟩ hK
   gi_wp2
   exact hK Y.heap.size _ (by omega) ((KeepsOthers.alloc _ _).from _) (KpS.below (below_alloc _ _) (by omega) (by omega)) ⟨hI2.below (below_alloc _ _),bX2.alloc _,hR2.trans (Rd.below (below_alloc _ _) (by omega) (by omega)),by simp;omega⟩ (BoxAt.new Y #[.int .i64 (Cal.sd vs j).a.x,.int .i64 (Cal.sd vs j).a.y,.int .i64 (Cal.sd vs j).b.x,.int .i64 (Cal.sd vs j).b.y] _)
  case body2 =>
   rintro l2 j By Y hl2 ⟨r2,hr2⟩ hj ⟨hI2,bX2,hR2,hz2⟩ hBy bY
   simp only[List.setIfInBounds_toArray,List.set_cons_zero,List.set_cons_succ]
   have hse:=hB.sd j hj
   obtain⟨e0,e1,e2,e3⟩:=bX2.c4;obtain⟨g0,g1,g2,g3⟩:=bY.c4
   obtain⟨t,htt⟩:∃ t,Cal.sd vs j=t:=⟨_,rfl⟩
   rw[htt] at g0 g1 g2 g3 hse ⊢
   obtain⟨⟨x,c⟩,hcm⟩:∃ xc,comT s t=xc:=⟨_,rfl⟩
   have hcs:=comT_eq s t
   rw[hcm] at hcs
   have hcm:=Lib.hid hcm
   have hall:=Lib.hid (And.intro hI2 (And.intro bX2 hR2))
   clear hI2 bX2 hR2 bY
   cases c
   ·have hno:Hid (bdIn s vs (j+1)=bdIn s vs j):=bdIn_no hj (by rw[htt,hcs];rfl)
    clear hcs htt
    gi_wp2_with (refine⟨trivial,?_⟩;gi_at_call 79;refine (callsIn_wide.2 (common_any s t _ hsd hse)).mono ?_;rintro e wn ⟨rfl,hbn⟩;rw[hcm.out])
    obtain⟨hI2,bX2,hR2⟩:=hall.out
    have hb9:=below_step hbn (below_alloc wn (.cells #[.int .i64 x.a.x,.int .i64 x.a.y,.int .i64 x.b.x,.int .i64 x.b.y] 90))
    have hz4:=hb9.size
    refine⟨(keepsF_below hb9).from _,KpS.below hb9 (by omega) (by omega),by rw[hno.out];exact hI2.below hb9,bX2.below hb9,hR2.trans (Rd.below hb9 (by omega) (by omega)),by omega⟩
   have hyes:Hid (bdIn s vs (j+1)=bdIn s vs j ++ [x]):=bdIn_yes hj (by rw[htt,hcs];rfl)
   clear hcs htt
   obtain⟨v,hv,ho,hnb⟩:=hall.out.1.o
   have hlen:((out ++ bdIn s vs j).map sdR).length≤4000:=by
    rw[List.length_map,List.length_append]
    have h1:=bdIn_len s vs j
    have h2:=bdTo_len us vs k
    have h3:us.length*vs.length≤40*40:=Nat.mul_le_mul hla hlb
    rw[hout.out] at h2
    omega
   replace hlen:=Lib.hid hlen
   replace hv:=Lib.hid hv
   replace ho:=Lib.hid ho
   replace hnb:=Lib.hid hnb
   gi_wp2_with (first
    |(refine⟨trivial,?_⟩;gi_at_call 79;refine (callsIn_wide.2 (common_any s t _ hsd hse)).mono ?_;rintro e wn ⟨rfl,hbn⟩;rw[hcm.out];have hb9:=Lib.hid hbn;clear hbn e0 e1 e2 e3 g0 g1 g2 g3;have hv1:=Lib.hid (hv.out.below hb9.out);have ho1:=Lib.hid (OwnL.below ho.out hb9.out);have r0:=hv1.out.c 0 _ rfl;have hvl:=hv1.out.lt;have n0:¬w.heap.size+1=wn.heap.size:=(by omega);have hbA:=Lib.hid (below_step (below_alloc wn (.cells #[.int .i64 x.a.x,.int .i64 x.a.y,.int .i64 x.b.x,.int .i64 x.b.y] 90)) (below_alloc (wn.alloc (.cells #[.int .i64 x.a.x,.int .i64 x.a.y,.int .i64 x.b.x,.int .i64 x.b.y] 90)) (.cells #[.int .i64 x.a.x,.int .i64 x.a.y,.int .i64 x.b.x,.int .i64 x.b.y] 90)));have ho3:=Lib.hid (OwnL.below ho1.out hbA.out);have hsrc:Hid (RowsAt ((wn.alloc (.cells #[.int .i64 x.a.x,.int .i64 x.a.y,.int .i64 x.b.x,.int .i64 x.b.y] 90)).alloc (.cells #[.int .i64 x.a.x,.int .i64 x.a.y,.int .i64 x.b.x,.int .i64 x.b.y] 90)) (some ⟨wn.heap.size+1,0,none⟩) 4 ([x].map sdR)):=(by have h:=rowsAt_new (wn.alloc (.cells #[.int .i64 x.a.x,.int .i64 x.a.y,.int .i64 x.b.x,.int .i64 x.b.y] 90)) (sdR x) 90;rw[World.size_alloc] at h;exact h);have hYn:=hbA.out.size)
    |(gi_at_builtin;go_loud (refine wpListF_append_rows elemSg rfl _ _ rfl rfl rfl ho3.out (rows2:=[x].map sdR) hsrc.out rfl (sdR_wid [x]) (sdR_one [x]) (Nat.le_trans (Nat.add_le_add hlen.out (Nat.le_of_eq (show ([x].map sdR).length=1 from rfl))) (by decide)) (by decide) (Nat.le_trans (BdI.size hall.out.1) (Nat.le_trans hb9.out.size hYn)) ?_;intro v' w5 hown5 hg5 hob5;obtain⟨A5,c5,hv'',_⟩:=OwnL.form hown5;subst hv'';have hA5:=Lib.hid hown5;have hG5:=Lib.hid hg5;have hO5:=Lib.hid hob5;have hv5:=Lib.hid ((hv1.out.below hbA.out).grown hg5 (fun e=>by have:=(OwnL.lt ho3.out _ e.symm).1;omega));clear hown5 hg5 hob5;have q2:=hv5.out.c 0 _ rfl;have q3:=hv5.out.free 0 Nat.zero_lt_one)))
   obtain⟨hI2,bX2,hR2⟩:=hall.out
   have hzY:=BdI.size hI2
   have hb9z:=hb9.out.size
   have hbAz:=hbA.out.size
   have hown:=fun g e=>OwnL.lt ho3.out g e
   have hneW:some W.heap.size≠v.ownBlock:=fun e=>hnb.out _ e.symm (by simp)
   have hneX:some Bx≠v.ownBlock:=fun e=>hnb.out _ e.symm (by simp)
   have hne0:some w.heap.size≠v.ownBlock:=fun e=>by have:=(hown _ e.symm).1;omega
   have hneS:some (w.heap.size+1+1)≠v.ownBlock:=fun e=>by have:=(hown _ e.symm).1;omega
   have hYA:=hb9.out.trans (hbA.out.mono hb9z)
   have hB5:Below w.heap.size Y w5:=(hYA.mono (by omega)).grown hG5.out (by omega) (fun g e=>by have:=(hown g e).1;omega)
   have hKO:=fun u=>(((keepsF_below hb9.out).trans (keepsF_below hbA.out)).trans (OwnL.keepsF ho3.out hG5.out)).trans (KeepsOthers.setCell w5 ⟨w.heap.size+1,0,none⟩ u)
   have hblk:∀ b,b<Y.heap.size→some b≠v.ownBlock→w5.heap[b]?=Y.heap[b]?:=fun b hb hne=>(hG5.out.block b (by omega) hne).trans (hYA.block b hb)
   have hz5:=hG5.out.size
   refine⟨(hKO _).from _,⟨hB5.setCell (p:=⟨w.heap.size+1,0,none⟩) (Nat.le_succ _) _,(Below.heap_setCell w5 ⟨w.heap.size+1,0,none⟩ _ W.heap.size (show W.heap.size≠w.heap.size+1 by omega)).trans (hblk _ (by omega) hneW)⟩,?_,(bX2.ofBlock (hblk _ bX2.lt hneX) (by omega)).off 0 _ (by omega),hR2.trans ⟨(hKO _).from _,hB5.setCell (p:=⟨w.heap.size+1,0,none⟩) (Nat.le_succ _) _,(Below.heap_setCell w5 ⟨w.heap.size+1,0,none⟩ _ (w.heap.size+1+1) (show w.heap.size+1+1≠w.heap.size+1 by omega)).trans (hblk _ (by omega) hneS)⟩,by rw[World.size_setCell];omega⟩
   refine⟨(hI2.b.ofBlock (hblk _ (by omega) hne0) (by omega)).off 0 _ (by omega),⟨_,hv5.out.set 0 _ Nat.zero_lt_one,?_,fun g hg hm=>?_⟩,hI2.bel.trans (hB5.setCell (p:=⟨w.heap.size+1,0,none⟩) (Nat.le_succ _) _),Nat.le_refl _,by rw[World.size_setCell];omega⟩
   ·rw[hyes.out,←List.append_assoc,List.map_append]
    have hA9:=hA5.out
    have hl:(List.map sdR (out ++ bdIn s vs j) ++ List.map sdR [x]).length=out.length+((bdIn s vs j).length+1):=by simp[Nat.add_assoc]
    rw[hl] at hA9
    exact OwnL.offF (B':=w.heap.size+1) hA9 0 _ (show w.heap.size+1<w.heap.size+3 by omega)
   have hO:=hO5.out
   simp only[List.length_append,List.length_map,List.length_cons,List.length_nil,Nat.zero_add,Nat.add_assoc] at hO
   rcases hO with e | e
   ·rw[e] at hg;exact hnb.out g hg hm
   rw[hg] at e
   have e:=Option.some.inj e
   simp only[World.size_alloc] at e
   have hBx1:=bX2.lt
   simp only[List.mem_cons,List.not_mem_nil,or_false] at hm
   rcases hm with hm | hm <;> omega
  case done2 =>
   rintro Y ⟨hI2,bX2,hR2,hz2⟩
   gi_wp2
   refine⟨hR2.keeps,hR2.kp,?_⟩
   have h:=hI2.any
   rw[←hout.out,←hs.out,←bdTo_succ hk] at h
   exact h
  case stop2 =>
   rintro c j Y hj h0
   exact h0.elim
 case done =>
  rintro D W hD hI hK
  obtain⟨v,hv,ho,_⟩:=hI.o
  have r0:=hv.c 0 _ rfl
  have hAll:=Lib.hid (And.intro hI.bel (And.intro ho hK))
  clear hI hv ho hK
  gi_wp2
  obtain⟨hB,ho,hK⟩:=hAll.out
  have ho':Others W (some D):=fun r e=>by cases e;exact⟨_,hK,rfl⟩
  refine⟨by simp,.inl ⟨_,_,rfl,run_takeDeferred hK,?_⟩⟩
  exact⟨_,results_tmp (t:=4) rfl _ _ _,v,rfl,by rw[←bdTo_all];exact (OwnL.keptF ho (grownBy_putObj' W D (.deferred none)) ho').less (by omega),belowF_put hB (by omega) _⟩
 case stop =>
  rintro D c k W hD hk h0
  exact h0.elim
end Go.Proofs.YthfokpchdlcidaaGreat
namespace Go.Proofs.YthfokpchdlcidaaGreat
open Go Go.RowKit Go.Shelf
attribute [local go_sem] Oper.semAt_some
structure PA where
 V:Option Addr
 d:Nat
 ps:List Pt
def PA.v (p:PA):Value:=.slice p.V p.ps.length p.d
end Go.Proofs.YthfokpchdlcidaaGreat
namespace Go.Proofs.YthfokpchdlcidaaGreat
open Go Go.RowKit Go.Shelf
theorem few2_any (V:Option Addr) (n d:Nat) (w:World):Calls Tryz.prog 40 #[.slice V n d] w fun e w'=>e=.returned (.bool (fewL n))∧Below w.heap.size w w':=by
 by_cases hn:n≤1000000
 ·exact few_any V n d w hn
 have hf:Hid (fewL n=false):=by show _=_;unfold fewL;rw[decide_eq_false (by omega),decide_eq_false (by omega:¬n≤60)];simp
 have hi:¬(n:Int)≤10:=by omega
 have hi2:(40:Int)<n:=by omega
 have hi3:¬(n:Int)≤60:=by omega
 go_enter Tryz.func40,Tryz.ntmps40
 go_wp2_with fail
 go_ret
 exact⟨by rw[hf.out];rfl,blw⟩
theorem fewL_le {n:Nat} (h:fewL n=true):n≤60:=by
 unfold fewL at h
 rw[Bool.or_eq_true,Bool.and_eq_true,decide_eq_true_iff,decide_eq_true_iff,decide_eq_true_iff] at h
 omega
theorem ptsR_of {w:World} {V:Option Addr} {ps:List Pt} (h:RowsAt w V 2 (ps.map ptR)) (hl:ps.length≤1000000):PtsR w V ps :=
 ⟨h,hl,fun ad e h0=>by
  obtain⟨b,o,hA,hb,_⟩:=h 0 (ptR ps[0]) (by simp[h0])
  rw[e] at hA
  cases hA
  exact hb⟩
end Go.Proofs.YthfokpchdlcidaaGreat
namespace Go.Proofs.YthfokpchdlcidaaGreat
open Go Go.RowKit Go.Shelf
structure SmallF (s:Sct):Prop where
 name:s.name.size≤30
 few:fewL s.ps.length=true
 plots:s.l.length≤4∨60<s.l.length∧s.l.length≤70
 each:∀ p∈s.l,p.name.size≤30∧fewL p.ps.length=true
def SmallQ (s:Sct) (w:World) (e:Ending) (w':World):Prop:=∃ b,e=.returned (.bool b)∧(b=true→SmallF s)∧Below w.heap.size w w'
theorem Small_any (s:Sct) (w:World) (hR:RowsAt w s.S 2 (s.l.map Plo.cells)) :
  Calls Tryz.prog 8 #[.agg #[.string s.name,.slice s.V s.ps.length s.d,.slice s.S s.l.length s.e]] w fun e w'=>SmallQ s w e w':=by
 have hI:Hid (GpI w s (w.alloc (.cells #[.string s.name,.slice s.V s.ps.length s.d,.slice s.S s.l.length s.e] 25))):=⟨BoxAt.new w #[.string s.name,.slice s.V s.ps.length s.d,.slice s.S s.l.length s.e] 25,below_alloc _ _⟩
 have hrows:=Lib.hid hR
 clear hR
 obtain⟨nm,V,d,ps,S,e,l⟩:=s
 dsimp only at *
 have hf:=Lib.hid (fun W=>few2_any V ps.length d W)
 (obtain⟨a0,a1,a2⟩:=hI.out.a.c3)
 by_cases z1:30<(nm.size:Int)
 ·go_enter Tryz.func8,Tryz.ntmps8
  go_wp2_with fail
  go_ret
  exact⟨false,rfl,fun h=>(by cases h),hI.out.bel⟩
 cases hx:fewL ps.length
 ·rw[hx] at hf
  go_enter Tryz.func8,Tryz.ntmps8
  go_wp2_with (go_at_call 40;clear a0 a1 a2;refine (hf.out _).mono ?_;rintro e0 wm ⟨rfl,hbn⟩;replace hI:=Lib.hid (hI.out.below hbn);clear hbn;(obtain⟨a0,a1,a2⟩:=hI.out.a.c3))
  go_ret
  exact⟨false,rfl,fun h=>(by cases h),hI.out.bel⟩
 rw[hx] at hf
 have hf0:=Lib.hid hx
 clear hx
 by_cases z2:4<(l.length:Int)
 ·by_cases z3:(l.length:Int)≤60
  ·go_enter Tryz.func8,Tryz.ntmps8
   go_wp2_with (go_at_call 40;clear a0 a1 a2;refine (hf.out _).mono ?_;rintro e0 wm ⟨rfl,hbn⟩;replace hI:=Lib.hid (hI.out.below hbn);clear hbn;(obtain⟨a0,a1,a2⟩:=hI.out.a.c3))
   go_ret
   exact⟨false,rfl,fun h=>(by cases h),hI.out.bel⟩
  by_cases z4:70<(l.length:Int)
  ·go_enter Tryz.func8,Tryz.ntmps8
   go_wp2_with (go_at_call 40;clear a0 a1 a2;refine (hf.out _).mono ?_;rintro e0 wm ⟨rfl,hbn⟩;replace hI:=Lib.hid (hI.out.below hbn);clear hbn;(obtain⟨a0,a1,a2⟩:=hI.out.a.c3))
   go_ret
   exact⟨false,rfl,fun h=>(by cases h),hI.out.bel⟩
  have hpl:Hid (l.length≤4∨60<l.length∧l.length≤70):=Or.inr ⟨by omega,by omega⟩
  have z5:l.length≤70:=by omega
  go_enter Tryz.func8,Tryz.ntmps8
  go_wp2_with (go_at_call 40;clear a0 a1 a2;refine (hf.out _).mono ?_;rintro e0 wm ⟨rfl,hbn⟩;replace hI:=Lib.hid (hI.out.below hbn);clear hbn;(obtain⟨a0,a1,a2⟩:=hI.out.a.c3))
  clear a0 a1 a2
  go_loopw [3] (fun i wr=>∃ k:Nat,k≤l.length∧i=.int .i64 k∧Hid (∀ j (h:j<l.length),j<k→l[j].name.size≤30∧fewL l[j].ps.length=true)∧Hid (GpI w _ wr)) (fun i _=>l.length-(intOf i).toNat)
  case atStart=>exact⟨0,Nat.zero_le _,rfl,fun j h h'=>absurd h' (Nat.not_lt_zero _),hI⟩
  case round =>
   clear hI
   obtain⟨k,hk,rfl,hdone,hI⟩:=hrel
   (obtain⟨a0,a1,a2⟩:=hI.out.a.c3)
   by_cases hlt:k<l.length
   ·have hk':l[k]?=some l[k]:=List.getElem?_eq_getElem hlt
    have hnext:=Lib.hid (fun (h1:l[k].name.size≤30∧fewL l[k].ps.length=true) j (h:j<l.length) (h2:j<k+1)=>show l[j].name.size≤30∧fewL l[j].ps.length=true by
     rcases Nat.lt_succ_iff_lt_or_eq.1 h2 with h3 | h3
     ·exact hdone.out j h h3
     subst h3;exact h1)
    have hkk:(k:Int)<(l.length:Int):=by omega
    generalize l[k]=p at *
    obtain⟨b,o,rfl,hbl,c0,c1⟩:=plo_at (hrows.out.below hI.out.bel) hk'
    have hf2:=Lib.hid (fun W=>few2_any p.V p.ps.length p.d W)
    by_cases z1:p.name.size≤30
    ·have z2:¬30<(p.name.size:Int):=by omega
     cases hx:fewL p.ps.length
     ·rw[hx] at hf2
      clear hk' hnext
      go_wp2_with (go_at_call 40;clear a0 a1 a2;refine (hf2.out _).mono ?_;rintro e0 wm ⟨rfl,hbn⟩;replace hI:=Lib.hid (hI.out.below hbn);clear hbn)
      go_ret
      exact⟨false,rfl,fun h=>(by cases h),hI.out.bel⟩
     rw[hx] at hf2
     have hnx:=Lib.hid (hnext.out ⟨z1,hx⟩)
     clear hk' hnext
     go_wp2_with (go_at_call 40;clear a0 a1 a2;refine (hf2.out _).mono ?_;rintro e0 wm ⟨rfl,hbn⟩;replace hI:=Lib.hid (hI.out.below hbn);clear hbn)
     go_roundw
     case rel=>exact⟨k+1,by omega,by go_num,hnx,hI⟩
     case measure=>simp[intOf];omega
    have z2:30<(p.name.size:Int):=by omega
    clear hk' hnext
    go_wp2_with fail
    go_ret
    exact⟨false,rfl,fun h=>(by cases h),hI.out.bel⟩
   obtain rfl:k=l.length:=by omega
   go_wp2_with fail
   go_ret
   refine⟨true,?_,fun _=>?_,hI.out.bel⟩
   ·rfl
   exact⟨by show nm.size≤30;omega,hf0.out,hpl.out,fun p hp=>by
    obtain⟨j,hj,rfl⟩:=List.getElem_of_mem hp
    exact hdone.out j hj hj⟩
 have hpl:Hid (l.length≤4∨60<l.length∧l.length≤70):=Or.inl (by omega)
 have z4:¬70<(l.length:Int):=by omega
 have z5:l.length≤70:=by omega
 go_enter Tryz.func8,Tryz.ntmps8
 go_wp2_with (go_at_call 40;clear a0 a1 a2;refine (hf.out _).mono ?_;rintro e0 wm ⟨rfl,hbn⟩;replace hI:=Lib.hid (hI.out.below hbn);clear hbn;(obtain⟨a0,a1,a2⟩:=hI.out.a.c3))
 clear a0 a1 a2
 go_loopw [3] (fun i wr=>∃ k:Nat,k≤l.length∧i=.int .i64 k∧Hid (∀ j (h:j<l.length),j<k→l[j].name.size≤30∧fewL l[j].ps.length=true)∧Hid (GpI w _ wr)) (fun i _=>l.length-(intOf i).toNat)
 case atStart=>exact⟨0,Nat.zero_le _,rfl,fun j h h'=>absurd h' (Nat.not_lt_zero _),hI⟩
 case round =>
  clear hI
  obtain⟨k,hk,rfl,hdone,hI⟩:=hrel
  (obtain⟨a0,a1,a2⟩:=hI.out.a.c3)
  by_cases hlt:k<l.length
  ·have hk':l[k]?=some l[k]:=List.getElem?_eq_getElem hlt
   have hnext:=Lib.hid (fun (h1:l[k].name.size≤30∧fewL l[k].ps.length=true) j (h:j<l.length) (h2:j<k+1)=>show l[j].name.size≤30∧fewL l[j].ps.length=true by
    rcases Nat.lt_succ_iff_lt_or_eq.1 h2 with h3 | h3
    ·exact hdone.out j h h3
    subst h3;exact h1)
   have hkk:(k:Int)<(l.length:Int):=by omega
   generalize l[k]=p at *
   obtain⟨b,o,rfl,hbl,c0,c1⟩:=plo_at (hrows.out.below hI.out.bel) hk'
   have hf2:=Lib.hid (fun W=>few2_any p.V p.ps.length p.d W)
   by_cases z1:p.name.size≤30
   ·have z2:¬30<(p.name.size:Int):=by omega
    cases hx:fewL p.ps.length
    ·rw[hx] at hf2
     clear hk' hnext
     go_wp2_with (go_at_call 40;clear a0 a1 a2;refine (hf2.out _).mono ?_;rintro e0 wm ⟨rfl,hbn⟩;replace hI:=Lib.hid (hI.out.below hbn);clear hbn)
     go_ret
     exact⟨false,rfl,fun h=>(by cases h),hI.out.bel⟩
    rw[hx] at hf2
    have hnx:=Lib.hid (hnext.out ⟨z1,hx⟩)
    clear hk' hnext
    go_wp2_with (go_at_call 40;clear a0 a1 a2;refine (hf2.out _).mono ?_;rintro e0 wm ⟨rfl,hbn⟩;replace hI:=Lib.hid (hI.out.below hbn);clear hbn)
    go_roundw
    case rel=>exact⟨k+1,by omega,by go_num,hnx,hI⟩
    case measure=>simp[intOf];omega
   have z2:30<(p.name.size:Int):=by omega
   clear hk' hnext
   go_wp2_with fail
   go_ret
   exact⟨false,rfl,fun h=>(by cases h),hI.out.bel⟩
  obtain rfl:k=l.length:=by omega
  go_wp2_with fail
  go_ret
  refine⟨true,?_,fun _=>?_,hI.out.bel⟩
  ·rfl
  exact⟨by show nm.size≤30;omega,hf0.out,hpl.out,fun p hp=>by
   obtain⟨j,hj,rfl⟩:=List.getElem_of_mem hp
   exact hdone.out j hj hj⟩
end Go.Proofs.YthfokpchdlcidaaGreat
namespace Go.Proofs.YthfokpchdlcidaaGreat
namespace Geo
structure Whole (M:Int) (p:Nat × (Nat→RP)):Prop where
 per:p.2 p.1=p.2 0
 int:∀ i,i≤p.1→∃ y:Int,(p.2 i).y=y∧-M≤y∧y<M
theorem Whole.cor {M:Int} {p:Nat × (Nat→RP)} (h:Whole M p) (k:Nat):∀ i,i≤p.1→(p.2 i).y≠slab M k:=fun i hi e=>by
 obtain⟨y,ey,_,_⟩:=h.int i hi
 rw[ey] at e
 exact slab_off M y k e
section
variable {K : Rat} (hK : 0 < K)
include hK
end
end Geo
end Go.Proofs.YthfokpchdlcidaaGreat
namespace Go.Proofs.YthfokpchdlcidaaGreat
open Go Go.RowKit Go.Shelf
structure SctO (w:World) (s:Sct):Prop where
 nm:s.name.size≤maxLen
 rows:RowsAt w s.V 2 (s.ps.map ptR)
 capp:s.ps.length≤s.d
 prow:RowsAt w s.S 2 (s.l.map Plo.cells)
 cap:s.l.length≤s.e
 each:∀ p∈s.l,RowsAt w p.V 2 (p.ps.map ptR)∧p.ps.length≤p.d∧p.name.size≤maxLen
theorem few_of {ps:List Pt} (h:fewL ps.length=true):few ps:=by
 unfold fewL at h
 unfold few
 simp at h
 omega
theorem SctO.sct {w:World} {s:Sct} (h:SctO w s) (hf:SmallF s):SctR w s :=
 ⟨h.nm,ptsR_of h.rows (by have:=fewL_le hf.few;omega),few_of hf.few,⟨h.prow,by have:=hf.plots;omega,fun p hp=>ptsR_of (h.each p hp).1 (by have:=fewL_le (hf.each p hp).2;omega),fun p hp=>(h.each p hp).2.2⟩,h.cap,fun p hp=>few_of (hf.each p hp).2⟩
end Go.Proofs.YthfokpchdlcidaaGreat
namespace Go.Proofs.YthfokpchdlcidaaGreat
open Go Go.RowKit Go.ChangeShapes Go.WideShapes Go.Deep
section
variable {H : Type} {enc : TypeId × Value → H} {w : World} {spare : Nat → Bool} {held : Bool} {r : Reach} {b0 : Nat} {v : Value} {d : DataW H} {ps : List MemPlace}
theorem pts_of_trod {fuel:Nat} {x:DataW H × List MemPlace} (hf:DataW.trod enc Tryz.prog w 0 spare held fuel 22 [v]=some x) :
  ∃ (A:Option Addr) (l:List Pt) (c:Nat),v=.slice A l.length c∧RowsAt w A 2 (l.map ptR)∧l.length≤c:=by
 obtain⟨A,len,cap,hcs,hlen,hq⟩:=rows_of_open Tryz.underlying22 Tryz.underlying27 (by kernel_rfl) (by kernel_rfl) (by decide) hf
 have he:v=.slice A len cap:=by simpa using hcs
 subst he
 have h1:∀ i,i<len→∃ p:Pt,∃ b o,A=some ⟨b,o,none⟩∧b<w.heap.size∧∀ j v,(ptR p)[j]?=some v→w.cell? ⟨b,o+(i*2+j),none⟩=some v:=fun i hi=>by
  obtain⟨b,o,n,hA,hb,hf⟩:=hq i hi
  obtain⟨v0,y0,c0,t0⟩:=hf 0 _ rfl
  obtain⟨v1,y1,c1,t1⟩:=hf 1 _ rfl
  obtain⟨s0,e0,_,_⟩:=DataW.trod_int Tryz.underlying3 t0
  obtain⟨s1,e1,_,_⟩:=DataW.trod_int Tryz.underlying3 t1
  cases e0;cases e1
  refine⟨⟨s0,s1⟩,b,o,hA,hb,fun j v hv=>?_⟩
  match j,hv with
  | 0,hv=>cases hv;exact c0
  | 1,hv=>cases hv;exact c1
  | j+2,hv=>simp[ptR] at hv
 obtain⟨l,hl,hq'⟩:=list_of len h1
 subst hl
 refine⟨A,l,cap,rfl,fun k r hr=>?_,hlen⟩
 rw[List.getElem?_map] at hr
 cases hk:l[k]? with
 | none=>rw[hk] at hr;cases hr
 | some p=>rw[hk] at hr;cases hr;exact hq' k p hk
theorem plots_of_trod {fuel:Nat} {x:DataW H × List MemPlace} (hf:DataW.trod enc Tryz.prog w 0 spare held fuel 23 [v]=some x) :
  ∃ (A:Option Addr) (l:List Plo) (c:Nat),v=.slice A l.length c∧RowsAt w A 2 (l.map Plo.cells)∧l.length≤c∧∀ p∈l,RowsAt w p.V 2 (p.ps.map ptR)∧p.ps.length≤p.d∧p.name.size≤maxLen:=by
 obtain⟨A,len,cap,hcs,hlen,hq⟩:=rows_of_open Tryz.underlying23 Tryz.underlying74 (by kernel_rfl) (by kernel_rfl) (by decide) hf
 have he:v=.slice A len cap:=by simpa using hcs
 subst he
 have h1:∀ i,i<len→∃ p:Plo,(RowsAt w p.V 2 (p.ps.map ptR)∧p.ps.length≤p.d∧p.name.size≤maxLen)∧∃ b o,A=some ⟨b,o,none⟩∧b<w.heap.size∧∀ j v,(Plo.cells p)[j]?=some v→w.cell? ⟨b,o+(i*2+j),none⟩=some v:=fun i hi=>by
  obtain⟨b,o,n,hA,hb,hf⟩:=hq i hi
  obtain⟨v0,y0,c0,t0⟩:=hf 0 _ rfl
  obtain⟨v1,y1,c1,t1⟩:=hf 1 _ rfl
  obtain⟨s0,e0,_,g0⟩:=DataW.trod_string Tryz.underlying9 t0
  obtain⟨V,l,k,e1,ha,hk⟩:=pts_of_trod t1
  cases e0
  subst e1
  refine⟨⟨s0,V,k,l⟩,⟨ha,hk,g0⟩,b,o,hA,hb,fun j v hv=>?_⟩
  match j,hv with
  | 0,hv=>cases hv;exact c0
  | 1,hv=>cases hv;exact c1
  | j+2,hv=>simp[Plo.cells] at hv
 obtain⟨l,hl,hq'⟩:=list_of len h1
 subst hl
 refine⟨A,l,cap,rfl,fun k r hr=>?_,hlen,fun p hp=>?_⟩
 ·rw[List.getElem?_map] at hr
  cases hk:l[k]? with
  | none=>rw[hk] at hr;cases hr
  | some p=>rw[hk] at hr;cases hr;exact (hq' k p hk).2
 obtain⟨k,hk,rfl⟩:=List.getElem_of_mem hp
 exact (hq' k _ (List.getElem?_eq_getElem hk)).1
theorem sec_of_open (hval:Value.okWide Tryz.prog w r b0 25 v) (h:DataW.Trod enc Tryz.prog w 0 spare held 25 v d ps) :
  ∃ s:Sct,v=.agg #[.string s.name,.slice s.V s.ps.length s.d,.slice s.S s.l.length s.e]∧SctO w s:=by
 have hu:=Tryz.underlying25
 unfold Value.okWide at hval
 rw[hu] at hval
 obtain⟨cs,rfl,hcs,_⟩:=hval
 obtain⟨fuel,hf⟩:=h
 obtain⟨m,xs,hlen,hxl,hi⟩:=trod_cells hu (by kernel_rfl) hf
 have h0:=hi 0 _ rfl
 have h1:=hi 1 _ rfl
 have h2:=hi 2 _ rfl
 rw[show Tryz.prog.cellsOf 25=3 by kernel_rfl] at hcs
 obtain⟨l⟩:=cs
 match l,hcs with
 | [a,b,c],_ =>
  match xs,hxl with
  | [y0,y1,y2],_ =>
   simp[Value.cells] at h0 h1 h2
   obtain⟨s0,e0,_,g0⟩:=DataW.trod_string Tryz.underlying9 h0
   obtain⟨V,l1,k1,e1,ha,hk⟩:=pts_of_trod h1
   obtain⟨S,l2,k2,e2,hb,hk2,hall⟩:=plots_of_trod h2
   cases e0
   subst e1
   subst e2
   exact⟨⟨s0,V,k1,l1,S,k2,l2⟩,rfl,⟨g0,ha,hk,hb,hk2,hall⟩⟩
end
end Go.Proofs.YthfokpchdlcidaaGreat
namespace Go.Proofs.YthfokpchdlcidaaGreat
open Go Go.RowKit Go.Shelf
theorem SctO.below {w w':World} {s:Sct} (h:SctO w s) (hb:Below w.heap.size w w'):SctO w' s :=
 ⟨h.nm,h.rows.below hb,h.capp,h.prow.below hb,h.cap,fun p hp=>⟨(h.each p hp).1.below hb,(h.each p hp).2⟩⟩
theorem PtsR.poly {w:World} {V:Option Addr} {ps:List Pt} (h:PtsR w V ps) (h0:Cal.polyE ps=0):Pts w V ps :=
 ⟨h.rows,h.size,fun p hp=>ptErr_sm ((Cal.polyE_poly h0).2.1 p hp),h.own⟩
theorem CheckPolyR2_any (V:Option Addr) (d:Nat) (ps:List Pt) (w:World) (hP:RowsAt w V 2 (ps.map ptR)):Calls Tryz.prog 48 #[.slice V ps.length d] w fun e w'=>e=.returned (.int .i64 (Cal.polyR ps))∧Below w.heap.size w w':=by
 by_cases hl:ps.length≤1000000
 ·exact CheckPolyR_any V d ps w (ptsR_of hP hl)
 have hb0:Hid (Below w.heap.size w w):=Below.refl _ _
 have hW:=Lib.hid (fun W=>Within_any (ps.length:Int) 3 40 W)
 rw[show decide ((ps.length:Int)≤40)=false from by simp;omega] at hW
 rw[Bool.and_false] at hW
 have hE:Cal.polyR ps=10:=by unfold Cal.polyR;rw[if_pos (by omega)]
 rw[hE]
 clear hE hP
 go_enter Tryz.func48,Tryz.ntmps48
 go_wp2_with (go_at_call 14;refine (hW.out _).mono ?_;rintro e _ ⟨rfl,rfl⟩)
 go_ret
 exact⟨rfl,hb0.out⟩
theorem CheckSectionO_any (s:Sct) (w:World) (hS:SctO w s) :
  Calls Tryz.prog 11 #[.agg #[.string s.name,.slice s.V s.ps.length s.d,.slice s.S s.l.length s.e]] w fun e w'=>e=.returned (.tuple #[.agg #[.int .i64 (sectE s.name s.ps s.l).1,.int .i64 (sectE s.name s.ps s.l).2.1],.int .i64 (sectE s.name s.ps s.l).2.2])∧Below w.heap.size w w':=by
 obtain⟨R,hRR⟩:∃ R,sectE s.name s.ps s.l=R:=⟨_,rfl⟩
 rw[hRR]
 have hnm:=Lib.hid hS.nm
 replace hS:=Lib.hid hS
 obtain⟨x1,h1⟩:∃ x,nameB s.name=x:=⟨_,rfl⟩
 obtain⟨x2,h2⟩:∃ x,Cal.polyE s.ps=x:=⟨_,rfl⟩
 have hR:Hid (R=if x1=true then (if x2=0 then (if 60<s.l.length then (0,0,8) else sectL s.ps [] s.l) else (0,0,x2)) else (0,0,4)):=by
  show _=_
  rw[←hRR]
  unfold sectE
  rw[h1,h2]
 clear hRR
 have hI:Hid (CsI w s ((w.alloc (.cells #[.string s.name,.slice s.V s.ps.length s.d,.slice s.S s.l.length s.e] 25)).alloc (.cells #[.int .i64 0,.int .i64 0] 36))):=by
  have b2:=BoxAt.new (w.alloc (.cells #[.string s.name,.slice s.V s.ps.length s.d,.slice s.S s.l.length s.e] 25)) #[.int .i64 0,.int .i64 0] 36
  rw[World.size_alloc] at b2
  exact⟨(BoxAt.new w #[.string s.name,.slice s.V s.ps.length s.d,.slice s.S s.l.length s.e] 25).alloc _,b2,below_step (below_alloc _ _) (below_alloc _ _)⟩
 replace h1:=Lib.hid h1
 have hpz:Cal.polyR s.ps=x2:=(Cal.polyR_eq _).trans h2
 (obtain⟨a0,a1,a2⟩:=hI.out.a.c3;obtain⟨r0,r1⟩:=hI.out.r.c2;obtain⟨f0,f1⟩:=hI.out.r.fr2)
 cases x1
 ·replace h2:=Lib.hid hpz
  clear hpz
  go_enter Tryz.func11,Tryz.ntmps11
  go_wp2_with (first
   |(go_at_call 47;refine (IsName_any s.name _ hnm.out).mono ?_;rintro e0 wn ⟨rfl,rfl⟩;rw[h1.out])
   |(go_at_call 48;clear a0 a1 a2 r0 r1 f0 f1;refine (CheckPolyR2_any s.V s.d s.ps _ (hS.out.rows.below hI.out.bel)).mono ?_;rintro e0 wn ⟨rfl,hbn⟩;rw[h2.out];(replace hI:=Lib.hid (hI.out.below hbn);clear hbn;(obtain⟨a0,a1,a2⟩:=hI.out.a.c3;obtain⟨r0,r1⟩:=hI.out.r.c2;obtain⟨f0,f1⟩:=hI.out.r.fr2))))
  refine bodyPost_ret (results_mid2 rfl _ _ (w.heap.size+1) [.int .i64 0,.int .i64 0] _ rfl hI.out.r.range Tryz.underlying36 rfl arr2Size) rfl ⟨by rw[hR.out];rfl,?_⟩
  exact hI.out.bel
 by_cases z2:x2=0
 ·subst z2
  by_cases h60:60<s.l.length
  ·replace hR:Hid (R=(0,0,8)):=by show _=_;rw[hR.out,if_pos rfl,if_pos rfl,if_pos h60]
   have h61:60<(s.l.length:Int):=by omega
   replace h2:=Lib.hid hpz
   clear hpz
   go_enter Tryz.func11,Tryz.ntmps11
   go_wp2_with (first
    |(go_at_call 47;refine (IsName_any s.name _ hnm.out).mono ?_;rintro e0 wn ⟨rfl,rfl⟩;rw[h1.out])
    |(go_at_call 48;clear a0 a1 a2 r0 r1 f0 f1;refine (CheckPolyR2_any s.V s.d s.ps _ (hS.out.rows.below hI.out.bel)).mono ?_;rintro e0 wn ⟨rfl,hbn⟩;rw[h2.out];(replace hI:=Lib.hid (hI.out.below hbn);clear hbn;(obtain⟨a0,a1,a2⟩:=hI.out.a.c3;obtain⟨r0,r1⟩:=hI.out.r.c2;obtain⟨f0,f1⟩:=hI.out.r.fr2))))
   refine bodyPost_ret (results_mid2 rfl _ _ (w.heap.size+1) [.int .i64 (0),.int .i64 (0)] _ rfl ((hI.out.r.set 0 (.int .i64 (0)) (by simp)).set 1 (.int .i64 (0)) (by simp)).range Tryz.underlying36 rfl arr2Size) rfl ⟨by rw[hR.out];rfl,?_⟩
   exact (hI.out.bel.setCell (p:=⟨w.heap.size+1,0,none⟩) (Nat.le_succ _) _).setCell (p:=⟨w.heap.size+1,1,none⟩) (Nat.le_succ _) _
  replace hR:Hid (R=sectL s.ps [] s.l):=by show _=_;rw[hR.out,if_pos rfl,if_pos rfl,if_neg h60]
  have h61:¬60<(s.l.length:Int):=by omega
  have hz0:=Lib.hid h2
  replace h2:=Lib.hid hpz
  clear hpz
  have hR0:Hid (R=sectL s.ps (s.l.take 0) (s.l.drop 0)):=hR
  have hok0:Hid (∀ q∈s.l.take 0,Cal.polyE q.ps=0):=fun q hq=>by cases hq
  clear hR
  go_enter Tryz.func11,Tryz.ntmps11
  go_wp2_with (first
   |(go_at_call 47;refine (IsName_any s.name _ hnm.out).mono ?_;rintro e0 wn ⟨rfl,rfl⟩;rw[h1.out])
   |(go_at_call 48;clear a0 a1 a2 r0 r1 f0 f1;refine (CheckPolyR2_any s.V s.d s.ps _ (hS.out.rows.below hI.out.bel)).mono ?_;rintro e0 wn ⟨rfl,hbn⟩;rw[h2.out];(replace hI:=Lib.hid (hI.out.below hbn);clear hbn;(obtain⟨a0,a1,a2⟩:=hI.out.a.c3;obtain⟨r0,r1⟩:=hI.out.r.c2;obtain⟨f0,f1⟩:=hI.out.r.fr2))))
  clear a0 a1 a2 r0 r1 f0 f1
  go_loopw [5] (fun i wr=>∃ k:Nat,k≤s.l.length∧i=.int .i64 k∧Hid (R=sectL s.ps (s.l.take k) (s.l.drop k))∧Hid (∀ q∈s.l.take k,Cal.polyE q.ps=0)∧Hid (CsI w s wr)) (fun i _=>s.l.length-(intOf i).toNat)
  case atStart=>exact⟨0,Nat.zero_le _,rfl,hR0,hok0,hI⟩
  case round =>
   clear hR0 hok0 hI
   obtain⟨k,hk,rfl,hR,hok,hI⟩:=hrel
   by_cases hlt:k<s.l.length
   ·have hd:=sectL_drop (sec:=s.ps) hlt
    have hkk:(k:Int)<(s.l.length:Int):=by omega
    have hk':s.l[k]?=some s.l[k]:=List.getElem?_eq_getElem hlt
    have hmem:=List.getElem_mem hlt
    have hok2:=Lib.hid (fun (h:Cal.polyE s.l[k].ps=0) q (hq:q∈s.l.take (k+1))=>show Cal.polyE q.ps=0 by
     rw[List.take_succ_eq_append_getElem hlt] at hq
     rcases List.mem_append.1 hq with h' | h'
     ·exact hok.out q h'
     rw[List.mem_singleton.1 h']
     exact h)
    generalize s.l[k]=p at *
    have hlen:(s.l.take k).length=k:=by rw[List.length_take];omega
    have hR':=hR.out.trans hd
    have hE4:Hid (nameB p.name=false→R=((k:Int),(k:Int),4)):=fun h1=>hR'.trans (by rw[plotE_4 h1,hlen];rfl)
    have hE5:Hid (nameB p.name=true→((s.l.take k).any fun q=>sameN q p)=true→R=((k:Int),(k:Int),5)):=fun h1 h2=>hR'.trans (by rw[plotE_5 h1 h2,hlen];rfl)
    have hE6:Hid (nameB p.name=true→((s.l.take k).any fun q=>sameN q p)=false→Cal.polyE p.ps≠0→R=((k:Int),(k:Int),Cal.polyE p.ps)):=fun h1 h2 h3=>hR'.trans (by rw[plotE_6 h1 h2 h3,hlen,if_neg h3])
    have hE7:Hid (nameB p.name=true→((s.l.take k).any fun q=>sameN q p)=false→Cal.polyE p.ps=0→Cal.withinP p.ps s.ps=false→R=((k:Int),(k:Int),2)):=fun h1 h2 h3 h4=>hR'.trans (by rw[plotE_7 h1 h2 h3 h4,hlen];rfl)
    have hE13:Hid (nameB p.name=true→((s.l.take k).any fun q=>sameN q p)=false→Cal.polyE p.ps=0→Cal.withinP p.ps s.ps=true→∀ (j:Nat) (q:Plo),j<k→s.l[j]?=some q→((s.l.take j).any (ovB p))=false→ovB p q=true→R=((j:Int),(k:Int),13)):=fun h1 h2 h3 h4 j q hjk hj h5 h6=>hR'.trans (by rw[plotE_13 (sec:=s.ps) (bf:=s.l.take k) h1 h2 h3 h4 (j:=j) (q:=q) (by rw[List.getElem?_take_of_lt hjk];exact hj) (by rw[List.take_take,Nat.min_eq_left (by omega)];exact h5) h6];rfl)
    have hE0:Hid (nameB p.name=true→((s.l.take k).any fun q=>sameN q p)=false→Cal.polyE p.ps=0→Cal.withinP p.ps s.ps=true→(s.l.take k).any (ovB p)=false→R=sectL s.ps (s.l.take (k+1)) (s.l.drop (k+1))):=fun h1 h2 h3 h4 h5=>hR'.trans (by rw[plotE_0 h1 h2 h3 h4 h5];rfl)
    have hpn:=Lib.hid ((hS.out.each _ hmem).2.2)
    have hpp:=Lib.hid ((hS.out.each _ hmem).1)
    have hpc:=Lib.hid ((hS.out.each _ hmem).2.1)
    have hpR:=Cal.polyR_eq p.ps
    obtain⟨b,o,hSS,hbl,c0,c1⟩:=plo_at (hS.out.prow.below hI.out.bel) hk'
    have hrows:=Lib.hid (fun W (hW:Below w.heap.size w W)=>hS.out.prow.below hW)
    have hgone:=Lib.hid (fun j (hj:j<k)=>List.getElem?_eq_getElem (l:=s.l) (Nat.lt_trans hj hlt))
    clear hd hR' hR hmem hk' hlen
    have hI2:=Lib.hid (show CdI w s p k wr.heap.size ((wr.alloc (.cells #[.string p.name,.slice p.V p.ps.length p.d] 74)).alloc (.cells #[.int .i64 (k:Int),.int .i64 (k:Int)] 36)) by
     have b2:=BoxAt.new (wr.alloc (.cells #[.string p.name,.slice p.V p.ps.length p.d] 74)) #[.int .i64 (k:Int),.int .i64 (k:Int)] 36
     rw[World.size_alloc] at b2
     exact⟨(hI.out.below (below_alloc _ _)).below (below_alloc _ _),(BoxAt.new wr #[.string p.name,.slice p.V p.ps.length p.d] 74).alloc _,b2⟩)
    have hwi:=Lib.hid (fun (h0:Cal.polyE p.ps=0) W (hW:Below w.heap.size w W)=>WithinR_any p.V p.d p.ps s.V s.d s.ps W (ptsR_of (hpp.out.below hW) (by have:=polyE_401 h0;omega)) hpc.out (ptsR_of (hS.out.rows.below hW) (by have:=polyE_401 hz0.out;omega)) h0 hz0.out)
    replace hwi:=Lib.hid (fun (h0:Cal.polyE p.ps=0) W (hW:Below w.heap.size w W)=>(within_same h0 hz0.out) ▸ hwi.out h0 W hW)
    have hov:=Lib.hid (fun (h0:Cal.polyE p.ps=0) (j:Nat) (q:Plo) (hjk:j<k) (hj:s.l[j]?=some q) W (hW:Below w.heap.size w W)=>by
     have hq:q∈s.l.take k:=by
      have:(s.l.take k)[j]?=some q:=by rw[List.getElem?_take_of_lt hjk];exact hj
      exact List.mem_of_getElem? this
     have hq0:=hok.out q hq
     have hqm:=List.mem_of_mem_take hq
     have hqP:=(ptsR_of ((hS.out.each q hqm).1.below hW) (by have:=polyE_401 hq0;omega)).poly hq0
     have hpP:=(ptsR_of (hpp.out.below hW) (by have:=polyE_401 h0;omega)).poly h0
     have:=OverlapR_any q.V q.d q.ps p.V p.d p.ps W hqP (hS.out.each q hqm).2.1 hpP hpc.out
     rw[over_same hq0 h0] at this
     exact this:∀ (h0:Cal.polyE p.ps=0) (j:Nat) (q:Plo) (hjk:j<k) (hj:s.l[j]?=some q) W (hW:Below w.heap.size w W),Calls Tryz.prog 50 #[.slice q.V q.ps.length q.d,.slice p.V p.ps.length p.d] W fun e w'=>e=.returned (.bool (ovB p q))∧Below W.heap.size W w')
    obtain⟨y1,g1⟩:∃ x,nameB p.name=x:=⟨_,rfl⟩
    have hch:=Lib.hid (fun W (hW:Below w.heap.size w W)=>CheckPolyR2_any p.V p.d p.ps W (hpp.out.below hW))
    rw[hpR] at hch
    rw[g1] at hE4 hE5 hE6 hE7 hE13 hE0
    replace g1:=Lib.hid g1
    generalize Cal.polyE p.ps=y3 at *
    generalize Cal.withinP p.ps s.ps=y4 at *
    clear hz0 hS hpR hok hpc hpp
    obtain⟨nm,V,d,ps,S,e,l⟩:=s
    dsimp only at *
    obtain rfl:=hSS
    (obtain⟨a0,a1,a2⟩:=hI.out.a.c3;obtain⟨r0,r1⟩:=hI.out.r.c2;obtain⟨f0,f1⟩:=hI.out.r.fr2)
    cases y1
    ·have hR:=Lib.hid (hE4.out rfl)
     clear hE4 hE5 hE6 hE7 hE13 hE0 hwi hov hch
     go_wp2_with (go_at_call 47;clear a0 a1 a2 r0 r1 f0 f1;replace hI:=hI2;clear hI2;(obtain⟨a0,a1,a2⟩:=hI.out.cs.a.c3;obtain⟨r0,r1⟩:=hI.out.cs.r.c2;obtain⟨f0,f1⟩:=hI.out.cs.r.fr2;obtain⟨p0,p1⟩:=hI.out.b6.c2;obtain⟨k0,k1⟩:=hI.out.b7.c2);refine (IsName_any p.name _ hpn.out).mono ?_;rintro e0 wn ⟨rfl,rfl⟩;rw[g1.out])
     refine bodyPost_ret (results_mid2 rfl _ _ (w.heap.size+1) [.int .i64 ((k:Int)),.int .i64 ((k:Int))] _ rfl ((hI.out.cs.r.set 0 (.int .i64 ((k:Int))) (by simp)).set 1 (.int .i64 ((k:Int))) (by simp)).range Tryz.underlying36 rfl arr2Size) rfl ⟨by rw[hR.out];rfl,?_⟩
     exact (hI.out.cs.bel.setCell (p:=⟨w.heap.size+1,0,none⟩) (Nat.le_succ _) _).setCell (p:=⟨w.heap.size+1,1,none⟩) (Nat.le_succ _) _
    replace hE5:=Lib.hid (hE5.out rfl)
    replace hE6:=Lib.hid (hE6.out rfl)
    replace hE7:=Lib.hid (hE7.out rfl)
    replace hE13:=Lib.hid (hE13.out rfl)
    replace hE0:=Lib.hid (hE0.out rfl)
    clear hE4
    go_wp2_with (go_at_call 47;clear a0 a1 a2 r0 r1 f0 f1;replace hI:=hI2;clear hI2 c0 c1 hbl;refine (IsName_any p.name _ hpn.out).mono ?_;rintro e0 wn ⟨rfl,rfl⟩;rw[g1.out])
    have hno0:Hid (((l.take 0).any fun q=>sameN q p)=false):=rfl
    generalize hwx:(wr.alloc (.cells #[.string p.name,.slice p.V p.ps.length p.d] 74)).alloc (.cells #[.int .i64 (k:Int),.int .i64 (k:Int)] 36)=wx at *
    generalize wr.heap.size=B at *
    clear hwx wr
    go_loopw [8] (fun jv wr=>∃ j:Nat,j≤k∧jv=.int .i64 j∧Hid (((l.take j).any fun q=>sameN q p)=false)∧Hid (CdI w _ p k B wr)) (fun jv _=>k-(intOf jv).toNat)
    case atStart=>exact⟨0,Nat.zero_le _,rfl,hno0,hI⟩
    case round =>
     clear hno0 hI
     obtain⟨j,hj,rfl,hno,hI⟩:=hrel
     by_cases hlj:j<k
     ·have hjl:(j:Int)<(l.length:Int):=by omega
      have hjk:(j:Int)<(k:Int):=by omega
      have hq:=hgone.out j hlj
      generalize l[j]=q at *
      obtain⟨b',o',hSS,_,d0,d1⟩:=plo_at (hrows.out _ hI.out.cs.bel) hq
      cases hSS
      (obtain⟨a0,a1,a2⟩:=hI.out.cs.a.c3;obtain⟨r0,r1⟩:=hI.out.cs.r.c2;obtain⟨f0,f1⟩:=hI.out.cs.r.fr2;obtain⟨p0,p1⟩:=hI.out.b6.c2;obtain⟨k0,k1⟩:=hI.out.b7.c2)
      cases hs:sameN q p
      ·have hnx:Hid (((l.take (j+1)).any fun q=>sameN q p)=false):=any_take_succ hq hno.out hs
       unfold sameN at hs
       clear hq d1
       go_wp2_with fail
       refine wp_region_held_drew (S:=Sx wr [(w.heap.size,2,.slice (some ⟨b,o,none⟩) l.length e),(b,o+j*2,.string q.name),(B,0,.string p.name)]) (by kernel_rfl) (Sx.mk (by simp only[cs_iff_cons];exact⟨a2,d0,p0,cs_nil _⟩) (Below.refl _ _)).drew (fun hHeld=>?_)
       clear a0 a1 a2 r0 r1 f0 f1 p0 p1 k0 k1
       clear d0
       refine tkHx 0 53 ?_
       refine tkHx 1 54 ?_
       refine tkHx 2 55 ?_
       refine tkHx 3 56 ?_
       refine tkHx 4 57 ?_
       refine tkHx 5 58 ?_
       refine tkHx 6 59 ?_
       refine tkHx 7 60 ?_
       refine tkHx 8 61 ?_
       refine wpAnyH_done (by kernel_rfl) ?_ _
       (try simp only[apS,apN,siA,scZ,scS])
       replace hI:=Lib.hid (hI.out.below hHeld.bel)
       clear hHeld
       go_wp2_with fail
       go_roundw
       case rel=>exact⟨j+1,by omega,by go_num,hnx,hI⟩
       case measure=>simp[intOf];omega
      have hR:=Lib.hid (hE5.out (any_take_hit hq hlj hs))
      unfold sameN at hs
      clear hq d1 hE5 hE6 hE7 hE13 hE0 hwi hov hch
      go_wp2_with fail
      refine wp_region_held_drew (S:=Sx wr [(w.heap.size,2,.slice (some ⟨b,o,none⟩) l.length e),(b,o+j*2,.string q.name),(B,0,.string p.name)]) (by kernel_rfl) (Sx.mk (by simp only[cs_iff_cons];exact⟨a2,d0,p0,cs_nil _⟩) (Below.refl _ _)).drew (fun hHeld=>?_)
      clear a0 a1 a2 r0 r1 f0 f1 p0 p1 k0 k1
      clear d0
      refine tkHx 0 53 ?_
      refine tkHx 1 54 ?_
      refine tkHx 2 55 ?_
      refine tkHx 3 56 ?_
      refine tkHx 4 57 ?_
      refine tkHx 5 58 ?_
      refine tkHx 6 59 ?_
      refine tkHx 7 60 ?_
      refine tkHx 8 61 ?_
      refine wpAnyH_done (by kernel_rfl) ?_ _
      (try simp only[apS,apN,siA,scZ,scS])
      replace hI:=Lib.hid (hI.out.below hHeld.bel)
      clear hHeld
      generalize hwd:wr.drew=wd at *
      clear hwd
      (obtain⟨a0,a1,a2⟩:=hI.out.cs.a.c3;obtain⟨r0,r1⟩:=hI.out.cs.r.c2;obtain⟨f0,f1⟩:=hI.out.cs.r.fr2;obtain⟨p0,p1⟩:=hI.out.b6.c2;obtain⟨k0,k1⟩:=hI.out.b7.c2)
      go_wp2_with fail
      refine bodyPost_ret (results_mid2 rfl _ _ (w.heap.size+1) [.int .i64 ((k:Int)),.int .i64 ((k:Int))] _ rfl ((hI.out.cs.r.set 0 (.int .i64 ((k:Int))) (by simp)).set 1 (.int .i64 ((k:Int))) (by simp)).range Tryz.underlying36 rfl arr2Size) rfl ⟨by rw[hR.out];rfl,?_⟩
      exact (hI.out.cs.bel.setCell (p:=⟨w.heap.size+1,0,none⟩) (Nat.le_succ _) _).setCell (p:=⟨w.heap.size+1,1,none⟩) (Nat.le_succ _) _
     obtain rfl:j=k:=by omega
     replace hE6:=Lib.hid (hE6.out hno.out)
     replace hE7:=Lib.hid (hE7.out hno.out)
     replace hE13:=Lib.hid (hE13.out hno.out)
     replace hE0:=Lib.hid (hE0.out hno.out)
     clear hno hE5
     (obtain⟨a0,a1,a2⟩:=hI.out.cs.a.c3;obtain⟨r0,r1⟩:=hI.out.cs.r.c2;obtain⟨f0,f1⟩:=hI.out.cs.r.fr2;obtain⟨p0,p1⟩:=hI.out.b6.c2;obtain⟨k0,k1⟩:=hI.out.b7.c2)
     by_cases z3:y3=0
     ·subst z3
      replace hE7:=Lib.hid (hE7.out rfl)
      replace hE13:=Lib.hid (hE13.out rfl)
      replace hE0:=Lib.hid (hE0.out rfl)
      replace hwi:=Lib.hid (hwi.out rfl)
      replace hov:=Lib.hid (hov.out rfl)
      replace hok2:=Lib.hid (hok2.out rfl)
      clear hE6
      cases y4
      ·have hR:=Lib.hid (hE7.out rfl)
       clear hE7 hE13 hE0 hov
       go_wp2_with (first
        |(go_at_call 48;clear a0 a1 a2 r0 r1 f0 f1 p0 p1 k0 k1;refine (hch.out _ hI.out.cs.bel).mono ?_;clear hch;rintro e0 wn ⟨rfl,hbn⟩;(replace hI:=Lib.hid (hI.out.below hbn);clear hbn;(obtain⟨a0,a1,a2⟩:=hI.out.cs.a.c3;obtain⟨r0,r1⟩:=hI.out.cs.r.c2;obtain⟨f0,f1⟩:=hI.out.cs.r.fr2;obtain⟨p0,p1⟩:=hI.out.b6.c2;obtain⟨k0,k1⟩:=hI.out.b7.c2)))
        |(go_at_call 49;clear a0 a1 a2 r0 r1 f0 f1 p0 p1 k0 k1;refine (hwi.out _ hI.out.cs.bel).mono ?_;clear hwi;rintro e0 wn ⟨rfl,hbn⟩;(replace hI:=Lib.hid (hI.out.below hbn);clear hbn;(obtain⟨a0,a1,a2⟩:=hI.out.cs.a.c3;obtain⟨r0,r1⟩:=hI.out.cs.r.c2;obtain⟨f0,f1⟩:=hI.out.cs.r.fr2;obtain⟨p0,p1⟩:=hI.out.b6.c2;obtain⟨k0,k1⟩:=hI.out.b7.c2))))
       refine bodyPost_ret (results_mid2 rfl _ _ (w.heap.size+1) [.int .i64 ((j:Int)),.int .i64 ((j:Int))] _ rfl ((hI.out.cs.r.set 0 (.int .i64 ((j:Int))) (by simp)).set 1 (.int .i64 ((j:Int))) (by simp)).range Tryz.underlying36 rfl arr2Size) rfl ⟨by rw[hR.out];rfl,?_⟩
       exact (hI.out.cs.bel.setCell (p:=⟨w.heap.size+1,0,none⟩) (Nat.le_succ _) _).setCell (p:=⟨w.heap.size+1,1,none⟩) (Nat.le_succ _) _
      replace hE13:=Lib.hid (hE13.out rfl)
      replace hE0:=Lib.hid (hE0.out rfl)
      clear hE7
      have hno0:Hid ((l.take 0).any (ovB p)=false):=rfl
      go_wp2_with (first
       |(go_at_call 48;clear a0 a1 a2 r0 r1 f0 f1 p0 p1 k0 k1;refine (hch.out _ hI.out.cs.bel).mono ?_;clear hch;rintro e0 wn ⟨rfl,hbn⟩;(replace hI:=Lib.hid (hI.out.below hbn);clear hbn;(obtain⟨a0,a1,a2⟩:=hI.out.cs.a.c3;obtain⟨r0,r1⟩:=hI.out.cs.r.c2;obtain⟨f0,f1⟩:=hI.out.cs.r.fr2;obtain⟨p0,p1⟩:=hI.out.b6.c2;obtain⟨k0,k1⟩:=hI.out.b7.c2)))
       |(go_at_call 49;clear a0 a1 a2 r0 r1 f0 f1 p0 p1 k0 k1;refine (hwi.out _ hI.out.cs.bel).mono ?_;clear hwi;rintro e0 wn ⟨rfl,hbn⟩;replace hI:=Lib.hid (hI.out.below hbn);clear hbn))
      go_loopw [10] (fun jv wr=>∃ i:Nat,i≤j∧jv=.int .i64 i∧Hid ((l.take i).any (ovB p)=false)∧Hid (CdI w _ p j B wr)) (fun jv _=>j-(intOf jv).toNat)
      case atStart=>exact⟨0,Nat.zero_le _,rfl,hno0,hI⟩
      case round =>
       clear hno0 hI
       obtain⟨i,hi,rfl,hno,hI⟩:=hrel
       by_cases hli:i<j
       ·have hil:(i:Int)<(l.length:Int):=by omega
        have hij:(i:Int)<(j:Int):=by omega
        have hq:=hgone.out i hli
        generalize l[i]=q at *
        obtain⟨b',o',hSS,_,d0,d1⟩:=plo_at (hrows.out _ hI.out.cs.bel) hq
        cases hSS
        have hbT:=Lib.hid hI.out.cs.bel
        have hovq:=Lib.hid (hov.out i q hli hq)
        have hhit:=Lib.hid (hE13.out i q hli hq hno.out)
        (obtain⟨a0,a1,a2⟩:=hI.out.cs.a.c3;obtain⟨r0,r1⟩:=hI.out.cs.r.c2;obtain⟨f0,f1⟩:=hI.out.cs.r.fr2;obtain⟨p0,p1⟩:=hI.out.b6.c2;obtain⟨k0,k1⟩:=hI.out.b7.c2)
        cases hs:ovB p q
        ·have hnx:Hid ((l.take (i+1)).any (ovB p)=false):=any_take_succ hq hno.out hs
         rw[hs] at hovq
         clear hq d0 hhit hs
         go_wp2_with fail
         refine wp_region_held_drew (S:=Sx wr [(w.heap.size,2,.slice (some ⟨b,o,none⟩) l.length e),(b,o+i*2+1,.slice q.V q.ps.length q.d),(B,1,.slice p.V p.ps.length p.d)]) (by kernel_rfl) (Sx.mk (by simp only[cs_iff_cons];exact⟨a2,d1,p1,cs_nil _⟩) (Below.refl _ _)).drew (fun hHeld=>?_)
         clear a0 a1 a2 r0 r1 f0 f1 p0 p1 k0 k1
         clear d1
         refine tkHx 0 82 ?_
         refine tkHx 1 83 ?_
         refine tkHx 2 84 ?_
         refine tkHx 3 85 ?_
         refine tkHx 4 86 ?_
         refine tkHx 5 87 ?_
         refine tkHx 6 88 ?_
         refine tkHx 7 89 ?_
         (refine ratHx 8 (fun K hK=>?_);go_simp)
         refine (hovq.out _ (hbT.out.trans (hHeld.bel.mono hbT.out.size))).mono ?_
         rintro e wn ⟨rfl,hbn⟩
         go_simp
         (refine hK.out _ _ (hHeld.step hbn) (fun hHeld=>?_);clear hK K;(try simp only[apS,apN,siA,scZ,scS]))
         refine wpAnyH_done (by kernel_rfl) ?_ _
         (try simp only[apS,apN,siA,scZ,scS])
         replace hI:=Lib.hid (hI.out.below hHeld.bel)
         clear hHeld
         go_wp2_with fail
         go_roundw
         case rel=>exact⟨i+1,by omega,by go_num,hnx,hI⟩
         case measure=>simp[intOf];omega
        have hR:=Lib.hid (hhit.out hs)
        rw[hs] at hovq
        clear hq d0 hhit hs
        go_wp2_with fail
        refine wp_region_held_drew (S:=Sx wr [(w.heap.size,2,.slice (some ⟨b,o,none⟩) l.length e),(b,o+i*2+1,.slice q.V q.ps.length q.d),(B,1,.slice p.V p.ps.length p.d)]) (by kernel_rfl) (Sx.mk (by simp only[cs_iff_cons];exact⟨a2,d1,p1,cs_nil _⟩) (Below.refl _ _)).drew (fun hHeld=>?_)
        clear a0 a1 a2 r0 r1 f0 f1 p0 p1 k0 k1
        clear d1
        refine tkHx 0 82 ?_
        refine tkHx 1 83 ?_
        refine tkHx 2 84 ?_
        refine tkHx 3 85 ?_
        refine tkHx 4 86 ?_
        refine tkHx 5 87 ?_
        refine tkHx 6 88 ?_
        refine tkHx 7 89 ?_
        (refine ratHx 8 (fun K hK=>?_);go_simp)
        refine (hovq.out _ (hbT.out.trans (hHeld.bel.mono hbT.out.size))).mono ?_
        rintro e wn ⟨rfl,hbn⟩
        go_simp
        (refine hK.out _ _ (hHeld.step hbn) (fun hHeld=>?_);clear hK K;(try simp only[apS,apN,siA,scZ,scS]))
        refine wpAnyH_done (by kernel_rfl) ?_ _
        (try simp only[apS,apN,siA,scZ,scS])
        replace hI:=Lib.hid (hI.out.below hHeld.bel)
        clear hHeld
        (obtain⟨a0,a1,a2⟩:=hI.out.cs.a.c3;obtain⟨r0,r1⟩:=hI.out.cs.r.c2;obtain⟨f0,f1⟩:=hI.out.cs.r.fr2;obtain⟨p0,p1⟩:=hI.out.b6.c2;obtain⟨k0,k1⟩:=hI.out.b7.c2)
        go_wp2_with fail
        refine bodyPost_ret (results_mid2 rfl _ _ (w.heap.size+1) [.int .i64 ((i:Int)),.int .i64 ((j:Int))] _ rfl ((hI.out.cs.r.set 0 (.int .i64 ((i:Int))) (by simp)).set 1 (.int .i64 ((j:Int))) (by simp)).range Tryz.underlying36 rfl arr2Size) rfl ⟨by rw[hR.out];rfl,?_⟩
        exact (hI.out.cs.bel.setCell (p:=⟨w.heap.size+1,0,none⟩) (Nat.le_succ _) _).setCell (p:=⟨w.heap.size+1,1,none⟩) (Nat.le_succ _) _
       obtain rfl:i=j:=by omega
       have hR2:=Lib.hid (hE0.out hno.out)
       go_wp2_with fail
       go_roundw
       case rel=>exact⟨i+1,by omega,by go_num,hR2,hok2,Lib.hid hI.out.cs⟩
       case measure=>simp[intOf];omega
     have hR:=Lib.hid (hE6.out z3)
     clear hE6 hE7 hE13 hE0 hwi hov hok2
     go_wp2_with (go_at_call 48;clear a0 a1 a2 r0 r1 f0 f1 p0 p1 k0 k1;refine (hch.out _ hI.out.cs.bel).mono ?_;clear hch;rintro e0 wn ⟨rfl,hbn⟩;(replace hI:=Lib.hid (hI.out.below hbn);clear hbn;(obtain⟨a0,a1,a2⟩:=hI.out.cs.a.c3;obtain⟨r0,r1⟩:=hI.out.cs.r.c2;obtain⟨f0,f1⟩:=hI.out.cs.r.fr2;obtain⟨p0,p1⟩:=hI.out.b6.c2;obtain⟨k0,k1⟩:=hI.out.b7.c2)))
     refine bodyPost_ret (results_mid2 rfl _ _ (w.heap.size+1) [.int .i64 ((j:Int)),.int .i64 ((j:Int))] _ rfl ((hI.out.cs.r.set 0 (.int .i64 ((j:Int))) (by simp)).set 1 (.int .i64 ((j:Int))) (by simp)).range Tryz.underlying36 rfl arr2Size) rfl ⟨by rw[hR.out];rfl,?_⟩
     exact (hI.out.cs.bel.setCell (p:=⟨w.heap.size+1,0,none⟩) (Nat.le_succ _) _).setCell (p:=⟨w.heap.size+1,1,none⟩) (Nat.le_succ _) _
   obtain rfl:k=s.l.length:=by omega
   replace hR:Hid (R=(0,0,0)):=by show _=_;rw[hR.out,List.drop_length];rfl
   clear hok
   (obtain⟨a0,a1,a2⟩:=hI.out.a.c3;obtain⟨r0,r1⟩:=hI.out.r.c2;obtain⟨f0,f1⟩:=hI.out.r.fr2)
   go_wp2_with fail
   refine bodyPost_ret (results_mid2 rfl _ _ (w.heap.size+1) [.int .i64 (0),.int .i64 (0)] _ rfl ((hI.out.r.set 0 (.int .i64 (0)) (by simp)).set 1 (.int .i64 (0)) (by simp)).range Tryz.underlying36 rfl arr2Size) rfl ⟨by rw[hR.out];rfl,?_⟩
   exact (hI.out.bel.setCell (p:=⟨w.heap.size+1,0,none⟩) (Nat.le_succ _) _).setCell (p:=⟨w.heap.size+1,1,none⟩) (Nat.le_succ _) _
 replace hR:Hid (R=(0,0,x2)):=by show _=_;rw[hR.out,if_pos rfl,if_neg z2]
 replace h2:=Lib.hid hpz
 clear hpz
 go_enter Tryz.func11,Tryz.ntmps11
 go_wp2_with (first
  |(go_at_call 47;refine (IsName_any s.name _ hnm.out).mono ?_;rintro e0 wn ⟨rfl,rfl⟩;rw[h1.out])
  |(go_at_call 48;clear a0 a1 a2 r0 r1 f0 f1;refine (CheckPolyR2_any s.V s.d s.ps _ (hS.out.rows.below hI.out.bel)).mono ?_;rintro e0 wn ⟨rfl,hbn⟩;rw[h2.out];(replace hI:=Lib.hid (hI.out.below hbn);clear hbn;(obtain⟨a0,a1,a2⟩:=hI.out.a.c3;obtain⟨r0,r1⟩:=hI.out.r.c2;obtain⟨f0,f1⟩:=hI.out.r.fr2))))
 refine bodyPost_ret (results_mid2 rfl _ _ (w.heap.size+1) [.int .i64 (0),.int .i64 (0)] _ rfl ((hI.out.r.set 0 (.int .i64 (0)) (by simp)).set 1 (.int .i64 (0)) (by simp)).range Tryz.underlying36 rfl arr2Size) rfl ⟨by rw[hR.out];rfl,?_⟩
 exact (hI.out.bel.setCell (p:=⟨w.heap.size+1,0,none⟩) (Nat.le_succ _) _).setCell (p:=⟨w.heap.size+1,1,none⟩) (Nat.le_succ _) _
end Go.Proofs.YthfokpchdlcidaaGreat
namespace Go.Proofs.YthfokpchdlcidaaGreat
namespace Cal
def nbB (a b:List Pt):Bool:=decide (0<(borderP a b).length)
def nbL (n:Nat) (g:Nat→Bool) (p:Nat):List Int:=((List.range n).filter fun i=>!(i == p) && g i).map fun (i:Nat)=>(i:Int)
theorem nbL_yes {n:Nat} {g:Nat→Bool} {p:Nat} (h1:n≠p) (h2:g n=true):nbL (n+1) g p=nbL n g p ++ [(n:Int)]:=by
 unfold nbL
 rw[List.range_succ,List.filter_append,List.map_append]
 simp[h1,h2]
theorem nbL_no {n:Nat} {g:Nat→Bool} {p:Nat} (h:n=p∨g n=false):nbL (n+1) g p=nbL n g p:=by
 unfold nbL
 rw[List.range_succ,List.filter_append,List.map_append]
 rcases h with h | h
 ·subst h;simp
 simp[h]
theorem nbL_len (n:Nat) (g:Nat→Bool) (p:Nat):(nbL n g p).length≤n:=by
 unfold nbL
 rw[List.length_map]
 have:=List.length_filter_le (fun i=>!(i == p) && g i) (List.range n)
 rwa [List.length_range] at this
end Cal
end Go.Proofs.YthfokpchdlcidaaGreat
