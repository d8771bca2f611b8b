/- What the statements rest on: definitions and walks, part 04. -/
import Derived.Test.YthfokpchdlcidaaGreatJ03
import Derived.Sort.LoopGhostIn
set_option maxRecDepth 100000
set_option maxHeartbeats 16000000
set_option linter.unusedSimpArgs false
set_option linter.unusedVariables false
namespace Go.Proofs.YthfokpchdlcidaaGreat
open Go Go.RowKit Go.Shelf
attribute [local go_sem] Oper.semAt_some
def ptR (q:Pt):List Value:=[.int .i64 q.x,.int .i64 q.y]
theorem pts_at {w:World} {V:Option Addr} {ps:List Pt} (h:RowsAt w V 2 (ps.map ptR)) {k:Nat} {q:Pt} (hk:ps[k]?=some q) :
  ∃ b o,V=some ⟨b,o,none⟩∧b<w.heap.size∧w.cell? ⟨b,o+k*2,none⟩=some (.int .i64 q.x)∧w.cell? ⟨b,o+k*2+1,none⟩=some (.int .i64 q.y):=by
 obtain⟨b,o,hA,hlt,hc⟩:=h k (ptR q) (by simp[hk])
 exact⟨b,o,hA,hlt,hc 0 _ rfl,hc 1 _ rfl⟩
def KpS (n₀ Bs:Nat) (_:Nat) (X Y:World):Prop:=Below n₀ X Y∧Y.heap[Bs]?=X.heap[Bs]?
theorem KpS.refl (n₀ Bs B:Nat) (X:World):KpS n₀ Bs B X X:=⟨Below.refl _ _,rfl⟩
theorem KpS.trans {n₀ Bs B:Nat} {X Y Z:World} (h:KpS n₀ Bs B X Y) (k:KpS n₀ Bs B Y Z):KpS n₀ Bs B X Z:=⟨h.1.trans k.1,k.2.trans h.2⟩
theorem KpS.one {n₀ Bs B o:Nat} {X Y:World} (h:KpS n₀ Bs B X Y):Y.cell? ⟨Bs,o,none⟩=X.cell? ⟨Bs,o,none⟩:=World.cell?_of_block (a:=⟨Bs,o,none⟩) h.2
theorem KpS.grown {n₀ Bs B:Nat} {X Y:World} (h:X.grownBy Y none) (hn:n₀≤X.heap.size) (hB:Bs<X.heap.size):KpS n₀ Bs B X Y :=
 ⟨(Below.refl _ _).grown h hn (fun k e=>by cases e),h.block Bs hB (by simp)⟩
def sdE (x:Nat × Sd):Array Value:=#[.int .i64 (x.1:Int),.agg #[.int .i64 x.2.a.x,.int .i64 x.2.a.y,.int .i64 x.2.b.x,.int .i64 x.2.b.y]]
def sdsI (ps:List Pt):List (Nat × Sd):=(List.range ps.length).map fun i=>(i,Cal.sd ps i)
theorem sdsI_at {ps:List Pt} {k:Nat} (h:k<ps.length):(sdsI ps)[k]?=some (k,Cal.sd ps k):=by
 unfold sdsI
 rw[List.getElem?_map,List.getElem?_range h]
 rfl
theorem sdsI_length (ps:List Pt):(sdsI ps).length=ps.length:=by simp[sdsI]
theorem sd_of {ps:List Pt} {k:Nat} {a b:Pt} (ha:ps[k]?=some a) (hb:ps[(k+1) % ps.length]?=some b):Cal.sd ps k=⟨a,b⟩:=by
 unfold Cal.sd
 rw[ha,hb]
 rfl
theorem sides_any (V:Option Addr) (k d:Nat) (w:World) :
  Calls Tryz.prog 78 #[.slice V k d] w fun e w'=>e=.returned (.func (.func 115) #[] #[.pointer (some ⟨w.heap.size,0,none⟩)])∧w'=w.alloc (.cells #[.slice V k d] 22):=by
 go_enter Tryz.func78,Tryz.ntmps78
 go_wp2
 go_ret
 exact⟨rfl,rfl⟩
def IxPost (N:Nat) (J Jx:Nat→World→Prop) (e:Ending) (W':World):Prop:=(∃ v,e=.returned v)∧(J N W'∨∃ k,k<N∧Jx k W')
structure KpOK (Kp:Nat→World→World→Prop) (V:Option Addr) (k Bs:Nat) (w:World):Prop where
 refl:∀ x X,Kp x X X
 trans:∀ x X Y Z,Kp x X Y→Kp x Y Z→Kp x X Z
 size:∀ x X Y,Kp x X Y→X.heap.size≤Y.heap.size
 cells:∀ x X Y,Kp x X Y→∀ ad,V=some ad→0<k→Y.heap[ad.block]?=X.heap[ad.block]?
 bs:∀ x X Y,Kp x X Y→Y.heap[Bs]?=X.heap[Bs]?
 grown:∀ x X Y,X.grownBy Y none→w.heap.size≤X.heap.size→Kp x X Y
theorem sides_gen (n:Nat) (hn:1≤n) (Bs:Nat) (Kp:Nat→World→World→Prop) (V:Option Addr) (d:Nat) (ps:List Pt) (w:World) (hKp:KpOK Kp V ps.length Bs w) (hBs:w.cell? ⟨Bs,0,none⟩=some (.slice V ps.length d)) (hBw:Bs<w.heap.size)
  (hP:RowsAt w V 2 (ps.map ptR)) (hl:ps.length≤1000000) :
  SeqIx Fence.wide n Tryz.prog 115 #[.pointer (some ⟨Bs,0,none⟩)] sdE AbG Kp (sdsI ps) w:=by
 intro l J Jx W hW hJ hJx hY h0
 show CallsIn Fence.wide n Tryz.prog 115 _ W (IxPost (sdsI ps).length J Jx)
 rw[sdsI_length]
 refine callsIn_of_wp Tryz.func115 rfl trivial ?_ rfl
 simp only[Tryz.ntmps115,List.size_toArray,List.length_cons,List.length_nil,Nat.reduceAdd,Nat.reduceSub,Array.replicate_succ,Array.replicate_zero,List.push_toArray,List.append_toArray,List.nil_append,List.cons_append]
 have hs0:=(hW.cell (p:=⟨Bs,0,none⟩) hBw).trans hBs
 have hPW:=Lib.hid (hP.below hW)
 have hWz:=Lib.hid hW.size
 have hY:=Lib.hid hY
 have hJ:=Lib.hid hJ
 clear hJx hBs hW hP
 have hs0:=Lib.hid hs0
 have hs0':=hs0.out
 gi_wp2
 clear hs0'
 gi_loopw [7] (fun i wr=>∃ k:Nat,k≤ps.length∧i=.int .i64 k∧J k wr∧Kp W.heap.size W wr) (fun i _=>ps.length-(intOf i).toNat)
 case atStart=>exact⟨0,Nat.zero_le _,rfl,h0,hKp.refl _ _⟩
 case round =>
  obtain⟨k,hk,rfl,hJk,hb⟩:=hrel
  by_cases hlt:k<ps.length
  ·have hmod:(k+1) % ps.length<ps.length:=Nat.mod_lt _ (by omega)
   have ha:ps[k]?=some ps[k]:=List.getElem?_eq_getElem hlt
   have hc:ps[(k+1) % ps.length]?=some ps[(k+1) % ps.length]:=List.getElem?_eq_getElem hmod
   have hsd:=Lib.hid (sd_of ha hc)
   obtain⟨b,o,rfl,hbl,e0,e1⟩:=pts_at hPW.out ha
   obtain⟨b',o',hbo,_,e2,e3⟩:=pts_at hPW.out hc
   obtain⟨rfl,rfl⟩:b=b'∧o=o':=by simpa using hbo
   have hbk:=hKp.cells _ _ _ hb _ rfl (by omega)
   have hat:∀ (x:Nat) (v:Value),W.cell? ⟨b,x,none⟩=some v→wr.cell? ⟨b,x,none⟩=some v:=fun x v h=>(World.cell?_of_block (a:=⟨b,x,none⟩) hbk).trans h
   have e0:=hat _ _ e0
   have e1:=hat _ _ e1
   have e2:=hat _ _ e2
   have e3:=hat _ _ e3
   clear hat hbk
   have s0:=(World.cell?_of_block (a:=⟨Bs,0,none⟩) (hKp.bs _ _ _ hb)).trans hs0.out
   have hBr:Bs<wr.heap.size:=by have:=hWz.out;have:=hKp.size _ _ _ hb;omega
   obtain⟨q,hq⟩:∃ q,q=(k+1) % ps.length:=⟨_,rfl⟩
   simp only[←hq] at e2 e3 hsd hmod hc
   have hq1:((k:Int)+1).tmod (ps.length:Int)=(q:Int):=by rw[hq];rfl
   have hq3:((k:Int)+1) % (ps.length:Int)=(q:Int):=by rw[hq];rfl
   have hk1:IntKind.i64.wrap ((k:Int)+1)=(k:Int)+1:=wrap_small (by omega) (by omega)
   have hq2:IntKind.i64.wrap (q:Int)=(q:Int):=wrap_small (by omega) (by omega)
   have hne:¬ps.length=0:=by omega
   generalize ps[k]=pa at *
   generalize ps[q]=pc at *
   clear hq
   have hAll:=Lib.hid (And.intro hb (And.intro hJk hlt))
   have h1:Cs [(wr.heap.size,0,.int .i64 pa.x),(wr.heap.size,1,.int .i64 pa.y),(Bs,0,.slice (some ⟨b,o,none⟩) ps.length d),(b,o+q*2,.int .i64 pc.x),(b,o+q*2+1,.int .i64 pc.y)] (wr.alloc (.cells #[.int .i64 pa.x,.int .i64 pa.y] 27)) :=
    cs_iff_cons.2 ⟨by simp,cs_iff_cons.2 ⟨by simp,Cs.below (cs_iff_cons.2 ⟨s0,cs_iff_cons.2 ⟨e2,cs_iff_cons.2 ⟨e3,cs_nil _⟩⟩⟩) (below_alloc _ _)⟩⟩
   have h1:=Lib.hid h1
   clear hb hJk ha hc
   gi_wp2
   refine wpIn_region_heldY (S:=Cs [(wr.heap.size,0,.int .i64 pa.x),(wr.heap.size,1,.int .i64 pa.y),(Bs,0,.slice (some ⟨b,o,none⟩) ps.length d),(b,o+q*2,.int .i64 pc.x),(b,o+q*2+1,.int .i64 pc.y)]) 12 (by kernel_rfl) h1.out (fun hHeld=>?_)
   (refine tkY 0 12 (fun _=>trivial) (v:=?_) ?_ ?_;rotate_left;focus (intro w' hSw;simp only[cs_iff_cons] at hSw;go_simp;(try with_reducible rfl));(try simp only[Act.put,List.setIfInBounds_toArray,List.set_cons_zero,List.set_cons_succ]))
   (refine tkY 1 13 (fun _=>trivial) (v:=?_) ?_ ?_;rotate_left;focus (intro w' hSw;simp only[cs_iff_cons] at hSw;go_simp;(try with_reducible rfl));(try simp only[Act.put,List.setIfInBounds_toArray,List.set_cons_zero,List.set_cons_succ]))
   (refine tkY 2 14 (fun _=>trivial) (v:=?_) ?_ ?_;rotate_left;focus (intro w' hSw;simp only[cs_iff_cons] at hSw;go_simp;(try with_reducible rfl));(try simp only[Act.put,List.setIfInBounds_toArray,List.set_cons_zero,List.set_cons_succ]))
   (refine tkY 3 15 (fun _=>trivial) (v:=?_) ?_ ?_;rotate_left;focus (intro w' hSw;simp only[cs_iff_cons] at hSw;go_simp;(try with_reducible rfl));(try simp only[Act.put,List.setIfInBounds_toArray,List.set_cons_zero,List.set_cons_succ]))
   (refine tkY 4 16 (fun _=>trivial) (v:=?_) ?_ ?_;rotate_left;focus (intro w' hSw;simp only[cs_iff_cons] at hSw;go_simp;(try with_reducible rfl));(try simp only[Act.put,List.setIfInBounds_toArray,List.set_cons_zero,List.set_cons_succ]))
   (refine tkY 5 17 (fun _=>trivial) (v:=?_) ?_ ?_;rotate_left;focus (intro w' hSw;simp only[cs_iff_cons] at hSw;go_simp;(try with_reducible rfl));(try simp only[Act.put,List.setIfInBounds_toArray,List.set_cons_zero,List.set_cons_succ]))
   (refine tkY 6 18 (fun _=>trivial) (v:=?_) ?_ ?_;rotate_left;focus (intro w' hSw;simp only[cs_iff_cons] at hSw;go_simp;(try with_reducible rfl));(try simp only[Act.put,List.setIfInBounds_toArray,List.set_cons_zero,List.set_cons_succ]))
   (refine tkY 7 19 (fun _=>trivial) (v:=?_) ?_ ?_;rotate_left;focus (intro w' hSw;simp only[cs_iff_cons] at hSw;go_simp;(try with_reducible rfl));(try simp only[Act.put,List.setIfInBounds_toArray,List.set_cons_zero,List.set_cons_succ]))
   (refine tkY 8 20 (fun _=>trivial) (v:=?_) ?_ ?_;rotate_left;focus (intro w' hSw;simp only[cs_iff_cons] at hSw;go_simp;(try with_reducible rfl));(try simp only[Act.put,List.setIfInBounds_toArray,List.set_cons_zero,List.set_cons_succ]))
   (refine tkY 9 21 (fun _=>trivial) (v:=?_) ?_ ?_;rotate_left;focus (intro w' hSw;simp only[cs_iff_cons] at hSw;go_simp;(try with_reducible rfl));(try simp only[Act.put,List.setIfInBounds_toArray,List.set_cons_zero,List.set_cons_succ]))
   (refine tkY 10 22 (fun _=>trivial) (v:=?_) ?_ ?_;rotate_left;focus (intro w' hSw;simp only[cs_iff_cons] at hSw;go_simp;(try with_reducible rfl));(try simp only[Act.put,List.setIfInBounds_toArray,List.set_cons_zero,List.set_cons_succ]))
   (refine tkY 11 23 (fun _=>trivial) (v:=?_) ?_ ?_;rotate_left;focus (intro w' hSw;simp only[cs_iff_cons] at hSw;go_simp;(try with_reducible rfl));(try simp only[Act.put,List.setIfInBounds_toArray,List.set_cons_zero,List.set_cons_succ]))
   refine ratYc 12 (fun _=>trivial) (by decide +kernel) rfl (by decide +kernel) (fun K hK=>?_)
   rw[if_pos (by kernel_rfl)]
   have hy1:=hY.out k _ (wr.alloc (.cells #[.int .i64 pa.x,.int .i64 pa.y] 27)).drew (sdsI_at hlt) (hJ.out k _ _ hAll.out.2.1 ((World.grownBy_alloc wr _ none).trans (grown_drewN _ 1 _)))
   rw[hsd.out] at hy1
   obtain⟨fn,tmps,assign,body,hy,hR⟩:=hy1
   dsimp only[sdE] at hy
   go_simp
   refine hR.mono ?_
   clear hy hR
   rintro e w2 (⟨rfl,hJ2,hKq⟩ | ⟨rfl,hJx,_⟩)
   ·dsimp only
    refine hK.out _ _ ?_
    clear hK K
    (try simp only[Act.put,List.setIfInBounds_toArray]);(try simp only[List.set_cons_zero,List.set_cons_succ])
    refine ratYc 13 (fun _=>trivial) (by decide +kernel) rfl (by decide +kernel) (fun K hK=>?_)
    rw[if_pos (by kernel_rfl)]
    go_simp
    refine hK.out _ _ ?_
    clear hK K
    (try simp only[Act.put,List.setIfInBounds_toArray]);(try simp only[List.set_cons_zero,List.set_cons_succ])
    refine wpAnyInY_done (by decide +kernel) ?_ _
    have hJ2:=Lib.hid hJ2
    have hKq:=Lib.hid hKq
    gi_wp2
    go_roundw
    case rel=>exact⟨k+1,hlt,by go_num,hJ2.out,hKp.trans _ _ _ _ (hKp.trans _ _ _ _ hAll.out.1 (hKp.grown _ _ _ ((World.grownBy_alloc wr _ none).trans (grown_drewN _ 1 _)) (by have:=hWz.out;have:=hKp.size _ _ _ hAll.out.1;omega))) hKq.out⟩
    case measure=>simp[intOf];omega
   dsimp only
   refine hK.out _ _ ?_
   clear hK K
   (try simp only[Act.put,List.setIfInBounds_toArray]);(try simp only[List.set_cons_zero,List.set_cons_succ])
   refine ratYc 13 (fun _=>trivial) (by decide +kernel) rfl (by decide +kernel) (fun K hK=>?_)
   rw[if_pos (by kernel_rfl)]
   go_simp
   refine hK.out _ _ ?_
   clear hK K
   (try simp only[Act.put,List.setIfInBounds_toArray]);(try simp only[List.set_cons_zero,List.set_cons_succ])
   refine wpAnyInY_done (by decide +kernel) ?_ _
   have hJx:=Lib.hid hJx
   gi_wp2
   refine bodyPost_ret (results_none rfl _ _ _) rfl ?_
   exact⟨⟨_,rfl⟩,.inr ⟨k,hlt,hJx.out⟩⟩
  obtain rfl:k=ps.length:=by omega
  have hJz:=Lib.hid hJk
  clear hJk
  gi_wp2
  refine bodyPost_end (results_none rfl _ _ _) rfl ?_
  exact⟨⟨_,rfl⟩,.inl hJz.out⟩
theorem kpS_ok {n₀ Bs:Nat} {V:Option Addr} {k:Nat} {w:World} (hBw:Bs<w.heap.size) (hVn:∀ ad,V=some ad→0<k→ad.block<n₀) (hn0:n₀≤w.heap.size):KpOK (KpS n₀ Bs) V k Bs w where
 refl:=fun x X=>KpS.refl _ _ _ _
 trans:=fun _ _ _ _ h k=>h.trans k
 size:=fun _ _ _ h=>h.1.size
 cells:=fun _ _ _ h ad e hk=>h.1.block _ (hVn ad e hk)
 bs:=fun _ _ _ h=>h.2
 grown:=fun _ X _ hg hs=>KpS.grown hg (by omega) (by omega)
theorem sides_ix (n:Nat) (hn:1≤n) (Bs n₀:Nat) (V:Option Addr) (d:Nat) (ps:List Pt) (w:World) (hBs:w.cell? ⟨Bs,0,none⟩=some (.slice V ps.length d)) (hBw:Bs<w.heap.size)
  (hP:RowsAt w V 2 (ps.map ptR)) (hVn:∀ ad,V=some ad→0<ps.length→ad.block<n₀) (hn0:n₀≤w.heap.size) (hl:ps.length≤1000000) :
  SeqIx Fence.wide n Tryz.prog 115 #[.pointer (some ⟨Bs,0,none⟩)] sdE AbG (KpS n₀ Bs) (sdsI ps) w :=
 sides_gen n hn Bs (KpS n₀ Bs) V d ps w (kpS_ok hBw hVn hn0) hBs hBw hP hl
def KpM (M Bs:Nat) (_:Nat) (X Y:World):Prop:=Two M Bs X Y∧X.heap.size≤Y.heap.size
theorem KpM.refl (M Bs x:Nat) (X:World):KpM M Bs x X X:=⟨Two.refl _ _ _,Nat.le_refl _⟩
theorem KpM.trans {M Bs x:Nat} {X Y Z:World} (h:KpM M Bs x X Y) (k:KpM M Bs x Y Z):KpM M Bs x X Z:=⟨h.1.trans k.1,Nat.le_trans h.2 k.2⟩
theorem KpM.below {M Bs x:Nat} {X Y:World} (h:Below X.heap.size X Y) (hn:M<X.heap.size) (hB:Bs<X.heap.size):KpM M Bs x X Y:=⟨⟨h.block _ hn,h.block _ hB⟩,h.size⟩
theorem KpM.set {M Bs x:Nat} {X:World} {b o:Nat} (v:Value) (hn:M≠b) (hB:Bs≠b):KpM M Bs x X (X.setCell ⟨b,o,none⟩ v) :=
 ⟨⟨Below.heap_setCell X ⟨b,o,none⟩ v M hn,Below.heap_setCell X ⟨b,o,none⟩ v Bs hB⟩,by rw[World.size_setCell];exact Nat.le_refl _⟩
theorem kpM_ok {M Bs o k:Nat} {w:World} (hBw:Bs<w.heap.size) (hM:M<w.heap.size):KpOK (KpM M Bs) (some ⟨M,o,none⟩) k Bs w where
 refl:=fun x X=>KpM.refl _ _ _ _
 trans:=fun _ _ _ _ h k=>h.trans k
 size:=fun _ _ _ h=>h.2
 cells:=fun _ _ _ h ad e _=>by cases e;exact h.1.1
 bs:=fun _ _ _ h=>h.1.2
 grown:=fun _ X _ hg hs=>⟨⟨hg.block _ (by omega) (by simp),hg.block _ (by omega) (by simp)⟩,hg.size⟩
end Go.Proofs.YthfokpchdlcidaaGreat
namespace Go.Proofs.YthfokpchdlcidaaGreat
open Go Go.RowKit Go.Shelf
attribute [local go_sem] Oper.semAt_some
structure Pts (w:World) (V:Option Addr) (ps:List Pt):Prop where
 rows:RowsAt w V 2 (ps.map ptR)
 size:ps.length≤1000000
 sm:∀ p∈ps,SmP p
 own:∀ ad,V=some ad→0<ps.length→ad.block<w.heap.size
theorem Pts.below {w w':World} {V:Option Addr} {ps:List Pt} (h:Pts w V ps) (hb:Below w.heap.size w w'):Pts w' V ps :=
 ⟨h.rows.below hb,h.size,h.sm,fun ad e hl=>Nat.lt_of_lt_of_le (h.own ad e hl) hb.size⟩
theorem Pts.sd {w:World} {V:Option Addr} {ps:List Pt} (h:Pts w V ps) (k:Nat) (hk:k<ps.length):SmS (Cal.sd ps k):=by
 have hmod:(k+1) % ps.length<ps.length:=Nat.mod_lt _ (by omega)
 rw[sd_of (List.getElem?_eq_getElem hk) (List.getElem?_eq_getElem hmod)]
 exact⟨h.sm _ (List.getElem_mem _),h.sm _ (List.getElem_mem _)⟩
theorem kpS_put {n₀ Bs B:Nat} (hB:Bs<B) (hn:n₀≤B) (W:World) (l:Nat) (o o':Obj) (hl:B≤l) (ho:W.heap[l]?=some o) (x:Nat):KpS n₀ Bs x W (W.putObj l o') :=
 ⟨(Below.refl _ _).grown (grownBy_putObj' W l o') (by have:=(Array.getElem?_eq_some_iff.1 ho).1;omega) (fun k e=>by cases e;omega),World.putObj_heap_other (by omega)⟩
theorem KpS.below {n₀ Bs x:Nat} {X Y:World} (h:Below X.heap.size X Y) (hn:n₀≤X.heap.size) (hB:Bs<X.heap.size):KpS n₀ Bs x X Y:=⟨h.mono hn,h.block Bs hB⟩
theorem KpS.set {n₀ Bs x:Nat} {X:World} {b o:Nat} (v:Value) (hn:n₀≤b) (hB:Bs≠b):KpS n₀ Bs x X (X.setCell ⟨b,o,none⟩ v) :=
 ⟨(Below.refl _ _).setCell (p:=⟨b,o,none⟩) hn v,Below.heap_setCell X ⟨b,o,none⟩ v Bs hB⟩
theorem kpM_put {M Bs B:Nat} (hB:Bs<B) (hM:M<B) (W:World) (l:Nat) (o':Obj) (hl:B≤l) (x:Nat):KpM M Bs x W (W.putObj l o') :=
 ⟨⟨World.putObj_heap_other (by omega),World.putObj_heap_other (by omega)⟩,by simp⟩
theorem abG_keep (x:Nat) (X Y:World) (k:Nat) (o:Obj) (h:AbG x X Y) (hk:X.heap[k]?=some o):Y.heap[k]?=some o:=by
 rw[World.grownBy.block h k (Array.getElem?_eq_some_iff.1 hk).1 (by simp)];exact hk
theorem own_abG {β:Type} {B:Nat} {I:β→World→Prop} (hI:OwnFrom B I) (x:Nat) (k:β) (X Y:World) (h:I k X) (hg:AbG x X Y):I k Y:=hI k X Y none h hg (fun r e=>by cases e)
section
variable {n : Nat} {g : Operand} {qs : Array Tmp} {assign body : Code} {Q : Exit → Act → World → Prop} {a : Act} {w : World} {Bs n₀ : Nat} {V : Option Addr} {d : Nat} {ps : List Pt}
theorem wpIn_range_sides (h1:2≤n) (hg:a.eval g=.func (.func 115) #[] #[.pointer (some ⟨Bs,0,none⟩)]) (hq:qs.size=2)
  (hBs:w.cell? ⟨Bs,0,none⟩=some (.slice V ps.length d)) (hBw:Bs<w.heap.size) (hP:Pts w V ps) (hn:n₀≤w.heap.size) (hVn:∀ ad,V=some ad→0<ps.length→ad.block<n₀)
  (I:Nat→World→Prop) (Ix:Code→Nat→World→Prop) (hI:OwnFrom w.heap.size I) (hIx:∀ c,OwnFrom w.heap.size (Ix c)) (h0:I 0 w)
  (Ax:Nat × Sd→Act→World→Prop) (hAx:∀ x a',OwnFrom w.heap.size (fun (_:Unit) W=>Ax x a' W))
  (hassign:∀ (l:Nat) (k:Nat) (W:World) (K:Act→World→Prop),k<ps.length→I k W→(∀ a' W',KeepsFrom w.heap.size W W'→KpS n₀ Bs (w.heap.size+1+1) W W'→I k W'→Ax (k,Cal.sd ps k) a' W'→K a' W') →
   assign.wpIn (Fence.wide.inRound l) (n-1-1) Tryz.prog (Exit.then K (fun _ _ _=>False)) { tmps:=(qs.zip #[.int .i64 (k:Int),.agg #[.int .i64 (Cal.sd ps k).a.x,.int .i64 (Cal.sd ps k).a.y,.int .i64 (Cal.sd ps k).b.x,.int .i64 (Cal.sd ps k).b.y]]).foldl (fun t (p,v)=>t.setIfInBounds p v) a.tmps,defers:=[] } W)
  (hbody:∀ (l:Nat) (k:Nat) (a':Act) (W:World),w.heap.size≤l→(∃ r,W.heap[l]?=some (.loop r))→k<ps.length→I k W→Ax (k,Cal.sd ps k) a' W→body.wpIn (Fence.wide.inRound l) (n-1-1) Tryz.prog (ixPost w.heap.size (KpS n₀ Bs (w.heap.size+1+1)) (I (k+1)) (fun c=>Ix c k) W) a' W)
  (hdone:∀ (D:Nat) (W:World),w.heap.size≤D→I ps.length W→W.heap[D]?=some (.deferred (some []))→Q .normal { a with defers:={ target:=.collected D,args:=#[] } :: a.defers } W)
  (hstop:∀ (D:Nat) (c:Code) (k:Nat) (W:World),w.heap.size≤D→k<ps.length→Ix c k W→W.heap[D]?=some (.deferred (some []))→c.wpIn Fence.wide n Tryz.prog Q { a with defers:={ target:=.collected D,args:=#[] } :: a.defers } W) :
  (Code.rangeFunc g qs assign body).wpIn Fence.wide n Tryz.prog Q a w:=by
 have at_:∀ {k:Nat} {x:Nat × Sd},(sdsI ps)[k]?=some x→k<ps.length∧x=(k,Cal.sd ps k):=fun {k x} h=>by
  have hk:k<ps.length:=by have:=(List.getElem?_eq_some_iff.1 h).1;rwa [sdsI_length] at this
  rw[sdsI_at hk] at h
  exact⟨hk,(Option.some.inj h).symm⟩
 refine wpIn_rangeFunc_ix rfl (by omega) hg trivial (enters_of Tryz.func115 (by kernel_rfl) rfl)
  (sides_ix (n-1) (by omega) Bs n₀ V d ps w hBs hBw hP.rows hVn hn hP.size) (fun X Y k o hab _ hk _=>abG_keep _ X Y k o hab hk) KpS.trans
  (fun W l o o' hl _ ho _ _=>kpS_put hBw hn W l o o' hl ho _) (Below.refl _ _) (fun x=>hq.symm ▸ rfl) I Ix hI hIx (fun k X Y h hab=>own_abG hI _ k X Y h hab) (fun c k X Y h hab=>own_abG (hIx c) _ k X Y h hab) h0 Ax hAx
  (fun l k x W K hx hi hK=>?_) (fun l k x a' W hl hr hx hi hax=>?_) (fun D W hD hi hdd=>?_) (fun D c k W hD hk hi hdd=>?_)
 ·obtain⟨hk,rfl⟩:=at_ hx
  exact hassign l k W K hk hi hK
 ·obtain⟨hk,rfl⟩:=at_ hx
  exact hbody l k a' W hl hr hk hi hax
 ·rw[sdsI_length] at hi
  exact hdone D W hD hi hdd
 rw[sdsI_length] at hk
 exact hstop D c k W hD hk hi hdd
theorem wpIn_range_sidesN {l₀:Nat} {r₀:Loop} (hl₀:w.heap[l₀]?=some (.loop r₀)) (h1:2≤n) (hg:a.eval g=.func (.func 115) #[] #[.pointer (some ⟨Bs,0,none⟩)]) (hq:qs.size=2)
  (hBs:w.cell? ⟨Bs,0,none⟩=some (.slice V ps.length d)) (hBw:Bs<w.heap.size) (hP:Pts w V ps) (hn:n₀≤w.heap.size) (hVn:∀ ad,V=some ad→0<ps.length→ad.block<n₀)
  (I:Nat→World→Prop) (Ix:Code→Nat→World→Prop) (hI:OwnFrom w.heap.size I) (hIx:∀ c,OwnFrom w.heap.size (Ix c)) (h0:I 0 w)
  (Ax:Nat × Sd→Act→World→Prop) (hAx:∀ x a',OwnFrom w.heap.size (fun (_:Unit) W=>Ax x a' W))
  (hassign:∀ (l:Nat) (k:Nat) (W:World) (K:Act→World→Prop),k<ps.length→I k W→(∀ a' W',KeepsFrom w.heap.size W W'→KpS n₀ Bs (w.heap.size+1) W W'→I k W'→Ax (k,Cal.sd ps k) a' W'→K a' W') →
   assign.wpIn ((Fence.wide.inRound l₀).inRound l) (n-1-1) Tryz.prog (Exit.then K (fun _ _ _=>False)) { tmps:=(qs.zip #[.int .i64 (k:Int),.agg #[.int .i64 (Cal.sd ps k).a.x,.int .i64 (Cal.sd ps k).a.y,.int .i64 (Cal.sd ps k).b.x,.int .i64 (Cal.sd ps k).b.y]]).foldl (fun t (p,v)=>t.setIfInBounds p v) a.tmps,defers:=[] } W)
  (hbody:∀ (l:Nat) (k:Nat) (a':Act) (W:World),w.heap.size≤l→(∃ r,W.heap[l]?=some (.loop r))→k<ps.length→I k W→Ax (k,Cal.sd ps k) a' W→body.wpIn ((Fence.wide.inRound l₀).inRound l) (n-1-1) Tryz.prog (ixPost w.heap.size (KpS n₀ Bs (w.heap.size+1)) (I (k+1)) (fun c=>Ix c k) W) a' W)
  (hdone:∀ (W:World),I ps.length W→Q .normal a W)
  (hstop:∀ (c:Code) (k:Nat) (W:World),k<ps.length→Ix c k W→c.wpIn (Fence.wide.inRound l₀) n Tryz.prog Q a W) :
  (Code.rangeFunc g qs assign body).wpIn (Fence.wide.inRound l₀) n Tryz.prog Q a w:=by
 have at_:∀ {k:Nat} {x:Nat × Sd},(sdsI ps)[k]?=some x→k<ps.length∧x=(k,Cal.sd ps k):=fun {k x} h=>by
  have hk:k<ps.length:=by have:=(List.getElem?_eq_some_iff.1 h).1;rwa [sdsI_length] at this
  rw[sdsI_at hk] at h
  exact⟨hk,(Option.some.inj h).symm⟩
 refine wpIn_rangeFunc_ixN (l₀:=l₀) (r₀:=r₀) rfl hl₀ (by omega) hg trivial (enters_of Tryz.func115 (by kernel_rfl) rfl)
  ((sides_ix (n-1) (by omega) Bs n₀ V d ps w hBs hBw hP.rows hVn hn hP.size).inRound l₀) (fun X Y k o hab _ hk _=>abG_keep _ X Y k o hab hk) KpS.trans
  (fun W l o o' hl _ ho _ _=>kpS_put hBw hn W l o o' hl ho _) (Below.refl _ _) (fun x=>hq.symm ▸ rfl) I Ix hI hIx (fun k X Y h hab=>own_abG hI _ k X Y h hab) (fun c k X Y h hab=>own_abG (hIx c) _ k X Y h hab) h0 Ax hAx
  (fun l k x W K hx hi hK=>?_) (fun l k x a' W hl hr hx hi hax=>?_) (fun W hi=>?_) (fun c k W hk hi=>?_)
 ·obtain⟨hk,rfl⟩:=at_ hx
  exact hassign l k W K hk hi hK
 ·obtain⟨hk,rfl⟩:=at_ hx
  exact hbody l k a' W hl hr hk hi hax
 ·rw[sdsI_length] at hi
  exact hdone W hi
 rw[sdsI_length] at hk
 exact hstop c k W hk hi
theorem wpIn_sides1 (h1:2≤n) (hg:a.eval g=.func (.func 115) #[] #[.pointer (some ⟨Bs,0,none⟩)]) (hq:qs.size=2)
  (hBs:w.cell? ⟨Bs,0,none⟩=some (.slice V ps.length d)) (hBw:Bs<w.heap.size) (hP:Pts w V ps) (hn:n₀≤w.heap.size) (hVn:∀ ad,V=some ad→0<ps.length→ad.block<n₀)
  (I:Nat→World→Prop) (Ix:Code→Nat→World→Prop) (hI:OwnFrom w.heap.size I) (hIx:∀ c,OwnFrom w.heap.size (Ix c)) (h0:I 0 w)
  (Af:Array Value→Nat→Sd→Nat→Array Value)
  (hassign:∀ (l:Nat) (k:Nat) (W:World) (K:Act→World→Prop),k<ps.length→I k W→(∀ By W',w.heap.size≤By→KeepsFrom w.heap.size W W'→KpS n₀ Bs (w.heap.size+1+1) W W'→I k W'→BoxAt W' By [.int .i64 (Cal.sd ps k).a.x,.int .i64 (Cal.sd ps k).a.y,.int .i64 (Cal.sd ps k).b.x,.int .i64 (Cal.sd ps k).b.y]→K { tmps:=Af a.tmps k (Cal.sd ps k) By,defers:=[] } W') →
   assign.wpIn (Fence.wide.inRound l) (n-1-1) Tryz.prog (Exit.then K (fun _ _ _=>False)) { tmps:=(qs.zip #[.int .i64 (k:Int),.agg #[.int .i64 (Cal.sd ps k).a.x,.int .i64 (Cal.sd ps k).a.y,.int .i64 (Cal.sd ps k).b.x,.int .i64 (Cal.sd ps k).b.y]]).foldl (fun t (p,v)=>t.setIfInBounds p v) a.tmps,defers:=[] } W)
  (hbody:∀ (l:Nat) (k:Nat) (By:Nat) (W:World),w.heap.size≤l→(∃ r,W.heap[l]?=some (.loop r))→k<ps.length→I k W→w.heap.size≤By→BoxAt W By [.int .i64 (Cal.sd ps k).a.x,.int .i64 (Cal.sd ps k).a.y,.int .i64 (Cal.sd ps k).b.x,.int .i64 (Cal.sd ps k).b.y]→body.wpIn (Fence.wide.inRound l) (n-1-1) Tryz.prog (ixPost w.heap.size (KpS n₀ Bs (w.heap.size+1+1)) (I (k+1)) (fun c=>Ix c k) W) { tmps:=Af a.tmps k (Cal.sd ps k) By,defers:=[] } W)
  (hdone:∀ (D:Nat) (W:World),w.heap.size≤D→I ps.length W→W.heap[D]?=some (.deferred (some []))→Q .normal { a with defers:={ target:=.collected D,args:=#[] } :: a.defers } W)
  (hstop:∀ (D:Nat) (c:Code) (k:Nat) (W:World),w.heap.size≤D→k<ps.length→Ix c k W→W.heap[D]?=some (.deferred (some []))→c.wpIn Fence.wide n Tryz.prog Q { a with defers:={ target:=.collected D,args:=#[] } :: a.defers } W) :
  (Code.rangeFunc g qs assign body).wpIn Fence.wide n Tryz.prog Q a w :=
 wpIn_range_sides h1 hg hq hBs hBw hP hn hVn I Ix hI hIx h0
  (fun x a' W=>∃ By,w.heap.size≤By∧BoxAt W By [.int .i64 x.2.a.x,.int .i64 x.2.a.y,.int .i64 x.2.b.x,.int .i64 x.2.b.y]∧a'={ tmps:=Af a.tmps x.1 x.2 By,defers:=[] })
  (fun x a' _ X Y row hs hg hr=>by obtain⟨By,e1,e2,e3⟩:=hs;exact⟨By,e1,e2.keptF hg (fun r e=>(hr r e).2),e3⟩)
  (fun l k W K hk hi hK=>hassign l k W K hk hi (fun By W' h1 h2 h3 h4 h5=>hK _ _ h2 h3 h4 ⟨By,h1,h5,rfl⟩))
  (fun l k a' W hl hr hk hi hax=>by obtain⟨By,h1,h2,rfl⟩:=hax;exact hbody l k By W hl hr hk hi h1 h2) hdone hstop
theorem wpIn_sides1N {l₀:Nat} {r₀:Loop} (hl₀:w.heap[l₀]?=some (.loop r₀)) (h1:2≤n) (hg:a.eval g=.func (.func 115) #[] #[.pointer (some ⟨Bs,0,none⟩)]) (hq:qs.size=2)
  (hBs:w.cell? ⟨Bs,0,none⟩=some (.slice V ps.length d)) (hBw:Bs<w.heap.size) (hP:Pts w V ps) (hn:n₀≤w.heap.size) (hVn:∀ ad,V=some ad→0<ps.length→ad.block<n₀)
  (I:Nat→World→Prop) (Ix:Code→Nat→World→Prop) (hI:OwnFrom w.heap.size I) (hIx:∀ c,OwnFrom w.heap.size (Ix c)) (h0:I 0 w)
  (Af:Array Value→Nat→Sd→Nat→Array Value)
  (hassign:∀ (l:Nat) (k:Nat) (W:World) (K:Act→World→Prop),k<ps.length→I k W→(∀ By W',w.heap.size≤By→KeepsFrom w.heap.size W W'→KpS n₀ Bs (w.heap.size+1) W W'→I k W'→BoxAt W' By [.int .i64 (Cal.sd ps k).a.x,.int .i64 (Cal.sd ps k).a.y,.int .i64 (Cal.sd ps k).b.x,.int .i64 (Cal.sd ps k).b.y]→K { tmps:=Af a.tmps k (Cal.sd ps k) By,defers:=[] } W') →
   assign.wpIn ((Fence.wide.inRound l₀).inRound l) (n-1-1) Tryz.prog (Exit.then K (fun _ _ _=>False)) { tmps:=(qs.zip #[.int .i64 (k:Int),.agg #[.int .i64 (Cal.sd ps k).a.x,.int .i64 (Cal.sd ps k).a.y,.int .i64 (Cal.sd ps k).b.x,.int .i64 (Cal.sd ps k).b.y]]).foldl (fun t (p,v)=>t.setIfInBounds p v) a.tmps,defers:=[] } W)
  (hbody:∀ (l:Nat) (k:Nat) (By:Nat) (W:World),w.heap.size≤l→(∃ r,W.heap[l]?=some (.loop r))→k<ps.length→I k W→w.heap.size≤By→BoxAt W By [.int .i64 (Cal.sd ps k).a.x,.int .i64 (Cal.sd ps k).a.y,.int .i64 (Cal.sd ps k).b.x,.int .i64 (Cal.sd ps k).b.y]→body.wpIn ((Fence.wide.inRound l₀).inRound l) (n-1-1) Tryz.prog (ixPost w.heap.size (KpS n₀ Bs (w.heap.size+1)) (I (k+1)) (fun c=>Ix c k) W) { tmps:=Af a.tmps k (Cal.sd ps k) By,defers:=[] } W)
  (hdone:∀ (W:World),I ps.length W→Q .normal a W)
  (hstop:∀ (c:Code) (k:Nat) (W:World),k<ps.length→Ix c k W→c.wpIn (Fence.wide.inRound l₀) n Tryz.prog Q a W) :
  (Code.rangeFunc g qs assign body).wpIn (Fence.wide.inRound l₀) n Tryz.prog Q a w :=
 wpIn_range_sidesN hl₀ h1 hg hq hBs hBw hP hn hVn I Ix hI hIx h0
  (fun x a' W=>∃ By,w.heap.size≤By∧BoxAt W By [.int .i64 x.2.a.x,.int .i64 x.2.a.y,.int .i64 x.2.b.x,.int .i64 x.2.b.y]∧a'={ tmps:=Af a.tmps x.1 x.2 By,defers:=[] })
  (fun x a' _ X Y row hs hg hr=>by obtain⟨By,e1,e2,e3⟩:=hs;exact⟨By,e1,e2.keptF hg (fun r e=>(hr r e).2),e3⟩)
  (fun l k W K hk hi hK=>hassign l k W K hk hi (fun By W' h1 h2 h3 h4 h5=>hK _ _ h2 h3 h4 ⟨By,h1,h5,rfl⟩))
  (fun l k a' W hl hr hk hi hax=>by obtain⟨By,h1,h2,rfl⟩:=hax;exact hbody l k By W hl hr hk hi h1 h2) hdone hstop
theorem wpIn_range_sidesNM {M ofs:Nat} {l₀:Nat} {r₀:Loop} (hl₀:w.heap[l₀]?=some (.loop r₀)) (h1:2≤n) (hg:a.eval g=.func (.func 115) #[] #[.pointer (some ⟨Bs,0,none⟩)]) (hq:qs.size=2)
  (hBs:w.cell? ⟨Bs,0,none⟩=some (.slice (some ⟨M,ofs,none⟩) ps.length d)) (hBw:Bs<w.heap.size) (hP:Pts w (some ⟨M,ofs,none⟩) ps) (hM:M<w.heap.size)
  (I:Nat→World→Prop) (Ix:Code→Nat→World→Prop) (hI:OwnFrom w.heap.size I) (hIx:∀ c,OwnFrom w.heap.size (Ix c)) (h0:I 0 w)
  (Ax:Nat × Sd→Act→World→Prop) (hAx:∀ x a',OwnFrom w.heap.size (fun (_:Unit) W=>Ax x a' W))
  (hassign:∀ (l:Nat) (k:Nat) (W:World) (K:Act→World→Prop),k<ps.length→I k W→(∀ a' W',KeepsFrom w.heap.size W W'→KpM M Bs (w.heap.size+1) W W'→I k W'→Ax (k,Cal.sd ps k) a' W'→K a' W') →
   assign.wpIn ((Fence.wide.inRound l₀).inRound l) (n-1-1) Tryz.prog (Exit.then K (fun _ _ _=>False)) { tmps:=(qs.zip #[.int .i64 (k:Int),.agg #[.int .i64 (Cal.sd ps k).a.x,.int .i64 (Cal.sd ps k).a.y,.int .i64 (Cal.sd ps k).b.x,.int .i64 (Cal.sd ps k).b.y]]).foldl (fun t (p,v)=>t.setIfInBounds p v) a.tmps,defers:=[] } W)
  (hbody:∀ (l:Nat) (k:Nat) (a':Act) (W:World),w.heap.size≤l→(∃ r,W.heap[l]?=some (.loop r))→k<ps.length→I k W→Ax (k,Cal.sd ps k) a' W→body.wpIn ((Fence.wide.inRound l₀).inRound l) (n-1-1) Tryz.prog (ixPost w.heap.size (KpM M Bs (w.heap.size+1)) (I (k+1)) (fun c=>Ix c k) W) a' W)
  (hdone:∀ (W:World),I ps.length W→Q .normal a W)
  (hstop:∀ (c:Code) (k:Nat) (W:World),k<ps.length→Ix c k W→c.wpIn (Fence.wide.inRound l₀) n Tryz.prog Q a W) :
  (Code.rangeFunc g qs assign body).wpIn (Fence.wide.inRound l₀) n Tryz.prog Q a w:=by
 have at_:∀ {k:Nat} {x:Nat × Sd},(sdsI ps)[k]?=some x→k<ps.length∧x=(k,Cal.sd ps k):=fun {k x} h=>by
  have hk:k<ps.length:=by have:=(List.getElem?_eq_some_iff.1 h).1;rwa [sdsI_length] at this
  rw[sdsI_at hk] at h
  exact⟨hk,(Option.some.inj h).symm⟩
 refine wpIn_rangeFunc_ixN (l₀:=l₀) (r₀:=r₀) rfl hl₀ (by omega) hg trivial (enters_of Tryz.func115 (by kernel_rfl) rfl)
  ((sides_gen (n-1) (by omega) Bs (KpM M Bs) (some ⟨M,ofs,none⟩) d ps w (kpM_ok hBw hM) hBs hBw hP.rows hP.size).inRound l₀) (fun X Y k o hab _ hk _=>abG_keep _ X Y k o hab hk) KpM.trans
  (fun W l o o' hl _ ho _ _=>kpM_put hBw hM W l o' hl _) (Below.refl _ _) (fun x=>hq.symm ▸ rfl) I Ix hI hIx (fun k X Y h hab=>own_abG hI _ k X Y h hab) (fun c k X Y h hab=>own_abG (hIx c) _ k X Y h hab) h0 Ax hAx
  (fun l k x W K hx hi hK=>?_) (fun l k x a' W hl hr hx hi hax=>?_) (fun W hi=>?_) (fun c k W hk hi=>?_)
 ·obtain⟨hk,rfl⟩:=at_ hx
  exact hassign l k W K hk hi hK
 ·obtain⟨hk,rfl⟩:=at_ hx
  exact hbody l k a' W hl hr hk hi hax
 ·rw[sdsI_length] at hi
  exact hdone W hi
 rw[sdsI_length] at hk
 exact hstop c k W hk hi
theorem wpIn_sides1NM {M ofs:Nat} {l₀:Nat} {r₀:Loop} (hl₀:w.heap[l₀]?=some (.loop r₀)) (h1:2≤n) (hg:a.eval g=.func (.func 115) #[] #[.pointer (some ⟨Bs,0,none⟩)]) (hq:qs.size=2)
  (hBs:w.cell? ⟨Bs,0,none⟩=some (.slice (some ⟨M,ofs,none⟩) ps.length d)) (hBw:Bs<w.heap.size) (hP:Pts w (some ⟨M,ofs,none⟩) ps) (hM:M<w.heap.size)
  (I:Nat→World→Prop) (Ix:Code→Nat→World→Prop) (hI:OwnFrom w.heap.size I) (hIx:∀ c,OwnFrom w.heap.size (Ix c)) (h0:I 0 w)
  (Af:Array Value→Nat→Sd→Nat→Array Value)
  (hassign:∀ (l:Nat) (k:Nat) (W:World) (K:Act→World→Prop),k<ps.length→I k W→(∀ By W',w.heap.size≤By→KeepsFrom w.heap.size W W'→KpM M Bs (w.heap.size+1) W W'→I k W'→BoxAt W' By [.int .i64 (Cal.sd ps k).a.x,.int .i64 (Cal.sd ps k).a.y,.int .i64 (Cal.sd ps k).b.x,.int .i64 (Cal.sd ps k).b.y]→K { tmps:=Af a.tmps k (Cal.sd ps k) By,defers:=[] } W') →
   assign.wpIn ((Fence.wide.inRound l₀).inRound l) (n-1-1) Tryz.prog (Exit.then K (fun _ _ _=>False)) { tmps:=(qs.zip #[.int .i64 (k:Int),.agg #[.int .i64 (Cal.sd ps k).a.x,.int .i64 (Cal.sd ps k).a.y,.int .i64 (Cal.sd ps k).b.x,.int .i64 (Cal.sd ps k).b.y]]).foldl (fun t (p,v)=>t.setIfInBounds p v) a.tmps,defers:=[] } W)
  (hbody:∀ (l:Nat) (k:Nat) (By:Nat) (W:World),w.heap.size≤l→(∃ r,W.heap[l]?=some (.loop r))→k<ps.length→I k W→w.heap.size≤By→BoxAt W By [.int .i64 (Cal.sd ps k).a.x,.int .i64 (Cal.sd ps k).a.y,.int .i64 (Cal.sd ps k).b.x,.int .i64 (Cal.sd ps k).b.y]→body.wpIn ((Fence.wide.inRound l₀).inRound l) (n-1-1) Tryz.prog (ixPost w.heap.size (KpM M Bs (w.heap.size+1)) (I (k+1)) (fun c=>Ix c k) W) { tmps:=Af a.tmps k (Cal.sd ps k) By,defers:=[] } W)
  (hdone:∀ (W:World),I ps.length W→Q .normal a W)
  (hstop:∀ (c:Code) (k:Nat) (W:World),k<ps.length→Ix c k W→c.wpIn (Fence.wide.inRound l₀) n Tryz.prog Q a W) :
  (Code.rangeFunc g qs assign body).wpIn (Fence.wide.inRound l₀) n Tryz.prog Q a w :=
 wpIn_range_sidesNM hl₀ h1 hg hq hBs hBw hP hM I Ix hI hIx h0
  (fun x a' W=>∃ By,w.heap.size≤By∧BoxAt W By [.int .i64 x.2.a.x,.int .i64 x.2.a.y,.int .i64 x.2.b.x,.int .i64 x.2.b.y]∧a'={ tmps:=Af a.tmps x.1 x.2 By,defers:=[] })
  (fun x a' _ X Y row hs hg hr=>by obtain⟨By,e1,e2,e3⟩:=hs;exact⟨By,e1,e2.keptF hg (fun r e=>(hr r e).2),e3⟩)
  (fun l k W K hk hi hK=>hassign l k W K hk hi (fun By W' h1 h2 h3 h4 h5=>hK _ _ h2 h3 h4 ⟨By,h1,h5,rfl⟩))
  (fun l k a' W hl hr hk hi hax=>by obtain⟨By,h1,h2,rfl⟩:=hax;exact hbody l k By W hl hr hk hi h1 h2) hdone hstop
end
end Go.Proofs.YthfokpchdlcidaaGreat
namespace Go.Proofs.YthfokpchdlcidaaGreat
open Go Go.RowKit Go.Shelf
attribute [local go_sem] Oper.semAt_some
theorem SmP.box {p:Pt} (h:SmP p):-4000000≤p.x∧p.x≤4000000∧-4000000≤p.y∧p.y≤4000000:=by
 obtain⟨h0,h1,h2,h3⟩:=h
 omega
theorem crossV_box {a b:Pt} (ha:SmP a) (hb:SmP b):-2000000000000≤a.x*b.y-a.y*b.x∧a.x*b.y-a.y*b.x≤2000000000000:=by
 obtain⟨a0,a1,a2,a3⟩:=ha
 obtain⟨b0,b1,b2,b3⟩:=hb
 have h1:=mul_le_of (a:=a.x) (b:=b.y) (M:=1000000) (N:=1000000) a0 a1 b2 b3
 have h2:=mul_le_of (a:=a.y) (b:=b.x) (M:=1000000) (N:=1000000) a2 a3 b0 b1
 omega
theorem areaTo_box {w:World} {V:Option Addr} {ps:List Pt} (h:Pts w V ps):∀ k:Nat,k≤ps.length→-(2000000000000*(k:Int))≤Cal.areaTo ps k∧Cal.areaTo ps k≤2000000000000*(k:Int)
 | 0,_=>by simp[Cal.areaTo]
 | k+1,hk=>by
  have ih:=areaTo_box h k (by omega)
  have hs:=h.sd k (by omega)
  have:=crossV_box hs.a hs.b
  unfold Cal.areaTo
  omega
def ArI (w:World) (ps:List Pt) (k:Nat) (W:World):Prop:=BoxAt W w.heap.size [.int .i64 (Cal.areaTo ps k)]∧Below w.heap.size w W∧w.heap.size+2≤W.heap.size
theorem arI_own (w:World) (ps:List Pt) (B:Nat) (hB:w.heap.size≤B):OwnFrom B (ArI w ps):=fun pre X Y row hs hg hr=>by
 obtain⟨b,hb,hz⟩:=hs
 exact⟨b.keptF hg (fun r e=>(hr r e).2),ownFrom_below (β:=Unit) (Nat.le_refl _) hB () X Y row hb hg hr,Nat.le_trans hz hg.size⟩
theorem area_any (V:Option Addr) (d:Nat) (ps:List Pt) (w:World) (hP:Pts w V ps) :
  Calls Tryz.prog 68 #[.slice V ps.length d] w fun e w'=>e=.returned (.int .i64 (Cal.areaP ps))∧Below w.heap.size w w':=by
 refine (callsIn_wide (n:=4)).1 ?_
 refine callsIn_of_wp_marks Tryz.func68 rfl trivial ?_ rfl
 simp only[Tryz.ntmps68,List.size_toArray,List.length_cons,List.length_nil,Nat.reduceAdd,Nat.reduceSub,Array.replicate_succ,Array.replicate_zero,List.push_toArray,List.append_toArray,List.nil_append,List.cons_append]
 gi_wp2_with (refine⟨trivial,?_⟩;gi_at_call 78;refine (callsIn_wide.2 (sides_any _ _ _ _)).mono ?_;rintro e w' ⟨rfl,rfl⟩)
 have bA:=(BoxAt.new w #[.int .i64 0] 3).alloc (.cells #[.slice V ps.length d] 22)
 have bS:=BoxAt.new (w.alloc (.cells #[.int .i64 0] 3)) #[.slice V ps.length d] 22
 have hB0:Below w.heap.size w ((w.alloc (.cells #[.int .i64 0] 3)).alloc (.cells #[.slice V ps.length d] 22)):=below_step (below_alloc _ _) (below_alloc _ _)
 have hs0:((w.alloc (.cells #[.int .i64 0] 3)).alloc (.cells #[.slice V ps.length d] 22)).heap.size=w.heap.size+2:=by simp
 simp only[World.size_alloc] at bS
 obtain⟨W0,hW0⟩:∃ W0,(w.alloc (.cells #[.int .i64 0] 3)).alloc (.cells #[.slice V ps.length d] 22)=W0:=⟨_,rfl⟩
 rw[hW0] at bA bS hB0 hs0 ⊢
 clear hW0
 have hP0:=hP.below hB0
 refine wpIn_range_sides (Bs:=w.heap.size+1) (n₀:=w.heap.size) (V:=V) (d:=d) (ps:=ps) (by omega) rfl rfl (bS.c 0 _ rfl) (by omega) hP0 (by omega) hP.own
  (ArI w ps) (fun _ _ _=>False) (arI_own w ps _ (by omega)) (fun _ _ _ _ _ h=>h.elim) ⟨bA,hB0,by omega⟩
  (fun x a' W=>∃ Bx,W0.heap.size≤Bx∧BoxAt W Bx [.int .i64 x.2.a.x,.int .i64 x.2.a.y,.int .i64 x.2.b.x,.int .i64 x.2.b.y]∧a'={ tmps:=#[.slice V ps.length d,undef,.int .i64 0,.pointer (some ⟨w.heap.size,0,none⟩),undef,.pointer (some ⟨Bx,0,none⟩),.slice V ps.length d,.func (.func 115) #[] #[.pointer (some ⟨w.heap.size+1,0,none⟩)],.int .i64 (x.1:Int),.agg #[.int .i64 x.2.a.x,.int .i64 x.2.a.y,.int .i64 x.2.b.x,.int .i64 x.2.b.y],undef,undef,undef,undef,undef,undef,undef,undef],defers:=[] })
  (fun x a' _ X Y row hs hg hr=>by obtain⟨Bx,e1,e2,e3⟩:=hs;exact⟨Bx,e1,e2.keptF hg (fun r e=>(hr r e).2),e3⟩)
  ?assign ?body ?done ?stop
 case assign =>
  rintro l k W K hk ⟨hb,hB,hz⟩ hK
  gi_wp2
  exact hK _ _ ((KeepsOthers.alloc _ _).from _) (KpS.below (below_alloc _ _) hB.size (by omega)) ⟨hb.alloc _,hB.alloc hB.size _,by simp;omega⟩ ⟨W.heap.size,by omega,BoxAt.new W #[.int .i64 (Cal.sd ps k).a.x,.int .i64 (Cal.sd ps k).a.y,.int .i64 (Cal.sd ps k).b.x,.int .i64 (Cal.sd ps k).b.y] _,rfl⟩
 case body =>
  rintro l k a' W hl ⟨r,hr⟩ hk ⟨hb,hB,hz⟩ ⟨Bx,hBx,bX,rfl⟩
  have hsd:=hP.sd k hk
  have hbox:=areaTo_box hP k (by omega)
  have hbox2:=areaTo_box hP (k+1) hk
  have hsz:=hP.size
  have hstep:Hid (Cal.areaTo ps (k+1)=Cal.areaTo ps k+((Cal.sd ps k).a.x*(Cal.sd ps k).b.y-(Cal.sd ps k).a.y*(Cal.sd ps k).b.x)):=rfl
  rw[hstep.out] at hbox2
  have c0:=hb.c 0 _ rfl
  have f0:=hb.free 0 Nat.zero_lt_one
  obtain⟨e0,e1,e2,e3⟩:=bX.c4
  dsimp only at e0 e1 e2 e3
  generalize Cal.sd ps k=s at *
  generalize Cal.areaTo ps k=acc at *
  have hwr:IntKind.i64.wrap (acc+(s.a.x*s.b.y-s.a.y*s.b.x))=acc+(s.a.x*s.b.y-s.a.y*s.b.x):=wrap_small (by omega) (by omega)
  have hAll:=Lib.hid (And.intro hb (And.intro hB hz))
  clear hb hB bX
  gi_wp2
  refine wpIn_region_heldY (S:=Sx W [(w.heap.size,0,.int .i64 acc),(Bx,0,.int .i64 s.a.x),(Bx,1,.int .i64 s.a.y),(Bx,2,.int .i64 s.b.x),(Bx,3,.int .i64 s.b.y)]) 7 (by kernel_rfl) (Sx.mk (by simp only[cs_iff_cons];exact⟨c0,e0,e1,e2,e3,cs_nil _⟩) (Below.refl _ _)).drew (fun hHeld=>?_)
  refine tkYx 0 10 ?_
  refine tkYx 1 11 ?_
  refine tkYx 2 12 ?_
  refine tkYx 3 13 ?_
  refine tkYx 4 14 ?_
  (refine ratY 5 (fun _=>trivial) (by decide +kernel) rfl (fun K hK=>?_);rw[if_pos (by kernel_rfl)];go_simp)
  refine⟨trivial,?_⟩
  refine (callsIn_wide.2 (cross_any s.a s.b _ hsd.a.box hsd.b.box)).mono ?_
  rintro e wn ⟨rfl,hbn⟩
  go_simp
  (refine hK.out _ _ (hHeld.step hbn) (fun hHeld=>?_);clear hK K;(try simp only[apS,apN,siA,scZ,scS]))
  refine tkYx 6 16 ?_
  have f1:wn.frozen? ⟨w.heap.size,0,none⟩=false:=((hAll.out.1.below hHeld.bel).free 0 Nat.zero_lt_one)
  have h0:=hHeld.cs
  simp only[cs_iff_cons] at h0
  obtain⟨h0,_⟩:=h0
  (refine ratYc 7 (fun _=>trivial) (by decide +kernel) rfl (by decide +kernel) (fun K hK=>?_);rw[if_pos (by kernel_rfl)];go_simp;refine hK.out _ _ ?_;clear hK K;(try simp only[apS,apN,siA,scZ,scS]))
  refine wpAnyInY_done (by decide +kernel) ?_ _
  refine⟨((keepsF_below hHeld.bel).trans (KeepsOthers.setCell _ _ _)).from _,(KpS.below hHeld.bel (by omega) (by omega)).trans (KpS.set _ (Nat.le_refl _) (by omega)),?_,?_,?_⟩
  ·rw[hstep.out]
   exact (hAll.out.1.below hHeld.bel).set 0 _ Nat.zero_lt_one
  ·exact (hAll.out.2.1.trans (hHeld.bel.mono hAll.out.2.1.size)).setCell (p:=⟨w.heap.size,0,none⟩) (Nat.le_refl _) _
  have:=hHeld.bel.size
  rw[World.size_setCell]
  omega
 case done =>
  rintro D W hD ⟨hb,hB,hz⟩ hK
  have c0:=hb.c 0 _ rfl
  have hAll:=Lib.hid (And.intro hb (And.intro hB hK))
  clear hb hB hK
  gi_wp2
  obtain⟨hb,hB,hK⟩:=hAll.out
  refine⟨by simp,.inl ⟨_,_,rfl,run_takeDeferred hK,?_⟩⟩
  exact⟨_,results_tmp (t:=2) rfl _ _ _,rfl,belowF_put hB (by omega) _⟩
 case stop =>
  rintro D c k W hD hk h
  exact h.elim
end Go.Proofs.YthfokpchdlcidaaGreat
