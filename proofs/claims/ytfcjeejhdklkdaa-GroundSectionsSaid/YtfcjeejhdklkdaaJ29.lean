/- What the statements rest on: definitions and walks, part 29. -/
import Derived.Test.YtfcjeejhdklkdaaJ28
set_option maxRecDepth 100000
set_option maxHeartbeats 16000000
set_option linter.unusedSimpArgs false
set_option linter.unusedVariables false
namespace Go.Proofs.Ytfcjeejhdklkdaa
open Go Go.RowKit Go.Shelf
attribute [local go_sem] Oper.semAt_some
theorem BdI.any {w : World} {Vb : Option Addr} {nb db N : Nat} {Ns : List Nat} {out : List Sd} {X : World} (h : BdI w Vb nb db N Ns out X) : BdI w Vb nb db N [] out X :=
 ⟨h.b,by obtain ⟨v,h2,h3,h4⟩:=h.o;exact ⟨v,h2,h3,fun g _ hm=>by cases hm⟩,h.bel,h.lt,h.size⟩
section
variable {n : Nat} {g : Operand} {qs : Array Tmp} {assign body : Code} {Q : Exit → Act → World → Prop} {a : Act} {w : World} {Bs n₀ : Nat} {V : Option Addr} {d : Nat} {ps : List Pt}
theorem wpIn_sides1X (h1 : 2 ≤ n) (hg : a.eval g = .func (.func 109) #[] #[.pointer (some ⟨Bs,0,none⟩)]) (hq : qs.size = 2)
  (hBs : w.cell? ⟨Bs,0,none⟩ = some (.slice V ps.length d)) (hBw : Bs < w.heap.size) (hP : Pts w V ps) (hn : n₀ ≤ w.heap.size) (hVn : ∀ ad,V = some ad → 0 < ps.length → ad.block < n₀)
  (I : Nat → World → Prop) (Ix : Code → Nat → World → Prop) (hI : OwnFrom w.heap.size I) (hIx : ∀ c,OwnFrom w.heap.size (Ix c)) (h0 : I 0 w)
  (Af : Array Value → Nat → Sd → Nat → Array Value) (Ex : Nat → World → Prop) (hEx : ∀ b,OwnFrom w.heap.size (fun (_ : Unit) W=>Ex b W))
  (hassign : ∀ (l : Nat) (k : Nat) (W : World) (K : Act → World → Prop),k < ps.length → I k W → (∀ By W',w.heap.size ≤ By → KeepsFrom w.heap.size W W' → KpS n₀ Bs (w.heap.size + 1 + 1) W W' → I k W' → BoxAt W' By [.int .i64 (Cal.sd ps k).a.x,.int .i64 (Cal.sd ps k).a.y,.int .i64 (Cal.sd ps k).b.x,.int .i64 (Cal.sd ps k).b.y] → Ex By W' → K { tmps:=Af a.tmps k (Cal.sd ps k) By,defers:=[] } W') →
   assign.wpIn (Fence.wide.inRound l) (n - 1 - 1) Try.prog (Exit.then K (fun _ _ _=>False)) { tmps:=(qs.zip #[.int .i64 (k : Int),.agg #[.int .i64 (Cal.sd ps k).a.x,.int .i64 (Cal.sd ps k).a.y,.int .i64 (Cal.sd ps k).b.x,.int .i64 (Cal.sd ps k).b.y]]).foldl (fun t (p,v)=>t.setIfInBounds p v) a.tmps,defers:=[] } W)
  (hbody : ∀ (l : Nat) (k : Nat) (By : Nat) (W : World),w.heap.size ≤ l → (∃ r,W.heap[l]? = some (.loop r)) → k < ps.length → I k W → w.heap.size ≤ By → BoxAt W By [.int .i64 (Cal.sd ps k).a.x,.int .i64 (Cal.sd ps k).a.y,.int .i64 (Cal.sd ps k).b.x,.int .i64 (Cal.sd ps k).b.y] → Ex By W → body.wpIn (Fence.wide.inRound l) (n - 1 - 1) Try.prog (ixPost w.heap.size (KpS n₀ Bs (w.heap.size + 1 + 1)) (I (k + 1)) (fun c=>Ix c k) W) { tmps:=Af a.tmps k (Cal.sd ps k) By,defers:=[] } W)
  (hdone : ∀ (D : Nat) (W : World),w.heap.size ≤ D → I ps.length W → W.heap[D]? = some (.deferred (some [])) → Q .normal { a with defers:={ target:=.collected D,args:=#[] } :: a.defers } W)
  (hstop : ∀ (D : Nat) (c : Code) (k : Nat) (W : World),w.heap.size ≤ D → k < ps.length → Ix c k W → W.heap[D]? = some (.deferred (some [])) → c.wpIn Fence.wide n Try.prog Q { a with defers:={ target:=.collected D,args:=#[] } :: a.defers } W) :
  (Code.rangeFunc g qs assign body).wpIn Fence.wide n Try.prog Q a w :=
 wpIn_range_sides h1 hg hq hBs hBw hP hn hVn I Ix hI hIx h0
  (fun x a' W=>∃ By,w.heap.size ≤ By ∧ BoxAt W By [.int .i64 x.2.a.x,.int .i64 x.2.a.y,.int .i64 x.2.b.x,.int .i64 x.2.b.y] ∧ Ex By W ∧ a' = { tmps:=Af a.tmps x.1 x.2 By,defers:=[] })
  (fun x a' _ X Y row hs hg hr=>by obtain ⟨By,e1,e2,e4,e3⟩:=hs;exact ⟨By,e1,e2.keptF hg (fun r e=>(hr r e).2),hEx By () X Y row e4 hg hr,e3⟩)
  (fun l k W K hk hi hK=>hassign l k W K hk hi (fun By W' h1 h2 h3 h4 h5 h6=>hK _ _ h2 h3 h4 ⟨By,h1,h5,h6,rfl⟩))
  (fun l k a' W hl hr hk hi hax=>by obtain ⟨By,h1,h2,h3,rfl⟩:=hax;exact hbody l k By W hl hr hk hi h1 h2 h3) hdone hstop
end
def BdX (w : World) (b : Nat) (W : World) : Prop:=∃ v,BoxAt W (w.heap.size + 1) [v] ∧ ∀ g,v.ownBlock = some g → g ≠ b
theorem bdX_own (w : World) (b : Nat) (B : Nat) : OwnFrom B (fun (_ : Unit) W=>BdX w b W):=fun _ X Y row h hg hr=>by
 obtain ⟨v,h1,h2⟩:=h
 exact ⟨v,h1.keptF hg (fun r e=>(hr r e).2),h2⟩
theorem BdI.avoid2 {w : World} {Vb : Option Addr} {nb db N b : Nat} {Ns : List Nat} {out : List Sd} {X : World} (h : BdI w Vb nb db N Ns out X) (hx : BdX w b X) : BdI w Vb nb db N [X.heap.size,b] out X:=by
 obtain ⟨h1,⟨v,h2,h3,h4⟩,h5,h6,h7⟩:=h
 obtain ⟨v',k1,k2⟩:=hx
 have e : v = v':=by
  have a1:=h2.c 0 _ rfl
  have a2:=k1.c 0 _ rfl
  rw [a1] at a2
  exact Option.some.inj a2
 subst e
 refine ⟨h1,⟨v,h2,h3,fun g hg hm=>?_⟩,h5,h6,h7⟩
 rcases List.mem_cons.1 hm with e | hm
 ·have:=(OwnL.lt h3 g hg).2;omega
 ·exact k2 g hg (List.mem_singleton.1 hm)
theorem bdIn_len (s : Sd) (vs : List Pt) (j : Nat) : (bdIn s vs j).length ≤ vs.length:=by
 unfold bdIn
 refine Nat.le_trans (List.length_filterMap_le _ _) ?_
 rw [List.length_take,sds_length]
 exact Nat.min_le_right _ _
theorem bdTo_len (us vs : List Pt) (k : Nat) : (bdTo us vs k).length ≤ us.length * vs.length:=by
 unfold bdTo
 have h : ∀ L : List Sd,(L.flatMap fun s=>(Cal.sds vs).filterMap (Cal.commonS s)).length ≤ L.length * vs.length:=by
  intro L
  induction L with
  | nil=>simp
  | cons a L ih =>
   rw [List.flatMap_cons,List.length_append,List.length_cons,Nat.succ_mul]
   have:=List.length_filterMap_le (Cal.commonS a) (Cal.sds vs)
   rw [sds_length] at this
   omega
 refine Nat.le_trans (h _) (Nat.mul_le_mul_right _ ?_)
 rw [List.length_take,sds_length]
 exact Nat.min_le_right _ _
theorem sdR_wid (l : List Sd) : ∀ r ∈ l.map sdR,r.length = 4:=fun r hr=>by obtain ⟨s,_,rfl⟩:=List.mem_map.1 hr;rfl
theorem sdR_one (l : List Sd) : ∀ r ∈ l.map sdR,∀ u ∈ r,u.oneCell' = true:=fun r hr u hu=>by
 obtain ⟨s,_,rfl⟩:=List.mem_map.1 hr
 simp only [sdR,List.mem_cons,List.not_mem_nil,or_false] at hu
 rcases hu with rfl | rfl | rfl | rfl <;> rfl
def BdJ (w : World) (Vb : Option Addr) (db : Nat) (us vs : List Pt) (k : Nat) (W : World) : Prop:=BdI w Vb vs.length db (w.heap.size + 3) [] (bdTo us vs k) W
def BdJ2 (w : World) (Vb : Option Addr) (db B Bs Bx S Bi : Nat) (W : World) (out : List Sd) (s : Sd) (vs : List Pt) (j : Nat) (Y : World) : Prop :=
 BdI w Vb vs.length db (w.heap.size + 3) [Bi,Bx] (out ++ bdIn s vs j) Y ∧ BoxAt Y Bx [.int .i64 s.a.x,.int .i64 s.a.y,.int .i64 s.b.x,.int .i64 s.b.y] ∧ Rd B w.heap.size Bs W Y ∧ S ≤ Y.heap.size
theorem bdJ_own (w : World) (Vb : Option Addr) (db : Nat) (us vs : List Pt) (B : Nat) (hB : w.heap.size ≤ B) : OwnFrom B (BdJ w Vb db us vs):=fun _ _ _ _ hs hg hr =>
 BdI.kept hs hg (fun r e=>⟨Nat.le_trans hB (hr r e).1,(hr r e).2⟩)
theorem bdJ2_own (w : World) (Vb : Option Addr) (db B Bs Bx S Bi : Nat) (W : World) (out : List Sd) (s : Sd) (vs : List Pt) (B' : Nat) (hB : W.heap.size ≤ B') (hn : w.heap.size ≤ W.heap.size) (hs : Bs < W.heap.size) : OwnFrom B' (BdJ2 w Vb db B Bs Bx S Bi W out s vs):=fun k X Y row h hg hr =>
 ⟨h.1.kept hg (fun r e=>⟨by have:=(hr r e).1;omega,(hr r e).2⟩),h.2.1.keptF hg (fun r e=>(hr r e).2),rd_own (β:=Nat) hB hn hs k X Y row h.2.2.1 hg hr,Nat.le_trans h.2.2.2 hg.size⟩
theorem no_own (B : Nat) : OwnFrom B (fun (_ : Nat) (_ : World)=>False):=fun _ _ _ _ h _ _=>h
theorem border_any (Va Vb : Option Addr) (da db : Nat) (us vs : List Pt) (w : World) (hA : Pts w Va us) (hB : Pts w Vb vs) (hla : us.length ≤ 40) (hlb : vs.length ≤ 40) :
  Calls Try.prog 62 #[.slice Va us.length da,.slice Vb vs.length db] w fun e w'=>∃ v,e = .returned v ∧ OwnL w' w.heap.size 97 4 v ((Cal.borderP us vs).map sdR) ∧ Below w.heap.size w w':=by
 refine (callsIn_wide (n:=6)).1 ?_
 refine callsIn_of_wp_marks Try.func62 rfl trivial ?_ rfl
 simp only [Try.ntmps62,List.size_toArray,List.length_cons,List.length_nil,Nat.reduceAdd,Nat.reduceSub,Array.replicate_succ,Array.replicate_zero,List.push_toArray,List.append_toArray,List.nil_append,List.cons_append]
 gi_wp2_with (refine ⟨trivial,?_⟩;gi_at_call 86;refine (callsIn_wide.2 (sides_any _ _ _ _)).mono ?_;rintro e w' ⟨rfl,rfl⟩)
 have bB:=((BoxAt.new w #[.slice Vb vs.length db] 48).alloc (.cells #[.slice none 0 0] 50)).alloc (.cells #[.slice Va us.length da] 48)
 have bR:=(BoxAt.new (w.alloc (.cells #[.slice Vb vs.length db] 48)) #[.slice none 0 0] 50).alloc (.cells #[.slice Va us.length da] 48)
 have bS:=BoxAt.new ((w.alloc (.cells #[.slice Vb vs.length db] 48)).alloc (.cells #[.slice none 0 0] 50)) #[.slice Va us.length da] 48
 have hB0 : Below w.heap.size w (((w.alloc (.cells #[.slice Vb vs.length db] 48)).alloc (.cells #[.slice none 0 0] 50)).alloc (.cells #[.slice Va us.length da] 48)):=below_step (below_step (below_alloc _ _) (below_alloc _ _)) (below_alloc _ _)
 have hs0 : ((((w.alloc (.cells #[.slice Vb vs.length db] 48)).alloc (.cells #[.slice none 0 0] 50)).alloc (.cells #[.slice Va us.length da] 48))).heap.size = w.heap.size + 3:=by simp
 simp only [World.size_alloc] at bR bS
 obtain ⟨W0,hW0⟩ : ∃ W0,(((w.alloc (.cells #[.slice Vb vs.length db] 48)).alloc (.cells #[.slice none 0 0] 50)).alloc (.cells #[.slice Va us.length da] 48)) = W0:=⟨_,rfl⟩
 rw [hW0] at bB bR bS hB0 hs0 ⊢
 clear hW0
 have hs00:=Lib.hid hs0
 replace hs0 : w.heap.size + 3 ≤ W0.heap.size:=Nat.le_of_eq hs0.symm
 have hA0:=hA.below hB0
 refine wpIn_sides1X (Bs:=w.heap.size + 1 + 1) (n₀:=w.heap.size) (V:=Va) (d:=da) (ps:=us) (by omega) rfl rfl (bS.c 0 _ rfl) (by omega) hA0 (by omega) hA.own
  (BdJ w Vb db us vs) (fun _ _ _=>False) (bdJ_own w Vb db us vs _ (by omega)) (fun _=>no_own _) ⟨bB,⟨_,bR,OwnL.nil _ _ _ _,fun g h=>by cases h⟩,hB0,Nat.le_refl _,hs0⟩
  (fun T k t By=>((T.setIfInBounds 14 (.int .i64 (k : Int))).setIfInBounds 15 (.agg #[.int .i64 t.a.x,.int .i64 t.a.y,.int .i64 t.b.x,.int .i64 t.b.y])).setIfInBounds 7 (.pointer (some ⟨By,0,none⟩))) (BdX w) (fun b=>bdX_own w b _)
  ?assign ?body ?done ?stop
 case assign =>
  rintro l k W K hk hI hK
  gi_wp2
  have hz:=BdI.size hI
  exact hK W.heap.size _ (by have:=hs00.out;omega) ((KeepsOthers.alloc _ _).from _) (KpS.below (below_alloc _ _) hI.bel.size (by omega)) (BdI.below hI (below_alloc _ _)) (BoxAt.new W #[.int .i64 (Cal.sd us k).a.x,.int .i64 (Cal.sd us k).a.y,.int .i64 (Cal.sd us k).b.x,.int .i64 (Cal.sd us k).b.y] _) (by obtain ⟨v,h2,h3,_⟩:=BdI.o hI;exact ⟨v,h2.alloc _,fun g hg e=>by have:=(OwnL.lt h3 g hg).2;omega⟩)
 case body =>
  rintro l k Bx W hl ⟨r,hr⟩ hk hI hBx bX hX
  simp only [List.setIfInBounds_toArray,List.set_cons_zero,List.set_cons_succ]
  have hsd:=hA.sd k hk
  have hz:=BdI.size hI
  have hbl:=BdI.bel hI
  have b0:=(BdI.b hI).c 0 _ rfl
  have hIz:=Lib.hid (BdI.avoid2 hI hX)
  have bXz:=Lib.hid bX
  clear hI bX hX
  gi_wp2_with (refine ⟨trivial,?_⟩;gi_at_call 86;refine (callsIn_wide.2 (sides_any _ _ _ _)).mono ?_;rintro e w' ⟨rfl,rfl⟩)
  have hbw : Below W.heap.size W (W.alloc (.cells #[.slice Vb vs.length db] 48)):=below_alloc _ _
  have bT:=BoxAt.new W #[.slice Vb vs.length db] 48
  have hI1:=hIz.out.below hbw
  have bX1:=bXz.out.below hbw
  have hs1 : (W.alloc (.cells #[.slice Vb vs.length db] 48)).heap.size = W.heap.size + 1:=by simp
  have hr1 : (W.alloc (.cells #[.slice Vb vs.length db] 48)).heap[l]? = some (.loop r):=(hbw.block l (Array.getElem?_eq_some_iff.1 hr).1).trans hr
  obtain ⟨W1,hW1⟩ : ∃ W1,W.alloc (.cells #[.slice Vb vs.length db] 48) = W1:=⟨_,rfl⟩
  rw [hW1] at bT hI1 hs1 hr1 hbw bX1 ⊢
  clear hW1
  replace hs1 : W.heap.size + 1 ≤ W1.heap.size:=Nat.le_of_eq hs1.symm
  obtain ⟨s,hs⟩ : ∃ s,Cal.sd us k = s:=⟨_,rfl⟩
  rw [hs] at bX1 hsd ⊢
  have hs:=Lib.hid hs
  obtain ⟨out,hout⟩ : ∃ out,bdTo us vs k = out:=⟨_,rfl⟩
  have hI1:=hI1
  rw [hout] at hI1
  have hout:=Lib.hid hout
  refine wpIn_sides1N hr1 (Bs:=W.heap.size) (n₀:=w.heap.size) (V:=Vb) (d:=db) (ps:=vs) (by omega) rfl rfl (bT.c 0 _ rfl) (by omega) (hB.below hI1.bel) (by omega) hB.own
   (BdJ2 w Vb db W0.heap.size (w.heap.size + 1 + 1) Bx W1.heap.size W.heap.size W out s vs) (fun _ _ _=>False) (bdJ2_own w Vb db _ _ _ _ _ W out s vs _ (by omega) (by omega) (by omega)) (fun _=>no_own _)
   ⟨by rw [bdIn_zero,List.append_nil];exact hI1,bX1,Rd.below hbw (by omega) (by omega),Nat.le_refl _⟩
   (fun T j t By=>((T.setIfInBounds 18 (.int .i64 (j : Int))).setIfInBounds 19 (.agg #[.int .i64 t.a.x,.int .i64 t.a.y,.int .i64 t.b.x,.int .i64 t.b.y])).setIfInBounds 9 (.pointer (some ⟨By,0,none⟩)))
   ?assign2 ?body2 ?done2 ?stop2
  case assign2 =>
   rintro l2 j Y K hj ⟨hI2,bX2,hR2,hz2⟩ hK
   gi_wp2
   exact hK Y.heap.size _ (by omega) ((KeepsOthers.alloc _ _).from _) (KpS.below (below_alloc _ _) (by omega) (by omega)) ⟨hI2.below (below_alloc _ _),bX2.alloc _,hR2.trans (Rd.below (below_alloc _ _) (by omega) (by omega)),by simp;omega⟩ (BoxAt.new Y #[.int .i64 (Cal.sd vs j).a.x,.int .i64 (Cal.sd vs j).a.y,.int .i64 (Cal.sd vs j).b.x,.int .i64 (Cal.sd vs j).b.y] _)
  case body2 =>
   rintro l2 j By Y hl2 ⟨r2,hr2⟩ hj ⟨hI2,bX2,hR2,hz2⟩ hBy bY
   simp only [List.setIfInBounds_toArray,List.set_cons_zero,List.set_cons_succ]
   have hse:=hB.sd j hj
   have e0:=bX2.c 0 _ rfl
   have e1:=bX2.c 1 _ rfl
   have e2:=bX2.c 2 _ rfl
   have e3:=bX2.c 3 _ rfl
   have g0:=bY.c 0 _ rfl
   have g1:=bY.c 1 _ rfl
   have g2:=bY.c 2 _ rfl
   have g3:=bY.c 3 _ rfl
   obtain ⟨t,htt⟩ : ∃ t,Cal.sd vs j = t:=⟨_,rfl⟩
   rw [htt] at g0 g1 g2 g3 hse ⊢
   obtain ⟨⟨x,c⟩,hcm⟩ : ∃ xc,comT s t = xc:=⟨_,rfl⟩
   have hcs:=comT_eq s t
   rw [hcm] at hcs
   have hcm:=Lib.hid hcm
   have hall:=Lib.hid (And.intro hI2 (And.intro bX2 hR2))
   clear hI2 bX2 hR2 bY
   cases c
   ·have hno : Hid (bdIn s vs (j + 1) = bdIn s vs j):=bdIn_no hj (by rw [htt,hcs];rfl)
    clear hcs htt
    gi_wp2_with (refine ⟨trivial,?_⟩;gi_at_call 87;refine (callsIn_wide.2 (common_any s t _ hsd hse)).mono ?_;rintro e wn ⟨rfl,hbn⟩;rw [hcm.out])
    obtain ⟨hI2,bX2,hR2⟩:=hall.out
    have hb9:=below_step hbn (below_alloc wn (.cells #[.int .i64 x.a.x,.int .i64 x.a.y,.int .i64 x.b.x,.int .i64 x.b.y] 97))
    have hz4:=hb9.size
    refine ⟨(keepsF_below hb9).from _,KpS.below hb9 (by omega) (by omega),by rw [hno.out];exact hI2.below hb9,bX2.below hb9,hR2.trans (Rd.below hb9 (by omega) (by omega)),by omega⟩
   ·have hyes : Hid (bdIn s vs (j + 1) = bdIn s vs j ++ [x]):=bdIn_yes hj (by rw [htt,hcs];rfl)
    clear hcs htt
    obtain ⟨v,hv,ho,hnb⟩:=hall.out.1.o
    have hlen : ((out ++ bdIn s vs j).map sdR).length ≤ 4000:=by
     rw [List.length_map,List.length_append]
     have h1:=bdIn_len s vs j
     have h2:=bdTo_len us vs k
     have h3 : us.length * vs.length ≤ 40 * 40:=Nat.mul_le_mul hla hlb
     rw [hout.out] at h2
     omega
    replace hlen:=Lib.hid hlen
    replace hv:=Lib.hid hv
    replace ho:=Lib.hid ho
    replace hnb:=Lib.hid hnb
    gi_wp2_with (first
     |(refine ⟨trivial,?_⟩;gi_at_call 87;refine (callsIn_wide.2 (common_any s t _ hsd hse)).mono ?_;rintro e wn ⟨rfl,hbn⟩;rw [hcm.out];have hb9:=Lib.hid hbn;clear hbn e0 e1 e2 e3 g0 g1 g2 g3;have hv1:=Lib.hid (hv.out.below hb9.out);have ho1:=Lib.hid (OwnL.below ho.out hb9.out);have r0:=hv1.out.c 0 _ rfl;have hvl:=hv1.out.lt;have n0 : ¬ w.heap.size + 1 = wn.heap.size:=(by omega);have hbA:=Lib.hid (below_step (below_alloc wn (.cells #[.int .i64 x.a.x,.int .i64 x.a.y,.int .i64 x.b.x,.int .i64 x.b.y] 97)) (below_alloc (wn.alloc (.cells #[.int .i64 x.a.x,.int .i64 x.a.y,.int .i64 x.b.x,.int .i64 x.b.y] 97)) (.cells #[.int .i64 x.a.x,.int .i64 x.a.y,.int .i64 x.b.x,.int .i64 x.b.y] 97)));have ho3:=Lib.hid (OwnL.below ho1.out hbA.out);have hsrc : Hid (RowsAt ((wn.alloc (.cells #[.int .i64 x.a.x,.int .i64 x.a.y,.int .i64 x.b.x,.int .i64 x.b.y] 97)).alloc (.cells #[.int .i64 x.a.x,.int .i64 x.a.y,.int .i64 x.b.x,.int .i64 x.b.y] 97)) (some ⟨wn.heap.size + 1,0,none⟩) 4 ([x].map sdR)):=(by have h:=rowsAt_new (wn.alloc (.cells #[.int .i64 x.a.x,.int .i64 x.a.y,.int .i64 x.b.x,.int .i64 x.b.y] 97)) (sdR x) 97;rw [World.size_alloc] at h;exact h);have hYn:=hbA.out.size)
     |(gi_at_builtin;go_loud (refine wpListF_append_rows elemSg rfl _ _ rfl rfl rfl ho3.out (rows2:=[x].map sdR) hsrc.out rfl (sdR_wid [x]) (sdR_one [x]) (Nat.le_trans (Nat.add_le_add hlen.out (Nat.le_of_eq (show ([x].map sdR).length = 1 from rfl))) (by decide)) (by decide) (Nat.le_trans (BdI.size hall.out.1) (Nat.le_trans hb9.out.size hYn)) ?_;intro v' w5 hown5 hg5 hob5;obtain ⟨A5,c5,hv'',_⟩:=OwnL.form hown5;subst hv'';have hA5:=Lib.hid hown5;have hG5:=Lib.hid hg5;have hO5:=Lib.hid hob5;have hv5:=Lib.hid ((hv1.out.below hbA.out).grown hg5 (fun e=>by have:=(OwnL.lt ho3.out _ e.symm).1;omega));clear hown5 hg5 hob5;have q2:=hv5.out.c 0 _ rfl;have q3:=hv5.out.free 0 Nat.zero_lt_one)))
    obtain ⟨hI2,bX2,hR2⟩:=hall.out
    have hzY:=BdI.size hI2
    have hb9z:=hb9.out.size
    have hbAz:=hbA.out.size
    have hown:=fun g e=>OwnL.lt ho3.out g e
    have hneW : some W.heap.size ≠ v.ownBlock:=fun e=>hnb.out _ e.symm (by simp)
    have hneX : some Bx ≠ v.ownBlock:=fun e=>hnb.out _ e.symm (by simp)
    have hne0 : some w.heap.size ≠ v.ownBlock:=fun e=>by have:=(hown _ e.symm).1;omega
    have hneS : some (w.heap.size + 1 + 1) ≠ v.ownBlock:=fun e=>by have:=(hown _ e.symm).1;omega
    have hYA:=hb9.out.trans (hbA.out.mono hb9z)
    have hB5 : Below w.heap.size Y w5:=(hYA.mono (by omega)).grown hG5.out (by omega) (fun g e=>by have:=(hown g e).1;omega)
    have hKO:=fun u=>(((keepsF_below hb9.out).trans (keepsF_below hbA.out)).trans (OwnL.keepsF ho3.out hG5.out)).trans (KeepsOthers.setCell w5 ⟨w.heap.size + 1,0,none⟩ u)
    have hblk : ∀ b,b < Y.heap.size → some b ≠ v.ownBlock → w5.heap[b]? = Y.heap[b]?:=fun b hb hne=>(hG5.out.block b (by omega) hne).trans (hYA.block b hb)
    have hz5:=hG5.out.size
    refine ⟨(hKO _).from _,⟨hB5.setCell (p:=⟨w.heap.size + 1,0,none⟩) (Nat.le_succ _) _,(Below.heap_setCell w5 ⟨w.heap.size + 1,0,none⟩ _ W.heap.size (show W.heap.size ≠ w.heap.size + 1 by omega)).trans (hblk _ (by omega) hneW)⟩,?_,(bX2.ofBlock (hblk _ bX2.lt hneX) (by omega)).off 0 _ (by omega),hR2.trans ⟨(hKO _).from _,hB5.setCell (p:=⟨w.heap.size + 1,0,none⟩) (Nat.le_succ _) _,(Below.heap_setCell w5 ⟨w.heap.size + 1,0,none⟩ _ (w.heap.size + 1 + 1) (show w.heap.size + 1 + 1 ≠ w.heap.size + 1 by omega)).trans (hblk _ (by omega) hneS)⟩,by rw [World.size_setCell];omega⟩
    refine ⟨(hI2.b.ofBlock (hblk _ (by omega) hne0) (by omega)).off 0 _ (by omega),⟨_,hv5.out.set 0 _ Nat.zero_lt_one,?_,fun g hg hm=>?_⟩,hI2.bel.trans (hB5.setCell (p:=⟨w.heap.size + 1,0,none⟩) (Nat.le_succ _) _),Nat.le_refl _,by rw [World.size_setCell];omega⟩
    ·rw [hyes.out,← List.append_assoc,List.map_append]
     have hA9:=hA5.out
     have hl : (List.map sdR (out ++ bdIn s vs j) ++ List.map sdR [x]).length = out.length + ((bdIn s vs j).length + 1):=by simp [Nat.add_assoc]
     rw [hl] at hA9
     exact OwnL.offF (B':=w.heap.size + 1) hA9 0 _ (show w.heap.size + 1 < w.heap.size + 3 by omega)
    ·have hO:=hO5.out
     simp only [List.length_append,List.length_map,List.length_cons,List.length_nil,Nat.zero_add,Nat.add_assoc] at hO
     rcases hO with e | e
     ·rw [e] at hg;exact hnb.out g hg hm
     ·rw [hg] at e
      have e:=Option.some.inj e
      simp only [World.size_alloc] at e
      have hBx1:=bX2.lt
      simp only [List.mem_cons,List.not_mem_nil,or_false] at hm
      rcases hm with hm | hm <;> omega
  case done2 =>
   rintro Y ⟨hI2,bX2,hR2,hz2⟩
   gi_wp2
   refine ⟨hR2.keeps,hR2.kp,?_⟩
   have h:=hI2.any
   rw [← hout.out,← hs.out,← bdTo_succ hk] at h
   exact h
  case stop2 =>
   rintro c j Y hj h0
   exact h0.elim
 case done =>
  rintro D W hD hI hK
  obtain ⟨v,hv,ho,_⟩:=hI.o
  have r0:=hv.c 0 _ rfl
  have hAll:=Lib.hid (And.intro hI.bel (And.intro ho hK))
  clear hI hv ho hK
  gi_wp2
  obtain ⟨hB,ho,hK⟩:=hAll.out
  have ho' : Others W (some D):=fun r e=>by cases e;exact ⟨_,hK,rfl⟩
  refine ⟨by simp,.inl ⟨_,_,rfl,run_takeDeferred hK,?_⟩⟩
  exact ⟨_,results_tmp (t:=4) rfl _ _ _,v,rfl,by rw [← bdTo_all];exact (OwnL.keptF ho (grownBy_putObj' W D (.deferred none)) ho').less (by omega),belowF_put hB (by omega) _⟩
 case stop =>
  rintro D c k W hD hk h0
  exact h0.elim
end Go.Proofs.Ytfcjeejhdklkdaa
namespace Go.Proofs.Ytfcjeejhdklkdaa
open Go Go.RowKit Go.Shelf
attribute [local go_sem] Oper.semAt_some
structure PA where
 V : Option Addr
 d : Nat
 ps : List Pt
def PA.v (p : PA) : Value:=.slice p.V p.ps.length p.d
def firstE : List PA → Int
 | []=>0
 | p :: r=>if Cal.polyE p.ps = 0 then firstE r else Cal.polyE p.ps
theorem firstE_cons (p : PA) (r : List PA) : firstE (p :: r) = if Cal.polyE p.ps = 0 then firstE r else Cal.polyE p.ps:=rfl
theorem checkAll_any (b o c : Nat) (L : List PA) (w : World) (hL : ∀ k p,L[k]? = some p → w.cell? ⟨b,o + k,none⟩ = some p.v) (hP : ∀ p ∈ L,PtsR w p.V p.ps) (hl : L.length ≤ 1000000) (hb : b < w.heap.size) :
  Calls Try.prog 60 #[.slice (some ⟨b,o,none⟩) L.length c] w fun e w'=>e = .returned (.int .i64 (firstE L)) ∧ Below w.heap.size w w':=by
 replace hL:=Lib.hid hL
 replace hP:=Lib.hid hP
 have hB0 : Hid (Below w.heap.size w w):=Below.refl _ _
 have hE0 : Hid (firstE L = firstE (L.drop 0)):=rfl
 go_enter Try.func60,Try.ntmps60
 go_wp2_with fail
 go_loopw [8] (fun i wr=>∃ k : Nat,k ≤ L.length ∧ i = .int .i64 k ∧ Hid (firstE L = firstE (L.drop k)) ∧ Hid (Below w.heap.size w wr)) (fun i _=>L.length - (intOf i).toNat)
 case atStart=>exact ⟨0,Nat.zero_le _,rfl,hE0,hB0⟩
 case round =>
  clear hE0 hB0
  obtain ⟨k,hk,rfl,hE,hB⟩:=hrel
  by_cases hlt : k < L.length
  ·have hk' : L[k]? = some L[k]:=List.getElem?_eq_getElem hlt
   have c0:=(hB.out.cell (p:=⟨b,o + k,none⟩) hb).trans (hL.out k _ hk')
   have hp:=hP.out L[k] (List.getElem_mem hlt)
   have hd : L.drop k = L[k] :: L.drop (k + 1):=List.drop_eq_getElem_cons hlt
   have hE1:=hE.out
   rw [hd,firstE_cons] at hE1
   replace hE1:=Lib.hid hE1
   clear hd hk' hE
   generalize L[k] = p at *
   obtain ⟨V,d,ps⟩:=p
   unfold PA.v at c0
   dsimp only at c0 hp hE1
   have hp2:=Lib.hid (hp.below hB.out)
   clear hp
   by_cases h0 : Cal.polyE ps = 0
   ·have hE2 : Hid (firstE L = firstE (L.drop (k + 1))):=by show _ = _;rw [hE1.out,if_pos h0]
    replace h0:=Lib.hid h0
    go_wp2_with (refine (CheckPolygon_any V d ps _ hp2.out).mono ?_;rintro e wn ⟨rfl,hbn⟩;rw [h0.out];have hB2:=Lib.hid (below_step hB.out hbn);clear hbn)
    go_roundw
    case rel=>exact ⟨k + 1,by omega,by go_num,hE2,hB2⟩
    case measure=>simp [intOf];omega
   ·have hE2 : Hid (firstE L = Cal.polyE ps):=by show _ = _;rw [hE1.out,if_neg h0]
    obtain ⟨v,hv⟩ : ∃ v,Cal.polyE ps = v:=⟨_,rfl⟩
    rw [hv] at h0 hE2
    have hv:=Lib.hid hv
    go_wp2_with (refine (CheckPolygon_any V d ps _ hp2.out).mono ?_;rintro e wn ⟨rfl,hbn⟩;rw [hv.out];have hB2:=Lib.hid (below_step hB.out hbn);clear hbn)
    go_ret
    exact ⟨by rw [hE2.out];rfl,hB2.out⟩
  ·obtain rfl : k = L.length:=by omega
   go_wp2_with fail
   go_ret
   exact ⟨by rw [hE.out,List.drop_length];rfl,hB.out⟩
def brdE (us vs : List Pt) : Int:=firstE [⟨none,0,us⟩,⟨none,0,vs⟩]
theorem brdE_eq (us vs : List Pt) : brdE us vs = if Cal.polyE us = 0 then Cal.polyE vs else Cal.polyE us:=by
 unfold brdE
 rw [firstE_cons,firstE_cons]
 split
 ·split
  ·rename_i h;rw [h];rfl
  ·rfl
 ·rfl
end Go.Proofs.Ytfcjeejhdklkdaa
namespace Go.Proofs.Ytfcjeejhdklkdaa
open Go Go.RowKit Go.Shelf
attribute [local go_sem] Oper.semAt_some
def bordE (us vs : List Pt) : Int:=if brdE us vs = 0 then (if Cal.overlapP us vs = true then 13 else 0) else brdE us vs
def bordL (E : Int) (us vs : List Pt) : List Sd:=if E = 0 then Cal.borderP us vs else []
theorem Border_any (Va Vb : Option Addr) (da db : Nat) (us vs : List Pt) (w : World) (hA : PtsR w Va us) (hB : PtsR w Vb vs) (hla : Cal.polyE us = 0 → us.length ≤ 10) (hlb : Cal.polyE vs = 0 → vs.length ≤ 10) :
  Calls Try.prog 27 #[.slice Va us.length da,.slice Vb vs.length db] w fun e w'=>∃ v,e = .returned (.tuple #[v,.int .i64 (bordE us vs)]) ∧ OwnL w' w.heap.size 97 4 v ((bordL (bordE us vs) us vs).map sdR) ∧ Below w.heap.size w w':=by
 obtain ⟨E,hE⟩ : ∃ E,bordE us vs = E:=⟨_,rfl⟩
 rw [hE]
 have hb1 : Below w.heap.size w (w.alloc (.cells #[.slice Va us.length da,.slice Vb vs.length db] 48)):=below_alloc _ _
 have hx:=BoxAt.new w #[.slice Va us.length da,.slice Vb vs.length db] 48
 have hck:=Lib.hid (checkAll_any w.heap.size 0 2 [⟨Va,da,us⟩,⟨Vb,db,vs⟩] _ (fun k p hp=>by
  match k,hp with
  | 0,hp=>cases hp;exact hx.c 0 _ rfl
  | 1,hp=>cases hp;exact hx.c 1 _ rfl) (fun p hp=>by
  rcases List.mem_cons.1 hp with e | hp
  ·rw [e];exact hA.below hb1
  ·rw [List.mem_singleton.1 hp];exact hB.below hb1) (by simp) hx.lt)
 have hfe : Hid (firstE [⟨Va,da,us⟩,⟨Vb,db,vs⟩] = brdE us vs):=rfl
 replace hb1:=Lib.hid hb1
 clear hx
 replace hA:=Lib.hid hA
 replace hB:=Lib.hid hB
 by_cases h0 : brdE us vs = 0
 ·have hp:=brdE_eq us vs
  rw [h0] at hp
  have hu : Cal.polyE us = 0:=by
   split at hp
   ·assumption
   ·rename_i h;exact absurd hp.symm h
  have hv : Cal.polyE vs = 0:=by rw [if_pos hu] at hp;exact hp.symm
  have hPa:=Lib.hid (hA.out.plg hu (hla hu))
  have hPb:=Lib.hid (hB.out.plg hv (hlb hv))
  clear hp hu hv
  obtain ⟨c,hc⟩ : ∃ c,Cal.overlapP us vs = c:=⟨_,rfl⟩
  have hR : Hid (E = if c = true then 13 else 0):=by show _ = _;rw [← hE];unfold bordE;rw [if_pos h0,hc]
  clear hE
  replace h0:=Lib.hid h0
  replace hc:=Lib.hid hc
  cases c
  ·go_enter Try.func27,Try.ntmps27
   go_wp2_with (first
    |(go_at_call 60;refine hck.out.mono ?_;rintro e wn ⟨rfl,hbn⟩;rw [hfe.out,h0.out];have hb2:=Lib.hid (below_step hb1.out hbn);clear hbn)
    |(go_at_call 61;refine (overlap_any Va Vb da db us vs _ (hPa.out.below hb2.out) (hPb.out.below hb2.out)).mono ?_;rintro e wm ⟨rfl,hbn⟩;rw [hc.out];have hb3:=Lib.hid (below_step hb2.out hbn);clear hbn)
    |(go_at_call 62;refine (border_any Va Vb da db us vs _ (hPa.out.below hb3.out).v.pts (hPb.out.below hb3.out).v.pts (by have:=hPa.out.len;omega) (by have:=hPb.out.len;omega)).mono ?_;rintro e wk ⟨v,rfl,ho,hbn⟩;have hb4:=Lib.hid (below_step hb3.out hbn);replace ho:=Lib.hid ho;clear hbn))
   go_ret2
   exact ⟨v,by rw [hR.out];rfl,by rw [hR.out];exact ho.out.less hb3.out.size,hb4.out⟩
  ·go_enter Try.func27,Try.ntmps27
   go_wp2_with (first
    |(go_at_call 60;refine hck.out.mono ?_;rintro e wn ⟨rfl,hbn⟩;rw [hfe.out,h0.out];have hb2:=Lib.hid (below_step hb1.out hbn);clear hbn)
    |(go_at_call 61;refine (overlap_any Va Vb da db us vs _ (hPa.out.below hb2.out) (hPb.out.below hb2.out)).mono ?_;rintro e wm ⟨rfl,hbn⟩;rw [hc.out];have hb3:=Lib.hid (below_step hb2.out hbn);clear hbn))
   go_ret2
   exact ⟨_,by rw [hR.out];rfl,by rw [hR.out];exact OwnL.nil _ _ _ _,hb3.out⟩
 ·have hR : Hid (E = brdE us vs):=by show _ = _;rw [← hE];unfold bordE;rw [if_neg h0]
  clear hE
  obtain ⟨v,hv⟩ : ∃ v,brdE us vs = v:=⟨_,rfl⟩
  rw [hv] at h0 hR hfe
  have h1:=Lib.hid h0
  go_enter Try.func27,Try.ntmps27
  go_wp2_with (go_at_call 60;refine hck.out.mono ?_;rintro e wn ⟨rfl,hbn⟩;rw [hfe.out];have hb2:=Lib.hid (below_step hb1.out hbn);clear hbn)
  go_ret2
  exact ⟨_,by rw [hR.out];rfl,by rw [hR.out];unfold bordL;rw [if_neg h1.out];exact OwnL.nil _ _ _ _,hb2.out⟩
end Go.Proofs.Ytfcjeejhdklkdaa
namespace Go.Proofs.Ytfcjeejhdklkdaa
open Go Go.RowKit Go.Shelf
theorem ex_heights : Cal.netE 3 (triLevs 2) = 0 ∧ (Cal.heightsP 2 (triLevs 2)).length = 3 ∧ (Cal.heightsP 2 (triLevs 2))[1]? = some (512,5):=by decide +kernel
theorem ex_bord : bordE (Cal.boxP 0 0 50 100) (Cal.boxP 50 0 100 50) = 0:=by decide +kernel
theorem ex_bord2 : (Cal.borderP (Cal.boxP 0 0 50 100) (Cal.boxP 50 0 100 50)).map sdR = [[.int .i64 50,.int .i64 0,.int .i64 50,.int .i64 50]]:=by kernel_rfl
theorem lawAwake_any (w : World) : Calls Try.prog 20 #[] w fun e w'=>e = .returned (.bool true) ∧ Below w.heap.size w w':=by
 have hgap:=Lib.hid (fun A1 A2 A3 S W (h : SctR W (fieldS A1 A2 A3 S))=>by
  have:=Gap_any (fieldS A1 A2 A3 S) W h
  rw [field_zero,field_gap] at this
  exact this)
 have hhts:=Lib.hid (fun A c W (h : Levs W A (triLevs 2))=>by
  have:=Heights_any 3 A c (triLevs 2) W h
  rw [ex_heights.1,if_pos rfl] at this
  exact this)
 have hbor:=Lib.hid (fun A B c d W (h : PtsR W A (Cal.boxP 0 0 50 100)) (h2 : PtsR W B (Cal.boxP 50 0 100 50))=>by
  have:=Border_any A B c d _ _ W h h2 (fun _=>by decide) (fun _=>by decide)
  rw [ex_bord] at this
  unfold bordL at this
  rw [if_pos rfl,ex_bord2] at this
  exact this)
 go_enter Try.func20,Try.ntmps20
 go_wp2_with fail
 refine (Field_any _).mono ?_
 rintro e w1 ⟨A1,A2,A3,S,rfl,hS1,hb1⟩
 have hS1:=Lib.hid hS1
 have hb1:=Lib.hid hb1
 go_wp2_with fail
 refine (hgap.out A1 A2 A3 S _ hS1.out).mono ?_
 rintro e w2 ⟨rfl,hb2⟩
 have hb2:=Lib.hid (below_step hb1.out hb2)
 clear hS1 hgap hb1
 go_wp2_with fail
 refine (lawTri_any _ _).mono ?_
 rintro e w3 ⟨A4,rfl,hL,hb3⟩
 have hL:=Lib.hid hL
 have hb3:=Lib.hid (below_step hb2.out hb3)
 go_wp2_with fail
 refine (hhts.out A4 3 _ hL.out).mono ?_
 rintro e w4 ⟨v4,rfl,ho4,hb4⟩
 obtain ⟨A5,c5,rfl,hr5⟩:=ho4.form
 have hr5:=Lib.hid hr5
 have hb4:=Lib.hid (below_step hb3.out hb4)
 rw [List.length_map,show (Cal.heightsP ((3 : Int).toNat - 1) (triLevs 2)).length = 3 from ex_heights.2.1]
 clear hL hhts hb2 hb3 ho4
 go_wp2_with fail
 refine (lawBox_any _ _ _ _ _).mono ?_
 rintro e w5 ⟨B1,rfl,_,hp1,hb5⟩
 have hp1:=Lib.hid hp1
 have hr5:=Lib.hid (hr5.out.below hb5)
 have hb5:=Lib.hid (below_step hb4.out hb5)
 go_wp2_with fail
 refine (lawBox_any _ _ _ _ _).mono ?_
 rintro e w6 ⟨B2,rfl,_,hp2,hb6⟩
 have hp2:=Lib.hid hp2
 have hp1:=Lib.hid (hp1.out.below hb6)
 have hr5:=Lib.hid (hr5.out.below hb6)
 have hb6:=Lib.hid (below_step hb5.out hb6)
 go_wp2_with fail
 refine (hbor.out _ _ _ _ _ hp1.out hp2.out).mono ?_
 rintro e w7 ⟨v7,rfl,ho7,hb7⟩
 obtain ⟨A7,c7,rfl,hr7⟩:=ho7.form
 obtain ⟨b7,o7,rfl,hl7,hc7⟩:=hr7 0 _ rfl
 have d0 : w7.cell? ⟨b7,o7,none⟩ = some (.int .i64 50):=hc7 0 _ rfl
 have d1 : w7.cell? ⟨b7,o7 + 1,none⟩ = some (.int .i64 0):=by have this:=hc7 1 _ rfl;rw [Nat.zero_mul,Nat.zero_add] at this;exact this
 have d2 : w7.cell? ⟨b7,o7 + 2,none⟩ = some (.int .i64 50):=by have this:=hc7 2 _ rfl;rw [Nat.zero_mul,Nat.zero_add] at this;exact this
 have d3 : w7.cell? ⟨b7,o7 + 3,none⟩ = some (.int .i64 50):=by have this:=hc7 3 _ rfl;rw [Nat.zero_mul,Nat.zero_add] at this;exact this
 have hr5:=hr5.out.below hb7
 obtain ⟨b5,o5,rfl,hl5,hc5⟩:=hr5 1 (frR (512,5)) (by rw [List.getElem?_map,show (Cal.heightsP ((3 : Int).toNat - 1) (triLevs 2))[1]? = some (512,5) from ex_heights.2.2];rfl)
 have e0 : w7.cell? ⟨b5,o5 + 2,none⟩ = some (.int .i64 512):=hc5 0 _ rfl
 have e1 : w7.cell? ⟨b5,o5 + 3,none⟩ = some (.int .i64 5):=hc5 1 _ rfl
 have hb7:=Lib.hid (below_step hb6.out hb7)
 clear hp1 hp2 hbor hb4 hb5 hb6 hr5 hr7 hc7 hc5 ho7
 go_wp2_with fail
 go_ret
 exact ⟨rfl,hb7.out⟩
end Go.Proofs.Ytfcjeejhdklkdaa
namespace Go.Proofs.Ytfcjeejhdklkdaa
open Go Go.RowKit Go.Shelf
theorem few2_any (V : Option Addr) (n d : Nat) (w : World) : Calls Try.prog 26 #[.slice V n d] w fun e w'=>e = .returned (.bool (fewL n)) ∧ Below w.heap.size w w':=by
 by_cases hn : n ≤ 1000000
 ·exact few_any V n d w hn
 ·have hf : Hid (fewL n = false):=by show _ = _;unfold fewL;rw [decide_eq_false (by omega),decide_eq_false (by omega : ¬ n ≤ 60)];simp
  have hi : ¬ (n : Int) ≤ 10:=by omega
  have hi2 : (40 : Int) < n:=by omega
  have hi3 : ¬ (n : Int) ≤ 60:=by omega
  go_enter Try.func26,Try.ntmps26
  go_wp2_with fail
  go_ret
  exact ⟨by rw [hf.out];rfl,blw⟩
theorem fewL_le {n : Nat} (h : fewL n = true) : n ≤ 60:=by
 unfold fewL at h
 rw [Bool.or_eq_true,Bool.and_eq_true,decide_eq_true_iff,decide_eq_true_iff,decide_eq_true_iff] at h
 omega
theorem ptsR_of {w : World} {V : Option Addr} {ps : List Pt} (h : RowsAt w V 2 (ps.map ptR)) (hl : ps.length ≤ 1000000) : PtsR w V ps :=
 ⟨h,hl,fun ad e h0=>by
  obtain ⟨b,o,hA,hb,_⟩:=h 0 (ptR ps[0]) (by simp [h0])
  rw [e] at hA
  cases hA
  exact hb⟩
end Go.Proofs.Ytfcjeejhdklkdaa
namespace Go.Proofs.Ytfcjeejhdklkdaa
open Go Go.RowKit Go.Shelf
theorem GapR_any (s : Sct) (w : World) (hS : SctR w s) (h0 : (sectE s.name s.ps s.l).2.2 = 0) :
  Calls Try.prog 40 #[.agg #[.string s.name,.slice s.V s.ps.length s.d,.slice s.S s.l.length s.e]] w fun e w'=>e = .returned (.int .i64 (Cal.areaP s.ps - sumA s.l)) ∧ Below w.heap.size w w':=by
 have hI : Hid (GpI w s (w.alloc (.cells #[.string s.name,.slice s.V s.ps.length s.d,.slice s.S s.l.length s.e] 62))):=⟨BoxAt.new w #[.string s.name,.slice s.V s.ps.length s.d,.slice s.S s.l.length s.e] 62,below_alloc _ _⟩
 have hsz:=hS.plots.size
 have hz:=sectE_zero h0
 have hC:=hS.pts.plg hz.2.1 (few_ok hS.few hz.2.1)
 have hCb:=area_box hC.v.pts hC.len
 have hPl : Hid (∀ p ∈ s.l,Plg w p.V p.ps ∧ -20000000000000 ≤ Cal.areaP p.ps ∧ Cal.areaP p.ps ≤ 20000000000000):=fun p hp=>by
  obtain ⟨k,hk,rfl⟩:=List.getElem_of_mem hp
  have h3:=(plotE_zero (hz.2.2.2 k hk)).2.2.1
  have hq:=(hS.plots.pts _ hp).plg h3 (few_ok (hS.fews _ hp) h3)
  exact ⟨hq,area_box hq.v.pts hq.len⟩
 have hl60:=hz.2.2.1
 obtain ⟨A,hA⟩ : ∃ A,Cal.areaP s.ps = A:=⟨_,rfl⟩
 rw [hA] at hCb ⊢
 replace hA:=Lib.hid hA
 replace hC:=Lib.hid hC
 have hrows:=Lib.hid hS.plots.rows
 clear hz hS h0
 obtain ⟨nm,V,d,ps,S,e,l⟩:=s
 dsimp only at *
 have hS0 : Hid ((0 : Int) = sumA (l.take 0)):=rfl
 (have a0:=hI.out.a.c 0 _ rfl;have a1:=hI.out.a.c 1 _ rfl;have a2:=hI.out.a.c 2 _ rfl)
 go_enter Try.func40,Try.ntmps40
 go_wp2_with (go_at_call 35;clear a0 a1 a2;refine (DoubleR_any V d ps _ (hC.out.below hI.out.bel).v.pts (by have:=hC.out.len;omega)).mono ?_;rintro e0 wm ⟨rfl,hbn⟩;rw [hA.out];replace hI:=Lib.hid (hI.out.below hbn);clear hbn;(have a0:=hI.out.a.c 0 _ rfl;have a1:=hI.out.a.c 1 _ rfl;have a2:=hI.out.a.c 2 _ rfl))
 clear a0 a1 a2
 go_loopw [3,4] (fun v i wr=>∃ (k : Nat) (z : Int),k ≤ l.length ∧ i = .int .i64 k ∧ v = .int .i64 (A - z) ∧ Hid (z = sumA (l.take k)) ∧ Hid (GpI w _ wr)) (fun _ i _=>l.length - (intOf i).toNat)
 case atStart=>exact ⟨0,0,Nat.zero_le _,rfl,by go_num,hS0,hI⟩
 case round =>
  clear hS0 hI
  obtain ⟨k,z,hk,rfl,rfl,hz,hI⟩:=hrel
  (have a0:=hI.out.a.c 0 _ rfl;have a1:=hI.out.a.c 1 _ rfl;have a2:=hI.out.a.c 2 _ rfl)
  by_cases hlt : k < l.length
  ·have hk' : l[k]? = some l[k]:=List.getElem?_eq_getElem hlt
   have hst:=sumA_take hlt
   have hp:=hPl.out _ (List.getElem_mem hlt)
   have hb1 : ∀ m,-(20000000000000 * 60) ≤ sumA (l.take m) ∧ sumA (l.take m) ≤ 20000000000000 * 60:=fun m=>by
    have:=sumA_box (l:=l.take m) (fun p hp=>(hPl.out p (List.mem_of_mem_take hp)).2)
    rw [List.length_take] at this
    omega
   have hz1:=hb1 k
   rw [← hz.out] at hz1 hst
   clear hb1
   generalize l[k] = p at *
   obtain ⟨b,o,rfl,hbl,c0,c1⟩:=plo_at (hrows.out.below hI.out.bel) hk'
   obtain ⟨g,hg⟩ : ∃ g,Cal.areaP p.ps = g:=⟨_,rfl⟩
   have hPp:=Lib.hid hp.1
   have hgb:=hp.2
   rw [hg] at hgb hst
   replace hg:=Lib.hid hg
   have hz2 : Hid (z + g = sumA (l.take (k + 1))):=hst.symm
   clear hst hp hk' hz
   go_wp2_with (go_at_call 35;clear a0 a1 a2;refine (DoubleR_any p.V p.d p.ps _ (hPp.out.below hI.out.bel).v.pts (by have:=hPp.out.len;omega)).mono ?_;rintro e0 wm ⟨rfl,hbn⟩;rw [hg.out];replace hI:=Lib.hid (hI.out.below hbn);clear hbn)
   go_roundw
   case rel=>exact ⟨k + 1,z + g,by omega,by go_num,by go_num,hz2,hI⟩
   case measure=>simp [intOf];omega
  ·obtain rfl : k = l.length:=by omega
   replace hz : Hid (z = sumA l):=by show _ = _;rw [hz.out,List.take_length]
   go_wp2_with fail
   go_ret
   exact ⟨by rw [← hz.out];rfl,hI.out.bel⟩
structure SmallF (s : Sct) : Prop where
 name : s.name.size ≤ 30
 few : fewL s.ps.length = true
 plots : s.l.length ≤ 4 ∨ 60 < s.l.length ∧ s.l.length ≤ 70
 each : ∀ p ∈ s.l,p.name.size ≤ 30 ∧ fewL p.ps.length = true
def SmallQ (s : Sct) (w : World) (e : Ending) (w' : World) : Prop:=∃ b,e = .returned (.bool b) ∧ (b = true → SmallF s) ∧ Below w.heap.size w w'
theorem Small_any (s : Sct) (w : World) (hR : RowsAt w s.S 2 (s.l.map Plo.cells)) :
  Calls Try.prog 36 #[.agg #[.string s.name,.slice s.V s.ps.length s.d,.slice s.S s.l.length s.e]] w fun e w'=>SmallQ s w e w':=by
 have hI : Hid (GpI w s (w.alloc (.cells #[.string s.name,.slice s.V s.ps.length s.d,.slice s.S s.l.length s.e] 62))):=⟨BoxAt.new w #[.string s.name,.slice s.V s.ps.length s.d,.slice s.S s.l.length s.e] 62,below_alloc _ _⟩
 have hrows:=Lib.hid hR
 clear hR
 obtain ⟨nm,V,d,ps,S,e,l⟩:=s
 dsimp only at *
 have hf:=Lib.hid (fun W=>few2_any V ps.length d W)
 (have a0:=hI.out.a.c 0 _ rfl;have a1:=hI.out.a.c 1 _ rfl;have a2:=hI.out.a.c 2 _ rfl)
 by_cases z1 : 30 < (nm.size : Int)
 ·go_enter Try.func36,Try.ntmps36
  go_wp2_with fail
  go_ret
  exact ⟨false,rfl,fun h=>(by cases h),hI.out.bel⟩
 cases hx : fewL ps.length
 ·rw [hx] at hf
  go_enter Try.func36,Try.ntmps36
  go_wp2_with (go_at_call 26;clear a0 a1 a2;refine (hf.out _).mono ?_;rintro e0 wm ⟨rfl,hbn⟩;replace hI:=Lib.hid (hI.out.below hbn);clear hbn;(have a0:=hI.out.a.c 0 _ rfl;have a1:=hI.out.a.c 1 _ rfl;have a2:=hI.out.a.c 2 _ rfl))
  go_ret
  exact ⟨false,rfl,fun h=>(by cases h),hI.out.bel⟩
 rw [hx] at hf
 have hf0:=Lib.hid hx
 clear hx
 by_cases z2 : 4 < (l.length : Int)
 ·by_cases z3 : (l.length : Int) ≤ 60
  ·go_enter Try.func36,Try.ntmps36
   go_wp2_with (go_at_call 26;clear a0 a1 a2;refine (hf.out _).mono ?_;rintro e0 wm ⟨rfl,hbn⟩;replace hI:=Lib.hid (hI.out.below hbn);clear hbn;(have a0:=hI.out.a.c 0 _ rfl;have a1:=hI.out.a.c 1 _ rfl;have a2:=hI.out.a.c 2 _ rfl))
   go_ret
   exact ⟨false,rfl,fun h=>(by cases h),hI.out.bel⟩
  ·by_cases z4 : 70 < (l.length : Int)
   ·go_enter Try.func36,Try.ntmps36
    go_wp2_with (go_at_call 26;clear a0 a1 a2;refine (hf.out _).mono ?_;rintro e0 wm ⟨rfl,hbn⟩;replace hI:=Lib.hid (hI.out.below hbn);clear hbn;(have a0:=hI.out.a.c 0 _ rfl;have a1:=hI.out.a.c 1 _ rfl;have a2:=hI.out.a.c 2 _ rfl))
    go_ret
    exact ⟨false,rfl,fun h=>(by cases h),hI.out.bel⟩
   ·have hpl : Hid (l.length ≤ 4 ∨ 60 < l.length ∧ l.length ≤ 70):=Or.inr ⟨by omega,by omega⟩
    have z5 : l.length ≤ 70:=by omega
    go_enter Try.func36,Try.ntmps36
    go_wp2_with (go_at_call 26;clear a0 a1 a2;refine (hf.out _).mono ?_;rintro e0 wm ⟨rfl,hbn⟩;replace hI:=Lib.hid (hI.out.below hbn);clear hbn;(have a0:=hI.out.a.c 0 _ rfl;have a1:=hI.out.a.c 1 _ rfl;have a2:=hI.out.a.c 2 _ rfl))
    clear a0 a1 a2
    go_loopw [3] (fun i wr=>∃ k : Nat,k ≤ l.length ∧ i = .int .i64 k ∧ Hid (∀ j (h : j < l.length),j < k → l[j].name.size ≤ 30 ∧ fewL l[j].ps.length = true) ∧ Hid (GpI w _ wr)) (fun i _=>l.length - (intOf i).toNat)
    case atStart=>exact ⟨0,Nat.zero_le _,rfl,fun j h h'=>absurd h' (Nat.not_lt_zero _),hI⟩
    case round =>
     clear hI
     obtain ⟨k,hk,rfl,hdone,hI⟩:=hrel
     (have a0:=hI.out.a.c 0 _ rfl;have a1:=hI.out.a.c 1 _ rfl;have a2:=hI.out.a.c 2 _ rfl)
     by_cases hlt : k < l.length
     ·have hk' : l[k]? = some l[k]:=List.getElem?_eq_getElem hlt
      have hnext:=Lib.hid (fun (h1 : l[k].name.size ≤ 30 ∧ fewL l[k].ps.length = true) j (h : j < l.length) (h2 : j < k + 1)=>show l[j].name.size ≤ 30 ∧ fewL l[j].ps.length = true by
       rcases Nat.lt_succ_iff_lt_or_eq.1 h2 with h3 | h3
       ·exact hdone.out j h h3
       ·subst h3;exact h1)
      have hkk : (k : Int) < (l.length : Int):=by omega
      generalize l[k] = p at *
      obtain ⟨b,o,rfl,hbl,c0,c1⟩:=plo_at (hrows.out.below hI.out.bel) hk'
      have hf2:=Lib.hid (fun W=>few2_any p.V p.ps.length p.d W)
      by_cases z1 : p.name.size ≤ 30
      ·have z2 : ¬ 30 < (p.name.size : Int):=by omega
       cases hx : fewL p.ps.length
       ·rw [hx] at hf2
        clear hk' hnext
        go_wp2_with (go_at_call 26;clear a0 a1 a2;refine (hf2.out _).mono ?_;rintro e0 wm ⟨rfl,hbn⟩;replace hI:=Lib.hid (hI.out.below hbn);clear hbn)
        go_ret
        exact ⟨false,rfl,fun h=>(by cases h),hI.out.bel⟩
       ·rw [hx] at hf2
        have hnx:=Lib.hid (hnext.out ⟨z1,hx⟩)
        clear hk' hnext
        go_wp2_with (go_at_call 26;clear a0 a1 a2;refine (hf2.out _).mono ?_;rintro e0 wm ⟨rfl,hbn⟩;replace hI:=Lib.hid (hI.out.below hbn);clear hbn)
        go_roundw
        case rel=>exact ⟨k + 1,by omega,by go_num,hnx,hI⟩
        case measure=>simp [intOf];omega
      ·have z2 : 30 < (p.name.size : Int):=by omega
       clear hk' hnext
       go_wp2_with fail
       go_ret
       exact ⟨false,rfl,fun h=>(by cases h),hI.out.bel⟩
     ·obtain rfl : k = l.length:=by omega
      go_wp2_with fail
      go_ret
      refine ⟨true,?_,fun _=>?_,hI.out.bel⟩
      ·rfl
      exact ⟨by show nm.size ≤ 30;omega,hf0.out,hpl.out,fun p hp=>by
       obtain ⟨j,hj,rfl⟩:=List.getElem_of_mem hp
       exact hdone.out j hj hj⟩
 ·have hpl : Hid (l.length ≤ 4 ∨ 60 < l.length ∧ l.length ≤ 70):=Or.inl (by omega)
  have z4 : ¬ 70 < (l.length : Int):=by omega
  have z5 : l.length ≤ 70:=by omega
  go_enter Try.func36,Try.ntmps36
  go_wp2_with (go_at_call 26;clear a0 a1 a2;refine (hf.out _).mono ?_;rintro e0 wm ⟨rfl,hbn⟩;replace hI:=Lib.hid (hI.out.below hbn);clear hbn;(have a0:=hI.out.a.c 0 _ rfl;have a1:=hI.out.a.c 1 _ rfl;have a2:=hI.out.a.c 2 _ rfl))
  clear a0 a1 a2
  go_loopw [3] (fun i wr=>∃ k : Nat,k ≤ l.length ∧ i = .int .i64 k ∧ Hid (∀ j (h : j < l.length),j < k → l[j].name.size ≤ 30 ∧ fewL l[j].ps.length = true) ∧ Hid (GpI w _ wr)) (fun i _=>l.length - (intOf i).toNat)
  case atStart=>exact ⟨0,Nat.zero_le _,rfl,fun j h h'=>absurd h' (Nat.not_lt_zero _),hI⟩
  case round =>
   clear hI
   obtain ⟨k,hk,rfl,hdone,hI⟩:=hrel
   (have a0:=hI.out.a.c 0 _ rfl;have a1:=hI.out.a.c 1 _ rfl;have a2:=hI.out.a.c 2 _ rfl)
   by_cases hlt : k < l.length
   ·have hk' : l[k]? = some l[k]:=List.getElem?_eq_getElem hlt
    have hnext:=Lib.hid (fun (h1 : l[k].name.size ≤ 30 ∧ fewL l[k].ps.length = true) j (h : j < l.length) (h2 : j < k + 1)=>show l[j].name.size ≤ 30 ∧ fewL l[j].ps.length = true by
     rcases Nat.lt_succ_iff_lt_or_eq.1 h2 with h3 | h3
     ·exact hdone.out j h h3
     ·subst h3;exact h1)
    have hkk : (k : Int) < (l.length : Int):=by omega
    generalize l[k] = p at *
    obtain ⟨b,o,rfl,hbl,c0,c1⟩:=plo_at (hrows.out.below hI.out.bel) hk'
    have hf2:=Lib.hid (fun W=>few2_any p.V p.ps.length p.d W)
    by_cases z1 : p.name.size ≤ 30
    ·have z2 : ¬ 30 < (p.name.size : Int):=by omega
     cases hx : fewL p.ps.length
     ·rw [hx] at hf2
      clear hk' hnext
      go_wp2_with (go_at_call 26;clear a0 a1 a2;refine (hf2.out _).mono ?_;rintro e0 wm ⟨rfl,hbn⟩;replace hI:=Lib.hid (hI.out.below hbn);clear hbn)
      go_ret
      exact ⟨false,rfl,fun h=>(by cases h),hI.out.bel⟩
     ·rw [hx] at hf2
      have hnx:=Lib.hid (hnext.out ⟨z1,hx⟩)
      clear hk' hnext
      go_wp2_with (go_at_call 26;clear a0 a1 a2;refine (hf2.out _).mono ?_;rintro e0 wm ⟨rfl,hbn⟩;replace hI:=Lib.hid (hI.out.below hbn);clear hbn)
      go_roundw
      case rel=>exact ⟨k + 1,by omega,by go_num,hnx,hI⟩
      case measure=>simp [intOf];omega
    ·have z2 : 30 < (p.name.size : Int):=by omega
     clear hk' hnext
     go_wp2_with fail
     go_ret
     exact ⟨false,rfl,fun h=>(by cases h),hI.out.bel⟩
   ·obtain rfl : k = l.length:=by omega
    go_wp2_with fail
    go_ret
    refine ⟨true,?_,fun _=>?_,hI.out.bel⟩
    ·rfl
    exact ⟨by show nm.size ≤ 30;omega,hf0.out,hpl.out,fun p hp=>by
     obtain ⟨j,hj,rfl⟩:=List.getElem_of_mem hp
     exact hdone.out j hj hj⟩
end Go.Proofs.Ytfcjeejhdklkdaa
namespace Go.Proofs.Ytfcjeejhdklkdaa
namespace Geo
abbrev PL:=List (Nat × (Nat → RP))
def windS (q : RP) : PL → Int
 | []=>0
 | p :: l=>wind p.1 p.2 q + windS q l
def areaS : PL → Rat
 | []=>0
 | p :: l=>area2 p.1 p.2 + areaS l
def momS (c : Rat) : PL → Rat
 | []=>0
 | p :: l=>mom (cutsTo p.2 c p.1) + momS c l
def cutsS (c : Rat) : PL → List (Rat × Int)
 | []=>[]
 | p :: l=>negL (cutsTo p.2 c p.1) ++ cutsS c l
theorem phi_cutsS (x c : Rat) : ∀ l : PL,phi (cutsS c l) x = - windS ⟨x,c⟩ l
 | []=>rfl
 | p :: l=>by
  show phi (negL (cutsTo p.2 c p.1) ++ cutsS c l) x = -(wind p.1 p.2 ⟨x,c⟩ + windS ⟨x,c⟩ l)
  rw [phi_append,phi_neg,phi_cuts,phi_cutsS x c l];omega
theorem mom_cutsS (c : Rat) : ∀ l : PL,mom (cutsS c l) = - momS c l
 | []=>by simp only [cutsS,mom,momS];grind
 | p :: l=>by
  show mom (negL (cutsTo p.2 c p.1) ++ cutsS c l) = -(mom (cutsTo p.2 c p.1) + momS c l)
  rw [mom_append,mom_neg,mom_cutsS c l];grind
theorem tot_cutsS (c : Rat) : ∀ l : PL,(∀ p ∈ l,p.2 p.1 = p.2 0) → tot (cutsS c l) = 0
 | [],_=>rfl
 | p :: l,h=>by
  show tot (negL (cutsTo p.2 c p.1) ++ cutsS c l) = 0
  rw [tot_append,tot_neg,tot_cuts0 (h p (List.mem_cons_self ..)),tot_cutsS c l (fun q hq=>h q (List.mem_cons_of_mem _ hq))];rfl
theorem mem_cutsS {c : Rat} {x : Rat} : ∀ {l : PL},(∀ e ∈ cutsS c l,x ≠ e.1) → ∀ p ∈ l,∀ e ∈ cutsTo p.2 c p.1,x ≠ e.1
 | [],_,p,hp=>by cases hp
 | q :: l,h,p,hp=>by
  have h' : ∀ e ∈ negL (cutsTo q.2 c q.1) ++ cutsS c l,x ≠ e.1:=h
  rcases List.mem_cons.1 hp with e | hp
  ·rw [e]
   exact mem_negL.1 fun e he=>h' e (List.mem_append_left _ he)
  ·exact mem_cutsS (fun e he=>h' e (List.mem_append_right _ he)) p hp
structure Whole (M : Int) (p : Nat × (Nat → RP)) : Prop where
 per : p.2 p.1 = p.2 0
 int : ∀ i,i ≤ p.1 → ∃ y : Int,(p.2 i).y = y ∧ -M ≤ y ∧ y < M
theorem areaS_slabs {M : Int} : ∀ l : PL,(∀ p ∈ l,Whole M p) → areaS l = 2 * sumQ (fun k=>momS (slab M k) l) (2 * M).toNat
 | [],_=>by
  have z : ∀ n,sumQ (fun _=>(0 : Rat)) n = 0:=fun n=>by
   induction n with
   | zero=>rfl
   | succ n ih=>simp only [sumQ,ih];grind
  show (0 : Rat) = 2 * sumQ (fun _=>(0 : Rat)) _
  rw [z];grind
 | p :: l,h=>by
  show area2 p.1 p.2 + areaS l = 2 * sumQ (fun k=>mom (cutsTo p.2 (slab M k) p.1) + momS (slab M k) l) _
  have hp:=h p (List.mem_cons_self ..)
  rw [sumQ_add,areaS_slabs l (fun q hq=>h q (List.mem_cons_of_mem _ hq)),area_slabs hp.per hp.int]
  grind
theorem Whole.cor {M : Int} {p : Nat × (Nat → RP)} (h : Whole M p) (k : Nat) : ∀ i,i ≤ p.1 → (p.2 i).y ≠ slab M k:=fun i hi e=>by
 obtain ⟨y,ey,_,_⟩:=h.int i hi
 rw [ey] at e
 exact slab_off M y k e
def OffS (l : PL) (q : RP) : Prop:=∀ p ∈ l,Off p.1 p.2 q
theorem fit_line {M : Int} {b : Nat × (Nat → RP)} {l : PL} (hb : Whole M b) (hl : ∀ p ∈ l,Whole M p) (k : Nat) (h : ∀ q,Off b.1 b.2 q → OffS l q → windS q l ≤ wind b.1 b.2 q) :
  0 ≤ mom (cutsTo b.2 (slab M k) b.1) - momS (slab M k) l ∧ (mom (cutsTo b.2 (slab M k) b.1) - momS (slab M k) l = 0 → ∀ x,Off b.1 b.2 ⟨x,slab M k⟩ → OffS l ⟨x,slab M k⟩ → windS ⟨x,slab M k⟩ l = wind b.1 b.2 ⟨x,slab M k⟩):=by
 have ht : tot (cutsTo b.2 (slab M k) b.1 ++ cutsS (slab M k) l) = 0:=by
  rw [tot_append,tot_cuts0 hb.per,tot_cutsS _ l (fun p hp=>(hl p hp).per)];rfl
 have hphi : ∀ x,phi (cutsTo b.2 (slab M k) b.1 ++ cutsS (slab M k) l) x = wind b.1 b.2 ⟨x,slab M k⟩ - windS ⟨x,slab M k⟩ l:=fun x=>by
  rw [phi_append,phi_cuts,phi_cutsS];omega
 have hmom : mom (cutsTo b.2 (slab M k) b.1 ++ cutsS (slab M k) l) = mom (cutsTo b.2 (slab M k) b.1) - momS (slab M k) l:=by
  rw [mom_append,mom_cutsS];grind
 obtain ⟨h1,h2⟩:=line_pos ht (fun x hx=>by
  rw [hphi]
  have o1 : Off b.1 b.2 ⟨x,slab M k⟩:=off_of_cuts (hb.cor k) fun e he=>hx e (List.mem_append_left _ he)
  have o2 : OffS l ⟨x,slab M k⟩:=fun p hp=>off_of_cuts ((hl p hp).cor k) (mem_cutsS (fun e he=>hx e (List.mem_append_right _ he)) p hp)
  have:=h _ o1 o2
  omega)
 rw [hmom] at h1 h2
 refine ⟨h1,fun hz x o1 o2=>?_⟩
 have off_cut : ∀ p : Nat × (Nat → RP),Whole M p → Off p.1 p.2 ⟨x,slab M k⟩ → ∀ e ∈ cutsTo p.2 (slab M k) p.1,x ≠ e.1:=fun p hp ho e he hx=>by
  obtain ⟨i,hi,hd,rfl⟩:=mem_cuts he
  obtain ⟨t,t0,t1,et⟩:=cut_on hd (hp.cor k i (by omega)) (hp.cor k (i + 1) (by omega))
  exact ho i t hi (by grind) (by grind) (by rw [← et,hx])
 have all : ∀ l : PL,(∀ p ∈ l,Whole M p) → OffS l ⟨x,slab M k⟩ → ∀ e ∈ cutsS (slab M k) l,x ≠ e.1:=fun l=>by
  induction l with
  | nil=>intro _ _ e he;cases he
  | cons p l ih =>
   intro hl ho e he
   have he' : e ∈ negL (cutsTo p.2 (slab M k) p.1) ++ cutsS (slab M k) l:=he
   rcases List.mem_append.1 he' with h | h
   ·exact mem_negL.2 (off_cut p (hl p (List.mem_cons_self ..)) (ho p (List.mem_cons_self ..))) e h
   ·exact ih (fun q hq=>hl q (List.mem_cons_of_mem _ hq)) (fun q hq=>ho q (List.mem_cons_of_mem _ hq)) e h
 have:=h2 hz x (fun e he=>by
  rcases List.mem_append.1 he with h | h
  ·exact off_cut b hb o1 e h
  ·exact all l hl o2 e h)
 rw [hphi] at this
 omega
theorem fit_area {M : Int} {b : Nat × (Nat → RP)} {l : PL} (hb : Whole M b) (hl : ∀ p ∈ l,Whole M p) (h : ∀ q,Off b.1 b.2 q → OffS l q → windS q l ≤ wind b.1 b.2 q) :
  areaS l ≤ area2 b.1 b.2 ∧ (areaS l = area2 b.1 b.2 → ∀ k,k < (2 * M).toNat → ∀ x,Off b.1 b.2 ⟨x,slab M k⟩ → OffS l ⟨x,slab M k⟩ → windS ⟨x,slab M k⟩ l = wind b.1 b.2 ⟨x,slab M k⟩):=by
 have e1:=areaS_slabs l hl
 have e2:=area_slabs hb.per hb.int
 have hsub : sumQ (fun k=>mom (cutsTo b.2 (slab M k) b.1) - momS (slab M k) l) (2 * M).toNat = sumQ (fun k=>mom (cutsTo b.2 (slab M k) b.1)) (2 * M).toNat - sumQ (fun k=>momS (slab M k) l) (2 * M).toNat:=by
  have sub : ∀ (f g : Nat → Rat) (n : Nat),sumQ (fun k=>f k - g k) n = sumQ f n - sumQ g n:=fun f g n=>by
   induction n with
   | zero=>simp only [sumQ];grind
   | succ n ih=>simp only [sumQ,ih];grind
  exact sub _ _ _
 obtain ⟨h1,h2⟩:=sumQ_nonneg (f:=fun k=>mom (cutsTo b.2 (slab M k) b.1) - momS (slab M k) l) (n:=(2 * M).toNat) (fun k _=>(fit_line hb hl k h).1)
 rw [hsub] at h1 h2
 refine ⟨by grind,fun he k hk x o1 o2=>?_⟩
 exact (fit_line hb hl k h).2 (h2 (by grind) k hk) x o1 o2
def sclR (K : Rat) (q : RP) : RP:=⟨K * q.x,K * q.y⟩
def sclPoly (K : Rat) (P : Nat → RP) : Nat → RP:=fun i=>sclR K (P i)
section
variable {K : Rat} (hK : 0 < K)
include hK
end
end Geo
end Go.Proofs.Ytfcjeejhdklkdaa
namespace Go.Proofs.Ytfcjeejhdklkdaa
namespace Cal
open Geo (RP at' Simple Pos In Out Off wind wc Near Whole windS areaS OffS sclR sclPoly slab)
def big : Int:=100001
theorem poly_whole {ps : List Pt} (h : polyE ps = 0) : Whole big (ps.length,ring ps):=by
 obtain ⟨hp,hb,_⟩:=polyE_poly h
 have h3:=hp.three
 refine ⟨?_,fun i _=>?_⟩
 ·have:=hp.simple.per 0
  rwa [Nat.zero_add] at this
 ·refine ring_bound (fun p hp=>?_) (by omega) i
  have:=hb p hp
  unfold ptErr at this
  split at this
  ·cases this
  ·omega
def areas : List (List Pt) → Int
 | []=>0
 | p :: l=>areaP p + areas l
theorem gap_nonneg {s : List Pt} (hs : polyE s = 0) : ∀ {l : List (List Pt)},(∀ p ∈ l,polyE p = 0 ∧ Geo.Within p.length (ring p) s.length (ring s)) → l.Pairwise (fun p q=>¬ Geo.Over p.length (ring p) q.length (ring q)) → areas l ≤ areaP s:=fun {l} hl hp=>by
 have ps:=(goodP_of hs).pos
 have ws:=poly_whole hs
 have pt : ∀ (q : RP),∀ l : List (List Pt),(∀ p ∈ l,polyE p = 0) → l.Pairwise (fun p q=>¬ Geo.Over p.length (ring p) q.length (ring q)) → (∀ p ∈ l,Off p.length (ring p) q) →
   (windS q (l.map fun p=>(p.length,ring p)) = 0) ∨ (windS q (l.map fun p=>(p.length,ring p)) = 1 ∧ ∃ p ∈ l,In p.length (ring p) q):=fun q l=>by
  induction l with
  | nil=>intro _ _ _;exact Or.inl rfl
  | cons p l ih =>
   intro hl hp ho
   obtain ⟨h1,h2⟩:=List.pairwise_cons.1 hp
   have hr:=ih (fun x hx=>hl x (List.mem_cons_of_mem _ hx)) h2 (fun x hx=>ho x (List.mem_cons_of_mem _ hx))
   show (wind p.length (ring p) q + windS q (l.map fun p=>(p.length,ring p)) = 0) ∨ (wind p.length (ring p) q + windS q (l.map fun p=>(p.length,ring p)) = 1 ∧ _)
   have pp:=(goodP_of (hl p (List.mem_cons_self ..))).pos
   rcases pp.two (ho p (List.mem_cons_self ..)) with h | h
   ·right
    rw [h.2]
    rcases hr with e | ⟨e,x,hx,hin⟩
    ·rw [e];exact ⟨rfl,p,List.mem_cons_self ..,h⟩
    ·exact absurd ⟨q,h,hin⟩ (h1 x hx)
   ·rw [h.2]
    rcases hr with e | ⟨e,x,hx,hin⟩
    ·left;rw [e];rfl
    ·right;rw [e];exact ⟨rfl,x,List.mem_cons_of_mem _ hx,hin⟩
 have one:=Geo.fit_area (M:=big) (b:=(s.length,ring s)) (l:=l.map fun p=>(p.length,ring p)) ws (fun p hp=>by
  obtain ⟨x,hx,rfl⟩:=List.mem_map.1 hp
  exact poly_whole (hl x hx).1) (fun q o1 o2=>by
  have o2' : ∀ p ∈ l,Off p.length (ring p) q:=fun p hp=>o2 _ (List.mem_map.2 ⟨p,hp,rfl⟩)
  show _ ≤ wind s.length (ring s) q
  rcases pt q l (fun p hp=>(hl p hp).1) hp o2' with e | ⟨e,x,hx,hin⟩
  ·rw [e]
   rcases ps.two o1 with h | h <;> rw [h.2] <;> decide
  ·rw [e,((hl x hx).2 q hin).2];exact Int.le_refl _)
 have sum : ∀ l : List (List Pt),areaS (l.map fun p=>(p.length,ring p)) = ((areas l : Int) : Rat):=fun l=>by
  induction l with
  | nil=>rfl
  | cons p l ih =>
   show Geo.area2 p.length (ring p) + areaS (l.map fun p=>(p.length,ring p)) = ((areaP p + areas l : Int) : Rat)
   rw [ih,area2_ring,Rat.intCast_add]
 rw [sum l] at one
 have eb : Geo.area2 (s.length,ring s).1 (s.length,ring s).2 = ((areaP s : Int) : Rat):=area2_ring
 rw [eb] at one
 exact Rat.intCast_le_intCast.1 one.1
end Cal
end Go.Proofs.Ytfcjeejhdklkdaa
