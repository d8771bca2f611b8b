/- What the statements rest on: definitions and walks, part 31. -/
import Derived.Test.YthfokpchdlcidaaJ30
set_option maxRecDepth 100000
set_option maxHeartbeats 16000000
set_option linter.unusedSimpArgs false
set_option linter.unusedVariables false
namespace Go.Proofs.Ythfokpchdlcidaa
open Go Go.RowKit Go.Shelf
def fewL (n : Nat) : Bool:=decide (n ≤ 10) || (decide (40 < n) && decide (n ≤ 60))
theorem few_any (V : Option Addr) (n d : Nat) (w : World) (hn : n ≤ 1000000) : Calls Try.prog 45 #[.slice V n d] w fun e w'=>e = .returned (.bool (fewL n)) ∧ Below w.heap.size w w':=by
 have hlo : IntKind.i64.wrap (n : Int) = (n : Int):=wrap_small (by omega) (by omega)
 by_cases h1 : n ≤ 10
 ·have hf : Hid (fewL n = true):=by show _ = _;unfold fewL;rw [decide_eq_true h1];rfl
  have hi : (n : Int) ≤ 10:=by omega
  go_enter Try.func45,Try.ntmps45
  go_wp2_with fail
  go_ret
  exact ⟨by rw [hf.out];rfl,blw⟩
 ·have hi : ¬ (n : Int) ≤ 10:=by omega
  by_cases h2 : 40 < n
  ·have hi2 : (40 : Int) < n:=by omega
   by_cases h3 : n ≤ 60
   ·have hf : Hid (fewL n = true):=by show _ = _;unfold fewL;rw [decide_eq_true h2,decide_eq_true h3];simp
    have hi3 : (n : Int) ≤ 60:=by omega
    go_enter Try.func45,Try.ntmps45
    go_wp2_with fail
    go_ret
    exact ⟨by rw [hf.out];rfl,blw⟩
   ·have hf : Hid (fewL n = false):=by show _ = _;unfold fewL;rw [decide_eq_false h1,decide_eq_false h3];simp
    have hi3 : ¬ (n : Int) ≤ 60:=by omega
    go_enter Try.func45,Try.ntmps45
    go_wp2_with fail
    go_ret
    exact ⟨by rw [hf.out];rfl,blw⟩
  ·have hf : Hid (fewL n = false):=by show _ = _;unfold fewL;rw [decide_eq_false h1,decide_eq_false h2];simp
   have hi2 : ¬ (40 : Int) < n:=by omega
   go_enter Try.func45,Try.ntmps45
   go_wp2_with fail
   go_ret
   exact ⟨by rw [hf.out];rfl,blw⟩
theorem inPl_err (q : Pt) : inPl q = true ↔ Cal.ptErr q = 0:=by
 unfold inPl inR Cal.ptErr
 simp only [Bool.and_eq_true,decide_eq_true_eq]
 constructor
 ·intro h;rw [if_neg (by omega)]
 ·intro h
  split at h
  ·cases h
  ·omega
theorem ptErr_two {q : Pt} (h : Cal.ptErr q ≠ 0) : Cal.ptErr q = 2:=by
 unfold Cal.ptErr at h ⊢
 split
 ·rfl
 ·rename_i h1;rw [if_neg h1] at h;exact absurd rfl h
theorem ptsErr_first : ∀ (ps : List Pt) (k : Nat) (hk : k < ps.length),(∀ j (hj : j < k),Cal.ptErr (ps[j]'(Nat.lt_trans hj hk)) = 0) → Cal.ptErr ps[k] ≠ 0 → Cal.ptsErr ps = 2
 | q :: r,0,_,_,h=>by
  have h : Cal.ptErr q ≠ 0:=h
  unfold Cal.ptsErr
  rw [if_neg h]
  exact ptErr_two h
 | q :: r,k + 1,hk,hb,h=>by
  have h0 : Cal.ptErr q = 0:=hb 0 (Nat.succ_pos k)
  unfold Cal.ptsErr
  rw [if_pos h0]
  exact ptsErr_first r k (by simpa using hk) (fun j hj=>hb (j + 1) (by omega)) h
theorem ptsErr_all : ∀ (ps : List Pt),(∀ k (hk : k < ps.length),Cal.ptErr ps[k] = 0) → Cal.ptsErr ps = 0
 | [],_=>rfl
 | q :: r,h=>by
  have h0 : Cal.ptErr q = 0:=h 0 (by simp)
  unfold Cal.ptsErr
  rw [if_pos h0]
  exact ptsErr_all r (fun k hk=>h (k + 1) (by simpa using hk))
theorem twiceP_of : ∀ (l s : List Pt),(∀ p ∈ s,p ∉ l) → l.Nodup → Cal.twiceP s l = false
 | [],_,_,_=>rfl
 | q :: r,s,hs,hn=>by
  unfold Cal.twiceP
  rw [List.nodup_cons] at hn
  rw [Bool.or_eq_false_iff]
  constructor
  ·rw [List.any_eq_false]
   intro p hp he
   have : q = p:=ptB_iff.1 he
   exact hs p hp (this ▸ List.mem_cons_self)
  ·refine twiceP_of r (q :: s) (fun p hp=>?_) hn.2
   rcases List.mem_cons.1 hp with rfl | hp
   ·exact hn.1
   ·exact fun hm=>hs p hp (List.mem_cons_of_mem _ hm)
theorem twiceP_pairs {ps : List Pt} (h : ∀ i (hi : i < ps.length) k (hk : k < i),ps[k]'(Nat.lt_trans hk hi) ≠ ps[i]) : Cal.twiceP [] ps = false:=by
 refine twiceP_of ps [] (fun p hp=>by cases hp) ?_
 rw [List.nodup_iff_pairwise_ne,List.pairwise_iff_getElem]
 exact fun i j hi hj hij=>h j hj i hij
theorem twiceP_hit {ps : List Pt} {i k : Nat} (hi : i < ps.length) (hk : k < i) (he : ps[k]'(Nat.lt_trans hk hi) = ps[i]) : Cal.twiceP [] ps = true:=by
 cases h : Cal.twiceP [] ps
 ·have hn:=(twiceP_get ps [] h).2
  rw [List.nodup_iff_pairwise_ne,List.pairwise_iff_getElem] at hn
  exact absurd he (hn k i _ hi hk)
 ·rfl
end Go.Proofs.Ythfokpchdlcidaa
namespace Go.Proofs.Ythfokpchdlcidaa
open Go Go.RowKit Go.Shelf
theorem storeZ {P : Program} {ops : Array Oper} {Q : Exit → Act → World → Prop} {md : Region.Mode} {S : World → Prop} {y : Nat} (i : Nat) {op : Oper} {fuel : Nat} {listed : Array Bool} {a : Act} {w : World} (ty : TypeId) (e f : Operand) (b o : Nat) (cells : Array Value)
  (hr : Region.ready md ops listed = [i]) (ho : ops[i]? = some op) (hst : op.op = .store ty e f) (hl : (listed.setIfInBounds i true).getD y true = true) (hw : Region.wanted op (yielded ops a.tmps) = true)
  (hx : a.eval e = .pointer (some ⟨b,o,none⟩)) (hy : a.eval f = .agg cells) (ht : w.there b o cells.size) (hi : (P.info? ty).map (·.size) = some cells.size) (h1 : cells.all (·.oneCell') = true)
  (h : wpAnyHY P md ops Q S y fuel (listed.setIfInBounds i true) (a.put op.dst undef) (w.setCells b o cells.toList)) : wpAnyHY P md ops Q S y (fuel + 1) listed a w :=
 ratZc i hr ho hl (fun K hK=>by
  rw [if_pos hw]
  exact wp_store_mid ty e f hst b o cells hx hy ht hi h1 (hK.out _ _ h))
theorem sideR_any (V : Option Addr) (d : Nat) (ps : List Pt) (k : Nat) (w : World) (hP : PtsR w V ps) (hk : k < ps.length) (hl : ps.length ≤ 100000) : Calls Try.prog 68 #[.slice V ps.length d,.int .i64 k] w fun e w'=>e = .returned (.agg #[.int .i64 (Cal.sd ps k).a.x,.int .i64 (Cal.sd ps k).a.y,.int .i64 (Cal.sd ps k).b.x,.int .i64 (Cal.sd ps k).b.y]) ∧ Below w.heap.size w w':=by
 obtain ⟨q,hq⟩ : ∃ q,q = (k + 1) % ps.length:=⟨_,rfl⟩
 have hqlt : q < ps.length:=by rw [hq];exact Nat.mod_lt _ (by omega)
 have hq1 : ((k : Int) + 1).tmod (ps.length : Int) = (q : Int):=by rw [hq];rfl
 have hk1 : IntKind.i64.wrap ((k : Int) + 1) = (k : Int) + 1:=wrap_small (by omega) (by omega)
 have hq2 : IntKind.i64.wrap (q : Int) = (q : Int):=wrap_small (by omega) (by omega)
 have hne : ¬ ps.length = 0:=by omega
 have hsd : Cal.sd ps k = ⟨ps[k],ps[q]⟩:=by
  unfold Cal.sd
  rw [← hq,List.getElem?_eq_getElem hk,List.getElem?_eq_getElem hqlt]
  rfl
 rw [hsd]
 have hPr:=hP.rows.below (below_alloc w (.cells #[.int .i64 0,.int .i64 0,.int .i64 0,.int .i64 0] 72))
 obtain ⟨b,o,rfl,hbl,e0,e1⟩:=pts_at hPr (List.getElem?_eq_getElem hk)
 obtain ⟨b',o',hA,_,e2,e3⟩:=pts_at hPr (List.getElem?_eq_getElem hqlt)
 cases hA
 generalize ps[k] = pa at *
 generalize ps[q] = pc at *
 have hki : (k : Int) < (ps.length : Int):=by omega
 have hqi : (q : Int) < (ps.length : Int):=by omega
 have hz:=Lib.hid (BoxAt.new w #[.int .i64 0,.int .i64 0,.int .i64 0,.int .i64 0] 72)
 have hb:=Lib.hid (below_alloc w (.cells #[.int .i64 0,.int .i64 0,.int .i64 0,.int .i64 0] 72))
 clear hP hPr hq hsd
 go_enter Try.func68,Try.ntmps68
 go_wp2_with fail
 generalize hW1 : w.alloc (.cells #[.int .i64 0,.int .i64 0,.int .i64 0,.int .i64 0] 72) = W1 at *
 clear hW1
 have hzd:=Lib.hid (hz.out.below (Below.refl _ _).drew)
 have hbd:=Lib.hid hb.out.drew
 refine wp_region_heldZ (S:=Sx W1 [(b,o + k * 2,.int .i64 pa.x),(b,o + k * 2 + 1,.int .i64 pa.y),(b,o + q * 2,.int .i64 pc.x),(b,o + q * 2 + 1,.int .i64 pc.y)]) 13 (by kernel_rfl) (Sx.mk (by simp only [cs_iff_cons];exact ⟨e0,e1,e2,e3,cs_nil _⟩) (Below.refl _ _)).drew (fun hHeld=>?_)
 refine tkZx 0 5 ?_
 refine tkZx 1 6 ?_
 refine tkZx 2 7 ?_
 refine tkZx 3 8 ?_
 refine tkZx 4 9 ?_
 refine tkZx 5 10 ?_
 refine tkZx 6 11 ?_
 refine tkZx 7 12 ?_
 refine tkZx 8 13 ?_
 refine tkZx 9 14 ?_
 refine tkZx 10 15 ?_
 refine tkZx 11 16 ?_
 refine tkZx 12 17 ?_
 (try simp only [apS,apN,siA,scZ,scS])
 refine storeZ 13 72 (.tmp 4) (.tmp 17) w.heap.size 0 #[.int .i64 pa.x,.int .i64 pa.y,.int .i64 pc.x,.int .i64 pc.y] (by decide +kernel) (by exact rfl) (by exact rfl) (by decide +kernel) (by kernel_rfl) (by rfl) (by rfl) (by exact hzd.out.there) sgSize (by kernel_rfl) ?_
 (try simp only [apS,apN,siA,scZ,scS])
 refine wpAnyHY_done (by decide +kernel) ?_ _
 have h5:=Lib.hid (hzd.out.put [.int .i64 pa.x,.int .i64 pa.y,.int .i64 pc.x,.int .i64 pc.y] rfl)
 have hb5:=Lib.hid (below_of_grownB hbd.out (grown_setCells w.heap.size [.int .i64 pa.x,.int .i64 pa.y,.int .i64 pc.x,.int .i64 pc.y] 0 W1.drew) (Nat.le_refl _))
 go_wp2_with fail
 (try simp only [Exit.inBlock,Exit.then])
 refine bodyPost_ret (results_mid1 rfl _ _ w.heap.size [.int .i64 pa.x,.int .i64 pa.y,.int .i64 pc.x,.int .i64 pc.y] _ rfl h5.out.range Try.underlying72 rfl sgSize) rfl ⟨rfl,hb5.out⟩
end Go.Proofs.Ythfokpchdlcidaa
namespace Go.Proofs.Ythfokpchdlcidaa
open Go Go.RowKit Go.Shelf
theorem storeH {P : Program} {ops : Array Oper} {Q : Exit → Act → World → Prop} {md : Region.Mode} {S : World → Prop} (i : Nat) {op : Oper} {fuel : Nat} {listed : Array Bool} {a : Act} {w : World} (ty : TypeId) (e f : Operand) (b o : Nat) (cells : Array Value)
  (hr : Region.ready md ops listed = [i]) (ho : ops[i]? = some op) (hst : op.op = .store ty e f) (hw : Region.wanted op (yielded ops a.tmps) = true)
  (hx : a.eval e = .pointer (some ⟨b,o,none⟩)) (hy : a.eval f = .agg cells) (ht : w.there b o cells.size) (hi : (P.info? ty).map (·.size) = some cells.size) (h1 : cells.all (·.oneCell') = true)
  (hS : S (w.setCells b o cells.toList)) (h : S (w.setCells b o cells.toList) → wpAnyH P md ops Q S fuel (listed.setIfInBounds i true) (a.put op.dst undef) (w.setCells b o cells.toList)) : wpAnyH P md ops Q S (fuel + 1) listed a w :=
 wpAnyH_ready (rs:=[i]) hr (by simp) (AllReadyH.cons ho (fun K hK=>by
  rw [if_pos hw]
  exact wp_store_mid ty e f hst b o cells hx hy ht hi h1 (hK.out _ _ hS h)) AllReadyH.nil)
theorem BoxAt.asideC {W : World} {B b : Nat} {cs vs : List Value} (h : BoxAt W B cs) (hne : B ≠ b) : BoxAt (W.setCells b 0 vs) B cs :=
 h.grown (grown_setCells b vs 0 W) (fun e=>hne (by cases e;rfl))
theorem newBox {w W : World} {cs : Array Value} {t : TypeId} (_ : Sx w [] (W.alloc (.cells cs t))) : BoxAt (W.alloc (.cells cs t)) W.heap.size cs.toList:=BoxAt.new W cs t
theorem oldBox {w W : World} {o : Obj} {B : Nat} {cs : List Value} (_ : Sx w [] (W.alloc o)) (h : BoxAt W B cs) : BoxAt (W.alloc o) B cs:=h.alloc o
theorem ltBox {w W : World} {o : Obj} (h : Sx w [] W) (_ : Sx w [] (W.alloc o)) : w.heap.size ≤ W.heap.size:=h.bel.size
theorem storeP {P : Program} {ops : Array Oper} {Q : Exit → Act → World → Prop} {md : Region.Mode} {w W : World} {L : List (Nat × Nat × Value)} (i : Nat) (ty : TypeId) (e f : Operand) (b : Nat) {cs : List Value} (vs : List Value) {b1 b2 : Nat} {c1 c2 : List Value} {op : Oper} {fuel : Nat} {listed l' : Array Bool} {a a' : Act}
  (hb : w.heap.size ≤ b) (hL : ∀ x ∈ L,x.1 < w.heap.size) (hS : Sx w L W) (x : Hid (BoxAt W b cs)) (hl : vs.length = cs.length) (y1 : Hid (BoxAt W b1 c1)) (n1 : b1 ≠ b) (y2 : Hid (BoxAt W b2 c2)) (n2 : b2 ≠ b)
  (h : ∀ W',Sx w L W' → Hid (BoxAt W' b vs) → Hid (BoxAt W' b1 c1) → Hid (BoxAt W' b2 c2) → wpAnyH P md ops Q (Sx w L) fuel l' a' W')
  (ho : ops[i]? = some op:=by exact rfl) (hst : op.op = .store ty e f:=by exact rfl) (hr : Region.ready md ops listed = [i]:=by decide +kernel) (hw : Region.wanted op (yielded ops a.tmps) = true:=by kernel_rfl)
  (hx : a.eval e = .pointer (some ⟨b,0,none⟩):=by rfl) (hy : a.eval f = .agg vs.toArray:=by rfl) (hi : (P.info? ty).map (·.size) = some vs.toArray.size:=by kernel_rfl) (h1 : vs.toArray.all (·.oneCell') = true:=by kernel_rfl)
  (ha : a.put op.dst undef = a':=by ((try simp only [Act.put,List.setIfInBounds_toArray,List.set_cons_zero,List.set_cons_succ]);exact rfl))
  (hl' : listed.setIfInBounds i true = l':=by ((try simp only [List.setIfInBounds_toArray,List.set_cons_zero,List.set_cons_succ]);exact rfl)) : wpAnyH P md ops Q (Sx w L) (fuel + 1) listed a W:=by
 have hS2 : Sx w L (W.setCells b 0 vs):=⟨fun x hx=>(World.cell?_of_block (a:=⟨x.1,x.2.1,none⟩) ((grown_setCells b vs 0 W).block x.1 (Nat.lt_of_lt_of_le (hL x hx) hS.bel.size) (fun e=>by have:=hL x hx;have:=Option.some.inj e;omega))).trans (hS.cs x hx),below_of_grownB hS.bel (grown_setCells b vs 0 W) hb⟩
 refine storeH i ty e f b 0 vs.toArray hr ho hst hw hx hy ?_ hi h1 hS2 (fun h2=>?_)
 ·have:=x.out.there
  rw [← hl] at this
  exact this
 ·rw [ha,hl']
  exact h _ h2 (x.out.put vs hl) (y1.out.asideC n1) (y2.out.asideC n2)
end Go.Proofs.Ythfokpchdlcidaa
namespace Go.Proofs.Ythfokpchdlcidaa
open Go Go.RowKit Go.Shelf
theorem crossesR_any (s t : Sd) (w : World) (hs : SmS s) (ht : SmS t) : Calls Try.prog 72 #[.agg #[.int .i64 s.a.x,.int .i64 s.a.y,.int .i64 s.b.x,.int .i64 s.b.y],.agg #[.int .i64 t.a.x,.int .i64 t.a.y,.int .i64 t.b.x,.int .i64 t.b.y]] w fun e w'=>e = .returned (.bool (Cal.crosS s t)) ∧ Below w.heap.size w w':=by
 obtain ⟨b0,b1,b2,b3,b4,b5⟩:=trn_box s t.a t.b
 obtain ⟨d0,d1,d2,d3,d4,d5⟩:=trn_box t s.a s.b
 have w1 : IntKind.i64.wrap (Cal.trn s t.a * Cal.trn s t.b) = Cal.trn s t.a * Cal.trn s t.b:=wrap_small (by omega) (by omega)
 have w2 : IntKind.i64.wrap (Cal.trn t s.a * Cal.trn t s.b) = Cal.trn t s.a * Cal.trn t s.b:=wrap_small (by omega) (by omega)
 clear b0 b1 b2 b3 b4 b5 d0 d1 d2 d3 d4 d5
 have g1:=Lib.hid (fun W=>crossR_any s.a s.b t.a W hs.a hs.b ht.a)
 have g2:=Lib.hid (fun W=>crossR_any s.a s.b t.b W hs.a hs.b ht.b)
 have g3:=Lib.hid (fun W=>crossR_any t.a t.b s.a W ht.a ht.b hs.a)
 have g4:=Lib.hid (fun W=>crossR_any t.a t.b s.b W ht.a ht.b hs.b)
 have k1 : Hid (∀ W,Calls Try.prog 92 #[.int .i64 (Cal.crs ⟨s.a,s.b⟩ t.a)] W fun e w'=>e = .returned (.int .i64 (Cal.trn s t.a)) ∧ Below W.heap.size W w'):=fun W=>signR_any _ W
 have k2 : Hid (∀ W,Calls Try.prog 92 #[.int .i64 (Cal.crs ⟨s.a,s.b⟩ t.b)] W fun e w'=>e = .returned (.int .i64 (Cal.trn s t.b)) ∧ Below W.heap.size W w'):=fun W=>signR_any _ W
 have k3 : Hid (∀ W,Calls Try.prog 92 #[.int .i64 (Cal.crs ⟨t.a,t.b⟩ s.a)] W fun e w'=>e = .returned (.int .i64 (Cal.trn t s.a)) ∧ Below W.heap.size W w'):=fun W=>signR_any _ W
 have k4 : Hid (∀ W,Calls Try.prog 92 #[.int .i64 (Cal.crs ⟨t.a,t.b⟩ s.b)] W fun e w'=>e = .returned (.int .i64 (Cal.trn t s.b)) ∧ Below W.heap.size W w'):=fun W=>signR_any _ W
 by_cases h : Cal.trn s t.a * Cal.trn s t.b < 0
 ·have hf : Hid (Cal.crosS s t = decide (Cal.trn t s.a * Cal.trn t s.b < 0)):=by show _ = _;unfold Cal.crosS;rw [decide_eq_true h,Bool.true_and]
  have hd:=decide_eq_true h
  go_enter Try.func72,Try.ntmps72
  go_wp2_with fail
  refine wp_region_held_drew (S:=Sx w [(w.heap.size,0,.int .i64 s.a.x),(w.heap.size,1,.int .i64 s.a.y),(w.heap.size,2,.int .i64 s.b.x),(w.heap.size,3,.int .i64 s.b.y),(w.heap.size + 1,0,.int .i64 t.a.x),(w.heap.size + 1,1,.int .i64 t.a.y),(w.heap.size + 1,2,.int .i64 t.b.x),(w.heap.size + 1,3,.int .i64 t.b.y)]) (by kernel_rfl) ⟨by simp [cs_iff_cons,cs_nil],blw⟩ (fun hHeld=>?_)
  refine tkHx 0 5 ?_
  refine tkHx 1 6 ?_
  refine tkHx 2 7 ?_
  refine tkHx 3 8 ?_
  refine tkHx 4 9 ?_
  refine tkHx 5 10 ?_
  refine tkHx 8 13 ?_
  refine tkHx 9 14 ?_
  refine tkHx 10 15 ?_
  refine tkHx 11 16 ?_
  refine tkHx 12 17 ?_
  refine tkHx 13 18 ?_
  (refine ratHx 6 (fun K hK=>?_);go_simp)
  refine (g1.out _).mono ?_
  rintro e wn ⟨rfl,hbn⟩
  go_simp
  (refine hK.out _ _ (hHeld.step hbn) (fun hHeld=>?_);clear hK K;(try simp only [apS,apN,siA,scZ,scS]))
  (refine ratHx 7 (fun K hK=>?_);go_simp)
  refine (k1.out _).mono ?_
  rintro e wn ⟨rfl,hbn⟩
  go_simp
  (refine hK.out _ _ (hHeld.step hbn) (fun hHeld=>?_);clear hK K;(try simp only [apS,apN,siA,scZ,scS]))
  (refine ratHx 14 (fun K hK=>?_);go_simp)
  refine (g2.out _).mono ?_
  rintro e wn ⟨rfl,hbn⟩
  go_simp
  (refine hK.out _ _ (hHeld.step hbn) (fun hHeld=>?_);clear hK K;(try simp only [apS,apN,siA,scZ,scS]))
  (refine ratHx 15 (fun K hK=>?_);go_simp)
  refine (k2.out _).mono ?_
  rintro e wn ⟨rfl,hbn⟩
  go_simp
  (refine hK.out _ _ (hHeld.step hbn) (fun hHeld=>?_);clear hK K;(try simp only [apS,apN,siA,scZ,scS]))
  refine tkHx 16 21 ?_
  refine tkHx 17 22 ?_
  refine tkHx 18 23 ?_
  refine tkHx 19 24 ?_
  refine tkHx 20 25 ?_
  refine tkHx 21 26 ?_
  refine tkHx 22 27 ?_
  refine tkHx 23 28 ?_
  refine tkHx 24 29 ?_
  refine tkHx 27 32 ?_
  refine tkHx 28 33 ?_
  refine tkHx 29 34 ?_
  refine tkHx 30 35 ?_
  refine tkHx 31 36 ?_
  refine tkHx 32 37 ?_
  (refine ratHx 25 (fun K hK=>?_);go_simp)
  refine (g3.out _).mono ?_
  rintro e wn ⟨rfl,hbn⟩
  go_simp
  (refine hK.out _ _ (hHeld.step hbn) (fun hHeld=>?_);clear hK K;(try simp only [apS,apN,siA,scZ,scS]))
  (refine ratHx 26 (fun K hK=>?_);go_simp)
  refine (k3.out _).mono ?_
  rintro e wn ⟨rfl,hbn⟩
  go_simp
  (refine hK.out _ _ (hHeld.step hbn) (fun hHeld=>?_);clear hK K;(try simp only [apS,apN,siA,scZ,scS]))
  (refine ratHx 33 (fun K hK=>?_);go_simp)
  refine (g4.out _).mono ?_
  rintro e wn ⟨rfl,hbn⟩
  go_simp
  (refine hK.out _ _ (hHeld.step hbn) (fun hHeld=>?_);clear hK K;(try simp only [apS,apN,siA,scZ,scS]))
  (refine ratHx 34 (fun K hK=>?_);go_simp)
  refine (k4.out _).mono ?_
  rintro e wn ⟨rfl,hbn⟩
  go_simp
  (refine hK.out _ _ (hHeld.step hbn) (fun hHeld=>?_);clear hK K;(try simp only [apS,apN,siA,scZ,scS]))
  refine tkHx 35 40 ?_
  refine tkHx 36 41 ?_
  refine tkHx 37 42 ?_
  refine tkHx 38 4 ?_
  refine wpAnyH_done (by kernel_rfl) ?_ _
  go_wp2_with fail
  go_ret
  exact ⟨ret_bool hf.out.symm,hHeld.bel⟩
 ·have hf : Hid (Cal.crosS s t = false):=by show _ = _;unfold Cal.crosS;rw [decide_eq_false h,Bool.false_and]
  have hd:=decide_eq_false h
  go_enter Try.func72,Try.ntmps72
  go_wp2_with fail
  refine wp_region_held_drew (S:=Sx w [(w.heap.size,0,.int .i64 s.a.x),(w.heap.size,1,.int .i64 s.a.y),(w.heap.size,2,.int .i64 s.b.x),(w.heap.size,3,.int .i64 s.b.y),(w.heap.size + 1,0,.int .i64 t.a.x),(w.heap.size + 1,1,.int .i64 t.a.y),(w.heap.size + 1,2,.int .i64 t.b.x),(w.heap.size + 1,3,.int .i64 t.b.y)]) (by kernel_rfl) ⟨by simp [cs_iff_cons,cs_nil],blw⟩ (fun hHeld=>?_)
  refine tkHx 0 5 ?_
  refine tkHx 1 6 ?_
  refine tkHx 2 7 ?_
  refine tkHx 3 8 ?_
  refine tkHx 4 9 ?_
  refine tkHx 5 10 ?_
  refine tkHx 8 13 ?_
  refine tkHx 9 14 ?_
  refine tkHx 10 15 ?_
  refine tkHx 11 16 ?_
  refine tkHx 12 17 ?_
  refine tkHx 13 18 ?_
  (refine ratHx 6 (fun K hK=>?_);go_simp)
  refine (g1.out _).mono ?_
  rintro e wn ⟨rfl,hbn⟩
  go_simp
  (refine hK.out _ _ (hHeld.step hbn) (fun hHeld=>?_);clear hK K;(try simp only [apS,apN,siA,scZ,scS]))
  (refine ratHx 7 (fun K hK=>?_);go_simp)
  refine (k1.out _).mono ?_
  rintro e wn ⟨rfl,hbn⟩
  go_simp
  (refine hK.out _ _ (hHeld.step hbn) (fun hHeld=>?_);clear hK K;(try simp only [apS,apN,siA,scZ,scS]))
  (refine ratHx 14 (fun K hK=>?_);go_simp)
  refine (g2.out _).mono ?_
  rintro e wn ⟨rfl,hbn⟩
  go_simp
  (refine hK.out _ _ (hHeld.step hbn) (fun hHeld=>?_);clear hK K;(try simp only [apS,apN,siA,scZ,scS]))
  (refine ratHx 15 (fun K hK=>?_);go_simp)
  refine (k2.out _).mono ?_
  rintro e wn ⟨rfl,hbn⟩
  go_simp
  (refine hK.out _ _ (hHeld.step hbn) (fun hHeld=>?_);clear hK K;(try simp only [apS,apN,siA,scZ,scS]))
  refine tkHx 16 21 ?_
  refine tkHx 17 22 ?_
  refine tkHx 18 23 ?_
  refine tkFx 19 24 ?_
  refine tkFx 20 25 ?_
  refine tkFx 21 26 ?_
  refine tkFx 22 27 ?_
  refine tkFx 23 28 ?_
  refine tkFx 24 29 ?_
  refine tkFx 25 30 ?_
  refine tkFx 26 31 ?_
  refine tkFx 27 32 ?_
  refine tkFx 28 33 ?_
  refine tkFx 29 34 ?_
  refine tkFx 30 35 ?_
  refine tkFx 31 36 ?_
  refine tkFx 32 37 ?_
  refine tkFx 33 38 ?_
  refine tkFx 34 39 ?_
  refine tkFx 35 40 ?_
  refine tkFx 36 41 ?_
  refine tkHx 37 42 ?_
  refine tkHx 38 4 ?_
  refine wpAnyH_done (by kernel_rfl) ?_ _
  go_wp2_with fail
  go_ret
  exact ⟨ret_bool hf.out.symm,hHeld.bel⟩
end Go.Proofs.Ythfokpchdlcidaa
namespace Go.Proofs.Ythfokpchdlcidaa
open Go Go.RowKit Go.Shelf
theorem onSg_split (s : Sd) (q : Pt) : Cal.onSg s q = (decide (Cal.crs s q = 0) && ((decide (min s.a.x s.b.x ≤ q.x) && decide (q.x ≤ max s.a.x s.b.x)) && (decide (min s.a.y s.b.y ≤ q.y) && decide (q.y ≤ max s.a.y s.b.y)))):=by
 unfold Cal.onSg
 rw [Bool.decide_and,Bool.decide_and]
theorem OnR_any (s : Sd) (q : Pt) (w : World) (hs : SmS s) (hq : SmP q) : Calls Try.prog 69 #[.agg #[.int .i64 s.a.x,.int .i64 s.a.y,.int .i64 s.b.x,.int .i64 s.b.y],.agg #[.int .i64 q.x,.int .i64 q.y]] w fun e w'=>e = .returned (.bool (Cal.hasP s q)) ∧ Below w.heap.size w w':=by
 rw [Cal.has_on,onSg_split]
 have hb:=Lib.hid (below_step (below_alloc w (.cells #[.int .i64 s.a.x,.int .i64 s.a.y,.int .i64 s.b.x,.int .i64 s.b.y] 72)) (below_alloc _ (.cells #[.int .i64 q.x,.int .i64 q.y] 40)))
 have hS:=Lib.hid ((BoxAt.new w #[.int .i64 s.a.x,.int .i64 s.a.y,.int .i64 s.b.x,.int .i64 s.b.y] 72).alloc (.cells #[.int .i64 q.x,.int .i64 q.y] 40))
 have hQ:=Lib.hid (BoxAt.new (w.alloc (.cells #[.int .i64 s.a.x,.int .i64 s.a.y,.int .i64 s.b.x,.int .i64 s.b.y] 72)) #[.int .i64 q.x,.int .i64 q.y] 40)
 have hc:=Lib.hid (fun W=>crossR_any s.a s.b q W hs.a hs.b hq)
 obtain ⟨bx,hbx⟩ : ∃ b,(decide (min s.a.x s.b.x ≤ q.x) && decide (q.x ≤ max s.a.x s.b.x)) = b:=⟨_,rfl⟩
 have h1:=Lib.hid (fun W=>by have:=Within_any q.x (min s.a.x s.b.x) (max s.a.x s.b.x) W;rw [hbx] at this;exact this)
 have h2:=Lib.hid (fun W=>Within_any q.y (min s.a.y s.b.y) (max s.a.y s.b.y) W)
 rw [hbx]
 replace hc : Hid (∀ W,Calls Try.prog 91 #[.agg #[.int .i64 s.a.x,.int .i64 s.a.y],.agg #[.int .i64 s.b.x,.int .i64 s.b.y],.agg #[.int .i64 q.x,.int .i64 q.y]] W fun e w'=>e = .returned (.int .i64 (Cal.crs s q)) ∧ Below W.heap.size W w'):=hc.out
 by_cases hz : Cal.crs s q = 0
 ·rw [hz] at hc ⊢
  cases bx
  ·go_enter Try.func69,Try.ntmps69
   go_wp2_with fail
   refine (hc.out _).mono ?_
   rintro e w1 ⟨rfl,hb1⟩
   have hS1:=hS.out.below hb1
   have hQ1:=hQ.out.below (by simpa using hb1)
   replace hb:=Lib.hid (below_step hb.out hb1)
   (have c0:=hS1.c 0 _ rfl;have c1:=hS1.c 1 _ rfl;have c2:=hS1.c 2 _ rfl;have c3:=hS1.c 3 _ rfl)
   (have d0:=hQ1.c 0 _ rfl;have d1:=hQ1.c 1 _ rfl)
   simp only [World.size_alloc] at d0 d1
   clear hS1 hQ1 hb1
   go_wp2_with fail
   refine (h1.out _).mono ?_
   rintro e _ ⟨rfl,rfl⟩
   go_wp2_with fail
   go_ret
   exact ⟨rfl,hb.out⟩
  ·go_enter Try.func69,Try.ntmps69
   go_wp2_with fail
   refine (hc.out _).mono ?_
   rintro e w1 ⟨rfl,hb1⟩
   have hS1:=hS.out.below hb1
   have hQ1:=hQ.out.below (by simpa using hb1)
   replace hb:=Lib.hid (below_step hb.out hb1)
   (have c0:=hS1.c 0 _ rfl;have c1:=hS1.c 1 _ rfl;have c2:=hS1.c 2 _ rfl;have c3:=hS1.c 3 _ rfl)
   (have d0:=hQ1.c 0 _ rfl;have d1:=hQ1.c 1 _ rfl)
   simp only [World.size_alloc] at d0 d1
   clear hS1 hQ1 hb1
   go_wp2_with fail
   refine (h1.out _).mono ?_
   rintro e _ ⟨rfl,rfl⟩
   go_wp2_with fail
   refine (h2.out _).mono ?_
   rintro e _ ⟨rfl,rfl⟩
   go_wp2_with fail
   go_ret
   exact ⟨rfl,hb.out⟩
 ·have hzd : decide (Cal.crs s q = 0) = false:=by simpa using hz
  rw [hzd]
  generalize Cal.crs s q = z at *
  clear hzd
  go_enter Try.func69,Try.ntmps69
  go_wp2_with fail
  refine (hc.out _).mono ?_
  rintro e w1 ⟨rfl,hb1⟩
  have hS1:=hS.out.below hb1
  have hQ1:=hQ.out.below (by simpa using hb1)
  replace hb:=Lib.hid (below_step hb.out hb1)
  (have c0:=hS1.c 0 _ rfl;have c1:=hS1.c 1 _ rfl;have c2:=hS1.c 2 _ rfl;have c3:=hS1.c 3 _ rfl)
  (have d0:=hQ1.c 0 _ rfl;have d1:=hQ1.c 1 _ rfl)
  simp only [World.size_alloc] at d0 d1
  clear hS1 hQ1 hb1
  go_wp2_with fail
  go_ret
  exact ⟨rfl,hb.out⟩
theorem touchR_any (s t : Sd) (w : World) (hs : SmS s) (ht : SmS t) (hx : ∀ W,Calls Try.prog 72 #[.agg #[.int .i64 s.a.x,.int .i64 s.a.y,.int .i64 s.b.x,.int .i64 s.b.y],.agg #[.int .i64 t.a.x,.int .i64 t.a.y,.int .i64 t.b.x,.int .i64 t.b.y]] W fun e w'=>e = .returned (.bool (Cal.crosS s t)) ∧ Below W.heap.size W w') : Calls Try.prog 70 #[.agg #[.int .i64 s.a.x,.int .i64 s.a.y,.int .i64 s.b.x,.int .i64 s.b.y],.agg #[.int .i64 t.a.x,.int .i64 t.a.y,.int .i64 t.b.x,.int .i64 t.b.y]] w fun e w'=>e = .returned (.bool (Cal.meetS s t)) ∧ Below w.heap.size w w':=by
 have hb:=Lib.hid (below_step (below_alloc w (.cells #[.int .i64 s.a.x,.int .i64 s.a.y,.int .i64 s.b.x,.int .i64 s.b.y] 72)) (below_alloc _ (.cells #[.int .i64 t.a.x,.int .i64 t.a.y,.int .i64 t.b.x,.int .i64 t.b.y] 72)))
 have hS:=Lib.hid ((BoxAt.new w #[.int .i64 s.a.x,.int .i64 s.a.y,.int .i64 s.b.x,.int .i64 s.b.y] 72).alloc (.cells #[.int .i64 t.a.x,.int .i64 t.a.y,.int .i64 t.b.x,.int .i64 t.b.y] 72))
 have hT:=Lib.hid (by have:=BoxAt.new (w.alloc (.cells #[.int .i64 s.a.x,.int .i64 s.a.y,.int .i64 s.b.x,.int .i64 s.b.y] 72)) #[.int .i64 t.a.x,.int .i64 t.a.y,.int .i64 t.b.x,.int .i64 t.b.y] 72;rw [World.size_alloc] at this;exact this)
 have hx:=Lib.hid hx
 have e1:=Lib.hid (fun W=>OnR_any s t.a W hs ht.a)
 have e2:=Lib.hid (fun W=>OnR_any s t.b W hs ht.b)
 have e3:=Lib.hid (fun W=>OnR_any t s.a W ht hs.a)
 have e4:=Lib.hid (fun W=>OnR_any t s.b W ht hs.b)
 unfold Cal.meetS
 generalize Cal.crosS s t = x0 at *
 generalize Cal.hasP s t.a = x1 at *
 generalize Cal.hasP s t.b = x2 at *
 generalize Cal.hasP t s.a = x3 at *
 generalize Cal.hasP t s.b = x4 at *
 cases x0
 ·cases x1
  ·cases x2
   ·cases x3
    ·go_enter Try.func70,Try.ntmps70
     go_wp2_with fail
     refine (hx.out _).mono ?_
     rintro e w1 ⟨rfl,hb1⟩
     replace hS:=Lib.hid (hS.out.below hb1)
     replace hT:=Lib.hid (hT.out.below hb1)
     replace hb:=Lib.hid (below_step hb.out hb1)
     clear hb1
     have c0:=hS.out.c 0 _ rfl
     have c1:=hS.out.c 1 _ rfl
     have c2:=hS.out.c 2 _ rfl
     have c3:=hS.out.c 3 _ rfl
     have d0:=hT.out.c 0 _ rfl
     have d1:=hT.out.c 1 _ rfl
     have d2:=hT.out.c 2 _ rfl
     have d3:=hT.out.c 3 _ rfl
     go_wp2_with fail
     refine (e1.out _).mono ?_
     rintro e w1 ⟨rfl,hb1⟩
     replace hS:=Lib.hid (hS.out.below hb1)
     replace hT:=Lib.hid (hT.out.below hb1)
     replace hb:=Lib.hid (below_step hb.out hb1)
     clear hb1
     have c0:=hS.out.c 0 _ rfl
     have c1:=hS.out.c 1 _ rfl
     have c2:=hS.out.c 2 _ rfl
     have c3:=hS.out.c 3 _ rfl
     have d0:=hT.out.c 0 _ rfl
     have d1:=hT.out.c 1 _ rfl
     have d2:=hT.out.c 2 _ rfl
     have d3:=hT.out.c 3 _ rfl
     go_wp2_with fail
     refine (e2.out _).mono ?_
     rintro e w1 ⟨rfl,hb1⟩
     replace hS:=Lib.hid (hS.out.below hb1)
     replace hT:=Lib.hid (hT.out.below hb1)
     replace hb:=Lib.hid (below_step hb.out hb1)
     clear hb1
     have c0:=hS.out.c 0 _ rfl
     have c1:=hS.out.c 1 _ rfl
     have c2:=hS.out.c 2 _ rfl
     have c3:=hS.out.c 3 _ rfl
     have d0:=hT.out.c 0 _ rfl
     have d1:=hT.out.c 1 _ rfl
     have d2:=hT.out.c 2 _ rfl
     have d3:=hT.out.c 3 _ rfl
     go_wp2_with fail
     refine (e3.out _).mono ?_
     rintro e w1 ⟨rfl,hb1⟩
     replace hS:=Lib.hid (hS.out.below hb1)
     replace hT:=Lib.hid (hT.out.below hb1)
     replace hb:=Lib.hid (below_step hb.out hb1)
     clear hb1
     have c0:=hS.out.c 0 _ rfl
     have c1:=hS.out.c 1 _ rfl
     have c2:=hS.out.c 2 _ rfl
     have c3:=hS.out.c 3 _ rfl
     have d0:=hT.out.c 0 _ rfl
     have d1:=hT.out.c 1 _ rfl
     have d2:=hT.out.c 2 _ rfl
     have d3:=hT.out.c 3 _ rfl
     go_wp2_with fail
     refine (e4.out _).mono ?_
     rintro e w1 ⟨rfl,hb1⟩
     replace hb:=Lib.hid (below_step hb.out hb1)
     go_wp2_with fail
     go_ret
     exact ⟨by simp,hb.out⟩
    ·go_enter Try.func70,Try.ntmps70
     go_wp2_with fail
     refine (hx.out _).mono ?_
     rintro e w1 ⟨rfl,hb1⟩
     replace hS:=Lib.hid (hS.out.below hb1)
     replace hT:=Lib.hid (hT.out.below hb1)
     replace hb:=Lib.hid (below_step hb.out hb1)
     clear hb1
     have c0:=hS.out.c 0 _ rfl
     have c1:=hS.out.c 1 _ rfl
     have c2:=hS.out.c 2 _ rfl
     have c3:=hS.out.c 3 _ rfl
     have d0:=hT.out.c 0 _ rfl
     have d1:=hT.out.c 1 _ rfl
     have d2:=hT.out.c 2 _ rfl
     have d3:=hT.out.c 3 _ rfl
     go_wp2_with fail
     refine (e1.out _).mono ?_
     rintro e w1 ⟨rfl,hb1⟩
     replace hS:=Lib.hid (hS.out.below hb1)
     replace hT:=Lib.hid (hT.out.below hb1)
     replace hb:=Lib.hid (below_step hb.out hb1)
     clear hb1
     have c0:=hS.out.c 0 _ rfl
     have c1:=hS.out.c 1 _ rfl
     have c2:=hS.out.c 2 _ rfl
     have c3:=hS.out.c 3 _ rfl
     have d0:=hT.out.c 0 _ rfl
     have d1:=hT.out.c 1 _ rfl
     have d2:=hT.out.c 2 _ rfl
     have d3:=hT.out.c 3 _ rfl
     go_wp2_with fail
     refine (e2.out _).mono ?_
     rintro e w1 ⟨rfl,hb1⟩
     replace hS:=Lib.hid (hS.out.below hb1)
     replace hT:=Lib.hid (hT.out.below hb1)
     replace hb:=Lib.hid (below_step hb.out hb1)
     clear hb1
     have c0:=hS.out.c 0 _ rfl
     have c1:=hS.out.c 1 _ rfl
     have c2:=hS.out.c 2 _ rfl
     have c3:=hS.out.c 3 _ rfl
     have d0:=hT.out.c 0 _ rfl
     have d1:=hT.out.c 1 _ rfl
     have d2:=hT.out.c 2 _ rfl
     have d3:=hT.out.c 3 _ rfl
     go_wp2_with fail
     refine (e3.out _).mono ?_
     rintro e w1 ⟨rfl,hb1⟩
     replace hS:=Lib.hid (hS.out.below hb1)
     replace hT:=Lib.hid (hT.out.below hb1)
     replace hb:=Lib.hid (below_step hb.out hb1)
     clear hb1
     have c0:=hS.out.c 0 _ rfl
     have c1:=hS.out.c 1 _ rfl
     have c2:=hS.out.c 2 _ rfl
     have c3:=hS.out.c 3 _ rfl
     have d0:=hT.out.c 0 _ rfl
     have d1:=hT.out.c 1 _ rfl
     have d2:=hT.out.c 2 _ rfl
     have d3:=hT.out.c 3 _ rfl
     go_wp2_with fail
     go_ret
     exact ⟨by simp,hb.out⟩
   ·go_enter Try.func70,Try.ntmps70
    go_wp2_with fail
    refine (hx.out _).mono ?_
    rintro e w1 ⟨rfl,hb1⟩
    replace hS:=Lib.hid (hS.out.below hb1)
    replace hT:=Lib.hid (hT.out.below hb1)
    replace hb:=Lib.hid (below_step hb.out hb1)
    clear hb1
    have c0:=hS.out.c 0 _ rfl
    have c1:=hS.out.c 1 _ rfl
    have c2:=hS.out.c 2 _ rfl
    have c3:=hS.out.c 3 _ rfl
    have d0:=hT.out.c 0 _ rfl
    have d1:=hT.out.c 1 _ rfl
    have d2:=hT.out.c 2 _ rfl
    have d3:=hT.out.c 3 _ rfl
    go_wp2_with fail
    refine (e1.out _).mono ?_
    rintro e w1 ⟨rfl,hb1⟩
    replace hS:=Lib.hid (hS.out.below hb1)
    replace hT:=Lib.hid (hT.out.below hb1)
    replace hb:=Lib.hid (below_step hb.out hb1)
    clear hb1
    have c0:=hS.out.c 0 _ rfl
    have c1:=hS.out.c 1 _ rfl
    have c2:=hS.out.c 2 _ rfl
    have c3:=hS.out.c 3 _ rfl
    have d0:=hT.out.c 0 _ rfl
    have d1:=hT.out.c 1 _ rfl
    have d2:=hT.out.c 2 _ rfl
    have d3:=hT.out.c 3 _ rfl
    go_wp2_with fail
    refine (e2.out _).mono ?_
    rintro e w1 ⟨rfl,hb1⟩
    replace hS:=Lib.hid (hS.out.below hb1)
    replace hT:=Lib.hid (hT.out.below hb1)
    replace hb:=Lib.hid (below_step hb.out hb1)
    clear hb1
    have c0:=hS.out.c 0 _ rfl
    have c1:=hS.out.c 1 _ rfl
    have c2:=hS.out.c 2 _ rfl
    have c3:=hS.out.c 3 _ rfl
    have d0:=hT.out.c 0 _ rfl
    have d1:=hT.out.c 1 _ rfl
    have d2:=hT.out.c 2 _ rfl
    have d3:=hT.out.c 3 _ rfl
    go_wp2_with fail
    go_ret
    exact ⟨by simp,hb.out⟩
  ·go_enter Try.func70,Try.ntmps70
   go_wp2_with fail
   refine (hx.out _).mono ?_
   rintro e w1 ⟨rfl,hb1⟩
   replace hS:=Lib.hid (hS.out.below hb1)
   replace hT:=Lib.hid (hT.out.below hb1)
   replace hb:=Lib.hid (below_step hb.out hb1)
   clear hb1
   have c0:=hS.out.c 0 _ rfl
   have c1:=hS.out.c 1 _ rfl
   have c2:=hS.out.c 2 _ rfl
   have c3:=hS.out.c 3 _ rfl
   have d0:=hT.out.c 0 _ rfl
   have d1:=hT.out.c 1 _ rfl
   have d2:=hT.out.c 2 _ rfl
   have d3:=hT.out.c 3 _ rfl
   go_wp2_with fail
   refine (e1.out _).mono ?_
   rintro e w1 ⟨rfl,hb1⟩
   replace hS:=Lib.hid (hS.out.below hb1)
   replace hT:=Lib.hid (hT.out.below hb1)
   replace hb:=Lib.hid (below_step hb.out hb1)
   clear hb1
   have c0:=hS.out.c 0 _ rfl
   have c1:=hS.out.c 1 _ rfl
   have c2:=hS.out.c 2 _ rfl
   have c3:=hS.out.c 3 _ rfl
   have d0:=hT.out.c 0 _ rfl
   have d1:=hT.out.c 1 _ rfl
   have d2:=hT.out.c 2 _ rfl
   have d3:=hT.out.c 3 _ rfl
   go_wp2_with fail
   go_ret
   exact ⟨by simp,hb.out⟩
 ·go_enter Try.func70,Try.ntmps70
  go_wp2_with fail
  refine (hx.out _).mono ?_
  rintro e w1 ⟨rfl,hb1⟩
  replace hS:=Lib.hid (hS.out.below hb1)
  replace hT:=Lib.hid (hT.out.below hb1)
  replace hb:=Lib.hid (below_step hb.out hb1)
  clear hb1
  have c0:=hS.out.c 0 _ rfl
  have c1:=hS.out.c 1 _ rfl
  have c2:=hS.out.c 2 _ rfl
  have c3:=hS.out.c 3 _ rfl
  have d0:=hT.out.c 0 _ rfl
  have d1:=hT.out.c 1 _ rfl
  have d2:=hT.out.c 2 _ rfl
  have d3:=hT.out.c 3 _ rfl
  go_wp2_with fail
  go_ret
  exact ⟨by simp,hb.out⟩
end Go.Proofs.Ythfokpchdlcidaa
namespace Go.Proofs.Ythfokpchdlcidaa
open Go Go.RowKit Go.Shelf
theorem DoubleR_any (V : Option Addr) (d : Nat) (ps : List Pt) (w : World) (hP : Pts w V ps) (hl : ps.length ≤ 40) : Calls Try.prog 71 #[.slice V ps.length d] w fun e w'=>e = .returned (.int .i64 (Cal.areaP ps)) ∧ Below w.heap.size w w':=by
 have hPR : Hid (PtsR w V ps):=⟨hP.rows,hP.size,hP.own⟩
 have hbox:=Lib.hid (fun k hk=>areaTo_box hP k hk)
 have hsm:=Lib.hid (fun k hk=>hP.sd k hk)
 have hb0 : Hid (Below w.heap.size w w):=Below.refl _ _
 have h00 : Hid (Cal.areaTo ps 0 = 0):=rfl
 unfold Cal.areaP
 clear hP
 go_enter Try.func71,Try.ntmps71
 go_wp2_with fail
 go_loopw [3,4] (fun n i wr=>∃ k : Nat,k ≤ ps.length ∧ i = .int .i64 k ∧ n = .int .i64 (Cal.areaTo ps k) ∧ Hid (Below w.heap.size w wr)) (fun _ i _=>ps.length - (intOf i).toNat)
 case atStart=>exact ⟨0,Nat.zero_le _,rfl,rfl,hb0⟩
 case round =>
  clear hb0
  obtain ⟨k,hk,rfl,rfl,hb⟩:=hrel
  by_cases hlt : k < ps.length
  ·have hs : SmS (Cal.sd ps k):=hsm.out k hlt
   have b1:=hbox.out k hk
   have b2:=hbox.out (k + 1) hlt
   have hst : Hid (Cal.areaTo ps (k + 1) = Cal.areaTo ps k + ((Cal.sd ps k).a.x * (Cal.sd ps k).b.y - (Cal.sd ps k).a.y * (Cal.sd ps k).b.x)):=rfl
   have hsd:=Lib.hid (fun W hW=>sideR_any V d ps k W (hPR.out.below hW) hlt (by omega))
   generalize Cal.areaTo ps k = acc at *
   generalize Cal.sd ps k = s at *
   have m1:=mul_le_of (a:=s.a.x) (b:=s.b.y) (M:=1000000) (N:=1000000) hs.a.x0 hs.a.x1 hs.b.y0 hs.b.y1
   have m2:=mul_le_of (a:=s.a.y) (b:=s.b.x) (M:=1000000) (N:=1000000) hs.a.y0 hs.a.y1 hs.b.x0 hs.b.x1
   have q1 : IntKind.i64.wrap (s.a.x * s.b.y) = s.a.x * s.b.y:=wrap_small (by omega) (by omega)
   have q2 : IntKind.i64.wrap (s.a.y * s.b.x) = s.a.y * s.b.x:=wrap_small (by omega) (by omega)
   have q3 : IntKind.i64.wrap (acc + s.a.x * s.b.y) = acc + s.a.x * s.b.y:=wrap_small (by omega) (by omega)
   have q4 : IntKind.i64.wrap (acc + s.a.x * s.b.y - s.a.y * s.b.x) = acc + s.a.x * s.b.y - s.a.y * s.b.x:=wrap_small (by omega) (by omega)
   have he : Hid (acc + s.a.x * s.b.y - s.a.y * s.b.x = Cal.areaTo ps (k + 1)):=by
    show _ = _
    rw [hst.out];omega
   clear m1 m2 b1 b2 hst hs
   go_wp2_with (go_at_call 68;refine (hsd.out _ hb.out).mono ?_;rintro e w1 ⟨rfl,hb1⟩;have hb2:=Lib.hid (below_step (below_step hb.out hb1) (below_alloc w1 (.cells #[.int .i64 s.a.x,.int .i64 s.a.y,.int .i64 s.b.x,.int .i64 s.b.y] 72)));clear hb1)
   go_roundw
   case rel=>exact ⟨k + 1,hlt,by go_num,by rw [he.out],hb2⟩
   case measure=>simp [intOf];omega
  ·have hke : k = ps.length:=by omega
   subst hke
   go_wp2_with fail
   go_ret
   exact ⟨rfl,hb.out⟩
end Go.Proofs.Ythfokpchdlcidaa
