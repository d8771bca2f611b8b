/- What the statements rest on: definitions and walks, part 16. -/
import Derived.Test.YtfcjeejhdklkdaaJ15
import Derived.Test.YtfcjeejhdklkdaaJ11
set_option maxRecDepth 100000
set_option maxHeartbeats 16000000
set_option linter.unusedSimpArgs false
set_option linter.unusedVariables false
namespace Go.Proofs.Ytfcjeejhdklkdaa
namespace Cal
def turnsR (ps : List Pt) (i : Nat) : Bool:=hasP (sd ps i) (sd ps ((i + 1) % ps.length)).b || hasP (sd ps ((i + 1) % ps.length)) (sd ps i).a
def simpleR (ps : List Pt) : Bool:=(List.range ps.length).all fun i=>!turnsR ps i && (List.range ps.length).all fun k=>!badK ps i k
def polyR (p : List Pt) : Int :=
 if p.length < 3 ∨ 40 < p.length then 10 else if ptsErr p = 0 then (if twiceP [] p = true then 5 else if simpleR p = true then (if areaP p ≤ 0 then 9 else 0) else 3) else ptsErr p
theorem sq0I (z : Int) : 0 ≤ z * z:=by
 rcases Int.le_total 0 z with h | h
 ·exact Int.mul_nonneg h h
 ·exact Int.mul_nonneg_of_nonpos_of_nonpos h h
theorem sq_pos {z : Int} (h : z ≠ 0) : 0 < z * z:=by
 have:=sq0I z
 rcases Int.lt_or_eq_of_le this with h1 | h1
 ·exact h1
 ·rcases Int.mul_eq_zero.1 h1.symm with h2 | h2 <;> exact absurd h2 h
theorem way_pos {p q : Pt} (h : p ≠ q) : 0 < (q.x - p.x) * (q.x - p.x) + (q.y - p.y) * (q.y - p.y):=by
 have s1:=sq0I (q.x - p.x)
 have s2:=sq0I (q.y - p.y)
 by_cases h1 : q.x - p.x = 0
 ·have h2 : q.y - p.y ≠ 0:=fun h2=>h (by cases p;cases q;rw [Pt.mk.injEq];dsimp only at h1 h2;omega)
  have:=sq_pos h2
  omega
 ·have:=sq_pos h1
  omega
theorem lie_on {a b c : Pt} (hab : a ≠ b) (hbc : b ≠ c) : (hasP ⟨a,b⟩ c || hasP ⟨b,c⟩ a) = true ↔ (crs ⟨a,b⟩ c = 0 ∧ 0 < dotP b a c):=by
 rw [Bool.or_eq_true,has_iff,has_iff]
 dsimp only
 have hU:=way_pos (Ne.symm hab)
 have hV:=way_pos hbc
 have e0 : crs ⟨b,c⟩ a = crs ⟨a,b⟩ c:=by unfold crs;dsimp only;grind
 have e1 : dotP c a b = ((c.x - b.x) * (c.x - b.x) + (c.y - b.y) * (c.y - b.y)) - dotP b a c:=by unfold dotP;grind
 have e2 : dotP a b c = ((a.x - b.x) * (a.x - b.x) + (a.y - b.y) * (a.y - b.y)) - dotP b a c:=by unfold dotP;grind
 have e3 : dotP b a c * dotP b a c + crs ⟨a,b⟩ c * crs ⟨a,b⟩ c = ((a.x - b.x) * (a.x - b.x) + (a.y - b.y) * (a.y - b.y)) * ((c.x - b.x) * (c.x - b.x) + (c.y - b.y) * (c.y - b.y)):=by
  unfold dotP crs;dsimp only;grind
 rw [e0,e1,e2]
 generalize (a.x - b.x) * (a.x - b.x) + (a.y - b.y) * (a.y - b.y) = U at *
 generalize (c.x - b.x) * (c.x - b.x) + (c.y - b.y) * (c.y - b.y) = V at *
 generalize dotP b a c = D at *
 generalize crs ⟨a,b⟩ c = C at *
 constructor
 ·rintro (⟨h1,h2⟩ | ⟨h1,h2⟩)
  ·exact ⟨h1,by omega⟩
  ·exact ⟨h1,by omega⟩
 ·rintro ⟨h1,h2⟩
  subst h1
  by_cases hv : V - D ≤ 0
  ·exact .inl ⟨rfl,hv⟩
  ·refine .inr ⟨rfl,?_⟩
   refine Int.not_lt.1 fun hu=>?_
   have p1:=Int.mul_pos (a:=U - D) (b:=V) (by omega) (by omega)
   have p2:=Int.mul_pos (a:=D) (b:=V - D) h2 (by omega)
   grind
theorem back_turns {ps : List Pt} (h3 : 3 ≤ ps.length) (hnd : ps.Nodup) {i : Nat} (hi : i < ps.length) : turnsR ps i = backS ps ((i + 1) % ps.length):=by
 have hlt : (i + 1) % ps.length < ps.length:=Nat.mod_lt _ (by omega)
 have e0 : ps[((i + 1) % ps.length + ps.length - 1) % ps.length]?.getD pt0 = cor ps i:=by
  unfold cor
  have : ((i + 1) % ps.length + ps.length - 1) % ps.length = i % ps.length:=by
   have a1 : ((i + 1) % ps.length + ps.length - 1) % ps.length = ((i + 1) % ps.length + (ps.length - 1)) % ps.length:=by congr 1;omega
   rw [a1,Nat.mod_add_mod]
   have a2 : i + 1 + (ps.length - 1) = i + ps.length:=by omega
   rw [a2,Nat.add_mod_right]
  rw [this]
 have e2 : cor ps ((i + 1) % ps.length + 1) = cor ps (i + 2):=by
  unfold cor
  rw [Nat.mod_add_mod]
 have n1 : cor ps i ≠ cor ps (i + 1):=cor_ne hnd (by omega) (Ne.symm (succ_mod_ne (by omega)))
 have n2 : cor ps (i + 1) ≠ cor ps (i + 2):=cor_ne hnd (by omega) (Ne.symm (succ_mod_ne (by omega)))
 rw [Bool.eq_iff_iff]
 unfold turnsR backS
 rw [sd_cor hi,sd_cor hlt,e0,cor_mod,e2]
 dsimp only
 rw [lie_on n1 n2,Bool.and_eq_true,beq_iff_eq,decide_eq_true_iff,trnZ]
 have e4 : crs ⟨cor ps (i + 1),cor ps (i + 2)⟩ (cor ps i) = crs ⟨cor ps i,cor ps (i + 1)⟩ (cor ps (i + 2)):=by unfold crs;dsimp only;grind
 rw [e4]
theorem simple_ref {ps : List Pt} (h3 : 3 ≤ ps.length) (hnd : ps.Nodup) : simpleR ps = simpleP ps:=by
 rw [Bool.eq_iff_iff]
 unfold simpleR simpleP
 simp only [List.all_eq_true,List.mem_range,Bool.and_eq_true,Bool.not_eq_true']
 constructor
 ·intro h i hi
  refine ⟨?_,(h i hi).2⟩
  have hk : (i + (ps.length - 1)) % ps.length < ps.length:=Nat.mod_lt _ (by omega)
  have:=(h _ hk).1
  rw [back_turns h3 hnd hk] at this
  have e : ((i + (ps.length - 1)) % ps.length + 1) % ps.length = i:=by
   rw [Nat.mod_add_mod]
   have : i + (ps.length - 1) + 1 = i + ps.length:=by omega
   rw [this,Nat.add_mod_right,Nat.mod_eq_of_lt hi]
  rw [e] at this
  exact this
 ·intro h i hi
  refine ⟨?_,(h i hi).2⟩
  rw [back_turns h3 hnd hi]
  exact (h _ (Nat.mod_lt _ (by omega))).1
theorem ptsErr_mem : ∀ {ps : List Pt},ptsErr ps = 0 → ∀ p ∈ ps,ptErr p = 0
 | [],_,p,hp=>by cases hp
 | q :: r,h,p,hp=>by
  unfold ptsErr at h
  split at h
  ·rename_i hq
   rcases List.mem_cons.1 hp with rfl | hp
   ·exact hq
   ·exact ptsErr_mem h p hp
  ·rename_i hq
   exact absurd h hq
theorem polyR_eq (ps : List Pt) : polyR ps = polyE ps:=by
 unfold polyR polyE
 by_cases h1 : ps.length < 3 ∨ 40 < ps.length
 ·rw [if_pos h1,if_pos h1]
 ·rw [if_neg h1,if_neg h1]
  by_cases h2 : ptsErr ps = 0
  ·rw [if_pos h2,if_pos h2]
   by_cases h3 : twiceP [] ps = true
   ·rw [if_pos h3,if_pos h3]
   ·rw [if_neg h3,if_neg h3]
    have hnd:=(twice_get ps [] (by simpa using h3)).2
    rw [simple_ref (by omega) hnd]
    by_cases h4 : simpleP ps = true
    ·rw [if_pos h4,if_pos h4]
     have hne:=Poly.area_ne (ps:=ps) ⟨by omega,hnd,h4⟩ (fun p hp=>by
      have:=ptsErr_mem h2 p hp
      unfold ptErr at this
      split at this
      ·cases this
      ·omega)
     by_cases h5 : areaP ps < 0
     ·rw [if_pos h5,if_pos (by omega)]
     ·rw [if_neg h5,if_neg (by omega)]
    ·rw [if_neg h4,if_neg h4]
  ·rw [if_neg h2,if_neg h2]
theorem polyE_poly {ps : List Pt} (h : polyE ps = 0) : Poly ps ∧ (∀ p ∈ ps,ptErr p = 0) ∧ 0 < areaP ps:=by
 rw [← polyR_eq] at h
 unfold polyR at h
 split at h
 ·cases h
 ·rename_i h1
  split at h
  ·rename_i h2
   split at h
   ·cases h
   ·rename_i h3
    split at h
    ·rename_i h4
     split at h
     ·cases h
     ·have hnd:=(twice_get ps [] (by simpa using h3)).2
      rw [simple_ref (by omega) hnd] at h4
      exact ⟨⟨by omega,hnd,h4⟩,ptsErr_mem h2,by omega⟩
    ·cases h
  ·rename_i h2;exact absurd h h2
end Cal
end Go.Proofs.Ytfcjeejhdklkdaa
namespace Go.Proofs.Ytfcjeejhdklkdaa
open Go Go.RowKit Go.Shelf
def fewL (n : Nat) : Bool:=decide (n ≤ 10) || (decide (40 < n) && decide (n ≤ 60))
theorem few_any (V : Option Addr) (n d : Nat) (w : World) (hn : n ≤ 1000000) : Calls Try.prog 26 #[.slice V n d] w fun e w'=>e = .returned (.bool (fewL n)) ∧ Below w.heap.size w w':=by
 have hlo : IntKind.i64.wrap (n : Int) = (n : Int):=wrap_small (by omega) (by omega)
 by_cases h1 : n ≤ 10
 ·have hf : Hid (fewL n = true):=by show _ = _;unfold fewL;rw [decide_eq_true h1];rfl
  have hi : (n : Int) ≤ 10:=by omega
  go_enter Try.func26,Try.ntmps26
  go_wp2_with fail
  go_ret
  exact ⟨by rw [hf.out];rfl,blw⟩
 ·have hi : ¬ (n : Int) ≤ 10:=by omega
  by_cases h2 : 40 < n
  ·have hi2 : (40 : Int) < n:=by omega
   by_cases h3 : n ≤ 60
   ·have hf : Hid (fewL n = true):=by show _ = _;unfold fewL;rw [decide_eq_true h2,decide_eq_true h3];simp
    have hi3 : (n : Int) ≤ 60:=by omega
    go_enter Try.func26,Try.ntmps26
    go_wp2_with fail
    go_ret
    exact ⟨by rw [hf.out];rfl,blw⟩
   ·have hf : Hid (fewL n = false):=by show _ = _;unfold fewL;rw [decide_eq_false h1,decide_eq_false h3];simp
    have hi3 : ¬ (n : Int) ≤ 60:=by omega
    go_enter Try.func26,Try.ntmps26
    go_wp2_with fail
    go_ret
    exact ⟨by rw [hf.out];rfl,blw⟩
  ·have hf : Hid (fewL n = false):=by show _ = _;unfold fewL;rw [decide_eq_false h1,decide_eq_false h2];simp
   have hi2 : ¬ (40 : Int) < n:=by omega
   go_enter Try.func26,Try.ntmps26
   go_wp2_with fail
   go_ret
   exact ⟨by rw [hf.out];rfl,blw⟩
theorem inPl_err (q : Pt) : inPl q = true ↔ Cal.ptErr q = 0:=by
 unfold inPl inR Cal.ptErr
 simp only [Bool.and_eq_true,decide_eq_true_eq]
 constructor
 ·intro h;rw [if_neg (by omega)]
 ·intro h
  split at h
  ·cases h
  ·omega
theorem ptErr_two {q : Pt} (h : Cal.ptErr q ≠ 0) : Cal.ptErr q = 2:=by
 unfold Cal.ptErr at h ⊢
 split
 ·rfl
 ·rename_i h1;rw [if_neg h1] at h;exact absurd rfl h
theorem ptsErr_first : ∀ (ps : List Pt) (k : Nat) (hk : k < ps.length),(∀ j (hj : j < k),Cal.ptErr (ps[j]'(Nat.lt_trans hj hk)) = 0) → Cal.ptErr ps[k] ≠ 0 → Cal.ptsErr ps = 2
 | q :: r,0,_,_,h=>by
  have h : Cal.ptErr q ≠ 0:=h
  unfold Cal.ptsErr
  rw [if_neg h]
  exact ptErr_two h
 | q :: r,k + 1,hk,hb,h=>by
  have h0 : Cal.ptErr q = 0:=hb 0 (Nat.succ_pos k)
  unfold Cal.ptsErr
  rw [if_pos h0]
  exact ptsErr_first r k (by simpa using hk) (fun j hj=>hb (j + 1) (by omega)) h
theorem ptsErr_all : ∀ (ps : List Pt),(∀ k (hk : k < ps.length),Cal.ptErr ps[k] = 0) → Cal.ptsErr ps = 0
 | [],_=>rfl
 | q :: r,h=>by
  have h0 : Cal.ptErr q = 0:=h 0 (by simp)
  unfold Cal.ptsErr
  rw [if_pos h0]
  exact ptsErr_all r (fun k hk=>h (k + 1) (by simpa using hk))
theorem twiceP_of : ∀ (l s : List Pt),(∀ p ∈ s,p ∉ l) → l.Nodup → Cal.twiceP s l = false
 | [],_,_,_=>rfl
 | q :: r,s,hs,hn=>by
  unfold Cal.twiceP
  rw [List.nodup_cons] at hn
  rw [Bool.or_eq_false_iff]
  constructor
  ·rw [List.any_eq_false]
   intro p hp he
   have : q = p:=ptB_iff.1 he
   exact hs p hp (this ▸ List.mem_cons_self)
  ·refine twiceP_of r (q :: s) (fun p hp=>?_) hn.2
   rcases List.mem_cons.1 hp with rfl | hp
   ·exact hn.1
   ·exact fun hm=>hs p hp (List.mem_cons_of_mem _ hm)
theorem twiceP_pairs {ps : List Pt} (h : ∀ i (hi : i < ps.length) k (hk : k < i),ps[k]'(Nat.lt_trans hk hi) ≠ ps[i]) : Cal.twiceP [] ps = false:=by
 refine twiceP_of ps [] (fun p hp=>by cases hp) ?_
 rw [List.nodup_iff_pairwise_ne,List.pairwise_iff_getElem]
 exact fun i j hi hj hij=>h j hj i hij
theorem twiceP_hit {ps : List Pt} {i k : Nat} (hi : i < ps.length) (hk : k < i) (he : ps[k]'(Nat.lt_trans hk hi) = ps[i]) : Cal.twiceP [] ps = true:=by
 cases h : Cal.twiceP [] ps
 ·have hn:=(twiceP_get ps [] h).2
  rw [List.nodup_iff_pairwise_ne,List.pairwise_iff_getElem] at hn
  exact absurd he (hn k i _ hi hk)
 ·rfl
end Go.Proofs.Ytfcjeejhdklkdaa
namespace Go.Proofs.Ytfcjeejhdklkdaa
open Go Go.RowKit Go.Shelf
attribute [local go_sem] Oper.semAt_some
def comT (s t : Sd) : Sd × Bool :=
 if Cal.trn s t.a = 0 ∧ Cal.trn s t.b = 0 then
  (let t' : Sd:=if 0 < Cal.alongS s t.a t.b then ⟨t.b,t.a⟩ else t
   let f:=if 0 < Cal.alongS s t'.a s.a then t'.a else s.a
   let e:=if Cal.alongS s t'.b s.b < 0 then t'.b else s.b
   (⟨f,e⟩,decide (Cal.alongS s f e < 0)))
 else (⟨Cal.pt0,Cal.pt0⟩,false)
theorem comT_eq (s t : Sd) : Cal.commonS s t = if (comT s t).2 = true then some (comT s t).1 else none:=by
 unfold Cal.commonS comT
 split <;> simp
structure CmI (w : World) (s t : Sd) (X : World) : Prop where
 s : BoxAt X w.heap.size [.int .i64 s.a.x,.int .i64 s.a.y,.int .i64 s.b.x,.int .i64 s.b.y]
 t : BoxAt X (w.heap.size + 1) [.int .i64 t.a.x,.int .i64 t.a.y,.int .i64 t.b.x,.int .i64 t.b.y]
 z : BoxAt X (w.heap.size + 1 + 1) [.int .i64 0,.int .i64 0,.int .i64 0,.int .i64 0]
 bel : Below w.heap.size w X
theorem CmI.below {w : World} {s t : Sd} {X Y : World} (h : CmI w s t X) (hb : Below X.heap.size X Y) : CmI w s t Y :=
 ⟨h.s.below hb,h.t.below hb,h.z.below hb,h.bel.trans (hb.mono h.bel.size)⟩
theorem CmI.first (w : World) (s t : Sd) : CmI w s t (((w.alloc (.cells #[.int .i64 s.a.x,.int .i64 s.a.y,.int .i64 s.b.x,.int .i64 s.b.y] 120)).alloc (.cells #[.int .i64 t.a.x,.int .i64 t.a.y,.int .i64 t.b.x,.int .i64 t.b.y] 120)).alloc (.cells #[.int .i64 0,.int .i64 0,.int .i64 0,.int .i64 0] 97)):=by
 have h2:=(BoxAt.new (w.alloc (.cells #[.int .i64 s.a.x,.int .i64 s.a.y,.int .i64 s.b.x,.int .i64 s.b.y] 120)) #[.int .i64 t.a.x,.int .i64 t.a.y,.int .i64 t.b.x,.int .i64 t.b.y] 120).alloc (.cells #[.int .i64 0,.int .i64 0,.int .i64 0,.int .i64 0] 97)
 have h3:=BoxAt.new ((w.alloc (.cells #[.int .i64 s.a.x,.int .i64 s.a.y,.int .i64 s.b.x,.int .i64 s.b.y] 120)).alloc (.cells #[.int .i64 t.a.x,.int .i64 t.a.y,.int .i64 t.b.x,.int .i64 t.b.y] 120)) #[.int .i64 0,.int .i64 0,.int .i64 0,.int .i64 0] 97
 simp only [World.size_alloc] at h2 h3
 exact ⟨((BoxAt.new w #[.int .i64 s.a.x,.int .i64 s.a.y,.int .i64 s.b.x,.int .i64 s.b.y] 120).alloc _).alloc _,h2,h3,below_step (below_step (below_alloc _ _) (below_alloc _ _)) (below_alloc _ _)⟩
theorem CmI.swap {w : World} {s t : Sd} {X : World} (h : CmI w s t X) : CmI w s ⟨t.b,t.a⟩ ((((X.setCell ⟨w.heap.size + 1,0,none⟩ (.int .i64 t.b.x)).setCell ⟨w.heap.size + 1,1,none⟩ (.int .i64 t.b.y)).setCell ⟨w.heap.size + 1,2,none⟩ (.int .i64 t.a.x)).setCell ⟨w.heap.size + 1,3,none⟩ (.int .i64 t.a.y)):=by
 obtain ⟨h1,h2,h3,h4⟩:=h
 refine ⟨(((h1.off 0 _ (by omega)).off 1 _ (by omega)).off 2 _ (by omega)).off 3 _ (by omega),(((h2.set 0 _ (by simp)).set 1 _ (by simp)).set 2 _ (by simp)).set 3 _ (by simp),(((h3.off 0 _ (by omega)).off 1 _ (by omega)).off 2 _ (by omega)).off 3 _ (by omega),?_⟩
 exact (((h4.setCell (p:=⟨w.heap.size + 1,0,none⟩) (Nat.le_succ _) _).setCell (p:=⟨w.heap.size + 1,1,none⟩) (Nat.le_succ _) _).setCell (p:=⟨w.heap.size + 1,2,none⟩) (Nat.le_succ _) _).setCell (p:=⟨w.heap.size + 1,3,none⟩) (Nat.le_succ _) _
structure CmJ (w : World) (s t : Sd) (Bf Be : Nat) (f e : Pt) (X : World) : Prop where
 base : CmI w s t X
 f : BoxAt X Bf [.int .i64 f.x,.int .i64 f.y]
 e : BoxAt X Be [.int .i64 e.x,.int .i64 e.y]
 ne : Bf ≠ Be
 hf : w.heap.size + 1 + 1 < Bf
 he : w.heap.size + 1 + 1 < Be
theorem CmJ.below {w : World} {s t : Sd} {Bf Be : Nat} {f e : Pt} {X Y : World} (h : CmJ w s t Bf Be f e X) (hb : Below X.heap.size X Y) : CmJ w s t Bf Be f e Y :=
 ⟨h.base.below hb,h.f.below hb,h.e.below hb,h.ne,h.hf,h.he⟩
theorem CmJ.new {w : World} {s t : Sd} {X : World} (h : CmI w s t X) (f e : Pt) : CmJ w s t X.heap.size (X.heap.size + 1) f e ((X.alloc (.cells #[.int .i64 f.x,.int .i64 f.y] 75)).alloc (.cells #[.int .i64 e.x,.int .i64 e.y] 75)).drew:=by
 have hz:=h.z.lt
 have hb : Below X.heap.size X ((X.alloc (.cells #[.int .i64 f.x,.int .i64 f.y] 75)).alloc (.cells #[.int .i64 e.x,.int .i64 e.y] 75)).drew:=((Below.refl _ _).alloc (Nat.le_refl _) _ |>.alloc (by simp) _).drew
 have he:=BoxAt.new (X.alloc (.cells #[.int .i64 f.x,.int .i64 f.y] 75)) #[.int .i64 e.x,.int .i64 e.y] 75
 simp only [World.size_alloc] at he
 exact ⟨h.below hb,((BoxAt.new X #[.int .i64 f.x,.int .i64 f.y] 75).alloc _).below ((Below.refl _ _).drew),he.below ((Below.refl _ _).drew),by omega,by omega,by omega⟩
theorem CmJ.flip {w : World} {s t : Sd} {Bf Be : Nat} {f e : Pt} {X : World} (h : CmJ w s t Bf Be f e X) : CmJ w s t Be Bf e f X:=⟨h.base,h.e,h.f,h.ne.symm,h.he,h.hf⟩
theorem CmI.off {w : World} {s t : Sd} {X : World} (h : CmI w s t X) {B : Nat} (hB : w.heap.size + 1 + 1 < B) (o : Nat) (v : Value) : CmI w s t (X.setCell ⟨B,o,none⟩ v) :=
 ⟨h.s.off o v (by omega),h.t.off o v (by omega),h.z.off o v (by omega),h.bel.setCell (p:=⟨B,o,none⟩) (show w.heap.size ≤ B by omega) v⟩
theorem CmJ.setF {w : World} {s t : Sd} {Bf Be : Nat} {f e : Pt} {X : World} (h : CmJ w s t Bf Be f e X) (p : Pt) : CmJ w s t Bf Be p e ((X.setCell ⟨Bf,0,none⟩ (.int .i64 p.x)).setCell ⟨Bf,1,none⟩ (.int .i64 p.y)):=by
 obtain ⟨h1,h2,h3,h4,h5,h6⟩:=h
 exact ⟨(h1.off h5 0 _).off h5 1 _,(h2.set 0 _ (by simp)).set 1 _ (by simp),(h3.off 0 _ (by omega)).off 1 _ (by omega),h4,h5,h6⟩
theorem CmJ.setE {w : World} {s t : Sd} {Bf Be : Nat} {f e : Pt} {X : World} (h : CmJ w s t Bf Be f e X) (p : Pt) : CmJ w s t Bf Be f p ((X.setCell ⟨Be,0,none⟩ (.int .i64 p.x)).setCell ⟨Be,1,none⟩ (.int .i64 p.y)):=(h.flip.setF p).flip
structure CmK (w : World) (s : Sd) (Bf Be : Nat) (f e : Pt) (X : World) : Prop where
 s : BoxAt X w.heap.size [.int .i64 s.a.x,.int .i64 s.a.y,.int .i64 s.b.x,.int .i64 s.b.y]
 z : ∃ z0 z1 z2 z3,BoxAt X (w.heap.size + 1 + 1) [z0,z1,z2,z3]
 f : BoxAt X Bf [.int .i64 f.x,.int .i64 f.y]
 e : BoxAt X Be [.int .i64 e.x,.int .i64 e.y]
 bel : Below w.heap.size w X
 hf : w.heap.size + 1 + 1 < Bf
 he : w.heap.size + 1 + 1 < Be
theorem CmJ.k {w : World} {s t : Sd} {Bf Be : Nat} {f e : Pt} {X : World} (h : CmJ w s t Bf Be f e X) : CmK w s Bf Be f e X:=⟨h.base.s,⟨_,_,_,_,h.base.z⟩,h.f,h.e,h.base.bel,h.hf,h.he⟩
theorem CmK.below {w : World} {s : Sd} {Bf Be : Nat} {f e : Pt} {X Y : World} (h : CmK w s Bf Be f e X) (hb : Below X.heap.size X Y) : CmK w s Bf Be f e Y:=by
 obtain ⟨h1,⟨_,_,_,_,h2⟩,h3,h4,h5,h6,h7⟩:=h
 exact ⟨h1.below hb,⟨_,_,_,_,h2.below hb⟩,h3.below hb,h4.below hb,h5.trans (hb.mono h5.size),h6,h7⟩
theorem CmK.store {w : World} {s : Sd} {Bf Be : Nat} {f e : Pt} {X : World} (h : CmK w s Bf Be f e X) (o : Nat) (ho : o < 4) (v : Value) : CmK w s Bf Be f e (X.setCell ⟨w.heap.size + 1 + 1,o,none⟩ v):=by
 obtain ⟨h1,⟨z0,z1,z2,z3,h2⟩,h3,h4,h5,h6,h7⟩:=h
 refine ⟨h1.off o v (by omega),?_,h3.off o v (by omega),h4.off o v (by omega),h5.setCell (p:=⟨w.heap.size + 1 + 1,o,none⟩) (show w.heap.size ≤ w.heap.size + 1 + 1 by omega) v,h6,h7⟩
 have h:=h2.set o v (by simpa using ho)
 match o,ho,h with
 | 0,_,h=>exact ⟨_,_,_,_,h⟩
 | 1,_,h=>exact ⟨_,_,_,_,h⟩
 | 2,_,h=>exact ⟨_,_,_,_,h⟩
 | 3,_,h=>exact ⟨_,_,_,_,h⟩
theorem tkCx {P : Program} {ops : Array Oper} {Q : Exit → Act → World → Prop} {md : Region.Mode} {S : World → Prop} (i : Nat) (d : Nat) {oi : Oper} {v : Value} {fuel : Nat} {listed l' : Array Bool} {a a' : Act} {w : World}
  (h : wpAnyH P md ops Q S fuel l' a' w) (hi : ops[i]? = some oi:=by exact rfl)
  (hy : ∀ w,S w → (execOp a.eval oi).run P w = .ok (.value v) w:=by (intro w' hSw;have a0:=hSw.s.c 0 _ rfl;have a1:=hSw.s.c 1 _ rfl;have a2:=hSw.s.c 2 _ rfl;have a3:=hSw.s.c 3 _ rfl;have f0:=hSw.f.c 0 _ rfl;have f1:=hSw.f.c 1 _ rfl;have e0:=hSw.e.c 0 _ rfl;have e1:=hSw.e.c 1 _ rfl;go_simp;(try with_reducible rfl)))
  (ha : a.put (some d) v = a':=by ((try simp only [Act.put,List.setIfInBounds_toArray,List.set_cons_zero,List.set_cons_succ]);exact rfl))
  (hl : listed.setIfInBounds i true = l':=by ((try simp only [List.setIfInBounds_toArray,List.set_cons_zero,List.set_cons_succ]);exact rfl))
  (hdd : oi.dst = some d:=by kernel_rfl) (hs : Region.noSelect ops = true:=by kernel_rfl) (hf : Region.free md ops listed i = true:=by decide +kernel) (hr : (Region.ready md ops listed).contains i = true:=by decide +kernel)
  (hQ : ∀ c a w,Q (.panic c) (a.put oi.dst v) w → Q (.panic c) a w:=by exact fun _ _ _ h=>h) (hw : Region.wanted oi (yielded ops a.tmps) = true:=by kernel_rfl) (hS : S w:=by assumption) : wpAnyH P md ops Q S (fuel + 1) listed a w :=
 tkH2 i d hy (by rw [ha,hl];exact h) hi hdd hs hf hr hQ hw hS
theorem sgSize : (Try.prog.info? 97).map (·.size) = some 4:=by kernel_rfl
theorem common_t (s t : Sd) (w : World) (hs : SmS s) (ht : SmS t) (h1 : Cal.trn s t.a = 0) (h2 : Cal.trn s t.b = 0) (h3 : ¬ 0 < Cal.alongS s t.a t.b) :
  Calls Try.prog 87 #[.agg #[.int .i64 s.a.x,.int .i64 s.a.y,.int .i64 s.b.x,.int .i64 s.b.y],.agg #[.int .i64 t.a.x,.int .i64 t.a.y,.int .i64 t.b.x,.int .i64 t.b.y]] w fun e w'=>e = .returned (.tuple #[.agg #[.int .i64 (comT s t).1.a.x,.int .i64 (comT s t).1.a.y,.int .i64 (comT s t).1.b.x,.int .i64 (comT s t).1.b.y],.bool (comT s t).2]) ∧ Below w.heap.size w w':=by
 have hmo : (Try.prog).follows Departure.mixedOrders = true:=by kernel_rfl
 obtain ⟨u,hut⟩ : ∃ u,u = t:=⟨_,rfl⟩
 have hu : SmS u:=hut ▸ ht
 have hR : Hid (comT s t = (⟨if 0 < Cal.alongS s u.a s.a then u.a else s.a,if Cal.alongS s u.b s.b < 0 then u.b else s.b⟩,decide (Cal.alongS s (if 0 < Cal.alongS s u.a s.a then u.a else s.a) (if Cal.alongS s u.b s.b < 0 then u.b else s.b) < 0))):=by show _ = _;unfold comT;rw [if_pos ⟨h1,h2⟩,if_neg h3,hut]
 replace hut:=Lib.hid hut
 have d3 : decide (0 < Cal.alongS s t.a t.b) = false:=decide_eq_false h3
 replace h1:=Lib.hid h1
 replace h2:=Lib.hid h2
 replace h3:=Lib.hid h3
 have hI:=Lib.hid (CmI.first w s t)
 have m1 : Hid True:=trivial
 go_enter Try.func87,Try.ntmps87
 go_wp2_with (first
  |(go_at_call 105;clear m1;refine (turn_any s t.a _ hs ht.a).mono ?_;rintro e wn ⟨rfl,hbn⟩;rw [h1.out];replace hI:=Lib.hid (hI.out.below hbn);clear hbn;have a0:=hI.out.s.c 0 _ rfl;have a1:=hI.out.s.c 1 _ rfl;have a2:=hI.out.s.c 2 _ rfl;have a3:=hI.out.s.c 3 _ rfl;have b0:=hI.out.t.c 0 _ rfl;have b1:=hI.out.t.c 1 _ rfl;have b2:=hI.out.t.c 2 _ rfl;have b3:=hI.out.t.c 3 _ rfl;have f0:=hI.out.t.free 0 (by simp);have f1:=hI.out.t.free 1 (by simp);have f2:=hI.out.t.free 2 (by simp);have f3:=hI.out.t.free 3 (by simp))
  |(go_at_call 105;refine (turn_any s t.b _ hs ht.b).mono ?_;clear a0 a1 a2 a3 b0 b1 b2 b3 f0 f1 f2 f3;rintro e wn ⟨rfl,hbn⟩;rw [h2.out];replace hI:=Lib.hid (hI.out.below hbn);clear hbn;have a0:=hI.out.s.c 0 _ rfl;have a1:=hI.out.s.c 1 _ rfl;have a2:=hI.out.s.c 2 _ rfl;have a3:=hI.out.s.c 3 _ rfl;have b0:=hI.out.t.c 0 _ rfl;have b1:=hI.out.t.c 1 _ rfl;have b2:=hI.out.t.c 2 _ rfl;have b3:=hI.out.t.c 3 _ rfl;have f0:=hI.out.t.free 0 (by simp);have f1:=hI.out.t.free 1 (by simp);have f2:=hI.out.t.free 2 (by simp);have f3:=hI.out.t.free 3 (by simp))
  |(go_at_call 110;refine (along_any s t.a t.b _ hs ht.a ht.b).mono ?_;clear a0 a1 a2 a3 b0 b1 b2 b3 f0 f1 f2 f3;rintro e wn ⟨rfl,hbn⟩;replace hI:=Lib.hid (hI.out.below hbn);clear hbn;have a0:=hI.out.s.c 0 _ rfl;have a1:=hI.out.s.c 1 _ rfl;have a2:=hI.out.s.c 2 _ rfl;have a3:=hI.out.s.c 3 _ rfl;have b0:=hI.out.t.c 0 _ rfl;have b1:=hI.out.t.c 1 _ rfl;have b2:=hI.out.t.c 2 _ rfl;have b3:=hI.out.t.c 3 _ rfl;have f0:=hI.out.t.free 0 (by simp);have f1:=hI.out.t.free 1 (by simp);have f2:=hI.out.t.free 2 (by simp);have f3:=hI.out.t.free 3 (by simp)))
 have l0:=hI.out.s.lt
 have l1:=hI.out.t.lt
 have l2:=hI.out.z.lt
 have n0 : ¬ w.heap.size = wn.heap.size:=by omega
 have n1 : ¬ w.heap.size + 1 = wn.heap.size:=by omega
 have n2 : ¬ w.heap.size + 1 + 1 = wn.heap.size:=by omega
 have hJ1:=Lib.hid (CmJ.new hI.out s.a s.b)
 have hJ2:=Lib.hid (CmJ.new hI.out s.b s.a).flip
 clear d3
 go_region_o
 ·clear n0 n1 n2 hJ2 l0 l1 l2
  clear a0 a1 a2 a3 b0 b1 b2 b3 f0 f1 f2 f3
  obtain ⟨Bf,hn⟩ : ∃ n,wn.heap.size = n:=⟨_,rfl⟩
  generalize ((wn.alloc (.cells #[.int .i64 s.a.x,.int .i64 s.a.y] 75)).alloc (.cells #[.int .i64 s.b.x,.int .i64 s.b.y] 75)).drew = X at hJ1 ⊢
  rw [hn] at hJ1 ⊢
  clear hI hn
  obtain ⟨Be,hBe⟩ : ∃ B,Bf + 1 = B:=⟨_,rfl⟩
  rw [hBe] at hJ1 ⊢
  clear hBe
  rw [← hut.out] at hJ1
  have hJ:=hJ1
  clear hJ1
  have k0:=hJ.out.hf
  have k1:=hJ.out.he
  have k2:=hJ.out.ne
  have n0 : ¬ Bf = Be:=k2
  have n1 : ¬ Be = Bf:=fun e=>k2 e.symm
  have n2 : ¬ Bf = w.heap.size:=by omega
  have n3 : ¬ Bf = w.heap.size + 1:=by omega
  have n4 : ¬ Be = w.heap.size:=by omega
  have n5 : ¬ Be = w.heap.size + 1:=by omega
  clear k2
  (have a0:=hJ.out.base.s.c 0 _ rfl;have a1:=hJ.out.base.s.c 1 _ rfl;have a2:=hJ.out.base.s.c 2 _ rfl;have a3:=hJ.out.base.s.c 3 _ rfl;have b0:=hJ.out.base.t.c 0 _ rfl;have b1:=hJ.out.base.t.c 1 _ rfl;have b2:=hJ.out.base.t.c 2 _ rfl;have b3:=hJ.out.base.t.c 3 _ rfl;have f0:=hJ.out.f.c 0 _ rfl;have f1:=hJ.out.f.c 1 _ rfl;have e0:=hJ.out.e.c 0 _ rfl;have e1:=hJ.out.e.c 1 _ rfl;have f2:=hJ.out.f.free 0 (by simp);have f3:=hJ.out.f.free 1 (by simp);have e2:=hJ.out.e.free 0 (by simp);have e3:=hJ.out.e.free 1 (by simp))
  by_cases c1 : 0 < Cal.alongS s u.a s.a
  ·have d1 : decide (0 < Cal.alongS s u.a s.a) = true:=decide_eq_true c1
   have hF : Hid ((if 0 < Cal.alongS s u.a s.a then u.a else s.a) = u.a):=if_pos c1
   replace c1:=Lib.hid c1
   have m2 : Hid True:=trivial
   go_wp2_with (go_at_call 110;clear m2;refine (along_any s u.a s.a _ hs hu.a hs.a).mono ?_;clear a0 a1 a2 a3 b0 b1 b2 b3 f0 f1 f2 f3 e0 e1 e2 e3;rintro e X2 ⟨rfl,hbn⟩;replace hJ:=Lib.hid (hJ.out.below hbn);clear hbn;(have a0:=hJ.out.base.s.c 0 _ rfl;have a1:=hJ.out.base.s.c 1 _ rfl;have a2:=hJ.out.base.s.c 2 _ rfl;have a3:=hJ.out.base.s.c 3 _ rfl;have b0:=hJ.out.base.t.c 0 _ rfl;have b1:=hJ.out.base.t.c 1 _ rfl;have b2:=hJ.out.base.t.c 2 _ rfl;have b3:=hJ.out.base.t.c 3 _ rfl;have f0:=hJ.out.f.c 0 _ rfl;have f1:=hJ.out.f.c 1 _ rfl;have e0:=hJ.out.e.c 0 _ rfl;have e1:=hJ.out.e.c 1 _ rfl;have f2:=hJ.out.f.free 0 (by simp);have f3:=hJ.out.f.free 1 (by simp);have e2:=hJ.out.e.free 0 (by simp);have e3:=hJ.out.e.free 1 (by simp)))
   replace hJ:=Lib.hid (hJ.out.setF u.a)
   clear a0 a1 a2 a3 b0 b1 b2 b3 f0 f1 f2 f3 e0 e1 e2 e3
   refine (along_any s u.b s.b _ hs hu.b hs.b).mono ?_
   rintro e X3 ⟨rfl,hbn⟩
   replace hJ:=Lib.hid (hJ.out.below hbn)
   clear hbn
   (have a0:=hJ.out.base.s.c 0 _ rfl;have a1:=hJ.out.base.s.c 1 _ rfl;have a2:=hJ.out.base.s.c 2 _ rfl;have a3:=hJ.out.base.s.c 3 _ rfl;have b0:=hJ.out.base.t.c 0 _ rfl;have b1:=hJ.out.base.t.c 1 _ rfl;have b2:=hJ.out.base.t.c 2 _ rfl;have b3:=hJ.out.base.t.c 3 _ rfl;have f0:=hJ.out.f.c 0 _ rfl;have f1:=hJ.out.f.c 1 _ rfl;have e0:=hJ.out.e.c 0 _ rfl;have e1:=hJ.out.e.c 1 _ rfl;have f2:=hJ.out.f.free 0 (by simp);have f3:=hJ.out.f.free 1 (by simp);have e2:=hJ.out.e.free 0 (by simp);have e3:=hJ.out.e.free 1 (by simp))
   by_cases c2 : Cal.alongS s u.b s.b < 0
   ·have d2 : decide (Cal.alongS s u.b s.b < 0) = true:=decide_eq_true c2
    have hE : Hid (comT s t = (⟨u.a,u.b⟩,decide (Cal.alongS s u.a u.b < 0))):=by show _ = _;rw [hR.out,hF.out,if_pos c2]
    replace c2:=Lib.hid c2
    go_wp2_with fail
    replace hJ:=Lib.hid (hJ.out.setE u.b)
    obtain ⟨Y,hY⟩ : ∃ Y,(X3.setCell ⟨Be,0,none⟩ (.int .i64 u.b.x)).setCell ⟨Be,1,none⟩ (.int .i64 u.b.y) = Y:=⟨_,rfl⟩
    rw [hY] at hJ ⊢
    clear hY
    clear a0 a1 a2 a3 b0 b1 b2 b3 f0 f1 f2 f3 e0 e1 e2 e3
    refine wp_region_held_drew (S:=CmK w s Bf Be u.a u.b) (by kernel_rfl) (hJ.out.k.below ((Below.refl _ _).drew)) (fun hHeld=>?_)
    refine tkCx 0 54 ?_
    refine tkCx 1 55 ?_
    refine tkCx 2 56 ?_
    refine tkCx 3 57 ?_
    refine tkCx 4 58 ?_
    refine tkCx 5 59 ?_
    (refine ratHx 6 (fun K hK=>?_);go_simp)
    refine (along_any s u.a u.b _ hs hu.a hu.b).mono ?_
    rintro e9 wn ⟨rfl,hbn⟩
    go_simp
    refine hK.out _ _ (hHeld.below hbn) (fun hHeld=>?_)
    clear hK K hbn
    (try simp only [apS,apN,siA,scZ,scS])
    refine tkCx 7 61 ?_
    obtain ⟨z0,z1,z2,z3,hz⟩:=hHeld.z
    have r0:=hz.c 0 _ rfl
    have r1:=hz.c 1 _ rfl
    have r2:=hz.c 2 _ rfl
    have r3:=hz.c 3 _ rfl
    have g0:=hz.free 0 (by simp)
    have g1:=hz.free 1 (by simp)
    have g2:=hz.free 2 (by simp)
    have g3:=hz.free 3 (by simp)
    have hz9:=Lib.hid ((((hz.set 0 (.int .i64 u.a.x) (by simp)).set 1 (.int .i64 u.a.y) (by simp)).set 2 (.int .i64 u.b.x) (by simp)).set 3 (.int .i64 u.b.y) (by simp))
    (refine ratHx 8 (fun K hK=>?_);go_simp)
    refine hK.out _ _ ((((hHeld.store 0 (by omega) _).store 1 (by omega) _).store 2 (by omega) _).store 3 (by omega) _) (fun hHeld=>?_)
    clear hK K
    (try simp only [apS,apN,siA,scZ,scS])
    refine tkCx 9 5 ?_
    refine wpAnyH_done (by kernel_rfl) ?_ _
    go_wp2_with fail
    refine bodyPost_ret (results_mid2 rfl _ _ (w.heap.size + 1 + 1) [.int .i64 u.a.x,.int .i64 u.a.y,.int .i64 u.b.x,.int .i64 u.b.y] _ rfl hz9.out.range Try.underlying97 rfl sgSize) rfl ⟨(by rw [hE.out];rfl),hHeld.bel⟩
   ·have d2 : decide (Cal.alongS s u.b s.b < 0) = false:=decide_eq_false c2
    have hE : Hid (comT s t = (⟨u.a,s.b⟩,decide (Cal.alongS s u.a s.b < 0))):=by show _ = _;rw [hR.out,hF.out,if_neg c2]
    replace c2:=Lib.hid c2
    go_wp2_with fail
    clear a0 a1 a2 a3 b0 b1 b2 b3 f0 f1 f2 f3 e0 e1 e2 e3
    refine wp_region_held_drew (S:=CmK w s Bf Be u.a s.b) (by kernel_rfl) (hJ.out.k.below ((Below.refl _ _).drew)) (fun hHeld=>?_)
    refine tkCx 0 54 ?_
    refine tkCx 1 55 ?_
    refine tkCx 2 56 ?_
    refine tkCx 3 57 ?_
    refine tkCx 4 58 ?_
    refine tkCx 5 59 ?_
    (refine ratHx 6 (fun K hK=>?_);go_simp)
    refine (along_any s u.a s.b _ hs hu.a hs.b).mono ?_
    rintro e9 wn ⟨rfl,hbn⟩
    go_simp
    refine hK.out _ _ (hHeld.below hbn) (fun hHeld=>?_)
    clear hK K hbn
    (try simp only [apS,apN,siA,scZ,scS])
    refine tkCx 7 61 ?_
    obtain ⟨z0,z1,z2,z3,hz⟩:=hHeld.z
    have r0:=hz.c 0 _ rfl
    have r1:=hz.c 1 _ rfl
    have r2:=hz.c 2 _ rfl
    have r3:=hz.c 3 _ rfl
    have g0:=hz.free 0 (by simp)
    have g1:=hz.free 1 (by simp)
    have g2:=hz.free 2 (by simp)
    have g3:=hz.free 3 (by simp)
    have hz9:=Lib.hid ((((hz.set 0 (.int .i64 u.a.x) (by simp)).set 1 (.int .i64 u.a.y) (by simp)).set 2 (.int .i64 s.b.x) (by simp)).set 3 (.int .i64 s.b.y) (by simp))
    (refine ratHx 8 (fun K hK=>?_);go_simp)
    refine hK.out _ _ ((((hHeld.store 0 (by omega) _).store 1 (by omega) _).store 2 (by omega) _).store 3 (by omega) _) (fun hHeld=>?_)
    clear hK K
    (try simp only [apS,apN,siA,scZ,scS])
    refine tkCx 9 5 ?_
    refine wpAnyH_done (by kernel_rfl) ?_ _
    go_wp2_with fail
    refine bodyPost_ret (results_mid2 rfl _ _ (w.heap.size + 1 + 1) [.int .i64 u.a.x,.int .i64 u.a.y,.int .i64 s.b.x,.int .i64 s.b.y] _ rfl hz9.out.range Try.underlying97 rfl sgSize) rfl ⟨(by rw [hE.out];rfl),hHeld.bel⟩
  ·have d1 : decide (0 < Cal.alongS s u.a s.a) = false:=decide_eq_false c1
   have hF : Hid ((if 0 < Cal.alongS s u.a s.a then u.a else s.a) = s.a):=if_neg c1
   replace c1:=Lib.hid c1
   have m2 : Hid True:=trivial
   go_wp2_with (go_at_call 110;clear m2;refine (along_any s u.a s.a _ hs hu.a hs.a).mono ?_;clear a0 a1 a2 a3 b0 b1 b2 b3 f0 f1 f2 f3 e0 e1 e2 e3;rintro e X2 ⟨rfl,hbn⟩;replace hJ:=Lib.hid (hJ.out.below hbn);clear hbn;(have a0:=hJ.out.base.s.c 0 _ rfl;have a1:=hJ.out.base.s.c 1 _ rfl;have a2:=hJ.out.base.s.c 2 _ rfl;have a3:=hJ.out.base.s.c 3 _ rfl;have b0:=hJ.out.base.t.c 0 _ rfl;have b1:=hJ.out.base.t.c 1 _ rfl;have b2:=hJ.out.base.t.c 2 _ rfl;have b3:=hJ.out.base.t.c 3 _ rfl;have f0:=hJ.out.f.c 0 _ rfl;have f1:=hJ.out.f.c 1 _ rfl;have e0:=hJ.out.e.c 0 _ rfl;have e1:=hJ.out.e.c 1 _ rfl;have f2:=hJ.out.f.free 0 (by simp);have f3:=hJ.out.f.free 1 (by simp);have e2:=hJ.out.e.free 0 (by simp);have e3:=hJ.out.e.free 1 (by simp)))
   clear a0 a1 a2 a3 b0 b1 b2 b3 f0 f1 f2 f3 e0 e1 e2 e3
   refine (along_any s u.b s.b _ hs hu.b hs.b).mono ?_
   rintro e X3 ⟨rfl,hbn⟩
   replace hJ:=Lib.hid (hJ.out.below hbn)
   clear hbn
   (have a0:=hJ.out.base.s.c 0 _ rfl;have a1:=hJ.out.base.s.c 1 _ rfl;have a2:=hJ.out.base.s.c 2 _ rfl;have a3:=hJ.out.base.s.c 3 _ rfl;have b0:=hJ.out.base.t.c 0 _ rfl;have b1:=hJ.out.base.t.c 1 _ rfl;have b2:=hJ.out.base.t.c 2 _ rfl;have b3:=hJ.out.base.t.c 3 _ rfl;have f0:=hJ.out.f.c 0 _ rfl;have f1:=hJ.out.f.c 1 _ rfl;have e0:=hJ.out.e.c 0 _ rfl;have e1:=hJ.out.e.c 1 _ rfl;have f2:=hJ.out.f.free 0 (by simp);have f3:=hJ.out.f.free 1 (by simp);have e2:=hJ.out.e.free 0 (by simp);have e3:=hJ.out.e.free 1 (by simp))
   by_cases c2 : Cal.alongS s u.b s.b < 0
   ·have d2 : decide (Cal.alongS s u.b s.b < 0) = true:=decide_eq_true c2
    have hE : Hid (comT s t = (⟨s.a,u.b⟩,decide (Cal.alongS s s.a u.b < 0))):=by show _ = _;rw [hR.out,hF.out,if_pos c2]
    replace c2:=Lib.hid c2
    go_wp2_with fail
    replace hJ:=Lib.hid (hJ.out.setE u.b)
    obtain ⟨Y,hY⟩ : ∃ Y,(X3.setCell ⟨Be,0,none⟩ (.int .i64 u.b.x)).setCell ⟨Be,1,none⟩ (.int .i64 u.b.y) = Y:=⟨_,rfl⟩
    rw [hY] at hJ ⊢
    clear hY
    clear a0 a1 a2 a3 b0 b1 b2 b3 f0 f1 f2 f3 e0 e1 e2 e3
    refine wp_region_held_drew (S:=CmK w s Bf Be s.a u.b) (by kernel_rfl) (hJ.out.k.below ((Below.refl _ _).drew)) (fun hHeld=>?_)
    refine tkCx 0 54 ?_
    refine tkCx 1 55 ?_
    refine tkCx 2 56 ?_
    refine tkCx 3 57 ?_
    refine tkCx 4 58 ?_
    refine tkCx 5 59 ?_
    (refine ratHx 6 (fun K hK=>?_);go_simp)
    refine (along_any s s.a u.b _ hs hs.a hu.b).mono ?_
    rintro e9 wn ⟨rfl,hbn⟩
    go_simp
    refine hK.out _ _ (hHeld.below hbn) (fun hHeld=>?_)
    clear hK K hbn
    (try simp only [apS,apN,siA,scZ,scS])
    refine tkCx 7 61 ?_
    obtain ⟨z0,z1,z2,z3,hz⟩:=hHeld.z
    have r0:=hz.c 0 _ rfl
    have r1:=hz.c 1 _ rfl
    have r2:=hz.c 2 _ rfl
    have r3:=hz.c 3 _ rfl
    have g0:=hz.free 0 (by simp)
    have g1:=hz.free 1 (by simp)
    have g2:=hz.free 2 (by simp)
    have g3:=hz.free 3 (by simp)
    have hz9:=Lib.hid ((((hz.set 0 (.int .i64 s.a.x) (by simp)).set 1 (.int .i64 s.a.y) (by simp)).set 2 (.int .i64 u.b.x) (by simp)).set 3 (.int .i64 u.b.y) (by simp))
    (refine ratHx 8 (fun K hK=>?_);go_simp)
    refine hK.out _ _ ((((hHeld.store 0 (by omega) _).store 1 (by omega) _).store 2 (by omega) _).store 3 (by omega) _) (fun hHeld=>?_)
    clear hK K
    (try simp only [apS,apN,siA,scZ,scS])
    refine tkCx 9 5 ?_
    refine wpAnyH_done (by kernel_rfl) ?_ _
    go_wp2_with fail
    refine bodyPost_ret (results_mid2 rfl _ _ (w.heap.size + 1 + 1) [.int .i64 s.a.x,.int .i64 s.a.y,.int .i64 u.b.x,.int .i64 u.b.y] _ rfl hz9.out.range Try.underlying97 rfl sgSize) rfl ⟨(by rw [hE.out];rfl),hHeld.bel⟩
   ·have d2 : decide (Cal.alongS s u.b s.b < 0) = false:=decide_eq_false c2
    have hE : Hid (comT s t = (⟨s.a,s.b⟩,decide (Cal.alongS s s.a s.b < 0))):=by show _ = _;rw [hR.out,hF.out,if_neg c2]
    replace c2:=Lib.hid c2
    go_wp2_with fail
    clear a0 a1 a2 a3 b0 b1 b2 b3 f0 f1 f2 f3 e0 e1 e2 e3
    refine wp_region_held_drew (S:=CmK w s Bf Be s.a s.b) (by kernel_rfl) (hJ.out.k.below ((Below.refl _ _).drew)) (fun hHeld=>?_)
    refine tkCx 0 54 ?_
    refine tkCx 1 55 ?_
    refine tkCx 2 56 ?_
    refine tkCx 3 57 ?_
    refine tkCx 4 58 ?_
    refine tkCx 5 59 ?_
    (refine ratHx 6 (fun K hK=>?_);go_simp)
    refine (along_any s s.a s.b _ hs hs.a hs.b).mono ?_
    rintro e9 wn ⟨rfl,hbn⟩
    go_simp
    refine hK.out _ _ (hHeld.below hbn) (fun hHeld=>?_)
    clear hK K hbn
    (try simp only [apS,apN,siA,scZ,scS])
    refine tkCx 7 61 ?_
    obtain ⟨z0,z1,z2,z3,hz⟩:=hHeld.z
    have r0:=hz.c 0 _ rfl
    have r1:=hz.c 1 _ rfl
    have r2:=hz.c 2 _ rfl
    have r3:=hz.c 3 _ rfl
    have g0:=hz.free 0 (by simp)
    have g1:=hz.free 1 (by simp)
    have g2:=hz.free 2 (by simp)
    have g3:=hz.free 3 (by simp)
    have hz9:=Lib.hid ((((hz.set 0 (.int .i64 s.a.x) (by simp)).set 1 (.int .i64 s.a.y) (by simp)).set 2 (.int .i64 s.b.x) (by simp)).set 3 (.int .i64 s.b.y) (by simp))
    (refine ratHx 8 (fun K hK=>?_);go_simp)
    refine hK.out _ _ ((((hHeld.store 0 (by omega) _).store 1 (by omega) _).store 2 (by omega) _).store 3 (by omega) _) (fun hHeld=>?_)
    clear hK K
    (try simp only [apS,apN,siA,scZ,scS])
    refine tkCx 9 5 ?_
    refine wpAnyH_done (by kernel_rfl) ?_ _
    go_wp2_with fail
    refine bodyPost_ret (results_mid2 rfl _ _ (w.heap.size + 1 + 1) [.int .i64 s.a.x,.int .i64 s.a.y,.int .i64 s.b.x,.int .i64 s.b.y] _ rfl hz9.out.range Try.underlying97 rfl sgSize) rfl ⟨(by rw [hE.out];rfl),hHeld.bel⟩
 ·clear n0 n1 n2 hJ1 l0 l1 l2
  clear a0 a1 a2 a3 b0 b1 b2 b3 f0 f1 f2 f3
  obtain ⟨Be,hn⟩ : ∃ n,wn.heap.size = n:=⟨_,rfl⟩
  generalize ((wn.alloc (.cells #[.int .i64 s.b.x,.int .i64 s.b.y] 75)).alloc (.cells #[.int .i64 s.a.x,.int .i64 s.a.y] 75)).drew = X at hJ2 ⊢
  rw [hn] at hJ2 ⊢
  clear hI hn
  obtain ⟨Bf,hBf⟩ : ∃ B,Be + 1 = B:=⟨_,rfl⟩
  rw [hBf] at hJ2 ⊢
  clear hBf
  rw [← hut.out] at hJ2
  have hJ:=hJ2
  clear hJ2
  have k0:=hJ.out.hf
  have k1:=hJ.out.he
  have k2:=hJ.out.ne
  have n0 : ¬ Bf = Be:=k2
  have n1 : ¬ Be = Bf:=fun e=>k2 e.symm
  have n2 : ¬ Bf = w.heap.size:=by omega
  have n3 : ¬ Bf = w.heap.size + 1:=by omega
  have n4 : ¬ Be = w.heap.size:=by omega
  have n5 : ¬ Be = w.heap.size + 1:=by omega
  clear k2
  (have a0:=hJ.out.base.s.c 0 _ rfl;have a1:=hJ.out.base.s.c 1 _ rfl;have a2:=hJ.out.base.s.c 2 _ rfl;have a3:=hJ.out.base.s.c 3 _ rfl;have b0:=hJ.out.base.t.c 0 _ rfl;have b1:=hJ.out.base.t.c 1 _ rfl;have b2:=hJ.out.base.t.c 2 _ rfl;have b3:=hJ.out.base.t.c 3 _ rfl;have f0:=hJ.out.f.c 0 _ rfl;have f1:=hJ.out.f.c 1 _ rfl;have e0:=hJ.out.e.c 0 _ rfl;have e1:=hJ.out.e.c 1 _ rfl;have f2:=hJ.out.f.free 0 (by simp);have f3:=hJ.out.f.free 1 (by simp);have e2:=hJ.out.e.free 0 (by simp);have e3:=hJ.out.e.free 1 (by simp))
  by_cases c1 : 0 < Cal.alongS s u.a s.a
  ·have d1 : decide (0 < Cal.alongS s u.a s.a) = true:=decide_eq_true c1
   have hF : Hid ((if 0 < Cal.alongS s u.a s.a then u.a else s.a) = u.a):=if_pos c1
   replace c1:=Lib.hid c1
   have m2 : Hid True:=trivial
   go_wp2_with (go_at_call 110;clear m2;refine (along_any s u.a s.a _ hs hu.a hs.a).mono ?_;clear a0 a1 a2 a3 b0 b1 b2 b3 f0 f1 f2 f3 e0 e1 e2 e3;rintro e X2 ⟨rfl,hbn⟩;replace hJ:=Lib.hid (hJ.out.below hbn);clear hbn;(have a0:=hJ.out.base.s.c 0 _ rfl;have a1:=hJ.out.base.s.c 1 _ rfl;have a2:=hJ.out.base.s.c 2 _ rfl;have a3:=hJ.out.base.s.c 3 _ rfl;have b0:=hJ.out.base.t.c 0 _ rfl;have b1:=hJ.out.base.t.c 1 _ rfl;have b2:=hJ.out.base.t.c 2 _ rfl;have b3:=hJ.out.base.t.c 3 _ rfl;have f0:=hJ.out.f.c 0 _ rfl;have f1:=hJ.out.f.c 1 _ rfl;have e0:=hJ.out.e.c 0 _ rfl;have e1:=hJ.out.e.c 1 _ rfl;have f2:=hJ.out.f.free 0 (by simp);have f3:=hJ.out.f.free 1 (by simp);have e2:=hJ.out.e.free 0 (by simp);have e3:=hJ.out.e.free 1 (by simp)))
   replace hJ:=Lib.hid (hJ.out.setF u.a)
   clear a0 a1 a2 a3 b0 b1 b2 b3 f0 f1 f2 f3 e0 e1 e2 e3
   refine (along_any s u.b s.b _ hs hu.b hs.b).mono ?_
   rintro e X3 ⟨rfl,hbn⟩
   replace hJ:=Lib.hid (hJ.out.below hbn)
   clear hbn
   (have a0:=hJ.out.base.s.c 0 _ rfl;have a1:=hJ.out.base.s.c 1 _ rfl;have a2:=hJ.out.base.s.c 2 _ rfl;have a3:=hJ.out.base.s.c 3 _ rfl;have b0:=hJ.out.base.t.c 0 _ rfl;have b1:=hJ.out.base.t.c 1 _ rfl;have b2:=hJ.out.base.t.c 2 _ rfl;have b3:=hJ.out.base.t.c 3 _ rfl;have f0:=hJ.out.f.c 0 _ rfl;have f1:=hJ.out.f.c 1 _ rfl;have e0:=hJ.out.e.c 0 _ rfl;have e1:=hJ.out.e.c 1 _ rfl;have f2:=hJ.out.f.free 0 (by simp);have f3:=hJ.out.f.free 1 (by simp);have e2:=hJ.out.e.free 0 (by simp);have e3:=hJ.out.e.free 1 (by simp))
   by_cases c2 : Cal.alongS s u.b s.b < 0
   ·have d2 : decide (Cal.alongS s u.b s.b < 0) = true:=decide_eq_true c2
    have hE : Hid (comT s t = (⟨u.a,u.b⟩,decide (Cal.alongS s u.a u.b < 0))):=by show _ = _;rw [hR.out,hF.out,if_pos c2]
    replace c2:=Lib.hid c2
    go_wp2_with fail
    replace hJ:=Lib.hid (hJ.out.setE u.b)
    obtain ⟨Y,hY⟩ : ∃ Y,(X3.setCell ⟨Be,0,none⟩ (.int .i64 u.b.x)).setCell ⟨Be,1,none⟩ (.int .i64 u.b.y) = Y:=⟨_,rfl⟩
    rw [hY] at hJ ⊢
    clear hY
    clear a0 a1 a2 a3 b0 b1 b2 b3 f0 f1 f2 f3 e0 e1 e2 e3
    refine wp_region_held_drew (S:=CmK w s Bf Be u.a u.b) (by kernel_rfl) (hJ.out.k.below ((Below.refl _ _).drew)) (fun hHeld=>?_)
    refine tkCx 0 54 ?_
    refine tkCx 1 55 ?_
    refine tkCx 2 56 ?_
    refine tkCx 3 57 ?_
    refine tkCx 4 58 ?_
    refine tkCx 5 59 ?_
    (refine ratHx 6 (fun K hK=>?_);go_simp)
    refine (along_any s u.a u.b _ hs hu.a hu.b).mono ?_
    rintro e9 wn ⟨rfl,hbn⟩
    go_simp
    refine hK.out _ _ (hHeld.below hbn) (fun hHeld=>?_)
    clear hK K hbn
    (try simp only [apS,apN,siA,scZ,scS])
    refine tkCx 7 61 ?_
    obtain ⟨z0,z1,z2,z3,hz⟩:=hHeld.z
    have r0:=hz.c 0 _ rfl
    have r1:=hz.c 1 _ rfl
    have r2:=hz.c 2 _ rfl
    have r3:=hz.c 3 _ rfl
    have g0:=hz.free 0 (by simp)
    have g1:=hz.free 1 (by simp)
    have g2:=hz.free 2 (by simp)
    have g3:=hz.free 3 (by simp)
    have hz9:=Lib.hid ((((hz.set 0 (.int .i64 u.a.x) (by simp)).set 1 (.int .i64 u.a.y) (by simp)).set 2 (.int .i64 u.b.x) (by simp)).set 3 (.int .i64 u.b.y) (by simp))
    (refine ratHx 8 (fun K hK=>?_);go_simp)
    refine hK.out _ _ ((((hHeld.store 0 (by omega) _).store 1 (by omega) _).store 2 (by omega) _).store 3 (by omega) _) (fun hHeld=>?_)
    clear hK K
    (try simp only [apS,apN,siA,scZ,scS])
    refine tkCx 9 5 ?_
    refine wpAnyH_done (by kernel_rfl) ?_ _
    go_wp2_with fail
    refine bodyPost_ret (results_mid2 rfl _ _ (w.heap.size + 1 + 1) [.int .i64 u.a.x,.int .i64 u.a.y,.int .i64 u.b.x,.int .i64 u.b.y] _ rfl hz9.out.range Try.underlying97 rfl sgSize) rfl ⟨(by rw [hE.out];rfl),hHeld.bel⟩
   ·have d2 : decide (Cal.alongS s u.b s.b < 0) = false:=decide_eq_false c2
    have hE : Hid (comT s t = (⟨u.a,s.b⟩,decide (Cal.alongS s u.a s.b < 0))):=by show _ = _;rw [hR.out,hF.out,if_neg c2]
    replace c2:=Lib.hid c2
    go_wp2_with fail
    clear a0 a1 a2 a3 b0 b1 b2 b3 f0 f1 f2 f3 e0 e1 e2 e3
    refine wp_region_held_drew (S:=CmK w s Bf Be u.a s.b) (by kernel_rfl) (hJ.out.k.below ((Below.refl _ _).drew)) (fun hHeld=>?_)
    refine tkCx 0 54 ?_
    refine tkCx 1 55 ?_
    refine tkCx 2 56 ?_
    refine tkCx 3 57 ?_
    refine tkCx 4 58 ?_
    refine tkCx 5 59 ?_
    (refine ratHx 6 (fun K hK=>?_);go_simp)
    refine (along_any s u.a s.b _ hs hu.a hs.b).mono ?_
    rintro e9 wn ⟨rfl,hbn⟩
    go_simp
    refine hK.out _ _ (hHeld.below hbn) (fun hHeld=>?_)
    clear hK K hbn
    (try simp only [apS,apN,siA,scZ,scS])
    refine tkCx 7 61 ?_
    obtain ⟨z0,z1,z2,z3,hz⟩:=hHeld.z
    have r0:=hz.c 0 _ rfl
    have r1:=hz.c 1 _ rfl
    have r2:=hz.c 2 _ rfl
    have r3:=hz.c 3 _ rfl
    have g0:=hz.free 0 (by simp)
    have g1:=hz.free 1 (by simp)
    have g2:=hz.free 2 (by simp)
    have g3:=hz.free 3 (by simp)
    have hz9:=Lib.hid ((((hz.set 0 (.int .i64 u.a.x) (by simp)).set 1 (.int .i64 u.a.y) (by simp)).set 2 (.int .i64 s.b.x) (by simp)).set 3 (.int .i64 s.b.y) (by simp))
    (refine ratHx 8 (fun K hK=>?_);go_simp)
    refine hK.out _ _ ((((hHeld.store 0 (by omega) _).store 1 (by omega) _).store 2 (by omega) _).store 3 (by omega) _) (fun hHeld=>?_)
    clear hK K
    (try simp only [apS,apN,siA,scZ,scS])
    refine tkCx 9 5 ?_
    refine wpAnyH_done (by kernel_rfl) ?_ _
    go_wp2_with fail
    refine bodyPost_ret (results_mid2 rfl _ _ (w.heap.size + 1 + 1) [.int .i64 u.a.x,.int .i64 u.a.y,.int .i64 s.b.x,.int .i64 s.b.y] _ rfl hz9.out.range Try.underlying97 rfl sgSize) rfl ⟨(by rw [hE.out];rfl),hHeld.bel⟩
  ·have d1 : decide (0 < Cal.alongS s u.a s.a) = false:=decide_eq_false c1
   have hF : Hid ((if 0 < Cal.alongS s u.a s.a then u.a else s.a) = s.a):=if_neg c1
   replace c1:=Lib.hid c1
   have m2 : Hid True:=trivial
   go_wp2_with (go_at_call 110;clear m2;refine (along_any s u.a s.a _ hs hu.a hs.a).mono ?_;clear a0 a1 a2 a3 b0 b1 b2 b3 f0 f1 f2 f3 e0 e1 e2 e3;rintro e X2 ⟨rfl,hbn⟩;replace hJ:=Lib.hid (hJ.out.below hbn);clear hbn;(have a0:=hJ.out.base.s.c 0 _ rfl;have a1:=hJ.out.base.s.c 1 _ rfl;have a2:=hJ.out.base.s.c 2 _ rfl;have a3:=hJ.out.base.s.c 3 _ rfl;have b0:=hJ.out.base.t.c 0 _ rfl;have b1:=hJ.out.base.t.c 1 _ rfl;have b2:=hJ.out.base.t.c 2 _ rfl;have b3:=hJ.out.base.t.c 3 _ rfl;have f0:=hJ.out.f.c 0 _ rfl;have f1:=hJ.out.f.c 1 _ rfl;have e0:=hJ.out.e.c 0 _ rfl;have e1:=hJ.out.e.c 1 _ rfl;have f2:=hJ.out.f.free 0 (by simp);have f3:=hJ.out.f.free 1 (by simp);have e2:=hJ.out.e.free 0 (by simp);have e3:=hJ.out.e.free 1 (by simp)))
   clear a0 a1 a2 a3 b0 b1 b2 b3 f0 f1 f2 f3 e0 e1 e2 e3
   refine (along_any s u.b s.b _ hs hu.b hs.b).mono ?_
   rintro e X3 ⟨rfl,hbn⟩
   replace hJ:=Lib.hid (hJ.out.below hbn)
   clear hbn
   (have a0:=hJ.out.base.s.c 0 _ rfl;have a1:=hJ.out.base.s.c 1 _ rfl;have a2:=hJ.out.base.s.c 2 _ rfl;have a3:=hJ.out.base.s.c 3 _ rfl;have b0:=hJ.out.base.t.c 0 _ rfl;have b1:=hJ.out.base.t.c 1 _ rfl;have b2:=hJ.out.base.t.c 2 _ rfl;have b3:=hJ.out.base.t.c 3 _ rfl;have f0:=hJ.out.f.c 0 _ rfl;have f1:=hJ.out.f.c 1 _ rfl;have e0:=hJ.out.e.c 0 _ rfl;have e1:=hJ.out.e.c 1 _ rfl;have f2:=hJ.out.f.free 0 (by simp);have f3:=hJ.out.f.free 1 (by simp);have e2:=hJ.out.e.free 0 (by simp);have e3:=hJ.out.e.free 1 (by simp))
   by_cases c2 : Cal.alongS s u.b s.b < 0
   ·have d2 : decide (Cal.alongS s u.b s.b < 0) = true:=decide_eq_true c2
    have hE : Hid (comT s t = (⟨s.a,u.b⟩,decide (Cal.alongS s s.a u.b < 0))):=by show _ = _;rw [hR.out,hF.out,if_pos c2]
    replace c2:=Lib.hid c2
    go_wp2_with fail
    replace hJ:=Lib.hid (hJ.out.setE u.b)
    obtain ⟨Y,hY⟩ : ∃ Y,(X3.setCell ⟨Be,0,none⟩ (.int .i64 u.b.x)).setCell ⟨Be,1,none⟩ (.int .i64 u.b.y) = Y:=⟨_,rfl⟩
    rw [hY] at hJ ⊢
    clear hY
    clear a0 a1 a2 a3 b0 b1 b2 b3 f0 f1 f2 f3 e0 e1 e2 e3
    refine wp_region_held_drew (S:=CmK w s Bf Be s.a u.b) (by kernel_rfl) (hJ.out.k.below ((Below.refl _ _).drew)) (fun hHeld=>?_)
    refine tkCx 0 54 ?_
    refine tkCx 1 55 ?_
    refine tkCx 2 56 ?_
    refine tkCx 3 57 ?_
    refine tkCx 4 58 ?_
    refine tkCx 5 59 ?_
    (refine ratHx 6 (fun K hK=>?_);go_simp)
    refine (along_any s s.a u.b _ hs hs.a hu.b).mono ?_
    rintro e9 wn ⟨rfl,hbn⟩
    go_simp
    refine hK.out _ _ (hHeld.below hbn) (fun hHeld=>?_)
    clear hK K hbn
    (try simp only [apS,apN,siA,scZ,scS])
    refine tkCx 7 61 ?_
    obtain ⟨z0,z1,z2,z3,hz⟩:=hHeld.z
    have r0:=hz.c 0 _ rfl
    have r1:=hz.c 1 _ rfl
    have r2:=hz.c 2 _ rfl
    have r3:=hz.c 3 _ rfl
    have g0:=hz.free 0 (by simp)
    have g1:=hz.free 1 (by simp)
    have g2:=hz.free 2 (by simp)
    have g3:=hz.free 3 (by simp)
    have hz9:=Lib.hid ((((hz.set 0 (.int .i64 s.a.x) (by simp)).set 1 (.int .i64 s.a.y) (by simp)).set 2 (.int .i64 u.b.x) (by simp)).set 3 (.int .i64 u.b.y) (by simp))
    (refine ratHx 8 (fun K hK=>?_);go_simp)
    refine hK.out _ _ ((((hHeld.store 0 (by omega) _).store 1 (by omega) _).store 2 (by omega) _).store 3 (by omega) _) (fun hHeld=>?_)
    clear hK K
    (try simp only [apS,apN,siA,scZ,scS])
    refine tkCx 9 5 ?_
    refine wpAnyH_done (by kernel_rfl) ?_ _
    go_wp2_with fail
    refine bodyPost_ret (results_mid2 rfl _ _ (w.heap.size + 1 + 1) [.int .i64 s.a.x,.int .i64 s.a.y,.int .i64 u.b.x,.int .i64 u.b.y] _ rfl hz9.out.range Try.underlying97 rfl sgSize) rfl ⟨(by rw [hE.out];rfl),hHeld.bel⟩
   ·have d2 : decide (Cal.alongS s u.b s.b < 0) = false:=decide_eq_false c2
    have hE : Hid (comT s t = (⟨s.a,s.b⟩,decide (Cal.alongS s s.a s.b < 0))):=by show _ = _;rw [hR.out,hF.out,if_neg c2]
    replace c2:=Lib.hid c2
    go_wp2_with fail
    clear a0 a1 a2 a3 b0 b1 b2 b3 f0 f1 f2 f3 e0 e1 e2 e3
    refine wp_region_held_drew (S:=CmK w s Bf Be s.a s.b) (by kernel_rfl) (hJ.out.k.below ((Below.refl _ _).drew)) (fun hHeld=>?_)
    refine tkCx 0 54 ?_
    refine tkCx 1 55 ?_
    refine tkCx 2 56 ?_
    refine tkCx 3 57 ?_
    refine tkCx 4 58 ?_
    refine tkCx 5 59 ?_
    (refine ratHx 6 (fun K hK=>?_);go_simp)
    refine (along_any s s.a s.b _ hs hs.a hs.b).mono ?_
    rintro e9 wn ⟨rfl,hbn⟩
    go_simp
    refine hK.out _ _ (hHeld.below hbn) (fun hHeld=>?_)
    clear hK K hbn
    (try simp only [apS,apN,siA,scZ,scS])
    refine tkCx 7 61 ?_
    obtain ⟨z0,z1,z2,z3,hz⟩:=hHeld.z
    have r0:=hz.c 0 _ rfl
    have r1:=hz.c 1 _ rfl
    have r2:=hz.c 2 _ rfl
    have r3:=hz.c 3 _ rfl
    have g0:=hz.free 0 (by simp)
    have g1:=hz.free 1 (by simp)
    have g2:=hz.free 2 (by simp)
    have g3:=hz.free 3 (by simp)
    have hz9:=Lib.hid ((((hz.set 0 (.int .i64 s.a.x) (by simp)).set 1 (.int .i64 s.a.y) (by simp)).set 2 (.int .i64 s.b.x) (by simp)).set 3 (.int .i64 s.b.y) (by simp))
    (refine ratHx 8 (fun K hK=>?_);go_simp)
    refine hK.out _ _ ((((hHeld.store 0 (by omega) _).store 1 (by omega) _).store 2 (by omega) _).store 3 (by omega) _) (fun hHeld=>?_)
    clear hK K
    (try simp only [apS,apN,siA,scZ,scS])
    refine tkCx 9 5 ?_
    refine wpAnyH_done (by kernel_rfl) ?_ _
    go_wp2_with fail
    refine bodyPost_ret (results_mid2 rfl _ _ (w.heap.size + 1 + 1) [.int .i64 s.a.x,.int .i64 s.a.y,.int .i64 s.b.x,.int .i64 s.b.y] _ rfl hz9.out.range Try.underlying97 rfl sgSize) rfl ⟨(by rw [hE.out];rfl),hHeld.bel⟩
end Go.Proofs.Ytfcjeejhdklkdaa
namespace Go.Proofs.Ytfcjeejhdklkdaa
open Go Go.RowKit Go.Shelf
theorem storeZ {P : Program} {ops : Array Oper} {Q : Exit → Act → World → Prop} {md : Region.Mode} {S : World → Prop} {y : Nat} (i : Nat) {op : Oper} {fuel : Nat} {listed : Array Bool} {a : Act} {w : World} (ty : TypeId) (e f : Operand) (b o : Nat) (cells : Array Value)
  (hr : Region.ready md ops listed = [i]) (ho : ops[i]? = some op) (hst : op.op = .store ty e f) (hl : (listed.setIfInBounds i true).getD y true = true) (hw : Region.wanted op (yielded ops a.tmps) = true)
  (hx : a.eval e = .pointer (some ⟨b,o,none⟩)) (hy : a.eval f = .agg cells) (ht : w.there b o cells.size) (hi : (P.info? ty).map (·.size) = some cells.size) (h1 : cells.all (·.oneCell') = true)
  (h : wpAnyHY P md ops Q S y fuel (listed.setIfInBounds i true) (a.put op.dst undef) (w.setCells b o cells.toList)) : wpAnyHY P md ops Q S y (fuel + 1) listed a w :=
 ratZc i hr ho hl (fun K hK=>by
  rw [if_pos hw]
  exact wp_store_mid ty e f hst b o cells hx hy ht hi h1 (hK.out _ _ h))
theorem sideR_any (V : Option Addr) (d : Nat) (ps : List Pt) (k : Nat) (w : World) (hP : PtsR w V ps) (hk : k < ps.length) (hl : ps.length ≤ 100000) : Calls Try.prog 67 #[.slice V ps.length d,.int .i64 k] w fun e w'=>e = .returned (.agg #[.int .i64 (Cal.sd ps k).a.x,.int .i64 (Cal.sd ps k).a.y,.int .i64 (Cal.sd ps k).b.x,.int .i64 (Cal.sd ps k).b.y]) ∧ Below w.heap.size w w':=by
 obtain ⟨q,hq⟩ : ∃ q,q = (k + 1) % ps.length:=⟨_,rfl⟩
 have hqlt : q < ps.length:=by rw [hq];exact Nat.mod_lt _ (by omega)
 have hq1 : ((k : Int) + 1).tmod (ps.length : Int) = (q : Int):=by rw [hq];rfl
 have hk1 : IntKind.i64.wrap ((k : Int) + 1) = (k : Int) + 1:=wrap_small (by omega) (by omega)
 have hq2 : IntKind.i64.wrap (q : Int) = (q : Int):=wrap_small (by omega) (by omega)
 have hne : ¬ ps.length = 0:=by omega
 have hsd : Cal.sd ps k = ⟨ps[k],ps[q]⟩:=by
  unfold Cal.sd
  rw [← hq,List.getElem?_eq_getElem hk,List.getElem?_eq_getElem hqlt]
  rfl
 rw [hsd]
 have hPr:=hP.rows.below (below_alloc w (.cells #[.int .i64 0,.int .i64 0,.int .i64 0,.int .i64 0] 97))
 obtain ⟨b,o,rfl,hbl,e0,e1⟩:=pts_at hPr (List.getElem?_eq_getElem hk)
 obtain ⟨b',o',hA,_,e2,e3⟩:=pts_at hPr (List.getElem?_eq_getElem hqlt)
 cases hA
 generalize ps[k] = pa at *
 generalize ps[q] = pc at *
 have hki : (k : Int) < (ps.length : Int):=by omega
 have hqi : (q : Int) < (ps.length : Int):=by omega
 have hz:=Lib.hid (BoxAt.new w #[.int .i64 0,.int .i64 0,.int .i64 0,.int .i64 0] 97)
 have hb:=Lib.hid (below_alloc w (.cells #[.int .i64 0,.int .i64 0,.int .i64 0,.int .i64 0] 97))
 clear hP hPr hq hsd
 go_enter Try.func67,Try.ntmps67
 go_wp2_with fail
 generalize hW1 : w.alloc (.cells #[.int .i64 0,.int .i64 0,.int .i64 0,.int .i64 0] 97) = W1 at *
 clear hW1
 have hzd:=Lib.hid (hz.out.below (Below.refl _ _).drew)
 have hbd:=Lib.hid hb.out.drew
 refine wp_region_heldZ (S:=Sx W1 [(b,o + k * 2,.int .i64 pa.x),(b,o + k * 2 + 1,.int .i64 pa.y),(b,o + q * 2,.int .i64 pc.x),(b,o + q * 2 + 1,.int .i64 pc.y)]) 13 (by kernel_rfl) (Sx.mk (by simp only [cs_iff_cons];exact ⟨e0,e1,e2,e3,cs_nil _⟩) (Below.refl _ _)).drew (fun hHeld=>?_)
 refine tkZx 0 5 ?_
 refine tkZx 1 6 ?_
 refine tkZx 2 7 ?_
 refine tkZx 3 8 ?_
 refine tkZx 4 9 ?_
 refine tkZx 5 10 ?_
 refine tkZx 6 11 ?_
 refine tkZx 7 12 ?_
 refine tkZx 8 13 ?_
 refine tkZx 9 14 ?_
 refine tkZx 10 15 ?_
 refine tkZx 11 16 ?_
 refine tkZx 12 17 ?_
 (try simp only [apS,apN,siA,scZ,scS])
 refine storeZ 13 97 (.tmp 4) (.tmp 17) w.heap.size 0 #[.int .i64 pa.x,.int .i64 pa.y,.int .i64 pc.x,.int .i64 pc.y] (by decide +kernel) (by exact rfl) (by exact rfl) (by decide +kernel) (by kernel_rfl) (by rfl) (by rfl) (by exact hzd.out.there) sgSize (by kernel_rfl) ?_
 (try simp only [apS,apN,siA,scZ,scS])
 refine wpAnyHY_done (by decide +kernel) ?_ _
 have h5:=Lib.hid (hzd.out.put [.int .i64 pa.x,.int .i64 pa.y,.int .i64 pc.x,.int .i64 pc.y] rfl)
 have hb5:=Lib.hid (below_of_grownB hbd.out (grown_setCells w.heap.size [.int .i64 pa.x,.int .i64 pa.y,.int .i64 pc.x,.int .i64 pc.y] 0 W1.drew) (Nat.le_refl _))
 go_wp2_with fail
 (try simp only [Exit.inBlock,Exit.then])
 refine bodyPost_ret (results_mid1 rfl _ _ w.heap.size [.int .i64 pa.x,.int .i64 pa.y,.int .i64 pc.x,.int .i64 pc.y] _ rfl h5.out.range Try.underlying97 rfl sgSize) rfl ⟨rfl,hb5.out⟩
end Go.Proofs.Ytfcjeejhdklkdaa
namespace Go.Proofs.Ytfcjeejhdklkdaa
open Go Go.RowKit Go.Shelf
theorem storeH {P : Program} {ops : Array Oper} {Q : Exit → Act → World → Prop} {md : Region.Mode} {S : World → Prop} (i : Nat) {op : Oper} {fuel : Nat} {listed : Array Bool} {a : Act} {w : World} (ty : TypeId) (e f : Operand) (b o : Nat) (cells : Array Value)
  (hr : Region.ready md ops listed = [i]) (ho : ops[i]? = some op) (hst : op.op = .store ty e f) (hw : Region.wanted op (yielded ops a.tmps) = true)
  (hx : a.eval e = .pointer (some ⟨b,o,none⟩)) (hy : a.eval f = .agg cells) (ht : w.there b o cells.size) (hi : (P.info? ty).map (·.size) = some cells.size) (h1 : cells.all (·.oneCell') = true)
  (hS : S (w.setCells b o cells.toList)) (h : S (w.setCells b o cells.toList) → wpAnyH P md ops Q S fuel (listed.setIfInBounds i true) (a.put op.dst undef) (w.setCells b o cells.toList)) : wpAnyH P md ops Q S (fuel + 1) listed a w :=
 wpAnyH_ready (rs:=[i]) hr (by simp) (AllReadyH.cons ho (fun K hK=>by
  rw [if_pos hw]
  exact wp_store_mid ty e f hst b o cells hx hy ht hi h1 (hK.out _ _ hS h)) AllReadyH.nil)
theorem BoxAt.asideC {W : World} {B b : Nat} {cs vs : List Value} (h : BoxAt W B cs) (hne : B ≠ b) : BoxAt (W.setCells b 0 vs) B cs :=
 h.grown (grown_setCells b vs 0 W) (fun e=>hne (by cases e;rfl))
theorem newBox {w W : World} {cs : Array Value} {t : TypeId} (_ : Sx w [] (W.alloc (.cells cs t))) : BoxAt (W.alloc (.cells cs t)) W.heap.size cs.toList:=BoxAt.new W cs t
theorem oldBox {w W : World} {o : Obj} {B : Nat} {cs : List Value} (_ : Sx w [] (W.alloc o)) (h : BoxAt W B cs) : BoxAt (W.alloc o) B cs:=h.alloc o
theorem ltBox {w W : World} {o : Obj} (h : Sx w [] W) (_ : Sx w [] (W.alloc o)) : w.heap.size ≤ W.heap.size:=h.bel.size
theorem storeP {P : Program} {ops : Array Oper} {Q : Exit → Act → World → Prop} {md : Region.Mode} {w W : World} {L : List (Nat × Nat × Value)} (i : Nat) (ty : TypeId) (e f : Operand) (b : Nat) {cs : List Value} (vs : List Value) {b1 b2 : Nat} {c1 c2 : List Value} {op : Oper} {fuel : Nat} {listed l' : Array Bool} {a a' : Act}
  (hb : w.heap.size ≤ b) (hL : ∀ x ∈ L,x.1 < w.heap.size) (hS : Sx w L W) (x : Hid (BoxAt W b cs)) (hl : vs.length = cs.length) (y1 : Hid (BoxAt W b1 c1)) (n1 : b1 ≠ b) (y2 : Hid (BoxAt W b2 c2)) (n2 : b2 ≠ b)
  (h : ∀ W',Sx w L W' → Hid (BoxAt W' b vs) → Hid (BoxAt W' b1 c1) → Hid (BoxAt W' b2 c2) → wpAnyH P md ops Q (Sx w L) fuel l' a' W')
  (ho : ops[i]? = some op:=by exact rfl) (hst : op.op = .store ty e f:=by exact rfl) (hr : Region.ready md ops listed = [i]:=by decide +kernel) (hw : Region.wanted op (yielded ops a.tmps) = true:=by kernel_rfl)
  (hx : a.eval e = .pointer (some ⟨b,0,none⟩):=by rfl) (hy : a.eval f = .agg vs.toArray:=by rfl) (hi : (P.info? ty).map (·.size) = some vs.toArray.size:=by kernel_rfl) (h1 : vs.toArray.all (·.oneCell') = true:=by kernel_rfl)
  (ha : a.put op.dst undef = a':=by ((try simp only [Act.put,List.setIfInBounds_toArray,List.set_cons_zero,List.set_cons_succ]);exact rfl))
  (hl' : listed.setIfInBounds i true = l':=by ((try simp only [List.setIfInBounds_toArray,List.set_cons_zero,List.set_cons_succ]);exact rfl)) : wpAnyH P md ops Q (Sx w L) (fuel + 1) listed a W:=by
 have hS2 : Sx w L (W.setCells b 0 vs):=⟨fun x hx=>(World.cell?_of_block (a:=⟨x.1,x.2.1,none⟩) ((grown_setCells b vs 0 W).block x.1 (Nat.lt_of_lt_of_le (hL x hx) hS.bel.size) (fun e=>by have:=hL x hx;have:=Option.some.inj e;omega))).trans (hS.cs x hx),below_of_grownB hS.bel (grown_setCells b vs 0 W) hb⟩
 refine storeH i ty e f b 0 vs.toArray hr ho hst hw hx hy ?_ hi h1 hS2 (fun h2=>?_)
 ·have:=x.out.there
  rw [← hl] at this
  exact this
 ·rw [ha,hl']
  exact h _ h2 (x.out.put vs hl) (y1.out.asideC n1) (y2.out.asideC n2)
end Go.Proofs.Ytfcjeejhdklkdaa
