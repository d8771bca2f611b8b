/- What the statements rest on: definitions and walks, part 15. -/
import Derived.Test.YthfokpchdlcidaaJ12
import Derived.Test.YthfokpchdlcidaaJ11
set_option maxRecDepth 100000
set_option maxHeartbeats 16000000
set_option linter.unusedSimpArgs false
set_option linter.unusedVariables false
namespace Go.Proofs.Ythfokpchdlcidaa
open Go Go.RowKit Go.Shelf
attribute [local go_sem] Oper.semAt_some
def comT (s t : Sd) : Sd × Bool :=
 if Cal.trn s t.a = 0 ∧ Cal.trn s t.b = 0 then
  (let t' : Sd:=if 0 < Cal.alongS s t.a t.b then ⟨t.b,t.a⟩ else t
   let f:=if 0 < Cal.alongS s t'.a s.a then t'.a else s.a
   let e:=if Cal.alongS s t'.b s.b < 0 then t'.b else s.b
   (⟨f,e⟩,decide (Cal.alongS s f e < 0)))
 else (⟨Cal.pt0,Cal.pt0⟩,false)
theorem comT_eq (s t : Sd) : Cal.commonS s t = if (comT s t).2 = true then some (comT s t).1 else none:=by
 unfold Cal.commonS comT
 split <;> simp
theorem CmI.below {w : World} {s t : Sd} {X Y : World} (h : CmI w s t X) (hb : Below X.heap.size X Y) : CmI w s t Y :=
 ⟨h.s.below hb,h.t.below hb,h.z.below hb,h.bel.trans (hb.mono h.bel.size)⟩
theorem CmI.swap {w : World} {s t : Sd} {X : World} (h : CmI w s t X) : CmI w s ⟨t.b,t.a⟩ ((((X.setCell ⟨w.heap.size + 1,0,none⟩ (.int .i64 t.b.x)).setCell ⟨w.heap.size + 1,1,none⟩ (.int .i64 t.b.y)).setCell ⟨w.heap.size + 1,2,none⟩ (.int .i64 t.a.x)).setCell ⟨w.heap.size + 1,3,none⟩ (.int .i64 t.a.y)):=by
 obtain ⟨h1,h2,h3,h4⟩:=h
 refine ⟨(((h1.off 0 _ (by omega)).off 1 _ (by omega)).off 2 _ (by omega)).off 3 _ (by omega),(((h2.set 0 _ (by simp)).set 1 _ (by simp)).set 2 _ (by simp)).set 3 _ (by simp),(((h3.off 0 _ (by omega)).off 1 _ (by omega)).off 2 _ (by omega)).off 3 _ (by omega),?_⟩
 exact (((h4.setCell (p:=⟨w.heap.size + 1,0,none⟩) (Nat.le_succ _) _).setCell (p:=⟨w.heap.size + 1,1,none⟩) (Nat.le_succ _) _).setCell (p:=⟨w.heap.size + 1,2,none⟩) (Nat.le_succ _) _).setCell (p:=⟨w.heap.size + 1,3,none⟩) (Nat.le_succ _) _
theorem CmJ.below {w : World} {s t : Sd} {Bf Be : Nat} {f e : Pt} {X Y : World} (h : CmJ w s t Bf Be f e X) (hb : Below X.heap.size X Y) : CmJ w s t Bf Be f e Y :=
 ⟨h.base.below hb,h.f.below hb,h.e.below hb,h.ne,h.hf,h.he⟩
theorem CmJ.new {w : World} {s t : Sd} {X : World} (h : CmI w s t X) (f e : Pt) : CmJ w s t X.heap.size (X.heap.size + 1) f e ((X.alloc (.cells #[.int .i64 f.x,.int .i64 f.y] 40)).alloc (.cells #[.int .i64 e.x,.int .i64 e.y] 40)).drew:=by
 have hz:=h.z.lt
 have hb : Below X.heap.size X ((X.alloc (.cells #[.int .i64 f.x,.int .i64 f.y] 40)).alloc (.cells #[.int .i64 e.x,.int .i64 e.y] 40)).drew:=((Below.refl _ _).alloc (Nat.le_refl _) _ |>.alloc (by simp) _).drew
 have he:=BoxAt.new (X.alloc (.cells #[.int .i64 f.x,.int .i64 f.y] 40)) #[.int .i64 e.x,.int .i64 e.y] 40
 simp only [World.size_alloc] at he
 exact ⟨h.below hb,((BoxAt.new X #[.int .i64 f.x,.int .i64 f.y] 40).alloc _).below ((Below.refl _ _).drew),he.below ((Below.refl _ _).drew),by omega,by omega,by omega⟩
theorem CmJ.flip {w : World} {s t : Sd} {Bf Be : Nat} {f e : Pt} {X : World} (h : CmJ w s t Bf Be f e X) : CmJ w s t Be Bf e f X:=⟨h.base,h.e,h.f,h.ne.symm,h.he,h.hf⟩
theorem CmI.off {w : World} {s t : Sd} {X : World} (h : CmI w s t X) {B : Nat} (hB : w.heap.size + 1 + 1 < B) (o : Nat) (v : Value) : CmI w s t (X.setCell ⟨B,o,none⟩ v) :=
 ⟨h.s.off o v (by omega),h.t.off o v (by omega),h.z.off o v (by omega),h.bel.setCell (p:=⟨B,o,none⟩) (show w.heap.size ≤ B by omega) v⟩
theorem CmJ.setF {w : World} {s t : Sd} {Bf Be : Nat} {f e : Pt} {X : World} (h : CmJ w s t Bf Be f e X) (p : Pt) : CmJ w s t Bf Be p e ((X.setCell ⟨Bf,0,none⟩ (.int .i64 p.x)).setCell ⟨Bf,1,none⟩ (.int .i64 p.y)):=by
 obtain ⟨h1,h2,h3,h4,h5,h6⟩:=h
 exact ⟨(h1.off h5 0 _).off h5 1 _,(h2.set 0 _ (by simp)).set 1 _ (by simp),(h3.off 0 _ (by omega)).off 1 _ (by omega),h4,h5,h6⟩
theorem CmJ.setE {w : World} {s t : Sd} {Bf Be : Nat} {f e : Pt} {X : World} (h : CmJ w s t Bf Be f e X) (p : Pt) : CmJ w s t Bf Be f p ((X.setCell ⟨Be,0,none⟩ (.int .i64 p.x)).setCell ⟨Be,1,none⟩ (.int .i64 p.y)):=(h.flip.setF p).flip
theorem CmK.below {w : World} {s : Sd} {Bf Be : Nat} {f e : Pt} {X Y : World} (h : CmK w s Bf Be f e X) (hb : Below X.heap.size X Y) : CmK w s Bf Be f e Y:=by
 obtain ⟨h1,⟨_,_,_,_,h2⟩,h3,h4,h5,h6,h7⟩:=h
 exact ⟨h1.below hb,⟨_,_,_,_,h2.below hb⟩,h3.below hb,h4.below hb,h5.trans (hb.mono h5.size),h6,h7⟩
theorem CmK.store {w : World} {s : Sd} {Bf Be : Nat} {f e : Pt} {X : World} (h : CmK w s Bf Be f e X) (o : Nat) (ho : o < 4) (v : Value) : CmK w s Bf Be f e (X.setCell ⟨w.heap.size + 1 + 1,o,none⟩ v):=by
 obtain ⟨h1,⟨z0,z1,z2,z3,h2⟩,h3,h4,h5,h6,h7⟩:=h
 refine ⟨h1.off o v (by omega),?_,h3.off o v (by omega),h4.off o v (by omega),h5.setCell (p:=⟨w.heap.size + 1 + 1,o,none⟩) (show w.heap.size ≤ w.heap.size + 1 + 1 by omega) v,h6,h7⟩
 have h:=h2.set o v (by simpa using ho)
 match o,ho,h with
 | 0,_,h=>exact ⟨_,_,_,_,h⟩
 | 1,_,h=>exact ⟨_,_,_,_,h⟩
 | 2,_,h=>exact ⟨_,_,_,_,h⟩
 | 3,_,h=>exact ⟨_,_,_,_,h⟩
theorem tkCx {P : Program} {ops : Array Oper} {Q : Exit → Act → World → Prop} {md : Region.Mode} {S : World → Prop} (i : Nat) (d : Nat) {oi : Oper} {v : Value} {fuel : Nat} {listed l' : Array Bool} {a a' : Act} {w : World}
  (h : wpAnyH P md ops Q S fuel l' a' w) (hi : ops[i]? = some oi:=by exact rfl)
  (hy : ∀ w,S w → (execOp a.eval oi).run P w = .ok (.value v) w:=by (intro w' hSw;have a0:=hSw.s.c 0 _ rfl;have a1:=hSw.s.c 1 _ rfl;have a2:=hSw.s.c 2 _ rfl;have a3:=hSw.s.c 3 _ rfl;have f0:=hSw.f.c 0 _ rfl;have f1:=hSw.f.c 1 _ rfl;have e0:=hSw.e.c 0 _ rfl;have e1:=hSw.e.c 1 _ rfl;go_simp;(try with_reducible rfl)))
  (ha : a.put (some d) v = a':=by ((try simp only [Act.put,List.setIfInBounds_toArray,List.set_cons_zero,List.set_cons_succ]);exact rfl))
  (hl : listed.setIfInBounds i true = l':=by ((try simp only [List.setIfInBounds_toArray,List.set_cons_zero,List.set_cons_succ]);exact rfl))
  (hdd : oi.dst = some d:=by kernel_rfl) (hs : Region.noSelect ops = true:=by kernel_rfl) (hf : Region.free md ops listed i = true:=by decide +kernel) (hr : (Region.ready md ops listed).contains i = true:=by decide +kernel)
  (hQ : ∀ c a w,Q (.panic c) (a.put oi.dst v) w → Q (.panic c) a w:=by exact fun _ _ _ h=>h) (hw : Region.wanted oi (yielded ops a.tmps) = true:=by kernel_rfl) (hS : S w:=by assumption) : wpAnyH P md ops Q S (fuel + 1) listed a w :=
 tkH2 i d hy (by rw [ha,hl];exact h) hi hdd hs hf hr hQ hw hS
theorem common_t (s t : Sd) (w : World) (hs : SmS s) (ht : SmS t) (h1 : Cal.trn s t.a = 0) (h2 : Cal.trn s t.b = 0) (h3 : ¬ 0 < Cal.alongS s t.a t.b) :
  Calls Try.prog 89 #[.agg #[.int .i64 s.a.x,.int .i64 s.a.y,.int .i64 s.b.x,.int .i64 s.b.y],.agg #[.int .i64 t.a.x,.int .i64 t.a.y,.int .i64 t.b.x,.int .i64 t.b.y]] w fun e w'=>e = .returned (.tuple #[.agg #[.int .i64 (comT s t).1.a.x,.int .i64 (comT s t).1.a.y,.int .i64 (comT s t).1.b.x,.int .i64 (comT s t).1.b.y],.bool (comT s t).2]) ∧ Below w.heap.size w w':=by
 have hmo : (Try.prog).follows Departure.mixedOrders = true:=by kernel_rfl
 obtain ⟨u,hut⟩ : ∃ u,u = t:=⟨_,rfl⟩
 have hu : SmS u:=hut ▸ ht
 have hR : Hid (comT s t = (⟨if 0 < Cal.alongS s u.a s.a then u.a else s.a,if Cal.alongS s u.b s.b < 0 then u.b else s.b⟩,decide (Cal.alongS s (if 0 < Cal.alongS s u.a s.a then u.a else s.a) (if Cal.alongS s u.b s.b < 0 then u.b else s.b) < 0))):=by show _ = _;unfold comT;rw [if_pos ⟨h1,h2⟩,if_neg h3,hut]
 replace hut:=Lib.hid hut
 have d3 : decide (0 < Cal.alongS s t.a t.b) = false:=decide_eq_false h3
 replace h1:=Lib.hid h1
 replace h2:=Lib.hid h2
 replace h3:=Lib.hid h3
 have hI:=Lib.hid (CmI.first w s t)
 have m1 : Hid True:=trivial
 go_enter Try.func89,Try.ntmps89
 go_wp2_with (first
  |(go_at_call 81;clear m1;refine (turn_any s t.a _ hs ht.a).mono ?_;rintro e wn ⟨rfl,hbn⟩;rw [h1.out];replace hI:=Lib.hid (hI.out.below hbn);clear hbn;have a0:=hI.out.s.c 0 _ rfl;have a1:=hI.out.s.c 1 _ rfl;have a2:=hI.out.s.c 2 _ rfl;have a3:=hI.out.s.c 3 _ rfl;have b0:=hI.out.t.c 0 _ rfl;have b1:=hI.out.t.c 1 _ rfl;have b2:=hI.out.t.c 2 _ rfl;have b3:=hI.out.t.c 3 _ rfl;have f0:=hI.out.t.free 0 (by simp);have f1:=hI.out.t.free 1 (by simp);have f2:=hI.out.t.free 2 (by simp);have f3:=hI.out.t.free 3 (by simp))
  |(go_at_call 81;refine (turn_any s t.b _ hs ht.b).mono ?_;clear a0 a1 a2 a3 b0 b1 b2 b3 f0 f1 f2 f3;rintro e wn ⟨rfl,hbn⟩;rw [h2.out];replace hI:=Lib.hid (hI.out.below hbn);clear hbn;have a0:=hI.out.s.c 0 _ rfl;have a1:=hI.out.s.c 1 _ rfl;have a2:=hI.out.s.c 2 _ rfl;have a3:=hI.out.s.c 3 _ rfl;have b0:=hI.out.t.c 0 _ rfl;have b1:=hI.out.t.c 1 _ rfl;have b2:=hI.out.t.c 2 _ rfl;have b3:=hI.out.t.c 3 _ rfl;have f0:=hI.out.t.free 0 (by simp);have f1:=hI.out.t.free 1 (by simp);have f2:=hI.out.t.free 2 (by simp);have f3:=hI.out.t.free 3 (by simp))
  |(go_at_call 111;refine (along_any s t.a t.b _ hs ht.a ht.b).mono ?_;clear a0 a1 a2 a3 b0 b1 b2 b3 f0 f1 f2 f3;rintro e wn ⟨rfl,hbn⟩;replace hI:=Lib.hid (hI.out.below hbn);clear hbn;have a0:=hI.out.s.c 0 _ rfl;have a1:=hI.out.s.c 1 _ rfl;have a2:=hI.out.s.c 2 _ rfl;have a3:=hI.out.s.c 3 _ rfl;have b0:=hI.out.t.c 0 _ rfl;have b1:=hI.out.t.c 1 _ rfl;have b2:=hI.out.t.c 2 _ rfl;have b3:=hI.out.t.c 3 _ rfl;have f0:=hI.out.t.free 0 (by simp);have f1:=hI.out.t.free 1 (by simp);have f2:=hI.out.t.free 2 (by simp);have f3:=hI.out.t.free 3 (by simp)))
 have l0:=hI.out.s.lt
 have l1:=hI.out.t.lt
 have l2:=hI.out.z.lt
 have n0 : ¬ w.heap.size = wn.heap.size:=by omega
 have n1 : ¬ w.heap.size + 1 = wn.heap.size:=by omega
 have n2 : ¬ w.heap.size + 1 + 1 = wn.heap.size:=by omega
 have hJ1:=Lib.hid (CmJ.new hI.out s.a s.b)
 have hJ2:=Lib.hid (CmJ.new hI.out s.b s.a).flip
 clear d3
 go_region_o
 ·clear n0 n1 n2 hJ2 l0 l1 l2
  clear a0 a1 a2 a3 b0 b1 b2 b3 f0 f1 f2 f3
  obtain ⟨Bf,hn⟩ : ∃ n,wn.heap.size = n:=⟨_,rfl⟩
  generalize ((wn.alloc (.cells #[.int .i64 s.a.x,.int .i64 s.a.y] 40)).alloc (.cells #[.int .i64 s.b.x,.int .i64 s.b.y] 40)).drew = X at hJ1 ⊢
  rw [hn] at hJ1 ⊢
  clear hI hn
  obtain ⟨Be,hBe⟩ : ∃ B,Bf + 1 = B:=⟨_,rfl⟩
  rw [hBe] at hJ1 ⊢
  clear hBe
  rw [← hut.out] at hJ1
  have hJ:=hJ1
  clear hJ1
  have k0:=hJ.out.hf
  have k1:=hJ.out.he
  have k2:=hJ.out.ne
  have n0 : ¬ Bf = Be:=k2
  have n1 : ¬ Be = Bf:=fun e=>k2 e.symm
  have n2 : ¬ Bf = w.heap.size:=by omega
  have n3 : ¬ Bf = w.heap.size + 1:=by omega
  have n4 : ¬ Be = w.heap.size:=by omega
  have n5 : ¬ Be = w.heap.size + 1:=by omega
  clear k2
  (have a0:=hJ.out.base.s.c 0 _ rfl;have a1:=hJ.out.base.s.c 1 _ rfl;have a2:=hJ.out.base.s.c 2 _ rfl;have a3:=hJ.out.base.s.c 3 _ rfl;have b0:=hJ.out.base.t.c 0 _ rfl;have b1:=hJ.out.base.t.c 1 _ rfl;have b2:=hJ.out.base.t.c 2 _ rfl;have b3:=hJ.out.base.t.c 3 _ rfl;have f0:=hJ.out.f.c 0 _ rfl;have f1:=hJ.out.f.c 1 _ rfl;have e0:=hJ.out.e.c 0 _ rfl;have e1:=hJ.out.e.c 1 _ rfl;have f2:=hJ.out.f.free 0 (by simp);have f3:=hJ.out.f.free 1 (by simp);have e2:=hJ.out.e.free 0 (by simp);have e3:=hJ.out.e.free 1 (by simp))
  by_cases c1 : 0 < Cal.alongS s u.a s.a
  ·have d1 : decide (0 < Cal.alongS s u.a s.a) = true:=decide_eq_true c1
   have hF : Hid ((if 0 < Cal.alongS s u.a s.a then u.a else s.a) = u.a):=if_pos c1
   replace c1:=Lib.hid c1
   have m2 : Hid True:=trivial
   go_wp2_with (go_at_call 111;clear m2;refine (along_any s u.a s.a _ hs hu.a hs.a).mono ?_;clear a0 a1 a2 a3 b0 b1 b2 b3 f0 f1 f2 f3 e0 e1 e2 e3;rintro e X2 ⟨rfl,hbn⟩;replace hJ:=Lib.hid (hJ.out.below hbn);clear hbn;(have a0:=hJ.out.base.s.c 0 _ rfl;have a1:=hJ.out.base.s.c 1 _ rfl;have a2:=hJ.out.base.s.c 2 _ rfl;have a3:=hJ.out.base.s.c 3 _ rfl;have b0:=hJ.out.base.t.c 0 _ rfl;have b1:=hJ.out.base.t.c 1 _ rfl;have b2:=hJ.out.base.t.c 2 _ rfl;have b3:=hJ.out.base.t.c 3 _ rfl;have f0:=hJ.out.f.c 0 _ rfl;have f1:=hJ.out.f.c 1 _ rfl;have e0:=hJ.out.e.c 0 _ rfl;have e1:=hJ.out.e.c 1 _ rfl;have f2:=hJ.out.f.free 0 (by simp);have f3:=hJ.out.f.free 1 (by simp);have e2:=hJ.out.e.free 0 (by simp);have e3:=hJ.out.e.free 1 (by simp)))
   replace hJ:=Lib.hid (hJ.out.setF u.a)
   clear a0 a1 a2 a3 b0 b1 b2 b3 f0 f1 f2 f3 e0 e1 e2 e3
   refine (along_any s u.b s.b _ hs hu.b hs.b).mono ?_
   rintro e X3 ⟨rfl,hbn⟩
   replace hJ:=Lib.hid (hJ.out.below hbn)
   clear hbn
   (have a0:=hJ.out.base.s.c 0 _ rfl;have a1:=hJ.out.base.s.c 1 _ rfl;have a2:=hJ.out.base.s.c 2 _ rfl;have a3:=hJ.out.base.s.c 3 _ rfl;have b0:=hJ.out.base.t.c 0 _ rfl;have b1:=hJ.out.base.t.c 1 _ rfl;have b2:=hJ.out.base.t.c 2 _ rfl;have b3:=hJ.out.base.t.c 3 _ rfl;have f0:=hJ.out.f.c 0 _ rfl;have f1:=hJ.out.f.c 1 _ rfl;have e0:=hJ.out.e.c 0 _ rfl;have e1:=hJ.out.e.c 1 _ rfl;have f2:=hJ.out.f.free 0 (by simp);have f3:=hJ.out.f.free 1 (by simp);have e2:=hJ.out.e.free 0 (by simp);have e3:=hJ.out.e.free 1 (by simp))
   by_cases c2 : Cal.alongS s u.b s.b < 0
   ·have d2 : decide (Cal.alongS s u.b s.b < 0) = true:=decide_eq_true c2
    have hE : Hid (comT s t = (⟨u.a,u.b⟩,decide (Cal.alongS s u.a u.b < 0))):=by show _ = _;rw [hR.out,hF.out,if_pos c2]
    replace c2:=Lib.hid c2
    go_wp2_with fail
    replace hJ:=Lib.hid (hJ.out.setE u.b)
    obtain ⟨Y,hY⟩ : ∃ Y,(X3.setCell ⟨Be,0,none⟩ (.int .i64 u.b.x)).setCell ⟨Be,1,none⟩ (.int .i64 u.b.y) = Y:=⟨_,rfl⟩
    rw [hY] at hJ ⊢
    clear hY
    clear a0 a1 a2 a3 b0 b1 b2 b3 f0 f1 f2 f3 e0 e1 e2 e3
    refine wp_region_held_drew (S:=CmK w s Bf Be u.a u.b) (by kernel_rfl) (hJ.out.k.below ((Below.refl _ _).drew)) (fun hHeld=>?_)
    refine tkCx 0 54 ?_
    refine tkCx 1 55 ?_
    refine tkCx 2 56 ?_
    refine tkCx 3 57 ?_
    refine tkCx 4 58 ?_
    refine tkCx 5 59 ?_
    (refine ratHx 6 (fun K hK=>?_);go_simp)
    refine (along_any s u.a u.b _ hs hu.a hu.b).mono ?_
    rintro e9 wn ⟨rfl,hbn⟩
    go_simp
    refine hK.out _ _ (hHeld.below hbn) (fun hHeld=>?_)
    clear hK K hbn
    (try simp only [apS,apN,siA,scZ,scS])
    refine tkCx 7 61 ?_
    obtain ⟨z0,z1,z2,z3,hz⟩:=hHeld.z
    have r0:=hz.c 0 _ rfl
    have r1:=hz.c 1 _ rfl
    have r2:=hz.c 2 _ rfl
    have r3:=hz.c 3 _ rfl
    have g0:=hz.free 0 (by simp)
    have g1:=hz.free 1 (by simp)
    have g2:=hz.free 2 (by simp)
    have g3:=hz.free 3 (by simp)
    have hz9:=Lib.hid ((((hz.set 0 (.int .i64 u.a.x) (by simp)).set 1 (.int .i64 u.a.y) (by simp)).set 2 (.int .i64 u.b.x) (by simp)).set 3 (.int .i64 u.b.y) (by simp))
    (refine ratHx 8 (fun K hK=>?_);go_simp)
    refine hK.out _ _ ((((hHeld.store 0 (by omega) _).store 1 (by omega) _).store 2 (by omega) _).store 3 (by omega) _) (fun hHeld=>?_)
    clear hK K
    (try simp only [apS,apN,siA,scZ,scS])
    refine tkCx 9 5 ?_
    refine wpAnyH_done (by kernel_rfl) ?_ _
    go_wp2_with fail
    refine bodyPost_ret (results_mid2 rfl _ _ (w.heap.size + 1 + 1) [.int .i64 u.a.x,.int .i64 u.a.y,.int .i64 u.b.x,.int .i64 u.b.y] _ rfl hz9.out.range Try.underlying72 rfl sgSize) rfl ⟨(by rw [hE.out];rfl),hHeld.bel⟩
   ·have d2 : decide (Cal.alongS s u.b s.b < 0) = false:=decide_eq_false c2
    have hE : Hid (comT s t = (⟨u.a,s.b⟩,decide (Cal.alongS s u.a s.b < 0))):=by show _ = _;rw [hR.out,hF.out,if_neg c2]
    replace c2:=Lib.hid c2
    go_wp2_with fail
    clear a0 a1 a2 a3 b0 b1 b2 b3 f0 f1 f2 f3 e0 e1 e2 e3
    refine wp_region_held_drew (S:=CmK w s Bf Be u.a s.b) (by kernel_rfl) (hJ.out.k.below ((Below.refl _ _).drew)) (fun hHeld=>?_)
    refine tkCx 0 54 ?_
    refine tkCx 1 55 ?_
    refine tkCx 2 56 ?_
    refine tkCx 3 57 ?_
    refine tkCx 4 58 ?_
    refine tkCx 5 59 ?_
    (refine ratHx 6 (fun K hK=>?_);go_simp)
    refine (along_any s u.a s.b _ hs hu.a hs.b).mono ?_
    rintro e9 wn ⟨rfl,hbn⟩
    go_simp
    refine hK.out _ _ (hHeld.below hbn) (fun hHeld=>?_)
    clear hK K hbn
    (try simp only [apS,apN,siA,scZ,scS])
    refine tkCx 7 61 ?_
    obtain ⟨z0,z1,z2,z3,hz⟩:=hHeld.z
    have r0:=hz.c 0 _ rfl
    have r1:=hz.c 1 _ rfl
    have r2:=hz.c 2 _ rfl
    have r3:=hz.c 3 _ rfl
    have g0:=hz.free 0 (by simp)
    have g1:=hz.free 1 (by simp)
    have g2:=hz.free 2 (by simp)
    have g3:=hz.free 3 (by simp)
    have hz9:=Lib.hid ((((hz.set 0 (.int .i64 u.a.x) (by simp)).set 1 (.int .i64 u.a.y) (by simp)).set 2 (.int .i64 s.b.x) (by simp)).set 3 (.int .i64 s.b.y) (by simp))
    (refine ratHx 8 (fun K hK=>?_);go_simp)
    refine hK.out _ _ ((((hHeld.store 0 (by omega) _).store 1 (by omega) _).store 2 (by omega) _).store 3 (by omega) _) (fun hHeld=>?_)
    clear hK K
    (try simp only [apS,apN,siA,scZ,scS])
    refine tkCx 9 5 ?_
    refine wpAnyH_done (by kernel_rfl) ?_ _
    go_wp2_with fail
    refine bodyPost_ret (results_mid2 rfl _ _ (w.heap.size + 1 + 1) [.int .i64 u.a.x,.int .i64 u.a.y,.int .i64 s.b.x,.int .i64 s.b.y] _ rfl hz9.out.range Try.underlying72 rfl sgSize) rfl ⟨(by rw [hE.out];rfl),hHeld.bel⟩
  ·have d1 : decide (0 < Cal.alongS s u.a s.a) = false:=decide_eq_false c1
   have hF : Hid ((if 0 < Cal.alongS s u.a s.a then u.a else s.a) = s.a):=if_neg c1
   replace c1:=Lib.hid c1
   have m2 : Hid True:=trivial
   go_wp2_with (go_at_call 111;clear m2;refine (along_any s u.a s.a _ hs hu.a hs.a).mono ?_;clear a0 a1 a2 a3 b0 b1 b2 b3 f0 f1 f2 f3 e0 e1 e2 e3;rintro e X2 ⟨rfl,hbn⟩;replace hJ:=Lib.hid (hJ.out.below hbn);clear hbn;(have a0:=hJ.out.base.s.c 0 _ rfl;have a1:=hJ.out.base.s.c 1 _ rfl;have a2:=hJ.out.base.s.c 2 _ rfl;have a3:=hJ.out.base.s.c 3 _ rfl;have b0:=hJ.out.base.t.c 0 _ rfl;have b1:=hJ.out.base.t.c 1 _ rfl;have b2:=hJ.out.base.t.c 2 _ rfl;have b3:=hJ.out.base.t.c 3 _ rfl;have f0:=hJ.out.f.c 0 _ rfl;have f1:=hJ.out.f.c 1 _ rfl;have e0:=hJ.out.e.c 0 _ rfl;have e1:=hJ.out.e.c 1 _ rfl;have f2:=hJ.out.f.free 0 (by simp);have f3:=hJ.out.f.free 1 (by simp);have e2:=hJ.out.e.free 0 (by simp);have e3:=hJ.out.e.free 1 (by simp)))
   clear a0 a1 a2 a3 b0 b1 b2 b3 f0 f1 f2 f3 e0 e1 e2 e3
   refine (along_any s u.b s.b _ hs hu.b hs.b).mono ?_
   rintro e X3 ⟨rfl,hbn⟩
   replace hJ:=Lib.hid (hJ.out.below hbn)
   clear hbn
   (have a0:=hJ.out.base.s.c 0 _ rfl;have a1:=hJ.out.base.s.c 1 _ rfl;have a2:=hJ.out.base.s.c 2 _ rfl;have a3:=hJ.out.base.s.c 3 _ rfl;have b0:=hJ.out.base.t.c 0 _ rfl;have b1:=hJ.out.base.t.c 1 _ rfl;have b2:=hJ.out.base.t.c 2 _ rfl;have b3:=hJ.out.base.t.c 3 _ rfl;have f0:=hJ.out.f.c 0 _ rfl;have f1:=hJ.out.f.c 1 _ rfl;have e0:=hJ.out.e.c 0 _ rfl;have e1:=hJ.out.e.c 1 _ rfl;have f2:=hJ.out.f.free 0 (by simp);have f3:=hJ.out.f.free 1 (by simp);have e2:=hJ.out.e.free 0 (by simp);have e3:=hJ.out.e.free 1 (by simp))
   by_cases c2 : Cal.alongS s u.b s.b < 0
   ·have d2 : decide (Cal.alongS s u.b s.b < 0) = true:=decide_eq_true c2
    have hE : Hid (comT s t = (⟨s.a,u.b⟩,decide (Cal.alongS s s.a u.b < 0))):=by show _ = _;rw [hR.out,hF.out,if_pos c2]
    replace c2:=Lib.hid c2
    go_wp2_with fail
    replace hJ:=Lib.hid (hJ.out.setE u.b)
    obtain ⟨Y,hY⟩ : ∃ Y,(X3.setCell ⟨Be,0,none⟩ (.int .i64 u.b.x)).setCell ⟨Be,1,none⟩ (.int .i64 u.b.y) = Y:=⟨_,rfl⟩
    rw [hY] at hJ ⊢
    clear hY
    clear a0 a1 a2 a3 b0 b1 b2 b3 f0 f1 f2 f3 e0 e1 e2 e3
    refine wp_region_held_drew (S:=CmK w s Bf Be s.a u.b) (by kernel_rfl) (hJ.out.k.below ((Below.refl _ _).drew)) (fun hHeld=>?_)
    refine tkCx 0 54 ?_
    refine tkCx 1 55 ?_
    refine tkCx 2 56 ?_
    refine tkCx 3 57 ?_
    refine tkCx 4 58 ?_
    refine tkCx 5 59 ?_
    (refine ratHx 6 (fun K hK=>?_);go_simp)
    refine (along_any s s.a u.b _ hs hs.a hu.b).mono ?_
    rintro e9 wn ⟨rfl,hbn⟩
    go_simp
    refine hK.out _ _ (hHeld.below hbn) (fun hHeld=>?_)
    clear hK K hbn
    (try simp only [apS,apN,siA,scZ,scS])
    refine tkCx 7 61 ?_
    obtain ⟨z0,z1,z2,z3,hz⟩:=hHeld.z
    have r0:=hz.c 0 _ rfl
    have r1:=hz.c 1 _ rfl
    have r2:=hz.c 2 _ rfl
    have r3:=hz.c 3 _ rfl
    have g0:=hz.free 0 (by simp)
    have g1:=hz.free 1 (by simp)
    have g2:=hz.free 2 (by simp)
    have g3:=hz.free 3 (by simp)
    have hz9:=Lib.hid ((((hz.set 0 (.int .i64 s.a.x) (by simp)).set 1 (.int .i64 s.a.y) (by simp)).set 2 (.int .i64 u.b.x) (by simp)).set 3 (.int .i64 u.b.y) (by simp))
    (refine ratHx 8 (fun K hK=>?_);go_simp)
    refine hK.out _ _ ((((hHeld.store 0 (by omega) _).store 1 (by omega) _).store 2 (by omega) _).store 3 (by omega) _) (fun hHeld=>?_)
    clear hK K
    (try simp only [apS,apN,siA,scZ,scS])
    refine tkCx 9 5 ?_
    refine wpAnyH_done (by kernel_rfl) ?_ _
    go_wp2_with fail
    refine bodyPost_ret (results_mid2 rfl _ _ (w.heap.size + 1 + 1) [.int .i64 s.a.x,.int .i64 s.a.y,.int .i64 u.b.x,.int .i64 u.b.y] _ rfl hz9.out.range Try.underlying72 rfl sgSize) rfl ⟨(by rw [hE.out];rfl),hHeld.bel⟩
   ·have d2 : decide (Cal.alongS s u.b s.b < 0) = false:=decide_eq_false c2
    have hE : Hid (comT s t = (⟨s.a,s.b⟩,decide (Cal.alongS s s.a s.b < 0))):=by show _ = _;rw [hR.out,hF.out,if_neg c2]
    replace c2:=Lib.hid c2
    go_wp2_with fail
    clear a0 a1 a2 a3 b0 b1 b2 b3 f0 f1 f2 f3 e0 e1 e2 e3
    refine wp_region_held_drew (S:=CmK w s Bf Be s.a s.b) (by kernel_rfl) (hJ.out.k.below ((Below.refl _ _).drew)) (fun hHeld=>?_)
    refine tkCx 0 54 ?_
    refine tkCx 1 55 ?_
    refine tkCx 2 56 ?_
    refine tkCx 3 57 ?_
    refine tkCx 4 58 ?_
    refine tkCx 5 59 ?_
    (refine ratHx 6 (fun K hK=>?_);go_simp)
    refine (along_any s s.a s.b _ hs hs.a hs.b).mono ?_
    rintro e9 wn ⟨rfl,hbn⟩
    go_simp
    refine hK.out _ _ (hHeld.below hbn) (fun hHeld=>?_)
    clear hK K hbn
    (try simp only [apS,apN,siA,scZ,scS])
    refine tkCx 7 61 ?_
    obtain ⟨z0,z1,z2,z3,hz⟩:=hHeld.z
    have r0:=hz.c 0 _ rfl
    have r1:=hz.c 1 _ rfl
    have r2:=hz.c 2 _ rfl
    have r3:=hz.c 3 _ rfl
    have g0:=hz.free 0 (by simp)
    have g1:=hz.free 1 (by simp)
    have g2:=hz.free 2 (by simp)
    have g3:=hz.free 3 (by simp)
    have hz9:=Lib.hid ((((hz.set 0 (.int .i64 s.a.x) (by simp)).set 1 (.int .i64 s.a.y) (by simp)).set 2 (.int .i64 s.b.x) (by simp)).set 3 (.int .i64 s.b.y) (by simp))
    (refine ratHx 8 (fun K hK=>?_);go_simp)
    refine hK.out _ _ ((((hHeld.store 0 (by omega) _).store 1 (by omega) _).store 2 (by omega) _).store 3 (by omega) _) (fun hHeld=>?_)
    clear hK K
    (try simp only [apS,apN,siA,scZ,scS])
    refine tkCx 9 5 ?_
    refine wpAnyH_done (by kernel_rfl) ?_ _
    go_wp2_with fail
    refine bodyPost_ret (results_mid2 rfl _ _ (w.heap.size + 1 + 1) [.int .i64 s.a.x,.int .i64 s.a.y,.int .i64 s.b.x,.int .i64 s.b.y] _ rfl hz9.out.range Try.underlying72 rfl sgSize) rfl ⟨(by rw [hE.out];rfl),hHeld.bel⟩
 ·clear n0 n1 n2 hJ1 l0 l1 l2
  clear a0 a1 a2 a3 b0 b1 b2 b3 f0 f1 f2 f3
  obtain ⟨Be,hn⟩ : ∃ n,wn.heap.size = n:=⟨_,rfl⟩
  generalize ((wn.alloc (.cells #[.int .i64 s.b.x,.int .i64 s.b.y] 40)).alloc (.cells #[.int .i64 s.a.x,.int .i64 s.a.y] 40)).drew = X at hJ2 ⊢
  rw [hn] at hJ2 ⊢
  clear hI hn
  obtain ⟨Bf,hBf⟩ : ∃ B,Be + 1 = B:=⟨_,rfl⟩
  rw [hBf] at hJ2 ⊢
  clear hBf
  rw [← hut.out] at hJ2
  have hJ:=hJ2
  clear hJ2
  have k0:=hJ.out.hf
  have k1:=hJ.out.he
  have k2:=hJ.out.ne
  have n0 : ¬ Bf = Be:=k2
  have n1 : ¬ Be = Bf:=fun e=>k2 e.symm
  have n2 : ¬ Bf = w.heap.size:=by omega
  have n3 : ¬ Bf = w.heap.size + 1:=by omega
  have n4 : ¬ Be = w.heap.size:=by omega
  have n5 : ¬ Be = w.heap.size + 1:=by omega
  clear k2
  (have a0:=hJ.out.base.s.c 0 _ rfl;have a1:=hJ.out.base.s.c 1 _ rfl;have a2:=hJ.out.base.s.c 2 _ rfl;have a3:=hJ.out.base.s.c 3 _ rfl;have b0:=hJ.out.base.t.c 0 _ rfl;have b1:=hJ.out.base.t.c 1 _ rfl;have b2:=hJ.out.base.t.c 2 _ rfl;have b3:=hJ.out.base.t.c 3 _ rfl;have f0:=hJ.out.f.c 0 _ rfl;have f1:=hJ.out.f.c 1 _ rfl;have e0:=hJ.out.e.c 0 _ rfl;have e1:=hJ.out.e.c 1 _ rfl;have f2:=hJ.out.f.free 0 (by simp);have f3:=hJ.out.f.free 1 (by simp);have e2:=hJ.out.e.free 0 (by simp);have e3:=hJ.out.e.free 1 (by simp))
  by_cases c1 : 0 < Cal.alongS s u.a s.a
  ·have d1 : decide (0 < Cal.alongS s u.a s.a) = true:=decide_eq_true c1
   have hF : Hid ((if 0 < Cal.alongS s u.a s.a then u.a else s.a) = u.a):=if_pos c1
   replace c1:=Lib.hid c1
   have m2 : Hid True:=trivial
   go_wp2_with (go_at_call 111;clear m2;refine (along_any s u.a s.a _ hs hu.a hs.a).mono ?_;clear a0 a1 a2 a3 b0 b1 b2 b3 f0 f1 f2 f3 e0 e1 e2 e3;rintro e X2 ⟨rfl,hbn⟩;replace hJ:=Lib.hid (hJ.out.below hbn);clear hbn;(have a0:=hJ.out.base.s.c 0 _ rfl;have a1:=hJ.out.base.s.c 1 _ rfl;have a2:=hJ.out.base.s.c 2 _ rfl;have a3:=hJ.out.base.s.c 3 _ rfl;have b0:=hJ.out.base.t.c 0 _ rfl;have b1:=hJ.out.base.t.c 1 _ rfl;have b2:=hJ.out.base.t.c 2 _ rfl;have b3:=hJ.out.base.t.c 3 _ rfl;have f0:=hJ.out.f.c 0 _ rfl;have f1:=hJ.out.f.c 1 _ rfl;have e0:=hJ.out.e.c 0 _ rfl;have e1:=hJ.out.e.c 1 _ rfl;have f2:=hJ.out.f.free 0 (by simp);have f3:=hJ.out.f.free 1 (by simp);have e2:=hJ.out.e.free 0 (by simp);have e3:=hJ.out.e.free 1 (by simp)))
   replace hJ:=Lib.hid (hJ.out.setF u.a)
   clear a0 a1 a2 a3 b0 b1 b2 b3 f0 f1 f2 f3 e0 e1 e2 e3
   refine (along_any s u.b s.b _ hs hu.b hs.b).mono ?_
   rintro e X3 ⟨rfl,hbn⟩
   replace hJ:=Lib.hid (hJ.out.below hbn)
   clear hbn
   (have a0:=hJ.out.base.s.c 0 _ rfl;have a1:=hJ.out.base.s.c 1 _ rfl;have a2:=hJ.out.base.s.c 2 _ rfl;have a3:=hJ.out.base.s.c 3 _ rfl;have b0:=hJ.out.base.t.c 0 _ rfl;have b1:=hJ.out.base.t.c 1 _ rfl;have b2:=hJ.out.base.t.c 2 _ rfl;have b3:=hJ.out.base.t.c 3 _ rfl;have f0:=hJ.out.f.c 0 _ rfl;have f1:=hJ.out.f.c 1 _ rfl;have e0:=hJ.out.e.c 0 _ rfl;have e1:=hJ.out.e.c 1 _ rfl;have f2:=hJ.out.f.free 0 (by simp);have f3:=hJ.out.f.free 1 (by simp);have e2:=hJ.out.e.free 0 (by simp);have e3:=hJ.out.e.free 1 (by simp))
   by_cases c2 : Cal.alongS s u.b s.b < 0
   ·have d2 : decide (Cal.alongS s u.b s.b < 0) = true:=decide_eq_true c2
    have hE : Hid (comT s t = (⟨u.a,u.b⟩,decide (Cal.alongS s u.a u.b < 0))):=by show _ = _;rw [hR.out,hF.out,if_pos c2]
    replace c2:=Lib.hid c2
    go_wp2_with fail
    replace hJ:=Lib.hid (hJ.out.setE u.b)
    obtain ⟨Y,hY⟩ : ∃ Y,(X3.setCell ⟨Be,0,none⟩ (.int .i64 u.b.x)).setCell ⟨Be,1,none⟩ (.int .i64 u.b.y) = Y:=⟨_,rfl⟩
    rw [hY] at hJ ⊢
    clear hY
    clear a0 a1 a2 a3 b0 b1 b2 b3 f0 f1 f2 f3 e0 e1 e2 e3
    refine wp_region_held_drew (S:=CmK w s Bf Be u.a u.b) (by kernel_rfl) (hJ.out.k.below ((Below.refl _ _).drew)) (fun hHeld=>?_)
    refine tkCx 0 54 ?_
    refine tkCx 1 55 ?_
    refine tkCx 2 56 ?_
    refine tkCx 3 57 ?_
    refine tkCx 4 58 ?_
    refine tkCx 5 59 ?_
    (refine ratHx 6 (fun K hK=>?_);go_simp)
    refine (along_any s u.a u.b _ hs hu.a hu.b).mono ?_
    rintro e9 wn ⟨rfl,hbn⟩
    go_simp
    refine hK.out _ _ (hHeld.below hbn) (fun hHeld=>?_)
    clear hK K hbn
    (try simp only [apS,apN,siA,scZ,scS])
    refine tkCx 7 61 ?_
    obtain ⟨z0,z1,z2,z3,hz⟩:=hHeld.z
    have r0:=hz.c 0 _ rfl
    have r1:=hz.c 1 _ rfl
    have r2:=hz.c 2 _ rfl
    have r3:=hz.c 3 _ rfl
    have g0:=hz.free 0 (by simp)
    have g1:=hz.free 1 (by simp)
    have g2:=hz.free 2 (by simp)
    have g3:=hz.free 3 (by simp)
    have hz9:=Lib.hid ((((hz.set 0 (.int .i64 u.a.x) (by simp)).set 1 (.int .i64 u.a.y) (by simp)).set 2 (.int .i64 u.b.x) (by simp)).set 3 (.int .i64 u.b.y) (by simp))
    (refine ratHx 8 (fun K hK=>?_);go_simp)
    refine hK.out _ _ ((((hHeld.store 0 (by omega) _).store 1 (by omega) _).store 2 (by omega) _).store 3 (by omega) _) (fun hHeld=>?_)
    clear hK K
    (try simp only [apS,apN,siA,scZ,scS])
    refine tkCx 9 5 ?_
    refine wpAnyH_done (by kernel_rfl) ?_ _
    go_wp2_with fail
    refine bodyPost_ret (results_mid2 rfl _ _ (w.heap.size + 1 + 1) [.int .i64 u.a.x,.int .i64 u.a.y,.int .i64 u.b.x,.int .i64 u.b.y] _ rfl hz9.out.range Try.underlying72 rfl sgSize) rfl ⟨(by rw [hE.out];rfl),hHeld.bel⟩
   ·have d2 : decide (Cal.alongS s u.b s.b < 0) = false:=decide_eq_false c2
    have hE : Hid (comT s t = (⟨u.a,s.b⟩,decide (Cal.alongS s u.a s.b < 0))):=by show _ = _;rw [hR.out,hF.out,if_neg c2]
    replace c2:=Lib.hid c2
    go_wp2_with fail
    clear a0 a1 a2 a3 b0 b1 b2 b3 f0 f1 f2 f3 e0 e1 e2 e3
    refine wp_region_held_drew (S:=CmK w s Bf Be u.a s.b) (by kernel_rfl) (hJ.out.k.below ((Below.refl _ _).drew)) (fun hHeld=>?_)
    refine tkCx 0 54 ?_
    refine tkCx 1 55 ?_
    refine tkCx 2 56 ?_
    refine tkCx 3 57 ?_
    refine tkCx 4 58 ?_
    refine tkCx 5 59 ?_
    (refine ratHx 6 (fun K hK=>?_);go_simp)
    refine (along_any s u.a s.b _ hs hu.a hs.b).mono ?_
    rintro e9 wn ⟨rfl,hbn⟩
    go_simp
    refine hK.out _ _ (hHeld.below hbn) (fun hHeld=>?_)
    clear hK K hbn
    (try simp only [apS,apN,siA,scZ,scS])
    refine tkCx 7 61 ?_
    obtain ⟨z0,z1,z2,z3,hz⟩:=hHeld.z
    have r0:=hz.c 0 _ rfl
    have r1:=hz.c 1 _ rfl
    have r2:=hz.c 2 _ rfl
    have r3:=hz.c 3 _ rfl
    have g0:=hz.free 0 (by simp)
    have g1:=hz.free 1 (by simp)
    have g2:=hz.free 2 (by simp)
    have g3:=hz.free 3 (by simp)
    have hz9:=Lib.hid ((((hz.set 0 (.int .i64 u.a.x) (by simp)).set 1 (.int .i64 u.a.y) (by simp)).set 2 (.int .i64 s.b.x) (by simp)).set 3 (.int .i64 s.b.y) (by simp))
    (refine ratHx 8 (fun K hK=>?_);go_simp)
    refine hK.out _ _ ((((hHeld.store 0 (by omega) _).store 1 (by omega) _).store 2 (by omega) _).store 3 (by omega) _) (fun hHeld=>?_)
    clear hK K
    (try simp only [apS,apN,siA,scZ,scS])
    refine tkCx 9 5 ?_
    refine wpAnyH_done (by kernel_rfl) ?_ _
    go_wp2_with fail
    refine bodyPost_ret (results_mid2 rfl _ _ (w.heap.size + 1 + 1) [.int .i64 u.a.x,.int .i64 u.a.y,.int .i64 s.b.x,.int .i64 s.b.y] _ rfl hz9.out.range Try.underlying72 rfl sgSize) rfl ⟨(by rw [hE.out];rfl),hHeld.bel⟩
  ·have d1 : decide (0 < Cal.alongS s u.a s.a) = false:=decide_eq_false c1
   have hF : Hid ((if 0 < Cal.alongS s u.a s.a then u.a else s.a) = s.a):=if_neg c1
   replace c1:=Lib.hid c1
   have m2 : Hid True:=trivial
   go_wp2_with (go_at_call 111;clear m2;refine (along_any s u.a s.a _ hs hu.a hs.a).mono ?_;clear a0 a1 a2 a3 b0 b1 b2 b3 f0 f1 f2 f3 e0 e1 e2 e3;rintro e X2 ⟨rfl,hbn⟩;replace hJ:=Lib.hid (hJ.out.below hbn);clear hbn;(have a0:=hJ.out.base.s.c 0 _ rfl;have a1:=hJ.out.base.s.c 1 _ rfl;have a2:=hJ.out.base.s.c 2 _ rfl;have a3:=hJ.out.base.s.c 3 _ rfl;have b0:=hJ.out.base.t.c 0 _ rfl;have b1:=hJ.out.base.t.c 1 _ rfl;have b2:=hJ.out.base.t.c 2 _ rfl;have b3:=hJ.out.base.t.c 3 _ rfl;have f0:=hJ.out.f.c 0 _ rfl;have f1:=hJ.out.f.c 1 _ rfl;have e0:=hJ.out.e.c 0 _ rfl;have e1:=hJ.out.e.c 1 _ rfl;have f2:=hJ.out.f.free 0 (by simp);have f3:=hJ.out.f.free 1 (by simp);have e2:=hJ.out.e.free 0 (by simp);have e3:=hJ.out.e.free 1 (by simp)))
   clear a0 a1 a2 a3 b0 b1 b2 b3 f0 f1 f2 f3 e0 e1 e2 e3
   refine (along_any s u.b s.b _ hs hu.b hs.b).mono ?_
   rintro e X3 ⟨rfl,hbn⟩
   replace hJ:=Lib.hid (hJ.out.below hbn)
   clear hbn
   (have a0:=hJ.out.base.s.c 0 _ rfl;have a1:=hJ.out.base.s.c 1 _ rfl;have a2:=hJ.out.base.s.c 2 _ rfl;have a3:=hJ.out.base.s.c 3 _ rfl;have b0:=hJ.out.base.t.c 0 _ rfl;have b1:=hJ.out.base.t.c 1 _ rfl;have b2:=hJ.out.base.t.c 2 _ rfl;have b3:=hJ.out.base.t.c 3 _ rfl;have f0:=hJ.out.f.c 0 _ rfl;have f1:=hJ.out.f.c 1 _ rfl;have e0:=hJ.out.e.c 0 _ rfl;have e1:=hJ.out.e.c 1 _ rfl;have f2:=hJ.out.f.free 0 (by simp);have f3:=hJ.out.f.free 1 (by simp);have e2:=hJ.out.e.free 0 (by simp);have e3:=hJ.out.e.free 1 (by simp))
   by_cases c2 : Cal.alongS s u.b s.b < 0
   ·have d2 : decide (Cal.alongS s u.b s.b < 0) = true:=decide_eq_true c2
    have hE : Hid (comT s t = (⟨s.a,u.b⟩,decide (Cal.alongS s s.a u.b < 0))):=by show _ = _;rw [hR.out,hF.out,if_pos c2]
    replace c2:=Lib.hid c2
    go_wp2_with fail
    replace hJ:=Lib.hid (hJ.out.setE u.b)
    obtain ⟨Y,hY⟩ : ∃ Y,(X3.setCell ⟨Be,0,none⟩ (.int .i64 u.b.x)).setCell ⟨Be,1,none⟩ (.int .i64 u.b.y) = Y:=⟨_,rfl⟩
    rw [hY] at hJ ⊢
    clear hY
    clear a0 a1 a2 a3 b0 b1 b2 b3 f0 f1 f2 f3 e0 e1 e2 e3
    refine wp_region_held_drew (S:=CmK w s Bf Be s.a u.b) (by kernel_rfl) (hJ.out.k.below ((Below.refl _ _).drew)) (fun hHeld=>?_)
    refine tkCx 0 54 ?_
    refine tkCx 1 55 ?_
    refine tkCx 2 56 ?_
    refine tkCx 3 57 ?_
    refine tkCx 4 58 ?_
    refine tkCx 5 59 ?_
    (refine ratHx 6 (fun K hK=>?_);go_simp)
    refine (along_any s s.a u.b _ hs hs.a hu.b).mono ?_
    rintro e9 wn ⟨rfl,hbn⟩
    go_simp
    refine hK.out _ _ (hHeld.below hbn) (fun hHeld=>?_)
    clear hK K hbn
    (try simp only [apS,apN,siA,scZ,scS])
    refine tkCx 7 61 ?_
    obtain ⟨z0,z1,z2,z3,hz⟩:=hHeld.z
    have r0:=hz.c 0 _ rfl
    have r1:=hz.c 1 _ rfl
    have r2:=hz.c 2 _ rfl
    have r3:=hz.c 3 _ rfl
    have g0:=hz.free 0 (by simp)
    have g1:=hz.free 1 (by simp)
    have g2:=hz.free 2 (by simp)
    have g3:=hz.free 3 (by simp)
    have hz9:=Lib.hid ((((hz.set 0 (.int .i64 s.a.x) (by simp)).set 1 (.int .i64 s.a.y) (by simp)).set 2 (.int .i64 u.b.x) (by simp)).set 3 (.int .i64 u.b.y) (by simp))
    (refine ratHx 8 (fun K hK=>?_);go_simp)
    refine hK.out _ _ ((((hHeld.store 0 (by omega) _).store 1 (by omega) _).store 2 (by omega) _).store 3 (by omega) _) (fun hHeld=>?_)
    clear hK K
    (try simp only [apS,apN,siA,scZ,scS])
    refine tkCx 9 5 ?_
    refine wpAnyH_done (by kernel_rfl) ?_ _
    go_wp2_with fail
    refine bodyPost_ret (results_mid2 rfl _ _ (w.heap.size + 1 + 1) [.int .i64 s.a.x,.int .i64 s.a.y,.int .i64 u.b.x,.int .i64 u.b.y] _ rfl hz9.out.range Try.underlying72 rfl sgSize) rfl ⟨(by rw [hE.out];rfl),hHeld.bel⟩
   ·have d2 : decide (Cal.alongS s u.b s.b < 0) = false:=decide_eq_false c2
    have hE : Hid (comT s t = (⟨s.a,s.b⟩,decide (Cal.alongS s s.a s.b < 0))):=by show _ = _;rw [hR.out,hF.out,if_neg c2]
    replace c2:=Lib.hid c2
    go_wp2_with fail
    clear a0 a1 a2 a3 b0 b1 b2 b3 f0 f1 f2 f3 e0 e1 e2 e3
    refine wp_region_held_drew (S:=CmK w s Bf Be s.a s.b) (by kernel_rfl) (hJ.out.k.below ((Below.refl _ _).drew)) (fun hHeld=>?_)
    refine tkCx 0 54 ?_
    refine tkCx 1 55 ?_
    refine tkCx 2 56 ?_
    refine tkCx 3 57 ?_
    refine tkCx 4 58 ?_
    refine tkCx 5 59 ?_
    (refine ratHx 6 (fun K hK=>?_);go_simp)
    refine (along_any s s.a s.b _ hs hs.a hs.b).mono ?_
    rintro e9 wn ⟨rfl,hbn⟩
    go_simp
    refine hK.out _ _ (hHeld.below hbn) (fun hHeld=>?_)
    clear hK K hbn
    (try simp only [apS,apN,siA,scZ,scS])
    refine tkCx 7 61 ?_
    obtain ⟨z0,z1,z2,z3,hz⟩:=hHeld.z
    have r0:=hz.c 0 _ rfl
    have r1:=hz.c 1 _ rfl
    have r2:=hz.c 2 _ rfl
    have r3:=hz.c 3 _ rfl
    have g0:=hz.free 0 (by simp)
    have g1:=hz.free 1 (by simp)
    have g2:=hz.free 2 (by simp)
    have g3:=hz.free 3 (by simp)
    have hz9:=Lib.hid ((((hz.set 0 (.int .i64 s.a.x) (by simp)).set 1 (.int .i64 s.a.y) (by simp)).set 2 (.int .i64 s.b.x) (by simp)).set 3 (.int .i64 s.b.y) (by simp))
    (refine ratHx 8 (fun K hK=>?_);go_simp)
    refine hK.out _ _ ((((hHeld.store 0 (by omega) _).store 1 (by omega) _).store 2 (by omega) _).store 3 (by omega) _) (fun hHeld=>?_)
    clear hK K
    (try simp only [apS,apN,siA,scZ,scS])
    refine tkCx 9 5 ?_
    refine wpAnyH_done (by kernel_rfl) ?_ _
    go_wp2_with fail
    refine bodyPost_ret (results_mid2 rfl _ _ (w.heap.size + 1 + 1) [.int .i64 s.a.x,.int .i64 s.a.y,.int .i64 s.b.x,.int .i64 s.b.y] _ rfl hz9.out.range Try.underlying72 rfl sgSize) rfl ⟨(by rw [hE.out];rfl),hHeld.bel⟩
end Go.Proofs.Ythfokpchdlcidaa
