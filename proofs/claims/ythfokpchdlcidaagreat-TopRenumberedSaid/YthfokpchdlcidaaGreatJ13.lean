/- What the statements rest on: definitions and walks, part 13. -/
import Derived.Test.YthfokpchdlcidaaGreatJ12
set_option maxRecDepth 100000
set_option maxHeartbeats 16000000
set_option linter.unusedSimpArgs false
set_option linter.unusedVariables false
namespace Go.Proofs.YthfokpchdlcidaaGreat
open Go Go.RowKit Go.Shelf
attribute [local go_sem] Oper.semAt_some
def comT (s t:Sd):Sd × Bool :=
 if Cal.trn s t.a=0∧Cal.trn s t.b=0 then
  (let t':Sd:=if 0<Cal.alongS s t.a t.b then ⟨t.b,t.a⟩ else t
   let f:=if 0<Cal.alongS s t'.a s.a then t'.a else s.a
   let e:=if Cal.alongS s t'.b s.b<0 then t'.b else s.b
   (⟨f,e⟩,decide (Cal.alongS s f e<0)))
 else (⟨Cal.pt0,Cal.pt0⟩,false)
theorem comT_eq (s t:Sd):Cal.commonS s t=if (comT s t).2=true then some (comT s t).1 else none:=by
 unfold Cal.commonS comT
 split <;> simp
structure CmI (w:World) (s t:Sd) (X:World):Prop where
 s:BoxAt X w.heap.size [.int .i64 s.a.x,.int .i64 s.a.y,.int .i64 s.b.x,.int .i64 s.b.y]
 t:BoxAt X (w.heap.size+1) [.int .i64 t.a.x,.int .i64 t.a.y,.int .i64 t.b.x,.int .i64 t.b.y]
 z:BoxAt X (w.heap.size+1+1) [.int .i64 0,.int .i64 0,.int .i64 0,.int .i64 0]
 bel:Below w.heap.size w X
theorem CmI.below {w:World} {s t:Sd} {X Y:World} (h:CmI w s t X) (hb:Below X.heap.size X Y):CmI w s t Y :=
 ⟨h.s.below hb,h.t.below hb,h.z.below hb,h.bel.trans (hb.mono h.bel.size)⟩
theorem CmI.first (w:World) (s t:Sd):CmI w s t (((w.alloc (.cells #[.int .i64 s.a.x,.int .i64 s.a.y,.int .i64 s.b.x,.int .i64 s.b.y] 130)).alloc (.cells #[.int .i64 t.a.x,.int .i64 t.a.y,.int .i64 t.b.x,.int .i64 t.b.y] 130)).alloc (.cells #[.int .i64 0,.int .i64 0,.int .i64 0,.int .i64 0] 90)):=by
 have h2:=(BoxAt.new (w.alloc (.cells #[.int .i64 s.a.x,.int .i64 s.a.y,.int .i64 s.b.x,.int .i64 s.b.y] 130)) #[.int .i64 t.a.x,.int .i64 t.a.y,.int .i64 t.b.x,.int .i64 t.b.y] 130).alloc (.cells #[.int .i64 0,.int .i64 0,.int .i64 0,.int .i64 0] 90)
 have h3:=BoxAt.new ((w.alloc (.cells #[.int .i64 s.a.x,.int .i64 s.a.y,.int .i64 s.b.x,.int .i64 s.b.y] 130)).alloc (.cells #[.int .i64 t.a.x,.int .i64 t.a.y,.int .i64 t.b.x,.int .i64 t.b.y] 130)) #[.int .i64 0,.int .i64 0,.int .i64 0,.int .i64 0] 90
 simp only[World.size_alloc] at h2 h3
 exact⟨((BoxAt.new w #[.int .i64 s.a.x,.int .i64 s.a.y,.int .i64 s.b.x,.int .i64 s.b.y] 130).alloc _).alloc _,h2,h3,below_step (below_step (below_alloc _ _) (below_alloc _ _)) (below_alloc _ _)⟩
theorem CmI.swap {w:World} {s t:Sd} {X:World} (h:CmI w s t X):CmI w s ⟨t.b,t.a⟩ ((((X.setCell ⟨w.heap.size+1,0,none⟩ (.int .i64 t.b.x)).setCell ⟨w.heap.size+1,1,none⟩ (.int .i64 t.b.y)).setCell ⟨w.heap.size+1,2,none⟩ (.int .i64 t.a.x)).setCell ⟨w.heap.size+1,3,none⟩ (.int .i64 t.a.y)):=by
 obtain⟨h1,h2,h3,h4⟩:=h
 refine⟨(((h1.off 0 _ (by omega)).off 1 _ (by omega)).off 2 _ (by omega)).off 3 _ (by omega),(((h2.set 0 _ (by simp)).set 1 _ (by simp)).set 2 _ (by simp)).set 3 _ (by simp),(((h3.off 0 _ (by omega)).off 1 _ (by omega)).off 2 _ (by omega)).off 3 _ (by omega),?_⟩
 exact (((h4.setCell (p:=⟨w.heap.size+1,0,none⟩) (Nat.le_succ _) _).setCell (p:=⟨w.heap.size+1,1,none⟩) (Nat.le_succ _) _).setCell (p:=⟨w.heap.size+1,2,none⟩) (Nat.le_succ _) _).setCell (p:=⟨w.heap.size+1,3,none⟩) (Nat.le_succ _) _
structure CmJ (w:World) (s t:Sd) (Bf Be:Nat) (f e:Pt) (X:World):Prop where
 base:CmI w s t X
 f:BoxAt X Bf [.int .i64 f.x,.int .i64 f.y]
 e:BoxAt X Be [.int .i64 e.x,.int .i64 e.y]
 ne:Bf≠Be
 hf:w.heap.size+1+1<Bf
 he:w.heap.size+1+1<Be
theorem CmJ.below {w:World} {s t:Sd} {Bf Be:Nat} {f e:Pt} {X Y:World} (h:CmJ w s t Bf Be f e X) (hb:Below X.heap.size X Y):CmJ w s t Bf Be f e Y :=
 ⟨h.base.below hb,h.f.below hb,h.e.below hb,h.ne,h.hf,h.he⟩
theorem CmJ.new {w:World} {s t:Sd} {X:World} (h:CmI w s t X) (f e:Pt):CmJ w s t X.heap.size (X.heap.size+1) f e ((X.alloc (.cells #[.int .i64 f.x,.int .i64 f.y] 27)).alloc (.cells #[.int .i64 e.x,.int .i64 e.y] 27)).drew:=by
 have hz:=h.z.lt
 have hb:Below X.heap.size X ((X.alloc (.cells #[.int .i64 f.x,.int .i64 f.y] 27)).alloc (.cells #[.int .i64 e.x,.int .i64 e.y] 27)).drew:=((Below.refl _ _).alloc (Nat.le_refl _) _ |>.alloc (by simp) _).drew
 have he:=BoxAt.new (X.alloc (.cells #[.int .i64 f.x,.int .i64 f.y] 27)) #[.int .i64 e.x,.int .i64 e.y] 27
 simp only[World.size_alloc] at he
 exact⟨h.below hb,((BoxAt.new X #[.int .i64 f.x,.int .i64 f.y] 27).alloc _).below ((Below.refl _ _).drew),he.below ((Below.refl _ _).drew),by omega,by omega,by omega⟩
theorem CmJ.flip {w:World} {s t:Sd} {Bf Be:Nat} {f e:Pt} {X:World} (h:CmJ w s t Bf Be f e X):CmJ w s t Be Bf e f X:=⟨h.base,h.e,h.f,h.ne.symm,h.he,h.hf⟩
theorem CmI.off {w:World} {s t:Sd} {X:World} (h:CmI w s t X) {B:Nat} (hB:w.heap.size+1+1<B) (o:Nat) (v:Value):CmI w s t (X.setCell ⟨B,o,none⟩ v) :=
 ⟨h.s.off o v (by omega),h.t.off o v (by omega),h.z.off o v (by omega),h.bel.setCell (p:=⟨B,o,none⟩) (show w.heap.size≤B by omega) v⟩
theorem CmJ.setF {w:World} {s t:Sd} {Bf Be:Nat} {f e:Pt} {X:World} (h:CmJ w s t Bf Be f e X) (p:Pt):CmJ w s t Bf Be p e ((X.setCell ⟨Bf,0,none⟩ (.int .i64 p.x)).setCell ⟨Bf,1,none⟩ (.int .i64 p.y)):=by
 obtain⟨h1,h2,h3,h4,h5,h6⟩:=h
 exact⟨(h1.off h5 0 _).off h5 1 _,(h2.set 0 _ (by simp)).set 1 _ (by simp),(h3.off 0 _ (by omega)).off 1 _ (by omega),h4,h5,h6⟩
theorem CmJ.setE {w:World} {s t:Sd} {Bf Be:Nat} {f e:Pt} {X:World} (h:CmJ w s t Bf Be f e X) (p:Pt):CmJ w s t Bf Be f p ((X.setCell ⟨Be,0,none⟩ (.int .i64 p.x)).setCell ⟨Be,1,none⟩ (.int .i64 p.y)):=(h.flip.setF p).flip
structure CmK (w:World) (s:Sd) (Bf Be:Nat) (f e:Pt) (X:World):Prop where
 s:BoxAt X w.heap.size [.int .i64 s.a.x,.int .i64 s.a.y,.int .i64 s.b.x,.int .i64 s.b.y]
 z:∃ z0 z1 z2 z3,BoxAt X (w.heap.size+1+1) [z0,z1,z2,z3]
 f:BoxAt X Bf [.int .i64 f.x,.int .i64 f.y]
 e:BoxAt X Be [.int .i64 e.x,.int .i64 e.y]
 bel:Below w.heap.size w X
 hf:w.heap.size+1+1<Bf
 he:w.heap.size+1+1<Be
theorem CmJ.k {w:World} {s t:Sd} {Bf Be:Nat} {f e:Pt} {X:World} (h:CmJ w s t Bf Be f e X):CmK w s Bf Be f e X:=⟨h.base.s,⟨_,_,_,_,h.base.z⟩,h.f,h.e,h.base.bel,h.hf,h.he⟩
theorem CmK.below {w:World} {s:Sd} {Bf Be:Nat} {f e:Pt} {X Y:World} (h:CmK w s Bf Be f e X) (hb:Below X.heap.size X Y):CmK w s Bf Be f e Y:=by
 obtain⟨h1,⟨_,_,_,_,h2⟩,h3,h4,h5,h6,h7⟩:=h
 exact⟨h1.below hb,⟨_,_,_,_,h2.below hb⟩,h3.below hb,h4.below hb,h5.trans (hb.mono h5.size),h6,h7⟩
theorem CmK.store {w:World} {s:Sd} {Bf Be:Nat} {f e:Pt} {X:World} (h:CmK w s Bf Be f e X) (o:Nat) (ho:o<4) (v:Value):CmK w s Bf Be f e (X.setCell ⟨w.heap.size+1+1,o,none⟩ v):=by
 obtain⟨h1,⟨z0,z1,z2,z3,h2⟩,h3,h4,h5,h6,h7⟩:=h
 refine⟨h1.off o v (by omega),?_,h3.off o v (by omega),h4.off o v (by omega),h5.setCell (p:=⟨w.heap.size+1+1,o,none⟩) (show w.heap.size≤w.heap.size+1+1 by omega) v,h6,h7⟩
 have h:=h2.set o v (by simpa using ho)
 match o,ho,h with
 | 0,_,h=>exact⟨_,_,_,_,h⟩
 | 1,_,h=>exact⟨_,_,_,_,h⟩
 | 2,_,h=>exact⟨_,_,_,_,h⟩
 | 3,_,h=>exact⟨_,_,_,_,h⟩
theorem tkCx {P:Program} {ops:Array Oper} {Q:Exit→Act→World→Prop} {md:Region.Mode} {S:World→Prop} (i:Nat) (d:Nat) {oi:Oper} {v:Value} {fuel:Nat} {listed l':Array Bool} {a a':Act} {w:World}
  (h:wpAnyH P md ops Q S fuel l' a' w) (hi:ops[i]?=some oi:=by exact rfl)
  (hy:∀ w,S w→(execOp a.eval oi).run P w=.ok (.value v) w:=by (intro w' hSw;obtain⟨a0,a1,a2,a3⟩:=hSw.s.c4;obtain⟨f0,f1⟩:=hSw.f.c2;obtain⟨e0,e1⟩:=hSw.e.c2;go_simp;(try with_reducible rfl)))
  (ha:a.put (some d) v=a':=by ((try simp only[Act.put,List.setIfInBounds_toArray,List.set_cons_zero,List.set_cons_succ]);exact rfl))
  (hl:listed.setIfInBounds i true=l':=by ((try simp only[List.setIfInBounds_toArray,List.set_cons_zero,List.set_cons_succ]);exact rfl))
  (hdd:oi.dst=some d:=by kernel_rfl) (hs:Region.noSelect ops=true:=by kernel_rfl) (hf:Region.free md ops listed i=true:=by decide +kernel) (hr:(Region.ready md ops listed).contains i=true:=by decide +kernel)
  (hQ:∀ c a w,Q (.panic c) (a.put oi.dst v) w→Q (.panic c) a w:=by exact fun _ _ _ h=>h) (hw:Region.wanted oi (yielded ops a.tmps)=true:=by kernel_rfl) (hS:S w:=by assumption):wpAnyH P md ops Q S (fuel+1) listed a w :=
 tkH2 i d hy (by rw[ha,hl];exact h) hi hdd hs hf hr hQ hw hS
theorem sgSize:(Tryz.prog.info? 90).map (·.size)=some 4:=by kernel_rfl
theorem common_t (s t:Sd) (w:World) (hs:SmS s) (ht:SmS t) (h1:Cal.trn s t.a=0) (h2:Cal.trn s t.b=0) (h3:¬0<Cal.alongS s t.a t.b) :
  Calls Tryz.prog 79 #[.agg #[.int .i64 s.a.x,.int .i64 s.a.y,.int .i64 s.b.x,.int .i64 s.b.y],.agg #[.int .i64 t.a.x,.int .i64 t.a.y,.int .i64 t.b.x,.int .i64 t.b.y]] w fun e w'=>e=.returned (.tuple #[.agg #[.int .i64 (comT s t).1.a.x,.int .i64 (comT s t).1.a.y,.int .i64 (comT s t).1.b.x,.int .i64 (comT s t).1.b.y],.bool (comT s t).2])∧Below w.heap.size w w':=by
 have hmo:(Tryz.prog).follows Departure.mixedOrders=true:=by kernel_rfl
 obtain⟨u,hut⟩:∃ u,u=t:=⟨_,rfl⟩
 have hu:SmS u:=hut ▸ ht
 have hR:Hid (comT s t=(⟨if 0<Cal.alongS s u.a s.a then u.a else s.a,if Cal.alongS s u.b s.b<0 then u.b else s.b⟩,decide (Cal.alongS s (if 0<Cal.alongS s u.a s.a then u.a else s.a) (if Cal.alongS s u.b s.b<0 then u.b else s.b)<0))):=by show _=_;unfold comT;rw[if_pos ⟨h1,h2⟩,if_neg h3,hut]
 replace hut:=Lib.hid hut
 have d3:decide (0<Cal.alongS s t.a t.b)=false:=decide_eq_false h3
 replace h1:=Lib.hid h1
 replace h2:=Lib.hid h2
 replace h3:=Lib.hid h3
 have hI:=Lib.hid (CmI.first w s t)
 have m1:Hid True:=trivial
 go_enter Tryz.func79,Tryz.ntmps79
 go_wp2_with (first
  |(go_at_call 81;clear m1;refine (turn_any s t.a _ hs ht.a).mono ?_;rintro e wn ⟨rfl,hbn⟩;rw[h1.out];replace hI:=Lib.hid (hI.out.below hbn);clear hbn;obtain⟨a0,a1,a2,a3⟩:=hI.out.s.c4;obtain⟨b0,b1,b2,b3⟩:=hI.out.t.c4;obtain⟨f0,f1,f2,f3⟩:=hI.out.t.fr4)
  |(go_at_call 81;refine (turn_any s t.b _ hs ht.b).mono ?_;clear a0 a1 a2 a3 b0 b1 b2 b3 f0 f1 f2 f3;rintro e wn ⟨rfl,hbn⟩;rw[h2.out];replace hI:=Lib.hid (hI.out.below hbn);clear hbn;obtain⟨a0,a1,a2,a3⟩:=hI.out.s.c4;obtain⟨b0,b1,b2,b3⟩:=hI.out.t.c4;obtain⟨f0,f1,f2,f3⟩:=hI.out.t.fr4)
  |(go_at_call 116;refine (along_any s t.a t.b _ hs ht.a ht.b).mono ?_;clear a0 a1 a2 a3 b0 b1 b2 b3 f0 f1 f2 f3;rintro e wn ⟨rfl,hbn⟩;replace hI:=Lib.hid (hI.out.below hbn);clear hbn;obtain⟨a0,a1,a2,a3⟩:=hI.out.s.c4;obtain⟨b0,b1,b2,b3⟩:=hI.out.t.c4;obtain⟨f0,f1,f2,f3⟩:=hI.out.t.fr4))
 have l0:=hI.out.s.lt
 have l1:=hI.out.t.lt
 have l2:=hI.out.z.lt
 have n0:¬w.heap.size=wn.heap.size:=by omega
 have n1:¬w.heap.size+1=wn.heap.size:=by omega
 have n2:¬w.heap.size+1+1=wn.heap.size:=by omega
 have hJ1:=Lib.hid (CmJ.new hI.out s.a s.b)
 have hJ2:=Lib.hid (CmJ.new hI.out s.b s.a).flip
 clear d3
 go_region_o
 ·clear n0 n1 n2 hJ2 l0 l1 l2
  clear a0 a1 a2 a3 b0 b1 b2 b3 f0 f1 f2 f3
  obtain⟨Bf,hn⟩:∃ n,wn.heap.size=n:=⟨_,rfl⟩
  generalize ((wn.alloc (.cells #[.int .i64 s.a.x,.int .i64 s.a.y] 27)).alloc (.cells #[.int .i64 s.b.x,.int .i64 s.b.y] 27)).drew=X at hJ1 ⊢
  rw[hn] at hJ1 ⊢
  clear hI hn
  obtain⟨Be,hBe⟩:∃ B,Bf+1=B:=⟨_,rfl⟩
  rw[hBe] at hJ1 ⊢
  clear hBe
  rw[←hut.out] at hJ1
  have hJ:=hJ1
  clear hJ1
  have k0:=hJ.out.hf
  have k1:=hJ.out.he
  have k2:=hJ.out.ne
  have n0:¬Bf=Be:=k2
  have n1:¬Be=Bf:=fun e=>k2 e.symm
  have n2:¬Bf=w.heap.size:=by omega
  have n3:¬Bf=w.heap.size+1:=by omega
  have n4:¬Be=w.heap.size:=by omega
  have n5:¬Be=w.heap.size+1:=by omega
  clear k2
  (obtain⟨a0,a1,a2,a3⟩:=hJ.out.base.s.c4;obtain⟨b0,b1,b2,b3⟩:=hJ.out.base.t.c4;obtain⟨f0,f1⟩:=hJ.out.f.c2;obtain⟨e0,e1⟩:=hJ.out.e.c2;obtain⟨f2,f3⟩:=hJ.out.f.fr2;obtain⟨e2,e3⟩:=hJ.out.e.fr2)
  by_cases c1:0<Cal.alongS s u.a s.a
  ·have d1:decide (0<Cal.alongS s u.a s.a)=true:=decide_eq_true c1
   have hF:Hid ((if 0<Cal.alongS s u.a s.a then u.a else s.a)=u.a):=if_pos c1
   replace c1:=Lib.hid c1
   have m2:Hid True:=trivial
   go_wp2_with (go_at_call 116;clear m2;refine (along_any s u.a s.a _ hs hu.a hs.a).mono ?_;clear a0 a1 a2 a3 b0 b1 b2 b3 f0 f1 f2 f3 e0 e1 e2 e3;rintro e X2 ⟨rfl,hbn⟩;replace hJ:=Lib.hid (hJ.out.below hbn);clear hbn;(obtain⟨a0,a1,a2,a3⟩:=hJ.out.base.s.c4;obtain⟨b0,b1,b2,b3⟩:=hJ.out.base.t.c4;obtain⟨f0,f1⟩:=hJ.out.f.c2;obtain⟨e0,e1⟩:=hJ.out.e.c2;obtain⟨f2,f3⟩:=hJ.out.f.fr2;obtain⟨e2,e3⟩:=hJ.out.e.fr2))
   replace hJ:=Lib.hid (hJ.out.setF u.a)
   clear a0 a1 a2 a3 b0 b1 b2 b3 f0 f1 f2 f3 e0 e1 e2 e3
   refine (along_any s u.b s.b _ hs hu.b hs.b).mono ?_
   rintro e X3 ⟨rfl,hbn⟩
   replace hJ:=Lib.hid (hJ.out.below hbn)
   clear hbn
   (obtain⟨a0,a1,a2,a3⟩:=hJ.out.base.s.c4;obtain⟨b0,b1,b2,b3⟩:=hJ.out.base.t.c4;obtain⟨f0,f1⟩:=hJ.out.f.c2;obtain⟨e0,e1⟩:=hJ.out.e.c2;obtain⟨f2,f3⟩:=hJ.out.f.fr2;obtain⟨e2,e3⟩:=hJ.out.e.fr2)
   by_cases c2:Cal.alongS s u.b s.b<0
   ·have d2:decide (Cal.alongS s u.b s.b<0)=true:=decide_eq_true c2
    have hE:Hid (comT s t=(⟨u.a,u.b⟩,decide (Cal.alongS s u.a u.b<0))):=by show _=_;rw[hR.out,hF.out,if_pos c2]
    replace c2:=Lib.hid c2
    go_wp2_with fail
    replace hJ:=Lib.hid (hJ.out.setE u.b)
    obtain⟨Y,hY⟩:∃ Y,(X3.setCell ⟨Be,0,none⟩ (.int .i64 u.b.x)).setCell ⟨Be,1,none⟩ (.int .i64 u.b.y)=Y:=⟨_,rfl⟩
    rw[hY] at hJ ⊢
    clear hY
    clear a0 a1 a2 a3 b0 b1 b2 b3 f0 f1 f2 f3 e0 e1 e2 e3
    refine wp_region_held_drew (S:=CmK w s Bf Be u.a u.b) (by kernel_rfl) (hJ.out.k.below ((Below.refl _ _).drew)) (fun hHeld=>?_)
    refine tkCx 0 54 ?_
    refine tkCx 1 55 ?_
    refine tkCx 2 56 ?_
    refine tkCx 3 57 ?_
    refine tkCx 4 58 ?_
    refine tkCx 5 59 ?_
    (refine ratHx 6 (fun K hK=>?_);go_simp)
    refine (along_any s u.a u.b _ hs hu.a hu.b).mono ?_
    rintro e9 wn ⟨rfl,hbn⟩
    go_simp
    refine hK.out _ _ (hHeld.below hbn) (fun hHeld=>?_)
    clear hK K hbn
    (try simp only[apS,apN,siA,scZ,scS])
    refine tkCx 7 61 ?_
    obtain⟨z0,z1,z2,z3,hz⟩:=hHeld.z
    obtain⟨r0,r1,r2,r3⟩:=hz.c4;obtain⟨g0,g1,g2,g3⟩:=hz.fr4
    have hz9:=Lib.hid ((((hz.set 0 (.int .i64 u.a.x) (by simp)).set 1 (.int .i64 u.a.y) (by simp)).set 2 (.int .i64 u.b.x) (by simp)).set 3 (.int .i64 u.b.y) (by simp))
    (refine ratHx 8 (fun K hK=>?_);go_simp)
    refine hK.out _ _ ((((hHeld.store 0 (by omega) _).store 1 (by omega) _).store 2 (by omega) _).store 3 (by omega) _) (fun hHeld=>?_)
    clear hK K
    (try simp only[apS,apN,siA,scZ,scS])
    refine tkCx 9 5 ?_
    refine wpAnyH_done (by kernel_rfl) ?_ _
    go_wp2_with fail
    refine bodyPost_ret (results_mid2 rfl _ _ (w.heap.size+1+1) [.int .i64 u.a.x,.int .i64 u.a.y,.int .i64 u.b.x,.int .i64 u.b.y] _ rfl hz9.out.range Tryz.underlying90 rfl sgSize) rfl ⟨(by rw[hE.out];rfl),hHeld.bel⟩
   have d2:decide (Cal.alongS s u.b s.b<0)=false:=decide_eq_false c2
   have hE:Hid (comT s t=(⟨u.a,s.b⟩,decide (Cal.alongS s u.a s.b<0))):=by show _=_;rw[hR.out,hF.out,if_neg c2]
   replace c2:=Lib.hid c2
   go_wp2_with fail
   clear a0 a1 a2 a3 b0 b1 b2 b3 f0 f1 f2 f3 e0 e1 e2 e3
   refine wp_region_held_drew (S:=CmK w s Bf Be u.a s.b) (by kernel_rfl) (hJ.out.k.below ((Below.refl _ _).drew)) (fun hHeld=>?_)
   refine tkCx 0 54 ?_
   refine tkCx 1 55 ?_
   refine tkCx 2 56 ?_
   refine tkCx 3 57 ?_
   refine tkCx 4 58 ?_
   refine tkCx 5 59 ?_
   (refine ratHx 6 (fun K hK=>?_);go_simp)
   refine (along_any s u.a s.b _ hs hu.a hs.b).mono ?_
   rintro e9 wn ⟨rfl,hbn⟩
   go_simp
   refine hK.out _ _ (hHeld.below hbn) (fun hHeld=>?_)
   clear hK K hbn
   (try simp only[apS,apN,siA,scZ,scS])
   refine tkCx 7 61 ?_
   obtain⟨z0,z1,z2,z3,hz⟩:=hHeld.z
   obtain⟨r0,r1,r2,r3⟩:=hz.c4;obtain⟨g0,g1,g2,g3⟩:=hz.fr4
   have hz9:=Lib.hid ((((hz.set 0 (.int .i64 u.a.x) (by simp)).set 1 (.int .i64 u.a.y) (by simp)).set 2 (.int .i64 s.b.x) (by simp)).set 3 (.int .i64 s.b.y) (by simp))
   (refine ratHx 8 (fun K hK=>?_);go_simp)
   refine hK.out _ _ ((((hHeld.store 0 (by omega) _).store 1 (by omega) _).store 2 (by omega) _).store 3 (by omega) _) (fun hHeld=>?_)
   clear hK K
   (try simp only[apS,apN,siA,scZ,scS])
   refine tkCx 9 5 ?_
   refine wpAnyH_done (by kernel_rfl) ?_ _
   go_wp2_with fail
   refine bodyPost_ret (results_mid2 rfl _ _ (w.heap.size+1+1) [.int .i64 u.a.x,.int .i64 u.a.y,.int .i64 s.b.x,.int .i64 s.b.y] _ rfl hz9.out.range Tryz.underlying90 rfl sgSize) rfl ⟨(by rw[hE.out];rfl),hHeld.bel⟩
  have d1:decide (0<Cal.alongS s u.a s.a)=false:=decide_eq_false c1
  have hF:Hid ((if 0<Cal.alongS s u.a s.a then u.a else s.a)=s.a):=if_neg c1
  replace c1:=Lib.hid c1
  have m2:Hid True:=trivial
  go_wp2_with (go_at_call 116;clear m2;refine (along_any s u.a s.a _ hs hu.a hs.a).mono ?_;clear a0 a1 a2 a3 b0 b1 b2 b3 f0 f1 f2 f3 e0 e1 e2 e3;rintro e X2 ⟨rfl,hbn⟩;replace hJ:=Lib.hid (hJ.out.below hbn);clear hbn;(obtain⟨a0,a1,a2,a3⟩:=hJ.out.base.s.c4;obtain⟨b0,b1,b2,b3⟩:=hJ.out.base.t.c4;obtain⟨f0,f1⟩:=hJ.out.f.c2;obtain⟨e0,e1⟩:=hJ.out.e.c2;obtain⟨f2,f3⟩:=hJ.out.f.fr2;obtain⟨e2,e3⟩:=hJ.out.e.fr2))
  clear a0 a1 a2 a3 b0 b1 b2 b3 f0 f1 f2 f3 e0 e1 e2 e3
  refine (along_any s u.b s.b _ hs hu.b hs.b).mono ?_
  rintro e X3 ⟨rfl,hbn⟩
  replace hJ:=Lib.hid (hJ.out.below hbn)
  clear hbn
  (obtain⟨a0,a1,a2,a3⟩:=hJ.out.base.s.c4;obtain⟨b0,b1,b2,b3⟩:=hJ.out.base.t.c4;obtain⟨f0,f1⟩:=hJ.out.f.c2;obtain⟨e0,e1⟩:=hJ.out.e.c2;obtain⟨f2,f3⟩:=hJ.out.f.fr2;obtain⟨e2,e3⟩:=hJ.out.e.fr2)
  by_cases c2:Cal.alongS s u.b s.b<0
  ·have d2:decide (Cal.alongS s u.b s.b<0)=true:=decide_eq_true c2
   have hE:Hid (comT s t=(⟨s.a,u.b⟩,decide (Cal.alongS s s.a u.b<0))):=by show _=_;rw[hR.out,hF.out,if_pos c2]
   replace c2:=Lib.hid c2
   go_wp2_with fail
   replace hJ:=Lib.hid (hJ.out.setE u.b)
   obtain⟨Y,hY⟩:∃ Y,(X3.setCell ⟨Be,0,none⟩ (.int .i64 u.b.x)).setCell ⟨Be,1,none⟩ (.int .i64 u.b.y)=Y:=⟨_,rfl⟩
   rw[hY] at hJ ⊢
   clear hY
   clear a0 a1 a2 a3 b0 b1 b2 b3 f0 f1 f2 f3 e0 e1 e2 e3
   refine wp_region_held_drew (S:=CmK w s Bf Be s.a u.b) (by kernel_rfl) (hJ.out.k.below ((Below.refl _ _).drew)) (fun hHeld=>?_)
   refine tkCx 0 54 ?_
   refine tkCx 1 55 ?_
   refine tkCx 2 56 ?_
   refine tkCx 3 57 ?_
   refine tkCx 4 58 ?_
   refine tkCx 5 59 ?_
   (refine ratHx 6 (fun K hK=>?_);go_simp)
   refine (along_any s s.a u.b _ hs hs.a hu.b).mono ?_
   rintro e9 wn ⟨rfl,hbn⟩
   go_simp
   refine hK.out _ _ (hHeld.below hbn) (fun hHeld=>?_)
   clear hK K hbn
   (try simp only[apS,apN,siA,scZ,scS])
   refine tkCx 7 61 ?_
   obtain⟨z0,z1,z2,z3,hz⟩:=hHeld.z
   obtain⟨r0,r1,r2,r3⟩:=hz.c4;obtain⟨g0,g1,g2,g3⟩:=hz.fr4
   have hz9:=Lib.hid ((((hz.set 0 (.int .i64 s.a.x) (by simp)).set 1 (.int .i64 s.a.y) (by simp)).set 2 (.int .i64 u.b.x) (by simp)).set 3 (.int .i64 u.b.y) (by simp))
   (refine ratHx 8 (fun K hK=>?_);go_simp)
   refine hK.out _ _ ((((hHeld.store 0 (by omega) _).store 1 (by omega) _).store 2 (by omega) _).store 3 (by omega) _) (fun hHeld=>?_)
   clear hK K
   (try simp only[apS,apN,siA,scZ,scS])
   refine tkCx 9 5 ?_
   refine wpAnyH_done (by kernel_rfl) ?_ _
   go_wp2_with fail
   refine bodyPost_ret (results_mid2 rfl _ _ (w.heap.size+1+1) [.int .i64 s.a.x,.int .i64 s.a.y,.int .i64 u.b.x,.int .i64 u.b.y] _ rfl hz9.out.range Tryz.underlying90 rfl sgSize) rfl ⟨(by rw[hE.out];rfl),hHeld.bel⟩
  have d2:decide (Cal.alongS s u.b s.b<0)=false:=decide_eq_false c2
  have hE:Hid (comT s t=(⟨s.a,s.b⟩,decide (Cal.alongS s s.a s.b<0))):=by show _=_;rw[hR.out,hF.out,if_neg c2]
  replace c2:=Lib.hid c2
  go_wp2_with fail
  clear a0 a1 a2 a3 b0 b1 b2 b3 f0 f1 f2 f3 e0 e1 e2 e3
  refine wp_region_held_drew (S:=CmK w s Bf Be s.a s.b) (by kernel_rfl) (hJ.out.k.below ((Below.refl _ _).drew)) (fun hHeld=>?_)
  refine tkCx 0 54 ?_
  refine tkCx 1 55 ?_
  refine tkCx 2 56 ?_
  refine tkCx 3 57 ?_
  refine tkCx 4 58 ?_
  refine tkCx 5 59 ?_
  (refine ratHx 6 (fun K hK=>?_);go_simp)
  refine (along_any s s.a s.b _ hs hs.a hs.b).mono ?_
  rintro e9 wn ⟨rfl,hbn⟩
  go_simp
  refine hK.out _ _ (hHeld.below hbn) (fun hHeld=>?_)
  clear hK K hbn
  (try simp only[apS,apN,siA,scZ,scS])
  refine tkCx 7 61 ?_
  obtain⟨z0,z1,z2,z3,hz⟩:=hHeld.z
  obtain⟨r0,r1,r2,r3⟩:=hz.c4;obtain⟨g0,g1,g2,g3⟩:=hz.fr4
  have hz9:=Lib.hid ((((hz.set 0 (.int .i64 s.a.x) (by simp)).set 1 (.int .i64 s.a.y) (by simp)).set 2 (.int .i64 s.b.x) (by simp)).set 3 (.int .i64 s.b.y) (by simp))
  (refine ratHx 8 (fun K hK=>?_);go_simp)
  refine hK.out _ _ ((((hHeld.store 0 (by omega) _).store 1 (by omega) _).store 2 (by omega) _).store 3 (by omega) _) (fun hHeld=>?_)
  clear hK K
  (try simp only[apS,apN,siA,scZ,scS])
  refine tkCx 9 5 ?_
  refine wpAnyH_done (by kernel_rfl) ?_ _
  go_wp2_with fail
  refine bodyPost_ret (results_mid2 rfl _ _ (w.heap.size+1+1) [.int .i64 s.a.x,.int .i64 s.a.y,.int .i64 s.b.x,.int .i64 s.b.y] _ rfl hz9.out.range Tryz.underlying90 rfl sgSize) rfl ⟨(by rw[hE.out];rfl),hHeld.bel⟩
 clear n0 n1 n2 hJ1 l0 l1 l2
 clear a0 a1 a2 a3 b0 b1 b2 b3 f0 f1 f2 f3
 obtain⟨Be,hn⟩:∃ n,wn.heap.size=n:=⟨_,rfl⟩
 generalize ((wn.alloc (.cells #[.int .i64 s.b.x,.int .i64 s.b.y] 27)).alloc (.cells #[.int .i64 s.a.x,.int .i64 s.a.y] 27)).drew=X at hJ2 ⊢
 rw[hn] at hJ2 ⊢
 clear hI hn
 obtain⟨Bf,hBf⟩:∃ B,Be+1=B:=⟨_,rfl⟩
 rw[hBf] at hJ2 ⊢
 clear hBf
 rw[←hut.out] at hJ2
 have hJ:=hJ2
 clear hJ2
 have k0:=hJ.out.hf
 have k1:=hJ.out.he
 have k2:=hJ.out.ne
 have n0:¬Bf=Be:=k2
 have n1:¬Be=Bf:=fun e=>k2 e.symm
 have n2:¬Bf=w.heap.size:=by omega
 have n3:¬Bf=w.heap.size+1:=by omega
 have n4:¬Be=w.heap.size:=by omega
 have n5:¬Be=w.heap.size+1:=by omega
 clear k2
 (obtain⟨a0,a1,a2,a3⟩:=hJ.out.base.s.c4;obtain⟨b0,b1,b2,b3⟩:=hJ.out.base.t.c4;obtain⟨f0,f1⟩:=hJ.out.f.c2;obtain⟨e0,e1⟩:=hJ.out.e.c2;obtain⟨f2,f3⟩:=hJ.out.f.fr2;obtain⟨e2,e3⟩:=hJ.out.e.fr2)
 by_cases c1:0<Cal.alongS s u.a s.a
 ·have d1:decide (0<Cal.alongS s u.a s.a)=true:=decide_eq_true c1
  have hF:Hid ((if 0<Cal.alongS s u.a s.a then u.a else s.a)=u.a):=if_pos c1
  replace c1:=Lib.hid c1
  have m2:Hid True:=trivial
  go_wp2_with (go_at_call 116;clear m2;refine (along_any s u.a s.a _ hs hu.a hs.a).mono ?_;clear a0 a1 a2 a3 b0 b1 b2 b3 f0 f1 f2 f3 e0 e1 e2 e3;rintro e X2 ⟨rfl,hbn⟩;replace hJ:=Lib.hid (hJ.out.below hbn);clear hbn;(obtain⟨a0,a1,a2,a3⟩:=hJ.out.base.s.c4;obtain⟨b0,b1,b2,b3⟩:=hJ.out.base.t.c4;obtain⟨f0,f1⟩:=hJ.out.f.c2;obtain⟨e0,e1⟩:=hJ.out.e.c2;obtain⟨f2,f3⟩:=hJ.out.f.fr2;obtain⟨e2,e3⟩:=hJ.out.e.fr2))
  replace hJ:=Lib.hid (hJ.out.setF u.a)
  clear a0 a1 a2 a3 b0 b1 b2 b3 f0 f1 f2 f3 e0 e1 e2 e3
  refine (along_any s u.b s.b _ hs hu.b hs.b).mono ?_
  rintro e X3 ⟨rfl,hbn⟩
  replace hJ:=Lib.hid (hJ.out.below hbn)
  clear hbn
  (obtain⟨a0,a1,a2,a3⟩:=hJ.out.base.s.c4;obtain⟨b0,b1,b2,b3⟩:=hJ.out.base.t.c4;obtain⟨f0,f1⟩:=hJ.out.f.c2;obtain⟨e0,e1⟩:=hJ.out.e.c2;obtain⟨f2,f3⟩:=hJ.out.f.fr2;obtain⟨e2,e3⟩:=hJ.out.e.fr2)
  by_cases c2:Cal.alongS s u.b s.b<0
  ·have d2:decide (Cal.alongS s u.b s.b<0)=true:=decide_eq_true c2
   have hE:Hid (comT s t=(⟨u.a,u.b⟩,decide (Cal.alongS s u.a u.b<0))):=by show _=_;rw[hR.out,hF.out,if_pos c2]
   replace c2:=Lib.hid c2
   go_wp2_with fail
   replace hJ:=Lib.hid (hJ.out.setE u.b)
   obtain⟨Y,hY⟩:∃ Y,(X3.setCell ⟨Be,0,none⟩ (.int .i64 u.b.x)).setCell ⟨Be,1,none⟩ (.int .i64 u.b.y)=Y:=⟨_,rfl⟩
   rw[hY] at hJ ⊢
   clear hY
   clear a0 a1 a2 a3 b0 b1 b2 b3 f0 f1 f2 f3 e0 e1 e2 e3
   refine wp_region_held_drew (S:=CmK w s Bf Be u.a u.b) (by kernel_rfl) (hJ.out.k.below ((Below.refl _ _).drew)) (fun hHeld=>?_)
   refine tkCx 0 54 ?_
   refine tkCx 1 55 ?_
   refine tkCx 2 56 ?_
   refine tkCx 3 57 ?_
   refine tkCx 4 58 ?_
   refine tkCx 5 59 ?_
   (refine ratHx 6 (fun K hK=>?_);go_simp)
   refine (along_any s u.a u.b _ hs hu.a hu.b).mono ?_
   rintro e9 wn ⟨rfl,hbn⟩
   go_simp
   refine hK.out _ _ (hHeld.below hbn) (fun hHeld=>?_)
   clear hK K hbn
   (try simp only[apS,apN,siA,scZ,scS])
   refine tkCx 7 61 ?_
   obtain⟨z0,z1,z2,z3,hz⟩:=hHeld.z
   obtain⟨r0,r1,r2,r3⟩:=hz.c4;obtain⟨g0,g1,g2,g3⟩:=hz.fr4
   have hz9:=Lib.hid ((((hz.set 0 (.int .i64 u.a.x) (by simp)).set 1 (.int .i64 u.a.y) (by simp)).set 2 (.int .i64 u.b.x) (by simp)).set 3 (.int .i64 u.b.y) (by simp))
   (refine ratHx 8 (fun K hK=>?_);go_simp)
   refine hK.out _ _ ((((hHeld.store 0 (by omega) _).store 1 (by omega) _).store 2 (by omega) _).store 3 (by omega) _) (fun hHeld=>?_)
   clear hK K
   (try simp only[apS,apN,siA,scZ,scS])
   refine tkCx 9 5 ?_
   refine wpAnyH_done (by kernel_rfl) ?_ _
   go_wp2_with fail
   refine bodyPost_ret (results_mid2 rfl _ _ (w.heap.size+1+1) [.int .i64 u.a.x,.int .i64 u.a.y,.int .i64 u.b.x,.int .i64 u.b.y] _ rfl hz9.out.range Tryz.underlying90 rfl sgSize) rfl ⟨(by rw[hE.out];rfl),hHeld.bel⟩
  have d2:decide (Cal.alongS s u.b s.b<0)=false:=decide_eq_false c2
  have hE:Hid (comT s t=(⟨u.a,s.b⟩,decide (Cal.alongS s u.a s.b<0))):=by show _=_;rw[hR.out,hF.out,if_neg c2]
  replace c2:=Lib.hid c2
  go_wp2_with fail
  clear a0 a1 a2 a3 b0 b1 b2 b3 f0 f1 f2 f3 e0 e1 e2 e3
  refine wp_region_held_drew (S:=CmK w s Bf Be u.a s.b) (by kernel_rfl) (hJ.out.k.below ((Below.refl _ _).drew)) (fun hHeld=>?_)
  refine tkCx 0 54 ?_
  refine tkCx 1 55 ?_
  refine tkCx 2 56 ?_
  refine tkCx 3 57 ?_
  refine tkCx 4 58 ?_
  refine tkCx 5 59 ?_
  (refine ratHx 6 (fun K hK=>?_);go_simp)
  refine (along_any s u.a s.b _ hs hu.a hs.b).mono ?_
  rintro e9 wn ⟨rfl,hbn⟩
  go_simp
  refine hK.out _ _ (hHeld.below hbn) (fun hHeld=>?_)
  clear hK K hbn
  (try simp only[apS,apN,siA,scZ,scS])
  refine tkCx 7 61 ?_
  obtain⟨z0,z1,z2,z3,hz⟩:=hHeld.z
  obtain⟨r0,r1,r2,r3⟩:=hz.c4;obtain⟨g0,g1,g2,g3⟩:=hz.fr4
  have hz9:=Lib.hid ((((hz.set 0 (.int .i64 u.a.x) (by simp)).set 1 (.int .i64 u.a.y) (by simp)).set 2 (.int .i64 s.b.x) (by simp)).set 3 (.int .i64 s.b.y) (by simp))
  (refine ratHx 8 (fun K hK=>?_);go_simp)
  refine hK.out _ _ ((((hHeld.store 0 (by omega) _).store 1 (by omega) _).store 2 (by omega) _).store 3 (by omega) _) (fun hHeld=>?_)
  clear hK K
  (try simp only[apS,apN,siA,scZ,scS])
  refine tkCx 9 5 ?_
  refine wpAnyH_done (by kernel_rfl) ?_ _
  go_wp2_with fail
  refine bodyPost_ret (results_mid2 rfl _ _ (w.heap.size+1+1) [.int .i64 u.a.x,.int .i64 u.a.y,.int .i64 s.b.x,.int .i64 s.b.y] _ rfl hz9.out.range Tryz.underlying90 rfl sgSize) rfl ⟨(by rw[hE.out];rfl),hHeld.bel⟩
 have d1:decide (0<Cal.alongS s u.a s.a)=false:=decide_eq_false c1
 have hF:Hid ((if 0<Cal.alongS s u.a s.a then u.a else s.a)=s.a):=if_neg c1
 replace c1:=Lib.hid c1
 have m2:Hid True:=trivial
 go_wp2_with (go_at_call 116;clear m2;refine (along_any s u.a s.a _ hs hu.a hs.a).mono ?_;clear a0 a1 a2 a3 b0 b1 b2 b3 f0 f1 f2 f3 e0 e1 e2 e3;rintro e X2 ⟨rfl,hbn⟩;replace hJ:=Lib.hid (hJ.out.below hbn);clear hbn;(obtain⟨a0,a1,a2,a3⟩:=hJ.out.base.s.c4;obtain⟨b0,b1,b2,b3⟩:=hJ.out.base.t.c4;obtain⟨f0,f1⟩:=hJ.out.f.c2;obtain⟨e0,e1⟩:=hJ.out.e.c2;obtain⟨f2,f3⟩:=hJ.out.f.fr2;obtain⟨e2,e3⟩:=hJ.out.e.fr2))
 clear a0 a1 a2 a3 b0 b1 b2 b3 f0 f1 f2 f3 e0 e1 e2 e3
 refine (along_any s u.b s.b _ hs hu.b hs.b).mono ?_
 rintro e X3 ⟨rfl,hbn⟩
 replace hJ:=Lib.hid (hJ.out.below hbn)
 clear hbn
 (obtain⟨a0,a1,a2,a3⟩:=hJ.out.base.s.c4;obtain⟨b0,b1,b2,b3⟩:=hJ.out.base.t.c4;obtain⟨f0,f1⟩:=hJ.out.f.c2;obtain⟨e0,e1⟩:=hJ.out.e.c2;obtain⟨f2,f3⟩:=hJ.out.f.fr2;obtain⟨e2,e3⟩:=hJ.out.e.fr2)
 by_cases c2:Cal.alongS s u.b s.b<0
 ·have d2:decide (Cal.alongS s u.b s.b<0)=true:=decide_eq_true c2
  have hE:Hid (comT s t=(⟨s.a,u.b⟩,decide (Cal.alongS s s.a u.b<0))):=by show _=_;rw[hR.out,hF.out,if_pos c2]
  replace c2:=Lib.hid c2
  go_wp2_with fail
  replace hJ:=Lib.hid (hJ.out.setE u.b)
  obtain⟨Y,hY⟩:∃ Y,(X3.setCell ⟨Be,0,none⟩ (.int .i64 u.b.x)).setCell ⟨Be,1,none⟩ (.int .i64 u.b.y)=Y:=⟨_,rfl⟩
  rw[hY] at hJ ⊢
  clear hY
  clear a0 a1 a2 a3 b0 b1 b2 b3 f0 f1 f2 f3 e0 e1 e2 e3
  refine wp_region_held_drew (S:=CmK w s Bf Be s.a u.b) (by kernel_rfl) (hJ.out.k.below ((Below.refl _ _).drew)) (fun hHeld=>?_)
  refine tkCx 0 54 ?_
  refine tkCx 1 55 ?_
  refine tkCx 2 56 ?_
  refine tkCx 3 57 ?_
  refine tkCx 4 58 ?_
  refine tkCx 5 59 ?_
  (refine ratHx 6 (fun K hK=>?_);go_simp)
  refine (along_any s s.a u.b _ hs hs.a hu.b).mono ?_
  rintro e9 wn ⟨rfl,hbn⟩
  go_simp
  refine hK.out _ _ (hHeld.below hbn) (fun hHeld=>?_)
  clear hK K hbn
  (try simp only[apS,apN,siA,scZ,scS])
  refine tkCx 7 61 ?_
  obtain⟨z0,z1,z2,z3,hz⟩:=hHeld.z
  obtain⟨r0,r1,r2,r3⟩:=hz.c4;obtain⟨g0,g1,g2,g3⟩:=hz.fr4
  have hz9:=Lib.hid ((((hz.set 0 (.int .i64 s.a.x) (by simp)).set 1 (.int .i64 s.a.y) (by simp)).set 2 (.int .i64 u.b.x) (by simp)).set 3 (.int .i64 u.b.y) (by simp))
  (refine ratHx 8 (fun K hK=>?_);go_simp)
  refine hK.out _ _ ((((hHeld.store 0 (by omega) _).store 1 (by omega) _).store 2 (by omega) _).store 3 (by omega) _) (fun hHeld=>?_)
  clear hK K
  (try simp only[apS,apN,siA,scZ,scS])
  refine tkCx 9 5 ?_
  refine wpAnyH_done (by kernel_rfl) ?_ _
  go_wp2_with fail
  refine bodyPost_ret (results_mid2 rfl _ _ (w.heap.size+1+1) [.int .i64 s.a.x,.int .i64 s.a.y,.int .i64 u.b.x,.int .i64 u.b.y] _ rfl hz9.out.range Tryz.underlying90 rfl sgSize) rfl ⟨(by rw[hE.out];rfl),hHeld.bel⟩
 have d2:decide (Cal.alongS s u.b s.b<0)=false:=decide_eq_false c2
 have hE:Hid (comT s t=(⟨s.a,s.b⟩,decide (Cal.alongS s s.a s.b<0))):=by show _=_;rw[hR.out,hF.out,if_neg c2]
 replace c2:=Lib.hid c2
 go_wp2_with fail
 clear a0 a1 a2 a3 b0 b1 b2 b3 f0 f1 f2 f3 e0 e1 e2 e3
 refine wp_region_held_drew (S:=CmK w s Bf Be s.a s.b) (by kernel_rfl) (hJ.out.k.below ((Below.refl _ _).drew)) (fun hHeld=>?_)
 refine tkCx 0 54 ?_
 refine tkCx 1 55 ?_
 refine tkCx 2 56 ?_
 refine tkCx 3 57 ?_
 refine tkCx 4 58 ?_
 refine tkCx 5 59 ?_
 (refine ratHx 6 (fun K hK=>?_);go_simp)
 refine (along_any s s.a s.b _ hs hs.a hs.b).mono ?_
 rintro e9 wn ⟨rfl,hbn⟩
 go_simp
 refine hK.out _ _ (hHeld.below hbn) (fun hHeld=>?_)
 clear hK K hbn
 (try simp only[apS,apN,siA,scZ,scS])
 refine tkCx 7 61 ?_
 obtain⟨z0,z1,z2,z3,hz⟩:=hHeld.z
 obtain⟨r0,r1,r2,r3⟩:=hz.c4;obtain⟨g0,g1,g2,g3⟩:=hz.fr4
 have hz9:=Lib.hid ((((hz.set 0 (.int .i64 s.a.x) (by simp)).set 1 (.int .i64 s.a.y) (by simp)).set 2 (.int .i64 s.b.x) (by simp)).set 3 (.int .i64 s.b.y) (by simp))
 (refine ratHx 8 (fun K hK=>?_);go_simp)
 refine hK.out _ _ ((((hHeld.store 0 (by omega) _).store 1 (by omega) _).store 2 (by omega) _).store 3 (by omega) _) (fun hHeld=>?_)
 clear hK K
 (try simp only[apS,apN,siA,scZ,scS])
 refine tkCx 9 5 ?_
 refine wpAnyH_done (by kernel_rfl) ?_ _
 go_wp2_with fail
 refine bodyPost_ret (results_mid2 rfl _ _ (w.heap.size+1+1) [.int .i64 s.a.x,.int .i64 s.a.y,.int .i64 s.b.x,.int .i64 s.b.y] _ rfl hz9.out.range Tryz.underlying90 rfl sgSize) rfl ⟨(by rw[hE.out];rfl),hHeld.bel⟩
end Go.Proofs.YthfokpchdlcidaaGreat
namespace Go.Proofs.YthfokpchdlcidaaGreat
open Go Go.RowKit Go.Shelf
theorem storeZ {P:Program} {ops:Array Oper} {Q:Exit→Act→World→Prop} {md:Region.Mode} {S:World→Prop} {y:Nat} (i:Nat) {op:Oper} {fuel:Nat} {listed:Array Bool} {a:Act} {w:World} (ty:TypeId) (e f:Operand) (b o:Nat) (cells:Array Value)
  (hr:Region.ready md ops listed=[i]) (ho:ops[i]?=some op) (hst:op.op=.store ty e f) (hl:(listed.setIfInBounds i true).getD y true=true) (hw:Region.wanted op (yielded ops a.tmps)=true)
  (hx:a.eval e=.pointer (some ⟨b,o,none⟩)) (hy:a.eval f=.agg cells) (ht:w.there b o cells.size) (hi:(P.info? ty).map (·.size)=some cells.size) (h1:cells.all (·.oneCell')=true)
  (h:wpAnyHY P md ops Q S y fuel (listed.setIfInBounds i true) (a.put op.dst undef) (w.setCells b o cells.toList)):wpAnyHY P md ops Q S y (fuel+1) listed a w :=
 ratZc i hr ho hl (fun K hK=>by
  rw[if_pos hw]
  exact wp_store_mid ty e f hst b o cells hx hy ht hi h1 (hK.out _ _ h))
theorem sideR_any (V:Option Addr) (d:Nat) (ps:List Pt) (k:Nat) (w:World) (hP:PtsR w V ps) (hk:k<ps.length) (hl:ps.length≤100000):Calls Tryz.prog 84 #[.slice V ps.length d,.int .i64 k] w fun e w'=>e=.returned (.agg #[.int .i64 (Cal.sd ps k).a.x,.int .i64 (Cal.sd ps k).a.y,.int .i64 (Cal.sd ps k).b.x,.int .i64 (Cal.sd ps k).b.y])∧Below w.heap.size w w':=by
 obtain⟨q,hq⟩:∃ q,q=(k+1) % ps.length:=⟨_,rfl⟩
 have hqlt:q<ps.length:=by rw[hq];exact Nat.mod_lt _ (by omega)
 have hq1:((k:Int)+1).tmod (ps.length:Int)=(q:Int):=by rw[hq];rfl
 have hk1:IntKind.i64.wrap ((k:Int)+1)=(k:Int)+1:=wrap_small (by omega) (by omega)
 have hq2:IntKind.i64.wrap (q:Int)=(q:Int):=wrap_small (by omega) (by omega)
 have hne:¬ps.length=0:=by omega
 have hsd:Cal.sd ps k=⟨ps[k],ps[q]⟩:=by
  unfold Cal.sd
  rw[←hq,List.getElem?_eq_getElem hk,List.getElem?_eq_getElem hqlt]
  rfl
 rw[hsd]
 have hPr:=hP.rows.below (below_alloc w (.cells #[.int .i64 0,.int .i64 0,.int .i64 0,.int .i64 0] 90))
 obtain⟨b,o,rfl,hbl,e0,e1⟩:=pts_at hPr (List.getElem?_eq_getElem hk)
 obtain⟨b',o',hA,_,e2,e3⟩:=pts_at hPr (List.getElem?_eq_getElem hqlt)
 cases hA
 generalize ps[k]=pa at *
 generalize ps[q]=pc at *
 have hki:(k:Int)<(ps.length:Int):=by omega
 have hqi:(q:Int)<(ps.length:Int):=by omega
 have hz:=Lib.hid (BoxAt.new w #[.int .i64 0,.int .i64 0,.int .i64 0,.int .i64 0] 90)
 have hb:=Lib.hid (below_alloc w (.cells #[.int .i64 0,.int .i64 0,.int .i64 0,.int .i64 0] 90))
 clear hP hPr hq hsd
 go_enter Tryz.func84,Tryz.ntmps84
 go_wp2_with fail
 generalize hW1:w.alloc (.cells #[.int .i64 0,.int .i64 0,.int .i64 0,.int .i64 0] 90)=W1 at *
 clear hW1
 have hzd:=Lib.hid (hz.out.below (Below.refl _ _).drew)
 have hbd:=Lib.hid hb.out.drew
 refine wp_region_heldZ (S:=Sx W1 [(b,o+k*2,.int .i64 pa.x),(b,o+k*2+1,.int .i64 pa.y),(b,o+q*2,.int .i64 pc.x),(b,o+q*2+1,.int .i64 pc.y)]) 13 (by kernel_rfl) (Sx.mk (by simp only[cs_iff_cons];exact⟨e0,e1,e2,e3,cs_nil _⟩) (Below.refl _ _)).drew (fun hHeld=>?_)
 refine tkZx 0 5 ?_
 refine tkZx 1 6 ?_
 refine tkZx 2 7 ?_
 refine tkZx 3 8 ?_
 refine tkZx 4 9 ?_
 refine tkZx 5 10 ?_
 refine tkZx 6 11 ?_
 refine tkZx 7 12 ?_
 refine tkZx 8 13 ?_
 refine tkZx 9 14 ?_
 refine tkZx 10 15 ?_
 refine tkZx 11 16 ?_
 refine tkZx 12 17 ?_
 (try simp only[apS,apN,siA,scZ,scS])
 refine storeZ 13 90 (.tmp 4) (.tmp 17) w.heap.size 0 #[.int .i64 pa.x,.int .i64 pa.y,.int .i64 pc.x,.int .i64 pc.y] (by decide +kernel) (by exact rfl) (by exact rfl) (by decide +kernel) (by kernel_rfl) (by rfl) (by rfl) (by exact hzd.out.there) sgSize (by kernel_rfl) ?_
 (try simp only[apS,apN,siA,scZ,scS])
 refine wpAnyHY_done (by decide +kernel) ?_ _
 have h5:=Lib.hid (hzd.out.put [.int .i64 pa.x,.int .i64 pa.y,.int .i64 pc.x,.int .i64 pc.y] rfl)
 have hb5:=Lib.hid (below_of_grownB hbd.out (grown_setCells w.heap.size [.int .i64 pa.x,.int .i64 pa.y,.int .i64 pc.x,.int .i64 pc.y] 0 W1.drew) (Nat.le_refl _))
 go_wp2_with fail
 (try simp only[Exit.inBlock,Exit.then])
 refine bodyPost_ret (results_mid1 rfl _ _ w.heap.size [.int .i64 pa.x,.int .i64 pa.y,.int .i64 pc.x,.int .i64 pc.y] _ rfl h5.out.range Tryz.underlying90 rfl sgSize) rfl ⟨rfl,hb5.out⟩
end Go.Proofs.YthfokpchdlcidaaGreat
namespace Go.Proofs.YthfokpchdlcidaaGreat
open Go Go.RowKit Go.Shelf
theorem storeH {P:Program} {ops:Array Oper} {Q:Exit→Act→World→Prop} {md:Region.Mode} {S:World→Prop} (i:Nat) {op:Oper} {fuel:Nat} {listed:Array Bool} {a:Act} {w:World} (ty:TypeId) (e f:Operand) (b o:Nat) (cells:Array Value)
  (hr:Region.ready md ops listed=[i]) (ho:ops[i]?=some op) (hst:op.op=.store ty e f) (hw:Region.wanted op (yielded ops a.tmps)=true)
  (hx:a.eval e=.pointer (some ⟨b,o,none⟩)) (hy:a.eval f=.agg cells) (ht:w.there b o cells.size) (hi:(P.info? ty).map (·.size)=some cells.size) (h1:cells.all (·.oneCell')=true)
  (hS:S (w.setCells b o cells.toList)) (h:S (w.setCells b o cells.toList)→wpAnyH P md ops Q S fuel (listed.setIfInBounds i true) (a.put op.dst undef) (w.setCells b o cells.toList)):wpAnyH P md ops Q S (fuel+1) listed a w :=
 wpAnyH_ready (rs:=[i]) hr (by simp) (AllReadyH.cons ho (fun K hK=>by
  rw[if_pos hw]
  exact wp_store_mid ty e f hst b o cells hx hy ht hi h1 (hK.out _ _ hS h)) AllReadyH.nil)
theorem BoxAt.asideC {W:World} {B b:Nat} {cs vs:List Value} (h:BoxAt W B cs) (hne:B≠b):BoxAt (W.setCells b 0 vs) B cs :=
 h.grown (grown_setCells b vs 0 W) (fun e=>hne (by cases e;rfl))
theorem newBox {w W:World} {cs:Array Value} {t:TypeId} (_:Sx w [] (W.alloc (.cells cs t))):BoxAt (W.alloc (.cells cs t)) W.heap.size cs.toList:=BoxAt.new W cs t
theorem oldBox {w W:World} {o:Obj} {B:Nat} {cs:List Value} (_:Sx w [] (W.alloc o)) (h:BoxAt W B cs):BoxAt (W.alloc o) B cs:=h.alloc o
theorem ltBox {w W:World} {o:Obj} (h:Sx w [] W) (_:Sx w [] (W.alloc o)):w.heap.size≤W.heap.size:=h.bel.size
theorem storeP {P:Program} {ops:Array Oper} {Q:Exit→Act→World→Prop} {md:Region.Mode} {w W:World} {L:List (Nat × Nat × Value)} (i:Nat) (ty:TypeId) (e f:Operand) (b:Nat) {cs:List Value} (vs:List Value) {b1 b2:Nat} {c1 c2:List Value} {op:Oper} {fuel:Nat} {listed l':Array Bool} {a a':Act}
  (hb:w.heap.size≤b) (hL:∀ x∈L,x.1<w.heap.size) (hS:Sx w L W) (x:Hid (BoxAt W b cs)) (hl:vs.length=cs.length) (y1:Hid (BoxAt W b1 c1)) (n1:b1≠b) (y2:Hid (BoxAt W b2 c2)) (n2:b2≠b)
  (h:∀ W',Sx w L W'→Hid (BoxAt W' b vs)→Hid (BoxAt W' b1 c1)→Hid (BoxAt W' b2 c2)→wpAnyH P md ops Q (Sx w L) fuel l' a' W')
  (ho:ops[i]?=some op:=by exact rfl) (hst:op.op=.store ty e f:=by exact rfl) (hr:Region.ready md ops listed=[i]:=by decide +kernel) (hw:Region.wanted op (yielded ops a.tmps)=true:=by kernel_rfl)
  (hx:a.eval e=.pointer (some ⟨b,0,none⟩):=by rfl) (hy:a.eval f=.agg vs.toArray:=by rfl) (hi:(P.info? ty).map (·.size)=some vs.toArray.size:=by kernel_rfl) (h1:vs.toArray.all (·.oneCell')=true:=by kernel_rfl)
  (ha:a.put op.dst undef=a':=by ((try simp only[Act.put,List.setIfInBounds_toArray,List.set_cons_zero,List.set_cons_succ]);exact rfl))
  (hl':listed.setIfInBounds i true=l':=by ((try simp only[List.setIfInBounds_toArray,List.set_cons_zero,List.set_cons_succ]);exact rfl)):wpAnyH P md ops Q (Sx w L) (fuel+1) listed a W:=by
 have hS2:Sx w L (W.setCells b 0 vs):=⟨fun x hx=>(World.cell?_of_block (a:=⟨x.1,x.2.1,none⟩) ((grown_setCells b vs 0 W).block x.1 (Nat.lt_of_lt_of_le (hL x hx) hS.bel.size) (fun e=>by have:=hL x hx;have:=Option.some.inj e;omega))).trans (hS.cs x hx),below_of_grownB hS.bel (grown_setCells b vs 0 W) hb⟩
 refine storeH i ty e f b 0 vs.toArray hr ho hst hw hx hy ?_ hi h1 hS2 (fun h2=>?_)
 ·have:=x.out.there
  rw[←hl] at this
  exact this
 rw[ha,hl']
 exact h _ h2 (x.out.put vs hl) (y1.out.asideC n1) (y2.out.asideC n2)
end Go.Proofs.YthfokpchdlcidaaGreat
namespace Go.Proofs.YthfokpchdlcidaaGreat
open Go Go.RowKit Go.Shelf
theorem crossesR_any (s t:Sd) (w:World) (hs:SmS s) (ht:SmS t):Calls Tryz.prog 88 #[.agg #[.int .i64 s.a.x,.int .i64 s.a.y,.int .i64 s.b.x,.int .i64 s.b.y],.agg #[.int .i64 t.a.x,.int .i64 t.a.y,.int .i64 t.b.x,.int .i64 t.b.y]] w fun e w'=>e=.returned (.bool (Cal.crosS s t))∧Below w.heap.size w w':=by
 obtain⟨b0,b1,b2,b3,b4,b5⟩:=trn_box s t.a t.b
 obtain⟨d0,d1,d2,d3,d4,d5⟩:=trn_box t s.a s.b
 have w1:IntKind.i64.wrap (Cal.trn s t.a*Cal.trn s t.b)=Cal.trn s t.a*Cal.trn s t.b:=wrap_small (by omega) (by omega)
 have w2:IntKind.i64.wrap (Cal.trn t s.a*Cal.trn t s.b)=Cal.trn t s.a*Cal.trn t s.b:=wrap_small (by omega) (by omega)
 clear b0 b1 b2 b3 b4 b5 d0 d1 d2 d3 d4 d5
 have g1:=Lib.hid (fun W=>crossR_any s.a s.b t.a W hs.a hs.b ht.a)
 have g2:=Lib.hid (fun W=>crossR_any s.a s.b t.b W hs.a hs.b ht.b)
 have g3:=Lib.hid (fun W=>crossR_any t.a t.b s.a W ht.a ht.b hs.a)
 have g4:=Lib.hid (fun W=>crossR_any t.a t.b s.b W ht.a ht.b hs.b)
 have k1:Hid (∀ W,Calls Tryz.prog 120 #[.int .i64 (Cal.crs ⟨s.a,s.b⟩ t.a)] W fun e w'=>e=.returned (.int .i64 (Cal.trn s t.a))∧Below W.heap.size W w'):=fun W=>signR_any _ W
 have k2:Hid (∀ W,Calls Tryz.prog 120 #[.int .i64 (Cal.crs ⟨s.a,s.b⟩ t.b)] W fun e w'=>e=.returned (.int .i64 (Cal.trn s t.b))∧Below W.heap.size W w'):=fun W=>signR_any _ W
 have k3:Hid (∀ W,Calls Tryz.prog 120 #[.int .i64 (Cal.crs ⟨t.a,t.b⟩ s.a)] W fun e w'=>e=.returned (.int .i64 (Cal.trn t s.a))∧Below W.heap.size W w'):=fun W=>signR_any _ W
 have k4:Hid (∀ W,Calls Tryz.prog 120 #[.int .i64 (Cal.crs ⟨t.a,t.b⟩ s.b)] W fun e w'=>e=.returned (.int .i64 (Cal.trn t s.b))∧Below W.heap.size W w'):=fun W=>signR_any _ W
 by_cases h:Cal.trn s t.a*Cal.trn s t.b<0
 ·have hf:Hid (Cal.crosS s t=decide (Cal.trn t s.a*Cal.trn t s.b<0)):=by show _=_;unfold Cal.crosS;rw[decide_eq_true h,Bool.true_and]
  have hd:=decide_eq_true h
  go_enter Tryz.func88,Tryz.ntmps88
  go_wp2_with fail
  refine wp_region_held_drew (S:=Sx w [(w.heap.size,0,.int .i64 s.a.x),(w.heap.size,1,.int .i64 s.a.y),(w.heap.size,2,.int .i64 s.b.x),(w.heap.size,3,.int .i64 s.b.y),(w.heap.size+1,0,.int .i64 t.a.x),(w.heap.size+1,1,.int .i64 t.a.y),(w.heap.size+1,2,.int .i64 t.b.x),(w.heap.size+1,3,.int .i64 t.b.y)]) (by kernel_rfl) ⟨by simp[cs_iff_cons,cs_nil],blw⟩ (fun hHeld=>?_)
  refine tkHx 0 5 ?_
  refine tkHx 1 6 ?_
  refine tkHx 2 7 ?_
  refine tkHx 3 8 ?_
  refine tkHx 4 9 ?_
  refine tkHx 5 10 ?_
  refine tkHx 8 13 ?_
  refine tkHx 9 14 ?_
  refine tkHx 10 15 ?_
  refine tkHx 11 16 ?_
  refine tkHx 12 17 ?_
  refine tkHx 13 18 ?_
  (refine ratHx 6 (fun K hK=>?_);go_simp)
  refine (g1.out _).mono ?_
  rintro e wn ⟨rfl,hbn⟩
  go_simp
  (refine hK.out _ _ (hHeld.step hbn) (fun hHeld=>?_);clear hK K;(try simp only[apS,apN,siA,scZ,scS]))
  (refine ratHx 7 (fun K hK=>?_);go_simp)
  refine (k1.out _).mono ?_
  rintro e wn ⟨rfl,hbn⟩
  go_simp
  (refine hK.out _ _ (hHeld.step hbn) (fun hHeld=>?_);clear hK K;(try simp only[apS,apN,siA,scZ,scS]))
  (refine ratHx 14 (fun K hK=>?_);go_simp)
  refine (g2.out _).mono ?_
  rintro e wn ⟨rfl,hbn⟩
  go_simp
  (refine hK.out _ _ (hHeld.step hbn) (fun hHeld=>?_);clear hK K;(try simp only[apS,apN,siA,scZ,scS]))
  (refine ratHx 15 (fun K hK=>?_);go_simp)
  refine (k2.out _).mono ?_
  rintro e wn ⟨rfl,hbn⟩
  go_simp
  (refine hK.out _ _ (hHeld.step hbn) (fun hHeld=>?_);clear hK K;(try simp only[apS,apN,siA,scZ,scS]))
  refine tkHx 16 21 ?_
  refine tkHx 17 22 ?_
  refine tkHx 18 23 ?_
  refine tkHx 19 24 ?_
  refine tkHx 20 25 ?_
  refine tkHx 21 26 ?_
  refine tkHx 22 27 ?_
  refine tkHx 23 28 ?_
  refine tkHx 24 29 ?_
  refine tkHx 27 32 ?_
  refine tkHx 28 33 ?_
  refine tkHx 29 34 ?_
  refine tkHx 30 35 ?_
  refine tkHx 31 36 ?_
  refine tkHx 32 37 ?_
  (refine ratHx 25 (fun K hK=>?_);go_simp)
  refine (g3.out _).mono ?_
  rintro e wn ⟨rfl,hbn⟩
  go_simp
  (refine hK.out _ _ (hHeld.step hbn) (fun hHeld=>?_);clear hK K;(try simp only[apS,apN,siA,scZ,scS]))
  (refine ratHx 26 (fun K hK=>?_);go_simp)
  refine (k3.out _).mono ?_
  rintro e wn ⟨rfl,hbn⟩
  go_simp
  (refine hK.out _ _ (hHeld.step hbn) (fun hHeld=>?_);clear hK K;(try simp only[apS,apN,siA,scZ,scS]))
  (refine ratHx 33 (fun K hK=>?_);go_simp)
  refine (g4.out _).mono ?_
  rintro e wn ⟨rfl,hbn⟩
  go_simp
  (refine hK.out _ _ (hHeld.step hbn) (fun hHeld=>?_);clear hK K;(try simp only[apS,apN,siA,scZ,scS]))
  (refine ratHx 34 (fun K hK=>?_);go_simp)
  refine (k4.out _).mono ?_
  rintro e wn ⟨rfl,hbn⟩
  go_simp
  (refine hK.out _ _ (hHeld.step hbn) (fun hHeld=>?_);clear hK K;(try simp only[apS,apN,siA,scZ,scS]))
  refine tkHx 35 40 ?_
  refine tkHx 36 41 ?_
  refine tkHx 37 42 ?_
  refine tkHx 38 4 ?_
  refine wpAnyH_done (by kernel_rfl) ?_ _
  go_wp2_with fail
  go_ret
  exact⟨ret_bool hf.out.symm,hHeld.bel⟩
 have hf:Hid (Cal.crosS s t=false):=by show _=_;unfold Cal.crosS;rw[decide_eq_false h,Bool.false_and]
 have hd:=decide_eq_false h
 go_enter Tryz.func88,Tryz.ntmps88
 go_wp2_with fail
 refine wp_region_held_drew (S:=Sx w [(w.heap.size,0,.int .i64 s.a.x),(w.heap.size,1,.int .i64 s.a.y),(w.heap.size,2,.int .i64 s.b.x),(w.heap.size,3,.int .i64 s.b.y),(w.heap.size+1,0,.int .i64 t.a.x),(w.heap.size+1,1,.int .i64 t.a.y),(w.heap.size+1,2,.int .i64 t.b.x),(w.heap.size+1,3,.int .i64 t.b.y)]) (by kernel_rfl) ⟨by simp[cs_iff_cons,cs_nil],blw⟩ (fun hHeld=>?_)
 refine tkHx 0 5 ?_
 refine tkHx 1 6 ?_
 refine tkHx 2 7 ?_
 refine tkHx 3 8 ?_
 refine tkHx 4 9 ?_
 refine tkHx 5 10 ?_
 refine tkHx 8 13 ?_
 refine tkHx 9 14 ?_
 refine tkHx 10 15 ?_
 refine tkHx 11 16 ?_
 refine tkHx 12 17 ?_
 refine tkHx 13 18 ?_
 (refine ratHx 6 (fun K hK=>?_);go_simp)
 refine (g1.out _).mono ?_
 rintro e wn ⟨rfl,hbn⟩
 go_simp
 (refine hK.out _ _ (hHeld.step hbn) (fun hHeld=>?_);clear hK K;(try simp only[apS,apN,siA,scZ,scS]))
 (refine ratHx 7 (fun K hK=>?_);go_simp)
 refine (k1.out _).mono ?_
 rintro e wn ⟨rfl,hbn⟩
 go_simp
 (refine hK.out _ _ (hHeld.step hbn) (fun hHeld=>?_);clear hK K;(try simp only[apS,apN,siA,scZ,scS]))
 (refine ratHx 14 (fun K hK=>?_);go_simp)
 refine (g2.out _).mono ?_
 rintro e wn ⟨rfl,hbn⟩
 go_simp
 (refine hK.out _ _ (hHeld.step hbn) (fun hHeld=>?_);clear hK K;(try simp only[apS,apN,siA,scZ,scS]))
 (refine ratHx 15 (fun K hK=>?_);go_simp)
 refine (k2.out _).mono ?_
 rintro e wn ⟨rfl,hbn⟩
 go_simp
 (refine hK.out _ _ (hHeld.step hbn) (fun hHeld=>?_);clear hK K;(try simp only[apS,apN,siA,scZ,scS]))
 refine tkHx 16 21 ?_
 refine tkHx 17 22 ?_
 refine tkHx 18 23 ?_
 refine tkFx 19 24 ?_
 refine tkFx 20 25 ?_
 refine tkFx 21 26 ?_
 refine tkFx 22 27 ?_
 refine tkFx 23 28 ?_
 refine tkFx 24 29 ?_
 refine tkFx 25 30 ?_
 refine tkFx 26 31 ?_
 refine tkFx 27 32 ?_
 refine tkFx 28 33 ?_
 refine tkFx 29 34 ?_
 refine tkFx 30 35 ?_
 refine tkFx 31 36 ?_
 refine tkFx 32 37 ?_
 refine tkFx 33 38 ?_
 refine tkFx 34 39 ?_
 refine tkFx 35 40 ?_
 refine tkFx 36 41 ?_
 refine tkHx 37 42 ?_
 refine tkHx 38 4 ?_
 refine wpAnyH_done (by kernel_rfl) ?_ _
 go_wp2_with fail
 go_ret
 exact⟨ret_bool hf.out.symm,hHeld.bel⟩
end Go.Proofs.YthfokpchdlcidaaGreat
namespace Go.Proofs.YthfokpchdlcidaaGreat
open Go Go.RowKit Go.Shelf
theorem onSg_split (s:Sd) (q:Pt):Cal.onSg s q=(decide (Cal.crs s q=0) && ((decide (min s.a.x s.b.x≤q.x) && decide (q.x≤max s.a.x s.b.x)) && (decide (min s.a.y s.b.y≤q.y) && decide (q.y≤max s.a.y s.b.y)))):=by
 unfold Cal.onSg
 rw[Bool.decide_and,Bool.decide_and]
theorem OnR_any (s:Sd) (q:Pt) (w:World) (hs:SmS s) (hq:SmP q):Calls Tryz.prog 85 #[.agg #[.int .i64 s.a.x,.int .i64 s.a.y,.int .i64 s.b.x,.int .i64 s.b.y],.agg #[.int .i64 q.x,.int .i64 q.y]] w fun e w'=>e=.returned (.bool (Cal.hasP s q))∧Below w.heap.size w w':=by
 rw[Cal.has_on,onSg_split]
 have hb:=Lib.hid (below_step (below_alloc w (.cells #[.int .i64 s.a.x,.int .i64 s.a.y,.int .i64 s.b.x,.int .i64 s.b.y] 90)) (below_alloc _ (.cells #[.int .i64 q.x,.int .i64 q.y] 27)))
 have hS:=Lib.hid ((BoxAt.new w #[.int .i64 s.a.x,.int .i64 s.a.y,.int .i64 s.b.x,.int .i64 s.b.y] 90).alloc (.cells #[.int .i64 q.x,.int .i64 q.y] 27))
 have hQ:=Lib.hid (BoxAt.new (w.alloc (.cells #[.int .i64 s.a.x,.int .i64 s.a.y,.int .i64 s.b.x,.int .i64 s.b.y] 90)) #[.int .i64 q.x,.int .i64 q.y] 27)
 have hc:=Lib.hid (fun W=>crossR_any s.a s.b q W hs.a hs.b hq)
 obtain⟨bx,hbx⟩:∃ b,(decide (min s.a.x s.b.x≤q.x) && decide (q.x≤max s.a.x s.b.x))=b:=⟨_,rfl⟩
 have h1:=Lib.hid (fun W=>by have:=Within_any q.x (min s.a.x s.b.x) (max s.a.x s.b.x) W;rw[hbx] at this;exact this)
 have h2:=Lib.hid (fun W=>Within_any q.y (min s.a.y s.b.y) (max s.a.y s.b.y) W)
 rw[hbx]
 replace hc:Hid (∀ W,Calls Tryz.prog 93 #[.agg #[.int .i64 s.a.x,.int .i64 s.a.y],.agg #[.int .i64 s.b.x,.int .i64 s.b.y],.agg #[.int .i64 q.x,.int .i64 q.y]] W fun e w'=>e=.returned (.int .i64 (Cal.crs s q))∧Below W.heap.size W w'):=hc.out
 by_cases hz:Cal.crs s q=0
 ·rw[hz] at hc ⊢
  cases bx
  ·go_enter Tryz.func85,Tryz.ntmps85
   go_wp2_with fail
   refine (hc.out _).mono ?_
   rintro e w1 ⟨rfl,hb1⟩
   have hS1:=hS.out.below hb1
   have hQ1:=hQ.out.below (by simpa using hb1)
   replace hb:=Lib.hid (below_step hb.out hb1)
   (obtain⟨c0,c1,c2,c3⟩:=hS1.c4)
   (obtain⟨d0,d1⟩:=hQ1.c2)
   simp only[World.size_alloc] at d0 d1
   clear hS1 hQ1 hb1
   go_wp2_with fail
   refine (h1.out _).mono ?_
   rintro e _ ⟨rfl,rfl⟩
   go_wp2_with fail
   go_ret
   exact⟨rfl,hb.out⟩
  go_enter Tryz.func85,Tryz.ntmps85
  go_wp2_with fail
  refine (hc.out _).mono ?_
  rintro e w1 ⟨rfl,hb1⟩
  have hS1:=hS.out.below hb1
  have hQ1:=hQ.out.below (by simpa using hb1)
  replace hb:=Lib.hid (below_step hb.out hb1)
  (obtain⟨c0,c1,c2,c3⟩:=hS1.c4)
  (obtain⟨d0,d1⟩:=hQ1.c2)
  simp only[World.size_alloc] at d0 d1
  clear hS1 hQ1 hb1
  go_wp2_with fail
  refine (h1.out _).mono ?_
  rintro e _ ⟨rfl,rfl⟩
  go_wp2_with fail
  refine (h2.out _).mono ?_
  rintro e _ ⟨rfl,rfl⟩
  go_wp2_with fail
  go_ret
  exact⟨rfl,hb.out⟩
 have hzd:decide (Cal.crs s q=0)=false:=by simpa using hz
 rw[hzd]
 generalize Cal.crs s q=z at *
 clear hzd
 go_enter Tryz.func85,Tryz.ntmps85
 go_wp2_with fail
 refine (hc.out _).mono ?_
 rintro e w1 ⟨rfl,hb1⟩
 have hS1:=hS.out.below hb1
 have hQ1:=hQ.out.below (by simpa using hb1)
 replace hb:=Lib.hid (below_step hb.out hb1)
 (obtain⟨c0,c1,c2,c3⟩:=hS1.c4)
 (obtain⟨d0,d1⟩:=hQ1.c2)
 simp only[World.size_alloc] at d0 d1
 clear hS1 hQ1 hb1
 go_wp2_with fail
 go_ret
 exact⟨rfl,hb.out⟩
theorem touchR_any (s t:Sd) (w:World) (hs:SmS s) (ht:SmS t) (hx:∀ W,Calls Tryz.prog 88 #[.agg #[.int .i64 s.a.x,.int .i64 s.a.y,.int .i64 s.b.x,.int .i64 s.b.y],.agg #[.int .i64 t.a.x,.int .i64 t.a.y,.int .i64 t.b.x,.int .i64 t.b.y]] W fun e w'=>e=.returned (.bool (Cal.crosS s t))∧Below W.heap.size W w'):Calls Tryz.prog 86 #[.agg #[.int .i64 s.a.x,.int .i64 s.a.y,.int .i64 s.b.x,.int .i64 s.b.y],.agg #[.int .i64 t.a.x,.int .i64 t.a.y,.int .i64 t.b.x,.int .i64 t.b.y]] w fun e w'=>e=.returned (.bool (Cal.meetS s t))∧Below w.heap.size w w':=by
 have hb:=Lib.hid (below_step (below_alloc w (.cells #[.int .i64 s.a.x,.int .i64 s.a.y,.int .i64 s.b.x,.int .i64 s.b.y] 90)) (below_alloc _ (.cells #[.int .i64 t.a.x,.int .i64 t.a.y,.int .i64 t.b.x,.int .i64 t.b.y] 90)))
 have hS:=Lib.hid ((BoxAt.new w #[.int .i64 s.a.x,.int .i64 s.a.y,.int .i64 s.b.x,.int .i64 s.b.y] 90).alloc (.cells #[.int .i64 t.a.x,.int .i64 t.a.y,.int .i64 t.b.x,.int .i64 t.b.y] 90))
 have hT:=Lib.hid (by have:=BoxAt.new (w.alloc (.cells #[.int .i64 s.a.x,.int .i64 s.a.y,.int .i64 s.b.x,.int .i64 s.b.y] 90)) #[.int .i64 t.a.x,.int .i64 t.a.y,.int .i64 t.b.x,.int .i64 t.b.y] 90;rw[World.size_alloc] at this;exact this)
 have hx:=Lib.hid hx
 have e1:=Lib.hid (fun W=>OnR_any s t.a W hs ht.a)
 have e2:=Lib.hid (fun W=>OnR_any s t.b W hs ht.b)
 have e3:=Lib.hid (fun W=>OnR_any t s.a W ht hs.a)
 have e4:=Lib.hid (fun W=>OnR_any t s.b W ht hs.b)
 unfold Cal.meetS
 generalize Cal.crosS s t=x0 at *
 generalize Cal.hasP s t.a=x1 at *
 generalize Cal.hasP s t.b=x2 at *
 generalize Cal.hasP t s.a=x3 at *
 generalize Cal.hasP t s.b=x4 at *
 cases x0
 ·cases x1
  ·cases x2
   ·cases x3
    ·go_enter Tryz.func86,Tryz.ntmps86
     go_wp2_with fail
     refine (hx.out _).mono ?_
     rintro e w1 ⟨rfl,hb1⟩
     replace hS:=Lib.hid (hS.out.below hb1)
     replace hT:=Lib.hid (hT.out.below hb1)
     replace hb:=Lib.hid (below_step hb.out hb1)
     clear hb1
     obtain⟨c0,c1,c2,c3⟩:=hS.out.c4;obtain⟨d0,d1,d2,d3⟩:=hT.out.c4
     go_wp2_with fail
     refine (e1.out _).mono ?_
     rintro e w1 ⟨rfl,hb1⟩
     replace hS:=Lib.hid (hS.out.below hb1)
     replace hT:=Lib.hid (hT.out.below hb1)
     replace hb:=Lib.hid (below_step hb.out hb1)
     clear hb1
     obtain⟨c0,c1,c2,c3⟩:=hS.out.c4;obtain⟨d0,d1,d2,d3⟩:=hT.out.c4
     go_wp2_with fail
     refine (e2.out _).mono ?_
     rintro e w1 ⟨rfl,hb1⟩
     replace hS:=Lib.hid (hS.out.below hb1)
     replace hT:=Lib.hid (hT.out.below hb1)
     replace hb:=Lib.hid (below_step hb.out hb1)
     clear hb1
     obtain⟨c0,c1,c2,c3⟩:=hS.out.c4;obtain⟨d0,d1,d2,d3⟩:=hT.out.c4
     go_wp2_with fail
     refine (e3.out _).mono ?_
     rintro e w1 ⟨rfl,hb1⟩
     replace hS:=Lib.hid (hS.out.below hb1)
     replace hT:=Lib.hid (hT.out.below hb1)
     replace hb:=Lib.hid (below_step hb.out hb1)
     clear hb1
     obtain⟨c0,c1,c2,c3⟩:=hS.out.c4;obtain⟨d0,d1,d2,d3⟩:=hT.out.c4
     go_wp2_with fail
     refine (e4.out _).mono ?_
     rintro e w1 ⟨rfl,hb1⟩
     replace hb:=Lib.hid (below_step hb.out hb1)
     go_wp2_with fail
     go_ret
     exact⟨by simp,hb.out⟩
    go_enter Tryz.func86,Tryz.ntmps86
    go_wp2_with fail
    refine (hx.out _).mono ?_
    rintro e w1 ⟨rfl,hb1⟩
    replace hS:=Lib.hid (hS.out.below hb1)
    replace hT:=Lib.hid (hT.out.below hb1)
    replace hb:=Lib.hid (below_step hb.out hb1)
    clear hb1
    obtain⟨c0,c1,c2,c3⟩:=hS.out.c4;obtain⟨d0,d1,d2,d3⟩:=hT.out.c4
    go_wp2_with fail
    refine (e1.out _).mono ?_
    rintro e w1 ⟨rfl,hb1⟩
    replace hS:=Lib.hid (hS.out.below hb1)
    replace hT:=Lib.hid (hT.out.below hb1)
    replace hb:=Lib.hid (below_step hb.out hb1)
    clear hb1
    obtain⟨c0,c1,c2,c3⟩:=hS.out.c4;obtain⟨d0,d1,d2,d3⟩:=hT.out.c4
    go_wp2_with fail
    refine (e2.out _).mono ?_
    rintro e w1 ⟨rfl,hb1⟩
    replace hS:=Lib.hid (hS.out.below hb1)
    replace hT:=Lib.hid (hT.out.below hb1)
    replace hb:=Lib.hid (below_step hb.out hb1)
    clear hb1
    obtain⟨c0,c1,c2,c3⟩:=hS.out.c4;obtain⟨d0,d1,d2,d3⟩:=hT.out.c4
    go_wp2_with fail
    refine (e3.out _).mono ?_
    rintro e w1 ⟨rfl,hb1⟩
    replace hS:=Lib.hid (hS.out.below hb1)
    replace hT:=Lib.hid (hT.out.below hb1)
    replace hb:=Lib.hid (below_step hb.out hb1)
    clear hb1
    obtain⟨c0,c1,c2,c3⟩:=hS.out.c4;obtain⟨d0,d1,d2,d3⟩:=hT.out.c4
    go_wp2_with fail
    go_ret
    exact⟨by simp,hb.out⟩
   go_enter Tryz.func86,Tryz.ntmps86
   go_wp2_with fail
   refine (hx.out _).mono ?_
   rintro e w1 ⟨rfl,hb1⟩
   replace hS:=Lib.hid (hS.out.below hb1)
   replace hT:=Lib.hid (hT.out.below hb1)
   replace hb:=Lib.hid (below_step hb.out hb1)
   clear hb1
   obtain⟨c0,c1,c2,c3⟩:=hS.out.c4;obtain⟨d0,d1,d2,d3⟩:=hT.out.c4
   go_wp2_with fail
   refine (e1.out _).mono ?_
   rintro e w1 ⟨rfl,hb1⟩
   replace hS:=Lib.hid (hS.out.below hb1)
   replace hT:=Lib.hid (hT.out.below hb1)
   replace hb:=Lib.hid (below_step hb.out hb1)
   clear hb1
   obtain⟨c0,c1,c2,c3⟩:=hS.out.c4;obtain⟨d0,d1,d2,d3⟩:=hT.out.c4
   go_wp2_with fail
   refine (e2.out _).mono ?_
   rintro e w1 ⟨rfl,hb1⟩
   replace hS:=Lib.hid (hS.out.below hb1)
   replace hT:=Lib.hid (hT.out.below hb1)
   replace hb:=Lib.hid (below_step hb.out hb1)
   clear hb1
   obtain⟨c0,c1,c2,c3⟩:=hS.out.c4;obtain⟨d0,d1,d2,d3⟩:=hT.out.c4
   go_wp2_with fail
   go_ret
   exact⟨by simp,hb.out⟩
  go_enter Tryz.func86,Tryz.ntmps86
  go_wp2_with fail
  refine (hx.out _).mono ?_
  rintro e w1 ⟨rfl,hb1⟩
  replace hS:=Lib.hid (hS.out.below hb1)
  replace hT:=Lib.hid (hT.out.below hb1)
  replace hb:=Lib.hid (below_step hb.out hb1)
  clear hb1
  obtain⟨c0,c1,c2,c3⟩:=hS.out.c4;obtain⟨d0,d1,d2,d3⟩:=hT.out.c4
  go_wp2_with fail
  refine (e1.out _).mono ?_
  rintro e w1 ⟨rfl,hb1⟩
  replace hS:=Lib.hid (hS.out.below hb1)
  replace hT:=Lib.hid (hT.out.below hb1)
  replace hb:=Lib.hid (below_step hb.out hb1)
  clear hb1
  obtain⟨c0,c1,c2,c3⟩:=hS.out.c4;obtain⟨d0,d1,d2,d3⟩:=hT.out.c4
  go_wp2_with fail
  go_ret
  exact⟨by simp,hb.out⟩
 go_enter Tryz.func86,Tryz.ntmps86
 go_wp2_with fail
 refine (hx.out _).mono ?_
 rintro e w1 ⟨rfl,hb1⟩
 replace hS:=Lib.hid (hS.out.below hb1)
 replace hT:=Lib.hid (hT.out.below hb1)
 replace hb:=Lib.hid (below_step hb.out hb1)
 clear hb1
 obtain⟨c0,c1,c2,c3⟩:=hS.out.c4;obtain⟨d0,d1,d2,d3⟩:=hT.out.c4
 go_wp2_with fail
 go_ret
 exact⟨by simp,hb.out⟩
end Go.Proofs.YthfokpchdlcidaaGreat
namespace Go.Proofs.YthfokpchdlcidaaGreat
open Go Go.RowKit Go.Shelf
theorem DoubleR_any (V:Option Addr) (d:Nat) (ps:List Pt) (w:World) (hP:Pts w V ps) (hl:ps.length≤40):Calls Tryz.prog 87 #[.slice V ps.length d] w fun e w'=>e=.returned (.int .i64 (Cal.areaP ps))∧Below w.heap.size w w':=by
 have hPR:Hid (PtsR w V ps):=⟨hP.rows,hP.size,hP.own⟩
 have hbox:=Lib.hid (fun k hk=>areaTo_box hP k hk)
 have hsm:=Lib.hid (fun k hk=>hP.sd k hk)
 have hb0:Hid (Below w.heap.size w w):=Below.refl _ _
 have h00:Hid (Cal.areaTo ps 0=0):=rfl
 unfold Cal.areaP
 clear hP
 go_enter Tryz.func87,Tryz.ntmps87
 go_wp2_with fail
 go_loopw [3,4] (fun n i wr=>∃ k:Nat,k≤ps.length∧i=.int .i64 k∧n=.int .i64 (Cal.areaTo ps k)∧Hid (Below w.heap.size w wr)) (fun _ i _=>ps.length-(intOf i).toNat)
 case atStart=>exact⟨0,Nat.zero_le _,rfl,rfl,hb0⟩
 case round =>
  clear hb0
  obtain⟨k,hk,rfl,rfl,hb⟩:=hrel
  by_cases hlt:k<ps.length
  ·have hs:SmS (Cal.sd ps k):=hsm.out k hlt
   have b1:=hbox.out k hk
   have b2:=hbox.out (k+1) hlt
   have hst:Hid (Cal.areaTo ps (k+1)=Cal.areaTo ps k+((Cal.sd ps k).a.x*(Cal.sd ps k).b.y-(Cal.sd ps k).a.y*(Cal.sd ps k).b.x)):=rfl
   have hsd:=Lib.hid (fun W hW=>sideR_any V d ps k W (hPR.out.below hW) hlt (by omega))
   generalize Cal.areaTo ps k=acc at *
   generalize Cal.sd ps k=s at *
   have m1:=mul_le_of (a:=s.a.x) (b:=s.b.y) (M:=1000000) (N:=1000000) hs.a.x0 hs.a.x1 hs.b.y0 hs.b.y1
   have m2:=mul_le_of (a:=s.a.y) (b:=s.b.x) (M:=1000000) (N:=1000000) hs.a.y0 hs.a.y1 hs.b.x0 hs.b.x1
   have q1:IntKind.i64.wrap (s.a.x*s.b.y)=s.a.x*s.b.y:=wrap_small (by omega) (by omega)
   have q2:IntKind.i64.wrap (s.a.y*s.b.x)=s.a.y*s.b.x:=wrap_small (by omega) (by omega)
   have q3:IntKind.i64.wrap (acc+s.a.x*s.b.y)=acc+s.a.x*s.b.y:=wrap_small (by omega) (by omega)
   have q4:IntKind.i64.wrap (acc+s.a.x*s.b.y-s.a.y*s.b.x)=acc+s.a.x*s.b.y-s.a.y*s.b.x:=wrap_small (by omega) (by omega)
   have he:Hid (acc+s.a.x*s.b.y-s.a.y*s.b.x=Cal.areaTo ps (k+1)):=by
    show _=_
    rw[hst.out];omega
   clear m1 m2 b1 b2 hst hs
   go_wp2_with (go_at_call 84;refine (hsd.out _ hb.out).mono ?_;rintro e w1 ⟨rfl,hb1⟩;have hb2:=Lib.hid (below_step (below_step hb.out hb1) (below_alloc w1 (.cells #[.int .i64 s.a.x,.int .i64 s.a.y,.int .i64 s.b.x,.int .i64 s.b.y] 90)));clear hb1)
   go_roundw
   case rel=>exact⟨k+1,hlt,by go_num,by rw[he.out],hb2⟩
   case measure=>simp[intOf];omega
  have hke:k=ps.length:=by omega
  subst hke
  go_wp2_with fail
  go_ret
  exact⟨rfl,hb.out⟩
end Go.Proofs.YthfokpchdlcidaaGreat
