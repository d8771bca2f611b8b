/- What the statements rest on: definitions and walks, part 17. -/
import Derived.Test.YtoojdkaimhlcbaaGreatJ16
set_option maxRecDepth 100000
set_option maxHeartbeats 16000000
set_option linter.unusedSimpArgs false
set_option linter.unusedVariables false
namespace Go.Proofs.YtoojdkaimhlcbaaGreat
open Go Go.RowKit Go.Shelf
structure Plo where
 name:ByteArray
 V:Option Addr
 d:Nat
 ps:List Pt
def Plo.cells (p:Plo):List Value:=[.string p.name,.slice p.V p.ps.length p.d]
def sameN (p q:Plo):Bool:=p.name.toList == q.name.toList
structure Plos (w:World) (S:Option Addr) (l:List Plo):Prop where
 rows:RowsAt w S 2 (l.map Plo.cells)
 size:l.length≤1000000
 pts:∀ p∈l,PtsR w p.V p.ps
 nm:∀ p∈l,p.name.size≤maxLen
theorem Plos.below {w w':World} {S:Option Addr} {l:List Plo} (h:Plos w S l) (hb:Below w.heap.size w w'):Plos w' S l :=
 ⟨h.rows.below hb,h.size,fun p hp=>(h.pts p hp).below hb,h.nm⟩
theorem plo_at {w:World} {S:Option Addr} {l:List Plo} (h:RowsAt w S 2 (l.map Plo.cells)) {k:Nat} {p:Plo} (hk:l[k]?=some p) :
  ∃ b o,S=some ⟨b,o,none⟩∧b<w.heap.size∧w.cell? ⟨b,o+k*2,none⟩=some (.string p.name)∧w.cell? ⟨b,o+k*2+1,none⟩=some (.slice p.V p.ps.length p.d):=by
 obtain⟨b,o,hA,hlt,hc⟩:=h k p.cells (by simp[hk])
 exact⟨b,o,hA,hlt,hc 0 _ rfl,hc 1 _ rfl⟩
theorem checkPlot1_any (q p:Plo) (B:Nat) (w:World) (h:BoxAt w B [.string p.name,.slice p.V p.ps.length p.d]) :
  Calls Tryz.prog 67 #[.agg #[.string q.name,.slice q.V q.ps.length q.d],.pointer (some ⟨B,0,none⟩)] w fun e w'=>e=.returned (.bool (sameN q p))∧Below w.heap.size w w':=by
 have hb:=Lib.hid (below_alloc w (.cells #[.string q.name,.slice q.V q.ps.length q.d] 80))
 have c0:=(h.alloc (.cells #[.string q.name,.slice q.V q.ps.length q.d] 80)).c 0 _ rfl
 have l0:=h.lt
 go_enter Tryz.func67,Tryz.ntmps67
 go_wp2_with fail
 go_ret
 exact⟨rfl,hb.out⟩
theorem checkPlot2_any (q p:Plo) (B:Nat) (w:World) (h:BoxAt w B [.string p.name,.slice p.V p.ps.length p.d]) (hq:Plg w q.V q.ps) (hp:Plg w p.V p.ps) :
  Calls Tryz.prog 70 #[.agg #[.string q.name,.slice q.V q.ps.length q.d],.pointer (some ⟨B,0,none⟩)] w fun e w'=>e=.returned (.bool (Cal.overlapP q.ps p.ps))∧Below w.heap.size w w':=by
 have hb:=Lib.hid (below_alloc w (.cells #[.string q.name,.slice q.V q.ps.length q.d] 80))
 have c1:=(h.alloc (.cells #[.string q.name,.slice q.V q.ps.length q.d] 80)).c 1 _ rfl
 have l0:=h.lt
 have hq:=Lib.hid (hq.below hb.out)
 have hp:=Lib.hid (hp.below hb.out)
 go_enter Tryz.func70,Tryz.ntmps70
 go_wp2_with (refine (overlap_any q.V p.V q.d p.d q.ps p.ps _ hq.out hp.out).mono ?_;rintro e wn ⟨rfl,hbn⟩;have hb2:=Lib.hid (below_step hb.out hbn);clear hbn)
 go_ret
 exact⟨rfl,hb2.out⟩
def idxP (g:Plo→Bool):List Plo→Int
 | []=>-1
 | p :: r=>if g p=true then 0 else if idxP g r<0 then -1 else idxP g r+1
theorem idxP_ge (g:Plo→Bool):∀ l,-1≤idxP g l
 | []=>by simp[idxP]
 | p :: r=>by
  have:=idxP_ge g r
  unfold idxP
  split
  ·omega
  split <;> omega
theorem idxP_at {g:Plo→Bool}:∀ {l:List Plo} {k:Nat} {p:Plo},l[k]?=some p→(l.take k).any g=false→g p=true→idxP g l=k
 | [],k,p,h,_,_=>by simp at h
 | q :: r,0,p,h,_,hg=>by
  have e:q=p:=by simpa using h
  subst e
  unfold idxP
  rw[if_pos hg];rfl
 | q :: r,k+1,p,h,ha,hg=>by
  rw[List.take_succ_cons,List.any_cons,Bool.or_eq_false_iff] at ha
  have ih:=idxP_at (l:=r) (k:=k) (p:=p) (by simpa using h) ha.2 hg
  unfold idxP
  rw[if_neg (by rw[ha.1];decide),ih,if_neg (by omega)]
  omega
theorem idxP_no {g:Plo→Bool}:∀ {l:List Plo},l.any g=false→idxP g l=-1
 | [],_=>rfl
 | q :: r,h=>by
  rw[List.any_cons,Bool.or_eq_false_iff] at h
  unfold idxP
  rw[if_neg (by rw[h.1];decide),idxP_no h.2]
  rfl
theorem idxP_any (g:Plo→Bool):∀ l,decide (0≤idxP g l)=l.any g
 | []=>rfl
 | q :: r=>by
  have ih:=idxP_any g r
  unfold idxP
  rw[List.any_cons]
  cases hq:g q
  ·rw[if_neg (by decide),Bool.false_or,←ih]
   by_cases h:idxP g r<0
   ·rw[if_pos h,decide_eq_false (by omega),decide_eq_false (by omega)]
   rw[if_neg h,decide_eq_true (by omega),decide_eq_true (by omega)]
  rw[if_pos rfl];rfl
theorem IndexPl1_any (g:Plo→Bool) (S:Option Addr) (e:Nat) (l:List Plo) (B:Nat) (w:World) (h:RowsAt w S 2 (l.map Plo.cells)) (hs:l.length≤1000000)
  (hf:∀ (q:Plo) (W:World),q∈l→Below w.heap.size w W→Calls Tryz.prog 67 #[.agg #[.string q.name,.slice q.V q.ps.length q.d],.pointer (some ⟨B,0,none⟩)] W fun e w'=>e=.returned (.bool (g q))∧Below W.heap.size W w') :
  Calls Tryz.prog 69 #[.slice S l.length e,.func (.func 67) #[] #[.pointer (some ⟨B,0,none⟩)]] w fun en w'=>en=.returned (.int .i64 (idxP g l))∧Below w.heap.size w w':=by
 have h':=Lib.hid h
 replace hf:=Lib.hid hf
 have hinit:Hid ((l.take 0).any g=false):=rfl
 have hb0:=Lib.hid (Below.refl w.heap.size w)
 clear h
 go_enter Tryz.func69,Tryz.ntmps69
 go_wp2_with fail
 go_loopw [8] (fun i wr=>∃ k:Nat,k≤l.length∧i=.int .i64 k∧Hid ((l.take k).any g=false)∧Hid (Below w.heap.size w wr)) (fun i _=>l.length-(intOf i).toNat)
 case atStart=>exact⟨0,Nat.zero_le _,rfl,hinit,hb0⟩
 case round =>
  clear hb0
  obtain⟨k,hk,rfl,hall,hb⟩:=hrel
  clear hinit
  by_cases hlt:k<l.length
  ·have hk':l[k]?=some l[k]:=List.getElem?_eq_getElem hlt
   obtain⟨b,o,rfl,hbl,e0,e1⟩:=plo_at (h'.out.below hb.out) hk'
   have htk:=Lib.hid (List.take_succ_eq_append_getElem hlt)
   have hmem:Hid (l[k]∈l):=List.getElem_mem hlt
   have hkk:=Lib.hid hk'
   clear hk'
   generalize l[k]=s at *
   cases hin:g s
   ·have hnx:Hid ((l.take (k+1)).any g=false):=by show _=_;rw[htk.out,List.any_append,hall.out];simpa using hin
    have hin:=Lib.hid hin
    go_wp2_with (go_at_call 67;refine (hf.out s _ hmem.out hb.out).mono ?_;rintro e w' ⟨rfl,hbn⟩;rw[hin.out];have hb:=Lib.hid (below_step hb.out hbn);clear hbn)
    go_roundw
    case rel=>exact⟨k+1,by omega,by go_num,hnx,hb⟩
    case measure=>simp[intOf];omega
   have hfin:Hid (idxP g l=k):=idxP_at hkk.out hall.out hin
   have hin:=Lib.hid hin
   go_wp2_with (go_at_call 67;refine (hf.out s _ hmem.out hb.out).mono ?_;rintro e w' ⟨rfl,hbn⟩;rw[hin.out];have hb:=Lib.hid (below_step hb.out hbn);clear hbn)
   go_ret
   exact⟨ret_int hfin.out.symm,hb.out⟩
  have hfin:Hid (idxP g l=-1):=by
   have h:=hall.out
   rw[List.take_of_length_le (by omega)] at h
   exact idxP_no h
  have hge:l.length=k:=by omega
  clear hall
  go_wp2_with fail
  go_ret
  exact⟨ret_int hfin.out.symm,hb.out⟩
theorem ContainsPl1_any (g:Plo→Bool) (S:Option Addr) (e:Nat) (l:List Plo) (B:Nat) (w:World) (h:RowsAt w S 2 (l.map Plo.cells)) (hs:l.length≤1000000)
  (hf:∀ (q:Plo) (W:World),q∈l→Below w.heap.size w W→Calls Tryz.prog 67 #[.agg #[.string q.name,.slice q.V q.ps.length q.d],.pointer (some ⟨B,0,none⟩)] W fun e w'=>e=.returned (.bool (g q))∧Below W.heap.size W w') :
  Calls Tryz.prog 66 #[.slice S l.length e,.func (.func 67) #[] #[.pointer (some ⟨B,0,none⟩)]] w fun en w'=>en=.returned (.bool (l.any g))∧Below w.heap.size w w':=by
 have hi:=Lib.hid (IndexPl1_any g S e l B w h hs hf)
 have h2:=Lib.hid (idxP_any g l)
 have hge:=idxP_ge g l
 obtain⟨i,hi'⟩:∃ i,idxP g l=i:=⟨_,rfl⟩
 rw[hi'] at hge h2 hi
 clear hi' hf
 go_enter Tryz.func66,Tryz.ntmps66
 go_wp2_with fail
 refine hi.out.mono ?_
 rintro e w' ⟨rfl,hb⟩
 have hb:=Lib.hid hb
 go_wp2_with fail
 go_ret
 exact⟨by first | rfl | exact ret_bool h2.out,hb.out⟩
theorem IndexPl2_any (g:Plo→Bool) (S:Option Addr) (e:Nat) (l:List Plo) (B:Nat) (w:World) (h:RowsAt w S 2 (l.map Plo.cells)) (hs:l.length≤1000000)
  (hf:∀ (q:Plo) (W:World),q∈l→Below w.heap.size w W→Calls Tryz.prog 70 #[.agg #[.string q.name,.slice q.V q.ps.length q.d],.pointer (some ⟨B,0,none⟩)] W fun e w'=>e=.returned (.bool (g q))∧Below W.heap.size W w') :
  Calls Tryz.prog 69 #[.slice S l.length e,.func (.func 70) #[] #[.pointer (some ⟨B,0,none⟩)]] w fun en w'=>en=.returned (.int .i64 (idxP g l))∧Below w.heap.size w w':=by
 have h':=Lib.hid h
 replace hf:=Lib.hid hf
 have hinit:Hid ((l.take 0).any g=false):=rfl
 have hb0:=Lib.hid (Below.refl w.heap.size w)
 clear h
 go_enter Tryz.func69,Tryz.ntmps69
 go_wp2_with fail
 go_loopw [8] (fun i wr=>∃ k:Nat,k≤l.length∧i=.int .i64 k∧Hid ((l.take k).any g=false)∧Hid (Below w.heap.size w wr)) (fun i _=>l.length-(intOf i).toNat)
 case atStart=>exact⟨0,Nat.zero_le _,rfl,hinit,hb0⟩
 case round =>
  clear hb0
  obtain⟨k,hk,rfl,hall,hb⟩:=hrel
  clear hinit
  by_cases hlt:k<l.length
  ·have hk':l[k]?=some l[k]:=List.getElem?_eq_getElem hlt
   obtain⟨b,o,rfl,hbl,e0,e1⟩:=plo_at (h'.out.below hb.out) hk'
   have htk:=Lib.hid (List.take_succ_eq_append_getElem hlt)
   have hmem:Hid (l[k]∈l):=List.getElem_mem hlt
   have hkk:=Lib.hid hk'
   clear hk'
   generalize l[k]=s at *
   cases hin:g s
   ·have hnx:Hid ((l.take (k+1)).any g=false):=by show _=_;rw[htk.out,List.any_append,hall.out];simpa using hin
    have hin:=Lib.hid hin
    go_wp2_with (go_at_call 70;refine (hf.out s _ hmem.out hb.out).mono ?_;rintro e w' ⟨rfl,hbn⟩;rw[hin.out];have hb:=Lib.hid (below_step hb.out hbn);clear hbn)
    go_roundw
    case rel=>exact⟨k+1,by omega,by go_num,hnx,hb⟩
    case measure=>simp[intOf];omega
   have hfin:Hid (idxP g l=k):=idxP_at hkk.out hall.out hin
   have hin:=Lib.hid hin
   go_wp2_with (go_at_call 70;refine (hf.out s _ hmem.out hb.out).mono ?_;rintro e w' ⟨rfl,hbn⟩;rw[hin.out];have hb:=Lib.hid (below_step hb.out hbn);clear hbn)
   go_ret
   exact⟨ret_int hfin.out.symm,hb.out⟩
  have hfin:Hid (idxP g l=-1):=by
   have h:=hall.out
   rw[List.take_of_length_le (by omega)] at h
   exact idxP_no h
  have hge:l.length=k:=by omega
  clear hall
  go_wp2_with fail
  go_ret
  exact⟨ret_int hfin.out.symm,hb.out⟩
end Go.Proofs.YtoojdkaimhlcbaaGreat
namespace Go.Proofs.YtoojdkaimhlcbaaGreat
open Go Go.RowKit Go.Shelf
attribute [local go_sem] Oper.semAt_some
structure WiI (w:World) (Va Vb:Option Addr) (na da nb db N:Nat) (Ds:List Nat) (W:World):Prop where
 a:BoxAt W w.heap.size [.slice Va na da]
 b:BoxAt W (w.heap.size+1) [.slice Vb nb db]
 r:∃ v,BoxAt W (w.heap.size+1+1) [v]
 bel:Below w.heap.size w W
 dd:∀ D∈Ds,D<N∧W.heap[D]?=some (.deferred (some []))
 lt:w.heap.size+3≤N
 size:N≤W.heap.size
theorem WiI.belowN {w:World} {Va Vb:Option Addr} {na da nb db N:Nat} {Ds:List Nat} {X Y:World} (h:WiI w Va Vb na da nb db N Ds X) (hb:Below N X Y):WiI w Va Vb na da nb db N Ds Y:=by
 obtain⟨h1,h2,⟨v,h3⟩,h4,h5,h6,h7⟩:=h
 exact⟨h1.belowN hb (by omega),h2.belowN hb (by omega),⟨v,h3.belowN hb (by omega)⟩,h4.trans (hb.mono (by omega)),fun D hD=>⟨(h5 D hD).1,(hb.block _ (h5 D hD).1).trans (h5 D hD).2⟩,h6,Nat.le_trans h7 hb.size⟩
theorem WiI.below {w:World} {Va Vb:Option Addr} {na da nb db N:Nat} {Ds:List Nat} {X Y:World} (h:WiI w Va Vb na da nb db N Ds X) (hb:Below X.heap.size X Y):WiI w Va Vb na da nb db N Ds Y:=h.belowN (hb.mono h.size)
theorem WiI.kept {w:World} {Va Vb:Option Addr} {na da nb db N B:Nat} {Ds:List Nat} {X Y:World} {row:Option Nat} (h:WiI w Va Vb na da nb db N Ds X) (hg:X.grownBy Y row) (hB:N≤B) (hr:∀ r,row=some r→B≤r∧∃ o:Obj,X.heap[r]?=some o∧o.isCells=false):WiI w Va Vb na da nb db N Ds Y :=
 h.belowN ((Below.refl _ _).grown hg h.size (fun r e=>Nat.le_trans hB (hr r e).1))
theorem WiI.abM {w:World} {Va Vb:Option Addr} {na da nb db N:Nat} {Ds:List Nat} {X Y:World} (h:WiI w Va Vb na da nb db N Ds X) (ha:AbM (N+1+1) X Y):WiI w Va Vb na da nb db N Ds Y:=h.belowN (ha.mono (by have:=h.size;omega))
structure WiZ (w:World) (N:Nat) (Ds:List Nat) (W:World):Prop where
 r:BoxAt W (w.heap.size+1+1) [.bool false]
 bel:Below w.heap.size w W
 dd:∀ D∈Ds,D<N∧W.heap[D]?=some (.deferred (some []))
 lt:w.heap.size+3≤N
 size:N≤W.heap.size
theorem WiZ.belowN {w:World} {N:Nat} {Ds:List Nat} {X Y:World} (h:WiZ w N Ds X) (hb:Below N X Y):WiZ w N Ds Y:=by
 obtain⟨h3,h4,h5,h6,h7⟩:=h
 exact⟨h3.belowN hb (by omega),h4.trans (hb.mono (by omega)),fun D hD=>⟨(h5 D hD).1,(hb.block _ (h5 D hD).1).trans (h5 D hD).2⟩,h6,Nat.le_trans h7 hb.size⟩
theorem WiI.no {w:World} {Va Vb:Option Addr} {na da nb db N:Nat} {Ds:List Nat} {X:World} (h:WiI w Va Vb na da nb db N Ds X):WiZ w N Ds (X.setCell ⟨w.heap.size+1+1,0,none⟩ (.bool false)):=by
 obtain⟨h1,h2,⟨v,h3⟩,h4,h5,h6,h7⟩:=h
 refine⟨h3.set 0 _ Nat.zero_lt_one,h4.setCell (p:=⟨w.heap.size+1+1,0,none⟩) (show w.heap.size≤w.heap.size+1+1 by omega) _,fun D hD=>⟨(h5 D hD).1,?_⟩,h6,by rw[World.size_setCell];exact h7⟩
 exact (KeepsOthers.setCell X ⟨w.heap.size+1+1,0,none⟩ (.bool false)).same D _ (h5 D hD).2 rfl
def WiJ (w:World) (Va Vb:Option Addr) (na da nb db N:Nat) (Ds:List Nat) (f:Cal.Pc→Bool) (L:List Cal.Pc) (k:Nat) (W:World):Prop:=(∀ i x,i<k→L[i]?=some x→f x=true)∧WiI w Va Vb na da nb db N Ds W
def WiX (w:World) (N:Nat) (Ds:List Nat) (b:Bool) (c:Code) (_:Nat) (W:World):Prop:=c=.ret∧b=false∧WiZ w N Ds W
theorem wiJ_own (w:World) (Va Vb:Option Addr) (na da nb db N:Nat) (Ds:List Nat) (f:Cal.Pc→Bool) (L:List Cal.Pc) {B:Nat} (hB:N≤B):OwnFrom B (WiJ w Va Vb na da nb db N Ds f L):=fun _ _ _ _ h hg hr=>⟨h.1,h.2.kept hg hB hr⟩
theorem wiX_own (w:World) (N:Nat) (Ds:List Nat) (b:Bool) {B:Nat} (hB:N≤B) (c:Code):OwnFrom B (WiX w N Ds b c):=fun _ _ _ _ h hg hr=>⟨h.1,h.2.1,h.2.2.belowN ((Below.refl _ _).grown hg h.2.2.size (fun r e=>Nat.le_trans hB (hr r e).1))⟩
theorem pcs_all_false {l:List Cal.Pc} {f:Cal.Pc→Bool} {k:Nat} {x:Cal.Pc} (hk:l[k]?=some x) (h:f x=false):l.all f=false:=by
 rw[List.all_eq_false]
 exact⟨x,List.mem_of_getElem? hk,by rw[h];decide⟩
theorem pcs_all_true {l:List Cal.Pc} {f:Cal.Pc→Bool} (h:∀ k x,k<l.length→l[k]?=some x→f x=true):l.all f=true:=by
 rw[List.all_eq_true]
 rintro x hx
 obtain⟨k,hk,rfl⟩:=List.getElem_of_mem hx
 exact h k _ hk (List.getElem?_eq_getElem hk)
def inX (ds:List Pt) (x:Cal.Pc):Bool:=decide (0≤Cal.whereP ds x.mid)
def ouX (ds:List Pt) (x:Cal.Pc):Bool:=decide (Cal.whereP ds x.mid≤0)
theorem withinP_eq (us vs:List Pt):Cal.withinP us vs=(!Cal.crossP us vs && ((Cal.pcsP us vs).all (inX (Cal.dblP vs)) && (Cal.pcsP vs us).all (ouX (Cal.dblP us)))):=rfl
theorem WiI.up {w:World} {Va Vb:Option Addr} {na da nb db N N':Nat} {Ds:List Nat} {X:World} (h:WiI w Va Vb na da nb db N Ds X) (h1:N≤N') (h2:N'≤X.heap.size):WiI w Va Vb na da nb db N' Ds X :=
 ⟨h.a,h.b,h.r,h.bel,fun D hD=>⟨Nat.lt_of_lt_of_le (h.dd D hD).1 h1,(h.dd D hD).2⟩,Nat.le_trans h.lt h1,h2⟩
theorem WiI.push {w:World} {Va Vb:Option Addr} {na da nb db N D:Nat} {Ds:List Nat} {X:World} (h:WiI w Va Vb na da nb db N Ds X) (hD:X.heap[D]?=some (.deferred (some []))):WiI w Va Vb na da nb db X.heap.size (D :: Ds) X :=
 ⟨h.a,h.b,h.r,h.bel,fun E hE=>by
  rcases List.mem_cons.1 hE with e | hE
  ·rw[e];exact⟨(Array.getElem?_eq_some_iff.1 hD).1,hD⟩
  exact⟨Nat.lt_of_lt_of_le (h.dd E hE).1 h.size,(h.dd E hE).2⟩,Nat.le_trans h.lt h.size,Nat.le_refl _⟩
theorem withinG_any (Va Vb:Option Addr) (da db:Nat) (us vs:List Pt) (w:World) (hA:Plg w Va us) (hB:Plg w Vb vs) :
  Calls Tryz.prog 68 #[.slice Va us.length da,.slice Vb vs.length db] w fun e w'=>e=.returned (.bool (Cal.withinP us vs))∧Below w.heap.size w w':=by
 rw[withinP_eq]
 obtain⟨c1,h1⟩:∃ c,Cal.crossP us vs=c:=⟨_,rfl⟩
 rw[h1]
 refine (callsIn_wide (n:=9)).1 ?_
 refine callsIn_of_wp_marks Tryz.func68 rfl trivial ?_ rfl
 simp only[Tryz.ntmps68,List.size_toArray,List.length_cons,List.length_nil,Nat.reduceAdd,Nat.reduceSub,Array.replicate_succ,Array.replicate_zero,List.push_toArray,List.append_toArray,List.nil_append,List.cons_append]
 have hA1:Below w.heap.size w (((w.alloc (.cells #[.slice Va us.length da] 44)).alloc (.cells #[.slice Vb vs.length db] 44)).alloc (.cells #[.bool false] 4)):=below_step (below_step (below_alloc _ _) (below_alloc _ _)) (below_alloc _ _)
 have bA:=Lib.hid (((BoxAt.new w #[.slice Va us.length da] 44).alloc (.cells #[.slice Vb vs.length db] 44)).alloc (.cells #[.bool false] 4))
 have bB:=Lib.hid ((BoxAt.new (w.alloc (.cells #[.slice Va us.length da] 44)) #[.slice Vb vs.length db] 44).alloc (.cells #[.bool false] 4))
 have bR:=Lib.hid (BoxAt.new ((w.alloc (.cells #[.slice Va us.length da] 44)).alloc (.cells #[.slice Vb vs.length db] 44)) #[.bool false] 4)
 simp only[World.size_alloc] at bB bR
 have hs3:((((w.alloc (.cells #[.slice Va us.length da] 44)).alloc (.cells #[.slice Vb vs.length db] 44)).alloc (.cells #[.bool false] 4))).heap.size=w.heap.size+3:=by simp
 have hI:WiI w Va Vb us.length da vs.length db (w.heap.size+3) [] (((w.alloc (.cells #[.slice Va us.length da] 44)).alloc (.cells #[.slice Vb vs.length db] 44)).alloc (.cells #[.bool false] 4)):=⟨bA.out,bB.out,⟨_,bR.out⟩,hA1,(fun D hD=>by cases hD),Nat.le_refl _,Nat.le_of_eq hs3.symm⟩
 replace hI:=Lib.hid hI
 have hAx:=Lib.hid (hA.below hA1)
 have hBx:=Lib.hid (hB.below hA1)
 replace h1:=Lib.hid h1
 clear bA bB bR hs3 hA1
 cases c1
 ·gi_wp2_with (first
   |(refine⟨trivial,?_⟩;gi_at_call 56;refine (callsIn_wide.2 (crossing_any _ _ _ _ _ _ _ hAx.out.v.pts hBx.out.v.pts)).mono ?_;rintro e w2 ⟨rfl,hb2⟩;rw[h1.out];replace hI:=Lib.hid (hI.out.below hb2);replace hAx:=Lib.hid (hAx.out.below hb2);replace hBx:=Lib.hid (hBx.out.below hb2);clear hb2;have a0:=hI.out.a.c 0 _ rfl;have b0:=hI.out.b.c 0 _ rfl)
   |(refine⟨trivial,?_⟩;gi_at_call 74;refine (callsIn_wide.2 (pieces_any _ _ _ _ _ _ _)).mono ?_;rintro e w3 ⟨rfl,rfl⟩))
  have bP:=(BoxAt.new w2 #[.slice Va us.length da] 44).alloc (.cells #[.slice Vb vs.length db] 44)
  have bO:=BoxAt.new (w2.alloc (.cells #[.slice Va us.length da] 44)) #[.slice Vb vs.length db] 44
  have hB0:Below w2.heap.size w2 ((w2.alloc (.cells #[.slice Va us.length da] 44)).alloc (.cells #[.slice Vb vs.length db] 44)):=below_step (below_alloc _ _) (below_alloc _ _)
  have hs0:((w2.alloc (.cells #[.slice Va us.length da] 44)).alloc (.cells #[.slice Vb vs.length db] 44)).heap.size=w2.heap.size+2:=by simp
  simp only[World.size_alloc] at bO
  obtain⟨W0,hW0⟩:∃ W0,((w2.alloc (.cells #[.slice Va us.length da] 44)).alloc (.cells #[.slice Vb vs.length db] 44))=W0:=⟨_,rfl⟩
  rw[hW0] at bP bO hB0 hs0 ⊢
  clear hW0
  replace hs0:w2.heap.size+2≤W0.heap.size:=Nat.le_of_eq hs0.symm
  have hsz2:=hI.out.size
  have hlt2:=hI.out.lt
  have hI0:=(hI.out.below hB0).up (N':=W0.heap.size) (by omega) (Nat.le_refl _)
  clear a0 b0
  refine wpIn_range_pieces (Bp:=w2.heap.size) (Bo:=w2.heap.size+1) (n₀:=w.heap.size) (Vp:=Va) (Vo:=Vb) (dp:=da) (do_:=db) (ps:=us) (os:=vs) rfl rfl (bP.c 0 _ rfl) (bO.c 0 _ rfl) (by omega) (by omega) (hAx.out.v.below hB0) (hBx.out.v.below hB0) hA.v.own hB.v.own (by omega) hB.len hA.nd
   (WiJ w Va Vb us.length da vs.length db W0.heap.size [] (inX (Cal.dblP vs)) (Cal.pcsP us vs)) (WiX w W0.heap.size [] ((Cal.pcsP us vs).all (inX (Cal.dblP vs)))) (wiJ_own w Va Vb _ _ _ _ _ [] _ _ (Nat.le_refl _)) (wiX_own w _ [] _ (Nat.le_refl _))
   (fun k X Y h ha=>⟨h.1,h.2.abM ha⟩) (fun c k X Y h ha=>⟨h.1,h.2.1,h.2.2.belowN (ha.mono (by have:=h.2.2.size;omega))⟩) ⟨fun i x hi=>by omega,hI0⟩
   (fun T x By=>(T.setIfInBounds 13 (.agg #[.int .i64 x.mid.x,.int .i64 x.mid.y,.int .i64 (x.of.b.x-x.of.a.x),.int .i64 (x.of.b.y-x.of.a.y)])).setIfInBounds 5 (.pointer (some ⟨By,0,none⟩)))
   ?assign ?body ?done ?stop
  case assign =>
   rintro l k x W K hx ⟨hc,hI⟩ hK
   gi_wp2
   have hz:=hI.size
   exact hK W.heap.size _ hz ((KeepsOthers.alloc _ _).from _) (KpP.below (below_alloc _ _) hI.bel.size (by omega) (by omega)) ⟨hc,hI.below (below_alloc _ _)⟩ (BoxAt.new W #[.int .i64 x.mid.x,.int .i64 x.mid.y,.int .i64 (x.of.b.x-x.of.a.x),.int .i64 (x.of.b.y-x.of.a.y)] _)
  case body =>
   rintro l k x Bx W hl ⟨r,hr⟩ hx ⟨hc,hI⟩ hBx bX
   simp only[List.setIfInBounds_toArray,List.set_cons_zero,List.set_cons_succ]
   have hsx:=pcs_sm hA.v.sm hB.v.sm hA.nd (List.mem_of_getElem? hx)
   have hz:=hI.size
   have b0:=hI.b.c 0 _ rfl;obtain⟨c0,c1⟩:=bX.c2
   have hBW:=Lib.hid (hB.v.below hI.bel)
   have hIz:=Lib.hid hI
   have hcz:=Lib.hid hc
   clear hI bX hc
   rcases whereP_cases (Cal.dblP vs) x.mid with hw | hw | hw
   ·have hex:Hid (inX (Cal.dblP vs) x=true):=by show _=_;unfold inX;rw[hw];rfl
    gi_wp2
    refine wpIn_region_held_drew (S:=Sx W [(w.heap.size+1,0,.slice Vb vs.length db),(Bx,0,.int .i64 x.mid.x),(Bx,1,.int .i64 x.mid.y)]) (by kernel_rfl) (Sx.mk (by simp only[cs_iff_cons];exact⟨b0,c0,c1,cs_nil _⟩) (Below.refl _ _)).drew (fun hHeld=>?_)
    refine tkIx 0 14 ?_
    refine tkIx 2 16 ?_
    refine tkIx 3 17 ?_
    (refine ratI 1 (fun _=>trivial) (by decide +kernel) rfl (fun K hK=>?_);rw[if_pos (by kernel_rfl)];go_simp)
    refine⟨trivial,?_⟩
    refine (callsIn_wide.2 (doubled_any2 _ _ _ _ (hBW.out.below hHeld.bel))).mono ?_
    rintro e wn ⟨rfl,hD,hbn⟩
    go_simp
    replace hD:=Lib.hid hD
    (refine hK.out _ _ (hHeld.step hbn) (fun hHeld=>?_);clear hK K;(try simp only[apS,apN,siA,scZ,scS]))
    (refine ratI 4 (fun _=>trivial) (by decide +kernel) rfl (fun K hK=>?_);rw[if_pos (by kernel_rfl)];go_simp)
    refine⟨trivial,?_⟩
    refine (callsIn_wide.2 (where_any _ _ _ _ _ hD.out hsx.1)).mono ?_
    rintro e wn ⟨rfl,hbn⟩
    rw[hw]
    go_simp
    (refine hK.out _ _ (hHeld.step hbn) (fun hHeld=>?_);clear hK K;(try simp only[apS,apN,siA,scZ,scS]))
    refine tkIx 5 19 ?_
    refine wpAnyInH_done (by decide +kernel) ?_ _
    gi_wp2
    have hbl:=hIz.out.bel.size
    have hz5:=hHeld.bel.size
    refine⟨(keepsF_below hHeld.bel).from _,KpP.below hHeld.bel (by omega) (by omega) (by omega),fun i y hi hy=>?_,hIz.out.below hHeld.bel⟩
    by_cases hik:i=k
    ·subst hik;rw[hx] at hy;cases hy;exact hex.out
    exact hcz.out i y (by omega) hy
   ·have hex:Hid (inX (Cal.dblP vs) x=true):=by show _=_;unfold inX;rw[hw];rfl
    gi_wp2
    refine wpIn_region_held_drew (S:=Sx W [(w.heap.size+1,0,.slice Vb vs.length db),(Bx,0,.int .i64 x.mid.x),(Bx,1,.int .i64 x.mid.y)]) (by kernel_rfl) (Sx.mk (by simp only[cs_iff_cons];exact⟨b0,c0,c1,cs_nil _⟩) (Below.refl _ _)).drew (fun hHeld=>?_)
    refine tkIx 0 14 ?_
    refine tkIx 2 16 ?_
    refine tkIx 3 17 ?_
    (refine ratI 1 (fun _=>trivial) (by decide +kernel) rfl (fun K hK=>?_);rw[if_pos (by kernel_rfl)];go_simp)
    refine⟨trivial,?_⟩
    refine (callsIn_wide.2 (doubled_any2 _ _ _ _ (hBW.out.below hHeld.bel))).mono ?_
    rintro e wn ⟨rfl,hD,hbn⟩
    go_simp
    replace hD:=Lib.hid hD
    (refine hK.out _ _ (hHeld.step hbn) (fun hHeld=>?_);clear hK K;(try simp only[apS,apN,siA,scZ,scS]))
    (refine ratI 4 (fun _=>trivial) (by decide +kernel) rfl (fun K hK=>?_);rw[if_pos (by kernel_rfl)];go_simp)
    refine⟨trivial,?_⟩
    refine (callsIn_wide.2 (where_any _ _ _ _ _ hD.out hsx.1)).mono ?_
    rintro e wn ⟨rfl,hbn⟩
    rw[hw]
    go_simp
    (refine hK.out _ _ (hHeld.step hbn) (fun hHeld=>?_);clear hK K;(try simp only[apS,apN,siA,scZ,scS]))
    refine tkIx 5 19 ?_
    refine wpAnyInH_done (by decide +kernel) ?_ _
    gi_wp2
    have hbl:=hIz.out.bel.size
    have hz5:=hHeld.bel.size
    refine⟨(keepsF_below hHeld.bel).from _,KpP.below hHeld.bel (by omega) (by omega) (by omega),fun i y hi hy=>?_,hIz.out.below hHeld.bel⟩
    by_cases hik:i=k
    ·subst hik;rw[hx] at hy;cases hy;exact hex.out
    exact hcz.out i y (by omega) hy
   have hex:Hid (inX (Cal.dblP vs) x=false):=by show _=_;unfold inX;rw[hw];rfl
   gi_wp2
   refine wpIn_region_held_drew (S:=Sx W [(w.heap.size+1,0,.slice Vb vs.length db),(Bx,0,.int .i64 x.mid.x),(Bx,1,.int .i64 x.mid.y)]) (by kernel_rfl) (Sx.mk (by simp only[cs_iff_cons];exact⟨b0,c0,c1,cs_nil _⟩) (Below.refl _ _)).drew (fun hHeld=>?_)
   refine tkIx 0 14 ?_
   refine tkIx 2 16 ?_
   refine tkIx 3 17 ?_
   (refine ratI 1 (fun _=>trivial) (by decide +kernel) rfl (fun K hK=>?_);rw[if_pos (by kernel_rfl)];go_simp)
   refine⟨trivial,?_⟩
   refine (callsIn_wide.2 (doubled_any2 _ _ _ _ (hBW.out.below hHeld.bel))).mono ?_
   rintro e wn ⟨rfl,hD,hbn⟩
   go_simp
   replace hD:=Lib.hid hD
   (refine hK.out _ _ (hHeld.step hbn) (fun hHeld=>?_);clear hK K;(try simp only[apS,apN,siA,scZ,scS]))
   (refine ratI 4 (fun _=>trivial) (by decide +kernel) rfl (fun K hK=>?_);rw[if_pos (by kernel_rfl)];go_simp)
   refine⟨trivial,?_⟩
   refine (callsIn_wide.2 (where_any _ _ _ _ _ hD.out hsx.1)).mono ?_
   rintro e wn ⟨rfl,hbn⟩
   rw[hw]
   go_simp
   (refine hK.out _ _ (hHeld.step hbn) (fun hHeld=>?_);clear hK K;(try simp only[apS,apN,siA,scZ,scS]))
   refine tkIx 5 19 ?_
   refine wpAnyInH_done (by decide +kernel) ?_ _
   have hI7:=Lib.hid (hIz.out.below hHeld.bel)
   obtain⟨rv,hrv⟩:=hI7.out.r
   have r0:=hrv.c 0 _ rfl
   have r1:=hrv.free 0 Nat.zero_lt_one
   clear hrv
   gi_wp2
   have hbl:=hIz.out.bel.size
   have hlt:=hIz.out.lt
   have hz5:=hHeld.bel.size
   exact⟨((keepsF_below hHeld.bel).trans (KeepsOthers.setCell _ _ _)).from _,(KpP.below hHeld.bel (by omega) (by omega) (by omega)).trans (KpP.set _ (by omega) (by omega) (by omega) (by omega)),rfl,pcs_all_false hx hex.out,hI7.out.no⟩
  case done =>
   rintro D W hD ⟨hc,hI⟩ hK
   replace hI:=Lib.hid (hI.push hK)
   replace hc:=Lib.hid (pcs_all_true hc)
   replace hK:=Lib.hid hK
   have a0:=hI.out.a.c 0 _ rfl;have b0:=hI.out.b.c 0 _ rfl
   gi_wp2_with (refine⟨trivial,?_⟩;gi_at_call 74;refine (callsIn_wide.2 (pieces_any _ _ _ _ _ _ _)).mono ?_;rintro e w3 ⟨rfl,rfl⟩)
   have hbelW:=hI.out.bel
   have bP:=(BoxAt.new W #[.slice Vb vs.length db] 44).alloc (.cells #[.slice Va us.length da] 44)
   have bO:=BoxAt.new (W.alloc (.cells #[.slice Vb vs.length db] 44)) #[.slice Va us.length da] 44
   have hB6:Below W.heap.size W ((W.alloc (.cells #[.slice Vb vs.length db] 44)).alloc (.cells #[.slice Va us.length da] 44)):=below_step (below_alloc _ _) (below_alloc _ _)
   have hs6:((W.alloc (.cells #[.slice Vb vs.length db] 44)).alloc (.cells #[.slice Va us.length da] 44)).heap.size=W.heap.size+2:=by simp
   simp only[World.size_alloc] at bO
   obtain⟨W6,hW6⟩:∃ W6,((W.alloc (.cells #[.slice Vb vs.length db] 44)).alloc (.cells #[.slice Va us.length da] 44))=W6:=⟨_,rfl⟩
   rw[hW6] at bP bO hB6 hs6 ⊢
   clear hW6
   replace hs6:W.heap.size+2≤W6.heap.size:=Nat.le_of_eq hs6.symm
   have hszW:=hI.out.size
   have hltW:=hI.out.lt
   have hI6:=(hI.out.below hB6).up (N':=W6.heap.size) (by omega) (Nat.le_refl _)
   clear a0 b0
   refine wpIn_range_pieces (Bp:=W.heap.size) (Bo:=W.heap.size+1) (n₀:=w.heap.size) (Vp:=Vb) (Vo:=Va) (dp:=db) (do_:=da) (ps:=vs) (os:=us) rfl rfl (bP.c 0 _ rfl) (bO.c 0 _ rfl) (by omega) (by omega) ((hB.v.below hbelW).below hB6) ((hA.v.below hbelW).below hB6) hB.v.own hA.v.own (by omega) hA.len hB.nd
    (WiJ w Va Vb us.length da vs.length db W6.heap.size [D] (ouX (Cal.dblP us)) (Cal.pcsP vs us)) (WiX w W6.heap.size [D] ((Cal.pcsP vs us).all (ouX (Cal.dblP us)))) (wiJ_own w Va Vb _ _ _ _ _ [D] _ _ (Nat.le_refl _)) (wiX_own w _ [D] _ (Nat.le_refl _))
    (fun k X Y h ha=>⟨h.1,h.2.abM ha⟩) (fun c k X Y h ha=>⟨h.1,h.2.1,h.2.2.belowN (ha.mono (by have:=h.2.2.size;omega))⟩) ⟨fun i x hi=>by omega,hI6⟩
    (fun T x By=>(T.setIfInBounds 23 (.agg #[.int .i64 x.mid.x,.int .i64 x.mid.y,.int .i64 (x.of.b.x-x.of.a.x),.int .i64 (x.of.b.y-x.of.a.y)])).setIfInBounds 6 (.pointer (some ⟨By,0,none⟩)))
    ?assign2 ?body2 ?done2 ?stop2
   case assign2 =>
    rintro l k x Y K hx ⟨hc,hI⟩ hK
    gi_wp2
    have hz:=hI.size
    exact hK Y.heap.size _ hz ((KeepsOthers.alloc _ _).from _) (KpP.below (below_alloc _ _) hI.bel.size (by omega) (by omega)) ⟨hc,hI.below (below_alloc _ _)⟩ (BoxAt.new Y #[.int .i64 x.mid.x,.int .i64 x.mid.y,.int .i64 (x.of.b.x-x.of.a.x),.int .i64 (x.of.b.y-x.of.a.y)] _)
   case body2 =>
    clear hI6 hI hK hbelW hI0
    rintro l k x Bx Y hl ⟨r,hr⟩ hx ⟨hc2,hI⟩ hBx bX
    simp only[List.setIfInBounds_toArray,List.set_cons_zero,List.set_cons_succ]
    have hsx:=pcs_sm hB.v.sm hA.v.sm hB.nd (List.mem_of_getElem? hx)
    have hz:=hI.size
    have b0:=hI.a.c 0 _ rfl;obtain⟨c0,c1⟩:=bX.c2
    have hBW:=Lib.hid (hA.v.below hI.bel)
    have hIz:=Lib.hid hI
    have hcz:=Lib.hid hc2
    clear hI bX hc2
    rcases whereP_cases (Cal.dblP us) x.mid with hw | hw | hw
    ·have hex:Hid (ouX (Cal.dblP us) x=false):=by show _=_;unfold ouX;rw[hw];rfl
     gi_wp2
     refine wpIn_region_held_drew (S:=Sx Y [(w.heap.size,0,.slice Va us.length da),(Bx,0,.int .i64 x.mid.x),(Bx,1,.int .i64 x.mid.y)]) (by kernel_rfl) (Sx.mk (by simp only[cs_iff_cons];exact⟨b0,c0,c1,cs_nil _⟩) (Below.refl _ _)).drew (fun hHeld=>?_)
     refine tkIx 0 24 ?_
     refine tkIx 2 26 ?_
     refine tkIx 3 27 ?_
     (refine ratI 1 (fun _=>trivial) (by decide +kernel) rfl (fun K hK=>?_);rw[if_pos (by kernel_rfl)];go_simp)
     refine⟨trivial,?_⟩
     refine (callsIn_wide.2 (doubled_any2 _ _ _ _ (hBW.out.below hHeld.bel))).mono ?_
     rintro e wn ⟨rfl,hD,hbn⟩
     go_simp
     replace hD:=Lib.hid hD
     (refine hK.out _ _ (hHeld.step hbn) (fun hHeld=>?_);clear hK K;(try simp only[apS,apN,siA,scZ,scS]))
     (refine ratI 4 (fun _=>trivial) (by decide +kernel) rfl (fun K hK=>?_);rw[if_pos (by kernel_rfl)];go_simp)
     refine⟨trivial,?_⟩
     refine (callsIn_wide.2 (where_any _ _ _ _ _ hD.out hsx.1)).mono ?_
     rintro e wn ⟨rfl,hbn⟩
     rw[hw]
     go_simp
     (refine hK.out _ _ (hHeld.step hbn) (fun hHeld=>?_);clear hK K;(try simp only[apS,apN,siA,scZ,scS]))
     refine tkIx 5 29 ?_
     refine wpAnyInH_done (by decide +kernel) ?_ _
     have hI7:=Lib.hid (hIz.out.below hHeld.bel)
     obtain⟨rv,hrv⟩:=hI7.out.r
     have r0:=hrv.c 0 _ rfl
     have r1:=hrv.free 0 Nat.zero_lt_one
     clear hrv
     gi_wp2
     have hbl:=hIz.out.bel.size
     have hlt:=hIz.out.lt
     have hz5:=hHeld.bel.size
     exact⟨((keepsF_below hHeld.bel).trans (KeepsOthers.setCell _ _ _)).from _,(KpP.below hHeld.bel (by omega) (by omega) (by omega)).trans (KpP.set _ (by omega) (by omega) (by omega) (by omega)),rfl,pcs_all_false hx hex.out,hI7.out.no⟩
    ·have hex:Hid (ouX (Cal.dblP us) x=true):=by show _=_;unfold ouX;rw[hw];rfl
     gi_wp2
     refine wpIn_region_held_drew (S:=Sx Y [(w.heap.size,0,.slice Va us.length da),(Bx,0,.int .i64 x.mid.x),(Bx,1,.int .i64 x.mid.y)]) (by kernel_rfl) (Sx.mk (by simp only[cs_iff_cons];exact⟨b0,c0,c1,cs_nil _⟩) (Below.refl _ _)).drew (fun hHeld=>?_)
     refine tkIx 0 24 ?_
     refine tkIx 2 26 ?_
     refine tkIx 3 27 ?_
     (refine ratI 1 (fun _=>trivial) (by decide +kernel) rfl (fun K hK=>?_);rw[if_pos (by kernel_rfl)];go_simp)
     refine⟨trivial,?_⟩
     refine (callsIn_wide.2 (doubled_any2 _ _ _ _ (hBW.out.below hHeld.bel))).mono ?_
     rintro e wn ⟨rfl,hD,hbn⟩
     go_simp
     replace hD:=Lib.hid hD
     (refine hK.out _ _ (hHeld.step hbn) (fun hHeld=>?_);clear hK K;(try simp only[apS,apN,siA,scZ,scS]))
     (refine ratI 4 (fun _=>trivial) (by decide +kernel) rfl (fun K hK=>?_);rw[if_pos (by kernel_rfl)];go_simp)
     refine⟨trivial,?_⟩
     refine (callsIn_wide.2 (where_any _ _ _ _ _ hD.out hsx.1)).mono ?_
     rintro e wn ⟨rfl,hbn⟩
     rw[hw]
     go_simp
     (refine hK.out _ _ (hHeld.step hbn) (fun hHeld=>?_);clear hK K;(try simp only[apS,apN,siA,scZ,scS]))
     refine tkIx 5 29 ?_
     refine wpAnyInH_done (by decide +kernel) ?_ _
     gi_wp2
     have hbl:=hIz.out.bel.size
     have hz5:=hHeld.bel.size
     refine⟨(keepsF_below hHeld.bel).from _,KpP.below hHeld.bel (by omega) (by omega) (by omega),fun i y hi hy=>?_,hIz.out.below hHeld.bel⟩
     by_cases hik:i=k
     ·subst hik;rw[hx] at hy;cases hy;exact hex.out
     exact hcz.out i y (by omega) hy
    have hex:Hid (ouX (Cal.dblP us) x=true):=by show _=_;unfold ouX;rw[hw];rfl
    gi_wp2
    refine wpIn_region_held_drew (S:=Sx Y [(w.heap.size,0,.slice Va us.length da),(Bx,0,.int .i64 x.mid.x),(Bx,1,.int .i64 x.mid.y)]) (by kernel_rfl) (Sx.mk (by simp only[cs_iff_cons];exact⟨b0,c0,c1,cs_nil _⟩) (Below.refl _ _)).drew (fun hHeld=>?_)
    refine tkIx 0 24 ?_
    refine tkIx 2 26 ?_
    refine tkIx 3 27 ?_
    (refine ratI 1 (fun _=>trivial) (by decide +kernel) rfl (fun K hK=>?_);rw[if_pos (by kernel_rfl)];go_simp)
    refine⟨trivial,?_⟩
    refine (callsIn_wide.2 (doubled_any2 _ _ _ _ (hBW.out.below hHeld.bel))).mono ?_
    rintro e wn ⟨rfl,hD,hbn⟩
    go_simp
    replace hD:=Lib.hid hD
    (refine hK.out _ _ (hHeld.step hbn) (fun hHeld=>?_);clear hK K;(try simp only[apS,apN,siA,scZ,scS]))
    (refine ratI 4 (fun _=>trivial) (by decide +kernel) rfl (fun K hK=>?_);rw[if_pos (by kernel_rfl)];go_simp)
    refine⟨trivial,?_⟩
    refine (callsIn_wide.2 (where_any _ _ _ _ _ hD.out hsx.1)).mono ?_
    rintro e wn ⟨rfl,hbn⟩
    rw[hw]
    go_simp
    (refine hK.out _ _ (hHeld.step hbn) (fun hHeld=>?_);clear hK K;(try simp only[apS,apN,siA,scZ,scS]))
    refine tkIx 5 29 ?_
    refine wpAnyInH_done (by decide +kernel) ?_ _
    gi_wp2
    have hbl:=hIz.out.bel.size
    have hz5:=hHeld.bel.size
    refine⟨(keepsF_below hHeld.bel).from _,KpP.below hHeld.bel (by omega) (by omega) (by omega),fun i y hi hy=>?_,hIz.out.below hHeld.bel⟩
    by_cases hik:i=k
    ·subst hik;rw[hx] at hy;cases hy;exact hex.out
    exact hcz.out i y (by omega) hy
   case done2 =>
    rintro D2 Z hD2 ⟨hc2,hI⟩ hK2
    obtain⟨v,hr⟩:=hI.r
    have r0:=hr.c 0 _ rfl
    have r1:=hr.free 0 Nat.zero_lt_one
    have hc3:=pcs_all_true hc2
    have hAll:=Lib.hid (And.intro hc3 (And.intro hI (And.intro hK2 hr)))
    clear hc2 hc3 hI hK2 hr
    gi_wp2
    obtain⟨hc3,hI,hK2,hr⟩:=hAll.out
    have hd:=hI.dd D List.mem_cons_self
    have hlt3:=hI.lt
    have hr1:=hr.set 0 (.bool true) Nat.zero_lt_one
    have hko:=KeepsOthers.setCell Z ⟨w.heap.size+1+1,0,none⟩ (.bool true)
    have hK':=hko.same D2 _ hK2 rfl
    have hK1:=hko.same D _ hd.2 rfl
    have ho':Others (Z.setCell ⟨w.heap.size+1+1,0,none⟩ (.bool true)) (some D2):=fun r e=>by cases e;exact⟨_,hK',rfl⟩
    have hK1':(World.putObj (Z.setCell ⟨w.heap.size+1+1,0,none⟩ (.bool true)) D2 (.deferred none)).heap[D]?=some (.deferred (some [])):=(World.putObj_heap_other (by omega)).trans hK1
    have hr2:=(hr1).keptF (grownBy_putObj' _ D2 (.deferred none)) ho'
    have ho2:Others (World.putObj (Z.setCell ⟨w.heap.size+1+1,0,none⟩ (.bool true)) D2 (.deferred none)) (some D):=fun r e=>by cases e;exact⟨_,hK1',rfl⟩
    have q5:=(hr2.keptF (grownBy_putObj' _ D (.deferred none)) ho2).c 0 _ rfl
    refine⟨by simp,.inl ⟨_,_,rfl,run_takeDeferred hK',by simp,.inl ⟨_,_,rfl,run_takeDeferred hK1',?_⟩⟩⟩
    exact⟨_,results_c1 rfl _ _ ⟨w.heap.size+1+1,0,none⟩ (.bool true) rfl (by simp[loadVar,go_sem,q5]),by rw[hc.out,hc3];rfl,belowF_put (belowF_put (hI.bel.setCell (p:=⟨w.heap.size+1+1,0,none⟩) (show w.heap.size≤w.heap.size+1+1 by omega) _) (by omega) _) (by omega) _⟩
   case stop2 =>
    rintro D2 c k Z hD2 hk ⟨rfl,h0,hZ⟩ hK2
    have hAll:=Lib.hid (And.intro h0 (And.intro hZ hK2))
    clear h0 hZ hK2
    gi_wp2
    obtain⟨h0,hZ,hK'⟩:=hAll.out
    have hd:=hZ.dd D List.mem_cons_self
    have hlt3:=hZ.lt
    have hK1:=hd.2
    have ho':Others Z (some D2):=fun r e=>by cases e;exact⟨_,hK',rfl⟩
    have hK1':(World.putObj Z D2 (.deferred none)).heap[D]?=some (.deferred (some [])):=(World.putObj_heap_other (by omega)).trans hK1
    have hr2:=(hZ.r).keptF (grownBy_putObj' _ D2 (.deferred none)) ho'
    have ho2:Others (World.putObj Z D2 (.deferred none)) (some D):=fun r e=>by cases e;exact⟨_,hK1',rfl⟩
    have q5:=(hr2.keptF (grownBy_putObj' _ D (.deferred none)) ho2).c 0 _ rfl
    refine⟨by simp,.inl ⟨_,_,rfl,run_takeDeferred hK',by simp,.inl ⟨_,_,rfl,run_takeDeferred hK1',?_⟩⟩⟩
    exact⟨_,results_c1 rfl _ _ ⟨w.heap.size+1+1,0,none⟩ (.bool false) rfl (by simp[loadVar,go_sem,q5]),by rw[hc.out,h0];rfl,belowF_put (belowF_put hZ.bel (by omega) _) (by omega) _⟩
  case stop =>
   rintro D c k W hD hk ⟨rfl,h0,hZ⟩ hK
   have hAll:=Lib.hid (And.intro h0 (And.intro hZ hK))
   clear h0 hZ hK
   gi_wp2
   obtain⟨h0,hZ,hK⟩:=hAll.out
   have ho':Others W (some D):=fun r e=>by cases e;exact⟨_,hK,rfl⟩
   refine⟨by simp,.inl ⟨_,_,rfl,run_takeDeferred hK,?_⟩⟩
   have q5:=(hZ.r.keptF (grownBy_putObj' W D (.deferred none)) ho').c 0 _ rfl
   exact⟨_,results_c1 rfl _ _ ⟨w.heap.size+1+1,0,none⟩ (.bool false) rfl (by simp[loadVar,go_sem,q5]),by rw[h0];rfl,belowF_put hZ.bel (by omega) _⟩
 gi_wp2_with (refine⟨trivial,?_⟩;gi_at_call 56;refine (callsIn_wide.2 (crossing_any _ _ _ _ _ _ _ hAx.out.v.pts hBx.out.v.pts)).mono ?_;rintro e w2 ⟨rfl,hb2⟩;rw[h1.out];replace hI:=Lib.hid (hI.out.below hb2);clear hb2;obtain⟨rv,hrv⟩:=hI.out.r;have r0:=hrv.c 0 _ rfl;have r1:=hrv.free 0 Nat.zero_lt_one;replace hrv:=Lib.hid hrv)
 have q5:=(hrv.out.set 0 (.bool false) Nat.zero_lt_one).c 0 _ rfl
 exact⟨_,results_c1 rfl _ _ ⟨w.heap.size+1+1,0,none⟩ (.bool false) rfl (by simp[loadVar,go_sem,q5]),rfl,hI.out.bel.setCell (p:=⟨w.heap.size+1+1,0,none⟩) (show w.heap.size≤w.heap.size+1+1 by omega) _⟩
end Go.Proofs.YtoojdkaimhlcbaaGreat
namespace Go.Proofs.YtoojdkaimhlcbaaGreat
open Go Go.RowKit Go.Shelf
structure Sct where
 name:ByteArray
 V:Option Addr
 d:Nat
 ps:List Pt
 S:Option Addr
 e:Nat
 l:List Plo
def plotE (sec:List Pt) (before:List Plo) (p:Plo):Int × Int :=
 if nameB p.name=true then
  (if before.any (fun q=>sameN q p)=true then (before.length,5)
   else if Cal.polyE p.ps=0 then
    (if Cal.withinP p.ps sec=true then (if idxP (fun q=>Cal.overlapP q.ps p.ps) before<0 then (0,0) else (idxP (fun q=>Cal.overlapP q.ps p.ps) before,13)) else (before.length,2))
   else (before.length,Cal.polyE p.ps))
 else (before.length,4)
def few (ps:List Pt):Prop:=ps.length≤10∨40<ps.length
theorem few_ok {ps:List Pt} (h:few ps) (h0:Cal.polyE ps=0):ps.length≤10:=by
 have:=(polyE_zero h0).2.1
 unfold few at h;omega
theorem undPl:Tryz.prog.underlying 45=some (.slice (Tryz.prog.elem 45)):=by kernel_rfl
theorem sizePl (w:World):(sizeOf (Tryz.prog.elem 45)).run Tryz.prog w=.ok 2 w:=by kernel_rfl
structure ChkI (w:World) (s:Sct) (p:Plo) (W:World):Prop where
 a:BoxAt W w.heap.size [.string s.name,.slice s.V s.ps.length s.d,.slice s.S s.l.length s.e]
 b:BoxAt W (w.heap.size+1) [.string p.name,.slice p.V p.ps.length p.d]
 bel:Below w.heap.size w W
theorem ChkI.below {w:World} {s:Sct} {p:Plo} {X Y:World} (h:ChkI w s p X) (hb:Below X.heap.size X Y):ChkI w s p Y:=⟨h.a.below hb,h.b.below hb,below_step h.bel hb⟩
theorem checkPlot_any (s:Sct) (i:Nat) (w:World) (hi:i<s.l.length) (hP:Plos w s.S s.l) (hcap:s.l.length≤s.e) (hC:Plg w s.V s.ps) (hfew:∀ p∈s.l,few p.ps) (hok:∀ q∈s.l.take i,Cal.polyE q.ps=0) :
  Calls Tryz.prog 51 #[.agg #[.string s.name,.slice s.V s.ps.length s.d,.slice s.S s.l.length s.e],.int .i64 (i:Int)] w fun e w'=>e=.returned (.tuple #[.int .i64 (plotE s.ps (s.l.take i) s.l[i]).1,.int .i64 (plotE s.ps (s.l.take i) s.l[i]).2])∧Below w.heap.size w w':=by
 have hk':s.l[i]?=some s.l[i]:=List.getElem?_eq_getElem hi
 have hmem:=List.getElem_mem hi
 have hpf:=Lib.hid (hfew _ hmem)
 have hpp:=Lib.hid (hP.pts _ hmem)
 have hpn:=Lib.hid (hP.nm _ hmem)
 have hlen:(s.l.take i).length=i:=by rw[List.length_take];omega
 have hbef:=Lib.hid (fun q (hq:q∈s.l.take i)=>(hP.pts q (List.mem_of_mem_take hq)).plg (hok q hq) (few_ok (hfew q (List.mem_of_mem_take hq)) (hok q hq)))
 obtain⟨A1,c1',hcut,hrows⟩:=cut_headI undPl sizePl (List.length_map ..).symm hP.rows hcap (k:=i) (by omega)
 rw[←List.map_take] at hrows
 replace hrows:=Lib.hid hrows
 have hl6:(s.l.take i).length≤1000000:=by have:=hP.size;omega
 generalize s.l[i]=p at *
 obtain⟨b,o,hS,hbl,c0,c1⟩:=plo_at hP.rows hk'
 have hsz:=hP.size
 generalize hbf:s.l.take i=bf at *
 obtain⟨R,hRR⟩:∃ R,plotE s.ps bf p=R:=⟨_,rfl⟩
 rw[hRR]
 have hI0:Hid (ChkI w s p ((w.alloc (.cells #[.string s.name,.slice s.V s.ps.length s.d,.slice s.S s.l.length s.e] 47)).alloc (.cells #[.string p.name,.slice p.V p.ps.length p.d] 80))):=by
  have b2:=BoxAt.new (w.alloc (.cells #[.string s.name,.slice s.V s.ps.length s.d,.slice s.S s.l.length s.e] 47)) #[.string p.name,.slice p.V p.ps.length p.d] 80
  rw[World.size_alloc] at b2
  exact⟨(BoxAt.new w #[.string s.name,.slice s.V s.ps.length s.d,.slice s.S s.l.length s.e] 47).alloc _,b2,below_step (below_alloc _ _) (below_alloc _ _)⟩
 have hcont:Hid (∀ W,ChkI w s p W→Calls Tryz.prog 66 #[.slice A1 i c1',.func (.func 67) #[] #[.pointer (some ⟨w.heap.size+1,0,none⟩)]] W fun en w'=>en=.returned (.bool (bf.any fun q=>sameN q p))∧Below W.heap.size W w'):=fun W hW=>by
  have:=ContainsPl1_any (fun q=>sameN q p) A1 c1' bf (w.heap.size+1) W (hrows.out.below hW.bel) hl6 (fun q X _ hX=>checkPlot1_any q p _ X (hW.b.below hX))
  rw[hlen] at this
  exact this
 have hidx:Hid (∀ W,ChkI w s p W→Cal.polyE p.ps=0→Calls Tryz.prog 69 #[.slice A1 i c1',.func (.func 70) #[] #[.pointer (some ⟨w.heap.size+1,0,none⟩)]] W fun en w'=>en=.returned (.int .i64 (idxP (fun q=>Cal.overlapP q.ps p.ps) bf))∧Below W.heap.size W w'):=fun W hW h0=>by
  have:=IndexPl2_any (fun q=>Cal.overlapP q.ps p.ps) A1 c1' bf (w.heap.size+1) W (hrows.out.below hW.bel) hl6 (fun q X hq hX=>checkPlot2_any q p _ X (hW.b.below hX) (((hbef.out q hq).below hW.bel).below hX) (((hpp.out.plg h0 (few_ok hpf.out h0)).below hW.bel).below hX))
  rw[hlen] at this
  exact this
 have hwi:Hid (∀ W,ChkI w s p W→Cal.polyE p.ps=0→Calls Tryz.prog 68 #[.slice p.V p.ps.length p.d,.slice s.V s.ps.length s.d] W fun e w'=>e=.returned (.bool (Cal.withinP p.ps s.ps))∧Below W.heap.size W w'):=fun W hW h0 =>
  withinG_any p.V s.V p.d s.d p.ps s.ps W ((hpp.out.plg h0 (few_ok hpf.out h0)).below hW.bel) (hC.below hW.bel)
 have hge:=idxP_ge (fun q=>Cal.overlapP q.ps p.ps) bf
 obtain⟨x1,h1⟩:∃ x,nameB p.name=x:=⟨_,rfl⟩
 obtain⟨x2,h2⟩:∃ x,(bf.any fun q=>sameN q p)=x:=⟨_,rfl⟩
 obtain⟨x3,h3⟩:∃ x,Cal.polyE p.ps=x:=⟨_,rfl⟩
 obtain⟨x4,h4⟩:∃ x,Cal.withinP p.ps s.ps=x:=⟨_,rfl⟩
 obtain⟨x5,h5⟩:∃ x,idxP (fun q=>Cal.overlapP q.ps p.ps) bf=x:=⟨_,rfl⟩
 have hR:Hid (R=if x1=true then (if x2=true then ((i:Int),5) else if x3=0 then (if x4=true then (if x5<0 then (0,0) else (x5,13)) else ((i:Int),2)) else ((i:Int),x3)) else ((i:Int),4)):=by
  show _=_
  rw[←hRR]
  unfold plotE
  rw[h1,h2,h3,h4,h5,hlen]
 clear hRR hbf hok hfew hP hk' hmem hC hbef hrows
 rw[h5] at hge
 by_cases z3:x3=0
 ·subst z3
  replace hidx:=Lib.hid (fun W hW=>hidx.out W hW h3)
  replace hwi:=Lib.hid (fun W hW=>hwi.out W hW h3)
  replace h1:=Lib.hid h1
  replace h2:=Lib.hid h2
  replace h3:=Lib.hid h3
  replace h4:=Lib.hid h4
  replace h5:=Lib.hid h5
  obtain⟨nm,V,d,ps,S,e,l⟩:=s
  dsimp only at *
  obtain rfl:=hS
  cases x1
  ·go_enter Tryz.func51,Tryz.ntmps51
   go_wp2_with (first
    |(go_at_call 21;refine (gisName_any p.name _ hpn.out).mono ?_;rintro e0 wn ⟨rfl,hbn⟩;rw[h1.out];have hI:=Lib.hid (hI0.out.below hbn);clear hbn;(have a1:=hI.out.a.c 1 _ rfl;have a2:=hI.out.a.c 2 _ rfl;obtain⟨b0,b1⟩:=hI.out.b.c2))
    |(go_at_call 66;clear a1 a2 b0 b1;refine (hcont.out _ hI.out).mono ?_;rintro e0 wn ⟨rfl,hbn⟩;rw[h2.out];(replace hI:=Lib.hid (hI.out.below hbn);clear hbn;(have a1:=hI.out.a.c 1 _ rfl;have a2:=hI.out.a.c 2 _ rfl;obtain⟨b0,b1⟩:=hI.out.b.c2)))
    |(go_at_call 50;clear a1 a2 b0 b1;refine (CheckPolygon_any p.V p.d p.ps _ (hpp.out.below hI.out.bel)).mono ?_;rintro e0 wn ⟨rfl,hbn⟩;rw[h3.out];(replace hI:=Lib.hid (hI.out.below hbn);clear hbn;(have a1:=hI.out.a.c 1 _ rfl;have a2:=hI.out.a.c 2 _ rfl;obtain⟨b0,b1⟩:=hI.out.b.c2)))
    |(go_at_call 68;clear a1 a2 b0 b1;refine (hwi.out _ hI.out).mono ?_;rintro e0 wn ⟨rfl,hbn⟩;rw[h4.out];(replace hI:=Lib.hid (hI.out.below hbn);clear hbn;(have a1:=hI.out.a.c 1 _ rfl;have a2:=hI.out.a.c 2 _ rfl;obtain⟨b0,b1⟩:=hI.out.b.c2)))
    |(go_at_call 69;clear a1 a2 b0 b1;refine (hidx.out _ hI.out).mono ?_;rintro e0 wn ⟨rfl,hbn⟩;rw[h5.out];(replace hI:=Lib.hid (hI.out.below hbn);clear hbn;(have a1:=hI.out.a.c 1 _ rfl;have a2:=hI.out.a.c 2 _ rfl;obtain⟨b0,b1⟩:=hI.out.b.c2))))
   go_ret2
   exact⟨by rw[hR.out];rfl,hI.out.bel⟩
  cases x2
  ·cases x4
   ·go_enter Tryz.func51,Tryz.ntmps51
    go_wp2_with (first
     |(go_at_call 21;refine (gisName_any p.name _ hpn.out).mono ?_;rintro e0 wn ⟨rfl,hbn⟩;rw[h1.out];have hI:=Lib.hid (hI0.out.below hbn);clear hbn;(have a1:=hI.out.a.c 1 _ rfl;have a2:=hI.out.a.c 2 _ rfl;obtain⟨b0,b1⟩:=hI.out.b.c2))
     |(go_at_call 66;clear a1 a2 b0 b1;refine (hcont.out _ hI.out).mono ?_;rintro e0 wn ⟨rfl,hbn⟩;rw[h2.out];(replace hI:=Lib.hid (hI.out.below hbn);clear hbn;(have a1:=hI.out.a.c 1 _ rfl;have a2:=hI.out.a.c 2 _ rfl;obtain⟨b0,b1⟩:=hI.out.b.c2)))
     |(go_at_call 50;clear a1 a2 b0 b1;refine (CheckPolygon_any p.V p.d p.ps _ (hpp.out.below hI.out.bel)).mono ?_;rintro e0 wn ⟨rfl,hbn⟩;rw[h3.out];(replace hI:=Lib.hid (hI.out.below hbn);clear hbn;(have a1:=hI.out.a.c 1 _ rfl;have a2:=hI.out.a.c 2 _ rfl;obtain⟨b0,b1⟩:=hI.out.b.c2)))
     |(go_at_call 68;clear a1 a2 b0 b1;refine (hwi.out _ hI.out).mono ?_;rintro e0 wn ⟨rfl,hbn⟩;rw[h4.out];(replace hI:=Lib.hid (hI.out.below hbn);clear hbn;(have a1:=hI.out.a.c 1 _ rfl;have a2:=hI.out.a.c 2 _ rfl;obtain⟨b0,b1⟩:=hI.out.b.c2)))
     |(go_at_call 69;clear a1 a2 b0 b1;refine (hidx.out _ hI.out).mono ?_;rintro e0 wn ⟨rfl,hbn⟩;rw[h5.out];(replace hI:=Lib.hid (hI.out.below hbn);clear hbn;(have a1:=hI.out.a.c 1 _ rfl;have a2:=hI.out.a.c 2 _ rfl;obtain⟨b0,b1⟩:=hI.out.b.c2))))
    go_ret2
    exact⟨by rw[hR.out];rfl,hI.out.bel⟩
   by_cases z5:x5<0
   ·replace hR:Hid (R=(0,0)):=by show _=_;rw[hR.out];simp[z5]
    go_enter Tryz.func51,Tryz.ntmps51
    go_wp2_with (first
     |(go_at_call 21;refine (gisName_any p.name _ hpn.out).mono ?_;rintro e0 wn ⟨rfl,hbn⟩;rw[h1.out];have hI:=Lib.hid (hI0.out.below hbn);clear hbn;(have a1:=hI.out.a.c 1 _ rfl;have a2:=hI.out.a.c 2 _ rfl;obtain⟨b0,b1⟩:=hI.out.b.c2))
     |(go_at_call 66;clear a1 a2 b0 b1;refine (hcont.out _ hI.out).mono ?_;rintro e0 wn ⟨rfl,hbn⟩;rw[h2.out];(replace hI:=Lib.hid (hI.out.below hbn);clear hbn;(have a1:=hI.out.a.c 1 _ rfl;have a2:=hI.out.a.c 2 _ rfl;obtain⟨b0,b1⟩:=hI.out.b.c2)))
     |(go_at_call 50;clear a1 a2 b0 b1;refine (CheckPolygon_any p.V p.d p.ps _ (hpp.out.below hI.out.bel)).mono ?_;rintro e0 wn ⟨rfl,hbn⟩;rw[h3.out];(replace hI:=Lib.hid (hI.out.below hbn);clear hbn;(have a1:=hI.out.a.c 1 _ rfl;have a2:=hI.out.a.c 2 _ rfl;obtain⟨b0,b1⟩:=hI.out.b.c2)))
     |(go_at_call 68;clear a1 a2 b0 b1;refine (hwi.out _ hI.out).mono ?_;rintro e0 wn ⟨rfl,hbn⟩;rw[h4.out];(replace hI:=Lib.hid (hI.out.below hbn);clear hbn;(have a1:=hI.out.a.c 1 _ rfl;have a2:=hI.out.a.c 2 _ rfl;obtain⟨b0,b1⟩:=hI.out.b.c2)))
     |(go_at_call 69;clear a1 a2 b0 b1;refine (hidx.out _ hI.out).mono ?_;rintro e0 wn ⟨rfl,hbn⟩;rw[h5.out];(replace hI:=Lib.hid (hI.out.below hbn);clear hbn;(have a1:=hI.out.a.c 1 _ rfl;have a2:=hI.out.a.c 2 _ rfl;obtain⟨b0,b1⟩:=hI.out.b.c2))))
    go_ret2
    exact⟨by rw[hR.out];rfl,hI.out.bel⟩
   have z6:0≤x5:=by omega
   replace hR:Hid (R=(x5,13)):=by show _=_;rw[hR.out];simp[z5]
   go_enter Tryz.func51,Tryz.ntmps51
   go_wp2_with (first
    |(go_at_call 21;refine (gisName_any p.name _ hpn.out).mono ?_;rintro e0 wn ⟨rfl,hbn⟩;rw[h1.out];have hI:=Lib.hid (hI0.out.below hbn);clear hbn;(have a1:=hI.out.a.c 1 _ rfl;have a2:=hI.out.a.c 2 _ rfl;obtain⟨b0,b1⟩:=hI.out.b.c2))
    |(go_at_call 66;clear a1 a2 b0 b1;refine (hcont.out _ hI.out).mono ?_;rintro e0 wn ⟨rfl,hbn⟩;rw[h2.out];(replace hI:=Lib.hid (hI.out.below hbn);clear hbn;(have a1:=hI.out.a.c 1 _ rfl;have a2:=hI.out.a.c 2 _ rfl;obtain⟨b0,b1⟩:=hI.out.b.c2)))
    |(go_at_call 50;clear a1 a2 b0 b1;refine (CheckPolygon_any p.V p.d p.ps _ (hpp.out.below hI.out.bel)).mono ?_;rintro e0 wn ⟨rfl,hbn⟩;rw[h3.out];(replace hI:=Lib.hid (hI.out.below hbn);clear hbn;(have a1:=hI.out.a.c 1 _ rfl;have a2:=hI.out.a.c 2 _ rfl;obtain⟨b0,b1⟩:=hI.out.b.c2)))
    |(go_at_call 68;clear a1 a2 b0 b1;refine (hwi.out _ hI.out).mono ?_;rintro e0 wn ⟨rfl,hbn⟩;rw[h4.out];(replace hI:=Lib.hid (hI.out.below hbn);clear hbn;(have a1:=hI.out.a.c 1 _ rfl;have a2:=hI.out.a.c 2 _ rfl;obtain⟨b0,b1⟩:=hI.out.b.c2)))
    |(go_at_call 69;clear a1 a2 b0 b1;refine (hidx.out _ hI.out).mono ?_;rintro e0 wn ⟨rfl,hbn⟩;rw[h5.out];(replace hI:=Lib.hid (hI.out.below hbn);clear hbn;(have a1:=hI.out.a.c 1 _ rfl;have a2:=hI.out.a.c 2 _ rfl;obtain⟨b0,b1⟩:=hI.out.b.c2))))
   go_ret2
   exact⟨by rw[hR.out];rfl,hI.out.bel⟩
  go_enter Tryz.func51,Tryz.ntmps51
  go_wp2_with (first
   |(go_at_call 21;refine (gisName_any p.name _ hpn.out).mono ?_;rintro e0 wn ⟨rfl,hbn⟩;rw[h1.out];have hI:=Lib.hid (hI0.out.below hbn);clear hbn;(have a1:=hI.out.a.c 1 _ rfl;have a2:=hI.out.a.c 2 _ rfl;obtain⟨b0,b1⟩:=hI.out.b.c2))
   |(go_at_call 66;clear a1 a2 b0 b1;refine (hcont.out _ hI.out).mono ?_;rintro e0 wn ⟨rfl,hbn⟩;rw[h2.out];(replace hI:=Lib.hid (hI.out.below hbn);clear hbn;(have a1:=hI.out.a.c 1 _ rfl;have a2:=hI.out.a.c 2 _ rfl;obtain⟨b0,b1⟩:=hI.out.b.c2)))
   |(go_at_call 50;clear a1 a2 b0 b1;refine (CheckPolygon_any p.V p.d p.ps _ (hpp.out.below hI.out.bel)).mono ?_;rintro e0 wn ⟨rfl,hbn⟩;rw[h3.out];(replace hI:=Lib.hid (hI.out.below hbn);clear hbn;(have a1:=hI.out.a.c 1 _ rfl;have a2:=hI.out.a.c 2 _ rfl;obtain⟨b0,b1⟩:=hI.out.b.c2)))
   |(go_at_call 68;clear a1 a2 b0 b1;refine (hwi.out _ hI.out).mono ?_;rintro e0 wn ⟨rfl,hbn⟩;rw[h4.out];(replace hI:=Lib.hid (hI.out.below hbn);clear hbn;(have a1:=hI.out.a.c 1 _ rfl;have a2:=hI.out.a.c 2 _ rfl;obtain⟨b0,b1⟩:=hI.out.b.c2)))
   |(go_at_call 69;clear a1 a2 b0 b1;refine (hidx.out _ hI.out).mono ?_;rintro e0 wn ⟨rfl,hbn⟩;rw[h5.out];(replace hI:=Lib.hid (hI.out.below hbn);clear hbn;(have a1:=hI.out.a.c 1 _ rfl;have a2:=hI.out.a.c 2 _ rfl;obtain⟨b0,b1⟩:=hI.out.b.c2))))
  go_ret2
  exact⟨by rw[hR.out];rfl,hI.out.bel⟩
 clear hidx hwi
 replace h1:=Lib.hid h1
 replace h2:=Lib.hid h2
 replace h3:=Lib.hid h3
 obtain⟨nm,V,d,ps,S,e,l⟩:=s
 dsimp only at *
 obtain rfl:=hS
 cases x1
 ·go_enter Tryz.func51,Tryz.ntmps51
  go_wp2_with (first
   |(go_at_call 21;refine (gisName_any p.name _ hpn.out).mono ?_;rintro e0 wn ⟨rfl,hbn⟩;rw[h1.out];have hI:=Lib.hid (hI0.out.below hbn);clear hbn;(have a1:=hI.out.a.c 1 _ rfl;have a2:=hI.out.a.c 2 _ rfl;obtain⟨b0,b1⟩:=hI.out.b.c2))
   |(go_at_call 66;clear a1 a2 b0 b1;refine (hcont.out _ hI.out).mono ?_;rintro e0 wn ⟨rfl,hbn⟩;rw[h2.out];(replace hI:=Lib.hid (hI.out.below hbn);clear hbn;(have a1:=hI.out.a.c 1 _ rfl;have a2:=hI.out.a.c 2 _ rfl;obtain⟨b0,b1⟩:=hI.out.b.c2)))
   |(go_at_call 50;clear a1 a2 b0 b1;refine (CheckPolygon_any p.V p.d p.ps _ (hpp.out.below hI.out.bel)).mono ?_;rintro e0 wn ⟨rfl,hbn⟩;rw[h3.out];(replace hI:=Lib.hid (hI.out.below hbn);clear hbn;(have a1:=hI.out.a.c 1 _ rfl;have a2:=hI.out.a.c 2 _ rfl;obtain⟨b0,b1⟩:=hI.out.b.c2)))
   |(go_at_call 68;clear a1 a2 b0 b1;refine (hwi.out _ hI.out).mono ?_;rintro e0 wn ⟨rfl,hbn⟩;rw[h4.out];(replace hI:=Lib.hid (hI.out.below hbn);clear hbn;(have a1:=hI.out.a.c 1 _ rfl;have a2:=hI.out.a.c 2 _ rfl;obtain⟨b0,b1⟩:=hI.out.b.c2)))
   |(go_at_call 69;clear a1 a2 b0 b1;refine (hidx.out _ hI.out).mono ?_;rintro e0 wn ⟨rfl,hbn⟩;rw[h5.out];(replace hI:=Lib.hid (hI.out.below hbn);clear hbn;(have a1:=hI.out.a.c 1 _ rfl;have a2:=hI.out.a.c 2 _ rfl;obtain⟨b0,b1⟩:=hI.out.b.c2))))
  go_ret2
  exact⟨by rw[hR.out];rfl,hI.out.bel⟩
 cases x2
 ·replace hR:Hid (R=((i:Int),x3)):=by show _=_;rw[hR.out];simp[z3]
  go_enter Tryz.func51,Tryz.ntmps51
  go_wp2_with (first
   |(go_at_call 21;refine (gisName_any p.name _ hpn.out).mono ?_;rintro e0 wn ⟨rfl,hbn⟩;rw[h1.out];have hI:=Lib.hid (hI0.out.below hbn);clear hbn;(have a1:=hI.out.a.c 1 _ rfl;have a2:=hI.out.a.c 2 _ rfl;obtain⟨b0,b1⟩:=hI.out.b.c2))
   |(go_at_call 66;clear a1 a2 b0 b1;refine (hcont.out _ hI.out).mono ?_;rintro e0 wn ⟨rfl,hbn⟩;rw[h2.out];(replace hI:=Lib.hid (hI.out.below hbn);clear hbn;(have a1:=hI.out.a.c 1 _ rfl;have a2:=hI.out.a.c 2 _ rfl;obtain⟨b0,b1⟩:=hI.out.b.c2)))
   |(go_at_call 50;clear a1 a2 b0 b1;refine (CheckPolygon_any p.V p.d p.ps _ (hpp.out.below hI.out.bel)).mono ?_;rintro e0 wn ⟨rfl,hbn⟩;rw[h3.out];(replace hI:=Lib.hid (hI.out.below hbn);clear hbn;(have a1:=hI.out.a.c 1 _ rfl;have a2:=hI.out.a.c 2 _ rfl;obtain⟨b0,b1⟩:=hI.out.b.c2)))
   |(go_at_call 68;clear a1 a2 b0 b1;refine (hwi.out _ hI.out).mono ?_;rintro e0 wn ⟨rfl,hbn⟩;rw[h4.out];(replace hI:=Lib.hid (hI.out.below hbn);clear hbn;(have a1:=hI.out.a.c 1 _ rfl;have a2:=hI.out.a.c 2 _ rfl;obtain⟨b0,b1⟩:=hI.out.b.c2)))
   |(go_at_call 69;clear a1 a2 b0 b1;refine (hidx.out _ hI.out).mono ?_;rintro e0 wn ⟨rfl,hbn⟩;rw[h5.out];(replace hI:=Lib.hid (hI.out.below hbn);clear hbn;(have a1:=hI.out.a.c 1 _ rfl;have a2:=hI.out.a.c 2 _ rfl;obtain⟨b0,b1⟩:=hI.out.b.c2))))
  go_ret2
  exact⟨by rw[hR.out];rfl,hI.out.bel⟩
 go_enter Tryz.func51,Tryz.ntmps51
 go_wp2_with (first
  |(go_at_call 21;refine (gisName_any p.name _ hpn.out).mono ?_;rintro e0 wn ⟨rfl,hbn⟩;rw[h1.out];have hI:=Lib.hid (hI0.out.below hbn);clear hbn;(have a1:=hI.out.a.c 1 _ rfl;have a2:=hI.out.a.c 2 _ rfl;obtain⟨b0,b1⟩:=hI.out.b.c2))
  |(go_at_call 66;clear a1 a2 b0 b1;refine (hcont.out _ hI.out).mono ?_;rintro e0 wn ⟨rfl,hbn⟩;rw[h2.out];(replace hI:=Lib.hid (hI.out.below hbn);clear hbn;(have a1:=hI.out.a.c 1 _ rfl;have a2:=hI.out.a.c 2 _ rfl;obtain⟨b0,b1⟩:=hI.out.b.c2)))
  |(go_at_call 50;clear a1 a2 b0 b1;refine (CheckPolygon_any p.V p.d p.ps _ (hpp.out.below hI.out.bel)).mono ?_;rintro e0 wn ⟨rfl,hbn⟩;rw[h3.out];(replace hI:=Lib.hid (hI.out.below hbn);clear hbn;(have a1:=hI.out.a.c 1 _ rfl;have a2:=hI.out.a.c 2 _ rfl;obtain⟨b0,b1⟩:=hI.out.b.c2)))
  |(go_at_call 68;clear a1 a2 b0 b1;refine (hwi.out _ hI.out).mono ?_;rintro e0 wn ⟨rfl,hbn⟩;rw[h4.out];(replace hI:=Lib.hid (hI.out.below hbn);clear hbn;(have a1:=hI.out.a.c 1 _ rfl;have a2:=hI.out.a.c 2 _ rfl;obtain⟨b0,b1⟩:=hI.out.b.c2)))
  |(go_at_call 69;clear a1 a2 b0 b1;refine (hidx.out _ hI.out).mono ?_;rintro e0 wn ⟨rfl,hbn⟩;rw[h5.out];(replace hI:=Lib.hid (hI.out.below hbn);clear hbn;(have a1:=hI.out.a.c 1 _ rfl;have a2:=hI.out.a.c 2 _ rfl;obtain⟨b0,b1⟩:=hI.out.b.c2))))
 go_ret2
 exact⟨by rw[hR.out];rfl,hI.out.bel⟩
end Go.Proofs.YtoojdkaimhlcbaaGreat
