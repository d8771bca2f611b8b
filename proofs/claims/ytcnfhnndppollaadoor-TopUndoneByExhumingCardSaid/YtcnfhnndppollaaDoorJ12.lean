/- What the statements rest on: definitions and walks, part 12. -/
import Derived.Test.YtcnfhnndppollaaDoorJ11
set_option maxRecDepth 100000
set_option maxHeartbeats 16000000
set_option linter.unusedSimpArgs false
set_option linter.unusedVariables false
namespace Go.Proofs.YtcnfhnndppollaaDoor
open Go Go.RowKit Go.Maps
theorem vrows_drop {w:World} {A:Option Addr} {m:Nat} {rows:List (List Value)} (h:RowsAt w A m rows) (k:Nat):RowsAt w (A.map (·.add (k*m))) m (rows.drop k):=fun j r hr=>by
 rw[List.getElem?_drop] at hr
 obtain⟨b,o,hA,hb,hc⟩:=h _ r hr
 refine⟨b,o+k*m,?_,hb,fun i v hv=>?_⟩
 ·rw[hA];simp[Addr.add]
 have:=hc i v hv
 rw[show o+k*m+(j*m+i)=o+((k+j)*m+i) by rw[Nat.add_mul];omega]
 exact this
theorem sizeLot (w:World):(sizeOf (Tryd.prog.elem 45)).run Tryd.prog w=.ok 6 w:=by kernel_rfl
theorem undLot:Tryd.prog.underlying 45=some (.slice (Tryd.prog.elem 45)):=by kernel_rfl
theorem lots_tail {w:World} {A:Option Addr} {n c k:Nat} {l:List Lot} (h:RowsAt w A 6 (l.map Lot.cells)) (hn:n=l.length) (hc:n≤c) (hk:k≤n) :
  ∃ A2 c2,(∀ w',(Instr.slice 45 (.slice A n c) (some (.int .i64 k)) none none).run Tryd.prog w'=.ok (.slice A2 (n-k) c2) w')∧RowsAt w A2 6 ((l.drop k).map Lot.cells):=by
 refine⟨if c=k then A else A.map (·.add (k*6)),c-k,fun w'=>?_,?_⟩
 ·rw[run_slice_l w' 45 A n c undLot .i64 k (by omega) (by omega),sizeLot]
  simp[Result.andThen,sliced]
 rw[List.map_drop]
 split
 ·have:(l.map Lot.cells).drop k=[]:=List.drop_eq_nil_of_le (by simp;omega)
  rw[this]
  exact RowsAt.nil _ _ _
 exact vrows_drop h k
def WiP (w:World) (l:List Lot) (t:Lot) (e:Ending) (w':World):Prop:=∃ (A:Option Addr) (c:Nat) (l':List Lot),e=.returned (.slice A l'.length c)∧RowsAt w' A 6 (l'.map Lot.cells)∧l'.length≤c∧l'.length≤l.length+1∧(∀ x∈l',x=t∨x∈l)∧Below w.heap.size w w'
structure WtI (w:World) (t:Lot) (v:Value) (out:List Lot) (W:World):Prop where
 t:BoxAt W w.heap.size [.string t.remain,.int .i64 t.state,.string t.site,.int .i64 t.level,.int .i64 t.cont,.int .i64 t.since]
 own:OwnL W (w.heap.size+1) 38 6 v (out.map Lot.cells)
 bel:Below w.heap.size w W
 size:w.heap.size+1≤W.heap.size
theorem WtI.below {w:World} {t:Lot} {v:Value} {out:List Lot} {W W':World} (h:WtI w t v out W) (hb:Below W.heap.size W W'):WtI w t v out W':=⟨h.t.below hb,OwnL.below h.own hb,below_step h.bel hb,Nat.le_trans h.size hb.size⟩
theorem WtI.app {w:World} {t:Lot} {v v':Value} {out more:List Lot} {W W':World} (h:WtI w t v out W) (hown:OwnL W' (w.heap.size+1) 38 6 v' (out.map Lot.cells ++ more.map Lot.cells)) (hg:W.grownBy W' v.ownBlock):WtI w t v' (out ++ more) W':=by
 have hne:some w.heap.size≠v.ownBlock:=fun e=>by have:=(h.own.lt _ e.symm).1;omega
 rw[←List.map_append] at hown
 exact⟨h.t.grown hg hne,hown,h.bel.trans (grown_below hg (fun g e=>by have:=(h.own.lt g e).1;omega) h.bel.size),Nat.le_trans h.size hg.size⟩
theorem len_map6 {l:List Lot} {n:Nat} (h:n=l.length):n=(l.map Lot.cells).length:=by rw[List.length_map];exact h
theorem OwnL.vcap {w:World} {B c n:Nat} {E:TypeId} {m:Nat} {A:Option Addr} {rows:List (List Value)} (h:OwnL w B E m (.slice A n c) rows):n≤c:=by
 obtain⟨A0,c0,hv,hr⟩:=h.form
 simp only[Value.slice.injEq] at hv
 obtain⟨rfl,rfl,rfl⟩:=hv
 rcases h.own.2 with ⟨h1,h2⟩ | ⟨g,cap,cur,hv,_,_,h3,_⟩
 ·simp only[Value.slice.injEq] at h1;omega
 simp only[Value.slice.injEq,true_and] at hv;omega
theorem wmem {l:List Lot} {t x:Lot} {k j:Nat} (h:x∈l.take k ++ [t] ++ l.drop j):x=t∨x∈l:=by
 rcases List.mem_append.1 h with h | h
 ·rcases List.mem_append.1 h with h | h
  ·exact .inr (List.mem_of_mem_take h)
  exact .inl (List.mem_singleton.1 h)
 exact .inr (List.mem_of_mem_drop h)
theorem withR_any (A:Option Addr) (ac:Nat) (l:List Lot) (t:Lot) (w:World) (hL:RowsAt w A 6 (l.map Lot.cells)) (hl:l.length≤1000000) (hcap:l.length≤ac) :
  Calls Tryd.prog 52 #[.slice A l.length ac,.agg #[.string t.remain,.int .i64 t.state,.string t.site,.int .i64 t.level,.int .i64 t.cont,.int .i64 t.since]] w (WiP w l t):=by
 have hLz:=Lib.hid (fun w' (h:Below w.heap.size w w')=>hL.below h)
 have hI:Hid (WtI w t (.slice none 0 0) (l.take 0) (w.alloc (.cells #[.string t.remain,.int .i64 t.state,.string t.site,.int .i64 t.level,.int .i64 t.cont,.int .i64 t.since] 38))):=⟨BoxAt.new w #[.string t.remain,.int .i64 t.state,.string t.site,.int .i64 t.level,.int .i64 t.cont,.int .i64 t.since] _,OwnL.nil _ _ _ _,below_alloc _ _,by simp⟩
 clear hL
 go_enter Tryd.func52,Tryd.ntmps52
 go_wp2_with fail
 generalize w.alloc (.cells #[.string t.remain,.int .i64 t.state,.string t.site,.int .i64 t.level,.int .i64 t.cont,.int .i64 t.since] 38)=w1 at *
 go_loopw [5,6] (fun v i wr=>∃ k:Nat,k≤l.length∧i=.int .i64 k∧Hid (WtI w t v (l.take k) wr)) (fun _ i _=>l.length-(intOf i).toNat)
 case atStart=>exact⟨0,Nat.zero_le _,rfl,hI⟩
 case round =>
  clear hI
  obtain⟨k,hk,rfl,hI⟩:=hrel
  obtain⟨A5,c5,hv5,_⟩:=OwnL.form hI.out.own
  obtain⟨q5,hq5⟩:∃ q5,q5=((l.take k).map Lot.cells).length:=⟨_,rfl⟩
  rw[←hq5] at hv5
  subst hv5
  clear hq5
  have hkl:(l.take k).length=k:=by rw[List.length_take];omega
  (obtain⟨t0,t1,t2,t3⟩:=hI.out.t.c4;have t4:=hI.out.t.c 4 _ rfl;have t5:=hI.out.t.c 5 _ rfl)
  by_cases hlt:k<l.length
  ·have hkk:(k:Int)<(l.length:Int):=by omega
   have hk':l[k]?=some l[k]:=List.getElem?_eq_getElem hlt
   have hkz:=Lib.hid (show l.take (k+1)=l.take k ++ [l[k]] by rw[List.take_add_one,hk'];rfl)
   have hkr:=Lib.hid (fun W (h:Below w.heap.size w W)=>lotRow_at (hLz.out W h) hk')
   generalize l[k]=s at *
   obtain⟨b,o,hS2,hbl,hc⟩:=hkr.out _ hI.out.bel
   subst hS2
   have c0:=hc 0 _ rfl
   have c1:=hc 1 _ rfl
   have c2:=hc 2 _ rfl
   have c3:=hc 3 _ rfl
   have c4:=hc 4 _ rfl
   have c5':=hc 5 _ rfl
   rw[Nat.add_zero] at c0
   clear hc hk'
   cases hb:Op.bytesLess s.remain.toList t.remain.toList
   ·go_wp2_with fail
    go_quiet (fail)
    go_upto_region 6 with fail
    clear c0 c1 c2 c3 c4 c5' hbl
    clear t0 t1 t2 t3 t4 t5
    replace hI:=Lib.hid (hI.out.below (below_drewN (Below.refl wr.heap.size wr) nq))
    generalize wr.drewN nq=X at *
    (obtain⟨t0,t1,t2,t3⟩:=hI.out.t.c4;have t4:=hI.out.t.c 4 _ rfl;have t5:=hI.out.t.c 5 _ rfl)
    go_upto_region 7 with (at_builtin;refine wpList_append_rows elemLot rfl _ _ rfl rfl rfl (OwnL.below hI.out.own (below_alloc _ _)) (rowsAt_new _ [.string t.remain,.int .i64 t.state,.string t.site,.int .i64 t.level,.int .i64 t.cont,.int .i64 t.since] 38) rfl (lot_wid [t]) (lot_one [t]) (by simp only[List.length_map,List.length_singleton];omega) (by decide) (by have:=hI.out.size;rw[World.size_alloc];omega) ?_;intro v' w7 hown7 hg7 _;replace hI:=Lib.hid ((hI.out.below (below_alloc _ (.cells #[.string t.remain,.int .i64 t.state,.string t.site,.int .i64 t.level,.int .i64 t.cont,.int .i64 t.since] 38))).app (more:=[t]) hown7 hg7);clear hown7 hg7;clear t0 t1 t2 t3 t4 t5)
    (obtain⟨t0,t1,t2,t3⟩:=hI.out.t.c4;have t4:=hI.out.t.c 4 _ rfl;have t5:=hI.out.t.c 5 _ rfl)
    obtain⟨b',o',hS3,hbl,hc⟩:=hkr.out _ hI.out.bel
    cases hS3
    have c0:=hc 0 _ rfl
    rw[Nat.add_zero] at c0
    clear hc
    have hwr:IntKind.i64.wrap ((k:Int)+1)=(k:Int)+1:=wrap_small _ (by omega) (by omega)
    by_cases he:s.remain=t.remain
    ·have hq:=name_yes he
     clear he
     go_wp2_with fail
     go_quiet (fail)
     go_upto_region 9 with fail
     replace hI:=Lib.hid (hI.out.below (below_drewN (Below.refl w7.heap.size w7) nq))
     generalize w7.drewN nq=Y at *
     clear c0 hbl
     clear t0 t1 t2 t3 t4 t5
     obtain⟨A5,c5,hv5,_⟩:=OwnL.form hI.out.own
     obtain⟨q5,hq5⟩:∃ q5:Nat,v'=.slice A5 q5 c5:=⟨_,hv5⟩
     clear hv5
     subst hq5
     obtain⟨A2,c2,hrun2',hR2⟩:=lots_tail (k:=k+1) (hLz.out _ hI.out.bel) rfl hcap (by omega)
     have hrun2:∀ w',(Instr.slice 45 (.slice _ l.length ac) (some (.int .i64 ((k:Int)+1))) none none).run Tryd.prog w'=.ok (.slice A2 (l.length-(k+1)) c2) w':=hrun2'
     have hR2z:=Lib.hid hR2
     clear hR2 hrun2'
     have hdl:=List.length_drop (l:=l) (i:=k+1)
     go_wp2_with (at_builtin;refine wpList_append_rows elemLot rfl _ _ rfl rfl rfl hI.out.own hR2z.out (by first | exact len_map6 hdl.symm | simp) (lot_wid _) (lot_one _) (by simp only[List.length_map,List.length_append,List.length_singleton];omega) (by decide) hI.out.size ?_;intro v' w7 hown7 hg7 _;replace hI:=Lib.hid (hI.out.app hown7 hg7);clear hown7 hg7)
     go_ret
     obtain⟨A9,c9,hv9,hr9⟩:=OwnL.form hI.out.own
     rw[List.length_map] at hv9
     subst hv9
     have hcp:=OwnL.vcap hI.out.own
     exact⟨A9,c9,_,rfl,hr9,hcp,by simp only[List.length_append,List.length_singleton];omega,fun x hx=>wmem hx,hI.out.bel⟩
    have hq:=name_no he
    clear he
    go_wp2_with fail
    go_quiet (fail)
    go_upto_region 9 with fail
    replace hI:=Lib.hid (hI.out.below (below_drewN (Below.refl w7.heap.size w7) nq))
    generalize w7.drewN nq=Y at *
    clear c0 hbl
    clear t0 t1 t2 t3 t4 t5
    obtain⟨A5,c5,hv5,_⟩:=OwnL.form hI.out.own
    obtain⟨q5,hq5⟩:∃ q5:Nat,v'=.slice A5 q5 c5:=⟨_,hv5⟩
    clear hv5
    subst hq5
    obtain⟨A2,c2,hrun2',hR2⟩:=lots_tail (k:=k) (hLz.out _ hI.out.bel) rfl hcap (by omega)
    have hrun2:∀ w',(Instr.slice 45 (.slice _ l.length ac) (some (.int .i64 (k:Int))) none none).run Tryd.prog w'=.ok (.slice A2 (l.length-(k)) c2) w':=hrun2'
    have hR2z:=Lib.hid hR2
    clear hR2 hrun2'
    have hdl:=List.length_drop (l:=l) (i:=k)
    go_wp2_with (at_builtin;refine wpList_append_rows elemLot rfl _ _ rfl rfl rfl hI.out.own hR2z.out (by first | exact len_map6 hdl.symm | simp) (lot_wid _) (lot_one _) (by simp only[List.length_map,List.length_append,List.length_singleton];omega) (by decide) hI.out.size ?_;intro v' w7 hown7 hg7 _;replace hI:=Lib.hid (hI.out.app hown7 hg7);clear hown7 hg7)
    go_ret
    obtain⟨A9,c9,hv9,hr9⟩:=OwnL.form hI.out.own
    rw[List.length_map] at hv9
    subst hv9
    have hcp:=OwnL.vcap hI.out.own
    exact⟨A9,c9,_,rfl,hr9,hcp,by simp only[List.length_append,List.length_singleton];omega,fun x hx=>wmem hx,hI.out.bel⟩
   go_wp2_with fail
   go_quiet (fail)
   go_upto_region 4 with fail
   replace hI:=Lib.hid (hI.out.below (below_drewN (Below.refl wr.heap.size wr) nq))
   generalize wr.drewN nq=X at *
   clear t0 t1 t2 t3 t4 t5
   clear c0 c1 c2 c3 c4 c5' hbl
   obtain⟨b',o',hS3,hbl,hc⟩:=hkr.out _ hI.out.bel
   cases hS3
   have c0:=hc 0 _ rfl
   have c1:=hc 1 _ rfl
   have c2:=hc 2 _ rfl
   have c3:=hc 3 _ rfl
   have c4:=hc 4 _ rfl
   have c5':=hc 5 _ rfl
   rw[Nat.add_zero] at c0
   clear hc
   go_wp2_with (at_builtin;refine wpList_append_rows elemLot rfl _ _ rfl rfl rfl (OwnL.below hI.out.own (below_alloc _ _)) (rowsAt_new _ [.string s.remain,.int .i64 s.state,.string s.site,.int .i64 s.level,.int .i64 s.cont,.int .i64 s.since] 38) rfl (lot_wid [s]) (lot_one [s]) (by simp only[List.length_map,List.length_singleton];omega) (by decide) (by have:=hI.out.size;rw[World.size_alloc];omega) ?_;intro v' w7 hown7 hg7 _;replace hI:=Lib.hid ((hI.out.below (below_alloc _ (.cells #[.string s.remain,.int .i64 s.state,.string s.site,.int .i64 s.level,.int .i64 s.cont,.int .i64 s.since] 38))).app (more:=[s]) hown7 hg7);clear hown7 hg7 c0 c1 c2 c3 c4 c5')
   go_roundw
   case rel=>exact⟨k+1,by omega,by go_num,by rw[hkz.out];exact hI⟩
   case measure=>simp[intOf];omega
  obtain rfl:k=l.length:=by omega
  go_wp2_with fail
  go_quiet (fail)
  go_upto_region 6 with fail
  replace hI:=Lib.hid (hI.out.below (below_drewN (Below.refl wr.heap.size wr) nq))
  generalize wr.drewN nq=X at *
  clear t0 t1 t2 t3 t4 t5
  (obtain⟨t0,t1,t2,t3⟩:=hI.out.t.c4;have t4:=hI.out.t.c 4 _ rfl;have t5:=hI.out.t.c 5 _ rfl)
  go_upto_region 7 with (at_builtin;refine wpList_append_rows elemLot rfl _ _ rfl rfl rfl (OwnL.below hI.out.own (below_alloc _ _)) (rowsAt_new _ [.string t.remain,.int .i64 t.state,.string t.site,.int .i64 t.level,.int .i64 t.cont,.int .i64 t.since] 38) rfl (lot_wid [t]) (lot_one [t]) (by simp only[List.length_map,List.length_singleton];omega) (by decide) (by have:=hI.out.size;rw[World.size_alloc];omega) ?_;intro v' w7 hown7 hg7 _;replace hI:=Lib.hid ((hI.out.below (below_alloc _ (.cells #[.string t.remain,.int .i64 t.state,.string t.site,.int .i64 t.level,.int .i64 t.cont,.int .i64 t.since] 38))).app (more:=[t]) hown7 hg7);clear hown7 hg7;clear t0 t1 t2 t3 t4 t5)
  (obtain⟨t0,t1,t2,t3⟩:=hI.out.t.c4;have t4:=hI.out.t.c 4 _ rfl;have t5:=hI.out.t.c 5 _ rfl)
  go_wp2_with fail
  go_quiet (fail)
  go_upto_region 9 with fail
  replace hI:=Lib.hid (hI.out.below (below_drewN (Below.refl w7.heap.size w7) nq))
  generalize w7.drewN nq=Y at *
  clear t0 t1 t2 t3 t4 t5
  obtain⟨A5,c5,hv5,_⟩:=OwnL.form hI.out.own
  obtain⟨q5,hq5⟩:∃ q5:Nat,v'=.slice A5 q5 c5:=⟨_,hv5⟩
  clear hv5
  subst hq5
  obtain⟨A2,c2,hrun2',hR2⟩:=lots_tail (k:=l.length) (hLz.out _ hI.out.bel) rfl hcap (Nat.le_refl _)
  have hrun2:∀ w',(Instr.slice 45 (.slice _ l.length ac) (some (.int .i64 (l.length:Int))) none none).run Tryd.prog w'=.ok (.slice A2 (l.length-(l.length)) c2) w':=hrun2'
  have hR2z:=Lib.hid hR2
  clear hR2 hrun2'
  have hdl:=List.length_drop (l:=l) (i:=l.length)
  go_wp2_with (at_builtin;refine wpList_append_rows elemLot rfl _ _ rfl rfl rfl hI.out.own hR2z.out (by first | exact len_map6 hdl.symm | simp) (lot_wid _) (lot_one _) (by simp only[List.length_map,List.length_append,List.length_singleton];omega) (by decide) hI.out.size ?_;intro v' w7 hown7 hg7 _;replace hI:=Lib.hid (hI.out.app hown7 hg7);clear hown7 hg7)
  go_ret
  obtain⟨A9,c9,hv9,hr9⟩:=OwnL.form hI.out.own
  rw[List.length_map] at hv9
  subst hv9
  have hcp:=OwnL.vcap hI.out.own
  exact⟨A9,c9,_,rfl,hr9,hcp,by simp only[List.length_append,List.length_singleton];omega,fun x hx=>wmem hx,hI.out.bel⟩
end Go.Proofs.YtcnfhnndppollaaDoor
namespace Go.Proofs.YtcnfhnndppollaaDoor
open Go Go.RowKit
theorem CheckEventR_any (e:Ev) (w:World) (hn1:e.remain.size≤maxLen) (hn2:e.site.size≤maxLen) :
  Calls Tryd.prog 49 #[.agg #[.int .i64 e.day,.int .i64 e.kind,.string e.site,.int .i64 e.level,.string e.remain,.int .i64 e.cont,.bool e.order]] w fun e' w'=>e'=.returned (.int .i64 (Cal.eventE e))∧Below w.heap.size w w':=by
 obtain⟨day,kind,site,level,remain,cont,order⟩:=e
 dsimp only at hn1 hn2 ⊢
 obtain⟨R,hR⟩:∃ R,R=Cal.eventE ⟨day,kind,site,level,remain,cont,order⟩:=⟨_,rfl⟩
 rw[←hR]
 replace hR:=Lib.hid hR
 have g1:=Lib.hid (BoxAt.new w #[.int .i64 day,.int .i64 kind,.string site,.int .i64 level,.string remain,.int .i64 cont,.bool order] 29)
 have hb:=Lib.hid (below_alloc w (.cells #[.int .i64 day,.int .i64 kind,.string site,.int .i64 level,.string remain,.int .i64 cont,.bool order] 29))
 have hn1:=Lib.hid hn1
 have hn2:=Lib.hid hn2
 by_cases k0:kind=0
 ·have q0:(kind == 0)=true:=by simp[k0]
  have q1:(kind != 1)=true:=by simp[k0]
  have q3:(kind != 3)=true:=by simp[k0]
  have q5:(kind == 1)=false:=by simp[k0]
  have q6:(kind == 4)=false:=by simp[k0]
  have q7:(kind == 3)=false:=by simp[k0]
  have kk:0≤kind∧kind≤4:=by omega
  have kz:Hid True:=trivial
  by_cases hd:0≤day∧day≤200000
  ·cases h1:nameB remain
   ·have hf:Hid (R=4):=by show _=_;rw[hR.out];unfold Cal.eventE;dsimp only;(repeat' split) <;> first | rfl | (exfalso;grind)
    (try clear k0);(try clear k2);(try clear k3)
    go_enter Tryd.func49,Tryd.ntmps49
    go_wp2_with (first
     |(go_at_call 48;refine (IsName_any _ _ (by first | exact hn1.out | exact hn2.out)).mono ?_;rintro e0 wn ⟨rfl,rfl⟩;(first | rw[h1] | rw[h2]))
     |((first | (go_at_call 37) | (go_at_call 23) | (go_at_call 22) | (go_at_call 31) | (go_at_call 69) | (go_at_call 32));first | refine rin ?_ | refine rout ?_ | refine rany ?_))
    go_ret
    exact⟨ret_int hf.out.symm,hb.out⟩
   cases h2:nameB site
   ·have hf:Hid (R=4):=by show _=_;rw[hR.out];unfold Cal.eventE;dsimp only;(repeat' split) <;> first | rfl | (exfalso;grind)
    (try clear k0);(try clear k2);(try clear k3)
    go_enter Tryd.func49,Tryd.ntmps49
    go_wp2_with (first
     |(go_at_call 48;refine (IsName_any _ _ (by first | exact hn1.out | exact hn2.out)).mono ?_;rintro e0 wn ⟨rfl,rfl⟩;(first | rw[h1] | rw[h2]))
     |((first | (go_at_call 37) | (go_at_call 23) | (go_at_call 22) | (go_at_call 31) | (go_at_call 69) | (go_at_call 32));first | refine rin ?_ | refine rout ?_ | refine rany ?_))
    go_ret
    exact⟨ret_int hf.out.symm,hb.out⟩
   by_cases hl:0≤level∧level≤11
   ·by_cases hc:0≤cont∧cont≤2
    ·cases order
     ·have hf:Hid (R=0):=by show _=_;rw[hR.out];unfold Cal.eventE;dsimp only;(repeat' split) <;> first | rfl | (exfalso;grind)
      (try clear k0);(try clear k2);(try clear k3)
      go_enter Tryd.func49,Tryd.ntmps49
      go_wp2_with (first
       |(go_at_call 48;refine (IsName_any _ _ (by first | exact hn1.out | exact hn2.out)).mono ?_;rintro e0 wn ⟨rfl,rfl⟩;(first | rw[h1] | rw[h2]))
       |((first | (go_at_call 37) | (go_at_call 23) | (go_at_call 22) | (go_at_call 31) | (go_at_call 69) | (go_at_call 32));first | refine rin ?_ | refine rout ?_ | refine rany ?_))
      go_ret
      exact⟨ret_int hf.out.symm,hb.out⟩
     have hf:Hid (R=3):=by show _=_;rw[hR.out];unfold Cal.eventE;dsimp only;(repeat' split) <;> first | rfl | (exfalso;grind)
     (try clear k0);(try clear k2);(try clear k3)
     go_enter Tryd.func49,Tryd.ntmps49
     go_wp2_with (first
      |(go_at_call 48;refine (IsName_any _ _ (by first | exact hn1.out | exact hn2.out)).mono ?_;rintro e0 wn ⟨rfl,rfl⟩;(first | rw[h1] | rw[h2]))
      |((first | (go_at_call 37) | (go_at_call 23) | (go_at_call 22) | (go_at_call 31) | (go_at_call 69) | (go_at_call 32));first | refine rin ?_ | refine rout ?_ | refine rany ?_))
     go_ret
     exact⟨ret_int hf.out.symm,hb.out⟩
    have hf:Hid (R=2):=by show _=_;rw[hR.out];unfold Cal.eventE;dsimp only;(repeat' split) <;> first | rfl | (exfalso;grind)
    (try clear k0);(try clear k2);(try clear k3)
    go_enter Tryd.func49,Tryd.ntmps49
    go_wp2_with (first
     |(go_at_call 48;refine (IsName_any _ _ (by first | exact hn1.out | exact hn2.out)).mono ?_;rintro e0 wn ⟨rfl,rfl⟩;(first | rw[h1] | rw[h2]))
     |((first | (go_at_call 37) | (go_at_call 23) | (go_at_call 22) | (go_at_call 31) | (go_at_call 69) | (go_at_call 32));first | refine rin ?_ | refine rout ?_ | refine rany ?_))
    go_ret
    exact⟨ret_int hf.out.symm,hb.out⟩
   have hf:Hid (R=2):=by show _=_;rw[hR.out];unfold Cal.eventE;dsimp only;(repeat' split) <;> first | rfl | (exfalso;grind)
   (try clear k0);(try clear k2);(try clear k3)
   go_enter Tryd.func49,Tryd.ntmps49
   go_wp2_with (first
    |(go_at_call 48;refine (IsName_any _ _ (by first | exact hn1.out | exact hn2.out)).mono ?_;rintro e0 wn ⟨rfl,rfl⟩;(first | rw[h1] | rw[h2]))
    |((first | (go_at_call 37) | (go_at_call 23) | (go_at_call 22) | (go_at_call 31) | (go_at_call 69) | (go_at_call 32));first | refine rin ?_ | refine rout ?_ | refine rany ?_))
   go_ret
   exact⟨ret_int hf.out.symm,hb.out⟩
  have hf:Hid (R=2):=by show _=_;rw[hR.out];unfold Cal.eventE;dsimp only;(repeat' split) <;> first | rfl | (exfalso;grind)
  (try clear k0);(try clear k2);(try clear k3)
  go_enter Tryd.func49,Tryd.ntmps49
  go_wp2_with (first
   |(go_at_call 48;refine (IsName_any _ _ (by first | exact hn1.out | exact hn2.out)).mono ?_;rintro e0 wn ⟨rfl,rfl⟩;(first | rw[h1] | rw[h2]))
   |((first | (go_at_call 37) | (go_at_call 23) | (go_at_call 22) | (go_at_call 31) | (go_at_call 69) | (go_at_call 32));first | refine rin ?_ | refine rout ?_ | refine rany ?_))
  go_ret
  exact⟨ret_int hf.out.symm,hb.out⟩
 have q0:(kind == 0)=false:=by simp[k0]
 by_cases k2:kind=2
 ·have q2:(kind == 2)=true:=by simp[k2]
  have q1:(kind != 1)=true:=by simp[k2]
  have q3:(kind != 3)=true:=by simp[k2]
  have q5:(kind == 1)=false:=by simp[k2]
  have q6:(kind == 4)=false:=by simp[k2]
  have q7:(kind == 3)=false:=by simp[k2]
  have kk:0≤kind∧kind≤4:=by omega
  by_cases hd:0≤day∧day≤200000
  ·cases h1:nameB remain
   ·have hf:Hid (R=4):=by show _=_;rw[hR.out];unfold Cal.eventE;dsimp only;(repeat' split) <;> first | rfl | (exfalso;grind)
    (try clear k0);(try clear k2);(try clear k3)
    go_enter Tryd.func49,Tryd.ntmps49
    go_wp2_with (first
     |(go_at_call 48;refine (IsName_any _ _ (by first | exact hn1.out | exact hn2.out)).mono ?_;rintro e0 wn ⟨rfl,rfl⟩;(first | rw[h1] | rw[h2]))
     |((first | (go_at_call 37) | (go_at_call 23) | (go_at_call 22) | (go_at_call 31) | (go_at_call 69) | (go_at_call 32));first | refine rin ?_ | refine rout ?_ | refine rany ?_))
    go_ret
    exact⟨ret_int hf.out.symm,hb.out⟩
   cases h2:nameB site
   ·have hf:Hid (R=4):=by show _=_;rw[hR.out];unfold Cal.eventE;dsimp only;(repeat' split) <;> first | rfl | (exfalso;grind)
    (try clear k0);(try clear k2);(try clear k3)
    go_enter Tryd.func49,Tryd.ntmps49
    go_wp2_with (first
     |(go_at_call 48;refine (IsName_any _ _ (by first | exact hn1.out | exact hn2.out)).mono ?_;rintro e0 wn ⟨rfl,rfl⟩;(first | rw[h1] | rw[h2]))
     |((first | (go_at_call 37) | (go_at_call 23) | (go_at_call 22) | (go_at_call 31) | (go_at_call 69) | (go_at_call 32));first | refine rin ?_ | refine rout ?_ | refine rany ?_))
    go_ret
    exact⟨ret_int hf.out.symm,hb.out⟩
   by_cases hl:0≤level∧level≤11
   ·by_cases hc:0≤cont∧cont≤2
    ·cases order
     ·have hf:Hid (R=0):=by show _=_;rw[hR.out];unfold Cal.eventE;dsimp only;(repeat' split) <;> first | rfl | (exfalso;grind)
      (try clear k0);(try clear k2);(try clear k3)
      go_enter Tryd.func49,Tryd.ntmps49
      go_wp2_with (first
       |(go_at_call 48;refine (IsName_any _ _ (by first | exact hn1.out | exact hn2.out)).mono ?_;rintro e0 wn ⟨rfl,rfl⟩;(first | rw[h1] | rw[h2]))
       |((first | (go_at_call 37) | (go_at_call 23) | (go_at_call 22) | (go_at_call 31) | (go_at_call 69) | (go_at_call 32));first | refine rin ?_ | refine rout ?_ | refine rany ?_))
      go_ret
      exact⟨ret_int hf.out.symm,hb.out⟩
     have hf:Hid (R=3):=by show _=_;rw[hR.out];unfold Cal.eventE;dsimp only;(repeat' split) <;> first | rfl | (exfalso;grind)
     (try clear k0);(try clear k2);(try clear k3)
     go_enter Tryd.func49,Tryd.ntmps49
     go_wp2_with (first
      |(go_at_call 48;refine (IsName_any _ _ (by first | exact hn1.out | exact hn2.out)).mono ?_;rintro e0 wn ⟨rfl,rfl⟩;(first | rw[h1] | rw[h2]))
      |((first | (go_at_call 37) | (go_at_call 23) | (go_at_call 22) | (go_at_call 31) | (go_at_call 69) | (go_at_call 32));first | refine rin ?_ | refine rout ?_ | refine rany ?_))
     go_ret
     exact⟨ret_int hf.out.symm,hb.out⟩
    have hf:Hid (R=2):=by show _=_;rw[hR.out];unfold Cal.eventE;dsimp only;(repeat' split) <;> first | rfl | (exfalso;grind)
    (try clear k0);(try clear k2);(try clear k3)
    go_enter Tryd.func49,Tryd.ntmps49
    go_wp2_with (first
     |(go_at_call 48;refine (IsName_any _ _ (by first | exact hn1.out | exact hn2.out)).mono ?_;rintro e0 wn ⟨rfl,rfl⟩;(first | rw[h1] | rw[h2]))
     |((first | (go_at_call 37) | (go_at_call 23) | (go_at_call 22) | (go_at_call 31) | (go_at_call 69) | (go_at_call 32));first | refine rin ?_ | refine rout ?_ | refine rany ?_))
    go_ret
    exact⟨ret_int hf.out.symm,hb.out⟩
   have hf:Hid (R=2):=by show _=_;rw[hR.out];unfold Cal.eventE;dsimp only;(repeat' split) <;> first | rfl | (exfalso;grind)
   (try clear k0);(try clear k2);(try clear k3)
   go_enter Tryd.func49,Tryd.ntmps49
   go_wp2_with (first
    |(go_at_call 48;refine (IsName_any _ _ (by first | exact hn1.out | exact hn2.out)).mono ?_;rintro e0 wn ⟨rfl,rfl⟩;(first | rw[h1] | rw[h2]))
    |((first | (go_at_call 37) | (go_at_call 23) | (go_at_call 22) | (go_at_call 31) | (go_at_call 69) | (go_at_call 32));first | refine rin ?_ | refine rout ?_ | refine rany ?_))
   go_ret
   exact⟨ret_int hf.out.symm,hb.out⟩
  have hf:Hid (R=2):=by show _=_;rw[hR.out];unfold Cal.eventE;dsimp only;(repeat' split) <;> first | rfl | (exfalso;grind)
  (try clear k0);(try clear k2);(try clear k3)
  go_enter Tryd.func49,Tryd.ntmps49
  go_wp2_with (first
   |(go_at_call 48;refine (IsName_any _ _ (by first | exact hn1.out | exact hn2.out)).mono ?_;rintro e0 wn ⟨rfl,rfl⟩;(first | rw[h1] | rw[h2]))
   |((first | (go_at_call 37) | (go_at_call 23) | (go_at_call 22) | (go_at_call 31) | (go_at_call 69) | (go_at_call 32));first | refine rin ?_ | refine rout ?_ | refine rany ?_))
  go_ret
  exact⟨ret_int hf.out.symm,hb.out⟩
 have q2:(kind == 2)=false:=by simp[k2]
 by_cases k3:kind=3
 ·have q3:(kind == 3)=true:=by simp[k3]
  have q4:(kind != 3)=false:=by simp[k3]
  have q1:(kind != 1)=true:=by simp[k3]
  have q5:(kind == 1)=false:=by simp[k3]
  have q6:(kind == 4)=false:=by simp[k3]
  have kk:0≤kind∧kind≤4:=by omega
  by_cases hd:0≤day∧day≤200000
  ·cases h1:nameB remain
   ·have hf:Hid (R=4):=by show _=_;rw[hR.out];unfold Cal.eventE;dsimp only;(repeat' split) <;> first | rfl | (exfalso;grind)
    (try clear k0);(try clear k2);(try clear k3)
    go_enter Tryd.func49,Tryd.ntmps49
    go_wp2_with (first
     |(go_at_call 48;refine (IsName_any _ _ (by first | exact hn1.out | exact hn2.out)).mono ?_;rintro e0 wn ⟨rfl,rfl⟩;(first | rw[h1] | rw[h2]))
     |((first | (go_at_call 37) | (go_at_call 23) | (go_at_call 22) | (go_at_call 31) | (go_at_call 69) | (go_at_call 32));first | refine rin ?_ | refine rout ?_ | refine rany ?_))
    go_ret
    exact⟨ret_int hf.out.symm,hb.out⟩
   by_cases hl:0≤level∧level≤11
   ·by_cases hs0:site.size=0
    ·have he:=isEmpty_yes hs0
     have he2:site.toList=[]:=by simpa using he
     by_cases hc:cont=0
     ·have hcq:(cont != 0)=false:=by simp[hc]
      have hf:Hid (R=0):=by show _=_;rw[hR.out];unfold Cal.eventE;dsimp only;(repeat' split) <;> first | rfl | (exfalso;grind)
      clear hc hs0
      cases order
      ·(try clear k0);(try clear k2);(try clear k3)
       go_enter Tryd.func49,Tryd.ntmps49
       go_wp2_with (first
        |(go_at_call 48;refine (IsName_any _ _ (by first | exact hn1.out | exact hn2.out)).mono ?_;rintro e0 wn ⟨rfl,rfl⟩;(first | rw[h1] | rw[h2]))
        |((first | (go_at_call 37) | (go_at_call 23) | (go_at_call 22) | (go_at_call 31) | (go_at_call 69) | (go_at_call 32));first | refine rin ?_ | refine rout ?_ | refine rany ?_))
       go_ret
       exact⟨ret_int hf.out.symm,hb.out⟩
      (try clear k0);(try clear k2);(try clear k3)
      go_enter Tryd.func49,Tryd.ntmps49
      go_wp2_with (first
       |(go_at_call 48;refine (IsName_any _ _ (by first | exact hn1.out | exact hn2.out)).mono ?_;rintro e0 wn ⟨rfl,rfl⟩;(first | rw[h1] | rw[h2]))
       |((first | (go_at_call 37) | (go_at_call 23) | (go_at_call 22) | (go_at_call 31) | (go_at_call 69) | (go_at_call 32));first | refine rin ?_ | refine rout ?_ | refine rany ?_))
      go_ret
      exact⟨ret_int hf.out.symm,hb.out⟩
     have hcq:(cont != 0)=true:=by simp[hc]
     have hf:Hid (R=3):=by show _=_;rw[hR.out];unfold Cal.eventE;dsimp only;(repeat' split) <;> first | rfl | (exfalso;grind)
     clear hc hs0
     (try clear k0);(try clear k2);(try clear k3)
     go_enter Tryd.func49,Tryd.ntmps49
     go_wp2_with (first
      |(go_at_call 48;refine (IsName_any _ _ (by first | exact hn1.out | exact hn2.out)).mono ?_;rintro e0 wn ⟨rfl,rfl⟩;(first | rw[h1] | rw[h2]))
      |((first | (go_at_call 37) | (go_at_call 23) | (go_at_call 22) | (go_at_call 31) | (go_at_call 69) | (go_at_call 32));first | refine rin ?_ | refine rout ?_ | refine rany ?_))
     go_ret
     exact⟨ret_int hf.out.symm,hb.out⟩
    have he:=isEmpty_no (s:=site) (by omega)
    have he2:¬site.toList=[]:=by intro h;rw[h] at he;cases he
    have hf:Hid (R=3):=by show _=_;rw[hR.out];unfold Cal.eventE;dsimp only;(repeat' split) <;> first | rfl | (exfalso;grind)
    clear hs0
    (try clear k0);(try clear k2);(try clear k3)
    go_enter Tryd.func49,Tryd.ntmps49
    go_wp2_with (first
     |(go_at_call 48;refine (IsName_any _ _ (by first | exact hn1.out | exact hn2.out)).mono ?_;rintro e0 wn ⟨rfl,rfl⟩;(first | rw[h1] | rw[h2]))
     |((first | (go_at_call 37) | (go_at_call 23) | (go_at_call 22) | (go_at_call 31) | (go_at_call 69) | (go_at_call 32));first | refine rin ?_ | refine rout ?_ | refine rany ?_))
    go_ret
    exact⟨ret_int hf.out.symm,hb.out⟩
   have hf:Hid (R=2):=by show _=_;rw[hR.out];unfold Cal.eventE;dsimp only;(repeat' split) <;> first | rfl | (exfalso;grind)
   (try clear k0);(try clear k2);(try clear k3)
   go_enter Tryd.func49,Tryd.ntmps49
   go_wp2_with (first
    |(go_at_call 48;refine (IsName_any _ _ (by first | exact hn1.out | exact hn2.out)).mono ?_;rintro e0 wn ⟨rfl,rfl⟩;(first | rw[h1] | rw[h2]))
    |((first | (go_at_call 37) | (go_at_call 23) | (go_at_call 22) | (go_at_call 31) | (go_at_call 69) | (go_at_call 32));first | refine rin ?_ | refine rout ?_ | refine rany ?_))
   go_ret
   exact⟨ret_int hf.out.symm,hb.out⟩
  have hf:Hid (R=2):=by show _=_;rw[hR.out];unfold Cal.eventE;dsimp only;(repeat' split) <;> first | rfl | (exfalso;grind)
  (try clear k0);(try clear k2);(try clear k3)
  go_enter Tryd.func49,Tryd.ntmps49
  go_wp2_with (first
   |(go_at_call 48;refine (IsName_any _ _ (by first | exact hn1.out | exact hn2.out)).mono ?_;rintro e0 wn ⟨rfl,rfl⟩;(first | rw[h1] | rw[h2]))
   |((first | (go_at_call 37) | (go_at_call 23) | (go_at_call 22) | (go_at_call 31) | (go_at_call 69) | (go_at_call 32));first | refine rin ?_ | refine rout ?_ | refine rany ?_))
  go_ret
  exact⟨ret_int hf.out.symm,hb.out⟩
 have q3:(kind == 3)=false:=by simp[k3]
 have q4:(kind != 3)=true:=by simp[k3]
 by_cases hd:0≤day∧day≤200000
 ·by_cases kk:0≤kind∧kind≤4
  ·cases h1:nameB remain
   ·have hf:Hid (R=4):=by show _=_;rw[hR.out];unfold Cal.eventE;dsimp only;(repeat' split) <;> first | rfl | (exfalso;grind)
    (try clear k0);(try clear k2);(try clear k3)
    go_enter Tryd.func49,Tryd.ntmps49
    go_wp2_with (first
     |(go_at_call 48;refine (IsName_any _ _ (by first | exact hn1.out | exact hn2.out)).mono ?_;rintro e0 wn ⟨rfl,rfl⟩;(first | rw[h1] | rw[h2]))
     |((first | (go_at_call 37) | (go_at_call 23) | (go_at_call 22) | (go_at_call 31) | (go_at_call 69) | (go_at_call 32));first | refine rin ?_ | refine rout ?_ | refine rany ?_))
    go_ret
    exact⟨ret_int hf.out.symm,hb.out⟩
   by_cases hs0:site.size=0
   ·have he:=isEmpty_yes hs0
    have he2:site.toList=[]:=by simpa using he
    by_cases hc:cont=0
    ·have hcq:(cont != 0)=false:=by simp[hc]
     by_cases hl:level=0
     ·have hlq:(level != 0)=false:=by simp[hl]
      by_cases k1:kind=1
      ·have q1:(kind != 1)=false:=by simp[k1]
       have q5:(kind == 1)=true:=by simp[k1]
       have hf:Hid (R=0):=by show _=_;rw[hR.out];unfold Cal.eventE;dsimp only;(repeat' split) <;> first | rfl | (exfalso;grind)
       clear hc hs0 hl k1
       cases order
       ·(try clear k0);(try clear k2);(try clear k3)
        go_enter Tryd.func49,Tryd.ntmps49
        go_wp2_with (first
         |(go_at_call 48;refine (IsName_any _ _ (by first | exact hn1.out | exact hn2.out)).mono ?_;rintro e0 wn ⟨rfl,rfl⟩;(first | rw[h1] | rw[h2]))
         |((first | (go_at_call 37) | (go_at_call 23) | (go_at_call 22) | (go_at_call 31) | (go_at_call 69) | (go_at_call 32));first | refine rin ?_ | refine rout ?_ | refine rany ?_))
        go_ret
        exact⟨ret_int hf.out.symm,hb.out⟩
       (try clear k0);(try clear k2);(try clear k3)
       go_enter Tryd.func49,Tryd.ntmps49
       go_wp2_with (first
        |(go_at_call 48;refine (IsName_any _ _ (by first | exact hn1.out | exact hn2.out)).mono ?_;rintro e0 wn ⟨rfl,rfl⟩;(first | rw[h1] | rw[h2]))
        |((first | (go_at_call 37) | (go_at_call 23) | (go_at_call 22) | (go_at_call 31) | (go_at_call 69) | (go_at_call 32));first | refine rin ?_ | refine rout ?_ | refine rany ?_))
       go_ret
       exact⟨ret_int hf.out.symm,hb.out⟩
      have q1:(kind != 1)=true:=by simp[k1]
      have q5:(kind == 1)=false:=by simp[k1]
      have q6:(kind == 4)=true:=by rw[show kind=4 by omega];rfl
      cases order
      ·have hf:Hid (R=0):=by show _=_;rw[hR.out];unfold Cal.eventE;dsimp only;(repeat' split) <;> first | rfl | (exfalso;grind)
       clear hc hs0 hl k1
       (try clear k0);(try clear k2);(try clear k3)
       go_enter Tryd.func49,Tryd.ntmps49
       go_wp2_with (first
        |(go_at_call 48;refine (IsName_any _ _ (by first | exact hn1.out | exact hn2.out)).mono ?_;rintro e0 wn ⟨rfl,rfl⟩;(first | rw[h1] | rw[h2]))
        |((first | (go_at_call 37) | (go_at_call 23) | (go_at_call 22) | (go_at_call 31) | (go_at_call 69) | (go_at_call 32));first | refine rin ?_ | refine rout ?_ | refine rany ?_))
       go_ret
       exact⟨ret_int hf.out.symm,hb.out⟩
      have hf:Hid (R=3):=by show _=_;rw[hR.out];unfold Cal.eventE;dsimp only;(repeat' split) <;> first | rfl | (exfalso;grind)
      clear hc hs0 hl k1
      (try clear k0);(try clear k2);(try clear k3)
      go_enter Tryd.func49,Tryd.ntmps49
      go_wp2_with (first
       |(go_at_call 48;refine (IsName_any _ _ (by first | exact hn1.out | exact hn2.out)).mono ?_;rintro e0 wn ⟨rfl,rfl⟩;(first | rw[h1] | rw[h2]))
       |((first | (go_at_call 37) | (go_at_call 23) | (go_at_call 22) | (go_at_call 31) | (go_at_call 69) | (go_at_call 32));first | refine rin ?_ | refine rout ?_ | refine rany ?_))
      go_ret
      exact⟨ret_int hf.out.symm,hb.out⟩
     have hlq:(level != 0)=true:=by simp[hl]
     have hf:Hid (R=3):=by show _=_;rw[hR.out];unfold Cal.eventE;dsimp only;(repeat' split) <;> first | rfl | (exfalso;grind)
     by_cases k1:kind=1
     ·have q5:(kind == 1)=true:=by simp[k1]
      clear hc hs0 hl k1
      (try clear k0);(try clear k2);(try clear k3)
      go_enter Tryd.func49,Tryd.ntmps49
      go_wp2_with (first
       |(go_at_call 48;refine (IsName_any _ _ (by first | exact hn1.out | exact hn2.out)).mono ?_;rintro e0 wn ⟨rfl,rfl⟩;(first | rw[h1] | rw[h2]))
       |((first | (go_at_call 37) | (go_at_call 23) | (go_at_call 22) | (go_at_call 31) | (go_at_call 69) | (go_at_call 32));first | refine rin ?_ | refine rout ?_ | refine rany ?_))
      go_ret
      exact⟨ret_int hf.out.symm,hb.out⟩
     have q5:(kind == 1)=false:=by simp[k1]
     have q6:(kind == 4)=true:=by rw[show kind=4 by omega];rfl
     clear hc hs0 hl k1
     (try clear k0);(try clear k2);(try clear k3)
     go_enter Tryd.func49,Tryd.ntmps49
     go_wp2_with (first
      |(go_at_call 48;refine (IsName_any _ _ (by first | exact hn1.out | exact hn2.out)).mono ?_;rintro e0 wn ⟨rfl,rfl⟩;(first | rw[h1] | rw[h2]))
      |((first | (go_at_call 37) | (go_at_call 23) | (go_at_call 22) | (go_at_call 31) | (go_at_call 69) | (go_at_call 32));first | refine rin ?_ | refine rout ?_ | refine rany ?_))
     go_ret
     exact⟨ret_int hf.out.symm,hb.out⟩
    have hcq:(cont != 0)=true:=by simp[hc]
    have hf:Hid (R=3):=by show _=_;rw[hR.out];unfold Cal.eventE;dsimp only;(repeat' split) <;> first | rfl | (exfalso;grind)
    clear hc hs0
    (try clear k0);(try clear k2);(try clear k3)
    go_enter Tryd.func49,Tryd.ntmps49
    go_wp2_with (first
     |(go_at_call 48;refine (IsName_any _ _ (by first | exact hn1.out | exact hn2.out)).mono ?_;rintro e0 wn ⟨rfl,rfl⟩;(first | rw[h1] | rw[h2]))
     |((first | (go_at_call 37) | (go_at_call 23) | (go_at_call 22) | (go_at_call 31) | (go_at_call 69) | (go_at_call 32));first | refine rin ?_ | refine rout ?_ | refine rany ?_))
    go_ret
    exact⟨ret_int hf.out.symm,hb.out⟩
   have he:=isEmpty_no (s:=site) (by omega)
   have he2:¬site.toList=[]:=by intro h;rw[h] at he;cases he
   have hf:Hid (R=3):=by show _=_;rw[hR.out];unfold Cal.eventE;dsimp only;(repeat' split) <;> first | rfl | (exfalso;grind)
   clear hs0
   (try clear k0);(try clear k2);(try clear k3)
   go_enter Tryd.func49,Tryd.ntmps49
   go_wp2_with (first
    |(go_at_call 48;refine (IsName_any _ _ (by first | exact hn1.out | exact hn2.out)).mono ?_;rintro e0 wn ⟨rfl,rfl⟩;(first | rw[h1] | rw[h2]))
    |((first | (go_at_call 37) | (go_at_call 23) | (go_at_call 22) | (go_at_call 31) | (go_at_call 69) | (go_at_call 32));first | refine rin ?_ | refine rout ?_ | refine rany ?_))
   go_ret
   exact⟨ret_int hf.out.symm,hb.out⟩
  have hf:Hid (R=15):=by show _=_;rw[hR.out];unfold Cal.eventE;dsimp only;(repeat' split) <;> first | rfl | (exfalso;grind)
  (try clear k0);(try clear k2);(try clear k3)
  go_enter Tryd.func49,Tryd.ntmps49
  go_wp2_with (first
   |(go_at_call 48;refine (IsName_any _ _ (by first | exact hn1.out | exact hn2.out)).mono ?_;rintro e0 wn ⟨rfl,rfl⟩;(first | rw[h1] | rw[h2]))
   |((first | (go_at_call 37) | (go_at_call 23) | (go_at_call 22) | (go_at_call 31) | (go_at_call 69) | (go_at_call 32));first | refine rin ?_ | refine rout ?_ | refine rany ?_))
  go_ret
  exact⟨ret_int hf.out.symm,hb.out⟩
 have hf:Hid (R=2):=by show _=_;rw[hR.out];unfold Cal.eventE;dsimp only;(repeat' split) <;> first | rfl | (exfalso;grind)
 (try clear k0);(try clear k2);(try clear k3)
 go_enter Tryd.func49,Tryd.ntmps49
 go_wp2_with (first
  |(go_at_call 48;refine (IsName_any _ _ (by first | exact hn1.out | exact hn2.out)).mono ?_;rintro e0 wn ⟨rfl,rfl⟩;(first | rw[h1] | rw[h2]))
  |((first | (go_at_call 37) | (go_at_call 23) | (go_at_call 22) | (go_at_call 31) | (go_at_call 69) | (go_at_call 32));first | refine rin ?_ | refine rout ?_ | refine rany ?_))
 go_ret
 exact⟨ret_int hf.out.symm,hb.out⟩
end Go.Proofs.YtcnfhnndppollaaDoor
namespace Go.Proofs.YtcnfhnndppollaaDoor
open Go Go.RowKit
def NxP (w:World) (y:Yd) (l:List Lot) (en:Ending) (w':World):Prop :=
 (∃ i:Int,i≠0∧en=.returned (.tuple #[.slice none 0 0,.int .i64 i])∧Below w.heap.size w w') ∨
 (∃ (A:Option Addr) (c:Nat) (l':List Lot),en=.returned (.tuple #[.slice A l'.length c,.int .i64 0])∧LotsR w' A y l'∧l'.length≤c∧l'.length≤l.length+1∧Below w.heap.size w w')
theorem nextR_any (S R:Option Addr) (c d:Nat) (y:Yd) (A:Option Addr) (ac:Nat) (l:List Lot) (last:Int) (e:Ev) (w:World) (hY:YdIn w S R y) (hok:YdR y) (hL:LotsR w A y l) (hcap:l.length≤ac) (hl:l.length<1000000) (hn1:e.remain.size≤maxLen) (hn2:e.site.size≤maxLen) :
  Calls Tryd.prog 33 #[.agg #[.slice S y.sites.length c,.slice R y.rests.length d,.int .i64 y.c0,.int .i64 y.c1,.int .i64 y.c2],.slice A l.length ac,.int .i64 last,.agg #[.int .i64 e.day,.int .i64 e.kind,.string e.site,.int .i64 e.level,.string e.remain,.int .i64 e.cont,.bool e.order]] w (NxP w y l):=by
 have hI:=Lib.hid (RfI.start w S R c d y e)
 have hYz:=Lib.hid (fun w' (h:Below w.heap.size w w')=>hY.below h)
 have hLz:=Lib.hid (fun w' (h:Below w.heap.size w w')=>hL.below h)
 have hokz:=Lib.hid hok
 have hn1:=Lib.hid hn1
 have hn2:=Lib.hid hn2
 replace hL:=Lib.hid hL
 clear hY hok
 (obtain⟨y0,y1,y2,y3⟩:=hI.out.y.c4;have y4:=hI.out.y.c 4 _ rfl;obtain⟨e0,e1,e2,e3⟩:=hI.out.e.c4;have e4:=hI.out.e.c 4 _ rfl;have e5:=hI.out.e.c 5 _ rfl;have e6:=hI.out.e.c 6 _ rfl)
 by_cases h0:Cal.eventE e=0
 ·have h0z:=Lib.hid h0
  clear h0
  by_cases hd:e.day<last
  ·have hdq:=decide_eq_true hd
   go_enter Tryd.func33,Tryd.ntmps33
   go_wp2_with (go_at_call 49;clear y0 y1 y2 y3 y4 e0 e1 e2 e3 e4 e5 e6;refine (CheckEventR_any e _ hn1.out hn2.out).mono ?_;rintro e9 wn ⟨rfl,hbn⟩;rw[h0z.out];replace hI:=Lib.hid (hI.out.below hbn);clear hbn;(obtain⟨y0,y1,y2,y3⟩:=hI.out.y.c4;have y4:=hI.out.y.c 4 _ rfl;obtain⟨e0,e1,e2,e3⟩:=hI.out.e.c4;have e4:=hI.out.e.c 4 _ rfl;have e5:=hI.out.e.c 5 _ rfl;have e6:=hI.out.e.c 6 _ rfl))
   go_ret2
   exact .inl ⟨9,by decide,rfl,hI.out.bel⟩
  have hdq:=decide_eq_false hd
  by_cases hk:e.kind=0∨e.kind=2
  ·have hkz:=Lib.hid hk
   have hkq:(e.kind == 0)=true∨((e.kind == 0)=false∧(e.kind == 2)=true):=by
    rcases hk with hk | hk
    ·left;simp[hk]
    right;simp[hk]
   clear hk
   rcases hkq with q0 | ⟨q0,q2⟩
   ·go_enter Tryd.func33,Tryd.ntmps33
    go_upto_region 10 with (first
     |(go_at_call 49;clear y0 y1 y2 y3 y4 e0 e1 e2 e3 e4 e5 e6;refine (CheckEventR_any e _ hn1.out hn2.out).mono ?_;rintro e9 wn ⟨rfl,hbn⟩;rw[h0z.out];replace hI:=Lib.hid (hI.out.below hbn);clear hbn;(obtain⟨y0,y1,y2,y3⟩:=hI.out.y.c4;have y4:=hI.out.y.c 4 _ rfl;obtain⟨e0,e1,e2,e3⟩:=hI.out.e.c4;have e4:=hI.out.e.c 4 _ rfl;have e5:=hI.out.e.c 5 _ rfl;have e6:=hI.out.e.c 6 _ rfl))
     |(go_at_call 50;clear y0 y1 y2 y3 y4 e0 e1 e2 e3 e4 e5 e6;refine (putErrR_any S R c d y A ac l e _ (hYz.out _ hI.out.bel) hokz.out (hLz.out _ hI.out.bel).rows (hLz.out _ hI.out.bel).len h0z.out hkz.out).mono ?_;rintro e9 wm ⟨i,rfl,hi,hbm⟩;have hi:=Lib.hid hi;replace hI:=Lib.hid (hI.out.below hbm);clear hbm;(obtain⟨y0,y1,y2,y3⟩:=hI.out.y.c4;have y4:=hI.out.y.c 4 _ rfl;obtain⟨e0,e1,e2,e3⟩:=hI.out.e.c4;have e4:=hI.out.e.c 4 _ rfl;have e5:=hI.out.e.c 5 _ rfl;have e6:=hI.out.e.c 6 _ rfl)))
    by_cases hz:i=0
    ·have hs:=Lib.hid (hi.out hz)
     subst hz
     go_wp2_with (first
      |(go_at_call 53;clear y0 y1 y2 y3 y4 e0 e1 e2 e3 e4 e5 e6;refine (lotOfR_put S R c d y A ac l e _ (hYz.out _ hI.out.bel) h0z.out hkz.out hs.out).mono ?_;rintro e9 wk ⟨t,rfl,htn,hto,hbk⟩;have hto:=Lib.hid hto;replace hI:=Lib.hid (hI.out.below hbk);clear hbk htn;(obtain⟨y0,y1,y2,y3⟩:=hI.out.y.c4;have y4:=hI.out.y.c 4 _ rfl;obtain⟨e0,e1,e2,e3⟩:=hI.out.e.c4;have e4:=hI.out.e.c 4 _ rfl;have e5:=hI.out.e.c 5 _ rfl;have e6:=hI.out.e.c 6 _ rfl))
      |(go_at_call 52;clear y0 y1 y2 y3 y4 e0 e1 e2 e3 e4 e5 e6;refine (withR_any A ac l t _ (hL.out.rows.below hI.out.bel) hL.out.len hcap).mono ?_;rintro e9 wj ⟨A9,c9,l9,rfl,hr9,hc9,hl9,hm9,hbj⟩;have hm9:=Lib.hid hm9;have hr9:=Lib.hid hr9;replace hI:=Lib.hid (hI.out.below hbj);clear hbj))
     go_ret2
     exact .inr ⟨A9,c9,l9,rfl,⟨hr9.out,by omega,fun x hx=>by rcases hm9.out x hx with rfl | h;exact hto.out;exact hL.out.ok x h⟩,hc9,hl9,hI.out.bel⟩
    have hzq:(i != 0)=true:=by simp[hz]
    have hz:=Lib.hid hz
    go_wp2_with fail
    go_ret2
    exact .inl ⟨i,hz.out,rfl,hI.out.bel⟩
   go_enter Tryd.func33,Tryd.ntmps33
   go_upto_region 10 with (first
    |(go_at_call 49;clear y0 y1 y2 y3 y4 e0 e1 e2 e3 e4 e5 e6;refine (CheckEventR_any e _ hn1.out hn2.out).mono ?_;rintro e9 wn ⟨rfl,hbn⟩;rw[h0z.out];replace hI:=Lib.hid (hI.out.below hbn);clear hbn;(obtain⟨y0,y1,y2,y3⟩:=hI.out.y.c4;have y4:=hI.out.y.c 4 _ rfl;obtain⟨e0,e1,e2,e3⟩:=hI.out.e.c4;have e4:=hI.out.e.c 4 _ rfl;have e5:=hI.out.e.c 5 _ rfl;have e6:=hI.out.e.c 6 _ rfl))
    |(go_at_call 50;clear y0 y1 y2 y3 y4 e0 e1 e2 e3 e4 e5 e6;refine (putErrR_any S R c d y A ac l e _ (hYz.out _ hI.out.bel) hokz.out (hLz.out _ hI.out.bel).rows (hLz.out _ hI.out.bel).len h0z.out hkz.out).mono ?_;rintro e9 wm ⟨i,rfl,hi,hbm⟩;have hi:=Lib.hid hi;replace hI:=Lib.hid (hI.out.below hbm);clear hbm;(obtain⟨y0,y1,y2,y3⟩:=hI.out.y.c4;have y4:=hI.out.y.c 4 _ rfl;obtain⟨e0,e1,e2,e3⟩:=hI.out.e.c4;have e4:=hI.out.e.c 4 _ rfl;have e5:=hI.out.e.c 5 _ rfl;have e6:=hI.out.e.c 6 _ rfl)))
   by_cases hz:i=0
   ·have hs:=Lib.hid (hi.out hz)
    subst hz
    go_wp2_with (first
     |(go_at_call 53;clear y0 y1 y2 y3 y4 e0 e1 e2 e3 e4 e5 e6;refine (lotOfR_put S R c d y A ac l e _ (hYz.out _ hI.out.bel) h0z.out hkz.out hs.out).mono ?_;rintro e9 wk ⟨t,rfl,htn,hto,hbk⟩;have hto:=Lib.hid hto;replace hI:=Lib.hid (hI.out.below hbk);clear hbk htn;(obtain⟨y0,y1,y2,y3⟩:=hI.out.y.c4;have y4:=hI.out.y.c 4 _ rfl;obtain⟨e0,e1,e2,e3⟩:=hI.out.e.c4;have e4:=hI.out.e.c 4 _ rfl;have e5:=hI.out.e.c 5 _ rfl;have e6:=hI.out.e.c 6 _ rfl))
     |(go_at_call 52;clear y0 y1 y2 y3 y4 e0 e1 e2 e3 e4 e5 e6;refine (withR_any A ac l t _ (hL.out.rows.below hI.out.bel) hL.out.len hcap).mono ?_;rintro e9 wj ⟨A9,c9,l9,rfl,hr9,hc9,hl9,hm9,hbj⟩;have hm9:=Lib.hid hm9;have hr9:=Lib.hid hr9;replace hI:=Lib.hid (hI.out.below hbj);clear hbj))
    go_ret2
    exact .inr ⟨A9,c9,l9,rfl,⟨hr9.out,by omega,fun x hx=>by rcases hm9.out x hx with rfl | h;exact hto.out;exact hL.out.ok x h⟩,hc9,hl9,hI.out.bel⟩
   have hzq:(i != 0)=true:=by simp[hz]
   have hz:=Lib.hid hz
   go_wp2_with fail
   go_ret2
   exact .inl ⟨i,hz.out,rfl,hI.out.bel⟩
  have hkz:=Lib.hid hk
  have q0:(e.kind == 0)=false:=by simp;omega
  have q2:(e.kind == 2)=false:=by simp;omega
  clear hk
  go_enter Tryd.func33,Tryd.ntmps33
  go_upto_region 10 with (first
   |(go_at_call 49;clear y0 y1 y2 y3 y4 e0 e1 e2 e3 e4 e5 e6;refine (CheckEventR_any e _ hn1.out hn2.out).mono ?_;rintro e9 wn ⟨rfl,hbn⟩;rw[h0z.out];replace hI:=Lib.hid (hI.out.below hbn);clear hbn;(obtain⟨y0,y1,y2,y3⟩:=hI.out.y.c4;have y4:=hI.out.y.c 4 _ rfl;obtain⟨e0,e1,e2,e3⟩:=hI.out.e.c4;have e4:=hI.out.e.c 4 _ rfl;have e5:=hI.out.e.c 5 _ rfl;have e6:=hI.out.e.c 6 _ rfl))
   |(go_at_call 51;clear y0 y1 y2 y3 y4 e0 e1 e2 e3 e4 e5 e6;refine (takeErrR_any S R c d y A ac l e _ (hYz.out _ hI.out.bel) hokz.out (hLz.out _ hI.out.bel) h0z.out hkz.out).mono ?_;rintro e9 wm ⟨i,rfl,hi,hbm⟩;have hi:=Lib.hid hi;replace hI:=Lib.hid (hI.out.below hbm);clear hbm;(obtain⟨y0,y1,y2,y3⟩:=hI.out.y.c4;have y4:=hI.out.y.c 4 _ rfl;obtain⟨e0,e1,e2,e3⟩:=hI.out.e.c4;have e4:=hI.out.e.c 4 _ rfl;have e5:=hI.out.e.c 5 _ rfl;have e6:=hI.out.e.c 6 _ rfl)))
  by_cases hz:i=0
  ·have hs:=Lib.hid (hi.out hz)
   subst hz
   go_wp2_with (first
    |(go_at_call 53;clear y0 y1 y2 y3 y4 e0 e1 e2 e3 e4 e5 e6;refine (lotOfR_take S R c d y A ac l e _ (hLz.out _ hI.out.bel) h0z.out hkz.out hs.out).mono ?_;rintro e9 wk ⟨t,rfl,htn,hto,hbk⟩;have hto:=Lib.hid hto;replace hI:=Lib.hid (hI.out.below hbk);clear hbk htn;(obtain⟨y0,y1,y2,y3⟩:=hI.out.y.c4;have y4:=hI.out.y.c 4 _ rfl;obtain⟨e0,e1,e2,e3⟩:=hI.out.e.c4;have e4:=hI.out.e.c 4 _ rfl;have e5:=hI.out.e.c 5 _ rfl;have e6:=hI.out.e.c 6 _ rfl))
    |(go_at_call 52;clear y0 y1 y2 y3 y4 e0 e1 e2 e3 e4 e5 e6;refine (withR_any A ac l t _ (hL.out.rows.below hI.out.bel) hL.out.len hcap).mono ?_;rintro e9 wj ⟨A9,c9,l9,rfl,hr9,hc9,hl9,hm9,hbj⟩;have hm9:=Lib.hid hm9;have hr9:=Lib.hid hr9;replace hI:=Lib.hid (hI.out.below hbj);clear hbj))
   go_ret2
   exact .inr ⟨A9,c9,l9,rfl,⟨hr9.out,by omega,fun x hx=>by rcases hm9.out x hx with rfl | h;exact hto.out;exact hL.out.ok x h⟩,hc9,hl9,hI.out.bel⟩
  have hzq:(i != 0)=true:=by simp[hz]
  have hz:=Lib.hid hz
  go_wp2_with fail
  go_ret2
  exact .inl ⟨i,hz.out,rfl,hI.out.bel⟩
 have h0q:(Cal.eventE e != 0)=true:=by simp[h0]
 have h0z:=Lib.hid h0
 clear h0
 go_enter Tryd.func33,Tryd.ntmps33
 go_wp2_with (go_at_call 49;clear y0 y1 y2 y3 y4 e0 e1 e2 e3 e4 e5 e6;refine (CheckEventR_any e _ hn1.out hn2.out).mono ?_;rintro e9 wn ⟨rfl,hbn⟩;replace hI:=Lib.hid (hI.out.below hbn);clear hbn)
 go_ret2
 exact .inl ⟨_,h0z.out,rfl,hI.out.bel⟩
def RpP (w:World) (en:Ending) (w':World):Prop:=∃ (v:Value) (a b:Int),en=.returned (.tuple #[v,.int .i64 a,.int .i64 b])∧Below w.heap.size w w'
structure RpI (w:World) (S R:Option Addr) (c d:Nat) (y:Yd) (A:Option Addr) (ac:Nat) (lots:List Lot) (k:Nat) (W:World):Prop where
 yb:BoxAt W w.heap.size [.slice S y.sites.length c,.slice R y.rests.length d,.int .i64 y.c0,.int .i64 y.c1,.int .i64 y.c2]
 ls:LotsR W A y lots
 cap:lots.length≤ac
 len:lots.length≤k
 bel:Below w.heap.size w W
theorem RpI.below {w:World} {S R:Option Addr} {c d:Nat} {y:Yd} {A:Option Addr} {ac:Nat} {lots:List Lot} {k:Nat} {W W':World} (h:RpI w S R c d y A ac lots k W) (hb:Below W.heap.size W W'):RpI w S R c d y A ac lots k W':=⟨h.yb.below hb,h.ls.below hb,h.cap,h.len,below_step h.bel hb⟩
theorem ReplayR_any (S R:Option Addr) (c d:Nat) (y:Yd) (E:Option Addr) (ec:Nat) (l:List Ev) (w:World) (hY:YdIn w S R y) (hok:YdR y) (hE:EvIn w E l) :
  Calls Tryd.prog 16 #[.agg #[.slice S y.sites.length c,.slice R y.rests.length d,.int .i64 y.c0,.int .i64 y.c1,.int .i64 y.c2],.slice E l.length ec] w (RpP w):=by
 have hll:=hE.len
 have hb0:=below_alloc w (.cells #[.slice S y.sites.length c,.slice R y.rests.length d,.int .i64 y.c0,.int .i64 y.c1,.int .i64 y.c2] 26)
 have hI:Hid (RpI w S R c d y none 0 [] 0 (w.alloc (.cells #[.slice S y.sites.length c,.slice R y.rests.length d,.int .i64 y.c0,.int .i64 y.c1,.int .i64 y.c2] 26))):=⟨BoxAt.new w #[.slice S y.sites.length c,.slice R y.rests.length d,.int .i64 y.c0,.int .i64 y.c1,.int .i64 y.c2] _,⟨RowsAt.nil _ _ _,Nat.zero_le _,fun t ht=>by cases ht⟩,Nat.le_refl _,Nat.le_refl _,hb0⟩
 have hYz:=Lib.hid (fun w' (h:Below w.heap.size w w')=>hY.below h)
 have hEz:=Lib.hid (fun w' (h:Below w.heap.size w w')=>hE.below h)
 have hokz:=Lib.hid hok
 clear hY hE hok hb0
 by_cases h300:300<(l.length:Int)
 ·go_enter Tryd.func16,Tryd.ntmps16
  go_wp2_with fail
  refine bodyPost_ret (results_tmp3 rfl _ _ _) rfl ?_
  exact⟨_,_,_,rfl,hI.out.bel⟩
 go_enter Tryd.func16,Tryd.ntmps16
 go_wp2_with fail
 generalize w.alloc (.cells #[.slice S y.sites.length c,.slice R y.rests.length d,.int .i64 y.c0,.int .i64 y.c1,.int .i64 y.c2] 26)=w1 at *
 go_loopw [7,8,9,10,11] (fun v la i _ _ wr=>∃ (k:Nat) (A:Option Addr) (ac:Nat) (lots:List Lot) (last:Int),k≤l.length∧v=.slice A lots.length ac∧la=.int .i64 last∧i=.int .i64 k∧Hid (RpI w S R c d y A ac lots k wr)) (fun _ _ i _ _ _=>l.length-(intOf i).toNat)
 case atStart=>exact⟨0,none,0,[],0,Nat.zero_le _,rfl,rfl,rfl,hI⟩
 case round =>
  clear hI
  obtain⟨k,A,ac,lots,last,hk,rfl,rfl,rfl,hI⟩:=hrel
  by_cases hlt:k<l.length
  ·have hkk:(k:Int)<(l.length:Int):=by omega
   have hk':l[k]?=some l[k]:=List.getElem?_eq_getElem hlt
   have hnm:=Lib.hid ((hEz.out _ hI.out.bel).nm _ (List.getElem_mem hlt))
   have her:=Lib.hid (fun W (h:Below w.heap.size w W)=>ev_at (hEz.out W h).rows hk')
   generalize l[k]=e at *
   clear hk'
   obtain⟨b,o,hS2,hbl,e0,e1,e2,e3,e4,e5,e6⟩:=her.out _ hI.out.bel
   subst hS2
   go_upto_region 8 with fail
   have hbw:=Lib.hid hI.out.bel
   have hlen:=hI.out.len
   have hnx:=Lib.hid (fun W (h:Below wr.heap.size wr W)=>nextR_any S R c d y A ac lots last e W (hYz.out W (below_step hbw.out h)) hokz.out (hI.out.ls.below h) hI.out.cap (by omega) hnm.out.1 hnm.out.2)
   (obtain⟨y0,y1,y2,y3⟩:=hI.out.yb.c4;have y4:=hI.out.yb.c 4 _ rfl)
   refine wp_region_held_drew (S:=Sx wr [(w.heap.size,0,.slice S y.sites.length c),(w.heap.size,1,.slice R y.rests.length d),(w.heap.size,2,.int .i64 y.c0),(w.heap.size,3,.int .i64 y.c1),(w.heap.size,4,.int .i64 y.c2),(b,o+k*7,.int .i64 e.day),(b,o+k*7+1,.int .i64 e.kind),(b,o+k*7+2,.string e.site),(b,o+k*7+3,.int .i64 e.level),(b,o+k*7+4,.string e.remain),(b,o+k*7+5,.int .i64 e.cont),(b,o+k*7+6,.bool e.order)]) (by kernel_rfl) (Sx.mk (by simp only[cs_iff_cons];exact⟨y0,y1,y2,y3,y4,e0,e1,e2,e3,e4,e5,e6,cs_nil _⟩) (Below.refl _ _)).drew (fun hHeld=>?_)
   clear y0 y1 y2 y3 y4 e0 e1 e2 e3 e4 e5 e6
   refine tkHx 0 22 ?_
   refine tkHx 1 23 ?_
   refine tkHx 2 24 ?_
   refine tkHx 3 25 ?_
   refine tkHx 4 26 ?_
   refine tkHx 5 27 ?_
   refine tkHx 6 28 ?_
   (refine ratHx 7 (fun K hK=>?_);go_simp)
   refine (hnx.out _ hHeld.bel).mono ?_
   rintro e9 wn (⟨i,hi,rfl,hbn⟩ | ⟨A9,c9,l9,rfl,hl9,hc9,hn9,hbn⟩)
   ·go_simp
    (refine hK.out _ _ (hHeld.step hbn) (fun hHeld=>?_);clear hK K;(try simp only[apS,apN,siA,scZ,scS]))
    refine tkHx 8 21 ?_
    refine tkHx 9 30 ?_
    refine tkHx 10 31 ?_
    refine tkHx 11 10 ?_
    refine tkHx 12 11 ?_
    refine wpAnyH_done (by kernel_rfl) ?_ _
    have hzq:(i != 0)=true:=by simp[hi]
    have hb9:=Lib.hid (below_step hbw.out hHeld.bel)
    clear hHeld
    go_wp2_with fail
    refine bodyPost_ret (results_tmp3 rfl _ _ _) rfl ?_
    exact⟨_,_,_,rfl,hb9.out⟩
   go_simp
   have hl9:=Lib.hid hl9
   (refine hK.out _ _ (hHeld.step hbn) (fun hHeld=>?_);clear hK K;(try simp only[apS,apN,siA,scZ,scS]))
   refine tkHx 8 21 ?_
   refine tkHx 9 30 ?_
   refine tkHx 10 31 ?_
   refine tkHx 11 10 ?_
   refine tkHx 12 11 ?_
   refine wpAnyH_done (by kernel_rfl) ?_ _
   have hI9:Hid (RpI w S R c d y A9 c9 l9 (k+1) wn):=⟨hI.out.yb.below hHeld.bel,hl9.out,hc9,by omega,below_step hbw.out hHeld.bel⟩
   clear hHeld hI hnx
   obtain⟨b',o',hS3,hbl,e0,e1,e2,e3,e4,e5,e6⟩:=her.out _ hI9.out.bel
   cases hS3
   go_wp2_with fail
   go_quiet (fail)
   go_wp2_with fail
   go_roundw
   case rel=>exact⟨k+1,A9,c9,l9,e.day,by omega,rfl,rfl,by go_num,hI9.out.below (below_drewN (Below.refl _ _) _)⟩
   case measure=>simp[intOf];omega
  obtain rfl:k=l.length:=by omega
  go_wp2_with fail
  refine bodyPost_ret (results_tmp3 rfl _ _ _) rfl ?_
  exact⟨_,_,_,rfl,hI.out.bel⟩
def ChR (w:World) (en:Ending) (w':World):Prop:=∃ i:Int,en=.returned (.int .i64 i)∧Below w.heap.size w w'
theorem CheckR_any (S R:Option Addr) (c d:Nat) (y:Yd) (E:Option Addr) (ec:Nat) (l:List Ev) (w:World) (hY:YdIn w S R y) (hE:EvIn w E l) :
  Calls Tryd.prog 7 #[.agg #[.slice S y.sites.length c,.slice R y.rests.length d,.int .i64 y.c0,.int .i64 y.c1,.int .i64 y.c2],.slice E l.length ec] w (ChR w):=by
 have hb0:=Lib.hid (below_alloc w (.cells #[.slice S y.sites.length c,.slice R y.rests.length d,.int .i64 y.c0,.int .i64 y.c1,.int .i64 y.c2] 26))
 have hy:=Lib.hid (BoxAt.new w #[.slice S y.sites.length c,.slice R y.rests.length d,.int .i64 y.c0,.int .i64 y.c1,.int .i64 y.c2] 26)
 have hck:=Lib.hid (fun W (h:Below w.heap.size w W)=>CheckYardR_any S R c d y W (hY.below h))
 have hrp:=Lib.hid (fun W (h:Below w.heap.size w W) hok=>ReplayR_any S R c d y E ec l W (hY.below h) hok (hE.below h))
 clear hY hE
 obtain⟨y0,y1,y2,y3⟩:=hy.out.c4;have y4:=hy.out.c 4 _ rfl
 go_enter Tryd.func7,Tryd.ntmps7
 go_upto_region 2 with (go_at_call 15;clear y0 y1 y2 y3 y4;refine (hck.out _ hb0.out).mono ?_;rintro e9 wn ⟨i,rfl,hi,hbn⟩;replace hy:=Lib.hid (hy.out.below hbn);replace hb0:=Lib.hid (below_step hb0.out hbn);have hi:=Lib.hid hi;clear hbn)
 obtain⟨y0,y1,y2,y3⟩:=hy.out.c4;have y4:=hy.out.c 4 _ rfl
 by_cases hz:i=0
 ·have hok:=Lib.hid (hi.out hz)
  subst hz
  go_wp2_with (go_at_call 16;clear y0 y1 y2 y3 y4;refine (hrp.out _ hb0.out hok.out).mono ?_;rintro e9 wm ⟨v,a,b,rfl,hbm⟩;replace hb0:=Lib.hid (below_step hb0.out hbm);clear hbm)
  go_ret
  exact⟨b,rfl,hb0.out⟩
 have hzq:(i != 0)=true:=by simp[hz]
 clear hz
 go_wp2_with fail
 go_ret
 exact⟨i,rfl,hb0.out⟩
end Go.Proofs.YtcnfhnndppollaaDoor
namespace Go.Proofs.YtcnfhnndppollaaDoor
open Go Go.RowKit Go.Shelf Go.Maps
attribute [local go_sem] Oper.semAt_some
structure FrK where
 sb:Nat
 bb:Nat
 cb:Nat
 B:Nat
 M:Nat
 S:Option Addr
 R:Option Addr
 c:Nat
 d:Nat
 y:Yd
 A:Option Addr
 cap:Nat
 bk:Bk
 s:Site
 cont:Int
structure FrInv (K:FrK) (i:Nat) (W:World):Prop where
 le:(i:Int)≤K.s.room
 s:BoxAt W K.sb [.string K.s.name,.int .i64 K.s.kind,.int .i64 K.s.soil,.int .i64 K.s.depth,.int .i64 K.s.step,.int .i64 K.s.room]
 b:BoxAt W K.bb [.pointer (some ⟨K.B,0,none⟩)]
 c:BoxAt W K.cb [.int .i64 K.cont]
 bk:BkR W K.B K.M K.S K.R K.c K.d K.y K.A K.cap K.bk
def FrStep (K:FrK) (i:Nat) (X Y:World):Prop:=(i:Int)<K.s.room∧Cal.placeE K.y K.bk.stays K.s.name i K.cont≠0∧Below X.heap.size X Y
def FrAsk (K:FrK) (i:Nat) (X Y:World):Prop:=(i:Int)<K.s.room∧Cal.placeE K.y K.bk.stays K.s.name i K.cont=0∧Below X.heap.size X Y
def FrPost (N:Int) (J:Nat→World→Prop) (Jx:World→Prop) (e:Ending) (W':World):Prop:=(∃ v,e=.returned v)∧((∃ s:Nat,(s:Int)=N∧J s W')∨Jx W')
theorem free_raw (K:FrK) (r0:1≤K.s.room) (r1:K.s.room≤12) (c0:0≤K.cont) (c1:K.cont≤2) (n:Nat) :
  SeqRaw Fence.wide n Tryd.prog 38 #[.pointer (some ⟨K.sb,0,none⟩),.pointer (some ⟨K.bb,0,none⟩),.pointer (some ⟨K.cb,0,none⟩)]
   (fun i:Nat=>#[.int .i64 i]) (fun i=>i+1) (FrInv K) (FrStep K) (FrAsk K) (fun i=>(i:Int)=K.s.room) 0:=by
 intro l J Jx W hInv hStep hAsk h0
 show CallsIn Fence.wide n Tryd.prog 38 _ W (FrPost K.s.room J Jx)
 refine callsIn_of_wp Tryd.func38 rfl trivial ?_ rfl
 simp only[Tryd.ntmps38,List.size_toArray,List.length_cons,List.length_nil,Nat.reduceAdd,Nat.reduceSub,Array.replicate_succ,Array.replicate_zero,List.push_toArray,List.append_toArray,List.nil_append,List.cons_append]
 have hf0:=(hInv _ _ h0).s.c 5 _ rfl
 have hInv:=Lib.hid hInv
 have hAsk:=Lib.hid hAsk
 have hStep:=Lib.hid hStep
 gi_wp2
 clear hf0
 gi_loopw [5,8] (fun _ v wr=>∃ k:Nat,(k:Int)≤K.s.room∧v=.int .i64 k∧J k wr) (fun _ v _=>(K.s.room-intOf v).toNat)
 case atStart=>exact⟨0,by omega,rfl,h0⟩
 case round =>
  obtain⟨k,hk,rfl,hJ⟩:=hrel
  clear h0
  by_cases hlt:(k:Int)<K.s.room
  ·have hi:=hInv.out _ _ hJ
   have s0:=hi.s.c 0 _ rfl;have b0:=hi.b.c 0 _ rfl;have d0:=hi.c.c 0 _ rfl
   have hpl:=Lib.hid (place_any K.B K.M K.S K.R K.c K.d K.y K.A K.cap K.bk K.s.name k K.cont wr hi.bk (by omega) (by omega) c0 c1)
   have hst:=Lib.hid (fun w'=>hStep.out k wr w' hJ)
   have hask:=Lib.hid (fun w'=>hAsk.out k wr w' hJ)
   clear hi hJ hInv hAsk hStep
   by_cases hz:Cal.placeE K.y K.bk.stays K.s.name k K.cont=0
   ·have hzz:=Lib.hid hz
    rw[hz] at hpl
    clear hz
    gi_wp2
    refine⟨trivial,fun h=>(by cases h),?_⟩
    refine (callsIn_wide.2 hpl.out).mono ?_
    clear s0 b0 d0 hpl hst
    rintro e w1 ⟨rfl,hb1⟩
    obtain⟨fn,tmps,assign,body,hy,hR⟩:=hask.out w1 ⟨hlt,hzz.out,hb1⟩
    clear hb1 hask hzz
    gi_wp2
    refine⟨fun h=>(by cases h),?_⟩
    refine hR.mono ?_
    clear hy hR
    rintro e w2 (⟨rfl,hJ2⟩ | ⟨rfl,hJx⟩)
    ·have hJ2:=Lib.hid hJ2
     gi_wp2
     go_roundw
     case rel=>exact⟨k+1,by omega,by go_num,hJ2.out⟩
     case measure=>simp[intOf];omega
    have hJx:=Lib.hid hJx
    gi_wp2
    refine bodyPost_ret (results_none rfl _ _ _) rfl ?_
    exact⟨⟨_,rfl⟩,.inr hJx.out⟩
   have hzz:=Lib.hid hz
   obtain⟨pe,hpe⟩:∃ pe,pe=Cal.placeE K.y K.bk.stays K.s.name k K.cont:=⟨_,rfl⟩
   rw[←hpe] at hpl hz
   clear hpe
   have hzq:(pe == 0)=false:=by simp[hz]
   clear hz
   gi_wp2
   refine⟨trivial,fun h=>(by cases h),?_⟩
   refine (callsIn_wide.2 hpl.out).mono ?_
   clear s0 b0 d0 hpl hask
   rintro e w1 ⟨rfl,hb1⟩
   have hJ2:=Lib.hid (hst.out w1 ⟨hlt,hzz.out,hb1⟩)
   clear hb1 hst hzz
   gi_wp2
   refine⟨by simp[hzq],?_⟩
   gi_wp2
   go_roundw
   case rel=>exact⟨k+1,by omega,by go_num,hJ2.out⟩
   case measure=>simp[intOf];omega
  have hke:(k:Int)=K.s.room:=by omega
  have hJ:=Lib.hid hJ
  gi_wp2
  refine bodyPost_end (results_none rfl _ _ _) rfl ?_
  exact⟨⟨_,rfl⟩,.inl ⟨_,hke,hJ.out⟩⟩
end Go.Proofs.YtcnfhnndppollaaDoor
