/- What the statements rest on: definitions and walks, part 02. -/
import Derived.Test.YtcnfhnndppollaaGreatDoorJ01
import Derived.Deep.RegionHeld3
import Derived.Deep.MidRow
import Derived.RangeFuncBox
import Derived.Deep.CutRange
import Derived.OrdersHeld
import Derived.OrdersIn
import Derived.TacticsIn
import Derived.Deep.RegionHeld
import Derived.Deep.RegionWith
import Derived.Laws.MakeOwn
import Derived.Handy
set_option maxRecDepth 100000
set_option maxHeartbeats 16000000
set_option linter.unusedSimpArgs false
set_option linter.unusedVariables false
namespace Go.Proofs.YtcnfhnndppollaaGreatDoor
open Go Go.RowKit
theorem ratHx {P:Program} {ops:Array Oper} {Q:Exit→Act→World→Prop} {md:Region.Mode} {S:World→Prop} (i:Nat) {op:Oper} {fuel:Nat} {listed:Array Bool} {a:Act} {w:World}
  (h:∀ K:Act→World→Prop,Shut (∀ a w,S w→(S w→wpAnyH P md ops Q S fuel (listed.setIfInBounds i true) a w)→K a w)→Oper.wp P op a w K Q)
  (ho:ops[i]?=some op:=by exact rfl) (hr:Region.ready md ops listed=[i]:=by decide +kernel) (hw:Region.wanted op (yielded ops a.tmps)=true:=by kernel_rfl):wpAnyH P md ops Q S (fuel+1) listed a w :=
 wpAnyH_ready (rs:=[i]) hr (by simp) (AllReadyH.cons ho (fun K hK=>by rw[if_pos hw];exact h K hK) AllReadyH.nil)
theorem apS (t:Array Value) (df) (d:Nat) (v:Value):Act.put { tmps:=t,defers:=df } (some d) v={ tmps:=t.setIfInBounds d v,defers:=df }:=rfl
theorem apN (a:Act) (v:Value):Act.put a none v=a:=rfl
theorem siA {α:Type _} (l:List α) (i:Nat) (x:α):l.toArray.setIfInBounds i x=(l.set i x).toArray:=List.setIfInBounds_toArray ..
theorem scZ {α:Type _} (x y:α) (l:List α):(x :: l).set 0 y=y :: l:=rfl
theorem scS {α:Type _} (x y:α) (l:List α) (n:Nat):(x :: l).set (n+1) y=x :: l.set n y:=rfl
end Go.Proofs.YtcnfhnndppollaaGreatDoor
namespace Go.Proofs.YtcnfhnndppollaaGreatDoor
open Go Go.RowKit
theorem below_grown {w w':World} (h:Below w.heap.size w w') (row:Option Nat):w.grownBy w' row:=⟨h.os,h.tape,h.output,h.size,fun i hi _=>h.block i hi⟩
theorem grown_set (w:World) (B o:Nat) (u:Value):w.grownBy (w.setCell ⟨B,o,none⟩ u) (some B) :=
 ⟨by simp[World.setCell],by simp[World.setCell],by simp[World.setCell],by simp,fun k _ hne=>Below.heap_setCell w _ u k (fun e=>hne (by rw[e]))⟩
theorem below_of_grownB {w0 w w':World} {B:Nat} (h:Below w0.heap.size w0 w) (hg:w.grownBy w' (some B)) (hB:w0.heap.size≤B):Below w0.heap.size w0 w':=h.grown hg h.size (fun k e=>by cases e;exact hB)
end Go.Proofs.YtcnfhnndppollaaGreatDoor
namespace Go.Proofs.YtcnfhnndppollaaGreatDoor
open Go Go.RowKit
structure BoxAt (w:World) (B:Nat) (cs:List Value):Prop where
 range:w.rangeAt B 0 cs
 free:∀ j,j<cs.length→w.frozen? ⟨B,j,none⟩=false
 lt:B<w.heap.size
theorem BoxAt.there {w:World} {B:Nat} {cs:List Value} (h:BoxAt w B cs):w.there B 0 cs.length:=fun j hj=>⟨h.range.isSome j hj,by rw[Nat.zero_add];exact h.free j hj⟩
theorem BoxAt.grown {w w':World} {row:Option Nat} {B:Nat} {cs:List Value} (h:BoxAt w B cs) (hg:w.grownBy w' row) (hne:some B≠row):BoxAt w' B cs :=
 ⟨fun j v hv=>(World.cell?_of_block (a:=⟨B,0+j,none⟩) (hg.block B h.lt hne)).trans (h.range j v hv),fun j hj=>(World.frozen?_of_block (a:=⟨B,j,none⟩) (hg.block B h.lt hne)).trans (h.free j hj),Nat.lt_of_lt_of_le h.lt hg.size⟩
theorem BoxAt.below {w w':World} {B:Nat} {cs:List Value} (h:BoxAt w B cs) (hb:Below w.heap.size w w'):BoxAt w' B cs:=h.grown (below_grown hb none) (by simp)
theorem BoxAt.alloc {w:World} {B:Nat} {cs:List Value} (h:BoxAt w B cs) (o:Obj):BoxAt (w.alloc o) B cs:=h.below (below_alloc w o)
theorem BoxAt.new (w:World) (cs:Array Value) (t:TypeId):BoxAt (w.alloc (.cells cs t)) w.heap.size cs.toList :=
 ⟨fun j v hv=>by rw[Nat.zero_add,cell_alloc_at,←hv];simp,fun j hj=>by unfold World.frozen?;rw[World.alloc_heap_new];simp,by simp⟩
theorem grown_setCells (B:Nat):∀ (xs:List Value) (o:Nat) (w:World),w.grownBy (w.setCells B o xs) (some B)
 | [],_,w=>World.grownBy.refl w _
 | v :: xs,o,w=>(grown_set w B o v).trans (grown_setCells B xs (o+1) _)
theorem size_setCells (B:Nat):∀ (xs:List Value) (o:Nat) (w:World),(w.setCells B o xs).heap.size=w.heap.size
 | [],_,_=>rfl
 | v :: xs,o,w=>by unfold World.setCells;rw[size_setCells B xs];simp
theorem BoxAt.put {w:World} {B:Nat} {cs:List Value} (h:BoxAt w B cs) (xs:List Value) (hl:xs.length=cs.length):BoxAt (w.setCells B 0 xs) B xs :=
 ⟨World.rangeAt_setCells_same w B 0 xs (by rw[hl];exact h.there),fun j hj=>by rw[World.frozen?_setCells];exact h.free j (by omega),by rw[size_setCells];exact h.lt⟩
theorem BoxAt.set {w:World} {B:Nat} {cs:List Value} (h:BoxAt w B cs) (j:Nat) (v:Value) (hj:j<cs.length):BoxAt (w.setCell ⟨B,j,none⟩ v) B (cs.set j v):=by
 refine⟨fun k u hu=>?_,fun k hk=>by rw[World.frozen?_setCell];exact h.free k (by simpa using hk),by rw[World.size_setCell];exact h.lt⟩
 rw[Nat.zero_add]
 by_cases e:j=k
 ·subst e
  rw[List.getElem?_set_self hj] at hu
  cases hu
  obtain⟨x,hx⟩:∃ x,cs[j]?=some x:=⟨_,List.getElem?_eq_getElem hj⟩
  have:=h.range j x hx
  rw[Nat.zero_add] at this
  exact World.cell?_setCell_same _ _ _ this
 rw[List.getElem?_set_ne e] at hu
 have:=h.range k u hu
 rw[Nat.zero_add] at this
 rw[World.cell?_setCell_other _ _ _ _ (fun x=>e (by injection x))]
 exact this
theorem BoxAt.c {w:World} {B:Nat} {cs:List Value} (h:BoxAt w B cs) (j:Nat) (v:Value) (hv:cs[j]?=some v):w.cell? ⟨B,j,none⟩=some v:=by
 have:=h.range j v hv
 rw[Nat.zero_add] at this
 exact this
theorem BoxAt.c2 {w : World} {B : Nat} {x0 x1 : Value} {l : List Value} (h : BoxAt w B (x0::x1::l)) : w.cell? ⟨B,0,none⟩=some x0 ∧ w.cell? ⟨B,1,none⟩=some x1:=⟨h.c 0 _ rfl,h.c 1 _ rfl⟩
theorem BoxAt.c3 {w : World} {B : Nat} {x0 x1 x2 : Value} {l : List Value} (h : BoxAt w B (x0::x1::x2::l)) : w.cell? ⟨B,0,none⟩=some x0 ∧ w.cell? ⟨B,1,none⟩=some x1 ∧ w.cell? ⟨B,2,none⟩=some x2:=⟨h.c 0 _ rfl,h.c 1 _ rfl,h.c 2 _ rfl⟩
theorem BoxAt.c4 {w : World} {B : Nat} {x0 x1 x2 x3 : Value} {l : List Value} (h : BoxAt w B (x0::x1::x2::x3::l)) : w.cell? ⟨B,0,none⟩=some x0 ∧ w.cell? ⟨B,1,none⟩=some x1 ∧ w.cell? ⟨B,2,none⟩=some x2 ∧ w.cell? ⟨B,3,none⟩=some x3:=⟨h.c 0 _ rfl,h.c 1 _ rfl,h.c 2 _ rfl,h.c 3 _ rfl⟩
theorem BoxAt.fr2 {w : World} {B : Nat} {x0 x1 : Value} {l : List Value} (h : BoxAt w B (x0::x1::l)) : w.frozen? ⟨B,0,none⟩=false ∧ w.frozen? ⟨B,1,none⟩=false:=⟨h.free 0 (by simp),h.free 1 (by simp)⟩
theorem BoxAt.fr3 {w : World} {B : Nat} {x0 x1 x2 : Value} {l : List Value} (h : BoxAt w B (x0::x1::x2::l)) : w.frozen? ⟨B,0,none⟩=false ∧ w.frozen? ⟨B,1,none⟩=false ∧ w.frozen? ⟨B,2,none⟩=false:=⟨h.free 0 (by simp),h.free 1 (by simp),h.free 2 (by simp)⟩
theorem BoxAt.fr4 {w : World} {B : Nat} {x0 x1 x2 x3 : Value} {l : List Value} (h : BoxAt w B (x0::x1::x2::x3::l)) : w.frozen? ⟨B,0,none⟩=false ∧ w.frozen? ⟨B,1,none⟩=false ∧ w.frozen? ⟨B,2,none⟩=false ∧ w.frozen? ⟨B,3,none⟩=false:=⟨h.free 0 (by simp),h.free 1 (by simp),h.free 2 (by simp),h.free 3 (by simp)⟩
section
variable {P : Program}
theorem results_mid2 {fn:Func} {t u:Tmp} {ty:TypeId} (h:fn.results=#[.cell t ty,.tmp u]) (tmps:Array Value) (w:World) (g:Nat) (cs:List Value) (d:TypeDesc)
  (hp:tmps.getD t undef=.pointer (some ⟨g,0,none⟩)) (hc:w.rangeAt g 0 cs) (hu:P.underlying ty=some d) (hd:d.isRow=true) (hi:(P.info? ty).map (·.size)=some cs.length) :
  (results fn tmps).run P w=.ok (.tuple #[.agg cs.toArray,tmps.getD u undef]) w:=by
 have hp':tmps[t]?.getD undef=.pointer (some ⟨g,0,none⟩):=by simpa using hp
 simp[results,h,hp',asAddr,run_loadVar_mid w g 0 ty cs d hc hu hd hi]
theorem results_mid1 {fn:Func} {t:Tmp} {ty:TypeId} (h:fn.results=#[.cell t ty]) (tmps:Array Value) (w:World) (g:Nat) (cs:List Value) (d:TypeDesc)
  (hp:tmps.getD t undef=.pointer (some ⟨g,0,none⟩)) (hc:w.rangeAt g 0 cs) (hu:P.underlying ty=some d) (hd:d.isRow=true) (hi:(P.info? ty).map (·.size)=some cs.length) :
  (results fn tmps).run P w=.ok (.agg cs.toArray) w:=by
 have hp':tmps[t]?.getD undef=.pointer (some ⟨g,0,none⟩):=by simpa using hp
 simp[results,h,hp',asAddr,run_loadVar_mid w g 0 ty cs d hc hu hd hi]
end
end Go.Proofs.YtcnfhnndppollaaGreatDoor
namespace Go.Proofs.YtcnfhnndppollaaGreatDoor
open Go Go.RowKit
theorem wpList_store_box {P:Program} {ops:Array Oper} {rest:List Oper} {op:Oper} {a:Act} {w:World} {Q:Exit→Act→World→Prop} (hgd:op.guard=none) (ty:TypeId) (x y:Operand) (ho:op.op=.store ty x y)
  (b:Nat) (cs0 cs:List Value) (hx:a.eval x=.pointer (some ⟨b,0,none⟩)) (hy:a.eval y=.agg cs.toArray) (hB:BoxAt w b cs0) (hl:cs.length=cs0.length)
  (hi:(P.info? ty).map (·.size)=some cs.length) (h1:cs.toArray.all (·.oneCell')=true)
  (h:∀ w',BoxAt w' b cs→w.grownBy w' (some b)→wpList P ops Q rest (a.put op.dst undef) w'):wpList P ops Q (op :: rest) a w :=
 wpList_store_mid hgd ty x y ho b 0 cs.toArray hx hy (by rw[List.size_toArray,hl];exact hB.there) (by simpa using hi) h1 (h _ (hB.put cs hl) (grown_setCells b cs 0 w))
end Go.Proofs.YtcnfhnndppollaaGreatDoor
namespace Go.Proofs.YtcnfhnndppollaaGreatDoor
open Go Go.RowKit Go.Shelf
theorem OwnL.offF {w:World} {B B':Nat} {E:TypeId} {m:Nat} {v:Value} {rows:List (List Value)} (h:OwnL w B E m v rows) (o:Nat) (u:Value) (hne:B'<B):OwnL (w.setCell ⟨B',o,none⟩ u) B E m v rows:=by
 refine OwnL.kept h (grown_set _ B' o _) ?_
 cases hv:v.ownBlock with
 | none=>exact .inl rfl
 | some g=>right;intro e;have:=(h.lt g hv).1;injection e with e;omega
theorem BoxAt.offF {w:World} {B B':Nat} {cs:List Value} (h:BoxAt w B cs) (o:Nat) (v:Value) (hne:B≠B'):BoxAt (w.setCell ⟨B',o,none⟩ v) B cs:=h.grown (grown_set w B' o v) (fun e=>hne (by cases e;rfl))
end Go.Proofs.YtcnfhnndppollaaGreatDoor
namespace Go.Proofs.YtcnfhnndppollaaGreatDoor
open Go Go.RowKit
def unroll (P:Program) (c:Code) (Q:Exit→Act→World→Prop):Nat→Act→World→Prop
 | 0,_,_=>False
 | n+1,a,w=>c.wp P (Exit.then (unroll P c Q n) Q) a w
theorem wp_unroll {P:Program} {c:Code} {Q:Exit→Act→World→Prop} {a:Act} {w:World} (n:Nat) (h:unroll P c Q n a w):(Code.loop c).wp P Q a w:=by
 intro b k cs
 have key:∀ n a w,unroll P c Q n a w →
   ∃ e a' w',Q e a' w'∧Arrives P (lone (b.at a (.code c :: .inLoop c :: k)) cs w) b k cs e a' w':=by
  intro n
  induction n with
  | zero=>intro a w h;exact h.elim
  | succ n ih =>
   intro a w h
   obtain⟨e,a₁,w₁,hq,harr⟩:=h b (.inLoop c :: k) cs
   cases e with
   | normal =>
    obtain⟨e₂,a₂,w₂,hq₂,harr₂⟩:=ih a₁ w₁ hq
    exact⟨e₂,a₂,w₂,hq₂,.of_steps (Steps.trans harr (.one step_inLoop)) harr₂⟩
   | exit id=>exact⟨_,a₁,w₁,hq,.pass (x:=.inLoop c) rfl (fun _ _=>.inl (by simp)) harr⟩
   | goto l=>exact⟨_,a₁,w₁,hq,.pass (x:=.inLoop c) rfl (fun _ _=>.inl (by simp)) harr⟩
   | ret=>exact⟨_,a₁,w₁,hq,.pass (x:=.inLoop c) rfl (fun _ _=>.inl (by simp)) harr⟩
   | panic ch=>exact⟨_,a₁,w₁,hq,.pass (x:=.inLoop c) rfl (fun _ _=>.inl (by simp)) harr⟩
   | outgrown=>exact⟨_,a₁,w₁,hq,.pass (x:=.inLoop c) rfl (fun _ _=>.inl (by simp)) harr⟩
 obtain⟨e,a',w',hq,harr⟩:=key n a w h
 exact⟨e,a',w',hq,.of_steps (.one step_loop) harr⟩
theorem isName_a1 (w:World):Calls Tryz.prog 31 #[.string ⟨#[97,49]⟩] w fun e w'=>e=.returned (.bool true)∧w=w':=by
 go_enter Tryz.func31,Tryz.ntmps31
 go_wp2
 refine wp_unroll 4 ?_
 unfold unroll
 go_wp2
 unfold unroll
 go_wp2
 unfold unroll
 go_wp2
 go_ret
 exact⟨rfl,rfl⟩
theorem isName_ann (w:World):Calls Tryz.prog 31 #[.string ⟨#[97,110,110]⟩] w fun e w'=>e=.returned (.bool true)∧w=w':=by
 go_enter Tryz.func31,Tryz.ntmps31
 go_wp2
 refine wp_unroll 4 ?_
 unfold unroll
 go_wp2
 unfold unroll
 go_wp2
 unfold unroll
 go_wp2
 unfold unroll
 go_wp2
 go_ret
 exact⟨rfl,rfl⟩
theorem isName_bob (w:World):Calls Tryz.prog 31 #[.string ⟨#[98,111,98]⟩] w fun e w'=>e=.returned (.bool true)∧w=w':=by
 go_enter Tryz.func31,Tryz.ntmps31
 go_wp2
 refine wp_unroll 4 ?_
 unfold unroll
 go_wp2
 unfold unroll
 go_wp2
 unfold unroll
 go_wp2
 unfold unroll
 go_wp2
 go_ret
 exact⟨rfl,rfl⟩
theorem isName_cat (w:World):Calls Tryz.prog 31 #[.string ⟨#[99,97,116]⟩] w fun e w'=>e=.returned (.bool true)∧w=w':=by
 go_enter Tryz.func31,Tryz.ntmps31
 go_wp2
 refine wp_unroll 4 ?_
 unfold unroll
 go_wp2
 unfold unroll
 go_wp2
 unfold unroll
 go_wp2
 unfold unroll
 go_wp2
 go_ret
 exact⟨rfl,rfl⟩
theorem isName_dan (w:World):Calls Tryz.prog 31 #[.string ⟨#[100,97,110]⟩] w fun e w'=>e=.returned (.bool true)∧w=w':=by
 go_enter Tryz.func31,Tryz.ntmps31
 go_wp2
 refine wp_unroll 4 ?_
 unfold unroll
 go_wp2
 unfold unroll
 go_wp2
 unfold unroll
 go_wp2
 unfold unroll
 go_wp2
 go_ret
 exact⟨rfl,rfl⟩
theorem rwithin_any (n lo hi:Int) (w:World):Calls Tryz.prog 29 #[.int .i64 n,.int .i64 lo,.int .i64 hi] w fun e w'=>e=.returned (.bool (decide (lo≤n) && decide (n≤hi)))∧w=w':=by
 by_cases h1:lo≤n
 ·by_cases h2:n≤hi
  all_goals
   go_enter Tryz.func29,Tryz.ntmps29
   go_wp2
   go_ret
   exact⟨by simp;omega,rfl⟩
 go_enter Tryz.func29,Tryz.ntmps29
 go_wp2
 go_ret
 exact⟨by simp;omega,rfl⟩
theorem risDay_any (n:Int) (w:World):Calls Tryz.prog 30 #[.int .i64 n] w fun e w'=>e=.returned (.bool (decide (0≤n) && decide (n≤200000)))∧w=w':=by
 go_enter Tryz.func30,Tryz.ntmps30
 go_wp2_with (go_at_call 29;refine (rwithin_any _ _ _ _).mono ?_;rintro e w' ⟨rfl,rfl⟩)
 go_ret
 exact⟨rfl,rfl⟩
end Go.Proofs.YtcnfhnndppollaaGreatDoor
namespace Go.Proofs.YtcnfhnndppollaaGreatDoor
open Go Go.RowKit Go.Shelf
attribute [local go_sem] Oper.semAt_some
def Chk (n:Nat):Type:={q:Nat × Nat // q.1+q.2≤n∧0<q.2}
def Chk.enc {n:Nat} (O:Option Addr) (q:Chk n):Value:=.slice (O.map (·.add (q.1.1*1))) q.1.2 q.1.2
end Go.Proofs.YtcnfhnndppollaaGreatDoor
namespace Go.Proofs.YtcnfhnndppollaaGreatDoor
open Go Go.RowKit
structure NumsAt (w:World) (b o:Nat) (zs:List Int):Prop where
 c:∀ (k:Nat) z,zs[k]?=some z→w.cell? ⟨b,o+k,none⟩=some (.int .i64 z)
 lt:b<w.heap.size
 le:zs.length≤1000000
end Go.Proofs.YtcnfhnndppollaaGreatDoor
namespace Go.Proofs.YtcnfhnndppollaaGreatDoor
open Go Go.RowKit
theorem NumsAt.d {w:World} {b o:Nat} {zs:List Int} (h:NumsAt w b o zs) {k:Nat} (hk:k<zs.length):w.cell? ⟨b,o+k,none⟩=some (.int .i64 (zs.getD k 0)):=h.c k _ (by rw[List.getD_eq_getElem?_getD,List.getElem?_eq_getElem hk];rfl)
end Go.Proofs.YtcnfhnndppollaaGreatDoor
namespace Go.Proofs.YtcnfhnndppollaaGreatDoor
open Go Go.RowKit
def Cs (L:List (Nat × Nat × Value)) (W:World):Prop:=∀ x∈L,W.cell? ⟨x.1,x.2.1,none⟩=some x.2.2
structure Sx (w:World) (L:List (Nat × Nat × Value)) (W:World):Prop where
 cs:Cs L W
 bel:Below w.heap.size w W
theorem Cs.below {L:List (Nat × Nat × Value)} {W W':World} (h:Cs L W) (hb:Below W.heap.size W W'):Cs L W':=fun x hx =>
 (hb.cell (p:=⟨x.1,x.2.1,none⟩) (World.block_lt_of_cell? W _ (h x hx))).trans (h x hx)
theorem Sx.step {w:World} {L:List (Nat × Nat × Value)} {W W':World} (h:Sx w L W) (hb:Below W.heap.size W W'):Sx w L W':=⟨h.cs.below hb,h.bel.trans (hb.mono h.bel.size)⟩
theorem Sx.drew {w:World} {L:List (Nat × Nat × Value)} {W:World} (h:Sx w L W):Sx w L W.drew:=⟨h.cs,h.bel.drew⟩
theorem cs_nil (W:World):Cs [] W:=fun _ h=>by cases h
theorem cs_cons {x:Nat × Nat × Value} {L:List (Nat × Nat × Value)} {W:World} (h:W.cell? ⟨x.1,x.2.1,none⟩=some x.2.2) (hs:Cs L W):Cs (x :: L) W:=fun y hy=>by
 rcases List.mem_cons.1 hy with rfl | hy
 ·exact h
 exact hs y hy
theorem cs_iff_cons {b o:Nat} {v:Value} {L:List (Nat × Nat × Value)} {W:World}:Cs ((b,o,v) :: L) W↔W.cell? ⟨b,o,none⟩=some v∧Cs L W :=
 ⟨fun h=>⟨h _ (List.mem_cons_self ..),fun y hy=>h y (List.mem_cons_of_mem _ hy)⟩,fun h=>cs_cons h.1 h.2⟩
end Go.Proofs.YtcnfhnndppollaaGreatDoor
namespace Go.Proofs.YtcnfhnndppollaaGreatDoor
open Go Go.RowKit
section
variable {F : Fence} {n : Nat} {P : Program} {ops : Array Oper} {Q : Exit → Act → World → Prop} {md : Region.Mode} {S : World → Prop}
theorem tkH2 (i:Nat) (d:Nat) {oi:Oper} {v:Value} {fuel:Nat} {listed:Array Bool} {a:Act} {w:World}
  (hy:∀ w,S w→(execOp a.eval oi).run P w=.ok (.value v) w) (h:wpAnyH P md ops Q S fuel (listed.setIfInBounds i true) (a.put (some d) v) w)
  (hi:ops[i]?=some oi:=by exact rfl) (hdd:oi.dst=some d:=by kernel_rfl) (hs:Region.noSelect ops=true:=by kernel_rfl) (hf:Region.free md ops listed i=true:=by decide +kernel) (hr:(Region.ready md ops listed).contains i=true:=by decide +kernel)
  (hQ:∀ c a w,Q (.panic c) (a.put oi.dst v) w→Q (.panic c) a w:=by exact fun _ _ _ h=>h) (hw:Region.wanted oi (yielded ops a.tmps)=true:=by kernel_rfl) (hS:S w:=by assumption):wpAnyH P md ops Q S (fuel+1) listed a w :=
 wpAnyH_take hi hs hf hr hQ (Or.inl ⟨hw,hy⟩) hS (by rw[hdd];exact h)
theorem tkHx (i:Nat) (d:Nat) {oi:Oper} {v:Value} {fuel:Nat} {listed l':Array Bool} {a a':Act} {w:World}
  (h:wpAnyH P md ops Q S fuel l' a' w) (hi:ops[i]?=some oi:=by exact rfl)
  (hy:∀ w,S w→(execOp a.eval oi).run P w=.ok (.value v) w:=by (intro w' hSw;replace hSw:=hSw.cs;(try simp only[cs_iff_cons] at hSw);go_simp;(try with_reducible rfl)))
  (ha:a.put (some d) v=a':=by ((try simp only[Act.put,List.setIfInBounds_toArray,List.set_cons_zero,List.set_cons_succ]);exact rfl))
  (hl:listed.setIfInBounds i true=l':=by ((try simp only[List.setIfInBounds_toArray,List.set_cons_zero,List.set_cons_succ]);exact rfl))
  (hdd:oi.dst=some d:=by kernel_rfl) (hs:Region.noSelect ops=true:=by kernel_rfl) (hf:Region.free md ops listed i=true:=by decide +kernel) (hr:(Region.ready md ops listed).contains i=true:=by decide +kernel)
  (hQ:∀ c a w,Q (.panic c) (a.put oi.dst v) w→Q (.panic c) a w:=by exact fun _ _ _ h=>h) (hw:Region.wanted oi (yielded ops a.tmps)=true:=by kernel_rfl) (hS:S w:=by assumption):wpAnyH P md ops Q S (fuel+1) listed a w :=
 tkH2 i d hy (by rw[ha,hl];exact h) hi hdd hs hf hr hQ hw hS
end
end Go.Proofs.YtcnfhnndppollaaGreatDoor
namespace Go.Proofs.YtcnfhnndppollaaGreatDoor
open Go Go.RowKit
section
variable {F : Fence} {n : Nat} {P : Program} {ops : Array Oper} {Q : Exit → Act → World → Prop} {md : Region.Mode} {S : World → Prop} {y : Nat}
def waiters (ops:Array Oper) (md:Region.Mode) (i:Nat):List Nat :=
 (List.range ops.size).foldl (fun acc k=>if k == i || ((ops[k]?.map fun o=>o.after.any fun e=>Region.binds md e && acc.contains e.on).getD false) then k :: acc else acc) []
def chained (ops:Array Oper) (md:Region.Mode) (i:Nat) (C:List Nat):Bool :=
 C.all fun k=>k == i || ((ops[k]?.map fun o=>o.after.any fun e=>Region.binds md e && C.contains e.on).getD false)
def unlistedB (listed:Array Bool) (C:List Nat):Bool:=C.all fun k=>listed.getD k true == false
theorem not_ready_of_chained {i j:Nat} {C:List Nat} {listed:Array Bool} (hC:chained ops md i C=true) (hU:∀ k∈C,listed.getD k true=false) (hj:j∈Region.ready md ops listed) (hji:j≠i):j∉C:=by
 intro hm
 have h1:=List.all_eq_true.1 hC j hm
 obtain⟨_,oj,hoj,hall⟩:=mem_ready.1 hj
 simp only[hoj,Option.map_some,Option.getD_some,Bool.or_eq_true,beq_iff_eq] at h1
 rcases h1 with h1 | h1
 ·exact hji h1
 obtain⟨e,he,hb⟩:=Array.any_eq_true'.1 h1
 rw[Bool.and_eq_true] at hb
 have hin:e.on∈C:=by simpa using hb.2
 have h2:=hall e he hb.1
 have h0:=hU _ hin
 rcases Nat.lt_or_ge e.on listed.size with h' | h'
 ·simp[h'] at h0 h2;rw[h0] at h2;cases h2
 simp[h'] at h0
theorem unlisted_spec {listed:Array Bool} {C:List Nat} (h:unlistedB listed C=true):∀ k∈C,listed.getD k true=false:=fun k hk=>by
 have:=List.all_eq_true.1 h k hk
 simpa using this
end
end Go.Proofs.YtcnfhnndppollaaGreatDoor
namespace Go.Proofs.YtcnfhnndppollaaGreatDoor
open Go Go.RowKit
section
variable {P : Program} {ops : Array Oper} {Q : Exit → Act → World → Prop} {md : Region.Mode} {S : World → Prop} {y : Nat}
def wpAnyHY (P:Program) (md:Region.Mode) (ops:Array Oper) (Q:Exit→Act→World→Prop) (S:World→Prop) (y:Nat):Nat→Array Bool→Act→World→Prop
 | 0,listed,a,w=>Region.ready md ops listed=[]∧Q .normal a w
 | fuel+1,listed,a,w =>
  (Region.ready md ops listed=[]→Q .normal a w) ∧
  ∀ i∈Region.ready md ops listed,wpOp P ops Q i (fun a' w'=>((listed.setIfInBounds i true).getD y true=false→S w')∧wpAnyHY P md ops Q S y fuel (listed.setIfInBounds i true) a' w') a w
theorem wpAny_of_heldZ:∀ (fuel:Nat) (listed:Array Bool) (a:Act) (w:World),wpAnyHY P md ops Q S y fuel listed a w→wpAny P md ops Q fuel listed a w
 | 0,_,_,_,h=>h
 | fuel+1,_,_,_,h=>⟨h.1,fun i hi=>wpOp_mono (fun a' w' h'=>wpAny_of_heldZ fuel _ a' w' h'.2) (h.2 i hi)⟩
theorem wpAnyHY_first {i:Nat} {oi:Oper} {v:Value} {C:List Nat} (hi:ops[i]?=some oi) (hsel:∀ (j:Nat) (o:Oper) cs b,ops[j]?=some o→o.op≠.select cs b)
  (hQ:∀ c a w,Q (.panic c) (a.put oi.dst v) w→Q (.panic c) a w) (hC:chained ops md i C=true) (hyC:y∈C) (hiy:i≠y) :
  ∀ (fuel:Nat) (listed:Array Bool) (a:Act) (w:World),(∀ k∈C,listed.getD k true=false) →
   (∀ j oj,ops[j]?=some oj→j≠i→listed.getD j true=false→(∀ e∈oj.after,Region.binds md e=true→e.on≠i)→oi.apart ops oj=true) →
   i∈Region.ready md ops listed→YieldsIf P ops S oi v a→S w →
   wpAnyHY P md ops Q S y fuel (listed.setIfInBounds i true) (a.put oi.dst v) w→wpAnyHY P md ops Q S y (fuel+1) listed a w:=by
 intro fuel
 induction fuel with
 | zero =>
  intro listed a w hU _ hr hy hS H
  refine⟨fun h=>(by rw[h] at hr;cases hr),fun j hj=>?_⟩
  by_cases hji:j=i
  ·subst hji;exact hy.wpOp hi hS ⟨fun _=>hS,H⟩
  have:=ready_mono hj hji
  rw[H.1] at this
  cases this
 | succ fuel ih =>
  intro listed a w hU hfree hr hy hS H
  refine⟨fun h=>(by rw[h] at hr;cases hr),fun j hj=>?_⟩
  by_cases hji:j=i
  ·subst hji;exact hy.wpOp hi hS ⟨fun _=>hS,H⟩
  have h1:=H.2 j (ready_mono hj hji)
  have hjC:=not_ready_of_chained hC hU hj hji
  have hjy:j≠y:=fun e=>hjC (e ▸ hyC)
  obtain⟨hjun,oj,hoj,hall⟩:=mem_ready.1 hj
  have hnot:∀ e∈oj.after,Region.binds md e=true→e.on≠i:=fun e he hb heq=>by
   have h1:=hall e he hb
   have h0:=(mem_ready.1 hr).1
   rw[heq] at h1
   rcases Nat.lt_or_ge i listed.size with h' | h'
   ·simp[h'] at h0 h1;rw[h0] at h1;cases h1
   simp[Array.getElem?_eq_none h'] at h1
  have h2:=wpOp_putIf hoj (hfree j oj hoj hji hjun hnot) (fun cs b=>hsel i oi cs b hi) (fun cs b=>hsel j oj cs b hoj) hQ hy h1
  have hfree':∀ k ok,ops[k]?=some ok→k≠i→(listed.setIfInBounds j true).getD k true=false →
    (∀ e∈ok.after,Region.binds md e=true→e.on≠i)→oi.apart ops ok=true:=fun k ok hk hki hun hno=>by
   refine hfree k ok hk hki ?_ hno
   by_cases hjk:j=k
   ·subst hjk;exact hjun
   rw[getD_set_ne true hjk] at hun;exact hun
  have hU':∀ k∈C,(listed.setIfInBounds j true).getD k true=false:=fun k hk=>by
   have hjk:j≠k:=fun e=>hjC (e ▸ hk)
   rw[getD_set_ne true hjk];exact hU k hk
  have hyu:((listed.setIfInBounds i true).setIfInBounds j true).getD y true=false:=by
   rw[Array.setIfInBounds_comm _ _ (Ne.symm hji),getD_set_ne true hiy];exact hU' y hyC
  refine wpOp_mono (fun a' w' h3=>⟨fun _=>h3.2.1 hyu,ih (listed.setIfInBounds j true) a' w' hU' hfree' (ready_mono hr (Ne.symm hji)) h3.1 (h3.2.1 hyu) ?_⟩) h2
  rw[Array.setIfInBounds_comm _ _ hji]
  exact h3.2.2
theorem wp_region_heldZ {id:Nat} {a:Act} {w:World} (y:Nat) (hm:P.follows .mixedOrders=true) (hS:S w.drew)
  (h:S w.drew→wpAnyHY P .any ops Q S y ops.size (Array.replicate ops.size false) a w.drew):(Code.region id ops true).wp P Q a w :=
 wp_region_any hm (wpAny_of_heldZ _ _ _ _ (h hS))
theorem wpAnyHY_done {listed:Array Bool} {a:Act} {w:World} (hr:Region.ready md ops listed=[]) (h:Q .normal a w):∀ fuel,wpAnyHY P md ops Q S y fuel listed a w
 | 0=>⟨hr,h⟩
 | _+1=>⟨fun _=>h,by rw[hr];simp⟩
theorem tkZ (i d:Nat) {oi:Oper} {v:Value} {fuel:Nat} {listed:Array Bool} {a:Act} {w:World}
  (hy:∀ w,S w→(execOp a.eval oi).run P w=.ok (.value v) w) (h:wpAnyHY P md ops Q S y fuel (listed.setIfInBounds i true) (a.put (some d) v) w)
  (hi:ops[i]?=some oi:=by exact rfl) (hdd:oi.dst=some d:=by kernel_rfl) (hs:Region.noSelect ops=true:=by kernel_rfl) (hf:Region.free md ops listed i=true:=by decide +kernel) (hr:(Region.ready md ops listed).contains i=true:=by decide +kernel)
  (hC:chained ops md i (waiters ops md i)=true:=by kernel_rfl) (hyC:(waiters ops md i).contains y=true:=by kernel_rfl) (hiy:(i == y)=false:=by kernel_rfl) (hU:unlistedB listed (waiters ops md i)=true:=by kernel_rfl)
  (hQ:∀ c a w,Q (.panic c) (a.put oi.dst v) w→Q (.panic c) a w:=by exact fun _ _ _ h=>h) (hw:Region.wanted oi (yielded ops a.tmps)=true:=by kernel_rfl) (hS:S w:=by assumption):wpAnyHY P md ops Q S y (fuel+1) listed a w :=
 wpAnyHY_first hi (Region.noSelect_spec hs) hQ hC (by simpa using hyC) (by simpa using hiy) fuel listed a w (unlisted_spec hU) (Region.free_spec hi hf) (by simpa using hr) (Or.inl ⟨hw,hy⟩) hS (by rw[hdd];exact h)
theorem tkZx (i d:Nat) {oi:Oper} {v:Value} {fuel:Nat} {listed l':Array Bool} {a a':Act} {w:World}
  (h:wpAnyHY P md ops Q S y fuel l' a' w) (hi:ops[i]?=some oi:=by exact rfl)
  (hy:∀ w,S w→(execOp a.eval oi).run P w=.ok (.value v) w:=by (intro w' hSw;replace hSw:=hSw.cs;(try simp only[cs_iff_cons] at hSw);go_simp;(try with_reducible rfl)))
  (ha:a.put (some d) v=a':=by ((try simp only[Act.put,List.setIfInBounds_toArray,List.set_cons_zero,List.set_cons_succ]);exact rfl))
  (hl:listed.setIfInBounds i true=l':=by ((try simp only[List.setIfInBounds_toArray,List.set_cons_zero,List.set_cons_succ]);exact rfl))
  (hdd:oi.dst=some d:=by kernel_rfl) (hs:Region.noSelect ops=true:=by kernel_rfl) (hf:Region.free md ops listed i=true:=by decide +kernel) (hr:(Region.ready md ops listed).contains i=true:=by decide +kernel)
  (hC:chained ops md i (waiters ops md i)=true:=by kernel_rfl) (hyC:(waiters ops md i).contains y=true:=by kernel_rfl) (hiy:(i == y)=false:=by kernel_rfl) (hU:unlistedB listed (waiters ops md i)=true:=by kernel_rfl)
  (hQ:∀ c a w,Q (.panic c) (a.put oi.dst v) w→Q (.panic c) a w:=by exact fun _ _ _ h=>h) (hw:Region.wanted oi (yielded ops a.tmps)=true:=by kernel_rfl) (hS:S w:=by assumption):wpAnyHY P md ops Q S y (fuel+1) listed a w :=
 tkZ i d hy (by rw[ha,hl];exact h) hi hdd hs hf hr hC hyC hiy hU hQ hw hS
theorem ratZ (i:Nat) {o:Oper} {fuel:Nat} {listed:Array Bool} {a:Act} {w:World} (hr:Region.ready md ops listed=[i]) (ho:ops[i]?=some o)
  (h:∀ K':Act→World→Prop,Shut (∀ a w,S w→(S w→wpAnyHY P md ops Q S y fuel (listed.setIfInBounds i true) a w)→K' a w)→if Region.wanted o (yielded ops a.tmps)=true then Oper.wp P o a w K' Q else K' (a.put o.dst undef) w) :
  wpAnyHY P md ops Q S y (fuel+1) listed a w:=by
 refine⟨fun h0=>absurd (hr ▸ h0) (by simp),?_⟩
 rw[hr]
 intro j hj
 rcases List.mem_singleton.1 hj with rfl
 refine wpOp_step ho (fun K' hK=>?_)
 have:=h K' (fun a w hS hW=>hK a w ⟨fun _=>hS,hW hS⟩)
 split
 ·rename_i hw;rw[if_pos hw] at this;exact this
 rename_i hw;rw[if_neg hw] at this;exact this
theorem ratZc (i:Nat) {o:Oper} {fuel:Nat} {listed:Array Bool} {a:Act} {w:World} (hr:Region.ready md ops listed=[i]) (ho:ops[i]?=some o) (hy:(listed.setIfInBounds i true).getD y true=true)
  (h:∀ K':Act→World→Prop,Shut (∀ a w,wpAnyHY P md ops Q S y fuel (listed.setIfInBounds i true) a w→K' a w)→if Region.wanted o (yielded ops a.tmps)=true then Oper.wp P o a w K' Q else K' (a.put o.dst undef) w) :
  wpAnyHY P md ops Q S y (fuel+1) listed a w:=by
 refine⟨fun h0=>absurd (hr ▸ h0) (by simp),?_⟩
 rw[hr]
 intro j hj
 rcases List.mem_singleton.1 hj with rfl
 refine wpOp_step ho (fun K' hK=>?_)
 have:=h K' (fun a w hW=>hK a w ⟨fun e=>(by rw[hy] at e;cases e),hW⟩)
 split
 ·rename_i hw;rw[if_pos hw] at this;exact this
 rename_i hw;rw[if_neg hw] at this;exact this
end
end Go.Proofs.YtcnfhnndppollaaGreatDoor
namespace Go.Proofs.YtcnfhnndppollaaGreatDoor.Cal
theorem gcd_step (a b:Int):Int.gcd b (a.tmod b)=Int.gcd a b:=by
 unfold Int.gcd
 rw[Int.natAbs_tmod,Nat.gcd_comm b.natAbs,←Nat.gcd_rec,Nat.gcd_comm]
theorem gcd_end (a:Int):Int.gcd a 0=a.natAbs:=by
 unfold Int.gcd;simp
theorem step_less {a b:Int} (hb:b≠0):(a.tmod b).natAbs<b.natAbs:=by
 rw[Int.natAbs_tmod]
 exact Nat.mod_lt _ (by omega)
theorem gcd_pos {a b:Int} (hb:0<b):0<Int.gcd a b:=by
 rw[Int.gcd_pos_iff];right;omega
def lowN (a b:Int):Int:=a.tdiv (Int.gcd a b)
def lowD (a b:Int):Int:=b.tdiv (Int.gcd a b)
def more (parts den:Int):Int:=den.tdiv (Int.gcd parts den)
end Go.Proofs.YtcnfhnndppollaaGreatDoor.Cal
namespace Go.Proofs.YtcnfhnndppollaaGreatDoor
open Go Go.RowKit Go.Shelf
theorem wrap_sm {n:Int} (h0:-9223372036854775808≤n) (h1:n≤9223372036854775807):IntKind.i64.wrap n=n:=by go_arith
def GcI (a b p q:Int):Prop:=Int.gcd p q=Int.gcd a b∧((p=a∧q=b)∨(q.natAbs<p.natAbs∧p.natAbs≤b.natAbs))
theorem tmod_abs {a b:Int} (hb:b≠0):(a.tmod b).natAbs<b.natAbs:=Cal.step_less hb
theorem gcd_any (a b:Int) (w:World) (hb:0<b) (hb2:b≤9223372036854775807):Calls Tryz.prog 69 #[.int .i64 a,.int .i64 b] w fun e w'=>e=.returned (.int .i64 (Int.gcd a b:Int))∧Below w.heap.size w w':=by
 have hst:Hid (GcI a b a b):=⟨rfl,.inl ⟨rfl,rfl⟩⟩
 have hb0:Hid (Below w.heap.size w w):=Below.refl _ _
 go_enter Tryz.func69,Tryz.ntmps69
 go_wp2_with fail
 go_loopw [0,1] (fun x y wr=>∃ p q:Int,x=.int .i64 p∧y=.int .i64 q∧Hid (GcI a b p q)∧Hid (Below w.heap.size w wr)) (fun _ y _=>(intOf y).natAbs)
 case atStart=>exact⟨a,b,rfl,rfl,hst,hb0⟩
 case round =>
  clear hst hb0
  obtain⟨p,q,rfl,rfl,hs,hB⟩:=hrel
  by_cases hq:q=0
  ·subst hq
   have hr:Hid ((Int.gcd a b:Int)=max p (-p)):=by
    have h:=hs.out.1
    rw[Cal.gcd_end] at h
    show _=_
    rw[←h]
    omega
   have hp:-9223372036854775807≤p∧p≤9223372036854775807:=by
    rcases hs.out.2 with ⟨h1,h2⟩ | ⟨h1,h2⟩
    ·omega
    omega
   have hng:IntKind.i64.wrap (-p)=-p:=wrap_sm (by omega) (by omega)
   obtain⟨p0,p1⟩:=hp
   clear hs
   go_wp2_with fail
   go_ret
   exact⟨ret_int hr.out.symm,hB.out⟩
  have hlt:=tmod_abs (a:=p) hq
  have hqb:q.natAbs≤b.natAbs:=by
   rcases hs.out.2 with ⟨h1,h2⟩ | ⟨h1,h2⟩
   ·rw[h2];exact Nat.le_refl _
   omega
  have hw:IntKind.i64.wrap (p.tmod q)=p.tmod q:=wrap_sm (by omega) (by omega)
  have hs2:Hid (GcI a b q (p.tmod q)):=⟨(Cal.gcd_step p q).trans hs.out.1,.inr ⟨hlt,hqb⟩⟩
  clear hs
  go_wp2_with fail
  refine wp_region_held_drew (S:=Sx wr []) (by kernel_rfl) (Sx.mk (cs_nil _) (Below.refl _ _)).drew (fun hHeld=>?_)
  refine tkHx 0 7 ?_
  refine tkHx 1 8 ?_
  refine tkHx 2 9 ?_
  refine tkHx 3 10 ?_
  refine tkHx 4 0 ?_
  refine tkHx 5 1 ?_
  refine wpAnyH_done (by kernel_rfl) ?_ _
  (try simp only[apS,apN,siA,scZ,scS])
  have hB2:=Lib.hid (hB.out.trans (hHeld.bel.mono hB.out.size))
  clear hHeld
  go_wp2_with fail
  go_roundw
  case rel=>exact⟨q,p.tmod q,rfl,by first | rfl | rw[hw],hs2,hB2⟩
  case measure=>exact hlt
def FrK (w:World) (W:World):Prop:=∃ x y,BoxAt W w.heap.size [x,y]∧Below w.heap.size w W
theorem frSize:(Tryz.prog.info? 33).map (·.size)=some 2:=by kernel_rfl
theorem lowest_any (a b:Int) (w:World) (ha:-9223372036854775808≤a∧a≤9223372036854775807) (hb:0<b) (hb2:b≤9223372036854775807) :
  Calls Tryz.prog 70 #[.int .i64 a,.int .i64 b] w fun e w'=>e=.returned (.agg #[.int .i64 (Cal.lowN a b),.int .i64 (Cal.lowD a b)])∧Below w.heap.size w w':=by
 have hgp:=Cal.gcd_pos (a:=a) hb
 obtain⟨ha1,ha2⟩:=ha
 have hcall:=Lib.hid (fun W=>gcd_any a b W hb hb2)
 have hN:Hid (Cal.lowN a b=a.tdiv (Int.gcd a b:Int)):=rfl
 have hD:Hid (Cal.lowD a b=b.tdiv (Int.gcd a b:Int)):=rfl
 have e1:(a.tdiv (Int.gcd a b:Int)).natAbs≤a.natAbs:=by rw[Int.natAbs_tdiv];exact Nat.div_le_self _ _
 have e2:(b.tdiv (Int.gcd a b:Int)).natAbs≤b.natAbs:=by rw[Int.natAbs_tdiv];exact Nat.div_le_self _ _
 have e3:0≤b.tdiv (Int.gcd a b:Int):=Int.tdiv_nonneg (by omega) (by omega)
 have e4:0≤a→0≤a.tdiv (Int.gcd a b:Int):=fun h=>Int.tdiv_nonneg h (by omega)
 have e5:a<0→a.tdiv (Int.gcd a b:Int)≤0:=fun h=>by
  have:=Int.tdiv_nonneg (a:=-a) (b:=(Int.gcd a b:Int)) (by omega) (by omega)
  rw[Int.neg_tdiv] at this
  omega
 generalize Int.gcd a b=g at *
 have w1:IntKind.i64.wrap (a.tdiv (g:Int))=a.tdiv (g:Int):=wrap_sm (by omega) (by omega)
 have w2:IntKind.i64.wrap (b.tdiv (g:Int))=b.tdiv (g:Int):=wrap_sm (by omega) (by omega)
 have hg0:¬(g:Int)=0:=by omega
 have hg1:¬g=0:=by omega
 have hb0:=BoxAt.new w #[.int .i64 0,.int .i64 0] 33
 have hal:=below_alloc w (.cells #[.int .i64 0,.int .i64 0] 33)
 replace hb0:=Lib.hid hb0
 replace hal:=Lib.hid hal
 rw[hN.out,hD.out]
 clear e1 e2 e3 e4 e5 hN hD
 go_enter Tryz.func70,Tryz.ntmps70
 go_wp2_with (go_at_call 69;refine (hcall.out _).mono ?_;rintro e0 w2 ⟨rfl,hbn⟩;replace hb0:=Lib.hid (hb0.out.below hbn);have hbw:=Lib.hid (below_step hal.out hbn);clear hbn hal hcall;obtain⟨x0,x1⟩:=hb0.out.c2;obtain⟨f0,f1⟩:=hb0.out.fr2)
 refine wp_region_held_drew (S:=FrK w) (by kernel_rfl) ⟨_,_,hb0.out.below ((Below.refl _ _).drew),hbw.out.drew⟩ (fun hHeld=>?_)
 clear x0 x1 f0 f1
 generalize w2.drew=W9 at *
 (refine tkH2 0 9 (v:=?_) ?_ ?_;rotate_left;focus (intro w' hSw;clear hSw;go_simp;(try with_reducible rfl));(try simp only[Act.put,List.setIfInBounds_toArray,List.set_cons_zero,List.set_cons_succ]))
 (refine tkH2 1 10 (v:=?_) ?_ ?_;rotate_left;focus (intro w' hSw;clear hSw;go_simp;(try with_reducible rfl));(try simp only[Act.put,List.setIfInBounds_toArray,List.set_cons_zero,List.set_cons_succ]))
 (refine tkH2 2 11 (v:=?_) ?_ ?_;rotate_left;focus (intro w' hSw;clear hSw;go_simp;(try with_reducible rfl));(try simp only[Act.put,List.setIfInBounds_toArray,List.set_cons_zero,List.set_cons_succ]))
 (refine tkH2 3 12 (v:=?_) ?_ ?_;rotate_left;focus (intro w' hSw;clear hSw;go_simp;(try with_reducible rfl));(try simp only[Act.put,List.setIfInBounds_toArray,List.set_cons_zero,List.set_cons_succ]))
 (refine tkH2 4 13 (v:=?_) ?_ ?_;rotate_left;focus (intro w' hSw;clear hSw;go_simp;(try with_reducible rfl));(try simp only[Act.put,List.setIfInBounds_toArray,List.set_cons_zero,List.set_cons_succ]))
 (refine tkH2 5 14 (v:=?_) ?_ ?_;rotate_left;focus (intro w' hSw;clear hSw;go_simp;(try with_reducible rfl));(try simp only[Act.put,List.setIfInBounds_toArray,List.set_cons_zero,List.set_cons_succ]))
 (refine tkH2 6 15 (v:=?_) ?_ ?_;rotate_left;focus (intro w' hSw;clear hSw;go_simp;(try with_reducible rfl));(try simp only[Act.put,List.setIfInBounds_toArray,List.set_cons_zero,List.set_cons_succ]))
 obtain⟨z0,z1,hz,hzb⟩:=hHeld
 obtain⟨x0,x1⟩:=hz.c2;obtain⟨f0,f1⟩:=hz.fr2
 have hz9:=Lib.hid ((hz.set 0 (.int .i64 (a.tdiv (g:Int))) (by simp)).set 1 (.int .i64 (b.tdiv (g:Int))) (by simp))
 have hzb9:=Lib.hid ((hzb.setCell (p:=⟨w.heap.size,0,none⟩) (Nat.le_refl _) (.int .i64 (a.tdiv (g:Int)))).setCell (p:=⟨w.heap.size,1,none⟩) (Nat.le_refl _) (.int .i64 (b.tdiv (g:Int))))
 (refine ratHx 7 (fun K hK=>?_);go_simp)
 refine hK.out _ _ ⟨_,_,hz9.out,hzb9.out⟩ (fun hHeld=>?_)
 clear hK K hHeld
 (try simp only[apS,apN,siA,scZ,scS])
 refine wpAnyH_done (by kernel_rfl) ?_ _
 go_wp2_with fail
 refine bodyPost_ret (results_mid1 rfl _ _ w.heap.size [.int .i64 (a.tdiv (g:Int)),.int .i64 (b.tdiv (g:Int))] _ rfl hz9.out.range Tryz.underlying33 rfl frSize) rfl ⟨rfl,hzb9.out⟩
end Go.Proofs.YtcnfhnndppollaaGreatDoor
namespace Go.Proofs.YtcnfhnndppollaaGreatDoor
open Go Go.RowKit Go.Shelf
theorem lowest_1_4 (w:World):Calls Tryz.prog 70 #[.int .i64 1,.int .i64 4] w fun e w'=>e=.returned (.agg #[.int .i64 1,.int .i64 4])∧Below w.heap.size w w':=by
 have h:=lowest_any 1 4 w (by decide) (by decide) (by decide)
 rw[show Cal.lowN 1 4=1 by decide,show Cal.lowD 1 4=4 by decide] at h
 exact h
theorem lowest_1_1 (w:World):Calls Tryz.prog 70 #[.int .i64 1,.int .i64 1] w fun e w'=>e=.returned (.agg #[.int .i64 1,.int .i64 1])∧Below w.heap.size w w':=by
 have h:=lowest_any 1 1 w (by decide) (by decide) (by decide)
 rw[show Cal.lowN 1 1=1 by decide,show Cal.lowD 1 1=1 by decide] at h
 exact h
theorem radd_0_1_1_1 (w:World):Calls Tryz.prog 52 #[.agg #[.int .i64 0,.int .i64 1],.agg #[.int .i64 1,.int .i64 1]] w fun e w'=>e=.returned (.agg #[.int .i64 1,.int .i64 1])∧Below w.heap.size w w':=by
 have h0:=BoxAt.new (((w.alloc (.cells #[.int .i64 0,.int .i64 1] 33)).alloc (.cells #[.int .i64 1,.int .i64 1] 33))) #[.int .i64 0,.int .i64 0] 33
 rw[World.size_alloc,World.size_alloc] at h0
 have hR:=Lib.hid h0
 have hb:=Lib.hid (below_step (below_step (below_alloc w (.cells #[.int .i64 0,.int .i64 1] 33)) (below_alloc _ (.cells #[.int .i64 1,.int .i64 1] 33))) (below_alloc _ (.cells #[.int .i64 0,.int .i64 0] 33)))
 clear h0
 go_enter Tryz.func52,Tryz.ntmps52
 go_wp2_with (first
  |(go_at_call 70;refine (lowest_1_1 _).mono ?_;rintro e9 wn ⟨rfl,hbn⟩;replace hR:=Lib.hid (hR.out.below hbn);replace hb:=Lib.hid (below_step hb.out hbn);clear hbn)
  |(refine wpList_store_box rfl 33 (.tmp 4) (.tmp 21) rfl (w.heap.size+1+1) _ [.int .i64 1,.int .i64 1] (by rfl) (by rfl) hR.out rfl frSize (by kernel_rfl) ?_;intro w4 h4 hg4))
 refine bodyPost_ret (results_mid1 rfl _ _ (w.heap.size+1+1) [.int .i64 1,.int .i64 1] _ rfl h4.range Tryz.underlying33 rfl frSize) rfl ⟨rfl,below_of_grownB hb.out hg4 (by omega)⟩
theorem radd_0_1_1_4 (w:World):Calls Tryz.prog 52 #[.agg #[.int .i64 0,.int .i64 1],.agg #[.int .i64 1,.int .i64 4]] w fun e w'=>e=.returned (.agg #[.int .i64 1,.int .i64 4])∧Below w.heap.size w w':=by
 have h0:=BoxAt.new (((w.alloc (.cells #[.int .i64 0,.int .i64 1] 33)).alloc (.cells #[.int .i64 1,.int .i64 4] 33))) #[.int .i64 0,.int .i64 0] 33
 rw[World.size_alloc,World.size_alloc] at h0
 have hR:=Lib.hid h0
 have hb:=Lib.hid (below_step (below_step (below_alloc w (.cells #[.int .i64 0,.int .i64 1] 33)) (below_alloc _ (.cells #[.int .i64 1,.int .i64 4] 33))) (below_alloc _ (.cells #[.int .i64 0,.int .i64 0] 33)))
 clear h0
 go_enter Tryz.func52,Tryz.ntmps52
 go_wp2_with (first
  |(go_at_call 70;refine (lowest_1_4 _).mono ?_;rintro e9 wn ⟨rfl,hbn⟩;replace hR:=Lib.hid (hR.out.below hbn);replace hb:=Lib.hid (below_step hb.out hbn);clear hbn)
  |(refine wpList_store_box rfl 33 (.tmp 4) (.tmp 21) rfl (w.heap.size+1+1) _ [.int .i64 1,.int .i64 4] (by rfl) (by rfl) hR.out rfl frSize (by kernel_rfl) ?_;intro w4 h4 hg4))
 refine bodyPost_ret (results_mid1 rfl _ _ (w.heap.size+1+1) [.int .i64 1,.int .i64 4] _ rfl h4.range Tryz.underlying33 rfl frSize) rfl ⟨rfl,below_of_grownB hb.out hg4 (by omega)⟩
theorem lowest_3_8 (w:World):Calls Tryz.prog 70 #[.int .i64 3,.int .i64 8] w fun e w'=>e=.returned (.agg #[.int .i64 3,.int .i64 8])∧Below w.heap.size w w':=by
 have h:=lowest_any 3 8 w (by decide) (by decide) (by decide)
 rw[show Cal.lowN 3 8=3 by decide,show Cal.lowD 3 8=8 by decide] at h
 exact h
theorem radd_0_1_3_8 (w:World):Calls Tryz.prog 52 #[.agg #[.int .i64 0,.int .i64 1],.agg #[.int .i64 3,.int .i64 8]] w fun e w'=>e=.returned (.agg #[.int .i64 3,.int .i64 8])∧Below w.heap.size w w':=by
 have h0:=BoxAt.new (((w.alloc (.cells #[.int .i64 0,.int .i64 1] 33)).alloc (.cells #[.int .i64 3,.int .i64 8] 33))) #[.int .i64 0,.int .i64 0] 33
 rw[World.size_alloc,World.size_alloc] at h0
 have hR:=Lib.hid h0
 have hb:=Lib.hid (below_step (below_step (below_alloc w (.cells #[.int .i64 0,.int .i64 1] 33)) (below_alloc _ (.cells #[.int .i64 3,.int .i64 8] 33))) (below_alloc _ (.cells #[.int .i64 0,.int .i64 0] 33)))
 clear h0
 go_enter Tryz.func52,Tryz.ntmps52
 go_wp2_with (first
  |(go_at_call 70;refine (lowest_3_8 _).mono ?_;rintro e9 wn ⟨rfl,hbn⟩;replace hR:=Lib.hid (hR.out.below hbn);replace hb:=Lib.hid (below_step hb.out hbn);clear hbn)
  |(refine wpList_store_box rfl 33 (.tmp 4) (.tmp 21) rfl (w.heap.size+1+1) _ [.int .i64 3,.int .i64 8] (by rfl) (by rfl) hR.out rfl frSize (by kernel_rfl) ?_;intro w4 h4 hg4))
 refine bodyPost_ret (results_mid1 rfl _ _ (w.heap.size+1+1) [.int .i64 3,.int .i64 8] _ rfl h4.range Tryz.underlying33 rfl frSize) rfl ⟨rfl,below_of_grownB hb.out hg4 (by omega)⟩
theorem lowest_3_4 (w:World):Calls Tryz.prog 70 #[.int .i64 3,.int .i64 4] w fun e w'=>e=.returned (.agg #[.int .i64 3,.int .i64 4])∧Below w.heap.size w w':=by
 have h:=lowest_any 3 4 w (by decide) (by decide) (by decide)
 rw[show Cal.lowN 3 4=3 by decide,show Cal.lowD 3 4=4 by decide] at h
 exact h
theorem rsub_1_1_1_4 (w:World):Calls Tryz.prog 57 #[.agg #[.int .i64 1,.int .i64 1],.agg #[.int .i64 1,.int .i64 4]] w fun e w'=>e=.returned (.agg #[.int .i64 3,.int .i64 4])∧Below w.heap.size w w':=by
 have h0:=BoxAt.new (((w.alloc (.cells #[.int .i64 1,.int .i64 1] 33)).alloc (.cells #[.int .i64 1,.int .i64 4] 33))) #[.int .i64 0,.int .i64 0] 33
 rw[World.size_alloc,World.size_alloc] at h0
 have hR:=Lib.hid h0
 have hb:=Lib.hid (below_step (below_step (below_alloc w (.cells #[.int .i64 1,.int .i64 1] 33)) (below_alloc _ (.cells #[.int .i64 1,.int .i64 4] 33))) (below_alloc _ (.cells #[.int .i64 0,.int .i64 0] 33)))
 clear h0
 go_enter Tryz.func57,Tryz.ntmps57
 go_wp2_with (first
  |(go_at_call 70;refine (lowest_3_4 _).mono ?_;rintro e9 wn ⟨rfl,hbn⟩;replace hR:=Lib.hid (hR.out.below hbn);replace hb:=Lib.hid (below_step hb.out hbn);clear hbn)
  |(refine wpList_store_box rfl 33 (.tmp 4) (.tmp 21) rfl (w.heap.size+1+1) _ [.int .i64 3,.int .i64 4] (by rfl) (by rfl) hR.out rfl frSize (by kernel_rfl) ?_;intro w4 h4 hg4))
 refine bodyPost_ret (results_mid1 rfl _ _ (w.heap.size+1+1) [.int .i64 3,.int .i64 4] _ rfl h4.range Tryz.underlying33 rfl frSize) rfl ⟨rfl,below_of_grownB hb.out hg4 (by omega)⟩
theorem seen_any (C:Nat) (a b:Int) (w:World) (hb:b≤1000000000):Calls Tryz.prog 75 #[.pointer (some ⟨C,0,none⟩),.agg #[.int .i64 a,.int .i64 b]] w fun e w'=>e=.returned (.agg #[.int .i64 a,.int .i64 b])∧Below w.heap.size w w':=by
 have h0:=BoxAt.new ((w.alloc (.cells #[.int .i64 a,.int .i64 b] 33))) #[.int .i64 0,.int .i64 0] 33
 rw[World.size_alloc] at h0
 have hR:=Lib.hid h0
 have hB:=Lib.hid (below_step (below_alloc w (.cells #[.int .i64 a,.int .i64 b] 33)) (below_alloc _ (.cells #[.int .i64 0,.int .i64 0] 33)))
 have x0:=((BoxAt.new w #[.int .i64 a,.int .i64 b] 33).alloc (.cells #[.int .i64 0,.int .i64 0] 33)).c 0 _ rfl
 have x1:=((BoxAt.new w #[.int .i64 a,.int .i64 b] 33).alloc (.cells #[.int .i64 0,.int .i64 0] 33)).c 1 _ rfl
 clear h0
 go_enter Tryz.func75,Tryz.ntmps75
 go_wp2_with (refine wpList_store_box rfl 33 (.tmp 4) (.tmp 12) rfl (w.heap.size+1) _ [.int .i64 a,.int .i64 b] (by rfl) (by rfl) hR.out rfl frSize (by kernel_rfl) ?_;intro w4 h4 hg4)
 refine bodyPost_ret (results_mid1 rfl _ _ (w.heap.size+1) [.int .i64 a,.int .i64 b] _ rfl h4.range Tryz.underlying33 rfl frSize) rfl ⟨rfl,below_of_grownB hB.out hg4 (by omega)⟩
theorem cmul_3_4_1_2 (C:Nat) (w:World):Calls Tryz.prog 58 #[.pointer (some ⟨C,0,none⟩),.agg #[.int .i64 3,.int .i64 4],.agg #[.int .i64 1,.int .i64 2]] w fun e w'=>e=.returned (.agg #[.int .i64 3,.int .i64 8])∧Below w.heap.size w w':=by
 have h0:=BoxAt.new (((w.alloc (.cells #[.int .i64 3,.int .i64 4] 33)).alloc (.cells #[.int .i64 1,.int .i64 2] 33))) #[.int .i64 0,.int .i64 0] 33
 rw[World.size_alloc,World.size_alloc] at h0
 have hR:=Lib.hid h0
 have hb:=Lib.hid (below_step (below_step (below_alloc w (.cells #[.int .i64 3,.int .i64 4] 33)) (below_alloc _ (.cells #[.int .i64 1,.int .i64 2] 33))) (below_alloc _ (.cells #[.int .i64 0,.int .i64 0] 33)))
 clear h0
 go_enter Tryz.func58,Tryz.ntmps58
 go_wp2_with (first
  |(go_at_call 70;refine (lowest_3_8 _).mono ?_;rintro e9 wn ⟨rfl,hbn⟩;replace hR:=Lib.hid (hR.out.below hbn);replace hb:=Lib.hid (below_step hb.out hbn);clear hbn)
  |(go_at_call 75;refine (seen_any _ _ _ _ (by decide)).mono ?_;rintro e9 wn ⟨rfl,hbn⟩;replace hR:=Lib.hid (hR.out.below hbn);replace hb:=Lib.hid (below_step hb.out hbn);clear hbn)
  |(refine wpList_store_box rfl 33 (.tmp 6) (.tmp 19) rfl (w.heap.size+1+1) _ [.int .i64 3,.int .i64 8] (by rfl) (by rfl) hR.out rfl frSize (by kernel_rfl) ?_;intro w4 h4 hg4))
 refine bodyPost_ret (results_mid1 rfl _ _ (w.heap.size+1+1) [.int .i64 3,.int .i64 8] _ rfl h4.range Tryz.underlying33 rfl frSize) rfl ⟨rfl,below_of_grownB hb.out hg4 (by omega)⟩
theorem cmul_1_1_3_8 (C:Nat) (w:World):Calls Tryz.prog 58 #[.pointer (some ⟨C,0,none⟩),.agg #[.int .i64 1,.int .i64 1],.agg #[.int .i64 3,.int .i64 8]] w fun e w'=>e=.returned (.agg #[.int .i64 3,.int .i64 8])∧Below w.heap.size w w':=by
 have h0:=BoxAt.new (((w.alloc (.cells #[.int .i64 1,.int .i64 1] 33)).alloc (.cells #[.int .i64 3,.int .i64 8] 33))) #[.int .i64 0,.int .i64 0] 33
 rw[World.size_alloc,World.size_alloc] at h0
 have hR:=Lib.hid h0
 have hb:=Lib.hid (below_step (below_step (below_alloc w (.cells #[.int .i64 1,.int .i64 1] 33)) (below_alloc _ (.cells #[.int .i64 3,.int .i64 8] 33))) (below_alloc _ (.cells #[.int .i64 0,.int .i64 0] 33)))
 clear h0
 go_enter Tryz.func58,Tryz.ntmps58
 go_wp2_with (first
  |(go_at_call 70;refine (lowest_3_8 _).mono ?_;rintro e9 wn ⟨rfl,hbn⟩;replace hR:=Lib.hid (hR.out.below hbn);replace hb:=Lib.hid (below_step hb.out hbn);clear hbn)
  |(go_at_call 75;refine (seen_any _ _ _ _ (by decide)).mono ?_;rintro e9 wn ⟨rfl,hbn⟩;replace hR:=Lib.hid (hR.out.below hbn);replace hb:=Lib.hid (below_step hb.out hbn);clear hbn)
  |(refine wpList_store_box rfl 33 (.tmp 6) (.tmp 19) rfl (w.heap.size+1+1) _ [.int .i64 3,.int .i64 8] (by rfl) (by rfl) hR.out rfl frSize (by kernel_rfl) ?_;intro w4 h4 hg4))
 refine bodyPost_ret (results_mid1 rfl _ _ (w.heap.size+1+1) [.int .i64 3,.int .i64 8] _ rfl h4.range Tryz.underlying33 rfl frSize) rfl ⟨rfl,below_of_grownB hb.out hg4 (by omega)⟩
theorem cmul_1_1_1_4 (C:Nat) (w:World):Calls Tryz.prog 58 #[.pointer (some ⟨C,0,none⟩),.agg #[.int .i64 1,.int .i64 1],.agg #[.int .i64 1,.int .i64 4]] w fun e w'=>e=.returned (.agg #[.int .i64 1,.int .i64 4])∧Below w.heap.size w w':=by
 have h0:=BoxAt.new (((w.alloc (.cells #[.int .i64 1,.int .i64 1] 33)).alloc (.cells #[.int .i64 1,.int .i64 4] 33))) #[.int .i64 0,.int .i64 0] 33
 rw[World.size_alloc,World.size_alloc] at h0
 have hR:=Lib.hid h0
 have hb:=Lib.hid (below_step (below_step (below_alloc w (.cells #[.int .i64 1,.int .i64 1] 33)) (below_alloc _ (.cells #[.int .i64 1,.int .i64 4] 33))) (below_alloc _ (.cells #[.int .i64 0,.int .i64 0] 33)))
 clear h0
 go_enter Tryz.func58,Tryz.ntmps58
 go_wp2_with (first
  |(go_at_call 70;refine (lowest_1_4 _).mono ?_;rintro e9 wn ⟨rfl,hbn⟩;replace hR:=Lib.hid (hR.out.below hbn);replace hb:=Lib.hid (below_step hb.out hbn);clear hbn)
  |(go_at_call 75;refine (seen_any _ _ _ _ (by decide)).mono ?_;rintro e9 wn ⟨rfl,hbn⟩;replace hR:=Lib.hid (hR.out.below hbn);replace hb:=Lib.hid (below_step hb.out hbn);clear hbn)
  |(refine wpList_store_box rfl 33 (.tmp 6) (.tmp 19) rfl (w.heap.size+1+1) _ [.int .i64 1,.int .i64 4] (by rfl) (by rfl) hR.out rfl frSize (by kernel_rfl) ?_;intro w4 h4 hg4))
 refine bodyPost_ret (results_mid1 rfl _ _ (w.heap.size+1+1) [.int .i64 1,.int .i64 4] _ rfl h4.range Tryz.underlying33 rfl frSize) rfl ⟨rfl,below_of_grownB hb.out hg4 (by omega)⟩
theorem cadd_0_1_1_4 (C:Nat) (w:World):Calls Tryz.prog 59 #[.pointer (some ⟨C,0,none⟩),.agg #[.int .i64 0,.int .i64 1],.agg #[.int .i64 1,.int .i64 4]] w fun e w'=>e=.returned (.agg #[.int .i64 1,.int .i64 4])∧Below w.heap.size w w':=by
 have h0:=BoxAt.new (((w.alloc (.cells #[.int .i64 0,.int .i64 1] 33)).alloc (.cells #[.int .i64 1,.int .i64 4] 33))) #[.int .i64 0,.int .i64 0] 33
 rw[World.size_alloc,World.size_alloc] at h0
 have hR:=Lib.hid h0
 have hb:=Lib.hid (below_step (below_step (below_alloc w (.cells #[.int .i64 0,.int .i64 1] 33)) (below_alloc _ (.cells #[.int .i64 1,.int .i64 4] 33))) (below_alloc _ (.cells #[.int .i64 0,.int .i64 0] 33)))
 clear h0
 go_enter Tryz.func59,Tryz.ntmps59
 go_wp2_with (first
  |(go_at_call 52;refine (radd_0_1_1_4 _).mono ?_;rintro e9 wn ⟨rfl,hbn⟩;replace hR:=Lib.hid (hR.out.below hbn);replace hb:=Lib.hid (below_step hb.out hbn);clear hbn)
  |(go_at_call 75;refine (seen_any _ _ _ _ (by decide)).mono ?_;rintro e9 wn ⟨rfl,hbn⟩;replace hR:=Lib.hid (hR.out.below hbn);replace hb:=Lib.hid (below_step hb.out hbn);clear hbn)
  |(refine wpList_store_box rfl 33 (.tmp 6) (.tmp 11) rfl (w.heap.size+1+1) _ [.int .i64 1,.int .i64 4] (by rfl) (by rfl) hR.out rfl frSize (by kernel_rfl) ?_;intro w4 h4 hg4))
 refine bodyPost_ret (results_mid1 rfl _ _ (w.heap.size+1+1) [.int .i64 1,.int .i64 4] _ rfl h4.range Tryz.underlying33 rfl frSize) rfl ⟨rfl,below_of_grownB hb.out hg4 (by omega)⟩
theorem cadd_0_1_3_8 (C:Nat) (w:World):Calls Tryz.prog 59 #[.pointer (some ⟨C,0,none⟩),.agg #[.int .i64 0,.int .i64 1],.agg #[.int .i64 3,.int .i64 8]] w fun e w'=>e=.returned (.agg #[.int .i64 3,.int .i64 8])∧Below w.heap.size w w':=by
 have h0:=BoxAt.new (((w.alloc (.cells #[.int .i64 0,.int .i64 1] 33)).alloc (.cells #[.int .i64 3,.int .i64 8] 33))) #[.int .i64 0,.int .i64 0] 33
 rw[World.size_alloc,World.size_alloc] at h0
 have hR:=Lib.hid h0
 have hb:=Lib.hid (below_step (below_step (below_alloc w (.cells #[.int .i64 0,.int .i64 1] 33)) (below_alloc _ (.cells #[.int .i64 3,.int .i64 8] 33))) (below_alloc _ (.cells #[.int .i64 0,.int .i64 0] 33)))
 clear h0
 go_enter Tryz.func59,Tryz.ntmps59
 go_wp2_with (first
  |(go_at_call 52;refine (radd_0_1_3_8 _).mono ?_;rintro e9 wn ⟨rfl,hbn⟩;replace hR:=Lib.hid (hR.out.below hbn);replace hb:=Lib.hid (below_step hb.out hbn);clear hbn)
  |(go_at_call 75;refine (seen_any _ _ _ _ (by decide)).mono ?_;rintro e9 wn ⟨rfl,hbn⟩;replace hR:=Lib.hid (hR.out.below hbn);replace hb:=Lib.hid (below_step hb.out hbn);clear hbn)
  |(refine wpList_store_box rfl 33 (.tmp 6) (.tmp 11) rfl (w.heap.size+1+1) _ [.int .i64 3,.int .i64 8] (by rfl) (by rfl) hR.out rfl frSize (by kernel_rfl) ?_;intro w4 h4 hg4))
 refine bodyPost_ret (results_mid1 rfl _ _ (w.heap.size+1+1) [.int .i64 3,.int .i64 8] _ rfl h4.range Tryz.underlying33 rfl frSize) rfl ⟨rfl,below_of_grownB hb.out hg4 (by omega)⟩
end Go.Proofs.YtcnfhnndppollaaGreatDoor
namespace Go.Proofs.YtcnfhnndppollaaGreatDoor
open Go Go.RowKit
structure Lw where
 fr:Int
 st:Bool
 n:Int
 d:Int
structure Pa where
 name:ByteArray
 n:Int
 d:Int
def Lw.cells (x:Lw):List Value:=[.int .i64 x.fr,.bool x.st,.int .i64 x.n,.int .i64 x.d]
def Pa.cells (x:Pa):List Value:=[.string x.name,.int .i64 x.n,.int .i64 x.d]
def famLaws:List Lw:=[⟨0,false,1,4⟩,⟨50000,true,1,2⟩]
theorem isFr_1_4 (w:World):Calls Tryz.prog 49 #[.agg #[.int .i64 1,.int .i64 4]] w fun e w'=>e=.returned (.bool true)∧Below w.heap.size w w':=by
 have hb:=Lib.hid (below_alloc w (.cells #[.int .i64 1,.int .i64 4] 33))
 have hg:=Lib.hid (fun W=>gcd_any 1 4 W (by decide) (by decide))
 rw[show ((Int.gcd 1 4:Nat):Int)=1 by decide] at hg
 go_enter Tryz.func49,Tryz.ntmps49
 go_wp2_with (first
  |(go_at_call 29;refine (rwithin_any _ _ _ _).mono ?_;rintro e w' ⟨rfl,rfl⟩)
  |(go_at_call 69;refine (hg.out _).mono ?_;rintro e9 wn ⟨rfl,hbn⟩;replace hb:=Lib.hid (below_step hb.out hbn);clear hbn))
 go_ret
 exact⟨rfl,hb.out⟩
theorem isFr_1_2 (w:World):Calls Tryz.prog 49 #[.agg #[.int .i64 1,.int .i64 2]] w fun e w'=>e=.returned (.bool true)∧Below w.heap.size w w':=by
 have hb:=Lib.hid (below_alloc w (.cells #[.int .i64 1,.int .i64 2] 33))
 have hg:=Lib.hid (fun W=>gcd_any 1 2 W (by decide) (by decide))
 rw[show ((Int.gcd 1 2:Nat):Int)=1 by decide] at hg
 go_enter Tryz.func49,Tryz.ntmps49
 go_wp2_with (first
  |(go_at_call 29;refine (rwithin_any _ _ _ _).mono ?_;rintro e w' ⟨rfl,rfl⟩)
  |(go_at_call 69;refine (hg.out _).mono ?_;rintro e9 wn ⟨rfl,hbn⟩;replace hb:=Lib.hid (below_step hb.out hbn);clear hbn))
 go_ret
 exact⟨rfl,hb.out⟩
theorem isFr_1_1 (w:World):Calls Tryz.prog 49 #[.agg #[.int .i64 1,.int .i64 1]] w fun e w'=>e=.returned (.bool true)∧Below w.heap.size w w':=by
 have hb:=Lib.hid (below_alloc w (.cells #[.int .i64 1,.int .i64 1] 33))
 have hg:=Lib.hid (fun W=>gcd_any 1 1 W (by decide) (by decide))
 rw[show ((Int.gcd 1 1:Nat):Int)=1 by decide] at hg
 go_enter Tryz.func49,Tryz.ntmps49
 go_wp2_with (first
  |(go_at_call 29;refine (rwithin_any _ _ _ _).mono ?_;rintro e w' ⟨rfl,rfl⟩)
  |(go_at_call 69;refine (hg.out _).mono ?_;rintro e9 wn ⟨rfl,hbn⟩;replace hb:=Lib.hid (below_step hb.out hbn);clear hbn))
 go_ret
 exact⟨rfl,hb.out⟩
theorem CheckLaws_nil (c:Nat) (A:Option Addr) (w:World):Calls Tryz.prog 28 #[.slice A 0 c] w fun e w'=>e=.returned (.int .i64 0)∧Below w.heap.size w w':=by
 go_enter Tryz.func28,Tryz.ntmps28
 go_wp2
 refine wp_unroll 1 ?_
 unfold unroll
 go_wp2
 go_ret
 exact⟨rfl,Below.refl _ _⟩
theorem lw_two {w:World} {A:Option Addr} (h:RowsAt w A 4 (famLaws.map Lw.cells)):∃ b o,A=some ⟨b,o,none⟩∧b<w.heap.size∧(w.cell? ⟨b,o,none⟩=some (.int .i64 0)∧w.cell? ⟨b,o+1,none⟩=some (.bool false)∧w.cell? ⟨b,o+2,none⟩=some (.int .i64 1)∧w.cell? ⟨b,o+3,none⟩=some (.int .i64 4))∧(w.cell? ⟨b,o+4,none⟩=some (.int .i64 50000)∧w.cell? ⟨b,o+4+1,none⟩=some (.bool true)∧w.cell? ⟨b,o+4+2,none⟩=some (.int .i64 1)∧w.cell? ⟨b,o+4+3,none⟩=some (.int .i64 2)):=by
 obtain⟨b,o,hA,hb,h0⟩:=h 0 _ rfl
 obtain⟨b',o',hA',_,h1⟩:=h 1 _ rfl
 rw[hA] at hA'
 cases hA'
 exact⟨b,o,hA,hb,⟨h0 0 _ rfl,h0 1 _ rfl,h0 2 _ rfl,h0 3 _ rfl⟩,⟨h1 0 _ rfl,h1 1 _ rfl,h1 2 _ rfl,h1 3 _ rfl⟩⟩
theorem CheckLaws_fam (c:Nat) (A:Option Addr) (w:World) (h:RowsAt w A 4 (famLaws.map Lw.cells)):Calls Tryz.prog 28 #[.slice A 2 c] w fun e w'=>e=.returned (.int .i64 0)∧Below w.heap.size w w':=by
 have hz:=Lib.hid (fun W (hb:Below w.heap.size w W)=>lw_two (h.below hb))
 obtain⟨b,o,hA,hbl,⟨c0,c1,c2,c3⟩,_⟩:=lw_two h
 subst hA
 clear h
 have hb:=Lib.hid (below_alloc w (.cells #[.int .i64 0,.bool false,.int .i64 1,.int .i64 4] 56))
 have hx:=Lib.hid (BoxAt.new w #[.int .i64 0,.bool false,.int .i64 1,.int .i64 4] 56)
 go_enter Tryz.func28,Tryz.ntmps28
 go_wp2
 refine wp_unroll 3 ?_
 unfold unroll
 go_wp2_with (first
  |(go_at_call 30;refine (risDay_any _ _).mono ?_;rintro e w' ⟨rfl,rfl⟩)
  |(go_at_call 49;clear c0 c1 c2 c3;refine (isFr_1_4 _).mono ?_;rintro e9 wn ⟨rfl,hbn⟩;replace hx:=Lib.hid (hx.out.below hbn);replace hb:=Lib.hid (below_step hb.out hbn);clear hbn;have x0:=hx.out.c 0 _ rfl))
 go_quiet (fail)
 replace hx:=Lib.hid (hx.out.below (below_drewN (Below.refl wn.heap.size wn) nq))
 replace hb:=Lib.hid (below_step hb.out (below_drewN (Below.refl wn.heap.size wn) nq))
 clear x0
 generalize wn.drewN nq=W1 at *
 obtain⟨b1,o1,hA,hbl1,⟨c0,c1,c2,c3⟩,⟨d0,d1,d2,d3⟩⟩:=hz.out _ hb.out
 cases hA
 have hb1:=Lib.hid (below_step hb.out (below_alloc W1 (.cells #[.int .i64 50000,.bool true,.int .i64 1,.int .i64 2] 56)))
 have hx1:=Lib.hid (BoxAt.new W1 #[.int .i64 50000,.bool true,.int .i64 1,.int .i64 2] 56)
 clear hb hx
 go_wp2
 unfold unroll
 go_wp2_with (first
  |(go_at_call 30;refine (risDay_any _ _).mono ?_;rintro e w' ⟨rfl,rfl⟩)
  |(go_at_call 49;clear c0 c1 c2 c3 d0 d1 d2 d3;refine (isFr_1_2 _).mono ?_;rintro e9 wn2 ⟨rfl,hbn⟩;replace hx1:=Lib.hid (hx1.out.below hbn);replace hb1:=Lib.hid (below_step hb1.out hbn);clear hbn;have x0:=hx1.out.c 0 _ rfl;obtain⟨b2,o2,hA2,hbl2,⟨c0,c1,c2,c3⟩,⟨d0,d1,d2,d3⟩⟩:=hz.out _ hb1.out;cases hA2))
 go_quiet (fail)
 go_wp2
 unfold unroll
 go_wp2
 go_ret
 exact⟨rfl,below_step hb1.out (below_drewN (Below.refl _ _) _)⟩
theorem lwSize:(Tryz.prog.info? 56).map (·.size)=some 4:=by kernel_rfl
theorem lawOn_fam (c:Nat) (A:Option Addr) (w:World) (h:RowsAt w A 4 (famLaws.map Lw.cells)):Calls Tryz.prog 62 #[.slice A 2 c,.int .i64 200] w fun e w'=>e=.returned (.agg #[.int .i64 0,.bool false,.int .i64 1,.int .i64 4])∧Below w.heap.size w w':=by
 have hz:=Lib.hid (fun W (hb:Below w.heap.size w W)=>lw_two (h.below hb))
 obtain⟨b,o,hA,hbl,⟨c0,c1,c2,c3⟩,⟨d0,d1,d2,d3⟩⟩:=lw_two h
 subst hA
 clear h
 have b4:=(BoxAt.new w #[.int .i64 0,.bool false,.int .i64 0,.int .i64 0] 56)
 have b5:=BoxAt.new (w.alloc (.cells #[.int .i64 0,.bool false,.int .i64 0,.int .i64 0] 56)) #[.int .i64 0,.bool false,.int .i64 0,.int .i64 1] 56
 rw[World.size_alloc] at b5
 have b4:=Lib.hid ((b4.alloc (.cells #[.int .i64 0,.bool false,.int .i64 0,.int .i64 1] 56)).alloc (.cells #[.int .i64 0,.bool false,.int .i64 1,.int .i64 4] 56))
 have b5:=Lib.hid (b5.alloc (.cells #[.int .i64 0,.bool false,.int .i64 1,.int .i64 4] 56))
 have hb:=Lib.hid (below_step (below_step (below_alloc w (.cells #[.int .i64 0,.bool false,.int .i64 0,.int .i64 0] 56)) (below_alloc _ (.cells #[.int .i64 0,.bool false,.int .i64 0,.int .i64 1] 56))) (below_alloc _ (.cells #[.int .i64 0,.bool false,.int .i64 1,.int .i64 4] 56)))
 go_enter Tryz.func62,Tryz.ntmps62
 go_wp2
 refine wp_unroll 3 ?_
 unfold unroll
 go_wp2_with (refine wpList_store_box rfl 56 (.tmp 5) (.tmp 20) rfl (w.heap.size+1) _ [.int .i64 0,.bool false,.int .i64 1,.int .i64 4] (by rfl) (by rfl) b5.out rfl lwSize (by kernel_rfl) ?_;intro w4 h4 hg4;clear c0 c1 c2 c3 d0 d1 d2 d3;replace b4:=Lib.hid (b4.out.grown hg4 (by simp));replace hb:=Lib.hid (below_of_grownB hb.out hg4 (by omega));replace b5:=Lib.hid h4;clear h4 hg4)
 obtain⟨b1,o1,hA,hbl1,⟨c0,c1,c2,c3⟩,⟨d0,d1,d2,d3⟩⟩:=hz.out _ hb.out
 cases hA
 unfold unroll
 go_wp2
 replace b4:=Lib.hid (b4.out.alloc (.cells #[.int .i64 50000,.bool true,.int .i64 1,.int .i64 2] 56))
 replace b5:=Lib.hid (b5.out.alloc (.cells #[.int .i64 50000,.bool true,.int .i64 1,.int .i64 2] 56))
 replace hb:=Lib.hid (below_step hb.out (below_alloc w4 (.cells #[.int .i64 50000,.bool true,.int .i64 1,.int .i64 2] 56)))
 clear c0 c1 c2 c3 d0 d1 d2 d3
 generalize w4.alloc (.cells #[.int .i64 50000,.bool true,.int .i64 1,.int .i64 2] 56)=w5 at *
 obtain⟨e0,e1,e2,e3⟩:=b5.out.c4
 unfold unroll
 go_wp2_with (refine wpList_store_box rfl 56 (.tmp 4) (.tmp 22) rfl (w.heap.size) _ [.int .i64 0,.bool false,.int .i64 1,.int .i64 4] (by rfl) (by rfl) b4.out rfl lwSize (by kernel_rfl) ?_;intro w6 h6 hg6)
 refine bodyPost_ret (results_mid1 rfl _ _ (w.heap.size) [.int .i64 0,.bool false,.int .i64 1,.int .i64 4] _ rfl h6.range Tryz.underlying56 rfl lwSize) rfl ⟨rfl,below_of_grownB hb.out hg6 (Nat.le_refl _)⟩
theorem rlater_any (day years:Int) (w:World) (hT:Tab w) (y0:0≤years) (y1:years≤1000):Calls Tryz.prog 54 #[.int .i64 day,.int .i64 years] w fun e w'=>e=.returned (.int .i64 (if (Cal.addS day (12*years)).2=0 then (Cal.addS day (12*years)).1 else -1))∧Below w.heap.size w w':=by
 have hA:=Lib.hid (AddMonths_any day (12*years) w hT)
 obtain⟨q,hq⟩:∃ q,q=Cal.addS day (12*years):=⟨_,rfl⟩
 rw[←hq] at hA ⊢
 clear hq
 obtain⟨E,ec⟩:=q
 by_cases he:ec=0
 ·subst he
  go_enter Tryz.func54,Tryz.ntmps54
  go_wp2_with (go_at_call 8;refine hA.out.mono ?_;rintro e9 wn ⟨rfl,hbn⟩;replace hbn:=Lib.hid hbn)
  go_ret
  exact⟨rfl,hbn.out⟩
 have heq:(ec != 0)=true:=by simp[he]
 rw[if_neg he]
 clear he
 go_enter Tryz.func54,Tryz.ntmps54
 go_wp2_with (go_at_call 8;refine hA.out.mono ?_;rintro e9 wn ⟨rfl,hbn⟩;replace hbn:=Lib.hid hbn)
 go_ret
 exact⟨rfl,hbn.out⟩
end Go.Proofs.YtcnfhnndppollaaGreatDoor
