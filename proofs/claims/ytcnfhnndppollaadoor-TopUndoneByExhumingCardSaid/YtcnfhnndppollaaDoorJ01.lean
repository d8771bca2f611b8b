/- What the statements rest on: definitions and walks, part 01. -/
import Derived.Test.YtcnfhnndppollaaDoorRows
import Derived.WalkKit
import Derived.WalkSpells
import Derived.WalkLawsBesides
import Derived.ProofKit
import Derived.Lib.Hide
import Derived.Below
import Derived.LoopTactic
import Derived.Deep.LoopGhost
import Derived.Deep.Draws
import Derived.Deep.QuietTactic
import Derived.BigQuiet
import Derived.Deep.DeepFit
import Derived.Outline
import Derived.IntWalk
import Derived.ChangeSame
import Derived.Test.YtcnfhnndppollaaDoorTie
import Derived.Test.YtcnfhnndppollaaDoorCards
import Derived.RangeFuncOwn
import Derived.Deep.Slices
import Derived.Deep.Fields
import Derived.WideKeyArgs
import Derived.Lib.SmallJoins
import Derived.Deep.DeepHandedRow
import Derived.Lib.LaidTab
import Derived.OpenShut
import Derived.Carry
import Derived.Maps.OwnSet
import Derived.Maps.OwnOps
import Derived.Shelf.Small.Bits
import Derived.Shelf.Small.Strs
import Derived.Shelf.Strconv.Itoa0
import Derived.Test.YtcnfhnndppollaaDoorProg
set_option maxRecDepth 100000
set_option maxHeartbeats 16000000
set_option linter.unusedSimpArgs false
set_option linter.unusedVariables false
namespace Go.Proofs.YtcnfhnndppollaaDoor
open Go Go.RowKit Go.WideShapes Go.ChangeShapes
theorem ret_int {k:IntKind} {a b:Int} (h:a=b):Ending.returned (.int k a)=.returned (.int k b):=by rw[h]
theorem ret_bool {a b:Bool} (h:a=b):Ending.returned (.bool a)=.returned (.bool b):=by rw[h]
theorem below_drewN {B:Nat} {a w:World} (h:Below B a w) (n:Nat):Below B a (w.drewN n):=⟨h.os,h.tape,h.output,h.size,h.block⟩
theorem below_step {w a b:World} (h:Below w.heap.size w a) (k:Below a.heap.size a b):Below w.heap.size w b:=h.trans (k.mono h.size)
theorem below_alloc (w:World) (o:Obj):Below w.heap.size w (w.alloc o):=(Below.refl _ _).alloc (Nat.le_refl _) o
theorem quiet_left {P:Program} {f:FuncId} {args:Array Value} {w:World} {n:Nat} {v:Value}
  (h:Calls P f args (w.drewN n) fun e w'=>e=.returned v∧w.drewN n=w'):Calls P f args (w.drewN n) fun e w''=>e=.returned v∧∃ m,w''=w.drewN m :=
 h.mono fun _ _ ⟨he,hm⟩=>⟨he,n,hm.symm⟩
theorem calls_in {P:Program} {f:FuncId} {args:Array Value} {w:World} {p q:Prop} [Decidable p] [Decidable q] (h:Calls P f args w fun e w'=>e=.returned (.bool (decide p && decide q))∧w=w') (hp:p) (hq:q) :
  Calls P f args w fun e w'=>e=.returned (.bool true)∧w=w':=h.mono fun _ _ ⟨he,hw⟩=>⟨by rw[he];simp[hp,hq],hw⟩
theorem calls_out {P:Program} {f:FuncId} {args:Array Value} {w:World} {p q:Prop} [Decidable p] [Decidable q] (h:Calls P f args w fun e w'=>e=.returned (.bool (decide p && decide q))∧w=w') (hn:¬(p∧q)) :
  Calls P f args w fun e w'=>e=.returned (.bool false)∧w=w':=h.mono fun _ _ ⟨he,hw⟩=>⟨by rw[he];congr 2;by_cases hp:p <;> by_cases hq:q <;> simp_all,hw⟩
section
variable {f : FuncId} {args : Array Value} {w : World} {K : Ending → World → Prop} {p q : Prop} {dp : Decidable p} {dq : Decidable q}
theorem rin (k:K (.returned (.bool true)) w) (h:Calls Tryd.prog f args w fun e w'=>e=.returned (.bool (decide p && decide q))∧w=w':=by first | exact within_any _ _ _ _ | exact Within_any _ _ _ _ | exact isDay_any _ _ | exact IsDay_any _ _ | exact IsYear_any _ _ | exact IsFull_any _ _ | exact isFull_any _ _ | exact nwithin_any _ _ _ _ | exact vwithin_any _ _ _ _ | exact visDay_any _ _ | exact visCont_any _ _ | exact vIsDay_any _ _ | exact vIsCont_any _ _) (hp:p:=by omega) (hq:q:=by omega):Calls Tryd.prog f args w K :=
 (calls_in h hp hq).mono fun e w' ⟨he,hw⟩=>by subst he hw;exact k
theorem rout (k:K (.returned (.bool false)) w) (h:Calls Tryd.prog f args w fun e w'=>e=.returned (.bool (decide p && decide q))∧w=w':=by first | exact within_any _ _ _ _ | exact Within_any _ _ _ _ | exact isDay_any _ _ | exact IsDay_any _ _ | exact IsYear_any _ _ | exact IsFull_any _ _ | exact isFull_any _ _ | exact nwithin_any _ _ _ _ | exact vwithin_any _ _ _ _ | exact visDay_any _ _ | exact visCont_any _ _ | exact vIsDay_any _ _ | exact vIsCont_any _ _) (hn:¬(p∧q):=by omega):Calls Tryd.prog f args w K :=
 (calls_out h hn).mono fun e w' ⟨he,hw⟩=>by subst he hw;exact k
theorem rany (k:K (.returned (.bool (decide p && decide q))) w) (h:Calls Tryd.prog f args w fun e w'=>e=.returned (.bool (decide p && decide q))∧w=w':=by first | exact within_any _ _ _ _ | exact Within_any _ _ _ _ | exact isDay_any _ _ | exact IsDay_any _ _ | exact IsYear_any _ _ | exact IsFull_any _ _ | exact isFull_any _ _ | exact nwithin_any _ _ _ _ | exact vwithin_any _ _ _ _ | exact visDay_any _ _ | exact visCont_any _ _ | exact vIsDay_any _ _ | exact vIsCont_any _ _):Calls Tryd.prog f args w K :=
 h.mono fun e w' ⟨he,hw⟩=>by subst he hw;exact k
variable {n : Nat}
end
theorem blw {B:Nat} {a w:World} (h:Below B a w:=by (repeat (first | assumption | exact Below.refl _ _ | exact below_alloc _ _ | refine below_drewN ?_ _ | refine Below.drew ?_ | (refine Below.setCell ?_ ?_ _;rotate_left;focus (first | omega | (simp;done) | (simp;omega))) | (refine Below.alloc ?_ ?_ _;rotate_left;focus (first | omega | (simp;done) | (simp;omega)))))):Below B a w:=h
section
variable {H : Type} {enc : TypeId × Value → H} {P : Program}
theorem post_of_below {f:Func} {s:ChangeSpec} {apart fresh handsOn again:Bool} {W W':World} {args:Array Value} {v:Value} {ds gs:List (DataW H)} {before pa pv:List MemPlace}
  (hW:DataW.Whole enc P f.params.toList s.vars apart W args.toList ds gs before)
  (hres:∀ (b:Nat) (sp:Nat→Bool) (hd:Bool),DataW.TrodAll enc P W' b sp hd f.resultTypes.toList (v.resultList f.resultTypes.size) (s.fn H (ds ++ gs)).results [])
  (hargs:∀ sp:Nat→Bool,(∀ p∈before,sp p.block=true)→DataW.TrodAll enc P W' 0 sp true f.params.toList args.toList (s.fn H (ds ++ gs)).args pa)
  (hvars:∀ sp:Nat→Bool,(∀ p∈before,sp p.block=true)→DataW.TrodVars enc P W' sp s.vars (s.fn H (ds ++ gs)).vars pv)
  (hps:before=pa ++ pv) (hb:Below W.heap.size W W')
  (hok:∀ (j:Nat) (t:TypeId) (r:Value),f.resultTypes[j]?=some t→(v.resultList f.resultTypes.size)[j]?=some r→Value.okWide P W' .any 0 t r) :
  s.post enc P f apart fresh handsOn again W args v W':=by
 have hlt:∀ p∈before,p.block<W.heap.size:=fun p hp=>hW.lt p hp
 have hold:∀ p∈before,(fun b=>decide (b<W.heap.size)) p.block=true:=fun p hp=>by simpa using hlt p hp
 refine⟨ds,gs,before,[],pa,pv,hW,hres _ _ _,hargs _ hold,hvars _ hold,World.keptBut_mono (fun p hp=>⟨hp,?_⟩) (hb.frame (·∈before)),fun _=>?_⟩
 ·rw[hps,List.mem_append] at hp
  exact Or.inr hp
 obtain⟨_,_,_,_,_,hz,hn⟩:=hW
 refine⟨hok,_,_,([] ++ pa) ++ pv,⟨[] ++ pa,pv,trodAll_append (hargs _ (fun _ _=>rfl)) (hres _ _ _),hvars _ (fun _ _=>rfl),rfl,?_,?_⟩,?_⟩
 ·intro b off hp
  have hin:MemPlace.cell b off∈before:=by rw[hps];simpa using hp
  rw[hb.frozen (hlt _ hin)]
  exact hz b off hin
 ·intro ha
  have:=hn ha
  rw[hps] at this
  simpa using this
 intro p hp _
 rw[hps]
 simpa using hp
end
def lenTab:List Int:=[31,28,31,30,31,30,31,31,30,31,30,31]
structure Tab (w:World):Prop where
 lt:0<w.heap.size
 cell:∀ i:Nat,i<12→w.cell? ⟨0,i,none⟩=some (.int .i64 (lenTab.getD i 0))
theorem Tab.below {w w':World} (h:Tab w) (hb:Below w.heap.size w w'):Tab w' :=
 ⟨Nat.lt_of_lt_of_le h.lt hb.size,fun i hi=>(hb.cell (p:=⟨0,i,none⟩) h.lt).trans (h.cell i hi)⟩
theorem Tab.alloc {w:World} (h:Tab w) (o:Obj):Tab (w.alloc o):=h.below (below_alloc w o)
theorem Tab.drewN {w:World} (h:Tab w) (n:Nat):Tab (w.drewN n):=⟨h.lt,h.cell⟩
end Go.Proofs.YtcnfhnndppollaaDoor
namespace Go.Proofs.YtcnfhnndppollaaDoor
open Go Go.RowKit
def RowsAt (w:World) (A:Option Addr) (m:Nat) (rows:List (List Value)):Prop :=
 ∀ k r,rows[k]?=some r→∃ b o,A=some ⟨b,o,none⟩∧b<w.heap.size∧∀ j v,r[j]?=some v→w.cell? ⟨b,o+(k*m+j),none⟩=some v
theorem RowsAt.below {w w':World} {A:Option Addr} {m:Nat} {rows:List (List Value)} (h:RowsAt w A m rows) (hb:Below w.heap.size w w'):RowsAt w' A m rows:=fun k r hr=>by
 obtain⟨b,o,hA,hlt,hc⟩:=h k r hr
 exact⟨b,o,hA,Nat.lt_of_lt_of_le hlt hb.size,fun j v hv=>(hb.cell (p:=⟨b,o+(k*m+j),none⟩) hlt).trans (hc j v hv)⟩
theorem RowsAt.alloc {w:World} {A:Option Addr} {m:Nat} {rows:List (List Value)} (h:RowsAt w A m rows) (o:Obj):RowsAt (w.alloc o) A m rows:=h.below (below_alloc w o)
theorem RowsAt.nil (w:World) (A:Option Addr) (m:Nat):RowsAt w A m []:=fun k r hr=>by simp at hr
structure Hol where
 name:ByteArray
 kind:Int
 month:Int
 day:Int
 weekday:Int
end Go.Proofs.YtcnfhnndppollaaDoor
namespace Go.Proofs.YtcnfhnndppollaaDoor
open Go Go.RowKit Go.ChangeShapes Go.WideShapes Go.Deep
theorem own:ownKnob Tryd.prog.godebug=none:=by kernel_rfl
theorem laidOut:laidOutB Tryd.prog=true:=by kernel_rfl
theorem gLen : Tryd.prog.globalNamed "mortsafe/rule.lengths" = some 0 := by kernel_rfl
theorem gLenType:(Tryd.prog.globals[0]?).map (·.type)=some 122:=by kernel_rfl
theorem cellsLen:Tryd.prog.cellsOf 122=12:=by kernel_rfl
theorem cellsInt:Tryd.prog.cellsOf 3=1:=by kernel_rfl
theorem tab_of {W : World} (h : laidMetH Tryd.prog [("mortsafe/rule.lengths", Rows.laid_mortsafe_rule_lengths)] W) : Tab W := by
 have ht : Lib.TabIs Tryd.prog W "mortsafe/rule.lengths" .i64 lenTab := Lib.tabIs_of_head (rest := []) gLen gLenType Tryd.underlying122 Tryd.underlying3 cellsInt cellsLen h
 have hc:∀ i:Nat,i<12→W.cell? ⟨0,i,none⟩=some (.int .i64 (lenTab.getD i 0)):=fun i hi=>ht.cell gLen i (by simpa [lenTab] using hi)
 refine⟨?_,hc⟩
 have:=hc 0 (by decide)
 unfold World.cell? at this
 rcases Nat.lt_or_ge 0 W.heap.size with h | h
 ·exact h
 rw[Array.getElem?_eq_none h] at this;cases this
theorem list_of {α:Type} {Q:Nat→α→Prop}:∀ n:Nat,(∀ i,i<n→∃ p,Q i p)→∃ l:List α,l.length=n∧∀ (i:Nat) p,l[i]?=some p→Q i p
 | 0,_=>⟨[],rfl,fun i p h=>by simp at h⟩
 | n+1,h=>by
  obtain⟨l,hl,hq⟩:=list_of n (fun i hi=>h i (by omega))
  obtain⟨p,hp⟩:=h n (by omega)
  refine⟨l ++ [p],by simp[hl],fun i q hi=>?_⟩
  rw[List.getElem?_append] at hi
  split at hi
  ·exact hq i q hi
  have:i=n:=by
   have:=(List.getElem?_eq_some_iff.1 hi).1
   simp at this;omega
  subst this
  rw[hl] at hi;simp at hi;subst hi;exact hp
theorem addr_plain {w:World} {a:Addr} {k:Nat} {v:Value} (h:w.cell? (a.add k)=some v) (h0:∃ u,w.cell? (a.add 0)=some u):a=⟨a.block,a.off,none⟩:=by
 obtain⟨u,h0⟩:=h0
 have:=World.cell?_spot (show w.cell? a=some u by simpa [Addr.add] using h0)
 cases a;simp at this;subst this;rfl
section
variable {H : Type} {enc : TypeId × Value → H} {w : World} {spare : Nat → Bool} {held : Bool}
theorem rows_of_open {t e:TypeId} {fs:Array Field} {fuel:Nat} {cs:List Value} {x:DataW H × List MemPlace} (ht:Tryd.prog.underlying t=some (.slice e)) (he:Tryd.prog.underlying e=some (.struct fs))
  (hone:oneCellFields Tryd.prog fs=true) (hC:Tryd.prog.cellsOf e=fs.size) (hpos:0<fs.size) (h:DataW.trod enc Tryd.prog w 0 spare held fuel t cs=some x) :
  ∃ (A:Option Addr) (len cap:Nat),cs=[.slice A len cap]∧len≤maxLen∧∀ i,i<len→∃ (b o n:Nat),A=some ⟨b,o,none⟩∧b<w.heap.size ∧
   ∀ (j:Nat) (f:Field),fs[j]?=some f→∃ (v:Value) (y:DataW H × List MemPlace),w.cell? ⟨b,o+(i*fs.size+j),none⟩=some v∧DataW.trod enc Tryd.prog w 0 spare held n f.type [v]=some y:=by
 rcases open_slice ht h with ⟨h0,_⟩ | ⟨a,len,cap,m,n,D,Pl,hcs,hb,hl,hm,hmm,hx,hi⟩
 ·exact⟨none,0,0,h0,by unfold maxLen;omega,fun i hi=>by omega⟩
 refine⟨some a,len,cap,hcs,by omega,fun i him=>?_⟩
 have hlm:len≤m:=by rw[hmm];split <;> omega
 obtain⟨cs',hc,ht'⟩:=hi i (by omega)
 obtain⟨cs0,hc0,_⟩:=hi 0 (by omega)
 rw[hC] at hc hc0
 obtain⟨ys,n',hn',hy,hlen,hyl,hf⟩:=DataW.trod_struct he ht'
 obtain⟨hcl0,hcl1,hat⟩:=World.cells?_some hc
 obtain⟨_,hcl01,hat0⟩:=World.cells?_some hc0
 have hz:∃ u,w.cell? (a.add 0)=some u:=by
  have h1:=hat0 0 hpos
  have hlen0:0<cs0.length:=by omega
  rw[List.getElem?_eq_getElem hlen0] at h1
  exact⟨_,by simpa [Addr.add] using h1⟩
 have ha:a=⟨a.block,a.off,none⟩:=by obtain⟨u,hu⟩:=hz;exact addr_plain hu ⟨u,hu⟩
 refine⟨a.block,a.off,n',by rw[←ha],?_,fun j f hj=>?_⟩
 ·obtain⟨u,hu⟩:=hz
  obtain⟨o,ho,_⟩:=cells_of_cell hu
  have:=(Array.getElem?_eq_some_iff.1 ho).1
  simpa [Addr.add] using this
 obtain⟨ho,hk⟩:=hone_of hone j f hj
 have hjl:j<fs.size:=(Array.getElem?_eq_some_iff.1 hj).1
 have hcell:=hat j hjl
 have hlt:j<cs'.length:=by omega
 have hv:cs'[j]?=some cs'[j]:=List.getElem?_eq_getElem hlt
 have h1:=hf j f hj
 rw[ho,hk] at h1
 have hone':(cs'.drop j).take 1=[cs'[j]]:=by rw[List.drop_eq_getElem_cons hlt];rfl
 rw[hone'] at h1
 refine⟨cs'[j],ys[j]'(by omega),?_,h1.trans (List.getElem?_eq_getElem (by omega))⟩
 rw[hv,ha] at hcell
 rw[←hcell,Go.Deep.add_add,←Go.WideShapes.add_plain]
end
section
variable {H : Type} {enc : TypeId × Value → H} {w : World} {spare : Nat → Bool} {held : Bool} {r : Reach} {b0 : Nat} {v : Value} {d : DataW H} {ps : List MemPlace}
theorem trod_cells {t:TypeId} {fs:Array Field} {fuel:Nat} {cs:List Value} {x:DataW H × List MemPlace} (ht:Tryd.prog.underlying t=some (.struct fs)) (hone:oneCellFields Tryd.prog fs=true)
  (h:DataW.trod enc Tryd.prog w 0 spare held fuel t cs=some x) :
  ∃ (n:Nat) (xs:List (DataW H × List MemPlace)),cs.length=Tryd.prog.cellsOf t∧xs.length=fs.size∧∀ (j:Nat) (f:Field),fs[j]?=some f→DataW.trod enc Tryd.prog w 0 spare held n f.type ((cs.drop j).take 1)=xs[j]?:=by
 obtain⟨xs,m,_,_,hlen,hxl,hi⟩:=DataW.trod_struct ht h
 refine⟨m,xs,hlen,hxl,fun j f hj=>?_⟩
 obtain⟨ho,hk⟩:=hone_of hone j f hj
 have:=hi j f hj
 rwa [ho,hk] at this
end
section
variable {H : Type} {enc : TypeId × Value → H}
theorem trodAll_stays {W W':World} {sp':Nat→Bool}:∀ {ts:List TypeId} {vs:List Value} {ds:List (DataW H)} {ps:List MemPlace},(∀ t∈ts,Tryd.prog.readableRec t=true∧t<Tryd.prog.types.size) →
  DataW.TrodAll enc Tryd.prog W 0 (fun _=>true) true ts vs ds ps→(∀ p∈ps,W.sameAt W' p)→(∀ p∈ps,sp' p.block=true)→DataW.TrodAll enc Tryd.prog W' 0 sp' true ts vs ds ps
 | [],vs,ds,ps,_,h,_,_=>by
  obtain⟨rfl,rfl,rfl⟩:=trodAll_nil h
  exact rfl
 | t :: ts,vs,ds,ps,ht,h,hs,hp=>by
  obtain⟨v0,vs0,d0,ds0,p0,q0,rfl,rfl,rfl,h0,r0⟩:=trodAll_cons h
  have h1:=ht t (List.mem_cons_self ..)
  exact⟨p0,q0,WideElems.Trod_stays laidOut h1.1 h1.2 h0 (fun p hm=>hs p (List.mem_append_left _ hm)) (fun p hm=>hp p (List.mem_append_left _ hm)),
   trodAll_stays (fun t hm=>ht t (List.mem_cons_of_mem _ hm)) r0 (fun p hm=>hs p (List.mem_append_right _ hm)) (fun p hm=>hp p (List.mem_append_right _ hm)),rfl⟩
theorem post_true {f:Func} {s:ChangeSpec} {W W':World} {args:Array Value} {ds gs:List (DataW H)} {before:List MemPlace} (hvars:s.vars=[]) (hres:f.resultTypes=#[4])
  (hpar:∀ t∈f.params.toList,Tryd.prog.readableRec t=true∧t<Tryd.prog.types.size)
  (hW:DataW.Whole enc Tryd.prog f.params.toList s.vars false W args.toList ds gs before) (hs:s.fn H (ds ++ gs)={ results:=[.lit (.bool true)],args:=ds }) (hb:Below W.heap.size W W') :
  s.post enc Tryd.prog f false true false false W args (.bool true) W':=by
 have hW':=hW
 have hlt:∀ p∈before,p.block<W.heap.size:=fun p hp=>hW'.lt p hp
 obtain⟨p,q,hA,hV,rfl,hfz,hnd⟩:=hW
 rw[hvars] at hV
 obtain⟨rfl,rfl⟩:=trodVars_none hV
 simp only[List.append_nil] at hs hW' hlt
 refine post_of_below (pa:=p) (pv:=[]) (ds:=ds) (gs:=[]) (before:=p) hW' ?_ ?_ ?_ (by simp) hb ?_
 ·intro b sp hd
  rw[List.append_nil,hs,hres]
  exact trodAll_cons_mk (shut_bool Tryd.underlying4 _) trodAll_mk0
 ·intro sp hsp
  rw[List.append_nil,hs]
  exact trodAll_stays hpar hA (fun x hx=>hb.same (hlt x hx)) hsp
 ·intro sp _
  rw[hvars,List.append_nil,hs]
  rfl
 exact ok_one hres rfl (okWide_bool_mk Tryd.underlying4 _)
end
noncomputable def laidWorld (os:Os):World :=
 { World.holding Tryd.prog os ⟨#[],#[],[]⟩ with heap:=(World.holding Tryd.prog os ⟨#[],#[],[]⟩).heap.modify 0 fun
   | .cells _ t frozen=>.cells #[.int .i64 31,.int .i64 28,.int .i64 31,.int .i64 30,.int .i64 31,.int .i64 30,.int .i64 31,.int .i64 31,.int .i64 30,.int .i64 31,.int .i64 30,.int .i64 31] t frozen
   | o=>o }
end Go.Proofs.YtcnfhnndppollaaDoor
namespace Go.Proofs.YtcnfhnndppollaaDoor.Cal
def leapB (y:Int):Bool:=decide (y % 4=0) && (!decide (y % 100=0) || decide (y % 400=0))
def lp (y:Int):Int:=if leapB y=true then 1 else 0
def mlen (y m:Int):Int :=
 if m=2 then 28+lp y else if m=4∨m=6∨m=9∨m=11 then 30 else 31
def beg (y:Int):Int:=365*(y-1800)+(y-1) / 4-(y-1) / 100+(y-1) / 400-436
def cum (y m:Int):Int :=
 if m≤1 then 0 else if m=2 then 31 else if m=3 then 59+lp y else if m=4 then 90+lp y else if m=5 then 120+lp y else if m=6 then 151+lp y
 else if m=7 then 181+lp y else if m=8 then 212+lp y else if m=9 then 243+lp y else if m=10 then 273+lp y else if m=11 then 304+lp y else if m=12 then 334+lp y else 365+lp y
def first (y m:Int):Int:=beg y+cum y m
theorem lp_01 (y:Int):lp y=0∨lp y=1:=by unfold lp;split <;> simp
theorem lp_ge (y:Int):0≤lp y:=by rcases lp_01 y with h | h <;> omega
theorem lp_le (y:Int):lp y≤1:=by rcases lp_01 y with h | h <;> omega
theorem lp_eq (y:Int):lp y=y / 4-(y-1) / 4-(y / 100-(y-1) / 100)+(y / 400-(y-1) / 400):=by
 unfold lp leapB
 by_cases h4:y % 4=0 <;> by_cases h100:y % 100=0 <;> by_cases h400:y % 400=0 <;> simp[h4,h100,h400] <;> omega
theorem beg_succ (y:Int):beg (y+1)=beg y+365+lp y:=by
 rw[lp_eq];unfold beg
 have:y+1-1=y:=by omega
 rw[this];omega
theorem beg_1800:beg 1800=0:=by decide
theorem beg_mono {a b:Int} (h:a≤b):beg a≤beg b:=by unfold beg;omega
theorem beg_lt {a b:Int} (h:a<b):beg a+365≤beg b:=by
 have:=beg_mono (a:=a+1) (b:=b) (by omega)
 have:=beg_succ a
 have:=lp_ge a
 omega
theorem mlen_bd (y m:Int):28≤mlen y m∧mlen y m≤31:=by
 have:=lp_01 y
 unfold mlen;repeat' split
 all_goals omega
theorem cum_bd (y m:Int):0≤cum y m∧cum y m≤366:=by
 have:=lp_ge y;have:=lp_le y
 unfold cum;omega
theorem cum_succ (y m:Int) (h1:1≤m) (h2:m≤12):cum y (m+1)=cum y m+mlen y m:=by
 have h:m=1∨m=2∨m=3∨m=4∨m=5∨m=6∨m=7∨m=8∨m=9∨m=10∨m=11∨m=12:=by omega
 rcases h with rfl | rfl | rfl | rfl | rfl | rfl | rfl | rfl | rfl | rfl | rfl | rfl <;> simp[cum,mlen] <;> omega
theorem cum_1 (y:Int):cum y 1=0:=rfl
theorem cum_13 (y:Int):cum y 13=365+lp y:=by simp[cum]
theorem cum_mono (y:Int) {m k:Int} (h:m≤k):cum y m≤cum y k:=by
 have:=lp_ge y;have:=lp_le y
 unfold cum;omega
theorem first_1 (y:Int):first y 1=beg y:=by simp[first,cum_1]
theorem first_13 (y:Int):first y 13=beg (y+1):=by simp[first,cum_13,beg_succ];omega
theorem first_succ (y m:Int) (h1:1≤m) (h2:m≤12):first y (m+1)=first y m+mlen y m:=by
 unfold first;rw[cum_succ y m h1 h2];omega
theorem first_le (y:Int) {m k:Int} (h:m≤k):first y m≤first y k:=by
 unfold first;have:=cum_mono y h;omega
theorem first_lo (y m:Int):beg y≤first y m:=by unfold first;have:=cum_bd y m;omega
theorem first_hi (y m:Int) (h1:1≤m) (h2:m≤12):first y m+mlen y m≤beg (y+1):=by
 rw[←first_succ y m h1 h2,←first_13];exact first_le y (by omega)
structure IsDate (y m d day:Int):Prop where
 m1:1≤m
 m2:m≤12
 d1:1≤d
 d2:d≤mlen y m
 day:first y m+d-1=day
theorem IsDate.lo {y m d day:Int} (h:IsDate y m d day):beg y≤day:=by
 have:=first_lo y m;have:=h.day;have:=h.d1;omega
theorem IsDate.hi {y m d day:Int} (h:IsDate y m d day):day<beg (y+1):=by
 have:=first_hi y m h.m1 h.m2;have:=h.day;have:=h.d2;omega
theorem year_unique {y y' day:Int} (a:beg y≤day) (b:day<beg (y+1)) (a':beg y'≤day) (b':day<beg (y'+1)):y=y':=by
 rcases Int.lt_trichotomy y y' with h | h | h
 ·have:=beg_mono (a:=y+1) (b:=y') (by omega);omega
 ·exact h
 have:=beg_mono (a:=y'+1) (b:=y) (by omega);omega
theorem month_unique {y m m' day:Int} (a:first y m≤day) (b:day<first y (m+1)) (a':first y m'≤day) (b':day<first y (m'+1)):m=m':=by
 rcases Int.lt_trichotomy m m' with h | h | h
 ·have:=first_le y (m:=m+1) (k:=m') (by omega);omega
 ·exact h
 have:=first_le y (m:=m'+1) (k:=m) (by omega);omega
theorem IsDate.unique {y m d y' m' d' day:Int} (h:IsDate y m d day) (h':IsDate y' m' d' day):y=y'∧m=m'∧d=d':=by
 obtain rfl:=year_unique h.lo h.hi h'.lo h'.hi
 have e1:=h.day;have e2:=h'.day
 have:=h.d1;have:=h.d2;have:=h'.d1;have:=h'.d2
 have s1:=first_succ y m h.m1 h.m2
 have s2:=first_succ y m' h'.m1 h'.m2
 obtain rfl:=month_unique (y:=y) (m:=m) (m':=m') (day:=day) (by omega) (by omega) (by omega) (by omega)
 exact⟨rfl,rfl,by omega⟩
def yearUp:Nat→Int→Int→Int
 | 0,_,y=>y
 | n+1,day,y=>if beg (y+1)≤day then yearUp n day (y+1) else y
def monthUp:Nat→Int→Int→Int→Int
 | 0,_,_,m=>m
 | n+1,day,y,m=>if first y (m+1)≤day then monthUp n day y (m+1) else m
def dY (day:Int):Int:=yearUp 600 day (1800+day / 366)
def dM (day:Int):Int:=monthUp 12 day (dY day) 1
def dD (day:Int):Int:=day-first (dY day) (dM day)+1
theorem yearUp_spec (n:Nat) (day y:Int) (a:beg y≤day) (b:day<beg (y+n+1)):beg (yearUp n day y)≤day∧day<beg (yearUp n day y+1):=by
 induction n generalizing y with
 | zero=>exact⟨a,by simpa [yearUp] using b⟩
 | succ n ih =>
  unfold yearUp
  split
  ·exact ih (y+1) (by assumption) (by rw[show y+1+(n:Int)+1=y+((n+1:Nat):Int)+1 by omega];exact b)
  exact⟨a,by omega⟩
theorem monthUp_spec (n:Nat) (day y m:Int) (m1:1≤m) (m2:m+n=13) (a:first y m≤day) (b:day<beg (y+1)) (hn:0<n) :
  first y (monthUp n day y m)≤day∧day<first y (monthUp n day y m+1)∧1≤monthUp n day y m∧monthUp n day y m≤12:=by
 induction n generalizing m with
 | zero=>omega
 | succ n ih =>
  unfold monthUp
  split
  ·rename_i h
   rcases Nat.eq_zero_or_pos n with h0 | h0
   ·subst h0
    have:m=12:=by omega
    subst this
    have:first y (12+1)=beg (y+1):=first_13 y
    omega
   exact ih (m+1) (by omega) (by omega) (by assumption) h0
  exact⟨a,by omega,m1,by omega⟩
theorem beg_guess (day:Int) (h:0≤day):beg (1800+day / 366)≤day:=by unfold beg;omega
theorem beg_2348:beg 2348=200152:=by decide
theorem year_hi (y day:Int) (h:beg y≤day) (h2:day≤200000):y≤2347:=by
 apply Classical.byContradiction;intro hn
 have:=beg_mono (a:=2348) (b:=y) (by omega)
 rw[beg_2348] at this;omega
theorem month_hi (y m day:Int) (hb:day<beg (y+1)) (hm:m≤12) (h:mlen y m≤day-beg y-cum y m) (h1:1≤m):m≤11:=by
 apply Classical.byContradiction;intro hn
 obtain rfl:m=12:=by omega
 have h13:=first_succ y 12 (by omega) (by omega)
 rw[show (12:Int)+1=13 from rfl,first_13] at h13
 unfold first at h13;omega
theorem year_lo (day:Int) (h:0≤day):1800≤1800+day / 366:=by omega
theorem beg_guess_hi (day:Int) (h:0≤day) (h2:day≤210000):day<beg (1800+day / 366+600+1):=by unfold beg;omega
theorem date_spec (day:Int) (h:0≤day) (h2:day≤210000):IsDate (dY day) (dM day) (dD day) day:=by
 obtain⟨a,b⟩:=yearUp_spec 600 day (1800+day / 366) (beg_guess day h) (beg_guess_hi day h h2)
 obtain⟨c,d,e,f⟩:=monthUp_spec 12 day (dY day) 1 (by omega) (by omega) (by rw[first_1];exact a) b (by omega)
 exact⟨e,f,by unfold dD;have:first (dY day) (dM day)≤day:=c;omega,by
  have:day<first (dY day) (dM day+1):=d
  have s:=first_succ (dY day) (dM day) e f
  unfold dD;omega,by unfold dD;omega⟩
theorem date_eq {y m d day:Int} (h:IsDate y m d day) (h0:0≤day) (h2:day≤210000):dY day=y∧dM day=m∧dD day=d:=(date_spec day h0 h2).unique h
theorem date_of (y m day:Int) (h0:0≤day) (h2:day≤200000) (m1:1≤m) (m2:m≤12) (ha:0≤day-beg y-cum y m) (hb:day-beg y-cum y m<mlen y m) :
  y=dY day∧m=dM day∧day-beg y-cum y m+1=dD day:=by
 obtain⟨a,b,c⟩:=date_eq (y:=y) (m:=m) (d:=day-beg y-cum y m+1) (day:=day) ⟨m1,m2,by omega,by omega,by unfold first;omega⟩ h0 (by omega)
 exact⟨a.symm,b.symm,c.symm⟩
theorem first_bd (y m:Int) (h:1800≤y) (h2:y≤3000):0≤first y m∧first y m≤440000:=by
 have a:=beg_mono h
 have b:=beg_mono h2
 have c:=cum_bd y m
 rw[beg_1800] at a
 have e3:beg 3000=438291:=by decide
 unfold first;omega
theorem dY_bd (day:Int) (h:0≤day) (h2:day≤200000):1800≤dY day∧dY day≤2347:=by
 have hd:=date_spec day h (by omega)
 have a:=hd.lo;have b:=hd.hi
 constructor
 ·apply Classical.byContradiction;intro hn
  have:=beg_mono (a:=dY day+1) (b:=1800) (by omega)
  rw[beg_1800] at this;omega
 apply Classical.byContradiction;intro hn
 have:=beg_mono (a:=2348) (b:=dY day) (by omega)
 have:beg 2348=200152:=by decide
 omega
def eG (y:Int):Int:=(y / 100-(y / 100+8) / 25+1) / 3
def eH (y:Int):Int:=(19*(y % 19)+y / 100-y / 100 / 4-eG y+15) % 30
def eL (y:Int):Int:=(32+2*(y / 100 % 4)+2*(y % 100 / 4)-eH y-y % 100 % 4) % 7
def eM (y:Int):Int:=(y % 19+11*eH y+22*eL y) / 451
def eN (y:Int):Int:=eH y+eL y-7*eM y+114
def easter (y:Int):Int:=first y (eN y / 31)+eN y % 31
end Go.Proofs.YtcnfhnndppollaaDoor.Cal
namespace Go.Proofs.YtcnfhnndppollaaDoor
open Go Go.RowKit
theorem within_any (n lo hi:Int) (w:World) :
  Calls Tryd.prog 28 #[.int .i64 n,.int .i64 lo,.int .i64 hi] w fun e w'=>e=.returned (.bool (decide (lo≤n) && decide (n≤hi)))∧w=w':=by
 by_cases h1:lo≤n
 ·by_cases h2:n≤hi
  all_goals
   go_enter Tryd.func28,Tryd.ntmps28
   go_wp2
   go_ret
   exact⟨by simp;omega,rfl⟩
 go_enter Tryd.func28,Tryd.ntmps28
 go_wp2
 go_ret
 exact⟨by simp;omega,rfl⟩
theorem Within_any (n lo hi:Int) (w:World) :
  Calls Tryd.prog 31 #[.int .i64 n,.int .i64 lo,.int .i64 hi] w fun e w'=>e=.returned (.bool (decide (lo≤n) && decide (n≤hi)))∧w=w':=by
 by_cases h1:lo≤n
 ·by_cases h2:n≤hi
  all_goals
   go_enter Tryd.func31,Tryd.ntmps31
   go_wp2
   go_ret
   exact⟨by simp;omega,rfl⟩
 go_enter Tryd.func31,Tryd.ntmps31
 go_wp2
 go_ret
 exact⟨by simp;omega,rfl⟩
theorem isDay_any (n:Int) (w:World) :
  Calls Tryd.prog 27 #[.int .i64 n] w fun e w'=>e=.returned (.bool (decide (0≤n) && decide (n≤200000)))∧w=w':=by
 go_enter Tryd.func27,Tryd.ntmps27
 go_wp2_with (go_at_call 28;refine (within_any _ _ _ _).mono ?_;rintro e w' ⟨rfl,rfl⟩)
 go_ret
 exact⟨rfl,rfl⟩
theorem isLeap_any (y:Int) (h0:0≤y) (w:World) :
  Calls Tryd.prog 66 #[.int .i64 y] w fun e w'=>e=.returned (.bool (Cal.leapB y))∧w=w':=by
 by_cases h1:y % 4=0
 ·by_cases h2:y % 100=0
  ·by_cases h3:y % 400=0
   all_goals
    go_enter Tryd.func66,Tryd.ntmps66
    go_wp2
    go_ret
    exact⟨by simp[Cal.leapB,h1,h2,h3],rfl⟩
  go_enter Tryd.func66,Tryd.ntmps66
  go_wp2
  go_ret
  exact⟨by simp[Cal.leapB,h1,h2],rfl⟩
 go_enter Tryd.func66,Tryd.ntmps66
 go_wp2
 go_ret
 exact⟨by simp[Cal.leapB,h1],rfl⟩
theorem begin_any (y:Int) (w:World) (h0:1≤y) (h1:y≤100000) :
  Calls Tryd.prog 65 #[.int .i64 y] w fun e w'=>e=.returned (.int .i64 (Cal.beg y))∧w=w':=by
 go_enter Tryd.func65,Tryd.ntmps65
 go_wp2
 go_ret
 exact⟨rfl,rfl⟩
theorem length_any (y m:Int) (h0:0≤y) (m1:1≤m) (m2:m≤12) (w:World) (hT:Tab w) :
  Calls Tryd.prog 47 #[.int .i64 y,.int .i64 m] w fun e w'=>e=.returned (.int .i64 (Cal.mlen y m))∧w=w':=by
 have h:m=1∨m=2∨m=3∨m=4∨m=5∨m=6∨m=7∨m=8∨m=9∨m=10∨m=11∨m=12:=by omega
 have hc:=hT.cell
 have c0:=hc 0 (by decide);have c1:=hc 1 (by decide);have c2:=hc 2 (by decide);have c3:=hc 3 (by decide)
 have c4:=hc 4 (by decide);have c5:=hc 5 (by decide);have c6:=hc 6 (by decide);have c7:=hc 7 (by decide)
 have c8:=hc 8 (by decide);have c9:=hc 9 (by decide);have c10:=hc 10 (by decide);have c11:=hc 11 (by decide)
 simp only[lenTab,List.getD_cons_zero,List.getD_cons_succ] at c0 c1 c2 c3 c4 c5 c6 c7 c8 c9 c10 c11
 clear hc hT m1 m2
 rcases h with rfl | rfl | rfl | rfl | rfl | rfl | rfl | rfl | rfl | rfl | rfl | rfl
 case inr.inl =>
  cases hl:Cal.leapB y
  all_goals
   go_enter Tryd.func47,Tryd.ntmps47
   go_wp2_with (go_at_call 66;refine (isLeap_any _ (by omega) _).mono ?_;rintro e w' ⟨rfl,rfl⟩)
   go_ret
   exact⟨by simp[Cal.mlen,Cal.lp,hl],rfl⟩
 all_goals
  go_enter Tryd.func47,Tryd.ntmps47
  go_wp2_with fail
  go_ret
  exact⟨by simp[Cal.mlen],rfl⟩
end Go.Proofs.YtcnfhnndppollaaDoor
namespace Go.Proofs.YtcnfhnndppollaaDoor
open Go Go.RowKit
theorem dayOf_any (y m d:Int) (y0:1800≤y) (y1:y≤3000) (m1:1≤m) (m2:m≤12) (d0:-100000≤d) (d1:d≤100000) (w:World) (hT:Tab w) :
  Calls Tryd.prog 46 #[.int .i64 y,.int .i64 m,.int .i64 d] w fun e w'=>e=.returned (.int .i64 (Cal.first y m+d-1))∧w=w':=by
 have hb:=Cal.beg_mono y0
 have hb2:=Cal.beg_mono y1
 rw[Cal.beg_1800] at hb
 have e3:Cal.beg 3000=438291:=by decide
 rw[e3] at hb2
 clear e3
 have hT':=Lib.hid hT;clear hT
 go_enter Tryd.func46,Tryd.ntmps46
 go_wp2_with (go_at_call 65;refine (begin_any _ _ (by omega) (by omega)).mono ?_;rintro e w' ⟨rfl,rfl⟩)
 go_loop [7,8] (fun n i=>∃ k:Int,1≤k∧k≤m∧i=.int .i64 k∧n=.int .i64 (Cal.beg y+d-1+Cal.cum y k)) (fun _ i=>(m-intOf i).toNat)
 case atStart=>exact⟨1,by omega,by omega,rfl,by simp[Cal.cum_1]⟩
 case round =>
  obtain⟨k,k1,k2,rfl,rfl⟩:=hrel
  have cb:=Cal.cum_bd y k
  by_cases hlt:k<m
  ·have cs:=Lib.hid (Cal.cum_succ y k (by omega) (by omega))
   have mb:=Cal.mlen_bd y k
   go_wp2_with (go_at_call 47;refine (length_any _ _ (by omega) (by omega) (by omega) _ hT'.out).mono ?_;rintro e w' ⟨rfl,rfl⟩)
   go_round
   case rel=>exact⟨k+1,by omega,by omega,rfl,by rw[cs.out];go_num⟩
   case measure=>simp[intOf];omega
  obtain rfl:k=m:=by omega
  go_wp2
  go_ret
  exact⟨ret_int (by unfold Cal.first;omega),rfl⟩
theorem dateOf_any (day:Int) (y0:0≤day) (y1:day≤200000) (w:World) (hT:Tab w) :
  Calls Tryd.prog 45 #[.int .i64 day] w fun e w'=>e=.returned (.agg #[.int .i64 (Cal.dY day),.int .i64 (Cal.dM day),.int .i64 (Cal.dD day)])∧Below w.heap.size w w':=by
 have hT':=Lib.hid hT;clear hT
 have g0:=Cal.beg_guess day y0
 have g1:=Cal.year_lo day y0
 go_enter Tryd.func45,Tryd.ntmps45
 go_wp2
 go_loopg [] 600 (fun k wr=>∃ y:Int,1800≤y∧y+k≤3000∧2348≤y+k∧Cal.beg y≤day∧wr=(w.alloc (.cells #[.int .i64 0,.int .i64 0,.int .i64 0] 96)).alloc (.cells #[.int .i64 y,.int .i64 1,.int .i64 0] 96))
 case atStart=>exact⟨_,g1,by omega,by omega,g0,rfl⟩
 case round =>
  obtain⟨y,hy,hk,hk2,hb,rfl⟩:=hrel
  clear g0 g1
  have hyh:=Cal.year_hi y day hb y1
  have hb0:=Cal.beg_mono hy
  rw[Cal.beg_1800] at hb0
  have hbs:=Cal.beg_lt (a:=y) (b:=y+1) (by omega)
  by_cases hlt:Cal.beg (y+1)≤day
  ·have hyh2:=Cal.year_hi (y+1) day hlt y1
   go_wp2_with (go_at_call 65;refine (begin_any _ _ (by omega) (by omega)).mono ?_;rintro e w' ⟨rfl,rfl⟩)
   go_roundg (gk-1)
   case measure=>omega
   case rel=>exact⟨y+1,by omega,by omega,by omega,hlt,rfl⟩
  have hT2:=Lib.hid (fun o1 o2=>hT'.out.below (((Below.refl _ w).alloc (Nat.le_refl _) o1).alloc (by simp) o2))
  go_wp2_with (go_at_call 65;refine (begin_any _ _ (by omega) (by omega)).mono ?_;rintro e w' ⟨rfl,rfl⟩)
  go_loopg [0] 12 (fun k v wr=>∃ m:Int,1≤m∧m≤12∧m+k=13∧0≤day-Cal.beg y-Cal.cum y m∧v=.int .i64 (day-Cal.beg y-Cal.cum y m)∧wr=(w.alloc (.cells #[.int .i64 0,.int .i64 0,.int .i64 0] 96)).alloc (.cells #[.int .i64 y,.int .i64 m,.int .i64 0] 96))
  case atStart=>exact⟨1,by omega,by omega,by omega,by rw[Cal.cum_1];omega,by rw[Cal.cum_1];simp,rfl⟩
  case round =>
   obtain⟨m,m1,m2,mk,hr,rfl,rfl⟩:=hrel
   have hcb:=Cal.cum_bd y m
   have hmb:=Cal.mlen_bd y m
   have mk2:=Lib.hid mk
   clear mk
   by_cases hge:Cal.mlen y m≤day-Cal.beg y-Cal.cum y m
   ·have hm11:=Cal.month_hi y m day (by omega) m2 hge m1
    have hcs:=Lib.hid (Cal.cum_succ y m m1 m2)
    go_wp2_with (go_at_call 47;refine (length_any _ _ (by omega) m1 m2 _ (hT2.out _ _)).mono ?_;rintro e w' ⟨rfl,rfl⟩)
    go_roundg (gk-1)
    case measure=>have:=mk2.out;omega
    case rel=>exact⟨m+1,by omega,by omega,by have:=mk2.out;omega,by rw[hcs.out];omega,by rw[hcs.out];go_num,rfl⟩
   obtain⟨ey,em,ed⟩:=Cal.date_of y m day y0 y1 m1 m2 hr (by omega)
   have hfin:=Lib.hid (And.intro ey (And.intro em ed))
   clear ey em ed
   go_wp2_with (go_at_call 47;refine (length_any _ _ (by omega) m1 m2 _ (hT2.out _ _)).mono ?_;rintro e w' ⟨rfl,rfl⟩)
   refine bodyPost_ret (v:=.agg #[.int .i64 y,.int .i64 m,.int .i64 (day-Cal.beg y-Cal.cum y m+1)]) (by simp[results,Tryd.results45,go_sem]) rfl ⟨?_,?_⟩
   ·obtain⟨ey,em,ed⟩:=hfin.out
    rw[ey,em] at ed ⊢;rw[ed]
   exact ((Below.refl _ _).alloc (Nat.le_refl _) _).alloc (by simp) _
end Go.Proofs.YtcnfhnndppollaaDoor
namespace Go.Proofs.YtcnfhnndppollaaDoor
open Go Go.RowKit
def Cal.laterT (day months:Int):Int:=12*Cal.dY day+Cal.dM day-1+months
def Cal.laterS (day months:Int):Int × Bool :=
 if 1800≤Cal.laterT day months / 12∧Cal.laterT day months / 12≤2347 then
  (Cal.first (Cal.laterT day months / 12) (Cal.laterT day months % 12+1)+min (Cal.dD day) (Cal.mlen (Cal.laterT day months / 12) (Cal.laterT day months % 12+1))-1,
   decide (Cal.first (Cal.laterT day months / 12) (Cal.laterT day months % 12+1)+min (Cal.dD day) (Cal.mlen (Cal.laterT day months / 12) (Cal.laterT day months % 12+1))-1≤200000))
 else (0,false)
theorem ret_ib {a b:Int} {c d:Bool} (h:a=b) (h2:c=d):Ending.returned (.tuple #[.int .i64 a,.bool c])=.returned (.tuple #[.int .i64 b,.bool d]):=by rw[h,h2]
theorem Cal.laterS_no {day months:Int} (h:¬(1800≤Cal.laterT day months / 12∧Cal.laterT day months / 12≤2347)):Cal.laterS day months=(0,false):=by
 unfold Cal.laterS;rw[if_neg h]
theorem Cal.laterS_yes {day months:Int} (h:1800≤Cal.laterT day months / 12) (h2:Cal.laterT day months / 12≤2347) :
  Cal.laterS day months=(Cal.first (Cal.laterT day months / 12) (Cal.laterT day months % 12+1)+min (Cal.dD day) (Cal.mlen (Cal.laterT day months / 12) (Cal.laterT day months % 12+1))-1,
   decide (Cal.first (Cal.laterT day months / 12) (Cal.laterT day months % 12+1)+min (Cal.dD day) (Cal.mlen (Cal.laterT day months / 12) (Cal.laterT day months % 12+1))-1≤200000)):=by
 unfold Cal.laterS;rw[if_pos ⟨h,h2⟩]
theorem later_any (day months:Int) (y0:0≤day) (y1:day≤200000) (m0:-12000≤months) (m1:months≤12000) (w:World) (hT:Tab w) :
  Calls Tryd.prog 29 #[.int .i64 day,.int .i64 months] w fun e w'=>e=.returned (.tuple #[.int .i64 (Cal.laterS day months).1,.bool (Cal.laterS day months).2])∧Below w.heap.size w w':=by
 have hd:=Cal.date_spec day y0 (by omega)
 obtain⟨dy0,dy1⟩:=Cal.dY_bd day y0 y1
 obtain⟨dm1,dm2,dd1,dd2,dd3⟩:=hd
 have dd4:=Cal.mlen_bd (Cal.dY day) (Cal.dM day)
 clear dd3
 have hT':=Lib.hid hT;clear hT
 have hno:=Lib.hid (@Cal.laterS_no day months)
 have hyes:=Lib.hid (@Cal.laterS_yes day months)
 unfold Cal.laterT at hno hyes
 have ht:0≤12*Cal.dY day+Cal.dM day-1+months:=by omega
 by_cases hy1:1800≤(12*Cal.dY day+Cal.dM day-1+months) / 12
 ·by_cases hy2:(12*Cal.dY day+Cal.dM day-1+months) / 12≤2347
  ·have hfin:=Lib.hid (hyes.out hy1 hy2)
   have hdec:=Lib.hid (show decide ((12*Cal.dY day+Cal.dM day-1+months)<0)=false by simp;omega)
   have mb:=Cal.mlen_bd ((12*Cal.dY day+Cal.dM day-1+months) / 12) ((12*Cal.dY day+Cal.dM day-1+months) % 12+1)
   have fb:=Cal.first_bd ((12*Cal.dY day+Cal.dM day-1+months) / 12) ((12*Cal.dY day+Cal.dM day-1+months) % 12+1) hy1 (by omega)
   by_cases hmin:Cal.mlen ((12*Cal.dY day+Cal.dM day-1+months) / 12) ((12*Cal.dY day+Cal.dM day-1+months) % 12+1)<Cal.dD day
   ·by_cases hn:Cal.first ((12*Cal.dY day+Cal.dM day-1+months) / 12) ((12*Cal.dY day+Cal.dM day-1+months) % 12+1)+Cal.mlen ((12*Cal.dY day+Cal.dM day-1+months) / 12) ((12*Cal.dY day+Cal.dM day-1+months) % 12+1)-1≤200000
    ·go_enter Tryd.func29,Tryd.ntmps29
     go_wp2_with (first | (go_at_call 45;refine (dateOf_any day y0 y1 _ hT'.out).mono ?_;rintro e w1 ⟨rfl,hb1⟩) | (((first | (go_at_call 28) | (go_at_call 31) | (go_at_call 27) | (fail) | (fail) | (fail) | (fail));first | refine rin ?_ | refine rout ?_ | refine rany ?_)))
     have hTm:=Lib.hid (fun o n=>((hT'.out.below hb1).alloc o).drewN n)
     go_quiet (first | (go_at_call 47;exact quiet_left (length_any _ _ (by omega) (by omega) (by omega) _ (hTm.out _ _))) | (go_at_call 46;exact quiet_left (dayOf_any _ _ _ (by omega) (by omega) (by omega) (by omega) (by omega) (by omega) _ (hTm.out _ _))))
     go_wp2_with (((first | (go_at_call 28) | (go_at_call 31) | (go_at_call 27) | (fail) | (fail) | (fail) | (fail));first | refine rin ?_ | refine rout ?_ | refine rany ?_))
     go_ret2
     exact⟨by rw[hfin.out];exact ret_ib (by omega) (by simp;omega),below_drewN (hb1.alloc hb1.size _) _⟩
    go_enter Tryd.func29,Tryd.ntmps29
    go_wp2_with (first | (go_at_call 45;refine (dateOf_any day y0 y1 _ hT'.out).mono ?_;rintro e w1 ⟨rfl,hb1⟩) | (((first | (go_at_call 28) | (go_at_call 31) | (go_at_call 27) | (fail) | (fail) | (fail) | (fail));first | refine rin ?_ | refine rout ?_ | refine rany ?_)))
    have hTm:=Lib.hid (fun o n=>((hT'.out.below hb1).alloc o).drewN n)
    go_quiet (first | (go_at_call 47;exact quiet_left (length_any _ _ (by omega) (by omega) (by omega) _ (hTm.out _ _))) | (go_at_call 46;exact quiet_left (dayOf_any _ _ _ (by omega) (by omega) (by omega) (by omega) (by omega) (by omega) _ (hTm.out _ _))))
    go_wp2_with (((first | (go_at_call 28) | (go_at_call 31) | (go_at_call 27) | (fail) | (fail) | (fail) | (fail));first | refine rin ?_ | refine rout ?_ | refine rany ?_))
    go_ret2
    exact⟨by rw[hfin.out];exact ret_ib (by omega) (by simp;omega),below_drewN (hb1.alloc hb1.size _) _⟩
   by_cases hn:Cal.first ((12*Cal.dY day+Cal.dM day-1+months) / 12) ((12*Cal.dY day+Cal.dM day-1+months) % 12+1)+Cal.dD day-1≤200000
   ·go_enter Tryd.func29,Tryd.ntmps29
    go_wp2_with (first | (go_at_call 45;refine (dateOf_any day y0 y1 _ hT'.out).mono ?_;rintro e w1 ⟨rfl,hb1⟩) | (((first | (go_at_call 28) | (go_at_call 31) | (go_at_call 27) | (fail) | (fail) | (fail) | (fail));first | refine rin ?_ | refine rout ?_ | refine rany ?_)))
    have hTm:=Lib.hid (fun o n=>((hT'.out.below hb1).alloc o).drewN n)
    go_quiet (first | (go_at_call 47;exact quiet_left (length_any _ _ (by omega) (by omega) (by omega) _ (hTm.out _ _))) | (go_at_call 46;exact quiet_left (dayOf_any _ _ _ (by omega) (by omega) (by omega) (by omega) (by omega) (by omega) _ (hTm.out _ _))))
    go_wp2_with (((first | (go_at_call 28) | (go_at_call 31) | (go_at_call 27) | (fail) | (fail) | (fail) | (fail));first | refine rin ?_ | refine rout ?_ | refine rany ?_))
    go_ret2
    exact⟨by rw[hfin.out];exact ret_ib (by omega) (by simp;omega),below_drewN (hb1.alloc hb1.size _) _⟩
   go_enter Tryd.func29,Tryd.ntmps29
   go_wp2_with (first | (go_at_call 45;refine (dateOf_any day y0 y1 _ hT'.out).mono ?_;rintro e w1 ⟨rfl,hb1⟩) | (((first | (go_at_call 28) | (go_at_call 31) | (go_at_call 27) | (fail) | (fail) | (fail) | (fail));first | refine rin ?_ | refine rout ?_ | refine rany ?_)))
   have hTm:=Lib.hid (fun o n=>((hT'.out.below hb1).alloc o).drewN n)
   go_quiet (first | (go_at_call 47;exact quiet_left (length_any _ _ (by omega) (by omega) (by omega) _ (hTm.out _ _))) | (go_at_call 46;exact quiet_left (dayOf_any _ _ _ (by omega) (by omega) (by omega) (by omega) (by omega) (by omega) _ (hTm.out _ _))))
   go_wp2_with (((first | (go_at_call 28) | (go_at_call 31) | (go_at_call 27) | (fail) | (fail) | (fail) | (fail));first | refine rin ?_ | refine rout ?_ | refine rany ?_))
   go_ret2
   exact⟨by rw[hfin.out];exact ret_ib (by omega) (by simp;omega),below_drewN (hb1.alloc hb1.size _) _⟩
  have hfin:=Lib.hid (hno.out (by omega))
  go_enter Tryd.func29,Tryd.ntmps29
  go_wp2_with (first | (go_at_call 45;refine (dateOf_any day y0 y1 _ hT'.out).mono ?_;rintro e w1 ⟨rfl,hb1⟩) | (((first | (go_at_call 28) | (go_at_call 31) | (go_at_call 27) | (fail) | (fail) | (fail) | (fail));first | refine rin ?_ | refine rout ?_ | refine rany ?_)))
  go_ret2
  exact⟨by rw[hfin.out];rfl,hb1.alloc hb1.size _⟩
 have hfin:=Lib.hid (hno.out (by omega))
 go_enter Tryd.func29,Tryd.ntmps29
 go_wp2_with (first | (go_at_call 45;refine (dateOf_any day y0 y1 _ hT'.out).mono ?_;rintro e w1 ⟨rfl,hb1⟩) | (((first | (go_at_call 28) | (go_at_call 31) | (go_at_call 27) | (fail) | (fail) | (fail) | (fail));first | refine rin ?_ | refine rout ?_ | refine rany ?_)))
 go_ret2
 exact⟨by rw[hfin.out];rfl,hb1.alloc hb1.size _⟩
end Go.Proofs.YtcnfhnndppollaaDoor
namespace Go.Proofs.YtcnfhnndppollaaDoor
open Go Go.RowKit
def Cal.addS (day months:Int):Int × Int :=
 if 0≤day∧day≤200000∧-12000≤months∧months≤12000∧(Cal.laterS day months).2=true then ((Cal.laterS day months).1,0) else (0,2)
theorem AddMonths_any (day months:Int) (w:World) (hT:Tab w) :
  Calls Tryd.prog 14 #[.int .i64 day,.int .i64 months] w fun e w'=>e=.returned (.tuple #[.int .i64 (Cal.addS day months).1,.int .i64 (Cal.addS day months).2])∧Below w.heap.size w w':=by
 have hT':=Lib.hid hT;clear hT
 by_cases hy:0≤day∧day≤200000∧-12000≤months∧months≤12000
 ·obtain⟨y0,y1,m0,m1⟩:=hy
  cases hb:(Cal.laterS day months).2
  ·have hfin:Hid (Cal.addS day months=(0,2)):=by show _=_;unfold Cal.addS;rw[if_neg (by simp[hb])]
   go_enter Tryd.func14,Tryd.ntmps14
   go_wp2_with (first | (go_at_call 29;refine (later_any _ _ y0 y1 m0 m1 _ hT'.out).mono ?_;rintro e w1 ⟨rfl,hb1⟩) | (((first | (go_at_call 28) | (go_at_call 31) | (go_at_call 27) | (fail) | (fail) | (fail) | (fail));first | refine rin ?_ | refine rout ?_ | refine rany ?_)))
   go_ret2
   exact⟨by rw[hfin.out];rfl,hb1⟩
  have hfin:Hid (Cal.addS day months=((Cal.laterS day months).1,0)):=by show _=_;unfold Cal.addS;rw[if_pos ⟨y0,y1,m0,m1,hb⟩]
  go_enter Tryd.func14,Tryd.ntmps14
  go_wp2_with (first | (go_at_call 29;refine (later_any _ _ y0 y1 m0 m1 _ hT'.out).mono ?_;rintro e w1 ⟨rfl,hb1⟩) | (((first | (go_at_call 28) | (go_at_call 31) | (go_at_call 27) | (fail) | (fail) | (fail) | (fail));first | refine rin ?_ | refine rout ?_ | refine rany ?_)))
  go_ret2
  exact⟨by rw[hfin.out];rfl,hb1⟩
 have hfin:Hid (Cal.addS day months=(0,2)):=by show _=_;unfold Cal.addS;rw[if_neg (fun h=>hy ⟨h.1,h.2.1,h.2.2.1,h.2.2.2.1⟩)]
 by_cases y0:0≤day∧day≤200000
 ·obtain⟨y0,y1⟩:=y0
  have hm:months < -12000∨12000<months:=by omega
  clear hy
  go_enter Tryd.func14,Tryd.ntmps14
  go_wp2_with (((first | (go_at_call 28) | (go_at_call 31) | (go_at_call 27) | (fail) | (fail) | (fail) | (fail));first | refine rin ?_ | refine rout ?_ | refine rany ?_))
  go_ret2
  exact⟨by rw[hfin.out];rfl,Below.refl _ _⟩
 clear hy
 have y0:day<0∨200000<day:=by omega
 go_enter Tryd.func14,Tryd.ntmps14
 go_wp2_with (((first | (go_at_call 28) | (go_at_call 31) | (go_at_call 27) | (fail) | (fail) | (fail) | (fail));first | refine rin ?_ | refine rout ?_ | refine rany ?_))
 all_goals
  go_ret2
  exact⟨by rw[hfin.out];rfl,Below.refl _ _⟩
end Go.Proofs.YtcnfhnndppollaaDoor
namespace Go.Proofs.YtcnfhnndppollaaDoor
open Go Go.RowKit
def byteAt (s:ByteArray) (j:Nat):Int:=if h:j<s.size then (s[j].toNat:Int) else 0
theorem byteAt_eq {s:ByteArray} {j:Nat} (h:j<s.size):byteAt s j=(s[j].toNat:Int):=by unfold byteAt;rw[dif_pos h]
def okAt (s:ByteArray) (j:Nat):Bool:=decide (97≤byteAt s j∧byteAt s j≤122) || decide (65≤byteAt s j∧byteAt s j≤90) || (decide (j≠0) && (decide (byteAt s j=45) || decide (48≤byteAt s j∧byteAt s j≤57)))
def nameB (s:ByteArray):Bool:=decide (1≤s.size∧s.size≤12∧∀ j,j<s.size→okAt s j=true)
def okTo (s:ByteArray) (k:Nat):Prop:=∀ j,j<k→okAt s j=true
theorem okTo_zero (s:ByteArray):okTo s 0:=fun j h=>by omega
theorem okTo_succ {s:ByteArray} {k:Nat} (h:okTo s k) (h2:okAt s k=true):okTo s (k+1):=fun j hj=>by
 rcases Nat.lt_or_ge j k with h3 | h3
 ·exact h j h3
 obtain rfl:j=k:=by omega
 exact h2
theorem nameB_yes {s:ByteArray} (h1:1≤s.size) (h2:s.size≤12) (h:okTo s s.size):nameB s=true:=by unfold nameB;simp;exact⟨h1,h2,h⟩
theorem nameB_no {s:ByteArray} {k:Nat} (h:k<s.size) (h2:okAt s k=false):nameB s=false:=by
 unfold nameB;rw[decide_eq_false_iff_not];rintro⟨_,_,h3⟩;rw[h3 k h] at h2;cases h2
theorem nameB_size {s:ByteArray} (h:s.size<1∨12<s.size):nameB s=false:=by
 unfold nameB;rw[decide_eq_false_iff_not];rintro⟨_,_,_⟩;omega
theorem isEmpty_yes {s:ByteArray} (h:s.size=0):s.toList.isEmpty=true:=by rw[ByteArray.toList_eq];simpa using Array.eq_empty_of_size_eq_zero h
theorem isEmpty_no {s:ByteArray} (h:1≤s.size):s.toList.isEmpty=false:=by
 rw[ByteArray.toList_eq]
 cases hh:s.data.toList with
 | nil =>
  have:s.size=0:=by have:=congrArg List.length hh;simpa using this
  omega
 | cons a l=>rfl
end Go.Proofs.YtcnfhnndppollaaDoor
namespace Go.Proofs.YtcnfhnndppollaaDoor
open Go Go.RowKit
theorem IsName_any (s:ByteArray) (w:World) (hs:s.size≤maxLen) :
  Calls Tryd.prog 48 #[.string s] w fun e w'=>e=.returned (.bool (nameB s))∧w=w':=by
 unfold maxLen at hs
 by_cases h0:s.size<1
 ·have hfin:=Lib.hid (nameB_size (s:=s) (by omega))
  go_enter Tryd.func48,Tryd.ntmps48
  go_wp2
  go_ret
  exact⟨ret_bool hfin.out.symm,rfl⟩
 have h1:1≤s.size:=by omega
 clear h0
 by_cases h12:s.size≤12
 ·have hlt0:0<s.size:=h1
  have hb0:=byteAt_eq hlt0
  have hok:=okTo_zero s
  have hyes:=Lib.hid (fun h:okAt s 0=true=>okTo_succ hok h)
  have hno:=Lib.hid (fun h:okAt s 0=false=>nameB_no hlt0 h)
  clear hok
  have hcl:(97≤(s[0].toNat:Int)∧(s[0].toNat:Int)≤122)∨(65≤(s[0].toNat:Int)∧(s[0].toNat:Int)≤90)∨(48≤(s[0].toNat:Int)∧(s[0].toNat:Int)≤57)∨(s[0].toNat:Int)=45∨(s[0].toNat:Int)<45∨(46≤(s[0].toNat:Int)∧(s[0].toNat:Int)≤47)∨(58≤(s[0].toNat:Int)∧(s[0].toNat:Int)≤64)∨(91≤(s[0].toNat:Int)∧(s[0].toNat:Int)≤96)∨123≤(s[0].toNat:Int):=by omega
  have c0:0≤(s[0].toNat:Int):=by omega
  have hmain:okTo s 1→((97≤(s[0].toNat:Int)∧(s[0].toNat:Int)≤122)∨(65≤(s[0].toNat:Int)∧(s[0].toNat:Int)≤90))→Calls Tryd.prog 48 #[.string s] w fun e w'=>e=.returned (.bool (nameB s))∧w=w':=by
   intro hok1 hc
   have hok1:=Lib.hid hok1
   clear hcl hyes hno hb0
   rcases hc with ⟨ca,cb⟩ | ⟨ca,cb⟩
   all_goals
    try (have q0:decide ((s[0].toNat:Int)≤90)=false:=by first | (simp;omega) | (simp;done))
    try (have q1:decide ((s[0].toNat:Int)≤122)=false:=by first | (simp;omega) | (simp;done))
    try (have q2:decide ((s[0].toNat:Int)≤57)=false:=by first | (simp;omega) | (simp;done))
    try (have q3:((s[0].toNat:Int) != 45)=true:=by first | (simp;omega) | (simp;done))
    try (have q4:((s[0].toNat:Int) == 45)=false:=by first | (simp;omega) | (simp;done))
    try (have q5:decide (97≤(s[0].toNat:Int))=false:=by first | (simp;omega) | (simp;done))
    try (have q6:decide (65≤(s[0].toNat:Int))=false:=by first | (simp;omega) | (simp;done))
    try (have q7:decide (48≤(s[0].toNat:Int))=false:=by first | (simp;omega) | (simp;done))
    try (have q8:decide ((s[0].toNat:Int)≤90)=true:=by first | (simp;omega) | (simp;done))
    try (have q9:decide ((s[0].toNat:Int)≤122)=true:=by first | (simp;omega) | (simp;done))
    try (have q10:decide ((s[0].toNat:Int)≤57)=true:=by first | (simp;omega) | (simp;done))
    go_enter Tryd.func48,Tryd.ntmps48
    go_wp2
    go_loop [3] (fun i=>∃ k:Nat,1≤k∧k≤s.size∧i=.int .i64 k∧okTo s k) (fun i=>s.size-(intOf i).toNat)
    case atStart=>exact⟨1,by omega,by omega,rfl,hok1.out⟩
    case round =>
     obtain⟨k,hk0,hk,rfl,hok2⟩:=hrel
     try clear q0
     try clear q1
     try clear q2
     try clear q3
     try clear q4
     try clear q5
     try clear q6
     try clear q7
     try clear q8
     try clear q9
     try clear q10
     clear ca cb c0
     by_cases hlt:k<s.size
     ·have hb:=byteAt_eq hlt
      have hcl:(97≤(s[k].toNat:Int)∧(s[k].toNat:Int)≤122)∨(65≤(s[k].toNat:Int)∧(s[k].toNat:Int)≤90)∨(48≤(s[k].toNat:Int)∧(s[k].toNat:Int)≤57)∨(s[k].toNat:Int)=45∨(s[k].toNat:Int)<45∨(46≤(s[k].toNat:Int)∧(s[k].toNat:Int)≤47)∨(58≤(s[k].toNat:Int)∧(s[k].toNat:Int)≤64)∨(91≤(s[k].toNat:Int)∧(s[k].toNat:Int)≤96)∨123≤(s[k].toNat:Int):=by omega
      have c0:0≤(s[k].toNat:Int):=by omega
      have hyes:=Lib.hid (fun h:okAt s k=true=>okTo_succ hok2 h)
      have hno:=Lib.hid (fun h:okAt s k=false=>nameB_no hlt h)
      rcases hcl with ⟨ca,cb⟩ | ⟨ca,cb⟩ | ⟨ca,cb⟩ | ca | ca | ⟨ca,cb⟩ | ⟨ca,cb⟩ | ⟨ca,cb⟩ | ca
      all_goals first
       |(have hok:Hid (okTo s (k+1)):=hyes.out (by unfold okAt;rw[hb];simp;omega)
         clear hyes hno hb
         try (have q0:decide ((s[k].toNat:Int)≤90)=false:=by first | (simp;omega) | (simp;done))
         try (have q1:decide ((s[k].toNat:Int)≤122)=false:=by first | (simp;omega) | (simp;done))
         try (have q2:decide ((s[k].toNat:Int)≤57)=false:=by first | (simp;omega) | (simp;done))
         try (have q3:((s[k].toNat:Int) != 45)=true:=by first | (simp;omega) | (simp;done))
         try (have q4:((s[k].toNat:Int) == 45)=false:=by first | (simp;omega) | (simp;done))
         try (have q5:decide (97≤(s[k].toNat:Int))=false:=by first | (simp;omega) | (simp;done))
         try (have q6:decide (65≤(s[k].toNat:Int))=false:=by first | (simp;omega) | (simp;done))
         try (have q7:decide (48≤(s[k].toNat:Int))=false:=by first | (simp;omega) | (simp;done))
         try (have q8:decide ((s[k].toNat:Int)≤90)=true:=by first | (simp;omega) | (simp;done))
         try (have q9:decide ((s[k].toNat:Int)≤122)=true:=by first | (simp;omega) | (simp;done))
         try (have q10:decide ((s[k].toNat:Int)≤57)=true:=by first | (simp;omega) | (simp;done))
         go_wp2
         go_round
         case rel=>exact⟨k+1,by omega,by omega,by go_num,hok.out⟩
         case measure=>simp[intOf];omega)
       |(have hfin:Hid (nameB s=false):=hno.out (by unfold okAt;rw[hb];simp;omega)
         clear hyes hno hb
         try (have q0:decide ((s[k].toNat:Int)≤90)=false:=by first | (simp;omega) | (simp;done))
         try (have q1:decide ((s[k].toNat:Int)≤122)=false:=by first | (simp;omega) | (simp;done))
         try (have q2:decide ((s[k].toNat:Int)≤57)=false:=by first | (simp;omega) | (simp;done))
         try (have q3:((s[k].toNat:Int) != 45)=true:=by first | (simp;omega) | (simp;done))
         try (have q4:((s[k].toNat:Int) == 45)=false:=by first | (simp;omega) | (simp;done))
         try (have q5:decide (97≤(s[k].toNat:Int))=false:=by first | (simp;omega) | (simp;done))
         try (have q6:decide (65≤(s[k].toNat:Int))=false:=by first | (simp;omega) | (simp;done))
         try (have q7:decide (48≤(s[k].toNat:Int))=false:=by first | (simp;omega) | (simp;done))
         try (have q8:decide ((s[k].toNat:Int)≤90)=true:=by first | (simp;omega) | (simp;done))
         try (have q9:decide ((s[k].toNat:Int)≤122)=true:=by first | (simp;omega) | (simp;done))
         try (have q10:decide ((s[k].toNat:Int)≤57)=true:=by first | (simp;omega) | (simp;done))
         go_wp2
         go_ret
         exact⟨ret_bool hfin.out.symm,rfl⟩)
     obtain rfl:k=s.size:=by omega
     have hfin:=Lib.hid (nameB_yes h1 h12 hok2)
     go_wp2
     go_ret
     exact⟨ret_bool hfin.out.symm,rfl⟩
  rcases hcl with ⟨ca,cb⟩ | ⟨ca,cb⟩ | ⟨ca,cb⟩ | ca | ca | ⟨ca,cb⟩ | ⟨ca,cb⟩ | ⟨ca,cb⟩ | ca
  all_goals first
   |(have hok:okTo s (0+1):=hyes.out (by unfold okAt;rw[hb0];simp;omega)
     exact hmain hok (by omega))
   |(have hfin:Hid (nameB s=false):=hno.out (by unfold okAt;rw[hb0];simp;omega)
     clear hyes hno hb0 hmain
     try (have q0:decide ((s[0].toNat:Int)≤90)=false:=by first | (simp;omega) | (simp;done))
     try (have q1:decide ((s[0].toNat:Int)≤122)=false:=by first | (simp;omega) | (simp;done))
     try (have q2:decide ((s[0].toNat:Int)≤57)=false:=by first | (simp;omega) | (simp;done))
     try (have q3:((s[0].toNat:Int) != 45)=true:=by first | (simp;omega) | (simp;done))
     try (have q4:((s[0].toNat:Int) == 45)=false:=by first | (simp;omega) | (simp;done))
     try (have q5:decide (97≤(s[0].toNat:Int))=false:=by first | (simp;omega) | (simp;done))
     try (have q6:decide (65≤(s[0].toNat:Int))=false:=by first | (simp;omega) | (simp;done))
     try (have q7:decide (48≤(s[0].toNat:Int))=false:=by first | (simp;omega) | (simp;done))
     try (have q8:decide ((s[0].toNat:Int)≤90)=true:=by first | (simp;omega) | (simp;done))
     try (have q9:decide ((s[0].toNat:Int)≤122)=true:=by first | (simp;omega) | (simp;done))
     try (have q10:decide ((s[0].toNat:Int)≤57)=true:=by first | (simp;omega) | (simp;done))
     go_enter Tryd.func48,Tryd.ntmps48
     go_wp2
     go_ret
     exact⟨ret_bool hfin.out.symm,rfl⟩)
 have hfin:=Lib.hid (nameB_size (s:=s) (by omega))
 go_enter Tryd.func48,Tryd.ntmps48
 go_wp2
 go_ret
 exact⟨ret_bool hfin.out.symm,rfl⟩
end Go.Proofs.YtcnfhnndppollaaDoor
namespace Go.Proofs.YtcnfhnndppollaaDoor
open Go Go.RowKit
def Cal.holErr (kind month day weekday:Int):Int :=
 if kind=0 then (if 1≤month∧month≤12∧1≤day∧day≤Cal.mlen 1804 month then (if weekday=0 then 0 else 3) else 24)
 else if kind=1 then (if -80≤day∧day≤240 then (if month=0∧weekday=0 then 0 else 3) else 2)
 else if kind=2 then (if 1≤month∧month≤12 then (if ((1≤day∧day≤4)∨day=-1)∧0≤weekday∧weekday≤6 then 0 else 2) else 24)
 else 2
end Go.Proofs.YtcnfhnndppollaaDoor
namespace Go.Proofs.YtcnfhnndppollaaDoor
open Go Go.RowKit Go.Maps Go.WideMaps Go.ChangeMaps
def setAt {κ:Type} [DecidableEq κ] (f:κ→Option Value) (x0:κ) (v:Value):κ→Option Value:=fun x=>if x=x0 then some v else f x
theorem setAt_same {κ:Type} [DecidableEq κ] (f:κ→Option Value) (x:κ) (v:Value):setAt f x v x=some v:=by simp[setAt]
theorem setAt_other {κ:Type} [DecidableEq κ] (f:κ→Option Value) {x0 x:κ} (v:Value) (h:x≠x0):setAt f x0 v x=f x:=by simp[setAt,h]
def heldR (v:Value):Option (DataW Value × List MemPlace):=some (.held v,[])
def MapIs {κ:Type} (P:Program) (k:TypeId) (lit:κ→Lit) (w:World) (b n:Nat) (f:κ→Option Value):Prop :=
 ∃ D:DataW Value,w.ownsMap P k heldR b n D∧∀ x,WideAt.IsKeyLit (lit x)→Maps.has D (lit x)=(f x).isSome∧∀ z,D.atKey (lit x) (.held z)=.held ((f x).getD z)
variable {P : Program} {k : TypeId} {w : World} {b n : Nat} {κ : Type} {lit : κ → Lit} {f : κ → Option Value}
theorem MapIs.made (P:Program) (k:TypeId) (lit:κ→Lit) (w:World):MapIs P k lit (w.alloc (.map #[] 0)) w.heap.size 0 (fun _=>none) :=
 ⟨.map [],World.ownsMap_made w P k heldR,fun _ _=>⟨rfl,fun _=>rfl⟩⟩
theorem MapIs.kept {w':World} {row:Option Nat} (h:MapIs P k lit w b n f) (hg:w.grownBy w' row) (hne:some b≠row):MapIs P k lit w' b n f:=by
 obtain⟨D,h,hf⟩:=h;exact⟨D,h.kept hg hne,hf⟩
theorem MapIs.same {w':World} (h:MapIs P k lit w b n f) (hb:w'.heap[b]?=w.heap[b]?):MapIs P k lit w' b n f:=by
 obtain⟨D,⟨es,clock,h1,h2⟩,hf⟩:=h
 exact⟨D,⟨es,clock,hb.trans h1,h2⟩,hf⟩
theorem MapIs.below {w':World} {B:Nat} (h:MapIs P k lit w b n f) (hb:Below B w w') (hlt:b<B):MapIs P k lit w' b n f:=h.same (hb.block b hlt)
theorem MapIs.setCell (h:MapIs P k lit w b n f) {a:Addr} (ha:b≠a.block) (u:Value):MapIs P k lit (w.setCell a u) b n f:=h.same (Below.heap_setCell w a u b ha)
theorem MapIs.look {t e:TypeId} (h:MapIs P k lit w b n f) (K:Keyed P k) (ht:P.underlying t=some (.map k e)) {z:Value} (hz:(zeroValue e).run P w=.ok z w) {key:Value} {kl:κ} (hkey:keyOf P k key=some (lit kl)) :
  (Instr.lookup t (.map (some b)) key false).run P w=.ok ((f kl).getD z) w:=by
 obtain⟨D,h,hf⟩:=h
 obtain⟨v,ps,hrun,hv⟩:=h.lookup K ht hz (zd:=.held z) (zp:=[]) rfl hkey
 obtain⟨_,h2⟩:=hf kl (K.key hkey)
 rw[h2 z] at hv
 simp only[heldR,Option.some.injEq,Prod.mk.injEq,DataW.held.injEq] at hv
 rw[hrun,hv.1]
theorem MapIs.look_ok {t e:TypeId} (h:MapIs P k lit w b n f) (K:Keyed P k) (ht:P.underlying t=some (.map k e)) {z:Value} (hz:(zeroValue e).run P w=.ok z w) {key:Value} {kl:κ} (hkey:keyOf P k key=some (lit kl)) :
  (Instr.lookup t (.map (some b)) key true).run P w=.ok (.tuple #[(f kl).getD z,.bool (f kl).isSome]) w:=by
 obtain⟨D,h,hf⟩:=h
 obtain⟨v,ps,hrun,hv⟩:=h.look_ok K ht hz (zd:=.held z) (zp:=[]) rfl hkey
 obtain⟨h1,h2⟩:=hf kl (K.key hkey)
 rw[h2 z] at hv
 simp only[heldR,Option.some.injEq,Prod.mk.injEq,DataW.held.injEq] at hv
 rw[hrun,hv.1,h1]
theorem MapIs.store [DecidableEq κ] (hinj:∀ x y,lit x=lit y→x=y) {t e:TypeId} (h:MapIs P k lit w b n f) (K:Keyed P k) (ht:P.underlying t=some (.map k e)) (hn:n<maxLen) {key val:Value} {kl:κ} (hkey:keyOf P k key=some (lit kl)) :
  ∃ w',(Instr.mapUpdate t (.map (some b)) key val).run P w=.ok () w'∧MapIs P k lit w' b (n+1) (setAt f kl val)∧w.grownBy w' (some b)∧w'.heap.size=w.heap.size:=by
 obtain⟨D,h,hf⟩:=h
 have hm:=h.isMap
 obtain⟨w',hrun,h1,h2⟩:=h.store K ht hn hkey (val:=val) (d:=.held val) (ps:=[]) rfl
 refine⟨w',hrun,⟨D.put (lit kl) (.held val),h1,fun x hx=>?_⟩,h2.grown,?_⟩
 ·by_cases he:x=kl
  ·subst he
   rw[setAt_same]
   exact⟨by rw[has_put_same hm hx];rfl,fun z=>by rw[atKey_put_same hm hx];rfl⟩
  rw[setAt_other _ _ he]
  obtain⟨a1,a2⟩:=hf x hx
  exact⟨by rw[has_put_other (fun e=>he (hinj _ _ e))];exact a1,fun z=>by rw[atKey_put_other (fun e=>he (hinj _ _ e))];exact a2 z⟩
 obtain⟨es,c,es',c',_,rfl⟩:=h2
 simp[setBlock]
end Go.Proofs.YtcnfhnndppollaaDoor
namespace Go.Proofs.YtcnfhnndppollaaDoor
open Go Go.RowKit Go.Maps Go.WideMaps
def Cal.holErrOf (h:Hol):Int:=Cal.holErr h.kind h.month h.day h.weekday
def hasName (seen:List Hol) (nm:ByteArray):Bool:=seen.any fun q=>q.name.toList == nm.toList
def Cal.holsErrFrom (seen:List Hol):List Hol→Int
 | []=>0
 | h :: r=>if nameB h.name=true then (if hasName seen h.name=true then 5 else if Cal.holErrOf h=0 then Cal.holsErrFrom (seen ++ [h]) r else Cal.holErrOf h) else 4
def Cal.holsErr (l:List Hol):Int:=if 40<l.length then 8 else Cal.holsErrFrom [] l
theorem boolZero (w:World):(zeroValue 4).run Tryd.prog w=.ok (.bool false) w:=by kernel_rfl
def strLit (x:List UInt8):Lit:=.string x
theorem strLit_inj (x y:List UInt8) (h:strLit x=strLit y):x=y:=by unfold strLit at h;cases h;rfl
end Go.Proofs.YtcnfhnndppollaaDoor
namespace Go.Proofs
open Go.Shelf
def Tryd.lays106_ren:Go.Shelf.Ren:=⟨fun | 106=>44 | 213=>64 | 265=>89 | n=>n,fun | 9=>9 | 3=>3 | n=>n,fun | n=>n⟩
theorem Tryd.lays106:Go.Proofs.Lays.n106 Tryd.prog Tryd.lays106_ren:={
 mixed:=by kernel_rfl
 f106:=Tryd.func44.trans (congrArg some (by kernel_rfl))
 f213:=Tryd.func64.trans (congrArg some (by kernel_rfl))
 f265:=Tryd.func89.trans (congrArg some (by kernel_rfl))
 t3:=Tryd.underlying3
 a3:=Tryd.isAgg3
 z3:=Tryd.sizeOf3
 v3:=Tryd.zeroValue3
 t9:=Tryd.underlying9
 a9:=Tryd.isAgg9
 z9:=Tryd.sizeOf9
 v9:=Tryd.zeroValue9 }
open Go.RowKit in
theorem Tryd.strings_Compare (a b:ByteArray) (w:World) :
  Calls Tryd.prog 44 #[.string a,.string b] w fun e w'=>e=.returned (.int .i64 (Lib.compareBytes a.data.toList b.data.toList))∧w'=w:=Any.strings_Compare Tryd.lays106 a b w
end Go.Proofs
namespace Go.Proofs.YtcnfhnndppollaaDoor
open Go Go.RowKit Go.Maps Go.WideMaps
def Cal.onS (h:Hol) (y:Int):Option Int :=
 if h.kind=0 then (if h.day≤Cal.mlen y h.month then some (Cal.first y h.month+h.day-1) else none)
 else if h.kind=1 then some (Cal.easter y+h.day)
 else if 0<h.day then some (Cal.first y h.month+(h.weekday-(Cal.first y h.month+2) % 7+7) % 7+7*(h.day-1))
 else some (Cal.first y h.month+Cal.mlen y h.month-1-(Cal.first y h.month+Cal.mlen y h.month-1-(Cal.first y h.month+(h.weekday-(Cal.first y h.month+2) % 7+7) % 7)) % 7)
def Cal.hols (l:List Hol) (y:Int):List Int:=l.filterMap fun h=>Cal.onS h y
def Cal.worksB (l:List Hol) (d:Int):Bool:=decide ((d+2) % 7≤4) && !(Cal.hols l (Cal.dY d)).contains d
end Go.Proofs.YtcnfhnndppollaaDoor
namespace Go.Proofs.YtcnfhnndppollaaDoor
open Go Go.RowKit
def intRows (ns:List Int):List (List Value):=ns.map fun n=>[.int .i64 n]
end Go.Proofs.YtcnfhnndppollaaDoor
