/- What the statements rest on: definitions and walks, part 01. -/
import Derived.Test.YtcnfhnndppollaaGreatDoorRows
import Derived.WalkKit
import Derived.WalkSpells
import Derived.WalkLawsBesides
import Derived.ProofKit
import Derived.Lib.Hide
import Derived.Below
import Derived.LoopTactic
import Derived.Deep.LoopGhost
import Derived.Deep.Draws
import Derived.Deep.QuietTactic
import Derived.BigQuiet
import Derived.Deep.DeepFit
import Derived.Outline
import Derived.IntWalk
import Derived.ChangeSame
import Derived.Test.YtcnfhnndppollaaGreatDoorTie
import Derived.Test.YtcnfhnndppollaaGreatDoorCards
import Derived.RangeFuncOwn
import Derived.Deep.Slices
import Derived.Deep.Fields
import Derived.WideKeyArgs
import Derived.Lib.SmallJoins
import Derived.Deep.DeepHandedRow
import Derived.Lib.LaidTab
import Derived.OpenShut
import Derived.Carry
import Derived.Maps.OwnSet
import Derived.Maps.OwnOps
import Derived.Shelf.Small.Bits
import Derived.Shelf.Small.Strs
import Derived.Shelf.Strconv.Itoa0
import Derived.Test.YtcnfhnndppollaaGreatDoorProg
import Derived.Laws.AppendOwnNone
import Derived.Deep.AppendLies
import Derived.Lib.SlicesCompact
import Derived.Laws.OwnMore
import Derived.Sort.Grow
import Derived.RangeFuncNested
import Derived.RangeFuncBound
import Derived.RangeFuncCalls
import Derived.RangeFuncLeaves
import Derived.Shelf.Abstract
import Derived.Shelf.RegionOpen
import Derived.OwnWalkIn
import Derived.TacticsInMore
import Derived.LoopNIn
import Derived.LoopIn
set_option maxRecDepth 100000
set_option maxHeartbeats 16000000
set_option linter.unusedSimpArgs false
set_option linter.unusedVariables false
namespace Go.Proofs.YtcnfhnndppollaaGreatDoor
open Go Go.RowKit Go.WideShapes Go.ChangeShapes
theorem ret_int {k:IntKind} {a b:Int} (h:a=b):Ending.returned (.int k a)=.returned (.int k b):=by rw[h]
theorem bcell {W w1:World} (hb:Below W.heap.size W w1):(∀ b o,b<W.heap.size→w1.cell? ⟨b,o,none⟩=W.cell? ⟨b,o,none⟩)∧(∀ b o,b<W.heap.size→w1.frozen? ⟨b,o,none⟩=W.frozen? ⟨b,o,none⟩) :=
 ⟨fun b o h=>hb.cell (p:=⟨b,o,none⟩) h,fun b o h=>hb.frozen (p:=⟨b,o,none⟩) h⟩
theorem below_drewN {B:Nat} {a w:World} (h:Below B a w) (n:Nat):Below B a (w.drewN n):=⟨h.os,h.tape,h.output,h.size,h.block⟩
theorem below_step {w a b:World} (h:Below w.heap.size w a) (k:Below a.heap.size a b):Below w.heap.size w b:=h.trans (k.mono h.size)
theorem below_alloc (w:World) (o:Obj):Below w.heap.size w (w.alloc o):=(Below.refl _ _).alloc (Nat.le_refl _) o
theorem quiet_left {P:Program} {f:FuncId} {args:Array Value} {w:World} {n:Nat} {v:Value}
  (h:Calls P f args (w.drewN n) fun e w'=>e=.returned v∧w.drewN n=w'):Calls P f args (w.drewN n) fun e w''=>e=.returned v∧∃ m,w''=w.drewN m :=
 h.mono fun _ _ ⟨he,hm⟩=>⟨he,n,hm.symm⟩
theorem calls_in {P:Program} {f:FuncId} {args:Array Value} {w:World} {p q:Prop} [Decidable p] [Decidable q] (h:Calls P f args w fun e w'=>e=.returned (.bool (decide p && decide q))∧w=w') (hp:p) (hq:q) :
  Calls P f args w fun e w'=>e=.returned (.bool true)∧w=w':=h.mono fun _ _ ⟨he,hw⟩=>⟨by rw[he];simp[hp,hq],hw⟩
theorem calls_out {P:Program} {f:FuncId} {args:Array Value} {w:World} {p q:Prop} [Decidable p] [Decidable q] (h:Calls P f args w fun e w'=>e=.returned (.bool (decide p && decide q))∧w=w') (hn:¬(p∧q)) :
  Calls P f args w fun e w'=>e=.returned (.bool false)∧w=w':=h.mono fun _ _ ⟨he,hw⟩=>⟨by rw[he];congr 2;by_cases hp:p <;> by_cases hq:q <;> simp_all,hw⟩
section
variable {f : FuncId} {args : Array Value} {w : World} {K : Ending → World → Prop} {p q : Prop} {dp : Decidable p} {dq : Decidable q}
theorem rin (k:K (.returned (.bool true)) w) (h:Calls Tryz.prog f args w fun e w'=>e=.returned (.bool (decide p && decide q))∧w=w':=by first | exact within_any _ _ _ _ | exact Within_any _ _ _ _ | exact isDay_any _ _ | exact IsDay_any _ _ | exact IsYear_any _ _ | exact IsFull_any _ _ | exact isFull_any _ _ | exact nwithin_any _ _ _ _ | exact vwithin_any _ _ _ _ | exact visDay_any _ _ | exact visCont_any _ _ | exact vIsDay_any _ _ | exact vIsCont_any _ _) (hp:p:=by omega) (hq:q:=by omega):Calls Tryz.prog f args w K :=
 (calls_in h hp hq).mono fun e w' ⟨he,hw⟩=>by subst he hw;exact k
theorem rout (k:K (.returned (.bool false)) w) (h:Calls Tryz.prog f args w fun e w'=>e=.returned (.bool (decide p && decide q))∧w=w':=by first | exact within_any _ _ _ _ | exact Within_any _ _ _ _ | exact isDay_any _ _ | exact IsDay_any _ _ | exact IsYear_any _ _ | exact IsFull_any _ _ | exact isFull_any _ _ | exact nwithin_any _ _ _ _ | exact vwithin_any _ _ _ _ | exact visDay_any _ _ | exact visCont_any _ _ | exact vIsDay_any _ _ | exact vIsCont_any _ _) (hn:¬(p∧q):=by omega):Calls Tryz.prog f args w K :=
 (calls_out h hn).mono fun e w' ⟨he,hw⟩=>by subst he hw;exact k
theorem rany (k:K (.returned (.bool (decide p && decide q))) w) (h:Calls Tryz.prog f args w fun e w'=>e=.returned (.bool (decide p && decide q))∧w=w':=by first | exact within_any _ _ _ _ | exact Within_any _ _ _ _ | exact isDay_any _ _ | exact IsDay_any _ _ | exact IsYear_any _ _ | exact IsFull_any _ _ | exact isFull_any _ _ | exact nwithin_any _ _ _ _ | exact vwithin_any _ _ _ _ | exact visDay_any _ _ | exact visCont_any _ _ | exact vIsDay_any _ _ | exact vIsCont_any _ _):Calls Tryz.prog f args w K :=
 h.mono fun e w' ⟨he,hw⟩=>by subst he hw;exact k
variable {n : Nat}
end
theorem blw {B:Nat} {a w:World} (h:Below B a w:=by (repeat (first | assumption | exact Below.refl _ _ | exact below_alloc _ _ | refine below_drewN ?_ _ | refine Below.drew ?_ | (refine Below.setCell ?_ ?_ _;rotate_left;focus (first | omega | (simp;done) | (simp;omega))) | (refine Below.alloc ?_ ?_ _;rotate_left;focus (first | omega | (simp;done) | (simp;omega)))))):Below B a w:=h
section
variable {H : Type} {enc : TypeId × Value → H} {P : Program}
theorem post_of_below {f:Func} {s:ChangeSpec} {apart fresh handsOn again:Bool} {W W':World} {args:Array Value} {v:Value} {ds gs:List (DataW H)} {before pa pv:List MemPlace}
  (hW:DataW.Whole enc P f.params.toList s.vars apart W args.toList ds gs before)
  (hres:∀ (b:Nat) (sp:Nat→Bool) (hd:Bool),DataW.TrodAll enc P W' b sp hd f.resultTypes.toList (v.resultList f.resultTypes.size) (s.fn H (ds ++ gs)).results [])
  (hargs:∀ sp:Nat→Bool,(∀ p∈before,sp p.block=true)→DataW.TrodAll enc P W' 0 sp true f.params.toList args.toList (s.fn H (ds ++ gs)).args pa)
  (hvars:∀ sp:Nat→Bool,(∀ p∈before,sp p.block=true)→DataW.TrodVars enc P W' sp s.vars (s.fn H (ds ++ gs)).vars pv)
  (hps:before=pa ++ pv) (hb:Below W.heap.size W W')
  (hok:∀ (j:Nat) (t:TypeId) (r:Value),f.resultTypes[j]?=some t→(v.resultList f.resultTypes.size)[j]?=some r→Value.okWide P W' .any 0 t r) :
  s.post enc P f apart fresh handsOn again W args v W':=by
 have hlt:∀ p∈before,p.block<W.heap.size:=fun p hp=>hW.lt p hp
 have hold:∀ p∈before,(fun b=>decide (b<W.heap.size)) p.block=true:=fun p hp=>by simpa using hlt p hp
 refine⟨ds,gs,before,[],pa,pv,hW,hres _ _ _,hargs _ hold,hvars _ hold,World.keptBut_mono (fun p hp=>⟨hp,?_⟩) (hb.frame (·∈before)),fun _=>?_⟩
 ·rw[hps,List.mem_append] at hp
  exact Or.inr hp
 obtain⟨_,_,_,_,_,hz,hn⟩:=hW
 refine⟨hok,_,_,([] ++ pa) ++ pv,⟨[] ++ pa,pv,trodAll_append (hargs _ (fun _ _=>rfl)) (hres _ _ _),hvars _ (fun _ _=>rfl),rfl,?_,?_⟩,?_⟩
 ·intro b off hp
  have hin:MemPlace.cell b off∈before:=by rw[hps];simpa using hp
  rw[hb.frozen (hlt _ hin)]
  exact hz b off hin
 ·intro ha
  have:=hn ha
  rw[hps] at this
  simpa using this
 intro p hp _
 rw[hps]
 simpa using hp
end
def lenTab:List Int:=[31,28,31,30,31,30,31,31,30,31,30,31]
structure Tab (w:World):Prop where
 lt:1<w.heap.size
 cell:∀ i:Nat,i<12→w.cell? ⟨1,i,none⟩=some (.int .i64 (lenTab.getD i 0))
theorem Tab.below {w w':World} (h:Tab w) (hb:Below w.heap.size w w'):Tab w' :=
 ⟨Nat.lt_of_lt_of_le h.lt hb.size,fun i hi=>(hb.cell (p:=⟨1,i,none⟩) h.lt).trans (h.cell i hi)⟩
theorem Tab.alloc {w:World} (h:Tab w) (o:Obj):Tab (w.alloc o):=h.below (below_alloc w o)
theorem Tab.drewN {w:World} (h:Tab w) (n:Nat):Tab (w.drewN n):=⟨h.lt,h.cell⟩
end Go.Proofs.YtcnfhnndppollaaGreatDoor
namespace Go.Proofs.YtcnfhnndppollaaGreatDoor
open Go Go.RowKit
def RowsAt (w:World) (A:Option Addr) (m:Nat) (rows:List (List Value)):Prop :=
 ∀ k r,rows[k]?=some r→∃ b o,A=some ⟨b,o,none⟩∧b<w.heap.size∧∀ j v,r[j]?=some v→w.cell? ⟨b,o+(k*m+j),none⟩=some v
theorem RowsAt.below {w w':World} {A:Option Addr} {m:Nat} {rows:List (List Value)} (h:RowsAt w A m rows) (hb:Below w.heap.size w w'):RowsAt w' A m rows:=fun k r hr=>by
 obtain⟨b,o,hA,hlt,hc⟩:=h k r hr
 exact⟨b,o,hA,Nat.lt_of_lt_of_le hlt hb.size,fun j v hv=>(hb.cell (p:=⟨b,o+(k*m+j),none⟩) hlt).trans (hc j v hv)⟩
theorem RowsAt.nil (w:World) (A:Option Addr) (m:Nat):RowsAt w A m []:=fun k r hr=>by simp at hr
end Go.Proofs.YtcnfhnndppollaaGreatDoor
namespace Go.Proofs.YtcnfhnndppollaaGreatDoor
open Go Go.RowKit Go.ChangeShapes Go.WideShapes Go.Deep
theorem own:ownKnob Tryz.prog.godebug=none:=by kernel_rfl
theorem laidOut:laidOutB Tryz.prog=true:=by kernel_rfl
theorem gLen : Tryz.prog.globalNamed "mortsafe/rule.lengths" = some 1 := by kernel_rfl
theorem gLenType:(Tryz.prog.globals[1]?).map (·.type)=some 115:=by kernel_rfl
theorem cellsLen:Tryz.prog.cellsOf 115=12:=by kernel_rfl
theorem cellsInt:Tryz.prog.cellsOf 3=1:=by kernel_rfl
section
variable {H : Type} {enc : TypeId × Value → H}
theorem trodAll_stays {W W':World} {sp':Nat→Bool}:∀ {ts:List TypeId} {vs:List Value} {ds:List (DataW H)} {ps:List MemPlace},(∀ t∈ts,Tryz.prog.readableRec t=true∧t<Tryz.prog.types.size) →
  DataW.TrodAll enc Tryz.prog W 0 (fun _=>true) true ts vs ds ps→(∀ p∈ps,W.sameAt W' p)→(∀ p∈ps,sp' p.block=true)→DataW.TrodAll enc Tryz.prog W' 0 sp' true ts vs ds ps
 | [],vs,ds,ps,_,h,_,_=>by
  obtain⟨rfl,rfl,rfl⟩:=trodAll_nil h
  exact rfl
 | t :: ts,vs,ds,ps,ht,h,hs,hp=>by
  obtain⟨v0,vs0,d0,ds0,p0,q0,rfl,rfl,rfl,h0,r0⟩:=trodAll_cons h
  have h1:=ht t (List.mem_cons_self ..)
  exact⟨p0,q0,WideElems.Trod_stays laidOut h1.1 h1.2 h0 (fun p hm=>hs p (List.mem_append_left _ hm)) (fun p hm=>hp p (List.mem_append_left _ hm)),
   trodAll_stays (fun t hm=>ht t (List.mem_cons_of_mem _ hm)) r0 (fun p hm=>hs p (List.mem_append_right _ hm)) (fun p hm=>hp p (List.mem_append_right _ hm)),rfl⟩
theorem post_true {f:Func} {s:ChangeSpec} {W W':World} {args:Array Value} {ds gs:List (DataW H)} {before:List MemPlace} (hvars:s.vars=[]) (hres:f.resultTypes=#[4])
  (hpar:∀ t∈f.params.toList,Tryz.prog.readableRec t=true∧t<Tryz.prog.types.size)
  (hW:DataW.Whole enc Tryz.prog f.params.toList s.vars false W args.toList ds gs before) (hs:s.fn H (ds ++ gs)={ results:=[.lit (.bool true)],args:=ds }) (hb:Below W.heap.size W W') :
  s.post enc Tryz.prog f false true false false W args (.bool true) W':=by
 have hW':=hW
 have hlt:∀ p∈before,p.block<W.heap.size:=fun p hp=>hW'.lt p hp
 obtain⟨p,q,hA,hV,rfl,hfz,hnd⟩:=hW
 rw[hvars] at hV
 obtain⟨rfl,rfl⟩:=trodVars_none hV
 simp only[List.append_nil] at hs hW' hlt
 refine post_of_below (pa:=p) (pv:=[]) (ds:=ds) (gs:=[]) (before:=p) hW' ?_ ?_ ?_ (by simp) hb ?_
 ·intro b sp hd
  rw[List.append_nil,hs,hres]
  exact trodAll_cons_mk (shut_bool Tryz.underlying4 _) trodAll_mk0
 ·intro sp hsp
  rw[List.append_nil,hs]
  exact trodAll_stays hpar hA (fun x hx=>hb.same (hlt x hx)) hsp
 ·intro sp _
  rw[hvars,List.append_nil,hs]
  rfl
 exact ok_one hres rfl (okWide_bool_mk Tryz.underlying4 _)
end
noncomputable def laidWorld (os:Os):World :=
 { World.holding Tryz.prog os ⟨#[],#[],[]⟩ with heap:=(World.holding Tryz.prog os ⟨#[],#[],[]⟩).heap.modify 1 fun
   | .cells _ t frozen=>.cells #[.int .i64 31,.int .i64 28,.int .i64 31,.int .i64 30,.int .i64 31,.int .i64 30,.int .i64 31,.int .i64 31,.int .i64 30,.int .i64 31,.int .i64 30,.int .i64 31] t frozen
   | o=>o }
end Go.Proofs.YtcnfhnndppollaaGreatDoor
namespace Go.Proofs.YtcnfhnndppollaaGreatDoor.Cal
def leapB (y:Int):Bool:=decide (y % 4=0) && (!decide (y % 100=0) || decide (y % 400=0))
def lp (y:Int):Int:=if leapB y=true then 1 else 0
def mlen (y m:Int):Int :=
 if m=2 then 28+lp y else if m=4∨m=6∨m=9∨m=11 then 30 else 31
def beg (y:Int):Int:=365*(y-1800)+(y-1) / 4-(y-1) / 100+(y-1) / 400-436
def cum (y m:Int):Int :=
 if m≤1 then 0 else if m=2 then 31 else if m=3 then 59+lp y else if m=4 then 90+lp y else if m=5 then 120+lp y else if m=6 then 151+lp y
 else if m=7 then 181+lp y else if m=8 then 212+lp y else if m=9 then 243+lp y else if m=10 then 273+lp y else if m=11 then 304+lp y else if m=12 then 334+lp y else 365+lp y
def first (y m:Int):Int:=beg y+cum y m
theorem lp_01 (y:Int):lp y=0∨lp y=1:=by unfold lp;split <;> simp
theorem lp_ge (y:Int):0≤lp y:=by rcases lp_01 y with h | h <;> omega
theorem lp_le (y:Int):lp y≤1:=by rcases lp_01 y with h | h <;> omega
theorem lp_eq (y:Int):lp y=y / 4-(y-1) / 4-(y / 100-(y-1) / 100)+(y / 400-(y-1) / 400):=by
 unfold lp leapB
 by_cases h4:y % 4=0 <;> by_cases h100:y % 100=0 <;> by_cases h400:y % 400=0 <;> simp[h4,h100,h400] <;> omega
theorem beg_succ (y:Int):beg (y+1)=beg y+365+lp y:=by
 rw[lp_eq];unfold beg
 have:y+1-1=y:=by omega
 rw[this];omega
theorem beg_1800:beg 1800=0:=by decide
theorem beg_mono {a b:Int} (h:a≤b):beg a≤beg b:=by unfold beg;omega
theorem beg_lt {a b:Int} (h:a<b):beg a+365≤beg b:=by
 have:=beg_mono (a:=a+1) (b:=b) (by omega)
 have:=beg_succ a
 have:=lp_ge a
 omega
theorem mlen_bd (y m:Int):28≤mlen y m∧mlen y m≤31:=by
 have:=lp_01 y
 unfold mlen;repeat' split
 all_goals omega
theorem cum_bd (y m:Int):0≤cum y m∧cum y m≤366:=by
 have:=lp_ge y;have:=lp_le y
 unfold cum;omega
theorem cum_succ (y m:Int) (h1:1≤m) (h2:m≤12):cum y (m+1)=cum y m+mlen y m:=by
 have h:m=1∨m=2∨m=3∨m=4∨m=5∨m=6∨m=7∨m=8∨m=9∨m=10∨m=11∨m=12:=by omega
 rcases h with rfl | rfl | rfl | rfl | rfl | rfl | rfl | rfl | rfl | rfl | rfl | rfl <;> simp[cum,mlen] <;> omega
theorem cum_1 (y:Int):cum y 1=0:=rfl
theorem cum_13 (y:Int):cum y 13=365+lp y:=by simp[cum]
theorem cum_mono (y:Int) {m k:Int} (h:m≤k):cum y m≤cum y k:=by
 have:=lp_ge y;have:=lp_le y
 unfold cum;omega
theorem first_1 (y:Int):first y 1=beg y:=by simp[first,cum_1]
theorem first_13 (y:Int):first y 13=beg (y+1):=by simp[first,cum_13,beg_succ];omega
theorem first_succ (y m:Int) (h1:1≤m) (h2:m≤12):first y (m+1)=first y m+mlen y m:=by
 unfold first;rw[cum_succ y m h1 h2];omega
theorem first_le (y:Int) {m k:Int} (h:m≤k):first y m≤first y k:=by
 unfold first;have:=cum_mono y h;omega
theorem first_lo (y m:Int):beg y≤first y m:=by unfold first;have:=cum_bd y m;omega
theorem first_hi (y m:Int) (h1:1≤m) (h2:m≤12):first y m+mlen y m≤beg (y+1):=by
 rw[←first_succ y m h1 h2,←first_13];exact first_le y (by omega)
structure IsDate (y m d day:Int):Prop where
 m1:1≤m
 m2:m≤12
 d1:1≤d
 d2:d≤mlen y m
 day:first y m+d-1=day
theorem IsDate.lo {y m d day:Int} (h:IsDate y m d day):beg y≤day:=by
 have:=first_lo y m;have:=h.day;have:=h.d1;omega
theorem IsDate.hi {y m d day:Int} (h:IsDate y m d day):day<beg (y+1):=by
 have:=first_hi y m h.m1 h.m2;have:=h.day;have:=h.d2;omega
theorem year_unique {y y' day:Int} (a:beg y≤day) (b:day<beg (y+1)) (a':beg y'≤day) (b':day<beg (y'+1)):y=y':=by
 rcases Int.lt_trichotomy y y' with h | h | h
 ·have:=beg_mono (a:=y+1) (b:=y') (by omega);omega
 ·exact h
 have:=beg_mono (a:=y'+1) (b:=y) (by omega);omega
theorem month_unique {y m m' day:Int} (a:first y m≤day) (b:day<first y (m+1)) (a':first y m'≤day) (b':day<first y (m'+1)):m=m':=by
 rcases Int.lt_trichotomy m m' with h | h | h
 ·have:=first_le y (m:=m+1) (k:=m') (by omega);omega
 ·exact h
 have:=first_le y (m:=m'+1) (k:=m) (by omega);omega
theorem IsDate.unique {y m d y' m' d' day:Int} (h:IsDate y m d day) (h':IsDate y' m' d' day):y=y'∧m=m'∧d=d':=by
 obtain rfl:=year_unique h.lo h.hi h'.lo h'.hi
 have e1:=h.day;have e2:=h'.day
 have:=h.d1;have:=h.d2;have:=h'.d1;have:=h'.d2
 have s1:=first_succ y m h.m1 h.m2
 have s2:=first_succ y m' h'.m1 h'.m2
 obtain rfl:=month_unique (y:=y) (m:=m) (m':=m') (day:=day) (by omega) (by omega) (by omega) (by omega)
 exact⟨rfl,rfl,by omega⟩
def yearUp:Nat→Int→Int→Int
 | 0,_,y=>y
 | n+1,day,y=>if beg (y+1)≤day then yearUp n day (y+1) else y
def monthUp:Nat→Int→Int→Int→Int
 | 0,_,_,m=>m
 | n+1,day,y,m=>if first y (m+1)≤day then monthUp n day y (m+1) else m
def dY (day:Int):Int:=yearUp 600 day (1800+day / 366)
def dM (day:Int):Int:=monthUp 12 day (dY day) 1
def dD (day:Int):Int:=day-first (dY day) (dM day)+1
theorem yearUp_spec (n:Nat) (day y:Int) (a:beg y≤day) (b:day<beg (y+n+1)):beg (yearUp n day y)≤day∧day<beg (yearUp n day y+1):=by
 induction n generalizing y with
 | zero=>exact⟨a,by simpa [yearUp] using b⟩
 | succ n ih =>
  unfold yearUp
  split
  ·exact ih (y+1) (by assumption) (by rw[show y+1+(n:Int)+1=y+((n+1:Nat):Int)+1 by omega];exact b)
  exact⟨a,by omega⟩
theorem monthUp_spec (n:Nat) (day y m:Int) (m1:1≤m) (m2:m+n=13) (a:first y m≤day) (b:day<beg (y+1)) (hn:0<n) :
  first y (monthUp n day y m)≤day∧day<first y (monthUp n day y m+1)∧1≤monthUp n day y m∧monthUp n day y m≤12:=by
 induction n generalizing m with
 | zero=>omega
 | succ n ih =>
  unfold monthUp
  split
  ·rename_i h
   rcases Nat.eq_zero_or_pos n with h0 | h0
   ·subst h0
    have:m=12:=by omega
    subst this
    have:first y (12+1)=beg (y+1):=first_13 y
    omega
   exact ih (m+1) (by omega) (by omega) (by assumption) h0
  exact⟨a,by omega,m1,by omega⟩
theorem beg_guess (day:Int) (h:0≤day):beg (1800+day / 366)≤day:=by unfold beg;omega
theorem beg_2348:beg 2348=200152:=by decide
theorem year_hi (y day:Int) (h:beg y≤day) (h2:day≤200000):y≤2347:=by
 apply Classical.byContradiction;intro hn
 have:=beg_mono (a:=2348) (b:=y) (by omega)
 rw[beg_2348] at this;omega
theorem month_hi (y m day:Int) (hb:day<beg (y+1)) (hm:m≤12) (h:mlen y m≤day-beg y-cum y m) (h1:1≤m):m≤11:=by
 apply Classical.byContradiction;intro hn
 obtain rfl:m=12:=by omega
 have h13:=first_succ y 12 (by omega) (by omega)
 rw[show (12:Int)+1=13 from rfl,first_13] at h13
 unfold first at h13;omega
theorem year_lo (day:Int) (h:0≤day):1800≤1800+day / 366:=by omega
theorem beg_guess_hi (day:Int) (h:0≤day) (h2:day≤210000):day<beg (1800+day / 366+600+1):=by unfold beg;omega
theorem date_spec (day:Int) (h:0≤day) (h2:day≤210000):IsDate (dY day) (dM day) (dD day) day:=by
 obtain⟨a,b⟩:=yearUp_spec 600 day (1800+day / 366) (beg_guess day h) (beg_guess_hi day h h2)
 obtain⟨c,d,e,f⟩:=monthUp_spec 12 day (dY day) 1 (by omega) (by omega) (by rw[first_1];exact a) b (by omega)
 exact⟨e,f,by unfold dD;have:first (dY day) (dM day)≤day:=c;omega,by
  have:day<first (dY day) (dM day+1):=d
  have s:=first_succ (dY day) (dM day) e f
  unfold dD;omega,by unfold dD;omega⟩
theorem date_eq {y m d day:Int} (h:IsDate y m d day) (h0:0≤day) (h2:day≤210000):dY day=y∧dM day=m∧dD day=d:=(date_spec day h0 h2).unique h
theorem date_of (y m day:Int) (h0:0≤day) (h2:day≤200000) (m1:1≤m) (m2:m≤12) (ha:0≤day-beg y-cum y m) (hb:day-beg y-cum y m<mlen y m) :
  y=dY day∧m=dM day∧day-beg y-cum y m+1=dD day:=by
 obtain⟨a,b,c⟩:=date_eq (y:=y) (m:=m) (d:=day-beg y-cum y m+1) (day:=day) ⟨m1,m2,by omega,by omega,by unfold first;omega⟩ h0 (by omega)
 exact⟨a.symm,b.symm,c.symm⟩
theorem first_bd (y m:Int) (h:1800≤y) (h2:y≤3000):0≤first y m∧first y m≤440000:=by
 have a:=beg_mono h
 have b:=beg_mono h2
 have c:=cum_bd y m
 rw[beg_1800] at a
 have e3:beg 3000=438291:=by decide
 unfold first;omega
theorem dY_bd (day:Int) (h:0≤day) (h2:day≤200000):1800≤dY day∧dY day≤2347:=by
 have hd:=date_spec day h (by omega)
 have a:=hd.lo;have b:=hd.hi
 constructor
 ·apply Classical.byContradiction;intro hn
  have:=beg_mono (a:=dY day+1) (b:=1800) (by omega)
  rw[beg_1800] at this;omega
 apply Classical.byContradiction;intro hn
 have:=beg_mono (a:=2348) (b:=dY day) (by omega)
 have:beg 2348=200152:=by decide
 omega
end Go.Proofs.YtcnfhnndppollaaGreatDoor.Cal
namespace Go.Proofs.YtcnfhnndppollaaGreatDoor
open Go Go.RowKit
theorem within_any (n lo hi:Int) (w:World) :
  Calls Tryz.prog 20 #[.int .i64 n,.int .i64 lo,.int .i64 hi] w fun e w'=>e=.returned (.bool (decide (lo≤n) && decide (n≤hi)))∧w=w':=by
 by_cases h1:lo≤n
 ·by_cases h2:n≤hi
  all_goals
   go_enter Tryz.func20,Tryz.ntmps20
   go_wp2
   go_ret
   exact⟨by simp;omega,rfl⟩
 go_enter Tryz.func20,Tryz.ntmps20
 go_wp2
 go_ret
 exact⟨by simp;omega,rfl⟩
theorem Within_any (n lo hi:Int) (w:World) :
  Calls Tryz.prog 6 #[.int .i64 n,.int .i64 lo,.int .i64 hi] w fun e w'=>e=.returned (.bool (decide (lo≤n) && decide (n≤hi)))∧w=w':=by
 by_cases h1:lo≤n
 ·by_cases h2:n≤hi
  all_goals
   go_enter Tryz.func6,Tryz.ntmps6
   go_wp2
   go_ret
   exact⟨by simp;omega,rfl⟩
 go_enter Tryz.func6,Tryz.ntmps6
 go_wp2
 go_ret
 exact⟨by simp;omega,rfl⟩
theorem isDay_any (n:Int) (w:World) :
  Calls Tryz.prog 19 #[.int .i64 n] w fun e w'=>e=.returned (.bool (decide (0≤n) && decide (n≤200000)))∧w=w':=by
 go_enter Tryz.func19,Tryz.ntmps19
 go_wp2_with (go_at_call 20;refine (within_any _ _ _ _).mono ?_;rintro e w' ⟨rfl,rfl⟩)
 go_ret
 exact⟨rfl,rfl⟩
theorem isLeap_any (y:Int) (h0:0≤y) (w:World) :
  Calls Tryz.prog 67 #[.int .i64 y] w fun e w'=>e=.returned (.bool (Cal.leapB y))∧w=w':=by
 by_cases h1:y % 4=0
 ·by_cases h2:y % 100=0
  ·by_cases h3:y % 400=0
   all_goals
    go_enter Tryz.func67,Tryz.ntmps67
    go_wp2
    go_ret
    exact⟨by simp[Cal.leapB,h1,h2,h3],rfl⟩
  go_enter Tryz.func67,Tryz.ntmps67
  go_wp2
  go_ret
  exact⟨by simp[Cal.leapB,h1,h2],rfl⟩
 go_enter Tryz.func67,Tryz.ntmps67
 go_wp2
 go_ret
 exact⟨by simp[Cal.leapB,h1],rfl⟩
theorem begin_any (y:Int) (w:World) (h0:1≤y) (h1:y≤100000) :
  Calls Tryz.prog 48 #[.int .i64 y] w fun e w'=>e=.returned (.int .i64 (Cal.beg y))∧w=w':=by
 go_enter Tryz.func48,Tryz.ntmps48
 go_wp2
 go_ret
 exact⟨rfl,rfl⟩
theorem length_any (y m:Int) (h0:0≤y) (m1:1≤m) (m2:m≤12) (w:World) (hT:Tab w) :
  Calls Tryz.prog 43 #[.int .i64 y,.int .i64 m] w fun e w'=>e=.returned (.int .i64 (Cal.mlen y m))∧w=w':=by
 have h:m=1∨m=2∨m=3∨m=4∨m=5∨m=6∨m=7∨m=8∨m=9∨m=10∨m=11∨m=12:=by omega
 have hc:=hT.cell
 have c0:=hc 0 (by decide);have c1:=hc 1 (by decide);have c2:=hc 2 (by decide);have c3:=hc 3 (by decide)
 have c4:=hc 4 (by decide);have c5:=hc 5 (by decide);have c6:=hc 6 (by decide);have c7:=hc 7 (by decide)
 have c8:=hc 8 (by decide);have c9:=hc 9 (by decide);have c10:=hc 10 (by decide);have c11:=hc 11 (by decide)
 simp only[lenTab,List.getD_cons_zero,List.getD_cons_succ] at c0 c1 c2 c3 c4 c5 c6 c7 c8 c9 c10 c11
 clear hc hT m1 m2
 rcases h with rfl | rfl | rfl | rfl | rfl | rfl | rfl | rfl | rfl | rfl | rfl | rfl
 case inr.inl =>
  cases hl:Cal.leapB y
  all_goals
   go_enter Tryz.func43,Tryz.ntmps43
   go_wp2_with (go_at_call 67;refine (isLeap_any _ (by omega) _).mono ?_;rintro e w' ⟨rfl,rfl⟩)
   go_ret
   exact⟨by simp[Cal.mlen,Cal.lp,hl],rfl⟩
 all_goals
  go_enter Tryz.func43,Tryz.ntmps43
  go_wp2_with fail
  go_ret
  exact⟨by simp[Cal.mlen],rfl⟩
end Go.Proofs.YtcnfhnndppollaaGreatDoor
namespace Go.Proofs.YtcnfhnndppollaaGreatDoor
open Go Go.RowKit
theorem dayOf_any (y m d:Int) (y0:1800≤y) (y1:y≤3000) (m1:1≤m) (m2:m≤12) (d0:-100000≤d) (d1:d≤100000) (w:World) (hT:Tab w) :
  Calls Tryz.prog 42 #[.int .i64 y,.int .i64 m,.int .i64 d] w fun e w'=>e=.returned (.int .i64 (Cal.first y m+d-1))∧w=w':=by
 have hb:=Cal.beg_mono y0
 have hb2:=Cal.beg_mono y1
 rw[Cal.beg_1800] at hb
 have e3:Cal.beg 3000=438291:=by decide
 rw[e3] at hb2
 clear e3
 have hT':=Lib.hid hT;clear hT
 go_enter Tryz.func42,Tryz.ntmps42
 go_wp2_with (go_at_call 48;refine (begin_any _ _ (by omega) (by omega)).mono ?_;rintro e w' ⟨rfl,rfl⟩)
 go_loop [7,8] (fun n i=>∃ k:Int,1≤k∧k≤m∧i=.int .i64 k∧n=.int .i64 (Cal.beg y+d-1+Cal.cum y k)) (fun _ i=>(m-intOf i).toNat)
 case atStart=>exact⟨1,by omega,by omega,rfl,by simp[Cal.cum_1]⟩
 case round =>
  obtain⟨k,k1,k2,rfl,rfl⟩:=hrel
  have cb:=Cal.cum_bd y k
  by_cases hlt:k<m
  ·have cs:=Lib.hid (Cal.cum_succ y k (by omega) (by omega))
   have mb:=Cal.mlen_bd y k
   go_wp2_with (go_at_call 43;refine (length_any _ _ (by omega) (by omega) (by omega) _ hT'.out).mono ?_;rintro e w' ⟨rfl,rfl⟩)
   go_round
   case rel=>exact⟨k+1,by omega,by omega,rfl,by rw[cs.out];go_num⟩
   case measure=>simp[intOf];omega
  obtain rfl:k=m:=by omega
  go_wp2
  go_ret
  exact⟨ret_int (by unfold Cal.first;omega),rfl⟩
theorem dateOf_any (day:Int) (y0:0≤day) (y1:day≤200000) (w:World) (hT:Tab w) :
  Calls Tryz.prog 25 #[.int .i64 day] w fun e w'=>e=.returned (.agg #[.int .i64 (Cal.dY day),.int .i64 (Cal.dM day),.int .i64 (Cal.dD day)])∧Below w.heap.size w w':=by
 have hT':=Lib.hid hT;clear hT
 have g0:=Cal.beg_guess day y0
 have g1:=Cal.year_lo day y0
 go_enter Tryz.func25,Tryz.ntmps25
 go_wp2
 go_loopg [] 600 (fun k wr=>∃ y:Int,1800≤y∧y+k≤3000∧2348≤y+k∧Cal.beg y≤day∧wr=(w.alloc (.cells #[.int .i64 0,.int .i64 0,.int .i64 0] 45)).alloc (.cells #[.int .i64 y,.int .i64 1,.int .i64 0] 45))
 case atStart=>exact⟨_,g1,by omega,by omega,g0,rfl⟩
 case round =>
  obtain⟨y,hy,hk,hk2,hb,rfl⟩:=hrel
  clear g0 g1
  have hyh:=Cal.year_hi y day hb y1
  have hb0:=Cal.beg_mono hy
  rw[Cal.beg_1800] at hb0
  have hbs:=Cal.beg_lt (a:=y) (b:=y+1) (by omega)
  by_cases hlt:Cal.beg (y+1)≤day
  ·have hyh2:=Cal.year_hi (y+1) day hlt y1
   go_wp2_with (go_at_call 48;refine (begin_any _ _ (by omega) (by omega)).mono ?_;rintro e w' ⟨rfl,rfl⟩)
   go_roundg (gk-1)
   case measure=>omega
   case rel=>exact⟨y+1,by omega,by omega,by omega,hlt,rfl⟩
  have hT2:=Lib.hid (fun o1 o2=>hT'.out.below (((Below.refl _ w).alloc (Nat.le_refl _) o1).alloc (by simp) o2))
  go_wp2_with (go_at_call 48;refine (begin_any _ _ (by omega) (by omega)).mono ?_;rintro e w' ⟨rfl,rfl⟩)
  go_loopg [0] 12 (fun k v wr=>∃ m:Int,1≤m∧m≤12∧m+k=13∧0≤day-Cal.beg y-Cal.cum y m∧v=.int .i64 (day-Cal.beg y-Cal.cum y m)∧wr=(w.alloc (.cells #[.int .i64 0,.int .i64 0,.int .i64 0] 45)).alloc (.cells #[.int .i64 y,.int .i64 m,.int .i64 0] 45))
  case atStart=>exact⟨1,by omega,by omega,by omega,by rw[Cal.cum_1];omega,by rw[Cal.cum_1];simp,rfl⟩
  case round =>
   obtain⟨m,m1,m2,mk,hr,rfl,rfl⟩:=hrel
   have hcb:=Cal.cum_bd y m
   have hmb:=Cal.mlen_bd y m
   have mk2:=Lib.hid mk
   clear mk
   by_cases hge:Cal.mlen y m≤day-Cal.beg y-Cal.cum y m
   ·have hm11:=Cal.month_hi y m day (by omega) m2 hge m1
    have hcs:=Lib.hid (Cal.cum_succ y m m1 m2)
    go_wp2_with (go_at_call 43;refine (length_any _ _ (by omega) m1 m2 _ (hT2.out _ _)).mono ?_;rintro e w' ⟨rfl,rfl⟩)
    go_roundg (gk-1)
    case measure=>have:=mk2.out;omega
    case rel=>exact⟨m+1,by omega,by omega,by have:=mk2.out;omega,by rw[hcs.out];omega,by rw[hcs.out];go_num,rfl⟩
   obtain⟨ey,em,ed⟩:=Cal.date_of y m day y0 y1 m1 m2 hr (by omega)
   have hfin:=Lib.hid (And.intro ey (And.intro em ed))
   clear ey em ed
   go_wp2_with (go_at_call 43;refine (length_any _ _ (by omega) m1 m2 _ (hT2.out _ _)).mono ?_;rintro e w' ⟨rfl,rfl⟩)
   refine bodyPost_ret (v:=.agg #[.int .i64 y,.int .i64 m,.int .i64 (day-Cal.beg y-Cal.cum y m+1)]) (by simp[results,Tryz.results25,go_sem]) rfl ⟨?_,?_⟩
   ·obtain⟨ey,em,ed⟩:=hfin.out
    rw[ey,em] at ed ⊢;rw[ed]
   exact ((Below.refl _ _).alloc (Nat.le_refl _) _).alloc (by simp) _
end Go.Proofs.YtcnfhnndppollaaGreatDoor
namespace Go.Proofs.YtcnfhnndppollaaGreatDoor
open Go Go.RowKit
def Cal.laterT (day months:Int):Int:=12*Cal.dY day+Cal.dM day-1+months
def Cal.laterS (day months:Int):Int × Bool :=
 if 1800≤Cal.laterT day months / 12∧Cal.laterT day months / 12≤2347 then
  (Cal.first (Cal.laterT day months / 12) (Cal.laterT day months % 12+1)+min (Cal.dD day) (Cal.mlen (Cal.laterT day months / 12) (Cal.laterT day months % 12+1))-1,
   decide (Cal.first (Cal.laterT day months / 12) (Cal.laterT day months % 12+1)+min (Cal.dD day) (Cal.mlen (Cal.laterT day months / 12) (Cal.laterT day months % 12+1))-1≤200000))
 else (0,false)
theorem ret_ib {a b:Int} {c d:Bool} (h:a=b) (h2:c=d):Ending.returned (.tuple #[.int .i64 a,.bool c])=.returned (.tuple #[.int .i64 b,.bool d]):=by rw[h,h2]
theorem Cal.laterS_no {day months:Int} (h:¬(1800≤Cal.laterT day months / 12∧Cal.laterT day months / 12≤2347)):Cal.laterS day months=(0,false):=by
 unfold Cal.laterS;rw[if_neg h]
theorem Cal.laterS_yes {day months:Int} (h:1800≤Cal.laterT day months / 12) (h2:Cal.laterT day months / 12≤2347) :
  Cal.laterS day months=(Cal.first (Cal.laterT day months / 12) (Cal.laterT day months % 12+1)+min (Cal.dD day) (Cal.mlen (Cal.laterT day months / 12) (Cal.laterT day months % 12+1))-1,
   decide (Cal.first (Cal.laterT day months / 12) (Cal.laterT day months % 12+1)+min (Cal.dD day) (Cal.mlen (Cal.laterT day months / 12) (Cal.laterT day months % 12+1))-1≤200000)):=by
 unfold Cal.laterS;rw[if_pos ⟨h,h2⟩]
theorem later_any (day months:Int) (y0:0≤day) (y1:day≤200000) (m0:-12000≤months) (m1:months≤12000) (w:World) (hT:Tab w) :
  Calls Tryz.prog 21 #[.int .i64 day,.int .i64 months] w fun e w'=>e=.returned (.tuple #[.int .i64 (Cal.laterS day months).1,.bool (Cal.laterS day months).2])∧Below w.heap.size w w':=by
 have hd:=Cal.date_spec day y0 (by omega)
 obtain⟨dy0,dy1⟩:=Cal.dY_bd day y0 y1
 obtain⟨dm1,dm2,dd1,dd2,dd3⟩:=hd
 have dd4:=Cal.mlen_bd (Cal.dY day) (Cal.dM day)
 clear dd3
 have hT':=Lib.hid hT;clear hT
 have hno:=Lib.hid (@Cal.laterS_no day months)
 have hyes:=Lib.hid (@Cal.laterS_yes day months)
 unfold Cal.laterT at hno hyes
 have ht:0≤12*Cal.dY day+Cal.dM day-1+months:=by omega
 by_cases hy1:1800≤(12*Cal.dY day+Cal.dM day-1+months) / 12
 ·by_cases hy2:(12*Cal.dY day+Cal.dM day-1+months) / 12≤2347
  ·have hfin:=Lib.hid (hyes.out hy1 hy2)
   have hdec:=Lib.hid (show decide ((12*Cal.dY day+Cal.dM day-1+months)<0)=false by simp;omega)
   have mb:=Cal.mlen_bd ((12*Cal.dY day+Cal.dM day-1+months) / 12) ((12*Cal.dY day+Cal.dM day-1+months) % 12+1)
   have fb:=Cal.first_bd ((12*Cal.dY day+Cal.dM day-1+months) / 12) ((12*Cal.dY day+Cal.dM day-1+months) % 12+1) hy1 (by omega)
   by_cases hmin:Cal.mlen ((12*Cal.dY day+Cal.dM day-1+months) / 12) ((12*Cal.dY day+Cal.dM day-1+months) % 12+1)<Cal.dD day
   ·by_cases hn:Cal.first ((12*Cal.dY day+Cal.dM day-1+months) / 12) ((12*Cal.dY day+Cal.dM day-1+months) % 12+1)+Cal.mlen ((12*Cal.dY day+Cal.dM day-1+months) / 12) ((12*Cal.dY day+Cal.dM day-1+months) % 12+1)-1≤200000
    ·go_enter Tryz.func21,Tryz.ntmps21
     go_wp2_with (first | (go_at_call 25;refine (dateOf_any day y0 y1 _ hT'.out).mono ?_;rintro e w1 ⟨rfl,hb1⟩) | (((first | (go_at_call 20) | (go_at_call 6) | (go_at_call 19) | (fail) | (fail) | (fail) | (fail));first | refine rin ?_ | refine rout ?_ | refine rany ?_)))
     have hTm:=Lib.hid (fun o n=>((hT'.out.below hb1).alloc o).drewN n)
     go_quiet (first | (go_at_call 43;exact quiet_left (length_any _ _ (by omega) (by omega) (by omega) _ (hTm.out _ _))) | (go_at_call 42;exact quiet_left (dayOf_any _ _ _ (by omega) (by omega) (by omega) (by omega) (by omega) (by omega) _ (hTm.out _ _))))
     go_wp2_with (((first | (go_at_call 20) | (go_at_call 6) | (go_at_call 19) | (fail) | (fail) | (fail) | (fail));first | refine rin ?_ | refine rout ?_ | refine rany ?_))
     go_ret2
     exact⟨by rw[hfin.out];exact ret_ib (by omega) (by simp;omega),below_drewN (hb1.alloc hb1.size _) _⟩
    go_enter Tryz.func21,Tryz.ntmps21
    go_wp2_with (first | (go_at_call 25;refine (dateOf_any day y0 y1 _ hT'.out).mono ?_;rintro e w1 ⟨rfl,hb1⟩) | (((first | (go_at_call 20) | (go_at_call 6) | (go_at_call 19) | (fail) | (fail) | (fail) | (fail));first | refine rin ?_ | refine rout ?_ | refine rany ?_)))
    have hTm:=Lib.hid (fun o n=>((hT'.out.below hb1).alloc o).drewN n)
    go_quiet (first | (go_at_call 43;exact quiet_left (length_any _ _ (by omega) (by omega) (by omega) _ (hTm.out _ _))) | (go_at_call 42;exact quiet_left (dayOf_any _ _ _ (by omega) (by omega) (by omega) (by omega) (by omega) (by omega) _ (hTm.out _ _))))
    go_wp2_with (((first | (go_at_call 20) | (go_at_call 6) | (go_at_call 19) | (fail) | (fail) | (fail) | (fail));first | refine rin ?_ | refine rout ?_ | refine rany ?_))
    go_ret2
    exact⟨by rw[hfin.out];exact ret_ib (by omega) (by simp;omega),below_drewN (hb1.alloc hb1.size _) _⟩
   by_cases hn:Cal.first ((12*Cal.dY day+Cal.dM day-1+months) / 12) ((12*Cal.dY day+Cal.dM day-1+months) % 12+1)+Cal.dD day-1≤200000
   ·go_enter Tryz.func21,Tryz.ntmps21
    go_wp2_with (first | (go_at_call 25;refine (dateOf_any day y0 y1 _ hT'.out).mono ?_;rintro e w1 ⟨rfl,hb1⟩) | (((first | (go_at_call 20) | (go_at_call 6) | (go_at_call 19) | (fail) | (fail) | (fail) | (fail));first | refine rin ?_ | refine rout ?_ | refine rany ?_)))
    have hTm:=Lib.hid (fun o n=>((hT'.out.below hb1).alloc o).drewN n)
    go_quiet (first | (go_at_call 43;exact quiet_left (length_any _ _ (by omega) (by omega) (by omega) _ (hTm.out _ _))) | (go_at_call 42;exact quiet_left (dayOf_any _ _ _ (by omega) (by omega) (by omega) (by omega) (by omega) (by omega) _ (hTm.out _ _))))
    go_wp2_with (((first | (go_at_call 20) | (go_at_call 6) | (go_at_call 19) | (fail) | (fail) | (fail) | (fail));first | refine rin ?_ | refine rout ?_ | refine rany ?_))
    go_ret2
    exact⟨by rw[hfin.out];exact ret_ib (by omega) (by simp;omega),below_drewN (hb1.alloc hb1.size _) _⟩
   go_enter Tryz.func21,Tryz.ntmps21
   go_wp2_with (first | (go_at_call 25;refine (dateOf_any day y0 y1 _ hT'.out).mono ?_;rintro e w1 ⟨rfl,hb1⟩) | (((first | (go_at_call 20) | (go_at_call 6) | (go_at_call 19) | (fail) | (fail) | (fail) | (fail));first | refine rin ?_ | refine rout ?_ | refine rany ?_)))
   have hTm:=Lib.hid (fun o n=>((hT'.out.below hb1).alloc o).drewN n)
   go_quiet (first | (go_at_call 43;exact quiet_left (length_any _ _ (by omega) (by omega) (by omega) _ (hTm.out _ _))) | (go_at_call 42;exact quiet_left (dayOf_any _ _ _ (by omega) (by omega) (by omega) (by omega) (by omega) (by omega) _ (hTm.out _ _))))
   go_wp2_with (((first | (go_at_call 20) | (go_at_call 6) | (go_at_call 19) | (fail) | (fail) | (fail) | (fail));first | refine rin ?_ | refine rout ?_ | refine rany ?_))
   go_ret2
   exact⟨by rw[hfin.out];exact ret_ib (by omega) (by simp;omega),below_drewN (hb1.alloc hb1.size _) _⟩
  have hfin:=Lib.hid (hno.out (by omega))
  go_enter Tryz.func21,Tryz.ntmps21
  go_wp2_with (first | (go_at_call 25;refine (dateOf_any day y0 y1 _ hT'.out).mono ?_;rintro e w1 ⟨rfl,hb1⟩) | (((first | (go_at_call 20) | (go_at_call 6) | (go_at_call 19) | (fail) | (fail) | (fail) | (fail));first | refine rin ?_ | refine rout ?_ | refine rany ?_)))
  go_ret2
  exact⟨by rw[hfin.out];rfl,hb1.alloc hb1.size _⟩
 have hfin:=Lib.hid (hno.out (by omega))
 go_enter Tryz.func21,Tryz.ntmps21
 go_wp2_with (first | (go_at_call 25;refine (dateOf_any day y0 y1 _ hT'.out).mono ?_;rintro e w1 ⟨rfl,hb1⟩) | (((first | (go_at_call 20) | (go_at_call 6) | (go_at_call 19) | (fail) | (fail) | (fail) | (fail));first | refine rin ?_ | refine rout ?_ | refine rany ?_)))
 go_ret2
 exact⟨by rw[hfin.out];rfl,hb1.alloc hb1.size _⟩
end Go.Proofs.YtcnfhnndppollaaGreatDoor
namespace Go.Proofs.YtcnfhnndppollaaGreatDoor
open Go Go.RowKit
def Cal.addS (day months:Int):Int × Int :=
 if 0≤day∧day≤200000∧-12000≤months∧months≤12000∧(Cal.laterS day months).2=true then ((Cal.laterS day months).1,0) else (0,2)
theorem AddMonths_any (day months:Int) (w:World) (hT:Tab w) :
  Calls Tryz.prog 8 #[.int .i64 day,.int .i64 months] w fun e w'=>e=.returned (.tuple #[.int .i64 (Cal.addS day months).1,.int .i64 (Cal.addS day months).2])∧Below w.heap.size w w':=by
 have hT':=Lib.hid hT;clear hT
 by_cases hy:0≤day∧day≤200000∧-12000≤months∧months≤12000
 ·obtain⟨y0,y1,m0,m1⟩:=hy
  cases hb:(Cal.laterS day months).2
  ·have hfin:Hid (Cal.addS day months=(0,2)):=by show _=_;unfold Cal.addS;rw[if_neg (by simp[hb])]
   go_enter Tryz.func8,Tryz.ntmps8
   go_wp2_with (first | (go_at_call 21;refine (later_any _ _ y0 y1 m0 m1 _ hT'.out).mono ?_;rintro e w1 ⟨rfl,hb1⟩) | (((first | (go_at_call 20) | (go_at_call 6) | (go_at_call 19) | (fail) | (fail) | (fail) | (fail));first | refine rin ?_ | refine rout ?_ | refine rany ?_)))
   go_ret2
   exact⟨by rw[hfin.out];rfl,hb1⟩
  have hfin:Hid (Cal.addS day months=((Cal.laterS day months).1,0)):=by show _=_;unfold Cal.addS;rw[if_pos ⟨y0,y1,m0,m1,hb⟩]
  go_enter Tryz.func8,Tryz.ntmps8
  go_wp2_with (first | (go_at_call 21;refine (later_any _ _ y0 y1 m0 m1 _ hT'.out).mono ?_;rintro e w1 ⟨rfl,hb1⟩) | (((first | (go_at_call 20) | (go_at_call 6) | (go_at_call 19) | (fail) | (fail) | (fail) | (fail));first | refine rin ?_ | refine rout ?_ | refine rany ?_)))
  go_ret2
  exact⟨by rw[hfin.out];rfl,hb1⟩
 have hfin:Hid (Cal.addS day months=(0,2)):=by show _=_;unfold Cal.addS;rw[if_neg (fun h=>hy ⟨h.1,h.2.1,h.2.2.1,h.2.2.2.1⟩)]
 by_cases y0:0≤day∧day≤200000
 ·obtain⟨y0,y1⟩:=y0
  have hm:months < -12000∨12000<months:=by omega
  clear hy
  go_enter Tryz.func8,Tryz.ntmps8
  go_wp2_with (((first | (go_at_call 20) | (go_at_call 6) | (go_at_call 19) | (fail) | (fail) | (fail) | (fail));first | refine rin ?_ | refine rout ?_ | refine rany ?_))
  go_ret2
  exact⟨by rw[hfin.out];rfl,Below.refl _ _⟩
 clear hy
 have y0:day<0∨200000<day:=by omega
 go_enter Tryz.func8,Tryz.ntmps8
 go_wp2_with (((first | (go_at_call 20) | (go_at_call 6) | (go_at_call 19) | (fail) | (fail) | (fail) | (fail));first | refine rin ?_ | refine rout ?_ | refine rany ?_))
 all_goals
  go_ret2
  exact⟨by rw[hfin.out];rfl,Below.refl _ _⟩
end Go.Proofs.YtcnfhnndppollaaGreatDoor
namespace Go.Proofs.YtcnfhnndppollaaGreatDoor
open Go Go.RowKit Go.Maps Go.WideMaps Go.ChangeMaps
def setAt {κ:Type} [DecidableEq κ] (f:κ→Option Value) (x0:κ) (v:Value):κ→Option Value:=fun x=>if x=x0 then some v else f x
theorem setAt_same {κ:Type} [DecidableEq κ] (f:κ→Option Value) (x:κ) (v:Value):setAt f x v x=some v:=by simp[setAt]
theorem setAt_other {κ:Type} [DecidableEq κ] (f:κ→Option Value) {x0 x:κ} (v:Value) (h:x≠x0):setAt f x0 v x=f x:=by simp[setAt,h]
def heldR (v:Value):Option (DataW Value × List MemPlace):=some (.held v,[])
def MapIs {κ:Type} (P:Program) (k:TypeId) (lit:κ→Lit) (w:World) (b n:Nat) (f:κ→Option Value):Prop :=
 ∃ D:DataW Value,w.ownsMap P k heldR b n D∧∀ x,WideAt.IsKeyLit (lit x)→Maps.has D (lit x)=(f x).isSome∧∀ z,D.atKey (lit x) (.held z)=.held ((f x).getD z)
variable {P : Program} {k : TypeId} {w : World} {b n : Nat} {κ : Type} {lit : κ → Lit} {f : κ → Option Value}
theorem MapIs.made (P:Program) (k:TypeId) (lit:κ→Lit) (w:World):MapIs P k lit (w.alloc (.map #[] 0)) w.heap.size 0 (fun _=>none) :=
 ⟨.map [],World.ownsMap_made w P k heldR,fun _ _=>⟨rfl,fun _=>rfl⟩⟩
theorem MapIs.lt (h:MapIs P k lit w b n f):b<w.heap.size:=by obtain⟨D,h,_⟩:=h;exact h.lt
theorem MapIs.kept {w':World} {row:Option Nat} (h:MapIs P k lit w b n f) (hg:w.grownBy w' row) (hne:some b≠row):MapIs P k lit w' b n f:=by
 obtain⟨D,h,hf⟩:=h;exact⟨D,h.kept hg hne,hf⟩
theorem MapIs.same {w':World} (h:MapIs P k lit w b n f) (hb:w'.heap[b]?=w.heap[b]?):MapIs P k lit w' b n f:=by
 obtain⟨D,⟨es,clock,h1,h2⟩,hf⟩:=h
 exact⟨D,⟨es,clock,hb.trans h1,h2⟩,hf⟩
theorem MapIs.alloc (h:MapIs P k lit w b n f) (o:Obj):MapIs P k lit (w.alloc o) b n f:=h.kept (World.grownBy_alloc w o none) (by simp)
theorem MapIs.below {w':World} {B:Nat} (h:MapIs P k lit w b n f) (hb:Below B w w') (hlt:b<B):MapIs P k lit w' b n f:=h.same (hb.block b hlt)
theorem MapIs.look {t e:TypeId} (h:MapIs P k lit w b n f) (K:Keyed P k) (ht:P.underlying t=some (.map k e)) {z:Value} (hz:(zeroValue e).run P w=.ok z w) {key:Value} {kl:κ} (hkey:keyOf P k key=some (lit kl)) :
  (Instr.lookup t (.map (some b)) key false).run P w=.ok ((f kl).getD z) w:=by
 obtain⟨D,h,hf⟩:=h
 obtain⟨v,ps,hrun,hv⟩:=h.lookup K ht hz (zd:=.held z) (zp:=[]) rfl hkey
 obtain⟨_,h2⟩:=hf kl (K.key hkey)
 rw[h2 z] at hv
 simp only[heldR,Option.some.injEq,Prod.mk.injEq,DataW.held.injEq] at hv
 rw[hrun,hv.1]
theorem MapIs.look_ok {t e:TypeId} (h:MapIs P k lit w b n f) (K:Keyed P k) (ht:P.underlying t=some (.map k e)) {z:Value} (hz:(zeroValue e).run P w=.ok z w) {key:Value} {kl:κ} (hkey:keyOf P k key=some (lit kl)) :
  (Instr.lookup t (.map (some b)) key true).run P w=.ok (.tuple #[(f kl).getD z,.bool (f kl).isSome]) w:=by
 obtain⟨D,h,hf⟩:=h
 obtain⟨v,ps,hrun,hv⟩:=h.look_ok K ht hz (zd:=.held z) (zp:=[]) rfl hkey
 obtain⟨h1,h2⟩:=hf kl (K.key hkey)
 rw[h2 z] at hv
 simp only[heldR,Option.some.injEq,Prod.mk.injEq,DataW.held.injEq] at hv
 rw[hrun,hv.1,h1]
theorem MapIs.store [DecidableEq κ] (hinj:∀ x y,lit x=lit y→x=y) {t e:TypeId} (h:MapIs P k lit w b n f) (K:Keyed P k) (ht:P.underlying t=some (.map k e)) (hn:n<maxLen) {key val:Value} {kl:κ} (hkey:keyOf P k key=some (lit kl)) :
  ∃ w',(Instr.mapUpdate t (.map (some b)) key val).run P w=.ok () w'∧MapIs P k lit w' b (n+1) (setAt f kl val)∧w.grownBy w' (some b)∧w'.heap.size=w.heap.size:=by
 obtain⟨D,h,hf⟩:=h
 have hm:=h.isMap
 obtain⟨w',hrun,h1,h2⟩:=h.store K ht hn hkey (val:=val) (d:=.held val) (ps:=[]) rfl
 refine⟨w',hrun,⟨D.put (lit kl) (.held val),h1,fun x hx=>?_⟩,h2.grown,?_⟩
 ·by_cases he:x=kl
  ·subst he
   rw[setAt_same]
   exact⟨by rw[has_put_same hm hx];rfl,fun z=>by rw[atKey_put_same hm hx];rfl⟩
  rw[setAt_other _ _ he]
  obtain⟨a1,a2⟩:=hf x hx
  exact⟨by rw[has_put_other (fun e=>he (hinj _ _ e))];exact a1,fun z=>by rw[atKey_put_other (fun e=>he (hinj _ _ e))];exact a2 z⟩
 obtain⟨es,c,es',c',_,rfl⟩:=h2
 simp[setBlock]
end Go.Proofs.YtcnfhnndppollaaGreatDoor
namespace Go.Proofs.YtcnfhnndppollaaGreatDoor
open Go Go.RowKit Go.Maps Go.WideMaps
def strLit (x:List UInt8):Lit:=.string x
theorem strLit_inj (x y:List UInt8) (h:strLit x=strLit y):x=y:=by unfold strLit at h;cases h;rfl
end Go.Proofs.YtcnfhnndppollaaGreatDoor
namespace Go.Proofs
open Go.Shelf
def Tryz.lays106_ren:Go.Shelf.Ren:=⟨fun | 106=>82 | 213=>92 | 265=>105 | n=>n,fun | 9=>9 | 3=>3 | n=>n,fun | n=>n⟩
theorem Tryz.lays106:Go.Proofs.Lays.n106 Tryz.prog Tryz.lays106_ren:={
 mixed:=by kernel_rfl
 f106:=Tryz.func82.trans (congrArg some (by kernel_rfl))
 f213:=Tryz.func92.trans (congrArg some (by kernel_rfl))
 f265:=Tryz.func105.trans (congrArg some (by kernel_rfl))
 t3:=Tryz.underlying3
 a3:=Tryz.isAgg3
 z3:=Tryz.sizeOf3
 v3:=Tryz.zeroValue3
 t9:=Tryz.underlying9
 a9:=Tryz.isAgg9
 z9:=Tryz.sizeOf9
 v9:=Tryz.zeroValue9 }
open Go.RowKit in
theorem Tryz.strings_Compare (a b:ByteArray) (w:World) :
  Calls Tryz.prog 82 #[.string a,.string b] w fun e w'=>e=.returned (.int .i64 (Lib.compareBytes a.data.toList b.data.toList))∧w'=w:=Any.strings_Compare Tryz.lays106 a b w
end Go.Proofs
namespace Go.Proofs.YtcnfhnndppollaaGreatDoor.Cal
def idx (day:Int):Int:=12*dY day+dM day-1
def mfirst (t:Int):Int:=first (t / 12) (t % 12+1)
def mval (d t:Int):Int:=mfirst t+min d (mlen (t / 12) (t % 12+1))-1
theorem mfirst_succ (t:Int):mfirst (t+1)=mfirst t+mlen (t / 12) (t % 12+1):=by
 unfold mfirst
 by_cases h:t % 12=11
 ·have e1:(t+1) / 12=t / 12+1:=by omega
  have e2:(t+1) % 12+1=1:=by omega
  have e3:t % 12+1=12:=by omega
  rw[e1,e2,e3,first_1,←first_13]
  exact first_succ (t / 12) 12 (by omega) (by omega)
 have e1:(t+1) / 12=t / 12:=by omega
 have e2:(t+1) % 12+1=t % 12+1+1:=by omega
 rw[e1,e2]
 exact first_succ (t / 12) (t % 12+1) (by omega) (by omega)
theorem mfirst_add (t:Int) (n:Nat):mfirst t≤mfirst (t+n):=by
 induction n with
 | zero=>simp
 | succ n ih =>
  have h:=mfirst_succ (t+n)
  have:=mlen_bd ((t+n) / 12) ((t+n) % 12+1)
  rw[show t+((n+1:Nat):Int)=t+n+1 by omega]
  omega
theorem mfirst_mono {t u:Int} (h:t≤u):mfirst t≤mfirst u:=by
 have:=mfirst_add t (u-t).toNat
 rwa [show t+((u-t).toNat:Int)=u by omega] at this
theorem mval_lo {d t:Int} (h:1≤d):mfirst t≤mval d t:=by
 have:=mlen_bd (t / 12) (t % 12+1)
 unfold mval;omega
theorem mval_hi (d t:Int):mval d t<mfirst (t+1):=by
 rw[mfirst_succ];unfold mval;omega
section
variable {day : Int} (h0 : 0 ≤ day) (h1 : day ≤ 200000)
include h0 h1
theorem idx_div:idx day / 12=dY day∧idx day % 12+1=dM day:=by
 obtain⟨m1,m2,_,_,_⟩:=date_spec day h0 (by omega)
 unfold idx;omega
theorem mfirst_idx:mfirst (idx day)≤day∧day<mfirst (idx day+1):=by
 obtain⟨m1,m2,d1,d2,hd⟩:=date_spec day h0 (by omega)
 obtain⟨e1,e2⟩:=idx_div h0 h1
 rw[mfirst_succ];unfold mfirst;rw[e1,e2];omega
theorem mval_idx:mval (dD day) (idx day)=day:=by
 obtain⟨m1,m2,d1,d2,hd⟩:=date_spec day h0 (by omega)
 obtain⟨e1,e2⟩:=idx_div h0 h1
 unfold mval mfirst;rw[e1,e2];omega
theorem dD_pos:1≤dD day:=(date_spec day h0 (by omega)).d1
theorem idx_bd:21600≤idx day∧idx day≤28175:=by
 obtain⟨m1,m2,_,_,_⟩:=date_spec day h0 (by omega)
 have:=dY_bd day h0 h1
 unfold idx;omega
end
theorem laterT_idx (day m:Int):laterT day m=idx day+m:=by unfold laterT idx;omega
theorem laterS_eq (day m:Int):laterS day m=if 1800≤(idx day+m) / 12∧(idx day+m) / 12≤2347 then (mval (dD day) (idx day+m),decide (mval (dD day) (idx day+m)≤200000)) else (0,false):=by
 unfold laterS;rw[laterT_idx];rfl
theorem laterS_in {day m:Int} (ha:21600≤idx day+m) (hb:idx day+m≤28175):laterS day m=(mval (dD day) (idx day+m),decide (mval (dD day) (idx day+m)≤200000)):=by
 rw[laterS_eq,if_pos (by omega)]
theorem laterS_nonneg {day:Int} (h0:0≤day) (h1:day≤200000) (m:Int):0≤(laterS day m).1:=by
 rw[laterS_eq]
 split
 ·rename_i hy
  have:=mval_lo (t:=idx day+m) (dD_pos h0 h1)
  have hf:=first_bd ((idx day+m) / 12) ((idx day+m) % 12+1) hy.1 (by omega)
  unfold mfirst at this
  simp only;omega
 exact Int.le_refl _
theorem idx_mono {a b:Int} (h0:0≤a) (h:a≤b) (h1:b≤200000):idx a≤idx b:=by
 apply Classical.byContradiction
 intro hn
 have:=(mfirst_idx h0 (by omega)).1
 have:=(mfirst_idx (day:=b) (by omega) h1).2
 have:=mfirst_mono (t:=idx b+1) (u:=idx a) (by omega)
 omega
def Good (a b m:Int):Prop:=(laterS a m).2=true∧(laterS a m).1≤b
instance (a b m:Int):Decidable (Good a b m):=inferInstanceAs (Decidable (_∧_))
def ageM (a b:Int):Int:=if Good a b (idx b-idx a) then idx b-idx a else idx b-idx a-1
section
variable {a b : Int} (h0 : 0 ≤ a) (h : a ≤ b) (h1 : b ≤ 200000)
include h0 h h1
theorem good_in {m:Int} (hm:0≤m) (hi:idx a+m≤idx b) (hv:mval (dD a) (idx a+m)≤b):Good a b m:=by
 have ha:=idx_bd h0 (show a≤200000 by omega)
 have hb:=idx_bd (show 0≤b by omega) h1
 unfold Good
 rw[laterS_in (by omega) (by omega)]
 exact⟨by simp;omega,hv⟩
theorem good_zero:laterS a 0=(a,true):=by
 have ha:=idx_bd h0 (show a≤200000 by omega)
 rw[laterS_in (by omega) (by omega),Int.add_zero,mval_idx h0 (by omega)]
 simp;omega
theorem good_less {m:Int} (hm:0≤m) (hi:idx a+m<idx b):Good a b m:=by
 refine good_in h0 h h1 hm (by omega) ?_
 have:=mval_hi (dD a) (idx a+m)
 have:=mfirst_mono (t:=idx a+m+1) (u:=idx b) (by omega)
 have:=(mfirst_idx (show 0≤b by omega) h1).1
 omega
theorem age_nonneg:0≤ageM a b:=by
 have hi:=idx_mono h0 h h1
 unfold ageM
 split
 ·omega
 rename_i hn
 by_cases he:idx b-idx a=0
 ·exfalso;apply hn;rw[he]
  unfold Good;rw[good_zero h0 h h1];exact⟨rfl,h⟩
 omega
theorem age_good:Good a b (ageM a b):=by
 have h2:=age_nonneg h0 h h1
 by_cases hg:Good a b (idx b-idx a)
 ·unfold ageM;rw[if_pos hg];exact hg
 have e:ageM a b=idx b-idx a-1:=by unfold ageM;rw[if_neg hg]
 rw[e] at h2 ⊢
 exact good_less h0 h h1 h2 (by omega)
theorem age_le:ageM a b≤6600:=by
 have ha:=idx_bd h0 (show a≤200000 by omega)
 have hb:=idx_bd (show 0≤b by omega) h1
 unfold ageM;split <;> omega
end
end Go.Proofs.YtcnfhnndppollaaGreatDoor.Cal
namespace Go.Proofs.YtcnfhnndppollaaGreatDoor
open Go Go.RowKit
def intRows (ns:List Int):List (List Value):=ns.map fun n=>[.int .i64 n]
end Go.Proofs.YtcnfhnndppollaaGreatDoor
namespace Go.Proofs.YtcnfhnndppollaaGreatDoor
open Go Go.RowKit
theorem flat_get {m:Nat}:∀ {rows:List (List Value)} {k j:Nat} {r:List Value} {v:Value},(∀ r∈rows,r.length=m)→rows[k]?=some r→r[j]?=some v→rows.flatten[k*m+j]?=some v
 | [],k,_,_,_,_,h,_=>by simp at h
 | q :: rows,0,j,r,v,hw,h,hv=>by
  simp only[List.getElem?_cons_zero,Option.some.injEq] at h
  subst h
  rw[List.flatten_cons,Nat.zero_mul,Nat.zero_add,List.getElem?_append_left (List.getElem?_eq_some_iff.1 hv).1,hv]
 | q :: rows,k+1,j,r,v,hw,h,hv=>by
  simp only[List.getElem?_cons_succ] at h
  have hq:=hw q (List.mem_cons_self ..)
  have ih:=flat_get (fun r hr=>hw r (List.mem_cons_of_mem _ hr)) h hv
  rw[List.flatten_cons,List.getElem?_append_right (by rw[hq,Nat.succ_mul];omega),hq,show (k+1)*m+j-m=k*m+j by rw[Nat.succ_mul];omega,ih]
theorem flat_len {m:Nat}:∀ {rows:List (List Value)},(∀ r∈rows,r.length=m)→rows.flatten.length=rows.length*m
 | [],_=>by simp
 | q :: rows,hw=>by
  rw[List.flatten_cons,List.length_append,hw q (List.mem_cons_self ..),flat_len (fun r hr=>hw r (List.mem_cons_of_mem _ hr)),List.length_cons,Nat.succ_mul];omega
theorem flat_of {m:Nat} (hm:0<m) {rows:List (List Value)} (hw:∀ r∈rows,r.length=m) {i:Nat} {v:Value} (h:rows.flatten[i]?=some v):∃ r,rows[i / m]?=some r∧r[i % m]?=some v:=by
 have hl:=(List.getElem?_eq_some_iff.1 h).1
 rw[flat_len hw] at hl
 have hk:i / m<rows.length:=Nat.div_lt_of_lt_mul (by rw[Nat.mul_comm];exact hl)
 have hr:=List.getElem?_eq_getElem hk
 have hlen:=hw _ (List.getElem_mem hk)
 have hj:i % m<rows[i / m].length:=by rw[hlen];exact Nat.mod_lt _ hm
 refine⟨_,hr,?_⟩
 have h2:=flat_get hw hr (List.getElem?_eq_getElem hj)
 rw[Nat.mul_comm,Nat.div_add_mod] at h2
 rw[List.getElem?_eq_getElem hj,←h2,h]
structure OwnL (w:World) (B:Nat) (E:TypeId) (m:Nat) (v:Value) (rows:List (List Value)):Prop where
 own:w.ownsRow B E m v rows.length rows.flatten
 wid:∀ r∈rows,r.length=m
 one:∀ r∈rows,∀ u∈r,u.oneCell'=true
theorem addr_add (g j:Nat) (o:Nat):(⟨g,o,none⟩:Addr).add j=⟨g,o+j,none⟩:=by unfold Addr.add;split <;> simp_all
theorem OwnL.form {w:World} {B:Nat} {E:TypeId} {m:Nat} {v:Value} {rows:List (List Value)} (h:OwnL w B E m v rows):∃ A c,v=.slice A rows.length c∧RowsAt w A m rows:=by
 obtain⟨hown,hw,_⟩:=h
 have hc:=fun g (hg:v.ownBlock=some g)=>hown.cells hg
 rcases hown.2 with ⟨rfl,h0⟩ | ⟨g,cap,cur,rfl,_,hg,_⟩
 ·exact⟨none,0,by rw[h0],fun k r hr=>by rw[List.eq_nil_of_length_eq_zero h0] at hr;simp at hr⟩
 refine⟨_,_,rfl,fun k r hr=>⟨g,0,rfl,(Array.getElem?_eq_some_iff.1 hg).1,fun j u hu=>?_⟩⟩
 have:=hc g rfl _ u (flat_get hw hr hu)
 rw[addr_add] at this
 exact this
theorem OwnL.nil (w:World) (B:Nat) (E:TypeId) (m:Nat):OwnL w B E m (.slice none 0 0) []:=⟨World.ownsRow_nil w B E m,fun r h=>(by simp at h),fun r h=>(by simp at h)⟩
theorem OwnL.made (w:World) (B:Nat) (E:TypeId) (m:Nat) (hb:B≤w.heap.size):OwnL (w.alloc (.cells #[] E)) B E m (.slice (some ⟨w.heap.size,0,none⟩) 0 0) [] :=
 ⟨World.ownsRow_made w #[] 0 hb (Nat.zero_le _) (by simp),fun r h=>(by simp at h),fun r h=>(by simp at h)⟩
theorem OwnL.less {w:World} {B B':Nat} {E:TypeId} {m:Nat} {v:Value} {rows:List (List Value)} (h:OwnL w B E m v rows) (hB:B'≤B):OwnL w B' E m v rows:=by
 refine⟨⟨h.own.1,?_⟩,h.wid,h.one⟩
 rcases h.own.2 with h | ⟨g,cap,cur,h1,h2,h3⟩
 ·exact .inl h
 exact .inr ⟨g,cap,cur,h1,by omega,h3⟩
theorem OwnL.kept {w w':World} {row:Option Nat} {B:Nat} {E:TypeId} {m:Nat} {v:Value} {rows:List (List Value)} (h:OwnL w B E m v rows) (hg:w.grownBy w' row) (hne:v.ownBlock=none∨v.ownBlock≠row):OwnL w' B E m v rows :=
 ⟨h.own.kept hg hne,h.wid,h.one⟩
theorem OwnL.below {w w':World} {B:Nat} {E:TypeId} {m:Nat} {v:Value} {rows:List (List Value)} (h:OwnL w B E m v rows) (hb:Below w.heap.size w w'):OwnL w' B E m v rows :=
 h.kept (row:=none) ⟨hb.os,hb.tape,hb.output,hb.size,fun i hi _=>hb.block i hi⟩ (by cases v.ownBlock <;> simp)
theorem OwnL.lt {w:World} {B:Nat} {E:TypeId} {m:Nat} {v:Value} {rows:List (List Value)} (h:OwnL w B E m v rows):∀ g,v.ownBlock=some g→B≤g∧g<w.heap.size:=h.own.lt
structure Elem (P:Program) (t e:TypeId) (m bytes:Nat):Prop where
 und:P.underlying t=some (.slice e)
 info:∃ i z,P.info? e=some i∧i.zero=some z∧i.size=m∧i.bytes=bytes∧z.cells.size=m
 pos:0<m
theorem Elem.mk' {P:Program} {t e:TypeId} {m bytes:Nat} {z:Value} (hu:P.underlying t=some (.slice e)) (h:(P.info? e).map (fun i=>(i.zero,i.size,i.bytes))=some (some z,m,bytes)) (hz:z.cells.size=m) (hm:0<m):Elem P t e m bytes:=by
 obtain⟨i,hi,h1,h2,h3⟩:=info_parts h
 exact⟨hu,⟨i,z,hi,h1,h2,h3,hz⟩,hm⟩
theorem run_append_none_any {P:Program} {w:World} (base:Nat) (t ty e:TypeId) (i:TypeInfo) (size c:Nat) (ht:P.underlying t=some (.slice e)) (hi:P.info? e=some i)
  (v:Value) (n:Nat) (xs:List Value) (hown:w.ownsRow base e size v n xs) :
  (Builtin.append_ #[t,t] ty #[v,.slice none 0 c]).run P w=.ok v w:=by
 rcases hown.2 with ⟨rfl,rfl⟩ | ⟨g,cap,cur,rfl,_,_,hnc,_⟩
 ·simp[Builtin.append_,run_underlying ht,sizeOf,typeInfo,hi,Builtin.lenOf,Builtin.firstCells]
 simp[Builtin.append_,run_underlying ht,sizeOf,typeInfo,hi,Builtin.lenOf,Builtin.firstCells,hnc,storeCells]
theorem run_append_rows {P:Program} {t e:TypeId} {m bytes:Nat} (el:Elem P t e m bytes) (ty:TypeId) {w:World} {B:Nat} {v:Value} {rows:List (List Value)} (h:OwnL w B e m v rows)
  {A:Option Addr} {n c:Nat} {rows2:List (List Value)} (h2:RowsAt w A m rows2) (hn:n=rows2.length) (hw:∀ r∈rows2,r.length=m) (h1:∀ r∈rows2,∀ u∈r,u.oneCell'=true)
  (h63:rows.length+rows2.length≤4000000000) (hby:bytes≤10000) (hbase:B≤w.heap.size) :
  ∃ v' w',(Builtin.append_ #[t,t] ty #[v,.slice A n c]).run P w=.ok v' w'∧OwnL w' B e m v' (rows ++ rows2)∧w.grownBy w' v.ownBlock∧(v'.ownBlock=v.ownBlock∨v'.ownBlock=some w.heap.size):=by
 subst hn
 obtain⟨i,z,hi,hz,hsize,hb,hzs⟩:=el.info
 have hwid:∀ r∈rows ++ rows2,r.length=m:=fun r hr=>by rcases List.mem_append.1 hr with h' | h';exact h.wid r h';exact hw r h'
 have hone:∀ r∈rows ++ rows2,∀ u∈r,u.oneCell'=true:=fun r hr=>by rcases List.mem_append.1 hr with h' | h';exact h.one r h';exact h1 r h'
 have hml:4000000000*10000≤140737488355328:=by decide
 have hbb:(rows.length+rows2.length)*bytes≤140737488355328:=Nat.le_trans (Nat.mul_le_mul h63 hby) hml
 cases A with
 | none =>
  have h0:rows2=[]:=by
   cases rows2 with
   | nil=>rfl
   | cons q r=>obtain⟨b,o,hA,_⟩:=h2 0 q rfl;cases hA
  subst h0
  refine⟨v,w,run_append_none_any (P:=P) (w:=w) B t ty e i m c el.und hi v _ _ h.own,?_,⟨rfl,rfl,rfl,Nat.le_refl _,fun _ _ _=>rfl⟩,.inl rfl⟩
  rw[List.append_nil];exact h
 | some ad =>
  have hlen2:rows2.flatten.length=rows2.length*m:=flat_len hw
  have hnews:∀ j u,rows2.flatten[j]?=some u→w.cell? (ad.add j)=some u:=fun j u hu=>by
   obtain⟨r,hr,hru⟩:=flat_of el.pos hw hu
   obtain⟨b,o,hA,_,hc⟩:=h2 _ r hr
   cases hA
   have:=hc _ u hru
   rw[addr_add,←this]
   rw[show j / m*m+j % m=j by rw[Nat.mul_comm];exact Nat.div_add_mod ..]
  have hon:∀ u∈rows2.flatten,u.oneCell'=true:=fun u hu=>by obtain⟨r,hr,hur⟩:=List.mem_flatten.1 hu;exact h1 r hr u hur
  obtain⟨v',w',hr,ho,hg,_,hob⟩:=run_append_own_at (P:=P) w B t ty e i z m bytes el.und hi hz hsize hb hzs el.pos v rows.length rows.flatten h.own ad rows2.length c rows2.flatten hlen2 hnews hon (by unfold maxLen;omega) hbb hbase
  refine⟨v',w',hr,⟨?_,hwid,hone⟩,hg,hob⟩
  rw[List.length_append,List.flatten_append];exact ho
theorem wp_of_append {P:Program} {w w':World} {o:Oper} {a:Act} {K:Act→World→Prop} {Q:Exit→Act→World→Prop} (s x:Operand) (t:TypeId)
  (ho:o.op=.call { callee:=.builtin .append,args:=#[s,x],argTypes:=#[t,t] }) {v u v':Value} (hs:a.eval s=v) (hx:a.eval x=u)
  (hr:(Builtin.append_ #[t,t] o.type #[v,u]).run P w=.ok v' w') (h:K (a.put o.dst v') w'):o.wp P a w K Q:=by
 unfold Oper.wp execOp
 simp only[ho,resolve,invoke,builtin,Sem.run_bind,Sem.run_pure,Result.andThen_ok,List.map_toArray,List.map_cons,List.map_nil,hs,hx,hr]
 exact h
theorem wpList_append_rows {P:Program} {t e:TypeId} {m bytes:Nat} (el:Elem P t e m bytes) {w:World} {ops:Array Oper} {rest:List Oper} {o:Oper} {a:Act} {Q:Exit→Act→World→Prop} (hgd:o.guard=none) (s x:Operand)
  (ho:o.op=.call { callee:=.builtin .append,args:=#[s,x],argTypes:=#[t,t] }) {v:Value} {A:Option Addr} {n c:Nat} (hs:a.eval s=v) (hx:a.eval x=.slice A n c)
  {B:Nat} {rows:List (List Value)} (h:OwnL w B e m v rows) {rows2:List (List Value)} (h2:RowsAt w A m rows2) (hn:n=rows2.length) (hw:∀ r∈rows2,r.length=m) (h1:∀ r∈rows2,∀ u∈r,u.oneCell'=true)
  (h63:rows.length+rows2.length≤4000000000) (hby:bytes≤10000) (hbase:B≤w.heap.size)
  (hK:∀ v' w',OwnL w' B e m v' (rows ++ rows2)→w.grownBy w' v.ownBlock→(v'.ownBlock=v.ownBlock∨v'.ownBlock=some w.heap.size)→wpList P ops Q rest (a.put o.dst v') w'):wpList P ops Q (o :: rest) a w :=
 wpList_plain hgd fun _ hK'=>by
  obtain⟨v',w',hr,h3,h4,h5⟩:=run_append_rows el o.type h h2 hn hw h1 h63 hby hbase
  exact wp_of_append s x t ho hs hx hr (hK' _ _ (hK v' w' h3 h4 h5))
theorem step_append_rows {P:Program} {t e:TypeId} {m bytes:Nat} (el:Elem P t e m bytes) {w:World} {ops:Array Oper} {o:Oper} {a:Act} {K:Act→World→Prop} {Q:Exit→Act→World→Prop} {E:Prop} (hgd:o.guard=none) (s x:Operand)
  (ho:o.op=.call { callee:=.builtin .append,args:=#[s,x],argTypes:=#[t,t] }) {v:Value} {A:Option Addr} {n c:Nat} (hs:a.eval s=v) (hx:a.eval x=.slice A n c)
  {B:Nat} {rows:List (List Value)} (h:OwnL w B e m v rows) {rows2:List (List Value)} (h2:RowsAt w A m rows2) (hn:n=rows2.length) (hw:∀ r∈rows2,r.length=m) (h1:∀ r∈rows2,∀ u∈r,u.oneCell'=true)
  (h63:rows.length+rows2.length≤4000000000) (hby:bytes≤10000) (hbase:B≤w.heap.size)
  (hK:∀ v' w',OwnL w' B e m v' (rows ++ rows2)→w.grownBy w' v.ownBlock→(v'.ownBlock=v.ownBlock∨v'.ownBlock=some w.heap.size)→K (a.put o.dst v') w'):if Region.wanted o (yielded ops a.tmps)=true then Oper.wp P o a w K Q else E:=by
 have hwt:Region.wanted o (yielded ops a.tmps)=true:=by simp[Region.wanted,hgd]
 rw[if_pos hwt]
 obtain⟨v',w',hr,h3,h4,h5⟩:=run_append_rows el o.type h h2 hn hw h1 h63 hby hbase
 exact wp_of_append s x t ho hs hx hr (hK v' w' h3 h4 h5)
theorem rowsAt_new (w:World) (r:List Value) (t:TypeId):RowsAt (w.alloc (.cells r.toArray t)) (some ⟨w.heap.size,0,none⟩) r.length [r]:=fun k q hq=>by
 match k,hq with
 | 0,hq =>
  simp only[List.getElem?_cons_zero,Option.some.injEq] at hq
  subst hq
  refine⟨w.heap.size,0,rfl,by simp,fun j v hv=>?_⟩
  rw[cell_of_row _ _ _ r.toArray t (0,0) (heap_alloc_new w _)]
  simpa using hv
theorem grown_below {w w':World} {B:Nat} {v:Value} (h:w.grownBy w' v.ownBlock) (hB:∀ g,v.ownBlock=some g→B≤g) (hs:B≤w.heap.size):Below B w w' :=
 (Below.refl _ _).grown h hs (fun k e=>hB k e)
end Go.Proofs.YtcnfhnndppollaaGreatDoor
namespace Go.Proofs.YtcnfhnndppollaaGreatDoor
open Go Go.RowKit Go.Sort
def IntsL (w:World) (B:Nat) (v:Value) (zs:List Int):Prop:=OwnL w B 3 1 v (intRows zs)
theorem intRows_length (zs:List Int):(intRows zs).length=zs.length:=by unfold intRows;simp
theorem IntsL.rows {w:World} {B:Nat} {v:Value} {zs:List Int} (h:IntsL w B v zs):∃ A c,v=.slice A zs.length c∧RowsAt w A 1 (intRows zs):=by
 obtain⟨A,c,hv,hr⟩:=OwnL.form h
 exact⟨A,c,by rw[hv,intRows_length],hr⟩
theorem grow_below (w:World) (os:Array Obj):Below w.heap.size w (grow w os):=⟨rfl,rfl,rfl,by simp,fun k hk=>by simp[grow,Array.getElem?_append_left hk]⟩
end Go.Proofs.YtcnfhnndppollaaGreatDoor
namespace Go.Proofs.YtcnfhnndppollaaGreatDoor
open Go Go.RowKit
def isBook:Obj→Bool
 | .loop _=>true
 | .deferred _=>true
 | _=>false
def rawPost (Inext:World→Prop) (Ix:Code→World→Prop) (W:World):Exit→Act→World→Prop
 | .normal,_,W'=>KeepsOthers W W'∧Inext W'
 | .ret,_,W'=>KeepsOthers W W'∧Ix .ret W'
 | .exit id,_,W'=>KeepsOthers W W'∧Ix (.exit id) W'
 | .goto t,_,W'=>KeepsOthers W W'∧Ix (.goto t) W'
 | .panic _,_,_=>False
 | .outgrown,_,_=>False
def SeqRaw {β:Type} (F:Fence) (n:Nat) (P:Program) (gf:Nat) (lb:Array Value) (encs:β→Array Value) (next:β→β) (Inv:β→World→Prop) (Step Ask:β→World→World→Prop) (End:β→Prop) (s0:β):Prop :=
 ∀ (l:Nat) (J:β→World→Prop) (Jx:World→Prop) (W:World),(∀ s A,J s A→Inv s A)→(∀ s A B,J s A→Step s A B→J (next s) B) →
  (∀ s A B,J s A→Ask s A B→YieldAt F (n-1) P l (encs s) B fun e W'=>(e=.returned (.bool true)∧J (next s) W')∨(e=.returned (.bool false)∧Jx W')) →
  J s0 W→CallsIn F n P gf (#[.func (.yield l) #[] #[]] ++ lb) W fun e W'=>(∃ v,e=.returned v)∧((∃ s,End s∧J s W')∨Jx W')
variable {F : Fence} {n : Nat} {P : Program}
end Go.Proofs.YtcnfhnndppollaaGreatDoor
namespace Go.Proofs.YtcnfhnndppollaaGreatDoor
open Go Go.RowKit Go.Shelf
theorem cell_alloc_at (W:World) (cs:Array Value) (t:TypeId) (j:Nat):(W.alloc (.cells cs t)).cell? ⟨W.heap.size,j,none⟩=cs[j]? :=
 cell_of_row _ _ _ cs t (0,0) (World.alloc_heap_new W _)
end Go.Proofs.YtcnfhnndppollaaGreatDoor
