/- What the statements rest on: definitions and walks, part 02. -/
import Derived.Test.YtcnfhnndppollaaDoorJ01
import Derived.Laws.AppendOwnNone
import Derived.Deep.AppendLies
import Derived.Lib.SlicesCompact
import Derived.Laws.OwnMore
import Derived.Sort.Grow
import Derived.RangeFuncNested
import Derived.RangeFuncBound
import Derived.RangeFuncCalls
import Derived.RangeFuncLeaves
import Derived.Shelf.Abstract
import Derived.Shelf.RegionOpen
import Derived.OwnWalkIn
import Derived.TacticsInMore
import Derived.LoopNIn
import Derived.LoopIn
import Derived.Deep.MidRow
import Derived.Deep.RegionHeld3
import Derived.Deep.CutRange
import Derived.RangeFuncBox
import Derived.OrdersHeld
import Derived.OrdersIn
import Derived.TacticsIn
import Derived.Deep.RegionHeld
import Derived.Deep.RegionWith
import Derived.Laws.MakeOwn
import Derived.Handy
set_option maxRecDepth 100000
set_option maxHeartbeats 16000000
set_option linter.unusedSimpArgs false
set_option linter.unusedVariables false
namespace Go.Proofs.YtcnfhnndppollaaDoor
open Go Go.RowKit
theorem flat_get {m:Nat}:∀ {rows:List (List Value)} {k j:Nat} {r:List Value} {v:Value},(∀ r∈rows,r.length=m)→rows[k]?=some r→r[j]?=some v→rows.flatten[k*m+j]?=some v
 | [],k,_,_,_,_,h,_=>by simp at h
 | q :: rows,0,j,r,v,hw,h,hv=>by
  simp only[List.getElem?_cons_zero,Option.some.injEq] at h
  subst h
  rw[List.flatten_cons,Nat.zero_mul,Nat.zero_add,List.getElem?_append_left (List.getElem?_eq_some_iff.1 hv).1,hv]
 | q :: rows,k+1,j,r,v,hw,h,hv=>by
  simp only[List.getElem?_cons_succ] at h
  have hq:=hw q (List.mem_cons_self ..)
  have ih:=flat_get (fun r hr=>hw r (List.mem_cons_of_mem _ hr)) h hv
  rw[List.flatten_cons,List.getElem?_append_right (by rw[hq,Nat.succ_mul];omega),hq,show (k+1)*m+j-m=k*m+j by rw[Nat.succ_mul];omega,ih]
theorem flat_len {m:Nat}:∀ {rows:List (List Value)},(∀ r∈rows,r.length=m)→rows.flatten.length=rows.length*m
 | [],_=>by simp
 | q :: rows,hw=>by
  rw[List.flatten_cons,List.length_append,hw q (List.mem_cons_self ..),flat_len (fun r hr=>hw r (List.mem_cons_of_mem _ hr)),List.length_cons,Nat.succ_mul];omega
theorem flat_of {m:Nat} (hm:0<m) {rows:List (List Value)} (hw:∀ r∈rows,r.length=m) {i:Nat} {v:Value} (h:rows.flatten[i]?=some v):∃ r,rows[i / m]?=some r∧r[i % m]?=some v:=by
 have hl:=(List.getElem?_eq_some_iff.1 h).1
 rw[flat_len hw] at hl
 have hk:i / m<rows.length:=Nat.div_lt_of_lt_mul (by rw[Nat.mul_comm];exact hl)
 have hr:=List.getElem?_eq_getElem hk
 have hlen:=hw _ (List.getElem_mem hk)
 have hj:i % m<rows[i / m].length:=by rw[hlen];exact Nat.mod_lt _ hm
 refine⟨_,hr,?_⟩
 have h2:=flat_get hw hr (List.getElem?_eq_getElem hj)
 rw[Nat.mul_comm,Nat.div_add_mod] at h2
 rw[List.getElem?_eq_getElem hj,←h2,h]
structure OwnL (w:World) (B:Nat) (E:TypeId) (m:Nat) (v:Value) (rows:List (List Value)):Prop where
 own:w.ownsRow B E m v rows.length rows.flatten
 wid:∀ r∈rows,r.length=m
 one:∀ r∈rows,∀ u∈r,u.oneCell'=true
theorem addr_add (g j:Nat) (o:Nat):(⟨g,o,none⟩:Addr).add j=⟨g,o+j,none⟩:=by unfold Addr.add;split <;> simp_all
theorem OwnL.form {w:World} {B:Nat} {E:TypeId} {m:Nat} {v:Value} {rows:List (List Value)} (h:OwnL w B E m v rows):∃ A c,v=.slice A rows.length c∧RowsAt w A m rows:=by
 obtain⟨hown,hw,_⟩:=h
 have hc:=fun g (hg:v.ownBlock=some g)=>hown.cells hg
 rcases hown.2 with ⟨rfl,h0⟩ | ⟨g,cap,cur,rfl,_,hg,_⟩
 ·exact⟨none,0,by rw[h0],fun k r hr=>by rw[List.eq_nil_of_length_eq_zero h0] at hr;simp at hr⟩
 refine⟨_,_,rfl,fun k r hr=>⟨g,0,rfl,(Array.getElem?_eq_some_iff.1 hg).1,fun j u hu=>?_⟩⟩
 have:=hc g rfl _ u (flat_get hw hr hu)
 rw[addr_add] at this
 exact this
theorem OwnL.nil (w:World) (B:Nat) (E:TypeId) (m:Nat):OwnL w B E m (.slice none 0 0) []:=⟨World.ownsRow_nil w B E m,fun r h=>(by simp at h),fun r h=>(by simp at h)⟩
theorem OwnL.made (w:World) (B:Nat) (E:TypeId) (m:Nat) (hb:B≤w.heap.size):OwnL (w.alloc (.cells #[] E)) B E m (.slice (some ⟨w.heap.size,0,none⟩) 0 0) [] :=
 ⟨World.ownsRow_made w #[] 0 hb (Nat.zero_le _) (by simp),fun r h=>(by simp at h),fun r h=>(by simp at h)⟩
theorem OwnL.less {w:World} {B B':Nat} {E:TypeId} {m:Nat} {v:Value} {rows:List (List Value)} (h:OwnL w B E m v rows) (hB:B'≤B):OwnL w B' E m v rows:=by
 refine⟨⟨h.own.1,?_⟩,h.wid,h.one⟩
 rcases h.own.2 with h | ⟨g,cap,cur,h1,h2,h3⟩
 ·exact .inl h
 exact .inr ⟨g,cap,cur,h1,by omega,h3⟩
theorem OwnL.kept {w w':World} {row:Option Nat} {B:Nat} {E:TypeId} {m:Nat} {v:Value} {rows:List (List Value)} (h:OwnL w B E m v rows) (hg:w.grownBy w' row) (hne:v.ownBlock=none∨v.ownBlock≠row):OwnL w' B E m v rows :=
 ⟨h.own.kept hg hne,h.wid,h.one⟩
theorem OwnL.below {w w':World} {B:Nat} {E:TypeId} {m:Nat} {v:Value} {rows:List (List Value)} (h:OwnL w B E m v rows) (hb:Below w.heap.size w w'):OwnL w' B E m v rows :=
 h.kept (row:=none) ⟨hb.os,hb.tape,hb.output,hb.size,fun i hi _=>hb.block i hi⟩ (by cases v.ownBlock <;> simp)
theorem OwnL.lt {w:World} {B:Nat} {E:TypeId} {m:Nat} {v:Value} {rows:List (List Value)} (h:OwnL w B E m v rows):∀ g,v.ownBlock=some g→B≤g∧g<w.heap.size:=h.own.lt
structure Elem (P:Program) (t e:TypeId) (m bytes:Nat):Prop where
 und:P.underlying t=some (.slice e)
 info:∃ i z,P.info? e=some i∧i.zero=some z∧i.size=m∧i.bytes=bytes∧z.cells.size=m
 pos:0<m
theorem Elem.mk' {P:Program} {t e:TypeId} {m bytes:Nat} {z:Value} (hu:P.underlying t=some (.slice e)) (h:(P.info? e).map (fun i=>(i.zero,i.size,i.bytes))=some (some z,m,bytes)) (hz:z.cells.size=m) (hm:0<m):Elem P t e m bytes:=by
 obtain⟨i,hi,h1,h2,h3⟩:=info_parts h
 exact⟨hu,⟨i,z,hi,h1,h2,h3,hz⟩,hm⟩
theorem run_append_none_any {P:Program} {w:World} (base:Nat) (t ty e:TypeId) (i:TypeInfo) (size c:Nat) (ht:P.underlying t=some (.slice e)) (hi:P.info? e=some i)
  (v:Value) (n:Nat) (xs:List Value) (hown:w.ownsRow base e size v n xs) :
  (Builtin.append_ #[t,t] ty #[v,.slice none 0 c]).run P w=.ok v w:=by
 rcases hown.2 with ⟨rfl,rfl⟩ | ⟨g,cap,cur,rfl,_,_,hnc,_⟩
 ·simp[Builtin.append_,run_underlying ht,sizeOf,typeInfo,hi,Builtin.lenOf,Builtin.firstCells]
 simp[Builtin.append_,run_underlying ht,sizeOf,typeInfo,hi,Builtin.lenOf,Builtin.firstCells,hnc,storeCells]
theorem run_append_rows {P:Program} {t e:TypeId} {m bytes:Nat} (el:Elem P t e m bytes) (ty:TypeId) {w:World} {B:Nat} {v:Value} {rows:List (List Value)} (h:OwnL w B e m v rows)
  {A:Option Addr} {n c:Nat} {rows2:List (List Value)} (h2:RowsAt w A m rows2) (hn:n=rows2.length) (hw:∀ r∈rows2,r.length=m) (h1:∀ r∈rows2,∀ u∈r,u.oneCell'=true)
  (h63:rows.length+rows2.length≤4000000000) (hby:bytes≤10000) (hbase:B≤w.heap.size) :
  ∃ v' w',(Builtin.append_ #[t,t] ty #[v,.slice A n c]).run P w=.ok v' w'∧OwnL w' B e m v' (rows ++ rows2)∧w.grownBy w' v.ownBlock∧(v'.ownBlock=v.ownBlock∨v'.ownBlock=some w.heap.size):=by
 subst hn
 obtain⟨i,z,hi,hz,hsize,hb,hzs⟩:=el.info
 have hwid:∀ r∈rows ++ rows2,r.length=m:=fun r hr=>by rcases List.mem_append.1 hr with h' | h';exact h.wid r h';exact hw r h'
 have hone:∀ r∈rows ++ rows2,∀ u∈r,u.oneCell'=true:=fun r hr=>by rcases List.mem_append.1 hr with h' | h';exact h.one r h';exact h1 r h'
 have hml:4000000000*10000≤140737488355328:=by decide
 have hbb:(rows.length+rows2.length)*bytes≤140737488355328:=Nat.le_trans (Nat.mul_le_mul h63 hby) hml
 cases A with
 | none =>
  have h0:rows2=[]:=by
   cases rows2 with
   | nil=>rfl
   | cons q r=>obtain⟨b,o,hA,_⟩:=h2 0 q rfl;cases hA
  subst h0
  refine⟨v,w,run_append_none_any (P:=P) (w:=w) B t ty e i m c el.und hi v _ _ h.own,?_,⟨rfl,rfl,rfl,Nat.le_refl _,fun _ _ _=>rfl⟩,.inl rfl⟩
  rw[List.append_nil];exact h
 | some ad =>
  have hlen2:rows2.flatten.length=rows2.length*m:=flat_len hw
  have hnews:∀ j u,rows2.flatten[j]?=some u→w.cell? (ad.add j)=some u:=fun j u hu=>by
   obtain⟨r,hr,hru⟩:=flat_of el.pos hw hu
   obtain⟨b,o,hA,_,hc⟩:=h2 _ r hr
   cases hA
   have:=hc _ u hru
   rw[addr_add,←this]
   rw[show j / m*m+j % m=j by rw[Nat.mul_comm];exact Nat.div_add_mod ..]
  have hon:∀ u∈rows2.flatten,u.oneCell'=true:=fun u hu=>by obtain⟨r,hr,hur⟩:=List.mem_flatten.1 hu;exact h1 r hr u hur
  obtain⟨v',w',hr,ho,hg,_,hob⟩:=run_append_own_at (P:=P) w B t ty e i z m bytes el.und hi hz hsize hb hzs el.pos v rows.length rows.flatten h.own ad rows2.length c rows2.flatten hlen2 hnews hon (by unfold maxLen;omega) hbb hbase
  refine⟨v',w',hr,⟨?_,hwid,hone⟩,hg,hob⟩
  rw[List.length_append,List.flatten_append];exact ho
theorem wp_of_append {P:Program} {w w':World} {o:Oper} {a:Act} {K:Act→World→Prop} {Q:Exit→Act→World→Prop} (s x:Operand) (t:TypeId)
  (ho:o.op=.call { callee:=.builtin .append,args:=#[s,x],argTypes:=#[t,t] }) {v u v':Value} (hs:a.eval s=v) (hx:a.eval x=u)
  (hr:(Builtin.append_ #[t,t] o.type #[v,u]).run P w=.ok v' w') (h:K (a.put o.dst v') w'):o.wp P a w K Q:=by
 unfold Oper.wp execOp
 simp only[ho,resolve,invoke,builtin,Sem.run_bind,Sem.run_pure,Result.andThen_ok,List.map_toArray,List.map_cons,List.map_nil,hs,hx,hr]
 exact h
theorem wpList_append_rows {P:Program} {t e:TypeId} {m bytes:Nat} (el:Elem P t e m bytes) {w:World} {ops:Array Oper} {rest:List Oper} {o:Oper} {a:Act} {Q:Exit→Act→World→Prop} (hgd:o.guard=none) (s x:Operand)
  (ho:o.op=.call { callee:=.builtin .append,args:=#[s,x],argTypes:=#[t,t] }) {v:Value} {A:Option Addr} {n c:Nat} (hs:a.eval s=v) (hx:a.eval x=.slice A n c)
  {B:Nat} {rows:List (List Value)} (h:OwnL w B e m v rows) {rows2:List (List Value)} (h2:RowsAt w A m rows2) (hn:n=rows2.length) (hw:∀ r∈rows2,r.length=m) (h1:∀ r∈rows2,∀ u∈r,u.oneCell'=true)
  (h63:rows.length+rows2.length≤4000000000) (hby:bytes≤10000) (hbase:B≤w.heap.size)
  (hK:∀ v' w',OwnL w' B e m v' (rows ++ rows2)→w.grownBy w' v.ownBlock→(v'.ownBlock=v.ownBlock∨v'.ownBlock=some w.heap.size)→wpList P ops Q rest (a.put o.dst v') w'):wpList P ops Q (o :: rest) a w :=
 wpList_plain hgd fun _ hK'=>by
  obtain⟨v',w',hr,h3,h4,h5⟩:=run_append_rows el o.type h h2 hn hw h1 h63 hby hbase
  exact wp_of_append s x t ho hs hx hr (hK' _ _ (hK v' w' h3 h4 h5))
theorem step_append_rows {P:Program} {t e:TypeId} {m bytes:Nat} (el:Elem P t e m bytes) {w:World} {ops:Array Oper} {o:Oper} {a:Act} {K:Act→World→Prop} {Q:Exit→Act→World→Prop} {E:Prop} (hgd:o.guard=none) (s x:Operand)
  (ho:o.op=.call { callee:=.builtin .append,args:=#[s,x],argTypes:=#[t,t] }) {v:Value} {A:Option Addr} {n c:Nat} (hs:a.eval s=v) (hx:a.eval x=.slice A n c)
  {B:Nat} {rows:List (List Value)} (h:OwnL w B e m v rows) {rows2:List (List Value)} (h2:RowsAt w A m rows2) (hn:n=rows2.length) (hw:∀ r∈rows2,r.length=m) (h1:∀ r∈rows2,∀ u∈r,u.oneCell'=true)
  (h63:rows.length+rows2.length≤4000000000) (hby:bytes≤10000) (hbase:B≤w.heap.size)
  (hK:∀ v' w',OwnL w' B e m v' (rows ++ rows2)→w.grownBy w' v.ownBlock→(v'.ownBlock=v.ownBlock∨v'.ownBlock=some w.heap.size)→K (a.put o.dst v') w'):if Region.wanted o (yielded ops a.tmps)=true then Oper.wp P o a w K Q else E:=by
 have hwt:Region.wanted o (yielded ops a.tmps)=true:=by simp[Region.wanted,hgd]
 rw[if_pos hwt]
 obtain⟨v',w',hr,h3,h4,h5⟩:=run_append_rows el o.type h h2 hn hw h1 h63 hby hbase
 exact wp_of_append s x t ho hs hx hr (hK v' w' h3 h4 h5)
theorem rowsAt_new (w:World) (r:List Value) (t:TypeId):RowsAt (w.alloc (.cells r.toArray t)) (some ⟨w.heap.size,0,none⟩) r.length [r]:=fun k q hq=>by
 match k,hq with
 | 0,hq =>
  simp only[List.getElem?_cons_zero,Option.some.injEq] at hq
  subst hq
  refine⟨w.heap.size,0,rfl,by simp,fun j v hv=>?_⟩
  rw[cell_of_row _ _ _ r.toArray t (0,0) (heap_alloc_new w _)]
  simpa using hv
theorem grown_below {w w':World} {B:Nat} {v:Value} (h:w.grownBy w' v.ownBlock) (hB:∀ g,v.ownBlock=some g→B≤g) (hs:B≤w.heap.size):Below B w w' :=
 (Below.refl _ _).grown h hs (fun k e=>hB k e)
end Go.Proofs.YtcnfhnndppollaaDoor
namespace Go.Proofs.YtcnfhnndppollaaDoor
open Go Go.RowKit Go.Sort
def IntsL (w:World) (B:Nat) (v:Value) (zs:List Int):Prop:=OwnL w B 3 1 v (intRows zs)
theorem intRows_length (zs:List Int):(intRows zs).length=zs.length:=by unfold intRows;simp
theorem IntsL.rows {w:World} {B:Nat} {v:Value} {zs:List Int} (h:IntsL w B v zs):∃ A c,v=.slice A zs.length c∧RowsAt w A 1 (intRows zs):=by
 obtain⟨A,c,hv,hr⟩:=OwnL.form h
 exact⟨A,c,by rw[hv,intRows_length],hr⟩
theorem grow_below (w:World) (os:Array Obj):Below w.heap.size w (grow w os):=⟨rfl,rfl,rfl,by simp,fun k hk=>by simp[grow,Array.getElem?_append_left hk]⟩
end Go.Proofs.YtcnfhnndppollaaDoor
namespace Go.Proofs.YtcnfhnndppollaaDoor
open Go Go.RowKit
def isBook:Obj→Bool
 | .loop _=>true
 | .deferred _=>true
 | _=>false
theorem not_cells_of_book {o:Obj} (h:isBook o=true):o.isCells=false:=by cases o <;> simp_all [isBook,Obj.isCells]
def rawPost (Inext:World→Prop) (Ix:Code→World→Prop) (W:World):Exit→Act→World→Prop
 | .normal,_,W'=>KeepsOthers W W'∧Inext W'
 | .ret,_,W'=>KeepsOthers W W'∧Ix .ret W'
 | .exit id,_,W'=>KeepsOthers W W'∧Ix (.exit id) W'
 | .goto t,_,W'=>KeepsOthers W W'∧Ix (.goto t) W'
 | .panic _,_,_=>False
 | .outgrown,_,_=>False
def SeqRaw {β:Type} (F:Fence) (n:Nat) (P:Program) (gf:Nat) (lb:Array Value) (encs:β→Array Value) (next:β→β) (Inv:β→World→Prop) (Step Ask:β→World→World→Prop) (End:β→Prop) (s0:β):Prop :=
 ∀ (l:Nat) (J:β→World→Prop) (Jx:World→Prop) (W:World),(∀ s A,J s A→Inv s A)→(∀ s A B,J s A→Step s A B→J (next s) B) →
  (∀ s A B,J s A→Ask s A B→YieldAt F (n-1) P l (encs s) B fun e W'=>(e=.returned (.bool true)∧J (next s) W')∨(e=.returned (.bool false)∧Jx W')) →
  J s0 W→CallsIn F n P gf (#[.func (.yield l) #[] #[]] ++ lb) W fun e W'=>(∃ v,e=.returned v)∧((∃ s,End s∧J s W')∨Jx W')
variable {F : Fence} {n : Nat} {P : Program}
end Go.Proofs.YtcnfhnndppollaaDoor
namespace Go.Proofs.YtcnfhnndppollaaDoor
open Go Go.RowKit Go.Shelf
attribute [local go_sem] Oper.semAt_some
def stepsLeft (step d:Int):Nat:=if step=1 then (200001-d).toNat else (d+1).toNat
end Go.Proofs.YtcnfhnndppollaaDoor
namespace Go.Proofs.YtcnfhnndppollaaDoor
open Go Go.RowKit Go.Shelf
attribute [local go_sem] Oper.semAt_some
def Cal.addFrom (l:List Hol) (step:Int):Nat→Int→Int→Option Int
 | 0,_,_=>none
 | f+1,d,left=>if 0≤d∧d≤200000 then (if Cal.worksB l d=true then (if left=0 then some d else Cal.addFrom l step f (d+step) (left-1)) else Cal.addFrom l step f (d+step) left) else none
def Cal.addW (l:List Hol) (day n:Int):Option Int :=
 if n=0 then Cal.addFrom l 1 (stepsLeft 1 day) day 0 else if n<0 then Cal.addFrom l (-1) (stepsLeft (-1) (day-1)) (day-1) (-n-1) else Cal.addFrom l 1 (stepsLeft 1 (day+1)) (day+1) (n-1)
def Others (W:World) (row:Option Nat):Prop:=∀ r,row=some r→∃ o:Obj,W.heap[r]?=some o∧o.isCells=false
end Go.Proofs.YtcnfhnndppollaaDoor
namespace Go.Proofs.YtcnfhnndppollaaDoor
open Go Go.RowKit Go.Shelf
def Cal.addWorkingS (l:List Hol) (day n:Int):Int × Int :=
 if Cal.holsErr l=0 then (if 0≤day∧day≤200000∧-2000≤n∧n≤2000 then (match Cal.addW l day n with | some x=>(x,0) | none=>(0,2)) else (0,2)) else (0,Cal.holsErr l)
theorem cell_alloc_at (W:World) (cs:Array Value) (t:TypeId) (j:Nat):(W.alloc (.cells cs t)).cell? ⟨W.heap.size,j,none⟩=cs[j]? :=
 cell_of_row _ _ _ cs t (0,0) (World.alloc_heap_new W _)
end Go.Proofs.YtcnfhnndppollaaDoor
namespace Go.Proofs.YtcnfhnndppollaaDoor
open Go Go.RowKit
def Cal.perE (m d:Int) (k:Bool):Int:=if 0≤m∧m≤1200∧0≤d∧d≤(if k=true then 2000 else 36500) then 0 else 2
def Cal.dlFrom (l:List Hol) (day m d:Int) (k:Bool):Option Int :=
 if (Cal.laterS day m).2=true then
  (if k=true then Cal.addW l (Cal.laterS day m).1 d else if (Cal.laterS day m).1+d≤200000 then Cal.addW l ((Cal.laterS day m).1+d) 0 else none)
 else none
def Cal.dlS (l:List Hol) (day m d:Int) (k:Bool):Int × Int :=
 if Cal.holsErr l=0 then (if 0≤day∧day≤200000 then (if Cal.perE m d k=0 then (match Cal.dlFrom l day m d k with | some x=>(x,0) | none=>(0,2)) else (0,Cal.perE m d k)) else (0,2)) else (0,Cal.holsErr l)
end Go.Proofs.YtcnfhnndppollaaDoor
namespace Go.Proofs.YtcnfhnndppollaaDoor
open Go Go.RowKit
structure Per where
 m:Int
 d:Int
 k:Bool
structure Proc where
 runs:Per
 obj:Per
 wait:Per
 exts:Int
 longest:Int
 hols:List Hol
structure NAct where
 day:Int
 kind:Int
 days:Int
structure NSt where
 phase:Int
 last:Int
 deadline:Int
 object:Int
 objected:Int
 extended:Int
def Cal.formErr (p:Proc) (a:NAct):Int :=
 if 0≤a.day∧a.day≤200000 then (if 0≤a.kind∧a.kind≤7 then (if a.kind=6 then (if 1≤a.days∧a.days≤p.longest then 0 else 2) else if a.days=0 then 0 else 3) else 15) else 2
def Cal.accB (phase kind:Int):Bool :=
 if kind=0 then decide (phase=0) else if kind=2 then decide (phase=2) else if kind=4∨kind=5 then decide (phase=3)
 else if kind=7 then decide (phase=1∨phase=2∨phase=3) else decide (phase=1)
def Cal.mayErr (p:Proc) (s:NSt) (a:NAct):Int :=
 if Cal.formErr p a=0 then
  (if a.day<s.last then 9 else if Cal.accB s.phase a.kind=true then
   (if s.phase=1∧s.deadline<a.day then 21 else if a.kind=3∧min s.object s.deadline<a.day then 21 else if a.kind=6∧p.exts≤s.extended then 16 else 0)
   else 28)
 else Cal.formErr p a
def Cal.doneS (p:Proc) (s:NSt) (a:NAct):NSt × Int :=
 if a.kind=0∨a.kind=2 then
  ({ s with last:=a.day,phase:=1,deadline:=(Cal.dlS p.hols a.day p.runs.m p.runs.d p.runs.k).1,object:=(Cal.dlS p.hols a.day p.obj.m p.obj.d p.obj.k).1 },
   if (Cal.dlS p.hols a.day p.runs.m p.runs.d p.runs.k).2=0∧(Cal.dlS p.hols a.day p.obj.m p.obj.d p.obj.k).2=0 then 0 else 2)
 else if a.kind=1 then ({ s with last:=a.day,phase:=2 },0)
 else if a.kind=3 then ({ s with last:=a.day,phase:=3,objected:=a.day },0)
 else if a.kind=4 then ({ s with last:=a.day,phase:=1,deadline:=(Cal.addWorkingS p.hols (s.deadline+(a.day-s.objected)) 0).1 },(Cal.addWorkingS p.hols (s.deadline+(a.day-s.objected)) 0).2)
 else if a.kind=6 then ({ s with last:=a.day,extended:=s.extended+1,deadline:=(Cal.addWorkingS p.hols (s.deadline+a.days) 0).1 },(Cal.addWorkingS p.hols (s.deadline+a.days) 0).2)
 else if a.kind=5 then ({ s with last:=a.day,phase:=5 },0)
 else ({ s with last:=a.day,phase:=4 },0)
def Cal.actS (p:Proc) (s:NSt) (a:NAct):NSt × Int:=if Cal.mayErr p s a=0 then Cal.doneS p s a else (s,Cal.mayErr p s a)
def Cal.openSt (opened:Int):NSt:=⟨0,opened,0,0,0,0⟩
def Cal.atS (p:Proc) (day:Int):List NAct→NSt→NSt
 | [],s=>s
 | a :: l,s=>if a.day≤day then Cal.atS p day l (Cal.actS p s a).1 else s
structure Note where
 name:ByteArray
 opened : Int
 acts:List NAct
def Cal.stAt (p:Proc) (n:Note) (day:Int):NSt:=Cal.atS p day n.acts (Cal.openSt n.opened)
end Go.Proofs.YtcnfhnndppollaaDoor
namespace Go.Proofs.YtcnfhnndppollaaDoor
open Go Go.RowKit
structure StAt (w:World) (B:Nat) (A:Option Addr) (c:Nat) (p:Proc) (s:NSt):Prop where
 range:w.rangeAt B 0 [.int .i64 p.runs.m,.int .i64 p.runs.d,.bool p.runs.k,.int .i64 p.obj.m,.int .i64 p.obj.d,.bool p.obj.k,.int .i64 p.wait.m,.int .i64 p.wait.d,.bool p.wait.k,.int .i64 p.exts,.int .i64 p.longest,.slice A p.hols.length c,.int .i64 s.phase,.int .i64 s.last,.int .i64 s.deadline,.int .i64 s.object,.int .i64 s.objected,.int .i64 s.extended]
 lt:B<w.heap.size
theorem StAt.c9 {w:World} {B:Nat} {A:Option Addr} {c:Nat} {p:Proc} {s:NSt} (h:StAt w B A c p s):w.cell? ⟨B,9,none⟩=some (.int .i64 p.exts):=h.range 9 _ rfl
end Go.Proofs.YtcnfhnndppollaaDoor
namespace Go.Proofs.YtcnfhnndppollaaDoor
open Go Go.RowKit
theorem ratHx {P:Program} {ops:Array Oper} {Q:Exit→Act→World→Prop} {md:Region.Mode} {S:World→Prop} (i:Nat) {op:Oper} {fuel:Nat} {listed:Array Bool} {a:Act} {w:World}
  (h:∀ K:Act→World→Prop,Shut (∀ a w,S w→(S w→wpAnyH P md ops Q S fuel (listed.setIfInBounds i true) a w)→K a w)→Oper.wp P op a w K Q)
  (ho:ops[i]?=some op:=by exact rfl) (hr:Region.ready md ops listed=[i]:=by decide +kernel) (hw:Region.wanted op (yielded ops a.tmps)=true:=by kernel_rfl):wpAnyH P md ops Q S (fuel+1) listed a w :=
 wpAnyH_ready (rs:=[i]) hr (by simp) (AllReadyH.cons ho (fun K hK=>by rw[if_pos hw];exact h K hK) AllReadyH.nil)
theorem apS (t:Array Value) (df) (d:Nat) (v:Value):Act.put { tmps:=t,defers:=df } (some d) v={ tmps:=t.setIfInBounds d v,defers:=df }:=rfl
theorem apN (a:Act) (v:Value):Act.put a none v=a:=rfl
theorem siA {α:Type _} (l:List α) (i:Nat) (x:α):l.toArray.setIfInBounds i x=(l.set i x).toArray:=List.setIfInBounds_toArray ..
theorem scZ {α:Type _} (x y:α) (l:List α):(x :: l).set 0 y=y :: l:=rfl
theorem scS {α:Type _} (x y:α) (l:List α) (n:Nat):(x :: l).set (n+1) y=x :: l.set n y:=rfl
end Go.Proofs.YtcnfhnndppollaaDoor
namespace Go.Proofs.YtcnfhnndppollaaDoor
open Go Go.RowKit
theorem below_grown {w w':World} (h:Below w.heap.size w w') (row:Option Nat):w.grownBy w' row:=⟨h.os,h.tape,h.output,h.size,fun i hi _=>h.block i hi⟩
theorem grown_set (w:World) (B o:Nat) (u:Value):w.grownBy (w.setCell ⟨B,o,none⟩ u) (some B) :=
 ⟨by simp[World.setCell],by simp[World.setCell],by simp[World.setCell],by simp,fun k _ hne=>Below.heap_setCell w _ u k (fun e=>hne (by rw[e]))⟩
theorem below_of_grownB {w0 w w':World} {B:Nat} (h:Below w0.heap.size w0 w) (hg:w.grownBy w' (some B)) (hB:w0.heap.size≤B):Below w0.heap.size w0 w':=h.grown hg h.size (fun k e=>by cases e;exact hB)
end Go.Proofs.YtcnfhnndppollaaDoor
namespace Go.Proofs.YtcnfhnndppollaaDoor
open Go Go.RowKit
structure BoxAt (w:World) (B:Nat) (cs:List Value):Prop where
 range:w.rangeAt B 0 cs
 free:∀ j,j<cs.length→w.frozen? ⟨B,j,none⟩=false
 lt:B<w.heap.size
theorem BoxAt.there {w:World} {B:Nat} {cs:List Value} (h:BoxAt w B cs):w.there B 0 cs.length:=fun j hj=>⟨h.range.isSome j hj,by rw[Nat.zero_add];exact h.free j hj⟩
theorem BoxAt.grown {w w':World} {row:Option Nat} {B:Nat} {cs:List Value} (h:BoxAt w B cs) (hg:w.grownBy w' row) (hne:some B≠row):BoxAt w' B cs :=
 ⟨fun j v hv=>(World.cell?_of_block (a:=⟨B,0+j,none⟩) (hg.block B h.lt hne)).trans (h.range j v hv),fun j hj=>(World.frozen?_of_block (a:=⟨B,j,none⟩) (hg.block B h.lt hne)).trans (h.free j hj),Nat.lt_of_lt_of_le h.lt hg.size⟩
theorem BoxAt.below {w w':World} {B:Nat} {cs:List Value} (h:BoxAt w B cs) (hb:Below w.heap.size w w'):BoxAt w' B cs:=h.grown (below_grown hb none) (by simp)
theorem BoxAt.alloc {w:World} {B:Nat} {cs:List Value} (h:BoxAt w B cs) (o:Obj):BoxAt (w.alloc o) B cs:=h.below (below_alloc w o)
theorem BoxAt.new (w:World) (cs:Array Value) (t:TypeId):BoxAt (w.alloc (.cells cs t)) w.heap.size cs.toList :=
 ⟨fun j v hv=>by rw[Nat.zero_add,cell_alloc_at,←hv];simp,fun j hj=>by unfold World.frozen?;rw[World.alloc_heap_new];simp,by simp⟩
theorem grown_setCells (B:Nat):∀ (xs:List Value) (o:Nat) (w:World),w.grownBy (w.setCells B o xs) (some B)
 | [],_,w=>World.grownBy.refl w _
 | v :: xs,o,w=>(grown_set w B o v).trans (grown_setCells B xs (o+1) _)
theorem size_setCells (B:Nat):∀ (xs:List Value) (o:Nat) (w:World),(w.setCells B o xs).heap.size=w.heap.size
 | [],_,_=>rfl
 | v :: xs,o,w=>by unfold World.setCells;rw[size_setCells B xs];simp
theorem BoxAt.put {w:World} {B:Nat} {cs:List Value} (h:BoxAt w B cs) (xs:List Value) (hl:xs.length=cs.length):BoxAt (w.setCells B 0 xs) B xs :=
 ⟨World.rangeAt_setCells_same w B 0 xs (by rw[hl];exact h.there),fun j hj=>by rw[World.frozen?_setCells];exact h.free j (by omega),by rw[size_setCells];exact h.lt⟩
theorem BoxAt.set {w:World} {B:Nat} {cs:List Value} (h:BoxAt w B cs) (j:Nat) (v:Value) (hj:j<cs.length):BoxAt (w.setCell ⟨B,j,none⟩ v) B (cs.set j v):=by
 refine⟨fun k u hu=>?_,fun k hk=>by rw[World.frozen?_setCell];exact h.free k (by simpa using hk),by rw[World.size_setCell];exact h.lt⟩
 rw[Nat.zero_add]
 by_cases e:j=k
 ·subst e
  rw[List.getElem?_set_self hj] at hu
  cases hu
  obtain⟨x,hx⟩:∃ x,cs[j]?=some x:=⟨_,List.getElem?_eq_getElem hj⟩
  have:=h.range j x hx
  rw[Nat.zero_add] at this
  exact World.cell?_setCell_same _ _ _ this
 rw[List.getElem?_set_ne e] at hu
 have:=h.range k u hu
 rw[Nat.zero_add] at this
 rw[World.cell?_setCell_other _ _ _ _ (fun x=>e (by injection x))]
 exact this
theorem BoxAt.c {w:World} {B:Nat} {cs:List Value} (h:BoxAt w B cs) (j:Nat) (v:Value) (hv:cs[j]?=some v):w.cell? ⟨B,j,none⟩=some v:=by
 have:=h.range j v hv
 rw[Nat.zero_add] at this
 exact this
theorem BoxAt.c2 {w : World} {B : Nat} {x0 x1 : Value} {l : List Value} (h : BoxAt w B (x0::x1::l)) : w.cell? ⟨B,0,none⟩=some x0 ∧ w.cell? ⟨B,1,none⟩=some x1:=⟨h.c 0 _ rfl,h.c 1 _ rfl⟩
theorem BoxAt.c3 {w : World} {B : Nat} {x0 x1 x2 : Value} {l : List Value} (h : BoxAt w B (x0::x1::x2::l)) : w.cell? ⟨B,0,none⟩=some x0 ∧ w.cell? ⟨B,1,none⟩=some x1 ∧ w.cell? ⟨B,2,none⟩=some x2:=⟨h.c 0 _ rfl,h.c 1 _ rfl,h.c 2 _ rfl⟩
theorem BoxAt.c4 {w : World} {B : Nat} {x0 x1 x2 x3 : Value} {l : List Value} (h : BoxAt w B (x0::x1::x2::x3::l)) : w.cell? ⟨B,0,none⟩=some x0 ∧ w.cell? ⟨B,1,none⟩=some x1 ∧ w.cell? ⟨B,2,none⟩=some x2 ∧ w.cell? ⟨B,3,none⟩=some x3:=⟨h.c 0 _ rfl,h.c 1 _ rfl,h.c 2 _ rfl,h.c 3 _ rfl⟩
theorem BoxAt.fr2 {w : World} {B : Nat} {x0 x1 : Value} {l : List Value} (h : BoxAt w B (x0::x1::l)) : w.frozen? ⟨B,0,none⟩=false ∧ w.frozen? ⟨B,1,none⟩=false:=⟨h.free 0 (by simp),h.free 1 (by simp)⟩
theorem BoxAt.fr3 {w : World} {B : Nat} {x0 x1 x2 : Value} {l : List Value} (h : BoxAt w B (x0::x1::x2::l)) : w.frozen? ⟨B,0,none⟩=false ∧ w.frozen? ⟨B,1,none⟩=false ∧ w.frozen? ⟨B,2,none⟩=false:=⟨h.free 0 (by simp),h.free 1 (by simp),h.free 2 (by simp)⟩
theorem BoxAt.fr4 {w : World} {B : Nat} {x0 x1 x2 x3 : Value} {l : List Value} (h : BoxAt w B (x0::x1::x2::x3::l)) : w.frozen? ⟨B,0,none⟩=false ∧ w.frozen? ⟨B,1,none⟩=false ∧ w.frozen? ⟨B,2,none⟩=false ∧ w.frozen? ⟨B,3,none⟩=false:=⟨h.free 0 (by simp),h.free 1 (by simp),h.free 2 (by simp),h.free 3 (by simp)⟩
section
variable {P : Program}
theorem results_mid2 {fn:Func} {t u:Tmp} {ty:TypeId} (h:fn.results=#[.cell t ty,.tmp u]) (tmps:Array Value) (w:World) (g:Nat) (cs:List Value) (d:TypeDesc)
  (hp:tmps.getD t undef=.pointer (some ⟨g,0,none⟩)) (hc:w.rangeAt g 0 cs) (hu:P.underlying ty=some d) (hd:d.isRow=true) (hi:(P.info? ty).map (·.size)=some cs.length) :
  (results fn tmps).run P w=.ok (.tuple #[.agg cs.toArray,tmps.getD u undef]) w:=by
 have hp':tmps[t]?.getD undef=.pointer (some ⟨g,0,none⟩):=by simpa using hp
 simp[results,h,hp',asAddr,run_loadVar_mid w g 0 ty cs d hc hu hd hi]
theorem results_mid1 {fn:Func} {t:Tmp} {ty:TypeId} (h:fn.results=#[.cell t ty]) (tmps:Array Value) (w:World) (g:Nat) (cs:List Value) (d:TypeDesc)
  (hp:tmps.getD t undef=.pointer (some ⟨g,0,none⟩)) (hc:w.rangeAt g 0 cs) (hu:P.underlying ty=some d) (hd:d.isRow=true) (hi:(P.info? ty).map (·.size)=some cs.length) :
  (results fn tmps).run P w=.ok (.agg cs.toArray) w:=by
 have hp':tmps[t]?.getD undef=.pointer (some ⟨g,0,none⟩):=by simpa using hp
 simp[results,h,hp',asAddr,run_loadVar_mid w g 0 ty cs d hc hu hd hi]
end
end Go.Proofs.YtcnfhnndppollaaDoor
namespace Go.Proofs.YtcnfhnndppollaaDoor
open Go Go.RowKit
theorem wpList_store_box {P:Program} {ops:Array Oper} {rest:List Oper} {op:Oper} {a:Act} {w:World} {Q:Exit→Act→World→Prop} (hgd:op.guard=none) (ty:TypeId) (x y:Operand) (ho:op.op=.store ty x y)
  (b:Nat) (cs0 cs:List Value) (hx:a.eval x=.pointer (some ⟨b,0,none⟩)) (hy:a.eval y=.agg cs.toArray) (hB:BoxAt w b cs0) (hl:cs.length=cs0.length)
  (hi:(P.info? ty).map (·.size)=some cs.length) (h1:cs.toArray.all (·.oneCell')=true)
  (h:∀ w',BoxAt w' b cs→w.grownBy w' (some b)→wpList P ops Q rest (a.put op.dst undef) w'):wpList P ops Q (op :: rest) a w :=
 wpList_store_mid hgd ty x y ho b 0 cs.toArray hx hy (by rw[List.size_toArray,hl];exact hB.there) (by simpa using hi) h1 (h _ (hB.put cs hl) (grown_setCells b cs 0 w))
end Go.Proofs.YtcnfhnndppollaaDoor
namespace Go.Proofs.YtcnfhnndppollaaDoor
structure Site where
 name:ByteArray
 kind:Int
 soil:Int
 depth:Int
 step:Int
 room:Int
structure Rst where
 soil:Int
 cont:Int
 days:Int
structure Yd where
 sites:List Site
 rests:List Rst
 c0:Int
 c1:Int
 c2:Int
structure Ev where
 day:Int
 kind:Int
 site:ByteArray
 level:Int
 remain:ByteArray
 cont:Int
 order:Bool
structure Lot where
 remain:ByteArray
 state:Int
 site:ByteArray
 level:Int
 cont:Int
 since:Int
structure Sty where
 lot:Lot
 til:Int
structure Bk where
 stays:List Sty
 day:Int
namespace Cal
def siteErr (s:Site):Int :=
 if nameB s.name=false then 4
 else if ¬(0≤s.kind∧s.kind≤3) then 15
 else if ¬(0≤s.soil∧s.soil≤9)∨¬(0≤s.depth∧s.depth≤1000)∨¬(0≤s.step∧s.step≤300)∨¬(1≤s.room∧s.room≤12) then 2
 else if s.kind=0∧s.depth-s.step*(s.room-1)<0 then 3
 else if s.kind≠0∧(s.depth≠0∨s.step≠0) then 3
 else if s.kind=3∧s.room≠1 then 3 else 0
def siteOf (l:List Site) (n:ByteArray):Option Site:=l.find? (fun s=>decide (s.name=n))
def sitesErr (seen:List Site):List Site→Int
 | []=>0
 | s :: r=>if siteErr s≠0 then siteErr s else if (siteOf seen s.name).isSome then 5 else sitesErr (seen ++ [s]) r
def restBad (r:Rst):Prop:=¬(0≤r.soil∧r.soil≤9)∨¬(0≤r.cont∧r.cont≤2)∨¬(0≤r.days∧r.days≤100000)
instance (r:Rst):Decidable (restBad r):=by unfold restBad;infer_instance
def restsE (seen:List Rst):List Rst→Int
 | []=>0
 | r :: t=>if restBad r then 2 else if seen.any (fun q=>decide (q.soil=r.soil) && decide (q.cont=r.cont)) then 5 else restsE (r :: seen) t
def coversE (y:Yd):Int:=if ¬(0≤y.c0∧y.c0≤1000)∨¬(0≤y.c1∧y.c1≤1000)∨¬(0≤y.c2∧y.c2≤1000) then 2 else 0
def yardE (y:Yd):Int :=
 if 60<y.sites.length then 8
 else if sitesErr [] y.sites≠0 then sitesErr [] y.sites
 else if 40<y.rests.length then 8
 else if restsE [] y.rests≠0 then restsE [] y.rests
 else coversE y
def depthS (s:Site) (level:Int):Int:=if s.kind=0 then s.depth-s.step*level else 0
def restOf (l:List Rst) (soil cont:Int):Int:=match l.find? (fun r=>decide (r.soil=soil) && decide (r.cont=cont)) with
 | some r=>r.days
 | none=>0
def cover (y:Yd) (cont:Int):Int:=if cont=0 then y.c0 else if cont=1 then y.c1 else y.c2
def takesB (y:Yd) (s:Site) (level cont:Int):Bool :=
 if s.kind=0 then decide (cont≠2) && decide (cover y cont≤depthS s level)
 else if s.kind=1 then decide (cont≠2)
 else if s.kind=2 then decide (cont=1)
 else decide (cont=2)
def eventE (e:Ev):Int :=
 let put:=e.kind=0∨e.kind=2
 if ¬(0≤e.day∧e.day≤200000) then 2
 else if ¬(0≤e.kind∧e.kind≤4) then 15
 else if nameB e.remain=false∨(put∧nameB e.site=false) then 4
 else if ((put∨e.kind=3)∧¬(0≤e.level∧e.level≤11))∨(put∧¬(0≤e.cont∧e.cont≤2)) then 2
 else if (¬put∧(e.site.size≠0∨e.cont≠0))∨(¬(put∨e.kind=3)∧e.level≠0)∨(e.order=true∧e.kind≠1∧e.kind≠3) then 3
 else 0
def lastIx:List Sty→ByteArray→Nat→Option Nat
 | [],_,_=>none
 | s :: r,n,i=>match lastIx r n (i+1) with
  | some k=>some k
  | none=>if s.lot.remain=n then some i else none
def lotOf (l:List Sty) (n:ByteArray):Option Lot:=(lastIx l n 0).bind fun i=>(l[i]?).map (·.lot)
def lying (site:ByteArray) (lo hi:Int) (s:Sty):Bool:=decide (s.til<0) && (decide (s.lot.state=1) && (decide (s.lot.site=site) && (decide (lo≤s.lot.level) && decide (s.lot.level≤hi))))
def occB (l:List Sty) (site:ByteArray) (lo hi:Int):Bool:=l.any (lying site lo hi)
def covB (l:List Sty) (s:Site) (level:Int):Bool:=decide (s.kind=0) && occB l s.name (level+1) 12
def placeE (y:Yd) (l:List Sty) (site:ByteArray) (level cont:Int):Int :=
 match siteOf y.sites site with
 | none=>6
 | some s=>if s.room≤level then 2 else if takesB y s level cont=false then 15 else if occB l site level level then 16 else if covB l s level then 18 else 0
def overS (y:Yd) (t:Lot):Int:=match siteOf y.sites t.site with
 | some s=>t.since+restOf y.rests s.soil t.cont
 | none=>0
def openE (y:Yd) (l:List Sty) (t:Lot) (day:Int) (order:Bool):Int:=match siteOf y.sites t.site with
 | some s=>if covB l s t.level then 18 else if day<overS y t∧order=false then 17 else 0
 | none=>0
def lot0:Lot:=⟨⟨#[]⟩,0,⟨#[]⟩,0,0,0⟩
def bkErr (y:Yd) (b:Bk) (e:Ev):Lot × Int :=
 if eventE e≠0 then (lot0,eventE e)
 else if e.day<b.day then (lot0,9)
 else if e.kind=0∨e.kind=2 then
  match lotOf b.stays e.remain with
  | some old=>if e.kind=0 then (lot0,5) else if old.state≠0 then (lot0,28) else putS y b e
  | none=>if e.kind=2 then (lot0,6) else putS y b e
 else match lotOf b.stays e.remain with
  | none=>(lot0,6)
  | some old=>if old.state≠1 then (lot0,28) else
   if e.kind=1 then (⟨e.remain,0,⟨#[]⟩,0,0,e.day⟩,openE y b.stays old e.day e.order)
   else if e.kind=4 then (⟨e.remain,2,⟨#[]⟩,0,0,e.day⟩,openE y b.stays old e.day e.order)
   else if kindOf y old.site≠0 then (lot0,15)
   else if old.level≤e.level then (lot0,2)
   else if occB b.stays old.site e.level (old.level-1) then (lot0,16)
   else (⟨e.remain,1,old.site,e.level,old.cont,e.day⟩,openE y b.stays old e.day e.order)
where
 kindOf (y:Yd) (n:ByteArray):Int:=match siteOf y.sites n with
  | some s=>s.kind
  | none=>0
 putS (y:Yd) (b:Bk) (e:Ev):Lot × Int:=if placeE y b.stays e.site e.level e.cont≠0 then (lot0,placeE y b.stays e.site e.level e.cont) else (⟨e.remain,if kindOf y e.site=3 then 3 else 1,e.site,e.level,e.cont,e.day⟩,0)
def endS (l:List Sty) (n:ByteArray) (day:Int):List Sty:=match lastIx l n 0 with
 | some i=>l.modify i (fun s=>⟨s.lot,day⟩)
 | none=>l
def bkAdd (y:Yd) (b:Bk) (e:Ev):Bk × Int :=
 if (bkErr y b e).2≠0 then (b,(bkErr y b e).2) else (⟨endS b.stays e.remain e.day ++ [⟨(bkErr y b e).1,-1⟩],e.day⟩,0)
def bk0:Bk:=⟨[],0⟩
def bkReads (y:Yd) (b:Bk):List Ev→Bk × Int
 | []=>(b,0)
 | e :: r=>if (bkAdd y b e).2≠0 then bkAdd y b e else bkReads y (bkAdd y b e).1 r
def bkRead (y:Yd) (l:List Ev):Bk × Int:=if yardE y≠0 then (bk0,yardE y) else if 300<l.length then (bk0,8) else bkReads y bk0 l
def grvAdd (y:Yd) (l:List Ev) (x:Ev):List Ev × Int :=
 if (bkRead y l).2≠0 then ([],(bkRead y l).2) else if 300≤l.length then ([],8) else if (bkAdd y (bkRead y l).1 x).2≠0 then ([],(bkAdd y (bkRead y l).1 x).2) else (l ++ [x],0)
end Cal
end Go.Proofs.YtcnfhnndppollaaDoor
namespace Go.Proofs.YtcnfhnndppollaaDoor
open Go Go.RowKit
def Site.cells (s:Site):List Value:=[.string s.name,.int .i64 s.kind,.int .i64 s.soil,.int .i64 s.depth,.int .i64 s.step,.int .i64 s.room]
def Rst.cells (r:Rst):List Value:=[.int .i64 r.soil,.int .i64 r.cont,.int .i64 r.days]
def Lot.cells (t:Lot):List Value:=[.string t.remain,.int .i64 t.state,.string t.site,.int .i64 t.level,.int .i64 t.cont,.int .i64 t.since]
def Sty.cells (s:Sty):List Value:=[.string s.lot.remain,.int .i64 s.lot.state,.string s.lot.site,.int .i64 s.lot.level,.int .i64 s.lot.cont,.int .i64 s.lot.since,.int .i64 s.til]
def Ev.cells (e:Ev):List Value:=[.int .i64 e.day,.int .i64 e.kind,.string e.site,.int .i64 e.level,.string e.remain,.int .i64 e.cont,.bool e.order]
structure YdIn (w:World) (S R:Option Addr) (y:Yd):Prop where
 sites:RowsAt w S 6 (y.sites.map Site.cells)
 rests:RowsAt w R 3 (y.rests.map Rst.cells)
 slen:y.sites.length≤1000000
 rlen:y.rests.length≤1000000
 nm:∀ s∈y.sites,s.name.size≤maxLen
theorem YdIn.below {w w':World} {S R:Option Addr} {y:Yd} (h:YdIn w S R y) (hb:Below w.heap.size w w'):YdIn w' S R y:=⟨h.sites.below hb,h.rests.below hb,h.slen,h.rlen,h.nm⟩
theorem site_at {w:World} {S:Option Addr} {l:List Site} (h:RowsAt w S 6 (l.map Site.cells)) {k:Nat} {s:Site} (hk:l[k]?=some s) :
  ∃ b o,S=some ⟨b,o,none⟩∧b<w.heap.size∧w.rangeAt b (o+k*6) s.cells:=by
 obtain⟨b,o,hA,hb,hc⟩:=h k s.cells (by rw[List.getElem?_map,hk];rfl)
 exact⟨b,o,hA,hb,fun j v hv=>by have:=hc j v hv;rwa [←Nat.add_assoc] at this⟩
theorem rest_at {w:World} {R:Option Addr} {l:List Rst} (h:RowsAt w R 3 (l.map Rst.cells)) {k:Nat} {r:Rst} (hk:l[k]?=some r) :
  ∃ b o,R=some ⟨b,o,none⟩∧b<w.heap.size∧w.cell? ⟨b,o+k*3,none⟩=some (.int .i64 r.soil)∧w.cell? ⟨b,o+k*3+1,none⟩=some (.int .i64 r.cont)∧w.cell? ⟨b,o+k*3+2,none⟩=some (.int .i64 r.days):=by
 obtain⟨b,o,hA,hb,hc⟩:=h k r.cells (by rw[List.getElem?_map,hk];rfl)
 refine⟨b,o,hA,hb,?_,?_,?_⟩
 ·exact hc 0 _ rfl
 ·exact hc 1 _ rfl
 exact hc 2 _ rfl
def SiteV (w:World) (v:Value):Option Site→Prop
 | none=>v=.pointer none
 | some s=>∃ b o,v=.pointer (some ⟨b,o,none⟩)∧b<w.heap.size∧w.rangeAt b o s.cells
def SiteP (w:World) (r:Option Site) (e:Ending) (w':World):Prop:=∃ v,e=.returned v∧SiteV w v r∧Below w.heap.size w w'
theorem ydSz:(Tryd.prog.info? 26).map (·.size)=some 5:=by kernel_rfl
theorem vwithin_any (n lo hi:Int) (w:World):Calls Tryd.prog 37 #[.int .i64 n,.int .i64 lo,.int .i64 hi] w fun e w'=>e=.returned (.bool (decide (lo≤n) && decide (n≤hi)))∧w=w':=by
 by_cases h1:lo≤n
 ·by_cases h2:n≤hi
  all_goals
   go_enter Tryd.func37,Tryd.ntmps37
   go_wp2
   go_ret
   exact⟨by simp;omega,rfl⟩
 go_enter Tryd.func37,Tryd.ntmps37
 go_wp2
 go_ret
 exact⟨by simp;omega,rfl⟩
theorem visDay_any (n:Int) (w:World):Calls Tryd.prog 23 #[.int .i64 n] w fun e w'=>e=.returned (.bool (decide (0≤n) && decide (n≤200000)))∧w=w':=by
 go_enter Tryd.func23,Tryd.ntmps23
 go_wp2_with (go_at_call 37;refine (vwithin_any _ _ _ _).mono ?_;rintro e w' ⟨rfl,rfl⟩)
 go_ret
 exact⟨rfl,rfl⟩
theorem visCont_any (n:Int) (w:World):Calls Tryd.prog 22 #[.int .i64 n] w fun e w'=>e=.returned (.bool (decide (0≤n) && decide (n≤2)))∧w=w':=by
 go_enter Tryd.func22,Tryd.ntmps22
 go_wp2_with (go_at_call 37;refine (vwithin_any _ _ _ _).mono ?_;rintro e w' ⟨rfl,rfl⟩)
 go_ret
 exact⟨rfl,rfl⟩
theorem vIsDay_any (n:Int) (w:World):Calls Tryd.prog 69 #[.int .i64 n] w fun e w'=>e=.returned (.bool (decide (0≤n) && decide (n≤200000)))∧w=w':=by
 go_enter Tryd.func69,Tryd.ntmps69
 go_wp2_with (go_at_call 31;refine (Within_any _ _ _ _).mono ?_;rintro e w' ⟨rfl,rfl⟩)
 go_ret
 exact⟨rfl,rfl⟩
theorem vIsCont_any (n:Int) (w:World):Calls Tryd.prog 32 #[.int .i64 n] w fun e w'=>e=.returned (.bool (decide (0≤n) && decide (n≤2)))∧w=w':=by
 go_enter Tryd.func32,Tryd.ntmps32
 go_wp2_with (go_at_call 31;refine (Within_any _ _ _ _).mono ?_;rintro e w' ⟨rfl,rfl⟩)
 go_ret
 exact⟨rfl,rfl⟩
theorem Cal.siteOf_drop {l:List Site} {k:Nat} (h:k<l.length) (n:ByteArray):Cal.siteOf (l.drop k) n=if l[k].name=n then some l[k] else Cal.siteOf (l.drop (k+1)) n:=by
 rw[List.drop_eq_getElem_cons h]
 unfold Cal.siteOf
 rw[List.find?_cons]
 by_cases e:l[k].name=n
 ·rw[if_pos e];simp[e]
 rw[if_neg e];simp[e]
theorem name_yes {a b:ByteArray} (h:a=b):(a.toList == b.toList)=true:=by subst h;simp
theorem name_no {a b:ByteArray} (h:¬a=b):(a.toList == b.toList)=false:=by
 rw[ByteArray.toList_eq,ByteArray.toList_eq,beq_eq_false_iff_ne]
 intro e
 apply h
 cases a;cases b
 simp at e
 rw[e]
theorem siteOf_gen (S:Option Addr) (c:Nat) (l:List Site) (N:Nat) (rv:Value) (x0 x1 x2:Int) (n:ByteArray) (w:World) (hS:RowsAt w S 6 (l.map Site.cells)) (hl:l.length≤1000000) (hN:N=l.length) (hrv:rv.oneCell'=true) :
  Calls Tryd.prog 55 #[.agg #[.slice S N c,rv,.int .i64 x0,.int .i64 x1,.int .i64 x2],.string n] w (SiteP w (Cal.siteOf l n)):=by
 subst hN
 have hS:=Lib.hid hS
 have hb0:=below_alloc w (.cells #[.slice S l.length c,rv,.int .i64 x0,.int .i64 x1,.int .i64 x2] 26)
 have c0:=(BoxAt.new w #[.slice S l.length c,rv,.int .i64 x0,.int .i64 x1,.int .i64 x2] 26).c 0 _ rfl
 go_enter Tryd.func55,Tryd.ntmps55
 go_wp2
 obtain⟨w1,hw1⟩:∃ w1,w.alloc (.cells #[.slice S l.length c,rv,.int .i64 x0,.int .i64 x1,.int .i64 x2] 26)=w1:=⟨_,rfl⟩
 rw[hw1] at hb0 c0 ⊢
 replace hb0:=Lib.hid hb0
 clear hw1
 go_loopw [5,9] (fun _ i wr=>∃ k:Nat,k≤l.length∧i=.int .i64 k∧wr=w1∧Hid (Cal.siteOf l n=Cal.siteOf (l.drop k) n)) (fun _ i _=>l.length-(intOf i).toNat)
 case atStart=>exact⟨0,Nat.zero_le _,rfl,rfl,rfl⟩
 case round =>
  obtain⟨k,hk,rfl,rfl,hE⟩:=hrel
  by_cases hlt:k<l.length
  ·have hd:=Cal.siteOf_drop hlt n
   have hk':l[k]?=some l[k]:=List.getElem?_eq_getElem hlt
   obtain⟨b,o,rfl,hbl,hrg⟩:=site_at hS.out hk'
   have n0:wr.cell? ⟨b,o+k*6,none⟩=some (.string l[k].name):=(World.cell?_of_block (a:=⟨b,o+k*6,none⟩) (hb0.out.block b hbl)).trans (hrg 0 _ rfl)
   have hrg:=Lib.hid hrg
   clear hk'
   generalize l[k]=s at *
   by_cases he:s.name=n
   ·have hq:=name_yes he
    rw[if_pos he] at hd
    have hfin:Hid (Cal.siteOf l n=some s):=hE.out.trans hd
    clear hd hE he
    go_wp2
    go_ret
    rw[hfin.out]
    exact⟨_,rfl,⟨b,o+k*6,rfl,hbl,hrg.out⟩,hb0.out⟩
   have hq:=name_no he
   rw[if_neg he] at hd
   have hE2:Hid (Cal.siteOf l n=Cal.siteOf (l.drop (k+1)) n):=hE.out.trans hd
   clear hd hE he
   go_wp2
   go_roundw
   case rel=>exact⟨k+1,by omega,by go_num,trivial,hE2⟩
   case measure=>simp[intOf];omega
  obtain rfl:k=l.length:=by omega
  have hfin:Hid (Cal.siteOf l n=none):=by show _=_;rw[hE.out,List.drop_length];rfl
  clear hE
  go_wp2
  go_ret
  rw[hfin.out]
  exact⟨_,rfl,rfl,hb0.out⟩
theorem siteOf_any (S R:Option Addr) (c d:Nat) (y:Yd) (n:ByteArray) (w:World) (hS:RowsAt w S 6 (y.sites.map Site.cells)) (hl:y.sites.length≤1000000) :
  Calls Tryd.prog 55 #[.agg #[.slice S y.sites.length c,.slice R y.rests.length d,.int .i64 y.c0,.int .i64 y.c1,.int .i64 y.c2],.string n] w (SiteP w (Cal.siteOf y.sites n)):=siteOf_gen S c y.sites _ _ _ _ _ n w hS hl rfl rfl
end Go.Proofs.YtcnfhnndppollaaDoor
namespace Go.Proofs.YtcnfhnndppollaaDoor
open Go Go.RowKit Go.Shelf
attribute [local go_sem] Oper.semAt_some
def Chk (n:Nat):Type:={q:Nat × Nat // q.1+q.2≤n∧0<q.2}
def Chk.enc {n:Nat} (O:Option Addr) (q:Chk n):Value:=.slice (O.map (·.add (q.1.1*1))) q.1.2 q.1.2
end Go.Proofs.YtcnfhnndppollaaDoor
namespace Go.Proofs.YtcnfhnndppollaaDoor
open Go Go.RowKit
structure NumsAt (w:World) (b o:Nat) (zs:List Int):Prop where
 c:∀ (k:Nat) z,zs[k]?=some z→w.cell? ⟨b,o+k,none⟩=some (.int .i64 z)
 lt:b<w.heap.size
 le:zs.length≤1000000
end Go.Proofs.YtcnfhnndppollaaDoor
namespace Go.Proofs.YtcnfhnndppollaaDoor
open Go Go.RowKit
theorem NumsAt.d {w:World} {b o:Nat} {zs:List Int} (h:NumsAt w b o zs) {k:Nat} (hk:k<zs.length):w.cell? ⟨b,o+k,none⟩=some (.int .i64 (zs.getD k 0)):=h.c k _ (by rw[List.getD_eq_getElem?_getD,List.getElem?_eq_getElem hk];rfl)
end Go.Proofs.YtcnfhnndppollaaDoor
namespace Go.Proofs.YtcnfhnndppollaaDoor
open Go Go.RowKit Go.Sort
theorem RowsAt.headI {w:World} {A:Option Addr} {m:Nat} {rows:List (List Value)} (h:RowsAt w A m rows) (k:Nat):RowsAt w A m (rows.take k):=fun j r hr=>by
 refine h j r ?_
 rw[List.getElem?_take] at hr
 split at hr
 ·exact hr
 cases hr
end Go.Proofs.YtcnfhnndppollaaDoor
namespace Go.Proofs.YtcnfhnndppollaaDoor
open Go Go.RowKit
section
variable {F : Fence} {n : Nat} {P : Program} {ops : Array Oper} {Q : Exit → Act → World → Prop} {md : Region.Mode} {S : World → Prop}
theorem tkF {ops:Array Oper} {Q:Exit→Act→World→Prop} (i:Nat) {oi:Oper} {fuel:Nat} {listed:Array Bool} {a:Act} {w:World}
  (h:wpAnyH P md ops Q S fuel (listed.setIfInBounds i true) (a.put oi.dst undef) w)
  (hi:ops[i]?=some oi:=by exact rfl) (hs:Region.noSelect ops=true:=by kernel_rfl) (hf:Region.free md ops listed i=true:=by decide +kernel) (hr:(Region.ready md ops listed).contains i=true:=by decide +kernel)
  (hQ:∀ c a w,Q (.panic c) (a.put oi.dst undef) w→Q (.panic c) a w:=by exact fun _ _ _ h=>h) (hw:Region.wanted oi (yielded ops a.tmps)=false:=by kernel_rfl) (hS:S w:=by assumption):wpAnyH P md ops Q S (fuel+1) listed a w :=
 wpAnyH_take hi hs hf hr hQ (Or.inr ⟨hw,rfl⟩) hS h
end
def Cs (L:List (Nat × Nat × Value)) (W:World):Prop:=∀ x∈L,W.cell? ⟨x.1,x.2.1,none⟩=some x.2.2
structure Sx (w:World) (L:List (Nat × Nat × Value)) (W:World):Prop where
 cs:Cs L W
 bel:Below w.heap.size w W
theorem Cs.below {L:List (Nat × Nat × Value)} {W W':World} (h:Cs L W) (hb:Below W.heap.size W W'):Cs L W':=fun x hx =>
 (hb.cell (p:=⟨x.1,x.2.1,none⟩) (World.block_lt_of_cell? W _ (h x hx))).trans (h x hx)
theorem Sx.step {w:World} {L:List (Nat × Nat × Value)} {W W':World} (h:Sx w L W) (hb:Below W.heap.size W W'):Sx w L W':=⟨h.cs.below hb,h.bel.trans (hb.mono h.bel.size)⟩
theorem Sx.drew {w:World} {L:List (Nat × Nat × Value)} {W:World} (h:Sx w L W):Sx w L W.drew:=⟨h.cs,h.bel.drew⟩
theorem Sx.alloc {w:World} {L:List (Nat × Nat × Value)} {W:World} (h:Sx w L W) (o:Obj):Sx w L (W.alloc o) :=
 h.step ((Below.refl _ W).alloc (Nat.le_refl _) o)
theorem cs_nil (W:World):Cs [] W:=fun _ h=>by cases h
theorem cs_cons {x:Nat × Nat × Value} {L:List (Nat × Nat × Value)} {W:World} (h:W.cell? ⟨x.1,x.2.1,none⟩=some x.2.2) (hs:Cs L W):Cs (x :: L) W:=fun y hy=>by
 rcases List.mem_cons.1 hy with rfl | hy
 ·exact h
 exact hs y hy
theorem cs_iff_cons {b o:Nat} {v:Value} {L:List (Nat × Nat × Value)} {W:World}:Cs ((b,o,v) :: L) W↔W.cell? ⟨b,o,none⟩=some v∧Cs L W :=
 ⟨fun h=>⟨h _ (List.mem_cons_self ..),fun y hy=>h y (List.mem_cons_of_mem _ hy)⟩,fun h=>cs_cons h.1 h.2⟩
end Go.Proofs.YtcnfhnndppollaaDoor
namespace Go.Proofs.YtcnfhnndppollaaDoor
open Go Go.RowKit
section
variable {F : Fence} {n : Nat} {P : Program} {ops : Array Oper} {Q : Exit → Act → World → Prop} {md : Region.Mode} {S : World → Prop}
theorem tkF2 (i:Nat) (d:Nat) {oi:Oper} {fuel:Nat} {listed:Array Bool} {a:Act} {w:World}
  (h:wpAnyH P md ops Q S fuel (listed.setIfInBounds i true) (a.put (some d) undef) w)
  (hi:ops[i]?=some oi:=by exact rfl) (hdd:oi.dst=some d:=by kernel_rfl) (hs:Region.noSelect ops=true:=by kernel_rfl) (hf:Region.free md ops listed i=true:=by decide +kernel) (hr:(Region.ready md ops listed).contains i=true:=by decide +kernel)
  (hQ:∀ c a w,Q (.panic c) (a.put oi.dst undef) w→Q (.panic c) a w:=by exact fun _ _ _ h=>h) (hw:Region.wanted oi (yielded ops a.tmps)=false:=by kernel_rfl) (hS:S w:=by assumption):wpAnyH P md ops Q S (fuel+1) listed a w :=
 tkF i (by rw[hdd];exact h) hi hs hf hr hQ hw hS
theorem tkH2 (i:Nat) (d:Nat) {oi:Oper} {v:Value} {fuel:Nat} {listed:Array Bool} {a:Act} {w:World}
  (hy:∀ w,S w→(execOp a.eval oi).run P w=.ok (.value v) w) (h:wpAnyH P md ops Q S fuel (listed.setIfInBounds i true) (a.put (some d) v) w)
  (hi:ops[i]?=some oi:=by exact rfl) (hdd:oi.dst=some d:=by kernel_rfl) (hs:Region.noSelect ops=true:=by kernel_rfl) (hf:Region.free md ops listed i=true:=by decide +kernel) (hr:(Region.ready md ops listed).contains i=true:=by decide +kernel)
  (hQ:∀ c a w,Q (.panic c) (a.put oi.dst v) w→Q (.panic c) a w:=by exact fun _ _ _ h=>h) (hw:Region.wanted oi (yielded ops a.tmps)=true:=by kernel_rfl) (hS:S w:=by assumption):wpAnyH P md ops Q S (fuel+1) listed a w :=
 wpAnyH_take hi hs hf hr hQ (Or.inl ⟨hw,hy⟩) hS (by rw[hdd];exact h)
theorem tkHx (i:Nat) (d:Nat) {oi:Oper} {v:Value} {fuel:Nat} {listed l':Array Bool} {a a':Act} {w:World}
  (h:wpAnyH P md ops Q S fuel l' a' w) (hi:ops[i]?=some oi:=by exact rfl)
  (hy:∀ w,S w→(execOp a.eval oi).run P w=.ok (.value v) w:=by (intro w' hSw;replace hSw:=hSw.cs;(try simp only[cs_iff_cons] at hSw);go_simp;(try with_reducible rfl)))
  (ha:a.put (some d) v=a':=by ((try simp only[Act.put,List.setIfInBounds_toArray,List.set_cons_zero,List.set_cons_succ]);exact rfl))
  (hl:listed.setIfInBounds i true=l':=by ((try simp only[List.setIfInBounds_toArray,List.set_cons_zero,List.set_cons_succ]);exact rfl))
  (hdd:oi.dst=some d:=by kernel_rfl) (hs:Region.noSelect ops=true:=by kernel_rfl) (hf:Region.free md ops listed i=true:=by decide +kernel) (hr:(Region.ready md ops listed).contains i=true:=by decide +kernel)
  (hQ:∀ c a w,Q (.panic c) (a.put oi.dst v) w→Q (.panic c) a w:=by exact fun _ _ _ h=>h) (hw:Region.wanted oi (yielded ops a.tmps)=true:=by kernel_rfl) (hS:S w:=by assumption):wpAnyH P md ops Q S (fuel+1) listed a w :=
 tkH2 i d hy (by rw[ha,hl];exact h) hi hdd hs hf hr hQ hw hS
theorem tkFx (i:Nat) (d:Nat) {oi:Oper} {fuel:Nat} {listed l':Array Bool} {a a':Act} {w:World}
  (h:wpAnyH P md ops Q S fuel l' a' w) (hi:ops[i]?=some oi:=by exact rfl)
  (ha:a.put (some d) undef=a':=by ((try simp only[Act.put,List.setIfInBounds_toArray,List.set_cons_zero,List.set_cons_succ]);exact rfl))
  (hl:listed.setIfInBounds i true=l':=by ((try simp only[List.setIfInBounds_toArray,List.set_cons_zero,List.set_cons_succ]);exact rfl))
  (hdd:oi.dst=some d:=by kernel_rfl) (hs:Region.noSelect ops=true:=by kernel_rfl) (hf:Region.free md ops listed i=true:=by decide +kernel) (hr:(Region.ready md ops listed).contains i=true:=by decide +kernel)
  (hQ:∀ c a w,Q (.panic c) (a.put oi.dst undef) w→Q (.panic c) a w:=by exact fun _ _ _ h=>h) (hw:Region.wanted oi (yielded ops a.tmps)=false:=by kernel_rfl) (hS:S w:=by assumption):wpAnyH P md ops Q S (fuel+1) listed a w :=
 tkF2 i d (by rw[ha,hl];exact h) hi hdd hs hf hr hQ hw hS
end
end Go.Proofs.YtcnfhnndppollaaDoor
