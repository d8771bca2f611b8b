/- What the statements rest on: definitions and walks, part 07. -/
import Derived.Test.YthfokpchdlcidaaGreatJ06
import Derived.Deep.CutRange
import Derived.RangeFuncOwn
import Derived.Deep.Slices
import Derived.Deep.Fields
import Derived.WideKeyArgs
import Derived.ChangeSlices
import Derived.Lib.SmallJoins
import Derived.Deep.DeepHandedRow
import Derived.OpenShut
set_option maxRecDepth 100000
set_option maxHeartbeats 16000000
set_option linter.unusedSimpArgs false
set_option linter.unusedVariables false
namespace Go.Proofs.YthfokpchdlcidaaGreat
open Go Go.RowKit Go.ChangeShapes Go.WideShapes Go.Deep
theorem own:ownKnob Tryz.prog.godebug=none:=by kernel_rfl
theorem laidOut:laidOutB Tryz.prog=true:=by kernel_rfl
theorem list_of {α:Type} {Q:Nat→α→Prop}:∀ n:Nat,(∀ i,i<n→∃ p,Q i p)→∃ l:List α,l.length=n∧∀ (i:Nat) p,l[i]?=some p→Q i p
 | 0,_=>⟨[],rfl,fun i p h=>by simp at h⟩
 | n+1,h=>by
  obtain⟨l,hl,hq⟩:=list_of n (fun i hi=>h i (by omega))
  obtain⟨p,hp⟩:=h n (by omega)
  refine⟨l ++ [p],by simp[hl],fun i q hi=>?_⟩
  rw[List.getElem?_append] at hi
  split at hi
  ·exact hq i q hi
  have:i=n:=by
   have:=(List.getElem?_eq_some_iff.1 hi).1
   simp at this;omega
  subst this
  rw[hl] at hi;simp at hi;subst hi;exact hp
theorem addr_plain {w:World} {a:Addr} {k:Nat} {v:Value} (h:w.cell? (a.add k)=some v) (h0:∃ u,w.cell? (a.add 0)=some u):a=⟨a.block,a.off,none⟩:=by
 obtain⟨u,h0⟩:=h0
 have:=World.cell?_spot (show w.cell? a=some u by simpa [Addr.add] using h0)
 cases a;simp at this;subst this;rfl
section
variable {H : Type} {enc : TypeId × Value → H} {w : World} {spare : Nat → Bool} {held : Bool}
theorem rows_of_open {t e:TypeId} {fs:Array Field} {fuel:Nat} {cs:List Value} {x:DataW H × List MemPlace} (ht:Tryz.prog.underlying t=some (.slice e)) (he:Tryz.prog.underlying e=some (.struct fs))
  (hone:oneCellFields Tryz.prog fs=true) (hC:Tryz.prog.cellsOf e=fs.size) (hpos:0<fs.size) (h:DataW.trod enc Tryz.prog w 0 spare held fuel t cs=some x) :
  ∃ (A:Option Addr) (len cap:Nat),cs=[.slice A len cap]∧len≤cap∧∀ i,i<len→∃ (b o n:Nat),A=some ⟨b,o,none⟩∧b<w.heap.size ∧
   ∀ (j:Nat) (f:Field),fs[j]?=some f→∃ (v:Value) (y:DataW H × List MemPlace),w.cell? ⟨b,o+(i*fs.size+j),none⟩=some v∧DataW.trod enc Tryz.prog w 0 spare held n f.type [v]=some y:=by
 rcases open_slice ht h with ⟨h0,_⟩ | ⟨a,len,cap,m,n,D,Pl,hcs,hb,hl,hm,hmm,hx,hi⟩
 ·exact⟨none,0,0,h0,Nat.le_refl _,fun i hi=>by omega⟩
 refine⟨some a,len,cap,hcs,hl,fun i him=>?_⟩
 have hlm:len≤m:=by rw[hmm];split <;> omega
 obtain⟨cs',hc,ht'⟩:=hi i (by omega)
 obtain⟨cs0,hc0,_⟩:=hi 0 (by omega)
 rw[hC] at hc hc0
 obtain⟨ys,n',hn',hy,hlen,hyl,hf⟩:=DataW.trod_struct he ht'
 obtain⟨hcl0,hcl1,hat⟩:=World.cells?_some hc
 obtain⟨_,hcl01,hat0⟩:=World.cells?_some hc0
 have hz:∃ u,w.cell? (a.add 0)=some u:=by
  have h1:=hat0 0 hpos
  have hlen0:0<cs0.length:=by omega
  rw[List.getElem?_eq_getElem hlen0] at h1
  exact⟨_,by simpa [Addr.add] using h1⟩
 have ha:a=⟨a.block,a.off,none⟩:=by obtain⟨u,hu⟩:=hz;exact addr_plain hu ⟨u,hu⟩
 refine⟨a.block,a.off,n',by rw[←ha],?_,fun j f hj=>?_⟩
 ·obtain⟨u,hu⟩:=hz
  obtain⟨o,ho,_⟩:=cells_of_cell hu
  have:=(Array.getElem?_eq_some_iff.1 ho).1
  simpa [Addr.add] using this
 obtain⟨ho,hk⟩:=hone_of hone j f hj
 have hjl:j<fs.size:=(Array.getElem?_eq_some_iff.1 hj).1
 have hcell:=hat j hjl
 have hlt:j<cs'.length:=by omega
 have hv:cs'[j]?=some cs'[j]:=List.getElem?_eq_getElem hlt
 have h1:=hf j f hj
 rw[ho,hk] at h1
 have hone':(cs'.drop j).take 1=[cs'[j]]:=by rw[List.drop_eq_getElem_cons hlt];rfl
 rw[hone'] at h1
 refine⟨cs'[j],ys[j]'(by omega),?_,h1.trans (List.getElem?_eq_getElem (by omega))⟩
 rw[hv,ha] at hcell
 rw[←hcell,Go.Deep.add_add,←Go.WideShapes.add_plain]
end
section
variable {H : Type} {enc : TypeId × Value → H} {w : World} {spare : Nat → Bool} {held : Bool} {r : Reach} {b0 : Nat} {v : Value} {d : DataW H} {ps : List MemPlace}
theorem trod_cells {t:TypeId} {fs:Array Field} {fuel:Nat} {cs:List Value} {x:DataW H × List MemPlace} (ht:Tryz.prog.underlying t=some (.struct fs)) (hone:oneCellFields Tryz.prog fs=true)
  (h:DataW.trod enc Tryz.prog w 0 spare held fuel t cs=some x) :
  ∃ (n:Nat) (xs:List (DataW H × List MemPlace)),cs.length=Tryz.prog.cellsOf t∧xs.length=fs.size∧∀ (j:Nat) (f:Field),fs[j]?=some f→DataW.trod enc Tryz.prog w 0 spare held n f.type ((cs.drop j).take 1)=xs[j]?:=by
 obtain⟨xs,m,_,_,hlen,hxl,hi⟩:=DataW.trod_struct ht h
 refine⟨m,xs,hlen,hxl,fun j f hj=>?_⟩
 obtain⟨ho,hk⟩:=hone_of hone j f hj
 have:=hi j f hj
 rwa [ho,hk] at this
end
section
variable {H : Type} {enc : TypeId × Value → H}
theorem trodAll_stays {W W':World} {sp':Nat→Bool}:∀ {ts:List TypeId} {vs:List Value} {ds:List (DataW H)} {ps:List MemPlace},(∀ t∈ts,Tryz.prog.readableRec t=true∧t<Tryz.prog.types.size) →
  DataW.TrodAll enc Tryz.prog W 0 (fun _=>true) true ts vs ds ps→(∀ p∈ps,W.sameAt W' p)→(∀ p∈ps,sp' p.block=true)→DataW.TrodAll enc Tryz.prog W' 0 sp' true ts vs ds ps
 | [],vs,ds,ps,_,h,_,_=>by
  obtain⟨rfl,rfl,rfl⟩:=trodAll_nil h
  exact rfl
 | t :: ts,vs,ds,ps,ht,h,hs,hp=>by
  obtain⟨v0,vs0,d0,ds0,p0,q0,rfl,rfl,rfl,h0,r0⟩:=trodAll_cons h
  have h1:=ht t (List.mem_cons_self ..)
  exact⟨p0,q0,WideElems.Trod_stays laidOut h1.1 h1.2 h0 (fun p hm=>hs p (List.mem_append_left _ hm)) (fun p hm=>hp p (List.mem_append_left _ hm)),
   trodAll_stays (fun t hm=>ht t (List.mem_cons_of_mem _ hm)) r0 (fun p hm=>hs p (List.mem_append_right _ hm)) (fun p hm=>hp p (List.mem_append_right _ hm)),rfl⟩
theorem post_true {f:Func} {s:ChangeSpec} {W W':World} {args:Array Value} {ds gs:List (DataW H)} {before:List MemPlace} (hvars:s.vars=[]) (hres:f.resultTypes=#[4])
  (hpar:∀ t∈f.params.toList,Tryz.prog.readableRec t=true∧t<Tryz.prog.types.size)
  (hW:DataW.Whole enc Tryz.prog f.params.toList s.vars false W args.toList ds gs before) (hs:s.fn H (ds ++ gs)={ results:=[.lit (.bool true)],args:=ds }) (hb:Below W.heap.size W W') :
  s.post enc Tryz.prog f false true false false W args (.bool true) W':=by
 have hW':=hW
 have hlt:∀ p∈before,p.block<W.heap.size:=fun p hp=>hW'.lt p hp
 obtain⟨p,q,hA,hV,rfl,hfz,hnd⟩:=hW
 rw[hvars] at hV
 obtain⟨rfl,rfl⟩:=trodVars_none hV
 simp only[List.append_nil] at hs hW' hlt
 refine post_of_below (pa:=p) (pv:=[]) (ds:=ds) (gs:=[]) (before:=p) hW' ?_ ?_ ?_ (by simp) hb ?_
 ·intro b sp hd
  rw[List.append_nil,hs,hres]
  exact trodAll_cons_mk (shut_bool Tryz.underlying4 _) trodAll_mk0
 ·intro sp hsp
  rw[List.append_nil,hs]
  exact trodAll_stays hpar hA (fun x hx=>hb.same (hlt x hx)) hsp
 ·intro sp _
  rw[hvars,List.append_nil,hs]
  rfl
 exact ok_one hres rfl (okWide_bool_mk Tryz.underlying4 _)
end
end Go.Proofs.YthfokpchdlcidaaGreat
namespace Go.Proofs.YthfokpchdlcidaaGreat
open Go Go.RowKit Go.Shelf
structure SmV (p:Pt):Prop where
 x0:-100000≤p.x
 x1:p.x≤100000
 y0:-100000≤p.y
 y1:p.y≤100000
theorem SmV.sm {p:Pt} (h:SmV p):SmP p:=by obtain⟨h0,h1,h2,h3⟩:=h;constructor <;> omega
theorem ptErr_smV {p:Pt} (h:Cal.ptErr p=0):SmV p:=by
 unfold Cal.ptErr at h
 split at h
 ·cases h
 constructor <;> omega
structure PtsV (w:World) (V:Option Addr) (ps:List Pt):Prop where
 rows:RowsAt w V 2 (ps.map ptR)
 size:ps.length≤1000000
 sm:∀ p∈ps,SmV p
 own:∀ ad,V=some ad→0<ps.length→ad.block<w.heap.size
theorem PtsV.below {w w':World} {V:Option Addr} {ps:List Pt} (h:PtsV w V ps) (hb:Below w.heap.size w w'):PtsV w' V ps :=
 ⟨h.rows.below hb,h.size,h.sm,fun ad e hl=>Nat.lt_of_lt_of_le (h.own ad e hl) hb.size⟩
theorem PtsV.pts {w:World} {V:Option Addr} {ps:List Pt} (h:PtsV w V ps):Pts w V ps:=⟨h.rows,h.size,fun p hp=>(h.sm p hp).sm,h.own⟩
theorem polyE_zero {ps:List Pt} (h:Cal.polyE ps=0):3≤ps.length∧ps.length≤40∧Cal.ptsErr ps=0∧Cal.twiceP [] ps=false∧Cal.simpleP ps=true∧0≤Cal.areaP ps:=by
 unfold Cal.polyE at h
 split at h
 ·omega
 rename_i h1
 split at h
 ·rename_i h2
  split at h
  ·omega
  rename_i h3
  split at h
  ·rename_i h4
   split at h
   ·omega
   exact⟨by omega,by omega,h2,by simpa using h3,h4,by omega⟩
  omega
 rename_i h2;exact absurd h h2
theorem PtsR.ptsV {w:World} {V:Option Addr} {ps:List Pt} (h:PtsR w V ps) (h0:Cal.polyE ps=0):PtsV w V ps :=
 ⟨h.rows,h.size,fun p hp=>ptErr_smV (ptsErr_zero (polyE_zero h0).2.2.1 p hp),h.own⟩
theorem mk_points (W:World) (n:Nat) (hn:n≤1000000):(Instr.makeSlice 22 (.int .i64 (n:Int)) (.int .i64 (n:Int))).run Tryz.prog W=.ok (.slice (some ⟨W.heap.size,0,none⟩) n n) (W.alloc (.cells (madeCells #[.int .i64 0,.int .i64 0] (n*2)) 27)):=by
 have hq:(Tryz.prog.info? 27).map (fun i=>(i.zero,i.size,decide (i.bytes≤1000)))=some (some (.agg #[.int .i64 0,.int .i64 0]),2,true):=by kernel_rfl
 obtain⟨i,hi,hz,hs,hby⟩:∃ i,Tryz.prog.info? 27=some i∧i.zero=some (.agg #[.int .i64 0,.int .i64 0])∧i.size=2∧i.bytes≤1000:=by
  cases hi:Tryz.prog.info? 27 with
  | none=>rw[hi] at hq;cases hq
  | some i =>
   rw[hi,Option.map_some,Option.some.injEq,Prod.mk.injEq,Prod.mk.injEq,decide_eq_true_iff] at hq
   exact⟨i,rfl,hq.1,hq.2.1,hq.2.2⟩
 have h:=run_makeSlice (P:=Tryz.prog) W 22 27 i (.agg #[.int .i64 0,.int .i64 0]) Tryz.underlying22 hi hz .i64 .i64 n n (by omega) (Int.le_refl _) (by rw[hs];omega) (by
  have:((i.bytes:Nat):Int)*(n:Int)≤1000*1000000:=Int.mul_le_mul (by omega) (by omega) (by omega) (by omega)
  omega) (by omega)
 rw[Int.toNat_natCast,hs] at h
 exact h
def DbF (ps:List Pt) (k:Nat) (cs:List Value):Prop:=cs.length=ps.length*2∧∀ (i:Nat) (q:Pt),i<k→ps[i]?=some q→cs[i*2]?=some (.int .i64 (2*q.x))∧cs[i*2+1]?=some (.int .i64 (2*q.y))
theorem DbF.step {ps:List Pt} {k:Nat} {cs:List Value} (h:DbF ps k cs) {q:Pt} (hk:ps[k]?=some q):DbF ps (k+1) ((cs.set (k*2) (.int .i64 (2*q.x))).set (k*2+1) (.int .i64 (2*q.y))):=by
 obtain⟨h1,h2⟩:=h
 have hlt:k<ps.length:=(List.getElem?_eq_some_iff.1 hk).1
 refine⟨by simp[h1],fun i r hi hr=>?_⟩
 by_cases e:i=k
 ·subst e
  rw[hk] at hr
  cases hr
  constructor
  ·rw[List.getElem?_set_ne (by omega),List.getElem?_set_self (by rw[h1];omega)]
  rw[List.getElem?_set_self (by rw[List.length_set,h1];omega)]
 rw[List.getElem?_set_ne (by omega),List.getElem?_set_ne (by omega),List.getElem?_set_ne (by omega),List.getElem?_set_ne (by omega)]
 exact h2 i r (by omega) hr
theorem DbF.pts {w:World} {M:Nat} {ps:List Pt} {cs:List Value} (h:DbF ps ps.length cs) (hb:BoxAt w M cs) (hsz:ps.length≤1000000) (hsm:∀ p∈ps,SmV p):Pts w (some ⟨M,0,none⟩) (Cal.dblP ps):=by
 refine⟨fun j r hr=>?_,by unfold Cal.dblP;rw[List.length_map];exact hsz,fun p hp=>?_,fun ad e _=>by cases e;exact hb.lt⟩
 ·unfold Cal.dblP at hr
  rw[List.map_map,List.getElem?_map] at hr
  cases hq:ps[j]? with
  | none=>rw[hq] at hr;cases hr
  | some q =>
   rw[hq] at hr
   cases hr
   have hj:j<ps.length:=(List.getElem?_eq_some_iff.1 hq).1
   obtain⟨c0,c1⟩:=h.2 j q hj hq
   refine⟨M,0,rfl,hb.lt,fun i v hv=>?_⟩
   rw[Nat.zero_add]
   match i,hv with
   | 0,hv=>cases hv;exact hb.c _ _ c0
   | 1,hv=>cases hv;exact hb.c _ _ c1
 unfold Cal.dblP at hp
 obtain⟨q,hq,rfl⟩:=List.mem_map.1 hp
 obtain⟨a0,a1,a2,a3⟩:=hsm q hq
 constructor <;> (dsimp only;omega)
theorem doubled_any (V:Option Addr) (d:Nat) (ps:List Pt) (w:World) (hP:PtsV w V ps) :
  Calls Tryz.prog 129 #[.slice V ps.length d] w fun e w'=>e=.returned (.slice (some ⟨w.heap.size,0,none⟩) ps.length ps.length)∧Pts w' (some ⟨w.heap.size,0,none⟩) (Cal.dblP ps)∧Below w.heap.size w w':=by
 have hsz:=hP.size
 have hP:=Lib.hid hP
 have hmk:=fun W=>mk_points W ps.length hsz
 have hBx:=BoxAt.new w (madeCells #[.int .i64 0,.int .i64 0] (ps.length*2)) 27
 have hF:Hid (∃ cs,BoxAt (w.alloc (.cells (madeCells #[.int .i64 0,.int .i64 0] (ps.length*2)) 27)) w.heap.size cs∧DbF ps 0 cs):=⟨_,hBx,by rw[Array.length_toList,size_madeCells],fun i q hi=>by omega⟩
 have hB0:Hid (Below w.heap.size w (w.alloc (.cells (madeCells #[.int .i64 0,.int .i64 0] (ps.length*2)) 27))):=below_alloc _ _
 have hl0:Hid (w.heap.size<(w.alloc (.cells (madeCells #[.int .i64 0,.int .i64 0] (ps.length*2)) 27)).heap.size):=by show _<_;simp
 clear hBx
 go_enter Tryz.func129,Tryz.ntmps129
 go_wp2_with fail
 clear hmk
 generalize w.alloc (.cells (madeCells #[.int .i64 0,.int .i64 0] (ps.length*2)) 27)=w1 at *
 go_loopw [11] (fun i wr=>∃ k:Nat,k≤ps.length∧i=.int .i64 k∧Hid (∃ cs,BoxAt wr w.heap.size cs∧DbF ps k cs)∧Hid (Below w.heap.size w wr)) (fun i _=>ps.length-(intOf i).toNat)
 case atStart=>exact⟨0,Nat.zero_le _,rfl,hF,hB0⟩
 case round =>
  clear hF hB0 hl0
  obtain⟨k,hk,rfl,hC,hB⟩:=hrel
  by_cases hlt:k<ps.length
  ·have hk':ps[k]?=some ps[k]:=List.getElem?_eq_getElem hlt
   have hst:=Lib.hid (fun cs (h:DbF ps k cs)=>h.step hk')
   have hsm:=hP.out.sm _ (List.getElem_mem hlt)
   obtain⟨b,o,rfl,hbl,c0,c1⟩:=pts_at (hP.out.below hB.out).rows hk'
   clear hk'
   generalize ps[k]=q at *
   obtain⟨q0,q1,q2,q3⟩:=hsm
   obtain⟨cs,hb,hd⟩:=hC.out
   have hkl:k*2+1<cs.length:=by rw[hd.1];omega
   have f0:=hb.free (k*2) (by omega)
   have f1:=hb.free (k*2+1) (by omega)
   obtain⟨v0,hv0⟩:∃ v,cs[k*2]?=some v:=⟨_,List.getElem?_eq_getElem (by omega)⟩
   obtain⟨v1,hv1⟩:∃ v,cs[k*2+1]?=some v:=⟨_,List.getElem?_eq_getElem (by omega)⟩
   have g0:=hb.c _ _ hv0
   have g1:=hb.c _ _ hv1
   have hMw:=hb.lt
   have hall:=Lib.hid (And.intro hb (And.intro (hst.out cs hd) hB.out))
   clear hb hd hst hC hB hv0 hv1
   have w1:IntKind.i64.wrap (2*q.x)=2*q.x:=wrap_small (by omega) (by omega)
   have w2:IntKind.i64.wrap (2*q.y)=2*q.y:=wrap_small (by omega) (by omega)
   go_wp2_with fail
   go_roundw
   case rel =>
    obtain⟨hb,hd,hB⟩:=hall.out
    refine⟨k+1,by omega,by go_num,⟨_,((hb.set (k*2) (.int .i64 (2*q.x)) (by omega)).set (k*2+1) (.int .i64 (2*q.y)) (by rw[List.length_set];omega)).alloc _,hd⟩,?_⟩
    exact below_step ((hB.setCell (p:=⟨w.heap.size,k*2,none⟩) (Nat.le_refl _) _).setCell (p:=⟨w.heap.size,k*2+1,none⟩) (Nat.le_refl _) _) (below_alloc _ _)
   case measure=>simp[intOf];omega
  obtain rfl:k=ps.length:=by omega
  go_wp2_with fail
  go_ret
  obtain⟨cs,hb,hd⟩:=hC.out
  exact⟨rfl,hd.pts hb hsz hP.out.sm,hB.out⟩
end Go.Proofs.YthfokpchdlcidaaGreat
namespace Go.Proofs.YthfokpchdlcidaaGreat
open Go Go.RowKit Go.Shelf
def ptAt (l:List Pt) (i:Nat):Pt:=l[i]?.getD Cal.pt0
theorem ptAt_get {l:List Pt} {i:Nat} (h:i<l.length):l[i]?=some (ptAt l i):=by unfold ptAt;rw[List.getElem?_eq_getElem h];rfl
def Cal.dst (s:Sd) (p:Pt):Int:=Cal.dotP s.a s.b p
theorem Cal.along_neg {s:Sd} {p q:Pt}:Cal.alongS s p q<0↔Cal.dst s p<Cal.dst s q:=by unfold Cal.alongS Cal.cmpI Cal.dst;split <;> (try split) <;> omega
def InsTo (s:Sd) (l:List Pt) (n j:Nat):Prop:=∀ p q,p<q→q<n→q≠j→Cal.dst s (ptAt l p)≤Cal.dst s (ptAt l q)
def SrtTo (s:Sd) (l:List Pt) (n:Nat):Prop:=∀ p q,p<q→q<n→Cal.dst s (ptAt l p)≤Cal.dst s (ptAt l q)
def swapP (l:List Pt) (j:Nat):List Pt:=(l.set j (ptAt l (j-1))).set (j-1) (ptAt l j)
theorem swapP_perm {l:List Pt} {j:Nat} (h0:0<j) (h:j<l.length):(swapP l j).Perm l:=by
 have e1:ptAt l (j-1)=l[j-1]:=by unfold ptAt;rw[List.getElem?_eq_getElem (by omega)];rfl
 have e2:ptAt l j=l[j]:=by unfold ptAt;rw[List.getElem?_eq_getElem h];rfl
 unfold swapP
 rw[e1,e2]
 exact List.set_set_perm h (by omega)
theorem swapP_at {l:List Pt} {j:Nat} (h0:0<j) (h:j<l.length) (i:Nat):ptAt (swapP l j) i=if i=j then ptAt l (j-1) else if i=j-1 then ptAt l j else ptAt l i:=by
 unfold swapP
 show ((l.set j (ptAt l (j-1))).set (j-1) (ptAt l j))[i]?.getD Cal.pt0=_
 by_cases h1:i=j
 ·subst h1
  rw[if_pos rfl,List.getElem?_set_ne (by omega),List.getElem?_set_self h]
  rfl
 rw[if_neg h1]
 by_cases h2:i=j-1
 ·subst h2
  rw[if_pos rfl,List.getElem?_set_self (by rw[List.length_set];omega)]
  rfl
 rw[if_neg h2,List.getElem?_set_ne (by omega),List.getElem?_set_ne (by omega)]
 rfl
theorem InsTo.start {s:Sd} {l:List Pt} {k:Nat} (h:SrtTo s l k):InsTo s l (k+1) k:=fun p q hpq hq hne=>h p q hpq (by omega)
theorem InsTo.done {s:Sd} {l:List Pt} {n j:Nat} (h:InsTo s l n j) (hj:∀ p,p<j→j<n→Cal.dst s (ptAt l p)≤Cal.dst s (ptAt l j)):SrtTo s l n:=fun p q hpq hq=>by
 by_cases e:q=j
 ·subst e;exact hj p hpq hq
 exact h p q hpq hq e
theorem InsTo.stop {s:Sd} {l:List Pt} {n j:Nat} (h:InsTo s l n j) (h1:¬Cal.dst s (ptAt l j)<Cal.dst s (ptAt l (j-1))):SrtTo s l n:=h.done fun p hp hj=>by
 by_cases e:p=j-1
 ·subst e;omega
 have:=h p (j-1) (by omega) (by omega) (by omega)
 omega
theorem InsTo.swap {s:Sd} {l:List Pt} {n j:Nat} (h:InsTo s l n j) (h0:0<j) (hj:j<n) (hl:n≤l.length) (h1:Cal.dst s (ptAt l j)<Cal.dst s (ptAt l (j-1))):InsTo s (swapP l j) n (j-1):=fun p q hpq hq hne=>by
 rw[swapP_at h0 (by omega),swapP_at h0 (by omega)]
 have k1:=fun a b hab hb hn=>h a b hab hb hn
 by_cases e1:q=j
 ·subst e1
  rw[if_pos rfl,if_neg (by omega)]
  by_cases e2:p=q-1
  ·subst e2;rw[if_pos rfl];omega
  rw[if_neg e2];exact h p (q-1) (by omega) (by omega) (by omega)
 rw[if_neg e1,if_neg hne]
 by_cases e2:p=j
 ·subst e2
  rw[if_pos rfl]
  exact h (p-1) q (by omega) hq e1
 rw[if_neg e2]
 by_cases e3:p=j-1
 ·subst e3
  rw[if_pos rfl]
  exact h j q (by omega) hq e1
 rw[if_neg e3]
 exact h p q hpq hq e1
def AtP (w:World) (M:Nat) (l:List Pt):Prop:=∃ cs:List Value,BoxAt w M cs∧l.length*2≤cs.length∧∀ (i:Nat) (q:Pt),l[i]?=some q→cs[i*2]?=some (.int .i64 q.x)∧cs[i*2+1]?=some (.int .i64 q.y)
section
variable {w : World} {M : Nat} {l : List Pt}
theorem AtP.lt (h:AtP w M l):M<w.heap.size:=by obtain⟨cs,hb,_⟩:=h;exact hb.lt
theorem AtP.below {w':World} (h:AtP w M l) (hb:Below w.heap.size w w'):AtP w' M l:=by
 obtain⟨cs,h0,h1,h2⟩:=h
 exact⟨cs,h0.below hb,h1,h2⟩
theorem AtP.at_ (h:AtP w M l) {i:Nat} (hi:i<l.length):w.cell? ⟨M,i*2,none⟩=some (.int .i64 (ptAt l i).x)∧w.cell? ⟨M,i*2+1,none⟩=some (.int .i64 (ptAt l i).y):=by
 obtain⟨cs,hb,h1,h2⟩:=h
 obtain⟨c0,c1⟩:=h2 i _ (ptAt_get hi)
 exact⟨hb.c _ _ c0,hb.c _ _ c1⟩
theorem AtP.free (h:AtP w M l) {i:Nat} (hi:i<l.length):w.frozen? ⟨M,i*2,none⟩=false∧w.frozen? ⟨M,i*2+1,none⟩=false:=by
 obtain⟨cs,hb,h1,h2⟩:=h
 exact⟨hb.free _ (by omega),hb.free _ (by omega)⟩
theorem AtP.set (h:AtP w M l) {i:Nat} (hi:i<l.length) (q:Pt):AtP ((w.setCell ⟨M,i*2,none⟩ (.int .i64 q.x)).setCell ⟨M,i*2+1,none⟩ (.int .i64 q.y)) M (l.set i q):=by
 obtain⟨cs,hb,h1,h2⟩:=h
 refine⟨_,(hb.set (i*2) (.int .i64 q.x) (by omega)).set (i*2+1) (.int .i64 q.y) (by rw[List.length_set];omega),by simp;omega,fun k r hr=>?_⟩
 by_cases e:k=i
 ·subst e
  rw[List.getElem?_set_self hi] at hr
  cases hr
  constructor
  ·rw[List.getElem?_set_ne (by omega),List.getElem?_set_self (by omega)]
  rw[List.getElem?_set_self (by rw[List.length_set];omega)]
 rw[List.getElem?_set_ne (by omega)] at hr
 rw[List.getElem?_set_ne (by omega),List.getElem?_set_ne (by omega),List.getElem?_set_ne (by omega),List.getElem?_set_ne (by omega)]
 exact h2 k r hr
end
theorem below_grownM {w w':World} {M:Nat} (h:Below w.heap.size w w'):w.grownBy w' (some M):=below_grown h _
theorem sm_at {l:List Pt} (h:∀ p∈l,SmP p) {i:Nat} (hi:i<l.length):SmP (ptAt l i):=by
 unfold ptAt
 rw[List.getElem?_eq_getElem hi]
 exact h _ (List.getElem_mem hi)
theorem insSort_any (s:Sd) (M c:Nat) (l:List Pt) (w:World) (hl:AtP w M l) (hs:SmS s) (hsm:∀ p∈l,SmP p) (hn:l.length≤1000000) :
  Calls Tryz.prog 166 #[.slice (some ⟨M,0,none⟩) l.length c,.int .i64 0,.int .i64 l.length,.func (.func 116) #[.agg #[.int .i64 s.a.x,.int .i64 s.a.y,.int .i64 s.b.x,.int .i64 s.b.y]] #[]] w fun e w' =>
   e=.returned (.tuple #[])∧∃ l',AtP w' M l'∧l'.Perm l∧SrtTo s l' l'.length∧w.grownBy w' (some M):=by
 have hl:=Lib.hid hl
 obtain⟨n,hnn0⟩:∃ n,n=l.length:=⟨_,rfl⟩
 rw[←hnn0] at hn ⊢
 have hnn:=Lib.hid hnn0
 clear hnn0
 have hmo:(Tryz.prog).follows Departure.mixedOrders=true:=by kernel_rfl
 go_enter Tryz.func166,Tryz.ntmps166
 go_wp2_with fail
 go_loopw [8] (fun i wr=>∃ (k:Nat) (cur:List Pt),1≤k∧(k≤n∨k=1)∧i=.int .i64 k∧Hid (cur.Perm l)∧Hid (AtP wr M cur)∧Hid (SrtTo s cur k)∧Hid (w.grownBy wr (some M))) (fun i _=>n-(intOf i).toNat)
 case atStart=>exact⟨1,l,by omega,.inr rfl,rfl,List.Perm.refl _,hl.out,(fun p q hpq hq=>by omega),World.grownBy.refl _ _⟩
 case round =>
  obtain⟨k,cur,hk0,hk1,rfl,hp,hA,hS,hG⟩:=hrel
  have hcl:Hid (cur.length=n):=by show _=_;rw[hp.out.length_eq,hnn.out]
  by_cases hlt:k<n
  ·have hI:=Lib.hid (InsTo.start hS.out)
   clear hS hk1
   go_wp2_with fail
   go_loopw [9] (fun i wr=>∃ (j:Nat) (cur:List Pt),j≤k∧i=.int .i64 j∧Hid (cur.Perm l)∧Hid (AtP wr M cur)∧Hid (InsTo s cur (k+1) j)∧Hid (w.grownBy wr (some M))) (fun i _=>(intOf i).toNat)
   case atStart=>exact⟨k,cur,Nat.le_refl _,rfl,hp,hA,hI,hG⟩
   case round =>
    clear hp hA hI hG hcl
    obtain⟨j,cur,hj,rfl,hp,hA,hI,hG⟩:=hrel
    have hcl:Hid (cur.length=n):=by show _=_;rw[hp.out.length_eq,hnn.out]
    by_cases h0:0<j
    ·have hj1:j<cur.length:=by rw[hcl.out];omega
     have hj2:j-1<cur.length:=by omega
     have hsmc:∀ p∈cur,SmP p:=fun p hp'=>hsm p (hp.out.mem_iff.1 hp')
     have hsj:=sm_at hsmc hj1
     have hsq:=sm_at hsmc hj2
     obtain⟨a0,a1⟩:=hA.out.at_ hj1
     obtain⟨b0,b1⟩:=hA.out.at_ hj2
     have d0:decide ((0:Int)<(j:Int))=true:=decide_eq_true (by omega)
     have d0':(0:Int)<(j:Int):=by omega
     have hw1:IntKind.i64.wrap ((j:Int)-1)=(j:Int)-1:=wrap_small (by omega) (by omega)
     have ht1:((j:Int)-1).toNat=j-1:=by omega
     have ht2:(1:Int)≤(j:Int):=by omega
     have ht3:(j:Int)-1<(n:Int):=by omega
     have ht4:(0:Int)≤(j:Int)-1:=by omega
     have ht5:(j:Int)<(n:Int):=by omega
     have ht6:j<n:=by omega
     have ht7:j-1<n:=by omega
     obtain⟨pj,hpj⟩:∃ p,ptAt cur j=p:=⟨_,rfl⟩
     obtain⟨pq,hpq⟩:∃ p,ptAt cur (j-1)=p:=⟨_,rfl⟩
     rw[hpj] at a0 a1 hsj
     rw[hpq] at b0 b1 hsq
     have hpj:=Lib.hid hpj
     have hpq:=Lib.hid hpq
     (go_wp2_with fail;refine wp_region_held_drew (S:=Sx wr [(M,j*2,.int .i64 pj.x),(M,j*2+1,.int .i64 pj.y),(M,(j-1)*2,.int .i64 pq.x),(M,(j-1)*2+1,.int .i64 pq.y)]) (by kernel_rfl) (Sx.mk (by simp only[cs_iff_cons];exact⟨a0,a1,b0,b1,cs_nil _⟩) (Below.refl _ _)).drew (fun hHeld=>?_))
     by_cases hd:Cal.alongS s pj pq<0
     ·have hdd:=decide_eq_true hd
      refine tkHx 0 18 ?_
      refine tkHx 1 19 ?_
      refine tkHx 2 20 ?_
      refine tkHx 3 21 ?_
      refine tkHx 4 22 ?_
      refine tkHx 5 23 ?_
      refine tkHx 6 24 ?_
      refine tkHx 7 25 ?_
      refine tkHx 8 26 ?_
      refine tkHx 9 27 ?_
      refine tkHx 10 28 ?_
      refine tkHx 11 29 ?_
      refine tkHx 12 30 ?_
      refine tkHx 13 31 ?_
      (refine ratHx 14 (fun K hK=>?_);go_simp)
      refine (along_any s pj pq _ hs hsj hsq).mono ?_
      rintro e wn ⟨rfl,hbn⟩
      go_simp
      (refine hK.out _ _ (hHeld.step hbn) (fun hHeld=>?_);clear hK K;(try simp only[apS,apN,siA,scZ,scS]))
      refine tkHx 15 33 ?_
      refine tkHx 16 34 ?_
      refine wpAnyH_done (by kernel_rfl) ?_ _
      have hA2:=Lib.hid (hA.out.below hHeld.bel)
      have hG2:=Lib.hid (hG.out.trans (below_grownM hHeld.bel))
      have hlt2:Hid (Cal.dst s pj<Cal.dst s pq):=Cal.along_neg.1 hd
      obtain⟨a0,a1⟩:=hA2.out.at_ hj1
      obtain⟨b0,b1⟩:=hA2.out.at_ hj2
      rw[hpj.out] at a0 a1
      rw[hpq.out] at b0 b1
      obtain⟨f0,f1⟩:=hA2.out.free hj1
      obtain⟨g0,g1⟩:=hA2.out.free hj2
      clear hHeld hA hG
      go_wp2_with fail
      have hfin:Hid (AtP (((((wn.setCell ⟨M,j*2,none⟩ (.int .i64 pq.x)).setCell ⟨M,j*2+1,none⟩ (.int .i64 pq.y)).setCell ⟨M,(j-1)*2,none⟩ (.int .i64 pj.x)).setCell ⟨M,(j-1)*2+1,none⟩ (.int .i64 pj.y)).drew) M (swapP cur j) ∧
        w.grownBy (((((wn.setCell ⟨M,j*2,none⟩ (.int .i64 pq.x)).setCell ⟨M,j*2+1,none⟩ (.int .i64 pq.y)).setCell ⟨M,(j-1)*2,none⟩ (.int .i64 pj.x)).setCell ⟨M,(j-1)*2+1,none⟩ (.int .i64 pj.y)).drew) (some M)):=by
       refine⟨?_,((((hG2.out.trans (grown_set _ _ _ _)).trans (grown_set _ _ _ _)).trans (grown_set _ _ _ _)).trans (grown_set _ _ _ _)).trans (grown_drewN _ 1 _)⟩
       have h:=(hA2.out.set hj1 pq).set (i:=j-1) (by rw[List.length_set];exact hj2) pj
       unfold swapP
       rw[hpj.out,hpq.out]
       exact h.below ((Below.refl _ _).drew)
      have hpm:Hid ((swapP cur j).Perm l):=(swapP_perm h0 hj1).trans hp.out
      have hin:Hid (InsTo s (swapP cur j) (k+1) (j-1)):=hI.out.swap h0 (by omega) (by rw[hcl.out];omega) (by rw[hpj.out,hpq.out];exact hlt2.out)
      clear hA2 hG2 hp hI
      go_region_o
      all_goals
       go_wp2_with fail
       go_roundw
       case rel=>exact⟨j-1,swapP cur j,by omega,by go_num,hpm,hfin.out.1,hin,hfin.out.2⟩
       case measure=>simp[intOf];omega
     have hdd:=decide_eq_false hd
     refine tkHx 0 18 ?_
     refine tkHx 1 19 ?_
     refine tkHx 2 20 ?_
     refine tkHx 3 21 ?_
     refine tkHx 4 22 ?_
     refine tkHx 5 23 ?_
     refine tkHx 6 24 ?_
     refine tkHx 7 25 ?_
     refine tkHx 8 26 ?_
     refine tkHx 9 27 ?_
     refine tkHx 10 28 ?_
     refine tkHx 11 29 ?_
     refine tkHx 12 30 ?_
     refine tkHx 13 31 ?_
     (refine ratHx 14 (fun K hK=>?_);go_simp)
     refine (along_any s pj pq _ hs hsj hsq).mono ?_
     rintro e wn ⟨rfl,hbn⟩
     go_simp
     (refine hK.out _ _ (hHeld.step hbn) (fun hHeld=>?_);clear hK K;(try simp only[apS,apN,siA,scZ,scS]))
     refine tkHx 15 33 ?_
     refine tkHx 16 34 ?_
     refine wpAnyH_done (by kernel_rfl) ?_ _
     have hA2:=Lib.hid (hA.out.below hHeld.bel)
     have hG2:=Lib.hid (hG.out.trans (below_grownM hHeld.bel))
     have hS2:=Lib.hid (InsTo.stop hI.out (show ¬_ from by rw[hpj.out,hpq.out];exact fun h=>hd (Cal.along_neg.2 h)))
     clear hHeld hA hG
     go_wp2_with fail
     go_roundw
     case rel=>exact⟨k+1,cur,by omega,.inl (by omega),by go_num,hp,hA2,hS2,hG2⟩
     case measure=>simp[intOf];omega
    obtain rfl:j=0:=by omega
    have hS2:=Lib.hid (InsTo.done hI.out (fun p hp=>by omega))
    have d0:decide ((0:Int)<((0:Nat):Int))=false:=decide_eq_false (by omega)
    (go_wp2_with fail;refine wp_region_held_drew (S:=Sx wr []) (by kernel_rfl) (Sx.mk (cs_nil _) (Below.refl _ _)).drew (fun hHeld=>?_))
    refine tkHx 0 18 ?_
    refine tkHx 1 19 ?_
    refine tkHx 2 20 ?_
    refine tkHx 3 21 ?_
    refine tkFx 4 22 ?_
    refine tkFx 5 23 ?_
    refine tkFx 6 24 ?_
    refine tkFx 7 25 ?_
    refine tkFx 8 26 ?_
    refine tkFx 9 27 ?_
    refine tkFx 10 28 ?_
    refine tkFx 11 29 ?_
    refine tkFx 12 30 ?_
    refine tkFx 13 31 ?_
    refine tkFx 14 32 ?_
    refine tkFx 15 33 ?_
    refine tkHx 16 34 ?_
    refine wpAnyH_done (by kernel_rfl) ?_ _
    have hA2:=Lib.hid (hA.out.below hHeld.bel)
    have hG2:=Lib.hid (hG.out.trans (below_grownM hHeld.bel))
    clear hHeld hA hG
    go_wp2_with fail
    go_roundw
    case rel=>exact⟨k+1,cur,by omega,.inl (by omega),by go_num,hp,hA2,hS2,hG2⟩
    case measure=>simp[intOf];omega
  have hS':=Lib.hid (show SrtTo s cur cur.length from fun p q hpq hq=>by have:=hcl.out;rcases hk1 with h | h <;> exact hS.out p q hpq (by omega))
  go_wp2_with fail
  refine bodyPost_end (results_none rfl _ _ _) rfl ?_
  exact⟨rfl,cur,hA.out,hp.out,hS'.out,hG.out⟩
end Go.Proofs.YthfokpchdlcidaaGreat
namespace Go.Proofs.YthfokpchdlcidaaGreat
open Go Go.RowKit Go.Shelf
def SrtPost (w:World) (s:Sd) (M:Nat) (l:List Pt) (e:Ending) (w':World):Prop:=e=.returned (.tuple #[])∧∃ l',AtP w' M l'∧l'.Perm l∧SrtTo s l' l'.length∧w.grownBy w' (some M)
theorem pdq_small (s:Sd) (M c:Nat) (l:List Pt) (lim:Int) (w:World) (hl:AtP w M l) (hs:SmS s) (hsm:∀ p∈l,SmP p) (hn:l.length≤12) :
  Calls Tryz.prog 163 #[.slice (some ⟨M,0,none⟩) l.length c,.int .i64 0,.int .i64 l.length,.int .i64 lim,.func (.func 116) #[.agg #[.int .i64 s.a.x,.int .i64 s.a.y,.int .i64 s.b.x,.int .i64 s.b.y]] #[]] w (SrtPost w s M l):=by
 have hi:=Lib.hid (insSort_any s M c l w hl hs hsm (by omega))
 have hn':(l.length:Int)≤12:=by omega
 have hw:IntKind.i64.wrap (l.length:Int)=(l.length:Int):=wrap_small (by omega) (by omega)
 clear hl hsm
 go_enter Tryz.func163,Tryz.ntmps163
 go_wp2_with fail
 refine wp_loop_rounds 1 ?_
 rw[rounds_succ]
 go_wp2_with fail
 refine hi.out.mono ?_
 rintro e w' ⟨rfl,l',h1,h2,h3,h4⟩
 have hall:=Lib.hid (show SrtPost w s M l (.returned (.tuple #[])) w' from ⟨rfl,l',h1,h2,h3,h4⟩)
 clear h1 h2 h3 h4
 go_wp2_with fail
 (try simp only[Exit.inBlock,Exit.then]);refine bodyPost_ret (results_none rfl _ _ _) rfl ?_
 exact hall.out
theorem SortFunc_small (s:Sd) (M c:Nat) (l:List Pt) (w:World) (hl:AtP w M l) (hs:SmS s) (hsm:∀ p∈l,SmP p) (hn:l.length≤12) :
  Calls Tryz.prog 153 #[.slice (some ⟨M,0,none⟩) l.length c,.func (.func 116) #[.agg #[.int .i64 s.a.x,.int .i64 s.a.y,.int .i64 s.b.x,.int .i64 s.b.y]] #[]] w (SrtPost w s M l):=by
 have hp:=Lib.hid (fun lim=>pdq_small s M c l lim w hl hs hsm hn)
 have hb:=Lib.hid (Tryz.bits_Len (l.length:Int) w (by omega) (by omega))
 have hw:IntKind.u64.wrap (l.length:Int)=(l.length:Int):=by simp[IntKind.wrap,IntKind.bits,IntKind.signed];omega
 clear hl hsm
 go_enter Tryz.func153,Tryz.ntmps153
 go_wp2_with fail
 refine hb.out.mono ?_
 rintro e w' ⟨rfl,rfl⟩
 go_wp2_with fail
 refine (hp.out _).mono ?_
 rintro e w' hpost
 have he:=hpost.1
 subst he
 have hall:=Lib.hid hpost
 clear hpost
 go_wp2_with fail
 (try simp only[Exit.inBlock,Exit.then]);refine bodyPost_end (results_none rfl _ _ _) rfl ?_
 exact hall.out
end Go.Proofs.YthfokpchdlcidaaGreat
namespace Go.Proofs.YthfokpchdlcidaaGreat
open Go Go.RowKit Go.Shelf
def kp (l:List Pt):Nat→List Pt
 | 0=>[]
 | m+1=>if m=0∨ptAt l m≠ptAt l (m-1) then kp l m ++ [ptAt l m] else kp l m
theorem kp_length (l:List Pt):∀ m,(kp l m).length≤m
 | 0=>Nat.le_refl _
 | m+1=>by
  have:=kp_length l m
  unfold kp
  split
  ·rw[List.length_append];simp;exact this
  omega
theorem kp_all {l:List Pt}:∀ {k:Nat},k≤l.length→(∀ i,0<i→i<k→ptAt l i≠ptAt l (i-1))→kp l k=l.take k
 | 0,_,_=>rfl
 | k+1,hk,h=>by
  have ih:=kp_all (k:=k) (by omega) (fun i h0 h1=>h i h0 (by omega))
  unfold kp
  rw[if_pos,ih]
  ·rw[List.take_succ_eq_append_getElem (by omega)]
   congr 1
   unfold ptAt
   rw[List.getElem?_eq_getElem (by omega)]
   rfl
  by_cases h0:k=0
  ·exact .inl h0
  exact .inr (h k (by omega) (by omega))
theorem undPts:(Tryz.prog).underlying 22=some (.slice 27):=Tryz.underlying22
theorem szPt (w:World):(Go.sizeOf ((Tryz.prog).elem 22)).run Tryz.prog w=.ok 2 w:=by kernel_rfl
theorem pt_eql (p q:Pt) (w:World):(binOp .eql 27 (.agg #[.int .i64 p.x,.int .i64 p.y]) (.agg #[.int .i64 q.x,.int .i64 q.y])).run Tryz.prog w=.ok (.bool (ptB p q)) w:=by
 have hu:(Tryz.prog).underlying 27=_:=Tryz.underlying27
 go_simp
 unfold ptB
 by_cases hx:p.x=q.x
 ·rw[if_pos hx,hx,beq_self_eq_true,Bool.true_and]
  by_cases hy:p.y=q.y
  ·rw[if_pos hy,hy,beq_self_eq_true]
  rw[if_neg hy,beq_false_of_ne hy]
 rw[if_neg hx,beq_false_of_ne hx,Bool.false_and]
theorem pt_neq (p q:Pt) (w:World):(binOp .neq 27 (.agg #[.int .i64 p.x,.int .i64 p.y]) (.agg #[.int .i64 q.x,.int .i64 q.y])).run Tryz.prog w=.ok (.bool (!ptB p q)) w:=by
 have hu:(Tryz.prog).underlying 27=_:=Tryz.underlying27
 go_simp
 unfold ptB
 by_cases hx:p.x=q.x
 ·rw[hx,beq_self_eq_true,Bool.true_and]
  by_cases hy:p.y=q.y
  ·rw[hy,beq_self_eq_true];simp
  rw[beq_false_of_ne hy];simp[hy]
 rw[beq_false_of_ne hx,Bool.false_and];simp[hx]
theorem cutFromP {M n c k:Nat} (hk:k<n) (hc:n≤c) (w':World):(Instr.slice 22 (.slice (some ⟨M,0,none⟩) n c) (some (.int .i64 k)) none none).run Tryz.prog w'=.ok (.slice (some ⟨M,k*2,none⟩) (n-k) (c-k)) w':=by
 rw[run_slice_l w' 22 (some ⟨M,0,none⟩) n c undPts .i64 k (by omega) (by omega),szPt]
 simp only[Result.andThen,sliced,Int.toNat_natCast]
 rw[if_neg (by omega),Option.map_some,addr_add,Nat.zero_add]
theorem cutToP {M n c k:Nat} (hk:k≤n) (hc:n≤c) (hc0:0<c) (w':World):(Instr.slice 22 (.slice (some ⟨M,0,none⟩) n c) none (some (.int .i64 k)) none).run Tryz.prog w'=.ok (.slice (some ⟨M,0,none⟩) k c) w':=by
 rw[run_slice_h w' 22 (some ⟨M,0,none⟩) n c undPts .i64 k (by omega) (by omega),szPt]
 simp only[Result.andThen,sliced,Int.toNat_natCast]
 rw[if_neg (by omega),Option.map_some,addr_add]
 simp
theorem BoxAt.setCells {M:Nat}:∀ (vs:List Value) (o:Nat) (w:World) (cs:List Value),BoxAt w M cs→o+vs.length≤cs.length→∃ cs',BoxAt (w.setCells M o vs) M cs'∧cs'.length=cs.length∧∀ i,i<o→cs'[i]?=cs[i]?
 | [],_,_,cs,h,_=>⟨cs,h,rfl,fun _ _=>rfl⟩
 | v :: r,o,w,cs,h,hl=>by
  rw[List.length_cons] at hl
  obtain⟨cs',h1,h2,h3⟩:=BoxAt.setCells r (o+1) _ _ (h.set o v (by omega)) (by rw[List.length_set];omega)
  exact⟨cs',h1,by rw[h2,List.length_set],fun i hi=>by rw[h3 i (by omega),List.getElem?_set_ne (by omega)]⟩
theorem AtP.clear {w:World} {M:Nat} {cur:List Pt} {n k c:Nat} (h:AtP w M cur) (hl:cur.length=n) (hk:k<n) :
  ∃ w',(∀ ty,(Builtin.clear_ #[22] ty #[.slice (some ⟨M,k*2,none⟩) (n-k) c]).run Tryz.prog w=.ok (.tuple #[]) w')∧AtP w' M (cur.take k)∧w.grownBy w' (some M):=by
 obtain⟨cs,hb,h1,h2⟩:=h
 obtain⟨vs,hvs⟩:∃ vs,vs=(Builtin.zeroCells #[.int .i64 0,.int .i64 0] (n-k)).toList:=⟨_,rfl⟩
 have hlen:vs.length=(n-k)*2:=by rw[hvs];simp[Builtin.zeroCells]
 have hone:∀ v∈vs,v.oneCell'=true:=fun v hv=>by
  rw[hvs] at hv
  simp only[Builtin.zeroCells,Array.toList_map,List.mem_map] at hv
  obtain⟨i,_,rfl⟩:=hv
  have:i % 2=0∨i % 2=1:=by omega
  rcases this with h | h <;> simp[h,Value.oneCell']
 have hst:=run_storeCells_cells (P:=Tryz.prog) M (k*2) vs 0 w
  (fun j hj=>by
   have hj':k*2+0+j<cs.length:=by omega
   rw[hb.c _ _ (List.getElem?_eq_getElem hj')];rfl)
  (fun j hj=>hb.free _ (by omega)) hone
 rw[Nat.add_zero] at hst
 refine⟨w.setCells M (k*2) vs,fun ty=>?_,?_,grown_setCells _ _ _ _⟩
 ·obtain⟨m,hm⟩:∃ m,n-k=m+1:=⟨n-k-1,by omega⟩
  rw[hm] at hvs ⊢
  simp[Builtin.clear_,run_underlying undPts,Value.cells,←hvs,hst]
 obtain⟨cs',h3,h4,h5⟩:=BoxAt.setCells vs (k*2) w cs hb (by omega)
 refine⟨cs',h3,by rw[List.length_take];omega,fun i q hq=>?_⟩
 have hi:i<k:=by
  have:=(List.getElem?_eq_some_iff.1 hq).1
  rw[List.length_take] at this
  omega
 rw[List.getElem?_take,if_pos hi] at hq
 obtain⟨a0,a1⟩:=h2 i q hq
 exact⟨(h5 _ (by omega)).trans a0,(h5 _ (by omega)).trans a1⟩
theorem kp_same {l:List Pt} {m:Nat} (h0:0<m) (h:ptAt l m=ptAt l (m-1)):kp l (m+1)=kp l m:=by
 rw[kp,if_neg]
 rintro (h1 | h1)
 ·omega
 exact h1 h
theorem kp_next {l:List Pt} {m:Nat} (h:ptAt l m≠ptAt l (m-1)):kp l (m+1)=kp l m ++ [ptAt l m]:=by rw[kp,if_pos (.inr h)]
theorem ptB_false {p q:Pt} (h:p≠q):ptB p q=false:=by
 cases hb:ptB p q
 ·rfl
 exact absurd (ptB_iff.1 hb) h
structure CpS (l cur:List Pt) (m kk:Nat):Prop where
 len:cur.length=l.length
 lt:kk<m
 kept:kp l m=cur.take kk
 num:(kp l m).length=kk
 rest:∀ i,m-1≤i→i<l.length→ptAt cur i=ptAt l i
theorem CpS.same {l cur:List Pt} {m kk:Nat} (h:CpS l cur m kk) (he:ptAt l m=ptAt l (m-1)):CpS l cur (m+1) kk:=by
 obtain⟨h1,h2,h3,h4,h5⟩:=h
 refine⟨h1,by omega,?_,?_,fun i hi hl=>h5 i (by omega) hl⟩
 ·rw[kp_same (by omega) he];exact h3
 rw[kp_same (by omega) he];exact h4
theorem CpS.next {l cur:List Pt} {m kk:Nat} (h:CpS l cur m kk) (hm:m<l.length) (he:ptAt l m≠ptAt l (m-1)):CpS l (cur.set kk (ptAt l m)) (m+1) (kk+1):=by
 obtain⟨h1,h2,h3,h4,h5⟩:=h
 refine⟨by rw[List.length_set];exact h1,by omega,?_,?_,fun i hi hl=>?_⟩
 ·rw[kp_next he,h3]
  rw[List.take_succ_eq_append_getElem (by rw[List.length_set];omega),List.getElem_set_self,List.take_set_of_le (Nat.le_refl _)]
 ·rw[kp_next he,List.length_append,h4];rfl
 have:=h5 i (by omega) hl
 unfold ptAt at this ⊢
 rw[List.getElem?_set_ne (by omega)]
 exact this
theorem Compact_any (M c:Nat) (l:List Pt) (w:World) (hl:AtP w M l) (h2:2≤l.length) (hn:l.length≤1000000) (hc:l.length≤c) :
  Calls Tryz.prog 154 #[.slice (some ⟨M,0,none⟩) l.length c] w fun e w' =>
   e=.returned (.slice (some ⟨M,0,none⟩) (kp l l.length).length c)∧AtP w' M (kp l l.length)∧w.grownBy w' (some M):=by
 have hl:=Lib.hid hl
 obtain⟨n,hnn0⟩:∃ n,n=l.length:=⟨_,rfl⟩
 rw[←hnn0] at hn h2 hc ⊢
 have hnn:=Lib.hid hnn0
 clear hnn0
 have hmo:(Tryz.prog).follows Departure.mixedOrders=true:=by kernel_rfl
 have h2':¬(n:Int)<2:=by omega
 go_enter Tryz.func154,Tryz.ntmps154
 go_wp2_with fail
 go_loopw [3] (fun i wr=>∃ (k:Nat),1≤k∧k≤n∧i=.int .i64 k∧Hid (∀ i,0<i→i<k→ptAt l i≠ptAt l (i-1))∧Hid (AtP wr M l)∧Hid (w.grownBy wr (some M))) (fun i _=>n-(intOf i).toNat)
 case atStart=>exact⟨1,by omega,by omega,rfl,fun i h0 h1=>by omega,hl.out,World.grownBy.refl _ _⟩
 case round =>
  obtain⟨k,hk0,hk1,rfl,hD,hA,hG⟩:=hrel
  by_cases hlt:k<n
  ·have hj1:k<l.length:=by rw[←hnn.out];exact hlt
   obtain⟨a0,a1⟩:=hA.out.at_ hj1
   obtain⟨b0,b1⟩:=hA.out.at_ (show k-1<l.length by omega)
   have hw1:IntKind.i64.wrap ((k:Int)-1)=(k:Int)-1:=wrap_small (by omega) (by omega)
   have ht1:((k:Int)-1).toNat=k-1:=by omega
   have ht2:(1:Int)≤(k:Int):=by omega
   have ht3:(k:Int)-1<(n:Int):=by omega
   have ht4:(0:Int)≤(k:Int)-1:=by omega
   have ht5:(k:Int)<(n:Int):=by omega
   have ht7:k-1<n:=by omega
   obtain⟨pj,hpj0⟩:∃ p,ptAt l k=p:=⟨_,rfl⟩
   obtain⟨pq,hpq0⟩:∃ p,ptAt l (k-1)=p:=⟨_,rfl⟩
   rw[hpj0] at a0 a1
   rw[hpq0] at b0 b1
   have hpj:=Lib.hid hpj0
   have hpq:=Lib.hid hpq0
   clear hpj0 hpq0
   have heq:=pt_eql pj pq
   have hAG:=Lib.hid (And.intro (hA.out.below ((Below.refl _ _).drew)) (hG.out.trans (grown_drewN _ 1 _)))
   by_cases he:pj=pq
   ·have hkp:Hid (CpS l l (k+1) k):=by
     have hkl:=hnn.out
     have e1:kp l k=l.take k:=kp_all (by omega) hD.out
     have e2:=kp_same (l:=l) (m:=k) (by omega) (by rw[hpj.out,hpq.out];exact he)
     exact⟨rfl,Nat.lt_succ_self _,by rw[e2];exact e1,by rw[e2,e1,List.length_take];omega,fun _ _ _=>rfl⟩
    have hpb:ptB pj pq=true:=ptB_iff.2 he
    rw[hpb] at heq
    have hct:=fun w'=>cutFromP (M:=M) (n:=n) (c:=c) hlt hc w'
    obtain⟨N2,hN2⟩:∃ N2,N2=n-k:=⟨_,rfl⟩
    obtain⟨C2,hC2⟩:∃ C2,C2=c-k:=⟨_,rfl⟩
    rw[←hN2,←hC2] at hct
    have hN2:=Lib.hid hN2
    have hN3:Hid (N2+k=n):=by show _=_;have:=hN2.out;omega
    clear hD he hpb hA hG hC2
    go_wp2_with fail
    go_region_o
    go_wp2_with fail
    go_loopw [5,3] (fun i kv wr=>∃ (q kk:Nat) (cur:List Pt),1≤q∧q≤N2∧i=.int .i64 q∧kv=.int .i64 kk∧Hid (CpS l cur (k+q) kk)∧Hid (AtP wr M cur)∧Hid (w.grownBy wr (some M))) (fun i _ _=>N2-(intOf i).toNat)
    case atStart=>exact⟨1,k,l,Nat.le_refl _,by have:=hN3.out;omega,rfl,rfl,hkp,hAG.out.1,hAG.out.2⟩
    case round =>
     clear hkp hAG
     obtain⟨q,kk,cur,hq0,hq1,rfl,rfl,hC,hA,hG⟩:=hrel
     have hlen:Hid (cur.length=n):=by show _=_;rw[hC.out.len,hnn.out]
     have hkm:=hC.out.lt
     by_cases hqn:q<N2
     ·have hm1:k+q<l.length:=by have:=hnn.out;have:=hN3.out;omega
      have hm2:k+q<cur.length:=by have:=hlen.out;have:=hN3.out;omega
      obtain⟨a0,a1⟩:=hA.out.at_ hm2
      obtain⟨b0,b1⟩:=hA.out.at_ (show k+q-1<cur.length by omega)
      rw[hC.out.rest _ (by omega) hm1] at a0 a1
      rw[hC.out.rest _ (by omega) (by omega)] at b0 b1
      obtain⟨f0,f1⟩:=hA.out.free (show kk<cur.length by omega)
      obtain⟨g0,g1⟩:=hA.out.at_ (show kk<cur.length by omega)
      have hsm:=Lib.hid (fun he=>hC.out.same he)
      have hnx:=Lib.hid (fun he=>hC.out.next hm1 he)
      have hst:=Lib.hid (hA.out.set (show kk<cur.length by omega) (ptAt l (k+q)))
      rw[show (k+q)*2=k*2+q*2 by omega] at a0 a1
      rw[show (k+q-1)*2=k*2+(q-1)*2 by omega] at b0 b1
      have hw1:IntKind.i64.wrap ((q:Int)-1)=(q:Int)-1:=wrap_small (by omega) (by omega)
      have ht1:((q:Int)-1).toNat=q-1:=by omega
      have ht2:(1:Int)≤(q:Int):=by omega
      have ht3:(q:Int)-1<(N2:Int):=by omega
      have ht4:(0:Int)≤(q:Int)-1:=by omega
      have ht5:(q:Int)<(N2:Int):=by omega
      have ht7:q-1<N2:=by omega
      have ht8:kk<n:=by have:=hN3.out;omega
      have ht9:(kk:Int)<(n:Int):=by omega
      have hwk:IntKind.i64.wrap ((kk:Int)+1)=(kk:Int)+1:=wrap_small (by omega) (by omega)
      obtain⟨pj,hpj0⟩:∃ p,ptAt l (k+q)=p:=⟨_,rfl⟩
      obtain⟨pq,hpq0⟩:∃ p,ptAt l (k+q-1)=p:=⟨_,rfl⟩
      rw[hpj0] at a0 a1 hst hnx hsm
      rw[hpq0] at b0 b1 hnx hsm
      clear hpj0 hpq0 hC
      have hne:=pt_neq pj pq
      have hAG:=Lib.hid (And.intro (hA.out.below ((Below.refl _ _).drew)) (hG.out.trans (grown_drewN _ 1 _)))
      by_cases he:pj=pq
      ·have hS2:=Lib.hid (hsm.out he)
       have hpb:ptB pj pq=true:=ptB_iff.2 he
       rw[hpb] at hne
       clear he hpb hsm hnx hst hA hG
       go_wp2_with fail
       go_region_o
       go_wp2_with fail
       go_roundw
       case rel=>exact⟨q+1,kk,cur,by omega,by omega,by go_num,rfl,hS2,hAG.out.1,hAG.out.2⟩
       case measure=>simp[intOf];omega
      have hS2:=Lib.hid (hnx.out he)
      have hpb:ptB pj pq=false:=ptB_false he
      rw[hpb] at hne
      have hGz:=Lib.hid (((hG.out.trans (grown_set wr M (kk*2) (.int .i64 pj.x))).trans (grown_set _ M (kk*2+1) (.int .i64 pj.y))).trans (grown_drewN _ 1 _))
      clear he hpb hsm hnx hA hG
      go_wp2_with fail
      go_region_o
      go_wp2_with fail
      go_roundw
      case rel=>exact⟨q+1,kk+1,cur.set kk pj,by omega,by omega,by go_num,by go_num,hS2,hst.out.below ((Below.refl _ _).drew),hGz.out⟩
      case measure=>simp[intOf];omega
     obtain rfl:q=N2:=by omega
     have hkn:kk<n:=by have:=hN3.out;omega
     have hct2:=fun w'=>cutFromP (M:=M) (n:=n) (c:=c) hkn hc w'
     have hcu:=fun w'=>cutToP (M:=M) (n:=n) (c:=c) (show kk≤n by omega) hc (by omega) w'
     obtain⟨w9,hcl,hA9,hG9⟩:=hA.out.clear (c:=c-kk) hlen.out hkn
     have hfin:=Lib.hid (And.intro hA9 (hG.out.trans hG9))
     have hkl:Hid (kp l n=cur.take kk∧(kp l n).length=kk):=by
      have:=hN3.out
      rw[show n=k+q by omega]
      exact⟨hC.out.kept,hC.out.num⟩
     clear hA9 hG9 hA hG hC
     go_wp2_with fail
     go_ret
     refine⟨by rw[hkl.out.2];rfl,by rw[hkl.out.1];exact hfin.out.1,hfin.out.2⟩
   have hD2:Hid (∀ i,0<i→i<k+1→ptAt l i≠ptAt l (i-1)):=fun i h0 h1=>by
    by_cases e:i=k
    ·subst e;rw[hpj.out,hpq.out];exact he
    exact hD.out i h0 (by omega)
   have hpb:ptB pj pq=false:=ptB_false he
   rw[hpb] at heq
   clear hD he hpb hA hG
   go_wp2_with fail
   go_region_o
   go_wp2_with fail
   go_roundw
   case rel=>exact⟨k+1,by omega,by omega,by go_num,hD2,hAG.out.1,hAG.out.2⟩
   case measure=>simp[intOf];omega
  obtain rfl:k=n:=by omega
  have hfin:Hid (kp l k=l):=by
   show _=_
   rw[kp_all (by rw[←hnn.out];exact Nat.le_refl _) hD.out,hnn.out,List.take_length]
  go_wp2_with fail
  go_ret
  refine⟨by rw[hfin.out,←hnn.out];rfl,by rw[hfin.out];exact hA.out,hG.out⟩
end Go.Proofs.YthfokpchdlcidaaGreat
namespace Go.Proofs.YthfokpchdlcidaaGreat
theorem Cal.trn_zero {s:Sd} {p:Pt}:Cal.trn s p=0↔Cal.crs s p=0:=by unfold Cal.trn Cal.cmpI;split <;> (try split) <;> omega
theorem sq_pos {z:Int} (h:z≠0):0<z*z:=by
 rcases Int.lt_trichotomy z 0 with h1 | h1 | h1
 ·exact Int.mul_pos_of_neg_of_neg h1 h1
 ·exact absurd h1 h
 exact Int.mul_pos h1 h1
theorem sq_nn (z:Int):0≤z*z:=by
 by_cases h:z=0
 ·rw[h];decide
 have:=sq_pos h;omega
theorem Cal.dst_inj {s:Sd} (hne:s.a≠s.b) {p q:Pt} (hp:Cal.crs s p=0) (hq:Cal.crs s q=0) (h:Cal.dst s p=Cal.dst s q):p=q:=by
 obtain⟨⟨ax,ay⟩,⟨bx,by'⟩⟩:=s
 obtain⟨px,py⟩:=p
 obtain⟨qx,qy⟩:=q
 simp only[Cal.crs,Cal.dst,Cal.dotP] at *
 have hL:0<(bx-ax)*(bx-ax)+(by'-ay)*(by'-ay):=by
  have h1:=sq_nn (bx-ax)
  have h2:=sq_nn (by'-ay)
  by_cases e1:bx-ax=0
  ·by_cases e2:by'-ay=0
   ·exact absurd (by rw[Pt.mk.injEq];omega) hne
   have:=sq_pos e2;omega
  have:=sq_pos e1;omega
 have kx:(px-qx)*((bx-ax)*(bx-ax)+(by'-ay)*(by'-ay))=0:=by grind
 have ky:(py-qy)*((bx-ax)*(bx-ax)+(by'-ay)*(by'-ay))=0:=by grind
 rw[Pt.mk.injEq]
 constructor
 ·rcases Int.mul_eq_zero.1 kx with h | h <;> omega
 rcases Int.mul_eq_zero.1 ky with h | h <;> omega
def Up (s:Sd) (l:List Pt):Prop:=l.Pairwise fun p q=>Cal.dst s p<Cal.dst s q
theorem up_ext {s:Sd}:∀ {l m:List Pt},Up s l→Up s m→(∀ p,p∈l↔p∈m)→l=m
 | [],[],_,_,_=>rfl
 | [],y :: m,_,_,h=>by have:=(h y).2 (List.mem_cons_self ..);cases this
 | x :: l,[],_,_,h=>by have:=(h x).1 (List.mem_cons_self ..);cases this
 | x :: l,y :: m,hl,hm,h=>by
  obtain⟨h1,h2⟩:=List.pairwise_cons.1 hl
  obtain⟨g1,g2⟩:=List.pairwise_cons.1 hm
  have hxy:x=y:=by
   rcases List.mem_cons.1 ((h x).1 (List.mem_cons_self ..)) with e | e
   ·exact e
   rcases List.mem_cons.1 ((h y).2 (List.mem_cons_self ..)) with e' | e'
   ·exact e'.symm
   have:=h1 y e';have:=g1 x e;omega
  subst hxy
  congr 1
  refine up_ext h2 g2 fun p=>⟨fun hp=>?_,fun hp=>?_⟩
  ·rcases List.mem_cons.1 ((h p).1 (List.mem_cons_of_mem _ hp)) with e | e
   ·subst e;have:=h1 p hp;omega
   exact e
  rcases List.mem_cons.1 ((h p).2 (List.mem_cons_of_mem _ hp)) with e | e
  ·subst e;have:=g1 p hp;omega
  exact e
theorem mem_insP {s:Sd} {q x:Pt}:∀ {l:List Pt},x∈Cal.insP s q l↔x=q∨x∈l
 | []=>by simp[Cal.insP]
 | y :: r=>by
  unfold Cal.insP
  split
  ·simp
  split
  ·rename_i h
   have e:=ptB_iff.1 h
   subst e
   constructor
   ·intro h;exact .inr h
   rintro (h | h)
   ·subst h;exact List.mem_cons_self ..
   exact h
  rw[List.mem_cons,mem_insP,List.mem_cons]
  constructor
  ·rintro (h | h | h)
   ·exact .inr (.inl h)
   ·exact .inl h
   exact .inr (.inr h)
  rintro (h | h | h)
  ·exact .inr (.inl h)
  ·exact .inl h
  exact .inr (.inr h)
theorem up_insP {s:Sd} (hne:s.a≠s.b) {q:Pt} (hq:Cal.crs s q=0):∀ {l:List Pt},Up s l→(∀ p∈l,Cal.crs s p=0)→Up s (Cal.insP s q l)
 | [],_,_=>by simp[Cal.insP,Up]
 | y :: r,h,hc=>by
  obtain⟨h1,h2⟩:=List.pairwise_cons.1 h
  unfold Cal.insP
  split
  ·rename_i hlt
   have hlt:=Cal.along_neg.1 hlt
   refine List.pairwise_cons.2 ⟨fun p hp=>?_,h⟩
   rcases List.mem_cons.1 hp with e | e
   ·rw[e];exact hlt
   have:=h1 p e;omega
  rename_i hlt
  split
  ·exact h
  rename_i hb
  have hlt:¬Cal.dst s q<Cal.dst s y:=fun hh=>hlt (Cal.along_neg.2 hh)
  have hdy:Cal.dst s y<Cal.dst s q:=by
   rcases Int.lt_trichotomy (Cal.dst s y) (Cal.dst s q) with hh | hh | hh
   ·exact hh
   ·exact absurd (ptB_iff.2 (Cal.dst_inj hne hq (hc y (List.mem_cons_self ..)) hh.symm)) hb
   exact absurd hh hlt
  refine List.pairwise_cons.2 ⟨fun p hp=>?_,up_insP hne hq h2 (fun p hp=>hc p (List.mem_cons_of_mem _ hp))⟩
  rcases mem_insP.1 hp with e | e
  ·rw[e];exact hdy
  exact h1 p e
theorem fold_insP {s:Sd} (hne:s.a≠s.b):∀ (l acc:List Pt),(∀ p∈l,Cal.crs s p=0)→(∀ p∈acc,Cal.crs s p=0)→Up s acc →
  Up s (l.foldl (fun a q=>Cal.insP s q a) acc)∧∀ x,x∈l.foldl (fun a q=>Cal.insP s q a) acc↔x∈acc∨x∈l
 | [],acc,_,_,h=>⟨h,fun x=>by simp⟩
 | q :: l,acc,hl,ha,h=>by
  have hq:=hl q (List.mem_cons_self ..)
  obtain⟨k1,k2⟩:=fold_insP hne l (Cal.insP s q acc) (fun p hp=>hl p (List.mem_cons_of_mem _ hp)) (fun p hp=>by
   rcases mem_insP.1 hp with e | e
   ·rw[e];exact hq
   exact ha p e) (up_insP hne hq h ha)
  refine⟨k1,fun x=>?_⟩
  rw[List.foldl_cons,k2,mem_insP,List.mem_cons]
  constructor
  ·rintro ((h | h) | h)
   ·exact .inr (.inl h)
   ·exact .inl h
   exact .inr (.inr h)
  rintro (h | h | h)
  ·exact .inl (.inr h)
  ·exact .inl (.inl h)
  exact .inr h
theorem mem_kp {l:List Pt}:∀ {m:Nat},m≤l.length→∀ x,x∈kp l m↔x∈l.take m
 | 0,_,x=>by simp[kp]
 | m+1,hm,x=>by
  have ih:=mem_kp (l:=l) (m:=m) (by omega) x
  have hat:ptAt l m=l[m]:=by unfold ptAt;rw[List.getElem?_eq_getElem (by omega)];rfl
  rw[List.take_succ_eq_append_getElem (by omega),List.mem_append,List.mem_singleton,←hat]
  unfold kp
  split
  ·rw[List.mem_append,List.mem_singleton,ih]
  rename_i h
  rw[ih]
  constructor
  ·intro h;exact .inl h
  rintro (h' | h')
  ·exact h'
  have h0:m≠0:=fun e=>h (.inl e)
  have h1:ptAt l m=ptAt l (m-1):=Classical.byContradiction fun e=>h (.inr e)
  rw[h',h1]
  unfold ptAt
  have hm1:m-1<l.length:=by omega
  rw[List.getElem?_eq_getElem hm1]
  exact List.mem_take_iff_getElem.2 ⟨m-1,by rw[Nat.min_eq_left (by omega)];omega,rfl⟩
theorem up_kp {s:Sd} (hne:s.a≠s.b) {l:List Pt} (hc:∀ p∈l,Cal.crs s p=0) (hs:SrtTo s l l.length):∀ {m:Nat},m≤l.length→Up s (kp l m)
 | 0,_=>List.Pairwise.nil
 | m+1,hm=>by
  have ih:=up_kp hne hc hs (m:=m) (by omega)
  unfold kp
  split
  ·rename_i h
   refine List.pairwise_append.2 ⟨ih,List.pairwise_singleton _ _,fun p hp q hq=>?_⟩
   rw[List.mem_singleton.1 hq]
   obtain⟨i,hi,rfl⟩:=List.mem_take_iff_getElem.1 ((mem_kp (l:=l) (m:=m) (by omega) p).1 hp)
   have hi':i<m:=by omega
   have hat:ptAt l i=l[i]:=by unfold ptAt;rw[List.getElem?_eq_getElem (by omega)];rfl
   have hin:∀ i,i<l.length→Cal.crs s (ptAt l i)=0:=fun i hi=>by
    unfold ptAt;rw[List.getElem?_eq_getElem hi];exact hc _ (List.getElem_mem hi)
   have hmne:ptAt l m≠ptAt l (m-1):=by
    rcases h with h | h
    ·omega
    exact h
   rw[←hat]
   have h1:=hs (m-1) m (by omega) (by omega)
   have h2:Cal.dst s (ptAt l (m-1))≠Cal.dst s (ptAt l m):=fun e=>hmne (Cal.dst_inj hne (hin m (by omega)) (hin (m-1) (by omega)) e.symm)
   by_cases e:i=m-1
   ·subst e;omega
   have:=hs i (m-1) (by omega) (by omega);omega
  exact ih
theorem Cal.crs_a (s:Sd):Cal.crs s s.a=0:=by unfold Cal.crs;grind
theorem Cal.crs_b (s:Sd):Cal.crs s s.b=0:=by unfold Cal.crs;grind
theorem Cal.hasP_crs {s:Sd} {p:Pt} (h:Cal.hasP s p=true):Cal.crs s p=0:=by
 unfold Cal.hasP at h
 rw[Bool.and_eq_true,beq_iff_eq] at h
 exact Cal.trn_zero.1 h.1
theorem kp_atP {s:Sd} (hne:s.a≠s.b) {other l:List Pt} (hp:l.Perm (s.a :: s.b :: other.filter (Cal.hasP s))) (hs:SrtTo s l l.length):kp l l.length=Cal.atP s other:=by
 have hcL:∀ p∈s.a :: s.b :: other.filter (Cal.hasP s),Cal.crs s p=0:=fun p hp=>by
  rcases List.mem_cons.1 hp with e | hp
  ·rw[e];exact Cal.crs_a s
  rcases List.mem_cons.1 hp with e | hp
  ·rw[e];exact Cal.crs_b s
  exact Cal.hasP_crs (List.mem_filter.1 hp).2
 have hc:∀ p∈l,Cal.crs s p=0:=fun p h=>hcL p (hp.mem_iff.1 h)
 obtain⟨k1,k2⟩:=fold_insP hne (s.a :: s.b :: other.filter (Cal.hasP s)) [] hcL (fun p hp=>by cases hp) List.Pairwise.nil
 refine up_ext (up_kp hne hc hs (Nat.le_refl _)) k1 fun p=>?_
 rw[mem_kp (Nat.le_refl _),List.take_length,hp.mem_iff]
 show _↔p∈(s.a :: s.b :: other.filter (Cal.hasP s)).foldl (fun a q=>Cal.insP s q a) []
 rw[k2]
 simp
end Go.Proofs.YthfokpchdlcidaaGreat
namespace Go.Proofs.YthfokpchdlcidaaGreat
open Go Go.RowKit Go.Shelf
attribute [local go_sem] Oper.semAt_some
def KpP (n₀ Bp Bo:Nat) (B:Nat) (X Y:World):Prop:=Below n₀ X Y∧FromB B X Y∧Two Bp Bo X Y
def AbM (B:Nat) (X Y:World):Prop:=Below (min B X.heap.size) X Y
theorem AbM.of {B:Nat} {X Y:World} (h:Below B X Y):AbM B X Y:=h.mono (Nat.min_le_left _ _)
theorem BoxAt.ofBlock {w w':World} {B:Nat} {cs:List Value} (h:BoxAt w B cs) (hb:w'.heap[B]?=w.heap[B]?) (hs:w.heap.size≤w'.heap.size):BoxAt w' B cs :=
 ⟨fun j v hv=>(World.cell?_of_block (a:=⟨B,0+j,none⟩) hb).trans (h.range j v hv),fun j hj=>(World.frozen?_of_block (a:=⟨B,j,none⟩) hb).trans (h.free j hj),Nat.lt_of_lt_of_le h.lt hs⟩
theorem AtP.ofBlock {w w':World} {M:Nat} {l:List Pt} (h:AtP w M l) (hb:w'.heap[M]?=w.heap[M]?) (hs:w.heap.size≤w'.heap.size):AtP w' M l:=by
 obtain⟨cs,h0,h1,h2⟩:=h
 exact⟨cs,h0.ofBlock hb hs,h1,h2⟩
theorem yield_wide {m m' l l0:Nat} {P:Program} {args:Array Value} {W:World} {R:Ending→World→Prop} (h:YieldAt Fence.wide m P l args W R):YieldAt (Fence.wide.inRound l0) m' P l args W R:=by
 obtain⟨fn,tmps,assign,body,hy,hr⟩:=h
 exact⟨fn,tmps,assign,body,hy,hr.1,fun c cs _=>hr.2 c cs (room_wide _)⟩
theorem KpP.refl (n₀ Bp Bo B:Nat) (X:World):KpP n₀ Bp Bo B X X:=⟨Below.refl _ _,FromB.refl _ _,Two.refl _ _ _⟩
theorem KpP.trans {n₀ Bp Bo B:Nat} {X Y Z:World} (h:KpP n₀ Bp Bo B X Y) (k:KpP n₀ Bp Bo B Y Z):KpP n₀ Bp Bo B X Z:=⟨h.1.trans k.1,h.2.1.trans k.2.1,h.2.2.trans k.2.2⟩
theorem KpP.below {n₀ Bp Bo B:Nat} {X Y:World} (h:Below X.heap.size X Y) (hn:n₀≤X.heap.size) (hp:Bp<X.heap.size) (ho:Bo<X.heap.size):KpP n₀ Bp Bo B X Y :=
 ⟨h.mono hn,⟨h.size,fun b _ hb=>h.block b hb⟩,h.block _ hp,h.block _ ho⟩
def pcE (x:Cal.Pc):Array Value:=#[.agg #[.int .i64 x.mid.x,.int .i64 x.mid.y,.int .i64 (x.of.b.x-x.of.a.x),.int .i64 (x.of.b.y-x.of.a.y)]]
def pcF (os:List Pt) (s:Sd):List Cal.Pc:=Cal.pcsOf s (Cal.atP s os)
theorem pcsP_eq (ps os:List Pt):Cal.pcsP ps os=(Cal.sds ps).flatMap (pcF os):=rfl
def pcN (ps os:List Pt) (i:Nat):Nat:=(((Cal.sds ps).take i).flatMap (pcF os)).length
theorem sds_length (ps:List Pt):(Cal.sds ps).length=ps.length:=by unfold Cal.sds;simp
theorem sds_get {ps:List Pt} {i:Nat} (h:i<ps.length):(Cal.sds ps)[i]?=some (Cal.sd ps i):=by unfold Cal.sds;rw[List.getElem?_map,List.getElem?_range h];rfl
theorem pcN_succ {ps os:List Pt} {i:Nat} (h:i<ps.length):pcN ps os (i+1)=pcN ps os i+(pcF os (Cal.sd ps i)).length:=by
 have hi:i<(Cal.sds ps).length:=by rw[sds_length];exact h
 have hg:(Cal.sds ps)[i]=Cal.sd ps i:=by have:=sds_get h;rw[List.getElem?_eq_getElem hi] at this;exact Option.some.inj this
 unfold pcN
 rw[List.take_succ_eq_append_getElem hi,List.flatMap_append,List.length_append,hg]
 simp
theorem pcN_all (ps os:List Pt):pcN ps os ps.length=(Cal.pcsP ps os).length:=by
 unfold pcN
 rw[List.take_of_length_le (by rw[sds_length];exact Nat.le_refl _),pcsP_eq]
theorem pc_at {ps os:List Pt} {i q:Nat} (h:i<ps.length) (hq:q<(pcF os (Cal.sd ps i)).length):(Cal.pcsP ps os)[pcN ps os i+q]?=(pcF os (Cal.sd ps i))[q]?:=by
 have hi:i<(Cal.sds ps).length:=by rw[sds_length];exact h
 have hg:(Cal.sds ps)[i]=Cal.sd ps i:=by have:=sds_get h;rw[List.getElem?_eq_getElem hi] at this;exact Option.some.inj this
 have hl:Cal.sds ps=(Cal.sds ps).take i ++ Cal.sd ps i :: (Cal.sds ps).drop (i+1):=by
  rw[←hg,←List.drop_eq_getElem_cons hi,List.take_append_drop]
 rw[pcsP_eq]
 conv=>lhs;rw[hl]
 rw[List.flatMap_append,List.flatMap_cons]
 unfold pcN
 rw[List.getElem?_append_right (Nat.le_add_right _ _),Nat.add_sub_cancel_left,List.getElem?_append_left hq]
theorem pcsOf_length (s:Sd):∀ l:List Pt,(Cal.pcsOf s l).length=l.length-1
 | []=>rfl
 | [_]=>rfl
 | x :: y :: r=>by
  rw[Cal.pcsOf,List.length_cons,pcsOf_length s (y :: r)]
  simp
theorem pcsOf_at (s:Sd):∀ (l:List Pt) (q:Nat),q+1<l.length→(Cal.pcsOf s l)[q]?=some ⟨⟨(ptAt l q).x+(ptAt l (q+1)).x,(ptAt l q).y+(ptAt l (q+1)).y⟩,s⟩
 | [],_,h=>by simp at h
 | [_],_,h=>by simp at h
 | x :: y :: r,0,_=>rfl
 | x :: y :: r,q+1,h=>by
  have:=pcsOf_at s (y :: r) q (by simp at h ⊢;omega)
  rw[Cal.pcsOf,List.getElem?_cons_succ,this]
  rfl
theorem elemPt:Elem Tryz.prog 22 27 2 16:=Elem.mk' Tryz.underlying22 (z:=.agg #[.int .i64 0,.int .i64 0]) (by kernel_rfl) rfl (by decide)
def PtsO (w:World) (B:Nat) (v:Value) (l:List Pt):Prop:=OwnL w B 27 2 v (l.map ptR)
theorem ptR_wid (l:List Pt):∀ r∈l.map ptR,r.length=2:=fun r hr=>by obtain⟨s,_,rfl⟩:=List.mem_map.1 hr;rfl
theorem ptR_one (l:List Pt):∀ r∈l.map ptR,∀ u∈r,u.oneCell'=true:=fun r hr u hu=>by
 obtain⟨s,_,rfl⟩:=List.mem_map.1 hr
 simp only[ptR,List.mem_cons,List.not_mem_nil,or_false] at hu
 rcases hu with rfl | rfl <;> rfl
theorem PtsO.two (w:World) (B:Nat) (p q:Pt) (hB:B≤w.heap.size):PtsO (w.alloc (.cells #[.int .i64 p.x,.int .i64 p.y,.int .i64 q.x,.int .i64 q.y] 27)) B (.slice (some ⟨w.heap.size,0,none⟩) 2 2) [p,q] :=
 ⟨⟨rfl,.inr ⟨w.heap.size,2,_,rfl,hB,World.alloc_heap_new w _,Nat.le_refl _,by decide,rfl,rfl⟩⟩,ptR_wid _,ptR_one _⟩
theorem PtsO.atP {w:World} {B:Nat} {v:Value} {l:List Pt} (h:PtsO w B v l) (hl:0<l.length):∃ M c,v=.slice (some ⟨M,0,none⟩) l.length c∧AtP w M l∧l.length≤c∧B≤M:=by
 rcases h.own.2 with ⟨_,h0⟩ | ⟨g,cap,cur,hv,hb,hg,h1,h2,h3,h4⟩
 ·rw[List.length_map] at h0;omega
 rw[List.length_map] at hv h1 h4
 have hcell:∀ (j:Nat) (u:Value),cur.toList[j]?=some u→w.cell? ⟨g,j,none⟩=some u:=fun j u hu=>by
  unfold World.cell?
  rw[hg]
  simpa using hu
 have hfl:∀ (k:Nat) (u:Value),(l.map ptR).flatten[k]?=some u→cur.toList[k]?=some u:=fun k u hu=>by
  rw[←h4,List.getElem?_take] at hu
  split at hu
  ·exact hu
  cases hu
 refine⟨g,cap,hv,⟨cur.toList,⟨fun j v hj=>by rw[Nat.zero_add];exact hcell j v hj,fun j hj=>?_,(Array.getElem?_eq_some_iff.1 hg).1⟩,?_,fun i q hi=>?_⟩,h1,hb⟩
 ·unfold World.frozen?
  rw[hg]
  simp
 ·have hsz:cur.toList.length=cur.size:=Array.length_toList
  omega
 have hr:(l.map ptR)[i]?=some (ptR q):=by rw[List.getElem?_map];show Option.map ptR l[i]?=_;rw[show l[i]?=some q from hi];rfl
 exact⟨hfl _ _ (flat_get (ptR_wid l) hr (j:=0) rfl),hfl _ _ (flat_get (ptR_wid l) hr (j:=1) rfl)⟩
def PcI (W:World) (n₀ Bp Bo l:Nat) (J:Nat→World→Prop) (ps os:List Pt) (i:Nat) (Y:World):Prop :=
 J (pcN ps os i) Y∧BoxAt Y W.heap.size [.func (.yield l) #[] #[]]∧Below n₀ W Y∧Two Bp Bo W Y∧W.heap.size+2≤Y.heap.size
def PcX (Jx:Nat→World→Prop) (N:Nat) (c:Code) (_:Nat) (Y:World):Prop:=c=.ret∧∃ j,j<N∧Jx j Y
theorem pcI_own {W:World} {n₀ Bp Bo l:Nat} {J:Nat→World→Prop} {ps os:List Pt} {B:Nat} (hJ:∀ k X Y,J k X→AbM W.heap.size X Y→J k Y) (hB:W.heap.size≤B) (hn:n₀≤W.heap.size) (hp:Bp<W.heap.size) (ho:Bo<W.heap.size):OwnFrom B (PcI W n₀ Bp Bo l J ps os):=fun k X Y row hs hg hr=>by
 obtain⟨h1,h2,h3,h4,h5⟩:=hs
 have hbl:∀ b,b<W.heap.size→Y.heap[b]?=X.heap[b]?:=fun b hb=>World.grownBy.block hg b (by omega) (fun e=>by have:=(hr b e.symm).1;omega)
 refine⟨hJ _ _ _ h1 ?_,h2.keptF hg (fun r e=>(hr r e).2),ownFrom_below (β:=Unit) hn (Nat.le_trans hn hB) () X Y row h3 hg hr,h4.trans ⟨hbl _ hp,hbl _ ho⟩,Nat.le_trans h5 hg.size⟩
 exact AbM.of ((Below.refl _ _).grown hg (by omega) (fun r e=>Nat.le_trans hB (hr r e).1))
theorem pcX_own {W:World} {Jx:Nat→World→Prop} {N B:Nat} (hJ:∀ k X Y,Jx k X→AbM W.heap.size X Y→Jx k Y) (hB:W.heap.size≤B) (c:Code):OwnFrom B (PcX Jx N c):=fun k X Y row hs hg hr=>by
 obtain⟨h1,j,h2,h3⟩:=hs
 exact⟨h1,j,h2,hJ _ _ _ h3 ((Below.refl _ _).grown hg (Nat.min_le_right _ _) (fun r e=>Nat.le_trans (Nat.min_le_left _ _) (Nat.le_trans hB (hr r e).1)))⟩
end Go.Proofs.YthfokpchdlcidaaGreat
