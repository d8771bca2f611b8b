/- What the statements rest on: definitions and walks, part 11. -/
import Derived.Test.YtoojdkaimhlcbaaGreatJ10
import Derived.Shelf.SlSortCmp.NoneTotal
set_option maxRecDepth 100000
set_option maxHeartbeats 16000000
set_option linter.unusedSimpArgs false
set_option linter.unusedVariables false
namespace Go.Proofs.YtoojdkaimhlcbaaGreat
open Go Go.RowKit Go.Shelf
structure RB where
 old:ByteArray
 new:ByteArray
def rb0:RB:=⟨⟨#[]⟩,⟨#[]⟩⟩
def rbR (x:RB):List Value:=[.string x.old,.string x.new]
def rbB (p q:RB):Bool:=p.old.toList == q.old.toList && p.new.toList == q.new.toList
theorem bytes_ext {a b:ByteArray} (h:a.toList=b.toList):a=b:=by
 rw[ByteArray.toList_eq,ByteArray.toList_eq] at h
 cases a;cases b
 rw[ByteArray.mk.injEq]
 exact Array.toList_inj.1 h
theorem rbB_iff {p q:RB}:rbB p q=true↔p=q:=by
 unfold rbB
 rw[Bool.and_eq_true,beq_iff_eq,beq_iff_eq]
 constructor
 ·rintro⟨h1,h2⟩
  cases p;cases q
  rw[RB.mk.injEq]
  exact⟨bytes_ext h1,bytes_ext h2⟩
 rintro rfl;exact⟨rfl,rfl⟩
instance instRB:DecidableEq RB:=fun a b=>decidable_of_iff (rbB a b=true) rbB_iff
def rbAt (l:List RB) (i:Nat):RB:=l[i]?.getD rb0
theorem rbAt_get {l:List RB} {i:Nat} (h:i<l.length):l[i]?=some (rbAt l i):=by unfold rbAt;rw[List.getElem?_eq_getElem h];rfl
def AtN (w:World) (M:Nat) (l:List RB):Prop:=∃ cs:List Value,BoxAt w M cs∧l.length*2≤cs.length∧∀ (i:Nat) (q:RB),l[i]?=some q→cs[i*2]?=some (.string q.old)∧cs[i*2+1]?=some (.string q.new)
section
variable {w : World} {M : Nat} {l : List RB}
theorem AtN.lt (h:AtN w M l):M<w.heap.size:=by obtain⟨cs,hb,_⟩:=h;exact hb.lt
theorem AtN.at_ (h:AtN w M l) {i:Nat} (hi:i<l.length):w.cell? ⟨M,i*2,none⟩=some (.string (rbAt l i).old)∧w.cell? ⟨M,i*2+1,none⟩=some (.string (rbAt l i).new):=by
 obtain⟨cs,hb,h1,h2⟩:=h
 obtain⟨c0,c1⟩:=h2 i _ (rbAt_get hi)
 exact⟨hb.c _ _ c0,hb.c _ _ c1⟩
theorem AtN.rows (h:AtN w M l):RowsAt w (some ⟨M,0,none⟩) 2 (l.map rbR):=fun j r hr=>by
 rw[List.getElem?_map] at hr
 cases hq:l[j]? with
 | none=>rw[hq] at hr;cases hr
 | some q =>
  rw[hq] at hr
  cases hr
  have hj:j<l.length:=(List.getElem?_eq_some_iff.1 hq).1
  obtain⟨c0,c1⟩:=h.at_ hj
  have hq':rbAt l j=q:=by unfold rbAt;rw[hq];rfl
  rw[hq'] at c0 c1
  refine⟨M,0,rfl,h.lt,fun i v hv=>?_⟩
  rw[Nat.zero_add]
  match i,hv with
  | 0,hv=>cases hv;exact c0
  | 1,hv=>cases hv;exact c1
end
theorem undRbs:(Tryz.prog).underlying 22=some (.slice 41):=Tryz.underlying22
theorem AtN.clear {w:World} {M:Nat} {cur:List RB} {n k c:Nat} (h:AtN w M cur) (hl:cur.length=n) (hk:k<n) :
  ∃ w',(∀ ty,(Builtin.clear_ #[22] ty #[.slice (some ⟨M,k*2,none⟩) (n-k) c]).run Tryz.prog w=.ok (.tuple #[]) w')∧AtN w' M (cur.take k)∧w.grownBy w' (some M):=by
 obtain⟨cs,hb,h1,h2⟩:=h
 obtain⟨vs,hvs⟩:∃ vs,vs=(Builtin.zeroCells #[.string ⟨#[]⟩,.string ⟨#[]⟩] (n-k)).toList:=⟨_,rfl⟩
 have hlen:vs.length=(n-k)*2:=by rw[hvs];simp[Builtin.zeroCells]
 have hone:∀ v∈vs,v.oneCell'=true:=fun v hv=>by
  rw[hvs] at hv
  simp only[Builtin.zeroCells,Array.toList_map,List.mem_map] at hv
  obtain⟨i,_,rfl⟩:=hv
  have:i % 2=0∨i % 2=1:=by omega
  rcases this with h | h <;> simp[h,Value.oneCell']
 have hst:=run_storeCells_cells (P:=Tryz.prog) M (k*2) vs 0 w
  (fun j hj=>by
   have hj':k*2+0+j<cs.length:=by omega
   rw[hb.c _ _ (List.getElem?_eq_getElem hj')];rfl)
  (fun j hj=>hb.free _ (by omega)) hone
 rw[Nat.add_zero] at hst
 refine⟨w.setCells M (k*2) vs,fun ty=>?_,?_,grown_setCells _ _ _ _⟩
 ·obtain⟨m,hm⟩:∃ m,n-k=m+1:=⟨n-k-1,by omega⟩
  rw[hm] at hvs ⊢
  simp[Builtin.clear_,run_underlying undRbs,Value.cells,←hvs,hst]
 obtain⟨cs',h3,h4,h5⟩:=BoxAt.setCells vs (k*2) w cs hb (by omega)
 refine⟨cs',h3,by rw[List.length_take];omega,fun i q hq=>?_⟩
 have hi:i<k:=by
  have:=(List.getElem?_eq_some_iff.1 hq).1
  rw[List.length_take] at this
  omega
 rw[List.getElem?_take,if_pos hi] at hq
 obtain⟨a0,a1⟩:=h2 i q hq
 exact⟨(h5 _ (by omega)).trans a0,(h5 _ (by omega)).trans a1⟩
end Go.Proofs.YtoojdkaimhlcbaaGreat
namespace Go.Proofs.YtoojdkaimhlcbaaGreat
open Go Go.RowKit
theorem rows_take {w:World} {A:Option Addr} {m:Nat} {rows:List (List Value)} (h:RowsAt w A m rows) (k:Nat):RowsAt w A m (rows.take k):=fun j r hr=>by
 refine h j r ?_
 rw[List.getElem?_take] at hr
 split at hr
 ·exact hr
 cases hr
theorem rows_drop {w:World} {A:Option Addr} {m:Nat} {rows:List (List Value)} (h:RowsAt w A m rows) (k:Nat):RowsAt w (A.map (·.add (k*m))) m (rows.drop k):=fun j r hr=>by
 rw[List.getElem?_drop] at hr
 obtain⟨b,o,hA,hb,hc⟩:=h _ r hr
 refine⟨b,o+k*m,?_,hb,fun i v hv=>?_⟩
 ·rw[hA,Option.map_some,addr_add]
 have:=hc i v hv
 rw[show o+k*m+(j*m+i)=o+((k+j)*m+i) by rw[Nat.add_mul];omega]
 exact this
theorem OwnL.capN {w:World} {B c n:Nat} {E:TypeId} {m:Nat} {A:Option Addr} {rows:List (List Value)} (h:OwnL w B E m (.slice A n c) rows):n=rows.length∧n≤c:=by
 obtain⟨A0,c0,hv,hr⟩:=h.form
 simp only[Value.slice.injEq] at hv
 obtain⟨rfl,rfl,rfl⟩:=hv
 refine⟨rfl,?_⟩
 rcases h.own.2 with ⟨h1,h2⟩ | ⟨g,cap,cur,hv,_,_,h3,_⟩
 ·omega
 simp only[Value.slice.injEq,true_and] at hv;omega
theorem OwnL.head {t:TypeId} {w:World} {B c n:Nat} {E:TypeId} {m:Nat} {A:Option Addr} {rows:List (List Value)} (h:OwnL w B E m (.slice A n c) rows) (hu:Tryz.prog.underlying t=some (.slice (Tryz.prog.elem t))) (hz:∀ w,(sizeOf (Tryz.prog.elem t)).run Tryz.prog w=.ok m w) {k:Nat} (hk:k≤n) :
  ∃ A1 c1,(∀ w',(Instr.slice t (.slice A n c) none (some (.int .i64 k)) none).run Tryz.prog w'=.ok (.slice A1 k c1) w')∧RowsAt w A1 m (rows.take k):=by
 obtain⟨A0,c0,hv,hr⟩:=h.form
 obtain⟨_,hcap⟩:=h.capN
 simp only[Value.slice.injEq] at hv
 obtain⟨rfl,rfl,rfl⟩:=hv
 have hr1:=rows_take hr k
 refine⟨if c=0 then A else A.map (·.add (0*m)),c-0,fun w'=>?_,?_⟩
 ·rw[run_slice_h w' t A rows.length c hu .i64 k (by omega) (by omega),hz]
  simp[Result.andThen,sliced]
 split
 ·exact hr1
 have:=rows_drop hr1 0
 rw[List.drop_zero] at this
 exact this
theorem OwnL.tail {t:TypeId} {w:World} {B c n:Nat} {E:TypeId} {m:Nat} {A:Option Addr} {rows:List (List Value)} (h:OwnL w B E m (.slice A n c) rows) (hu:Tryz.prog.underlying t=some (.slice (Tryz.prog.elem t))) (hz:∀ w,(sizeOf (Tryz.prog.elem t)).run Tryz.prog w=.ok m w) {k:Nat} (hk:k≤n) :
  ∃ A2 c2,(∀ w',(Instr.slice t (.slice A n c) (some (.int .i64 k)) none none).run Tryz.prog w'=.ok (.slice A2 (n-k) c2) w')∧RowsAt w A2 m (rows.drop k):=by
 obtain⟨A0,c0,hv,hr⟩:=h.form
 obtain⟨_,hcap⟩:=h.capN
 simp only[Value.slice.injEq] at hv
 obtain⟨rfl,rfl,rfl⟩:=hv
 refine⟨if c=k then A else A.map (·.add (k*m)),c-k,fun w'=>?_,?_⟩
 ·rw[run_slice_l w' t A rows.length c hu .i64 k (by omega) (by omega),hz]
  simp[Result.andThen,sliced]
 split
 ·have:rows.drop k=[]:=List.drop_eq_nil_of_le (by omega)
  rw[this]
  exact RowsAt.nil _ _ _
 exact rows_drop hr k
theorem rows_far {w w':World} {row:Option Nat} {A:Option Addr} {m:Nat} {rows:List (List Value)} (h:RowsAt w A m rows) (hg:w.grownBy w' row) (hne:∀ a,A=some a→some a.block≠row):RowsAt w' A m rows:=fun k r hr=>by
 obtain⟨b,o,hA,hlt,hc⟩:=h k r hr
 exact⟨b,o,hA,Nat.lt_of_lt_of_le hlt hg.size,fun j v hv=>hg.cell (hc j v hv) (show some b≠row from hne ⟨b,o,none⟩ hA)⟩
end Go.Proofs.YtoojdkaimhlcbaaGreat
namespace Go.Proofs.YtoojdkaimhlcbaaGreat
open Go Go.RowKit Go.Shelf
theorem Sx.putC {w W:World} {L:List (Nat × Nat × Value)} {b:Nat} {vs:List Value} (h:Sx w L W) (hb:w.heap.size≤b) (hL:∀ x∈L,x.1<w.heap.size):Sx w L (W.setCells b 0 vs) :=
 ⟨fun x hx=>(World.cell?_of_block (a:=⟨x.1,x.2.1,none⟩) ((grown_setCells b vs 0 W).block x.1 (Nat.lt_of_lt_of_le (hL x hx) h.bel.size) (fun e=>by have:=hL x hx;have:=Option.some.inj e;omega))).trans (h.cs x hx),below_of_grownB h.bel (grown_setCells b vs 0 W) hb⟩
end Go.Proofs.YtoojdkaimhlcbaaGreat
namespace Go.Proofs.YtoojdkaimhlcbaaGreat
open Go Go.RowKit Go.Shelf
theorem mk_bools (W:World) (n:Nat) (hn:n≤1000000):(Instr.makeSlice 71 (.int .i64 (n:Int)) (.int .i64 (n:Int))).run Tryz.prog W=.ok (.slice (some ⟨W.heap.size,0,none⟩) n n) (W.alloc (.cells (madeCells #[.bool false] n) 4)) :=
 run_make_row' _ _ _ 1 Tryz.underlying71 (by kernel_rfl) rfl .i64 .i64 n (by omega) (by omega) W
end Go.Proofs.YtoojdkaimhlcbaaGreat
namespace Go.Proofs.YtoojdkaimhlcbaaGreat.Cal
def sclH (p:Int) (h:Int × Int):Int:=h.1*p.tdiv h.2
def xs (p:Int) (fr:List (Int × Int)) (i:Nat):Int:=sclH p (fr[i]?.getD (0,1))
end Go.Proofs.YtoojdkaimhlcbaaGreat.Cal
namespace Go.Proofs.YtoojdkaimhlcbaaGreat
open Go Go.RowKit Go.Shelf
theorem Sx.grow {w W W':World} {L:List (Nat × Nat × Value)} {row:Option Nat} (h:Sx w L W) (hg:W.grownBy W' row) (hw:∀ g,row=some g→w.heap.size≤g) (hL:∀ x∈L,row≠some x.1∧x.1<W.heap.size):Sx w L W' :=
 ⟨fun x hx=>(World.cell?_of_block (a:=⟨x.1,x.2.1,none⟩) (hg.block x.1 (hL x hx).2 (fun e=>(hL x hx).1 e.symm))).trans (h.cs x hx),h.bel.trans ((Below.refl _ _).grown hg h.bel.size (fun k e=>hw k e))⟩
end Go.Proofs.YtoojdkaimhlcbaaGreat
namespace Go.Proofs.YtoojdkaimhlcbaaGreat
open Go Go.RowKit Go.Sort
theorem OwnL.formR {wa:World} {B n c m:Nat} {E:TypeId} {A:Option Addr} {rows:List (List Value)} (h:OwnL wa B E m (.slice A n c) rows):RowsAt wa A m rows:=by
 obtain⟨A0,c0,hv,hr⟩:=h.form
 simp only[Value.slice.injEq] at hv
 obtain⟨rfl,_,_⟩:=hv
 exact hr
end Go.Proofs.YtoojdkaimhlcbaaGreat
namespace Go.Proofs.YtoojdkaimhlcbaaGreat
namespace Cal
def oldT (l:List Rn) (k:Nat):Txt:=(l[k]?.map Rn.old).getD []
def newT (l:List Rn) (k:Nat):Txt:=(l[k]?.map Rn.new).getD []
theorem oldT_at {l:List Rn} {k:Nat} (h:k<l.length):oldT l k=l[k].old:=by unfold oldT;rw[List.getElem?_eq_getElem h];rfl
theorem newT_at {l:List Rn} {k:Nat} (h:k<l.length):newT l k=l[k].new:=by unfold newT;rw[List.getElem?_eq_getElem h];rfl
inductive Rch (l:List Rn) (i:Nat):Nat→Prop
 | refl (h:i<l.length):Rch l i i
 | step {j k:Nat} (h:Rch l i j) (hk:k<l.length) (e:oldT l j=oldT l k∨newT l j=newT l k):Rch l i k
theorem Rch.lt {l:List Rn} {i k:Nat} (h:Rch l i k):k<l.length:=by
 cases h with
 | refl h=>exact h
 | step _ hk _=>exact hk
theorem Rch.lt0 {l:List Rn} {i k:Nat} (h:Rch l i k):i<l.length:=by
 induction h with
 | refl h=>exact h
 | step _ _ _ ih=>exact ih
theorem Rch.trans {l:List Rn} {i j k:Nat} (h1:Rch l i j) (h2:Rch l j k):Rch l i k:=by
 induction h2 with
 | refl _=>exact h1
 | step _ hk e ih=>exact ih.step hk e
theorem Rch.symm {l:List Rn} {i k:Nat} (h:Rch l i k):Rch l k i:=by
 induction h with
 | refl h=>exact .refl h
 | step h hk e ih =>
  refine Rch.trans (Rch.step (.refl hk) h.lt ?_) ih
  rcases e with e | e
  ·exact .inl e.symm
  exact .inr e.symm
def fstP (l:List Rn) (i:Nat):Prop:=∀ j,j<i→¬Rch l j i
noncomputable def rchB (l:List Rn) (i k:Nat):Bool:=@decide (Rch l i k) (Classical.propDecidable _)
theorem rchB_iff {l:List Rn} {i k:Nat}:rchB l i k=true↔Rch l i k:=by unfold rchB;exact @decide_eq_true_iff _ (Classical.propDecidable _)
noncomputable def fstB (l:List Rn) (i:Nat):Bool:=@decide (fstP l i) (Classical.propDecidable _)
theorem fstB_iff {l:List Rn} {i:Nat}:fstB l i=true↔fstP l i:=by unfold fstB;exact @decide_eq_true_iff _ (Classical.propDecidable _)
noncomputable def compO (l:List Rn) (i:Nat):List Txt:=tups (((List.range l.length).filter (rchB l i)).map (oldT l))
noncomputable def compM (l:List Rn) (i:Nat):List Txt:=tups (((List.range l.length).filter (rchB l i)).map (newT l))
theorem compO_mem {l:List Rn} {i:Nat} {d:Txt}:d∈compO l i↔∃ k,Rch l i k∧oldT l k=d:=by
 unfold compO
 rw[(tups_spec _).2,List.mem_map]
 constructor
 ·rintro⟨k,hk,e⟩
  rw[List.mem_filter,rchB_iff] at hk
  exact⟨k,hk.2,e⟩
 rintro⟨k,hk,e⟩
 exact⟨k,by rw[List.mem_filter,rchB_iff,List.mem_range];exact⟨hk.lt,hk⟩,e⟩
theorem compM_mem {l:List Rn} {i:Nat} {d:Txt}:d∈compM l i↔∃ k,Rch l i k∧newT l k=d:=by
 unfold compM
 rw[(tups_spec _).2,List.mem_map]
 constructor
 ·rintro⟨k,hk,e⟩
  rw[List.mem_filter,rchB_iff] at hk
  exact⟨k,hk.2,e⟩
 rintro⟨k,hk,e⟩
 exact⟨k,by rw[List.mem_filter,rchB_iff,List.mem_range];exact⟨hk.lt,hk⟩,e⟩
theorem compO_is {l:List Rn} {i:Nat} {zs:List Txt} (h:∀ d,d∈zs↔∃ k,Rch l i k∧oldT l k=d):tups zs=compO l i :=
 tups_eq (by unfold compO;exact (tups_spec _).1) fun d=>by rw[compO_mem,h]
theorem compM_is {l:List Rn} {i:Nat} {zs:List Txt} (h:∀ d,d∈zs↔∃ k,Rch l i k∧newT l k=d):tups zs=compM l i :=
 tups_eq (by unfold compM;exact (tups_spec _).1) fun d=>by rw[compM_mem,h]
theorem tups_self {zs:List Txt} (h:zs.Pairwise (·<·)):tups zs=zs:=tups_eq h fun _=>Iff.rfl
noncomputable def prtTo (l:List Rn) (i:Nat):List (List Txt × List Txt):=((List.range i).filter (fstB l)).map fun k=>(compO l k,compM l k)
theorem prtTo_yes {l:List Rn} {i:Nat} (h:fstP l i):prtTo l (i+1)=prtTo l i ++ [(compO l i,compM l i)]:=by
 unfold prtTo
 rw[List.range_succ,List.filter_append,List.map_append,List.filter_cons_of_pos (fstB_iff.2 h)]
 rfl
theorem prtTo_no {l:List Rn} {i:Nat} (h:¬fstP l i):prtTo l (i+1)=prtTo l i:=by
 unfold prtTo
 rw[List.range_succ,List.filter_append,List.map_append,List.filter_cons_of_neg (fun e=>h (fstB_iff.1 e))]
 simp
theorem prtTo_len (l:List Rn) (i:Nat):(prtTo l i).length≤i:=by
 unfold prtTo
 rw[List.length_map]
 exact Nat.le_trans (List.length_filter_le _ _) (by rw[List.length_range];exact Nat.le_refl _)
structure Outs (l:List Rn) (i:Nat) (tk:List Bool):Prop where
 len:tk.length=l.length
 iff:∀ k:Nat,k<l.length→(tk[k]?=some true↔∃ j,j<i∧Rch l j k)
theorem Outs.zero (l:List Rn):Outs l 0 (List.replicate l.length false):=⟨List.length_replicate,fun k hk=>by
 rw[List.getElem?_replicate,if_pos hk]
 constructor
 ·intro h;cases h
 rintro⟨j,h,_⟩;omega⟩
theorem Outs.skip {l:List Rn} {i:Nat} {tk:List Bool} (h:Outs l i tk) (hi:i<l.length) (ht:tk[i]?=some true):Outs l (i+1) tk∧¬fstP l i:=by
 obtain⟨j0,hj0,hr0⟩:=(h.iff i hi).1 ht
 refine⟨⟨h.len,fun k hk=>?_⟩,fun hf=>hf j0 hj0 hr0⟩
 rw[h.iff k hk]
 constructor
 ·rintro⟨j,hj,hr⟩;exact⟨j,by omega,hr⟩
 rintro⟨j,hj,hr⟩
 rcases Nat.lt_or_eq_of_le (show j≤i by omega) with h' | rfl
 ·exact⟨j,h',hr⟩
 exact⟨j0,hj0,hr0.trans hr⟩
theorem Outs.fst {l:List Rn} {i:Nat} {tk:List Bool} (h:Outs l i tk) (hi:i<l.length) (ht:tk[i]?=some false):fstP l i:=fun j hj hr=>by
 have:=(h.iff i hi).2 ⟨j,hj,hr⟩
 rw[ht] at this
 cases this
def mtc (l:List Rn) (O M:List Txt) (k:Nat):Prop:=oldT l k∈O∨newT l k∈M
instance (l:List Rn) (O M:List Txt) (k:Nat):Decidable (mtc l O M k):=by unfold mtc;infer_instance
structure Gth (l:List Rn) (i:Nat) (tk:List Bool) (O M:List Txt):Prop where
 len:tk.length=l.length
 lt:i<l.length
 first:fstP l i
 sound:∀ k:Nat,tk[k]?=some true→(∃ j,j<i∧Rch l j k)∨(Rch l i k∧oldT l k∈O∧newT l k∈M)
 done:∀ j k:Nat,j<i→Rch l j k→tk[k]?=some true
 oin:∀ d∈O,∃ k,Rch l i k∧oldT l k=d
 min:∀ d∈M,∃ k,Rch l i k∧newT l k=d
 start:oldT l i∈O
theorem Outs.gather {l:List Rn} {i:Nat} {tk:List Bool} (h:Outs l i tk) (hi:i<l.length) (ht:tk[i]?=some false) (M:List Txt) (hM:∀ d∈M,d=newT l i):Gth l i tk [oldT l i] M where
 len:=h.len
 lt:=hi
 first:=h.fst hi ht
 sound:=fun k hk=>.inl ((h.iff k (by have:=(List.getElem?_eq_some_iff.1 hk).1;rw[h.len] at this;exact this)).1 hk)
 done:=fun j k hj hr=>(h.iff k hr.lt).2 ⟨j,hj,hr⟩
 oin:=fun d hd=>⟨i,.refl hi,(List.mem_singleton.1 hd).symm⟩
 min:=fun d hd=>⟨i,.refl hi,(hM d hd).symm⟩
 start:=List.mem_singleton.2 rfl
theorem Gth.reach {l:List Rn} {i:Nat} {tk:List Bool} {O M:List Txt} (h:Gth l i tk O M) {k:Nat} (hk:k<l.length) (hm:mtc l O M k):Rch l i k:=by
 rcases hm with hm | hm
 ·obtain⟨j,hr,e⟩:=h.oin _ hm
  exact hr.step hk (.inl e)
 obtain⟨j,hr,e⟩:=h.min _ hm
 exact hr.step hk (.inr e)
theorem Gth.join {l:List Rn} {i:Nat} {tk:List Bool} {O M O' M':List Txt} (h:Gth l i tk O M) {k:Nat} (hk:k<l.length) (hm:mtc l O M k) (hO:∀ d,d∈O'↔d∈O∨d=oldT l k) (hM:∀ d,d∈M'↔d∈M∨d=newT l k):Gth l i (tk.set k true) O' M':=by
 have hr:=h.reach hk hm
 refine⟨by rw[List.length_set];exact h.len,h.lt,h.first,fun m hm'=>?_,fun j m hj hr'=>?_,fun d hd=>?_,fun d hd=>?_,(hO _).2 (.inl h.start)⟩
 ·rw[List.getElem?_set] at hm'
  split at hm'
  ·rename_i e
   subst e
   exact .inr ⟨hr,(hO _).2 (.inr rfl),(hM _).2 (.inr rfl)⟩
  rcases h.sound m hm' with h1 | ⟨h1,h2,h3⟩
  ·exact .inl h1
  exact .inr ⟨h1,(hO _).2 (.inl h2),(hM _).2 (.inl h3)⟩
 ·rw[List.getElem?_set]
  split
  ·rename_i e
   subst e
   rw[if_pos (by rw[h.len];exact hk)]
  exact h.done j m hj hr'
 ·rcases (hO d).1 hd with h1 | h1
  ·exact h.oin d h1
  exact⟨k,hr,h1.symm⟩
 rcases (hM d).1 hd with h1 | h1
 ·exact h.min d h1
 exact⟨k,hr,h1.symm⟩
theorem Gth.inside {l:List Rn} {i:Nat} {tk:List Bool} {O M:List Txt} (h:Gth l i tk O M) {k:Nat} (hk:k<l.length) (hm:mtc l O M k) (ht:tk[k]?=some true):oldT l k∈O∧newT l k∈M:=by
 have hr:=h.reach hk hm
 rcases h.sound k ht with ⟨j,hj,hr'⟩ | ⟨_,h2⟩
 ·exact absurd (hr'.trans hr.symm) (h.first j hj)
 exact h2
def Cls (l:List Rn) (tk:List Bool) (O M:List Txt):Prop:=∀ k:Nat,k<l.length→mtc l O M k→tk[k]?=some true
theorem Gth.whole {l:List Rn} {i:Nat} {tk:List Bool} {O M:List Txt} (h:Gth l i tk O M) (hc:Cls l tk O M) {k:Nat} (hr:Rch l i k):tk[k]?=some true∧oldT l k∈O∧newT l k∈M:=by
 induction hr with
 | refl hi =>
  have ht:=hc i hi (.inl h.start)
  exact⟨ht,h.inside hi (.inl h.start) ht⟩
 | @step j k hr hk e ih =>
  have hm:mtc l O M k:=by
   rcases e with e | e
   ·exact .inl (by rw[←e];exact ih.2.1)
   exact .inr (by rw[←e];exact ih.2.2)
  have ht:=hc _ hk hm
  exact⟨ht,h.inside hk hm ht⟩
theorem Gth.ends {l:List Rn} {i:Nat} {tk:List Bool} {O M:List Txt} (h:Gth l i tk O M) (hc:Cls l tk O M):Outs l (i+1) tk∧tups O=compO l i∧tups M=compM l i:=by
 refine⟨⟨h.len,fun k hk=>⟨fun ht=>?_,?_⟩⟩,compO_is fun d=>⟨h.oin d,?_⟩,compM_is fun d=>⟨h.min d,?_⟩⟩
 ·rcases h.sound k ht with ⟨j,hj,hr⟩ | ⟨hr,_⟩
  ·exact⟨j,by omega,hr⟩
  exact⟨i,by omega,hr⟩
 ·rintro⟨j,hj,hr⟩
  rcases Nat.lt_or_eq_of_le (show j≤i by omega) with h' | rfl
  ·exact h.done j k h' hr
  exact (h.whole hc hr).1
 ·rintro⟨k,hr,rfl⟩;exact (h.whole hc hr).2.1
 rintro⟨k,hr,rfl⟩;exact (h.whole hc hr).2.2
theorem count_set {tk:List Bool}:∀ {k:Nat},tk[k]?=some false→(tk.set k true).count true=tk.count true+1:=by
 induction tk with
 | nil=>intro k h;cases h
 | cons b r ih =>
  intro k h
  cases k with
  | zero =>
   rw[List.getElem?_cons_zero] at h
   cases h
   rw[List.set_cons_zero,List.count_cons_self,List.count_cons_of_ne (by decide)]
  | succ k =>
   rw[List.getElem?_cons_succ] at h
   rw[List.set_cons_succ,List.count_cons,List.count_cons,ih h]
   omega
theorem set_same {tk:List Bool} {k:Nat} (h:tk[k]?=some true):tk.set k true=tk:=by
 apply List.ext_getElem?
 intro m
 rw[List.getElem?_set]
 split
 ·rename_i e
  subst e
  rw[if_pos (List.getElem?_eq_some_iff.1 h).1,h]
 rfl
theorem count_full {tk:List Bool} (h:tk.length≤tk.count true) {k:Nat} (hk:k<tk.length):tk[k]?=some true:=by
 induction tk generalizing k with
 | nil=>cases hk
 | cons b r ih =>
  have hr:=List.count_le_length (a:=true) (l:=r)
  rw[List.count_cons,List.length_cons] at h
  have hb:b=true:=by
   cases b with
   | true=>rfl
   | false=>simp at h;omega
  subst hb
  cases k with
  | zero=>rfl
  | succ k =>
   rw[List.getElem?_cons_succ]
   exact ih (by simp at h;omega) (by simpa using hk)
structure Pss (l:List Rn) (i k:Nat) (tk0 tk:List Bool) (O0 M0 O M:List Txt):Prop where
 g:Gth l i tk O M
 upO:O.Pairwise (·<·)
 upM:M.Pairwise (·<·)
 hit:∀ m:Nat,m<k→mtc l O0 M0 m→tk[m]?=some true
 sub:∀ m:Nat,tk0[m]?=some true→tk[m]?=some true
 more:∀ m:Nat,mtc l O0 M0 m→mtc l O M m
 or:(tk=tk0∧O=O0∧M=M0)∨(tk0.count true<tk.count true∧¬Cls l tk0 O0 M0)
theorem Pss.start {l:List Rn} {i:Nat} {tk:List Bool} {O M:List Txt} (h:Gth l i tk O M) (h1:O.Pairwise (·<·)) (h2:M.Pairwise (·<·)):Pss l i 0 tk tk O M O M :=
 ⟨h,h1,h2,fun m hm=>absurd hm (Nat.not_lt_zero _),fun _ h=>h,fun _ h=>h,.inl ⟨rfl,rfl,rfl⟩⟩
theorem Pss.no {l:List Rn} {i k:Nat} {tk0 tk:List Bool} {O0 M0 O M:List Txt} (h:Pss l i k tk0 tk O0 M0 O M) (hm:¬mtc l O M k):Pss l i (k+1) tk0 tk O0 M0 O M :=
 ⟨h.g,h.upO,h.upM,fun m hlt hmm=>by
  rcases Nat.lt_or_eq_of_le (show m≤k by omega) with h' | rfl
  ·exact h.hit m h' hmm
  exact absurd (h.more m hmm) hm,h.sub,h.more,h.or⟩
theorem Pss.yes {l:List Rn} {i k:Nat} {tk0 tk:List Bool} {O0 M0 O M:List Txt} (h:Pss l i k tk0 tk O0 M0 O M) (hk:k<l.length) (hm:mtc l O M k):Pss l i (k+1) tk0 (tk.set k true) O0 M0 (tups (O ++ [oldT l k])) (tups (M ++ [newT l k])):=by
 have hO:∀ d,d∈tups (O ++ [oldT l k])↔d∈O∨d=oldT l k:=fun d=>by rw[(tups_spec _).2,List.mem_append,List.mem_singleton]
 have hM:∀ d,d∈tups (M ++ [newT l k])↔d∈M∨d=newT l k:=fun d=>by rw[(tups_spec _).2,List.mem_append,List.mem_singleton]
 have hset:∀ m,tk[m]?=some true→(tk.set k true)[m]?=some true:=fun m hmt=>by
  rw[List.getElem?_set]
  split
  ·rename_i e
   subst e
   rw[if_pos (List.getElem?_eq_some_iff.1 hmt).1]
  exact hmt
 refine⟨h.g.join hk hm hO hM,(tups_spec _).1,(tups_spec _).1,fun m hlt hmm=>?_,fun m hmt=>hset m (h.sub m hmt),fun m hmm=>?_,?_⟩
 ·rcases Nat.lt_or_eq_of_le (show m≤k by omega) with h' | rfl
  ·exact hset m (h.hit m h' hmm)
  rw[List.getElem?_set,if_pos rfl,if_pos (by rw[h.g.len];exact hk)]
 ·rcases h.more m hmm with h1 | h1
  ·exact .inl ((hO _).2 (.inl h1))
  exact .inr ((hM _).2 (.inl h1))
 have hkt:k<tk.length:=by rw[h.g.len];exact hk
 cases hb:tk[k] with
 | true =>
  have ht:tk[k]?=some true:=by rw[List.getElem?_eq_getElem hkt,hb]
  obtain⟨i1,i2⟩:=h.g.inside hk hm ht
  rw[set_same ht,tups_snoc_in h.upO i1,tups_snoc_in h.upM i2]
  exact h.or
 | false =>
  have ht:tk[k]?=some false:=by rw[List.getElem?_eq_getElem hkt,hb]
  right
  rw[count_set ht]
  rcases h.or with ⟨rfl,rfl,rfl⟩ | ⟨h1,h2⟩
  ·refine⟨Nat.lt_succ_self _,fun hc=>?_⟩
   have:=hc k hk hm
   rw[ht] at this
   cases this
  exact⟨by omega,h2⟩
theorem Pss.ends {l:List Rn} {i p c:Nat} {tk0 tk:List Bool} {O0 M0 O M:List Txt} (h:Pss l i l.length tk0 tk O0 M0 O M) (hp:Cls l tk0 O0 M0∨c+p≤tk0.count true):Cls l tk O M∨c+(p+1)≤tk.count true:=by
 rcases h.or with ⟨rfl,rfl,rfl⟩ | ⟨h1,h2⟩
 ·exact .inl fun k hk hm=>h.hit k hk hm
 right
 rcases hp with hp | hp
 ·exact absurd hp h2
 omega
theorem cls_full {l:List Rn} {tk:List Bool} {O M:List Txt} {c:Nat} (hl:tk.length=l.length) (h:Cls l tk O M∨c+l.length≤tk.count true):Cls l tk O M:=by
 rcases h with h | h
 ·exact h
 exact fun k hk _=>count_full (by omega) (by omega)
def hasR (x:Rn) (p:List Txt × List Txt):Bool:=decide (x.old∈p.1) && decide (x.new∈p.2)
theorem hasR_iff {l:List Rn} {i q:Nat} (hi:i<l.length):hasR l[i] (compO l q,compM l q)=true↔Rch l q i:=by
 unfold hasR
 rw[Bool.and_eq_true,decide_eq_true_iff,decide_eq_true_iff]
 constructor
 ·rintro⟨h,_⟩
  obtain⟨k,hr,e⟩:=compO_mem.1 h
  exact hr.step hi (.inl (by rw[e,oldT_at hi]))
 intro h
 exact⟨compO_mem.2 ⟨i,h,oldT_at hi⟩,compM_mem.2 ⟨i,h,newT_at hi⟩⟩
theorem fst_ex {l:List Rn}:∀ (i:Nat),i<l.length→∃ q,q≤i∧fstP l q∧Rch l q i:=by
 intro i
 induction i using Nat.strongRecOn with
 | ind i ih =>
  intro hi
  by_cases h:fstP l i
  ·exact⟨i,Nat.le_refl _,h,.refl hi⟩
  have:∃ j,j<i∧Rch l j i:=Classical.byContradiction fun hn=>h fun j hj hr=>hn ⟨j,hj,hr⟩
  obtain⟨j,hj,hr⟩:=this
  obtain⟨q,h1,h2,h3⟩:=ih j hj hr.lt0
  exact⟨q,by omega,h2,h3.trans hr⟩
theorem fst_one {l:List Rn} {q r i:Nat} (h1:fstP l q) (h2:Rch l q i) (h3:fstP l r) (h4:Rch l r i):q=r:=by
 rcases Nat.lt_trichotomy q r with h | h | h
 ·exact absurd (h2.trans h4.symm) (h3 q h)
 ·exact h
 exact absurd (h4.trans h2.symm) (h1 r h)
theorem filter_one {α:Type} [DecidableEq α] {p:α→Bool}:∀ {xs:List α} {a:α},xs.Nodup→a∈xs→p a=true→(∀ b∈xs,p b=true→b=a)→(xs.filter p).length=1
 | [],a,_,ha,_,_=>by cases ha
 | x :: r,a,hn,ha,hp,hu=>by
  rw[List.nodup_cons] at hn
  by_cases hx:p x=true
  ·have e:=hu x (List.mem_cons_self ..) hx
   subst e
   rw[List.filter_cons_of_pos hx,List.length_cons]
   have:r.filter p=[]:=by
    rw[List.filter_eq_nil_iff]
    intro b hb hpb
    have:=hu b (List.mem_cons_of_mem _ hb) hpb
    subst this
    exact hn.1 hb
   rw[this]
   rfl
  rw[List.filter_cons_of_neg hx]
  refine filter_one hn.2 ?_ hp fun b hb=>hu b (List.mem_cons_of_mem _ hb)
  rcases List.mem_cons.1 ha with rfl | h
  ·exact absurd hp hx
  exact h
theorem one_part {l:List Rn} {i:Nat} (hi:i<l.length):((prtTo l l.length).filter (hasR l[i])).length=1:=by
 unfold prtTo
 rw[List.filter_map,List.length_map,List.filter_filter]
 obtain⟨q,h1,h2,h3⟩:=fst_ex i hi
 refine filter_one (a:=q) List.nodup_range (List.mem_range.2 h3.lt0) ?_ fun r _ hr=>?_
 ·rw[Bool.and_eq_true]
  exact⟨(hasR_iff hi).2 h3,fstB_iff.2 h2⟩
 rw[Bool.and_eq_true] at hr
 exact (fst_one h2 h3 (fstB_iff.1 hr.2) ((hasR_iff hi).1 hr.1)).symm
end Cal
end Go.Proofs.YtoojdkaimhlcbaaGreat
namespace Go.Proofs.YtoojdkaimhlcbaaGreat
open Go Go.RowKit
section
variable {P : Program} {ops : Array Oper} {Q : Exit → Act → World → Prop} {md : Region.Mode} {S A B : World → Prop} {y z : Nat}
def heldP (S A B:World→Prop) (y z:Nat) (listed:Array Bool) (w:World):Prop:=S w∧(listed.getD y true=false→A w)∧(listed.getD z true=false→B w)
theorem heldP_set {i:Nat} {listed:Array Bool} {w:World} (hy:i≠y) (hz:i≠z):heldP S A B y z (listed.setIfInBounds i true) w↔heldP S A B y z listed w:=by
 unfold heldP
 rw[getD_set_ne true hy,getD_set_ne true hz]
def wpAnyHP (P:Program) (md:Region.Mode) (ops:Array Oper) (Q:Exit→Act→World→Prop) (S A B:World→Prop) (y z:Nat):Nat→Array Bool→Act→World→Prop
 | 0,listed,a,w=>Region.ready md ops listed=[]∧Q .normal a w
 | fuel+1,listed,a,w =>
  (Region.ready md ops listed=[]→Q .normal a w) ∧
  ∀ i∈Region.ready md ops listed,wpOp P ops Q i (fun a' w'=>heldP S A B y z (listed.setIfInBounds i true) w'∧wpAnyHP P md ops Q S A B y z fuel (listed.setIfInBounds i true) a' w') a w
theorem wpAny_of_heldP:∀ (fuel:Nat) (listed:Array Bool) (a:Act) (w:World),wpAnyHP P md ops Q S A B y z fuel listed a w→wpAny P md ops Q fuel listed a w
 | 0,_,_,_,h=>h
 | fuel+1,_,_,_,h=>⟨h.1,fun i hi=>wpOp_mono (fun a' w' h'=>wpAny_of_heldP fuel _ a' w' h'.2) (h.2 i hi)⟩
theorem wpAnyHP_first {i:Nat} {oi:Oper} {v:Value} {C:List Nat} (hi:ops[i]?=some oi) (hsel:∀ (j:Nat) (o:Oper) cs b,ops[j]?=some o→o.op≠.select cs b)
  (hQ:∀ c a w,Q (.panic c) (a.put oi.dst v) w→Q (.panic c) a w) (hC:chained ops md i C=true) (hiy:i≠y) (hiz:i≠z) :
  ∀ (fuel:Nat) (listed:Array Bool) (a:Act) (w:World),(∀ k∈C,listed.getD k true=false) →
   (∀ j oj,ops[j]?=some oj→j≠i→listed.getD j true=false→(∀ e∈oj.after,Region.binds md e=true→e.on≠i)→oi.apart ops oj=true) →
   i∈Region.ready md ops listed→YieldsIf P ops (fun w=>S w∧(y∈C→A w)∧(z∈C→B w)) oi v a→heldP S A B y z listed w →
   wpAnyHP P md ops Q S A B y z fuel (listed.setIfInBounds i true) (a.put oi.dst v) w→wpAnyHP P md ops Q S A B y z (fuel+1) listed a w:=by
 intro fuel
 induction fuel with
 | zero =>
  intro listed a w hU _ hr hy hS H
  refine⟨fun h=>(by rw[h] at hr;cases hr),fun j hj=>?_⟩
  by_cases hji:j=i
  ·subst hji;exact hy.wpOp hi ⟨hS.1,fun h=>hS.2.1 (hU y h),fun h=>hS.2.2 (hU z h)⟩ ⟨(heldP_set hiy hiz).2 hS,H⟩
  have:=ready_mono hj hji
  rw[H.1] at this
  cases this
 | succ fuel ih =>
  intro listed a w hU hfree hr hy hS H
  refine⟨fun h=>(by rw[h] at hr;cases hr),fun j hj=>?_⟩
  by_cases hji:j=i
  ·subst hji;exact hy.wpOp hi ⟨hS.1,fun h=>hS.2.1 (hU y h),fun h=>hS.2.2 (hU z h)⟩ ⟨(heldP_set hiy hiz).2 hS,H⟩
  have h1:=H.2 j (ready_mono hj hji)
  have hjC:=not_ready_of_chained hC hU hj hji
  obtain⟨hjun,oj,hoj,hall⟩:=mem_ready.1 hj
  have hnot:∀ e∈oj.after,Region.binds md e=true→e.on≠i:=fun e he hb heq=>by
   have h1:=hall e he hb
   have h0:=(mem_ready.1 hr).1
   rw[heq] at h1
   rcases Nat.lt_or_ge i listed.size with h' | h'
   ·simp[h'] at h0 h1;rw[h0] at h1;cases h1
   simp[Array.getElem?_eq_none h'] at h1
  have h2:=wpOp_putIf hoj (hfree j oj hoj hji hjun hnot) (fun cs b=>hsel i oi cs b hi) (fun cs b=>hsel j oj cs b hoj) hQ hy h1
  have hfree':∀ k ok,ops[k]?=some ok→k≠i→(listed.setIfInBounds j true).getD k true=false →
    (∀ e∈ok.after,Region.binds md e=true→e.on≠i)→oi.apart ops ok=true:=fun k ok hk hki hun hno=>by
   refine hfree k ok hk hki ?_ hno
   by_cases hjk:j=k
   ·subst hjk;exact hjun
   rw[getD_set_ne true hjk] at hun;exact hun
  have hU':∀ k∈C,(listed.setIfInBounds j true).getD k true=false:=fun k hk=>by
   have hjk:j≠k:=fun e=>hjC (e ▸ hk)
   rw[getD_set_ne true hjk];exact hU k hk
  have hback:∀ w',heldP S A B y z ((listed.setIfInBounds i true).setIfInBounds j true) w'→heldP S A B y z (listed.setIfInBounds j true) w':=fun w' h=>by
   rw[Array.setIfInBounds_comm _ _ (Ne.symm hji)] at h
   exact (heldP_set hiy hiz).1 h
  refine wpOp_mono (fun a' w' h3=>⟨hback w' h3.2.1,ih (listed.setIfInBounds j true) a' w' hU' hfree' (ready_mono hr (Ne.symm hji)) h3.1 (hback w' h3.2.1) ?_⟩) h2
  rw[Array.setIfInBounds_comm _ _ hji]
  exact h3.2.2
theorem wp_region_heldP {id:Nat} {a:Act} {w:World} (y z:Nat) (hm:P.follows .mixedOrders=true) (hS:S w.drew) (hA:A w.drew) (hB:B w.drew)
  (h:heldP S A B y z (Array.replicate ops.size false) w.drew→wpAnyHP P .any ops Q S A B y z ops.size (Array.replicate ops.size false) a w.drew):(Code.region id ops true).wp P Q a w :=
 wp_region_any hm (wpAny_of_heldP _ _ _ _ (h ⟨hS,fun _=>hA,fun _=>hB⟩))
theorem wpAnyHP_done {listed:Array Bool} {a:Act} {w:World} (hr:Region.ready md ops listed=[]) (h:Q .normal a w):∀ fuel,wpAnyHP P md ops Q S A B y z fuel listed a w
 | 0=>⟨hr,h⟩
 | _+1=>⟨fun _=>h,by rw[hr];simp⟩
theorem tkPx (i d:Nat) {oi:Oper} {v:Value} {fuel:Nat} {listed l':Array Bool} {a a':Act} {w:World}
  (h:heldP S A B y z l' w→wpAnyHP P md ops Q S A B y z fuel l' a' w) (hS:heldP S A B y z listed w) (hi:ops[i]?=some oi:=by exact rfl)
  (hy:∀ w,S w→((waiters ops md i).contains y=true→A w)→((waiters ops md i).contains z=true→B w)→(execOp a.eval oi).run P w=.ok (.value v) w:=by (intro w' hSw hAw hBw;replace hSw:=hSw.cs;(try simp only[cs_iff_cons] at hSw);(first | replace hAw:=hAw (by decide +kernel) | clear hAw);(first | replace hBw:=hBw (by decide +kernel) | clear hBw);go_simp;(try with_reducible rfl)))
  (ha:a.put (some d) v=a':=by ((try simp only[Act.put,List.setIfInBounds_toArray,List.set_cons_zero,List.set_cons_succ]);exact rfl))
  (hl:listed.setIfInBounds i true=l':=by ((try simp only[List.setIfInBounds_toArray,List.set_cons_zero,List.set_cons_succ]);exact rfl))
  (hdd:oi.dst=some d:=by kernel_rfl) (hs:Region.noSelect ops=true:=by kernel_rfl) (hf:Region.free md ops listed i=true:=by decide +kernel) (hr:(Region.ready md ops listed).contains i=true:=by decide +kernel)
  (hC:chained ops md i (waiters ops md i)=true:=by kernel_rfl) (hiy:(i == y)=false:=by kernel_rfl) (hiz:(i == z)=false:=by kernel_rfl) (hU:unlistedB listed (waiters ops md i)=true:=by kernel_rfl)
  (hQ:∀ c a w,Q (.panic c) (a.put oi.dst v) w→Q (.panic c) a w:=by exact fun _ _ _ h=>h) (hw:Region.wanted oi (yielded ops a.tmps)=true:=by kernel_rfl):wpAnyHP P md ops Q S A B y z (fuel+1) listed a w :=
 wpAnyHP_first hi (Region.noSelect_spec hs) hQ hC (by simpa using hiy) (by simpa using hiz) fuel listed a w (unlisted_spec hU) (Region.free_spec hi hf) (by simpa using hr)
  (Or.inl ⟨hw,fun w h=>hy w h.1 (fun h'=>h.2.1 (by simpa using h')) (fun h'=>h.2.2 (by simpa using h'))⟩) hS (by rw[hdd,ha,hl];exact h (hl ▸ (heldP_set (by simpa using hiy) (by simpa using hiz)).2 hS))
def AllReadyP (P:Program) (md:Region.Mode) (ops:Array Oper) (Q:Exit→Act→World→Prop) (S A B:World→Prop) (y z:Nat) (fuel:Nat) (listed:Array Bool) (a:Act) (w:World) (rs:List Nat):Prop :=
 ∀ i∈rs,wpOp P ops Q i (fun a' w'=>heldP S A B y z (listed.setIfInBounds i true) w'∧wpAnyHP P md ops Q S A B y z fuel (listed.setIfInBounds i true) a' w') a w
theorem AllReadyP.nil {fuel:Nat} {listed:Array Bool} {a:Act} {w:World}:AllReadyP P md ops Q S A B y z fuel listed a w []:=fun _ h=>by cases h
theorem AllReadyP.cons {fuel:Nat} {listed:Array Bool} {a:Act} {w:World} {i:Nat} {o:Oper} {rs:List Nat} (ho:ops[i]?=some o)
  (h:∀ K':Act→World→Prop,Shut (∀ a w,heldP S A B y z (listed.setIfInBounds i true) w→(heldP S A B y z (listed.setIfInBounds i true) w→wpAnyHP P md ops Q S A B y z fuel (listed.setIfInBounds i true) a w)→K' a w)→if Region.wanted o (yielded ops a.tmps)=true then Oper.wp P o a w K' Q else K' (a.put o.dst undef) w)
  (hs:AllReadyP P md ops Q S A B y z fuel listed a w rs):AllReadyP P md ops Q S A B y z fuel listed a w (i :: rs):=fun j hj=>by
 rcases List.mem_cons.1 hj with rfl | hj
 ·refine wpOp_step ho (fun K' hK=>?_)
  have:=h K' (fun a w hS hW=>hK a w ⟨hS,hW hS⟩)
  split
  ·rename_i hw;rw[if_pos hw] at this;exact this
  rename_i hw;rw[if_neg hw] at this;exact this
 exact hs j hj
theorem wpAnyHP_ready {rs:List Nat} {fuel:Nat} {listed:Array Bool} {a:Act} {w:World} (hr:Region.ready md ops listed=rs) (hne:rs≠[])
  (h:AllReadyP P md ops Q S A B y z fuel listed a w rs):wpAnyHP P md ops Q S A B y z (fuel+1) listed a w :=
 ⟨fun h0=>absurd (hr ▸ h0) hne,hr ▸ h⟩
end
end Go.Proofs.YtoojdkaimhlcbaaGreat
namespace Go.Proofs.YtoojdkaimhlcbaaGreat
open Go Go.RowKit Go.Sort
structure Prt where
 A:Option Addr
 c:Nat
 O:List Cal.Txt
 B:Option Addr
 d:Nat
 M:List Cal.Txt
def Prt.cells (p:Prt):List Value:=[.slice p.A p.O.length p.c,.slice p.B p.M.length p.d]
def Prt.two (p:Prt):List Cal.Txt × List Cal.Txt:=(p.O,p.M)
structure Prts (w:World) (S:Option Addr) (l:List Prt):Prop where
 rows:RowsAt w S 2 (l.map Prt.cells)
 txt:∀ p∈l,RowsAt w p.A 1 (txtRows p.O)∧RowsAt w p.B 1 (txtRows p.M)
theorem Prts.below {w w':World} {S:Option Addr} {l:List Prt} (h:Prts w S l) (hb:Below w.heap.size w w'):Prts w' S l:=⟨h.rows.below hb,fun p hp=>⟨(h.txt p hp).1.below hb,(h.txt p hp).2.below hb⟩⟩
theorem elemPrt:Elem Tryz.prog 33 25 2 48:=Elem.mk' Tryz.underlying33 (z:=.agg #[.slice none 0 0,.slice none 0 0]) (by kernel_rfl) rfl (by decide)
theorem prt_wid (l:List Prt):∀ r∈l.map Prt.cells,r.length=2:=fun r hr=>by obtain⟨s,_,rfl⟩:=List.mem_map.1 hr;rfl
theorem prt_one (l:List Prt):∀ r∈l.map Prt.cells,∀ u∈r,u.oneCell'=true:=fun r hr u hu=>by
 obtain⟨s,_,rfl⟩:=List.mem_map.1 hr
 simp only[Prt.cells,List.mem_cons,List.not_mem_nil,or_false] at hu
 rcases hu with rfl | rfl <;> rfl
theorem prt_at {w:World} {S:Option Addr} {l:List Prt} (h:RowsAt w S 2 (l.map Prt.cells)) {k:Nat} {p:Prt} (hk:l[k]?=some p) :
  ∃ b o,S=some ⟨b,o,none⟩∧b<w.heap.size∧w.cell? ⟨b,o+k*2,none⟩=some (.slice p.A p.O.length p.c)∧w.cell? ⟨b,o+k*2+1,none⟩=some (.slice p.B p.M.length p.d):=by
 obtain⟨b,o,hA,hlt,hc⟩:=h k p.cells (by simp[hk])
 exact⟨b,o,hA,hlt,hc 0 _ rfl,hc 1 _ rfl⟩
theorem TextsL.one (w:World) (s:ByteArray):TextsL (w.alloc (.cells #[.string s] 9)) w.heap.size (.slice (some ⟨w.heap.size,0,none⟩) 1 1) [s.toList]:=by
 show OwnL _ _ _ _ _ _
 have e:txtRows [s.toList]=[[.string s]]:=by unfold txtRows;rw[List.map_singleton,encStr_of rfl]
 rw[e]
 refine⟨⟨rfl,.inr ⟨w.heap.size,1,#[.string s],rfl,Nat.le_refl _,heap_alloc_new w _,Nat.le_refl _,by decide,rfl,rfl⟩⟩,fun r hr=>by rw[List.mem_singleton.1 hr];rfl,fun r hr u hu=>by rw[List.mem_singleton.1 hr] at hu;rw[List.mem_singleton.1 hu];rfl⟩
theorem made_bools (n:Nat):(madeCells #[.bool false] n).toList=(List.replicate n false).map Value.bool:=by
 apply List.ext_getElem?
 intro i
 rw[List.getElem?_map,List.getElem?_replicate,madeCells,Array.toList_map,Array.toList_range,List.getElem?_map]
 by_cases h:i<n
 ·rw[if_pos h,List.getElem?_range h]
  simp[Nat.mod_one]
 rw[if_neg h,List.getElem?_eq_none (by simpa using h)]
 rfl
theorem grown_two {wp W W':World} {row:Option Nat} {v:Option Nat} (h:wp.grownBy W row) (hg:W.grownBy W' v) (hv:∀ b,v=some b→wp.heap.size≤b):wp.grownBy W' row :=
 ⟨hg.os.trans h.os,hg.tape.trans h.tape,hg.output.trans h.output,Nat.le_trans h.size hg.size,fun k hk hne=>(hg.block k (Nat.lt_of_lt_of_le hk h.size) (fun e=>by have:=hv k e.symm;omega)).trans (h.block k hk hne)⟩
structure PtI (wp:World) (T R:Nat) (tk:List Bool) (x1 x2 v1 v2:Value) (O M:List Cal.Txt) (W:World):Prop where
 g:wp.grownBy W (some T)
 tl:T<wp.heap.size
 rl:wp.heap.size≤R
 t:BoxAt W T (tk.map .bool)
 r:BoxAt W R [x1,x2]
 o1:TextsL W wp.heap.size v1 O
 o2:TextsL W wp.heap.size v2 M
 a1:v1.ownBlock≠some R
 a2:v2.ownBlock≠some R
 ap:∀ b,v1.ownBlock=some b→v2.ownBlock≠some b
section
variable {wp : World} {T R : Nat} {tk : List Bool} {x1 x2 v1 v2 : Value} {O M : List Cal.Txt} {W W' : World}
theorem own_ne {v:Value} {b:Nat} (h:v.ownBlock≠some b):v.ownBlock=none∨v.ownBlock≠some b:=.inr h
theorem PtI.below (h:PtI wp T R tk x1 x2 v1 v2 O M W) (hb:Below W.heap.size W W'):PtI wp T R tk x1 x2 v1 v2 O M W' :=
 ⟨h.g.trans (below_grown hb _),h.tl,h.rl,h.t.below hb,h.r.below hb,OwnL.below h.o1 hb,OwnL.below h.o2 hb,h.a1,h.a2,h.ap⟩
theorem PtI.mark (h:PtI wp T R tk x1 x2 v1 v2 O M W) {k:Nat} (hk:k<tk.length):PtI wp T R (tk.set k true) x1 x2 v1 v2 O M (W.setCell ⟨T,k,none⟩ (.bool true)):=by
 have hg:=grown_set W T k (.bool true)
 have n1:v1.ownBlock≠some T:=fun e=>by have:=(OwnL.lt h.o1 _ e).1;have:=h.tl;omega
 have n2:v2.ownBlock≠some T:=fun e=>by have:=(OwnL.lt h.o2 _ e).1;have:=h.tl;omega
 refine⟨h.g.trans hg,h.tl,h.rl,?_,h.r.grown hg (fun e=>by have:=h.tl;have:=h.rl;simp at e;omega),OwnL.kept h.o1 hg (own_ne n1),OwnL.kept h.o2 hg (own_ne n2),h.a1,h.a2,h.ap⟩
 have:=h.t.set k (.bool true) (by rw[List.length_map];exact hk)
 rw[←List.map_set] at this
 exact this
theorem PtI.first {v':Value} {O':List Cal.Txt} (h:PtI wp T R tk x1 x2 v1 v2 O M W) (hg:W.grownBy W' v1.ownBlock) (ho:TextsL W' wp.heap.size v' O') (hob:v'.ownBlock=v1.ownBlock∨∃ b,v'.ownBlock=some b∧W.heap.size≤b):PtI wp T R tk x1 x2 v' v2 O' M W':=by
 have hT:some T≠v1.ownBlock:=fun e=>by have:=(OwnL.lt h.o1 _ e.symm).1;have:=h.tl;omega
 have hg2:wp.grownBy W' (some T):=grown_two h.g hg fun b e=>(OwnL.lt h.o1 b e).1
 refine⟨hg2,h.tl,h.rl,h.t.grown hg hT,h.r.grown hg (Ne.symm h.a1),ho,OwnL.kept h.o2 hg ?_,?_,h.a2,?_⟩
 ·cases hb:v2.ownBlock with
  | none=>exact .inl rfl
  | some b=>exact .inr fun e=>h.ap b e.symm hb
 ·rcases hob with e | ⟨b,e,hb⟩
  ·rw[e];exact h.a1
  rw[e];intro e2;cases e2;have:=h.r.lt;omega
 intro b hb hb2
 rcases hob with e | ⟨b',e,hb'⟩
 ·exact h.ap b (e ▸ hb) hb2
 rw[e] at hb;cases hb
 have:=(OwnL.lt h.o2 _ hb2).2
 omega
theorem PtI.second {v':Value} {M':List Cal.Txt} (h:PtI wp T R tk x1 x2 v1 v2 O M W) (hg:W.grownBy W' v2.ownBlock) (ho:TextsL W' wp.heap.size v' M') (hob:v'.ownBlock=v2.ownBlock∨∃ b,v'.ownBlock=some b∧W.heap.size≤b):PtI wp T R tk x1 x2 v1 v' O M' W':=by
 have hT:some T≠v2.ownBlock:=fun e=>by have:=(OwnL.lt h.o2 _ e.symm).1;have:=h.tl;omega
 have hg2:wp.grownBy W' (some T):=grown_two h.g hg fun b e=>(OwnL.lt h.o2 b e).1
 refine⟨hg2,h.tl,h.rl,h.t.grown hg hT,h.r.grown hg (Ne.symm h.a2),OwnL.kept h.o1 hg ?_,ho,h.a1,?_,?_⟩
 ·cases hb:v1.ownBlock with
  | none=>exact .inl rfl
  | some b=>exact .inr fun e=>h.ap b hb e.symm
 ·rcases hob with e | ⟨b,e,hb⟩
  ·rw[e];exact h.a2
  rw[e];intro e2;cases e2;have:=h.r.lt;omega
 intro b hb hb2
 rcases hob with e | ⟨b',e,hb'⟩
 ·exact h.ap b hb (e ▸ hb2)
 rw[e] at hb2;cases hb2
 have:=(OwnL.lt h.o1 _ hb).2
 omega
theorem PtI.setR (h:PtI wp T R tk x1 x2 v1 v2 O M W) (j:Nat) (v:Value) (hj:j<2) (y1 y2:Value) (e:[x1,x2].set j v=[y1,y2]):PtI wp T R tk y1 y2 v1 v2 O M (W.setCell ⟨R,j,none⟩ v):=by
 have hg:=grown_set W R j v
 have hg2:wp.grownBy (W.setCell ⟨R,j,none⟩ v) (some T):=grown_two h.g hg fun b e=>by cases e;exact h.rl
 have:=h.r.set j v hj
 rw[e] at this
 exact⟨hg2,h.tl,h.rl,h.t.grown hg (fun e=>by have:=h.tl;have:=h.rl;simp at e;omega),this,OwnL.kept h.o1 hg (own_ne h.a1),OwnL.kept h.o2 hg (own_ne h.a2),h.a1,h.a2,h.ap⟩
end
structure PtO (w1:World) (tk:List Bool) (v:Value) (ps:List Prt) (W:World):Prop where
 bel:Below w1.heap.size w1 W
 t:BoxAt W w1.heap.size (tk.map .bool)
 o:OwnL W (w1.heap.size+1) 25 2 v (ps.map Prt.cells)
 x:∀ p∈ps,RowsAt W p.A 1 (txtRows p.O)∧RowsAt W p.B 1 (txtRows p.M)
 fr:∀ p∈ps,∀ a,(p.A=some a∨p.B=some a)→w1.heap.size<a.block∧a.block<W.heap.size∧v.ownBlock≠some a.block
section
variable {w1 : World} {tk : List Bool} {v : Value} {ps : List Prt} {W W' : World}
theorem PtO.below (h:PtO w1 tk v ps W) (hb:Below W.heap.size W W'):PtO w1 tk v ps W' :=
 ⟨below_step h.bel hb,h.t.below hb,OwnL.below h.o hb,fun p hp=>⟨(h.x p hp).1.below hb,(h.x p hp).2.below hb⟩,fun p hp a ha=>by
  obtain⟨h1,h2,h3⟩:=h.fr p hp a ha
  exact⟨h1,Nat.lt_of_lt_of_le h2 hb.size,h3⟩⟩
theorem PtO.gather {R:Nat} {tk':List Bool} {x1 x2 v1 v2:Value} {O M:List Cal.Txt} (h:PtO w1 tk v ps W) (hi:PtI W w1.heap.size R tk' x1 x2 v1 v2 O M W'):PtO w1 tk' v ps W':=by
 refine⟨h.bel.grown hi.g h.bel.size (fun k e=>by cases e;exact Nat.le_refl _),hi.t,OwnL.kept h.o hi.g (.inr fun e=>by have:=(OwnL.lt h.o _ e).1;omega),fun p hp=>⟨rows_far (h.x p hp).1 hi.g (fun a e e2=>?_),rows_far (h.x p hp).2 hi.g (fun a e e2=>?_)⟩,fun p hp a ha=>?_⟩
 ·have:=(h.fr p hp a (.inl e)).1
  simp at e2;omega
 ·have:=(h.fr p hp a (.inr e)).1
  simp at e2;omega
 obtain⟨h1,h2,h3⟩:=h.fr p hp a ha
 exact⟨h1,Nat.lt_of_lt_of_le h2 hi.g.size,h3⟩
theorem PtO.gatherG {tk':List Bool} (h:PtO w1 tk v ps W) (hg:W.grownBy W' (some w1.heap.size)) (ht:BoxAt W' w1.heap.size (tk'.map .bool)):PtO w1 tk' v ps W':=by
 refine⟨h.bel.grown hg h.bel.size (fun k e=>by cases e;exact Nat.le_refl _),ht,OwnL.kept h.o hg (.inr fun e=>by have:=(OwnL.lt h.o _ e).1;omega),fun p hp=>⟨rows_far (h.x p hp).1 hg (fun a e e2=>?_),rows_far (h.x p hp).2 hg (fun a e e2=>?_)⟩,fun p hp a ha=>?_⟩
 ·have:=(h.fr p hp a (.inl e)).1
  simp at e2;omega
 ·have:=(h.fr p hp a (.inr e)).1
  simp at e2;omega
 obtain⟨h1,h2,h3⟩:=h.fr p hp a ha
 exact⟨h1,Nat.lt_of_lt_of_le h2 hg.size,h3⟩
theorem PtO.push {v':Value} {p:Prt} (h:PtO w1 tk v ps W) (hg:W.grownBy W' v.ownBlock) (ho:OwnL W' (w1.heap.size+1) 25 2 v' ((ps ++ [p]).map Prt.cells)) (hob:v'.ownBlock=v.ownBlock∨v'.ownBlock=some W.heap.size)
  (hx:RowsAt W p.A 1 (txtRows p.O)∧RowsAt W p.B 1 (txtRows p.M)) (hf:∀ a,(p.A=some a∨p.B=some a)→w1.heap.size<a.block∧a.block<W.heap.size∧v.ownBlock≠some a.block):PtO w1 tk v' (ps ++ [p]) W':=by
 have hall:∀ q∈ps ++ [p],(RowsAt W q.A 1 (txtRows q.O)∧RowsAt W q.B 1 (txtRows q.M))∧∀ a,(q.A=some a∨q.B=some a)→w1.heap.size<a.block∧a.block<W.heap.size∧v.ownBlock≠some a.block:=fun q hq=>by
  rcases List.mem_append.1 hq with hq | hq
  ·exact⟨h.x q hq,h.fr q hq⟩
  rw[List.mem_singleton.1 hq];exact⟨hx,hf⟩
 refine⟨h.bel.grown hg h.bel.size (fun k e=>by have:=(OwnL.lt h.o k e).1;omega),h.t.grown hg (fun e=>by have:=(OwnL.lt h.o _ e.symm).1;omega),ho,fun q hq=>?_,fun q hq a ha=>?_⟩
 ·obtain⟨⟨h1,h2⟩,h3⟩:=hall q hq
  exact⟨rows_far h1 hg (fun a e=>Ne.symm (h3 a (.inl e)).2.2),rows_far h2 hg (fun a e=>Ne.symm (h3 a (.inr e)).2.2)⟩
 obtain⟨_,h3⟩:=hall q hq
 obtain⟨g1,g2,g3⟩:=h3 a ha
 refine⟨g1,Nat.lt_of_lt_of_le g2 hg.size,?_⟩
 rcases hob with e | e
 ·rw[e];exact g3
 rw[e];intro e2;have:=Option.some.inj e2;omega
theorem PtO.prts {S:Option Addr} {d:Nat} (h:PtO w1 tk (.slice S ps.length d) ps W):Prts W S ps:=⟨OwnL.formR h.o,h.x⟩
end
theorem PtI.start {wp:World} {T:Nat} {tk:List Bool} (ht:BoxAt wp T (tk.map .bool)) (s1 s2:ByteArray) :
  PtI wp T (wp.heap.size+1+1) tk (.slice (some ⟨wp.heap.size,0,none⟩) 1 1) (.slice (some ⟨wp.heap.size+1,0,none⟩) 1 1) (.slice (some ⟨wp.heap.size,0,none⟩) 1 1) (.slice (some ⟨wp.heap.size+1,0,none⟩) 1 1) [s1.toList] [s2.toList]
   (((wp.alloc (.cells #[.string s1] 9)).alloc (.cells #[.string s2] 9)).alloc (.cells #[.slice (some ⟨wp.heap.size,0,none⟩) 1 1,.slice (some ⟨wp.heap.size+1,0,none⟩) 1 1] 25)):=by
 have hb:Below wp.heap.size wp (((wp.alloc (.cells #[.string s1] 9)).alloc (.cells #[.string s2] 9)).alloc (.cells #[.slice (some ⟨wp.heap.size,0,none⟩) 1 1,.slice (some ⟨wp.heap.size+1,0,none⟩) 1 1] 25)):=below_step (below_step (below_alloc _ _) (below_alloc _ _)) (below_alloc _ _)
 have b1:=TextsL.one wp s1
 have b2:=TextsL.one (wp.alloc (.cells #[.string s1] 9)) s2
 have b3:=BoxAt.new ((wp.alloc (.cells #[.string s1] 9)).alloc (.cells #[.string s2] 9)) #[.slice (some ⟨wp.heap.size,0,none⟩) 1 1,.slice (some ⟨wp.heap.size+1,0,none⟩) 1 1] 25
 rw[World.size_alloc] at b2
 rw[World.size_alloc,World.size_alloc] at b3
 refine⟨below_grown hb _,ht.lt,by omega,ht.below hb,b3,OwnL.below (OwnL.below b1 (below_alloc _ _)) (below_alloc _ _),OwnL.less (OwnL.below b2 (below_alloc _ _)) (Nat.le_succ _),?_,?_,?_⟩
 ·show some wp.heap.size≠some _;simp;omega
 ·show some (wp.heap.size+1)≠some _;simp
 intro b hb1 hb2
 have e1:some wp.heap.size=some b:=hb1
 have e2:some (wp.heap.size+1)=some b:=hb2
 rw[←e1] at e2
 simp at e2
structure PtY (w1 wp:World) (T R Y:Nat) (s1 s2:ByteArray) (tk:List Bool) (x1 x2 v1 v2:Value) (O M:List Cal.Txt) (W:World):Prop where
 i:PtI wp T R tk x1 x2 v1 v2 O M W
 y:BoxAt W Y [.string s1,.string s2]
 y1:v1.ownBlock≠some Y
 y2:v2.ownBlock≠some Y
 yr:Y≠R
 yt:Y≠T
 b1:w1.heap.size≤T
 bel:Below w1.heap.size w1 W
section
variable {w1 wp : World} {T R Y : Nat} {s1 s2 : ByteArray} {tk : List Bool} {x1 x2 v1 v2 : Value} {O M : List Cal.Txt} {W W' : World}
theorem PtY.below (h:PtY w1 wp T R Y s1 s2 tk x1 x2 v1 v2 O M W) (hb:Below W.heap.size W W'):PtY w1 wp T R Y s1 s2 tk x1 x2 v1 v2 O M W' :=
 ⟨h.i.below hb,h.y.below hb,h.y1,h.y2,h.yr,h.yt,h.b1,below_step h.bel hb⟩
theorem PtY.mark (h:PtY w1 wp T R Y s1 s2 tk x1 x2 v1 v2 O M W) {k:Nat} (hk:k<tk.length):PtY w1 wp T R Y s1 s2 (tk.set k true) x1 x2 v1 v2 O M (W.setCell ⟨T,k,none⟩ (.bool true)) :=
 ⟨h.i.mark hk,h.y.grown (grown_set W T k _) (fun e=>h.yt (Option.some.inj e)),h.y1,h.y2,h.yr,h.yt,h.b1,h.bel.grown (grown_set W T k _) h.bel.size (fun b e=>by cases e;exact h.b1)⟩
theorem PtY.wpB (h:PtY w1 wp T R Y s1 s2 tk x1 x2 v1 v2 O M W):w1.heap.size≤wp.heap.size:=by have:=h.i.tl;have:=h.b1;omega
theorem PtY.first {v':Value} {O':List Cal.Txt} (h:PtY w1 wp T R Y s1 s2 tk x1 x2 v1 v2 O M W) (hg:W.grownBy W' v1.ownBlock) (ho:TextsL W' wp.heap.size v' O') (hob:v'.ownBlock=v1.ownBlock∨v'.ownBlock=some W.heap.size):PtY w1 wp T R Y s1 s2 tk x1 x2 v' v2 O' M W':=by
 refine⟨h.i.first hg ho (by rcases hob with e | e;exact .inl e;exact .inr ⟨_,e,Nat.le_refl _⟩),h.y.grown hg (Ne.symm h.y1),?_,h.y2,h.yr,h.yt,h.b1,h.bel.grown hg h.bel.size (fun b e=>by have:=(OwnL.lt h.i.o1 b e).1;have:=h.wpB;omega)⟩
 rcases hob with e | e
 ·rw[e];exact h.y1
 rw[e];intro e2;have:=Option.some.inj e2;have:=h.y.lt;omega
theorem PtY.second {v':Value} {M':List Cal.Txt} (h:PtY w1 wp T R Y s1 s2 tk x1 x2 v1 v2 O M W) (hg:W.grownBy W' v2.ownBlock) (ho:TextsL W' wp.heap.size v' M') (hob:v'.ownBlock=v2.ownBlock∨v'.ownBlock=some W.heap.size):PtY w1 wp T R Y s1 s2 tk x1 x2 v1 v' O M' W':=by
 refine⟨h.i.second hg ho (by rcases hob with e | e;exact .inl e;exact .inr ⟨_,e,Nat.le_refl _⟩),h.y.grown hg (Ne.symm h.y2),h.y1,?_,h.yr,h.yt,h.b1,h.bel.grown hg h.bel.size (fun b e=>by have:=(OwnL.lt h.i.o2 b e).1;have:=h.wpB;omega)⟩
 rcases hob with e | e
 ·rw[e];exact h.y2
 rw[e];intro e2;have:=Option.some.inj e2;have:=h.y.lt;omega
theorem PtY.setR (h:PtY w1 wp T R Y s1 s2 tk x1 x2 v1 v2 O M W) (j:Nat) (v:Value) (hj:j<2) (y1 y2:Value) (e:[x1,x2].set j v=[y1,y2]):PtY w1 wp T R Y s1 s2 tk y1 y2 v1 v2 O M (W.setCell ⟨R,j,none⟩ v) :=
 ⟨h.i.setR j v hj y1 y2 e,h.y.grown (grown_set W R j v) (fun e=>h.yr (Option.some.inj e)),h.y1,h.y2,h.yr,h.yt,h.b1,h.bel.grown (grown_set W R j v) h.bel.size (fun b e=>by cases e;have:=h.i.rl;have:=h.wpB;omega)⟩
theorem PtI.look (h:PtI wp T R tk x1 x2 v1 v2 O M W) (hb:Below w1.heap.size w1 W) (h1:w1.heap.size≤T) (s1 s2:ByteArray):PtY w1 wp T R W.heap.size s1 s2 tk x1 x2 v1 v2 O M (W.alloc (.cells #[.string s1,.string s2] 41)) :=
 ⟨h.below (below_alloc _ _),BoxAt.new W #[.string s1,.string s2] 41,fun e=>by have:=(OwnL.lt h.o1 _ e).2;omega,fun e=>by have:=(OwnL.lt h.o2 _ e).2;omega,fun e=>by have:=h.r.lt;omega,fun e=>by have:=h.t.lt;omega,h1,below_step hb (below_alloc _ _)⟩
end
theorem gSortedB_any (w:World) (B:Nat) (v:Value) (zs:List Cal.Txt) (h:TextsL w B v zs) (hs:zs.length≤1000000) :
  Calls Tryz.prog 29 #[v] w fun e w'=>∃ v',e=.returned v'∧TextsL w' B v' (Cal.tups zs)∧w.grownBy w' v.ownBlock∧v'.ownBlock=v.ownBlock:=by
 have hso:=Lib.hid (SortT_own w B v zs h hs)
 go_enter Tryz.func29,Tryz.ntmps29
 go_wp2_with fail
 refine hso.out.mono ?_
 rintro e w2 ⟨rfl,hs2,hg2⟩
 have hlm:(zs.mergeSort fun x y=>decide (x≤y)).length=zs.length:=List.length_mergeSort _
 have hcp:=Lib.hid (CompactT_own w2 B v _ hs2 (by rw[hlm];exact hs))
 clear hs2 hlm hso h
 replace hg2:=Lib.hid hg2
 go_wp2_with fail
 refine hcp.out.mono ?_
 rintro e w3 ⟨v3,rfl,hs3,hg3,hv3⟩
 clear hcp
 have hg:=Lib.hid (hg2.out.trans hg3)
 replace hs3:=Lib.hid hs3
 replace hv3:=Lib.hid hv3
 clear hg2 hg3
 go_wp2_with fail
 go_ret
 exact⟨v3,rfl,hs3.out,hg.out,hv3.out⟩
end Go.Proofs.YtoojdkaimhlcbaaGreat
namespace Go.Proofs.YtoojdkaimhlcbaaGreat
open Go Go.RowKit Go.Sort
theorem SamePartsR_any (S:Option Addr) (d:Nat) (ps:List Prt) (S2:Option Addr) (d2:Nat) (qs:List Prt) (w:World) (h1:Prts w S ps) (h2:Prts w S2 qs) (he:ps.map Prt.two=qs.map Prt.two) (hl:∀ p∈ps,p.O.length≤1000000∧p.M.length≤1000000) (hs:ps.length≤1000000) :
  Calls Tryz.prog 10 #[.slice S ps.length d,.slice S2 qs.length d2] w fun e w'=>e=.returned (.bool true)∧Below w.heap.size w w':=by
 have hlen:qs.length=ps.length:=by have:=congrArg List.length he;simpa using this.symm
 have hat:Hid (∀ (k:Nat) p q,ps[k]?=some p→qs[k]?=some q→p.O=q.O∧p.M=q.M):=fun k p q hp hq=>by
  have:=congrArg (·[k]?) he
  simp only[List.getElem?_map,hp,hq,Option.map_some,Option.some.injEq,Prt.two,Prod.mk.injEq] at this
  exact this
 have hl2:Hid (∀ k,k<ps.length→k<qs.length):=fun k hk=>by omega
 rw[hlen]
 replace h1:=Lib.hid h1
 replace h2:=Lib.hid h2
 have hb0:Hid (Below w.heap.size w w):=Below.refl _ _
 clear he hlen
 go_enter Tryz.func10,Tryz.ntmps10
 go_wp2_with fail
 go_loopw [5] (fun kv wr=>∃ k:Nat,k≤ps.length∧kv=.int .i64 k∧Hid (Below w.heap.size w wr)) (fun kv _=>ps.length-(intOf kv).toNat)
 case atStart=>exact⟨0,Nat.zero_le _,rfl,hb0⟩
 case round =>
  clear hb0
  obtain⟨k,hk,rfl,hb⟩:=hrel
  by_cases hlt:k<ps.length
  ·have hp:=List.getElem?_eq_getElem hlt
   have hq:=List.getElem?_eq_getElem (hl2.out k hlt)
   obtain⟨e1,e2⟩:=hat.out k _ _ hp hq
   obtain⟨b1,o1,rfl,_,c0,c1⟩:=prt_at (h1.out.rows.below hb.out) hp
   obtain⟨b2,o2,rfl,_,d0,d1⟩:=prt_at (h2.out.rows.below hb.out) hq
   obtain⟨t1,t2⟩:=(h1.out.below hb.out).txt _ (List.getElem_mem hlt)
   obtain⟨t3,t4⟩:=(h2.out.below hb.out).txt _ (List.getElem_mem (hl2.out k hlt))
   obtain⟨l1,l2⟩:=hl _ (List.getElem_mem hlt)
   have hki:(k:Int)<(ps.length:Int):=by omega
   clear hp hq
   generalize ps[k]=p at *
   generalize qs[k]'(hl2.out k hlt)=q at *
   obtain⟨A1,x1,O,B1,y1,M⟩:=p
   obtain⟨A2,x2,O',B2,y2,M'⟩:=q
   dsimp only at *
   subst e1
   subst e2
   have hc1:=Lib.hid (fun W (hW:Below wr.heap.size wr W)=>TextsR_any A1 x1 A2 x2 O W (t1.below hW) (t3.below hW) l1)
   have hc2:=Lib.hid (fun W (hW:Below wr.heap.size wr W)=>TextsR_any B1 y1 B2 y2 M W (t2.below hW) (t4.below hW) l2)
   clear t1 t2 t3 t4 l1 l2
   go_wp2_with fail
   refine wp_region_held_drew (S:=Sx wr [(b1,o1+k*2,.slice A1 O.length x1),(b1,o1+k*2+1,.slice B1 M.length y1),(b2,o2+k*2,.slice A2 O.length x2),(b2,o2+k*2+1,.slice B2 M.length y2)]) (by kernel_rfl) (Sx.mk (by simp only[cs_iff_cons];exact⟨c0,c1,d0,d1,cs_nil _⟩) (Below.refl _ _)).drew (fun hHeld=>?_)
   clear c0 c1 d0 d1
   refine tkHx 0 17 ?_
   refine tkHx 1 18 ?_
   refine tkHx 2 19 ?_
   refine tkHx 3 20 ?_
   refine tkHx 4 21 ?_
   refine tkHx 5 22 ?_
   refine tkHx 6 23 ?_
   refine tkHx 7 24 ?_
   refine tkHx 8 25 ?_
   refine tkHx 9 26 ?_
   (refine ratHx 10 (fun K hK=>?_);go_simp)
   refine (hc1.out _ hHeld.bel).mono ?_
   rintro e wn ⟨rfl,hbn⟩
   go_simp
   (refine hK.out _ _ (hHeld.step hbn) (fun hHeld=>?_);clear hK K;(try simp only[apS,apN,siA,scZ,scS]))
   refine tkHx 11 28 ?_
   refine tkHx 12 29 ?_
   refine tkHx 13 30 ?_
   refine tkHx 14 31 ?_
   refine tkHx 15 32 ?_
   refine tkHx 16 33 ?_
   refine tkHx 17 34 ?_
   refine tkHx 18 35 ?_
   refine tkHx 19 36 ?_
   refine tkHx 20 37 ?_
   refine tkHx 21 38 ?_
   refine tkHx 22 39 ?_
   (refine ratHx 23 (fun K hK=>?_);go_simp)
   refine (hc2.out _ hHeld.bel).mono ?_
   rintro e wn ⟨rfl,hbn⟩
   go_simp
   (refine hK.out _ _ (hHeld.step hbn) (fun hHeld=>?_);clear hK K;(try simp only[apS,apN,siA,scZ,scS]))
   refine tkHx 24 41 ?_
   refine tkHx 25 42 ?_
   refine wpAnyH_done (by kernel_rfl) ?_ _
   (try simp only[apS,apN,siA,scZ,scS])
   have hbe:=Lib.hid (hb.out.trans (hHeld.bel.mono hb.out.size))
   clear hHeld hc1 hc2
   go_wp2_with fail
   go_roundw
   case rel=>exact⟨k+1,by omega,by go_num,hbe⟩
   case measure=>simp[intOf];omega
  go_wp2_with fail
  go_ret
  exact⟨rfl,hb.out⟩
end Go.Proofs.YtoojdkaimhlcbaaGreat
namespace Go.Proofs.YtoojdkaimhlcbaaGreat
open Go Go.RowKit Go.Sort
theorem HasText_any (N:Option Addr) (d:Nat) (zs:List Cal.Txt) (s:ByteArray) (w:World) (h:RowsAt w N 1 (txtRows zs)) (hz:zs.length≤1000000) :
  Calls Tryz.prog 12 #[.slice N zs.length d,.string s] w fun e w'=>e=.returned (.bool (decide (s.toList∈zs)))∧Below w.heap.size w w':=by
 have h':=Lib.hid h
 have hn0:Hid (s.toList∉zs.take 0):=by show _∉_;simp
 have hb0:Hid (Below w.heap.size w w):=Below.refl _ _
 clear h
 go_enter Tryz.func12,Tryz.ntmps12
 go_wp2_with fail
 go_loopw [5] (fun i wr=>∃ k:Nat,k≤zs.length∧i=.int .i64 k∧Hid (s.toList∉zs.take k)∧Hid (Below w.heap.size w wr)) (fun i _=>zs.length-(intOf i).toNat)
 case atStart=>exact⟨0,Nat.zero_le _,rfl,hn0,hb0⟩
 case round =>
  clear hn0 hb0
  obtain⟨k,hk,rfl,hn,hb⟩:=hrel
  by_cases hlt:k<zs.length
  ·obtain⟨b,o,rfl,_,s1,hs1,c0⟩:=txtRow_at (h'.out.below hb.out) hlt
   have htk:Hid (zs.take (k+1)=zs.take k ++ [zs[k]]):=by show _=_;rw[List.take_succ_eq_append_getElem hlt]
   have hmem:Hid (zs[k]∈zs):=List.getElem_mem hlt
   have hki:(k:Int)<(zs.length:Int):=by omega
   generalize zs[k]=x at *
   cases he:(s1.toList == s.toList)
   ·have hnx:Hid (s.toList∉zs.take (k+1)):=by
     show _∉_
     rw[htk.out,List.mem_append,List.mem_singleton]
     rintro (h | h)
     ·exact hn.out h
     rw[hs1,←h] at he;simp at he
    clear hs1 hn htk hmem
    go_wp2_with fail
    go_roundw
    case rel=>exact⟨k+1,by omega,by go_num,hnx,hb⟩
    case measure=>simp[intOf];omega
   have hin:Hid (decide (s.toList∈zs)=true):=by
    show _=_
    rw[decide_eq_true_iff,←eq_of_beq he,hs1];exact hmem.out
   clear hs1 hn htk hmem
   go_wp2_with fail
   go_ret
   exact⟨by rw[hin.out];rfl,hb.out⟩
  have hno:Hid (decide (s.toList∈zs)=false):=by
   show _=_
   rw[decide_eq_false_iff_not]
   have:=hn.out
   rw[List.take_of_length_le (by omega)] at this
   exact this
  clear hn
  go_wp2_with fail
  go_ret
  exact⟨by rw[hno.out];rfl,hb.out⟩
end Go.Proofs.YtoojdkaimhlcbaaGreat
