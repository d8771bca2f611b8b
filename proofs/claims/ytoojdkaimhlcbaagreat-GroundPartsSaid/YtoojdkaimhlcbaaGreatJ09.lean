/- What the statements rest on: definitions and walks, part 09. -/
import Derived.Test.YtoojdkaimhlcbaaGreatJ08
import Derived.RangeFuncOwn
import Derived.Deep.Slices
import Derived.Deep.Fields
import Derived.WideKeyArgs
import Derived.ChangeSlices
import Derived.Lib.SmallJoins
import Derived.Deep.DeepHandedRow
import Derived.OpenShut
import Derived.Lib.ConvBytes
set_option maxRecDepth 100000
set_option maxHeartbeats 16000000
set_option linter.unusedSimpArgs false
set_option linter.unusedVariables false
namespace Go.Proofs.YtoojdkaimhlcbaaGreat
open Go Go.RowKit Go.ChangeShapes Go.WideShapes Go.Deep
theorem own:ownKnob Tryz.prog.godebug=none:=by kernel_rfl
theorem laidOut:laidOutB Tryz.prog=true:=by kernel_rfl
theorem list_of {α:Type} {Q:Nat→α→Prop}:∀ n:Nat,(∀ i,i<n→∃ p,Q i p)→∃ l:List α,l.length=n∧∀ (i:Nat) p,l[i]?=some p→Q i p
 | 0,_=>⟨[],rfl,fun i p h=>by simp at h⟩
 | n+1,h=>by
  obtain⟨l,hl,hq⟩:=list_of n (fun i hi=>h i (by omega))
  obtain⟨p,hp⟩:=h n (by omega)
  refine⟨l ++ [p],by simp[hl],fun i q hi=>?_⟩
  rw[List.getElem?_append] at hi
  split at hi
  ·exact hq i q hi
  have:i=n:=by
   have:=(List.getElem?_eq_some_iff.1 hi).1
   simp at this;omega
  subst this
  rw[hl] at hi;simp at hi;subst hi;exact hp
theorem addr_plain {w:World} {a:Addr} {k:Nat} {v:Value} (h:w.cell? (a.add k)=some v) (h0:∃ u,w.cell? (a.add 0)=some u):a=⟨a.block,a.off,none⟩:=by
 obtain⟨u,h0⟩:=h0
 have:=World.cell?_spot (show w.cell? a=some u by simpa [Addr.add] using h0)
 cases a;simp at this;subst this;rfl
section
variable {H : Type} {enc : TypeId × Value → H} {w : World} {spare : Nat → Bool} {held : Bool}
theorem rows_of_open {t e:TypeId} {fs:Array Field} {fuel:Nat} {cs:List Value} {x:DataW H × List MemPlace} (ht:Tryz.prog.underlying t=some (.slice e)) (he:Tryz.prog.underlying e=some (.struct fs))
  (hone:oneCellFields Tryz.prog fs=true) (hC:Tryz.prog.cellsOf e=fs.size) (hpos:0<fs.size) (h:DataW.trod enc Tryz.prog w 0 spare held fuel t cs=some x) :
  ∃ (A:Option Addr) (len cap:Nat),cs=[.slice A len cap]∧len≤cap∧∀ i,i<len→∃ (b o n:Nat),A=some ⟨b,o,none⟩∧b<w.heap.size ∧
   ∀ (j:Nat) (f:Field),fs[j]?=some f→∃ (v:Value) (y:DataW H × List MemPlace),w.cell? ⟨b,o+(i*fs.size+j),none⟩=some v∧DataW.trod enc Tryz.prog w 0 spare held n f.type [v]=some y:=by
 rcases open_slice ht h with ⟨h0,_⟩ | ⟨a,len,cap,m,n,D,Pl,hcs,hb,hl,hm,hmm,hx,hi⟩
 ·exact⟨none,0,0,h0,Nat.le_refl _,fun i hi=>by omega⟩
 refine⟨some a,len,cap,hcs,hl,fun i him=>?_⟩
 have hlm:len≤m:=by rw[hmm];split <;> omega
 obtain⟨cs',hc,ht'⟩:=hi i (by omega)
 obtain⟨cs0,hc0,_⟩:=hi 0 (by omega)
 rw[hC] at hc hc0
 obtain⟨ys,n',hn',hy,hlen,hyl,hf⟩:=DataW.trod_struct he ht'
 obtain⟨hcl0,hcl1,hat⟩:=World.cells?_some hc
 obtain⟨_,hcl01,hat0⟩:=World.cells?_some hc0
 have hz:∃ u,w.cell? (a.add 0)=some u:=by
  have h1:=hat0 0 hpos
  have hlen0:0<cs0.length:=by omega
  rw[List.getElem?_eq_getElem hlen0] at h1
  exact⟨_,by simpa [Addr.add] using h1⟩
 have ha:a=⟨a.block,a.off,none⟩:=by obtain⟨u,hu⟩:=hz;exact addr_plain hu ⟨u,hu⟩
 refine⟨a.block,a.off,n',by rw[←ha],?_,fun j f hj=>?_⟩
 ·obtain⟨u,hu⟩:=hz
  obtain⟨o,ho,_⟩:=cells_of_cell hu
  have:=(Array.getElem?_eq_some_iff.1 ho).1
  simpa [Addr.add] using this
 obtain⟨ho,hk⟩:=hone_of hone j f hj
 have hjl:j<fs.size:=(Array.getElem?_eq_some_iff.1 hj).1
 have hcell:=hat j hjl
 have hlt:j<cs'.length:=by omega
 have hv:cs'[j]?=some cs'[j]:=List.getElem?_eq_getElem hlt
 have h1:=hf j f hj
 rw[ho,hk] at h1
 have hone':(cs'.drop j).take 1=[cs'[j]]:=by rw[List.drop_eq_getElem_cons hlt];rfl
 rw[hone'] at h1
 refine⟨cs'[j],ys[j]'(by omega),?_,h1.trans (List.getElem?_eq_getElem (by omega))⟩
 rw[hv,ha] at hcell
 rw[←hcell,Go.Deep.add_add,←Go.WideShapes.add_plain]
end
section
variable {H : Type} {enc : TypeId × Value → H} {w : World} {spare : Nat → Bool} {held : Bool} {r : Reach} {b0 : Nat} {v : Value} {d : DataW H} {ps : List MemPlace}
theorem trod_cells {t:TypeId} {fs:Array Field} {fuel:Nat} {cs:List Value} {x:DataW H × List MemPlace} (ht:Tryz.prog.underlying t=some (.struct fs)) (hone:oneCellFields Tryz.prog fs=true)
  (h:DataW.trod enc Tryz.prog w 0 spare held fuel t cs=some x) :
  ∃ (n:Nat) (xs:List (DataW H × List MemPlace)),cs.length=Tryz.prog.cellsOf t∧xs.length=fs.size∧∀ (j:Nat) (f:Field),fs[j]?=some f→DataW.trod enc Tryz.prog w 0 spare held n f.type ((cs.drop j).take 1)=xs[j]?:=by
 obtain⟨xs,m,_,_,hlen,hxl,hi⟩:=DataW.trod_struct ht h
 refine⟨m,xs,hlen,hxl,fun j f hj=>?_⟩
 obtain⟨ho,hk⟩:=hone_of hone j f hj
 have:=hi j f hj
 rwa [ho,hk] at this
end
section
variable {H : Type} {enc : TypeId × Value → H}
theorem trodAll_stays {W W':World} {sp':Nat→Bool}:∀ {ts:List TypeId} {vs:List Value} {ds:List (DataW H)} {ps:List MemPlace},(∀ t∈ts,Tryz.prog.readableRec t=true∧t<Tryz.prog.types.size) →
  DataW.TrodAll enc Tryz.prog W 0 (fun _=>true) true ts vs ds ps→(∀ p∈ps,W.sameAt W' p)→(∀ p∈ps,sp' p.block=true)→DataW.TrodAll enc Tryz.prog W' 0 sp' true ts vs ds ps
 | [],vs,ds,ps,_,h,_,_=>by
  obtain⟨rfl,rfl,rfl⟩:=trodAll_nil h
  exact rfl
 | t :: ts,vs,ds,ps,ht,h,hs,hp=>by
  obtain⟨v0,vs0,d0,ds0,p0,q0,rfl,rfl,rfl,h0,r0⟩:=trodAll_cons h
  have h1:=ht t (List.mem_cons_self ..)
  exact⟨p0,q0,WideElems.Trod_stays laidOut h1.1 h1.2 h0 (fun p hm=>hs p (List.mem_append_left _ hm)) (fun p hm=>hp p (List.mem_append_left _ hm)),
   trodAll_stays (fun t hm=>ht t (List.mem_cons_of_mem _ hm)) r0 (fun p hm=>hs p (List.mem_append_right _ hm)) (fun p hm=>hp p (List.mem_append_right _ hm)),rfl⟩
theorem post_true {f:Func} {s:ChangeSpec} {W W':World} {args:Array Value} {ds gs:List (DataW H)} {before:List MemPlace} (hvars:s.vars=[]) (hres:f.resultTypes=#[4])
  (hpar:∀ t∈f.params.toList,Tryz.prog.readableRec t=true∧t<Tryz.prog.types.size)
  (hW:DataW.Whole enc Tryz.prog f.params.toList s.vars false W args.toList ds gs before) (hs:s.fn H (ds ++ gs)={ results:=[.lit (.bool true)],args:=ds }) (hb:Below W.heap.size W W') :
  s.post enc Tryz.prog f false true false false W args (.bool true) W':=by
 have hW':=hW
 have hlt:∀ p∈before,p.block<W.heap.size:=fun p hp=>hW'.lt p hp
 obtain⟨p,q,hA,hV,rfl,hfz,hnd⟩:=hW
 rw[hvars] at hV
 obtain⟨rfl,rfl⟩:=trodVars_none hV
 simp only[List.append_nil] at hs hW' hlt
 refine post_of_below (pa:=p) (pv:=[]) (ds:=ds) (gs:=[]) (before:=p) hW' ?_ ?_ ?_ (by simp) hb ?_
 ·intro b sp hd
  rw[List.append_nil,hs,hres]
  exact trodAll_cons_mk (shut_bool Tryz.underlying4 _) trodAll_mk0
 ·intro sp hsp
  rw[List.append_nil,hs]
  exact trodAll_stays hpar hA (fun x hx=>hb.same (hlt x hx)) hsp
 ·intro sp _
  rw[hvars,List.append_nil,hs]
  rfl
 exact ok_one hres rfl (okWide_bool_mk Tryz.underlying4 _)
end
end Go.Proofs.YtoojdkaimhlcbaaGreat
namespace Go.Proofs.YtoojdkaimhlcbaaGreat
structure Rn where
 old:Cal.Txt
 new:Cal.Txt
namespace Cal
def rlt (a b:Rn):Prop:=a.old<b.old∨(a.old=b.old∧a.new<b.new)
instance (a b:Rn):Decidable (rlt a b):=by unfold rlt;infer_instance
theorem rlt_trans {a b c:Rn} (h1:rlt a b) (h2:rlt b c):rlt a c:=by
 unfold rlt at *
 rcases h1 with h1 | ⟨e1,h1⟩
 ·rcases h2 with h2 | ⟨e2,h2⟩
  ·exact .inl (List.lt_trans h1 h2)
  exact .inl (by rw[←e2];exact h1)
 rcases h2 with h2 | ⟨e2,h2⟩
 ·exact .inl (by rw[e1];exact h2)
 exact .inr ⟨e1.trans e2,List.lt_trans h1 h2⟩
theorem txt_tri (a b:Txt):a<b∨a=b∨b<a:=by
 rcases Classical.em (a<b) with h | h
 ·exact .inl h
 by_cases e:a=b
 ·exact .inr (.inl e)
 exact .inr (.inr (txt_lt_of (List.not_lt.1 h) (fun x=>e x.symm)))
end Cal
end Go.Proofs.YtoojdkaimhlcbaaGreat
namespace Go.Proofs.YtoojdkaimhlcbaaGreat
def nmT (t:Cal.Txt):Bool:=nameB ⟨t.toArray⟩
theorem nmT_of {a:ByteArray}:nmT a.toList=nameB a:=by
 unfold nmT
 rw[ByteArray.toList_eq]
namespace Cal
def folB:Option Rn→Rn→Bool
 | none,_=>true
 | some y,x=>decide (rlt y x)
def numF:Option Rn→List Rn→Int
 | _,[]=>0
 | p,x :: r=>if nmT x.old && nmT x.new then (if folB p x then numF (some x) r else 9) else 4
def numE (l:List Rn):Int:=if 200<l.length then 8 else numF none l
theorem numF_cons (p:Option Rn) (x:Rn) (r:List Rn):numF p (x :: r)=if nmT x.old && nmT x.new then (if folB p x then numF (some x) r else 9) else 4:=rfl
theorem numF_zero:∀ {l:List Rn} {p:Option Rn},numF p l=0↔(∀ x∈l,nmT x.old=true∧nmT x.new=true)∧l.Pairwise rlt∧(∀ y x,p=some y→l.head?=some x→rlt y x)
 | [],p=>by simp[numF]
 | x :: r,p=>by
  rw[numF_cons]
  constructor
  ·intro h
   split at h
   ·rename_i h1
    rw[Bool.and_eq_true] at h1
    split at h
    ·rename_i h2
     obtain⟨g1,g2,g3⟩:=numF_zero.1 h
     refine⟨fun y hy=>?_,?_,fun y z hy hz=>?_⟩
     ·rcases List.mem_cons.1 hy with rfl | hy
      ·exact h1
      exact g1 y hy
     ·rw[List.pairwise_cons]
      refine⟨fun y hy=>?_,g2⟩
      cases r with
      | nil=>cases hy
      | cons a r =>
       have ha:=g3 x a rfl rfl
       rcases List.mem_cons.1 hy with rfl | hy
       ·exact ha
       exact rlt_trans ha ((List.pairwise_cons.1 g2).1 y hy)
     subst hy
     cases hz
     unfold folB at h2
     simpa using h2
    cases h
   cases h
  rintro⟨h1,h2,h3⟩
  have hx:=h1 x (List.mem_cons_self ..)
  rw[List.pairwise_cons] at h2
  rw[if_pos (by rw[hx.1,hx.2];rfl),if_pos]
  ·exact numF_zero.2 ⟨fun y hy=>h1 y (List.mem_cons_of_mem _ hy),h2.2,fun y z hy hz=>by
    cases hy
    cases r with
    | nil=>cases hz
    | cons a r=>cases hz;exact h2.1 z (List.mem_cons_self ..)⟩
  cases p with
  | none=>rfl
  | some y=>unfold folB;exact decide_eq_true (h3 y x rfl rfl)
theorem numE_zero {l:List Rn}:numE l=0↔l.length≤200∧(∀ x∈l,nmT x.old=true∧nmT x.new=true)∧l.Pairwise rlt:=by
 unfold numE
 split
 ·constructor
  ·intro h;cases h
  rintro⟨h,_⟩;omega
 rw[numF_zero]
 constructor
 ·rintro⟨h1,h2,_⟩;exact⟨by omega,h1,h2⟩
 rintro⟨_,h1,h2⟩;exact⟨h1,h2,fun y x h=>by cases h⟩
def befR (l:List Rn) (k:Nat):Option Rn:=if k=0 then none else l[k-1]?
theorem befR_succ {l:List Rn} {k:Nat}:befR l (k+1)=l[k]?:=by unfold befR;rw[if_neg (by omega),Nat.add_sub_cancel]
theorem tups_snoc_in {zs:List Txt} {s:Txt} (h:zs.Pairwise (·<·)) (hs:s∈zs):tups (zs ++ [s])=zs :=
 tups_eq h fun d=>by
  rw[List.mem_append,List.mem_singleton]
  constructor
  ·exact .inl
  rintro (h | rfl)
  ·exact h
  exact hs
theorem tups_snoc {zs:List Txt} {s:Txt} {q:Nat} (h:zs.Pairwise (·<·)) (hs:s∉zs) (hq:q≤zs.length) (h1:∀ (j:Nat) z,q≤j→zs[j]?=some z→s<z) (h2:∀ z,0<q→zs[q-1]?=some z→z≤s):tups (zs ++ [s])=zs.take q ++ [s] ++ zs.drop q :=
 tups_eq (tins_up h hs hq h1 h2) fun d=>by
  rw[tins_mem,List.mem_append,List.mem_singleton]
  exact⟨fun h=>h.symm,fun h=>h.symm⟩
theorem not_in_at {zs:List Txt} {s:Txt} {q:Nat} (h:zs.Pairwise (·<·)) (hq:q≤zs.length) (h1:∀ (j:Nat) z,q≤j→zs[j]?=some z→s<z) (h2:∀ z,0<q→zs[q-1]?=some z→z≤s∧z≠s):s∉zs:=fun hm=>by
 obtain⟨i,hi,he⟩:=List.getElem_of_mem hm
 rcases Nat.lt_or_ge i q with hlt | hge
 ·have hq1:q-1<zs.length:=by omega
  obtain⟨e1,e2⟩:=h2 _ (by omega) (List.getElem?_eq_getElem hq1)
  have e3:=txt_lt_of e1 e2
  rcases Nat.lt_or_eq_of_le (show i≤q-1 by omega) with hl | he2
  ·have:=List.pairwise_iff_getElem.1 h i (q-1) hi hq1 hl
   rw[he] at this
   exact absurd (List.lt_trans this e3) (List.lt_irrefl _)
  subst he2;exact e2 he
 have:=h1 i s hge (by rw[List.getElem?_eq_getElem hi,he])
 exact absurd this (List.lt_irrefl _)
end Cal
end Go.Proofs.YtoojdkaimhlcbaaGreat
namespace Go.Proofs.YtoojdkaimhlcbaaGreat
open Go Go.RowKit
theorem bytes_ex (s:ByteArray) (w:World):∃ c W,(convert 9 95 (.string s)).run Tryz.prog w=.ok (.slice (some ⟨w.heap.size,0,none⟩) s.size c) W∧Below w.heap.size w W ∧
  ∀ k (h:k<s.size),W.cell? ⟨w.heap.size,k,none⟩=some (.int .u8 (s[k].toNat:Int)):=by
 refine⟨_,_,Lib.run_convert_string_bytes w 9 95 5 s Tryz.underlying9 Tryz.underlying95 Tryz.underlying5,⟨rfl,rfl,rfl,?_,fun k hk=>Lib.bytesWorld_at_old w _ s k hk⟩,fun k h=>?_⟩
 ·rw[Lib.bytesWorld_size];omega
 rw[Lib.bytesWorld_cell w _ s k h]
 congr 3
 rw[List.getD_eq_getElem?_getD]
 have:s.data.toList[k]?=some s[k]:=by
  rw[Array.getElem?_toList]
  exact Array.getElem?_eq_getElem h
 rw[this]
 rfl
def IsW (W wr:World):Prop:=wr=W
theorem gisName_any (s:ByteArray) (w:World) (hs:s.size≤maxLen) :
  Calls Tryz.prog 21 #[.string s] w fun e w'=>e=.returned (.bool (nameB s))∧Below w.heap.size w w':=by
 unfold maxLen at hs
 obtain⟨cp,W,hcv,hbel,hcell⟩:=bytes_ex s w
 have hbW:=Lib.hid hbel
 replace hcell:=Lib.hid hcell
 clear hbel
 have hok:=okTo_zero s
 go_enter Tryz.func21,Tryz.ntmps21
 go_wp2_with fail
 have hI:IsW W W:=rfl
 go_loopw [9] (fun i wr=>∃ k:Nat,k≤s.size∧i=.int .i64 k∧okTo s k∧IsW W wr) (fun i _=>s.size-(intOf i).toNat)
 case atStart=>exact⟨0,Nat.zero_le _,rfl,hok,hI⟩
 case round =>
  obtain⟨k,hk,rfl,hok2,hW⟩:=hrel
  obtain rfl:wr=W:=hW
  clear hok hI
  by_cases hlt:k<s.size
  ·have hb:=byteAt_eq hlt
   have c0:=hcell.out k hlt
   have hcl:(97≤(s[k].toNat:Int)∧(s[k].toNat:Int)≤122)∨(65≤(s[k].toNat:Int)∧(s[k].toNat:Int)≤90)∨(48≤(s[k].toNat:Int)∧(s[k].toNat:Int)≤57)∨(s[k].toNat:Int)=45∨(s[k].toNat:Int)<45∨(46≤(s[k].toNat:Int)∧(s[k].toNat:Int)≤47)∨(58≤(s[k].toNat:Int)∧(s[k].toNat:Int)≤64)∨(91≤(s[k].toNat:Int)∧(s[k].toNat:Int)≤96)∨123≤(s[k].toNat:Int):=by omega
   have x0:0≤(s[k].toNat:Int):=by omega
   have hyes:=Lib.hid (fun h:okAt s k=true=>okTo_succ hok2 h)
   have hno:=Lib.hid (fun h:okAt s k=false=>nameB_no hlt h)
   generalize (s[k].toNat:Int)=x at *
   by_cases hk0:k=0
   ·subst hk0
    rcases hcl with ⟨ca,cb⟩ | ⟨ca,cb⟩ | ⟨ca,cb⟩ | ca | ca | ⟨ca,cb⟩ | ⟨ca,cb⟩ | ⟨ca,cb⟩ | ca
    all_goals first
     |(have hok:Hid (okTo s (0+1)):=hyes.out (by unfold okAt;rw[hb];simp;omega)
       try (have q0:decide (x≤90)=false:=by first | (simp;omega) | (simp;done))
       try (have q1:decide (x≤122)=false:=by first | (simp;omega) | (simp;done))
       try (have q2:decide (x≤57)=false:=by first | (simp;omega) | (simp;done))
       try (have q3:(x != 45)=true:=by first | (simp;omega) | (simp;done))
       try (have q4:(x == 45)=false:=by first | (simp;omega) | (simp;done))
       try (have q5:decide (57<x)=true:=by first | (simp;omega) | (simp;done))
       try (have q6:decide (97≤x)=false:=by first | (simp;omega) | (simp;done))
       try (have q7:decide (65≤x)=false:=by first | (simp;omega) | (simp;done))
       try (have q8:decide (x≤90)=true:=by first | (simp;omega) | (simp;done))
       try (have q9:decide (x<48)=true:=by first | (simp;omega) | (simp;done))
       clear hyes hno hb
       go_wp2
       go_roundw
       case rel=>exact⟨1,by omega,rfl,hok.out,rfl⟩
       case measure=>simp[intOf];omega)
     |(have hfin:Hid (nameB s=false):=hno.out (by unfold okAt;rw[hb];simp;omega)
       try (have q0:decide (x≤90)=false:=by first | (simp;omega) | (simp;done))
       try (have q1:decide (x≤122)=false:=by first | (simp;omega) | (simp;done))
       try (have q2:decide (x≤57)=false:=by first | (simp;omega) | (simp;done))
       try (have q3:(x != 45)=true:=by first | (simp;omega) | (simp;done))
       try (have q4:(x == 45)=false:=by first | (simp;omega) | (simp;done))
       try (have q5:decide (57<x)=true:=by first | (simp;omega) | (simp;done))
       try (have q6:decide (97≤x)=false:=by first | (simp;omega) | (simp;done))
       try (have q7:decide (65≤x)=false:=by first | (simp;omega) | (simp;done))
       try (have q8:decide (x≤90)=true:=by first | (simp;omega) | (simp;done))
       try (have q9:decide (x<48)=true:=by first | (simp;omega) | (simp;done))
       clear hyes hno hb
       go_wp2
       go_ret
       exact⟨ret_bool hfin.out.symm,hbW.out⟩)
   have hk1:0<(k:Int):=by omega
   have hk2:((k:Int) == 0)=false:=by simp;omega
   rcases hcl with ⟨ca,cb⟩ | ⟨ca,cb⟩ | ⟨ca,cb⟩ | ca | ca | ⟨ca,cb⟩ | ⟨ca,cb⟩ | ⟨ca,cb⟩ | ca
   all_goals first
    |(have hok:Hid (okTo s (k+1)):=hyes.out (by unfold okAt;rw[hb];simp;omega)
      try (have q0:decide (x≤90)=false:=by first | (simp;omega) | (simp;done))
      try (have q1:decide (x≤122)=false:=by first | (simp;omega) | (simp;done))
      try (have q2:decide (x≤57)=false:=by first | (simp;omega) | (simp;done))
      try (have q3:(x != 45)=true:=by first | (simp;omega) | (simp;done))
      try (have q4:(x == 45)=false:=by first | (simp;omega) | (simp;done))
      try (have q5:decide (57<x)=true:=by first | (simp;omega) | (simp;done))
      try (have q6:decide (97≤x)=false:=by first | (simp;omega) | (simp;done))
      try (have q7:decide (65≤x)=false:=by first | (simp;omega) | (simp;done))
      try (have q8:decide (x≤90)=true:=by first | (simp;omega) | (simp;done))
      try (have q9:decide (x<48)=true:=by first | (simp;omega) | (simp;done))
      clear hyes hno hb hk0
      go_wp2
      go_roundw
      case rel=>exact⟨k+1,by omega,by go_num,hok.out,rfl⟩
      case measure=>simp[intOf];omega)
    |(have hfin:Hid (nameB s=false):=hno.out (by unfold okAt;rw[hb];simp;omega)
      try (have q0:decide (x≤90)=false:=by first | (simp;omega) | (simp;done))
      try (have q1:decide (x≤122)=false:=by first | (simp;omega) | (simp;done))
      try (have q2:decide (x≤57)=false:=by first | (simp;omega) | (simp;done))
      try (have q3:(x != 45)=true:=by first | (simp;omega) | (simp;done))
      try (have q4:(x == 45)=false:=by first | (simp;omega) | (simp;done))
      try (have q5:decide (57<x)=true:=by first | (simp;omega) | (simp;done))
      try (have q6:decide (97≤x)=false:=by first | (simp;omega) | (simp;done))
      try (have q7:decide (65≤x)=false:=by first | (simp;omega) | (simp;done))
      try (have q8:decide (x≤90)=true:=by first | (simp;omega) | (simp;done))
      try (have q9:decide (x<48)=true:=by first | (simp;omega) | (simp;done))
      clear hyes hno hb hk0
      go_wp2
      go_ret
      exact⟨ret_bool hfin.out.symm,hbW.out⟩)
  obtain rfl:k=s.size:=by omega
  by_cases h0:s.size=0
  ·have hfin:=Lib.hid (nameB_size (s:=s) (by omega))
   have he:=isEmpty_yes h0
   have he2:s.toList=[]:=by simpa using he
   go_wp2
   go_ret
   exact⟨ret_bool hfin.out.symm,hbW.out⟩
  have he:=isEmpty_no (s:=s) (by omega)
  have he2:¬s.toList=[]:=by intro h;rw[h] at he;cases he
  by_cases h12:s.size≤12
  ·have hfin:=Lib.hid (nameB_yes (by omega) h12 hok2)
   go_wp2
   go_ret
   exact⟨ret_bool (by rw[hfin.out];exact decide_eq_true (by omega)),hbW.out⟩
  have hfin:=Lib.hid (nameB_size (s:=s) (by omega))
  go_wp2
  go_ret
  exact⟨ret_bool (by rw[hfin.out];exact decide_eq_false (by omega)),hbW.out⟩
end Go.Proofs.YtoojdkaimhlcbaaGreat
namespace Go.Proofs.YtoojdkaimhlcbaaGreat
open Go Go.RowKit Go.Shelf
theorem wpAnyH_hide {P:Program} {md:Region.Mode} {ops:Array Oper} {Q:Exit→Act→World→Prop} {S:World→Prop} {fuel:Nat} {listed:Array Bool} {a:Act} {w:World} (hp:∀ c a (d:Nat) v w,Q (.panic c) (a.put (some d) v) w→Q (.panic c) a w)
  (h:∀ Q0,(∀ c a (d:Nat) v w,Q0 (.panic c) (a.put (some d) v) w→Q0 (.panic c) a w)→Hid (Q0=Q)→wpAnyH P md ops Q0 S fuel listed a w):wpAnyH P md ops Q S fuel listed a w:=h Q hp rfl
theorem tkQ {P:Program} {ops:Array Oper} {Q:Exit→Act→World→Prop} {md:Region.Mode} {S:World→Prop} (i:Nat) (d:Nat) (hp:∀ c a (d:Nat) v w,Q (.panic c) (a.put (some d) v) w→Q (.panic c) a w) {oi:Oper} {v:Value} {fuel:Nat} {listed:Array Bool} {a:Act} {w:World}
  (hy:∀ w,S w→(execOp a.eval oi).run P w=.ok (.value v) w) (h:wpAnyH P md ops Q S fuel (listed.setIfInBounds i true) (a.put (some d) v) w)
  (hi:ops[i]?=some oi:=by exact rfl) (hdd:oi.dst=some d:=by kernel_rfl) (hs:Region.noSelect ops=true:=by kernel_rfl) (hf:Region.free md ops listed i=true:=by decide +kernel) (hr:(Region.ready md ops listed).contains i=true:=by decide +kernel)
  (hw:Region.wanted oi (yielded ops a.tmps)=true:=by kernel_rfl) (hS:S w:=by assumption):wpAnyH P md ops Q S (fuel+1) listed a w :=
 tkH2 i d hy h hi hdd hs hf hr (fun c _ w h=>by rw[hdd] at h;exact hp c _ d v w h) hw hS
theorem tkQx {P:Program} {ops:Array Oper} {Q:Exit→Act→World→Prop} {md:Region.Mode} {S:World→Prop} (i:Nat) (d:Nat) (hp:∀ c a (d:Nat) v w,Q (.panic c) (a.put (some d) v) w→Q (.panic c) a w) {oi:Oper} {v:Value} {fuel:Nat} {listed l':Array Bool} {a a':Act} {w:World}
  (h:wpAnyH P md ops Q S fuel l' a' w) (hi:ops[i]?=some oi:=by exact rfl)
  (hy:∀ w,S w→(execOp a.eval oi).run P w=.ok (.value v) w:=by (intro w' hSw;replace hSw:=hSw.cs;(try simp only[cs_iff_cons] at hSw);go_simp;(try with_reducible rfl)))
  (ha:a.put (some d) v=a':=by ((try simp only[Act.put,List.setIfInBounds_toArray,List.set_cons_zero,List.set_cons_succ]);exact rfl))
  (hl:listed.setIfInBounds i true=l':=by ((try simp only[List.setIfInBounds_toArray,List.set_cons_zero,List.set_cons_succ]);exact rfl))
  (hdd:oi.dst=some d:=by kernel_rfl) (hs:Region.noSelect ops=true:=by kernel_rfl) (hf:Region.free md ops listed i=true:=by decide +kernel) (hr:(Region.ready md ops listed).contains i=true:=by decide +kernel)
  (hw:Region.wanted oi (yielded ops a.tmps)=true:=by kernel_rfl) (hS:S w:=by assumption):wpAnyH P md ops Q S (fuel+1) listed a w :=
 tkQ i d hp hy (by rw[ha,hl];exact h) hi hdd hs hf hr hw hS
end Go.Proofs.YtoojdkaimhlcbaaGreat
namespace Go.Proofs.YtoojdkaimhlcbaaGreat
open Go Go.RowKit Go.Sort
def cmpT (a b:Cal.Txt):Int:=if a<b then -1 else if b<a then 1 else 0
theorem cmpT_neg {a b:Cal.Txt}:cmpT a b<0↔a<b:=by
 unfold cmpT
 split
 ·rename_i h;simp[h]
 rename_i h
 split <;> simp[h]
theorem cmpT_zero {a b:Cal.Txt}:cmpT a b=0↔a=b:=by
 unfold cmpT
 split
 ·rename_i h
  constructor
  ·intro e;omega
  intro e;subst e;exact absurd h (List.lt_irrefl _)
 rename_i h
 split
 ·rename_i h2
  constructor
  ·intro e;omega
  intro e;subst e;exact absurd h2 (List.lt_irrefl _)
 rename_i h2
 constructor
 ·intro _
  rcases Cal.txt_tri a b with h3 | h3 | h3
  ·exact absurd h3 h
  ·exact h3
  exact absurd h3 h2
 intro _;rfl
theorem NaNS_any (a:ByteArray) (w:World):Calls Tryz.prog 59 #[.string a] w fun e w'=>e=.returned (.bool false)∧w=w':=by
 go_enter Tryz.func59,Tryz.ntmps59
 go_wp2_with fail
 go_ret
 exact⟨by first | rfl | simp,rfl⟩
theorem cmpS_any (a b:ByteArray) (w:World):Calls Tryz.prog 61 #[.string a,.string b] w fun e w'=>e=.returned (.int .i64 (cmpT a.toList b.toList))∧w=w':=by
 have hR:Hid (cmpT a.toList b.toList=if Op.bytesLess a.toList b.toList=true then -1 else if (a.toList == b.toList)=true then 0 else 1):=by
  show _=_
  unfold cmpT
  rw[bytesLess_eq]
  simp only[decide_eq_true_eq,beq_iff_eq]
  by_cases h:a.toList<b.toList
  ·rw[if_pos h,if_pos h]
  rw[if_neg h,if_neg h]
  by_cases h2:a.toList=b.toList
  ·rw[if_pos h2,if_neg (by rw[h2];exact List.lt_irrefl _)]
  rw[if_neg h2,if_pos]
  rcases Cal.txt_tri a.toList b.toList with h3 | h3 | h3
  ·exact absurd h3 h
  ·exact absurd h3 h2
  exact h3
 rw[hR.out]
 clear hR
 cases h1:Op.bytesLess a.toList b.toList
 ·cases h2:(a.toList == b.toList)
  ·go_enter Tryz.func61,Tryz.ntmps61
   go_wp2_with (go_at_call 59;refine (NaNS_any _ _).mono ?_;rintro e w1 ⟨rfl,rfl⟩)
   go_ret
   exact⟨rfl,rfl⟩
  go_enter Tryz.func61,Tryz.ntmps61
  go_wp2_with (go_at_call 59;refine (NaNS_any _ _).mono ?_;rintro e w1 ⟨rfl,rfl⟩)
  go_ret
  exact⟨rfl,rfl⟩
 go_enter Tryz.func61,Tryz.ntmps61
 go_wp2_with (go_at_call 59;refine (NaNS_any _ _).mono ?_;rintro e w1 ⟨rfl,rfl⟩)
 go_ret
 exact⟨rfl,rfl⟩
theorem neg_two {a b:Int}:firstNZ [a,b]<0↔a<0∨(a=0∧b<0):=by
 simp only[firstNZ]
 split
 ·split <;> omega
 omega
def rnCf (x y:Rn):Int:=firstNZ [cmpT x.old y.old,cmpT x.new y.new]
theorem rnCf_neg {x y:Rn}:rnCf x y<0↔Cal.rlt x y:=by
 unfold rnCf
 rw[neg_two,cmpT_neg,cmpT_zero,cmpT_neg]
 rfl
theorem compare_any (a b c d:ByteArray) (w:World):Calls Tryz.prog 47 #[.agg #[.string a,.string b],.agg #[.string c,.string d]] w fun e w'=>e=.returned (.int .i64 (rnCf ⟨a.toList,b.toList⟩ ⟨c.toList,d.toList⟩))∧∃ q os,w'=grow (w.drewN q) os:=by
 have hS:(fun w'=>(w'.cell? ⟨w.heap.size,0,none⟩=some (.string a)∧w'.cell? ⟨w.heap.size,1,none⟩=some (.string b))∧w'.cell? ⟨w.heap.size+1,0,none⟩=some (.string c)∧w'.cell? ⟨w.heap.size+1,1,none⟩=some (.string d)) ((w.alloc (.cells #[.string a,.string b] 41)).alloc (.cells #[.string c,.string d] 41)):=by simp
 have hS2:∀ o:Obj,(fun w'=>(w'.cell? ⟨w.heap.size,0,none⟩=some (.string a)∧w'.cell? ⟨w.heap.size,1,none⟩=some (.string b))∧w'.cell? ⟨w.heap.size+1,0,none⟩=some (.string c)∧w'.cell? ⟨w.heap.size+1,1,none⟩=some (.string d)) (((w.alloc (.cells #[.string a,.string b] 41)).alloc (.cells #[.string c,.string d] 41)).alloc o):=fun o=>by
  have hb:=below_alloc ((w.alloc (.cells #[.string a,.string b] 41)).alloc (.cells #[.string c,.string d] 41)) o
  have k1:w.heap.size<((w.alloc (.cells #[.string a,.string b] 41)).alloc (.cells #[.string c,.string d] 41)).heap.size:=by simp;omega
  have k2:w.heap.size+1<((w.alloc (.cells #[.string a,.string b] 41)).alloc (.cells #[.string c,.string d] 41)).heap.size:=by simp
  exact⟨⟨(hb.cell (p:=⟨w.heap.size,0,none⟩) k1).trans hS.1.1,(hb.cell (p:=⟨w.heap.size,1,none⟩) k1).trans hS.1.2⟩,(hb.cell (p:=⟨w.heap.size+1,0,none⟩) k2).trans hS.2.1,(hb.cell (p:=⟨w.heap.size+1,1,none⟩) k2).trans hS.2.2⟩
 have hS2:=Lib.hid hS2
 go_enter Tryz.func47,Tryz.ntmps47
 go_wp2_with fail
 refine wp_region_held_drew (S:=(fun w'=>(w'.cell? ⟨w.heap.size,0,none⟩=some (.string a)∧w'.cell? ⟨w.heap.size,1,none⟩=some (.string b))∧w'.cell? ⟨w.heap.size+1,0,none⟩=some (.string c)∧w'.cell? ⟨w.heap.size+1,1,none⟩=some (.string d))) (by kernel_rfl) hS (fun hHeld=>?_)
 have hS:=Lib.hid hS
 (refine tkH 0 (v:=?_) ?_ ?_;rotate_left;focus (intro w' hSw;(try dsimp only at hSw);go_simp;(try with_reducible rfl));(try simp only[Act.put,List.setIfInBounds_toArray,List.set_cons_zero,List.set_cons_succ]))
 (refine tkH 1 (v:=?_) ?_ ?_;rotate_left;focus (intro w' hSw;(try dsimp only at hSw);go_simp;(try with_reducible rfl));(try simp only[Act.put,List.setIfInBounds_toArray,List.set_cons_zero,List.set_cons_succ]))
 (refine tkH 2 (v:=?_) ?_ ?_;rotate_left;focus (intro w' hSw;(try dsimp only at hSw);go_simp;(try with_reducible rfl));(try simp only[Act.put,List.setIfInBounds_toArray,List.set_cons_zero,List.set_cons_succ]))
 (refine tkH 3 (v:=?_) ?_ ?_;rotate_left;focus (intro w' hSw;(try dsimp only at hSw);go_simp;(try with_reducible rfl));(try simp only[Act.put,List.setIfInBounds_toArray,List.set_cons_zero,List.set_cons_succ]))
 (refine tkH 5 (v:=?_) ?_ ?_;rotate_left;focus (intro w' hSw;(try dsimp only at hSw);go_simp;(try with_reducible rfl));(try simp only[Act.put,List.setIfInBounds_toArray,List.set_cons_zero,List.set_cons_succ]))
 (refine tkH 6 (v:=?_) ?_ ?_;rotate_left;focus (intro w' hSw;(try dsimp only at hSw);go_simp;(try with_reducible rfl));(try simp only[Act.put,List.setIfInBounds_toArray,List.set_cons_zero,List.set_cons_succ]))
 (refine tkH 7 (v:=?_) ?_ ?_;rotate_left;focus (intro w' hSw;(try dsimp only at hSw);go_simp;(try with_reducible rfl));(try simp only[Act.put,List.setIfInBounds_toArray,List.set_cons_zero,List.set_cons_succ]))
 (refine tkH 8 (v:=?_) ?_ ?_;rotate_left;focus (intro w' hSw;(try dsimp only at hSw);go_simp;(try with_reducible rfl));(try simp only[Act.put,List.setIfInBounds_toArray,List.set_cons_zero,List.set_cons_succ]))
 (refine ratHx 4 (fun K hK=>?_);go_simp)
 (refine (cmpS_any _ _ _).mono ?_;rintro e w' ⟨rfl,rfl⟩;go_simp;(refine hK.out _ _ hS.out (fun hHeld=>?_);clear hK K;(try simp only[Act.put]);(try simp only[List.setIfInBounds_toArray]);(try simp only[List.set_cons_zero,List.set_cons_succ])))
 (refine ratHx 9 (fun K hK=>?_);go_simp)
 (refine (cmpS_any _ _ _).mono ?_;rintro e w' ⟨rfl,rfl⟩;go_simp;(refine hK.out _ _ hS.out (fun hHeld=>?_);clear hK K;(try simp only[Act.put]);(try simp only[List.setIfInBounds_toArray]);(try simp only[List.set_cons_zero,List.set_cons_succ])))
 (refine ratHx 10 (fun K hK=>?_);go_simp)
 (refine hK.out _ _ (hS2.out _) (fun hHeld=>?_);clear hK K;(try simp only[Act.put]);(try simp only[List.setIfInBounds_toArray]);(try simp only[List.set_cons_zero,List.set_cons_succ]))
 (refine ratHx 11 (fun K hK=>?_);go_simp)
 refine (Or_any (some ⟨w.heap.size+1+1,0,none⟩) 2 [cmpT a.toList c.toList,cmpT b.toList d.toList] (((w.alloc (.cells #[.string a,.string b] 41)).alloc (.cells #[.string c,.string d] 41)).alloc (.cells #[.int .i64 (cmpT a.toList c.toList),.int .i64 (cmpT b.toList d.toList)] 3)).drew (by have h:=ints_new ((w.alloc (.cells #[.string a,.string b] 41)).alloc (.cells #[.string c,.string d] 41)) #[.int .i64 (cmpT a.toList c.toList),.int .i64 (cmpT b.toList d.toList)] 3 [cmpT a.toList c.toList,cmpT b.toList d.toList] rfl;simp only[World.size_alloc] at h;exact h) (show 2≤1000000 by decide)).mono ?_
 rintro e w' ⟨rfl,rfl⟩
 go_simp
 (refine hK.out _ _ (hS2.out _) (fun hHeld=>?_);clear hK K;(try simp only[Act.put]);(try simp only[List.setIfInBounds_toArray]);(try simp only[List.set_cons_zero,List.set_cons_succ]))
 (refine ratHx 12 (fun K hK=>?_);go_simp)
 (refine hK.out _ _ (hS2.out _) (fun hHeld=>?_);clear hK K;(try simp only[Act.put]);(try simp only[List.setIfInBounds_toArray]);(try simp only[List.set_cons_zero,List.set_cons_succ]))
 refine wpAnyH_done (by kernel_rfl) ?_ _
 go_wp2_with fail
 go_ret
 refine⟨rfl,1,#[(.cells #[.string a,.string b] 41),(.cells #[.string c,.string d] 41),.cells #[.int .i64 (cmpT a.toList c.toList),.int .i64 (cmpT b.toList d.toList)] 3],?_⟩
 show ((w.drew.alloc (.cells #[.string a,.string b] 41)).alloc (.cells #[.string c,.string d] 41)).alloc (.cells #[.int .i64 (cmpT a.toList c.toList),.int .i64 (cmpT b.toList d.toList)] 3)=_
 rw[alloc_eq_grow,alloc_eq_grow,alloc_eq_grow,grow_grow,grow_grow]
 rfl
theorem compareB_any (a b c d:ByteArray) (w:World):Calls Tryz.prog 47 #[.agg #[.string a,.string b],.agg #[.string c,.string d]] w fun e w'=>e=.returned (.int .i64 (rnCf ⟨a.toList,b.toList⟩ ⟨c.toList,d.toList⟩))∧Below w.heap.size w w':=by
 refine (compare_any a b c d w).mono ?_
 rintro e w' ⟨rfl,q,os,rfl⟩
 exact⟨rfl,below_of_drewN (n:=q) (grow_below _ os)⟩
def rnR (x:Rn):List Value:=[encStr x.old,encStr x.new]
structure Rns (w:World) (A:Option Addr) (l:List Rn):Prop where
 rows:RowsAt w A 2 (l.map rnR)
 size:l.length≤1000000
 len:∀ x∈l,x.old.length≤maxLen∧x.new.length≤maxLen
theorem rn_at {w:World} {A:Option Addr} {l:List Rn} (h:RowsAt w A 2 (l.map rnR)) {k:Nat} {x:Rn} (hk:l[k]?=some x) :
  ∃ b o,A=some ⟨b,o,none⟩∧b<w.heap.size∧∃ ao an:ByteArray,ao.toList=x.old∧an.toList=x.new∧w.cell? ⟨b,o+k*2,none⟩=some (.string ao)∧w.cell? ⟨b,o+k*2+1,none⟩=some (.string an):=by
 obtain⟨b,o,hA,hb,hc⟩:=h k (rnR x) (by rw[List.getElem?_map,hk];rfl)
 exact⟨b,o,hA,hb,⟨x.old.toArray⟩,⟨x.new.toArray⟩,by rw[ByteArray.toList_eq],by rw[ByteArray.toList_eq],hc 0 _ rfl,hc 1 _ rfl⟩
theorem size_len {a:ByteArray} {t:Cal.Txt} (h:a.toList=t):a.size=t.length:=by
 rw[←h,ByteArray.toList_eq]
 rfl
structure RbI (w:World) (B:Nat) (a b:ByteArray) (W:World):Prop where
 bx:BoxAt W B [.string a,.string b]
 bel:Below w.heap.size w W
theorem RbI.below {w:World} {B:Nat} {a b:ByteArray} {X Y:World} (h:RbI w B a b X) (hb:Below X.heap.size X Y):RbI w B a b Y:=⟨h.bx.below hb,below_step h.bel hb⟩
theorem CheckNumbers_any (A:Option Addr) (c:Nat) (l:List Rn) (w:World) (hl:Rns w A l) :
  Calls Tryz.prog 27 #[.slice A l.length c] w fun e w'=>e=.returned (.int .i64 (Cal.numE l))∧Below w.heap.size w w':=by
 have hb0:Hid (Below w.heap.size w w):=Below.refl _ _
 by_cases hbig:200<l.length
 ·have hR:Cal.numE l=8:=by unfold Cal.numE;rw[if_pos hbig]
  have hbi:200<(l.length:Int):=by omega
  rw[hR]
  clear hR hl
  go_enter Tryz.func27,Tryz.ntmps27
  go_wp2_with fail
  go_ret
  exact⟨rfl,hb0.out⟩
 obtain⟨R,hRR⟩:∃ R,Cal.numE l=R:=⟨_,rfl⟩
 have hbi:¬200<(l.length:Int):=by omega
 have hR:Hid (R=Cal.numF (Cal.befR l 0) (l.drop 0)):=by
  show _=_
  rw[←hRR]
  unfold Cal.numE Cal.befR
  rw[if_neg hbig]
  rfl
 rw[hRR]
 clear hRR
 replace hl:=Lib.hid hl
 go_enter Tryz.func27,Tryz.ntmps27
 go_wp2_with fail
 go_loopw [10] (fun i wr=>∃ k:Nat,k≤l.length∧i=.int .i64 k∧Hid (R=Cal.numF (Cal.befR l k) (l.drop k))∧Hid (Below w.heap.size w wr)) (fun i _=>l.length-(intOf i).toNat)
 case atStart=>exact⟨0,Nat.zero_le _,rfl,hR,hb0⟩
 case round =>
  clear hR hb0
  obtain⟨k,hk,rfl,hR,hb⟩:=hrel
  by_cases hlt:k<l.length
  ·have hk':l[k]?=some l[k]:=List.getElem?_eq_getElem hlt
   have hd:=Lib.hid (List.drop_eq_getElem_cons hlt)
   have hln:=hl.out.len _ (List.getElem_mem hlt)
   have hbs:Cal.befR l (k+1)=some l[k]:=by rw[Cal.befR_succ];exact hk'
   have hR':=hR.out
   rw[hd.out,Cal.numF_cons,←hbs] at hR'
   replace hR:=Lib.hid hR'
   clear hR' hd hbs
   generalize l[k]=x at *
   obtain⟨b,o,rfl,hbl,ao,an,ha1,ha2,c0,c1⟩:=rn_at (hl.out.rows.below hb.out) hk'
   have hs1:ao.size≤maxLen:=by rw[size_len ha1];exact hln.1
   have hs2:an.size≤maxLen:=by rw[size_len ha2];exact hln.2
   have hn1:=Lib.hid (fun W=>gisName_any ao W hs1)
   have hn2:=Lib.hid (fun W=>gisName_any an W hs2)
   rw[←nmT_of,ha1] at hn1
   rw[←nmT_of,ha2] at hn2
   have hI:=Lib.hid (show RbI w wr.heap.size ao an (wr.alloc (.cells #[.string ao,.string an] 41)) from ⟨BoxAt.new wr #[.string ao,.string an] 41,below_step hb.out (below_alloc _ _)⟩)
   have hwr:Hid (Below w.heap.size w wr):=hb
   have hki:(k:Int)<(l.length:Int):=by omega
   have m1:Hid True:=trivial
   clear hk' hln hs1 hs2 hb
   (obtain⟨x0,x1⟩:=hI.out.bx.c2)
   cases h1:nmT x.old
   ·rw[h1] at hn1
    have hfin:Hid (R=4):=by show _=_;rw[hR.out,h1];rfl
    clear hR ha1 ha2
    go_wp2_with (go_at_call 21;clear x0 x1;(first | (clear m1;refine (hn1.out _).mono ?_;rintro e0 wn ⟨rfl,hbn⟩) | (refine (hn2.out _).mono ?_;rintro e0 wn ⟨rfl,hbn⟩));replace hI:=Lib.hid (hI.out.below hbn);clear hbn;(obtain⟨x0,x1⟩:=hI.out.bx.c2))
    go_ret
    exact⟨ret_int hfin.out.symm,hI.out.bel⟩
   cases h2:nmT x.new
   ·rw[h1] at hn1
    rw[h2] at hn2
    have hfin:Hid (R=4):=by show _=_;rw[hR.out,h1,h2];rfl
    clear hR ha1 ha2
    go_wp2_with (go_at_call 21;clear x0 x1;(first | (clear m1;refine (hn1.out _).mono ?_;rintro e0 wn ⟨rfl,hbn⟩) | (refine (hn2.out _).mono ?_;rintro e0 wn ⟨rfl,hbn⟩));replace hI:=Lib.hid (hI.out.below hbn);clear hbn;(obtain⟨x0,x1⟩:=hI.out.bx.c2))
    go_ret
    exact⟨ret_int hfin.out.symm,hI.out.bel⟩
   rw[h1] at hn1
   rw[h2] at hn2
   have hR':R=if Cal.folB (Cal.befR l k) x then Cal.numF (Cal.befR l (k+1)) (l.drop (k+1)) else 9:=by rw[hR.out,h1,h2];rfl
   replace hR:=Lib.hid hR'
   clear hR' h1 h2
   by_cases hk0:k=0
   ·subst hk0
    rw[Nat.zero_mul,Nat.add_zero] at c0 c1
    have hnx:Hid (R=Cal.numF (Cal.befR l (0+1)) (l.drop (0+1))):=by show _=_;rw[hR.out];rfl
    clear hR ha1 ha2
    go_wp2_with (go_at_call 21;clear x0 x1;(first | (clear m1;refine (hn1.out _).mono ?_;rintro e0 wn ⟨rfl,hbn⟩) | (refine (hn2.out _).mono ?_;rintro e0 wn ⟨rfl,hbn⟩));replace hI:=Lib.hid (hI.out.below hbn);clear hbn;(obtain⟨x0,x1⟩:=hI.out.bx.c2))
    refine wp_region_held_drew (S:=Sx wn []) (by kernel_rfl) (Sx.mk (cs_nil _) (Below.refl _ _)).drew (fun hHeld=>?_)
    clear x0 x1
    refine tkHx 0 27 ?_
    refine tkHx 1 28 ?_
    refine tkHx 2 29 ?_
    refine tkFx 3 30 ?_
    refine tkFx 4 31 ?_
    refine tkFx 5 32 ?_
    refine tkFx 6 33 ?_
    refine tkFx 7 34 ?_
    refine tkFx 8 35 ?_
    refine tkFx 9 36 ?_
    refine tkFx 10 37 ?_
    refine tkHx 11 38 ?_
    refine tkHx 12 26 ?_
    refine wpAnyH_done (by kernel_rfl) ?_ _
    (try simp only[apS,apN,siA,scZ,scS])
    replace hI:=Lib.hid (hI.out.below hHeld.bel)
    clear hHeld
    have hbe:=Lib.hid hI.out.bel
    go_wp2_with fail
    go_roundw
    case rel=>exact⟨1,by omega,by go_num,hnx,hbe⟩
    case measure=>simp[intOf];omega
   have hq1:k-1<l.length:=by omega
   have hbf:Cal.befR l k=some l[k-1]:=by unfold Cal.befR;rw[if_neg hk0];exact List.getElem?_eq_getElem hq1
   have hR':=hR.out
   rw[hbf] at hR'
   replace hR:=Lib.hid hR'
   have hj':l[k-1]?=some l[k-1]:=List.getElem?_eq_getElem hq1
   have hrows:=Lib.hid (fun W (hW:Below w.heap.size w W)=>rn_at (hl.out.rows.below hW) hj')
   clear hR' hbf hj'
   generalize l[k-1]=y at *
   have p1:IntKind.i64.wrap ((k:Int)-1)=(k:Int)-1:=wrap_small (by omega) (by omega)
   have p2:(1:Int)≤(k:Int):=by omega
   have p3:(0:Int)<(k:Int):=by omega
   have p4:(k:Int)-1<(l.length:Int):=by omega
   have p5:((k:Int)-1).toNat=k-1:=by omega
   have p6:(0:Int)≤(k:Int)-1:=by omega
   have p7:0<k:=by omega
   have p8:1≤k:=by omega
   clear hwr
   go_wp2_with (go_at_call 21;clear x0 x1;(first | (clear m1;refine (hn1.out _).mono ?_;rintro e0 wn ⟨rfl,hbn⟩) | (refine (hn2.out _).mono ?_;rintro e0 wn ⟨rfl,hbn⟩));replace hI:=Lib.hid (hI.out.below hbn);clear hbn;(obtain⟨x0,x1⟩:=hI.out.bx.c2))
   obtain⟨b',o',hA',hbl',bo,bn,hb1,hb2,d0,d1⟩:=hrows.out _ hI.out.bel
   cases hA'
   have hcf:=rnCf_neg (x:=y) (y:=x)
   have hcm:=Lib.hid (fun W=>compareB_any bo bn ao an W)
   rw[show (⟨bo.toList,bn.toList⟩:Rn)=y from by rw[hb1,hb2],show (⟨ao.toList,an.toList⟩:Rn)=x from by rw[ha1,ha2]] at hcm
   clear ha1 ha2 hb1 hb2 hrows
   generalize rnCf y x=v at *
   refine wp_region_held_drew (S:=Sx wn [(b,o+(k-1)*2,.string bo),(b,o+(k-1)*2+1,.string bn),(wr.heap.size,0,.string ao),(wr.heap.size,1,.string an)]) (by kernel_rfl) (Sx.mk (by simp only[cs_iff_cons];exact⟨d0,d1,x0,x1,cs_nil _⟩) (Below.refl _ _)).drew (fun hHeld=>?_)
   clear d0 d1 x0 x1
   (refine wpAnyH_hide (fun _ _ _ _ _ h=>h) (fun Q0 hp0 hQ0=>?_))
   refine tkQx 0 27 hp0 ?_
   refine tkQx 1 28 hp0 ?_
   refine tkQx 2 29 hp0 ?_
   refine tkQx 3 30 hp0 ?_
   refine tkQx 4 31 hp0 ?_
   refine tkQx 5 32 hp0 ?_
   refine tkQx 6 33 hp0 ?_
   refine tkQx 7 34 hp0 ?_
   refine tkQx 8 35 hp0 ?_
   (refine ratHx 9 (fun K hK=>?_);go_simp)
   refine (hcm.out _).mono ?_
   rintro e wn ⟨rfl,hbn⟩
   go_simp
   (refine hK.out _ _ (hHeld.step hbn) (fun hHeld=>?_);clear hK K;(try simp only[apS,apN,siA,scZ,scS]))
   refine tkQx 10 37 hp0 ?_
   refine tkQx 11 38 hp0 ?_
   refine tkQx 12 26 hp0 ?_
   refine wpAnyH_done (by kernel_rfl) ?_ _
   (try simp only[apS,apN,siA,scZ,scS])
   (obtain rfl:=hQ0.out;clear hp0)
   replace hI:=Lib.hid (hI.out.below hHeld.bel)
   clear hHeld hcm
   have hbe:=Lib.hid hI.out.bel
   by_cases hv:v<0
   ·have hnx:Hid (R=Cal.numF (Cal.befR l (k+1)) (l.drop (k+1))):=by show _=_;rw[hR.out];rw[show Cal.folB (some y) x=true from decide_eq_true (hcf.1 hv)];rfl
    have hv2:¬0≤v:=by omega
    clear hR hcf
    go_wp2_with fail
    go_roundw
    case rel=>exact⟨k+1,by omega,by go_num,hnx,hbe⟩
    case measure=>simp[intOf];omega
   have hfin:Hid (R=9):=by show _=_;rw[hR.out];rw[show Cal.folB (some y) x=false from decide_eq_false (fun h=>hv (hcf.2 h))];rfl
   have hv2:0≤v:=by omega
   clear hR hcf
   go_wp2_with fail
   go_ret
   exact⟨ret_int hfin.out.symm,hbe.out⟩
  have hfin:Hid (R=0):=by show _=_;rw[hR.out,List.drop_of_length_le (by omega)];cases Cal.befR l k <;> rfl
  have hge:l.length=k:=by omega
  clear hR
  go_wp2_with fail
  go_ret
  exact⟨ret_int hfin.out.symm,hb.out⟩
end Go.Proofs.YtoojdkaimhlcbaaGreat
namespace Go.Proofs.YtoojdkaimhlcbaaGreat
open Go Go.RowKit Go.Sort Go.Maps Go.WideMaps
theorem encStr_of {a:ByteArray} {t:Cal.Txt} (h:a.toList=t):encStr t=.string a:=by
 subst h
 rw[ByteArray.toList_eq]
theorem txtRows_snoc (zs:List Cal.Txt) {a:ByteArray} {t:Cal.Txt} (h:a.toList=t):txtRows (zs ++ [t])=txtRows zs ++ [[.string a]]:=by
 unfold txtRows
 rw[List.map_append,List.map_singleton,encStr_of h]
theorem txtRow_at {w:World} {A:Option Addr} {zs:List Cal.Txt} (h:RowsAt w A 1 (txtRows zs)) {k:Nat} (hk:k<zs.length):∃ b o,A=some ⟨b,o,none⟩∧b<w.heap.size∧∃ zb:ByteArray,zb.toList=zs[k]∧w.cell? ⟨b,o+k,none⟩=some (.string zb):=by
 obtain⟨b,o,hA,hb,hc⟩:=h k [encStr zs[k]] (by simp[txtRows,List.getElem?_eq_getElem hk])
 have:=hc 0 _ rfl
 simp only[Nat.mul_one,Nat.add_zero] at this
 exact⟨b,o,hA,hb,⟨zs[k].toArray⟩,by rw[ByteArray.toList_eq],this⟩
end Go.Proofs.YtoojdkaimhlcbaaGreat
namespace Go.Proofs.YtoojdkaimhlcbaaGreat
open Go Go.RowKit Go.ChangeShapes Go.WideShapes Go.Deep Go.Sort
section
variable {H : Type} {enc : TypeId × Value → H} {w : World} {spare : Nat → Bool} {held : Bool} {r : Reach} {b0 : Nat} {v : Value} {d : DataW H} {ps : List MemPlace}
theorem rows1_of_open {t e:TypeId} {fuel:Nat} {cs:List Value} {x:DataW H × List MemPlace} (ht:Tryz.prog.underlying t=some (.slice e)) (hC:Tryz.prog.cellsOf e=1) (h:DataW.trod enc Tryz.prog w 0 spare held fuel t cs=some x) :
  ∃ (A:Option Addr) (len cap:Nat),cs=[.slice A len cap]∧len≤cap∧∀ i,i<len→∃ (b o n:Nat),A=some ⟨b,o,none⟩∧b<w.heap.size∧∃ (v:Value) (y:DataW H × List MemPlace),w.cell? ⟨b,o+i,none⟩=some v∧DataW.trod enc Tryz.prog w 0 spare held n e [v]=some y:=by
 rcases open_slice ht h with ⟨h0,_⟩ | ⟨a,len,cap,m,n,D,Pl,hcs,hb,hl,hm,hmm,hx,hi⟩
 ·exact⟨none,0,0,h0,Nat.le_refl _,fun i hi=>by omega⟩
 refine⟨some a,len,cap,hcs,hl,fun i him=>?_⟩
 have hlm:len≤m:=by rw[hmm];split <;> omega
 obtain⟨cs',hc,ht'⟩:=hi i (by omega)
 obtain⟨cs0,hc0,_⟩:=hi 0 (by omega)
 rw[hC] at hc hc0
 obtain⟨_,hcl1,hat⟩:=World.cells?_some hc
 obtain⟨_,hcl01,hat0⟩:=World.cells?_some hc0
 have hz:∃ u,w.cell? (a.add 0)=some u:=by
  have h1:=hat0 0 (by omega)
  have hlen0:0<cs0.length:=by omega
  rw[List.getElem?_eq_getElem hlen0] at h1
  exact⟨_,by simpa [Addr.add] using h1⟩
 have ha:a=⟨a.block,a.off,none⟩:=by obtain⟨u,hu⟩:=hz;exact addr_plain hu ⟨u,hu⟩
 have hl1:cs'.length=1:=by omega
 obtain⟨u,rfl⟩:=List.length_eq_one_iff.1 hl1
 refine⟨a.block,a.off,_,by rw[←ha],?_,u,_,?_,ht'⟩
 ·obtain⟨u,hu⟩:=hz
  obtain⟨o,ho,_⟩:=cells_of_cell hu
  have:=(Array.getElem?_eq_some_iff.1 ho).1
  simpa [Addr.add] using this
 have hcell:=hat 0 (by omega)
 rw[ha] at hcell
 rw[List.getElem?_cons_zero] at hcell
 rw[←hcell,Go.Deep.add_add,←Go.WideShapes.add_plain,Nat.mul_one,Nat.add_zero]
theorem rns_of_open (hval:Value.okWide Tryz.prog w r b0 22 v) (h:DataW.Trod enc Tryz.prog w 0 spare held 22 v d ps) :
  ∃ (A:Option Addr) (l:List Rn) (c:Nat),v=.slice A l.length c∧RowsAt w A 2 (l.map rnR)∧(∀ p∈l,p.old.length≤maxLen∧p.new.length≤maxLen)∧l.length≤c:=by
 obtain⟨A,len,cap,rfl⟩:=okWide_slice Tryz.underlying22 hval
 obtain⟨fuel,hf⟩:=h
 obtain⟨A',len',cap',hcs,hlen,hq⟩:=rows_of_open Tryz.underlying22 Tryz.underlying41 (by kernel_rfl) (by kernel_rfl) (by decide) hf
 have he:A=A'∧len=len'∧cap=cap':=by simpa [Value.cells] using hcs
 obtain⟨rfl,rfl,rfl⟩:=he
 have h1:∀ i,i<len→∃ p:Rn,(p.old.length≤maxLen∧p.new.length≤maxLen)∧∃ b o,A=some ⟨b,o,none⟩∧b<w.heap.size∧∀ j v,(rnR p)[j]?=some v→w.cell? ⟨b,o+(i*2+j),none⟩=some v:=fun i hi=>by
  obtain⟨b,o,n,hA,hb,hf⟩:=hq i hi
  obtain⟨v0,y0,c0,t0⟩:=hf 0 _ rfl
  obtain⟨v1,y1,c1,t1⟩:=hf 1 _ rfl
  obtain⟨s0,e0,_,g0⟩:=DataW.trod_string Tryz.underlying9 t0
  obtain⟨s1,e1,_,g1⟩:=DataW.trod_string Tryz.underlying9 t1
  cases e0;cases e1
  refine⟨⟨s0.toList,s1.toList⟩,⟨by rw[←size_len (a:=s0) rfl];exact g0,by rw[←size_len (a:=s1) rfl];exact g1⟩,b,o,hA,hb,fun j v hv=>?_⟩
  match j,hv with
  | 0,hv=>cases hv;rw[encStr_of rfl];exact c0
  | 1,hv=>cases hv;rw[encStr_of rfl];exact c1
  | j+2,hv=>simp[rnR] at hv
 obtain⟨l,hl,hq'⟩:=list_of len h1
 subst hl
 refine⟨A,l,cap,rfl,fun k r hr=>?_,fun p hp=>?_,hlen⟩
 ·rw[List.getElem?_map] at hr
  cases hk:l[k]? with
  | none=>rw[hk] at hr;cases hr
  | some p=>rw[hk] at hr;cases hr;exact (hq' k p hk).2
 obtain⟨k,hk,rfl⟩:=List.getElem_of_mem hp
 exact (hq' k _ (List.getElem?_eq_getElem hk)).1
end
end Go.Proofs.YtoojdkaimhlcbaaGreat
namespace Go.Proofs.YtoojdkaimhlcbaaGreat
namespace Cal
theorem compact_up {zs:List Txt} (h:zs.Pairwise (·≤·)):Lib.compact zs=tups zs:=by
 unfold tups
 rw[List.mergeSort_of_pairwise]
 exact h.imp fun h=>by simpa using h
theorem compact_len (zs:List Txt):(Lib.compact zs).length≤zs.length:=by
 unfold Lib.compact Lib.compactUpTo
 rw[List.length_map]
 exact Nat.le_trans (List.length_filter_le _ _) (by rw[List.length_range];exact Nat.le_refl _)
theorem compact_all {zs:List Txt} (h:(Lib.compact zs).length=zs.length):Lib.compact zs=zs:=by
 have h0:=h
 unfold Lib.compact Lib.compactUpTo at h
 rw[List.length_map] at h
 have hf:(List.range zs.length).filter (Lib.keeps zs.toArray)=List.range zs.length:=(List.filter_sublist).eq_of_length (by rw[h,List.length_range])
 unfold Lib.compact Lib.compactUpTo
 rw[hf]
 apply List.ext_getElem
 ·rw[List.length_map,List.length_range]
 intro i h1 h2
 rw[List.getElem_map,List.getElem_range,getElem!_pos _ i (by simpa using h2)]
 simp
theorem asc_iff {zs:List Txt}:zs.Pairwise (·<·)↔zs.Pairwise (·≤·)∧¬(Lib.compact zs).length<zs.length:=by
 constructor
 ·intro h
  have h1:zs.Pairwise (·≤·):=h.imp fun h=>List.le_of_lt h
  refine⟨h1,?_⟩
  rw[compact_up h1,tups_eq h fun _=>Iff.rfl]
  exact Nat.lt_irrefl _
 rintro⟨h1,h2⟩
 have h3:=compact_len zs
 have h4:=compact_all (zs:=zs) (by omega)
 rw[compact_up h1] at h4
 have:=(tups_spec zs).1
 rw[h4] at this
 exact this
theorem up_of_next {R:Txt→Txt→Prop} (ht:∀ {a b c},R a b→R b c→R a c) {zs:List Txt} (h:∀ k (hk:k+1<zs.length),R zs[k] zs[k+1]):zs.Pairwise R:=by
 rw[List.pairwise_iff_getElem]
 intro i j hi hj hij
 induction j with
 | zero=>omega
 | succ j ih =>
  rcases Nat.lt_or_eq_of_le (show i≤j by omega) with h' | rfl
  ·exact ht (ih (by omega) h') (h j hj)
  exact h i hj
def g1 (zs:List Txt):Prop:=1≤zs.length∧zs.length≤200
def g2 (zs:List Txt):Prop:=∀ x∈zs,nmT x=true
def g3 (zs:List Txt):Prop:=zs.Pairwise (·<·)
noncomputable def kE (Z:Nat→List Txt):Int :=
 @ite _ (∀ k,k<2→g1 (Z k)) (Classical.propDecidable _) (@ite _ (∀ k,k<2→g2 (Z k)) (Classical.propDecidable _) (@ite _ (∀ k,k<2→g3 (Z k)) (Classical.propDecidable _) 0 9) 4) 10
theorem kE_10 {Z:Nat→List Txt} {k:Nat} (hk:k<2) (h:¬g1 (Z k)):kE Z=10:=by
 unfold kE
 rw[if_neg (fun h'=>h (h' k hk))]
theorem kE_4 {Z:Nat→List Txt} {k:Nat} (h1:∀ k,k<2→g1 (Z k)) (hk:k<2) (h:¬g2 (Z k)):kE Z=4:=by
 unfold kE
 rw[if_pos h1,if_neg (fun h'=>h (h' k hk))]
theorem kE_9 {Z:Nat→List Txt} {k:Nat} (h1:∀ k,k<2→g1 (Z k)) (h2:∀ k,k<2→g2 (Z k)) (hk:k<2) (h:¬g3 (Z k)):kE Z=9:=by
 unfold kE
 rw[if_pos h1,if_pos h2,if_neg (fun h'=>h (h' k hk))]
theorem kE_0 {Z:Nat→List Txt} (h1:∀ k,k<2→g1 (Z k)) (h2:∀ k,k<2→g2 (Z k)) (h3:∀ k,k<2→g3 (Z k)):kE Z=0:=by
 unfold kE
 rw[if_pos h1,if_pos h2,if_pos h3]
noncomputable def kK (Z:Nat→List Txt):Int:=if kE Z=0 then (if 1<(Z 1).length then 1 else 0)+(if 1<(Z 0).length then 2 else 0) else 0
theorem kK_no {Z:Nat→List Txt} (h:kE Z≠0):kK Z=0:=by unfold kK;rw[if_neg h]
theorem kK_yes {Z:Nat→List Txt} (h:kE Z=0):kK Z=(if 1<(Z 1).length then 1 else 0)+(if 1<(Z 0).length then 2 else 0):=by unfold kK;rw[if_pos h]
end Cal
end Go.Proofs.YtoojdkaimhlcbaaGreat
namespace Go.Proofs.YtoojdkaimhlcbaaGreat
open Go Go.RowKit Go.Sort
theorem lessS_any (a b:ByteArray) (w:World):Calls Tryz.prog 44 #[.string a,.string b] w fun e w'=>e=.returned (.bool (Op.bytesLess a.toList b.toList))∧w=w':=by
 go_enter Tryz.func44,Tryz.ntmps44
 go_wp2_with (go_at_call 59;refine (NaNS_any _ _).mono ?_;rintro e w1 ⟨rfl,rfl⟩)
 go_ret
 exact⟨rfl,rfl⟩
def upFrom (zs:List Cal.Txt) (q:Nat):Prop:=∀ k (hk:k+1<zs.length),q≤k→zs[k]≤zs[k+1]
theorem IsSortedS_any (A:Option Addr) (c:Nat) (zs:List Cal.Txt) (w:World) (h:RowsAt w A 1 (txtRows zs)) (hs:zs.length≤1000000) :
  Calls Tryz.prog 22 #[.slice A zs.length c] w fun e w'=>e=.returned (.bool (decide (zs.Pairwise (·≤·))))∧Below w.heap.size w w':=by
 have h':=Lib.hid h
 have hb0:Hid (Below w.heap.size w w):=Below.refl _ _
 have p1:IntKind.i64.wrap ((zs.length:Int)-1)=(zs.length:Int)-1:=wrap_small (by omega) (by omega)
 clear h
 by_cases hz:zs.length=0
 ·have hno:zs=[]:=List.eq_nil_of_length_eq_zero hz
  subst hno
  go_enter Tryz.func22,Tryz.ntmps22
  go_wp2_with fail
  go_loopw [3] (fun i wr=>i=.int .i64 (-1)∧Hid (Below w.heap.size w wr)) (fun _ _=>0)
  case atStart=>exact⟨by first | rfl | (simp;done) | (rw[p1];rfl),hb0⟩
  case round =>
   clear hb0
   obtain⟨rfl,hb⟩:=hrel
   go_wp2_with fail
   go_ret
   exact⟨rfl,hb.out⟩
 have hu0:Hid (upFrom zs (zs.length-1)):=fun k hk hq=>by omega
 go_enter Tryz.func22,Tryz.ntmps22
 go_wp2_with fail
 go_loopw [3] (fun i wr=>∃ q:Nat,q+1≤zs.length∧i=.int .i64 q∧Hid (upFrom zs q)∧Hid (Below w.heap.size w wr)) (fun i _=>(intOf i).toNat)
 case atStart=>exact⟨zs.length-1,by omega,by first | (rw[p1];congr 1;omega) | (congr 1;omega),hu0,hb0⟩
 case round =>
  clear hu0 hb0 p1
  obtain⟨q,hq,rfl,hu,hb⟩:=hrel
  by_cases hq0:q=0
  ·have hyes:Hid (decide (zs.Pairwise (·≤·))=true):=by
    show _=_
    rw[decide_eq_true_iff]
    exact Cal.up_of_next (R:=fun a b=>a≤b) (fun h1 h2=>List.le_trans h1 h2) fun k hk=>hu.out k hk (by omega)
   have hgz:¬(0:Int)<(q:Int):=by omega
   clear hu
   go_wp2_with fail
   go_ret
   exact⟨by rw[hyes.out];rfl,hb.out⟩
  have hq1:q<zs.length:=by omega
  have hq2:q-1<zs.length:=by omega
  obtain⟨b1,o1,rfl,_,s1,hs1,c0⟩:=txtRow_at (h'.out.below hb.out) hq1
  obtain⟨b2,o2,hA2,_,s2,hs2,d0⟩:=txtRow_at (h'.out.below hb.out) hq2
  cases hA2
  have p1:IntKind.i64.wrap ((q:Int)-1)=(q:Int)-1:=wrap_small (by omega) (by omega)
  have p2:(1:Int)≤(q:Int):=by omega
  have p3:(0:Int)<(q:Int):=by omega
  have p4:(q:Int)-1<(zs.length:Int):=by omega
  have p5:((q:Int)-1).toNat=q-1:=by omega
  have p6:(0:Int)≤(q:Int)-1:=by omega
  have p7:0<q:=by omega
  have p8:1≤q:=by omega
  have p9:(q:Int)<(zs.length:Int):=by omega
  have hcm:=Lib.hid (fun W=>lessS_any s1 s2 W)
  have hno:Hid (Op.bytesLess s1.toList s2.toList=true→decide (zs.Pairwise (·≤·))=false):=fun h=>by
   rw[decide_eq_false_iff_not]
   intro hp
   rw[bytesLess_eq,decide_eq_true_iff,hs1,hs2] at h
   have:=List.pairwise_iff_getElem.1 hp (q-1) q hq2 hq1 (by omega)
   exact List.not_lt.2 this h
  have hnx:Hid (Op.bytesLess s1.toList s2.toList=false→upFrom zs (q-1)):=fun h k hk hqk=>by
   rcases Nat.lt_or_ge (q-1) k with h' | h'
   ·exact hu.out k hk (by omega)
   have e:k=q-1:=by omega
   subst e
   rw[bytesLess_eq,decide_eq_false_iff_not,hs1,hs2] at h
   have e2:q-1+1=q:=by omega
   simp only[e2]
   exact List.not_lt.1 h
  clear hs1 hs2 hu hq0
  generalize Op.bytesLess s1.toList s2.toList=v at *
  go_wp2_with fail
  refine wp_region_held_drew (S:=Sx wr [(b1,o1+q,.string s1),(b1,o1+(q-1),.string s2)]) (by kernel_rfl) (Sx.mk (by simp only[cs_iff_cons];exact⟨c0,d0,cs_nil _⟩) (Below.refl _ _)).drew (fun hHeld=>?_)
  clear c0 d0
  refine tkHx 0 11 ?_
  refine tkHx 1 12 ?_
  refine tkHx 2 13 ?_
  refine tkHx 3 14 ?_
  refine tkHx 4 15 ?_
  refine tkHx 5 16 ?_
  refine tkHx 6 17 ?_
  refine tkHx 7 18 ?_
  refine tkHx 8 19 ?_
  (refine ratHx 9 (fun K hK=>?_);go_simp)
  refine (hcm.out _).mono ?_
  rintro e0 wz ⟨rfl,rfl⟩
  go_simp
  (refine hK.out _ _ hHeld (fun hHeld=>?_);clear hK K;(try simp only[apS,apN,siA,scZ,scS]))
  refine wpAnyH_done (by kernel_rfl) ?_ _
  (try simp only[apS,apN,siA,scZ,scS])
  have hbe:=Lib.hid (hb.out.trans (hHeld.bel.mono hb.out.size))
  clear hHeld hcm
  cases v
  ·have hnx2:=Lib.hid (hnx.out rfl)
   clear hnx hno
   go_wp2_with fail
   go_roundw
   case rel=>exact⟨q-1,by omega,by go_num,hnx2,hbe⟩
   case measure=>simp[intOf];omega
  have hno2:=Lib.hid (hno.out rfl)
  clear hnx hno
  go_wp2_with fail
  go_ret
  exact⟨by rw[hno2.out];rfl,hbe.out⟩
theorem IndexS_any (A:Option Addr) (c:Nat) (zs:List Cal.Txt) (s:ByteArray) (w:World) (h:RowsAt w A 1 (txtRows zs)) (hs:zs.length≤1000000) :
  Calls Tryz.prog 48 #[.slice A zs.length c,.string s] w fun e w'=>(∃ i:Int,e=.returned (.int .i64 i)∧-1≤i∧decide (0≤i)=decide (s.toList∈zs))∧Below w.heap.size w w':=by
 have h':=Lib.hid h
 have hb0:Hid (Below w.heap.size w w):=Below.refl _ _
 have h0:Hid (s.toList∉zs.take 0):=by show _∉_;simp
 clear h
 go_enter Tryz.func48,Tryz.ntmps48
 go_wp2_with fail
 go_loopw [8] (fun i wr=>∃ k:Nat,k≤zs.length∧i=.int .i64 k∧Hid (s.toList∉zs.take k)∧Hid (Below w.heap.size w wr)) (fun i _=>zs.length-(intOf i).toNat)
 case atStart=>exact⟨0,Nat.zero_le _,rfl,h0,hb0⟩
 case round =>
  clear h0 hb0
  obtain⟨k,hk,rfl,hm,hb⟩:=hrel
  by_cases hlt:k<zs.length
  ·obtain⟨b,o,rfl,_,s1,hs1,c0⟩:=txtRow_at (h'.out.below hb.out) hlt
   have htk:Hid (zs.take (k+1)=zs.take k ++ [zs[k]]):=by show _=_;rw[List.take_succ_eq_append_getElem hlt]
   have hmem:Hid (zs[k]∈zs):=List.getElem_mem hlt
   have hki:(k:Int)<(zs.length:Int):=by omega
   generalize zs[k]=x at *
   cases he:(s.toList == s1.toList)
   ·have hnx:Hid (s.toList∉zs.take (k+1)):=by
     show _∉_
     rw[htk.out,List.mem_append,List.mem_singleton]
     rintro (h | h)
     ·exact hm.out h
     rw[hs1,←h] at he;simp at he
    clear hs1 hm htk hmem
    go_wp2_with fail
    go_roundw
    case rel=>exact⟨k+1,by omega,by go_num,hnx,hb⟩
    case measure=>simp[intOf];omega
   have hin:Hid (decide (s.toList∈zs)=true):=by
    show _=_
    rw[decide_eq_true_iff,eq_of_beq he,hs1];exact hmem.out
   clear hs1 hm htk hmem
   go_wp2_with fail
   go_ret
   exact⟨⟨k,rfl,by omega,by rw[hin.out];simp⟩,hb.out⟩
  have hno:Hid (decide (s.toList∈zs)=false):=by
   show _=_
   rw[decide_eq_false_iff_not]
   have:=hm.out
   rw[List.take_of_length_le (by omega)] at this
   exact this
  clear hm
  go_wp2_with fail
  go_ret
  exact⟨⟨-1,rfl,by omega,by rw[hno.out];rfl⟩,hb.out⟩
theorem ContainsS_any (A:Option Addr) (c:Nat) (zs:List Cal.Txt) (s:ByteArray) (w:World) (h:RowsAt w A 1 (txtRows zs)) (hs:zs.length≤1000000) :
  Calls Tryz.prog 28 #[.slice A zs.length c,.string s] w fun e w'=>e=.returned (.bool (decide (s.toList∈zs)))∧Below w.heap.size w w':=by
 have hi:=Lib.hid (IndexS_any A c zs s w h hs)
 go_enter Tryz.func28,Tryz.ntmps28
 go_wp2_with fail
 refine hi.out.mono ?_
 rintro e w' ⟨⟨i,rfl,hi1,hi2⟩,hb⟩
 have hi2:=Lib.hid hi2
 replace hb:=Lib.hid hb
 go_wp2_with fail
 go_ret
 exact⟨by rw[←hi2.out];rfl,hb.out⟩
def ClonePostS (w:World) (zs:List Cal.Txt) (e:Ending) (w':World):Prop:=∃ v,e=.returned v∧TextsL w' w.heap.size v zs∧Below w.heap.size w w'
theorem CloneS_any (A:Option Addr) (c:Nat) (zs:List Cal.Txt) (w:World) (h:RowsAt w A 1 (txtRows zs)) (hs:zs.length≤1000000) :
  Calls Tryz.prog 24 #[.slice A zs.length c] w (ClonePostS w zs):=by
 cases A with
 | none =>
  have h0:zs=[]:=by
   cases zs with
   | nil=>rfl
   | cons q r=>obtain⟨b,o,hA,_⟩:=h 0 [encStr q] rfl;cases hA
  subst h0
  have hnil:=fun w=>Lib.run_eql_slice_nil (P:=Tryz.prog) w 23 9 none 0 c 0 0 Tryz.underlying23
  go_enter Tryz.func24,Tryz.ntmps24
  go_wp2_with fail
  go_ret
  exact⟨_,rfl,OwnL.nil _ _ _ _,Below.refl _ _⟩
 | some a =>
  have hnil:=fun w=>Lib.run_eql_slice_nil (P:=Tryz.prog) w 23 9 (some a) zs.length c 0 0 Tryz.underlying23
  have hl':=Lib.hid (fun w1 (hb:Below w.heap.size w w1)=>h.below hb)
  clear h
  go_enter Tryz.func24,Tryz.ntmps24
  go_wp2_with (at_builtin;refine wpList_append_rows elemTxt rfl _ _ rfl rfl rfl (OwnL.made w w.heap.size _ 1 (Nat.le_refl _)) (hl'.out _ (below_alloc _ _)) (by rw[txtRows_length]) (txtRows_wid _) (txtRows_one _) (by rw[txtRows_length,List.length_nil];omega) (by decide) (by rw[World.size_alloc];omega) ?_;intro v' w2 hown2 hg2 _;have hO2:=Lib.hid hown2;have hb2:=Lib.hid ((below_alloc w (.cells #[] 9)).trans (grown_below hg2 (fun g e=>by cases e;exact Nat.le_refl _) (by rw[World.size_alloc];omega)));clear hown2 hg2)
  go_ret
  exact⟨_,rfl,hO2.out,hb2.out⟩
end Go.Proofs.YtoojdkaimhlcbaaGreat
