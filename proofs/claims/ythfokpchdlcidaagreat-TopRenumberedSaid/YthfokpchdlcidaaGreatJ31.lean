/- What the statements rest on: definitions and walks, part 31. -/
import Derived.Test.YthfokpchdlcidaaGreatJ30
import Derived.Test.YthfokpchdlcidaaGreatJ24
set_option maxRecDepth 100000
set_option maxHeartbeats 16000000
set_option linter.unusedSimpArgs false
set_option linter.unusedVariables false
namespace Go.Proofs.YthfokpchdlcidaaGreat
open Go Go.RowKit Go.Shelf
theorem wpAnyH_hide {P:Program} {md:Region.Mode} {ops:Array Oper} {Q:Exit→Act→World→Prop} {S:World→Prop} {fuel:Nat} {listed:Array Bool} {a:Act} {w:World} (hp:∀ c a (d:Nat) v w,Q (.panic c) (a.put (some d) v) w→Q (.panic c) a w)
  (h:∀ Q0,(∀ c a (d:Nat) v w,Q0 (.panic c) (a.put (some d) v) w→Q0 (.panic c) a w)→Hid (Q0=Q)→wpAnyH P md ops Q0 S fuel listed a w):wpAnyH P md ops Q S fuel listed a w:=h Q hp rfl
theorem tkQ {P:Program} {ops:Array Oper} {Q:Exit→Act→World→Prop} {md:Region.Mode} {S:World→Prop} (i:Nat) (d:Nat) (hp:∀ c a (d:Nat) v w,Q (.panic c) (a.put (some d) v) w→Q (.panic c) a w) {oi:Oper} {v:Value} {fuel:Nat} {listed:Array Bool} {a:Act} {w:World}
  (hy:∀ w,S w→(execOp a.eval oi).run P w=.ok (.value v) w) (h:wpAnyH P md ops Q S fuel (listed.setIfInBounds i true) (a.put (some d) v) w)
  (hi:ops[i]?=some oi:=by exact rfl) (hdd:oi.dst=some d:=by kernel_rfl) (hs:Region.noSelect ops=true:=by kernel_rfl) (hf:Region.free md ops listed i=true:=by decide +kernel) (hr:(Region.ready md ops listed).contains i=true:=by decide +kernel)
  (hw:Region.wanted oi (yielded ops a.tmps)=true:=by kernel_rfl) (hS:S w:=by assumption):wpAnyH P md ops Q S (fuel+1) listed a w :=
 tkH2 i d hy h hi hdd hs hf hr (fun c _ w h=>by rw[hdd] at h;exact hp c _ d v w h) hw hS
theorem tkQx {P:Program} {ops:Array Oper} {Q:Exit→Act→World→Prop} {md:Region.Mode} {S:World→Prop} (i:Nat) (d:Nat) (hp:∀ c a (d:Nat) v w,Q (.panic c) (a.put (some d) v) w→Q (.panic c) a w) {oi:Oper} {v:Value} {fuel:Nat} {listed l':Array Bool} {a a':Act} {w:World}
  (h:wpAnyH P md ops Q S fuel l' a' w) (hi:ops[i]?=some oi:=by exact rfl)
  (hy:∀ w,S w→(execOp a.eval oi).run P w=.ok (.value v) w:=by (intro w' hSw;replace hSw:=hSw.cs;(try simp only[cs_iff_cons] at hSw);go_simp;(try with_reducible rfl)))
  (ha:a.put (some d) v=a':=by ((try simp only[Act.put,List.setIfInBounds_toArray,List.set_cons_zero,List.set_cons_succ]);exact rfl))
  (hl:listed.setIfInBounds i true=l':=by ((try simp only[List.setIfInBounds_toArray,List.set_cons_zero,List.set_cons_succ]);exact rfl))
  (hdd:oi.dst=some d:=by kernel_rfl) (hs:Region.noSelect ops=true:=by kernel_rfl) (hf:Region.free md ops listed i=true:=by decide +kernel) (hr:(Region.ready md ops listed).contains i=true:=by decide +kernel)
  (hw:Region.wanted oi (yielded ops a.tmps)=true:=by kernel_rfl) (hS:S w:=by assumption):wpAnyH P md ops Q S (fuel+1) listed a w :=
 tkQ i d hp hy (by rw[ha,hl];exact h) hi hdd hs hf hr hw hS
end Go.Proofs.YthfokpchdlcidaaGreat
namespace Go.Proofs.YthfokpchdlcidaaGreat
structure Rn where
 old:Cal.Txt
 new:Cal.Txt
namespace Cal
def rlt (a b:Rn):Prop:=a.old<b.old∨(a.old=b.old∧a.new<b.new)
instance (a b:Rn):Decidable (rlt a b):=by unfold rlt;infer_instance
theorem rlt_irr (a:Rn):¬rlt a a:=fun h=>by
 rcases h with h | ⟨_,h⟩
 ·exact List.lt_irrefl _ h
 exact List.lt_irrefl _ h
theorem rlt_trans {a b c:Rn} (h1:rlt a b) (h2:rlt b c):rlt a c:=by
 unfold rlt at *
 rcases h1 with h1 | ⟨e1,h1⟩
 ·rcases h2 with h2 | ⟨e2,h2⟩
  ·exact .inl (List.lt_trans h1 h2)
  exact .inl (by rw[←e2];exact h1)
 rcases h2 with h2 | ⟨e2,h2⟩
 ·exact .inl (by rw[e1];exact h2)
 exact .inr ⟨e1.trans e2,List.lt_trans h1 h2⟩
theorem txt_tri (a b:Txt):a<b∨a=b∨b<a:=by
 rcases Classical.em (a<b) with h | h
 ·exact .inl h
 by_cases e:a=b
 ·exact .inr (.inl e)
 exact .inr (.inr (txt_lt_of (List.not_lt.1 h) (fun x=>e x.symm)))
theorem rlt_tri (a b:Rn):rlt a b∨a=b∨rlt b a:=by
 rcases txt_tri a.old b.old with h | h | h
 ·exact .inl (.inl h)
 ·rcases txt_tri a.new b.new with h2 | h2 | h2
  ·exact .inl (.inr ⟨h,h2⟩)
  ·exact .inr (.inl (by cases a;cases b;rw[Rn.mk.injEq];exact⟨h,h2⟩))
  exact .inr (.inr (.inr ⟨h.symm,h2⟩))
 exact .inr (.inr (.inl h))
theorem rup_ext:∀ {xs ys:List Rn},xs.Pairwise rlt→ys.Pairwise rlt→(∀ d,d∈xs↔d∈ys)→xs=ys
 | [],[],_,_,_=>rfl
 | [],y :: ys,_,_,h=>absurd ((h y).2 (List.mem_cons_self ..)) (by simp)
 | x :: xs,[],_,_,h=>absurd ((h x).1 (List.mem_cons_self ..)) (by simp)
 | x :: xs,y :: ys,hx,hy,h=>by
  rw[List.pairwise_cons] at hx hy
  have e:x=y:=by
   rcases List.mem_cons.1 ((h x).1 (List.mem_cons_self ..)) with he | hm
   ·exact he
   rcases List.mem_cons.1 ((h y).2 (List.mem_cons_self ..)) with he | hm2
   ·exact he.symm
   exact absurd (rlt_trans (hx.1 y hm2) (hy.1 x hm)) (rlt_irr _)
  subst e
  congr 1
  refine rup_ext hx.2 hy.2 fun d=>⟨fun hd=>?_,fun hd=>?_⟩
  ·rcases List.mem_cons.1 ((h d).1 (List.mem_cons_of_mem _ hd)) with he | hm
   ·have:=hx.1 d hd;rw[he] at this;exact absurd this (rlt_irr _)
   exact hm
  rcases List.mem_cons.1 ((h d).2 (List.mem_cons_of_mem _ hd)) with he | hm
  ·have:=hy.1 d hd;rw[he] at this;exact absurd this (rlt_irr _)
  exact hm
def putR (x:Rn):List Rn→List Rn
 | []=>[x]
 | y :: r=>if rlt x y then x :: y :: r else if rlt y x then y :: putR x r else y :: r
theorem putR_mem {x:Rn}:∀ {l:List Rn} {d:Rn},d∈putR x l↔d=x∨d∈l
 | [],d=>by simp[putR]
 | y :: r,d=>by
  unfold putR
  split
  ·simp
  rename_i h1
  split
  ·rw[List.mem_cons,putR_mem,List.mem_cons]
   constructor
   ·rintro (h | h | h)
    ·exact .inr (.inl h)
    ·exact .inl h
    exact .inr (.inr h)
   rintro (h | h | h)
   ·exact .inr (.inl h)
   ·exact .inl h
   exact .inr (.inr h)
  rename_i h2
  have e:x=y:=by
   rcases rlt_tri x y with h | h | h
   ·exact absurd h h1
   ·exact h
   exact absurd h h2
  rw[e,List.mem_cons]
  constructor
  ·exact fun h=>.inr h
  rintro (h | h)
  ·exact .inl h
  exact h
theorem putR_up {x:Rn}:∀ {l:List Rn},l.Pairwise rlt→(putR x l).Pairwise rlt
 | [],_=>List.pairwise_singleton ..
 | y :: r,h=>by
  unfold putR
  split
  ·rename_i h1
   rw[List.pairwise_cons] at h ⊢
   refine⟨fun d hd=>?_,by rw[List.pairwise_cons];exact h⟩
   rcases List.mem_cons.1 hd with rfl | hd
   ·exact h1
   exact rlt_trans h1 (h.1 d hd)
  split
  ·rename_i h2
   rw[List.pairwise_cons] at h ⊢
   refine⟨fun d hd=>?_,putR_up h.2⟩
   rcases putR_mem.1 hd with rfl | hd
   ·exact h2
   exact h.1 d hd
  exact h
theorem putR_len {x:Rn}:∀ {l:List Rn},(putR x l).length≤l.length+1
 | []=>Nat.le_refl _
 | y :: r=>by
  unfold putR
  split
  ·exact Nat.le_refl _
  split
  ·have:=putR_len (x:=x) (l:=r);simp only[List.length_cons];omega
  simp only[List.length_cons];omega
def settle (l:List Rn):List Rn:=l.foldl (fun acc x=>putR x acc) []
theorem settle_from:∀ (l acc:List Rn),acc.Pairwise rlt→(l.foldl (fun acc x=>putR x acc) acc).Pairwise rlt∧(∀ d,d∈l.foldl (fun acc x=>putR x acc) acc↔d∈l∨d∈acc)∧(l.foldl (fun acc x=>putR x acc) acc).length≤l.length+acc.length
 | [],acc,h=>⟨h,fun d=>by simp,by simp⟩
 | x :: r,acc,h=>by
  obtain⟨h1,h2,h3⟩:=settle_from r (putR x acc) (putR_up h)
  refine⟨h1,fun d=>?_,?_⟩
  ·show d∈r.foldl _ (putR x acc)↔_
   rw[h2,putR_mem,List.mem_cons]
   constructor
   ·rintro (h | h | h)
    ·exact .inl (.inr h)
    ·exact .inl (.inl h)
    exact .inr h
   rintro ((h | h) | h)
   ·exact .inr (.inl h)
   ·exact .inl h
   exact .inr (.inr h)
  have:=putR_len (x:=x) (l:=acc)
  show (r.foldl _ (putR x acc)).length≤_
  rw[List.length_cons]
  omega
theorem settle_up (l:List Rn):(settle l).Pairwise rlt:=(settle_from l [] List.Pairwise.nil).1
theorem settle_mem {l:List Rn} {d:Rn}:d∈settle l↔d∈l:=by
 have:=(settle_from l [] List.Pairwise.nil).2.1 d
 unfold settle
 rw[this]
 simp
theorem settle_len (l:List Rn):(settle l).length≤l.length:=by
 have:=(settle_from l [] List.Pairwise.nil).2.2
 unfold settle
 simpa using this
theorem settle_is {l xs:List Rn} (h:xs.Pairwise rlt) (hm:∀ d,d∈xs↔d∈l):xs=settle l:=rup_ext h (settle_up l) fun d=>by rw[hm,settle_mem]
def swapR (x:Rn):Rn:=⟨x.new,x.old⟩
def turnR (l:List Rn):List Rn:=settle (l.map swapR)
theorem turnR_mem {l:List Rn} {d:Rn}:d∈turnR l↔swapR d∈l:=by
 unfold turnR
 rw[settle_mem,List.mem_map]
 constructor
 ·rintro⟨x,hx,rfl⟩;exact hx
 exact fun h=>⟨swapR d,h,rfl⟩
theorem turnR_len (l:List Rn):(turnR l).length≤l.length:=by
 have:=settle_len (l.map swapR)
 rw[List.length_map] at this
 exact this
end Cal
end Go.Proofs.YthfokpchdlcidaaGreat
namespace Go.Proofs.YthfokpchdlcidaaGreat
def nmT (t:Cal.Txt):Bool:=nameB ⟨t.toArray⟩
theorem nmT_of {a:ByteArray}:nmT a.toList=nameB a:=by
 unfold nmT
 rw[ByteArray.toList_eq]
namespace Cal
def folB:Option Rn→Rn→Bool
 | none,_=>true
 | some y,x=>decide (rlt y x)
def numF:Option Rn→List Rn→Int
 | _,[]=>0
 | p,x :: r=>if nmT x.old && nmT x.new then (if folB p x then numF (some x) r else 9) else 4
def numE (l:List Rn):Int:=if 200<l.length then 8 else numF none l
theorem numF_cons (p:Option Rn) (x:Rn) (r:List Rn):numF p (x :: r)=if nmT x.old && nmT x.new then (if folB p x then numF (some x) r else 9) else 4:=rfl
theorem numF_zero:∀ {l:List Rn} {p:Option Rn},numF p l=0↔(∀ x∈l,nmT x.old=true∧nmT x.new=true)∧l.Pairwise rlt∧(∀ y x,p=some y→l.head?=some x→rlt y x)
 | [],p=>by simp[numF]
 | x :: r,p=>by
  rw[numF_cons]
  constructor
  ·intro h
   split at h
   ·rename_i h1
    rw[Bool.and_eq_true] at h1
    split at h
    ·rename_i h2
     obtain⟨g1,g2,g3⟩:=numF_zero.1 h
     refine⟨fun y hy=>?_,?_,fun y z hy hz=>?_⟩
     ·rcases List.mem_cons.1 hy with rfl | hy
      ·exact h1
      exact g1 y hy
     ·rw[List.pairwise_cons]
      refine⟨fun y hy=>?_,g2⟩
      cases r with
      | nil=>cases hy
      | cons a r =>
       have ha:=g3 x a rfl rfl
       rcases List.mem_cons.1 hy with rfl | hy
       ·exact ha
       exact rlt_trans ha ((List.pairwise_cons.1 g2).1 y hy)
     subst hy
     cases hz
     unfold folB at h2
     simpa using h2
    cases h
   cases h
  rintro⟨h1,h2,h3⟩
  have hx:=h1 x (List.mem_cons_self ..)
  rw[List.pairwise_cons] at h2
  rw[if_pos (by rw[hx.1,hx.2];rfl),if_pos]
  ·exact numF_zero.2 ⟨fun y hy=>h1 y (List.mem_cons_of_mem _ hy),h2.2,fun y z hy hz=>by
    cases hy
    cases r with
    | nil=>cases hz
    | cons a r=>cases hz;exact h2.1 z (List.mem_cons_self ..)⟩
  cases p with
  | none=>rfl
  | some y=>unfold folB;exact decide_eq_true (h3 y x rfl rfl)
theorem numE_zero {l:List Rn}:numE l=0↔l.length≤200∧(∀ x∈l,nmT x.old=true∧nmT x.new=true)∧l.Pairwise rlt:=by
 unfold numE
 split
 ·constructor
  ·intro h;cases h
  rintro⟨h,_⟩;omega
 rw[numF_zero]
 constructor
 ·rintro⟨h1,h2,_⟩;exact⟨by omega,h1,h2⟩
 rintro⟨_,h1,h2⟩;exact⟨h1,h2,fun y x h=>by cases h⟩
def befR (l:List Rn) (k:Nat):Option Rn:=if k=0 then none else l[k-1]?
theorem befR_succ {l:List Rn} {k:Nat}:befR l (k+1)=l[k]?:=by unfold befR;rw[if_neg (by omega),Nat.add_sub_cancel]
def newsOf (l:List Rn) (x:Txt):List Txt:=(l.filter fun r=>r.old == x).map Rn.new
theorem newsOf_append (l:List Rn) (r:Rn) (x:Txt):newsOf (l ++ [r]) x=newsOf l x ++ if r.old=x then [r.new] else []:=by
 unfold newsOf
 rw[List.filter_append,List.map_append]
 by_cases h:r.old=x
 ·simp[h]
 simp[h]
theorem newsOf_mem {l:List Rn} {x d:Txt}:d∈newsOf l x↔(⟨x,d⟩:Rn)∈l:=by
 unfold newsOf
 rw[List.mem_map]
 constructor
 ·rintro⟨r,hr,rfl⟩
  obtain⟨h1,h2⟩:=List.mem_filter.1 hr
  have:r.old=x:=eq_of_beq h2
  cases r
  cases this
  exact h1
 intro h
 exact⟨_,List.mem_filter.2 ⟨h,beq_self_eq_true _⟩,rfl⟩
theorem newsOf_len (l:List Rn) (x:Txt):(newsOf l x).length≤l.length:=by
 unfold newsOf
 rw[List.length_map]
 exact List.length_filter_le _ _
def knownT (l:List Rn) (x:Txt):Bool:=l.any fun r=>r.old == x
theorem knownT_news {l:List Rn} {x:Txt}:knownT l x=true↔newsOf l x≠[]:=by
 unfold knownT newsOf
 rw[List.any_eq_true]
 constructor
 ·rintro⟨r,hr,h⟩ he
  have:r∈l.filter fun r=>r.old == x:=List.mem_filter.2 ⟨hr,h⟩
  rw[List.map_eq_nil_iff] at he
  rw[he] at this
  cases this
 intro h
 cases hf:l.filter fun r=>r.old == x with
 | nil=>rw[hf] at h;exact absurd rfl h
 | cons r t =>
  have:r∈l.filter fun r=>r.old == x:=by rw[hf];exact List.mem_cons_self ..
  obtain⟨h1,h2⟩:=List.mem_filter.1 this
  exact⟨r,h1,h2⟩
def imgF (l:List Rn):List Txt→Int
 | []=>0
 | x :: r=>if nmT x then (if knownT l x then imgF l r else 6) else 4
theorem imgF_cons (l:List Rn) (x:Txt) (r:List Txt):imgF l (x :: r)=if nmT x then (if knownT l x then imgF l r else 6) else 4:=rfl
def imgE (l:List Rn) (names:List Txt):Int:=if numE l=0 then (if 200<names.length then 8 else imgF l names) else numE l
def imgL (l:List Rn) (names:List Txt):List Txt:=names.flatMap (newsOf l)
theorem imgL_append (l:List Rn) (a:List Txt) (x:Txt):imgL l (a ++ [x])=imgL l a ++ newsOf l x:=by unfold imgL;simp
theorem imgL_len (l:List Rn):∀ a:List Txt,(imgL l a).length≤a.length*l.length
 | []=>by simp[imgL]
 | x :: r=>by
  have ih:=imgL_len l r
  have:=newsOf_len l x
  have e:imgL l (x :: r)=newsOf l x ++ imgL l r:=by unfold imgL;simp
  rw[e,List.length_append,List.length_cons,Nat.succ_mul]
  omega
def imgR (l:List Rn) (names:List Txt):List Txt:=if imgE l names=0 then tups (imgL l names) else []
end Cal
end Go.Proofs.YthfokpchdlcidaaGreat
namespace Go.Proofs.YthfokpchdlcidaaGreat
open Go Go.RowKit Go.Sort
def cmpT (a b:Cal.Txt):Int:=if a<b then -1 else if b<a then 1 else 0
theorem cmpT_neg {a b:Cal.Txt}:cmpT a b<0↔a<b:=by
 unfold cmpT
 split
 ·rename_i h;simp[h]
 rename_i h
 split <;> simp[h]
theorem cmpT_zero {a b:Cal.Txt}:cmpT a b=0↔a=b:=by
 unfold cmpT
 split
 ·rename_i h
  constructor
  ·intro e;omega
  intro e;subst e;exact absurd h (List.lt_irrefl _)
 rename_i h
 split
 ·rename_i h2
  constructor
  ·intro e;omega
  intro e;subst e;exact absurd h2 (List.lt_irrefl _)
 rename_i h2
 constructor
 ·intro _
  rcases Cal.txt_tri a b with h3 | h3 | h3
  ·exact absurd h3 h
  ·exact h3
  exact absurd h3 h2
 intro _;rfl
theorem NaNS_any (a:ByteArray) (w:World):Calls Tryz.prog 126 #[.string a] w fun e w'=>e=.returned (.bool false)∧w=w':=by
 go_enter Tryz.func126,Tryz.ntmps126
 go_wp2_with fail
 go_ret
 exact⟨by first | rfl | simp,rfl⟩
theorem cmpS_any (a b:ByteArray) (w:World):Calls Tryz.prog 98 #[.string a,.string b] w fun e w'=>e=.returned (.int .i64 (cmpT a.toList b.toList))∧w=w':=by
 have hR:Hid (cmpT a.toList b.toList=if Op.bytesLess a.toList b.toList=true then -1 else if (a.toList == b.toList)=true then 0 else 1):=by
  show _=_
  unfold cmpT
  rw[bytesLess_eq]
  simp only[decide_eq_true_eq,beq_iff_eq]
  by_cases h:a.toList<b.toList
  ·rw[if_pos h,if_pos h]
  rw[if_neg h,if_neg h]
  by_cases h2:a.toList=b.toList
  ·rw[if_pos h2,if_neg (by rw[h2];exact List.lt_irrefl _)]
  rw[if_neg h2,if_pos]
  rcases Cal.txt_tri a.toList b.toList with h3 | h3 | h3
  ·exact absurd h3 h
  ·exact absurd h3 h2
  exact h3
 rw[hR.out]
 clear hR
 cases h1:Op.bytesLess a.toList b.toList
 ·cases h2:(a.toList == b.toList)
  ·go_enter Tryz.func98,Tryz.ntmps98
   go_wp2_with (go_at_call 126;refine (NaNS_any _ _).mono ?_;rintro e w1 ⟨rfl,rfl⟩)
   go_ret
   exact⟨rfl,rfl⟩
  go_enter Tryz.func98,Tryz.ntmps98
  go_wp2_with (go_at_call 126;refine (NaNS_any _ _).mono ?_;rintro e w1 ⟨rfl,rfl⟩)
  go_ret
  exact⟨rfl,rfl⟩
 go_enter Tryz.func98,Tryz.ntmps98
 go_wp2_with (go_at_call 126;refine (NaNS_any _ _).mono ?_;rintro e w1 ⟨rfl,rfl⟩)
 go_ret
 exact⟨rfl,rfl⟩
theorem neg_two {a b:Int}:firstNZ [a,b]<0↔a<0∨(a=0∧b<0):=by
 simp only[firstNZ]
 split
 ·split <;> omega
 omega
def rnCf (x y:Rn):Int:=firstNZ [cmpT x.old y.old,cmpT x.new y.new]
theorem rnCf_neg {x y:Rn}:rnCf x y<0↔Cal.rlt x y:=by
 unfold rnCf
 rw[neg_two,cmpT_neg,cmpT_zero,cmpT_neg]
 rfl
theorem compare_any (a b c d:ByteArray) (w:World):Calls Tryz.prog 56 #[.agg #[.string a,.string b],.agg #[.string c,.string d]] w fun e w'=>e=.returned (.int .i64 (rnCf ⟨a.toList,b.toList⟩ ⟨c.toList,d.toList⟩))∧∃ q os,w'=grow (w.drewN q) os:=by
 have hS:(fun w'=>(w'.cell? ⟨w.heap.size,0,none⟩=some (.string a)∧w'.cell? ⟨w.heap.size,1,none⟩=some (.string b))∧w'.cell? ⟨w.heap.size+1,0,none⟩=some (.string c)∧w'.cell? ⟨w.heap.size+1,1,none⟩=some (.string d)) ((w.alloc (.cells #[.string a,.string b] 69)).alloc (.cells #[.string c,.string d] 69)):=by simp
 have hS2:∀ o:Obj,(fun w'=>(w'.cell? ⟨w.heap.size,0,none⟩=some (.string a)∧w'.cell? ⟨w.heap.size,1,none⟩=some (.string b))∧w'.cell? ⟨w.heap.size+1,0,none⟩=some (.string c)∧w'.cell? ⟨w.heap.size+1,1,none⟩=some (.string d)) (((w.alloc (.cells #[.string a,.string b] 69)).alloc (.cells #[.string c,.string d] 69)).alloc o):=fun o=>by
  have hb:=below_alloc ((w.alloc (.cells #[.string a,.string b] 69)).alloc (.cells #[.string c,.string d] 69)) o
  have k1:w.heap.size<((w.alloc (.cells #[.string a,.string b] 69)).alloc (.cells #[.string c,.string d] 69)).heap.size:=by simp;omega
  have k2:w.heap.size+1<((w.alloc (.cells #[.string a,.string b] 69)).alloc (.cells #[.string c,.string d] 69)).heap.size:=by simp
  exact⟨⟨(hb.cell (p:=⟨w.heap.size,0,none⟩) k1).trans hS.1.1,(hb.cell (p:=⟨w.heap.size,1,none⟩) k1).trans hS.1.2⟩,(hb.cell (p:=⟨w.heap.size+1,0,none⟩) k2).trans hS.2.1,(hb.cell (p:=⟨w.heap.size+1,1,none⟩) k2).trans hS.2.2⟩
 have hS2:=Lib.hid hS2
 go_enter Tryz.func56,Tryz.ntmps56
 go_wp2_with fail
 refine wp_region_held_drew (S:=(fun w'=>(w'.cell? ⟨w.heap.size,0,none⟩=some (.string a)∧w'.cell? ⟨w.heap.size,1,none⟩=some (.string b))∧w'.cell? ⟨w.heap.size+1,0,none⟩=some (.string c)∧w'.cell? ⟨w.heap.size+1,1,none⟩=some (.string d))) (by kernel_rfl) hS (fun hHeld=>?_)
 have hS:=Lib.hid hS
 (refine tkH 0 (v:=?_) ?_ ?_;rotate_left;focus (intro w' hSw;(try dsimp only at hSw);go_simp;(try with_reducible rfl));(try simp only[Act.put,List.setIfInBounds_toArray,List.set_cons_zero,List.set_cons_succ]))
 (refine tkH 1 (v:=?_) ?_ ?_;rotate_left;focus (intro w' hSw;(try dsimp only at hSw);go_simp;(try with_reducible rfl));(try simp only[Act.put,List.setIfInBounds_toArray,List.set_cons_zero,List.set_cons_succ]))
 (refine tkH 2 (v:=?_) ?_ ?_;rotate_left;focus (intro w' hSw;(try dsimp only at hSw);go_simp;(try with_reducible rfl));(try simp only[Act.put,List.setIfInBounds_toArray,List.set_cons_zero,List.set_cons_succ]))
 (refine tkH 3 (v:=?_) ?_ ?_;rotate_left;focus (intro w' hSw;(try dsimp only at hSw);go_simp;(try with_reducible rfl));(try simp only[Act.put,List.setIfInBounds_toArray,List.set_cons_zero,List.set_cons_succ]))
 (refine tkH 5 (v:=?_) ?_ ?_;rotate_left;focus (intro w' hSw;(try dsimp only at hSw);go_simp;(try with_reducible rfl));(try simp only[Act.put,List.setIfInBounds_toArray,List.set_cons_zero,List.set_cons_succ]))
 (refine tkH 6 (v:=?_) ?_ ?_;rotate_left;focus (intro w' hSw;(try dsimp only at hSw);go_simp;(try with_reducible rfl));(try simp only[Act.put,List.setIfInBounds_toArray,List.set_cons_zero,List.set_cons_succ]))
 (refine tkH 7 (v:=?_) ?_ ?_;rotate_left;focus (intro w' hSw;(try dsimp only at hSw);go_simp;(try with_reducible rfl));(try simp only[Act.put,List.setIfInBounds_toArray,List.set_cons_zero,List.set_cons_succ]))
 (refine tkH 8 (v:=?_) ?_ ?_;rotate_left;focus (intro w' hSw;(try dsimp only at hSw);go_simp;(try with_reducible rfl));(try simp only[Act.put,List.setIfInBounds_toArray,List.set_cons_zero,List.set_cons_succ]))
 (refine ratHx 4 (fun K hK=>?_);go_simp)
 (refine (cmpS_any _ _ _).mono ?_;rintro e w' ⟨rfl,rfl⟩;go_simp;(refine hK.out _ _ hS.out (fun hHeld=>?_);clear hK K;(try simp only[Act.put]);(try simp only[List.setIfInBounds_toArray]);(try simp only[List.set_cons_zero,List.set_cons_succ])))
 (refine ratHx 9 (fun K hK=>?_);go_simp)
 (refine (cmpS_any _ _ _).mono ?_;rintro e w' ⟨rfl,rfl⟩;go_simp;(refine hK.out _ _ hS.out (fun hHeld=>?_);clear hK K;(try simp only[Act.put]);(try simp only[List.setIfInBounds_toArray]);(try simp only[List.set_cons_zero,List.set_cons_succ])))
 (refine ratHx 10 (fun K hK=>?_);go_simp)
 (refine hK.out _ _ (hS2.out _) (fun hHeld=>?_);clear hK K;(try simp only[Act.put]);(try simp only[List.setIfInBounds_toArray]);(try simp only[List.set_cons_zero,List.set_cons_succ]))
 (refine ratHx 11 (fun K hK=>?_);go_simp)
 refine (Or_any (some ⟨w.heap.size+1+1,0,none⟩) 2 [cmpT a.toList c.toList,cmpT b.toList d.toList] (((w.alloc (.cells #[.string a,.string b] 69)).alloc (.cells #[.string c,.string d] 69)).alloc (.cells #[.int .i64 (cmpT a.toList c.toList),.int .i64 (cmpT b.toList d.toList)] 3)).drew (by have h:=ints_new ((w.alloc (.cells #[.string a,.string b] 69)).alloc (.cells #[.string c,.string d] 69)) #[.int .i64 (cmpT a.toList c.toList),.int .i64 (cmpT b.toList d.toList)] 3 [cmpT a.toList c.toList,cmpT b.toList d.toList] rfl;simp only[World.size_alloc] at h;exact h) (show 2≤1000000 by decide)).mono ?_
 rintro e w' ⟨rfl,rfl⟩
 go_simp
 (refine hK.out _ _ (hS2.out _) (fun hHeld=>?_);clear hK K;(try simp only[Act.put]);(try simp only[List.setIfInBounds_toArray]);(try simp only[List.set_cons_zero,List.set_cons_succ]))
 (refine ratHx 12 (fun K hK=>?_);go_simp)
 (refine hK.out _ _ (hS2.out _) (fun hHeld=>?_);clear hK K;(try simp only[Act.put]);(try simp only[List.setIfInBounds_toArray]);(try simp only[List.set_cons_zero,List.set_cons_succ]))
 refine wpAnyH_done (by kernel_rfl) ?_ _
 go_wp2_with fail
 go_ret
 refine⟨rfl,1,#[(.cells #[.string a,.string b] 69),(.cells #[.string c,.string d] 69),.cells #[.int .i64 (cmpT a.toList c.toList),.int .i64 (cmpT b.toList d.toList)] 3],?_⟩
 show ((w.drew.alloc (.cells #[.string a,.string b] 69)).alloc (.cells #[.string c,.string d] 69)).alloc (.cells #[.int .i64 (cmpT a.toList c.toList),.int .i64 (cmpT b.toList d.toList)] 3)=_
 rw[alloc_eq_grow,alloc_eq_grow,alloc_eq_grow,grow_grow,grow_grow]
 rfl
theorem compareB_any (a b c d:ByteArray) (w:World):Calls Tryz.prog 56 #[.agg #[.string a,.string b],.agg #[.string c,.string d]] w fun e w'=>e=.returned (.int .i64 (rnCf ⟨a.toList,b.toList⟩ ⟨c.toList,d.toList⟩))∧Below w.heap.size w w':=by
 refine (compare_any a b c d w).mono ?_
 rintro e w' ⟨rfl,q,os,rfl⟩
 exact⟨rfl,below_of_drewN (n:=q) (grow_below _ os)⟩
def rnR (x:Rn):List Value:=[encStr x.old,encStr x.new]
theorem elemRn:Elem Tryz.prog 46 69 2 32:=Elem.mk' Tryz.underlying46 (z:=.agg #[.string ⟨#[]⟩,.string ⟨#[]⟩]) (by kernel_rfl) rfl (by decide)
structure Rns (w:World) (A:Option Addr) (l:List Rn):Prop where
 rows:RowsAt w A 2 (l.map rnR)
 size:l.length≤1000000
 len:∀ x∈l,x.old.length≤maxLen∧x.new.length≤maxLen
theorem rn_at {w:World} {A:Option Addr} {l:List Rn} (h:RowsAt w A 2 (l.map rnR)) {k:Nat} {x:Rn} (hk:l[k]?=some x) :
  ∃ b o,A=some ⟨b,o,none⟩∧b<w.heap.size∧∃ ao an:ByteArray,ao.toList=x.old∧an.toList=x.new∧w.cell? ⟨b,o+k*2,none⟩=some (.string ao)∧w.cell? ⟨b,o+k*2+1,none⟩=some (.string an):=by
 obtain⟨b,o,hA,hb,hc⟩:=h k (rnR x) (by rw[List.getElem?_map,hk];rfl)
 exact⟨b,o,hA,hb,⟨x.old.toArray⟩,⟨x.new.toArray⟩,by rw[ByteArray.toList_eq],by rw[ByteArray.toList_eq],hc 0 _ rfl,hc 1 _ rfl⟩
theorem size_len {a:ByteArray} {t:Cal.Txt} (h:a.toList=t):a.size=t.length:=by
 rw[←h,ByteArray.toList_eq]
 rfl
structure RbI (w:World) (B:Nat) (a b:ByteArray) (W:World):Prop where
 bx:BoxAt W B [.string a,.string b]
 bel:Below w.heap.size w W
theorem RbI.below {w:World} {B:Nat} {a b:ByteArray} {X Y:World} (h:RbI w B a b X) (hb:Below X.heap.size X Y):RbI w B a b Y:=⟨h.bx.below hb,below_step h.bel hb⟩
theorem CheckNumbers_any (A:Option Addr) (c:Nat) (l:List Rn) (w:World) (hl:Rns w A l) :
  Calls Tryz.prog 22 #[.slice A l.length c] w fun e w'=>e=.returned (.int .i64 (Cal.numE l))∧Below w.heap.size w w':=by
 have hb0:Hid (Below w.heap.size w w):=Below.refl _ _
 by_cases hbig:200<l.length
 ·have hR:Cal.numE l=8:=by unfold Cal.numE;rw[if_pos hbig]
  have hbi:200<(l.length:Int):=by omega
  rw[hR]
  clear hR hl
  go_enter Tryz.func22,Tryz.ntmps22
  go_wp2_with fail
  go_ret
  exact⟨rfl,hb0.out⟩
 obtain⟨R,hRR⟩:∃ R,Cal.numE l=R:=⟨_,rfl⟩
 have hbi:¬200<(l.length:Int):=by omega
 have hR:Hid (R=Cal.numF (Cal.befR l 0) (l.drop 0)):=by
  show _=_
  rw[←hRR]
  unfold Cal.numE Cal.befR
  rw[if_neg hbig]
  rfl
 rw[hRR]
 clear hRR
 replace hl:=Lib.hid hl
 go_enter Tryz.func22,Tryz.ntmps22
 go_wp2_with fail
 go_loopw [10] (fun i wr=>∃ k:Nat,k≤l.length∧i=.int .i64 k∧Hid (R=Cal.numF (Cal.befR l k) (l.drop k))∧Hid (Below w.heap.size w wr)) (fun i _=>l.length-(intOf i).toNat)
 case atStart=>exact⟨0,Nat.zero_le _,rfl,hR,hb0⟩
 case round =>
  clear hR hb0
  obtain⟨k,hk,rfl,hR,hb⟩:=hrel
  by_cases hlt:k<l.length
  ·have hk':l[k]?=some l[k]:=List.getElem?_eq_getElem hlt
   have hd:=Lib.hid (List.drop_eq_getElem_cons hlt)
   have hln:=hl.out.len _ (List.getElem_mem hlt)
   have hbs:Cal.befR l (k+1)=some l[k]:=by rw[Cal.befR_succ];exact hk'
   have hR':=hR.out
   rw[hd.out,Cal.numF_cons,←hbs] at hR'
   replace hR:=Lib.hid hR'
   clear hR' hd hbs
   generalize l[k]=x at *
   obtain⟨b,o,rfl,hbl,ao,an,ha1,ha2,c0,c1⟩:=rn_at (hl.out.rows.below hb.out) hk'
   have hs1:ao.size≤maxLen:=by rw[size_len ha1];exact hln.1
   have hs2:an.size≤maxLen:=by rw[size_len ha2];exact hln.2
   have hn1:=Lib.hid (fun W=>gisName_any ao W hs1)
   have hn2:=Lib.hid (fun W=>gisName_any an W hs2)
   rw[←nmT_of,ha1] at hn1
   rw[←nmT_of,ha2] at hn2
   have hI:=Lib.hid (show RbI w wr.heap.size ao an (wr.alloc (.cells #[.string ao,.string an] 69)) from ⟨BoxAt.new wr #[.string ao,.string an] 69,below_step hb.out (below_alloc _ _)⟩)
   have hwr:Hid (Below w.heap.size w wr):=hb
   have hki:(k:Int)<(l.length:Int):=by omega
   have m1:Hid True:=trivial
   clear hk' hln hs1 hs2 hb
   (obtain⟨x0,x1⟩:=hI.out.bx.c2)
   cases h1:nmT x.old
   ·rw[h1] at hn1
    have hfin:Hid (R=4):=by show _=_;rw[hR.out,h1];rfl
    clear hR ha1 ha2
    go_wp2_with (go_at_call 55;clear x0 x1;(first | (clear m1;refine (hn1.out _).mono ?_;rintro e0 wn ⟨rfl,hbn⟩) | (refine (hn2.out _).mono ?_;rintro e0 wn ⟨rfl,hbn⟩));replace hI:=Lib.hid (hI.out.below hbn);clear hbn;(obtain⟨x0,x1⟩:=hI.out.bx.c2))
    go_ret
    exact⟨ret_int hfin.out.symm,hI.out.bel⟩
   cases h2:nmT x.new
   ·rw[h1] at hn1
    rw[h2] at hn2
    have hfin:Hid (R=4):=by show _=_;rw[hR.out,h1,h2];rfl
    clear hR ha1 ha2
    go_wp2_with (go_at_call 55;clear x0 x1;(first | (clear m1;refine (hn1.out _).mono ?_;rintro e0 wn ⟨rfl,hbn⟩) | (refine (hn2.out _).mono ?_;rintro e0 wn ⟨rfl,hbn⟩));replace hI:=Lib.hid (hI.out.below hbn);clear hbn;(obtain⟨x0,x1⟩:=hI.out.bx.c2))
    go_ret
    exact⟨ret_int hfin.out.symm,hI.out.bel⟩
   rw[h1] at hn1
   rw[h2] at hn2
   have hR':R=if Cal.folB (Cal.befR l k) x then Cal.numF (Cal.befR l (k+1)) (l.drop (k+1)) else 9:=by rw[hR.out,h1,h2];rfl
   replace hR:=Lib.hid hR'
   clear hR' h1 h2
   by_cases hk0:k=0
   ·subst hk0
    rw[Nat.zero_mul,Nat.add_zero] at c0 c1
    have hnx:Hid (R=Cal.numF (Cal.befR l (0+1)) (l.drop (0+1))):=by show _=_;rw[hR.out];rfl
    clear hR ha1 ha2
    go_wp2_with (go_at_call 55;clear x0 x1;(first | (clear m1;refine (hn1.out _).mono ?_;rintro e0 wn ⟨rfl,hbn⟩) | (refine (hn2.out _).mono ?_;rintro e0 wn ⟨rfl,hbn⟩));replace hI:=Lib.hid (hI.out.below hbn);clear hbn;(obtain⟨x0,x1⟩:=hI.out.bx.c2))
    refine wp_region_held_drew (S:=Sx wn []) (by kernel_rfl) (Sx.mk (cs_nil _) (Below.refl _ _)).drew (fun hHeld=>?_)
    clear x0 x1
    refine tkHx 0 27 ?_
    refine tkHx 1 28 ?_
    refine tkHx 2 29 ?_
    refine tkFx 3 30 ?_
    refine tkFx 4 31 ?_
    refine tkFx 5 32 ?_
    refine tkFx 6 33 ?_
    refine tkFx 7 34 ?_
    refine tkFx 8 35 ?_
    refine tkFx 9 36 ?_
    refine tkFx 10 37 ?_
    refine tkHx 11 38 ?_
    refine tkHx 12 26 ?_
    refine wpAnyH_done (by kernel_rfl) ?_ _
    (try simp only[apS,apN,siA,scZ,scS])
    replace hI:=Lib.hid (hI.out.below hHeld.bel)
    clear hHeld
    have hbe:=Lib.hid hI.out.bel
    go_wp2_with fail
    go_roundw
    case rel=>exact⟨1,by omega,by go_num,hnx,hbe⟩
    case measure=>simp[intOf];omega
   have hq1:k-1<l.length:=by omega
   have hbf:Cal.befR l k=some l[k-1]:=by unfold Cal.befR;rw[if_neg hk0];exact List.getElem?_eq_getElem hq1
   have hR':=hR.out
   rw[hbf] at hR'
   replace hR:=Lib.hid hR'
   have hj':l[k-1]?=some l[k-1]:=List.getElem?_eq_getElem hq1
   have hrows:=Lib.hid (fun W (hW:Below w.heap.size w W)=>rn_at (hl.out.rows.below hW) hj')
   clear hR' hbf hj'
   generalize l[k-1]=y at *
   have p1:IntKind.i64.wrap ((k:Int)-1)=(k:Int)-1:=wrap_small (by omega) (by omega)
   have p2:(1:Int)≤(k:Int):=by omega
   have p3:(0:Int)<(k:Int):=by omega
   have p4:(k:Int)-1<(l.length:Int):=by omega
   have p5:((k:Int)-1).toNat=k-1:=by omega
   have p6:(0:Int)≤(k:Int)-1:=by omega
   have p7:0<k:=by omega
   have p8:1≤k:=by omega
   clear hwr
   go_wp2_with (go_at_call 55;clear x0 x1;(first | (clear m1;refine (hn1.out _).mono ?_;rintro e0 wn ⟨rfl,hbn⟩) | (refine (hn2.out _).mono ?_;rintro e0 wn ⟨rfl,hbn⟩));replace hI:=Lib.hid (hI.out.below hbn);clear hbn;(obtain⟨x0,x1⟩:=hI.out.bx.c2))
   obtain⟨b',o',hA',hbl',bo,bn,hb1,hb2,d0,d1⟩:=hrows.out _ hI.out.bel
   cases hA'
   have hcf:=rnCf_neg (x:=y) (y:=x)
   have hcm:=Lib.hid (fun W=>compareB_any bo bn ao an W)
   rw[show (⟨bo.toList,bn.toList⟩:Rn)=y from by rw[hb1,hb2],show (⟨ao.toList,an.toList⟩:Rn)=x from by rw[ha1,ha2]] at hcm
   clear ha1 ha2 hb1 hb2 hrows
   generalize rnCf y x=v at *
   refine wp_region_held_drew (S:=Sx wn [(b,o+(k-1)*2,.string bo),(b,o+(k-1)*2+1,.string bn),(wr.heap.size,0,.string ao),(wr.heap.size,1,.string an)]) (by kernel_rfl) (Sx.mk (by simp only[cs_iff_cons];exact⟨d0,d1,x0,x1,cs_nil _⟩) (Below.refl _ _)).drew (fun hHeld=>?_)
   clear d0 d1 x0 x1
   (refine wpAnyH_hide (fun _ _ _ _ _ h=>h) (fun Q0 hp0 hQ0=>?_))
   refine tkQx 0 27 hp0 ?_
   refine tkQx 1 28 hp0 ?_
   refine tkQx 2 29 hp0 ?_
   refine tkQx 3 30 hp0 ?_
   refine tkQx 4 31 hp0 ?_
   refine tkQx 5 32 hp0 ?_
   refine tkQx 6 33 hp0 ?_
   refine tkQx 7 34 hp0 ?_
   refine tkQx 8 35 hp0 ?_
   (refine ratHx 9 (fun K hK=>?_);go_simp)
   refine (hcm.out _).mono ?_
   rintro e wn ⟨rfl,hbn⟩
   go_simp
   (refine hK.out _ _ (hHeld.step hbn) (fun hHeld=>?_);clear hK K;(try simp only[apS,apN,siA,scZ,scS]))
   refine tkQx 10 37 hp0 ?_
   refine tkQx 11 38 hp0 ?_
   refine tkQx 12 26 hp0 ?_
   refine wpAnyH_done (by kernel_rfl) ?_ _
   (try simp only[apS,apN,siA,scZ,scS])
   (obtain rfl:=hQ0.out;clear hp0)
   replace hI:=Lib.hid (hI.out.below hHeld.bel)
   clear hHeld hcm
   have hbe:=Lib.hid hI.out.bel
   by_cases hv:v<0
   ·have hnx:Hid (R=Cal.numF (Cal.befR l (k+1)) (l.drop (k+1))):=by show _=_;rw[hR.out];rw[show Cal.folB (some y) x=true from decide_eq_true (hcf.1 hv)];rfl
    have hv2:¬0≤v:=by omega
    clear hR hcf
    go_wp2_with fail
    go_roundw
    case rel=>exact⟨k+1,by omega,by go_num,hnx,hbe⟩
    case measure=>simp[intOf];omega
   have hfin:Hid (R=9):=by show _=_;rw[hR.out];rw[show Cal.folB (some y) x=false from decide_eq_false (fun h=>hv (hcf.2 h))];rfl
   have hv2:0≤v:=by omega
   clear hR hcf
   go_wp2_with fail
   go_ret
   exact⟨ret_int hfin.out.symm,hbe.out⟩
  have hfin:Hid (R=0):=by show _=_;rw[hR.out,List.drop_of_length_le (by omega)];cases Cal.befR l k <;> rfl
  have hge:l.length=k:=by omega
  clear hR
  go_wp2_with fail
  go_ret
  exact⟨ret_int hfin.out.symm,hb.out⟩
end Go.Proofs.YthfokpchdlcidaaGreat
namespace Go.Proofs.YthfokpchdlcidaaGreat
open Go Go.RowKit Go.Sort Go.Maps Go.WideMaps
theorem gSorted_any (w:World) (B:Nat) (v:Value) (zs:List Cal.Txt) (h:TextsL w B v zs) (hs:zs.length≤1000000) :
  Calls Tryz.prog 64 #[v] w fun e w'=>∃ v',e=.returned v'∧TextsL w' B v' (Cal.tups zs)∧w.grownBy w' v.ownBlock:=by
 have hso:=Lib.hid (SortT_own w B v zs h hs)
 go_enter Tryz.func64,Tryz.ntmps64
 go_wp2_with fail
 refine hso.out.mono ?_
 rintro e w2 ⟨rfl,hs2,hg2⟩
 have hlm:(zs.mergeSort fun x y=>decide (x≤y)).length=zs.length:=List.length_mergeSort _
 have hcp:=Lib.hid (CompactT_own w2 B v _ hs2 (by rw[hlm];exact hs))
 clear hs2 hlm hso h
 replace hg2:=Lib.hid hg2
 go_wp2_with fail
 refine hcp.out.mono ?_
 rintro e w3 ⟨v3,rfl,hs3,hg3,_⟩
 clear hcp
 have hg:=Lib.hid (hg2.out.trans hg3)
 replace hs3:=Lib.hid hs3
 clear hg2 hg3
 go_wp2_with fail
 go_ret
 exact⟨v3,rfl,hs3.out,hg.out⟩
theorem txtZero (w:World):(zeroValue 56).run Tryz.prog w=.ok (.slice none 0 0) w:=by kernel_rfl
structure ImgI (w:World) (bm:Nat) (ls:List Rn) (f:Cal.Txt→Option Value) (W:World):Prop where
 mp:MapIs Tryz.prog 9 strLit W bm ls.length f
 no:∀ x,Cal.knownT ls x=false→f x=none
 yes:∀ x,Cal.knownT ls x=true→∃ v,f x=some v∧TextsL W (bm+1) v (Cal.newsOf ls x)
 apart:∀ x y u v g,x≠y→f x=some u→f y=some v→u.ownBlock=some g→v.ownBlock≠some g
 bel:Below w.heap.size w W
 bmB:w.heap.size≤bm
 lt:bm<W.heap.size
section
variable {w : World} {bm : Nat} {ls : List Rn} {f : Cal.Txt → Option Value} {W W' : World}
theorem ImgI.below (h:ImgI w bm ls f W) (hb:Below W.heap.size W W'):ImgI w bm ls f W' :=
 ⟨h.mp.below hb h.lt,h.no,fun x hx=>by obtain⟨v,h1,h2⟩:=h.yes x hx;exact⟨v,h1,h2.below hb⟩,h.apart,below_step h.bel hb,h.bmB,Nat.lt_of_lt_of_le h.lt hb.size⟩
theorem newsOf_no {ls:List Rn} {x:Cal.Txt} (h:Cal.knownT ls x=false):Cal.newsOf ls x=[]:=by
 cases hn:Cal.newsOf ls x with
 | nil=>rfl
 | cons a r=>rw[Cal.knownT_news.2 (by rw[hn];simp)] at h;cases h
theorem ImgI.read (h:ImgI w bm ls f W) (x:Cal.Txt):TextsL W (bm+1) ((f x).getD (.slice none 0 0)) (Cal.newsOf ls x):=by
 cases hx:Cal.knownT ls x
 ·rw[h.no x hx,newsOf_no hx];exact OwnL.nil _ _ _ _
 obtain⟨v,h1,h2⟩:=h.yes x hx
 rw[h1];exact h2
theorem knownT_snoc (ls:List Rn) (r:Rn) (x:Cal.Txt):Cal.knownT (ls ++ [r]) x=(Cal.knownT ls x || (r.old == x)):=by unfold Cal.knownT;simp
theorem ImgI.put {Wp Wq:World} {v':Value} (h:ImgI w bm ls f W) (r:Rn) (hg:W.grownBy Wp ((f r.old).getD (.slice none 0 0)).ownBlock) (hob:v'.ownBlock=((f r.old).getD (.slice none 0 0)).ownBlock∨∃ g,v'.ownBlock=some g∧W.heap.size≤g)
  (hv:TextsL Wp (bm+1) v' (Cal.newsOf ls r.old ++ [r.new])) (hm:MapIs Tryz.prog 9 strLit Wq bm (ls.length+1) (setAt f r.old v')) (hg3:Wp.grownBy Wq (some bm)):ImgI w bm (ls ++ [r]) (setAt f r.old v') Wq:=by
 have hread:=h.read r.old
 have hbl:∀ g,((f r.old).getD (.slice none 0 0)).ownBlock=some g→bm<g:=fun g e=>(OwnL.lt hread g e).1
 have far:∀ x v,x≠r.old→f x=some v→v.ownBlock=none∨v.ownBlock≠((f r.old).getD (.slice none 0 0)).ownBlock:=fun x v hx hv=>by
  cases hob':v.ownBlock with
  | none=>exact .inl rfl
  | some g =>
   refine .inr fun e=>?_
   cases hr:f r.old with
   | none=>rw[hr] at e;cases e
   | some u =>
    rw[hr] at e
    exact h.apart x r.old v u g hx hv hr hob' (by exact e.symm)
 have old3:∀ x v,x≠r.old→f x=some v→∀ {zs},TextsL W (bm+1) v zs→TextsL Wq (bm+1) v zs:=fun x v hx hv zs ht=>by
  have h2:TextsL Wp (bm+1) v zs:=OwnL.kept ht hg (far x v hx hv)
  refine OwnL.kept h2 hg3 ?_
  cases hob':v.ownBlock with
  | none=>exact .inl rfl
  | some g =>
   refine .inr fun e=>?_
   cases e
   have:=(OwnL.lt ht _ hob').1
   omega
 have hlt2:∀ x v g,f x=some v→v.ownBlock=some g→g<W.heap.size:=fun x v g hx e=>by
  cases hk:Cal.knownT ls x
  ·rw[h.no x hk] at hx;cases hx
  obtain⟨v2,h1,h2⟩:=h.yes x hk
  rw[hx] at h1;cases h1
  exact (OwnL.lt h2 g e).2
 refine⟨by rw[List.length_append];exact hm,fun x hx=>?_,fun x hx=>?_,fun x y u v g hne hu hv' hg'=>?_,?_,h.bmB,?_⟩
 ·rw[knownT_snoc,Bool.or_eq_false_iff] at hx
  have hne:x≠r.old:=fun e=>by rw[e,beq_self_eq_true] at hx;cases hx.2
  rw[setAt_other _ _ hne]
  exact h.no x hx.1
 ·by_cases e:x=r.old
  ·subst e
   refine⟨v',setAt_same _ _ _,?_⟩
   rw[Cal.newsOf_append,if_pos rfl]
   refine OwnL.kept hv hg3 ?_
   cases hob':v'.ownBlock with
   | none=>exact .inl rfl
   | some g=>exact .inr fun e=>by cases e;have:=(OwnL.lt hv _ hob').1;omega
  rw[knownT_snoc,show (r.old == x)=false from beq_false_of_ne (fun h=>e h.symm),Bool.or_false] at hx
  obtain⟨v,h1,h2⟩:=h.yes x hx
  refine⟨v,by rw[setAt_other _ _ e];exact h1,?_⟩
  rw[Cal.newsOf_append,if_neg (fun h=>e h.symm),List.append_nil]
  exact old3 x v e h1 h2
 ·by_cases e1:x=r.old
  ·subst e1
   rw[setAt_same] at hu
   cases hu
   rw[setAt_other _ _ (Ne.symm hne)] at hv'
   intro e2
   rcases hob with h2 | ⟨g2,h2,h3⟩
   ·rw[hg'] at h2
    cases hr:f r.old with
    | none=>rw[hr] at h2;cases h2
    | some u0=>rw[hr] at h2;exact h.apart r.old y u0 v g hne hr hv' h2.symm e2
   rw[hg'] at h2;cases h2
   have:=hlt2 y v g hv' e2
   omega
  rw[setAt_other _ _ e1] at hu
  by_cases e2:y=r.old
  ·subst e2
   rw[setAt_same] at hv'
   cases hv'
   intro e3
   rcases hob with h2 | ⟨g2,h2,h3⟩
   ·rw[e3] at h2
    cases hr:f r.old with
    | none=>rw[hr] at h2;cases h2
    | some u0=>rw[hr] at h2;exact h.apart x r.old u u0 g hne hu hr hg' h2.symm
   rw[e3] at h2;cases h2
   have:=hlt2 x u g hu hg'
   omega
  rw[setAt_other _ _ e2] at hv'
  exact h.apart x y u v g hne hu hv' hg'
 ·have hw:=h.bmB
  have hsz:=h.bel.size
  exact (h.bel.trans (grown_below hg (fun g e=>by have:=hbl g e;omega) hsz)).trans (grown_below (v:=.slice (some ⟨bm,0,none⟩) 0 0) hg3 (fun g e=>by cases e;exact hw) (Nat.le_trans hsz hg.size))
 exact Nat.lt_of_lt_of_le h.lt (Nat.le_trans hg.size hg3.size)
end
theorem ImgI.start (w:World):ImgI w w.heap.size [] (fun _=>none) (w.alloc (.map #[] 0)) :=
 ⟨MapIs.made _ _ _ _,fun _ _=>rfl,fun x h=>(by cases h),fun x y u v g _ h=>(by cases h),below_alloc _ _,Nat.le_refl _,(by simp)⟩
structure SiM (w:World) (L:List (Nat × Nat × Value)) (bm n:Nat) (f:Cal.Txt→Option Value) (W:World):Prop where
 cs:Cs L W
 bel:Below w.heap.size w W
 mp:MapIs Tryz.prog 9 strLit W bm n f
 lt:bm<W.heap.size
theorem SiM.step {w:World} {L:List (Nat × Nat × Value)} {bm n:Nat} {f:Cal.Txt→Option Value} {W W':World} (h:SiM w L bm n f W) (hb:Below W.heap.size W W'):SiM w L bm n f W' :=
 ⟨h.cs.below hb,h.bel.trans (hb.mono h.bel.size),h.mp.below hb h.lt,Nat.lt_of_lt_of_le h.lt hb.size⟩
theorem encStr_of {a:ByteArray} {t:Cal.Txt} (h:a.toList=t):encStr t=.string a:=by
 subst h
 rw[ByteArray.toList_eq]
theorem txtRows_snoc (zs:List Cal.Txt) {a:ByteArray} {t:Cal.Txt} (h:a.toList=t):txtRows (zs ++ [t])=txtRows zs ++ [[.string a]]:=by
 unfold txtRows
 rw[List.map_append,List.map_singleton,encStr_of h]
theorem txtRow_at {w:World} {A:Option Addr} {zs:List Cal.Txt} (h:RowsAt w A 1 (txtRows zs)) {k:Nat} (hk:k<zs.length):∃ b o,A=some ⟨b,o,none⟩∧b<w.heap.size∧∃ zb:ByteArray,zb.toList=zs[k]∧w.cell? ⟨b,o+k,none⟩=some (.string zb):=by
 obtain⟨b,o,hA,hb,hc⟩:=h k [encStr zs[k]] (by simp[txtRows,List.getElem?_eq_getElem hk])
 have:=hc 0 _ rfl
 simp only[Nat.mul_one,Nat.add_zero] at this
 exact⟨b,o,hA,hb,⟨zs[k].toArray⟩,by rw[ByteArray.toList_eq],this⟩
structure Txs (w:World) (N:Option Addr) (names:List Cal.Txt):Prop where
 rows:RowsAt w N 1 (txtRows names)
 size:names.length≤1000000
 len:∀ x∈names,x.length≤maxLen
def Cal.iteR (R:Int) (zs:List Cal.Txt):List Cal.Txt:=if R=0 then zs else []
theorem gImages_any (A:Option Addr) (c:Nat) (l:List Rn) (N:Option Addr) (d:Nat) (names:List Cal.Txt) (w:World) (hl:Rns w A l) (hn:Txs w N names) :
  Calls Tryz.prog 33 #[.slice A l.length c,.slice N names.length d] w fun e w'=>∃ v,e=.returned (.tuple #[v,.int .i64 (Cal.imgE l names)])∧TextsL w' w.heap.size v (Cal.imgR l names)∧Below w.heap.size w w':=by
 have hck:=Lib.hid (CheckNumbers_any A c l w hl)
 by_cases h0:Cal.numE l=0
 ·obtain⟨hl200,_,_⟩:=Cal.numE_zero.1 h0
  rw[h0] at hck
  by_cases hbig:200<names.length
  ·have hE:Cal.imgE l names=8:=by unfold Cal.imgE;rw[if_pos h0,if_pos hbig]
   have hR:Cal.imgR l names=[]:=by unfold Cal.imgR;rw[hE];rfl
   have hbi:200<(names.length:Int):=by omega
   rw[hE,hR]
   clear hE hR hl hn h0
   go_enter Tryz.func33,Tryz.ntmps33
   go_wp2_with (go_at_call 22;refine hck.out.mono ?_;rintro e0 w1 ⟨rfl,hb1⟩;replace hb1:=Lib.hid hb1;clear hck)
   go_ret2
   exact⟨_,rfl,OwnL.nil _ _ _ _,hb1.out⟩
  obtain⟨R,hRR⟩:∃ R,Cal.imgE l names=R:=⟨_,rfl⟩
  have hR:Hid (R=Cal.imgF l (names.drop 0)):=by show _=_;rw[←hRR];unfold Cal.imgE;rw[if_pos h0,if_neg hbig];rfl
  have hRz:Hid (Cal.imgR l names=Cal.iteR R (Cal.tups (Cal.imgL l names))):=by show _=_;unfold Cal.imgR;rw[hRR];rfl
  have hbi:¬200<(names.length:Int):=by omega
  rw[hRR,hRz.out]
  clear hRR hRz h0
  have hmm:=@run_makeMap Tryz.prog
  replace hl:=Lib.hid hl
  replace hn:=Lib.hid hn
  go_enter Tryz.func33,Tryz.ntmps33
  go_wp2_with (go_at_call 22;refine hck.out.mono ?_;rintro e0 w1 ⟨rfl,hb1⟩;replace hb1:=Lib.hid hb1;clear hck)
  clear hmm
  have hI0:=Lib.hid (ImgI.start w1)
  have hst:Hid (ImgI w1 w1.heap.size (l.take 0) (fun _=>none) (w1.alloc (.map #[] 0))):=hI0
  clear hI0
  generalize hbm:w1.heap.size=bm at *
  go_loopw [26] (fun i wr=>∃ (k:Nat) (f:Cal.Txt→Option Value),k≤l.length∧i=.int .i64 k∧Hid (ImgI w1 bm (l.take k) f wr)) (fun i _=>l.length-(intOf i).toNat)
  case atStart=>exact⟨0,_,Nat.zero_le _,rfl,hst⟩
  case round =>
   clear hst
   obtain⟨k,f,hk,rfl,hI⟩:=hrel
   have hb1I:=Lib.hid (hb1.out.trans (hI.out.bel.mono hb1.out.size))
   by_cases hlt:k<l.length
   ·have hk':l[k]?=some l[k]:=List.getElem?_eq_getElem hlt
    have htk:Hid (l.take (k+1)=l.take k ++ [l[k]]):=by show _=_;rw[List.take_succ_eq_append_getElem hlt]
    have hln:=hl.out.len _ (List.getElem_mem hlt)
    have hkl:(l.take k).length=k:=by rw[List.length_take];omega
    have hnl:=Cal.newsOf_len (l.take k) l[k].old
    rw[hkl] at hnl
    generalize l[k]=x at *
    obtain⟨b,o,rfl,hbl,ao,an,ha1,ha2,c0,c1⟩:=rn_at (hl.out.rows.below hb1I.out) hk'
    have hs1:ao.size≤maxLen:=by rw[size_len ha1];exact hln.1
    have hd1:ao.data.toList=x.old:=by rw[←ha1,ByteArray.toList_eq]
    have hX:=Lib.hid (hI.out.below (below_alloc wr (.cells #[.string ao,.string an] 69)))
    have hbx:=BoxAt.new wr #[.string ao,.string an] 69
    obtain⟨x0,x1⟩:=hbx.c2
    have hki:(k:Int)<(l.length:Int):=by omega
    have hkey:=keyOf_string_mk (P:=Tryz.prog) (k:=9) Tryz.underlying9 hs1
    rw[hd1] at hkey
    obtain⟨v0,hv0⟩:∃ v0,(f x.old).getD (.slice none 0 0)=v0:=⟨_,rfl⟩
    have hlook:Hid (∀ W,SiM w1 [(wr.heap.size,0,.string ao),(wr.heap.size,1,.string an)] bm (l.take k).length f W→(Instr.lookup 114 (.map (some bm)) (.string ao) false).run Tryz.prog W=.ok v0 W):=fun W hW=>by
     rw[←hv0]
     exact hW.mp.look (string_keyed Tryz.underlying9) Tryz.underlying114 (txtZero _) hkey
    have hS0:SiM w1 [(wr.heap.size,0,.string ao),(wr.heap.size,1,.string an)] bm (l.take k).length f (wr.alloc (.cells #[.string ao,.string an] 69)):=⟨by simp only[cs_iff_cons];exact⟨x0,x1,cs_nil _⟩,hX.out.bel,hX.out.mp,hX.out.lt⟩
    have hrd:=Lib.hid (hX.out.read x.old)
    have hrd0:=hI.out.read x.old
    rw[hv0] at hrd hrd0
    have hvlt:=Lib.hid (fun g (e:v0.ownBlock=some g)=>OwnL.lt hrd0 g e)
    have hbxh:=Lib.hid hbx
    clear hrd0
    replace hkey:=Lib.hid hkey
    clear hk' hln x0 x1 hbx
    replace hS0:=Lib.hid hS0
    go_wp2_with fail
    refine wp_region_heldZ (S:=SiM w1 [(wr.heap.size,0,.string ao),(wr.heap.size,1,.string an)] bm (l.take k).length f) 11 (by kernel_rfl) (hS0.out.step ((Below.refl _ _).drew)) (fun hHeld=>?_)
    replace hX:=Lib.hid (hX.out.below ((Below.refl _ _).drew))
    replace hrd:=Lib.hid (hrd.out.below ((Below.refl _ _).drew))
    replace hbxh:=Lib.hid (hbxh.out.below ((Below.refl _ _).drew))
    clear hS0
    generalize (wr.alloc (.cells #[.string ao,.string an] 69)).drew=X1 at *
    refine tkZx 0 30 ?_
    refine tkZx 1 31 ?_
    refine tkZx 2 32 ?_
    refine tkZx 3 33 ?_
    refine tkZx 4 34 ?_
    refine tkZx 5 35 ?_
    refine tkZx 6 36 ?_ (hy:=by (intro W' hSw;have hlk:=hlook.out W' hSw;go_simp;(try with_reducible rfl)))
    refine tkZx 7 37 ?_
    refine tkZx 8 38 ?_
    refine ratZ 9 (by decide +kernel) rfl (fun K hK=>?_)
    rw[if_pos (by kernel_rfl)]
    go_simp
    refine hK.out _ _ (hHeld.step (below_alloc _ _)) (fun hH2=>?_)
    clear hK K hHeld
    have hHeld:=hH2
    clear hH2
    (try simp only[apS,apN,siA,scZ,scS])
    replace hX:=Lib.hid (hX.out.below (below_alloc X1 (.cells #[.string an] 9)))
    replace hrd:=Lib.hid (hrd.out.below (below_alloc X1 (.cells #[.string an] 9)))
    replace hbxh:=Lib.hid (hbxh.out.below (below_alloc X1 (.cells #[.string an] 9)))
    have hsrc:=rowsAt_new X1 [.string an] 9
    have hbmX:bm+1≤(X1.alloc (.cells #[.string an] 9)).heap.size:=hX.out.lt
    refine ratZ 10 (by decide +kernel) rfl (fun K hK=>?_)
    refine step_append_rows elemTxt (by rfl) (.tmp 36) (.tmp 39) (by rfl) (by rfl) (by rfl) hrd.out hsrc rfl (fun r hr=>by rw[List.mem_singleton.1 hr];rfl) (fun r hr u hu=>by rw[List.mem_singleton.1 hr] at hu;rw[List.mem_singleton.1 hu];rfl) (by rw[txtRows_length,List.length_singleton];omega) (by decide) hbmX ?_
    intro v' Wp hown hg hob
    have hob2:v'.ownBlock=v0.ownBlock∨∃ g,v'.ownBlock=some g∧(X1.alloc (.cells #[.string an] 9)).heap.size≤g:=by
     rcases hob with h | h
     ·exact Or.inl h
     exact Or.inr ⟨_,h,Nat.le_refl _⟩
    replace hown:OwnL Wp (bm+1) 9 1 v' (txtRows (Cal.newsOf (l.take k) x.old ++ [x.new])):=by rw[txtRows_snoc _ ha2];exact hown
    have hmp2:=hX.out.mp.kept hg (fun e=>by have:=(hvlt.out bm e.symm).1;omega)
    obtain⟨Wq,hrun,hm3,hg3,hsz3⟩:=hmp2.store strLit_inj (string_keyed Tryz.underlying9) Tryz.underlying114 (by rw[hkl];unfold maxLen;omega) (val:=v') hkey.out
    have hI3:=Lib.hid (hX.out.put (Wp:=Wp) (Wq:=Wq) (v':=v') x (by rw[hv0];exact hg) (by rw[hv0];exact hob2) hown hm3 hg3)
    have hbx2:=hbxh.out.grown hg (fun e=>by have:=(hvlt.out _ e.symm).2;omega)
    have hbel2:Below w1.heap.size w1 Wp:=hX.out.bel.trans (grown_below hg (fun g e=>by have:=(hvlt.out g e).1;have:=hX.out.bmB;omega) hX.out.bel.size)
    refine hK.out _ _ ⟨by simp only[cs_iff_cons];exact⟨hbx2.c 0 _ rfl,hbx2.c 1 _ rfl,cs_nil _⟩,hbel2,hmp2,Nat.lt_of_lt_of_le hX.out.lt hg.size⟩ (fun _=>?_)
    clear hK K hHeld hob hob2 hown hmp2 hm3 hg3 hsz3 hbx2 hbel2 hg hX hrd hsrc hbxh hlook hkey
    (try simp only[apS,apN,siA,scZ,scS])
    refine ratZc 11 (by decide +kernel) rfl (by decide +kernel) (fun K hK=>?_)
    rw[if_pos (by kernel_rfl)]
    go_simp
    refine hK.out _ _ ?_
    clear hK K hrun
    (try simp only[apS,apN,siA,scZ,scS])
    refine wpAnyHY_done (by decide +kernel) ?_ _
    (try simp only[apS,apN,siA,scZ,scS])
    go_wp2_with fail
    go_roundw
    case rel=>exact⟨k+1,_,by omega,by go_num,by rw[htk.out];exact hI3⟩
    case measure=>simp[intOf];omega
   obtain rfl:k=l.length:=by omega
   rw[List.take_length] at hI
   have hread:Hid (∀ x,Cal.knownT l x=true→∃ A c,f x=some (.slice A (Cal.newsOf l x).length c)∧RowsAt wr A 1 (txtRows (Cal.newsOf l x))):=fun x hx=>by
    obtain⟨v,h1,h2⟩:=hI.out.yes x hx
    obtain⟨A,c,rfl,hr⟩:=h2.rows
    exact⟨A,c,h1,hr⟩
   have hnone:=Lib.hid hI.out.no
   have hmap:=Lib.hid (fun W (hb:Below wr.heap.size wr W)=>hI.out.mp.below hb hI.out.lt)
   clear hI hl hb1
   generalize wr=wo at *
   go_wp2_with fail
   go_loopw [10,44] (fun ov i wz=>∃ (k:Nat) (v:Value),k≤names.length∧i=.int .i64 k∧ov=v∧Hid (TextsL wz wo.heap.size v (Cal.imgL l (names.take k)))∧Hid (Below wo.heap.size wo wz)∧Hid (R=Cal.imgF l (names.drop k))) (fun _ i _=>names.length-(intOf i).toNat)
   case atStart=>exact⟨0,_,Nat.zero_le _,rfl,rfl,OwnL.nil _ _ _ _,Below.refl _ _,hR⟩
   case round =>
    clear hR
    obtain⟨k,v,hk,rfl,rfl,hO,hb,hR⟩:=hrel
    have hbz:=Lib.hid (hb1I.out.trans (hb.out.mono hb1I.out.size))
    by_cases hlt:k<names.length
    ·have htk:Hid (Cal.imgL l (names.take (k+1))=Cal.imgL l (names.take k) ++ Cal.newsOf l names[k]):=by show _=_;rw[List.take_succ_eq_append_getElem hlt,Cal.imgL_append]
     have hR':=hR.out
     rw[List.drop_eq_getElem_cons hlt,Cal.imgF_cons] at hR'
     have hln:=hn.out.len _ (List.getElem_mem hlt)
     have hil:=Cal.imgL_len l (names.take k)
     rw[List.length_take,Nat.min_eq_left hk] at hil
     have hil2:=Nat.mul_le_mul (show k≤200 by omega) hl200
     have hnl:=Cal.newsOf_len l names[k]
     obtain⟨bN,oN,rfl,_,nb,hnb,e0⟩:=txtRow_at (hn.out.rows.below hbz.out) hlt
     replace hR:=Lib.hid hR'
     clear hR'
     generalize names[k]=x at *
     have hs1:nb.size≤maxLen:=by rw[size_len hnb];exact hln
     have hd1:nb.data.toList=x:=by rw[←hnb,ByteArray.toList_eq]
     have hn1:=Lib.hid (fun W=>gisName_any nb W hs1)
     rw[←nmT_of,hnb] at hn1
     have hkey:=keyOf_string_mk (P:=Tryz.prog) (k:=9) Tryz.underlying9 hs1
     rw[hd1] at hkey
     have hlk:=Lib.hid (fun W (hb:Below wo.heap.size wo W)=>(hmap.out W hb).look_ok (string_keyed Tryz.underlying9) Tryz.underlying114 (txtZero _) hkey)
     have hki:(k:Int)<(names.length:Int):=by omega
     clear hkey hd1 hs1 hnb
     cases h1:nmT x
     ·rw[h1] at hn1 hR
      have hfin:Hid (R=4):=hR.out
      clear hR hlk
      go_wp2_with (go_at_call 55;refine (hn1.out _).mono ?_;rintro e0 wn ⟨rfl,hbn⟩;replace hbz:=Lib.hid (below_step hbz.out hbn);clear hbn)
      go_ret2
      exact⟨_,by rw[hfin.out];rfl,by rw[hfin.out];exact OwnL.nil _ _ _ _,hbz.out⟩
     rw[h1] at hn1 hR
     cases h2:Cal.knownT l x
     ·rw[h2] at hR
      have hfin:Hid (R=6):=hR.out
      have hf0:=hnone.out x h2
      rw[hf0] at hlk
      clear hR h1 h2 hf0
      go_wp2_with (go_at_call 55;refine (hn1.out _).mono ?_;rintro e0 wn ⟨rfl,hbn⟩;replace hbz:=Lib.hid (below_step hbz.out hbn);have hlk2:=hlk.out wn (below_step hb.out hbn);clear hbn)
      go_ret2
      exact⟨_,by rw[hfin.out];rfl,by rw[hfin.out];exact OwnL.nil _ _ _ _,hbz.out⟩
     rw[h2] at hR
     have hnx:Hid (R=Cal.imgF l (names.drop (k+1))):=hR.out
     obtain⟨A7,c7,hf7,hr7⟩:=hread.out x h2
     rw[hf7] at hlk
     replace hr7:=Lib.hid hr7
     clear hR h1 h2 hf7
     go_wp2_with (first
      |(go_at_call 55;refine (hn1.out _).mono ?_;rintro e0 wn ⟨rfl,hbn⟩;have hlk2:=hlk.out wn (below_step hb.out hbn);replace hO:=Lib.hid (hO.out.below hbn);replace hb:=Lib.hid (below_step hb.out hbn);clear hbn hlk)
      |(at_builtin;clear hlk2;refine wpList_append_rows elemTxt rfl _ _ rfl rfl rfl hO.out (hr7.out.below hb.out) (txtRows_length _).symm (txtRows_wid _) (txtRows_one _) (by rw[txtRows_length,txtRows_length];omega) (by decide) hb.out.size ?_;intro v8 w8 hown8 hg8 _;have hO8:=Lib.hid (show TextsL w8 wo.heap.size v8 (Cal.imgL l (names.take k) ++ Cal.newsOf l x) from by (unfold TextsL;rw[show txtRows (Cal.imgL l (names.take k) ++ Cal.newsOf l x)=txtRows (Cal.imgL l (names.take k)) ++ txtRows (Cal.newsOf l x) from by unfold txtRows;rw[List.map_append]];exact hown8));have hb8:=Lib.hid (hb.out.trans (grown_below hg8 (fun g e=>(OwnL.lt hO.out g e).1) hb.out.size));clear hown8 hg8))
     go_roundw
     case rel=>exact⟨k+1,_,by omega,by go_num,rfl,by rw[htk.out];exact hO8,hb8,hnx⟩
     case measure=>simp[intOf];omega
    obtain rfl:k=names.length:=by omega
    have hfin:Hid (R=0):=by show _=_;rw[hR.out,List.drop_length];rfl
    rw[List.take_length] at hO
    have hil:=Cal.imgL_len l names
    have hil2:=Nat.mul_le_mul (show names.length≤200 by omega) hl200
    clear hR
    go_wp2_with (go_at_call 64;refine (gSorted_any _ _ _ _ hO.out (by omega)).mono ?_;rintro e0 w9 ⟨v9,rfl,hs9,hg9⟩;have hb9:=Lib.hid (hbz.out.trans (grown_below hg9 (fun g e=>Nat.le_trans hb1I.out.size (OwnL.lt hO.out g e).1) hbz.out.size));replace hs9:=Lib.hid hs9;clear hg9)
    go_ret2
    exact⟨_,by rw[hfin.out];rfl,by rw[hfin.out];exact OwnL.less hs9.out hb1I.out.size,hb9.out⟩
 have hE:Cal.imgE l names=Cal.numE l:=by unfold Cal.imgE;rw[if_neg h0]
 have hR:Cal.imgR l names=[]:=by unfold Cal.imgR;rw[hE,if_neg h0]
 rw[hE,hR]
 clear hE hR hl hn
 have h1:(Cal.numE l == 0)=false:=by simpa using h0
 have h2:(Cal.numE l != 0)=true:=by simpa using h0
 generalize Cal.numE l=E at *
 go_enter Tryz.func33,Tryz.ntmps33
 go_wp2_with (go_at_call 22;refine hck.out.mono ?_;rintro e0 w1 ⟨rfl,hb1⟩;replace hb1:=Lib.hid hb1;clear hck)
 go_ret2
 exact⟨_,rfl,OwnL.nil _ _ _ _,hb1.out⟩
end Go.Proofs.YthfokpchdlcidaaGreat
namespace Go.Proofs.YthfokpchdlcidaaGreat
open Go Go.RowKit Go.ChangeShapes Go.WideShapes Go.Deep Go.Sort
section
variable {H : Type} {enc : TypeId × Value → H} {w : World} {spare : Nat → Bool} {held : Bool} {r : Reach} {b0 : Nat} {v : Value} {d : DataW H} {ps : List MemPlace}
theorem rns_of_open (hval:Value.okWide Tryz.prog w r b0 46 v) (h:DataW.Trod enc Tryz.prog w 0 spare held 46 v d ps) :
  ∃ (A:Option Addr) (l:List Rn) (c:Nat),v=.slice A l.length c∧RowsAt w A 2 (l.map rnR)∧(∀ p∈l,p.old.length≤maxLen∧p.new.length≤maxLen)∧l.length≤c:=by
 obtain⟨A,len,cap,rfl⟩:=okWide_slice Tryz.underlying46 hval
 obtain⟨fuel,hf⟩:=h
 obtain⟨A',len',cap',hcs,hlen,hq⟩:=rows_of_open Tryz.underlying46 Tryz.underlying69 (by kernel_rfl) (by kernel_rfl) (by decide) hf
 have he:A=A'∧len=len'∧cap=cap':=by simpa [Value.cells] using hcs
 obtain⟨rfl,rfl,rfl⟩:=he
 have h1:∀ i,i<len→∃ p:Rn,(p.old.length≤maxLen∧p.new.length≤maxLen)∧∃ b o,A=some ⟨b,o,none⟩∧b<w.heap.size∧∀ j v,(rnR p)[j]?=some v→w.cell? ⟨b,o+(i*2+j),none⟩=some v:=fun i hi=>by
  obtain⟨b,o,n,hA,hb,hf⟩:=hq i hi
  obtain⟨v0,y0,c0,t0⟩:=hf 0 _ rfl
  obtain⟨v1,y1,c1,t1⟩:=hf 1 _ rfl
  obtain⟨s0,e0,_,g0⟩:=DataW.trod_string Tryz.underlying9 t0
  obtain⟨s1,e1,_,g1⟩:=DataW.trod_string Tryz.underlying9 t1
  cases e0;cases e1
  refine⟨⟨s0.toList,s1.toList⟩,⟨by rw[←size_len (a:=s0) rfl];exact g0,by rw[←size_len (a:=s1) rfl];exact g1⟩,b,o,hA,hb,fun j v hv=>?_⟩
  match j,hv with
  | 0,hv=>cases hv;rw[encStr_of rfl];exact c0
  | 1,hv=>cases hv;rw[encStr_of rfl];exact c1
  | j+2,hv=>simp[rnR] at hv
 obtain⟨l,hl,hq'⟩:=list_of len h1
 subst hl
 refine⟨A,l,cap,rfl,fun k r hr=>?_,fun p hp=>?_,hlen⟩
 ·rw[List.getElem?_map] at hr
  cases hk:l[k]? with
  | none=>rw[hk] at hr;cases hr
  | some p=>rw[hk] at hr;cases hr;exact (hq' k p hk).2
 obtain⟨k,hk,rfl⟩:=List.getElem_of_mem hp
 exact (hq' k _ (List.getElem?_eq_getElem hk)).1
end
end Go.Proofs.YthfokpchdlcidaaGreat
namespace Go.Proofs.YthfokpchdlcidaaGreat
namespace Cal
def turnN (l:List Rn):List Rn:=if numE l=0 then turnR l else []
theorem turnR_good {l:List Rn} (h:numE l=0):numE (turnR l)=0:=by
 obtain⟨h1,h2,h3⟩:=numE_zero.1 h
 refine numE_zero.2 ⟨Nat.le_trans (turnR_len l) h1,fun x hx=>?_,settle_up _⟩
 have:=h2 _ (turnR_mem.1 hx)
 exact⟨this.2,this.1⟩
end Cal
end Go.Proofs.YthfokpchdlcidaaGreat
namespace Go.Proofs.YthfokpchdlcidaaGreat
def oneT (l:List Rn) (x y:Cal.Txt):Prop:=(⟨x,y⟩:Rn)∈l∧Cal.tups (Cal.newsOf (Cal.turnR l) y)=[x]
theorem oneT.inj {l:List Rn} {x x' y:Cal.Txt} (h:oneT l x y) (h':oneT l x' y):x=x':=by
 have:=h.2.symm.trans h'.2
 simpa using this
structure RenI (l:List Rn) (ps acc:List Plo):Prop where
 len:acc.length≤ps.length
 at_:∀ (i:Nat) (hi:i<acc.length) (hj:i<ps.length),acc[i].V=ps[i].V∧acc[i].ps=ps[i].ps∧oneT l ps[i].name.toList acc[i].name.toList
theorem RenI.nil (l:List Rn) (ps:List Plo):RenI l ps []:=⟨Nat.zero_le _,fun i hi=>absurd hi (Nat.not_lt_zero _)⟩
theorem RenI.snoc {l:List Rn} {ps acc:List Plo} (h:RenI l ps acc) {q:Plo} (hk:acc.length<ps.length) (h1:q.V=ps[acc.length].V) (h2:q.ps=ps[acc.length].ps) (h3:oneT l ps[acc.length].name.toList q.name.toList):RenI l ps (acc ++ [q]):=by
 refine⟨by rw[List.length_append,List.length_singleton];omega,fun i hi hj=>?_⟩
 rw[List.length_append,List.length_singleton] at hi
 by_cases e:i=acc.length
 ·subst e
  rw[List.getElem_append_right (Nat.le_refl _)]
  simp only[Nat.sub_self,List.getElem_cons_zero]
  exact⟨h1,h2,h3⟩
 rw[List.getElem_append_left (by omega)]
 exact h.at_ i (by omega) hj
theorem sectL_of {sec:List Pt}:∀ {l bf:List Plo},(∀ k (h:k<l.length),(plotE sec (bf ++ l.take k) l[k]).2=0)→(sectL sec bf l).2.2=0
 | [],_,_=>rfl
 | p :: r,bf,hz=>by
  have h0:=hz 0 (by simp)
  rw[List.take_zero,List.append_nil,List.getElem_cons_zero] at h0
  unfold sectL
  rw[if_pos h0]
  refine sectL_of fun k hk=>?_
  have:=hz (k+1) (by simpa using hk)
  simpa using this
theorem sectE_of {name:ByteArray} {ps:List Pt} {l:List Plo} (h1:nameB name=true) (h2:Cal.polyE ps=0) (h3:l.length≤60) (h4:∀ k (h:k<l.length),(plotE ps (l.take k) l[k]).2=0):(sectE name ps l).2.2=0:=by
 unfold sectE
 rw[if_pos h1,if_pos h2,if_neg (by omega)]
 exact sectL_of fun k hk=>by rw[List.nil_append];exact h4 k hk
theorem plotE_of {sec:List Pt} {bf:List Plo} {p:Plo} (h1:nameB p.name=true) (h2:(bf.any fun q=>sameN q p)=false) (h3:Cal.polyE p.ps=0) (h4:Cal.withinP p.ps sec=true) (h5:(bf.any fun q=>Cal.overlapP q.ps p.ps)=false):(plotE sec bf p).2=0:=by
 unfold plotE
 have h6:idxP (fun q=>Cal.overlapP q.ps p.ps) bf<0:=by
  rw[←idxP_any,decide_eq_false_iff_not] at h5
  omega
 rw[if_pos h1,if_neg (by rw[h2];decide),if_pos h3,if_pos h4,if_pos h6]
theorem sumA_same:∀ {a b:List Plo},a.map Plo.ps=b.map Plo.ps→sumA a=sumA b
 | [],[],_=>rfl
 | [],_ :: _,h=>by cases h
 | _ :: _,[],h=>by cases h
 | x :: a,y :: b,h=>by
  rw[List.map_cons,List.map_cons,List.cons.injEq] at h
  unfold sumA
  rw[h.1,sumA_same h.2]
theorem RenI.ps_same {l:List Rn} {ps acc:List Plo} (h:RenI l ps acc) (hl:acc.length=ps.length):acc.map Plo.ps=ps.map Plo.ps:=by
 apply List.ext_getElem
 ·rw[List.length_map,List.length_map,hl]
 intro i h1 h2
 rw[List.length_map] at h1 h2
 rw[List.getElem_map,List.getElem_map]
 exact (h.at_ i h1 h2).2.1
theorem nbG_same {a b:List Plo} (h:a.map Plo.ps=b.map Plo.ps) (p:Nat):nbG a p=nbG b p:=by
 have key:∀ i,psOf a i=psOf b i:=fun i=>by
  unfold psOf
  rw[←List.getElem?_map,←List.getElem?_map,h]
 funext i
 unfold nbG
 rw[key,key]
theorem RenI.sect {l:List Rn} {name:ByteArray} {sec:List Pt} {ps acc:List Plo} (h:RenI l ps acc) (hl:acc.length=ps.length) (h0:Cal.numE l=0) (hs:(sectE name sec ps).2.2=0):(sectE name sec acc).2.2=0:=by
 obtain⟨z1,z2,z3,z4⟩:=sectE_zero hs
 refine sectE_of z1 z2 (by omega) fun k hk=>?_
 have hk2:k<ps.length:=by omega
 obtain⟨y1,y2,y3,y4,y5⟩:=plotE_zero (z4 k hk2)
 obtain⟨a1,a2,a3⟩:=h.at_ k hk hk2
 refine plotE_of ?_ ?_ (by rw[a2];exact y3) (by rw[a2];exact y4) ?_
 ·rw[←nmT_of]
  exact ((Cal.numE_zero.1 h0).2.1 _ a3.1).2
 ·rw[List.any_eq_false]
  intro q hq
  obtain⟨i,hi,rfl⟩:=List.mem_take_iff_getElem.1 hq
  have hik:i<k:=by omega
  obtain⟨b1,b2,b3⟩:=h.at_ i (by omega) (by omega)
  unfold sameN
  intro he
  have he:=eq_of_beq he
  rw[he] at b3
  have hx:=b3.inj a3
  have:=(List.any_eq_false.1 y2) ps[i] (List.mem_take_iff_getElem.2 ⟨i,by omega,rfl⟩)
  unfold sameN at this
  rw[hx] at this
  simp at this
 rw[List.any_eq_false]
 intro q hq
 obtain⟨i,hi,rfl⟩:=List.mem_take_iff_getElem.1 hq
 obtain⟨b1,b2,b3⟩:=h.at_ i (by omega) (by omega)
 have:=(List.any_eq_false.1 y5) ps[i] (List.mem_take_iff_getElem.2 ⟨i,by omega,rfl⟩)
 rw[b2,a2]
 exact this
theorem img_one {l:List Rn} {x:Cal.Txt} (h0:Cal.numE l=0) (hx:nmT x=true):Cal.imgE l [x]=(if Cal.knownT l x then 0 else 6)∧(Cal.knownT l x=true→Cal.imgR l [x]=Cal.tups (Cal.newsOf l x)):=by
 have hE:Cal.imgE l [x]=(if Cal.knownT l x then 0 else 6):=by
  unfold Cal.imgE
  rw[if_pos h0,if_neg (by rw[List.length_singleton];decide),Cal.imgF_cons,if_pos hx]
  rfl
 refine⟨hE,fun hk=>?_⟩
 unfold Cal.imgR
 rw[hE,if_pos hk,if_pos rfl]
 unfold Cal.imgL
 simp
theorem img_back {l:List Rn} {x y:Cal.Txt} (h0:Cal.numE l=0) (hy:y∈Cal.tups (Cal.newsOf l x)):(⟨x,y⟩:Rn)∈l∧nmT y=true∧Cal.knownT (Cal.turnR l) y=true∧x∈Cal.tups (Cal.newsOf (Cal.turnR l) y):=by
 have hm:(⟨x,y⟩:Rn)∈l:=Cal.newsOf_mem.1 (((Cal.tups_spec _).2 _).1 hy)
 have ht:(⟨y,x⟩:Rn)∈Cal.turnR l:=Cal.turnR_mem.2 hm
 have hn:x∈Cal.newsOf (Cal.turnR l) y:=Cal.newsOf_mem.2 ht
 refine⟨hm,((Cal.numE_zero.1 h0).2.1 _ hm).2,Cal.knownT_news.2 (fun e=>by rw[e] at hn;cases hn),((Cal.tups_spec _).2 _).2 hn⟩
end Go.Proofs.YthfokpchdlcidaaGreat
