/- What the statements rest on: definitions and walks, part 16. -/
import Derived.Test.YthfokpchdlcidaaGreatJ11
set_option maxRecDepth 100000
set_option maxHeartbeats 16000000
set_option linter.unusedSimpArgs false
set_option linter.unusedVariables false
namespace Go.Proofs.YthfokpchdlcidaaGreat
open Go Go.RowKit Go.WideShapes Go.ChangeShapes
theorem below_of_drewN {w w' : World} {n : Nat} (h : Below (w.drewN n).heap.size (w.drewN n) w') : Below w.heap.size w w':=⟨h.os,h.tape,h.output,h.size,h.block⟩
section
variable {f : FuncId} {args : Array Value} {w : World} {K : Ending → World → Prop} {p q : Prop} {dp : Decidable p} {dq : Decidable q}
variable {n : Nat}
end
end Go.Proofs.YthfokpchdlcidaaGreat
namespace Go.Proofs.YthfokpchdlcidaaGreat
open Go Go.RowKit
theorem RowsAt.nil (w : World) (A : Option Addr) (m : Nat) : RowsAt w A m []:=fun k r hr=>by simp at hr
end Go.Proofs.YthfokpchdlcidaaGreat
namespace Go.Proofs.YthfokpchdlcidaaGreat
open Go Go.RowKit Go.Sort
theorem grow_below (w : World) (os : Array Obj) : Below w.heap.size w (grow w os):=⟨rfl,rfl,rfl,by simp,fun k hk=>by simp [grow,Array.getElem?_append_left hk]⟩
end Go.Proofs.YthfokpchdlcidaaGreat
namespace Go.Proofs.YthfokpchdlcidaaGreat
open Go Go.RowKit
theorem tkH {P : Program} {ops : Array Oper} {Q : Exit → Act → World → Prop} {md : Region.Mode} {S : World → Prop} (i : Nat) {oi : Oper} {v : Value} {fuel : Nat} {listed : Array Bool} {a : Act} {w : World}
  (hy : ∀ w,S w → (execOp a.eval oi).run P w = .ok (.value v) w) (h : wpAnyH P md ops Q S fuel (listed.setIfInBounds i true) (a.put oi.dst v) w)
  (hi : ops[i]? = some oi:=by exact rfl) (hs : Region.noSelect ops = true:=by kernel_rfl) (hf : Region.free md ops listed i = true:=by decide +kernel) (hr : (Region.ready md ops listed).contains i = true:=by decide +kernel)
  (hQ : ∀ c a w,Q (.panic c) (a.put oi.dst v) w → Q (.panic c) a w:=by exact fun _ _ _ h=>h) (hw : Region.wanted oi (yielded ops a.tmps) = true:=by kernel_rfl) (hS : S w:=by assumption) : wpAnyH P md ops Q S (fuel + 1) listed a w :=
 wpAnyH_take hi hs hf hr hQ (Or.inl ⟨hw,hy⟩) hS h
end Go.Proofs.YthfokpchdlcidaaGreat
namespace Go.Proofs.YthfokpchdlcidaaGreat
open Go Go.RowKit Go.Sort
def firstNZ : List Int → Int
 | []=>0
 | z :: l=>if z = 0 then firstNZ l else z
def nzTo (zs : List Int) (k : Nat) : Prop:=firstNZ (zs.drop k) = firstNZ zs
theorem Or_any (A : Option Addr) (c : Nat) (zs : List Int) (w : World) (h : RowsAt w A 1 (intRows zs)) (hs : zs.length ≤ 1000000) :
  Calls Tryz.prog 97 #[.slice A zs.length c] w fun e w'=>e = .returned (.int .i64 (firstNZ zs)) ∧ w = w':=by
 have h':=Lib.hid h
 have h0 : Hid (nzTo zs 0):=rfl
 clear h
 go_enter Tryz.func97,Tryz.ntmps97
 go_wp2
 go_loop [8] (fun i=>∃ k : Nat,k ≤ zs.length ∧ i = .int .i64 k ∧ Hid (nzTo zs k)) (fun i=>zs.length - (intOf i).toNat)
 case atStart=>exact ⟨0,Nat.zero_le _,rfl,h0⟩
 case round =>
  obtain ⟨k,hk,rfl,hm⟩:=hrel
  clear h0
  by_cases hlt : k < zs.length
  ·obtain ⟨b,o,rfl,_,e1⟩:=intsI_at h'.out hlt
   have hd:=Lib.hid (List.drop_eq_getElem_cons hlt)
   have hnz:=Lib.hid (fun (h : zs[k] = 0)=>show nzTo zs (k + 1) from by have:=hm.out;unfold nzTo at this ⊢;rw [← this,hd.out,firstNZ,if_pos h])
   have hfz:=Lib.hid (fun (h : ¬ zs[k] = 0)=>show firstNZ zs = zs[k] from by have:=hm.out;unfold nzTo at this;rw [← this,hd.out,firstNZ,if_neg h])
   clear hd
   generalize zs[k] = z at *
   by_cases hz : z = 0
   ·have hnx : Hid (nzTo zs (k + 1)):=hnz.out hz
    clear hnz hfz
    subst hz
    go_wp2
    go_round
    case rel=>exact ⟨k + 1,by omega,by go_num,hnx⟩
    case measure=>simp [intOf];omega
   ·have hfin : Hid (firstNZ zs = z):=hfz.out hz
    have hz' : (z != 0) = true:=by simpa using hz
    clear hnz hfz hz
    go_wp2
    go_ret
    exact ⟨ret_int hfin.out.symm,rfl⟩
  ·obtain rfl : k = zs.length:=by omega
   have hfin : Hid (firstNZ zs = 0):=by have:=hm.out;unfold nzTo at this;rw [List.drop_length] at this;exact this.symm
   go_wp2
   go_ret
   exact ⟨ret_int hfin.out.symm,rfl⟩
theorem ints_new (w : World) (cs : Array Value) (t : TypeId) (zs : List Int) (hc : cs.toList = zs.map (Value.int .i64)) : RowsAt (w.alloc (.cells cs t)) (some ⟨w.heap.size,0,none⟩) 1 (intRows zs):=fun k r hr=>by
 have hk : k < zs.length:=by
  have:=(List.getElem?_eq_some_iff.1 hr).1
  rwa [intRows_length] at this
 have hrow : r = [.int .i64 zs[k]]:=by
  unfold intRows at hr
  rw [List.getElem?_map,List.getElem?_eq_getElem hk] at hr
  exact (Option.some.inj hr).symm
 subst hrow
 refine ⟨_,_,rfl,by simp,fun j v hv=>?_⟩
 match j,hv with
 | 0,hv =>
  cases hv
  rw [Nat.zero_add,cell_alloc_at,← Array.getElem?_toList,hc]
  simp [hk]
 | j + 1,hv=>simp at hv
end Go.Proofs.YthfokpchdlcidaaGreat
namespace Go.Proofs.YthfokpchdlcidaaGreat.Cal
open Go.Lib
theorem txt_lt_of {a b : Txt} (h1 : a ≤ b) (h2 : a ≠ b) : a < b:=by
 rcases Classical.em (a < b) with h | h
 ·exact h
 ·exact absurd (List.le_antisymm h1 (List.not_lt.1 h)) h2
end Go.Proofs.YthfokpchdlcidaaGreat.Cal
namespace Go.Proofs.YthfokpchdlcidaaGreat
open Go Go.RowKit Go.Sort
theorem TextsL.rows {w : World} {B : Nat} {v : Value} {zs : List Cal.Txt} (h : TextsL w B v zs) : ∃ A c,v = .slice A zs.length c ∧ RowsAt w A 1 (txtRows zs):=by
 obtain ⟨A,c,hv,hr⟩:=OwnL.form h
 exact ⟨A,c,by rw [hv,txtRows_length],hr⟩
end Go.Proofs.YthfokpchdlcidaaGreat
namespace Go.Proofs.YthfokpchdlcidaaGreat
open Go Go.RowKit Go.Shelf
section
variable {w : World} {M : Nat} {l : List Pt}
theorem AtP.rows (h : AtP w M l) : RowsAt w (some ⟨M,0,none⟩) 2 (l.map ptR):=fun j r hr=>by
 rw [List.getElem?_map] at hr
 cases hq : l[j]? with
 | none=>rw [hq] at hr;cases hr
 | some q =>
  rw [hq] at hr
  cases hr
  have hj : j < l.length:=(List.getElem?_eq_some_iff.1 hq).1
  obtain ⟨c0,c1⟩:=h.at_ hj
  have hq' : ptAt l j = q:=by unfold ptAt;rw [hq];rfl
  rw [hq'] at c0 c1
  refine ⟨M,0,rfl,h.lt,fun i v hv=>?_⟩
  rw [Nat.zero_add]
  match i,hv with
  | 0,hv=>cases hv;exact c0
  | 1,hv=>cases hv;exact c1
end
end Go.Proofs.YthfokpchdlcidaaGreat
namespace Go.Proofs.YthfokpchdlcidaaGreat
open Go Go.RowKit Go.Shelf
theorem wpAnyH_hide {P : Program} {md : Region.Mode} {ops : Array Oper} {Q : Exit → Act → World → Prop} {S : World → Prop} {fuel : Nat} {listed : Array Bool} {a : Act} {w : World} (hp : ∀ c a (d : Nat) v w,Q (.panic c) (a.put (some d) v) w → Q (.panic c) a w)
  (h : ∀ Q0,(∀ c a (d : Nat) v w,Q0 (.panic c) (a.put (some d) v) w → Q0 (.panic c) a w) → Hid (Q0 = Q) → wpAnyH P md ops Q0 S fuel listed a w) : wpAnyH P md ops Q S fuel listed a w:=h Q hp rfl
theorem tkQ {P : Program} {ops : Array Oper} {Q : Exit → Act → World → Prop} {md : Region.Mode} {S : World → Prop} (i : Nat) (d : Nat) (hp : ∀ c a (d : Nat) v w,Q (.panic c) (a.put (some d) v) w → Q (.panic c) a w) {oi : Oper} {v : Value} {fuel : Nat} {listed : Array Bool} {a : Act} {w : World}
  (hy : ∀ w,S w → (execOp a.eval oi).run P w = .ok (.value v) w) (h : wpAnyH P md ops Q S fuel (listed.setIfInBounds i true) (a.put (some d) v) w)
  (hi : ops[i]? = some oi:=by exact rfl) (hdd : oi.dst = some d:=by kernel_rfl) (hs : Region.noSelect ops = true:=by kernel_rfl) (hf : Region.free md ops listed i = true:=by decide +kernel) (hr : (Region.ready md ops listed).contains i = true:=by decide +kernel)
  (hw : Region.wanted oi (yielded ops a.tmps) = true:=by kernel_rfl) (hS : S w:=by assumption) : wpAnyH P md ops Q S (fuel + 1) listed a w :=
 tkH2 i d hy h hi hdd hs hf hr (fun c _ w h=>by rw [hdd] at h;exact hp c _ d v w h) hw hS
theorem tkQx {P : Program} {ops : Array Oper} {Q : Exit → Act → World → Prop} {md : Region.Mode} {S : World → Prop} (i : Nat) (d : Nat) (hp : ∀ c a (d : Nat) v w,Q (.panic c) (a.put (some d) v) w → Q (.panic c) a w) {oi : Oper} {v : Value} {fuel : Nat} {listed l' : Array Bool} {a a' : Act} {w : World}
  (h : wpAnyH P md ops Q S fuel l' a' w) (hi : ops[i]? = some oi:=by exact rfl)
  (hy : ∀ w,S w → (execOp a.eval oi).run P w = .ok (.value v) w:=by (intro w' hSw;replace hSw:=hSw.cs;(try simp only [cs_iff_cons] at hSw);go_simp;(try with_reducible rfl)))
  (ha : a.put (some d) v = a':=by ((try simp only [Act.put,List.setIfInBounds_toArray,List.set_cons_zero,List.set_cons_succ]);exact rfl))
  (hl : listed.setIfInBounds i true = l':=by ((try simp only [List.setIfInBounds_toArray,List.set_cons_zero,List.set_cons_succ]);exact rfl))
  (hdd : oi.dst = some d:=by kernel_rfl) (hs : Region.noSelect ops = true:=by kernel_rfl) (hf : Region.free md ops listed i = true:=by decide +kernel) (hr : (Region.ready md ops listed).contains i = true:=by decide +kernel)
  (hw : Region.wanted oi (yielded ops a.tmps) = true:=by kernel_rfl) (hS : S w:=by assumption) : wpAnyH P md ops Q S (fuel + 1) listed a w :=
 tkQ i d hp hy (by rw [ha,hl];exact h) hi hdd hs hf hr hw hS
end Go.Proofs.YthfokpchdlcidaaGreat
namespace Go.Proofs.YthfokpchdlcidaaGreat
structure Rn where
 old : Cal.Txt
 new : Cal.Txt
namespace Cal
def rlt (a b : Rn) : Prop:=a.old < b.old ∨ (a.old = b.old ∧ a.new < b.new)
instance (a b : Rn) : Decidable (rlt a b):=by unfold rlt;infer_instance
theorem rlt_irr (a : Rn) : ¬ rlt a a:=fun h=>by
 rcases h with h | ⟨_,h⟩
 ·exact List.lt_irrefl _ h
 ·exact List.lt_irrefl _ h
theorem rlt_trans {a b c : Rn} (h1 : rlt a b) (h2 : rlt b c) : rlt a c:=by
 unfold rlt at *
 rcases h1 with h1 | ⟨e1,h1⟩
 ·rcases h2 with h2 | ⟨e2,h2⟩
  ·exact .inl (List.lt_trans h1 h2)
  ·exact .inl (by rw [← e2];exact h1)
 ·rcases h2 with h2 | ⟨e2,h2⟩
  ·exact .inl (by rw [e1];exact h2)
  ·exact .inr ⟨e1.trans e2,List.lt_trans h1 h2⟩
theorem txt_tri (a b : Txt) : a < b ∨ a = b ∨ b < a:=by
 rcases Classical.em (a < b) with h | h
 ·exact .inl h
 ·by_cases e : a = b
  ·exact .inr (.inl e)
  ·exact .inr (.inr (txt_lt_of (List.not_lt.1 h) (fun x=>e x.symm)))
theorem rlt_tri (a b : Rn) : rlt a b ∨ a = b ∨ rlt b a:=by
 rcases txt_tri a.old b.old with h | h | h
 ·exact .inl (.inl h)
 ·rcases txt_tri a.new b.new with h2 | h2 | h2
  ·exact .inl (.inr ⟨h,h2⟩)
  ·exact .inr (.inl (by cases a;cases b;rw [Rn.mk.injEq];exact ⟨h,h2⟩))
  ·exact .inr (.inr (.inr ⟨h.symm,h2⟩))
 ·exact .inr (.inr (.inl h))
theorem rup_ext : ∀ {xs ys : List Rn},xs.Pairwise rlt → ys.Pairwise rlt → (∀ d,d ∈ xs ↔ d ∈ ys) → xs = ys
 | [],[],_,_,_=>rfl
 | [],y :: ys,_,_,h=>absurd ((h y).2 (List.mem_cons_self ..)) (by simp)
 | x :: xs,[],_,_,h=>absurd ((h x).1 (List.mem_cons_self ..)) (by simp)
 | x :: xs,y :: ys,hx,hy,h=>by
  rw [List.pairwise_cons] at hx hy
  have e : x = y:=by
   rcases List.mem_cons.1 ((h x).1 (List.mem_cons_self ..)) with he | hm
   ·exact he
   ·rcases List.mem_cons.1 ((h y).2 (List.mem_cons_self ..)) with he | hm2
    ·exact he.symm
    ·exact absurd (rlt_trans (hx.1 y hm2) (hy.1 x hm)) (rlt_irr _)
  subst e
  congr 1
  refine rup_ext hx.2 hy.2 fun d=>⟨fun hd=>?_,fun hd=>?_⟩
  ·rcases List.mem_cons.1 ((h d).1 (List.mem_cons_of_mem _ hd)) with he | hm
   ·have:=hx.1 d hd;rw [he] at this;exact absurd this (rlt_irr _)
   ·exact hm
  ·rcases List.mem_cons.1 ((h d).2 (List.mem_cons_of_mem _ hd)) with he | hm
   ·have:=hy.1 d hd;rw [he] at this;exact absurd this (rlt_irr _)
   ·exact hm
def putR (x : Rn) : List Rn → List Rn
 | []=>[x]
 | y :: r=>if rlt x y then x :: y :: r else if rlt y x then y :: putR x r else y :: r
theorem putR_mem {x : Rn} : ∀ {l : List Rn} {d : Rn},d ∈ putR x l ↔ d = x ∨ d ∈ l
 | [],d=>by simp [putR]
 | y :: r,d=>by
  unfold putR
  split
  ·simp
  ·rename_i h1
   split
   ·rw [List.mem_cons,putR_mem,List.mem_cons]
    constructor
    ·rintro (h | h | h)
     ·exact .inr (.inl h)
     ·exact .inl h
     ·exact .inr (.inr h)
    ·rintro (h | h | h)
     ·exact .inr (.inl h)
     ·exact .inl h
     ·exact .inr (.inr h)
   ·rename_i h2
    have e : x = y:=by
     rcases rlt_tri x y with h | h | h
     ·exact absurd h h1
     ·exact h
     ·exact absurd h h2
    rw [e,List.mem_cons]
    constructor
    ·exact fun h=>.inr h
    ·rintro (h | h)
     ·exact .inl h
     ·exact h
theorem putR_up {x : Rn} : ∀ {l : List Rn},l.Pairwise rlt → (putR x l).Pairwise rlt
 | [],_=>List.pairwise_singleton ..
 | y :: r,h=>by
  unfold putR
  split
  ·rename_i h1
   rw [List.pairwise_cons] at h ⊢
   refine ⟨fun d hd=>?_,by rw [List.pairwise_cons];exact h⟩
   rcases List.mem_cons.1 hd with rfl | hd
   ·exact h1
   ·exact rlt_trans h1 (h.1 d hd)
  ·split
   ·rename_i h2
    rw [List.pairwise_cons] at h ⊢
    refine ⟨fun d hd=>?_,putR_up h.2⟩
    rcases putR_mem.1 hd with rfl | hd
    ·exact h2
    ·exact h.1 d hd
   ·exact h
theorem putR_len {x : Rn} : ∀ {l : List Rn},(putR x l).length ≤ l.length + 1
 | []=>Nat.le_refl _
 | y :: r=>by
  unfold putR
  split
  ·exact Nat.le_refl _
  ·split
   ·have:=putR_len (x:=x) (l:=r);simp only [List.length_cons];omega
   ·simp only [List.length_cons];omega
def settle (l : List Rn) : List Rn:=l.foldl (fun acc x=>putR x acc) []
theorem settle_from : ∀ (l acc : List Rn),acc.Pairwise rlt → (l.foldl (fun acc x=>putR x acc) acc).Pairwise rlt ∧ (∀ d,d ∈ l.foldl (fun acc x=>putR x acc) acc ↔ d ∈ l ∨ d ∈ acc) ∧ (l.foldl (fun acc x=>putR x acc) acc).length ≤ l.length + acc.length
 | [],acc,h=>⟨h,fun d=>by simp,by simp⟩
 | x :: r,acc,h=>by
  obtain ⟨h1,h2,h3⟩:=settle_from r (putR x acc) (putR_up h)
  refine ⟨h1,fun d=>?_,?_⟩
  ·show d ∈ r.foldl _ (putR x acc) ↔ _
   rw [h2,putR_mem,List.mem_cons]
   constructor
   ·rintro (h | h | h)
    ·exact .inl (.inr h)
    ·exact .inl (.inl h)
    ·exact .inr h
   ·rintro ((h | h) | h)
    ·exact .inr (.inl h)
    ·exact .inl h
    ·exact .inr (.inr h)
  ·have:=putR_len (x:=x) (l:=acc)
   show (r.foldl _ (putR x acc)).length ≤ _
   rw [List.length_cons]
   omega
theorem settle_up (l : List Rn) : (settle l).Pairwise rlt:=(settle_from l [] List.Pairwise.nil).1
theorem settle_mem {l : List Rn} {d : Rn} : d ∈ settle l ↔ d ∈ l:=by
 have:=(settle_from l [] List.Pairwise.nil).2.1 d
 unfold settle
 rw [this]
 simp
theorem settle_len (l : List Rn) : (settle l).length ≤ l.length:=by
 have:=(settle_from l [] List.Pairwise.nil).2.2
 unfold settle
 simpa using this
theorem settle_is {l xs : List Rn} (h : xs.Pairwise rlt) (hm : ∀ d,d ∈ xs ↔ d ∈ l) : xs = settle l:=rup_ext h (settle_up l) fun d=>by rw [hm,settle_mem]
def swapR (x : Rn) : Rn:=⟨x.new,x.old⟩
def turnR (l : List Rn) : List Rn:=settle (l.map swapR)
theorem turnR_mem {l : List Rn} {d : Rn} : d ∈ turnR l ↔ swapR d ∈ l:=by
 unfold turnR
 rw [settle_mem,List.mem_map]
 constructor
 ·rintro ⟨x,hx,rfl⟩;exact hx
 ·exact fun h=>⟨swapR d,h,rfl⟩
theorem turnR_twice {l : List Rn} (h : l.Pairwise rlt) : turnR (turnR l) = l:=by
 refine (settle_is h fun d=>?_).symm
 rw [List.mem_map]
 constructor
 ·exact fun hd=>⟨swapR d,turnR_mem.2 hd,rfl⟩
 ·rintro ⟨x,hx,rfl⟩;exact turnR_mem.1 hx
theorem turnR_len (l : List Rn) : (turnR l).length ≤ l.length:=by
 have:=settle_len (l.map swapR)
 rw [List.length_map] at this
 exact this
def compL (a b : List Rn) : List Rn:=a.flatMap fun x=>(b.filter fun y=>x.new == y.old).map fun y=>⟨x.old,y.new⟩
def compR (a b : List Rn) : List Rn:=settle (compL a b)
theorem compL_mem {a b : List Rn} {d : Rn} : d ∈ compL a b ↔ ∃ m,(⟨d.old,m⟩ : Rn) ∈ a ∧ (⟨m,d.new⟩ : Rn) ∈ b:=by
 unfold compL
 rw [List.mem_flatMap]
 constructor
 ·rintro ⟨x,hx,hd⟩
  obtain ⟨y,hy,rfl⟩:=List.mem_map.1 hd
  obtain ⟨hy,he⟩:=List.mem_filter.1 hy
  have he : x.new = y.old:=eq_of_beq he
  exact ⟨x.new,hx,by rw [he];exact hy⟩
 ·rintro ⟨m,h1,h2⟩
  exact ⟨_,h1,List.mem_map.2 ⟨_,List.mem_filter.2 ⟨h2,beq_self_eq_true _⟩,rfl⟩⟩
theorem compR_turn (a b : List Rn) : compR (turnR b) (turnR a) = turnR (compR a b):=by
 refine settle_is (settle_up _) fun d=>?_
 rw [show compR (turnR b) (turnR a) = settle (compL (turnR b) (turnR a)) from rfl,settle_mem,compL_mem,List.mem_map]
 constructor
 ·rintro ⟨m,h1,h2⟩
  refine ⟨swapR d,?_,rfl⟩
  rw [show compR a b = settle (compL a b) from rfl,settle_mem,compL_mem]
  exact ⟨m,turnR_mem.1 h2,turnR_mem.1 h1⟩
 ·rintro ⟨x,hx,rfl⟩
  rw [show compR a b = settle (compL a b) from rfl,settle_mem,compL_mem] at hx
  obtain ⟨m,h1,h2⟩:=hx
  exact ⟨m,turnR_mem.2 h2,turnR_mem.2 h1⟩
end Cal
end Go.Proofs.YthfokpchdlcidaaGreat
namespace Go.Proofs.YthfokpchdlcidaaGreat
def nmT (t : Cal.Txt) : Bool:=nameB ⟨t.toArray⟩
theorem nmT_of {a : ByteArray} : nmT a.toList = nameB a:=by
 unfold nmT
 rw [ByteArray.toList_eq]
namespace Cal
def folB : Option Rn → Rn → Bool
 | none,_=>true
 | some y,x=>decide (rlt y x)
def numF : Option Rn → List Rn → Int
 | _,[]=>0
 | p,x :: r=>if nmT x.old && nmT x.new then (if folB p x then numF (some x) r else 9) else 4
def numE (l : List Rn) : Int:=if 200 < l.length then 8 else numF none l
theorem numF_cons (p : Option Rn) (x : Rn) (r : List Rn) : numF p (x :: r) = if nmT x.old && nmT x.new then (if folB p x then numF (some x) r else 9) else 4:=rfl
theorem numF_zero : ∀ {l : List Rn} {p : Option Rn},numF p l = 0 ↔ (∀ x ∈ l,nmT x.old = true ∧ nmT x.new = true) ∧ l.Pairwise rlt ∧ (∀ y x,p = some y → l.head? = some x → rlt y x)
 | [],p=>by simp [numF]
 | x :: r,p=>by
  rw [numF_cons]
  constructor
  ·intro h
   split at h
   ·rename_i h1
    rw [Bool.and_eq_true] at h1
    split at h
    ·rename_i h2
     obtain ⟨g1,g2,g3⟩:=numF_zero.1 h
     refine ⟨fun y hy=>?_,?_,fun y z hy hz=>?_⟩
     ·rcases List.mem_cons.1 hy with rfl | hy
      ·exact h1
      ·exact g1 y hy
     ·rw [List.pairwise_cons]
      refine ⟨fun y hy=>?_,g2⟩
      cases r with
      | nil=>cases hy
      | cons a r =>
       have ha:=g3 x a rfl rfl
       rcases List.mem_cons.1 hy with rfl | hy
       ·exact ha
       ·exact rlt_trans ha ((List.pairwise_cons.1 g2).1 y hy)
     ·subst hy
      cases hz
      unfold folB at h2
      simpa using h2
    ·cases h
   ·cases h
  ·rintro ⟨h1,h2,h3⟩
   have hx:=h1 x (List.mem_cons_self ..)
   rw [List.pairwise_cons] at h2
   rw [if_pos (by rw [hx.1,hx.2];rfl),if_pos]
   ·exact numF_zero.2 ⟨fun y hy=>h1 y (List.mem_cons_of_mem _ hy),h2.2,fun y z hy hz=>by
     cases hy
     cases r with
     | nil=>cases hz
     | cons a r=>cases hz;exact h2.1 z (List.mem_cons_self ..)⟩
   ·cases p with
    | none=>rfl
    | some y=>unfold folB;exact decide_eq_true (h3 y x rfl rfl)
theorem numE_zero {l : List Rn} : numE l = 0 ↔ l.length ≤ 200 ∧ (∀ x ∈ l,nmT x.old = true ∧ nmT x.new = true) ∧ l.Pairwise rlt:=by
 unfold numE
 split
 ·constructor
  ·intro h;cases h
  ·rintro ⟨h,_⟩;omega
 ·rw [numF_zero]
  constructor
  ·rintro ⟨h1,h2,_⟩;exact ⟨by omega,h1,h2⟩
  ·rintro ⟨_,h1,h2⟩;exact ⟨h1,h2,fun y x h=>by cases h⟩
def befR (l : List Rn) (k : Nat) : Option Rn:=if k = 0 then none else l[k - 1]?
theorem befR_succ {l : List Rn} {k : Nat} : befR l (k + 1) = l[k]?:=by unfold befR;rw [if_neg (by omega),Nat.add_sub_cancel]
end Cal
end Go.Proofs.YthfokpchdlcidaaGreat
namespace Go.Proofs.YthfokpchdlcidaaGreat
open Go Go.RowKit Go.Sort
def cmpT (a b : Cal.Txt) : Int:=if a < b then -1 else if b < a then 1 else 0
theorem cmpT_neg {a b : Cal.Txt} : cmpT a b < 0 ↔ a < b:=by
 unfold cmpT
 split
 ·rename_i h;simp [h]
 ·rename_i h
  split <;> simp [h]
theorem cmpT_zero {a b : Cal.Txt} : cmpT a b = 0 ↔ a = b:=by
 unfold cmpT
 split
 ·rename_i h
  constructor
  ·intro e;omega
  ·intro e;subst e;exact absurd h (List.lt_irrefl _)
 ·rename_i h
  split
  ·rename_i h2
   constructor
   ·intro e;omega
   ·intro e;subst e;exact absurd h2 (List.lt_irrefl _)
  ·rename_i h2
   constructor
   ·intro _
    rcases Cal.txt_tri a b with h3 | h3 | h3
    ·exact absurd h3 h
    ·exact h3
    ·exact absurd h3 h2
   ·intro _;rfl
theorem NaNS_any (a : ByteArray) (w : World) : Calls Tryz.prog 126 #[.string a] w fun e w'=>e = .returned (.bool false) ∧ w = w':=by
 go_enter Tryz.func126,Tryz.ntmps126
 go_wp2_with fail
 go_ret
 exact ⟨by first | rfl | simp,rfl⟩
theorem cmpS_any (a b : ByteArray) (w : World) : Calls Tryz.prog 98 #[.string a,.string b] w fun e w'=>e = .returned (.int .i64 (cmpT a.toList b.toList)) ∧ w = w':=by
 have hR : Hid (cmpT a.toList b.toList = if Op.bytesLess a.toList b.toList = true then -1 else if (a.toList == b.toList) = true then 0 else 1):=by
  show _ = _
  unfold cmpT
  rw [bytesLess_eq]
  simp only [decide_eq_true_eq,beq_iff_eq]
  by_cases h : a.toList < b.toList
  ·rw [if_pos h,if_pos h]
  ·rw [if_neg h,if_neg h]
   by_cases h2 : a.toList = b.toList
   ·rw [if_pos h2,if_neg (by rw [h2];exact List.lt_irrefl _)]
   ·rw [if_neg h2,if_pos]
    rcases Cal.txt_tri a.toList b.toList with h3 | h3 | h3
    ·exact absurd h3 h
    ·exact absurd h3 h2
    ·exact h3
 rw [hR.out]
 clear hR
 cases h1 : Op.bytesLess a.toList b.toList
 ·cases h2 : (a.toList == b.toList)
  ·go_enter Tryz.func98,Tryz.ntmps98
   go_wp2_with (go_at_call 126;refine (NaNS_any _ _).mono ?_;rintro e w1 ⟨rfl,rfl⟩)
   go_ret
   exact ⟨rfl,rfl⟩
  ·go_enter Tryz.func98,Tryz.ntmps98
   go_wp2_with (go_at_call 126;refine (NaNS_any _ _).mono ?_;rintro e w1 ⟨rfl,rfl⟩)
   go_ret
   exact ⟨rfl,rfl⟩
 ·go_enter Tryz.func98,Tryz.ntmps98
  go_wp2_with (go_at_call 126;refine (NaNS_any _ _).mono ?_;rintro e w1 ⟨rfl,rfl⟩)
  go_ret
  exact ⟨rfl,rfl⟩
theorem neg_two {a b : Int} : firstNZ [a,b] < 0 ↔ a < 0 ∨ (a = 0 ∧ b < 0):=by
 simp only [firstNZ]
 split
 ·split <;> omega
 ·omega
def rnCf (x y : Rn) : Int:=firstNZ [cmpT x.old y.old,cmpT x.new y.new]
theorem rnCf_neg {x y : Rn} : rnCf x y < 0 ↔ Cal.rlt x y:=by
 unfold rnCf
 rw [neg_two,cmpT_neg,cmpT_zero,cmpT_neg]
 rfl
theorem compare_any (a b c d : ByteArray) (w : World) : Calls Tryz.prog 56 #[.agg #[.string a,.string b],.agg #[.string c,.string d]] w fun e w'=>e = .returned (.int .i64 (rnCf ⟨a.toList,b.toList⟩ ⟨c.toList,d.toList⟩)) ∧ ∃ q os,w' = grow (w.drewN q) os:=by
 have hS : (fun w'=>(w'.cell? ⟨w.heap.size,0,none⟩ = some (.string a) ∧ w'.cell? ⟨w.heap.size,1,none⟩ = some (.string b)) ∧ w'.cell? ⟨w.heap.size + 1,0,none⟩ = some (.string c) ∧ w'.cell? ⟨w.heap.size + 1,1,none⟩ = some (.string d)) ((w.alloc (.cells #[.string a,.string b] 69)).alloc (.cells #[.string c,.string d] 69)):=by simp
 have hS2 : ∀ o : Obj,(fun w'=>(w'.cell? ⟨w.heap.size,0,none⟩ = some (.string a) ∧ w'.cell? ⟨w.heap.size,1,none⟩ = some (.string b)) ∧ w'.cell? ⟨w.heap.size + 1,0,none⟩ = some (.string c) ∧ w'.cell? ⟨w.heap.size + 1,1,none⟩ = some (.string d)) (((w.alloc (.cells #[.string a,.string b] 69)).alloc (.cells #[.string c,.string d] 69)).alloc o):=fun o=>by
  have hb:=below_alloc ((w.alloc (.cells #[.string a,.string b] 69)).alloc (.cells #[.string c,.string d] 69)) o
  have k1 : w.heap.size < ((w.alloc (.cells #[.string a,.string b] 69)).alloc (.cells #[.string c,.string d] 69)).heap.size:=by simp;omega
  have k2 : w.heap.size + 1 < ((w.alloc (.cells #[.string a,.string b] 69)).alloc (.cells #[.string c,.string d] 69)).heap.size:=by simp
  exact ⟨⟨(hb.cell (p:=⟨w.heap.size,0,none⟩) k1).trans hS.1.1,(hb.cell (p:=⟨w.heap.size,1,none⟩) k1).trans hS.1.2⟩,(hb.cell (p:=⟨w.heap.size + 1,0,none⟩) k2).trans hS.2.1,(hb.cell (p:=⟨w.heap.size + 1,1,none⟩) k2).trans hS.2.2⟩
 have hS2:=Lib.hid hS2
 go_enter Tryz.func56,Tryz.ntmps56
 go_wp2_with fail
 refine wp_region_held_drew (S:=(fun w'=>(w'.cell? ⟨w.heap.size,0,none⟩ = some (.string a) ∧ w'.cell? ⟨w.heap.size,1,none⟩ = some (.string b)) ∧ w'.cell? ⟨w.heap.size + 1,0,none⟩ = some (.string c) ∧ w'.cell? ⟨w.heap.size + 1,1,none⟩ = some (.string d))) (by kernel_rfl) hS (fun hHeld=>?_)
 have hS:=Lib.hid hS
 (refine tkH 0 (v:=?_) ?_ ?_;rotate_left;focus (intro w' hSw;(try dsimp only at hSw);go_simp;(try with_reducible rfl));(try simp only [Act.put,List.setIfInBounds_toArray,List.set_cons_zero,List.set_cons_succ]))
 (refine tkH 1 (v:=?_) ?_ ?_;rotate_left;focus (intro w' hSw;(try dsimp only at hSw);go_simp;(try with_reducible rfl));(try simp only [Act.put,List.setIfInBounds_toArray,List.set_cons_zero,List.set_cons_succ]))
 (refine tkH 2 (v:=?_) ?_ ?_;rotate_left;focus (intro w' hSw;(try dsimp only at hSw);go_simp;(try with_reducible rfl));(try simp only [Act.put,List.setIfInBounds_toArray,List.set_cons_zero,List.set_cons_succ]))
 (refine tkH 3 (v:=?_) ?_ ?_;rotate_left;focus (intro w' hSw;(try dsimp only at hSw);go_simp;(try with_reducible rfl));(try simp only [Act.put,List.setIfInBounds_toArray,List.set_cons_zero,List.set_cons_succ]))
 (refine tkH 5 (v:=?_) ?_ ?_;rotate_left;focus (intro w' hSw;(try dsimp only at hSw);go_simp;(try with_reducible rfl));(try simp only [Act.put,List.setIfInBounds_toArray,List.set_cons_zero,List.set_cons_succ]))
 (refine tkH 6 (v:=?_) ?_ ?_;rotate_left;focus (intro w' hSw;(try dsimp only at hSw);go_simp;(try with_reducible rfl));(try simp only [Act.put,List.setIfInBounds_toArray,List.set_cons_zero,List.set_cons_succ]))
 (refine tkH 7 (v:=?_) ?_ ?_;rotate_left;focus (intro w' hSw;(try dsimp only at hSw);go_simp;(try with_reducible rfl));(try simp only [Act.put,List.setIfInBounds_toArray,List.set_cons_zero,List.set_cons_succ]))
 (refine tkH 8 (v:=?_) ?_ ?_;rotate_left;focus (intro w' hSw;(try dsimp only at hSw);go_simp;(try with_reducible rfl));(try simp only [Act.put,List.setIfInBounds_toArray,List.set_cons_zero,List.set_cons_succ]))
 (refine ratHx 4 (fun K hK=>?_);go_simp)
 (refine (cmpS_any _ _ _).mono ?_;rintro e w' ⟨rfl,rfl⟩;go_simp;(refine hK.out _ _ hS.out (fun hHeld=>?_);clear hK K;(try simp only [Act.put]);(try simp only [List.setIfInBounds_toArray]);(try simp only [List.set_cons_zero,List.set_cons_succ])))
 (refine ratHx 9 (fun K hK=>?_);go_simp)
 (refine (cmpS_any _ _ _).mono ?_;rintro e w' ⟨rfl,rfl⟩;go_simp;(refine hK.out _ _ hS.out (fun hHeld=>?_);clear hK K;(try simp only [Act.put]);(try simp only [List.setIfInBounds_toArray]);(try simp only [List.set_cons_zero,List.set_cons_succ])))
 (refine ratHx 10 (fun K hK=>?_);go_simp)
 (refine hK.out _ _ (hS2.out _) (fun hHeld=>?_);clear hK K;(try simp only [Act.put]);(try simp only [List.setIfInBounds_toArray]);(try simp only [List.set_cons_zero,List.set_cons_succ]))
 (refine ratHx 11 (fun K hK=>?_);go_simp)
 refine (Or_any (some ⟨w.heap.size + 1 + 1,0,none⟩) 2 [cmpT a.toList c.toList,cmpT b.toList d.toList] (((w.alloc (.cells #[.string a,.string b] 69)).alloc (.cells #[.string c,.string d] 69)).alloc (.cells #[.int .i64 (cmpT a.toList c.toList),.int .i64 (cmpT b.toList d.toList)] 3)).drew (by have h:=ints_new ((w.alloc (.cells #[.string a,.string b] 69)).alloc (.cells #[.string c,.string d] 69)) #[.int .i64 (cmpT a.toList c.toList),.int .i64 (cmpT b.toList d.toList)] 3 [cmpT a.toList c.toList,cmpT b.toList d.toList] rfl;simp only [World.size_alloc] at h;exact h) (show 2 ≤ 1000000 by decide)).mono ?_
 rintro e w' ⟨rfl,rfl⟩
 go_simp
 (refine hK.out _ _ (hS2.out _) (fun hHeld=>?_);clear hK K;(try simp only [Act.put]);(try simp only [List.setIfInBounds_toArray]);(try simp only [List.set_cons_zero,List.set_cons_succ]))
 (refine ratHx 12 (fun K hK=>?_);go_simp)
 (refine hK.out _ _ (hS2.out _) (fun hHeld=>?_);clear hK K;(try simp only [Act.put]);(try simp only [List.setIfInBounds_toArray]);(try simp only [List.set_cons_zero,List.set_cons_succ]))
 refine wpAnyH_done (by kernel_rfl) ?_ _
 go_wp2_with fail
 go_ret
 refine ⟨rfl,1,#[(.cells #[.string a,.string b] 69),(.cells #[.string c,.string d] 69),.cells #[.int .i64 (cmpT a.toList c.toList),.int .i64 (cmpT b.toList d.toList)] 3],?_⟩
 show ((w.drew.alloc (.cells #[.string a,.string b] 69)).alloc (.cells #[.string c,.string d] 69)).alloc (.cells #[.int .i64 (cmpT a.toList c.toList),.int .i64 (cmpT b.toList d.toList)] 3) = _
 rw [alloc_eq_grow,alloc_eq_grow,alloc_eq_grow,grow_grow,grow_grow]
 rfl
theorem compareB_any (a b c d : ByteArray) (w : World) : Calls Tryz.prog 56 #[.agg #[.string a,.string b],.agg #[.string c,.string d]] w fun e w'=>e = .returned (.int .i64 (rnCf ⟨a.toList,b.toList⟩ ⟨c.toList,d.toList⟩)) ∧ Below w.heap.size w w':=by
 refine (compare_any a b c d w).mono ?_
 rintro e w' ⟨rfl,q,os,rfl⟩
 exact ⟨rfl,below_of_drewN (n:=q) (grow_below _ os)⟩
def rnR (x : Rn) : List Value:=[encStr x.old,encStr x.new]
theorem rn_wid (l : List Rn) : ∀ r ∈ l.map rnR,r.length = 2:=fun r hr=>by obtain ⟨s,_,rfl⟩:=List.mem_map.1 hr;rfl
theorem rn_one (l : List Rn) : ∀ r ∈ l.map rnR,∀ u ∈ r,u.oneCell' = true:=fun r hr u hu=>by
 obtain ⟨s,_,rfl⟩:=List.mem_map.1 hr
 simp only [rnR,List.mem_cons,List.not_mem_nil,or_false] at hu
 rcases hu with rfl | rfl <;> rfl
theorem elemRn : Elem Tryz.prog 46 69 2 32:=Elem.mk' Tryz.underlying46 (z:=.agg #[.string ⟨#[]⟩,.string ⟨#[]⟩]) (by kernel_rfl) rfl (by decide)
structure Rns (w : World) (A : Option Addr) (l : List Rn) : Prop where
 rows : RowsAt w A 2 (l.map rnR)
 size : l.length ≤ 1000000
 len : ∀ x ∈ l,x.old.length ≤ maxLen ∧ x.new.length ≤ maxLen
theorem Rns.below {w w' : World} {A : Option Addr} {l : List Rn} (h : Rns w A l) (hb : Below w.heap.size w w') : Rns w' A l:=⟨h.rows.below hb,h.size,h.len⟩
theorem rn_at {w : World} {A : Option Addr} {l : List Rn} (h : RowsAt w A 2 (l.map rnR)) {k : Nat} {x : Rn} (hk : l[k]? = some x) :
  ∃ b o,A = some ⟨b,o,none⟩ ∧ b < w.heap.size ∧ ∃ ao an : ByteArray,ao.toList = x.old ∧ an.toList = x.new ∧ w.cell? ⟨b,o + k * 2,none⟩ = some (.string ao) ∧ w.cell? ⟨b,o + k * 2 + 1,none⟩ = some (.string an):=by
 obtain ⟨b,o,hA,hb,hc⟩:=h k (rnR x) (by rw [List.getElem?_map,hk];rfl)
 exact ⟨b,o,hA,hb,⟨x.old.toArray⟩,⟨x.new.toArray⟩,by rw [ByteArray.toList_eq],by rw [ByteArray.toList_eq],hc 0 _ rfl,hc 1 _ rfl⟩
theorem size_len {a : ByteArray} {t : Cal.Txt} (h : a.toList = t) : a.size = t.length:=by
 rw [← h,ByteArray.toList_eq]
 rfl
structure RbI (w : World) (B : Nat) (a b : ByteArray) (W : World) : Prop where
 bx : BoxAt W B [.string a,.string b]
 bel : Below w.heap.size w W
theorem RbI.below {w : World} {B : Nat} {a b : ByteArray} {X Y : World} (h : RbI w B a b X) (hb : Below X.heap.size X Y) : RbI w B a b Y:=⟨h.bx.below hb,below_step h.bel hb⟩
theorem CheckNumbers_any (A : Option Addr) (c : Nat) (l : List Rn) (w : World) (hl : Rns w A l) :
  Calls Tryz.prog 22 #[.slice A l.length c] w fun e w'=>e = .returned (.int .i64 (Cal.numE l)) ∧ Below w.heap.size w w':=by
 have hb0 : Hid (Below w.heap.size w w):=Below.refl _ _
 by_cases hbig : 200 < l.length
 ·have hR : Cal.numE l = 8:=by unfold Cal.numE;rw [if_pos hbig]
  have hbi : 200 < (l.length : Int):=by omega
  rw [hR]
  clear hR hl
  go_enter Tryz.func22,Tryz.ntmps22
  go_wp2_with fail
  go_ret
  exact ⟨rfl,hb0.out⟩
 ·obtain ⟨R,hRR⟩ : ∃ R,Cal.numE l = R:=⟨_,rfl⟩
  have hbi : ¬ 200 < (l.length : Int):=by omega
  have hR : Hid (R = Cal.numF (Cal.befR l 0) (l.drop 0)):=by
   show _ = _
   rw [← hRR]
   unfold Cal.numE Cal.befR
   rw [if_neg hbig]
   rfl
  rw [hRR]
  clear hRR
  replace hl:=Lib.hid hl
  go_enter Tryz.func22,Tryz.ntmps22
  go_wp2_with fail
  go_loopw [10] (fun i wr=>∃ k : Nat,k ≤ l.length ∧ i = .int .i64 k ∧ Hid (R = Cal.numF (Cal.befR l k) (l.drop k)) ∧ Hid (Below w.heap.size w wr)) (fun i _=>l.length - (intOf i).toNat)
  case atStart=>exact ⟨0,Nat.zero_le _,rfl,hR,hb0⟩
  case round =>
   clear hR hb0
   obtain ⟨k,hk,rfl,hR,hb⟩:=hrel
   by_cases hlt : k < l.length
   ·have hk' : l[k]? = some l[k]:=List.getElem?_eq_getElem hlt
    have hd:=Lib.hid (List.drop_eq_getElem_cons hlt)
    have hln:=hl.out.len _ (List.getElem_mem hlt)
    have hbs : Cal.befR l (k + 1) = some l[k]:=by rw [Cal.befR_succ];exact hk'
    have hR':=hR.out
    rw [hd.out,Cal.numF_cons,← hbs] at hR'
    replace hR:=Lib.hid hR'
    clear hR' hd hbs
    generalize l[k] = x at *
    obtain ⟨b,o,rfl,hbl,ao,an,ha1,ha2,c0,c1⟩:=rn_at (hl.out.rows.below hb.out) hk'
    have hs1 : ao.size ≤ maxLen:=by rw [size_len ha1];exact hln.1
    have hs2 : an.size ≤ maxLen:=by rw [size_len ha2];exact hln.2
    have hn1:=Lib.hid (fun W=>gisName_any ao W hs1)
    have hn2:=Lib.hid (fun W=>gisName_any an W hs2)
    rw [← nmT_of,ha1] at hn1
    rw [← nmT_of,ha2] at hn2
    have hI:=Lib.hid (show RbI w wr.heap.size ao an (wr.alloc (.cells #[.string ao,.string an] 69)) from ⟨BoxAt.new wr #[.string ao,.string an] 69,below_step hb.out (below_alloc _ _)⟩)
    have hwr : Hid (Below w.heap.size w wr):=hb
    have hki : (k : Int) < (l.length : Int):=by omega
    have m1 : Hid True:=trivial
    clear hk' hln hs1 hs2 hb
    (have x0:=hI.out.bx.c 0 _ rfl;have x1:=hI.out.bx.c 1 _ rfl)
    cases h1 : nmT x.old
    ·rw [h1] at hn1
     have hfin : Hid (R = 4):=by show _ = _;rw [hR.out,h1];rfl
     clear hR ha1 ha2
     go_wp2_with (go_at_call 55;clear x0 x1;(first | (clear m1;refine (hn1.out _).mono ?_;rintro e0 wn ⟨rfl,hbn⟩) | (refine (hn2.out _).mono ?_;rintro e0 wn ⟨rfl,hbn⟩));replace hI:=Lib.hid (hI.out.below hbn);clear hbn;(have x0:=hI.out.bx.c 0 _ rfl;have x1:=hI.out.bx.c 1 _ rfl))
     go_ret
     exact ⟨ret_int hfin.out.symm,hI.out.bel⟩
    cases h2 : nmT x.new
    ·rw [h1] at hn1
     rw [h2] at hn2
     have hfin : Hid (R = 4):=by show _ = _;rw [hR.out,h1,h2];rfl
     clear hR ha1 ha2
     go_wp2_with (go_at_call 55;clear x0 x1;(first | (clear m1;refine (hn1.out _).mono ?_;rintro e0 wn ⟨rfl,hbn⟩) | (refine (hn2.out _).mono ?_;rintro e0 wn ⟨rfl,hbn⟩));replace hI:=Lib.hid (hI.out.below hbn);clear hbn;(have x0:=hI.out.bx.c 0 _ rfl;have x1:=hI.out.bx.c 1 _ rfl))
     go_ret
     exact ⟨ret_int hfin.out.symm,hI.out.bel⟩
    rw [h1] at hn1
    rw [h2] at hn2
    have hR' : R = if Cal.folB (Cal.befR l k) x then Cal.numF (Cal.befR l (k + 1)) (l.drop (k + 1)) else 9:=by rw [hR.out,h1,h2];rfl
    replace hR:=Lib.hid hR'
    clear hR' h1 h2
    by_cases hk0 : k = 0
    ·subst hk0
     rw [Nat.zero_mul,Nat.add_zero] at c0 c1
     have hnx : Hid (R = Cal.numF (Cal.befR l (0 + 1)) (l.drop (0 + 1))):=by show _ = _;rw [hR.out];rfl
     clear hR ha1 ha2
     go_wp2_with (go_at_call 55;clear x0 x1;(first | (clear m1;refine (hn1.out _).mono ?_;rintro e0 wn ⟨rfl,hbn⟩) | (refine (hn2.out _).mono ?_;rintro e0 wn ⟨rfl,hbn⟩));replace hI:=Lib.hid (hI.out.below hbn);clear hbn;(have x0:=hI.out.bx.c 0 _ rfl;have x1:=hI.out.bx.c 1 _ rfl))
     refine wp_region_held_drew (S:=Sx wn []) (by kernel_rfl) (Sx.mk (cs_nil _) (Below.refl _ _)).drew (fun hHeld=>?_)
     clear x0 x1
     refine tkHx 0 27 ?_
     refine tkHx 1 28 ?_
     refine tkHx 2 29 ?_
     refine tkFx 3 30 ?_
     refine tkFx 4 31 ?_
     refine tkFx 5 32 ?_
     refine tkFx 6 33 ?_
     refine tkFx 7 34 ?_
     refine tkFx 8 35 ?_
     refine tkFx 9 36 ?_
     refine tkFx 10 37 ?_
     refine tkHx 11 38 ?_
     refine tkHx 12 26 ?_
     refine wpAnyH_done (by kernel_rfl) ?_ _
     (try simp only [apS,apN,siA,scZ,scS])
     replace hI:=Lib.hid (hI.out.below hHeld.bel)
     clear hHeld
     have hbe:=Lib.hid hI.out.bel
     go_wp2_with fail
     go_roundw
     case rel=>exact ⟨1,by omega,by go_num,hnx,hbe⟩
     case measure=>simp [intOf];omega
    ·have hq1 : k - 1 < l.length:=by omega
     have hbf : Cal.befR l k = some l[k - 1]:=by unfold Cal.befR;rw [if_neg hk0];exact List.getElem?_eq_getElem hq1
     have hR':=hR.out
     rw [hbf] at hR'
     replace hR:=Lib.hid hR'
     have hj' : l[k - 1]? = some l[k - 1]:=List.getElem?_eq_getElem hq1
     have hrows:=Lib.hid (fun W (hW : Below w.heap.size w W)=>rn_at (hl.out.rows.below hW) hj')
     clear hR' hbf hj'
     generalize l[k - 1] = y at *
     have p1 : IntKind.i64.wrap ((k : Int) - 1) = (k : Int) - 1:=wrap_small (by omega) (by omega)
     have p2 : (1 : Int) ≤ (k : Int):=by omega
     have p3 : (0 : Int) < (k : Int):=by omega
     have p4 : (k : Int) - 1 < (l.length : Int):=by omega
     have p5 : ((k : Int) - 1).toNat = k - 1:=by omega
     have p6 : (0 : Int) ≤ (k : Int) - 1:=by omega
     have p7 : 0 < k:=by omega
     have p8 : 1 ≤ k:=by omega
     clear hwr
     go_wp2_with (go_at_call 55;clear x0 x1;(first | (clear m1;refine (hn1.out _).mono ?_;rintro e0 wn ⟨rfl,hbn⟩) | (refine (hn2.out _).mono ?_;rintro e0 wn ⟨rfl,hbn⟩));replace hI:=Lib.hid (hI.out.below hbn);clear hbn;(have x0:=hI.out.bx.c 0 _ rfl;have x1:=hI.out.bx.c 1 _ rfl))
     obtain ⟨b',o',hA',hbl',bo,bn,hb1,hb2,d0,d1⟩:=hrows.out _ hI.out.bel
     cases hA'
     have hcf:=rnCf_neg (x:=y) (y:=x)
     have hcm:=Lib.hid (fun W=>compareB_any bo bn ao an W)
     rw [show (⟨bo.toList,bn.toList⟩ : Rn) = y from by rw [hb1,hb2],show (⟨ao.toList,an.toList⟩ : Rn) = x from by rw [ha1,ha2]] at hcm
     clear ha1 ha2 hb1 hb2 hrows
     generalize rnCf y x = v at *
     refine wp_region_held_drew (S:=Sx wn [(b,o + (k - 1) * 2,.string bo),(b,o + (k - 1) * 2 + 1,.string bn),(wr.heap.size,0,.string ao),(wr.heap.size,1,.string an)]) (by kernel_rfl) (Sx.mk (by simp only [cs_iff_cons];exact ⟨d0,d1,x0,x1,cs_nil _⟩) (Below.refl _ _)).drew (fun hHeld=>?_)
     clear d0 d1 x0 x1
     (refine wpAnyH_hide (fun _ _ _ _ _ h=>h) (fun Q0 hp0 hQ0=>?_))
     refine tkQx 0 27 hp0 ?_
     refine tkQx 1 28 hp0 ?_
     refine tkQx 2 29 hp0 ?_
     refine tkQx 3 30 hp0 ?_
     refine tkQx 4 31 hp0 ?_
     refine tkQx 5 32 hp0 ?_
     refine tkQx 6 33 hp0 ?_
     refine tkQx 7 34 hp0 ?_
     refine tkQx 8 35 hp0 ?_
     (refine ratHx 9 (fun K hK=>?_);go_simp)
     refine (hcm.out _).mono ?_
     rintro e wn ⟨rfl,hbn⟩
     go_simp
     (refine hK.out _ _ (hHeld.step hbn) (fun hHeld=>?_);clear hK K;(try simp only [apS,apN,siA,scZ,scS]))
     refine tkQx 10 37 hp0 ?_
     refine tkQx 11 38 hp0 ?_
     refine tkQx 12 26 hp0 ?_
     refine wpAnyH_done (by kernel_rfl) ?_ _
     (try simp only [apS,apN,siA,scZ,scS])
     (obtain rfl:=hQ0.out;clear hp0)
     replace hI:=Lib.hid (hI.out.below hHeld.bel)
     clear hHeld hcm
     have hbe:=Lib.hid hI.out.bel
     by_cases hv : v < 0
     ·have hnx : Hid (R = Cal.numF (Cal.befR l (k + 1)) (l.drop (k + 1))):=by show _ = _;rw [hR.out];rw [show Cal.folB (some y) x = true from decide_eq_true (hcf.1 hv)];rfl
      have hv2 : ¬ 0 ≤ v:=by omega
      clear hR hcf
      go_wp2_with fail
      go_roundw
      case rel=>exact ⟨k + 1,by omega,by go_num,hnx,hbe⟩
      case measure=>simp [intOf];omega
     ·have hfin : Hid (R = 9):=by show _ = _;rw [hR.out];rw [show Cal.folB (some y) x = false from decide_eq_false (fun h=>hv (hcf.2 h))];rfl
      have hv2 : 0 ≤ v:=by omega
      clear hR hcf
      go_wp2_with fail
      go_ret
      exact ⟨ret_int hfin.out.symm,hbe.out⟩
   ·have hfin : Hid (R = 0):=by show _ = _;rw [hR.out,List.drop_of_length_le (by omega)];cases Cal.befR l k <;> rfl
    have hge : l.length = k:=by omega
    clear hR
    go_wp2_with fail
    go_ret
    exact ⟨ret_int hfin.out.symm,hb.out⟩
end Go.Proofs.YthfokpchdlcidaaGreat
namespace Go.Proofs.YthfokpchdlcidaaGreat
open Go Go.RowKit Go.Sort Go.Maps Go.WideMaps
theorem encStr_of {a : ByteArray} {t : Cal.Txt} (h : a.toList = t) : encStr t = .string a:=by
 subst h
 rw [ByteArray.toList_eq]
end Go.Proofs.YthfokpchdlcidaaGreat
namespace Go.Proofs.YthfokpchdlcidaaGreat
open Go Go.RowKit Go.ChangeShapes Go.WideShapes Go.Deep Go.Sort
section
variable {H : Type} {enc : TypeId × Value → H} {w : World} {spare : Nat → Bool} {held : Bool} {r : Reach} {b0 : Nat} {v : Value} {d : DataW H} {ps : List MemPlace}
theorem rns_of_open (hval : Value.okWide Tryz.prog w r b0 46 v) (h : DataW.Trod enc Tryz.prog w 0 spare held 46 v d ps) :
  ∃ (A : Option Addr) (l : List Rn) (c : Nat),v = .slice A l.length c ∧ RowsAt w A 2 (l.map rnR) ∧ (∀ p ∈ l,p.old.length ≤ maxLen ∧ p.new.length ≤ maxLen) ∧ l.length ≤ c:=by
 obtain ⟨A,len,cap,rfl⟩:=okWide_slice Tryz.underlying46 hval
 obtain ⟨fuel,hf⟩:=h
 obtain ⟨A',len',cap',hcs,hlen,hq⟩:=rows_of_open Tryz.underlying46 Tryz.underlying69 (by kernel_rfl) (by kernel_rfl) (by decide) hf
 have he : A = A' ∧ len = len' ∧ cap = cap':=by simpa [Value.cells] using hcs
 obtain ⟨rfl,rfl,rfl⟩:=he
 have h1 : ∀ i,i < len → ∃ p : Rn,(p.old.length ≤ maxLen ∧ p.new.length ≤ maxLen) ∧ ∃ b o,A = some ⟨b,o,none⟩ ∧ b < w.heap.size ∧ ∀ j v,(rnR p)[j]? = some v → w.cell? ⟨b,o + (i * 2 + j),none⟩ = some v:=fun i hi=>by
  obtain ⟨b,o,n,hA,hb,hf⟩:=hq i hi
  obtain ⟨v0,y0,c0,t0⟩:=hf 0 _ rfl
  obtain ⟨v1,y1,c1,t1⟩:=hf 1 _ rfl
  obtain ⟨s0,e0,_,g0⟩:=DataW.trod_string Tryz.underlying9 t0
  obtain ⟨s1,e1,_,g1⟩:=DataW.trod_string Tryz.underlying9 t1
  cases e0;cases e1
  refine ⟨⟨s0.toList,s1.toList⟩,⟨by rw [← size_len (a:=s0) rfl];exact g0,by rw [← size_len (a:=s1) rfl];exact g1⟩,b,o,hA,hb,fun j v hv=>?_⟩
  match j,hv with
  | 0,hv=>cases hv;rw [encStr_of rfl];exact c0
  | 1,hv=>cases hv;rw [encStr_of rfl];exact c1
  | j + 2,hv=>simp [rnR] at hv
 obtain ⟨l,hl,hq'⟩:=list_of len h1
 subst hl
 refine ⟨A,l,cap,rfl,fun k r hr=>?_,fun p hp=>?_,hlen⟩
 ·rw [List.getElem?_map] at hr
  cases hk : l[k]? with
  | none=>rw [hk] at hr;cases hr
  | some p=>rw [hk] at hr;cases hr;exact (hq' k p hk).2
 ·obtain ⟨k,hk,rfl⟩:=List.getElem_of_mem hp
  exact (hq' k _ (List.getElem?_eq_getElem hk)).1
end
end Go.Proofs.YthfokpchdlcidaaGreat
namespace Go.Proofs.YthfokpchdlcidaaGreat
open Go Go.RowKit Go.Sort
def rlB (a b c d : ByteArray) : Bool:=Op.bytesLess a.toList c.toList || ((a.toList == c.toList) && Op.bytesLess b.toList d.toList)
theorem rlB_iff {a b c d : ByteArray} {x y : Rn} (h1 : a.toList = x.old) (h2 : b.toList = x.new) (h3 : c.toList = y.old) (h4 : d.toList = y.new) : rlB a b c d = decide (Cal.rlt x y):=by
 unfold rlB
 rw [bytesLess_eq,bytesLess_eq,h1,h2,h3,h4,Bool.eq_iff_iff,Bool.or_eq_true,Bool.and_eq_true,decide_eq_true_iff,decide_eq_true_iff,beq_iff_eq,decide_eq_true_iff]
 rfl
theorem lessB_any (a b c d : ByteArray) (w : World) : Calls Tryz.prog 53 #[.agg #[.string a,.string b],.agg #[.string c,.string d]] w fun e w'=>e = .returned (.bool (rlB a b c d)) ∧ Below w.heap.size w w':=by
 have hb:=Lib.hid (below_step (below_alloc w (.cells #[.string a,.string b] 69)) (below_alloc _ (.cells #[.string c,.string d] 69)))
 have hR : Hid (rlB a b c d = (Op.bytesLess a.toList c.toList || ((a.toList == c.toList) && Op.bytesLess b.toList d.toList))):=rfl
 rw [hR.out]
 clear hR
 cases h1 : Op.bytesLess a.toList c.toList
 ·cases h2 : (a.toList == c.toList)
  ·go_enter Tryz.func53,Tryz.ntmps53
   go_wp2_with fail
   go_ret
   exact ⟨rfl,hb.out⟩
  ·cases h3 : Op.bytesLess b.toList d.toList
   ·go_enter Tryz.func53,Tryz.ntmps53
    go_wp2_with fail
    go_ret
    exact ⟨rfl,hb.out⟩
   ·go_enter Tryz.func53,Tryz.ntmps53
    go_wp2_with fail
    go_ret
    exact ⟨rfl,hb.out⟩
 ·go_enter Tryz.func53,Tryz.ntmps53
  go_wp2_with fail
  go_ret
  exact ⟨rfl,hb.out⟩
theorem rnLess_any (a b c d : ByteArray) (x y : Rn) (w : World) (h1 : a.toList = x.old) (h2 : b.toList = x.new) (h3 : c.toList = y.old) (h4 : d.toList = y.new) : Calls Tryz.prog 53 #[.agg #[.string a,.string b],.agg #[.string c,.string d]] w fun e w'=>e = .returned (.bool (decide (Cal.rlt x y))) ∧ Below w.heap.size w w':=by
 rw [← rlB_iff h1 h2 h3 h4]
 exact lessB_any a b c d w
theorem CheckNumbersR_any (A : Option Addr) (c : Nat) (l : List Rn) (w : World) (hl : Rns w A l) :
  Calls Tryz.prog 19 #[.slice A l.length c] w fun e w'=>e = .returned (.int .i64 (Cal.numE l)) ∧ Below w.heap.size w w':=by
 have hb0 : Hid (Below w.heap.size w w):=Below.refl _ _
 by_cases hbig : 200 < l.length
 ·have hR : Cal.numE l = 8:=by unfold Cal.numE;rw [if_pos hbig]
  have hbi : 200 < (l.length : Int):=by omega
  rw [hR]
  clear hR hl
  go_enter Tryz.func19,Tryz.ntmps19
  go_wp2_with fail
  go_ret
  exact ⟨rfl,hb0.out⟩
 ·obtain ⟨R,hRR⟩ : ∃ R,Cal.numE l = R:=⟨_,rfl⟩
  have hbi : ¬ 200 < (l.length : Int):=by omega
  have hR : Hid (R = Cal.numF (Cal.befR l 0) (l.drop 0)):=by
   show _ = _
   rw [← hRR]
   unfold Cal.numE Cal.befR
   rw [if_neg hbig]
   rfl
  rw [hRR]
  clear hRR
  replace hl:=Lib.hid hl
  go_enter Tryz.func19,Tryz.ntmps19
  go_wp2_with fail
  go_loopw [3] (fun i wr=>∃ k : Nat,k ≤ l.length ∧ i = .int .i64 k ∧ Hid (R = Cal.numF (Cal.befR l k) (l.drop k)) ∧ Hid (Below w.heap.size w wr)) (fun i _=>l.length - (intOf i).toNat)
  case atStart=>exact ⟨0,Nat.zero_le _,rfl,hR,hb0⟩
  case round =>
   clear hR hb0
   obtain ⟨k,hk,rfl,hR,hb⟩:=hrel
   by_cases hlt : k < l.length
   ·have hk' : l[k]? = some l[k]:=List.getElem?_eq_getElem hlt
    have hd:=Lib.hid (List.drop_eq_getElem_cons hlt)
    have hln:=hl.out.len _ (List.getElem_mem hlt)
    have hbs : Cal.befR l (k + 1) = some l[k]:=by rw [Cal.befR_succ];exact hk'
    have hR':=hR.out
    rw [hd.out,Cal.numF_cons,← hbs] at hR'
    replace hR:=Lib.hid hR'
    clear hR' hd hbs
    generalize l[k] = x at *
    obtain ⟨b,o,rfl,hbl,ao,an,ha1,ha2,c0,c1⟩:=rn_at (hl.out.rows.below hb.out) hk'
    have hs1 : ao.size ≤ maxLen:=by rw [size_len ha1];exact hln.1
    have hs2 : an.size ≤ maxLen:=by rw [size_len ha2];exact hln.2
    have hn1:=Lib.hid (fun W=>IsName_any ao W hs1)
    have hn2:=Lib.hid (fun W=>IsName_any an W hs2)
    rw [← nmT_of,ha1] at hn1
    rw [← nmT_of,ha2] at hn2
    have hki : (k : Int) < (l.length : Int):=by omega
    have m1 : Hid True:=trivial
    clear hk' hln hs1 hs2
    cases h1 : nmT x.old
    ·rw [h1] at hn1
     have hfin : Hid (R = 4):=by show _ = _;rw [hR.out,h1];rfl
     clear hR ha1 ha2
     go_wp2_with (go_at_call 47;(first | (clear m1;refine (hn1.out _).mono ?_;rintro e0 wn ⟨rfl,rfl⟩) | (refine (hn2.out _).mono ?_;rintro e0 wn ⟨rfl,rfl⟩)))
     go_ret
     exact ⟨ret_int hfin.out.symm,hb.out⟩
    cases h2 : nmT x.new
    ·rw [h1] at hn1
     rw [h2] at hn2
     have hfin : Hid (R = 4):=by show _ = _;rw [hR.out,h1,h2];rfl
     clear hR ha1 ha2
     go_wp2_with (go_at_call 47;(first | (clear m1;refine (hn1.out _).mono ?_;rintro e0 wn ⟨rfl,rfl⟩) | (refine (hn2.out _).mono ?_;rintro e0 wn ⟨rfl,rfl⟩)))
     go_ret
     exact ⟨ret_int hfin.out.symm,hb.out⟩
    rw [h1] at hn1
    rw [h2] at hn2
    have hR' : R = if Cal.folB (Cal.befR l k) x then Cal.numF (Cal.befR l (k + 1)) (l.drop (k + 1)) else 9:=by rw [hR.out,h1,h2];rfl
    replace hR:=Lib.hid hR'
    clear hR' h1 h2
    by_cases hk0 : k = 0
    ·subst hk0
     rw [Nat.zero_mul,Nat.add_zero] at c0 c1
     have hnx : Hid (R = Cal.numF (Cal.befR l (0 + 1)) (l.drop (0 + 1))):=by show _ = _;rw [hR.out];rfl
     clear hR ha1 ha2
     go_wp2_with (go_at_call 47;(first | (clear m1;refine (hn1.out _).mono ?_;rintro e0 wn ⟨rfl,rfl⟩) | (refine (hn2.out _).mono ?_;rintro e0 wn ⟨rfl,rfl⟩)))
     refine wp_region_held_drew (S:=Sx wr []) (by kernel_rfl) (Sx.mk (cs_nil _) (Below.refl _ _)).drew (fun hHeld=>?_)
     clear c0 c1
     refine tkHx 0 29 ?_
     refine tkHx 1 30 ?_
     refine tkHx 2 31 ?_
     refine tkFx 3 32 ?_
     refine tkFx 4 33 ?_
     refine tkFx 5 34 ?_
     refine tkFx 6 35 ?_
     refine tkFx 7 36 ?_
     refine tkFx 8 37 ?_
     refine tkFx 9 38 ?_
     refine tkFx 10 39 ?_
     refine tkFx 11 40 ?_
     refine tkFx 12 41 ?_
     refine tkFx 13 42 ?_
     refine tkHx 14 43 ?_
     refine wpAnyH_done (by kernel_rfl) ?_ _
     (try simp only [apS,apN,siA,scZ,scS])
     have hbe:=Lib.hid (hb.out.trans (hHeld.bel.mono hb.out.size))
     clear hHeld
     go_wp2_with fail
     go_roundw
     case rel=>exact ⟨1,by omega,by go_num,hnx,hbe⟩
     case measure=>simp [intOf];omega
    ·have hq1 : k - 1 < l.length:=by omega
     have hbf : Cal.befR l k = some l[k - 1]:=by unfold Cal.befR;rw [if_neg hk0];exact List.getElem?_eq_getElem hq1
     have hR':=hR.out
     rw [hbf] at hR'
     replace hR:=Lib.hid hR'
     have hj' : l[k - 1]? = some l[k - 1]:=List.getElem?_eq_getElem hq1
     have hrows:=Lib.hid (fun W (hW : Below w.heap.size w W)=>rn_at (hl.out.rows.below hW) hj')
     clear hR' hbf hj'
     generalize l[k - 1] = y at *
     have p1 : IntKind.i64.wrap ((k : Int) - 1) = (k : Int) - 1:=wrap_small (by omega) (by omega)
     have p2 : (1 : Int) ≤ (k : Int):=by omega
     have p3 : (0 : Int) < (k : Int):=by omega
     have p4 : (k : Int) - 1 < (l.length : Int):=by omega
     have p5 : ((k : Int) - 1).toNat = k - 1:=by omega
     have p6 : (0 : Int) ≤ (k : Int) - 1:=by omega
     have p7 : 0 < k:=by omega
     have p8 : 1 ≤ k:=by omega
     obtain ⟨b',o',hA',hbl',bo,bn,hb1,hb2,d0,d1⟩:=hrows.out _ hb.out
     cases hA'
     have hcm:=Lib.hid (fun W=>rnLess_any bo bn ao an y x W hb1 hb2 ha1 ha2)
     have hfo : Hid (Cal.folB (some y) x = decide (Cal.rlt y x)):=rfl
     clear ha1 ha2 hb1 hb2 hrows
     generalize decide (Cal.rlt y x) = v at *
     go_wp2_with (go_at_call 47;(first | (clear m1;refine (hn1.out _).mono ?_;rintro e0 wn ⟨rfl,rfl⟩) | (refine (hn2.out _).mono ?_;rintro e0 wn ⟨rfl,rfl⟩)))
     refine wp_region_held_drew (S:=Sx wr [(b,o + (k - 1) * 2,.string bo),(b,o + (k - 1) * 2 + 1,.string bn),(b,o + k * 2,.string ao),(b,o + k * 2 + 1,.string an)]) (by kernel_rfl) (Sx.mk (by simp only [cs_iff_cons];exact ⟨d0,d1,c0,c1,cs_nil _⟩) (Below.refl _ _)).drew (fun hHeld=>?_)
     clear d0 d1 c0 c1
     (refine wpAnyH_hide (fun _ _ _ _ _ h=>h) (fun Q0 hp0 hQ0=>?_))
     refine tkQx 0 29 hp0 ?_
     refine tkQx 1 30 hp0 ?_
     refine tkQx 2 31 hp0 ?_
     refine tkQx 3 32 hp0 ?_
     refine tkQx 4 33 hp0 ?_
     refine tkQx 5 34 hp0 ?_
     refine tkQx 6 35 hp0 ?_
     refine tkQx 7 36 hp0 ?_
     refine tkQx 8 37 hp0 ?_
     refine tkQx 9 38 hp0 ?_
     refine tkQx 10 39 hp0 ?_
     refine tkQx 11 40 hp0 ?_
     (refine ratHx 12 (fun K hK=>?_);go_simp)
     refine (hcm.out _).mono ?_
     rintro e wn ⟨rfl,hbn⟩
     go_simp
     (refine hK.out _ _ (hHeld.step hbn) (fun hHeld=>?_);clear hK K;(try simp only [apS,apN,siA,scZ,scS]))
     refine tkQx 13 42 hp0 ?_
     refine tkQx 14 43 hp0 ?_
     refine wpAnyH_done (by kernel_rfl) ?_ _
     (try simp only [apS,apN,siA,scZ,scS])
     (obtain rfl:=hQ0.out;clear hp0)
     have hbe:=Lib.hid (hb.out.trans (hHeld.bel.mono hb.out.size))
     clear hHeld hcm
     cases v
     ·have hfin : Hid (R = 9):=by show _ = _;rw [hR.out,hfo.out];rfl
      clear hR hfo
      go_wp2_with fail
      go_ret
      exact ⟨ret_int hfin.out.symm,hbe.out⟩
     ·have hnx : Hid (R = Cal.numF (Cal.befR l (k + 1)) (l.drop (k + 1))):=by show _ = _;rw [hR.out,hfo.out];rfl
      clear hR hfo
      go_wp2_with fail
      go_roundw
      case rel=>exact ⟨k + 1,by omega,by go_num,hnx,hbe⟩
      case measure=>simp [intOf];omega
   ·have hfin : Hid (R = 0):=by show _ = _;rw [hR.out,List.drop_of_length_le (by omega)];cases Cal.befR l k <;> rfl
    have hge : l.length = k:=by omega
    clear hR
    go_wp2_with fail
    go_ret
    exact ⟨ret_int hfin.out.symm,hb.out⟩
end Go.Proofs.YthfokpchdlcidaaGreat
