/- What the statements rest on: definitions and walks, part 20. -/
import Derived.Test.YthfokpchdlcidaaJ18
import Derived.Test.YthfokpchdlcidaaJ14
import Derived.Test.YthfokpchdlcidaaJ09
set_option maxRecDepth 100000
set_option maxHeartbeats 16000000
set_option linter.unusedSimpArgs false
set_option linter.unusedVariables false
namespace Go.Proofs.Ythfokpchdlcidaa
open Go Go.RowKit Go.WideShapes Go.ChangeShapes
theorem below_of_drewN {w w' : World} {n : Nat} (h : Below (w.drewN n).heap.size (w.drewN n) w') : Below w.heap.size w w':=⟨h.os,h.tape,h.output,h.size,h.block⟩
section
variable {f : FuncId} {args : Array Value} {w : World} {K : Ending → World → Prop} {p q : Prop} {dp : Decidable p} {dq : Decidable q}
variable {n : Nat}
end
end Go.Proofs.Ythfokpchdlcidaa
namespace Go.Proofs.Ythfokpchdlcidaa
open Go Go.RowKit
theorem RowsAt.nil (w : World) (A : Option Addr) (m : Nat) : RowsAt w A m []:=fun k r hr=>by simp at hr
end Go.Proofs.Ythfokpchdlcidaa
namespace Go.Proofs.Ythfokpchdlcidaa
open Go Go.RowKit Go.Maps Go.WideMaps Go.ChangeMaps
variable {P : Program} {k : TypeId} {w : World} {b n : Nat} {κ : Type} {lit : κ → Lit} {f : κ → Option Value}
theorem MapIs.kept {w' : World} {row : Option Nat} (h : MapIs P k lit w b n f) (hg : w.grownBy w' row) (hne : some b ≠ row) : MapIs P k lit w' b n f:=by
 obtain ⟨D,h,hf⟩:=h;exact ⟨D,h.kept hg hne,hf⟩
theorem MapIs.look_ok {t e : TypeId} (h : MapIs P k lit w b n f) (K : Keyed P k) (ht : P.underlying t = some (.map k e)) {z : Value} (hz : (zeroValue e).run P w = .ok z w) {key : Value} {kl : κ} (hkey : keyOf P k key = some (lit kl)) :
  (Instr.lookup t (.map (some b)) key true).run P w = .ok (.tuple #[(f kl).getD z,.bool (f kl).isSome]) w:=by
 obtain ⟨D,h,hf⟩:=h
 obtain ⟨v,ps,hrun,hv⟩:=h.look_ok K ht hz (zd:=.held z) (zp:=[]) rfl hkey
 obtain ⟨h1,h2⟩:=hf kl (K.key hkey)
 rw [h2 z] at hv
 simp only [heldR,Option.some.injEq,Prod.mk.injEq,DataW.held.injEq] at hv
 rw [hrun,hv.1,h1]
end Go.Proofs.Ythfokpchdlcidaa
namespace Go.Proofs.Ythfokpchdlcidaa
open Go Go.RowKit Go.Maps Go.WideMaps
def strLit (x : List UInt8) : Lit:=.string x
theorem strLit_inj (x y : List UInt8) (h : strLit x = strLit y) : x = y:=by unfold strLit at h;cases h;rfl
end Go.Proofs.Ythfokpchdlcidaa
namespace Go.Proofs
open Go.Shelf
def Try.lays190_ren : Go.Shelf.Ren:=⟨fun | 190=>85 | 125=>107 | 258=>106 | 128=>123 | 129=>124 | 302=>114 | 303=>115 | 304=>116 | 305=>117 | 306=>118 | 307=>119 | 308=>120 | 309=>121 | 310=>122 | 333=>128 | 329=>129 | 330=>130 | 334=>131 | 335=>132 | 336=>113 | 344=>134 | n=>n,fun | 31=>54 | 9=>9 | 3=>3 | 46=>112 | 0=>0 | 51=>163 | 53=>165 | 4=>4 | 183=>155 | 182=>154 | 131=>160 | 5=>5 | 218=>168 | 222=>171 | 228=>174 | 229=>175 | n=>n,fun | n=>n⟩
theorem Try.lays190 : Go.Proofs.Lays.n190 Try.prog Try.lays190_ren:={
 mixed:=by kernel_rfl
 f125:=Try.func107.trans (congrArg some (by kernel_rfl))
 f128:=Try.func123.trans (congrArg some (by kernel_rfl))
 f129:=Try.func124.trans (congrArg some (by kernel_rfl))
 f190:=Try.func85.trans (congrArg some (by kernel_rfl))
 f258:=Try.func106.trans (congrArg some (by kernel_rfl))
 f302:=Try.func114.trans (congrArg some (by kernel_rfl))
 f303:=Try.func115.trans (congrArg some (by kernel_rfl))
 f304:=Try.func116.trans (congrArg some (by kernel_rfl))
 f305:=Try.func117.trans (congrArg some (by kernel_rfl))
 f306:=Try.func118.trans (congrArg some (by kernel_rfl))
 f307:=Try.func119.trans (congrArg some (by kernel_rfl))
 f308:=Try.func120.trans (congrArg some (by kernel_rfl))
 f309:=Try.func121.trans (congrArg some (by kernel_rfl))
 f310:=Try.func122.trans (congrArg some (by kernel_rfl))
 f329:=Try.func129.trans (congrArg some (by kernel_rfl))
 f330:=Try.func130.trans (congrArg some (by kernel_rfl))
 f333:=Try.func128.trans (congrArg some (by kernel_rfl))
 f334:=Try.func131.trans (congrArg some (by kernel_rfl))
 f335:=Try.func132.trans (congrArg some (by kernel_rfl))
 f336:=Try.func113.trans (congrArg some (by kernel_rfl))
 f344:=Try.func134.trans (congrArg some (by kernel_rfl))
 t0:=Try.underlying0
 a0:=Try.isAgg0
 z0:=Try.sizeOf0
 v0:=Try.zeroValue0
 t3:=Try.underlying3
 a3:=Try.isAgg3
 z3:=Try.sizeOf3
 v3:=Try.zeroValue3
 t4:=Try.underlying4
 a4:=Try.isAgg4
 z4:=Try.sizeOf4
 v4:=Try.zeroValue4
 t5:=Try.underlying5
 a5:=Try.isAgg5
 z5:=Try.sizeOf5
 v5:=Try.zeroValue5
 t9:=Try.underlying9
 a9:=Try.isAgg9
 z9:=Try.sizeOf9
 v9:=Try.zeroValue9
 t31:=Try.underlying54
 a31:=Try.isAgg54
 z31:=Try.sizeOf54
 v31:=Try.zeroValue54
 t46:=Try.underlying112
 a46:=Try.isAgg112
 z46:=Try.sizeOf112
 v46:=Try.zeroValue112
 t51:=Try.underlying163
 a51:=Try.isAgg163
 z51:=Try.sizeOf163
 v51:=Try.zeroValue163
 t53:=Try.underlying165
 a53:=Try.isAgg165
 z53:=Try.sizeOf165
 v53:=Try.zeroValue165
 t131:=Try.underlying160
 a131:=Try.isAgg160
 z131:=Try.sizeOf160
 v131:=Try.zeroValue160
 t182:=Try.underlying154
 a182:=Try.isAgg154
 z182:=Try.sizeOf154
 v182:=Try.zeroValue154
 t183:=Try.underlying155
 a183:=Try.isAgg155
 z183:=Try.sizeOf155
 v183:=Try.zeroValue155
 t218:=Try.underlying168
 a218:=Try.isAgg168
 z218:=Try.sizeOf168
 v218:=Try.zeroValue168
 t222:=Try.underlying171
 a222:=Try.isAgg171
 z222:=Try.sizeOf171
 v222:=Try.zeroValue171
 t228:=Try.underlying174
 a228:=Try.isAgg174
 z228:=Try.sizeOf174
 v228:=Try.zeroValue174
 t229:=Try.underlying175
 a229:=Try.isAgg175
 z229:=Try.sizeOf175
 v229:=Try.zeroValue175 }
open Go.Sort Go.RowKit in
theorem Try.slices_Sort_string (blk off cap : Nat) (ss : List (List UInt8)) (w : World) (hH : Holds encStr w blk off ss.toArray) (hblk : blk < w.heap.size) (hsz : ss.length < 4611686018427387904) :
  Calls Try.prog 85 #[.slice (some ⟨blk,off,none⟩) ss.length cap] w fun e w' =>
   e = .returned (.tuple #[]) ∧ ∃ n os,w' = grow (putRow encStr (Sort.ahead w n) blk off (ss.mergeSort fun x y=>decide (x ≤ y)).toArray) os:=Any.slices_Sort_string Try.lays190 blk off cap ss w hH hblk hsz
def Try.lays194_ren : Go.Shelf.Ren:=⟨fun | 194=>86 | n=>n,fun | 31=>54 | 9=>9 | 3=>3 | 4=>4 | 0=>0 | n=>n,fun | n=>n⟩
theorem Try.lays194 : Go.Proofs.Lays.n194 Try.prog Try.lays194_ren:={
 mixed:=by kernel_rfl
 f194:=Try.func86.trans (congrArg some (by kernel_rfl))
 t0:=Try.underlying0
 a0:=Try.isAgg0
 z0:=Try.sizeOf0
 v0:=Try.zeroValue0
 t3:=Try.underlying3
 a3:=Try.isAgg3
 z3:=Try.sizeOf3
 v3:=Try.zeroValue3
 t4:=Try.underlying4
 a4:=Try.isAgg4
 z4:=Try.sizeOf4
 v4:=Try.zeroValue4
 t9:=Try.underlying9
 a9:=Try.isAgg9
 z9:=Try.sizeOf9
 v9:=Try.zeroValue9
 t31:=Try.underlying54
 a31:=Try.isAgg54
 z31:=Try.sizeOf54
 v31:=Try.zeroValue54 }
open Go.RowKit Go.Lib Go.Sort in
theorem Try.slices_Compact_string (blk off cap : Nat) (zs : List (List UInt8)) (w : World) (hH : Holds encStr w blk off zs.toArray) (hsz : zs.length ≤ 9223372036854775807) (hcap : zs.length ≤ cap) :
  Calls Try.prog 86 #[.slice (some ⟨blk,off,none⟩) zs.length cap] w fun e w'=>e = .returned (.slice (some ⟨blk,off,none⟩) (Lib.compact zs).length cap) ∧ ∃ q,w' = putRow encStr (Sort.ahead w q) blk off (Lib.compact zs ++ List.replicate (zs.length - (Lib.compact zs).length) []).toArray:=Any.slices_Compact_string Try.lays194 blk off cap zs w hH hsz hcap
open Go.RowKit Go.Lib Go.Sort in
theorem Try.slices_Compact_string_empty (a : Option Addr) (cap : Nat) (w : World) :
  Calls Try.prog 86 #[.slice a 0 cap] w fun e w'=>e = .returned (.slice a 0 cap) ∧ w' = w:=Any.slices_Compact_string_empty Try.lays194 a cap w
open Go.RowKit Go.Sort in
theorem Try.slices_Sort_string_none (p : Option Addr) (cap : Nat) (w : World) :
  Calls Try.prog 85 #[.slice p 0 cap] w fun e w'=>e = .returned (.tuple #[]) ∧ w' = w:=Any.slices_Sort_string_none Try.lays190 p cap w
end Go.Proofs
namespace Go.Proofs.Ythfokpchdlcidaa
open Go Go.RowKit Go.Sort
theorem grow_below (w : World) (os : Array Obj) : Below w.heap.size w (grow w os):=⟨rfl,rfl,rfl,by simp,fun k hk=>by simp [grow,Array.getElem?_append_left hk]⟩
end Go.Proofs.Ythfokpchdlcidaa
namespace Go.Proofs.Ythfokpchdlcidaa
open Go Go.RowKit
theorem tkH {P : Program} {ops : Array Oper} {Q : Exit → Act → World → Prop} {md : Region.Mode} {S : World → Prop} (i : Nat) {oi : Oper} {v : Value} {fuel : Nat} {listed : Array Bool} {a : Act} {w : World}
  (hy : ∀ w,S w → (execOp a.eval oi).run P w = .ok (.value v) w) (h : wpAnyH P md ops Q S fuel (listed.setIfInBounds i true) (a.put oi.dst v) w)
  (hi : ops[i]? = some oi:=by exact rfl) (hs : Region.noSelect ops = true:=by kernel_rfl) (hf : Region.free md ops listed i = true:=by decide +kernel) (hr : (Region.ready md ops listed).contains i = true:=by decide +kernel)
  (hQ : ∀ c a w,Q (.panic c) (a.put oi.dst v) w → Q (.panic c) a w:=by exact fun _ _ _ h=>h) (hw : Region.wanted oi (yielded ops a.tmps) = true:=by kernel_rfl) (hS : S w:=by assumption) : wpAnyH P md ops Q S (fuel + 1) listed a w :=
 wpAnyH_take hi hs hf hr hQ (Or.inl ⟨hw,hy⟩) hS h
end Go.Proofs.Ythfokpchdlcidaa
namespace Go.Proofs.Ythfokpchdlcidaa
open Go Go.RowKit Go.Shelf
attribute [local go_sem] Oper.semAt_some
theorem OwnL.keeps {W W' : World} {B : Nat} {E : TypeId} {m : Nat} {v : Value} {rows : List (List Value)} (h : OwnL W B E m v rows) (hg : W.grownBy W' v.ownBlock) : KeepsOthers W W':=by
 refine KeepsOthers.of_grownBy hg fun j o e ho=>?_
 rcases h.own.2 with ⟨rfl,_⟩ | ⟨g,cap,cur,rfl,_,hh,_⟩
 ·cases e
 ·cases e
  rw [hh] at ho
  cases ho;rfl
end Go.Proofs.Ythfokpchdlcidaa
namespace Go.Proofs.Ythfokpchdlcidaa
open Go Go.RowKit Go.Sort
def firstNZ : List Int → Int
 | []=>0
 | z :: l=>if z = 0 then firstNZ l else z
def nzTo (zs : List Int) (k : Nat) : Prop:=firstNZ (zs.drop k) = firstNZ zs
theorem Or_any (A : Option Addr) (c : Nat) (zs : List Int) (w : World) (h : RowsAt w A 1 (intRows zs)) (hs : zs.length ≤ 1000000) :
  Calls Try.prog 104 #[.slice A zs.length c] w fun e w'=>e = .returned (.int .i64 (firstNZ zs)) ∧ w = w':=by
 have h':=Lib.hid h
 have h0 : Hid (nzTo zs 0):=rfl
 clear h
 go_enter Try.func104,Try.ntmps104
 go_wp2
 go_loop [8] (fun i=>∃ k : Nat,k ≤ zs.length ∧ i = .int .i64 k ∧ Hid (nzTo zs k)) (fun i=>zs.length - (intOf i).toNat)
 case atStart=>exact ⟨0,Nat.zero_le _,rfl,h0⟩
 case round =>
  obtain ⟨k,hk,rfl,hm⟩:=hrel
  clear h0
  by_cases hlt : k < zs.length
  ·obtain ⟨b,o,rfl,_,e1⟩:=intsI_at h'.out hlt
   have hd:=Lib.hid (List.drop_eq_getElem_cons hlt)
   have hnz:=Lib.hid (fun (h : zs[k] = 0)=>show nzTo zs (k + 1) from by have:=hm.out;unfold nzTo at this ⊢;rw [← this,hd.out,firstNZ,if_pos h])
   have hfz:=Lib.hid (fun (h : ¬ zs[k] = 0)=>show firstNZ zs = zs[k] from by have:=hm.out;unfold nzTo at this;rw [← this,hd.out,firstNZ,if_neg h])
   clear hd
   generalize zs[k] = z at *
   by_cases hz : z = 0
   ·have hnx : Hid (nzTo zs (k + 1)):=hnz.out hz
    clear hnz hfz
    subst hz
    go_wp2
    go_round
    case rel=>exact ⟨k + 1,by omega,by go_num,hnx⟩
    case measure=>simp [intOf];omega
   ·have hfin : Hid (firstNZ zs = z):=hfz.out hz
    have hz' : (z != 0) = true:=by simpa using hz
    clear hnz hfz hz
    go_wp2
    go_ret
    exact ⟨ret_int hfin.out.symm,rfl⟩
  ·obtain rfl : k = zs.length:=by omega
   have hfin : Hid (firstNZ zs = 0):=by have:=hm.out;unfold nzTo at this;rw [List.drop_length] at this;exact this.symm
   go_wp2
   go_ret
   exact ⟨ret_int hfin.out.symm,rfl⟩
theorem ints_new (w : World) (cs : Array Value) (t : TypeId) (zs : List Int) (hc : cs.toList = zs.map (Value.int .i64)) : RowsAt (w.alloc (.cells cs t)) (some ⟨w.heap.size,0,none⟩) 1 (intRows zs):=fun k r hr=>by
 have hk : k < zs.length:=by
  have:=(List.getElem?_eq_some_iff.1 hr).1
  rwa [intRows_length] at this
 have hrow : r = [.int .i64 zs[k]]:=by
  unfold intRows at hr
  rw [List.getElem?_map,List.getElem?_eq_getElem hk] at hr
  exact (Option.some.inj hr).symm
 subst hrow
 refine ⟨_,_,rfl,by simp,fun j v hv=>?_⟩
 match j,hv with
 | 0,hv =>
  cases hv
  rw [Nat.zero_add,cell_alloc_at,← Array.getElem?_toList,hc]
  simp [hk]
 | j + 1,hv=>simp at hv
end Go.Proofs.Ythfokpchdlcidaa
namespace Go.Proofs.Ythfokpchdlcidaa
open Go Go.RowKit
section
variable {P : Program} {ops : Array Oper} {Q : Exit → Act → World → Prop} {md : Region.Mode} {S : World → Prop} {y : Nat}
theorem ratZ (i : Nat) {o : Oper} {fuel : Nat} {listed : Array Bool} {a : Act} {w : World} (hr : Region.ready md ops listed = [i]) (ho : ops[i]? = some o)
  (h : ∀ K' : Act → World → Prop,Shut (∀ a w,S w → (S w → wpAnyHY P md ops Q S y fuel (listed.setIfInBounds i true) a w) → K' a w) → if Region.wanted o (yielded ops a.tmps) = true then Oper.wp P o a w K' Q else K' (a.put o.dst undef) w) :
  wpAnyHY P md ops Q S y (fuel + 1) listed a w:=by
 refine ⟨fun h0=>absurd (hr ▸ h0) (by simp),?_⟩
 rw [hr]
 intro j hj
 rcases List.mem_singleton.1 hj with rfl
 refine wpOp_step ho (fun K' hK=>?_)
 have:=h K' (fun a w hS hW=>hK a w ⟨fun _=>hS,hW hS⟩)
 split
 ·rename_i hw;rw [if_pos hw] at this;exact this
 ·rename_i hw;rw [if_neg hw] at this;exact this
end
end Go.Proofs.Ythfokpchdlcidaa
namespace Go.Proofs.Ythfokpchdlcidaa.Cal
open Go.Lib
theorem txt_lt_of {a b : Txt} (h1 : a ≤ b) (h2 : a ≠ b) : a < b:=by
 rcases Classical.em (a < b) with h | h
 ·exact h
 ·exact absurd (List.le_antisymm h1 (List.not_lt.1 h)) h2
theorem txt_up_ext : ∀ {xs ys : List Txt},xs.Pairwise (· < ·) → ys.Pairwise (· < ·) → (∀ d,d ∈ xs ↔ d ∈ ys) → xs = ys
 | [],[],_,_,_=>rfl
 | [],y :: ys,_,_,h=>absurd ((h y).2 (List.mem_cons_self ..)) (by simp)
 | x :: xs,[],_,_,h=>absurd ((h x).1 (List.mem_cons_self ..)) (by simp)
 | x :: xs,y :: ys,hx,hy,h=>by
  rw [List.pairwise_cons] at hx hy
  have e : x = y:=by
   rcases List.mem_cons.1 ((h x).1 (List.mem_cons_self ..)) with he | hm
   ·exact he
   ·rcases List.mem_cons.1 ((h y).2 (List.mem_cons_self ..)) with he | hm2
    ·exact he.symm
    ·exact absurd (List.lt_trans (hx.1 y hm2) (hy.1 x hm)) (List.lt_irrefl _)
  subst e
  congr 1
  refine txt_up_ext hx.2 hy.2 fun d=>⟨fun hd=>?_,fun hd=>?_⟩
  ·rcases List.mem_cons.1 ((h d).1 (List.mem_cons_of_mem _ hd)) with he | hm
   ·have:=hx.1 d hd;rw [he] at this;exact absurd this (List.lt_irrefl _)
   ·exact hm
  ·rcases List.mem_cons.1 ((h d).2 (List.mem_cons_of_mem _ hd)) with he | hm
   ·have:=hy.1 d hd;rw [he] at this;exact absurd this (List.lt_irrefl _)
   ·exact hm
theorem txt_compact_spec (d : Array Txt) (hs : ∀ i j,i ≤ j → j < d.size → d[i]! ≤ d[j]!) : ∀ m,m ≤ d.size →
  (compactUpTo d m).Pairwise (· < ·) ∧ ∀ x,x ∈ compactUpTo d m ↔ ∃ j,j < m ∧ d[j]! = x
 | 0,_=>⟨List.Pairwise.nil,fun x=>⟨fun h=>by simp [compactUpTo] at h,fun ⟨j,hj,_⟩=>by omega⟩⟩
 | m + 1,hm=>by
  obtain ⟨ih1,ih2⟩:=txt_compact_spec d hs m (by omega)
  rw [compactUpTo_succ]
  by_cases hk : keeps d m = true
  ·rw [if_pos hk]
   refine ⟨?_,fun x=>?_⟩
   ·rw [List.pairwise_append]
    refine ⟨ih1,List.pairwise_singleton ..,fun a ha b hb=>?_⟩
    obtain ⟨j,hj,rfl⟩:=(ih2 a).1 ha
    simp only [List.mem_singleton] at hb
    subst hb
    have hm0 : m ≠ 0:=by omega
    have hne : d[m]! ≠ d[m - 1]!:=by simpa [keeps,hm0] using hk
    have h1:=hs j (m - 1) (by omega) (by omega)
    have h2:=txt_lt_of (hs (m - 1) m (by omega) (by omega)) (Ne.symm hne)
    exact List.lt_of_le_of_lt h1 h2
   ·rw [List.mem_append,ih2,List.mem_singleton]
    constructor
    ·rintro (⟨j,hj,rfl⟩ | rfl)
     ·exact ⟨j,by omega,rfl⟩
     ·exact ⟨m,by omega,rfl⟩
    ·rintro ⟨j,hj,rfl⟩
     by_cases he : j = m
     ·right;rw [he]
     ·exact .inl ⟨j,by omega,rfl⟩
  ·rw [if_neg hk,List.append_nil]
   refine ⟨ih1,fun x=>?_⟩
   rw [ih2]
   constructor
   ·rintro ⟨j,hj,rfl⟩;exact ⟨j,by omega,rfl⟩
   ·rintro ⟨j,hj,rfl⟩
    by_cases he : j = m
    ·subst he
     have hk' : ¬ (j = 0 ∨ d[j]! ≠ d[j - 1]!):=by simpa [keeps] using hk
     refine ⟨j - 1,by omega,?_⟩
     have : ¬ d[j]! ≠ d[j - 1]!:=fun h=>hk' (.inr h)
     exact (Classical.not_not.1 this).symm
    ·exact ⟨j,by omega,rfl⟩
def tups (zs : List Txt) : List Txt:=compact (zs.mergeSort fun x y=>decide (x ≤ y))
theorem txt_sort_up (zs : List Txt) : (zs.mergeSort fun x y=>decide (x ≤ y)).Pairwise (· ≤ ·):=by
 have:=List.pairwise_mergeSort (le:=fun x y : Txt=>decide (x ≤ y)) (fun a b c=>by simp only [decide_eq_true_eq];exact List.le_trans) (fun a b=>by simp only [Bool.or_eq_true,decide_eq_true_eq];exact List.le_total a b) zs
 exact this.imp fun h=>by simpa using h
theorem tups_spec (zs : List Txt) : (tups zs).Pairwise (· < ·) ∧ ∀ d,d ∈ tups zs ↔ d ∈ zs:=by
 have hp:=txt_sort_up zs
 have hsize : (zs.mergeSort fun x y=>decide (x ≤ y)).toArray.size = (zs.mergeSort fun x y=>decide (x ≤ y)).length:=by simp
 obtain ⟨h1,h2⟩:=txt_compact_spec (zs.mergeSort fun x y=>decide (x ≤ y)).toArray (fun i j hij hj=>by
  rcases Nat.lt_or_eq_of_le hij with hlt | rfl
  ·have:=List.pairwise_iff_getElem.1 hp i j (by omega) (by omega) hlt
   rw [getElem!_pos _ i (by omega),getElem!_pos _ j (by omega)]
   simpa using this
  ·exact List.le_refl _) _ (Nat.le_of_eq hsize.symm)
 refine ⟨h1,fun d=>?_⟩
 unfold tups compact
 rw [h2]
 constructor
 ·rintro ⟨j,hj,rfl⟩
  rw [getElem!_pos _ j (by omega)]
  have : (zs.mergeSort fun x y=>decide (x ≤ y)).toArray[j]'(by omega) ∈ (zs.mergeSort fun x y=>decide (x ≤ y)):=by simp
  exact List.mem_mergeSort.1 this
 ·intro hd
  obtain ⟨j,hj,he⟩:=List.getElem_of_mem (List.mem_mergeSort.2 hd)
  refine ⟨j,hj,?_⟩
  rw [getElem!_pos _ j (by simpa using hj)]
  simpa using he
theorem tups_eq {zs ys : List Txt} (h : ys.Pairwise (· < ·)) (hm : ∀ d,d ∈ ys ↔ d ∈ zs) : tups zs = ys :=
 txt_up_ext (tups_spec zs).1 h fun d=>by rw [(tups_spec zs).2,hm]
theorem tups_nil : tups [] = []:=tups_eq List.Pairwise.nil fun _=>Iff.rfl
theorem tups_length (zs : List Txt) : (tups zs).length ≤ zs.length:=by
 have h : (zs.mergeSort fun x y=>decide (x ≤ y)).length = zs.length:=List.length_mergeSort zs
 unfold tups compact compactUpTo
 rw [List.length_map]
 exact Nat.le_trans (List.length_filter_le _ _) (by rw [List.length_range];omega)
theorem tins_up {xs : List Txt} {d : Txt} {q : Nat} (h : xs.Pairwise (· < ·)) (hd : d ∉ xs) (hq : q ≤ xs.length) (h1 : ∀ (j : Nat) z,q ≤ j → xs[j]? = some z → d < z) (h2 : ∀ z,0 < q → xs[q - 1]? = some z → z ≤ d) : (xs.take q ++ [d] ++ xs.drop q).Pairwise (· < ·):=by
 have hlow : ∀ a ∈ xs.take q,a < d:=fun a ha=>by
  obtain ⟨i,hi,rfl⟩:=List.getElem_of_mem ha
  rw [List.length_take] at hi
  rw [List.getElem_take]
  have hq1 : q - 1 < xs.length:=by omega
  have e2:=h2 _ (by omega) (List.getElem?_eq_getElem hq1)
  have hne : xs[q - 1] ≠ d:=fun e=>hd (e ▸ List.getElem_mem hq1)
  have e3:=txt_lt_of e2 hne
  rcases Nat.lt_or_eq_of_le (show i ≤ q - 1 by omega) with hlt | he
  ·exact List.lt_trans (List.pairwise_iff_getElem.1 h i (q - 1) (by omega) hq1 hlt) e3
  ·subst he;exact e3
 have hhigh : ∀ b ∈ xs.drop q,d < b:=fun b hb=>by
  obtain ⟨i,hi,rfl⟩:=List.getElem_of_mem hb
  rw [List.length_drop] at hi
  rw [List.getElem_drop]
  exact h1 (q + i) _ (by omega) (List.getElem?_eq_getElem (by omega))
 rw [List.pairwise_append,List.pairwise_append]
 refine ⟨⟨h.sublist (List.take_sublist _ _),List.pairwise_singleton ..,fun a ha b hb=>?_⟩,h.sublist (List.drop_sublist _ _),fun a ha b hb=>?_⟩
 ·rw [List.mem_singleton] at hb;subst hb;exact hlow a ha
 ·rcases List.mem_append.1 ha with ha | ha
  ·exact List.lt_trans (hlow a ha) (hhigh b hb)
  ·rw [List.mem_singleton] at ha;subst ha;exact hhigh b hb
theorem tins_mem {xs : List Txt} {d x : Txt} {q : Nat} : x ∈ xs.take q ++ [d] ++ xs.drop q ↔ x = d ∨ x ∈ xs:=by
 conv=>rhs;rw [← List.take_append_drop q xs]
 simp only [List.mem_append,List.mem_singleton]
 constructor
 ·rintro ((h | h) | h)
  ·exact .inr (.inl h)
  ·exact .inl h
  ·exact .inr (.inr h)
 ·rintro (h | h | h)
  ·exact .inl (.inr h)
  ·exact .inl (.inl h)
  ·exact .inr h
end Go.Proofs.Ythfokpchdlcidaa.Cal
namespace Go.Proofs.Ythfokpchdlcidaa
open Go Go.RowKit Go.Sort
theorem elemTxt : Elem Try.prog 54 9 1 16:=Elem.mk' Try.underlying54 (z:=.string ⟨#[]⟩) (by kernel_rfl) rfl (by decide)
theorem TextsL.own {w : World} {B : Nat} {v : Value} {zs : List Cal.Txt} (h : TextsL w B v zs) : w.ownsRow B 9 1 v zs.length (zs.map encStr):=by
 have:=OwnL.own h
 rwa [txtRows_length,txtRows_flat] at this
theorem TextsL.rows {w : World} {B : Nat} {v : Value} {zs : List Cal.Txt} (h : TextsL w B v zs) : ∃ A c,v = .slice A zs.length c ∧ RowsAt w A 1 (txtRows zs):=by
 obtain ⟨A,c,hv,hr⟩:=OwnL.form h
 exact ⟨A,c,by rw [hv,txtRows_length],hr⟩
theorem TextsL.block {w : World} {B g c : Nat} {zs : List Cal.Txt} {A : Option Addr} (h : TextsL w B (.slice A zs.length c) zs) (hA : A = some ⟨g,0,none⟩) :
  ∃ cur,w.heap[g]? = some (.cells cur 9 (0,0)) ∧ B ≤ g ∧ zs.length ≤ c ∧ c ≤ maxLen ∧ cur.size = c ∧ cur.toList.take zs.length = zs.map encStr:=by
 subst hA
 rcases h.own.2 with ⟨h1,_⟩ | ⟨g',cap,cur,hv,hb,hg,h1,h2,h3,h4⟩
 ·cases h1
 ·simp only [Value.slice.injEq,Option.some.injEq,Addr.mk.injEq,and_true,true_and] at hv
  obtain ⟨rfl,rfl⟩:=hv
  exact ⟨cur,hg,hb,h1,h2,by omega,by rwa [Nat.mul_one] at h4⟩
theorem putCells_takeT {cur : Array Value} {ys : List Cal.Txt} (h : ys.length ≤ cur.size) : (putCells encStr 0 ys.toArray cur).toList.take ys.length = ys.map encStr ∧ (putCells encStr 0 ys.toArray cur).size = cur.size:=by
 refine ⟨?_,by simp [putCells]⟩
 apply List.ext_getElem
 ·simp [putCells];omega
 ·intro i h1 h2
  have hi : i < ys.length:=by simpa using h2
  simp [putCells,hi]
theorem heap_putRow_sameT {w : World} {g : Nat} {cur : Array Value} {e : TypeId} {fr : Nat × Nat} {d : Array Cal.Txt} (h : w.heap[g]? = some (.cells cur e fr)) : (putRow encStr w g 0 d).heap[g]? = some (.cells (putCells encStr 0 d cur) e fr):=by
 simp [putRow,mapBlock,Array.getElem?_modify,h,onCells]
theorem heap_putRow_otherT {w : World} {g : Nat} {d : Array Cal.Txt} {k : Nat} (h : k ≠ g) : (putRow encStr w g 0 d).heap[k]? = w.heap[k]?:=by
 simp [putRow,mapBlock,Array.getElem?_modify,Ne.symm h]
theorem TextsL.put {w : World} {B g c : Nat} {zs ys : List Cal.Txt} (h : TextsL w B (.slice (some ⟨g,0,none⟩) zs.length c) zs) (hl : ys.length = zs.length) :
  TextsL (putRow encStr w g 0 ys.toArray) B (.slice (some ⟨g,0,none⟩) ys.length c) ys ∧ w.grownBy (putRow encStr w g 0 ys.toArray) (some g):=by
 obtain ⟨cur,hg,hb,h1,h2,h3,h4⟩:=h.block rfl
 obtain ⟨t1,t2⟩:=putCells_takeT (cur:=cur) (ys:=ys) (by omega)
 refine ⟨TextsL.of ⟨by simp,.inr ⟨g,c,_,rfl,hb,heap_putRow_sameT hg,by omega,h2,by rw [t2,h3];simp,by rw [Nat.mul_one];exact t1⟩⟩,rfl,rfl,rfl,by simp,fun k _ hk=>heap_putRow_otherT (fun e=>hk (by rw [e]))⟩
theorem TextsL.cut {w : World} {B g c : Nat} {xs ys : List Cal.Txt} (h : TextsL w B (.slice (some ⟨g,0,none⟩) (xs ++ ys).length c) (xs ++ ys)) : TextsL w B (.slice (some ⟨g,0,none⟩) xs.length c) xs:=by
 obtain ⟨cur,hg,hb,h1,h2,h3,h4⟩:=h.block rfl
 rw [List.length_append] at h1
 refine TextsL.of ⟨by simp,.inr ⟨g,c,cur,rfl,hb,hg,by omega,h2,by rw [h3];simp,?_⟩⟩
 rw [Nat.mul_one]
 have:=congrArg (List.take xs.length) h4
 rw [List.take_take,List.map_append,List.length_append,Nat.min_eq_left (by omega),List.take_left' (by simp)] at this
 exact this
theorem TextsL.holds {w : World} {B g c : Nat} {zs : List Cal.Txt} (h : TextsL w B (.slice (some ⟨g,0,none⟩) zs.length c) zs) : Holds encStr w g 0 zs.toArray:=fun j hj=>by
 obtain ⟨cur,hg,hb,h1,h2,h3,h4⟩:=h.block rfl
 have hj' : j < zs.length:=by simpa using hj
 constructor
 ·rw [cell_of_row w g (0 + j) cur _ (0,0) hg,Nat.zero_add]
  have:=congrArg (·[j]?) h4
  simp only [List.getElem?_take,hj',if_true,List.getElem?_map] at this
  rw [Array.getElem?_toList] at this
  rw [this]
  simp [hj']
 ·exact h.own.frozenAt (0 + j)
theorem TextsL.below {w w' : World} {B : Nat} {v : Value} {zs : List Cal.Txt} (h : TextsL w B v zs) (hb : Below w.heap.size w w') : TextsL w' B v zs:=OwnL.below h hb
def SortPostT (w : World) (B : Nat) (v : Value) (zs : List Cal.Txt) (e : Ending) (w' : World) : Prop:=e = .returned (.tuple #[]) ∧ TextsL w' B v (zs.mergeSort fun x y=>decide (x ≤ y)) ∧ w.grownBy w' v.ownBlock
theorem SortT_own (w : World) (B : Nat) (v : Value) (zs : List Cal.Txt) (h : TextsL w B v zs) (hs : zs.length ≤ 1000000) :
  Calls Try.prog 85 #[v] w (SortPostT w B v zs):=by
 obtain ⟨A,c,rfl,hr⟩:=h.rows
 by_cases hne : zs = []
 ·subst hne
  refine (Try.slices_Sort_string_none A c w).mono fun e w' ⟨he,hw⟩=>?_
  subst hw
  exact ⟨he,by simpa using h,World.grownBy.refl _ _⟩
 ·rcases h.own.2 with ⟨_,h0⟩ | ⟨g,cap,cur,hv,hb,hg,h1,h2,h3,h4⟩
  ·exact absurd (List.eq_nil_of_length_eq_zero h0) hne
  ·simp only [Value.slice.injEq,true_and] at hv
   obtain ⟨rfl,rfl⟩:=hv
   have hl : (zs.mergeSort fun x y=>decide (x ≤ y)).length = zs.length:=List.length_mergeSort zs
   refine (Try.slices_Sort_string g 0 c zs w h.holds (Array.getElem?_eq_some_iff.1 hg).1 (by omega)).mono fun e w' ⟨he,n,os,hw⟩=>?_
   subst hw
   have hA : TextsL (Sort.ahead w n) B (.slice (some ⟨g,0,none⟩) zs.length c) zs:=h.below ⟨rfl,rfl,rfl,Nat.le_refl _,fun _ _=>rfl⟩
   obtain ⟨p1,p2⟩:=hA.put hl
   have p3:=p1.below (grow_below _ os)
   rw [hl] at p3
   refine ⟨he,p3,⟨p2.os,p2.tape,p2.output,Nat.le_trans p2.size (grow_below _ os).size,fun k hk hne=>((grow_below _ os).block k (Nat.lt_of_lt_of_le hk p2.size)).trans (p2.block k hk hne)⟩⟩
def CompactPostT (w : World) (B : Nat) (v : Value) (zs : List Cal.Txt) (e : Ending) (w' : World) : Prop:=∃ v',e = .returned v' ∧ TextsL w' B v' (Lib.compact zs) ∧ w.grownBy w' v.ownBlock ∧ v'.ownBlock = v.ownBlock
theorem CompactT_own (w : World) (B : Nat) (v : Value) (zs : List Cal.Txt) (h : TextsL w B v zs) (hs : zs.length ≤ 1000000) :
  Calls Try.prog 86 #[v] w (CompactPostT w B v zs):=by
 obtain ⟨A,c,rfl,hr⟩:=h.rows
 by_cases hne : zs = []
 ·subst hne
  refine (Try.slices_Compact_string_empty A c w).mono fun e w' ⟨he,hw⟩=>?_
  subst hw
  exact ⟨_,he,h,World.grownBy.refl _ _,rfl⟩
 ·rcases h.own.2 with ⟨_,h0⟩ | ⟨g,cap,cur,hv,hb,hg,h1,h2,h3,h4⟩
  ·exact absurd (List.eq_nil_of_length_eq_zero h0) hne
  ·simp only [Value.slice.injEq,true_and] at hv
   obtain ⟨rfl,rfl⟩:=hv
   refine (Try.slices_Compact_string g 0 c zs w h.holds (by omega) h1).mono fun e w' ⟨he,n,hw⟩=>?_
   subst hw
   have hA : TextsL (Sort.ahead w n) B (.slice (some ⟨g,0,none⟩) zs.length c) zs:=h.below ⟨rfl,rfl,rfl,Nat.le_refl _,fun _ _=>rfl⟩
   have hcl:=Lib.compact_length_le zs
   have hl : (Lib.compact zs ++ List.replicate (zs.length - (Lib.compact zs).length) []).length = zs.length:=by simp;omega
   obtain ⟨p1,p2⟩:=hA.put hl
   exact ⟨_,he,p1.cut,⟨p2.os,p2.tape,p2.output,p2.size,p2.block⟩,rfl⟩
end Go.Proofs.Ythfokpchdlcidaa
namespace Go.Proofs.Ythfokpchdlcidaa
open Go Go.RowKit Go.Shelf
section
variable {w : World} {M : Nat} {l : List Pt}
theorem AtP.rows (h : AtP w M l) : RowsAt w (some ⟨M,0,none⟩) 2 (l.map ptR):=fun j r hr=>by
 rw [List.getElem?_map] at hr
 cases hq : l[j]? with
 | none=>rw [hq] at hr;cases hr
 | some q =>
  rw [hq] at hr
  cases hr
  have hj : j < l.length:=(List.getElem?_eq_some_iff.1 hq).1
  obtain ⟨c0,c1⟩:=h.at_ hj
  have hq' : ptAt l j = q:=by unfold ptAt;rw [hq];rfl
  rw [hq'] at c0 c1
  refine ⟨M,0,rfl,h.lt,fun i v hv=>?_⟩
  rw [Nat.zero_add]
  match i,hv with
  | 0,hv=>cases hv;exact c0
  | 1,hv=>cases hv;exact c1
end
end Go.Proofs.Ythfokpchdlcidaa
namespace Go.Proofs.Ythfokpchdlcidaa
open Go Go.RowKit Go.Shelf
theorem wpAnyH_hide {P : Program} {md : Region.Mode} {ops : Array Oper} {Q : Exit → Act → World → Prop} {S : World → Prop} {fuel : Nat} {listed : Array Bool} {a : Act} {w : World} (hp : ∀ c a (d : Nat) v w,Q (.panic c) (a.put (some d) v) w → Q (.panic c) a w)
  (h : ∀ Q0,(∀ c a (d : Nat) v w,Q0 (.panic c) (a.put (some d) v) w → Q0 (.panic c) a w) → Hid (Q0 = Q) → wpAnyH P md ops Q0 S fuel listed a w) : wpAnyH P md ops Q S fuel listed a w:=h Q hp rfl
theorem tkQ {P : Program} {ops : Array Oper} {Q : Exit → Act → World → Prop} {md : Region.Mode} {S : World → Prop} (i : Nat) (d : Nat) (hp : ∀ c a (d : Nat) v w,Q (.panic c) (a.put (some d) v) w → Q (.panic c) a w) {oi : Oper} {v : Value} {fuel : Nat} {listed : Array Bool} {a : Act} {w : World}
  (hy : ∀ w,S w → (execOp a.eval oi).run P w = .ok (.value v) w) (h : wpAnyH P md ops Q S fuel (listed.setIfInBounds i true) (a.put (some d) v) w)
  (hi : ops[i]? = some oi:=by exact rfl) (hdd : oi.dst = some d:=by kernel_rfl) (hs : Region.noSelect ops = true:=by kernel_rfl) (hf : Region.free md ops listed i = true:=by decide +kernel) (hr : (Region.ready md ops listed).contains i = true:=by decide +kernel)
  (hw : Region.wanted oi (yielded ops a.tmps) = true:=by kernel_rfl) (hS : S w:=by assumption) : wpAnyH P md ops Q S (fuel + 1) listed a w :=
 tkH2 i d hy h hi hdd hs hf hr (fun c _ w h=>by rw [hdd] at h;exact hp c _ d v w h) hw hS
theorem tkQx {P : Program} {ops : Array Oper} {Q : Exit → Act → World → Prop} {md : Region.Mode} {S : World → Prop} (i : Nat) (d : Nat) (hp : ∀ c a (d : Nat) v w,Q (.panic c) (a.put (some d) v) w → Q (.panic c) a w) {oi : Oper} {v : Value} {fuel : Nat} {listed l' : Array Bool} {a a' : Act} {w : World}
  (h : wpAnyH P md ops Q S fuel l' a' w) (hi : ops[i]? = some oi:=by exact rfl)
  (hy : ∀ w,S w → (execOp a.eval oi).run P w = .ok (.value v) w:=by (intro w' hSw;replace hSw:=hSw.cs;(try simp only [cs_iff_cons] at hSw);go_simp;(try with_reducible rfl)))
  (ha : a.put (some d) v = a':=by ((try simp only [Act.put,List.setIfInBounds_toArray,List.set_cons_zero,List.set_cons_succ]);exact rfl))
  (hl : listed.setIfInBounds i true = l':=by ((try simp only [List.setIfInBounds_toArray,List.set_cons_zero,List.set_cons_succ]);exact rfl))
  (hdd : oi.dst = some d:=by kernel_rfl) (hs : Region.noSelect ops = true:=by kernel_rfl) (hf : Region.free md ops listed i = true:=by decide +kernel) (hr : (Region.ready md ops listed).contains i = true:=by decide +kernel)
  (hw : Region.wanted oi (yielded ops a.tmps) = true:=by kernel_rfl) (hS : S w:=by assumption) : wpAnyH P md ops Q S (fuel + 1) listed a w :=
 tkQ i d hp hy (by rw [ha,hl];exact h) hi hdd hs hf hr hw hS
end Go.Proofs.Ythfokpchdlcidaa
namespace Go.Proofs.Ythfokpchdlcidaa
structure Rn where
 old : Cal.Txt
 new : Cal.Txt
namespace Cal
def rlt (a b : Rn) : Prop:=a.old < b.old ∨ (a.old = b.old ∧ a.new < b.new)
instance (a b : Rn) : Decidable (rlt a b):=by unfold rlt;infer_instance
theorem rlt_trans {a b c : Rn} (h1 : rlt a b) (h2 : rlt b c) : rlt a c:=by
 unfold rlt at *
 rcases h1 with h1 | ⟨e1,h1⟩
 ·rcases h2 with h2 | ⟨e2,h2⟩
  ·exact .inl (List.lt_trans h1 h2)
  ·exact .inl (by rw [← e2];exact h1)
 ·rcases h2 with h2 | ⟨e2,h2⟩
  ·exact .inl (by rw [e1];exact h2)
  ·exact .inr ⟨e1.trans e2,List.lt_trans h1 h2⟩
theorem txt_tri (a b : Txt) : a < b ∨ a = b ∨ b < a:=by
 rcases Classical.em (a < b) with h | h
 ·exact .inl h
 ·by_cases e : a = b
  ·exact .inr (.inl e)
  ·exact .inr (.inr (txt_lt_of (List.not_lt.1 h) (fun x=>e x.symm)))
end Cal
end Go.Proofs.Ythfokpchdlcidaa
namespace Go.Proofs.Ythfokpchdlcidaa
def nmT (t : Cal.Txt) : Bool:=nameB ⟨t.toArray⟩
theorem nmT_of {a : ByteArray} : nmT a.toList = nameB a:=by
 unfold nmT
 rw [ByteArray.toList_eq]
namespace Cal
def folB : Option Rn → Rn → Bool
 | none,_=>true
 | some y,x=>decide (rlt y x)
def numF : Option Rn → List Rn → Int
 | _,[]=>0
 | p,x :: r=>if nmT x.old && nmT x.new then (if folB p x then numF (some x) r else 9) else 4
def numE (l : List Rn) : Int:=if 200 < l.length then 8 else numF none l
theorem numF_cons (p : Option Rn) (x : Rn) (r : List Rn) : numF p (x :: r) = if nmT x.old && nmT x.new then (if folB p x then numF (some x) r else 9) else 4:=rfl
theorem numF_zero : ∀ {l : List Rn} {p : Option Rn},numF p l = 0 ↔ (∀ x ∈ l,nmT x.old = true ∧ nmT x.new = true) ∧ l.Pairwise rlt ∧ (∀ y x,p = some y → l.head? = some x → rlt y x)
 | [],p=>by simp [numF]
 | x :: r,p=>by
  rw [numF_cons]
  constructor
  ·intro h
   split at h
   ·rename_i h1
    rw [Bool.and_eq_true] at h1
    split at h
    ·rename_i h2
     obtain ⟨g1,g2,g3⟩:=numF_zero.1 h
     refine ⟨fun y hy=>?_,?_,fun y z hy hz=>?_⟩
     ·rcases List.mem_cons.1 hy with rfl | hy
      ·exact h1
      ·exact g1 y hy
     ·rw [List.pairwise_cons]
      refine ⟨fun y hy=>?_,g2⟩
      cases r with
      | nil=>cases hy
      | cons a r =>
       have ha:=g3 x a rfl rfl
       rcases List.mem_cons.1 hy with rfl | hy
       ·exact ha
       ·exact rlt_trans ha ((List.pairwise_cons.1 g2).1 y hy)
     ·subst hy
      cases hz
      unfold folB at h2
      simpa using h2
    ·cases h
   ·cases h
  ·rintro ⟨h1,h2,h3⟩
   have hx:=h1 x (List.mem_cons_self ..)
   rw [List.pairwise_cons] at h2
   rw [if_pos (by rw [hx.1,hx.2];rfl),if_pos]
   ·exact numF_zero.2 ⟨fun y hy=>h1 y (List.mem_cons_of_mem _ hy),h2.2,fun y z hy hz=>by
     cases hy
     cases r with
     | nil=>cases hz
     | cons a r=>cases hz;exact h2.1 z (List.mem_cons_self ..)⟩
   ·cases p with
    | none=>rfl
    | some y=>unfold folB;exact decide_eq_true (h3 y x rfl rfl)
theorem numE_zero {l : List Rn} : numE l = 0 ↔ l.length ≤ 200 ∧ (∀ x ∈ l,nmT x.old = true ∧ nmT x.new = true) ∧ l.Pairwise rlt:=by
 unfold numE
 split
 ·constructor
  ·intro h;cases h
  ·rintro ⟨h,_⟩;omega
 ·rw [numF_zero]
  constructor
  ·rintro ⟨h1,h2,_⟩;exact ⟨by omega,h1,h2⟩
  ·rintro ⟨_,h1,h2⟩;exact ⟨h1,h2,fun y x h=>by cases h⟩
def befR (l : List Rn) (k : Nat) : Option Rn:=if k = 0 then none else l[k - 1]?
theorem befR_succ {l : List Rn} {k : Nat} : befR l (k + 1) = l[k]?:=by unfold befR;rw [if_neg (by omega),Nat.add_sub_cancel]
def newsOf (l : List Rn) (x : Txt) : List Txt:=(l.filter fun r=>r.old == x).map Rn.new
theorem newsOf_append (l : List Rn) (r : Rn) (x : Txt) : newsOf (l ++ [r]) x = newsOf l x ++ if r.old = x then [r.new] else []:=by
 unfold newsOf
 rw [List.filter_append,List.map_append]
 by_cases h : r.old = x
 ·simp [h]
 ·simp [h]
theorem newsOf_len (l : List Rn) (x : Txt) : (newsOf l x).length ≤ l.length:=by
 unfold newsOf
 rw [List.length_map]
 exact List.length_filter_le _ _
def knownT (l : List Rn) (x : Txt) : Bool:=l.any fun r=>r.old == x
theorem knownT_news {l : List Rn} {x : Txt} : knownT l x = true ↔ newsOf l x ≠ []:=by
 unfold knownT newsOf
 rw [List.any_eq_true]
 constructor
 ·rintro ⟨r,hr,h⟩ he
  have : r ∈ l.filter fun r=>r.old == x:=List.mem_filter.2 ⟨hr,h⟩
  rw [List.map_eq_nil_iff] at he
  rw [he] at this
  cases this
 ·intro h
  cases hf : l.filter fun r=>r.old == x with
  | nil=>rw [hf] at h;exact absurd rfl h
  | cons r t =>
   have : r ∈ l.filter fun r=>r.old == x:=by rw [hf];exact List.mem_cons_self ..
   obtain ⟨h1,h2⟩:=List.mem_filter.1 this
   exact ⟨r,h1,h2⟩
def imgF (l : List Rn) : List Txt → Int
 | []=>0
 | x :: r=>if nmT x then (if knownT l x then imgF l r else 6) else 4
theorem imgF_cons (l : List Rn) (x : Txt) (r : List Txt) : imgF l (x :: r) = if nmT x then (if knownT l x then imgF l r else 6) else 4:=rfl
def imgE (l : List Rn) (names : List Txt) : Int:=if numE l = 0 then (if 200 < names.length then 8 else imgF l names) else numE l
def imgL (l : List Rn) (names : List Txt) : List Txt:=names.flatMap (newsOf l)
theorem imgL_append (l : List Rn) (a : List Txt) (x : Txt) : imgL l (a ++ [x]) = imgL l a ++ newsOf l x:=by unfold imgL;simp
theorem imgL_len (l : List Rn) : ∀ a : List Txt,(imgL l a).length ≤ a.length * l.length
 | []=>by simp [imgL]
 | x :: r=>by
  have ih:=imgL_len l r
  have:=newsOf_len l x
  have e : imgL l (x :: r) = newsOf l x ++ imgL l r:=by unfold imgL;simp
  rw [e,List.length_append,List.length_cons,Nat.succ_mul]
  omega
def imgR (l : List Rn) (names : List Txt) : List Txt:=if imgE l names = 0 then tups (imgL l names) else []
theorem tups_snoc_in {zs : List Txt} {s : Txt} (h : zs.Pairwise (· < ·)) (hs : s ∈ zs) : tups (zs ++ [s]) = zs :=
 tups_eq h fun d=>by
  rw [List.mem_append,List.mem_singleton]
  constructor
  ·exact .inl
  ·rintro (h | rfl)
   ·exact h
   ·exact hs
theorem tups_snoc {zs : List Txt} {s : Txt} {q : Nat} (h : zs.Pairwise (· < ·)) (hs : s ∉ zs) (hq : q ≤ zs.length) (h1 : ∀ (j : Nat) z,q ≤ j → zs[j]? = some z → s < z) (h2 : ∀ z,0 < q → zs[q - 1]? = some z → z ≤ s) : tups (zs ++ [s]) = zs.take q ++ [s] ++ zs.drop q :=
 tups_eq (tins_up h hs hq h1 h2) fun d=>by
  rw [tins_mem,List.mem_append,List.mem_singleton]
  exact ⟨fun h=>h.symm,fun h=>h.symm⟩
theorem not_in_at {zs : List Txt} {s : Txt} {q : Nat} (h : zs.Pairwise (· < ·)) (hq : q ≤ zs.length) (h1 : ∀ (j : Nat) z,q ≤ j → zs[j]? = some z → s < z) (h2 : ∀ z,0 < q → zs[q - 1]? = some z → z ≤ s ∧ z ≠ s) : s ∉ zs:=fun hm=>by
 obtain ⟨i,hi,he⟩:=List.getElem_of_mem hm
 rcases Nat.lt_or_ge i q with hlt | hge
 ·have hq1 : q - 1 < zs.length:=by omega
  obtain ⟨e1,e2⟩:=h2 _ (by omega) (List.getElem?_eq_getElem hq1)
  have e3:=txt_lt_of e1 e2
  rcases Nat.lt_or_eq_of_le (show i ≤ q - 1 by omega) with hl | he2
  ·have:=List.pairwise_iff_getElem.1 h i (q - 1) hi hq1 hl
   rw [he] at this
   exact absurd (List.lt_trans this e3) (List.lt_irrefl _)
  ·subst he2;exact e2 he
 ·have:=h1 i s hge (by rw [List.getElem?_eq_getElem hi,he])
  exact absurd this (List.lt_irrefl _)
theorem tups_again (zs : List Txt) (s : Txt) : tups (tups zs ++ [s]) = tups (zs ++ [s]) :=
 tups_eq (tups_spec (zs ++ [s])).1 fun d=>by rw [(tups_spec (zs ++ [s])).2,List.mem_append,List.mem_append,(tups_spec zs).2]
end Cal
end Go.Proofs.Ythfokpchdlcidaa
namespace Go.Proofs.Ythfokpchdlcidaa
open Go Go.RowKit Go.Sort
def cmpT (a b : Cal.Txt) : Int:=if a < b then -1 else if b < a then 1 else 0
theorem cmpT_neg {a b : Cal.Txt} : cmpT a b < 0 ↔ a < b:=by
 unfold cmpT
 split
 ·rename_i h;simp [h]
 ·rename_i h
  split <;> simp [h]
theorem cmpT_zero {a b : Cal.Txt} : cmpT a b = 0 ↔ a = b:=by
 unfold cmpT
 split
 ·rename_i h
  constructor
  ·intro e;omega
  ·intro e;subst e;exact absurd h (List.lt_irrefl _)
 ·rename_i h
  split
  ·rename_i h2
   constructor
   ·intro e;omega
   ·intro e;subst e;exact absurd h2 (List.lt_irrefl _)
  ·rename_i h2
   constructor
   ·intro _
    rcases Cal.txt_tri a b with h3 | h3 | h3
    ·exact absurd h3 h
    ·exact h3
    ·exact absurd h3 h2
   ·intro _;rfl
theorem NaNS_any (a : ByteArray) (w : World) : Calls Try.prog 113 #[.string a] w fun e w'=>e = .returned (.bool false) ∧ w = w':=by
 go_enter Try.func113,Try.ntmps113
 go_wp2_with fail
 go_ret
 exact ⟨by first | rfl | simp,rfl⟩
theorem cmpS_any (a b : ByteArray) (w : World) : Calls Try.prog 105 #[.string a,.string b] w fun e w'=>e = .returned (.int .i64 (cmpT a.toList b.toList)) ∧ w = w':=by
 have hR : Hid (cmpT a.toList b.toList = if Op.bytesLess a.toList b.toList = true then -1 else if (a.toList == b.toList) = true then 0 else 1):=by
  show _ = _
  unfold cmpT
  rw [bytesLess_eq]
  simp only [decide_eq_true_eq,beq_iff_eq]
  by_cases h : a.toList < b.toList
  ·rw [if_pos h,if_pos h]
  ·rw [if_neg h,if_neg h]
   by_cases h2 : a.toList = b.toList
   ·rw [if_pos h2,if_neg (by rw [h2];exact List.lt_irrefl _)]
   ·rw [if_neg h2,if_pos]
    rcases Cal.txt_tri a.toList b.toList with h3 | h3 | h3
    ·exact absurd h3 h
    ·exact absurd h3 h2
    ·exact h3
 rw [hR.out]
 clear hR
 cases h1 : Op.bytesLess a.toList b.toList
 ·cases h2 : (a.toList == b.toList)
  ·go_enter Try.func105,Try.ntmps105
   go_wp2_with (go_at_call 113;refine (NaNS_any _ _).mono ?_;rintro e w1 ⟨rfl,rfl⟩)
   go_ret
   exact ⟨rfl,rfl⟩
  ·go_enter Try.func105,Try.ntmps105
   go_wp2_with (go_at_call 113;refine (NaNS_any _ _).mono ?_;rintro e w1 ⟨rfl,rfl⟩)
   go_ret
   exact ⟨rfl,rfl⟩
 ·go_enter Try.func105,Try.ntmps105
  go_wp2_with (go_at_call 113;refine (NaNS_any _ _).mono ?_;rintro e w1 ⟨rfl,rfl⟩)
  go_ret
  exact ⟨rfl,rfl⟩
theorem neg_two {a b : Int} : firstNZ [a,b] < 0 ↔ a < 0 ∨ (a = 0 ∧ b < 0):=by
 simp only [firstNZ]
 split
 ·split <;> omega
 ·omega
def rnCf (x y : Rn) : Int:=firstNZ [cmpT x.old y.old,cmpT x.new y.new]
theorem rnCf_neg {x y : Rn} : rnCf x y < 0 ↔ Cal.rlt x y:=by
 unfold rnCf
 rw [neg_two,cmpT_neg,cmpT_zero,cmpT_neg]
 rfl
theorem compare_any (a b c d : ByteArray) (w : World) : Calls Try.prog 84 #[.agg #[.string a,.string b],.agg #[.string c,.string d]] w fun e w'=>e = .returned (.int .i64 (rnCf ⟨a.toList,b.toList⟩ ⟨c.toList,d.toList⟩)) ∧ ∃ q os,w' = grow (w.drewN q) os:=by
 have hS : (fun w'=>(w'.cell? ⟨w.heap.size,0,none⟩ = some (.string a) ∧ w'.cell? ⟨w.heap.size,1,none⟩ = some (.string b)) ∧ w'.cell? ⟨w.heap.size + 1,0,none⟩ = some (.string c) ∧ w'.cell? ⟨w.heap.size + 1,1,none⟩ = some (.string d)) ((w.alloc (.cells #[.string a,.string b] 100)).alloc (.cells #[.string c,.string d] 100)):=by simp
 have hS2 : ∀ o : Obj,(fun w'=>(w'.cell? ⟨w.heap.size,0,none⟩ = some (.string a) ∧ w'.cell? ⟨w.heap.size,1,none⟩ = some (.string b)) ∧ w'.cell? ⟨w.heap.size + 1,0,none⟩ = some (.string c) ∧ w'.cell? ⟨w.heap.size + 1,1,none⟩ = some (.string d)) (((w.alloc (.cells #[.string a,.string b] 100)).alloc (.cells #[.string c,.string d] 100)).alloc o):=fun o=>by
  have hb:=below_alloc ((w.alloc (.cells #[.string a,.string b] 100)).alloc (.cells #[.string c,.string d] 100)) o
  have k1 : w.heap.size < ((w.alloc (.cells #[.string a,.string b] 100)).alloc (.cells #[.string c,.string d] 100)).heap.size:=by simp;omega
  have k2 : w.heap.size + 1 < ((w.alloc (.cells #[.string a,.string b] 100)).alloc (.cells #[.string c,.string d] 100)).heap.size:=by simp
  exact ⟨⟨(hb.cell (p:=⟨w.heap.size,0,none⟩) k1).trans hS.1.1,(hb.cell (p:=⟨w.heap.size,1,none⟩) k1).trans hS.1.2⟩,(hb.cell (p:=⟨w.heap.size + 1,0,none⟩) k2).trans hS.2.1,(hb.cell (p:=⟨w.heap.size + 1,1,none⟩) k2).trans hS.2.2⟩
 have hS2:=Lib.hid hS2
 go_enter Try.func84,Try.ntmps84
 go_wp2_with fail
 refine wp_region_held_drew (S:=(fun w'=>(w'.cell? ⟨w.heap.size,0,none⟩ = some (.string a) ∧ w'.cell? ⟨w.heap.size,1,none⟩ = some (.string b)) ∧ w'.cell? ⟨w.heap.size + 1,0,none⟩ = some (.string c) ∧ w'.cell? ⟨w.heap.size + 1,1,none⟩ = some (.string d))) (by kernel_rfl) hS (fun hHeld=>?_)
 have hS:=Lib.hid hS
 (refine tkH 0 (v:=?_) ?_ ?_;rotate_left;focus (intro w' hSw;(try dsimp only at hSw);go_simp;(try with_reducible rfl));(try simp only [Act.put,List.setIfInBounds_toArray,List.set_cons_zero,List.set_cons_succ]))
 (refine tkH 1 (v:=?_) ?_ ?_;rotate_left;focus (intro w' hSw;(try dsimp only at hSw);go_simp;(try with_reducible rfl));(try simp only [Act.put,List.setIfInBounds_toArray,List.set_cons_zero,List.set_cons_succ]))
 (refine tkH 2 (v:=?_) ?_ ?_;rotate_left;focus (intro w' hSw;(try dsimp only at hSw);go_simp;(try with_reducible rfl));(try simp only [Act.put,List.setIfInBounds_toArray,List.set_cons_zero,List.set_cons_succ]))
 (refine tkH 3 (v:=?_) ?_ ?_;rotate_left;focus (intro w' hSw;(try dsimp only at hSw);go_simp;(try with_reducible rfl));(try simp only [Act.put,List.setIfInBounds_toArray,List.set_cons_zero,List.set_cons_succ]))
 (refine tkH 5 (v:=?_) ?_ ?_;rotate_left;focus (intro w' hSw;(try dsimp only at hSw);go_simp;(try with_reducible rfl));(try simp only [Act.put,List.setIfInBounds_toArray,List.set_cons_zero,List.set_cons_succ]))
 (refine tkH 6 (v:=?_) ?_ ?_;rotate_left;focus (intro w' hSw;(try dsimp only at hSw);go_simp;(try with_reducible rfl));(try simp only [Act.put,List.setIfInBounds_toArray,List.set_cons_zero,List.set_cons_succ]))
 (refine tkH 7 (v:=?_) ?_ ?_;rotate_left;focus (intro w' hSw;(try dsimp only at hSw);go_simp;(try with_reducible rfl));(try simp only [Act.put,List.setIfInBounds_toArray,List.set_cons_zero,List.set_cons_succ]))
 (refine tkH 8 (v:=?_) ?_ ?_;rotate_left;focus (intro w' hSw;(try dsimp only at hSw);go_simp;(try with_reducible rfl));(try simp only [Act.put,List.setIfInBounds_toArray,List.set_cons_zero,List.set_cons_succ]))
 (refine ratHx 4 (fun K hK=>?_);go_simp)
 (refine (cmpS_any _ _ _).mono ?_;rintro e w' ⟨rfl,rfl⟩;go_simp;(refine hK.out _ _ hS.out (fun hHeld=>?_);clear hK K;(try simp only [Act.put]);(try simp only [List.setIfInBounds_toArray]);(try simp only [List.set_cons_zero,List.set_cons_succ])))
 (refine ratHx 9 (fun K hK=>?_);go_simp)
 (refine (cmpS_any _ _ _).mono ?_;rintro e w' ⟨rfl,rfl⟩;go_simp;(refine hK.out _ _ hS.out (fun hHeld=>?_);clear hK K;(try simp only [Act.put]);(try simp only [List.setIfInBounds_toArray]);(try simp only [List.set_cons_zero,List.set_cons_succ])))
 (refine ratHx 10 (fun K hK=>?_);go_simp)
 (refine hK.out _ _ (hS2.out _) (fun hHeld=>?_);clear hK K;(try simp only [Act.put]);(try simp only [List.setIfInBounds_toArray]);(try simp only [List.set_cons_zero,List.set_cons_succ]))
 (refine ratHx 11 (fun K hK=>?_);go_simp)
 refine (Or_any (some ⟨w.heap.size + 1 + 1,0,none⟩) 2 [cmpT a.toList c.toList,cmpT b.toList d.toList] (((w.alloc (.cells #[.string a,.string b] 100)).alloc (.cells #[.string c,.string d] 100)).alloc (.cells #[.int .i64 (cmpT a.toList c.toList),.int .i64 (cmpT b.toList d.toList)] 3)).drew (by have h:=ints_new ((w.alloc (.cells #[.string a,.string b] 100)).alloc (.cells #[.string c,.string d] 100)) #[.int .i64 (cmpT a.toList c.toList),.int .i64 (cmpT b.toList d.toList)] 3 [cmpT a.toList c.toList,cmpT b.toList d.toList] rfl;simp only [World.size_alloc] at h;exact h) (show 2 ≤ 1000000 by decide)).mono ?_
 rintro e w' ⟨rfl,rfl⟩
 go_simp
 (refine hK.out _ _ (hS2.out _) (fun hHeld=>?_);clear hK K;(try simp only [Act.put]);(try simp only [List.setIfInBounds_toArray]);(try simp only [List.set_cons_zero,List.set_cons_succ]))
 (refine ratHx 12 (fun K hK=>?_);go_simp)
 (refine hK.out _ _ (hS2.out _) (fun hHeld=>?_);clear hK K;(try simp only [Act.put]);(try simp only [List.setIfInBounds_toArray]);(try simp only [List.set_cons_zero,List.set_cons_succ]))
 refine wpAnyH_done (by kernel_rfl) ?_ _
 go_wp2_with fail
 go_ret
 refine ⟨rfl,1,#[(.cells #[.string a,.string b] 100),(.cells #[.string c,.string d] 100),.cells #[.int .i64 (cmpT a.toList c.toList),.int .i64 (cmpT b.toList d.toList)] 3],?_⟩
 show ((w.drew.alloc (.cells #[.string a,.string b] 100)).alloc (.cells #[.string c,.string d] 100)).alloc (.cells #[.int .i64 (cmpT a.toList c.toList),.int .i64 (cmpT b.toList d.toList)] 3) = _
 rw [alloc_eq_grow,alloc_eq_grow,alloc_eq_grow,grow_grow,grow_grow]
 rfl
theorem compareB_any (a b c d : ByteArray) (w : World) : Calls Try.prog 84 #[.agg #[.string a,.string b],.agg #[.string c,.string d]] w fun e w'=>e = .returned (.int .i64 (rnCf ⟨a.toList,b.toList⟩ ⟨c.toList,d.toList⟩)) ∧ Below w.heap.size w w':=by
 refine (compare_any a b c d w).mono ?_
 rintro e w' ⟨rfl,q,os,rfl⟩
 exact ⟨rfl,below_of_drewN (n:=q) (grow_below _ os)⟩
def rnR (x : Rn) : List Value:=[encStr x.old,encStr x.new]
structure Rns (w : World) (A : Option Addr) (l : List Rn) : Prop where
 rows : RowsAt w A 2 (l.map rnR)
 size : l.length ≤ 1000000
 len : ∀ x ∈ l,x.old.length ≤ maxLen ∧ x.new.length ≤ maxLen
theorem Rns.below {w w' : World} {A : Option Addr} {l : List Rn} (h : Rns w A l) (hb : Below w.heap.size w w') : Rns w' A l:=⟨h.rows.below hb,h.size,h.len⟩
theorem rn_at {w : World} {A : Option Addr} {l : List Rn} (h : RowsAt w A 2 (l.map rnR)) {k : Nat} {x : Rn} (hk : l[k]? = some x) :
  ∃ b o,A = some ⟨b,o,none⟩ ∧ b < w.heap.size ∧ ∃ ao an : ByteArray,ao.toList = x.old ∧ an.toList = x.new ∧ w.cell? ⟨b,o + k * 2,none⟩ = some (.string ao) ∧ w.cell? ⟨b,o + k * 2 + 1,none⟩ = some (.string an):=by
 obtain ⟨b,o,hA,hb,hc⟩:=h k (rnR x) (by rw [List.getElem?_map,hk];rfl)
 exact ⟨b,o,hA,hb,⟨x.old.toArray⟩,⟨x.new.toArray⟩,by rw [ByteArray.toList_eq],by rw [ByteArray.toList_eq],hc 0 _ rfl,hc 1 _ rfl⟩
theorem size_len {a : ByteArray} {t : Cal.Txt} (h : a.toList = t) : a.size = t.length:=by
 rw [← h,ByteArray.toList_eq]
 rfl
structure RbI (w : World) (B : Nat) (a b : ByteArray) (W : World) : Prop where
 bx : BoxAt W B [.string a,.string b]
 bel : Below w.heap.size w W
theorem RbI.below {w : World} {B : Nat} {a b : ByteArray} {X Y : World} (h : RbI w B a b X) (hb : Below X.heap.size X Y) : RbI w B a b Y:=⟨h.bx.below hb,below_step h.bel hb⟩
theorem CheckNumbers_any (A : Option Addr) (c : Nat) (l : List Rn) (w : World) (hl : Rns w A l) :
  Calls Try.prog 53 #[.slice A l.length c] w fun e w'=>e = .returned (.int .i64 (Cal.numE l)) ∧ Below w.heap.size w w':=by
 have hb0 : Hid (Below w.heap.size w w):=Below.refl _ _
 by_cases hbig : 200 < l.length
 ·have hR : Cal.numE l = 8:=by unfold Cal.numE;rw [if_pos hbig]
  have hbi : 200 < (l.length : Int):=by omega
  rw [hR]
  clear hR hl
  go_enter Try.func53,Try.ntmps53
  go_wp2_with fail
  go_ret
  exact ⟨rfl,hb0.out⟩
 ·obtain ⟨R,hRR⟩ : ∃ R,Cal.numE l = R:=⟨_,rfl⟩
  have hbi : ¬ 200 < (l.length : Int):=by omega
  have hR : Hid (R = Cal.numF (Cal.befR l 0) (l.drop 0)):=by
   show _ = _
   rw [← hRR]
   unfold Cal.numE Cal.befR
   rw [if_neg hbig]
   rfl
  rw [hRR]
  clear hRR
  replace hl:=Lib.hid hl
  go_enter Try.func53,Try.ntmps53
  go_wp2_with fail
  go_loopw [10] (fun i wr=>∃ k : Nat,k ≤ l.length ∧ i = .int .i64 k ∧ Hid (R = Cal.numF (Cal.befR l k) (l.drop k)) ∧ Hid (Below w.heap.size w wr)) (fun i _=>l.length - (intOf i).toNat)
  case atStart=>exact ⟨0,Nat.zero_le _,rfl,hR,hb0⟩
  case round =>
   clear hR hb0
   obtain ⟨k,hk,rfl,hR,hb⟩:=hrel
   by_cases hlt : k < l.length
   ·have hk' : l[k]? = some l[k]:=List.getElem?_eq_getElem hlt
    have hd:=Lib.hid (List.drop_eq_getElem_cons hlt)
    have hln:=hl.out.len _ (List.getElem_mem hlt)
    have hbs : Cal.befR l (k + 1) = some l[k]:=by rw [Cal.befR_succ];exact hk'
    have hR':=hR.out
    rw [hd.out,Cal.numF_cons,← hbs] at hR'
    replace hR:=Lib.hid hR'
    clear hR' hd hbs
    generalize l[k] = x at *
    obtain ⟨b,o,rfl,hbl,ao,an,ha1,ha2,c0,c1⟩:=rn_at (hl.out.rows.below hb.out) hk'
    have hs1 : ao.size ≤ maxLen:=by rw [size_len ha1];exact hln.1
    have hs2 : an.size ≤ maxLen:=by rw [size_len ha2];exact hln.2
    have hn1:=Lib.hid (fun W=>gisName_any ao W hs1)
    have hn2:=Lib.hid (fun W=>gisName_any an W hs2)
    rw [← nmT_of,ha1] at hn1
    rw [← nmT_of,ha2] at hn2
    have hI:=Lib.hid (show RbI w wr.heap.size ao an (wr.alloc (.cells #[.string ao,.string an] 100)) from ⟨BoxAt.new wr #[.string ao,.string an] 100,below_step hb.out (below_alloc _ _)⟩)
    have hwr : Hid (Below w.heap.size w wr):=hb
    have hki : (k : Int) < (l.length : Int):=by omega
    have m1 : Hid True:=trivial
    clear hk' hln hs1 hs2 hb
    (have x0:=hI.out.bx.c 0 _ rfl;have x1:=hI.out.bx.c 1 _ rfl)
    cases h1 : nmT x.old
    ·rw [h1] at hn1
     have hfin : Hid (R = 4):=by show _ = _;rw [hR.out,h1];rfl
     clear hR ha1 ha2
     go_wp2_with (go_at_call 54;clear x0 x1;(first | (clear m1;refine (hn1.out _).mono ?_;rintro e0 wn ⟨rfl,hbn⟩) | (refine (hn2.out _).mono ?_;rintro e0 wn ⟨rfl,hbn⟩));replace hI:=Lib.hid (hI.out.below hbn);clear hbn;(have x0:=hI.out.bx.c 0 _ rfl;have x1:=hI.out.bx.c 1 _ rfl))
     go_ret
     exact ⟨ret_int hfin.out.symm,hI.out.bel⟩
    cases h2 : nmT x.new
    ·rw [h1] at hn1
     rw [h2] at hn2
     have hfin : Hid (R = 4):=by show _ = _;rw [hR.out,h1,h2];rfl
     clear hR ha1 ha2
     go_wp2_with (go_at_call 54;clear x0 x1;(first | (clear m1;refine (hn1.out _).mono ?_;rintro e0 wn ⟨rfl,hbn⟩) | (refine (hn2.out _).mono ?_;rintro e0 wn ⟨rfl,hbn⟩));replace hI:=Lib.hid (hI.out.below hbn);clear hbn;(have x0:=hI.out.bx.c 0 _ rfl;have x1:=hI.out.bx.c 1 _ rfl))
     go_ret
     exact ⟨ret_int hfin.out.symm,hI.out.bel⟩
    rw [h1] at hn1
    rw [h2] at hn2
    have hR' : R = if Cal.folB (Cal.befR l k) x then Cal.numF (Cal.befR l (k + 1)) (l.drop (k + 1)) else 9:=by rw [hR.out,h1,h2];rfl
    replace hR:=Lib.hid hR'
    clear hR' h1 h2
    by_cases hk0 : k = 0
    ·subst hk0
     rw [Nat.zero_mul,Nat.add_zero] at c0 c1
     have hnx : Hid (R = Cal.numF (Cal.befR l (0 + 1)) (l.drop (0 + 1))):=by show _ = _;rw [hR.out];rfl
     clear hR ha1 ha2
     go_wp2_with (go_at_call 54;clear x0 x1;(first | (clear m1;refine (hn1.out _).mono ?_;rintro e0 wn ⟨rfl,hbn⟩) | (refine (hn2.out _).mono ?_;rintro e0 wn ⟨rfl,hbn⟩));replace hI:=Lib.hid (hI.out.below hbn);clear hbn;(have x0:=hI.out.bx.c 0 _ rfl;have x1:=hI.out.bx.c 1 _ rfl))
     refine wp_region_held_drew (S:=Sx wn []) (by kernel_rfl) (Sx.mk (cs_nil _) (Below.refl _ _)).drew (fun hHeld=>?_)
     clear x0 x1
     refine tkHx 0 27 ?_
     refine tkHx 1 28 ?_
     refine tkHx 2 29 ?_
     refine tkFx 3 30 ?_
     refine tkFx 4 31 ?_
     refine tkFx 5 32 ?_
     refine tkFx 6 33 ?_
     refine tkFx 7 34 ?_
     refine tkFx 8 35 ?_
     refine tkFx 9 36 ?_
     refine tkFx 10 37 ?_
     refine tkHx 11 38 ?_
     refine tkHx 12 26 ?_
     refine wpAnyH_done (by kernel_rfl) ?_ _
     (try simp only [apS,apN,siA,scZ,scS])
     replace hI:=Lib.hid (hI.out.below hHeld.bel)
     clear hHeld
     have hbe:=Lib.hid hI.out.bel
     go_wp2_with fail
     go_roundw
     case rel=>exact ⟨1,by omega,by go_num,hnx,hbe⟩
     case measure=>simp [intOf];omega
    ·have hq1 : k - 1 < l.length:=by omega
     have hbf : Cal.befR l k = some l[k - 1]:=by unfold Cal.befR;rw [if_neg hk0];exact List.getElem?_eq_getElem hq1
     have hR':=hR.out
     rw [hbf] at hR'
     replace hR:=Lib.hid hR'
     have hj' : l[k - 1]? = some l[k - 1]:=List.getElem?_eq_getElem hq1
     have hrows:=Lib.hid (fun W (hW : Below w.heap.size w W)=>rn_at (hl.out.rows.below hW) hj')
     clear hR' hbf hj'
     generalize l[k - 1] = y at *
     have p1 : IntKind.i64.wrap ((k : Int) - 1) = (k : Int) - 1:=wrap_small (by omega) (by omega)
     have p2 : (1 : Int) ≤ (k : Int):=by omega
     have p3 : (0 : Int) < (k : Int):=by omega
     have p4 : (k : Int) - 1 < (l.length : Int):=by omega
     have p5 : ((k : Int) - 1).toNat = k - 1:=by omega
     have p6 : (0 : Int) ≤ (k : Int) - 1:=by omega
     have p7 : 0 < k:=by omega
     have p8 : 1 ≤ k:=by omega
     clear hwr
     go_wp2_with (go_at_call 54;clear x0 x1;(first | (clear m1;refine (hn1.out _).mono ?_;rintro e0 wn ⟨rfl,hbn⟩) | (refine (hn2.out _).mono ?_;rintro e0 wn ⟨rfl,hbn⟩));replace hI:=Lib.hid (hI.out.below hbn);clear hbn;(have x0:=hI.out.bx.c 0 _ rfl;have x1:=hI.out.bx.c 1 _ rfl))
     obtain ⟨b',o',hA',hbl',bo,bn,hb1,hb2,d0,d1⟩:=hrows.out _ hI.out.bel
     cases hA'
     have hcf:=rnCf_neg (x:=y) (y:=x)
     have hcm:=Lib.hid (fun W=>compareB_any bo bn ao an W)
     rw [show (⟨bo.toList,bn.toList⟩ : Rn) = y from by rw [hb1,hb2],show (⟨ao.toList,an.toList⟩ : Rn) = x from by rw [ha1,ha2]] at hcm
     clear ha1 ha2 hb1 hb2 hrows
     generalize rnCf y x = v at *
     refine wp_region_held_drew (S:=Sx wn [(b,o + (k - 1) * 2,.string bo),(b,o + (k - 1) * 2 + 1,.string bn),(wr.heap.size,0,.string ao),(wr.heap.size,1,.string an)]) (by kernel_rfl) (Sx.mk (by simp only [cs_iff_cons];exact ⟨d0,d1,x0,x1,cs_nil _⟩) (Below.refl _ _)).drew (fun hHeld=>?_)
     clear d0 d1 x0 x1
     (refine wpAnyH_hide (fun _ _ _ _ _ h=>h) (fun Q0 hp0 hQ0=>?_))
     refine tkQx 0 27 hp0 ?_
     refine tkQx 1 28 hp0 ?_
     refine tkQx 2 29 hp0 ?_
     refine tkQx 3 30 hp0 ?_
     refine tkQx 4 31 hp0 ?_
     refine tkQx 5 32 hp0 ?_
     refine tkQx 6 33 hp0 ?_
     refine tkQx 7 34 hp0 ?_
     refine tkQx 8 35 hp0 ?_
     (refine ratHx 9 (fun K hK=>?_);go_simp)
     refine (hcm.out _).mono ?_
     rintro e wn ⟨rfl,hbn⟩
     go_simp
     (refine hK.out _ _ (hHeld.step hbn) (fun hHeld=>?_);clear hK K;(try simp only [apS,apN,siA,scZ,scS]))
     refine tkQx 10 37 hp0 ?_
     refine tkQx 11 38 hp0 ?_
     refine tkQx 12 26 hp0 ?_
     refine wpAnyH_done (by kernel_rfl) ?_ _
     (try simp only [apS,apN,siA,scZ,scS])
     (obtain rfl:=hQ0.out;clear hp0)
     replace hI:=Lib.hid (hI.out.below hHeld.bel)
     clear hHeld hcm
     have hbe:=Lib.hid hI.out.bel
     by_cases hv : v < 0
     ·have hnx : Hid (R = Cal.numF (Cal.befR l (k + 1)) (l.drop (k + 1))):=by show _ = _;rw [hR.out];rw [show Cal.folB (some y) x = true from decide_eq_true (hcf.1 hv)];rfl
      have hv2 : ¬ 0 ≤ v:=by omega
      clear hR hcf
      go_wp2_with fail
      go_roundw
      case rel=>exact ⟨k + 1,by omega,by go_num,hnx,hbe⟩
      case measure=>simp [intOf];omega
     ·have hfin : Hid (R = 9):=by show _ = _;rw [hR.out];rw [show Cal.folB (some y) x = false from decide_eq_false (fun h=>hv (hcf.2 h))];rfl
      have hv2 : 0 ≤ v:=by omega
      clear hR hcf
      go_wp2_with fail
      go_ret
      exact ⟨ret_int hfin.out.symm,hbe.out⟩
   ·have hfin : Hid (R = 0):=by show _ = _;rw [hR.out,List.drop_of_length_le (by omega)];cases Cal.befR l k <;> rfl
    have hge : l.length = k:=by omega
    clear hR
    go_wp2_with fail
    go_ret
    exact ⟨ret_int hfin.out.symm,hb.out⟩
end Go.Proofs.Ythfokpchdlcidaa
