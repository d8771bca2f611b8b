/- What the statements rest on: definitions and walks, part 06. -/
import Derived.Test.YtoojdkaimhlcbaaGreatJ05
import Derived.Sort.EncStr
import Derived.Lib.ItoaLen
import Derived.Laws.BytesString
import Derived.Lib.IndexBytes
import Derived.Lib.IndexLaws
import Derived.Lib.Split
import Derived.Lib.CountLaws
import Derived.Lib.AtoiTie
import Derived.Lib.AtoiAllCases
import Derived.Lib.ItoaNum
import Derived.Lib.ItoaMem
import Derived.Lib.Strings
import Derived.Sort.LoopGhostIn
set_option maxRecDepth 100000
set_option maxHeartbeats 16000000
set_option linter.unusedSimpArgs false
set_option linter.unusedVariables false
namespace Go.Proofs.YtoojdkaimhlcbaaGreat.Cal
open Go.Lib
abbrev Txt:=List UInt8
theorem txt_lt_of {a b:Txt} (h1:a≤b) (h2:a≠b):a<b:=by
 rcases Classical.em (a<b) with h | h
 ·exact h
 exact absurd (List.le_antisymm h1 (List.not_lt.1 h)) h2
theorem txt_up_ext:∀ {xs ys:List Txt},xs.Pairwise (·<·)→ys.Pairwise (·<·)→(∀ d,d∈xs↔d∈ys)→xs=ys
 | [],[],_,_,_=>rfl
 | [],y :: ys,_,_,h=>absurd ((h y).2 (List.mem_cons_self ..)) (by simp)
 | x :: xs,[],_,_,h=>absurd ((h x).1 (List.mem_cons_self ..)) (by simp)
 | x :: xs,y :: ys,hx,hy,h=>by
  rw[List.pairwise_cons] at hx hy
  have e:x=y:=by
   rcases List.mem_cons.1 ((h x).1 (List.mem_cons_self ..)) with he | hm
   ·exact he
   rcases List.mem_cons.1 ((h y).2 (List.mem_cons_self ..)) with he | hm2
   ·exact he.symm
   exact absurd (List.lt_trans (hx.1 y hm2) (hy.1 x hm)) (List.lt_irrefl _)
  subst e
  congr 1
  refine txt_up_ext hx.2 hy.2 fun d=>⟨fun hd=>?_,fun hd=>?_⟩
  ·rcases List.mem_cons.1 ((h d).1 (List.mem_cons_of_mem _ hd)) with he | hm
   ·have:=hx.1 d hd;rw[he] at this;exact absurd this (List.lt_irrefl _)
   exact hm
  rcases List.mem_cons.1 ((h d).2 (List.mem_cons_of_mem _ hd)) with he | hm
  ·have:=hy.1 d hd;rw[he] at this;exact absurd this (List.lt_irrefl _)
  exact hm
theorem txt_compact_spec (d:Array Txt) (hs:∀ i j,i≤j→j<d.size→d[i]!≤d[j]!):∀ m,m≤d.size →
  (compactUpTo d m).Pairwise (·<·)∧∀ x,x∈compactUpTo d m↔∃ j,j<m∧d[j]! = x
 | 0,_=>⟨List.Pairwise.nil,fun x=>⟨fun h=>by simp[compactUpTo] at h,fun ⟨j,hj,_⟩=>by omega⟩⟩
 | m+1,hm=>by
  obtain⟨ih1,ih2⟩:=txt_compact_spec d hs m (by omega)
  rw[compactUpTo_succ]
  by_cases hk:keeps d m=true
  ·rw[if_pos hk]
   refine⟨?_,fun x=>?_⟩
   ·rw[List.pairwise_append]
    refine⟨ih1,List.pairwise_singleton ..,fun a ha b hb=>?_⟩
    obtain⟨j,hj,rfl⟩:=(ih2 a).1 ha
    simp only[List.mem_singleton] at hb
    subst hb
    have hm0:m≠0:=by omega
    have hne:d[m]!≠d[m-1]!:=by simpa [keeps,hm0] using hk
    have h1:=hs j (m-1) (by omega) (by omega)
    have h2:=txt_lt_of (hs (m-1) m (by omega) (by omega)) (Ne.symm hne)
    exact List.lt_of_le_of_lt h1 h2
   rw[List.mem_append,ih2,List.mem_singleton]
   constructor
   ·rintro (⟨j,hj,rfl⟩ | rfl)
    ·exact⟨j,by omega,rfl⟩
    exact⟨m,by omega,rfl⟩
   rintro⟨j,hj,rfl⟩
   by_cases he:j=m
   ·right;rw[he]
   exact .inl ⟨j,by omega,rfl⟩
  rw[if_neg hk,List.append_nil]
  refine⟨ih1,fun x=>?_⟩
  rw[ih2]
  constructor
  ·rintro⟨j,hj,rfl⟩;exact⟨j,by omega,rfl⟩
  rintro⟨j,hj,rfl⟩
  by_cases he:j=m
  ·subst he
   have hk':¬(j=0∨d[j]!≠d[j-1]!):=by simpa [keeps] using hk
   refine⟨j-1,by omega,?_⟩
   have:¬d[j]!≠d[j-1]!:=fun h=>hk' (.inr h)
   exact (Classical.not_not.1 this).symm
  exact⟨j,by omega,rfl⟩
def tups (zs:List Txt):List Txt:=compact (zs.mergeSort fun x y=>decide (x≤y))
theorem txt_sort_up (zs:List Txt):(zs.mergeSort fun x y=>decide (x≤y)).Pairwise (·≤·):=by
 have:=List.pairwise_mergeSort (le:=fun x y:Txt=>decide (x≤y)) (fun a b c=>by simp only[decide_eq_true_eq];exact List.le_trans) (fun a b=>by simp only[Bool.or_eq_true,decide_eq_true_eq];exact List.le_total a b) zs
 exact this.imp fun h=>by simpa using h
theorem tups_spec (zs:List Txt):(tups zs).Pairwise (·<·)∧∀ d,d∈tups zs↔d∈zs:=by
 have hp:=txt_sort_up zs
 have hsize:(zs.mergeSort fun x y=>decide (x≤y)).toArray.size=(zs.mergeSort fun x y=>decide (x≤y)).length:=by simp
 obtain⟨h1,h2⟩:=txt_compact_spec (zs.mergeSort fun x y=>decide (x≤y)).toArray (fun i j hij hj=>by
  rcases Nat.lt_or_eq_of_le hij with hlt | rfl
  ·have:=List.pairwise_iff_getElem.1 hp i j (by omega) (by omega) hlt
   rw[getElem!_pos _ i (by omega),getElem!_pos _ j (by omega)]
   simpa using this
  exact List.le_refl _) _ (Nat.le_of_eq hsize.symm)
 refine⟨h1,fun d=>?_⟩
 unfold tups compact
 rw[h2]
 constructor
 ·rintro⟨j,hj,rfl⟩
  rw[getElem!_pos _ j (by omega)]
  have:(zs.mergeSort fun x y=>decide (x≤y)).toArray[j]'(by omega)∈(zs.mergeSort fun x y=>decide (x≤y)):=by simp
  exact List.mem_mergeSort.1 this
 intro hd
 obtain⟨j,hj,he⟩:=List.getElem_of_mem (List.mem_mergeSort.2 hd)
 refine⟨j,hj,?_⟩
 rw[getElem!_pos _ j (by simpa using hj)]
 simpa using he
theorem tups_eq {zs ys:List Txt} (h:ys.Pairwise (·<·)) (hm:∀ d,d∈ys↔d∈zs):tups zs=ys :=
 txt_up_ext (tups_spec zs).1 h fun d=>by rw[(tups_spec zs).2,hm]
theorem tups_length (zs:List Txt):(tups zs).length≤zs.length:=by
 have h:(zs.mergeSort fun x y=>decide (x≤y)).length=zs.length:=List.length_mergeSort zs
 unfold tups compact compactUpTo
 rw[List.length_map]
 exact Nat.le_trans (List.length_filter_le _ _) (by rw[List.length_range];omega)
theorem tins_up {xs:List Txt} {d:Txt} {q:Nat} (h:xs.Pairwise (·<·)) (hd:d∉xs) (hq:q≤xs.length) (h1:∀ (j:Nat) z,q≤j→xs[j]?=some z→d<z) (h2:∀ z,0<q→xs[q-1]?=some z→z≤d):(xs.take q ++ [d] ++ xs.drop q).Pairwise (·<·):=by
 have hlow:∀ a∈xs.take q,a<d:=fun a ha=>by
  obtain⟨i,hi,rfl⟩:=List.getElem_of_mem ha
  rw[List.length_take] at hi
  rw[List.getElem_take]
  have hq1:q-1<xs.length:=by omega
  have e2:=h2 _ (by omega) (List.getElem?_eq_getElem hq1)
  have hne:xs[q-1]≠d:=fun e=>hd (e ▸ List.getElem_mem hq1)
  have e3:=txt_lt_of e2 hne
  rcases Nat.lt_or_eq_of_le (show i≤q-1 by omega) with hlt | he
  ·exact List.lt_trans (List.pairwise_iff_getElem.1 h i (q-1) (by omega) hq1 hlt) e3
  subst he;exact e3
 have hhigh:∀ b∈xs.drop q,d<b:=fun b hb=>by
  obtain⟨i,hi,rfl⟩:=List.getElem_of_mem hb
  rw[List.length_drop] at hi
  rw[List.getElem_drop]
  exact h1 (q+i) _ (by omega) (List.getElem?_eq_getElem (by omega))
 rw[List.pairwise_append,List.pairwise_append]
 refine⟨⟨h.sublist (List.take_sublist _ _),List.pairwise_singleton ..,fun a ha b hb=>?_⟩,h.sublist (List.drop_sublist _ _),fun a ha b hb=>?_⟩
 ·rw[List.mem_singleton] at hb;subst hb;exact hlow a ha
 rcases List.mem_append.1 ha with ha | ha
 ·exact List.lt_trans (hlow a ha) (hhigh b hb)
 rw[List.mem_singleton] at ha;subst ha;exact hhigh b hb
theorem tins_mem {xs:List Txt} {d x:Txt} {q:Nat}:x∈xs.take q ++ [d] ++ xs.drop q↔x=d∨x∈xs:=by
 conv=>rhs;rw[←List.take_append_drop q xs]
 simp only[List.mem_append,List.mem_singleton]
 constructor
 ·rintro ((h | h) | h)
  ·exact .inr (.inl h)
  ·exact .inl h
  exact .inr (.inr h)
 rintro (h | h | h)
 ·exact .inl (.inr h)
 ·exact .inl (.inl h)
 exact .inr h
end Go.Proofs.YtoojdkaimhlcbaaGreat.Cal
namespace Go.Proofs.YtoojdkaimhlcbaaGreat
open Go Go.RowKit Go.Sort
def txtRows (zs:List Cal.Txt):List (List Value):=zs.map fun n=>[encStr n]
def TextsL (w:World) (B:Nat) (v:Value) (zs:List Cal.Txt):Prop:=OwnL w B 9 1 v (txtRows zs)
theorem txtRows_length (zs:List Cal.Txt):(txtRows zs).length=zs.length:=by unfold txtRows;simp
theorem txtRows_wid (zs:List Cal.Txt):∀ r∈txtRows zs,r.length=1:=fun r hr=>by obtain⟨n,_,rfl⟩:=List.mem_map.1 hr;rfl
theorem txtRows_one (zs:List Cal.Txt):∀ r∈txtRows zs,∀ u∈r,u.oneCell'=true:=fun r hr u hu=>by
 obtain⟨n,_,rfl⟩:=List.mem_map.1 hr
 simp only[List.mem_singleton] at hu;subst hu;rfl
theorem txtRows_flat (zs:List Cal.Txt):(txtRows zs).flatten=zs.map encStr:=by
 induction zs with
 | nil=>rfl
 | cons z zs ih=>unfold txtRows at ih ⊢;rw[List.map_cons,List.flatten_cons,ih];rfl
theorem elemTxt:Elem Tryz.prog 23 9 1 16:=Elem.mk' Tryz.underlying23 (z:=.string ⟨#[]⟩) (by kernel_rfl) rfl (by decide)
theorem TextsL.own {w:World} {B:Nat} {v:Value} {zs:List Cal.Txt} (h:TextsL w B v zs):w.ownsRow B 9 1 v zs.length (zs.map encStr):=by
 have:=OwnL.own h
 rwa [txtRows_length,txtRows_flat] at this
theorem TextsL.of {w:World} {B:Nat} {v:Value} {zs:List Cal.Txt} (h:w.ownsRow B 9 1 v zs.length (zs.map encStr)):TextsL w B v zs :=
 ⟨by rw[txtRows_length,txtRows_flat];exact h,txtRows_wid zs,txtRows_one zs⟩
theorem TextsL.rows {w:World} {B:Nat} {v:Value} {zs:List Cal.Txt} (h:TextsL w B v zs):∃ A c,v=.slice A zs.length c∧RowsAt w A 1 (txtRows zs):=by
 obtain⟨A,c,hv,hr⟩:=OwnL.form h
 exact⟨A,c,by rw[hv,txtRows_length],hr⟩
theorem TextsL.block {w:World} {B g c:Nat} {zs:List Cal.Txt} {A:Option Addr} (h:TextsL w B (.slice A zs.length c) zs) (hA:A=some ⟨g,0,none⟩) :
  ∃ cur,w.heap[g]?=some (.cells cur 9 (0,0))∧B≤g∧zs.length≤c∧c≤maxLen∧cur.size=c∧cur.toList.take zs.length=zs.map encStr:=by
 subst hA
 rcases h.own.2 with ⟨h1,_⟩ | ⟨g',cap,cur,hv,hb,hg,h1,h2,h3,h4⟩
 ·cases h1
 simp only[Value.slice.injEq,Option.some.injEq,Addr.mk.injEq,and_true,true_and] at hv
 obtain⟨rfl,rfl⟩:=hv
 exact⟨cur,hg,hb,h1,h2,by omega,by rwa [Nat.mul_one] at h4⟩
theorem putCells_takeT {cur:Array Value} {ys:List Cal.Txt} (h:ys.length≤cur.size):(putCells encStr 0 ys.toArray cur).toList.take ys.length=ys.map encStr∧(putCells encStr 0 ys.toArray cur).size=cur.size:=by
 refine⟨?_,by simp[putCells]⟩
 apply List.ext_getElem
 ·simp[putCells];omega
 intro i h1 h2
 have hi:i<ys.length:=by simpa using h2
 simp[putCells,hi]
theorem heap_putRow_sameT {w:World} {g:Nat} {cur:Array Value} {e:TypeId} {fr:Nat × Nat} {d:Array Cal.Txt} (h:w.heap[g]?=some (.cells cur e fr)):(putRow encStr w g 0 d).heap[g]?=some (.cells (putCells encStr 0 d cur) e fr):=by
 simp[putRow,mapBlock,Array.getElem?_modify,h,onCells]
theorem heap_putRow_otherT {w:World} {g:Nat} {d:Array Cal.Txt} {k:Nat} (h:k≠g):(putRow encStr w g 0 d).heap[k]?=w.heap[k]?:=by
 simp[putRow,mapBlock,Array.getElem?_modify,Ne.symm h]
theorem TextsL.put {w:World} {B g c:Nat} {zs ys:List Cal.Txt} (h:TextsL w B (.slice (some ⟨g,0,none⟩) zs.length c) zs) (hl:ys.length=zs.length) :
  TextsL (putRow encStr w g 0 ys.toArray) B (.slice (some ⟨g,0,none⟩) ys.length c) ys∧w.grownBy (putRow encStr w g 0 ys.toArray) (some g):=by
 obtain⟨cur,hg,hb,h1,h2,h3,h4⟩:=h.block rfl
 obtain⟨t1,t2⟩:=putCells_takeT (cur:=cur) (ys:=ys) (by omega)
 refine⟨TextsL.of ⟨by simp,.inr ⟨g,c,_,rfl,hb,heap_putRow_sameT hg,by omega,h2,by rw[t2,h3];simp,by rw[Nat.mul_one];exact t1⟩⟩,rfl,rfl,rfl,by simp,fun k _ hk=>heap_putRow_otherT (fun e=>hk (by rw[e]))⟩
theorem TextsL.cut {w:World} {B g c:Nat} {xs ys:List Cal.Txt} (h:TextsL w B (.slice (some ⟨g,0,none⟩) (xs ++ ys).length c) (xs ++ ys)):TextsL w B (.slice (some ⟨g,0,none⟩) xs.length c) xs:=by
 obtain⟨cur,hg,hb,h1,h2,h3,h4⟩:=h.block rfl
 rw[List.length_append] at h1
 refine TextsL.of ⟨by simp,.inr ⟨g,c,cur,rfl,hb,hg,by omega,h2,by rw[h3];simp,?_⟩⟩
 rw[Nat.mul_one]
 have:=congrArg (List.take xs.length) h4
 rw[List.take_take,List.map_append,List.length_append,Nat.min_eq_left (by omega),List.take_left' (by simp)] at this
 exact this
theorem TextsL.holds {w:World} {B g c:Nat} {zs:List Cal.Txt} (h:TextsL w B (.slice (some ⟨g,0,none⟩) zs.length c) zs):Holds encStr w g 0 zs.toArray:=fun j hj=>by
 obtain⟨cur,hg,hb,h1,h2,h3,h4⟩:=h.block rfl
 have hj':j<zs.length:=by simpa using hj
 constructor
 ·rw[cell_of_row w g (0+j) cur _ (0,0) hg,Nat.zero_add]
  have:=congrArg (·[j]?) h4
  simp only[List.getElem?_take,hj',if_true,List.getElem?_map] at this
  rw[Array.getElem?_toList] at this
  rw[this]
  simp[hj']
 exact h.own.frozenAt (0+j)
theorem TextsL.below {w w':World} {B:Nat} {v:Value} {zs:List Cal.Txt} (h:TextsL w B v zs) (hb:Below w.heap.size w w'):TextsL w' B v zs:=OwnL.below h hb
def SortPostT (w:World) (B:Nat) (v:Value) (zs:List Cal.Txt) (e:Ending) (w':World):Prop:=e=.returned (.tuple #[])∧TextsL w' B v (zs.mergeSort fun x y=>decide (x≤y))∧w.grownBy w' v.ownBlock
theorem SortT_own (w:World) (B:Nat) (v:Value) (zs:List Cal.Txt) (h:TextsL w B v zs) (hs:zs.length≤1000000) :
  Calls Tryz.prog 49 #[v] w (SortPostT w B v zs):=by
 obtain⟨A,c,rfl,hr⟩:=h.rows
 by_cases hne:zs=[]
 ·subst hne
  refine (Tryz.slices_Sort_string_none A c w).mono fun e w' ⟨he,hw⟩=>?_
  subst hw
  exact⟨he,by simpa using h,World.grownBy.refl _ _⟩
 rcases h.own.2 with ⟨_,h0⟩ | ⟨g,cap,cur,hv,hb,hg,h1,h2,h3,h4⟩
 ·exact absurd (List.eq_nil_of_length_eq_zero h0) hne
 simp only[Value.slice.injEq,true_and] at hv
 obtain⟨rfl,rfl⟩:=hv
 have hl:(zs.mergeSort fun x y=>decide (x≤y)).length=zs.length:=List.length_mergeSort zs
 refine (Tryz.slices_Sort_string g 0 c zs w h.holds (Array.getElem?_eq_some_iff.1 hg).1 (by omega)).mono fun e w' ⟨he,n,os,hw⟩=>?_
 subst hw
 have hA:TextsL (Sort.ahead w n) B (.slice (some ⟨g,0,none⟩) zs.length c) zs:=h.below ⟨rfl,rfl,rfl,Nat.le_refl _,fun _ _=>rfl⟩
 obtain⟨p1,p2⟩:=hA.put hl
 have p3:=p1.below (grow_below _ os)
 rw[hl] at p3
 refine⟨he,p3,⟨p2.os,p2.tape,p2.output,Nat.le_trans p2.size (grow_below _ os).size,fun k hk hne=>((grow_below _ os).block k (Nat.lt_of_lt_of_le hk p2.size)).trans (p2.block k hk hne)⟩⟩
def CompactPostT (w:World) (B:Nat) (v:Value) (zs:List Cal.Txt) (e:Ending) (w':World):Prop:=∃ v',e=.returned v'∧TextsL w' B v' (Lib.compact zs)∧w.grownBy w' v.ownBlock∧v'.ownBlock=v.ownBlock
theorem CompactT_own (w:World) (B:Nat) (v:Value) (zs:List Cal.Txt) (h:TextsL w B v zs) (hs:zs.length≤1000000) :
  Calls Tryz.prog 23 #[v] w (CompactPostT w B v zs):=by
 obtain⟨A,c,rfl,hr⟩:=h.rows
 by_cases hne:zs=[]
 ·subst hne
  refine (Tryz.slices_Compact_string_empty A c w).mono fun e w' ⟨he,hw⟩=>?_
  subst hw
  exact⟨_,he,h,World.grownBy.refl _ _,rfl⟩
 rcases h.own.2 with ⟨_,h0⟩ | ⟨g,cap,cur,hv,hb,hg,h1,h2,h3,h4⟩
 ·exact absurd (List.eq_nil_of_length_eq_zero h0) hne
 simp only[Value.slice.injEq,true_and] at hv
 obtain⟨rfl,rfl⟩:=hv
 refine (Tryz.slices_Compact_string g 0 c zs w h.holds (by omega) h1).mono fun e w' ⟨he,n,hw⟩=>?_
 subst hw
 have hA:TextsL (Sort.ahead w n) B (.slice (some ⟨g,0,none⟩) zs.length c) zs:=h.below ⟨rfl,rfl,rfl,Nat.le_refl _,fun _ _=>rfl⟩
 have hcl:=Lib.compact_length_le zs
 have hl:(Lib.compact zs ++ List.replicate (zs.length-(Lib.compact zs).length) []).length=zs.length:=by simp;omega
 obtain⟨p1,p2⟩:=hA.put hl
 exact⟨_,he,p1.cut,⟨p2.os,p2.tape,p2.output,p2.size,p2.block⟩,rfl⟩
end Go.Proofs.YtoojdkaimhlcbaaGreat
namespace Go.Proofs.YtoojdkaimhlcbaaGreat
open Go Go.RowKit Go.Shelf
attribute [local go_sem] Oper.semAt_some
def ptR (q:Pt):List Value:=[.int .i64 q.x,.int .i64 q.y]
theorem pts_at {w:World} {V:Option Addr} {ps:List Pt} (h:RowsAt w V 2 (ps.map ptR)) {k:Nat} {q:Pt} (hk:ps[k]?=some q) :
  ∃ b o,V=some ⟨b,o,none⟩∧b<w.heap.size∧w.cell? ⟨b,o+k*2,none⟩=some (.int .i64 q.x)∧w.cell? ⟨b,o+k*2+1,none⟩=some (.int .i64 q.y):=by
 obtain⟨b,o,hA,hlt,hc⟩:=h k (ptR q) (by simp[hk])
 exact⟨b,o,hA,hlt,hc 0 _ rfl,hc 1 _ rfl⟩
def KpS (n₀ Bs:Nat) (_:Nat) (X Y:World):Prop:=Below n₀ X Y∧Y.heap[Bs]?=X.heap[Bs]?
theorem KpS.refl (n₀ Bs B:Nat) (X:World):KpS n₀ Bs B X X:=⟨Below.refl _ _,rfl⟩
theorem KpS.trans {n₀ Bs B:Nat} {X Y Z:World} (h:KpS n₀ Bs B X Y) (k:KpS n₀ Bs B Y Z):KpS n₀ Bs B X Z:=⟨h.1.trans k.1,k.2.trans h.2⟩
theorem KpS.grown {n₀ Bs B:Nat} {X Y:World} (h:X.grownBy Y none) (hn:n₀≤X.heap.size) (hB:Bs<X.heap.size):KpS n₀ Bs B X Y :=
 ⟨(Below.refl _ _).grown h hn (fun k e=>by cases e),h.block Bs hB (by simp)⟩
def sdE (x:Nat × Sd):Array Value:=#[.int .i64 (x.1:Int),.agg #[.int .i64 x.2.a.x,.int .i64 x.2.a.y,.int .i64 x.2.b.x,.int .i64 x.2.b.y]]
def sdsI (ps:List Pt):List (Nat × Sd):=(List.range ps.length).map fun i=>(i,Cal.sd ps i)
theorem sdsI_at {ps:List Pt} {k:Nat} (h:k<ps.length):(sdsI ps)[k]?=some (k,Cal.sd ps k):=by
 unfold sdsI
 rw[List.getElem?_map,List.getElem?_range h]
 rfl
theorem sdsI_length (ps:List Pt):(sdsI ps).length=ps.length:=by simp[sdsI]
theorem sd_of {ps:List Pt} {k:Nat} {a b:Pt} (ha:ps[k]?=some a) (hb:ps[(k+1) % ps.length]?=some b):Cal.sd ps k=⟨a,b⟩:=by
 unfold Cal.sd
 rw[ha,hb]
 rfl
theorem sides_any (V:Option Addr) (k d:Nat) (w:World) :
  Calls Tryz.prog 52 #[.slice V k d] w fun e w'=>e=.returned (.func (.func 71) #[] #[.pointer (some ⟨w.heap.size,0,none⟩)])∧w'=w.alloc (.cells #[.slice V k d] 44):=by
 go_enter Tryz.func52,Tryz.ntmps52
 go_wp2
 go_ret
 exact⟨rfl,rfl⟩
def IxPost (N:Nat) (J Jx:Nat→World→Prop) (e:Ending) (W':World):Prop:=(∃ v,e=.returned v)∧(J N W'∨∃ k,k<N∧Jx k W')
structure KpOK (Kp:Nat→World→World→Prop) (V:Option Addr) (k Bs:Nat) (w:World):Prop where
 refl:∀ x X,Kp x X X
 trans:∀ x X Y Z,Kp x X Y→Kp x Y Z→Kp x X Z
 size:∀ x X Y,Kp x X Y→X.heap.size≤Y.heap.size
 cells:∀ x X Y,Kp x X Y→∀ ad,V=some ad→0<k→Y.heap[ad.block]?=X.heap[ad.block]?
 bs:∀ x X Y,Kp x X Y→Y.heap[Bs]?=X.heap[Bs]?
 grown:∀ x X Y,X.grownBy Y none→w.heap.size≤X.heap.size→Kp x X Y
theorem sides_gen (n:Nat) (hn:1≤n) (Bs:Nat) (Kp:Nat→World→World→Prop) (V:Option Addr) (d:Nat) (ps:List Pt) (w:World) (hKp:KpOK Kp V ps.length Bs w) (hBs:w.cell? ⟨Bs,0,none⟩=some (.slice V ps.length d)) (hBw:Bs<w.heap.size)
  (hP:RowsAt w V 2 (ps.map ptR)) (hl:ps.length≤1000000) :
  SeqIx Fence.wide n Tryz.prog 71 #[.pointer (some ⟨Bs,0,none⟩)] sdE AbG Kp (sdsI ps) w:=by
 intro l J Jx W hW hJ hJx hY h0
 show CallsIn Fence.wide n Tryz.prog 71 _ W (IxPost (sdsI ps).length J Jx)
 rw[sdsI_length]
 refine callsIn_of_wp Tryz.func71 rfl trivial ?_ rfl
 simp only[Tryz.ntmps71,List.size_toArray,List.length_cons,List.length_nil,Nat.reduceAdd,Nat.reduceSub,Array.replicate_succ,Array.replicate_zero,List.push_toArray,List.append_toArray,List.nil_append,List.cons_append]
 have hs0:=(hW.cell (p:=⟨Bs,0,none⟩) hBw).trans hBs
 have hPW:=Lib.hid (hP.below hW)
 have hWz:=Lib.hid hW.size
 have hY:=Lib.hid hY
 have hJ:=Lib.hid hJ
 clear hJx hBs hW hP
 have hs0:=Lib.hid hs0
 have hs0':=hs0.out
 gi_wp2
 clear hs0'
 gi_loopw [7] (fun i wr=>∃ k:Nat,k≤ps.length∧i=.int .i64 k∧J k wr∧Kp W.heap.size W wr) (fun i _=>ps.length-(intOf i).toNat)
 case atStart=>exact⟨0,Nat.zero_le _,rfl,h0,hKp.refl _ _⟩
 case round =>
  obtain⟨k,hk,rfl,hJk,hb⟩:=hrel
  by_cases hlt:k<ps.length
  ·have hmod:(k+1) % ps.length<ps.length:=Nat.mod_lt _ (by omega)
   have ha:ps[k]?=some ps[k]:=List.getElem?_eq_getElem hlt
   have hc:ps[(k+1) % ps.length]?=some ps[(k+1) % ps.length]:=List.getElem?_eq_getElem hmod
   have hsd:=Lib.hid (sd_of ha hc)
   obtain⟨b,o,rfl,hbl,e0,e1⟩:=pts_at hPW.out ha
   obtain⟨b',o',hbo,_,e2,e3⟩:=pts_at hPW.out hc
   obtain⟨rfl,rfl⟩:b=b'∧o=o':=by simpa using hbo
   have hbk:=hKp.cells _ _ _ hb _ rfl (by omega)
   have hat:∀ (x:Nat) (v:Value),W.cell? ⟨b,x,none⟩=some v→wr.cell? ⟨b,x,none⟩=some v:=fun x v h=>(World.cell?_of_block (a:=⟨b,x,none⟩) hbk).trans h
   have e0:=hat _ _ e0
   have e1:=hat _ _ e1
   have e2:=hat _ _ e2
   have e3:=hat _ _ e3
   clear hat hbk
   have s0:=(World.cell?_of_block (a:=⟨Bs,0,none⟩) (hKp.bs _ _ _ hb)).trans hs0.out
   have hBr:Bs<wr.heap.size:=by have:=hWz.out;have:=hKp.size _ _ _ hb;omega
   obtain⟨q,hq⟩:∃ q,q=(k+1) % ps.length:=⟨_,rfl⟩
   simp only[←hq] at e2 e3 hsd hmod hc
   have hq1:((k:Int)+1).tmod (ps.length:Int)=(q:Int):=by rw[hq];rfl
   have hq3:((k:Int)+1) % (ps.length:Int)=(q:Int):=by rw[hq];rfl
   have hk1:IntKind.i64.wrap ((k:Int)+1)=(k:Int)+1:=wrap_small (by omega) (by omega)
   have hq2:IntKind.i64.wrap (q:Int)=(q:Int):=wrap_small (by omega) (by omega)
   have hne:¬ps.length=0:=by omega
   generalize ps[k]=pa at *
   generalize ps[q]=pc at *
   clear hq
   have hAll:=Lib.hid (And.intro hb (And.intro hJk hlt))
   have h1:Cs [(wr.heap.size,0,.int .i64 pa.x),(wr.heap.size,1,.int .i64 pa.y),(Bs,0,.slice (some ⟨b,o,none⟩) ps.length d),(b,o+q*2,.int .i64 pc.x),(b,o+q*2+1,.int .i64 pc.y)] (wr.alloc (.cells #[.int .i64 pa.x,.int .i64 pa.y] 61)) :=
    cs_iff_cons.2 ⟨by simp,cs_iff_cons.2 ⟨by simp,Cs.below (cs_iff_cons.2 ⟨s0,cs_iff_cons.2 ⟨e2,cs_iff_cons.2 ⟨e3,cs_nil _⟩⟩⟩) (below_alloc _ _)⟩⟩
   have h1:=Lib.hid h1
   clear hb hJk ha hc
   gi_wp2
   refine wpIn_region_heldY (S:=Cs [(wr.heap.size,0,.int .i64 pa.x),(wr.heap.size,1,.int .i64 pa.y),(Bs,0,.slice (some ⟨b,o,none⟩) ps.length d),(b,o+q*2,.int .i64 pc.x),(b,o+q*2+1,.int .i64 pc.y)]) 12 (by kernel_rfl) h1.out (fun hHeld=>?_)
   (refine tkY 0 12 (fun _=>trivial) (v:=?_) ?_ ?_;rotate_left;focus (intro w' hSw;simp only[cs_iff_cons] at hSw;go_simp;(try with_reducible rfl));(try simp only[Act.put,List.setIfInBounds_toArray,List.set_cons_zero,List.set_cons_succ]))
   (refine tkY 1 13 (fun _=>trivial) (v:=?_) ?_ ?_;rotate_left;focus (intro w' hSw;simp only[cs_iff_cons] at hSw;go_simp;(try with_reducible rfl));(try simp only[Act.put,List.setIfInBounds_toArray,List.set_cons_zero,List.set_cons_succ]))
   (refine tkY 2 14 (fun _=>trivial) (v:=?_) ?_ ?_;rotate_left;focus (intro w' hSw;simp only[cs_iff_cons] at hSw;go_simp;(try with_reducible rfl));(try simp only[Act.put,List.setIfInBounds_toArray,List.set_cons_zero,List.set_cons_succ]))
   (refine tkY 3 15 (fun _=>trivial) (v:=?_) ?_ ?_;rotate_left;focus (intro w' hSw;simp only[cs_iff_cons] at hSw;go_simp;(try with_reducible rfl));(try simp only[Act.put,List.setIfInBounds_toArray,List.set_cons_zero,List.set_cons_succ]))
   (refine tkY 4 16 (fun _=>trivial) (v:=?_) ?_ ?_;rotate_left;focus (intro w' hSw;simp only[cs_iff_cons] at hSw;go_simp;(try with_reducible rfl));(try simp only[Act.put,List.setIfInBounds_toArray,List.set_cons_zero,List.set_cons_succ]))
   (refine tkY 5 17 (fun _=>trivial) (v:=?_) ?_ ?_;rotate_left;focus (intro w' hSw;simp only[cs_iff_cons] at hSw;go_simp;(try with_reducible rfl));(try simp only[Act.put,List.setIfInBounds_toArray,List.set_cons_zero,List.set_cons_succ]))
   (refine tkY 6 18 (fun _=>trivial) (v:=?_) ?_ ?_;rotate_left;focus (intro w' hSw;simp only[cs_iff_cons] at hSw;go_simp;(try with_reducible rfl));(try simp only[Act.put,List.setIfInBounds_toArray,List.set_cons_zero,List.set_cons_succ]))
   (refine tkY 7 19 (fun _=>trivial) (v:=?_) ?_ ?_;rotate_left;focus (intro w' hSw;simp only[cs_iff_cons] at hSw;go_simp;(try with_reducible rfl));(try simp only[Act.put,List.setIfInBounds_toArray,List.set_cons_zero,List.set_cons_succ]))
   (refine tkY 8 20 (fun _=>trivial) (v:=?_) ?_ ?_;rotate_left;focus (intro w' hSw;simp only[cs_iff_cons] at hSw;go_simp;(try with_reducible rfl));(try simp only[Act.put,List.setIfInBounds_toArray,List.set_cons_zero,List.set_cons_succ]))
   (refine tkY 9 21 (fun _=>trivial) (v:=?_) ?_ ?_;rotate_left;focus (intro w' hSw;simp only[cs_iff_cons] at hSw;go_simp;(try with_reducible rfl));(try simp only[Act.put,List.setIfInBounds_toArray,List.set_cons_zero,List.set_cons_succ]))
   (refine tkY 10 22 (fun _=>trivial) (v:=?_) ?_ ?_;rotate_left;focus (intro w' hSw;simp only[cs_iff_cons] at hSw;go_simp;(try with_reducible rfl));(try simp only[Act.put,List.setIfInBounds_toArray,List.set_cons_zero,List.set_cons_succ]))
   (refine tkY 11 23 (fun _=>trivial) (v:=?_) ?_ ?_;rotate_left;focus (intro w' hSw;simp only[cs_iff_cons] at hSw;go_simp;(try with_reducible rfl));(try simp only[Act.put,List.setIfInBounds_toArray,List.set_cons_zero,List.set_cons_succ]))
   refine ratYc 12 (fun _=>trivial) (by decide +kernel) rfl (by decide +kernel) (fun K hK=>?_)
   rw[if_pos (by kernel_rfl)]
   have hy1:=hY.out k _ (wr.alloc (.cells #[.int .i64 pa.x,.int .i64 pa.y] 61)).drew (sdsI_at hlt) (hJ.out k _ _ hAll.out.2.1 ((World.grownBy_alloc wr _ none).trans (grown_drewN _ 1 _)))
   rw[hsd.out] at hy1
   obtain⟨fn,tmps,assign,body,hy,hR⟩:=hy1
   dsimp only[sdE] at hy
   go_simp
   refine hR.mono ?_
   clear hy hR
   rintro e w2 (⟨rfl,hJ2,hKq⟩ | ⟨rfl,hJx,_⟩)
   ·dsimp only
    refine hK.out _ _ ?_
    clear hK K
    (try simp only[Act.put,List.setIfInBounds_toArray]);(try simp only[List.set_cons_zero,List.set_cons_succ])
    refine ratYc 13 (fun _=>trivial) (by decide +kernel) rfl (by decide +kernel) (fun K hK=>?_)
    rw[if_pos (by kernel_rfl)]
    go_simp
    refine hK.out _ _ ?_
    clear hK K
    (try simp only[Act.put,List.setIfInBounds_toArray]);(try simp only[List.set_cons_zero,List.set_cons_succ])
    refine wpAnyInY_done (by decide +kernel) ?_ _
    have hJ2:=Lib.hid hJ2
    have hKq:=Lib.hid hKq
    gi_wp2
    go_roundw
    case rel=>exact⟨k+1,hlt,by go_num,hJ2.out,hKp.trans _ _ _ _ (hKp.trans _ _ _ _ hAll.out.1 (hKp.grown _ _ _ ((World.grownBy_alloc wr _ none).trans (grown_drewN _ 1 _)) (by have:=hWz.out;have:=hKp.size _ _ _ hAll.out.1;omega))) hKq.out⟩
    case measure=>simp[intOf];omega
   dsimp only
   refine hK.out _ _ ?_
   clear hK K
   (try simp only[Act.put,List.setIfInBounds_toArray]);(try simp only[List.set_cons_zero,List.set_cons_succ])
   refine ratYc 13 (fun _=>trivial) (by decide +kernel) rfl (by decide +kernel) (fun K hK=>?_)
   rw[if_pos (by kernel_rfl)]
   go_simp
   refine hK.out _ _ ?_
   clear hK K
   (try simp only[Act.put,List.setIfInBounds_toArray]);(try simp only[List.set_cons_zero,List.set_cons_succ])
   refine wpAnyInY_done (by decide +kernel) ?_ _
   have hJx:=Lib.hid hJx
   gi_wp2
   refine bodyPost_ret (results_none rfl _ _ _) rfl ?_
   exact⟨⟨_,rfl⟩,.inr ⟨k,hlt,hJx.out⟩⟩
  obtain rfl:k=ps.length:=by omega
  have hJz:=Lib.hid hJk
  clear hJk
  gi_wp2
  refine bodyPost_end (results_none rfl _ _ _) rfl ?_
  exact⟨⟨_,rfl⟩,.inl hJz.out⟩
theorem kpS_ok {n₀ Bs:Nat} {V:Option Addr} {k:Nat} {w:World} (hBw:Bs<w.heap.size) (hVn:∀ ad,V=some ad→0<k→ad.block<n₀) (hn0:n₀≤w.heap.size):KpOK (KpS n₀ Bs) V k Bs w where
 refl:=fun x X=>KpS.refl _ _ _ _
 trans:=fun _ _ _ _ h k=>h.trans k
 size:=fun _ _ _ h=>h.1.size
 cells:=fun _ _ _ h ad e hk=>h.1.block _ (hVn ad e hk)
 bs:=fun _ _ _ h=>h.2
 grown:=fun _ X _ hg hs=>KpS.grown hg (by omega) (by omega)
theorem sides_ix (n:Nat) (hn:1≤n) (Bs n₀:Nat) (V:Option Addr) (d:Nat) (ps:List Pt) (w:World) (hBs:w.cell? ⟨Bs,0,none⟩=some (.slice V ps.length d)) (hBw:Bs<w.heap.size)
  (hP:RowsAt w V 2 (ps.map ptR)) (hVn:∀ ad,V=some ad→0<ps.length→ad.block<n₀) (hn0:n₀≤w.heap.size) (hl:ps.length≤1000000) :
  SeqIx Fence.wide n Tryz.prog 71 #[.pointer (some ⟨Bs,0,none⟩)] sdE AbG (KpS n₀ Bs) (sdsI ps) w :=
 sides_gen n hn Bs (KpS n₀ Bs) V d ps w (kpS_ok hBw hVn hn0) hBs hBw hP hl
def KpM (M Bs:Nat) (_:Nat) (X Y:World):Prop:=Two M Bs X Y∧X.heap.size≤Y.heap.size
theorem KpM.refl (M Bs x:Nat) (X:World):KpM M Bs x X X:=⟨Two.refl _ _ _,Nat.le_refl _⟩
theorem KpM.trans {M Bs x:Nat} {X Y Z:World} (h:KpM M Bs x X Y) (k:KpM M Bs x Y Z):KpM M Bs x X Z:=⟨h.1.trans k.1,Nat.le_trans h.2 k.2⟩
theorem KpM.below {M Bs x:Nat} {X Y:World} (h:Below X.heap.size X Y) (hn:M<X.heap.size) (hB:Bs<X.heap.size):KpM M Bs x X Y:=⟨⟨h.block _ hn,h.block _ hB⟩,h.size⟩
theorem KpM.set {M Bs x:Nat} {X:World} {b o:Nat} (v:Value) (hn:M≠b) (hB:Bs≠b):KpM M Bs x X (X.setCell ⟨b,o,none⟩ v) :=
 ⟨⟨Below.heap_setCell X ⟨b,o,none⟩ v M hn,Below.heap_setCell X ⟨b,o,none⟩ v Bs hB⟩,by rw[World.size_setCell];exact Nat.le_refl _⟩
theorem kpM_ok {M Bs o k:Nat} {w:World} (hBw:Bs<w.heap.size) (hM:M<w.heap.size):KpOK (KpM M Bs) (some ⟨M,o,none⟩) k Bs w where
 refl:=fun x X=>KpM.refl _ _ _ _
 trans:=fun _ _ _ _ h k=>h.trans k
 size:=fun _ _ _ h=>h.2
 cells:=fun _ _ _ h ad e _=>by cases e;exact h.1.1
 bs:=fun _ _ _ h=>h.1.2
 grown:=fun _ X _ hg hs=>⟨⟨hg.block _ (by omega) (by simp),hg.block _ (by omega) (by simp)⟩,hg.size⟩
end Go.Proofs.YtoojdkaimhlcbaaGreat
namespace Go.Proofs.YtoojdkaimhlcbaaGreat
open Go Go.RowKit Go.Shelf
attribute [local go_sem] Oper.semAt_some
structure Pts (w:World) (V:Option Addr) (ps:List Pt):Prop where
 rows:RowsAt w V 2 (ps.map ptR)
 size:ps.length≤1000000
 sm:∀ p∈ps,SmP p
 own:∀ ad,V=some ad→0<ps.length→ad.block<w.heap.size
theorem Pts.below {w w':World} {V:Option Addr} {ps:List Pt} (h:Pts w V ps) (hb:Below w.heap.size w w'):Pts w' V ps :=
 ⟨h.rows.below hb,h.size,h.sm,fun ad e hl=>Nat.lt_of_lt_of_le (h.own ad e hl) hb.size⟩
theorem Pts.sd {w:World} {V:Option Addr} {ps:List Pt} (h:Pts w V ps) (k:Nat) (hk:k<ps.length):SmS (Cal.sd ps k):=by
 have hmod:(k+1) % ps.length<ps.length:=Nat.mod_lt _ (by omega)
 rw[sd_of (List.getElem?_eq_getElem hk) (List.getElem?_eq_getElem hmod)]
 exact⟨h.sm _ (List.getElem_mem _),h.sm _ (List.getElem_mem _)⟩
theorem kpS_put {n₀ Bs B:Nat} (hB:Bs<B) (hn:n₀≤B) (W:World) (l:Nat) (o o':Obj) (hl:B≤l) (ho:W.heap[l]?=some o) (x:Nat):KpS n₀ Bs x W (W.putObj l o') :=
 ⟨(Below.refl _ _).grown (grownBy_putObj' W l o') (by have:=(Array.getElem?_eq_some_iff.1 ho).1;omega) (fun k e=>by cases e;omega),World.putObj_heap_other (by omega)⟩
theorem KpS.below {n₀ Bs x:Nat} {X Y:World} (h:Below X.heap.size X Y) (hn:n₀≤X.heap.size) (hB:Bs<X.heap.size):KpS n₀ Bs x X Y:=⟨h.mono hn,h.block Bs hB⟩
theorem KpS.set {n₀ Bs x:Nat} {X:World} {b o:Nat} (v:Value) (hn:n₀≤b) (hB:Bs≠b):KpS n₀ Bs x X (X.setCell ⟨b,o,none⟩ v) :=
 ⟨(Below.refl _ _).setCell (p:=⟨b,o,none⟩) hn v,Below.heap_setCell X ⟨b,o,none⟩ v Bs hB⟩
theorem kpM_put {M Bs B:Nat} (hB:Bs<B) (hM:M<B) (W:World) (l:Nat) (o':Obj) (hl:B≤l) (x:Nat):KpM M Bs x W (W.putObj l o') :=
 ⟨⟨World.putObj_heap_other (by omega),World.putObj_heap_other (by omega)⟩,by simp⟩
theorem abG_keep (x:Nat) (X Y:World) (k:Nat) (o:Obj) (h:AbG x X Y) (hk:X.heap[k]?=some o):Y.heap[k]?=some o:=by
 rw[World.grownBy.block h k (Array.getElem?_eq_some_iff.1 hk).1 (by simp)];exact hk
theorem own_abG {β:Type} {B:Nat} {I:β→World→Prop} (hI:OwnFrom B I) (x:Nat) (k:β) (X Y:World) (h:I k X) (hg:AbG x X Y):I k Y:=hI k X Y none h hg (fun r e=>by cases e)
section
variable {n : Nat} {g : Operand} {qs : Array Tmp} {assign body : Code} {Q : Exit → Act → World → Prop} {a : Act} {w : World} {Bs n₀ : Nat} {V : Option Addr} {d : Nat} {ps : List Pt}
theorem wpIn_range_sides (h1:2≤n) (hg:a.eval g=.func (.func 71) #[] #[.pointer (some ⟨Bs,0,none⟩)]) (hq:qs.size=2)
  (hBs:w.cell? ⟨Bs,0,none⟩=some (.slice V ps.length d)) (hBw:Bs<w.heap.size) (hP:Pts w V ps) (hn:n₀≤w.heap.size) (hVn:∀ ad,V=some ad→0<ps.length→ad.block<n₀)
  (I:Nat→World→Prop) (Ix:Code→Nat→World→Prop) (hI:OwnFrom w.heap.size I) (hIx:∀ c,OwnFrom w.heap.size (Ix c)) (h0:I 0 w)
  (Ax:Nat × Sd→Act→World→Prop) (hAx:∀ x a',OwnFrom w.heap.size (fun (_:Unit) W=>Ax x a' W))
  (hassign:∀ (l:Nat) (k:Nat) (W:World) (K:Act→World→Prop),k<ps.length→I k W→(∀ a' W',KeepsFrom w.heap.size W W'→KpS n₀ Bs (w.heap.size+1+1) W W'→I k W'→Ax (k,Cal.sd ps k) a' W'→K a' W') →
   assign.wpIn (Fence.wide.inRound l) (n-1-1) Tryz.prog (Exit.then K (fun _ _ _=>False)) { tmps:=(qs.zip #[.int .i64 (k:Int),.agg #[.int .i64 (Cal.sd ps k).a.x,.int .i64 (Cal.sd ps k).a.y,.int .i64 (Cal.sd ps k).b.x,.int .i64 (Cal.sd ps k).b.y]]).foldl (fun t (p,v)=>t.setIfInBounds p v) a.tmps,defers:=[] } W)
  (hbody:∀ (l:Nat) (k:Nat) (a':Act) (W:World),w.heap.size≤l→(∃ r,W.heap[l]?=some (.loop r))→k<ps.length→I k W→Ax (k,Cal.sd ps k) a' W→body.wpIn (Fence.wide.inRound l) (n-1-1) Tryz.prog (ixPost w.heap.size (KpS n₀ Bs (w.heap.size+1+1)) (I (k+1)) (fun c=>Ix c k) W) a' W)
  (hdone:∀ (D:Nat) (W:World),w.heap.size≤D→I ps.length W→W.heap[D]?=some (.deferred (some []))→Q .normal { a with defers:={ target:=.collected D,args:=#[] } :: a.defers } W)
  (hstop:∀ (D:Nat) (c:Code) (k:Nat) (W:World),w.heap.size≤D→k<ps.length→Ix c k W→W.heap[D]?=some (.deferred (some []))→c.wpIn Fence.wide n Tryz.prog Q { a with defers:={ target:=.collected D,args:=#[] } :: a.defers } W) :
  (Code.rangeFunc g qs assign body).wpIn Fence.wide n Tryz.prog Q a w:=by
 have at_:∀ {k:Nat} {x:Nat × Sd},(sdsI ps)[k]?=some x→k<ps.length∧x=(k,Cal.sd ps k):=fun {k x} h=>by
  have hk:k<ps.length:=by have:=(List.getElem?_eq_some_iff.1 h).1;rwa [sdsI_length] at this
  rw[sdsI_at hk] at h
  exact⟨hk,(Option.some.inj h).symm⟩
 refine wpIn_rangeFunc_ix rfl (by omega) hg trivial (enters_of Tryz.func71 (by kernel_rfl) rfl)
  (sides_ix (n-1) (by omega) Bs n₀ V d ps w hBs hBw hP.rows hVn hn hP.size) (fun X Y k o hab _ hk _=>abG_keep _ X Y k o hab hk) KpS.trans
  (fun W l o o' hl _ ho _ _=>kpS_put hBw hn W l o o' hl ho _) (Below.refl _ _) (fun x=>hq.symm ▸ rfl) I Ix hI hIx (fun k X Y h hab=>own_abG hI _ k X Y h hab) (fun c k X Y h hab=>own_abG (hIx c) _ k X Y h hab) h0 Ax hAx
  (fun l k x W K hx hi hK=>?_) (fun l k x a' W hl hr hx hi hax=>?_) (fun D W hD hi hdd=>?_) (fun D c k W hD hk hi hdd=>?_)
 ·obtain⟨hk,rfl⟩:=at_ hx
  exact hassign l k W K hk hi hK
 ·obtain⟨hk,rfl⟩:=at_ hx
  exact hbody l k a' W hl hr hk hi hax
 ·rw[sdsI_length] at hi
  exact hdone D W hD hi hdd
 rw[sdsI_length] at hk
 exact hstop D c k W hD hk hi hdd
theorem wpIn_range_sidesN {l₀:Nat} {r₀:Loop} (hl₀:w.heap[l₀]?=some (.loop r₀)) (h1:2≤n) (hg:a.eval g=.func (.func 71) #[] #[.pointer (some ⟨Bs,0,none⟩)]) (hq:qs.size=2)
  (hBs:w.cell? ⟨Bs,0,none⟩=some (.slice V ps.length d)) (hBw:Bs<w.heap.size) (hP:Pts w V ps) (hn:n₀≤w.heap.size) (hVn:∀ ad,V=some ad→0<ps.length→ad.block<n₀)
  (I:Nat→World→Prop) (Ix:Code→Nat→World→Prop) (hI:OwnFrom w.heap.size I) (hIx:∀ c,OwnFrom w.heap.size (Ix c)) (h0:I 0 w)
  (Ax:Nat × Sd→Act→World→Prop) (hAx:∀ x a',OwnFrom w.heap.size (fun (_:Unit) W=>Ax x a' W))
  (hassign:∀ (l:Nat) (k:Nat) (W:World) (K:Act→World→Prop),k<ps.length→I k W→(∀ a' W',KeepsFrom w.heap.size W W'→KpS n₀ Bs (w.heap.size+1) W W'→I k W'→Ax (k,Cal.sd ps k) a' W'→K a' W') →
   assign.wpIn ((Fence.wide.inRound l₀).inRound l) (n-1-1) Tryz.prog (Exit.then K (fun _ _ _=>False)) { tmps:=(qs.zip #[.int .i64 (k:Int),.agg #[.int .i64 (Cal.sd ps k).a.x,.int .i64 (Cal.sd ps k).a.y,.int .i64 (Cal.sd ps k).b.x,.int .i64 (Cal.sd ps k).b.y]]).foldl (fun t (p,v)=>t.setIfInBounds p v) a.tmps,defers:=[] } W)
  (hbody:∀ (l:Nat) (k:Nat) (a':Act) (W:World),w.heap.size≤l→(∃ r,W.heap[l]?=some (.loop r))→k<ps.length→I k W→Ax (k,Cal.sd ps k) a' W→body.wpIn ((Fence.wide.inRound l₀).inRound l) (n-1-1) Tryz.prog (ixPost w.heap.size (KpS n₀ Bs (w.heap.size+1)) (I (k+1)) (fun c=>Ix c k) W) a' W)
  (hdone:∀ (W:World),I ps.length W→Q .normal a W)
  (hstop:∀ (c:Code) (k:Nat) (W:World),k<ps.length→Ix c k W→c.wpIn (Fence.wide.inRound l₀) n Tryz.prog Q a W) :
  (Code.rangeFunc g qs assign body).wpIn (Fence.wide.inRound l₀) n Tryz.prog Q a w:=by
 have at_:∀ {k:Nat} {x:Nat × Sd},(sdsI ps)[k]?=some x→k<ps.length∧x=(k,Cal.sd ps k):=fun {k x} h=>by
  have hk:k<ps.length:=by have:=(List.getElem?_eq_some_iff.1 h).1;rwa [sdsI_length] at this
  rw[sdsI_at hk] at h
  exact⟨hk,(Option.some.inj h).symm⟩
 refine wpIn_rangeFunc_ixN (l₀:=l₀) (r₀:=r₀) rfl hl₀ (by omega) hg trivial (enters_of Tryz.func71 (by kernel_rfl) rfl)
  ((sides_ix (n-1) (by omega) Bs n₀ V d ps w hBs hBw hP.rows hVn hn hP.size).inRound l₀) (fun X Y k o hab _ hk _=>abG_keep _ X Y k o hab hk) KpS.trans
  (fun W l o o' hl _ ho _ _=>kpS_put hBw hn W l o o' hl ho _) (Below.refl _ _) (fun x=>hq.symm ▸ rfl) I Ix hI hIx (fun k X Y h hab=>own_abG hI _ k X Y h hab) (fun c k X Y h hab=>own_abG (hIx c) _ k X Y h hab) h0 Ax hAx
  (fun l k x W K hx hi hK=>?_) (fun l k x a' W hl hr hx hi hax=>?_) (fun W hi=>?_) (fun c k W hk hi=>?_)
 ·obtain⟨hk,rfl⟩:=at_ hx
  exact hassign l k W K hk hi hK
 ·obtain⟨hk,rfl⟩:=at_ hx
  exact hbody l k a' W hl hr hk hi hax
 ·rw[sdsI_length] at hi
  exact hdone W hi
 rw[sdsI_length] at hk
 exact hstop c k W hk hi
theorem wpIn_sides1 (h1:2≤n) (hg:a.eval g=.func (.func 71) #[] #[.pointer (some ⟨Bs,0,none⟩)]) (hq:qs.size=2)
  (hBs:w.cell? ⟨Bs,0,none⟩=some (.slice V ps.length d)) (hBw:Bs<w.heap.size) (hP:Pts w V ps) (hn:n₀≤w.heap.size) (hVn:∀ ad,V=some ad→0<ps.length→ad.block<n₀)
  (I:Nat→World→Prop) (Ix:Code→Nat→World→Prop) (hI:OwnFrom w.heap.size I) (hIx:∀ c,OwnFrom w.heap.size (Ix c)) (h0:I 0 w)
  (Af:Array Value→Nat→Sd→Nat→Array Value)
  (hassign:∀ (l:Nat) (k:Nat) (W:World) (K:Act→World→Prop),k<ps.length→I k W→(∀ By W',w.heap.size≤By→KeepsFrom w.heap.size W W'→KpS n₀ Bs (w.heap.size+1+1) W W'→I k W'→BoxAt W' By [.int .i64 (Cal.sd ps k).a.x,.int .i64 (Cal.sd ps k).a.y,.int .i64 (Cal.sd ps k).b.x,.int .i64 (Cal.sd ps k).b.y]→K { tmps:=Af a.tmps k (Cal.sd ps k) By,defers:=[] } W') →
   assign.wpIn (Fence.wide.inRound l) (n-1-1) Tryz.prog (Exit.then K (fun _ _ _=>False)) { tmps:=(qs.zip #[.int .i64 (k:Int),.agg #[.int .i64 (Cal.sd ps k).a.x,.int .i64 (Cal.sd ps k).a.y,.int .i64 (Cal.sd ps k).b.x,.int .i64 (Cal.sd ps k).b.y]]).foldl (fun t (p,v)=>t.setIfInBounds p v) a.tmps,defers:=[] } W)
  (hbody:∀ (l:Nat) (k:Nat) (By:Nat) (W:World),w.heap.size≤l→(∃ r,W.heap[l]?=some (.loop r))→k<ps.length→I k W→w.heap.size≤By→BoxAt W By [.int .i64 (Cal.sd ps k).a.x,.int .i64 (Cal.sd ps k).a.y,.int .i64 (Cal.sd ps k).b.x,.int .i64 (Cal.sd ps k).b.y]→body.wpIn (Fence.wide.inRound l) (n-1-1) Tryz.prog (ixPost w.heap.size (KpS n₀ Bs (w.heap.size+1+1)) (I (k+1)) (fun c=>Ix c k) W) { tmps:=Af a.tmps k (Cal.sd ps k) By,defers:=[] } W)
  (hdone:∀ (D:Nat) (W:World),w.heap.size≤D→I ps.length W→W.heap[D]?=some (.deferred (some []))→Q .normal { a with defers:={ target:=.collected D,args:=#[] } :: a.defers } W)
  (hstop:∀ (D:Nat) (c:Code) (k:Nat) (W:World),w.heap.size≤D→k<ps.length→Ix c k W→W.heap[D]?=some (.deferred (some []))→c.wpIn Fence.wide n Tryz.prog Q { a with defers:={ target:=.collected D,args:=#[] } :: a.defers } W) :
  (Code.rangeFunc g qs assign body).wpIn Fence.wide n Tryz.prog Q a w :=
 wpIn_range_sides h1 hg hq hBs hBw hP hn hVn I Ix hI hIx h0
  (fun x a' W=>∃ By,w.heap.size≤By∧BoxAt W By [.int .i64 x.2.a.x,.int .i64 x.2.a.y,.int .i64 x.2.b.x,.int .i64 x.2.b.y]∧a'={ tmps:=Af a.tmps x.1 x.2 By,defers:=[] })
  (fun x a' _ X Y row hs hg hr=>by obtain⟨By,e1,e2,e3⟩:=hs;exact⟨By,e1,e2.keptF hg (fun r e=>(hr r e).2),e3⟩)
  (fun l k W K hk hi hK=>hassign l k W K hk hi (fun By W' h1 h2 h3 h4 h5=>hK _ _ h2 h3 h4 ⟨By,h1,h5,rfl⟩))
  (fun l k a' W hl hr hk hi hax=>by obtain⟨By,h1,h2,rfl⟩:=hax;exact hbody l k By W hl hr hk hi h1 h2) hdone hstop
theorem wpIn_sides1N {l₀:Nat} {r₀:Loop} (hl₀:w.heap[l₀]?=some (.loop r₀)) (h1:2≤n) (hg:a.eval g=.func (.func 71) #[] #[.pointer (some ⟨Bs,0,none⟩)]) (hq:qs.size=2)
  (hBs:w.cell? ⟨Bs,0,none⟩=some (.slice V ps.length d)) (hBw:Bs<w.heap.size) (hP:Pts w V ps) (hn:n₀≤w.heap.size) (hVn:∀ ad,V=some ad→0<ps.length→ad.block<n₀)
  (I:Nat→World→Prop) (Ix:Code→Nat→World→Prop) (hI:OwnFrom w.heap.size I) (hIx:∀ c,OwnFrom w.heap.size (Ix c)) (h0:I 0 w)
  (Af:Array Value→Nat→Sd→Nat→Array Value)
  (hassign:∀ (l:Nat) (k:Nat) (W:World) (K:Act→World→Prop),k<ps.length→I k W→(∀ By W',w.heap.size≤By→KeepsFrom w.heap.size W W'→KpS n₀ Bs (w.heap.size+1) W W'→I k W'→BoxAt W' By [.int .i64 (Cal.sd ps k).a.x,.int .i64 (Cal.sd ps k).a.y,.int .i64 (Cal.sd ps k).b.x,.int .i64 (Cal.sd ps k).b.y]→K { tmps:=Af a.tmps k (Cal.sd ps k) By,defers:=[] } W') →
   assign.wpIn ((Fence.wide.inRound l₀).inRound l) (n-1-1) Tryz.prog (Exit.then K (fun _ _ _=>False)) { tmps:=(qs.zip #[.int .i64 (k:Int),.agg #[.int .i64 (Cal.sd ps k).a.x,.int .i64 (Cal.sd ps k).a.y,.int .i64 (Cal.sd ps k).b.x,.int .i64 (Cal.sd ps k).b.y]]).foldl (fun t (p,v)=>t.setIfInBounds p v) a.tmps,defers:=[] } W)
  (hbody:∀ (l:Nat) (k:Nat) (By:Nat) (W:World),w.heap.size≤l→(∃ r,W.heap[l]?=some (.loop r))→k<ps.length→I k W→w.heap.size≤By→BoxAt W By [.int .i64 (Cal.sd ps k).a.x,.int .i64 (Cal.sd ps k).a.y,.int .i64 (Cal.sd ps k).b.x,.int .i64 (Cal.sd ps k).b.y]→body.wpIn ((Fence.wide.inRound l₀).inRound l) (n-1-1) Tryz.prog (ixPost w.heap.size (KpS n₀ Bs (w.heap.size+1)) (I (k+1)) (fun c=>Ix c k) W) { tmps:=Af a.tmps k (Cal.sd ps k) By,defers:=[] } W)
  (hdone:∀ (W:World),I ps.length W→Q .normal a W)
  (hstop:∀ (c:Code) (k:Nat) (W:World),k<ps.length→Ix c k W→c.wpIn (Fence.wide.inRound l₀) n Tryz.prog Q a W) :
  (Code.rangeFunc g qs assign body).wpIn (Fence.wide.inRound l₀) n Tryz.prog Q a w :=
 wpIn_range_sidesN hl₀ h1 hg hq hBs hBw hP hn hVn I Ix hI hIx h0
  (fun x a' W=>∃ By,w.heap.size≤By∧BoxAt W By [.int .i64 x.2.a.x,.int .i64 x.2.a.y,.int .i64 x.2.b.x,.int .i64 x.2.b.y]∧a'={ tmps:=Af a.tmps x.1 x.2 By,defers:=[] })
  (fun x a' _ X Y row hs hg hr=>by obtain⟨By,e1,e2,e3⟩:=hs;exact⟨By,e1,e2.keptF hg (fun r e=>(hr r e).2),e3⟩)
  (fun l k W K hk hi hK=>hassign l k W K hk hi (fun By W' h1 h2 h3 h4 h5=>hK _ _ h2 h3 h4 ⟨By,h1,h5,rfl⟩))
  (fun l k a' W hl hr hk hi hax=>by obtain⟨By,h1,h2,rfl⟩:=hax;exact hbody l k By W hl hr hk hi h1 h2) hdone hstop
theorem wpIn_range_sidesNM {M ofs:Nat} {l₀:Nat} {r₀:Loop} (hl₀:w.heap[l₀]?=some (.loop r₀)) (h1:2≤n) (hg:a.eval g=.func (.func 71) #[] #[.pointer (some ⟨Bs,0,none⟩)]) (hq:qs.size=2)
  (hBs:w.cell? ⟨Bs,0,none⟩=some (.slice (some ⟨M,ofs,none⟩) ps.length d)) (hBw:Bs<w.heap.size) (hP:Pts w (some ⟨M,ofs,none⟩) ps) (hM:M<w.heap.size)
  (I:Nat→World→Prop) (Ix:Code→Nat→World→Prop) (hI:OwnFrom w.heap.size I) (hIx:∀ c,OwnFrom w.heap.size (Ix c)) (h0:I 0 w)
  (Ax:Nat × Sd→Act→World→Prop) (hAx:∀ x a',OwnFrom w.heap.size (fun (_:Unit) W=>Ax x a' W))
  (hassign:∀ (l:Nat) (k:Nat) (W:World) (K:Act→World→Prop),k<ps.length→I k W→(∀ a' W',KeepsFrom w.heap.size W W'→KpM M Bs (w.heap.size+1) W W'→I k W'→Ax (k,Cal.sd ps k) a' W'→K a' W') →
   assign.wpIn ((Fence.wide.inRound l₀).inRound l) (n-1-1) Tryz.prog (Exit.then K (fun _ _ _=>False)) { tmps:=(qs.zip #[.int .i64 (k:Int),.agg #[.int .i64 (Cal.sd ps k).a.x,.int .i64 (Cal.sd ps k).a.y,.int .i64 (Cal.sd ps k).b.x,.int .i64 (Cal.sd ps k).b.y]]).foldl (fun t (p,v)=>t.setIfInBounds p v) a.tmps,defers:=[] } W)
  (hbody:∀ (l:Nat) (k:Nat) (a':Act) (W:World),w.heap.size≤l→(∃ r,W.heap[l]?=some (.loop r))→k<ps.length→I k W→Ax (k,Cal.sd ps k) a' W→body.wpIn ((Fence.wide.inRound l₀).inRound l) (n-1-1) Tryz.prog (ixPost w.heap.size (KpM M Bs (w.heap.size+1)) (I (k+1)) (fun c=>Ix c k) W) a' W)
  (hdone:∀ (W:World),I ps.length W→Q .normal a W)
  (hstop:∀ (c:Code) (k:Nat) (W:World),k<ps.length→Ix c k W→c.wpIn (Fence.wide.inRound l₀) n Tryz.prog Q a W) :
  (Code.rangeFunc g qs assign body).wpIn (Fence.wide.inRound l₀) n Tryz.prog Q a w:=by
 have at_:∀ {k:Nat} {x:Nat × Sd},(sdsI ps)[k]?=some x→k<ps.length∧x=(k,Cal.sd ps k):=fun {k x} h=>by
  have hk:k<ps.length:=by have:=(List.getElem?_eq_some_iff.1 h).1;rwa [sdsI_length] at this
  rw[sdsI_at hk] at h
  exact⟨hk,(Option.some.inj h).symm⟩
 refine wpIn_rangeFunc_ixN (l₀:=l₀) (r₀:=r₀) rfl hl₀ (by omega) hg trivial (enters_of Tryz.func71 (by kernel_rfl) rfl)
  ((sides_gen (n-1) (by omega) Bs (KpM M Bs) (some ⟨M,ofs,none⟩) d ps w (kpM_ok hBw hM) hBs hBw hP.rows hP.size).inRound l₀) (fun X Y k o hab _ hk _=>abG_keep _ X Y k o hab hk) KpM.trans
  (fun W l o o' hl _ ho _ _=>kpM_put hBw hM W l o' hl _) (Below.refl _ _) (fun x=>hq.symm ▸ rfl) I Ix hI hIx (fun k X Y h hab=>own_abG hI _ k X Y h hab) (fun c k X Y h hab=>own_abG (hIx c) _ k X Y h hab) h0 Ax hAx
  (fun l k x W K hx hi hK=>?_) (fun l k x a' W hl hr hx hi hax=>?_) (fun W hi=>?_) (fun c k W hk hi=>?_)
 ·obtain⟨hk,rfl⟩:=at_ hx
  exact hassign l k W K hk hi hK
 ·obtain⟨hk,rfl⟩:=at_ hx
  exact hbody l k a' W hl hr hk hi hax
 ·rw[sdsI_length] at hi
  exact hdone W hi
 rw[sdsI_length] at hk
 exact hstop c k W hk hi
theorem wpIn_sides1NM {M ofs:Nat} {l₀:Nat} {r₀:Loop} (hl₀:w.heap[l₀]?=some (.loop r₀)) (h1:2≤n) (hg:a.eval g=.func (.func 71) #[] #[.pointer (some ⟨Bs,0,none⟩)]) (hq:qs.size=2)
  (hBs:w.cell? ⟨Bs,0,none⟩=some (.slice (some ⟨M,ofs,none⟩) ps.length d)) (hBw:Bs<w.heap.size) (hP:Pts w (some ⟨M,ofs,none⟩) ps) (hM:M<w.heap.size)
  (I:Nat→World→Prop) (Ix:Code→Nat→World→Prop) (hI:OwnFrom w.heap.size I) (hIx:∀ c,OwnFrom w.heap.size (Ix c)) (h0:I 0 w)
  (Af:Array Value→Nat→Sd→Nat→Array Value)
  (hassign:∀ (l:Nat) (k:Nat) (W:World) (K:Act→World→Prop),k<ps.length→I k W→(∀ By W',w.heap.size≤By→KeepsFrom w.heap.size W W'→KpM M Bs (w.heap.size+1) W W'→I k W'→BoxAt W' By [.int .i64 (Cal.sd ps k).a.x,.int .i64 (Cal.sd ps k).a.y,.int .i64 (Cal.sd ps k).b.x,.int .i64 (Cal.sd ps k).b.y]→K { tmps:=Af a.tmps k (Cal.sd ps k) By,defers:=[] } W') →
   assign.wpIn ((Fence.wide.inRound l₀).inRound l) (n-1-1) Tryz.prog (Exit.then K (fun _ _ _=>False)) { tmps:=(qs.zip #[.int .i64 (k:Int),.agg #[.int .i64 (Cal.sd ps k).a.x,.int .i64 (Cal.sd ps k).a.y,.int .i64 (Cal.sd ps k).b.x,.int .i64 (Cal.sd ps k).b.y]]).foldl (fun t (p,v)=>t.setIfInBounds p v) a.tmps,defers:=[] } W)
  (hbody:∀ (l:Nat) (k:Nat) (By:Nat) (W:World),w.heap.size≤l→(∃ r,W.heap[l]?=some (.loop r))→k<ps.length→I k W→w.heap.size≤By→BoxAt W By [.int .i64 (Cal.sd ps k).a.x,.int .i64 (Cal.sd ps k).a.y,.int .i64 (Cal.sd ps k).b.x,.int .i64 (Cal.sd ps k).b.y]→body.wpIn ((Fence.wide.inRound l₀).inRound l) (n-1-1) Tryz.prog (ixPost w.heap.size (KpM M Bs (w.heap.size+1)) (I (k+1)) (fun c=>Ix c k) W) { tmps:=Af a.tmps k (Cal.sd ps k) By,defers:=[] } W)
  (hdone:∀ (W:World),I ps.length W→Q .normal a W)
  (hstop:∀ (c:Code) (k:Nat) (W:World),k<ps.length→Ix c k W→c.wpIn (Fence.wide.inRound l₀) n Tryz.prog Q a W) :
  (Code.rangeFunc g qs assign body).wpIn (Fence.wide.inRound l₀) n Tryz.prog Q a w :=
 wpIn_range_sidesNM hl₀ h1 hg hq hBs hBw hP hM I Ix hI hIx h0
  (fun x a' W=>∃ By,w.heap.size≤By∧BoxAt W By [.int .i64 x.2.a.x,.int .i64 x.2.a.y,.int .i64 x.2.b.x,.int .i64 x.2.b.y]∧a'={ tmps:=Af a.tmps x.1 x.2 By,defers:=[] })
  (fun x a' _ X Y row hs hg hr=>by obtain⟨By,e1,e2,e3⟩:=hs;exact⟨By,e1,e2.keptF hg (fun r e=>(hr r e).2),e3⟩)
  (fun l k W K hk hi hK=>hassign l k W K hk hi (fun By W' h1 h2 h3 h4 h5=>hK _ _ h2 h3 h4 ⟨By,h1,h5,rfl⟩))
  (fun l k a' W hl hr hk hi hax=>by obtain⟨By,h1,h2,rfl⟩:=hax;exact hbody l k By W hl hr hk hi h1 h2) hdone hstop
end
end Go.Proofs.YtoojdkaimhlcbaaGreat
namespace Go.Proofs.YtoojdkaimhlcbaaGreat
open Go Go.RowKit Go.Shelf
attribute [local go_sem] Oper.semAt_some
theorem SmP.box {p:Pt} (h:SmP p):-4000000≤p.x∧p.x≤4000000∧-4000000≤p.y∧p.y≤4000000:=by
 obtain⟨h0,h1,h2,h3⟩:=h
 omega
theorem crossV_box {a b:Pt} (ha:SmP a) (hb:SmP b):-2000000000000≤a.x*b.y-a.y*b.x∧a.x*b.y-a.y*b.x≤2000000000000:=by
 obtain⟨a0,a1,a2,a3⟩:=ha
 obtain⟨b0,b1,b2,b3⟩:=hb
 have h1:=mul_le_of (a:=a.x) (b:=b.y) (M:=1000000) (N:=1000000) a0 a1 b2 b3
 have h2:=mul_le_of (a:=a.y) (b:=b.x) (M:=1000000) (N:=1000000) a2 a3 b0 b1
 omega
theorem areaTo_box {w:World} {V:Option Addr} {ps:List Pt} (h:Pts w V ps):∀ k:Nat,k≤ps.length→-(2000000000000*(k:Int))≤Cal.areaTo ps k∧Cal.areaTo ps k≤2000000000000*(k:Int)
 | 0,_=>by simp[Cal.areaTo]
 | k+1,hk=>by
  have ih:=areaTo_box h k (by omega)
  have hs:=h.sd k (by omega)
  have:=crossV_box hs.a hs.b
  unfold Cal.areaTo
  omega
def ArI (w:World) (ps:List Pt) (k:Nat) (W:World):Prop:=BoxAt W w.heap.size [.int .i64 (Cal.areaTo ps k)]∧Below w.heap.size w W∧w.heap.size+2≤W.heap.size
theorem arI_own (w:World) (ps:List Pt) (B:Nat) (hB:w.heap.size≤B):OwnFrom B (ArI w ps):=fun pre X Y row hs hg hr=>by
 obtain⟨b,hb,hz⟩:=hs
 exact⟨b.keptF hg (fun r e=>(hr r e).2),ownFrom_below (β:=Unit) (Nat.le_refl _) hB () X Y row hb hg hr,Nat.le_trans hz hg.size⟩
theorem area_any (V:Option Addr) (d:Nat) (ps:List Pt) (w:World) (hP:Pts w V ps) :
  Calls Tryz.prog 34 #[.slice V ps.length d] w fun e w'=>e=.returned (.int .i64 (Cal.areaP ps))∧Below w.heap.size w w':=by
 refine (callsIn_wide (n:=4)).1 ?_
 refine callsIn_of_wp_marks Tryz.func34 rfl trivial ?_ rfl
 simp only[Tryz.ntmps34,List.size_toArray,List.length_cons,List.length_nil,Nat.reduceAdd,Nat.reduceSub,Array.replicate_succ,Array.replicate_zero,List.push_toArray,List.append_toArray,List.nil_append,List.cons_append]
 gi_wp2_with (refine⟨trivial,?_⟩;gi_at_call 52;refine (callsIn_wide.2 (sides_any _ _ _ _)).mono ?_;rintro e w' ⟨rfl,rfl⟩)
 have bA:=(BoxAt.new w #[.int .i64 0] 3).alloc (.cells #[.slice V ps.length d] 44)
 have bS:=BoxAt.new (w.alloc (.cells #[.int .i64 0] 3)) #[.slice V ps.length d] 44
 have hB0:Below w.heap.size w ((w.alloc (.cells #[.int .i64 0] 3)).alloc (.cells #[.slice V ps.length d] 44)):=below_step (below_alloc _ _) (below_alloc _ _)
 have hs0:((w.alloc (.cells #[.int .i64 0] 3)).alloc (.cells #[.slice V ps.length d] 44)).heap.size=w.heap.size+2:=by simp
 simp only[World.size_alloc] at bS
 obtain⟨W0,hW0⟩:∃ W0,(w.alloc (.cells #[.int .i64 0] 3)).alloc (.cells #[.slice V ps.length d] 44)=W0:=⟨_,rfl⟩
 rw[hW0] at bA bS hB0 hs0 ⊢
 clear hW0
 have hP0:=hP.below hB0
 refine wpIn_range_sides (Bs:=w.heap.size+1) (n₀:=w.heap.size) (V:=V) (d:=d) (ps:=ps) (by omega) rfl rfl (bS.c 0 _ rfl) (by omega) hP0 (by omega) hP.own
  (ArI w ps) (fun _ _ _=>False) (arI_own w ps _ (by omega)) (fun _ _ _ _ _ h=>h.elim) ⟨bA,hB0,by omega⟩
  (fun x a' W=>∃ Bx,W0.heap.size≤Bx∧BoxAt W Bx [.int .i64 x.2.a.x,.int .i64 x.2.a.y,.int .i64 x.2.b.x,.int .i64 x.2.b.y]∧a'={ tmps:=#[.slice V ps.length d,undef,.int .i64 0,.pointer (some ⟨w.heap.size,0,none⟩),undef,.pointer (some ⟨Bx,0,none⟩),.slice V ps.length d,.func (.func 71) #[] #[.pointer (some ⟨w.heap.size+1,0,none⟩)],.int .i64 (x.1:Int),.agg #[.int .i64 x.2.a.x,.int .i64 x.2.a.y,.int .i64 x.2.b.x,.int .i64 x.2.b.y],undef,undef,undef,undef,undef,undef,undef,undef],defers:=[] })
  (fun x a' _ X Y row hs hg hr=>by obtain⟨Bx,e1,e2,e3⟩:=hs;exact⟨Bx,e1,e2.keptF hg (fun r e=>(hr r e).2),e3⟩)
  ?assign ?body ?done ?stop
 case assign =>
  rintro l k W K hk ⟨hb,hB,hz⟩ hK
  gi_wp2
  exact hK _ _ ((KeepsOthers.alloc _ _).from _) (KpS.below (below_alloc _ _) hB.size (by omega)) ⟨hb.alloc _,hB.alloc hB.size _,by simp;omega⟩ ⟨W.heap.size,by omega,BoxAt.new W #[.int .i64 (Cal.sd ps k).a.x,.int .i64 (Cal.sd ps k).a.y,.int .i64 (Cal.sd ps k).b.x,.int .i64 (Cal.sd ps k).b.y] _,rfl⟩
 case body =>
  rintro l k a' W hl ⟨r,hr⟩ hk ⟨hb,hB,hz⟩ ⟨Bx,hBx,bX,rfl⟩
  have hsd:=hP.sd k hk
  have hbox:=areaTo_box hP k (by omega)
  have hbox2:=areaTo_box hP (k+1) hk
  have hsz:=hP.size
  have hstep:Hid (Cal.areaTo ps (k+1)=Cal.areaTo ps k+((Cal.sd ps k).a.x*(Cal.sd ps k).b.y-(Cal.sd ps k).a.y*(Cal.sd ps k).b.x)):=rfl
  rw[hstep.out] at hbox2
  have c0:=hb.c 0 _ rfl
  have f0:=hb.free 0 Nat.zero_lt_one
  obtain⟨e0,e1,e2,e3⟩:=bX.c4
  dsimp only at e0 e1 e2 e3
  generalize Cal.sd ps k=s at *
  generalize Cal.areaTo ps k=acc at *
  have hwr:IntKind.i64.wrap (acc+(s.a.x*s.b.y-s.a.y*s.b.x))=acc+(s.a.x*s.b.y-s.a.y*s.b.x):=wrap_small (by omega) (by omega)
  have hAll:=Lib.hid (And.intro hb (And.intro hB hz))
  clear hb hB bX
  gi_wp2
  refine wpIn_region_heldY (S:=Sx W [(w.heap.size,0,.int .i64 acc),(Bx,0,.int .i64 s.a.x),(Bx,1,.int .i64 s.a.y),(Bx,2,.int .i64 s.b.x),(Bx,3,.int .i64 s.b.y)]) 7 (by kernel_rfl) (Sx.mk (by simp only[cs_iff_cons];exact⟨c0,e0,e1,e2,e3,cs_nil _⟩) (Below.refl _ _)).drew (fun hHeld=>?_)
  refine tkYx 0 10 ?_
  refine tkYx 1 11 ?_
  refine tkYx 2 12 ?_
  refine tkYx 3 13 ?_
  refine tkYx 4 14 ?_
  (refine ratY 5 (fun _=>trivial) (by decide +kernel) rfl (fun K hK=>?_);rw[if_pos (by kernel_rfl)];go_simp)
  refine⟨trivial,?_⟩
  refine (callsIn_wide.2 (cross_any s.a s.b _ hsd.a.box hsd.b.box)).mono ?_
  rintro e wn ⟨rfl,hbn⟩
  go_simp
  (refine hK.out _ _ (hHeld.step hbn) (fun hHeld=>?_);clear hK K;(try simp only[apS,apN,siA,scZ,scS]))
  refine tkYx 6 16 ?_
  have f1:wn.frozen? ⟨w.heap.size,0,none⟩=false:=((hAll.out.1.below hHeld.bel).free 0 Nat.zero_lt_one)
  have h0:=hHeld.cs
  simp only[cs_iff_cons] at h0
  obtain⟨h0,_⟩:=h0
  (refine ratYc 7 (fun _=>trivial) (by decide +kernel) rfl (by decide +kernel) (fun K hK=>?_);rw[if_pos (by kernel_rfl)];go_simp;refine hK.out _ _ ?_;clear hK K;(try simp only[apS,apN,siA,scZ,scS]))
  refine wpAnyInY_done (by decide +kernel) ?_ _
  refine⟨((keepsF_below hHeld.bel).trans (KeepsOthers.setCell _ _ _)).from _,(KpS.below hHeld.bel (by omega) (by omega)).trans (KpS.set _ (Nat.le_refl _) (by omega)),?_,?_,?_⟩
  ·rw[hstep.out]
   exact (hAll.out.1.below hHeld.bel).set 0 _ Nat.zero_lt_one
  ·exact (hAll.out.2.1.trans (hHeld.bel.mono hAll.out.2.1.size)).setCell (p:=⟨w.heap.size,0,none⟩) (Nat.le_refl _) _
  have:=hHeld.bel.size
  rw[World.size_setCell]
  omega
 case done =>
  rintro D W hD ⟨hb,hB,hz⟩ hK
  have c0:=hb.c 0 _ rfl
  have hAll:=Lib.hid (And.intro hb (And.intro hB hK))
  clear hb hB hK
  gi_wp2
  obtain⟨hb,hB,hK⟩:=hAll.out
  refine⟨by simp,.inl ⟨_,_,rfl,run_takeDeferred hK,?_⟩⟩
  exact⟨_,results_tmp (t:=2) rfl _ _ _,rfl,belowF_put hB (by omega) _⟩
 case stop =>
  rintro D c k W hD hk h
  exact h.elim
end Go.Proofs.YtoojdkaimhlcbaaGreat
