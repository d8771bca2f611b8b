/- What the statements rest on: definitions and walks, part 17. -/
import Derived.Test.YthfokpchdlcidaaGreatJ16
import Derived.Ground.SlsfProg
import Derived.Shelf.SlSortCmp.NoneTotal
set_option maxRecDepth 100000
set_option maxHeartbeats 16000000
set_option linter.unusedSimpArgs false
set_option linter.unusedVariables false
namespace Go.Proofs.YthfokpchdlcidaaGreat
open Go Go.RowKit Go.Shelf
structure RB where
 old : ByteArray
 new : ByteArray
def rb0 : RB:=⟨⟨#[]⟩,⟨#[]⟩⟩
def rbR (x : RB) : List Value:=[.string x.old,.string x.new]
def RB.txt (x : RB) : Rn:=⟨x.old.toList,x.new.toList⟩
def rbB (p q : RB) : Bool:=p.old.toList == q.old.toList && p.new.toList == q.new.toList
theorem bytes_ext {a b : ByteArray} (h : a.toList = b.toList) : a = b:=by
 rw [ByteArray.toList_eq,ByteArray.toList_eq] at h
 cases a;cases b
 rw [ByteArray.mk.injEq]
 exact Array.toList_inj.1 h
theorem rbB_iff {p q : RB} : rbB p q = true ↔ p = q:=by
 unfold rbB
 rw [Bool.and_eq_true,beq_iff_eq,beq_iff_eq]
 constructor
 ·rintro ⟨h1,h2⟩
  cases p;cases q
  rw [RB.mk.injEq]
  exact ⟨bytes_ext h1,bytes_ext h2⟩
 ·rintro rfl;exact ⟨rfl,rfl⟩
instance instRB : DecidableEq RB:=fun a b=>decidable_of_iff (rbB a b = true) rbB_iff
def rbAt (l : List RB) (i : Nat) : RB:=l[i]?.getD rb0
theorem rbAt_get {l : List RB} {i : Nat} (h : i < l.length) : l[i]? = some (rbAt l i):=by unfold rbAt;rw [List.getElem?_eq_getElem h];rfl
def AtN (w : World) (M : Nat) (l : List RB) : Prop:=∃ cs : List Value,BoxAt w M cs ∧ l.length * 2 ≤ cs.length ∧ ∀ (i : Nat) (q : RB),l[i]? = some q → cs[i * 2]? = some (.string q.old) ∧ cs[i * 2 + 1]? = some (.string q.new)
section
variable {w : World} {M : Nat} {l : List RB}
theorem AtN.lt (h : AtN w M l) : M < w.heap.size:=by obtain ⟨cs,hb,_⟩:=h;exact hb.lt
theorem AtN.below {w' : World} (h : AtN w M l) (hb : Below w.heap.size w w') : AtN w' M l:=by
 obtain ⟨cs,h0,h1,h2⟩:=h
 exact ⟨cs,h0.below hb,h1,h2⟩
theorem AtN.at_ (h : AtN w M l) {i : Nat} (hi : i < l.length) : w.cell? ⟨M,i * 2,none⟩ = some (.string (rbAt l i).old) ∧ w.cell? ⟨M,i * 2 + 1,none⟩ = some (.string (rbAt l i).new):=by
 obtain ⟨cs,hb,h1,h2⟩:=h
 obtain ⟨c0,c1⟩:=h2 i _ (rbAt_get hi)
 exact ⟨hb.c _ _ c0,hb.c _ _ c1⟩
theorem AtN.free (h : AtN w M l) {i : Nat} (hi : i < l.length) : w.frozen? ⟨M,i * 2,none⟩ = false ∧ w.frozen? ⟨M,i * 2 + 1,none⟩ = false:=by
 obtain ⟨cs,hb,h1,h2⟩:=h
 exact ⟨hb.free _ (by omega),hb.free _ (by omega)⟩
theorem AtN.set (h : AtN w M l) {i : Nat} (hi : i < l.length) (q : RB) : AtN ((w.setCell ⟨M,i * 2,none⟩ (.string q.old)).setCell ⟨M,i * 2 + 1,none⟩ (.string q.new)) M (l.set i q):=by
 obtain ⟨cs,hb,h1,h2⟩:=h
 refine ⟨_,(hb.set (i * 2) (.string q.old) (by omega)).set (i * 2 + 1) (.string q.new) (by rw [List.length_set];omega),by simp;omega,fun k r hr=>?_⟩
 by_cases e : k = i
 ·subst e
  rw [List.getElem?_set_self hi] at hr
  cases hr
  constructor
  ·rw [List.getElem?_set_ne (by omega),List.getElem?_set_self (by omega)]
  ·rw [List.getElem?_set_self (by rw [List.length_set];omega)]
 ·rw [List.getElem?_set_ne (by omega)] at hr
  rw [List.getElem?_set_ne (by omega),List.getElem?_set_ne (by omega),List.getElem?_set_ne (by omega),List.getElem?_set_ne (by omega)]
  exact h2 k r hr
theorem AtN.rows (h : AtN w M l) : RowsAt w (some ⟨M,0,none⟩) 2 (l.map rbR):=fun j r hr=>by
 rw [List.getElem?_map] at hr
 cases hq : l[j]? with
 | none=>rw [hq] at hr;cases hr
 | some q =>
  rw [hq] at hr
  cases hr
  have hj : j < l.length:=(List.getElem?_eq_some_iff.1 hq).1
  obtain ⟨c0,c1⟩:=h.at_ hj
  have hq' : rbAt l j = q:=by unfold rbAt;rw [hq];rfl
  rw [hq'] at c0 c1
  refine ⟨M,0,rfl,h.lt,fun i v hv=>?_⟩
  rw [Nat.zero_add]
  match i,hv with
  | 0,hv=>cases hv;exact c0
  | 1,hv=>cases hv;exact c1
end
def kpN (l : List RB) : Nat → List RB
 | 0=>[]
 | m + 1=>if m = 0 ∨ rbAt l m ≠ rbAt l (m - 1) then kpN l m ++ [rbAt l m] else kpN l m
theorem kpN_all {l : List RB} : ∀ {k : Nat},k ≤ l.length → (∀ i,0 < i → i < k → rbAt l i ≠ rbAt l (i - 1)) → kpN l k = l.take k
 | 0,_,_=>rfl
 | k + 1,hk,h=>by
  have ih:=kpN_all (k:=k) (by omega) (fun i h0 h1=>h i h0 (by omega))
  unfold kpN
  rw [if_pos,ih]
  ·rw [List.take_succ_eq_append_getElem (by omega)]
   congr 1
   unfold rbAt
   rw [List.getElem?_eq_getElem (by omega)]
   rfl
  ·by_cases h0 : k = 0
   ·exact .inl h0
   ·exact .inr (h k (by omega) (by omega))
theorem undRbs : (Tryz.prog).underlying 46 = some (.slice 69):=Tryz.underlying46
theorem szRb (w : World) : (Go.sizeOf ((Tryz.prog).elem 46)).run Tryz.prog w = .ok 2 w:=by kernel_rfl
theorem rb_eql (p q : RB) (w : World) : (binOp .eql 69 (.agg #[.string p.old,.string p.new]) (.agg #[.string q.old,.string q.new])).run Tryz.prog w = .ok (.bool (rbB p q)) w:=by
 have hu : (Tryz.prog).underlying 69 = _:=Tryz.underlying69
 have hs : (Tryz.prog).underlying 9 = _:=Tryz.underlying9
 go_simp
 unfold rbB
 by_cases hx : p.old.toList = q.old.toList
 ·rw [if_pos hx,hx,beq_self_eq_true,Bool.true_and]
  by_cases hy : p.new.toList = q.new.toList
  ·rw [if_pos hy,hy,beq_self_eq_true]
  ·rw [if_neg hy,beq_false_of_ne hy]
 ·rw [if_neg hx,beq_false_of_ne hx,Bool.false_and]
theorem rb_neq (p q : RB) (w : World) : (binOp .neq 69 (.agg #[.string p.old,.string p.new]) (.agg #[.string q.old,.string q.new])).run Tryz.prog w = .ok (.bool (!rbB p q)) w:=by
 have hu : (Tryz.prog).underlying 69 = _:=Tryz.underlying69
 have hs : (Tryz.prog).underlying 9 = _:=Tryz.underlying9
 go_simp
 unfold rbB
 by_cases hx : p.old.toList = q.old.toList
 ·rw [hx,beq_self_eq_true,Bool.true_and]
  by_cases hy : p.new.toList = q.new.toList
  ·rw [hy,beq_self_eq_true];simp
  ·rw [beq_false_of_ne hy];simp [hy]
 ·rw [beq_false_of_ne hx,Bool.false_and];simp [hx]
theorem cutFromN {M n c k : Nat} (hk : k < n) (hc : n ≤ c) (w' : World) : (Instr.slice 46 (.slice (some ⟨M,0,none⟩) n c) (some (.int .i64 k)) none none).run Tryz.prog w' = .ok (.slice (some ⟨M,k * 2,none⟩) (n - k) (c - k)) w':=by
 rw [run_slice_l w' 46 (some ⟨M,0,none⟩) n c undRbs .i64 k (by omega) (by omega),szRb]
 simp only [Result.andThen,sliced,Int.toNat_natCast]
 rw [if_neg (by omega),Option.map_some,addr_add,Nat.zero_add]
theorem cutToN {M n c k : Nat} (hk : k ≤ n) (hc : n ≤ c) (hc0 : 0 < c) (w' : World) : (Instr.slice 46 (.slice (some ⟨M,0,none⟩) n c) none (some (.int .i64 k)) none).run Tryz.prog w' = .ok (.slice (some ⟨M,0,none⟩) k c) w':=by
 rw [run_slice_h w' 46 (some ⟨M,0,none⟩) n c undRbs .i64 k (by omega) (by omega),szRb]
 simp only [Result.andThen,sliced,Int.toNat_natCast]
 rw [if_neg (by omega),Option.map_some,addr_add]
 simp
theorem AtN.clear {w : World} {M : Nat} {cur : List RB} {n k c : Nat} (h : AtN w M cur) (hl : cur.length = n) (hk : k < n) :
  ∃ w',(∀ ty,(Builtin.clear_ #[46] ty #[.slice (some ⟨M,k * 2,none⟩) (n - k) c]).run Tryz.prog w = .ok (.tuple #[]) w') ∧ AtN w' M (cur.take k) ∧ w.grownBy w' (some M):=by
 obtain ⟨cs,hb,h1,h2⟩:=h
 obtain ⟨vs,hvs⟩ : ∃ vs,vs = (Builtin.zeroCells #[.string ⟨#[]⟩,.string ⟨#[]⟩] (n - k)).toList:=⟨_,rfl⟩
 have hlen : vs.length = (n - k) * 2:=by rw [hvs];simp [Builtin.zeroCells]
 have hone : ∀ v ∈ vs,v.oneCell' = true:=fun v hv=>by
  rw [hvs] at hv
  simp only [Builtin.zeroCells,Array.toList_map,List.mem_map] at hv
  obtain ⟨i,_,rfl⟩:=hv
  have : i % 2 = 0 ∨ i % 2 = 1:=by omega
  rcases this with h | h <;> simp [h,Value.oneCell']
 have hst:=run_storeCells_cells (P:=Tryz.prog) M (k * 2) vs 0 w
  (fun j hj=>by
   have hj' : k * 2 + 0 + j < cs.length:=by omega
   rw [hb.c _ _ (List.getElem?_eq_getElem hj')];rfl)
  (fun j hj=>hb.free _ (by omega)) hone
 rw [Nat.add_zero] at hst
 refine ⟨w.setCells M (k * 2) vs,fun ty=>?_,?_,grown_setCells _ _ _ _⟩
 ·obtain ⟨m,hm⟩ : ∃ m,n - k = m + 1:=⟨n - k - 1,by omega⟩
  rw [hm] at hvs ⊢
  simp [Builtin.clear_,run_underlying undRbs,Value.cells,← hvs,hst]
 ·obtain ⟨cs',h3,h4,h5⟩:=BoxAt.setCells vs (k * 2) w cs hb (by omega)
  refine ⟨cs',h3,by rw [List.length_take];omega,fun i q hq=>?_⟩
  have hi : i < k:=by
   have:=(List.getElem?_eq_some_iff.1 hq).1
   rw [List.length_take] at this
   omega
  rw [List.getElem?_take,if_pos hi] at hq
  obtain ⟨a0,a1⟩:=h2 i q hq
  exact ⟨(h5 _ (by omega)).trans a0,(h5 _ (by omega)).trans a1⟩
theorem kpN_same {l : List RB} {m : Nat} (h0 : 0 < m) (h : rbAt l m = rbAt l (m - 1)) : kpN l (m + 1) = kpN l m:=by
 rw [kpN,if_neg]
 rintro (h1 | h1)
 ·omega
 ·exact h1 h
theorem kpN_next {l : List RB} {m : Nat} (h : rbAt l m ≠ rbAt l (m - 1)) : kpN l (m + 1) = kpN l m ++ [rbAt l m]:=by rw [kpN,if_pos (.inr h)]
theorem rbB_false {p q : RB} (h : p ≠ q) : rbB p q = false:=by
 cases hb : rbB p q
 ·rfl
 ·exact absurd (rbB_iff.1 hb) h
structure CpN (l cur : List RB) (m kk : Nat) : Prop where
 len : cur.length = l.length
 lt : kk < m
 kept : kpN l m = cur.take kk
 num : (kpN l m).length = kk
 rest : ∀ i,m - 1 ≤ i → i < l.length → rbAt cur i = rbAt l i
theorem CpN.same {l cur : List RB} {m kk : Nat} (h : CpN l cur m kk) (he : rbAt l m = rbAt l (m - 1)) : CpN l cur (m + 1) kk:=by
 obtain ⟨h1,h2,h3,h4,h5⟩:=h
 refine ⟨h1,by omega,?_,?_,fun i hi hl=>h5 i (by omega) hl⟩
 ·rw [kpN_same (by omega) he];exact h3
 ·rw [kpN_same (by omega) he];exact h4
theorem CpN.next {l cur : List RB} {m kk : Nat} (h : CpN l cur m kk) (hm : m < l.length) (he : rbAt l m ≠ rbAt l (m - 1)) : CpN l (cur.set kk (rbAt l m)) (m + 1) (kk + 1):=by
 obtain ⟨h1,h2,h3,h4,h5⟩:=h
 refine ⟨by rw [List.length_set];exact h1,by omega,?_,?_,fun i hi hl=>?_⟩
 ·rw [kpN_next he,h3]
  rw [List.take_succ_eq_append_getElem (by rw [List.length_set];omega),List.getElem_set_self,List.take_set_of_le (Nat.le_refl _)]
 ·rw [kpN_next he,List.length_append,h4];rfl
 ·have:=h5 i (by omega) hl
  unfold rbAt at this ⊢
  rw [List.getElem?_set_ne (by omega)]
  exact this
theorem CompactN_any (M c : Nat) (l : List RB) (w : World) (hl : AtN w M l) (h2 : 2 ≤ l.length) (hn : l.length ≤ 1000000) (hc : l.length ≤ c) :
  Calls Tryz.prog 96 #[.slice (some ⟨M,0,none⟩) l.length c] w fun e w' =>
   e = .returned (.slice (some ⟨M,0,none⟩) (kpN l l.length).length c) ∧ AtN w' M (kpN l l.length) ∧ w.grownBy w' (some M):=by
 have hl:=Lib.hid hl
 obtain ⟨n,hnn0⟩ : ∃ n,n = l.length:=⟨_,rfl⟩
 rw [← hnn0] at hn h2 hc ⊢
 have hnn:=Lib.hid hnn0
 clear hnn0
 have hmo : (Tryz.prog).follows Departure.mixedOrders = true:=by kernel_rfl
 have h2' : ¬ (n : Int) < 2:=by omega
 go_enter Tryz.func96,Tryz.ntmps96
 go_wp2_with fail
 go_loopw [3] (fun i wr=>∃ (k : Nat),1 ≤ k ∧ k ≤ n ∧ i = .int .i64 k ∧ Hid (∀ i,0 < i → i < k → rbAt l i ≠ rbAt l (i - 1)) ∧ Hid (AtN wr M l) ∧ Hid (w.grownBy wr (some M))) (fun i _=>n - (intOf i).toNat)
 case atStart=>exact ⟨1,by omega,by omega,rfl,fun i h0 h1=>by omega,hl.out,World.grownBy.refl _ _⟩
 case round =>
  obtain ⟨k,hk0,hk1,rfl,hD,hA,hG⟩:=hrel
  by_cases hlt : k < n
  ·have hj1 : k < l.length:=by rw [← hnn.out];exact hlt
   obtain ⟨a0,a1⟩:=hA.out.at_ hj1
   obtain ⟨b0,b1⟩:=hA.out.at_ (show k - 1 < l.length by omega)
   have hw1 : IntKind.i64.wrap ((k : Int) - 1) = (k : Int) - 1:=wrap_small (by omega) (by omega)
   have ht1 : ((k : Int) - 1).toNat = k - 1:=by omega
   have ht2 : (1 : Int) ≤ (k : Int):=by omega
   have ht3 : (k : Int) - 1 < (n : Int):=by omega
   have ht4 : (0 : Int) ≤ (k : Int) - 1:=by omega
   have ht5 : (k : Int) < (n : Int):=by omega
   have ht7 : k - 1 < n:=by omega
   obtain ⟨pj,hpj0⟩ : ∃ p,rbAt l k = p:=⟨_,rfl⟩
   obtain ⟨pq,hpq0⟩ : ∃ p,rbAt l (k - 1) = p:=⟨_,rfl⟩
   rw [hpj0] at a0 a1
   rw [hpq0] at b0 b1
   have hpj:=Lib.hid hpj0
   have hpq:=Lib.hid hpq0
   clear hpj0 hpq0
   have heq:=rb_eql pj pq
   have hAG:=Lib.hid (And.intro (hA.out.below ((Below.refl _ _).drew)) (hG.out.trans (grown_drewN _ 1 _)))
   by_cases he : pj = pq
   ·have hkp : Hid (CpN l l (k + 1) k):=by
     have hkl:=hnn.out
     have e1 : kpN l k = l.take k:=kpN_all (by omega) hD.out
     have e2:=kpN_same (l:=l) (m:=k) (by omega) (by rw [hpj.out,hpq.out];exact he)
     exact ⟨rfl,Nat.lt_succ_self _,by rw [e2];exact e1,by rw [e2,e1,List.length_take];omega,fun _ _ _=>rfl⟩
    have hpb : rbB pj pq = true:=rbB_iff.2 he
    rw [hpb] at heq
    have hct:=fun w'=>cutFromN (M:=M) (n:=n) (c:=c) hlt hc w'
    obtain ⟨N2,hN2⟩ : ∃ N2,N2 = n - k:=⟨_,rfl⟩
    obtain ⟨C2,hC2⟩ : ∃ C2,C2 = c - k:=⟨_,rfl⟩
    rw [← hN2,← hC2] at hct
    have hN2:=Lib.hid hN2
    have hN3 : Hid (N2 + k = n):=by show _ = _;have:=hN2.out;omega
    clear hD he hpb hA hG hC2
    go_wp2_with fail
    go_region_o
    go_wp2_with fail
    go_loopw [5,3] (fun i kv wr=>∃ (q kk : Nat) (cur : List RB),1 ≤ q ∧ q ≤ N2 ∧ i = .int .i64 q ∧ kv = .int .i64 kk ∧ Hid (CpN l cur (k + q) kk) ∧ Hid (AtN wr M cur) ∧ Hid (w.grownBy wr (some M))) (fun i _ _=>N2 - (intOf i).toNat)
    case atStart=>exact ⟨1,k,l,Nat.le_refl _,by have:=hN3.out;omega,rfl,rfl,hkp,hAG.out.1,hAG.out.2⟩
    case round =>
     clear hkp hAG
     obtain ⟨q,kk,cur,hq0,hq1,rfl,rfl,hC,hA,hG⟩:=hrel
     have hlen : Hid (cur.length = n):=by show _ = _;rw [hC.out.len,hnn.out]
     have hkm:=hC.out.lt
     by_cases hqn : q < N2
     ·have hm1 : k + q < l.length:=by have:=hnn.out;have:=hN3.out;omega
      have hm2 : k + q < cur.length:=by have:=hlen.out;have:=hN3.out;omega
      obtain ⟨a0,a1⟩:=hA.out.at_ hm2
      obtain ⟨b0,b1⟩:=hA.out.at_ (show k + q - 1 < cur.length by omega)
      rw [hC.out.rest _ (by omega) hm1] at a0 a1
      rw [hC.out.rest _ (by omega) (by omega)] at b0 b1
      obtain ⟨f0,f1⟩:=hA.out.free (show kk < cur.length by omega)
      obtain ⟨g0,g1⟩:=hA.out.at_ (show kk < cur.length by omega)
      have hsm:=Lib.hid (fun he=>hC.out.same he)
      have hnx:=Lib.hid (fun he=>hC.out.next hm1 he)
      have hst:=Lib.hid (hA.out.set (show kk < cur.length by omega) (rbAt l (k + q)))
      rw [show (k + q) * 2 = k * 2 + q * 2 by omega] at a0 a1
      rw [show (k + q - 1) * 2 = k * 2 + (q - 1) * 2 by omega] at b0 b1
      have hw1 : IntKind.i64.wrap ((q : Int) - 1) = (q : Int) - 1:=wrap_small (by omega) (by omega)
      have ht1 : ((q : Int) - 1).toNat = q - 1:=by omega
      have ht2 : (1 : Int) ≤ (q : Int):=by omega
      have ht3 : (q : Int) - 1 < (N2 : Int):=by omega
      have ht4 : (0 : Int) ≤ (q : Int) - 1:=by omega
      have ht5 : (q : Int) < (N2 : Int):=by omega
      have ht7 : q - 1 < N2:=by omega
      have ht8 : kk < n:=by have:=hN3.out;omega
      have ht9 : (kk : Int) < (n : Int):=by omega
      have hwk : IntKind.i64.wrap ((kk : Int) + 1) = (kk : Int) + 1:=wrap_small (by omega) (by omega)
      obtain ⟨pj,hpj0⟩ : ∃ p,rbAt l (k + q) = p:=⟨_,rfl⟩
      obtain ⟨pq,hpq0⟩ : ∃ p,rbAt l (k + q - 1) = p:=⟨_,rfl⟩
      rw [hpj0] at a0 a1 hst hnx hsm
      rw [hpq0] at b0 b1 hnx hsm
      clear hpj0 hpq0 hC
      have hne:=rb_neq pj pq
      have hAG:=Lib.hid (And.intro (hA.out.below ((Below.refl _ _).drew)) (hG.out.trans (grown_drewN _ 1 _)))
      by_cases he : pj = pq
      ·have hS2:=Lib.hid (hsm.out he)
       have hpb : rbB pj pq = true:=rbB_iff.2 he
       rw [hpb] at hne
       clear he hpb hsm hnx hst hA hG
       go_wp2_with fail
       go_region_o
       go_wp2_with fail
       go_roundw
       case rel=>exact ⟨q + 1,kk,cur,by omega,by omega,by go_num,rfl,hS2,hAG.out.1,hAG.out.2⟩
       case measure=>simp [intOf];omega
      ·have hS2:=Lib.hid (hnx.out he)
       have hpb : rbB pj pq = false:=rbB_false he
       rw [hpb] at hne
       have hGz:=Lib.hid (((hG.out.trans (grown_set wr M (kk * 2) (.string pj.old))).trans (grown_set _ M (kk * 2 + 1) (.string pj.new))).trans (grown_drewN _ 1 _))
       clear he hpb hsm hnx hA hG
       go_wp2_with fail
       go_region_o
       go_wp2_with fail
       go_roundw
       case rel=>exact ⟨q + 1,kk + 1,cur.set kk pj,by omega,by omega,by go_num,by go_num,hS2,hst.out.below ((Below.refl _ _).drew),hGz.out⟩
       case measure=>simp [intOf];omega
     ·obtain rfl : q = N2:=by omega
      have hkn : kk < n:=by have:=hN3.out;omega
      have hct2:=fun w'=>cutFromN (M:=M) (n:=n) (c:=c) hkn hc w'
      have hcu:=fun w'=>cutToN (M:=M) (n:=n) (c:=c) (show kk ≤ n by omega) hc (by omega) w'
      obtain ⟨w9,hcl,hA9,hG9⟩:=hA.out.clear (c:=c - kk) hlen.out hkn
      have hfin:=Lib.hid (And.intro hA9 (hG.out.trans hG9))
      have hkl : Hid (kpN l n = cur.take kk ∧ (kpN l n).length = kk):=by
       have:=hN3.out
       rw [show n = k + q by omega]
       exact ⟨hC.out.kept,hC.out.num⟩
      clear hA9 hG9 hA hG hC
      go_wp2_with fail
      go_ret
      refine ⟨by rw [hkl.out.2];rfl,by rw [hkl.out.1];exact hfin.out.1,hfin.out.2⟩
   ·have hD2 : Hid (∀ i,0 < i → i < k + 1 → rbAt l i ≠ rbAt l (i - 1)):=fun i h0 h1=>by
     by_cases e : i = k
     ·subst e;rw [hpj.out,hpq.out];exact he
     ·exact hD.out i h0 (by omega)
    have hpb : rbB pj pq = false:=rbB_false he
    rw [hpb] at heq
    clear hD he hpb hA hG
    go_wp2_with fail
    go_region_o
    go_wp2_with fail
    go_roundw
    case rel=>exact ⟨k + 1,by omega,by omega,by go_num,hD2,hAG.out.1,hAG.out.2⟩
    case measure=>simp [intOf];omega
  ·obtain rfl : k = n:=by omega
   have hfin : Hid (kpN l k = l):=by
    show _ = _
    rw [kpN_all (by rw [← hnn.out];exact Nat.le_refl _) hD.out,hnn.out,List.take_length]
   go_wp2_with fail
   go_ret
   refine ⟨by rw [hfin.out,← hnn.out];rfl,by rw [hfin.out];exact hA.out,hG.out⟩
end Go.Proofs.YthfokpchdlcidaaGreat
namespace Go.Proofs.YthfokpchdlcidaaGreat
open Go Go.RowKit
theorem rows_take {w : World} {A : Option Addr} {m : Nat} {rows : List (List Value)} (h : RowsAt w A m rows) (k : Nat) : RowsAt w A m (rows.take k):=fun j r hr=>by
 refine h j r ?_
 rw [List.getElem?_take] at hr
 split at hr
 ·exact hr
 ·cases hr
theorem rows_drop {w : World} {A : Option Addr} {m : Nat} {rows : List (List Value)} (h : RowsAt w A m rows) (k : Nat) : RowsAt w (A.map (·.add (k * m))) m (rows.drop k):=fun j r hr=>by
 rw [List.getElem?_drop] at hr
 obtain ⟨b,o,hA,hb,hc⟩:=h _ r hr
 refine ⟨b,o + k * m,?_,hb,fun i v hv=>?_⟩
 ·rw [hA,Option.map_some,addr_add]
 ·have:=hc i v hv
  rw [show o + k * m + (j * m + i) = o + ((k + j) * m + i) by rw [Nat.add_mul];omega]
  exact this
theorem OwnL.capN {w : World} {B c n : Nat} {E : TypeId} {m : Nat} {A : Option Addr} {rows : List (List Value)} (h : OwnL w B E m (.slice A n c) rows) : n = rows.length ∧ n ≤ c:=by
 obtain ⟨A0,c0,hv,hr⟩:=h.form
 simp only [Value.slice.injEq] at hv
 obtain ⟨rfl,rfl,rfl⟩:=hv
 refine ⟨rfl,?_⟩
 rcases h.own.2 with ⟨h1,h2⟩ | ⟨g,cap,cur,hv,_,_,h3,_⟩
 ·omega
 ·simp only [Value.slice.injEq,true_and] at hv;omega
theorem OwnL.head {t : TypeId} {w : World} {B c n : Nat} {E : TypeId} {m : Nat} {A : Option Addr} {rows : List (List Value)} (h : OwnL w B E m (.slice A n c) rows) (hu : Tryz.prog.underlying t = some (.slice (Tryz.prog.elem t))) (hz : ∀ w,(sizeOf (Tryz.prog.elem t)).run Tryz.prog w = .ok m w) {k : Nat} (hk : k ≤ n) :
  ∃ A1 c1,(∀ w',(Instr.slice t (.slice A n c) none (some (.int .i64 k)) none).run Tryz.prog w' = .ok (.slice A1 k c1) w') ∧ RowsAt w A1 m (rows.take k):=by
 obtain ⟨A0,c0,hv,hr⟩:=h.form
 obtain ⟨_,hcap⟩:=h.capN
 simp only [Value.slice.injEq] at hv
 obtain ⟨rfl,rfl,rfl⟩:=hv
 have hr1:=rows_take hr k
 refine ⟨if c = 0 then A else A.map (·.add (0 * m)),c - 0,fun w'=>?_,?_⟩
 ·rw [run_slice_h w' t A rows.length c hu .i64 k (by omega) (by omega),hz]
  simp [Result.andThen,sliced]
 ·split
  ·exact hr1
  ·have:=rows_drop hr1 0
   rw [List.drop_zero] at this
   exact this
theorem OwnL.tail {t : TypeId} {w : World} {B c n : Nat} {E : TypeId} {m : Nat} {A : Option Addr} {rows : List (List Value)} (h : OwnL w B E m (.slice A n c) rows) (hu : Tryz.prog.underlying t = some (.slice (Tryz.prog.elem t))) (hz : ∀ w,(sizeOf (Tryz.prog.elem t)).run Tryz.prog w = .ok m w) {k : Nat} (hk : k ≤ n) :
  ∃ A2 c2,(∀ w',(Instr.slice t (.slice A n c) (some (.int .i64 k)) none none).run Tryz.prog w' = .ok (.slice A2 (n - k) c2) w') ∧ RowsAt w A2 m (rows.drop k):=by
 obtain ⟨A0,c0,hv,hr⟩:=h.form
 obtain ⟨_,hcap⟩:=h.capN
 simp only [Value.slice.injEq] at hv
 obtain ⟨rfl,rfl,rfl⟩:=hv
 refine ⟨if c = k then A else A.map (·.add (k * m)),c - k,fun w'=>?_,?_⟩
 ·rw [run_slice_l w' t A rows.length c hu .i64 k (by omega) (by omega),hz]
  simp [Result.andThen,sliced]
 ·split
  ·have : rows.drop k = []:=List.drop_eq_nil_of_le (by omega)
   rw [this]
   exact RowsAt.nil _ _ _
  ·exact rows_drop hr k
theorem rows_far {w w' : World} {row : Option Nat} {A : Option Addr} {m : Nat} {rows : List (List Value)} (h : RowsAt w A m rows) (hg : w.grownBy w' row) (hne : ∀ a,A = some a → some a.block ≠ row) : RowsAt w' A m rows:=fun k r hr=>by
 obtain ⟨b,o,hA,hlt,hc⟩:=h k r hr
 exact ⟨b,o,hA,Nat.lt_of_lt_of_le hlt hg.size,fun j v hv=>hg.cell (hc j v hv) (show some b ≠ row from hne ⟨b,o,none⟩ hA)⟩
end Go.Proofs.YthfokpchdlcidaaGreat
namespace Go.Proofs
open Go.Shelf
def Tryz.laysSlF06_f95_ren : Go.Shelf.Ren:=⟨fun | 6=>95 | 15=>125 | 14=>124 | 28=>142 | 29=>143 | 20=>134 | 21=>135 | 22=>136 | 23=>137 | 24=>138 | 25=>139 | 26=>140 | 27=>141 | 46=>155 | 47=>156 | 48=>157 | 49=>158 | 50=>159 | 57=>164 | n=>n,fun | 22=>46 | 24=>69 | 25=>104 | 3=>3 | 39=>152 | 0=>0 | 53=>185 | 55=>187 | 4=>4 | 46=>178 | 45=>177 | 50=>182 | 5=>5 | 9=>9 | 66=>195 | 70=>198 | 76=>203 | 77=>60 | n=>n,fun | n=>n⟩
theorem Tryz.laysSlF06_f95 : Go.Proofs.SlLaysF0.n6 Tryz.prog Tryz.laysSlF06_f95_ren:={
 mixed:=by kernel_rfl
 f6:=⟨Tryz.f95.name,by decide,Tryz.func95.trans (congrArg some (by kernel_rfl))⟩
 f14:=⟨Tryz.f124.name,by decide,Tryz.func124.trans (congrArg some (by kernel_rfl))⟩
 f15:=Tryz.func125.trans (congrArg some (by kernel_rfl))
 f20:=⟨Tryz.f134.name,by decide,Tryz.func134.trans (congrArg some (by kernel_rfl))⟩
 f21:=⟨Tryz.f135.name,by decide,Tryz.func135.trans (congrArg some (by kernel_rfl))⟩
 f22:=⟨Tryz.f136.name,by decide,Tryz.func136.trans (congrArg some (by kernel_rfl))⟩
 f23:=⟨Tryz.f137.name,by decide,Tryz.func137.trans (congrArg some (by kernel_rfl))⟩
 f24:=⟨Tryz.f138.name,by decide,Tryz.func138.trans (congrArg some (by kernel_rfl))⟩
 f25:=⟨Tryz.f139.name,by decide,Tryz.func139.trans (congrArg some (by kernel_rfl))⟩
 f26:=⟨Tryz.f140.name,by decide,Tryz.func140.trans (congrArg some (by kernel_rfl))⟩
 f27:=⟨Tryz.f141.name,by decide,Tryz.func141.trans (congrArg some (by kernel_rfl))⟩
 f28:=Tryz.func142.trans (congrArg some (by kernel_rfl))
 f29:=Tryz.func143.trans (congrArg some (by kernel_rfl))
 f46:=⟨Tryz.f155.name,by decide,Tryz.func155.trans (congrArg some (by kernel_rfl))⟩
 f47:=Tryz.func156.trans (congrArg some (by kernel_rfl))
 f48:=Tryz.func157.trans (congrArg some (by kernel_rfl))
 f49:=⟨Tryz.f158.name,by decide,Tryz.func158.trans (congrArg some (by kernel_rfl))⟩
 f50:=⟨Tryz.f159.name,by decide,Tryz.func159.trans (congrArg some (by kernel_rfl))⟩
 f57:=⟨Tryz.f164.name,by decide,Tryz.func164.trans (congrArg some (by kernel_rfl))⟩
 t0:=Tryz.underlying0
 a0:=Tryz.isAgg0
 z0:=Tryz.sizeOf0
 v0:=Tryz.zeroValue0
 t3:=Tryz.underlying3
 a3:=Tryz.isAgg3
 z3:=Tryz.sizeOf3
 v3:=Tryz.zeroValue3
 t4:=Tryz.underlying4
 a4:=Tryz.isAgg4
 z4:=Tryz.sizeOf4
 v4:=Tryz.zeroValue4
 t5:=Tryz.underlying5
 a5:=Tryz.isAgg5
 z5:=Tryz.sizeOf5
 v5:=Tryz.zeroValue5
 t9:=Tryz.underlying9
 a9:=Tryz.isAgg9
 z9:=Tryz.sizeOf9
 v9:=Tryz.zeroValue9
 t22:=Tryz.underlying46
 a22:=Tryz.isAgg46
 z22:=Tryz.sizeOf46
 v22:=Tryz.zeroValue46
 t25:=Tryz.underlying104
 a25:=Tryz.isAgg104
 z25:=Tryz.sizeOf104
 v25:=Tryz.zeroValue104
 t39:=Tryz.underlying152
 a39:=Tryz.isAgg152
 z39:=Tryz.sizeOf152
 v39:=Tryz.zeroValue152
 t45:=Tryz.underlying177
 a45:=Tryz.isAgg177
 z45:=Tryz.sizeOf177
 v45:=Tryz.zeroValue177
 t46:=Tryz.underlying178
 a46:=Tryz.isAgg178
 z46:=Tryz.sizeOf178
 v46:=Tryz.zeroValue178
 t50:=Tryz.underlying182
 a50:=Tryz.isAgg182
 z50:=Tryz.sizeOf182
 v50:=Tryz.zeroValue182
 t53:=Tryz.underlying185
 a53:=Tryz.isAgg185
 z53:=Tryz.sizeOf185
 v53:=Tryz.zeroValue185
 t55:=Tryz.underlying187
 a55:=Tryz.isAgg187
 z55:=Tryz.sizeOf187
 v55:=Tryz.zeroValue187
 t66:=Tryz.underlying195
 a66:=Tryz.isAgg195
 z66:=Tryz.sizeOf195
 v66:=Tryz.zeroValue195
 t70:=Tryz.underlying198
 a70:=Tryz.isAgg198
 z70:=Tryz.sizeOf198
 v70:=Tryz.zeroValue198
 t76:=Tryz.underlying203
 a76:=Tryz.isAgg203
 z76:=Tryz.sizeOf203
 v76:=Tryz.zeroValue203
 t77:=Tryz.underlying60
 a77:=Tryz.isAgg60
 z77:=Tryz.sizeOf60
 v77:=Tryz.zeroValue60 }
open Go.RowKit Go.Lib Go.Sort in
theorem Tryz.sortQ_none {α : Type} [Inhabited α] (p : Option Addr) (cap : Nat) (fv : Value) (w : World) :
  Calls Tryz.prog 95 #[.slice p 0 cap,fv] w fun e w'=>e = .returned (.tuple #[]) ∧ w' = w:=AnyF.slices_SortFunc_none Tryz.laysSlF06_f95 p cap fv w
open Go.RowKit Go.Lib Go.Sort in
theorem Tryz.sortQ_total {α : Type} [Inhabited α] (k : Nat) (aE : ∀ w,(isAgg (Tryz.laysSlF06_f95_ren.t 24)).run Tryz.prog w = .ok true w) (zE : ∀ w,(Go.sizeOf (Tryz.laysSlF06_f95_ren.t 24)).run Tryz.prog w = .ok k w) (enc : α → List Value) (hk : ∀ x,(enc x).length = k) (h1 : ∀ x,∀ v ∈ enc x,v.oneCell' = true) (cf : α → α → Int) (hO : SWO (ltOf cf)) (g : Nat) (cb : Array Value) (blk off cap : Nat) (d : Array α) (w : World) (eg : ∀ args w,(callFunc g args).run Tryz.prog w = .ok (.enter g args) w) (hcmp : CmpLays Tryz.prog g cb enc k cf blk off d.size w) (hH : HoldsK enc k w blk off d) (hblk : blk < w.heap.size) (hsz : d.size < 4611686018427387904) (hT : ∀ x y,(ltOf cf) x y = false → (ltOf cf) y x = false → x = y) :
  Calls Tryz.prog 95 #[.slice (some ⟨blk,off,none⟩) d.size cap,.func (.func g) #[] cb] w fun e w' =>
   e = .returned (.tuple #[]) ∧ ∃ n os,w' = sortWorldK enc k w blk off n (d.toList.mergeSort fun x y=>!(ltOf cf) y x).toArray os:=AnyQ.slices_SortFunc_total Tryz.laysSlF06_f95 k aE zE enc hk h1 cf hO g cb blk off cap d w eg hcmp hH hblk hsz hT
end Go.Proofs
namespace Go.Proofs.YthfokpchdlcidaaGreat
open Go Go.RowKit Go.Sort Go.Lib
def rbOf (x : Rn) : RB:=⟨⟨x.old.toArray⟩,⟨x.new.toArray⟩⟩
theorem rbOf_txt (x : Rn) : (rbOf x).txt = x:=by
 unfold rbOf RB.txt
 rw [ByteArray.toList_eq,ByteArray.toList_eq]
theorem rbOf_rows (l : List Rn) : (l.map rbOf).map rbR = l.map rnR:=by rw [List.map_map];rfl
theorem txt_rows (l : List RB) : (l.map RB.txt).map rnR = l.map rbR:=by
 rw [List.map_map]
 refine List.map_congr_left fun x _=>?_
 show [encStr x.old.toList,encStr x.new.toList] = [.string x.old,.string x.new]
 rw [encStr,encStr,ByteArray.toList_eq,ByteArray.toList_eq]
theorem map_txt_of (l : List Rn) : (l.map rbOf).map RB.txt = l:=by
 rw [List.map_map]
 have : RB.txt ∘ rbOf = id:=funext fun x=>rbOf_txt x
 rw [this,List.map_id]
def RnL (w : World) (B : Nat) (v : Value) (l : List Rn) : Prop:=OwnL w B 69 2 v (l.map rnR)
theorem rb_wid (l : List RB) : ∀ r ∈ l.map rbR,r.length = 2:=fun r hr=>by obtain ⟨s,_,rfl⟩:=List.mem_map.1 hr;rfl
theorem rb_one (l : List RB) : ∀ r ∈ l.map rbR,∀ u ∈ r,u.oneCell' = true:=fun r hr u hu=>by
 obtain ⟨s,_,rfl⟩:=List.mem_map.1 hr
 simp only [rbR,List.mem_cons,List.not_mem_nil,or_false] at hu
 rcases hu with rfl | rfl <;> rfl
def rbCf (x y : RB) : Int:=rnCf x.txt y.txt
theorem rbCf_neg {x y : RB} : ltOf rbCf x y = true ↔ Cal.rlt x.txt y.txt:=by
 unfold ltOf rbCf
 rw [decide_eq_true_iff,rnCf_neg]
theorem rbCf_not {x y : RB} : ltOf rbCf x y = false ↔ ¬ Cal.rlt x.txt y.txt:=by rw [← rbCf_neg];simp
theorem rbCf_swo : SWO (ltOf rbCf) where
 irrefl:=fun x=>by rw [rbCf_not];exact Cal.rlt_irr _
 trans:=fun x y z h1 h2=>by rw [rbCf_neg] at *;exact Cal.rlt_trans h1 h2
 ntrans:=fun x y z h1 h2=>by
  rw [rbCf_not] at *
  intro h
  rcases Cal.rlt_tri x.txt y.txt with h3 | h3 | h3
  ·exact h1 h3
  ·rw [h3] at h;exact h2 h
  ·exact h2 (Cal.rlt_trans h3 h)
theorem rb_ext {x y : RB} (h : x.txt = y.txt) : x = y:=by
 obtain ⟨a,b⟩:=x
 obtain ⟨c,d⟩:=y
 unfold RB.txt at h
 rw [Rn.mk.injEq] at h
 rw [RB.mk.injEq]
 exact ⟨bytes_ext h.1,bytes_ext h.2⟩
theorem rbCf_total (x y : RB) (h1 : ltOf rbCf x y = false) (h2 : ltOf rbCf y x = false) : x = y:=by
 rw [rbCf_not] at h1 h2
 rcases Cal.rlt_tri x.txt y.txt with h3 | h3 | h3
 ·exact absurd h3 h1
 ·exact rb_ext h3
 ·exact absurd h3 h2
theorem flatK_listN {α : Type} [Inhabited α] (enc : α → List Value) (k : Nat) (hk0 : 0 < k) (hk : ∀ x,(enc x).length = k) (d : Array α) : (flatK enc k d).toList = (d.toList.map enc).flatten:=by
 have hwid : ∀ r ∈ d.toList.map enc,r.length = k:=fun r hr=>by obtain ⟨x,_,rfl⟩:=List.mem_map.1 hr;exact hk x
 have hlen : (d.toList.map enc).flatten.length = d.size * k:=by rw [flat_len hwid];simp
 apply List.ext_getElem
 ·rw [hlen,Array.length_toList,size_flatK]
 ·intro t h1 h2
  rw [hlen] at h2
  have hd : t / k < d.size:=by
   rw [Nat.div_lt_iff_lt_mul hk0];exact h2
  have hm : t % k < k:=Nat.mod_lt _ hk0
  have e1 : (d.toList.map enc)[t / k]? = some (enc d[t / k]):=by simp [hd]
  have e2 : (enc d[t / k])[t % k]? = some ((enc d[t / k])[t % k]'(by rw [hk];exact hm)):=List.getElem?_eq_getElem _
  have e3:=flat_get hwid e1 e2
  rw [Nat.div_add_mod' t k,List.getElem?_eq_getElem (by rw [hlen];exact h2)] at e3
  have e4:=get_flatK enc k d t (by exact h2)
  rw [getElem!_pos (flatK enc k d) t (by rw [size_flatK];exact h2),getElem!_pos d (t / k) hd,getElem!_pos (enc d[t / k]) (t % k) (by rw [hk];exact hm)] at e4
  rw [Array.getElem_toList,e4]
  exact (Option.some.inj e3).symm
theorem putId_takeN {cur : Array Value} {ys : List Value} (h : ys.length ≤ cur.size) : (putCells (id : Value → Value) 0 ys.toArray cur).toList.take ys.length = ys ∧ (putCells (id : Value → Value) 0 ys.toArray cur).size = cur.size:=by
 refine ⟨?_,by simp [putCells]⟩
 apply List.ext_getElem
 ·simp [putCells];omega
 ·intro i h1 h2
  simp [putCells,h2]
theorem OwnL.putRowsN {w : World} {B g c n : Nat} {E : TypeId} {m : Nat} {rows rows2 : List (List Value)} (h : OwnL w B E m (.slice (some ⟨g,0,none⟩) n c) rows) (hl : rows2.length = rows.length) (hw : ∀ r ∈ rows2,r.length = m) (h1 : ∀ r ∈ rows2,∀ u ∈ r,u.oneCell' = true) :
  OwnL (putRow (id : Value → Value) w g 0 rows2.flatten.toArray) B E m (.slice (some ⟨g,0,none⟩) n c) rows2 ∧ w.grownBy (putRow (id : Value → Value) w g 0 rows2.flatten.toArray) (some g):=by
 have hlen2 : rows2.flatten.length = rows2.length * m:=flat_len hw
 rcases h.own.2 with ⟨h0,_⟩ | ⟨g',cap,cur,hv,hb,hg,h2,h3,h4,h5⟩
 ·cases h0
 ·simp only [Value.slice.injEq,Option.some.injEq,Addr.mk.injEq,and_true] at hv
  obtain ⟨rfl,rfl,rfl⟩:=hv
  have hsz : rows2.flatten.length ≤ cur.size:=by
   rw [hlen2,hl,h4];exact Nat.mul_le_mul_right _ h2
  obtain ⟨t1,t2⟩:=putId_takeN hsz
  have hh : (putRow (id : Value → Value) w g 0 rows2.flatten.toArray).heap[g]? = some (.cells (putCells (id : Value → Value) 0 rows2.flatten.toArray cur) E (0,0)):=by simp [putRow,mapBlock,Array.getElem?_modify,hg,onCells]
  refine ⟨⟨⟨by rw [hl,hlen2,hl],.inr ⟨g,c,_,by rw [hl],hb,hh,by rw [hl];exact h2,h3,by rw [t2,h4],by rw [← hlen2];exact t1⟩⟩,hw,h1⟩,rfl,rfl,rfl,by simp [putRow,mapBlock],fun k _ hk=>?_⟩
  have hne : k ≠ g:=fun e=>hk (by rw [e])
  simp [putRow,mapBlock,Array.getElem?_modify,Ne.symm hne]
def leRb (x y : RB) : Bool:=!(ltOf rbCf) y x
def SortedRb (w : World) (B : Nat) (v : Value) (ts : List RB) (e : Ending) (w' : World) : Prop:=e = .returned (.tuple #[]) ∧ OwnL w' B 69 2 v (ts.map rbR) ∧ w.grownBy w' v.ownBlock
theorem SortRb_own (w : World) (B : Nat) (v : Value) (ts : List RB) (h : OwnL w B 69 2 v (ts.map rbR)) (hs : ts.length ≤ 1000000) :
  Calls Tryz.prog 95 #[v,.func (.func 56) #[] #[]] w (SortedRb w B v (ts.mergeSort leRb)):=by
 haveI : Inhabited RB:=⟨rb0⟩
 obtain ⟨A,c,rfl,hr⟩:=OwnL.form h
 by_cases hne : ts = []
 ·subst hne
  refine (Tryz.sortQ_none (α:=Nat) A c _ w).mono fun e w' ⟨he,hw⟩=>?_
  subst hw
  exact ⟨he,by simpa using h,World.grownBy.refl _ _⟩
 ·rcases h.own.2 with ⟨_,h0⟩ | ⟨g,cap,cur,hv,hb,hg,h1,h2,h3,h4⟩
  ·rw [List.length_map] at h0
   exact absurd (List.eq_nil_of_length_eq_zero h0) hne
  ·simp only [Value.slice.injEq,true_and] at hv
   obtain ⟨rfl,rfl⟩:=hv
   have hgw : g < w.heap.size:=(Array.getElem?_eq_some_iff.1 hg).1
   have hfl:=flatK_listN rbR 2 (by decide) (fun _=>rfl) ts.toArray
   have hH : HoldsK rbR 2 w g 0 ts.toArray:=fun j hj=>by
    rw [size_flatK] at hj
    have hj' : j < ts.length * 2:=by simpa using hj
    have e1 : (flatK rbR 2 ts.toArray)[j]? = cur[j]?:=by
     have:=congrArg (·[j]?) h4
     simp only [List.getElem?_take] at this
     rw [if_pos (by rw [List.length_map];exact hj'),Array.getElem?_toList] at this
     rw [← Array.getElem?_toList,hfl,this]
    constructor
    ·rw [cell_of_row w g (0 + j) cur _ (0,0) hg,Nat.zero_add,← e1,getElem!_pos (flatK rbR 2 ts.toArray) j (by rw [size_flatK];exact hj)]
     simp
    ·exact h.own.frozenAt (0 + j)
   have hcmp : CmpLays Tryz.prog 56 #[] rbR 2 rbCf g 0 ts.toArray.size w:=fun m os dk _ x y=>compare_any x.old x.new y.old y.new _
   have hcon:=Tryz.sortQ_total 2 (fun w=>by kernel_rfl) (fun w=>by kernel_rfl) rbR (fun _=>rfl) (fun x v hv=>rb_one [x] (rbR x) (by simp) v hv) rbCf rbCf_swo 56 #[] g 0 c ts.toArray w (enters_of Tryz.func56 (by kernel_rfl) rfl) hcmp hH hgw (by simp;omega) rbCf_total
   rw [show ts.toArray.size = (ts.map rbR).length by simp] at hcon
   refine hcon.mono fun e w' ⟨he,m,os,hw⟩=>?_
   subst hw
   have hA : OwnL (Sort.ahead w m) B 69 2 (.slice (some ⟨g,0,none⟩) (ts.map rbR).length c) (ts.map rbR):=OwnL.below h ⟨rfl,rfl,rfl,Nat.le_refl _,fun _ _=>rfl⟩
   obtain ⟨p1,p2⟩:=hA.putRowsN (rows2:=(ts.mergeSort leRb).map rbR) (by simp [List.length_mergeSort]) (rb_wid _) (rb_one _)
   have hW : sortWorldK rbR 2 w g 0 m (ts.toArray.toList.mergeSort fun x y=>!(ltOf rbCf) y x).toArray os = grow (putRow (id : Value → Value) (Sort.ahead w m) g 0 ((ts.mergeSort leRb).map rbR).flatten.toArray) os:=by
    show grow (putRow id (Sort.ahead w m) g 0 (flatK rbR 2 _)) os = _
    have h5:=flatK_listN rbR 2 (by decide) (fun _=>rfl) (ts.toArray.toList.mergeSort fun x y=>!(ltOf rbCf) y x).toArray
    rw [show flatK rbR 2 (ts.toArray.toList.mergeSort fun x y=>!(ltOf rbCf) y x).toArray = ((ts.mergeSort leRb).map rbR).flatten.toArray from by rw [← Array.toList_inj,h5];rfl]
   rw [hW]
   have p3:=OwnL.below p1 (grow_below _ os)
   exact ⟨he,p3,⟨p2.os,p2.tape,p2.output,Nat.le_trans p2.size (grow_below _ os).size,fun k hk hne=>((grow_below _ os).block k (Nat.lt_of_lt_of_le hk p2.size)).trans (p2.block k hk hne)⟩⟩
theorem rbAt_in {l : List RB} {m : Nat} (h : m < l.length) : rbAt l m = l[m]:=by unfold rbAt;rw [List.getElem?_eq_getElem h];rfl
theorem kpN_mem {l : List RB} : ∀ {m : Nat},m ≤ l.length → ∀ x,x ∈ kpN l m ↔ x ∈ l.take m
 | 0,_,x=>by simp [kpN]
 | m + 1,hm,x=>by
  have ih:=kpN_mem (l:=l) (m:=m) (by omega) x
  have hat : rbAt l m = l[m]:=rbAt_in (by omega)
  rw [List.take_succ_eq_append_getElem (by omega),List.mem_append,List.mem_singleton,← hat]
  unfold kpN
  split
  ·rw [List.mem_append,List.mem_singleton,ih]
  ·rename_i h
   rw [ih]
   constructor
   ·intro h;exact .inl h
   ·rintro (h' | h')
    ·exact h'
    ·have h0 : m ≠ 0:=fun e=>h (.inl e)
     have h1 : rbAt l m = rbAt l (m - 1):=Classical.byContradiction fun e=>h (.inr e)
     rw [h',h1]
     have hm1 : m - 1 < l.length:=by omega
     rw [rbAt_in hm1]
     exact List.mem_take_iff_getElem.2 ⟨m - 1,by rw [Nat.min_eq_left (by omega)];omega,rfl⟩
theorem kpN_up {l : List RB} (hs : ∀ i j,i < j → j < l.length → ¬ Cal.rlt (rbAt l j).txt (rbAt l i).txt) : ∀ {m : Nat},m ≤ l.length → ((kpN l m).map RB.txt).Pairwise Cal.rlt
 | 0,_=>List.Pairwise.nil
 | m + 1,hm=>by
  have ih:=kpN_up hs (m:=m) (by omega)
  unfold kpN
  split
  ·rename_i h
   rw [List.map_append,List.map_singleton]
   refine List.pairwise_append.2 ⟨ih,List.pairwise_singleton _ _,fun p hp q hq=>?_⟩
   rw [List.mem_singleton.1 hq]
   obtain ⟨x,hx,rfl⟩:=List.mem_map.1 hp
   obtain ⟨i,hi,rfl⟩:=List.mem_take_iff_getElem.1 ((kpN_mem (l:=l) (m:=m) (by omega) x).1 hx)
   have hi' : i < m:=by omega
   rw [← rbAt_in (by omega)]
   have hmne : rbAt l m ≠ rbAt l (m - 1):=by
    rcases h with h | h
    ·omega
    ·exact h
   have h1:=hs (m - 1) m (by omega) (by omega)
   have h2 : Cal.rlt (rbAt l (m - 1)).txt (rbAt l m).txt:=by
    rcases Cal.rlt_tri (rbAt l (m - 1)).txt (rbAt l m).txt with h3 | h3 | h3
    ·exact h3
    ·exact absurd (rb_ext h3).symm hmne
    ·exact absurd h3 h1
   by_cases e : i = m - 1
   ·subst e;exact h2
   ·have h4:=hs i (m - 1) (by omega) (by omega)
    rcases Cal.rlt_tri (rbAt l i).txt (rbAt l (m - 1)).txt with h3 | h3 | h3
    ·exact Cal.rlt_trans h3 h2
    ·rw [h3];exact h2
    ·exact absurd h3 h4
  ·exact ih
theorem sort_settle (l : List RB) : (kpN (l.mergeSort leRb) l.length).map RB.txt = Cal.settle (l.map RB.txt):=by
 have hlen : (l.mergeSort leRb).length = l.length:=List.length_mergeSort l
 have hp:=List.pairwise_mergeSort (le:=leRb) (fun a b c=>by
  intro h1 h2
  unfold leRb at *
  rw [Bool.not_eq_true',rbCf_not] at *
  intro h
  rcases Cal.rlt_tri a.txt b.txt with h3 | h3 | h3
  ·exact h2 (Cal.rlt_trans h h3)
  ·rw [h3] at h;exact h2 h
  ·exact h1 h3) (fun a b=>by
  unfold leRb
  rw [Bool.or_eq_true,Bool.not_eq_true',Bool.not_eq_true',rbCf_not,rbCf_not]
  rcases Cal.rlt_tri a.txt b.txt with h3 | h3 | h3
  ·exact .inl fun h=>Cal.rlt_irr _ (Cal.rlt_trans h3 h)
  ·exact .inl fun h=>by rw [h3] at h;exact Cal.rlt_irr _ h
  ·exact .inr fun h=>Cal.rlt_irr _ (Cal.rlt_trans h3 h)) l
 have hs : ∀ i j,i < j → j < (l.mergeSort leRb).length → ¬ Cal.rlt (rbAt (l.mergeSort leRb) j).txt (rbAt (l.mergeSort leRb) i).txt:=fun i j hij hj=>by
  have:=List.pairwise_iff_getElem.1 hp i j (by omega) hj hij
  rw [rbAt_in hj,rbAt_in (by omega)]
  unfold leRb at this
  rw [Bool.not_eq_true',rbCf_not] at this
  exact this
 refine Cal.settle_is (kpN_up hs (by omega)) fun d=>?_
 rw [List.mem_map,List.mem_map]
 have hm:=kpN_mem (l:=l.mergeSort leRb) (m:=l.length) (by omega)
 constructor
 ·rintro ⟨x,hx,rfl⟩
  have:=(hm x).1 hx
  rw [← hlen,List.take_length,List.mem_mergeSort] at this
  exact ⟨x,this,rfl⟩
 ·rintro ⟨x,hx,rfl⟩
  refine ⟨x,(hm x).2 ?_,rfl⟩
  rw [← hlen,List.take_length,List.mem_mergeSort]
  exact hx
theorem OwnL.atN {w : World} {B g c : Nat} {ts : List RB} (h : OwnL w B 69 2 (.slice (some ⟨g,0,none⟩) (ts.map rbR).length c) (ts.map rbR)) : AtN w g ts ∧ ts.length ≤ c:=by
 rcases h.own.2 with ⟨h0,_⟩ | ⟨g',cap,cur,hv,hb,hg,h1,h2,h3,h4⟩
 ·cases h0
 ·simp only [Value.slice.injEq,Option.some.injEq,Addr.mk.injEq,and_true,true_and] at hv
  obtain ⟨rfl,rfl⟩:=hv
  rw [List.length_map] at h1 h4
  have hgw : g < w.heap.size:=(Array.getElem?_eq_some_iff.1 hg).1
  refine ⟨⟨cur.toList,⟨fun j v hv=>?_,fun j _=>?_,hgw⟩,?_,fun i q hq=>?_⟩,h1⟩
  ·rw [cell_of_row w g (0 + j) cur _ (0,0) hg,Nat.zero_add,← Array.getElem?_toList]
   exact hv
  ·have:=h.own.frozenAt j
   exact this
  ·have e1 : cur.toList.length = cur.size:=Array.length_toList
   rw [e1,h3];exact Nat.mul_le_mul_right _ h1
  ·have hil:=(List.getElem?_eq_some_iff.1 hq).1
   have hr : (ts.map rbR)[i]? = some (rbR q):=by rw [List.getElem?_map,hq];rfl
   have key : ∀ j u,j < 2 → (rbR q)[j]? = some u → cur.toList[i * 2 + j]? = some u:=fun j u hj hu=>by
    have e:=flat_get (rb_wid ts) hr hu
    rw [← h4,List.getElem?_take,if_pos (by omega)] at e
    exact e
   exact ⟨key 0 _ (by decide) rfl,key 1 _ (by decide) rfl⟩
theorem CompactN_small (A : Option Addr) (n c : Nat) (w : World) (hn : n < 2) : Calls Tryz.prog 96 #[.slice A n c] w fun e w'=>e = .returned (.slice A n c) ∧ w = w':=by
 have h2 : (n : Int) < 2:=by omega
 go_enter Tryz.func96,Tryz.ntmps96
 go_wp2_with fail
 go_ret
 exact ⟨rfl,rfl⟩
theorem settled_any (w : World) (B : Nat) (v : Value) (l : List Rn) (h : RnL w B v l) (hs : l.length ≤ 1000000) :
  Calls Tryz.prog 54 #[v] w fun e w'=>∃ A c,e = .returned (.slice A (Cal.settle l).length c) ∧ RowsAt w' A 2 ((Cal.settle l).map rnR) ∧ w.grownBy w' v.ownBlock:=by
 have h0 : OwnL w B 69 2 v ((l.map rbOf).map rbR):=by rw [rbOf_rows];exact h
 have hso:=Lib.hid (SortRb_own w B v (l.map rbOf) h0 (by rw [List.length_map];exact hs))
 have hst:=sort_settle (l.map rbOf)
 rw [map_txt_of,List.length_map] at hst
 have hlen : ((l.map rbOf).mergeSort leRb).length = l.length:=by rw [List.length_mergeSort,List.length_map]
 generalize (l.map rbOf).mergeSort leRb = ts at *
 rw [← hlen] at hst
 have hsl : (Cal.settle l).length = (kpN ts ts.length).length:=by rw [← hst,List.length_map]
 have hrw : (Cal.settle l).map rnR = (kpN ts ts.length).map rbR:=by rw [← hst,txt_rows]
 rw [hsl,hrw]
 replace hlen:=Lib.hid hlen
 clear h h0 hst hsl hrw
 go_enter Tryz.func54,Tryz.ntmps54
 go_wp2_with fail
 go_at_call 95
 refine hso.out.mono ?_
 rintro e w2 ⟨rfl,hs2,hg2⟩
 clear hso
 by_cases hl2 : ts.length < 2
 ·have hk : kpN ts ts.length = ts:=by
   have:=kpN_all (l:=ts) (k:=ts.length) (Nat.le_refl _) (fun i h1 h2=>by
    obtain rfl : i = 1:=by omega
    omega)
   rw [this,List.take_length]
  obtain ⟨A,c,rfl,hr⟩:=OwnL.form hs2
  rw [List.length_map]
  have hcp:=Lib.hid (CompactN_small A ts.length c w2 hl2)
  have hg:=Lib.hid hg2
  have hrr:=Lib.hid hr
  clear hs2 hg2 hr
  go_wp2_with fail
  go_at_call 96
  refine hcp.out.mono ?_
  rintro e w3 ⟨rfl,rfl⟩
  clear hcp
  go_wp2_with fail
  go_ret
  exact ⟨A,c,by rw [hk];rfl,by rw [hk];exact hrr.out,hg.out⟩
 ·obtain ⟨A,c,rfl,hr⟩:=OwnL.form hs2
  have hsz : ts.length ≤ 1000000:=by rw [hlen.out];exact hs
  rcases hs2.own.2 with ⟨_,h0⟩ | ⟨g,cap,cur,hv,hb,hg,h1,h2,h3,h4⟩
  ·rw [List.length_map] at h0;omega
  ·simp only [Value.slice.injEq,true_and] at hv
   obtain ⟨rfl,rfl⟩:=hv
   obtain ⟨hat,hc⟩:=hs2.atN
   have hcp:=Lib.hid (CompactN_any g c ts w2 hat (by omega) hsz hc)
   have hg:=Lib.hid hg2
   rw [List.length_map]
   clear hs2 hg2 hr h1 h2 h3 h4 hb hat
   go_wp2_with fail
   go_at_call 96
   refine hcp.out.mono ?_
   rintro e w3 ⟨rfl,ha3,hg3⟩
   clear hcp
   have hrr:=Lib.hid ha3.rows
   have hgg:=Lib.hid (hg.out.trans hg3)
   clear ha3 hg3 hg
   go_wp2_with fail
   go_ret
   exact ⟨_,c,rfl,hrr.out,hgg.out⟩
end Go.Proofs.YthfokpchdlcidaaGreat
namespace Go.Proofs.YthfokpchdlcidaaGreat
namespace Cal
theorem ins_up {xs : List Rn} {x : Rn} {q : Nat} (h : xs.Pairwise rlt) (hq : q ≤ xs.length) (h1 : ∀ (j : Nat) z,q ≤ j → xs[j]? = some z → rlt x z) (h2 : ∀ z,0 < q → xs[q - 1]? = some z → rlt z x) : (xs.take q ++ [x] ++ xs.drop q).Pairwise rlt:=by
 have hlow : ∀ a ∈ xs.take q,rlt a x:=fun a ha=>by
  obtain ⟨i,hi,rfl⟩:=List.getElem_of_mem ha
  rw [List.length_take] at hi
  rw [List.getElem_take]
  have hq1 : q - 1 < xs.length:=by omega
  have e2:=h2 _ (by omega) (List.getElem?_eq_getElem hq1)
  rcases Nat.lt_or_eq_of_le (show i ≤ q - 1 by omega) with hlt | he
  ·exact rlt_trans (List.pairwise_iff_getElem.1 h i (q - 1) (by omega) hq1 hlt) e2
  ·subst he;exact e2
 have hhigh : ∀ b ∈ xs.drop q,rlt x b:=fun b hb=>by
  obtain ⟨i,hi,rfl⟩:=List.getElem_of_mem hb
  rw [List.length_drop] at hi
  rw [List.getElem_drop]
  exact h1 (q + i) _ (by omega) (List.getElem?_eq_getElem (by omega))
 rw [List.pairwise_append,List.pairwise_append]
 refine ⟨⟨h.sublist (List.take_sublist _ _),List.pairwise_singleton ..,fun a ha b hb=>?_⟩,h.sublist (List.drop_sublist _ _),fun a ha b hb=>?_⟩
 ·rw [List.mem_singleton] at hb;subst hb;exact hlow a ha
 ·rcases List.mem_append.1 ha with ha | ha
  ·exact rlt_trans (hlow a ha) (hhigh b hb)
  ·rw [List.mem_singleton] at ha;subst ha;exact hhigh b hb
theorem ins_mem {xs : List Rn} {d x : Rn} {q : Nat} : x ∈ xs.take q ++ [d] ++ xs.drop q ↔ x ∈ xs ++ [d]:=by
 conv=>rhs;rw [← List.take_append_drop q xs]
 simp only [List.mem_append,List.mem_singleton]
 constructor
 ·rintro ((h | h) | h)
  ·exact .inl (.inl h)
  ·exact .inr h
  ·exact .inl (.inr h)
 ·rintro ((h | h) | h)
  ·exact .inl (.inl h)
  ·exact .inr h
  ·exact .inl (.inr h)
theorem settle_ins {xs : List Rn} {x : Rn} {q : Nat} (h : xs.Pairwise rlt) (hq : q ≤ xs.length) (h1 : ∀ (j : Nat) z,q ≤ j → xs[j]? = some z → rlt x z) (h2 : ∀ z,0 < q → xs[q - 1]? = some z → rlt z x) : settle (xs ++ [x]) = xs.take q ++ [x] ++ xs.drop q :=
 (settle_is (ins_up h hq h1 h2) fun _=>ins_mem).symm
theorem settle_in {xs : List Rn} {x : Rn} (h : xs.Pairwise rlt) (hx : x ∈ xs) : settle (xs ++ [x]) = xs :=
 (settle_is h fun d=>by
  rw [List.mem_append,List.mem_singleton]
  constructor
  ·exact .inl
  ·rintro (h | rfl)
   ·exact h
   ·exact hx).symm
theorem settle_again (xs : List Rn) (x : Rn) : settle (settle xs ++ [x]) = settle (xs ++ [x]) :=
 (settle_is (settle_up (xs ++ [x])) fun d=>by rw [settle_mem,List.mem_append,List.mem_append,settle_mem]).symm
def turnN (l : List Rn) : List Rn:=if numE l = 0 then turnR l else []
def compE (a b : List Rn) : Int:=if numE a = 0 then (if numE b = 0 then (if 200 < (compR a b).length then 8 else 0) else numE b) else numE a
def compN (a b : List Rn) : List Rn:=if compE a b = 0 then compR a b else []
def compIn (x : Rn) (b : List Rn) : List Rn:=(b.filter fun y=>x.new == y.old).map fun y=>⟨x.old,y.new⟩
theorem compL_flat (a b : List Rn) : compL a b = a.flatMap fun x=>compIn x b:=rfl
theorem compL_append (a b : List Rn) (x : Rn) : compL (a ++ [x]) b = compL a b ++ compIn x b:=by rw [compL_flat,compL_flat];simp
theorem compIn_append (x : Rn) (b : List Rn) (y : Rn) : compIn x (b ++ [y]) = compIn x b ++ (if x.new = y.old then [⟨x.old,y.new⟩] else []):=by
 unfold compIn
 rw [List.filter_append,List.map_append]
 by_cases h : x.new = y.old
 ·simp [h]
 ·simp [h]
theorem compIn_len (x : Rn) (b : List Rn) : (compIn x b).length ≤ b.length:=by
 unfold compIn
 rw [List.length_map]
 exact List.length_filter_le _ _
theorem compL_len (b : List Rn) : ∀ a : List Rn,(compL a b).length ≤ a.length * b.length
 | []=>by simp [compL]
 | x :: r=>by
  have ih:=compL_len b r
  have:=compIn_len x b
  have e : compL (x :: r) b = compIn x b ++ compL r b:=by rw [compL_flat,compL_flat];simp
  rw [e,List.length_append,List.length_cons,Nat.succ_mul]
  omega
theorem turnR_good {l : List Rn} (h : numE l = 0) : numE (turnR l) = 0:=by
 obtain ⟨h1,h2,h3⟩:=numE_zero.1 h
 refine numE_zero.2 ⟨Nat.le_trans (turnR_len l) h1,fun x hx=>?_,settle_up _⟩
 have:=h2 _ (turnR_mem.1 hx)
 exact ⟨this.2,this.1⟩
theorem compR_good {a b : List Rn} (ha : numE a = 0) (hb : numE b = 0) (hl : (compR a b).length ≤ 200) : numE (compR a b) = 0:=by
 refine numE_zero.2 ⟨hl,fun x hx=>?_,settle_up _⟩
 rw [show compR a b = settle (compL a b) from rfl,settle_mem,compL_mem] at hx
 obtain ⟨m,h1,h2⟩:=hx
 exact ⟨((numE_zero.1 ha).2.1 _ h1).1,((numE_zero.1 hb).2.1 _ h2).2⟩
end Cal
end Go.Proofs.YthfokpchdlcidaaGreat
namespace Go.Proofs.YthfokpchdlcidaaGreat
open Go Go.RowKit Go.Sort
theorem wpPushN {ops : Array Oper} {rest : List Oper} {op : Oper} {a : Act} {w : World} {Q : Exit → Act → World → Prop} {B : Nat} {v : Value} {l : List Rn} {t : TypeId} (s1 s2 : ByteArray) (h : RnL w B v l) (hB : B ≤ w.heap.size) (hlen : l.length ≤ 1000000)
  (hgd : op.guard = none) (s x : Operand) (ho : op.op = .call { callee:=.builtin .append,args:=#[s,x],argTypes:=#[46,46] }) (hs : a.eval s = v) {c n : Nat} (hx : a.eval x = .slice (some ⟨n,0,none⟩) 1 c) (hn : n = w.heap.size)
  (k : ∀ v' w',RnL w' B v' (l ++ [⟨s1.toList,s2.toList⟩]) → Below B w w' → wpList Tryz.prog ops Q rest (a.put op.dst v') w') : wpList Tryz.prog ops Q (op :: rest) a (w.alloc (.cells #[.string s1,.string s2] t)):=by
 subst hn
 refine wpList_append_rows elemRn hgd s x ho hs hx (OwnL.below h (below_alloc _ _)) (rowsAt_new _ (rbR ⟨s1,s2⟩) _) rfl (rb_wid [⟨s1,s2⟩]) (rb_one [⟨s1,s2⟩]) (by rw [List.length_map,List.length_singleton];omega) (by decide) (by simp;omega) ?_
 intro v' w2 hown2 hg2 _
 refine k v' w2 ?_ (((Below.refl B w).alloc hB _).trans (grown_below hg2 (fun g e=>(OwnL.lt h g e).1) (by simp;omega)))
 unfold RnL
 rw [List.map_append,List.map_singleton]
 have e : rnR ⟨s1.toList,s2.toList⟩ = rbR ⟨s1,s2⟩:=by
  show [encStr s1.toList,encStr s2.toList] = _
  rw [encStr_of rfl,encStr_of rfl]
  rfl
 rw [e]
 exact hown2
theorem wpPushM {ops : Array Oper} {rest : List Oper} {op : Oper} {a : Act} {w : World} {Q : Exit → Act → World → Prop} {B : Nat} {v : Value} {l : List Rn} {t : TypeId} (s1 s2 : ByteArray) (Bx : Nat) (cs : List Value) (h : RnL w B v l) (hB : B ≤ w.heap.size) (hlen : l.length ≤ 1000000) (hx : BoxAt w Bx cs) (hne : v.ownBlock ≠ some Bx)
  (hgd : op.guard = none) (s x : Operand) (ho : op.op = .call { callee:=.builtin .append,args:=#[s,x],argTypes:=#[46,46] }) (hs : a.eval s = v) {c n : Nat} (hxx : a.eval x = .slice (some ⟨n,0,none⟩) 1 c) (hn : n = w.heap.size)
  (k : ∀ v' w',RnL w' B v' (l ++ [⟨s1.toList,s2.toList⟩]) → Below B w w' → BoxAt w' Bx cs → v'.ownBlock ≠ some Bx → wpList Tryz.prog ops Q rest (a.put op.dst v') w') : wpList Tryz.prog ops Q (op :: rest) a (w.alloc (.cells #[.string s1,.string s2] t)):=by
 subst hn
 refine wpList_append_rows elemRn hgd s x ho hs hxx (OwnL.below h (below_alloc _ _)) (rowsAt_new _ (rbR ⟨s1,s2⟩) _) rfl (rb_wid [⟨s1,s2⟩]) (rb_one [⟨s1,s2⟩]) (by rw [List.length_map,List.length_singleton];omega) (by decide) (by simp;omega) ?_
 intro v' w2 hown2 hg2 hob
 refine k v' w2 ?_ (((Below.refl B w).alloc hB _).trans (grown_below hg2 (fun g e=>(OwnL.lt h g e).1) (by simp;omega))) ((hx.alloc _).grown hg2 (fun e=>hne e.symm)) ?_
 ·unfold RnL
  rw [List.map_append,List.map_singleton]
  have e : rnR ⟨s1.toList,s2.toList⟩ = rbR ⟨s1,s2⟩:=by
   show [encStr s1.toList,encStr s2.toList] = _
   rw [encStr_of rfl,encStr_of rfl]
   rfl
  rw [e]
  exact hown2
 ·rcases hob with e | e
  ·rw [e];exact hne
  ·rw [e,World.size_alloc]
   intro e2
   cases e2
   have:=hx.lt
   omega
theorem Turn_any (A : Option Addr) (c : Nat) (l : List Rn) (w : World) (hl : Rns w A l) :
  Calls Tryz.prog 20 #[.slice A l.length c] w fun e w'=>∃ A' c',e = .returned (.tuple #[.slice A' (Cal.turnN l).length c',.int .i64 (Cal.numE l)]) ∧ RowsAt w' A' 2 ((Cal.turnN l).map rnR) ∧ Below w.heap.size w w':=by
 have hck:=Lib.hid (CheckNumbers_any A c l w hl)
 by_cases h0 : Cal.numE l = 0
 ·obtain ⟨hl200,_,_⟩:=Cal.numE_zero.1 h0
  have hT : Cal.turnN l = Cal.settle (l.map Cal.swapR):=by unfold Cal.turnN;rw [if_pos h0];rfl
  rw [h0] at hck ⊢
  rw [hT]
  clear hT
  replace hl:=Lib.hid hl
  go_enter Tryz.func20,Tryz.ntmps20
  go_wp2_with (go_at_call 22;refine hck.out.mono ?_;rintro e0 w1 ⟨rfl,hb1⟩;replace hb1:=Lib.hid hb1;clear hck)
  go_loopw [5,15] (fun ov i wr=>∃ (k : Nat) (v : Value),k ≤ l.length ∧ i = .int .i64 k ∧ ov = v ∧ Hid (RnL wr w.heap.size v ((l.take k).map Cal.swapR)) ∧ Hid (Below w.heap.size w wr)) (fun _ i _=>l.length - (intOf i).toNat)
  case atStart=>exact ⟨0,_,Nat.zero_le _,rfl,rfl,OwnL.nil _ _ _ _,hb1⟩
  case round =>
   clear hb1
   obtain ⟨k,v,hk,rfl,rfl,hO,hb⟩:=hrel
   by_cases hlt : k < l.length
   ·have hk' : l[k]? = some l[k]:=List.getElem?_eq_getElem hlt
    have htk : (l.take (k + 1)).map Cal.swapR = (l.take k).map Cal.swapR ++ [Cal.swapR l[k]]:=by rw [List.take_succ_eq_append_getElem hlt,List.map_append];rfl
    generalize l[k] = x at *
    obtain ⟨b,o,rfl,hbl,ao,an,ha1,ha2,c0,c1⟩:=rn_at (hl.out.rows.below hb.out) hk'
    have hsw : Cal.swapR x = ⟨an.toList,ao.toList⟩:=by rw [ha1,ha2];rfl
    rw [hsw] at htk
    replace htk:=Lib.hid htk
    have hki : (k : Int) < (l.length : Int):=by omega
    have hO2:=Lib.hid (show RnL (wr.alloc (.cells #[.string ao,.string an] 69)) w.heap.size u5 ((l.take k).map Cal.swapR) from OwnL.below hO.out (below_alloc _ _))
    have hb2:=Lib.hid (below_step hb.out (below_alloc wr (.cells #[.string ao,.string an] 69)))
    have hsz : ((l.take k).map Cal.swapR).length ≤ 1000000:=by rw [List.length_map,List.length_take];omega
    clear hk' ha1 ha2 hsw hO
    go_wp2_with (at_builtin;refine wpPushN an ao hO2.out hb2.out.size hsz rfl _ _ rfl rfl rfl (by simp) ?_;intro v6 w6 hown6 hb6;have hO6:=Lib.hid hown6;have hbw6:=Lib.hid (hb2.out.trans hb6);clear hown6 hb6)
    go_roundw
    case rel=>exact ⟨k + 1,_,by omega,by go_num,rfl,by rw [htk.out];exact hO6,hbw6⟩
    case measure=>simp [intOf];omega
   ·obtain rfl : k = l.length:=by omega
    rw [List.take_length] at hO
    have hset:=Lib.hid (settled_any wr w.heap.size u5 _ hO.out (by rw [List.length_map];omega))
    have hvB:=Lib.hid (fun g e=>(OwnL.lt hO.out g e).1)
    clear hO
    go_wp2_with (go_at_call 54;refine hset.out.mono ?_;rintro e0 w8 ⟨A8,c8,rfl,hr8,hg8⟩;have hr9:=Lib.hid hr8;have hb9:=Lib.hid (hb.out.trans (grown_below hg8 hvB.out hb.out.size));clear hr8 hg8 hset)
    go_ret2
    exact ⟨_,_,rfl,hr9.out,hb9.out⟩
 ·have hT : Cal.turnN l = []:=by unfold Cal.turnN;rw [if_neg h0]
  rw [hT]
  have h1 : (Cal.numE l == 0) = false:=by simpa using h0
  have h2 : (Cal.numE l != 0) = true:=by simpa using h0
  clear hT hl
  generalize Cal.numE l = E at *
  go_enter Tryz.func20,Tryz.ntmps20
  go_wp2_with (go_at_call 22;refine hck.out.mono ?_;rintro e0 w1 ⟨rfl,hb1⟩;replace hb1:=Lib.hid hb1;clear hck)
  go_ret2
  exact ⟨_,_,rfl,RowsAt.nil _ _ _,hb1.out⟩
end Go.Proofs.YthfokpchdlcidaaGreat
