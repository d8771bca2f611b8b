/- What the statements rest on: definitions and walks, part 26. -/
import Derived.Test.YthfokpchdlcidaaGreatJ25
import Derived.Deep.CutRange
set_option maxRecDepth 100000
set_option maxHeartbeats 16000000
set_option linter.unusedSimpArgs false
set_option linter.unusedVariables false
namespace Go.Proofs.YthfokpchdlcidaaGreat
open Go Go.RowKit Go.Shelf
def GcI (a b p q:Int):Prop:=Int.gcd p q=Int.gcd a b∧((p=a∧q=b)∨(q.natAbs<p.natAbs∧p.natAbs≤b.natAbs))
theorem tmod_abs {a b:Int} (hb:b≠0):(a.tmod b).natAbs<b.natAbs:=Cal.step_less hb
theorem gcd_any (a b:Int) (w:World) (hb:0<b) (hb2:b≤9223372036854775807):Calls Tryz.prog 107 #[.int .i64 a,.int .i64 b] w fun e w'=>e=.returned (.int .i64 (Int.gcd a b:Int))∧Below w.heap.size w w':=by
 have hst:Hid (GcI a b a b):=⟨rfl,.inl ⟨rfl,rfl⟩⟩
 have hb0:Hid (Below w.heap.size w w):=Below.refl _ _
 go_enter Tryz.func107,Tryz.ntmps107
 go_wp2_with fail
 go_loopw [0,1] (fun x y wr=>∃ p q:Int,x=.int .i64 p∧y=.int .i64 q∧Hid (GcI a b p q)∧Hid (Below w.heap.size w wr)) (fun _ y _=>(intOf y).natAbs)
 case atStart=>exact⟨a,b,rfl,rfl,hst,hb0⟩
 case round =>
  clear hst hb0
  obtain⟨p,q,rfl,rfl,hs,hB⟩:=hrel
  by_cases hq:q=0
  ·subst hq
   have hr:Hid ((Int.gcd a b:Int)=max p (-p)):=by
    have h:=hs.out.1
    rw[Cal.gcd_end] at h
    show _=_
    rw[←h]
    omega
   have hp:-9223372036854775807≤p∧p≤9223372036854775807:=by
    rcases hs.out.2 with ⟨h1,h2⟩ | ⟨h1,h2⟩
    ·omega
    omega
   have hng:IntKind.i64.wrap (-p)=-p:=wrap_small (by omega) (by omega)
   obtain⟨p0,p1⟩:=hp
   clear hs
   go_wp2_with fail
   go_ret
   exact⟨ret_int hr.out.symm,hB.out⟩
  have hlt:=tmod_abs (a:=p) hq
  have hqb:q.natAbs≤b.natAbs:=by
   rcases hs.out.2 with ⟨h1,h2⟩ | ⟨h1,h2⟩
   ·rw[h2];exact Nat.le_refl _
   omega
  have hw:IntKind.i64.wrap (p.tmod q)=p.tmod q:=wrap_small (by omega) (by omega)
  have hs2:Hid (GcI a b q (p.tmod q)):=⟨(Cal.gcd_step p q).trans hs.out.1,.inr ⟨hlt,hqb⟩⟩
  clear hs
  go_wp2_with fail
  refine wp_region_held_drew (S:=Sx wr []) (by kernel_rfl) (Sx.mk (cs_nil _) (Below.refl _ _)).drew (fun hHeld=>?_)
  refine tkHx 0 7 ?_
  refine tkHx 1 8 ?_
  refine tkHx 2 9 ?_
  refine tkHx 3 10 ?_
  refine tkHx 4 0 ?_
  refine tkHx 5 1 ?_
  refine wpAnyH_done (by kernel_rfl) ?_ _
  (try simp only[apS,apN,siA,scZ,scS])
  have hB2:=Lib.hid (hB.out.trans (hHeld.bel.mono hB.out.size))
  clear hHeld
  go_wp2_with fail
  go_roundw
  case rel=>exact⟨q,p.tmod q,rfl,by first | rfl | rw[hw],hs2,hB2⟩
  case measure=>exact hlt
def FrK (w:World) (W:World):Prop:=∃ x y,BoxAt W w.heap.size [x,y]∧Below w.heap.size w W
theorem frSize:(Tryz.prog.info? 88).map (·.size)=some 2:=by kernel_rfl
theorem lowest_any (a b:Int) (w:World) (ha:-9223372036854775808≤a∧a≤9223372036854775807) (hb:0<b) (hb2:b≤9223372036854775807) :
  Calls Tryz.prog 72 #[.int .i64 a,.int .i64 b] w fun e w'=>e=.returned (.agg #[.int .i64 (Cal.lowN a b),.int .i64 (Cal.lowD a b)])∧Below w.heap.size w w':=by
 have hgp:=Cal.gcd_pos (a:=a) hb
 obtain⟨ha1,ha2⟩:=ha
 have hcall:=Lib.hid (fun W=>gcd_any a b W hb hb2)
 have hN:Hid (Cal.lowN a b=a.tdiv (Int.gcd a b:Int)):=rfl
 have hD:Hid (Cal.lowD a b=b.tdiv (Int.gcd a b:Int)):=rfl
 have e1:(a.tdiv (Int.gcd a b:Int)).natAbs≤a.natAbs:=by rw[Int.natAbs_tdiv];exact Nat.div_le_self _ _
 have e2:(b.tdiv (Int.gcd a b:Int)).natAbs≤b.natAbs:=by rw[Int.natAbs_tdiv];exact Nat.div_le_self _ _
 have e3:0≤b.tdiv (Int.gcd a b:Int):=Int.tdiv_nonneg (by omega) (by omega)
 have e4:0≤a→0≤a.tdiv (Int.gcd a b:Int):=fun h=>Int.tdiv_nonneg h (by omega)
 have e5:a<0→a.tdiv (Int.gcd a b:Int)≤0:=fun h=>by
  have:=Int.tdiv_nonneg (a:=-a) (b:=(Int.gcd a b:Int)) (by omega) (by omega)
  rw[Int.neg_tdiv] at this
  omega
 generalize Int.gcd a b=g at *
 have w1:IntKind.i64.wrap (a.tdiv (g:Int))=a.tdiv (g:Int):=wrap_small (by omega) (by omega)
 have w2:IntKind.i64.wrap (b.tdiv (g:Int))=b.tdiv (g:Int):=wrap_small (by omega) (by omega)
 have hg0:¬(g:Int)=0:=by omega
 have hg1:¬g=0:=by omega
 have hb0:=BoxAt.new w #[.int .i64 0,.int .i64 0] 88
 have hal:=below_alloc w (.cells #[.int .i64 0,.int .i64 0] 88)
 replace hb0:=Lib.hid hb0
 replace hal:=Lib.hid hal
 rw[hN.out,hD.out]
 clear e1 e2 e3 e4 e5 hN hD
 go_enter Tryz.func72,Tryz.ntmps72
 go_wp2_with (go_at_call 107;refine (hcall.out _).mono ?_;rintro e0 w2 ⟨rfl,hbn⟩;replace hb0:=Lib.hid (hb0.out.below hbn);have hbw:=Lib.hid (below_step hal.out hbn);clear hbn hal hcall;obtain⟨x0,x1⟩:=hb0.out.c2;obtain⟨f0,f1⟩:=hb0.out.fr2)
 refine wp_region_held_drew (S:=FrK w) (by kernel_rfl) ⟨_,_,hb0.out.below ((Below.refl _ _).drew),hbw.out.drew⟩ (fun hHeld=>?_)
 clear x0 x1 f0 f1
 generalize w2.drew=W9 at *
 (refine tkH2 0 9 (v:=?_) ?_ ?_;rotate_left;focus (intro w' hSw;clear hSw;go_simp;(try with_reducible rfl));(try simp only[Act.put,List.setIfInBounds_toArray,List.set_cons_zero,List.set_cons_succ]))
 (refine tkH2 1 10 (v:=?_) ?_ ?_;rotate_left;focus (intro w' hSw;clear hSw;go_simp;(try with_reducible rfl));(try simp only[Act.put,List.setIfInBounds_toArray,List.set_cons_zero,List.set_cons_succ]))
 (refine tkH2 2 11 (v:=?_) ?_ ?_;rotate_left;focus (intro w' hSw;clear hSw;go_simp;(try with_reducible rfl));(try simp only[Act.put,List.setIfInBounds_toArray,List.set_cons_zero,List.set_cons_succ]))
 (refine tkH2 3 12 (v:=?_) ?_ ?_;rotate_left;focus (intro w' hSw;clear hSw;go_simp;(try with_reducible rfl));(try simp only[Act.put,List.setIfInBounds_toArray,List.set_cons_zero,List.set_cons_succ]))
 (refine tkH2 4 13 (v:=?_) ?_ ?_;rotate_left;focus (intro w' hSw;clear hSw;go_simp;(try with_reducible rfl));(try simp only[Act.put,List.setIfInBounds_toArray,List.set_cons_zero,List.set_cons_succ]))
 (refine tkH2 5 14 (v:=?_) ?_ ?_;rotate_left;focus (intro w' hSw;clear hSw;go_simp;(try with_reducible rfl));(try simp only[Act.put,List.setIfInBounds_toArray,List.set_cons_zero,List.set_cons_succ]))
 (refine tkH2 6 15 (v:=?_) ?_ ?_;rotate_left;focus (intro w' hSw;clear hSw;go_simp;(try with_reducible rfl));(try simp only[Act.put,List.setIfInBounds_toArray,List.set_cons_zero,List.set_cons_succ]))
 obtain⟨z0,z1,hz,hzb⟩:=hHeld
 obtain⟨x0,x1⟩:=hz.c2;obtain⟨f0,f1⟩:=hz.fr2
 have hz9:=Lib.hid ((hz.set 0 (.int .i64 (a.tdiv (g:Int))) (by simp)).set 1 (.int .i64 (b.tdiv (g:Int))) (by simp))
 have hzb9:=Lib.hid ((hzb.setCell (p:=⟨w.heap.size,0,none⟩) (Nat.le_refl _) (.int .i64 (a.tdiv (g:Int)))).setCell (p:=⟨w.heap.size,1,none⟩) (Nat.le_refl _) (.int .i64 (b.tdiv (g:Int))))
 (refine ratHx 7 (fun K hK=>?_);go_simp)
 refine hK.out _ _ ⟨_,_,hz9.out,hzb9.out⟩ (fun hHeld=>?_)
 clear hK K hHeld
 (try simp only[apS,apN,siA,scZ,scS])
 refine wpAnyH_done (by kernel_rfl) ?_ _
 go_wp2_with fail
 refine bodyPost_ret (results_mid1 rfl _ _ w.heap.size [.int .i64 (a.tdiv (g:Int)),.int .i64 (b.tdiv (g:Int))] _ rfl hz9.out.range Tryz.underlying88 rfl frSize) rfl ⟨rfl,hzb9.out⟩
end Go.Proofs.YthfokpchdlcidaaGreat
namespace Go.Proofs.YthfokpchdlcidaaGreat
open Go Go.RowKit Go.Shelf
def putC (q:Nat) (r:List Int) (x:Int):List Int:=r.set q x
def withL (q:Nat) (l:List Int) (M:List (List Int)):List (List Int):=M.zipWith (putC q) l
theorem IntsL.stored {w:World} {B g c:Nat} {zs:List Int} (h:IntsL w B (.slice (some ⟨g,0,none⟩) zs.length c) zs) (j:Nat) (x:Int) :
  IntsL (w.setCell ⟨g,j,none⟩ (.int .i64 x)) B (.slice (some ⟨g,0,none⟩) (zs.set j x).length c) (zs.set j x)∧w.grownBy (w.setCell ⟨g,j,none⟩ (.int .i64 x)) (some g):=by
 have:=World.ownsRow.stored h.own j (.int .i64 x)
 refine⟨IntsL.of ?_,this.2⟩
 rw[List.length_set,List.map_set]
 exact this.1
theorem IntsL.cellOf {w:World} {B g c:Nat} {zs:List Int} (h:IntsL w B (.slice (some ⟨g,0,none⟩) zs.length c) zs) {j:Nat} (hj:j<zs.length):w.cell? ⟨g,j,none⟩=some (.int .i64 zs[j])∧w.frozen? ⟨g,j,none⟩=false:=by
 refine⟨?_,World.ownsRow.frozenAt h.own j⟩
 rw[World.ownsRow.cellAt h.own j (by omega),List.getElem?_map,List.getElem?_eq_getElem hj]
 rfl
theorem withL_take {q k:Nat} {l:List Int} {M:List (List Int)} (h:k<M.length) (hl:k<l.length):withL q (l.take (k+1)) (M.take (k+1))=withL q (l.take k) (M.take k) ++ [putC q M[k] l[k]]:=by
 unfold withL
 rw[List.take_succ_eq_append_getElem h,List.take_succ_eq_append_getElem hl,List.zipWith_append (by rw[List.length_take,List.length_take];omega)]
 rfl
theorem with_any (A Al:Option Addr) (c cl:Nat) (M:List (List Int)) (vs:List Value) (l:List Int) (q:Nat) (w:World) (hM:MatR w A M vs) (hs:SmM M) (hL:RowsAt w Al 1 (intRows l)) (hll:M.length≤l.length) (hl2:l.length≤1000) (hq:∀ r∈M,q<r.length) :
  Calls Tryz.prog 73 #[.slice A M.length c,.int .i64 (q:Int),.slice Al l.length cl] w fun e w'=>∃ v us,e=.returned v∧MatO w' w.heap.size v (withL q (l.take M.length) M) us∧Below w.heap.size w w':=by
 have hsz:=hs.len
 have hsr:=Lib.hid hs.row
 replace hM:=Lib.hid hM
 replace hL:=Lib.hid hL
 replace hq:=Lib.hid hq
 have hO0:Hid (MatO w w.heap.size (.slice none 0 0) (withL q (l.take 0) (M.take 0)) []):=MatO.nil _ _
 have hb0:Hid (Below w.heap.size w w):=Below.refl _ _
 clear hs
 go_enter Tryz.func73,Tryz.ntmps73
 go_wp2_with fail
 go_loopw [7,13] (fun ov i wr=>∃ (k:Nat) (us:List Value) (v:Value),k≤M.length∧i=.int .i64 k∧ov=v∧Hid (MatO wr w.heap.size v (withL q (l.take k) (M.take k)) us)∧Hid (Below w.heap.size w wr)) (fun _ i _=>M.length-(intOf i).toNat)
 case atStart=>exact⟨0,[],_,Nat.zero_le _,rfl,rfl,hO0,hb0⟩
 case round =>
  clear hO0 hb0
  obtain⟨k,us,v,hk,rfl,rfl,hO,hb⟩:=hrel
  by_cases hlt:k<M.length
  ·have hk':M[k]?=some M[k]:=List.getElem?_eq_getElem hlt
   have hkl:k<l.length:=by omega
   have hrl:=hsr.out _ (List.getElem_mem hlt)
   have hqr:=hq.out _ (List.getElem_mem hlt)
   have htk:=Lib.hid (withL_take (q:=q) hlt hkl)
   obtain⟨b,o,Ai,ci,rfl,hbl,c0,hci,hrow⟩:=(hM.out.below hb.out).at_ hk'
   obtain⟨bl,ol,hAl,hbl2,e0⟩:=intsI_at (hL.out.below hb.out) hkl
   have hol:(withL q (l.take k) (M.take k)).length≤1000:=by unfold withL;rw[List.length_zipWith,List.length_take,List.length_take];omega
   generalize M[k]=r at *
   generalize l[k]=x at *
   subst hAl
   have hmade:Hid (OwnL (wr.alloc (.cells #[] 3)) wr.heap.size 3 1 (.slice (some ⟨wr.heap.size,0,none⟩) 0 0) []):=OwnL.made wr _ _ _ (Nat.le_refl _)
   have hsrc:Hid (RowsAt (wr.alloc (.cells #[] 3)) Ai 1 (intRows r)):=hrow.below (below_alloc _ _)
   clear hk' hrow
   have m1:Hid True:=trivial
   have hvB:=Lib.hid (fun g e=>(OwnL.lt hO.out.own g e).2)
   have hul:us.length≤1000:=by rw[hO.out.len];exact hol
   go_wp2_with (first
    |(at_builtin;clear m1;go_must (refine wpList_append_rows elemInt rfl _ _ rfl rfl rfl hmade.out hsrc.out (intRows_length r).symm (intRows_wid r) (intRows_one r) (by simp only[intRows_length,List.length_nil];omega) (by decide) (by (try simp)) ?_;intro v' w5 hown6 hg6 hob6;replace hown6:IntsL w5 wr.heap.size v' r:=hown6;obtain⟨g,c5,rfl,hg1,hg2⟩:=IntsL.lit hown6 (Nat.lt_of_le_of_lt (Nat.zero_le _) hqr);have hb5:=Lib.hid (((Below.refl _ _).alloc (Nat.le_refl _) _).trans (grown_below hg6 (fun g e=>(OwnL.lt hmade.out g e).1) (by simp)):Below wr.heap.size wr w5);have e5:=(hb5.out.cell (p:=⟨bl,ol+k,none⟩) hbl2).trans e0;obtain⟨q0,q1⟩:=IntsL.cellOf hown6 hqr;have hst:=IntsL.stored hown6 q x;replace hown6:=Lib.hid hown6;have hI3:=Lib.hid hst.1;have hb6:=Lib.hid (hb5.out.trans (grown_below (v:=.slice (some ⟨g,0,none⟩) 0 0) hst.2 (fun g' e=>by cases e;exact hg1) hb5.out.size));have hbs6:=hb6.out.size;have hsrc2:=rowsAt_new (w5.setCell ⟨g,q,none⟩ (.int .i64 x)) [.slice (some ⟨g,0,none⟩) (r.set q x).length c5] 30;have hO3:=Lib.hid ((hO.out.below hb6.out).below (below_alloc _ (.cells #[.slice (some ⟨g,0,none⟩) (r.set q x).length c5] 30)));have hI4:=Lib.hid (hI3.out.below (below_alloc _ (.cells #[.slice (some ⟨g,0,none⟩) (r.set q x).length c5] 30)));have hbw6:=Lib.hid (hb.out.trans (hb6.out.mono hb.out.size));rw[List.length_set] at hsrc2 hO3 hI4;simp only[World.size_setCell,List.length_singleton] at hsrc2;replace hsrc2:=Lib.hid hsrc2;clear hg6 hob6 e0 hmade hsrc c0 hst hI3))
    |(at_builtin;go_must (refine wpList_append_rows elemRow rfl _ _ rfl rfl rfl hO3.out.own hsrc2.out rfl (fun r hr=>by rw[List.mem_singleton.1 hr];rfl) (fun r hr u hu=>by rw[List.mem_singleton.1 hr] at hu;rw[List.mem_singleton.1 hu];rfl) (by simp only[List.length_map,List.length_singleton];omega) (by decide) (by have:=hbw6.out.size;simp at this ⊢;omega) ?_;intro v' w7 hown7 hg7 hob7)))
   have hpush:Hid (MatO w7 w.heap.size v' (withL q (l.take (k+1)) (M.take (k+1))) (us ++ [.slice (some ⟨g,0,none⟩) r.length c5])):=by
    have:=hO3.out.push (Bs:=wr.heap.size) (r:=r.set q x) (A:=some ⟨g,0,none⟩) (c:=c5) (by rw[List.length_set];exact hI4.out) hvB.out (by rw[List.length_set];exact hown7) hg7 hob7
    rw[List.length_set] at this
    show MatO _ _ _ _ _
    rw[htk.out]
    exact this
   have hb7:Hid (Below w.heap.size w w7):=(below_step hbw6.out (below_alloc _ _)).trans (grown_below hg7 (fun g e=>(OwnL.lt hO3.out.own g e).1) (by have:=hbw6.out.size;simp at this ⊢;omega))
   clear hown7 hg7 hob7 hO3 hI4 hsrc2 hbw6 hb6 hb5
   go_wp2_with fail
   go_roundw
   case rel=>exact⟨k+1,_,_,by omega,by go_num,rfl,hpush,hb7⟩
   case measure=>simp[intOf];omega
  obtain rfl:k=M.length:=by omega
  have hO2:MatO wr w.heap.size u7 (withL q (l.take M.length) M) us:=by have:=hO.out;rwa [List.take_length (l:=M)] at this
  go_wp2_with fail
  go_ret
  exact⟨_,us,rfl,hO2,hb.out⟩
end Go.Proofs.YthfokpchdlcidaaGreat
namespace Go.Proofs.YthfokpchdlcidaaGreat
open Go Go.RowKit Go.Shelf
def upd (L:Nat→Nat→Int) (a b:Nat) (x:Int):Nat→Nat→Int:=fun i j=>if i=a then (if j=b then x else L i j) else L i j
def updR (r:Nat→Int) (a:Nat) (x:Int):Nat→Int:=fun j=>if j=a then x else r j
structure HtI (w:World) (G H:Nat) (R:Nat→Nat) (n k:Nat) (L:Nat→Nat→Int) (r:Nat→Int) (W:World):Prop where
 o:W.rowIs G 30 n (fun i=>if i<k then .slice (some ⟨R i,0,none⟩) n n else .slice none 0 0)
 m:∀ i,i<k→W.rowIs (R i) 3 n (fun j=>.int .i64 (L i j))
 r:W.rowIs H 3 n (fun j=>.int .i64 (r j))
 gh:G≠H
 gr:∀ i,i<k→R i≠G∧R i≠H
 rr:∀ i j,i<k→j<k→i≠j→R i≠R j
 gB:w.heap.size≤G
 hB:w.heap.size≤H
 rB:∀ i,i<k→w.heap.size≤R i
 bel:Below w.heap.size w W
section
variable {w : World} {G H : Nat} {R : Nat → Nat} {n k : Nat} {L : Nat → Nat → Int} {r : Nat → Int} {W W' : World}
theorem HtI.below (h:HtI w G H R n k L r W) (hb:Below W.heap.size W W'):HtI w G H R n k L r W' :=
 ⟨h.o.of_block (hb.block _ h.o.lt),fun i hi=>(h.m i hi).of_block (hb.block _ (h.m i hi).lt),h.r.of_block (hb.block _ h.r.lt),h.gh,h.gr,h.rr,h.gB,h.hB,h.rB,below_step h.bel hb⟩
theorem HtI.row (h:HtI w G H R n k (fun _ _=>0) r W):HtI w G H (fun i=>if i=k then W.heap.size else R i) n (k+1) (fun _ _=>0) r ((W.alloc (.cells (madeCells #[.int .i64 0] n) 3)).setCell ⟨G,k,none⟩ (.slice (some ⟨W.heap.size,0,none⟩) n n)):=by
 have hG:=h.o.lt
 have hH:=h.r.lt
 have hR:=fun i hi=>(h.m i hi).lt
 refine⟨?_,fun i hi=>?_,((h.r.alloc _).setOther (a:=⟨G,k,none⟩) (fun e=>h.gh e.symm) _),h.gh,fun i hi=>?_,fun i j hi hj hij=>?_,h.gB,h.hB,fun i hi=>?_,?_⟩
 ·refine ((h.o.alloc _).set k _).congr fun i hi=>?_
  by_cases e:i=k
  ·subst e;simp
  rw[if_neg e]
  by_cases hlt:i<k
  ·rw[if_pos hlt,if_pos (by omega),if_neg e]
  rw[if_neg hlt,if_neg (by omega)]
 ·by_cases e:i=k
  ·subst e
   rw[if_pos rfl]
   exact (World.rowIs_made W (.int .i64 0) n 3).setOther (a:=⟨G,i,none⟩) (by show W.heap.size≠G;omega) _
  rw[if_neg e]
  have:=h.m i (by omega)
  exact (this.alloc _).setOther (a:=⟨G,k,none⟩) (h.gr i (by omega)).1 _
 ·by_cases e:i=k
  ·rw[if_pos e];omega
  rw[if_neg e];exact h.gr i (by omega)
 ·by_cases e:i=k
  ·by_cases e2:j=k
   ·omega
   rw[if_pos e,if_neg e2]
   have:=hR j (by omega);omega
  by_cases e2:j=k
  ·rw[if_neg e,if_pos e2]
   have:=hR i (by omega);omega
  rw[if_neg e,if_neg e2];exact h.rr i j (by omega) (by omega) hij
 ·by_cases e:i=k
  ·rw[if_pos e];exact h.bel.size
  rw[if_neg e];exact h.rB i (by omega)
 exact (below_step h.bel (below_alloc _ _)).setCell (p:=⟨G,k,none⟩) h.gB _
theorem HtI.setM (h:HtI w G H R n k L r W) {a:Nat} (ha:a<k) (b:Nat) (x:Int):HtI w G H R n k (upd L a b x) r (W.setCell ⟨R a,b,none⟩ (.int .i64 x)):=by
 refine⟨h.o.setOther (a:=⟨R a,b,none⟩) (fun e=>(h.gr a ha).1 e.symm) _,fun i hi=>?_,h.r.setOther (a:=⟨R a,b,none⟩) (fun e=>(h.gr a ha).2 e.symm) _,h.gh,h.gr,h.rr,h.gB,h.hB,h.rB,h.bel.setCell (p:=⟨R a,b,none⟩) (h.rB a ha) _⟩
 by_cases e:i=a
 ·subst e
  refine ((h.m i hi).set b _).congr fun j hj=>?_
  unfold upd
  rw[if_pos rfl]
  split <;> rfl
 refine ((h.m i hi).setOther (a:=⟨R a,b,none⟩) (h.rr i a hi ha e) _).congr fun j hj=>?_
 unfold upd
 rw[if_neg e]
theorem HtI.setR (h:HtI w G H R n k L r W) (a:Nat) (x:Int):HtI w G H R n k L (updR r a x) (W.setCell ⟨H,a,none⟩ (.int .i64 x)):=by
 refine⟨h.o.setOther (a:=⟨H,a,none⟩) h.gh _,fun i hi=>(h.m i hi).setOther (a:=⟨H,a,none⟩) (h.gr i hi).2 _,?_,h.gh,h.gr,h.rr,h.gB,h.hB,h.rB,h.bel.setCell (p:=⟨H,a,none⟩) h.hB _⟩
 refine (h.r.set a _).congr fun j hj=>?_
 unfold updR
 split <;> rfl
theorem HtI.outer (h:HtI w G H R n k L r W) {i:Nat} (hi:i<k) (hn:i<n):W.cell? ⟨G,i,none⟩=some (.slice (some ⟨R i,0,none⟩) n n):=by
 have:=h.o.cell hn
 rwa [if_pos hi] at this
end
theorem listOf_length (n:Nat) (f:Nat→Int):(listOf n f).length=n:=by simp[listOf]
theorem listOf_get {n:Nat} {f:Nat→Int} {i:Nat} (h:i<n):(listOf n f)[i]?=some (f i):=by simp[listOf,h]
theorem matOf_length (n:Nat) (L:Nat→Nat→Int):(matOf n L).length=n:=by simp[matOf]
theorem rowIs_rows {W:World} {b n:Nat} {f:Nat→Int} (h:W.rowIs b 3 n (fun j=>.int .i64 (f j))):RowsAt W (some ⟨b,0,none⟩) 1 (intRows (listOf n f)):=fun j r hj=>by
 have hlt:j<n:=by
  have:=(List.getElem?_eq_some_iff.1 hj).1
  rwa [intRows_length,listOf_length] at this
 unfold intRows at hj
 rw[List.getElem?_map,listOf_get hlt] at hj
 cases hj
 refine⟨b,0,rfl,h.lt,fun i v hv=>?_⟩
 cases i with
 | zero =>
  have:v=.int .i64 (f j):=by simpa using hv.symm
  rw[this,Nat.zero_add,Nat.mul_one,Nat.add_zero]
  exact h.cell hlt
 | succ i=>simp at hv
theorem HtI.read {w:World} {G H:Nat} {R:Nat→Nat} {n:Nat} {L:Nat→Nat→Int} {r:Nat→Int} {W:World} (h:HtI w G H R n n L r W) :
  MatR W (some ⟨G,0,none⟩) (matOf n L) ((List.range n).map fun i=>.slice (some ⟨R i,0,none⟩) n n):=by
 refine⟨fun j q hj=>?_,by simp[matOf],fun i q hi=>?_⟩
 ·have hlt:j<n:=by
   have:=(List.getElem?_eq_some_iff.1 hj).1
   simpa using this
  have hq:q=[.slice (some ⟨R j,0,none⟩) n n]:=by
   simp[hlt] at hj
   exact hj.symm
  subst hq
  refine⟨G,0,rfl,h.o.lt,fun i v hv=>?_⟩
  cases i with
  | zero =>
   have:v=.slice (some ⟨R j,0,none⟩) n n:=by simpa using hv.symm
   rw[this,Nat.zero_add,Nat.mul_one,Nat.add_zero]
   exact h.outer hlt hlt
  | succ i=>simp at hv
 have hlt:i<n:=by
  have:=(List.getElem?_eq_some_iff.1 hi).1
  rwa [matOf_length] at this
 have hq:q=listOf n (L i):=by
  simp[matOf,hlt] at hi
  exact hi.symm
 subst hq
 refine⟨some ⟨R i,0,none⟩,n,by simp[hlt,listOf_length],by rw[listOf_length];exact Nat.le_refl _,rowIs_rows (h.m i hlt)⟩
theorem mk_mat (W:World) (n:Nat) (hn:n≤1000000):(Instr.makeSlice 118 (.int .i64 (n:Int)) (.int .i64 (n:Int))).run Tryz.prog W=.ok (.slice (some ⟨W.heap.size,0,none⟩) n n) (W.alloc (.cells (madeCells #[.slice none 0 0] n) 30)) :=
 run_make_row' _ _ _ 24 Tryz.underlying118 (by kernel_rfl) rfl .i64 .i64 n (by omega) (by omega) W
theorem mk_ints (W:World) (n:Nat) (hn:n≤1000000):(Instr.makeSlice 30 (.int .i64 (n:Int)) (.int .i64 (n:Int))).run Tryz.prog W=.ok (.slice (some ⟨W.heap.size,0,none⟩) n n) (W.alloc (.cells (madeCells #[.int .i64 0] n) 3)) :=
 run_make_row' _ _ _ 8 Tryz.underlying30 (by kernel_rfl) rfl .i64 .i64 n (by omega) (by omega) W
end Go.Proofs.YthfokpchdlcidaaGreat
namespace Go.Proofs.YthfokpchdlcidaaGreat
open Go Go.RowKit Go.Shelf
def matFn (M:List (List Int)):Cal.Mat:=fun i j=>(M[i]?.getD [])[j]?.getD 0
theorem minor_fn (M:List (List Int)) (c:Nat) (i j:Nat):matFn (minorL c M) i j=Cal.minor (matFn M) c i j:=by
 unfold matFn minorL Cal.minor Cal.skipI
 rw[List.getElem?_map,List.getElem?_drop,Nat.add_comm 1 i]
 cases h:M[i+1]? with
 | none=>simp[h]
 | some r =>
  simp only[Option.map_some,Option.getD_some]
  unfold offC
  rw[List.getElem?_eraseIdx]
  by_cases hj:j<c
  ·rw[if_pos hj,if_pos hj];simp[h]
  rw[if_neg hj,if_neg hj];simp[h]
theorem detF_detN:∀ (n:Nat) (M:List (List Int)),M.length=n→(∀ r∈M,r.length=n)→detF n M=Cal.detN n (matFn M)
 | 0,_,_,_=>rfl
 | n+1,M,hl,hr=>by
  obtain⟨r,hk'⟩:∃ r,M[0]?=some r:=⟨M[0],List.getElem?_eq_getElem (by omega)⟩
  rw[detF_succ hk']
  unfold Cal.detN
  refine Cal.sumTo_congr fun c hc=>?_
  obtain⟨h1,h2⟩:=minorL_sq hl hr hc
  rw[detF_detN n (minorL c M) h1 h2,show matFn (minorL c M)=Cal.minor (matFn M) c from funext fun i=>funext fun j=>minor_fn M c i j]
  congr 2
  unfold matFn
  rw[hk']
  rfl
theorem matFn_of {n:Nat} {L:Nat→Nat→Int} {i j:Nat} (hi:i<n) (hj:j<n):matFn (matOf n L) i j=L i j:=by
 unfold matFn matOf
 simp[hi,listOf_get hj]
theorem detF_lap {n:Nat} (L:Nat→Nat→Int):detF n (minorL 0 (matOf (n+1) L))=Cal.detN n (Cal.red L):=by
 have h1:=minorL_sq (n:=n) (M:=matOf (n+1) L) (matOf_length _ _) (fun r hr=>by
  unfold matOf at hr
  obtain⟨i,_,rfl⟩:=List.mem_map.1 hr
  exact listOf_length _ _) (c:=0) (by omega)
 rw[detF_detN n _ h1.1 h1.2]
 refine Cal.detN_congr fun i j hi hj=>?_
 rw[minor_fn]
 unfold Cal.minor Cal.skipI Cal.red
 rw[if_neg (by omega),matFn_of (by omega) (by omega)]
theorem wrap_range (a:Int):-9223372036854775808≤IntKind.i64.wrap a∧IntKind.i64.wrap a≤9223372036854775807:=by
 rw[wrap_eq]
 unfold wrap64
 omega
namespace Cal
def hN (n:Nat) (l:List Lev) (i:Nat):Int:=IntKind.i64.wrap (detF n (withL i ((listOf (n+1) (rhs (edges l))).drop 1) (minorL 0 (matOf (n+1) (lap (edges l))))))
def hAt (n:Nat) (l:List Lev) (i:Nat):Int × Int:=(lowN (hN n l i) (hD n l),lowD (hN n l i) (hD n l))
def heightsP (n:Nat) (l:List Lev):List (Int × Int):=(0,1) :: (List.range n).map (hAt n l)
theorem net_edges {n:Nat} {l:List Lev} (h:netE ((n+1:Nat):Int) l=0):(edges l).length≤20∧(∀ e∈edges l,e.f<n+1∧e.t<n+1)∧(∀ e∈edges l,1≤e.w∧e.w≤10)∧(∀ e∈edges l,-100000≤e.d∧e.d≤100000)∧Hangs (n+1) (edges l)∧∀ e∈edges l,e.f≠e.t:=by
 obtain⟨h1,h2,h3,h4,h5⟩:=netE_zero h
 have each:∀ e∈edges l,∃ x∈l,e=edge x∧levE ((n+1:Nat):Int) x=0:=fun e he=>by
  obtain⟨x,hx,rfl⟩:=List.mem_map.1 he
  exact⟨x,hx,rfl,h4 x hx⟩
 refine⟨by unfold edges;rw[List.length_map];exact h3,fun e he=>?_,fun e he=>?_,fun e he=>?_,hangs_of_sweeps (m:=n+1) (fun p hp=>?_),fun e he=>?_⟩
 ·obtain⟨x,_,rfl,hz⟩:=each e he
  have:=levE_zero hz
  unfold edge;dsimp only;omega
 ·obtain⟨x,_,rfl,hz⟩:=each e he
  have:=levE_zero hz
  exact⟨this.2.2.2.2.2.1,this.2.2.2.2.2.2⟩
 ·obtain⟨x,_,rfl,hz⟩:=each e he
  have:=levE_zero hz
  exact⟨this.2.2.2.1,this.2.2.2.2.1⟩
 ·have:=h5 p (by rw[Int.toNat_natCast];exact hp)
  rw[Int.toNat_natCast] at this
  exact this
 obtain⟨x,_,rfl,hz⟩:=each e he
 have:=levE_zero hz
 unfold edge;dsimp only;omega
theorem hD_pos {n:Nat} {l:List Lev} (h:netE ((n+1:Nat):Int) l=0):0<hD n l∧hD n l≤4000000000:=by
 obtain⟨h1,h2,h3,_,h5,_⟩:=net_edges h
 have hn:=netE_zero h
 unfold hD
 rw[detF_lap]
 exact net_det_le (by omega) h1 h2 h3 h5
theorem lap_append (i j:Nat) (e:Edge):∀ l:List Edge,lap (l ++ [e]) i j=lap l i j+e.w*(dl e.f i-dl e.t i)*(dl e.f j-dl e.t j)
 | []=>by simp[lap]
 | a :: l=>by
  rw[List.cons_append]
  show a.w*(dl a.f i-dl a.t i)*(dl a.f j-dl a.t j)+lap (l ++ [e]) i j=a.w*(dl a.f i-dl a.t i)*(dl a.f j-dl a.t j)+lap l i j+_
  rw[lap_append i j e l];omega
theorem rhs_append (p:Nat) (e:Edge):∀ l:List Edge,rhs (l ++ [e]) p=rhs l p+e.w*e.d*(dl e.t p-dl e.f p)
 | []=>by simp[rhs]
 | a :: l=>by
  rw[List.cons_append]
  show a.w*a.d*(dl a.t p-dl a.f p)+rhs (l ++ [e]) p=a.w*a.d*(dl a.t p-dl a.f p)+rhs l p+_
  rw[rhs_append p e l];omega
theorem lap_box {l:List Edge} (h:∀ e∈l,1≤e.w∧e.w≤10) (hl:l.length≤20) (i j:Nat):-200≤lap l i j∧lap l i j≤200:=by
 have main:∀ l:List Edge,(∀ e∈l,1≤e.w∧e.w≤10)→-(10*(l.length:Int))≤lap l i j∧lap l i j≤10*(l.length:Int):=fun l=>by
  induction l with
  | nil=>intro _;simp[lap]
  | cons a l ih =>
   intro h
   have ih:=ih (fun e he=>h e (List.mem_cons_of_mem _ he))
   have ha:=h a (List.mem_cons_self ..)
   show _≤a.w*(dl a.f i-dl a.t i)*(dl a.f j-dl a.t j)+lap l i j∧a.w*(dl a.f i-dl a.t i)*(dl a.f j-dl a.t j)+lap l i j≤_
   have t:-10≤a.w*(dl a.f i-dl a.t i)*(dl a.f j-dl a.t j)∧a.w*(dl a.f i-dl a.t i)*(dl a.f j-dl a.t j)≤10:=by
    have d:∀ i,dl a.f i-dl a.t i=0∨dl a.f i-dl a.t i=1∨dl a.f i-dl a.t i=-1:=fun i=>by
     unfold dl;split <;> split <;> simp
    rcases d i with e | e | e <;> rcases d j with f | f | f <;> rw[e,f] <;> omega
   rw[List.length_cons]
   omega
 have:=main l h
 omega
theorem rhs_box {l:List Edge} (h:∀ e∈l,1≤e.w∧e.w≤10) (hd:∀ e∈l,-100000≤e.d∧e.d≤100000) (hl:l.length≤20) (p:Nat):-20000000≤rhs l p∧rhs l p≤20000000:=by
 have main:∀ l:List Edge,(∀ e∈l,1≤e.w∧e.w≤10)→(∀ e∈l,-100000≤e.d∧e.d≤100000)→-(1000000*(l.length:Int))≤rhs l p∧rhs l p≤1000000*(l.length:Int):=fun l=>by
  induction l with
  | nil=>intro _ _;simp[rhs]
  | cons a l ih =>
   intro h hd
   have ih:=ih (fun e he=>h e (List.mem_cons_of_mem _ he)) (fun e he=>hd e (List.mem_cons_of_mem _ he))
   have ha:=h a (List.mem_cons_self ..)
   have hda:=hd a (List.mem_cons_self ..)
   show _≤a.w*a.d*(dl a.t p-dl a.f p)+rhs l p∧a.w*a.d*(dl a.t p-dl a.f p)+rhs l p≤_
   have hm:-1000000≤a.w*a.d∧a.w*a.d≤1000000:=by
    have:=mul_le_of (a:=a.w) (b:=a.d) (M:=10) (N:=100000) (by omega) (by omega) (by omega) (by omega)
    omega
   have t:-1000000≤a.w*a.d*(dl a.t p-dl a.f p)∧a.w*a.d*(dl a.t p-dl a.f p)≤1000000:=by
    have d:dl a.t p-dl a.f p=0∨dl a.t p-dl a.f p=1∨dl a.t p-dl a.f p=-1:=by
     unfold dl;split <;> split <;> simp
    rcases d with e | e | e <;> rw[e] <;> omega
   rw[List.length_cons]
   omega
 have:=main l h hd
 omega
end Cal
theorem lap_four {l:List Cal.Edge} {e:Cal.Edge} (hne:e.f≠e.t):upd (upd (upd (upd (Cal.lap l) e.f e.f (Cal.lap l e.f e.f+e.w)) e.t e.t (Cal.lap l e.t e.t+e.w)) e.f e.t (Cal.lap l e.f e.t-e.w)) e.t e.f (Cal.lap l e.t e.f-e.w)=Cal.lap (l ++ [e]):=by
 funext i j
 rw[Cal.lap_append]
 unfold upd Cal.dl
 by_cases h1:i=e.f <;> by_cases h2:i=e.t <;> by_cases h3:j=e.f <;> by_cases h4:j=e.t <;> simp_all <;> omega
theorem rhs_two {l:List Cal.Edge} {e:Cal.Edge} (hne:e.f≠e.t):updR (updR (Cal.rhs l) e.t (Cal.rhs l e.t+e.w*e.d)) e.f (Cal.rhs l e.f-e.w*e.d)=Cal.rhs (l ++ [e]):=by
 funext p
 rw[Cal.rhs_append]
 unfold updR Cal.dl
 by_cases h1:p=e.f <;> by_cases h2:p=e.t <;> simp_all <;> omega
end Go.Proofs.YthfokpchdlcidaaGreat
namespace Go.Proofs.YthfokpchdlcidaaGreat
open Go Go.RowKit Go.Shelf
def frR (x:Int × Int):List Value:=[.int .i64 x.1,.int .i64 x.2]
theorem elemFr:Elem Tryz.prog 78 88 2 16:=Elem.mk' Tryz.underlying78 (z:=.agg #[.int .i64 0,.int .i64 0]) (by kernel_rfl) rfl (by decide)
structure XBox (B:Nat) (f t d wt:Int) (W:World):Prop where
 b:BoxAt W B [.int .i64 f,.int .i64 t,.int .i64 d,.int .i64 wt]
theorem XBox.set {B:Nat} {f t d wt:Int} {W:World} (h:XBox B f t d wt W) {b o:Nat} (hne:B≠b) (v:Value):XBox B f t d wt (W.setCell ⟨b,o,none⟩ v) :=
 ⟨h.b.grown (row:=some b) ⟨rfl,rfl,rfl,by rw[World.size_setCell];exact Nat.le_refl _,fun k _ hk=>Below.heap_setCell W ⟨b,o,none⟩ v k (fun e=>hk (by rw[e]))⟩ (fun e=>hne (by cases e;rfl))⟩
theorem XBox.drew {B:Nat} {f t d wt:Int} {W:World} (h:XBox B f t d wt W):XBox B f t d wt W.drew:=⟨h.b.below ((Below.refl _ _).drew)⟩
theorem HtI.start1 {w W:World} {n:Nat} (hb:Below w.heap.size w W):HtI w W.heap.size (W.heap.size+1) (fun _=>0) n 0 (fun _ _=>0) (fun _=>0) ((W.alloc (.cells (madeCells #[.slice none 0 0] n) 30)).alloc (.cells (madeCells #[.int .i64 0] n) 3)):=by
 have h2:=World.rowIs_made (W.alloc (.cells (madeCells #[.slice none 0 0] n) 30)) (.int .i64 0) n 3
 rw[World.size_alloc] at h2
 exact⟨((World.rowIs_made W (.slice none 0 0) n 30).alloc _).congr (fun i _=>by rw[if_neg (by omega)]),fun i hi=>by omega,h2,by omega,fun i hi=>by omega,fun i j hi=>by omega,hb.size,by have:=hb.size;omega,fun i hi=>by omega,below_step (below_step hb (below_alloc _ _)) (below_alloc _ _)⟩
theorem HtI.start2 {w W:World} {n:Nat} (hb:Below w.heap.size w W):HtI w (W.heap.size+1) W.heap.size (fun _=>0) n 0 (fun _ _=>0) (fun _=>0) ((W.alloc (.cells (madeCells #[.int .i64 0] n) 3)).alloc (.cells (madeCells #[.slice none 0 0] n) 30)):=by
 have h2:=World.rowIs_made (W.alloc (.cells (madeCells #[.int .i64 0] n) 3)) (.slice none 0 0) n 30
 rw[World.size_alloc] at h2
 exact⟨h2.congr (fun i _=>by rw[if_neg (by omega)]),fun i hi=>by omega,(World.rowIs_made W (.int .i64 0) n 3).alloc _,by omega,fun i hi=>by omega,fun i j hi=>by omega,by have:=hb.size;omega,hb.size,fun i hi=>by omega,below_step (below_step hb (below_alloc _ _)) (below_alloc _ _)⟩
theorem Heights_any (N:Int) (A:Option Addr) (c:Nat) (l:List Lev) (w:World) (hL:Levs w A l) :
  Calls Tryz.prog 36 #[.int .i64 N,.slice A l.length c] w fun e w'=>∃ v,e=.returned (.tuple #[v,.int .i64 (Cal.netE N l)])∧OwnL w' w.heap.size 88 2 v ((if Cal.netE N l=0 then Cal.heightsP (N.toNat-1) l else []).map frR)∧Below w.heap.size w w':=by
 have hck:=Lib.hid (fun W (hb:Below w.heap.size w W)=>CheckNet_any N A c l W (hL.below hb))
 have hb0:Hid (Below w.heap.size w w):=Below.refl _ _
 by_cases hz:Cal.netE N l=0
 ·obtain⟨hn1,hn6,hl20,hlev,_⟩:=Cal.netE_zero hz
  obtain⟨n,rfl⟩:∃ n:Nat,N=((n+1:Nat):Int):=⟨N.toNat-1,by omega⟩
  have hres:Hid ((if Cal.netE ((n+1:Nat):Int) l=0 then Cal.heightsP (((n+1:Nat):Int).toNat-1) l else [])=Cal.heightsP n l):=by
   show _=_
   rw[if_pos hz,Int.toNat_natCast,Nat.add_sub_cancel]
  rw[hres.out]
  obtain⟨he1,he2,he3,he4,he5,he6⟩:=Cal.net_edges hz
  have hDp:=Cal.hD_pos hz
  have hlev:=Lib.hid hlev
  rw[hz]
  replace hz:=Lib.hid hz
  have hk1:∀ W,(Instr.makeSlice 118 (.int .i64 ((n:Int)+1)) (.int .i64 ((n:Int)+1))).run Tryz.prog W=.ok (.slice (some ⟨W.heap.size,0,none⟩) (n+1) (n+1)) (W.alloc (.cells (madeCells #[.slice none 0 0] (n+1)) 30)):=fun W=>mk_mat W (n+1) (by omega)
  have hk2:∀ W,(Instr.makeSlice 30 (.int .i64 ((n:Int)+1)) (.int .i64 ((n:Int)+1))).run Tryz.prog W=.ok (.slice (some ⟨W.heap.size,0,none⟩) (n+1) (n+1)) (W.alloc (.cells (madeCells #[.int .i64 0] (n+1)) 3)):=fun W=>mk_ints W (n+1) (by omega)
  replace hL:=Lib.hid hL
  clear hres
  go_enter Tryz.func36,Tryz.ntmps36
  go_wp2_with (go_at_call 69;refine (hck.out _ hb0.out).mono ?_;rintro e0 w1 ⟨rfl,hb1⟩;rw[hz.out];replace hb1:=Lib.hid hb1;clear hck hb0)
  go_cut [7,8] from 21 to 24 (fun m7 m8 wc=>∃ G H:Nat,m7=.slice (some ⟨G,0,none⟩) (n+1) (n+1)∧m8=.slice (some ⟨H,0,none⟩) (n+1) (n+1)∧Hid (HtI w G H (fun _=>0) (n+1) 0 (fun _ _=>0) (fun _=>0) wc))
  case first =>
   refine wp_region_held_drew (S:=Sx w1 []) (by kernel_rfl) (Sx.mk (cs_nil _) (Below.refl _ _)).drew (fun hHeld=>?_)
   refine tkHx 0 21 ?_
   refine tkHx 2 23 ?_
   (refine wpAnyH_ready (rs:=[1,3]) (by decide +kernel) (by simp) ?_;refine AllReadyH.cons rfl (fun K hK=>?_) (AllReadyH.cons rfl (fun K hK=>?_) AllReadyH.nil))
   ·(rw[if_pos (by kernel_rfl)];go_simp)
    refine hK.out _ _ (hHeld.alloc _) (fun hHeld=>?_)
    clear hK K
    (try simp only[apS,apN,siA,scZ,scS])
    refine tkHx 4 7 ?_
    (refine ratHx 3 (fun K hK=>?_);go_simp)
    refine hK.out _ _ (hHeld.alloc _) (fun hHeld=>?_)
    clear hK K
    (try simp only[apS,apN,siA,scZ,scS])
    refine tkHx 5 8 ?_
    refine wpAnyH_done (by kernel_rfl) ?_ _
    (try simp only[apS,apN,siA,scZ,scS])
    have hH:=Lib.hid (HtI.start1 (w:=w) (W:=w1.drew) (n:=n+1) hb1.out.drew)
    clear hHeld hk1 hk2
    go_wp2_with fail
    go_meet
    case rel=>exact⟨_,_,rfl,rfl,hH⟩
   (rw[if_pos (by kernel_rfl)];go_simp)
   refine hK.out _ _ (hHeld.alloc _) (fun hHeld=>?_)
   clear hK K
   (try simp only[apS,apN,siA,scZ,scS])
   (refine ratHx 1 (fun K hK=>?_);go_simp)
   refine hK.out _ _ (hHeld.alloc _) (fun hHeld=>?_)
   clear hK K
   (try simp only[apS,apN,siA,scZ,scS])
   refine tkHx 4 7 ?_
   refine tkHx 5 8 ?_
   refine wpAnyH_done (by kernel_rfl) ?_ _
   (try simp only[apS,apN,siA,scZ,scS])
   have hH:=Lib.hid (HtI.start2 (w:=w) (W:=w1.drew) (n:=n+1) hb1.out.drew)
   clear hHeld hk1 hk2
   go_wp2_with fail
   go_meet
   case rel=>exact⟨_,_,rfl,rfl,hH⟩
  case rest =>
   obtain⟨G,H,rfl,rfl,hI⟩:=hcut
   clear hk1 hb1
   go_wp2_with fail
   go_loopw [27] (fun i wr=>∃ (k:Nat) (R:Nat→Nat),k≤n+1∧i=.int .i64 k∧Hid (HtI w G H R (n+1) k (fun _ _=>0) (fun _=>0) wr)) (fun i _=>n+1-(intOf i).toNat)
   case atStart=>exact⟨0,_,Nat.zero_le _,rfl,hI⟩
   case round =>
    clear hI
    obtain⟨k,R,hk,rfl,hI⟩:=hrel
    by_cases hlt:k<n+1
    ·have c0:=hI.out.o.cell hlt
     rw[if_neg (by omega)] at c0
     have f0:=hI.out.o.frozen k
     have g0:=hI.out.o.lt
     have hI2:=hI.out.row
     rw[World.setCell_alloc_past _ _ _ _ g0] at hI2
     replace hI2:=Lib.hid hI2
     clear hI
     go_wp2_with fail
     go_roundw
     case rel=>exact⟨k+1,_,by omega,by go_num,hI2⟩
     case measure=>simp[intOf];omega
    have hI9:Hid (HtI w G H R (n+1) (n+1) (fun _ _=>0) (fun _=>0) wr):=by
     have e:k=n+1:=by omega
     rw[e] at hI
     exact hI
    clear hk2 hI
    go_wp2_with fail
    have hI0:Hid (HtI w G H R (n+1) (n+1) (Cal.lap (Cal.edges (l.take 0))) (Cal.rhs (Cal.edges (l.take 0))) wr):=hI9
    clear hI9
    go_loopw [38] (fun i wr=>∃ k:Nat,k≤l.length∧i=.int .i64 k∧Hid (HtI w G H R (n+1) (n+1) (Cal.lap (Cal.edges (l.take k))) (Cal.rhs (Cal.edges (l.take k))) wr)) (fun i _=>l.length-(intOf i).toNat)
    case atStart=>exact⟨0,Nat.zero_le _,rfl,hI0⟩
    case round =>
     clear hI0
     obtain⟨k,hk,rfl,hI⟩:=hrel
     by_cases hlt:k<l.length
     ·have hk':l[k]?=some l[k]:=List.getElem?_eq_getElem hlt
      have hv:=Cal.levE_zero (hlev.out _ (List.getElem_mem hlt))
      have htk:Cal.edges (l.take (k+1))=Cal.edges (l.take k) ++ [Cal.edge l[k]]:=by
       unfold Cal.edges
       rw[List.take_succ_eq_append_getElem hlt,List.map_append];rfl
      have hsub:∀ e∈Cal.edges (l.take k),e∈Cal.edges l:=fun e he=>by
       obtain⟨x,hx,rfl⟩:=List.mem_map.1 he
       exact List.mem_map.2 ⟨x,List.mem_of_mem_take hx,rfl⟩
      have hel:(Cal.edges (l.take k)).length≤20:=by unfold Cal.edges;rw[List.length_map,List.length_take];omega
      have hbx:=fun i j=>Cal.lap_box (fun e he=>he3 e (hsub e he)) hel i j
      have hrx:=fun i=>Cal.rhs_box (fun e he=>he3 e (hsub e he)) (fun e he=>he4 e (hsub e he)) hel i
      generalize Cal.edges (l.take k)=es at *
      generalize l[k]=x at *
      obtain⟨b,o,rfl,hbl,c0,c1,c2,c3⟩:=lev_at (hL.out.below hI.out.bel).rows hk'
      obtain⟨xf,xt,d,wt⟩:=x
      dsimp only at *
      obtain⟨⟨f0,f1⟩,⟨t0,t1⟩,hft,d0,d1,w0,w1'⟩:=hv
      obtain⟨f,rfl⟩:∃ f:Nat,xf=(f:Int):=⟨xf.toNat,by omega⟩
      obtain⟨t,rfl⟩:∃ t:Nat,xt=(t:Int):=⟨xt.toNat,by omega⟩
      have hfn:f<n+1:=by omega
      have htn:t<n+1:=by omega
      have hfi:(f:Int)<(n:Int)+1:=by omega
      have hti:(t:Int)<(n:Int)+1:=by omega
      have hne:f≠t:=by omega
      have hfour:=lap_four (l:=es) (e:=⟨f,t,d,wt⟩) hne
      have htwo:=rhs_two (l:=es) (e:=⟨f,t,d,wt⟩) hne
      have hed:Cal.edges (l.take (k+1))=es ++ [⟨f,t,d,wt⟩]:=htk
      dsimp only at hfour htwo
      rw[←hed] at hfour htwo
      generalize hlf:Cal.lap es=lf at *
      generalize hrf:Cal.rhs es=rf at *
      have v2:upd lf f f (lf f f+wt) t t=lf t t:=by unfold upd;rw[if_neg (by omega)]
      have v3:upd (upd lf f f (lf f f+wt)) t t (lf t t+wt) f t=lf f t:=by unfold upd;rw[if_neg (by omega),if_pos rfl,if_neg (by omega)]
      have v4:upd (upd (upd lf f f (lf f f+wt)) t t (lf t t+wt)) f t (lf f t-wt) t f=lf t f:=by unfold upd;rw[if_neg (by omega),if_pos rfl,if_neg (by omega),if_neg (by omega)]
      have v6:updR rf t (rf t+wt*d) f=rf f:=by unfold updR;rw[if_neg (by omega)]
      have b1:=hbx f f
      have b2:=hbx t t
      have b3:=hbx f t
      have b4:=hbx t f
      have b5:=hrx t
      have b6:=hrx f
      have hmul:=mul_le_of (a:=wt) (b:=d) (M:=10) (N:=100000) (by omega) (by omega) (by omega) (by omega)
      have q1:IntKind.i64.wrap (lf f f+wt)=lf f f+wt:=wrap_small (by omega) (by omega)
      have q2:IntKind.i64.wrap (lf t t+wt)=lf t t+wt:=wrap_small (by omega) (by omega)
      have q3:IntKind.i64.wrap (lf f t-wt)=lf f t-wt:=wrap_small (by omega) (by omega)
      have q4:IntKind.i64.wrap (lf t f-wt)=lf t f-wt:=wrap_small (by omega) (by omega)
      have q5:IntKind.i64.wrap (wt*d)=wt*d:=wrap_small (by omega) (by omega)
      have q6:IntKind.i64.wrap (rf t+wt*d)=rf t+wt*d:=wrap_small (by omega) (by omega)
      have q7:IntKind.i64.wrap (rf f-wt*d)=rf f-wt*d:=wrap_small (by omega) (by omega)
      replace v2:=Lib.hid v2
      replace v3:=Lib.hid v3
      replace v4:=Lib.hid v4
      replace v6:=Lib.hid v6
      replace hfour:=Lib.hid hfour
      replace htwo:=Lib.hid htwo
      have nR:∀ i,i<n+1→wr.heap.size≠R i:=fun i hi=>by have:=(hI.out.m i hi).lt;omega
      have nH:wr.heap.size≠H:=by have:=hI.out.r.lt;omega
      have hx:Hid (XBox wr.heap.size (f:Int) (t:Int) d wt (wr.alloc (.cells #[.int .i64 (f:Int),.int .i64 (t:Int),.int .i64 d,.int .i64 wt] 120))):=⟨BoxAt.new wr #[.int .i64 (f:Int),.int .i64 (t:Int),.int .i64 d,.int .i64 wt] 120⟩
      replace hI:=Lib.hid (hI.out.below (below_alloc wr (.cells #[.int .i64 (f:Int),.int .i64 (t:Int),.int .i64 d,.int .i64 wt] 120)))
      clear hbx hrx hmul htk hed hsub hk' hlf hrf f0 f1 t0 t1
      go_wp2_with fail
      generalize hBx:wr.heap.size=Bx at *
      generalize hXw1:wr.alloc (.cells #[.int .i64 (f:Int),.int .i64 (t:Int),.int .i64 d,.int .i64 wt] 120)=Xw1 at *
      clear hXw1 hBx c0 c1 c2 c3 hbl
      have m0:=hI.out.outer (i:=f) (by omega) (by omega)
      have m1:Xw1.cell? ⟨R f,f,none⟩=some (.int .i64 (lf f f)):=((hI.out.m f (by omega)).cell (i:=f) (by omega)).trans (congrArg some (congrArg (Value.int .i64) rfl))
      have f1:=(hI.out.m f (by omega)).frozen f
      obtain⟨c0,c1,c2,c3⟩:=hx.out.b.c4
      go_wp2_with fail
      refine wp_region_heldZ (S:=Sx Xw1 [(Bx,0,.int .i64 (f:Int)),(Bx,1,.int .i64 (t:Int)),(Bx,2,.int .i64 d),(Bx,3,.int .i64 wt),(G,f,.slice (some ⟨R f,0,none⟩) (n+1) (n+1)),(R f,f,.int .i64 (lf f f))]) 13 (by kernel_rfl) (Sx.mk (by simp only[cs_iff_cons];exact⟨c0,c1,c2,c3,m0,m1,cs_nil _⟩) (Below.refl _ _)).drew (fun hHeld=>?_)
      clear c0 c1 c2 c3 m0
      replace hI:=Lib.hid (hI.out.below hHeld.bel)
      replace hx:Hid (XBox Bx (f:Int) (t:Int) d wt Xw1.drew):=hx.out.drew
      replace m1:Xw1.drew.cell? _=_:=m1
      replace f1:Xw1.drew.frozen? _=_:=f1
      generalize Xw1.drew=Yw1 at *
      refine tkZx 0 42 ?_
      refine tkZx 1 43 ?_
      refine tkZx 2 44 ?_
      refine tkZx 3 45 ?_
      refine tkZx 4 46 ?_
      refine tkZx 5 47 ?_
      refine tkZx 6 48 ?_
      refine tkZx 7 49 ?_
      refine tkZx 8 50 ?_
      refine tkZx 9 51 ?_
      refine tkZx 10 52 ?_
      refine tkZx 11 53 ?_
      refine tkZx 12 54 ?_
      (refine ratZc 13 (by decide +kernel) rfl (by decide +kernel) (fun K hK=>?_);rw[if_pos (by kernel_rfl)];go_simp;refine hK.out _ _ ?_;clear hK K;(try simp only[apS,apN,siA,scZ,scS]))
      refine wpAnyHY_done (by decide +kernel) ?_ _
      (try simp only[apS,apN,siA,scZ,scS])
      clear hHeld m1 f1
      replace hx:=Lib.hid (hx.out.set (o:=f) (nR f (by omega)) (.int .i64 (lf f f+wt)))
      replace hI:=Lib.hid (hI.out.setM (a:=f) (by omega) f (lf f f+wt))
      generalize hXw2:Yw1.setCell ⟨R f,f,none⟩ (.int .i64 (lf f f+wt))=Xw2 at *
      clear hXw2
      have m0:=hI.out.outer (i:=t) (by omega) (by omega)
      have m1:Xw2.cell? ⟨R t,t,none⟩=some (.int .i64 (lf t t)):=((hI.out.m t (by omega)).cell (i:=t) (by omega)).trans (congrArg some (congrArg (Value.int .i64) v2.out))
      have f1:=(hI.out.m t (by omega)).frozen t
      obtain⟨c0,c1,c2,c3⟩:=hx.out.b.c4
      go_wp2_with fail
      refine wp_region_heldZ (S:=Sx Xw2 [(Bx,0,.int .i64 (f:Int)),(Bx,1,.int .i64 (t:Int)),(Bx,2,.int .i64 d),(Bx,3,.int .i64 wt),(G,t,.slice (some ⟨R t,0,none⟩) (n+1) (n+1)),(R t,t,.int .i64 (lf t t))]) 13 (by kernel_rfl) (Sx.mk (by simp only[cs_iff_cons];exact⟨c0,c1,c2,c3,m0,m1,cs_nil _⟩) (Below.refl _ _)).drew (fun hHeld=>?_)
      clear c0 c1 c2 c3 m0
      replace hI:=Lib.hid (hI.out.below hHeld.bel)
      replace hx:Hid (XBox Bx (f:Int) (t:Int) d wt Xw2.drew):=hx.out.drew
      replace m1:Xw2.drew.cell? _=_:=m1
      replace f1:Xw2.drew.frozen? _=_:=f1
      generalize Xw2.drew=Yw2 at *
      refine tkZx 0 55 ?_
      refine tkZx 1 56 ?_
      refine tkZx 2 57 ?_
      refine tkZx 3 58 ?_
      refine tkZx 4 59 ?_
      refine tkZx 5 60 ?_
      refine tkZx 6 61 ?_
      refine tkZx 7 62 ?_
      refine tkZx 8 63 ?_
      refine tkZx 9 64 ?_
      refine tkZx 10 65 ?_
      refine tkZx 11 66 ?_
      refine tkZx 12 67 ?_
      (refine ratZc 13 (by decide +kernel) rfl (by decide +kernel) (fun K hK=>?_);rw[if_pos (by kernel_rfl)];go_simp;refine hK.out _ _ ?_;clear hK K;(try simp only[apS,apN,siA,scZ,scS]))
      refine wpAnyHY_done (by decide +kernel) ?_ _
      (try simp only[apS,apN,siA,scZ,scS])
      clear hHeld m1 f1
      replace hx:=Lib.hid (hx.out.set (o:=t) (nR t (by omega)) (.int .i64 (lf t t+wt)))
      replace hI:=Lib.hid (hI.out.setM (a:=t) (by omega) t (lf t t+wt))
      generalize hXw3:Yw2.setCell ⟨R t,t,none⟩ (.int .i64 (lf t t+wt))=Xw3 at *
      clear hXw3
      have m0:=hI.out.outer (i:=f) (by omega) (by omega)
      have m1:Xw3.cell? ⟨R f,t,none⟩=some (.int .i64 (lf f t)):=((hI.out.m f (by omega)).cell (i:=t) (by omega)).trans (congrArg some (congrArg (Value.int .i64) v3.out))
      have f1:=(hI.out.m f (by omega)).frozen t
      obtain⟨c0,c1,c2,c3⟩:=hx.out.b.c4
      go_wp2_with fail
      refine wp_region_heldZ (S:=Sx Xw3 [(Bx,0,.int .i64 (f:Int)),(Bx,1,.int .i64 (t:Int)),(Bx,2,.int .i64 d),(Bx,3,.int .i64 wt),(G,f,.slice (some ⟨R f,0,none⟩) (n+1) (n+1)),(R f,t,.int .i64 (lf f t))]) 13 (by kernel_rfl) (Sx.mk (by simp only[cs_iff_cons];exact⟨c0,c1,c2,c3,m0,m1,cs_nil _⟩) (Below.refl _ _)).drew (fun hHeld=>?_)
      clear c0 c1 c2 c3 m0
      replace hI:=Lib.hid (hI.out.below hHeld.bel)
      replace hx:Hid (XBox Bx (f:Int) (t:Int) d wt Xw3.drew):=hx.out.drew
      replace m1:Xw3.drew.cell? _=_:=m1
      replace f1:Xw3.drew.frozen? _=_:=f1
      generalize Xw3.drew=Yw3 at *
      refine tkZx 0 68 ?_
      refine tkZx 1 69 ?_
      refine tkZx 2 70 ?_
      refine tkZx 3 71 ?_
      refine tkZx 4 72 ?_
      refine tkZx 5 73 ?_
      refine tkZx 6 74 ?_
      refine tkZx 7 75 ?_
      refine tkZx 8 76 ?_
      refine tkZx 9 77 ?_
      refine tkZx 10 78 ?_
      refine tkZx 11 79 ?_
      refine tkZx 12 80 ?_
      (refine ratZc 13 (by decide +kernel) rfl (by decide +kernel) (fun K hK=>?_);rw[if_pos (by kernel_rfl)];go_simp;refine hK.out _ _ ?_;clear hK K;(try simp only[apS,apN,siA,scZ,scS]))
      refine wpAnyHY_done (by decide +kernel) ?_ _
      (try simp only[apS,apN,siA,scZ,scS])
      clear hHeld m1 f1
      replace hx:=Lib.hid (hx.out.set (o:=t) (nR f (by omega)) (.int .i64 (lf f t-wt)))
      replace hI:=Lib.hid (hI.out.setM (a:=f) (by omega) t (lf f t-wt))
      generalize hXw4:Yw3.setCell ⟨R f,t,none⟩ (.int .i64 (lf f t-wt))=Xw4 at *
      clear hXw4
      have m0:=hI.out.outer (i:=t) (by omega) (by omega)
      have m1:Xw4.cell? ⟨R t,f,none⟩=some (.int .i64 (lf t f)):=((hI.out.m t (by omega)).cell (i:=f) (by omega)).trans (congrArg some (congrArg (Value.int .i64) v4.out))
      have f1:=(hI.out.m t (by omega)).frozen f
      obtain⟨c0,c1,c2,c3⟩:=hx.out.b.c4
      go_wp2_with fail
      refine wp_region_heldZ (S:=Sx Xw4 [(Bx,0,.int .i64 (f:Int)),(Bx,1,.int .i64 (t:Int)),(Bx,2,.int .i64 d),(Bx,3,.int .i64 wt),(G,t,.slice (some ⟨R t,0,none⟩) (n+1) (n+1)),(R t,f,.int .i64 (lf t f))]) 13 (by kernel_rfl) (Sx.mk (by simp only[cs_iff_cons];exact⟨c0,c1,c2,c3,m0,m1,cs_nil _⟩) (Below.refl _ _)).drew (fun hHeld=>?_)
      clear c0 c1 c2 c3 m0
      replace hI:=Lib.hid (hI.out.below hHeld.bel)
      replace hx:Hid (XBox Bx (f:Int) (t:Int) d wt Xw4.drew):=hx.out.drew
      replace m1:Xw4.drew.cell? _=_:=m1
      replace f1:Xw4.drew.frozen? _=_:=f1
      generalize Xw4.drew=Yw4 at *
      refine tkZx 0 81 ?_
      refine tkZx 1 82 ?_
      refine tkZx 2 83 ?_
      refine tkZx 3 84 ?_
      refine tkZx 4 85 ?_
      refine tkZx 5 86 ?_
      refine tkZx 6 87 ?_
      refine tkZx 7 88 ?_
      refine tkZx 8 89 ?_
      refine tkZx 9 90 ?_
      refine tkZx 10 91 ?_
      refine tkZx 11 92 ?_
      refine tkZx 12 93 ?_
      (refine ratZc 13 (by decide +kernel) rfl (by decide +kernel) (fun K hK=>?_);rw[if_pos (by kernel_rfl)];go_simp;refine hK.out _ _ ?_;clear hK K;(try simp only[apS,apN,siA,scZ,scS]))
      refine wpAnyHY_done (by decide +kernel) ?_ _
      (try simp only[apS,apN,siA,scZ,scS])
      clear hHeld m1 f1
      replace hx:=Lib.hid (hx.out.set (o:=f) (nR t (by omega)) (.int .i64 (lf t f-wt)))
      replace hI:=Lib.hid (hI.out.setM (a:=t) (by omega) f (lf t f-wt))
      generalize hXw5:Yw4.setCell ⟨R t,f,none⟩ (.int .i64 (lf t f-wt))=Xw5 at *
      clear hXw5
      have m1:Xw5.cell? ⟨H,t,none⟩=some (.int .i64 (rf t)):=(hI.out.r.cell (i:=t) (by omega)).trans (congrArg some (congrArg (Value.int .i64) rfl))
      have f1:=hI.out.r.frozen t
      obtain⟨c0,c1,c2,c3⟩:=hx.out.b.c4
      go_wp2_with fail
      refine wp_region_heldZ (S:=Sx Xw5 [(Bx,0,.int .i64 (f:Int)),(Bx,1,.int .i64 (t:Int)),(Bx,2,.int .i64 d),(Bx,3,.int .i64 wt),(H,t,.int .i64 (rf t))]) 12 (by kernel_rfl) (Sx.mk (by simp only[cs_iff_cons];exact⟨c0,c1,c2,c3,m1,cs_nil _⟩) (Below.refl _ _)).drew (fun hHeld=>?_)
      clear c0 c1 c2 c3
      replace hI:=Lib.hid (hI.out.below hHeld.bel)
      replace hx:Hid (XBox Bx (f:Int) (t:Int) d wt Xw5.drew):=hx.out.drew
      replace m1:Xw5.drew.cell? _=_:=m1
      replace f1:Xw5.drew.frozen? _=_:=f1
      generalize Xw5.drew=Yw5 at *
      refine tkZx 0 94 ?_
      refine tkZx 1 95 ?_
      refine tkZx 2 96 ?_
      refine tkZx 3 97 ?_
      refine tkZx 4 98 ?_
      refine tkZx 5 99 ?_
      refine tkZx 6 100 ?_
      refine tkZx 7 101 ?_
      refine tkZx 8 102 ?_
      refine tkZx 9 103 ?_
      refine tkZx 10 104 ?_
      refine tkZx 11 105 ?_
      (refine ratZc 12 (by decide +kernel) rfl (by decide +kernel) (fun K hK=>?_);rw[if_pos (by kernel_rfl)];go_simp;refine hK.out _ _ ?_;clear hK K;(try simp only[apS,apN,siA,scZ,scS]))
      refine wpAnyHY_done (by decide +kernel) ?_ _
      (try simp only[apS,apN,siA,scZ,scS])
      clear hHeld m1 f1
      replace hx:=Lib.hid (hx.out.set (o:=t) nH (.int .i64 (rf t+wt*d)))
      replace hI:=Lib.hid (hI.out.setR t (rf t+wt*d))
      generalize hXw6:Yw5.setCell ⟨H,t,none⟩ (.int .i64 (rf t+wt*d))=Xw6 at *
      clear hXw6
      have m1:Xw6.cell? ⟨H,f,none⟩=some (.int .i64 (rf f)):=(hI.out.r.cell (i:=f) (by omega)).trans (congrArg some (congrArg (Value.int .i64) v6.out))
      have f1:=hI.out.r.frozen f
      obtain⟨c0,c1,c2,c3⟩:=hx.out.b.c4
      go_wp2_with fail
      refine wp_region_heldZ (S:=Sx Xw6 [(Bx,0,.int .i64 (f:Int)),(Bx,1,.int .i64 (t:Int)),(Bx,2,.int .i64 d),(Bx,3,.int .i64 wt),(H,f,.int .i64 (rf f))]) 12 (by kernel_rfl) (Sx.mk (by simp only[cs_iff_cons];exact⟨c0,c1,c2,c3,m1,cs_nil _⟩) (Below.refl _ _)).drew (fun hHeld=>?_)
      clear c0 c1 c2 c3
      replace hI:=Lib.hid (hI.out.below hHeld.bel)
      replace hx:Hid (XBox Bx (f:Int) (t:Int) d wt Xw6.drew):=hx.out.drew
      replace m1:Xw6.drew.cell? _=_:=m1
      replace f1:Xw6.drew.frozen? _=_:=f1
      generalize Xw6.drew=Yw6 at *
      refine tkZx 0 106 ?_
      refine tkZx 1 107 ?_
      refine tkZx 2 108 ?_
      refine tkZx 3 109 ?_
      refine tkZx 4 110 ?_
      refine tkZx 5 111 ?_
      refine tkZx 6 112 ?_
      refine tkZx 7 113 ?_
      refine tkZx 8 114 ?_
      refine tkZx 9 115 ?_
      refine tkZx 10 116 ?_
      refine tkZx 11 117 ?_
      (refine ratZc 12 (by decide +kernel) rfl (by decide +kernel) (fun K hK=>?_);rw[if_pos (by kernel_rfl)];go_simp;refine hK.out _ _ ?_;clear hK K;(try simp only[apS,apN,siA,scZ,scS]))
      refine wpAnyHY_done (by decide +kernel) ?_ _
      (try simp only[apS,apN,siA,scZ,scS])
      clear hHeld m1 f1
      replace hx:=Lib.hid (hx.out.set (o:=f) nH (.int .i64 (rf f-wt*d)))
      replace hI:=Lib.hid (hI.out.setR f (rf f-wt*d))
      generalize hXw7:Yw6.setCell ⟨H,f,none⟩ (.int .i64 (rf f-wt*d))=Xw7 at *
      clear hXw7
      have hIn:Hid (HtI w G H R (n+1) (n+1) (Cal.lap (Cal.edges (l.take (k+1)))) (Cal.rhs (Cal.edges (l.take (k+1)))) Xw7):=by
       show HtI _ _ _ _ _ _ _ _ _
       rw[←hfour.out,←htwo.out]
       exact hI.out
      clear hI hx hfour htwo v2 v3 v4 v6
      go_wp2_with fail
      go_roundw
      case rel=>exact⟨k+1,by omega,by go_num,hIn⟩
      case measure=>simp[intOf];omega
     obtain rfl:k=l.length:=by omega
     rw[List.take_length] at hI
     have hM0:=hI.out.read
     have hMl:(matOf (n+1) (Cal.lap (Cal.edges l))).length=n+1:=matOf_length _ _
     have hMr:∀ r∈matOf (n+1) (Cal.lap (Cal.edges l)),r.length=n+1:=fun r hr=>by
      unfold matOf at hr
      obtain⟨i,_,rfl⟩:=List.mem_map.1 hr
      exact listOf_length _ _
     have hn6':n≤5:=by omega
     have hsq:=minorL_sq hMl hMr (c:=0) (by omega)
     have hwo:Hid (∀ W,Below wr.heap.size wr W→Calls Tryz.prog 70 #[.slice (some ⟨G,0,none⟩) (n+1) (n+1),.int .i64 0] W fun e w'=>∃ A' c' us,e=.returned (.slice A' n c')∧n≤c'∧MatR w' A' (minorL 0 (matOf (n+1) (Cal.lap (Cal.edges l)))) us∧Below W.heap.size W w'):=fun W hb=>by
      have:=without_any (some ⟨G,0,none⟩) (n+1) (matOf (n+1) (Cal.lap (Cal.edges l))) _ 0 W (hM0.below hb) (by omega) (by omega) ⟨by omega,fun r hr=>by rw[hMr r hr];omega⟩ (by omega)
      rw[hMl] at this
      refine this.mono ?_
      rintro e w' ⟨v,us,rfl,hO,hb'⟩
      obtain⟨A',c',rfl,hc',hR⟩:=hO.read
      rw[hsq.1] at hc' ⊢
      exact⟨A',c',us,rfl,hc',hR,hb'⟩
     have hrr:=rowIs_rows hI.out.r
     obtain⟨A1,c1,hcut,hc1,hrows⟩:=cut_tail undIntsI sizeIntI (n:=n+1) (c:=n+1) (by rw[intRows_length,listOf_length]) hrr (Nat.le_refl _) (k:=1) (by omega)
     have hcut2:∀ w',(Instr.slice 30 (.slice (some ⟨H,0,none⟩) (n+1) (n+1)) (some (.int .i64 1)) none none).run Tryz.prog w'=.ok (.slice A1 n c1) w':=hcut
     have hr1:(intRows (listOf (n+1) (Cal.rhs (Cal.edges l)))).drop 1=intRows ((listOf (n+1) (Cal.rhs (Cal.edges l))).drop 1):=by unfold intRows;rw[List.map_drop]
     rw[hr1] at hrows
     have hrl:((listOf (n+1) (Cal.rhs (Cal.edges l))).drop 1).length=n:=by rw[List.length_drop,listOf_length];omega
     replace hrows:=Lib.hid hrows
     have hbw:=Lib.hid hI.out.bel
     have hDd:Hid (IntKind.i64.wrap (detF n (minorL 0 (matOf (n+1) (Cal.lap (Cal.edges l)))))=Cal.hD n l):=by
      show _=_
      have:detF n (minorL 0 (matOf (n+1) (Cal.lap (Cal.edges l))))=Cal.hD n l:=rfl
      rw[this]
      exact wrap_small (by omega) (by omega)
     have hNn:Hid (∀ i,IntKind.i64.wrap (detF n (withL i ((listOf (n+1) (Cal.rhs (Cal.edges l))).drop 1) (minorL 0 (matOf (n+1) (Cal.lap (Cal.edges l))))))=Cal.hN n l i):=fun i=>rfl
     generalize minorL 0 (matOf (n+1) (Cal.lap (Cal.edges l)))=M' at *
     generalize (listOf (n+1) (Cal.rhs (Cal.edges l))).drop 1=r1 at *
     obtain⟨hM1,hM2⟩:=hsq
     replace hM2:=Lib.hid hM2
     have hdet:=Lib.hid (fun A c vs w h1 h2=>det_any n A c M' vs w h1 hM1 h2 hM2.out (by omega))
     clear hM0 hMl hMr hrr hcut hr1 hI
     have hsm:∀ r∈M',r.length≤1000:=fun r hr=>by rw[hM2.out r hr];omega
     have hwi:Hid (∀ i A' c' us W,i<n→MatR W A' M' us→RowsAt W A1 1 (intRows r1)→Calls Tryz.prog 73 #[.slice A' n c',.int .i64 (i:Int),.slice A1 n c1] W fun e w'=>∃ A2 c2 us2,e=.returned (.slice A2 n c2)∧n≤c2∧MatR w' A2 (withL i r1 M') us2∧Below W.heap.size W w'):=fun i A' c' us W hi hR hr=>by
      have:=with_any A' A1 c' c1 M' us r1 i W hR ⟨by omega,hsm⟩ hr (by omega) (by omega) (fun r hr=>by rw[hM2.out r hr];exact hi)
      rw[hM1,hrl,←hrl,List.take_length,hrl] at this
      refine this.mono ?_
      rintro e w' ⟨v,us2,rfl,hO,hb'⟩
      obtain⟨A2,c2,rfl,hc2,hR2⟩:=hO.read
      have hl2:(withL i r1 M').length=n:=by unfold withL;rw[List.length_zipWith];omega
      rw[hl2] at hc2 ⊢
      exact⟨A2,c2,us2,rfl,hc2,hR2,hb'⟩
     have hdet2:Hid (∀ i A c vs w,i<n→MatR w A (withL i r1 M') vs→n≤c→Calls Tryz.prog 71 #[.slice A n c] w fun e w'=>e=.returned (.int .i64 (Cal.hN n l i))∧Below w.heap.size w w'):=fun i A c vs w hi h1 h2=>by
      have hl2:(withL i r1 M').length=n:=by unfold withL;rw[List.length_zipWith];omega
      have:=det_any n A c (withL i r1 M') vs w h1 hl2 h2 (fun r hr=>by
       unfold withL at hr
       obtain⟨j,hj,rfl⟩:=List.getElem_of_mem hr
       rw[List.getElem_zipWith]
       unfold putC
       rw[List.length_set]
       exact hM2.out _ (List.getElem_mem _)) (by omega)
      rw[hNn.out] at this
      exact this
     go_wp2_with fail
     refine wp_region_held_drew (S:=Sx wr []) (by kernel_rfl) (Sx.mk (cs_nil _) (Below.refl _ _)).drew (fun hHeld=>?_)
     refine tkHx 0 119 ?_
     refine tkHx 2 121 ?_
     refine tkHx 3 122 ?_
     (refine ratHx 1 (fun K hK=>?_);go_simp)
     refine (hwo.out _ hHeld.bel).mono ?_
     rintro e0 w5 ⟨A',c',us,rfl,hc',hMR,hb5⟩
     go_simp
     refine hK.out _ _ (hHeld.step hb5) (fun hHeld=>?_)
     clear hK K hb5
     (try simp only[apS,apN,siA,scZ,scS])
     refine tkHx 4 7 ?_
     refine tkHx 5 8 ?_
     refine wpAnyH_done (by kernel_rfl) ?_ _
     (try simp only[apS,apN,siA,scZ,scS])
     have hbx:=Lib.hid (hHeld.bel)
     have hMR:=Lib.hid hMR
     clear hHeld hwo hcut2
     go_wp2_with (go_at_call 71;refine (hdet.out A' c' us _ hMR.out hc').mono ?_;rintro e0 w6 ⟨rfl,hb6⟩;rw[hDd.out];replace hbx:=Lib.hid (hbx.out.trans (hb6.mono hbx.out.size));replace hMR:=Lib.hid (hMR.out.below hb6);clear hb6 hdet)
     have hB6:w.heap.size≤w6.heap.size:=(hbw.out.trans (hbx.out.mono hbw.out.size)).size
     have hO0:Hid (OwnL (w6.alloc (.cells #[.int .i64 0,.int .i64 1] 88)) w6.heap.size 88 2 (.slice (some ⟨w6.heap.size,0,none⟩) 1 1) (((0,1) :: (List.range 0).map (Cal.hAt n l)).map frR)):=by
      refine⟨World.ownsRow_lit w6 #[.int .i64 0,.int .i64 1] 1 (Nat.le_refl _) (by unfold maxLen;omega) rfl,fun r hr=>?_,fun r hr u hu=>?_⟩
      ·rw[List.mem_singleton.1 hr];rfl
      rw[List.mem_singleton.1 hr] at hu
      rcases List.mem_cons.1 hu with e | hu
      ·rw[e];rfl
      rw[List.mem_singleton.1 hu];rfl
     have hbY:Hid (Below w6.heap.size w6 (w6.alloc (.cells #[.int .i64 0,.int .i64 1] 88))):=below_alloc _ _
     have hMR6:=hMR
     have hr6:=Lib.hid (hrows.out.below hbx.out)
     have hbw6:Hid (Below w.heap.size w w6):=hbw.out.trans (hbx.out.mono hbw.out.size)
     clear hMR hrows hbw hbx hDd
     go_loopw [13,129] (fun ov i wz=>∃ (k:Nat) (v:Value),k≤n∧i=.int .i64 k∧ov=v∧Hid (OwnL wz w6.heap.size 88 2 v (((0,1) :: (List.range k).map (Cal.hAt n l)).map frR))∧Hid (Below w6.heap.size w6 wz)) (fun _ i _=>n-(intOf i).toNat)
     case atStart=>exact⟨0,_,Nat.zero_le _,rfl,rfl,hO0,hbY⟩
     case round =>
      clear hO0 hbY
      obtain⟨k,v,hk,rfl,rfl,hO,hb⟩:=hrel
      by_cases hlt:k<n
      ·have htk:=List.range_succ (n:=k)
       have hrow:Hid (((0,1) :: (List.range (k+1)).map (Cal.hAt n l)).map frR=(((0,1) :: (List.range k).map (Cal.hAt n l)).map frR) ++ [[.int .i64 (Cal.lowN (Cal.hN n l k) (Cal.hD n l)),.int .i64 (Cal.lowD (Cal.hN n l k) (Cal.hD n l))]]):=by
        show _=_
        rw[htk]
        simp[frR,Cal.hAt]
       have hol:(((0,1) :: (List.range k).map (Cal.hAt n l)).map frR).length≤10:=by simp;omega
       obtain⟨rows,hrows⟩:∃ rows,((0,1) :: (List.range k).map (Cal.hAt n l)).map frR=rows:=⟨_,rfl⟩
       rw[hrows] at hO hrow hol
       have hnr:=wrap_range (detF n (withL k r1 M'))
       rw[hNn.out] at hnr
       have hlow:=Lib.hid (fun W=>lowest_any (Cal.hN n l k) (Cal.hD n l) W hnr hDp.1 (by omega))
       have hw1:=Lib.hid (hwi.out k A' c' us wr hlt (hMR6.out.below hb.out) (hr6.out.below hb.out))
       have hd1:=Lib.hid (fun A c vs w h1 h2=>hdet2.out k A c vs w hlt h1 h2)
       clear htk hrows hnr
       go_wp2_with (first
        |(go_at_call 73;refine hw1.out.mono ?_;rintro e0 x1 ⟨A2,c2,us2,rfl,hc2,hM2',hbx1⟩;have hM3:=Lib.hid hM2';have hz1:=Lib.hid hbx1;clear hw1 hM2' hbx1)
        |(go_at_call 71;refine (hd1.out A2 c2 us2 _ hM3.out hc2).mono ?_;rintro e0 x2 ⟨rfl,hbx2⟩;have hz2:=Lib.hid (hz1.out.trans (hbx2.mono hz1.out.size));clear hbx2)
        |(go_at_call 72;refine (hlow.out _).mono ?_;rintro e0 x3 ⟨rfl,hbx3⟩;have hz3:=Lib.hid (hz2.out.trans (hbx3.mono hz2.out.size));clear hbx3;have hO3:=Lib.hid ((hO.out.below hz3.out).below (below_alloc x3 (.cells #[.int .i64 (Cal.lowN (Cal.hN n l k) (Cal.hD n l)),.int .i64 (Cal.lowD (Cal.hN n l k) (Cal.hD n l))] 88)));have hsrc:=Lib.hid (rowsAt_new x3 [.int .i64 (Cal.lowN (Cal.hN n l k) (Cal.hD n l)),.int .i64 (Cal.lowD (Cal.hN n l k) (Cal.hD n l))] 88))
        |(at_builtin;go_must (refine wpList_append_rows elemFr rfl _ _ rfl rfl rfl hO3.out hsrc.out rfl (fun r hr=>by rw[List.mem_singleton.1 hr];rfl) (fun r hr u hu=>by rw[List.mem_singleton.1 hr] at hu;rcases List.mem_cons.1 hu with e | hu;rw[e];rfl;rw[List.mem_singleton.1 hu];rfl) (by simp only[List.length_singleton];omega) (by decide) (by have h1:=hb.out.size;have h2:=hz3.out.size;simp;omega) ?_);intro v' x4 hown7 hg7 hob7))
       have hO4:Hid (OwnL x4 w6.heap.size 88 2 v' (((0,1) :: (List.range (k+1)).map (Cal.hAt n l)).map frR)):=by show OwnL _ _ _ _ _ _;rw[hrow.out];exact hown7
       have hw3:=hb.out.size
       have hb3:Below wr.heap.size wr (x3.alloc (.cells #[.int .i64 (Cal.lowN (Cal.hN n l k) (Cal.hD n l)),.int .i64 (Cal.lowD (Cal.hN n l k) (Cal.hD n l))] 88)):=below_step hz3.out (below_alloc _ _)
       have hb4:Hid (Below w6.heap.size w6 x4):=(hb.out.trans (hb3.mono hw3)).trans (grown_below hg7 (fun g e=>(OwnL.lt hO3.out g e).1) (by have h2:=hb3.size;omega))
       clear hown7 hg7 hob7 hO3 hz3 hz2 hz1 hM3 hlow hd1 hrow hsrc hb3
       go_wp2_with fail
       go_roundw
       case rel=>exact⟨k+1,_,by omega,by go_num,rfl,hO4,hb4⟩
       case measure=>simp[intOf];omega
      obtain rfl:k=n:=by omega
      go_wp2_with fail
      go_ret2
      exact⟨_,rfl,OwnL.less hO.out hB6,hbw6.out.trans (hb.out.mono hbw6.out.size)⟩
 rw[if_neg hz]
 replace hL:=Lib.hid hL
 go_enter Tryz.func36,Tryz.ntmps36
 go_wp2_with (go_at_call 69;refine (hck.out _ hb0.out).mono ?_;rintro e0 w1 ⟨rfl,hb1⟩;replace hz:=Lib.hid hz)
 ·go_ret2
  exact⟨_,rfl,OwnL.nil _ _ _ _,hb1⟩
 have h9:(Cal.netE N l != 0)=false:=by assumption
 exact absurd (by simpa using h9) hz.out
end Go.Proofs.YthfokpchdlcidaaGreat
