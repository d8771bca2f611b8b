/- What the statements rest on: definitions and walks, part 04. -/
import Derived.Test.YtoojdkaimhlcbaaGreatJ03
import Derived.Deep.OwnRows
set_option maxRecDepth 100000
set_option maxHeartbeats 16000000
set_option linter.unusedSimpArgs false
set_option linter.unusedVariables false
namespace Go.Proofs.YtoojdkaimhlcbaaGreat
open Go Go.RowKit Go.Shelf
theorem cut_tail {t:TypeId} {m:Nat} (hu:Tryz.prog.underlying t=some (.slice (Tryz.prog.elem t))) (hz:∀ w,(sizeOf (Tryz.prog.elem t)).run Tryz.prog w=.ok m w) {w:World} {A:Option Addr} {n c:Nat} {rows:List (List Value)} (hn:n=rows.length) (hr:RowsAt w A m rows) (hc:n≤c) {k:Nat} (hk:k≤n) :
  ∃ A1 c1,(∀ w',(Instr.slice t (.slice A n c) (some (.int .i64 (k:Int))) none none).run Tryz.prog w'=.ok (.slice A1 (n-k) c1) w')∧n-k≤c1∧RowsAt w A1 m (rows.drop k):=by
 refine⟨if c=k then A else A.map (·.add (k*m)),c-k,fun w'=>?_,by omega,?_⟩
 ·rw[run_slice_l w' t A n c hu .i64 k (by omega) (by omega),hz]
  simp[Result.andThen,sliced]
 intro j r hj
 rw[List.getElem?_drop] at hj
 obtain⟨b,o,hA,hb,hcell⟩:=hr (k+j) r hj
 have hlt:k+j<rows.length:=(List.getElem?_eq_some_iff.1 hj).1
 refine⟨b,o+k*m,?_,hb,fun i v hv=>?_⟩
 ·rw[if_neg (by omega),hA,Option.map_some,addr_add]
 have:=hcell i v hv
 rw[show o+k*m+(j*m+i)=o+((k+j)*m+i) by rw[Nat.add_mul];omega]
 exact this
structure MatR (w:World) (A:Option Addr) (M:List (List Int)) (vs:List Value):Prop where
 rows:RowsAt w A 1 (vs.map fun v=>[v])
 len:vs.length=M.length
 row:∀ (i:Nat) (r:List Int),M[i]?=some r→∃ (Ai:Option Addr) (ci:Nat),vs[i]?=some (Value.slice Ai r.length ci)∧r.length≤ci∧RowsAt w Ai 1 (intRows r)
theorem MatR.below {w w':World} {A:Option Addr} {M:List (List Int)} {vs:List Value} (h:MatR w A M vs) (hb:Below w.heap.size w w'):MatR w' A M vs :=
 ⟨h.rows.below hb,h.len,fun i r hi=>by obtain⟨Ai,ci,h1,h2,h3⟩:=h.row i r hi;exact⟨Ai,ci,h1,h2,h3.below hb⟩⟩
theorem MatR.at_ {w:World} {A:Option Addr} {M:List (List Int)} {vs:List Value} (h:MatR w A M vs) {i:Nat} {r:List Int} (hi:M[i]?=some r) :
  ∃ (b o:Nat) (Ai:Option Addr) (ci:Nat),A=some ⟨b,o,none⟩∧b<w.heap.size∧w.cell? ⟨b,o+i,none⟩=some (Value.slice Ai r.length ci)∧r.length≤ci∧RowsAt w Ai 1 (intRows r):=by
 obtain⟨Ai,ci,h1,h2,h3⟩:=h.row i r hi
 obtain⟨b,o,hA,hb,hc⟩:=h.rows i [.slice Ai r.length ci] (by simp[h1])
 have:=hc 0 _ rfl
 simp only[Nat.mul_one,Nat.add_zero] at this
 exact⟨b,o,Ai,ci,hA,hb,this,h2,h3⟩
theorem MatR.drop {w:World} {A A1:Option Addr} {M:List (List Int)} {vs:List Value} (h:MatR w A M vs) {k:Nat} (hr:RowsAt w A1 1 ((vs.map fun v=>[v]).drop k)):MatR w A1 (M.drop k) (vs.drop k) :=
 ⟨by rw[List.map_drop];exact hr,by rw[List.length_drop,List.length_drop,h.len],fun i r hi=>by
  rw[List.getElem?_drop] at hi
  obtain⟨Ai,ci,h1,h2,h3⟩:=h.row (k+i) r hi
  exact⟨Ai,ci,by rw[List.getElem?_drop];exact h1,h2,h3⟩⟩
structure MatO (w:World) (B:Nat) (v:Value) (M:List (List Int)) (vs:List Value):Prop where
 own:OwnL w B 84 1 v (vs.map fun v=>[v])
 len:vs.length=M.length
 row:∀ (i:Nat) (r:List Int),M[i]?=some r→∃ (Ai:Option Addr) (ci:Nat),vs[i]?=some (Value.slice Ai r.length ci)∧r.length≤ci∧RowsAt w Ai 1 (intRows r)∧∀ ad,Ai=some ad→0<r.length→ad.block<w.heap.size∧v.ownBlock≠some ad.block
theorem MatO.nil (w:World) (B:Nat):MatO w B (.slice none 0 0) [] []:=⟨OwnL.nil _ _ _ _,rfl,fun i r h=>by simp at h⟩
theorem MatO.below {w w':World} {B:Nat} {v:Value} {M:List (List Int)} {vs:List Value} (h:MatO w B v M vs) (hb:Below w.heap.size w w'):MatO w' B v M vs :=
 ⟨h.own.below hb,h.len,fun i r hi=>by
  obtain⟨Ai,ci,h1,h2,h3,h4⟩:=h.row i r hi
  exact⟨Ai,ci,h1,h2,h3.below hb,fun ad e hl=>⟨Nat.lt_of_lt_of_le (h4 ad e hl).1 hb.size,(h4 ad e hl).2⟩⟩⟩
theorem MatO.read {w:World} {B:Nat} {v:Value} {M:List (List Int)} {vs:List Value} (h:MatO w B v M vs):∃ A c,v=.slice A M.length c∧M.length≤c∧MatR w A M vs:=by
 obtain⟨A,c,e,hr⟩:=h.own.form
 have hcap:M.length≤c:=by
  have:=h.own.own.2
  rw[e,List.length_map,h.len] at this
  rcases this with ⟨h1,h2⟩ | ⟨g,cap,cur,h1,_,_,h2,_⟩
  ·simp only[Value.slice.injEq] at h1;omega
  simp only[Value.slice.injEq] at h1;omega
 refine⟨A,c,by rw[e,List.length_map,h.len],hcap,hr,h.len,fun i r hi=>?_⟩
 obtain⟨Ai,ci,h1,h2,h3,_⟩:=h.row i r hi
 exact⟨Ai,ci,h1,h2,h3⟩
theorem RowsAt.grown1 {w w':World} {A:Option Addr} {zs:List Int} {row:Option Nat} (h:RowsAt w A 1 (intRows zs)) (hg:w.grownBy w' row) (hA:∀ ad,A=some ad→0<zs.length→row≠some ad.block):RowsAt w' A 1 (intRows zs):=fun j r hj=>by
 obtain⟨b,o,e,hb,hc⟩:=h j r hj
 have hl:0<zs.length:=by
  have:=(List.getElem?_eq_some_iff.1 hj).1
  rw[intRows_length] at this
  omega
 have hne:=hA _ e hl
 refine⟨b,o,e,Nat.lt_of_lt_of_le hb hg.size,fun i v hv=>?_⟩
 exact (World.cell?_of_block (a:=⟨b,o+(j*1+i),none⟩) (hg.block b hb (fun e=>hne e.symm))).trans (hc i v hv)
theorem MatO.push {w w':World} {B Bs:Nat} {v v':Value} {M:List (List Int)} {vs:List Value} (h:MatO w B v M vs) {A:Option Addr} {c:Nat} {r:List Int} (hr:IntsL w Bs (.slice A r.length c) r) (hvB:∀ g,v.ownBlock=some g→g<Bs)
  (hown:OwnL w' B 84 1 v' ((vs.map fun v=>[v]) ++ [[.slice A r.length c]])) (hg:w.grownBy w' v.ownBlock) (hob:v'.ownBlock=v.ownBlock∨v'.ownBlock=some w.heap.size):MatO w' B v' (M ++ [r]) (vs ++ [.slice A r.length c]):=by
 have hcap:r.length≤c:=by
  have:=(IntsL.own hr).2
  rcases this with ⟨h1,h2⟩ | ⟨g,cap,cur,h1,_,_,h2,_⟩
  ·simp only[Value.slice.injEq] at h1;omega
  simp only[Value.slice.injEq] at h1;omega
 have hrA:∀ ad,A=some ad→0<r.length→Bs≤ad.block∧ad.block<w.heap.size:=fun ad e hl=>by
  have:=(IntsL.own hr).2
  rcases this with ⟨h1,h2⟩ | ⟨g,cap,cur,h1,h3,h4,h2,_⟩
  ·omega
  simp only[Value.slice.injEq] at h1
  rw[e] at h1
  obtain⟨h1,_⟩:=h1
  cases h1
  exact⟨h3,(Array.getElem?_eq_some_iff.1 h4).1⟩
 obtain⟨A',c',e',hrow⟩:=hr.rows
 have hrow':RowsAt w A 1 (intRows r):=by
  simp only[Value.slice.injEq] at e'
  rw[e'.1];exact hrow
 refine⟨by rw[List.map_append];exact hown,by simp[h.len],fun i q hi=>?_⟩
 by_cases hlt:i<M.length
 ·rw[List.getElem?_append_left hlt] at hi
  obtain⟨Ai,ci,h1,h2,h3,h4⟩:=h.row i q hi
  refine⟨Ai,ci,by rw[List.getElem?_append_left (by rw[h.len];exact hlt)];exact h1,h2,h3.grown1 hg (fun ad e hl=>(h4 ad e hl).2),fun ad e hl=>⟨Nat.lt_of_lt_of_le (h4 ad e hl).1 hg.size,?_⟩⟩
  rcases hob with o | o
  ·rw[o];exact (h4 ad e hl).2
  rw[o];intro e2;have:=Option.some.inj e2;have:=(h4 ad e hl).1;omega
 have hie:i=M.length:=by
  have:=(List.getElem?_eq_some_iff.1 hi).1
  simp at this;omega
 subst hie
 have hq:r=q:=by simpa using hi
 subst hq
 refine⟨A,c,by rw[←h.len];simp,hcap,hrow'.grown1 hg (fun ad e hl e2=>?_),fun ad e hl=>⟨Nat.lt_of_lt_of_le (hrA ad e hl).2 hg.size,?_⟩⟩
 ·have:=hvB _ e2;have:=(hrA ad e hl).1;omega
 rcases hob with o | o
 ·rw[o];intro e2;have:=hvB _ e2;have:=(hrA ad e hl).1;omega
 rw[o];intro e2;have:=Option.some.inj e2;have:=(hrA ad e hl).2;omega
theorem elemRow:Elem Tryz.prog 83 84 1 24:=Elem.mk' Tryz.underlying83 (z:=.slice none 0 0) (by kernel_rfl) rfl (by decide)
theorem undMat:Tryz.prog.underlying 83=some (.slice (Tryz.prog.elem 83)):=by kernel_rfl
theorem sizeMat (w:World):(sizeOf (Tryz.prog.elem 83)).run Tryz.prog w=.ok 1 w:=by kernel_rfl
end Go.Proofs.YtoojdkaimhlcbaaGreat
namespace Go.Proofs.YtoojdkaimhlcbaaGreat
open Go Go.RowKit Go.Shelf
def offC (q:Nat) (r:List Int):List Int:=r.eraseIdx q
def minorL (q:Nat) (M:List (List Int)):List (List Int):=(M.drop 1).map (offC q)
theorem off_step {r:List Int} {q k:Nat} (h:k<r.length):offC q (r.take (k+1))=if k=q then offC q (r.take k) else offC q (r.take k) ++ [r[k]]:=by
 unfold offC
 rw[List.take_succ_eq_append_getElem h]
 by_cases hk:k=q
 ·rw[if_pos hk]
  subst hk
  rw[List.eraseIdx_append_of_length_le (by rw[List.length_take];omega),List.length_take,Nat.min_eq_left (by omega),Nat.sub_self,List.eraseIdx_of_length_le (l:=r.take k) (by rw[List.length_take];omega)]
  simp
 rw[if_neg hk]
 by_cases hlt:k<q
 ·rw[List.eraseIdx_of_length_le (l:=r.take k ++ [r[k]]) (by rw[List.length_append,List.length_take,List.length_singleton];omega),List.eraseIdx_of_length_le (l:=r.take k) (by rw[List.length_take];omega)]
 rw[List.eraseIdx_append_of_lt_length (by rw[List.length_take];omega)]
structure SmM (M:List (List Int)):Prop where
 len:M.length≤1000
 row:∀ r∈M,r.length≤1000
theorem offC_length (q:Nat) (r:List Int):(offC q r).length≤r.length:=by unfold offC;exact (List.eraseIdx_sublist r q).length_le
theorem without_any (A:Option Addr) (c:Nat) (M:List (List Int)) (vs:List Value) (q:Nat) (w:World) (hM:MatR w A M vs) (hcap:M.length≤c) (h1:1≤M.length) (hs:SmM M) (hq:q≤1000) :
  Calls Tryz.prog 36 #[.slice A M.length c,.int .i64 (q:Int)] w fun e w'=>∃ v us,e=.returned v∧MatO w' w.heap.size v (minorL q M) us∧Below w.heap.size w w':=by
 have hvl:(vs.map fun v=>[v]).length=M.length:=by rw[List.length_map,hM.len]
 obtain⟨A1,c1,hcut,hc1,hrows⟩:=cut_tail undMat sizeMat hvl.symm hM.rows hcap (k:=1) h1
 have hR:=Lib.hid (hM.drop hrows)
 have hlen:M.length-1=(M.drop 1).length:=by rw[List.length_drop]
 have hsz:(M.drop 1).length≤1000:=by have:=hs.len;omega
 have hsr:Hid (∀ r∈M.drop 1,r.length≤1000):=fun r hr=>hs.row r (List.mem_of_mem_drop hr)
 rw[hlen] at hcut hc1
 obtain⟨D,hD⟩:∃ D,M.drop 1=D:=⟨_,rfl⟩
 have hmin:Hid (minorL q M=D.map (offC q)):=by show _=_;unfold minorL;rw[hD]
 obtain⟨us0,hus⟩:∃ us,vs.drop 1=us:=⟨_,rfl⟩
 rw[hD] at hcut hc1 hR hsz hsr hlen
 rw[hus] at hR
 rw[hmin.out]
 obtain⟨L0,hL0⟩:∃ L,M.length=L:=⟨_,rfl⟩
 rw[hL0] at hcut ⊢
 have hcut2:∀ w',(Instr.slice 83 (.slice A L0 c) (some (.int .i64 1)) none none).run Tryz.prog w'=.ok (.slice A1 D.length c1) w':=hcut
 clear hcut
 clear hrows hus hD hM hs hmin hvl hlen hcap h1 hL0
 have hO0:Hid (MatO w w.heap.size (.slice none 0 0) ((D.take 0).map (offC q)) []):=MatO.nil _ _
 have hb0:Hid (Below w.heap.size w w):=Below.refl _ _
 go_enter Tryz.func36,Tryz.ntmps36
 go_wp2_with fail
 clear hcut2
 go_loopw [5,14] (fun ov i wr=>∃ (k:Nat) (us:List Value) (v:Value),k≤D.length∧i=.int .i64 k∧ov=v∧Hid (MatO wr w.heap.size v ((D.take k).map (offC q)) us)∧Hid (Below w.heap.size w wr)) (fun _ i _=>D.length-(intOf i).toNat)
 case atStart=>exact⟨0,[],_,Nat.zero_le _,rfl,rfl,hO0,hb0⟩
 case round =>
  clear hO0 hb0
  obtain⟨k,us,v,hk,rfl,rfl,hO,hb⟩:=hrel
  generalize hwo:wr=wo at *
  clear hwo wr
  by_cases hlt:k<D.length
  ·have hk':D[k]?=some D[k]:=List.getElem?_eq_getElem hlt
   have hrl:=hsr.out _ (List.getElem_mem hlt)
   have htk:=Lib.hid (show (D.take (k+1)).map (offC q)=(D.take k).map (offC q) ++ [offC q D[k]] by rw[List.take_succ_eq_append_getElem hlt,List.map_append];rfl)
   obtain⟨b,o,Ai,ci,rfl,hbl,c0,hci,hrow⟩:=(hR.out.below hb.out).at_ hk'
   generalize D[k]=r at *
   have hrow:=Lib.hid hrow
   have hI0:Hid (IntsL wo wo.heap.size (.slice none 0 0) (offC q (r.take 0))):=OwnL.nil _ _ _ _
   have hb0:Hid (Below wo.heap.size wo wo):=Below.refl _ _
   clear hk'
   go_wp2_with fail
   clear c0
   have hvB:=Lib.hid (fun g e=>(OwnL.lt hO.out.own g e).2)
   go_loopw [8,20] (fun rw i wr=>∃ (m:Nat) (rv:Value),m≤r.length∧i=.int .i64 m∧rw=rv∧Hid (IntsL wr wo.heap.size rv (offC q (r.take m)))∧Hid (Below wo.heap.size wo wr)) (fun _ i _=>r.length-(intOf i).toNat)
   case atStart=>exact⟨0,_,Nat.zero_le _,rfl,rfl,hI0,hb0⟩
   case round =>
    clear hI0 hb0
    obtain⟨m,rv,hm,rfl,rfl,hI,hbi⟩:=hrel
    by_cases hmlt:m<r.length
    ·obtain⟨b2,o2,rfl,hb2,e0⟩:=intsI_at (hrow.out.below hbi.out) hmlt
     have hst:=off_step (q:=q) hmlt
     have hol:(offC q (r.take m)).length≤1000:=Nat.le_trans (offC_length _ _) (by rw[List.length_take];omega)
     generalize r[m]=x at *
     by_cases hmq:m=q
     ·rw[if_pos hmq] at hst
      have hI2:Hid (IntsL wr wo.heap.size u8 (offC q (r.take (m+1)))):=by show IntsL _ _ _ _;rw[hst];exact hI.out
      subst hmq
      clear hst hI
      go_wp2_with fail
      go_roundw
      case rel=>exact⟨m+1,_,by omega,by go_num,rfl,hI2,hbi⟩
      case measure=>simp[intOf];omega
     rw[if_neg hmq] at hst
     have hmq2:((m:Int) == (q:Int))=false:=by simp;omega
     have hmq3:¬(m:Int)=(q:Int):=by omega
     have hst:=Lib.hid hst
     have hown5:Hid (IntsL (wr.alloc (.cells #[.int .i64 x] 3)) wo.heap.size u8 (offC q (r.take m))):=hI.out.below (below_alloc _ _)
     have hsrc:Hid (RowsAt (wr.alloc (.cells #[.int .i64 x] 3)) (some ⟨wr.heap.size,0,none⟩) 1 (intRows [x])):=rowsAt_new wr [.int .i64 x] 3
     have hbs:=hbi.out.size
     clear hI
     go_wp2_with (at_builtin;go_must (refine wpList_append_rows elemInt rfl _ _ rfl rfl rfl hown5.out hsrc.out rfl (intRows_wid [x]) (intRows_one [x]) (by simp only[intRows_length,List.length_singleton];omega) (by decide) (by (try simp);omega) ?_);intro v' w5 hown6 hg6 _)
     have hb6:Hid (Below wo.heap.size wo w5):=hbi.out.trans (((Below.refl _ _).alloc hbs _).trans (grown_below hg6 (fun g e=>(OwnL.lt hown5.out g e).1) (by simp;omega)))
     have hI2:Hid (IntsL w5 wo.heap.size v' (offC q (r.take (m+1)))):=by show OwnL _ _ _ _ _ _;rw[hst.out];unfold intRows;rw[List.map_append];exact hown6
     clear hown6 hg6 hown5 hsrc hbi
     go_wp2_with fail
     go_roundw
     case rel=>exact⟨m+1,_,by omega,by go_num,rfl,hI2,hb6⟩
     case measure=>simp[intOf];omega
    obtain rfl:m=r.length:=by omega
    have hI2:IntsL wr wo.heap.size u8 (offC q r):=by have:=hI.out;rwa [List.take_length] at this
    have hol:(D.take k).length≤1000:=by rw[List.length_take];omega
    obtain⟨Ar,cr,rfl,hrr⟩:=hI2.rows
    have hbs:=hbi.out.size
    have hb1:=hb.out.size
    have hO2:=Lib.hid ((hO.out.below hbi.out).below (below_alloc wr (.cells #[.slice Ar (offC q r).length cr] 84)))
    have hI3:=Lib.hid (hI2.below (below_alloc wr (.cells #[.slice Ar (offC q r).length cr] 84)))
    have hsrc:Hid (RowsAt (wr.alloc (.cells #[.slice Ar (offC q r).length cr] 84)) (some ⟨wr.heap.size,0,none⟩) 1 [[.slice Ar (offC q r).length cr]]):=rowsAt_new wr [.slice Ar (offC q r).length cr] 84
    have hul:us.length≤1000:=by rw[hO.out.len,List.length_map];exact hol
    have hbw:=Lib.hid (hb.out.trans (hbi.out.mono hb1))
    clear hI hI2 hrr hO hol
    go_wp2_with (at_builtin;go_must (refine wpList_append_rows elemRow rfl _ _ rfl rfl rfl hO2.out.own hsrc.out rfl (fun r hr=>by rw[List.mem_singleton.1 hr];rfl) (fun r hr u hu=>by rw[List.mem_singleton.1 hr] at hu;rw[List.mem_singleton.1 hu];rfl) (by simp only[List.length_map,List.length_singleton];omega) (by decide) (by (try simp);omega) ?_);intro v' w5 hown6 hg6 hob6)
    have hb6:Hid (Below w.heap.size w w5):=hbw.out.trans (((Below.refl _ _).alloc (by omega) _).trans (grown_below hg6 (fun g e=>(OwnL.lt hO2.out.own g e).1) (by simp;omega)))
    have hO3:Hid (MatO w5 w.heap.size v' ((D.take (k+1)).map (offC q)) (us ++ [.slice Ar (offC q r).length cr])):=by show MatO _ _ _ _ _;rw[htk.out];exact hO2.out.push hI3.out hvB.out hown6 hg6 hob6
    clear hown6 hg6 hob6 hO2 hI3 hsrc hb hbi
    go_wp2_with fail
    go_roundw
    case rel=>exact⟨k+1,_,_,by omega,by go_num,rfl,hO3,hb6⟩
    case measure=>simp[intOf];omega
  obtain rfl:k=D.length:=by omega
  have hO2:MatO wo w.heap.size u5 (D.map (offC q)) us:=by have:=hO.out;rwa [List.take_length] at this
  go_wp2_with fail
  go_ret
  exact⟨_,us,rfl,hO2,hb.out⟩
end Go.Proofs.YtoojdkaimhlcbaaGreat
namespace Go.Proofs.YtoojdkaimhlcbaaGreat
open Go Go.RowKit Go.Shelf
theorem wrap_mod (a:Int):IntKind.i64.wrap a % 18446744073709551616=a % 18446744073709551616:=by
 unfold IntKind.wrap
 simp[IntKind.bits,IntKind.signed]
 split <;> omega
theorem wrap_cong {a b:Int} (h:a % 18446744073709551616=b % 18446744073709551616):IntKind.i64.wrap a=IntKind.i64.wrap b:=by
 unfold IntKind.wrap
 simp[IntKind.bits,IntKind.signed,h]
theorem wrap_add (a b:Int):IntKind.i64.wrap (IntKind.i64.wrap a+b)=IntKind.i64.wrap (a+b):=wrap_cong (by
 have:=wrap_mod a
 omega)
theorem wrap_add2 (a b:Int):IntKind.i64.wrap (a+IntKind.i64.wrap b)=IntKind.i64.wrap (a+b):=wrap_cong (by
 have:=wrap_mod b
 omega)
theorem wrap_mul (a b:Int):IntKind.i64.wrap (IntKind.i64.wrap a*b)=IntKind.i64.wrap (a*b):=wrap_cong (by
 rw[Int.mul_emod,wrap_mod,←Int.mul_emod])
theorem wrap_mul2 (a b:Int):IntKind.i64.wrap (a*IntKind.i64.wrap b)=IntKind.i64.wrap (a*b):=wrap_cong (by
 rw[Int.mul_emod,wrap_mod,←Int.mul_emod])
theorem wrap_eq (x:Int):IntKind.i64.wrap x=wrap64 x:=by rw[IntKind.wrap_i64];unfold wrap64;rfl
def detF:Nat→List (List Int)→Int
 | 0,_=>1
 | n+1,M=>Cal.sumTo (n+1) fun c=>Cal.sg c*((M[0]?.getD [])[c]?.getD 0)*detF n (minorL c M)
theorem detF_succ {n:Nat} {M:List (List Int)} {r:List Int} (h:M[0]?=some r):detF (n+1) M=Cal.sumTo (n+1) fun c=>Cal.sg c*(r[c]?.getD 0)*detF n (minorL c M):=by
 show (Cal.sumTo (n+1) fun c=>Cal.sg c*((M[0]?.getD [])[c]?.getD 0)*detF n (minorL c M))=_
 rw[h]
 rfl
theorem minorL_sq {n:Nat} {M:List (List Int)} (h:M.length=n+1) (hr:∀ r∈M,r.length=n+1) {c:Nat} (hc:c<n+1):(minorL c M).length=n∧∀ r∈minorL c M,r.length=n:=by
 unfold minorL
 refine⟨by rw[List.length_map,List.length_drop];omega,fun r hr'=>?_⟩
 obtain⟨x,hx,rfl⟩:=List.mem_map.1 hr'
 have:=hr x (List.mem_of_mem_drop hx)
 unfold offC
 rw[List.length_eraseIdx_of_lt (by omega)]
 omega
theorem sg_val (c:Nat):Cal.sg c=1∨Cal.sg c=-1:=by unfold Cal.sg;split <;> simp
theorem det_any:∀ (n:Nat) (A:Option Addr) (c:Nat) (M:List (List Int)) (vs:List Value) (w:World),MatR w A M vs→M.length=n→n≤c→(∀ r∈M,r.length=n)→n≤100 →
  Calls Tryz.prog 37 #[.slice A n c] w fun e w'=>e=.returned (.int .i64 (IntKind.i64.wrap (detF n M)))∧Below w.heap.size w w'
 | 0,A,c,M,vs,w,hM,hl,hcap,hsq,hn=>by
  have hf:Hid (IntKind.i64.wrap (detF 0 M)=1):=rfl
  rw[hf.out]
  go_enter Tryz.func37,Tryz.ntmps37
  go_wp2_with fail
  go_ret
  exact⟨rfl,Below.refl _ _⟩
 | n+1,A,c,M,vs,w,hM,hl,hcap,hsq,hn=>by
  have ih:=Lib.hid (fun A c M vs w h1 h2 h3 h4=>det_any n A c M vs w h1 h2 h3 h4 (by omega))
  obtain⟨r,hk'⟩:∃ r,M[0]?=some r:=⟨M[0],List.getElem?_eq_getElem (by omega)⟩
  have hrl:=hsq _ (List.mem_of_getElem? hk')
  obtain⟨b,o,Ai,ci,rfl,hbl,c0,hci,hrow⟩:=hM.at_ hk'
  rw[Nat.add_zero] at c0
  have hdet:=Lib.hid (detF_succ (n:=n) hk')
  have hwo:Hid (∀ (q:Nat) (W:World),q<n+1→Below w.heap.size w W→Calls Tryz.prog 36 #[.slice (some ⟨b,o,none⟩) (n+1) c,.int .i64 (q:Int)] W fun e w'=>∃ A' c' us,e=.returned (.slice A' n c')∧n≤c'∧MatR w' A' (minorL q M) us∧Below W.heap.size W w'):=fun q W hq hb=>by
   have:=without_any (some ⟨b,o,none⟩) c M vs q W (hM.below hb) (by omega) (by omega) ⟨by omega,fun r hr=>by rw[hsq r hr];omega⟩ (by omega)
   rw[hl] at this
   refine this.mono ?_
   rintro e w' ⟨v,us,rfl,hO,hb'⟩
   obtain⟨A',c',rfl,hc',hR⟩:=hO.read
   have hml:=(minorL_sq hl hsq hq).1
   rw[hml] at hc' ⊢
   exact⟨A',c',us,rfl,hc',hR,hb'⟩
  have hsqm:Hid (∀ q,q<n+1→(minorL q M).length=n∧∀ r∈minorL q M,r.length=n):=fun q hq=>minorL_sq hl hsq hq
  replace hrow:=Lib.hid hrow
  have hS0:Hid (Cal.sumTo 0 (fun c=>Cal.sg c*(r[c]?.getD 0)*detF n (minorL c M))=0):=rfl
  have hb0:Hid (Below w.heap.size w w):=Below.refl _ _
  rw[hdet.out]
  clear hk' hsq hM hdet hl
  have hz:((n:Int)+1 == 0)=false:=by simp;omega
  have hz2:¬(n:Int)+1=0:=by omega
  go_enter Tryz.func37,Tryz.ntmps37
  go_wp2_with fail
  clear c0 hz hz2
  go_loopw [3,4,14] (fun s g i wr=>∃ k:Nat,k≤n+1∧i=.int .i64 k∧s=.int .i64 (IntKind.i64.wrap (Cal.sumTo k fun c=>Cal.sg c*(r[c]?.getD 0)*detF n (minorL c M)))∧g=.int .i64 (Cal.sg k)∧Hid (Below w.heap.size w wr)) (fun _ _ i _=>n+1-(intOf i).toNat)
  case atStart=>exact⟨0,Nat.zero_le _,rfl,rfl,rfl,hb0⟩
  case round =>
   clear hb0 hS0
   obtain⟨k,hk,rfl,rfl,rfl,hb⟩:=hrel
   by_cases hlt:k<n+1
   ·have hkr:k<r.length:=by omega
    obtain⟨b2,o2,rfl,hb2,e0⟩:=intsI_at (hrow.out.below hb.out) hkr
    have hx:r[k]?.getD 0=r[k]:=by rw[List.getElem?_eq_getElem hkr];rfl
    have hst:Hid (Cal.sumTo (k+1) (fun c=>Cal.sg c*(r[c]?.getD 0)*detF n (minorL c M))=Cal.sumTo k (fun c=>Cal.sg c*(r[c]?.getD 0)*detF n (minorL c M))+Cal.sg k*r[k]*detF n (minorL k M)):=by
     show _=_
     rw[←hx];rfl
    have hsg:=Cal.sg_succ k
    obtain⟨hl1,hl2⟩:=hsqm.out k hlt
    have hwk:=Lib.hid (fun W hb=>hwo.out k W hlt hb)
    generalize r[k]=x at *
    generalize Cal.sumTo k (fun c=>Cal.sg c*(r[c]?.getD 0)*detF n (minorL c M))=S at *
    generalize hS2:Cal.sumTo (k+1) (fun c=>Cal.sg c*(r[c]?.getD 0)*detF n (minorL c M))=S2 at *
    have hgn:IntKind.i64.wrap (- Cal.sg k)=- Cal.sg k:=by rcases sg_val k with h | h <;> rw[h] <;> decide
    by_cases hx0:x=0
    ·have hf:Hid (S2=S):=by show _=_;rw[hst.out,hx0,Int.mul_zero,Int.zero_mul,Int.add_zero]
     clear hst hwk hx
     subst hx0
     go_wp2_with fail
     go_roundw
     case rel=>exact⟨k+1,by omega,by go_num,by rw[hS2,hf.out],by rw[hsg],hb⟩
     case measure=>simp[intOf];omega
    have hf:Hid (IntKind.i64.wrap (IntKind.i64.wrap S+IntKind.i64.wrap (IntKind.i64.wrap (Cal.sg k*x)*IntKind.i64.wrap (detF n (minorL k M))))=IntKind.i64.wrap S2):=by
     show _=_
     rw[wrap_mul,wrap_mul2,wrap_add,wrap_add2,hst.out]
    clear hst hx
    have hx1:¬x=0:=hx0
    go_wp2_with (first
     |(go_at_call 36;refine (hwk.out _ hb.out).mono ?_;rintro e0 w2 ⟨A',c',us,rfl,hc',hMR,hb2⟩;replace hMR:=Lib.hid hMR;have hb3:=Lib.hid (hb.out.trans (hb2.mono hb.out.size));clear hb2)
     |(go_at_call 37;refine (ih.out A' c' _ us _ hMR.out hl1 hc' hl2).mono ?_;rintro e0 w3 ⟨rfl,hb4⟩;have hb5:=Lib.hid (hb3.out.trans (hb4.mono hb3.out.size));clear hb4))
    go_roundw
    case rel=>exact⟨k+1,by omega,by go_num,by rw[hS2];have h:=hf.out;simp only[wrap_eq] at h ⊢;rw[h],by rw[hsg],hb5⟩
    case measure=>simp[intOf];omega
   obtain rfl:k=n+1:=by omega
   go_wp2_with fail
   go_ret
   exact⟨rfl,hb.out⟩
end Go.Proofs.YtoojdkaimhlcbaaGreat
namespace Go.Proofs.YtoojdkaimhlcbaaGreat
open Go Go.RowKit Go.Shelf
def GcI (a b p q:Int):Prop:=Int.gcd p q=Int.gcd a b∧((p=a∧q=b)∨(q.natAbs<p.natAbs∧p.natAbs≤b.natAbs))
theorem tmod_abs {a b:Int} (hb:b≠0):(a.tmod b).natAbs<b.natAbs:=Cal.step_less hb
theorem gcd_any (a b:Int) (w:World) (hb:0<b) (hb2:b≤9223372036854775807):Calls Tryz.prog 55 #[.int .i64 a,.int .i64 b] w fun e w'=>e=.returned (.int .i64 (Int.gcd a b:Int))∧Below w.heap.size w w':=by
 have hst:Hid (GcI a b a b):=⟨rfl,.inl ⟨rfl,rfl⟩⟩
 have hb0:Hid (Below w.heap.size w w):=Below.refl _ _
 go_enter Tryz.func55,Tryz.ntmps55
 go_wp2_with fail
 go_loopw [0,1] (fun x y wr=>∃ p q:Int,x=.int .i64 p∧y=.int .i64 q∧Hid (GcI a b p q)∧Hid (Below w.heap.size w wr)) (fun _ y _=>(intOf y).natAbs)
 case atStart=>exact⟨a,b,rfl,rfl,hst,hb0⟩
 case round =>
  clear hst hb0
  obtain⟨p,q,rfl,rfl,hs,hB⟩:=hrel
  by_cases hq:q=0
  ·subst hq
   have hr:Hid ((Int.gcd a b:Int)=max p (-p)):=by
    have h:=hs.out.1
    rw[Cal.gcd_end] at h
    show _=_
    rw[←h]
    omega
   have hp:-9223372036854775807≤p∧p≤9223372036854775807:=by
    rcases hs.out.2 with ⟨h1,h2⟩ | ⟨h1,h2⟩
    ·omega
    omega
   have hng:IntKind.i64.wrap (-p)=-p:=wrap_small (by omega) (by omega)
   obtain⟨p0,p1⟩:=hp
   clear hs
   go_wp2_with fail
   go_ret
   exact⟨ret_int hr.out.symm,hB.out⟩
  have hlt:=tmod_abs (a:=p) hq
  have hqb:q.natAbs≤b.natAbs:=by
   rcases hs.out.2 with ⟨h1,h2⟩ | ⟨h1,h2⟩
   ·rw[h2];exact Nat.le_refl _
   omega
  have hw:IntKind.i64.wrap (p.tmod q)=p.tmod q:=wrap_small (by omega) (by omega)
  have hs2:Hid (GcI a b q (p.tmod q)):=⟨(Cal.gcd_step p q).trans hs.out.1,.inr ⟨hlt,hqb⟩⟩
  clear hs
  go_wp2_with fail
  refine wp_region_held_drew (S:=Sx wr []) (by kernel_rfl) (Sx.mk (cs_nil _) (Below.refl _ _)).drew (fun hHeld=>?_)
  refine tkHx 0 7 ?_
  refine tkHx 1 8 ?_
  refine tkHx 2 9 ?_
  refine tkHx 3 10 ?_
  refine tkHx 4 0 ?_
  refine tkHx 5 1 ?_
  refine wpAnyH_done (by kernel_rfl) ?_ _
  (try simp only[apS,apN,siA,scZ,scS])
  have hB2:=Lib.hid (hB.out.trans (hHeld.bel.mono hB.out.size))
  clear hHeld
  go_wp2_with fail
  go_roundw
  case rel=>exact⟨q,p.tmod q,rfl,by first | rfl | rw[hw],hs2,hB2⟩
  case measure=>exact hlt
def FrK (w:World) (W:World):Prop:=∃ x y,BoxAt W w.heap.size [x,y]∧Below w.heap.size w W
theorem frSize:(Tryz.prog.info? 59).map (·.size)=some 2:=by kernel_rfl
theorem lowest_any (a b:Int) (w:World) (ha:-9223372036854775808≤a∧a≤9223372036854775807) (hb:0<b) (hb2:b≤9223372036854775807) :
  Calls Tryz.prog 38 #[.int .i64 a,.int .i64 b] w fun e w'=>e=.returned (.agg #[.int .i64 (Cal.lowN a b),.int .i64 (Cal.lowD a b)])∧Below w.heap.size w w':=by
 have hgp:=Cal.gcd_pos (a:=a) hb
 obtain⟨ha1,ha2⟩:=ha
 have hcall:=Lib.hid (fun W=>gcd_any a b W hb hb2)
 have hN:Hid (Cal.lowN a b=a.tdiv (Int.gcd a b:Int)):=rfl
 have hD:Hid (Cal.lowD a b=b.tdiv (Int.gcd a b:Int)):=rfl
 have e1:(a.tdiv (Int.gcd a b:Int)).natAbs≤a.natAbs:=by rw[Int.natAbs_tdiv];exact Nat.div_le_self _ _
 have e2:(b.tdiv (Int.gcd a b:Int)).natAbs≤b.natAbs:=by rw[Int.natAbs_tdiv];exact Nat.div_le_self _ _
 have e3:0≤b.tdiv (Int.gcd a b:Int):=Int.tdiv_nonneg (by omega) (by omega)
 have e4:0≤a→0≤a.tdiv (Int.gcd a b:Int):=fun h=>Int.tdiv_nonneg h (by omega)
 have e5:a<0→a.tdiv (Int.gcd a b:Int)≤0:=fun h=>by
  have:=Int.tdiv_nonneg (a:=-a) (b:=(Int.gcd a b:Int)) (by omega) (by omega)
  rw[Int.neg_tdiv] at this
  omega
 generalize Int.gcd a b=g at *
 have w1:IntKind.i64.wrap (a.tdiv (g:Int))=a.tdiv (g:Int):=wrap_small (by omega) (by omega)
 have w2:IntKind.i64.wrap (b.tdiv (g:Int))=b.tdiv (g:Int):=wrap_small (by omega) (by omega)
 have hg0:¬(g:Int)=0:=by omega
 have hg1:¬g=0:=by omega
 have hb0:=BoxAt.new w #[.int .i64 0,.int .i64 0] 59
 have hal:=below_alloc w (.cells #[.int .i64 0,.int .i64 0] 59)
 replace hb0:=Lib.hid hb0
 replace hal:=Lib.hid hal
 rw[hN.out,hD.out]
 clear e1 e2 e3 e4 e5 hN hD
 go_enter Tryz.func38,Tryz.ntmps38
 go_wp2_with (go_at_call 55;refine (hcall.out _).mono ?_;rintro e0 w2 ⟨rfl,hbn⟩;replace hb0:=Lib.hid (hb0.out.below hbn);have hbw:=Lib.hid (below_step hal.out hbn);clear hbn hal hcall;obtain⟨x0,x1⟩:=hb0.out.c2;obtain⟨f0,f1⟩:=hb0.out.fr2)
 refine wp_region_held_drew (S:=FrK w) (by kernel_rfl) ⟨_,_,hb0.out.below ((Below.refl _ _).drew),hbw.out.drew⟩ (fun hHeld=>?_)
 clear x0 x1 f0 f1
 generalize w2.drew=W9 at *
 (refine tkH2 0 9 (v:=?_) ?_ ?_;rotate_left;focus (intro w' hSw;clear hSw;go_simp;(try with_reducible rfl));(try simp only[Act.put,List.setIfInBounds_toArray,List.set_cons_zero,List.set_cons_succ]))
 (refine tkH2 1 10 (v:=?_) ?_ ?_;rotate_left;focus (intro w' hSw;clear hSw;go_simp;(try with_reducible rfl));(try simp only[Act.put,List.setIfInBounds_toArray,List.set_cons_zero,List.set_cons_succ]))
 (refine tkH2 2 11 (v:=?_) ?_ ?_;rotate_left;focus (intro w' hSw;clear hSw;go_simp;(try with_reducible rfl));(try simp only[Act.put,List.setIfInBounds_toArray,List.set_cons_zero,List.set_cons_succ]))
 (refine tkH2 3 12 (v:=?_) ?_ ?_;rotate_left;focus (intro w' hSw;clear hSw;go_simp;(try with_reducible rfl));(try simp only[Act.put,List.setIfInBounds_toArray,List.set_cons_zero,List.set_cons_succ]))
 (refine tkH2 4 13 (v:=?_) ?_ ?_;rotate_left;focus (intro w' hSw;clear hSw;go_simp;(try with_reducible rfl));(try simp only[Act.put,List.setIfInBounds_toArray,List.set_cons_zero,List.set_cons_succ]))
 (refine tkH2 5 14 (v:=?_) ?_ ?_;rotate_left;focus (intro w' hSw;clear hSw;go_simp;(try with_reducible rfl));(try simp only[Act.put,List.setIfInBounds_toArray,List.set_cons_zero,List.set_cons_succ]))
 (refine tkH2 6 15 (v:=?_) ?_ ?_;rotate_left;focus (intro w' hSw;clear hSw;go_simp;(try with_reducible rfl));(try simp only[Act.put,List.setIfInBounds_toArray,List.set_cons_zero,List.set_cons_succ]))
 obtain⟨z0,z1,hz,hzb⟩:=hHeld
 obtain⟨x0,x1⟩:=hz.c2;obtain⟨f0,f1⟩:=hz.fr2
 have hz9:=Lib.hid ((hz.set 0 (.int .i64 (a.tdiv (g:Int))) (by simp)).set 1 (.int .i64 (b.tdiv (g:Int))) (by simp))
 have hzb9:=Lib.hid ((hzb.setCell (p:=⟨w.heap.size,0,none⟩) (Nat.le_refl _) (.int .i64 (a.tdiv (g:Int)))).setCell (p:=⟨w.heap.size,1,none⟩) (Nat.le_refl _) (.int .i64 (b.tdiv (g:Int))))
 (refine ratHx 7 (fun K hK=>?_);go_simp)
 refine hK.out _ _ ⟨_,_,hz9.out,hzb9.out⟩ (fun hHeld=>?_)
 clear hK K hHeld
 (try simp only[apS,apN,siA,scZ,scS])
 refine wpAnyH_done (by kernel_rfl) ?_ _
 go_wp2_with fail
 refine bodyPost_ret (results_mid1 rfl _ _ w.heap.size [.int .i64 (a.tdiv (g:Int)),.int .i64 (b.tdiv (g:Int))] _ rfl hz9.out.range Tryz.underlying59 rfl frSize) rfl ⟨rfl,hzb9.out⟩
end Go.Proofs.YtoojdkaimhlcbaaGreat
namespace Go.Proofs.YtoojdkaimhlcbaaGreat
open Go Go.RowKit Go.Shelf
def putC (q:Nat) (r:List Int) (x:Int):List Int:=r.set q x
def withL (q:Nat) (l:List Int) (M:List (List Int)):List (List Int):=M.zipWith (putC q) l
theorem IntsL.stored {w:World} {B g c:Nat} {zs:List Int} (h:IntsL w B (.slice (some ⟨g,0,none⟩) zs.length c) zs) (j:Nat) (x:Int) :
  IntsL (w.setCell ⟨g,j,none⟩ (.int .i64 x)) B (.slice (some ⟨g,0,none⟩) (zs.set j x).length c) (zs.set j x)∧w.grownBy (w.setCell ⟨g,j,none⟩ (.int .i64 x)) (some g):=by
 have:=World.ownsRow.stored h.own j (.int .i64 x)
 refine⟨IntsL.of ?_,this.2⟩
 rw[List.length_set,List.map_set]
 exact this.1
theorem IntsL.lit {w:World} {B:Nat} {v:Value} {zs:List Int} (h:IntsL w B v zs) (hne:0<zs.length):∃ g c,v=.slice (some ⟨g,0,none⟩) zs.length c∧B≤g∧g<w.heap.size:=by
 rcases (IntsL.own h).2 with ⟨_,h2⟩ | ⟨g,cap,cur,h1,h3,h4,h2,_⟩
 ·omega
 exact⟨g,cap,h1,h3,(Array.getElem?_eq_some_iff.1 h4).1⟩
theorem IntsL.cellOf {w:World} {B g c:Nat} {zs:List Int} (h:IntsL w B (.slice (some ⟨g,0,none⟩) zs.length c) zs) {j:Nat} (hj:j<zs.length):w.cell? ⟨g,j,none⟩=some (.int .i64 zs[j])∧w.frozen? ⟨g,j,none⟩=false:=by
 refine⟨?_,World.ownsRow.frozenAt h.own j⟩
 rw[World.ownsRow.cellAt h.own j (by omega),List.getElem?_map,List.getElem?_eq_getElem hj]
 rfl
theorem withL_take {q k:Nat} {l:List Int} {M:List (List Int)} (h:k<M.length) (hl:k<l.length):withL q (l.take (k+1)) (M.take (k+1))=withL q (l.take k) (M.take k) ++ [putC q M[k] l[k]]:=by
 unfold withL
 rw[List.take_succ_eq_append_getElem h,List.take_succ_eq_append_getElem hl,List.zipWith_append (by rw[List.length_take,List.length_take];omega)]
 rfl
theorem with_any (A Al:Option Addr) (c cl:Nat) (M:List (List Int)) (vs:List Value) (l:List Int) (q:Nat) (w:World) (hM:MatR w A M vs) (hs:SmM M) (hL:RowsAt w Al 1 (intRows l)) (hll:M.length≤l.length) (hl2:l.length≤1000) (hq:∀ r∈M,q<r.length) :
  Calls Tryz.prog 39 #[.slice A M.length c,.int .i64 (q:Int),.slice Al l.length cl] w fun e w'=>∃ v us,e=.returned v∧MatO w' w.heap.size v (withL q (l.take M.length) M) us∧Below w.heap.size w w':=by
 have hsz:=hs.len
 have hsr:=Lib.hid hs.row
 replace hM:=Lib.hid hM
 replace hL:=Lib.hid hL
 replace hq:=Lib.hid hq
 have hO0:Hid (MatO w w.heap.size (.slice none 0 0) (withL q (l.take 0) (M.take 0)) []):=MatO.nil _ _
 have hb0:Hid (Below w.heap.size w w):=Below.refl _ _
 clear hs
 go_enter Tryz.func39,Tryz.ntmps39
 go_wp2_with fail
 go_loopw [7,13] (fun ov i wr=>∃ (k:Nat) (us:List Value) (v:Value),k≤M.length∧i=.int .i64 k∧ov=v∧Hid (MatO wr w.heap.size v (withL q (l.take k) (M.take k)) us)∧Hid (Below w.heap.size w wr)) (fun _ i _=>M.length-(intOf i).toNat)
 case atStart=>exact⟨0,[],_,Nat.zero_le _,rfl,rfl,hO0,hb0⟩
 case round =>
  clear hO0 hb0
  obtain⟨k,us,v,hk,rfl,rfl,hO,hb⟩:=hrel
  by_cases hlt:k<M.length
  ·have hk':M[k]?=some M[k]:=List.getElem?_eq_getElem hlt
   have hkl:k<l.length:=by omega
   have hrl:=hsr.out _ (List.getElem_mem hlt)
   have hqr:=hq.out _ (List.getElem_mem hlt)
   have htk:=Lib.hid (withL_take (q:=q) hlt hkl)
   obtain⟨b,o,Ai,ci,rfl,hbl,c0,hci,hrow⟩:=(hM.out.below hb.out).at_ hk'
   obtain⟨bl,ol,hAl,hbl2,e0⟩:=intsI_at (hL.out.below hb.out) hkl
   have hol:(withL q (l.take k) (M.take k)).length≤1000:=by unfold withL;rw[List.length_zipWith,List.length_take,List.length_take];omega
   generalize M[k]=r at *
   generalize l[k]=x at *
   subst hAl
   have hmade:Hid (OwnL (wr.alloc (.cells #[] 3)) wr.heap.size 3 1 (.slice (some ⟨wr.heap.size,0,none⟩) 0 0) []):=OwnL.made wr _ _ _ (Nat.le_refl _)
   have hsrc:Hid (RowsAt (wr.alloc (.cells #[] 3)) Ai 1 (intRows r)):=hrow.below (below_alloc _ _)
   clear hk' hrow
   have m1:Hid True:=trivial
   have hvB:=Lib.hid (fun g e=>(OwnL.lt hO.out.own g e).2)
   have hul:us.length≤1000:=by rw[hO.out.len];exact hol
   go_wp2_with (first
    |(at_builtin;clear m1;go_must (refine wpList_append_rows elemInt rfl _ _ rfl rfl rfl hmade.out hsrc.out (intRows_length r).symm (intRows_wid r) (intRows_one r) (by simp only[intRows_length,List.length_nil];omega) (by decide) (by (try simp)) ?_;intro v' w5 hown6 hg6 hob6;replace hown6:IntsL w5 wr.heap.size v' r:=hown6;obtain⟨g,c5,rfl,hg1,hg2⟩:=IntsL.lit hown6 (Nat.lt_of_le_of_lt (Nat.zero_le _) hqr);have hb5:=Lib.hid (((Below.refl _ _).alloc (Nat.le_refl _) _).trans (grown_below hg6 (fun g e=>(OwnL.lt hmade.out g e).1) (by simp)):Below wr.heap.size wr w5);have e5:=(hb5.out.cell (p:=⟨bl,ol+k,none⟩) hbl2).trans e0;obtain⟨q0,q1⟩:=IntsL.cellOf hown6 hqr;have hst:=IntsL.stored hown6 q x;replace hown6:=Lib.hid hown6;have hI3:=Lib.hid hst.1;have hb6:=Lib.hid (hb5.out.trans (grown_below (v:=.slice (some ⟨g,0,none⟩) 0 0) hst.2 (fun g' e=>by cases e;exact hg1) hb5.out.size));have hbs6:=hb6.out.size;have hsrc2:=rowsAt_new (w5.setCell ⟨g,q,none⟩ (.int .i64 x)) [.slice (some ⟨g,0,none⟩) (r.set q x).length c5] 84;have hO3:=Lib.hid ((hO.out.below hb6.out).below (below_alloc _ (.cells #[.slice (some ⟨g,0,none⟩) (r.set q x).length c5] 84)));have hI4:=Lib.hid (hI3.out.below (below_alloc _ (.cells #[.slice (some ⟨g,0,none⟩) (r.set q x).length c5] 84)));have hbw6:=Lib.hid (hb.out.trans (hb6.out.mono hb.out.size));rw[List.length_set] at hsrc2 hO3 hI4;simp only[World.size_setCell,List.length_singleton] at hsrc2;replace hsrc2:=Lib.hid hsrc2;clear hg6 hob6 e0 hmade hsrc c0 hst hI3))
    |(at_builtin;go_must (refine wpList_append_rows elemRow rfl _ _ rfl rfl rfl hO3.out.own hsrc2.out rfl (fun r hr=>by rw[List.mem_singleton.1 hr];rfl) (fun r hr u hu=>by rw[List.mem_singleton.1 hr] at hu;rw[List.mem_singleton.1 hu];rfl) (by simp only[List.length_map,List.length_singleton];omega) (by decide) (by have:=hbw6.out.size;simp at this ⊢;omega) ?_;intro v' w7 hown7 hg7 hob7)))
   have hpush:Hid (MatO w7 w.heap.size v' (withL q (l.take (k+1)) (M.take (k+1))) (us ++ [.slice (some ⟨g,0,none⟩) r.length c5])):=by
    have:=hO3.out.push (Bs:=wr.heap.size) (r:=r.set q x) (A:=some ⟨g,0,none⟩) (c:=c5) (by rw[List.length_set];exact hI4.out) hvB.out (by rw[List.length_set];exact hown7) hg7 hob7
    rw[List.length_set] at this
    show MatO _ _ _ _ _
    rw[htk.out]
    exact this
   have hb7:Hid (Below w.heap.size w w7):=(below_step hbw6.out (below_alloc _ _)).trans (grown_below hg7 (fun g e=>(OwnL.lt hO3.out.own g e).1) (by have:=hbw6.out.size;simp at this ⊢;omega))
   clear hown7 hg7 hob7 hO3 hI4 hsrc2 hbw6 hb6 hb5
   go_wp2_with fail
   go_roundw
   case rel=>exact⟨k+1,_,_,by omega,by go_num,rfl,hpush,hb7⟩
   case measure=>simp[intOf];omega
  obtain rfl:k=M.length:=by omega
  have hO2:MatO wr w.heap.size u7 (withL q (l.take M.length) M) us:=by have:=hO.out;rwa [List.take_length (l:=M)] at this
  go_wp2_with fail
  go_ret
  exact⟨_,us,rfl,hO2,hb.out⟩
end Go.Proofs.YtoojdkaimhlcbaaGreat
namespace Go.Proofs.YtoojdkaimhlcbaaGreat
open Go Go.RowKit Go.Shelf
def upd (L:Nat→Nat→Int) (a b:Nat) (x:Int):Nat→Nat→Int:=fun i j=>if i=a then (if j=b then x else L i j) else L i j
def updR (r:Nat→Int) (a:Nat) (x:Int):Nat→Int:=fun j=>if j=a then x else r j
structure HtI (w:World) (G H:Nat) (R:Nat→Nat) (n k:Nat) (L:Nat→Nat→Int) (r:Nat→Int) (W:World):Prop where
 o:W.rowIs G 84 n (fun i=>if i<k then .slice (some ⟨R i,0,none⟩) n n else .slice none 0 0)
 m:∀ i,i<k→W.rowIs (R i) 3 n (fun j=>.int .i64 (L i j))
 r:W.rowIs H 3 n (fun j=>.int .i64 (r j))
 gh:G≠H
 gr:∀ i,i<k→R i≠G∧R i≠H
 rr:∀ i j,i<k→j<k→i≠j→R i≠R j
 gB:w.heap.size≤G
 hB:w.heap.size≤H
 rB:∀ i,i<k→w.heap.size≤R i
 bel:Below w.heap.size w W
section
variable {w : World} {G H : Nat} {R : Nat → Nat} {n k : Nat} {L : Nat → Nat → Int} {r : Nat → Int} {W W' : World}
theorem HtI.below (h:HtI w G H R n k L r W) (hb:Below W.heap.size W W'):HtI w G H R n k L r W' :=
 ⟨h.o.of_block (hb.block _ h.o.lt),fun i hi=>(h.m i hi).of_block (hb.block _ (h.m i hi).lt),h.r.of_block (hb.block _ h.r.lt),h.gh,h.gr,h.rr,h.gB,h.hB,h.rB,below_step h.bel hb⟩
theorem HtI.row (h:HtI w G H R n k (fun _ _=>0) r W):HtI w G H (fun i=>if i=k then W.heap.size else R i) n (k+1) (fun _ _=>0) r ((W.alloc (.cells (madeCells #[.int .i64 0] n) 3)).setCell ⟨G,k,none⟩ (.slice (some ⟨W.heap.size,0,none⟩) n n)):=by
 have hG:=h.o.lt
 have hH:=h.r.lt
 have hR:=fun i hi=>(h.m i hi).lt
 refine⟨?_,fun i hi=>?_,((h.r.alloc _).setOther (a:=⟨G,k,none⟩) (fun e=>h.gh e.symm) _),h.gh,fun i hi=>?_,fun i j hi hj hij=>?_,h.gB,h.hB,fun i hi=>?_,?_⟩
 ·refine ((h.o.alloc _).set k _).congr fun i hi=>?_
  by_cases e:i=k
  ·subst e;simp
  rw[if_neg e]
  by_cases hlt:i<k
  ·rw[if_pos hlt,if_pos (by omega),if_neg e]
  rw[if_neg hlt,if_neg (by omega)]
 ·by_cases e:i=k
  ·subst e
   rw[if_pos rfl]
   exact (World.rowIs_made W (.int .i64 0) n 3).setOther (a:=⟨G,i,none⟩) (by show W.heap.size≠G;omega) _
  rw[if_neg e]
  have:=h.m i (by omega)
  exact (this.alloc _).setOther (a:=⟨G,k,none⟩) (h.gr i (by omega)).1 _
 ·by_cases e:i=k
  ·rw[if_pos e];omega
  rw[if_neg e];exact h.gr i (by omega)
 ·by_cases e:i=k
  ·by_cases e2:j=k
   ·omega
   rw[if_pos e,if_neg e2]
   have:=hR j (by omega);omega
  by_cases e2:j=k
  ·rw[if_neg e,if_pos e2]
   have:=hR i (by omega);omega
  rw[if_neg e,if_neg e2];exact h.rr i j (by omega) (by omega) hij
 ·by_cases e:i=k
  ·rw[if_pos e];exact h.bel.size
  rw[if_neg e];exact h.rB i (by omega)
 exact (below_step h.bel (below_alloc _ _)).setCell (p:=⟨G,k,none⟩) h.gB _
theorem HtI.setM (h:HtI w G H R n k L r W) {a:Nat} (ha:a<k) (b:Nat) (x:Int):HtI w G H R n k (upd L a b x) r (W.setCell ⟨R a,b,none⟩ (.int .i64 x)):=by
 refine⟨h.o.setOther (a:=⟨R a,b,none⟩) (fun e=>(h.gr a ha).1 e.symm) _,fun i hi=>?_,h.r.setOther (a:=⟨R a,b,none⟩) (fun e=>(h.gr a ha).2 e.symm) _,h.gh,h.gr,h.rr,h.gB,h.hB,h.rB,h.bel.setCell (p:=⟨R a,b,none⟩) (h.rB a ha) _⟩
 by_cases e:i=a
 ·subst e
  refine ((h.m i hi).set b _).congr fun j hj=>?_
  unfold upd
  rw[if_pos rfl]
  split <;> rfl
 refine ((h.m i hi).setOther (a:=⟨R a,b,none⟩) (h.rr i a hi ha e) _).congr fun j hj=>?_
 unfold upd
 rw[if_neg e]
theorem HtI.setR (h:HtI w G H R n k L r W) (a:Nat) (x:Int):HtI w G H R n k L (updR r a x) (W.setCell ⟨H,a,none⟩ (.int .i64 x)):=by
 refine⟨h.o.setOther (a:=⟨H,a,none⟩) h.gh _,fun i hi=>(h.m i hi).setOther (a:=⟨H,a,none⟩) (h.gr i hi).2 _,?_,h.gh,h.gr,h.rr,h.gB,h.hB,h.rB,h.bel.setCell (p:=⟨H,a,none⟩) h.hB _⟩
 refine (h.r.set a _).congr fun j hj=>?_
 unfold updR
 split <;> rfl
theorem HtI.outer (h:HtI w G H R n k L r W) {i:Nat} (hi:i<k) (hn:i<n):W.cell? ⟨G,i,none⟩=some (.slice (some ⟨R i,0,none⟩) n n):=by
 have:=h.o.cell hn
 rwa [if_pos hi] at this
end
def listOf (n:Nat) (f:Nat→Int):List Int:=(List.range n).map f
def matOf (n:Nat) (L:Nat→Nat→Int):List (List Int):=(List.range n).map fun i=>listOf n (L i)
theorem listOf_length (n:Nat) (f:Nat→Int):(listOf n f).length=n:=by simp[listOf]
theorem listOf_get {n:Nat} {f:Nat→Int} {i:Nat} (h:i<n):(listOf n f)[i]?=some (f i):=by simp[listOf,h]
theorem matOf_length (n:Nat) (L:Nat→Nat→Int):(matOf n L).length=n:=by simp[matOf]
theorem rowIs_rows {W:World} {b n:Nat} {f:Nat→Int} (h:W.rowIs b 3 n (fun j=>.int .i64 (f j))):RowsAt W (some ⟨b,0,none⟩) 1 (intRows (listOf n f)):=fun j r hj=>by
 have hlt:j<n:=by
  have:=(List.getElem?_eq_some_iff.1 hj).1
  rwa [intRows_length,listOf_length] at this
 unfold intRows at hj
 rw[List.getElem?_map,listOf_get hlt] at hj
 cases hj
 refine⟨b,0,rfl,h.lt,fun i v hv=>?_⟩
 cases i with
 | zero =>
  have:v=.int .i64 (f j):=by simpa using hv.symm
  rw[this,Nat.zero_add,Nat.mul_one,Nat.add_zero]
  exact h.cell hlt
 | succ i=>simp at hv
theorem HtI.read {w:World} {G H:Nat} {R:Nat→Nat} {n:Nat} {L:Nat→Nat→Int} {r:Nat→Int} {W:World} (h:HtI w G H R n n L r W) :
  MatR W (some ⟨G,0,none⟩) (matOf n L) ((List.range n).map fun i=>.slice (some ⟨R i,0,none⟩) n n):=by
 refine⟨fun j q hj=>?_,by simp[matOf],fun i q hi=>?_⟩
 ·have hlt:j<n:=by
   have:=(List.getElem?_eq_some_iff.1 hj).1
   simpa using this
  have hq:q=[.slice (some ⟨R j,0,none⟩) n n]:=by
   simp[hlt] at hj
   exact hj.symm
  subst hq
  refine⟨G,0,rfl,h.o.lt,fun i v hv=>?_⟩
  cases i with
  | zero =>
   have:v=.slice (some ⟨R j,0,none⟩) n n:=by simpa using hv.symm
   rw[this,Nat.zero_add,Nat.mul_one,Nat.add_zero]
   exact h.outer hlt hlt
  | succ i=>simp at hv
 have hlt:i<n:=by
  have:=(List.getElem?_eq_some_iff.1 hi).1
  rwa [matOf_length] at this
 have hq:q=listOf n (L i):=by
  simp[matOf,hlt] at hi
  exact hi.symm
 subst hq
 refine⟨some ⟨R i,0,none⟩,n,by simp[hlt,listOf_length],by rw[listOf_length];exact Nat.le_refl _,rowIs_rows (h.m i hlt)⟩
theorem mk_mat (W:World) (n:Nat) (hn:n≤1000000):(Instr.makeSlice 83 (.int .i64 (n:Int)) (.int .i64 (n:Int))).run Tryz.prog W=.ok (.slice (some ⟨W.heap.size,0,none⟩) n n) (W.alloc (.cells (madeCells #[.slice none 0 0] n) 84)) :=
 run_make_row' _ _ _ 24 Tryz.underlying83 (by kernel_rfl) rfl .i64 .i64 n (by omega) (by omega) W
theorem mk_ints (W:World) (n:Nat) (hn:n≤1000000):(Instr.makeSlice 84 (.int .i64 (n:Int)) (.int .i64 (n:Int))).run Tryz.prog W=.ok (.slice (some ⟨W.heap.size,0,none⟩) n n) (W.alloc (.cells (madeCells #[.int .i64 0] n) 3)) :=
 run_make_row' _ _ _ 8 Tryz.underlying84 (by kernel_rfl) rfl .i64 .i64 n (by omega) (by omega) W
end Go.Proofs.YtoojdkaimhlcbaaGreat
namespace Go.Proofs.YtoojdkaimhlcbaaGreat
open Go Go.RowKit Go.Shelf
def matFn (M:List (List Int)):Cal.Mat:=fun i j=>(M[i]?.getD [])[j]?.getD 0
theorem minor_fn (M:List (List Int)) (c:Nat) (i j:Nat):matFn (minorL c M) i j=Cal.minor (matFn M) c i j:=by
 unfold matFn minorL Cal.minor Cal.skipI
 rw[List.getElem?_map,List.getElem?_drop,Nat.add_comm 1 i]
 cases h:M[i+1]? with
 | none=>simp[h]
 | some r =>
  simp only[Option.map_some,Option.getD_some]
  unfold offC
  rw[List.getElem?_eraseIdx]
  by_cases hj:j<c
  ·rw[if_pos hj,if_pos hj];simp[h]
  rw[if_neg hj,if_neg hj];simp[h]
theorem detF_detN:∀ (n:Nat) (M:List (List Int)),M.length=n→(∀ r∈M,r.length=n)→detF n M=Cal.detN n (matFn M)
 | 0,_,_,_=>rfl
 | n+1,M,hl,hr=>by
  obtain⟨r,hk'⟩:∃ r,M[0]?=some r:=⟨M[0],List.getElem?_eq_getElem (by omega)⟩
  rw[detF_succ hk']
  unfold Cal.detN
  refine Cal.sumTo_congr fun c hc=>?_
  obtain⟨h1,h2⟩:=minorL_sq hl hr hc
  rw[detF_detN n (minorL c M) h1 h2,show matFn (minorL c M)=Cal.minor (matFn M) c from funext fun i=>funext fun j=>minor_fn M c i j]
  congr 2
  unfold matFn
  rw[hk']
  rfl
theorem matFn_of {n:Nat} {L:Nat→Nat→Int} {i j:Nat} (hi:i<n) (hj:j<n):matFn (matOf n L) i j=L i j:=by
 unfold matFn matOf
 simp[hi,listOf_get hj]
theorem detF_lap {n:Nat} (L:Nat→Nat→Int):detF n (minorL 0 (matOf (n+1) L))=Cal.detN n (Cal.red L):=by
 have h1:=minorL_sq (n:=n) (M:=matOf (n+1) L) (matOf_length _ _) (fun r hr=>by
  unfold matOf at hr
  obtain⟨i,_,rfl⟩:=List.mem_map.1 hr
  exact listOf_length _ _) (c:=0) (by omega)
 rw[detF_detN n _ h1.1 h1.2]
 refine Cal.detN_congr fun i j hi hj=>?_
 rw[minor_fn]
 unfold Cal.minor Cal.skipI Cal.red
 rw[if_neg (by omega),matFn_of (by omega) (by omega)]
theorem wrap_range (a:Int):-9223372036854775808≤IntKind.i64.wrap a∧IntKind.i64.wrap a≤9223372036854775807:=by
 rw[wrap_eq]
 unfold wrap64
 omega
namespace Cal
def edges (l:List Lev):List Edge:=l.map edge
def hD (n:Nat) (l:List Lev):Int:=detF n (minorL 0 (matOf (n+1) (lap (edges l))))
def hN (n:Nat) (l:List Lev) (i:Nat):Int:=IntKind.i64.wrap (detF n (withL i ((listOf (n+1) (rhs (edges l))).drop 1) (minorL 0 (matOf (n+1) (lap (edges l))))))
def hAt (n:Nat) (l:List Lev) (i:Nat):Int × Int:=(lowN (hN n l i) (hD n l),lowD (hN n l i) (hD n l))
def heightsP (n:Nat) (l:List Lev):List (Int × Int):=(0,1) :: (List.range n).map (hAt n l)
theorem netE_zero {n:Int} {l:List Lev} (h:netE n l=0):1≤n∧n≤6∧l.length≤20∧(∀ x∈l,levE n x=0)∧∀ p,p<n.toNat→swept n.toNat l p=true:=by
 unfold netE at h
 split at h
 ·cases h
 split at h
 ·cases h
 split at h
 ·rename_i h0
  split at h
  ·rename_i h1
   rw[List.all_eq_true] at h1
   exact⟨by omega,by omega,by omega,levsE_zero h0,fun p hp=>h1 p (List.mem_range.2 hp)⟩
  cases h
 rename_i h0;exact absurd h h0
theorem net_edges {n:Nat} {l:List Lev} (h:netE ((n+1:Nat):Int) l=0):(edges l).length≤20∧(∀ e∈edges l,e.f<n+1∧e.t<n+1)∧(∀ e∈edges l,1≤e.w∧e.w≤10)∧(∀ e∈edges l,-100000≤e.d∧e.d≤100000)∧Hangs (n+1) (edges l)∧∀ e∈edges l,e.f≠e.t:=by
 obtain⟨h1,h2,h3,h4,h5⟩:=netE_zero h
 have each:∀ e∈edges l,∃ x∈l,e=edge x∧levE ((n+1:Nat):Int) x=0:=fun e he=>by
  obtain⟨x,hx,rfl⟩:=List.mem_map.1 he
  exact⟨x,hx,rfl,h4 x hx⟩
 refine⟨by unfold edges;rw[List.length_map];exact h3,fun e he=>?_,fun e he=>?_,fun e he=>?_,hangs_of_sweeps (m:=n+1) (fun p hp=>?_),fun e he=>?_⟩
 ·obtain⟨x,_,rfl,hz⟩:=each e he
  have:=levE_zero hz
  unfold edge;dsimp only;omega
 ·obtain⟨x,_,rfl,hz⟩:=each e he
  have:=levE_zero hz
  exact⟨this.2.2.2.2.2.1,this.2.2.2.2.2.2⟩
 ·obtain⟨x,_,rfl,hz⟩:=each e he
  have:=levE_zero hz
  exact⟨this.2.2.2.1,this.2.2.2.2.1⟩
 ·have:=h5 p (by rw[Int.toNat_natCast];exact hp)
  rw[Int.toNat_natCast] at this
  exact this
 obtain⟨x,_,rfl,hz⟩:=each e he
 have:=levE_zero hz
 unfold edge;dsimp only;omega
theorem hD_pos {n:Nat} {l:List Lev} (h:netE ((n+1:Nat):Int) l=0):0<hD n l∧hD n l≤4000000000:=by
 obtain⟨h1,h2,h3,_,h5,_⟩:=net_edges h
 have hn:=netE_zero h
 unfold hD
 rw[detF_lap]
 exact net_det_le (by omega) h1 h2 h3 h5
theorem lap_append (i j:Nat) (e:Edge):∀ l:List Edge,lap (l ++ [e]) i j=lap l i j+e.w*(dl e.f i-dl e.t i)*(dl e.f j-dl e.t j)
 | []=>by simp[lap]
 | a :: l=>by
  rw[List.cons_append]
  show a.w*(dl a.f i-dl a.t i)*(dl a.f j-dl a.t j)+lap (l ++ [e]) i j=a.w*(dl a.f i-dl a.t i)*(dl a.f j-dl a.t j)+lap l i j+_
  rw[lap_append i j e l];omega
theorem rhs_append (p:Nat) (e:Edge):∀ l:List Edge,rhs (l ++ [e]) p=rhs l p+e.w*e.d*(dl e.t p-dl e.f p)
 | []=>by simp[rhs]
 | a :: l=>by
  rw[List.cons_append]
  show a.w*a.d*(dl a.t p-dl a.f p)+rhs (l ++ [e]) p=a.w*a.d*(dl a.t p-dl a.f p)+rhs l p+_
  rw[rhs_append p e l];omega
theorem lap_box {l:List Edge} (h:∀ e∈l,1≤e.w∧e.w≤10) (hl:l.length≤20) (i j:Nat):-200≤lap l i j∧lap l i j≤200:=by
 have main:∀ l:List Edge,(∀ e∈l,1≤e.w∧e.w≤10)→-(10*(l.length:Int))≤lap l i j∧lap l i j≤10*(l.length:Int):=fun l=>by
  induction l with
  | nil=>intro _;simp[lap]
  | cons a l ih =>
   intro h
   have ih:=ih (fun e he=>h e (List.mem_cons_of_mem _ he))
   have ha:=h a (List.mem_cons_self ..)
   show _≤a.w*(dl a.f i-dl a.t i)*(dl a.f j-dl a.t j)+lap l i j∧a.w*(dl a.f i-dl a.t i)*(dl a.f j-dl a.t j)+lap l i j≤_
   have t:-10≤a.w*(dl a.f i-dl a.t i)*(dl a.f j-dl a.t j)∧a.w*(dl a.f i-dl a.t i)*(dl a.f j-dl a.t j)≤10:=by
    have d:∀ i,dl a.f i-dl a.t i=0∨dl a.f i-dl a.t i=1∨dl a.f i-dl a.t i=-1:=fun i=>by
     unfold dl;split <;> split <;> simp
    rcases d i with e | e | e <;> rcases d j with f | f | f <;> rw[e,f] <;> omega
   rw[List.length_cons]
   omega
 have:=main l h
 omega
theorem rhs_box {l:List Edge} (h:∀ e∈l,1≤e.w∧e.w≤10) (hd:∀ e∈l,-100000≤e.d∧e.d≤100000) (hl:l.length≤20) (p:Nat):-20000000≤rhs l p∧rhs l p≤20000000:=by
 have main:∀ l:List Edge,(∀ e∈l,1≤e.w∧e.w≤10)→(∀ e∈l,-100000≤e.d∧e.d≤100000)→-(1000000*(l.length:Int))≤rhs l p∧rhs l p≤1000000*(l.length:Int):=fun l=>by
  induction l with
  | nil=>intro _ _;simp[rhs]
  | cons a l ih =>
   intro h hd
   have ih:=ih (fun e he=>h e (List.mem_cons_of_mem _ he)) (fun e he=>hd e (List.mem_cons_of_mem _ he))
   have ha:=h a (List.mem_cons_self ..)
   have hda:=hd a (List.mem_cons_self ..)
   show _≤a.w*a.d*(dl a.t p-dl a.f p)+rhs l p∧a.w*a.d*(dl a.t p-dl a.f p)+rhs l p≤_
   have hm:-1000000≤a.w*a.d∧a.w*a.d≤1000000:=by
    have:=mul_le_of (a:=a.w) (b:=a.d) (M:=10) (N:=100000) (by omega) (by omega) (by omega) (by omega)
    omega
   have t:-1000000≤a.w*a.d*(dl a.t p-dl a.f p)∧a.w*a.d*(dl a.t p-dl a.f p)≤1000000:=by
    have d:dl a.t p-dl a.f p=0∨dl a.t p-dl a.f p=1∨dl a.t p-dl a.f p=-1:=by
     unfold dl;split <;> split <;> simp
    rcases d with e | e | e <;> rw[e] <;> omega
   rw[List.length_cons]
   omega
 have:=main l h hd
 omega
end Cal
theorem lap_four {l:List Cal.Edge} {e:Cal.Edge} (hne:e.f≠e.t):upd (upd (upd (upd (Cal.lap l) e.f e.f (Cal.lap l e.f e.f+e.w)) e.t e.t (Cal.lap l e.t e.t+e.w)) e.f e.t (Cal.lap l e.f e.t-e.w)) e.t e.f (Cal.lap l e.t e.f-e.w)=Cal.lap (l ++ [e]):=by
 funext i j
 rw[Cal.lap_append]
 unfold upd Cal.dl
 by_cases h1:i=e.f <;> by_cases h2:i=e.t <;> by_cases h3:j=e.f <;> by_cases h4:j=e.t <;> simp_all <;> omega
theorem rhs_two {l:List Cal.Edge} {e:Cal.Edge} (hne:e.f≠e.t):updR (updR (Cal.rhs l) e.t (Cal.rhs l e.t+e.w*e.d)) e.f (Cal.rhs l e.f-e.w*e.d)=Cal.rhs (l ++ [e]):=by
 funext p
 rw[Cal.rhs_append]
 unfold updR Cal.dl
 by_cases h1:p=e.f <;> by_cases h2:p=e.t <;> simp_all <;> omega
end Go.Proofs.YtoojdkaimhlcbaaGreat
