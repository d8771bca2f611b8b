/- What the statements rest on: definitions and walks, part 30. -/
import Derived.Test.YthfokpchdlcidaaGreatJ14
set_option maxRecDepth 100000
set_option maxHeartbeats 16000000
set_option linter.unusedSimpArgs false
set_option linter.unusedVariables false
namespace Go.Proofs.YthfokpchdlcidaaGreat
open Go Go.RowKit Go.WideShapes Go.ChangeShapes
theorem below_of_drewN {w w':World} {n:Nat} (h:Below (w.drewN n).heap.size (w.drewN n) w'):Below w.heap.size w w':=⟨h.os,h.tape,h.output,h.size,h.block⟩
section
variable {f : FuncId} {args : Array Value} {w : World} {K : Ending → World → Prop} {p q : Prop} {dp : Decidable p} {dq : Decidable q}
variable {n : Nat}
end
end Go.Proofs.YthfokpchdlcidaaGreat
namespace Go.Proofs.YthfokpchdlcidaaGreat
open Go Go.RowKit
theorem RowsAt.nil (w:World) (A:Option Addr) (m:Nat):RowsAt w A m []:=fun k r hr=>by simp at hr
end Go.Proofs.YthfokpchdlcidaaGreat
namespace Go.Proofs.YthfokpchdlcidaaGreat
open Go Go.RowKit Go.Maps Go.WideMaps Go.ChangeMaps
variable {P : Program} {k : TypeId} {w : World} {b n : Nat} {κ : Type} {lit : κ → Lit} {f : κ → Option Value}
theorem MapIs.kept {w':World} {row:Option Nat} (h:MapIs P k lit w b n f) (hg:w.grownBy w' row) (hne:some b≠row):MapIs P k lit w' b n f:=by
 obtain⟨D,h,hf⟩:=h;exact⟨D,h.kept hg hne,hf⟩
theorem MapIs.look_ok {t e:TypeId} (h:MapIs P k lit w b n f) (K:Keyed P k) (ht:P.underlying t=some (.map k e)) {z:Value} (hz:(zeroValue e).run P w=.ok z w) {key:Value} {kl:κ} (hkey:keyOf P k key=some (lit kl)) :
  (Instr.lookup t (.map (some b)) key true).run P w=.ok (.tuple #[(f kl).getD z,.bool (f kl).isSome]) w:=by
 obtain⟨D,h,hf⟩:=h
 obtain⟨v,ps,hrun,hv⟩:=h.look_ok K ht hz (zd:=.held z) (zp:=[]) rfl hkey
 obtain⟨h1,h2⟩:=hf kl (K.key hkey)
 rw[h2 z] at hv
 simp only[heldR,Option.some.injEq,Prod.mk.injEq,DataW.held.injEq] at hv
 rw[hrun,hv.1,h1]
end Go.Proofs.YthfokpchdlcidaaGreat
namespace Go.Proofs.YthfokpchdlcidaaGreat
open Go Go.RowKit Go.Maps Go.WideMaps
def strLit (x:List UInt8):Lit:=.string x
theorem strLit_inj (x y:List UInt8) (h:strLit x=strLit y):x=y:=by unfold strLit at h;cases h;rfl
end Go.Proofs.YthfokpchdlcidaaGreat
namespace Go.Proofs
open Go.Shelf
def Tryz.lays190_ren:Go.Shelf.Ren:=⟨fun | 190=>102 | 125=>125 | 258=>127 | 128=>142 | 129=>143 | 302=>144 | 303=>145 | 304=>146 | 305=>147 | 306=>148 | 307=>149 | 308=>100 | 309=>150 | 310=>151 | 333=>160 | 329=>156 | 330=>157 | 334=>161 | 335=>162 | 336=>126 | 344=>165 | n=>n,fun | 31=>56 | 9=>9 | 3=>3 | 46=>152 | 0=>0 | 51=>185 | 53=>187 | 4=>4 | 183=>178 | 182=>177 | 131=>182 | 5=>5 | 218=>195 | 222=>198 | 228=>203 | 229=>60 | n=>n,fun | n=>n⟩
theorem Tryz.lays190:Go.Proofs.Lays.n190 Tryz.prog Tryz.lays190_ren:={
 mixed:=by kernel_rfl
 f125:=Tryz.func125.trans (congrArg some (by kernel_rfl))
 f128:=Tryz.func142.trans (congrArg some (by kernel_rfl))
 f129:=Tryz.func143.trans (congrArg some (by kernel_rfl))
 f190:=Tryz.func102.trans (congrArg some (by kernel_rfl))
 f258:=Tryz.func127.trans (congrArg some (by kernel_rfl))
 f302:=Tryz.func144.trans (congrArg some (by kernel_rfl))
 f303:=Tryz.func145.trans (congrArg some (by kernel_rfl))
 f304:=Tryz.func146.trans (congrArg some (by kernel_rfl))
 f305:=Tryz.func147.trans (congrArg some (by kernel_rfl))
 f306:=Tryz.func148.trans (congrArg some (by kernel_rfl))
 f307:=Tryz.func149.trans (congrArg some (by kernel_rfl))
 f308:=Tryz.func100.trans (congrArg some (by kernel_rfl))
 f309:=Tryz.func150.trans (congrArg some (by kernel_rfl))
 f310:=Tryz.func151.trans (congrArg some (by kernel_rfl))
 f329:=Tryz.func156.trans (congrArg some (by kernel_rfl))
 f330:=Tryz.func157.trans (congrArg some (by kernel_rfl))
 f333:=Tryz.func160.trans (congrArg some (by kernel_rfl))
 f334:=Tryz.func161.trans (congrArg some (by kernel_rfl))
 f335:=Tryz.func162.trans (congrArg some (by kernel_rfl))
 f336:=Tryz.func126.trans (congrArg some (by kernel_rfl))
 f344:=Tryz.func165.trans (congrArg some (by kernel_rfl))
 t0:=Tryz.underlying0
 a0:=Tryz.isAgg0
 z0:=Tryz.sizeOf0
 v0:=Tryz.zeroValue0
 t3:=Tryz.underlying3
 a3:=Tryz.isAgg3
 z3:=Tryz.sizeOf3
 v3:=Tryz.zeroValue3
 t4:=Tryz.underlying4
 a4:=Tryz.isAgg4
 z4:=Tryz.sizeOf4
 v4:=Tryz.zeroValue4
 t5:=Tryz.underlying5
 a5:=Tryz.isAgg5
 z5:=Tryz.sizeOf5
 v5:=Tryz.zeroValue5
 t9:=Tryz.underlying9
 a9:=Tryz.isAgg9
 z9:=Tryz.sizeOf9
 v9:=Tryz.zeroValue9
 t31:=Tryz.underlying56
 a31:=Tryz.isAgg56
 z31:=Tryz.sizeOf56
 v31:=Tryz.zeroValue56
 t46:=Tryz.underlying152
 a46:=Tryz.isAgg152
 z46:=Tryz.sizeOf152
 v46:=Tryz.zeroValue152
 t51:=Tryz.underlying185
 a51:=Tryz.isAgg185
 z51:=Tryz.sizeOf185
 v51:=Tryz.zeroValue185
 t53:=Tryz.underlying187
 a53:=Tryz.isAgg187
 z53:=Tryz.sizeOf187
 v53:=Tryz.zeroValue187
 t131:=Tryz.underlying182
 a131:=Tryz.isAgg182
 z131:=Tryz.sizeOf182
 v131:=Tryz.zeroValue182
 t182:=Tryz.underlying177
 a182:=Tryz.isAgg177
 z182:=Tryz.sizeOf177
 v182:=Tryz.zeroValue177
 t183:=Tryz.underlying178
 a183:=Tryz.isAgg178
 z183:=Tryz.sizeOf178
 v183:=Tryz.zeroValue178
 t218:=Tryz.underlying195
 a218:=Tryz.isAgg195
 z218:=Tryz.sizeOf195
 v218:=Tryz.zeroValue195
 t222:=Tryz.underlying198
 a222:=Tryz.isAgg198
 z222:=Tryz.sizeOf198
 v222:=Tryz.zeroValue198
 t228:=Tryz.underlying203
 a228:=Tryz.isAgg203
 z228:=Tryz.sizeOf203
 v228:=Tryz.zeroValue203
 t229:=Tryz.underlying60
 a229:=Tryz.isAgg60
 z229:=Tryz.sizeOf60
 v229:=Tryz.zeroValue60 }
open Go.Sort Go.RowKit in
theorem Tryz.slices_Sort_string (blk off cap:Nat) (ss:List (List UInt8)) (w:World) (hH:Holds encStr w blk off ss.toArray) (hblk:blk<w.heap.size) (hsz:ss.length<4611686018427387904) :
  Calls Tryz.prog 102 #[.slice (some ⟨blk,off,none⟩) ss.length cap] w fun e w' =>
   e=.returned (.tuple #[])∧∃ n os,w'=grow (putRow encStr (Sort.ahead w n) blk off (ss.mergeSort fun x y=>decide (x≤y)).toArray) os:=Any.slices_Sort_string Tryz.lays190 blk off cap ss w hH hblk hsz
def Tryz.lays194_ren:Go.Shelf.Ren:=⟨fun | 194=>61 | n=>n,fun | 31=>56 | 9=>9 | 3=>3 | 4=>4 | 0=>0 | n=>n,fun | n=>n⟩
theorem Tryz.lays194:Go.Proofs.Lays.n194 Tryz.prog Tryz.lays194_ren:={
 mixed:=by kernel_rfl
 f194:=Tryz.func61.trans (congrArg some (by kernel_rfl))
 t0:=Tryz.underlying0
 a0:=Tryz.isAgg0
 z0:=Tryz.sizeOf0
 v0:=Tryz.zeroValue0
 t3:=Tryz.underlying3
 a3:=Tryz.isAgg3
 z3:=Tryz.sizeOf3
 v3:=Tryz.zeroValue3
 t4:=Tryz.underlying4
 a4:=Tryz.isAgg4
 z4:=Tryz.sizeOf4
 v4:=Tryz.zeroValue4
 t9:=Tryz.underlying9
 a9:=Tryz.isAgg9
 z9:=Tryz.sizeOf9
 v9:=Tryz.zeroValue9
 t31:=Tryz.underlying56
 a31:=Tryz.isAgg56
 z31:=Tryz.sizeOf56
 v31:=Tryz.zeroValue56 }
open Go.RowKit Go.Lib Go.Sort in
theorem Tryz.slices_Compact_string (blk off cap:Nat) (zs:List (List UInt8)) (w:World) (hH:Holds encStr w blk off zs.toArray) (hsz:zs.length≤9223372036854775807) (hcap:zs.length≤cap) :
  Calls Tryz.prog 61 #[.slice (some ⟨blk,off,none⟩) zs.length cap] w fun e w'=>e=.returned (.slice (some ⟨blk,off,none⟩) (Lib.compact zs).length cap)∧∃ q,w'=putRow encStr (Sort.ahead w q) blk off (Lib.compact zs ++ List.replicate (zs.length-(Lib.compact zs).length) []).toArray:=Any.slices_Compact_string Tryz.lays194 blk off cap zs w hH hsz hcap
open Go.RowKit Go.Lib Go.Sort in
theorem Tryz.slices_Compact_string_empty (a:Option Addr) (cap:Nat) (w:World) :
  Calls Tryz.prog 61 #[.slice a 0 cap] w fun e w'=>e=.returned (.slice a 0 cap)∧w'=w:=Any.slices_Compact_string_empty Tryz.lays194 a cap w
open Go.RowKit Go.Sort in
theorem Tryz.slices_Sort_string_none (p:Option Addr) (cap:Nat) (w:World) :
  Calls Tryz.prog 102 #[.slice p 0 cap] w fun e w'=>e=.returned (.tuple #[])∧w'=w:=Any.slices_Sort_string_none Tryz.lays190 p cap w
end Go.Proofs
namespace Go.Proofs.YthfokpchdlcidaaGreat
open Go Go.RowKit Go.Sort
theorem grow_below (w:World) (os:Array Obj):Below w.heap.size w (grow w os):=⟨rfl,rfl,rfl,by simp,fun k hk=>by simp[grow,Array.getElem?_append_left hk]⟩
end Go.Proofs.YthfokpchdlcidaaGreat
namespace Go.Proofs.YthfokpchdlcidaaGreat
open Go Go.RowKit
theorem tkH {P:Program} {ops:Array Oper} {Q:Exit→Act→World→Prop} {md:Region.Mode} {S:World→Prop} (i:Nat) {oi:Oper} {v:Value} {fuel:Nat} {listed:Array Bool} {a:Act} {w:World}
  (hy:∀ w,S w→(execOp a.eval oi).run P w=.ok (.value v) w) (h:wpAnyH P md ops Q S fuel (listed.setIfInBounds i true) (a.put oi.dst v) w)
  (hi:ops[i]?=some oi:=by exact rfl) (hs:Region.noSelect ops=true:=by kernel_rfl) (hf:Region.free md ops listed i=true:=by decide +kernel) (hr:(Region.ready md ops listed).contains i=true:=by decide +kernel)
  (hQ:∀ c a w,Q (.panic c) (a.put oi.dst v) w→Q (.panic c) a w:=by exact fun _ _ _ h=>h) (hw:Region.wanted oi (yielded ops a.tmps)=true:=by kernel_rfl) (hS:S w:=by assumption):wpAnyH P md ops Q S (fuel+1) listed a w :=
 wpAnyH_take hi hs hf hr hQ (Or.inl ⟨hw,hy⟩) hS h
end Go.Proofs.YthfokpchdlcidaaGreat
namespace Go.Proofs.YthfokpchdlcidaaGreat
open Go Go.RowKit
structure StW (w:World) (B:Nat) (A:Option Addr) (c:Nat) (p:Proc) (s:NSt):Prop where
 at_:StAt w B A c p s
 free:∀ j,j<18→w.frozen? ⟨B,j,none⟩=false
end Go.Proofs.YthfokpchdlcidaaGreat
namespace Go.Proofs.YthfokpchdlcidaaGreat
open Go Go.RowKit
theorem BoxAt.aside {w:World} {B B':Nat} {cs:List Value} (h:BoxAt w B cs) (xs:List Value) (hne:B≠B'):BoxAt (w.setCells B' 0 xs) B cs:=h.grown (grown_setCells B' xs 0 w) (fun e=>hne (by cases e;rfl))
theorem BoxAt.st {w:World} {B:Nat} {A:Option Addr} {c:Nat} {p:Proc} {s:NSt} (h:BoxAt w B [.int .i64 p.runs.m,.int .i64 p.runs.d,.bool p.runs.k,.int .i64 p.obj.m,.int .i64 p.obj.d,.bool p.obj.k,.int .i64 p.wait.m,.int .i64 p.wait.d,.bool p.wait.k,.int .i64 p.exts,.int .i64 p.longest,.slice A p.hols.length c,.int .i64 s.phase,.int .i64 s.last,.int .i64 s.deadline,.int .i64 s.object,.int .i64 s.objected,.int .i64 s.extended]):StW w B A c p s:=⟨⟨h.range,h.lt⟩,h.free⟩
end Go.Proofs.YthfokpchdlcidaaGreat
namespace Go.Proofs.YthfokpchdlcidaaGreat
open Go Go.RowKit Go.Shelf
attribute [local go_sem] Oper.semAt_some
theorem OwnL.keeps {W W':World} {B:Nat} {E:TypeId} {m:Nat} {v:Value} {rows:List (List Value)} (h:OwnL W B E m v rows) (hg:W.grownBy W' v.ownBlock):KeepsOthers W W':=by
 refine KeepsOthers.of_grownBy hg fun j o e ho=>?_
 rcases h.own.2 with ⟨rfl,_⟩ | ⟨g,cap,cur,rfl,_,hh,_⟩
 ·cases e
 cases e
 rw[hh] at ho
 cases ho;rfl
end Go.Proofs.YthfokpchdlcidaaGreat
namespace Go.Proofs.YthfokpchdlcidaaGreat
open Go Go.RowKit Go.Sort
def firstNZ:List Int→Int
 | []=>0
 | z :: l=>if z=0 then firstNZ l else z
def nzTo (zs:List Int) (k:Nat):Prop:=firstNZ (zs.drop k)=firstNZ zs
theorem Or_any (A:Option Addr) (c:Nat) (zs:List Int) (w:World) (h:RowsAt w A 1 (intRows zs)) (hs:zs.length≤1000000) :
  Calls Tryz.prog 97 #[.slice A zs.length c] w fun e w'=>e=.returned (.int .i64 (firstNZ zs))∧w=w':=by
 have h':=Lib.hid h
 have h0:Hid (nzTo zs 0):=rfl
 clear h
 go_enter Tryz.func97,Tryz.ntmps97
 go_wp2
 go_loop [8] (fun i=>∃ k:Nat,k≤zs.length∧i=.int .i64 k∧Hid (nzTo zs k)) (fun i=>zs.length-(intOf i).toNat)
 case atStart=>exact⟨0,Nat.zero_le _,rfl,h0⟩
 case round =>
  obtain⟨k,hk,rfl,hm⟩:=hrel
  clear h0
  by_cases hlt:k<zs.length
  ·obtain⟨b,o,rfl,_,e1⟩:=intsI_at h'.out hlt
   have hd:=Lib.hid (List.drop_eq_getElem_cons hlt)
   have hnz:=Lib.hid (fun (h:zs[k]=0)=>show nzTo zs (k+1) from by have:=hm.out;unfold nzTo at this ⊢;rw[←this,hd.out,firstNZ,if_pos h])
   have hfz:=Lib.hid (fun (h:¬zs[k]=0)=>show firstNZ zs=zs[k] from by have:=hm.out;unfold nzTo at this;rw[←this,hd.out,firstNZ,if_neg h])
   clear hd
   generalize zs[k]=z at *
   by_cases hz:z=0
   ·have hnx:Hid (nzTo zs (k+1)):=hnz.out hz
    clear hnz hfz
    subst hz
    go_wp2
    go_round
    case rel=>exact⟨k+1,by omega,by go_num,hnx⟩
    case measure=>simp[intOf];omega
   have hfin:Hid (firstNZ zs=z):=hfz.out hz
   have hz':(z != 0)=true:=by simpa using hz
   clear hnz hfz hz
   go_wp2
   go_ret
   exact⟨ret_int hfin.out.symm,rfl⟩
  obtain rfl:k=zs.length:=by omega
  have hfin:Hid (firstNZ zs=0):=by have:=hm.out;unfold nzTo at this;rw[List.drop_length] at this;exact this.symm
  go_wp2
  go_ret
  exact⟨ret_int hfin.out.symm,rfl⟩
theorem ints_new (w:World) (cs:Array Value) (t:TypeId) (zs:List Int) (hc:cs.toList=zs.map (Value.int .i64)):RowsAt (w.alloc (.cells cs t)) (some ⟨w.heap.size,0,none⟩) 1 (intRows zs):=fun k r hr=>by
 have hk:k<zs.length:=by
  have:=(List.getElem?_eq_some_iff.1 hr).1
  rwa [intRows_length] at this
 have hrow:r=[.int .i64 zs[k]]:=by
  unfold intRows at hr
  rw[List.getElem?_map,List.getElem?_eq_getElem hk] at hr
  exact (Option.some.inj hr).symm
 subst hrow
 refine⟨_,_,rfl,by simp,fun j v hv=>?_⟩
 match j,hv with
 | 0,hv =>
  cases hv
  rw[Nat.zero_add,cell_alloc_at,←Array.getElem?_toList,hc]
  simp[hk]
 | j+1,hv=>simp at hv
end Go.Proofs.YthfokpchdlcidaaGreat
namespace Go.Proofs.YthfokpchdlcidaaGreat
open Go Go.RowKit
section
variable {P : Program} {ops : Array Oper} {Q : Exit → Act → World → Prop} {md : Region.Mode} {S : World → Prop} {y : Nat}
theorem ratZ (i:Nat) {o:Oper} {fuel:Nat} {listed:Array Bool} {a:Act} {w:World} (hr:Region.ready md ops listed=[i]) (ho:ops[i]?=some o)
  (h:∀ K':Act→World→Prop,Shut (∀ a w,S w→(S w→wpAnyHY P md ops Q S y fuel (listed.setIfInBounds i true) a w)→K' a w)→if Region.wanted o (yielded ops a.tmps)=true then Oper.wp P o a w K' Q else K' (a.put o.dst undef) w) :
  wpAnyHY P md ops Q S y (fuel+1) listed a w:=by
 refine⟨fun h0=>absurd (hr ▸ h0) (by simp),?_⟩
 rw[hr]
 intro j hj
 rcases List.mem_singleton.1 hj with rfl
 refine wpOp_step ho (fun K' hK=>?_)
 have:=h K' (fun a w hS hW=>hK a w ⟨fun _=>hS,hW hS⟩)
 split
 ·rename_i hw;rw[if_pos hw] at this;exact this
 rename_i hw;rw[if_neg hw] at this;exact this
end
end Go.Proofs.YthfokpchdlcidaaGreat
namespace Go.Proofs.YthfokpchdlcidaaGreat.Cal
theorem lowD_mul (a b:Int):lowD a b*Int.gcd a b=b:=by
 unfold lowD
 exact Int.tdiv_mul_cancel (Int.gcd_dvd_right ..)
theorem lowD_pos {a b:Int} (hb:0<b):0<lowD a b:=by
 have h1:=lowD_mul a b
 have h2:=gcd_pos (a:=a) hb
 rcases Int.lt_or_le 0 (lowD a b) with h | h
 ·exact h
 have:=Int.mul_nonpos_of_nonpos_of_nonneg h (by omega:(0:Int)≤(Int.gcd a b:Int))
 omega
def more (parts den:Int):Int:=den.tdiv (Int.gcd parts den)
theorem more_pos {parts den:Int} (hd:0<den):0<more parts den:=lowD_pos (a:=parts) hd
theorem dvd_parts_more {parts den:Int}:parts ∣ parts*more parts den∧den ∣ parts*more parts den:=by
 refine⟨⟨more parts den,rfl⟩,?_⟩
 have hm:=lowD_mul parts den
 obtain⟨k,hk⟩:(Int.gcd parts den:Int) ∣ parts:=Int.gcd_dvd_left ..
 refine⟨k,?_⟩
 unfold more
 unfold lowD at hm
 generalize (Int.gcd parts den:Int)=g at *
 generalize den.tdiv g=m at *
 rw[hk,←hm]
 grind
end Go.Proofs.YthfokpchdlcidaaGreat.Cal
namespace Go.Proofs.YthfokpchdlcidaaGreat.Cal
open Go.Lib
theorem txt_lt_of {a b:Txt} (h1:a≤b) (h2:a≠b):a<b:=by
 rcases Classical.em (a<b) with h | h
 ·exact h
 exact absurd (List.le_antisymm h1 (List.not_lt.1 h)) h2
theorem txt_compact_spec (d:Array Txt) (hs:∀ i j,i≤j→j<d.size→d[i]!≤d[j]!):∀ m,m≤d.size →
  (compactUpTo d m).Pairwise (·<·)∧∀ x,x∈compactUpTo d m↔∃ j,j<m∧d[j]! = x
 | 0,_=>⟨List.Pairwise.nil,fun x=>⟨fun h=>by simp[compactUpTo] at h,fun ⟨j,hj,_⟩=>by omega⟩⟩
 | m+1,hm=>by
  obtain⟨ih1,ih2⟩:=txt_compact_spec d hs m (by omega)
  rw[compactUpTo_succ]
  by_cases hk:keeps d m=true
  ·rw[if_pos hk]
   refine⟨?_,fun x=>?_⟩
   ·rw[List.pairwise_append]
    refine⟨ih1,List.pairwise_singleton ..,fun a ha b hb=>?_⟩
    obtain⟨j,hj,rfl⟩:=(ih2 a).1 ha
    simp only[List.mem_singleton] at hb
    subst hb
    have hm0:m≠0:=by omega
    have hne:d[m]!≠d[m-1]!:=by simpa [keeps,hm0] using hk
    have h1:=hs j (m-1) (by omega) (by omega)
    have h2:=txt_lt_of (hs (m-1) m (by omega) (by omega)) (Ne.symm hne)
    exact List.lt_of_le_of_lt h1 h2
   rw[List.mem_append,ih2,List.mem_singleton]
   constructor
   ·rintro (⟨j,hj,rfl⟩ | rfl)
    ·exact⟨j,by omega,rfl⟩
    exact⟨m,by omega,rfl⟩
   rintro⟨j,hj,rfl⟩
   by_cases he:j=m
   ·right;rw[he]
   exact .inl ⟨j,by omega,rfl⟩
  rw[if_neg hk,List.append_nil]
  refine⟨ih1,fun x=>?_⟩
  rw[ih2]
  constructor
  ·rintro⟨j,hj,rfl⟩;exact⟨j,by omega,rfl⟩
  rintro⟨j,hj,rfl⟩
  by_cases he:j=m
  ·subst he
   have hk':¬(j=0∨d[j]!≠d[j-1]!):=by simpa [keeps] using hk
   refine⟨j-1,by omega,?_⟩
   have:¬d[j]!≠d[j-1]!:=fun h=>hk' (.inr h)
   exact (Classical.not_not.1 this).symm
  exact⟨j,by omega,rfl⟩
def tups (zs:List Txt):List Txt:=compact (zs.mergeSort fun x y=>decide (x≤y))
theorem txt_sort_up (zs:List Txt):(zs.mergeSort fun x y=>decide (x≤y)).Pairwise (·≤·):=by
 have:=List.pairwise_mergeSort (le:=fun x y:Txt=>decide (x≤y)) (fun a b c=>by simp only[decide_eq_true_eq];exact List.le_trans) (fun a b=>by simp only[Bool.or_eq_true,decide_eq_true_eq];exact List.le_total a b) zs
 exact this.imp fun h=>by simpa using h
theorem tups_spec (zs:List Txt):(tups zs).Pairwise (·<·)∧∀ d,d∈tups zs↔d∈zs:=by
 have hp:=txt_sort_up zs
 have hsize:(zs.mergeSort fun x y=>decide (x≤y)).toArray.size=(zs.mergeSort fun x y=>decide (x≤y)).length:=by simp
 obtain⟨h1,h2⟩:=txt_compact_spec (zs.mergeSort fun x y=>decide (x≤y)).toArray (fun i j hij hj=>by
  rcases Nat.lt_or_eq_of_le hij with hlt | rfl
  ·have:=List.pairwise_iff_getElem.1 hp i j (by omega) (by omega) hlt
   rw[getElem!_pos _ i (by omega),getElem!_pos _ j (by omega)]
   simpa using this
  exact List.le_refl _) _ (Nat.le_of_eq hsize.symm)
 refine⟨h1,fun d=>?_⟩
 unfold tups compact
 rw[h2]
 constructor
 ·rintro⟨j,hj,rfl⟩
  rw[getElem!_pos _ j (by omega)]
  have:(zs.mergeSort fun x y=>decide (x≤y)).toArray[j]'(by omega)∈(zs.mergeSort fun x y=>decide (x≤y)):=by simp
  exact List.mem_mergeSort.1 this
 intro hd
 obtain⟨j,hj,he⟩:=List.getElem_of_mem (List.mem_mergeSort.2 hd)
 refine⟨j,hj,?_⟩
 rw[getElem!_pos _ j (by simpa using hj)]
 simpa using he
theorem tups_length (zs:List Txt):(tups zs).length≤zs.length:=by
 have h:(zs.mergeSort fun x y=>decide (x≤y)).length=zs.length:=List.length_mergeSort zs
 unfold tups compact compactUpTo
 rw[List.length_map]
 exact Nat.le_trans (List.length_filter_le _ _) (by rw[List.length_range];omega)
end Go.Proofs.YthfokpchdlcidaaGreat.Cal
namespace Go.Proofs.YthfokpchdlcidaaGreat
open Go Go.RowKit Go.Sort
theorem elemTxt:Elem Tryz.prog 56 9 1 16:=Elem.mk' Tryz.underlying56 (z:=.string ⟨#[]⟩) (by kernel_rfl) rfl (by decide)
theorem TextsL.own {w:World} {B:Nat} {v:Value} {zs:List Cal.Txt} (h:TextsL w B v zs):w.ownsRow B 9 1 v zs.length (zs.map encStr):=by
 have:=OwnL.own h
 rwa [txtRows_length,txtRows_flat] at this
theorem TextsL.rows {w:World} {B:Nat} {v:Value} {zs:List Cal.Txt} (h:TextsL w B v zs):∃ A c,v=.slice A zs.length c∧RowsAt w A 1 (txtRows zs):=by
 obtain⟨A,c,hv,hr⟩:=OwnL.form h
 exact⟨A,c,by rw[hv,txtRows_length],hr⟩
theorem TextsL.block {w:World} {B g c:Nat} {zs:List Cal.Txt} {A:Option Addr} (h:TextsL w B (.slice A zs.length c) zs) (hA:A=some ⟨g,0,none⟩) :
  ∃ cur,w.heap[g]?=some (.cells cur 9 (0,0))∧B≤g∧zs.length≤c∧c≤maxLen∧cur.size=c∧cur.toList.take zs.length=zs.map encStr:=by
 subst hA
 rcases h.own.2 with ⟨h1,_⟩ | ⟨g',cap,cur,hv,hb,hg,h1,h2,h3,h4⟩
 ·cases h1
 simp only[Value.slice.injEq,Option.some.injEq,Addr.mk.injEq,and_true,true_and] at hv
 obtain⟨rfl,rfl⟩:=hv
 exact⟨cur,hg,hb,h1,h2,by omega,by rwa [Nat.mul_one] at h4⟩
theorem putCells_takeT {cur:Array Value} {ys:List Cal.Txt} (h:ys.length≤cur.size):(putCells encStr 0 ys.toArray cur).toList.take ys.length=ys.map encStr∧(putCells encStr 0 ys.toArray cur).size=cur.size:=by
 refine⟨?_,by simp[putCells]⟩
 apply List.ext_getElem
 ·simp[putCells];omega
 intro i h1 h2
 have hi:i<ys.length:=by simpa using h2
 simp[putCells,hi]
theorem heap_putRow_sameT {w:World} {g:Nat} {cur:Array Value} {e:TypeId} {fr:Nat × Nat} {d:Array Cal.Txt} (h:w.heap[g]?=some (.cells cur e fr)):(putRow encStr w g 0 d).heap[g]?=some (.cells (putCells encStr 0 d cur) e fr):=by
 simp[putRow,mapBlock,Array.getElem?_modify,h,onCells]
theorem heap_putRow_otherT {w:World} {g:Nat} {d:Array Cal.Txt} {k:Nat} (h:k≠g):(putRow encStr w g 0 d).heap[k]?=w.heap[k]?:=by
 simp[putRow,mapBlock,Array.getElem?_modify,Ne.symm h]
theorem TextsL.put {w:World} {B g c:Nat} {zs ys:List Cal.Txt} (h:TextsL w B (.slice (some ⟨g,0,none⟩) zs.length c) zs) (hl:ys.length=zs.length) :
  TextsL (putRow encStr w g 0 ys.toArray) B (.slice (some ⟨g,0,none⟩) ys.length c) ys∧w.grownBy (putRow encStr w g 0 ys.toArray) (some g):=by
 obtain⟨cur,hg,hb,h1,h2,h3,h4⟩:=h.block rfl
 obtain⟨t1,t2⟩:=putCells_takeT (cur:=cur) (ys:=ys) (by omega)
 refine⟨TextsL.of ⟨by simp,.inr ⟨g,c,_,rfl,hb,heap_putRow_sameT hg,by omega,h2,by rw[t2,h3];simp,by rw[Nat.mul_one];exact t1⟩⟩,rfl,rfl,rfl,by simp,fun k _ hk=>heap_putRow_otherT (fun e=>hk (by rw[e]))⟩
theorem TextsL.cut {w:World} {B g c:Nat} {xs ys:List Cal.Txt} (h:TextsL w B (.slice (some ⟨g,0,none⟩) (xs ++ ys).length c) (xs ++ ys)):TextsL w B (.slice (some ⟨g,0,none⟩) xs.length c) xs:=by
 obtain⟨cur,hg,hb,h1,h2,h3,h4⟩:=h.block rfl
 rw[List.length_append] at h1
 refine TextsL.of ⟨by simp,.inr ⟨g,c,cur,rfl,hb,hg,by omega,h2,by rw[h3];simp,?_⟩⟩
 rw[Nat.mul_one]
 have:=congrArg (List.take xs.length) h4
 rw[List.take_take,List.map_append,List.length_append,Nat.min_eq_left (by omega),List.take_left' (by simp)] at this
 exact this
theorem TextsL.holds {w:World} {B g c:Nat} {zs:List Cal.Txt} (h:TextsL w B (.slice (some ⟨g,0,none⟩) zs.length c) zs):Holds encStr w g 0 zs.toArray:=fun j hj=>by
 obtain⟨cur,hg,hb,h1,h2,h3,h4⟩:=h.block rfl
 have hj':j<zs.length:=by simpa using hj
 constructor
 ·rw[cell_of_row w g (0+j) cur _ (0,0) hg,Nat.zero_add]
  have:=congrArg (·[j]?) h4
  simp only[List.getElem?_take,hj',if_true,List.getElem?_map] at this
  rw[Array.getElem?_toList] at this
  rw[this]
  simp[hj']
 exact h.own.frozenAt (0+j)
theorem TextsL.below {w w':World} {B:Nat} {v:Value} {zs:List Cal.Txt} (h:TextsL w B v zs) (hb:Below w.heap.size w w'):TextsL w' B v zs:=OwnL.below h hb
def SortPostT (w:World) (B:Nat) (v:Value) (zs:List Cal.Txt) (e:Ending) (w':World):Prop:=e=.returned (.tuple #[])∧TextsL w' B v (zs.mergeSort fun x y=>decide (x≤y))∧w.grownBy w' v.ownBlock
theorem SortT_own (w:World) (B:Nat) (v:Value) (zs:List Cal.Txt) (h:TextsL w B v zs) (hs:zs.length≤1000000) :
  Calls Tryz.prog 102 #[v] w (SortPostT w B v zs):=by
 obtain⟨A,c,rfl,hr⟩:=h.rows
 by_cases hne:zs=[]
 ·subst hne
  refine (Tryz.slices_Sort_string_none A c w).mono fun e w' ⟨he,hw⟩=>?_
  subst hw
  exact⟨he,by simpa using h,World.grownBy.refl _ _⟩
 rcases h.own.2 with ⟨_,h0⟩ | ⟨g,cap,cur,hv,hb,hg,h1,h2,h3,h4⟩
 ·exact absurd (List.eq_nil_of_length_eq_zero h0) hne
 simp only[Value.slice.injEq,true_and] at hv
 obtain⟨rfl,rfl⟩:=hv
 have hl:(zs.mergeSort fun x y=>decide (x≤y)).length=zs.length:=List.length_mergeSort zs
 refine (Tryz.slices_Sort_string g 0 c zs w h.holds (Array.getElem?_eq_some_iff.1 hg).1 (by omega)).mono fun e w' ⟨he,n,os,hw⟩=>?_
 subst hw
 have hA:TextsL (Sort.ahead w n) B (.slice (some ⟨g,0,none⟩) zs.length c) zs:=h.below ⟨rfl,rfl,rfl,Nat.le_refl _,fun _ _=>rfl⟩
 obtain⟨p1,p2⟩:=hA.put hl
 have p3:=p1.below (grow_below _ os)
 rw[hl] at p3
 refine⟨he,p3,⟨p2.os,p2.tape,p2.output,Nat.le_trans p2.size (grow_below _ os).size,fun k hk hne=>((grow_below _ os).block k (Nat.lt_of_lt_of_le hk p2.size)).trans (p2.block k hk hne)⟩⟩
def CompactPostT (w:World) (B:Nat) (v:Value) (zs:List Cal.Txt) (e:Ending) (w':World):Prop:=∃ v',e=.returned v'∧TextsL w' B v' (Lib.compact zs)∧w.grownBy w' v.ownBlock∧v'.ownBlock=v.ownBlock
theorem CompactT_own (w:World) (B:Nat) (v:Value) (zs:List Cal.Txt) (h:TextsL w B v zs) (hs:zs.length≤1000000) :
  Calls Tryz.prog 61 #[v] w (CompactPostT w B v zs):=by
 obtain⟨A,c,rfl,hr⟩:=h.rows
 by_cases hne:zs=[]
 ·subst hne
  refine (Tryz.slices_Compact_string_empty A c w).mono fun e w' ⟨he,hw⟩=>?_
  subst hw
  exact⟨_,he,h,World.grownBy.refl _ _,rfl⟩
 rcases h.own.2 with ⟨_,h0⟩ | ⟨g,cap,cur,hv,hb,hg,h1,h2,h3,h4⟩
 ·exact absurd (List.eq_nil_of_length_eq_zero h0) hne
 simp only[Value.slice.injEq,true_and] at hv
 obtain⟨rfl,rfl⟩:=hv
 refine (Tryz.slices_Compact_string g 0 c zs w h.holds (by omega) h1).mono fun e w' ⟨he,n,hw⟩=>?_
 subst hw
 have hA:TextsL (Sort.ahead w n) B (.slice (some ⟨g,0,none⟩) zs.length c) zs:=h.below ⟨rfl,rfl,rfl,Nat.le_refl _,fun _ _=>rfl⟩
 have hcl:=Lib.compact_length_le zs
 have hl:(Lib.compact zs ++ List.replicate (zs.length-(Lib.compact zs).length) []).length=zs.length:=by simp;omega
 obtain⟨p1,p2⟩:=hA.put hl
 exact⟨_,he,p1.cut,⟨p2.os,p2.tape,p2.output,p2.size,p2.block⟩,rfl⟩
end Go.Proofs.YthfokpchdlcidaaGreat
namespace Go.Proofs.YthfokpchdlcidaaGreat.Cal
open Go.Lib
theorem cutT_sep {c:UInt8} {a:List UInt8} (h:c∉a) (r:List UInt8):cutT c (a ++ c :: r)=a :: cutT c r:=by
 induction a with
 | nil=>rw[List.nil_append,cutT,if_pos rfl]
 | cons x t ih =>
  have hx:x≠c:=fun e=>h (e ▸ List.mem_cons_self)
  rw[List.cons_append,cutT,if_neg hx,ih (fun hm=>h (List.mem_cons_of_mem _ hm))];rfl
theorem CutTo.hit {c:UInt8} {l:List UInt8} {out:List (List UInt8)} {st i:Nat} (h:CutTo c l out st i) (hi:l[i]?=some c):CutTo c l (out ++ [(l.drop st).take (i-st)]) (i+1) (i+1):=by
 have hle:=h.le
 have hlt:i<l.length:=(List.getElem?_eq_some_iff.1 hi).1
 have e:l.drop st=(l.drop st).take (i-st) ++ c :: l.drop (i+1):=by
  conv=>lhs;rw[←List.take_append_drop (i-st) (l.drop st)]
  rw[List.drop_drop,show st+(i-st)=i by omega,List.drop_eq_getElem_cons hlt]
  rw[List.getElem?_eq_getElem hlt] at hi
  rw[Option.some.inj hi]
 refine⟨?_,by simp,Nat.le_refl _⟩
 rw[←h.all]
 conv=>rhs;rw[e]
 rw[cutT_sep h.free,List.append_assoc]
 rfl
end Go.Proofs.YthfokpchdlcidaaGreat.Cal
namespace Go.Proofs.YthfokpchdlcidaaGreat.Cal
def flipL (x:Lev):Lev:=⟨x.t,x.f,-x.d,x.w⟩
def noL:Lev:=⟨0,0,0,0⟩
def stepL (l:List Lev) (n:Int):Lev:=if n<0 then flipL (l[n.natAbs-1]?.getD noL) else l[n.natAbs-1]?.getD noL
def badL (l:List Lev) (n:Int):Bool:=decide (n=0∨l.length<n.natAbs)
def chain:Int→List Lev→Bool
 | _,[]=>true
 | a,x :: r=>decide (x.f=a) && chain x.t r
def lastT:Int→List Lev→Int
 | a,[]=>a
 | _,x :: r=>lastT x.t r
def sumD:List Lev→Int
 | []=>0
 | x :: r=>x.d+sumD r
def misE (l:List Lev) (lp:List Int):Int :=
 if lp.length<1∨100<lp.length then 10 else if lp.any (badL l)=true then 6 else if chain (lastT 0 (lp.map (stepL l))) (lp.map (stepL l))=true then 0 else 29
def misS (l:List Lev) (lp:List Int):Int:=if misE l lp=0 then sumD (lp.map (stepL l)) else 0
theorem lastT_append (x:Lev):∀ (a:Int) (r:List Lev),lastT a (r ++ [x])=x.t
 | _,[]=>rfl
 | _,y :: r=>lastT_append x y.t r
theorem chain_append:∀ (r:List Lev) (a:Int) (s:List Lev),chain a (r ++ s)=(chain a r && chain (lastT a r) s)
 | [],_,_=>rfl
 | x :: r,a,s=>by
  show (decide (x.f=a) && chain x.t (r ++ s))=((decide (x.f=a) && chain x.t r) && chain (lastT x.t r) s)
  rw[chain_append r x.t s,Bool.and_assoc]
theorem sumD_append:∀ (r s:List Lev),sumD (r ++ s)=sumD r+sumD s
 | [],s=>by show sumD s=0+sumD s;omega
 | x :: r,s=>by
  show x.d+sumD (r ++ s)=x.d+sumD r+sumD s
  rw[sumD_append r s];omega
theorem stepL_mem {l:List Lev} {n:Int} (h:badL l n=false):∃ (k:Nat) (x:Lev),k=n.natAbs-1∧1≤n.natAbs∧k<l.length∧l[k]?=some x∧stepL l n=if n<0 then flipL x else x:=by
 have h:=of_decide_eq_false h
 have hk:n.natAbs-1<l.length:=by omega
 exact⟨n.natAbs-1,l[n.natAbs-1],rfl,by omega,hk,List.getElem?_eq_getElem hk,by unfold stepL;rw[List.getElem?_eq_getElem hk];rfl⟩
theorem stepL_box {l:List Lev} {n:Int} (hv:∀ x∈l,-100000≤x.d∧x.d≤100000) (h:badL l n=false):-100000≤(stepL l n).d∧(stepL l n).d≤100000:=by
 obtain⟨k,x,_,_,_,hx,e⟩:=stepL_mem h
 have:=hv x (List.mem_of_getElem? hx)
 rw[e]
 split
 ·show -100000≤-x.d∧-x.d≤100000;omega
 exact this
theorem lastT_get {x:Lev}:∀ {r:List Lev} {a:Int} {k:Nat},r[k]?=some x→r.length=k+1→lastT a r=x.t
 | [],_,_,h,_=>by cases h
 | [y],_,k,h,hl=>by
  obtain rfl:k=0:=by simpa using hl.symm
  cases h;rfl
 | y :: z :: r,a,k,h,hl=>by
  obtain⟨k,rfl⟩:∃ q,k=q+1:=⟨k-1,by simp at hl;omega⟩
  show lastT y.t (z :: r)=x.t
  exact lastT_get (by simpa using h) (by simpa using hl)
theorem any_take {f:Int→Bool} {lp:List Int} {k:Nat} (h:k<lp.length):(lp.take (k+1)).any f=((lp.take k).any f || f lp[k]):=by
 rw[List.take_succ_eq_append_getElem h,List.any_append];simp
theorem chain_take {a:Int} {r:List Lev} {k:Nat} (h:k<r.length):chain a (r.take (k+1))=(chain a (r.take k) && decide (r[k].f=lastT a (r.take k))):=by
 rw[List.take_succ_eq_append_getElem h,chain_append]
 show (_ && (decide (r[k].f=lastT a (List.take k r)) && true))=_
 rw[Bool.and_true]
theorem lastT_take {a:Int} {r:List Lev} {k:Nat} (h:k<r.length):lastT a (r.take (k+1))=r[k].t:=by
 rw[List.take_succ_eq_append_getElem h,lastT_append]
theorem sumD_take {r:List Lev} {k:Nat} (h:k<r.length):sumD (r.take (k+1))=sumD (r.take k)+r[k].d:=by
 rw[List.take_succ_eq_append_getElem h,sumD_append]
 show _=_
 simp[sumD]
theorem chain_break {a:Int} {r:List Lev} {k:Nat} (h:k<r.length) (hb:r[k].f≠lastT a (r.take k)):chain a r=false:=by
 have e:r=r.take (k+1) ++ r.drop (k+1):=(List.take_append_drop _ _).symm
 rw[e,chain_append,chain_take h,decide_eq_false hb,Bool.and_false,Bool.false_and]
def misEN (n:Int) (l:List Lev) (lp:List Int):Int:=if netE n l=0 then misE l lp else netE n l
def misSN (n:Int) (l:List Lev) (lp:List Int):Int:=if netE n l=0 then misS l lp else 0
theorem any_hit {f:Int→Bool} {lp:List Int} {k:Nat} (h:k<lp.length) (hf:f lp[k]=true):lp.any f=true:=List.any_eq_true.2 ⟨lp[k],List.getElem_mem h,hf⟩
end Go.Proofs.YthfokpchdlcidaaGreat.Cal
namespace Go.Proofs.YthfokpchdlcidaaGreat
open Go Go.RowKit Go.Shelf
theorem wrap_u64 (a:Int):IntKind.u64.wrap a=a % 18446744073709551616:=by
 unfold IntKind.wrap
 simp[IntKind.bits,IntKind.signed]
theorem levSize:(Tryz.prog.info? 120).map (·.size)=some 4:=by kernel_rfl
theorem size_any (n:Int) (w:World) (h1:-9223372036854775808≤n) (h2:n≤9223372036854775807):Calls Tryz.prog 104 #[.int .i64 n] w fun e w'=>e=.returned (.int .u64 (n.natAbs:Int))∧w=w':=by
 by_cases h:n<0
 ·have e1:IntKind.u64.wrap n=n+18446744073709551616:=by rw[wrap_u64];omega
  have e2:IntKind.u64.wrap (-(n+18446744073709551616))=(n.natAbs:Int):=by rw[wrap_u64];omega
  have hf:Hid (IntKind.u64.wrap (-(n+18446744073709551616))=(n.natAbs:Int)):=e2
  clear e2
  go_enter Tryz.func104,Tryz.ntmps104
  go_wp2
  go_ret
  exact⟨by rw[←hf.out];rfl,rfl⟩
 have e1:IntKind.u64.wrap n=n:=by rw[wrap_u64];omega
 have hf:Hid ((n.natAbs:Int)=n):=by show _=_;omega
 go_enter Tryz.func104,Tryz.ntmps104
 go_wp2
 go_ret
 exact⟨by rw[hf.out];rfl,rfl⟩
theorem BoxAt.aside1 {W:World} {B b o:Nat} {cs:List Value} (h:BoxAt W B cs) (hne:B≠b) (v:Value):BoxAt (W.setCell ⟨b,o,none⟩ v) B cs :=
 h.grown (row:=some b) ⟨rfl,rfl,rfl,by rw[World.size_setCell];exact Nat.le_refl _,fun k _ hk=>Below.heap_setCell W ⟨b,o,none⟩ v k (fun e=>hk (by rw[e]))⟩ (fun e=>hne (by cases e;rfl))
theorem storeC {P:Program} {ops:Array Oper} {Q:Exit→Act→World→Prop} {md:Region.Mode} {S:World→Prop} (i:Nat) {op:Oper} {fuel:Nat} {listed:Array Bool} {a:Act} {w:World} (ty:TypeId) (e f:Operand) (b o:Nat) (cells:Array Value)
  (hr:Region.ready md ops listed=[i]) (ho:ops[i]?=some op) (hst:op.op=.store ty e f) (hw:Region.wanted op (yielded ops a.tmps)=true)
  (hx:a.eval e=.pointer (some ⟨b,o,none⟩)) (hy:a.eval f=.agg cells) (ht:w.there b o cells.size) (hi:(P.info? ty).map (·.size)=some cells.size) (h1:cells.all (·.oneCell')=true)
  (hS:S (w.setCells b o cells.toList)) (h:S (w.setCells b o cells.toList)→wpAnyH P md ops Q S fuel (listed.setIfInBounds i true) (a.put op.dst undef) (w.setCells b o cells.toList)):wpAnyH P md ops Q S (fuel+1) listed a w :=
 wpAnyH_ready (rs:=[i]) hr (by simp) (AllReadyH.cons ho (fun K hK=>by
  rw[if_pos hw]
  exact wp_store_mid ty e f hst b o cells hx hy ht hi h1 (hK.out _ _ hS h)) AllReadyH.nil)
theorem stepG_any (l:List Lev) (A:Option Addr) (c:Nat) (n:Int) (B:Nat) (w:World) (hB:w.cell? ⟨B,0,none⟩=some (.slice A l.length c)) (hBl:B<w.heap.size) (hL:Levs w A l) (hv:∀ x∈l,-100000≤x.d∧x.d≤100000) (hbad:Cal.badL l n=false) :
  Calls Tryz.prog 103 #[.int .i64 n,.pointer (some ⟨B,0,none⟩)] w fun e w'=>e=.returned (.agg #[.int .i64 (Cal.stepL l n).f,.int .i64 (Cal.stepL l n).t,.int .i64 (Cal.stepL l n).d,.int .i64 (Cal.stepL l n).w])∧Below w.heap.size w w':=by
 obtain⟨k,x,hk,hn1,hlt,hx,he⟩:=Cal.stepL_mem hbad
 have hsz:=hL.size
 have hxd:=hv x (List.mem_of_getElem? hx)
 have hz:=Lib.hid (BoxAt.new w #[.int .i64 0,.int .i64 0,.int .i64 0,.int .i64 0] 120)
 have hb:=Lib.hid (below_alloc w (.cells #[.int .i64 0,.int .i64 0,.int .i64 0,.int .i64 0] 120))
 have hB1:=(hb.out.cell (p:=⟨B,0,none⟩) hBl).trans hB
 obtain⟨b,o,rfl,hbl,c0,c1,c2,c3⟩:=lev_at (hL.below hb.out).rows hx
 have hsize:=Lib.hid (fun W=>size_any n W (by omega) (by omega))
 have hk1:IntKind.u64.wrap ((n.natAbs:Int)-1)=(k:Int):=by rw[wrap_u64];omega
 have hki:(k:Int)<(l.length:Int):=by omega
 obtain⟨xf,xt,xd,xw⟩:=x
 dsimp only at *
 have hng:IntKind.i64.wrap (-xd)=-xd:=wrap_small (by omega) (by omega)
 generalize hna:n.natAbs=na at *
 replace he:=Lib.hid he
 clear hx hv hL hB hbad hxd hk hn1 hna
 go_enter Tryz.func103,Tryz.ntmps103
 go_wp2_with fail
 generalize hW1:w.alloc (.cells #[.int .i64 0,.int .i64 0,.int .i64 0,.int .i64 0] 120)=W1 at *
 have hRl:w.heap.size<W1.heap.size:=by rw[←hW1];simp
 clear hW1
 have hBs:=hb.out.size
 go_cut [4] from 4 to 10 (fun x4 wc=>x4=.pointer (some ⟨W1.heap.size,0,none⟩)∧Hid (BoxAt wc W1.heap.size [.int .i64 xf,.int .i64 xt,.int .i64 xd,.int .i64 xw])∧Hid (BoxAt wc w.heap.size [.int .i64 0,.int .i64 0,.int .i64 0,.int .i64 0])∧Hid (Below w.heap.size w wc))
 case first =>
  refine wp_region_held_drew (S:=Sx W1 [(B,0,.slice (some ⟨b,o,none⟩) l.length c),(b,o+k*4,.int .i64 xf),(b,o+k*4+1,.int .i64 xt),(b,o+k*4+2,.int .i64 xd),(b,o+k*4+3,.int .i64 xw)]) (by kernel_rfl) (Sx.mk (by simp only[cs_iff_cons];exact⟨hB1,c0,c1,c2,c3,cs_nil _⟩) (Below.refl _ _)).drew (fun hHeld=>?_)
  clear hB1 c0 c1 c2 c3
  have hbl2:∀ x∈[(B,0,Value.slice (some ⟨b,o,none⟩) l.length c),(b,o+k*4,.int .i64 xf),(b,o+k*4+1,.int .i64 xt),(b,o+k*4+2,.int .i64 xd),(b,o+k*4+3,.int .i64 xw)],x.1<W1.heap.size:=by
   intro x hx
   simp only[List.mem_cons,List.not_mem_nil,or_false] at hx
   rcases hx with rfl | rfl | rfl | rfl | rfl <;> dsimp only <;> omega
  have hbl3:=Lib.hid hbl2
  clear hbl2
  replace hz:=Lib.hid (hz.out.below (Below.refl _ _).drew)
  replace hb:=Lib.hid hb.out.drew
  replace hRl:w.heap.size<W1.drew.heap.size:=hRl
  have hsz1:Hid (W1.drew.heap.size=W1.heap.size):=rfl
  generalize W1.drew=W2 at *
  refine tkHx 0 5 ?_
  refine tkHx 1 6 ?_
  (refine wpAnyH_ready (rs:=[2,6]) (by decide +kernel) (by simp) ?_;refine AllReadyH.cons rfl (fun K hK=>?_) (AllReadyH.cons rfl (fun K hK=>?_) AllReadyH.nil))
  ·(rw[if_pos (by kernel_rfl)];go_simp)
   refine (hsize.out _).mono ?_
   rintro e0 w3 ⟨rfl,rfl⟩
   go_simp
   (refine hK.out _ _ hHeld (fun hHeld=>?_);clear hK K;(try simp only[apS,apN,siA,scZ,scS]))
   refine tkHx 3 8 ?_
   refine tkHx 4 9 ?_
   refine tkHx 5 10 ?_
   (refine ratHx 6 (fun K hK=>?_);go_simp)
   refine hK.out _ _ (hHeld.alloc _) (fun hHeld=>?_)
   clear hK K
   (try simp only[apS,apN,siA,scZ,scS])
   have hx0:=Lib.hid (BoxAt.new W2 #[.int .i64 0,.int .i64 0,.int .i64 0,.int .i64 0] 120)
   have hz0:=Lib.hid (hz.out.alloc (.cells #[.int .i64 0,.int .i64 0,.int .i64 0,.int .i64 0] 120))
   have hb0:=Lib.hid (below_step hb.out (below_alloc W2 (.cells #[.int .i64 0,.int .i64 0,.int .i64 0,.int .i64 0] 120)))
   (try simp only[apS,apN,siA,scZ,scS])
   refine storeC 7 120 (.tmp 4) (.tmp 10) W2.heap.size 0 #[.int .i64 xf,.int .i64 xt,.int .i64 xd,.int .i64 xw] (by decide +kernel) (by exact rfl) (by exact rfl) (by kernel_rfl) (by rfl) (by rfl) (by exact hx0.out.there) levSize (by kernel_rfl) (hHeld.putC (by rw[hsz1.out];exact Nat.le_refl _) hbl3.out) (fun hHeld=>?_)
   (try simp only[apS,apN,siA,scZ,scS])
   refine wpAnyH_done (by kernel_rfl) ?_ _
   have hx5:=Lib.hid (hx0.out.put [.int .i64 xf,.int .i64 xt,.int .i64 xd,.int .i64 xw] rfl)
   have hz5:=Lib.hid (hz0.out.aside (B':=W2.heap.size) [.int .i64 xf,.int .i64 xt,.int .i64 xd,.int .i64 xw] (Nat.ne_of_lt hRl))
   have hb5:=Lib.hid (below_of_grownB hb0.out (grown_setCells W2.heap.size [.int .i64 xf,.int .i64 xt,.int .i64 xd,.int .i64 xw] 0 _) (Nat.le_of_lt hRl))
   clear hHeld hx0 hz0 hb0 hz hb hbl3 hBs hsize hk1 hki
   go_wp2_with fail
   go_meet
   case rel=>exact⟨by rw[←hsz1.out],by rw[←hsz1.out];exact hx5,hz5,hb5⟩
  (rw[if_pos (by kernel_rfl)];go_simp)
  refine hK.out _ _ (hHeld.alloc _) (fun hHeld=>?_)
  clear hK K
  (try simp only[apS,apN,siA,scZ,scS])
  (refine ratHx 2 (fun K hK=>?_);go_simp)
  refine (hsize.out _).mono ?_
  rintro e0 w3 ⟨rfl,rfl⟩
  go_simp
  (refine hK.out _ _ hHeld (fun hHeld=>?_);clear hK K;(try simp only[apS,apN,siA,scZ,scS]))
  refine tkHx 3 8 ?_
  refine tkHx 4 9 ?_
  refine tkHx 5 10 ?_
  have hx0:=Lib.hid (BoxAt.new W2 #[.int .i64 0,.int .i64 0,.int .i64 0,.int .i64 0] 120)
  have hz0:=Lib.hid (hz.out.alloc (.cells #[.int .i64 0,.int .i64 0,.int .i64 0,.int .i64 0] 120))
  have hb0:=Lib.hid (below_step hb.out (below_alloc W2 (.cells #[.int .i64 0,.int .i64 0,.int .i64 0,.int .i64 0] 120)))
  (try simp only[apS,apN,siA,scZ,scS])
  refine storeC 7 120 (.tmp 4) (.tmp 10) W2.heap.size 0 #[.int .i64 xf,.int .i64 xt,.int .i64 xd,.int .i64 xw] (by decide +kernel) (by exact rfl) (by exact rfl) (by kernel_rfl) (by rfl) (by rfl) (by exact hx0.out.there) levSize (by kernel_rfl) (hHeld.putC (by rw[hsz1.out];exact Nat.le_refl _) hbl3.out) (fun hHeld=>?_)
  (try simp only[apS,apN,siA,scZ,scS])
  refine wpAnyH_done (by kernel_rfl) ?_ _
  have hx5:=Lib.hid (hx0.out.put [.int .i64 xf,.int .i64 xt,.int .i64 xd,.int .i64 xw] rfl)
  have hz5:=Lib.hid (hz0.out.aside (B':=W2.heap.size) [.int .i64 xf,.int .i64 xt,.int .i64 xd,.int .i64 xw] (Nat.ne_of_lt hRl))
  have hb5:=Lib.hid (below_of_grownB hb0.out (grown_setCells W2.heap.size [.int .i64 xf,.int .i64 xt,.int .i64 xd,.int .i64 xw] 0 _) (Nat.le_of_lt hRl))
  clear hHeld hx0 hz0 hb0 hz hb hbl3 hBs hsize hk1 hki
  go_wp2_with fail
  go_meet
  case rel=>exact⟨by rw[←hsz1.out],by rw[←hsz1.out];exact hx5,hz5,hb5⟩
 case rest =>
  obtain⟨rfl,hx5,hz5,hb5⟩:=hcut
  clear hB1 c0 c1 c2 c3 hz hb hsize hk1 hki
  generalize W1.heap.size=Bx at *
  obtain⟨x0,x1,x2⟩:=hx5.out.c3;obtain⟨f0,f1,f2⟩:=hx5.out.fr3
  have hne:w.heap.size≠Bx:=Nat.ne_of_lt hRl
  have hne2:=Lib.hid hne
  have hle:=Lib.hid (Nat.le_of_lt hRl)
  clear hne
  by_cases hneg:n<0
  ·have hres:Hid (Cal.stepL l n=⟨xt,xf,-xd,xw⟩):=by
    show _=_
    rw[he.out,if_pos hneg];rfl
   have hx8:=Lib.hid (((hx5.out.set 0 (.int .i64 xt) (by simp)).set 1 (.int .i64 xf) (by simp)).set 2 (.int .i64 (-xd)) (by simp))
   have hz8:=Lib.hid (((hz5.out.aside1 (o:=0) hne2.out (.int .i64 xt)).aside1 (o:=1) hne2.out (.int .i64 xf)).aside1 (o:=2) hne2.out (.int .i64 (-xd)))
   have hb8:=Lib.hid (((hb5.out.setCell (p:=⟨Bx,0,none⟩) hle.out (.int .i64 xt)).setCell (p:=⟨Bx,1,none⟩) hle.out (.int .i64 xf)).setCell (p:=⟨Bx,2,none⟩) hle.out (.int .i64 (-xd)))
   clear he hx5 hz5 hb5
   go_wp2_with (first
    |(refine wpList_load_mid rfl 120 (.tmp 4) rfl Bx 0 rfl [.int .i64 xt,.int .i64 xf,.int .i64 (-xd),.int .i64 xw] _ hx8.out.range Tryz.underlying120 rfl levSize ?_)
    |(refine wpList_store_box rfl 120 (.tmp 3) (.tmp 23) rfl w.heap.size _ [.int .i64 xt,.int .i64 xf,.int .i64 (-xd),.int .i64 xw] (by rfl) (by rfl) hz8.out rfl levSize (by kernel_rfl) ?_;intro w9 h9 hg9))
   refine bodyPost_ret (results_mid1 rfl _ _ w.heap.size [.int .i64 xt,.int .i64 xf,.int .i64 (-xd),.int .i64 xw] _ rfl h9.range Tryz.underlying120 rfl levSize) rfl ⟨by rw[hres.out],below_of_grownB hb8.out hg9 (Nat.le_refl _)⟩
  have hres:Hid (Cal.stepL l n=⟨xf,xt,xd,xw⟩):=by
   show _=_
   rw[he.out,if_neg hneg]
  clear he
  go_wp2_with (first
   |(refine wpList_load_mid rfl 120 (.tmp 4) rfl Bx 0 rfl [.int .i64 xf,.int .i64 xt,.int .i64 xd,.int .i64 xw] _ hx5.out.range Tryz.underlying120 rfl levSize ?_)
   |(refine wpList_store_box rfl 120 (.tmp 3) (.tmp 23) rfl w.heap.size _ [.int .i64 xf,.int .i64 xt,.int .i64 xd,.int .i64 xw] (by rfl) (by rfl) hz5.out rfl levSize (by kernel_rfl) ?_;intro w9 h9 hg9))
  refine bodyPost_ret (results_mid1 rfl _ _ w.heap.size [.int .i64 xf,.int .i64 xt,.int .i64 xd,.int .i64 xw] _ rfl h9.range Tryz.underlying120 rfl levSize) rfl ⟨by rw[hres.out],below_of_grownB hb5.out hg9 (Nat.le_refl _)⟩
end Go.Proofs.YthfokpchdlcidaaGreat
namespace Go.Proofs.YthfokpchdlcidaaGreat
open Go Go.RowKit Go.Shelf
structure BxI (w:World) (v:Value) (W:World):Prop where
 a:W.cell? ⟨w.heap.size,0,none⟩=some v
 bel:Below w.heap.size w W
 lt:w.heap.size<W.heap.size
theorem BxI.below {w:World} {v:Value} {X Y:World} (h:BxI w v X) (hb:Below X.heap.size X Y):BxI w v Y:=⟨(hb.cell (p:=⟨w.heap.size,0,none⟩) h.lt).trans h.a,below_step h.bel hb,Nat.lt_of_lt_of_le h.lt hb.size⟩
theorem field_lev1 (a b c d:Int) (w:World):(Instr.field 120 (.agg #[.int .i64 a,.int .i64 b,.int .i64 c,.int .i64 d]) 1).run Tryz.prog w=.ok (.int .i64 b) w:=by kernel_rfl
theorem Misclosure_any (N:Int) (A:Option Addr) (c:Nat) (l:List Lev) (O:Option Addr) (c2:Nat) (lp:List Int) (w:World) (hL:Levs w A l) (hI:RowsAt w O 1 (intRows lp)) (hs:lp.length≤1000000) (hi:∀ n∈lp,-9223372036854775808≤n∧n≤9223372036854775807) :
  Calls Tryz.prog 67 #[.int .i64 N,.slice A l.length c,.slice O lp.length c2] w fun e w'=>e=.returned (.tuple #[.int .i64 (Cal.misSN N l lp),.int .i64 (Cal.misEN N l lp)])∧Below w.heap.size w w':=by
 have hX:Hid (BxI w (.slice A l.length c) (w.alloc (.cells #[.slice A l.length c] 81))):=⟨by simp,below_alloc _ _,by simp⟩
 have hck:=Lib.hid (fun W (hb:Below w.heap.size w W)=>CheckNet_any N A c l W (hL.below hb))
 have hsz:=hL.size
 obtain⟨E,hE⟩:∃ E,Cal.misEN N l lp=E:=⟨_,rfl⟩
 obtain⟨S,hS⟩:∃ S,Cal.misSN N l lp=S:=⟨_,rfl⟩
 rw[hE,hS]
 unfold Cal.misEN at hE
 unfold Cal.misSN at hS
 by_cases hz:Cal.netE N l=0
 ·rw[if_pos hz] at hE hS
  obtain⟨_,_,hl20,hlev,_⟩:=Cal.netE_zero hz
  have hv:Hid (∀ x∈l,-100000≤x.d∧x.d≤100000):=fun x hx=>by
   have:=Cal.levE_zero (hlev x hx);omega
  replace hz:=Lib.hid hz
  by_cases hlen:lp.length<1∨100<lp.length
  ·have hE2:Hid (E=10):=by show _=_;rw[←hE];unfold Cal.misE;rw[if_pos hlen]
   have hS2:Hid (S=0):=by show _=_;rw[←hS];unfold Cal.misS;rw[hE,if_neg (by rw[hE2.out];decide)]
   clear hE hS
   replace hL:=Lib.hid hL
   rcases hlen with h1 | h1
   ·have h1:(lp.length:Int)<1:=by omega
    go_enter Tryz.func67,Tryz.ntmps67
    go_wp2_with (go_at_call 69;refine (hck.out _ hX.out.bel).mono ?_;rintro e0 w1 ⟨rfl,hb1⟩;rw[hz.out];replace hX:=Lib.hid (hX.out.below hb1);clear hck hb1)
    go_ret2
    exact⟨by rw[hE2.out,hS2.out];rfl,hX.out.bel⟩
   have h2:¬(lp.length:Int)<1:=by omega
   have h1:100<(lp.length:Int):=by omega
   go_enter Tryz.func67,Tryz.ntmps67
   go_wp2_with (go_at_call 69;refine (hck.out _ hX.out.bel).mono ?_;rintro e0 w1 ⟨rfl,hb1⟩;rw[hz.out];replace hX:=Lib.hid (hX.out.below hb1);clear hck hb1)
   go_ret2
   exact⟨by rw[hE2.out,hS2.out];rfl,hX.out.bel⟩
  have hE2:Hid (E=if lp.any (Cal.badL l)=true then 6 else if Cal.chain (Cal.lastT 0 (lp.map (Cal.stepL l))) (lp.map (Cal.stepL l))=true then 0 else 29):=by show _=_;rw[←hE];unfold Cal.misE;rw[if_neg hlen]
  have hS2:Hid (S=if E=0 then Cal.sumD (lp.map (Cal.stepL l)) else 0):=by show _=_;rw[←hS,←hE];rfl
  have h1:¬(lp.length:Int)<1:=by omega
  have h2:¬100<(lp.length:Int):=by omega
  clear hE hS
  replace hL:=Lib.hid hL
  replace hI:=Lib.hid hI
  go_enter Tryz.func67,Tryz.ntmps67
  go_wp2_with (go_at_call 69;refine (hck.out _ hX.out.bel).mono ?_;rintro e0 w1 ⟨rfl,hb1⟩;rw[hz.out];replace hX:=Lib.hid (hX.out.below hb1);clear hck hb1)
  go_loopw [34] (fun i wr=>∃ k:Nat,k≤lp.length∧i=.int .i64 k∧Hid ((lp.take k).any (Cal.badL l)=false)∧Hid (BxI w (.slice A l.length c) wr)) (fun i _=>lp.length-(intOf i).toNat)
  case atStart=>exact⟨0,Nat.zero_le _,rfl,rfl,hX⟩
  case round =>
   clear hX
   obtain⟨k,hk,rfl,hno,hX⟩:=hrel
   by_cases hlt:k<lp.length
   ·obtain⟨b,o,rfl,hbl,e0⟩:=intsI_at (hI.out.below hX.out.bel) hlt
    have hr:=hi _ (List.getElem_mem hlt)
    have hno2:=Cal.any_take (f:=Cal.badL l) hlt
    rw[hno.out,Bool.false_or] at hno2
    have hit:=Cal.any_hit (f:=Cal.badL l) hlt
    have hx0:=hX.out.a
    generalize lp[k]=n at *
    have hsize:=Lib.hid (fun W=>size_any n W hr.1 hr.2)
    have hu:IntKind.u64.wrap (l.length:Int)=(l.length:Int):=by rw[wrap_u64];omega
    by_cases hn0:n=0
    ·have hE3:Hid (E=6):=by show _=_;rw[hE2.out,if_pos (hit (by rw[hn0];simp[Cal.badL]))]
     have hS3:Hid (S=0):=by show _=_;rw[hS2.out,if_neg (by rw[hE3.out];decide)]
     clear hno2 hit hE2 hS2 hsize hr hu
     subst hn0
     go_wp2_with fail
     refine wp_region_held_drew (S:=Sx wr []) (by kernel_rfl) (Sx.mk (cs_nil _) (Below.refl _ _)).drew (fun hHeld=>?_)
     refine tkHx 0 38 ?_
     refine tkHx 1 39 ?_
     refine tkHx 2 40 ?_
     refine tkFx 3 41 ?_
     refine tkFx 4 42 ?_
     refine tkFx 5 43 ?_
     refine tkFx 6 44 ?_
     refine tkFx 7 45 ?_
     refine tkFx 8 46 ?_
     refine tkHx 9 47 ?_
     refine wpAnyH_done (by kernel_rfl) ?_ _
     (try simp only[apS,apN,siA,scZ,scS])
     have hb9:=Lib.hid (hX.out.below hHeld.bel)
     clear hHeld
     go_wp2_with fail
     go_ret2
     exact⟨by rw[hE3.out,hS3.out];rfl,hb9.out.bel⟩
    have hn0b:(n == 0)=false:=by simpa using hn0
    by_cases hbig:l.length<n.natAbs
    ·have hE3:Hid (E=6):=by show _=_;rw[hE2.out,if_pos (hit (by simp[Cal.badL];omega))]
     have hS3:Hid (S=0):=by show _=_;rw[hS2.out,if_neg (by rw[hE3.out];decide)]
     have hg:(l.length:Int)<(n.natAbs:Int):=by omega
     clear hno2 hit hE2 hS2 hr hbig
     generalize n.natAbs=na at *
     go_wp2_with fail
     refine wp_region_held_drew (S:=Sx wr [(w.heap.size,0,.slice A l.length c)]) (by kernel_rfl) (Sx.mk (by simp only[cs_iff_cons];exact⟨hx0,cs_nil _⟩) (Below.refl _ _)).drew (fun hHeld=>?_)
     refine tkHx 0 38 ?_
     refine tkHx 1 39 ?_
     refine tkHx 2 40 ?_
     refine tkHx 3 41 ?_
     refine tkHx 5 43 ?_
     refine tkHx 6 44 ?_
     refine tkHx 7 45 ?_
     (refine ratHx 4 (fun K hK=>?_);go_simp)
     refine (hsize.out _).mono ?_
     rintro e0 wz ⟨rfl,rfl⟩
     go_simp
     (refine hK.out _ _ hHeld (fun hHeld=>?_);clear hK K;(try simp only[apS,apN,siA,scZ,scS]))
     refine tkHx 8 46 ?_
     refine tkHx 9 47 ?_
     refine wpAnyH_done (by kernel_rfl) ?_ _
     (try simp only[apS,apN,siA,scZ,scS])
     have hb9:=Lib.hid (hX.out.below hHeld.bel)
     clear hHeld
     go_wp2_with fail
     go_ret2
     exact⟨by rw[hE3.out,hS3.out];rfl,hb9.out.bel⟩
    have hno3:Hid ((lp.take (k+1)).any (Cal.badL l)=false):=by show _=_;rw[hno2];simp[Cal.badL];omega
    have hg:¬(l.length:Int)<(n.natAbs:Int):=by omega
    clear hno2 hit hr hbig hno
    generalize n.natAbs=na at *
    go_wp2_with fail
    refine wp_region_held_drew (S:=Sx wr [(w.heap.size,0,.slice A l.length c)]) (by kernel_rfl) (Sx.mk (by simp only[cs_iff_cons];exact⟨hx0,cs_nil _⟩) (Below.refl _ _)).drew (fun hHeld=>?_)
    refine tkHx 0 38 ?_
    refine tkHx 1 39 ?_
    refine tkHx 2 40 ?_
    refine tkHx 3 41 ?_
    refine tkHx 5 43 ?_
    refine tkHx 6 44 ?_
    refine tkHx 7 45 ?_
    (refine ratHx 4 (fun K hK=>?_);go_simp)
    refine (hsize.out _).mono ?_
    rintro e0 wz ⟨rfl,rfl⟩
    go_simp
    (refine hK.out _ _ hHeld (fun hHeld=>?_);clear hK K;(try simp only[apS,apN,siA,scZ,scS]))
    refine tkHx 8 46 ?_
    refine tkHx 9 47 ?_
    refine wpAnyH_done (by kernel_rfl) ?_ _
    (try simp only[apS,apN,siA,scZ,scS])
    have hb9:=Lib.hid (hX.out.below hHeld.bel)
    clear hHeld
    go_wp2_with fail
    go_roundw
    case rel=>exact⟨k+1,by omega,by go_num,hno3,hb9⟩
    case measure=>simp[intOf];omega
   obtain rfl:k=lp.length:=by omega
   have hno2:lp.any (Cal.badL l)=false:=by have:=hno.out;rwa [List.take_length] at this
   have hE3:Hid (E=if Cal.chain (Cal.lastT 0 (lp.map (Cal.stepL l))) (lp.map (Cal.stepL l))=true then 0 else 29):=by show _=_;rw[hE2.out,hno2,if_neg (by decide)]
   have hst:Hid (∀ n W,n∈lp→BxI w (.slice A l.length c) W→Calls Tryz.prog 103 #[.int .i64 n,.pointer (some ⟨w.heap.size,0,none⟩)] W fun e w'=>e=.returned (.agg #[.int .i64 (Cal.stepL l n).f,.int .i64 (Cal.stepL l n).t,.int .i64 (Cal.stepL l n).d,.int .i64 (Cal.stepL l n).w])∧Below W.heap.size W w'):=fun n W hn hX=>stepG_any l A c n w.heap.size W hX.a hX.lt (hL.out.below hX.bel) hv.out (List.any_eq_false.1 hno2 n hn |> (by simpa using ·))
   have hbx:Hid (∀ n∈lp,-100000≤(Cal.stepL l n).d∧(Cal.stepL l n).d≤100000):=fun n hn=>Cal.stepL_box hv.out (List.any_eq_false.1 hno2 n hn |> (by simpa using ·))
   obtain⟨m,hm⟩:∃ m,lp.length=m+1:=⟨lp.length-1,by omega⟩
   have hml:m<lp.length:=by omega
   obtain⟨b,o,rfl,hbl,e0⟩:=intsI_at (hI.out.below hX.out.bel) hml
   have hm1:IntKind.i64.wrap ((lp.length:Int)-1)=(m:Int):=by rw[wrap_small (by omega) (by omega)];omega
   have hm2:(m:Int)<(lp.length:Int):=by omega
   have hlast:Hid (Cal.lastT 0 (lp.map (Cal.stepL l))=(Cal.stepL l lp[m]).t):=Cal.lastT_get (k:=m) (by rw[List.getElem?_map,List.getElem?_eq_getElem hml];rfl) (by rw[List.length_map];exact hm)
   have hmem:=Lib.hid (List.getElem_mem hml)
   generalize lp[m]=n at *
   have hxl:Hid ((lp.map (Cal.stepL l)).length=lp.length):=List.length_map ..
   have hxg:Hid (∀ k (h:k<lp.length),∃ hk:k<(lp.map (Cal.stepL l)).length,(lp.map (Cal.stepL l))[k]=Cal.stepL l lp[k]):=fun k h=>⟨by rw[List.length_map];exact h,List.getElem_map ..⟩
   clear hno hno2 hE2 hm hlt hk
   generalize lp.map (Cal.stepL l)=xs at *
   have hf1:=field_lev1
   go_wp2_with (go_at_call 103;refine (hst.out _ _ hmem.out hX.out).mono ?_;rintro e1 w3 ⟨rfl,hb3⟩;rw[←hlast.out];replace hX:=Lib.hid (hX.out.below hb3);clear hb3 e0)
   obtain⟨a0,ha0⟩:∃ a0,Cal.lastT 0 xs=a0:=⟨_,rfl⟩
   rw[ha0] at hE3 ⊢
   clear hmem ha0 hlast hm1 hm2 hml
   go_loopw [12,13,60] (fun av sv i wr=>∃ k:Nat,k≤lp.length∧i=.int .i64 k∧av=.int .i64 (Cal.lastT a0 (xs.take k))∧sv=.int .i64 (Cal.sumD (xs.take k))∧Hid (Cal.chain a0 (xs.take k)=true)∧Hid (-(100000*(k:Int))≤Cal.sumD (xs.take k)∧Cal.sumD (xs.take k)≤100000*(k:Int))∧Hid (BxI w (.slice A l.length c) wr)) (fun _ _ i _=>lp.length-(intOf i).toNat)
   case atStart=>exact⟨0,Nat.zero_le _,rfl,rfl,rfl,rfl,⟨by simp[Cal.sumD],by simp[Cal.sumD]⟩,hX⟩
   case round =>
    clear hX
    obtain⟨k,hk,rfl,rfl,rfl,hch,hsm,hX⟩:=hrel
    by_cases hlt:k<lp.length
    ·obtain⟨b',o',hA,hbl,e0⟩:=intsI_at (hI.out.below hX.out.bel) hlt
     cases hA
     obtain⟨hkx,hkg⟩:=hxg.out k hlt
     have hct:=Cal.chain_take (a:=a0) hkx
     have hlt2:=Cal.lastT_take (a:=a0) hkx
     have hsd:=Cal.sumD_take hkx
     have hbr:=fun h=>Cal.chain_break (a:=a0) hkx h
     rw[hkg] at hct hlt2 hsd hbr
     rw[hch.out,Bool.true_and] at hct
     have hd:=hbx.out _ (List.getElem_mem hlt)
     have hsm1:=hsm.out
     have hmem:=Lib.hid (List.getElem_mem hlt)
     have hstk:=Lib.hid (fun W hX=>hst.out _ W hmem.out hX)
     generalize lp[k]=n at *
     generalize Cal.stepL l n=x at *
     generalize Cal.lastT a0 (xs.take k)=at_ at *
     generalize Cal.sumD (xs.take k)=sm at *
     obtain⟨xf,xt,xd,xw⟩:=x
     dsimp only at *
     have hadd:IntKind.i64.wrap (sm+xd)=sm+xd:=wrap_small (by omega) (by omega)
     have hsm2:Hid (-(100000*((k+1:Nat):Int))≤Cal.sumD (xs.take (k+1))∧Cal.sumD (xs.take (k+1))≤100000*((k+1:Nat):Int)):=by
      show _∧_
      rw[hsd];omega
     by_cases heq:xf=at_
     ·have hch2:Hid (Cal.chain a0 (xs.take (k+1))=true):=by show _=_;rw[hct,heq];simp
      replace hlt2:=Lib.hid hlt2
      replace hsd:=Lib.hid hsd
      clear hct hbr hkx hkg hd hsm1 hsm
      subst heq
      go_wp2_with (go_at_call 103;refine (hstk.out _ hX.out).mono ?_;rintro e1 w3 ⟨rfl,hb3⟩;replace hX:=Lib.hid (hX.out.below hb3);clear hb3 e0)
      have y1:(w3.alloc (.cells #[.int .i64 xf,.int .i64 xt,.int .i64 xd,.int .i64 xw] 120)).cell? ⟨w3.heap.size,1,none⟩=some (.int .i64 xt):=by simp
      have y2:(w3.alloc (.cells #[.int .i64 xf,.int .i64 xt,.int .i64 xd,.int .i64 xw] 120)).cell? ⟨w3.heap.size,2,none⟩=some (.int .i64 xd):=by simp
      refine wp_region_held_drew (S:=Sx (w3.alloc (.cells #[.int .i64 xf,.int .i64 xt,.int .i64 xd,.int .i64 xw] 120)) [(w3.heap.size,1,.int .i64 xt),(w3.heap.size,2,.int .i64 xd)]) (by kernel_rfl) (Sx.mk (by simp only[cs_iff_cons];exact⟨y1,y2,cs_nil _⟩) (Below.refl _ _)).drew (fun hHeld=>?_)
      clear y1 y2
      refine tkHx 0 71 ?_
      refine tkHx 1 72 ?_
      refine tkHx 2 73 ?_
      refine tkHx 3 74 ?_
      refine tkHx 4 75 ?_
      refine tkHx 5 76 ?_
      refine tkHx 6 12 ?_
      refine tkHx 7 13 ?_
      refine wpAnyH_done (by kernel_rfl) ?_ _
      (try simp only[apS,apN,siA,scZ,scS])
      have hb9:=Lib.hid ((hX.out.below (below_alloc w3 (.cells #[.int .i64 xf,.int .i64 xt,.int .i64 xd,.int .i64 xw] 120))).below hHeld.bel)
      clear hHeld
      go_wp2_with fail
      go_roundw
      case rel=>exact⟨k+1,by omega,by go_num,by rw[hlt2.out],by rw[hsd.out],hch2,hsm2,hb9⟩
      case measure=>simp[intOf];omega
     have hch0:Cal.chain a0 xs=false:=hbr heq
     have hE4:Hid (E=29):=by show _=_;rw[hE3.out,hch0,if_neg (by decide)]
     have hS4:Hid (S=0):=by show _=_;rw[hS2.out,if_neg (by rw[hE4.out];decide)]
     clear hct hbr hkx hkg hd hsm1 hsm hlt2 hsd hch0
     go_wp2_with (go_at_call 103;refine (hstk.out _ hX.out).mono ?_;rintro e1 w3 ⟨rfl,hb3⟩;replace hX:=Lib.hid (hX.out.below hb3);clear hb3 e0)
     go_ret2
     exact⟨by rw[hE4.out,hS4.out];rfl,below_step hX.out.bel (below_alloc _ _)⟩
    obtain rfl:k=lp.length:=by omega
    have htk:xs.take lp.length=xs:=List.take_of_length_le (Nat.le_of_eq hxl.out)
    rw[htk] at hch hsm ⊢
    have hE4:Hid (E=0):=by show _=_;rw[hE3.out,if_pos hch.out]
    have hS4:Hid (S=Cal.sumD xs):=by show _=_;rw[hS2.out,if_pos hE4.out]
    clear hch hsm htk
    go_wp2_with fail
    go_ret2
    exact⟨by rw[hE4.out,hS4.out];rfl,hX.out.bel⟩
 rw[if_neg hz] at hE hS
 subst hE hS
 replace hL:=Lib.hid hL
 have h0b:(Cal.netE N l == 0)=false:=by simpa using hz
 have h0c:(Cal.netE N l != 0)=true:=by simpa using hz
 go_enter Tryz.func67,Tryz.ntmps67
 go_wp2_with (go_at_call 69;refine (hck.out _ hX.out.bel).mono ?_;rintro e0 w1 ⟨rfl,hb1⟩;replace hX:=Lib.hid (hX.out.below hb1);clear hck hb1)
 go_ret2
 exact⟨rfl,hX.out.bel⟩
end Go.Proofs.YthfokpchdlcidaaGreat
namespace Go.Proofs.YthfokpchdlcidaaGreat.Cal
def bigH (h:Int × Int):Bool:=decide (2000000*h.2<(h.1.natAbs:Int))
def hErr (p:Int) (h:Int × Int):Int:=if h.2<1 then 3 else if Int.gcd h.1 h.2≠1 then 3 else if bigH h=true then 2 else if (4000000000:Int).tdiv p<more p h.2 then 8 else 0
def scl:Int→List (Int × Int)→Int × Int
 | p,[]=>(0,p)
 | p,h :: r=>if hErr p h=0 then scl (p*more p h.2) r else (hErr p h,0)
def sclE (n:Int) (l:List (Int × Int)):Int:=if (l.length:Int)=n then (scl 1 l).1 else 10
def sclP (n:Int) (l:List (Int × Int)):Int:=if (l.length:Int)=n then (if (scl 1 l).1=0 then (scl 1 l).2 else 0) else 0
theorem hErr_zero {p:Int} {h:Int × Int} (e:hErr p h=0):1≤h.2∧Int.gcd h.1 h.2=1∧bigH h=false∧more p h.2≤(4000000000:Int).tdiv p:=by
 unfold hErr at e
 split at e
 ·cases e
 split at e
 ·cases e
 split at e
 ·cases e
 split at e
 ·cases e
 rename_i h1 h2 h3 h4
 exact⟨by omega,by simpa using h2,by simpa using h3,by omega⟩
theorem part_le {p d:Int} (hp:1≤p) (hd:1≤d) (h:more p d≤(4000000000:Int).tdiv p):1≤p*more p d∧p*more p d≤4000000000:=by
 have h1:=more_pos (parts:=p) (den:=d) (by omega)
 have h2:p*(4000000000:Int).tdiv p≤4000000000:=by
  rw[Int.tdiv_eq_ediv_of_nonneg (by omega)]
  exact Int.mul_ediv_self_le (by omega)
 have h3:=Int.mul_le_mul_of_nonneg_left h (by omega:0≤p)
 have h4:=Int.mul_pos (by omega:0<p) h1
 omega
theorem scl_good:∀ (l:List (Int × Int)) (p:Int),1≤p→p≤4000000000→(scl p l).1=0→1≤(scl p l).2∧(scl p l).2≤4000000000∧p ∣ (scl p l).2∧∀ h∈l,1≤h.2∧Int.gcd h.1 h.2=1∧bigH h=false∧h.2 ∣ (scl p l).2
 | [],p,h1,h2,_=>⟨h1,h2,Int.dvd_refl _,fun h hh=>by cases hh⟩
 | h :: r,p,h1,h2,e=>by
  by_cases hz:hErr p h=0
  ·obtain⟨a,b,c,d⟩:=hErr_zero hz
   obtain⟨q1,q2⟩:=part_le h1 a d
   have e':scl p (h :: r)=scl (p*more p h.2) r:=if_pos hz
   rw[e'] at e ⊢
   obtain⟨g1,g2,g3,g4⟩:=scl_good r (p*more p h.2) q1 q2 e
   obtain⟨d1,d2⟩:=dvd_parts_more (parts:=p) (den:=h.2)
   refine⟨g1,g2,Int.dvd_trans d1 g3,fun x hx=>?_⟩
   rcases List.mem_cons.1 hx with rfl | hx
   ·exact⟨a,b,c,Int.dvd_trans d2 g3⟩
   exact g4 x hx
  have e':scl p (h :: r)=(hErr p h,0):=if_neg hz
  rw[e'] at e
  exact absurd e hz
theorem sclH_box {p:Int} {h:Int × Int} (hp:1≤p) (hp2:p≤4000000000) (hd:1≤h.2) (hb:bigH h=false):-8000000000000000≤sclH p h∧sclH p h≤8000000000000000:=by
 have hb:=of_decide_eq_false hb
 have q0:0≤p.tdiv h.2:=Int.tdiv_nonneg (by omega) (by omega)
 have q1:h.2*p.tdiv h.2≤p:=by
  rw[Int.tdiv_eq_ediv_of_nonneg (by omega)]
  exact Int.mul_ediv_self_le (by omega)
 unfold sclH
 generalize p.tdiv h.2=q at *
 have h1:h.1≤2000000*h.2:=by omega
 have h2:-(2000000*h.2)≤h.1:=by omega
 have h3:=Int.mul_le_mul_of_nonneg_right h1 q0
 have h4:=Int.mul_le_mul_of_nonneg_right h2 q0
 have e1:2000000*h.2*q=2000000*(h.2*q):=by rw[Int.mul_assoc]
 have e2:-(2000000*h.2)*q=-(2000000*(h.2*q)):=by rw[Int.neg_mul,e1]
 omega
def hAt0 (l:List (Int × Int)) (i:Int):Int × Int:=l[i.toNat]?.getD (0,1)
def resV (p:Int) (fr:List (Int × Int)) (x:Lev):Int:=x.d*p-sclH p (hAt0 fr x.t)+sclH p (hAt0 fr x.f)
theorem sclE_zero {n:Int} {l:List (Int × Int)} (h:sclE n l=0):(l.length:Int)=n∧sclP n l=(scl 1 l).2∧1≤sclP n l∧sclP n l≤4000000000∧∀ h∈l,1≤h.2∧Int.gcd h.1 h.2=1∧bigH h=false∧h.2 ∣ sclP n l:=by
 unfold sclE at h
 split at h
 ·rename_i hl
  have hg:=scl_good l 1 (by decide) (by decide) h
  have e:sclP n l=(scl 1 l).2:=by unfold sclP;rw[if_pos hl,if_pos h]
  rw[e]
  exact⟨hl,rfl,hg.1,hg.2.1,hg.2.2.2⟩
 cases h
theorem hAt0_box {n:Int} {l:List (Int × Int)} (he:sclE n l=0) (i:Int):-8000000000000000≤sclH (sclP n l) (hAt0 l i)∧sclH (sclP n l) (hAt0 l i)≤8000000000000000:=by
 obtain⟨_,_,p1,p2,hall⟩:=sclE_zero he
 unfold hAt0
 cases h:l[i.toNat]? with
 | none=>exact sclH_box p1 p2 (by decide) (by decide)
 | some x =>
  obtain⟨a,_,b,_⟩:=hall x (List.mem_of_getElem? h)
  exact sclH_box p1 p2 a b
theorem resV_box {n:Int} {l:List Lev} {fr:List (Int × Int)} (hz:netE n l=0) (he:sclE n fr=0):∀ x∈l,-16400000000000000≤resV (sclP n fr) fr x∧resV (sclP n fr) fr x≤16400000000000000:=fun x hx=>by
 have hl:=levE_zero ((netE_zero hz).2.2.2.1 x hx)
 obtain⟨_,_,p1,p2,_⟩:=sclE_zero he
 have h1:=hAt0_box he x.t
 have h2:=hAt0_box he x.f
 have h3:=mul_le_of (a:=x.d) (b:=sclP n fr) (M:=100000) (N:=4000000000) (by omega) (by omega) (by omega) (by omega)
 unfold resV
 omega
end Go.Proofs.YthfokpchdlcidaaGreat.Cal
