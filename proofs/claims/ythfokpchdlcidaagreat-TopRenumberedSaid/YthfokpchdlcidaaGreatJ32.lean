/- What the statements rest on: definitions and walks, part 32. -/
import Derived.Test.YthfokpchdlcidaaGreatJ31
import Derived.Ground.SlsfProg
import Derived.Shelf.SlSortCmp.NoneTotal
set_option maxRecDepth 100000
set_option maxHeartbeats 16000000
set_option linter.unusedSimpArgs false
set_option linter.unusedVariables false
namespace Go.Proofs.YthfokpchdlcidaaGreat
open Go Go.RowKit Go.Sort
theorem HasText_any (N:Option Addr) (d:Nat) (zs:List Cal.Txt) (s:ByteArray) (w:World) (h:RowsAt w N 1 (txtRows zs)) (hz:zs.length≤1000000) :
  Calls Tryz.prog 31 #[.slice N zs.length d,.string s] w fun e w'=>e=.returned (.bool (decide (s.toList∈zs)))∧Below w.heap.size w w':=by
 have h':=Lib.hid h
 have hn0:Hid (s.toList∉zs.take 0):=by show _∉_;simp
 have hb0:Hid (Below w.heap.size w w):=Below.refl _ _
 clear h
 go_enter Tryz.func31,Tryz.ntmps31
 go_wp2_with fail
 go_loopw [5] (fun i wr=>∃ k:Nat,k≤zs.length∧i=.int .i64 k∧Hid (s.toList∉zs.take k)∧Hid (Below w.heap.size w wr)) (fun i _=>zs.length-(intOf i).toNat)
 case atStart=>exact⟨0,Nat.zero_le _,rfl,hn0,hb0⟩
 case round =>
  clear hn0 hb0
  obtain⟨k,hk,rfl,hn,hb⟩:=hrel
  by_cases hlt:k<zs.length
  ·obtain⟨b,o,rfl,_,s1,hs1,c0⟩:=txtRow_at (h'.out.below hb.out) hlt
   have htk:Hid (zs.take (k+1)=zs.take k ++ [zs[k]]):=by show _=_;rw[List.take_succ_eq_append_getElem hlt]
   have hmem:Hid (zs[k]∈zs):=List.getElem_mem hlt
   have hki:(k:Int)<(zs.length:Int):=by omega
   generalize zs[k]=x at *
   cases he:(s1.toList == s.toList)
   ·have hnx:Hid (s.toList∉zs.take (k+1)):=by
     show _∉_
     rw[htk.out,List.mem_append,List.mem_singleton]
     rintro (h | h)
     ·exact hn.out h
     rw[hs1,←h] at he;simp at he
    clear hs1 hn htk hmem
    go_wp2_with fail
    go_roundw
    case rel=>exact⟨k+1,by omega,by go_num,hnx,hb⟩
    case measure=>simp[intOf];omega
   have hin:Hid (decide (s.toList∈zs)=true):=by
    show _=_
    rw[decide_eq_true_iff,←eq_of_beq he,hs1];exact hmem.out
   clear hs1 hn htk hmem
   go_wp2_with fail
   go_ret
   exact⟨by rw[hin.out];rfl,hb.out⟩
  have hno:Hid (decide (s.toList∈zs)=false):=by
   show _=_
   rw[decide_eq_false_iff_not]
   have:=hn.out
   rw[List.take_of_length_le (by omega)] at this
   exact this
  clear hn
  go_wp2_with fail
  go_ret
  exact⟨by rw[hno.out];rfl,hb.out⟩
end Go.Proofs.YthfokpchdlcidaaGreat
namespace Go.Proofs.YthfokpchdlcidaaGreat
open Go Go.RowKit Go.Sort
def rlB (a b c d:ByteArray):Bool:=Op.bytesLess a.toList c.toList || ((a.toList == c.toList) && Op.bytesLess b.toList d.toList)
theorem rlB_iff {a b c d:ByteArray} {x y:Rn} (h1:a.toList=x.old) (h2:b.toList=x.new) (h3:c.toList=y.old) (h4:d.toList=y.new):rlB a b c d=decide (Cal.rlt x y):=by
 unfold rlB
 rw[bytesLess_eq,bytesLess_eq,h1,h2,h3,h4,Bool.eq_iff_iff,Bool.or_eq_true,Bool.and_eq_true,decide_eq_true_iff,decide_eq_true_iff,beq_iff_eq,decide_eq_true_iff]
 rfl
theorem lessB_any (a b c d:ByteArray) (w:World):Calls Tryz.prog 53 #[.agg #[.string a,.string b],.agg #[.string c,.string d]] w fun e w'=>e=.returned (.bool (rlB a b c d))∧Below w.heap.size w w':=by
 have hb:=Lib.hid (below_step (below_alloc w (.cells #[.string a,.string b] 69)) (below_alloc _ (.cells #[.string c,.string d] 69)))
 have hR:Hid (rlB a b c d=(Op.bytesLess a.toList c.toList || ((a.toList == c.toList) && Op.bytesLess b.toList d.toList))):=rfl
 rw[hR.out]
 clear hR
 cases h1:Op.bytesLess a.toList c.toList
 ·cases h2:(a.toList == c.toList)
  ·go_enter Tryz.func53,Tryz.ntmps53
   go_wp2_with fail
   go_ret
   exact⟨rfl,hb.out⟩
  cases h3:Op.bytesLess b.toList d.toList
  ·go_enter Tryz.func53,Tryz.ntmps53
   go_wp2_with fail
   go_ret
   exact⟨rfl,hb.out⟩
  go_enter Tryz.func53,Tryz.ntmps53
  go_wp2_with fail
  go_ret
  exact⟨rfl,hb.out⟩
 go_enter Tryz.func53,Tryz.ntmps53
 go_wp2_with fail
 go_ret
 exact⟨rfl,hb.out⟩
theorem rnLess_any (a b c d:ByteArray) (x y:Rn) (w:World) (h1:a.toList=x.old) (h2:b.toList=x.new) (h3:c.toList=y.old) (h4:d.toList=y.new):Calls Tryz.prog 53 #[.agg #[.string a,.string b],.agg #[.string c,.string d]] w fun e w'=>e=.returned (.bool (decide (Cal.rlt x y)))∧Below w.heap.size w w':=by
 rw[←rlB_iff h1 h2 h3 h4]
 exact lessB_any a b c d w
theorem CheckNumbersR_any (A:Option Addr) (c:Nat) (l:List Rn) (w:World) (hl:Rns w A l) :
  Calls Tryz.prog 19 #[.slice A l.length c] w fun e w'=>e=.returned (.int .i64 (Cal.numE l))∧Below w.heap.size w w':=by
 have hb0:Hid (Below w.heap.size w w):=Below.refl _ _
 by_cases hbig:200<l.length
 ·have hR:Cal.numE l=8:=by unfold Cal.numE;rw[if_pos hbig]
  have hbi:200<(l.length:Int):=by omega
  rw[hR]
  clear hR hl
  go_enter Tryz.func19,Tryz.ntmps19
  go_wp2_with fail
  go_ret
  exact⟨rfl,hb0.out⟩
 obtain⟨R,hRR⟩:∃ R,Cal.numE l=R:=⟨_,rfl⟩
 have hbi:¬200<(l.length:Int):=by omega
 have hR:Hid (R=Cal.numF (Cal.befR l 0) (l.drop 0)):=by
  show _=_
  rw[←hRR]
  unfold Cal.numE Cal.befR
  rw[if_neg hbig]
  rfl
 rw[hRR]
 clear hRR
 replace hl:=Lib.hid hl
 go_enter Tryz.func19,Tryz.ntmps19
 go_wp2_with fail
 go_loopw [3] (fun i wr=>∃ k:Nat,k≤l.length∧i=.int .i64 k∧Hid (R=Cal.numF (Cal.befR l k) (l.drop k))∧Hid (Below w.heap.size w wr)) (fun i _=>l.length-(intOf i).toNat)
 case atStart=>exact⟨0,Nat.zero_le _,rfl,hR,hb0⟩
 case round =>
  clear hR hb0
  obtain⟨k,hk,rfl,hR,hb⟩:=hrel
  by_cases hlt:k<l.length
  ·have hk':l[k]?=some l[k]:=List.getElem?_eq_getElem hlt
   have hd:=Lib.hid (List.drop_eq_getElem_cons hlt)
   have hln:=hl.out.len _ (List.getElem_mem hlt)
   have hbs:Cal.befR l (k+1)=some l[k]:=by rw[Cal.befR_succ];exact hk'
   have hR':=hR.out
   rw[hd.out,Cal.numF_cons,←hbs] at hR'
   replace hR:=Lib.hid hR'
   clear hR' hd hbs
   generalize l[k]=x at *
   obtain⟨b,o,rfl,hbl,ao,an,ha1,ha2,c0,c1⟩:=rn_at (hl.out.rows.below hb.out) hk'
   have hs1:ao.size≤maxLen:=by rw[size_len ha1];exact hln.1
   have hs2:an.size≤maxLen:=by rw[size_len ha2];exact hln.2
   have hn1:=Lib.hid (fun W=>IsName_any ao W hs1)
   have hn2:=Lib.hid (fun W=>IsName_any an W hs2)
   rw[←nmT_of,ha1] at hn1
   rw[←nmT_of,ha2] at hn2
   have hki:(k:Int)<(l.length:Int):=by omega
   have m1:Hid True:=trivial
   clear hk' hln hs1 hs2
   cases h1:nmT x.old
   ·rw[h1] at hn1
    have hfin:Hid (R=4):=by show _=_;rw[hR.out,h1];rfl
    clear hR ha1 ha2
    go_wp2_with (go_at_call 47;(first | (clear m1;refine (hn1.out _).mono ?_;rintro e0 wn ⟨rfl,rfl⟩) | (refine (hn2.out _).mono ?_;rintro e0 wn ⟨rfl,rfl⟩)))
    go_ret
    exact⟨ret_int hfin.out.symm,hb.out⟩
   cases h2:nmT x.new
   ·rw[h1] at hn1
    rw[h2] at hn2
    have hfin:Hid (R=4):=by show _=_;rw[hR.out,h1,h2];rfl
    clear hR ha1 ha2
    go_wp2_with (go_at_call 47;(first | (clear m1;refine (hn1.out _).mono ?_;rintro e0 wn ⟨rfl,rfl⟩) | (refine (hn2.out _).mono ?_;rintro e0 wn ⟨rfl,rfl⟩)))
    go_ret
    exact⟨ret_int hfin.out.symm,hb.out⟩
   rw[h1] at hn1
   rw[h2] at hn2
   have hR':R=if Cal.folB (Cal.befR l k) x then Cal.numF (Cal.befR l (k+1)) (l.drop (k+1)) else 9:=by rw[hR.out,h1,h2];rfl
   replace hR:=Lib.hid hR'
   clear hR' h1 h2
   by_cases hk0:k=0
   ·subst hk0
    rw[Nat.zero_mul,Nat.add_zero] at c0 c1
    have hnx:Hid (R=Cal.numF (Cal.befR l (0+1)) (l.drop (0+1))):=by show _=_;rw[hR.out];rfl
    clear hR ha1 ha2
    go_wp2_with (go_at_call 47;(first | (clear m1;refine (hn1.out _).mono ?_;rintro e0 wn ⟨rfl,rfl⟩) | (refine (hn2.out _).mono ?_;rintro e0 wn ⟨rfl,rfl⟩)))
    refine wp_region_held_drew (S:=Sx wr []) (by kernel_rfl) (Sx.mk (cs_nil _) (Below.refl _ _)).drew (fun hHeld=>?_)
    clear c0 c1
    refine tkHx 0 29 ?_
    refine tkHx 1 30 ?_
    refine tkHx 2 31 ?_
    refine tkFx 3 32 ?_
    refine tkFx 4 33 ?_
    refine tkFx 5 34 ?_
    refine tkFx 6 35 ?_
    refine tkFx 7 36 ?_
    refine tkFx 8 37 ?_
    refine tkFx 9 38 ?_
    refine tkFx 10 39 ?_
    refine tkFx 11 40 ?_
    refine tkFx 12 41 ?_
    refine tkFx 13 42 ?_
    refine tkHx 14 43 ?_
    refine wpAnyH_done (by kernel_rfl) ?_ _
    (try simp only[apS,apN,siA,scZ,scS])
    have hbe:=Lib.hid (hb.out.trans (hHeld.bel.mono hb.out.size))
    clear hHeld
    go_wp2_with fail
    go_roundw
    case rel=>exact⟨1,by omega,by go_num,hnx,hbe⟩
    case measure=>simp[intOf];omega
   have hq1:k-1<l.length:=by omega
   have hbf:Cal.befR l k=some l[k-1]:=by unfold Cal.befR;rw[if_neg hk0];exact List.getElem?_eq_getElem hq1
   have hR':=hR.out
   rw[hbf] at hR'
   replace hR:=Lib.hid hR'
   have hj':l[k-1]?=some l[k-1]:=List.getElem?_eq_getElem hq1
   have hrows:=Lib.hid (fun W (hW:Below w.heap.size w W)=>rn_at (hl.out.rows.below hW) hj')
   clear hR' hbf hj'
   generalize l[k-1]=y at *
   have p1:IntKind.i64.wrap ((k:Int)-1)=(k:Int)-1:=wrap_small (by omega) (by omega)
   have p2:(1:Int)≤(k:Int):=by omega
   have p3:(0:Int)<(k:Int):=by omega
   have p4:(k:Int)-1<(l.length:Int):=by omega
   have p5:((k:Int)-1).toNat=k-1:=by omega
   have p6:(0:Int)≤(k:Int)-1:=by omega
   have p7:0<k:=by omega
   have p8:1≤k:=by omega
   obtain⟨b',o',hA',hbl',bo,bn,hb1,hb2,d0,d1⟩:=hrows.out _ hb.out
   cases hA'
   have hcm:=Lib.hid (fun W=>rnLess_any bo bn ao an y x W hb1 hb2 ha1 ha2)
   have hfo:Hid (Cal.folB (some y) x=decide (Cal.rlt y x)):=rfl
   clear ha1 ha2 hb1 hb2 hrows
   generalize decide (Cal.rlt y x)=v at *
   go_wp2_with (go_at_call 47;(first | (clear m1;refine (hn1.out _).mono ?_;rintro e0 wn ⟨rfl,rfl⟩) | (refine (hn2.out _).mono ?_;rintro e0 wn ⟨rfl,rfl⟩)))
   refine wp_region_held_drew (S:=Sx wr [(b,o+(k-1)*2,.string bo),(b,o+(k-1)*2+1,.string bn),(b,o+k*2,.string ao),(b,o+k*2+1,.string an)]) (by kernel_rfl) (Sx.mk (by simp only[cs_iff_cons];exact⟨d0,d1,c0,c1,cs_nil _⟩) (Below.refl _ _)).drew (fun hHeld=>?_)
   clear d0 d1 c0 c1
   (refine wpAnyH_hide (fun _ _ _ _ _ h=>h) (fun Q0 hp0 hQ0=>?_))
   refine tkQx 0 29 hp0 ?_
   refine tkQx 1 30 hp0 ?_
   refine tkQx 2 31 hp0 ?_
   refine tkQx 3 32 hp0 ?_
   refine tkQx 4 33 hp0 ?_
   refine tkQx 5 34 hp0 ?_
   refine tkQx 6 35 hp0 ?_
   refine tkQx 7 36 hp0 ?_
   refine tkQx 8 37 hp0 ?_
   refine tkQx 9 38 hp0 ?_
   refine tkQx 10 39 hp0 ?_
   refine tkQx 11 40 hp0 ?_
   (refine ratHx 12 (fun K hK=>?_);go_simp)
   refine (hcm.out _).mono ?_
   rintro e wn ⟨rfl,hbn⟩
   go_simp
   (refine hK.out _ _ (hHeld.step hbn) (fun hHeld=>?_);clear hK K;(try simp only[apS,apN,siA,scZ,scS]))
   refine tkQx 13 42 hp0 ?_
   refine tkQx 14 43 hp0 ?_
   refine wpAnyH_done (by kernel_rfl) ?_ _
   (try simp only[apS,apN,siA,scZ,scS])
   (obtain rfl:=hQ0.out;clear hp0)
   have hbe:=Lib.hid (hb.out.trans (hHeld.bel.mono hb.out.size))
   clear hHeld hcm
   cases v
   ·have hfin:Hid (R=9):=by show _=_;rw[hR.out,hfo.out];rfl
    clear hR hfo
    go_wp2_with fail
    go_ret
    exact⟨ret_int hfin.out.symm,hbe.out⟩
   have hnx:Hid (R=Cal.numF (Cal.befR l (k+1)) (l.drop (k+1))):=by show _=_;rw[hR.out,hfo.out];rfl
   clear hR hfo
   go_wp2_with fail
   go_roundw
   case rel=>exact⟨k+1,by omega,by go_num,hnx,hbe⟩
   case measure=>simp[intOf];omega
  have hfin:Hid (R=0):=by show _=_;rw[hR.out,List.drop_of_length_le (by omega)];cases Cal.befR l k <;> rfl
  have hge:l.length=k:=by omega
  clear hR
  go_wp2_with fail
  go_ret
  exact⟨ret_int hfin.out.symm,hb.out⟩
end Go.Proofs.YthfokpchdlcidaaGreat
namespace Go.Proofs.YthfokpchdlcidaaGreat
open Go Go.RowKit Go.Shelf
structure RB where
 old:ByteArray
 new:ByteArray
def rb0:RB:=⟨⟨#[]⟩,⟨#[]⟩⟩
def rbR (x:RB):List Value:=[.string x.old,.string x.new]
def RB.txt (x:RB):Rn:=⟨x.old.toList,x.new.toList⟩
def rbB (p q:RB):Bool:=p.old.toList == q.old.toList && p.new.toList == q.new.toList
theorem bytes_ext {a b:ByteArray} (h:a.toList=b.toList):a=b:=by
 rw[ByteArray.toList_eq,ByteArray.toList_eq] at h
 cases a;cases b
 rw[ByteArray.mk.injEq]
 exact Array.toList_inj.1 h
theorem rbB_iff {p q:RB}:rbB p q=true↔p=q:=by
 unfold rbB
 rw[Bool.and_eq_true,beq_iff_eq,beq_iff_eq]
 constructor
 ·rintro⟨h1,h2⟩
  cases p;cases q
  rw[RB.mk.injEq]
  exact⟨bytes_ext h1,bytes_ext h2⟩
 rintro rfl;exact⟨rfl,rfl⟩
instance instRB:DecidableEq RB:=fun a b=>decidable_of_iff (rbB a b=true) rbB_iff
def rbAt (l:List RB) (i:Nat):RB:=l[i]?.getD rb0
theorem rbAt_get {l:List RB} {i:Nat} (h:i<l.length):l[i]?=some (rbAt l i):=by unfold rbAt;rw[List.getElem?_eq_getElem h];rfl
def AtN (w:World) (M:Nat) (l:List RB):Prop:=∃ cs:List Value,BoxAt w M cs∧l.length*2≤cs.length∧∀ (i:Nat) (q:RB),l[i]?=some q→cs[i*2]?=some (.string q.old)∧cs[i*2+1]?=some (.string q.new)
section
variable {w : World} {M : Nat} {l : List RB}
theorem AtN.lt (h:AtN w M l):M<w.heap.size:=by obtain⟨cs,hb,_⟩:=h;exact hb.lt
theorem AtN.below {w':World} (h:AtN w M l) (hb:Below w.heap.size w w'):AtN w' M l:=by
 obtain⟨cs,h0,h1,h2⟩:=h
 exact⟨cs,h0.below hb,h1,h2⟩
theorem AtN.at_ (h:AtN w M l) {i:Nat} (hi:i<l.length):w.cell? ⟨M,i*2,none⟩=some (.string (rbAt l i).old)∧w.cell? ⟨M,i*2+1,none⟩=some (.string (rbAt l i).new):=by
 obtain⟨cs,hb,h1,h2⟩:=h
 obtain⟨c0,c1⟩:=h2 i _ (rbAt_get hi)
 exact⟨hb.c _ _ c0,hb.c _ _ c1⟩
theorem AtN.free (h:AtN w M l) {i:Nat} (hi:i<l.length):w.frozen? ⟨M,i*2,none⟩=false∧w.frozen? ⟨M,i*2+1,none⟩=false:=by
 obtain⟨cs,hb,h1,h2⟩:=h
 exact⟨hb.free _ (by omega),hb.free _ (by omega)⟩
theorem AtN.set (h:AtN w M l) {i:Nat} (hi:i<l.length) (q:RB):AtN ((w.setCell ⟨M,i*2,none⟩ (.string q.old)).setCell ⟨M,i*2+1,none⟩ (.string q.new)) M (l.set i q):=by
 obtain⟨cs,hb,h1,h2⟩:=h
 refine⟨_,(hb.set (i*2) (.string q.old) (by omega)).set (i*2+1) (.string q.new) (by rw[List.length_set];omega),by simp;omega,fun k r hr=>?_⟩
 by_cases e:k=i
 ·subst e
  rw[List.getElem?_set_self hi] at hr
  cases hr
  constructor
  ·rw[List.getElem?_set_ne (by omega),List.getElem?_set_self (by omega)]
  rw[List.getElem?_set_self (by rw[List.length_set];omega)]
 rw[List.getElem?_set_ne (by omega)] at hr
 rw[List.getElem?_set_ne (by omega),List.getElem?_set_ne (by omega),List.getElem?_set_ne (by omega),List.getElem?_set_ne (by omega)]
 exact h2 k r hr
theorem AtN.rows (h:AtN w M l):RowsAt w (some ⟨M,0,none⟩) 2 (l.map rbR):=fun j r hr=>by
 rw[List.getElem?_map] at hr
 cases hq:l[j]? with
 | none=>rw[hq] at hr;cases hr
 | some q =>
  rw[hq] at hr
  cases hr
  have hj:j<l.length:=(List.getElem?_eq_some_iff.1 hq).1
  obtain⟨c0,c1⟩:=h.at_ hj
  have hq':rbAt l j=q:=by unfold rbAt;rw[hq];rfl
  rw[hq'] at c0 c1
  refine⟨M,0,rfl,h.lt,fun i v hv=>?_⟩
  rw[Nat.zero_add]
  match i,hv with
  | 0,hv=>cases hv;exact c0
  | 1,hv=>cases hv;exact c1
end
def kpN (l:List RB):Nat→List RB
 | 0=>[]
 | m+1=>if m=0∨rbAt l m≠rbAt l (m-1) then kpN l m ++ [rbAt l m] else kpN l m
theorem kpN_all {l:List RB}:∀ {k:Nat},k≤l.length→(∀ i,0<i→i<k→rbAt l i≠rbAt l (i-1))→kpN l k=l.take k
 | 0,_,_=>rfl
 | k+1,hk,h=>by
  have ih:=kpN_all (k:=k) (by omega) (fun i h0 h1=>h i h0 (by omega))
  unfold kpN
  rw[if_pos,ih]
  ·rw[List.take_succ_eq_append_getElem (by omega)]
   congr 1
   unfold rbAt
   rw[List.getElem?_eq_getElem (by omega)]
   rfl
  by_cases h0:k=0
  ·exact .inl h0
  exact .inr (h k (by omega) (by omega))
theorem undRbs:(Tryz.prog).underlying 46=some (.slice 69):=Tryz.underlying46
theorem szRb (w:World):(Go.sizeOf ((Tryz.prog).elem 46)).run Tryz.prog w=.ok 2 w:=by kernel_rfl
theorem rb_eql (p q:RB) (w:World):(binOp .eql 69 (.agg #[.string p.old,.string p.new]) (.agg #[.string q.old,.string q.new])).run Tryz.prog w=.ok (.bool (rbB p q)) w:=by
 have hu:(Tryz.prog).underlying 69=_:=Tryz.underlying69
 have hs:(Tryz.prog).underlying 9=_:=Tryz.underlying9
 go_simp
 unfold rbB
 by_cases hx:p.old.toList=q.old.toList
 ·rw[if_pos hx,hx,beq_self_eq_true,Bool.true_and]
  by_cases hy:p.new.toList=q.new.toList
  ·rw[if_pos hy,hy,beq_self_eq_true]
  rw[if_neg hy,beq_false_of_ne hy]
 rw[if_neg hx,beq_false_of_ne hx,Bool.false_and]
theorem rb_neq (p q:RB) (w:World):(binOp .neq 69 (.agg #[.string p.old,.string p.new]) (.agg #[.string q.old,.string q.new])).run Tryz.prog w=.ok (.bool (!rbB p q)) w:=by
 have hu:(Tryz.prog).underlying 69=_:=Tryz.underlying69
 have hs:(Tryz.prog).underlying 9=_:=Tryz.underlying9
 go_simp
 unfold rbB
 by_cases hx:p.old.toList=q.old.toList
 ·rw[hx,beq_self_eq_true,Bool.true_and]
  by_cases hy:p.new.toList=q.new.toList
  ·rw[hy,beq_self_eq_true];simp
  rw[beq_false_of_ne hy];simp[hy]
 rw[beq_false_of_ne hx,Bool.false_and];simp[hx]
theorem cutFromN {M n c k:Nat} (hk:k<n) (hc:n≤c) (w':World):(Instr.slice 46 (.slice (some ⟨M,0,none⟩) n c) (some (.int .i64 k)) none none).run Tryz.prog w'=.ok (.slice (some ⟨M,k*2,none⟩) (n-k) (c-k)) w':=by
 rw[run_slice_l w' 46 (some ⟨M,0,none⟩) n c undRbs .i64 k (by omega) (by omega),szRb]
 simp only[Result.andThen,sliced,Int.toNat_natCast]
 rw[if_neg (by omega),Option.map_some,addr_add,Nat.zero_add]
theorem cutToN {M n c k:Nat} (hk:k≤n) (hc:n≤c) (hc0:0<c) (w':World):(Instr.slice 46 (.slice (some ⟨M,0,none⟩) n c) none (some (.int .i64 k)) none).run Tryz.prog w'=.ok (.slice (some ⟨M,0,none⟩) k c) w':=by
 rw[run_slice_h w' 46 (some ⟨M,0,none⟩) n c undRbs .i64 k (by omega) (by omega),szRb]
 simp only[Result.andThen,sliced,Int.toNat_natCast]
 rw[if_neg (by omega),Option.map_some,addr_add]
 simp
theorem AtN.clear {w:World} {M:Nat} {cur:List RB} {n k c:Nat} (h:AtN w M cur) (hl:cur.length=n) (hk:k<n) :
  ∃ w',(∀ ty,(Builtin.clear_ #[46] ty #[.slice (some ⟨M,k*2,none⟩) (n-k) c]).run Tryz.prog w=.ok (.tuple #[]) w')∧AtN w' M (cur.take k)∧w.grownBy w' (some M):=by
 obtain⟨cs,hb,h1,h2⟩:=h
 obtain⟨vs,hvs⟩:∃ vs,vs=(Builtin.zeroCells #[.string ⟨#[]⟩,.string ⟨#[]⟩] (n-k)).toList:=⟨_,rfl⟩
 have hlen:vs.length=(n-k)*2:=by rw[hvs];simp[Builtin.zeroCells]
 have hone:∀ v∈vs,v.oneCell'=true:=fun v hv=>by
  rw[hvs] at hv
  simp only[Builtin.zeroCells,Array.toList_map,List.mem_map] at hv
  obtain⟨i,_,rfl⟩:=hv
  have:i % 2=0∨i % 2=1:=by omega
  rcases this with h | h <;> simp[h,Value.oneCell']
 have hst:=run_storeCells_cells (P:=Tryz.prog) M (k*2) vs 0 w
  (fun j hj=>by
   have hj':k*2+0+j<cs.length:=by omega
   rw[hb.c _ _ (List.getElem?_eq_getElem hj')];rfl)
  (fun j hj=>hb.free _ (by omega)) hone
 rw[Nat.add_zero] at hst
 refine⟨w.setCells M (k*2) vs,fun ty=>?_,?_,grown_setCells _ _ _ _⟩
 ·obtain⟨m,hm⟩:∃ m,n-k=m+1:=⟨n-k-1,by omega⟩
  rw[hm] at hvs ⊢
  simp[Builtin.clear_,run_underlying undRbs,Value.cells,←hvs,hst]
 obtain⟨cs',h3,h4,h5⟩:=BoxAt.setCells vs (k*2) w cs hb (by omega)
 refine⟨cs',h3,by rw[List.length_take];omega,fun i q hq=>?_⟩
 have hi:i<k:=by
  have:=(List.getElem?_eq_some_iff.1 hq).1
  rw[List.length_take] at this
  omega
 rw[List.getElem?_take,if_pos hi] at hq
 obtain⟨a0,a1⟩:=h2 i q hq
 exact⟨(h5 _ (by omega)).trans a0,(h5 _ (by omega)).trans a1⟩
theorem kpN_same {l:List RB} {m:Nat} (h0:0<m) (h:rbAt l m=rbAt l (m-1)):kpN l (m+1)=kpN l m:=by
 rw[kpN,if_neg]
 rintro (h1 | h1)
 ·omega
 exact h1 h
theorem kpN_next {l:List RB} {m:Nat} (h:rbAt l m≠rbAt l (m-1)):kpN l (m+1)=kpN l m ++ [rbAt l m]:=by rw[kpN,if_pos (.inr h)]
theorem rbB_false {p q:RB} (h:p≠q):rbB p q=false:=by
 cases hb:rbB p q
 ·rfl
 exact absurd (rbB_iff.1 hb) h
structure CpN (l cur:List RB) (m kk:Nat):Prop where
 len:cur.length=l.length
 lt:kk<m
 kept:kpN l m=cur.take kk
 num:(kpN l m).length=kk
 rest:∀ i,m-1≤i→i<l.length→rbAt cur i=rbAt l i
theorem CpN.same {l cur:List RB} {m kk:Nat} (h:CpN l cur m kk) (he:rbAt l m=rbAt l (m-1)):CpN l cur (m+1) kk:=by
 obtain⟨h1,h2,h3,h4,h5⟩:=h
 refine⟨h1,by omega,?_,?_,fun i hi hl=>h5 i (by omega) hl⟩
 ·rw[kpN_same (by omega) he];exact h3
 rw[kpN_same (by omega) he];exact h4
theorem CpN.next {l cur:List RB} {m kk:Nat} (h:CpN l cur m kk) (hm:m<l.length) (he:rbAt l m≠rbAt l (m-1)):CpN l (cur.set kk (rbAt l m)) (m+1) (kk+1):=by
 obtain⟨h1,h2,h3,h4,h5⟩:=h
 refine⟨by rw[List.length_set];exact h1,by omega,?_,?_,fun i hi hl=>?_⟩
 ·rw[kpN_next he,h3]
  rw[List.take_succ_eq_append_getElem (by rw[List.length_set];omega),List.getElem_set_self,List.take_set_of_le (Nat.le_refl _)]
 ·rw[kpN_next he,List.length_append,h4];rfl
 have:=h5 i (by omega) hl
 unfold rbAt at this ⊢
 rw[List.getElem?_set_ne (by omega)]
 exact this
theorem CompactN_any (M c:Nat) (l:List RB) (w:World) (hl:AtN w M l) (h2:2≤l.length) (hn:l.length≤1000000) (hc:l.length≤c) :
  Calls Tryz.prog 96 #[.slice (some ⟨M,0,none⟩) l.length c] w fun e w' =>
   e=.returned (.slice (some ⟨M,0,none⟩) (kpN l l.length).length c)∧AtN w' M (kpN l l.length)∧w.grownBy w' (some M):=by
 have hl:=Lib.hid hl
 obtain⟨n,hnn0⟩:∃ n,n=l.length:=⟨_,rfl⟩
 rw[←hnn0] at hn h2 hc ⊢
 have hnn:=Lib.hid hnn0
 clear hnn0
 have hmo:(Tryz.prog).follows Departure.mixedOrders=true:=by kernel_rfl
 have h2':¬(n:Int)<2:=by omega
 go_enter Tryz.func96,Tryz.ntmps96
 go_wp2_with fail
 go_loopw [3] (fun i wr=>∃ (k:Nat),1≤k∧k≤n∧i=.int .i64 k∧Hid (∀ i,0<i→i<k→rbAt l i≠rbAt l (i-1))∧Hid (AtN wr M l)∧Hid (w.grownBy wr (some M))) (fun i _=>n-(intOf i).toNat)
 case atStart=>exact⟨1,by omega,by omega,rfl,fun i h0 h1=>by omega,hl.out,World.grownBy.refl _ _⟩
 case round =>
  obtain⟨k,hk0,hk1,rfl,hD,hA,hG⟩:=hrel
  by_cases hlt:k<n
  ·have hj1:k<l.length:=by rw[←hnn.out];exact hlt
   obtain⟨a0,a1⟩:=hA.out.at_ hj1
   obtain⟨b0,b1⟩:=hA.out.at_ (show k-1<l.length by omega)
   have hw1:IntKind.i64.wrap ((k:Int)-1)=(k:Int)-1:=wrap_small (by omega) (by omega)
   have ht1:((k:Int)-1).toNat=k-1:=by omega
   have ht2:(1:Int)≤(k:Int):=by omega
   have ht3:(k:Int)-1<(n:Int):=by omega
   have ht4:(0:Int)≤(k:Int)-1:=by omega
   have ht5:(k:Int)<(n:Int):=by omega
   have ht7:k-1<n:=by omega
   obtain⟨pj,hpj0⟩:∃ p,rbAt l k=p:=⟨_,rfl⟩
   obtain⟨pq,hpq0⟩:∃ p,rbAt l (k-1)=p:=⟨_,rfl⟩
   rw[hpj0] at a0 a1
   rw[hpq0] at b0 b1
   have hpj:=Lib.hid hpj0
   have hpq:=Lib.hid hpq0
   clear hpj0 hpq0
   have heq:=rb_eql pj pq
   have hAG:=Lib.hid (And.intro (hA.out.below ((Below.refl _ _).drew)) (hG.out.trans (grown_drewN _ 1 _)))
   by_cases he:pj=pq
   ·have hkp:Hid (CpN l l (k+1) k):=by
     have hkl:=hnn.out
     have e1:kpN l k=l.take k:=kpN_all (by omega) hD.out
     have e2:=kpN_same (l:=l) (m:=k) (by omega) (by rw[hpj.out,hpq.out];exact he)
     exact⟨rfl,Nat.lt_succ_self _,by rw[e2];exact e1,by rw[e2,e1,List.length_take];omega,fun _ _ _=>rfl⟩
    have hpb:rbB pj pq=true:=rbB_iff.2 he
    rw[hpb] at heq
    have hct:=fun w'=>cutFromN (M:=M) (n:=n) (c:=c) hlt hc w'
    obtain⟨N2,hN2⟩:∃ N2,N2=n-k:=⟨_,rfl⟩
    obtain⟨C2,hC2⟩:∃ C2,C2=c-k:=⟨_,rfl⟩
    rw[←hN2,←hC2] at hct
    have hN2:=Lib.hid hN2
    have hN3:Hid (N2+k=n):=by show _=_;have:=hN2.out;omega
    clear hD he hpb hA hG hC2
    go_wp2_with fail
    go_region_o
    go_wp2_with fail
    go_loopw [5,3] (fun i kv wr=>∃ (q kk:Nat) (cur:List RB),1≤q∧q≤N2∧i=.int .i64 q∧kv=.int .i64 kk∧Hid (CpN l cur (k+q) kk)∧Hid (AtN wr M cur)∧Hid (w.grownBy wr (some M))) (fun i _ _=>N2-(intOf i).toNat)
    case atStart=>exact⟨1,k,l,Nat.le_refl _,by have:=hN3.out;omega,rfl,rfl,hkp,hAG.out.1,hAG.out.2⟩
    case round =>
     clear hkp hAG
     obtain⟨q,kk,cur,hq0,hq1,rfl,rfl,hC,hA,hG⟩:=hrel
     have hlen:Hid (cur.length=n):=by show _=_;rw[hC.out.len,hnn.out]
     have hkm:=hC.out.lt
     by_cases hqn:q<N2
     ·have hm1:k+q<l.length:=by have:=hnn.out;have:=hN3.out;omega
      have hm2:k+q<cur.length:=by have:=hlen.out;have:=hN3.out;omega
      obtain⟨a0,a1⟩:=hA.out.at_ hm2
      obtain⟨b0,b1⟩:=hA.out.at_ (show k+q-1<cur.length by omega)
      rw[hC.out.rest _ (by omega) hm1] at a0 a1
      rw[hC.out.rest _ (by omega) (by omega)] at b0 b1
      obtain⟨f0,f1⟩:=hA.out.free (show kk<cur.length by omega)
      obtain⟨g0,g1⟩:=hA.out.at_ (show kk<cur.length by omega)
      have hsm:=Lib.hid (fun he=>hC.out.same he)
      have hnx:=Lib.hid (fun he=>hC.out.next hm1 he)
      have hst:=Lib.hid (hA.out.set (show kk<cur.length by omega) (rbAt l (k+q)))
      rw[show (k+q)*2=k*2+q*2 by omega] at a0 a1
      rw[show (k+q-1)*2=k*2+(q-1)*2 by omega] at b0 b1
      have hw1:IntKind.i64.wrap ((q:Int)-1)=(q:Int)-1:=wrap_small (by omega) (by omega)
      have ht1:((q:Int)-1).toNat=q-1:=by omega
      have ht2:(1:Int)≤(q:Int):=by omega
      have ht3:(q:Int)-1<(N2:Int):=by omega
      have ht4:(0:Int)≤(q:Int)-1:=by omega
      have ht5:(q:Int)<(N2:Int):=by omega
      have ht7:q-1<N2:=by omega
      have ht8:kk<n:=by have:=hN3.out;omega
      have ht9:(kk:Int)<(n:Int):=by omega
      have hwk:IntKind.i64.wrap ((kk:Int)+1)=(kk:Int)+1:=wrap_small (by omega) (by omega)
      obtain⟨pj,hpj0⟩:∃ p,rbAt l (k+q)=p:=⟨_,rfl⟩
      obtain⟨pq,hpq0⟩:∃ p,rbAt l (k+q-1)=p:=⟨_,rfl⟩
      rw[hpj0] at a0 a1 hst hnx hsm
      rw[hpq0] at b0 b1 hnx hsm
      clear hpj0 hpq0 hC
      have hne:=rb_neq pj pq
      have hAG:=Lib.hid (And.intro (hA.out.below ((Below.refl _ _).drew)) (hG.out.trans (grown_drewN _ 1 _)))
      by_cases he:pj=pq
      ·have hS2:=Lib.hid (hsm.out he)
       have hpb:rbB pj pq=true:=rbB_iff.2 he
       rw[hpb] at hne
       clear he hpb hsm hnx hst hA hG
       go_wp2_with fail
       go_region_o
       go_wp2_with fail
       go_roundw
       case rel=>exact⟨q+1,kk,cur,by omega,by omega,by go_num,rfl,hS2,hAG.out.1,hAG.out.2⟩
       case measure=>simp[intOf];omega
      have hS2:=Lib.hid (hnx.out he)
      have hpb:rbB pj pq=false:=rbB_false he
      rw[hpb] at hne
      have hGz:=Lib.hid (((hG.out.trans (grown_set wr M (kk*2) (.string pj.old))).trans (grown_set _ M (kk*2+1) (.string pj.new))).trans (grown_drewN _ 1 _))
      clear he hpb hsm hnx hA hG
      go_wp2_with fail
      go_region_o
      go_wp2_with fail
      go_roundw
      case rel=>exact⟨q+1,kk+1,cur.set kk pj,by omega,by omega,by go_num,by go_num,hS2,hst.out.below ((Below.refl _ _).drew),hGz.out⟩
      case measure=>simp[intOf];omega
     obtain rfl:q=N2:=by omega
     have hkn:kk<n:=by have:=hN3.out;omega
     have hct2:=fun w'=>cutFromN (M:=M) (n:=n) (c:=c) hkn hc w'
     have hcu:=fun w'=>cutToN (M:=M) (n:=n) (c:=c) (show kk≤n by omega) hc (by omega) w'
     obtain⟨w9,hcl,hA9,hG9⟩:=hA.out.clear (c:=c-kk) hlen.out hkn
     have hfin:=Lib.hid (And.intro hA9 (hG.out.trans hG9))
     have hkl:Hid (kpN l n=cur.take kk∧(kpN l n).length=kk):=by
      have:=hN3.out
      rw[show n=k+q by omega]
      exact⟨hC.out.kept,hC.out.num⟩
     clear hA9 hG9 hA hG hC
     go_wp2_with fail
     go_ret
     refine⟨by rw[hkl.out.2];rfl,by rw[hkl.out.1];exact hfin.out.1,hfin.out.2⟩
   have hD2:Hid (∀ i,0<i→i<k+1→rbAt l i≠rbAt l (i-1)):=fun i h0 h1=>by
    by_cases e:i=k
    ·subst e;rw[hpj.out,hpq.out];exact he
    exact hD.out i h0 (by omega)
   have hpb:rbB pj pq=false:=rbB_false he
   rw[hpb] at heq
   clear hD he hpb hA hG
   go_wp2_with fail
   go_region_o
   go_wp2_with fail
   go_roundw
   case rel=>exact⟨k+1,by omega,by omega,by go_num,hD2,hAG.out.1,hAG.out.2⟩
   case measure=>simp[intOf];omega
  obtain rfl:k=n:=by omega
  have hfin:Hid (kpN l k=l):=by
   show _=_
   rw[kpN_all (by rw[←hnn.out];exact Nat.le_refl _) hD.out,hnn.out,List.take_length]
  go_wp2_with fail
  go_ret
  refine⟨by rw[hfin.out,←hnn.out];rfl,by rw[hfin.out];exact hA.out,hG.out⟩
end Go.Proofs.YthfokpchdlcidaaGreat
namespace Go.Proofs.YthfokpchdlcidaaGreat
open Go Go.RowKit
theorem OwnL.capN {w:World} {B c n:Nat} {E:TypeId} {m:Nat} {A:Option Addr} {rows:List (List Value)} (h:OwnL w B E m (.slice A n c) rows):n=rows.length∧n≤c:=by
 obtain⟨A0,c0,hv,hr⟩:=h.form
 simp only[Value.slice.injEq] at hv
 obtain⟨rfl,rfl,rfl⟩:=hv
 refine⟨rfl,?_⟩
 rcases h.own.2 with ⟨h1,h2⟩ | ⟨g,cap,cur,hv,_,_,h3,_⟩
 ·omega
 simp only[Value.slice.injEq,true_and] at hv;omega
end Go.Proofs.YthfokpchdlcidaaGreat
namespace Go.Proofs
open Go.Shelf
def Tryz.laysSlF06_f95_ren:Go.Shelf.Ren:=⟨fun | 6=>95 | 15=>125 | 14=>124 | 28=>142 | 29=>143 | 20=>134 | 21=>135 | 22=>136 | 23=>137 | 24=>138 | 25=>139 | 26=>140 | 27=>141 | 46=>155 | 47=>156 | 48=>157 | 49=>158 | 50=>159 | 57=>164 | n=>n,fun | 22=>46 | 24=>69 | 25=>104 | 3=>3 | 39=>152 | 0=>0 | 53=>185 | 55=>187 | 4=>4 | 46=>178 | 45=>177 | 50=>182 | 5=>5 | 9=>9 | 66=>195 | 70=>198 | 76=>203 | 77=>60 | n=>n,fun | n=>n⟩
theorem Tryz.laysSlF06_f95:Go.Proofs.SlLaysF0.n6 Tryz.prog Tryz.laysSlF06_f95_ren:={
 mixed:=by kernel_rfl
 f6:=⟨Tryz.f95.name,by decide,Tryz.func95.trans (congrArg some (by kernel_rfl))⟩
 f14:=⟨Tryz.f124.name,by decide,Tryz.func124.trans (congrArg some (by kernel_rfl))⟩
 f15:=Tryz.func125.trans (congrArg some (by kernel_rfl))
 f20:=⟨Tryz.f134.name,by decide,Tryz.func134.trans (congrArg some (by kernel_rfl))⟩
 f21:=⟨Tryz.f135.name,by decide,Tryz.func135.trans (congrArg some (by kernel_rfl))⟩
 f22:=⟨Tryz.f136.name,by decide,Tryz.func136.trans (congrArg some (by kernel_rfl))⟩
 f23:=⟨Tryz.f137.name,by decide,Tryz.func137.trans (congrArg some (by kernel_rfl))⟩
 f24:=⟨Tryz.f138.name,by decide,Tryz.func138.trans (congrArg some (by kernel_rfl))⟩
 f25:=⟨Tryz.f139.name,by decide,Tryz.func139.trans (congrArg some (by kernel_rfl))⟩
 f26:=⟨Tryz.f140.name,by decide,Tryz.func140.trans (congrArg some (by kernel_rfl))⟩
 f27:=⟨Tryz.f141.name,by decide,Tryz.func141.trans (congrArg some (by kernel_rfl))⟩
 f28:=Tryz.func142.trans (congrArg some (by kernel_rfl))
 f29:=Tryz.func143.trans (congrArg some (by kernel_rfl))
 f46:=⟨Tryz.f155.name,by decide,Tryz.func155.trans (congrArg some (by kernel_rfl))⟩
 f47:=Tryz.func156.trans (congrArg some (by kernel_rfl))
 f48:=Tryz.func157.trans (congrArg some (by kernel_rfl))
 f49:=⟨Tryz.f158.name,by decide,Tryz.func158.trans (congrArg some (by kernel_rfl))⟩
 f50:=⟨Tryz.f159.name,by decide,Tryz.func159.trans (congrArg some (by kernel_rfl))⟩
 f57:=⟨Tryz.f164.name,by decide,Tryz.func164.trans (congrArg some (by kernel_rfl))⟩
 t0:=Tryz.underlying0
 a0:=Tryz.isAgg0
 z0:=Tryz.sizeOf0
 v0:=Tryz.zeroValue0
 t3:=Tryz.underlying3
 a3:=Tryz.isAgg3
 z3:=Tryz.sizeOf3
 v3:=Tryz.zeroValue3
 t4:=Tryz.underlying4
 a4:=Tryz.isAgg4
 z4:=Tryz.sizeOf4
 v4:=Tryz.zeroValue4
 t5:=Tryz.underlying5
 a5:=Tryz.isAgg5
 z5:=Tryz.sizeOf5
 v5:=Tryz.zeroValue5
 t9:=Tryz.underlying9
 a9:=Tryz.isAgg9
 z9:=Tryz.sizeOf9
 v9:=Tryz.zeroValue9
 t22:=Tryz.underlying46
 a22:=Tryz.isAgg46
 z22:=Tryz.sizeOf46
 v22:=Tryz.zeroValue46
 t25:=Tryz.underlying104
 a25:=Tryz.isAgg104
 z25:=Tryz.sizeOf104
 v25:=Tryz.zeroValue104
 t39:=Tryz.underlying152
 a39:=Tryz.isAgg152
 z39:=Tryz.sizeOf152
 v39:=Tryz.zeroValue152
 t45:=Tryz.underlying177
 a45:=Tryz.isAgg177
 z45:=Tryz.sizeOf177
 v45:=Tryz.zeroValue177
 t46:=Tryz.underlying178
 a46:=Tryz.isAgg178
 z46:=Tryz.sizeOf178
 v46:=Tryz.zeroValue178
 t50:=Tryz.underlying182
 a50:=Tryz.isAgg182
 z50:=Tryz.sizeOf182
 v50:=Tryz.zeroValue182
 t53:=Tryz.underlying185
 a53:=Tryz.isAgg185
 z53:=Tryz.sizeOf185
 v53:=Tryz.zeroValue185
 t55:=Tryz.underlying187
 a55:=Tryz.isAgg187
 z55:=Tryz.sizeOf187
 v55:=Tryz.zeroValue187
 t66:=Tryz.underlying195
 a66:=Tryz.isAgg195
 z66:=Tryz.sizeOf195
 v66:=Tryz.zeroValue195
 t70:=Tryz.underlying198
 a70:=Tryz.isAgg198
 z70:=Tryz.sizeOf198
 v70:=Tryz.zeroValue198
 t76:=Tryz.underlying203
 a76:=Tryz.isAgg203
 z76:=Tryz.sizeOf203
 v76:=Tryz.zeroValue203
 t77:=Tryz.underlying60
 a77:=Tryz.isAgg60
 z77:=Tryz.sizeOf60
 v77:=Tryz.zeroValue60 }
open Go.RowKit Go.Lib Go.Sort in
theorem Tryz.sortQ_none {α:Type} [Inhabited α] (p:Option Addr) (cap:Nat) (fv:Value) (w:World) :
  Calls Tryz.prog 95 #[.slice p 0 cap,fv] w fun e w'=>e=.returned (.tuple #[])∧w'=w:=AnyF.slices_SortFunc_none Tryz.laysSlF06_f95 p cap fv w
open Go.RowKit Go.Lib Go.Sort in
theorem Tryz.sortQ_total {α:Type} [Inhabited α] (k:Nat) (aE:∀ w,(isAgg (Tryz.laysSlF06_f95_ren.t 24)).run Tryz.prog w=.ok true w) (zE:∀ w,(Go.sizeOf (Tryz.laysSlF06_f95_ren.t 24)).run Tryz.prog w=.ok k w) (enc:α→List Value) (hk:∀ x,(enc x).length=k) (h1:∀ x,∀ v∈enc x,v.oneCell'=true) (cf:α→α→Int) (hO:SWO (ltOf cf)) (g:Nat) (cb:Array Value) (blk off cap:Nat) (d:Array α) (w:World) (eg:∀ args w,(callFunc g args).run Tryz.prog w=.ok (.enter g args) w) (hcmp:CmpLays Tryz.prog g cb enc k cf blk off d.size w) (hH:HoldsK enc k w blk off d) (hblk:blk<w.heap.size) (hsz:d.size<4611686018427387904) (hT:∀ x y,(ltOf cf) x y=false→(ltOf cf) y x=false→x=y) :
  Calls Tryz.prog 95 #[.slice (some ⟨blk,off,none⟩) d.size cap,.func (.func g) #[] cb] w fun e w' =>
   e=.returned (.tuple #[])∧∃ n os,w'=sortWorldK enc k w blk off n (d.toList.mergeSort fun x y=>!(ltOf cf) y x).toArray os:=AnyQ.slices_SortFunc_total Tryz.laysSlF06_f95 k aE zE enc hk h1 cf hO g cb blk off cap d w eg hcmp hH hblk hsz hT
end Go.Proofs
namespace Go.Proofs.YthfokpchdlcidaaGreat
open Go Go.RowKit Go.Sort Go.Lib
def rbOf (x:Rn):RB:=⟨⟨x.old.toArray⟩,⟨x.new.toArray⟩⟩
theorem rbOf_txt (x:Rn):(rbOf x).txt=x:=by
 unfold rbOf RB.txt
 rw[ByteArray.toList_eq,ByteArray.toList_eq]
theorem rbOf_rows (l:List Rn):(l.map rbOf).map rbR=l.map rnR:=by rw[List.map_map];rfl
theorem txt_rows (l:List RB):(l.map RB.txt).map rnR=l.map rbR:=by
 rw[List.map_map]
 refine List.map_congr_left fun x _=>?_
 show [encStr x.old.toList,encStr x.new.toList]=[.string x.old,.string x.new]
 rw[encStr,encStr,ByteArray.toList_eq,ByteArray.toList_eq]
theorem map_txt_of (l:List Rn):(l.map rbOf).map RB.txt=l:=by
 rw[List.map_map]
 have:RB.txt ∘ rbOf=id:=funext fun x=>rbOf_txt x
 rw[this,List.map_id]
def RnL (w:World) (B:Nat) (v:Value) (l:List Rn):Prop:=OwnL w B 69 2 v (l.map rnR)
theorem rb_wid (l:List RB):∀ r∈l.map rbR,r.length=2:=fun r hr=>by obtain⟨s,_,rfl⟩:=List.mem_map.1 hr;rfl
theorem rb_one (l:List RB):∀ r∈l.map rbR,∀ u∈r,u.oneCell'=true:=fun r hr u hu=>by
 obtain⟨s,_,rfl⟩:=List.mem_map.1 hr
 simp only[rbR,List.mem_cons,List.not_mem_nil,or_false] at hu
 rcases hu with rfl | rfl <;> rfl
def rbCf (x y:RB):Int:=rnCf x.txt y.txt
theorem rbCf_neg {x y:RB}:ltOf rbCf x y=true↔Cal.rlt x.txt y.txt:=by
 unfold ltOf rbCf
 rw[decide_eq_true_iff,rnCf_neg]
theorem rbCf_not {x y:RB}:ltOf rbCf x y=false↔¬Cal.rlt x.txt y.txt:=by rw[←rbCf_neg];simp
theorem rbCf_swo:SWO (ltOf rbCf) where
 irrefl:=fun x=>by rw[rbCf_not];exact Cal.rlt_irr _
 trans:=fun x y z h1 h2=>by rw[rbCf_neg] at *;exact Cal.rlt_trans h1 h2
 ntrans:=fun x y z h1 h2=>by
  rw[rbCf_not] at *
  intro h
  rcases Cal.rlt_tri x.txt y.txt with h3 | h3 | h3
  ·exact h1 h3
  ·rw[h3] at h;exact h2 h
  exact h2 (Cal.rlt_trans h3 h)
theorem rb_ext {x y:RB} (h:x.txt=y.txt):x=y:=by
 obtain⟨a,b⟩:=x
 obtain⟨c,d⟩:=y
 unfold RB.txt at h
 rw[Rn.mk.injEq] at h
 rw[RB.mk.injEq]
 exact⟨bytes_ext h.1,bytes_ext h.2⟩
theorem rbCf_total (x y:RB) (h1:ltOf rbCf x y=false) (h2:ltOf rbCf y x=false):x=y:=by
 rw[rbCf_not] at h1 h2
 rcases Cal.rlt_tri x.txt y.txt with h3 | h3 | h3
 ·exact absurd h3 h1
 ·exact rb_ext h3
 exact absurd h3 h2
theorem flatK_listN {α:Type} [Inhabited α] (enc:α→List Value) (k:Nat) (hk0:0<k) (hk:∀ x,(enc x).length=k) (d:Array α):(flatK enc k d).toList=(d.toList.map enc).flatten:=by
 have hwid:∀ r∈d.toList.map enc,r.length=k:=fun r hr=>by obtain⟨x,_,rfl⟩:=List.mem_map.1 hr;exact hk x
 have hlen:(d.toList.map enc).flatten.length=d.size*k:=by rw[flat_len hwid];simp
 apply List.ext_getElem
 ·rw[hlen,Array.length_toList,size_flatK]
 intro t h1 h2
 rw[hlen] at h2
 have hd:t / k<d.size:=by
  rw[Nat.div_lt_iff_lt_mul hk0];exact h2
 have hm:t % k<k:=Nat.mod_lt _ hk0
 have e1:(d.toList.map enc)[t / k]?=some (enc d[t / k]):=by simp[hd]
 have e2:(enc d[t / k])[t % k]?=some ((enc d[t / k])[t % k]'(by rw[hk];exact hm)):=List.getElem?_eq_getElem _
 have e3:=flat_get hwid e1 e2
 rw[Nat.div_add_mod' t k,List.getElem?_eq_getElem (by rw[hlen];exact h2)] at e3
 have e4:=get_flatK enc k d t (by exact h2)
 rw[getElem!_pos (flatK enc k d) t (by rw[size_flatK];exact h2),getElem!_pos d (t / k) hd,getElem!_pos (enc d[t / k]) (t % k) (by rw[hk];exact hm)] at e4
 rw[Array.getElem_toList,e4]
 exact (Option.some.inj e3).symm
theorem putId_takeN {cur:Array Value} {ys:List Value} (h:ys.length≤cur.size):(putCells (id:Value→Value) 0 ys.toArray cur).toList.take ys.length=ys∧(putCells (id:Value→Value) 0 ys.toArray cur).size=cur.size:=by
 refine⟨?_,by simp[putCells]⟩
 apply List.ext_getElem
 ·simp[putCells];omega
 intro i h1 h2
 simp[putCells,h2]
theorem OwnL.putRowsN {w:World} {B g c n:Nat} {E:TypeId} {m:Nat} {rows rows2:List (List Value)} (h:OwnL w B E m (.slice (some ⟨g,0,none⟩) n c) rows) (hl:rows2.length=rows.length) (hw:∀ r∈rows2,r.length=m) (h1:∀ r∈rows2,∀ u∈r,u.oneCell'=true) :
  OwnL (putRow (id:Value→Value) w g 0 rows2.flatten.toArray) B E m (.slice (some ⟨g,0,none⟩) n c) rows2∧w.grownBy (putRow (id:Value→Value) w g 0 rows2.flatten.toArray) (some g):=by
 have hlen2:rows2.flatten.length=rows2.length*m:=flat_len hw
 rcases h.own.2 with ⟨h0,_⟩ | ⟨g',cap,cur,hv,hb,hg,h2,h3,h4,h5⟩
 ·cases h0
 simp only[Value.slice.injEq,Option.some.injEq,Addr.mk.injEq,and_true] at hv
 obtain⟨rfl,rfl,rfl⟩:=hv
 have hsz:rows2.flatten.length≤cur.size:=by
  rw[hlen2,hl,h4];exact Nat.mul_le_mul_right _ h2
 obtain⟨t1,t2⟩:=putId_takeN hsz
 have hh:(putRow (id:Value→Value) w g 0 rows2.flatten.toArray).heap[g]?=some (.cells (putCells (id:Value→Value) 0 rows2.flatten.toArray cur) E (0,0)):=by simp[putRow,mapBlock,Array.getElem?_modify,hg,onCells]
 refine⟨⟨⟨by rw[hl,hlen2,hl],.inr ⟨g,c,_,by rw[hl],hb,hh,by rw[hl];exact h2,h3,by rw[t2,h4],by rw[←hlen2];exact t1⟩⟩,hw,h1⟩,rfl,rfl,rfl,by simp[putRow,mapBlock],fun k _ hk=>?_⟩
 have hne:k≠g:=fun e=>hk (by rw[e])
 simp[putRow,mapBlock,Array.getElem?_modify,Ne.symm hne]
def leRb (x y:RB):Bool:=!(ltOf rbCf) y x
def SortedRb (w:World) (B:Nat) (v:Value) (ts:List RB) (e:Ending) (w':World):Prop:=e=.returned (.tuple #[])∧OwnL w' B 69 2 v (ts.map rbR)∧w.grownBy w' v.ownBlock
theorem SortRb_own (w:World) (B:Nat) (v:Value) (ts:List RB) (h:OwnL w B 69 2 v (ts.map rbR)) (hs:ts.length≤1000000) :
  Calls Tryz.prog 95 #[v,.func (.func 56) #[] #[]] w (SortedRb w B v (ts.mergeSort leRb)):=by
 haveI:Inhabited RB:=⟨rb0⟩
 obtain⟨A,c,rfl,hr⟩:=OwnL.form h
 by_cases hne:ts=[]
 ·subst hne
  refine (Tryz.sortQ_none (α:=Nat) A c _ w).mono fun e w' ⟨he,hw⟩=>?_
  subst hw
  exact⟨he,by simpa using h,World.grownBy.refl _ _⟩
 rcases h.own.2 with ⟨_,h0⟩ | ⟨g,cap,cur,hv,hb,hg,h1,h2,h3,h4⟩
 ·rw[List.length_map] at h0
  exact absurd (List.eq_nil_of_length_eq_zero h0) hne
 simp only[Value.slice.injEq,true_and] at hv
 obtain⟨rfl,rfl⟩:=hv
 have hgw:g<w.heap.size:=(Array.getElem?_eq_some_iff.1 hg).1
 have hfl:=flatK_listN rbR 2 (by decide) (fun _=>rfl) ts.toArray
 have hH:HoldsK rbR 2 w g 0 ts.toArray:=fun j hj=>by
  rw[size_flatK] at hj
  have hj':j<ts.length*2:=by simpa using hj
  have e1:(flatK rbR 2 ts.toArray)[j]?=cur[j]?:=by
   have:=congrArg (·[j]?) h4
   simp only[List.getElem?_take] at this
   rw[if_pos (by rw[List.length_map];exact hj'),Array.getElem?_toList] at this
   rw[←Array.getElem?_toList,hfl,this]
  constructor
  ·rw[cell_of_row w g (0+j) cur _ (0,0) hg,Nat.zero_add,←e1,getElem!_pos (flatK rbR 2 ts.toArray) j (by rw[size_flatK];exact hj)]
   simp
  exact h.own.frozenAt (0+j)
 have hcmp:CmpLays Tryz.prog 56 #[] rbR 2 rbCf g 0 ts.toArray.size w:=fun m os dk _ x y=>compare_any x.old x.new y.old y.new _
 have hcon:=Tryz.sortQ_total 2 (fun w=>by kernel_rfl) (fun w=>by kernel_rfl) rbR (fun _=>rfl) (fun x v hv=>rb_one [x] (rbR x) (by simp) v hv) rbCf rbCf_swo 56 #[] g 0 c ts.toArray w (enters_of Tryz.func56 (by kernel_rfl) rfl) hcmp hH hgw (by simp;omega) rbCf_total
 rw[show ts.toArray.size=(ts.map rbR).length by simp] at hcon
 refine hcon.mono fun e w' ⟨he,m,os,hw⟩=>?_
 subst hw
 have hA:OwnL (Sort.ahead w m) B 69 2 (.slice (some ⟨g,0,none⟩) (ts.map rbR).length c) (ts.map rbR):=OwnL.below h ⟨rfl,rfl,rfl,Nat.le_refl _,fun _ _=>rfl⟩
 obtain⟨p1,p2⟩:=hA.putRowsN (rows2:=(ts.mergeSort leRb).map rbR) (by simp[List.length_mergeSort]) (rb_wid _) (rb_one _)
 have hW:sortWorldK rbR 2 w g 0 m (ts.toArray.toList.mergeSort fun x y=>!(ltOf rbCf) y x).toArray os=grow (putRow (id:Value→Value) (Sort.ahead w m) g 0 ((ts.mergeSort leRb).map rbR).flatten.toArray) os:=by
  show grow (putRow id (Sort.ahead w m) g 0 (flatK rbR 2 _)) os=_
  have h5:=flatK_listN rbR 2 (by decide) (fun _=>rfl) (ts.toArray.toList.mergeSort fun x y=>!(ltOf rbCf) y x).toArray
  rw[show flatK rbR 2 (ts.toArray.toList.mergeSort fun x y=>!(ltOf rbCf) y x).toArray=((ts.mergeSort leRb).map rbR).flatten.toArray from by rw[←Array.toList_inj,h5];rfl]
 rw[hW]
 have p3:=OwnL.below p1 (grow_below _ os)
 exact⟨he,p3,⟨p2.os,p2.tape,p2.output,Nat.le_trans p2.size (grow_below _ os).size,fun k hk hne=>((grow_below _ os).block k (Nat.lt_of_lt_of_le hk p2.size)).trans (p2.block k hk hne)⟩⟩
theorem rbAt_in {l:List RB} {m:Nat} (h:m<l.length):rbAt l m=l[m]:=by unfold rbAt;rw[List.getElem?_eq_getElem h];rfl
theorem kpN_mem {l:List RB}:∀ {m:Nat},m≤l.length→∀ x,x∈kpN l m↔x∈l.take m
 | 0,_,x=>by simp[kpN]
 | m+1,hm,x=>by
  have ih:=kpN_mem (l:=l) (m:=m) (by omega) x
  have hat:rbAt l m=l[m]:=rbAt_in (by omega)
  rw[List.take_succ_eq_append_getElem (by omega),List.mem_append,List.mem_singleton,←hat]
  unfold kpN
  split
  ·rw[List.mem_append,List.mem_singleton,ih]
  rename_i h
  rw[ih]
  constructor
  ·intro h;exact .inl h
  rintro (h' | h')
  ·exact h'
  have h0:m≠0:=fun e=>h (.inl e)
  have h1:rbAt l m=rbAt l (m-1):=Classical.byContradiction fun e=>h (.inr e)
  rw[h',h1]
  have hm1:m-1<l.length:=by omega
  rw[rbAt_in hm1]
  exact List.mem_take_iff_getElem.2 ⟨m-1,by rw[Nat.min_eq_left (by omega)];omega,rfl⟩
theorem kpN_up {l:List RB} (hs:∀ i j,i<j→j<l.length→¬Cal.rlt (rbAt l j).txt (rbAt l i).txt):∀ {m:Nat},m≤l.length→((kpN l m).map RB.txt).Pairwise Cal.rlt
 | 0,_=>List.Pairwise.nil
 | m+1,hm=>by
  have ih:=kpN_up hs (m:=m) (by omega)
  unfold kpN
  split
  ·rename_i h
   rw[List.map_append,List.map_singleton]
   refine List.pairwise_append.2 ⟨ih,List.pairwise_singleton _ _,fun p hp q hq=>?_⟩
   rw[List.mem_singleton.1 hq]
   obtain⟨x,hx,rfl⟩:=List.mem_map.1 hp
   obtain⟨i,hi,rfl⟩:=List.mem_take_iff_getElem.1 ((kpN_mem (l:=l) (m:=m) (by omega) x).1 hx)
   have hi':i<m:=by omega
   rw[←rbAt_in (by omega)]
   have hmne:rbAt l m≠rbAt l (m-1):=by
    rcases h with h | h
    ·omega
    exact h
   have h1:=hs (m-1) m (by omega) (by omega)
   have h2:Cal.rlt (rbAt l (m-1)).txt (rbAt l m).txt:=by
    rcases Cal.rlt_tri (rbAt l (m-1)).txt (rbAt l m).txt with h3 | h3 | h3
    ·exact h3
    ·exact absurd (rb_ext h3).symm hmne
    exact absurd h3 h1
   by_cases e:i=m-1
   ·subst e;exact h2
   have h4:=hs i (m-1) (by omega) (by omega)
   rcases Cal.rlt_tri (rbAt l i).txt (rbAt l (m-1)).txt with h3 | h3 | h3
   ·exact Cal.rlt_trans h3 h2
   ·rw[h3];exact h2
   exact absurd h3 h4
  exact ih
theorem sort_settle (l:List RB):(kpN (l.mergeSort leRb) l.length).map RB.txt=Cal.settle (l.map RB.txt):=by
 have hlen:(l.mergeSort leRb).length=l.length:=List.length_mergeSort l
 have hp:=List.pairwise_mergeSort (le:=leRb) (fun a b c=>by
  intro h1 h2
  unfold leRb at *
  rw[Bool.not_eq_true',rbCf_not] at *
  intro h
  rcases Cal.rlt_tri a.txt b.txt with h3 | h3 | h3
  ·exact h2 (Cal.rlt_trans h h3)
  ·rw[h3] at h;exact h2 h
  ·exact h1 h3) (fun a b=>by
  unfold leRb
  rw[Bool.or_eq_true,Bool.not_eq_true',Bool.not_eq_true',rbCf_not,rbCf_not]
  rcases Cal.rlt_tri a.txt b.txt with h3 | h3 | h3
  ·exact .inl fun h=>Cal.rlt_irr _ (Cal.rlt_trans h3 h)
  ·exact .inl fun h=>by rw[h3] at h;exact Cal.rlt_irr _ h
  exact .inr fun h=>Cal.rlt_irr _ (Cal.rlt_trans h3 h)) l
 have hs:∀ i j,i<j→j<(l.mergeSort leRb).length→¬Cal.rlt (rbAt (l.mergeSort leRb) j).txt (rbAt (l.mergeSort leRb) i).txt:=fun i j hij hj=>by
  have:=List.pairwise_iff_getElem.1 hp i j (by omega) hj hij
  rw[rbAt_in hj,rbAt_in (by omega)]
  unfold leRb at this
  rw[Bool.not_eq_true',rbCf_not] at this
  exact this
 refine Cal.settle_is (kpN_up hs (by omega)) fun d=>?_
 rw[List.mem_map,List.mem_map]
 have hm:=kpN_mem (l:=l.mergeSort leRb) (m:=l.length) (by omega)
 constructor
 ·rintro⟨x,hx,rfl⟩
  have:=(hm x).1 hx
  rw[←hlen,List.take_length,List.mem_mergeSort] at this
  exact⟨x,this,rfl⟩
 rintro⟨x,hx,rfl⟩
 refine⟨x,(hm x).2 ?_,rfl⟩
 rw[←hlen,List.take_length,List.mem_mergeSort]
 exact hx
theorem OwnL.atN {w:World} {B g c:Nat} {ts:List RB} (h:OwnL w B 69 2 (.slice (some ⟨g,0,none⟩) (ts.map rbR).length c) (ts.map rbR)):AtN w g ts∧ts.length≤c:=by
 rcases h.own.2 with ⟨h0,_⟩ | ⟨g',cap,cur,hv,hb,hg,h1,h2,h3,h4⟩
 ·cases h0
 simp only[Value.slice.injEq,Option.some.injEq,Addr.mk.injEq,and_true,true_and] at hv
 obtain⟨rfl,rfl⟩:=hv
 rw[List.length_map] at h1 h4
 have hgw:g<w.heap.size:=(Array.getElem?_eq_some_iff.1 hg).1
 refine⟨⟨cur.toList,⟨fun j v hv=>?_,fun j _=>?_,hgw⟩,?_,fun i q hq=>?_⟩,h1⟩
 ·rw[cell_of_row w g (0+j) cur _ (0,0) hg,Nat.zero_add,←Array.getElem?_toList]
  exact hv
 ·have:=h.own.frozenAt j
  exact this
 ·have e1:cur.toList.length=cur.size:=Array.length_toList
  rw[e1,h3];exact Nat.mul_le_mul_right _ h1
 have hil:=(List.getElem?_eq_some_iff.1 hq).1
 have hr:(ts.map rbR)[i]?=some (rbR q):=by rw[List.getElem?_map,hq];rfl
 have key:∀ j u,j<2→(rbR q)[j]?=some u→cur.toList[i*2+j]?=some u:=fun j u hj hu=>by
  have e:=flat_get (rb_wid ts) hr hu
  rw[←h4,List.getElem?_take,if_pos (by omega)] at e
  exact e
 exact⟨key 0 _ (by decide) rfl,key 1 _ (by decide) rfl⟩
theorem CompactN_small (A:Option Addr) (n c:Nat) (w:World) (hn:n<2):Calls Tryz.prog 96 #[.slice A n c] w fun e w'=>e=.returned (.slice A n c)∧w=w':=by
 have h2:(n:Int)<2:=by omega
 go_enter Tryz.func96,Tryz.ntmps96
 go_wp2_with fail
 go_ret
 exact⟨rfl,rfl⟩
theorem settled_any (w:World) (B:Nat) (v:Value) (l:List Rn) (h:RnL w B v l) (hs:l.length≤1000000) :
  Calls Tryz.prog 54 #[v] w fun e w'=>∃ A c,e=.returned (.slice A (Cal.settle l).length c)∧RowsAt w' A 2 ((Cal.settle l).map rnR)∧w.grownBy w' v.ownBlock:=by
 have h0:OwnL w B 69 2 v ((l.map rbOf).map rbR):=by rw[rbOf_rows];exact h
 have hso:=Lib.hid (SortRb_own w B v (l.map rbOf) h0 (by rw[List.length_map];exact hs))
 have hst:=sort_settle (l.map rbOf)
 rw[map_txt_of,List.length_map] at hst
 have hlen:((l.map rbOf).mergeSort leRb).length=l.length:=by rw[List.length_mergeSort,List.length_map]
 generalize (l.map rbOf).mergeSort leRb=ts at *
 rw[←hlen] at hst
 have hsl:(Cal.settle l).length=(kpN ts ts.length).length:=by rw[←hst,List.length_map]
 have hrw:(Cal.settle l).map rnR=(kpN ts ts.length).map rbR:=by rw[←hst,txt_rows]
 rw[hsl,hrw]
 replace hlen:=Lib.hid hlen
 clear h h0 hst hsl hrw
 go_enter Tryz.func54,Tryz.ntmps54
 go_wp2_with fail
 go_at_call 95
 refine hso.out.mono ?_
 rintro e w2 ⟨rfl,hs2,hg2⟩
 clear hso
 by_cases hl2:ts.length<2
 ·have hk:kpN ts ts.length=ts:=by
   have:=kpN_all (l:=ts) (k:=ts.length) (Nat.le_refl _) (fun i h1 h2=>by
    obtain rfl:i=1:=by omega
    omega)
   rw[this,List.take_length]
  obtain⟨A,c,rfl,hr⟩:=OwnL.form hs2
  rw[List.length_map]
  have hcp:=Lib.hid (CompactN_small A ts.length c w2 hl2)
  have hg:=Lib.hid hg2
  have hrr:=Lib.hid hr
  clear hs2 hg2 hr
  go_wp2_with fail
  go_at_call 96
  refine hcp.out.mono ?_
  rintro e w3 ⟨rfl,rfl⟩
  clear hcp
  go_wp2_with fail
  go_ret
  exact⟨A,c,by rw[hk];rfl,by rw[hk];exact hrr.out,hg.out⟩
 obtain⟨A,c,rfl,hr⟩:=OwnL.form hs2
 have hsz:ts.length≤1000000:=by rw[hlen.out];exact hs
 rcases hs2.own.2 with ⟨_,h0⟩ | ⟨g,cap,cur,hv,hb,hg,h1,h2,h3,h4⟩
 ·rw[List.length_map] at h0;omega
 simp only[Value.slice.injEq,true_and] at hv
 obtain⟨rfl,rfl⟩:=hv
 obtain⟨hat,hc⟩:=hs2.atN
 have hcp:=Lib.hid (CompactN_any g c ts w2 hat (by omega) hsz hc)
 have hg:=Lib.hid hg2
 rw[List.length_map]
 clear hs2 hg2 hr h1 h2 h3 h4 hb hat
 go_wp2_with fail
 go_at_call 96
 refine hcp.out.mono ?_
 rintro e w3 ⟨rfl,ha3,hg3⟩
 clear hcp
 have hrr:=Lib.hid ha3.rows
 have hgg:=Lib.hid (hg.out.trans hg3)
 clear ha3 hg3 hg
 go_wp2_with fail
 go_ret
 exact⟨_,c,rfl,hrr.out,hgg.out⟩
end Go.Proofs.YthfokpchdlcidaaGreat
namespace Go.Proofs.YthfokpchdlcidaaGreat
open Go Go.RowKit Go.Sort
theorem wpPushN {ops:Array Oper} {rest:List Oper} {op:Oper} {a:Act} {w:World} {Q:Exit→Act→World→Prop} {B:Nat} {v:Value} {l:List Rn} {t:TypeId} (s1 s2:ByteArray) (h:RnL w B v l) (hB:B≤w.heap.size) (hlen:l.length≤1000000)
  (hgd:op.guard=none) (s x:Operand) (ho:op.op=.call { callee:=.builtin .append,args:=#[s,x],argTypes:=#[46,46] }) (hs:a.eval s=v) {c n:Nat} (hx:a.eval x=.slice (some ⟨n,0,none⟩) 1 c) (hn:n=w.heap.size)
  (k:∀ v' w',RnL w' B v' (l ++ [⟨s1.toList,s2.toList⟩])→Below B w w'→wpList Tryz.prog ops Q rest (a.put op.dst v') w'):wpList Tryz.prog ops Q (op :: rest) a (w.alloc (.cells #[.string s1,.string s2] t)):=by
 subst hn
 refine wpList_append_rows elemRn hgd s x ho hs hx (OwnL.below h (below_alloc _ _)) (rowsAt_new _ (rbR ⟨s1,s2⟩) _) rfl (rb_wid [⟨s1,s2⟩]) (rb_one [⟨s1,s2⟩]) (by rw[List.length_map,List.length_singleton];omega) (by decide) (by simp;omega) ?_
 intro v' w2 hown2 hg2 _
 refine k v' w2 ?_ (((Below.refl B w).alloc hB _).trans (grown_below hg2 (fun g e=>(OwnL.lt h g e).1) (by simp;omega)))
 unfold RnL
 rw[List.map_append,List.map_singleton]
 have e:rnR ⟨s1.toList,s2.toList⟩=rbR ⟨s1,s2⟩:=by
  show [encStr s1.toList,encStr s2.toList]=_
  rw[encStr_of rfl,encStr_of rfl]
  rfl
 rw[e]
 exact hown2
theorem Turn_any (A:Option Addr) (c:Nat) (l:List Rn) (w:World) (hl:Rns w A l) :
  Calls Tryz.prog 20 #[.slice A l.length c] w fun e w'=>∃ A' c',e=.returned (.tuple #[.slice A' (Cal.turnN l).length c',.int .i64 (Cal.numE l)])∧RowsAt w' A' 2 ((Cal.turnN l).map rnR)∧Below w.heap.size w w':=by
 have hck:=Lib.hid (CheckNumbers_any A c l w hl)
 by_cases h0:Cal.numE l=0
 ·obtain⟨hl200,_,_⟩:=Cal.numE_zero.1 h0
  have hT:Cal.turnN l=Cal.settle (l.map Cal.swapR):=by unfold Cal.turnN;rw[if_pos h0];rfl
  rw[h0] at hck ⊢
  rw[hT]
  clear hT
  replace hl:=Lib.hid hl
  go_enter Tryz.func20,Tryz.ntmps20
  go_wp2_with (go_at_call 22;refine hck.out.mono ?_;rintro e0 w1 ⟨rfl,hb1⟩;replace hb1:=Lib.hid hb1;clear hck)
  go_loopw [5,15] (fun ov i wr=>∃ (k:Nat) (v:Value),k≤l.length∧i=.int .i64 k∧ov=v∧Hid (RnL wr w.heap.size v ((l.take k).map Cal.swapR))∧Hid (Below w.heap.size w wr)) (fun _ i _=>l.length-(intOf i).toNat)
  case atStart=>exact⟨0,_,Nat.zero_le _,rfl,rfl,OwnL.nil _ _ _ _,hb1⟩
  case round =>
   clear hb1
   obtain⟨k,v,hk,rfl,rfl,hO,hb⟩:=hrel
   by_cases hlt:k<l.length
   ·have hk':l[k]?=some l[k]:=List.getElem?_eq_getElem hlt
    have htk:(l.take (k+1)).map Cal.swapR=(l.take k).map Cal.swapR ++ [Cal.swapR l[k]]:=by rw[List.take_succ_eq_append_getElem hlt,List.map_append];rfl
    generalize l[k]=x at *
    obtain⟨b,o,rfl,hbl,ao,an,ha1,ha2,c0,c1⟩:=rn_at (hl.out.rows.below hb.out) hk'
    have hsw:Cal.swapR x=⟨an.toList,ao.toList⟩:=by rw[ha1,ha2];rfl
    rw[hsw] at htk
    replace htk:=Lib.hid htk
    have hki:(k:Int)<(l.length:Int):=by omega
    have hO2:=Lib.hid (show RnL (wr.alloc (.cells #[.string ao,.string an] 69)) w.heap.size u5 ((l.take k).map Cal.swapR) from OwnL.below hO.out (below_alloc _ _))
    have hb2:=Lib.hid (below_step hb.out (below_alloc wr (.cells #[.string ao,.string an] 69)))
    have hsz:((l.take k).map Cal.swapR).length≤1000000:=by rw[List.length_map,List.length_take];omega
    clear hk' ha1 ha2 hsw hO
    go_wp2_with (at_builtin;refine wpPushN an ao hO2.out hb2.out.size hsz rfl _ _ rfl rfl rfl (by simp) ?_;intro v6 w6 hown6 hb6;have hO6:=Lib.hid hown6;have hbw6:=Lib.hid (hb2.out.trans hb6);clear hown6 hb6)
    go_roundw
    case rel=>exact⟨k+1,_,by omega,by go_num,rfl,by rw[htk.out];exact hO6,hbw6⟩
    case measure=>simp[intOf];omega
   obtain rfl:k=l.length:=by omega
   rw[List.take_length] at hO
   have hset:=Lib.hid (settled_any wr w.heap.size u5 _ hO.out (by rw[List.length_map];omega))
   have hvB:=Lib.hid (fun g e=>(OwnL.lt hO.out g e).1)
   clear hO
   go_wp2_with (go_at_call 54;refine hset.out.mono ?_;rintro e0 w8 ⟨A8,c8,rfl,hr8,hg8⟩;have hr9:=Lib.hid hr8;have hb9:=Lib.hid (hb.out.trans (grown_below hg8 hvB.out hb.out.size));clear hr8 hg8 hset)
   go_ret2
   exact⟨_,_,rfl,hr9.out,hb9.out⟩
 have hT:Cal.turnN l=[]:=by unfold Cal.turnN;rw[if_neg h0]
 rw[hT]
 have h1:(Cal.numE l == 0)=false:=by simpa using h0
 have h2:(Cal.numE l != 0)=true:=by simpa using h0
 clear hT hl
 generalize Cal.numE l=E at *
 go_enter Tryz.func20,Tryz.ntmps20
 go_wp2_with (go_at_call 22;refine hck.out.mono ?_;rintro e0 w1 ⟨rfl,hb1⟩;replace hb1:=Lib.hid hb1;clear hck)
 go_ret2
 exact⟨_,_,rfl,RowsAt.nil _ _ _,hb1.out⟩
end Go.Proofs.YthfokpchdlcidaaGreat
namespace Go.Proofs.YthfokpchdlcidaaGreat
open Go Go.RowKit Go.Sort
abbrev TrnTo (l r:List Rn) (E:Int):Prop:=∀ A c W,RowsAt W A 2 (l.map rnR)→Calls Tryz.prog 20 #[.slice A l.length c] W fun e w'=>∃ A' c',e=.returned (.tuple #[.slice A' r.length c',.int .i64 E])∧RowsAt w' A' 2 (r.map rnR)∧Below W.heap.size W w'
def LenR (l:List Rn):Prop:=l.length≤100000∧∀ x∈l,x.old.length≤maxLen∧x.new.length≤maxLen
theorem LenR.rns {l:List Rn} (h:LenR l) {W:World} {A:Option Addr} (hr:RowsAt W A 2 (l.map rnR)):Rns W A l:=⟨hr,by have:=h.1;omega,h.2⟩
theorem LenR.turn {l:List Rn} (h:LenR l):LenR (Cal.turnR l):=⟨Nat.le_trans (Cal.turnR_len l) h.1,fun x hx=>by
 have:=h.2 _ (Cal.turnR_mem.1 hx)
 exact⟨this.2,this.1⟩⟩
theorem trn_to {l:List Rn} (h:LenR l):TrnTo l (Cal.turnN l) (Cal.numE l):=fun A c W hr=>Turn_any A c l W (h.rns hr)
theorem trn_good {l:List Rn} (h:LenR l) (h0:Cal.numE l=0):TrnTo l (Cal.turnR l) 0:=by
 have:=trn_to h
 rw[h0] at this
 unfold Cal.turnN at this
 rw[if_pos h0] at this
 exact this
end Go.Proofs.YthfokpchdlcidaaGreat
namespace Go.Proofs.YthfokpchdlcidaaGreat
open Go Go.RowKit Go.Shelf
structure FitL (l:List Lev) (fr:List (Int × Int)) (p:Int):Prop where
 p1:1≤p
 p2:p≤4000000000
 all:∀ h∈fr,1≤h.2∧Cal.bigH h=false
 at_:∀ x∈l,(0≤x.f∧x.f<fr.length)∧(0≤x.t∧x.t<fr.length)∧-100000≤x.d∧x.d≤100000∧1≤x.w∧x.w≤10
 box:∀ x∈l,-16400000000000000≤Cal.resV p fr x∧Cal.resV p fr x≤16400000000000000
theorem FitL.of {n:Int} {l:List Lev} {fr:List (Int × Int)} (hz:Cal.netE n l=0) (he:Cal.sclE n fr=0):FitL l fr (Cal.sclP n fr):=by
 obtain⟨hlen,_,p1,p2,hall⟩:=Cal.sclE_zero he
 refine⟨p1,p2,fun h hh=>⟨(hall h hh).1,(hall h hh).2.2.1⟩,fun x hx=>?_,Cal.resV_box hz he⟩
 have:=Cal.levE_zero ((Cal.netE_zero hz).2.2.2.1 x hx)
 omega
end Go.Proofs.YthfokpchdlcidaaGreat
namespace Go.Proofs.YthfokpchdlcidaaGreat
open Go Go.RowKit Go.Shelf
theorem ex_mis:Cal.misEN 3 (triLevs 1) [1,2,-3]=0∧Cal.misSN 3 (triLevs 1) [1,2,-3]=-6:=by decide +kernel
theorem surveyed_any (w:World):Calls Tryz.prog 32 #[] w fun e w'=>e=.returned (.bool true)∧Below w.heap.size w w':=by
 have hgap:=Lib.hid (fun A1 A2 A3 S W (h:SctR W (fieldS A1 A2 A3 S))=>by
  have:=Gap_any (fieldS A1 A2 A3 S) W h
  rw[field_zero,field_gap] at this
  exact this)
 have hmis:=Lib.hid (fun A c O c2 W (h:Levs W A (triLevs 1)) (hI:RowsAt W O 1 (intRows [1,2,-3]))=>by
  have:=Misclosure_any 3 A c (triLevs 1) O c2 [1,2,-3] W h hI (by decide) (by decide)
  rw[ex_mis.1,ex_mis.2] at this
  exact this)
 have hnew:=Lib.hid (fun (W:World) (t:TypeId)=>rows_new (m:=1) W (intRows [1,2,-3]) (intRows_wid _) #[.int .i64 1,.int .i64 2,.int .i64 (-3)] rfl t)
 go_enter Tryz.func32,Tryz.ntmps32
 go_wp2_with fail
 refine (lawTri_any _ _).mono ?_
 rintro e w1 ⟨A1,rfl,hL,hb1⟩
 have hL:=Lib.hid hL
 have hb1:=Lib.hid hb1
 go_wp2_with fail
 refine (hmis.out A1 3 _ 3 _ (hL.out.below (below_alloc _ _)) (hnew.out _ _)).mono ?_
 rintro e w2 ⟨rfl,hb2⟩
 have hb2:=Lib.hid (below_step (below_step hb1.out (below_alloc _ _)) hb2)
 clear hL hb1 hmis hnew
 go_wp2_with fail
 refine (Field_any _).mono ?_
 rintro e w3 ⟨B1,B2,B3,S,rfl,hS1,hb3⟩
 have hS1:=Lib.hid hS1
 have hb3:=Lib.hid (below_step hb2.out hb3)
 go_wp2_with fail
 refine (hgap.out B1 B2 B3 S _ hS1.out).mono ?_
 rintro e w4 ⟨rfl,hb4⟩
 have hb4:=Lib.hid (below_step hb3.out hb4)
 clear hS1 hgap hb2 hb3
 go_wp2_with fail
 go_ret
 exact⟨rfl,hb4.out⟩
end Go.Proofs.YthfokpchdlcidaaGreat
