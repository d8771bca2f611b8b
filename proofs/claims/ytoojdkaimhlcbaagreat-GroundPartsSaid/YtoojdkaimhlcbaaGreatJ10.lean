/- What the statements rest on: definitions and walks, part 10. -/
import Derived.Test.YtoojdkaimhlcbaaGreatJ09
set_option maxRecDepth 100000
set_option maxHeartbeats 16000000
set_option linter.unusedSimpArgs false
set_option linter.unusedVariables false
namespace Go.Proofs.YtoojdkaimhlcbaaGreat
open Go Go.RowKit Go.Sort
def rlB (a b c d:ByteArray):Bool:=Op.bytesLess a.toList c.toList || ((a.toList == c.toList) && Op.bytesLess b.toList d.toList)
theorem rlB_iff {a b c d:ByteArray} {x y:Rn} (h1:a.toList=x.old) (h2:b.toList=x.new) (h3:c.toList=y.old) (h4:d.toList=y.new):rlB a b c d=decide (Cal.rlt x y):=by
 unfold rlB
 rw[bytesLess_eq,bytesLess_eq,h1,h2,h3,h4,Bool.eq_iff_iff,Bool.or_eq_true,Bool.and_eq_true,decide_eq_true_iff,decide_eq_true_iff,beq_iff_eq,decide_eq_true_iff]
 rfl
theorem lessB_any (a b c d:ByteArray) (w:World):Calls Tryz.prog 30 #[.agg #[.string a,.string b],.agg #[.string c,.string d]] w fun e w'=>e=.returned (.bool (rlB a b c d))∧Below w.heap.size w w':=by
 have hb:=Lib.hid (below_step (below_alloc w (.cells #[.string a,.string b] 41)) (below_alloc _ (.cells #[.string c,.string d] 41)))
 have hR:Hid (rlB a b c d=(Op.bytesLess a.toList c.toList || ((a.toList == c.toList) && Op.bytesLess b.toList d.toList))):=rfl
 rw[hR.out]
 clear hR
 cases h1:Op.bytesLess a.toList c.toList
 ·cases h2:(a.toList == c.toList)
  ·go_enter Tryz.func30,Tryz.ntmps30
   go_wp2_with fail
   go_ret
   exact⟨rfl,hb.out⟩
  cases h3:Op.bytesLess b.toList d.toList
  ·go_enter Tryz.func30,Tryz.ntmps30
   go_wp2_with fail
   go_ret
   exact⟨rfl,hb.out⟩
  go_enter Tryz.func30,Tryz.ntmps30
  go_wp2_with fail
  go_ret
  exact⟨rfl,hb.out⟩
 go_enter Tryz.func30,Tryz.ntmps30
 go_wp2_with fail
 go_ret
 exact⟨rfl,hb.out⟩
theorem rnLess_any (a b c d:ByteArray) (x y:Rn) (w:World) (h1:a.toList=x.old) (h2:b.toList=x.new) (h3:c.toList=y.old) (h4:d.toList=y.new):Calls Tryz.prog 30 #[.agg #[.string a,.string b],.agg #[.string c,.string d]] w fun e w'=>e=.returned (.bool (decide (Cal.rlt x y)))∧Below w.heap.size w w':=by
 rw[←rlB_iff h1 h2 h3 h4]
 exact lessB_any a b c d w
theorem CheckNumbersR_any (A:Option Addr) (c:Nat) (l:List Rn) (w:World) (hl:Rns w A l) :
  Calls Tryz.prog 9 #[.slice A l.length c] w fun e w'=>e=.returned (.int .i64 (Cal.numE l))∧Below w.heap.size w w':=by
 have hb0:Hid (Below w.heap.size w w):=Below.refl _ _
 by_cases hbig:200<l.length
 ·have hR:Cal.numE l=8:=by unfold Cal.numE;rw[if_pos hbig]
  have hbi:200<(l.length:Int):=by omega
  rw[hR]
  clear hR hl
  go_enter Tryz.func9,Tryz.ntmps9
  go_wp2_with fail
  go_ret
  exact⟨rfl,hb0.out⟩
 obtain⟨R,hRR⟩:∃ R,Cal.numE l=R:=⟨_,rfl⟩
 have hbi:¬200<(l.length:Int):=by omega
 have hR:Hid (R=Cal.numF (Cal.befR l 0) (l.drop 0)):=by
  show _=_
  rw[←hRR]
  unfold Cal.numE Cal.befR
  rw[if_neg hbig]
  rfl
 rw[hRR]
 clear hRR
 replace hl:=Lib.hid hl
 go_enter Tryz.func9,Tryz.ntmps9
 go_wp2_with fail
 go_loopw [3] (fun i wr=>∃ k:Nat,k≤l.length∧i=.int .i64 k∧Hid (R=Cal.numF (Cal.befR l k) (l.drop k))∧Hid (Below w.heap.size w wr)) (fun i _=>l.length-(intOf i).toNat)
 case atStart=>exact⟨0,Nat.zero_le _,rfl,hR,hb0⟩
 case round =>
  clear hR hb0
  obtain⟨k,hk,rfl,hR,hb⟩:=hrel
  by_cases hlt:k<l.length
  ·have hk':l[k]?=some l[k]:=List.getElem?_eq_getElem hlt
   have hd:=Lib.hid (List.drop_eq_getElem_cons hlt)
   have hln:=hl.out.len _ (List.getElem_mem hlt)
   have hbs:Cal.befR l (k+1)=some l[k]:=by rw[Cal.befR_succ];exact hk'
   have hR':=hR.out
   rw[hd.out,Cal.numF_cons,←hbs] at hR'
   replace hR:=Lib.hid hR'
   clear hR' hd hbs
   generalize l[k]=x at *
   obtain⟨b,o,rfl,hbl,ao,an,ha1,ha2,c0,c1⟩:=rn_at (hl.out.rows.below hb.out) hk'
   have hs1:ao.size≤maxLen:=by rw[size_len ha1];exact hln.1
   have hs2:an.size≤maxLen:=by rw[size_len ha2];exact hln.2
   have hn1:=Lib.hid (fun W=>IsName_any ao W hs1)
   have hn2:=Lib.hid (fun W=>IsName_any an W hs2)
   rw[←nmT_of,ha1] at hn1
   rw[←nmT_of,ha2] at hn2
   have hki:(k:Int)<(l.length:Int):=by omega
   have m1:Hid True:=trivial
   clear hk' hln hs1 hs2
   cases h1:nmT x.old
   ·rw[h1] at hn1
    have hfin:Hid (R=4):=by show _=_;rw[hR.out,h1];rfl
    clear hR ha1 ha2
    go_wp2_with (go_at_call 26;(first | (clear m1;refine (hn1.out _).mono ?_;rintro e0 wn ⟨rfl,rfl⟩) | (refine (hn2.out _).mono ?_;rintro e0 wn ⟨rfl,rfl⟩)))
    go_ret
    exact⟨ret_int hfin.out.symm,hb.out⟩
   cases h2:nmT x.new
   ·rw[h1] at hn1
    rw[h2] at hn2
    have hfin:Hid (R=4):=by show _=_;rw[hR.out,h1,h2];rfl
    clear hR ha1 ha2
    go_wp2_with (go_at_call 26;(first | (clear m1;refine (hn1.out _).mono ?_;rintro e0 wn ⟨rfl,rfl⟩) | (refine (hn2.out _).mono ?_;rintro e0 wn ⟨rfl,rfl⟩)))
    go_ret
    exact⟨ret_int hfin.out.symm,hb.out⟩
   rw[h1] at hn1
   rw[h2] at hn2
   have hR':R=if Cal.folB (Cal.befR l k) x then Cal.numF (Cal.befR l (k+1)) (l.drop (k+1)) else 9:=by rw[hR.out,h1,h2];rfl
   replace hR:=Lib.hid hR'
   clear hR' h1 h2
   by_cases hk0:k=0
   ·subst hk0
    rw[Nat.zero_mul,Nat.add_zero] at c0 c1
    have hnx:Hid (R=Cal.numF (Cal.befR l (0+1)) (l.drop (0+1))):=by show _=_;rw[hR.out];rfl
    clear hR ha1 ha2
    go_wp2_with (go_at_call 26;(first | (clear m1;refine (hn1.out _).mono ?_;rintro e0 wn ⟨rfl,rfl⟩) | (refine (hn2.out _).mono ?_;rintro e0 wn ⟨rfl,rfl⟩)))
    refine wp_region_held_drew (S:=Sx wr []) (by kernel_rfl) (Sx.mk (cs_nil _) (Below.refl _ _)).drew (fun hHeld=>?_)
    clear c0 c1
    refine tkHx 0 29 ?_
    refine tkHx 1 30 ?_
    refine tkHx 2 31 ?_
    refine tkFx 3 32 ?_
    refine tkFx 4 33 ?_
    refine tkFx 5 34 ?_
    refine tkFx 6 35 ?_
    refine tkFx 7 36 ?_
    refine tkFx 8 37 ?_
    refine tkFx 9 38 ?_
    refine tkFx 10 39 ?_
    refine tkFx 11 40 ?_
    refine tkFx 12 41 ?_
    refine tkFx 13 42 ?_
    refine tkHx 14 43 ?_
    refine wpAnyH_done (by kernel_rfl) ?_ _
    (try simp only[apS,apN,siA,scZ,scS])
    have hbe:=Lib.hid (hb.out.trans (hHeld.bel.mono hb.out.size))
    clear hHeld
    go_wp2_with fail
    go_roundw
    case rel=>exact⟨1,by omega,by go_num,hnx,hbe⟩
    case measure=>simp[intOf];omega
   have hq1:k-1<l.length:=by omega
   have hbf:Cal.befR l k=some l[k-1]:=by unfold Cal.befR;rw[if_neg hk0];exact List.getElem?_eq_getElem hq1
   have hR':=hR.out
   rw[hbf] at hR'
   replace hR:=Lib.hid hR'
   have hj':l[k-1]?=some l[k-1]:=List.getElem?_eq_getElem hq1
   have hrows:=Lib.hid (fun W (hW:Below w.heap.size w W)=>rn_at (hl.out.rows.below hW) hj')
   clear hR' hbf hj'
   generalize l[k-1]=y at *
   have p1:IntKind.i64.wrap ((k:Int)-1)=(k:Int)-1:=wrap_small (by omega) (by omega)
   have p2:(1:Int)≤(k:Int):=by omega
   have p3:(0:Int)<(k:Int):=by omega
   have p4:(k:Int)-1<(l.length:Int):=by omega
   have p5:((k:Int)-1).toNat=k-1:=by omega
   have p6:(0:Int)≤(k:Int)-1:=by omega
   have p7:0<k:=by omega
   have p8:1≤k:=by omega
   obtain⟨b',o',hA',hbl',bo,bn,hb1,hb2,d0,d1⟩:=hrows.out _ hb.out
   cases hA'
   have hcm:=Lib.hid (fun W=>rnLess_any bo bn ao an y x W hb1 hb2 ha1 ha2)
   have hfo:Hid (Cal.folB (some y) x=decide (Cal.rlt y x)):=rfl
   clear ha1 ha2 hb1 hb2 hrows
   generalize decide (Cal.rlt y x)=v at *
   go_wp2_with (go_at_call 26;(first | (clear m1;refine (hn1.out _).mono ?_;rintro e0 wn ⟨rfl,rfl⟩) | (refine (hn2.out _).mono ?_;rintro e0 wn ⟨rfl,rfl⟩)))
   refine wp_region_held_drew (S:=Sx wr [(b,o+(k-1)*2,.string bo),(b,o+(k-1)*2+1,.string bn),(b,o+k*2,.string ao),(b,o+k*2+1,.string an)]) (by kernel_rfl) (Sx.mk (by simp only[cs_iff_cons];exact⟨d0,d1,c0,c1,cs_nil _⟩) (Below.refl _ _)).drew (fun hHeld=>?_)
   clear d0 d1 c0 c1
   (refine wpAnyH_hide (fun _ _ _ _ _ h=>h) (fun Q0 hp0 hQ0=>?_))
   refine tkQx 0 29 hp0 ?_
   refine tkQx 1 30 hp0 ?_
   refine tkQx 2 31 hp0 ?_
   refine tkQx 3 32 hp0 ?_
   refine tkQx 4 33 hp0 ?_
   refine tkQx 5 34 hp0 ?_
   refine tkQx 6 35 hp0 ?_
   refine tkQx 7 36 hp0 ?_
   refine tkQx 8 37 hp0 ?_
   refine tkQx 9 38 hp0 ?_
   refine tkQx 10 39 hp0 ?_
   refine tkQx 11 40 hp0 ?_
   (refine ratHx 12 (fun K hK=>?_);go_simp)
   refine (hcm.out _).mono ?_
   rintro e wn ⟨rfl,hbn⟩
   go_simp
   (refine hK.out _ _ (hHeld.step hbn) (fun hHeld=>?_);clear hK K;(try simp only[apS,apN,siA,scZ,scS]))
   refine tkQx 13 42 hp0 ?_
   refine tkQx 14 43 hp0 ?_
   refine wpAnyH_done (by kernel_rfl) ?_ _
   (try simp only[apS,apN,siA,scZ,scS])
   (obtain rfl:=hQ0.out;clear hp0)
   have hbe:=Lib.hid (hb.out.trans (hHeld.bel.mono hb.out.size))
   clear hHeld hcm
   cases v
   ·have hfin:Hid (R=9):=by show _=_;rw[hR.out,hfo.out];rfl
    clear hR hfo
    go_wp2_with fail
    go_ret
    exact⟨ret_int hfin.out.symm,hbe.out⟩
   have hnx:Hid (R=Cal.numF (Cal.befR l (k+1)) (l.drop (k+1))):=by show _=_;rw[hR.out,hfo.out];rfl
   clear hR hfo
   go_wp2_with fail
   go_roundw
   case rel=>exact⟨k+1,by omega,by go_num,hnx,hbe⟩
   case measure=>simp[intOf];omega
  have hfin:Hid (R=0):=by show _=_;rw[hR.out,List.drop_of_length_le (by omega)];cases Cal.befR l k <;> rfl
  have hge:l.length=k:=by omega
  clear hR
  go_wp2_with fail
  go_ret
  exact⟨ret_int hfin.out.symm,hb.out⟩
theorem TextsR_any (V:Option Addr) (d:Nat) (V2:Option Addr) (d2:Nat) (l:List Cal.Txt) (w:World) (hA:RowsAt w V 1 (txtRows l)) (hB:RowsAt w V2 1 (txtRows l)) (hl:l.length≤1000000) :
  Calls Tryz.prog 31 #[.slice V l.length d,.slice V2 l.length d2] w fun e w'=>e=.returned (.bool true)∧Below w.heap.size w w':=by
 have hb0:Hid (Below w.heap.size w w):=Below.refl _ _
 replace hA:=Lib.hid hA
 replace hB:=Lib.hid hB
 go_enter Tryz.func31,Tryz.ntmps31
 go_wp2_with fail
 go_loopw [5] (fun kv wr=>∃ k:Nat,k≤l.length∧kv=.int .i64 k∧Hid (Below w.heap.size w wr)) (fun kv _=>l.length-(intOf kv).toNat)
 case atStart=>exact⟨0,Nat.zero_le _,rfl,hb0⟩
 case round =>
  clear hb0
  obtain⟨k,hk,rfl,hb⟩:=hrel
  by_cases hlt:k<l.length
  ·obtain⟨b1,o1,rfl,_,s1,hs1,a0⟩:=txtRow_at (hA.out.below hb.out) hlt
   obtain⟨b2,o2,rfl,_,s2,hs2,c0⟩:=txtRow_at (hB.out.below hb.out) hlt
   have hki:(k:Int)<(l.length:Int):=by omega
   have hne:(s1.toList == s2.toList)=true:=by rw[hs1,hs2];exact beq_self_eq_true _
   clear hs1 hs2
   go_wp2_with fail
   refine wp_region_held_drew (S:=Sx wr [(b1,o1+k,.string s1),(b2,o2+k,.string s2)]) (by kernel_rfl) (Sx.mk (by simp only[cs_iff_cons];exact⟨a0,c0,cs_nil _⟩) (Below.refl _ _)).drew (fun hHeld=>?_)
   clear a0 c0
   refine tkHx 0 17 ?_
   refine tkHx 1 18 ?_
   refine tkHx 2 19 ?_
   refine tkHx 3 20 ?_
   refine tkHx 4 21 ?_
   refine tkHx 5 22 ?_
   refine tkHx 6 23 ?_
   refine tkHx 7 24 ?_
   refine tkHx 8 25 ?_
   refine wpAnyH_done (by kernel_rfl) ?_ _
   (try simp only[apS,apN,siA,scZ,scS])
   have hbe:=Lib.hid (hb.out.trans (hHeld.bel.mono hb.out.size))
   clear hHeld
   go_wp2_with fail
   go_roundw
   case rel=>exact⟨k+1,by omega,by go_num,hbe⟩
   case measure=>simp[intOf];omega
  go_wp2_with fail
  go_ret
  exact⟨rfl,hb.out⟩
end Go.Proofs.YtoojdkaimhlcbaaGreat
namespace Go.Proofs.YtoojdkaimhlcbaaGreat
open Go Go.RowKit Go.Sort
structure TxS where
 A:Option Addr
 c:Nat
 zs:List Cal.Txt
structure TxSR (w:World) (x:TxS):Prop where
 rows:RowsAt w x.A 1 (txtRows x.zs)
 size:x.zs.length≤1000000
 len:∀ t∈x.zs,t.length≤maxLen
theorem TxSR.below {w w':World} {x:TxS} (h:TxSR w x) (hb:Below w.heap.size w w'):TxSR w' x:=⟨h.rows.below hb,h.size,h.len⟩
def pick2 (x y:TxS) (k:Nat):TxS:=if k=0 then x else y
theorem pick2_ix (x y:TxS) {k:Nat} (hk:k<2) (w:World):(Instr.index 64 (.agg #[.slice x.A x.zs.length x.c,.slice y.A y.zs.length y.c]) (.int .i64 k)).run Tryz.prog w=.ok (.slice (pick2 x y k).A (pick2 x y k).zs.length (pick2 x y k).c) w:=by
 rcases Nat.lt_or_ge k 1 with h | h
 ·obtain rfl:k=0:=by omega
  show _=Result.ok (Value.slice x.A x.zs.length x.c) w
  kernel_rfl
 obtain rfl:k=1:=by omega
 show _=Result.ok (Value.slice y.A y.zs.length y.c) w
 kernel_rfl
theorem pick2_R {w:World} {x y:TxS} (hx:TxSR w x) (hy:TxSR w y) (k:Nat):TxSR w (pick2 x y k):=by unfold pick2;split <;> assumption
noncomputable def knE (x y:TxS):Int:=Cal.kE fun k=>(pick2 x y k).zs
noncomputable def knK (x y:TxS):Int:=Cal.kK fun k=>(pick2 x y k).zs
theorem KindOf1_any (s:ByteArray) (w:World) (hs:s.size≤maxLen):Calls Tryz.prog 20 #[.string s] w fun e w'=>e=.returned (.bool (!nameB s))∧Below w.heap.size w w':=by
 have hn:=Lib.hid (gisName_any s w hs)
 go_enter Tryz.func20,Tryz.ntmps20
 go_wp2_with fail
 refine hn.out.mono ?_
 rintro e w' ⟨rfl,hb⟩
 replace hb:=Lib.hid hb
 go_wp2_with fail
 go_ret
 exact⟨rfl,hb.out⟩
theorem IndexNo_any (x:TxS) (w:World) (h:TxSR w x) :
  Calls Tryz.prog 43 #[.slice x.A x.zs.length x.c,.func (.func 20) #[] #[]] w fun e w'=>(∃ i:Int,e=.returned (.int .i64 i)∧-1≤i∧(0≤i↔¬Cal.g2 x.zs))∧Below w.heap.size w w':=by
 have hb0:Hid (Below w.heap.size w w):=Below.refl _ _
 have h0:Hid (Cal.g2 (x.zs.take 0)):=fun t ht=>by rw[List.take_zero] at ht;cases ht
 replace h:=Lib.hid h
 have hzs:=h.out.size
 obtain⟨A,c,zs⟩:=x
 dsimp only at *
 go_enter Tryz.func43,Tryz.ntmps43
 go_wp2_with fail
 go_loopw [8] (fun i wr=>∃ k:Nat,k≤zs.length∧i=.int .i64 k∧Hid (Cal.g2 (zs.take k))∧Hid (Below w.heap.size w wr)) (fun i _=>zs.length-(intOf i).toNat)
 case atStart=>exact⟨0,Nat.zero_le _,rfl,h0,hb0⟩
 case round =>
  clear h0 hb0
  obtain⟨k,hk,rfl,hall,hb⟩:=hrel
  by_cases hlt:k<zs.length
  ·obtain⟨b,o,rfl,_,s1,hs1,c0⟩:=txtRow_at (h.out.rows.below hb.out) hlt
   have htk:Hid (zs.take (k+1)=zs.take k ++ [zs[k]]):=by show _=_;rw[List.take_succ_eq_append_getElem hlt]
   have hmem:Hid (zs[k]∈zs):=List.getElem_mem hlt
   have hln:=h.out.len _ (List.getElem_mem hlt)
   have hki:(k:Int)<(zs.length:Int):=by omega
   have hk1:=Lib.hid (fun W=>KindOf1_any s1 W (by rw[size_len hs1];exact hln))
   rw[←nmT_of,hs1] at hk1
   generalize zs[k]=t at *
   clear hln
   cases he:nmT t
   ·rw[he] at hk1
    have hno:Hid (¬Cal.g2 zs):=fun hg=>by have:=hg _ hmem.out;rw[he] at this;cases this
    clear hs1 hall htk hmem
    go_wp2_with (go_at_call 20;refine (hk1.out _).mono ?_;clear hk1;rintro e0 wn ⟨rfl,hbn⟩;have hb2:=Lib.hid (below_step hb.out hbn);clear hbn)
    go_ret
    exact⟨⟨k,rfl,by omega,⟨fun _=>hno.out,fun _=>by omega⟩⟩,hb2.out⟩
   rw[he] at hk1
   have hnx:Hid (Cal.g2 (zs.take (k+1))):=fun t' ht'=>by
    rw[htk.out,List.mem_append,List.mem_singleton] at ht'
    rcases ht' with h1 | rfl
    ·exact hall.out _ h1
    exact he
   clear hs1 hall htk hmem
   go_wp2_with (go_at_call 20;refine (hk1.out _).mono ?_;clear hk1;rintro e0 wn ⟨rfl,hbn⟩;replace hb:=Lib.hid (below_step hb.out hbn);clear hbn)
   go_roundw
   case rel=>exact⟨k+1,by omega,by go_num,hnx,hb⟩
   case measure=>simp[intOf];omega
  have hyes:Hid (Cal.g2 zs):=by
   have:=hall.out
   rw[List.take_of_length_le (by omega)] at this
   exact this
  clear hall
  go_wp2_with fail
  go_ret
  exact⟨⟨-1,rfl,by omega,⟨fun h=>absurd h (by decide),fun h=>absurd hyes.out h⟩⟩,hb.out⟩
theorem ContainsNo_any (x:TxS) (w:World) (h:TxSR w x) :
  Calls Tryz.prog 19 #[.slice x.A x.zs.length x.c,.func (.func 20) #[] #[]] w fun e w'=>(∃ b,e=.returned (.bool b)∧(b=true↔¬Cal.g2 x.zs))∧Below w.heap.size w w':=by
 have hi:=Lib.hid (IndexNo_any x w h)
 clear h
 go_enter Tryz.func19,Tryz.ntmps19
 go_wp2_with fail
 refine hi.out.mono ?_
 rintro e w' ⟨⟨i,rfl,hi1,hi2⟩,hb⟩
 replace hi2:=Lib.hid hi2
 replace hb:=Lib.hid hb
 go_wp2_with fail
 go_ret
 exact⟨⟨_,rfl,by rw[←hi2.out];simp⟩,hb.out⟩
structure KnI (w:World) (x y:TxS) (W:World):Prop where
 bx:BoxAt W w.heap.size [.slice x.A x.zs.length x.c,.slice y.A y.zs.length y.c]
 ar:BoxAt W (w.heap.size+1) [.slice x.A x.zs.length x.c,.slice y.A y.zs.length y.c]
 bel:Below w.heap.size w W
theorem KnI.below {w:World} {x y:TxS} {X Y:World} (h:KnI w x y X) (hb:Below X.heap.size X Y):KnI w x y Y:=⟨h.bx.below hb,h.ar.below hb,below_step h.bel hb⟩
theorem kk_1 {Z:Nat→List Cal.Txt} (h1:∀ k,k<2→Cal.g1 (Z k)) (h2:∀ k,k<2→Cal.g2 (Z k)) (h3:∀ k,k<2→Cal.g3 (Z k)):Cal.kE Z=0∧Cal.kK Z=(if 1<(Z 1).length then 1 else 0)+(if 1<(Z 0).length then 2 else 0):=by
 have h:=Cal.kE_0 h1 h2 h3
 exact⟨h,Cal.kK_yes h⟩
theorem KindOf_any (x y:TxS) (w:World) (hx:TxSR w x) (hy:TxSR w y) :
  Calls Tryz.prog 6 #[.agg #[.slice x.A x.zs.length x.c,.slice y.A y.zs.length y.c]] w fun e w'=>e=.returned (.tuple #[.int .i64 (knK x y),.int .i64 (knE x y)])∧Below w.heap.size w w':=by
 have hI:Hid (KnI w x y ((w.alloc (.cells #[.slice x.A x.zs.length x.c,.slice y.A y.zs.length y.c] 25)).alloc (.cells #[.slice x.A x.zs.length x.c,.slice y.A y.zs.length y.c] 64))):=by
  have b2:=BoxAt.new (w.alloc (.cells #[.slice x.A x.zs.length x.c,.slice y.A y.zs.length y.c] 25)) #[.slice x.A x.zs.length x.c,.slice y.A y.zs.length y.c] 64
  rw[World.size_alloc] at b2
  exact⟨(BoxAt.new w #[.slice x.A x.zs.length x.c,.slice y.A y.zs.length y.c] 25).alloc _,b2,below_step (below_alloc _ _) (below_alloc _ _)⟩
 have hp:=Lib.hid (fun k=>pick2_R hx hy k)
 have qx:=Lib.hid (fun k (hk:k<2) W=>pick2_ix x y (k:=k) hk W)
 obtain⟨E,hE⟩:∃ E,knE x y=E:=⟨_,rfl⟩
 obtain⟨K9,hK9⟩:∃ K,knK x y=K:=⟨_,rfl⟩
 have h10:Hid (∀ k,k<2→¬Cal.g1 (pick2 x y k).zs→E=10∧K9=0):=fun k hk h=>by
  have h1:Cal.kE (fun k=>(pick2 x y k).zs)=10:=Cal.kE_10 (Z:=fun k=>(pick2 x y k).zs) hk h
  exact⟨by rw[←hE];exact h1,by rw[←hK9];exact Cal.kK_no (by rw[h1];decide)⟩
 have h4:Hid ((∀ k,k<2→Cal.g1 (pick2 x y k).zs)→∀ k,k<2→¬Cal.g2 (pick2 x y k).zs→E=4∧K9=0):=fun hg1 k hk h=>by
  have h1:Cal.kE (fun k=>(pick2 x y k).zs)=4:=Cal.kE_4 (Z:=fun k=>(pick2 x y k).zs) hg1 hk h
  exact⟨by rw[←hE];exact h1,by rw[←hK9];exact Cal.kK_no (by rw[h1];decide)⟩
 have h9:Hid ((∀ k,k<2→Cal.g1 (pick2 x y k).zs)→(∀ k,k<2→Cal.g2 (pick2 x y k).zs)→∀ k,k<2→¬Cal.g3 (pick2 x y k).zs→E=9∧K9=0):=fun hg1 hg2 k hk h=>by
  have h1:Cal.kE (fun k=>(pick2 x y k).zs)=9:=Cal.kE_9 (Z:=fun k=>(pick2 x y k).zs) hg1 hg2 hk h
  exact⟨by rw[←hE];exact h1,by rw[←hK9];exact Cal.kK_no (by rw[h1];decide)⟩
 have hok:Hid ((∀ k,k<2→Cal.g1 (pick2 x y k).zs)→(∀ k,k<2→Cal.g2 (pick2 x y k).zs)→(∀ k,k<2→Cal.g3 (pick2 x y k).zs)→E=0∧K9=(if 1<y.zs.length then 1 else 0)+(if 1<x.zs.length then 2 else 0)):=fun hg1 hg2 hg3=>by
  obtain⟨h1,h2⟩:=kk_1 (Z:=fun k=>(pick2 x y k).zs) hg1 hg2 hg3
  exact⟨by rw[←hE];exact h1,by rw[←hK9];exact h2⟩
 rw[hE,hK9]
 clear hE hK9
 have hzx:=hx.size
 have hzy:=hy.size
 clear hx hy
 have z0:=(BoxAt.new w #[.slice x.A x.zs.length x.c,.slice y.A y.zs.length y.c] 25).c 0 _ rfl
 have z1:=(BoxAt.new w #[.slice x.A x.zs.length x.c,.slice y.A y.zs.length y.c] 25).c 1 _ rfl
 go_enter Tryz.func6,Tryz.ntmps6
 go_wp2_with fail
 clear z0 z1
 have hv0:Hid (∀ j,j<0→Cal.g1 (pick2 x y j).zs):=fun j hj=>absurd hj (Nat.not_lt_zero _)
 go_loopw [18] (fun i wr=>∃ k:Nat,k≤2∧i=.int .i64 k∧Hid (∀ j,j<k→Cal.g1 (pick2 x y j).zs)∧Hid (KnI w x y wr)) (fun i _=>2-(intOf i).toNat)
 case atStart=>exact⟨0,by decide,rfl,hv0,hI⟩
 case round =>
  clear hv0 hI
  obtain⟨k,hk,rfl,hg1,hI⟩:=hrel
  by_cases hlt:k<2
  ·have q0:=qx.out k hlt
   have hki:(k:Int)<2:=by omega
   have hbad:=h10.out k hlt
   have hnext:Cal.g1 (pick2 x y k).zs→Hid (∀ j,j<k+1→Cal.g1 (pick2 x y j).zs):=fun h j hj=>by
    rcases Nat.lt_or_eq_of_le (show j≤k by omega) with h' | rfl
    ·exact hg1.out j h'
    exact h
   have hzs:=(hp.out k).size
   generalize pick2 x y k=z at *
   unfold Cal.g1 at hbad hnext
   by_cases n1:z.zs.length<1
   ·have hEE:=Lib.hid (hbad (by omega))
    have n2:(z.zs.length:Int)<1:=by omega
    clear hbad hnext
    go_wp2_with fail
    go_ret2
    exact⟨by rw[hEE.out.1,hEE.out.2];rfl,hI.out.bel⟩
   by_cases n3:200<z.zs.length
   ·have hEE:=Lib.hid (hbad (by omega))
    have n2:¬(z.zs.length:Int)<1:=by omega
    have n4:200<(z.zs.length:Int):=by omega
    clear hbad hnext
    go_wp2_with fail
    go_ret2
    exact⟨by rw[hEE.out.1,hEE.out.2];rfl,hI.out.bel⟩
   have hnx:=hnext (by omega)
   have n2:¬(z.zs.length:Int)<1:=by omega
   have n4:¬200<(z.zs.length:Int):=by omega
   clear hbad hnext
   go_wp2_with fail
   go_roundw
   case rel=>exact⟨k+1,by omega,by go_num,hnx,hI⟩
   case measure=>simp[intOf];omega
  have hki:¬(k:Int)<2:=by omega
  have hg1':∀ j,j<2→Cal.g1 (pick2 x y j).zs:=fun j hj=>hg1.out j (by omega)
  replace h4:=Lib.hid (h4.out hg1')
  replace h9:=Lib.hid (h9.out hg1')
  replace hok:=Lib.hid (hok.out hg1')
  clear hg1' hg1 h10
  generalize k=k9 at *
  (obtain⟨x0,x1⟩:=hI.out.bx.c2;obtain⟨y0,y1⟩:=hI.out.ar.c2)
  go_wp2_with fail
  clear x0 x1 y0 y1
  have hv0:Hid (∀ j,j<0→Cal.g2 (pick2 x y j).zs):=fun j hj=>absurd hj (Nat.not_lt_zero _)
  go_loopw [31] (fun i wr=>∃ k:Nat,k≤2∧i=.int .i64 k∧Hid (∀ j,j<k→Cal.g2 (pick2 x y j).zs)∧Hid (KnI w x y wr)) (fun i _=>2-(intOf i).toNat)
  case atStart=>exact⟨0,by decide,rfl,hv0,hI⟩
  case round =>
   clear hv0 hI hk hlt
   obtain⟨k,hk,rfl,hg2,hI⟩:=hrel
   by_cases hlt:k<2
   ·have q0:=qx.out k hlt
    have hkj:(k:Int)<2:=by omega
    have hbad:=Lib.hid (h4.out k hlt)
    have hnext:Hid (Cal.g2 (pick2 x y k).zs→∀ j,j<k+1→Cal.g2 (pick2 x y j).zs):=fun h j hj=>by
     rcases Nat.lt_or_eq_of_le (show j≤k by omega) with h' | rfl
     ·exact hg2.out j h'
     exact h
    have hcn:=Lib.hid (ContainsNo_any (pick2 x y k) wr ((hp.out k).below hI.out.bel))
    generalize pick2 x y k=z at *
    go_wp2_with fail
    go_at_call 19
    refine hcn.out.mono ?_
    clear hcn
    rintro e0 wn ⟨⟨bb,rfl,hbb⟩,hbn⟩
    replace hbb:=Lib.hid hbb
    replace hI:=Lib.hid (hI.out.below hbn)
    clear hbn
    cases bb
    ·have hg:Cal.g2 z.zs:=Classical.byContradiction fun h=>by have:=hbb.out.2 h;cases this
     have hnx:=Lib.hid (hnext.out hg)
     clear hg hbb hnext hbad
     go_wp2_with fail
     go_roundw
     case rel=>exact⟨k+1,by omega,by go_num,hnx,hI⟩
     case measure=>simp[intOf];omega
    have hEE:=Lib.hid (hbad.out (hbb.out.1 rfl))
    clear hbb hnext hbad
    go_wp2_with fail
    go_ret2
    exact⟨by rw[hEE.out.1,hEE.out.2];rfl,hI.out.bel⟩
   have hkj:¬(k:Int)<2:=by omega
   have hg2':∀ j,j<2→Cal.g2 (pick2 x y j).zs:=fun j hj=>hg2.out j (by omega)
   replace h9:=Lib.hid (h9.out hg2')
   replace hok:=Lib.hid (hok.out hg2')
   clear hg2' hg2 h4
   generalize k=k8 at *
   (obtain⟨x0,x1⟩:=hI.out.bx.c2;obtain⟨y0,y1⟩:=hI.out.ar.c2)
   go_wp2_with fail
   clear x0 x1 y0 y1
   have hv0:Hid (∀ j,j<0→Cal.g3 (pick2 x y j).zs):=fun j hj=>absurd hj (Nat.not_lt_zero _)
   go_loopw [38] (fun i wr=>∃ k:Nat,k≤2∧i=.int .i64 k∧Hid (∀ j,j<k→Cal.g3 (pick2 x y j).zs)∧Hid (KnI w x y wr)) (fun i _=>2-(intOf i).toNat)
   case atStart=>exact⟨0,by decide,rfl,hv0,hI⟩
   case round =>
    clear hv0 hI hk hlt
    obtain⟨k,hk,rfl,hg3,hI⟩:=hrel
    by_cases hlt:k<2
    ·have q0:=qx.out k hlt
     have hkl:(k:Int)<2:=by omega
     have hbad:=Lib.hid (h9.out k hlt)
     have hnext:Hid (Cal.g3 (pick2 x y k).zs→∀ j,j<k+1→Cal.g3 (pick2 x y j).zs):=fun h j hj=>by
      rcases Nat.lt_or_eq_of_le (show j≤k by omega) with h' | rfl
      ·exact hg3.out j h'
      exact h
     have hR:=Lib.hid (hp.out k)
     have hzs:=hR.out.size
     generalize pick2 x y k=z at *
     have his:=Lib.hid (IsSortedS_any z.A z.c z.zs wr (hR.out.below hI.out.bel).rows hzs)
     have hcl:=Lib.hid (fun W (hb:Below w.heap.size w W)=>CloneS_any z.A z.c z.zs W (hR.out.below hb).rows hzs)
     have hasc:=Lib.hid (Cal.asc_iff (zs:=z.zs))
     by_cases hs:z.zs.Pairwise (·≤·)
     ·rw[decide_eq_true hs] at his
      by_cases hc:(Lib.compact z.zs).length<z.zs.length
      ·have hEE:=Lib.hid (hbad.out (fun h=>(hasc.out.1 h).2 hc))
       have hci:((Lib.compact z.zs).length:Int)<(z.zs.length:Int):=by omega
       clear hbad hnext hasc hs
       go_wp2_with (first
        |(go_at_call 22;refine his.out.mono ?_;clear his;rintro e0 wn ⟨rfl,hbn⟩;replace hI:=Lib.hid (hI.out.below hbn);clear hbn)
        |(go_at_call 24;refine (hcl.out _ hI.out.bel).mono ?_;clear hcl;rintro e0 wn ⟨v8,rfl,hO8,hbn⟩;have hbz:=Lib.hid (show w.heap.size+1<_ from hI.out.ar.lt);replace hI:=Lib.hid (hI.out.below hbn);replace hO8:=Lib.hid hO8;replace hbn:=Lib.hid hbn)
        |(go_at_call 23;refine (CompactT_own _ _ v8 _ hO8.out hzs).mono ?_;rintro e0 wn ⟨v9,rfl,hO9,hg9,_⟩;obtain⟨A9,c9,rfl,_⟩:=hO9.rows;have hJ:=Lib.hid (show KnI w x y _ from ⟨hI.out.bx.grown hg9 (fun eg=>by have:=(OwnL.lt hO8.out _ eg.symm).1;have:=hbz.out;omega),hI.out.ar.grown hg9 (fun eg=>by have:=(OwnL.lt hO8.out _ eg.symm).1;have:=hbz.out;omega),hI.out.bel.trans (grown_below hg9 (fun g eg=>by have:=(OwnL.lt hO8.out g eg).1;have:=hbz.out;omega) hI.out.bel.size)⟩);replace hI:=hJ;clear hJ hO8 hO9 hg9))
       go_wp2_with fail
       go_ret2
       exact⟨by rw[hEE.out.1,hEE.out.2];rfl,hI.out.bel⟩
      have hnx:=Lib.hid (hnext.out (hasc.out.2 ⟨hs,hc⟩))
      have hci:¬((Lib.compact z.zs).length:Int)<(z.zs.length:Int):=by omega
      clear hbad hnext hasc hs
      go_wp2_with (first
       |(go_at_call 22;refine his.out.mono ?_;clear his;rintro e0 wn ⟨rfl,hbn⟩;replace hI:=Lib.hid (hI.out.below hbn);clear hbn)
       |(go_at_call 24;refine (hcl.out _ hI.out.bel).mono ?_;clear hcl;rintro e0 wn ⟨v8,rfl,hO8,hbn⟩;have hbz:=Lib.hid (show w.heap.size+1<_ from hI.out.ar.lt);replace hI:=Lib.hid (hI.out.below hbn);replace hO8:=Lib.hid hO8;replace hbn:=Lib.hid hbn)
       |(go_at_call 23;refine (CompactT_own _ _ v8 _ hO8.out hzs).mono ?_;rintro e0 wn ⟨v9,rfl,hO9,hg9,_⟩;obtain⟨A9,c9,rfl,_⟩:=hO9.rows;have hJ:=Lib.hid (show KnI w x y _ from ⟨hI.out.bx.grown hg9 (fun eg=>by have:=(OwnL.lt hO8.out _ eg.symm).1;have:=hbz.out;omega),hI.out.ar.grown hg9 (fun eg=>by have:=(OwnL.lt hO8.out _ eg.symm).1;have:=hbz.out;omega),hI.out.bel.trans (grown_below hg9 (fun g eg=>by have:=(OwnL.lt hO8.out g eg).1;have:=hbz.out;omega) hI.out.bel.size)⟩);replace hI:=hJ;clear hJ hO8 hO9 hg9))
      go_wp2_with fail
      go_roundw
      case rel=>exact⟨k+1,by omega,by go_num,hnx,hI⟩
      case measure=>simp[intOf];omega
     rw[decide_eq_false hs] at his
     have hEE:=Lib.hid (hbad.out (fun h=>hs (hasc.out.1 h).1))
     clear hbad hnext hasc hs
     go_wp2_with (go_at_call 22;refine his.out.mono ?_;clear his;rintro e0 wn ⟨rfl,hbn⟩;replace hI:=Lib.hid (hI.out.below hbn);clear hbn)
     go_ret2
     exact⟨by rw[hEE.out.1,hEE.out.2];rfl,hI.out.bel⟩
    have hkl:¬(k:Int)<2:=by omega
    have hEE:=Lib.hid (hok.out (fun j hj=>hg3.out j (by omega)))
    clear hok hg3 h9
    generalize k=k7 at *
    (obtain⟨x0,x1⟩:=hI.out.bx.c2;obtain⟨y0,y1⟩:=hI.out.ar.c2)
    by_cases m1:1<y.zs.length
    ·have m2:1<(y.zs.length:Int):=by omega
     by_cases m3:1<x.zs.length
     ·have m4:1<(x.zs.length:Int):=by omega
      go_wp2_with fail
      go_ret2
      exact⟨by rw[hEE.out.1,hEE.out.2,if_pos m1,if_pos m3];rfl,hI.out.bel⟩
     have m4:¬1<(x.zs.length:Int):=by omega
     go_wp2_with fail
     go_ret2
     exact⟨by rw[hEE.out.1,hEE.out.2,if_pos m1,if_neg m3];rfl,hI.out.bel⟩
    have m2:¬1<(y.zs.length:Int):=by omega
    by_cases m3:1<x.zs.length
    ·have m4:1<(x.zs.length:Int):=by omega
     go_wp2_with fail
     go_ret2
     exact⟨by rw[hEE.out.1,hEE.out.2,if_neg m1,if_pos m3];rfl,hI.out.bel⟩
    have m4:¬1<(x.zs.length:Int):=by omega
    go_wp2_with fail
    go_ret2
    exact⟨by rw[hEE.out.1,hEE.out.2,if_neg m1,if_neg m3];rfl,hI.out.bel⟩
end Go.Proofs.YtoojdkaimhlcbaaGreat
namespace Go.Proofs.YtoojdkaimhlcbaaGreat
open Go Go.RowKit Go.ChangeShapes Go.WideShapes Go.Deep Go.Sort
section
variable {H : Type} {enc : TypeId × Value → H} {w : World} {spare : Nat → Bool} {held : Bool} {r : Reach} {b0 : Nat} {v : Value} {d : DataW H} {ps : List MemPlace}
theorem txs_of_trod {fuel:Nat} {y:DataW H × List MemPlace} (hf:DataW.trod enc Tryz.prog w 0 spare held fuel 23 [v]=some y) :
  ∃ x:TxS,v=.slice x.A x.zs.length x.c∧RowsAt w x.A 1 (txtRows x.zs)∧∀ t∈x.zs,t.length≤maxLen:=by
 obtain⟨A,len,cap,hcs,hlen,hq⟩:=rows1_of_open Tryz.underlying23 (by kernel_rfl) hf
 have he:v=.slice A len cap:=by simpa using hcs
 subst he
 have h1:∀ i,i<len→∃ p:Cal.Txt,p.length≤maxLen∧∃ b o,A=some ⟨b,o,none⟩∧b<w.heap.size∧∀ j v,([encStr p])[j]?=some v→w.cell? ⟨b,o+(i*1+j),none⟩=some v:=fun i hi=>by
  obtain⟨b,o,n,hA,hb,v0,y0,c0,t0⟩:=hq i hi
  obtain⟨s0,e0,_,g0⟩:=DataW.trod_string Tryz.underlying9 t0
  cases e0
  refine⟨s0.toList,by rw[←size_len (a:=s0) rfl];exact g0,b,o,hA,hb,fun j v hv=>?_⟩
  match j,hv with
  | 0,hv=>cases hv;rw[encStr_of rfl,Nat.mul_one,Nat.add_zero];exact c0
  | j+1,hv=>simp at hv
 obtain⟨l,hl,hq'⟩:=list_of len h1
 subst hl
 refine⟨⟨A,cap,l⟩,rfl,fun k r hr=>?_,fun p hp=>?_⟩
 ·unfold txtRows at hr
  rw[List.getElem?_map] at hr
  cases hk:l[k]? with
  | none=>rw[hk] at hr;cases hr
  | some p=>rw[hk] at hr;cases hr;exact (hq' k p hk).2
 obtain⟨k,hk,rfl⟩:=List.getElem_of_mem hp
 exact (hq' k _ (List.getElem?_eq_getElem hk)).1
theorem prt_of_open (hval:Value.okWide Tryz.prog w r b0 25 v) (h:DataW.Trod enc Tryz.prog w 0 spare held 25 v d ps) :
  ∃ x y:TxS,v=.agg #[.slice x.A x.zs.length x.c,.slice y.A y.zs.length y.c]∧RowsAt w x.A 1 (txtRows x.zs)∧(∀ t∈x.zs,t.length≤maxLen)∧RowsAt w y.A 1 (txtRows y.zs)∧∀ t∈y.zs,t.length≤maxLen:=by
 have hu:=Tryz.underlying25
 unfold Value.okWide at hval
 rw[hu] at hval
 obtain⟨cs,rfl,hcs,_⟩:=hval
 obtain⟨fuel,hf⟩:=h
 obtain⟨m,xs,hlen,hxl,hi⟩:=trod_cells hu (by kernel_rfl) hf
 have h0:=hi 0 _ rfl
 have h1:=hi 1 _ rfl
 rw[show Tryz.prog.cellsOf 25=2 by kernel_rfl] at hcs
 obtain⟨l⟩:=cs
 match l,hcs with
 | [a,b],_ =>
  match xs,hxl with
  | [y0,y1],_ =>
   simp[Value.cells] at h0 h1
   obtain⟨x,e1,ha,hk⟩:=txs_of_trod h0
   obtain⟨y,e2,hb,hk2⟩:=txs_of_trod h1
   subst e1
   subst e2
   exact⟨x,y,rfl,ha,hk,hb,hk2⟩
end
end Go.Proofs.YtoojdkaimhlcbaaGreat
namespace Go.Proofs.YtoojdkaimhlcbaaGreat
open Go Go.RowKit Go.Shelf
def ptAt (l:List Pt) (i:Nat):Pt:=l[i]?.getD Cal.pt0
theorem ptAt_get {l:List Pt} {i:Nat} (h:i<l.length):l[i]?=some (ptAt l i):=by unfold ptAt;rw[List.getElem?_eq_getElem h];rfl
def Cal.dst (s:Sd) (p:Pt):Int:=Cal.dotP s.a s.b p
theorem Cal.along_neg {s:Sd} {p q:Pt}:Cal.alongS s p q<0↔Cal.dst s p<Cal.dst s q:=by unfold Cal.alongS Cal.cmpI Cal.dst;split <;> (try split) <;> omega
def InsTo (s:Sd) (l:List Pt) (n j:Nat):Prop:=∀ p q,p<q→q<n→q≠j→Cal.dst s (ptAt l p)≤Cal.dst s (ptAt l q)
def SrtTo (s:Sd) (l:List Pt) (n:Nat):Prop:=∀ p q,p<q→q<n→Cal.dst s (ptAt l p)≤Cal.dst s (ptAt l q)
def swapP (l:List Pt) (j:Nat):List Pt:=(l.set j (ptAt l (j-1))).set (j-1) (ptAt l j)
theorem swapP_perm {l:List Pt} {j:Nat} (h0:0<j) (h:j<l.length):(swapP l j).Perm l:=by
 have e1:ptAt l (j-1)=l[j-1]:=by unfold ptAt;rw[List.getElem?_eq_getElem (by omega)];rfl
 have e2:ptAt l j=l[j]:=by unfold ptAt;rw[List.getElem?_eq_getElem h];rfl
 unfold swapP
 rw[e1,e2]
 exact List.set_set_perm h (by omega)
theorem swapP_at {l:List Pt} {j:Nat} (h0:0<j) (h:j<l.length) (i:Nat):ptAt (swapP l j) i=if i=j then ptAt l (j-1) else if i=j-1 then ptAt l j else ptAt l i:=by
 unfold swapP
 show ((l.set j (ptAt l (j-1))).set (j-1) (ptAt l j))[i]?.getD Cal.pt0=_
 by_cases h1:i=j
 ·subst h1
  rw[if_pos rfl,List.getElem?_set_ne (by omega),List.getElem?_set_self h]
  rfl
 rw[if_neg h1]
 by_cases h2:i=j-1
 ·subst h2
  rw[if_pos rfl,List.getElem?_set_self (by rw[List.length_set];omega)]
  rfl
 rw[if_neg h2,List.getElem?_set_ne (by omega),List.getElem?_set_ne (by omega)]
 rfl
theorem InsTo.start {s:Sd} {l:List Pt} {k:Nat} (h:SrtTo s l k):InsTo s l (k+1) k:=fun p q hpq hq hne=>h p q hpq (by omega)
theorem InsTo.done {s:Sd} {l:List Pt} {n j:Nat} (h:InsTo s l n j) (hj:∀ p,p<j→j<n→Cal.dst s (ptAt l p)≤Cal.dst s (ptAt l j)):SrtTo s l n:=fun p q hpq hq=>by
 by_cases e:q=j
 ·subst e;exact hj p hpq hq
 exact h p q hpq hq e
theorem InsTo.stop {s:Sd} {l:List Pt} {n j:Nat} (h:InsTo s l n j) (h1:¬Cal.dst s (ptAt l j)<Cal.dst s (ptAt l (j-1))):SrtTo s l n:=h.done fun p hp hj=>by
 by_cases e:p=j-1
 ·subst e;omega
 have:=h p (j-1) (by omega) (by omega) (by omega)
 omega
theorem InsTo.swap {s:Sd} {l:List Pt} {n j:Nat} (h:InsTo s l n j) (h0:0<j) (hj:j<n) (hl:n≤l.length) (h1:Cal.dst s (ptAt l j)<Cal.dst s (ptAt l (j-1))):InsTo s (swapP l j) n (j-1):=fun p q hpq hq hne=>by
 rw[swapP_at h0 (by omega),swapP_at h0 (by omega)]
 have k1:=fun a b hab hb hn=>h a b hab hb hn
 by_cases e1:q=j
 ·subst e1
  rw[if_pos rfl,if_neg (by omega)]
  by_cases e2:p=q-1
  ·subst e2;rw[if_pos rfl];omega
  rw[if_neg e2];exact h p (q-1) (by omega) (by omega) (by omega)
 rw[if_neg e1,if_neg hne]
 by_cases e2:p=j
 ·subst e2
  rw[if_pos rfl]
  exact h (p-1) q (by omega) hq e1
 rw[if_neg e2]
 by_cases e3:p=j-1
 ·subst e3
  rw[if_pos rfl]
  exact h j q (by omega) hq e1
 rw[if_neg e3]
 exact h p q hpq hq e1
def AtP (w:World) (M:Nat) (l:List Pt):Prop:=∃ cs:List Value,BoxAt w M cs∧l.length*2≤cs.length∧∀ (i:Nat) (q:Pt),l[i]?=some q→cs[i*2]?=some (.int .i64 q.x)∧cs[i*2+1]?=some (.int .i64 q.y)
section
variable {w : World} {M : Nat} {l : List Pt}
theorem AtP.lt (h:AtP w M l):M<w.heap.size:=by obtain⟨cs,hb,_⟩:=h;exact hb.lt
theorem AtP.below {w':World} (h:AtP w M l) (hb:Below w.heap.size w w'):AtP w' M l:=by
 obtain⟨cs,h0,h1,h2⟩:=h
 exact⟨cs,h0.below hb,h1,h2⟩
theorem AtP.at_ (h:AtP w M l) {i:Nat} (hi:i<l.length):w.cell? ⟨M,i*2,none⟩=some (.int .i64 (ptAt l i).x)∧w.cell? ⟨M,i*2+1,none⟩=some (.int .i64 (ptAt l i).y):=by
 obtain⟨cs,hb,h1,h2⟩:=h
 obtain⟨c0,c1⟩:=h2 i _ (ptAt_get hi)
 exact⟨hb.c _ _ c0,hb.c _ _ c1⟩
theorem AtP.free (h:AtP w M l) {i:Nat} (hi:i<l.length):w.frozen? ⟨M,i*2,none⟩=false∧w.frozen? ⟨M,i*2+1,none⟩=false:=by
 obtain⟨cs,hb,h1,h2⟩:=h
 exact⟨hb.free _ (by omega),hb.free _ (by omega)⟩
theorem AtP.set (h:AtP w M l) {i:Nat} (hi:i<l.length) (q:Pt):AtP ((w.setCell ⟨M,i*2,none⟩ (.int .i64 q.x)).setCell ⟨M,i*2+1,none⟩ (.int .i64 q.y)) M (l.set i q):=by
 obtain⟨cs,hb,h1,h2⟩:=h
 refine⟨_,(hb.set (i*2) (.int .i64 q.x) (by omega)).set (i*2+1) (.int .i64 q.y) (by rw[List.length_set];omega),by simp;omega,fun k r hr=>?_⟩
 by_cases e:k=i
 ·subst e
  rw[List.getElem?_set_self hi] at hr
  cases hr
  constructor
  ·rw[List.getElem?_set_ne (by omega),List.getElem?_set_self (by omega)]
  rw[List.getElem?_set_self (by rw[List.length_set];omega)]
 rw[List.getElem?_set_ne (by omega)] at hr
 rw[List.getElem?_set_ne (by omega),List.getElem?_set_ne (by omega),List.getElem?_set_ne (by omega),List.getElem?_set_ne (by omega)]
 exact h2 k r hr
theorem AtP.rows (h:AtP w M l):RowsAt w (some ⟨M,0,none⟩) 2 (l.map ptR):=fun j r hr=>by
 rw[List.getElem?_map] at hr
 cases hq:l[j]? with
 | none=>rw[hq] at hr;cases hr
 | some q =>
  rw[hq] at hr
  cases hr
  have hj:j<l.length:=(List.getElem?_eq_some_iff.1 hq).1
  obtain⟨c0,c1⟩:=h.at_ hj
  have hq':ptAt l j=q:=by unfold ptAt;rw[hq];rfl
  rw[hq'] at c0 c1
  refine⟨M,0,rfl,h.lt,fun i v hv=>?_⟩
  rw[Nat.zero_add]
  match i,hv with
  | 0,hv=>cases hv;exact c0
  | 1,hv=>cases hv;exact c1
end
theorem below_grownM {w w':World} {M:Nat} (h:Below w.heap.size w w'):w.grownBy w' (some M):=below_grown h _
theorem sm_at {l:List Pt} (h:∀ p∈l,SmP p) {i:Nat} (hi:i<l.length):SmP (ptAt l i):=by
 unfold ptAt
 rw[List.getElem?_eq_getElem hi]
 exact h _ (List.getElem_mem hi)
theorem insSort_any (s:Sd) (M c:Nat) (l:List Pt) (w:World) (hl:AtP w M l) (hs:SmS s) (hsm:∀ p∈l,SmP p) (hn:l.length≤1000000) :
  Calls Tryz.prog 104 #[.slice (some ⟨M,0,none⟩) l.length c,.int .i64 0,.int .i64 l.length,.func (.func 80) #[.agg #[.int .i64 s.a.x,.int .i64 s.a.y,.int .i64 s.b.x,.int .i64 s.b.y]] #[]] w fun e w' =>
   e=.returned (.tuple #[])∧∃ l',AtP w' M l'∧l'.Perm l∧SrtTo s l' l'.length∧w.grownBy w' (some M):=by
 have hl:=Lib.hid hl
 obtain⟨n,hnn0⟩:∃ n,n=l.length:=⟨_,rfl⟩
 rw[←hnn0] at hn ⊢
 have hnn:=Lib.hid hnn0
 clear hnn0
 have hmo:(Tryz.prog).follows Departure.mixedOrders=true:=by kernel_rfl
 go_enter Tryz.func104,Tryz.ntmps104
 go_wp2_with fail
 go_loopw [8] (fun i wr=>∃ (k:Nat) (cur:List Pt),1≤k∧(k≤n∨k=1)∧i=.int .i64 k∧Hid (cur.Perm l)∧Hid (AtP wr M cur)∧Hid (SrtTo s cur k)∧Hid (w.grownBy wr (some M))) (fun i _=>n-(intOf i).toNat)
 case atStart=>exact⟨1,l,by omega,.inr rfl,rfl,List.Perm.refl _,hl.out,(fun p q hpq hq=>by omega),World.grownBy.refl _ _⟩
 case round =>
  obtain⟨k,cur,hk0,hk1,rfl,hp,hA,hS,hG⟩:=hrel
  have hcl:Hid (cur.length=n):=by show _=_;rw[hp.out.length_eq,hnn.out]
  by_cases hlt:k<n
  ·have hI:=Lib.hid (InsTo.start hS.out)
   clear hS hk1
   go_wp2_with fail
   go_loopw [9] (fun i wr=>∃ (j:Nat) (cur:List Pt),j≤k∧i=.int .i64 j∧Hid (cur.Perm l)∧Hid (AtP wr M cur)∧Hid (InsTo s cur (k+1) j)∧Hid (w.grownBy wr (some M))) (fun i _=>(intOf i).toNat)
   case atStart=>exact⟨k,cur,Nat.le_refl _,rfl,hp,hA,hI,hG⟩
   case round =>
    clear hp hA hI hG hcl
    obtain⟨j,cur,hj,rfl,hp,hA,hI,hG⟩:=hrel
    have hcl:Hid (cur.length=n):=by show _=_;rw[hp.out.length_eq,hnn.out]
    by_cases h0:0<j
    ·have hj1:j<cur.length:=by rw[hcl.out];omega
     have hj2:j-1<cur.length:=by omega
     have hsmc:∀ p∈cur,SmP p:=fun p hp'=>hsm p (hp.out.mem_iff.1 hp')
     have hsj:=sm_at hsmc hj1
     have hsq:=sm_at hsmc hj2
     obtain⟨a0,a1⟩:=hA.out.at_ hj1
     obtain⟨b0,b1⟩:=hA.out.at_ hj2
     have d0:decide ((0:Int)<(j:Int))=true:=decide_eq_true (by omega)
     have d0':(0:Int)<(j:Int):=by omega
     have hw1:IntKind.i64.wrap ((j:Int)-1)=(j:Int)-1:=wrap_small (by omega) (by omega)
     have ht1:((j:Int)-1).toNat=j-1:=by omega
     have ht2:(1:Int)≤(j:Int):=by omega
     have ht3:(j:Int)-1<(n:Int):=by omega
     have ht4:(0:Int)≤(j:Int)-1:=by omega
     have ht5:(j:Int)<(n:Int):=by omega
     have ht6:j<n:=by omega
     have ht7:j-1<n:=by omega
     obtain⟨pj,hpj⟩:∃ p,ptAt cur j=p:=⟨_,rfl⟩
     obtain⟨pq,hpq⟩:∃ p,ptAt cur (j-1)=p:=⟨_,rfl⟩
     rw[hpj] at a0 a1 hsj
     rw[hpq] at b0 b1 hsq
     have hpj:=Lib.hid hpj
     have hpq:=Lib.hid hpq
     (go_wp2_with fail;refine wp_region_held_drew (S:=Sx wr [(M,j*2,.int .i64 pj.x),(M,j*2+1,.int .i64 pj.y),(M,(j-1)*2,.int .i64 pq.x),(M,(j-1)*2+1,.int .i64 pq.y)]) (by kernel_rfl) (Sx.mk (by simp only[cs_iff_cons];exact⟨a0,a1,b0,b1,cs_nil _⟩) (Below.refl _ _)).drew (fun hHeld=>?_))
     by_cases hd:Cal.alongS s pj pq<0
     ·have hdd:=decide_eq_true hd
      refine tkHx 0 18 ?_
      refine tkHx 1 19 ?_
      refine tkHx 2 20 ?_
      refine tkHx 3 21 ?_
      refine tkHx 4 22 ?_
      refine tkHx 5 23 ?_
      refine tkHx 6 24 ?_
      refine tkHx 7 25 ?_
      refine tkHx 8 26 ?_
      refine tkHx 9 27 ?_
      refine tkHx 10 28 ?_
      refine tkHx 11 29 ?_
      refine tkHx 12 30 ?_
      refine tkHx 13 31 ?_
      (refine ratHx 14 (fun K hK=>?_);go_simp)
      refine (along_any s pj pq _ hs hsj hsq).mono ?_
      rintro e wn ⟨rfl,hbn⟩
      go_simp
      (refine hK.out _ _ (hHeld.step hbn) (fun hHeld=>?_);clear hK K;(try simp only[apS,apN,siA,scZ,scS]))
      refine tkHx 15 33 ?_
      refine tkHx 16 34 ?_
      refine wpAnyH_done (by kernel_rfl) ?_ _
      have hA2:=Lib.hid (hA.out.below hHeld.bel)
      have hG2:=Lib.hid (hG.out.trans (below_grownM hHeld.bel))
      have hlt2:Hid (Cal.dst s pj<Cal.dst s pq):=Cal.along_neg.1 hd
      obtain⟨a0,a1⟩:=hA2.out.at_ hj1
      obtain⟨b0,b1⟩:=hA2.out.at_ hj2
      rw[hpj.out] at a0 a1
      rw[hpq.out] at b0 b1
      obtain⟨f0,f1⟩:=hA2.out.free hj1
      obtain⟨g0,g1⟩:=hA2.out.free hj2
      clear hHeld hA hG
      go_wp2_with fail
      have hfin:Hid (AtP (((((wn.setCell ⟨M,j*2,none⟩ (.int .i64 pq.x)).setCell ⟨M,j*2+1,none⟩ (.int .i64 pq.y)).setCell ⟨M,(j-1)*2,none⟩ (.int .i64 pj.x)).setCell ⟨M,(j-1)*2+1,none⟩ (.int .i64 pj.y)).drew) M (swapP cur j) ∧
        w.grownBy (((((wn.setCell ⟨M,j*2,none⟩ (.int .i64 pq.x)).setCell ⟨M,j*2+1,none⟩ (.int .i64 pq.y)).setCell ⟨M,(j-1)*2,none⟩ (.int .i64 pj.x)).setCell ⟨M,(j-1)*2+1,none⟩ (.int .i64 pj.y)).drew) (some M)):=by
       refine⟨?_,((((hG2.out.trans (grown_set _ _ _ _)).trans (grown_set _ _ _ _)).trans (grown_set _ _ _ _)).trans (grown_set _ _ _ _)).trans (grown_drewN _ 1 _)⟩
       have h:=(hA2.out.set hj1 pq).set (i:=j-1) (by rw[List.length_set];exact hj2) pj
       unfold swapP
       rw[hpj.out,hpq.out]
       exact h.below ((Below.refl _ _).drew)
      have hpm:Hid ((swapP cur j).Perm l):=(swapP_perm h0 hj1).trans hp.out
      have hin:Hid (InsTo s (swapP cur j) (k+1) (j-1)):=hI.out.swap h0 (by omega) (by rw[hcl.out];omega) (by rw[hpj.out,hpq.out];exact hlt2.out)
      clear hA2 hG2 hp hI
      go_region_o
      all_goals
       go_wp2_with fail
       go_roundw
       case rel=>exact⟨j-1,swapP cur j,by omega,by go_num,hpm,hfin.out.1,hin,hfin.out.2⟩
       case measure=>simp[intOf];omega
     have hdd:=decide_eq_false hd
     refine tkHx 0 18 ?_
     refine tkHx 1 19 ?_
     refine tkHx 2 20 ?_
     refine tkHx 3 21 ?_
     refine tkHx 4 22 ?_
     refine tkHx 5 23 ?_
     refine tkHx 6 24 ?_
     refine tkHx 7 25 ?_
     refine tkHx 8 26 ?_
     refine tkHx 9 27 ?_
     refine tkHx 10 28 ?_
     refine tkHx 11 29 ?_
     refine tkHx 12 30 ?_
     refine tkHx 13 31 ?_
     (refine ratHx 14 (fun K hK=>?_);go_simp)
     refine (along_any s pj pq _ hs hsj hsq).mono ?_
     rintro e wn ⟨rfl,hbn⟩
     go_simp
     (refine hK.out _ _ (hHeld.step hbn) (fun hHeld=>?_);clear hK K;(try simp only[apS,apN,siA,scZ,scS]))
     refine tkHx 15 33 ?_
     refine tkHx 16 34 ?_
     refine wpAnyH_done (by kernel_rfl) ?_ _
     have hA2:=Lib.hid (hA.out.below hHeld.bel)
     have hG2:=Lib.hid (hG.out.trans (below_grownM hHeld.bel))
     have hS2:=Lib.hid (InsTo.stop hI.out (show ¬_ from by rw[hpj.out,hpq.out];exact fun h=>hd (Cal.along_neg.2 h)))
     clear hHeld hA hG
     go_wp2_with fail
     go_roundw
     case rel=>exact⟨k+1,cur,by omega,.inl (by omega),by go_num,hp,hA2,hS2,hG2⟩
     case measure=>simp[intOf];omega
    obtain rfl:j=0:=by omega
    have hS2:=Lib.hid (InsTo.done hI.out (fun p hp=>by omega))
    have d0:decide ((0:Int)<((0:Nat):Int))=false:=decide_eq_false (by omega)
    (go_wp2_with fail;refine wp_region_held_drew (S:=Sx wr []) (by kernel_rfl) (Sx.mk (cs_nil _) (Below.refl _ _)).drew (fun hHeld=>?_))
    refine tkHx 0 18 ?_
    refine tkHx 1 19 ?_
    refine tkHx 2 20 ?_
    refine tkHx 3 21 ?_
    refine tkFx 4 22 ?_
    refine tkFx 5 23 ?_
    refine tkFx 6 24 ?_
    refine tkFx 7 25 ?_
    refine tkFx 8 26 ?_
    refine tkFx 9 27 ?_
    refine tkFx 10 28 ?_
    refine tkFx 11 29 ?_
    refine tkFx 12 30 ?_
    refine tkFx 13 31 ?_
    refine tkFx 14 32 ?_
    refine tkFx 15 33 ?_
    refine tkHx 16 34 ?_
    refine wpAnyH_done (by kernel_rfl) ?_ _
    have hA2:=Lib.hid (hA.out.below hHeld.bel)
    have hG2:=Lib.hid (hG.out.trans (below_grownM hHeld.bel))
    clear hHeld hA hG
    go_wp2_with fail
    go_roundw
    case rel=>exact⟨k+1,cur,by omega,.inl (by omega),by go_num,hp,hA2,hS2,hG2⟩
    case measure=>simp[intOf];omega
  have hS':=Lib.hid (show SrtTo s cur cur.length from fun p q hpq hq=>by have:=hcl.out;rcases hk1 with h | h <;> exact hS.out p q hpq (by omega))
  go_wp2_with fail
  refine bodyPost_end (results_none rfl _ _ _) rfl ?_
  exact⟨rfl,cur,hA.out,hp.out,hS'.out,hG.out⟩
end Go.Proofs.YtoojdkaimhlcbaaGreat
namespace Go.Proofs.YtoojdkaimhlcbaaGreat
open Go Go.RowKit Go.Shelf
def SrtPost (w:World) (s:Sd) (M:Nat) (l:List Pt) (e:Ending) (w':World):Prop:=e=.returned (.tuple #[])∧∃ l',AtP w' M l'∧l'.Perm l∧SrtTo s l' l'.length∧w.grownBy w' (some M)
theorem pdq_small (s:Sd) (M c:Nat) (l:List Pt) (lim:Int) (w:World) (hl:AtP w M l) (hs:SmS s) (hsm:∀ p∈l,SmP p) (hn:l.length≤12) :
  Calls Tryz.prog 101 #[.slice (some ⟨M,0,none⟩) l.length c,.int .i64 0,.int .i64 l.length,.int .i64 lim,.func (.func 80) #[.agg #[.int .i64 s.a.x,.int .i64 s.a.y,.int .i64 s.b.x,.int .i64 s.b.y]] #[]] w (SrtPost w s M l):=by
 have hi:=Lib.hid (insSort_any s M c l w hl hs hsm (by omega))
 have hn':(l.length:Int)≤12:=by omega
 have hw:IntKind.i64.wrap (l.length:Int)=(l.length:Int):=wrap_small (by omega) (by omega)
 clear hl hsm
 go_enter Tryz.func101,Tryz.ntmps101
 go_wp2_with fail
 refine wp_loop_rounds 1 ?_
 rw[rounds_succ]
 go_wp2_with fail
 refine hi.out.mono ?_
 rintro e w' ⟨rfl,l',h1,h2,h3,h4⟩
 have hall:=Lib.hid (show SrtPost w s M l (.returned (.tuple #[])) w' from ⟨rfl,l',h1,h2,h3,h4⟩)
 clear h1 h2 h3 h4
 go_wp2_with fail
 (try simp only[Exit.inBlock,Exit.then]);refine bodyPost_ret (results_none rfl _ _ _) rfl ?_
 exact hall.out
theorem SortFunc_small (s:Sd) (M c:Nat) (l:List Pt) (w:World) (hl:AtP w M l) (hs:SmS s) (hsm:∀ p∈l,SmP p) (hn:l.length≤12) :
  Calls Tryz.prog 93 #[.slice (some ⟨M,0,none⟩) l.length c,.func (.func 80) #[.agg #[.int .i64 s.a.x,.int .i64 s.a.y,.int .i64 s.b.x,.int .i64 s.b.y]] #[]] w (SrtPost w s M l):=by
 have hp:=Lib.hid (fun lim=>pdq_small s M c l lim w hl hs hsm hn)
 have hb:=Lib.hid (Tryz.bits_Len (l.length:Int) w (by omega) (by omega))
 have hw:IntKind.u64.wrap (l.length:Int)=(l.length:Int):=by simp[IntKind.wrap,IntKind.bits,IntKind.signed];omega
 clear hl hsm
 go_enter Tryz.func93,Tryz.ntmps93
 go_wp2_with fail
 refine hb.out.mono ?_
 rintro e w' ⟨rfl,rfl⟩
 go_wp2_with fail
 refine (hp.out _).mono ?_
 rintro e w' hpost
 have he:=hpost.1
 subst he
 have hall:=Lib.hid hpost
 clear hpost
 go_wp2_with fail
 (try simp only[Exit.inBlock,Exit.then]);refine bodyPost_end (results_none rfl _ _ _) rfl ?_
 exact hall.out
end Go.Proofs.YtoojdkaimhlcbaaGreat
namespace Go.Proofs.YtoojdkaimhlcbaaGreat
open Go Go.RowKit Go.Shelf
def kp (l:List Pt):Nat→List Pt
 | 0=>[]
 | m+1=>if m=0∨ptAt l m≠ptAt l (m-1) then kp l m ++ [ptAt l m] else kp l m
theorem kp_length (l:List Pt):∀ m,(kp l m).length≤m
 | 0=>Nat.le_refl _
 | m+1=>by
  have:=kp_length l m
  unfold kp
  split
  ·rw[List.length_append];simp;exact this
  omega
theorem kp_all {l:List Pt}:∀ {k:Nat},k≤l.length→(∀ i,0<i→i<k→ptAt l i≠ptAt l (i-1))→kp l k=l.take k
 | 0,_,_=>rfl
 | k+1,hk,h=>by
  have ih:=kp_all (k:=k) (by omega) (fun i h0 h1=>h i h0 (by omega))
  unfold kp
  rw[if_pos,ih]
  ·rw[List.take_succ_eq_append_getElem (by omega)]
   congr 1
   unfold ptAt
   rw[List.getElem?_eq_getElem (by omega)]
   rfl
  by_cases h0:k=0
  ·exact .inl h0
  exact .inr (h k (by omega) (by omega))
theorem undPts:(Tryz.prog).underlying 44=some (.slice 61):=Tryz.underlying44
theorem szPt (w:World):(Go.sizeOf ((Tryz.prog).elem 44)).run Tryz.prog w=.ok 2 w:=by kernel_rfl
theorem pt_eql (p q:Pt) (w:World):(binOp .eql 61 (.agg #[.int .i64 p.x,.int .i64 p.y]) (.agg #[.int .i64 q.x,.int .i64 q.y])).run Tryz.prog w=.ok (.bool (ptB p q)) w:=by
 have hu:(Tryz.prog).underlying 61=_:=Tryz.underlying61
 go_simp
 unfold ptB
 by_cases hx:p.x=q.x
 ·rw[if_pos hx,hx,beq_self_eq_true,Bool.true_and]
  by_cases hy:p.y=q.y
  ·rw[if_pos hy,hy,beq_self_eq_true]
  rw[if_neg hy,beq_false_of_ne hy]
 rw[if_neg hx,beq_false_of_ne hx,Bool.false_and]
theorem pt_neq (p q:Pt) (w:World):(binOp .neq 61 (.agg #[.int .i64 p.x,.int .i64 p.y]) (.agg #[.int .i64 q.x,.int .i64 q.y])).run Tryz.prog w=.ok (.bool (!ptB p q)) w:=by
 have hu:(Tryz.prog).underlying 61=_:=Tryz.underlying61
 go_simp
 unfold ptB
 by_cases hx:p.x=q.x
 ·rw[hx,beq_self_eq_true,Bool.true_and]
  by_cases hy:p.y=q.y
  ·rw[hy,beq_self_eq_true];simp
  rw[beq_false_of_ne hy];simp[hy]
 rw[beq_false_of_ne hx,Bool.false_and];simp[hx]
theorem cutFromP {M n c k:Nat} (hk:k<n) (hc:n≤c) (w':World):(Instr.slice 44 (.slice (some ⟨M,0,none⟩) n c) (some (.int .i64 k)) none none).run Tryz.prog w'=.ok (.slice (some ⟨M,k*2,none⟩) (n-k) (c-k)) w':=by
 rw[run_slice_l w' 44 (some ⟨M,0,none⟩) n c undPts .i64 k (by omega) (by omega),szPt]
 simp only[Result.andThen,sliced,Int.toNat_natCast]
 rw[if_neg (by omega),Option.map_some,addr_add,Nat.zero_add]
theorem cutToP {M n c k:Nat} (hk:k≤n) (hc:n≤c) (hc0:0<c) (w':World):(Instr.slice 44 (.slice (some ⟨M,0,none⟩) n c) none (some (.int .i64 k)) none).run Tryz.prog w'=.ok (.slice (some ⟨M,0,none⟩) k c) w':=by
 rw[run_slice_h w' 44 (some ⟨M,0,none⟩) n c undPts .i64 k (by omega) (by omega),szPt]
 simp only[Result.andThen,sliced,Int.toNat_natCast]
 rw[if_neg (by omega),Option.map_some,addr_add]
 simp
theorem BoxAt.setCells {M:Nat}:∀ (vs:List Value) (o:Nat) (w:World) (cs:List Value),BoxAt w M cs→o+vs.length≤cs.length→∃ cs',BoxAt (w.setCells M o vs) M cs'∧cs'.length=cs.length∧∀ i,i<o→cs'[i]?=cs[i]?
 | [],_,_,cs,h,_=>⟨cs,h,rfl,fun _ _=>rfl⟩
 | v :: r,o,w,cs,h,hl=>by
  rw[List.length_cons] at hl
  obtain⟨cs',h1,h2,h3⟩:=BoxAt.setCells r (o+1) _ _ (h.set o v (by omega)) (by rw[List.length_set];omega)
  exact⟨cs',h1,by rw[h2,List.length_set],fun i hi=>by rw[h3 i (by omega),List.getElem?_set_ne (by omega)]⟩
theorem AtP.clear {w:World} {M:Nat} {cur:List Pt} {n k c:Nat} (h:AtP w M cur) (hl:cur.length=n) (hk:k<n) :
  ∃ w',(∀ ty,(Builtin.clear_ #[44] ty #[.slice (some ⟨M,k*2,none⟩) (n-k) c]).run Tryz.prog w=.ok (.tuple #[]) w')∧AtP w' M (cur.take k)∧w.grownBy w' (some M):=by
 obtain⟨cs,hb,h1,h2⟩:=h
 obtain⟨vs,hvs⟩:∃ vs,vs=(Builtin.zeroCells #[.int .i64 0,.int .i64 0] (n-k)).toList:=⟨_,rfl⟩
 have hlen:vs.length=(n-k)*2:=by rw[hvs];simp[Builtin.zeroCells]
 have hone:∀ v∈vs,v.oneCell'=true:=fun v hv=>by
  rw[hvs] at hv
  simp only[Builtin.zeroCells,Array.toList_map,List.mem_map] at hv
  obtain⟨i,_,rfl⟩:=hv
  have:i % 2=0∨i % 2=1:=by omega
  rcases this with h | h <;> simp[h,Value.oneCell']
 have hst:=run_storeCells_cells (P:=Tryz.prog) M (k*2) vs 0 w
  (fun j hj=>by
   have hj':k*2+0+j<cs.length:=by omega
   rw[hb.c _ _ (List.getElem?_eq_getElem hj')];rfl)
  (fun j hj=>hb.free _ (by omega)) hone
 rw[Nat.add_zero] at hst
 refine⟨w.setCells M (k*2) vs,fun ty=>?_,?_,grown_setCells _ _ _ _⟩
 ·obtain⟨m,hm⟩:∃ m,n-k=m+1:=⟨n-k-1,by omega⟩
  rw[hm] at hvs ⊢
  simp[Builtin.clear_,run_underlying undPts,Value.cells,←hvs,hst]
 obtain⟨cs',h3,h4,h5⟩:=BoxAt.setCells vs (k*2) w cs hb (by omega)
 refine⟨cs',h3,by rw[List.length_take];omega,fun i q hq=>?_⟩
 have hi:i<k:=by
  have:=(List.getElem?_eq_some_iff.1 hq).1
  rw[List.length_take] at this
  omega
 rw[List.getElem?_take,if_pos hi] at hq
 obtain⟨a0,a1⟩:=h2 i q hq
 exact⟨(h5 _ (by omega)).trans a0,(h5 _ (by omega)).trans a1⟩
theorem kp_same {l:List Pt} {m:Nat} (h0:0<m) (h:ptAt l m=ptAt l (m-1)):kp l (m+1)=kp l m:=by
 rw[kp,if_neg]
 rintro (h1 | h1)
 ·omega
 exact h1 h
theorem kp_next {l:List Pt} {m:Nat} (h:ptAt l m≠ptAt l (m-1)):kp l (m+1)=kp l m ++ [ptAt l m]:=by rw[kp,if_pos (.inr h)]
theorem ptB_false {p q:Pt} (h:p≠q):ptB p q=false:=by
 cases hb:ptB p q
 ·rfl
 exact absurd (ptB_iff.1 hb) h
structure CpS (l cur:List Pt) (m kk:Nat):Prop where
 len:cur.length=l.length
 lt:kk<m
 kept:kp l m=cur.take kk
 num:(kp l m).length=kk
 rest:∀ i,m-1≤i→i<l.length→ptAt cur i=ptAt l i
theorem CpS.same {l cur:List Pt} {m kk:Nat} (h:CpS l cur m kk) (he:ptAt l m=ptAt l (m-1)):CpS l cur (m+1) kk:=by
 obtain⟨h1,h2,h3,h4,h5⟩:=h
 refine⟨h1,by omega,?_,?_,fun i hi hl=>h5 i (by omega) hl⟩
 ·rw[kp_same (by omega) he];exact h3
 rw[kp_same (by omega) he];exact h4
theorem CpS.next {l cur:List Pt} {m kk:Nat} (h:CpS l cur m kk) (hm:m<l.length) (he:ptAt l m≠ptAt l (m-1)):CpS l (cur.set kk (ptAt l m)) (m+1) (kk+1):=by
 obtain⟨h1,h2,h3,h4,h5⟩:=h
 refine⟨by rw[List.length_set];exact h1,by omega,?_,?_,fun i hi hl=>?_⟩
 ·rw[kp_next he,h3]
  rw[List.take_succ_eq_append_getElem (by rw[List.length_set];omega),List.getElem_set_self,List.take_set_of_le (Nat.le_refl _)]
 ·rw[kp_next he,List.length_append,h4];rfl
 have:=h5 i (by omega) hl
 unfold ptAt at this ⊢
 rw[List.getElem?_set_ne (by omega)]
 exact this
theorem Compact_any (M c:Nat) (l:List Pt) (w:World) (hl:AtP w M l) (h2:2≤l.length) (hn:l.length≤1000000) (hc:l.length≤c) :
  Calls Tryz.prog 94 #[.slice (some ⟨M,0,none⟩) l.length c] w fun e w' =>
   e=.returned (.slice (some ⟨M,0,none⟩) (kp l l.length).length c)∧AtP w' M (kp l l.length)∧w.grownBy w' (some M):=by
 have hl:=Lib.hid hl
 obtain⟨n,hnn0⟩:∃ n,n=l.length:=⟨_,rfl⟩
 rw[←hnn0] at hn h2 hc ⊢
 have hnn:=Lib.hid hnn0
 clear hnn0
 have hmo:(Tryz.prog).follows Departure.mixedOrders=true:=by kernel_rfl
 have h2':¬(n:Int)<2:=by omega
 go_enter Tryz.func94,Tryz.ntmps94
 go_wp2_with fail
 go_loopw [3] (fun i wr=>∃ (k:Nat),1≤k∧k≤n∧i=.int .i64 k∧Hid (∀ i,0<i→i<k→ptAt l i≠ptAt l (i-1))∧Hid (AtP wr M l)∧Hid (w.grownBy wr (some M))) (fun i _=>n-(intOf i).toNat)
 case atStart=>exact⟨1,by omega,by omega,rfl,fun i h0 h1=>by omega,hl.out,World.grownBy.refl _ _⟩
 case round =>
  obtain⟨k,hk0,hk1,rfl,hD,hA,hG⟩:=hrel
  by_cases hlt:k<n
  ·have hj1:k<l.length:=by rw[←hnn.out];exact hlt
   obtain⟨a0,a1⟩:=hA.out.at_ hj1
   obtain⟨b0,b1⟩:=hA.out.at_ (show k-1<l.length by omega)
   have hw1:IntKind.i64.wrap ((k:Int)-1)=(k:Int)-1:=wrap_small (by omega) (by omega)
   have ht1:((k:Int)-1).toNat=k-1:=by omega
   have ht2:(1:Int)≤(k:Int):=by omega
   have ht3:(k:Int)-1<(n:Int):=by omega
   have ht4:(0:Int)≤(k:Int)-1:=by omega
   have ht5:(k:Int)<(n:Int):=by omega
   have ht7:k-1<n:=by omega
   obtain⟨pj,hpj0⟩:∃ p,ptAt l k=p:=⟨_,rfl⟩
   obtain⟨pq,hpq0⟩:∃ p,ptAt l (k-1)=p:=⟨_,rfl⟩
   rw[hpj0] at a0 a1
   rw[hpq0] at b0 b1
   have hpj:=Lib.hid hpj0
   have hpq:=Lib.hid hpq0
   clear hpj0 hpq0
   have heq:=pt_eql pj pq
   have hAG:=Lib.hid (And.intro (hA.out.below ((Below.refl _ _).drew)) (hG.out.trans (grown_drewN _ 1 _)))
   by_cases he:pj=pq
   ·have hkp:Hid (CpS l l (k+1) k):=by
     have hkl:=hnn.out
     have e1:kp l k=l.take k:=kp_all (by omega) hD.out
     have e2:=kp_same (l:=l) (m:=k) (by omega) (by rw[hpj.out,hpq.out];exact he)
     exact⟨rfl,Nat.lt_succ_self _,by rw[e2];exact e1,by rw[e2,e1,List.length_take];omega,fun _ _ _=>rfl⟩
    have hpb:ptB pj pq=true:=ptB_iff.2 he
    rw[hpb] at heq
    have hct:=fun w'=>cutFromP (M:=M) (n:=n) (c:=c) hlt hc w'
    obtain⟨N2,hN2⟩:∃ N2,N2=n-k:=⟨_,rfl⟩
    obtain⟨C2,hC2⟩:∃ C2,C2=c-k:=⟨_,rfl⟩
    rw[←hN2,←hC2] at hct
    have hN2:=Lib.hid hN2
    have hN3:Hid (N2+k=n):=by show _=_;have:=hN2.out;omega
    clear hD he hpb hA hG hC2
    go_wp2_with fail
    go_region_o
    go_wp2_with fail
    go_loopw [5,3] (fun i kv wr=>∃ (q kk:Nat) (cur:List Pt),1≤q∧q≤N2∧i=.int .i64 q∧kv=.int .i64 kk∧Hid (CpS l cur (k+q) kk)∧Hid (AtP wr M cur)∧Hid (w.grownBy wr (some M))) (fun i _ _=>N2-(intOf i).toNat)
    case atStart=>exact⟨1,k,l,Nat.le_refl _,by have:=hN3.out;omega,rfl,rfl,hkp,hAG.out.1,hAG.out.2⟩
    case round =>
     clear hkp hAG
     obtain⟨q,kk,cur,hq0,hq1,rfl,rfl,hC,hA,hG⟩:=hrel
     have hlen:Hid (cur.length=n):=by show _=_;rw[hC.out.len,hnn.out]
     have hkm:=hC.out.lt
     by_cases hqn:q<N2
     ·have hm1:k+q<l.length:=by have:=hnn.out;have:=hN3.out;omega
      have hm2:k+q<cur.length:=by have:=hlen.out;have:=hN3.out;omega
      obtain⟨a0,a1⟩:=hA.out.at_ hm2
      obtain⟨b0,b1⟩:=hA.out.at_ (show k+q-1<cur.length by omega)
      rw[hC.out.rest _ (by omega) hm1] at a0 a1
      rw[hC.out.rest _ (by omega) (by omega)] at b0 b1
      obtain⟨f0,f1⟩:=hA.out.free (show kk<cur.length by omega)
      obtain⟨g0,g1⟩:=hA.out.at_ (show kk<cur.length by omega)
      have hsm:=Lib.hid (fun he=>hC.out.same he)
      have hnx:=Lib.hid (fun he=>hC.out.next hm1 he)
      have hst:=Lib.hid (hA.out.set (show kk<cur.length by omega) (ptAt l (k+q)))
      rw[show (k+q)*2=k*2+q*2 by omega] at a0 a1
      rw[show (k+q-1)*2=k*2+(q-1)*2 by omega] at b0 b1
      have hw1:IntKind.i64.wrap ((q:Int)-1)=(q:Int)-1:=wrap_small (by omega) (by omega)
      have ht1:((q:Int)-1).toNat=q-1:=by omega
      have ht2:(1:Int)≤(q:Int):=by omega
      have ht3:(q:Int)-1<(N2:Int):=by omega
      have ht4:(0:Int)≤(q:Int)-1:=by omega
      have ht5:(q:Int)<(N2:Int):=by omega
      have ht7:q-1<N2:=by omega
      have ht8:kk<n:=by have:=hN3.out;omega
      have ht9:(kk:Int)<(n:Int):=by omega
      have hwk:IntKind.i64.wrap ((kk:Int)+1)=(kk:Int)+1:=wrap_small (by omega) (by omega)
      obtain⟨pj,hpj0⟩:∃ p,ptAt l (k+q)=p:=⟨_,rfl⟩
      obtain⟨pq,hpq0⟩:∃ p,ptAt l (k+q-1)=p:=⟨_,rfl⟩
      rw[hpj0] at a0 a1 hst hnx hsm
      rw[hpq0] at b0 b1 hnx hsm
      clear hpj0 hpq0 hC
      have hne:=pt_neq pj pq
      have hAG:=Lib.hid (And.intro (hA.out.below ((Below.refl _ _).drew)) (hG.out.trans (grown_drewN _ 1 _)))
      by_cases he:pj=pq
      ·have hS2:=Lib.hid (hsm.out he)
       have hpb:ptB pj pq=true:=ptB_iff.2 he
       rw[hpb] at hne
       clear he hpb hsm hnx hst hA hG
       go_wp2_with fail
       go_region_o
       go_wp2_with fail
       go_roundw
       case rel=>exact⟨q+1,kk,cur,by omega,by omega,by go_num,rfl,hS2,hAG.out.1,hAG.out.2⟩
       case measure=>simp[intOf];omega
      have hS2:=Lib.hid (hnx.out he)
      have hpb:ptB pj pq=false:=ptB_false he
      rw[hpb] at hne
      have hGz:=Lib.hid (((hG.out.trans (grown_set wr M (kk*2) (.int .i64 pj.x))).trans (grown_set _ M (kk*2+1) (.int .i64 pj.y))).trans (grown_drewN _ 1 _))
      clear he hpb hsm hnx hA hG
      go_wp2_with fail
      go_region_o
      go_wp2_with fail
      go_roundw
      case rel=>exact⟨q+1,kk+1,cur.set kk pj,by omega,by omega,by go_num,by go_num,hS2,hst.out.below ((Below.refl _ _).drew),hGz.out⟩
      case measure=>simp[intOf];omega
     obtain rfl:q=N2:=by omega
     have hkn:kk<n:=by have:=hN3.out;omega
     have hct2:=fun w'=>cutFromP (M:=M) (n:=n) (c:=c) hkn hc w'
     have hcu:=fun w'=>cutToP (M:=M) (n:=n) (c:=c) (show kk≤n by omega) hc (by omega) w'
     obtain⟨w9,hcl,hA9,hG9⟩:=hA.out.clear (c:=c-kk) hlen.out hkn
     have hfin:=Lib.hid (And.intro hA9 (hG.out.trans hG9))
     have hkl:Hid (kp l n=cur.take kk∧(kp l n).length=kk):=by
      have:=hN3.out
      rw[show n=k+q by omega]
      exact⟨hC.out.kept,hC.out.num⟩
     clear hA9 hG9 hA hG hC
     go_wp2_with fail
     go_ret
     refine⟨by rw[hkl.out.2];rfl,by rw[hkl.out.1];exact hfin.out.1,hfin.out.2⟩
   have hD2:Hid (∀ i,0<i→i<k+1→ptAt l i≠ptAt l (i-1)):=fun i h0 h1=>by
    by_cases e:i=k
    ·subst e;rw[hpj.out,hpq.out];exact he
    exact hD.out i h0 (by omega)
   have hpb:ptB pj pq=false:=ptB_false he
   rw[hpb] at heq
   clear hD he hpb hA hG
   go_wp2_with fail
   go_region_o
   go_wp2_with fail
   go_roundw
   case rel=>exact⟨k+1,by omega,by omega,by go_num,hD2,hAG.out.1,hAG.out.2⟩
   case measure=>simp[intOf];omega
  obtain rfl:k=n:=by omega
  have hfin:Hid (kp l k=l):=by
   show _=_
   rw[kp_all (by rw[←hnn.out];exact Nat.le_refl _) hD.out,hnn.out,List.take_length]
  go_wp2_with fail
  go_ret
  refine⟨by rw[hfin.out,←hnn.out];rfl,by rw[hfin.out];exact hA.out,hG.out⟩
end Go.Proofs.YtoojdkaimhlcbaaGreat
