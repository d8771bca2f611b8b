/- What the statements rest on: definitions and walks, part 15. -/
import Derived.Test.YtoojdkaimhlcbaaGreatJ10
set_option maxRecDepth 100000
set_option maxHeartbeats 16000000
set_option linter.unusedSimpArgs false
set_option linter.unusedVariables false
namespace Go.Proofs.YtoojdkaimhlcbaaGreat
open Go Go.RowKit Go.Sort
structure KrI (w:World) (x y:TxS) (W:World):Prop where
 bx:BoxAt W w.heap.size [.slice x.A x.zs.length x.c,.slice y.A y.zs.length y.c]
 bel:Below w.heap.size w W
theorem KrI.below {w:World} {x y:TxS} {X Y:World} (h:KrI w x y X) (hb:Below X.heap.size X Y):KrI w x y Y:=⟨h.bx.below hb,below_step h.bel hb⟩
def ascTo (zs:List Cal.Txt) (j:Nat):Prop:=∀ k (hk:k+1<zs.length),k+1<j→zs[k]<zs[k+1]
theorem KindOfR_any (x y:TxS) (w:World) (hx:TxSR w x) (hy:TxSR w y) :
  Calls Tryz.prog 7 #[.agg #[.slice x.A x.zs.length x.c,.slice y.A y.zs.length y.c]] w fun e w'=>e=.returned (.tuple #[.int .i64 (knK x y),.int .i64 (knE x y)])∧Below w.heap.size w w':=by
 have hI:Hid (KrI w x y (w.alloc (.cells #[.slice x.A x.zs.length x.c,.slice y.A y.zs.length y.c] 25))):=⟨BoxAt.new w #[.slice x.A x.zs.length x.c,.slice y.A y.zs.length y.c] 25,below_alloc _ _⟩
 have hp:=Lib.hid (fun k=>pick2_R hx hy k)
 have qx:=Lib.hid (fun k (hk:k<2) W=>pick2_ix x y (k:=k) hk W)
 obtain⟨E,hE⟩:∃ E,knE x y=E:=⟨_,rfl⟩
 obtain⟨K9,hK9⟩:∃ K,knK x y=K:=⟨_,rfl⟩
 have h10:Hid (∀ k,k<2→¬Cal.g1 (pick2 x y k).zs→E=10∧K9=0):=fun k hk h=>by
  have h1:Cal.kE (fun k=>(pick2 x y k).zs)=10:=Cal.kE_10 (Z:=fun k=>(pick2 x y k).zs) hk h
  exact⟨by rw[←hE];exact h1,by rw[←hK9];exact Cal.kK_no (by rw[h1];decide)⟩
 have h4:Hid ((∀ k,k<2→Cal.g1 (pick2 x y k).zs)→∀ k,k<2→¬Cal.g2 (pick2 x y k).zs→E=4∧K9=0):=fun hg1 k hk h=>by
  have h1:Cal.kE (fun k=>(pick2 x y k).zs)=4:=Cal.kE_4 (Z:=fun k=>(pick2 x y k).zs) hg1 hk h
  exact⟨by rw[←hE];exact h1,by rw[←hK9];exact Cal.kK_no (by rw[h1];decide)⟩
 have h9:Hid ((∀ k,k<2→Cal.g1 (pick2 x y k).zs)→(∀ k,k<2→Cal.g2 (pick2 x y k).zs)→∀ k,k<2→¬Cal.g3 (pick2 x y k).zs→E=9∧K9=0):=fun hg1 hg2 k hk h=>by
  have h1:Cal.kE (fun k=>(pick2 x y k).zs)=9:=Cal.kE_9 (Z:=fun k=>(pick2 x y k).zs) hg1 hg2 hk h
  exact⟨by rw[←hE];exact h1,by rw[←hK9];exact Cal.kK_no (by rw[h1];decide)⟩
 have hok:Hid ((∀ k,k<2→Cal.g1 (pick2 x y k).zs)→(∀ k,k<2→Cal.g2 (pick2 x y k).zs)→(∀ k,k<2→Cal.g3 (pick2 x y k).zs)→E=0∧K9=(if 1<y.zs.length then 1 else 0)+(if 1<x.zs.length then 2 else 0)):=fun hg1 hg2 hg3=>by
  obtain⟨h1,h2⟩:=kk_1 (Z:=fun k=>(pick2 x y k).zs) hg1 hg2 hg3
  exact⟨by rw[←hE];exact h1,by rw[←hK9];exact h2⟩
 rw[hE,hK9]
 clear hE hK9
 have hzx:=hx.size
 have hzy:=hy.size
 clear hx hy
 (obtain⟨x0,x1⟩:=hI.out.bx.c2)
 go_enter Tryz.func7,Tryz.ntmps7
 go_wp2_with fail
 clear x0 x1
 have hv0:Hid (∀ j,j<0→Cal.g1 (pick2 x y j).zs):=fun j hj=>absurd hj (Nat.not_lt_zero _)
 go_loopw [18] (fun i wr=>∃ k:Nat,k≤2∧i=.int .i64 k∧Hid (∀ j,j<k→Cal.g1 (pick2 x y j).zs)∧Hid (KrI w x y wr)) (fun i _=>2-(intOf i).toNat)
 case atStart=>exact⟨0,by decide,rfl,hv0,hI⟩
 case round =>
  clear hv0 hI
  obtain⟨k,hk,rfl,hg1,hI⟩:=hrel
  by_cases hlt:k<2
  ·have q0:=qx.out k hlt
   have hki:(k:Int)<2:=by omega
   have hbad:=h10.out k hlt
   have hnext:Cal.g1 (pick2 x y k).zs→Hid (∀ j,j<k+1→Cal.g1 (pick2 x y j).zs):=fun h j hj=>by
    rcases Nat.lt_or_eq_of_le (show j≤k by omega) with h' | rfl
    ·exact hg1.out j h'
    exact h
   have hzs:=(hp.out k).size
   generalize pick2 x y k=z at *
   unfold Cal.g1 at hbad hnext
   have hwi:=fun W=>Within_any (z.zs.length:Int) 1 200 W
   by_cases n1:1≤z.zs.length∧z.zs.length≤200
   ·have hnx:=hnext n1
    rw[show (decide ((1:Int)≤(z.zs.length:Int)) && decide ((z.zs.length:Int)≤200))=true from by simp;omega] at hwi
    replace hwi:=Lib.hid hwi
    clear hbad hnext
    go_wp2_with (go_at_call 25;refine (hwi.out _).mono ?_;clear hwi;rintro e0 wn ⟨rfl,rfl⟩)
    go_roundw
    case rel=>exact⟨k+1,by omega,by go_num,hnx,hI⟩
    case measure=>simp[intOf];omega
   have hEE:=Lib.hid (hbad n1)
   rw[show (decide ((1:Int)≤(z.zs.length:Int)) && decide ((z.zs.length:Int)≤200))=false from by
    rw[Bool.and_eq_false_iff,decide_eq_false_iff_not,decide_eq_false_iff_not];omega] at hwi
   replace hwi:=Lib.hid hwi
   clear hbad hnext
   go_wp2_with (go_at_call 25;refine (hwi.out _).mono ?_;clear hwi;rintro e0 wn ⟨rfl,rfl⟩)
   go_ret2
   exact⟨by rw[hEE.out.1,hEE.out.2];rfl,hI.out.bel⟩
  have hki:¬(k:Int)<2:=by omega
  have hg1':∀ j,j<2→Cal.g1 (pick2 x y j).zs:=fun j hj=>hg1.out j (by omega)
  replace h4:=Lib.hid (h4.out hg1')
  replace h9:=Lib.hid (h9.out hg1')
  replace hok:=Lib.hid (hok.out hg1')
  clear hg1' hg1 h10
  generalize k=k9 at *
  (obtain⟨x0,x1⟩:=hI.out.bx.c2)
  go_wp2_with fail
  clear x0 x1
  have hv0:Hid (∀ j,j<0→Cal.g2 (pick2 x y j).zs):=fun j hj=>absurd hj (Nat.not_lt_zero _)
  go_loopw [31] (fun i wr=>∃ k:Nat,k≤2∧i=.int .i64 k∧Hid (∀ j,j<k→Cal.g2 (pick2 x y j).zs)∧Hid (KrI w x y wr)) (fun i _=>2-(intOf i).toNat)
  case atStart=>exact⟨0,by decide,rfl,hv0,hI⟩
  case round =>
   clear hv0 hI hk hlt
   obtain⟨k,hk,rfl,hg2,hI⟩:=hrel
   by_cases hlt:k<2
   ·have q0:=qx.out k hlt
    have hkj:(k:Int)<2:=by omega
    have hbad:=Lib.hid (h4.out k hlt)
    have hnext:Hid (Cal.g2 (pick2 x y k).zs→∀ j,j<k+1→Cal.g2 (pick2 x y j).zs):=fun h j hj=>by
     rcases Nat.lt_or_eq_of_le (show j≤k by omega) with h' | rfl
     ·exact hg2.out j h'
     exact h
    have hR:=Lib.hid (hp.out k)
    have hzs:=hR.out.size
    generalize pick2 x y k=z at *
    have hv1:Hid (Cal.g2 (z.zs.take 0)):=fun t ht=>by rw[List.take_zero] at ht;cases ht
    go_wp2_with fail
    go_loopw [8] (fun i wr=>∃ m:Nat,m≤z.zs.length∧i=.int .i64 m∧Hid (Cal.g2 (z.zs.take m))∧Hid (KrI w x y wr)) (fun i _=>z.zs.length-(intOf i).toNat)
    case atStart=>exact⟨0,Nat.zero_le _,rfl,hv1,hI⟩
    case round =>
     clear hv1 hI
     obtain⟨m,hm,rfl,hall,hI⟩:=hrel
     by_cases hmt:m<z.zs.length
     ·obtain⟨b,o,hA,_,s1,hs1,c0⟩:=txtRow_at (hR.out.rows.below hI.out.bel) hmt
      have htk:Hid (z.zs.take (m+1)=z.zs.take m ++ [z.zs[m]]):=by show _=_;rw[List.take_succ_eq_append_getElem hmt]
      have hmem:Hid (z.zs[m]∈z.zs):=List.getElem_mem hmt
      have hln:=hR.out.len _ (List.getElem_mem hmt)
      have hmi:(m:Int)<(z.zs.length:Int):=by omega
      have hn1:=Lib.hid (fun W=>IsName_any s1 W (by rw[size_len hs1];exact hln))
      rw[←nmT_of,hs1] at hn1
      generalize z.zs[m]=t at *
      clear hln hs1
      obtain⟨zA,zc,zz⟩:=z
      dsimp only at *
      subst hA
      cases he:nmT t
      ·rw[he] at hn1
       have hEE:=Lib.hid (hbad.out (fun hg=>by have:=hg _ hmem.out;rw[he] at this;cases this))
       clear hbad hnext hall htk hmem
       go_wp2_with (go_at_call 26;refine (hn1.out _).mono ?_;clear hn1;rintro e0 wn ⟨rfl,rfl⟩)
       go_ret2
       exact⟨by rw[hEE.out.1,hEE.out.2];rfl,hI.out.bel⟩
      rw[he] at hn1
      have hnx:Hid (Cal.g2 (zz.take (m+1))):=fun t' ht'=>by
       rw[htk.out,List.mem_append,List.mem_singleton] at ht'
       rcases ht' with h1 | rfl
       ·exact hall.out _ h1
       exact he
      clear hall htk hmem
      go_wp2_with (go_at_call 26;refine (hn1.out _).mono ?_;clear hn1;rintro e0 wn ⟨rfl,rfl⟩)
      go_roundw
      case rel=>exact⟨m+1,by omega,by go_num,hnx,hI⟩
      case measure=>simp[intOf];omega
     have hyes:Hid (Cal.g2 z.zs):=by
      have:=hall.out
      rw[List.take_of_length_le (by omega)] at this
      exact this
     have hnx:=Lib.hid (hnext.out hyes.out)
     have hmi:¬(m:Int)<(z.zs.length:Int):=by omega
     clear hall hbad hnext hyes
     go_wp2_with fail
     go_roundw
     case rel=>exact⟨k+1,by omega,by go_num,hnx,hI⟩
     case measure=>simp[intOf];omega
   have hkj:¬(k:Int)<2:=by omega
   have hg2':∀ j,j<2→Cal.g2 (pick2 x y j).zs:=fun j hj=>hg2.out j (by omega)
   replace h9:=Lib.hid (h9.out hg2')
   replace hok:=Lib.hid (hok.out hg2')
   clear hg2' hg2 h4
   generalize k=k8 at *
   (obtain⟨x0,x1⟩:=hI.out.bx.c2)
   go_wp2_with fail
   clear x0 x1
   have hv0:Hid (∀ j,j<0→Cal.g3 (pick2 x y j).zs):=fun j hj=>absurd hj (Nat.not_lt_zero _)
   go_loopw [52] (fun i wr=>∃ k:Nat,k≤2∧i=.int .i64 k∧Hid (∀ j,j<k→Cal.g3 (pick2 x y j).zs)∧Hid (KrI w x y wr)) (fun i _=>2-(intOf i).toNat)
   case atStart=>exact⟨0,by decide,rfl,hv0,hI⟩
   case round =>
    clear hv0 hI hk hlt
    obtain⟨k,hk,rfl,hg3,hI⟩:=hrel
    by_cases hlt:k<2
    ·have q0:=qx.out k hlt
     have hkl:(k:Int)<2:=by omega
     have hbad:=Lib.hid (h9.out k hlt)
     have hnext:Hid (Cal.g3 (pick2 x y k).zs→∀ j,j<k+1→Cal.g3 (pick2 x y j).zs):=fun h j hj=>by
      rcases Nat.lt_or_eq_of_le (show j≤k by omega) with h' | rfl
      ·exact hg3.out j h'
      exact h
     have hR:=Lib.hid (hp.out k)
     have hzs:=hR.out.size
     generalize pick2 x y k=z at *
     have hv1:Hid (ascTo z.zs 1):=fun k hk hq=>by omega
     go_wp2_with fail
     go_loopw [11] (fun i wr=>∃ m:Nat,1≤m∧m≤z.zs.length+1∧i=.int .i64 m∧Hid (ascTo z.zs m)∧Hid (KrI w x y wr)) (fun i _=>z.zs.length-(intOf i).toNat)
     case atStart=>exact⟨1,Nat.le_refl _,by omega,rfl,hv1,hI⟩
     case round =>
      clear hv1 hI
      obtain⟨m,hm1,hm,rfl,hall,hI⟩:=hrel
      by_cases hmt:m<z.zs.length
      ·have hq2:m-1<z.zs.length:=by omega
       obtain⟨b,o,hA,_,s1,hs1,c0⟩:=txtRow_at (hR.out.rows.below hI.out.bel) hmt
       obtain⟨b2,o2,hA2,_,s2,hs2,d0⟩:=txtRow_at (hR.out.rows.below hI.out.bel) hq2
       rw[hA] at hA2
       cases hA2
       have p1:IntKind.i64.wrap ((m:Int)-1)=(m:Int)-1:=wrap_small (by omega) (by omega)
       have p2:(1:Int)≤(m:Int):=by omega
       have p3:(0:Int)<(m:Int):=by omega
       have p4:(m:Int)-1<(z.zs.length:Int):=by omega
       have p5:((m:Int)-1).toNat=m-1:=by omega
       have p6:(0:Int)≤(m:Int)-1:=by omega
       have p7:0<m:=by omega
       have p9:(m:Int)<(z.zs.length:Int):=by omega
       have hyes:Hid ((Op.bytesLess s1.toList s2.toList || s1.toList == s2.toList)=false→ascTo z.zs (m+1)):=fun h k hk hq=>by
        rcases Nat.lt_or_ge (k+1) m with h' | h'
        ·exact hall.out k hk h'
        have e:k=m-1:=by omega
        subst e
        have e2:m-1+1=m:=by omega
        simp only[e2]
        rw[Bool.or_eq_false_iff,bytesLess_eq,decide_eq_false_iff_not,hs1,hs2,beq_eq_false_iff_ne] at h
        rcases Cal.txt_tri z.zs[m-1] z.zs[m] with h3 | h3 | h3
        ·exact h3
        ·exact absurd h3.symm h.2
        exact absurd h3 h.1
       have hno:Hid ((Op.bytesLess s1.toList s2.toList || s1.toList == s2.toList)=true→¬Cal.g3 z.zs):=fun h hg=>by
        rw[Bool.or_eq_true,bytesLess_eq,decide_eq_true_iff,hs1,hs2,beq_iff_eq] at h
        have h3:=List.pairwise_iff_getElem.1 hg (m-1) m hq2 hmt (by omega)
        rcases h with h | h
        ·exact List.lt_irrefl _ (List.lt_trans h h3)
        rw[h] at h3;exact List.lt_irrefl _ h3
       clear hs1 hs2 hall
       obtain⟨zA,zc,zz⟩:=z
       dsimp only at *
       subst hA
       go_wp2_with fail
       refine wp_region_held_drew (S:=Sx wr [(b,o+m,.string s1),(b,o+(m-1),.string s2)]) (by kernel_rfl) (Sx.mk (by simp only[cs_iff_cons];exact⟨c0,d0,cs_nil _⟩) (Below.refl _ _)).drew (fun hHeld=>?_)
       clear c0 d0
       refine tkHx 0 61 ?_
       refine tkHx 1 62 ?_
       refine tkHx 2 63 ?_
       refine tkHx 3 64 ?_
       refine tkHx 4 65 ?_
       refine tkHx 5 66 ?_
       refine tkHx 6 67 ?_
       refine tkHx 7 68 ?_
       refine tkHx 8 69 ?_
       refine tkHx 9 70 ?_
       refine wpAnyH_done (by kernel_rfl) ?_ _
       (try simp only[apS,apN,siA,scZ,scS])
       replace hI:=Lib.hid (hI.out.below hHeld.bel)
       clear hHeld
       generalize (Op.bytesLess s1.toList s2.toList || s1.toList == s2.toList)=vv at *
       cases vv
       ·have hnx:=Lib.hid (hyes.out rfl)
        clear hyes hno
        go_wp2_with fail
        go_roundw
        case rel=>exact⟨m+1,by omega,by omega,by go_num,hnx,hI⟩
        case measure=>simp[intOf];omega
       have hEE:=Lib.hid (hbad.out (hno.out rfl))
       clear hbad hnext hyes hno
       go_wp2_with fail
       go_ret2
       exact⟨by rw[hEE.out.1,hEE.out.2];rfl,hI.out.bel⟩
      have hyes:Hid (Cal.g3 z.zs):=Cal.up_of_next (R:=fun a b=>a<b) (fun h1 h2=>List.lt_trans h1 h2) fun k hk=>hall.out k hk (by omega)
      have hnx:=Lib.hid (hnext.out hyes.out)
      have hmi:¬(m:Int)<(z.zs.length:Int):=by omega
      clear hall hbad hnext hyes
      go_wp2_with fail
      go_roundw
      case rel=>exact⟨k+1,by omega,by go_num,hnx,hI⟩
      case measure=>simp[intOf];omega
    have hkl:¬(k:Int)<2:=by omega
    have hEE:=Lib.hid (hok.out (fun j hj=>hg3.out j (by omega)))
    clear hok hg3 h9
    generalize k=k7 at *
    (obtain⟨x0,x1⟩:=hI.out.bx.c2)
    by_cases m1:1<y.zs.length
    ·have m2:1<(y.zs.length:Int):=by omega
     by_cases m3:1<x.zs.length
     ·have m4:1<(x.zs.length:Int):=by omega
      go_wp2_with fail
      go_ret2
      exact⟨by rw[hEE.out.1,hEE.out.2,if_pos m1,if_pos m3];rfl,hI.out.bel⟩
     have m4:¬1<(x.zs.length:Int):=by omega
     go_wp2_with fail
     go_ret2
     exact⟨by rw[hEE.out.1,hEE.out.2,if_pos m1,if_neg m3];rfl,hI.out.bel⟩
    have m2:¬1<(y.zs.length:Int):=by omega
    by_cases m3:1<x.zs.length
    ·have m4:1<(x.zs.length:Int):=by omega
     go_wp2_with fail
     go_ret2
     exact⟨by rw[hEE.out.1,hEE.out.2,if_neg m1,if_pos m3];rfl,hI.out.bel⟩
    have m4:¬1<(x.zs.length:Int):=by omega
    go_wp2_with fail
    go_ret2
    exact⟨by rw[hEE.out.1,hEE.out.2,if_neg m1,if_neg m3];rfl,hI.out.bel⟩
end Go.Proofs.YtoojdkaimhlcbaaGreat
namespace Go.Proofs.YtoojdkaimhlcbaaGreat
open Go Go.RowKit Go.Sort
def namL (l:List Rn):Bool:=(decide (l.length≤20) || decide (200<l.length)) && decide (l.length≤210) && l.all fun x=>decide (x.old.length≤30) && decide (x.new.length≤30)
theorem all_take1 {α:Type} {p:α→Bool} {l:List α} {k:Nat} (h:k<l.length):(l.take (k+1)).all p=((l.take k).all p && p l[k]):=by
 rw[List.take_succ_eq_append_getElem h,List.all_append];simp
theorem all_at_false {α:Type} {p:α→Bool} {l:List α} {k:Nat} (h:k<l.length) (hp:p l[k]=false):l.all p=false:=by
 cases ha:l.all p
 ·rfl
 have:=List.all_eq_true.1 ha _ (List.getElem_mem h)
 rw[hp] at this;cases this
theorem lawNames_any (A:Option Addr) (c:Nat) (l:List Rn) (w:World) (hR:RowsAt w A 2 (l.map rnR)):Calls Tryz.prog 5 #[.slice A l.length c] w fun e w'=>e=.returned (.bool (namL l))∧Below w.heap.size w w':=by
 have hb0:Hid (Below w.heap.size w w):=Below.refl _ _
 replace hR:=Lib.hid hR
 by_cases h1:20<l.length
 ·by_cases h2:l.length≤200
  ·have hfin:namL l=false:=by unfold namL;rw[decide_eq_false (by omega),decide_eq_false (show ¬200<l.length by omega)];rfl
   have p1:20<(l.length:Int):=by omega
   have p2:(l.length:Int)≤200:=by omega
   rw[hfin]
   clear hfin hR
   go_enter Tryz.func5,Tryz.ntmps5
   go_wp2_with fail
   go_ret
   exact⟨rfl,hb0.out⟩
  by_cases h3:210<l.length
  ·have hfin:namL l=false:=by unfold namL;rw[decide_eq_false (show ¬l.length≤210 by omega),Bool.and_false];rfl
   have p1:20<(l.length:Int):=by omega
   have p2:¬(l.length:Int)≤200:=by omega
   have p3:210<(l.length:Int):=by omega
   rw[hfin]
   clear hfin hR
   go_enter Tryz.func5,Tryz.ntmps5
   go_wp2_with fail
   go_ret
   exact⟨rfl,hb0.out⟩
  have hfin:Hid (namL l=l.all fun x=>decide (x.old.length≤30) && decide (x.new.length≤30)):=by show _=_;unfold namL;rw[decide_eq_true (show 200<l.length by omega),decide_eq_true (show l.length≤210 by omega),Bool.or_true,Bool.true_and,Bool.true_and]
  have p1:20<(l.length:Int):=by omega
  have p2:¬(l.length:Int)≤200:=by omega
  have p3:¬210<(l.length:Int):=by omega
  have hs:l.length≤210:=by omega
  clear h1 h2 h3
  go_enter Tryz.func5,Tryz.ntmps5
  go_wp2_with fail
  go_loopw [3] (fun i wr=>∃ k:Nat,k≤l.length∧i=.int .i64 k∧Hid (((l.take k).all fun x=>decide (x.old.length≤30) && decide (x.new.length≤30))=true)∧Hid (Below w.heap.size w wr)) (fun i _=>l.length-(intOf i).toNat)
  case atStart=>exact⟨0,Nat.zero_le _,rfl,rfl,hb0⟩
  case round =>
   clear hb0
   obtain⟨k,hk,rfl,hall,hb⟩:=hrel
   by_cases hlt:k<l.length
   ·have hk':l[k]?=some l[k]:=List.getElem?_eq_getElem hlt
    have htk:=all_take1 (p:=fun x:Rn=>decide (x.old.length≤30) && decide (x.new.length≤30)) hlt
    have haf:=Lib.hid (fun h=>all_at_false (p:=fun x:Rn=>decide (x.old.length≤30) && decide (x.new.length≤30)) hlt h)
    obtain⟨b,o,rfl,_,ao,an,ha1,ha2,c0,c1⟩:=rn_at (hR.out.below hb.out) hk'
    have z1:=size_len ha1
    have z2:=size_len ha2
    rw[hall.out,Bool.true_and] at htk
    rw[←z1,←z2] at htk haf
    have hki:(k:Int)<(l.length:Int):=by omega
    replace htk:=Lib.hid htk
    clear hk' ha1 ha2 z1 z2
    by_cases q1:30<ao.size
    ·have hno:Hid (namL l=false):=by show _=_;rw[hfin.out];exact haf.out (by rw[decide_eq_false (by omega)];rfl)
     have q2:30<(ao.size:Int):=by omega
     clear haf htk
     go_wp2_with fail
     go_ret
     exact⟨by rw[hno.out];rfl,hb.out⟩
    have q2:¬30<(ao.size:Int):=by omega
    by_cases q3:30<an.size
    ·have hno:Hid (namL l=false):=by show _=_;rw[hfin.out];exact haf.out (by rw[decide_eq_false (show ¬an.size≤30 by omega),Bool.and_false])
     have q4:30<(an.size:Int):=by omega
     clear haf htk
     go_wp2_with fail
     go_ret
     exact⟨by rw[hno.out];rfl,hb.out⟩
    have hnx:Hid (((l.take (k+1)).all fun x=>decide (x.old.length≤30) && decide (x.new.length≤30))=true):=by show _=_;rw[htk.out,decide_eq_true (show ao.size≤30 by omega),decide_eq_true (show an.size≤30 by omega)];rfl
    have q4:¬30<(an.size:Int):=by omega
    clear haf htk
    go_wp2_with fail
    go_roundw
    case rel=>exact⟨k+1,by omega,by go_num,hnx,hb⟩
    case measure=>simp[intOf];omega
   have hyes:Hid (namL l=true):=by
    show _=_
    have h:=hall.out
    rw[List.take_of_length_le (by omega)] at h
    rw[hfin.out];exact h
   have hge:l.length=k:=by omega
   go_wp2_with fail
   go_ret
   exact⟨by rw[hyes.out];rfl,hb.out⟩
 have hfin:Hid (namL l=l.all fun x=>decide (x.old.length≤30) && decide (x.new.length≤30)):=by show _=_;unfold namL;rw[decide_eq_true (show l.length≤20 by omega),decide_eq_true (show l.length≤210 by omega),Bool.true_or,Bool.true_and,Bool.true_and]
 have p1:¬20<(l.length:Int):=by omega
 have p3:¬210<(l.length:Int):=by omega
 have hs:l.length≤210:=by omega
 clear h1
 go_enter Tryz.func5,Tryz.ntmps5
 go_wp2_with fail
 go_loopw [3] (fun i wr=>∃ k:Nat,k≤l.length∧i=.int .i64 k∧Hid (((l.take k).all fun x=>decide (x.old.length≤30) && decide (x.new.length≤30))=true)∧Hid (Below w.heap.size w wr)) (fun i _=>l.length-(intOf i).toNat)
 case atStart=>exact⟨0,Nat.zero_le _,rfl,rfl,hb0⟩
 case round =>
  clear hb0
  obtain⟨k,hk,rfl,hall,hb⟩:=hrel
  by_cases hlt:k<l.length
  ·have hk':l[k]?=some l[k]:=List.getElem?_eq_getElem hlt
   have htk:=all_take1 (p:=fun x:Rn=>decide (x.old.length≤30) && decide (x.new.length≤30)) hlt
   have haf:=Lib.hid (fun h=>all_at_false (p:=fun x:Rn=>decide (x.old.length≤30) && decide (x.new.length≤30)) hlt h)
   obtain⟨b,o,rfl,_,ao,an,ha1,ha2,c0,c1⟩:=rn_at (hR.out.below hb.out) hk'
   have z1:=size_len ha1
   have z2:=size_len ha2
   rw[hall.out,Bool.true_and] at htk
   rw[←z1,←z2] at htk haf
   have hki:(k:Int)<(l.length:Int):=by omega
   replace htk:=Lib.hid htk
   clear hk' ha1 ha2 z1 z2
   by_cases q1:30<ao.size
   ·have hno:Hid (namL l=false):=by show _=_;rw[hfin.out];exact haf.out (by rw[decide_eq_false (by omega)];rfl)
    have q2:30<(ao.size:Int):=by omega
    clear haf htk
    go_wp2_with fail
    go_ret
    exact⟨by rw[hno.out];rfl,hb.out⟩
   have q2:¬30<(ao.size:Int):=by omega
   by_cases q3:30<an.size
   ·have hno:Hid (namL l=false):=by show _=_;rw[hfin.out];exact haf.out (by rw[decide_eq_false (show ¬an.size≤30 by omega),Bool.and_false])
    have q4:30<(an.size:Int):=by omega
    clear haf htk
    go_wp2_with fail
    go_ret
    exact⟨by rw[hno.out];rfl,hb.out⟩
   have hnx:Hid (((l.take (k+1)).all fun x=>decide (x.old.length≤30) && decide (x.new.length≤30))=true):=by show _=_;rw[htk.out,decide_eq_true (show ao.size≤30 by omega),decide_eq_true (show an.size≤30 by omega)];rfl
   have q4:¬30<(an.size:Int):=by omega
   clear haf htk
   go_wp2_with fail
   go_roundw
   case rel=>exact⟨k+1,by omega,by go_num,hnx,hb⟩
   case measure=>simp[intOf];omega
  have hyes:Hid (namL l=true):=by
   show _=_
   have h:=hall.out
   rw[List.take_of_length_le (by omega)] at h
   rw[hfin.out];exact h
  have hge:l.length=k:=by omega
  go_wp2_with fail
  go_ret
  exact⟨by rw[hyes.out];rfl,hb.out⟩
end Go.Proofs.YtoojdkaimhlcbaaGreat
namespace Go.Proofs.YtoojdkaimhlcbaaGreat
open Go Go.RowKit Go.Shelf
theorem rows_new {m:Nat} (w:World) (l:List (List Value)) (hw:∀ r∈l,r.length=m) (cs:Array Value) (hcs:cs=l.flatten.toArray) (t:TypeId):RowsAt (w.alloc (.cells cs t)) (some ⟨w.heap.size,0,none⟩) m l:=by
 subst hcs
 exact fun k r hr=>⟨w.heap.size,0,rfl,by simp,fun j v hv=>by rw[cell_alloc_at,Nat.zero_add];simpa using flat_get hw hr hv⟩
theorem ptsR_new (w:World) (ps:List Pt) (hl:ps.length≤1000000) (cs:Array Value) (hcs:cs=(ps.map ptR).flatten.toArray) (t:TypeId):PtsR (w.alloc (.cells cs t)) (some ⟨w.heap.size,0,none⟩) ps :=
 ⟨rows_new w _ (fun r hr=>by obtain⟨p,_,rfl⟩:=List.mem_map.1 hr;rfl) cs hcs t,hl,fun ad e _=>by cases e;simp⟩
theorem PtsR.far {w w':World} {b:Nat} {B:Nat} {ps:List Pt} (h:PtsR w (some ⟨b,0,none⟩) ps) (hg:w.grownBy w' (some B)) (hne:b≠B):PtsR w' (some ⟨b,0,none⟩) ps :=
 ⟨h.rows.farI hg (fun a e=>by cases e;exact fun h=>hne (by cases h;rfl)),h.size,fun ad e hl=>Nat.lt_of_lt_of_le (h.own ad e hl) hg.size⟩
theorem lawBox_any (x1 y1 x2 y2:Int) (w:World):Calls Tryz.prog 18 #[.int .i64 x1,.int .i64 y1,.int .i64 x2,.int .i64 y2] w fun e w'=>∃ b,e=.returned (.slice (some ⟨b,0,none⟩) 4 4)∧w.heap.size≤b∧PtsR w' (some ⟨b,0,none⟩) (Cal.boxP x1 y1 x2 y2)∧Below w.heap.size w w':=by
 have hp:=Lib.hid (fun t=>ptsR_new w (Cal.boxP x1 y1 x2 y2) (by simp[Cal.boxP]) #[.int .i64 x1,.int .i64 y1,.int .i64 x2,.int .i64 y1,.int .i64 x2,.int .i64 y2,.int .i64 x1,.int .i64 y2] rfl t)
 go_enter Tryz.func18,Tryz.ntmps18
 go_wp2_with fail
 go_ret
 exact⟨_,rfl,Nat.le_refl _,hp.out _,below_alloc _ _⟩
def triLevs (k:Int):List Lev:=[⟨0,1,100,1⟩,⟨1,2,50,1⟩,⟨0,2,156,k⟩]
theorem lawTri_any (k:Int) (w:World):Calls Tryz.prog 16 #[.int .i64 k] w fun e w'=>∃ A,e=.returned (.slice A 3 3)∧Levs w' A (triLevs k)∧Below w.heap.size w w':=by
 have hp:=Lib.hid (fun t=>rows_new (m:=4) w ((triLevs k).map Lev.cells) (fun r hr=>by obtain⟨p,_,rfl⟩:=List.mem_map.1 hr;rfl) #[.int .i64 0,.int .i64 1,.int .i64 100,.int .i64 1,.int .i64 1,.int .i64 2,.int .i64 50,.int .i64 1,.int .i64 0,.int .i64 2,.int .i64 156,.int .i64 k] rfl t)
 go_enter Tryz.func16,Tryz.ntmps16
 go_wp2_with fail
 go_ret
 exact⟨_,rfl,⟨hp.out _,by simp[triLevs]⟩,below_alloc _ _⟩
end Go.Proofs.YtoojdkaimhlcbaaGreat
namespace Go.Proofs.YtoojdkaimhlcbaaGreat
open Go Go.RowKit Go.Shelf
structure SmV (p:Pt):Prop where
 x0:-100000≤p.x
 x1:p.x≤100000
 y0:-100000≤p.y
 y1:p.y≤100000
theorem SmV.sm {p:Pt} (h:SmV p):SmP p:=by obtain⟨h0,h1,h2,h3⟩:=h;constructor <;> omega
theorem ptErr_smV {p:Pt} (h:Cal.ptErr p=0):SmV p:=by
 unfold Cal.ptErr at h
 split at h
 ·cases h
 constructor <;> omega
structure PtsV (w:World) (V:Option Addr) (ps:List Pt):Prop where
 rows:RowsAt w V 2 (ps.map ptR)
 size:ps.length≤1000000
 sm:∀ p∈ps,SmV p
 own:∀ ad,V=some ad→0<ps.length→ad.block<w.heap.size
theorem PtsV.below {w w':World} {V:Option Addr} {ps:List Pt} (h:PtsV w V ps) (hb:Below w.heap.size w w'):PtsV w' V ps :=
 ⟨h.rows.below hb,h.size,h.sm,fun ad e hl=>Nat.lt_of_lt_of_le (h.own ad e hl) hb.size⟩
theorem PtsV.pts {w:World} {V:Option Addr} {ps:List Pt} (h:PtsV w V ps):Pts w V ps:=⟨h.rows,h.size,fun p hp=>(h.sm p hp).sm,h.own⟩
theorem polyE_zero {ps:List Pt} (h:Cal.polyE ps=0):3≤ps.length∧ps.length≤40∧Cal.ptsErr ps=0∧Cal.twiceP [] ps=false∧Cal.simpleP ps=true∧0≤Cal.areaP ps:=by
 unfold Cal.polyE at h
 split at h
 ·omega
 rename_i h1
 split at h
 ·rename_i h2
  split at h
  ·omega
  rename_i h3
  split at h
  ·rename_i h4
   split at h
   ·omega
   exact⟨by omega,by omega,h2,by simpa using h3,h4,by omega⟩
  omega
 rename_i h2;exact absurd h h2
theorem PtsR.ptsV {w:World} {V:Option Addr} {ps:List Pt} (h:PtsR w V ps) (h0:Cal.polyE ps=0):PtsV w V ps :=
 ⟨h.rows,h.size,fun p hp=>ptErr_smV (ptsErr_zero (polyE_zero h0).2.2.1 p hp),h.own⟩
theorem mk_points (W:World) (n:Nat) (hn:n≤1000000):(Instr.makeSlice 44 (.int .i64 (n:Int)) (.int .i64 (n:Int))).run Tryz.prog W=.ok (.slice (some ⟨W.heap.size,0,none⟩) n n) (W.alloc (.cells (madeCells #[.int .i64 0,.int .i64 0] (n*2)) 61)):=by
 have hq:(Tryz.prog.info? 61).map (fun i=>(i.zero,i.size,decide (i.bytes≤1000)))=some (some (.agg #[.int .i64 0,.int .i64 0]),2,true):=by kernel_rfl
 obtain⟨i,hi,hz,hs,hby⟩:∃ i,Tryz.prog.info? 61=some i∧i.zero=some (.agg #[.int .i64 0,.int .i64 0])∧i.size=2∧i.bytes≤1000:=by
  cases hi:Tryz.prog.info? 61 with
  | none=>rw[hi] at hq;cases hq
  | some i =>
   rw[hi,Option.map_some,Option.some.injEq,Prod.mk.injEq,Prod.mk.injEq,decide_eq_true_iff] at hq
   exact⟨i,rfl,hq.1,hq.2.1,hq.2.2⟩
 have h:=run_makeSlice (P:=Tryz.prog) W 44 61 i (.agg #[.int .i64 0,.int .i64 0]) Tryz.underlying44 hi hz .i64 .i64 n n (by omega) (Int.le_refl _) (by rw[hs];omega) (by
  have:((i.bytes:Nat):Int)*(n:Int)≤1000*1000000:=Int.mul_le_mul (by omega) (by omega) (by omega) (by omega)
  omega) (by omega)
 rw[Int.toNat_natCast,hs] at h
 exact h
def DbF (ps:List Pt) (k:Nat) (cs:List Value):Prop:=cs.length=ps.length*2∧∀ (i:Nat) (q:Pt),i<k→ps[i]?=some q→cs[i*2]?=some (.int .i64 (2*q.x))∧cs[i*2+1]?=some (.int .i64 (2*q.y))
theorem DbF.step {ps:List Pt} {k:Nat} {cs:List Value} (h:DbF ps k cs) {q:Pt} (hk:ps[k]?=some q):DbF ps (k+1) ((cs.set (k*2) (.int .i64 (2*q.x))).set (k*2+1) (.int .i64 (2*q.y))):=by
 obtain⟨h1,h2⟩:=h
 have hlt:k<ps.length:=(List.getElem?_eq_some_iff.1 hk).1
 refine⟨by simp[h1],fun i r hi hr=>?_⟩
 by_cases e:i=k
 ·subst e
  rw[hk] at hr
  cases hr
  constructor
  ·rw[List.getElem?_set_ne (by omega),List.getElem?_set_self (by rw[h1];omega)]
  rw[List.getElem?_set_self (by rw[List.length_set,h1];omega)]
 rw[List.getElem?_set_ne (by omega),List.getElem?_set_ne (by omega),List.getElem?_set_ne (by omega),List.getElem?_set_ne (by omega)]
 exact h2 i r (by omega) hr
theorem DbF.pts {w:World} {M:Nat} {ps:List Pt} {cs:List Value} (h:DbF ps ps.length cs) (hb:BoxAt w M cs) (hsz:ps.length≤1000000) (hsm:∀ p∈ps,SmV p):Pts w (some ⟨M,0,none⟩) (Cal.dblP ps):=by
 refine⟨fun j r hr=>?_,by unfold Cal.dblP;rw[List.length_map];exact hsz,fun p hp=>?_,fun ad e _=>by cases e;exact hb.lt⟩
 ·unfold Cal.dblP at hr
  rw[List.map_map,List.getElem?_map] at hr
  cases hq:ps[j]? with
  | none=>rw[hq] at hr;cases hr
  | some q =>
   rw[hq] at hr
   cases hr
   have hj:j<ps.length:=(List.getElem?_eq_some_iff.1 hq).1
   obtain⟨c0,c1⟩:=h.2 j q hj hq
   refine⟨M,0,rfl,hb.lt,fun i v hv=>?_⟩
   rw[Nat.zero_add]
   match i,hv with
   | 0,hv=>cases hv;exact hb.c _ _ c0
   | 1,hv=>cases hv;exact hb.c _ _ c1
 unfold Cal.dblP at hp
 obtain⟨q,hq,rfl⟩:=List.mem_map.1 hp
 obtain⟨a0,a1,a2,a3⟩:=hsm q hq
 constructor <;> (dsimp only;omega)
theorem doubled_any (V:Option Addr) (d:Nat) (ps:List Pt) (w:World) (hP:PtsV w V ps) :
  Calls Tryz.prog 73 #[.slice V ps.length d] w fun e w'=>e=.returned (.slice (some ⟨w.heap.size,0,none⟩) ps.length ps.length)∧Pts w' (some ⟨w.heap.size,0,none⟩) (Cal.dblP ps)∧Below w.heap.size w w':=by
 have hsz:=hP.size
 have hP:=Lib.hid hP
 have hmk:=fun W=>mk_points W ps.length hsz
 have hBx:=BoxAt.new w (madeCells #[.int .i64 0,.int .i64 0] (ps.length*2)) 61
 have hF:Hid (∃ cs,BoxAt (w.alloc (.cells (madeCells #[.int .i64 0,.int .i64 0] (ps.length*2)) 61)) w.heap.size cs∧DbF ps 0 cs):=⟨_,hBx,by rw[Array.length_toList,size_madeCells],fun i q hi=>by omega⟩
 have hB0:Hid (Below w.heap.size w (w.alloc (.cells (madeCells #[.int .i64 0,.int .i64 0] (ps.length*2)) 61))):=below_alloc _ _
 have hl0:Hid (w.heap.size<(w.alloc (.cells (madeCells #[.int .i64 0,.int .i64 0] (ps.length*2)) 61)).heap.size):=by show _<_;simp
 clear hBx
 go_enter Tryz.func73,Tryz.ntmps73
 go_wp2_with fail
 clear hmk
 generalize w.alloc (.cells (madeCells #[.int .i64 0,.int .i64 0] (ps.length*2)) 61)=w1 at *
 go_loopw [11] (fun i wr=>∃ k:Nat,k≤ps.length∧i=.int .i64 k∧Hid (∃ cs,BoxAt wr w.heap.size cs∧DbF ps k cs)∧Hid (Below w.heap.size w wr)) (fun i _=>ps.length-(intOf i).toNat)
 case atStart=>exact⟨0,Nat.zero_le _,rfl,hF,hB0⟩
 case round =>
  clear hF hB0 hl0
  obtain⟨k,hk,rfl,hC,hB⟩:=hrel
  by_cases hlt:k<ps.length
  ·have hk':ps[k]?=some ps[k]:=List.getElem?_eq_getElem hlt
   have hst:=Lib.hid (fun cs (h:DbF ps k cs)=>h.step hk')
   have hsm:=hP.out.sm _ (List.getElem_mem hlt)
   obtain⟨b,o,rfl,hbl,c0,c1⟩:=pts_at (hP.out.below hB.out).rows hk'
   clear hk'
   generalize ps[k]=q at *
   obtain⟨q0,q1,q2,q3⟩:=hsm
   obtain⟨cs,hb,hd⟩:=hC.out
   have hkl:k*2+1<cs.length:=by rw[hd.1];omega
   have f0:=hb.free (k*2) (by omega)
   have f1:=hb.free (k*2+1) (by omega)
   obtain⟨v0,hv0⟩:∃ v,cs[k*2]?=some v:=⟨_,List.getElem?_eq_getElem (by omega)⟩
   obtain⟨v1,hv1⟩:∃ v,cs[k*2+1]?=some v:=⟨_,List.getElem?_eq_getElem (by omega)⟩
   have g0:=hb.c _ _ hv0
   have g1:=hb.c _ _ hv1
   have hMw:=hb.lt
   have hall:=Lib.hid (And.intro hb (And.intro (hst.out cs hd) hB.out))
   clear hb hd hst hC hB hv0 hv1
   have w1:IntKind.i64.wrap (2*q.x)=2*q.x:=wrap_small (by omega) (by omega)
   have w2:IntKind.i64.wrap (2*q.y)=2*q.y:=wrap_small (by omega) (by omega)
   go_wp2_with fail
   go_roundw
   case rel =>
    obtain⟨hb,hd,hB⟩:=hall.out
    refine⟨k+1,by omega,by go_num,⟨_,((hb.set (k*2) (.int .i64 (2*q.x)) (by omega)).set (k*2+1) (.int .i64 (2*q.y)) (by rw[List.length_set];omega)).alloc _,hd⟩,?_⟩
    exact below_step ((hB.setCell (p:=⟨w.heap.size,k*2,none⟩) (Nat.le_refl _) _).setCell (p:=⟨w.heap.size,k*2+1,none⟩) (Nat.le_refl _) _) (below_alloc _ _)
   case measure=>simp[intOf];omega
  obtain rfl:k=ps.length:=by omega
  go_wp2_with fail
  go_ret
  obtain⟨cs,hb,hd⟩:=hC.out
  exact⟨rfl,hd.pts hb hsz hP.out.sm,hB.out⟩
end Go.Proofs.YtoojdkaimhlcbaaGreat
namespace Go.Proofs.YtoojdkaimhlcbaaGreat
theorem Cal.trn_zero {s:Sd} {p:Pt}:Cal.trn s p=0↔Cal.crs s p=0:=by unfold Cal.trn Cal.cmpI;split <;> (try split) <;> omega
theorem sq_pos {z:Int} (h:z≠0):0<z*z:=by
 rcases Int.lt_trichotomy z 0 with h1 | h1 | h1
 ·exact Int.mul_pos_of_neg_of_neg h1 h1
 ·exact absurd h1 h
 exact Int.mul_pos h1 h1
theorem sq_nn (z:Int):0≤z*z:=by
 by_cases h:z=0
 ·rw[h];decide
 have:=sq_pos h;omega
theorem Cal.dst_inj {s:Sd} (hne:s.a≠s.b) {p q:Pt} (hp:Cal.crs s p=0) (hq:Cal.crs s q=0) (h:Cal.dst s p=Cal.dst s q):p=q:=by
 obtain⟨⟨ax,ay⟩,⟨bx,by'⟩⟩:=s
 obtain⟨px,py⟩:=p
 obtain⟨qx,qy⟩:=q
 simp only[Cal.crs,Cal.dst,Cal.dotP] at *
 have hL:0<(bx-ax)*(bx-ax)+(by'-ay)*(by'-ay):=by
  have h1:=sq_nn (bx-ax)
  have h2:=sq_nn (by'-ay)
  by_cases e1:bx-ax=0
  ·by_cases e2:by'-ay=0
   ·exact absurd (by rw[Pt.mk.injEq];omega) hne
   have:=sq_pos e2;omega
  have:=sq_pos e1;omega
 have kx:(px-qx)*((bx-ax)*(bx-ax)+(by'-ay)*(by'-ay))=0:=by grind
 have ky:(py-qy)*((bx-ax)*(bx-ax)+(by'-ay)*(by'-ay))=0:=by grind
 rw[Pt.mk.injEq]
 constructor
 ·rcases Int.mul_eq_zero.1 kx with h | h <;> omega
 rcases Int.mul_eq_zero.1 ky with h | h <;> omega
def Up (s:Sd) (l:List Pt):Prop:=l.Pairwise fun p q=>Cal.dst s p<Cal.dst s q
theorem up_ext {s:Sd}:∀ {l m:List Pt},Up s l→Up s m→(∀ p,p∈l↔p∈m)→l=m
 | [],[],_,_,_=>rfl
 | [],y :: m,_,_,h=>by have:=(h y).2 (List.mem_cons_self ..);cases this
 | x :: l,[],_,_,h=>by have:=(h x).1 (List.mem_cons_self ..);cases this
 | x :: l,y :: m,hl,hm,h=>by
  obtain⟨h1,h2⟩:=List.pairwise_cons.1 hl
  obtain⟨g1,g2⟩:=List.pairwise_cons.1 hm
  have hxy:x=y:=by
   rcases List.mem_cons.1 ((h x).1 (List.mem_cons_self ..)) with e | e
   ·exact e
   rcases List.mem_cons.1 ((h y).2 (List.mem_cons_self ..)) with e' | e'
   ·exact e'.symm
   have:=h1 y e';have:=g1 x e;omega
  subst hxy
  congr 1
  refine up_ext h2 g2 fun p=>⟨fun hp=>?_,fun hp=>?_⟩
  ·rcases List.mem_cons.1 ((h p).1 (List.mem_cons_of_mem _ hp)) with e | e
   ·subst e;have:=h1 p hp;omega
   exact e
  rcases List.mem_cons.1 ((h p).2 (List.mem_cons_of_mem _ hp)) with e | e
  ·subst e;have:=g1 p hp;omega
  exact e
theorem mem_insP {s:Sd} {q x:Pt}:∀ {l:List Pt},x∈Cal.insP s q l↔x=q∨x∈l
 | []=>by simp[Cal.insP]
 | y :: r=>by
  unfold Cal.insP
  split
  ·simp
  split
  ·rename_i h
   have e:=ptB_iff.1 h
   subst e
   constructor
   ·intro h;exact .inr h
   rintro (h | h)
   ·subst h;exact List.mem_cons_self ..
   exact h
  rw[List.mem_cons,mem_insP,List.mem_cons]
  constructor
  ·rintro (h | h | h)
   ·exact .inr (.inl h)
   ·exact .inl h
   exact .inr (.inr h)
  rintro (h | h | h)
  ·exact .inr (.inl h)
  ·exact .inl h
  exact .inr (.inr h)
theorem up_insP {s:Sd} (hne:s.a≠s.b) {q:Pt} (hq:Cal.crs s q=0):∀ {l:List Pt},Up s l→(∀ p∈l,Cal.crs s p=0)→Up s (Cal.insP s q l)
 | [],_,_=>by simp[Cal.insP,Up]
 | y :: r,h,hc=>by
  obtain⟨h1,h2⟩:=List.pairwise_cons.1 h
  unfold Cal.insP
  split
  ·rename_i hlt
   have hlt:=Cal.along_neg.1 hlt
   refine List.pairwise_cons.2 ⟨fun p hp=>?_,h⟩
   rcases List.mem_cons.1 hp with e | e
   ·rw[e];exact hlt
   have:=h1 p e;omega
  rename_i hlt
  split
  ·exact h
  rename_i hb
  have hlt:¬Cal.dst s q<Cal.dst s y:=fun hh=>hlt (Cal.along_neg.2 hh)
  have hdy:Cal.dst s y<Cal.dst s q:=by
   rcases Int.lt_trichotomy (Cal.dst s y) (Cal.dst s q) with hh | hh | hh
   ·exact hh
   ·exact absurd (ptB_iff.2 (Cal.dst_inj hne hq (hc y (List.mem_cons_self ..)) hh.symm)) hb
   exact absurd hh hlt
  refine List.pairwise_cons.2 ⟨fun p hp=>?_,up_insP hne hq h2 (fun p hp=>hc p (List.mem_cons_of_mem _ hp))⟩
  rcases mem_insP.1 hp with e | e
  ·rw[e];exact hdy
  exact h1 p e
theorem fold_insP {s:Sd} (hne:s.a≠s.b):∀ (l acc:List Pt),(∀ p∈l,Cal.crs s p=0)→(∀ p∈acc,Cal.crs s p=0)→Up s acc →
  Up s (l.foldl (fun a q=>Cal.insP s q a) acc)∧∀ x,x∈l.foldl (fun a q=>Cal.insP s q a) acc↔x∈acc∨x∈l
 | [],acc,_,_,h=>⟨h,fun x=>by simp⟩
 | q :: l,acc,hl,ha,h=>by
  have hq:=hl q (List.mem_cons_self ..)
  obtain⟨k1,k2⟩:=fold_insP hne l (Cal.insP s q acc) (fun p hp=>hl p (List.mem_cons_of_mem _ hp)) (fun p hp=>by
   rcases mem_insP.1 hp with e | e
   ·rw[e];exact hq
   exact ha p e) (up_insP hne hq h ha)
  refine⟨k1,fun x=>?_⟩
  rw[List.foldl_cons,k2,mem_insP,List.mem_cons]
  constructor
  ·rintro ((h | h) | h)
   ·exact .inr (.inl h)
   ·exact .inl h
   exact .inr (.inr h)
  rintro (h | h | h)
  ·exact .inl (.inr h)
  ·exact .inl (.inl h)
  exact .inr h
theorem mem_kp {l:List Pt}:∀ {m:Nat},m≤l.length→∀ x,x∈kp l m↔x∈l.take m
 | 0,_,x=>by simp[kp]
 | m+1,hm,x=>by
  have ih:=mem_kp (l:=l) (m:=m) (by omega) x
  have hat:ptAt l m=l[m]:=by unfold ptAt;rw[List.getElem?_eq_getElem (by omega)];rfl
  rw[List.take_succ_eq_append_getElem (by omega),List.mem_append,List.mem_singleton,←hat]
  unfold kp
  split
  ·rw[List.mem_append,List.mem_singleton,ih]
  rename_i h
  rw[ih]
  constructor
  ·intro h;exact .inl h
  rintro (h' | h')
  ·exact h'
  have h0:m≠0:=fun e=>h (.inl e)
  have h1:ptAt l m=ptAt l (m-1):=Classical.byContradiction fun e=>h (.inr e)
  rw[h',h1]
  unfold ptAt
  have hm1:m-1<l.length:=by omega
  rw[List.getElem?_eq_getElem hm1]
  exact List.mem_take_iff_getElem.2 ⟨m-1,by rw[Nat.min_eq_left (by omega)];omega,rfl⟩
theorem up_kp {s:Sd} (hne:s.a≠s.b) {l:List Pt} (hc:∀ p∈l,Cal.crs s p=0) (hs:SrtTo s l l.length):∀ {m:Nat},m≤l.length→Up s (kp l m)
 | 0,_=>List.Pairwise.nil
 | m+1,hm=>by
  have ih:=up_kp hne hc hs (m:=m) (by omega)
  unfold kp
  split
  ·rename_i h
   refine List.pairwise_append.2 ⟨ih,List.pairwise_singleton _ _,fun p hp q hq=>?_⟩
   rw[List.mem_singleton.1 hq]
   obtain⟨i,hi,rfl⟩:=List.mem_take_iff_getElem.1 ((mem_kp (l:=l) (m:=m) (by omega) p).1 hp)
   have hi':i<m:=by omega
   have hat:ptAt l i=l[i]:=by unfold ptAt;rw[List.getElem?_eq_getElem (by omega)];rfl
   have hin:∀ i,i<l.length→Cal.crs s (ptAt l i)=0:=fun i hi=>by
    unfold ptAt;rw[List.getElem?_eq_getElem hi];exact hc _ (List.getElem_mem hi)
   have hmne:ptAt l m≠ptAt l (m-1):=by
    rcases h with h | h
    ·omega
    exact h
   rw[←hat]
   have h1:=hs (m-1) m (by omega) (by omega)
   have h2:Cal.dst s (ptAt l (m-1))≠Cal.dst s (ptAt l m):=fun e=>hmne (Cal.dst_inj hne (hin m (by omega)) (hin (m-1) (by omega)) e.symm)
   by_cases e:i=m-1
   ·subst e;omega
   have:=hs i (m-1) (by omega) (by omega);omega
  exact ih
theorem Cal.crs_a (s:Sd):Cal.crs s s.a=0:=by unfold Cal.crs;grind
theorem Cal.crs_b (s:Sd):Cal.crs s s.b=0:=by unfold Cal.crs;grind
theorem Cal.hasP_crs {s:Sd} {p:Pt} (h:Cal.hasP s p=true):Cal.crs s p=0:=by
 unfold Cal.hasP at h
 rw[Bool.and_eq_true,beq_iff_eq] at h
 exact Cal.trn_zero.1 h.1
theorem kp_atP {s:Sd} (hne:s.a≠s.b) {other l:List Pt} (hp:l.Perm (s.a :: s.b :: other.filter (Cal.hasP s))) (hs:SrtTo s l l.length):kp l l.length=Cal.atP s other:=by
 have hcL:∀ p∈s.a :: s.b :: other.filter (Cal.hasP s),Cal.crs s p=0:=fun p hp=>by
  rcases List.mem_cons.1 hp with e | hp
  ·rw[e];exact Cal.crs_a s
  rcases List.mem_cons.1 hp with e | hp
  ·rw[e];exact Cal.crs_b s
  exact Cal.hasP_crs (List.mem_filter.1 hp).2
 have hc:∀ p∈l,Cal.crs s p=0:=fun p h=>hcL p (hp.mem_iff.1 h)
 obtain⟨k1,k2⟩:=fold_insP hne (s.a :: s.b :: other.filter (Cal.hasP s)) [] hcL (fun p hp=>by cases hp) List.Pairwise.nil
 refine up_ext (up_kp hne hc hs (Nat.le_refl _)) k1 fun p=>?_
 rw[mem_kp (Nat.le_refl _),List.take_length,hp.mem_iff]
 show _↔p∈(s.a :: s.b :: other.filter (Cal.hasP s)).foldl (fun a q=>Cal.insP s q a) []
 rw[k2]
 simp
end Go.Proofs.YtoojdkaimhlcbaaGreat
namespace Go.Proofs.YtoojdkaimhlcbaaGreat
open Go Go.RowKit Go.Shelf
attribute [local go_sem] Oper.semAt_some
def KpP (n₀ Bp Bo:Nat) (B:Nat) (X Y:World):Prop:=Below n₀ X Y∧FromB B X Y∧Two Bp Bo X Y
def AbM (B:Nat) (X Y:World):Prop:=Below (min B X.heap.size) X Y
theorem AbM.of {B:Nat} {X Y:World} (h:Below B X Y):AbM B X Y:=h.mono (Nat.min_le_left _ _)
theorem BoxAt.ofBlock {w w':World} {B:Nat} {cs:List Value} (h:BoxAt w B cs) (hb:w'.heap[B]?=w.heap[B]?) (hs:w.heap.size≤w'.heap.size):BoxAt w' B cs :=
 ⟨fun j v hv=>(World.cell?_of_block (a:=⟨B,0+j,none⟩) hb).trans (h.range j v hv),fun j hj=>(World.frozen?_of_block (a:=⟨B,j,none⟩) hb).trans (h.free j hj),Nat.lt_of_lt_of_le h.lt hs⟩
theorem AtP.ofBlock {w w':World} {M:Nat} {l:List Pt} (h:AtP w M l) (hb:w'.heap[M]?=w.heap[M]?) (hs:w.heap.size≤w'.heap.size):AtP w' M l:=by
 obtain⟨cs,h0,h1,h2⟩:=h
 exact⟨cs,h0.ofBlock hb hs,h1,h2⟩
theorem yield_wide {m m' l l0:Nat} {P:Program} {args:Array Value} {W:World} {R:Ending→World→Prop} (h:YieldAt Fence.wide m P l args W R):YieldAt (Fence.wide.inRound l0) m' P l args W R:=by
 obtain⟨fn,tmps,assign,body,hy,hr⟩:=h
 exact⟨fn,tmps,assign,body,hy,hr.1,fun c cs _=>hr.2 c cs (room_wide _)⟩
theorem KpP.refl (n₀ Bp Bo B:Nat) (X:World):KpP n₀ Bp Bo B X X:=⟨Below.refl _ _,FromB.refl _ _,Two.refl _ _ _⟩
theorem KpP.trans {n₀ Bp Bo B:Nat} {X Y Z:World} (h:KpP n₀ Bp Bo B X Y) (k:KpP n₀ Bp Bo B Y Z):KpP n₀ Bp Bo B X Z:=⟨h.1.trans k.1,h.2.1.trans k.2.1,h.2.2.trans k.2.2⟩
theorem KpP.below {n₀ Bp Bo B:Nat} {X Y:World} (h:Below X.heap.size X Y) (hn:n₀≤X.heap.size) (hp:Bp<X.heap.size) (ho:Bo<X.heap.size):KpP n₀ Bp Bo B X Y :=
 ⟨h.mono hn,⟨h.size,fun b _ hb=>h.block b hb⟩,h.block _ hp,h.block _ ho⟩
def pcE (x:Cal.Pc):Array Value:=#[.agg #[.int .i64 x.mid.x,.int .i64 x.mid.y,.int .i64 (x.of.b.x-x.of.a.x),.int .i64 (x.of.b.y-x.of.a.y)]]
def pcF (os:List Pt) (s:Sd):List Cal.Pc:=Cal.pcsOf s (Cal.atP s os)
theorem pcsP_eq (ps os:List Pt):Cal.pcsP ps os=(Cal.sds ps).flatMap (pcF os):=rfl
def pcN (ps os:List Pt) (i:Nat):Nat:=(((Cal.sds ps).take i).flatMap (pcF os)).length
theorem sds_length (ps:List Pt):(Cal.sds ps).length=ps.length:=by unfold Cal.sds;simp
theorem sds_get {ps:List Pt} {i:Nat} (h:i<ps.length):(Cal.sds ps)[i]?=some (Cal.sd ps i):=by unfold Cal.sds;rw[List.getElem?_map,List.getElem?_range h];rfl
theorem pcN_succ {ps os:List Pt} {i:Nat} (h:i<ps.length):pcN ps os (i+1)=pcN ps os i+(pcF os (Cal.sd ps i)).length:=by
 have hi:i<(Cal.sds ps).length:=by rw[sds_length];exact h
 have hg:(Cal.sds ps)[i]=Cal.sd ps i:=by have:=sds_get h;rw[List.getElem?_eq_getElem hi] at this;exact Option.some.inj this
 unfold pcN
 rw[List.take_succ_eq_append_getElem hi,List.flatMap_append,List.length_append,hg]
 simp
theorem pcN_all (ps os:List Pt):pcN ps os ps.length=(Cal.pcsP ps os).length:=by
 unfold pcN
 rw[List.take_of_length_le (by rw[sds_length];exact Nat.le_refl _),pcsP_eq]
theorem pc_at {ps os:List Pt} {i q:Nat} (h:i<ps.length) (hq:q<(pcF os (Cal.sd ps i)).length):(Cal.pcsP ps os)[pcN ps os i+q]?=(pcF os (Cal.sd ps i))[q]?:=by
 have hi:i<(Cal.sds ps).length:=by rw[sds_length];exact h
 have hg:(Cal.sds ps)[i]=Cal.sd ps i:=by have:=sds_get h;rw[List.getElem?_eq_getElem hi] at this;exact Option.some.inj this
 have hl:Cal.sds ps=(Cal.sds ps).take i ++ Cal.sd ps i :: (Cal.sds ps).drop (i+1):=by
  rw[←hg,←List.drop_eq_getElem_cons hi,List.take_append_drop]
 rw[pcsP_eq]
 conv=>lhs;rw[hl]
 rw[List.flatMap_append,List.flatMap_cons]
 unfold pcN
 rw[List.getElem?_append_right (Nat.le_add_right _ _),Nat.add_sub_cancel_left,List.getElem?_append_left hq]
theorem pcsOf_length (s:Sd):∀ l:List Pt,(Cal.pcsOf s l).length=l.length-1
 | []=>rfl
 | [_]=>rfl
 | x :: y :: r=>by
  rw[Cal.pcsOf,List.length_cons,pcsOf_length s (y :: r)]
  simp
theorem pcsOf_at (s:Sd):∀ (l:List Pt) (q:Nat),q+1<l.length→(Cal.pcsOf s l)[q]?=some ⟨⟨(ptAt l q).x+(ptAt l (q+1)).x,(ptAt l q).y+(ptAt l (q+1)).y⟩,s⟩
 | [],_,h=>by simp at h
 | [_],_,h=>by simp at h
 | x :: y :: r,0,_=>rfl
 | x :: y :: r,q+1,h=>by
  have:=pcsOf_at s (y :: r) q (by simp at h ⊢;omega)
  rw[Cal.pcsOf,List.getElem?_cons_succ,this]
  rfl
theorem elemPt:Elem Tryz.prog 44 61 2 16:=Elem.mk' Tryz.underlying44 (z:=.agg #[.int .i64 0,.int .i64 0]) (by kernel_rfl) rfl (by decide)
def PtsO (w:World) (B:Nat) (v:Value) (l:List Pt):Prop:=OwnL w B 61 2 v (l.map ptR)
theorem ptR_wid (l:List Pt):∀ r∈l.map ptR,r.length=2:=fun r hr=>by obtain⟨s,_,rfl⟩:=List.mem_map.1 hr;rfl
theorem ptR_one (l:List Pt):∀ r∈l.map ptR,∀ u∈r,u.oneCell'=true:=fun r hr u hu=>by
 obtain⟨s,_,rfl⟩:=List.mem_map.1 hr
 simp only[ptR,List.mem_cons,List.not_mem_nil,or_false] at hu
 rcases hu with rfl | rfl <;> rfl
theorem PtsO.two (w:World) (B:Nat) (p q:Pt) (hB:B≤w.heap.size):PtsO (w.alloc (.cells #[.int .i64 p.x,.int .i64 p.y,.int .i64 q.x,.int .i64 q.y] 61)) B (.slice (some ⟨w.heap.size,0,none⟩) 2 2) [p,q] :=
 ⟨⟨rfl,.inr ⟨w.heap.size,2,_,rfl,hB,World.alloc_heap_new w _,Nat.le_refl _,by decide,rfl,rfl⟩⟩,ptR_wid _,ptR_one _⟩
theorem PtsO.atP {w:World} {B:Nat} {v:Value} {l:List Pt} (h:PtsO w B v l) (hl:0<l.length):∃ M c,v=.slice (some ⟨M,0,none⟩) l.length c∧AtP w M l∧l.length≤c∧B≤M:=by
 rcases h.own.2 with ⟨_,h0⟩ | ⟨g,cap,cur,hv,hb,hg,h1,h2,h3,h4⟩
 ·rw[List.length_map] at h0;omega
 rw[List.length_map] at hv h1 h4
 have hcell:∀ (j:Nat) (u:Value),cur.toList[j]?=some u→w.cell? ⟨g,j,none⟩=some u:=fun j u hu=>by
  unfold World.cell?
  rw[hg]
  simpa using hu
 have hfl:∀ (k:Nat) (u:Value),(l.map ptR).flatten[k]?=some u→cur.toList[k]?=some u:=fun k u hu=>by
  rw[←h4,List.getElem?_take] at hu
  split at hu
  ·exact hu
  cases hu
 refine⟨g,cap,hv,⟨cur.toList,⟨fun j v hj=>by rw[Nat.zero_add];exact hcell j v hj,fun j hj=>?_,(Array.getElem?_eq_some_iff.1 hg).1⟩,?_,fun i q hi=>?_⟩,h1,hb⟩
 ·unfold World.frozen?
  rw[hg]
  simp
 ·have hsz:cur.toList.length=cur.size:=Array.length_toList
  omega
 have hr:(l.map ptR)[i]?=some (ptR q):=by rw[List.getElem?_map];show Option.map ptR l[i]?=_;rw[show l[i]?=some q from hi];rfl
 exact⟨hfl _ _ (flat_get (ptR_wid l) hr (j:=0) rfl),hfl _ _ (flat_get (ptR_wid l) hr (j:=1) rfl)⟩
def PcI (W:World) (n₀ Bp Bo l:Nat) (J:Nat→World→Prop) (ps os:List Pt) (i:Nat) (Y:World):Prop :=
 J (pcN ps os i) Y∧BoxAt Y W.heap.size [.func (.yield l) #[] #[]]∧Below n₀ W Y∧Two Bp Bo W Y∧W.heap.size+2≤Y.heap.size
def PcX (Jx:Nat→World→Prop) (N:Nat) (c:Code) (_:Nat) (Y:World):Prop:=c=.ret∧∃ j,j<N∧Jx j Y
theorem pcI_own {W:World} {n₀ Bp Bo l:Nat} {J:Nat→World→Prop} {ps os:List Pt} {B:Nat} (hJ:∀ k X Y,J k X→AbM W.heap.size X Y→J k Y) (hB:W.heap.size≤B) (hn:n₀≤W.heap.size) (hp:Bp<W.heap.size) (ho:Bo<W.heap.size):OwnFrom B (PcI W n₀ Bp Bo l J ps os):=fun k X Y row hs hg hr=>by
 obtain⟨h1,h2,h3,h4,h5⟩:=hs
 have hbl:∀ b,b<W.heap.size→Y.heap[b]?=X.heap[b]?:=fun b hb=>World.grownBy.block hg b (by omega) (fun e=>by have:=(hr b e.symm).1;omega)
 refine⟨hJ _ _ _ h1 ?_,h2.keptF hg (fun r e=>(hr r e).2),ownFrom_below (β:=Unit) hn (Nat.le_trans hn hB) () X Y row h3 hg hr,h4.trans ⟨hbl _ hp,hbl _ ho⟩,Nat.le_trans h5 hg.size⟩
 exact AbM.of ((Below.refl _ _).grown hg (by omega) (fun r e=>Nat.le_trans hB (hr r e).1))
theorem pcX_own {W:World} {Jx:Nat→World→Prop} {N B:Nat} (hJ:∀ k X Y,Jx k X→AbM W.heap.size X Y→Jx k Y) (hB:W.heap.size≤B) (c:Code):OwnFrom B (PcX Jx N c):=fun k X Y row hs hg hr=>by
 obtain⟨h1,j,h2,h3⟩:=hs
 exact⟨h1,j,h2,hJ _ _ _ h3 ((Below.refl _ _).grown hg (Nat.min_le_right _ _) (fun r e=>Nat.le_trans (Nat.min_le_left _ _) (Nat.le_trans hB (hr r e).1)))⟩
end Go.Proofs.YtoojdkaimhlcbaaGreat
