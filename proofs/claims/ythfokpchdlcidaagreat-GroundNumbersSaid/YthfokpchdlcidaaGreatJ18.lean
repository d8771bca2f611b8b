/- What the statements rest on: definitions and walks, part 18. -/
import Derived.Test.YthfokpchdlcidaaGreatJ17
import Derived.Test.YthfokpchdlcidaaGreatJ13
set_option maxRecDepth 100000
set_option maxHeartbeats 16000000
set_option linter.unusedSimpArgs false
set_option linter.unusedVariables false
namespace Go.Proofs.YthfokpchdlcidaaGreat
open Go Go.RowKit Go.Sort
theorem two_ix0 (A : Option Addr) (n c : Nat) (B : Option Addr) (m d : Nat) (w : World) : (Instr.index 103 (.agg #[.slice A n c,.slice B m d]) (.int .i64 0)).run Tryz.prog w = .ok (.slice A n c) w:=by kernel_rfl
theorem two_ix1 (A : Option Addr) (n c : Nat) (B : Option Addr) (m d : Nat) (w : World) : (Instr.index 103 (.agg #[.slice A n c,.slice B m d]) (.int .i64 1)).run Tryz.prog w = .ok (.slice B m d) w:=by kernel_rfl
theorem Compose_any (A : Option Addr) (c : Nat) (a : List Rn) (B : Option Addr) (d : Nat) (b : List Rn) (w : World) (hA : Rns w A a) (hB : Rns w B b) :
  Calls Tryz.prog 21 #[.slice A a.length c,.slice B b.length d] w fun e w'=>∃ A' c',e = .returned (.tuple #[.slice A' (Cal.compN a b).length c',.int .i64 (Cal.compE a b)]) ∧ RowsAt w' A' 2 ((Cal.compN a b).map rnR) ∧ Below w.heap.size w w':=by
 have hca:=Lib.hid (fun W (hb : Below w.heap.size w W)=>CheckNumbers_any A c a W (hA.below hb))
 have hcb:=Lib.hid (fun W (hb : Below w.heap.size w W)=>CheckNumbers_any B d b W (hB.below hb))
 have hb0 : Hid (Below w.heap.size w w):=Below.refl _ _
 have qx0:=fun W=>two_ix0 A a.length c B b.length d W
 have qx1:=fun W=>two_ix1 A a.length c B b.length d W
 by_cases h0 : Cal.numE a = 0
 ·by_cases h1 : Cal.numE b = 0
  ·obtain ⟨hla,_,_⟩:=Cal.numE_zero.1 h0
   obtain ⟨hlb,_,_⟩:=Cal.numE_zero.1 h1
   have hE : Hid (Cal.compE a b = if 200 < (Cal.compR a b).length then 8 else 0):=by show _ = _;unfold Cal.compE;rw [if_pos h0,if_pos h1]
   have hN : Hid (Cal.compN a b = if Cal.compE a b = 0 then Cal.compR a b else []):=rfl
   rw [h0] at hca
   rw [h1] at hcb
   clear h0 h1
   replace hA:=Lib.hid hA
   replace hB:=Lib.hid hB
   obtain ⟨E,hE0⟩ : ∃ E,Cal.compE a b = E:=⟨_,rfl⟩
   obtain ⟨N,hN0⟩ : ∃ N,Cal.compN a b = N:=⟨_,rfl⟩
   rw [hE0] at hE hN
   rw [hN0] at hN
   rw [hE0,hN0]
   clear hE0 hN0
   go_enter Tryz.func21,Tryz.ntmps21
   go_wp2_with fail
   go_loopw [17] (fun i wr=>∃ k : Nat,k ≤ 2 ∧ i = .int .i64 k ∧ Hid (Below w.heap.size w wr)) (fun i _=>2 - (intOf i).toNat)
   case atStart=>exact ⟨0,by decide,rfl,hb0⟩
   case round =>
    clear hb0
    obtain ⟨k,hk,rfl,hb⟩:=hrel
    rcases Nat.lt_or_ge k 2 with hlt | hge
    ·rcases Nat.lt_or_ge k 1 with hl1 | hl1
     ·obtain rfl : k = 0:=by omega
      have hcx:=hca
      go_wp2_with (go_at_call 22;refine (hcx.out _ hb.out).mono ?_;rintro e0 w1 ⟨rfl,hb1⟩;replace hb:=Lib.hid (below_step hb.out hb1);clear hb1)
      go_roundw
      case rel=>exact ⟨1,by decide,by go_num,hb⟩
      case measure=>simp [intOf]
     ·obtain rfl : k = 1:=by omega
      have hcx:=hcb
      go_wp2_with (go_at_call 22;refine (hcx.out _ hb.out).mono ?_;rintro e0 w1 ⟨rfl,hb1⟩;replace hb:=Lib.hid (below_step hb.out hb1);clear hb1)
      go_roundw
      case rel=>exact ⟨2,by decide,by go_num,hb⟩
      case measure=>simp [intOf]
    ·have hk2 : ¬ (k : Int) < 2:=by omega
     have hk3 : ¬ k < 2:=by omega
     generalize k = kk at *
     clear hca hcb qx0 qx1 hge hk
     go_wp2_with fail
     go_loopw [9,28] (fun ov i wr=>∃ (k : Nat) (v : Value),k ≤ a.length ∧ i = .int .i64 k ∧ ov = v ∧ Hid (RnL wr w.heap.size v (Cal.compL (a.take k) b)) ∧ Hid (Below w.heap.size w wr)) (fun _ i _=>a.length - (intOf i).toNat)
     case atStart=>exact ⟨0,_,Nat.zero_le _,rfl,rfl,OwnL.nil _ _ _ _,hb⟩
     case round =>
      clear hb
      obtain ⟨k,v,hk,rfl,rfl,hO,hb⟩:=hrel
      by_cases hlt : k < a.length
      ·have hk' : a[k]? = some a[k]:=List.getElem?_eq_getElem hlt
       have htk : Hid (Cal.compL (a.take (k + 1)) b = Cal.compL (a.take k) b ++ Cal.compIn a[k] b):=by show _ = _;rw [List.take_succ_eq_append_getElem hlt,Cal.compL_append]
       have hcl:=Cal.compL_len b (a.take k)
       rw [List.length_take,Nat.min_eq_left hk] at hcl
       have hcl2:=Nat.mul_le_mul (show k ≤ 200 by omega) hlb
       generalize Cal.compL (a.take k) b = acc at *
       generalize a[k] = x at *
       obtain ⟨b1,o1,rfl,_,ao,an,ha1,ha2,c0,c1⟩:=rn_at (hA.out.rows.below hb.out) hk'
       have hki : (k : Int) < (a.length : Int):=by omega
       have hI0:=Lib.hid (show RbI w wr.heap.size ao an (wr.alloc (.cells #[.string ao,.string an] 69)) from ⟨BoxAt.new wr #[.string ao,.string an] 69,below_step hb.out (below_alloc _ _)⟩)
       have hO0:=Lib.hid (show RnL (wr.alloc (.cells #[.string ao,.string an] 69)) w.heap.size u9 (acc ++ Cal.compIn x (b.take 0)) from by
        rw [List.take_zero,show Cal.compIn x [] = [] from rfl,List.append_nil]
        exact OwnL.below hO.out (below_alloc _ _))
       have hne0:=Lib.hid (show u9.ownBlock ≠ some wr.heap.size from fun e=>by have:=(OwnL.lt hO.out _ e).2;omega)
       replace ha1:=Lib.hid ha1
       replace ha2:=Lib.hid ha2
       clear hk' hO
       go_wp2_with fail
       generalize hq9 : wr.heap.size = Bx at *
       clear hq9 c0 c1 hb
       go_loopw [9,34] (fun ov i wr=>∃ (j : Nat) (v : Value),j ≤ b.length ∧ i = .int .i64 j ∧ ov = v ∧ Hid (RnL wr w.heap.size v (acc ++ Cal.compIn x (b.take j))) ∧ Hid (v.ownBlock ≠ some Bx) ∧ Hid (RbI w Bx ao an wr)) (fun _ i _=>b.length - (intOf i).toNat)
       case atStart=>exact ⟨0,_,Nat.zero_le _,rfl,rfl,hO0,hne0,hI0⟩
       case round =>
        clear hO0 hI0 hne0
        obtain ⟨j,v,hj,rfl,rfl,hO,hnB,hI⟩:=hrel
        by_cases hlj : j < b.length
        ·have hj' : b[j]? = some b[j]:=List.getElem?_eq_getElem hlj
         have htj : Cal.compIn x (b.take (j + 1)) = Cal.compIn x (b.take j) ++ (if x.new = b[j].old then [⟨x.old,b[j].new⟩] else []):=by rw [List.take_succ_eq_append_getElem hlj,Cal.compIn_append]
         have hil:=Cal.compIn_len x (b.take j)
         rw [List.length_take,Nat.min_eq_left hj] at hil
         generalize b[j] = y at *
         obtain ⟨b2,o2,rfl,_,bo,bn,hb1,hb2,d0,d1⟩:=rn_at (hB.out.rows.below hI.out.bel) hj'
         have hji : (j : Int) < (b.length : Int):=by omega
         have hO2:=Lib.hid (show RnL (wr.alloc (.cells #[.string bo,.string bn] 69)) w.heap.size u9 (acc ++ Cal.compIn x (b.take j)) from OwnL.below hO.out (below_alloc _ _))
         have hI2:=Lib.hid (hI.out.below (below_alloc wr (.cells #[.string bo,.string bn] 69)))
         have x0:=hI2.out.bx.c 0 _ rfl
         have x1:=hI2.out.bx.c 1 _ rfl
         have hsz : (acc ++ Cal.compIn x (b.take j)).length ≤ 1000000:=by rw [List.length_append];omega
         clear hj' hO hI
         cases he : (an.toList == bo.toList)
         ·have hne : ¬ x.new = y.old:=by
           rw [ha2.out,hb1] at he
           simpa using he
          rw [if_neg hne,List.append_nil] at htj
          replace htj:=Lib.hid htj
          clear hb1 hb2 hne
          go_wp2_with fail
          go_roundw
          case rel=>exact ⟨j + 1,_,by omega,by go_num,rfl,by rw [htj.out];exact hO2,hnB,hI2⟩
          case measure=>simp [intOf];omega
         ·have hne : x.new = y.old:=by
           rw [ha2.out,hb1] at he
           exact eq_of_beq he
          rw [if_pos hne,show (⟨x.old,y.new⟩ : Rn) = ⟨ao.toList,bn.toList⟩ from by rw [ha1.out,hb2]] at htj
          replace htj:=Lib.hid htj
          clear hb1 hb2 hne
          go_wp2_with (at_builtin;go_must (refine wpPushM ao bn Bx _ hO2.out hI2.out.bel.size hsz hI2.out.bx hnB.out rfl _ _ rfl rfl rfl (by simp) ?_);intro v6 w6 hown6 hb6 hbx6 hne6;have hO6:=Lib.hid hown6;have hI6:=Lib.hid (show RbI w Bx ao an w6 from ⟨hbx6,hI2.out.bel.trans hb6⟩);have hn6:=Lib.hid hne6;clear hown6 hb6 hbx6 hne6)
          go_roundw
          case rel=>exact ⟨j + 1,_,by omega,by go_num,rfl,by rw [htj.out,← List.append_assoc];exact hO6,hn6,hI6⟩
          case measure=>simp [intOf];omega
        ·obtain rfl : j = b.length:=by omega
         rw [List.take_length] at hO
         have hbz:=Lib.hid hI.out.bel
         go_wp2_with fail
         go_roundw
         case rel=>exact ⟨k + 1,_,by omega,by go_num,rfl,by rw [htk.out];exact hO,hbz⟩
         case measure=>simp [intOf];omega
      ·obtain rfl : k = a.length:=by omega
       rw [List.take_length] at hO
       have hcl:=Cal.compL_len b a
       have hcl2:=Nat.mul_le_mul hla hlb
       have hset:=Lib.hid (settled_any wr w.heap.size u9 _ hO.out (by omega))
       have hvB:=Lib.hid (fun g e=>(OwnL.lt hO.out g e).1)
       rw [show Cal.settle (Cal.compL a b) = Cal.compR a b from rfl] at hset
       clear hO
       generalize Cal.compR a b = zs at *
       by_cases hz : 200 < zs.length
       ·have hE8 : Hid (E = 8):=by show _ = _;rw [hE.out,if_pos hz]
        have hN8 : Hid (N = []):=by show _ = _;rw [hN.out,hE8.out];rfl
        have hzi : 200 < (zs.length : Int):=by omega
        clear hE hN
        go_wp2_with (go_at_call 54;refine hset.out.mono ?_;rintro e0 w8 ⟨A8,c8,rfl,hr8,hg8⟩;have hb9:=Lib.hid (hb.out.trans (grown_below hg8 hvB.out hb.out.size));clear hr8 hg8 hset)
        go_ret2
        exact ⟨_,_,by rw [hE8.out,hN8.out];rfl,by rw [hN8.out];exact RowsAt.nil _ _ _,hb9.out⟩
       ·have hE8 : Hid (E = 0):=by show _ = _;rw [hE.out,if_neg hz]
        have hN8 : Hid (N = zs):=by show _ = _;rw [hN.out,hE8.out];rfl
        have hzi : ¬ 200 < (zs.length : Int):=by omega
        clear hE hN
        go_wp2_with (go_at_call 54;refine hset.out.mono ?_;rintro e0 w8 ⟨A8,c8,rfl,hr8,hg8⟩;have hr9:=Lib.hid hr8;have hb9:=Lib.hid (hb.out.trans (grown_below hg8 hvB.out hb.out.size));clear hr8 hg8 hset)
        go_ret2
        exact ⟨_,_,by rw [hE8.out,hN8.out];rfl,by rw [hN8.out];exact hr9.out,hb9.out⟩
  ·have hE : Cal.compE a b = Cal.numE b:=by unfold Cal.compE;rw [if_pos h0,if_neg h1]
   have hN : Cal.compN a b = []:=by unfold Cal.compN;rw [hE,if_neg h1]
   rw [hE,hN]
   rw [h0] at hca
   have p1 : (Cal.numE b == 0) = false:=by simpa using h1
   have p2 : (Cal.numE b != 0) = true:=by simpa using h1
   clear hE hN hA hB h0
   generalize Cal.numE b = E at *
   go_enter Tryz.func21,Tryz.ntmps21
   go_wp2_with fail
   go_loopw [17] (fun i wr=>∃ k : Nat,k ≤ 1 ∧ i = .int .i64 k ∧ Hid (Below w.heap.size w wr)) (fun i _=>2 - (intOf i).toNat)
   case atStart=>exact ⟨0,by decide,rfl,hb0⟩
   case round =>
    clear hb0
    obtain ⟨k,hk,rfl,hb⟩:=hrel
    rcases Nat.lt_or_ge k 1 with hl1 | hl1
    ·obtain rfl : k = 0:=by omega
     have hcx:=hca
     go_wp2_with (go_at_call 22;refine (hcx.out _ hb.out).mono ?_;rintro e0 w1 ⟨rfl,hb1⟩;replace hb:=Lib.hid (below_step hb.out hb1);clear hb1)
     go_roundw
     case rel=>exact ⟨1,by decide,by go_num,hb⟩
     case measure=>simp [intOf]
    ·obtain rfl : k = 1:=by omega
     have hcx:=hcb
     go_wp2_with (go_at_call 22;refine (hcx.out _ hb.out).mono ?_;rintro e0 w1 ⟨rfl,hb1⟩;replace hb:=Lib.hid (below_step hb.out hb1);clear hb1)
     go_ret2
     exact ⟨_,_,rfl,RowsAt.nil _ _ _,hb.out⟩
 ·have hE : Cal.compE a b = Cal.numE a:=by unfold Cal.compE;rw [if_neg h0]
  have hN : Cal.compN a b = []:=by unfold Cal.compN;rw [hE,if_neg h0]
  rw [hE,hN]
  have p1 : (Cal.numE a == 0) = false:=by simpa using h0
  have p2 : (Cal.numE a != 0) = true:=by simpa using h0
  clear hE hN hA hB
  generalize Cal.numE a = E at *
  go_enter Tryz.func21,Tryz.ntmps21
  go_wp2_with fail
  go_loopw [17] (fun i wr=>∃ k : Nat,k ≤ 0 ∧ i = .int .i64 k ∧ Hid (Below w.heap.size w wr)) (fun i _=>2 - (intOf i).toNat)
  case atStart=>exact ⟨0,by decide,rfl,hb0⟩
  case round =>
   clear hb0
   obtain ⟨k,hk,rfl,hb⟩:=hrel
   obtain rfl : k = 0:=by omega
   have hcx:=hca
   go_wp2_with (go_at_call 22;refine (hcx.out _ hb.out).mono ?_;rintro e0 w1 ⟨rfl,hb1⟩;replace hb:=Lib.hid (below_step hb.out hb1);clear hb1)
   go_ret2
   exact ⟨_,_,rfl,RowsAt.nil _ _ _,hb.out⟩
end Go.Proofs.YthfokpchdlcidaaGreat
namespace Go.Proofs.YthfokpchdlcidaaGreat
open Go Go.RowKit Go.Sort
theorem udRn : Tryz.prog.underlying 46 = some (.slice (Tryz.prog.elem 46)):=by kernel_rfl
def abR (zs : List Rn) (d : Rn) (q : Nat) : Prop:=∀ (j : Nat) z,q ≤ j → zs[j]? = some z → Cal.rlt d z
theorem Sx.growL {w0 wa wb : World} {L : List (Nat × Nat × Value)} {B m : Nat} {u : Value} {E : TypeId} {rows : List (List Value)} (h : Sx w0 L wa) (hO : OwnL wa B E m u rows) (hg : wa.grownBy wb u.ownBlock) (hB : w0.heap.size ≤ B) (hL : ∀ x ∈ L,x.1 < w0.heap.size) : Sx w0 L wb :=
 h.grow hg (fun g e=>Nat.le_trans hB (OwnL.lt hO g e).1) (fun x hx=>⟨fun e=>absurd (OwnL.lt hO _ e).1 (by have:=hL x hx;omega),Nat.lt_of_lt_of_le (hL x hx) h.bel.size⟩)
theorem OwnL.formR {wa : World} {B n c m : Nat} {E : TypeId} {A : Option Addr} {rows : List (List Value)} (h : OwnL wa B E m (.slice A n c) rows) : RowsAt wa A m rows:=by
 obtain ⟨A0,c0,hv,hr⟩:=h.form
 simp only [Value.slice.injEq] at hv
 obtain ⟨rfl,_,_⟩:=hv
 exact hr
theorem put_any (w : World) (B : Nat) (v : Value) (zs : List Rn) (s1 s2 : ByteArray) (h : RnL w B v zs) (hup : zs.Pairwise Cal.rlt) (hz : zs.length ≤ 100000) (hBw : B ≤ w.heap.size) :
  Calls Tryz.prog 57 #[v,.agg #[.string s1,.string s2]] w fun e w'=>∃ v',e = .returned v' ∧ RnL w' B v' (Cal.settle (zs ++ [⟨s1.toList,s2.toList⟩])) ∧ Below w.heap.size w w':=by
 obtain ⟨A,c,rfl,_⟩:=OwnL.form h
 rw [List.length_map] at h ⊢
 have hO0 : Hid (OwnL w B 69 2 (.slice A zs.length c) (zs.map rnR)):=h
 have ha0 : Hid (abR zs ⟨s1.toList,s2.toList⟩ zs.length):=fun j z hj hz=>by
  have:=(List.getElem?_eq_some_iff.1 hz).1
  omega
 have hI0:=Lib.hid (show RbI w w.heap.size s1 s2 (w.alloc (.cells #[.string s1,.string s2] 69)) from ⟨BoxAt.new w #[.string s1,.string s2] 69,below_alloc _ _⟩)
 clear h
 go_enter Tryz.func57,Tryz.ntmps57
 go_wp2_with fail
 go_loopw [5] (fun i wr=>∃ q : Nat,q ≤ zs.length ∧ i = .int .i64 q ∧ Hid (abR zs ⟨s1.toList,s2.toList⟩ q) ∧ Hid (RbI w w.heap.size s1 s2 wr)) (fun i _=>(intOf i).toNat)
 case atStart=>exact ⟨zs.length,Nat.le_refl _,rfl,ha0,hI0⟩
 case round =>
  clear ha0 hI0
  obtain ⟨q,hq,rfl,hab,hI⟩:=hrel
  have hb:=Lib.hid hI.out.bel
  have hO:=Lib.hid (OwnL.below hO0.out hb.out)
  have hLs : Hid (∀ x ∈ [(w.heap.size,0,Value.string s1),(w.heap.size,1,Value.string s2)],x.1 < wr.heap.size):=fun x hx=>by
   have:=hI.out.bx.lt
   simp only [List.mem_cons,List.not_mem_nil,or_false] at hx
   rcases hx with rfl | rfl <;> exact this
  have x0:=hI.out.bx.c 0 _ rfl
  have x1:=hI.out.bx.c 1 _ rfl
  by_cases hq0 : q = 0
  ·have hins : Hid (Cal.settle (zs ++ [⟨s1.toList,s2.toList⟩]) = zs.take q ++ [⟨s1.toList,s2.toList⟩] ++ zs.drop q):=Cal.settle_ins hup hq hab.out (fun z h _=>by omega)
   have hgz : decide ((0 : Int) < (q : Int)) = false:=by simp;omega
   have hgz2 : decide (0 < q) = false:=by simp;omega
   have hq00 : q ≤ 0:=by omega
   clear hab hq0
   go_wp2_with fail
   refine wp_region_held_drew (S:=Sx wr [(w.heap.size,0,.string s1),(w.heap.size,1,.string s2)]) (by kernel_rfl) (Sx.mk (by simp only [cs_iff_cons];exact ⟨x0,x1,cs_nil _⟩) (Below.refl _ _)).drew (fun hHeld=>?_)
   clear x0 x1
   refine tkHx 0 8 ?_
   refine tkHx 1 9 ?_
   refine tkHx 2 10 ?_
   refine tkFx 3 11 ?_
   refine tkFx 4 12 ?_
   refine tkFx 5 13 ?_
   refine tkFx 6 14 ?_
   refine tkFx 7 15 ?_
   refine tkFx 8 16 ?_
   refine tkFx 9 17 ?_
   refine tkHx 10 18 ?_
   refine wpAnyH_done (by kernel_rfl) ?_ _
   (try simp only [apS,apN,siA,scZ,scS])
   generalize wr.drew = wn at hHeld ⊢
   have hbz:=Lib.hid (hHeld.bel)
   have hI9:=Lib.hid (hI.out.below hbz.out)
   have hb9:=Lib.hid (hb.out.trans (hbz.out.mono hb.out.size))
   have hO9:=Lib.hid (OwnL.below hO.out hbz.out)
   have hL9 : Hid (∀ x ∈ [(w.heap.size,0,Value.string s1),(w.heap.size,1,Value.string s2)],x.1 < wn.heap.size):=fun x hx=>Nat.lt_of_lt_of_le (hLs.out x hx) hbz.out.size
   clear hHeld hI hb hO hLs hbz
   have hI:=hI9
   have hb:=hb9
   have hO:=hO9
   have hLs:=hL9
   clear hI9 hb9 hO9 hL9
   generalize wn = wr at *
   have x0:=hI.out.bx.c 0 _ rfl
   have x1:=hI.out.bx.c 1 _ rfl
   go_wp2_with fail
   refine wp_region_held_drew (S:=Sx wr [(w.heap.size,0,.string s1),(w.heap.size,1,.string s2)]) (by kernel_rfl) (Sx.mk (by simp only [cs_iff_cons];exact ⟨x0,x1,cs_nil _⟩) (Below.refl _ _)).drew (fun hHeld=>?_)
   clear x0 x1
   refine tkHx 0 21 ?_
   refine tkHx 1 22 ?_
   refine tkHx 2 23 ?_
   refine tkFx 3 24 ?_
   refine tkFx 4 25 ?_
   refine tkFx 5 26 ?_
   refine tkFx 6 27 ?_
   refine tkFx 7 28 ?_
   refine tkFx 8 29 ?_
   refine tkFx 9 30 ?_
   refine tkHx 10 31 ?_
   refine wpAnyH_done (by kernel_rfl) ?_ _
   (try simp only [apS,apN,siA,scZ,scS])
   generalize wr.drew = wn at hHeld ⊢
   have hbz:=Lib.hid (hHeld.bel)
   have hI9:=Lib.hid (hI.out.below hbz.out)
   have hb9:=Lib.hid (hb.out.trans (hbz.out.mono hb.out.size))
   have hO9:=Lib.hid (OwnL.below hO.out hbz.out)
   have hL9 : Hid (∀ x ∈ [(w.heap.size,0,Value.string s1),(w.heap.size,1,Value.string s2)],x.1 < wn.heap.size):=fun x hx=>Nat.lt_of_lt_of_le (hLs.out x hx) hbz.out.size
   clear hHeld hI hb hO hLs hbz
   have hI:=hI9
   have hb:=hb9
   have hO:=hO9
   have hLs:=hL9
   clear hI9 hb9 hO9 hL9
   generalize wn = wr at *
   have x0:=hI.out.bx.c 0 _ rfl
   have x1:=hI.out.bx.c 1 _ rfl
   go_wp2_with fail
   have hqi : (q : Int) ≤ (zs.length : Int):=by omega
   obtain ⟨A1,c1,hrun1,hR1⟩:=hO.out.head udRn szRb hq
   obtain ⟨A2,c2,hrun2,hR2⟩:=hO.out.tail udRn szRb hq
   rw [← List.map_take] at hR1
   rw [← List.map_drop] at hR2
   have hr1:=Lib.hid (fun W (hb : Below wr.heap.size wr W)=>hR1.below hb)
   have hr2:=Lib.hid (fun W (hb : Below wr.heap.size wr W)=>hR2.below hb)
   clear hR1 hR2
   refine wp_region_held_drew (S:=Sx wr [(w.heap.size,0,.string s1),(w.heap.size,1,.string s2)]) (by kernel_rfl) (Sx.mk (by simp only [cs_iff_cons];exact ⟨x0,x1,cs_nil _⟩) (Below.refl _ _)).drew (fun hHeld=>?_)
   clear x0 x1
   refine tkHx 1 34 ?_
   refine tkHx 2 35 ?_
   refine tkHx 3 36 ?_
   refine tkHx 5 38 ?_
   refine tkHx 8 41 ?_
   refine tkHx 9 42 ?_
   refine tkHx 10 43 ?_
   clear hrun1 hrun2
   have hmade : Hid (OwnL (wr.alloc (.cells #[] 69)).drew wr.heap.size 69 2 (.slice (some ⟨wr.heap.size,0,none⟩) 0 0) []):=OwnL.made (World.drew wr) wr.heap.size _ 2 (Nat.le_refl _)
   have hsz1 : (wr.alloc (.cells #[] 69)).drew.heap.size = wr.heap.size + 1:=by show (wr.alloc (.cells #[] 69)).heap.size = _;rw [World.size_alloc]
   have hsrc1 : Hid (RowsAt (wr.alloc (.cells #[.string s1,.string s2] 69)).drew (some ⟨wr.heap.size,0,none⟩) 2 [rbR ⟨s1,s2⟩]):=rowsAt_new (World.drew wr) (rbR ⟨s1,s2⟩) 69
   have hsz2 : (wr.alloc (.cells #[.string s1,.string s2] 69)).drew.heap.size = wr.heap.size + 1:=by show (wr.alloc (.cells #[.string s1,.string s2] 69)).heap.size = _;rw [World.size_alloc]
   (refine wpAnyH_ready (rs:=[0,6]) (by decide +kernel) (by simp) ?_;refine AllReadyH.cons rfl (fun K hK=>?_) (AllReadyH.cons rfl (fun K hK=>?_) AllReadyH.nil))
   ·(rw [if_pos (by kernel_rfl)];go_simp)
    refine hK.out _ _ (hHeld.alloc _) (fun hH2=>?_)
    clear hK K hHeld
    have hHeld:=hH2
    clear hH2
    (try simp only [apS,apN,siA,scZ,scS])
    clear hsrc1 hsz2
    have ho:=hmade
    clear hmade
    generalize (wr.alloc (.cells #[] 69)).drew = Wa at *
    (refine wpAnyH_ready (rs:=[4,6]) (by decide +kernel) (by simp) ?_;refine AllReadyH.cons rfl (fun K hK=>?_) (AllReadyH.cons rfl (fun K hK=>?_) AllReadyH.nil))
    ·refine step_append_rows elemRn (by rfl) (.tmp 33) (.tmp 36) (by rfl) (by rfl) (by rfl) ho.out (hr1.out _ hHeld.bel) (by rw [List.length_map,List.length_take];omega) (rn_wid _) (rn_one _) (by rw [List.length_map,List.length_take,List.length_nil];omega) (by decide) hHeld.bel.size ?_
     intro v3 Wb hown3 hg3 hob3
     refine hK.out _ _ (hHeld.growL ho.out hg3 (Nat.le_refl _) hLs.out) (fun hH2=>?_)
     clear hK K hHeld
     have hHeld:=hH2
     clear hH2
     (try simp only [apS,apN,siA,scZ,scS])
     have hx3 : RowsAt (Wb.alloc (.cells #[.string s1,.string s2] 69)) (some ⟨Wb.heap.size,0,none⟩) 2 [rbR ⟨s1,s2⟩]:=rowsAt_new Wb (rbR ⟨s1,s2⟩) 69
     have ho3:=Lib.hid (OwnL.below hown3 (below_alloc Wb (.cells #[.string s1,.string s2] 69)))
     clear hown3 hg3 hob3 hsz1 ho
     (refine wpAnyH_ready (rs:=[6]) (by decide +kernel) (by simp) ?_;refine AllReadyH.cons rfl (fun K hK=>?_) AllReadyH.nil)
     (rw [if_pos (by kernel_rfl)];go_simp)
     refine hK.out _ _ (hHeld.alloc _) (fun hH2=>?_)
     clear hK K hHeld
     have hHeld:=hH2
     clear hH2
     (try simp only [apS,apN,siA,scZ,scS])
     have hs3:=Lib.hid hx3
     clear hx3
     generalize Wb.alloc (.cells #[.string s1,.string s2] 69) = Wc at *
     (refine wpAnyH_hide (fun _ _ _ _ _ h=>h) (fun Q0 hp0 hQ0=>?_))
     (refine wpAnyH_ready (rs:=[7]) (by decide +kernel) (by simp) ?_;refine AllReadyH.cons rfl (fun K hK=>?_) AllReadyH.nil)
     refine step_append_rows elemRn (by rfl) (.tmp 37) (.tmp 39) (by rfl) (by rfl) (by rfl) ho3.out hs3.out rfl (rb_wid [⟨s1,s2⟩]) (rb_one [⟨s1,s2⟩]) (by simp only [List.length_map,List.length_append,List.length_take,List.length_nil,List.length_singleton];omega) (by decide) hHeld.bel.size ?_
     intro v4 w4 hown4 hg4 _
     refine hK.out _ _ (hHeld.growL ho3.out hg4 (Nat.le_refl _) hLs.out) (fun hH2=>?_)
     clear hK K hHeld
     have hHeld:=hH2
     clear hH2
     (try simp only [apS,apN,siA,scZ,scS])
     (refine wpAnyH_ready (rs:=[11]) (by decide +kernel) (by simp) ?_;refine AllReadyH.cons rfl (fun K hK=>?_) AllReadyH.nil)
     refine step_append_rows elemRn (by rfl) (.tmp 40) (.tmp 43) (by rfl) (by rfl) (by rfl) hown4 (hr2.out _ hHeld.bel) (by rw [List.length_map,List.length_drop]) (rn_wid _) (rn_one _) (by simp only [List.length_map,List.length_append,List.length_take,List.length_drop,List.length_nil,List.length_singleton];omega) (by decide) hHeld.bel.size ?_
     intro v5 w5 hown5 hg5 _
     refine hK.out _ _ (hHeld.growL hown4 hg5 (Nat.le_refl _) hLs.out) (fun hH2=>?_)
     clear hK K hHeld
     have hHeld:=hH2
     clear hH2
     (try simp only [apS,apN,siA,scZ,scS])
     have hfin5:=Lib.hid (show RnL w5 wr.heap.size v5 (zs.take q ++ [⟨s1.toList,s2.toList⟩] ++ zs.drop q) from by
      show OwnL _ _ _ _ _ _
      have e : (zs.take q ++ [(⟨s1.toList,s2.toList⟩ : Rn)] ++ zs.drop q).map rnR = [] ++ (zs.take q).map rnR ++ [rbR ⟨s1,s2⟩] ++ (zs.drop q).map rnR:=by
       rw [List.nil_append,List.map_append,List.map_append,List.map_singleton]
       have e2 : rnR ⟨s1.toList,s2.toList⟩ = rbR ⟨s1,s2⟩:=by
        show [encStr s1.toList,encStr s2.toList] = _
        rw [encStr_of rfl,encStr_of rfl]
        rfl
       rw [e2]
      rw [e]
      exact hown5)
     have hb5:=Lib.hid hHeld.bel
     clear hown4 hown5 hg4 hg5
     refine tkQx 12 4 hp0 ?_
     refine wpAnyH_done (by kernel_rfl) ?_ _
     (try simp only [apS,apN,siA,scZ,scS])
     (obtain rfl:=hQ0.out;clear hp0)
     clear hHeld
     go_wp2_with fail
     go_ret
     exact ⟨_,rfl,by rw [hins.out];exact OwnL.less hfin5.out (Nat.le_trans hBw hb.out.size),hb.out.trans (hb5.out.mono hb.out.size)⟩
    ·(rw [if_pos (by kernel_rfl)];go_simp)
     refine hK.out _ _ (hHeld.alloc _) (fun hH2=>?_)
     clear hK K hHeld
     have hHeld:=hH2
     clear hH2
     (try simp only [apS,apN,siA,scZ,scS])
     have hx3 : RowsAt (Wa.alloc (.cells #[.string s1,.string s2] 69)) (some ⟨Wa.heap.size,0,none⟩) 2 [rbR ⟨s1,s2⟩]:=rowsAt_new Wa (rbR ⟨s1,s2⟩) 69
     rw [hsz1] at hx3
     replace ho:=Lib.hid (OwnL.below ho.out (below_alloc Wa (.cells #[.string s1,.string s2] 69)))
     clear hsz1
     generalize Wa.alloc (.cells #[.string s1,.string s2] 69) = Wb at *
     (refine wpAnyH_ready (rs:=[4]) (by decide +kernel) (by simp) ?_;refine AllReadyH.cons rfl (fun K hK=>?_) AllReadyH.nil)
     refine step_append_rows elemRn (by rfl) (.tmp 33) (.tmp 36) (by rfl) (by rfl) (by rfl) ho.out (hr1.out _ hHeld.bel) (by rw [List.length_map,List.length_take];omega) (rn_wid _) (rn_one _) (by rw [List.length_map,List.length_take,List.length_nil];omega) (by decide) hHeld.bel.size ?_
     intro v3 Wc hown3 hg3 hob3
     refine hK.out _ _ (hHeld.growL ho.out hg3 (Nat.le_refl _) hLs.out) (fun hH2=>?_)
     clear hK K hHeld
     have hHeld:=hH2
     clear hH2
     (try simp only [apS,apN,siA,scZ,scS])
     have hs3:=Lib.hid (rows_far hx3 hg3 (fun a e=>by cases e;show some (wr.heap.size + 1) ≠ some wr.heap.size;simp))
     have ho3:=Lib.hid hown3
     clear hown3 hg3 hob3 hx3 ho
     (refine wpAnyH_hide (fun _ _ _ _ _ h=>h) (fun Q0 hp0 hQ0=>?_))
     (refine wpAnyH_ready (rs:=[7]) (by decide +kernel) (by simp) ?_;refine AllReadyH.cons rfl (fun K hK=>?_) AllReadyH.nil)
     refine step_append_rows elemRn (by rfl) (.tmp 37) (.tmp 39) (by rfl) (by rfl) (by rfl) ho3.out hs3.out rfl (rb_wid [⟨s1,s2⟩]) (rb_one [⟨s1,s2⟩]) (by simp only [List.length_map,List.length_append,List.length_take,List.length_nil,List.length_singleton];omega) (by decide) hHeld.bel.size ?_
     intro v4 w4 hown4 hg4 _
     refine hK.out _ _ (hHeld.growL ho3.out hg4 (Nat.le_refl _) hLs.out) (fun hH2=>?_)
     clear hK K hHeld
     have hHeld:=hH2
     clear hH2
     (try simp only [apS,apN,siA,scZ,scS])
     (refine wpAnyH_ready (rs:=[11]) (by decide +kernel) (by simp) ?_;refine AllReadyH.cons rfl (fun K hK=>?_) AllReadyH.nil)
     refine step_append_rows elemRn (by rfl) (.tmp 40) (.tmp 43) (by rfl) (by rfl) (by rfl) hown4 (hr2.out _ hHeld.bel) (by rw [List.length_map,List.length_drop]) (rn_wid _) (rn_one _) (by simp only [List.length_map,List.length_append,List.length_take,List.length_drop,List.length_nil,List.length_singleton];omega) (by decide) hHeld.bel.size ?_
     intro v5 w5 hown5 hg5 _
     refine hK.out _ _ (hHeld.growL hown4 hg5 (Nat.le_refl _) hLs.out) (fun hH2=>?_)
     clear hK K hHeld
     have hHeld:=hH2
     clear hH2
     (try simp only [apS,apN,siA,scZ,scS])
     have hfin5:=Lib.hid (show RnL w5 wr.heap.size v5 (zs.take q ++ [⟨s1.toList,s2.toList⟩] ++ zs.drop q) from by
      show OwnL _ _ _ _ _ _
      have e : (zs.take q ++ [(⟨s1.toList,s2.toList⟩ : Rn)] ++ zs.drop q).map rnR = [] ++ (zs.take q).map rnR ++ [rbR ⟨s1,s2⟩] ++ (zs.drop q).map rnR:=by
       rw [List.nil_append,List.map_append,List.map_append,List.map_singleton]
       have e2 : rnR ⟨s1.toList,s2.toList⟩ = rbR ⟨s1,s2⟩:=by
        show [encStr s1.toList,encStr s2.toList] = _
        rw [encStr_of rfl,encStr_of rfl]
        rfl
       rw [e2]
      rw [e]
      exact hown5)
     have hb5:=Lib.hid hHeld.bel
     clear hown4 hown5 hg4 hg5
     refine tkQx 12 4 hp0 ?_
     refine wpAnyH_done (by kernel_rfl) ?_ _
     (try simp only [apS,apN,siA,scZ,scS])
     (obtain rfl:=hQ0.out;clear hp0)
     clear hHeld
     go_wp2_with fail
     go_ret
     exact ⟨_,rfl,by rw [hins.out];exact OwnL.less hfin5.out (Nat.le_trans hBw hb.out.size),hb.out.trans (hb5.out.mono hb.out.size)⟩
   ·(rw [if_pos (by kernel_rfl)];go_simp)
    refine hK.out _ _ (hHeld.alloc _) (fun hH2=>?_)
    clear hK K hHeld
    have hHeld:=hH2
    clear hH2
    (try simp only [apS,apN,siA,scZ,scS])
    clear hmade hsz1
    have hx1:=hsrc1
    clear hsrc1
    generalize (wr.alloc (.cells #[.string s1,.string s2] 69)).drew = Wa at *
    have ho0:=OwnL.made Wa wr.heap.size 69 2 hHeld.bel.size
    rw [hsz2] at ho0
    have ho:=Lib.hid ho0
    clear ho0
    have hx3:=hx1.out.below (below_alloc Wa (.cells #[] 69))
    (refine wpAnyH_ready (rs:=[0]) (by decide +kernel) (by simp) ?_;refine AllReadyH.cons rfl (fun K hK=>?_) AllReadyH.nil)
    (rw [if_pos (by kernel_rfl)];go_simp)
    refine hK.out _ _ (hHeld.alloc _) (fun hH2=>?_)
    clear hK K hHeld
    have hHeld:=hH2
    clear hH2
    (try simp only [apS,apN,siA,scZ,scS])
    clear hsz2
    generalize Wa.alloc (.cells #[] 69) = Wb at *
    clear hx1
    (refine wpAnyH_ready (rs:=[4]) (by decide +kernel) (by simp) ?_;refine AllReadyH.cons rfl (fun K hK=>?_) AllReadyH.nil)
    refine step_append_rows elemRn (by rfl) (.tmp 33) (.tmp 36) (by rfl) (by rfl) (by rfl) ho.out (hr1.out _ hHeld.bel) (by rw [List.length_map,List.length_take];omega) (rn_wid _) (rn_one _) (by rw [List.length_map,List.length_take,List.length_nil];omega) (by decide) hHeld.bel.size ?_
    intro v3 Wc hown3 hg3 hob3
    refine hK.out _ _ (hHeld.growL ho.out hg3 (Nat.le_refl _) hLs.out) (fun hH2=>?_)
    clear hK K hHeld
    have hHeld:=hH2
    clear hH2
    (try simp only [apS,apN,siA,scZ,scS])
    have hs3:=Lib.hid (rows_far hx3 hg3 (fun a e=>by cases e;show some wr.heap.size ≠ some (wr.heap.size + 1);simp))
    have ho3:=Lib.hid hown3
    clear hown3 hg3 hob3 hx3 ho
    (refine wpAnyH_hide (fun _ _ _ _ _ h=>h) (fun Q0 hp0 hQ0=>?_))
    (refine wpAnyH_ready (rs:=[7]) (by decide +kernel) (by simp) ?_;refine AllReadyH.cons rfl (fun K hK=>?_) AllReadyH.nil)
    refine step_append_rows elemRn (by rfl) (.tmp 37) (.tmp 39) (by rfl) (by rfl) (by rfl) ho3.out hs3.out rfl (rb_wid [⟨s1,s2⟩]) (rb_one [⟨s1,s2⟩]) (by simp only [List.length_map,List.length_append,List.length_take,List.length_nil,List.length_singleton];omega) (by decide) hHeld.bel.size ?_
    intro v4 w4 hown4 hg4 _
    refine hK.out _ _ (hHeld.growL ho3.out hg4 (Nat.le_refl _) hLs.out) (fun hH2=>?_)
    clear hK K hHeld
    have hHeld:=hH2
    clear hH2
    (try simp only [apS,apN,siA,scZ,scS])
    (refine wpAnyH_ready (rs:=[11]) (by decide +kernel) (by simp) ?_;refine AllReadyH.cons rfl (fun K hK=>?_) AllReadyH.nil)
    refine step_append_rows elemRn (by rfl) (.tmp 40) (.tmp 43) (by rfl) (by rfl) (by rfl) hown4 (hr2.out _ hHeld.bel) (by rw [List.length_map,List.length_drop]) (rn_wid _) (rn_one _) (by simp only [List.length_map,List.length_append,List.length_take,List.length_drop,List.length_nil,List.length_singleton];omega) (by decide) hHeld.bel.size ?_
    intro v5 w5 hown5 hg5 _
    refine hK.out _ _ (hHeld.growL hown4 hg5 (Nat.le_refl _) hLs.out) (fun hH2=>?_)
    clear hK K hHeld
    have hHeld:=hH2
    clear hH2
    (try simp only [apS,apN,siA,scZ,scS])
    have hfin5:=Lib.hid (show RnL w5 wr.heap.size v5 (zs.take q ++ [⟨s1.toList,s2.toList⟩] ++ zs.drop q) from by
     show OwnL _ _ _ _ _ _
     have e : (zs.take q ++ [(⟨s1.toList,s2.toList⟩ : Rn)] ++ zs.drop q).map rnR = [] ++ (zs.take q).map rnR ++ [rbR ⟨s1,s2⟩] ++ (zs.drop q).map rnR:=by
      rw [List.nil_append,List.map_append,List.map_append,List.map_singleton]
      have e2 : rnR ⟨s1.toList,s2.toList⟩ = rbR ⟨s1,s2⟩:=by
       show [encStr s1.toList,encStr s2.toList] = _
       rw [encStr_of rfl,encStr_of rfl]
       rfl
      rw [e2]
     rw [e]
     exact hown5)
    have hb5:=Lib.hid hHeld.bel
    clear hown4 hown5 hg4 hg5
    refine tkQx 12 4 hp0 ?_
    refine wpAnyH_done (by kernel_rfl) ?_ _
    (try simp only [apS,apN,siA,scZ,scS])
    (obtain rfl:=hQ0.out;clear hp0)
    clear hHeld
    go_wp2_with fail
    go_ret
    exact ⟨_,rfl,by rw [hins.out];exact OwnL.less hfin5.out (Nat.le_trans hBw hb.out.size),hb.out.trans (hb5.out.mono hb.out.size)⟩
  ·have hq1 : q - 1 < zs.length:=by omega
   obtain ⟨y,hy⟩ : ∃ y,zs[q - 1]? = some y:=⟨_,List.getElem?_eq_getElem hq1⟩
   obtain ⟨b2,o2,rfl,_,zo,zn,hz1,hz2,e0,e1⟩:=rn_at (OwnL.formR hO.out) hy
   have hcm:=Lib.hid (fun W=>rnLess_any s1 s2 zo zn ⟨s1.toList,s2.toList⟩ y W rfl rfl hz1 hz2)
   have heq:=fun W=>rb_eql ⟨zo,zn⟩ ⟨s1,s2⟩ W
   dsimp only at heq
   have hyz:=Lib.hid (show rbB ⟨zo,zn⟩ ⟨s1,s2⟩ = true → y = ⟨s1.toList,s2.toList⟩ from fun h=>by
    rw [rbB_iff,RB.mk.injEq] at h
    obtain ⟨rfl,rfl⟩:=h
    rw [hz1,hz2])
   have hyn:=Lib.hid (show rbB ⟨zo,zn⟩ ⟨s1,s2⟩ = false → y ≠ ⟨s1.toList,s2.toList⟩ from fun h e=>by
    have e2 : (⟨zo,zn⟩ : RB) = ⟨s1,s2⟩:=rb_ext (by unfold RB.txt;rw [hz1,hz2,e])
    rw [rbB_iff.2 e2] at h
    cases h)
   have hyh:=Lib.hid hy
   have p1 : IntKind.i64.wrap ((q : Int) - 1) = (q : Int) - 1:=wrap_small (by omega) (by omega)
   have p2 : (1 : Int) ≤ (q : Int):=by omega
   have p3 : (0 : Int) < (q : Int):=by omega
   have p4 : (q : Int) - 1 < (zs.length : Int):=by omega
   have p5 : ((q : Int) - 1).toNat = q - 1:=by omega
   have p6 : (0 : Int) ≤ (q : Int) - 1:=by omega
   have p7 : 0 < q:=by omega
   have p8 : 1 ≤ q:=by omega
   generalize rbB ⟨zo,zn⟩ ⟨s1,s2⟩ = ve at *
   have hlt:=Lib.hid (rfl : decide (Cal.rlt ⟨s1.toList,s2.toList⟩ y) = decide (Cal.rlt ⟨s1.toList,s2.toList⟩ y))
   generalize hvl : decide (Cal.rlt ⟨s1.toList,s2.toList⟩ y) = vl at *
   clear hy hz1 hz2 hq0 hlt
   replace hvl:=Lib.hid hvl
   go_wp2_with fail
   refine wp_region_held_drew (S:=Sx wr [(w.heap.size,0,.string s1),(w.heap.size,1,.string s2),(b2,o2 + (q - 1) * 2,.string zo),(b2,o2 + (q - 1) * 2 + 1,.string zn)]) (by kernel_rfl) (Sx.mk (by simp only [cs_iff_cons];exact ⟨x0,x1,e0,e1,cs_nil _⟩) (Below.refl _ _)).drew (fun hHeld=>?_)
   clear x0 x1 e0 e1
   (refine wpAnyH_hide (fun _ _ _ _ _ h=>h) (fun Q0 hp0 hQ0=>?_))
   refine tkQx 0 8 hp0 ?_
   refine tkQx 1 9 hp0 ?_
   refine tkQx 2 10 hp0 ?_
   refine tkQx 3 11 hp0 ?_
   refine tkQx 4 12 hp0 ?_
   refine tkQx 5 13 hp0 ?_
   refine tkQx 6 14 hp0 ?_
   refine tkQx 7 15 hp0 ?_
   refine tkQx 8 16 hp0 ?_
   (refine ratHx 9 (fun K hK=>?_);go_simp)
   refine (hcm.out _).mono ?_
   rintro e wn ⟨rfl,hbn⟩
   go_simp
   (refine hK.out _ _ (hHeld.step hbn) (fun hHeld=>?_);clear hK K;(try simp only [apS,apN,siA,scZ,scS]))
   refine tkQx 10 18 hp0 ?_
   refine wpAnyH_done (by kernel_rfl) ?_ _
   (try simp only [apS,apN,siA,scZ,scS])
   (obtain rfl:=hQ0.out;clear hp0)
   have e0:=hHeld.cs _ (List.mem_cons_of_mem _ (List.mem_cons_of_mem _ (List.mem_cons_self ..)))
   have e1:=hHeld.cs _ (List.mem_cons_of_mem _ (List.mem_cons_of_mem _ (List.mem_cons_of_mem _ (List.mem_cons_self ..))))
   dsimp only at e0 e1
   clear hcm
   have hbz:=Lib.hid (hHeld.bel)
   have hI9:=Lib.hid (hI.out.below hbz.out)
   have hb9:=Lib.hid (hb.out.trans (hbz.out.mono hb.out.size))
   have hO9:=Lib.hid (OwnL.below hO.out hbz.out)
   have hL9 : Hid (∀ x ∈ [(w.heap.size,0,Value.string s1),(w.heap.size,1,Value.string s2)],x.1 < wn.heap.size):=fun x hx=>Nat.lt_of_lt_of_le (hLs.out x hx) hbz.out.size
   clear hHeld hI hb hO hLs hbz
   have hI:=hI9
   have hb:=hb9
   have hO:=hO9
   have hLs:=hL9
   clear hI9 hb9 hO9 hL9
   generalize wn = wr at *
   have x0:=hI.out.bx.c 0 _ rfl
   have x1:=hI.out.bx.c 1 _ rfl
   cases vl
   ·have hge : Hid (∀ z,0 < q → zs[q - 1]? = some z → z ≠ ⟨s1.toList,s2.toList⟩ → Cal.rlt z ⟨s1.toList,s2.toList⟩):=fun z _ hz hne=>by
     rw [hyh.out] at hz
     cases hz
     have:=of_decide_eq_false hvl.out
     rcases Cal.rlt_tri ⟨s1.toList,s2.toList⟩ y with h | h | h
     ·exact absurd h this
     ·exact absurd h.symm hne
     ·exact h
    clear hvl
    cases ve
    ·have hins : Hid (Cal.settle (zs ++ [⟨s1.toList,s2.toList⟩]) = zs.take q ++ [⟨s1.toList,s2.toList⟩] ++ zs.drop q):=Cal.settle_ins hup hq hab.out (fun z h0 hz=>hge.out z h0 hz (by
      rw [hyh.out] at hz
      cases hz
      exact hyn.out rfl))
     clear hyz hyn hyh hge hab
     go_wp2_with fail
     refine wp_region_held_drew (S:=Sx wr [(w.heap.size,0,.string s1),(w.heap.size,1,.string s2),(b2,o2 + (q - 1) * 2,.string zo),(b2,o2 + (q - 1) * 2 + 1,.string zn)]) (by kernel_rfl) (Sx.mk (by simp only [cs_iff_cons];exact ⟨x0,x1,e0,e1,cs_nil _⟩) (Below.refl _ _)).drew (fun hHeld=>?_)
     clear x0 x1 e0 e1
     (refine wpAnyH_hide (fun _ _ _ _ _ h=>h) (fun Q0 hp0 hQ0=>?_))
     refine tkQx 0 21 hp0 ?_
     refine tkQx 1 22 hp0 ?_
     refine tkQx 2 23 hp0 ?_
     refine tkQx 3 24 hp0 ?_
     refine tkQx 4 25 hp0 ?_
     refine tkQx 5 26 hp0 ?_
     refine tkQx 6 27 hp0 ?_
     refine tkQx 7 28 hp0 ?_
     refine tkQx 8 29 hp0 ?_
     refine tkQx 9 30 hp0 ?_
     refine tkQx 10 31 hp0 ?_
     refine wpAnyH_done (by kernel_rfl) ?_ _
     (try simp only [apS,apN,siA,scZ,scS])
     (obtain rfl:=hQ0.out;clear hp0)
     generalize wr.drew = wn at hHeld ⊢
     have hbz:=Lib.hid (hHeld.bel)
     have hI9:=Lib.hid (hI.out.below hbz.out)
     have hb9:=Lib.hid (hb.out.trans (hbz.out.mono hb.out.size))
     have hO9:=Lib.hid (OwnL.below hO.out hbz.out)
     have hL9 : Hid (∀ x ∈ [(w.heap.size,0,Value.string s1),(w.heap.size,1,Value.string s2)],x.1 < wn.heap.size):=fun x hx=>Nat.lt_of_lt_of_le (hLs.out x hx) hbz.out.size
     clear hHeld hI hb hO hLs hbz
     have hI:=hI9
     have hb:=hb9
     have hO:=hO9
     have hLs:=hL9
     clear hI9 hb9 hO9 hL9
     generalize wn = wr at *
     have x0:=hI.out.bx.c 0 _ rfl
     have x1:=hI.out.bx.c 1 _ rfl
     go_wp2_with fail
     clear heq p1 p2 p3 p4 p5 p6
     have hqi : (q : Int) ≤ (zs.length : Int):=by omega
     obtain ⟨A1,c1,hrun1,hR1⟩:=hO.out.head udRn szRb hq
     obtain ⟨A2,c2,hrun2,hR2⟩:=hO.out.tail udRn szRb hq
     rw [← List.map_take] at hR1
     rw [← List.map_drop] at hR2
     have hr1:=Lib.hid (fun W (hb : Below wr.heap.size wr W)=>hR1.below hb)
     have hr2:=Lib.hid (fun W (hb : Below wr.heap.size wr W)=>hR2.below hb)
     clear hR1 hR2
     refine wp_region_held_drew (S:=Sx wr [(w.heap.size,0,.string s1),(w.heap.size,1,.string s2)]) (by kernel_rfl) (Sx.mk (by simp only [cs_iff_cons];exact ⟨x0,x1,cs_nil _⟩) (Below.refl _ _)).drew (fun hHeld=>?_)
     clear x0 x1
     refine tkHx 1 34 ?_
     refine tkHx 2 35 ?_
     refine tkHx 3 36 ?_
     refine tkHx 5 38 ?_
     refine tkHx 8 41 ?_
     refine tkHx 9 42 ?_
     refine tkHx 10 43 ?_
     clear hrun1 hrun2
     have hmade : Hid (OwnL (wr.alloc (.cells #[] 69)).drew wr.heap.size 69 2 (.slice (some ⟨wr.heap.size,0,none⟩) 0 0) []):=OwnL.made (World.drew wr) wr.heap.size _ 2 (Nat.le_refl _)
     have hsz1 : (wr.alloc (.cells #[] 69)).drew.heap.size = wr.heap.size + 1:=by show (wr.alloc (.cells #[] 69)).heap.size = _;rw [World.size_alloc]
     have hsrc1 : Hid (RowsAt (wr.alloc (.cells #[.string s1,.string s2] 69)).drew (some ⟨wr.heap.size,0,none⟩) 2 [rbR ⟨s1,s2⟩]):=rowsAt_new (World.drew wr) (rbR ⟨s1,s2⟩) 69
     have hsz2 : (wr.alloc (.cells #[.string s1,.string s2] 69)).drew.heap.size = wr.heap.size + 1:=by show (wr.alloc (.cells #[.string s1,.string s2] 69)).heap.size = _;rw [World.size_alloc]
     (refine wpAnyH_ready (rs:=[0,6]) (by decide +kernel) (by simp) ?_;refine AllReadyH.cons rfl (fun K hK=>?_) (AllReadyH.cons rfl (fun K hK=>?_) AllReadyH.nil))
     ·(rw [if_pos (by kernel_rfl)];go_simp)
      refine hK.out _ _ (hHeld.alloc _) (fun hH2=>?_)
      clear hK K hHeld
      have hHeld:=hH2
      clear hH2
      (try simp only [apS,apN,siA,scZ,scS])
      clear hsrc1 hsz2
      have ho:=hmade
      clear hmade
      generalize (wr.alloc (.cells #[] 69)).drew = Wa at *
      (refine wpAnyH_ready (rs:=[4,6]) (by decide +kernel) (by simp) ?_;refine AllReadyH.cons rfl (fun K hK=>?_) (AllReadyH.cons rfl (fun K hK=>?_) AllReadyH.nil))
      ·refine step_append_rows elemRn (by rfl) (.tmp 33) (.tmp 36) (by rfl) (by rfl) (by rfl) ho.out (hr1.out _ hHeld.bel) (by rw [List.length_map,List.length_take];omega) (rn_wid _) (rn_one _) (by rw [List.length_map,List.length_take,List.length_nil];omega) (by decide) hHeld.bel.size ?_
       intro v3 Wb hown3 hg3 hob3
       refine hK.out _ _ (hHeld.growL ho.out hg3 (Nat.le_refl _) hLs.out) (fun hH2=>?_)
       clear hK K hHeld
       have hHeld:=hH2
       clear hH2
       (try simp only [apS,apN,siA,scZ,scS])
       have hx3 : RowsAt (Wb.alloc (.cells #[.string s1,.string s2] 69)) (some ⟨Wb.heap.size,0,none⟩) 2 [rbR ⟨s1,s2⟩]:=rowsAt_new Wb (rbR ⟨s1,s2⟩) 69
       have ho3:=Lib.hid (OwnL.below hown3 (below_alloc Wb (.cells #[.string s1,.string s2] 69)))
       clear hown3 hg3 hob3 hsz1 ho
       (refine wpAnyH_ready (rs:=[6]) (by decide +kernel) (by simp) ?_;refine AllReadyH.cons rfl (fun K hK=>?_) AllReadyH.nil)
       (rw [if_pos (by kernel_rfl)];go_simp)
       refine hK.out _ _ (hHeld.alloc _) (fun hH2=>?_)
       clear hK K hHeld
       have hHeld:=hH2
       clear hH2
       (try simp only [apS,apN,siA,scZ,scS])
       have hs3:=Lib.hid hx3
       clear hx3
       generalize Wb.alloc (.cells #[.string s1,.string s2] 69) = Wc at *
       (refine wpAnyH_hide (fun _ _ _ _ _ h=>h) (fun Q0 hp0 hQ0=>?_))
       (refine wpAnyH_ready (rs:=[7]) (by decide +kernel) (by simp) ?_;refine AllReadyH.cons rfl (fun K hK=>?_) AllReadyH.nil)
       refine step_append_rows elemRn (by rfl) (.tmp 37) (.tmp 39) (by rfl) (by rfl) (by rfl) ho3.out hs3.out rfl (rb_wid [⟨s1,s2⟩]) (rb_one [⟨s1,s2⟩]) (by simp only [List.length_map,List.length_append,List.length_take,List.length_nil,List.length_singleton];omega) (by decide) hHeld.bel.size ?_
       intro v4 w4 hown4 hg4 _
       refine hK.out _ _ (hHeld.growL ho3.out hg4 (Nat.le_refl _) hLs.out) (fun hH2=>?_)
       clear hK K hHeld
       have hHeld:=hH2
       clear hH2
       (try simp only [apS,apN,siA,scZ,scS])
       (refine wpAnyH_ready (rs:=[11]) (by decide +kernel) (by simp) ?_;refine AllReadyH.cons rfl (fun K hK=>?_) AllReadyH.nil)
       refine step_append_rows elemRn (by rfl) (.tmp 40) (.tmp 43) (by rfl) (by rfl) (by rfl) hown4 (hr2.out _ hHeld.bel) (by rw [List.length_map,List.length_drop]) (rn_wid _) (rn_one _) (by simp only [List.length_map,List.length_append,List.length_take,List.length_drop,List.length_nil,List.length_singleton];omega) (by decide) hHeld.bel.size ?_
       intro v5 w5 hown5 hg5 _
       refine hK.out _ _ (hHeld.growL hown4 hg5 (Nat.le_refl _) hLs.out) (fun hH2=>?_)
       clear hK K hHeld
       have hHeld:=hH2
       clear hH2
       (try simp only [apS,apN,siA,scZ,scS])
       have hfin5:=Lib.hid (show RnL w5 wr.heap.size v5 (zs.take q ++ [⟨s1.toList,s2.toList⟩] ++ zs.drop q) from by
        show OwnL _ _ _ _ _ _
        have e : (zs.take q ++ [(⟨s1.toList,s2.toList⟩ : Rn)] ++ zs.drop q).map rnR = [] ++ (zs.take q).map rnR ++ [rbR ⟨s1,s2⟩] ++ (zs.drop q).map rnR:=by
         rw [List.nil_append,List.map_append,List.map_append,List.map_singleton]
         have e2 : rnR ⟨s1.toList,s2.toList⟩ = rbR ⟨s1,s2⟩:=by
          show [encStr s1.toList,encStr s2.toList] = _
          rw [encStr_of rfl,encStr_of rfl]
          rfl
         rw [e2]
        rw [e]
        exact hown5)
       have hb5:=Lib.hid hHeld.bel
       clear hown4 hown5 hg4 hg5
       refine tkQx 12 4 hp0 ?_
       refine wpAnyH_done (by kernel_rfl) ?_ _
       (try simp only [apS,apN,siA,scZ,scS])
       (obtain rfl:=hQ0.out;clear hp0)
       clear hHeld
       go_wp2_with fail
       go_ret
       exact ⟨_,rfl,by rw [hins.out];exact OwnL.less hfin5.out (Nat.le_trans hBw hb.out.size),hb.out.trans (hb5.out.mono hb.out.size)⟩
      ·(rw [if_pos (by kernel_rfl)];go_simp)
       refine hK.out _ _ (hHeld.alloc _) (fun hH2=>?_)
       clear hK K hHeld
       have hHeld:=hH2
       clear hH2
       (try simp only [apS,apN,siA,scZ,scS])
       have hx3 : RowsAt (Wa.alloc (.cells #[.string s1,.string s2] 69)) (some ⟨Wa.heap.size,0,none⟩) 2 [rbR ⟨s1,s2⟩]:=rowsAt_new Wa (rbR ⟨s1,s2⟩) 69
       rw [hsz1] at hx3
       replace ho:=Lib.hid (OwnL.below ho.out (below_alloc Wa (.cells #[.string s1,.string s2] 69)))
       clear hsz1
       generalize Wa.alloc (.cells #[.string s1,.string s2] 69) = Wb at *
       (refine wpAnyH_ready (rs:=[4]) (by decide +kernel) (by simp) ?_;refine AllReadyH.cons rfl (fun K hK=>?_) AllReadyH.nil)
       refine step_append_rows elemRn (by rfl) (.tmp 33) (.tmp 36) (by rfl) (by rfl) (by rfl) ho.out (hr1.out _ hHeld.bel) (by rw [List.length_map,List.length_take];omega) (rn_wid _) (rn_one _) (by rw [List.length_map,List.length_take,List.length_nil];omega) (by decide) hHeld.bel.size ?_
       intro v3 Wc hown3 hg3 hob3
       refine hK.out _ _ (hHeld.growL ho.out hg3 (Nat.le_refl _) hLs.out) (fun hH2=>?_)
       clear hK K hHeld
       have hHeld:=hH2
       clear hH2
       (try simp only [apS,apN,siA,scZ,scS])
       have hs3:=Lib.hid (rows_far hx3 hg3 (fun a e=>by cases e;show some (wr.heap.size + 1) ≠ some wr.heap.size;simp))
       have ho3:=Lib.hid hown3
       clear hown3 hg3 hob3 hx3 ho
       (refine wpAnyH_hide (fun _ _ _ _ _ h=>h) (fun Q0 hp0 hQ0=>?_))
       (refine wpAnyH_ready (rs:=[7]) (by decide +kernel) (by simp) ?_;refine AllReadyH.cons rfl (fun K hK=>?_) AllReadyH.nil)
       refine step_append_rows elemRn (by rfl) (.tmp 37) (.tmp 39) (by rfl) (by rfl) (by rfl) ho3.out hs3.out rfl (rb_wid [⟨s1,s2⟩]) (rb_one [⟨s1,s2⟩]) (by simp only [List.length_map,List.length_append,List.length_take,List.length_nil,List.length_singleton];omega) (by decide) hHeld.bel.size ?_
       intro v4 w4 hown4 hg4 _
       refine hK.out _ _ (hHeld.growL ho3.out hg4 (Nat.le_refl _) hLs.out) (fun hH2=>?_)
       clear hK K hHeld
       have hHeld:=hH2
       clear hH2
       (try simp only [apS,apN,siA,scZ,scS])
       (refine wpAnyH_ready (rs:=[11]) (by decide +kernel) (by simp) ?_;refine AllReadyH.cons rfl (fun K hK=>?_) AllReadyH.nil)
       refine step_append_rows elemRn (by rfl) (.tmp 40) (.tmp 43) (by rfl) (by rfl) (by rfl) hown4 (hr2.out _ hHeld.bel) (by rw [List.length_map,List.length_drop]) (rn_wid _) (rn_one _) (by simp only [List.length_map,List.length_append,List.length_take,List.length_drop,List.length_nil,List.length_singleton];omega) (by decide) hHeld.bel.size ?_
       intro v5 w5 hown5 hg5 _
       refine hK.out _ _ (hHeld.growL hown4 hg5 (Nat.le_refl _) hLs.out) (fun hH2=>?_)
       clear hK K hHeld
       have hHeld:=hH2
       clear hH2
       (try simp only [apS,apN,siA,scZ,scS])
       have hfin5:=Lib.hid (show RnL w5 wr.heap.size v5 (zs.take q ++ [⟨s1.toList,s2.toList⟩] ++ zs.drop q) from by
        show OwnL _ _ _ _ _ _
        have e : (zs.take q ++ [(⟨s1.toList,s2.toList⟩ : Rn)] ++ zs.drop q).map rnR = [] ++ (zs.take q).map rnR ++ [rbR ⟨s1,s2⟩] ++ (zs.drop q).map rnR:=by
         rw [List.nil_append,List.map_append,List.map_append,List.map_singleton]
         have e2 : rnR ⟨s1.toList,s2.toList⟩ = rbR ⟨s1,s2⟩:=by
          show [encStr s1.toList,encStr s2.toList] = _
          rw [encStr_of rfl,encStr_of rfl]
          rfl
         rw [e2]
        rw [e]
        exact hown5)
       have hb5:=Lib.hid hHeld.bel
       clear hown4 hown5 hg4 hg5
       refine tkQx 12 4 hp0 ?_
       refine wpAnyH_done (by kernel_rfl) ?_ _
       (try simp only [apS,apN,siA,scZ,scS])
       (obtain rfl:=hQ0.out;clear hp0)
       clear hHeld
       go_wp2_with fail
       go_ret
       exact ⟨_,rfl,by rw [hins.out];exact OwnL.less hfin5.out (Nat.le_trans hBw hb.out.size),hb.out.trans (hb5.out.mono hb.out.size)⟩
     ·(rw [if_pos (by kernel_rfl)];go_simp)
      refine hK.out _ _ (hHeld.alloc _) (fun hH2=>?_)
      clear hK K hHeld
      have hHeld:=hH2
      clear hH2
      (try simp only [apS,apN,siA,scZ,scS])
      clear hmade hsz1
      have hx1:=hsrc1
      clear hsrc1
      generalize (wr.alloc (.cells #[.string s1,.string s2] 69)).drew = Wa at *
      have ho0:=OwnL.made Wa wr.heap.size 69 2 hHeld.bel.size
      rw [hsz2] at ho0
      have ho:=Lib.hid ho0
      clear ho0
      have hx3:=hx1.out.below (below_alloc Wa (.cells #[] 69))
      (refine wpAnyH_ready (rs:=[0]) (by decide +kernel) (by simp) ?_;refine AllReadyH.cons rfl (fun K hK=>?_) AllReadyH.nil)
      (rw [if_pos (by kernel_rfl)];go_simp)
      refine hK.out _ _ (hHeld.alloc _) (fun hH2=>?_)
      clear hK K hHeld
      have hHeld:=hH2
      clear hH2
      (try simp only [apS,apN,siA,scZ,scS])
      clear hsz2
      generalize Wa.alloc (.cells #[] 69) = Wb at *
      clear hx1
      (refine wpAnyH_ready (rs:=[4]) (by decide +kernel) (by simp) ?_;refine AllReadyH.cons rfl (fun K hK=>?_) AllReadyH.nil)
      refine step_append_rows elemRn (by rfl) (.tmp 33) (.tmp 36) (by rfl) (by rfl) (by rfl) ho.out (hr1.out _ hHeld.bel) (by rw [List.length_map,List.length_take];omega) (rn_wid _) (rn_one _) (by rw [List.length_map,List.length_take,List.length_nil];omega) (by decide) hHeld.bel.size ?_
      intro v3 Wc hown3 hg3 hob3
      refine hK.out _ _ (hHeld.growL ho.out hg3 (Nat.le_refl _) hLs.out) (fun hH2=>?_)
      clear hK K hHeld
      have hHeld:=hH2
      clear hH2
      (try simp only [apS,apN,siA,scZ,scS])
      have hs3:=Lib.hid (rows_far hx3 hg3 (fun a e=>by cases e;show some wr.heap.size ≠ some (wr.heap.size + 1);simp))
      have ho3:=Lib.hid hown3
      clear hown3 hg3 hob3 hx3 ho
      (refine wpAnyH_hide (fun _ _ _ _ _ h=>h) (fun Q0 hp0 hQ0=>?_))
      (refine wpAnyH_ready (rs:=[7]) (by decide +kernel) (by simp) ?_;refine AllReadyH.cons rfl (fun K hK=>?_) AllReadyH.nil)
      refine step_append_rows elemRn (by rfl) (.tmp 37) (.tmp 39) (by rfl) (by rfl) (by rfl) ho3.out hs3.out rfl (rb_wid [⟨s1,s2⟩]) (rb_one [⟨s1,s2⟩]) (by simp only [List.length_map,List.length_append,List.length_take,List.length_nil,List.length_singleton];omega) (by decide) hHeld.bel.size ?_
      intro v4 w4 hown4 hg4 _
      refine hK.out _ _ (hHeld.growL ho3.out hg4 (Nat.le_refl _) hLs.out) (fun hH2=>?_)
      clear hK K hHeld
      have hHeld:=hH2
      clear hH2
      (try simp only [apS,apN,siA,scZ,scS])
      (refine wpAnyH_ready (rs:=[11]) (by decide +kernel) (by simp) ?_;refine AllReadyH.cons rfl (fun K hK=>?_) AllReadyH.nil)
      refine step_append_rows elemRn (by rfl) (.tmp 40) (.tmp 43) (by rfl) (by rfl) (by rfl) hown4 (hr2.out _ hHeld.bel) (by rw [List.length_map,List.length_drop]) (rn_wid _) (rn_one _) (by simp only [List.length_map,List.length_append,List.length_take,List.length_drop,List.length_nil,List.length_singleton];omega) (by decide) hHeld.bel.size ?_
      intro v5 w5 hown5 hg5 _
      refine hK.out _ _ (hHeld.growL hown4 hg5 (Nat.le_refl _) hLs.out) (fun hH2=>?_)
      clear hK K hHeld
      have hHeld:=hH2
      clear hH2
      (try simp only [apS,apN,siA,scZ,scS])
      have hfin5:=Lib.hid (show RnL w5 wr.heap.size v5 (zs.take q ++ [⟨s1.toList,s2.toList⟩] ++ zs.drop q) from by
       show OwnL _ _ _ _ _ _
       have e : (zs.take q ++ [(⟨s1.toList,s2.toList⟩ : Rn)] ++ zs.drop q).map rnR = [] ++ (zs.take q).map rnR ++ [rbR ⟨s1,s2⟩] ++ (zs.drop q).map rnR:=by
        rw [List.nil_append,List.map_append,List.map_append,List.map_singleton]
        have e2 : rnR ⟨s1.toList,s2.toList⟩ = rbR ⟨s1,s2⟩:=by
         show [encStr s1.toList,encStr s2.toList] = _
         rw [encStr_of rfl,encStr_of rfl]
         rfl
        rw [e2]
       rw [e]
       exact hown5)
      have hb5:=Lib.hid hHeld.bel
      clear hown4 hown5 hg4 hg5
      refine tkQx 12 4 hp0 ?_
      refine wpAnyH_done (by kernel_rfl) ?_ _
      (try simp only [apS,apN,siA,scZ,scS])
      (obtain rfl:=hQ0.out;clear hp0)
      clear hHeld
      go_wp2_with fail
      go_ret
      exact ⟨_,rfl,by rw [hins.out];exact OwnL.less hfin5.out (Nat.le_trans hBw hb.out.size),hb.out.trans (hb5.out.mono hb.out.size)⟩
    ·have hin : Hid (Cal.settle (zs ++ [⟨s1.toList,s2.toList⟩]) = zs):=Cal.settle_in hup (by
      have:=hyh.out
      rw [hyz.out rfl] at this
      exact List.mem_of_getElem? this)
     clear hyz hyn hyh hge hab
     go_wp2_with fail
     refine wp_region_held_drew (S:=Sx wr [(w.heap.size,0,.string s1),(w.heap.size,1,.string s2),(b2,o2 + (q - 1) * 2,.string zo),(b2,o2 + (q - 1) * 2 + 1,.string zn)]) (by kernel_rfl) (Sx.mk (by simp only [cs_iff_cons];exact ⟨x0,x1,e0,e1,cs_nil _⟩) (Below.refl _ _)).drew (fun hHeld=>?_)
     clear x0 x1 e0 e1
     (refine wpAnyH_hide (fun _ _ _ _ _ h=>h) (fun Q0 hp0 hQ0=>?_))
     refine tkQx 0 21 hp0 ?_
     refine tkQx 1 22 hp0 ?_
     refine tkQx 2 23 hp0 ?_
     refine tkQx 3 24 hp0 ?_
     refine tkQx 4 25 hp0 ?_
     refine tkQx 5 26 hp0 ?_
     refine tkQx 6 27 hp0 ?_
     refine tkQx 7 28 hp0 ?_
     refine tkQx 8 29 hp0 ?_
     refine tkQx 9 30 hp0 ?_
     refine tkQx 10 31 hp0 ?_
     refine wpAnyH_done (by kernel_rfl) ?_ _
     (try simp only [apS,apN,siA,scZ,scS])
     (obtain rfl:=hQ0.out;clear hp0)
     generalize wr.drew = wn at hHeld ⊢
     have hbz:=Lib.hid (hHeld.bel)
     have hI9:=Lib.hid (hI.out.below hbz.out)
     have hb9:=Lib.hid (hb.out.trans (hbz.out.mono hb.out.size))
     have hO9:=Lib.hid (OwnL.below hO.out hbz.out)
     have hL9 : Hid (∀ x ∈ [(w.heap.size,0,Value.string s1),(w.heap.size,1,Value.string s2)],x.1 < wn.heap.size):=fun x hx=>Nat.lt_of_lt_of_le (hLs.out x hx) hbz.out.size
     clear hHeld hI hb hO hLs hbz
     have hI:=hI9
     have hb:=hb9
     have hO:=hO9
     have hLs:=hL9
     clear hI9 hb9 hO9 hL9
     generalize wn = wr at *
     have x0:=hI.out.bx.c 0 _ rfl
     have x1:=hI.out.bx.c 1 _ rfl
     go_wp2_with fail
     go_ret
     exact ⟨_,rfl,by rw [hin.out];exact hO.out,hb.out⟩
   ·have hnx : Hid (abR zs ⟨s1.toList,s2.toList⟩ (q - 1)):=fun j z hj hz=>by
     rcases Nat.lt_or_ge (q - 1) j with h' | h'
     ·exact hab.out j z (by omega) hz
     ·obtain rfl : j = q - 1:=by omega
      rw [hyh.out] at hz
      cases hz
      exact of_decide_eq_true hvl.out
    clear hyz hyn hyh hab hvl e0 e1 heq x0 x1
    go_wp2_with fail
    go_roundw
    case rel=>exact ⟨q - 1,by omega,by go_num,hnx,hI⟩
    case measure=>simp [intOf];omega
end Go.Proofs.YthfokpchdlcidaaGreat
