/- What the statements rest on: definitions and walks, part 19. -/
import Derived.Test.YthfokpchdlcidaaGreatJ18
import Derived.Test.YthfokpchdlcidaaGreatJ15
set_option maxRecDepth 100000
set_option maxHeartbeats 16000000
set_option linter.unusedSimpArgs false
set_option linter.unusedVariables false
namespace Go.Proofs.YthfokpchdlcidaaGreat
open Go Go.RowKit Go.Sort
theorem TurnR_any (A : Option Addr) (c : Nat) (l : List Rn) (w : World) (hl : RowsAt w A 2 (l.map rnR)) (hs : l.length ≤ 100000) :
  Calls Tryz.prog 24 #[.slice A l.length c] w fun e w'=>∃ A' c',e = .returned (.slice A' (Cal.turnR l).length c') ∧ RowsAt w' A' 2 ((Cal.turnR l).map rnR) ∧ Below w.heap.size w w':=by
 have hb0 : Hid (Below w.heap.size w w):=Below.refl _ _
 have hT : Hid (Cal.turnR l = Cal.settle (l.map Cal.swapR)):=rfl
 have hO0 : Hid (RnL w w.heap.size (.slice none 0 0) (Cal.settle ((l.take 0).map Cal.swapR))):=OwnL.nil _ _ _ _
 replace hl:=Lib.hid hl
 rw [hT.out]
 clear hT
 go_enter Tryz.func24,Tryz.ntmps24
 go_wp2_with fail
 go_loopw [3,4] (fun ov i wr=>∃ (k : Nat) (v : Value),k ≤ l.length ∧ i = .int .i64 k ∧ ov = v ∧ Hid (RnL wr w.heap.size v (Cal.settle ((l.take k).map Cal.swapR))) ∧ Hid (Below w.heap.size w wr)) (fun _ i _=>l.length - (intOf i).toNat)
 case atStart=>exact ⟨0,_,Nat.zero_le _,rfl,rfl,hO0,hb0⟩
 case round =>
  clear hb0 hO0
  obtain ⟨k,v,hk,rfl,rfl,hO,hb⟩:=hrel
  by_cases hlt : k < l.length
  ·have hk' : l[k]? = some l[k]:=List.getElem?_eq_getElem hlt
   have htk : (l.take (k + 1)).map Cal.swapR = (l.take k).map Cal.swapR ++ [Cal.swapR l[k]]:=by rw [List.take_succ_eq_append_getElem hlt,List.map_append];rfl
   generalize l[k] = x at *
   obtain ⟨b,o,rfl,hbl,ao,an,ha1,ha2,c0,c1⟩:=rn_at (hl.out.below hb.out) hk'
   have hsw : Cal.swapR x = ⟨an.toList,ao.toList⟩:=by rw [ha1,ha2];rfl
   rw [hsw] at htk
   have hnx : Hid (Cal.settle ((l.take (k + 1)).map Cal.swapR) = Cal.settle (Cal.settle ((l.take k).map Cal.swapR) ++ [⟨an.toList,ao.toList⟩])):=by show _ = _;rw [htk,Cal.settle_again]
   have hki : (k : Int) < (l.length : Int):=by omega
   have hup:=Cal.settle_up ((l.take k).map Cal.swapR)
   have hsz:=Cal.settle_len ((l.take k).map Cal.swapR)
   rw [List.length_map,List.length_take,Nat.min_eq_left hk] at hsz
   generalize Cal.settle ((l.take k).map Cal.swapR) = acc at *
   have hput:=Lib.hid (fun W (hW : Below wr.heap.size wr W)=>put_any W w.heap.size u3 acc an ao (OwnL.below hO.out hW) hup (by omega) (Nat.le_trans hb.out.size hW.size))
   clear hk' ha1 ha2 hsw hO hup hsz htk
   go_wp2_with fail
   refine wp_region_held_drew (S:=Sx wr [(b,o + k * 2,.string ao),(b,o + k * 2 + 1,.string an)]) (by kernel_rfl) (Sx.mk (by simp only [cs_iff_cons];exact ⟨c0,c1,cs_nil _⟩) (Below.refl _ _)).drew (fun hHeld=>?_)
   clear c0 c1
   (refine wpAnyH_hide (fun _ _ _ _ _ h=>h) (fun Q0 hp0 hQ0=>?_))
   refine tkQx 0 11 hp0 ?_
   refine tkQx 1 12 hp0 ?_
   refine tkQx 2 13 hp0 ?_
   refine tkQx 3 14 hp0 ?_
   refine tkQx 4 15 hp0 ?_
   refine tkQx 5 16 hp0 ?_
   refine tkQx 6 17 hp0 ?_
   refine tkQx 7 18 hp0 ?_
   refine tkQx 8 19 hp0 ?_
   refine tkQx 9 20 hp0 ?_
   refine tkQx 10 21 hp0 ?_
   refine tkQx 11 22 hp0 ?_
   (refine ratHx 12 (fun K hK=>?_);go_simp)
   refine (hput.out _ hHeld.bel).mono ?_
   rintro e0 wn ⟨v9,rfl,hO9,hbn⟩
   go_simp
   refine hK.out _ _ (hHeld.step hbn) (fun hH2=>?_)
   clear hK K hHeld
   have hHeld:=hH2
   clear hH2 hbn
   (try simp only [apS,apN,siA,scZ,scS])
   replace hO9:=Lib.hid hO9
   refine tkQx 13 3 hp0 ?_
   refine wpAnyH_done (by kernel_rfl) ?_ _
   (try simp only [apS,apN,siA,scZ,scS])
   (obtain rfl:=hQ0.out;clear hp0)
   have hbe:=Lib.hid (hb.out.trans (hHeld.bel.mono hb.out.size))
   clear hHeld hput
   go_wp2_with fail
   go_roundw
   case rel=>exact ⟨k + 1,_,by omega,by go_num,rfl,by rw [hnx.out];exact hO9,hbe⟩
   case measure=>simp [intOf];omega
  ·obtain rfl : k = l.length:=by omega
   rw [List.take_length] at hO
   obtain ⟨A9,c9,rfl,hr9⟩:=OwnL.form hO.out
   rw [List.length_map]
   replace hr9:=Lib.hid hr9
   clear hO
   go_wp2_with fail
   go_ret
   exact ⟨_,_,rfl,hr9.out,hb.out⟩
theorem ComposeR_any (A : Option Addr) (c : Nat) (a : List Rn) (B : Option Addr) (d : Nat) (b : List Rn) (w : World) (hA : RowsAt w A 2 (a.map rnR)) (hB : RowsAt w B 2 (b.map rnR)) (hla : a.length ≤ 200) (hlb : b.length ≤ 200) :
  Calls Tryz.prog 25 #[.slice A a.length c,.slice B b.length d] w fun e w'=>∃ A' c',e = .returned (.slice A' (Cal.compR a b).length c') ∧ RowsAt w' A' 2 ((Cal.compR a b).map rnR) ∧ Below w.heap.size w w':=by
 have hb0 : Hid (Below w.heap.size w w):=Below.refl _ _
 have hT : Hid (Cal.compR a b = Cal.settle (Cal.compL a b)):=rfl
 have hO0 : Hid (RnL w w.heap.size (.slice none 0 0) (Cal.settle (Cal.compL (a.take 0) b))):=OwnL.nil _ _ _ _
 replace hA:=Lib.hid hA
 replace hB:=Lib.hid hB
 rw [hT.out]
 clear hT
 go_enter Tryz.func25,Tryz.ntmps25
 go_wp2_with fail
 go_loopw [5,6] (fun ov i wr=>∃ (k : Nat) (v : Value),k ≤ a.length ∧ i = .int .i64 k ∧ ov = v ∧ Hid (RnL wr w.heap.size v (Cal.settle (Cal.compL (a.take k) b))) ∧ Hid (Below w.heap.size w wr)) (fun _ i _=>a.length - (intOf i).toNat)
 case atStart=>exact ⟨0,_,Nat.zero_le _,rfl,rfl,hO0,hb0⟩
 case round =>
  clear hb0 hO0
  obtain ⟨k,v,hk,rfl,rfl,hO,hb⟩:=hrel
  by_cases hlt : k < a.length
  ·have hk' : a[k]? = some a[k]:=List.getElem?_eq_getElem hlt
   have htk : Hid (Cal.compL (a.take (k + 1)) b = Cal.compL (a.take k) b ++ Cal.compIn a[k] b):=by show _ = _;rw [List.take_succ_eq_append_getElem hlt,Cal.compL_append]
   have hcl:=Cal.compL_len b (a.take k)
   rw [List.length_take,Nat.min_eq_left hk] at hcl
   have hcl2:=Nat.mul_le_mul (show k ≤ 200 by omega) hlb
   have hO1 : Hid (RnL wr w.heap.size u5 (Cal.settle (Cal.compL (a.take k) b ++ Cal.compIn a[k] (b.take 0)))):=by
    show RnL _ _ _ _
    rw [List.take_zero,show Cal.compIn a[k] [] = [] from rfl,List.append_nil]
    exact hO.out
   have hki : (k : Int) < (a.length : Int):=by omega
   have hrA:=Lib.hid (fun W (hW : Below w.heap.size w W)=>rn_at (hA.out.below hW) hk')
   generalize Cal.compL (a.take k) b = acc at *
   generalize a[k] = x at *
   clear hk' hO
   go_wp2_with fail
   go_loopw [5,7] (fun ov i wr=>∃ (j : Nat) (v : Value),j ≤ b.length ∧ i = .int .i64 j ∧ ov = v ∧ Hid (RnL wr w.heap.size v (Cal.settle (acc ++ Cal.compIn x (b.take j)))) ∧ Hid (Below w.heap.size w wr)) (fun _ i _=>b.length - (intOf i).toNat)
   case atStart=>exact ⟨0,_,Nat.zero_le _,rfl,rfl,hO1,hb⟩
   case round =>
    clear hO1 hb
    obtain ⟨j,v,hj,rfl,rfl,hO,hb⟩:=hrel
    by_cases hlj : j < b.length
    ·have hj' : b[j]? = some b[j]:=List.getElem?_eq_getElem hlj
     have htj : Cal.compIn x (b.take (j + 1)) = Cal.compIn x (b.take j) ++ (if x.new = b[j].old then [⟨x.old,b[j].new⟩] else []):=by rw [List.take_succ_eq_append_getElem hlj,Cal.compIn_append]
     have hil:=Cal.compIn_len x (b.take j)
     rw [List.length_take,Nat.min_eq_left hj] at hil
     generalize b[j] = y at *
     obtain ⟨b1,o1,rfl,_,ao,an,ha1,ha2,c0,c1⟩:=hrA.out _ hb.out
     obtain ⟨b2,o2,rfl,_,bo,bn,hb1,hb2,d0,d1⟩:=rn_at (hB.out.below hb.out) hj'
     have hji : (j : Int) < (b.length : Int):=by omega
     have hup:=Cal.settle_up (acc ++ Cal.compIn x (b.take j))
     have hsz:=Cal.settle_len (acc ++ Cal.compIn x (b.take j))
     rw [List.length_append] at hsz
     have hput:=Lib.hid (fun W (hW : Below w.heap.size w W) (hOW : RnL W w.heap.size u5 (Cal.settle (acc ++ Cal.compIn x (b.take j))))=>put_any W w.heap.size u5 (Cal.settle (acc ++ Cal.compIn x (b.take j))) ao bn hOW hup (by omega) hW.size)
     have hne : (an.toList == bo.toList) = false → ¬ x.new = y.old:=fun he=>by
      rw [ha2,hb1] at he
      simpa using he
     have heq : (an.toList == bo.toList) = true → x.new = y.old:=fun he=>by
      rw [ha2,hb1] at he
      exact eq_of_beq he
     have hxy : (⟨x.old,y.new⟩ : Rn) = ⟨ao.toList,bn.toList⟩:=by rw [ha1,hb2]
     rw [hxy] at htj
     replace htj:=Lib.hid htj
     replace hne:=Lib.hid hne
     replace heq:=Lib.hid heq
     clear hj' ha1 ha2 hb1 hb2 hxy hup hsz
     go_wp2_with fail
     refine wp_region_held_drew (S:=Sx wr [(b1,o1 + k * 2,.string ao),(b1,o1 + k * 2 + 1,.string an),(b2,o2 + j * 2,.string bo),(b2,o2 + j * 2 + 1,.string bn)]) (by kernel_rfl) (Sx.mk (by simp only [cs_iff_cons];exact ⟨c0,c1,d0,d1,cs_nil _⟩) (Below.refl _ _)).drew (fun hHeld=>?_)
     clear c0 c1 d0 d1
     (refine wpAnyH_hide (fun _ _ _ _ _ h=>h) (fun Q0 hp0 hQ0=>?_))
     refine tkQx 0 20 hp0 ?_
     refine tkQx 1 21 hp0 ?_
     refine tkQx 2 22 hp0 ?_
     refine tkQx 3 23 hp0 ?_
     refine tkQx 4 24 hp0 ?_
     refine tkQx 5 25 hp0 ?_
     refine tkQx 6 26 hp0 ?_
     refine tkQx 7 27 hp0 ?_
     refine tkQx 8 28 hp0 ?_
     refine tkQx 9 29 hp0 ?_
     refine tkQx 10 30 hp0 ?_
     refine wpAnyH_done (by kernel_rfl) ?_ _
     (try simp only [apS,apN,siA,scZ,scS])
     (obtain rfl:=hQ0.out;clear hp0)
     have hbe:=Lib.hid (hb.out.trans (hHeld.bel.mono hb.out.size))
     have hOe:=Lib.hid (show RnL _ _ _ _ from OwnL.below hO.out hHeld.bel)
     have hcs:=Lib.hid hHeld.cs
     clear hHeld hb hO
     generalize wr.drew = wn at *
     cases hc : (an.toList == bo.toList)
     ·have hn:=hne.out hc
      have htn:=htj.out
      rw [if_neg hn,List.append_nil] at htn
      replace htn:=Lib.hid htn
      clear hn hne heq htj hput hcs
      go_wp2_with fail
      go_roundw
      case rel=>exact ⟨j + 1,_,by omega,by go_num,rfl,by rw [htn.out];exact hOe,hbe⟩
      case measure=>simp [intOf];omega
     ·have hn:=heq.out hc
      have htn:=htj.out
      rw [if_pos hn] at htn
      have hnx : Hid (Cal.settle (acc ++ Cal.compIn x (b.take (j + 1))) = Cal.settle (Cal.settle (acc ++ Cal.compIn x (b.take j)) ++ [⟨ao.toList,bn.toList⟩])):=by show _ = _;rw [htn,← List.append_assoc,Cal.settle_again]
      clear hn hne heq htj htn
      generalize Cal.settle (acc ++ Cal.compIn x (b.take j)) = zs at *
      go_wp2_with fail
      refine wp_region_held_drew (S:=Sx wn [(b1,o1 + k * 2,.string ao),(b1,o1 + k * 2 + 1,.string an),(b2,o2 + j * 2,.string bo),(b2,o2 + j * 2 + 1,.string bn)]) (by kernel_rfl) (Sx.mk hcs.out (Below.refl _ _)).drew (fun hHeld=>?_)
      clear hcs
      (refine wpAnyH_hide (fun _ _ _ _ _ h=>h) (fun Q0 hp0 hQ0=>?_))
      refine tkQx 0 31 hp0 ?_
      refine tkQx 1 32 hp0 ?_
      refine tkQx 2 33 hp0 ?_
      refine tkQx 3 34 hp0 ?_
      refine tkQx 4 35 hp0 ?_
      refine tkQx 5 36 hp0 ?_
      refine tkQx 6 37 hp0 ?_
      refine tkQx 7 38 hp0 ?_
      refine tkQx 8 39 hp0 ?_
      refine tkQx 9 40 hp0 ?_
      refine tkQx 10 41 hp0 ?_
      refine tkQx 11 42 hp0 ?_
      (refine ratHx 12 (fun K hK=>?_);go_simp)
      refine (hput.out _ (hbe.out.trans (hHeld.bel.mono hbe.out.size)) (OwnL.below hOe.out hHeld.bel)).mono ?_
      rintro e0 wn ⟨v9,rfl,hO9,hbn⟩
      go_simp
      refine hK.out _ _ (hHeld.step hbn) (fun hH2=>?_)
      clear hK K hHeld
      have hHeld:=hH2
      clear hH2 hbn
      (try simp only [apS,apN,siA,scZ,scS])
      replace hO9:=Lib.hid hO9
      refine tkQx 13 5 hp0 ?_
      refine wpAnyH_done (by kernel_rfl) ?_ _
      (try simp only [apS,apN,siA,scZ,scS])
      (obtain rfl:=hQ0.out;clear hp0)
      have hbf:=Lib.hid (hbe.out.trans (hHeld.bel.mono hbe.out.size))
      clear hHeld hput hbe hOe
      go_wp2_with fail
      go_roundw
      case rel=>exact ⟨j + 1,_,by omega,by go_num,rfl,by rw [hnx.out];exact hO9,hbf⟩
      case measure=>simp [intOf];omega
    ·obtain rfl : j = b.length:=by omega
     rw [List.take_length] at hO
     clear hrA
     go_wp2_with fail
     go_roundw
     case rel=>exact ⟨k + 1,_,by omega,by go_num,rfl,by rw [htk.out];exact hO,hb⟩
     case measure=>simp [intOf];omega
  ·obtain rfl : k = a.length:=by omega
   rw [List.take_length] at hO
   obtain ⟨A9,c9,rfl,hr9⟩:=OwnL.form hO.out
   rw [List.length_map]
   replace hr9:=Lib.hid hr9
   clear hO
   go_wp2_with fail
   go_ret
   exact ⟨_,_,rfl,hr9.out,hb.out⟩
theorem SameNumbersR_any (V : Option Addr) (d : Nat) (V2 : Option Addr) (d2 : Nat) (l : List Rn) (w : World) (hA : RowsAt w V 2 (l.map rnR)) (hB : RowsAt w V2 2 (l.map rnR)) (hl : l.length ≤ 1000000) :
  Calls Tryz.prog 23 #[.slice V l.length d,.slice V2 l.length d2] w fun e w'=>e = .returned (.bool true) ∧ Below w.heap.size w w':=by
 have hb0 : Hid (Below w.heap.size w w):=Below.refl _ _
 replace hA:=Lib.hid hA
 replace hB:=Lib.hid hB
 go_enter Tryz.func23,Tryz.ntmps23
 go_wp2_with fail
 go_loopw [5] (fun kv wr=>∃ k : Nat,k ≤ l.length ∧ kv = .int .i64 k ∧ Hid (Below w.heap.size w wr)) (fun kv _=>l.length - (intOf kv).toNat)
 case atStart=>exact ⟨0,Nat.zero_le _,rfl,hb0⟩
 case round =>
  clear hb0
  obtain ⟨k,hk,rfl,hb⟩:=hrel
  by_cases hlt : k < l.length
  ·have hk' : l[k]? = some l[k]:=List.getElem?_eq_getElem hlt
   obtain ⟨b1,o1,rfl,_,ao,an,ha1,ha2,c0,c1⟩:=rn_at (hA.out.below hb.out) hk'
   obtain ⟨b2,o2,rfl,_,bo,bn,hb1,hb2,d0,d1⟩:=rn_at (hB.out.below hb.out) hk'
   have hki : (k : Int) < (l.length : Int):=by omega
   have heq:=fun W=>rb_neq ⟨ao,an⟩ ⟨bo,bn⟩ W
   have hv : rbB ⟨ao,an⟩ ⟨bo,bn⟩ = true:=rbB_iff.2 (rb_ext (by unfold RB.txt;rw [ha1,ha2,hb1,hb2]))
   rw [hv] at heq
   dsimp only at heq
   clear hv ha1 ha2 hb1 hb2 hk'
   go_wp2_with fail
   refine wp_region_held_drew (S:=Sx wr [(b1,o1 + k * 2,.string ao),(b1,o1 + k * 2 + 1,.string an),(b2,o2 + k * 2,.string bo),(b2,o2 + k * 2 + 1,.string bn)]) (by kernel_rfl) (Sx.mk (by simp only [cs_iff_cons];exact ⟨c0,c1,d0,d1,cs_nil _⟩) (Below.refl _ _)).drew (fun hHeld=>?_)
   clear c0 c1 d0 d1
   (refine wpAnyH_hide (fun _ _ _ _ _ h=>h) (fun Q0 hp0 hQ0=>?_))
   refine tkQx 0 17 hp0 ?_
   refine tkQx 1 18 hp0 ?_
   refine tkQx 2 19 hp0 ?_
   refine tkQx 3 20 hp0 ?_
   refine tkQx 4 21 hp0 ?_
   refine tkQx 5 22 hp0 ?_
   refine tkQx 6 23 hp0 ?_
   refine tkQx 7 24 hp0 ?_
   refine tkQx 8 25 hp0 ?_
   refine wpAnyH_done (by kernel_rfl) ?_ _
   (try simp only [apS,apN,siA,scZ,scS])
   (obtain rfl:=hQ0.out;clear hp0)
   have hbe:=Lib.hid (hb.out.trans (hHeld.bel.mono hb.out.size))
   clear hHeld heq
   go_wp2_with fail
   go_roundw
   case rel=>exact ⟨k + 1,by omega,by go_num,hbe⟩
   case measure=>simp [intOf];omega
  ·go_wp2_with fail
   go_ret
   exact ⟨rfl,hb.out⟩
end Go.Proofs.YthfokpchdlcidaaGreat
namespace Go.Proofs.YthfokpchdlcidaaGreat
open Go Go.RowKit Go.Sort
def namL (l : List Rn) : Bool:=(decide (l.length ≤ 20) || decide (200 < l.length)) && decide (l.length ≤ 210) && l.all fun x=>decide (x.old.length ≤ 30) && decide (x.new.length ≤ 30)
theorem all_take1 {α : Type} {p : α → Bool} {l : List α} {k : Nat} (h : k < l.length) : (l.take (k + 1)).all p = ((l.take k).all p && p l[k]):=by
 rw [List.take_succ_eq_append_getElem h,List.all_append];simp
theorem all_at_false {α : Type} {p : α → Bool} {l : List α} {k : Nat} (h : k < l.length) (hp : p l[k] = false) : l.all p = false:=by
 cases ha : l.all p
 ·rfl
 ·have:=List.all_eq_true.1 ha _ (List.getElem_mem h)
  rw [hp] at this;cases this
theorem lawNames_any (A : Option Addr) (c : Nat) (l : List Rn) (w : World) (hR : RowsAt w A 2 (l.map rnR)) : Calls Tryz.prog 18 #[.slice A l.length c] w fun e w'=>e = .returned (.bool (namL l)) ∧ Below w.heap.size w w':=by
 have hb0 : Hid (Below w.heap.size w w):=Below.refl _ _
 replace hR:=Lib.hid hR
 by_cases h1 : 20 < l.length
 ·by_cases h2 : l.length ≤ 200
  ·have hfin : namL l = false:=by unfold namL;rw [decide_eq_false (by omega),decide_eq_false (show ¬ 200 < l.length by omega)];rfl
   have p1 : 20 < (l.length : Int):=by omega
   have p2 : (l.length : Int) ≤ 200:=by omega
   rw [hfin]
   clear hfin hR
   go_enter Tryz.func18,Tryz.ntmps18
   go_wp2_with fail
   go_ret
   exact ⟨rfl,hb0.out⟩
  ·by_cases h3 : 210 < l.length
   ·have hfin : namL l = false:=by unfold namL;rw [decide_eq_false (show ¬ l.length ≤ 210 by omega),Bool.and_false];rfl
    have p1 : 20 < (l.length : Int):=by omega
    have p2 : ¬ (l.length : Int) ≤ 200:=by omega
    have p3 : 210 < (l.length : Int):=by omega
    rw [hfin]
    clear hfin hR
    go_enter Tryz.func18,Tryz.ntmps18
    go_wp2_with fail
    go_ret
    exact ⟨rfl,hb0.out⟩
   ·have hfin : Hid (namL l = l.all fun x=>decide (x.old.length ≤ 30) && decide (x.new.length ≤ 30)):=by show _ = _;unfold namL;rw [decide_eq_true (show 200 < l.length by omega),decide_eq_true (show l.length ≤ 210 by omega),Bool.or_true,Bool.true_and,Bool.true_and]
    have p1 : 20 < (l.length : Int):=by omega
    have p2 : ¬ (l.length : Int) ≤ 200:=by omega
    have p3 : ¬ 210 < (l.length : Int):=by omega
    have hs : l.length ≤ 210:=by omega
    clear h1 h2 h3
    go_enter Tryz.func18,Tryz.ntmps18
    go_wp2_with fail
    go_loopw [3] (fun i wr=>∃ k : Nat,k ≤ l.length ∧ i = .int .i64 k ∧ Hid (((l.take k).all fun x=>decide (x.old.length ≤ 30) && decide (x.new.length ≤ 30)) = true) ∧ Hid (Below w.heap.size w wr)) (fun i _=>l.length - (intOf i).toNat)
    case atStart=>exact ⟨0,Nat.zero_le _,rfl,rfl,hb0⟩
    case round =>
     clear hb0
     obtain ⟨k,hk,rfl,hall,hb⟩:=hrel
     by_cases hlt : k < l.length
     ·have hk' : l[k]? = some l[k]:=List.getElem?_eq_getElem hlt
      have htk:=all_take1 (p:=fun x : Rn=>decide (x.old.length ≤ 30) && decide (x.new.length ≤ 30)) hlt
      have haf:=Lib.hid (fun h=>all_at_false (p:=fun x : Rn=>decide (x.old.length ≤ 30) && decide (x.new.length ≤ 30)) hlt h)
      obtain ⟨b,o,rfl,_,ao,an,ha1,ha2,c0,c1⟩:=rn_at (hR.out.below hb.out) hk'
      have z1:=size_len ha1
      have z2:=size_len ha2
      rw [hall.out,Bool.true_and] at htk
      rw [← z1,← z2] at htk haf
      have hki : (k : Int) < (l.length : Int):=by omega
      replace htk:=Lib.hid htk
      clear hk' ha1 ha2 z1 z2
      by_cases q1 : 30 < ao.size
      ·have hno : Hid (namL l = false):=by show _ = _;rw [hfin.out];exact haf.out (by rw [decide_eq_false (by omega)];rfl)
       have q2 : 30 < (ao.size : Int):=by omega
       clear haf htk
       go_wp2_with fail
       go_ret
       exact ⟨by rw [hno.out];rfl,hb.out⟩
      ·have q2 : ¬ 30 < (ao.size : Int):=by omega
       by_cases q3 : 30 < an.size
       ·have hno : Hid (namL l = false):=by show _ = _;rw [hfin.out];exact haf.out (by rw [decide_eq_false (show ¬ an.size ≤ 30 by omega),Bool.and_false])
        have q4 : 30 < (an.size : Int):=by omega
        clear haf htk
        go_wp2_with fail
        go_ret
        exact ⟨by rw [hno.out];rfl,hb.out⟩
       ·have hnx : Hid (((l.take (k + 1)).all fun x=>decide (x.old.length ≤ 30) && decide (x.new.length ≤ 30)) = true):=by show _ = _;rw [htk.out,decide_eq_true (show ao.size ≤ 30 by omega),decide_eq_true (show an.size ≤ 30 by omega)];rfl
        have q4 : ¬ 30 < (an.size : Int):=by omega
        clear haf htk
        go_wp2_with fail
        go_roundw
        case rel=>exact ⟨k + 1,by omega,by go_num,hnx,hb⟩
        case measure=>simp [intOf];omega
     ·have hyes : Hid (namL l = true):=by
       show _ = _
       have h:=hall.out
       rw [List.take_of_length_le (by omega)] at h
       rw [hfin.out];exact h
      have hge : l.length = k:=by omega
      go_wp2_with fail
      go_ret
      exact ⟨by rw [hyes.out];rfl,hb.out⟩
 ·have hfin : Hid (namL l = l.all fun x=>decide (x.old.length ≤ 30) && decide (x.new.length ≤ 30)):=by show _ = _;unfold namL;rw [decide_eq_true (show l.length ≤ 20 by omega),decide_eq_true (show l.length ≤ 210 by omega),Bool.true_or,Bool.true_and,Bool.true_and]
  have p1 : ¬ 20 < (l.length : Int):=by omega
  have p3 : ¬ 210 < (l.length : Int):=by omega
  have hs : l.length ≤ 210:=by omega
  clear h1
  go_enter Tryz.func18,Tryz.ntmps18
  go_wp2_with fail
  go_loopw [3] (fun i wr=>∃ k : Nat,k ≤ l.length ∧ i = .int .i64 k ∧ Hid (((l.take k).all fun x=>decide (x.old.length ≤ 30) && decide (x.new.length ≤ 30)) = true) ∧ Hid (Below w.heap.size w wr)) (fun i _=>l.length - (intOf i).toNat)
  case atStart=>exact ⟨0,Nat.zero_le _,rfl,rfl,hb0⟩
  case round =>
   clear hb0
   obtain ⟨k,hk,rfl,hall,hb⟩:=hrel
   by_cases hlt : k < l.length
   ·have hk' : l[k]? = some l[k]:=List.getElem?_eq_getElem hlt
    have htk:=all_take1 (p:=fun x : Rn=>decide (x.old.length ≤ 30) && decide (x.new.length ≤ 30)) hlt
    have haf:=Lib.hid (fun h=>all_at_false (p:=fun x : Rn=>decide (x.old.length ≤ 30) && decide (x.new.length ≤ 30)) hlt h)
    obtain ⟨b,o,rfl,_,ao,an,ha1,ha2,c0,c1⟩:=rn_at (hR.out.below hb.out) hk'
    have z1:=size_len ha1
    have z2:=size_len ha2
    rw [hall.out,Bool.true_and] at htk
    rw [← z1,← z2] at htk haf
    have hki : (k : Int) < (l.length : Int):=by omega
    replace htk:=Lib.hid htk
    clear hk' ha1 ha2 z1 z2
    by_cases q1 : 30 < ao.size
    ·have hno : Hid (namL l = false):=by show _ = _;rw [hfin.out];exact haf.out (by rw [decide_eq_false (by omega)];rfl)
     have q2 : 30 < (ao.size : Int):=by omega
     clear haf htk
     go_wp2_with fail
     go_ret
     exact ⟨by rw [hno.out];rfl,hb.out⟩
    ·have q2 : ¬ 30 < (ao.size : Int):=by omega
     by_cases q3 : 30 < an.size
     ·have hno : Hid (namL l = false):=by show _ = _;rw [hfin.out];exact haf.out (by rw [decide_eq_false (show ¬ an.size ≤ 30 by omega),Bool.and_false])
      have q4 : 30 < (an.size : Int):=by omega
      clear haf htk
      go_wp2_with fail
      go_ret
      exact ⟨by rw [hno.out];rfl,hb.out⟩
     ·have hnx : Hid (((l.take (k + 1)).all fun x=>decide (x.old.length ≤ 30) && decide (x.new.length ≤ 30)) = true):=by show _ = _;rw [htk.out,decide_eq_true (show ao.size ≤ 30 by omega),decide_eq_true (show an.size ≤ 30 by omega)];rfl
      have q4 : ¬ 30 < (an.size : Int):=by omega
      clear haf htk
      go_wp2_with fail
      go_roundw
      case rel=>exact ⟨k + 1,by omega,by go_num,hnx,hb⟩
      case measure=>simp [intOf];omega
   ·have hyes : Hid (namL l = true):=by
     show _ = _
     have h:=hall.out
     rw [List.take_of_length_le (by omega)] at h
     rw [hfin.out];exact h
    have hge : l.length = k:=by omega
    go_wp2_with fail
    go_ret
    exact ⟨by rw [hyes.out];rfl,hb.out⟩
end Go.Proofs.YthfokpchdlcidaaGreat
namespace Go.Proofs.YthfokpchdlcidaaGreat
open Go Go.RowKit Go.Sort
structure KpR (w W : World) (L : List (Option Addr × List Rn)) : Prop where
 bel : Below w.heap.size w W
 rows : ∀ A l,(A,l) ∈ L → RowsAt W A 2 (l.map rnR)
theorem KpR.below {w W W' : World} {L : List (Option Addr × List Rn)} (h : KpR w W L) (hb : Below W.heap.size W W') : KpR w W' L:=⟨below_step h.bel hb,fun A l hm=>(h.rows A l hm).below hb⟩
theorem KpR.add {w W : World} {L : List (Option Addr × List Rn)} (h : KpR w W L) {A : Option Addr} {l : List Rn} (hr : RowsAt W A 2 (l.map rnR)) : KpR w W ((A,l) :: L):=⟨h.bel,fun A' l' hm=>by
 rcases List.mem_cons.1 hm with e | hm
 ·cases e;exact hr
 ·exact h.rows A' l' hm⟩
abbrev NamTo (l : List Rn) (v : Bool) : Prop:=∀ A c W,RowsAt W A 2 (l.map rnR) → Calls Tryz.prog 18 #[.slice A l.length c] W fun e w'=>e = .returned (.bool v) ∧ Below W.heap.size W w'
abbrev ChkTo (l : List Rn) (E : Int) : Prop:=∀ A c W,RowsAt W A 2 (l.map rnR) → Calls Tryz.prog 22 #[.slice A l.length c] W fun e w'=>e = .returned (.int .i64 E) ∧ Below W.heap.size W w'
abbrev RchTo (l : List Rn) (E : Int) : Prop:=∀ A c W,RowsAt W A 2 (l.map rnR) → Calls Tryz.prog 19 #[.slice A l.length c] W fun e w'=>e = .returned (.int .i64 E) ∧ Below W.heap.size W w'
abbrev TrnTo (l r : List Rn) (E : Int) : Prop:=∀ A c W,RowsAt W A 2 (l.map rnR) → Calls Tryz.prog 20 #[.slice A l.length c] W fun e w'=>∃ A' c',e = .returned (.tuple #[.slice A' r.length c',.int .i64 E]) ∧ RowsAt w' A' 2 (r.map rnR) ∧ Below W.heap.size W w'
abbrev CmpTo (a b r : List Rn) (E : Int) : Prop:=∀ A c B d W,RowsAt W A 2 (a.map rnR) → RowsAt W B 2 (b.map rnR) → Calls Tryz.prog 21 #[.slice A a.length c,.slice B b.length d] W fun e w'=>∃ A' c',e = .returned (.tuple #[.slice A' r.length c',.int .i64 E]) ∧ RowsAt w' A' 2 (r.map rnR) ∧ Below W.heap.size W w'
abbrev RtnTo (l r : List Rn) : Prop:=∀ A c W,RowsAt W A 2 (l.map rnR) → Calls Tryz.prog 24 #[.slice A l.length c] W fun e w'=>∃ A' c',e = .returned (.slice A' r.length c') ∧ RowsAt w' A' 2 (r.map rnR) ∧ Below W.heap.size W w'
abbrev RcmTo (a b r : List Rn) : Prop:=∀ A c B d W,RowsAt W A 2 (a.map rnR) → RowsAt W B 2 (b.map rnR) → Calls Tryz.prog 25 #[.slice A a.length c,.slice B b.length d] W fun e w'=>∃ A' c',e = .returned (.slice A' r.length c') ∧ RowsAt w' A' 2 (r.map rnR) ∧ Below W.heap.size W w'
abbrev SamTo (l : List Rn) : Prop:=∀ V d V2 d2 W,RowsAt W V 2 (l.map rnR) → RowsAt W V2 2 (l.map rnR) → Calls Tryz.prog 23 #[.slice V l.length d,.slice V2 l.length d2] W fun e w'=>e = .returned (.bool true) ∧ Below W.heap.size W w'
def LenR (l : List Rn) : Prop:=l.length ≤ 100000 ∧ ∀ x ∈ l,x.old.length ≤ maxLen ∧ x.new.length ≤ maxLen
theorem LenR.rns {l : List Rn} (h : LenR l) {W : World} {A : Option Addr} (hr : RowsAt W A 2 (l.map rnR)) : Rns W A l:=⟨hr,by have:=h.1;omega,h.2⟩
theorem LenR.turn {l : List Rn} (h : LenR l) : LenR (Cal.turnR l):=⟨Nat.le_trans (Cal.turnR_len l) h.1,fun x hx=>by
 have:=h.2 _ (Cal.turnR_mem.1 hx)
 exact ⟨this.2,this.1⟩⟩
theorem LenR.comp {a b : List Rn} (ha : LenR a) (hb : LenR b) (h : (Cal.compR a b).length ≤ 200) : LenR (Cal.compR a b):=⟨by omega,fun x hx=>by
 rw [show Cal.compR a b = Cal.settle (Cal.compL a b) from rfl,Cal.settle_mem,Cal.compL_mem] at hx
 obtain ⟨m,h1,h2⟩:=hx
 exact ⟨(ha.2 _ h1).1,(hb.2 _ h2).2⟩⟩
theorem trn_to {l : List Rn} (h : LenR l) : TrnTo l (Cal.turnN l) (Cal.numE l):=fun A c W hr=>Turn_any A c l W (h.rns hr)
theorem cmp_to {a b : List Rn} (ha : LenR a) (hb : LenR b) : CmpTo a b (Cal.compN a b) (Cal.compE a b):=fun A c B d W h1 h2=>Compose_any A c a B d b W (ha.rns h1) (hb.rns h2)
theorem trn_good {l : List Rn} (h : LenR l) (h0 : Cal.numE l = 0) : TrnTo l (Cal.turnR l) 0:=by
 have:=trn_to h
 rw [h0] at this
 unfold Cal.turnN at this
 rw [if_pos h0] at this
 exact this
theorem cmp_good {a b : List Rn} (ha : LenR a) (hb : LenR b) (h0 : Cal.numE a = 0) (h1 : Cal.numE b = 0) (h : (Cal.compR a b).length ≤ 200) : CmpTo a b (Cal.compR a b) 0:=by
 have:=cmp_to ha hb
 have hE : Cal.compE a b = 0:=by unfold Cal.compE;rw [if_pos h0,if_pos h1,if_neg (by omega)]
 rw [hE] at this
 unfold Cal.compN at this
 rw [if_pos hE] at this
 exact this
theorem sam_to (l : List Rn) (h : l.length ≤ 1000000) : SamTo l:=fun V d V2 d2 W h1 h2=>SameNumbersR_any V d V2 d2 l W h1 h2 h
theorem GroundNumbers_any (A : Option Addr) (c : Nat) (a : List Rn) (B : Option Addr) (d : Nat) (b : List Rn) (w : World) (hA : RowsAt w A 2 (a.map rnR)) (hv : ∀ p ∈ a,p.old.length ≤ maxLen ∧ p.new.length ≤ maxLen) (hB : RowsAt w B 2 (b.map rnR)) (hu : ∀ p ∈ b,p.old.length ≤ maxLen ∧ p.new.length ≤ maxLen) :
  Calls Tryz.prog 4 #[.slice A a.length c,.slice B b.length d] w fun e w'=>e = .returned (.bool true) ∧ Below w.heap.size w w':=by
 have hK : Hid (KpR w w [(A,a),(B,b)]):=⟨Below.refl _ _,fun A' l' hm=>by
  simp only [List.mem_cons,List.not_mem_nil,or_false,Prod.mk.injEq] at hm
  rcases hm with ⟨rfl,rfl⟩ | ⟨rfl,rfl⟩
  ·exact hA
  ·exact hB⟩
 clear hA hB
 have hna : Hid (NamTo a (namL a)):=fun A' c' W hr=>lawNames_any A' c' a W hr
 have hnb : Hid (NamTo b (namL b)):=fun A' c' W hr=>lawNames_any A' c' b W hr
 cases hx : namL a
 ·rw [hx] at hna
  clear hx hv hu
  go_enter Tryz.func4,Tryz.ntmps4
  go_wp2_with (first
   |(go_at_call 7;refine (lawAwake_any _).mono ?_;rintro e w1 ⟨rfl,hbn⟩;(replace hK:=Lib.hid (hK.out.below hbn);clear hbn))
   |(go_at_call 18;(first | with_reducible refine (hna.out _ _ _ ?_).mono ?_ | with_reducible refine (hnb.out _ _ _ ?_).mono ?_);(exact hK.out.rows _ _ (by simp));rintro e w1 ⟨rfl,hbn⟩;(replace hK:=Lib.hid (hK.out.below hbn);clear hbn))
   |(go_at_call 19;(first | with_reducible refine (hra.out _ _ _ ?_).mono ?_ | with_reducible refine (hrb.out _ _ _ ?_).mono ?_);(exact hK.out.rows _ _ (by simp));rintro e w1 ⟨rfl,hbn⟩;(replace hK:=Lib.hid (hK.out.below hbn);clear hbn))
   |(go_at_call 22;with_reducible refine (hca.out _ _ _ ?_).mono ?_;(exact hK.out.rows _ _ (by simp));rintro e w1 ⟨rfl,hbn⟩;(replace hK:=Lib.hid (hK.out.below hbn);clear hbn))
   |(go_at_call 20;first
    |(with_reducible refine (hta.out _ _ _ ?_).mono ?_;(exact hK.out.rows _ _ (by simp));rintro e w1 ⟨A1,c1,rfl,hr,hbn⟩;(replace hK:=Lib.hid ((hK.out.below hbn).add hr);clear hbn hr))
    |(with_reducible refine (htt.out _ _ _ ?_).mono ?_;(exact hK.out.rows _ _ (by simp));rintro e w1 ⟨A3,c3,rfl,hr,hbn⟩;(replace hK:=Lib.hid ((hK.out.below hbn).add hr);clear hbn hr))
    |(with_reducible refine (htb.out _ _ _ ?_).mono ?_;(exact hK.out.rows _ _ (by simp));rintro e w1 ⟨A6,c6,rfl,hr,hbn⟩;(replace hK:=Lib.hid ((hK.out.below hbn).add hr);clear hbn hr))
    |(with_reducible refine (htc.out _ _ _ ?_).mono ?_;(exact hK.out.rows _ _ (by simp));rintro e w1 ⟨A8,c8,rfl,hr,hbn⟩;(replace hK:=Lib.hid ((hK.out.below hbn).add hr);clear hbn hr)))
   |(go_at_call 21;first
    |(with_reducible refine (hcm.out _ _ _ _ _ ?_ ?_).mono ?_;(exact hK.out.rows _ _ (by simp));(exact hK.out.rows _ _ (by simp));rintro e w1 ⟨A2,c2,rfl,hr,hbn⟩;(replace hK:=Lib.hid ((hK.out.below hbn).add hr);clear hbn hr))
    |(with_reducible refine (hcx.out _ _ _ _ _ ?_ ?_).mono ?_;(exact hK.out.rows _ _ (by simp));(exact hK.out.rows _ _ (by simp));rintro e w1 ⟨A7,c7,rfl,hr,hbn⟩;(replace hK:=Lib.hid ((hK.out.below hbn).add hr);clear hbn hr)))
   |(go_at_call 24;with_reducible refine (hrt.out _ _ _ ?_).mono ?_;(exact hK.out.rows _ _ (by simp));rintro e w1 ⟨A4,c4,rfl,hr,hbn⟩;(replace hK:=Lib.hid ((hK.out.below hbn).add hr);clear hbn hr))
   |(go_at_call 25;with_reducible refine (hrc.out _ _ _ _ _ ?_ ?_).mono ?_;(exact hK.out.rows _ _ (by simp));(exact hK.out.rows _ _ (by simp));rintro e w1 ⟨A5,c5,rfl,hr,hbn⟩;(replace hK:=Lib.hid ((hK.out.below hbn).add hr);clear hbn hr))
   |(go_at_call 23;(first | with_reducible refine (hst.out _ _ _ _ _ ?_ ?_).mono ?_ | with_reducible refine (hsa.out _ _ _ _ _ ?_ ?_).mono ?_ | with_reducible refine (hsc.out _ _ _ _ _ ?_ ?_).mono ?_ | with_reducible refine (hsx.out _ _ _ _ _ ?_ ?_).mono ?_);(exact hK.out.rows _ _ (by simp));(exact hK.out.rows _ _ (by simp));rintro e w1 ⟨rfl,hbn⟩;(replace hK:=Lib.hid (hK.out.below hbn);clear hbn)))
  go_ret
  exact ⟨by first | rfl | simp,hK.out.bel⟩
 cases hy : namL b
 ·rw [hx] at hna
  rw [hy] at hnb
  clear hx hy hv hu
  go_enter Tryz.func4,Tryz.ntmps4
  go_wp2_with (first
   |(go_at_call 7;refine (lawAwake_any _).mono ?_;rintro e w1 ⟨rfl,hbn⟩;(replace hK:=Lib.hid (hK.out.below hbn);clear hbn))
   |(go_at_call 18;(first | with_reducible refine (hna.out _ _ _ ?_).mono ?_ | with_reducible refine (hnb.out _ _ _ ?_).mono ?_);(exact hK.out.rows _ _ (by simp));rintro e w1 ⟨rfl,hbn⟩;(replace hK:=Lib.hid (hK.out.below hbn);clear hbn))
   |(go_at_call 19;(first | with_reducible refine (hra.out _ _ _ ?_).mono ?_ | with_reducible refine (hrb.out _ _ _ ?_).mono ?_);(exact hK.out.rows _ _ (by simp));rintro e w1 ⟨rfl,hbn⟩;(replace hK:=Lib.hid (hK.out.below hbn);clear hbn))
   |(go_at_call 22;with_reducible refine (hca.out _ _ _ ?_).mono ?_;(exact hK.out.rows _ _ (by simp));rintro e w1 ⟨rfl,hbn⟩;(replace hK:=Lib.hid (hK.out.below hbn);clear hbn))
   |(go_at_call 20;first
    |(with_reducible refine (hta.out _ _ _ ?_).mono ?_;(exact hK.out.rows _ _ (by simp));rintro e w1 ⟨A1,c1,rfl,hr,hbn⟩;(replace hK:=Lib.hid ((hK.out.below hbn).add hr);clear hbn hr))
    |(with_reducible refine (htt.out _ _ _ ?_).mono ?_;(exact hK.out.rows _ _ (by simp));rintro e w1 ⟨A3,c3,rfl,hr,hbn⟩;(replace hK:=Lib.hid ((hK.out.below hbn).add hr);clear hbn hr))
    |(with_reducible refine (htb.out _ _ _ ?_).mono ?_;(exact hK.out.rows _ _ (by simp));rintro e w1 ⟨A6,c6,rfl,hr,hbn⟩;(replace hK:=Lib.hid ((hK.out.below hbn).add hr);clear hbn hr))
    |(with_reducible refine (htc.out _ _ _ ?_).mono ?_;(exact hK.out.rows _ _ (by simp));rintro e w1 ⟨A8,c8,rfl,hr,hbn⟩;(replace hK:=Lib.hid ((hK.out.below hbn).add hr);clear hbn hr)))
   |(go_at_call 21;first
    |(with_reducible refine (hcm.out _ _ _ _ _ ?_ ?_).mono ?_;(exact hK.out.rows _ _ (by simp));(exact hK.out.rows _ _ (by simp));rintro e w1 ⟨A2,c2,rfl,hr,hbn⟩;(replace hK:=Lib.hid ((hK.out.below hbn).add hr);clear hbn hr))
    |(with_reducible refine (hcx.out _ _ _ _ _ ?_ ?_).mono ?_;(exact hK.out.rows _ _ (by simp));(exact hK.out.rows _ _ (by simp));rintro e w1 ⟨A7,c7,rfl,hr,hbn⟩;(replace hK:=Lib.hid ((hK.out.below hbn).add hr);clear hbn hr)))
   |(go_at_call 24;with_reducible refine (hrt.out _ _ _ ?_).mono ?_;(exact hK.out.rows _ _ (by simp));rintro e w1 ⟨A4,c4,rfl,hr,hbn⟩;(replace hK:=Lib.hid ((hK.out.below hbn).add hr);clear hbn hr))
   |(go_at_call 25;with_reducible refine (hrc.out _ _ _ _ _ ?_ ?_).mono ?_;(exact hK.out.rows _ _ (by simp));(exact hK.out.rows _ _ (by simp));rintro e w1 ⟨A5,c5,rfl,hr,hbn⟩;(replace hK:=Lib.hid ((hK.out.below hbn).add hr);clear hbn hr))
   |(go_at_call 23;(first | with_reducible refine (hst.out _ _ _ _ _ ?_ ?_).mono ?_ | with_reducible refine (hsa.out _ _ _ _ _ ?_ ?_).mono ?_ | with_reducible refine (hsc.out _ _ _ _ _ ?_ ?_).mono ?_ | with_reducible refine (hsx.out _ _ _ _ _ ?_ ?_).mono ?_);(exact hK.out.rows _ _ (by simp));(exact hK.out.rows _ _ (by simp));rintro e w1 ⟨rfl,hbn⟩;(replace hK:=Lib.hid (hK.out.below hbn);clear hbn)))
  go_ret
  exact ⟨by first | rfl | simp,hK.out.bel⟩
 rw [hx] at hna
 rw [hy] at hnb
 have la : LenR a:=⟨by unfold namL at hx;simp only [Bool.and_eq_true,decide_eq_true_eq] at hx;omega,hv⟩
 have lb : LenR b:=⟨by unfold namL at hy;simp only [Bool.and_eq_true,decide_eq_true_eq] at hy;omega,hu⟩
 clear hx hy hv hu
 have hra : Hid (RchTo a (Cal.numE a)):=fun A' c' W hr=>CheckNumbersR_any A' c' a W (la.rns hr)
 have hrb : Hid (RchTo b (Cal.numE b)):=fun A' c' W hr=>CheckNumbersR_any A' c' b W (lb.rns hr)
 have hca : Hid (ChkTo a (Cal.numE a)):=fun A' c' W hr=>CheckNumbers_any A' c' a W (la.rns hr)
 by_cases h0 : Cal.numE a = 0
 ·obtain ⟨hla,_,hpa⟩:=Cal.numE_zero.1 h0
  have hta:=Lib.hid (trn_good la h0)
  have htt:=trn_good la.turn (Cal.turnR_good h0)
  rw [Cal.turnR_twice hpa] at htt
  replace htt:=Lib.hid htt
  have hrt : Hid (RtnTo a (Cal.turnR a)):=fun A' c' W hr=>TurnR_any A' c' a W hr la.1
  have hst:=Lib.hid (sam_to (Cal.turnR a) (by have:=la.turn.1;omega))
  have hsa:=Lib.hid (sam_to a (by omega))
  rw [h0] at hra hca
  by_cases h1 : Cal.numE b = 0
  ·obtain ⟨hlb,_,hpb⟩:=Cal.numE_zero.1 h1
   rw [h1] at hrb
   have hrc : Hid (RcmTo a b (Cal.compR a b)):=fun A' c' B' d' W h2 h3=>ComposeR_any A' c' a B' d' b W h2 h3 hla hlb
   by_cases hz : 200 < (Cal.compR a b).length
   ·have hE : Cal.compE a b = 8:=by unfold Cal.compE;rw [if_pos h0,if_pos h1,if_pos hz]
    have hN : Cal.compN a b = []:=by unfold Cal.compN;rw [hE];rfl
    have hcm:=cmp_to la lb
    rw [hE,hN] at hcm
    replace hcm:=Lib.hid hcm
    clear hE hN la lb h0 h1 hpa hpb
    generalize Cal.compR a b = cr at *
    generalize Cal.turnR a = ta at *
    have hzi : 200 < (cr.length : Int):=by omega
    go_enter Tryz.func4,Tryz.ntmps4
    go_wp2_with (first
     |(go_at_call 7;refine (lawAwake_any _).mono ?_;rintro e w1 ⟨rfl,hbn⟩;(replace hK:=Lib.hid (hK.out.below hbn);clear hbn))
     |(go_at_call 18;(first | with_reducible refine (hna.out _ _ _ ?_).mono ?_ | with_reducible refine (hnb.out _ _ _ ?_).mono ?_);(exact hK.out.rows _ _ (by simp));rintro e w1 ⟨rfl,hbn⟩;(replace hK:=Lib.hid (hK.out.below hbn);clear hbn))
     |(go_at_call 19;(first | with_reducible refine (hra.out _ _ _ ?_).mono ?_ | with_reducible refine (hrb.out _ _ _ ?_).mono ?_);(exact hK.out.rows _ _ (by simp));rintro e w1 ⟨rfl,hbn⟩;(replace hK:=Lib.hid (hK.out.below hbn);clear hbn))
     |(go_at_call 22;with_reducible refine (hca.out _ _ _ ?_).mono ?_;(exact hK.out.rows _ _ (by simp));rintro e w1 ⟨rfl,hbn⟩;(replace hK:=Lib.hid (hK.out.below hbn);clear hbn))
     |(go_at_call 20;first
      |(with_reducible refine (hta.out _ _ _ ?_).mono ?_;(exact hK.out.rows _ _ (by simp));rintro e w1 ⟨A1,c1,rfl,hr,hbn⟩;(replace hK:=Lib.hid ((hK.out.below hbn).add hr);clear hbn hr))
      |(with_reducible refine (htt.out _ _ _ ?_).mono ?_;(exact hK.out.rows _ _ (by simp));rintro e w1 ⟨A3,c3,rfl,hr,hbn⟩;(replace hK:=Lib.hid ((hK.out.below hbn).add hr);clear hbn hr))
      |(with_reducible refine (htb.out _ _ _ ?_).mono ?_;(exact hK.out.rows _ _ (by simp));rintro e w1 ⟨A6,c6,rfl,hr,hbn⟩;(replace hK:=Lib.hid ((hK.out.below hbn).add hr);clear hbn hr))
      |(with_reducible refine (htc.out _ _ _ ?_).mono ?_;(exact hK.out.rows _ _ (by simp));rintro e w1 ⟨A8,c8,rfl,hr,hbn⟩;(replace hK:=Lib.hid ((hK.out.below hbn).add hr);clear hbn hr)))
     |(go_at_call 21;first
      |(with_reducible refine (hcm.out _ _ _ _ _ ?_ ?_).mono ?_;(exact hK.out.rows _ _ (by simp));(exact hK.out.rows _ _ (by simp));rintro e w1 ⟨A2,c2,rfl,hr,hbn⟩;(replace hK:=Lib.hid ((hK.out.below hbn).add hr);clear hbn hr))
      |(with_reducible refine (hcx.out _ _ _ _ _ ?_ ?_).mono ?_;(exact hK.out.rows _ _ (by simp));(exact hK.out.rows _ _ (by simp));rintro e w1 ⟨A7,c7,rfl,hr,hbn⟩;(replace hK:=Lib.hid ((hK.out.below hbn).add hr);clear hbn hr)))
     |(go_at_call 24;with_reducible refine (hrt.out _ _ _ ?_).mono ?_;(exact hK.out.rows _ _ (by simp));rintro e w1 ⟨A4,c4,rfl,hr,hbn⟩;(replace hK:=Lib.hid ((hK.out.below hbn).add hr);clear hbn hr))
     |(go_at_call 25;with_reducible refine (hrc.out _ _ _ _ _ ?_ ?_).mono ?_;(exact hK.out.rows _ _ (by simp));(exact hK.out.rows _ _ (by simp));rintro e w1 ⟨A5,c5,rfl,hr,hbn⟩;(replace hK:=Lib.hid ((hK.out.below hbn).add hr);clear hbn hr))
     |(go_at_call 23;(first | with_reducible refine (hst.out _ _ _ _ _ ?_ ?_).mono ?_ | with_reducible refine (hsa.out _ _ _ _ _ ?_ ?_).mono ?_ | with_reducible refine (hsc.out _ _ _ _ _ ?_ ?_).mono ?_ | with_reducible refine (hsx.out _ _ _ _ _ ?_ ?_).mono ?_);(exact hK.out.rows _ _ (by simp));(exact hK.out.rows _ _ (by simp));rintro e w1 ⟨rfl,hbn⟩;(replace hK:=Lib.hid (hK.out.below hbn);clear hbn)))
    go_ret
    exact ⟨by first | rfl | simp,hK.out.bel⟩
   ·have hz2 : (Cal.compR a b).length ≤ 200:=by omega
    have hzi : ¬ 200 < ((Cal.compR a b).length : Int):=by omega
    have hcm:=Lib.hid (cmp_good la lb h0 h1 hz2)
    have htb:=Lib.hid (trn_good lb h1)
    have htc:=Lib.hid (trn_good (la.comp lb hz2) (Cal.compR_good h0 h1 hz2))
    have hcx:=cmp_good lb.turn la.turn (Cal.turnR_good h1) (Cal.turnR_good h0) (by rw [Cal.compR_turn];exact Nat.le_trans (Cal.turnR_len _) hz2)
    rw [Cal.compR_turn] at hcx
    replace hcx:=Lib.hid hcx
    have hsc:=Lib.hid (sam_to (Cal.compR a b) (by omega))
    have hsx:=Lib.hid (sam_to (Cal.turnR (Cal.compR a b)) (by have:=Cal.turnR_len (Cal.compR a b);omega))
    clear la lb h0 h1 hpa hpb hz hz2
    generalize Cal.turnR (Cal.compR a b) = yy at *
    generalize Cal.compR a b = cr at *
    generalize Cal.turnR a = ta at *
    generalize Cal.turnR b = tb at *
    go_enter Tryz.func4,Tryz.ntmps4
    go_wp2_with (first
     |(go_at_call 7;refine (lawAwake_any _).mono ?_;rintro e w1 ⟨rfl,hbn⟩;(replace hK:=Lib.hid (hK.out.below hbn);clear hbn))
     |(go_at_call 18;(first | with_reducible refine (hna.out _ _ _ ?_).mono ?_ | with_reducible refine (hnb.out _ _ _ ?_).mono ?_);(exact hK.out.rows _ _ (by simp));rintro e w1 ⟨rfl,hbn⟩;(replace hK:=Lib.hid (hK.out.below hbn);clear hbn))
     |(go_at_call 19;(first | with_reducible refine (hra.out _ _ _ ?_).mono ?_ | with_reducible refine (hrb.out _ _ _ ?_).mono ?_);(exact hK.out.rows _ _ (by simp));rintro e w1 ⟨rfl,hbn⟩;(replace hK:=Lib.hid (hK.out.below hbn);clear hbn))
     |(go_at_call 22;with_reducible refine (hca.out _ _ _ ?_).mono ?_;(exact hK.out.rows _ _ (by simp));rintro e w1 ⟨rfl,hbn⟩;(replace hK:=Lib.hid (hK.out.below hbn);clear hbn))
     |(go_at_call 20;first
      |(with_reducible refine (hta.out _ _ _ ?_).mono ?_;(exact hK.out.rows _ _ (by simp));rintro e w1 ⟨A1,c1,rfl,hr,hbn⟩;(replace hK:=Lib.hid ((hK.out.below hbn).add hr);clear hbn hr))
      |(with_reducible refine (htt.out _ _ _ ?_).mono ?_;(exact hK.out.rows _ _ (by simp));rintro e w1 ⟨A3,c3,rfl,hr,hbn⟩;(replace hK:=Lib.hid ((hK.out.below hbn).add hr);clear hbn hr))
      |(with_reducible refine (htb.out _ _ _ ?_).mono ?_;(exact hK.out.rows _ _ (by simp));rintro e w1 ⟨A6,c6,rfl,hr,hbn⟩;(replace hK:=Lib.hid ((hK.out.below hbn).add hr);clear hbn hr))
      |(with_reducible refine (htc.out _ _ _ ?_).mono ?_;(exact hK.out.rows _ _ (by simp));rintro e w1 ⟨A8,c8,rfl,hr,hbn⟩;(replace hK:=Lib.hid ((hK.out.below hbn).add hr);clear hbn hr)))
     |(go_at_call 21;first
      |(with_reducible refine (hcm.out _ _ _ _ _ ?_ ?_).mono ?_;(exact hK.out.rows _ _ (by simp));(exact hK.out.rows _ _ (by simp));rintro e w1 ⟨A2,c2,rfl,hr,hbn⟩;(replace hK:=Lib.hid ((hK.out.below hbn).add hr);clear hbn hr))
      |(with_reducible refine (hcx.out _ _ _ _ _ ?_ ?_).mono ?_;(exact hK.out.rows _ _ (by simp));(exact hK.out.rows _ _ (by simp));rintro e w1 ⟨A7,c7,rfl,hr,hbn⟩;(replace hK:=Lib.hid ((hK.out.below hbn).add hr);clear hbn hr)))
     |(go_at_call 24;with_reducible refine (hrt.out _ _ _ ?_).mono ?_;(exact hK.out.rows _ _ (by simp));rintro e w1 ⟨A4,c4,rfl,hr,hbn⟩;(replace hK:=Lib.hid ((hK.out.below hbn).add hr);clear hbn hr))
     |(go_at_call 25;with_reducible refine (hrc.out _ _ _ _ _ ?_ ?_).mono ?_;(exact hK.out.rows _ _ (by simp));(exact hK.out.rows _ _ (by simp));rintro e w1 ⟨A5,c5,rfl,hr,hbn⟩;(replace hK:=Lib.hid ((hK.out.below hbn).add hr);clear hbn hr))
     |(go_at_call 23;(first | with_reducible refine (hst.out _ _ _ _ _ ?_ ?_).mono ?_ | with_reducible refine (hsa.out _ _ _ _ _ ?_ ?_).mono ?_ | with_reducible refine (hsc.out _ _ _ _ _ ?_ ?_).mono ?_ | with_reducible refine (hsx.out _ _ _ _ _ ?_ ?_).mono ?_);(exact hK.out.rows _ _ (by simp));(exact hK.out.rows _ _ (by simp));rintro e w1 ⟨rfl,hbn⟩;(replace hK:=Lib.hid (hK.out.below hbn);clear hbn)))
    go_ret
    exact ⟨by first | rfl | simp,hK.out.bel⟩
  ·have hE : Cal.compE a b = Cal.numE b:=by unfold Cal.compE;rw [if_pos h0,if_neg h1]
   have hN : Cal.compN a b = []:=by unfold Cal.compN;rw [hE,if_neg h1]
   have hcm:=cmp_to la lb
   rw [hE,hN] at hcm
   replace hcm:=Lib.hid hcm
   have q1 : (Cal.numE b == 0) = false:=by simpa using h1
   have q2 : (Cal.numE b != 0) = true:=by simpa using h1
   clear hE hN la lb h0 hpa
   generalize Cal.numE b = F at *
   generalize Cal.turnR a = ta at *
   go_enter Tryz.func4,Tryz.ntmps4
   go_wp2_with (first
    |(go_at_call 7;refine (lawAwake_any _).mono ?_;rintro e w1 ⟨rfl,hbn⟩;(replace hK:=Lib.hid (hK.out.below hbn);clear hbn))
    |(go_at_call 18;(first | with_reducible refine (hna.out _ _ _ ?_).mono ?_ | with_reducible refine (hnb.out _ _ _ ?_).mono ?_);(exact hK.out.rows _ _ (by simp));rintro e w1 ⟨rfl,hbn⟩;(replace hK:=Lib.hid (hK.out.below hbn);clear hbn))
    |(go_at_call 19;(first | with_reducible refine (hra.out _ _ _ ?_).mono ?_ | with_reducible refine (hrb.out _ _ _ ?_).mono ?_);(exact hK.out.rows _ _ (by simp));rintro e w1 ⟨rfl,hbn⟩;(replace hK:=Lib.hid (hK.out.below hbn);clear hbn))
    |(go_at_call 22;with_reducible refine (hca.out _ _ _ ?_).mono ?_;(exact hK.out.rows _ _ (by simp));rintro e w1 ⟨rfl,hbn⟩;(replace hK:=Lib.hid (hK.out.below hbn);clear hbn))
    |(go_at_call 20;first
     |(with_reducible refine (hta.out _ _ _ ?_).mono ?_;(exact hK.out.rows _ _ (by simp));rintro e w1 ⟨A1,c1,rfl,hr,hbn⟩;(replace hK:=Lib.hid ((hK.out.below hbn).add hr);clear hbn hr))
     |(with_reducible refine (htt.out _ _ _ ?_).mono ?_;(exact hK.out.rows _ _ (by simp));rintro e w1 ⟨A3,c3,rfl,hr,hbn⟩;(replace hK:=Lib.hid ((hK.out.below hbn).add hr);clear hbn hr))
     |(with_reducible refine (htb.out _ _ _ ?_).mono ?_;(exact hK.out.rows _ _ (by simp));rintro e w1 ⟨A6,c6,rfl,hr,hbn⟩;(replace hK:=Lib.hid ((hK.out.below hbn).add hr);clear hbn hr))
     |(with_reducible refine (htc.out _ _ _ ?_).mono ?_;(exact hK.out.rows _ _ (by simp));rintro e w1 ⟨A8,c8,rfl,hr,hbn⟩;(replace hK:=Lib.hid ((hK.out.below hbn).add hr);clear hbn hr)))
    |(go_at_call 21;first
     |(with_reducible refine (hcm.out _ _ _ _ _ ?_ ?_).mono ?_;(exact hK.out.rows _ _ (by simp));(exact hK.out.rows _ _ (by simp));rintro e w1 ⟨A2,c2,rfl,hr,hbn⟩;(replace hK:=Lib.hid ((hK.out.below hbn).add hr);clear hbn hr))
     |(with_reducible refine (hcx.out _ _ _ _ _ ?_ ?_).mono ?_;(exact hK.out.rows _ _ (by simp));(exact hK.out.rows _ _ (by simp));rintro e w1 ⟨A7,c7,rfl,hr,hbn⟩;(replace hK:=Lib.hid ((hK.out.below hbn).add hr);clear hbn hr)))
    |(go_at_call 24;with_reducible refine (hrt.out _ _ _ ?_).mono ?_;(exact hK.out.rows _ _ (by simp));rintro e w1 ⟨A4,c4,rfl,hr,hbn⟩;(replace hK:=Lib.hid ((hK.out.below hbn).add hr);clear hbn hr))
    |(go_at_call 25;with_reducible refine (hrc.out _ _ _ _ _ ?_ ?_).mono ?_;(exact hK.out.rows _ _ (by simp));(exact hK.out.rows _ _ (by simp));rintro e w1 ⟨A5,c5,rfl,hr,hbn⟩;(replace hK:=Lib.hid ((hK.out.below hbn).add hr);clear hbn hr))
    |(go_at_call 23;(first | with_reducible refine (hst.out _ _ _ _ _ ?_ ?_).mono ?_ | with_reducible refine (hsa.out _ _ _ _ _ ?_ ?_).mono ?_ | with_reducible refine (hsc.out _ _ _ _ _ ?_ ?_).mono ?_ | with_reducible refine (hsx.out _ _ _ _ _ ?_ ?_).mono ?_);(exact hK.out.rows _ _ (by simp));(exact hK.out.rows _ _ (by simp));rintro e w1 ⟨rfl,hbn⟩;(replace hK:=Lib.hid (hK.out.below hbn);clear hbn)))
   go_ret
   exact ⟨by first | rfl | simp,hK.out.bel⟩
 ·have hE : Cal.compE a b = Cal.numE a:=by unfold Cal.compE;rw [if_neg h0]
  have hN : Cal.compN a b = []:=by unfold Cal.compN;rw [hE,if_neg h0]
  have hcm:=cmp_to la lb
  rw [hE,hN] at hcm
  replace hcm:=Lib.hid hcm
  have hta:=trn_to la
  have hT : Cal.turnN a = []:=by unfold Cal.turnN;rw [if_neg h0]
  rw [hT] at hta
  replace hta:=Lib.hid hta
  have q1 : (Cal.numE a == 0) = false:=by simpa using h0
  have q2 : (Cal.numE a != 0) = true:=by simpa using h0
  clear hE hN hT la lb
  generalize Cal.numE a = E at *
  go_enter Tryz.func4,Tryz.ntmps4
  go_wp2_with (first
   |(go_at_call 7;refine (lawAwake_any _).mono ?_;rintro e w1 ⟨rfl,hbn⟩;(replace hK:=Lib.hid (hK.out.below hbn);clear hbn))
   |(go_at_call 18;(first | with_reducible refine (hna.out _ _ _ ?_).mono ?_ | with_reducible refine (hnb.out _ _ _ ?_).mono ?_);(exact hK.out.rows _ _ (by simp));rintro e w1 ⟨rfl,hbn⟩;(replace hK:=Lib.hid (hK.out.below hbn);clear hbn))
   |(go_at_call 19;(first | with_reducible refine (hra.out _ _ _ ?_).mono ?_ | with_reducible refine (hrb.out _ _ _ ?_).mono ?_);(exact hK.out.rows _ _ (by simp));rintro e w1 ⟨rfl,hbn⟩;(replace hK:=Lib.hid (hK.out.below hbn);clear hbn))
   |(go_at_call 22;with_reducible refine (hca.out _ _ _ ?_).mono ?_;(exact hK.out.rows _ _ (by simp));rintro e w1 ⟨rfl,hbn⟩;(replace hK:=Lib.hid (hK.out.below hbn);clear hbn))
   |(go_at_call 20;first
    |(with_reducible refine (hta.out _ _ _ ?_).mono ?_;(exact hK.out.rows _ _ (by simp));rintro e w1 ⟨A1,c1,rfl,hr,hbn⟩;(replace hK:=Lib.hid ((hK.out.below hbn).add hr);clear hbn hr))
    |(with_reducible refine (htt.out _ _ _ ?_).mono ?_;(exact hK.out.rows _ _ (by simp));rintro e w1 ⟨A3,c3,rfl,hr,hbn⟩;(replace hK:=Lib.hid ((hK.out.below hbn).add hr);clear hbn hr))
    |(with_reducible refine (htb.out _ _ _ ?_).mono ?_;(exact hK.out.rows _ _ (by simp));rintro e w1 ⟨A6,c6,rfl,hr,hbn⟩;(replace hK:=Lib.hid ((hK.out.below hbn).add hr);clear hbn hr))
    |(with_reducible refine (htc.out _ _ _ ?_).mono ?_;(exact hK.out.rows _ _ (by simp));rintro e w1 ⟨A8,c8,rfl,hr,hbn⟩;(replace hK:=Lib.hid ((hK.out.below hbn).add hr);clear hbn hr)))
   |(go_at_call 21;first
    |(with_reducible refine (hcm.out _ _ _ _ _ ?_ ?_).mono ?_;(exact hK.out.rows _ _ (by simp));(exact hK.out.rows _ _ (by simp));rintro e w1 ⟨A2,c2,rfl,hr,hbn⟩;(replace hK:=Lib.hid ((hK.out.below hbn).add hr);clear hbn hr))
    |(with_reducible refine (hcx.out _ _ _ _ _ ?_ ?_).mono ?_;(exact hK.out.rows _ _ (by simp));(exact hK.out.rows _ _ (by simp));rintro e w1 ⟨A7,c7,rfl,hr,hbn⟩;(replace hK:=Lib.hid ((hK.out.below hbn).add hr);clear hbn hr)))
   |(go_at_call 24;with_reducible refine (hrt.out _ _ _ ?_).mono ?_;(exact hK.out.rows _ _ (by simp));rintro e w1 ⟨A4,c4,rfl,hr,hbn⟩;(replace hK:=Lib.hid ((hK.out.below hbn).add hr);clear hbn hr))
   |(go_at_call 25;with_reducible refine (hrc.out _ _ _ _ _ ?_ ?_).mono ?_;(exact hK.out.rows _ _ (by simp));(exact hK.out.rows _ _ (by simp));rintro e w1 ⟨A5,c5,rfl,hr,hbn⟩;(replace hK:=Lib.hid ((hK.out.below hbn).add hr);clear hbn hr))
   |(go_at_call 23;(first | with_reducible refine (hst.out _ _ _ _ _ ?_ ?_).mono ?_ | with_reducible refine (hsa.out _ _ _ _ _ ?_ ?_).mono ?_ | with_reducible refine (hsc.out _ _ _ _ _ ?_ ?_).mono ?_ | with_reducible refine (hsx.out _ _ _ _ _ ?_ ?_).mono ?_);(exact hK.out.rows _ _ (by simp));(exact hK.out.rows _ _ (by simp));rintro e w1 ⟨rfl,hbn⟩;(replace hK:=Lib.hid (hK.out.below hbn);clear hbn)))
  go_ret
  exact ⟨by first | rfl | simp,hK.out.bel⟩
end Go.Proofs.YthfokpchdlcidaaGreat
