/- What the statements rest on: definitions and walks, part 23. -/
import Derived.Test.YthfokpchdlcidaaJ22
import Derived.Test.YthfokpchdlcidaaJ17
set_option maxRecDepth 100000
set_option maxHeartbeats 16000000
set_option linter.unusedSimpArgs false
set_option linter.unusedVariables false
namespace Go.Proofs.Ythfokpchdlcidaa
open Go Go.RowKit Go.Sort
def namL (l : List Rn) : Bool:=(decide (l.length ≤ 20) || decide (200 < l.length)) && decide (l.length ≤ 210) && l.all fun x=>decide (x.old.length ≤ 30) && decide (x.new.length ≤ 30)
theorem all_take1 {α : Type} {p : α → Bool} {l : List α} {k : Nat} (h : k < l.length) : (l.take (k + 1)).all p = ((l.take k).all p && p l[k]):=by
 rw [List.take_succ_eq_append_getElem h,List.all_append];simp
theorem all_at_false {α : Type} {p : α → Bool} {l : List α} {k : Nat} (h : k < l.length) (hp : p l[k] = false) : l.all p = false:=by
 cases ha : l.all p
 ·rfl
 ·have:=List.all_eq_true.1 ha _ (List.getElem_mem h)
  rw [hp] at this;cases this
theorem lawNames_any (A : Option Addr) (c : Nat) (l : List Rn) (w : World) (hR : RowsAt w A 2 (l.map rnR)) : Calls Try.prog 21 #[.slice A l.length c] w fun e w'=>e = .returned (.bool (namL l)) ∧ Below w.heap.size w w':=by
 have hb0 : Hid (Below w.heap.size w w):=Below.refl _ _
 replace hR:=Lib.hid hR
 by_cases h1 : 20 < l.length
 ·by_cases h2 : l.length ≤ 200
  ·have hfin : namL l = false:=by unfold namL;rw [decide_eq_false (by omega),decide_eq_false (show ¬ 200 < l.length by omega)];rfl
   have p1 : 20 < (l.length : Int):=by omega
   have p2 : (l.length : Int) ≤ 200:=by omega
   rw [hfin]
   clear hfin hR
   go_enter Try.func21,Try.ntmps21
   go_wp2_with fail
   go_ret
   exact ⟨rfl,hb0.out⟩
  ·by_cases h3 : 210 < l.length
   ·have hfin : namL l = false:=by unfold namL;rw [decide_eq_false (show ¬ l.length ≤ 210 by omega),Bool.and_false];rfl
    have p1 : 20 < (l.length : Int):=by omega
    have p2 : ¬ (l.length : Int) ≤ 200:=by omega
    have p3 : 210 < (l.length : Int):=by omega
    rw [hfin]
    clear hfin hR
    go_enter Try.func21,Try.ntmps21
    go_wp2_with fail
    go_ret
    exact ⟨rfl,hb0.out⟩
   ·have hfin : Hid (namL l = l.all fun x=>decide (x.old.length ≤ 30) && decide (x.new.length ≤ 30)):=by show _ = _;unfold namL;rw [decide_eq_true (show 200 < l.length by omega),decide_eq_true (show l.length ≤ 210 by omega),Bool.or_true,Bool.true_and,Bool.true_and]
    have p1 : 20 < (l.length : Int):=by omega
    have p2 : ¬ (l.length : Int) ≤ 200:=by omega
    have p3 : ¬ 210 < (l.length : Int):=by omega
    have hs : l.length ≤ 210:=by omega
    clear h1 h2 h3
    go_enter Try.func21,Try.ntmps21
    go_wp2_with fail
    go_loopw [3] (fun i wr=>∃ k : Nat,k ≤ l.length ∧ i = .int .i64 k ∧ Hid (((l.take k).all fun x=>decide (x.old.length ≤ 30) && decide (x.new.length ≤ 30)) = true) ∧ Hid (Below w.heap.size w wr)) (fun i _=>l.length - (intOf i).toNat)
    case atStart=>exact ⟨0,Nat.zero_le _,rfl,rfl,hb0⟩
    case round =>
     clear hb0
     obtain ⟨k,hk,rfl,hall,hb⟩:=hrel
     by_cases hlt : k < l.length
     ·have hk' : l[k]? = some l[k]:=List.getElem?_eq_getElem hlt
      have htk:=all_take1 (p:=fun x : Rn=>decide (x.old.length ≤ 30) && decide (x.new.length ≤ 30)) hlt
      have haf:=Lib.hid (fun h=>all_at_false (p:=fun x : Rn=>decide (x.old.length ≤ 30) && decide (x.new.length ≤ 30)) hlt h)
      obtain ⟨b,o,rfl,_,ao,an,ha1,ha2,c0,c1⟩:=rn_at (hR.out.below hb.out) hk'
      have z1:=size_len ha1
      have z2:=size_len ha2
      rw [hall.out,Bool.true_and] at htk
      rw [← z1,← z2] at htk haf
      have hki : (k : Int) < (l.length : Int):=by omega
      replace htk:=Lib.hid htk
      clear hk' ha1 ha2 z1 z2
      by_cases q1 : 30 < ao.size
      ·have hno : Hid (namL l = false):=by show _ = _;rw [hfin.out];exact haf.out (by rw [decide_eq_false (by omega)];rfl)
       have q2 : 30 < (ao.size : Int):=by omega
       clear haf htk
       go_wp2_with fail
       go_ret
       exact ⟨by rw [hno.out];rfl,hb.out⟩
      ·have q2 : ¬ 30 < (ao.size : Int):=by omega
       by_cases q3 : 30 < an.size
       ·have hno : Hid (namL l = false):=by show _ = _;rw [hfin.out];exact haf.out (by rw [decide_eq_false (show ¬ an.size ≤ 30 by omega),Bool.and_false])
        have q4 : 30 < (an.size : Int):=by omega
        clear haf htk
        go_wp2_with fail
        go_ret
        exact ⟨by rw [hno.out];rfl,hb.out⟩
       ·have hnx : Hid (((l.take (k + 1)).all fun x=>decide (x.old.length ≤ 30) && decide (x.new.length ≤ 30)) = true):=by show _ = _;rw [htk.out,decide_eq_true (show ao.size ≤ 30 by omega),decide_eq_true (show an.size ≤ 30 by omega)];rfl
        have q4 : ¬ 30 < (an.size : Int):=by omega
        clear haf htk
        go_wp2_with fail
        go_roundw
        case rel=>exact ⟨k + 1,by omega,by go_num,hnx,hb⟩
        case measure=>simp [intOf];omega
     ·have hyes : Hid (namL l = true):=by
       show _ = _
       have h:=hall.out
       rw [List.take_of_length_le (by omega)] at h
       rw [hfin.out];exact h
      have hge : l.length = k:=by omega
      go_wp2_with fail
      go_ret
      exact ⟨by rw [hyes.out];rfl,hb.out⟩
 ·have hfin : Hid (namL l = l.all fun x=>decide (x.old.length ≤ 30) && decide (x.new.length ≤ 30)):=by show _ = _;unfold namL;rw [decide_eq_true (show l.length ≤ 20 by omega),decide_eq_true (show l.length ≤ 210 by omega),Bool.true_or,Bool.true_and,Bool.true_and]
  have p1 : ¬ 20 < (l.length : Int):=by omega
  have p3 : ¬ 210 < (l.length : Int):=by omega
  have hs : l.length ≤ 210:=by omega
  clear h1
  go_enter Try.func21,Try.ntmps21
  go_wp2_with fail
  go_loopw [3] (fun i wr=>∃ k : Nat,k ≤ l.length ∧ i = .int .i64 k ∧ Hid (((l.take k).all fun x=>decide (x.old.length ≤ 30) && decide (x.new.length ≤ 30)) = true) ∧ Hid (Below w.heap.size w wr)) (fun i _=>l.length - (intOf i).toNat)
  case atStart=>exact ⟨0,Nat.zero_le _,rfl,rfl,hb0⟩
  case round =>
   clear hb0
   obtain ⟨k,hk,rfl,hall,hb⟩:=hrel
   by_cases hlt : k < l.length
   ·have hk' : l[k]? = some l[k]:=List.getElem?_eq_getElem hlt
    have htk:=all_take1 (p:=fun x : Rn=>decide (x.old.length ≤ 30) && decide (x.new.length ≤ 30)) hlt
    have haf:=Lib.hid (fun h=>all_at_false (p:=fun x : Rn=>decide (x.old.length ≤ 30) && decide (x.new.length ≤ 30)) hlt h)
    obtain ⟨b,o,rfl,_,ao,an,ha1,ha2,c0,c1⟩:=rn_at (hR.out.below hb.out) hk'
    have z1:=size_len ha1
    have z2:=size_len ha2
    rw [hall.out,Bool.true_and] at htk
    rw [← z1,← z2] at htk haf
    have hki : (k : Int) < (l.length : Int):=by omega
    replace htk:=Lib.hid htk
    clear hk' ha1 ha2 z1 z2
    by_cases q1 : 30 < ao.size
    ·have hno : Hid (namL l = false):=by show _ = _;rw [hfin.out];exact haf.out (by rw [decide_eq_false (by omega)];rfl)
     have q2 : 30 < (ao.size : Int):=by omega
     clear haf htk
     go_wp2_with fail
     go_ret
     exact ⟨by rw [hno.out];rfl,hb.out⟩
    ·have q2 : ¬ 30 < (ao.size : Int):=by omega
     by_cases q3 : 30 < an.size
     ·have hno : Hid (namL l = false):=by show _ = _;rw [hfin.out];exact haf.out (by rw [decide_eq_false (show ¬ an.size ≤ 30 by omega),Bool.and_false])
      have q4 : 30 < (an.size : Int):=by omega
      clear haf htk
      go_wp2_with fail
      go_ret
      exact ⟨by rw [hno.out];rfl,hb.out⟩
     ·have hnx : Hid (((l.take (k + 1)).all fun x=>decide (x.old.length ≤ 30) && decide (x.new.length ≤ 30)) = true):=by show _ = _;rw [htk.out,decide_eq_true (show ao.size ≤ 30 by omega),decide_eq_true (show an.size ≤ 30 by omega)];rfl
      have q4 : ¬ 30 < (an.size : Int):=by omega
      clear haf htk
      go_wp2_with fail
      go_roundw
      case rel=>exact ⟨k + 1,by omega,by go_num,hnx,hb⟩
      case measure=>simp [intOf];omega
   ·have hyes : Hid (namL l = true):=by
     show _ = _
     have h:=hall.out
     rw [List.take_of_length_le (by omega)] at h
     rw [hfin.out];exact h
    have hge : l.length = k:=by omega
    go_wp2_with fail
    go_ret
    exact ⟨by rw [hyes.out];rfl,hb.out⟩
theorem GroundImages_any (A : Option Addr) (c : Nat) (l : List Rn) (N : Option Addr) (d : Nat) (names : List Cal.Txt) (w : World) (hR : RowsAt w A 2 (l.map rnR)) (hv : ∀ p ∈ l,p.old.length ≤ maxLen ∧ p.new.length ≤ maxLen) (hN : RowsAt w N 1 (txtRows names)) (hu : ∀ p ∈ names,p.length ≤ maxLen) :
  Calls Try.prog 5 #[.slice A l.length c,.slice N names.length d] w fun e w'=>e = .returned (.bool true) ∧ Below w.heap.size w w':=by
 have hnm:=Lib.hid (fun W (hb : Below w.heap.size w W)=>lawNames_any A c l W (hR.below hb))
 cases hx : namL l
 ·rw [hx] at hnm
  clear hR hN
  go_enter Try.func5,Try.ntmps5
  go_wp2_with (first | (go_at_call 6;refine (lawAwake_any _).mono ?_;rintro e w1 ⟨rfl,hb1⟩;replace hb1:=Lib.hid hb1) | (go_at_call 21;refine (hnm.out _ hb1.out).mono ?_;rintro e w2 ⟨rfl,hb2⟩;replace hb2:=Lib.hid (below_step hb1.out hb2);clear hnm))
  go_ret
  exact ⟨rfl,hb2.out⟩
 rw [hx] at hnm
 have hll : l.length ≤ 210:=by
  unfold namL at hx
  simp only [Bool.and_eq_true,decide_eq_true_eq] at hx
  exact hx.1.2
 clear hx
 by_cases h1 : 20 < names.length
 ·by_cases h2 : names.length ≤ 200
  ·have p1 : 20 < (names.length : Int):=by omega
   have p2 : (names.length : Int) ≤ 200:=by omega
   clear hR hN
   go_enter Try.func5,Try.ntmps5
   go_wp2_with (first | (go_at_call 6;refine (lawAwake_any _).mono ?_;rintro e w1 ⟨rfl,hb1⟩;replace hb1:=Lib.hid hb1) | (go_at_call 21;refine (hnm.out _ hb1.out).mono ?_;rintro e w2 ⟨rfl,hb2⟩;replace hb2:=Lib.hid (below_step hb1.out hb2);clear hnm))
   go_ret
   exact ⟨rfl,hb2.out⟩
  ·by_cases h3 : 210 < names.length
   ·have p1 : 20 < (names.length : Int):=by omega
    have p2 : ¬ (names.length : Int) ≤ 200:=by omega
    have p3 : 210 < (names.length : Int):=by omega
    clear hR hN
    go_enter Try.func5,Try.ntmps5
    go_wp2_with (first | (go_at_call 6;refine (lawAwake_any _).mono ?_;rintro e w1 ⟨rfl,hb1⟩;replace hb1:=Lib.hid hb1) | (go_at_call 21;refine (hnm.out _ hb1.out).mono ?_;rintro e w2 ⟨rfl,hb2⟩;replace hb2:=Lib.hid (below_step hb1.out hb2);clear hnm))
    go_ret
    exact ⟨rfl,hb2.out⟩
   ·have p1 : 20 < (names.length : Int):=by omega
    have p2 : ¬ (names.length : Int) ≤ 200:=by omega
    have p3 : ¬ 210 < (names.length : Int):=by omega
    have hL : Hid (Rns w A l):=⟨hR,by omega,hv⟩
    replace hN : Hid (Txs w N names):=⟨hN,by omega,hu⟩
    have hck:=Lib.hid (fun W (hb : Below w.heap.size w W)=>CheckNumbersR_any A c l W (hL.out.below hb))
    have him : Hid (∀ W,Below w.heap.size w W → Calls Try.prog 22 #[.slice A l.length c,.slice N names.length d] W fun e w'=>∃ A4 c4,e = .returned (.tuple #[.slice A4 (Cal.imgR l names).length c4,.int .i64 (Cal.imgE l names)]) ∧ RowsAt w' A4 1 (txtRows (Cal.imgR l names)) ∧ Below W.heap.size W w'):=fun W hb=>by
     refine (gImages_any A c l N d names W (hL.out.below hb) (hN.out.below hb)).mono ?_
     rintro e w' ⟨v,rfl,hO,hb'⟩
     obtain ⟨A4,c4,rfl,hr⟩:=hO.rows
     exact ⟨A4,c4,rfl,hr,hb'⟩
    clear hR
    clear h1 h2
    go_enter Try.func5,Try.ntmps5
    go_wp2_with (first | (go_at_call 6;refine (lawAwake_any _).mono ?_;rintro e w1 ⟨rfl,hb1⟩;replace hb1:=Lib.hid hb1) | (go_at_call 21;refine (hnm.out _ hb1.out).mono ?_;rintro e w2 ⟨rfl,hb2⟩;replace hb2:=Lib.hid (below_step hb1.out hb2);clear hnm))
    go_loopw [5] (fun i wr=>∃ k : Nat,k ≤ names.length ∧ i = .int .i64 k ∧ Hid (Below w.heap.size w wr)) (fun i _=>names.length - (intOf i).toNat)
    case atStart=>exact ⟨0,Nat.zero_le _,rfl,hb2⟩
    case round =>
     clear hb2
     obtain ⟨k,hk,rfl,hb⟩:=hrel
     by_cases hlt : k < names.length
     ·obtain ⟨b,o,rfl,_,nb,_,c0⟩:=txtRow_at (hN.out.rows.below hb.out) hlt
      have hki : (k : Int) < (names.length : Int):=by omega
      by_cases q1 : 30 < nb.size
      ·have q2 : 30 < (nb.size : Int):=by omega
       go_wp2_with fail
       go_ret
       exact ⟨rfl,hb.out⟩
      ·have q2 : ¬ 30 < (nb.size : Int):=by omega
       go_wp2_with fail
       go_roundw
       case rel=>exact ⟨k + 1,by omega,by go_num,hb⟩
       case measure=>simp [intOf];omega
     ·by_cases h0 : Cal.numE l = 0
      ·have hir : Hid (∀ W,Below w.heap.size w W → Calls Try.prog 24 #[.slice A l.length c,.slice N names.length d] W fun e w'=>∃ A4 c4,e = .returned (.tuple #[.slice A4 (Cal.imgR l names).length c4,.int .i64 (Cal.imgE l names)]) ∧ RowsAt w' A4 1 (txtRows (Cal.imgR l names)) ∧ Below W.heap.size W w'):=fun W hb=>by
        refine (ImagesR_any A c l N d names W (hL.out.below hb) (hN.out.below hb) h0).mono ?_
        rintro e w' ⟨v,rfl,hO,hb'⟩
        obtain ⟨A4,c4,rfl,hr⟩:=hO.rows
        exact ⟨A4,c4,rfl,hr,hb'⟩
       have hxl : (Cal.imgR l names).length ≤ 1000000:=by
        unfold Cal.imgR
        split
        ·have h1:=Cal.tups_length (Cal.imgL l names)
         have h2:=Cal.imgL_len l names
         have h3:=Nat.mul_le_mul (show names.length ≤ 210 by omega) hll
         omega
        ·exact Nat.zero_le _
       rw [h0] at hck
       generalize Cal.imgR l names = xs at *
       generalize Cal.imgE l names = E at *
       clear h0 hL hN
       go_wp2_with (first
        |(go_at_call 22;refine (him.out _ hb.out).mono ?_;rintro e w3 ⟨A4,c4,rfl,hr4,hb3⟩;replace hb3:=Lib.hid (below_step hb.out hb3);replace hr4:=Lib.hid hr4;clear him)
        |(go_at_call 23;refine (hck.out _ hb3.out).mono ?_;rintro e w4 ⟨rfl,hb4⟩;replace hr4:=Lib.hid (hr4.out.below hb4);replace hb4:=Lib.hid (below_step hb3.out hb4);clear hck)
        |(go_at_call 24;refine (hir.out _ hb4.out).mono ?_;rintro e w5 ⟨A6,c6,rfl,hr6,hb5⟩;replace hr4:=Lib.hid (hr4.out.below hb5);replace hr6:=Lib.hid hr6;replace hb5:=Lib.hid (below_step hb4.out hb5);clear hir)
        |(go_at_call 25;refine (TextsR_any A4 c4 A6 c6 xs _ hr4.out hr6.out hxl).mono ?_;rintro e w6 ⟨rfl,hb6⟩;replace hb6:=Lib.hid (below_step hb5.out hb6)))
       go_ret
       exact ⟨by first | rfl | simp,hb6.out⟩
      ·have hE : Cal.imgE l names = Cal.numE l:=by unfold Cal.imgE;rw [if_neg h0]
       have hR : Cal.imgR l names = []:=by unfold Cal.imgR;rw [hE,if_neg h0]
       rw [hE,hR] at him
       have q1 : (Cal.numE l == 0) = false:=by simpa using h0
       have q2 : (Cal.numE l != 0) = true:=by simpa using h0
       generalize Cal.numE l = E at *
       clear hE hR hL hN
       go_wp2_with (first
        |(go_at_call 22;refine (him.out _ hb.out).mono ?_;rintro e w3 ⟨A4,c4,rfl,hr4,hb3⟩;replace hb3:=Lib.hid (below_step hb.out hb3);replace hr4:=Lib.hid hr4;clear him)
        |(go_at_call 23;refine (hck.out _ hb3.out).mono ?_;rintro e w4 ⟨rfl,hb4⟩;replace hr4:=Lib.hid (hr4.out.below hb4);replace hb4:=Lib.hid (below_step hb3.out hb4);clear hck)
        |(go_at_call 24;refine (hir.out _ hb4.out).mono ?_;rintro e w5 ⟨A6,c6,rfl,hr6,hb5⟩;replace hr4:=Lib.hid (hr4.out.below hb5);replace hr6:=Lib.hid hr6;replace hb5:=Lib.hid (below_step hb4.out hb5);clear hir)
        |(go_at_call 25;refine (TextsR_any A4 c4 A6 c6 xs _ hr4.out hr6.out hxl).mono ?_;rintro e w6 ⟨rfl,hb6⟩;replace hb6:=Lib.hid (below_step hb5.out hb6)))
       go_ret
       exact ⟨by first | rfl | simp,hb4.out⟩
 ·have p1 : ¬ 20 < (names.length : Int):=by omega
  have p3 : ¬ 210 < (names.length : Int):=by omega
  have hL : Hid (Rns w A l):=⟨hR,by omega,hv⟩
  replace hN : Hid (Txs w N names):=⟨hN,by omega,hu⟩
  have hck:=Lib.hid (fun W (hb : Below w.heap.size w W)=>CheckNumbersR_any A c l W (hL.out.below hb))
  have him : Hid (∀ W,Below w.heap.size w W → Calls Try.prog 22 #[.slice A l.length c,.slice N names.length d] W fun e w'=>∃ A4 c4,e = .returned (.tuple #[.slice A4 (Cal.imgR l names).length c4,.int .i64 (Cal.imgE l names)]) ∧ RowsAt w' A4 1 (txtRows (Cal.imgR l names)) ∧ Below W.heap.size W w'):=fun W hb=>by
   refine (gImages_any A c l N d names W (hL.out.below hb) (hN.out.below hb)).mono ?_
   rintro e w' ⟨v,rfl,hO,hb'⟩
   obtain ⟨A4,c4,rfl,hr⟩:=hO.rows
   exact ⟨A4,c4,rfl,hr,hb'⟩
  clear hR
  clear h1
  go_enter Try.func5,Try.ntmps5
  go_wp2_with (first | (go_at_call 6;refine (lawAwake_any _).mono ?_;rintro e w1 ⟨rfl,hb1⟩;replace hb1:=Lib.hid hb1) | (go_at_call 21;refine (hnm.out _ hb1.out).mono ?_;rintro e w2 ⟨rfl,hb2⟩;replace hb2:=Lib.hid (below_step hb1.out hb2);clear hnm))
  go_loopw [5] (fun i wr=>∃ k : Nat,k ≤ names.length ∧ i = .int .i64 k ∧ Hid (Below w.heap.size w wr)) (fun i _=>names.length - (intOf i).toNat)
  case atStart=>exact ⟨0,Nat.zero_le _,rfl,hb2⟩
  case round =>
   clear hb2
   obtain ⟨k,hk,rfl,hb⟩:=hrel
   by_cases hlt : k < names.length
   ·obtain ⟨b,o,rfl,_,nb,_,c0⟩:=txtRow_at (hN.out.rows.below hb.out) hlt
    have hki : (k : Int) < (names.length : Int):=by omega
    by_cases q1 : 30 < nb.size
    ·have q2 : 30 < (nb.size : Int):=by omega
     go_wp2_with fail
     go_ret
     exact ⟨rfl,hb.out⟩
    ·have q2 : ¬ 30 < (nb.size : Int):=by omega
     go_wp2_with fail
     go_roundw
     case rel=>exact ⟨k + 1,by omega,by go_num,hb⟩
     case measure=>simp [intOf];omega
   ·by_cases h0 : Cal.numE l = 0
    ·have hir : Hid (∀ W,Below w.heap.size w W → Calls Try.prog 24 #[.slice A l.length c,.slice N names.length d] W fun e w'=>∃ A4 c4,e = .returned (.tuple #[.slice A4 (Cal.imgR l names).length c4,.int .i64 (Cal.imgE l names)]) ∧ RowsAt w' A4 1 (txtRows (Cal.imgR l names)) ∧ Below W.heap.size W w'):=fun W hb=>by
      refine (ImagesR_any A c l N d names W (hL.out.below hb) (hN.out.below hb) h0).mono ?_
      rintro e w' ⟨v,rfl,hO,hb'⟩
      obtain ⟨A4,c4,rfl,hr⟩:=hO.rows
      exact ⟨A4,c4,rfl,hr,hb'⟩
     have hxl : (Cal.imgR l names).length ≤ 1000000:=by
      unfold Cal.imgR
      split
      ·have h1:=Cal.tups_length (Cal.imgL l names)
       have h2:=Cal.imgL_len l names
       have h3:=Nat.mul_le_mul (show names.length ≤ 210 by omega) hll
       omega
      ·exact Nat.zero_le _
     rw [h0] at hck
     generalize Cal.imgR l names = xs at *
     generalize Cal.imgE l names = E at *
     clear h0 hL hN
     go_wp2_with (first
      |(go_at_call 22;refine (him.out _ hb.out).mono ?_;rintro e w3 ⟨A4,c4,rfl,hr4,hb3⟩;replace hb3:=Lib.hid (below_step hb.out hb3);replace hr4:=Lib.hid hr4;clear him)
      |(go_at_call 23;refine (hck.out _ hb3.out).mono ?_;rintro e w4 ⟨rfl,hb4⟩;replace hr4:=Lib.hid (hr4.out.below hb4);replace hb4:=Lib.hid (below_step hb3.out hb4);clear hck)
      |(go_at_call 24;refine (hir.out _ hb4.out).mono ?_;rintro e w5 ⟨A6,c6,rfl,hr6,hb5⟩;replace hr4:=Lib.hid (hr4.out.below hb5);replace hr6:=Lib.hid hr6;replace hb5:=Lib.hid (below_step hb4.out hb5);clear hir)
      |(go_at_call 25;refine (TextsR_any A4 c4 A6 c6 xs _ hr4.out hr6.out hxl).mono ?_;rintro e w6 ⟨rfl,hb6⟩;replace hb6:=Lib.hid (below_step hb5.out hb6)))
     go_ret
     exact ⟨by first | rfl | simp,hb6.out⟩
    ·have hE : Cal.imgE l names = Cal.numE l:=by unfold Cal.imgE;rw [if_neg h0]
     have hR : Cal.imgR l names = []:=by unfold Cal.imgR;rw [hE,if_neg h0]
     rw [hE,hR] at him
     have q1 : (Cal.numE l == 0) = false:=by simpa using h0
     have q2 : (Cal.numE l != 0) = true:=by simpa using h0
     generalize Cal.numE l = E at *
     clear hE hR hL hN
     go_wp2_with (first
      |(go_at_call 22;refine (him.out _ hb.out).mono ?_;rintro e w3 ⟨A4,c4,rfl,hr4,hb3⟩;replace hb3:=Lib.hid (below_step hb.out hb3);replace hr4:=Lib.hid hr4;clear him)
      |(go_at_call 23;refine (hck.out _ hb3.out).mono ?_;rintro e w4 ⟨rfl,hb4⟩;replace hr4:=Lib.hid (hr4.out.below hb4);replace hb4:=Lib.hid (below_step hb3.out hb4);clear hck)
      |(go_at_call 24;refine (hir.out _ hb4.out).mono ?_;rintro e w5 ⟨A6,c6,rfl,hr6,hb5⟩;replace hr4:=Lib.hid (hr4.out.below hb5);replace hr6:=Lib.hid hr6;replace hb5:=Lib.hid (below_step hb4.out hb5);clear hir)
      |(go_at_call 25;refine (TextsR_any A4 c4 A6 c6 xs _ hr4.out hr6.out hxl).mono ?_;rintro e w6 ⟨rfl,hb6⟩;replace hb6:=Lib.hid (below_step hb5.out hb6)))
     go_ret
     exact ⟨by first | rfl | simp,hb4.out⟩
end Go.Proofs.Ythfokpchdlcidaa
