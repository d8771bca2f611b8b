/- What the statements rest on: definitions and walks, part 18. -/
import Derived.Test.YthfokpchdlcidaaJ01
import Derived.Sort.EncStr
set_option maxRecDepth 100000
set_option maxHeartbeats 16000000
set_option linter.unusedSimpArgs false
set_option linter.unusedVariables false
namespace Go.Proofs.Ythfokpchdlcidaa
open Go Go.RowKit
theorem IsName_any (s : ByteArray) (w : World) (hs : s.size ≤ maxLen) :
  Calls Try.prog 41 #[.string s] w fun e w'=>e = .returned (.bool (nameB s)) ∧ w = w':=by
 unfold maxLen at hs
 by_cases h0 : s.size < 1
 ·have hfin:=Lib.hid (nameB_size (s:=s) (by omega))
  go_enter Try.func41,Try.ntmps41
  go_wp2
  go_ret
  exact ⟨ret_bool hfin.out.symm,rfl⟩
 have h1 : 1 ≤ s.size:=by omega
 clear h0
 by_cases h12 : s.size ≤ 12
 ·have hlt0 : 0 < s.size:=h1
  have hb0:=byteAt_eq hlt0
  have hok:=okTo_zero s
  have hyes:=Lib.hid (fun h : okAt s 0 = true=>okTo_succ hok h)
  have hno:=Lib.hid (fun h : okAt s 0 = false=>nameB_no hlt0 h)
  clear hok
  have hcl : (97 ≤ (s[0].toNat : Int) ∧ (s[0].toNat : Int) ≤ 122) ∨ (65 ≤ (s[0].toNat : Int) ∧ (s[0].toNat : Int) ≤ 90) ∨ (48 ≤ (s[0].toNat : Int) ∧ (s[0].toNat : Int) ≤ 57) ∨ (s[0].toNat : Int) = 45 ∨ (s[0].toNat : Int) < 45 ∨ (46 ≤ (s[0].toNat : Int) ∧ (s[0].toNat : Int) ≤ 47) ∨ (58 ≤ (s[0].toNat : Int) ∧ (s[0].toNat : Int) ≤ 64) ∨ (91 ≤ (s[0].toNat : Int) ∧ (s[0].toNat : Int) ≤ 96) ∨ 123 ≤ (s[0].toNat : Int):=by omega
  have c0 : 0 ≤ (s[0].toNat : Int):=by omega
  have hmain : okTo s 1 → ((97 ≤ (s[0].toNat : Int) ∧ (s[0].toNat : Int) ≤ 122) ∨ (65 ≤ (s[0].toNat : Int) ∧ (s[0].toNat : Int) ≤ 90)) → Calls Try.prog 41 #[.string s] w fun e w'=>e = .returned (.bool (nameB s)) ∧ w = w':=by
   intro hok1 hc
   have hok1:=Lib.hid hok1
   clear hcl hyes hno hb0
   rcases hc with ⟨ca,cb⟩ | ⟨ca,cb⟩
   all_goals
    try (have q0 : decide ((s[0].toNat : Int) ≤ 90) = false:=by first | (simp;omega) | (simp;done))
    try (have q1 : decide ((s[0].toNat : Int) ≤ 122) = false:=by first | (simp;omega) | (simp;done))
    try (have q2 : decide ((s[0].toNat : Int) ≤ 57) = false:=by first | (simp;omega) | (simp;done))
    try (have q3 : ((s[0].toNat : Int) != 45) = true:=by first | (simp;omega) | (simp;done))
    try (have q4 : ((s[0].toNat : Int) == 45) = false:=by first | (simp;omega) | (simp;done))
    try (have q5 : decide (97 ≤ (s[0].toNat : Int)) = false:=by first | (simp;omega) | (simp;done))
    try (have q6 : decide (65 ≤ (s[0].toNat : Int)) = false:=by first | (simp;omega) | (simp;done))
    try (have q7 : decide (48 ≤ (s[0].toNat : Int)) = false:=by first | (simp;omega) | (simp;done))
    try (have q8 : decide ((s[0].toNat : Int) ≤ 90) = true:=by first | (simp;omega) | (simp;done))
    try (have q9 : decide ((s[0].toNat : Int) ≤ 122) = true:=by first | (simp;omega) | (simp;done))
    try (have q10 : decide ((s[0].toNat : Int) ≤ 57) = true:=by first | (simp;omega) | (simp;done))
    go_enter Try.func41,Try.ntmps41
    go_wp2
    go_loop [3] (fun i=>∃ k : Nat,1 ≤ k ∧ k ≤ s.size ∧ i = .int .i64 k ∧ okTo s k) (fun i=>s.size - (intOf i).toNat)
    case atStart=>exact ⟨1,by omega,by omega,rfl,hok1.out⟩
    case round =>
     obtain ⟨k,hk0,hk,rfl,hok2⟩:=hrel
     try clear q0
     try clear q1
     try clear q2
     try clear q3
     try clear q4
     try clear q5
     try clear q6
     try clear q7
     try clear q8
     try clear q9
     try clear q10
     clear ca cb c0
     by_cases hlt : k < s.size
     ·have hb:=byteAt_eq hlt
      have hcl : (97 ≤ (s[k].toNat : Int) ∧ (s[k].toNat : Int) ≤ 122) ∨ (65 ≤ (s[k].toNat : Int) ∧ (s[k].toNat : Int) ≤ 90) ∨ (48 ≤ (s[k].toNat : Int) ∧ (s[k].toNat : Int) ≤ 57) ∨ (s[k].toNat : Int) = 45 ∨ (s[k].toNat : Int) < 45 ∨ (46 ≤ (s[k].toNat : Int) ∧ (s[k].toNat : Int) ≤ 47) ∨ (58 ≤ (s[k].toNat : Int) ∧ (s[k].toNat : Int) ≤ 64) ∨ (91 ≤ (s[k].toNat : Int) ∧ (s[k].toNat : Int) ≤ 96) ∨ 123 ≤ (s[k].toNat : Int):=by omega
      have c0 : 0 ≤ (s[k].toNat : Int):=by omega
      have hyes:=Lib.hid (fun h : okAt s k = true=>okTo_succ hok2 h)
      have hno:=Lib.hid (fun h : okAt s k = false=>nameB_no hlt h)
      rcases hcl with ⟨ca,cb⟩ | ⟨ca,cb⟩ | ⟨ca,cb⟩ | ca | ca | ⟨ca,cb⟩ | ⟨ca,cb⟩ | ⟨ca,cb⟩ | ca
      all_goals first
       |(have hok : Hid (okTo s (k + 1)):=hyes.out (by unfold okAt;rw [hb];simp;omega)
         clear hyes hno hb
         try (have q0 : decide ((s[k].toNat : Int) ≤ 90) = false:=by first | (simp;omega) | (simp;done))
         try (have q1 : decide ((s[k].toNat : Int) ≤ 122) = false:=by first | (simp;omega) | (simp;done))
         try (have q2 : decide ((s[k].toNat : Int) ≤ 57) = false:=by first | (simp;omega) | (simp;done))
         try (have q3 : ((s[k].toNat : Int) != 45) = true:=by first | (simp;omega) | (simp;done))
         try (have q4 : ((s[k].toNat : Int) == 45) = false:=by first | (simp;omega) | (simp;done))
         try (have q5 : decide (97 ≤ (s[k].toNat : Int)) = false:=by first | (simp;omega) | (simp;done))
         try (have q6 : decide (65 ≤ (s[k].toNat : Int)) = false:=by first | (simp;omega) | (simp;done))
         try (have q7 : decide (48 ≤ (s[k].toNat : Int)) = false:=by first | (simp;omega) | (simp;done))
         try (have q8 : decide ((s[k].toNat : Int) ≤ 90) = true:=by first | (simp;omega) | (simp;done))
         try (have q9 : decide ((s[k].toNat : Int) ≤ 122) = true:=by first | (simp;omega) | (simp;done))
         try (have q10 : decide ((s[k].toNat : Int) ≤ 57) = true:=by first | (simp;omega) | (simp;done))
         go_wp2
         go_round
         case rel=>exact ⟨k + 1,by omega,by omega,by go_num,hok.out⟩
         case measure=>simp [intOf];omega)
       |(have hfin : Hid (nameB s = false):=hno.out (by unfold okAt;rw [hb];simp;omega)
         clear hyes hno hb
         try (have q0 : decide ((s[k].toNat : Int) ≤ 90) = false:=by first | (simp;omega) | (simp;done))
         try (have q1 : decide ((s[k].toNat : Int) ≤ 122) = false:=by first | (simp;omega) | (simp;done))
         try (have q2 : decide ((s[k].toNat : Int) ≤ 57) = false:=by first | (simp;omega) | (simp;done))
         try (have q3 : ((s[k].toNat : Int) != 45) = true:=by first | (simp;omega) | (simp;done))
         try (have q4 : ((s[k].toNat : Int) == 45) = false:=by first | (simp;omega) | (simp;done))
         try (have q5 : decide (97 ≤ (s[k].toNat : Int)) = false:=by first | (simp;omega) | (simp;done))
         try (have q6 : decide (65 ≤ (s[k].toNat : Int)) = false:=by first | (simp;omega) | (simp;done))
         try (have q7 : decide (48 ≤ (s[k].toNat : Int)) = false:=by first | (simp;omega) | (simp;done))
         try (have q8 : decide ((s[k].toNat : Int) ≤ 90) = true:=by first | (simp;omega) | (simp;done))
         try (have q9 : decide ((s[k].toNat : Int) ≤ 122) = true:=by first | (simp;omega) | (simp;done))
         try (have q10 : decide ((s[k].toNat : Int) ≤ 57) = true:=by first | (simp;omega) | (simp;done))
         go_wp2
         go_ret
         exact ⟨ret_bool hfin.out.symm,rfl⟩)
     ·obtain rfl : k = s.size:=by omega
      have hfin:=Lib.hid (nameB_yes h1 h12 hok2)
      go_wp2
      go_ret
      exact ⟨ret_bool hfin.out.symm,rfl⟩
  rcases hcl with ⟨ca,cb⟩ | ⟨ca,cb⟩ | ⟨ca,cb⟩ | ca | ca | ⟨ca,cb⟩ | ⟨ca,cb⟩ | ⟨ca,cb⟩ | ca
  all_goals first
   |(have hok : okTo s (0 + 1):=hyes.out (by unfold okAt;rw [hb0];simp;omega)
     exact hmain hok (by omega))
   |(have hfin : Hid (nameB s = false):=hno.out (by unfold okAt;rw [hb0];simp;omega)
     clear hyes hno hb0 hmain
     try (have q0 : decide ((s[0].toNat : Int) ≤ 90) = false:=by first | (simp;omega) | (simp;done))
     try (have q1 : decide ((s[0].toNat : Int) ≤ 122) = false:=by first | (simp;omega) | (simp;done))
     try (have q2 : decide ((s[0].toNat : Int) ≤ 57) = false:=by first | (simp;omega) | (simp;done))
     try (have q3 : ((s[0].toNat : Int) != 45) = true:=by first | (simp;omega) | (simp;done))
     try (have q4 : ((s[0].toNat : Int) == 45) = false:=by first | (simp;omega) | (simp;done))
     try (have q5 : decide (97 ≤ (s[0].toNat : Int)) = false:=by first | (simp;omega) | (simp;done))
     try (have q6 : decide (65 ≤ (s[0].toNat : Int)) = false:=by first | (simp;omega) | (simp;done))
     try (have q7 : decide (48 ≤ (s[0].toNat : Int)) = false:=by first | (simp;omega) | (simp;done))
     try (have q8 : decide ((s[0].toNat : Int) ≤ 90) = true:=by first | (simp;omega) | (simp;done))
     try (have q9 : decide ((s[0].toNat : Int) ≤ 122) = true:=by first | (simp;omega) | (simp;done))
     try (have q10 : decide ((s[0].toNat : Int) ≤ 57) = true:=by first | (simp;omega) | (simp;done))
     go_enter Try.func41,Try.ntmps41
     go_wp2
     go_ret
     exact ⟨ret_bool hfin.out.symm,rfl⟩)
 ·have hfin:=Lib.hid (nameB_size (s:=s) (by omega))
  go_enter Try.func41,Try.ntmps41
  go_wp2
  go_ret
  exact ⟨ret_bool hfin.out.symm,rfl⟩
end Go.Proofs.Ythfokpchdlcidaa
namespace Go.Proofs.Ythfokpchdlcidaa.Cal
open Go.Lib
abbrev Txt:=List UInt8
end Go.Proofs.Ythfokpchdlcidaa.Cal
namespace Go.Proofs.Ythfokpchdlcidaa
open Go Go.RowKit Go.Sort
def txtRows (zs : List Cal.Txt) : List (List Value):=zs.map fun n=>[encStr n]
def TextsL (w : World) (B : Nat) (v : Value) (zs : List Cal.Txt) : Prop:=OwnL w B 9 1 v (txtRows zs)
theorem txtRows_length (zs : List Cal.Txt) : (txtRows zs).length = zs.length:=by unfold txtRows;simp
theorem txtRows_wid (zs : List Cal.Txt) : ∀ r ∈ txtRows zs,r.length = 1:=fun r hr=>by obtain ⟨n,_,rfl⟩:=List.mem_map.1 hr;rfl
theorem txtRows_one (zs : List Cal.Txt) : ∀ r ∈ txtRows zs,∀ u ∈ r,u.oneCell' = true:=fun r hr u hu=>by
 obtain ⟨n,_,rfl⟩:=List.mem_map.1 hr
 simp only [List.mem_singleton] at hu;subst hu;rfl
theorem txtRows_flat (zs : List Cal.Txt) : (txtRows zs).flatten = zs.map encStr:=by
 induction zs with
 | nil=>rfl
 | cons z zs ih=>unfold txtRows at ih ⊢;rw [List.map_cons,List.flatten_cons,ih];rfl
theorem TextsL.of {w : World} {B : Nat} {v : Value} {zs : List Cal.Txt} (h : w.ownsRow B 9 1 v zs.length (zs.map encStr)) : TextsL w B v zs :=
 ⟨by rw [txtRows_length,txtRows_flat];exact h,txtRows_wid zs,txtRows_one zs⟩
end Go.Proofs.Ythfokpchdlcidaa
