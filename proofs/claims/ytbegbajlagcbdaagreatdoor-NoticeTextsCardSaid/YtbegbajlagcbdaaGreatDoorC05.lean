/- Chapter 8 and what it rests on: definitions and walks, part 05. -/
import Derived.Test.YtbegbajlagcbdaaGreatDoorC04
import Derived.Test.YtbegbajlagcbdaaGreatDoorC01
namespace Go.Proofs.YtbegbajlagcbdaaGreatDoor
open Go Go.RowKit

/-- The byte at a place, as a number. -/
def byteAt (s : ByteArray) (j : Nat) : Int := if h : j < s.size then (s[j].toNat : Int) else 0
theorem byteAt_eq {s : ByteArray} {j : Nat} (h : j < s.size) : byteAt s j = (s[j].toNat : Int) := by unfold byteAt; rw [dif_pos h]
def okAt (s : ByteArray) (j : Nat) : Bool := decide (97 ≤ byteAt s j ∧ byteAt s j ≤ 122) || decide (65 ≤ byteAt s j ∧ byteAt s j ≤ 90) || (decide (j ≠ 0) && (decide (byteAt s j = 45) || decide (48 ≤ byteAt s j ∧ byteAt s j ≤ 57)))
/-- Is a text a name? -/
def nameB (s : ByteArray) : Bool := decide (1 ≤ s.size ∧ s.size ≤ 12 ∧ ∀ j, j < s.size → okAt s j = true)
def okTo (s : ByteArray) (k : Nat) : Prop := ∀ j, j < k → okAt s j = true
theorem okTo_zero (s : ByteArray) : okTo s 0 := fun j h => by omega
theorem okTo_succ {s : ByteArray} {k : Nat} (h : okTo s k) (h2 : okAt s k = true) : okTo s (k + 1) := fun j hj => by
  rcases Nat.lt_or_ge j k with h3 | h3
  · exact h j h3
  · obtain rfl : j = k := by omega
    exact h2
theorem nameB_yes {s : ByteArray} (h1 : 1 ≤ s.size) (h2 : s.size ≤ 12) (h : okTo s s.size) : nameB s = true := by unfold nameB; simp; exact ⟨h1, h2, h⟩
theorem nameB_no {s : ByteArray} {k : Nat} (h : k < s.size) (h2 : okAt s k = false) : nameB s = false := by
  unfold nameB; rw [decide_eq_false_iff_not]; rintro ⟨_, _, h3⟩; rw [h3 k h] at h2; cases h2
theorem nameB_size {s : ByteArray} (h : s.size < 1 ∨ 12 < s.size) : nameB s = false := by
  unfold nameB; rw [decide_eq_false_iff_not]; rintro ⟨_, _, _⟩; omega
theorem isEmpty_yes {s : ByteArray} (h : s.size = 0) : s.toList.isEmpty = true := by rw [ByteArray.toList_eq]; simpa using Array.eq_empty_of_size_eq_zero h
theorem isEmpty_no {s : ByteArray} (h : 1 ≤ s.size) : s.toList.isEmpty = false := by
  rw [ByteArray.toList_eq]
  cases hh : s.data.toList with
  | nil => have : s.size = 0 := by have := congrArg List.length hh; simpa using this
           omega
  | cons a l => rfl
set_option maxHeartbeats 2000000 in
theorem isName_any (s : ByteArray) (w : World) (hs : s.size ≤ maxLen) :
    Calls Tryz.prog 145 #[.string s] w fun e w' => e = .returned (.bool (nameB s)) ∧ w = w' := by
  unfold maxLen at hs
  by_cases h0 : s.size = 0
  · have hfin := Lib.hid (nameB_size (s := s) (by omega))
    have he := isEmpty_yes h0
    have he2 : s.toList = [] := by simpa using he
    clear h0
    go_enter Tryz.func145, Tryz.ntmps145
    go_wp2
    go_ret
    exact ⟨ret_bool hfin.out.symm, rfl⟩
  have h1 : 1 ≤ s.size := by omega
  have he := isEmpty_no h1
  have he2 : ¬ s.toList = [] := by intro h; rw [h] at he; cases he
  clear h0
  by_cases h12 : s.size ≤ 12
  · have hok := okTo_zero s
    go_enter Tryz.func145, Tryz.ntmps145
    go_wp2
    go_loop [15] (fun i => ∃ k : Nat, k ≤ s.size ∧ i = .int .i64 k ∧ okTo s k) (fun i => s.size - (intOf i).toNat)
    case atStart => exact ⟨0, Nat.zero_le _, rfl, hok⟩
    case round =>
      obtain ⟨k, hk, rfl, hok2⟩ := hrel
      clear hok
      by_cases hlt : k < s.size
      · have hb := byteAt_eq hlt
        have hcl : (97 ≤ (s[k].toNat : Int) ∧ (s[k].toNat : Int) ≤ 122) ∨ (65 ≤ (s[k].toNat : Int) ∧ (s[k].toNat : Int) ≤ 90) ∨ (48 ≤ (s[k].toNat : Int) ∧ (s[k].toNat : Int) ≤ 57) ∨ (s[k].toNat : Int) = 45 ∨ (s[k].toNat : Int) < 45 ∨ (46 ≤ (s[k].toNat : Int) ∧ (s[k].toNat : Int) ≤ 47) ∨ (58 ≤ (s[k].toNat : Int) ∧ (s[k].toNat : Int) ≤ 64) ∨ (91 ≤ (s[k].toNat : Int) ∧ (s[k].toNat : Int) ≤ 96) ∨ 123 ≤ (s[k].toNat : Int) := by omega
        have c0 : 0 ≤ (s[k].toNat : Int) := by omega
        have hyes := Lib.hid (fun h : okAt s k = true => okTo_succ hok2 h)
        have hno := Lib.hid (fun h : okAt s k = false => nameB_no hlt h)
        by_cases hk0 : k = 0
        · subst hk0
          rcases hcl with ⟨ca, cb⟩ | ⟨ca, cb⟩ | ⟨ca, cb⟩ | ca | ca | ⟨ca, cb⟩ | ⟨ca, cb⟩ | ⟨ca, cb⟩ | ca
          all_goals first
            | (have hok : Hid (okTo s (0 + 1)) := hyes.out (by unfold okAt; rw [hb]; simp; omega)
               clear hyes hno hb
               go_wp2
               go_round
               case rel => exact ⟨1, by omega, rfl, hok.out⟩
               case measure => simp [intOf]; omega)
            | (have hfin : Hid (nameB s = false) := hno.out (by unfold okAt; rw [hb]; simp; omega)
               clear hyes hno hb
               try (have q0 : decide ((s[0].toNat : Int) ≤ 90) = false := by first | (simp; omega) | (simp; done))
               try (have q1 : decide ((s[0].toNat : Int) ≤ 122) = false := by first | (simp; omega) | (simp; done))
               try (have q2 : decide ((s[0].toNat : Int) ≤ 57) = false := by first | (simp; omega) | (simp; done))
               try (have q3 : ((s[0].toNat : Int) != 45) = true := by first | (simp; omega) | (simp; done))
               try (have q4 : ((s[0].toNat : Int) == 45) = false := by first | (simp; omega) | (simp; done))
               try (have q5 : decide (57 < (s[0].toNat : Int)) = true := by first | (simp; omega) | (simp; done))
               try (have q6 : decide (97 ≤ (s[0].toNat : Int)) = false := by first | (simp; omega) | (simp; done))
               try (have q7 : decide (65 ≤ (s[0].toNat : Int)) = false := by first | (simp; omega) | (simp; done))
               go_wp2
               go_ret
               exact ⟨ret_bool hfin.out.symm, rfl⟩)
        · have hk1 : 0 < (k : Int) := by omega
          have hk2 : ((k : Int) == 0) = false := by simp; omega
          rcases hcl with ⟨ca, cb⟩ | ⟨ca, cb⟩ | ⟨ca, cb⟩ | ca | ca | ⟨ca, cb⟩ | ⟨ca, cb⟩ | ⟨ca, cb⟩ | ca
          all_goals first
            | (have hok : Hid (okTo s (k + 1)) := hyes.out (by unfold okAt; rw [hb]; simp; omega)
               clear hyes hno hb hk0
               go_wp2
               go_round
               case rel => exact ⟨k + 1, by omega, by go_num, hok.out⟩
               case measure => simp [intOf]; omega)
            | (have hfin : Hid (nameB s = false) := hno.out (by unfold okAt; rw [hb]; simp; omega)
               clear hyes hno hb hk0
               try (have q0 : decide ((s[k].toNat : Int) ≤ 90) = false := by first | (simp; omega) | (simp; done))
               try (have q1 : decide ((s[k].toNat : Int) ≤ 122) = false := by first | (simp; omega) | (simp; done))
               try (have q2 : decide ((s[k].toNat : Int) ≤ 57) = false := by first | (simp; omega) | (simp; done))
               try (have q3 : ((s[k].toNat : Int) != 45) = true := by first | (simp; omega) | (simp; done))
               try (have q4 : ((s[k].toNat : Int) == 45) = false := by first | (simp; omega) | (simp; done))
               try (have q5 : decide (57 < (s[k].toNat : Int)) = true := by first | (simp; omega) | (simp; done))
               try (have q6 : decide (97 ≤ (s[k].toNat : Int)) = false := by first | (simp; omega) | (simp; done))
               try (have q7 : decide (65 ≤ (s[k].toNat : Int)) = false := by first | (simp; omega) | (simp; done))
               go_wp2
               go_ret
               exact ⟨ret_bool hfin.out.symm, rfl⟩)
      · obtain rfl : k = s.size := by omega
        have hfin := Lib.hid (nameB_yes h1 h12 hok2)
        go_wp2
        go_ret
        exact ⟨ret_bool hfin.out.symm, rfl⟩
  · have hfin := Lib.hid (nameB_size (s := s) (by omega))
    go_enter Tryz.func145, Tryz.ntmps145
    go_wp2
    go_ret
    exact ⟨ret_bool hfin.out.symm, rfl⟩
end Go.Proofs.YtbegbajlagcbdaaGreatDoor
namespace Go.Proofs.YtbegbajlagcbdaaGreatDoor
open Go Go.RowKit
set_option maxHeartbeats 2000000 in
theorem IsName_any (s : ByteArray) (w : World) (hs : s.size ≤ maxLen) :
    Calls Tryz.prog 90 #[.string s] w fun e w' => e = .returned (.bool (nameB s)) ∧ w = w' := by
  unfold maxLen at hs
  by_cases h0 : s.size < 1
  · have hfin := Lib.hid (nameB_size (s := s) (by omega))
    go_enter Tryz.func90, Tryz.ntmps90
    go_wp2
    go_ret
    exact ⟨ret_bool hfin.out.symm, rfl⟩
  have h1 : 1 ≤ s.size := by omega
  clear h0
  by_cases h12 : s.size ≤ 12
  · have hlt0 : 0 < s.size := h1
    have hb0 := byteAt_eq hlt0
    have hok := okTo_zero s
    have hyes := Lib.hid (fun h : okAt s 0 = true => okTo_succ hok h)
    have hno := Lib.hid (fun h : okAt s 0 = false => nameB_no hlt0 h)
    clear hok
    have hcl : (97 ≤ (s[0].toNat : Int) ∧ (s[0].toNat : Int) ≤ 122) ∨ (65 ≤ (s[0].toNat : Int) ∧ (s[0].toNat : Int) ≤ 90) ∨ (48 ≤ (s[0].toNat : Int) ∧ (s[0].toNat : Int) ≤ 57) ∨ (s[0].toNat : Int) = 45 ∨ (s[0].toNat : Int) < 45 ∨ (46 ≤ (s[0].toNat : Int) ∧ (s[0].toNat : Int) ≤ 47) ∨ (58 ≤ (s[0].toNat : Int) ∧ (s[0].toNat : Int) ≤ 64) ∨ (91 ≤ (s[0].toNat : Int) ∧ (s[0].toNat : Int) ≤ 96) ∨ 123 ≤ (s[0].toNat : Int) := by omega
    have c0 : 0 ≤ (s[0].toNat : Int) := by omega
    have hmain : okTo s 1 → ((97 ≤ (s[0].toNat : Int) ∧ (s[0].toNat : Int) ≤ 122) ∨ (65 ≤ (s[0].toNat : Int) ∧ (s[0].toNat : Int) ≤ 90)) → Calls Tryz.prog 90 #[.string s] w fun e w' => e = .returned (.bool (nameB s)) ∧ w = w' := by
      intro hok1 hc
      have hok1 := Lib.hid hok1
      clear hcl hyes hno hb0
      rcases hc with ⟨ca, cb⟩ | ⟨ca, cb⟩
      all_goals
        try (have q0 : decide ((s[0].toNat : Int) ≤ 90) = false := by first | (simp; omega) | (simp; done))
        try (have q1 : decide ((s[0].toNat : Int) ≤ 122) = false := by first | (simp; omega) | (simp; done))
        try (have q2 : decide ((s[0].toNat : Int) ≤ 57) = false := by first | (simp; omega) | (simp; done))
        try (have q3 : ((s[0].toNat : Int) != 45) = true := by first | (simp; omega) | (simp; done))
        try (have q4 : ((s[0].toNat : Int) == 45) = false := by first | (simp; omega) | (simp; done))
        try (have q5 : decide (97 ≤ (s[0].toNat : Int)) = false := by first | (simp; omega) | (simp; done))
        try (have q6 : decide (65 ≤ (s[0].toNat : Int)) = false := by first | (simp; omega) | (simp; done))
        try (have q7 : decide (48 ≤ (s[0].toNat : Int)) = false := by first | (simp; omega) | (simp; done))
        try (have q8 : decide ((s[0].toNat : Int) ≤ 90) = true := by first | (simp; omega) | (simp; done))
        try (have q9 : decide ((s[0].toNat : Int) ≤ 122) = true := by first | (simp; omega) | (simp; done))
        try (have q10 : decide ((s[0].toNat : Int) ≤ 57) = true := by first | (simp; omega) | (simp; done))
        go_enter Tryz.func90, Tryz.ntmps90
        go_wp2
        go_loop [3] (fun i => ∃ k : Nat, 1 ≤ k ∧ k ≤ s.size ∧ i = .int .i64 k ∧ okTo s k) (fun i => s.size - (intOf i).toNat)
        case atStart => exact ⟨1, by omega, by omega, rfl, hok1.out⟩
        case round =>
          obtain ⟨k, hk0, hk, rfl, hok2⟩ := hrel
          try clear q0
          try clear q1
          try clear q2
          try clear q3
          try clear q4
          try clear q5
          try clear q6
          try clear q7
          try clear q8
          try clear q9
          try clear q10
          clear ca cb c0
          by_cases hlt : k < s.size
          · have hb := byteAt_eq hlt
            have hcl : (97 ≤ (s[k].toNat : Int) ∧ (s[k].toNat : Int) ≤ 122) ∨ (65 ≤ (s[k].toNat : Int) ∧ (s[k].toNat : Int) ≤ 90) ∨ (48 ≤ (s[k].toNat : Int) ∧ (s[k].toNat : Int) ≤ 57) ∨ (s[k].toNat : Int) = 45 ∨ (s[k].toNat : Int) < 45 ∨ (46 ≤ (s[k].toNat : Int) ∧ (s[k].toNat : Int) ≤ 47) ∨ (58 ≤ (s[k].toNat : Int) ∧ (s[k].toNat : Int) ≤ 64) ∨ (91 ≤ (s[k].toNat : Int) ∧ (s[k].toNat : Int) ≤ 96) ∨ 123 ≤ (s[k].toNat : Int) := by omega
            have c0 : 0 ≤ (s[k].toNat : Int) := by omega
            have hyes := Lib.hid (fun h : okAt s k = true => okTo_succ hok2 h)
            have hno := Lib.hid (fun h : okAt s k = false => nameB_no hlt h)
            rcases hcl with ⟨ca, cb⟩ | ⟨ca, cb⟩ | ⟨ca, cb⟩ | ca | ca | ⟨ca, cb⟩ | ⟨ca, cb⟩ | ⟨ca, cb⟩ | ca
            all_goals first
              | (have hok : Hid (okTo s (k + 1)) := hyes.out (by unfold okAt; rw [hb]; simp; omega)
                 clear hyes hno hb
                 try (have q0 : decide ((s[k].toNat : Int) ≤ 90) = false := by first | (simp; omega) | (simp; done))
                 try (have q1 : decide ((s[k].toNat : Int) ≤ 122) = false := by first | (simp; omega) | (simp; done))
                 try (have q2 : decide ((s[k].toNat : Int) ≤ 57) = false := by first | (simp; omega) | (simp; done))
                 try (have q3 : ((s[k].toNat : Int) != 45) = true := by first | (simp; omega) | (simp; done))
                 try (have q4 : ((s[k].toNat : Int) == 45) = false := by first | (simp; omega) | (simp; done))
                 try (have q5 : decide (97 ≤ (s[k].toNat : Int)) = false := by first | (simp; omega) | (simp; done))
                 try (have q6 : decide (65 ≤ (s[k].toNat : Int)) = false := by first | (simp; omega) | (simp; done))
                 try (have q7 : decide (48 ≤ (s[k].toNat : Int)) = false := by first | (simp; omega) | (simp; done))
                 try (have q8 : decide ((s[k].toNat : Int) ≤ 90) = true := by first | (simp; omega) | (simp; done))
                 try (have q9 : decide ((s[k].toNat : Int) ≤ 122) = true := by first | (simp; omega) | (simp; done))
                 try (have q10 : decide ((s[k].toNat : Int) ≤ 57) = true := by first | (simp; omega) | (simp; done))
                 go_wp2
                 go_round
                 case rel => exact ⟨k + 1, by omega, by omega, by go_num, hok.out⟩
                 case measure => simp [intOf]; omega)
              | (have hfin : Hid (nameB s = false) := hno.out (by unfold okAt; rw [hb]; simp; omega)
                 clear hyes hno hb
                 try (have q0 : decide ((s[k].toNat : Int) ≤ 90) = false := by first | (simp; omega) | (simp; done))
                 try (have q1 : decide ((s[k].toNat : Int) ≤ 122) = false := by first | (simp; omega) | (simp; done))
                 try (have q2 : decide ((s[k].toNat : Int) ≤ 57) = false := by first | (simp; omega) | (simp; done))
                 try (have q3 : ((s[k].toNat : Int) != 45) = true := by first | (simp; omega) | (simp; done))
                 try (have q4 : ((s[k].toNat : Int) == 45) = false := by first | (simp; omega) | (simp; done))
                 try (have q5 : decide (97 ≤ (s[k].toNat : Int)) = false := by first | (simp; omega) | (simp; done))
                 try (have q6 : decide (65 ≤ (s[k].toNat : Int)) = false := by first | (simp; omega) | (simp; done))
                 try (have q7 : decide (48 ≤ (s[k].toNat : Int)) = false := by first | (simp; omega) | (simp; done))
                 try (have q8 : decide ((s[k].toNat : Int) ≤ 90) = true := by first | (simp; omega) | (simp; done))
                 try (have q9 : decide ((s[k].toNat : Int) ≤ 122) = true := by first | (simp; omega) | (simp; done))
                 try (have q10 : decide ((s[k].toNat : Int) ≤ 57) = true := by first | (simp; omega) | (simp; done))
                 go_wp2
                 go_ret
                 exact ⟨ret_bool hfin.out.symm, rfl⟩)
          · obtain rfl : k = s.size := by omega
            have hfin := Lib.hid (nameB_yes h1 h12 hok2)
            go_wp2
            go_ret
            exact ⟨ret_bool hfin.out.symm, rfl⟩
    rcases hcl with ⟨ca, cb⟩ | ⟨ca, cb⟩ | ⟨ca, cb⟩ | ca | ca | ⟨ca, cb⟩ | ⟨ca, cb⟩ | ⟨ca, cb⟩ | ca
    all_goals first
      | (have hok : okTo s (0 + 1) := hyes.out (by unfold okAt; rw [hb0]; simp; omega)
         exact hmain hok (by omega))
      | (have hfin : Hid (nameB s = false) := hno.out (by unfold okAt; rw [hb0]; simp; omega)
         clear hyes hno hb0 hmain
         try (have q0 : decide ((s[0].toNat : Int) ≤ 90) = false := by first | (simp; omega) | (simp; done))
         try (have q1 : decide ((s[0].toNat : Int) ≤ 122) = false := by first | (simp; omega) | (simp; done))
         try (have q2 : decide ((s[0].toNat : Int) ≤ 57) = false := by first | (simp; omega) | (simp; done))
         try (have q3 : ((s[0].toNat : Int) != 45) = true := by first | (simp; omega) | (simp; done))
         try (have q4 : ((s[0].toNat : Int) == 45) = false := by first | (simp; omega) | (simp; done))
         try (have q5 : decide (97 ≤ (s[0].toNat : Int)) = false := by first | (simp; omega) | (simp; done))
         try (have q6 : decide (65 ≤ (s[0].toNat : Int)) = false := by first | (simp; omega) | (simp; done))
         try (have q7 : decide (48 ≤ (s[0].toNat : Int)) = false := by first | (simp; omega) | (simp; done))
         try (have q8 : decide ((s[0].toNat : Int) ≤ 90) = true := by first | (simp; omega) | (simp; done))
         try (have q9 : decide ((s[0].toNat : Int) ≤ 122) = true := by first | (simp; omega) | (simp; done))
         try (have q10 : decide ((s[0].toNat : Int) ≤ 57) = true := by first | (simp; omega) | (simp; done))
         go_enter Tryz.func90, Tryz.ntmps90
         go_wp2
         go_ret
         exact ⟨ret_bool hfin.out.symm, rfl⟩)
  · have hfin := Lib.hid (nameB_size (s := s) (by omega))
    go_enter Tryz.func90, Tryz.ntmps90
    go_wp2
    go_ret
    exact ⟨ret_bool hfin.out.symm, rfl⟩
end Go.Proofs.YtbegbajlagcbdaaGreatDoor
namespace Go.Proofs.YtbegbajlagcbdaaGreatDoor
open Go Go.RowKit
/-- The error of a provision by itself. -/
def Cal.provErr (nm : ByteArray) (value fr en : Int) (repeal : Bool) : Int :=
  if nameB nm = true then (if -1000000000 ≤ value ∧ value ≤ 1000000000 ∧ 0 ≤ fr ∧ fr ≤ 200000 ∧ 0 ≤ en ∧ en ≤ 200000 then (if repeal = true ∧ value ≠ 0 then 3 else 0) else 2) else 4
set_option maxHeartbeats 4000000 in
theorem checkProvision_any (nm : ByteArray) (value fr en : Int) (repeal : Bool) (w : World) (hs : nm.size ≤ maxLen) :
    Calls Tryz.prog 85 #[.agg #[.string nm, .int .i64 value, .int .i64 fr, .int .i64 en, .bool repeal]] w fun e w' => e = .returned (.int .i64 (Cal.provErr nm value fr en repeal)) ∧ Below w.heap.size w w' := by
  cases hn : nameB nm
  · go_enter Tryz.func85, Tryz.ntmps85
    go_wp2_with (first | (go_at_call 134; first | refine rin ?_ | refine rout ?_ | refine rany ?_) | (go_at_call 133; first | refine rin ?_ | refine rout ?_ | refine rany ?_) | (go_at_call 145; refine (isName_any _ _ hs).mono ?_; rintro e w' ⟨rfl, rfl⟩))
    go_ret
    exact ⟨ret_int (by unfold Cal.provErr; repeat' split
                       all_goals first | rfl | omega | simp_all), by exact blw⟩
  · by_cases hva : -1000000000 ≤ value
    · by_cases hvb : value ≤ 1000000000
      · by_cases hfa : 0 ≤ fr
        · by_cases hfb : fr ≤ 200000
          · by_cases hia : 0 ≤ en
            · by_cases hib : en ≤ 200000
              · cases repeal
                · go_enter Tryz.func85, Tryz.ntmps85
                  go_wp2_with (first | (go_at_call 134; first | refine rin ?_ | refine rout ?_ | refine rany ?_) | (go_at_call 133; first | refine rin ?_ | refine rout ?_ | refine rany ?_) | (go_at_call 145; refine (isName_any _ _ hs).mono ?_; rintro e w' ⟨rfl, rfl⟩))
                  go_ret
                  exact ⟨ret_int (by unfold Cal.provErr; repeat' split
                                     all_goals first | rfl | omega | simp_all), by exact blw⟩
                · by_cases hz : value = 0
                  · subst hz
                    go_enter Tryz.func85, Tryz.ntmps85
                    go_wp2_with (first | (go_at_call 134; first | refine rin ?_ | refine rout ?_ | refine rany ?_) | (go_at_call 133; first | refine rin ?_ | refine rout ?_ | refine rany ?_) | (go_at_call 145; refine (isName_any _ _ hs).mono ?_; rintro e w' ⟨rfl, rfl⟩))
                    go_ret
                    exact ⟨ret_int (by unfold Cal.provErr; repeat' split
                                       all_goals first | rfl | omega | simp_all), by exact blw⟩
                  · have hze : (value == 0) = false := by simpa using hz
                    have hzn : (value != 0) = true := by simpa using hz
                    go_enter Tryz.func85, Tryz.ntmps85
                    go_wp2_with (first | (go_at_call 134; first | refine rin ?_ | refine rout ?_ | refine rany ?_) | (go_at_call 133; first | refine rin ?_ | refine rout ?_ | refine rany ?_) | (go_at_call 145; refine (isName_any _ _ hs).mono ?_; rintro e w' ⟨rfl, rfl⟩))
                    go_ret
                    exact ⟨ret_int (by unfold Cal.provErr; repeat' split
                                       all_goals first | rfl | omega | simp_all), by exact blw⟩
              · go_enter Tryz.func85, Tryz.ntmps85
                go_wp2_with (first | (go_at_call 134; first | refine rin ?_ | refine rout ?_ | refine rany ?_) | (go_at_call 133; first | refine rin ?_ | refine rout ?_ | refine rany ?_) | (go_at_call 145; refine (isName_any _ _ hs).mono ?_; rintro e w' ⟨rfl, rfl⟩))
                go_ret
                exact ⟨ret_int (by unfold Cal.provErr; repeat' split
                                   all_goals first | rfl | omega | simp_all), by exact blw⟩
            · go_enter Tryz.func85, Tryz.ntmps85
              go_wp2_with (first | (go_at_call 134; first | refine rin ?_ | refine rout ?_ | refine rany ?_) | (go_at_call 133; first | refine rin ?_ | refine rout ?_ | refine rany ?_) | (go_at_call 145; refine (isName_any _ _ hs).mono ?_; rintro e w' ⟨rfl, rfl⟩))
              go_ret
              exact ⟨ret_int (by unfold Cal.provErr; repeat' split
                                 all_goals first | rfl | omega | simp_all), by exact blw⟩
          · go_enter Tryz.func85, Tryz.ntmps85
            go_wp2_with (first | (go_at_call 134; first | refine rin ?_ | refine rout ?_ | refine rany ?_) | (go_at_call 133; first | refine rin ?_ | refine rout ?_ | refine rany ?_) | (go_at_call 145; refine (isName_any _ _ hs).mono ?_; rintro e w' ⟨rfl, rfl⟩))
            go_ret
            exact ⟨ret_int (by unfold Cal.provErr; repeat' split
                               all_goals first | rfl | omega | simp_all), by exact blw⟩
        · go_enter Tryz.func85, Tryz.ntmps85
          go_wp2_with (first | (go_at_call 134; first | refine rin ?_ | refine rout ?_ | refine rany ?_) | (go_at_call 133; first | refine rin ?_ | refine rout ?_ | refine rany ?_) | (go_at_call 145; refine (isName_any _ _ hs).mono ?_; rintro e w' ⟨rfl, rfl⟩))
          go_ret
          exact ⟨ret_int (by unfold Cal.provErr; repeat' split
                             all_goals first | rfl | omega | simp_all), by exact blw⟩
      · go_enter Tryz.func85, Tryz.ntmps85
        go_wp2_with (first | (go_at_call 134; first | refine rin ?_ | refine rout ?_ | refine rany ?_) | (go_at_call 133; first | refine rin ?_ | refine rout ?_ | refine rany ?_) | (go_at_call 145; refine (isName_any _ _ hs).mono ?_; rintro e w' ⟨rfl, rfl⟩))
        go_ret
        exact ⟨ret_int (by unfold Cal.provErr; repeat' split
                           all_goals first | rfl | omega | simp_all), by exact blw⟩
    · go_enter Tryz.func85, Tryz.ntmps85
      go_wp2_with (first | (go_at_call 134; first | refine rin ?_ | refine rout ?_ | refine rany ?_) | (go_at_call 133; first | refine rin ?_ | refine rout ?_ | refine rany ?_) | (go_at_call 145; refine (isName_any _ _ hs).mono ?_; rintro e w' ⟨rfl, rfl⟩))
      go_ret
      exact ⟨ret_int (by unfold Cal.provErr; repeat' split
                         all_goals first | rfl | omega | simp_all), by exact blw⟩
set_option maxHeartbeats 4000000 in
theorem ProvisionErr_any (nm : ByteArray) (value fr en : Int) (repeal : Bool) (w : World) (hs : nm.size ≤ maxLen) :
    Calls Tryz.prog 33 #[.agg #[.string nm, .int .i64 value, .int .i64 fr, .int .i64 en, .bool repeal]] w fun e w' => e = .returned (.int .i64 (Cal.provErr nm value fr en repeal)) ∧ Below w.heap.size w w' := by
  cases hn : nameB nm
  · go_enter Tryz.func33, Tryz.ntmps33
    go_wp2_with (first | (go_at_call 59; first | refine rin ?_ | refine rout ?_ | refine rany ?_) | (go_at_call 14; first | refine rin ?_ | refine rout ?_ | refine rany ?_) | (go_at_call 90; refine (IsName_any _ _ hs).mono ?_; rintro e w' ⟨rfl, rfl⟩))
    go_ret
    exact ⟨ret_int (by unfold Cal.provErr; repeat' split
                       all_goals first | rfl | omega | simp_all), by exact blw⟩
  · by_cases hva : -1000000000 ≤ value
    · by_cases hvb : value ≤ 1000000000
      · by_cases hfa : 0 ≤ fr
        · by_cases hfb : fr ≤ 200000
          · by_cases hia : 0 ≤ en
            · by_cases hib : en ≤ 200000
              · cases repeal
                · go_enter Tryz.func33, Tryz.ntmps33
                  go_wp2_with (first | (go_at_call 59; first | refine rin ?_ | refine rout ?_ | refine rany ?_) | (go_at_call 14; first | refine rin ?_ | refine rout ?_ | refine rany ?_) | (go_at_call 90; refine (IsName_any _ _ hs).mono ?_; rintro e w' ⟨rfl, rfl⟩))
                  go_ret
                  exact ⟨ret_int (by unfold Cal.provErr; repeat' split
                                     all_goals first | rfl | omega | simp_all), by exact blw⟩
                · by_cases hz : value = 0
                  · subst hz
                    go_enter Tryz.func33, Tryz.ntmps33
                    go_wp2_with (first | (go_at_call 59; first | refine rin ?_ | refine rout ?_ | refine rany ?_) | (go_at_call 14; first | refine rin ?_ | refine rout ?_ | refine rany ?_) | (go_at_call 90; refine (IsName_any _ _ hs).mono ?_; rintro e w' ⟨rfl, rfl⟩))
                    go_ret
                    exact ⟨ret_int (by unfold Cal.provErr; repeat' split
                                       all_goals first | rfl | omega | simp_all), by exact blw⟩
                  · have hze : (value == 0) = false := by simpa using hz
                    have hzn : (value != 0) = true := by simpa using hz
                    go_enter Tryz.func33, Tryz.ntmps33
                    go_wp2_with (first | (go_at_call 59; first | refine rin ?_ | refine rout ?_ | refine rany ?_) | (go_at_call 14; first | refine rin ?_ | refine rout ?_ | refine rany ?_) | (go_at_call 90; refine (IsName_any _ _ hs).mono ?_; rintro e w' ⟨rfl, rfl⟩))
                    go_ret
                    exact ⟨ret_int (by unfold Cal.provErr; repeat' split
                                       all_goals first | rfl | omega | simp_all), by exact blw⟩
              · go_enter Tryz.func33, Tryz.ntmps33
                go_wp2_with (first | (go_at_call 59; first | refine rin ?_ | refine rout ?_ | refine rany ?_) | (go_at_call 14; first | refine rin ?_ | refine rout ?_ | refine rany ?_) | (go_at_call 90; refine (IsName_any _ _ hs).mono ?_; rintro e w' ⟨rfl, rfl⟩))
                go_ret
                exact ⟨ret_int (by unfold Cal.provErr; repeat' split
                                   all_goals first | rfl | omega | simp_all), by exact blw⟩
            · go_enter Tryz.func33, Tryz.ntmps33
              go_wp2_with (first | (go_at_call 59; first | refine rin ?_ | refine rout ?_ | refine rany ?_) | (go_at_call 14; first | refine rin ?_ | refine rout ?_ | refine rany ?_) | (go_at_call 90; refine (IsName_any _ _ hs).mono ?_; rintro e w' ⟨rfl, rfl⟩))
              go_ret
              exact ⟨ret_int (by unfold Cal.provErr; repeat' split
                                 all_goals first | rfl | omega | simp_all), by exact blw⟩
          · go_enter Tryz.func33, Tryz.ntmps33
            go_wp2_with (first | (go_at_call 59; first | refine rin ?_ | refine rout ?_ | refine rany ?_) | (go_at_call 14; first | refine rin ?_ | refine rout ?_ | refine rany ?_) | (go_at_call 90; refine (IsName_any _ _ hs).mono ?_; rintro e w' ⟨rfl, rfl⟩))
            go_ret
            exact ⟨ret_int (by unfold Cal.provErr; repeat' split
                               all_goals first | rfl | omega | simp_all), by exact blw⟩
        · go_enter Tryz.func33, Tryz.ntmps33
          go_wp2_with (first | (go_at_call 59; first | refine rin ?_ | refine rout ?_ | refine rany ?_) | (go_at_call 14; first | refine rin ?_ | refine rout ?_ | refine rany ?_) | (go_at_call 90; refine (IsName_any _ _ hs).mono ?_; rintro e w' ⟨rfl, rfl⟩))
          go_ret
          exact ⟨ret_int (by unfold Cal.provErr; repeat' split
                             all_goals first | rfl | omega | simp_all), by exact blw⟩
      · go_enter Tryz.func33, Tryz.ntmps33
        go_wp2_with (first | (go_at_call 59; first | refine rin ?_ | refine rout ?_ | refine rany ?_) | (go_at_call 14; first | refine rin ?_ | refine rout ?_ | refine rany ?_) | (go_at_call 90; refine (IsName_any _ _ hs).mono ?_; rintro e w' ⟨rfl, rfl⟩))
        go_ret
        exact ⟨ret_int (by unfold Cal.provErr; repeat' split
                           all_goals first | rfl | omega | simp_all), by exact blw⟩
    · go_enter Tryz.func33, Tryz.ntmps33
      go_wp2_with (first | (go_at_call 59; first | refine rin ?_ | refine rout ?_ | refine rany ?_) | (go_at_call 14; first | refine rin ?_ | refine rout ?_ | refine rany ?_) | (go_at_call 90; refine (IsName_any _ _ hs).mono ?_; rintro e w' ⟨rfl, rfl⟩))
      go_ret
      exact ⟨ret_int (by unfold Cal.provErr; repeat' split
                         all_goals first | rfl | omega | simp_all), by exact blw⟩
end Go.Proofs.YtbegbajlagcbdaaGreatDoor
namespace Go.Proofs.YtbegbajlagcbdaaGreatDoor
open Go Go.RowKit
/-- The error of provisions, from the entry on, the one before entered on day e0. -/
def Cal.provErrOf (p : Prov) : Int := Cal.provErr p.name p.value p.fr p.en p.repeal
def Cal.provsErrFrom (e0 : Int) : List Prov → Int
  | [] => 0
  | p :: r => if Cal.provErrOf p = 0 then (if p.en < e0 then 9 else Cal.provsErrFrom p.en r) else Cal.provErrOf p
theorem Cal.provsErrFrom_cons (e0 : Int) (p : Prov) (r : List Prov) : Cal.provsErrFrom e0 (p :: r) = if Cal.provErrOf p = 0 then (if p.en < e0 then 9 else Cal.provsErrFrom p.en r) else Cal.provErrOf p := rfl
def Cal.provsErr (l : List Prov) : Int := if 200 < l.length then 8 else Cal.provsErrFrom 0 l
theorem CheckProvisions_any (A : Option Addr) (c : Nat) (l : List Prov) (w : World) (hl : Provs w A l) :
    Calls Tryz.prog 91 #[.slice A l.length c] w fun e w' => e = .returned (.int .i64 (Cal.provsErr l)) ∧ Below w.heap.size w w' := by
  have hsz := hl.size
  by_cases hbig : 200 < l.length
  · have hfin : Hid (Cal.provsErr l = 8) := by show _ = _; unfold Cal.provsErr; rw [if_pos hbig]
    go_enter Tryz.func91, Tryz.ntmps91
    go_wp2
    go_ret
    exact ⟨ret_int hfin.out.symm, Below.refl _ _⟩
  · have hfin : Hid (Cal.provsErr l = Cal.provsErrFrom 0 l) := by show _ = _; unfold Cal.provsErr; rw [if_neg hbig]
    have hl' := Lib.hid hl
    clear hl
    go_enter Tryz.func91, Tryz.ntmps91
    go_wp2
    go_loopw [3, 12] (fun en i wr => ∃ (k : Nat) (e0 : Int), k ≤ l.length ∧ i = .int .i64 k ∧ en = .int .i64 e0 ∧ Hid (Cal.provsErr l = Cal.provsErrFrom e0 (l.drop k)) ∧ Below w.heap.size w wr) (fun _ i _ => l.length - (intOf i).toNat)
    case atStart => exact ⟨0, 0, Nat.zero_le _, rfl, rfl, hfin, Below.refl _ _⟩
    case round =>
      obtain ⟨k, e0, hk, rfl, rfl, hinv, hb⟩ := hrel
      clear hfin
      by_cases hlt : k < l.length
      · have hk' : l[k]? = some l[k] := List.getElem?_eq_getElem hlt
        have hd := Lib.hid (List.drop_eq_getElem_cons hlt)
        have hnm := hl'.out.names k _ hk'
        obtain ⟨b, o, rfl, hbl, c0, c1, c2, c3, c4⟩ := (hl'.out.below hb).at_ hk'
        clear hk'
        generalize l[k] = p at *
        have hbs := hb.size
        by_cases hp0 : Cal.provErrOf p = 0
        · have hpz := Lib.hid hp0
          have hp1 : (Cal.provErr p.name p.value p.fr p.en p.repeal != 0) = false := by simpa [Cal.provErrOf] using hp0
          clear hp0
          by_cases hlt2 : p.en < e0
          · have hfin : Hid (Cal.provsErr l = 9) := by show _ = _; rw [hinv.out, hd.out, Cal.provsErrFrom_cons, if_pos hpz.out, if_pos hlt2]
            go_wp2_with (go_at_call 85; refine (checkProvision_any _ _ _ _ _ _ hnm).mono ?_; rintro e w1 ⟨rfl, hb1⟩; obtain ⟨hc1, hf1⟩ := bcell hb1)
            go_ret
            exact ⟨ret_int hfin.out.symm, below_step (hb.alloc hbs _) hb1⟩
          · have hnx : Hid (Cal.provsErr l = Cal.provsErrFrom p.en (l.drop (k + 1))) := by show _ = _; rw [hinv.out, hd.out, Cal.provsErrFrom_cons, if_pos hpz.out, if_neg hlt2]
            go_wp2_with (go_at_call 85; refine (checkProvision_any _ _ _ _ _ _ hnm).mono ?_; rintro e w1 ⟨rfl, hb1⟩; obtain ⟨hc1, hf1⟩ := bcell hb1)
            go_roundw
            case rel => exact ⟨k + 1, p.en, by omega, by go_num, rfl, hnx, below_step (hb.alloc hbs _) hb1⟩
            case measure => simp [intOf]; omega
        · have hp1 : (Cal.provErr p.name p.value p.fr p.en p.repeal != 0) = true := by simpa [Cal.provErrOf] using hp0
          have hfin : Hid (Cal.provsErr l = Cal.provErr p.name p.value p.fr p.en p.repeal) := by show _ = _; rw [hinv.out, hd.out, Cal.provsErrFrom_cons, if_neg hp0]; rfl
          clear hp0
          go_wp2_with (go_at_call 85; refine (checkProvision_any _ _ _ _ _ _ hnm).mono ?_; rintro e w1 ⟨rfl, hb1⟩; obtain ⟨hc1, hf1⟩ := bcell hb1)
          go_ret
          exact ⟨ret_int hfin.out.symm, below_step (hb.alloc hbs _) hb1⟩
      · obtain rfl : k = l.length := by omega
        have hfin : Hid (Cal.provsErr l = 0) := by show _ = _; rw [hinv.out, List.drop_length]; rfl
        clear hinv
        go_wp2
        go_ret
        exact ⟨ret_int hfin.out.symm, hb⟩
end Go.Proofs.YtbegbajlagcbdaaGreatDoor
