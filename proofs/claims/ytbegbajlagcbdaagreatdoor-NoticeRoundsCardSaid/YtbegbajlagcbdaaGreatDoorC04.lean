/- Chapter 8 and what it rests on: definitions and walks, part 04. -/
import Derived.Test.YtbegbajlagcbdaaGreatDoorC03
namespace Go.Proofs.YtbegbajlagcbdaaGreatDoor
open Go Go.RowKit

/-- The byte at a place, as a number. -/
def byteAt (s : ByteArray) (j : Nat) : Int := if h : j < s.size then (s[j].toNat : Int) else 0
theorem byteAt_eq {s : ByteArray} {j : Nat} (h : j < s.size) : byteAt s j = (s[j].toNat : Int) := by unfold byteAt; rw [dif_pos h]
def okAt (s : ByteArray) (j : Nat) : Bool := decide (97 ≤ byteAt s j ∧ byteAt s j ≤ 122) || decide (65 ≤ byteAt s j ∧ byteAt s j ≤ 90) || (decide (j ≠ 0) && (decide (byteAt s j = 45) || decide (48 ≤ byteAt s j ∧ byteAt s j ≤ 57)))
/-- Is a text a name? -/
def nameB (s : ByteArray) : Bool := decide (1 ≤ s.size ∧ s.size ≤ 12 ∧ ∀ j, j < s.size → okAt s j = true)
def okTo (s : ByteArray) (k : Nat) : Prop := ∀ j, j < k → okAt s j = true
theorem okTo_zero (s : ByteArray) : okTo s 0 := fun j h => by omega
theorem okTo_succ {s : ByteArray} {k : Nat} (h : okTo s k) (h2 : okAt s k = true) : okTo s (k + 1) := fun j hj => by
  rcases Nat.lt_or_ge j k with h3 | h3
  · exact h j h3
  · obtain rfl : j = k := by omega
    exact h2
theorem nameB_yes {s : ByteArray} (h1 : 1 ≤ s.size) (h2 : s.size ≤ 12) (h : okTo s s.size) : nameB s = true := by unfold nameB; simp; exact ⟨h1, h2, h⟩
theorem nameB_no {s : ByteArray} {k : Nat} (h : k < s.size) (h2 : okAt s k = false) : nameB s = false := by
  unfold nameB; rw [decide_eq_false_iff_not]; rintro ⟨_, _, h3⟩; rw [h3 k h] at h2; cases h2
theorem nameB_size {s : ByteArray} (h : s.size < 1 ∨ 12 < s.size) : nameB s = false := by
  unfold nameB; rw [decide_eq_false_iff_not]; rintro ⟨_, _, _⟩; omega
theorem isEmpty_yes {s : ByteArray} (h : s.size = 0) : s.toList.isEmpty = true := by rw [ByteArray.toList_eq]; simpa using Array.eq_empty_of_size_eq_zero h
theorem isEmpty_no {s : ByteArray} (h : 1 ≤ s.size) : s.toList.isEmpty = false := by
  rw [ByteArray.toList_eq]
  cases hh : s.data.toList with
  | nil => have : s.size = 0 := by have := congrArg List.length hh; simpa using this
           omega
  | cons a l => rfl
set_option maxHeartbeats 2000000 in
theorem isName_any (s : ByteArray) (w : World) (hs : s.size ≤ maxLen) :
    Calls Tryz.prog 145 #[.string s] w fun e w' => e = .returned (.bool (nameB s)) ∧ w = w' := by
  unfold maxLen at hs
  by_cases h0 : s.size = 0
  · have hfin := Lib.hid (nameB_size (s := s) (by omega))
    have he := isEmpty_yes h0
    have he2 : s.toList = [] := by simpa using he
    clear h0
    go_enter Tryz.func145, Tryz.ntmps145
    go_wp2
    go_ret
    exact ⟨ret_bool hfin.out.symm, rfl⟩
  have h1 : 1 ≤ s.size := by omega
  have he := isEmpty_no h1
  have he2 : ¬ s.toList = [] := by intro h; rw [h] at he; cases he
  clear h0
  by_cases h12 : s.size ≤ 12
  · have hok := okTo_zero s
    go_enter Tryz.func145, Tryz.ntmps145
    go_wp2
    go_loop [15] (fun i => ∃ k : Nat, k ≤ s.size ∧ i = .int .i64 k ∧ okTo s k) (fun i => s.size - (intOf i).toNat)
    case atStart => exact ⟨0, Nat.zero_le _, rfl, hok⟩
    case round =>
      obtain ⟨k, hk, rfl, hok2⟩ := hrel
      clear hok
      by_cases hlt : k < s.size
      · have hb := byteAt_eq hlt
        have hcl : (97 ≤ (s[k].toNat : Int) ∧ (s[k].toNat : Int) ≤ 122) ∨ (65 ≤ (s[k].toNat : Int) ∧ (s[k].toNat : Int) ≤ 90) ∨ (48 ≤ (s[k].toNat : Int) ∧ (s[k].toNat : Int) ≤ 57) ∨ (s[k].toNat : Int) = 45 ∨ (s[k].toNat : Int) < 45 ∨ (46 ≤ (s[k].toNat : Int) ∧ (s[k].toNat : Int) ≤ 47) ∨ (58 ≤ (s[k].toNat : Int) ∧ (s[k].toNat : Int) ≤ 64) ∨ (91 ≤ (s[k].toNat : Int) ∧ (s[k].toNat : Int) ≤ 96) ∨ 123 ≤ (s[k].toNat : Int) := by omega
        have c0 : 0 ≤ (s[k].toNat : Int) := by omega
        have hyes := Lib.hid (fun h : okAt s k = true => okTo_succ hok2 h)
        have hno := Lib.hid (fun h : okAt s k = false => nameB_no hlt h)
        by_cases hk0 : k = 0
        · subst hk0
          rcases hcl with ⟨ca, cb⟩ | ⟨ca, cb⟩ | ⟨ca, cb⟩ | ca | ca | ⟨ca, cb⟩ | ⟨ca, cb⟩ | ⟨ca, cb⟩ | ca
          all_goals first
            | (have hok : Hid (okTo s (0 + 1)) := hyes.out (by unfold okAt; rw [hb]; simp; omega)
               clear hyes hno hb
               go_wp2
               go_round
               case rel => exact ⟨1, by omega, rfl, hok.out⟩
               case measure => simp [intOf]; omega)
            | (have hfin : Hid (nameB s = false) := hno.out (by unfold okAt; rw [hb]; simp; omega)
               clear hyes hno hb
               try (have q0 : decide ((s[0].toNat : Int) ≤ 90) = false := by first | (simp; omega) | (simp; done))
               try (have q1 : decide ((s[0].toNat : Int) ≤ 122) = false := by first | (simp; omega) | (simp; done))
               try (have q2 : decide ((s[0].toNat : Int) ≤ 57) = false := by first | (simp; omega) | (simp; done))
               try (have q3 : ((s[0].toNat : Int) != 45) = true := by first | (simp; omega) | (simp; done))
               try (have q4 : ((s[0].toNat : Int) == 45) = false := by first | (simp; omega) | (simp; done))
               try (have q5 : decide (57 < (s[0].toNat : Int)) = true := by first | (simp; omega) | (simp; done))
               try (have q6 : decide (97 ≤ (s[0].toNat : Int)) = false := by first | (simp; omega) | (simp; done))
               try (have q7 : decide (65 ≤ (s[0].toNat : Int)) = false := by first | (simp; omega) | (simp; done))
               go_wp2
               go_ret
               exact ⟨ret_bool hfin.out.symm, rfl⟩)
        · have hk1 : 0 < (k : Int) := by omega
          have hk2 : ((k : Int) == 0) = false := by simp; omega
          rcases hcl with ⟨ca, cb⟩ | ⟨ca, cb⟩ | ⟨ca, cb⟩ | ca | ca | ⟨ca, cb⟩ | ⟨ca, cb⟩ | ⟨ca, cb⟩ | ca
          all_goals first
            | (have hok : Hid (okTo s (k + 1)) := hyes.out (by unfold okAt; rw [hb]; simp; omega)
               clear hyes hno hb hk0
               go_wp2
               go_round
               case rel => exact ⟨k + 1, by omega, by go_num, hok.out⟩
               case measure => simp [intOf]; omega)
            | (have hfin : Hid (nameB s = false) := hno.out (by unfold okAt; rw [hb]; simp; omega)
               clear hyes hno hb hk0
               try (have q0 : decide ((s[k].toNat : Int) ≤ 90) = false := by first | (simp; omega) | (simp; done))
               try (have q1 : decide ((s[k].toNat : Int) ≤ 122) = false := by first | (simp; omega) | (simp; done))
               try (have q2 : decide ((s[k].toNat : Int) ≤ 57) = false := by first | (simp; omega) | (simp; done))
               try (have q3 : ((s[k].toNat : Int) != 45) = true := by first | (simp; omega) | (simp; done))
               try (have q4 : ((s[k].toNat : Int) == 45) = false := by first | (simp; omega) | (simp; done))
               try (have q5 : decide (57 < (s[k].toNat : Int)) = true := by first | (simp; omega) | (simp; done))
               try (have q6 : decide (97 ≤ (s[k].toNat : Int)) = false := by first | (simp; omega) | (simp; done))
               try (have q7 : decide (65 ≤ (s[k].toNat : Int)) = false := by first | (simp; omega) | (simp; done))
               go_wp2
               go_ret
               exact ⟨ret_bool hfin.out.symm, rfl⟩)
      · obtain rfl : k = s.size := by omega
        have hfin := Lib.hid (nameB_yes h1 h12 hok2)
        go_wp2
        go_ret
        exact ⟨ret_bool hfin.out.symm, rfl⟩
  · have hfin := Lib.hid (nameB_size (s := s) (by omega))
    go_enter Tryz.func145, Tryz.ntmps145
    go_wp2
    go_ret
    exact ⟨ret_bool hfin.out.symm, rfl⟩
end Go.Proofs.YtbegbajlagcbdaaGreatDoor
namespace Go.Proofs.YtbegbajlagcbdaaGreatDoor
open Go Go.RowKit
set_option maxHeartbeats 2000000 in
theorem IsName_any (s : ByteArray) (w : World) (hs : s.size ≤ maxLen) :
    Calls Tryz.prog 90 #[.string s] w fun e w' => e = .returned (.bool (nameB s)) ∧ w = w' := by
  unfold maxLen at hs
  by_cases h0 : s.size < 1
  · have hfin := Lib.hid (nameB_size (s := s) (by omega))
    go_enter Tryz.func90, Tryz.ntmps90
    go_wp2
    go_ret
    exact ⟨ret_bool hfin.out.symm, rfl⟩
  have h1 : 1 ≤ s.size := by omega
  clear h0
  by_cases h12 : s.size ≤ 12
  · have hlt0 : 0 < s.size := h1
    have hb0 := byteAt_eq hlt0
    have hok := okTo_zero s
    have hyes := Lib.hid (fun h : okAt s 0 = true => okTo_succ hok h)
    have hno := Lib.hid (fun h : okAt s 0 = false => nameB_no hlt0 h)
    clear hok
    have hcl : (97 ≤ (s[0].toNat : Int) ∧ (s[0].toNat : Int) ≤ 122) ∨ (65 ≤ (s[0].toNat : Int) ∧ (s[0].toNat : Int) ≤ 90) ∨ (48 ≤ (s[0].toNat : Int) ∧ (s[0].toNat : Int) ≤ 57) ∨ (s[0].toNat : Int) = 45 ∨ (s[0].toNat : Int) < 45 ∨ (46 ≤ (s[0].toNat : Int) ∧ (s[0].toNat : Int) ≤ 47) ∨ (58 ≤ (s[0].toNat : Int) ∧ (s[0].toNat : Int) ≤ 64) ∨ (91 ≤ (s[0].toNat : Int) ∧ (s[0].toNat : Int) ≤ 96) ∨ 123 ≤ (s[0].toNat : Int) := by omega
    have c0 : 0 ≤ (s[0].toNat : Int) := by omega
    have hmain : okTo s 1 → ((97 ≤ (s[0].toNat : Int) ∧ (s[0].toNat : Int) ≤ 122) ∨ (65 ≤ (s[0].toNat : Int) ∧ (s[0].toNat : Int) ≤ 90)) → Calls Tryz.prog 90 #[.string s] w fun e w' => e = .returned (.bool (nameB s)) ∧ w = w' := by
      intro hok1 hc
      have hok1 := Lib.hid hok1
      clear hcl hyes hno hb0
      rcases hc with ⟨ca, cb⟩ | ⟨ca, cb⟩
      all_goals
        try (have q0 : decide ((s[0].toNat : Int) ≤ 90) = false := by first | (simp; omega) | (simp; done))
        try (have q1 : decide ((s[0].toNat : Int) ≤ 122) = false := by first | (simp; omega) | (simp; done))
        try (have q2 : decide ((s[0].toNat : Int) ≤ 57) = false := by first | (simp; omega) | (simp; done))
        try (have q3 : ((s[0].toNat : Int) != 45) = true := by first | (simp; omega) | (simp; done))
        try (have q4 : ((s[0].toNat : Int) == 45) = false := by first | (simp; omega) | (simp; done))
        try (have q5 : decide (97 ≤ (s[0].toNat : Int)) = false := by first | (simp; omega) | (simp; done))
        try (have q6 : decide (65 ≤ (s[0].toNat : Int)) = false := by first | (simp; omega) | (simp; done))
        try (have q7 : decide (48 ≤ (s[0].toNat : Int)) = false := by first | (simp; omega) | (simp; done))
        try (have q8 : decide ((s[0].toNat : Int) ≤ 90) = true := by first | (simp; omega) | (simp; done))
        try (have q9 : decide ((s[0].toNat : Int) ≤ 122) = true := by first | (simp; omega) | (simp; done))
        try (have q10 : decide ((s[0].toNat : Int) ≤ 57) = true := by first | (simp; omega) | (simp; done))
        go_enter Tryz.func90, Tryz.ntmps90
        go_wp2
        go_loop [3] (fun i => ∃ k : Nat, 1 ≤ k ∧ k ≤ s.size ∧ i = .int .i64 k ∧ okTo s k) (fun i => s.size - (intOf i).toNat)
        case atStart => exact ⟨1, by omega, by omega, rfl, hok1.out⟩
        case round =>
          obtain ⟨k, hk0, hk, rfl, hok2⟩ := hrel
          try clear q0
          try clear q1
          try clear q2
          try clear q3
          try clear q4
          try clear q5
          try clear q6
          try clear q7
          try clear q8
          try clear q9
          try clear q10
          clear ca cb c0
          by_cases hlt : k < s.size
          · have hb := byteAt_eq hlt
            have hcl : (97 ≤ (s[k].toNat : Int) ∧ (s[k].toNat : Int) ≤ 122) ∨ (65 ≤ (s[k].toNat : Int) ∧ (s[k].toNat : Int) ≤ 90) ∨ (48 ≤ (s[k].toNat : Int) ∧ (s[k].toNat : Int) ≤ 57) ∨ (s[k].toNat : Int) = 45 ∨ (s[k].toNat : Int) < 45 ∨ (46 ≤ (s[k].toNat : Int) ∧ (s[k].toNat : Int) ≤ 47) ∨ (58 ≤ (s[k].toNat : Int) ∧ (s[k].toNat : Int) ≤ 64) ∨ (91 ≤ (s[k].toNat : Int) ∧ (s[k].toNat : Int) ≤ 96) ∨ 123 ≤ (s[k].toNat : Int) := by omega
            have c0 : 0 ≤ (s[k].toNat : Int) := by omega
            have hyes := Lib.hid (fun h : okAt s k = true => okTo_succ hok2 h)
            have hno := Lib.hid (fun h : okAt s k = false => nameB_no hlt h)
            rcases hcl with ⟨ca, cb⟩ | ⟨ca, cb⟩ | ⟨ca, cb⟩ | ca | ca | ⟨ca, cb⟩ | ⟨ca, cb⟩ | ⟨ca, cb⟩ | ca
            all_goals first
              | (have hok : Hid (okTo s (k + 1)) := hyes.out (by unfold okAt; rw [hb]; simp; omega)
                 clear hyes hno hb
                 try (have q0 : decide ((s[k].toNat : Int) ≤ 90) = false := by first | (simp; omega) | (simp; done))
                 try (have q1 : decide ((s[k].toNat : Int) ≤ 122) = false := by first | (simp; omega) | (simp; done))
                 try (have q2 : decide ((s[k].toNat : Int) ≤ 57) = false := by first | (simp; omega) | (simp; done))
                 try (have q3 : ((s[k].toNat : Int) != 45) = true := by first | (simp; omega) | (simp; done))
                 try (have q4 : ((s[k].toNat : Int) == 45) = false := by first | (simp; omega) | (simp; done))
                 try (have q5 : decide (97 ≤ (s[k].toNat : Int)) = false := by first | (simp; omega) | (simp; done))
                 try (have q6 : decide (65 ≤ (s[k].toNat : Int)) = false := by first | (simp; omega) | (simp; done))
                 try (have q7 : decide (48 ≤ (s[k].toNat : Int)) = false := by first | (simp; omega) | (simp; done))
                 try (have q8 : decide ((s[k].toNat : Int) ≤ 90) = true := by first | (simp; omega) | (simp; done))
                 try (have q9 : decide ((s[k].toNat : Int) ≤ 122) = true := by first | (simp; omega) | (simp; done))
                 try (have q10 : decide ((s[k].toNat : Int) ≤ 57) = true := by first | (simp; omega) | (simp; done))
                 go_wp2
                 go_round
                 case rel => exact ⟨k + 1, by omega, by omega, by go_num, hok.out⟩
                 case measure => simp [intOf]; omega)
              | (have hfin : Hid (nameB s = false) := hno.out (by unfold okAt; rw [hb]; simp; omega)
                 clear hyes hno hb
                 try (have q0 : decide ((s[k].toNat : Int) ≤ 90) = false := by first | (simp; omega) | (simp; done))
                 try (have q1 : decide ((s[k].toNat : Int) ≤ 122) = false := by first | (simp; omega) | (simp; done))
                 try (have q2 : decide ((s[k].toNat : Int) ≤ 57) = false := by first | (simp; omega) | (simp; done))
                 try (have q3 : ((s[k].toNat : Int) != 45) = true := by first | (simp; omega) | (simp; done))
                 try (have q4 : ((s[k].toNat : Int) == 45) = false := by first | (simp; omega) | (simp; done))
                 try (have q5 : decide (97 ≤ (s[k].toNat : Int)) = false := by first | (simp; omega) | (simp; done))
                 try (have q6 : decide (65 ≤ (s[k].toNat : Int)) = false := by first | (simp; omega) | (simp; done))
                 try (have q7 : decide (48 ≤ (s[k].toNat : Int)) = false := by first | (simp; omega) | (simp; done))
                 try (have q8 : decide ((s[k].toNat : Int) ≤ 90) = true := by first | (simp; omega) | (simp; done))
                 try (have q9 : decide ((s[k].toNat : Int) ≤ 122) = true := by first | (simp; omega) | (simp; done))
                 try (have q10 : decide ((s[k].toNat : Int) ≤ 57) = true := by first | (simp; omega) | (simp; done))
                 go_wp2
                 go_ret
                 exact ⟨ret_bool hfin.out.symm, rfl⟩)
          · obtain rfl : k = s.size := by omega
            have hfin := Lib.hid (nameB_yes h1 h12 hok2)
            go_wp2
            go_ret
            exact ⟨ret_bool hfin.out.symm, rfl⟩
    rcases hcl with ⟨ca, cb⟩ | ⟨ca, cb⟩ | ⟨ca, cb⟩ | ca | ca | ⟨ca, cb⟩ | ⟨ca, cb⟩ | ⟨ca, cb⟩ | ca
    all_goals first
      | (have hok : okTo s (0 + 1) := hyes.out (by unfold okAt; rw [hb0]; simp; omega)
         exact hmain hok (by omega))
      | (have hfin : Hid (nameB s = false) := hno.out (by unfold okAt; rw [hb0]; simp; omega)
         clear hyes hno hb0 hmain
         try (have q0 : decide ((s[0].toNat : Int) ≤ 90) = false := by first | (simp; omega) | (simp; done))
         try (have q1 : decide ((s[0].toNat : Int) ≤ 122) = false := by first | (simp; omega) | (simp; done))
         try (have q2 : decide ((s[0].toNat : Int) ≤ 57) = false := by first | (simp; omega) | (simp; done))
         try (have q3 : ((s[0].toNat : Int) != 45) = true := by first | (simp; omega) | (simp; done))
         try (have q4 : ((s[0].toNat : Int) == 45) = false := by first | (simp; omega) | (simp; done))
         try (have q5 : decide (97 ≤ (s[0].toNat : Int)) = false := by first | (simp; omega) | (simp; done))
         try (have q6 : decide (65 ≤ (s[0].toNat : Int)) = false := by first | (simp; omega) | (simp; done))
         try (have q7 : decide (48 ≤ (s[0].toNat : Int)) = false := by first | (simp; omega) | (simp; done))
         try (have q8 : decide ((s[0].toNat : Int) ≤ 90) = true := by first | (simp; omega) | (simp; done))
         try (have q9 : decide ((s[0].toNat : Int) ≤ 122) = true := by first | (simp; omega) | (simp; done))
         try (have q10 : decide ((s[0].toNat : Int) ≤ 57) = true := by first | (simp; omega) | (simp; done))
         go_enter Tryz.func90, Tryz.ntmps90
         go_wp2
         go_ret
         exact ⟨ret_bool hfin.out.symm, rfl⟩)
  · have hfin := Lib.hid (nameB_size (s := s) (by omega))
    go_enter Tryz.func90, Tryz.ntmps90
    go_wp2
    go_ret
    exact ⟨ret_bool hfin.out.symm, rfl⟩
end Go.Proofs.YtbegbajlagcbdaaGreatDoor
