/- Chapter 8 and what it rests on: definitions and walks, part 03. -/
import Derived.Test.YtbinoelbjlgjkaaDoorC02
import Derived.Maps.OwnSet
import Derived.Maps.OwnOps
import Derived.Below
import Derived.WalkKit
import Derived.Test.YtbinoelbjlgjkaaDoorC01
namespace Go.Proofs.YtbinoelbjlgjkaaDoor
open Go Go.RowKit
/-- The error of a holiday but for its name. -/
def Cal.holErr (kind month day weekday : Int) : Int :=
  if kind = 0 then (if 1 ≤ month ∧ month ≤ 12 ∧ 1 ≤ day ∧ day ≤ Cal.mlen 1804 month then (if weekday = 0 then 0 else 3) else 24)
  else if kind = 1 then (if -80 ≤ day ∧ day ≤ 240 then (if month = 0 ∧ weekday = 0 then 0 else 3) else 2)
  else if kind = 2 then (if 1 ≤ month ∧ month ≤ 12 then (if ((1 ≤ day ∧ day ≤ 4) ∨ day = -1) ∧ 0 ≤ weekday ∧ weekday ≤ 6 then 0 else 2) else 24)
  else 2
set_option maxHeartbeats 4000000 in
theorem checkHoliday_any (nm : ByteArray) (kind month day weekday : Int) (w : World) (hT : Tab w) :
    Calls Tryd.prog 32 #[.agg #[.string nm, .int .i64 kind, .int .i64 month, .int .i64 day, .int .i64 weekday]] w fun e w' => e = .returned (.int .i64 (Cal.holErr kind month day weekday)) ∧ Below w.heap.size w w' := by
  have hT' := Lib.hid (fun o n => (hT.alloc o).drewN n); clear hT
  by_cases hk0 : kind = 0
  · subst hk0
    have hmb := Cal.mlen_bd 1804 month
    by_cases hma : 1 ≤ month
    · by_cases hmb : month ≤ 12
      · by_cases hda : 1 ≤ day
        · by_cases hdb : day ≤ Cal.mlen 1804 month
          · by_cases hw : weekday = 0
            · subst hw
              go_enter Tryd.func32, Tryd.ntmps32
              go_wp2_with ((go_at_call 20; first | refine rin ?_ | refine rout ?_ | refine rany ?_))
              try (go_quiet (first | (go_at_call 20; first | exact qin | exact qout | exact qany) | (go_at_call 36; exact quiet_left (length_any _ _ (by omega) (by omega) (by omega) _ (hT'.out _ _))))
                   go_wp2_with ((go_at_call 20; first | refine rin ?_ | refine rout ?_ | refine rany ?_)))
              go_ret
              exact ⟨ret_int (by unfold Cal.holErr; repeat' split
                                 all_goals first | rfl | omega), by exact blw⟩
            · have hwe : (weekday == 0) = false := by simpa using hw
              have hwn : (weekday != 0) = true := by simpa using hw
              go_enter Tryd.func32, Tryd.ntmps32
              go_wp2_with ((go_at_call 20; first | refine rin ?_ | refine rout ?_ | refine rany ?_))
              try (go_quiet (first | (go_at_call 20; first | exact qin | exact qout | exact qany) | (go_at_call 36; exact quiet_left (length_any _ _ (by omega) (by omega) (by omega) _ (hT'.out _ _))))
                   go_wp2_with ((go_at_call 20; first | refine rin ?_ | refine rout ?_ | refine rany ?_)))
              go_ret
              exact ⟨ret_int (by unfold Cal.holErr; repeat' split
                                 all_goals first | rfl | omega), by exact blw⟩
          · go_enter Tryd.func32, Tryd.ntmps32
            go_wp2_with ((go_at_call 20; first | refine rin ?_ | refine rout ?_ | refine rany ?_))
            try (go_quiet (first | (go_at_call 20; first | exact qin | exact qout | exact qany) | (go_at_call 36; exact quiet_left (length_any _ _ (by omega) (by omega) (by omega) _ (hT'.out _ _))))
                 go_wp2_with ((go_at_call 20; first | refine rin ?_ | refine rout ?_ | refine rany ?_)))
            go_ret
            exact ⟨ret_int (by unfold Cal.holErr; repeat' split
                               all_goals first | rfl | omega), by exact blw⟩
        · go_enter Tryd.func32, Tryd.ntmps32
          go_wp2_with ((go_at_call 20; first | refine rin ?_ | refine rout ?_ | refine rany ?_))
          try (go_quiet (first | (go_at_call 20; first | exact qin | exact qout | exact qany) | (go_at_call 36; exact quiet_left (length_any _ _ (by omega) (by omega) (by omega) _ (hT'.out _ _))))
               go_wp2_with ((go_at_call 20; first | refine rin ?_ | refine rout ?_ | refine rany ?_)))
          go_ret
          exact ⟨ret_int (by unfold Cal.holErr; repeat' split
                             all_goals first | rfl | omega), by exact blw⟩
      · go_enter Tryd.func32, Tryd.ntmps32
        go_wp2_with ((go_at_call 20; first | refine rin ?_ | refine rout ?_ | refine rany ?_))
        try (go_quiet (first | (go_at_call 20; first | exact qin | exact qout | exact qany) | (go_at_call 36; exact quiet_left (length_any _ _ (by omega) (by omega) (by omega) _ (hT'.out _ _))))
             go_wp2_with ((go_at_call 20; first | refine rin ?_ | refine rout ?_ | refine rany ?_)))
        go_ret
        exact ⟨ret_int (by unfold Cal.holErr; repeat' split
                           all_goals first | rfl | omega), by exact blw⟩
    · go_enter Tryd.func32, Tryd.ntmps32
      go_wp2_with ((go_at_call 20; first | refine rin ?_ | refine rout ?_ | refine rany ?_))
      try (go_quiet (first | (go_at_call 20; first | exact qin | exact qout | exact qany) | (go_at_call 36; exact quiet_left (length_any _ _ (by omega) (by omega) (by omega) _ (hT'.out _ _))))
           go_wp2_with ((go_at_call 20; first | refine rin ?_ | refine rout ?_ | refine rany ?_)))
      go_ret
      exact ⟨ret_int (by unfold Cal.holErr; repeat' split
                         all_goals first | rfl | omega), by exact blw⟩
  · have hk0e : (kind == 0) = false := by simpa using hk0
    have hk0n : (kind != 0) = true := by simpa using hk0
    by_cases hk1 : kind = 1
    · subst hk1
      by_cases hda : -80 ≤ day
      · by_cases hdb : day ≤ 240
        · by_cases hm : month = 0
          · subst hm
            by_cases hw : weekday = 0
            · subst hw
              go_enter Tryd.func32, Tryd.ntmps32
              go_wp2_with ((go_at_call 20; first | refine rin ?_ | refine rout ?_ | refine rany ?_))
              try (go_quiet (first | (go_at_call 20; first | exact qin | exact qout | exact qany) | (go_at_call 36; exact quiet_left (length_any _ _ (by omega) (by omega) (by omega) _ (hT'.out _ _))))
                   go_wp2_with ((go_at_call 20; first | refine rin ?_ | refine rout ?_ | refine rany ?_)))
              go_ret
              exact ⟨ret_int (by unfold Cal.holErr; repeat' split
                                 all_goals first | rfl | omega), by exact blw⟩
            · have hwe : (weekday == 0) = false := by simpa using hw
              have hwn : (weekday != 0) = true := by simpa using hw
              go_enter Tryd.func32, Tryd.ntmps32
              go_wp2_with ((go_at_call 20; first | refine rin ?_ | refine rout ?_ | refine rany ?_))
              try (go_quiet (first | (go_at_call 20; first | exact qin | exact qout | exact qany) | (go_at_call 36; exact quiet_left (length_any _ _ (by omega) (by omega) (by omega) _ (hT'.out _ _))))
                   go_wp2_with ((go_at_call 20; first | refine rin ?_ | refine rout ?_ | refine rany ?_)))
              go_ret
              exact ⟨ret_int (by unfold Cal.holErr; repeat' split
                                 all_goals first | rfl | omega), by exact blw⟩
          · have hme : (month == 0) = false := by simpa using hm
            have hmn : (month != 0) = true := by simpa using hm
            go_enter Tryd.func32, Tryd.ntmps32
            go_wp2_with ((go_at_call 20; first | refine rin ?_ | refine rout ?_ | refine rany ?_))
            try (go_quiet (first | (go_at_call 20; first | exact qin | exact qout | exact qany) | (go_at_call 36; exact quiet_left (length_any _ _ (by omega) (by omega) (by omega) _ (hT'.out _ _))))
                 go_wp2_with ((go_at_call 20; first | refine rin ?_ | refine rout ?_ | refine rany ?_)))
            go_ret
            exact ⟨ret_int (by unfold Cal.holErr; repeat' split
                               all_goals first | rfl | omega), by exact blw⟩
        · go_enter Tryd.func32, Tryd.ntmps32
          go_wp2_with ((go_at_call 20; first | refine rin ?_ | refine rout ?_ | refine rany ?_))
          try (go_quiet (first | (go_at_call 20; first | exact qin | exact qout | exact qany) | (go_at_call 36; exact quiet_left (length_any _ _ (by omega) (by omega) (by omega) _ (hT'.out _ _))))
               go_wp2_with ((go_at_call 20; first | refine rin ?_ | refine rout ?_ | refine rany ?_)))
          go_ret
          exact ⟨ret_int (by unfold Cal.holErr; repeat' split
                             all_goals first | rfl | omega), by exact blw⟩
      · go_enter Tryd.func32, Tryd.ntmps32
        go_wp2_with ((go_at_call 20; first | refine rin ?_ | refine rout ?_ | refine rany ?_))
        try (go_quiet (first | (go_at_call 20; first | exact qin | exact qout | exact qany) | (go_at_call 36; exact quiet_left (length_any _ _ (by omega) (by omega) (by omega) _ (hT'.out _ _))))
             go_wp2_with ((go_at_call 20; first | refine rin ?_ | refine rout ?_ | refine rany ?_)))
        go_ret
        exact ⟨ret_int (by unfold Cal.holErr; repeat' split
                           all_goals first | rfl | omega), by exact blw⟩
    · have hk1e : (kind == 1) = false := by simpa using hk1
      have hk1n : (kind != 1) = true := by simpa using hk1
      by_cases hk2 : kind = 2
      · subst hk2
        by_cases hma : 1 ≤ month
        · by_cases hmb : month ≤ 12
          · by_cases hda : 1 ≤ day
            · by_cases hdb : day ≤ 4
              · by_cases hwa : 0 ≤ weekday
                · by_cases hwb : weekday ≤ 6
                  · go_enter Tryd.func32, Tryd.ntmps32
                    go_wp2_with ((go_at_call 20; first | refine rin ?_ | refine rout ?_ | refine rany ?_))
                    try (go_quiet (first | (go_at_call 20; first | exact qin | exact qout | exact qany) | (go_at_call 36; exact quiet_left (length_any _ _ (by omega) (by omega) (by omega) _ (hT'.out _ _))))
                         go_wp2_with ((go_at_call 20; first | refine rin ?_ | refine rout ?_ | refine rany ?_)))
                    go_ret
                    exact ⟨ret_int (by unfold Cal.holErr; repeat' split
                                       all_goals first | rfl | omega), by exact blw⟩
                  · go_enter Tryd.func32, Tryd.ntmps32
                    go_wp2_with ((go_at_call 20; first | refine rin ?_ | refine rout ?_ | refine rany ?_))
                    try (go_quiet (first | (go_at_call 20; first | exact qin | exact qout | exact qany) | (go_at_call 36; exact quiet_left (length_any _ _ (by omega) (by omega) (by omega) _ (hT'.out _ _))))
                         go_wp2_with ((go_at_call 20; first | refine rin ?_ | refine rout ?_ | refine rany ?_)))
                    go_ret
                    exact ⟨ret_int (by unfold Cal.holErr; repeat' split
                                       all_goals first | rfl | omega), by exact blw⟩
                · go_enter Tryd.func32, Tryd.ntmps32
                  go_wp2_with ((go_at_call 20; first | refine rin ?_ | refine rout ?_ | refine rany ?_))
                  try (go_quiet (first | (go_at_call 20; first | exact qin | exact qout | exact qany) | (go_at_call 36; exact quiet_left (length_any _ _ (by omega) (by omega) (by omega) _ (hT'.out _ _))))
                       go_wp2_with ((go_at_call 20; first | refine rin ?_ | refine rout ?_ | refine rany ?_)))
                  go_ret
                  exact ⟨ret_int (by unfold Cal.holErr; repeat' split
                                     all_goals first | rfl | omega), by exact blw⟩
              · have hd1e : (day == (-1)) = false := by simp; omega
                have hd1n : (day != (-1)) = true := by simp; omega
                go_enter Tryd.func32, Tryd.ntmps32
                go_wp2_with ((go_at_call 20; first | refine rin ?_ | refine rout ?_ | refine rany ?_))
                try (go_quiet (first | (go_at_call 20; first | exact qin | exact qout | exact qany) | (go_at_call 36; exact quiet_left (length_any _ _ (by omega) (by omega) (by omega) _ (hT'.out _ _))))
                     go_wp2_with ((go_at_call 20; first | refine rin ?_ | refine rout ?_ | refine rany ?_)))
                go_ret
                exact ⟨ret_int (by unfold Cal.holErr; repeat' split
                                   all_goals first | rfl | omega), by exact blw⟩
            · by_cases hd1 : day = (-1)
              · have hd1e : (day == (-1)) = true := by simpa using hd1
                have hd1n : (day != (-1)) = false := by simpa using hd1
                have hd1l : day ≤ (-1) := by omega
                have hd1g : (-1) ≤ day := by omega
                clear hd1
                by_cases hwa : 0 ≤ weekday
                · by_cases hwb : weekday ≤ 6
                  · go_enter Tryd.func32, Tryd.ntmps32
                    go_wp2_with ((go_at_call 20; first | refine rin ?_ | refine rout ?_ | refine rany ?_))
                    try (go_quiet (first | (go_at_call 20; first | exact qin | exact qout | exact qany) | (go_at_call 36; exact quiet_left (length_any _ _ (by omega) (by omega) (by omega) _ (hT'.out _ _))))
                         go_wp2_with ((go_at_call 20; first | refine rin ?_ | refine rout ?_ | refine rany ?_)))
                    go_ret
                    exact ⟨ret_int (by unfold Cal.holErr; repeat' split
                                       all_goals first | rfl | omega), by exact blw⟩
                  · go_enter Tryd.func32, Tryd.ntmps32
                    go_wp2_with ((go_at_call 20; first | refine rin ?_ | refine rout ?_ | refine rany ?_))
                    try (go_quiet (first | (go_at_call 20; first | exact qin | exact qout | exact qany) | (go_at_call 36; exact quiet_left (length_any _ _ (by omega) (by omega) (by omega) _ (hT'.out _ _))))
                         go_wp2_with ((go_at_call 20; first | refine rin ?_ | refine rout ?_ | refine rany ?_)))
                    go_ret
                    exact ⟨ret_int (by unfold Cal.holErr; repeat' split
                                       all_goals first | rfl | omega), by exact blw⟩
                · go_enter Tryd.func32, Tryd.ntmps32
                  go_wp2_with ((go_at_call 20; first | refine rin ?_ | refine rout ?_ | refine rany ?_))
                  try (go_quiet (first | (go_at_call 20; first | exact qin | exact qout | exact qany) | (go_at_call 36; exact quiet_left (length_any _ _ (by omega) (by omega) (by omega) _ (hT'.out _ _))))
                       go_wp2_with ((go_at_call 20; first | refine rin ?_ | refine rout ?_ | refine rany ?_)))
                  go_ret
                  exact ⟨ret_int (by unfold Cal.holErr; repeat' split
                                     all_goals first | rfl | omega), by exact blw⟩
              · have hd1e : (day == (-1)) = false := by simpa using hd1
                have hd1n : (day != (-1)) = true := by simpa using hd1
                go_enter Tryd.func32, Tryd.ntmps32
                go_wp2_with ((go_at_call 20; first | refine rin ?_ | refine rout ?_ | refine rany ?_))
                try (go_quiet (first | (go_at_call 20; first | exact qin | exact qout | exact qany) | (go_at_call 36; exact quiet_left (length_any _ _ (by omega) (by omega) (by omega) _ (hT'.out _ _))))
                     go_wp2_with ((go_at_call 20; first | refine rin ?_ | refine rout ?_ | refine rany ?_)))
                go_ret
                exact ⟨ret_int (by unfold Cal.holErr; repeat' split
                                   all_goals first | rfl | omega), by exact blw⟩
          · go_enter Tryd.func32, Tryd.ntmps32
            go_wp2_with ((go_at_call 20; first | refine rin ?_ | refine rout ?_ | refine rany ?_))
            try (go_quiet (first | (go_at_call 20; first | exact qin | exact qout | exact qany) | (go_at_call 36; exact quiet_left (length_any _ _ (by omega) (by omega) (by omega) _ (hT'.out _ _))))
                 go_wp2_with ((go_at_call 20; first | refine rin ?_ | refine rout ?_ | refine rany ?_)))
            go_ret
            exact ⟨ret_int (by unfold Cal.holErr; repeat' split
                               all_goals first | rfl | omega), by exact blw⟩
        · go_enter Tryd.func32, Tryd.ntmps32
          go_wp2_with ((go_at_call 20; first | refine rin ?_ | refine rout ?_ | refine rany ?_))
          try (go_quiet (first | (go_at_call 20; first | exact qin | exact qout | exact qany) | (go_at_call 36; exact quiet_left (length_any _ _ (by omega) (by omega) (by omega) _ (hT'.out _ _))))
               go_wp2_with ((go_at_call 20; first | refine rin ?_ | refine rout ?_ | refine rany ?_)))
          go_ret
          exact ⟨ret_int (by unfold Cal.holErr; repeat' split
                             all_goals first | rfl | omega), by exact blw⟩
      · have hk2e : (kind == 2) = false := by simpa using hk2
        have hk2n : (kind != 2) = true := by simpa using hk2
        go_enter Tryd.func32, Tryd.ntmps32
        go_wp2_with ((go_at_call 20; first | refine rin ?_ | refine rout ?_ | refine rany ?_))
        try (go_quiet (first | (go_at_call 20; first | exact qin | exact qout | exact qany) | (go_at_call 36; exact quiet_left (length_any _ _ (by omega) (by omega) (by omega) _ (hT'.out _ _))))
             go_wp2_with ((go_at_call 20; first | refine rin ?_ | refine rout ?_ | refine rany ?_)))
        go_ret
        exact ⟨ret_int (by unfold Cal.holErr; repeat' split
                           all_goals first | rfl | omega), by exact blw⟩
end Go.Proofs.YtbinoelbjlgjkaaDoor
namespace Go.Proofs.YtbinoelbjlgjkaaDoor
open Go Go.RowKit Go.Maps Go.WideMaps Go.ChangeMaps
def setAt {κ : Type} [DecidableEq κ] (f : κ → Option Value) (x0 : κ) (v : Value) : κ → Option Value := fun x => if x = x0 then some v else f x
theorem setAt_same {κ : Type} [DecidableEq κ] (f : κ → Option Value) (x : κ) (v : Value) : setAt f x v x = some v := by simp [setAt]
theorem setAt_other {κ : Type} [DecidableEq κ] (f : κ → Option Value) {x0 x : κ} (v : Value) (h : x ≠ x0) : setAt f x0 v x = f x := by simp [setAt, h]
def heldR (v : Value) : Option (DataW Value × List MemPlace) := some (.held v, [])
/-- Block b is a map of at most n entries that reads as f. -/
def MapIs {κ : Type} (P : Program) (k : TypeId) (lit : κ → Lit) (w : World) (b n : Nat) (f : κ → Option Value) : Prop :=
  ∃ D : DataW Value, w.ownsMap P k heldR b n D ∧ ∀ x, WideAt.IsKeyLit (lit x) → Maps.has D (lit x) = (f x).isSome ∧ ∀ z, D.atKey (lit x) (.held z) = .held ((f x).getD z)
variable {P : Program} {k : TypeId} {w : World} {b n : Nat} {κ : Type} {lit : κ → Lit} {f : κ → Option Value}
theorem MapIs.made (P : Program) (k : TypeId) (lit : κ → Lit) (w : World) : MapIs P k lit (w.alloc (.map #[] 0)) w.heap.size 0 (fun _ => none) :=
  ⟨.map [], World.ownsMap_made w P k heldR, fun _ _ => ⟨rfl, fun _ => rfl⟩⟩
theorem MapIs.lt (h : MapIs P k lit w b n f) : b < w.heap.size := by obtain ⟨D, h, _⟩ := h; exact h.lt
theorem MapIs.kept {w' : World} {row : Option Nat} (h : MapIs P k lit w b n f) (hg : w.grownBy w' row) (hne : some b ≠ row) : MapIs P k lit w' b n f := by
  obtain ⟨D, h, hf⟩ := h; exact ⟨D, h.kept hg hne, hf⟩
theorem MapIs.same {w' : World} (h : MapIs P k lit w b n f) (hb : w'.heap[b]? = w.heap[b]?) : MapIs P k lit w' b n f := by
  obtain ⟨D, ⟨es, clock, h1, h2⟩, hf⟩ := h
  exact ⟨D, ⟨es, clock, hb.trans h1, h2⟩, hf⟩
theorem MapIs.alloc (h : MapIs P k lit w b n f) (o : Obj) : MapIs P k lit (w.alloc o) b n f := h.kept (World.grownBy_alloc w o none) (by simp)
theorem MapIs.below {w' : World} {B : Nat} (h : MapIs P k lit w b n f) (hb : Below B w w') (hlt : b < B) : MapIs P k lit w' b n f := h.same (hb.block b hlt)
theorem MapIs.setCell (h : MapIs P k lit w b n f) {a : Addr} (ha : b ≠ a.block) (u : Value) : MapIs P k lit (w.setCell a u) b n f := h.same (Below.heap_setCell w a u b ha)
theorem MapIs.mono (h : MapIs P k lit w b n f) {n' : Nat} (hn : n ≤ n') : MapIs P k lit w b n' f := by obtain ⟨D, h, hf⟩ := h; exact ⟨D, h.mono hn, hf⟩
theorem MapIs.isMap (h : MapIs P k lit w b n f) : ∃ es c, w.heap[b]? = some (.map es c) := by obtain ⟨D, ⟨es, clock, h1, _⟩, _⟩ := h; exact ⟨es, clock, h1⟩
theorem MapIs.look {t e : TypeId} (h : MapIs P k lit w b n f) (K : Keyed P k) (ht : P.underlying t = some (.map k e)) {z : Value} (hz : (zeroValue e).run P w = .ok z w) {key : Value} {kl : κ} (hkey : keyOf P k key = some (lit kl)) :
    (Instr.lookup t (.map (some b)) key false).run P w = .ok ((f kl).getD z) w := by
  obtain ⟨D, h, hf⟩ := h
  obtain ⟨v, ps, hrun, hv⟩ := h.lookup K ht hz (zd := .held z) (zp := []) rfl hkey
  obtain ⟨_, h2⟩ := hf kl (K.key hkey)
  rw [h2 z] at hv
  simp only [heldR, Option.some.injEq, Prod.mk.injEq, DataW.held.injEq] at hv
  rw [hrun, hv.1]
theorem MapIs.look_ok {t e : TypeId} (h : MapIs P k lit w b n f) (K : Keyed P k) (ht : P.underlying t = some (.map k e)) {z : Value} (hz : (zeroValue e).run P w = .ok z w) {key : Value} {kl : κ} (hkey : keyOf P k key = some (lit kl)) :
    (Instr.lookup t (.map (some b)) key true).run P w = .ok (.tuple #[(f kl).getD z, .bool (f kl).isSome]) w := by
  obtain ⟨D, h, hf⟩ := h
  obtain ⟨v, ps, hrun, hv⟩ := h.look_ok K ht hz (zd := .held z) (zp := []) rfl hkey
  obtain ⟨h1, h2⟩ := hf kl (K.key hkey)
  rw [h2 z] at hv
  simp only [heldR, Option.some.injEq, Prod.mk.injEq, DataW.held.injEq] at hv
  rw [hrun, hv.1, h1]
theorem MapIs.store [DecidableEq κ] (hinj : ∀ x y, lit x = lit y → x = y) {t e : TypeId} (h : MapIs P k lit w b n f) (K : Keyed P k) (ht : P.underlying t = some (.map k e)) (hn : n < maxLen) {key val : Value} {kl : κ} (hkey : keyOf P k key = some (lit kl)) :
    ∃ w', (Instr.mapUpdate t (.map (some b)) key val).run P w = .ok () w' ∧ MapIs P k lit w' b (n + 1) (setAt f kl val) ∧ w.grownBy w' (some b) ∧ w'.heap.size = w.heap.size := by
  obtain ⟨D, h, hf⟩ := h
  have hm := h.isMap
  obtain ⟨w', hrun, h1, h2⟩ := h.store K ht hn hkey (val := val) (d := .held val) (ps := []) rfl
  refine ⟨w', hrun, ⟨D.put (lit kl) (.held val), h1, fun x hx => ?_⟩, h2.grown, ?_⟩
  · by_cases he : x = kl
    · subst he
      rw [setAt_same]
      exact ⟨by rw [has_put_same hm hx]; rfl, fun z => by rw [atKey_put_same hm hx]; rfl⟩
    · rw [setAt_other _ _ he]
      obtain ⟨a1, a2⟩ := hf x hx
      exact ⟨by rw [has_put_other (fun e => he (hinj _ _ e))]; exact a1, fun z => by rw [atKey_put_other (fun e => he (hinj _ _ e))]; exact a2 z⟩
  · obtain ⟨es, c, es', c', _, rfl⟩ := h2
    simp [setBlock]
end Go.Proofs.YtbinoelbjlgjkaaDoor
namespace Go.Proofs.YtbinoelbjlgjkaaDoor
open Go Go.RowKit Go.Maps Go.WideMaps
def Cal.holErrOf (h : Hol) : Int := Cal.holErr h.kind h.month h.day h.weekday
def hasName (seen : List Hol) (nm : ByteArray) : Bool := seen.any fun q => q.name.toList == nm.toList
/-- The error of holidays, behind those that have been seen. -/
def Cal.holsErrFrom (seen : List Hol) : List Hol → Int
  | [] => 0
  | h :: r => if nameB h.name = true then (if hasName seen h.name = true then 5 else if Cal.holErrOf h = 0 then Cal.holsErrFrom (seen ++ [h]) r else Cal.holErrOf h) else 4
theorem Cal.holsErrFrom_cons (seen : List Hol) (h : Hol) (r : List Hol) : Cal.holsErrFrom seen (h :: r) = if nameB h.name = true then (if hasName seen h.name = true then 5 else if Cal.holErrOf h = 0 then Cal.holsErrFrom (seen ++ [h]) r else Cal.holErrOf h) else 4 := rfl
def Cal.holsErr (l : List Hol) : Int := if 40 < l.length then 8 else Cal.holsErrFrom [] l
theorem boolZero (w : World) : (zeroValue 4).run Tryd.prog w = .ok (.bool false) w := by kernel_rfl
def strLit (x : List UInt8) : Lit := .string x
theorem strLit_inj (x y : List UInt8) (h : strLit x = strLit y) : x = y := by unfold strLit at h; cases h; rfl
/-- The set of names holds those that have been seen. -/
def NamesOf (seen : List Hol) (f : List UInt8 → Option Value) : Prop := ∀ nm : ByteArray, (f nm.data.toList).getD (.bool false) = .bool (hasName seen nm)
theorem NamesOf.start : NamesOf [] (fun _ => none) := fun _ => rfl
theorem NamesOf.step {seen : List Hol} {f : List UInt8 → Option Value} (h : NamesOf seen f) (q : Hol) : NamesOf (seen ++ [q]) (setAt f q.name.data.toList (.bool true)) := fun nm => by
  have e : hasName (seen ++ [q]) nm = (hasName seen nm || (q.name.toList == nm.toList)) := by simp [hasName]
  rw [e]
  by_cases hn : nm.data.toList = q.name.data.toList
  · rw [hn, setAt_same]
    have : (q.name.toList == nm.toList) = true := by rw [ByteArray.toList_eq, ByteArray.toList_eq, hn]; simp
    rw [this]; simp
  · rw [setAt_other _ _ hn, h nm]
    have : (q.name.toList == nm.toList) = false := by rw [ByteArray.toList_eq, ByteArray.toList_eq]; simp; exact fun h => hn (by rw [h])
    rw [this]; simp
theorem CheckHolidays_any (A : Option Addr) (c : Nat) (l : List Hol) (w : World) (hl : Hols w A l) (hT : Tab w) :
    Calls Tryd.prog 18 #[.slice A l.length c] w fun e w' => e = .returned (.int .i64 (Cal.holsErr l)) ∧ Below w.heap.size w w' := by
  have hsz := hl.size
  by_cases hbig : 40 < l.length
  · have hfin : Hid (Cal.holsErr l = 8) := by show _ = _; unfold Cal.holsErr; rw [if_pos hbig]
    go_enter Tryd.func18, Tryd.ntmps18
    go_wp2
    go_ret
    exact ⟨ret_int hfin.out.symm, Below.refl _ _⟩
  · have hfin : Hid (Cal.holsErr l = Cal.holsErrFrom (l.take 0) (l.drop 0)) := by show _ = _; unfold Cal.holsErr; rw [if_neg hbig]; rfl
    have hl' := Lib.hid hl
    have hT' := Lib.hid (fun w' (h : Below w.heap.size w w') => hT.below h)
    clear hl hT
    have hmm := @run_makeMap Tryd.prog
    have hst := Lib.hid (MapIs.made Tryd.prog 9 strLit w)
    go_enter Tryd.func18, Tryd.ntmps18
    go_wp2
    clear hmm
    go_loopw [13] (fun i wr => ∃ (k : Nat) (f : List UInt8 → Option Value), k ≤ l.length ∧ i = .int .i64 k ∧ Hid (Cal.holsErr l = Cal.holsErrFrom (l.take k) (l.drop k)) ∧ Hid (MapIs Tryd.prog 9 strLit wr w.heap.size k f) ∧ Hid (NamesOf (l.take k) f) ∧ w.heap.size < wr.heap.size ∧ Below w.heap.size w wr) (fun i _ => l.length - (intOf i).toNat)
    case atStart => exact ⟨0, _, Nat.zero_le _, rfl, hfin, hst.out, NamesOf.start, by simp, below_alloc _ _⟩
    case round =>
      obtain ⟨k, f, hk, rfl, hinv, hmap, hnames, hlt0, hb⟩ := hrel
      clear hfin hst
      by_cases hlt : k < l.length
      · have hk' : l[k]? = some l[k] := List.getElem?_eq_getElem hlt
        have hd := Lib.hid (List.drop_eq_getElem_cons hlt)
        have htk : Hid (l.take (k + 1) = l.take k ++ [l[k]]) := by show _ = _; rw [List.take_succ_eq_append_getElem hlt]
        have hnm := hl'.out.names k _ hk'
        obtain ⟨b, o, rfl, hbl, c0, c1, c2, c3, c4⟩ := (hl'.out.below hb).at_ hk'
        clear hk'
        generalize l[k] = p at *
        have hbs := hb.size
        cases hn : nameB p.name
        · have hfin : Hid (Cal.holsErr l = 4) := by show _ = _; rw [hinv.out, hd.out, Cal.holsErrFrom_cons, hn]; rfl
          go_wp2_with (first | (go_at_call 31; refine (isName_any _ _ hnm).mono ?_; rintro e w' ⟨rfl, rfl⟩))
          go_ret
          exact ⟨ret_int hfin.out.symm, hb.alloc hbs _⟩
        · have hlk := fun o => (hmap.out.alloc o).look (string_keyed Tryd.underlying9) Tryd.underlying72 (boolZero _) (keyOf_string_mk Tryd.underlying9 hnm)
          have hnp := hnames.out p.name
          have hlk2 : ∀ o, (Instr.lookup 72 (.map (some w.heap.size)) (.string p.name) false).run Tryd.prog (wr.alloc o) = .ok (.bool (hasName (l.take k) p.name)) (wr.alloc o) := fun o => by rw [hlk o, hnp]
          clear hlk hnp
          cases hs : hasName (l.take k) p.name
          · rw [hs] at hlk2
            obtain ⟨w2, hrun, hm2, hg2, hsz2⟩ := (hmap.out.alloc (.cells #[.string p.name, .int .i64 p.kind, .int .i64 p.month, .int .i64 p.day, .int .i64 p.weekday] 74)).store strLit_inj (string_keyed Tryd.underlying9) Tryd.underlying72 (by unfold maxLen; omega) (val := .bool true) (keyOf_string_mk Tryd.underlying9 hnm)
            have hm2 := Lib.hid hm2
            have hc2 : ∀ (j : Nat), w2.cell? ⟨wr.heap.size, j, none⟩ = (wr.alloc (.cells #[.string p.name, .int .i64 p.kind, .int .i64 p.month, .int .i64 p.day, .int .i64 p.weekday] 74)).cell? ⟨wr.heap.size, j, none⟩ := fun j => World.cell?_of_block (hg2.block _ (by simp) (by simp; omega))
            have hb2 : Below w.heap.size w w2 := (hb.alloc hbs _).grown hg2 (by simp; omega) (by simp)
            have hlt2 : w.heap.size < w2.heap.size := by rw [hsz2]; simp; omega
            have hg2 := Lib.hid hg2
            have hsz2 := Lib.hid hsz2
            have hT2 := Lib.hid (hT'.out _ hb2)
            by_cases hp0 : Cal.holErrOf p = 0
            · have hp1 : (Cal.holErr p.kind p.month p.day p.weekday != 0) = false := by simpa [Cal.holErrOf] using hp0
              have hnx : Hid (Cal.holsErr l = Cal.holsErrFrom (l.take (k + 1)) (l.drop (k + 1))) := by show _ = _; rw [hinv.out, hd.out, Cal.holsErrFrom_cons, hn, hs, htk.out]; simp [hp0]
              have hnms : Hid (NamesOf (l.take (k + 1)) (setAt f p.name.data.toList (.bool true))) := by show NamesOf _ _; rw [htk.out]; exact hnames.out.step p
              clear hp0
              go_wp2_with (first | (go_at_call 31; refine (isName_any _ _ hnm).mono ?_; rintro e w' ⟨rfl, rfl⟩) | (go_at_call 32; refine (checkHoliday_any _ _ _ _ _ _ hT2.out).mono ?_; rintro e w3 ⟨rfl, hb3⟩; obtain ⟨hc3, hf3⟩ := bcell hb3))
              go_roundw
              case rel => exact ⟨k + 1, _, by omega, by go_num, hnx, hm2.out.below hb3 hlt2, hnms, Nat.lt_of_lt_of_le hlt2 hb3.size, below_step hb2 hb3⟩
              case measure => simp [intOf]; omega
            · have hp1 : (Cal.holErr p.kind p.month p.day p.weekday != 0) = true := by simpa [Cal.holErrOf] using hp0
              have hfin : Hid (Cal.holsErr l = Cal.holErr p.kind p.month p.day p.weekday) := by show _ = _; rw [hinv.out, hd.out, Cal.holsErrFrom_cons, hn, hs]; simp [hp0]; rfl
              clear hp0
              go_wp2_with (first | (go_at_call 31; refine (isName_any _ _ hnm).mono ?_; rintro e w' ⟨rfl, rfl⟩) | (go_at_call 32; refine (checkHoliday_any _ _ _ _ _ _ hT2.out).mono ?_; rintro e w3 ⟨rfl, hb3⟩; obtain ⟨hc3, hf3⟩ := bcell hb3))
              go_ret
              exact ⟨ret_int hfin.out.symm, below_step hb2 hb3⟩
          · rw [hs] at hlk2
            have hfin : Hid (Cal.holsErr l = 5) := by show _ = _; rw [hinv.out, hd.out, Cal.holsErrFrom_cons, hn, hs]; rfl
            go_wp2_with (first | (go_at_call 31; refine (isName_any _ _ hnm).mono ?_; rintro e w' ⟨rfl, rfl⟩))
            go_ret
            exact ⟨ret_int hfin.out.symm, hb.alloc hbs _⟩
      · obtain rfl : k = l.length := by omega
        have hfin : Hid (Cal.holsErr l = 0) := by show _ = _; rw [hinv.out, List.drop_length]; rfl
        clear hinv
        go_wp2
        go_ret
        exact ⟨ret_int hfin.out.symm, hb⟩
end Go.Proofs.YtbinoelbjlgjkaaDoor
