/- What the statements rest on: definitions and walks, part 32. -/
import Derived.Test.YtfcjeejhdklkdaaJ02
set_option maxRecDepth 100000
set_option maxHeartbeats 16000000
set_option linter.unusedSimpArgs false
set_option linter.unusedVariables false
namespace Go.Proofs.Ytfcjeejhdklkdaa
open Go Go.RowKit Go.Shelf
theorem wpAnyH_hide {P : Program} {md : Region.Mode} {ops : Array Oper} {Q : Exit → Act → World → Prop} {S : World → Prop} {fuel : Nat} {listed : Array Bool} {a : Act} {w : World} (hp : ∀ c a (d : Nat) v w, Q (.panic c) (a.put (some d) v) w → Q (.panic c) a w)
  (h : ∀ Q0, (∀ c a (d : Nat) v w, Q0 (.panic c) (a.put (some d) v) w → Q0 (.panic c) a w) → Hid (Q0 = Q) → wpAnyH P md ops Q0 S fuel listed a w) : wpAnyH P md ops Q S fuel listed a w := h Q hp rfl
theorem tkQ {P : Program} {ops : Array Oper} {Q : Exit → Act → World → Prop} {md : Region.Mode} {S : World → Prop} (i : Nat) (d : Nat) (hp : ∀ c a (d : Nat) v w, Q (.panic c) (a.put (some d) v) w → Q (.panic c) a w) {oi : Oper} {v : Value} {fuel : Nat} {listed : Array Bool} {a : Act} {w : World}
  (hy : ∀ w, S w → (execOp a.eval oi).run P w = .ok (.value v) w) (h : wpAnyH P md ops Q S fuel (listed.setIfInBounds i true) (a.put (some d) v) w)
  (hi : ops[i]? = some oi := by exact rfl) (hdd : oi.dst = some d := by kernel_rfl) (hs : Region.noSelect ops = true := by kernel_rfl) (hf : Region.free md ops listed i = true := by decide +kernel) (hr : (Region.ready md ops listed).contains i = true := by decide +kernel)
  (hw : Region.wanted oi (yielded ops a.tmps) = true := by kernel_rfl) (hS : S w := by assumption) : wpAnyH P md ops Q S (fuel + 1) listed a w :=
 tkH2 i d hy h hi hdd hs hf hr (fun c _ w h => by rw [hdd] at h; exact hp c _ d v w h) hw hS
theorem tkQx {P : Program} {ops : Array Oper} {Q : Exit → Act → World → Prop} {md : Region.Mode} {S : World → Prop} (i : Nat) (d : Nat) (hp : ∀ c a (d : Nat) v w, Q (.panic c) (a.put (some d) v) w → Q (.panic c) a w) {oi : Oper} {v : Value} {fuel : Nat} {listed l' : Array Bool} {a a' : Act} {w : World}
  (h : wpAnyH P md ops Q S fuel l' a' w) (hi : ops[i]? = some oi := by exact rfl)
  (hy : ∀ w, S w → (execOp a.eval oi).run P w = .ok (.value v) w := by (intro w' hSw; replace hSw := hSw.cs; (try simp only [cs_iff_cons] at hSw); go_simp; (try with_reducible rfl)))
  (ha : a.put (some d) v = a' := by ((try simp only [Act.put, List.setIfInBounds_toArray, List.set_cons_zero, List.set_cons_succ]); exact rfl))
  (hl : listed.setIfInBounds i true = l' := by ((try simp only [List.setIfInBounds_toArray, List.set_cons_zero, List.set_cons_succ]); exact rfl))
  (hdd : oi.dst = some d := by kernel_rfl) (hs : Region.noSelect ops = true := by kernel_rfl) (hf : Region.free md ops listed i = true := by decide +kernel) (hr : (Region.ready md ops listed).contains i = true := by decide +kernel)
  (hw : Region.wanted oi (yielded ops a.tmps) = true := by kernel_rfl) (hS : S w := by assumption) : wpAnyH P md ops Q S (fuel + 1) listed a w :=
 tkQ i d hp hy (by rw [ha, hl]; exact h) hi hdd hs hf hr hw hS
end Go.Proofs.Ytfcjeejhdklkdaa
