/- What the statements rest on: definitions and walks, part 27. -/
import Derived.Test.YtfcjeejhdklkdaaJ24
set_option maxRecDepth 100000
set_option maxHeartbeats 16000000
set_option linter.unusedSimpArgs false
set_option linter.unusedVariables false
namespace Go.Proofs.Ytfcjeejhdklkdaa
open Go Go.RowKit Go.Shelf
theorem wpPushP {ops : Array Oper} {rest : List Oper} {op : Oper} {a : Act} {w : World} {Q : Exit → Act → World → Prop} {B : Nat} {v : Value} {rows : List (List Value)} {t : TypeId} (q : Pt) (h : OwnL w B 75 2 v rows) (hB : B ≤ w.heap.size) (hlen : rows.length ≤ 1000000)
  (hgd : op.guard = none) (s x : Operand) (ho : op.op = .call { callee := .builtin .append, args := #[s, x], argTypes := #[48, 48] }) (hs : a.eval s = v) {c n : Nat} (hx : a.eval x = .slice (some ⟨n, 0, none⟩) 1 c) (hn : n = w.heap.size)
  (k : ∀ v' w', OwnL w' B 75 2 v' (rows ++ [ptR q]) → Below B w w' → (w.alloc (.cells #[.int .i64 q.x, .int .i64 q.y] t)).grownBy w' v.ownBlock → wpList Try.prog ops Q rest (a.put op.dst v') w') : wpList Try.prog ops Q (op :: rest) a (w.alloc (.cells #[.int .i64 q.x, .int .i64 q.y] t)) := by
 subst hn
 refine wpList_append_rows elemPtW hgd s x ho hs hx (OwnL.below h (below_alloc _ _)) (rowsAt_new _ (ptR q) _) rfl (fun r hr => by rw [List.mem_singleton.1 hr]; rfl) (fun r hr u hu => by
  rw [List.mem_singleton.1 hr] at hu
  unfold ptR at hu
  rcases List.mem_cons.1 hu with e | hu
  ·rw [e]; rfl
  ·rw [List.mem_singleton.1 hu]; rfl) (by rw [List.length_singleton]; omega) (by decide) (by simp; omega) ?_
 intro v' w2 hown2 hg2 _
 exact k v' w2 hown2 (((Below.refl B w).alloc hB _).trans (grown_below hg2 (fun g e => (OwnL.lt h g e).1) (by simp; omega))) hg2
end Go.Proofs.Ytfcjeejhdklkdaa
