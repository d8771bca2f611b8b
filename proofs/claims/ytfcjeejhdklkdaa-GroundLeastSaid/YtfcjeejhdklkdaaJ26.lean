/- What the statements rest on: definitions and walks, part 26. -/
import Derived.Test.YtfcjeejhdklkdaaJ12
set_option maxRecDepth 100000
set_option maxHeartbeats 16000000
set_option linter.unusedSimpArgs false
set_option linter.unusedVariables false
namespace Go.Proofs.Ytfcjeejhdklkdaa
open Go Go.RowKit Go.Shelf
theorem absG_any (n : Int) (h1 : -9223372036854775807 ≤ n) (h2 : n ≤ 9223372036854775807) (w : World) : Calls Try.prog 18 #[.int .i64 n] w fun e w' => e = .returned (.int .i64 (n.natAbs : Int)) ∧ w = w' := by
 have hng : IntKind.i64.wrap (-n) = -n := wrap_small (by omega) (by omega)
 have hf : Hid ((n.natAbs : Int) = max n (-n)) := by show _ = _; omega
 go_enter Try.func18, Try.ntmps18
 go_wp2
 go_ret
 exact ⟨ret_int hf.out.symm, rfl⟩
end Go.Proofs.Ytfcjeejhdklkdaa
