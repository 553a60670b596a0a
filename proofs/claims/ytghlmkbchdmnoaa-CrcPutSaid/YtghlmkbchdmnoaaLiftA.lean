/- Own text, printed by the lifting program: each Go function beside a plain function, and the proof that a call of the one comes to the other. Conditions: what came in can be read. -/
import Derived.Test.YtghlmkbchdmnoaaSxIter
import Derived.Test.YtghlmkbchdmnoaaSxLib
import Derived.Test.YtghlmkbchdmnoaaProg
set_option linter.unusedVariables false
set_option linter.unusedSimpArgs false
set_option maxRecDepth 10000
set_option maxHeartbeats 4000000
namespace Go.Proofs.Ytghlmkbchdmnoaa
open Go Go.Sx
theorem ti5 : TI Try.prog 5 1 1 (.int .u8 0) := TI.of (by kernel_rfl)
theorem ti22 : TI Try.prog 22 1 4 (.int .u32 0) := TI.of (by kernel_rfl)
theorem ti26 : TI Try.prog 26 1 24 (.slice none 0 0) := TI.of (by kernel_rfl)
theorem ti42 : TI Try.prog 42 256 1024 (.agg (Array.replicate 256 (.int .u32 0))) := TI.of (by kernel_rfl)
theorem ti43 : TI Try.prog 43 2048 8192 (.agg (Array.replicate 2048 (.int .u32 0))) := TI.of (by kernel_rfl)
theorem ti45 : TI Try.prog 45 2048 8192 (.agg #[.int .u32 0, .int .u32 0, .int .u32 0, .int .u32 0, .int .u32 0, .int .u32 0, .int .u32 0, .int .u32 0, .int .u32 0, .int .u32 0, .int .u32 0, .int .u32 0, .int .u32 0, .int .u32 0, .int .u32 0, .int .u32 0, .int .u32 0, .int .u32 0, .int .u32 0, .int .u32 0, .int .u32 0, .int .u32 0, .int .u32 0, .int .u32 0, .int .u32 0, .int .u32 0, .int .u32 0, .int .u32 0, .int .u32 0, .int .u32 0, .int .u32 0, .int .u32 0, .int .u32 0, .int .u32 0, .int .u32 0, .int .u32 0, .int .u32 0, .int .u32 0, .int .u32 0, .int .u32 0, .int .u32 0, .int .u32 0, .int .u32 0, .int .u32 0, .int .u32 0, .int .u32 0, .int .u32 0, .int .u32 0, .int .u32 0, .int .u32 0, .int .u32 0, .int .u32 0, .int .u32 0, .int .u32 0, .int .u32 0, .int .u32 0, .int .u32 0, .int .u32 0, .int .u32 0, .int .u32 0, .int .u32 0, .int .u32 0, .int .u32 0, .int .u32 0, .int .u32 0, .int .u32 0, .int .u32 0, .int .u32 0, .int .u32 0, .int .u32 0, .int .u32 0, .int .u32 0, .int .u32 0, .int .u32 0, .int .u32 0, .int .u32 0, .int .u32 0, .int .u32 0, .int .u32 0, .int .u32 0, .int .u32 0, .int .u32 0, .int .u32 0, .int .u32 0, .int .u32 0, .int .u32 0, .int .u32 0, .int .u32 0, .int .u32 0, .int .u32 0, .int .u32 0, .int .u32 0, .int .u32 0, .int .u32 0, .int .u32 0, .int .u32 0, .int .u32 0, .int .u32 0, .int .u32 0, .int .u32 0, .int .u32 0, .int .u32 0, .int .u32 0, .int .u32 0, .int .u32 0, .int .u32 0, .int .u32 0, .int .u32 0, .int .u32 0, .int .u32 0, .int .u32 0, .int .u32 0, .int .u32 0, .int .u32 0, .int .u32 0, .int .u32 0, .int .u32 0, .int .u32 0, .int .u32 0, .int .u32 0, .int .u32 0, .int .u32 0, .int .u32 0, .int .u32 0, .int .u32 0, .int .u32 0, .int .u32 0, .int .u32 0, .int .u32 0, .int .u32 0, .int .u32 0, .int .u32 0, .int .u32 0, .int .u32 0, .int .u32 0, .int .u32 0, .int .u32 0, .int .u32 0, .int .u32 0, .int .u32 0, .int .u32 0, .int .u32 0, .int .u32 0, .int .u32 0, .int .u32 0, .int .u32 0, .int .u32 0, .int .u32 0, .int .u32 0, .int .u32 0, .int .u32 0, .int .u32 0, .int .u32 0, .int .u32 0, .int .u32 0, .int .u32 0, .int .u32 0, .int .u32 0, .int .u32 0, .int .u32 0, .int .u32 0, .int .u32 0, .int .u32 0, .int .u32 0, .int .u32 0, .int .u32 0, .int .u32 0, .int .u32 0, .int .u32 0, .int .u32 0, .int .u32 0, .int .u32 0, .int .u32 0, .int .u32 0, .int .u32 0, .int .u32 0, .int .u32 0, .int .u32 0, .int .u32 0, .int .u32 0, .int .u32 0, .int .u32 0, .int .u32 0, .int .u32 0, .int .u32 0, .int .u32 0, .int .u32 0, .int .u32 0, .int .u32 0, .int .u32 0, .int .u32 0, .int .u32 0, .int .u32 0, .int .u32 0, .int .u32 0, .int .u32 0, .int .u32 0, .int .u32 0, .int .u32 0, .int .u32 0, .int .u32 0, .int .u32 0, .int .u32 0, .int .u32 0, .int .u32 0, .int .u32 0, .int .u32 0, .int .u32 0, .int .u32 0, .int .u32 0, .int .u32 0, .int .u32 0, .int .u32 0, .int .u32 0, .int .u32 0, .int .u32 0, .int .u32 0, .int .u32 0, .int .u32 0, .int .u32 0, .int .u32 0, .int .u32 0, .int .u32 0, .int .u32 0, .int .u32 0, .int .u32 0, .int .u32 0, .int .u32 0, .int .u32 0, .int .u32 0, .int .u32 0, .int .u32 0, .int .u32 0, .int .u32 0, .int .u32 0, .int .u32 0, .int .u32 0, .int .u32 0, .int .u32 0, .int .u32 0, .int .u32 0, .int .u32 0, .int .u32 0, .int .u32 0, .int .u32 0, .int .u32 0, .int .u32 0, .int .u32 0, .int .u32 0, .int .u32 0, .int .u32 0, .int .u32 0, .int .u32 0, .int .u32 0, .int .u32 0, .int .u32 0, .int .u32 0, .int .u32 0, .int .u32 0, .int .u32 0, .int .u32 0, .int .u32 0, .int .u32 0, .int .u32 0, .int .u32 0, .int .u32 0, .int .u32 0, .int .u32 0, .int .u32 0, .int .u32 0, .int .u32 0, .int .u32 0, .int .u32 0, .int .u32 0, .int .u32 0, .int .u32 0, .int .u32 0, .int .u32 0, .int .u32 0, .int .u32 0, .int .u32 0, .int .u32 0, .int .u32 0, .int .u32 0, .int .u32 0, .int .u32 0, .int .u32 0, .int .u32 0, .int .u32 0, .int .u32 0, .int .u32 0, .int .u32 0, .int .u32 0, .int .u32 0, .int .u32 0, .int .u32 0, .int .u32 0, .int .u32 0, .int .u32 0, .int .u32 0, .int .u32 0, .int .u32 0, .int .u32 0, .int .u32 0, .int .u32 0, .int .u32 0, .int .u32 0, .int .u32 0, .int .u32 0, .int .u32 0, .int .u32 0, .int .u32 0, .int .u32 0, .int .u32 0, .int .u32 0, .int .u32 0, .int .u32 0, .int .u32 0, .int .u32 0, .int .u32 0, .int .u32 0, .int .u32 0, .int .u32 0, .int .u32 0, .int .u32 0, .int .u32 0, .int .u32 0, .int .u32 0, .int .u32 0, .int .u32 0, .int .u32 0, .int .u32 0, .int .u32 0, .int .u32 0, .int .u32 0, .int .u32 0, .int .u32 0, .int .u32 0, .int .u32 0, .int .u32 0, .int .u32 0, .int .u32 0, .int .u32 0, .int .u32 0, .int .u32 0, .int .u32 0, .int .u32 0, .int .u32 0, .int .u32 0, .int .u32 0, .int .u32 0, .int .u32 0, .int .u32 0, .int .u32 0, .int .u32 0, .int .u32 0, .int .u32 0, .int .u32 0, .int .u32 0, .int .u32 0, .int .u32 0, .int .u32 0, .int .u32 0, .int .u32 0, .int .u32 0, .int .u32 0, .int .u32 0, .int .u32 0, .int .u32 0, .int .u32 0, .int .u32 0, .int .u32 0, .int .u32 0, .int .u32 0, .int .u32 0, .int .u32 0, .int .u32 0, .int .u32 0, .int .u32 0, .int .u32 0, .int .u32 0, .int .u32 0, .int .u32 0, .int .u32 0, .int .u32 0, .int .u32 0, .int .u32 0, .int .u32 0, .int .u32 0, .int .u32 0, .int .u32 0, .int .u32 0, .int .u32 0, .int .u32 0, .int .u32 0, .int .u32 0, .int .u32 0, .int .u32 0, .int .u32 0, .int .u32 0, .int .u32 0, .int .u32 0, .int .u32 0, .int .u32 0, .int .u32 0, .int .u32 0, .int .u32 0, .int .u32 0, .int .u32 0, .int .u32 0, .int .u32 0, .int .u32 0, .int .u32 0, .int .u32 0, .int .u32 0, .int .u32 0, .int .u32 0, .int .u32 0, .int .u32 0, .int .u32 0, .int .u32 0, .int .u32 0, .int .u32 0, .int .u32 0, .int .u32 0, .int .u32 0, .int .u32 0, .int .u32 0, .int .u32 0, .int .u32 0, .int .u32 0, .int .u32 0, .int .u32 0, .int .u32 0, .int .u32 0, .int .u32 0, .int .u32 0, .int .u32 0, .int .u32 0, .int .u32 0, .int .u32 0, .int .u32 0, .int .u32 0, .int .u32 0, .int .u32 0, .int .u32 0, .int .u32 0, .int .u32 0, .int .u32 0, .int .u32 0, .int .u32 0, .int .u32 0, .int .u32 0, .int .u32 0, .int .u32 0, .int .u32 0, .int .u32 0, .int .u32 0, .int .u32 0, .int .u32 0, .int .u32 0, .int .u32 0, .int .u32 0, .int .u32 0, .int .u32 0, .int .u32 0, .int .u32 0, .int .u32 0, .int .u32 0, .int .u32 0, .int .u32 0, .int .u32 0, .int .u32 0, .int .u32 0, .int .u32 0, .int .u32 0, .int .u32 0, .int .u32 0, .int .u32 0, .int .u32 0, .int .u32 0, .int .u32 0, .int .u32 0, .int .u32 0, .int .u32 0, .int .u32 0, .int .u32 0, .int .u32 0, .int .u32 0, .int .u32 0, .int .u32 0, .int .u32 0, .int .u32 0, .int .u32 0, .int .u32 0, .int .u32 0, .int .u32 0, .int .u32 0, .int .u32 0, .int .u32 0, .int .u32 0, .int .u32 0, .int .u32 0, .int .u32 0, .int .u32 0, .int .u32 0, .int .u32 0, .int .u32 0, .int .u32 0, .int .u32 0, .int .u32 0, .int .u32 0, .int .u32 0, .int .u32 0, .int .u32 0, .int .u32 0, .int .u32 0, .int .u32 0, .int .u32 0, .int .u32 0, .int .u32 0, .int .u32 0, .int .u32 0, .int .u32 0, .int .u32 0, .int .u32 0, .int .u32 0, .int .u32 0, .int .u32 0, .int .u32 0, .int .u32 0, .int .u32 0, .int .u32 0, .int .u32 0, .int .u32 0, .int .u32 0, .int .u32 0, .int .u32 0, .int .u32 0, .int .u32 0, .int .u32 0, .int .u32 0, .int .u32 0, .int .u32 0, .int .u32 0, .int .u32 0, .int .u32 0, .int .u32 0, .int .u32 0, .int .u32 0, .int .u32 0, .int .u32 0, .int .u32 0, .int .u32 0, .int .u32 0, .int .u32 0, .int .u32 0, .int .u32 0, .int .u32 0, .int .u32 0, .int .u32 0, .int .u32 0, .int .u32 0, .int .u32 0, .int .u32 0, .int .u32 0, .int .u32 0, .int .u32 0, .int .u32 0, .int .u32 0, .int .u32 0, .int .u32 0, .int .u32 0, .int .u32 0, .int .u32 0, .int .u32 0, .int .u32 0, .int .u32 0, .int .u32 0, .int .u32 0, .int .u32 0, .int .u32 0, .int .u32 0, .int .u32 0, .int .u32 0, .int .u32 0, .int .u32 0, .int .u32 0, .int .u32 0, .int .u32 0, .int .u32 0, .int .u32 0, .int .u32 0, .int .u32 0, .int .u32 0, .int .u32 0, .int .u32 0, .int .u32 0, .int .u32 0, .int .u32 0, .int .u32 0, .int .u32 0, .int .u32 0, .int .u32 0, .int .u32 0, .int .u32 0, .int .u32 0, .int .u32 0, .int .u32 0, .int .u32 0, .int .u32 0, .int .u32 0, .int .u32 0, .int .u32 0, .int .u32 0, .int .u32 0, .int .u32 0, .int .u32 0, .int .u32 0, .int .u32 0, .int .u32 0, .int .u32 0, .int .u32 0, .int .u32 0, .int .u32 0, .int .u32 0, .int .u32 0, .int .u32 0, .int .u32 0, .int .u32 0, .int .u32 0, .int .u32 0, .int .u32 0, .int .u32 0, .int .u32 0, .int .u32 0, .int .u32 0, .int .u32 0, .int .u32 0, .int .u32 0, .int .u32 0, .int .u32 0, .int .u32 0, .int .u32 0, .int .u32 0, .int .u32 0, .int .u32 0, .int .u32 0, .int .u32 0, .int .u32 0, .int .u32 0, .int .u32 0, .int .u32 0, .int .u32 0, .int .u32 0, .int .u32 0, .int .u32 0, .int .u32 0, .int .u32 0, .int .u32 0, .int .u32 0, .int .u32 0, .int .u32 0, .int .u32 0, .int .u32 0, .int .u32 0, .int .u32 0, .int .u32 0, .int .u32 0, .int .u32 0, .int .u32 0, .int .u32 0, .int .u32 0, .int .u32 0, .int .u32 0, .int .u32 0, .int .u32 0, .int .u32 0, .int .u32 0, .int .u32 0, .int .u32 0, .int .u32 0, .int .u32 0, .int .u32 0, .int .u32 0, .int .u32 0, .int .u32 0, .int .u32 0, .int .u32 0, .int .u32 0, .int .u32 0, .int .u32 0, .int .u32 0, .int .u32 0, .int .u32 0, .int .u32 0, .int .u32 0, .int .u32 0, .int .u32 0, .int .u32 0, .int .u32 0, .int .u32 0, .int .u32 0, .int .u32 0, .int .u32 0, .int .u32 0, .int .u32 0, .int .u32 0, .int .u32 0, .int .u32 0, .int .u32 0, .int .u32 0, .int .u32 0, .int .u32 0, .int .u32 0, .int .u32 0, .int .u32 0, .int .u32 0, .int .u32 0, .int .u32 0, .int .u32 0, .int .u32 0, .int .u32 0, .int .u32 0, .int .u32 0, .int .u32 0, .int .u32 0, .int .u32 0, .int .u32 0, .int .u32 0, .int .u32 0, .int .u32 0, .int .u32 0, .int .u32 0, .int .u32 0, .int .u32 0, .int .u32 0, .int .u32 0, .int .u32 0, .int .u32 0, .int .u32 0, .int .u32 0, .int .u32 0, .int .u32 0, .int .u32 0, .int .u32 0, .int .u32 0, .int .u32 0, .int .u32 0, .int .u32 0, .int .u32 0, .int .u32 0, .int .u32 0, .int .u32 0, .int .u32 0, .int .u32 0, .int .u32 0, .int .u32 0, .int .u32 0, .int .u32 0, .int .u32 0, .int .u32 0, .int .u32 0, .int .u32 0, .int .u32 0, .int .u32 0, .int .u32 0, .int .u32 0, .int .u32 0, .int .u32 0, .int .u32 0, .int .u32 0, .int .u32 0, .int .u32 0, .int .u32 0, .int .u32 0, .int .u32 0, .int .u32 0, .int .u32 0, .int .u32 0, .int .u32 0, .int .u32 0, .int .u32 0, .int .u32 0, .int .u32 0, .int .u32 0, .int .u32 0, .int .u32 0, .int .u32 0, .int .u32 0, .int .u32 0, .int .u32 0, .int .u32 0, .int .u32 0, .int .u32 0, .int .u32 0, .int .u32 0, .int .u32 0, .int .u32 0, .int .u32 0, .int .u32 0, .int .u32 0, .int .u32 0, .int .u32 0, .int .u32 0, .int .u32 0, .int .u32 0, .int .u32 0, .int .u32 0, .int .u32 0, .int .u32 0, .int .u32 0, .int .u32 0, .int .u32 0, .int .u32 0, .int .u32 0, .int .u32 0, .int .u32 0, .int .u32 0, .int .u32 0, .int .u32 0, .int .u32 0, .int .u32 0, .int .u32 0, .int .u32 0, .int .u32 0, .int .u32 0, .int .u32 0, .int .u32 0, .int .u32 0, .int .u32 0, .int .u32 0, .int .u32 0, .int .u32 0, .int .u32 0, .int .u32 0, .int .u32 0, .int .u32 0, .int .u32 0, .int .u32 0, .int .u32 0, .int .u32 0, .int .u32 0, .int .u32 0, .int .u32 0, .int .u32 0, .int .u32 0, .int .u32 0, .int .u32 0, .int .u32 0, .int .u32 0, .int .u32 0, .int .u32 0, .int .u32 0, .int .u32 0, .int .u32 0, .int .u32 0, .int .u32 0, .int .u32 0, .int .u32 0, .int .u32 0, .int .u32 0, .int .u32 0, .int .u32 0, .int .u32 0, .int .u32 0, .int .u32 0, .int .u32 0, .int .u32 0, .int .u32 0, .int .u32 0, .int .u32 0, .int .u32 0, .int .u32 0, .int .u32 0, .int .u32 0, .int .u32 0, .int .u32 0, .int .u32 0, .int .u32 0, .int .u32 0, .int .u32 0, .int .u32 0, .int .u32 0, .int .u32 0, .int .u32 0, .int .u32 0, .int .u32 0, .int .u32 0, .int .u32 0, .int .u32 0, .int .u32 0, .int .u32 0, .int .u32 0, .int .u32 0, .int .u32 0, .int .u32 0, .int .u32 0, .int .u32 0, .int .u32 0, .int .u32 0, .int .u32 0, .int .u32 0, .int .u32 0, .int .u32 0, .int .u32 0, .int .u32 0, .int .u32 0, .int .u32 0, .int .u32 0, .int .u32 0, .int .u32 0, .int .u32 0, .int .u32 0, .int .u32 0, .int .u32 0, .int .u32 0, .int .u32 0, .int .u32 0, .int .u32 0, .int .u32 0, .int .u32 0, .int .u32 0, .int .u32 0, .int .u32 0, .int .u32 0, .int .u32 0, .int .u32 0, .int .u32 0, .int .u32 0, .int .u32 0, .int .u32 0, .int .u32 0, .int .u32 0, .int .u32 0, .int .u32 0, .int .u32 0, .int .u32 0, .int .u32 0, .int .u32 0, .int .u32 0, .int .u32 0, .int .u32 0, .int .u32 0, .int .u32 0, .int .u32 0, .int .u32 0, .int .u32 0, .int .u32 0, .int .u32 0, .int .u32 0, .int .u32 0, .int .u32 0, .int .u32 0, .int .u32 0, .int .u32 0, .int .u32 0, .int .u32 0, .int .u32 0, .int .u32 0, .int .u32 0, .int .u32 0, .int .u32 0, .int .u32 0, .int .u32 0, .int .u32 0, .int .u32 0, .int .u32 0, .int .u32 0, .int .u32 0, .int .u32 0, .int .u32 0, .int .u32 0, .int .u32 0, .int .u32 0, .int .u32 0, .int .u32 0, .int .u32 0, .int .u32 0, .int .u32 0, .int .u32 0, .int .u32 0, .int .u32 0, .int .u32 0, .int .u32 0, .int .u32 0, .int .u32 0, .int .u32 0, .int .u32 0, .int .u32 0, .int .u32 0, .int .u32 0, .int .u32 0, .int .u32 0, .int .u32 0, .int .u32 0, .int .u32 0, .int .u32 0, .int .u32 0, .int .u32 0, .int .u32 0, .int .u32 0, .int .u32 0, .int .u32 0, .int .u32 0, .int .u32 0, .int .u32 0, .int .u32 0, .int .u32 0, .int .u32 0, .int .u32 0, .int .u32 0, .int .u32 0, .int .u32 0, .int .u32 0, .int .u32 0, .int .u32 0, .int .u32 0, .int .u32 0, .int .u32 0, .int .u32 0, .int .u32 0, .int .u32 0, .int .u32 0, .int .u32 0, .int .u32 0, .int .u32 0, .int .u32 0, .int .u32 0, .int .u32 0, .int .u32 0, .int .u32 0, .int .u32 0, .int .u32 0, .int .u32 0, .int .u32 0, .int .u32 0, .int .u32 0, .int .u32 0, .int .u32 0, .int .u32 0, .int .u32 0, .int .u32 0, .int .u32 0, .int .u32 0, .int .u32 0, .int .u32 0, .int .u32 0, .int .u32 0, .int .u32 0, .int .u32 0, .int .u32 0, .int .u32 0, .int .u32 0, .int .u32 0, .int .u32 0, .int .u32 0, .int .u32 0, .int .u32 0, .int .u32 0, .int .u32 0, .int .u32 0, .int .u32 0, .int .u32 0, .int .u32 0, .int .u32 0, .int .u32 0, .int .u32 0, .int .u32 0, .int .u32 0, .int .u32 0, .int .u32 0, .int .u32 0, .int .u32 0, .int .u32 0, .int .u32 0, .int .u32 0, .int .u32 0, .int .u32 0, .int .u32 0, .int .u32 0, .int .u32 0, .int .u32 0, .int .u32 0, .int .u32 0, .int .u32 0, .int .u32 0, .int .u32 0, .int .u32 0, .int .u32 0, .int .u32 0, .int .u32 0, .int .u32 0, .int .u32 0, .int .u32 0, .int .u32 0, .int .u32 0, .int .u32 0, .int .u32 0, .int .u32 0, .int .u32 0, .int .u32 0, .int .u32 0, .int .u32 0, .int .u32 0, .int .u32 0, .int .u32 0, .int .u32 0, .int .u32 0, .int .u32 0, .int .u32 0, .int .u32 0, .int .u32 0, .int .u32 0, .int .u32 0, .int .u32 0, .int .u32 0, .int .u32 0, .int .u32 0, .int .u32 0, .int .u32 0, .int .u32 0, .int .u32 0, .int .u32 0, .int .u32 0, .int .u32 0, .int .u32 0, .int .u32 0, .int .u32 0, .int .u32 0, .int .u32 0, .int .u32 0, .int .u32 0, .int .u32 0, .int .u32 0, .int .u32 0, .int .u32 0, .int .u32 0, .int .u32 0, .int .u32 0, .int .u32 0, .int .u32 0, .int .u32 0, .int .u32 0, .int .u32 0, .int .u32 0, .int .u32 0, .int .u32 0, .int .u32 0, .int .u32 0, .int .u32 0, .int .u32 0, .int .u32 0, .int .u32 0, .int .u32 0, .int .u32 0, .int .u32 0, .int .u32 0, .int .u32 0, .int .u32 0, .int .u32 0, .int .u32 0, .int .u32 0, .int .u32 0, .int .u32 0, .int .u32 0, .int .u32 0, .int .u32 0, .int .u32 0, .int .u32 0, .int .u32 0, .int .u32 0, .int .u32 0, .int .u32 0, .int .u32 0, .int .u32 0, .int .u32 0, .int .u32 0, .int .u32 0, .int .u32 0, .int .u32 0, .int .u32 0, .int .u32 0, .int .u32 0, .int .u32 0, .int .u32 0, .int .u32 0, .int .u32 0, .int .u32 0, .int .u32 0, .int .u32 0, .int .u32 0, .int .u32 0, .int .u32 0, .int .u32 0, .int .u32 0, .int .u32 0, .int .u32 0, .int .u32 0, .int .u32 0, .int .u32 0, .int .u32 0, .int .u32 0, .int .u32 0, .int .u32 0, .int .u32 0, .int .u32 0, .int .u32 0, .int .u32 0, .int .u32 0, .int .u32 0, .int .u32 0, .int .u32 0, .int .u32 0, .int .u32 0, .int .u32 0, .int .u32 0, .int .u32 0, .int .u32 0, .int .u32 0, .int .u32 0, .int .u32 0, .int .u32 0, .int .u32 0, .int .u32 0, .int .u32 0, .int .u32 0, .int .u32 0, .int .u32 0, .int .u32 0, .int .u32 0, .int .u32 0, .int .u32 0, .int .u32 0, .int .u32 0, .int .u32 0, .int .u32 0, .int .u32 0, .int .u32 0, .int .u32 0, .int .u32 0, .int .u32 0, .int .u32 0, .int .u32 0, .int .u32 0, .int .u32 0, .int .u32 0, .int .u32 0, .int .u32 0, .int .u32 0, .int .u32 0, .int .u32 0, .int .u32 0, .int .u32 0, .int .u32 0, .int .u32 0, .int .u32 0, .int .u32 0, .int .u32 0, .int .u32 0, .int .u32 0, .int .u32 0, .int .u32 0, .int .u32 0, .int .u32 0, .int .u32 0, .int .u32 0, .int .u32 0, .int .u32 0, .int .u32 0, .int .u32 0, .int .u32 0, .int .u32 0, .int .u32 0, .int .u32 0, .int .u32 0, .int .u32 0, .int .u32 0, .int .u32 0, .int .u32 0, .int .u32 0, .int .u32 0, .int .u32 0, .int .u32 0, .int .u32 0, .int .u32 0, .int .u32 0, .int .u32 0, .int .u32 0, .int .u32 0, .int .u32 0, .int .u32 0, .int .u32 0, .int .u32 0, .int .u32 0, .int .u32 0, .int .u32 0, .int .u32 0, .int .u32 0, .int .u32 0, .int .u32 0, .int .u32 0, .int .u32 0, .int .u32 0, .int .u32 0, .int .u32 0, .int .u32 0, .int .u32 0, .int .u32 0, .int .u32 0, .int .u32 0, .int .u32 0, .int .u32 0, .int .u32 0, .int .u32 0, .int .u32 0, .int .u32 0, .int .u32 0, .int .u32 0, .int .u32 0, .int .u32 0, .int .u32 0, .int .u32 0, .int .u32 0, .int .u32 0, .int .u32 0, .int .u32 0, .int .u32 0, .int .u32 0, .int .u32 0, .int .u32 0, .int .u32 0, .int .u32 0, .int .u32 0, .int .u32 0, .int .u32 0, .int .u32 0, .int .u32 0, .int .u32 0, .int .u32 0, .int .u32 0, .int .u32 0, .int .u32 0, .int .u32 0, .int .u32 0, .int .u32 0, .int .u32 0, .int .u32 0, .int .u32 0, .int .u32 0, .int .u32 0, .int .u32 0, .int .u32 0, .int .u32 0, .int .u32 0, .int .u32 0, .int .u32 0, .int .u32 0, .int .u32 0, .int .u32 0, .int .u32 0, .int .u32 0, .int .u32 0, .int .u32 0, .int .u32 0, .int .u32 0, .int .u32 0, .int .u32 0, .int .u32 0, .int .u32 0, .int .u32 0, .int .u32 0, .int .u32 0, .int .u32 0, .int .u32 0, .int .u32 0, .int .u32 0, .int .u32 0, .int .u32 0, .int .u32 0, .int .u32 0, .int .u32 0, .int .u32 0, .int .u32 0, .int .u32 0, .int .u32 0, .int .u32 0, .int .u32 0, .int .u32 0, .int .u32 0, .int .u32 0, .int .u32 0, .int .u32 0, .int .u32 0, .int .u32 0, .int .u32 0, .int .u32 0, .int .u32 0, .int .u32 0, .int .u32 0, .int .u32 0, .int .u32 0, .int .u32 0, .int .u32 0, .int .u32 0, .int .u32 0, .int .u32 0, .int .u32 0, .int .u32 0, .int .u32 0, .int .u32 0, .int .u32 0, .int .u32 0, .int .u32 0, .int .u32 0, .int .u32 0, .int .u32 0, .int .u32 0, .int .u32 0, .int .u32 0, .int .u32 0, .int .u32 0, .int .u32 0, .int .u32 0, .int .u32 0, .int .u32 0, .int .u32 0, .int .u32 0, .int .u32 0, .int .u32 0, .int .u32 0, .int .u32 0, .int .u32 0, .int .u32 0, .int .u32 0, .int .u32 0, .int .u32 0, .int .u32 0, .int .u32 0, .int .u32 0, .int .u32 0, .int .u32 0, .int .u32 0, .int .u32 0, .int .u32 0, .int .u32 0, .int .u32 0, .int .u32 0, .int .u32 0, .int .u32 0, .int .u32 0, .int .u32 0, .int .u32 0, .int .u32 0, .int .u32 0, .int .u32 0, .int .u32 0, .int .u32 0, .int .u32 0, .int .u32 0, .int .u32 0, .int .u32 0, .int .u32 0, .int .u32 0, .int .u32 0, .int .u32 0, .int .u32 0, .int .u32 0, .int .u32 0, .int .u32 0, .int .u32 0, .int .u32 0, .int .u32 0, .int .u32 0, .int .u32 0, .int .u32 0, .int .u32 0, .int .u32 0, .int .u32 0, .int .u32 0, .int .u32 0, .int .u32 0, .int .u32 0, .int .u32 0, .int .u32 0, .int .u32 0, .int .u32 0, .int .u32 0, .int .u32 0, .int .u32 0, .int .u32 0, .int .u32 0, .int .u32 0, .int .u32 0, .int .u32 0, .int .u32 0, .int .u32 0, .int .u32 0, .int .u32 0, .int .u32 0, .int .u32 0, .int .u32 0, .int .u32 0, .int .u32 0, .int .u32 0, .int .u32 0, .int .u32 0, .int .u32 0, .int .u32 0, .int .u32 0, .int .u32 0, .int .u32 0, .int .u32 0, .int .u32 0, .int .u32 0, .int .u32 0, .int .u32 0, .int .u32 0, .int .u32 0, .int .u32 0, .int .u32 0, .int .u32 0, .int .u32 0, .int .u32 0, .int .u32 0, .int .u32 0, .int .u32 0, .int .u32 0, .int .u32 0, .int .u32 0, .int .u32 0, .int .u32 0, .int .u32 0, .int .u32 0, .int .u32 0, .int .u32 0, .int .u32 0, .int .u32 0, .int .u32 0, .int .u32 0, .int .u32 0, .int .u32 0, .int .u32 0, .int .u32 0, .int .u32 0, .int .u32 0, .int .u32 0, .int .u32 0, .int .u32 0, .int .u32 0, .int .u32 0, .int .u32 0, .int .u32 0, .int .u32 0, .int .u32 0, .int .u32 0, .int .u32 0, .int .u32 0, .int .u32 0, .int .u32 0, .int .u32 0, .int .u32 0, .int .u32 0, .int .u32 0, .int .u32 0, .int .u32 0, .int .u32 0, .int .u32 0, .int .u32 0, .int .u32 0, .int .u32 0, .int .u32 0, .int .u32 0, .int .u32 0, .int .u32 0, .int .u32 0, .int .u32 0, .int .u32 0, .int .u32 0, .int .u32 0, .int .u32 0, .int .u32 0, .int .u32 0, .int .u32 0, .int .u32 0, .int .u32 0, .int .u32 0, .int .u32 0, .int .u32 0, .int .u32 0, .int .u32 0, .int .u32 0, .int .u32 0, .int .u32 0, .int .u32 0, .int .u32 0, .int .u32 0, .int .u32 0, .int .u32 0, .int .u32 0, .int .u32 0, .int .u32 0, .int .u32 0, .int .u32 0, .int .u32 0, .int .u32 0, .int .u32 0, .int .u32 0, .int .u32 0, .int .u32 0, .int .u32 0, .int .u32 0, .int .u32 0, .int .u32 0, .int .u32 0, .int .u32 0, .int .u32 0, .int .u32 0, .int .u32 0, .int .u32 0, .int .u32 0, .int .u32 0, .int .u32 0, .int .u32 0, .int .u32 0, .int .u32 0, .int .u32 0, .int .u32 0, .int .u32 0, .int .u32 0, .int .u32 0, .int .u32 0, .int .u32 0, .int .u32 0, .int .u32 0, .int .u32 0, .int .u32 0, .int .u32 0, .int .u32 0, .int .u32 0, .int .u32 0, .int .u32 0, .int .u32 0, .int .u32 0, .int .u32 0, .int .u32 0, .int .u32 0, .int .u32 0, .int .u32 0, .int .u32 0, .int .u32 0, .int .u32 0, .int .u32 0, .int .u32 0, .int .u32 0, .int .u32 0, .int .u32 0, .int .u32 0, .int .u32 0, .int .u32 0, .int .u32 0, .int .u32 0, .int .u32 0, .int .u32 0, .int .u32 0, .int .u32 0, .int .u32 0, .int .u32 0, .int .u32 0, .int .u32 0, .int .u32 0, .int .u32 0, .int .u32 0, .int .u32 0, .int .u32 0, .int .u32 0, .int .u32 0, .int .u32 0, .int .u32 0, .int .u32 0, .int .u32 0, .int .u32 0, .int .u32 0, .int .u32 0, .int .u32 0, .int .u32 0, .int .u32 0, .int .u32 0, .int .u32 0, .int .u32 0, .int .u32 0, .int .u32 0, .int .u32 0, .int .u32 0, .int .u32 0, .int .u32 0, .int .u32 0, .int .u32 0, .int .u32 0, .int .u32 0, .int .u32 0, .int .u32 0, .int .u32 0, .int .u32 0, .int .u32 0, .int .u32 0, .int .u32 0, .int .u32 0, .int .u32 0, .int .u32 0, .int .u32 0, .int .u32 0, .int .u32 0, .int .u32 0, .int .u32 0, .int .u32 0, .int .u32 0, .int .u32 0, .int .u32 0, .int .u32 0, .int .u32 0, .int .u32 0, .int .u32 0, .int .u32 0, .int .u32 0, .int .u32 0, .int .u32 0, .int .u32 0, .int .u32 0, .int .u32 0, .int .u32 0, .int .u32 0, .int .u32 0, .int .u32 0, .int .u32 0, .int .u32 0, .int .u32 0, .int .u32 0, .int .u32 0, .int .u32 0, .int .u32 0, .int .u32 0, .int .u32 0, .int .u32 0, .int .u32 0, .int .u32 0, .int .u32 0, .int .u32 0, .int .u32 0, .int .u32 0, .int .u32 0, .int .u32 0, .int .u32 0, .int .u32 0, .int .u32 0, .int .u32 0, .int .u32 0, .int .u32 0, .int .u32 0, .int .u32 0, .int .u32 0, .int .u32 0, .int .u32 0, .int .u32 0, .int .u32 0, .int .u32 0, .int .u32 0, .int .u32 0, .int .u32 0, .int .u32 0, .int .u32 0, .int .u32 0, .int .u32 0, .int .u32 0, .int .u32 0, .int .u32 0, .int .u32 0, .int .u32 0, .int .u32 0, .int .u32 0, .int .u32 0, .int .u32 0, .int .u32 0, .int .u32 0, .int .u32 0, .int .u32 0, .int .u32 0, .int .u32 0, .int .u32 0, .int .u32 0, .int .u32 0, .int .u32 0, .int .u32 0, .int .u32 0, .int .u32 0, .int .u32 0, .int .u32 0, .int .u32 0, .int .u32 0, .int .u32 0, .int .u32 0, .int .u32 0, .int .u32 0, .int .u32 0, .int .u32 0, .int .u32 0, .int .u32 0, .int .u32 0, .int .u32 0, .int .u32 0, .int .u32 0, .int .u32 0, .int .u32 0, .int .u32 0, .int .u32 0, .int .u32 0, .int .u32 0, .int .u32 0, .int .u32 0, .int .u32 0, .int .u32 0, .int .u32 0, .int .u32 0, .int .u32 0, .int .u32 0, .int .u32 0, .int .u32 0, .int .u32 0, .int .u32 0, .int .u32 0, .int .u32 0, .int .u32 0, .int .u32 0, .int .u32 0, .int .u32 0, .int .u32 0, .int .u32 0, .int .u32 0, .int .u32 0, .int .u32 0, .int .u32 0, .int .u32 0, .int .u32 0, .int .u32 0, .int .u32 0, .int .u32 0, .int .u32 0, .int .u32 0, .int .u32 0, .int .u32 0, .int .u32 0, .int .u32 0, .int .u32 0, .int .u32 0, .int .u32 0, .int .u32 0, .int .u32 0, .int .u32 0, .int .u32 0, .int .u32 0, .int .u32 0, .int .u32 0, .int .u32 0, .int .u32 0, .int .u32 0, .int .u32 0, .int .u32 0, .int .u32 0, .int .u32 0, .int .u32 0, .int .u32 0, .int .u32 0, .int .u32 0, .int .u32 0, .int .u32 0, .int .u32 0, .int .u32 0, .int .u32 0, .int .u32 0, .int .u32 0, .int .u32 0, .int .u32 0, .int .u32 0, .int .u32 0, .int .u32 0, .int .u32 0, .int .u32 0, .int .u32 0, .int .u32 0, .int .u32 0, .int .u32 0, .int .u32 0, .int .u32 0, .int .u32 0, .int .u32 0, .int .u32 0, .int .u32 0, .int .u32 0, .int .u32 0, .int .u32 0, .int .u32 0, .int .u32 0, .int .u32 0, .int .u32 0, .int .u32 0, .int .u32 0, .int .u32 0, .int .u32 0, .int .u32 0, .int .u32 0, .int .u32 0, .int .u32 0, .int .u32 0, .int .u32 0, .int .u32 0, .int .u32 0, .int .u32 0, .int .u32 0, .int .u32 0, .int .u32 0, .int .u32 0, .int .u32 0, .int .u32 0, .int .u32 0, .int .u32 0, .int .u32 0, .int .u32 0, .int .u32 0, .int .u32 0, .int .u32 0, .int .u32 0, .int .u32 0, .int .u32 0, .int .u32 0, .int .u32 0, .int .u32 0, .int .u32 0, .int .u32 0, .int .u32 0, .int .u32 0, .int .u32 0, .int .u32 0, .int .u32 0, .int .u32 0, .int .u32 0, .int .u32 0, .int .u32 0, .int .u32 0, .int .u32 0, .int .u32 0, .int .u32 0, .int .u32 0, .int .u32 0, .int .u32 0, .int .u32 0, .int .u32 0, .int .u32 0, .int .u32 0, .int .u32 0, .int .u32 0, .int .u32 0, .int .u32 0, .int .u32 0, .int .u32 0, .int .u32 0, .int .u32 0, .int .u32 0, .int .u32 0, .int .u32 0, .int .u32 0, .int .u32 0, .int .u32 0, .int .u32 0, .int .u32 0, .int .u32 0, .int .u32 0, .int .u32 0, .int .u32 0, .int .u32 0, .int .u32 0, .int .u32 0, .int .u32 0, .int .u32 0, .int .u32 0, .int .u32 0, .int .u32 0, .int .u32 0, .int .u32 0, .int .u32 0, .int .u32 0, .int .u32 0, .int .u32 0, .int .u32 0, .int .u32 0, .int .u32 0, .int .u32 0, .int .u32 0, .int .u32 0, .int .u32 0, .int .u32 0, .int .u32 0, .int .u32 0, .int .u32 0, .int .u32 0, .int .u32 0, .int .u32 0, .int .u32 0, .int .u32 0, .int .u32 0, .int .u32 0, .int .u32 0, .int .u32 0, .int .u32 0, .int .u32 0, .int .u32 0, .int .u32 0, .int .u32 0, .int .u32 0, .int .u32 0, .int .u32 0, .int .u32 0, .int .u32 0, .int .u32 0, .int .u32 0, .int .u32 0, .int .u32 0, .int .u32 0, .int .u32 0, .int .u32 0, .int .u32 0, .int .u32 0, .int .u32 0, .int .u32 0, .int .u32 0, .int .u32 0, .int .u32 0, .int .u32 0, .int .u32 0, .int .u32 0, .int .u32 0, .int .u32 0, .int .u32 0, .int .u32 0, .int .u32 0, .int .u32 0, .int .u32 0, .int .u32 0, .int .u32 0]) := TI.of (by kernel_rfl)
theorem fa45_0 : FA Try.prog 45 0 0 := FA.of Try.underlying45 rfl ti43 (by decide) rfl
theorem pl45 : PL Try.prog 45 [(0, 2048)] := PL.of Try.underlying45 (by kernel_rfl)
theorem mx : Try.prog.follows .mixedOrders = true := by kernel_rfl
theorem go12 : GoF Try.prog 12 := GoF.of Try.func12 (by kernel_rfl) (by kernel_rfl)
theorem go14 : GoF Try.prog 14 := GoF.of Try.func14 (by kernel_rfl) (by kernel_rfl)
theorem go15 : GoF Try.prog 15 := GoF.of Try.func15 (by kernel_rfl) (by kernel_rfl)
theorem go16 : GoF Try.prog 16 := GoF.of Try.func16 (by kernel_rfl) (by kernel_rfl)
theorem go18 : GoF Try.prog 18 := GoF.of Try.func18 (by kernel_rfl) (by kernel_rfl)
theorem go21 : GoF Try.prog 21 := GoF.of Try.func21 (by kernel_rfl) (by kernel_rfl)
theorem go22 : GoF Try.prog 22 := GoF.of Try.func22 (by kernel_rfl) (by kernel_rfl)
theorem go23 : GoF Try.prog 23 := GoF.of Try.func23 (by kernel_rfl) (by kernel_rfl)
/-! ### salvor/crc.Bitwise: function 14 -/
def Bitwise.l2 : Nat → (Int × Int) → Option (Int)
  | 0, _ => none
  | k + 1, i77 => if i77.2 < 8 then (Bitwise.l2 k (Sx.bits .xor .u32 (Sx.shr .u32 i77.1 1) (Sx.bits .and .u32 2197175160 (IntKind.wrap .u32 (0 - (Sx.bits .and .u32 i77.1 1)))), IntKind.wrap .i64 (i77.2 + 1))) else (some i77.1)
def Bitwise.l1 (K : Nat) (a1 : List Int) : Nat → (Int × Int) → Option (Int)
  | 0, _ => none
  | k + 1, i55 => if i55.2 < (a1.length : Int) then ((gd ((0 : Int) ≤ i55.2 ∧ i55.2 < (a1.length : Int)) (Bitwise.l2 K (Sx.bits .xor .u32 i55.1 (IntKind.wrap .u32 (rd a1 i55.2)), 0))).bind fun o67 => Bitwise.l1 K a1 k (o67, IntKind.wrap .i64 (i55.2 + 1))) else (some i55.1)
def Bitwise.f (K : Nat) (a0 : Int) (a1 : List Int) : Option (Int) := (Bitwise.l1 K a1 K (Sx.compl .u32 a0, 0)).bind fun o28 => some (Sx.compl .u32 o28)
theorem Bitwise.calls {B : Nat} {w0 : World} {G : List HP} (K : Nat) (a0 : Int) (a1 : List Int) (Aa1 : Option Addr) (ca1 : Nat) (ha1 : RdG B w0 G Aa1 (a1.map (Value.int .u8))) (ka1 : a1.length ≤ ca1) (r : Int) (H : Bitwise.f K a0 a1 = some r) (w : World) (hw : St B w0 (G) w) :
    Calls Try.prog 14 [.int .u32 a0, .slice Aa1 a1.length ca1].toArray w (fun e w' => e = .returned (.int .u32 r) ∧ St B w0 (G) w') := by
  unfold Bitwise.f at H
  refine calls_of (n := 33) (s := [(0, .int .u32 a0), (1, .slice Aa1 a1.length ca1)]) Try.func14 rfl rfl rfl rfl ?_ hw
  refine C.rs ?_
  refine J.p rfl rfl rfl rfl (Y.asg rfl) ?_
  refine J.nx ?_
  refine C.rs ?_
  refine J.p rfl rfl rfl rfl (Y.mv rfl) ?_
  refine J.p rfl rfl rfl rfl (Y.compl rfl) ?_
  refine J.p rfl rfl rfl rfl (Y.asg rfl) ?_
  refine J.nx ?_
  refine C.seq ?_
  refine C.rs ?_
  refine J.p rfl rfl rfl rfl (Y.mv rfl) ?_
  refine J.p rfl rfl rfl rfl (Y.lenS Try.underlying26 rfl) ?_
  refine J.p rfl rfl rfl rfl (Y.mv rfl) ?_
  refine J.nx ?_
  refine C.joinN H (fun (o28 : Int) (j29 : Unit) => [(5, .int .u32 o28)]) (fun (o28 : Int) (j29 : Unit) => G) (fun (o28 : Int) (j29 : Unit) => True) (fun o26 H HK27 => ?_) (fun o28 j29 H _ => ?_)
  · refine C.blk ?_
    refine C.loop (fun (i : Nat × (Int × Int) × (Unit)) => [(5, .int .u32 i.2.1.1), (10, .slice Aa1 a1.length ca1), (11, .int .i64 (a1.length : Int)), (12, .int .i64 i.2.1.2)]) (fun (i : Nat × (Int × Int) × (Unit)) => G) (fun (i : Nat × (Int × Int) × (Unit)) => Bitwise.l1 K a1 i.1 i.2.1 = some o26 ∧ (True)) (fun i => i.1) (K, (Sx.compl .u32 a0, 0), ()) ⟨H, trivial⟩ (by exact ⟨rfl, rfl, rfl, rfl, trivial⟩) (by exact fun w h => h) ?_
    rintro ⟨k81, i55, j56⟩ ⟨H, _⟩
    replace H : Bitwise.l1 K a1 k81 i55 = some o26 := H
    obtain ⟨k54, rfl⟩ : ∃ m, k81 = m + 1 := by cases k81 with | zero => exact absurd H (by simp [Bitwise.l1]) | succ m => exact ⟨m, rfl⟩
    rw [Bitwise.l1] at H
    refine C.at (s' := [(5, .int .u32 i55.1), (10, .slice Aa1 a1.length ca1), (11, .int .i64 (a1.length : Int)), (12, .int .i64 i55.2)]) (G' := G) rfl rfl ?_
    refine C.rs ?_
    refine J.p rfl rfl rfl rfl (Y.bin rfl rfl rfl) ?_
    refine J.nx ?_
    refine C.seq ?_
    refine split2 H (fun c57 H => ?_) (fun c57 H => ?_)
    · refine C.condT (congrArg (fun b => some (Value.bool b)) (decide_eq_true c57)) ?_
      refine C.skip ?_
      refine N.nx ?_
      refine C.joinB H (fun (o67 : Int) (j68 : Unit) => [(5, .int .u32 o67), (10, .slice Aa1 a1.length ca1), (11, .int .i64 (a1.length : Int)), (12, .int .i64 i55.2)]) (fun (o67 : Int) (j68 : Unit) => G) (fun (o67 : Int) (j68 : Unit) => True) (fun o65 H HK66 => ?_) (fun o67 j68 H _ => ?_)
      · refine C.blk ?_
        refine C.rs ?_
        obtain ⟨p69, H⟩ := gd_some H
        refine J.el rfl rfl rfl Try.underlying26 ti5 Try.underlying5 rfl rfl rfl p69 ha1 ?_
        refine J.p rfl rfl rfl rfl (Y.asg rfl) ?_
        refine J.nx ?_
        refine C.rs ?_
        refine J.p rfl rfl rfl rfl (Y.mv rfl) ?_
        refine J.p rfl rfl rfl rfl (Y.mv rfl) ?_
        refine J.p rfl rfl rfl rfl (Y.conv Try.underlying5 Try.underlying22 rfl) ?_
        refine J.p rfl rfl rfl rfl (Y.bin rfl rfl rfl) ?_
        refine J.p rfl rfl rfl rfl (Y.asg rfl) ?_
        refine J.nx ?_
        refine C.rs ?_
        refine J.p rfl rfl rfl rfl (Y.mv rfl) ?_
        refine J.nx ?_
        refine C.blk ?_
        refine C.loop (fun (i : Nat × (Int × Int) × (Unit)) => [(5, .int .u32 i.2.1.1), (10, .slice Aa1 a1.length ca1), (11, .int .i64 (a1.length : Int)), (12, .int .i64 i55.2), (20, .int .i64 i.2.1.2)]) (fun (i : Nat × (Int × Int) × (Unit)) => G) (fun (i : Nat × (Int × Int) × (Unit)) => Bitwise.l2 i.1 i.2.1 = some o65 ∧ (True)) (fun i => i.1) (K, (Sx.bits .xor .u32 i55.1 (IntKind.wrap .u32 (rd a1 i55.2)), 0), ()) ⟨H, trivial⟩ (by exact ⟨rfl, rfl, rfl, rfl, rfl, trivial⟩) (by exact fun w h => h) ?_
        rintro ⟨k80, i77, j78⟩ ⟨H, _⟩
        replace H : Bitwise.l2 k80 i77 = some o65 := H
        obtain ⟨k76, rfl⟩ : ∃ m, k80 = m + 1 := by cases k80 with | zero => exact absurd H (by simp [Bitwise.l2]) | succ m => exact ⟨m, rfl⟩
        rw [Bitwise.l2] at H
        refine C.at (s' := [(5, .int .u32 i77.1), (10, .slice Aa1 a1.length ca1), (11, .int .i64 (a1.length : Int)), (12, .int .i64 i55.2), (20, .int .i64 i77.2)]) (G' := G) rfl rfl ?_
        refine C.rs ?_
        refine J.p rfl rfl rfl rfl (Y.bin rfl rfl rfl) ?_
        refine J.nx ?_
        refine C.seq ?_
        refine split2 H (fun c79 H => ?_) (fun c79 H => ?_)
        · refine C.condT (congrArg (fun b => some (Value.bool b)) (decide_eq_true c79)) ?_
          refine C.skip ?_
          refine N.nx ?_
          refine C.seq ?_
          refine C.blk ?_
          refine C.reg ?_
          refine J.p rfl rfl rfl rfl (Y.mv rfl) ?_
          refine J.p rfl rfl rfl rfl (Y.shr rfl rfl (by decide)) ?_
          refine J.p rfl rfl rfl rfl (Y.mv rfl) ?_
          refine J.p rfl rfl rfl rfl (Y.bin rfl rfl rfl) ?_
          refine J.p rfl rfl rfl rfl (Y.neg rfl) ?_
          refine J.p rfl rfl rfl rfl (Y.bin rfl rfl rfl) ?_
          refine J.p rfl rfl rfl rfl (Y.bin rfl rfl rfl) ?_
          refine J.p rfl rfl rfl rfl (Y.asg rfl) ?_
          refine J.nil ?_
          refine N.ib ?_
          refine N.nx ?_
          refine C.reg ?_
          refine J.p rfl rfl rfl rfl (Y.bin rfl rfl rfl) ?_
          refine J.p rfl rfl rfl rfl (Y.mv rfl) ?_
          refine J.nil ?_
          exact N.again (k76, (Sx.bits .xor .u32 (Sx.shr .u32 i77.1 1) (Sx.bits .and .u32 2197175160 (IntKind.wrap .u32 (0 - (Sx.bits .and .u32 i77.1 1)))), IntKind.wrap .i64 (i77.2 + 1)), ()) ⟨H, trivial⟩ (Nat.lt_succ_self _) (by exact ⟨rfl, rfl, rfl, rfl, rfl, trivial⟩) (by exact fun w h => h)
        · refine C.condF (congrArg (fun b => some (Value.bool b)) (decide_eq_false c79)) ?_
          refine C.exit ?_
          refine X.th ?_
          refine X.th ?_
          refine X.hit ?_
          refine N.ib ?_
          obtain rfl := Option.some.inj H
          exact N.meet (i77.1, ()) ⟨HK66, trivial⟩ (by exact ⟨rfl, rfl, rfl, rfl, trivial⟩) (by exact fun w h => h)
      · refine C.at (s' := [(5, .int .u32 o67), (10, .slice Aa1 a1.length ca1), (11, .int .i64 (a1.length : Int)), (12, .int .i64 i55.2)]) (G' := G) rfl rfl ?_
        refine C.reg ?_
        refine J.p rfl rfl rfl rfl (Y.bin rfl rfl rfl) ?_
        refine J.p rfl rfl rfl rfl (Y.mv rfl) ?_
        refine J.nil ?_
        exact N.again (k54, (o67, IntKind.wrap .i64 (i55.2 + 1)), ()) ⟨H, trivial⟩ (Nat.lt_succ_self _) (by exact ⟨rfl, rfl, rfl, rfl, trivial⟩) (by exact fun w h => h)
    · refine C.condF (congrArg (fun b => some (Value.bool b)) (decide_eq_false c57)) ?_
      refine C.exit ?_
      refine X.th ?_
      refine X.th ?_
      refine X.hit ?_
      obtain rfl := Option.some.inj H
      exact N.meet (i55.1, ()) ⟨HK27, trivial⟩ (by exact ⟨rfl, trivial⟩) (by exact fun w h => h)
  · refine N.at (s' := [(5, .int .u32 o28)]) (G' := G) rfl rfl ?_
    refine N.nx ?_
    refine C.rs ?_
    refine J.p rfl rfl rfl rfl (Y.mv rfl) ?_
    refine J.p rfl rfl rfl rfl (Y.compl rfl) ?_
    refine J.p rfl rfl rfl rfl (Y.asg rfl) ?_
    refine J.nx ?_
    refine C.ret ?_
    obtain rfl := Option.some.inj H
    exact ret_ok (ks := [4]) rfl rfl (fun w h => ⟨rfl, h⟩)
/-! ### salvor/crc.New: function 12 -/
def New.l1 (K : Nat) : Nat → (Int × (List Int)) → Option ((List Int))
  | 0, _ => none
  | k + 1, i52 => if i52.1 < 256 then (gd ((0 : Int) ≤ 0 ∧ 0 < ((8 : Nat) : Int)) ((Bitwise.f K 4294967295 [IntKind.wrap .u8 i52.1]).bind fun t58 => gd ((0 : Int) ≤ i52.1 ∧ i52.1 < ((256 : Nat) : Int)) (gd (((0 + Int.toNat 0 * 256) + Int.toNat i52.1 * 1) < i52.2.length) (New.l1 K k (IntKind.wrap .i64 (i52.1 + 1), (i52.2.set ((0 + Int.toNat 0 * 256) + Int.toNat i52.1 * 1) (Sx.compl .u32 t58))))))) else (some i52.2)
def New.l3 (i186 : Int × (List Int)) : Nat → (Int × (List Int)) → Option ((List Int))
  | 0, _ => none
  | k + 1, i242 => if i242.1 < 8 then (gd ((0 : Int) ≤ (IntKind.wrap .i64 (i242.1 - 1)) ∧ (IntKind.wrap .i64 (i242.1 - 1)) < ((8 : Nat) : Int)) (gd ((0 : Int) ≤ i186.1 ∧ i186.1 < ((256 : Nat) : Int)) (gd (((0 + Int.toNat (IntKind.wrap .i64 (i242.1 - 1)) * 256) + Int.toNat i186.1 * 1) < i242.2.length) (gd ((0 : Int) ≤ 0 ∧ 0 < ((8 : Nat) : Int)) (gd ((0 : Int) ≤ (IntKind.wrap .u8 (rd i242.2 ((((0 + Int.toNat (IntKind.wrap .i64 (i242.1 - 1)) * 256) + Int.toNat i186.1 * 1) : Nat) : Int))) ∧ (IntKind.wrap .u8 (rd i242.2 ((((0 + Int.toNat (IntKind.wrap .i64 (i242.1 - 1)) * 256) + Int.toNat i186.1 * 1) : Nat) : Int))) < ((256 : Nat) : Int)) (gd ((0 : Int) ≤ i242.1 ∧ i242.1 < ((8 : Nat) : Int)) (gd (((0 + Int.toNat 0 * 256) + Int.toNat (IntKind.wrap .u8 (rd i242.2 ((((0 + Int.toNat (IntKind.wrap .i64 (i242.1 - 1)) * 256) + Int.toNat i186.1 * 1) : Nat) : Int))) * 1) < i242.2.length) (gd ((0 : Int) ≤ i186.1 ∧ i186.1 < ((256 : Nat) : Int)) (gd (((0 + Int.toNat i242.1 * 256) + Int.toNat i186.1 * 1) < i242.2.length) (New.l3 i186 k (IntKind.wrap .i64 (i242.1 + 1), (i242.2.set ((0 + Int.toNat i242.1 * 256) + Int.toNat i186.1 * 1) (Sx.bits .xor .u32 (Sx.shr .u32 (rd i242.2 ((((0 + Int.toNat (IntKind.wrap .i64 (i242.1 - 1)) * 256) + Int.toNat i186.1 * 1) : Nat) : Int)) 8) (rd i242.2 ((((0 + Int.toNat 0 * 256) + Int.toNat (IntKind.wrap .u8 (rd i242.2 ((((0 + Int.toNat (IntKind.wrap .i64 (i242.1 - 1)) * 256) + Int.toNat i186.1 * 1) : Nat) : Int))) * 1) : Nat) : Int))))))))))))))) else (some i242.2)
def New.l2 (K : Nat) : Nat → (Int × (List Int)) → Option ((List Int))
  | 0, _ => none
  | k + 1, i186 => if i186.1 < 256 then ((New.l3 i186 K (1, i186.2)).bind fun o215 => New.l2 K k (IntKind.wrap .i64 (i186.1 + 1), o215)) else (some i186.2)
def New.f (K : Nat) : Option ((List Int)) := (New.l1 K K (0, (List.replicate 2048 (0 : Int)))).bind fun o27 => (New.l2 K K (0, o27)).bind fun o125 => some o125
theorem New.calls {B : Nat} {w0 : World} {G : List HP} (K : Nat) (r : (List Int)) (H : New.f K = some r) (w : World) (hw : St B w0 (G) w) :
    Calls Try.prog 12 [].toArray w (fun e w' => ∃ g0, e = .returned (.pointer (some ⟨g0, 0, none⟩)) ∧ St B w0 (cells g0 45 (r.map (Value.int .u32)) :: G) w') := by
  unfold New.f at H
  refine calls_of (n := 59) (s := []) Try.func12 rfl rfl rfl rfl ?_ hw
  refine C.rs ?_
  refine J.p rfl rfl rfl rfl (Y.asg rfl) ?_
  refine J.nx ?_
  refine C.rs ?_
  refine J.p rfl rfl rfl rfl (Y.bld0 pl45 ti45) ?_
  refine J.box (L := (List.replicate 2048 (0 : Int)).map (Value.int .u32)) rfl rfl (agg_rep (Value.int .u32) 2048 (0 : Int)) (fun g1 => ?_)
  refine J.p rfl rfl rfl rfl (Y.asg rfl) ?_
  refine J.nx ?_
  refine C.seq ?_
  refine C.rs ?_
  refine J.p rfl rfl rfl rfl (Y.mv rfl) ?_
  refine J.nx ?_
  refine C.joinN H (fun (o27 : (List Int)) (j28 : Unit) => [(1, .pointer (some (⟨g1, 0, none⟩ : Addr)))]) (fun (o27 : (List Int)) (j28 : Unit) => cells g1 45 (o27.map (Value.int .u32)) :: G) (fun (o27 : (List Int)) (j28 : Unit) => True) (fun o25 H HK26 => ?_) (fun o27 j28 H _ => ?_)
  · refine C.blk ?_
    refine C.loop (fun (i : Nat × (Int × (List Int)) × (Unit)) => [(1, .pointer (some (⟨g1, 0, none⟩ : Addr))), (8, .int .i64 i.2.1.1)]) (fun (i : Nat × (Int × (List Int)) × (Unit)) => cells g1 45 (i.2.1.2.map (Value.int .u32)) :: G) (fun (i : Nat × (Int × (List Int)) × (Unit)) => New.l1 K i.1 i.2.1 = some o25 ∧ (True)) (fun i => i.1) (K, (0, (List.replicate 2048 (0 : Int))), ()) ⟨H, trivial⟩ (by exact ⟨rfl, rfl, trivial⟩) (by exact fun w h => h) ?_
    rintro ⟨k63, i52, j53⟩ ⟨H, _⟩
    replace H : New.l1 K k63 i52 = some o25 := H
    obtain ⟨k51, rfl⟩ : ∃ m, k63 = m + 1 := by cases k63 with | zero => exact absurd H (by simp [New.l1]) | succ m => exact ⟨m, rfl⟩
    rw [New.l1] at H
    refine C.at (s' := [(1, .pointer (some (⟨g1, 0, none⟩ : Addr))), (8, .int .i64 i52.1)]) (G' := cells g1 45 (i52.2.map (Value.int .u32)) :: G) rfl rfl ?_
    refine C.rs ?_
    refine J.p rfl rfl rfl rfl (Y.bin rfl rfl rfl) ?_
    refine J.nx ?_
    refine C.seq ?_
    refine split2 H (fun c54 H => ?_) (fun c54 H => ?_)
    · refine C.condT (congrArg (fun b => some (Value.bool b)) (decide_eq_true c54)) ?_
      refine C.skip ?_
      refine N.nx ?_
      refine C.seq ?_
      refine C.blk ?_
      refine C.rs ?_
      refine J.p rfl rfl rfl rfl (Y.mv rfl) ?_
      refine J.p rfl rfl rfl rfl (Y.asg rfl) ?_
      refine J.nx ?_
      refine C.drawn (fuel := 12) (ls := [false, false, false, false, false, false, false, false, false, false, false, false]) [] (G) mx rfl rfl ?_
      refine D.p (ls' := [true, false, false, false, false, false, false, false, false, false, false, false]) 0 rfl rfl rfl rfl (by kernel_rfl) rfl (Y.mv rfl) ?_
      refine D.p (ls' := [true, true, false, false, false, false, false, false, false, false, false, false]) 1 rfl rfl rfl rfl (by kernel_rfl) rfl (Y.mv rfl) ?_
      refine D.p (ls' := [true, true, true, false, false, false, false, false, false, false, false, false]) 2 rfl rfl rfl rfl (by kernel_rfl) rfl (Y.mv rfl) ?_
      refine D.p (ls' := [true, true, true, true, false, false, false, false, false, false, false, false]) 3 rfl rfl rfl rfl (by kernel_rfl) rfl (Y.conv Try.underlying3 Try.underlying5 rfl) ?_
      refine D.p (ls' := [true, true, true, true, false, false, false, true, false, false, false, false]) 7 rfl rfl rfl rfl (by kernel_rfl) rfl (Y.nilp rfl) ?_
      refine D.p (ls' := [true, true, true, true, false, false, false, true, true, false, false, false]) 8 rfl rfl rfl rfl (by kernel_rfl) rfl (Y.fa fa45_0 rfl) ?_
      obtain ⟨p55, H⟩ := gd_some H
      refine D.p (ls' := [true, true, true, true, false, false, false, true, true, true, false, false]) 9 rfl rfl rfl rfl (by kernel_rfl) rfl (Y.ixpA Try.underlying43 ti42 rfl rfl p55) ?_
      refine D.any [4] (by kernel_rfl) rfl ⟨?_, trivial⟩
      refine DW.j (ls' := [true, true, true, true, true, false, false, true, true, true, false, false]) rfl rfl ?_
      refine J.bsL (enc := (Value.int .u8)) (xs := [IntKind.wrap .u8 i52.1]) rfl Try.underlying26 ti5 rfl rfl rfl rfl rfl (fun A56 => ?_)
      refine J.nil ?_
      refine D.backK 2 rfl ?_
      refine D.any [5] (by kernel_rfl) rfl ⟨?_, trivial⟩
      refine DW.j (ls' := [true, true, true, true, true, true, false, true, true, true, false, false]) rfl rfl ?_
      obtain ⟨t58, hC59, H⟩ := bind_some H
      refine J.call (us := []) (cap := []) rfl rfl rfl go14 (fun w hw => by have hcc := Bitwise.calls K 4294967295 [IntKind.wrap .u8 i52.1] A56 1 (RdG.own 0 rfl) (show [IntKind.wrap .u8 i52.1].length ≤ 1 from Nat.le_refl _) t58 hC59 w hw; exact hcc) (fun e w1 h1 => ?_)
      obtain ⟨rfl, hw62⟩ := h1
      refine ⟨_, _, rfl, hw62, ?_⟩
      refine J.nil ?_
      refine D.backK 2 rfl ?_
      refine D.p (ls' := [true, true, true, true, true, true, true, true, true, true, false, false]) 6 rfl rfl rfl rfl (by kernel_rfl) rfl (Y.compl rfl) ?_
      obtain ⟨p60, H⟩ := gd_some H
      refine D.p (ls' := [true, true, true, true, true, true, true, true, true, true, true, false]) 10 rfl rfl rfl rfl (by kernel_rfl) rfl (Y.ixpA Try.underlying42 ti22 rfl rfl p60) ?_
      refine D.any [11] (by kernel_rfl) rfl ⟨?_, trivial⟩
      refine DW.j (ls' := [true, true, true, true, true, true, true, true, true, true, true, true]) rfl rfl ?_
      refine J.pull 1 rfl rfl ?_
      obtain ⟨p61, H⟩ := gd_some H
      refine J.stN (enc := (Value.int .u32)) ti22 rfl rfl rfl p61 ?_
      refine J.nil ?_
      refine D.backK 2 rfl ?_
      refine D.nil (by kernel_rfl) ?_
      refine N.ib ?_
      refine N.nx ?_
      refine C.reg ?_
      refine J.p rfl rfl rfl rfl (Y.bin rfl rfl rfl) ?_
      refine J.p rfl rfl rfl rfl (Y.mv rfl) ?_
      refine J.nil ?_
      exact N.again (k51, (IntKind.wrap .i64 (i52.1 + 1), (i52.2.set ((0 + Int.toNat 0 * 256) + Int.toNat i52.1 * 1) (Sx.compl .u32 t58))), ()) ⟨H, trivial⟩ (Nat.lt_succ_self _) (by exact ⟨rfl, rfl, trivial⟩) (by exact fun w h => (St.pick [0] [_, _] h rfl))
    · refine C.condF (congrArg (fun b => some (Value.bool b)) (decide_eq_false c54)) ?_
      refine C.exit ?_
      refine X.th ?_
      refine X.th ?_
      refine X.hit ?_
      obtain rfl := Option.some.inj H
      exact N.meet (i52.2, ()) ⟨HK26, trivial⟩ (by exact ⟨rfl, trivial⟩) (by exact fun w h => h)
  · refine N.at (s' := [(1, .pointer (some (⟨g1, 0, none⟩ : Addr)))]) (G' := cells g1 45 (o27.map (Value.int .u32)) :: G) rfl rfl ?_
    refine N.nx ?_
    refine C.seq ?_
    refine C.rs ?_
    refine J.p rfl rfl rfl rfl (Y.mv rfl) ?_
    refine J.nx ?_
    refine C.joinN H (fun (o125 : (List Int)) (j126 : Unit) => [(1, .pointer (some (⟨g1, 0, none⟩ : Addr)))]) (fun (o125 : (List Int)) (j126 : Unit) => cells g1 45 (o125.map (Value.int .u32)) :: G) (fun (o125 : (List Int)) (j126 : Unit) => True) (fun o123 H HK124 => ?_) (fun o125 j126 H _ => ?_)
    · refine C.blk ?_
      refine C.loop (fun (i : Nat × (Int × (List Int)) × (Unit)) => [(1, .pointer (some (⟨g1, 0, none⟩ : Addr))), (23, .int .i64 i.2.1.1)]) (fun (i : Nat × (Int × (List Int)) × (Unit)) => cells g1 45 (i.2.1.2.map (Value.int .u32)) :: G) (fun (i : Nat × (Int × (List Int)) × (Unit)) => New.l2 K i.1 i.2.1 = some o123 ∧ (True)) (fun i => i.1) (K, (0, o27), ()) ⟨H, trivial⟩ (by exact ⟨rfl, rfl, trivial⟩) (by exact fun w h => h) ?_
      rintro ⟨k255, i186, j187⟩ ⟨H, _⟩
      replace H : New.l2 K k255 i186 = some o123 := H
      obtain ⟨k185, rfl⟩ : ∃ m, k255 = m + 1 := by cases k255 with | zero => exact absurd H (by simp [New.l2]) | succ m => exact ⟨m, rfl⟩
      rw [New.l2] at H
      refine C.at (s' := [(1, .pointer (some (⟨g1, 0, none⟩ : Addr))), (23, .int .i64 i186.1)]) (G' := cells g1 45 (i186.2.map (Value.int .u32)) :: G) rfl rfl ?_
      refine C.rs ?_
      refine J.p rfl rfl rfl rfl (Y.bin rfl rfl rfl) ?_
      refine J.nx ?_
      refine C.seq ?_
      refine split2 H (fun c188 H => ?_) (fun c188 H => ?_)
      · refine C.condT (congrArg (fun b => some (Value.bool b)) (decide_eq_true c188)) ?_
        refine C.skip ?_
        refine N.nx ?_
        refine C.joinB H (fun (o215 : (List Int)) (j216 : Unit) => [(1, .pointer (some (⟨g1, 0, none⟩ : Addr))), (23, .int .i64 i186.1)]) (fun (o215 : (List Int)) (j216 : Unit) => cells g1 45 (o215.map (Value.int .u32)) :: G) (fun (o215 : (List Int)) (j216 : Unit) => True) (fun o213 H HK214 => ?_) (fun o215 j216 H _ => ?_)
        · refine C.blk ?_
          refine C.rs ?_
          refine J.p rfl rfl rfl rfl (Y.mv rfl) ?_
          refine J.p rfl rfl rfl rfl (Y.asg rfl) ?_
          refine J.nx ?_
          refine C.rs ?_
          refine J.p rfl rfl rfl rfl (Y.asg rfl) ?_
          refine J.nx ?_
          refine C.blk ?_
          refine C.loop (fun (i : Nat × (Int × (List Int)) × (Unit)) => [(1, .pointer (some (⟨g1, 0, none⟩ : Addr))), (3, .int .i64 i186.1), (4, .int .i64 i.2.1.1), (23, .int .i64 i186.1)]) (fun (i : Nat × (Int × (List Int)) × (Unit)) => cells g1 45 (i.2.1.2.map (Value.int .u32)) :: G) (fun (i : Nat × (Int × (List Int)) × (Unit)) => New.l3 i186 i.1 i.2.1 = some o213 ∧ (True)) (fun i => i.1) (K, (1, i186.2), ()) ⟨H, trivial⟩ (by exact ⟨rfl, rfl, rfl, rfl, trivial⟩) (by exact fun w h => h) ?_
          rintro ⟨k254, i242, j243⟩ ⟨H, _⟩
          replace H : New.l3 i186 k254 i242 = some o213 := H
          obtain ⟨k241, rfl⟩ : ∃ m, k254 = m + 1 := by cases k254 with | zero => exact absurd H (by simp [New.l3]) | succ m => exact ⟨m, rfl⟩
          rw [New.l3] at H
          refine C.at (s' := [(1, .pointer (some (⟨g1, 0, none⟩ : Addr))), (3, .int .i64 i186.1), (4, .int .i64 i242.1), (23, .int .i64 i186.1)]) (G' := cells g1 45 (i242.2.map (Value.int .u32)) :: G) rfl rfl ?_
          refine C.seq ?_
          refine C.rs ?_
          refine J.p rfl rfl rfl rfl (Y.mv rfl) ?_
          refine J.p rfl rfl rfl rfl (Y.bin rfl rfl rfl) ?_
          refine J.nx ?_
          refine split2 H (fun c244 H => ?_) (fun c244 H => ?_)
          · refine C.condT (congrArg (fun b => some (Value.bool b)) (decide_eq_true c244)) ?_
            refine C.skip ?_
            refine N.nx ?_
            refine C.seq ?_
            refine C.blk ?_
            refine C.rs ?_
            refine J.p rfl rfl rfl rfl (Y.mv rfl) ?_
            refine J.p rfl rfl rfl rfl (Y.mv rfl) ?_
            refine J.p rfl rfl rfl rfl (Y.bin rfl rfl rfl) ?_
            refine J.p rfl rfl rfl rfl (Y.mv rfl) ?_
            refine J.p rfl rfl rfl rfl (Y.nilp rfl) ?_
            refine J.p rfl rfl rfl rfl (Y.fa fa45_0 rfl) ?_
            obtain ⟨p245, H⟩ := gd_some H
            refine J.p rfl rfl rfl rfl (Y.ixpA Try.underlying43 ti42 rfl rfl p245) ?_
            obtain ⟨p246, H⟩ := gd_some H
            refine J.p rfl rfl rfl rfl (Y.ixpA Try.underlying42 ti22 rfl rfl p246) ?_
            obtain ⟨p247, H⟩ := gd_some H
            refine J.r rfl rfl rfl rfl (Y.ldN Try.underlying22 rfl rfl p247 (RdG.cells 0 rfl)) ?_
            refine J.p rfl rfl rfl rfl (Y.asg rfl) ?_
            refine J.nx ?_
            refine C.drawn (fuel := 19) (ls := [false, false, false, false, false, false, false, false, false, false, false, false, false, false, false, false, false, false, false]) [] (G) mx rfl rfl ?_
            refine D.p (ls' := [true, false, false, false, false, false, false, false, false, false, false, false, false, false, false, false, false, false, false]) 0 rfl rfl rfl rfl (by kernel_rfl) rfl (Y.mv rfl) ?_
            refine D.p (ls' := [true, true, false, false, false, false, false, false, false, false, false, false, false, false, false, false, false, false, false]) 1 rfl rfl rfl rfl (by kernel_rfl) rfl (Y.mv rfl) ?_
            refine D.p (ls' := [true, true, true, false, false, false, false, false, false, false, false, false, false, false, false, false, false, false, false]) 2 rfl rfl rfl rfl (by kernel_rfl) rfl (Y.mv rfl) ?_
            refine D.p (ls' := [true, true, true, true, false, false, false, false, false, false, false, false, false, false, false, false, false, false, false]) 3 rfl rfl rfl rfl (by kernel_rfl) rfl (Y.mv rfl) ?_
            refine D.p (ls' := [true, true, true, true, true, false, false, false, false, false, false, false, false, false, false, false, false, false, false]) 4 rfl rfl rfl rfl (by kernel_rfl) rfl (Y.shr rfl rfl (by decide)) ?_
            refine D.p (ls' := [true, true, true, true, true, true, false, false, false, false, false, false, false, false, false, false, false, false, false]) 5 rfl rfl rfl rfl (by kernel_rfl) rfl (Y.mv rfl) ?_
            refine D.p (ls' := [true, true, true, true, true, true, true, false, false, false, false, false, false, false, false, false, false, false, false]) 6 rfl rfl rfl rfl (by kernel_rfl) rfl (Y.mv rfl) ?_
            refine D.p (ls' := [true, true, true, true, true, true, true, true, false, false, false, false, false, false, false, false, false, false, false]) 7 rfl rfl rfl rfl (by kernel_rfl) rfl (Y.conv Try.underlying22 Try.underlying5 rfl) ?_
            refine D.p (ls' := [true, true, true, true, true, true, true, true, true, false, false, false, false, false, false, false, false, false, false]) 8 rfl rfl rfl rfl (by kernel_rfl) rfl (Y.nilp rfl) ?_
            refine D.p (ls' := [true, true, true, true, true, true, true, true, true, true, false, false, false, false, false, false, false, false, false]) 9 rfl rfl rfl rfl (by kernel_rfl) rfl (Y.fa fa45_0 rfl) ?_
            obtain ⟨p248, H⟩ := gd_some H
            refine D.p (ls' := [true, true, true, true, true, true, true, true, true, true, true, false, false, false, false, false, false, false, false]) 10 rfl rfl rfl rfl (by kernel_rfl) rfl (Y.ixpA Try.underlying43 ti42 rfl rfl p248) ?_
            obtain ⟨p249, H⟩ := gd_some H
            refine D.p (ls' := [true, true, true, true, true, true, true, true, true, true, true, true, false, false, false, false, false, false, false]) 11 rfl rfl rfl rfl (by kernel_rfl) rfl (Y.ixpA Try.underlying42 ti22 rfl rfl p249) ?_
            refine D.p (ls' := [true, true, true, true, true, true, true, true, true, true, true, true, false, false, true, false, false, false, false]) 14 rfl rfl rfl rfl (by kernel_rfl) rfl (Y.nilp rfl) ?_
            refine D.p (ls' := [true, true, true, true, true, true, true, true, true, true, true, true, false, false, true, true, false, false, false]) 15 rfl rfl rfl rfl (by kernel_rfl) rfl (Y.fa fa45_0 rfl) ?_
            obtain ⟨p250, H⟩ := gd_some H
            refine D.p (ls' := [true, true, true, true, true, true, true, true, true, true, true, true, false, false, true, true, true, false, false]) 16 rfl rfl rfl rfl (by kernel_rfl) rfl (Y.ixpA Try.underlying43 ti42 rfl rfl p250) ?_
            refine D.any [12] (by kernel_rfl) rfl ⟨?_, trivial⟩
            refine DW.j (ls' := [true, true, true, true, true, true, true, true, true, true, true, true, true, false, true, true, true, false, false]) rfl rfl ?_
            obtain ⟨p251, H⟩ := gd_some H
            refine J.r rfl rfl rfl rfl (Y.ldN Try.underlying22 rfl rfl p251 (RdG.cells 0 rfl)) ?_
            refine J.nil ?_
            refine D.backK 1 rfl ?_
            refine D.p (ls' := [true, true, true, true, true, true, true, true, true, true, true, true, true, true, true, true, true, false, false]) 13 rfl rfl rfl rfl (by kernel_rfl) rfl (Y.bin rfl rfl rfl) ?_
            obtain ⟨p252, H⟩ := gd_some H
            refine D.p (ls' := [true, true, true, true, true, true, true, true, true, true, true, true, true, true, true, true, true, true, false]) 17 rfl rfl rfl rfl (by kernel_rfl) rfl (Y.ixpA Try.underlying42 ti22 rfl rfl p252) ?_
            refine D.any [18] (by kernel_rfl) rfl ⟨?_, trivial⟩
            refine DW.j (ls' := [true, true, true, true, true, true, true, true, true, true, true, true, true, true, true, true, true, true, true]) rfl rfl ?_
            obtain ⟨p253, H⟩ := gd_some H
            refine J.stN (enc := (Value.int .u32)) ti22 rfl rfl rfl p253 ?_
            refine J.nil ?_
            refine D.backK 1 rfl ?_
            refine D.nil (by kernel_rfl) ?_
            refine N.ib ?_
            refine N.nx ?_
            refine C.reg ?_
            refine J.p rfl rfl rfl rfl (Y.mv rfl) ?_
            refine J.p rfl rfl rfl rfl (Y.bin rfl rfl rfl) ?_
            refine J.p rfl rfl rfl rfl (Y.asg rfl) ?_
            refine J.nil ?_
            exact N.again (k241, (IntKind.wrap .i64 (i242.1 + 1), (i242.2.set ((0 + Int.toNat i242.1 * 256) + Int.toNat i186.1 * 1) (Sx.bits .xor .u32 (Sx.shr .u32 (rd i242.2 ((((0 + Int.toNat (IntKind.wrap .i64 (i242.1 - 1)) * 256) + Int.toNat i186.1 * 1) : Nat) : Int)) 8) (rd i242.2 ((((0 + Int.toNat 0 * 256) + Int.toNat (IntKind.wrap .u8 (rd i242.2 ((((0 + Int.toNat (IntKind.wrap .i64 (i242.1 - 1)) * 256) + Int.toNat i186.1 * 1) : Nat) : Int))) * 1) : Nat) : Int))))), ()) ⟨H, trivial⟩ (Nat.lt_succ_self _) (by exact ⟨rfl, rfl, rfl, rfl, trivial⟩) (by exact fun w h => h)
          · refine C.condF (congrArg (fun b => some (Value.bool b)) (decide_eq_false c244)) ?_
            refine C.exit ?_
            refine X.th ?_
            refine X.th ?_
            refine X.hit ?_
            refine N.ib ?_
            obtain rfl := Option.some.inj H
            exact N.meet (i242.2, ()) ⟨HK214, trivial⟩ (by exact ⟨rfl, rfl, trivial⟩) (by exact fun w h => h)
        · refine C.at (s' := [(1, .pointer (some (⟨g1, 0, none⟩ : Addr))), (23, .int .i64 i186.1)]) (G' := cells g1 45 (o215.map (Value.int .u32)) :: G) rfl rfl ?_
          refine C.reg ?_
          refine J.p rfl rfl rfl rfl (Y.bin rfl rfl rfl) ?_
          refine J.p rfl rfl rfl rfl (Y.mv rfl) ?_
          refine J.nil ?_
          exact N.again (k185, (IntKind.wrap .i64 (i186.1 + 1), o215), ()) ⟨H, trivial⟩ (Nat.lt_succ_self _) (by exact ⟨rfl, rfl, trivial⟩) (by exact fun w h => h)
      · refine C.condF (congrArg (fun b => some (Value.bool b)) (decide_eq_false c188)) ?_
        refine C.exit ?_
        refine X.th ?_
        refine X.th ?_
        refine X.hit ?_
        obtain rfl := Option.some.inj H
        exact N.meet (i186.2, ()) ⟨HK124, trivial⟩ (by exact ⟨rfl, trivial⟩) (by exact fun w h => h)
    · refine N.at (s' := [(1, .pointer (some (⟨g1, 0, none⟩ : Addr)))]) (G' := cells g1 45 (o125.map (Value.int .u32)) :: G) rfl rfl ?_
      refine N.nx ?_
      refine C.rs ?_
      refine J.p rfl rfl rfl rfl (Y.mv rfl) ?_
      refine J.p rfl rfl rfl rfl (Y.asg rfl) ?_
      refine J.nx ?_
      refine C.ret ?_
      obtain rfl := Option.some.inj H
      exact ret_ok (ks := [0]) rfl rfl (fun w h => ⟨g1, rfl, h⟩)
/-! ### (*salvor/crc.Tables).ByTable: function 15 -/
def ByTable.l1 (a2 : List Int) (a0 : List Int) : Nat → (Int × Int) → Option (Int)
  | 0, _ => none
  | k + 1, i35 => if i35.2 < (a2.length : Int) then (gd ((0 : Int) ≤ i35.2 ∧ i35.2 < (a2.length : Int)) (gd ((0 : Int) ≤ 0 ∧ 0 < ((8 : Nat) : Int)) (gd ((0 : Int) ≤ (Sx.bits .xor .u8 (IntKind.wrap .u8 i35.1) (rd a2 i35.2)) ∧ (Sx.bits .xor .u8 (IntKind.wrap .u8 i35.1) (rd a2 i35.2)) < ((256 : Nat) : Int)) (gd (((0 + Int.toNat 0 * 256) + Int.toNat (Sx.bits .xor .u8 (IntKind.wrap .u8 i35.1) (rd a2 i35.2)) * 1) < a0.length) (ByTable.l1 a2 a0 k (Sx.bits .xor .u32 (Sx.shr .u32 i35.1 8) (rd a0 ((((0 + Int.toNat 0 * 256) + Int.toNat (Sx.bits .xor .u8 (IntKind.wrap .u8 i35.1) (rd a2 i35.2)) * 1) : Nat) : Int)), IntKind.wrap .i64 (i35.2 + 1))))))) else (some i35.1)
def ByTable.f (K : Nat) (a0 : List Int) (a1 : Int) (a2 : List Int) : Option (Int) := (ByTable.l1 a2 a0 K (Sx.compl .u32 a1, 0)).bind fun o18 => some (Sx.compl .u32 o18)
theorem ByTable.calls {B : Nat} {w0 : World} {G : List HP} (K : Nat) (a0 : List Int) (a1 : Int) (a2 : List Int) (Aa0 : Addr) (Aa2 : Option Addr) (ca2 : Nat) (ha0 : RdG B w0 G (some Aa0) (a0.map (Value.int .u32))) (ha2 : RdG B w0 G Aa2 (a2.map (Value.int .u8))) (ka2 : a2.length ≤ ca2) (r : Int) (H : ByTable.f K a0 a1 a2 = some r) (w : World) (hw : St B w0 (G) w) :
    Calls Try.prog 15 [.pointer (some Aa0), .int .u32 a1, .slice Aa2 a2.length ca2].toArray w (fun e w' => e = .returned (.int .u32 r) ∧ St B w0 (G) w') := by
  unfold ByTable.f at H
  refine calls_of (n := 34) (s := [(0, .pointer (some Aa0)), (1, .int .u32 a1), (2, .slice Aa2 a2.length ca2)]) Try.func15 rfl rfl rfl rfl ?_ hw
  refine C.rs ?_
  refine J.p rfl rfl rfl rfl (Y.asg rfl) ?_
  refine J.nx ?_
  refine C.rs ?_
  refine J.p rfl rfl rfl rfl (Y.mv rfl) ?_
  refine J.p rfl rfl rfl rfl (Y.compl rfl) ?_
  refine J.p rfl rfl rfl rfl (Y.asg rfl) ?_
  refine J.nx ?_
  refine C.seq ?_
  refine C.rs ?_
  refine J.p rfl rfl rfl rfl (Y.mv rfl) ?_
  refine J.p rfl rfl rfl rfl (Y.lenS Try.underlying26 rfl) ?_
  refine J.p rfl rfl rfl rfl (Y.mv rfl) ?_
  refine J.nx ?_
  refine C.joinN H (fun (o18 : Int) (j19 : Unit) => [(7, .int .u32 o18)]) (fun (o18 : Int) (j19 : Unit) => G) (fun (o18 : Int) (j19 : Unit) => True) (fun o16 H HK17 => ?_) (fun o18 j19 H _ => ?_)
  · refine C.blk ?_
    refine C.loop (fun (i : Nat × (Int × Int) × (Unit)) => [(0, .pointer (some Aa0)), (7, .int .u32 i.2.1.1), (12, .slice Aa2 a2.length ca2), (13, .int .i64 (a2.length : Int)), (14, .int .i64 i.2.1.2)]) (fun (i : Nat × (Int × Int) × (Unit)) => G) (fun (i : Nat × (Int × Int) × (Unit)) => ByTable.l1 a2 a0 i.1 i.2.1 = some o16 ∧ (True)) (fun i => i.1) (K, (Sx.compl .u32 a1, 0), ()) ⟨H, trivial⟩ (by exact ⟨rfl, rfl, rfl, rfl, rfl, trivial⟩) (by exact fun w h => h) ?_
    rintro ⟨k42, i35, j36⟩ ⟨H, _⟩
    replace H : ByTable.l1 a2 a0 k42 i35 = some o16 := H
    obtain ⟨k34, rfl⟩ : ∃ m, k42 = m + 1 := by cases k42 with | zero => exact absurd H (by simp [ByTable.l1]) | succ m => exact ⟨m, rfl⟩
    rw [ByTable.l1] at H
    refine C.at (s' := [(0, .pointer (some Aa0)), (7, .int .u32 i35.1), (12, .slice Aa2 a2.length ca2), (13, .int .i64 (a2.length : Int)), (14, .int .i64 i35.2)]) (G' := G) rfl rfl ?_
    refine C.rs ?_
    refine J.p rfl rfl rfl rfl (Y.bin rfl rfl rfl) ?_
    refine J.nx ?_
    refine C.seq ?_
    refine split2 H (fun c37 H => ?_) (fun c37 H => ?_)
    · refine C.condT (congrArg (fun b => some (Value.bool b)) (decide_eq_true c37)) ?_
      refine C.skip ?_
      refine N.nx ?_
      refine C.seq ?_
      refine C.blk ?_
      refine C.rs ?_
      obtain ⟨p38, H⟩ := gd_some H
      refine J.el rfl rfl rfl Try.underlying26 ti5 Try.underlying5 rfl rfl rfl p38 ha2 ?_
      refine J.p rfl rfl rfl rfl (Y.asg rfl) ?_
      refine J.nx ?_
      refine C.reg ?_
      refine J.p rfl rfl rfl rfl (Y.mv rfl) ?_
      refine J.p rfl rfl rfl rfl (Y.shr rfl rfl (by decide)) ?_
      refine J.p rfl rfl rfl rfl (Y.mv rfl) ?_
      refine J.p rfl rfl rfl rfl (Y.mv rfl) ?_
      refine J.p rfl rfl rfl rfl (Y.conv Try.underlying22 Try.underlying5 rfl) ?_
      refine J.p rfl rfl rfl rfl (Y.mv rfl) ?_
      refine J.p rfl rfl rfl rfl (Y.bin rfl rfl rfl) ?_
      refine J.p rfl rfl rfl rfl (Y.nilp rfl) ?_
      refine J.p rfl rfl rfl rfl (Y.fa fa45_0 rfl) ?_
      obtain ⟨p39, H⟩ := gd_some H
      refine J.p rfl rfl rfl rfl (Y.ixpA Try.underlying43 ti42 rfl rfl p39) ?_
      obtain ⟨p40, H⟩ := gd_some H
      refine J.p rfl rfl rfl rfl (Y.ixpA Try.underlying42 ti22 rfl rfl p40) ?_
      obtain ⟨p41, H⟩ := gd_some H
      refine J.r rfl rfl rfl rfl (Y.ldN Try.underlying22 rfl rfl p41 ha0) ?_
      refine J.p rfl rfl rfl rfl (Y.bin rfl rfl rfl) ?_
      refine J.p rfl rfl rfl rfl (Y.asg rfl) ?_
      refine J.nil ?_
      refine N.ib ?_
      refine N.nx ?_
      refine C.reg ?_
      refine J.p rfl rfl rfl rfl (Y.bin rfl rfl rfl) ?_
      refine J.p rfl rfl rfl rfl (Y.mv rfl) ?_
      refine J.nil ?_
      exact N.again (k34, (Sx.bits .xor .u32 (Sx.shr .u32 i35.1 8) (rd a0 ((((0 + Int.toNat 0 * 256) + Int.toNat (Sx.bits .xor .u8 (IntKind.wrap .u8 i35.1) (rd a2 i35.2)) * 1) : Nat) : Int)), IntKind.wrap .i64 (i35.2 + 1)), ()) ⟨H, trivial⟩ (Nat.lt_succ_self _) (by exact ⟨rfl, rfl, rfl, rfl, rfl, trivial⟩) (by exact fun w h => h)
    · refine C.condF (congrArg (fun b => some (Value.bool b)) (decide_eq_false c37)) ?_
      refine C.exit ?_
      refine X.th ?_
      refine X.th ?_
      refine X.hit ?_
      obtain rfl := Option.some.inj H
      exact N.meet (i35.1, ()) ⟨HK17, trivial⟩ (by exact ⟨rfl, trivial⟩) (by exact fun w h => h)
  · refine N.at (s' := [(7, .int .u32 o18)]) (G' := G) rfl rfl ?_
    refine N.nx ?_
    refine C.rs ?_
    refine J.p rfl rfl rfl rfl (Y.mv rfl) ?_
    refine J.p rfl rfl rfl rfl (Y.compl rfl) ?_
    refine J.p rfl rfl rfl rfl (Y.asg rfl) ?_
    refine J.nx ?_
    refine C.ret ?_
    obtain rfl := Option.some.inj H
    exact ret_ok (ks := [6]) rfl rfl (fun w h => ⟨rfl, h⟩)
/-! ### (*salvor/crc.Tables).ByEight: function 16 -/
def ByEight.l2 (i209 : (List Int) × Int) (a0 : List Int) : Nat → (Int × Int) → Option (Int)
  | 0, _ => none
  | k + 1, i290 => if i290.2 < 4 then (gd ((0 : Int) ≤ (IntKind.wrap .i64 (8 * i290.2))) (gd ((0 : Int) ≤ (IntKind.wrap .i64 (7 - i290.2)) ∧ (IntKind.wrap .i64 (7 - i290.2)) < ((8 : Nat) : Int)) (gd ((0 : Int) ≤ (IntKind.wrap .u8 (Sx.shr .u32 (Sx.bits .xor .u32 i209.2 (Sx.bits .or .u32 (Sx.bits .or .u32 (Sx.bits .or .u32 (IntKind.wrap .u32 (rd i209.1 0)) (Sx.shl .u32 (IntKind.wrap .u32 (rd i209.1 1)) 8)) (Sx.shl .u32 (IntKind.wrap .u32 (rd i209.1 2)) 16)) (Sx.shl .u32 (IntKind.wrap .u32 (rd i209.1 3)) 24))) (IntKind.wrap .i64 (8 * i290.2)))) ∧ (IntKind.wrap .u8 (Sx.shr .u32 (Sx.bits .xor .u32 i209.2 (Sx.bits .or .u32 (Sx.bits .or .u32 (Sx.bits .or .u32 (IntKind.wrap .u32 (rd i209.1 0)) (Sx.shl .u32 (IntKind.wrap .u32 (rd i209.1 1)) 8)) (Sx.shl .u32 (IntKind.wrap .u32 (rd i209.1 2)) 16)) (Sx.shl .u32 (IntKind.wrap .u32 (rd i209.1 3)) 24))) (IntKind.wrap .i64 (8 * i290.2)))) < ((256 : Nat) : Int)) (gd (((0 + Int.toNat (IntKind.wrap .i64 (7 - i290.2)) * 256) + Int.toNat (IntKind.wrap .u8 (Sx.shr .u32 (Sx.bits .xor .u32 i209.2 (Sx.bits .or .u32 (Sx.bits .or .u32 (Sx.bits .or .u32 (IntKind.wrap .u32 (rd i209.1 0)) (Sx.shl .u32 (IntKind.wrap .u32 (rd i209.1 1)) 8)) (Sx.shl .u32 (IntKind.wrap .u32 (rd i209.1 2)) 16)) (Sx.shl .u32 (IntKind.wrap .u32 (rd i209.1 3)) 24))) (IntKind.wrap .i64 (8 * i290.2)))) * 1) < a0.length) (gd ((0 : Int) ≤ (IntKind.wrap .i64 (4 + i290.2)) ∧ (IntKind.wrap .i64 (4 + i290.2)) < (i209.1.length : Int)) (gd ((0 : Int) ≤ (IntKind.wrap .i64 (4 + i290.2)) ∧ (IntKind.wrap .i64 (4 + i290.2)) < (i209.1.length : Int)) (gd ((0 : Int) ≤ (IntKind.wrap .i64 (3 - i290.2)) ∧ (IntKind.wrap .i64 (3 - i290.2)) < ((8 : Nat) : Int)) (gd ((0 : Int) ≤ (rd i209.1 (IntKind.wrap .i64 (4 + i290.2))) ∧ (rd i209.1 (IntKind.wrap .i64 (4 + i290.2))) < ((256 : Nat) : Int)) (gd (((0 + Int.toNat (IntKind.wrap .i64 (3 - i290.2)) * 256) + Int.toNat (rd i209.1 (IntKind.wrap .i64 (4 + i290.2))) * 1) < a0.length) (ByEight.l2 i209 a0 k (Sx.bits .xor .u32 i290.1 (Sx.bits .xor .u32 (rd a0 ((((0 + Int.toNat (IntKind.wrap .i64 (7 - i290.2)) * 256) + Int.toNat (IntKind.wrap .u8 (Sx.shr .u32 (Sx.bits .xor .u32 i209.2 (Sx.bits .or .u32 (Sx.bits .or .u32 (Sx.bits .or .u32 (IntKind.wrap .u32 (rd i209.1 0)) (Sx.shl .u32 (IntKind.wrap .u32 (rd i209.1 1)) 8)) (Sx.shl .u32 (IntKind.wrap .u32 (rd i209.1 2)) 16)) (Sx.shl .u32 (IntKind.wrap .u32 (rd i209.1 3)) 24))) (IntKind.wrap .i64 (8 * i290.2)))) * 1) : Nat) : Int)) (rd a0 ((((0 + Int.toNat (IntKind.wrap .i64 (3 - i290.2)) * 256) + Int.toNat (rd i209.1 (IntKind.wrap .i64 (4 + i290.2))) * 1) : Nat) : Int))), IntKind.wrap .i64 (i290.2 + 1)))))))))))) else (some i290.1)
def ByEight.l1 (K : Nat) (a0 : List Int) : Nat → ((List Int) × Int) → Option ((List Int) × Int)
  | 0, _ => none
  | k + 1, i209 => if 8 ≤ (i209.1.length : Int) then (gd ((0 : Int) ≤ 0 ∧ 0 < (i209.1.length : Int)) (gd ((0 : Int) ≤ 0 ∧ 0 < (i209.1.length : Int)) (gd ((0 : Int) ≤ 1 ∧ 1 < (i209.1.length : Int)) (gd ((0 : Int) ≤ 1 ∧ 1 < (i209.1.length : Int)) (gd ((0 : Int) ≤ 2 ∧ 2 < (i209.1.length : Int)) (gd ((0 : Int) ≤ 2 ∧ 2 < (i209.1.length : Int)) (gd ((0 : Int) ≤ 3 ∧ 3 < (i209.1.length : Int)) (gd ((0 : Int) ≤ 3 ∧ 3 < (i209.1.length : Int)) ((ByEight.l2 i209 a0 K (0, 0)).bind fun o259 => gd ((0 : Int) ≤ 8 ∧ ((Int.toNat 8) ≤ i209.1.length ∧ i209.1.length ≤ i209.1.length)) (ByEight.l1 K a0 k (((i209.1.take i209.1.length).drop (Int.toNat 8)), o259))))))))))) else (some (i209.1, i209.2))
def ByEight.f (K : Nat) (a0 : List Int) (a1 : Int) (a2 : List Int) : Option (Int) := (ByEight.l1 K a0 K (a2, Sx.compl .u32 a1)).bind fun o104 => (ByTable.f K a0 (Sx.compl .u32 o104.2) o104.1).bind fun t307 => some t307
theorem ByEight.calls {B : Nat} {w0 : World} {G : List HP} (K : Nat) (a0 : List Int) (a1 : Int) (a2 : List Int) (Aa0 : Addr) (Aa2 : Option Addr) (ca2 : Nat) (ha0 : RdG B w0 G (some Aa0) (a0.map (Value.int .u32))) (ha2 : RdG B w0 G Aa2 (a2.map (Value.int .u8))) (ka2 : a2.length ≤ ca2) (r : Int) (H : ByEight.f K a0 a1 a2 = some r) (w : World) (hw : St B w0 (G) w) :
    Calls Try.prog 16 [.pointer (some Aa0), .int .u32 a1, .slice Aa2 a2.length ca2].toArray w (fun e w' => e = .returned (.int .u32 r) ∧ St B w0 (G) w') := by
  unfold ByEight.f at H
  refine calls_of (n := 79) (s := [(0, .pointer (some Aa0)), (1, .int .u32 a1), (2, .slice Aa2 a2.length ca2)]) Try.func16 rfl rfl rfl rfl ?_ hw
  refine C.rs ?_
  refine J.p rfl rfl rfl rfl (Y.asg rfl) ?_
  refine J.nx ?_
  refine C.rs ?_
  refine J.p rfl rfl rfl rfl (Y.mv rfl) ?_
  refine J.p rfl rfl rfl rfl (Y.compl rfl) ?_
  refine J.p rfl rfl rfl rfl (Y.asg rfl) ?_
  refine J.nx ?_
  refine C.joinB H (fun (o104 : (List Int) × Int) (j105 : (Option Addr) × Nat) => [(0, .pointer (some Aa0)), (2, .slice j105.1 o104.1.length j105.2), (7, .int .u32 o104.2)]) (fun (o104 : (List Int) × Int) (j105 : (Option Addr) × Nat) => G) (fun (o104 : (List Int) × Int) (j105 : (Option Addr) × Nat) => (RdG B w0 G j105.1 (o104.1.map (Value.int .u8)) ∧ o104.1.length ≤ j105.2)) (fun o102 H HK103 => ?_) (fun o104 j105 H hx106 => ?_)
  · refine C.blk ?_
    refine C.loop (fun (i : Nat × ((List Int) × Int) × ((Option Addr) × Nat)) => [(0, .pointer (some Aa0)), (2, .slice i.2.2.1 i.2.1.1.length i.2.2.2), (7, .int .u32 i.2.1.2)]) (fun (i : Nat × ((List Int) × Int) × ((Option Addr) × Nat)) => G) (fun (i : Nat × ((List Int) × Int) × ((Option Addr) × Nat)) => ByEight.l1 K a0 i.1 i.2.1 = some o102 ∧ ((RdG B w0 G i.2.2.1 (i.2.1.1.map (Value.int .u8)) ∧ i.2.1.1.length ≤ i.2.2.2))) (fun i => i.1) (K, (a2, Sx.compl .u32 a1), (Aa2, ca2)) ⟨H, ⟨ha2, ka2⟩⟩ (by exact ⟨rfl, rfl, rfl, trivial⟩) (by exact fun w h => h) ?_
    rintro ⟨k306, i209, j210⟩ ⟨H, hx211⟩
    replace H : ByEight.l1 K a0 k306 i209 = some o102 := H
    obtain ⟨k208, rfl⟩ : ∃ m, k306 = m + 1 := by cases k306 with | zero => exact absurd H (by simp [ByEight.l1]) | succ m => exact ⟨m, rfl⟩
    rw [ByEight.l1] at H
    refine C.at (s' := [(0, .pointer (some Aa0)), (2, .slice j210.1 i209.1.length j210.2), (7, .int .u32 i209.2)]) (G' := G) rfl rfl ?_
    refine C.seq ?_
    refine C.rs ?_
    refine J.p rfl rfl rfl rfl (Y.mv rfl) ?_
    refine J.p rfl rfl rfl rfl (Y.lenS Try.underlying26 rfl) ?_
    refine J.p rfl rfl rfl rfl (Y.bin rfl rfl rfl) ?_
    refine J.nx ?_
    refine split2 H (fun c212 H => ?_) (fun c212 H => ?_)
    · refine C.condT (congrArg (fun b => some (Value.bool b)) (decide_eq_true c212)) ?_
      refine C.skip ?_
      refine N.nx ?_
      refine C.blk ?_
      refine C.seq ?_
      refine C.drawn (fuel := 25) (ls := [false, false, false, false, false, false, false, false, false, false, false, false, false, false, false, false, false, false, false, false, false, false, false, false, false]) [] (G) mx rfl rfl ?_
      refine D.p (ls' := [true, false, false, false, false, false, false, false, false, false, false, false, false, false, false, false, false, false, false, false, false, false, false, false, false]) 0 rfl rfl rfl rfl (by kernel_rfl) rfl (Y.mv rfl) ?_
      refine D.p (ls' := [true, true, false, false, false, false, false, false, false, false, false, false, false, false, false, false, false, false, false, false, false, false, false, false, false]) 1 rfl rfl rfl rfl (by kernel_rfl) rfl (Y.mv rfl) ?_
      obtain ⟨p215, H⟩ := gd_some H
      refine D.know (hx211.1.some_ (j := Int.toNat 0) (by rw [List.length_map]; exact idx_lt p215)) (fun hh => ?_)
      obtain ⟨a213, ha214⟩ := hh
      refine D.p (ls' := [true, true, true, false, false, false, false, false, false, false, false, false, false, false, false, false, false, false, false, false, false, false, false, false, false]) 2 rfl rfl rfl rfl (by kernel_rfl) rfl (Y.ixa Try.underlying26 ti5 rfl rfl p215 ha214) ?_
      obtain ⟨p216, H⟩ := gd_some H
      refine D.r (ls' := [true, true, true, true, false, false, false, false, false, false, false, false, false, false, false, false, false, false, false, false, false, false, false, false, false]) 3 1 0 rfl rfl rfl rfl (by kernel_rfl) (by kernel_rfl) rfl rfl (Y.ldE Try.underlying5 rfl rfl ha214 p216 hx211.1) ?_
      refine D.p (ls' := [true, true, true, true, true, false, false, false, false, false, false, false, false, false, false, false, false, false, false, false, false, false, false, false, false]) 4 rfl rfl rfl rfl (by kernel_rfl) rfl (Y.conv Try.underlying5 Try.underlying22 rfl) ?_
      refine D.p (ls' := [true, true, true, true, true, true, false, false, false, false, false, false, false, false, false, false, false, false, false, false, false, false, false, false, false]) 5 rfl rfl rfl rfl (by kernel_rfl) rfl (Y.mv rfl) ?_
      obtain ⟨p219, H⟩ := gd_some H
      refine D.know (hx211.1.some_ (j := Int.toNat 1) (by rw [List.length_map]; exact idx_lt p219)) (fun hh => ?_)
      obtain ⟨a217, ha218⟩ := hh
      refine D.p (ls' := [true, true, true, true, true, true, true, false, false, false, false, false, false, false, false, false, false, false, false, false, false, false, false, false, false]) 6 rfl rfl rfl rfl (by kernel_rfl) rfl (Y.ixa Try.underlying26 ti5 rfl rfl p219 ha218) ?_
      obtain ⟨p220, H⟩ := gd_some H
      refine D.r (ls' := [true, true, true, true, true, true, true, true, false, false, false, false, false, false, false, false, false, false, false, false, false, false, false, false, false]) 7 1 0 rfl rfl rfl rfl (by kernel_rfl) (by kernel_rfl) rfl rfl (Y.ldE Try.underlying5 rfl rfl ha218 p220 hx211.1) ?_
      refine D.p (ls' := [true, true, true, true, true, true, true, true, true, false, false, false, false, false, false, false, false, false, false, false, false, false, false, false, false]) 8 rfl rfl rfl rfl (by kernel_rfl) rfl (Y.conv Try.underlying5 Try.underlying22 rfl) ?_
      refine D.p (ls' := [true, true, true, true, true, true, true, true, true, true, false, false, false, false, false, false, false, false, false, false, false, false, false, false, false]) 9 rfl rfl rfl rfl (by kernel_rfl) rfl (Y.shl rfl rfl (by decide)) ?_
      refine D.p (ls' := [true, true, true, true, true, true, true, true, true, true, true, false, false, false, false, false, false, false, false, false, false, false, false, false, false]) 10 rfl rfl rfl rfl (by kernel_rfl) rfl (Y.bin rfl rfl rfl) ?_
      refine D.p (ls' := [true, true, true, true, true, true, true, true, true, true, true, true, false, false, false, false, false, false, false, false, false, false, false, false, false]) 11 rfl rfl rfl rfl (by kernel_rfl) rfl (Y.mv rfl) ?_
      obtain ⟨p223, H⟩ := gd_some H
      refine D.know (hx211.1.some_ (j := Int.toNat 2) (by rw [List.length_map]; exact idx_lt p223)) (fun hh => ?_)
      obtain ⟨a221, ha222⟩ := hh
      refine D.p (ls' := [true, true, true, true, true, true, true, true, true, true, true, true, true, false, false, false, false, false, false, false, false, false, false, false, false]) 12 rfl rfl rfl rfl (by kernel_rfl) rfl (Y.ixa Try.underlying26 ti5 rfl rfl p223 ha222) ?_
      obtain ⟨p224, H⟩ := gd_some H
      refine D.r (ls' := [true, true, true, true, true, true, true, true, true, true, true, true, true, true, false, false, false, false, false, false, false, false, false, false, false]) 13 1 0 rfl rfl rfl rfl (by kernel_rfl) (by kernel_rfl) rfl rfl (Y.ldE Try.underlying5 rfl rfl ha222 p224 hx211.1) ?_
      refine D.p (ls' := [true, true, true, true, true, true, true, true, true, true, true, true, true, true, true, false, false, false, false, false, false, false, false, false, false]) 14 rfl rfl rfl rfl (by kernel_rfl) rfl (Y.conv Try.underlying5 Try.underlying22 rfl) ?_
      refine D.p (ls' := [true, true, true, true, true, true, true, true, true, true, true, true, true, true, true, true, false, false, false, false, false, false, false, false, false]) 15 rfl rfl rfl rfl (by kernel_rfl) rfl (Y.shl rfl rfl (by decide)) ?_
      refine D.p (ls' := [true, true, true, true, true, true, true, true, true, true, true, true, true, true, true, true, true, false, false, false, false, false, false, false, false]) 16 rfl rfl rfl rfl (by kernel_rfl) rfl (Y.bin rfl rfl rfl) ?_
      refine D.p (ls' := [true, true, true, true, true, true, true, true, true, true, true, true, true, true, true, true, true, true, false, false, false, false, false, false, false]) 17 rfl rfl rfl rfl (by kernel_rfl) rfl (Y.mv rfl) ?_
      obtain ⟨p227, H⟩ := gd_some H
      refine D.know (hx211.1.some_ (j := Int.toNat 3) (by rw [List.length_map]; exact idx_lt p227)) (fun hh => ?_)
      obtain ⟨a225, ha226⟩ := hh
      refine D.p (ls' := [true, true, true, true, true, true, true, true, true, true, true, true, true, true, true, true, true, true, true, false, false, false, false, false, false]) 18 rfl rfl rfl rfl (by kernel_rfl) rfl (Y.ixa Try.underlying26 ti5 rfl rfl p227 ha226) ?_
      obtain ⟨p228, H⟩ := gd_some H
      refine D.r (ls' := [true, true, true, true, true, true, true, true, true, true, true, true, true, true, true, true, true, true, true, true, false, false, false, false, false]) 19 1 0 rfl rfl rfl rfl (by kernel_rfl) (by kernel_rfl) rfl rfl (Y.ldE Try.underlying5 rfl rfl ha226 p228 hx211.1) ?_
      refine D.p (ls' := [true, true, true, true, true, true, true, true, true, true, true, true, true, true, true, true, true, true, true, true, true, false, false, false, false]) 20 rfl rfl rfl rfl (by kernel_rfl) rfl (Y.conv Try.underlying5 Try.underlying22 rfl) ?_
      refine D.p (ls' := [true, true, true, true, true, true, true, true, true, true, true, true, true, true, true, true, true, true, true, true, true, true, false, false, false]) 21 rfl rfl rfl rfl (by kernel_rfl) rfl (Y.shl rfl rfl (by decide)) ?_
      refine D.p (ls' := [true, true, true, true, true, true, true, true, true, true, true, true, true, true, true, true, true, true, true, true, true, true, true, false, false]) 22 rfl rfl rfl rfl (by kernel_rfl) rfl (Y.bin rfl rfl rfl) ?_
      refine D.p (ls' := [true, true, true, true, true, true, true, true, true, true, true, true, true, true, true, true, true, true, true, true, true, true, true, true, false]) 23 rfl rfl rfl rfl (by kernel_rfl) rfl (Y.bin rfl rfl rfl) ?_
      refine D.p (ls' := [true, true, true, true, true, true, true, true, true, true, true, true, true, true, true, true, true, true, true, true, true, true, true, true, true]) 24 rfl rfl rfl rfl (by kernel_rfl) rfl (Y.asg rfl) ?_
      refine D.nil (by kernel_rfl) ?_
      refine N.nx ?_
      refine C.rs ?_
      refine J.p rfl rfl rfl rfl (Y.asg rfl) ?_
      refine J.nx ?_
      refine C.seq ?_
      refine C.rs ?_
      refine J.p rfl rfl rfl rfl (Y.mv rfl) ?_
      refine J.nx ?_
      refine C.joinN H (fun (o259 : Int) (j260 : Unit) => [(0, .pointer (some Aa0)), (2, .slice j210.1 i209.1.length j210.2), (7, .int .u32 o259)]) (fun (o259 : Int) (j260 : Unit) => G) (fun (o259 : Int) (j260 : Unit) => True) (fun o257 H HK258 => ?_) (fun o259 j260 H _ => ?_)
      · refine C.blk ?_
        refine C.loop (fun (i : Nat × (Int × Int) × (Unit)) => [(0, .pointer (some Aa0)), (2, .slice j210.1 i209.1.length j210.2), (7, .int .u32 i.2.1.1), (8, .int .u32 (Sx.bits .xor .u32 i209.2 (Sx.bits .or .u32 (Sx.bits .or .u32 (Sx.bits .or .u32 (IntKind.wrap .u32 (rd i209.1 0)) (Sx.shl .u32 (IntKind.wrap .u32 (rd i209.1 1)) 8)) (Sx.shl .u32 (IntKind.wrap .u32 (rd i209.1 2)) 16)) (Sx.shl .u32 (IntKind.wrap .u32 (rd i209.1 3)) 24)))), (39, .int .i64 i.2.1.2)]) (fun (i : Nat × (Int × Int) × (Unit)) => G) (fun (i : Nat × (Int × Int) × (Unit)) => ByEight.l2 i209 a0 i.1 i.2.1 = some o257 ∧ (True)) (fun i => i.1) (K, (0, 0), ()) ⟨H, trivial⟩ (by exact ⟨rfl, rfl, rfl, rfl, rfl, trivial⟩) (by exact fun w h => h) ?_
        rintro ⟨k304, i290, j291⟩ ⟨H, _⟩
        replace H : ByEight.l2 i209 a0 k304 i290 = some o257 := H
        obtain ⟨k289, rfl⟩ : ∃ m, k304 = m + 1 := by cases k304 with | zero => exact absurd H (by simp [ByEight.l2]) | succ m => exact ⟨m, rfl⟩
        rw [ByEight.l2] at H
        refine C.at (s' := [(0, .pointer (some Aa0)), (2, .slice j210.1 i209.1.length j210.2), (7, .int .u32 i290.1), (8, .int .u32 (Sx.bits .xor .u32 i209.2 (Sx.bits .or .u32 (Sx.bits .or .u32 (Sx.bits .or .u32 (IntKind.wrap .u32 (rd i209.1 0)) (Sx.shl .u32 (IntKind.wrap .u32 (rd i209.1 1)) 8)) (Sx.shl .u32 (IntKind.wrap .u32 (rd i209.1 2)) 16)) (Sx.shl .u32 (IntKind.wrap .u32 (rd i209.1 3)) 24)))), (39, .int .i64 i290.2)]) (G' := G) rfl rfl ?_
        refine C.rs ?_
        refine J.p rfl rfl rfl rfl (Y.bin rfl rfl rfl) ?_
        refine J.nx ?_
        refine C.seq ?_
        refine split2 H (fun c292 H => ?_) (fun c292 H => ?_)
        · refine C.condT (congrArg (fun b => some (Value.bool b)) (decide_eq_true c292)) ?_
          refine C.skip ?_
          refine N.nx ?_
          refine C.seq ?_
          refine C.blk ?_
          refine C.rs ?_
          refine J.p rfl rfl rfl rfl (Y.mv rfl) ?_
          refine J.p rfl rfl rfl rfl (Y.asg rfl) ?_
          refine J.nx ?_
          refine C.drawn (fuel := 30) (ls := [false, false, false, false, false, false, false, false, false, false, false, false, false, false, false, false, false, false, false, false, false, false, false, false, false, false, false, false, false, false]) [] (G) mx rfl rfl ?_
          refine D.p (ls' := [true, false, false, false, false, false, false, false, false, false, false, false, false, false, false, false, false, false, false, false, false, false, false, false, false, false, false, false, false, false]) 0 rfl rfl rfl rfl (by kernel_rfl) rfl (Y.mv rfl) ?_
          refine D.p (ls' := [true, true, false, false, false, false, false, false, false, false, false, false, false, false, false, false, false, false, false, false, false, false, false, false, false, false, false, false, false, false]) 1 rfl rfl rfl rfl (by kernel_rfl) rfl (Y.mv rfl) ?_
          refine D.p (ls' := [true, true, true, false, false, false, false, false, false, false, false, false, false, false, false, false, false, false, false, false, false, false, false, false, false, false, false, false, false, false]) 2 rfl rfl rfl rfl (by kernel_rfl) rfl (Y.mv rfl) ?_
          refine D.p (ls' := [true, true, true, true, false, false, false, false, false, false, false, false, false, false, false, false, false, false, false, false, false, false, false, false, false, false, false, false, false, false]) 3 rfl rfl rfl rfl (by kernel_rfl) rfl (Y.bin rfl rfl rfl) ?_
          refine D.p (ls' := [true, true, true, true, true, false, false, false, false, false, false, false, false, false, false, false, false, false, false, false, false, false, false, false, false, false, false, false, false, false]) 4 rfl rfl rfl rfl (by kernel_rfl) rfl (Y.mv rfl) ?_
          refine D.p (ls' := [true, true, true, true, true, true, false, false, false, false, false, false, false, false, false, false, false, false, false, false, false, false, false, false, false, false, false, false, false, false]) 5 rfl rfl rfl rfl (by kernel_rfl) rfl (Y.mv rfl) ?_
          refine D.p (ls' := [true, true, true, true, true, true, true, false, false, false, false, false, false, false, false, false, false, false, false, false, false, false, false, false, false, false, false, false, false, false]) 6 rfl rfl rfl rfl (by kernel_rfl) rfl (Y.bin rfl rfl rfl) ?_
          obtain ⟨p293, H⟩ := gd_some H
          refine D.p (ls' := [true, true, true, true, true, true, true, true, false, false, false, false, false, false, false, false, false, false, false, false, false, false, false, false, false, false, false, false, false, false]) 7 rfl rfl rfl rfl (by kernel_rfl) rfl (Y.shr rfl rfl p293) ?_
          refine D.p (ls' := [true, true, true, true, true, true, true, true, true, false, false, false, false, false, false, false, false, false, false, false, false, false, false, false, false, false, false, false, false, false]) 8 rfl rfl rfl rfl (by kernel_rfl) rfl (Y.conv Try.underlying22 Try.underlying5 rfl) ?_
          refine D.p (ls' := [true, true, true, true, true, true, true, true, true, true, false, false, false, false, false, false, false, false, false, false, false, false, false, false, false, false, false, false, false, false]) 9 rfl rfl rfl rfl (by kernel_rfl) rfl (Y.nilp rfl) ?_
          refine D.p (ls' := [true, true, true, true, true, true, true, true, true, true, true, false, false, false, false, false, false, false, false, false, false, false, false, false, false, false, false, false, false, false]) 10 rfl rfl rfl rfl (by kernel_rfl) rfl (Y.fa fa45_0 rfl) ?_
          obtain ⟨p294, H⟩ := gd_some H
          refine D.p (ls' := [true, true, true, true, true, true, true, true, true, true, true, true, false, false, false, false, false, false, false, false, false, false, false, false, false, false, false, false, false, false]) 11 rfl rfl rfl rfl (by kernel_rfl) rfl (Y.ixpA Try.underlying43 ti42 rfl rfl p294) ?_
          obtain ⟨p295, H⟩ := gd_some H
          refine D.p (ls' := [true, true, true, true, true, true, true, true, true, true, true, true, true, false, false, false, false, false, false, false, false, false, false, false, false, false, false, false, false, false]) 12 rfl rfl rfl rfl (by kernel_rfl) rfl (Y.ixpA Try.underlying42 ti22 rfl rfl p295) ?_
          obtain ⟨p296, H⟩ := gd_some H
          refine D.r (ls' := [true, true, true, true, true, true, true, true, true, true, true, true, true, true, false, false, false, false, false, false, false, false, false, false, false, false, false, false, false, false]) 13 1 0 rfl rfl rfl rfl (by kernel_rfl) (by kernel_rfl) rfl rfl (Y.ldN Try.underlying22 rfl rfl p296 ha0) ?_
          refine D.p (ls' := [true, true, true, true, true, true, true, true, true, true, true, true, true, true, true, false, false, false, false, false, false, false, false, false, false, false, false, false, false, false]) 14 rfl rfl rfl rfl (by kernel_rfl) rfl (Y.mv rfl) ?_
          refine D.p (ls' := [true, true, true, true, true, true, true, true, true, true, true, true, true, true, true, true, false, false, false, false, false, false, false, false, false, false, false, false, false, false]) 15 rfl rfl rfl rfl (by kernel_rfl) rfl (Y.mv rfl) ?_
          refine D.p (ls' := [true, true, true, true, true, true, true, true, true, true, true, true, true, true, true, true, true, false, false, false, false, false, false, false, false, false, false, false, false, false]) 16 rfl rfl rfl rfl (by kernel_rfl) rfl (Y.bin rfl rfl rfl) ?_
          refine D.p (ls' := [true, true, true, true, true, true, true, true, true, true, true, true, true, true, true, true, true, true, false, false, false, false, false, false, false, false, false, false, false, false]) 17 rfl rfl rfl rfl (by kernel_rfl) rfl (Y.mv rfl) ?_
          refine D.p (ls' := [true, true, true, true, true, true, true, true, true, true, true, true, true, true, true, true, true, true, true, false, false, false, false, false, false, false, false, false, false, false]) 18 rfl rfl rfl rfl (by kernel_rfl) rfl (Y.mv rfl) ?_
          refine D.p (ls' := [true, true, true, true, true, true, true, true, true, true, true, true, true, true, true, true, true, true, true, true, false, false, false, false, false, false, false, false, false, false]) 19 rfl rfl rfl rfl (by kernel_rfl) rfl (Y.bin rfl rfl rfl) ?_
          obtain ⟨p299, H⟩ := gd_some H
          refine D.know (hx211.1.some_ (j := Int.toNat (IntKind.wrap .i64 (4 + i290.2))) (by rw [List.length_map]; exact idx_lt p299)) (fun hh => ?_)
          obtain ⟨a297, ha298⟩ := hh
          refine D.p (ls' := [true, true, true, true, true, true, true, true, true, true, true, true, true, true, true, true, true, true, true, true, true, false, false, false, false, false, false, false, false, false]) 20 rfl rfl rfl rfl (by kernel_rfl) rfl (Y.ixa Try.underlying26 ti5 rfl rfl p299 ha298) ?_
          obtain ⟨p300, H⟩ := gd_some H
          refine D.r (ls' := [true, true, true, true, true, true, true, true, true, true, true, true, true, true, true, true, true, true, true, true, true, true, false, false, false, false, false, false, false, false]) 21 1 0 rfl rfl rfl rfl (by kernel_rfl) (by kernel_rfl) rfl rfl (Y.ldE Try.underlying5 rfl rfl ha298 p300 hx211.1) ?_
          refine D.p (ls' := [true, true, true, true, true, true, true, true, true, true, true, true, true, true, true, true, true, true, true, true, true, true, true, false, false, false, false, false, false, false]) 22 rfl rfl rfl rfl (by kernel_rfl) rfl (Y.nilp rfl) ?_
          refine D.p (ls' := [true, true, true, true, true, true, true, true, true, true, true, true, true, true, true, true, true, true, true, true, true, true, true, true, false, false, false, false, false, false]) 23 rfl rfl rfl rfl (by kernel_rfl) rfl (Y.fa fa45_0 rfl) ?_
          obtain ⟨p301, H⟩ := gd_some H
          refine D.p (ls' := [true, true, true, true, true, true, true, true, true, true, true, true, true, true, true, true, true, true, true, true, true, true, true, true, true, false, false, false, false, false]) 24 rfl rfl rfl rfl (by kernel_rfl) rfl (Y.ixpA Try.underlying43 ti42 rfl rfl p301) ?_
          obtain ⟨p302, H⟩ := gd_some H
          refine D.p (ls' := [true, true, true, true, true, true, true, true, true, true, true, true, true, true, true, true, true, true, true, true, true, true, true, true, true, true, false, false, false, false]) 25 rfl rfl rfl rfl (by kernel_rfl) rfl (Y.ixpA Try.underlying42 ti22 rfl rfl p302) ?_
          obtain ⟨p303, H⟩ := gd_some H
          refine D.r (ls' := [true, true, true, true, true, true, true, true, true, true, true, true, true, true, true, true, true, true, true, true, true, true, true, true, true, true, true, false, false, false]) 26 1 0 rfl rfl rfl rfl (by kernel_rfl) (by kernel_rfl) rfl rfl (Y.ldN Try.underlying22 rfl rfl p303 ha0) ?_
          refine D.p (ls' := [true, true, true, true, true, true, true, true, true, true, true, true, true, true, true, true, true, true, true, true, true, true, true, true, true, true, true, true, false, false]) 27 rfl rfl rfl rfl (by kernel_rfl) rfl (Y.bin rfl rfl rfl) ?_
          refine D.p (ls' := [true, true, true, true, true, true, true, true, true, true, true, true, true, true, true, true, true, true, true, true, true, true, true, true, true, true, true, true, true, false]) 28 rfl rfl rfl rfl (by kernel_rfl) rfl (Y.bin rfl rfl rfl) ?_
          refine D.p (ls' := [true, true, true, true, true, true, true, true, true, true, true, true, true, true, true, true, true, true, true, true, true, true, true, true, true, true, true, true, true, true]) 29 rfl rfl rfl rfl (by kernel_rfl) rfl (Y.asg rfl) ?_
          refine D.nil (by kernel_rfl) ?_
          refine N.ib ?_
          refine N.nx ?_
          refine C.reg ?_
          refine J.p rfl rfl rfl rfl (Y.bin rfl rfl rfl) ?_
          refine J.p rfl rfl rfl rfl (Y.mv rfl) ?_
          refine J.nil ?_
          exact N.again (k289, (Sx.bits .xor .u32 i290.1 (Sx.bits .xor .u32 (rd a0 ((((0 + Int.toNat (IntKind.wrap .i64 (7 - i290.2)) * 256) + Int.toNat (IntKind.wrap .u8 (Sx.shr .u32 (Sx.bits .xor .u32 i209.2 (Sx.bits .or .u32 (Sx.bits .or .u32 (Sx.bits .or .u32 (IntKind.wrap .u32 (rd i209.1 0)) (Sx.shl .u32 (IntKind.wrap .u32 (rd i209.1 1)) 8)) (Sx.shl .u32 (IntKind.wrap .u32 (rd i209.1 2)) 16)) (Sx.shl .u32 (IntKind.wrap .u32 (rd i209.1 3)) 24))) (IntKind.wrap .i64 (8 * i290.2)))) * 1) : Nat) : Int)) (rd a0 ((((0 + Int.toNat (IntKind.wrap .i64 (3 - i290.2)) * 256) + Int.toNat (rd i209.1 (IntKind.wrap .i64 (4 + i290.2))) * 1) : Nat) : Int))), IntKind.wrap .i64 (i290.2 + 1)), ()) ⟨H, trivial⟩ (Nat.lt_succ_self _) (by exact ⟨rfl, rfl, rfl, rfl, rfl, trivial⟩) (by exact fun w h => h)
        · refine C.condF (congrArg (fun b => some (Value.bool b)) (decide_eq_false c292)) ?_
          refine C.exit ?_
          refine X.th ?_
          refine X.th ?_
          refine X.hit ?_
          obtain rfl := Option.some.inj H
          exact N.meet (i290.1, ()) ⟨HK258, trivial⟩ (by exact ⟨rfl, rfl, rfl, trivial⟩) (by exact fun w h => h)
      · refine N.at (s' := [(0, .pointer (some Aa0)), (2, .slice j210.1 i209.1.length j210.2), (7, .int .u32 o259)]) (G' := G) rfl rfl ?_
        refine N.nx ?_
        refine C.reg ?_
        refine J.p rfl rfl rfl rfl (Y.mv rfl) ?_
        obtain ⟨p305, H⟩ := gd_some H
        refine J.p rfl rfl rfl rfl (Y.slcL Try.underlying26 ti5 rfl (bnd.yes rfl p305.1) bnd.no p305.2 hx211.2) ?_
        refine J.p rfl rfl rfl rfl (Y.asg rfl) ?_
        refine J.nil ?_
        refine N.ib ?_
        exact N.again (k208, (((i209.1.take i209.1.length).drop (Int.toNat 8)), o259), (subA 1 j210.1 j210.2 (Int.toNat 8), j210.2 - (Int.toNat 8))) ⟨H, ⟨(RdG.subL (l := (Int.toNat 8)) (h := i209.1.length) hx211.1 hx211.2), (hc_sub hx211.2)⟩⟩ (Nat.lt_succ_self _) (by exact ⟨rfl, rfl, rfl, trivial⟩) (by exact fun w h => h)
    · refine C.condF (congrArg (fun b => some (Value.bool b)) (decide_eq_false c212)) ?_
      refine C.exit ?_
      refine X.th ?_
      refine X.th ?_
      refine X.hit ?_
      obtain rfl := Option.some.inj H
      exact N.meet ((i209.1, i209.2), (j210.1, j210.2)) ⟨HK103, ⟨hx211.1, hx211.2⟩⟩ (by exact ⟨rfl, rfl, rfl, trivial⟩) (by exact fun w h => h)
  · refine C.at (s' := [(0, .pointer (some Aa0)), (2, .slice j105.1 o104.1.length j105.2), (7, .int .u32 o104.2)]) (G' := G) rfl rfl ?_
    refine C.rs ?_
    refine J.p rfl rfl rfl rfl (Y.mv rfl) ?_
    refine J.p rfl rfl rfl rfl (Y.mv rfl) ?_
    refine J.p rfl rfl rfl rfl (Y.compl rfl) ?_
    refine J.p rfl rfl rfl rfl (Y.mv rfl) ?_
    obtain ⟨t307, hC308, H⟩ := bind_some H
    refine J.call (us := []) (cap := []) rfl rfl rfl go15 (fun w hw => by have hcc := ByTable.calls K a0 (Sx.compl .u32 o104.2) o104.1 Aa0 j105.1 j105.2 ha0 hx106.1 hx106.2 t307 hC308 w hw; exact hcc) (fun e w1 h1 => ?_)
    obtain ⟨rfl, hw309⟩ := h1
    refine ⟨_, _, rfl, hw309, ?_⟩
    refine J.p rfl rfl rfl rfl (Y.asg rfl) ?_
    refine J.nx ?_
    refine C.ret ?_
    obtain rfl := Option.some.inj H
    exact ret_ok (ks := [6]) rfl rfl (fun w h => ⟨rfl, h⟩)
/-! ### salvor/crc.Sum: function 18 -/
def Sum.l1 (K : Nat) (a0 : List (List Int)) : Nat → (Int × Int) → Option (Int)
  | 0, _ => none
  | k + 1, i62 => if i62.2 < (a0.length : Int) then (gd ((0 : Int) ≤ i62.2 ∧ i62.2 < (a0.length : Int)) ((Bitwise.f K i62.1 (rd a0 i62.2)).bind fun t73 => Sum.l1 K a0 k (t73, IntKind.wrap .i64 (i62.2 + 1)))) else (some i62.1)
def Sum.f (K : Nat) (a0 : List (List Int)) : Option (Int) := (Sum.l1 K a0 K (0, 0)).bind fun o31 => some o31
theorem Sum.calls {B : Nat} {w0 : World} {G : List HP} (K : Nat) (a0 : List (List Int)) (Aa0 : Option Addr) (ca0 : Nat) (va0 : List Value) (ha0 : RdG B w0 G Aa0 va0) (hva0 : VV B w0 G (Value.int .u8) va0 a0) (ka0 : a0.length ≤ ca0) (r : Int) (H : Sum.f K a0 = some r) (w : World) (hw : St B w0 (G) w) :
    Calls Try.prog 18 [.slice Aa0 a0.length ca0].toArray w (fun e w' => e = .returned (.int .u32 r) ∧ St B w0 (G) w') := by
  unfold Sum.f at H
  refine calls_of (n := 17) (s := [(0, .slice Aa0 a0.length ca0)]) Try.func18 rfl rfl rfl rfl ?_ hw
  refine C.rs ?_
  refine J.p rfl rfl rfl rfl (Y.asg rfl) ?_
  refine J.nx ?_
  refine C.rs ?_
  refine J.p rfl rfl rfl rfl (Y.asg rfl) ?_
  refine J.nx ?_
  refine C.seq ?_
  refine C.rs ?_
  refine J.p rfl rfl rfl rfl (Y.mv rfl) ?_
  refine J.p rfl rfl rfl rfl (Y.lenS Try.underlying23 rfl) ?_
  refine J.p rfl rfl rfl rfl (Y.mv rfl) ?_
  refine J.nx ?_
  refine C.joinN H (fun (o31 : Int) (j32 : Unit) => [(3, .int .u32 o31)]) (fun (o31 : Int) (j32 : Unit) => G) (fun (o31 : Int) (j32 : Unit) => True) (fun o29 H HK30 => ?_) (fun o31 j32 H _ => ?_)
  · refine C.blk ?_
    refine C.loop (fun (i : Nat × (Int × Int) × (Unit)) => [(3, .int .u32 i.2.1.1), (6, .slice Aa0 a0.length ca0), (7, .int .i64 (a0.length : Int)), (8, .int .i64 i.2.1.2)]) (fun (i : Nat × (Int × Int) × (Unit)) => G) (fun (i : Nat × (Int × Int) × (Unit)) => Sum.l1 K a0 i.1 i.2.1 = some o29 ∧ (True)) (fun i => i.1) (K, (0, 0), ()) ⟨H, trivial⟩ (by exact ⟨rfl, rfl, rfl, rfl, trivial⟩) (by exact fun w h => h) ?_
    rintro ⟨k76, i62, j63⟩ ⟨H, _⟩
    replace H : Sum.l1 K a0 k76 i62 = some o29 := H
    obtain ⟨k61, rfl⟩ : ∃ m, k76 = m + 1 := by cases k76 with | zero => exact absurd H (by simp [Sum.l1]) | succ m => exact ⟨m, rfl⟩
    rw [Sum.l1] at H
    refine C.at (s' := [(3, .int .u32 i62.1), (6, .slice Aa0 a0.length ca0), (7, .int .i64 (a0.length : Int)), (8, .int .i64 i62.2)]) (G' := G) rfl rfl ?_
    refine C.rs ?_
    refine J.p rfl rfl rfl rfl (Y.bin rfl rfl rfl) ?_
    refine J.nx ?_
    refine C.seq ?_
    refine split2 H (fun c64 H => ?_) (fun c64 H => ?_)
    · refine C.condT (congrArg (fun b => some (Value.bool b)) (decide_eq_true c64)) ?_
      refine C.skip ?_
      refine N.nx ?_
      refine C.seq ?_
      refine C.blk ?_
      refine C.rs ?_
      obtain ⟨p67, H⟩ := gd_some H
      refine J.know (VV.some_ (ha0.suf [] rfl) (hva0.suf [] rfl) (idx_lt p67)) (fun hh => ?_)
      obtain ⟨a65, ha66⟩ := hh
      refine J.p rfl rfl rfl rfl (Y.ixa Try.underlying23 ti26 rfl rfl p67 ha66) ?_
      obtain ⟨A68, c69, hv70, hr71, hc72⟩ := VV.get hva0 p67
      refine J.r rfl rfl rfl rfl (Y.ld Try.underlying26 rfl rfl ha0 ha66 hv70) ?_
      refine J.p rfl rfl rfl rfl (Y.asg rfl) ?_
      refine J.nx ?_
      refine C.reg ?_
      refine J.p rfl rfl rfl rfl (Y.mv rfl) ?_
      refine J.p rfl rfl rfl rfl (Y.mv rfl) ?_
      obtain ⟨t73, hC74, H⟩ := bind_some H
      refine J.call (us := []) (cap := []) rfl rfl rfl go14 (fun w hw => by have hcc := Bitwise.calls K i62.1 (rd a0 i62.2) A68 c69 hr71 hc72 t73 hC74 w hw; exact hcc) (fun e w1 h1 => ?_)
      obtain ⟨rfl, hw75⟩ := h1
      refine ⟨_, _, rfl, hw75, ?_⟩
      refine J.p rfl rfl rfl rfl (Y.asg rfl) ?_
      refine J.nil ?_
      refine N.ib ?_
      refine N.nx ?_
      refine C.reg ?_
      refine J.p rfl rfl rfl rfl (Y.bin rfl rfl rfl) ?_
      refine J.p rfl rfl rfl rfl (Y.mv rfl) ?_
      refine J.nil ?_
      exact N.again (k61, (t73, IntKind.wrap .i64 (i62.2 + 1)), ()) ⟨H, trivial⟩ (Nat.lt_succ_self _) (by exact ⟨rfl, rfl, rfl, rfl, trivial⟩) (by exact fun w h => h)
    · refine C.condF (congrArg (fun b => some (Value.bool b)) (decide_eq_false c64)) ?_
      refine C.exit ?_
      refine X.th ?_
      refine X.th ?_
      refine X.hit ?_
      obtain rfl := Option.some.inj H
      exact N.meet (i62.1, ()) ⟨HK30, trivial⟩ (by exact ⟨rfl, trivial⟩) (by exact fun w h => h)
  · refine N.at (s' := [(3, .int .u32 o31)]) (G' := G) rfl rfl ?_
    refine N.nx ?_
    refine C.rs ?_
    refine J.p rfl rfl rfl rfl (Y.mv rfl) ?_
    refine J.p rfl rfl rfl rfl (Y.asg rfl) ?_
    refine J.nx ?_
    refine C.ret ?_
    obtain rfl := Option.some.inj H
    exact ret_ok (ks := [2]) rfl rfl (fun w h => ⟨rfl, h⟩)
/-! ### salvor/salvorlaw1.known: function 8 -/
def known.f (K : Nat) : Option (Bool) := (New.f K).bind fun t5 => ((Bitwise.f K 0 [49, 50, 51, 52, 53, 54, 55, 56, 57]).bind fun t24 => if t24 = 3808858755 then ((ByTable.f K t5 0 [49, 50, 51, 52, 53, 54, 55, 56, 57]).bind fun t27 => if t27 = 3808858755 then ((ByEight.f K t5 0 [49, 50, 51, 52, 53, 54, 55, 56, 57]).bind fun t30 => some (decide (t30 = 3808858755))) else (some false)) else (some false)).bind fun o20 => if o20 = true then (gd ((0 : Int) ≤ 4 ∧ (0 ≤ (Int.toNat 4) ∧ (Int.toNat 4) ≤ [49, 50, 51, 52, 53, 54, 55, 56, 57].length)) (gd ((0 : Int) ≤ 4 ∧ ((Int.toNat 4) ≤ [49, 50, 51, 52, 53, 54, 55, 56, 57].length ∧ [49, 50, 51, 52, 53, 54, 55, 56, 57].length ≤ [49, 50, 51, 52, 53, 54, 55, 56, 57].length)) ((Sum.f K [(([49, 50, 51, 52, 53, 54, 55, 56, 57].take (Int.toNat 4)).drop 0), ([] : List Int), (([49, 50, 51, 52, 53, 54, 55, 56, 57].take [49, 50, 51, 52, 53, 54, 55, 56, 57].length).drop (Int.toNat 4))]).bind fun t40 => some (decide (t40 = 3808858755))))) else (some false)
theorem known.calls {B : Nat} {w0 : World} {G : List HP} (K : Nat) (r : Bool) (H : known.f K = some r) (w : World) (hw : St B w0 (G) w) :
    Calls Try.prog 8 [].toArray w (fun e w' => e = .returned (.bool r) ∧ St B w0 (G) w') := by
  unfold known.f at H
  refine calls_of (n := 34) (s := []) Try.func8 rfl rfl rfl rfl ?_ hw
  refine C.rs ?_
  refine J.p rfl rfl rfl rfl (Y.asg rfl) ?_
  refine J.nx ?_
  refine C.rs ?_
  refine J.bsL (enc := (Value.int .u8)) (xs := [49, 50, 51, 52, 53, 54, 55, 56, 57]) rfl Try.underlying26 ti5 rfl rfl rfl rfl rfl (fun A1 => ?_)
  refine J.know ((RdG.own 0 rfl).some_ (j := 0) (by simp)) (fun hh => ?_)
  obtain ⟨a3, ha4⟩ := hh
  refine J.cvb rfl Try.underlying26 Try.underlying5 ha4 rfl ?_
  refine J.p rfl rfl rfl rfl (Y.asg rfl) ?_
  refine J.nx ?_
  refine C.rs ?_
  obtain ⟨t5, hC6, H⟩ := bind_some H
  refine J.call (us := []) (cap := []) rfl rfl rfl go12 (fun w hw => by have hcc := New.calls K t5 hC6 w hw; exact hcc) (fun e w1 h1 => ?_)
  obtain ⟨g7, rfl, hw43⟩ := h1
  refine ⟨_, _, rfl, hw43, ?_⟩
  refine J.p rfl rfl rfl rfl (Y.asg rfl) ?_
  refine J.nx ?_
  refine C.seq ?_
  refine C.rs ?_
  refine J.p rfl rfl rfl rfl (Y.mv rfl) ?_
  refine J.p rfl rfl rfl rfl (Y.eqptr Try.underlying29 rfl rfl) ?_
  refine J.nx ?_
  refine C.condF rfl ?_
  refine C.skip ?_
  refine N.nx ?_
  refine C.rs ?_
  refine J.joinB H (fun (o20 : Bool) (j21 : Unit) => [(1, .slice A1 [49, 50, 51, 52, 53, 54, 55, 56, 57].length 9), (3, .bool o20)]) (fun (o20 : Bool) (j21 : Unit) => ro_ A1 ([49, 50, 51, 52, 53, 54, 55, 56, 57].map (Value.int .u8)) :: G) (fun (o20 : Bool) (j21 : Unit) => True) (fun o22 H HK23 => ?_) (fun o20 j21 H _ => ?_)
  · refine J.p rfl rfl rfl rfl (Y.mv rfl) ?_
    obtain ⟨t24, hC25, H⟩ := bind_some H
    refine J.call (us := []) (cap := []) rfl rfl rfl go14 (fun w hw => by have hcc := Bitwise.calls K 0 [49, 50, 51, 52, 53, 54, 55, 56, 57] A1 9 (RdG.ro_ 1 rfl) (show [49, 50, 51, 52, 53, 54, 55, 56, 57].length ≤ 9 from Nat.le_refl _) t24 hC25 w hw; exact hcc) (fun e w1 h1 => ?_)
    obtain ⟨rfl, hw34⟩ := h1
    refine ⟨_, _, rfl, hw34, ?_⟩
    refine J.p rfl rfl rfl rfl (Y.bin rfl rfl rfl) ?_
    refine J.p rfl rfl rfl rfl (Y.mv rfl) ?_
    refine split2 H (fun c26 H => ?_) (fun c26 H => ?_)
    · refine J.as (k := 12) rfl (congrArg Value.bool (decide_eq_true c26)) ?_
      refine J.p rfl rfl rfl rfl (Y.mv rfl) ?_
      refine J.p rfl rfl rfl rfl (Y.mv rfl) ?_
      refine J.want rfl ?_
      obtain ⟨t27, hC28, H⟩ := bind_some H
      refine J.call (us := []) (cap := []) rfl rfl rfl go15 (fun w hw => by have hcc := ByTable.calls K t5 0 [49, 50, 51, 52, 53, 54, 55, 56, 57] (⟨g7, 0, none⟩ : Addr) A1 9 (RdG.cells 0 rfl) (RdG.ro_ 1 rfl) (show [49, 50, 51, 52, 53, 54, 55, 56, 57].length ≤ 9 from Nat.le_refl _) t27 hC28 w hw; exact hcc) (fun e w1 h1 => ?_)
      obtain ⟨rfl, hw33⟩ := h1
      refine ⟨_, _, rfl, hw33, ?_⟩
      refine J.p rfl rfl rfl rfl (Y.bin rfl rfl rfl) ?_
      refine J.p rfl rfl rfl rfl (Y.pickT rfl rfl) ?_
      refine J.p rfl rfl rfl rfl (Y.mv rfl) ?_
      refine split2 H (fun c29 H => ?_) (fun c29 H => ?_)
      · refine J.as (k := 18) rfl (congrArg Value.bool (decide_eq_true c29)) ?_
        refine J.p rfl rfl rfl rfl (Y.mv rfl) ?_
        refine J.p rfl rfl rfl rfl (Y.mv rfl) ?_
        refine J.want rfl ?_
        obtain ⟨t30, hC31, H⟩ := bind_some H
        refine J.call (us := []) (cap := []) rfl rfl rfl go16 (fun w hw => by have hcc := ByEight.calls K t5 0 [49, 50, 51, 52, 53, 54, 55, 56, 57] (⟨g7, 0, none⟩ : Addr) A1 9 (RdG.cells 0 rfl) (RdG.ro_ 1 rfl) (show [49, 50, 51, 52, 53, 54, 55, 56, 57].length ≤ 9 from Nat.le_refl _) t30 hC31 w hw; exact hcc) (fun e w1 h1 => ?_)
        obtain ⟨rfl, hw32⟩ := h1
        refine ⟨_, _, rfl, hw32, ?_⟩
        refine J.p rfl rfl rfl rfl (Y.bin rfl rfl rfl) ?_
        refine J.p rfl rfl rfl rfl (Y.pickT rfl rfl) ?_
        refine J.p rfl rfl rfl rfl (Y.asg rfl) ?_
        refine J.nil ?_
        obtain rfl := Option.some.inj H
        exact N.meet (decide (t30 = 3808858755), ()) ⟨HK23, trivial⟩ (by exact ⟨rfl, rfl, trivial⟩) (by exact fun w h => (St.pick [1] [_, _] h rfl))
      · refine J.as (k := 18) rfl (congrArg Value.bool (decide_eq_false c29)) ?_
        refine J.skip rfl rfl ?_
        refine J.skip rfl rfl ?_
        refine J.skip rfl rfl ?_
        refine J.skip rfl rfl ?_
        refine J.p rfl rfl rfl rfl (Y.pickF rfl rfl) ?_
        refine J.p rfl rfl rfl rfl (Y.asg rfl) ?_
        refine J.nil ?_
        obtain rfl := Option.some.inj H
        exact N.meet (false, ()) ⟨HK23, trivial⟩ (by exact ⟨rfl, rfl, trivial⟩) (by exact fun w h => (St.pick [1] [_, _] h rfl))
    · refine J.as (k := 12) rfl (congrArg Value.bool (decide_eq_false c26)) ?_
      refine J.skip rfl rfl ?_
      refine J.skip rfl rfl ?_
      refine J.skip rfl rfl ?_
      refine J.skip rfl rfl ?_
      refine J.p rfl rfl rfl rfl (Y.pickF rfl rfl) ?_
      refine J.p rfl rfl rfl rfl (Y.mv rfl) ?_
      refine J.skip rfl rfl ?_
      refine J.skip rfl rfl ?_
      refine J.skip rfl rfl ?_
      refine J.skip rfl rfl ?_
      refine J.p rfl rfl rfl rfl (Y.pickF rfl rfl) ?_
      refine J.p rfl rfl rfl rfl (Y.asg rfl) ?_
      refine J.nil ?_
      obtain rfl := Option.some.inj H
      exact N.meet (false, ()) ⟨HK23, trivial⟩ (by exact ⟨rfl, rfl, trivial⟩) (by exact fun w h => (St.pick [1] [_, _] h rfl))
  · refine C.at (s' := [(1, .slice A1 [49, 50, 51, 52, 53, 54, 55, 56, 57].length 9), (3, .bool o20)]) (G' := ro_ A1 ([49, 50, 51, 52, 53, 54, 55, 56, 57].map (Value.int .u8)) :: G) rfl rfl ?_
    refine C.seq ?_
    refine C.drawn (fuel := 11) (ls := [false, false, false, false, false, false, false, false, false, false, false]) [] (ro_ A1 ([49, 50, 51, 52, 53, 54, 55, 56, 57].map (Value.int .u8)) :: G) mx rfl rfl ?_
    refine D.p (ls' := [true, false, false, false, false, false, false, false, false, false, false]) 0 rfl rfl rfl rfl (by kernel_rfl) rfl (Y.mv rfl) ?_
    refine D.p (ls' := [true, true, false, false, false, false, false, false, false, false, false]) 1 rfl rfl rfl rfl (by kernel_rfl) rfl (Y.mv rfl) ?_
    refine split2 H (fun c35 H => ?_) (fun c35 H => ?_)
    · refine D.as (k := 25) rfl (congrArg Value.bool (c35)) ?_
      refine D.p (ls' := [true, true, true, false, false, false, false, false, false, false, false]) 2 rfl rfl rfl rfl (by kernel_rfl) rfl (Y.mv rfl) ?_
      obtain ⟨p36, H⟩ := gd_some H
      refine D.p (ls' := [true, true, true, true, false, false, false, false, false, false, false]) 3 rfl rfl rfl rfl (by kernel_rfl) rfl (Y.slcL Try.underlying26 ti5 rfl bnd.no (bnd.yes rfl p36.1) p36.2 (show [49, 50, 51, 52, 53, 54, 55, 56, 57].length ≤ 9 from Nat.le_refl _)) ?_
      refine D.p (ls' := [true, true, true, true, true, false, false, false, false, false, false]) 4 rfl rfl rfl rfl (by kernel_rfl) rfl (Y.mv rfl) ?_
      obtain ⟨p37, H⟩ := gd_some H
      refine D.p (ls' := [true, true, true, true, true, true, false, false, false, false, false]) 5 rfl rfl rfl rfl (by kernel_rfl) rfl (Y.slcL Try.underlying26 ti5 rfl (bnd.yes rfl p37.1) bnd.no p37.2 (show [49, 50, 51, 52, 53, 54, 55, 56, 57].length ≤ 9 from Nat.le_refl _)) ?_
      refine D.any [6] (by kernel_rfl) rfl ⟨?_, trivial⟩
      refine DW.j (ls' := [true, true, true, true, true, true, true, false, false, false, false]) rfl rfl ?_
      refine J.want rfl ?_
      refine J.bsV (L := [.slice (subA 1 A1 9 0) (([49, 50, 51, 52, 53, 54, 55, 56, 57].take (Int.toNat 4)).drop 0).length (9 - 0), .slice none 0 0, .slice (subA 1 A1 9 (Int.toNat 4)) (([49, 50, 51, 52, 53, 54, 55, 56, 57].take [49, 50, 51, 52, 53, 54, 55, 56, 57].length).drop (Int.toNat 4)).length (9 - (Int.toNat 4))]) rfl Try.underlying23 ti26 rfl rfl rfl rfl rfl (fun A38 => ?_)
      refine J.nil ?_
      refine D.backK 1 rfl ?_
      refine D.any [7] (by kernel_rfl) rfl ⟨?_, trivial⟩
      refine DW.j (ls' := [true, true, true, true, true, true, true, true, false, false, false]) rfl rfl ?_
      refine J.want rfl ?_
      obtain ⟨t40, hC41, H⟩ := bind_some H
      refine J.call (us := []) (cap := []) rfl rfl rfl go18 (fun w hw => by have hcc := Sum.calls K [(([49, 50, 51, 52, 53, 54, 55, 56, 57].take (Int.toNat 4)).drop 0), ([] : List Int), (([49, 50, 51, 52, 53, 54, 55, 56, 57].take [49, 50, 51, 52, 53, 54, 55, 56, 57].length).drop (Int.toNat 4))] A38 3 [.slice (subA 1 A1 9 0) (([49, 50, 51, 52, 53, 54, 55, 56, 57].take (Int.toNat 4)).drop 0).length (9 - 0), .slice none 0 0, .slice (subA 1 A1 9 (Int.toNat 4)) (([49, 50, 51, 52, 53, 54, 55, 56, 57].take [49, 50, 51, 52, 53, 54, 55, 56, 57].length).drop (Int.toNat 4)).length (9 - (Int.toNat 4))] (RdG.own 0 rfl) (VV.cons (RdG.subL (l := 0) (h := (Int.toNat 4)) (RdG.ro_ 1 rfl) (show [49, 50, 51, 52, 53, 54, 55, 56, 57].length ≤ 9 from Nat.le_refl _)) (hc_sub (show [49, 50, 51, 52, 53, 54, 55, 56, 57].length ≤ 9 from Nat.le_refl _)) (VV.cons0 (VV.cons (RdG.subL (l := (Int.toNat 4)) (h := [49, 50, 51, 52, 53, 54, 55, 56, 57].length) (RdG.ro_ 1 rfl) (show [49, 50, 51, 52, 53, 54, 55, 56, 57].length ≤ 9 from Nat.le_refl _)) (hc_sub (show [49, 50, 51, 52, 53, 54, 55, 56, 57].length ≤ 9 from Nat.le_refl _)) VV.nil))) (Nat.le_refl _) t40 hC41 w hw; exact hcc) (fun e w1 h1 => ?_)
      obtain ⟨rfl, hw42⟩ := h1
      refine ⟨_, _, rfl, hw42, ?_⟩
      refine J.nil ?_
      refine D.backK 1 rfl ?_
      refine D.p (ls' := [true, true, true, true, true, true, true, true, true, false, false]) 8 rfl rfl rfl rfl (by kernel_rfl) rfl (Y.bin rfl rfl rfl) ?_
      refine D.p (ls' := [true, true, true, true, true, true, true, true, true, true, false]) 9 rfl rfl rfl rfl (by kernel_rfl) rfl (Y.pickT rfl rfl) ?_
      refine D.p (ls' := [true, true, true, true, true, true, true, true, true, true, true]) 10 rfl rfl rfl rfl (by kernel_rfl) rfl (Y.asg rfl) ?_
      refine D.nil (by kernel_rfl) ?_
      refine N.nx ?_
      refine C.ret ?_
      obtain rfl := Option.some.inj H
      exact ret_ok (ks := [0]) rfl rfl (fun w h => ⟨rfl, (St.pick [] [_, _] h rfl)⟩)
    · refine D.as (k := 25) rfl (congrArg Value.bool (nt c35)) ?_
      refine D.off (ls' := [true, true, true, false, false, false, false, false, false, false, false]) 2 rfl rfl rfl rfl (by kernel_rfl) rfl ?_
      refine D.off (ls' := [true, true, true, true, false, false, false, false, false, false, false]) 3 rfl rfl rfl rfl (by kernel_rfl) rfl ?_
      refine D.off (ls' := [true, true, true, true, true, false, false, false, false, false, false]) 4 rfl rfl rfl rfl (by kernel_rfl) rfl ?_
      refine D.off (ls' := [true, true, true, true, true, true, false, false, false, false, false]) 5 rfl rfl rfl rfl (by kernel_rfl) rfl ?_
      refine D.off (ls' := [true, true, true, true, true, true, true, false, false, false, false]) 6 rfl rfl rfl rfl (by kernel_rfl) rfl ?_
      refine D.off (ls' := [true, true, true, true, true, true, true, true, false, false, false]) 7 rfl rfl rfl rfl (by kernel_rfl) rfl ?_
      refine D.off (ls' := [true, true, true, true, true, true, true, true, true, false, false]) 8 rfl rfl rfl rfl (by kernel_rfl) rfl ?_
      refine D.p (ls' := [true, true, true, true, true, true, true, true, true, true, false]) 9 rfl rfl rfl rfl (by kernel_rfl) rfl (Y.pickF rfl rfl) ?_
      refine D.p (ls' := [true, true, true, true, true, true, true, true, true, true, true]) 10 rfl rfl rfl rfl (by kernel_rfl) rfl (Y.asg rfl) ?_
      refine D.nil (by kernel_rfl) ?_
      refine N.nx ?_
      refine C.ret ?_
      obtain rfl := Option.some.inj H
      exact ret_ok (ks := [0]) rfl rfl (fun w h => ⟨rfl, (St.pick [] [_] h rfl)⟩)
/-! ### salvor/crc.Forge: function 20 -/
def Forge.l1 : Nat → (Int × Int) → Option (Int)
  | 0, _ => none
  | k + 1, i18 => if i18.2 < 32 then (Forge.l1 k (Sx.bits .or .u32 (Sx.shl .u32 (Sx.bits .xor .u32 i18.1 (Sx.bits .and .u32 2197175160 (IntKind.wrap .u32 (0 - (Sx.shr .u32 i18.1 31))))) 1) (Sx.shr .u32 i18.1 31), IntKind.wrap .i64 (i18.2 + 1))) else (some i18.1)
def Forge.f (K : Nat) (a0 : Int) (a1 : Int) : Option ((List Int)) := (Forge.l1 K (Sx.compl .u32 a1, 0)).bind fun o9 => some [IntKind.wrap .u8 (Sx.bits .xor .u32 o9 (Sx.compl .u32 a0)), IntKind.wrap .u8 (Sx.shr .u32 (Sx.bits .xor .u32 o9 (Sx.compl .u32 a0)) 8), IntKind.wrap .u8 (Sx.shr .u32 (Sx.bits .xor .u32 o9 (Sx.compl .u32 a0)) 16), IntKind.wrap .u8 (Sx.shr .u32 (Sx.bits .xor .u32 o9 (Sx.compl .u32 a0)) 24)]
theorem Forge.calls {B : Nat} {w0 : World} {G : List HP} (K : Nat) (a0 : Int) (a1 : Int) (r : (List Int)) (H : Forge.f K a0 a1 = some r) (w : World) (hw : St B w0 (G) w) :
    Calls Try.prog 20 [.int .u32 a0, .int .u32 a1].toArray w (fun e w' => ∃ A0 c0, e = .returned (.slice A0 r.length c0) ∧ St B w0 (own 5 1 A0 c0 (r.map (Value.int .u8)) :: G) w') := by
  unfold Forge.f at H
  refine calls_of (n := 38) (s := [(0, .int .u32 a0), (1, .int .u32 a1)]) Try.func20 rfl rfl rfl rfl ?_ hw
  refine C.rs ?_
  refine J.p rfl rfl rfl rfl (Y.asg rfl) ?_
  refine J.nx ?_
  refine C.rs ?_
  refine J.p rfl rfl rfl rfl (Y.mv rfl) ?_
  refine J.p rfl rfl rfl rfl (Y.compl rfl) ?_
  refine J.p rfl rfl rfl rfl (Y.asg rfl) ?_
  refine J.nx ?_
  refine C.seq ?_
  refine C.rs ?_
  refine J.p rfl rfl rfl rfl (Y.mv rfl) ?_
  refine J.nx ?_
  refine C.joinN H (fun (o9 : Int) (j10 : Unit) => [(0, .int .u32 a0), (5, .int .u32 o9)]) (fun (o9 : Int) (j10 : Unit) => G) (fun (o9 : Int) (j10 : Unit) => True) (fun o7 H HK8 => ?_) (fun o9 j10 H _ => ?_)
  · refine C.blk ?_
    refine C.loop (fun (i : Nat × (Int × Int) × (Unit)) => [(0, .int .u32 a0), (5, .int .u32 i.2.1.1), (9, .int .i64 i.2.1.2)]) (fun (i : Nat × (Int × Int) × (Unit)) => G) (fun (i : Nat × (Int × Int) × (Unit)) => Forge.l1 i.1 i.2.1 = some o7 ∧ (True)) (fun i => i.1) (K, (Sx.compl .u32 a1, 0), ()) ⟨H, trivial⟩ (by exact ⟨rfl, rfl, rfl, trivial⟩) (by exact fun w h => h) ?_
    rintro ⟨k21, i18, j19⟩ ⟨H, _⟩
    replace H : Forge.l1 k21 i18 = some o7 := H
    obtain ⟨k17, rfl⟩ : ∃ m, k21 = m + 1 := by cases k21 with | zero => exact absurd H (by simp [Forge.l1]) | succ m => exact ⟨m, rfl⟩
    rw [Forge.l1] at H
    refine C.at (s' := [(0, .int .u32 a0), (5, .int .u32 i18.1), (9, .int .i64 i18.2)]) (G' := G) rfl rfl ?_
    refine C.rs ?_
    refine J.p rfl rfl rfl rfl (Y.bin rfl rfl rfl) ?_
    refine J.nx ?_
    refine C.seq ?_
    refine split2 H (fun c20 H => ?_) (fun c20 H => ?_)
    · refine C.condT (congrArg (fun b => some (Value.bool b)) (decide_eq_true c20)) ?_
      refine C.skip ?_
      refine N.nx ?_
      refine C.seq ?_
      refine C.blk ?_
      refine C.rs ?_
      refine J.p rfl rfl rfl rfl (Y.mv rfl) ?_
      refine J.p rfl rfl rfl rfl (Y.shr rfl rfl (by decide)) ?_
      refine J.p rfl rfl rfl rfl (Y.asg rfl) ?_
      refine J.nx ?_
      refine C.reg ?_
      refine J.p rfl rfl rfl rfl (Y.mv rfl) ?_
      refine J.p rfl rfl rfl rfl (Y.mv rfl) ?_
      refine J.p rfl rfl rfl rfl (Y.neg rfl) ?_
      refine J.p rfl rfl rfl rfl (Y.bin rfl rfl rfl) ?_
      refine J.p rfl rfl rfl rfl (Y.bin rfl rfl rfl) ?_
      refine J.p rfl rfl rfl rfl (Y.shl rfl rfl (by decide)) ?_
      refine J.p rfl rfl rfl rfl (Y.mv rfl) ?_
      refine J.p rfl rfl rfl rfl (Y.bin rfl rfl rfl) ?_
      refine J.p rfl rfl rfl rfl (Y.asg rfl) ?_
      refine J.nil ?_
      refine N.ib ?_
      refine N.nx ?_
      refine C.reg ?_
      refine J.p rfl rfl rfl rfl (Y.bin rfl rfl rfl) ?_
      refine J.p rfl rfl rfl rfl (Y.mv rfl) ?_
      refine J.nil ?_
      exact N.again (k17, (Sx.bits .or .u32 (Sx.shl .u32 (Sx.bits .xor .u32 i18.1 (Sx.bits .and .u32 2197175160 (IntKind.wrap .u32 (0 - (Sx.shr .u32 i18.1 31))))) 1) (Sx.shr .u32 i18.1 31), IntKind.wrap .i64 (i18.2 + 1)), ()) ⟨H, trivial⟩ (Nat.lt_succ_self _) (by exact ⟨rfl, rfl, rfl, trivial⟩) (by exact fun w h => h)
    · refine C.condF (congrArg (fun b => some (Value.bool b)) (decide_eq_false c20)) ?_
      refine C.exit ?_
      refine X.th ?_
      refine X.th ?_
      refine X.hit ?_
      obtain rfl := Option.some.inj H
      exact N.meet (i18.1, ()) ⟨HK8, trivial⟩ (by exact ⟨rfl, rfl, trivial⟩) (by exact fun w h => h)
  · refine N.at (s' := [(0, .int .u32 a0), (5, .int .u32 o9)]) (G' := G) rfl rfl ?_
    refine N.nx ?_
    refine C.rs ?_
    refine J.p rfl rfl rfl rfl (Y.mv rfl) ?_
    refine J.p rfl rfl rfl rfl (Y.mv rfl) ?_
    refine J.p rfl rfl rfl rfl (Y.compl rfl) ?_
    refine J.p rfl rfl rfl rfl (Y.bin rfl rfl rfl) ?_
    refine J.p rfl rfl rfl rfl (Y.asg rfl) ?_
    refine J.nx ?_
    refine C.rs ?_
    refine J.p rfl rfl rfl rfl (Y.mv rfl) ?_
    refine J.p rfl rfl rfl rfl (Y.conv Try.underlying22 Try.underlying5 rfl) ?_
    refine J.p rfl rfl rfl rfl (Y.mv rfl) ?_
    refine J.p rfl rfl rfl rfl (Y.shr rfl rfl (by decide)) ?_
    refine J.p rfl rfl rfl rfl (Y.conv Try.underlying22 Try.underlying5 rfl) ?_
    refine J.p rfl rfl rfl rfl (Y.mv rfl) ?_
    refine J.p rfl rfl rfl rfl (Y.shr rfl rfl (by decide)) ?_
    refine J.p rfl rfl rfl rfl (Y.conv Try.underlying22 Try.underlying5 rfl) ?_
    refine J.p rfl rfl rfl rfl (Y.mv rfl) ?_
    refine J.p rfl rfl rfl rfl (Y.shr rfl rfl (by decide)) ?_
    refine J.p rfl rfl rfl rfl (Y.conv Try.underlying22 Try.underlying5 rfl) ?_
    refine J.bsL (enc := (Value.int .u8)) (xs := [IntKind.wrap .u8 (Sx.bits .xor .u32 o9 (Sx.compl .u32 a0)), IntKind.wrap .u8 (Sx.shr .u32 (Sx.bits .xor .u32 o9 (Sx.compl .u32 a0)) 8), IntKind.wrap .u8 (Sx.shr .u32 (Sx.bits .xor .u32 o9 (Sx.compl .u32 a0)) 16), IntKind.wrap .u8 (Sx.shr .u32 (Sx.bits .xor .u32 o9 (Sx.compl .u32 a0)) 24)]) rfl Try.underlying26 ti5 rfl rfl rfl rfl rfl (fun A22 => ?_)
    refine J.p rfl rfl rfl rfl (Y.asg rfl) ?_
    refine J.nx ?_
    refine C.ret ?_
    obtain rfl := Option.some.inj H
    exact ret_ok (ks := [4]) rfl rfl (fun w h => ⟨A22, 4, rfl, h⟩)
/-! ### salvor/salvorref1.Turned: function 23 -/
def Turned.l1 : Nat → (Int × Int × Int) → Option (Int)
  | 0, _ => none
  | k + 1, i18 => if i18.2.2 < 32 then (Turned.l1 k (IntKind.wrap .u32 (Int.tdiv i18.1 2), IntKind.wrap .u32 ((IntKind.wrap .u32 (2 * i18.2.1)) + (Int.tmod i18.1 2)), IntKind.wrap .i64 (i18.2.2 + 1))) else (some i18.2.1)
def Turned.f (K : Nat) (a0 : Int) : Option (Int) := (Turned.l1 K (a0, 0, 0)).bind fun o9 => some o9
theorem Turned.calls {B : Nat} {w0 : World} {G : List HP} (K : Nat) (a0 : Int) (r : Int) (H : Turned.f K a0 = some r) (w : World) (hw : St B w0 (G) w) :
    Calls Try.prog 23 [.int .u32 a0].toArray w (fun e w' => e = .returned (.int .u32 r) ∧ St B w0 (G) w') := by
  unfold Turned.f at H
  refine calls_of (n := 17) (s := [(0, .int .u32 a0)]) Try.func23 rfl rfl rfl rfl ?_ hw
  refine C.rs ?_
  refine J.p rfl rfl rfl rfl (Y.asg rfl) ?_
  refine J.nx ?_
  refine C.rs ?_
  refine J.p rfl rfl rfl rfl (Y.asg rfl) ?_
  refine J.nx ?_
  refine C.seq ?_
  refine C.rs ?_
  refine J.p rfl rfl rfl rfl (Y.asg rfl) ?_
  refine J.nx ?_
  refine C.joinN H (fun (o9 : Int) (j10 : Unit) => [(3, .int .u32 o9)]) (fun (o9 : Int) (j10 : Unit) => G) (fun (o9 : Int) (j10 : Unit) => True) (fun o7 H HK8 => ?_) (fun o9 j10 H _ => ?_)
  · refine C.blk ?_
    refine C.loop (fun (i : Nat × (Int × Int × Int) × (Unit)) => [(0, .int .u32 i.2.1.1), (3, .int .u32 i.2.1.2.1), (4, .int .i64 i.2.1.2.2)]) (fun (i : Nat × (Int × Int × Int) × (Unit)) => G) (fun (i : Nat × (Int × Int × Int) × (Unit)) => Turned.l1 i.1 i.2.1 = some o7 ∧ (True)) (fun i => i.1) (K, (a0, 0, 0), ()) ⟨H, trivial⟩ (by exact ⟨rfl, rfl, rfl, trivial⟩) (by exact fun w h => h) ?_
    rintro ⟨k21, i18, j19⟩ ⟨H, _⟩
    replace H : Turned.l1 k21 i18 = some o7 := H
    obtain ⟨k17, rfl⟩ : ∃ m, k21 = m + 1 := by cases k21 with | zero => exact absurd H (by simp [Turned.l1]) | succ m => exact ⟨m, rfl⟩
    rw [Turned.l1] at H
    refine C.at (s' := [(0, .int .u32 i18.1), (3, .int .u32 i18.2.1), (4, .int .i64 i18.2.2)]) (G' := G) rfl rfl ?_
    refine C.seq ?_
    refine C.rs ?_
    refine J.p rfl rfl rfl rfl (Y.mv rfl) ?_
    refine J.p rfl rfl rfl rfl (Y.bin rfl rfl rfl) ?_
    refine J.nx ?_
    refine split2 H (fun c20 H => ?_) (fun c20 H => ?_)
    · refine C.condT (congrArg (fun b => some (Value.bool b)) (decide_eq_true c20)) ?_
      refine C.skip ?_
      refine N.nx ?_
      refine C.seq ?_
      refine C.blk ?_
      refine C.rs ?_
      refine J.p rfl rfl rfl rfl (Y.mv rfl) ?_
      refine J.p rfl rfl rfl rfl (Y.bin rfl rfl rfl) ?_
      refine J.p rfl rfl rfl rfl (Y.mv rfl) ?_
      refine J.p rfl rfl rfl rfl (Y.rem rfl rfl (by decide)) ?_
      refine J.p rfl rfl rfl rfl (Y.bin rfl rfl rfl) ?_
      refine J.p rfl rfl rfl rfl (Y.asg rfl) ?_
      refine J.nx ?_
      refine C.reg ?_
      refine J.p rfl rfl rfl rfl (Y.mv rfl) ?_
      refine J.p rfl rfl rfl rfl (Y.quo rfl rfl (by decide)) ?_
      refine J.p rfl rfl rfl rfl (Y.asg rfl) ?_
      refine J.nil ?_
      refine N.ib ?_
      refine N.nx ?_
      refine C.reg ?_
      refine J.p rfl rfl rfl rfl (Y.mv rfl) ?_
      refine J.p rfl rfl rfl rfl (Y.bin rfl rfl rfl) ?_
      refine J.p rfl rfl rfl rfl (Y.asg rfl) ?_
      refine J.nil ?_
      exact N.again (k17, (IntKind.wrap .u32 (Int.tdiv i18.1 2), IntKind.wrap .u32 ((IntKind.wrap .u32 (2 * i18.2.1)) + (Int.tmod i18.1 2)), IntKind.wrap .i64 (i18.2.2 + 1)), ()) ⟨H, trivial⟩ (Nat.lt_succ_self _) (by exact ⟨rfl, rfl, rfl, trivial⟩) (by exact fun w h => h)
    · refine C.condF (congrArg (fun b => some (Value.bool b)) (decide_eq_false c20)) ?_
      refine C.exit ?_
      refine X.th ?_
      refine X.th ?_
      refine X.hit ?_
      obtain rfl := Option.some.inj H
      exact N.meet (i18.2.1, ()) ⟨HK8, trivial⟩ (by exact ⟨rfl, trivial⟩) (by exact fun w h => h)
  · refine N.at (s' := [(3, .int .u32 o9)]) (G' := G) rfl rfl ?_
    refine N.nx ?_
    refine C.rs ?_
    refine J.p rfl rfl rfl rfl (Y.mv rfl) ?_
    refine J.p rfl rfl rfl rfl (Y.asg rfl) ?_
    refine J.nx ?_
    refine C.ret ?_
    obtain rfl := Option.some.inj H
    exact ret_ok (ks := [2]) rfl rfl (fun w h => ⟨rfl, h⟩)
/-! ### salvor/salvorref1.step: function 22 -/
def step.f (a0 : Int) (a1 : Int) : Option (Int) := if 2147483648 ≤ a0 then (some (Sx.bits .xor .u32 (IntKind.wrap .u32 ((IntKind.wrap .u32 (2 * a0)) + a1)) 517762881)) else (some (IntKind.wrap .u32 ((IntKind.wrap .u32 (2 * a0)) + a1)))
theorem step.calls {B : Nat} {w0 : World} {G : List HP} (a0 : Int) (a1 : Int) (r : Int) (H : step.f a0 a1 = some r) (w : World) (hw : St B w0 (G) w) :
    Calls Try.prog 22 [.int .u32 a0, .int .u32 a1].toArray w (fun e w' => e = .returned (.int .u32 r) ∧ St B w0 (G) w') := by
  unfold step.f at H
  refine calls_of (n := 16) (s := [(0, .int .u32 a0), (1, .int .u32 a1)]) Try.func22 rfl rfl rfl rfl ?_ hw
  refine C.rs ?_
  refine J.p rfl rfl rfl rfl (Y.asg rfl) ?_
  refine J.nx ?_
  refine C.rs ?_
  refine J.p rfl rfl rfl rfl (Y.mv rfl) ?_
  refine J.p rfl rfl rfl rfl (Y.bin rfl rfl rfl) ?_
  refine J.p rfl rfl rfl rfl (Y.asg rfl) ?_
  refine J.nx ?_
  refine C.rs ?_
  refine J.p rfl rfl rfl rfl (Y.mv rfl) ?_
  refine J.p rfl rfl rfl rfl (Y.bin rfl rfl rfl) ?_
  refine J.p rfl rfl rfl rfl (Y.mv rfl) ?_
  refine J.p rfl rfl rfl rfl (Y.bin rfl rfl rfl) ?_
  refine J.p rfl rfl rfl rfl (Y.asg rfl) ?_
  refine J.nx ?_
  refine C.seq ?_
  refine C.rs ?_
  refine J.p rfl rfl rfl rfl (Y.mv rfl) ?_
  refine J.nx ?_
  refine split2 H (fun c1 H => ?_) (fun c1 H => ?_)
  · refine C.condT (congrArg (fun b => some (Value.bool b)) (decide_eq_true c1)) ?_
    refine C.reg ?_
    refine J.p rfl rfl rfl rfl (Y.mv rfl) ?_
    refine J.p rfl rfl rfl rfl (Y.bin rfl rfl rfl) ?_
    refine J.p rfl rfl rfl rfl (Y.asg rfl) ?_
    refine J.nx ?_
    refine C.rs ?_
    refine J.p rfl rfl rfl rfl (Y.mv rfl) ?_
    refine J.p rfl rfl rfl rfl (Y.asg rfl) ?_
    refine J.nx ?_
    refine C.ret ?_
    obtain rfl := Option.some.inj H
    exact ret_ok (ks := [4]) rfl rfl (fun w h => ⟨rfl, h⟩)
  · refine C.condF (congrArg (fun b => some (Value.bool b)) (decide_eq_false c1)) ?_
    refine C.skip ?_
    refine N.nx ?_
    refine C.rs ?_
    refine J.p rfl rfl rfl rfl (Y.mv rfl) ?_
    refine J.p rfl rfl rfl rfl (Y.asg rfl) ?_
    refine J.nx ?_
    refine C.ret ?_
    obtain rfl := Option.some.inj H
    exact ret_ok (ks := [4]) rfl rfl (fun w h => ⟨rfl, h⟩)
/-! ### salvor/salvorref1.bit: function 21 -/
def bit.f (a0 : List Int) (a1 : Int) : Option (Int) := if (a0.length : Int) ≤ (IntKind.wrap .i64 (Int.tdiv a1 8)) then (some 0) else (gd ((0 : Int) ≤ (IntKind.wrap .i64 (Int.tdiv a1 8)) ∧ (IntKind.wrap .i64 (Int.tdiv a1 8)) < (a0.length : Int)) (gd ((0 : Int) ≤ (Int.tmod a1 8)) (some (Int.tmod (IntKind.wrap .u32 (Sx.shr .u8 (rd a0 (IntKind.wrap .i64 (Int.tdiv a1 8))) (Int.tmod a1 8))) 2))))
theorem bit.calls {B : Nat} {w0 : World} {G : List HP} (a0 : List Int) (a1 : Int) (Aa0 : Option Addr) (ca0 : Nat) (ha0 : RdG B w0 G Aa0 (a0.map (Value.int .u8))) (ka0 : a0.length ≤ ca0) (r : Int) (H : bit.f a0 a1 = some r) (w : World) (hw : St B w0 (G) w) :
    Calls Try.prog 21 [.slice Aa0 a0.length ca0, .int .i64 a1].toArray w (fun e w' => e = .returned (.int .u32 r) ∧ St B w0 (G) w') := by
  unfold bit.f at H
  refine calls_of (n := 20) (s := [(0, .slice Aa0 a0.length ca0), (1, .int .i64 a1)]) Try.func21 rfl rfl rfl rfl ?_ hw
  refine C.rs ?_
  refine J.p rfl rfl rfl rfl (Y.asg rfl) ?_
  refine J.nx ?_
  refine C.seq ?_
  refine C.rs ?_
  refine J.p rfl rfl rfl rfl (Y.mv rfl) ?_
  refine J.p rfl rfl rfl rfl (Y.quo rfl rfl (by decide)) ?_
  refine J.p rfl rfl rfl rfl (Y.mv rfl) ?_
  refine J.p rfl rfl rfl rfl (Y.lenS Try.underlying26 rfl) ?_
  refine J.p rfl rfl rfl rfl (Y.bin rfl rfl rfl) ?_
  refine J.nx ?_
  refine split2 H (fun c1 H => ?_) (fun c1 H => ?_)
  · refine C.condT (congrArg (fun b => some (Value.bool b)) (decide_eq_true c1)) ?_
    refine C.rs ?_
    refine J.p rfl rfl rfl rfl (Y.asg rfl) ?_
    refine J.nx ?_
    refine C.ret ?_
    obtain rfl := Option.some.inj H
    refine T.th ?_
    exact ret_ok (ks := [4]) rfl rfl (fun w h => ⟨rfl, h⟩)
  · refine C.condF (congrArg (fun b => some (Value.bool b)) (decide_eq_false c1)) ?_
    refine C.skip ?_
    refine N.nx ?_
    refine C.rs ?_
    refine J.p rfl rfl rfl rfl (Y.mv rfl) ?_
    refine J.p rfl rfl rfl rfl (Y.mv rfl) ?_
    refine J.p rfl rfl rfl rfl (Y.quo rfl rfl (by decide)) ?_
    obtain ⟨p2, H⟩ := gd_some H
    refine J.el rfl rfl rfl Try.underlying26 ti5 Try.underlying5 rfl rfl rfl p2 ha0 ?_
    refine J.p rfl rfl rfl rfl (Y.mv rfl) ?_
    refine J.p rfl rfl rfl rfl (Y.rem rfl rfl (by decide)) ?_
    obtain ⟨p3, H⟩ := gd_some H
    refine J.p rfl rfl rfl rfl (Y.shr rfl rfl p3) ?_
    refine J.p rfl rfl rfl rfl (Y.conv Try.underlying5 Try.underlying22 rfl) ?_
    refine J.p rfl rfl rfl rfl (Y.rem rfl rfl (by decide)) ?_
    refine J.p rfl rfl rfl rfl (Y.asg rfl) ?_
    refine J.nx ?_
    refine C.ret ?_
    obtain rfl := Option.some.inj H
    exact ret_ok (ks := [4]) rfl rfl (fun w h => ⟨rfl, h⟩)
/-! ### salvor/salvorref1.GoOn: function 11 -/
def GoOn.l1 (a1 : List Int) (a0 : Int) : Nat → (Int × Int) → Option (Int)
  | 0, _ => none
  | k + 1, i69 => if i69.2 < (IntKind.wrap .i64 ((IntKind.wrap .i64 (8 * (a1.length : Int))) + 32)) then (((bit.f a1 i69.2).bind fun t87 => if i69.2 < 32 then (gd ((0 : Int) ≤ i69.2) ((step.f i69.1 (Sx.bits .xor .u32 t87 (Int.tmod (Sx.shr .u32 (Sx.compl .u32 a0) i69.2) 2))).bind fun t91 => some t91)) else ((step.f i69.1 t87).bind fun t94 => some t94)).bind fun o85 => GoOn.l1 a1 a0 k (o85, IntKind.wrap .i64 (i69.2 + 1))) else (some i69.1)
def GoOn.f (K : Nat) (a0 : Int) (a1 : List Int) : Option (Int) := (GoOn.l1 a1 a0 K (0, 0)).bind fun o35 => (Turned.f K o35).bind fun t99 => some (Sx.compl .u32 t99)
theorem GoOn.calls {B : Nat} {w0 : World} {G : List HP} (K : Nat) (a0 : Int) (a1 : List Int) (Aa1 : Option Addr) (ca1 : Nat) (ha1 : RdG B w0 G Aa1 (a1.map (Value.int .u8))) (ka1 : a1.length ≤ ca1) (r : Int) (H : GoOn.f K a0 a1 = some r) (w : World) (hw : St B w0 (G) w) :
    Calls Try.prog 11 [.int .u32 a0, .slice Aa1 a1.length ca1].toArray w (fun e w' => e = .returned (.int .u32 r) ∧ St B w0 (G) w') := by
  unfold GoOn.f at H
  refine calls_of (n := 36) (s := [(0, .int .u32 a0), (1, .slice Aa1 a1.length ca1)]) Try.func11 rfl rfl rfl rfl ?_ hw
  refine C.rs ?_
  refine J.p rfl rfl rfl rfl (Y.asg rfl) ?_
  refine J.nx ?_
  refine C.rs ?_
  refine J.p rfl rfl rfl rfl (Y.mv rfl) ?_
  refine J.p rfl rfl rfl rfl (Y.compl rfl) ?_
  refine J.p rfl rfl rfl rfl (Y.asg rfl) ?_
  refine J.nx ?_
  refine C.rs ?_
  refine J.p rfl rfl rfl rfl (Y.asg rfl) ?_
  refine J.nx ?_
  refine C.seq ?_
  refine C.rs ?_
  refine J.p rfl rfl rfl rfl (Y.asg rfl) ?_
  refine J.nx ?_
  refine C.joinN H (fun (o35 : Int) (j36 : Unit) => [(6, .int .u32 o35)]) (fun (o35 : Int) (j36 : Unit) => G) (fun (o35 : Int) (j36 : Unit) => True) (fun o33 H HK34 => ?_) (fun o35 j36 H _ => ?_)
  · refine C.blk ?_
    refine C.loop (fun (i : Nat × (Int × Int) × (Unit)) => [(1, .slice Aa1 a1.length ca1), (5, .int .u32 (Sx.compl .u32 a0)), (6, .int .u32 i.2.1.1), (7, .int .i64 i.2.1.2)]) (fun (i : Nat × (Int × Int) × (Unit)) => G) (fun (i : Nat × (Int × Int) × (Unit)) => GoOn.l1 a1 a0 i.1 i.2.1 = some o33 ∧ (True)) (fun i => i.1) (K, (0, 0), ()) ⟨H, trivial⟩ (by exact ⟨rfl, rfl, rfl, rfl, trivial⟩) (by exact fun w h => h) ?_
    rintro ⟨k98, i69, j70⟩ ⟨H, _⟩
    replace H : GoOn.l1 a1 a0 k98 i69 = some o33 := H
    obtain ⟨k68, rfl⟩ : ∃ m, k98 = m + 1 := by cases k98 with | zero => exact absurd H (by simp [GoOn.l1]) | succ m => exact ⟨m, rfl⟩
    rw [GoOn.l1] at H
    refine C.at (s' := [(1, .slice Aa1 a1.length ca1), (5, .int .u32 (Sx.compl .u32 a0)), (6, .int .u32 i69.1), (7, .int .i64 i69.2)]) (G' := G) rfl rfl ?_
    refine C.seq ?_
    refine C.rs ?_
    refine J.p rfl rfl rfl rfl (Y.mv rfl) ?_
    refine J.p rfl rfl rfl rfl (Y.mv rfl) ?_
    refine J.p rfl rfl rfl rfl (Y.lenS Try.underlying26 rfl) ?_
    refine J.p rfl rfl rfl rfl (Y.bin rfl rfl rfl) ?_
    refine J.p rfl rfl rfl rfl (Y.bin rfl rfl rfl) ?_
    refine J.p rfl rfl rfl rfl (Y.bin rfl rfl rfl) ?_
    refine J.nx ?_
    refine split2 H (fun c71 H => ?_) (fun c71 H => ?_)
    · refine C.condT (congrArg (fun b => some (Value.bool b)) (decide_eq_true c71)) ?_
      refine C.skip ?_
      refine N.nx ?_
      refine C.joinB H (fun (o85 : Int) (j86 : Unit) => [(1, .slice Aa1 a1.length ca1), (5, .int .u32 (Sx.compl .u32 a0)), (6, .int .u32 o85), (7, .int .i64 i69.2)]) (fun (o85 : Int) (j86 : Unit) => G) (fun (o85 : Int) (j86 : Unit) => True) (fun o83 H HK84 => ?_) (fun o85 j86 H _ => ?_)
      · refine C.blk ?_
        refine C.rs ?_
        refine J.p rfl rfl rfl rfl (Y.mv rfl) ?_
        refine J.p rfl rfl rfl rfl (Y.mv rfl) ?_
        obtain ⟨t87, hC88, H⟩ := bind_some H
        refine J.call (us := []) (cap := []) rfl rfl rfl go21 (fun w hw => by have hcc := bit.calls a1 i69.2 Aa1 ca1 ha1 ka1 t87 hC88 w hw; exact hcc) (fun e w1 h1 => ?_)
        obtain ⟨rfl, hw97⟩ := h1
        refine ⟨_, _, rfl, hw97, ?_⟩
        refine J.p rfl rfl rfl rfl (Y.asg rfl) ?_
        refine J.nx ?_
        refine C.seq ?_
        refine C.rs ?_
        refine J.p rfl rfl rfl rfl (Y.mv rfl) ?_
        refine J.p rfl rfl rfl rfl (Y.bin rfl rfl rfl) ?_
        refine J.nx ?_
        refine split2 H (fun c89 H => ?_) (fun c89 H => ?_)
        · refine C.condT (congrArg (fun b => some (Value.bool b)) (decide_eq_true c89)) ?_
          refine C.reg ?_
          refine J.p rfl rfl rfl rfl (Y.mv rfl) ?_
          refine J.p rfl rfl rfl rfl (Y.mv rfl) ?_
          refine J.p rfl rfl rfl rfl (Y.mv rfl) ?_
          obtain ⟨p90, H⟩ := gd_some H
          refine J.p rfl rfl rfl rfl (Y.shr rfl rfl p90) ?_
          refine J.p rfl rfl rfl rfl (Y.rem rfl rfl (by decide)) ?_
          refine J.p rfl rfl rfl rfl (Y.bin rfl rfl rfl) ?_
          refine J.p rfl rfl rfl rfl (Y.asg rfl) ?_
          refine J.nx ?_
          refine C.reg ?_
          refine J.p rfl rfl rfl rfl (Y.mv rfl) ?_
          refine J.p rfl rfl rfl rfl (Y.mv rfl) ?_
          obtain ⟨t91, hC92, H⟩ := bind_some H
          refine J.call (us := []) (cap := []) rfl rfl rfl go22 (fun w hw => by have hcc := step.calls i69.1 (Sx.bits .xor .u32 t87 (Int.tmod (Sx.shr .u32 (Sx.compl .u32 a0) i69.2) 2)) t91 hC92 w hw; exact hcc) (fun e w1 h1 => ?_)
          obtain ⟨rfl, hw93⟩ := h1
          refine ⟨_, _, rfl, hw93, ?_⟩
          refine J.p rfl rfl rfl rfl (Y.asg rfl) ?_
          refine J.nil ?_
          refine N.ib ?_
          obtain rfl := Option.some.inj H
          exact N.meet (t91, ()) ⟨HK84, trivial⟩ (by exact ⟨rfl, rfl, rfl, rfl, trivial⟩) (by exact fun w h => h)
        · refine C.condF (congrArg (fun b => some (Value.bool b)) (decide_eq_false c89)) ?_
          refine C.skip ?_
          refine N.nx ?_
          refine C.reg ?_
          refine J.p rfl rfl rfl rfl (Y.mv rfl) ?_
          refine J.p rfl rfl rfl rfl (Y.mv rfl) ?_
          obtain ⟨t94, hC95, H⟩ := bind_some H
          refine J.call (us := []) (cap := []) rfl rfl rfl go22 (fun w hw => by have hcc := step.calls i69.1 t87 t94 hC95 w hw; exact hcc) (fun e w1 h1 => ?_)
          obtain ⟨rfl, hw96⟩ := h1
          refine ⟨_, _, rfl, hw96, ?_⟩
          refine J.p rfl rfl rfl rfl (Y.asg rfl) ?_
          refine J.nil ?_
          refine N.ib ?_
          obtain rfl := Option.some.inj H
          exact N.meet (t94, ()) ⟨HK84, trivial⟩ (by exact ⟨rfl, rfl, rfl, rfl, trivial⟩) (by exact fun w h => h)
      · refine C.at (s' := [(1, .slice Aa1 a1.length ca1), (5, .int .u32 (Sx.compl .u32 a0)), (6, .int .u32 o85), (7, .int .i64 i69.2)]) (G' := G) rfl rfl ?_
        refine C.reg ?_
        refine J.p rfl rfl rfl rfl (Y.mv rfl) ?_
        refine J.p rfl rfl rfl rfl (Y.bin rfl rfl rfl) ?_
        refine J.p rfl rfl rfl rfl (Y.asg rfl) ?_
        refine J.nil ?_
        exact N.again (k68, (o85, IntKind.wrap .i64 (i69.2 + 1)), ()) ⟨H, trivial⟩ (Nat.lt_succ_self _) (by exact ⟨rfl, rfl, rfl, rfl, trivial⟩) (by exact fun w h => h)
    · refine C.condF (congrArg (fun b => some (Value.bool b)) (decide_eq_false c71)) ?_
      refine C.exit ?_
      refine X.th ?_
      refine X.th ?_
      refine X.hit ?_
      obtain rfl := Option.some.inj H
      exact N.meet (i69.1, ()) ⟨HK34, trivial⟩ (by exact ⟨rfl, trivial⟩) (by exact fun w h => h)
  · refine N.at (s' := [(6, .int .u32 o35)]) (G' := G) rfl rfl ?_
    refine N.nx ?_
    refine C.rs ?_
    refine J.p rfl rfl rfl rfl (Y.mv rfl) ?_
    obtain ⟨t99, hC100, H⟩ := bind_some H
    refine J.call (us := []) (cap := []) rfl rfl rfl go23 (fun w hw => by have hcc := Turned.calls K o35 t99 hC100 w hw; exact hcc) (fun e w1 h1 => ?_)
    obtain ⟨rfl, hw101⟩ := h1
    refine ⟨_, _, rfl, hw101, ?_⟩
    refine J.p rfl rfl rfl rfl (Y.compl rfl) ?_
    refine J.p rfl rfl rfl rfl (Y.asg rfl) ?_
    refine J.nx ?_
    refine C.ret ?_
    obtain rfl := Option.some.inj H
    exact ret_ok (ks := [4]) rfl rfl (fun w h => ⟨rfl, h⟩)
/-! ### salvor/salvorref1.Forge: function 19 -/
def refForge.l1 : Nat → (Int × Int) → Option (Int)
  | 0, _ => none
  | k + 1, i33 => if i33.2 < 32 then ((if (Int.tmod i33.1 2) = 1 then (some (IntKind.wrap .u32 ((IntKind.wrap .u32 (Int.tdiv (Sx.bits .xor .u32 i33.1 517762881) 2)) + 2147483648))) else (some (IntKind.wrap .u32 (Int.tdiv i33.1 2)))).bind fun o39 => refForge.l1 k (o39, IntKind.wrap .i64 (i33.2 + 1))) else (some i33.1)
def refForge.l2 : Nat → (Int × (List Int) × Int) → Option ((List Int))
  | 0, _ => none
  | k + 1, i84 => if i84.2.2 < 4 then (gd ((0 : Int) ≤ i84.2.2 ∧ i84.2.2 < (i84.2.1.length : Int)) (gd ((0 : Int) ≤ i84.2.2 ∧ i84.2.2 < (i84.2.1.length : Int)) (refForge.l2 k (IntKind.wrap .u32 (Int.tdiv i84.1 256), (i84.2.1.set (Int.toNat i84.2.2) (IntKind.wrap .u8 (Int.tmod i84.1 256))), IntKind.wrap .i64 (i84.2.2 + 1))))) else (some i84.2.1)
def refForge.f (K : Nat) (a0 : Int) (a1 : Int) : Option ((List Int)) := (Turned.f K (Sx.compl .u32 a1)).bind fun t1 => (refForge.l1 K (t1, 0)).bind fun o17 => (Turned.f K o17).bind fun t43 => gd ((0 : Int) ≤ 4 ∧ (4 : Int) ≤ 4 ∧ ((1 : Nat) : Int) * 4 ≤ 281474976710656) ((refForge.l2 K (Sx.bits .xor .u32 t43 (Sx.compl .u32 a0), (List.replicate (Int.toNat 4) (0 : Int)), 0)).bind fun o65 => some o65)
theorem refForge.calls {B : Nat} {w0 : World} {G : List HP} (K : Nat) (a0 : Int) (a1 : Int) (r : (List Int)) (H : refForge.f K a0 a1 = some r) (w : World) (hw : St B w0 (G) w) :
    Calls Try.prog 19 [.int .u32 a0, .int .u32 a1].toArray w (fun e w' => ∃ A0 c0, e = .returned (.slice A0 r.length c0) ∧ St B w0 (own 5 1 A0 c0 (r.map (Value.int .u8)) :: G) w') := by
  unfold refForge.f at H
  refine calls_of (n := 46) (s := [(0, .int .u32 a0), (1, .int .u32 a1)]) Try.func19 rfl rfl rfl rfl ?_ hw
  refine C.rs ?_
  refine J.p rfl rfl rfl rfl (Y.asg rfl) ?_
  refine J.nx ?_
  refine C.rs ?_
  refine J.p rfl rfl rfl rfl (Y.mv rfl) ?_
  refine J.p rfl rfl rfl rfl (Y.compl rfl) ?_
  obtain ⟨t1, hC2, H⟩ := bind_some H
  refine J.call (us := []) (cap := []) rfl rfl rfl go23 (fun w hw => by have hcc := Turned.calls K (Sx.compl .u32 a1) t1 hC2 w hw; exact hcc) (fun e w1 h1 => ?_)
  obtain ⟨rfl, hw94⟩ := h1
  refine ⟨_, _, rfl, hw94, ?_⟩
  refine J.p rfl rfl rfl rfl (Y.asg rfl) ?_
  refine J.nx ?_
  refine C.seq ?_
  refine C.rs ?_
  refine J.p rfl rfl rfl rfl (Y.asg rfl) ?_
  refine J.nx ?_
  refine C.joinN H (fun (o17 : Int) (j18 : Unit) => [(0, .int .u32 a0), (5, .int .u32 o17)]) (fun (o17 : Int) (j18 : Unit) => G) (fun (o17 : Int) (j18 : Unit) => True) (fun o15 H HK16 => ?_) (fun o17 j18 H _ => ?_)
  · refine C.blk ?_
    refine C.loop (fun (i : Nat × (Int × Int) × (Unit)) => [(0, .int .u32 a0), (5, .int .u32 i.2.1.1), (6, .int .i64 i.2.1.2)]) (fun (i : Nat × (Int × Int) × (Unit)) => G) (fun (i : Nat × (Int × Int) × (Unit)) => refForge.l1 i.1 i.2.1 = some o15 ∧ (True)) (fun i => i.1) (K, (t1, 0), ()) ⟨H, trivial⟩ (by exact ⟨rfl, rfl, rfl, trivial⟩) (by exact fun w h => h) ?_
    rintro ⟨k42, i33, j34⟩ ⟨H, _⟩
    replace H : refForge.l1 k42 i33 = some o15 := H
    obtain ⟨k31, rfl⟩ : ∃ m, k42 = m + 1 := by cases k42 with | zero => exact absurd H (by simp [refForge.l1]) | succ m => exact ⟨m, rfl⟩
    rw [refForge.l1] at H
    refine C.at (s' := [(0, .int .u32 a0), (5, .int .u32 i33.1), (6, .int .i64 i33.2)]) (G' := G) rfl rfl ?_
    refine C.seq ?_
    refine C.rs ?_
    refine J.p rfl rfl rfl rfl (Y.mv rfl) ?_
    refine J.p rfl rfl rfl rfl (Y.bin rfl rfl rfl) ?_
    refine J.nx ?_
    refine split2 H (fun c35 H => ?_) (fun c35 H => ?_)
    · refine C.condT (congrArg (fun b => some (Value.bool b)) (decide_eq_true c35)) ?_
      refine C.skip ?_
      refine N.nx ?_
      refine C.joinB H (fun (o39 : Int) (j40 : Unit) => [(0, .int .u32 a0), (5, .int .u32 o39), (6, .int .i64 i33.2)]) (fun (o39 : Int) (j40 : Unit) => G) (fun (o39 : Int) (j40 : Unit) => True) (fun o37 H HK38 => ?_) (fun o39 j40 H _ => ?_)
      · refine C.blk ?_
        refine C.rs ?_
        refine J.p rfl rfl rfl rfl (Y.mv rfl) ?_
        refine J.p rfl rfl rfl rfl (Y.rem rfl rfl (by decide)) ?_
        refine J.p rfl rfl rfl rfl (Y.bin rfl rfl rfl) ?_
        refine J.nx ?_
        refine split2 H (fun c41 H => ?_) (fun c41 H => ?_)
        · refine C.condT (congrArg (fun b => some (Value.bool b)) (decide_eq_true c41)) ?_
          refine C.rs ?_
          refine J.p rfl rfl rfl rfl (Y.mv rfl) ?_
          refine J.p rfl rfl rfl rfl (Y.bin rfl rfl rfl) ?_
          refine J.p rfl rfl rfl rfl (Y.asg rfl) ?_
          refine J.nx ?_
          refine C.reg ?_
          refine J.p rfl rfl rfl rfl (Y.mv rfl) ?_
          refine J.p rfl rfl rfl rfl (Y.quo rfl rfl (by decide)) ?_
          refine J.p rfl rfl rfl rfl (Y.bin rfl rfl rfl) ?_
          refine J.p rfl rfl rfl rfl (Y.asg rfl) ?_
          refine J.nil ?_
          refine N.ib ?_
          obtain rfl := Option.some.inj H
          exact N.meet (IntKind.wrap .u32 ((IntKind.wrap .u32 (Int.tdiv (Sx.bits .xor .u32 i33.1 517762881) 2)) + 2147483648), ()) ⟨HK38, trivial⟩ (by exact ⟨rfl, rfl, rfl, trivial⟩) (by exact fun w h => h)
        · refine C.condF (congrArg (fun b => some (Value.bool b)) (decide_eq_false c41)) ?_
          refine C.reg ?_
          refine J.p rfl rfl rfl rfl (Y.mv rfl) ?_
          refine J.p rfl rfl rfl rfl (Y.quo rfl rfl (by decide)) ?_
          refine J.p rfl rfl rfl rfl (Y.asg rfl) ?_
          refine J.nil ?_
          refine N.ib ?_
          obtain rfl := Option.some.inj H
          exact N.meet (IntKind.wrap .u32 (Int.tdiv i33.1 2), ()) ⟨HK38, trivial⟩ (by exact ⟨rfl, rfl, rfl, trivial⟩) (by exact fun w h => h)
      · refine C.at (s' := [(0, .int .u32 a0), (5, .int .u32 o39), (6, .int .i64 i33.2)]) (G' := G) rfl rfl ?_
        refine C.reg ?_
        refine J.p rfl rfl rfl rfl (Y.mv rfl) ?_
        refine J.p rfl rfl rfl rfl (Y.bin rfl rfl rfl) ?_
        refine J.p rfl rfl rfl rfl (Y.asg rfl) ?_
        refine J.nil ?_
        exact N.again (k31, (o39, IntKind.wrap .i64 (i33.2 + 1)), ()) ⟨H, trivial⟩ (Nat.lt_succ_self _) (by exact ⟨rfl, rfl, rfl, trivial⟩) (by exact fun w h => h)
    · refine C.condF (congrArg (fun b => some (Value.bool b)) (decide_eq_false c35)) ?_
      refine C.exit ?_
      refine X.th ?_
      refine X.th ?_
      refine X.hit ?_
      obtain rfl := Option.some.inj H
      exact N.meet (i33.1, ()) ⟨HK16, trivial⟩ (by exact ⟨rfl, rfl, trivial⟩) (by exact fun w h => h)
  · refine N.at (s' := [(0, .int .u32 a0), (5, .int .u32 o17)]) (G' := G) rfl rfl ?_
    refine N.nx ?_
    refine C.rs ?_
    refine J.p rfl rfl rfl rfl (Y.mv rfl) ?_
    obtain ⟨t43, hC44, H⟩ := bind_some H
    refine J.call (us := []) (cap := []) rfl rfl rfl go23 (fun w hw => by have hcc := Turned.calls K o17 t43 hC44 w hw; exact hcc) (fun e w1 h1 => ?_)
    obtain ⟨rfl, hw93⟩ := h1
    refine ⟨_, _, rfl, hw93, ?_⟩
    refine J.p rfl rfl rfl rfl (Y.mv rfl) ?_
    refine J.p rfl rfl rfl rfl (Y.compl rfl) ?_
    refine J.p rfl rfl rfl rfl (Y.bin rfl rfl rfl) ?_
    refine J.p rfl rfl rfl rfl (Y.asg rfl) ?_
    refine J.nx ?_
    refine C.rs ?_
    obtain ⟨p46, H⟩ := gd_some H
    refine J.mkL (enc := (Value.int .u8)) (z := 0) rfl Try.underlying26 ti5 rfl rfl rfl p46 (by decide) (fun A45 => ?_)
    refine J.p rfl rfl rfl rfl (Y.asg rfl) ?_
    refine J.nx ?_
    refine C.seq ?_
    refine C.rs ?_
    refine J.p rfl rfl rfl rfl (Y.asg rfl) ?_
    refine J.nx ?_
    refine C.joinN H (fun (o65 : (List Int)) (j66 : (Option Addr) × Nat) => [(8, .slice j66.1 o65.length j66.2)]) (fun (o65 : (List Int)) (j66 : (Option Addr) × Nat) => own 5 1 j66.1 j66.2 (o65.map (Value.int .u8)) :: G) (fun (o65 : (List Int)) (j66 : (Option Addr) × Nat) => True) (fun o63 H HK64 => ?_) (fun o65 j66 H _ => ?_)
    · refine C.blk ?_
      refine C.loop (fun (i : Nat × (Int × (List Int) × Int) × ((Option Addr) × Nat)) => [(7, .int .u32 i.2.1.1), (8, .slice i.2.2.1 i.2.1.2.1.length i.2.2.2), (9, .int .i64 i.2.1.2.2)]) (fun (i : Nat × (Int × (List Int) × Int) × ((Option Addr) × Nat)) => own 5 1 i.2.2.1 i.2.2.2 (i.2.1.2.1.map (Value.int .u8)) :: G) (fun (i : Nat × (Int × (List Int) × Int) × ((Option Addr) × Nat)) => refForge.l2 i.1 i.2.1 = some o63 ∧ (True)) (fun i => i.1) (K, (Sx.bits .xor .u32 t43 (Sx.compl .u32 a0), (List.replicate (Int.toNat 4) (0 : Int)), 0), (A45, (Int.toNat 4))) ⟨H, trivial⟩ (by exact ⟨rfl, rfl, rfl, trivial⟩) (by exact fun w h => h) ?_
      rintro ⟨k92, i84, j85⟩ ⟨H, _⟩
      replace H : refForge.l2 k92 i84 = some o63 := H
      obtain ⟨k83, rfl⟩ : ∃ m, k92 = m + 1 := by cases k92 with | zero => exact absurd H (by simp [refForge.l2]) | succ m => exact ⟨m, rfl⟩
      rw [refForge.l2] at H
      refine C.at (s' := [(7, .int .u32 i84.1), (8, .slice j85.1 i84.2.1.length j85.2), (9, .int .i64 i84.2.2)]) (G' := own 5 1 j85.1 j85.2 (i84.2.1.map (Value.int .u8)) :: G) rfl rfl ?_
      refine C.seq ?_
      refine C.rs ?_
      refine J.p rfl rfl rfl rfl (Y.mv rfl) ?_
      refine J.p rfl rfl rfl rfl (Y.bin rfl rfl rfl) ?_
      refine J.nx ?_
      refine split2 H (fun c87 H => ?_) (fun c87 H => ?_)
      · refine C.condT (congrArg (fun b => some (Value.bool b)) (decide_eq_true c87)) ?_
        refine C.skip ?_
        refine N.nx ?_
        refine C.seq ?_
        refine C.blk ?_
        refine C.rs ?_
        refine J.p rfl rfl rfl rfl (Y.mv rfl) ?_
        refine J.p rfl rfl rfl rfl (Y.mv rfl) ?_
        refine J.p rfl rfl rfl rfl (Y.mv rfl) ?_
        refine J.p rfl rfl rfl rfl (Y.rem rfl rfl (by decide)) ?_
        refine J.p rfl rfl rfl rfl (Y.conv Try.underlying22 Try.underlying5 rfl) ?_
        obtain ⟨p90, H⟩ := gd_some H
        refine J.know ((RdG.own 0 rfl).some_ (j := Int.toNat i84.2.2) (by rw [List.length_map]; exact idx_lt p90)) (fun hh => ?_)
        obtain ⟨a88, ha89⟩ := hh
        refine J.p rfl rfl rfl rfl (Y.ixa Try.underlying26 ti5 rfl rfl p90 ha89) ?_
        obtain ⟨p91, H⟩ := gd_some H
        refine J.stoL (enc := (Value.int .u8)) ti5 ha89 rfl rfl rfl p91 ?_
        refine J.as (k := 8) rfl (set_len i84.2.1 (Int.toNat i84.2.2) (IntKind.wrap .u8 (Int.tmod i84.1 256))) ?_
        refine J.nx ?_
        refine C.reg ?_
        refine J.p rfl rfl rfl rfl (Y.mv rfl) ?_
        refine J.p rfl rfl rfl rfl (Y.quo rfl rfl (by decide)) ?_
        refine J.p rfl rfl rfl rfl (Y.asg rfl) ?_
        refine J.nil ?_
        refine N.ib ?_
        refine N.nx ?_
        refine C.reg ?_
        refine J.p rfl rfl rfl rfl (Y.mv rfl) ?_
        refine J.p rfl rfl rfl rfl (Y.bin rfl rfl rfl) ?_
        refine J.p rfl rfl rfl rfl (Y.asg rfl) ?_
        refine J.nil ?_
        exact N.again (k83, (IntKind.wrap .u32 (Int.tdiv i84.1 256), (i84.2.1.set (Int.toNat i84.2.2) (IntKind.wrap .u8 (Int.tmod i84.1 256))), IntKind.wrap .i64 (i84.2.2 + 1)), (j85.1, j85.2)) ⟨H, trivial⟩ (Nat.lt_succ_self _) (by exact ⟨rfl, rfl, rfl, trivial⟩) (by exact fun w h => h)
      · refine C.condF (congrArg (fun b => some (Value.bool b)) (decide_eq_false c87)) ?_
        refine C.exit ?_
        refine X.th ?_
        refine X.th ?_
        refine X.hit ?_
        obtain rfl := Option.some.inj H
        exact N.meet (i84.2.1, (j85.1, j85.2)) ⟨HK64, trivial⟩ (by exact ⟨rfl, trivial⟩) (by exact fun w h => h)
    · refine N.at (s' := [(8, .slice j66.1 o65.length j66.2)]) (G' := own 5 1 j66.1 j66.2 (o65.map (Value.int .u8)) :: G) rfl rfl ?_
      refine N.nx ?_
      refine C.rs ?_
      refine J.p rfl rfl rfl rfl (Y.mv rfl) ?_
      refine J.p rfl rfl rfl rfl (Y.asg rfl) ?_
      refine J.nx ?_
      refine C.ret ?_
      obtain rfl := Option.some.inj H
      exact ret_ok (ks := [4]) rfl rfl (fun w h => ⟨j66.1, j66.2, rfl, h⟩)
end Go.Proofs.Ytghlmkbchdmnoaa
