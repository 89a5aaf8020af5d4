/- What the statements of layer 19 show. -/
import Derived.Test.YtaopdopnecognaaGreatMillFCb
import Derived.KernelRfl
namespace Go.Proofs.Mill
set_option linter.all false
set_option maxRecDepth 100000 in
theorem law19_shown : F_law19_shown = some true := by kernel_rfl
end Go.Proofs.Mill
