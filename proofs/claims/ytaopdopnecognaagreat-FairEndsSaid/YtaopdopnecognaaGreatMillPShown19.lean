/- What the statements of layer 19 show. -/
import Derived.Test.YtaopdopnecognaaGreatMillFCb
import Derived.KernelRfl
set_option linter.all false
set_option maxRecDepth 100000
namespace Go.Proofs.Mill
theorem ZuN:ZmY=some true:=by kernel_rfl
end Go.Proofs.Mill
