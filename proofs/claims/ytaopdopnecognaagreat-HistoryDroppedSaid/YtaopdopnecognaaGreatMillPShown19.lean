/- What the statements of layer 19 show. -/
import Derived.Test.YtaopdopnecognaaGreatMillFCb
import Derived.KernelRfl
namespace Go.Proofs.Mill
set_option linter.all false
end Go.Proofs.Mill
