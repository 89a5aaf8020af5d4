/- What the statements of layer 19 show. -/
import Derived.Test.YtaopdopnecognaaGreatMillFCb
import Derived.KernelRfl
set_option linter.all false
namespace Go.Proofs.Mill
end Go.Proofs.Mill
