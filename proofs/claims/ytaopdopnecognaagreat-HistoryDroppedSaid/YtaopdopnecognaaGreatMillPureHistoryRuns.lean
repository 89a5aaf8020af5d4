/- The plain law of HistoryRuns. -/
import Derived.Test.YtaopdopnecognaaGreatMillAll39
namespace Go.Proofs.Mill
set_option linter.all false
end Go.Proofs.Mill
