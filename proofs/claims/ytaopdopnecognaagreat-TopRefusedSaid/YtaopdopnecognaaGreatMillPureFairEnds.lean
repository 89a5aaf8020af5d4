/- The plain law of FairEnds: behind rounds enough all that was invoked has responded. -/
import Derived.Test.YtaopdopnecognaaGreatMillAll41
import Derived.Test.YtaopdopnecognaaGreatMillAll41
import Derived.Test.YtaopdopnecognaaGreatMillAll41
set_option linter.all false
namespace Go.Proofs.Mill
theorem ZBq {α:Type} {l:List α} (d:α) {i:Nat} (h:i<l.length):l.drop i=l.getD i d::l.drop (i+1):=by
 rw [List.drop_eq_getElem_cons h,List.getD_eq_getElem?_getD,List.getElem?_eq_getElem h];rfl
end Go.Proofs.Mill
