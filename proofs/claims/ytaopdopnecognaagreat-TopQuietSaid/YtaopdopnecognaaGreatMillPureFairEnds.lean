/- The plain law of FairEnds: behind rounds enough all that was invoked has responded. -/
import Derived.Test.YtaopdopnecognaaGreatMillAll41
import Derived.Test.YtaopdopnecognaaGreatMillAll41
import Derived.Test.YtaopdopnecognaaGreatMillAll41
set_option linter.all false
namespace Go.Proofs.Mill
theorem Zm0 {c:Config} (hC:CfgOK c) (h6:c.threads<=6) (h3:c.depth<=3) (h2:c.layers<=2) (h5:c.spin<=5):3*((c.threads*Zk6 c).toNat+1)<=(ZbH c).toNat/\(ZbH c).toNat<=2516:=by
 have hT:=hC.threads
 have hd:=hC.depth
 have hl:=hC.layers
 have hs:=hC.spin
 unfold ZbH Zef Zk6
 have a1:c.layers=0\/c.layers=1\/c.layers=2:=by omega
 have a2:c.threads=1\/c.threads=2\/c.threads=3\/c.threads=4\/c.threads=5\/c.threads=6:=by omega
 rcases a1 with e | e | e <;> rw [e] <;> rcases a2 with f | f | f | f | f | f <;> rw [f] <;> omega
end Go.Proofs.Mill
