/- What layer 17 shows, as a plain function. -/
import Derived.Test.YtecgogmolkjhjaaGreatMillFCa
set_option linter.all false
noncomputable section
namespace Go.Proofs.Mill
def ZpO (x0:Config) (x1:List SEntry) (x2:Int):Option ((Config×(List SEntry)×Int)⊕((Config×(List SEntry)))) := bif decide (x2<(10:Int)) then bif fewB (x1.length+(SEntry.mk (2:Int) (x2.tmod (2:Int)) (0:Int) (Op.mk (0:Int) (0:Int))::([]:List SEntry)).length) then some (Sum.inl (x0,x1++SEntry.mk (2:Int) (x2.tmod (2:Int)) (0:Int) (Op.mk (0:Int) (0:Int))::([]:List SEntry),Zaf IntKind.i64 (x2+(1:Int)))) else none else some (Sum.inr (x0,x1))
def Zk7 (x:Config×(List SEntry)×Int):Option ((Config×(List SEntry)×Int)⊕((Config×(List SEntry)))):=ZpO x.1 x.2.1 x.2.2
def Ztk:Option Bool:=some true
def Ze2 (x:Unit):Option (Bool):=Ztk
end Go.Proofs.Mill
