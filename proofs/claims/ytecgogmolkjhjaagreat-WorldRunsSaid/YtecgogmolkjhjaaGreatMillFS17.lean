/- What layer 17 shows, as a plain function. -/
import Derived.Test.YtecgogmolkjhjaaGreatMillFCa
set_option linter.all false
noncomputable section
namespace Go.Proofs.Mill
def Zss (x0:Config) (x1:List SEntry) (x2:Int):Option ((Config×(List SEntry)×Int)⊕((Config×(List SEntry)))) := bif decide (x2<10) then bif fewB (x1.length+(SEntry.mk 2 (x2.tmod 2) 0 (Op.mk 0 0)::[]).length) then some (Sum.inl (x0,x1++SEntry.mk 2 (x2.tmod 2) 0 (Op.mk 0 0)::[],Zaf .i64 (x2+1))) else none else some (Sum.inr (x0,x1))
def ZnG (x:Config×(List SEntry)×Int):Option ((Config×(List SEntry)×Int)⊕((Config×(List SEntry)))):=Zss x.1 x.2.1 x.2.2
def Zvi:Option Bool:=some true
def ZfV (x:Unit):Option Bool:=Zvi
end Go.Proofs.Mill
