/- The functions that choose compute this. -/
import Derived.Test.YtaopdopnecognaaGreatMillAll3
import Derived.Test.YtaopdopnecognaaGreatMillSeat3
import Derived.Test.YtaopdopnecognaaGreatMillFIb
set_option linter.all false
set_option maxRecDepth 100000
noncomputable section
namespace Go.Proofs.Mill
def e89:Env:=env1 []
theorem g89:Zai e89:=Zam mix1 ent1 Zah
def s89:Spec:=Zhv (Zaa (Zar Zq2) (Zac (ZpU (Zas .i64)))) (Zau (ZaZ)) Zny
theorem ok89:Zan Tryz.prog 89 s89 :=
 Zgp (V:=e89) (L:=nL) (rounds:=20) (depth:=6) g89 Zak (fun x=>by kernel_rfl)
def e96:Env:=env1 []
theorem g96:Zai e96:=Zam mix1 ent1 Zah
def s96:Spec:=Zhv (Zaa (Zar Zq2) (Zac (ZpU (Zas .i64)))) (Zau (ZaZ)) Zne
theorem ok96:Zan Tryz.prog 96 s96 :=
 Zgp (V:=e96) (L:=nL) (rounds:=20) (depth:=6) g96 Zak (fun x=>by kernel_rfl)
def e79:Env:=env1 []
theorem g79:Zai e79:=Zam mix1 ent1 Zah
def s79:Spec:=Zhv (Zaa (Zar Zhd) (Zac (ZpU (Zas .i64)))) (Zau (ZaZ)) Zno
theorem ok79:Zan Tryz.prog 79 s79 :=
 Zgp (V:=e79) (L:=nL) (rounds:=20) (depth:=6) g79 Zak (fun x=>by kernel_rfl)
end Go.Proofs.Mill
