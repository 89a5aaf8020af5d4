/- The functions that choose compute this. -/
import Derived.Test.YtaopdopnecognaaGreatMillAll4
import Derived.Test.YtaopdopnecognaaGreatMillSeat3
import Derived.Test.YtaopdopnecognaaGreatMillFIb
set_option linter.all false
set_option maxRecDepth 100000
noncomputable section
namespace Go.Proofs.Mill
def e89:Env:=env1 []
theorem g89:Zai e89:=Zal mix1 ent1 Zah
def s89:Spec:=ZhF (Zaa (Zaq ZrC) (Zad (ZqQ (Zau .i64)))) (Zar (ZaN)) ZnH
theorem ok89:Zan Tryz.prog 89 s89 :=
 ZgE (V:=e89) (L:=nL) (rounds:=20) (depth:=6) g89 Zak (fun x=>by kernel_rfl)
def e96:Env:=env1 []
theorem g96:Zai e96:=Zal mix1 ent1 Zah
def s96:Spec:=ZhF (Zaa (Zaq ZrC) (Zad (ZqQ (Zau .i64)))) (Zar (ZaN)) Znt
theorem ok96:Zan Tryz.prog 96 s96 :=
 ZgE (V:=e96) (L:=nL) (rounds:=20) (depth:=6) g96 Zak (fun x=>by kernel_rfl)
def e79:Env:=env1 []
theorem g79:Zai e79:=Zal mix1 ent1 Zah
def s79:Spec:=ZhF (Zaa (Zaq Zfj) (Zad (ZqQ (Zau .i64)))) (Zar (ZaN)) ZoB
theorem ok79:Zan Tryz.prog 79 s79 :=
 ZgE (V:=e79) (L:=nL) (rounds:=20) (depth:=6) g79 Zak (fun x=>by kernel_rfl)
end Go.Proofs.Mill
