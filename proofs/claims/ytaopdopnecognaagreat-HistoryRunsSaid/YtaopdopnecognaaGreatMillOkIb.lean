/- The functions that choose compute this. -/
import Derived.Test.YtaopdopnecognaaGreatMillAll3
import Derived.Test.YtaopdopnecognaaGreatMillSeat3
import Derived.Test.YtaopdopnecognaaGreatMillFIb
namespace Go.Proofs.Mill
set_option linter.all false
noncomputable def e89:Env:=env1 []
theorem g89:Zai e89:=Zam mix1 ent1 Zah
noncomputable def s89:Spec:=Zg6 (Zaa (Zaq Zqb) (Zac (Zo6 (Zar .i64)))) (Zat (ZaW)) ZmN
set_option maxRecDepth 100000 in
theorem ok89:Zan Tryz.prog 89 s89 :=
  Zgf (V:=e89) (L:=nL) (rounds:=20) (depth:=6) g89 Zak (fun x=>by kernel_rfl)
noncomputable def e96:Env:=env1 []
theorem g96:Zai e96:=Zam mix1 ent1 Zah
noncomputable def s96:Spec:=Zg6 (Zaa (Zaq Zqb) (Zac (Zo6 (Zar .i64)))) (Zat (ZaW)) ZmE
set_option maxRecDepth 100000 in
theorem ok96:Zan Tryz.prog 96 s96 :=
  Zgf (V:=e96) (L:=nL) (rounds:=20) (depth:=6) g96 Zak (fun x=>by kernel_rfl)
noncomputable def e79:Env:=env1 []
theorem g79:Zai e79:=Zam mix1 ent1 Zah
noncomputable def s79:Spec:=Zg6 (Zaa (Zaq Ze2) (Zac (Zo6 (Zar .i64)))) (Zat (ZaW)) ZmJ
set_option maxRecDepth 100000 in
theorem ok79:Zan Tryz.prog 79 s79 :=
  Zgf (V:=e79) (L:=nL) (rounds:=20) (depth:=6) g79 Zak (fun x=>by kernel_rfl)
end Go.Proofs.Mill
