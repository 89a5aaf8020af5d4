/- The functions that choose compute this. -/
import Derived.Test.YtaopdopnecognaaGreatMillAll3
import Derived.Test.YtaopdopnecognaaGreatMillSeat3
import Derived.Test.YtaopdopnecognaaGreatMillFIb
namespace Go.Proofs.Mill
set_option linter.all false
noncomputable def e89:Env:=env1 []
theorem g89:Zai e89:=Zam mix1 ent1 Zah
noncomputable def s89:Spec:=ZgX (Zaa (Zaq Zqq) (Zac (Zph (Zar .i64)))) (Zas (ZaY)) ZmG
set_option maxRecDepth 100000 in
theorem ok89:Zan Tryz.prog 89 s89 :=
  Zf0 (V:=e89) (L:=nL) (rounds:=20) (depth:=6) g89 Zak (fun x=>by kernel_rfl)
noncomputable def e96:Env:=env1 []
theorem g96:Zai e96:=Zam mix1 ent1 Zah
noncomputable def s96:Spec:=ZgX (Zaa (Zaq Zqq) (Zac (Zph (Zar .i64)))) (Zas (ZaY)) Zms
set_option maxRecDepth 100000 in
theorem ok96:Zan Tryz.prog 96 s96 :=
  Zf0 (V:=e96) (L:=nL) (rounds:=20) (depth:=6) g96 Zak (fun x=>by kernel_rfl)
noncomputable def e79:Env:=env1 []
theorem g79:Zai e79:=Zam mix1 ent1 Zah
noncomputable def s79:Spec:=ZgX (Zaa (Zaq ZeW) (Zac (Zph (Zar .i64)))) (Zas (ZaY)) Zmy
set_option maxRecDepth 100000 in
theorem ok79:Zan Tryz.prog 79 s79 :=
  Zf0 (V:=e79) (L:=nL) (rounds:=20) (depth:=6) g79 Zak (fun x=>by kernel_rfl)
end Go.Proofs.Mill
