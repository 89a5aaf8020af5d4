/- The functions compute this. -/
import Derived.Test.YtaopdopnecognaaGreatMillTape2b
import Derived.Test.YtaopdopnecognaaGreatMillShareb
import Derived.Test.YtaopdopnecognaaGreatMillSeat3
import Derived.Test.YtaopdopnecognaaGreatMillFBb
set_option linter.all false
set_option maxRecDepth 100000
noncomputable section
namespace Go.Proofs.Mill
def e128:Env:=env1 [(148,s148),(152,s152)]
theorem g128:Zai e128:=Zal mix1 ent1 (Zab ZA0 rfl (Zab ZEi rfl Zah))
def ZyL:LSpec:=Zdm [1,2,4,5,6,25,26,27] (Zaa (Zae .i64) (Zaa (Zav ZaG) (Zaa (Zav ZaG) (Zaa (Ztg 2 16) (Zaa (ZaF 65 .mark) (Zaa (Zap .int) (Zaa (Zae .i64) (Zad (Zae .i64))))))))) (⟨.exit 0,[1,2,4,5,6],(Zaa (Zae .i64) (Zaa (Zav ZaG) (Zaa (Zav ZaG) (Zaa (Ztg 2 16) (Zad (ZaF 65 .mark))))))⟩:Way) (ZaA Zd5)
theorem ZAk:LoopOK e128 64 ZyL (Za5 e128.P 128 4) :=
 Zb9 (L:=ZaL []) (rounds:=20) (depth:=6) (ts:=[1,2,4,5,6,25,26,27]) (v:=(Zaa (Zae .i64) (Zaa (Zav ZaG) (Zaa (Zav ZaG) (Zaa (Ztg 2 16) (Zaa (ZaF 65 .mark) (Zaa (Zap .int) (Zaa (Zae .i64) (Zad (Zae .i64)))))))))) (a:=⟨.exit 0,[1,2,4,5,6],(Zaa (Zae .i64) (Zaa (Zav ZaG) (Zaa (Zav ZaG) (Zaa (Ztg 2 16) (Zad (ZaF 65 .mark))))))⟩) (step:=Zd5) g128 rfl ZaY (fun x=>by kernel_rfl)
def s128:Spec:=Zao (Zaa (Zaq ZaG) (Zad (Zae .i64))) (Zar (Zaq ZaG)) ZdO
theorem ZAW:Zan Tryz.prog 128 s128 :=
 Zaj (V:=e128) (L:=(ZaL [(4,ZyL)])) (rounds:=20) (depth:=6) g128 (Zbi (nt:=64) (by kernel_rfl) (Zb1 (by kernel_rfl)) (ZaD ZAk ZaT)) (fun x=>by kernel_rfl)
def e130:Env:=env1 [(71,s71),(128,s128),(135,s135)]
theorem g130:Zai e130:=Zal mix1 ent1 (Zab ok71 rfl (Zab ZAW rfl (Zab Zth rfl Zah)))
def s130:Spec:=Zao (Zad (Zaq ZaG)) (Zar (Zaq ZaG)) ZgX
theorem ZDp:Zan Tryz.prog 130 s130 :=
 Zaj (V:=e130) (L:=nL) (rounds:=20) (depth:=6) g130 Zak (fun x=>by kernel_rfl)
def e116:Env:=env1 [(70,s70),(71,s71),(128,s128),(129,s129),(130,s130),(150,s150)]
theorem g116:Zai e116:=Zal mix1 ent1 (Zab ok70 rfl (Zab ok71 rfl (Zab ZAW rfl (Zab ZA2 rfl (Zab ZDp rfl (Zab ZAH rfl Zah))))))
def s116:Spec:=Zao (Zad (Zaq ZaG)) (ZbS (Zaa (Zaq ZaG) (Zad (ZaN)))) ZjG
theorem ZDX:Zan Tryz.prog 116 s116 :=
 Zaj (V:=e116) (L:=nL) (rounds:=20) (depth:=6) g116 Zak (fun x=>by kernel_rfl)
def e186:Env:=env1 [(195,s195)]
theorem g186:Zai e186:=Zal mix1 ent1 (Zab ZD0 rfl Zah)
def s186:Spec:=Zao (Zaa (Zaq ZdV) (Zad (Zae .i64))) (ZbS (Zaa (Zae .i64) (Zad (Zaq ZdV)))) Zk0
theorem ZD2:Zan Tryz.prog 186 s186 :=
 Zaj (V:=e186) (L:=nL) (rounds:=20) (depth:=6) g186 Zak (fun x=>by kernel_rfl)
def e119:Env:=env1 [(70,s70),(120,s120),(129,s129),(135,s135),(140,s140),(142,s142),(153,s153),(181,s181),(183,s183),(184,s184),(186,s186),(187,s187),(188,s188)]
theorem g119:Zai e119:=Zal mix1 ent1 (Zab ok70 rfl (Zab ZqE rfl (Zab ZA2 rfl (Zab Zth rfl (Zab ZDl rfl (Zab ZC7 rfl (Zab ZxM rfl (Zab ZAQ rfl (Zab ZAC rfl (Zab ZBk rfl (Zab ZD2 rfl (Zab ZDB rfl (Zab ZC8 rfl Zah)))))))))))))
def s119:Spec:=Zao (Zad (Zaq ZaG)) (ZbS (Zaa (Zaq ZaG) (Zad (ZaN)))) ZiV
theorem ZDU:Zan Tryz.prog 119 s119 :=
 Zaj (V:=e119) (L:=nL) (rounds:=20) (depth:=6) g119 Zak (fun x=>by kernel_rfl)
def e113:Env:=env1 [(24,s24),(114,s114),(115,s115),(116,s116),(117,s117),(118,s118),(119,s119)]
theorem g113:Zai e113:=Zal mix1 ent1 (Zab ok24 rfl (Zab ZDv rfl (Zab ZDt rfl (Zab ZDX rfl (Zab ZDY rfl (Zab ZDx rfl (Zab ZDU rfl Zah)))))))
def s113:Spec:=Zao (Zad (Zaq ZaG)) (Zar (Zaq ZaG)) Ze2
theorem ZDb:Zan Tryz.prog 113 s113 :=
 Zaj (V:=e113) (L:=nL) (rounds:=20) (depth:=6) g113 Zak (fun x=>by kernel_rfl)
end Go.Proofs.Mill
