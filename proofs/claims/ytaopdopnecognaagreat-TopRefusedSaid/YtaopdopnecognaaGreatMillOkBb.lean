/- The functions compute this. -/
import Derived.Test.YtaopdopnecognaaGreatMillTape2b
import Derived.Test.YtaopdopnecognaaGreatMillShareb
import Derived.Test.YtaopdopnecognaaGreatMillSeat3
import Derived.Test.YtaopdopnecognaaGreatMillFBb
set_option linter.all false
set_option maxRecDepth 100000
noncomputable section
namespace Go.Proofs.Mill
def e128:Env:=env1 [(148,s148),(152,s152)]
theorem g128:Zai e128:=Zal mix1 ent1 (Zab ZAG rfl (Zab ZDd rfl Zah))
def Zyk:LSpec:=ZdM [1,2,4,5,6,25,26,27] (Zaa (Zae .i64) (Zaa (Zav ZaE) (Zaa (Zav ZaE) (Zaa (ZsX 2 16) (Zaa (ZaL 65 .mark) (Zaa (Zan .int) (Zaa (Zae .i64) (Zac (Zae .i64))))))))) (⟨.exit 0,[1,2,4,5,6],(Zaa (Zae .i64) (Zaa (Zav ZaE) (Zaa (Zav ZaE) (Zaa (ZsX 2 16) (Zac (ZaL 65 .mark))))))⟩:Way) (ZaC ZdZ)
theorem ZyT:LoopOK e128 64 Zyk (Za7 e128.P 128 4) :=
 Zcj (L:=ZaO []) (rounds:=20) (depth:=6) (ts:=[1,2,4,5,6,25,26,27]) (v:=(Zaa (Zae .i64) (Zaa (Zav ZaE) (Zaa (Zav ZaE) (Zaa (ZsX 2 16) (Zaa (ZaL 65 .mark) (Zaa (Zan .int) (Zaa (Zae .i64) (Zac (Zae .i64)))))))))) (a:=⟨.exit 0,[1,2,4,5,6],(Zaa (Zae .i64) (Zaa (Zav ZaE) (Zaa (Zav ZaE) (Zaa (ZsX 2 16) (Zac (ZaL 65 .mark))))))⟩) (step:=ZdZ) g128 rfl ZaY (fun x=>by kernel_rfl)
def s128:Spec:=Zap (Zaa (Zaq ZaE) (Zac (Zae .i64))) (Zar (Zaq ZaE)) ZdO
theorem ZAq:Zao Tryz.prog 128 s128 :=
 Zaj (V:=e128) (L:=(ZaO [(4,Zyk)])) (rounds:=20) (depth:=6) g128 (Zbo (nt:=64) (by kernel_rfl) (Zb6 (by kernel_rfl)) (ZaJ ZyT ZaX)) (fun x=>by kernel_rfl)
def e130:Env:=env1 [(71,s71),(128,s128),(135,s135)]
theorem g130:Zai e130:=Zal mix1 ent1 (Zab ok71 rfl (Zab ZAq rfl (Zab ZsV rfl Zah)))
def s130:Spec:=Zap (Zac (Zaq ZaE)) (Zar (Zaq ZaE)) ZgK
theorem ZDl:Zao Tryz.prog 130 s130 :=
 Zaj (V:=e130) (L:=nL) (rounds:=20) (depth:=6) g130 Zak (fun x=>by kernel_rfl)
def e116:Env:=env1 [(70,s70),(71,s71),(128,s128),(129,s129),(130,s130),(150,s150)]
theorem g116:Zai e116:=Zal mix1 ent1 (Zab ok70 rfl (Zab ok71 rfl (Zab ZAq rfl (Zab ZAI rfl (Zab ZDl rfl (Zab ZAr rfl Zah))))))
def s116:Spec:=Zap (Zac (Zaq ZaE)) (Zb0 (Zaa (Zaq ZaE) (Zac (ZaK)))) ZjU
theorem ZCD:Zao Tryz.prog 116 s116 :=
 Zaj (V:=e116) (L:=nL) (rounds:=20) (depth:=6) g116 Zak (fun x=>by kernel_rfl)
def e186:Env:=env1 [(195,s195)]
theorem g186:Zai e186:=Zal mix1 ent1 (Zab ZDs rfl Zah)
def s186:Spec:=Zap (Zaa (Zaq ZdL) (Zac (Zae .i64))) (Zb0 (Zaa (Zae .i64) (Zac (Zaq ZdL)))) Zks
theorem ZCY:Zao Tryz.prog 186 s186 :=
 Zaj (V:=e186) (L:=nL) (rounds:=20) (depth:=6) g186 Zak (fun x=>by kernel_rfl)
def e119:Env:=env1 [(70,s70),(120,s120),(129,s129),(135,s135),(140,s140),(142,s142),(153,s153),(181,s181),(183,s183),(184,s184),(186,s186),(187,s187),(188,s188)]
theorem g119:Zai e119:=Zal mix1 ent1 (Zab ok70 rfl (Zab Zqi rfl (Zab ZAI rfl (Zab ZsV rfl (Zab ZCM rfl (Zab ZDh rfl (Zab ZwF rfl (Zab ZAy rfl (Zab ZAi rfl (Zab ZAE rfl (Zab ZCY rfl (Zab ZCt rfl (Zab ZCE rfl Zah)))))))))))))
def s119:Spec:=Zap (Zac (Zaq ZaE)) (Zb0 (Zaa (Zaq ZaE) (Zac (ZaK)))) ZiK
theorem ZC0:Zao Tryz.prog 119 s119 :=
 Zaj (V:=e119) (L:=nL) (rounds:=20) (depth:=6) g119 Zak (fun x=>by kernel_rfl)
def e113:Env:=env1 [(24,s24),(114,s114),(115,s115),(116,s116),(117,s117),(118,s118),(119,s119)]
theorem g113:Zai e113:=Zal mix1 ent1 (Zab ok24 rfl (Zab ZDk rfl (Zab ZDr rfl (Zab ZCD rfl (Zab ZCG rfl (Zab ZCA rfl (Zab ZC0 rfl Zah)))))))
def s113:Spec:=Zap (Zac (Zaq ZaE)) (Zar (Zaq ZaE)) ZeU
theorem ZC9:Zao Tryz.prog 113 s113 :=
 Zaj (V:=e113) (L:=nL) (rounds:=20) (depth:=6) g113 Zak (fun x=>by kernel_rfl)
end Go.Proofs.Mill
