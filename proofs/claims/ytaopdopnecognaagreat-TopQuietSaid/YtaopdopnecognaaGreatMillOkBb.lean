/- The functions compute this. -/
import Derived.Test.YtaopdopnecognaaGreatMillTape2b
import Derived.Test.YtaopdopnecognaaGreatMillShareb
import Derived.Test.YtaopdopnecognaaGreatMillSeat3
import Derived.Test.YtaopdopnecognaaGreatMillFBb
set_option linter.all false
set_option maxRecDepth 100000
noncomputable section
namespace Go.Proofs.Mill
def e128:Env:=env1 [(148,s148),(152,s152)]
theorem g128:Zai e128:=Zal mix1 ent1 (Zab ZAJ rfl (Zab ZDd rfl Zah))
def Zxn:LSpec:=Zd5 [1,2,4,5,6,25,26,27] (Zaa (Zae .i64) (Zaa (Zat ZaF) (Zaa (Zat ZaF) (Zaa (Zs5 2 16) (Zaa (ZaQ 65 .mark) (Zaa (Zao .int) (Zaa (Zae .i64) (Zac (Zae .i64))))))))) (⟨.exit 0,[1,2,4,5,6],(Zaa (Zae .i64) (Zaa (Zat ZaF) (Zaa (Zat ZaF) (Zaa (Zs5 2 16) (Zac (ZaQ 65 .mark))))))⟩:Way) (ZaE Zd0)
theorem ZzU:LoopOK e128 64 Zxn (Za8 e128.P 128 4) :=
 Zcs (L:=ZaP []) (rounds:=20) (depth:=6) (ts:=[1,2,4,5,6,25,26,27]) (v:=(Zaa (Zae .i64) (Zaa (Zat ZaF) (Zaa (Zat ZaF) (Zaa (Zs5 2 16) (Zaa (ZaQ 65 .mark) (Zaa (Zao .int) (Zaa (Zae .i64) (Zac (Zae .i64)))))))))) (a:=⟨.exit 0,[1,2,4,5,6],(Zaa (Zae .i64) (Zaa (Zat ZaF) (Zaa (Zat ZaF) (Zaa (Zs5 2 16) (Zac (ZaQ 65 .mark))))))⟩) (step:=Zd0) g128 rfl Za3 (fun x=>by kernel_rfl)
def s128:Spec:=Zap (Zaa (Zar ZaF) (Zac (Zae .i64))) (Zas (Zar ZaF)) ZdK
theorem ZAt:Zan Tryz.prog 128 s128 :=
 Zaj (V:=e128) (L:=(ZaP [(4,Zxn)])) (rounds:=20) (depth:=6) g128 (Zbm (nt:=64) (by kernel_rfl) (Zb9 (by kernel_rfl)) (ZaI ZzU ZaZ)) (fun x=>by kernel_rfl)
def e130:Env:=env1 [(71,s71),(128,s128),(135,s135)]
theorem g130:Zai e130:=Zal mix1 ent1 (Zab ok71 rfl (Zab ZAt rfl (Zab Zs1 rfl Zah)))
def s130:Spec:=Zap (Zac (Zar ZaF)) (Zas (Zar ZaF)) ZgJ
theorem ZC1:Zan Tryz.prog 130 s130 :=
 Zaj (V:=e130) (L:=nL) (rounds:=20) (depth:=6) g130 Zak (fun x=>by kernel_rfl)
def e116:Env:=env1 [(70,s70),(71,s71),(128,s128),(129,s129),(130,s130),(150,s150)]
theorem g116:Zai e116:=Zal mix1 ent1 (Zab ok70 rfl (Zab ok71 rfl (Zab ZAt rfl (Zab ZAh rfl (Zab ZC1 rfl (Zab ZAS rfl Zah))))))
def s116:Spec:=Zap (Zac (Zar ZaF)) (Zb1 (Zaa (Zar ZaF) (Zac (ZaJ)))) ZjE
theorem ZCU:Zan Tryz.prog 116 s116 :=
 Zaj (V:=e116) (L:=nL) (rounds:=20) (depth:=6) g116 Zak (fun x=>by kernel_rfl)
def e186:Env:=env1 [(195,s195)]
theorem g186:Zai e186:=Zal mix1 ent1 (Zab ZCI rfl Zah)
def s186:Spec:=Zap (Zaa (Zar ZdB) (Zac (Zae .i64))) (Zb1 (Zaa (Zae .i64) (Zac (Zar ZdB)))) ZkL
theorem ZCB:Zan Tryz.prog 186 s186 :=
 Zaj (V:=e186) (L:=nL) (rounds:=20) (depth:=6) g186 Zak (fun x=>by kernel_rfl)
def e119:Env:=env1 [(70,s70),(120,s120),(129,s129),(135,s135),(140,s140),(142,s142),(153,s153),(181,s181),(183,s183),(184,s184),(186,s186),(187,s187),(188,s188)]
theorem g119:Zai e119:=Zal mix1 ent1 (Zab ok70 rfl (Zab ZqZ rfl (Zab ZAh rfl (Zab Zs1 rfl (Zab ZDj rfl (Zab ZDa rfl (Zab ZwC rfl (Zab ZAq rfl (Zab ZAr rfl (Zab ZAs rfl (Zab ZCB rfl (Zab ZCJ rfl (Zab ZCx rfl Zah)))))))))))))
def s119:Spec:=Zap (Zac (Zar ZaF)) (Zb1 (Zaa (Zar ZaF) (Zac (ZaJ)))) Zir
theorem ZDk:Zan Tryz.prog 119 s119 :=
 Zaj (V:=e119) (L:=nL) (rounds:=20) (depth:=6) g119 Zak (fun x=>by kernel_rfl)
def e113:Env:=env1 [(24,s24),(114,s114),(115,s115),(116,s116),(117,s117),(118,s118),(119,s119)]
theorem g113:Zai e113:=Zal mix1 ent1 (Zab ok24 rfl (Zab ZDf rfl (Zab ZCY rfl (Zab ZCU rfl (Zab ZC7 rfl (Zab ZDl rfl (Zab ZDk rfl Zah)))))))
def s113:Spec:=Zap (Zac (Zar ZaF)) (Zas (Zar ZaF)) Ze7
theorem ZCS:Zan Tryz.prog 113 s113 :=
 Zaj (V:=e113) (L:=nL) (rounds:=20) (depth:=6) g113 Zak (fun x=>by kernel_rfl)
end Go.Proofs.Mill
