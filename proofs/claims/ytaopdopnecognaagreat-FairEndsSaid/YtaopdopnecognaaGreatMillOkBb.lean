/- The functions compute this. -/
import Derived.Test.YtaopdopnecognaaGreatMillTape2b
import Derived.Test.YtaopdopnecognaaGreatMillShareb
import Derived.Test.YtaopdopnecognaaGreatMillSeat3
import Derived.Test.YtaopdopnecognaaGreatMillFBb
set_option linter.all false
set_option maxRecDepth 100000
noncomputable section
namespace Go.Proofs.Mill
def e128:Env:=env1 [(148,s148),(152,s152)]
theorem g128:Zai e128:=Zam mix1 ent1 (Zab ZzX rfl (Zab ZB5 rfl Zah))
def Zxy:LSpec:=ZeE [1,2,4,5,6,25,26,27] (Zaa (Zaf .i64) (Zaa (ZaD ZaF) (Zaa (ZaD ZaF) (Zaa (ZsR 2 16) (Zaa (ZaS 65 .mark) (Zaa (Zao .int) (Zaa (Zaf .i64) (Zac (Zaf .i64))))))))) (⟨.exit 0,[1,2,4,5,6],(Zaa (Zaf .i64) (Zaa (ZaD ZaF) (Zaa (ZaD ZaF) (Zaa (ZsR 2 16) (Zac (ZaS 65 .mark))))))⟩:Way) (ZaI Zd3)
theorem Zzx:LoopOK e128 64 Zxy (Zbg e128.P 128 4) :=
 ZcT (L:=ZaV []) (rounds:=20) (depth:=6) (ts:=[1,2,4,5,6,25,26,27]) (v:=(Zaa (Zaf .i64) (Zaa (ZaD ZaF) (Zaa (ZaD ZaF) (Zaa (ZsR 2 16) (Zaa (ZaS 65 .mark) (Zaa (Zao .int) (Zaa (Zaf .i64) (Zac (Zaf .i64)))))))))) (a:=⟨.exit 0,[1,2,4,5,6],(Zaa (Zaf .i64) (Zaa (ZaD ZaF) (Zaa (ZaD ZaF) (Zaa (ZsR 2 16) (Zac (ZaS 65 .mark))))))⟩) (step:=Zd3) g128 rfl Za9 (fun x=>by kernel_rfl)
def s128:Spec:=Zap (Zaa (Zar ZaF) (Zac (Zaf .i64))) (Zau (Zar ZaF)) ZdN
theorem Zz5:Zan Tryz.prog 128 s128 :=
 Zaj (V:=e128) (L:=(ZaV [(4,Zxy)])) (rounds:=20) (depth:=6) g128 (ZbN (nt:=64) (by kernel_rfl) (Zct (by kernel_rfl)) (ZaO Zzx Za6)) (fun x=>by kernel_rfl)
def e130:Env:=env1 [(71,s71),(128,s128),(135,s135)]
theorem g130:Zai e130:=Zam mix1 ent1 (Zab ok71 rfl (Zab Zz5 rfl (Zab ZsS rfl Zah)))
def s130:Spec:=Zap (Zac (Zar ZaF)) (Zau (Zar ZaF)) ZgJ
theorem ZCW:Zan Tryz.prog 130 s130 :=
 Zaj (V:=e130) (L:=nL) (rounds:=20) (depth:=6) g130 Zak (fun x=>by kernel_rfl)
def e116:Env:=env1 [(70,s70),(71,s71),(128,s128),(129,s129),(130,s130),(150,s150)]
theorem g116:Zai e116:=Zam mix1 ent1 (Zab ok70 rfl (Zab ok71 rfl (Zab Zz5 rfl (Zab ZzM rfl (Zab ZCW rfl (Zab ZzY rfl Zah))))))
def s116:Spec:=Zap (Zac (Zar ZaF)) (Zb9 (Zaa (Zar ZaF) (Zac (ZaZ)))) Zjs
theorem ZCR:Zan Tryz.prog 116 s116 :=
 Zaj (V:=e116) (L:=nL) (rounds:=20) (depth:=6) g116 Zak (fun x=>by kernel_rfl)
def e186:Env:=env1 [(195,s195)]
theorem g186:Zai e186:=Zam mix1 ent1 (Zab ZCq rfl Zah)
def s186:Spec:=Zap (Zaa (Zar ZdO) (Zac (Zaf .i64))) (Zb9 (Zaa (Zaf .i64) (Zac (Zar ZdO)))) Zkm
theorem ZB2:Zan Tryz.prog 186 s186 :=
 Zaj (V:=e186) (L:=nL) (rounds:=20) (depth:=6) g186 Zak (fun x=>by kernel_rfl)
def e119:Env:=env1 [(70,s70),(120,s120),(129,s129),(135,s135),(140,s140),(142,s142),(153,s153),(181,s181),(183,s183),(184,s184),(186,s186),(187,s187),(188,s188)]
theorem g119:Zai e119:=Zam mix1 ent1 (Zab ok70 rfl (Zab Zqr rfl (Zab ZzM rfl (Zab ZsS rfl (Zab ZCF rfl (Zab ZB7 rfl (Zab Zwf rfl (Zab ZzH rfl (Zab ZzV rfl (Zab Zz2 rfl (Zab ZB2 rfl (Zab ZCT rfl (Zab ZCJ rfl Zah)))))))))))))
def s119:Spec:=Zap (Zac (Zar ZaF)) (Zb9 (Zaa (Zar ZaF) (Zac (ZaZ)))) ZiA
theorem ZCi:Zan Tryz.prog 119 s119 :=
 Zaj (V:=e119) (L:=nL) (rounds:=20) (depth:=6) g119 Zak (fun x=>by kernel_rfl)
def e113:Env:=env1 [(24,s24),(114,s114),(115,s115),(116,s116),(117,s117),(118,s118),(119,s119)]
theorem g113:Zai e113:=Zam mix1 ent1 (Zab ok24 rfl (Zab ZCY rfl (Zab ZB0 rfl (Zab ZCR rfl (Zab ZBQ rfl (Zab ZBU rfl (Zab ZCi rfl Zah)))))))
def s113:Spec:=Zap (Zac (Zar ZaF)) (Zau (Zar ZaF)) ZeY
theorem ZCO:Zan Tryz.prog 113 s113 :=
 Zaj (V:=e113) (L:=nL) (rounds:=20) (depth:=6) g113 Zak (fun x=>by kernel_rfl)
end Go.Proofs.Mill
