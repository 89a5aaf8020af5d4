/- The functions compute this. -/
import Derived.Test.YtaopdopnecognaaGreatMillTape2b
import Derived.Test.YtaopdopnecognaaGreatMillShareb
import Derived.Test.YtaopdopnecognaaGreatMillSeat3
import Derived.Test.YtaopdopnecognaaGreatMillFBb
namespace Go.Proofs.Mill
set_option linter.all false
noncomputable def e128:Env:=env1 [(148,s148),(152,s152)]
theorem g128:Zai e128:=Zal mix1 ent1 (Zab Zzj rfl (Zab ZBC rfl Zah))
noncomputable def Zxr:LSpec:=Zei [1,2,4,5,6,25,26,27] (Zaa (Zad .i64) (Zaa (Zay ZaD) (Zaa (Zay ZaD) (Zaa (ZrL 2 16) (Zaa (ZaM 65 .mark) (Zaa (Zap .int) (Zaa (Zad .i64) (Zac (Zad .i64))))))))) (⟨.exit 0,[1,2,4,5,6],(Zaa (Zad .i64) (Zaa (Zay ZaD) (Zaa (Zay ZaD) (Zaa (ZrL 2 16) (Zac (ZaM 65 .mark))))))⟩:Way) (ZaH ZdP)
set_option maxRecDepth 100000 in
theorem Zyc:LoopOK e128 64 Zxr (Za9 e128.P 128 4) :=
  ZcC (L:=ZaR []) (rounds:=20) (depth:=6) (ts:=[1,2,4,5,6,25,26,27]) (v:=(Zaa (Zad .i64) (Zaa (Zay ZaD) (Zaa (Zay ZaD) (Zaa (ZrL 2 16) (Zaa (ZaM 65 .mark) (Zaa (Zap .int) (Zaa (Zad .i64) (Zac (Zad .i64)))))))))) (a:=⟨.exit 0,[1,2,4,5,6],(Zaa (Zad .i64) (Zaa (Zay ZaD) (Zaa (Zay ZaD) (Zaa (ZrL 2 16) (Zac (ZaM 65 .mark))))))⟩) (step:=ZdP) g128 rfl Za4 (fun x=>by kernel_rfl)
noncomputable def s128:Spec:=Zao (Zaa (Zaq ZaD) (Zac (Zad .i64))) (Zas (Zaq ZaD)) ZdD
set_option maxRecDepth 100000 in
theorem ZyM:Zan Tryz.prog 128 s128 :=
  Zaj (V:=e128) (L:=(ZaR [(4,Zxr)])) (rounds:=20) (depth:=6) g128 (Zbu (nt:=64) (by kernel_rfl) (Zb9 (by kernel_rfl)) (ZaK Zyc Za1)) (fun x=>by kernel_rfl)
noncomputable def e130:Env:=env1 [(71,s71),(128,s128),(135,s135)]
theorem g130:Zai e130:=Zal mix1 ent1 (Zab ok71 rfl (Zab ZyM rfl (Zab ZrO rfl Zah)))
noncomputable def s130:Spec:=Zao (Zac (Zaq ZaD)) (Zas (Zaq ZaD)) Zgf
set_option maxRecDepth 100000 in
theorem ZA0:Zan Tryz.prog 130 s130 :=
  Zaj (V:=e130) (L:=nL) (rounds:=20) (depth:=6) g130 Zak (fun x=>by kernel_rfl)
noncomputable def e116:Env:=env1 [(70,s70),(71,s71),(128,s128),(129,s129),(130,s130),(150,s150)]
theorem g116:Zai e116:=Zal mix1 ent1 (Zab ok70 rfl (Zab ok71 rfl (Zab ZyM rfl (Zab ZyJ rfl (Zab ZA0 rfl (Zab Zy9 rfl Zah))))))
noncomputable def s116:Spec:=Zao (Zac (Zaq ZaD)) (Zb3 (Zaa (Zaq ZaD) (Zac (ZaW)))) Zjh
set_option maxRecDepth 100000 in
theorem ZBg:Zan Tryz.prog 116 s116 :=
  Zaj (V:=e116) (L:=nL) (rounds:=20) (depth:=6) g116 Zak (fun x=>by kernel_rfl)
noncomputable def e186:Env:=env1 [(195,s195)]
theorem g186:Zai e186:=Zal mix1 ent1 (Zab ZBi rfl Zah)
noncomputable def s186:Spec:=Zao (Zaa (Zaq Zdz) (Zac (Zad .i64))) (Zb3 (Zaa (Zad .i64) (Zac (Zaq Zdz)))) Zkf
set_option maxRecDepth 100000 in
theorem ZA9:Zan Tryz.prog 186 s186 :=
  Zaj (V:=e186) (L:=nL) (rounds:=20) (depth:=6) g186 Zak (fun x=>by kernel_rfl)
noncomputable def e119:Env:=env1 [(70,s70),(120,s120),(129,s129),(135,s135),(140,s140),(142,s142),(153,s153),(181,s181),(183,s183),(184,s184),(186,s186),(187,s187),(188,s188)]
theorem g119:Zai e119:=Zal mix1 ent1 (Zab ok70 rfl (Zab Zpb rfl (Zab ZyJ rfl (Zab ZrO rfl (Zab ZBh rfl (Zab ZBQ rfl (Zab ZuQ rfl (Zab Zzg rfl (Zab ZyZ rfl (Zab ZyT rfl (Zab ZA9 rfl (Zab ZBA rfl (Zab ZBr rfl Zah)))))))))))))
noncomputable def s119:Spec:=Zao (Zac (Zaq ZaD)) (Zb3 (Zaa (Zaq ZaD) (Zac (ZaW)))) Zh8
set_option maxRecDepth 100000 in
theorem ZBq:Zan Tryz.prog 119 s119 :=
  Zaj (V:=e119) (L:=nL) (rounds:=20) (depth:=6) g119 Zak (fun x=>by kernel_rfl)
noncomputable def e113:Env:=env1 [(24,s24),(114,s114),(115,s115),(116,s116),(117,s117),(118,s118),(119,s119)]
theorem g113:Zai e113:=Zal mix1 ent1 (Zab ok24 rfl (Zab ZA1 rfl (Zab ZA6 rfl (Zab ZBg rfl (Zab ZAT rfl (Zab ZAZ rfl (Zab ZBq rfl Zah)))))))
noncomputable def s113:Spec:=Zao (Zac (Zaq ZaD)) (Zas (Zaq ZaD)) ZeS
set_option maxRecDepth 100000 in
theorem ZBs:Zan Tryz.prog 113 s113 :=
  Zaj (V:=e113) (L:=nL) (rounds:=20) (depth:=6) g113 Zak (fun x=>by kernel_rfl)
end Go.Proofs.Mill
