/- The functions compute this. -/
import Derived.Test.YtaopdopnecognaaGreatMillTape2b
import Derived.Test.YtaopdopnecognaaGreatMillShareb
import Derived.Test.YtaopdopnecognaaGreatMillSeat3
import Derived.Test.YtaopdopnecognaaGreatMillFBb
namespace Go.Proofs.Mill
set_option linter.all false
noncomputable def e128:Env:=env1 [(148,s148),(152,s152)]
theorem g128:Zai e128:=Zam mix1 ent1 (Zab Zy2 rfl (Zab ZA3 rfl Zah))
noncomputable def Zxl:LSpec:=Zeu [1,2,4,5,6,25,26,27] (Zaa (Zae .i64) (Zaa (Zaz ZaC) (Zaa (Zaz ZaC) (Zaa (Zr2 2 16) (Zaa (ZaP 65 .mark) (Zaa (Zap .int) (Zaa (Zae .i64) (Zac (Zae .i64))))))))) (⟨.exit 0,[1,2,4,5,6],(Zaa (Zae .i64) (Zaa (Zaz ZaC) (Zaa (Zaz ZaC) (Zaa (Zr2 2 16) (Zac (ZaP 65 .mark))))))⟩:Way) (ZaH ZdQ)
set_option maxRecDepth 100000 in
theorem Zx0:LoopOK e128 64 Zxl (Za9 e128.P 128 4) :=
  ZcM (L:=ZaS []) (rounds:=20) (depth:=6) (ts:=[1,2,4,5,6,25,26,27]) (v:=(Zaa (Zae .i64) (Zaa (Zaz ZaC) (Zaa (Zaz ZaC) (Zaa (Zr2 2 16) (Zaa (ZaP 65 .mark) (Zaa (Zap .int) (Zaa (Zae .i64) (Zac (Zae .i64)))))))))) (a:=⟨.exit 0,[1,2,4,5,6],(Zaa (Zae .i64) (Zaa (Zaz ZaC) (Zaa (Zaz ZaC) (Zaa (Zr2 2 16) (Zac (ZaP 65 .mark))))))⟩) (step:=ZdQ) g128 rfl Za6 (fun x=>by kernel_rfl)
noncomputable def s128:Spec:=Zao (Zaa (Zaq ZaC) (Zac (Zae .i64))) (Zat (Zaq ZaC)) Zdx
set_option maxRecDepth 100000 in
theorem Zzd:Zan Tryz.prog 128 s128 :=
  Zaj (V:=e128) (L:=(ZaS [(4,Zxl)])) (rounds:=20) (depth:=6) g128 (Zbz (nt:=64) (by kernel_rfl) (Zce (by kernel_rfl)) (ZaJ Zx0 Za2)) (fun x=>by kernel_rfl)
noncomputable def e130:Env:=env1 [(71,s71),(128,s128),(135,s135)]
theorem g130:Zai e130:=Zam mix1 ent1 (Zab ok71 rfl (Zab Zzd rfl (Zab ZrV rfl Zah)))
noncomputable def s130:Spec:=Zao (Zac (Zaq ZaC)) (Zat (Zaq ZaC)) Zgk
set_option maxRecDepth 100000 in
theorem ZBs:Zan Tryz.prog 130 s130 :=
  Zaj (V:=e130) (L:=nL) (rounds:=20) (depth:=6) g130 Zak (fun x=>by kernel_rfl)
noncomputable def e116:Env:=env1 [(70,s70),(71,s71),(128,s128),(129,s129),(130,s130),(150,s150)]
theorem g116:Zai e116:=Zam mix1 ent1 (Zab ok70 rfl (Zab ok71 rfl (Zab Zzd rfl (Zab Zzx rfl (Zab ZBs rfl (Zab Zy4 rfl Zah))))))
noncomputable def s116:Spec:=Zao (Zac (Zaq ZaC)) (Zb1 (Zaa (Zaq ZaC) (Zac (ZaW)))) Zjl
set_option maxRecDepth 100000 in
theorem ZBd:Zan Tryz.prog 116 s116 :=
  Zaj (V:=e116) (L:=nL) (rounds:=20) (depth:=6) g116 Zak (fun x=>by kernel_rfl)
noncomputable def e186:Env:=env1 [(195,s195)]
theorem g186:Zai e186:=Zam mix1 ent1 (Zab ZBe rfl Zah)
noncomputable def s186:Spec:=Zao (Zaa (Zaq Zdy) (Zac (Zae .i64))) (Zb1 (Zaa (Zae .i64) (Zac (Zaq Zdy)))) ZjW
set_option maxRecDepth 100000 in
theorem ZBq:Zan Tryz.prog 186 s186 :=
  Zaj (V:=e186) (L:=nL) (rounds:=20) (depth:=6) g186 Zak (fun x=>by kernel_rfl)
noncomputable def e119:Env:=env1 [(70,s70),(120,s120),(129,s129),(135,s135),(140,s140),(142,s142),(153,s153),(181,s181),(183,s183),(184,s184),(186,s186),(187,s187),(188,s188)]
theorem g119:Zai e119:=Zam mix1 ent1 (Zab ok70 rfl (Zab Zo4 rfl (Zab Zzx rfl (Zab ZrV rfl (Zab ZBw rfl (Zab ZBC rfl (Zab ZvC rfl (Zab Zzh rfl (Zab Zzf rfl (Zab ZyT rfl (Zab ZBq rfl (Zab ZBa rfl (Zab ZAW rfl Zah)))))))))))))
noncomputable def s119:Spec:=Zao (Zac (Zaq ZaC)) (Zb1 (Zaa (Zaq ZaC) (Zac (ZaW)))) Zic
set_option maxRecDepth 100000 in
theorem ZBj:Zan Tryz.prog 119 s119 :=
  Zaj (V:=e119) (L:=nL) (rounds:=20) (depth:=6) g119 Zak (fun x=>by kernel_rfl)
noncomputable def e113:Env:=env1 [(24,s24),(114,s114),(115,s115),(116,s116),(117,s117),(118,s118),(119,s119)]
theorem g113:Zai e113:=Zam mix1 ent1 (Zab ok24 rfl (Zab ZBO rfl (Zab ZBt rfl (Zab ZBd rfl (Zab ZBy rfl (Zab ZBI rfl (Zab ZBj rfl Zah)))))))
noncomputable def s113:Spec:=Zao (Zac (Zaq ZaC)) (Zat (Zaq ZaC)) ZeJ
set_option maxRecDepth 100000 in
theorem ZBX:Zan Tryz.prog 113 s113 :=
  Zaj (V:=e113) (L:=nL) (rounds:=20) (depth:=6) g113 Zak (fun x=>by kernel_rfl)
end Go.Proofs.Mill
