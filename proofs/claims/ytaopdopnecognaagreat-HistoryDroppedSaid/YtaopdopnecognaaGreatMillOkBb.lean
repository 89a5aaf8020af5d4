/- The functions compute this. -/
import Derived.Test.YtaopdopnecognaaGreatMillTape2b
import Derived.Test.YtaopdopnecognaaGreatMillShareb
import Derived.Test.YtaopdopnecognaaGreatMillSeat3
import Derived.Test.YtaopdopnecognaaGreatMillFBb
namespace Go.Proofs.Mill
set_option linter.all false
noncomputable def e128:Env:=env1 [(148,s148),(152,s152)]
theorem g128:Zai e128:=Zam mix1 ent1 (Zab ZyY rfl (Zab ZBb rfl Zah))
noncomputable def ZwO:LSpec:=Zen [1,2,4,5,6,25,26,27] (Zaa (Zae .i64) (Zaa (ZaA ZaC) (Zaa (ZaA ZaC) (Zaa (ZrI 2 16) (Zaa (ZaQ 65 .mark) (Zaa (Zap .int) (Zaa (Zae .i64) (Zac (Zae .i64))))))))) (⟨.exit 0,[1,2,4,5,6],(Zaa (Zae .i64) (Zaa (ZaA ZaC) (Zaa (ZaA ZaC) (Zaa (ZrI 2 16) (Zac (ZaQ 65 .mark))))))⟩:Way) (ZaH ZdK)
set_option maxRecDepth 100000 in
theorem Zyi:LoopOK e128 64 ZwO (Zbc e128.P 128 4) :=
  ZcL (L:=ZaT []) (rounds:=20) (depth:=6) (ts:=[1,2,4,5,6,25,26,27]) (v:=(Zaa (Zae .i64) (Zaa (ZaA ZaC) (Zaa (ZaA ZaC) (Zaa (ZrI 2 16) (Zaa (ZaQ 65 .mark) (Zaa (Zap .int) (Zaa (Zae .i64) (Zac (Zae .i64)))))))))) (a:=⟨.exit 0,[1,2,4,5,6],(Zaa (Zae .i64) (Zaa (ZaA ZaC) (Zaa (ZaA ZaC) (Zaa (ZrI 2 16) (Zac (ZaQ 65 .mark))))))⟩) (step:=ZdK) g128 rfl Za8 (fun x=>by kernel_rfl)
noncomputable def s128:Spec:=Zao (Zaa (Zaq ZaC) (Zac (Zae .i64))) (Zas (Zaq ZaC)) Zdu
set_option maxRecDepth 100000 in
theorem ZyK:Zan Tryz.prog 128 s128 :=
  Zaj (V:=e128) (L:=(ZaT [(4,ZwO)])) (rounds:=20) (depth:=6) g128 (ZbH (nt:=64) (by kernel_rfl) (Zcn (by kernel_rfl)) (ZaM Zyi Za3)) (fun x=>by kernel_rfl)
noncomputable def e130:Env:=env1 [(71,s71),(128,s128),(135,s135)]
theorem g130:Zai e130:=Zam mix1 ent1 (Zab ok71 rfl (Zab ZyK rfl (Zab ZrK rfl Zah)))
noncomputable def s130:Spec:=Zao (Zac (Zaq ZaC)) (Zas (Zaq ZaC)) Zgc
set_option maxRecDepth 100000 in
theorem ZBv:Zan Tryz.prog 130 s130 :=
  Zaj (V:=e130) (L:=nL) (rounds:=20) (depth:=6) g130 Zak (fun x=>by kernel_rfl)
noncomputable def e116:Env:=env1 [(70,s70),(71,s71),(128,s128),(129,s129),(130,s130),(150,s150)]
theorem g116:Zai e116:=Zam mix1 ent1 (Zab ok70 rfl (Zab ok71 rfl (Zab ZyK rfl (Zab ZyC rfl (Zab ZBv rfl (Zab ZyR rfl Zah))))))
noncomputable def s116:Spec:=Zao (Zac (Zaq ZaC)) (Zb0 (Zaa (Zaq ZaC) (Zac (ZaY)))) ZiK
set_option maxRecDepth 100000 in
theorem ZBn:Zan Tryz.prog 116 s116 :=
  Zaj (V:=e116) (L:=nL) (rounds:=20) (depth:=6) g116 Zak (fun x=>by kernel_rfl)
noncomputable def e186:Env:=env1 [(195,s195)]
theorem g186:Zai e186:=Zam mix1 ent1 (Zab ZBd rfl Zah)
noncomputable def s186:Spec:=Zao (Zaa (Zaq Zds) (Zac (Zae .i64))) (Zb0 (Zaa (Zae .i64) (Zac (Zaq Zds)))) ZjK
set_option maxRecDepth 100000 in
theorem ZAy:Zan Tryz.prog 186 s186 :=
  Zaj (V:=e186) (L:=nL) (rounds:=20) (depth:=6) g186 Zak (fun x=>by kernel_rfl)
noncomputable def e119:Env:=env1 [(70,s70),(120,s120),(129,s129),(135,s135),(140,s140),(142,s142),(153,s153),(181,s181),(183,s183),(184,s184),(186,s186),(187,s187),(188,s188)]
theorem g119:Zai e119:=Zam mix1 ent1 (Zab ok70 rfl (Zab ZoQ rfl (Zab ZyC rfl (Zab ZrK rfl (Zab ZA1 rfl (Zab ZBz rfl (Zab Zu8 rfl (Zab ZyV rfl (Zab ZyP rfl (Zab Zy0 rfl (Zab ZAy rfl (Zab ZAz rfl (Zab ZBu rfl Zah)))))))))))))
noncomputable def s119:Spec:=Zao (Zac (Zaq ZaC)) (Zb0 (Zaa (Zaq ZaC) (Zac (ZaY)))) ZhR
set_option maxRecDepth 100000 in
theorem ZAQ:Zan Tryz.prog 119 s119 :=
  Zaj (V:=e119) (L:=nL) (rounds:=20) (depth:=6) g119 Zak (fun x=>by kernel_rfl)
noncomputable def e113:Env:=env1 [(24,s24),(114,s114),(115,s115),(116,s116),(117,s117),(118,s118),(119,s119)]
theorem g113:Zai e113:=Zam mix1 ent1 (Zab ok24 rfl (Zab ZAL rfl (Zab ZBs rfl (Zab ZBn rfl (Zab ZA3 rfl (Zab ZA8 rfl (Zab ZAQ rfl Zah)))))))
noncomputable def s113:Spec:=Zao (Zac (Zaq ZaC)) (Zas (Zaq ZaC)) ZeE
set_option maxRecDepth 100000 in
theorem ZAB:Zan Tryz.prog 113 s113 :=
  Zaj (V:=e113) (L:=nL) (rounds:=20) (depth:=6) g113 Zak (fun x=>by kernel_rfl)
end Go.Proofs.Mill
