/- The functions compute this. -/
import Derived.Test.YtaopdopnecognaaGreatMillOkEb
import Derived.Test.YtaopdopnecognaaGreatMillTaker
import Derived.Test.YtaopdopnecognaaGreatMillSeat3
import Derived.Test.YtaopdopnecognaaGreatMillFGb
set_option linter.all false
set_option maxRecDepth 100000
noncomputable section
namespace Go.Proofs.Mill
def e28:Env:=ZDr [(64,s64)]
theorem g28:Zai e28:=Zz1 mix1 ent1 (Zab ok64 rfl Zah) rfl ZD3
def ZtN:LSpec:=Zdm [0,2,4,5,6,9,61] (Zaa (valStr) (Zaa (ZaF 63 .sentry) (Zaa (Zae .i64) (Zaa (Zav celStr) (Zaa (Zmd 63 5 0) (Zaa (Zav ZdE) (Zad (Zae .i64)))))))) (⟨.exit 3,[0,2,4,5,6,9],(Zaa (valStr) (Zaa (ZaF 63 .sentry) (Zaa (Zae .i64) (Zaa (Zav celStr) (Zaa (Zmd 63 5 0) (Zad (Zav ZdE)))))))⟩:Way) (ZaA ZeK)
theorem ZtM:LoopOK e28 90 ZtN (Za5 e28.P 28 15) :=
 Zb9 (L:=ZaL []) (rounds:=20) (depth:=6) (ts:=[0,2,4,5,6,9,61]) (v:=(Zaa (valStr) (Zaa (ZaF 63 .sentry) (Zaa (Zae .i64) (Zaa (Zav celStr) (Zaa (Zmd 63 5 0) (Zaa (Zav ZdE) (Zad (Zae .i64))))))))) (a:=⟨.exit 3,[0,2,4,5,6,9],(Zaa (valStr) (Zaa (ZaF 63 .sentry) (Zaa (Zae .i64) (Zaa (Zav celStr) (Zaa (Zmd 63 5 0) (Zad (Zav ZdE)))))))⟩) (step:=ZeK) g28 rfl ZaY (fun x=>by kernel_rfl)
def ZAE:LSpec:=Zdm [0,2,4,5,6] (Zaa (valStr) (Zaa (ZaF 63 .sentry) (Zaa (Zae .i64) (Zaa (Zav celStr) (Zad (Zmd 63 5 0)))))) (⟨.exit 0,[0,2,4,5],(Zaa (valStr) (Zaa (ZaF 63 .sentry) (Zaa (Zae .i64) (Zad (Zav celStr)))))⟩:Way) (ZaA ZeX)
theorem ZBU:LoopOK e28 90 ZAE (Za5 e28.P 28 3) :=
 Zb9 (L:=ZaL [(15,ZtN)]) (rounds:=20) (depth:=6) (ts:=[0,2,4,5,6]) (v:=(Zaa (valStr) (Zaa (ZaF 63 .sentry) (Zaa (Zae .i64) (Zaa (Zav celStr) (Zad (Zmd 63 5 0))))))) (a:=⟨.exit 0,[0,2,4,5],(Zaa (valStr) (Zaa (ZaF 63 .sentry) (Zaa (Zae .i64) (Zad (Zav celStr)))))⟩) (step:=ZeX) g28 rfl (ZmR (by kernel_rfl) (ZaD ZtM ZaT)) (fun x=>by kernel_rfl)
def s28:Spec:=Zao (Zad (valStr)) (ZbS (Zaa (Zap .sentry) (Zaa (Zae .i64) (Zad (Zae .i64))))) ZhR
theorem ok28:Zan Tryz.prog 28 s28 :=
 Zaj (V:=e28) (L:=(ZaL [(15,ZtN),(3,ZAE)])) (rounds:=20) (depth:=6) g28 (Zbi (nt:=90) (by kernel_rfl) (Zb1 (by kernel_rfl)) (ZaD ZtM (ZaD ZBU ZaT))) (fun x=>by kernel_rfl)
def e29:Env:=env1 []
theorem g29:Zai e29:=Zal mix1 ent1 Zah
def Zuy:LSpec:=Zdm [0,5,6,8,9,10,11] (Zaa (valStr) (Zaa (ZaF 120 .sentry) (Zaa (Zae .i64) (Zaa (Zae .i64) (Zaa (Zav ZdE) (Zaa (Zae .u64) (Zad (Zae .i64)))))))) (⟨.exit 3,[0,5,6,8,9,10],(Zaa (valStr) (Zaa (ZaF 120 .sentry) (Zaa (Zae .i64) (Zaa (Zae .i64) (Zaa (Zav ZdE) (Zad (Zae .u64)))))))⟩:Way) (ZaA ZeU)
theorem Zt3:LoopOK e29 91 Zuy (Za5 e29.P 29 21) :=
 Zb9 (L:=ZaL []) (rounds:=20) (depth:=6) (ts:=[0,5,6,8,9,10,11]) (v:=(Zaa (valStr) (Zaa (ZaF 120 .sentry) (Zaa (Zae .i64) (Zaa (Zae .i64) (Zaa (Zav ZdE) (Zaa (Zae .u64) (Zad (Zae .i64))))))))) (a:=⟨.exit 3,[0,5,6,8,9,10],(Zaa (valStr) (Zaa (ZaF 120 .sentry) (Zaa (Zae .i64) (Zaa (Zae .i64) (Zaa (Zav ZdE) (Zad (Zae .u64)))))))⟩) (step:=ZeU) g29 rfl ZaY (fun x=>by kernel_rfl)
def ZAx:LSpec:=Zfq [0,5,6] (Zaa (valStr) (Zaa (ZaF 120 .sentry) (Zad (Zae .i64)))) (⟨.exit 0,[5],(Zad (ZaF 120 .sentry))⟩:Way) (⟨.ret,[2,3,4],(Zaa (Zap .sentry) (Zaa (Zae .i64) (Zad (Zae .i64))))⟩:Way) (ZaA Zfo)
theorem ZCe:LoopOK e29 91 ZAx (Za5 e29.P 29 3) :=
 Zds (L:=ZaL [(21,Zuy)]) (rounds:=20) (depth:=6) (ts:=[0,5,6]) (v:=(Zaa (valStr) (Zaa (ZaF 120 .sentry) (Zad (Zae .i64))))) (a:=⟨.exit 0,[5],(Zad (ZaF 120 .sentry))⟩) (b:=⟨.ret,[2,3,4],(Zaa (Zap .sentry) (Zaa (Zae .i64) (Zad (Zae .i64))))⟩) (step:=Zfo) g29 rfl rfl (ZmR (by kernel_rfl) (ZaD Zt3 ZaT)) (fun x=>by kernel_rfl)
def s29:Spec:=Zao (Zad (valStr)) (ZbS (Zaa (Zap .sentry) (Zaa (Zae .i64) (Zad (Zae .i64))))) ZiO
theorem ok29:Zan Tryz.prog 29 s29 :=
 Zaj (V:=e29) (L:=(ZaL [(21,Zuy),(3,ZAx)])) (rounds:=20) (depth:=6) g29 (Zbi (nt:=91) (by kernel_rfl) (Zb1 (by kernel_rfl)) (ZaD Zt3 (ZaD ZCe ZaT))) (fun x=>by kernel_rfl)
def e5v (f:Unit->Option Bool):Env:=env1 [(15,s15v f),(16,s16),(28,s28),(29,s29),(30,s30),(31,s31)]
def e5:Env:=e5v Zc4
theorem g5:Zai e5:=Zal mix1 ent1 (Zab ok15 rfl (Zab ok16 rfl (Zab ok28 rfl (Zab ok29 rfl (Zab ok30 rfl (Zab ok31 rfl Zah))))))
def s5:Spec:=Zao (Zaa (Zaq celConfig) (Zaa (valStr) (Zad (Zap .int)))) (Zar (ZaN)) Zp9
theorem key5 (f:Unit->Option Bool) (x:Config×ByteArray×(List Int)):Zi4 (e5v f) nL 20 6 5 (Zar (ZaN)).kds ((Zaa (Zaq celConfig) (Zaa (valStr) (Zad (Zap .int)))).enc x) (Zar (ZaN)).dec=Zf9 f x.1 x.2.1 x.2.2:=by kernel_rfl
theorem ok5:Zan Tryz.prog 5 s5 :=
 Zaj (V:=e5) (L:=nL) (rounds:=20) (depth:=6) g5 Zak (fun x=>key5 Zc4 x)
end Go.Proofs.Mill
