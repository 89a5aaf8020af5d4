/- The functions compute this. -/
import Derived.Test.YtaopdopnecognaaGreatMillOkCb
import Derived.Test.YtaopdopnecognaaGreatMillItersb
import Derived.Test.YtaopdopnecognaaGreatMillSeat3
import Derived.Test.YtaopdopnecognaaGreatMillFDb
set_option linter.all false
set_option maxRecDepth 100000
noncomputable section
namespace Go.Proofs.Mill
def e23:Env:=env1 []
theorem g23:Zai e23:=Zal mix1 ent1 Zah
def ZAJ:LSpec:=ZnV 9 itEvents [4,5] (Zaa (Zav Zfj) (Zad (Zav celBool)))  (Zi8 itEvents Zf2)
theorem ZBx:LoopOK e23 20 ZAJ (Za5 e23.P 23 2) :=
 Zol (nt:=20) (n:=1) (rounds:=20) (depth:=6) (gt:=9) (it:=itEvents) (ts:=[4,5]) (v:=(Zaa (Zav Zfj) (Zad (Zav celBool))))  (step:=Zf2) g23 ZqJ (fun _=>rfl)  (by kernel_rfl) (fun x e=>by kernel_rfl)
def s23:Spec:=Zao (Zaa (Zap .event) (Zad (Zae .i64))) (ZbS (Zaa (Zaq Zfj) (Zad (ZaN)))) Zg0
theorem ok23:Zan Tryz.prog 23 s23 :=
 Zaj (V:=e23) (L:=(ZaL [(2,ZAJ)])) (rounds:=20) (depth:=6) g23 (Zbi (nt:=20) (by kernel_rfl) (Zb1 (by kernel_rfl)) (ZaD ZBx ZaT)) (fun x=>by kernel_rfl)
def e27:Env:=env1 []
theorem g27:Zai e27:=Zal mix1 ent1 Zah
def ZA4:LSpec:=Zdm [2,3,4,7,8,9] (Zaa (Zae .i64) (Zaa (Zae .i64) (Zaa (Zae .i64) (Zaa (Zap .event) (Zaa (Zae .i64) (Zad (Zae .i64))))))) (⟨.exit 0,[2,3,4],(Zaa (Zae .i64) (Zaa (Zae .i64) (Zad (Zae .i64))))⟩:Way) (ZaA ZgA)
theorem ZBY:LoopOK e27 31 ZA4 (Za5 e27.P 27 2) :=
 Zb9 (L:=ZaL []) (rounds:=20) (depth:=6) (ts:=[2,3,4,7,8,9]) (v:=(Zaa (Zae .i64) (Zaa (Zae .i64) (Zaa (Zae .i64) (Zaa (Zap .event) (Zaa (Zae .i64) (Zad (Zae .i64)))))))) (a:=⟨.exit 0,[2,3,4],(Zaa (Zae .i64) (Zaa (Zae .i64) (Zad (Zae .i64))))⟩) (step:=ZgA) g27 rfl ZaY (fun x=>by kernel_rfl)
def s27:Spec:=Zao (Zad (Zap .event)) (ZbS (Zaa (Zae .i64) (Zaa (Zae .i64) (Zad (Zae .i64))))) Zfp
theorem ok27:Zan Tryz.prog 27 s27 :=
 Zaj (V:=e27) (L:=(ZaL [(2,ZA4)])) (rounds:=20) (depth:=6) g27 (Zbi (nt:=31) (by kernel_rfl) (Zb1 (by kernel_rfl)) (ZaD ZBY ZaT)) (fun x=>by kernel_rfl)
def e68:Env:=env1 []
theorem g68:Zai e68:=Zal mix1 ent1 Zah
def s68:Spec:=Zao (Zaa (Zae .i64) (Zad (Zae .i64))) (Zar (Zae .i64)) Ziq
theorem ok68:Zan Tryz.prog 68 s68 :=
 Zaj (V:=e68) (L:=nL) (rounds:=20) (depth:=6) g68 Zak (fun x=>by kernel_rfl)
def e66:Env:=env1 [(68,s68)]
theorem g66:Zai e66:=Zal mix1 ent1 (Zab ok68 rfl Zah)
def ZBq:LSpec:=Zfq [0,1,5] (Zaa (Zap .mark) (Zaa (ZwL 67) (Zad (Zae .i64)))) (⟨.exit 0,[],valsNil⟩:Way) (⟨.ret,[4],(Zad (ZaN))⟩:Way) (ZaA Zbe)
theorem ZBI:LoopOK e66 25 ZBq (Za5 e66.P 66 2) :=
 Zds (L:=ZaL []) (rounds:=20) (depth:=6) (ts:=[0,1,5]) (v:=(Zaa (Zap .mark) (Zaa (ZwL 67) (Zad (Zae .i64))))) (a:=⟨.exit 0,[],valsNil⟩) (b:=⟨.ret,[4],(Zad (ZaN))⟩) (step:=Zbe) g66 rfl rfl ZaY (fun x=>by kernel_rfl)
def s66:Spec:=Zao (Zaa (Zap .mark) (Zad (ZwL 67))) (Zar (ZaN)) ZcP
theorem ok66:Zan Tryz.prog 66 s66 :=
 Zaj (V:=e66) (L:=(ZaL [(2,ZBq)])) (rounds:=20) (depth:=6) g66 (Zbi (nt:=25) (by kernel_rfl) (Zb1 (by kernel_rfl)) (ZaD ZBI ZaT)) (fun x=>by kernel_rfl)
def e69:Env:=env1 [(90,s90)]
theorem g69:Zai e69:=Zal mix1 ent1 (Zab ok90 rfl Zah)
def ZBa:LSpec:=ZnV 15 itReplay [3,8,9] (Zaa (Zav celConfig) (Zaa (Zav (Zau .i64)) (Zad (Zav celBool))))  (Zi8 itReplay ZdM)
theorem ZBD:LoopOK e69 37 ZBa (Za5 e69.P 69 3) :=
 Zol (nt:=37) (n:=1) (rounds:=20) (depth:=6) (gt:=15) (it:=itReplay) (ts:=[3,8,9]) (v:=(Zaa (Zav celConfig) (Zaa (Zav (Zau .i64)) (Zad (Zav celBool)))))  (step:=ZdM) g69 Zw8 (fun _=>rfl)  (by kernel_rfl) (fun x e=>by kernel_rfl)
def s69:Spec:=Zao (Zaa (Zaq celConfig) (Zaa (Zap .mark) (Zad (Zae .i64)))) (ZbS (Zaa (Zae .i64) (Zad (ZaN)))) Zdz
theorem ok69:Zan Tryz.prog 69 s69 :=
 Zaj (V:=e69) (L:=(ZaL [(3,ZBa)])) (rounds:=20) (depth:=6) g69 (Zbi (nt:=37) (by kernel_rfl) (Zb1 (by kernel_rfl)) (ZaD ZBD ZaT)) (fun x=>by kernel_rfl)
def e111:Env:=env1 []
theorem g111:Zai e111:=Zal mix1 ent1 Zah
def ZyK:LSpec:=ZnV 6 itOwn [2] (Zad (Zav (ZbA 65 .mark)))  (Zi8 itOwn ZbP)
theorem ZAb:LoopOK e111 13 ZyK (Za5 e111.P 111 2) :=
 Zol (nt:=13) (n:=1) (rounds:=20) (depth:=6) (gt:=6) (it:=itOwn) (ts:=[2]) (v:=(Zad (Zav (ZbA 65 .mark))))  (step:=ZbP) g111 ZB0 (fun _=>rfl)  (by kernel_rfl) (fun x e=>by kernel_rfl)
def s111:Spec:=ZhF (Zaa (Zub) (Zad (ZAV itOwn))) (Zar (ZaF 65 .mark)) Zc8
theorem ZDL:Zan Tryz.prog 111 s111 :=
 ZgE (V:=e111) (L:=(ZaL [(2,ZyK)])) (rounds:=20) (depth:=6) g111 (Zbi (nt:=13) (by kernel_rfl) (Zb1 (by kernel_rfl)) (ZaD ZAb ZaT)) (fun x=>by kernel_rfl)
def e95:Env:=env1 [(111,s111)]
theorem g95:Zai e95:=Zal mix1 ent1 (Zab ZDL rfl Zah)
def s95:Spec:=ZhF (Zad (ZAV itOwn)) (Zar (ZaF 65 .mark)) Zdw
theorem ok95:Zan Tryz.prog 95 s95 :=
 ZgE (V:=e95) (L:=nL) (rounds:=20) (depth:=6) g95 Zak (fun x=>by kernel_rfl)
def e98:Env:=env1 []
theorem g98:Zai e98:=Zal mix1 ent1 Zah
def s98:Spec:=Zao (Zad (Zaq Zfj)) (Zar (Zaq ZAo)) Ze6
theorem ok98:Zan Tryz.prog 98 s98 :=
 Zaj (V:=e98) (L:=nL) (rounds:=20) (depth:=6) g98 Zak (fun x=>by kernel_rfl)
def e97:Env:=env1 [(90,s90),(98,s98)]
theorem g97:Zai e97:=Zal mix1 ent1 (Zab ok90 rfl (Zab ok98 rfl Zah))
def s97:Spec:=Zao (Zaa (Zaq celConfig) (Zaa (Zaq ZrC) (Zaa (Zaq Zfj) (Zad (Zaq Zfj))))) (Zar (ZaN)) Zgx
theorem ok97:Zan Tryz.prog 97 s97 :=
 Zaj (V:=e97) (L:=nL) (rounds:=20) (depth:=6) g97 Zak (fun x=>by kernel_rfl)
def e72:Env:=env1 [(95,s95),(97,s97),(98,s98)]
theorem g72:Zai e72:=Zal mix1 ent1 (Zab ok95 rfl (Zab ok97 rfl (Zab ok98 rfl Zah)))
def ZBf:LSpec:=Zt5 19 itEvents [4,8,9,10,11] (Zaa (Zav celConfig) (Zaa (Zav celBool) (Zaa (Zav (Ze5 .mark)) (Zaa (Zav Zfj) (Zad (Zav celBool)))))) (⟨.ret,[8],(Zad (Zav celBool))⟩:Way) (ZoP itEvents Zck)
theorem ZB1:LoopOK e72 78 ZBf (Za5 e72.P 72 5) :=
 Zy7 (nt:=78) (n:=1) (rounds:=20) (depth:=6) (gt:=19) (it:=itEvents) (ts:=[4,8,9,10,11]) (v:=(Zaa (Zav celConfig) (Zaa (Zav celBool) (Zaa (Zav (Ze5 .mark)) (Zaa (Zav Zfj) (Zad (Zav celBool))))))) (b:=⟨.ret,[8],(Zad (Zav celBool))⟩) (step:=Zck) g72 ZqJ (fun _=>rfl) rfl (by kernel_rfl) (fun x e=>by kernel_rfl)
def s72:Spec:=Zao (Zaa (Zaq celConfig) (Zaa (Zap .mark) (Zaa (Zap .event) (Zad (Zae .i64))))) (Zar (ZaN)) Zdg
theorem ok72:Zan Tryz.prog 72 s72 :=
 Zaj (V:=e72) (L:=(ZaL [(5,ZBf)])) (rounds:=20) (depth:=6) g72 (Zbi (nt:=78) (by kernel_rfl) (Zb1 (by kernel_rfl)) (ZaD ZB1 ZaT)) (fun x=>by kernel_rfl)
def e31:Env:=env1 [(56,s56),(66,s66),(69,s69),(70,s70),(71,s71),(72,s72)]
theorem g31:Zai e31:=Zal mix1 ent1 (Zab ok56 rfl (Zab ok66 rfl (Zab ok69 rfl (Zab ok70 rfl (Zab ok71 rfl (Zab ok72 rfl Zah))))))
def Zzf:LSpec:=Zfq [1,58,59] (Zaa (Zav Zc0) (Zaa (Zae .i64) (Zad (Zae .i64)))) (⟨.exit 2,[],valsNil⟩:Way) (⟨.ret,[2],(Zad (ZaN))⟩:Way) (ZaA ZcG)
theorem ZAu:LoopOK e31 72 Zzf (Za5 e31.P 31 12) :=
 Zds (L:=ZaL []) (rounds:=20) (depth:=6) (ts:=[1,58,59]) (v:=(Zaa (Zav Zc0) (Zaa (Zae .i64) (Zad (Zae .i64))))) (a:=⟨.exit 2,[],valsNil⟩) (b:=⟨.ret,[2],(Zad (ZaN))⟩) (step:=ZcG) g31 rfl rfl ZaY (fun x=>by kernel_rfl)
def ZAK:LSpec:=Zfq [1,21,22] (Zaa (Zav Zc0) (Zaa (Zae .i64) (Zad (Zae .i64)))) (⟨.exit 0,[1],(Zad (Zav Zc0))⟩:Way) (⟨.ret,[2],(Zad (ZaN))⟩:Way) (ZaA Zc1)
theorem ZBV:LoopOK e31 72 ZAK (Za5 e31.P 31 4) :=
 Zds (L:=ZaL []) (rounds:=20) (depth:=6) (ts:=[1,21,22]) (v:=(Zaa (Zav Zc0) (Zaa (Zae .i64) (Zad (Zae .i64))))) (a:=⟨.exit 0,[1],(Zad (Zav Zc0))⟩) (b:=⟨.ret,[2],(Zad (ZaN))⟩) (step:=Zc1) g31 rfl rfl ZaY (fun x=>by kernel_rfl)
def s31:Spec:=Zao (Zad (Zaq Zc0)) (Zar (ZaN)) ZbR
theorem ok31:Zan Tryz.prog 31 s31 :=
 Zaj (V:=e31) (L:=(ZaL [(12,Zzf),(4,ZAK)])) (rounds:=20) (depth:=6) g31 (Zbi (nt:=72) (by kernel_rfl) (Zb1 (by kernel_rfl)) (ZaD ZAu (ZaD ZBV ZaT))) (fun x=>by kernel_rfl)
def s46:Spec:=Zao valsNil (Zar (ZaN)) Zs2
def e10:Env:=env1 [(16,s16),(31,s31),(46,s46),(47,s47)]
def e11:Env:=env1 [(16,s16),(23,s23),(31,s31),(46,s46),(48,s48)]
def e12:Env:=env1 [(16,s16),(23,s23),(24,s24),(27,s27),(31,s31),(45,s45),(46,s46)]
end Go.Proofs.Mill
