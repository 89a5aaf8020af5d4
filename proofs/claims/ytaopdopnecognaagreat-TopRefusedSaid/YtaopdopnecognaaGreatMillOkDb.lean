/- The functions compute this. -/
import Derived.Test.YtaopdopnecognaaGreatMillOkCb
import Derived.Test.YtaopdopnecognaaGreatMillItersb
import Derived.Test.YtaopdopnecognaaGreatMillSeat3
import Derived.Test.YtaopdopnecognaaGreatMillFDb
set_option linter.all false
set_option maxRecDepth 100000
noncomputable section
namespace Go.Proofs.Mill
def e23:Env:=env1 []
theorem g23:Zai e23:=Zal mix1 ent1 Zah
def Zz8:LSpec:=Zn0 9 itEvents [4,5] (Zaa (Zav Zfn) (Zac (Zav celBool)))  (Zlg itEvents ZfR)
theorem ZA9:LoopOK e23 20 Zz8 (Za7 e23.P 23 2) :=
 Znz (nt:=20) (n:=1) (rounds:=20) (depth:=6) (gt:=9) (it:=itEvents) (ts:=[4,5]) (v:=(Zaa (Zav Zfn) (Zac (Zav celBool))))  (step:=ZfR) g23 Zqs (fun _=>rfl)  (by kernel_rfl) (fun x e=>by kernel_rfl)
def s23:Spec:=Zap (Zaa (Zan .event) (Zac (Zae .i64))) (Zb0 (Zaa (Zaq Zfn) (Zac (ZaK)))) ZgI
theorem ok23:Zao Tryz.prog 23 s23 :=
 Zaj (V:=e23) (L:=(ZaO [(2,Zz8)])) (rounds:=20) (depth:=6) g23 (Zbo (nt:=20) (by kernel_rfl) (Zb6 (by kernel_rfl)) (ZaJ ZA9 ZaX)) (fun x=>by kernel_rfl)
def e27:Env:=env1 []
theorem g27:Zai e27:=Zal mix1 ent1 Zah
def ZAL:LSpec:=ZdM [2,3,4,7,8,9] (Zaa (Zae .i64) (Zaa (Zae .i64) (Zaa (Zae .i64) (Zaa (Zan .event) (Zaa (Zae .i64) (Zac (Zae .i64))))))) (⟨.exit 0,[2,3,4],(Zaa (Zae .i64) (Zaa (Zae .i64) (Zac (Zae .i64))))⟩:Way) (ZaC Zds)
theorem ZBA:LoopOK e27 31 ZAL (Za7 e27.P 27 2) :=
 Zcj (L:=ZaO []) (rounds:=20) (depth:=6) (ts:=[2,3,4,7,8,9]) (v:=(Zaa (Zae .i64) (Zaa (Zae .i64) (Zaa (Zae .i64) (Zaa (Zan .event) (Zaa (Zae .i64) (Zac (Zae .i64)))))))) (a:=⟨.exit 0,[2,3,4],(Zaa (Zae .i64) (Zaa (Zae .i64) (Zac (Zae .i64))))⟩) (step:=Zds) g27 rfl ZaY (fun x=>by kernel_rfl)
def s27:Spec:=Zap (Zac (Zan .event)) (Zb0 (Zaa (Zae .i64) (Zaa (Zae .i64) (Zac (Zae .i64))))) ZcQ
theorem ok27:Zao Tryz.prog 27 s27 :=
 Zaj (V:=e27) (L:=(ZaO [(2,ZAL)])) (rounds:=20) (depth:=6) g27 (Zbo (nt:=31) (by kernel_rfl) (Zb6 (by kernel_rfl)) (ZaJ ZBA ZaX)) (fun x=>by kernel_rfl)
def e68:Env:=env1 []
theorem g68:Zai e68:=Zal mix1 ent1 Zah
def s68:Spec:=Zap (Zaa (Zae .i64) (Zac (Zae .i64))) (Zar (Zae .i64)) Zlh
theorem ok68:Zao Tryz.prog 68 s68 :=
 Zaj (V:=e68) (L:=nL) (rounds:=20) (depth:=6) g68 Zak (fun x=>by kernel_rfl)
def e66:Env:=env1 [(68,s68)]
theorem g66:Zai e66:=Zal mix1 ent1 (Zab ok68 rfl Zah)
def ZAs:LSpec:=Zfq [0,1,5] (Zaa (Zan .mark) (Zaa (ZwL 67) (Zac (Zae .i64)))) (⟨.exit 0,[],valsNil⟩:Way) (⟨.ret,[4],(Zac (ZaK))⟩:Way) (ZaC Zcw)
theorem ZBT:LoopOK e66 25 ZAs (Za7 e66.P 66 2) :=
 Zdk (L:=ZaO []) (rounds:=20) (depth:=6) (ts:=[0,1,5]) (v:=(Zaa (Zan .mark) (Zaa (ZwL 67) (Zac (Zae .i64))))) (a:=⟨.exit 0,[],valsNil⟩) (b:=⟨.ret,[4],(Zac (ZaK))⟩) (step:=Zcw) g66 rfl rfl ZaY (fun x=>by kernel_rfl)
def s66:Spec:=Zap (Zaa (Zan .mark) (Zac (ZwL 67))) (Zar (ZaK)) Zed
theorem ok66:Zao Tryz.prog 66 s66 :=
 Zaj (V:=e66) (L:=(ZaO [(2,ZAs)])) (rounds:=20) (depth:=6) g66 (Zbo (nt:=25) (by kernel_rfl) (Zb6 (by kernel_rfl)) (ZaJ ZBT ZaX)) (fun x=>by kernel_rfl)
def e69:Env:=env1 [(90,s90)]
theorem g69:Zai e69:=Zal mix1 ent1 (Zab ok90 rfl Zah)
def ZAA:LSpec:=Zn0 15 itReplay [3,8,9] (Zaa (Zav celConfig) (Zaa (Zav (Zau .i64)) (Zac (Zav celBool))))  (Zlg itReplay Zf5)
theorem ZA5:LoopOK e69 37 ZAA (Za7 e69.P 69 3) :=
 Znz (nt:=37) (n:=1) (rounds:=20) (depth:=6) (gt:=15) (it:=itReplay) (ts:=[3,8,9]) (v:=(Zaa (Zav celConfig) (Zaa (Zav (Zau .i64)) (Zac (Zav celBool)))))  (step:=Zf5) g69 Zxg (fun _=>rfl)  (by kernel_rfl) (fun x e=>by kernel_rfl)
def s69:Spec:=Zap (Zaa (Zaq celConfig) (Zaa (Zan .mark) (Zac (Zae .i64)))) (Zb0 (Zaa (Zae .i64) (Zac (ZaK)))) Zet
theorem ok69:Zao Tryz.prog 69 s69 :=
 Zaj (V:=e69) (L:=(ZaO [(3,ZAA)])) (rounds:=20) (depth:=6) g69 (Zbo (nt:=37) (by kernel_rfl) (Zb6 (by kernel_rfl)) (ZaJ ZA5 ZaX)) (fun x=>by kernel_rfl)
def e111:Env:=env1 []
theorem g111:Zai e111:=Zal mix1 ent1 Zah
def Zx3:LSpec:=Zn0 6 itOwn [2] (Zac (Zav (ZbC 65 .mark)))  (Zlg itOwn ZcS)
theorem ZyU:LoopOK e111 13 Zx3 (Za7 e111.P 111 2) :=
 Znz (nt:=13) (n:=1) (rounds:=20) (depth:=6) (gt:=6) (it:=itOwn) (ts:=[2]) (v:=(Zac (Zav (ZbC 65 .mark))))  (step:=ZcS) g111 ZBp (fun _=>rfl)  (by kernel_rfl) (fun x e=>by kernel_rfl)
def s111:Spec:=ZhC (Zaa (Zuc) (Zac (Zz2 itOwn))) (Zar (ZaL 65 .mark)) ZeM
theorem ZDe:Zao Tryz.prog 111 s111 :=
 Zgx (V:=e111) (L:=(ZaO [(2,Zx3)])) (rounds:=20) (depth:=6) g111 (Zbo (nt:=13) (by kernel_rfl) (Zb6 (by kernel_rfl)) (ZaJ ZyU ZaX)) (fun x=>by kernel_rfl)
def e95:Env:=env1 [(111,s111)]
theorem g95:Zai e95:=Zal mix1 ent1 (Zab ZDe rfl Zah)
def s95:Spec:=ZhC (Zac (Zz2 itOwn)) (Zar (ZaL 65 .mark)) Ze2
theorem ok95:Zao Tryz.prog 95 s95 :=
 Zgx (V:=e95) (L:=nL) (rounds:=20) (depth:=6) g95 Zak (fun x=>by kernel_rfl)
def e98:Env:=env1 []
theorem g98:Zai e98:=Zal mix1 ent1 Zah
def s98:Spec:=Zap (Zac (Zaq Zfn)) (Zar (Zaq Zzl)) Zh9
theorem ok98:Zao Tryz.prog 98 s98 :=
 Zaj (V:=e98) (L:=nL) (rounds:=20) (depth:=6) g98 Zak (fun x=>by kernel_rfl)
def e97:Env:=env1 [(90,s90),(98,s98)]
theorem g97:Zai e97:=Zal mix1 ent1 (Zab ok90 rfl (Zab ok98 rfl Zah))
def s97:Spec:=Zap (Zaa (Zaq celConfig) (Zaa (Zaq Zrq) (Zaa (Zaq Zfn) (Zac (Zaq Zfn))))) (Zar (ZaK)) Zjn
theorem ok97:Zao Tryz.prog 97 s97 :=
 Zaj (V:=e97) (L:=nL) (rounds:=20) (depth:=6) g97 Zak (fun x=>by kernel_rfl)
def e72:Env:=env1 [(95,s95),(97,s97),(98,s98)]
theorem g72:Zai e72:=Zal mix1 ent1 (Zab ok95 rfl (Zab ok97 rfl (Zab ok98 rfl Zah)))
def Zz1:LSpec:=Zuw 19 itEvents [4,8,9,10,11] (Zaa (Zav celConfig) (Zaa (Zav celBool) (Zaa (Zav (ZeX .mark)) (Zaa (Zav Zfn) (Zac (Zav celBool)))))) (⟨.ret,[8],(Zac (Zav celBool))⟩:Way) (Zs2 itEvents ZfQ)
theorem ZA6:LoopOK e72 78 Zz1 (Za7 e72.P 72 5) :=
 Zx4 (nt:=78) (n:=1) (rounds:=20) (depth:=6) (gt:=19) (it:=itEvents) (ts:=[4,8,9,10,11]) (v:=(Zaa (Zav celConfig) (Zaa (Zav celBool) (Zaa (Zav (ZeX .mark)) (Zaa (Zav Zfn) (Zac (Zav celBool))))))) (b:=⟨.ret,[8],(Zac (Zav celBool))⟩) (step:=ZfQ) g72 Zqs (fun _=>rfl) rfl (by kernel_rfl) (fun x e=>by kernel_rfl)
def s72:Spec:=Zap (Zaa (Zaq celConfig) (Zaa (Zan .mark) (Zaa (Zan .event) (Zac (Zae .i64))))) (Zar (ZaK)) Zd2
theorem ok72:Zao Tryz.prog 72 s72 :=
 Zaj (V:=e72) (L:=(ZaO [(5,Zz1)])) (rounds:=20) (depth:=6) g72 (Zbo (nt:=78) (by kernel_rfl) (Zb6 (by kernel_rfl)) (ZaJ ZA6 ZaX)) (fun x=>by kernel_rfl)
def e31:Env:=env1 [(56,s56),(66,s66),(69,s69),(70,s70),(71,s71),(72,s72)]
theorem g31:Zai e31:=Zal mix1 ent1 (Zab ok56 rfl (Zab ok66 rfl (Zab ok69 rfl (Zab ok70 rfl (Zab ok71 rfl (Zab ok72 rfl Zah))))))
def ZyE:LSpec:=Zfq [1,58,59] (Zaa (Zav Zbe) (Zaa (Zae .i64) (Zac (Zae .i64)))) (⟨.exit 2,[],valsNil⟩:Way) (⟨.ret,[2],(Zac (ZaK))⟩:Way) (ZaC ZfP)
theorem ZzL:LoopOK e31 72 ZyE (Za7 e31.P 31 12) :=
 Zdk (L:=ZaO []) (rounds:=20) (depth:=6) (ts:=[1,58,59]) (v:=(Zaa (Zav Zbe) (Zaa (Zae .i64) (Zac (Zae .i64))))) (a:=⟨.exit 2,[],valsNil⟩) (b:=⟨.ret,[2],(Zac (ZaK))⟩) (step:=ZfP) g31 rfl rfl ZaY (fun x=>by kernel_rfl)
def Zz0:LSpec:=Zfq [1,21,22] (Zaa (Zav Zbe) (Zaa (Zae .i64) (Zac (Zae .i64)))) (⟨.exit 0,[1],(Zac (Zav Zbe))⟩:Way) (⟨.ret,[2],(Zac (ZaK))⟩:Way) (ZaC Zgi)
theorem ZBb:LoopOK e31 72 Zz0 (Za7 e31.P 31 4) :=
 Zdk (L:=ZaO []) (rounds:=20) (depth:=6) (ts:=[1,21,22]) (v:=(Zaa (Zav Zbe) (Zaa (Zae .i64) (Zac (Zae .i64))))) (a:=⟨.exit 0,[1],(Zac (Zav Zbe))⟩) (b:=⟨.ret,[2],(Zac (ZaK))⟩) (step:=Zgi) g31 rfl rfl ZaY (fun x=>by kernel_rfl)
def s31:Spec:=Zap (Zac (Zaq Zbe)) (Zar (ZaK)) Zcr
theorem ok31:Zao Tryz.prog 31 s31 :=
 Zaj (V:=e31) (L:=(ZaO [(12,ZyE),(4,Zz0)])) (rounds:=20) (depth:=6) g31 (Zbo (nt:=72) (by kernel_rfl) (Zb6 (by kernel_rfl)) (ZaJ ZzL (ZaJ ZBb ZaX))) (fun x=>by kernel_rfl)
def s46:Spec:=Zap valsNil (Zar (ZaK)) Zsv
def e10:Env:=env1 [(16,s16),(31,s31),(46,s46),(47,s47)]
def e11:Env:=env1 [(16,s16),(23,s23),(31,s31),(46,s46),(48,s48)]
def e12:Env:=env1 [(16,s16),(23,s23),(24,s24),(27,s27),(31,s31),(45,s45),(46,s46)]
end Go.Proofs.Mill
