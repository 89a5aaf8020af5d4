/- The functions compute this. -/
import Derived.Test.YtaopdopnecognaaGreatMillOkCb
import Derived.Test.YtaopdopnecognaaGreatMillItersb
import Derived.Test.YtaopdopnecognaaGreatMillSeat3
import Derived.Test.YtaopdopnecognaaGreatMillFDb
set_option linter.all false
set_option maxRecDepth 100000
noncomputable section
namespace Go.Proofs.Mill
def e23:Env:=env1 []
theorem g23:Zai e23:=Zal mix1 ent1 Zah
def ZAn:LSpec:=ZnJ 9 itEvents [4,5] (Zaa (Zat Zfk) (Zac (Zat celBool)))  (ZiW itEvents Zex)
theorem ZBZ:LoopOK e23 20 ZAn (Za8 e23.P 23 2) :=
 Zn8 (nt:=20) (n:=1) (rounds:=20) (depth:=6) (gt:=9) (it:=itEvents) (ts:=[4,5]) (v:=(Zaa (Zat Zfk) (Zac (Zat celBool))))  (step:=Zex) g23 Zp7 (fun _=>rfl)  (by kernel_rfl) (fun x e=>by kernel_rfl)
def s23:Spec:=Zap (Zaa (Zao .event) (Zac (Zae .i64))) (Zb1 (Zaa (Zar Zfk) (Zac (ZaJ)))) ZeW
theorem ok23:Zan Tryz.prog 23 s23 :=
 Zaj (V:=e23) (L:=(ZaP [(2,ZAn)])) (rounds:=20) (depth:=6) g23 (Zbm (nt:=20) (by kernel_rfl) (Zb9 (by kernel_rfl)) (ZaI ZBZ ZaZ)) (fun x=>by kernel_rfl)
def e27:Env:=env1 []
theorem g27:Zai e27:=Zal mix1 ent1 Zah
def ZAo:LSpec:=Zd5 [2,3,4,7,8,9] (Zaa (Zae .i64) (Zaa (Zae .i64) (Zaa (Zae .i64) (Zaa (Zao .event) (Zaa (Zae .i64) (Zac (Zae .i64))))))) (⟨.exit 0,[2,3,4],(Zaa (Zae .i64) (Zaa (Zae .i64) (Zac (Zae .i64))))⟩:Way) (ZaE Zgb)
theorem ZB4:LoopOK e27 31 ZAo (Za8 e27.P 27 2) :=
 Zcs (L:=ZaP []) (rounds:=20) (depth:=6) (ts:=[2,3,4,7,8,9]) (v:=(Zaa (Zae .i64) (Zaa (Zae .i64) (Zaa (Zae .i64) (Zaa (Zao .event) (Zaa (Zae .i64) (Zac (Zae .i64)))))))) (a:=⟨.exit 0,[2,3,4],(Zaa (Zae .i64) (Zaa (Zae .i64) (Zac (Zae .i64))))⟩) (step:=Zgb) g27 rfl Za3 (fun x=>by kernel_rfl)
def s27:Spec:=Zap (Zac (Zao .event)) (Zb1 (Zaa (Zae .i64) (Zaa (Zae .i64) (Zac (Zae .i64))))) Zfm
theorem ok27:Zan Tryz.prog 27 s27 :=
 Zaj (V:=e27) (L:=(ZaP [(2,ZAo)])) (rounds:=20) (depth:=6) g27 (Zbm (nt:=31) (by kernel_rfl) (Zb9 (by kernel_rfl)) (ZaI ZB4 ZaZ)) (fun x=>by kernel_rfl)
def e68:Env:=env1 []
theorem g68:Zai e68:=Zal mix1 ent1 Zah
def s68:Spec:=Zap (Zaa (Zae .i64) (Zac (Zae .i64))) (Zas (Zae .i64)) Zk1
theorem ok68:Zan Tryz.prog 68 s68 :=
 Zaj (V:=e68) (L:=nL) (rounds:=20) (depth:=6) g68 Zak (fun x=>by kernel_rfl)
def e66:Env:=env1 [(68,s68)]
theorem g66:Zai e66:=Zal mix1 ent1 (Zab ok68 rfl Zah)
def ZAO:LSpec:=ZeV [0,1,5] (Zaa (Zao .mark) (Zaa (Zws 67) (Zac (Zae .i64)))) (⟨.exit 0,[],valsNil⟩:Way) (⟨.ret,[4],(Zac (ZaJ))⟩:Way) (ZaE Zcy)
theorem ZB0:LoopOK e66 25 ZAO (Za8 e66.P 66 2) :=
 Zc4 (L:=ZaP []) (rounds:=20) (depth:=6) (ts:=[0,1,5]) (v:=(Zaa (Zao .mark) (Zaa (Zws 67) (Zac (Zae .i64))))) (a:=⟨.exit 0,[],valsNil⟩) (b:=⟨.ret,[4],(Zac (ZaJ))⟩) (step:=Zcy) g66 rfl rfl Za3 (fun x=>by kernel_rfl)
def s66:Spec:=Zap (Zaa (Zao .mark) (Zac (Zws 67))) (Zas (ZaJ)) Zec
theorem ok66:Zan Tryz.prog 66 s66 :=
 Zaj (V:=e66) (L:=(ZaP [(2,ZAO)])) (rounds:=20) (depth:=6) g66 (Zbm (nt:=25) (by kernel_rfl) (Zb9 (by kernel_rfl)) (ZaI ZB0 ZaZ)) (fun x=>by kernel_rfl)
def e69:Env:=env1 [(90,s90)]
theorem g69:Zai e69:=Zal mix1 ent1 (Zab ok90 rfl Zah)
def ZAm:LSpec:=ZnJ 15 itReplay [3,8,9] (Zaa (Zat celConfig) (Zaa (Zat (Zav .i64)) (Zac (Zat celBool))))  (ZiW itReplay Zge)
theorem ZBm:LoopOK e69 37 ZAm (Za8 e69.P 69 3) :=
 Zn8 (nt:=37) (n:=1) (rounds:=20) (depth:=6) (gt:=15) (it:=itReplay) (ts:=[3,8,9]) (v:=(Zaa (Zat celConfig) (Zaa (Zat (Zav .i64)) (Zac (Zat celBool)))))  (step:=Zge) g69 Zw6 (fun _=>rfl)  (by kernel_rfl) (fun x e=>by kernel_rfl)
def s69:Spec:=Zap (Zaa (Zar celConfig) (Zaa (Zao .mark) (Zac (Zae .i64)))) (Zb1 (Zaa (Zae .i64) (Zac (ZaJ)))) Zej
theorem ok69:Zan Tryz.prog 69 s69 :=
 Zaj (V:=e69) (L:=(ZaP [(3,ZAm)])) (rounds:=20) (depth:=6) g69 (Zbm (nt:=37) (by kernel_rfl) (Zb9 (by kernel_rfl)) (ZaI ZBm ZaZ)) (fun x=>by kernel_rfl)
def e111:Env:=env1 []
theorem g111:Zai e111:=Zal mix1 ent1 Zah
def ZyC:LSpec:=ZnJ 6 itOwn [2] (Zac (Zat (ZbA 65 .mark)))  (ZiW itOwn ZcR)
theorem Zzu:LoopOK e111 13 ZyC (Za8 e111.P 111 2) :=
 Zn8 (nt:=13) (n:=1) (rounds:=20) (depth:=6) (gt:=6) (it:=itOwn) (ts:=[2]) (v:=(Zac (Zat (ZbA 65 .mark))))  (step:=ZcR) g111 ZB2 (fun _=>rfl)  (by kernel_rfl) (fun x e=>by kernel_rfl)
def s111:Spec:=Zhw (Zaa (ZtX) (Zac (ZAc itOwn))) (Zas (ZaQ 65 .mark)) ZeK
theorem ZDy:Zan Tryz.prog 111 s111 :=
 Zgi (V:=e111) (L:=(ZaP [(2,ZyC)])) (rounds:=20) (depth:=6) g111 (Zbm (nt:=13) (by kernel_rfl) (Zb9 (by kernel_rfl)) (ZaI Zzu ZaZ)) (fun x=>by kernel_rfl)
def e95:Env:=env1 [(111,s111)]
theorem g95:Zai e95:=Zal mix1 ent1 (Zab ZDy rfl Zah)
def s95:Spec:=Zhw (Zac (ZAc itOwn)) (Zas (ZaQ 65 .mark)) Zfb
theorem ok95:Zan Tryz.prog 95 s95 :=
 Zgi (V:=e95) (L:=nL) (rounds:=20) (depth:=6) g95 Zak (fun x=>by kernel_rfl)
def e98:Env:=env1 []
theorem g98:Zai e98:=Zal mix1 ent1 Zah
def s98:Spec:=Zap (Zac (Zar Zfk)) (Zas (Zar ZzG)) Zib
theorem ok98:Zan Tryz.prog 98 s98 :=
 Zaj (V:=e98) (L:=nL) (rounds:=20) (depth:=6) g98 Zak (fun x=>by kernel_rfl)
def e97:Env:=env1 [(90,s90),(98,s98)]
theorem g97:Zai e97:=Zal mix1 ent1 (Zab ok90 rfl (Zab ok98 rfl Zah))
def s97:Spec:=Zap (Zaa (Zar celConfig) (Zaa (Zar Zre) (Zaa (Zar Zfk) (Zac (Zar Zfk))))) (Zas (ZaJ)) Zji
theorem ok97:Zan Tryz.prog 97 s97 :=
 Zaj (V:=e97) (L:=nL) (rounds:=20) (depth:=6) g97 Zak (fun x=>by kernel_rfl)
def e72:Env:=env1 [(95,s95),(97,s97),(98,s98)]
theorem g72:Zai e72:=Zal mix1 ent1 (Zab ok95 rfl (Zab ok97 rfl (Zab ok98 rfl Zah)))
def ZAB:LSpec:=Zuf 19 itEvents [4,8,9,10,11] (Zaa (Zat celConfig) (Zaa (Zat celBool) (Zaa (Zat (Zfd .mark)) (Zaa (Zat Zfk) (Zac (Zat celBool)))))) (⟨.ret,[8],(Zac (Zat celBool))⟩:Way) (Zs6 itEvents ZfR)
theorem ZBF:LoopOK e72 78 ZAB (Za8 e72.P 72 5) :=
 ZxN (nt:=78) (n:=1) (rounds:=20) (depth:=6) (gt:=19) (it:=itEvents) (ts:=[4,8,9,10,11]) (v:=(Zaa (Zat celConfig) (Zaa (Zat celBool) (Zaa (Zat (Zfd .mark)) (Zaa (Zat Zfk) (Zac (Zat celBool))))))) (b:=⟨.ret,[8],(Zac (Zat celBool))⟩) (step:=ZfR) g72 Zp7 (fun _=>rfl) rfl (by kernel_rfl) (fun x e=>by kernel_rfl)
def s72:Spec:=Zap (Zaa (Zar celConfig) (Zaa (Zao .mark) (Zaa (Zao .event) (Zac (Zae .i64))))) (Zas (ZaJ)) Zd2
theorem ok72:Zan Tryz.prog 72 s72 :=
 Zaj (V:=e72) (L:=(ZaP [(5,ZAB)])) (rounds:=20) (depth:=6) g72 (Zbm (nt:=78) (by kernel_rfl) (Zb9 (by kernel_rfl)) (ZaI ZBF ZaZ)) (fun x=>by kernel_rfl)
def e31:Env:=env1 [(56,s56),(66,s66),(69,s69),(70,s70),(71,s71),(72,s72)]
theorem g31:Zai e31:=Zal mix1 ent1 (Zab ok56 rfl (Zab ok66 rfl (Zab ok69 rfl (Zab ok70 rfl (Zab ok71 rfl (Zab ok72 rfl Zah))))))
def Zyc:LSpec:=ZeV [1,58,59] (Zaa (Zat ZbR) (Zaa (Zae .i64) (Zac (Zae .i64)))) (⟨.exit 2,[],valsNil⟩:Way) (⟨.ret,[2],(Zac (ZaJ))⟩:Way) (ZaE ZfS)
theorem Zzl:LoopOK e31 72 Zyc (Za8 e31.P 31 12) :=
 Zc4 (L:=ZaP []) (rounds:=20) (depth:=6) (ts:=[1,58,59]) (v:=(Zaa (Zat ZbR) (Zaa (Zae .i64) (Zac (Zae .i64))))) (a:=⟨.exit 2,[],valsNil⟩) (b:=⟨.ret,[2],(Zac (ZaJ))⟩) (step:=ZfS) g31 rfl rfl Za3 (fun x=>by kernel_rfl)
def ZAb:LSpec:=ZeV [1,21,22] (Zaa (Zat ZbR) (Zaa (Zae .i64) (Zac (Zae .i64)))) (⟨.exit 0,[1],(Zac (Zat ZbR))⟩:Way) (⟨.ret,[2],(Zac (ZaJ))⟩:Way) (ZaE Zgc)
theorem ZBf:LoopOK e31 72 ZAb (Za8 e31.P 31 4) :=
 Zc4 (L:=ZaP []) (rounds:=20) (depth:=6) (ts:=[1,21,22]) (v:=(Zaa (Zat ZbR) (Zaa (Zae .i64) (Zac (Zae .i64))))) (a:=⟨.exit 0,[1],(Zac (Zat ZbR))⟩) (b:=⟨.ret,[2],(Zac (ZaJ))⟩) (step:=Zgc) g31 rfl rfl Za3 (fun x=>by kernel_rfl)
def s31:Spec:=Zap (Zac (Zar ZbR)) (Zas (ZaJ)) Zct
theorem ok31:Zan Tryz.prog 31 s31 :=
 Zaj (V:=e31) (L:=(ZaP [(12,Zyc),(4,ZAb)])) (rounds:=20) (depth:=6) g31 (Zbm (nt:=72) (by kernel_rfl) (Zb9 (by kernel_rfl)) (ZaI Zzl (ZaI ZBf ZaZ))) (fun x=>by kernel_rfl)
def s46:Spec:=Zap valsNil (Zas (ZaJ)) Zs0
def e10:Env:=env1 [(16,s16),(31,s31),(46,s46),(47,s47)]
def e11:Env:=env1 [(16,s16),(23,s23),(31,s31),(46,s46),(48,s48)]
def e12:Env:=env1 [(16,s16),(23,s23),(24,s24),(27,s27),(31,s31),(45,s45),(46,s46)]
end Go.Proofs.Mill
