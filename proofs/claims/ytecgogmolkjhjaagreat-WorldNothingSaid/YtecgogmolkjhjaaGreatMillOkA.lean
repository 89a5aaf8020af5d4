/- The functions compute this. -/
import Derived.Test.YtecgogmolkjhjaaGreatMillSeat2
import Derived.Test.YtecgogmolkjhjaaGreatMillFA
set_option linter.all false
set_option maxRecDepth 100000
noncomputable section
namespace Go.Proofs.Mill
def e16:Env:=env1 []
theorem g16:Zai e16:=Zan mix1 ent1 Zag
def ZCx:LSpec:=Zdh [1,3] (Zaa (Zak Zas) (Zac (Zad .i64))) (⟨.exit 0,[1],(Zac (Zak Zas))⟩:Way) (⟨.ret,[2],(Zac (ZaE))⟩:Way) (Zav ZjL)
theorem ZC4:LoopOK e16 70 ZCx (ZaT e16.P 16 2) :=
 Zcg (L:=ZaA []) (rounds:=20) (depth:=6) (ts:=[1,3]) (v:=(Zaa (Zak Zas) (Zac (Zad .i64)))) (a:=⟨.exit 0,[1],(Zac (Zak Zas))⟩) (b:=⟨.ret,[2],(Zac (ZaE))⟩) (step:=ZjL) g16 rfl rfl ZaD (fun x=>by kernel_rfl)
def s16:Spec:=Zar (Zac (Zap Zas)) (Zat (ZaE)) ZlZ
theorem ok16:Zaq Tryz.prog 16 s16 :=
 Zaj (V:=e16) (L:=(ZaA [(2,ZCx)])) (rounds:=20) (depth:=6) g16 (ZaV (nt:=70) (by kernel_rfl) (Zbd (by kernel_rfl)) (Zay ZC4 ZaF)) (fun x=>by kernel_rfl)
def e23:Env:=env1 []
theorem g23:Zai e23:=Zan mix1 ent1 Zag
def s23:Spec:=Zar (Zac (Zap celConfig)) (Zat (Zad .i64)) Zek
theorem ok23:Zaq Tryz.prog 23 s23 :=
 Zaj (V:=e23) (L:=nL) (rounds:=20) (depth:=6) g23 Zal (fun x=>by kernel_rfl)
def e36:Env:=env1 []
theorem g36:Zai e36:=Zan mix1 ent1 Zag
def ZBH:LSpec:=ZbQ [1,3,4] (Zaa (Zak celConfig) (Zaa (Zad .i64) (Zac (Zad .i64)))) (⟨.exit 0,[3],(Zac (Zad .i64))⟩:Way) (Zav Zid)
theorem ZCW:LoopOK e36 15 ZBH (ZaT e36.P 36 3) :=
 Za9 (L:=ZaA []) (rounds:=20) (depth:=6) (ts:=[1,3,4]) (v:=(Zaa (Zak celConfig) (Zaa (Zad .i64) (Zac (Zad .i64))))) (a:=⟨.exit 0,[3],(Zac (Zad .i64))⟩) (step:=Zid) g36 rfl ZaD (fun x=>by kernel_rfl)
def s36:Spec:=Zar (Zac (Zap celConfig)) (Zat (Zad .i64)) Zfj
theorem ok36:Zaq Tryz.prog 36 s36 :=
 Zaj (V:=e36) (L:=(ZaA [(3,ZBH)])) (rounds:=20) (depth:=6) g36 (ZaV (nt:=15) (by kernel_rfl) (Zbd (by kernel_rfl)) (Zay ZCW ZaF)) (fun x=>by kernel_rfl)
def e74:Env:=env1 [(36,s36)]
theorem g74:Zai e74:=Zan mix1 ent1 (Zab ok36 rfl Zag)
def s74:Spec:=Zar (Zac (Zap celConfig)) (Zat (Zad .i64)) ZdF
theorem ok74:Zaq Tryz.prog 74 s74 :=
 Zaj (V:=e74) (L:=nL) (rounds:=20) (depth:=6) g74 Zal (fun x=>by kernel_rfl)
def e34:Env:=env1 [(74,s74)]
theorem g34:Zai e34:=Zan mix1 ent1 (Zab ok74 rfl Zag)
def s34:Spec:=Zar (Zac (Zap celConfig)) (Zat (Zad .i64)) ZfY
theorem ok34:Zaq Tryz.prog 34 s34 :=
 Zaj (V:=e34) (L:=nL) (rounds:=20) (depth:=6) g34 Zal (fun x=>by kernel_rfl)
def e17:Env:=env1 [(23,s23),(34,s34)]
theorem g17:Zai e17:=Zan mix1 ent1 (Zab ok23 rfl (Zab ok34 rfl Zag))
def s17:Spec:=Zar (Zac (Zap Zas)) (Zat (ZaE)) ZlY
theorem ok17:Zaq Tryz.prog 17 s17 :=
 Zaj (V:=e17) (L:=nL) (rounds:=20) (depth:=6) g17 Zal (fun x=>by kernel_rfl)
def e29:Env:=env1 []
theorem g29:Zai e29:=Zan mix1 ent1 Zag
def ZB9:LSpec:=Zdh [0,1,5] (Zaa (Zau .entry) (Zaa (Zau .entry) (Zac (Zad .i64)))) (⟨.exit 0,[],Zbz⟩:Way) (⟨.ret,[4],(Zac (ZaE))⟩:Way) (Zav ZeD)
theorem ZCX:LoopOK e29 26 ZB9 (ZaT e29.P 29 4) :=
 Zcg (L:=ZaA []) (rounds:=20) (depth:=6) (ts:=[0,1,5]) (v:=(Zaa (Zau .entry) (Zaa (Zau .entry) (Zac (Zad .i64))))) (a:=⟨.exit 0,[],Zbz⟩) (b:=⟨.ret,[4],(Zac (ZaE))⟩) (step:=ZeD) g29 rfl rfl ZaD (fun x=>by kernel_rfl)
def s29:Spec:=Zar (Zaa (Zau .entry) (Zac (Zau .entry))) (Zat (ZaE)) Zf3
theorem ok29:Zaq Tryz.prog 29 s29 :=
 Zaj (V:=e29) (L:=(ZaA [(4,ZB9)])) (rounds:=20) (depth:=6) g29 (ZaV (nt:=26) (by kernel_rfl) (Zbd (by kernel_rfl)) (Zay ZCX ZaF)) (fun x=>by kernel_rfl)
def e94:Env:=env1 []
theorem g94:Zai e94:=Zan mix1 ent1 Zag
def ZBw:LSpec:=Zdh [0,1,5] (Zaa (Zau .int) (Zaa (Zau .int) (Zac (Zad .i64)))) (⟨.exit 0,[],Zbz⟩:Way) (⟨.ret,[4],(Zac (ZaE))⟩:Way) (Zav ZeM)
theorem ZC6:LoopOK e94 26 ZBw (ZaT e94.P 94 4) :=
 Zcg (L:=ZaA []) (rounds:=20) (depth:=6) (ts:=[0,1,5]) (v:=(Zaa (Zau .int) (Zaa (Zau .int) (Zac (Zad .i64))))) (a:=⟨.exit 0,[],Zbz⟩) (b:=⟨.ret,[4],(Zac (ZaE))⟩) (step:=ZeM) g94 rfl rfl ZaD (fun x=>by kernel_rfl)
def s94:Spec:=Zar (Zaa (Zau .int) (Zac (Zau .int))) (Zat (ZaE)) Zf6
theorem ok94:Zaq Tryz.prog 94 s94 :=
 Zaj (V:=e94) (L:=(ZaA [(4,ZBw)])) (rounds:=20) (depth:=6) g94 (ZaV (nt:=26) (by kernel_rfl) (Zbd (by kernel_rfl)) (Zay ZC6 ZaF)) (fun x=>by kernel_rfl)
def e56:Env:=env1 [(29,s29),(94,s94)]
theorem g56:Zai e56:=Zan mix1 ent1 (Zab ok29 rfl (Zab ok94 rfl Zag))
def ZCz:LSpec:=Zdh [2,3,5] (Zaa (Zak ZaB) (Zaa (Zak ZaB) (Zac (Zad .i64)))) (⟨.exit 0,[],Zbz⟩:Way) (⟨.ret,[4],(Zac (ZaE))⟩:Way) (Zav ZeK)
theorem ZC2:LoopOK e56 40 ZCz (ZaT e56.P 56 4) :=
 Zcg (L:=ZaA []) (rounds:=20) (depth:=6) (ts:=[2,3,5]) (v:=(Zaa (Zak ZaB) (Zaa (Zak ZaB) (Zac (Zad .i64))))) (a:=⟨.exit 0,[],Zbz⟩) (b:=⟨.ret,[4],(Zac (ZaE))⟩) (step:=ZeK) g56 rfl rfl ZaD (fun x=>by kernel_rfl)
def s56:Spec:=Zar (Zaa (Zap ZaB) (Zac (Zap ZaB))) (Zat (ZaE)) Zhy
theorem ok56:Zaq Tryz.prog 56 s56 :=
 Zaj (V:=e56) (L:=(ZaA [(4,ZCz)])) (rounds:=20) (depth:=6) g56 (ZaV (nt:=40) (by kernel_rfl) (Zbd (by kernel_rfl)) (Zay ZC2 ZaF)) (fun x=>by kernel_rfl)
def e57:Env:=env1 [(29,s29),(94,s94)]
theorem g57:Zai e57:=Zan mix1 ent1 (Zab ok29 rfl (Zab ok94 rfl Zag))
def ZBM:LSpec:=Zdh [2,3,5] (Zaa (Zak Za0) (Zaa (Zak Za0) (Zac (Zad .i64)))) (⟨.exit 0,[2,3],(Zaa (Zak Za0) (Zac (Zak Za0)))⟩:Way) (⟨.ret,[4],(Zac (ZaE))⟩:Way) (Zav ZeJ)
theorem ZDv:LoopOK e57 136 ZBM (ZaT e57.P 57 4) :=
 Zcg (L:=ZaA []) (rounds:=20) (depth:=6) (ts:=[2,3,5]) (v:=(Zaa (Zak Za0) (Zaa (Zak Za0) (Zac (Zad .i64))))) (a:=⟨.exit 0,[2,3],(Zaa (Zak Za0) (Zac (Zak Za0)))⟩) (b:=⟨.ret,[4],(Zac (ZaE))⟩) (step:=ZeJ) g57 rfl rfl ZaD (fun x=>by kernel_rfl)
def s57:Spec:=Zar (Zaa (Zap Za0) (Zac (Zap Za0))) (Zat (ZaE)) ZhD
theorem ok57:Zaq Tryz.prog 57 s57 :=
 Zaj (V:=e57) (L:=(ZaA [(4,ZBM)])) (rounds:=20) (depth:=6) g57 (ZaV (nt:=136) (by kernel_rfl) (Zbd (by kernel_rfl)) (Zay ZDv ZaF)) (fun x=>by kernel_rfl)
def e58:Env:=env1 []
theorem g58:Zai e58:=Zan mix1 ent1 Zag
def ZB5:LSpec:=Zdh [2,3,5] (Zaa (Zak Zbj) (Zaa (Zak Zbj) (Zac (Zad .i64)))) (⟨.exit 0,[],Zbz⟩:Way) (⟨.ret,[4],(Zac (ZaE))⟩:Way) (Zav ZeX)
theorem ZCT:LoopOK e58 38 ZB5 (ZaT e58.P 58 4) :=
 Zcg (L:=ZaA []) (rounds:=20) (depth:=6) (ts:=[2,3,5]) (v:=(Zaa (Zak Zbj) (Zaa (Zak Zbj) (Zac (Zad .i64))))) (a:=⟨.exit 0,[],Zbz⟩) (b:=⟨.ret,[4],(Zac (ZaE))⟩) (step:=ZeX) g58 rfl rfl ZaD (fun x=>by kernel_rfl)
def s58:Spec:=Zar (Zaa (Zap Zbj) (Zac (Zap Zbj))) (Zat (ZaE)) Zho
theorem ok58:Zaq Tryz.prog 58 s58 :=
 Zaj (V:=e58) (L:=(ZaA [(4,ZB5)])) (rounds:=20) (depth:=6) g58 (ZaV (nt:=38) (by kernel_rfl) (Zbd (by kernel_rfl)) (Zay ZCT ZaF)) (fun x=>by kernel_rfl)
def e59:Env:=env1 []
theorem g59:Zai e59:=Zan mix1 ent1 Zag
def ZCk:LSpec:=Zdh [0,1,5] (Zaa (Zau .mark) (Zaa (Zau .mark) (Zac (Zad .i64)))) (⟨.exit 0,[],Zbz⟩:Way) (⟨.ret,[4],(Zac (ZaE))⟩:Way) (Zav Zeq)
theorem ZDl:LoopOK e59 26 ZCk (ZaT e59.P 59 4) :=
 Zcg (L:=ZaA []) (rounds:=20) (depth:=6) (ts:=[0,1,5]) (v:=(Zaa (Zau .mark) (Zaa (Zau .mark) (Zac (Zad .i64))))) (a:=⟨.exit 0,[],Zbz⟩) (b:=⟨.ret,[4],(Zac (ZaE))⟩) (step:=Zeq) g59 rfl rfl ZaD (fun x=>by kernel_rfl)
def s59:Spec:=Zar (Zaa (Zau .mark) (Zac (Zau .mark))) (Zat (ZaE)) ZgO
theorem ok59:Zaq Tryz.prog 59 s59 :=
 Zaj (V:=e59) (L:=(ZaA [(4,ZCk)])) (rounds:=20) (depth:=6) g59 (ZaV (nt:=26) (by kernel_rfl) (Zbd (by kernel_rfl)) (Zay ZDl ZaF)) (fun x=>by kernel_rfl)
def e19:Env:=env1 [(56,s56),(57,s57),(58,s58),(59,s59)]
theorem g19:Zai e19:=Zan mix1 ent1 (Zab ok56 rfl (Zab ok57 rfl (Zab ok58 rfl (Zab ok59 rfl Zag))))
def s19:Spec:=Zar (Zaa (Zap Zas) (Zac (Zap Zas))) (Zat (ZaE)) Zj4
theorem ok19:Zaq Tryz.prog 19 s19 :=
 Zaj (V:=e19) (L:=nL) (rounds:=20) (depth:=6) g19 Zal (fun x=>by kernel_rfl)
def e30:Env:=env1 []
theorem g30:Zai e30:=Zan mix1 ent1 Zag
def ZBI:LSpec:=ZbQ [0,3,4] (Zaa (Zau .entry) (Zaa (ZaH 137 .entry) (Zac (Zad .i64)))) (⟨.exit 0,[3],(Zac (ZaH 137 .entry))⟩:Way) (Zav Zgt)
theorem ZDB:LoopOK e30 27 ZBI (ZaT e30.P 30 3) :=
 Za9 (L:=ZaA []) (rounds:=20) (depth:=6) (ts:=[0,3,4]) (v:=(Zaa (Zau .entry) (Zaa (ZaH 137 .entry) (Zac (Zad .i64))))) (a:=⟨.exit 0,[3],(Zac (ZaH 137 .entry))⟩) (step:=Zgt) g30 rfl ZaD (fun x=>by kernel_rfl)
def s30:Spec:=Zar (Zac (Zau .entry)) (Zat (ZaH 137 .entry)) ZhB
theorem ok30:Zaq Tryz.prog 30 s30 :=
 Zaj (V:=e30) (L:=(ZaA [(3,ZBI)])) (rounds:=20) (depth:=6) g30 (ZaV (nt:=27) (by kernel_rfl) (Zbd (by kernel_rfl)) (Zay ZDB ZaF)) (fun x=>by kernel_rfl)
def e60:Env:=env1 [(30,s30)]
theorem g60:Zai e60:=Zan mix1 ent1 (Zab ok30 rfl Zag)
def ZCc:LSpec:=ZbQ [1,2,3,4] (Zaa (Zak ZaB) (Zaa (Zak ZaB) (Zaa (Zak (Za5 (Zae (Za6 .int) (ZaJ 47 (.lst .entry))) Memo (fun y=>⟨y.1,y.2⟩) (fun x=>(x.words,x.boxes)) (fun _=>rfl))) (Zac (Zad .i64))))) (⟨.exit 0,[2,3],(Zaa (Zak ZaB) (Zac (Zak (Za5 (Zae (Za6 .int) (ZaJ 47 (.lst .entry))) Memo (fun y=>⟨y.1,y.2⟩) (fun x=>(x.words,x.boxes)) (fun _=>rfl)))))⟩:Way) (Zav Zg0)
theorem ZCS:LoopOK e60 27 ZCc (ZaT e60.P 60 3) :=
 Za9 (L:=ZaA []) (rounds:=20) (depth:=6) (ts:=[1,2,3,4]) (v:=(Zaa (Zak ZaB) (Zaa (Zak ZaB) (Zaa (Zak (Za5 (Zae (Za6 .int) (ZaJ 47 (.lst .entry))) Memo (fun y=>⟨y.1,y.2⟩) (fun x=>(x.words,x.boxes)) (fun _=>rfl))) (Zac (Zad .i64)))))) (a:=⟨.exit 0,[2,3],(Zaa (Zak ZaB) (Zac (Zak (Za5 (Zae (Za6 .int) (ZaJ 47 (.lst .entry))) Memo (fun y=>⟨y.1,y.2⟩) (fun x=>(x.words,x.boxes)) (fun _=>rfl)))))⟩) (step:=Zg0) g60 rfl ZaD (fun x=>by kernel_rfl)
def s60:Spec:=Zar (Zac (Zap ZaB)) (Zat (Zap ZaB)) Zmo
theorem ok60:Zaq Tryz.prog 60 s60 :=
 Zaj (V:=e60) (L:=(ZaA [(3,ZCc)])) (rounds:=20) (depth:=6) g60 (ZaV (nt:=27) (by kernel_rfl) (Zbd (by kernel_rfl)) (Zay ZCS ZaF)) (fun x=>by kernel_rfl)
def e61:Env:=env1 [(30,s30)]
theorem g61:Zai e61:=Zan mix1 ent1 (Zab ok30 rfl Zag)
def ZBx:LSpec:=ZbQ [1,2,3,4] (Zaa (Zak Za0) (Zaa (Zak Za0) (Zaa (Zak (Za5 (Zae (Zao .i64) (Zae (Zao .i64) (Zae celOp (Zae (Za6 .entry) (Zae (ZaJ 160 .kid) (Zae (Za6 .int) (Zae (Zao .i64) (Zae (Zao .i64) (Zae (Zao .i64) (Zae (Zao .i64) (Zae (Zao .i64) (Zae (Zao .i64) (Zae (Zao .i64) (Zae (Zao .i64) (Zae (Zao .i64) (Zao .i64)))))))))))))))) Thread (fun y=>⟨y.1,y.2.1,y.2.2.1,y.2.2.2.1,y.2.2.2.2.1,y.2.2.2.2.2.1,y.2.2.2.2.2.2.1,y.2.2.2.2.2.2.2.1,y.2.2.2.2.2.2.2.2.1,y.2.2.2.2.2.2.2.2.2.1,y.2.2.2.2.2.2.2.2.2.2.1,y.2.2.2.2.2.2.2.2.2.2.2.1,y.2.2.2.2.2.2.2.2.2.2.2.2.1,y.2.2.2.2.2.2.2.2.2.2.2.2.2.1,y.2.2.2.2.2.2.2.2.2.2.2.2.2.2.1,y.2.2.2.2.2.2.2.2.2.2.2.2.2.2.2⟩) (fun x=>(x.phase,(x.item,(x.op,(x.batch,(x.kids,(x.held,(x.stop,(x.node,(x.at_,(x.layer,(x.left,(x.width,(x.who,(x.x,(x.y,x.until_)))))))))))))))) (fun _=>rfl))) (Zac (Zad .i64))))) (⟨.exit 0,[2,3],(Zaa (Zak Za0) (Zac (Zak (Za5 (Zae (Zao .i64) (Zae (Zao .i64) (Zae celOp (Zae (Za6 .entry) (Zae (ZaJ 160 .kid) (Zae (Za6 .int) (Zae (Zao .i64) (Zae (Zao .i64) (Zae (Zao .i64) (Zae (Zao .i64) (Zae (Zao .i64) (Zae (Zao .i64) (Zae (Zao .i64) (Zae (Zao .i64) (Zae (Zao .i64) (Zao .i64)))))))))))))))) Thread (fun y=>⟨y.1,y.2.1,y.2.2.1,y.2.2.2.1,y.2.2.2.2.1,y.2.2.2.2.2.1,y.2.2.2.2.2.2.1,y.2.2.2.2.2.2.2.1,y.2.2.2.2.2.2.2.2.1,y.2.2.2.2.2.2.2.2.2.1,y.2.2.2.2.2.2.2.2.2.2.1,y.2.2.2.2.2.2.2.2.2.2.2.1,y.2.2.2.2.2.2.2.2.2.2.2.2.1,y.2.2.2.2.2.2.2.2.2.2.2.2.2.1,y.2.2.2.2.2.2.2.2.2.2.2.2.2.2.1,y.2.2.2.2.2.2.2.2.2.2.2.2.2.2.2⟩) (fun x=>(x.phase,(x.item,(x.op,(x.batch,(x.kids,(x.held,(x.stop,(x.node,(x.at_,(x.layer,(x.left,(x.width,(x.who,(x.x,(x.y,x.until_)))))))))))))))) (fun _=>rfl)))))⟩:Way) (Zav ZhL)
theorem ZDJ:LoopOK e61 55 ZBx (ZaT e61.P 61 3) :=
 Za9 (L:=ZaA []) (rounds:=20) (depth:=6) (ts:=[1,2,3,4]) (v:=(Zaa (Zak Za0) (Zaa (Zak Za0) (Zaa (Zak (Za5 (Zae (Zao .i64) (Zae (Zao .i64) (Zae celOp (Zae (Za6 .entry) (Zae (ZaJ 160 .kid) (Zae (Za6 .int) (Zae (Zao .i64) (Zae (Zao .i64) (Zae (Zao .i64) (Zae (Zao .i64) (Zae (Zao .i64) (Zae (Zao .i64) (Zae (Zao .i64) (Zae (Zao .i64) (Zae (Zao .i64) (Zao .i64)))))))))))))))) Thread (fun y=>⟨y.1,y.2.1,y.2.2.1,y.2.2.2.1,y.2.2.2.2.1,y.2.2.2.2.2.1,y.2.2.2.2.2.2.1,y.2.2.2.2.2.2.2.1,y.2.2.2.2.2.2.2.2.1,y.2.2.2.2.2.2.2.2.2.1,y.2.2.2.2.2.2.2.2.2.2.1,y.2.2.2.2.2.2.2.2.2.2.2.1,y.2.2.2.2.2.2.2.2.2.2.2.2.1,y.2.2.2.2.2.2.2.2.2.2.2.2.2.1,y.2.2.2.2.2.2.2.2.2.2.2.2.2.2.1,y.2.2.2.2.2.2.2.2.2.2.2.2.2.2.2⟩) (fun x=>(x.phase,(x.item,(x.op,(x.batch,(x.kids,(x.held,(x.stop,(x.node,(x.at_,(x.layer,(x.left,(x.width,(x.who,(x.x,(x.y,x.until_)))))))))))))))) (fun _=>rfl))) (Zac (Zad .i64)))))) (a:=⟨.exit 0,[2,3],(Zaa (Zak Za0) (Zac (Zak (Za5 (Zae (Zao .i64) (Zae (Zao .i64) (Zae celOp (Zae (Za6 .entry) (Zae (ZaJ 160 .kid) (Zae (Za6 .int) (Zae (Zao .i64) (Zae (Zao .i64) (Zae (Zao .i64) (Zae (Zao .i64) (Zae (Zao .i64) (Zae (Zao .i64) (Zae (Zao .i64) (Zae (Zao .i64) (Zae (Zao .i64) (Zao .i64)))))))))))))))) Thread (fun y=>⟨y.1,y.2.1,y.2.2.1,y.2.2.2.1,y.2.2.2.2.1,y.2.2.2.2.2.1,y.2.2.2.2.2.2.1,y.2.2.2.2.2.2.2.1,y.2.2.2.2.2.2.2.2.1,y.2.2.2.2.2.2.2.2.2.1,y.2.2.2.2.2.2.2.2.2.2.1,y.2.2.2.2.2.2.2.2.2.2.2.1,y.2.2.2.2.2.2.2.2.2.2.2.2.1,y.2.2.2.2.2.2.2.2.2.2.2.2.2.1,y.2.2.2.2.2.2.2.2.2.2.2.2.2.2.1,y.2.2.2.2.2.2.2.2.2.2.2.2.2.2.2⟩) (fun x=>(x.phase,(x.item,(x.op,(x.batch,(x.kids,(x.held,(x.stop,(x.node,(x.at_,(x.layer,(x.left,(x.width,(x.who,(x.x,(x.y,x.until_)))))))))))))))) (fun _=>rfl)))))⟩) (step:=ZhL) g61 rfl ZaD (fun x=>by kernel_rfl)
def s61:Spec:=Zar (Zac (Zap Za0)) (Zat (Zap Za0)) Znr
theorem ok61:Zaq Tryz.prog 61 s61 :=
 Zaj (V:=e61) (L:=(ZaA [(3,ZBx)])) (rounds:=20) (depth:=6) g61 (ZaV (nt:=55) (by kernel_rfl) (Zbd (by kernel_rfl)) (Zay ZDJ ZaF)) (fun x=>by kernel_rfl)
def e62:Env:=env1 []
theorem g62:Zai e62:=Zan mix1 ent1 Zag
def ZB3:LSpec:=ZbQ [0,3,4] (Zaa (Zau .mark) (Zaa (ZaH 162 .mark) (Zac (Zad .i64)))) (⟨.exit 0,[3],(Zac (ZaH 162 .mark))⟩:Way) (Zav Zhl)
theorem ZDH:LoopOK e62 42 ZB3 (ZaT e62.P 62 3) :=
 Za9 (L:=ZaA []) (rounds:=20) (depth:=6) (ts:=[0,3,4]) (v:=(Zaa (Zau .mark) (Zaa (ZaH 162 .mark) (Zac (Zad .i64))))) (a:=⟨.exit 0,[3],(Zac (ZaH 162 .mark))⟩) (step:=Zhl) g62 rfl ZaD (fun x=>by kernel_rfl)
def s62:Spec:=Zar (Zac (Zau .mark)) (Zat (Zau .mark)) ZnH
theorem ok62:Zaq Tryz.prog 62 s62 :=
 Zaj (V:=e62) (L:=(ZaA [(3,ZB3)])) (rounds:=20) (depth:=6) g62 (ZaV (nt:=42) (by kernel_rfl) (Zbd (by kernel_rfl)) (Zay ZDH ZaF)) (fun x=>by kernel_rfl)
def e20:Env:=env1 [(60,s60),(61,s61),(62,s62)]
theorem g20:Zai e20:=Zan mix1 ent1 (Zab ok60 rfl (Zab ok61 rfl (Zab ok62 rfl Zag)))
def s20:Spec:=Zar (Zac (Zap Zas)) (Zat (Zap Zas)) ZgN
theorem ok20:Zaq Tryz.prog 20 s20 :=
 Zaj (V:=e20) (L:=nL) (rounds:=20) (depth:=6) g20 Zal (fun x=>by kernel_rfl)
def e69:Env:=env1 []
theorem g69:Zai e69:=Zan mix1 ent1 Zag
def s69:Spec:=Zar (Zaa (Zad .i64) (Zac (Zad .i64))) (Zbk (Zaa (Zad .i64) (Zac (ZaE)))) Zfx
theorem ok69:Zaq Tryz.prog 69 s69 :=
 Zaj (V:=e69) (L:=nL) (rounds:=20) (depth:=6) g69 Zal (fun x=>by kernel_rfl)
def e24:Env:=env1 [(69,s69)]
theorem g24:Zai e24:=Zan mix1 ent1 (Zab ok69 rfl Zag)
def s24:Spec:=Zar (Zaa (Zap celOp) (Zaa (Zad .i64) (Zaa (Zad .i64) (Zac (Zad .i64))))) (Zbk (Zaa (Zad .i64) (Zac (ZaE)))) Zc7
theorem ok24:Zaq Tryz.prog 24 s24 :=
 Zaj (V:=e24) (L:=nL) (rounds:=20) (depth:=6) g24 Zal (fun x=>by kernel_rfl)
def e118:Env:=env1 []
theorem g118:Zai e118:=Zan mix1 ent1 Zag
def s118:Spec:=Zar (Zac (Zad .i64)) (Zat (ZaH 3 .int)) Zhn
theorem ZE9:Zaq Tryz.prog 118 s118 :=
 Zaj (V:=e118) (L:=nL) (rounds:=20) (depth:=6) g118 Zal (fun x=>by kernel_rfl)
def e119:Env:=env1 []
theorem g119:Zai e119:=Zan mix1 ent1 Zag
def s119:Spec:=Zar (Zac (Zad .i64)) (Zat (ZaH 30 (.lst .entry))) Zd8
theorem ZE5:Zaq Tryz.prog 119 s119 :=
 Zaj (V:=e119) (L:=nL) (rounds:=20) (depth:=6) g119 Zal (fun x=>by kernel_rfl)
def e70:Env:=env1 [(118,s118),(119,s119)]
theorem g70:Zai e70:=Zan mix1 ent1 (Zab ZE9 rfl (Zab ZE5 rfl Zag))
def s70:Spec:=Zar (Zaa (Zad .i64) (Zac (Zad .i64))) (Zat (Zap (Za5 (Zae (ZaJ 3 .int) (ZaJ 30 (.lst .entry))) Memo (fun y=>⟨y.1,y.2⟩) (fun x=>(x.words,x.boxes)) (fun _=>rfl)))) Zm3
theorem ok70:Zaq Tryz.prog 70 s70 :=
 Zaj (V:=e70) (L:=nL) (rounds:=20) (depth:=6) g70 Zal (fun x=>by kernel_rfl)
def e148:Env:=env1 []
theorem g148:Zai e148:=Zan mix1 ent1 Zag
def s148:Spec:=Zar (Zac (Zap celConfig)) (Zat (Zad .i64)) Zfg
theorem ZBK:Zaq Tryz.prog 148 s148 :=
 Zaj (V:=e148) (L:=nL) (rounds:=20) (depth:=6) g148 Zal (fun x=>by kernel_rfl)
def e120:Env:=env1 [(148,s148)]
theorem g120:Zai e120:=Zan mix1 ent1 (Zab ZBK rfl Zag)
def s120:Spec:=Zar (Zac (Zap celConfig)) (Zat (Zap ZDM)) Zco
theorem ZoX:Zaq Tryz.prog 120 s120 :=
 Zaj (V:=e120) (L:=nL) (rounds:=20) (depth:=6) g120 Zal (fun x=>by kernel_rfl)
def e71:Env:=env1 [(120,s120)]
theorem g71:Zai e71:=Zan mix1 ent1 (Zab ZoX rfl Zag)
def s71:Spec:=Zar (Zac (Zap celConfig)) (Zat (Zad .i64)) ZkI
theorem ok71:Zaq Tryz.prog 71 s71 :=
 Zaj (V:=e71) (L:=nL) (rounds:=20) (depth:=6) g71 Zal (fun x=>by kernel_rfl)
def e72:Env:=env1 [(120,s120)]
theorem g72:Zai e72:=Zan mix1 ent1 (Zab ZoX rfl Zag)
def s72:Spec:=Zar (Zaa (Zap celConfig) (Zac (Zad .i64))) (Zat (Zad .i64)) Zdq
theorem ok72:Zaq Tryz.prog 72 s72 :=
 Zaj (V:=e72) (L:=nL) (rounds:=20) (depth:=6) g72 Zal (fun x=>by kernel_rfl)
def e25:Env:=env1 [(70,s70),(71,s71),(72,s72)]
theorem g25:Zai e25:=Zan mix1 ent1 (Zab ok70 rfl (Zab ok71 rfl (Zab ok72 rfl Zag)))
def ZB8:LSpec:=ZbQ [1,2,3,11,12] (Zaa (Zak celConfig) (Zaa (Zak ZaB) (Zaa (Zak (Za5 (Zae (ZaJ 3 .int) (ZaJ 30 (.lst .entry))) Memo (fun y=>⟨y.1,y.2⟩) (fun x=>(x.words,x.boxes)) (fun _=>rfl))) (Zaa (Zad .i64) (Zac (Zad .i64)))))) (⟨.exit 0,[2,3],(Zaa (Zak ZaB) (Zac (Zak (Za5 (Zae (ZaJ 3 .int) (ZaJ 30 (.lst .entry))) Memo (fun y=>⟨y.1,y.2⟩) (fun x=>(x.words,x.boxes)) (fun _=>rfl)))))⟩:Way) (Zav ZfA)
theorem ZCZ:LoopOK e25 25 ZB8 (ZaT e25.P 25 3) :=
 Za9 (L:=ZaA []) (rounds:=20) (depth:=6) (ts:=[1,2,3,11,12]) (v:=(Zaa (Zak celConfig) (Zaa (Zak ZaB) (Zaa (Zak (Za5 (Zae (ZaJ 3 .int) (ZaJ 30 (.lst .entry))) Memo (fun y=>⟨y.1,y.2⟩) (fun x=>(x.words,x.boxes)) (fun _=>rfl))) (Zaa (Zad .i64) (Zac (Zad .i64))))))) (a:=⟨.exit 0,[2,3],(Zaa (Zak ZaB) (Zac (Zak (Za5 (Zae (ZaJ 3 .int) (ZaJ 30 (.lst .entry))) Memo (fun y=>⟨y.1,y.2⟩) (fun x=>(x.words,x.boxes)) (fun _=>rfl)))))⟩) (step:=ZfA) g25 rfl ZaD (fun x=>by kernel_rfl)
def s25:Spec:=Zar (Zac (Zap celConfig)) (Zat (Zap (Za5 (Zae (ZaJ 3 .int) (ZaJ 30 (.lst .entry))) Memo (fun y=>⟨y.1,y.2⟩) (fun x=>(x.words,x.boxes)) (fun _=>rfl)))) ZdI
theorem ok25:Zaq Tryz.prog 25 s25 :=
 Zaj (V:=e25) (L:=(ZaA [(3,ZB8)])) (rounds:=20) (depth:=6) g25 (ZaV (nt:=25) (by kernel_rfl) (Zbd (by kernel_rfl)) (Zay ZCZ ZaF)) (fun x=>by kernel_rfl)
def e73:Env:=env1 []
theorem g73:Zai e73:=Zan mix1 ent1 Zag
def s73:Spec:=Zar (Zaa (Zad .i64) (Zac (Zad .i64))) (Zat (Zad .i64)) ZkE
theorem ok73:Zaq Tryz.prog 73 s73 :=
 Zaj (V:=e73) (L:=nL) (rounds:=20) (depth:=6) g73 Zal (fun x=>by kernel_rfl)
def e26:Env:=env1 [(73,s73)]
theorem g26:Zai e26:=Zan mix1 ent1 (Zab ok73 rfl Zag)
def s26:Spec:=Zar (Zaa (Zap celConfig) (Zaa (Zad .i64) (Zaa (Zap Za0) (Zaa (Zad .i64) (Zaa (Zap celOp) (Zac (Zad .i64))))))) (Zat (Zap Za0)) ZcB
theorem ok26:Zaq Tryz.prog 26 s26 :=
 Zaj (V:=e26) (L:=nL) (rounds:=20) (depth:=6) g26 Zal (fun x=>by kernel_rfl)
def e27:Env:=env1 []
theorem g27:Zai e27:=Zan mix1 ent1 Zag
def s27:Spec:=Zar Zbz (Zat (Zap Za0)) Zd6
theorem ok27:Zaq Tryz.prog 27 s27 :=
 Zaj (V:=e27) (L:=nL) (rounds:=20) (depth:=6) g27 Zal (fun x=>by kernel_rfl)
def e28:Env:=env1 [(17,s17)]
theorem g28:Zai e28:=Zan mix1 ent1 (Zab ok17 rfl Zag)
def s28:Spec:=Zar (Zac (Zap Zas)) (Zat (ZaE)) Zly
theorem ok28:Zaq Tryz.prog 28 s28 :=
 Zaj (V:=e28) (L:=nL) (rounds:=20) (depth:=6) g28 Zal (fun x=>by kernel_rfl)
def e31:Env:=env1 []
theorem g31:Zai e31:=Zan mix1 ent1 Zag
def s31:Spec:=Zar (Zaa (Zap celOp) (Zac (ZaE))) (Zat (ZaE)) ZgH
theorem ok31:Zaq Tryz.prog 31 s31 :=
 Zaj (V:=e31) (L:=nL) (rounds:=20) (depth:=6) g31 Zal (fun x=>by kernel_rfl)
def e32:Env:=env1 []
theorem g32:Zai e32:=Zan mix1 ent1 Zag
def s32:Spec:=Zar (Zac (Zap celConfig)) (Zat (Zad .i64)) ZmA
theorem ok32:Zaq Tryz.prog 32 s32 :=
 Zaj (V:=e32) (L:=nL) (rounds:=20) (depth:=6) g32 Zal (fun x=>by kernel_rfl)
def e33:Env:=env1 []
theorem g33:Zai e33:=Zan mix1 ent1 Zag
def s33:Spec:=Zar (Zac (Zap Za0)) (Zat (ZaE)) Zbn
theorem ok33:Zaq Tryz.prog 33 s33 :=
 Zaj (V:=e33) (L:=nL) (rounds:=20) (depth:=6) g33 Zal (fun x=>by kernel_rfl)
def e35:Env:=env1 [(74,s74)]
theorem g35:Zai e35:=Zan mix1 ent1 (Zab ok74 rfl Zag)
def s35:Spec:=Zar (Zaa (Zap celConfig) (Zac (Zad .i64))) (Zat (Zad .i64)) ZeE
theorem ok35:Zaq Tryz.prog 35 s35 :=
 Zaj (V:=e35) (L:=nL) (rounds:=20) (depth:=6) g35 Zal (fun x=>by kernel_rfl)
def e37:Env:=env1 [(36,s36),(74,s74)]
theorem g37:Zai e37:=Zan mix1 ent1 (Zab ok36 rfl (Zab ok74 rfl Zag))
def s37:Spec:=Zar (Zaa (Zap celConfig) (Zaa (Zad .i64) (Zac (Zad .i64)))) (Zat (Zad .i64)) Zf2
theorem ok37:Zaq Tryz.prog 37 s37 :=
 Zaj (V:=e37) (L:=nL) (rounds:=20) (depth:=6) g37 Zal (fun x=>by kernel_rfl)
def e38:Env:=env1 [(74,s74)]
theorem g38:Zai e38:=Zan mix1 ent1 (Zab ok74 rfl Zag)
def s38:Spec:=Zar (Zaa (Zap celConfig) (Zac (Zad .i64))) (Zat (Zad .i64)) Zdm
theorem ok38:Zaq Tryz.prog 38 s38 :=
 Zaj (V:=e38) (L:=nL) (rounds:=20) (depth:=6) g38 Zal (fun x=>by kernel_rfl)
def e39:Env:=env1 []
theorem g39:Zai e39:=Zan mix1 ent1 Zag
def s39:Spec:=Zar (Zaa (Zau .sentry) (Zac (Zau .int))) (Zat (ZaE)) ZkD
theorem ok39:Zaq Tryz.prog 39 s39 :=
 Zaj (V:=e39) (L:=nL) (rounds:=20) (depth:=6) g39 Zal (fun x=>by kernel_rfl)
def e127:Env:=env1 []
theorem g127:Zai e127:=Zan mix1 ent1 Zag
def Zz8:LSpec:=ZbQ [1,4,5,7] (Zaa (Zad .i64) (Zaa (Zak ZaB) (Zaa (Zak (Za5 (Zae (ZaJ 3 .int) (ZaJ 47 (.lst .entry))) Memo (fun y=>⟨y.1,y.2⟩) (fun x=>(x.words,x.boxes)) (fun _=>rfl))) (Zac (Zad .i64))))) (⟨.exit 2,[4,5],(Zaa (Zak ZaB) (Zac (Zak (Za5 (Zae (ZaJ 3 .int) (ZaJ 47 (.lst .entry))) Memo (fun y=>⟨y.1,y.2⟩) (fun x=>(x.words,x.boxes)) (fun _=>rfl)))))⟩:Way) (Zav Zjy)
theorem ZBs:LoopOK e127 39 Zz8 (ZaT e127.P 127 7) :=
 Za9 (L:=ZaA []) (rounds:=20) (depth:=6) (ts:=[1,4,5,7]) (v:=(Zaa (Zad .i64) (Zaa (Zak ZaB) (Zaa (Zak (Za5 (Zae (ZaJ 3 .int) (ZaJ 47 (.lst .entry))) Memo (fun y=>⟨y.1,y.2⟩) (fun x=>(x.words,x.boxes)) (fun _=>rfl))) (Zac (Zad .i64)))))) (a:=⟨.exit 2,[4,5],(Zaa (Zak ZaB) (Zac (Zak (Za5 (Zae (ZaJ 3 .int) (ZaJ 47 (.lst .entry))) Memo (fun y=>⟨y.1,y.2⟩) (fun x=>(x.words,x.boxes)) (fun _=>rfl)))))⟩) (step:=Zjy) g127 rfl ZaD (fun x=>by kernel_rfl)
def ZzD:LSpec:=ZbQ [0,1,4,5,6] (Zaa (Zad .i64) (Zaa (Zad .i64) (Zaa (Zak ZaB) (Zaa (Zak (Za5 (Zae (ZaJ 3 .int) (ZaJ 47 (.lst .entry))) Memo (fun y=>⟨y.1,y.2⟩) (fun x=>(x.words,x.boxes)) (fun _=>rfl))) (Zac (Zad .i64)))))) (⟨.exit 0,[1,4,5],(Zaa (Zad .i64) (Zaa (Zak ZaB) (Zac (Zak (Za5 (Zae (ZaJ 3 .int) (ZaJ 47 (.lst .entry))) Memo (fun y=>⟨y.1,y.2⟩) (fun x=>(x.words,x.boxes)) (fun _=>rfl))))))⟩:Way) (Zav ZjZ)
theorem ZAH:LoopOK e127 39 ZzD (ZaT e127.P 127 3) :=
 Za9 (L:=ZaA []) (rounds:=20) (depth:=6) (ts:=[0,1,4,5,6]) (v:=(Zaa (Zad .i64) (Zaa (Zad .i64) (Zaa (Zak ZaB) (Zaa (Zak (Za5 (Zae (ZaJ 3 .int) (ZaJ 47 (.lst .entry))) Memo (fun y=>⟨y.1,y.2⟩) (fun x=>(x.words,x.boxes)) (fun _=>rfl))) (Zac (Zad .i64))))))) (a:=⟨.exit 0,[1,4,5],(Zaa (Zad .i64) (Zaa (Zak ZaB) (Zac (Zak (Za5 (Zae (ZaJ 3 .int) (ZaJ 47 (.lst .entry))) Memo (fun y=>⟨y.1,y.2⟩) (fun x=>(x.words,x.boxes)) (fun _=>rfl))))))⟩) (step:=ZjZ) g127 rfl ZaD (fun x=>by kernel_rfl)
def s127:Spec:=Zar (Zaa (Zad .i64) (Zac (Zad .i64))) (Zat (Zap ZaB)) ZpE
theorem ZER:Zaq Tryz.prog 127 s127 :=
 Zaj (V:=e127) (L:=(ZaA [(7,Zz8),(3,ZzD)])) (rounds:=20) (depth:=6) g127 (ZaV (nt:=39) (by kernel_rfl) (Zbd (by kernel_rfl)) (Zay ZBs (Zay ZAH ZaF))) (fun x=>by kernel_rfl)
def e128:Env:=env1 []
theorem g128:Zai e128:=Zan mix1 ent1 Zag
def s128:Spec:=Zar (Zaa (Zap ZaB) (Zaa (Zad .i64) (Zac (Zad .i64)))) (Zbk (Zaa (Zap ZaB) (Zac (Zad .i64)))) Zcw
theorem Znb:Zaq Tryz.prog 128 s128 :=
 Zaj (V:=e128) (L:=nL) (rounds:=20) (depth:=6) g128 Zal (fun x=>by kernel_rfl)
def e86:Env:=env1 [(34,s34),(35,s35),(127,s127),(128,s128)]
theorem g86:Zai e86:=Zan mix1 ent1 (Zab ok34 rfl (Zab ok35 rfl (Zab ZER rfl (Zab Znb rfl Zag))))
def ZCD:LSpec:=ZbQ [1,2,3,4] (Zaa (Zak celConfig) (Zaa (Zak ZaB) (Zaa (Zak ZaB) (Zac (Zad .i64))))) (⟨.exit 0,[2,3],(Zaa (Zak ZaB) (Zac (Zak ZaB)))⟩:Way) (Zav ZhZ)
theorem ZDL:LoopOK e86 27 ZCD (ZaT e86.P 86 3) :=
 Za9 (L:=ZaA []) (rounds:=20) (depth:=6) (ts:=[1,2,3,4]) (v:=(Zaa (Zak celConfig) (Zaa (Zak ZaB) (Zaa (Zak ZaB) (Zac (Zad .i64)))))) (a:=⟨.exit 0,[2,3],(Zaa (Zak ZaB) (Zac (Zak ZaB)))⟩) (step:=ZhZ) g86 rfl ZaD (fun x=>by kernel_rfl)
def s86:Spec:=Zar (Zac (Zap celConfig)) (Zat (Zap ZaB)) ZnI
theorem ok86:Zaq Tryz.prog 86 s86 :=
 Zaj (V:=e86) (L:=(ZaA [(3,ZCD)])) (rounds:=20) (depth:=6) g86 (ZaV (nt:=27) (by kernel_rfl) (Zbd (by kernel_rfl)) (Zay ZDL ZaF)) (fun x=>by kernel_rfl)
def e87:Env:=env1 []
theorem g87:Zai e87:=Zan mix1 ent1 Zag
def s87:Spec:=Zar Zbz (Zat (Zap Za0)) Zpn
theorem ok87:Zaq Tryz.prog 87 s87 :=
 Zaj (V:=e87) (L:=nL) (rounds:=20) (depth:=6) g87 Zal (fun x=>by kernel_rfl)
def e51:Env:=env1 [(23,s23),(86,s86),(87,s87)]
theorem g51:Zai e51:=Zan mix1 ent1 (Zab ok23 rfl (Zab ok86 rfl (Zab ok87 rfl Zag)))
def ZBS:LSpec:=ZbQ [2,4,7,8] (Zaa (Zak celConfig) (Zaa (Zak ZaM) (Zaa (Zak (Za5 (Zae celConfig (Zae ZaB (Zae (ZaJ 50 .thread) (Zae (Zao .i64) (Zae (Zao .i64) (Zae Zbj (Zae (Za6 .mark) (Za6 .event)))))))) Wld (fun y=>⟨y.1,y.2.1,y.2.2.1,y.2.2.2.1,y.2.2.2.2.1,y.2.2.2.2.2.1,y.2.2.2.2.2.2.1,y.2.2.2.2.2.2.2⟩) (fun x=>(x.c,(x.m,(x.t,(x.now,(x.steps,(x.tape,(x.log,x.hist)))))))) (fun _=>rfl))) (Zac (Zad .i64))))) (⟨.exit 0,[4,7],(Zaa (Zak ZaM) (Zac (Zak (Za5 (Zae celConfig (Zae ZaB (Zae (ZaJ 50 .thread) (Zae (Zao .i64) (Zae (Zao .i64) (Zae Zbj (Zae (Za6 .mark) (Za6 .event)))))))) Wld (fun y=>⟨y.1,y.2.1,y.2.2.1,y.2.2.2.1,y.2.2.2.2.1,y.2.2.2.2.2.1,y.2.2.2.2.2.2.1,y.2.2.2.2.2.2.2⟩) (fun x=>(x.c,(x.m,(x.t,(x.now,(x.steps,(x.tape,(x.log,x.hist)))))))) (fun _=>rfl)))))⟩:Way) (Zav ZjU)
theorem ZC0:LoopOK e51 36 ZBS (ZaT e51.P 51 6) :=
 Za9 (L:=ZaA []) (rounds:=20) (depth:=6) (ts:=[2,4,7,8]) (v:=(Zaa (Zak celConfig) (Zaa (Zak ZaM) (Zaa (Zak (Za5 (Zae celConfig (Zae ZaB (Zae (ZaJ 50 .thread) (Zae (Zao .i64) (Zae (Zao .i64) (Zae Zbj (Zae (Za6 .mark) (Za6 .event)))))))) Wld (fun y=>⟨y.1,y.2.1,y.2.2.1,y.2.2.2.1,y.2.2.2.2.1,y.2.2.2.2.2.1,y.2.2.2.2.2.2.1,y.2.2.2.2.2.2.2⟩) (fun x=>(x.c,(x.m,(x.t,(x.now,(x.steps,(x.tape,(x.log,x.hist)))))))) (fun _=>rfl))) (Zac (Zad .i64)))))) (a:=⟨.exit 0,[4,7],(Zaa (Zak ZaM) (Zac (Zak (Za5 (Zae celConfig (Zae ZaB (Zae (ZaJ 50 .thread) (Zae (Zao .i64) (Zae (Zao .i64) (Zae Zbj (Zae (Za6 .mark) (Za6 .event)))))))) Wld (fun y=>⟨y.1,y.2.1,y.2.2.1,y.2.2.2.1,y.2.2.2.2.1,y.2.2.2.2.2.1,y.2.2.2.2.2.2.1,y.2.2.2.2.2.2.2⟩) (fun x=>(x.c,(x.m,(x.t,(x.now,(x.steps,(x.tape,(x.log,x.hist)))))))) (fun _=>rfl)))))⟩) (step:=ZjU) g51 rfl ZaD (fun x=>by kernel_rfl)
def s51:Spec:=Zar (Zaa (Zap celConfig) (Zac (Zau .int))) (Zbk (Zaa (Zap ZaM) (Zac (Zad .i64)))) ZpI
theorem ok51:Zaq Tryz.prog 51 s51 :=
 Zaj (V:=e51) (L:=(ZaA [(6,ZBS)])) (rounds:=20) (depth:=6) g51 (ZaV (nt:=36) (by kernel_rfl) (Zbd (by kernel_rfl)) (Zay ZC0 ZaF)) (fun x=>by kernel_rfl)
def e54:Env:=env1 [(31,s31)]
theorem g54:Zai e54:=Zan mix1 ent1 (Zab ok31 rfl Zag)
def s54:Spec:=Zar (Zaa (Zap celConfig) (Zac (Zap ZlB))) (Zat (Zad .i64)) ZjO
theorem ok54:Zaq Tryz.prog 54 s54 :=
 Zaj (V:=e54) (L:=nL) (rounds:=20) (depth:=6) g54 Zal (fun x=>by kernel_rfl)
def e82:Env:=env1 []
theorem g82:Zai e82:=Zan mix1 ent1 Zag
def s82:Spec:=Zar (Zac (Zap Za0)) (Zat (ZaE)) Zhr
theorem ok82:Zaq Tryz.prog 82 s82 :=
 Zaj (V:=e82) (L:=nL) (rounds:=20) (depth:=6) g82 Zal (fun x=>by kernel_rfl)
def e90:Env:=env1 []
theorem g90:Zai e90:=Zan mix1 ent1 Zag
def s90:Spec:=Zar (Zaa (Zap ZaM) (Zac (Zap Zk1))) (Zat (Zap ZaM)) ZhO
theorem ok90:Zaq Tryz.prog 90 s90 :=
 Zaj (V:=e90) (L:=nL) (rounds:=20) (depth:=6) g90 Zal (fun x=>by kernel_rfl)
def e91:Env:=env1 []
theorem g91:Zai e91:=Zan mix1 ent1 Zag
def s91:Spec:=Zar (Zaa (Zap ZaM) (Zaa (Zad .i64) (Zac (Zap Za0)))) (Zat (Zap ZaM)) Zir
theorem ok91:Zaq Tryz.prog 91 s91 :=
 Zaj (V:=e91) (L:=nL) (rounds:=20) (depth:=6) g91 Zal (fun x=>by kernel_rfl)
def e134:Env:=env1 []
theorem g134:Zai e134:=Zan mix1 ent1 Zag
def ZzQ:LSpec:=ZbQ [0,1,5,6] (Zaa (Zad .i64) (Zaa (Zad .i64) (Zaa (Zad .i64) (Zac (Zad .i64))))) (⟨.exit 0,[1,5],(Zaa (Zad .i64) (Zac (Zad .i64)))⟩:Way) (Zav ZiD)
theorem ZBi:LoopOK e134 22 ZzQ (ZaT e134.P 134 5) :=
 Za9 (L:=ZaA []) (rounds:=20) (depth:=6) (ts:=[0,1,5,6]) (v:=(Zaa (Zad .i64) (Zaa (Zad .i64) (Zaa (Zad .i64) (Zac (Zad .i64)))))) (a:=⟨.exit 0,[1,5],(Zaa (Zad .i64) (Zac (Zad .i64)))⟩) (step:=ZiD) g134 rfl ZaD (fun x=>by kernel_rfl)
def s134:Spec:=Zar (Zaa (Zad .i64) (Zac (Zad .i64))) (Zat (Zad .i64)) Zol
theorem ZEf:Zaq Tryz.prog 134 s134 :=
 Zaj (V:=e134) (L:=(ZaA [(5,ZzQ)])) (rounds:=20) (depth:=6) g134 (ZaV (nt:=22) (by kernel_rfl) (Zbd (by kernel_rfl)) (Zay ZBi ZaF)) (fun x=>by kernel_rfl)
def e92:Env:=env1 [(134,s134)]
theorem g92:Zai e92:=Zan mix1 ent1 (Zab ZEf rfl Zag)
def s92:Spec:=Zar (Zaa (Zap celConfig) (Zaa (Zad .i64) (Zaa (Zap Za0) (Zaa (Zad .i64) (Zaa (Zap celOp) (Zac (Zad .i64))))))) (Zat (Zap Za0)) Zny
theorem ok92:Zaq Tryz.prog 92 s92 :=
 Zaj (V:=e92) (L:=nL) (rounds:=20) (depth:=6) g92 Zal (fun x=>by kernel_rfl)
def e172:Env:=env1 []
theorem g172:Zai e172:=Zan mix1 ent1 Zag
def s172:Spec:=Zar (Zac (Zap Zas)) (Zat (Zap Zas)) ZnJ
theorem ZEr:Zaq Tryz.prog 172 s172 :=
 Zaj (V:=e172) (L:=nL) (rounds:=20) (depth:=6) g172 Zal (fun x=>by kernel_rfl)
def e197:Env:=env1 []
theorem g197:Zai e197:=Zan mix1 ent1 Zag
def s197:Spec:=Zar (Zaa (Zap ZaB) (Zac (Zad .i64))) (Zbk (Zaa (Zad .i64) (Zac (Zad .i64)))) ZcI
theorem Znc:Zaq Tryz.prog 197 s197 :=
 Zaj (V:=e197) (L:=nL) (rounds:=20) (depth:=6) g197 Zal (fun x=>by kernel_rfl)
def e198:Env:=env1 []
theorem g198:Zai e198:=Zan mix1 ent1 Zag
def s198:Spec:=Zar Zbz (Zat (Zad .i64)) Zie
theorem ZxG:Zaq Tryz.prog 198 s198 :=
 Zaj (V:=e198) (L:=nL) (rounds:=20) (depth:=6) g198 Zal (fun x=>by kernel_rfl)
def e199:Env:=env1 [(74,s74)]
theorem g199:Zai e199:=Zan mix1 ent1 (Zab ok74 rfl Zag)
def s199:Spec:=Zar (Zaa (Zap celConfig) (Zac (Zad .i64))) (Zat (Zad .i64)) Zi3
theorem ZCo:Zaq Tryz.prog 199 s199 :=
 Zaj (V:=e199) (L:=nL) (rounds:=20) (depth:=6) g199 Zal (fun x=>by kernel_rfl)
def e200:Env:=env1 []
theorem g200:Zai e200:=Zan mix1 ent1 Zag
def s200:Spec:=Zar (Zac (Zap Zas)) (Zat (Zap Zas)) Zgn
theorem ZxW:Zaq Tryz.prog 200 s200 :=
 Zaj (V:=e200) (L:=nL) (rounds:=20) (depth:=6) g200 Zal (fun x=>by kernel_rfl)
def e202:Env:=env1 [(24,s24)]
theorem g202:Zai e202:=Zan mix1 ent1 (Zab ok24 rfl Zag)
def ZzX:LSpec:=ZbQ [0,1,2,3,9] (Zaa (Zau .entry) (Zaa (Zad .i64) (Zaa (Zad .i64) (Zaa (Zad .i64) (Zac (Zad .i64)))))) (⟨.exit 0,[1],(Zac (Zad .i64))⟩:Way) (Zav ZjG)
theorem ZAF:LoopOK e202 29 ZzX (ZaT e202.P 202 2) :=
 Za9 (L:=ZaA []) (rounds:=20) (depth:=6) (ts:=[0,1,2,3,9]) (v:=(Zaa (Zau .entry) (Zaa (Zad .i64) (Zaa (Zad .i64) (Zaa (Zad .i64) (Zac (Zad .i64))))))) (a:=⟨.exit 0,[1],(Zac (Zad .i64))⟩) (step:=ZjG) g202 rfl ZaD (fun x=>by kernel_rfl)
def s202:Spec:=Zar (Zaa (Zau .entry) (Zaa (Zad .i64) (Zaa (Zad .i64) (Zac (Zad .i64))))) (Zat (Zad .i64)) ZgB
theorem Zyn:Zaq Tryz.prog 202 s202 :=
 Zaj (V:=e202) (L:=(ZaA [(2,ZzX)])) (rounds:=20) (depth:=6) g202 (ZaV (nt:=29) (by kernel_rfl) (Zbd (by kernel_rfl)) (Zay ZAF ZaF)) (fun x=>by kernel_rfl)
def e236:Env:=env1 []
theorem g236:Zai e236:=Zan mix1 ent1 Zag
def Zz0:LSpec:=ZbQ [0,1,5,6] (Zaa (Zau .entry) (Zaa (Zad .i64) (Zaa (ZaH 137 .entry) (Zac (Zad .i64))))) (⟨.exit 0,[5],(Zac (ZaH 137 .entry))⟩:Way) (Zav ZiV)
theorem ZBf:LoopOK e236 27 Zz0 (ZaT e236.P 236 3) :=
 Za9 (L:=ZaA []) (rounds:=20) (depth:=6) (ts:=[0,1,5,6]) (v:=(Zaa (Zau .entry) (Zaa (Zad .i64) (Zaa (ZaH 137 .entry) (Zac (Zad .i64)))))) (a:=⟨.exit 0,[5],(Zac (ZaH 137 .entry))⟩) (step:=ZiV) g236 rfl ZaD (fun x=>by kernel_rfl)
def s236:Spec:=Zar (Zaa (Zau .entry) (Zac (Zad .i64))) (Zat (Zau .entry)) ZkH
theorem ZBE:Zaq Tryz.prog 236 s236 :=
 Zaj (V:=e236) (L:=(ZaA [(3,Zz0)])) (rounds:=20) (depth:=6) g236 (ZaV (nt:=27) (by kernel_rfl) (Zbd (by kernel_rfl)) (Zay ZBf ZaF)) (fun x=>by kernel_rfl)
def e201:Env:=env1 [(38,s38),(128,s128),(198,s198),(199,s199),(200,s200),(202,s202),(236,s236)]
theorem g201:Zai e201:=Zan mix1 ent1 (Zab ok38 rfl (Zab Znb rfl (Zab ZxG rfl (Zab ZCo rfl (Zab ZxW rfl (Zab Zyn rfl (Zab ZBE rfl Zag)))))))
def s201:Spec:=Zar (Zac (Zap Zas)) (Zat (Zap Zas)) ZkO
theorem ZEg:Zaq Tryz.prog 201 s201 :=
 Zaj (V:=e201) (L:=nL) (rounds:=20) (depth:=6) g201 Zal (fun x=>by kernel_rfl)
def e173:Env:=env1 [(38,s38),(197,s197),(198,s198),(199,s199),(200,s200),(201,s201)]
theorem g173:Zai e173:=Zan mix1 ent1 (Zab ok38 rfl (Zab Znc rfl (Zab ZxG rfl (Zab ZCo rfl (Zab ZxW rfl (Zab ZEg rfl Zag))))))
def s173:Spec:=Zar (Zac (Zap Zas)) (Zbk (Zaa (Zap Zas) (Zac (ZaE)))) Zov
theorem ZEK:Zaq Tryz.prog 173 s173 :=
 Zaj (V:=e173) (L:=nL) (rounds:=20) (depth:=6) g173 Zal (fun x=>by kernel_rfl)
def e237:Env:=env1 [(202,s202),(236,s236)]
theorem g237:Zai e237:=Zan mix1 ent1 (Zab Zyn rfl (Zab ZBE rfl Zag))
def Zzx:LSpec:=ZbQ [0,1,2,3,9,10] (Zaa (Zau .entry) (Zaa (Zad .i64) (Zaa (Zad .i64) (Zaa (Zad .i64) (Zaa (ZaH 3 .int) (Zac (Zad .i64))))))) (⟨.exit 0,[9],(Zac (ZaH 3 .int))⟩:Way) (Zav Zg5)
theorem ZA9:LoopOK e237 29 Zzx (ZaT e237.P 237 3) :=
 Za9 (L:=ZaA []) (rounds:=20) (depth:=6) (ts:=[0,1,2,3,9,10]) (v:=(Zaa (Zau .entry) (Zaa (Zad .i64) (Zaa (Zad .i64) (Zaa (Zad .i64) (Zaa (ZaH 3 .int) (Zac (Zad .i64)))))))) (a:=⟨.exit 0,[9],(Zac (ZaH 3 .int))⟩) (step:=Zg5) g237 rfl ZaD (fun x=>by kernel_rfl)
def s237:Spec:=Zar (Zaa (Zau .entry) (Zaa (Zad .i64) (Zaa (Zad .i64) (Zac (Zad .i64))))) (Zat (Zau .int)) Zmy
theorem ZFq:Zaq Tryz.prog 237 s237 :=
 Zaj (V:=e237) (L:=(ZaA [(3,Zzx)])) (rounds:=20) (depth:=6) g237 (ZaV (nt:=29) (by kernel_rfl) (Zbd (by kernel_rfl)) (Zay ZA9 ZaF)) (fun x=>by kernel_rfl)
def e203:Env:=env1 [(200,s200),(237,s237)]
theorem g203:Zai e203:=Zan mix1 ent1 (Zab ZxW rfl (Zab ZFq rfl Zag))
def ZyS:LSpec:=ZbQ [1,2,4,5,6,7] (Zaa (Zad .i64) (Zaa (Zak Zas) (Zaa (Zak Zas) (Zaa (Zau .int) (Zaa (ZaH 162 .mark) (Zac (Zad .i64))))))) (⟨.exit 0,[1,2,4,6],(Zaa (Zad .i64) (Zaa (Zak Zas) (Zaa (Zak Zas) (Zac (ZaH 162 .mark)))))⟩:Way) (Zav Zg8)
theorem ZBc:LoopOK e203 65 ZyS (ZaT e203.P 203 4) :=
 Za9 (L:=ZaA []) (rounds:=20) (depth:=6) (ts:=[1,2,4,5,6,7]) (v:=(Zaa (Zad .i64) (Zaa (Zak Zas) (Zaa (Zak Zas) (Zaa (Zau .int) (Zaa (ZaH 162 .mark) (Zac (Zad .i64)))))))) (a:=⟨.exit 0,[1,2,4,6],(Zaa (Zad .i64) (Zaa (Zak Zas) (Zaa (Zak Zas) (Zac (ZaH 162 .mark)))))⟩) (step:=Zg8) g203 rfl ZaD (fun x=>by kernel_rfl)
def s203:Spec:=Zar (Zaa (Zap Zas) (Zac (Zad .i64))) (Zat (Zap Zas)) ZeL
theorem ZE8:Zaq Tryz.prog 203 s203 :=
 Zaj (V:=e203) (L:=(ZaA [(4,ZyS)])) (rounds:=20) (depth:=6) g203 (ZaV (nt:=65) (by kernel_rfl) (Zbd (by kernel_rfl)) (Zay ZBc ZaF)) (fun x=>by kernel_rfl)
def e208:Env:=env1 []
theorem g208:Zai e208:=Zan mix1 ent1 Zag
def s208:Spec:=Zar (Zac (Zap Zas)) (Zat (ZaE)) Zih
theorem ZxU:Zaq Tryz.prog 208 s208 :=
 Zaj (V:=e208) (L:=nL) (rounds:=20) (depth:=6) g208 Zal (fun x=>by kernel_rfl)
def e204:Env:=env1 [(208,s208)]
theorem g204:Zai e204:=Zan mix1 ent1 (Zab ZxU rfl Zag)
def s204:Spec:=Zar (Zac (Zap Zas)) (Zat (Zap Zas)) Zgb
theorem ZB6:Zaq Tryz.prog 204 s204 :=
 Zaj (V:=e204) (L:=nL) (rounds:=20) (depth:=6) g204 Zal (fun x=>by kernel_rfl)
def e205:Env:=env1 [(128,s128),(197,s197)]
theorem g205:Zai e205:=Zan mix1 ent1 (Zab Znb rfl (Zab Znc rfl Zag))
def s205:Spec:=Zar (Zaa (Zap ZaB) (Zaa (Zad .i64) (Zaa (Zad .i64) (Zac (Zad .i64))))) (Zbk (Zaa (Zap ZaB) (Zaa (ZaE) (Zac (Zad .i64))))) Zey
theorem ZtT:Zaq Tryz.prog 205 s205 :=
 Zaj (V:=e205) (L:=nL) (rounds:=20) (depth:=6) g205 Zal (fun x=>by kernel_rfl)
def e206:Env:=env1 []
theorem g206:Zai e206:=Zan mix1 ent1 Zag
def s206:Spec:=Zar (Zaa (Zad .i64) (Zac (Zad .i64))) (Zat (Zad .i64)) ZjP
theorem ZFk:Zaq Tryz.prog 206 s206 :=
 Zaj (V:=e206) (L:=nL) (rounds:=20) (depth:=6) g206 Zal (fun x=>by kernel_rfl)
def e174:Env:=env1 [(35,s35),(197,s197),(202,s202),(203,s203),(204,s204),(205,s205),(206,s206)]
theorem g174:Zai e174:=Zan mix1 ent1 (Zab ok35 rfl (Zab Znc rfl (Zab Zyn rfl (Zab ZE8 rfl (Zab ZB6 rfl (Zab ZtT rfl (Zab ZFk rfl Zag)))))))
def s174:Spec:=Zar (Zac (Zap Zas)) (Zbk (Zaa (Zap Zas) (Zac (ZaE)))) Zn4
theorem ZFj:Zaq Tryz.prog 174 s174 :=
 Zaj (V:=e174) (L:=nL) (rounds:=20) (depth:=6) g174 Zal (fun x=>by kernel_rfl)
def e210:Env:=env1 []
theorem g210:Zai e210:=Zan mix1 ent1 Zag
def s210:Spec:=Zar (Zac (Zad .i64)) (Zat (Zad .i64)) Zfd
theorem ZxA:Zaq Tryz.prog 210 s210 :=
 Zaj (V:=e210) (L:=nL) (rounds:=20) (depth:=6) g210 Zal (fun x=>by kernel_rfl)
def e212:Env:=env1 []
theorem g212:Zai e212:=Zan mix1 ent1 Zag
def s212:Spec:=Zar (Zac (Zad .i64)) (Zat (Zad .i64)) Zi1
theorem ZB1:Zaq Tryz.prog 212 s212 :=
 Zaj (V:=e212) (L:=nL) (rounds:=20) (depth:=6) g212 Zal (fun x=>by kernel_rfl)
def e219:Env:=env1 []
theorem g219:Zai e219:=Zan mix1 ent1 Zag
def s219:Spec:=Zar (Zac (Zad .i64)) (Zat (Zad .i64)) Zgs
theorem ZCw:Zaq Tryz.prog 219 s219 :=
 Zaj (V:=e219) (L:=nL) (rounds:=20) (depth:=6) g219 Zal (fun x=>by kernel_rfl)
def e238:Env:=env1 []
theorem g238:Zai e238:=Zan mix1 ent1 Zag
def s238:Spec:=Zar (Zaa (Zad .i64) (Zac (Zad .i64))) (Zat (Zad .i64)) ZfI
theorem ZtN:Zaq Tryz.prog 238 s238 :=
 Zaj (V:=e238) (L:=nL) (rounds:=20) (depth:=6) g238 Zal (fun x=>by kernel_rfl)
def e207:Env:=env1 [(198,s198),(210,s210),(212,s212),(219,s219),(238,s238)]
theorem g207:Zai e207:=Zan mix1 ent1 (Zab ZxG rfl (Zab ZxA rfl (Zab ZB1 rfl (Zab ZCw rfl (Zab ZtN rfl Zag)))))
def Zsf:LSpec:=Zdh [0,4,5] (Zaa (Zad .i64) (Zaa (Zad .i64) (Zac (Zad .i64)))) (⟨.exit 4,[0,4],(Zaa (Zad .i64) (Zac (Zad .i64)))⟩:Way) (⟨.ret,[2],(Zac (Zad .i64))⟩:Way) (Zav Zht)
theorem Zsi:LoopOK e207 40 Zsf (ZaT e207.P 207 18) :=
 Zcg (L:=ZaA []) (rounds:=20) (depth:=6) (ts:=[0,4,5]) (v:=(Zaa (Zad .i64) (Zaa (Zad .i64) (Zac (Zad .i64))))) (a:=⟨.exit 4,[0,4],(Zaa (Zad .i64) (Zac (Zad .i64)))⟩) (b:=⟨.ret,[2],(Zac (Zad .i64))⟩) (step:=Zht) g207 rfl rfl ZaD (fun x=>by kernel_rfl)
def ZwQ:LSpec:=Zdh [0,4] (Zaa (Zad .i64) (Zac (Zad .i64))) (⟨.exit 2,[],Zbz⟩:Way) (⟨.ret,[2],(Zac (Zad .i64))⟩:Way) (Zav ZhW)
theorem Zzu:LoopOK e207 40 ZwQ (ZaT e207.P 207 15) :=
 Zcg (L:=ZaA [(18,Zsf)]) (rounds:=20) (depth:=6) (ts:=[0,4]) (v:=(Zaa (Zad .i64) (Zac (Zad .i64)))) (a:=⟨.exit 2,[],Zbz⟩) (b:=⟨.ret,[2],(Zac (Zad .i64))⟩) (step:=ZhW) g207 rfl rfl (ZpW (by kernel_rfl) (Zay Zsi ZaF)) (fun x=>by kernel_rfl)
def ZzR:LSpec:=Zdh [0,3] (Zaa (Zad .i64) (Zac (Zad .i64))) (⟨.exit 0,[0],(Zac (Zad .i64))⟩:Way) (⟨.ret,[2],(Zac (Zad .i64))⟩:Way) (Zav ZiE)
theorem ZAN:LoopOK e207 40 ZzR (ZaT e207.P 207 6) :=
 Zcg (L:=ZaA []) (rounds:=20) (depth:=6) (ts:=[0,3]) (v:=(Zaa (Zad .i64) (Zac (Zad .i64)))) (a:=⟨.exit 0,[0],(Zac (Zad .i64))⟩) (b:=⟨.ret,[2],(Zac (Zad .i64))⟩) (step:=ZiE) g207 rfl rfl ZaD (fun x=>by kernel_rfl)
def s207:Spec:=Zar (Zac (Zad .i64)) (Zat (Zad .i64)) ZfT
theorem Zys:Zaq Tryz.prog 207 s207 :=
 Zaj (V:=e207) (L:=(ZaA [(18,Zsf),(15,ZwQ),(6,ZzR)])) (rounds:=20) (depth:=6) g207 (ZaV (nt:=40) (by kernel_rfl) (Zbd (by kernel_rfl)) (Zay Zsi (Zay Zzu (Zay ZAN ZaF)))) (fun x=>by kernel_rfl)
def e239:Env:=env1 []
theorem g239:Zai e239:=Zan mix1 ent1 Zag
def s239:Spec:=Zar (Zac (Zap Zas)) (Zat (Zap Zas)) ZkM
theorem ZBW:Zaq Tryz.prog 239 s239 :=
 Zaj (V:=e239) (L:=nL) (rounds:=20) (depth:=6) g239 Zal (fun x=>by kernel_rfl)
def e209:Env:=env1 [(239,s239)]
theorem g209:Zai e209:=Zan mix1 ent1 (Zab ZBW rfl Zag)
def s209:Spec:=Zar (Zac (Zap Zas)) (Zat (Zap Zas)) Zhx
theorem ZFy:Zaq Tryz.prog 209 s209 :=
 Zaj (V:=e209) (L:=nL) (rounds:=20) (depth:=6) g209 Zal (fun x=>by kernel_rfl)
def e211:Env:=env1 []
theorem g211:Zai e211:=Zan mix1 ent1 Zag
def s211:Spec:=Zar (Zac (Zad .i64)) (Zat (Zad .i64)) Zmr
theorem ZFr:Zaq Tryz.prog 211 s211 :=
 Zaj (V:=e211) (L:=nL) (rounds:=20) (depth:=6) g211 Zal (fun x=>by kernel_rfl)
def e175:Env:=env1 [(37,s37),(197,s197),(205,s205),(207,s207),(208,s208),(209,s209),(210,s210),(211,s211),(212,s212)]
theorem g175:Zai e175:=Zan mix1 ent1 (Zab ok37 rfl (Zab Znc rfl (Zab ZtT rfl (Zab Zys rfl (Zab ZxU rfl (Zab ZFy rfl (Zab ZxA rfl (Zab ZFr rfl (Zab ZB1 rfl Zag)))))))))
def s175:Spec:=Zar (Zac (Zap Zas)) (Zbk (Zaa (Zap Zas) (Zac (ZaE)))) Zk0
theorem ZEV:Zaq Tryz.prog 175 s175 :=
 Zaj (V:=e175) (L:=nL) (rounds:=20) (depth:=6) g175 Zal (fun x=>by kernel_rfl)
def e213:Env:=env1 [(37,s37)]
theorem g213:Zai e213:=Zan mix1 ent1 (Zab ok37 rfl Zag)
def s213:Spec:=Zar (Zac (Zap Zas)) (Zat (Zad .i64)) Zom
theorem ZFl:Zaq Tryz.prog 213 s213 :=
 Zaj (V:=e213) (L:=nL) (rounds:=20) (depth:=6) g213 Zal (fun x=>by kernel_rfl)
def e214:Env:=env1 [(207,s207)]
theorem g214:Zai e214:=Zan mix1 ent1 (Zab Zys rfl Zag)
def s214:Spec:=Zar (Zac (Zad .i64)) (Zat (Zad .i64)) ZpB
theorem ZFo:Zaq Tryz.prog 214 s214 :=
 Zaj (V:=e214) (L:=nL) (rounds:=20) (depth:=6) g214 Zal (fun x=>by kernel_rfl)
def e215:Env:=env1 [(239,s239)]
theorem g215:Zai e215:=Zan mix1 ent1 (Zab ZBW rfl Zag)
def s215:Spec:=Zar (Zac (Zap Zas)) (Zat (Zap Zas)) Zkv
theorem ZEn:Zaq Tryz.prog 215 s215 :=
 Zaj (V:=e215) (L:=nL) (rounds:=20) (depth:=6) g215 Zal (fun x=>by kernel_rfl)
def e216:Env:=env1 []
theorem g216:Zai e216:=Zan mix1 ent1 Zag
def s216:Spec:=Zar (Zaa (Zap ZaB) (Zac (Zad .i64))) (Zbk (Zaa (Zau .entry) (Zac (Zad .i64)))) Zl8
theorem ZCe:Zaq Tryz.prog 216 s216 :=
 Zaj (V:=e216) (L:=nL) (rounds:=20) (depth:=6) g216 Zal (fun x=>by kernel_rfl)
def e240:Env:=env1 []
theorem g240:Zai e240:=Zan mix1 ent1 Zag
def ZzT:LSpec:=ZbQ [0,3,4] (Zaa (Zau (.lst .entry)) (Zaa (ZaH 137 .entry) (Zac (Zad .i64)))) (⟨.exit 0,[3],(Zac (ZaH 137 .entry))⟩:Way) (Zav Zi2)
theorem ZAO:LoopOK e240 19 ZzT (ZaT e240.P 240 3) :=
 Za9 (L:=ZaA []) (rounds:=20) (depth:=6) (ts:=[0,3,4]) (v:=(Zaa (Zau (.lst .entry)) (Zaa (ZaH 137 .entry) (Zac (Zad .i64))))) (a:=⟨.exit 0,[3],(Zac (ZaH 137 .entry))⟩) (step:=Zi2) g240 rfl ZaD (fun x=>by kernel_rfl)
def s240:Spec:=Zar (Zac (Zau (.lst .entry))) (Zat (Zau .entry)) Zoz
theorem ZEu:Zaq Tryz.prog 240 s240 :=
 Zaj (V:=e240) (L:=(ZaA [(3,ZzT)])) (rounds:=20) (depth:=6) g240 (ZaV (nt:=19) (by kernel_rfl) (Zbd (by kernel_rfl)) (Zay ZAO ZaF)) (fun x=>by kernel_rfl)
def e217:Env:=env1 [(240,s240)]
theorem g217:Zai e217:=Zan mix1 ent1 (Zab ZEu rfl Zag)
def s217:Spec:=Zar (Zaa (Zap Zas) (Zaa (Zad .i64) (Zac (Zau .entry)))) (Zat (Zap Zas)) Zk7
theorem ZBz:Zaq Tryz.prog 217 s217 :=
 Zaj (V:=e217) (L:=nL) (rounds:=20) (depth:=6) g217 Zal (fun x=>by kernel_rfl)
def e218:Env:=env1 []
theorem g218:Zai e218:=Zan mix1 ent1 Zag
def s218:Spec:=Zar (Zaa (Zap ZaB) (Zaa (Zad .i64) (Zac (Zau .entry)))) (Zbk (Zaa (Zap ZaB) (Zac (Zad .i64)))) Zl6
theorem ZBF:Zaq Tryz.prog 218 s218 :=
 Zaj (V:=e218) (L:=nL) (rounds:=20) (depth:=6) g218 Zal (fun x=>by kernel_rfl)
def e176:Env:=env1 [(37,s37),(128,s128),(197,s197),(205,s205),(207,s207),(210,s210),(213,s213),(214,s214),(215,s215),(216,s216),(217,s217),(218,s218),(219,s219)]
theorem g176:Zai e176:=Zan mix1 ent1 (Zab ok37 rfl (Zab Znb rfl (Zab Znc rfl (Zab ZtT rfl (Zab Zys rfl (Zab ZxA rfl (Zab ZFl rfl (Zab ZFo rfl (Zab ZEn rfl (Zab ZCe rfl (Zab ZBz rfl (Zab ZBF rfl (Zab ZCw rfl Zag)))))))))))))
def s176:Spec:=Zar (Zac (Zap Zas)) (Zbk (Zaa (Zap Zas) (Zac (ZaE)))) ZfU
theorem ZEI:Zaq Tryz.prog 176 s176 :=
 Zaj (V:=e176) (L:=nL) (rounds:=20) (depth:=6) g176 Zal (fun x=>by kernel_rfl)
def e220:Env:=env1 [(38,s38),(128,s128),(238,s238)]
theorem g220:Zai e220:=Zan mix1 ent1 (Zab ok38 rfl (Zab Znb rfl (Zab ZtN rfl Zag)))
def s220:Spec:=Zar (Zaa (Zap Zas) (Zac (Zad .i64))) (Zat (Zap Zas)) ZiL
theorem ZFp:Zaq Tryz.prog 220 s220 :=
 Zaj (V:=e220) (L:=nL) (rounds:=20) (depth:=6) g220 Zal (fun x=>by kernel_rfl)
def e247:Env:=env1 []
theorem g247:Zai e247:=Zan mix1 ent1 Zag
def s247:Spec:=Zar (Zac (Zap Zbj)) (Zbk (Zaa (Zad .i64) (Zac (Zap Zbj)))) ZnX
theorem ZEq:Zaq Tryz.prog 247 s247 :=
 Zaj (V:=e247) (L:=nL) (rounds:=20) (depth:=6) g247 Zal (fun x=>by kernel_rfl)
def e241:Env:=env1 [(247,s247)]
theorem g241:Zai e241:=Zan mix1 ent1 (Zab ZEq rfl Zag)
def s241:Spec:=Zar (Zaa (Zap Zbj) (Zac (Zad .i64))) (Zbk (Zaa (Zad .i64) (Zac (Zap Zbj)))) Znq
theorem ZEQ:Zaq Tryz.prog 241 s241 :=
 Zaj (V:=e241) (L:=nL) (rounds:=20) (depth:=6) g241 Zal (fun x=>by kernel_rfl)
def e242:Env:=env1 [(128,s128),(197,s197)]
theorem g242:Zai e242:=Zan mix1 ent1 (Zab Znb rfl (Zab Znc rfl Zag))
def s242:Spec:=Zar (Zaa (Zap ZaB) (Zaa (Zad .i64) (Zac (Zad .i64)))) (Zbk (Zaa (Zap ZaB) (Zaa (Zad .i64) (Zac (Zad .i64))))) Zox
theorem ZE2:Zaq Tryz.prog 242 s242 :=
 Zaj (V:=e242) (L:=nL) (rounds:=20) (depth:=6) g242 Zal (fun x=>by kernel_rfl)
def e243:Env:=env1 [(36,s36),(74,s74)]
theorem g243:Zai e243:=Zan mix1 ent1 (Zab ok36 rfl (Zab ok74 rfl Zag))
def s243:Spec:=Zar (Zaa (Zap celConfig) (Zaa (Zad .i64) (Zaa (Zad .i64) (Zac (Zad .i64))))) (Zat (Zad .i64)) Zn7
theorem ZFA:Zaq Tryz.prog 243 s243 :=
 Zaj (V:=e243) (L:=nL) (rounds:=20) (depth:=6) g243 Zal (fun x=>by kernel_rfl)
def e221:Env:=env1 [(241,s241),(242,s242),(243,s243)]
theorem g221:Zai e221:=Zan mix1 ent1 (Zab ZEQ rfl (Zab ZE2 rfl (Zab ZFA rfl Zag)))
def s221:Spec:=Zar (Zac (Zap Zas)) (Zat (Zap Zas)) ZoI
theorem ZEY:Zaq Tryz.prog 221 s221 :=
 Zaj (V:=e221) (L:=nL) (rounds:=20) (depth:=6) g221 Zal (fun x=>by kernel_rfl)
def e222:Env:=env1 [(38,s38),(205,s205),(238,s238)]
theorem g222:Zai e222:=Zan mix1 ent1 (Zab ok38 rfl (Zab ZtT rfl (Zab ZtN rfl Zag)))
def s222:Spec:=Zar (Zaa (Zap Zas) (Zaa (Zad .i64) (Zaa (Zad .i64) (Zac (Zad .i64))))) (Zat (Zap Zas)) Ze5
theorem ZEM:Zaq Tryz.prog 222 s222 :=
 Zaj (V:=e222) (L:=nL) (rounds:=20) (depth:=6) g222 Zal (fun x=>by kernel_rfl)
def e223:Env:=env1 [(38,s38),(197,s197),(208,s208),(238,s238)]
theorem g223:Zai e223:=Zan mix1 ent1 (Zab ok38 rfl (Zab Znc rfl (Zab ZxU rfl (Zab ZtN rfl Zag))))
def s223:Spec:=Zar (Zac (Zap Zas)) (Zat (Zap Zas)) Zoy
theorem ZFx:Zaq Tryz.prog 223 s223 :=
 Zaj (V:=e223) (L:=nL) (rounds:=20) (depth:=6) g223 Zal (fun x=>by kernel_rfl)
def e224:Env:=env1 []
theorem g224:Zai e224:=Zan mix1 ent1 Zag
def s224:Spec:=Zar (Zac (Zad .i64)) (Zat (Zad .i64)) ZoM
theorem ZE0:Zaq Tryz.prog 224 s224 :=
 Zaj (V:=e224) (L:=nL) (rounds:=20) (depth:=6) g224 Zal (fun x=>by kernel_rfl)
def e177:Env:=env1 [(204,s204),(216,s216),(217,s217),(218,s218),(220,s220),(221,s221),(222,s222),(223,s223),(224,s224)]
theorem g177:Zai e177:=Zan mix1 ent1 (Zab ZB6 rfl (Zab ZCe rfl (Zab ZBz rfl (Zab ZBF rfl (Zab ZFp rfl (Zab ZEY rfl (Zab ZEM rfl (Zab ZFx rfl (Zab ZE0 rfl Zag)))))))))
def s177:Spec:=Zar (Zac (Zap Zas)) (Zbk (Zaa (Zap Zas) (Zac (ZaE)))) Zc0
theorem ZFi:Zaq Tryz.prog 177 s177 :=
 Zaj (V:=e177) (L:=nL) (rounds:=20) (depth:=6) g177 Zal (fun x=>by kernel_rfl)
def e135:Env:=env1 [(38,s38),(128,s128),(172,s172),(173,s173),(174,s174),(175,s175),(176,s176),(177,s177)]
theorem g135:Zai e135:=Zan mix1 ent1 (Zab ok38 rfl (Zab Znb rfl (Zab ZEr rfl (Zab ZEK rfl (Zab ZFj rfl (Zab ZEV rfl (Zab ZEI rfl (Zab ZFi rfl Zag))))))))
def s135:Spec:=Zar (Zac (Zap Zas)) (Zat (Zap Zas)) Zos
theorem ZEs:Zaq Tryz.prog 135 s135 :=
 Zaj (V:=e135) (L:=nL) (rounds:=20) (depth:=6) g135 Zal (fun x=>by kernel_rfl)
def e93:Env:=env1 [(24,s24),(90,s90),(91,s91),(135,s135)]
theorem g93:Zai e93:=Zan mix1 ent1 (Zab ok24 rfl (Zab ok90 rfl (Zab ok91 rfl (Zab ZEs rfl Zag))))
def ZCu:LSpec:=ZbQ [1,2,4,5,6,7] (Zaa (Zad .i64) (Zaa (Zak ZaM) (Zaa (Zak ZaM) (Zaa (Zak Zas) (Zaa (ZaH 162 .mark) (Zac (Zad .i64))))))) (⟨.exit 0,[1,2,4,5,6],(Zaa (Zad .i64) (Zaa (Zak ZaM) (Zaa (Zak ZaM) (Zaa (Zak Zas) (Zac (ZaH 162 .mark))))))⟩:Way) (Zav Zim)
theorem ZDx:LoopOK e93 101 ZCu (ZaT e93.P 93 8) :=
 Za9 (L:=ZaA []) (rounds:=20) (depth:=6) (ts:=[1,2,4,5,6,7]) (v:=(Zaa (Zad .i64) (Zaa (Zak ZaM) (Zaa (Zak ZaM) (Zaa (Zak Zas) (Zaa (ZaH 162 .mark) (Zac (Zad .i64)))))))) (a:=⟨.exit 0,[1,2,4,5,6],(Zaa (Zad .i64) (Zaa (Zak ZaM) (Zaa (Zak ZaM) (Zaa (Zak Zas) (Zac (ZaH 162 .mark))))))⟩) (step:=Zim) g93 rfl ZaD (fun x=>by kernel_rfl)
def s93:Spec:=Zar (Zaa (Zap ZaM) (Zac (Zad .i64))) (Zat (Zap ZaM)) ZoJ
theorem ok93:Zaq Tryz.prog 93 s93 :=
 Zaj (V:=e93) (L:=(ZaA [(8,ZCu)])) (rounds:=20) (depth:=6) g93 (ZaV (nt:=101) (by kernel_rfl) (Zbd (by kernel_rfl)) (Zay ZDx ZaF)) (fun x=>by kernel_rfl)
def e53:Env:=env1 [(54,s54),(82,s82),(90,s90),(91,s91),(92,s92),(93,s93)]
theorem g53:Zai e53:=Zan mix1 ent1 (Zab ok54 rfl (Zab ok82 rfl (Zab ok90 rfl (Zab ok91 rfl (Zab ok92 rfl (Zab ok93 rfl Zag))))))
def s53:Spec:=Zar (Zaa (Zap ZaM) (Zac (Zap ZlB))) (Zbk (Zaa (Zap ZaM) (Zac (Zad .i64)))) Zoa
theorem ok53:Zaq Tryz.prog 53 s53 :=
 Zaj (V:=e53) (L:=nL) (rounds:=20) (depth:=6) g53 Zal (fun x=>by kernel_rfl)
def e77:Env:=env1 [(23,s23),(54,s54)]
theorem g77:Zai e77:=Zan mix1 ent1 (Zab ok23 rfl (Zab ok54 rfl Zag))
def ZCi:LSpec:=Zdh [1,2,7] (Zaa (Zau .sentry) (Zaa (Zak celConfig) (Zac (Zad .i64)))) (⟨.exit 0,[],Zbz⟩:Way) (⟨.ret,[4,5],(Zaa (Zad .i64) (Zac (Zad .i64)))⟩:Way) (Zav ZjI)
theorem ZDi:LoopOK e77 33 ZCi (ZaT e77.P 77 7) :=
 Zcg (L:=ZaA []) (rounds:=20) (depth:=6) (ts:=[1,2,7]) (v:=(Zaa (Zau .sentry) (Zaa (Zak celConfig) (Zac (Zad .i64))))) (a:=⟨.exit 0,[],Zbz⟩) (b:=⟨.ret,[4,5],(Zaa (Zad .i64) (Zac (Zad .i64)))⟩) (step:=ZjI) g77 rfl rfl ZaD (fun x=>by kernel_rfl)
def s77:Spec:=Zar (Zaa (Zap celConfig) (Zac (Zau .sentry))) (Zbk (Zaa (Zad .i64) (Zac (Zad .i64)))) Zpl
theorem ok77:Zaq Tryz.prog 77 s77 :=
 Zaj (V:=e77) (L:=(ZaA [(7,ZCi)])) (rounds:=20) (depth:=6) g77 (ZaV (nt:=33) (by kernel_rfl) (Zbd (by kernel_rfl)) (Zay ZDi ZaF)) (fun x=>by kernel_rfl)
def e42:Env:=env1 [(51,s51),(53,s53),(77,s77)]
theorem g42:Zai e42:=Zan mix1 ent1 (Zab ok51 rfl (Zab ok53 rfl (Zab ok77 rfl Zag)))
def ZCG:LSpec:=ZbQ [1,6,11,13] (Zaa (Zau .sentry) (Zaa (Zak ZaM) (Zaa (Zak ZaM) (Zac (Zad .i64))))) (⟨.exit 0,[6,11],(Zaa (Zak ZaM) (Zac (Zak ZaM)))⟩:Way) (Zav ZjV)
theorem ZDF:LoopOK e42 47 ZCG (ZaT e42.P 42 6) :=
 Za9 (L:=ZaA []) (rounds:=20) (depth:=6) (ts:=[1,6,11,13]) (v:=(Zaa (Zau .sentry) (Zaa (Zak ZaM) (Zaa (Zak ZaM) (Zac (Zad .i64)))))) (a:=⟨.exit 0,[6,11],(Zaa (Zak ZaM) (Zac (Zak ZaM)))⟩) (step:=ZjV) g42 rfl ZaD (fun x=>by kernel_rfl)
def s42:Spec:=Zar (Zaa (Zap celConfig) (Zaa (Zau .sentry) (Zac (Zau .int)))) (Zbk (Zaa (Zap ZaM) (Zaa (Zad .i64) (Zac (Zad .i64))))) Zwd
theorem ok42:Zaq Tryz.prog 42 s42 :=
 Zaj (V:=e42) (L:=(ZaA [(6,ZCG)])) (rounds:=20) (depth:=6) g42 (ZaV (nt:=47) (by kernel_rfl) (Zbd (by kernel_rfl)) (Zay ZDF ZaF)) (fun x=>by kernel_rfl)
def e43:Env:=env1 []
theorem g43:Zai e43:=Zan mix1 ent1 Zag
def ZCm:LSpec:=ZbQ [0,3,4] (Zaa (Zau .sentry) (Zaa (ZaH 112 .sentry) (Zac (Zad .i64)))) (⟨.exit 0,[3],(Zac (ZaH 112 .sentry))⟩:Way) (Zav Zhm)
theorem ZDt:LoopOK e43 37 ZCm (ZaT e43.P 43 3) :=
 Za9 (L:=ZaA []) (rounds:=20) (depth:=6) (ts:=[0,3,4]) (v:=(Zaa (Zau .sentry) (Zaa (ZaH 112 .sentry) (Zac (Zad .i64))))) (a:=⟨.exit 0,[3],(Zac (ZaH 112 .sentry))⟩) (step:=Zhm) g43 rfl ZaD (fun x=>by kernel_rfl)
def s43:Spec:=Zar (Zac (Zau .sentry)) (Zat (Zau .sentry)) Ztz
theorem ok43:Zaq Tryz.prog 43 s43 :=
 Zaj (V:=e43) (L:=(ZaA [(3,ZCm)])) (rounds:=20) (depth:=6) g43 (ZaV (nt:=37) (by kernel_rfl) (Zbd (by kernel_rfl)) (Zay ZDt ZaF)) (fun x=>by kernel_rfl)
def e78:Env:=env1 []
theorem g78:Zai e78:=Zan mix1 ent1 Zag
def ZBU:LSpec:=Zdh [0,1,5] (Zaa (Zau .event) (Zaa (Zau .event) (Zac (Zad .i64)))) (⟨.exit 0,[],Zbz⟩:Way) (⟨.ret,[4],(Zac (ZaE))⟩:Way) (Zav Zec)
theorem ZCY:LoopOK e78 26 ZBU (ZaT e78.P 78 4) :=
 Zcg (L:=ZaA []) (rounds:=20) (depth:=6) (ts:=[0,1,5]) (v:=(Zaa (Zau .event) (Zaa (Zau .event) (Zac (Zad .i64))))) (a:=⟨.exit 0,[],Zbz⟩) (b:=⟨.ret,[4],(Zac (ZaE))⟩) (step:=Zec) g78 rfl rfl ZaD (fun x=>by kernel_rfl)
def s78:Spec:=Zar (Zaa (Zau .event) (Zac (Zau .event))) (Zat (ZaE)) ZiF
theorem ok78:Zaq Tryz.prog 78 s78 :=
 Zaj (V:=e78) (L:=(ZaA [(4,ZBU)])) (rounds:=20) (depth:=6) g78 (ZaV (nt:=26) (by kernel_rfl) (Zbd (by kernel_rfl)) (Zay ZCY ZaF)) (fun x=>by kernel_rfl)
def e44:Env:=env1 [(56,s56),(57,s57),(58,s58),(59,s59),(78,s78)]
theorem g44:Zai e44:=Zan mix1 ent1 (Zab ok56 rfl (Zab ok57 rfl (Zab ok58 rfl (Zab ok59 rfl (Zab ok78 rfl Zag)))))
def ZCh:LSpec:=Zdh [2,3,5] (Zaa (Zak ZaM) (Zaa (Zak ZaM) (Zac (Zad .i64)))) (⟨.exit 0,[],Zbz⟩:Way) (⟨.ret,[4],(Zac (ZaE))⟩:Way) (Zav ZeP)
theorem ZDE:LoopOK e44 85 ZCh (ZaT e44.P 44 4) :=
 Zcg (L:=ZaA []) (rounds:=20) (depth:=6) (ts:=[2,3,5]) (v:=(Zaa (Zak ZaM) (Zaa (Zak ZaM) (Zac (Zad .i64))))) (a:=⟨.exit 0,[],Zbz⟩) (b:=⟨.ret,[4],(Zac (ZaE))⟩) (step:=ZeP) g44 rfl rfl ZaD (fun x=>by kernel_rfl)
def s44:Spec:=Zar (Zaa (Zap ZaM) (Zac (Zap ZaM))) (Zat (ZaE)) ZeZ
theorem ok44:Zaq Tryz.prog 44 s44 :=
 Zaj (V:=e44) (L:=(ZaA [(4,ZCh)])) (rounds:=20) (depth:=6) g44 (ZaV (nt:=85) (by kernel_rfl) (Zbd (by kernel_rfl)) (Zay ZDE ZaF)) (fun x=>by kernel_rfl)
def e125:Env:=env1 []
theorem g125:Zai e125:=Zan mix1 ent1 Zag
def Zzh:LSpec:=ZbQ [0,3,4] (Zaa (Zau .entry) (Zaa (ZaH 137 .entry) (Zac (Zad .i64)))) (⟨.exit 0,[3],(Zac (ZaH 137 .entry))⟩:Way) (Zav ZdM)
theorem ZA6:LoopOK e125 27 Zzh (ZaT e125.P 125 3) :=
 Za9 (L:=ZaA []) (rounds:=20) (depth:=6) (ts:=[0,3,4]) (v:=(Zaa (Zau .entry) (Zaa (ZaH 137 .entry) (Zac (Zad .i64))))) (a:=⟨.exit 0,[3],(Zac (ZaH 137 .entry))⟩) (step:=ZdM) g125 rfl ZaD (fun x=>by kernel_rfl)
def s125:Spec:=Zar (Zac (Zau .entry)) (Zat (ZaH 137 .entry)) Zen
theorem ZBt:Zaq Tryz.prog 125 s125 :=
 Zaj (V:=e125) (L:=(ZaA [(3,Zzh)])) (rounds:=20) (depth:=6) g125 (ZaV (nt:=27) (by kernel_rfl) (Zbd (by kernel_rfl)) (Zay ZA6 ZaF)) (fun x=>by kernel_rfl)
def e79:Env:=env1 [(125,s125)]
theorem g79:Zai e79:=Zan mix1 ent1 (Zab ZBt rfl Zag)
def ZCp:LSpec:=ZbQ [1,2,3,4] (Zaa (Zak ZaB) (Zaa (Zak ZaB) (Zaa (Zak (Za5 (Zae (Za6 .int) (ZaJ 47 (.lst .entry))) Memo (fun y=>⟨y.1,y.2⟩) (fun x=>(x.words,x.boxes)) (fun _=>rfl))) (Zac (Zad .i64))))) (⟨.exit 0,[2,3],(Zaa (Zak ZaB) (Zac (Zak (Za5 (Zae (Za6 .int) (ZaJ 47 (.lst .entry))) Memo (fun y=>⟨y.1,y.2⟩) (fun x=>(x.words,x.boxes)) (fun _=>rfl)))))⟩:Way) (Zav Zd4)
theorem ZDc:LoopOK e79 27 ZCp (ZaT e79.P 79 3) :=
 Za9 (L:=ZaA []) (rounds:=20) (depth:=6) (ts:=[1,2,3,4]) (v:=(Zaa (Zak ZaB) (Zaa (Zak ZaB) (Zaa (Zak (Za5 (Zae (Za6 .int) (ZaJ 47 (.lst .entry))) Memo (fun y=>⟨y.1,y.2⟩) (fun x=>(x.words,x.boxes)) (fun _=>rfl))) (Zac (Zad .i64)))))) (a:=⟨.exit 0,[2,3],(Zaa (Zak ZaB) (Zac (Zak (Za5 (Zae (Za6 .int) (ZaJ 47 (.lst .entry))) Memo (fun y=>⟨y.1,y.2⟩) (fun x=>(x.words,x.boxes)) (fun _=>rfl)))))⟩) (step:=Zd4) g79 rfl ZaD (fun x=>by kernel_rfl)
def s79:Spec:=Zar (Zac (Zap ZaB)) (Zat (Zap ZaB)) Zix
theorem ok79:Zaq Tryz.prog 79 s79 :=
 Zaj (V:=e79) (L:=(ZaA [(3,ZCp)])) (rounds:=20) (depth:=6) g79 (ZaV (nt:=27) (by kernel_rfl) (Zbd (by kernel_rfl)) (Zay ZDc ZaF)) (fun x=>by kernel_rfl)
def e80:Env:=env1 []
theorem g80:Zai e80:=Zan mix1 ent1 Zag
def ZBT:LSpec:=ZbQ [0,3,4] (Zaa (Zau .mark) (Zaa (ZaH 162 .mark) (Zac (Zad .i64)))) (⟨.exit 0,[3],(Zac (ZaH 162 .mark))⟩:Way) (Zav Zew)
theorem ZDq:LoopOK e80 42 ZBT (ZaT e80.P 80 3) :=
 Za9 (L:=ZaA []) (rounds:=20) (depth:=6) (ts:=[0,3,4]) (v:=(Zaa (Zau .mark) (Zaa (ZaH 162 .mark) (Zac (Zad .i64))))) (a:=⟨.exit 0,[3],(Zac (ZaH 162 .mark))⟩) (step:=Zew) g80 rfl ZaD (fun x=>by kernel_rfl)
def s80:Spec:=Zar (Zac (Zau .mark)) (Zat (Zau .mark)) ZjT
theorem ok80:Zaq Tryz.prog 80 s80 :=
 Zaj (V:=e80) (L:=(ZaA [(3,ZBT)])) (rounds:=20) (depth:=6) g80 (ZaV (nt:=42) (by kernel_rfl) (Zbd (by kernel_rfl)) (Zay ZDq ZaF)) (fun x=>by kernel_rfl)
def e81:Env:=env1 [(125,s125)]
theorem g81:Zai e81:=Zan mix1 ent1 (Zab ZBt rfl Zag)
def ZCj:LSpec:=ZbQ [1,2,3,4] (Zaa (Zak Za0) (Zaa (Zak Za0) (Zaa (Zak (Za5 (Zae (Zao .i64) (Zae (Zao .i64) (Zae celOp (Zae (Za6 .entry) (Zae (ZaJ 160 .kid) (Zae (Za6 .int) (Zae (Zao .i64) (Zae (Zao .i64) (Zae (Zao .i64) (Zae (Zao .i64) (Zae (Zao .i64) (Zae (Zao .i64) (Zae (Zao .i64) (Zae (Zao .i64) (Zae (Zao .i64) (Zao .i64)))))))))))))))) Thread (fun y=>⟨y.1,y.2.1,y.2.2.1,y.2.2.2.1,y.2.2.2.2.1,y.2.2.2.2.2.1,y.2.2.2.2.2.2.1,y.2.2.2.2.2.2.2.1,y.2.2.2.2.2.2.2.2.1,y.2.2.2.2.2.2.2.2.2.1,y.2.2.2.2.2.2.2.2.2.2.1,y.2.2.2.2.2.2.2.2.2.2.2.1,y.2.2.2.2.2.2.2.2.2.2.2.2.1,y.2.2.2.2.2.2.2.2.2.2.2.2.2.1,y.2.2.2.2.2.2.2.2.2.2.2.2.2.2.1,y.2.2.2.2.2.2.2.2.2.2.2.2.2.2.2⟩) (fun x=>(x.phase,(x.item,(x.op,(x.batch,(x.kids,(x.held,(x.stop,(x.node,(x.at_,(x.layer,(x.left,(x.width,(x.who,(x.x,(x.y,x.until_)))))))))))))))) (fun _=>rfl))) (Zac (Zad .i64))))) (⟨.exit 0,[2,3],(Zaa (Zak Za0) (Zac (Zak (Za5 (Zae (Zao .i64) (Zae (Zao .i64) (Zae celOp (Zae (Za6 .entry) (Zae (ZaJ 160 .kid) (Zae (Za6 .int) (Zae (Zao .i64) (Zae (Zao .i64) (Zae (Zao .i64) (Zae (Zao .i64) (Zae (Zao .i64) (Zae (Zao .i64) (Zae (Zao .i64) (Zae (Zao .i64) (Zae (Zao .i64) (Zao .i64)))))))))))))))) Thread (fun y=>⟨y.1,y.2.1,y.2.2.1,y.2.2.2.1,y.2.2.2.2.1,y.2.2.2.2.2.1,y.2.2.2.2.2.2.1,y.2.2.2.2.2.2.2.1,y.2.2.2.2.2.2.2.2.1,y.2.2.2.2.2.2.2.2.2.1,y.2.2.2.2.2.2.2.2.2.2.1,y.2.2.2.2.2.2.2.2.2.2.2.1,y.2.2.2.2.2.2.2.2.2.2.2.2.1,y.2.2.2.2.2.2.2.2.2.2.2.2.2.1,y.2.2.2.2.2.2.2.2.2.2.2.2.2.2.1,y.2.2.2.2.2.2.2.2.2.2.2.2.2.2.2⟩) (fun x=>(x.phase,(x.item,(x.op,(x.batch,(x.kids,(x.held,(x.stop,(x.node,(x.at_,(x.layer,(x.left,(x.width,(x.who,(x.x,(x.y,x.until_)))))))))))))))) (fun _=>rfl)))))⟩:Way) (Zav Zet)
theorem ZDd:LoopOK e81 55 ZCj (ZaT e81.P 81 3) :=
 Za9 (L:=ZaA []) (rounds:=20) (depth:=6) (ts:=[1,2,3,4]) (v:=(Zaa (Zak Za0) (Zaa (Zak Za0) (Zaa (Zak (Za5 (Zae (Zao .i64) (Zae (Zao .i64) (Zae celOp (Zae (Za6 .entry) (Zae (ZaJ 160 .kid) (Zae (Za6 .int) (Zae (Zao .i64) (Zae (Zao .i64) (Zae (Zao .i64) (Zae (Zao .i64) (Zae (Zao .i64) (Zae (Zao .i64) (Zae (Zao .i64) (Zae (Zao .i64) (Zae (Zao .i64) (Zao .i64)))))))))))))))) Thread (fun y=>⟨y.1,y.2.1,y.2.2.1,y.2.2.2.1,y.2.2.2.2.1,y.2.2.2.2.2.1,y.2.2.2.2.2.2.1,y.2.2.2.2.2.2.2.1,y.2.2.2.2.2.2.2.2.1,y.2.2.2.2.2.2.2.2.2.1,y.2.2.2.2.2.2.2.2.2.2.1,y.2.2.2.2.2.2.2.2.2.2.2.1,y.2.2.2.2.2.2.2.2.2.2.2.2.1,y.2.2.2.2.2.2.2.2.2.2.2.2.2.1,y.2.2.2.2.2.2.2.2.2.2.2.2.2.2.1,y.2.2.2.2.2.2.2.2.2.2.2.2.2.2.2⟩) (fun x=>(x.phase,(x.item,(x.op,(x.batch,(x.kids,(x.held,(x.stop,(x.node,(x.at_,(x.layer,(x.left,(x.width,(x.who,(x.x,(x.y,x.until_)))))))))))))))) (fun _=>rfl))) (Zac (Zad .i64)))))) (a:=⟨.exit 0,[2,3],(Zaa (Zak Za0) (Zac (Zak (Za5 (Zae (Zao .i64) (Zae (Zao .i64) (Zae celOp (Zae (Za6 .entry) (Zae (ZaJ 160 .kid) (Zae (Za6 .int) (Zae (Zao .i64) (Zae (Zao .i64) (Zae (Zao .i64) (Zae (Zao .i64) (Zae (Zao .i64) (Zae (Zao .i64) (Zae (Zao .i64) (Zae (Zao .i64) (Zae (Zao .i64) (Zao .i64)))))))))))))))) Thread (fun y=>⟨y.1,y.2.1,y.2.2.1,y.2.2.2.1,y.2.2.2.2.1,y.2.2.2.2.2.1,y.2.2.2.2.2.2.1,y.2.2.2.2.2.2.2.1,y.2.2.2.2.2.2.2.2.1,y.2.2.2.2.2.2.2.2.2.1,y.2.2.2.2.2.2.2.2.2.2.1,y.2.2.2.2.2.2.2.2.2.2.2.1,y.2.2.2.2.2.2.2.2.2.2.2.2.1,y.2.2.2.2.2.2.2.2.2.2.2.2.2.1,y.2.2.2.2.2.2.2.2.2.2.2.2.2.2.1,y.2.2.2.2.2.2.2.2.2.2.2.2.2.2.2⟩) (fun x=>(x.phase,(x.item,(x.op,(x.batch,(x.kids,(x.held,(x.stop,(x.node,(x.at_,(x.layer,(x.left,(x.width,(x.who,(x.x,(x.y,x.until_)))))))))))))))) (fun _=>rfl)))))⟩) (step:=Zet) g81 rfl ZaD (fun x=>by kernel_rfl)
def s81:Spec:=Zar (Zac (Zap Za0)) (Zat (Zap Za0)) ZjN
theorem ok81:Zaq Tryz.prog 81 s81 :=
 Zaj (V:=e81) (L:=(ZaA [(3,ZCj)])) (rounds:=20) (depth:=6) g81 (ZaV (nt:=55) (by kernel_rfl) (Zbd (by kernel_rfl)) (Zay ZDd ZaF)) (fun x=>by kernel_rfl)
def e45:Env:=env1 [(79,s79),(80,s80),(81,s81)]
theorem g45:Zai e45:=Zan mix1 ent1 (Zab ok79 rfl (Zab ok80 rfl (Zab ok81 rfl Zag)))
def ZCy:LSpec:=ZbQ [1,2,3,5] (Zaa (Zak ZaM) (Zaa (Zak ZaM) (Zaa (Zak (Za5 (Zae celConfig (Zae ZaB (Zae (ZaJ 50 .thread) (Zae (Zao .i64) (Zae (Zao .i64) (Zae Zbj (Zae (Za6 .mark) (ZaJ 144 .event)))))))) Wld (fun y=>⟨y.1,y.2.1,y.2.2.1,y.2.2.2.1,y.2.2.2.2.1,y.2.2.2.2.2.1,y.2.2.2.2.2.2.1,y.2.2.2.2.2.2.2⟩) (fun x=>(x.c,(x.m,(x.t,(x.now,(x.steps,(x.tape,(x.log,x.hist)))))))) (fun _=>rfl))) (Zac (Zad .i64))))) (⟨.exit 2,[2,3],(Zaa (Zak ZaM) (Zac (Zak (Za5 (Zae celConfig (Zae ZaB (Zae (ZaJ 50 .thread) (Zae (Zao .i64) (Zae (Zao .i64) (Zae Zbj (Zae (Za6 .mark) (ZaJ 144 .event)))))))) Wld (fun y=>⟨y.1,y.2.1,y.2.2.1,y.2.2.2.1,y.2.2.2.2.1,y.2.2.2.2.2.1,y.2.2.2.2.2.2.1,y.2.2.2.2.2.2.2⟩) (fun x=>(x.c,(x.m,(x.t,(x.now,(x.steps,(x.tape,(x.log,x.hist)))))))) (fun _=>rfl)))))⟩:Way) (Zav ZdY)
theorem ZC9:LoopOK e45 78 ZCy (ZaT e45.P 45 7) :=
 Za9 (L:=ZaA []) (rounds:=20) (depth:=6) (ts:=[1,2,3,5]) (v:=(Zaa (Zak ZaM) (Zaa (Zak ZaM) (Zaa (Zak (Za5 (Zae celConfig (Zae ZaB (Zae (ZaJ 50 .thread) (Zae (Zao .i64) (Zae (Zao .i64) (Zae Zbj (Zae (Za6 .mark) (ZaJ 144 .event)))))))) Wld (fun y=>⟨y.1,y.2.1,y.2.2.1,y.2.2.2.1,y.2.2.2.2.1,y.2.2.2.2.2.1,y.2.2.2.2.2.2.1,y.2.2.2.2.2.2.2⟩) (fun x=>(x.c,(x.m,(x.t,(x.now,(x.steps,(x.tape,(x.log,x.hist)))))))) (fun _=>rfl))) (Zac (Zad .i64)))))) (a:=⟨.exit 2,[2,3],(Zaa (Zak ZaM) (Zac (Zak (Za5 (Zae celConfig (Zae ZaB (Zae (ZaJ 50 .thread) (Zae (Zao .i64) (Zae (Zao .i64) (Zae Zbj (Zae (Za6 .mark) (ZaJ 144 .event)))))))) Wld (fun y=>⟨y.1,y.2.1,y.2.2.1,y.2.2.2.1,y.2.2.2.2.1,y.2.2.2.2.2.1,y.2.2.2.2.2.2.1,y.2.2.2.2.2.2.2⟩) (fun x=>(x.c,(x.m,(x.t,(x.now,(x.steps,(x.tape,(x.log,x.hist)))))))) (fun _=>rfl)))))⟩) (step:=ZdY) g45 rfl ZaD (fun x=>by kernel_rfl)
def ZCA:LSpec:=ZbQ [1,2,3,4] (Zaa (Zak ZaM) (Zaa (Zak ZaM) (Zaa (Zak (Za5 (Zae celConfig (Zae ZaB (Zae (ZaJ 50 .thread) (Zae (Zao .i64) (Zae (Zao .i64) (Zae Zbj (Zae (Za6 .mark) (ZaJ 144 .event)))))))) Wld (fun y=>⟨y.1,y.2.1,y.2.2.1,y.2.2.2.1,y.2.2.2.2.1,y.2.2.2.2.2.1,y.2.2.2.2.2.2.1,y.2.2.2.2.2.2.2⟩) (fun x=>(x.c,(x.m,(x.t,(x.now,(x.steps,(x.tape,(x.log,x.hist)))))))) (fun _=>rfl))) (Zac (Zad .i64))))) (⟨.exit 0,[1,2,3],(Zaa (Zak ZaM) (Zaa (Zak ZaM) (Zac (Zak (Za5 (Zae celConfig (Zae ZaB (Zae (ZaJ 50 .thread) (Zae (Zao .i64) (Zae (Zao .i64) (Zae Zbj (Zae (Za6 .mark) (ZaJ 144 .event)))))))) Wld (fun y=>⟨y.1,y.2.1,y.2.2.1,y.2.2.2.1,y.2.2.2.2.1,y.2.2.2.2.2.1,y.2.2.2.2.2.2.1,y.2.2.2.2.2.2.2⟩) (fun x=>(x.c,(x.m,(x.t,(x.now,(x.steps,(x.tape,(x.log,x.hist)))))))) (fun _=>rfl))))))⟩:Way) (Zav Zd3)
theorem ZCR:LoopOK e45 78 ZCA (ZaT e45.P 45 3) :=
 Za9 (L:=ZaA []) (rounds:=20) (depth:=6) (ts:=[1,2,3,4]) (v:=(Zaa (Zak ZaM) (Zaa (Zak ZaM) (Zaa (Zak (Za5 (Zae celConfig (Zae ZaB (Zae (ZaJ 50 .thread) (Zae (Zao .i64) (Zae (Zao .i64) (Zae Zbj (Zae (Za6 .mark) (ZaJ 144 .event)))))))) Wld (fun y=>⟨y.1,y.2.1,y.2.2.1,y.2.2.2.1,y.2.2.2.2.1,y.2.2.2.2.2.1,y.2.2.2.2.2.2.1,y.2.2.2.2.2.2.2⟩) (fun x=>(x.c,(x.m,(x.t,(x.now,(x.steps,(x.tape,(x.log,x.hist)))))))) (fun _=>rfl))) (Zac (Zad .i64)))))) (a:=⟨.exit 0,[1,2,3],(Zaa (Zak ZaM) (Zaa (Zak ZaM) (Zac (Zak (Za5 (Zae celConfig (Zae ZaB (Zae (ZaJ 50 .thread) (Zae (Zao .i64) (Zae (Zao .i64) (Zae Zbj (Zae (Za6 .mark) (ZaJ 144 .event)))))))) Wld (fun y=>⟨y.1,y.2.1,y.2.2.1,y.2.2.2.1,y.2.2.2.2.1,y.2.2.2.2.2.1,y.2.2.2.2.2.2.1,y.2.2.2.2.2.2.2⟩) (fun x=>(x.c,(x.m,(x.t,(x.now,(x.steps,(x.tape,(x.log,x.hist)))))))) (fun _=>rfl))))))⟩) (step:=Zd3) g45 rfl ZaD (fun x=>by kernel_rfl)
def s45:Spec:=Zar (Zac (Zap ZaM)) (Zat (Zap ZaM)) Zck
theorem ok45:Zaq Tryz.prog 45 s45 :=
 Zaj (V:=e45) (L:=(ZaA [(7,ZCy),(3,ZCA)])) (rounds:=20) (depth:=6) g45 (ZaV (nt:=78) (by kernel_rfl) (Zbd (by kernel_rfl)) (Zay ZC9 (Zay ZCR ZaF))) (fun x=>by kernel_rfl)
def e46:Env:=env1 [(33,s33)]
theorem g46:Zai e46:=Zan mix1 ent1 (Zab ok33 rfl Zag)
def ZCF:LSpec:=ZbQ [2,6,7,8] (Zaa (Zad .i64) (Zaa (Zau .thread) (Zaa (Zad .i64) (Zac (Zad .i64))))) (⟨.exit 0,[2],(Zac (Zad .i64))⟩:Way) (Zav ZiQ)
theorem ZC5:LoopOK e46 18 ZCF (ZaT e46.P 46 2) :=
 Za9 (L:=ZaA []) (rounds:=20) (depth:=6) (ts:=[2,6,7,8]) (v:=(Zaa (Zad .i64) (Zaa (Zau .thread) (Zaa (Zad .i64) (Zac (Zad .i64)))))) (a:=⟨.exit 0,[2],(Zac (Zad .i64))⟩) (step:=ZiQ) g46 rfl ZaD (fun x=>by kernel_rfl)
def s46:Spec:=Zar (Zac (Zap ZaM)) (Zat (Zad .i64)) Zvt
theorem ok46:Zaq Tryz.prog 46 s46 :=
 Zaj (V:=e46) (L:=(ZaA [(2,ZCF)])) (rounds:=20) (depth:=6) g46 (ZaV (nt:=18) (by kernel_rfl) (Zbd (by kernel_rfl)) (Zay ZC5 ZaF)) (fun x=>by kernel_rfl)
def e47:Env:=env1 [(82,s82)]
theorem g47:Zai e47:=Zan mix1 ent1 (Zab ok82 rfl Zag)
def ZB0:LSpec:=ZbQ [1,3,4] (Zaa (Zak ZaM) (Zaa (Zad .i64) (Zac (Zad .i64)))) (⟨.exit 0,[3],(Zac (Zad .i64))⟩:Way) (Zav Zis)
theorem ZDo:LoopOK e47 21 ZB0 (ZaT e47.P 47 3) :=
 Za9 (L:=ZaA []) (rounds:=20) (depth:=6) (ts:=[1,3,4]) (v:=(Zaa (Zak ZaM) (Zaa (Zad .i64) (Zac (Zad .i64))))) (a:=⟨.exit 0,[3],(Zac (Zad .i64))⟩) (step:=Zis) g47 rfl ZaD (fun x=>by kernel_rfl)
def s47:Spec:=Zar (Zac (Zap ZaM)) (Zat (Zad .i64)) Zus
theorem ok47:Zaq Tryz.prog 47 s47 :=
 Zaj (V:=e47) (L:=(ZaA [(3,ZB0)])) (rounds:=20) (depth:=6) g47 (ZaV (nt:=21) (by kernel_rfl) (Zbd (by kernel_rfl)) (Zay ZDo ZaF)) (fun x=>by kernel_rfl)
def e48:Env:=env1 [(24,s24),(34,s34),(35,s35)]
theorem g48:Zai e48:=Zan mix1 ent1 (Zab ok24 rfl (Zab ok34 rfl (Zab ok35 rfl Zag)))
def ZyK:LSpec:=Zdh [2,3,5,6,7,8] (Zaa (Zak celConfig) (Zaa (Zak ZaM) (Zaa (Zak celConfig) (Zaa (Zad .i64) (Zaa (Zad .i64) (Zac (Zad .i64))))))) (⟨.exit 2,[2,3,5,6,7],(Zaa (Zak celConfig) (Zaa (Zak ZaM) (Zaa (Zak celConfig) (Zaa (Zad .i64) (Zac (Zad .i64))))))⟩:Way) (⟨.ret,[4],(Zac (ZaE))⟩:Way) (Zav Zh3)
theorem Zxb:LoopOK e48 103 ZyK (ZaT e48.P 48 9) :=
 Zcg (L:=ZaA []) (rounds:=20) (depth:=6) (ts:=[2,3,5,6,7,8]) (v:=(Zaa (Zak celConfig) (Zaa (Zak ZaM) (Zaa (Zak celConfig) (Zaa (Zad .i64) (Zaa (Zad .i64) (Zac (Zad .i64)))))))) (a:=⟨.exit 2,[2,3,5,6,7],(Zaa (Zak celConfig) (Zaa (Zak ZaM) (Zaa (Zak celConfig) (Zaa (Zad .i64) (Zac (Zad .i64))))))⟩) (b:=⟨.ret,[4],(Zac (ZaE))⟩) (step:=Zh3) g48 rfl rfl ZaD (fun x=>by kernel_rfl)
def ZB4:LSpec:=Zdh [2,3,5,6] (Zaa (Zak celConfig) (Zaa (Zak ZaM) (Zaa (Zak celConfig) (Zac (Zad .i64))))) (⟨.exit 0,[],Zbz⟩:Way) (⟨.ret,[4],(Zac (ZaE))⟩:Way) (Zav Zhv)
theorem ZDw:LoopOK e48 103 ZB4 (ZaT e48.P 48 5) :=
 Zcg (L:=ZaA [(9,ZyK)]) (rounds:=20) (depth:=6) (ts:=[2,3,5,6]) (v:=(Zaa (Zak celConfig) (Zaa (Zak ZaM) (Zaa (Zak celConfig) (Zac (Zad .i64)))))) (a:=⟨.exit 0,[],Zbz⟩) (b:=⟨.ret,[4],(Zac (ZaE))⟩) (step:=Zhv) g48 rfl rfl (ZpW (by kernel_rfl) (Zay Zxb ZaF)) (fun x=>by kernel_rfl)
def s48:Spec:=Zar (Zaa (Zap celConfig) (Zac (Zap ZaM))) (Zat (ZaE)) Ztl
theorem ok48:Zaq Tryz.prog 48 s48 :=
 Zaj (V:=e48) (L:=(ZaA [(9,ZyK),(5,ZB4)])) (rounds:=20) (depth:=6) g48 (ZaV (nt:=103) (by kernel_rfl) (Zbd (by kernel_rfl)) (Zay Zxb (Zay ZDw ZaF))) (fun x=>by kernel_rfl)
def e49:Env:=env1 [(24,s24)]
theorem g49:Zai e49:=Zan mix1 ent1 (Zab ok24 rfl Zag)
def Zun:LSpec:=Zdh [2,3,5,6,8,9,10,11] (Zaa (Zak celConfig) (Zaa (Zak ZaM) (Zaa (Zad .i64) (Zaa (ZaH 74 .mark) (Zaa (Zad .i64) (Zaa (ZaE) (Zaa (Zak Zk1) (Zac (Zad .i64))))))))) (⟨.exit 4,[2,3,5,6,8,9,10],(Zaa (Zak celConfig) (Zaa (Zak ZaM) (Zaa (Zad .i64) (Zaa (ZaH 74 .mark) (Zaa (Zad .i64) (Zaa (ZaE) (Zac (Zak Zk1))))))))⟩:Way) (⟨.ret,[4],(Zac (ZaE))⟩:Way) (Zav Zf5)
theorem ZvP:LoopOK e49 213 Zun (ZaT e49.P 49 16) :=
 Zcg (L:=ZaA []) (rounds:=20) (depth:=6) (ts:=[2,3,5,6,8,9,10,11]) (v:=(Zaa (Zak celConfig) (Zaa (Zak ZaM) (Zaa (Zad .i64) (Zaa (ZaH 74 .mark) (Zaa (Zad .i64) (Zaa (ZaE) (Zaa (Zak Zk1) (Zac (Zad .i64)))))))))) (a:=⟨.exit 4,[2,3,5,6,8,9,10],(Zaa (Zak celConfig) (Zaa (Zak ZaM) (Zaa (Zad .i64) (Zaa (ZaH 74 .mark) (Zaa (Zad .i64) (Zaa (ZaE) (Zac (Zak Zk1))))))))⟩) (b:=⟨.ret,[4],(Zac (ZaE))⟩) (step:=Zf5) g49 rfl rfl ZaD (fun x=>by kernel_rfl)
def Zyq:LSpec:=ZbQ [2,3,5,6,7] (Zaa (Zak celConfig) (Zaa (Zak ZaM) (Zaa (Zad .i64) (Zaa (ZaH 74 .mark) (Zac (Zad .i64)))))) (⟨.exit 2,[2,3,5,6],(Zaa (Zak celConfig) (Zaa (Zak ZaM) (Zaa (Zad .i64) (Zac (ZaH 74 .mark)))))⟩:Way) (Zav Zgv)
theorem Zxf:LoopOK e49 213 Zyq (ZaT e49.P 49 8) :=
 Za9 (L:=ZaA []) (rounds:=20) (depth:=6) (ts:=[2,3,5,6,7]) (v:=(Zaa (Zak celConfig) (Zaa (Zak ZaM) (Zaa (Zad .i64) (Zaa (ZaH 74 .mark) (Zac (Zad .i64))))))) (a:=⟨.exit 2,[2,3,5,6],(Zaa (Zak celConfig) (Zaa (Zak ZaM) (Zaa (Zad .i64) (Zac (ZaH 74 .mark)))))⟩) (step:=Zgv) g49 rfl ZaD (fun x=>by kernel_rfl)
def ZBN:LSpec:=Zdh [2,3,5] (Zaa (Zak celConfig) (Zaa (Zak ZaM) (Zac (Zad .i64)))) (⟨.exit 0,[],Zbz⟩:Way) (⟨.ret,[4],(Zac (ZaE))⟩:Way) (Zav Zgp)
theorem ZCQ:LoopOK e49 213 ZBN (ZaT e49.P 49 4) :=
 Zcg (L:=ZaA [(16,Zun),(8,Zyq)]) (rounds:=20) (depth:=6) (ts:=[2,3,5]) (v:=(Zaa (Zak celConfig) (Zaa (Zak ZaM) (Zac (Zad .i64))))) (a:=⟨.exit 0,[],Zbz⟩) (b:=⟨.ret,[4],(Zac (ZaE))⟩) (step:=Zgp) g49 rfl rfl (ZpW (by kernel_rfl) (Zay ZvP (Zay Zxf ZaF))) (fun x=>by kernel_rfl)
def s49:Spec:=Zar (Zaa (Zap celConfig) (Zac (Zap ZaM))) (Zat (ZaE)) Zqm
theorem ok49:Zaq Tryz.prog 49 s49 :=
 Zaj (V:=e49) (L:=(ZaA [(16,Zun),(8,Zyq),(4,ZBN)])) (rounds:=20) (depth:=6) g49 (ZaV (nt:=213) (by kernel_rfl) (Zbd (by kernel_rfl)) (Zay ZvP (Zay Zxf (Zay ZCQ ZaF)))) (fun x=>by kernel_rfl)
def e55:Env:=env1 []
theorem g55:Zai e55:=Zan mix1 ent1 Zag
def s55:Spec:=Zar (Zac (Zap Zas)) (Zat (Zap Zas)) ZfH
theorem ok55:Zaq Tryz.prog 55 s55 :=
 Zaj (V:=e55) (L:=nL) (rounds:=20) (depth:=6) g55 Zal (fun x=>by kernel_rfl)
def e85:Env:=env1 []
theorem g85:Zai e85:=Zan mix1 ent1 Zag
def s85:Spec:=Zar (Zac (Zau .int)) (Zat (ZaH 3 .int)) ZbB
theorem ok85:Zaq Tryz.prog 85 s85 :=
 Zit (V:=e85) (L:=nL) (rounds:=20) (depth:=6) (r:=(Zat (ZaH 3 .int))) g85 Zal (by kernel_rfl) (fun x=>by kernel_rfl)
def e154:Env:=env1 []
theorem g154:Zai e154:=Zan mix1 ent1 Zag
def s154:Spec:=Zar (Zaa (Zau .int) (Zac (Zad .i64))) (Zbk (Zaa (Zad .i64) (Zac (Zad .i64)))) ZbF
theorem ZtO:Zaq Tryz.prog 154 s154 :=
 Zaj (V:=e154) (L:=nL) (rounds:=20) (depth:=6) g154 Zal (fun x=>by kernel_rfl)
def e95:Env:=env1 [(85,s85),(154,s154)]
theorem g95:Zai e95:=Zan mix1 ent1 (Zab ok85 rfl (Zab ZtO rfl Zag))
def s95:Spec:=Zar (Zaa (Zap ZaB) (Zaa (Zad .i64) (Zac (Zad .i64)))) (Zbk (Zaa (Zap ZaB) (Zac (Zad .i64)))) Zb9
theorem ok95:Zaq Tryz.prog 95 s95 :=
 Zaj (V:=e95) (L:=nL) (rounds:=20) (depth:=6) g95 Zal (fun x=>by kernel_rfl)
def e96:Env:=env1 [(120,s120)]
theorem g96:Zai e96:=Zan mix1 ent1 (Zab ZoX rfl Zag)
def s96:Spec:=Zar (Zaa (Zap celConfig) (Zac (Zad .i64))) (Zat (Zad .i64)) Zc4
theorem ok96:Zaq Tryz.prog 96 s96 :=
 Zaj (V:=e96) (L:=nL) (rounds:=20) (depth:=6) g96 Zal (fun x=>by kernel_rfl)
def e63:Env:=env1 [(55,s55),(95,s95),(96,s96)]
theorem g63:Zai e63:=Zan mix1 ent1 (Zab ok55 rfl (Zab ok95 rfl (Zab ok96 rfl Zag)))
def s63:Spec:=Zar (Zac (Zap Zas)) (Zbk (Zaa (Zap Zas) (Zac (ZaE)))) Zib
theorem ok63:Zaq Tryz.prog 63 s63 :=
 Zaj (V:=e63) (L:=nL) (rounds:=20) (depth:=6) g63 Zal (fun x=>by kernel_rfl)
def e105:Env:=env1 [(120,s120),(148,s148)]
theorem g105:Zai e105:=Zan mix1 ent1 (Zab ZoX rfl (Zab ZBK rfl Zag))
def s105:Spec:=Zar (Zaa (Zap celConfig) (Zaa (Zad .i64) (Zac (Zad .i64)))) (Zat (Zad .i64)) ZdZ
theorem ZxE:Zaq Tryz.prog 105 s105 :=
 Zaj (V:=e105) (L:=nL) (rounds:=20) (depth:=6) g105 Zal (fun x=>by kernel_rfl)
def e150:Env:=env1 []
theorem g150:Zai e150:=Zan mix1 ent1 Zag
def s150:Spec:=Zar (Zac (Zap Zw3)) (Zat (Zad .i64)) ZbS
theorem ZqA:Zaq Tryz.prog 150 s150 :=
 Zaj (V:=e150) (L:=nL) (rounds:=20) (depth:=6) g150 Zal (fun x=>by kernel_rfl)
def e106:Env:=env1 [(150,s150)]
theorem g106:Zai e106:=Zan mix1 ent1 (Zab ZqA rfl Zag)
def s106:Spec:=Zar (Zac (Zad .i64)) (Zat (Zad .i64)) ZeO
theorem Zx4:Zaq Tryz.prog 106 s106 :=
 Zaj (V:=e106) (L:=nL) (rounds:=20) (depth:=6) g106 Zal (fun x=>by kernel_rfl)
def e151:Env:=env1 []
theorem g151:Zai e151:=Zan mix1 ent1 Zag
def s151:Spec:=Zar (Zac (Zad .i64)) (Zat (Zad .i64)) Ziq
theorem ZFm:Zaq Tryz.prog 151 s151 :=
 Zaj (V:=e151) (L:=nL) (rounds:=20) (depth:=6) g151 Zal (fun x=>by kernel_rfl)
def e181:Env:=env1 []
theorem g181:Zai e181:=Zan mix1 ent1 Zag
def s181:Spec:=Zar (Zac (Zap Zas)) (Zat (Zap Zas)) ZfX
theorem ZBJ:Zaq Tryz.prog 181 s181 :=
 Zaj (V:=e181) (L:=nL) (rounds:=20) (depth:=6) g181 Zal (fun x=>by kernel_rfl)
def e152:Env:=env1 [(181,s181)]
theorem g152:Zai e152:=Zan mix1 ent1 (Zab ZBJ rfl Zag)
def s152:Spec:=Zar (Zac (Zap Zas)) (Zat (Zap Zas)) ZdX
theorem Zx0:Zaq Tryz.prog 152 s152 :=
 Zaj (V:=e152) (L:=nL) (rounds:=20) (depth:=6) g152 Zal (fun x=>by kernel_rfl)
def e107:Env:=env1 [(85,s85),(151,s151),(152,s152)]
theorem g107:Zai e107:=Zan mix1 ent1 (Zab ok85 rfl (Zab ZFm rfl (Zab Zx0 rfl Zag)))
def s107:Spec:=Zar (Zac (Zap Zas)) (Zat (Zap Zas)) ZjA
theorem ZEv:Zaq Tryz.prog 107 s107 :=
 Zaj (V:=e107) (L:=nL) (rounds:=20) (depth:=6) g107 Zal (fun x=>by kernel_rfl)
def e109:Env:=env1 [(85,s85),(154,s154)]
theorem g109:Zai e109:=Zan mix1 ent1 (Zab ok85 rfl (Zab ZtO rfl Zag))
def s109:Spec:=Zar (Zaa (Zap ZaB) (Zaa (Zad .i64) (Zaa (Zad .i64) (Zac (Zad .i64))))) (Zbk (Zaa (Zap ZaB) (Zaa (ZaE) (Zac (Zad .i64))))) ZcP
theorem ZtP:Zaq Tryz.prog 109 s109 :=
 Zaj (V:=e109) (L:=nL) (rounds:=20) (depth:=6) g109 Zal (fun x=>by kernel_rfl)
def e110:Env:=env1 [(154,s154)]
theorem g110:Zai e110:=Zan mix1 ent1 (Zab ZtO rfl Zag)
def s110:Spec:=Zar (Zaa (Zap ZaB) (Zac (Zad .i64))) (Zbk (Zaa (Zad .i64) (Zac (Zad .i64)))) Zcd
theorem Zq9:Zaq Tryz.prog 110 s110 :=
 Zaj (V:=e110) (L:=nL) (rounds:=20) (depth:=6) g110 Zal (fun x=>by kernel_rfl)
def e146:Env:=env1 []
theorem g146:Zai e146:=Zan mix1 ent1 Zag
def s146:Spec:=Zar (Zac (Zap Zas)) (Zat (ZaE)) Zdz
theorem ZyB:Zaq Tryz.prog 146 s146 :=
 Zaj (V:=e146) (L:=nL) (rounds:=20) (depth:=6) g146 Zal (fun x=>by kernel_rfl)
def e182:Env:=env1 []
theorem g182:Zai e182:=Zan mix1 ent1 Zag
def s182:Spec:=Zar (Zac (Zad .i64)) (Zat (Zap Zw3)) Zjj
theorem ZCt:Zaq Tryz.prog 182 s182 :=
 Zaj (V:=e182) (L:=nL) (rounds:=20) (depth:=6) g182 Zal (fun x=>by kernel_rfl)
def e155:Env:=env1 [(182,s182)]
theorem g155:Zai e155:=Zan mix1 ent1 (Zab ZCt rfl Zag)
def s155:Spec:=Zar (Zac (Zad .i64)) (Zat (Zad .i64)) ZgC
theorem ZBv:Zaq Tryz.prog 155 s155 :=
 Zaj (V:=e155) (L:=nL) (rounds:=20) (depth:=6) g155 Zal (fun x=>by kernel_rfl)
def e111:Env:=env1 [(146,s146),(152,s152),(155,s155)]
theorem g111:Zai e111:=Zan mix1 ent1 (Zab ZyB rfl (Zab Zx0 rfl (Zab ZBv rfl Zag)))
def s111:Spec:=Zar (Zaa (Zap Zas) (Zac (Zad .i64))) (Zat (Zap Zas)) Zkr
theorem ZEz:Zaq Tryz.prog 111 s111 :=
 Zaj (V:=e111) (L:=nL) (rounds:=20) (depth:=6) g111 Zal (fun x=>by kernel_rfl)
def e112:Env:=env1 [(150,s150)]
theorem g112:Zai e112:=Zan mix1 ent1 (Zab ZqA rfl Zag)
def s112:Spec:=Zar (Zac (Zad .i64)) (Zat (Zad .i64)) Zjv
theorem ZEa:Zaq Tryz.prog 112 s112 :=
 Zaj (V:=e112) (L:=nL) (rounds:=20) (depth:=6) g112 Zal (fun x=>by kernel_rfl)
def e113:Env:=env1 [(152,s152)]
theorem g113:Zai e113:=Zan mix1 ent1 (Zab Zx0 rfl Zag)
def s113:Spec:=Zar (Zac (Zap Zas)) (Zat (Zap Zas)) ZiP
theorem ZEy:Zaq Tryz.prog 113 s113 :=
 Zaj (V:=e113) (L:=nL) (rounds:=20) (depth:=6) g113 Zal (fun x=>by kernel_rfl)
def e66:Env:=env1 [(105,s105),(106,s106),(107,s107),(109,s109),(110,s110),(111,s111),(112,s112),(113,s113)]
theorem g66:Zai e66:=Zan mix1 ent1 (Zab ZxE rfl (Zab Zx4 rfl (Zab ZEv rfl (Zab ZtP rfl (Zab Zq9 rfl (Zab ZEz rfl (Zab ZEa rfl (Zab ZEy rfl Zag))))))))
def s66:Spec:=Zar (Zac (Zap Zas)) (Zbk (Zaa (Zap Zas) (Zac (ZaE)))) ZkJ
theorem ok66:Zaq Tryz.prog 66 s66 :=
 Zaj (V:=e66) (L:=nL) (rounds:=20) (depth:=6) g66 Zal (fun x=>by kernel_rfl)
def e183:Env:=env1 [(105,s105)]
theorem g183:Zai e183:=Zan mix1 ent1 (Zab ZxE rfl Zag)
def s183:Spec:=Zar (Zac (Zap Zas)) (Zat (Zad .i64)) Zfl
theorem Zx2:Zaq Tryz.prog 183 s183 :=
 Zaj (V:=e183) (L:=nL) (rounds:=20) (depth:=6) g183 Zal (fun x=>by kernel_rfl)
def e184:Env:=env1 [(182,s182)]
theorem g184:Zai e184:=Zan mix1 ent1 (Zab ZCt rfl Zag)
def s184:Spec:=Zar (Zac (Zad .i64)) (Zat (Zad .i64)) Zm2
theorem ZEX:Zaq Tryz.prog 184 s184 :=
 Zaj (V:=e184) (L:=nL) (rounds:=20) (depth:=6) g184 Zal (fun x=>by kernel_rfl)
def e156:Env:=env1 [(106,s106),(110,s110),(155,s155),(183,s183),(184,s184)]
theorem g156:Zai e156:=Zan mix1 ent1 (Zab Zx4 rfl (Zab Zq9 rfl (Zab ZBv rfl (Zab Zx2 rfl (Zab ZEX rfl Zag)))))
def s156:Spec:=Zar (Zac (Zap Zas)) (Zat (Zap Zas)) Zj0
theorem ZE6:Zaq Tryz.prog 156 s156 :=
 Zaj (V:=e156) (L:=nL) (rounds:=20) (depth:=6) g156 Zal (fun x=>by kernel_rfl)
def e187:Env:=env1 [(181,s181)]
theorem g187:Zai e187:=Zan mix1 ent1 (Zab ZBJ rfl Zag)
def s187:Spec:=Zar (Zac (Zap Zas)) (Zat (Zap Zas)) ZgQ
theorem ZBO:Zaq Tryz.prog 187 s187 :=
 Zaj (V:=e187) (L:=nL) (rounds:=20) (depth:=6) g187 Zal (fun x=>by kernel_rfl)
def e157:Env:=env1 [(106,s106),(109,s109),(183,s183),(187,s187)]
theorem g157:Zai e157:=Zan mix1 ent1 (Zab Zx4 rfl (Zab ZtP rfl (Zab Zx2 rfl (Zab ZBO rfl Zag))))
def s157:Spec:=Zar (Zac (Zap Zas)) (Zat (Zap Zas)) ZjK
theorem ZEm:Zaq Tryz.prog 157 s157 :=
 Zaj (V:=e157) (L:=nL) (rounds:=20) (depth:=6) g157 Zal (fun x=>by kernel_rfl)
def e180:Env:=env1 []
theorem g180:Zai e180:=Zan mix1 ent1 Zag
def s180:Spec:=Zar (Zac (Zau .entry)) (Zat (ZaH 135 .entry)) Zbs
theorem Zxv:Zaq Tryz.prog 180 s180 :=
 Zit (V:=e180) (L:=nL) (rounds:=20) (depth:=6) (r:=(Zat (ZaH 135 .entry))) g180 Zal (by kernel_rfl) (fun x=>by kernel_rfl)
def e227:Env:=env1 []
theorem g227:Zai e227:=Zan mix1 ent1 Zag
def s227:Spec:=Zar (Zaa (Zau (.lst .entry)) (Zac (Zad .i64))) (Zbk (Zaa (Zau .entry) (Zac (Zad .i64)))) Zci
theorem ZCl:Zaq Tryz.prog 227 s227 :=
 Zaj (V:=e227) (L:=nL) (rounds:=20) (depth:=6) g227 Zal (fun x=>by kernel_rfl)
def e188:Env:=env1 [(180,s180),(227,s227)]
theorem g188:Zai e188:=Zan mix1 ent1 (Zab Zxv rfl (Zab ZCl rfl Zag))
def s188:Spec:=Zar (Zaa (Zap ZaB) (Zac (Zad .i64))) (Zbk (Zaa (Zau .entry) (Zac (Zad .i64)))) Zh2
theorem ZCa:Zaq Tryz.prog 188 s188 :=
 Zaj (V:=e188) (L:=nL) (rounds:=20) (depth:=6) g188 Zal (fun x=>by kernel_rfl)
def e244:Env:=ZCs []
theorem g244:Zai e244:=Zan mix1 ent1 Zag
def s244:Spec:=Zar (Zaa (ZzI) (Zac (Zad .i64))) (Zat (ZaH 163 .kid)) Zd0
theorem ZEj:Zaq Tryz.prog 244 s244 :=
 Zaj (V:=e244) (L:=nL) (rounds:=20) (depth:=6) g244 Zal (fun x=>by kernel_rfl)
def e228:Env:=env1 [(244,s244)]
theorem g228:Zai e228:=Zan mix1 ent1 (Zab ZEj rfl Zag)
def Zw8:LSpec:=ZbQ [6,25,26,27] (Zaa (ZaH 163 .kid) (Zaa (Zau (.lst .kid)) (Zaa (Zad .i64) (Zac (Zad .i64))))) (⟨.exit 2,[6],(Zac (ZaH 163 .kid))⟩:Way) (Zav ZbM)
theorem Zy9:LoopOK e228 36 Zw8 (ZaT e228.P 228 11) :=
 Za9 (L:=ZaA []) (rounds:=20) (depth:=6) (ts:=[6,25,26,27]) (v:=(Zaa (ZaH 163 .kid) (Zaa (Zau (.lst .kid)) (Zaa (Zad .i64) (Zac (Zad .i64)))))) (a:=⟨.exit 2,[6],(Zac (ZaH 163 .kid))⟩) (step:=ZbM) g228 rfl ZaD (fun x=>by kernel_rfl)
def Zz3:LSpec:=ZbQ [0,3,9,10,11] (Zaa (Zau (.lst .kid)) (Zaa (Zad .i64) (Zaa (Zau (.lst .kid)) (Zaa (Zad .i64) (Zac (Zad .i64)))))) (⟨.exit 0,[0,3],(Zaa (Zau (.lst .kid)) (Zac (Zad .i64)))⟩:Way) (Zav ZbP)
theorem ZAT:LoopOK e228 36 Zz3 (ZaT e228.P 228 3) :=
 Za9 (L:=ZaA []) (rounds:=20) (depth:=6) (ts:=[0,3,9,10,11]) (v:=(Zaa (Zau (.lst .kid)) (Zaa (Zad .i64) (Zaa (Zau (.lst .kid)) (Zaa (Zad .i64) (Zac (Zad .i64))))))) (a:=⟨.exit 0,[0,3],(Zaa (Zau (.lst .kid)) (Zac (Zad .i64)))⟩) (step:=ZbP) g228 rfl ZaD (fun x=>by kernel_rfl)
def s228:Spec:=Zar (Zac (Zau (.lst .kid))) (Zat (ZaH 163 .kid)) ZdJ
theorem ZFe:Zaq Tryz.prog 228 s228 :=
 Zaj (V:=e228) (L:=(ZaA [(11,Zw8),(3,Zz3)])) (rounds:=20) (depth:=6) g228 (ZaV (nt:=36) (by kernel_rfl) (Zbd (by kernel_rfl)) (Zay Zy9 (Zay ZAT ZaF))) (fun x=>by kernel_rfl)
def e248:Env:=ZCs []
theorem g248:Zai e248:=Zan mix1 ent1 Zag
def s248:Spec:=Zar (Zaa (ZzI) (Zac (Zad .i64))) (Zat (ZaH 135 .entry)) ZdR
theorem ZFv:Zaq Tryz.prog 248 s248 :=
 Zaj (V:=e248) (L:=nL) (rounds:=20) (depth:=6) g248 Zal (fun x=>by kernel_rfl)
def e245:Env:=env1 [(248,s248)]
theorem g245:Zai e245:=Zan mix1 ent1 (Zab ZFv rfl Zag)
def Zw5:LSpec:=ZbQ [6,25,26,27] (Zaa (ZaH 135 .entry) (Zaa (Zau (.lst .entry)) (Zaa (Zad .i64) (Zac (Zad .i64))))) (⟨.exit 2,[6],(Zac (ZaH 135 .entry))⟩:Way) (Zav ZbE)
theorem ZzE:LoopOK e245 36 Zw5 (ZaT e245.P 245 11) :=
 Za9 (L:=ZaA []) (rounds:=20) (depth:=6) (ts:=[6,25,26,27]) (v:=(Zaa (ZaH 135 .entry) (Zaa (Zau (.lst .entry)) (Zaa (Zad .i64) (Zac (Zad .i64)))))) (a:=⟨.exit 2,[6],(Zac (ZaH 135 .entry))⟩) (step:=ZbE) g245 rfl ZaD (fun x=>by kernel_rfl)
def Zy8:LSpec:=ZbQ [0,3,9,10,11] (Zaa (Zau (.lst .entry)) (Zaa (Zad .i64) (Zaa (Zau (.lst .entry)) (Zaa (Zad .i64) (Zac (Zad .i64)))))) (⟨.exit 0,[0,3],(Zaa (Zau (.lst .entry)) (Zac (Zad .i64)))⟩:Way) (Zav ZbL)
theorem ZAM:LoopOK e245 36 Zy8 (ZaT e245.P 245 3) :=
 Za9 (L:=ZaA []) (rounds:=20) (depth:=6) (ts:=[0,3,9,10,11]) (v:=(Zaa (Zau (.lst .entry)) (Zaa (Zad .i64) (Zaa (Zau (.lst .entry)) (Zaa (Zad .i64) (Zac (Zad .i64))))))) (a:=⟨.exit 0,[0,3],(Zaa (Zau (.lst .entry)) (Zac (Zad .i64)))⟩) (step:=ZbL) g245 rfl ZaD (fun x=>by kernel_rfl)
def s245:Spec:=Zar (Zac (Zau (.lst .entry))) (Zat (ZaH 135 .entry)) Zdk
theorem ZEt:Zaq Tryz.prog 245 s245 :=
 Zaj (V:=e245) (L:=(ZaA [(11,Zw5),(3,Zy8)])) (rounds:=20) (depth:=6) g245 (ZaV (nt:=36) (by kernel_rfl) (Zbd (by kernel_rfl)) (Zay ZzE (Zay ZAM ZaF))) (fun x=>by kernel_rfl)
def e229:Env:=env1 [(245,s245)]
theorem g229:Zai e229:=Zan mix1 ent1 (Zab ZEt rfl Zag)
def s229:Spec:=Zar (Zac (Zau (.lst .entry))) (Zat (Zau .entry)) Zlh
theorem ZEk:Zaq Tryz.prog 229 s229 :=
 Zaj (V:=e229) (L:=nL) (rounds:=20) (depth:=6) g229 Zal (fun x=>by kernel_rfl)
def e190:Env:=env1 [(228,s228),(229,s229)]
theorem g190:Zai e190:=Zan mix1 ent1 (Zab ZFe rfl (Zab ZEk rfl Zag))
def s190:Spec:=Zar (Zaa (Zap Zas) (Zaa (Zad .i64) (Zac (Zau .entry)))) (Zat (Zap Zas)) Zfq
theorem ZBP:Zaq Tryz.prog 190 s190 :=
 Zaj (V:=e190) (L:=nL) (rounds:=20) (depth:=6) g190 Zal (fun x=>by kernel_rfl)
def e158:Env:=env1 [(188,s188),(190,s190)]
theorem g158:Zai e158:=Zan mix1 ent1 (Zab ZCa rfl (Zab ZBP rfl Zag))
def s158:Spec:=Zar (Zac (Zap Zas)) (Zat (Zap Zas)) Zhf
theorem ZEp:Zaq Tryz.prog 158 s158 :=
 Zaj (V:=e158) (L:=nL) (rounds:=20) (depth:=6) g158 Zal (fun x=>by kernel_rfl)
def e159:Env:=env1 [(95,s95),(183,s183),(187,s187)]
theorem g159:Zai e159:=Zan mix1 ent1 (Zab ok95 rfl (Zab Zx2 rfl (Zab ZBO rfl Zag)))
def s159:Spec:=Zar (Zac (Zap Zas)) (Zat (Zap Zas)) ZjW
theorem ZEh:Zaq Tryz.prog 159 s159 :=
 Zaj (V:=e159) (L:=nL) (rounds:=20) (depth:=6) g159 Zal (fun x=>by kernel_rfl)
def e230:Env:=env1 []
theorem g230:Zai e230:=Zan mix1 ent1 Zag
def s230:Spec:=Zar (Zac (Zau (.lst .entry))) (Zat (ZaH 30 (.lst .entry))) Zdl
theorem ZEG:Zaq Tryz.prog 230 s230 :=
 Zit (V:=e230) (L:=nL) (rounds:=20) (depth:=6) (r:=(Zat (ZaH 30 (.lst .entry)))) g230 Zal (by kernel_rfl) (fun x=>by kernel_rfl)
def e191:Env:=env1 [(180,s180),(227,s227),(230,s230)]
theorem g191:Zai e191:=Zan mix1 ent1 (Zab Zxv rfl (Zab ZCl rfl (Zab ZEG rfl Zag)))
def s191:Spec:=Zar (Zaa (Zap ZaB) (Zaa (Zad .i64) (Zac (Zau .entry)))) (Zbk (Zaa (Zap ZaB) (Zac (Zad .i64)))) ZhG
theorem ZCd:Zaq Tryz.prog 191 s191 :=
 Zaj (V:=e191) (L:=nL) (rounds:=20) (depth:=6) g191 Zal (fun x=>by kernel_rfl)
def e160:Env:=env1 [(191,s191)]
theorem g160:Zai e160:=Zan mix1 ent1 (Zab ZCd rfl Zag)
def s160:Spec:=Zar (Zac (Zap Zas)) (Zat (Zap Zas)) ZgZ
theorem ZFh:Zaq Tryz.prog 160 s160 :=
 Zaj (V:=e160) (L:=nL) (rounds:=20) (depth:=6) g160 Zal (fun x=>by kernel_rfl)
def e192:Env:=env1 [(150,s150)]
theorem g192:Zai e192:=Zan mix1 ent1 (Zab ZqA rfl Zag)
def s192:Spec:=Zar (Zac (Zad .i64)) (Zat (Zad .i64)) Zha
theorem ZEd:Zaq Tryz.prog 192 s192 :=
 Zaj (V:=e192) (L:=nL) (rounds:=20) (depth:=6) g192 Zal (fun x=>by kernel_rfl)
def e161:Env:=env1 [(95,s95),(105,s105),(192,s192)]
theorem g161:Zai e161:=Zan mix1 ent1 (Zab ok95 rfl (Zab ZxE rfl (Zab ZEd rfl Zag)))
def s161:Spec:=Zar (Zac (Zap Zas)) (Zat (Zap Zas)) Zhd
theorem ZFC:Zaq Tryz.prog 161 s161 :=
 Zaj (V:=e161) (L:=nL) (rounds:=20) (depth:=6) g161 Zal (fun x=>by kernel_rfl)
def e67:Env:=env1 [(156,s156),(157,s157),(158,s158),(159,s159),(160,s160),(161,s161)]
theorem g67:Zai e67:=Zan mix1 ent1 (Zab ZE6 rfl (Zab ZEm rfl (Zab ZEp rfl (Zab ZEh rfl (Zab ZFh rfl (Zab ZFC rfl Zag))))))
def s67:Spec:=Zar (Zac (Zap Zas)) (Zbk (Zaa (Zap Zas) (Zac (ZaE)))) ZjS
theorem ok67:Zaq Tryz.prog 67 s67 :=
 Zaj (V:=e67) (L:=nL) (rounds:=20) (depth:=6) g67 Zal (fun x=>by kernel_rfl)
def e83:Env:=env1 []
theorem g83:Zai e83:=Zan mix1 ent1 Zag
def ZCv:LSpec:=Zdh [1,29,30] (Zaa (Zak celConfig) (Zaa (Zap (Zae (Zao .i64) (Zae (Zao .i64) (Zae (Zao .i64) (Zae (Zao .i64) (Zae (Zao .i64) (Zae (Zao .i64) (Zae (Zao .i64) (Zae (Zao .i64) (Zae (Zao .i64) (Zae (Zao .i64) (Zae (Zao .i64) (Zae (Zao .i64) (Zae (Zao .i64) (Zae (Zao .i64) (Zae (Zao .i64) (Zae (Zao .i64) (Zae (Zao .i64) (Zae (Zao .i64) (Zae (Zao .i64) (Zae (Zao .i64) (Zae (Zao .i64) (Zae (Zao .i64) (Zae (Zao .i64) (Zao .i64))))))))))))))))))))))))) (Zac (Zad .i64)))) (⟨.exit 0,[1],(Zac (Zak celConfig))⟩:Way) (⟨.ret,[2],(Zac (Zad .i64))⟩:Way) (Zav Zd5)
theorem ZCL:LoopOK e83 65 ZCv (ZaT e83.P 83 2) :=
 Zcg (L:=ZaA []) (rounds:=20) (depth:=6) (ts:=[1,29,30]) (v:=(Zaa (Zak celConfig) (Zaa (Zap (Zae (Zao .i64) (Zae (Zao .i64) (Zae (Zao .i64) (Zae (Zao .i64) (Zae (Zao .i64) (Zae (Zao .i64) (Zae (Zao .i64) (Zae (Zao .i64) (Zae (Zao .i64) (Zae (Zao .i64) (Zae (Zao .i64) (Zae (Zao .i64) (Zae (Zao .i64) (Zae (Zao .i64) (Zae (Zao .i64) (Zae (Zao .i64) (Zae (Zao .i64) (Zae (Zao .i64) (Zae (Zao .i64) (Zae (Zao .i64) (Zae (Zao .i64) (Zae (Zao .i64) (Zae (Zao .i64) (Zao .i64))))))))))))))))))))))))) (Zac (Zad .i64))))) (a:=⟨.exit 0,[1],(Zac (Zak celConfig))⟩) (b:=⟨.ret,[2],(Zac (Zad .i64))⟩) (step:=Zd5) g83 rfl rfl ZaD (fun x=>by kernel_rfl)
def s83:Spec:=Zar (Zac (Zap celConfig)) (Zat (Zad .i64)) Ze0
theorem ok83:Zaq Tryz.prog 83 s83 :=
 Zaj (V:=e83) (L:=(ZaA [(2,ZCv)])) (rounds:=20) (depth:=6) g83 (ZaV (nt:=65) (by kernel_rfl) (Zbd (by kernel_rfl)) (Zay ZCL ZaF)) (fun x=>by kernel_rfl)
def e129:Env:=env1 []
theorem g129:Zai e129:=Zan mix1 ent1 Zag
def s129:Spec:=Zar (Zaa (Zad .i64) (Zac (Zad .i64))) (Zat (ZaE)) Zdt
theorem ZE4:Zaq Tryz.prog 129 s129 :=
 Zaj (V:=e129) (L:=nL) (rounds:=20) (depth:=6) g129 Zal (fun x=>by kernel_rfl)
def e171:Env:=env1 []
theorem g171:Zai e171:=Zan mix1 ent1 Zag
def s171:Spec:=Zar (Zac (Zad .i64)) (Zat (ZaE)) Zk9
theorem ZFa:Zaq Tryz.prog 171 s171 :=
 Zaj (V:=e171) (L:=nL) (rounds:=20) (depth:=6) g171 Zal (fun x=>by kernel_rfl)
def e130:Env:=env1 [(171,s171)]
theorem g130:Zai e130:=Zan mix1 ent1 (Zab ZFa rfl Zag)
def s130:Spec:=Zar (Zaa (Zap celOp) (Zac (ZaE))) (Zat (ZaE)) Zkd
theorem ZEe:Zaq Tryz.prog 130 s130 :=
 Zaj (V:=e130) (L:=nL) (rounds:=20) (depth:=6) g130 Zal (fun x=>by kernel_rfl)
def e88:Env:=env1 [(129,s129),(130,s130)]
theorem g88:Zai e88:=Zan mix1 ent1 (Zab ZE4 rfl (Zab ZEe rfl Zag))
def s88:Spec:=Zar (Zaa (Zap celConfig) (Zac (Zap ZlB))) (Zat (Zad .i64)) ZeQ
theorem ok88:Zaq Tryz.prog 88 s88 :=
 Zaj (V:=e88) (L:=nL) (rounds:=20) (depth:=6) g88 Zal (fun x=>by kernel_rfl)
def e75:Env:=env1 [(83,s83),(88,s88)]
theorem g75:Zai e75:=Zan mix1 ent1 (Zab ok83 rfl (Zab ok88 rfl Zag))
def ZCq:LSpec:=Zdh [2,18,19,20] (Zaa (Zak celConfig) (Zaa (Zau .sentry) (Zaa (Zad .i64) (Zac (Zad .i64))))) (⟨.exit 0,[],Zbz⟩:Way) (⟨.ret,[4,5],(Zaa (Zad .i64) (Zac (Zad .i64)))⟩:Way) (Zav Zgl)
theorem ZC8:LoopOK e75 33 ZCq (ZaT e75.P 75 7) :=
 Zcg (L:=ZaA []) (rounds:=20) (depth:=6) (ts:=[2,18,19,20]) (v:=(Zaa (Zak celConfig) (Zaa (Zau .sentry) (Zaa (Zad .i64) (Zac (Zad .i64)))))) (a:=⟨.exit 0,[],Zbz⟩) (b:=⟨.ret,[4,5],(Zaa (Zad .i64) (Zac (Zad .i64)))⟩) (step:=Zgl) g75 rfl rfl ZaD (fun x=>by kernel_rfl)
def s75:Spec:=Zar (Zaa (Zap celConfig) (Zac (Zau .sentry))) (Zbk (Zaa (Zad .i64) (Zac (Zad .i64)))) ZhP
theorem ok75:Zaq Tryz.prog 75 s75 :=
 Zaj (V:=e75) (L:=(ZaA [(7,ZCq)])) (rounds:=20) (depth:=6) g75 (ZaV (nt:=33) (by kernel_rfl) (Zbd (by kernel_rfl)) (Zay ZC8 ZaF)) (fun x=>by kernel_rfl)
def e103:Env:=env1 [(146,s146)]
theorem g103:Zai e103:=Zan mix1 ent1 (Zab ZyB rfl Zag)
def s103:Spec:=Zar (Zac (Zap Zas)) (Zat (Zap Zas)) Zcn
theorem ZBL:Zaq Tryz.prog 103 s103 :=
 Zaj (V:=e103) (L:=nL) (rounds:=20) (depth:=6) g103 Zal (fun x=>by kernel_rfl)
def e115:Env:=env1 [(150,s150)]
theorem g115:Zai e115:=Zan mix1 ent1 (Zab ZqA rfl Zag)
def s115:Spec:=Zar (Zaa (Zad .i64) (Zac (Zad .i64))) (Zat (Zad .i64)) Zjg
theorem ZEZ:Zaq Tryz.prog 115 s115 :=
 Zaj (V:=e115) (L:=nL) (rounds:=20) (depth:=6) g115 Zal (fun x=>by kernel_rfl)
def e117:Env:=env1 [(96,s96)]
theorem g117:Zai e117:=Zan mix1 ent1 (Zab ok96 rfl Zag)
def s117:Spec:=ZrR (Zaa (ZD7 (Zae Zas (Zao .i64))) (Zac (Zad .i64))) (Zat (Zad .i64)) Zb1
theorem ZFs:Zaq Tryz.prog 117 s117 :=
 ZxX (V:=e117) (L:=nL) (rounds:=20) (depth:=6) g117 Zal (fun x=>by kernel_rfl)
def e170:Env:=env1 []
theorem g170:Zai e170:=Zan mix1 ent1 Zag
def s170:Spec:=Zar (Zaa (Zad .u64) (Zac (Zad .u64))) (Zbk (Zaa (Zad .u64) (Zac (Zad .u64)))) Zj9
theorem ZE3:Zaq Tryz.prog 170 s170 :=
 Zaj (V:=e170) (L:=nL) (rounds:=20) (depth:=6) g170 Zal (fun x=>by kernel_rfl)
def e126:Env:=env1 [(170,s170)]
theorem g126:Zai e126:=Zan mix1 ent1 (Zab ZE3 rfl Zag)
def s126:Spec:=Zar (Zaa (Zad .u64) (Zac (Zad .u64))) (Zbk (Zaa (Zad .u64) (Zac (Zad .u64)))) Zdu
theorem ZEE:Zaq Tryz.prog 126 s126 :=
 Zaj (V:=e126) (L:=nL) (rounds:=20) (depth:=6) g126 Zal (fun x=>by kernel_rfl)
def e131:Env:=env1 []
theorem g131:Zai e131:=Zan mix1 ent1 Zag
def s131:Spec:=Zar (Zac (Zau .thread)) (Zat (ZaH 33 .thread)) ZcC
theorem ZEA:Zaq Tryz.prog 131 s131 :=
 Zit (V:=e131) (L:=nL) (rounds:=20) (depth:=6) (r:=(Zat (ZaH 33 .thread))) g131 Zal (by kernel_rfl) (fun x=>by kernel_rfl)
def e132:Env:=env1 []
theorem g132:Zai e132:=Zan mix1 ent1 Zag
def s132:Spec:=Zar (Zac (Zau .mark)) (Zat (ZaH 74 .mark)) ZcR
theorem ZFw:Zaq Tryz.prog 132 s132 :=
 Zit (V:=e132) (L:=nL) (rounds:=20) (depth:=6) (r:=(Zat (ZaH 74 .mark))) g132 Zal (by kernel_rfl) (fun x=>by kernel_rfl)
def e133:Env:=env1 []
theorem g133:Zai e133:=Zan mix1 ent1 Zag
def s133:Spec:=Zar (Zac (Zau .event)) (Zat (ZaH 104 .event)) ZcQ
theorem ZEb:Zaq Tryz.prog 133 s133 :=
 Zit (V:=e133) (L:=nL) (rounds:=20) (depth:=6) (r:=(Zat (ZaH 104 .event))) g133 Zal (by kernel_rfl) (fun x=>by kernel_rfl)
def e139:Env:=env1 [(150,s150)]
theorem g139:Zai e139:=Zan mix1 ent1 (Zab ZqA rfl Zag)
def s139:Spec:=Zar Zbz (Zat (Zad .i64)) ZgL
theorem ZEc:Zaq Tryz.prog 139 s139 :=
 Zaj (V:=e139) (L:=nL) (rounds:=20) (depth:=6) g139 Zal (fun x=>by kernel_rfl)
def e140:Env:=env1 [(120,s120)]
theorem g140:Zai e140:=Zan mix1 ent1 (Zab ZoX rfl Zag)
def s140:Spec:=Zar (Zaa (Zap celConfig) (Zac (Zad .i64))) (Zat (Zad .i64)) ZeU
theorem ZEP:Zaq Tryz.prog 140 s140 :=
 Zaj (V:=e140) (L:=nL) (rounds:=20) (depth:=6) g140 Zal (fun x=>by kernel_rfl)
def e141:Env:=env1 []
theorem g141:Zai e141:=Zan mix1 ent1 Zag
def s141:Spec:=Zar (Zac (Zap Zas)) (Zat (Zap Zas)) Zdc
theorem ZBV:Zaq Tryz.prog 141 s141 :=
 Zaj (V:=e141) (L:=nL) (rounds:=20) (depth:=6) g141 Zal (fun x=>by kernel_rfl)
def e144:Env:=env1 [(180,s180)]
theorem g144:Zai e144:=Zan mix1 ent1 (Zab Zxv rfl Zag)
def s144:Spec:=Zar (Zaa (Zau .entry) (Zac (Zad .i64))) (Zat (Zau .entry)) Zkx
theorem ZFb:Zaq Tryz.prog 144 s144 :=
 Zaj (V:=e144) (L:=nL) (rounds:=20) (depth:=6) g144 Zal (fun x=>by kernel_rfl)
def e196:Env:=env1 []
theorem g196:Zai e196:=Zan mix1 ent1 Zag
def s196:Spec:=Zar (Zaa (Zad .i64) (Zaa (Zad .i64) (Zaa (Zad .i64) (Zac (Zad .i64))))) (Zat (ZaE)) ZjR
theorem ZEF:Zaq Tryz.prog 196 s196 :=
 Zaj (V:=e196) (L:=nL) (rounds:=20) (depth:=6) g196 Zal (fun x=>by kernel_rfl)
def e168:Env:=env1 [(196,s196)]
theorem g168:Zai e168:=Zan mix1 ent1 (Zab ZEF rfl Zag)
def s168:Spec:=Zar (Zaa (Zap celOp) (Zaa (Zad .i64) (Zaa (Zad .i64) (Zac (Zad .i64))))) (Zbk (Zaa (Zad .i64) (Zac (ZaE)))) Zd7
theorem ZCC:Zaq Tryz.prog 168 s168 :=
 Zaj (V:=e168) (L:=nL) (rounds:=20) (depth:=6) g168 Zal (fun x=>by kernel_rfl)
def e194:Env:=env1 [(85,s85),(154,s154)]
theorem g194:Zai e194:=Zan mix1 ent1 (Zab ok85 rfl (Zab ZtO rfl Zag))
def s194:Spec:=Zar (Zaa (Zap ZaB) (Zaa (Zad .i64) (Zac (Zad .i64)))) (Zbk (Zaa (Zap ZaB) (Zaa (Zad .i64) (Zac (Zad .i64))))) Zl7
theorem ZES:Zaq Tryz.prog 194 s194 :=
 Zaj (V:=e194) (L:=nL) (rounds:=20) (depth:=6) g194 Zal (fun x=>by kernel_rfl)
def e195:Env:=env1 [(120,s120)]
theorem g195:Zai e195:=Zan mix1 ent1 (Zab ZoX rfl Zag)
def s195:Spec:=Zar (Zaa (Zap celConfig) (Zaa (Zad .i64) (Zaa (Zad .i64) (Zac (Zad .i64))))) (Zat (Zad .i64)) Zln
theorem ZEJ:Zaq Tryz.prog 195 s195 :=
 Zaj (V:=e195) (L:=nL) (rounds:=20) (depth:=6) g195 Zal (fun x=>by kernel_rfl)
def e249:Env:=env1 []
theorem g249:Zai e249:=Zan mix1 ent1 Zag
def s249:Spec:=Zar (Zac (Zap Zbj)) (Zat (Zad .i64)) Zft
theorem ZFf:Zaq Tryz.prog 249 s249 :=
 Zaj (V:=e249) (L:=nL) (rounds:=20) (depth:=6) g249 Zal (fun x=>by kernel_rfl)
end Go.Proofs.Mill
