/- The functions compute this. -/
import Derived.Test.YtecgogmolkjhjaaGreatMillSeat2
import Derived.Test.YtecgogmolkjhjaaGreatMillFA
set_option linter.all false
set_option maxRecDepth 100000
noncomputable section
namespace Go.Proofs.Mill
def e16:Env:=env1 []
theorem g16:Zaj e16:=Zan mix1 ent1 Zag
def ZB1:LSpec:=Zc7 [1,3] (Zaa (Zak Zas) (Zac (Zad .i64))) (⟨.exit 0,[1],(Zac (Zak Zas))⟩:Way) (⟨.ret,[2],(Zac (ZaA))⟩:Way) (Zav Zi9)
theorem ZDK:LoopOK e16 70 ZB1 (ZaU e16.P 16 2) :=
 Zb5 (L:=Zay []) (rounds:=20) (depth:=6) (ts:=[1,3]) (v:=(Zaa (Zak Zas) (Zac (Zad .i64)))) (a:=⟨.exit 0,[1],(Zac (Zak Zas))⟩) (b:=⟨.ret,[2],(Zac (ZaA))⟩) (step:=Zi9) g16 rfl rfl ZaC (fun x=>by kernel_rfl)
def s16:Spec:=Zar (Zac (Zap Zas)) (Zat (ZaA)) Zln
theorem ok16:Zaq Tryz.prog 16 s16 :=
 Zai (V:=e16) (L:=(Zay [(2,ZB1)])) (rounds:=20) (depth:=6) g16 (ZaV (nt:=70) (by kernel_rfl) (Zbd (by kernel_rfl)) (Zaw ZDK ZaE)) (fun x=>by kernel_rfl)
def e23:Env:=env1 []
theorem g23:Zaj e23:=Zan mix1 ent1 Zag
def s23:Spec:=Zar (Zac (Zap celConfig)) (Zat (Zad .i64)) Zed
theorem ok23:Zaq Tryz.prog 23 s23 :=
 Zai (V:=e23) (L:=nL) (rounds:=20) (depth:=6) g23 Zam (fun x=>by kernel_rfl)
def e36:Env:=env1 []
theorem g36:Zaj e36:=Zan mix1 ent1 Zag
def ZCe:LSpec:=ZbL [1,3,4] (Zaa (Zak celConfig) (Zaa (Zad .i64) (Zac (Zad .i64)))) (⟨.exit 0,[3],(Zac (Zad .i64))⟩:Way) (Zav Zhp)
theorem ZCY:LoopOK e36 15 ZCe (ZaU e36.P 36 3) :=
 Zba (L:=Zay []) (rounds:=20) (depth:=6) (ts:=[1,3,4]) (v:=(Zaa (Zak celConfig) (Zaa (Zad .i64) (Zac (Zad .i64))))) (a:=⟨.exit 0,[3],(Zac (Zad .i64))⟩) (step:=Zhp) g36 rfl ZaC (fun x=>by kernel_rfl)
def s36:Spec:=Zar (Zac (Zap celConfig)) (Zat (Zad .i64)) ZeR
theorem ok36:Zaq Tryz.prog 36 s36 :=
 Zai (V:=e36) (L:=(Zay [(3,ZCe)])) (rounds:=20) (depth:=6) g36 (ZaV (nt:=15) (by kernel_rfl) (Zbd (by kernel_rfl)) (Zaw ZCY ZaE)) (fun x=>by kernel_rfl)
def e74:Env:=env1 [(36,s36)]
theorem g74:Zaj e74:=Zan mix1 ent1 (Zab ok36 rfl Zag)
def s74:Spec:=Zar (Zac (Zap celConfig)) (Zat (Zad .i64)) ZdF
theorem ok74:Zaq Tryz.prog 74 s74 :=
 Zai (V:=e74) (L:=nL) (rounds:=20) (depth:=6) g74 Zam (fun x=>by kernel_rfl)
def e34:Env:=env1 [(74,s74)]
theorem g34:Zaj e34:=Zan mix1 ent1 (Zab ok74 rfl Zag)
def s34:Spec:=Zar (Zac (Zap celConfig)) (Zat (Zad .i64)) Zfz
theorem ok34:Zaq Tryz.prog 34 s34 :=
 Zai (V:=e34) (L:=nL) (rounds:=20) (depth:=6) g34 Zam (fun x=>by kernel_rfl)
def e17:Env:=env1 [(23,s23),(34,s34)]
theorem g17:Zaj e17:=Zan mix1 ent1 (Zab ok23 rfl (Zab ok34 rfl Zag))
def s17:Spec:=Zar (Zac (Zap Zas)) (Zat (ZaA)) ZlA
theorem ok17:Zaq Tryz.prog 17 s17 :=
 Zai (V:=e17) (L:=nL) (rounds:=20) (depth:=6) g17 Zam (fun x=>by kernel_rfl)
def e29:Env:=env1 []
theorem g29:Zaj e29:=Zan mix1 ent1 Zag
def ZCk:LSpec:=Zc7 [0,1,5] (Zaa (Zau .entry) (Zaa (Zau .entry) (Zac (Zad .i64)))) (⟨.exit 0,[],Zbs⟩:Way) (⟨.ret,[4],(Zac (ZaA))⟩:Way) (Zav Zia)
theorem ZC3:LoopOK e29 26 ZCk (ZaU e29.P 29 4) :=
 Zb5 (L:=Zay []) (rounds:=20) (depth:=6) (ts:=[0,1,5]) (v:=(Zaa (Zau .entry) (Zaa (Zau .entry) (Zac (Zad .i64))))) (a:=⟨.exit 0,[],Zbs⟩) (b:=⟨.ret,[4],(Zac (ZaA))⟩) (step:=Zia) g29 rfl rfl ZaC (fun x=>by kernel_rfl)
def s29:Spec:=Zar (Zaa (Zau .entry) (Zac (Zau .entry))) (Zat (ZaA)) Zkd
theorem ok29:Zaq Tryz.prog 29 s29 :=
 Zai (V:=e29) (L:=(Zay [(4,ZCk)])) (rounds:=20) (depth:=6) g29 (ZaV (nt:=26) (by kernel_rfl) (Zbd (by kernel_rfl)) (Zaw ZC3 ZaE)) (fun x=>by kernel_rfl)
def e94:Env:=env1 []
theorem g94:Zaj e94:=Zan mix1 ent1 Zag
def ZCo:LSpec:=Zc7 [0,1,5] (Zaa (Zau .int) (Zaa (Zau .int) (Zac (Zad .i64)))) (⟨.exit 0,[],Zbs⟩:Way) (⟨.ret,[4],(Zac (ZaA))⟩:Way) (Zav Zh2)
theorem ZCH:LoopOK e94 26 ZCo (ZaU e94.P 94 4) :=
 Zb5 (L:=Zay []) (rounds:=20) (depth:=6) (ts:=[0,1,5]) (v:=(Zaa (Zau .int) (Zaa (Zau .int) (Zac (Zad .i64))))) (a:=⟨.exit 0,[],Zbs⟩) (b:=⟨.ret,[4],(Zac (ZaA))⟩) (step:=Zh2) g94 rfl rfl ZaC (fun x=>by kernel_rfl)
def s94:Spec:=Zar (Zaa (Zau .int) (Zac (Zau .int))) (Zat (ZaA)) Zke
theorem ok94:Zaq Tryz.prog 94 s94 :=
 Zai (V:=e94) (L:=(Zay [(4,ZCo)])) (rounds:=20) (depth:=6) g94 (ZaV (nt:=26) (by kernel_rfl) (Zbd (by kernel_rfl)) (Zaw ZCH ZaE)) (fun x=>by kernel_rfl)
def e56:Env:=env1 [(29,s29),(94,s94)]
theorem g56:Zaj e56:=Zan mix1 ent1 (Zab ok29 rfl (Zab ok94 rfl Zag))
def ZBM:LSpec:=Zc7 [2,3,5] (Zaa (Zak ZaB) (Zaa (Zak ZaB) (Zac (Zad .i64)))) (⟨.exit 0,[],Zbs⟩:Way) (⟨.ret,[4],(Zac (ZaA))⟩:Way) (Zav Ziv)
theorem ZDE:LoopOK e56 40 ZBM (ZaU e56.P 56 4) :=
 Zb5 (L:=Zay []) (rounds:=20) (depth:=6) (ts:=[2,3,5]) (v:=(Zaa (Zak ZaB) (Zaa (Zak ZaB) (Zac (Zad .i64))))) (a:=⟨.exit 0,[],Zbs⟩) (b:=⟨.ret,[4],(Zac (ZaA))⟩) (step:=Ziv) g56 rfl rfl ZaC (fun x=>by kernel_rfl)
def s56:Spec:=Zar (Zaa (Zap ZaB) (Zac (Zap ZaB))) (Zat (ZaA)) Zj8
theorem ok56:Zaq Tryz.prog 56 s56 :=
 Zai (V:=e56) (L:=(Zay [(4,ZBM)])) (rounds:=20) (depth:=6) g56 (ZaV (nt:=40) (by kernel_rfl) (Zbd (by kernel_rfl)) (Zaw ZDE ZaE)) (fun x=>by kernel_rfl)
def e57:Env:=env1 [(29,s29),(94,s94)]
theorem g57:Zaj e57:=Zan mix1 ent1 (Zab ok29 rfl (Zab ok94 rfl Zag))
def ZCx:LSpec:=Zc7 [2,3,5] (Zaa (Zak Za0) (Zaa (Zak Za0) (Zac (Zad .i64)))) (⟨.exit 0,[2,3],(Zaa (Zak Za0) (Zac (Zak Za0)))⟩:Way) (⟨.ret,[4],(Zac (ZaA))⟩:Way) (Zav ZhU)
theorem ZDg:LoopOK e57 136 ZCx (ZaU e57.P 57 4) :=
 Zb5 (L:=Zay []) (rounds:=20) (depth:=6) (ts:=[2,3,5]) (v:=(Zaa (Zak Za0) (Zaa (Zak Za0) (Zac (Zad .i64))))) (a:=⟨.exit 0,[2,3],(Zaa (Zak Za0) (Zac (Zak Za0)))⟩) (b:=⟨.ret,[4],(Zac (ZaA))⟩) (step:=ZhU) g57 rfl rfl ZaC (fun x=>by kernel_rfl)
def s57:Spec:=Zar (Zaa (Zap Za0) (Zac (Zap Za0))) (Zat (ZaA)) Zko
theorem ok57:Zaq Tryz.prog 57 s57 :=
 Zai (V:=e57) (L:=(Zay [(4,ZCx)])) (rounds:=20) (depth:=6) g57 (ZaV (nt:=136) (by kernel_rfl) (Zbd (by kernel_rfl)) (Zaw ZDg ZaE)) (fun x=>by kernel_rfl)
def e58:Env:=env1 []
theorem g58:Zaj e58:=Zan mix1 ent1 Zag
def ZBH:LSpec:=Zc7 [2,3,5] (Zaa (Zak Zbj) (Zaa (Zak Zbj) (Zac (Zad .i64)))) (⟨.exit 0,[],Zbs⟩:Way) (⟨.ret,[4],(Zac (ZaA))⟩:Way) (Zav Zio)
theorem ZCO:LoopOK e58 38 ZBH (ZaU e58.P 58 4) :=
 Zb5 (L:=Zay []) (rounds:=20) (depth:=6) (ts:=[2,3,5]) (v:=(Zaa (Zak Zbj) (Zaa (Zak Zbj) (Zac (Zad .i64))))) (a:=⟨.exit 0,[],Zbs⟩) (b:=⟨.ret,[4],(Zac (ZaA))⟩) (step:=Zio) g58 rfl rfl ZaC (fun x=>by kernel_rfl)
def s58:Spec:=Zar (Zaa (Zap Zbj) (Zac (Zap Zbj))) (Zat (ZaA)) Zj3
theorem ok58:Zaq Tryz.prog 58 s58 :=
 Zai (V:=e58) (L:=(Zay [(4,ZBH)])) (rounds:=20) (depth:=6) g58 (ZaV (nt:=38) (by kernel_rfl) (Zbd (by kernel_rfl)) (Zaw ZCO ZaE)) (fun x=>by kernel_rfl)
def e59:Env:=env1 []
theorem g59:Zaj e59:=Zan mix1 ent1 Zag
def ZBO:LSpec:=Zc7 [0,1,5] (Zaa (Zau .mark) (Zaa (Zau .mark) (Zac (Zad .i64)))) (⟨.exit 0,[],Zbs⟩:Way) (⟨.ret,[4],(Zac (ZaA))⟩:Way) (Zav ZgV)
theorem ZCG:LoopOK e59 26 ZBO (ZaU e59.P 59 4) :=
 Zb5 (L:=Zay []) (rounds:=20) (depth:=6) (ts:=[0,1,5]) (v:=(Zaa (Zau .mark) (Zaa (Zau .mark) (Zac (Zad .i64))))) (a:=⟨.exit 0,[],Zbs⟩) (b:=⟨.ret,[4],(Zac (ZaA))⟩) (step:=ZgV) g59 rfl rfl ZaC (fun x=>by kernel_rfl)
def s59:Spec:=Zar (Zaa (Zau .mark) (Zac (Zau .mark))) (Zat (ZaA)) Zjf
theorem ok59:Zaq Tryz.prog 59 s59 :=
 Zai (V:=e59) (L:=(Zay [(4,ZBO)])) (rounds:=20) (depth:=6) g59 (ZaV (nt:=26) (by kernel_rfl) (Zbd (by kernel_rfl)) (Zaw ZCG ZaE)) (fun x=>by kernel_rfl)
def e19:Env:=env1 [(56,s56),(57,s57),(58,s58),(59,s59)]
theorem g19:Zaj e19:=Zan mix1 ent1 (Zab ok56 rfl (Zab ok57 rfl (Zab ok58 rfl (Zab ok59 rfl Zag))))
def s19:Spec:=Zar (Zaa (Zap Zas) (Zac (Zap Zas))) (Zat (ZaA)) Zjv
theorem ok19:Zaq Tryz.prog 19 s19 :=
 Zai (V:=e19) (L:=nL) (rounds:=20) (depth:=6) g19 Zam (fun x=>by kernel_rfl)
def e30:Env:=env1 []
theorem g30:Zaj e30:=Zan mix1 ent1 Zag
def ZCi:LSpec:=ZbL [0,3,4] (Zaa (Zau .entry) (Zaa (ZaM 137 .entry) (Zac (Zad .i64)))) (⟨.exit 0,[3],(Zac (ZaM 137 .entry))⟩:Way) (Zav Zf0)
theorem ZCS:LoopOK e30 27 ZCi (ZaU e30.P 30 3) :=
 Zba (L:=Zay []) (rounds:=20) (depth:=6) (ts:=[0,3,4]) (v:=(Zaa (Zau .entry) (Zaa (ZaM 137 .entry) (Zac (Zad .i64))))) (a:=⟨.exit 0,[3],(Zac (ZaM 137 .entry))⟩) (step:=Zf0) g30 rfl ZaC (fun x=>by kernel_rfl)
def s30:Spec:=Zar (Zac (Zau .entry)) (Zat (ZaM 137 .entry)) ZhN
theorem ok30:Zaq Tryz.prog 30 s30 :=
 Zai (V:=e30) (L:=(Zay [(3,ZCi)])) (rounds:=20) (depth:=6) g30 (ZaV (nt:=27) (by kernel_rfl) (Zbd (by kernel_rfl)) (Zaw ZCS ZaE)) (fun x=>by kernel_rfl)
def e60:Env:=env1 [(30,s30)]
theorem g60:Zaj e60:=Zan mix1 ent1 (Zab ok30 rfl Zag)
def ZCy:LSpec:=ZbL [1,2,3,4] (Zaa (Zak ZaB) (Zaa (Zak ZaB) (Zaa (Zak (Za8 (Zae (Za6 .int) (ZaJ 47 (.lst .entry))) Memo (fun y=>⟨y.1,y.2⟩) (fun x=>(x.words,x.boxes)) (fun _=>rfl))) (Zac (Zad .i64))))) (⟨.exit 0,[2,3],(Zaa (Zak ZaB) (Zac (Zak (Za8 (Zae (Za6 .int) (ZaJ 47 (.lst .entry))) Memo (fun y=>⟨y.1,y.2⟩) (fun x=>(x.words,x.boxes)) (fun _=>rfl)))))⟩:Way) (Zav ZgF)
theorem ZDu:LoopOK e60 27 ZCy (ZaU e60.P 60 3) :=
 Zba (L:=Zay []) (rounds:=20) (depth:=6) (ts:=[1,2,3,4]) (v:=(Zaa (Zak ZaB) (Zaa (Zak ZaB) (Zaa (Zak (Za8 (Zae (Za6 .int) (ZaJ 47 (.lst .entry))) Memo (fun y=>⟨y.1,y.2⟩) (fun x=>(x.words,x.boxes)) (fun _=>rfl))) (Zac (Zad .i64)))))) (a:=⟨.exit 0,[2,3],(Zaa (Zak ZaB) (Zac (Zak (Za8 (Zae (Za6 .int) (ZaJ 47 (.lst .entry))) Memo (fun y=>⟨y.1,y.2⟩) (fun x=>(x.words,x.boxes)) (fun _=>rfl)))))⟩) (step:=ZgF) g60 rfl ZaC (fun x=>by kernel_rfl)
def s60:Spec:=Zar (Zac (Zap ZaB)) (Zat (Zap ZaB)) ZlZ
theorem ok60:Zaq Tryz.prog 60 s60 :=
 Zai (V:=e60) (L:=(Zay [(3,ZCy)])) (rounds:=20) (depth:=6) g60 (ZaV (nt:=27) (by kernel_rfl) (Zbd (by kernel_rfl)) (Zaw ZDu ZaE)) (fun x=>by kernel_rfl)
def e61:Env:=env1 [(30,s30)]
theorem g61:Zaj e61:=Zan mix1 ent1 (Zab ok30 rfl Zag)
def ZCj:LSpec:=ZbL [1,2,3,4] (Zaa (Zak Za0) (Zaa (Zak Za0) (Zaa (Zak (Za8 (Zae (Zao .i64) (Zae (Zao .i64) (Zae ZdN (Zae (Za6 .entry) (Zae (ZaJ 160 .kid) (Zae (Za6 .int) (Zae (Zao .i64) (Zae (Zao .i64) (Zae (Zao .i64) (Zae (Zao .i64) (Zae (Zao .i64) (Zae (Zao .i64) (Zae (Zao .i64) (Zae (Zao .i64) (Zae (Zao .i64) (Zao .i64)))))))))))))))) Thread (fun y=>⟨y.1,y.2.1,y.2.2.1,y.2.2.2.1,y.2.2.2.2.1,y.2.2.2.2.2.1,y.2.2.2.2.2.2.1,y.2.2.2.2.2.2.2.1,y.2.2.2.2.2.2.2.2.1,y.2.2.2.2.2.2.2.2.2.1,y.2.2.2.2.2.2.2.2.2.2.1,y.2.2.2.2.2.2.2.2.2.2.2.1,y.2.2.2.2.2.2.2.2.2.2.2.2.1,y.2.2.2.2.2.2.2.2.2.2.2.2.2.1,y.2.2.2.2.2.2.2.2.2.2.2.2.2.2.1,y.2.2.2.2.2.2.2.2.2.2.2.2.2.2.2⟩) (fun x=>(x.phase,(x.item,(x.op,(x.batch,(x.kids,(x.held,(x.stop,(x.node,(x.at_,(x.layer,(x.left,(x.width,(x.who,(x.x,(x.y,x.until_)))))))))))))))) (fun _=>rfl))) (Zac (Zad .i64))))) (⟨.exit 0,[2,3],(Zaa (Zak Za0) (Zac (Zak (Za8 (Zae (Zao .i64) (Zae (Zao .i64) (Zae ZdN (Zae (Za6 .entry) (Zae (ZaJ 160 .kid) (Zae (Za6 .int) (Zae (Zao .i64) (Zae (Zao .i64) (Zae (Zao .i64) (Zae (Zao .i64) (Zae (Zao .i64) (Zae (Zao .i64) (Zae (Zao .i64) (Zae (Zao .i64) (Zae (Zao .i64) (Zao .i64)))))))))))))))) Thread (fun y=>⟨y.1,y.2.1,y.2.2.1,y.2.2.2.1,y.2.2.2.2.1,y.2.2.2.2.2.1,y.2.2.2.2.2.2.1,y.2.2.2.2.2.2.2.1,y.2.2.2.2.2.2.2.2.1,y.2.2.2.2.2.2.2.2.2.1,y.2.2.2.2.2.2.2.2.2.2.1,y.2.2.2.2.2.2.2.2.2.2.2.1,y.2.2.2.2.2.2.2.2.2.2.2.2.1,y.2.2.2.2.2.2.2.2.2.2.2.2.2.1,y.2.2.2.2.2.2.2.2.2.2.2.2.2.2.1,y.2.2.2.2.2.2.2.2.2.2.2.2.2.2.2⟩) (fun x=>(x.phase,(x.item,(x.op,(x.batch,(x.kids,(x.held,(x.stop,(x.node,(x.at_,(x.layer,(x.left,(x.width,(x.who,(x.x,(x.y,x.until_)))))))))))))))) (fun _=>rfl)))))⟩:Way) (Zav Zhr)
theorem ZDs:LoopOK e61 55 ZCj (ZaU e61.P 61 3) :=
 Zba (L:=Zay []) (rounds:=20) (depth:=6) (ts:=[1,2,3,4]) (v:=(Zaa (Zak Za0) (Zaa (Zak Za0) (Zaa (Zak (Za8 (Zae (Zao .i64) (Zae (Zao .i64) (Zae ZdN (Zae (Za6 .entry) (Zae (ZaJ 160 .kid) (Zae (Za6 .int) (Zae (Zao .i64) (Zae (Zao .i64) (Zae (Zao .i64) (Zae (Zao .i64) (Zae (Zao .i64) (Zae (Zao .i64) (Zae (Zao .i64) (Zae (Zao .i64) (Zae (Zao .i64) (Zao .i64)))))))))))))))) Thread (fun y=>⟨y.1,y.2.1,y.2.2.1,y.2.2.2.1,y.2.2.2.2.1,y.2.2.2.2.2.1,y.2.2.2.2.2.2.1,y.2.2.2.2.2.2.2.1,y.2.2.2.2.2.2.2.2.1,y.2.2.2.2.2.2.2.2.2.1,y.2.2.2.2.2.2.2.2.2.2.1,y.2.2.2.2.2.2.2.2.2.2.2.1,y.2.2.2.2.2.2.2.2.2.2.2.2.1,y.2.2.2.2.2.2.2.2.2.2.2.2.2.1,y.2.2.2.2.2.2.2.2.2.2.2.2.2.2.1,y.2.2.2.2.2.2.2.2.2.2.2.2.2.2.2⟩) (fun x=>(x.phase,(x.item,(x.op,(x.batch,(x.kids,(x.held,(x.stop,(x.node,(x.at_,(x.layer,(x.left,(x.width,(x.who,(x.x,(x.y,x.until_)))))))))))))))) (fun _=>rfl))) (Zac (Zad .i64)))))) (a:=⟨.exit 0,[2,3],(Zaa (Zak Za0) (Zac (Zak (Za8 (Zae (Zao .i64) (Zae (Zao .i64) (Zae ZdN (Zae (Za6 .entry) (Zae (ZaJ 160 .kid) (Zae (Za6 .int) (Zae (Zao .i64) (Zae (Zao .i64) (Zae (Zao .i64) (Zae (Zao .i64) (Zae (Zao .i64) (Zae (Zao .i64) (Zae (Zao .i64) (Zae (Zao .i64) (Zae (Zao .i64) (Zao .i64)))))))))))))))) Thread (fun y=>⟨y.1,y.2.1,y.2.2.1,y.2.2.2.1,y.2.2.2.2.1,y.2.2.2.2.2.1,y.2.2.2.2.2.2.1,y.2.2.2.2.2.2.2.1,y.2.2.2.2.2.2.2.2.1,y.2.2.2.2.2.2.2.2.2.1,y.2.2.2.2.2.2.2.2.2.2.1,y.2.2.2.2.2.2.2.2.2.2.2.1,y.2.2.2.2.2.2.2.2.2.2.2.2.1,y.2.2.2.2.2.2.2.2.2.2.2.2.2.1,y.2.2.2.2.2.2.2.2.2.2.2.2.2.2.1,y.2.2.2.2.2.2.2.2.2.2.2.2.2.2.2⟩) (fun x=>(x.phase,(x.item,(x.op,(x.batch,(x.kids,(x.held,(x.stop,(x.node,(x.at_,(x.layer,(x.left,(x.width,(x.who,(x.x,(x.y,x.until_)))))))))))))))) (fun _=>rfl)))))⟩) (step:=Zhr) g61 rfl ZaC (fun x=>by kernel_rfl)
def s61:Spec:=Zar (Zac (Zap Za0)) (Zat (Zap Za0)) Zm2
theorem ok61:Zaq Tryz.prog 61 s61 :=
 Zai (V:=e61) (L:=(Zay [(3,ZCj)])) (rounds:=20) (depth:=6) g61 (ZaV (nt:=55) (by kernel_rfl) (Zbd (by kernel_rfl)) (Zaw ZDs ZaE)) (fun x=>by kernel_rfl)
def e62:Env:=env1 []
theorem g62:Zaj e62:=Zan mix1 ent1 Zag
def ZCt:LSpec:=ZbL [0,3,4] (Zaa (Zau .mark) (Zaa (ZaM 162 .mark) (Zac (Zad .i64)))) (⟨.exit 0,[3],(Zac (ZaM 162 .mark))⟩:Way) (Zav Zhk)
theorem ZDq:LoopOK e62 42 ZCt (ZaU e62.P 62 3) :=
 Zba (L:=Zay []) (rounds:=20) (depth:=6) (ts:=[0,3,4]) (v:=(Zaa (Zau .mark) (Zaa (ZaM 162 .mark) (Zac (Zad .i64))))) (a:=⟨.exit 0,[3],(Zac (ZaM 162 .mark))⟩) (step:=Zhk) g62 rfl ZaC (fun x=>by kernel_rfl)
def s62:Spec:=Zar (Zac (Zau .mark)) (Zat (Zau .mark)) ZmV
theorem ok62:Zaq Tryz.prog 62 s62 :=
 Zai (V:=e62) (L:=(Zay [(3,ZCt)])) (rounds:=20) (depth:=6) g62 (ZaV (nt:=42) (by kernel_rfl) (Zbd (by kernel_rfl)) (Zaw ZDq ZaE)) (fun x=>by kernel_rfl)
def e20:Env:=env1 [(60,s60),(61,s61),(62,s62)]
theorem g20:Zaj e20:=Zan mix1 ent1 (Zab ok60 rfl (Zab ok61 rfl (Zab ok62 rfl Zag)))
def s20:Spec:=Zar (Zac (Zap Zas)) (Zat (Zap Zas)) Zgb
theorem ok20:Zaq Tryz.prog 20 s20 :=
 Zai (V:=e20) (L:=nL) (rounds:=20) (depth:=6) g20 Zam (fun x=>by kernel_rfl)
def e69:Env:=env1 []
theorem g69:Zaj e69:=Zan mix1 ent1 Zag
def s69:Spec:=Zar (Zaa (Zad .i64) (Zac (Zad .i64))) (Zbk (Zaa (Zad .i64) (Zac (ZaA)))) Ze7
theorem ok69:Zaq Tryz.prog 69 s69 :=
 Zai (V:=e69) (L:=nL) (rounds:=20) (depth:=6) g69 Zam (fun x=>by kernel_rfl)
def e24:Env:=env1 [(69,s69)]
theorem g24:Zaj e24:=Zan mix1 ent1 (Zab ok69 rfl Zag)
def s24:Spec:=Zar (Zaa (Zap ZdN) (Zaa (Zad .i64) (Zaa (Zad .i64) (Zac (Zad .i64))))) (Zbk (Zaa (Zad .i64) (Zac (ZaA)))) Zc2
theorem ok24:Zaq Tryz.prog 24 s24 :=
 Zai (V:=e24) (L:=nL) (rounds:=20) (depth:=6) g24 Zam (fun x=>by kernel_rfl)
def e118:Env:=env1 []
theorem g118:Zaj e118:=Zan mix1 ent1 Zag
def s118:Spec:=Zar (Zac (Zad .i64)) (Zat (ZaM 3 .int)) Zhn
theorem ZEE:Zaq Tryz.prog 118 s118 :=
 Zai (V:=e118) (L:=nL) (rounds:=20) (depth:=6) g118 Zam (fun x=>by kernel_rfl)
def e119:Env:=env1 []
theorem g119:Zaj e119:=Zan mix1 ent1 Zag
def s119:Spec:=Zar (Zac (Zad .i64)) (Zat (ZaM 30 (.lst .entry))) Zd4
theorem ZFl:Zaq Tryz.prog 119 s119 :=
 Zai (V:=e119) (L:=nL) (rounds:=20) (depth:=6) g119 Zam (fun x=>by kernel_rfl)
def e70:Env:=env1 [(118,s118),(119,s119)]
theorem g70:Zaj e70:=Zan mix1 ent1 (Zab ZEE rfl (Zab ZFl rfl Zag))
def s70:Spec:=Zar (Zaa (Zad .i64) (Zac (Zad .i64))) (Zat (Zap (Za8 (Zae (ZaJ 3 .int) (ZaJ 30 (.lst .entry))) Memo (fun y=>⟨y.1,y.2⟩) (fun x=>(x.words,x.boxes)) (fun _=>rfl)))) Zmi
theorem ok70:Zaq Tryz.prog 70 s70 :=
 Zai (V:=e70) (L:=nL) (rounds:=20) (depth:=6) g70 Zam (fun x=>by kernel_rfl)
def e148:Env:=env1 []
theorem g148:Zaj e148:=Zan mix1 ent1 Zag
def s148:Spec:=Zar (Zac (Zap celConfig)) (Zat (Zad .i64)) ZeW
theorem ZBG:Zaq Tryz.prog 148 s148 :=
 Zai (V:=e148) (L:=nL) (rounds:=20) (depth:=6) g148 Zam (fun x=>by kernel_rfl)
def e120:Env:=env1 [(148,s148)]
theorem g120:Zaj e120:=Zan mix1 ent1 (Zab ZBG rfl Zag)
def s120:Spec:=Zar (Zac (Zap celConfig)) (Zat (Zap ZDe)) Zcm
theorem Zoa:Zaq Tryz.prog 120 s120 :=
 Zai (V:=e120) (L:=nL) (rounds:=20) (depth:=6) g120 Zam (fun x=>by kernel_rfl)
def e71:Env:=env1 [(120,s120)]
theorem g71:Zaj e71:=Zan mix1 ent1 (Zab Zoa rfl Zag)
def s71:Spec:=Zar (Zac (Zap celConfig)) (Zat (Zad .i64)) ZjZ
theorem ok71:Zaq Tryz.prog 71 s71 :=
 Zai (V:=e71) (L:=nL) (rounds:=20) (depth:=6) g71 Zam (fun x=>by kernel_rfl)
def e72:Env:=env1 [(120,s120)]
theorem g72:Zaj e72:=Zan mix1 ent1 (Zab Zoa rfl Zag)
def s72:Spec:=Zar (Zaa (Zap celConfig) (Zac (Zad .i64))) (Zat (Zad .i64)) Zdf
theorem ok72:Zaq Tryz.prog 72 s72 :=
 Zai (V:=e72) (L:=nL) (rounds:=20) (depth:=6) g72 Zam (fun x=>by kernel_rfl)
def e25:Env:=env1 [(70,s70),(71,s71),(72,s72)]
theorem g25:Zaj e25:=Zan mix1 ent1 (Zab ok70 rfl (Zab ok71 rfl (Zab ok72 rfl Zag)))
def ZBS:LSpec:=ZbL [1,2,3,11,12] (Zaa (Zak celConfig) (Zaa (Zak ZaB) (Zaa (Zak (Za8 (Zae (ZaJ 3 .int) (ZaJ 30 (.lst .entry))) Memo (fun y=>⟨y.1,y.2⟩) (fun x=>(x.words,x.boxes)) (fun _=>rfl))) (Zaa (Zad .i64) (Zac (Zad .i64)))))) (⟨.exit 0,[2,3],(Zaa (Zak ZaB) (Zac (Zak (Za8 (Zae (ZaJ 3 .int) (ZaJ 30 (.lst .entry))) Memo (fun y=>⟨y.1,y.2⟩) (fun x=>(x.words,x.boxes)) (fun _=>rfl)))))⟩:Way) (Zav Zff)
theorem ZDz:LoopOK e25 25 ZBS (ZaU e25.P 25 3) :=
 Zba (L:=Zay []) (rounds:=20) (depth:=6) (ts:=[1,2,3,11,12]) (v:=(Zaa (Zak celConfig) (Zaa (Zak ZaB) (Zaa (Zak (Za8 (Zae (ZaJ 3 .int) (ZaJ 30 (.lst .entry))) Memo (fun y=>⟨y.1,y.2⟩) (fun x=>(x.words,x.boxes)) (fun _=>rfl))) (Zaa (Zad .i64) (Zac (Zad .i64))))))) (a:=⟨.exit 0,[2,3],(Zaa (Zak ZaB) (Zac (Zak (Za8 (Zae (ZaJ 3 .int) (ZaJ 30 (.lst .entry))) Memo (fun y=>⟨y.1,y.2⟩) (fun x=>(x.words,x.boxes)) (fun _=>rfl)))))⟩) (step:=Zff) g25 rfl ZaC (fun x=>by kernel_rfl)
def s25:Spec:=Zar (Zac (Zap celConfig)) (Zat (Zap (Za8 (Zae (ZaJ 3 .int) (ZaJ 30 (.lst .entry))) Memo (fun y=>⟨y.1,y.2⟩) (fun x=>(x.words,x.boxes)) (fun _=>rfl)))) ZdC
theorem ok25:Zaq Tryz.prog 25 s25 :=
 Zai (V:=e25) (L:=(Zay [(3,ZBS)])) (rounds:=20) (depth:=6) g25 (ZaV (nt:=25) (by kernel_rfl) (Zbd (by kernel_rfl)) (Zaw ZDz ZaE)) (fun x=>by kernel_rfl)
def e73:Env:=env1 []
theorem g73:Zaj e73:=Zan mix1 ent1 Zag
def s73:Spec:=Zar (Zaa (Zad .i64) (Zac (Zad .i64))) (Zat (Zad .i64)) ZkK
theorem ok73:Zaq Tryz.prog 73 s73 :=
 Zai (V:=e73) (L:=nL) (rounds:=20) (depth:=6) g73 Zam (fun x=>by kernel_rfl)
def e26:Env:=env1 [(73,s73)]
theorem g26:Zaj e26:=Zan mix1 ent1 (Zab ok73 rfl Zag)
def s26:Spec:=Zar (Zaa (Zap celConfig) (Zaa (Zad .i64) (Zaa (Zap Za0) (Zaa (Zad .i64) (Zaa (Zap ZdN) (Zac (Zad .i64))))))) (Zat (Zap Za0)) ZcP
theorem ok26:Zaq Tryz.prog 26 s26 :=
 Zai (V:=e26) (L:=nL) (rounds:=20) (depth:=6) g26 Zam (fun x=>by kernel_rfl)
def e27:Env:=env1 []
theorem g27:Zaj e27:=Zan mix1 ent1 Zag
def s27:Spec:=Zar Zbs (Zat (Zap Za0)) Zd3
theorem ok27:Zaq Tryz.prog 27 s27 :=
 Zai (V:=e27) (L:=nL) (rounds:=20) (depth:=6) g27 Zam (fun x=>by kernel_rfl)
def e28:Env:=env1 [(17,s17)]
theorem g28:Zaj e28:=Zan mix1 ent1 (Zab ok17 rfl Zag)
def s28:Spec:=Zar (Zac (Zap Zas)) (Zat (ZaA)) Zk5
theorem ok28:Zaq Tryz.prog 28 s28 :=
 Zai (V:=e28) (L:=nL) (rounds:=20) (depth:=6) g28 Zam (fun x=>by kernel_rfl)
def e31:Env:=env1 []
theorem g31:Zaj e31:=Zan mix1 ent1 Zag
def s31:Spec:=Zar (Zaa (Zap ZdN) (Zac (ZaA))) (Zat (ZaA)) Zli
theorem ok31:Zaq Tryz.prog 31 s31 :=
 Zai (V:=e31) (L:=nL) (rounds:=20) (depth:=6) g31 Zam (fun x=>by kernel_rfl)
def e32:Env:=env1 []
theorem g32:Zaj e32:=Zan mix1 ent1 Zag
def s32:Spec:=Zar (Zac (Zap celConfig)) (Zat (Zad .i64)) ZlY
theorem ok32:Zaq Tryz.prog 32 s32 :=
 Zai (V:=e32) (L:=nL) (rounds:=20) (depth:=6) g32 Zam (fun x=>by kernel_rfl)
def e33:Env:=env1 []
theorem g33:Zaj e33:=Zan mix1 ent1 Zag
def s33:Spec:=Zar (Zac (Zap Za0)) (Zat (ZaA)) ZbE
theorem ok33:Zaq Tryz.prog 33 s33 :=
 Zai (V:=e33) (L:=nL) (rounds:=20) (depth:=6) g33 Zam (fun x=>by kernel_rfl)
def e35:Env:=env1 [(74,s74)]
theorem g35:Zaj e35:=Zan mix1 ent1 (Zab ok74 rfl Zag)
def s35:Spec:=Zar (Zaa (Zap celConfig) (Zac (Zad .i64))) (Zat (Zad .i64)) Zey
theorem ok35:Zaq Tryz.prog 35 s35 :=
 Zai (V:=e35) (L:=nL) (rounds:=20) (depth:=6) g35 Zam (fun x=>by kernel_rfl)
def e37:Env:=env1 [(36,s36),(74,s74)]
theorem g37:Zaj e37:=Zan mix1 ent1 (Zab ok36 rfl (Zab ok74 rfl Zag))
def s37:Spec:=Zar (Zaa (Zap celConfig) (Zaa (Zad .i64) (Zac (Zad .i64)))) (Zat (Zad .i64)) ZfH
theorem ok37:Zaq Tryz.prog 37 s37 :=
 Zai (V:=e37) (L:=nL) (rounds:=20) (depth:=6) g37 Zam (fun x=>by kernel_rfl)
def e38:Env:=env1 [(74,s74)]
theorem g38:Zaj e38:=Zan mix1 ent1 (Zab ok74 rfl Zag)
def s38:Spec:=Zar (Zaa (Zap celConfig) (Zac (Zad .i64))) (Zat (Zad .i64)) Zdo
theorem ok38:Zaq Tryz.prog 38 s38 :=
 Zai (V:=e38) (L:=nL) (rounds:=20) (depth:=6) g38 Zam (fun x=>by kernel_rfl)
def e39:Env:=env1 []
theorem g39:Zaj e39:=Zan mix1 ent1 Zag
def s39:Spec:=Zar (Zaa (Zau .sentry) (Zac (Zau .int))) (Zat (ZaA)) Zkx
theorem ok39:Zaq Tryz.prog 39 s39 :=
 Zai (V:=e39) (L:=nL) (rounds:=20) (depth:=6) g39 Zam (fun x=>by kernel_rfl)
def e127:Env:=env1 []
theorem g127:Zaj e127:=Zan mix1 ent1 Zag
def ZzT:LSpec:=ZbL [1,4,5,7] (Zaa (Zad .i64) (Zaa (Zak ZaB) (Zaa (Zak (Za8 (Zae (ZaJ 3 .int) (ZaJ 47 (.lst .entry))) Memo (fun y=>⟨y.1,y.2⟩) (fun x=>(x.words,x.boxes)) (fun _=>rfl))) (Zac (Zad .i64))))) (⟨.exit 2,[4,5],(Zaa (Zak ZaB) (Zac (Zak (Za8 (Zae (ZaJ 3 .int) (ZaJ 47 (.lst .entry))) Memo (fun y=>⟨y.1,y.2⟩) (fun x=>(x.words,x.boxes)) (fun _=>rfl)))))⟩:Way) (Zav Zjw)
theorem ZAx:LoopOK e127 39 ZzT (ZaU e127.P 127 7) :=
 Zba (L:=Zay []) (rounds:=20) (depth:=6) (ts:=[1,4,5,7]) (v:=(Zaa (Zad .i64) (Zaa (Zak ZaB) (Zaa (Zak (Za8 (Zae (ZaJ 3 .int) (ZaJ 47 (.lst .entry))) Memo (fun y=>⟨y.1,y.2⟩) (fun x=>(x.words,x.boxes)) (fun _=>rfl))) (Zac (Zad .i64)))))) (a:=⟨.exit 2,[4,5],(Zaa (Zak ZaB) (Zac (Zak (Za8 (Zae (ZaJ 3 .int) (ZaJ 47 (.lst .entry))) Memo (fun y=>⟨y.1,y.2⟩) (fun x=>(x.words,x.boxes)) (fun _=>rfl)))))⟩) (step:=Zjw) g127 rfl ZaC (fun x=>by kernel_rfl)
def ZyU:LSpec:=ZbL [0,1,4,5,6] (Zaa (Zad .i64) (Zaa (Zad .i64) (Zaa (Zak ZaB) (Zaa (Zak (Za8 (Zae (ZaJ 3 .int) (ZaJ 47 (.lst .entry))) Memo (fun y=>⟨y.1,y.2⟩) (fun x=>(x.words,x.boxes)) (fun _=>rfl))) (Zac (Zad .i64)))))) (⟨.exit 0,[1,4,5],(Zaa (Zad .i64) (Zaa (Zak ZaB) (Zac (Zak (Za8 (Zae (ZaJ 3 .int) (ZaJ 47 (.lst .entry))) Memo (fun y=>⟨y.1,y.2⟩) (fun x=>(x.words,x.boxes)) (fun _=>rfl))))))⟩:Way) (Zav Zi8)
theorem ZAA:LoopOK e127 39 ZyU (ZaU e127.P 127 3) :=
 Zba (L:=Zay []) (rounds:=20) (depth:=6) (ts:=[0,1,4,5,6]) (v:=(Zaa (Zad .i64) (Zaa (Zad .i64) (Zaa (Zak ZaB) (Zaa (Zak (Za8 (Zae (ZaJ 3 .int) (ZaJ 47 (.lst .entry))) Memo (fun y=>⟨y.1,y.2⟩) (fun x=>(x.words,x.boxes)) (fun _=>rfl))) (Zac (Zad .i64))))))) (a:=⟨.exit 0,[1,4,5],(Zaa (Zad .i64) (Zaa (Zak ZaB) (Zac (Zak (Za8 (Zae (ZaJ 3 .int) (ZaJ 47 (.lst .entry))) Memo (fun y=>⟨y.1,y.2⟩) (fun x=>(x.words,x.boxes)) (fun _=>rfl))))))⟩) (step:=Zi8) g127 rfl ZaC (fun x=>by kernel_rfl)
def s127:Spec:=Zar (Zaa (Zad .i64) (Zac (Zad .i64))) (Zat (Zap ZaB)) ZoE
theorem ZE0:Zaq Tryz.prog 127 s127 :=
 Zai (V:=e127) (L:=(Zay [(7,ZzT),(3,ZyU)])) (rounds:=20) (depth:=6) g127 (ZaV (nt:=39) (by kernel_rfl) (Zbd (by kernel_rfl)) (Zaw ZAx (Zaw ZAA ZaE))) (fun x=>by kernel_rfl)
def e128:Env:=env1 []
theorem g128:Zaj e128:=Zan mix1 ent1 Zag
def s128:Spec:=Zar (Zaa (Zap ZaB) (Zaa (Zad .i64) (Zac (Zad .i64)))) (Zbk (Zaa (Zap ZaB) (Zac (Zad .i64)))) Zct
theorem ZmD:Zaq Tryz.prog 128 s128 :=
 Zai (V:=e128) (L:=nL) (rounds:=20) (depth:=6) g128 Zam (fun x=>by kernel_rfl)
def e86:Env:=env1 [(34,s34),(35,s35),(127,s127),(128,s128)]
theorem g86:Zaj e86:=Zan mix1 ent1 (Zab ok34 rfl (Zab ok35 rfl (Zab ZE0 rfl (Zab ZmD rfl Zag))))
def ZCv:LSpec:=ZbL [1,2,3,4] (Zaa (Zak celConfig) (Zaa (Zak ZaB) (Zaa (Zak ZaB) (Zac (Zad .i64))))) (⟨.exit 0,[2,3],(Zaa (Zak ZaB) (Zac (Zak ZaB)))⟩:Way) (Zav Zhj)
theorem ZC9:LoopOK e86 27 ZCv (ZaU e86.P 86 3) :=
 Zba (L:=Zay []) (rounds:=20) (depth:=6) (ts:=[1,2,3,4]) (v:=(Zaa (Zak celConfig) (Zaa (Zak ZaB) (Zaa (Zak ZaB) (Zac (Zad .i64)))))) (a:=⟨.exit 0,[2,3],(Zaa (Zak ZaB) (Zac (Zak ZaB)))⟩) (step:=Zhj) g86 rfl ZaC (fun x=>by kernel_rfl)
def s86:Spec:=Zar (Zac (Zap celConfig)) (Zat (Zap ZaB)) ZmH
theorem ok86:Zaq Tryz.prog 86 s86 :=
 Zai (V:=e86) (L:=(Zay [(3,ZCv)])) (rounds:=20) (depth:=6) g86 (ZaV (nt:=27) (by kernel_rfl) (Zbd (by kernel_rfl)) (Zaw ZC9 ZaE)) (fun x=>by kernel_rfl)
def e87:Env:=env1 []
theorem g87:Zaj e87:=Zan mix1 ent1 Zag
def s87:Spec:=Zar Zbs (Zat (Zap Za0)) ZoC
theorem ok87:Zaq Tryz.prog 87 s87 :=
 Zai (V:=e87) (L:=nL) (rounds:=20) (depth:=6) g87 Zam (fun x=>by kernel_rfl)
def e51:Env:=env1 [(23,s23),(86,s86),(87,s87)]
theorem g51:Zaj e51:=Zan mix1 ent1 (Zab ok23 rfl (Zab ok86 rfl (Zab ok87 rfl Zag)))
def ZBA:LSpec:=ZbL [2,4,7,8] (Zaa (Zak celConfig) (Zaa (Zak ZaH) (Zaa (Zak (Za8 (Zae celConfig (Zae ZaB (Zae (ZaJ 50 .thread) (Zae (Zao .i64) (Zae (Zao .i64) (Zae Zbj (Zae (Za6 .mark) (Za6 .event)))))))) Wld (fun y=>⟨y.1,y.2.1,y.2.2.1,y.2.2.2.1,y.2.2.2.2.1,y.2.2.2.2.2.1,y.2.2.2.2.2.2.1,y.2.2.2.2.2.2.2⟩) (fun x=>(x.c,(x.m,(x.t,(x.now,(x.steps,(x.tape,(x.log,x.hist)))))))) (fun _=>rfl))) (Zac (Zad .i64))))) (⟨.exit 0,[4,7],(Zaa (Zak ZaH) (Zac (Zak (Za8 (Zae celConfig (Zae ZaB (Zae (ZaJ 50 .thread) (Zae (Zao .i64) (Zae (Zao .i64) (Zae Zbj (Zae (Za6 .mark) (Za6 .event)))))))) Wld (fun y=>⟨y.1,y.2.1,y.2.2.1,y.2.2.2.1,y.2.2.2.2.1,y.2.2.2.2.2.1,y.2.2.2.2.2.2.1,y.2.2.2.2.2.2.2⟩) (fun x=>(x.c,(x.m,(x.t,(x.now,(x.steps,(x.tape,(x.log,x.hist)))))))) (fun _=>rfl)))))⟩:Way) (Zav Zjm)
theorem ZDI:LoopOK e51 36 ZBA (ZaU e51.P 51 6) :=
 Zba (L:=Zay []) (rounds:=20) (depth:=6) (ts:=[2,4,7,8]) (v:=(Zaa (Zak celConfig) (Zaa (Zak ZaH) (Zaa (Zak (Za8 (Zae celConfig (Zae ZaB (Zae (ZaJ 50 .thread) (Zae (Zao .i64) (Zae (Zao .i64) (Zae Zbj (Zae (Za6 .mark) (Za6 .event)))))))) Wld (fun y=>⟨y.1,y.2.1,y.2.2.1,y.2.2.2.1,y.2.2.2.2.1,y.2.2.2.2.2.1,y.2.2.2.2.2.2.1,y.2.2.2.2.2.2.2⟩) (fun x=>(x.c,(x.m,(x.t,(x.now,(x.steps,(x.tape,(x.log,x.hist)))))))) (fun _=>rfl))) (Zac (Zad .i64)))))) (a:=⟨.exit 0,[4,7],(Zaa (Zak ZaH) (Zac (Zak (Za8 (Zae celConfig (Zae ZaB (Zae (ZaJ 50 .thread) (Zae (Zao .i64) (Zae (Zao .i64) (Zae Zbj (Zae (Za6 .mark) (Za6 .event)))))))) Wld (fun y=>⟨y.1,y.2.1,y.2.2.1,y.2.2.2.1,y.2.2.2.2.1,y.2.2.2.2.2.1,y.2.2.2.2.2.2.1,y.2.2.2.2.2.2.2⟩) (fun x=>(x.c,(x.m,(x.t,(x.now,(x.steps,(x.tape,(x.log,x.hist)))))))) (fun _=>rfl)))))⟩) (step:=Zjm) g51 rfl ZaC (fun x=>by kernel_rfl)
def s51:Spec:=Zar (Zaa (Zap celConfig) (Zac (Zau .int))) (Zbk (Zaa (Zap ZaH) (Zac (Zad .i64)))) ZoY
theorem ok51:Zaq Tryz.prog 51 s51 :=
 Zai (V:=e51) (L:=(Zay [(6,ZBA)])) (rounds:=20) (depth:=6) g51 (ZaV (nt:=36) (by kernel_rfl) (Zbd (by kernel_rfl)) (Zaw ZDI ZaE)) (fun x=>by kernel_rfl)
def e54:Env:=env1 [(31,s31)]
theorem g54:Zaj e54:=Zan mix1 ent1 (Zab ok31 rfl Zag)
def s54:Spec:=Zar (Zaa (Zap celConfig) (Zac (Zap Zlb))) (Zat (Zad .i64)) ZjC
theorem ok54:Zaq Tryz.prog 54 s54 :=
 Zai (V:=e54) (L:=nL) (rounds:=20) (depth:=6) g54 Zam (fun x=>by kernel_rfl)
def e82:Env:=env1 []
theorem g82:Zaj e82:=Zan mix1 ent1 Zag
def s82:Spec:=Zar (Zac (Zap Za0)) (Zat (ZaA)) Zhz
theorem ok82:Zaq Tryz.prog 82 s82 :=
 Zai (V:=e82) (L:=nL) (rounds:=20) (depth:=6) g82 Zam (fun x=>by kernel_rfl)
def e90:Env:=env1 []
theorem g90:Zaj e90:=Zan mix1 ent1 Zag
def s90:Spec:=Zar (Zaa (Zap ZaH) (Zac (Zap ZkF))) (Zat (Zap ZaH)) ZgW
theorem ok90:Zaq Tryz.prog 90 s90 :=
 Zai (V:=e90) (L:=nL) (rounds:=20) (depth:=6) g90 Zam (fun x=>by kernel_rfl)
def e91:Env:=env1 []
theorem g91:Zaj e91:=Zan mix1 ent1 Zag
def s91:Spec:=Zar (Zaa (Zap ZaH) (Zaa (Zad .i64) (Zac (Zap Za0)))) (Zat (Zap ZaH)) Zit
theorem ok91:Zaq Tryz.prog 91 s91 :=
 Zai (V:=e91) (L:=nL) (rounds:=20) (depth:=6) g91 Zam (fun x=>by kernel_rfl)
def e134:Env:=env1 []
theorem g134:Zaj e134:=Zan mix1 ent1 Zag
def Zzr:LSpec:=ZbL [0,1,5,6] (Zaa (Zad .i64) (Zaa (Zad .i64) (Zaa (Zad .i64) (Zac (Zad .i64))))) (⟨.exit 0,[1,5],(Zaa (Zad .i64) (Zac (Zad .i64)))⟩:Way) (Zav Zis)
theorem ZA5:LoopOK e134 22 Zzr (ZaU e134.P 134 5) :=
 Zba (L:=Zay []) (rounds:=20) (depth:=6) (ts:=[0,1,5,6]) (v:=(Zaa (Zad .i64) (Zaa (Zad .i64) (Zaa (Zad .i64) (Zac (Zad .i64)))))) (a:=⟨.exit 0,[1,5],(Zaa (Zad .i64) (Zac (Zad .i64)))⟩) (step:=Zis) g134 rfl ZaC (fun x=>by kernel_rfl)
def s134:Spec:=Zar (Zaa (Zad .i64) (Zac (Zad .i64))) (Zat (Zad .i64)) Zno
theorem ZER:Zaq Tryz.prog 134 s134 :=
 Zai (V:=e134) (L:=(Zay [(5,Zzr)])) (rounds:=20) (depth:=6) g134 (ZaV (nt:=22) (by kernel_rfl) (Zbd (by kernel_rfl)) (Zaw ZA5 ZaE)) (fun x=>by kernel_rfl)
def e92:Env:=env1 [(134,s134)]
theorem g92:Zaj e92:=Zan mix1 ent1 (Zab ZER rfl Zag)
def s92:Spec:=Zar (Zaa (Zap celConfig) (Zaa (Zad .i64) (Zaa (Zap Za0) (Zaa (Zad .i64) (Zaa (Zap ZdN) (Zac (Zad .i64))))))) (Zat (Zap Za0)) ZmJ
theorem ok92:Zaq Tryz.prog 92 s92 :=
 Zai (V:=e92) (L:=nL) (rounds:=20) (depth:=6) g92 Zam (fun x=>by kernel_rfl)
def e172:Env:=env1 []
theorem g172:Zaj e172:=Zan mix1 ent1 Zag
def s172:Spec:=Zar (Zac (Zap Zas)) (Zat (Zap Zas)) ZmS
theorem ZEJ:Zaq Tryz.prog 172 s172 :=
 Zai (V:=e172) (L:=nL) (rounds:=20) (depth:=6) g172 Zam (fun x=>by kernel_rfl)
def e197:Env:=env1 []
theorem g197:Zaj e197:=Zan mix1 ent1 Zag
def s197:Spec:=Zar (Zaa (Zap ZaB) (Zac (Zad .i64))) (Zbk (Zaa (Zad .i64) (Zac (Zad .i64)))) ZcE
theorem ZmA:Zaq Tryz.prog 197 s197 :=
 Zai (V:=e197) (L:=nL) (rounds:=20) (depth:=6) g197 Zam (fun x=>by kernel_rfl)
def e198:Env:=env1 []
theorem g198:Zaj e198:=Zan mix1 ent1 Zag
def s198:Spec:=Zar Zbs (Zat (Zad .i64)) Zhe
theorem Zx0:Zaq Tryz.prog 198 s198 :=
 Zai (V:=e198) (L:=nL) (rounds:=20) (depth:=6) g198 Zam (fun x=>by kernel_rfl)
def e199:Env:=env1 [(74,s74)]
theorem g199:Zaj e199:=Zan mix1 ent1 (Zab ok74 rfl Zag)
def s199:Spec:=Zar (Zaa (Zap celConfig) (Zac (Zad .i64))) (Zat (Zad .i64)) Zh4
theorem ZBv:Zaq Tryz.prog 199 s199 :=
 Zai (V:=e199) (L:=nL) (rounds:=20) (depth:=6) g199 Zam (fun x=>by kernel_rfl)
def e200:Env:=env1 []
theorem g200:Zaj e200:=Zan mix1 ent1 Zag
def s200:Spec:=Zar (Zac (Zap Zas)) (Zat (Zap Zas)) ZfN
theorem Zyx:Zaq Tryz.prog 200 s200 :=
 Zai (V:=e200) (L:=nL) (rounds:=20) (depth:=6) g200 Zam (fun x=>by kernel_rfl)
def e202:Env:=env1 [(24,s24)]
theorem g202:Zaj e202:=Zan mix1 ent1 (Zab ok24 rfl Zag)
def Zzg:LSpec:=ZbL [0,1,2,3,9] (Zaa (Zau .entry) (Zaa (Zad .i64) (Zaa (Zad .i64) (Zaa (Zad .i64) (Zac (Zad .i64)))))) (⟨.exit 0,[1],(Zac (Zad .i64))⟩:Way) (Zav Zju)
theorem ZAJ:LoopOK e202 29 Zzg (ZaU e202.P 202 2) :=
 Zba (L:=Zay []) (rounds:=20) (depth:=6) (ts:=[0,1,2,3,9]) (v:=(Zaa (Zau .entry) (Zaa (Zad .i64) (Zaa (Zad .i64) (Zaa (Zad .i64) (Zac (Zad .i64))))))) (a:=⟨.exit 0,[1],(Zac (Zad .i64))⟩) (step:=Zju) g202 rfl ZaC (fun x=>by kernel_rfl)
def s202:Spec:=Zar (Zaa (Zau .entry) (Zaa (Zad .i64) (Zaa (Zad .i64) (Zac (Zad .i64))))) (Zat (Zad .i64)) Zf8
theorem ZxO:Zaq Tryz.prog 202 s202 :=
 Zai (V:=e202) (L:=(Zay [(2,Zzg)])) (rounds:=20) (depth:=6) g202 (ZaV (nt:=29) (by kernel_rfl) (Zbd (by kernel_rfl)) (Zaw ZAJ ZaE)) (fun x=>by kernel_rfl)
def e236:Env:=env1 []
theorem g236:Zaj e236:=Zan mix1 ent1 Zag
def Zzy:LSpec:=ZbL [0,1,5,6] (Zaa (Zau .entry) (Zaa (Zad .i64) (Zaa (ZaM 137 .entry) (Zac (Zad .i64))))) (⟨.exit 0,[5],(Zac (ZaM 137 .entry))⟩:Way) (Zav Zh3)
theorem ZAt:LoopOK e236 27 Zzy (ZaU e236.P 236 3) :=
 Zba (L:=Zay []) (rounds:=20) (depth:=6) (ts:=[0,1,5,6]) (v:=(Zaa (Zau .entry) (Zaa (Zad .i64) (Zaa (ZaM 137 .entry) (Zac (Zad .i64)))))) (a:=⟨.exit 0,[5],(Zac (ZaM 137 .entry))⟩) (step:=Zh3) g236 rfl ZaC (fun x=>by kernel_rfl)
def s236:Spec:=Zar (Zaa (Zau .entry) (Zac (Zad .i64))) (Zat (Zau .entry)) ZkG
theorem ZBZ:Zaq Tryz.prog 236 s236 :=
 Zai (V:=e236) (L:=(Zay [(3,Zzy)])) (rounds:=20) (depth:=6) g236 (ZaV (nt:=27) (by kernel_rfl) (Zbd (by kernel_rfl)) (Zaw ZAt ZaE)) (fun x=>by kernel_rfl)
def e201:Env:=env1 [(38,s38),(128,s128),(198,s198),(199,s199),(200,s200),(202,s202),(236,s236)]
theorem g201:Zaj e201:=Zan mix1 ent1 (Zab ok38 rfl (Zab ZmD rfl (Zab Zx0 rfl (Zab ZBv rfl (Zab Zyx rfl (Zab ZxO rfl (Zab ZBZ rfl Zag)))))))
def s201:Spec:=Zar (Zac (Zap Zas)) (Zat (Zap Zas)) Zj9
theorem ZFp:Zaq Tryz.prog 201 s201 :=
 Zai (V:=e201) (L:=nL) (rounds:=20) (depth:=6) g201 Zam (fun x=>by kernel_rfl)
def e173:Env:=env1 [(38,s38),(197,s197),(198,s198),(199,s199),(200,s200),(201,s201)]
theorem g173:Zaj e173:=Zan mix1 ent1 (Zab ok38 rfl (Zab ZmA rfl (Zab Zx0 rfl (Zab ZBv rfl (Zab Zyx rfl (Zab ZFp rfl Zag))))))
def s173:Spec:=Zar (Zac (Zap Zas)) (Zbk (Zaa (Zap Zas) (Zac (ZaA)))) Zns
theorem ZEy:Zaq Tryz.prog 173 s173 :=
 Zai (V:=e173) (L:=nL) (rounds:=20) (depth:=6) g173 Zam (fun x=>by kernel_rfl)
def e237:Env:=env1 [(202,s202),(236,s236)]
theorem g237:Zaj e237:=Zan mix1 ent1 (Zab ZxO rfl (Zab ZBZ rfl Zag))
def Zzb:LSpec:=ZbL [0,1,2,3,9,10] (Zaa (Zau .entry) (Zaa (Zad .i64) (Zaa (Zad .i64) (Zaa (Zad .i64) (Zaa (ZaM 3 .int) (Zac (Zad .i64))))))) (⟨.exit 0,[9],(Zac (ZaM 3 .int))⟩:Way) (Zav ZgP)
theorem ZA8:LoopOK e237 29 Zzb (ZaU e237.P 237 3) :=
 Zba (L:=Zay []) (rounds:=20) (depth:=6) (ts:=[0,1,2,3,9,10]) (v:=(Zaa (Zau .entry) (Zaa (Zad .i64) (Zaa (Zad .i64) (Zaa (Zad .i64) (Zaa (ZaM 3 .int) (Zac (Zad .i64)))))))) (a:=⟨.exit 0,[9],(Zac (ZaM 3 .int))⟩) (step:=ZgP) g237 rfl ZaC (fun x=>by kernel_rfl)
def s237:Spec:=Zar (Zaa (Zau .entry) (Zaa (Zad .i64) (Zaa (Zad .i64) (Zac (Zad .i64))))) (Zat (Zau .int)) ZlO
theorem ZFt:Zaq Tryz.prog 237 s237 :=
 Zai (V:=e237) (L:=(Zay [(3,Zzb)])) (rounds:=20) (depth:=6) g237 (ZaV (nt:=29) (by kernel_rfl) (Zbd (by kernel_rfl)) (Zaw ZA8 ZaE)) (fun x=>by kernel_rfl)
def e203:Env:=env1 [(200,s200),(237,s237)]
theorem g203:Zaj e203:=Zan mix1 ent1 (Zab Zyx rfl (Zab ZFt rfl Zag))
def ZyW:LSpec:=ZbL [1,2,4,5,6,7] (Zaa (Zad .i64) (Zaa (Zak Zas) (Zaa (Zak Zas) (Zaa (Zau .int) (Zaa (ZaM 162 .mark) (Zac (Zad .i64))))))) (⟨.exit 0,[1,2,4,6],(Zaa (Zad .i64) (Zaa (Zak Zas) (Zaa (Zak Zas) (Zac (ZaM 162 .mark)))))⟩:Way) (Zav Zgy)
theorem ZBn:LoopOK e203 65 ZyW (ZaU e203.P 203 4) :=
 Zba (L:=Zay []) (rounds:=20) (depth:=6) (ts:=[1,2,4,5,6,7]) (v:=(Zaa (Zad .i64) (Zaa (Zak Zas) (Zaa (Zak Zas) (Zaa (Zau .int) (Zaa (ZaM 162 .mark) (Zac (Zad .i64)))))))) (a:=⟨.exit 0,[1,2,4,6],(Zaa (Zad .i64) (Zaa (Zak Zas) (Zaa (Zak Zas) (Zac (ZaM 162 .mark)))))⟩) (step:=Zgy) g203 rfl ZaC (fun x=>by kernel_rfl)
def s203:Spec:=Zar (Zaa (Zap Zas) (Zac (Zad .i64))) (Zat (Zap Zas)) ZeE
theorem ZFy:Zaq Tryz.prog 203 s203 :=
 Zai (V:=e203) (L:=(Zay [(4,ZyW)])) (rounds:=20) (depth:=6) g203 (ZaV (nt:=65) (by kernel_rfl) (Zbd (by kernel_rfl)) (Zaw ZBn ZaE)) (fun x=>by kernel_rfl)
def e208:Env:=env1 []
theorem g208:Zaj e208:=Zan mix1 ent1 Zag
def s208:Spec:=Zar (Zac (Zap Zas)) (Zat (ZaA)) Zhb
theorem Zyi:Zaq Tryz.prog 208 s208 :=
 Zai (V:=e208) (L:=nL) (rounds:=20) (depth:=6) g208 Zam (fun x=>by kernel_rfl)
def e204:Env:=env1 [(208,s208)]
theorem g204:Zaj e204:=Zan mix1 ent1 (Zab Zyi rfl Zag)
def s204:Spec:=Zar (Zac (Zap Zas)) (Zat (Zap Zas)) ZfU
theorem ZCa:Zaq Tryz.prog 204 s204 :=
 Zai (V:=e204) (L:=nL) (rounds:=20) (depth:=6) g204 Zam (fun x=>by kernel_rfl)
def e205:Env:=env1 [(128,s128),(197,s197)]
theorem g205:Zaj e205:=Zan mix1 ent1 (Zab ZmD rfl (Zab ZmA rfl Zag))
def s205:Spec:=Zar (Zaa (Zap ZaB) (Zaa (Zad .i64) (Zaa (Zad .i64) (Zac (Zad .i64))))) (Zbk (Zaa (Zap ZaB) (Zaa (ZaA) (Zac (Zad .i64))))) Zeo
theorem ZtG:Zaq Tryz.prog 205 s205 :=
 Zai (V:=e205) (L:=nL) (rounds:=20) (depth:=6) g205 Zam (fun x=>by kernel_rfl)
def e206:Env:=env1 []
theorem g206:Zaj e206:=Zan mix1 ent1 Zag
def s206:Spec:=Zar (Zaa (Zad .i64) (Zac (Zad .i64))) (Zat (Zad .i64)) Zji
theorem ZEj:Zaq Tryz.prog 206 s206 :=
 Zai (V:=e206) (L:=nL) (rounds:=20) (depth:=6) g206 Zam (fun x=>by kernel_rfl)
def e174:Env:=env1 [(35,s35),(197,s197),(202,s202),(203,s203),(204,s204),(205,s205),(206,s206)]
theorem g174:Zaj e174:=Zan mix1 ent1 (Zab ok35 rfl (Zab ZmA rfl (Zab ZxO rfl (Zab ZFy rfl (Zab ZCa rfl (Zab ZtG rfl (Zab ZEj rfl Zag)))))))
def s174:Spec:=Zar (Zac (Zap Zas)) (Zbk (Zaa (Zap Zas) (Zac (ZaA)))) ZnY
theorem ZFo:Zaq Tryz.prog 174 s174 :=
 Zai (V:=e174) (L:=nL) (rounds:=20) (depth:=6) g174 Zam (fun x=>by kernel_rfl)
def e210:Env:=env1 []
theorem g210:Zaj e210:=Zan mix1 ent1 Zag
def s210:Spec:=Zar (Zac (Zad .i64)) (Zat (Zad .i64)) Ze3
theorem Zyw:Zaq Tryz.prog 210 s210 :=
 Zai (V:=e210) (L:=nL) (rounds:=20) (depth:=6) g210 Zam (fun x=>by kernel_rfl)
def e212:Env:=env1 []
theorem g212:Zaj e212:=Zan mix1 ent1 Zag
def s212:Spec:=Zar (Zac (Zad .i64)) (Zat (Zad .i64)) Zh6
theorem ZBp:Zaq Tryz.prog 212 s212 :=
 Zai (V:=e212) (L:=nL) (rounds:=20) (depth:=6) g212 Zam (fun x=>by kernel_rfl)
def e219:Env:=env1 []
theorem g219:Zaj e219:=Zan mix1 ent1 Zag
def s219:Spec:=Zar (Zac (Zad .i64)) (Zat (Zad .i64)) Zf6
theorem ZCb:Zaq Tryz.prog 219 s219 :=
 Zai (V:=e219) (L:=nL) (rounds:=20) (depth:=6) g219 Zam (fun x=>by kernel_rfl)
def e238:Env:=env1 []
theorem g238:Zaj e238:=Zan mix1 ent1 Zag
def s238:Spec:=Zar (Zaa (Zad .i64) (Zac (Zad .i64))) (Zat (Zad .i64)) Zfm
theorem ZtL:Zaq Tryz.prog 238 s238 :=
 Zai (V:=e238) (L:=nL) (rounds:=20) (depth:=6) g238 Zam (fun x=>by kernel_rfl)
def e207:Env:=env1 [(198,s198),(210,s210),(212,s212),(219,s219),(238,s238)]
theorem g207:Zaj e207:=Zan mix1 ent1 (Zab Zx0 rfl (Zab Zyw rfl (Zab ZBp rfl (Zab ZCb rfl (Zab ZtL rfl Zag)))))
def ZrK:LSpec:=Zc7 [0,4,5] (Zaa (Zad .i64) (Zaa (Zad .i64) (Zac (Zad .i64)))) (⟨.exit 4,[0,4],(Zaa (Zad .i64) (Zac (Zad .i64)))⟩:Way) (⟨.ret,[2],(Zac (Zad .i64))⟩:Way) (Zav ZhC)
theorem ZsG:LoopOK e207 40 ZrK (ZaU e207.P 207 18) :=
 Zb5 (L:=Zay []) (rounds:=20) (depth:=6) (ts:=[0,4,5]) (v:=(Zaa (Zad .i64) (Zaa (Zad .i64) (Zac (Zad .i64))))) (a:=⟨.exit 4,[0,4],(Zaa (Zad .i64) (Zac (Zad .i64)))⟩) (b:=⟨.ret,[2],(Zac (Zad .i64))⟩) (step:=ZhC) g207 rfl rfl ZaC (fun x=>by kernel_rfl)
def Zxg:LSpec:=Zc7 [0,4] (Zaa (Zad .i64) (Zac (Zad .i64))) (⟨.exit 2,[],Zbs⟩:Way) (⟨.ret,[2],(Zac (Zad .i64))⟩:Way) (Zav Zhi)
theorem ZyN:LoopOK e207 40 Zxg (ZaU e207.P 207 15) :=
 Zb5 (L:=Zay [(18,ZrK)]) (rounds:=20) (depth:=6) (ts:=[0,4]) (v:=(Zaa (Zad .i64) (Zac (Zad .i64)))) (a:=⟨.exit 2,[],Zbs⟩) (b:=⟨.ret,[2],(Zac (Zad .i64))⟩) (step:=Zhi) g207 rfl rfl (Zmf (by kernel_rfl) (Zaw ZsG ZaE)) (fun x=>by kernel_rfl)
def Zz6:LSpec:=Zc7 [0,3] (Zaa (Zad .i64) (Zac (Zad .i64))) (⟨.exit 0,[0],(Zac (Zad .i64))⟩:Way) (⟨.ret,[2],(Zac (Zad .i64))⟩:Way) (Zav ZhV)
theorem ZAh:LoopOK e207 40 Zz6 (ZaU e207.P 207 6) :=
 Zb5 (L:=Zay []) (rounds:=20) (depth:=6) (ts:=[0,3]) (v:=(Zaa (Zad .i64) (Zac (Zad .i64)))) (a:=⟨.exit 0,[0],(Zac (Zad .i64))⟩) (b:=⟨.ret,[2],(Zac (Zad .i64))⟩) (step:=ZhV) g207 rfl rfl ZaC (fun x=>by kernel_rfl)
def s207:Spec:=Zar (Zac (Zad .i64)) (Zat (Zad .i64)) ZfC
theorem ZxP:Zaq Tryz.prog 207 s207 :=
 Zai (V:=e207) (L:=(Zay [(18,ZrK),(15,Zxg),(6,Zz6)])) (rounds:=20) (depth:=6) g207 (ZaV (nt:=40) (by kernel_rfl) (Zbd (by kernel_rfl)) (Zaw ZsG (Zaw ZyN (Zaw ZAh ZaE)))) (fun x=>by kernel_rfl)
def e239:Env:=env1 []
theorem g239:Zaj e239:=Zan mix1 ent1 Zag
def s239:Spec:=Zar (Zac (Zap Zas)) (Zat (Zap Zas)) ZjY
theorem ZBz:Zaq Tryz.prog 239 s239 :=
 Zai (V:=e239) (L:=nL) (rounds:=20) (depth:=6) g239 Zam (fun x=>by kernel_rfl)
def e209:Env:=env1 [(239,s239)]
theorem g209:Zaj e209:=Zan mix1 ent1 (Zab ZBz rfl Zag)
def s209:Spec:=Zar (Zac (Zap Zas)) (Zat (Zap Zas)) ZgZ
theorem ZEN:Zaq Tryz.prog 209 s209 :=
 Zai (V:=e209) (L:=nL) (rounds:=20) (depth:=6) g209 Zam (fun x=>by kernel_rfl)
def e211:Env:=env1 []
theorem g211:Zaj e211:=Zan mix1 ent1 Zag
def s211:Spec:=Zar (Zac (Zad .i64)) (Zat (Zad .i64)) ZlJ
theorem ZEq:Zaq Tryz.prog 211 s211 :=
 Zai (V:=e211) (L:=nL) (rounds:=20) (depth:=6) g211 Zam (fun x=>by kernel_rfl)
def e175:Env:=env1 [(37,s37),(197,s197),(205,s205),(207,s207),(208,s208),(209,s209),(210,s210),(211,s211),(212,s212)]
theorem g175:Zaj e175:=Zan mix1 ent1 (Zab ok37 rfl (Zab ZmA rfl (Zab ZtG rfl (Zab ZxP rfl (Zab Zyi rfl (Zab ZEN rfl (Zab Zyw rfl (Zab ZEq rfl (Zab ZBp rfl Zag)))))))))
def s175:Spec:=Zar (Zac (Zap Zas)) (Zbk (Zaa (Zap Zas) (Zac (ZaA)))) ZkB
theorem ZEo:Zaq Tryz.prog 175 s175 :=
 Zai (V:=e175) (L:=nL) (rounds:=20) (depth:=6) g175 Zam (fun x=>by kernel_rfl)
def e213:Env:=env1 [(37,s37)]
theorem g213:Zaj e213:=Zan mix1 ent1 (Zab ok37 rfl Zag)
def s213:Spec:=Zar (Zac (Zap Zas)) (Zat (Zad .i64)) Zn1
theorem ZFr:Zaq Tryz.prog 213 s213 :=
 Zai (V:=e213) (L:=nL) (rounds:=20) (depth:=6) g213 Zam (fun x=>by kernel_rfl)
def e214:Env:=env1 [(207,s207)]
theorem g214:Zaj e214:=Zan mix1 ent1 (Zab ZxP rfl Zag)
def s214:Spec:=Zar (Zac (Zad .i64)) (Zat (Zad .i64)) ZoQ
theorem ZE7:Zaq Tryz.prog 214 s214 :=
 Zai (V:=e214) (L:=nL) (rounds:=20) (depth:=6) g214 Zam (fun x=>by kernel_rfl)
def e215:Env:=env1 [(239,s239)]
theorem g215:Zaj e215:=Zan mix1 ent1 (Zab ZBz rfl Zag)
def s215:Spec:=Zar (Zac (Zap Zas)) (Zat (Zap Zas)) Zkj
theorem ZE3:Zaq Tryz.prog 215 s215 :=
 Zai (V:=e215) (L:=nL) (rounds:=20) (depth:=6) g215 Zam (fun x=>by kernel_rfl)
def e216:Env:=env1 []
theorem g216:Zaj e216:=Zan mix1 ent1 Zag
def s216:Spec:=Zar (Zaa (Zap ZaB) (Zac (Zad .i64))) (Zbk (Zaa (Zau .entry) (Zac (Zad .i64)))) Zlh
theorem ZBw:Zaq Tryz.prog 216 s216 :=
 Zai (V:=e216) (L:=nL) (rounds:=20) (depth:=6) g216 Zam (fun x=>by kernel_rfl)
def e240:Env:=env1 []
theorem g240:Zaj e240:=Zan mix1 ent1 Zag
def Zzi:LSpec:=ZbL [0,3,4] (Zaa (Zau (.lst .entry)) (Zaa (ZaM 137 .entry) (Zac (Zad .i64)))) (⟨.exit 0,[3],(Zac (ZaM 137 .entry))⟩:Way) (Zav Zie)
theorem ZA9:LoopOK e240 19 Zzi (ZaU e240.P 240 3) :=
 Zba (L:=Zay []) (rounds:=20) (depth:=6) (ts:=[0,3,4]) (v:=(Zaa (Zau (.lst .entry)) (Zaa (ZaM 137 .entry) (Zac (Zad .i64))))) (a:=⟨.exit 0,[3],(Zac (ZaM 137 .entry))⟩) (step:=Zie) g240 rfl ZaC (fun x=>by kernel_rfl)
def s240:Spec:=Zar (Zac (Zau (.lst .entry))) (Zat (Zau .entry)) Znr
theorem ZE8:Zaq Tryz.prog 240 s240 :=
 Zai (V:=e240) (L:=(Zay [(3,Zzi)])) (rounds:=20) (depth:=6) g240 (ZaV (nt:=19) (by kernel_rfl) (Zbd (by kernel_rfl)) (Zaw ZA9 ZaE)) (fun x=>by kernel_rfl)
def e217:Env:=env1 [(240,s240)]
theorem g217:Zaj e217:=Zan mix1 ent1 (Zab ZE8 rfl Zag)
def s217:Spec:=Zar (Zaa (Zap Zas) (Zaa (Zad .i64) (Zac (Zau .entry)))) (Zat (Zap Zas)) Zkc
theorem ZBt:Zaq Tryz.prog 217 s217 :=
 Zai (V:=e217) (L:=nL) (rounds:=20) (depth:=6) g217 Zam (fun x=>by kernel_rfl)
def e218:Env:=env1 []
theorem g218:Zaj e218:=Zan mix1 ent1 Zag
def s218:Spec:=Zar (Zaa (Zap ZaB) (Zaa (Zad .i64) (Zac (Zau .entry)))) (Zbk (Zaa (Zap ZaB) (Zac (Zad .i64)))) Zls
theorem ZBx:Zaq Tryz.prog 218 s218 :=
 Zai (V:=e218) (L:=nL) (rounds:=20) (depth:=6) g218 Zam (fun x=>by kernel_rfl)
def e176:Env:=env1 [(37,s37),(128,s128),(197,s197),(205,s205),(207,s207),(210,s210),(213,s213),(214,s214),(215,s215),(216,s216),(217,s217),(218,s218),(219,s219)]
theorem g176:Zaj e176:=Zan mix1 ent1 (Zab ok37 rfl (Zab ZmD rfl (Zab ZmA rfl (Zab ZtG rfl (Zab ZxP rfl (Zab Zyw rfl (Zab ZFr rfl (Zab ZE7 rfl (Zab ZE3 rfl (Zab ZBw rfl (Zab ZBt rfl (Zab ZBx rfl (Zab ZCb rfl Zag)))))))))))))
def s176:Spec:=Zar (Zac (Zap Zas)) (Zbk (Zaa (Zap Zas) (Zac (ZaA)))) Zfl
theorem ZFj:Zaq Tryz.prog 176 s176 :=
 Zai (V:=e176) (L:=nL) (rounds:=20) (depth:=6) g176 Zam (fun x=>by kernel_rfl)
def e220:Env:=env1 [(38,s38),(128,s128),(238,s238)]
theorem g220:Zaj e220:=Zan mix1 ent1 (Zab ok38 rfl (Zab ZmD rfl (Zab ZtL rfl Zag)))
def s220:Spec:=Zar (Zaa (Zap Zas) (Zac (Zad .i64))) (Zat (Zap Zas)) Zh0
theorem ZEp:Zaq Tryz.prog 220 s220 :=
 Zai (V:=e220) (L:=nL) (rounds:=20) (depth:=6) g220 Zam (fun x=>by kernel_rfl)
def e247:Env:=env1 []
theorem g247:Zaj e247:=Zan mix1 ent1 Zag
def s247:Spec:=Zar (Zac (Zap Zbj)) (Zbk (Zaa (Zad .i64) (Zac (Zap Zbj)))) ZnP
theorem ZE2:Zaq Tryz.prog 247 s247 :=
 Zai (V:=e247) (L:=nL) (rounds:=20) (depth:=6) g247 Zam (fun x=>by kernel_rfl)
def e241:Env:=env1 [(247,s247)]
theorem g241:Zaj e241:=Zan mix1 ent1 (Zab ZE2 rfl Zag)
def s241:Spec:=Zar (Zaa (Zap Zbj) (Zac (Zad .i64))) (Zbk (Zaa (Zad .i64) (Zac (Zap Zbj)))) ZmI
theorem ZEz:Zaq Tryz.prog 241 s241 :=
 Zai (V:=e241) (L:=nL) (rounds:=20) (depth:=6) g241 Zam (fun x=>by kernel_rfl)
def e242:Env:=env1 [(128,s128),(197,s197)]
theorem g242:Zaj e242:=Zan mix1 ent1 (Zab ZmD rfl (Zab ZmA rfl Zag))
def s242:Spec:=Zar (Zaa (Zap ZaB) (Zaa (Zad .i64) (Zac (Zad .i64)))) (Zbk (Zaa (Zap ZaB) (Zaa (Zad .i64) (Zac (Zad .i64))))) ZnH
theorem ZFc:Zaq Tryz.prog 242 s242 :=
 Zai (V:=e242) (L:=nL) (rounds:=20) (depth:=6) g242 Zam (fun x=>by kernel_rfl)
def e243:Env:=env1 [(36,s36),(74,s74)]
theorem g243:Zaj e243:=Zan mix1 ent1 (Zab ok36 rfl (Zab ok74 rfl Zag))
def s243:Spec:=Zar (Zaa (Zap celConfig) (Zaa (Zad .i64) (Zaa (Zad .i64) (Zac (Zad .i64))))) (Zat (Zad .i64)) ZnM
theorem ZEI:Zaq Tryz.prog 243 s243 :=
 Zai (V:=e243) (L:=nL) (rounds:=20) (depth:=6) g243 Zam (fun x=>by kernel_rfl)
def e221:Env:=env1 [(241,s241),(242,s242),(243,s243)]
theorem g221:Zaj e221:=Zan mix1 ent1 (Zab ZEz rfl (Zab ZFc rfl (Zab ZEI rfl Zag)))
def s221:Spec:=Zar (Zac (Zap Zas)) (Zat (Zap Zas)) ZnR
theorem ZES:Zaq Tryz.prog 221 s221 :=
 Zai (V:=e221) (L:=nL) (rounds:=20) (depth:=6) g221 Zam (fun x=>by kernel_rfl)
def e222:Env:=env1 [(38,s38),(205,s205),(238,s238)]
theorem g222:Zaj e222:=Zan mix1 ent1 (Zab ok38 rfl (Zab ZtG rfl (Zab ZtL rfl Zag)))
def s222:Spec:=Zar (Zaa (Zap Zas) (Zaa (Zad .i64) (Zaa (Zad .i64) (Zac (Zad .i64))))) (Zat (Zap Zas)) ZeK
theorem ZEd:Zaq Tryz.prog 222 s222 :=
 Zai (V:=e222) (L:=nL) (rounds:=20) (depth:=6) g222 Zam (fun x=>by kernel_rfl)
def e223:Env:=env1 [(38,s38),(197,s197),(208,s208),(238,s238)]
theorem g223:Zaj e223:=Zan mix1 ent1 (Zab ok38 rfl (Zab ZmA rfl (Zab Zyi rfl (Zab ZtL rfl Zag))))
def s223:Spec:=Zar (Zac (Zap Zas)) (Zat (Zap Zas)) Znv
theorem ZEf:Zaq Tryz.prog 223 s223 :=
 Zai (V:=e223) (L:=nL) (rounds:=20) (depth:=6) g223 Zam (fun x=>by kernel_rfl)
def e224:Env:=env1 []
theorem g224:Zaj e224:=Zan mix1 ent1 Zag
def s224:Spec:=Zar (Zac (Zad .i64)) (Zat (Zad .i64)) ZnS
theorem ZE4:Zaq Tryz.prog 224 s224 :=
 Zai (V:=e224) (L:=nL) (rounds:=20) (depth:=6) g224 Zam (fun x=>by kernel_rfl)
def e177:Env:=env1 [(204,s204),(216,s216),(217,s217),(218,s218),(220,s220),(221,s221),(222,s222),(223,s223),(224,s224)]
theorem g177:Zaj e177:=Zan mix1 ent1 (Zab ZCa rfl (Zab ZBw rfl (Zab ZBt rfl (Zab ZBx rfl (Zab ZEp rfl (Zab ZES rfl (Zab ZEd rfl (Zab ZEf rfl (Zab ZE4 rfl Zag)))))))))
def s177:Spec:=Zar (Zac (Zap Zas)) (Zbk (Zaa (Zap Zas) (Zac (ZaA)))) ZcV
theorem ZEi:Zaq Tryz.prog 177 s177 :=
 Zai (V:=e177) (L:=nL) (rounds:=20) (depth:=6) g177 Zam (fun x=>by kernel_rfl)
def e135:Env:=env1 [(38,s38),(128,s128),(172,s172),(173,s173),(174,s174),(175,s175),(176,s176),(177,s177)]
theorem g135:Zaj e135:=Zan mix1 ent1 (Zab ok38 rfl (Zab ZmD rfl (Zab ZEJ rfl (Zab ZEy rfl (Zab ZFo rfl (Zab ZEo rfl (Zab ZFj rfl (Zab ZEi rfl Zag))))))))
def s135:Spec:=Zar (Zac (Zap Zas)) (Zat (Zap Zas)) Znl
theorem ZFk:Zaq Tryz.prog 135 s135 :=
 Zai (V:=e135) (L:=nL) (rounds:=20) (depth:=6) g135 Zam (fun x=>by kernel_rfl)
def e93:Env:=env1 [(24,s24),(90,s90),(91,s91),(135,s135)]
theorem g93:Zaj e93:=Zan mix1 ent1 (Zab ok24 rfl (Zab ok90 rfl (Zab ok91 rfl (Zab ZFk rfl Zag))))
def ZBC:LSpec:=ZbL [1,2,4,5,6,7] (Zaa (Zad .i64) (Zaa (Zak ZaH) (Zaa (Zak ZaH) (Zaa (Zak Zas) (Zaa (ZaM 162 .mark) (Zac (Zad .i64))))))) (⟨.exit 0,[1,2,4,5,6],(Zaa (Zad .i64) (Zaa (Zak ZaH) (Zaa (Zak ZaH) (Zaa (Zak Zas) (Zac (ZaM 162 .mark))))))⟩:Way) (Zav Zik)
theorem ZC7:LoopOK e93 101 ZBC (ZaU e93.P 93 8) :=
 Zba (L:=Zay []) (rounds:=20) (depth:=6) (ts:=[1,2,4,5,6,7]) (v:=(Zaa (Zad .i64) (Zaa (Zak ZaH) (Zaa (Zak ZaH) (Zaa (Zak Zas) (Zaa (ZaM 162 .mark) (Zac (Zad .i64)))))))) (a:=⟨.exit 0,[1,2,4,5,6],(Zaa (Zad .i64) (Zaa (Zak ZaH) (Zaa (Zak ZaH) (Zaa (Zak Zas) (Zac (ZaM 162 .mark))))))⟩) (step:=Zik) g93 rfl ZaC (fun x=>by kernel_rfl)
def s93:Spec:=Zar (Zaa (Zap ZaH) (Zac (Zad .i64))) (Zat (Zap ZaH)) Zn0
theorem ok93:Zaq Tryz.prog 93 s93 :=
 Zai (V:=e93) (L:=(Zay [(8,ZBC)])) (rounds:=20) (depth:=6) g93 (ZaV (nt:=101) (by kernel_rfl) (Zbd (by kernel_rfl)) (Zaw ZC7 ZaE)) (fun x=>by kernel_rfl)
def e53:Env:=env1 [(54,s54),(82,s82),(90,s90),(91,s91),(92,s92),(93,s93)]
theorem g53:Zaj e53:=Zan mix1 ent1 (Zab ok54 rfl (Zab ok82 rfl (Zab ok90 rfl (Zab ok91 rfl (Zab ok92 rfl (Zab ok93 rfl Zag))))))
def s53:Spec:=Zar (Zaa (Zap ZaH) (Zac (Zap Zlb))) (Zbk (Zaa (Zap ZaH) (Zac (Zad .i64)))) ZnA
theorem ok53:Zaq Tryz.prog 53 s53 :=
 Zai (V:=e53) (L:=nL) (rounds:=20) (depth:=6) g53 Zam (fun x=>by kernel_rfl)
def e77:Env:=env1 [(23,s23),(54,s54)]
theorem g77:Zaj e77:=Zan mix1 ent1 (Zab ok23 rfl (Zab ok54 rfl Zag))
def ZB3:LSpec:=Zc7 [1,2,7] (Zaa (Zau .sentry) (Zaa (Zak celConfig) (Zac (Zad .i64)))) (⟨.exit 0,[],Zbs⟩:Way) (⟨.ret,[4,5],(Zaa (Zad .i64) (Zac (Zad .i64)))⟩:Way) (Zav Zjx)
theorem ZCD:LoopOK e77 33 ZB3 (ZaU e77.P 77 7) :=
 Zb5 (L:=Zay []) (rounds:=20) (depth:=6) (ts:=[1,2,7]) (v:=(Zaa (Zau .sentry) (Zaa (Zak celConfig) (Zac (Zad .i64))))) (a:=⟨.exit 0,[],Zbs⟩) (b:=⟨.ret,[4,5],(Zaa (Zad .i64) (Zac (Zad .i64)))⟩) (step:=Zjx) g77 rfl rfl ZaC (fun x=>by kernel_rfl)
def s77:Spec:=Zar (Zaa (Zap celConfig) (Zac (Zau .sentry))) (Zbk (Zaa (Zad .i64) (Zac (Zad .i64)))) ZoP
theorem ok77:Zaq Tryz.prog 77 s77 :=
 Zai (V:=e77) (L:=(Zay [(7,ZB3)])) (rounds:=20) (depth:=6) g77 (ZaV (nt:=33) (by kernel_rfl) (Zbd (by kernel_rfl)) (Zaw ZCD ZaE)) (fun x=>by kernel_rfl)
def e42:Env:=env1 [(51,s51),(53,s53),(77,s77)]
theorem g42:Zaj e42:=Zan mix1 ent1 (Zab ok51 rfl (Zab ok53 rfl (Zab ok77 rfl Zag)))
def ZCC:LSpec:=ZbL [1,6,11,13] (Zaa (Zau .sentry) (Zaa (Zak ZaH) (Zaa (Zak ZaH) (Zac (Zad .i64))))) (⟨.exit 0,[6,11],(Zaa (Zak ZaH) (Zac (Zak ZaH)))⟩:Way) (Zav Zi3)
theorem ZDm:LoopOK e42 47 ZCC (ZaU e42.P 42 6) :=
 Zba (L:=Zay []) (rounds:=20) (depth:=6) (ts:=[1,6,11,13]) (v:=(Zaa (Zau .sentry) (Zaa (Zak ZaH) (Zaa (Zak ZaH) (Zac (Zad .i64)))))) (a:=⟨.exit 0,[6,11],(Zaa (Zak ZaH) (Zac (Zak ZaH)))⟩) (step:=Zi3) g42 rfl ZaC (fun x=>by kernel_rfl)
def s42:Spec:=Zar (Zaa (Zap celConfig) (Zaa (Zau .sentry) (Zac (Zau .int)))) (Zbk (Zaa (Zap ZaH) (Zaa (Zad .i64) (Zac (Zad .i64))))) ZwF
theorem ok42:Zaq Tryz.prog 42 s42 :=
 Zai (V:=e42) (L:=(Zay [(6,ZCC)])) (rounds:=20) (depth:=6) g42 (ZaV (nt:=47) (by kernel_rfl) (Zbd (by kernel_rfl)) (Zaw ZDm ZaE)) (fun x=>by kernel_rfl)
def e43:Env:=env1 []
theorem g43:Zaj e43:=Zan mix1 ent1 Zag
def ZCf:LSpec:=ZbL [0,3,4] (Zaa (Zau .sentry) (Zaa (ZaM 112 .sentry) (Zac (Zad .i64)))) (⟨.exit 0,[3],(Zac (ZaM 112 .sentry))⟩:Way) (Zav ZhL)
theorem ZCP:LoopOK e43 37 ZCf (ZaU e43.P 43 3) :=
 Zba (L:=Zay []) (rounds:=20) (depth:=6) (ts:=[0,3,4]) (v:=(Zaa (Zau .sentry) (Zaa (ZaM 112 .sentry) (Zac (Zad .i64))))) (a:=⟨.exit 0,[3],(Zac (ZaM 112 .sentry))⟩) (step:=ZhL) g43 rfl ZaC (fun x=>by kernel_rfl)
def s43:Spec:=Zar (Zac (Zau .sentry)) (Zat (Zau .sentry)) Zth
theorem ok43:Zaq Tryz.prog 43 s43 :=
 Zai (V:=e43) (L:=(Zay [(3,ZCf)])) (rounds:=20) (depth:=6) g43 (ZaV (nt:=37) (by kernel_rfl) (Zbd (by kernel_rfl)) (Zaw ZCP ZaE)) (fun x=>by kernel_rfl)
def e78:Env:=env1 []
theorem g78:Zaj e78:=Zan mix1 ent1 Zag
def ZBs:LSpec:=Zc7 [0,1,5] (Zaa (Zau .event) (Zaa (Zau .event) (Zac (Zad .i64)))) (⟨.exit 0,[],Zbs⟩:Way) (⟨.ret,[4],(Zac (ZaA))⟩:Way) (Zav ZgO)
theorem ZDd:LoopOK e78 26 ZBs (ZaU e78.P 78 4) :=
 Zb5 (L:=Zay []) (rounds:=20) (depth:=6) (ts:=[0,1,5]) (v:=(Zaa (Zau .event) (Zaa (Zau .event) (Zac (Zad .i64))))) (a:=⟨.exit 0,[],Zbs⟩) (b:=⟨.ret,[4],(Zac (ZaA))⟩) (step:=ZgO) g78 rfl rfl ZaC (fun x=>by kernel_rfl)
def s78:Spec:=Zar (Zaa (Zau .event) (Zac (Zau .event))) (Zat (ZaA)) ZlM
theorem ok78:Zaq Tryz.prog 78 s78 :=
 Zai (V:=e78) (L:=(Zay [(4,ZBs)])) (rounds:=20) (depth:=6) g78 (ZaV (nt:=26) (by kernel_rfl) (Zbd (by kernel_rfl)) (Zaw ZDd ZaE)) (fun x=>by kernel_rfl)
def e44:Env:=env1 [(56,s56),(57,s57),(58,s58),(59,s59),(78,s78)]
theorem g44:Zaj e44:=Zan mix1 ent1 (Zab ok56 rfl (Zab ok57 rfl (Zab ok58 rfl (Zab ok59 rfl (Zab ok78 rfl Zag)))))
def ZBE:LSpec:=Zc7 [2,3,5] (Zaa (Zak ZaH) (Zaa (Zak ZaH) (Zac (Zad .i64)))) (⟨.exit 0,[],Zbs⟩:Way) (⟨.ret,[4],(Zac (ZaA))⟩:Way) (Zav Zh7)
theorem ZCT:LoopOK e44 85 ZBE (ZaU e44.P 44 4) :=
 Zb5 (L:=Zay []) (rounds:=20) (depth:=6) (ts:=[2,3,5]) (v:=(Zaa (Zak ZaH) (Zaa (Zak ZaH) (Zac (Zad .i64))))) (a:=⟨.exit 0,[],Zbs⟩) (b:=⟨.ret,[4],(Zac (ZaA))⟩) (step:=Zh7) g44 rfl rfl ZaC (fun x=>by kernel_rfl)
def s44:Spec:=Zar (Zaa (Zap ZaH) (Zac (Zap ZaH))) (Zat (ZaA)) Zu1
theorem ok44:Zaq Tryz.prog 44 s44 :=
 Zai (V:=e44) (L:=(Zay [(4,ZBE)])) (rounds:=20) (depth:=6) g44 (ZaV (nt:=85) (by kernel_rfl) (Zbd (by kernel_rfl)) (Zaw ZCT ZaE)) (fun x=>by kernel_rfl)
def e125:Env:=env1 []
theorem g125:Zaj e125:=Zan mix1 ent1 Zag
def ZzJ:LSpec:=ZbL [0,3,4] (Zaa (Zau .entry) (Zaa (ZaM 137 .entry) (Zac (Zad .i64)))) (⟨.exit 0,[3],(Zac (ZaM 137 .entry))⟩:Way) (Zav Zf4)
theorem ZAC:LoopOK e125 27 ZzJ (ZaU e125.P 125 3) :=
 Zba (L:=Zay []) (rounds:=20) (depth:=6) (ts:=[0,3,4]) (v:=(Zaa (Zau .entry) (Zaa (ZaM 137 .entry) (Zac (Zad .i64))))) (a:=⟨.exit 0,[3],(Zac (ZaM 137 .entry))⟩) (step:=Zf4) g125 rfl ZaC (fun x=>by kernel_rfl)
def s125:Spec:=Zar (Zac (Zau .entry)) (Zat (ZaM 137 .entry)) Zhs
theorem ZBR:Zaq Tryz.prog 125 s125 :=
 Zai (V:=e125) (L:=(Zay [(3,ZzJ)])) (rounds:=20) (depth:=6) g125 (ZaV (nt:=27) (by kernel_rfl) (Zbd (by kernel_rfl)) (Zaw ZAC ZaE)) (fun x=>by kernel_rfl)
def e79:Env:=env1 [(125,s125)]
theorem g79:Zaj e79:=Zan mix1 ent1 (Zab ZBR rfl Zag)
def ZCA:LSpec:=ZbL [1,2,3,4] (Zaa (Zak ZaB) (Zaa (Zak ZaB) (Zaa (Zak (Za8 (Zae (Za6 .int) (ZaJ 47 (.lst .entry))) Memo (fun y=>⟨y.1,y.2⟩) (fun x=>(x.words,x.boxes)) (fun _=>rfl))) (Zac (Zad .i64))))) (⟨.exit 0,[2,3],(Zaa (Zak ZaB) (Zac (Zak (Za8 (Zae (Za6 .int) (ZaJ 47 (.lst .entry))) Memo (fun y=>⟨y.1,y.2⟩) (fun x=>(x.words,x.boxes)) (fun _=>rfl)))))⟩:Way) (Zav ZgA)
theorem ZCR:LoopOK e79 27 ZCA (ZaU e79.P 79 3) :=
 Zba (L:=Zay []) (rounds:=20) (depth:=6) (ts:=[1,2,3,4]) (v:=(Zaa (Zak ZaB) (Zaa (Zak ZaB) (Zaa (Zak (Za8 (Zae (Za6 .int) (ZaJ 47 (.lst .entry))) Memo (fun y=>⟨y.1,y.2⟩) (fun x=>(x.words,x.boxes)) (fun _=>rfl))) (Zac (Zad .i64)))))) (a:=⟨.exit 0,[2,3],(Zaa (Zak ZaB) (Zac (Zak (Za8 (Zae (Za6 .int) (ZaJ 47 (.lst .entry))) Memo (fun y=>⟨y.1,y.2⟩) (fun x=>(x.words,x.boxes)) (fun _=>rfl)))))⟩) (step:=ZgA) g79 rfl ZaC (fun x=>by kernel_rfl)
def s79:Spec:=Zar (Zac (Zap ZaB)) (Zat (Zap ZaB)) ZlU
theorem ok79:Zaq Tryz.prog 79 s79 :=
 Zai (V:=e79) (L:=(Zay [(3,ZCA)])) (rounds:=20) (depth:=6) g79 (ZaV (nt:=27) (by kernel_rfl) (Zbd (by kernel_rfl)) (Zaw ZCR ZaE)) (fun x=>by kernel_rfl)
def e80:Env:=env1 []
theorem g80:Zaj e80:=Zan mix1 ent1 Zag
def ZBq:LSpec:=ZbL [0,3,4] (Zaa (Zau .mark) (Zaa (ZaM 162 .mark) (Zac (Zad .i64)))) (⟨.exit 0,[3],(Zac (ZaM 162 .mark))⟩:Way) (Zav ZgY)
theorem ZC5:LoopOK e80 42 ZBq (ZaU e80.P 80 3) :=
 Zba (L:=Zay []) (rounds:=20) (depth:=6) (ts:=[0,3,4]) (v:=(Zaa (Zau .mark) (Zaa (ZaM 162 .mark) (Zac (Zad .i64))))) (a:=⟨.exit 0,[3],(Zac (ZaM 162 .mark))⟩) (step:=ZgY) g80 rfl ZaC (fun x=>by kernel_rfl)
def s80:Spec:=Zar (Zac (Zau .mark)) (Zat (Zau .mark)) ZmO
theorem ok80:Zaq Tryz.prog 80 s80 :=
 Zai (V:=e80) (L:=(Zay [(3,ZBq)])) (rounds:=20) (depth:=6) g80 (ZaV (nt:=42) (by kernel_rfl) (Zbd (by kernel_rfl)) (Zaw ZC5 ZaE)) (fun x=>by kernel_rfl)
def e81:Env:=env1 [(125,s125)]
theorem g81:Zaj e81:=Zan mix1 ent1 (Zab ZBR rfl Zag)
def ZCh:LSpec:=ZbL [1,2,3,4] (Zaa (Zak Za0) (Zaa (Zak Za0) (Zaa (Zak (Za8 (Zae (Zao .i64) (Zae (Zao .i64) (Zae ZdN (Zae (Za6 .entry) (Zae (ZaJ 160 .kid) (Zae (Za6 .int) (Zae (Zao .i64) (Zae (Zao .i64) (Zae (Zao .i64) (Zae (Zao .i64) (Zae (Zao .i64) (Zae (Zao .i64) (Zae (Zao .i64) (Zae (Zao .i64) (Zae (Zao .i64) (Zao .i64)))))))))))))))) Thread (fun y=>⟨y.1,y.2.1,y.2.2.1,y.2.2.2.1,y.2.2.2.2.1,y.2.2.2.2.2.1,y.2.2.2.2.2.2.1,y.2.2.2.2.2.2.2.1,y.2.2.2.2.2.2.2.2.1,y.2.2.2.2.2.2.2.2.2.1,y.2.2.2.2.2.2.2.2.2.2.1,y.2.2.2.2.2.2.2.2.2.2.2.1,y.2.2.2.2.2.2.2.2.2.2.2.2.1,y.2.2.2.2.2.2.2.2.2.2.2.2.2.1,y.2.2.2.2.2.2.2.2.2.2.2.2.2.2.1,y.2.2.2.2.2.2.2.2.2.2.2.2.2.2.2⟩) (fun x=>(x.phase,(x.item,(x.op,(x.batch,(x.kids,(x.held,(x.stop,(x.node,(x.at_,(x.layer,(x.left,(x.width,(x.who,(x.x,(x.y,x.until_)))))))))))))))) (fun _=>rfl))) (Zac (Zad .i64))))) (⟨.exit 0,[2,3],(Zaa (Zak Za0) (Zac (Zak (Za8 (Zae (Zao .i64) (Zae (Zao .i64) (Zae ZdN (Zae (Za6 .entry) (Zae (ZaJ 160 .kid) (Zae (Za6 .int) (Zae (Zao .i64) (Zae (Zao .i64) (Zae (Zao .i64) (Zae (Zao .i64) (Zae (Zao .i64) (Zae (Zao .i64) (Zae (Zao .i64) (Zae (Zao .i64) (Zae (Zao .i64) (Zao .i64)))))))))))))))) Thread (fun y=>⟨y.1,y.2.1,y.2.2.1,y.2.2.2.1,y.2.2.2.2.1,y.2.2.2.2.2.1,y.2.2.2.2.2.2.1,y.2.2.2.2.2.2.2.1,y.2.2.2.2.2.2.2.2.1,y.2.2.2.2.2.2.2.2.2.1,y.2.2.2.2.2.2.2.2.2.2.1,y.2.2.2.2.2.2.2.2.2.2.2.1,y.2.2.2.2.2.2.2.2.2.2.2.2.1,y.2.2.2.2.2.2.2.2.2.2.2.2.2.1,y.2.2.2.2.2.2.2.2.2.2.2.2.2.2.1,y.2.2.2.2.2.2.2.2.2.2.2.2.2.2.2⟩) (fun x=>(x.phase,(x.item,(x.op,(x.batch,(x.kids,(x.held,(x.stop,(x.node,(x.at_,(x.layer,(x.left,(x.width,(x.who,(x.x,(x.y,x.until_)))))))))))))))) (fun _=>rfl)))))⟩:Way) (Zav Zg9)
theorem ZDp:LoopOK e81 55 ZCh (ZaU e81.P 81 3) :=
 Zba (L:=Zay []) (rounds:=20) (depth:=6) (ts:=[1,2,3,4]) (v:=(Zaa (Zak Za0) (Zaa (Zak Za0) (Zaa (Zak (Za8 (Zae (Zao .i64) (Zae (Zao .i64) (Zae ZdN (Zae (Za6 .entry) (Zae (ZaJ 160 .kid) (Zae (Za6 .int) (Zae (Zao .i64) (Zae (Zao .i64) (Zae (Zao .i64) (Zae (Zao .i64) (Zae (Zao .i64) (Zae (Zao .i64) (Zae (Zao .i64) (Zae (Zao .i64) (Zae (Zao .i64) (Zao .i64)))))))))))))))) Thread (fun y=>⟨y.1,y.2.1,y.2.2.1,y.2.2.2.1,y.2.2.2.2.1,y.2.2.2.2.2.1,y.2.2.2.2.2.2.1,y.2.2.2.2.2.2.2.1,y.2.2.2.2.2.2.2.2.1,y.2.2.2.2.2.2.2.2.2.1,y.2.2.2.2.2.2.2.2.2.2.1,y.2.2.2.2.2.2.2.2.2.2.2.1,y.2.2.2.2.2.2.2.2.2.2.2.2.1,y.2.2.2.2.2.2.2.2.2.2.2.2.2.1,y.2.2.2.2.2.2.2.2.2.2.2.2.2.2.1,y.2.2.2.2.2.2.2.2.2.2.2.2.2.2.2⟩) (fun x=>(x.phase,(x.item,(x.op,(x.batch,(x.kids,(x.held,(x.stop,(x.node,(x.at_,(x.layer,(x.left,(x.width,(x.who,(x.x,(x.y,x.until_)))))))))))))))) (fun _=>rfl))) (Zac (Zad .i64)))))) (a:=⟨.exit 0,[2,3],(Zaa (Zak Za0) (Zac (Zak (Za8 (Zae (Zao .i64) (Zae (Zao .i64) (Zae ZdN (Zae (Za6 .entry) (Zae (ZaJ 160 .kid) (Zae (Za6 .int) (Zae (Zao .i64) (Zae (Zao .i64) (Zae (Zao .i64) (Zae (Zao .i64) (Zae (Zao .i64) (Zae (Zao .i64) (Zae (Zao .i64) (Zae (Zao .i64) (Zae (Zao .i64) (Zao .i64)))))))))))))))) Thread (fun y=>⟨y.1,y.2.1,y.2.2.1,y.2.2.2.1,y.2.2.2.2.1,y.2.2.2.2.2.1,y.2.2.2.2.2.2.1,y.2.2.2.2.2.2.2.1,y.2.2.2.2.2.2.2.2.1,y.2.2.2.2.2.2.2.2.2.1,y.2.2.2.2.2.2.2.2.2.2.1,y.2.2.2.2.2.2.2.2.2.2.2.1,y.2.2.2.2.2.2.2.2.2.2.2.2.1,y.2.2.2.2.2.2.2.2.2.2.2.2.2.1,y.2.2.2.2.2.2.2.2.2.2.2.2.2.2.1,y.2.2.2.2.2.2.2.2.2.2.2.2.2.2.2⟩) (fun x=>(x.phase,(x.item,(x.op,(x.batch,(x.kids,(x.held,(x.stop,(x.node,(x.at_,(x.layer,(x.left,(x.width,(x.who,(x.x,(x.y,x.until_)))))))))))))))) (fun _=>rfl)))))⟩) (step:=Zg9) g81 rfl ZaC (fun x=>by kernel_rfl)
def s81:Spec:=Zar (Zac (Zap Za0)) (Zat (Zap Za0)) ZmX
theorem ok81:Zaq Tryz.prog 81 s81 :=
 Zai (V:=e81) (L:=(Zay [(3,ZCh)])) (rounds:=20) (depth:=6) g81 (ZaV (nt:=55) (by kernel_rfl) (Zbd (by kernel_rfl)) (Zaw ZDp ZaE)) (fun x=>by kernel_rfl)
def e45:Env:=env1 [(79,s79),(80,s80),(81,s81)]
theorem g45:Zaj e45:=Zan mix1 ent1 (Zab ok79 rfl (Zab ok80 rfl (Zab ok81 rfl Zag)))
def ZBX:LSpec:=ZbL [1,2,3,5] (Zaa (Zak ZaH) (Zaa (Zak ZaH) (Zaa (Zak (Za8 (Zae celConfig (Zae ZaB (Zae (ZaJ 50 .thread) (Zae (Zao .i64) (Zae (Zao .i64) (Zae Zbj (Zae (Za6 .mark) (ZaJ 144 .event)))))))) Wld (fun y=>⟨y.1,y.2.1,y.2.2.1,y.2.2.2.1,y.2.2.2.2.1,y.2.2.2.2.2.1,y.2.2.2.2.2.2.1,y.2.2.2.2.2.2.2⟩) (fun x=>(x.c,(x.m,(x.t,(x.now,(x.steps,(x.tape,(x.log,x.hist)))))))) (fun _=>rfl))) (Zac (Zad .i64))))) (⟨.exit 2,[2,3],(Zaa (Zak ZaH) (Zac (Zak (Za8 (Zae celConfig (Zae ZaB (Zae (ZaJ 50 .thread) (Zae (Zao .i64) (Zae (Zao .i64) (Zae Zbj (Zae (Za6 .mark) (ZaJ 144 .event)))))))) Wld (fun y=>⟨y.1,y.2.1,y.2.2.1,y.2.2.2.1,y.2.2.2.2.1,y.2.2.2.2.2.1,y.2.2.2.2.2.2.1,y.2.2.2.2.2.2.2⟩) (fun x=>(x.c,(x.m,(x.t,(x.now,(x.steps,(x.tape,(x.log,x.hist)))))))) (fun _=>rfl)))))⟩:Way) (Zav ZgL)
theorem ZCW:LoopOK e45 78 ZBX (ZaU e45.P 45 7) :=
 Zba (L:=Zay []) (rounds:=20) (depth:=6) (ts:=[1,2,3,5]) (v:=(Zaa (Zak ZaH) (Zaa (Zak ZaH) (Zaa (Zak (Za8 (Zae celConfig (Zae ZaB (Zae (ZaJ 50 .thread) (Zae (Zao .i64) (Zae (Zao .i64) (Zae Zbj (Zae (Za6 .mark) (ZaJ 144 .event)))))))) Wld (fun y=>⟨y.1,y.2.1,y.2.2.1,y.2.2.2.1,y.2.2.2.2.1,y.2.2.2.2.2.1,y.2.2.2.2.2.2.1,y.2.2.2.2.2.2.2⟩) (fun x=>(x.c,(x.m,(x.t,(x.now,(x.steps,(x.tape,(x.log,x.hist)))))))) (fun _=>rfl))) (Zac (Zad .i64)))))) (a:=⟨.exit 2,[2,3],(Zaa (Zak ZaH) (Zac (Zak (Za8 (Zae celConfig (Zae ZaB (Zae (ZaJ 50 .thread) (Zae (Zao .i64) (Zae (Zao .i64) (Zae Zbj (Zae (Za6 .mark) (ZaJ 144 .event)))))))) Wld (fun y=>⟨y.1,y.2.1,y.2.2.1,y.2.2.2.1,y.2.2.2.2.1,y.2.2.2.2.2.1,y.2.2.2.2.2.2.1,y.2.2.2.2.2.2.2⟩) (fun x=>(x.c,(x.m,(x.t,(x.now,(x.steps,(x.tape,(x.log,x.hist)))))))) (fun _=>rfl)))))⟩) (step:=ZgL) g45 rfl ZaC (fun x=>by kernel_rfl)
def ZB9:LSpec:=ZbL [1,2,3,4] (Zaa (Zak ZaH) (Zaa (Zak ZaH) (Zaa (Zak (Za8 (Zae celConfig (Zae ZaB (Zae (ZaJ 50 .thread) (Zae (Zao .i64) (Zae (Zao .i64) (Zae Zbj (Zae (Za6 .mark) (ZaJ 144 .event)))))))) Wld (fun y=>⟨y.1,y.2.1,y.2.2.1,y.2.2.2.1,y.2.2.2.2.1,y.2.2.2.2.2.1,y.2.2.2.2.2.2.1,y.2.2.2.2.2.2.2⟩) (fun x=>(x.c,(x.m,(x.t,(x.now,(x.steps,(x.tape,(x.log,x.hist)))))))) (fun _=>rfl))) (Zac (Zad .i64))))) (⟨.exit 0,[1,2,3],(Zaa (Zak ZaH) (Zaa (Zak ZaH) (Zac (Zak (Za8 (Zae celConfig (Zae ZaB (Zae (ZaJ 50 .thread) (Zae (Zao .i64) (Zae (Zao .i64) (Zae Zbj (Zae (Za6 .mark) (ZaJ 144 .event)))))))) Wld (fun y=>⟨y.1,y.2.1,y.2.2.1,y.2.2.2.1,y.2.2.2.2.1,y.2.2.2.2.2.1,y.2.2.2.2.2.2.1,y.2.2.2.2.2.2.2⟩) (fun x=>(x.c,(x.m,(x.t,(x.now,(x.steps,(x.tape,(x.log,x.hist)))))))) (fun _=>rfl))))))⟩:Way) (Zav ZgM)
theorem ZDB:LoopOK e45 78 ZB9 (ZaU e45.P 45 3) :=
 Zba (L:=Zay []) (rounds:=20) (depth:=6) (ts:=[1,2,3,4]) (v:=(Zaa (Zak ZaH) (Zaa (Zak ZaH) (Zaa (Zak (Za8 (Zae celConfig (Zae ZaB (Zae (ZaJ 50 .thread) (Zae (Zao .i64) (Zae (Zao .i64) (Zae Zbj (Zae (Za6 .mark) (ZaJ 144 .event)))))))) Wld (fun y=>⟨y.1,y.2.1,y.2.2.1,y.2.2.2.1,y.2.2.2.2.1,y.2.2.2.2.2.1,y.2.2.2.2.2.2.1,y.2.2.2.2.2.2.2⟩) (fun x=>(x.c,(x.m,(x.t,(x.now,(x.steps,(x.tape,(x.log,x.hist)))))))) (fun _=>rfl))) (Zac (Zad .i64)))))) (a:=⟨.exit 0,[1,2,3],(Zaa (Zak ZaH) (Zaa (Zak ZaH) (Zac (Zak (Za8 (Zae celConfig (Zae ZaB (Zae (ZaJ 50 .thread) (Zae (Zao .i64) (Zae (Zao .i64) (Zae Zbj (Zae (Za6 .mark) (ZaJ 144 .event)))))))) Wld (fun y=>⟨y.1,y.2.1,y.2.2.1,y.2.2.2.1,y.2.2.2.2.1,y.2.2.2.2.2.1,y.2.2.2.2.2.2.1,y.2.2.2.2.2.2.2⟩) (fun x=>(x.c,(x.m,(x.t,(x.now,(x.steps,(x.tape,(x.log,x.hist)))))))) (fun _=>rfl))))))⟩) (step:=ZgM) g45 rfl ZaC (fun x=>by kernel_rfl)
def s45:Spec:=Zar (Zac (Zap ZaH)) (Zat (Zap ZaH)) Zr4
theorem ok45:Zaq Tryz.prog 45 s45 :=
 Zai (V:=e45) (L:=(Zay [(7,ZBX),(3,ZB9)])) (rounds:=20) (depth:=6) g45 (ZaV (nt:=78) (by kernel_rfl) (Zbd (by kernel_rfl)) (Zaw ZCW (Zaw ZDB ZaE))) (fun x=>by kernel_rfl)
def e46:Env:=env1 [(33,s33)]
theorem g46:Zaj e46:=Zan mix1 ent1 (Zab ok33 rfl Zag)
def ZBN:LSpec:=ZbL [2,6,7,8] (Zaa (Zad .i64) (Zaa (Zau .thread) (Zaa (Zad .i64) (Zac (Zad .i64))))) (⟨.exit 0,[2],(Zac (Zad .i64))⟩:Way) (Zav Zil)
theorem ZCF:LoopOK e46 18 ZBN (ZaU e46.P 46 2) :=
 Zba (L:=Zay []) (rounds:=20) (depth:=6) (ts:=[2,6,7,8]) (v:=(Zaa (Zad .i64) (Zaa (Zau .thread) (Zaa (Zad .i64) (Zac (Zad .i64)))))) (a:=⟨.exit 0,[2],(Zac (Zad .i64))⟩) (step:=Zil) g46 rfl ZaC (fun x=>by kernel_rfl)
def s46:Spec:=Zar (Zac (Zap ZaH)) (Zat (Zad .i64)) ZuV
theorem ok46:Zaq Tryz.prog 46 s46 :=
 Zai (V:=e46) (L:=(Zay [(2,ZBN)])) (rounds:=20) (depth:=6) g46 (ZaV (nt:=18) (by kernel_rfl) (Zbd (by kernel_rfl)) (Zaw ZCF ZaE)) (fun x=>by kernel_rfl)
def e47:Env:=env1 [(82,s82)]
theorem g47:Zaj e47:=Zan mix1 ent1 (Zab ok82 rfl Zag)
def ZB4:LSpec:=ZbL [1,3,4] (Zaa (Zak ZaH) (Zaa (Zad .i64) (Zac (Zad .i64)))) (⟨.exit 0,[3],(Zac (Zad .i64))⟩:Way) (Zav Zib)
theorem ZDc:LoopOK e47 21 ZB4 (ZaU e47.P 47 3) :=
 Zba (L:=Zay []) (rounds:=20) (depth:=6) (ts:=[1,3,4]) (v:=(Zaa (Zak ZaH) (Zaa (Zad .i64) (Zac (Zad .i64))))) (a:=⟨.exit 0,[3],(Zac (Zad .i64))⟩) (step:=Zib) g47 rfl ZaC (fun x=>by kernel_rfl)
def s47:Spec:=Zar (Zac (Zap ZaH)) (Zat (Zad .i64)) ZtX
theorem ok47:Zaq Tryz.prog 47 s47 :=
 Zai (V:=e47) (L:=(Zay [(3,ZB4)])) (rounds:=20) (depth:=6) g47 (ZaV (nt:=21) (by kernel_rfl) (Zbd (by kernel_rfl)) (Zaw ZDc ZaE)) (fun x=>by kernel_rfl)
def e48:Env:=env1 [(24,s24),(34,s34),(35,s35)]
theorem g48:Zaj e48:=Zan mix1 ent1 (Zab ok24 rfl (Zab ok34 rfl (Zab ok35 rfl Zag)))
def ZyG:LSpec:=Zc7 [2,3,5,6,7,8] (Zaa (Zak celConfig) (Zaa (Zak ZaH) (Zaa (Zak celConfig) (Zaa (Zad .i64) (Zaa (Zad .i64) (Zac (Zad .i64))))))) (⟨.exit 2,[2,3,5,6,7],(Zaa (Zak celConfig) (Zaa (Zak ZaH) (Zaa (Zak celConfig) (Zaa (Zad .i64) (Zac (Zad .i64))))))⟩:Way) (⟨.ret,[4],(Zac (ZaA))⟩:Way) (Zav Zhh)
theorem ZwT:LoopOK e48 103 ZyG (ZaU e48.P 48 9) :=
 Zb5 (L:=Zay []) (rounds:=20) (depth:=6) (ts:=[2,3,5,6,7,8]) (v:=(Zaa (Zak celConfig) (Zaa (Zak ZaH) (Zaa (Zak celConfig) (Zaa (Zad .i64) (Zaa (Zad .i64) (Zac (Zad .i64)))))))) (a:=⟨.exit 2,[2,3,5,6,7],(Zaa (Zak celConfig) (Zaa (Zak ZaH) (Zaa (Zak celConfig) (Zaa (Zad .i64) (Zac (Zad .i64))))))⟩) (b:=⟨.ret,[4],(Zac (ZaA))⟩) (step:=Zhh) g48 rfl rfl ZaC (fun x=>by kernel_rfl)
def ZB2:LSpec:=Zc7 [2,3,5,6] (Zaa (Zak celConfig) (Zaa (Zak ZaH) (Zaa (Zak celConfig) (Zac (Zad .i64))))) (⟨.exit 0,[],Zbs⟩:Way) (⟨.ret,[4],(Zac (ZaA))⟩:Way) (Zav Zhc)
theorem ZDv:LoopOK e48 103 ZB2 (ZaU e48.P 48 5) :=
 Zb5 (L:=Zay [(9,ZyG)]) (rounds:=20) (depth:=6) (ts:=[2,3,5,6]) (v:=(Zaa (Zak celConfig) (Zaa (Zak ZaH) (Zaa (Zak celConfig) (Zac (Zad .i64)))))) (a:=⟨.exit 0,[],Zbs⟩) (b:=⟨.ret,[4],(Zac (ZaA))⟩) (step:=Zhc) g48 rfl rfl (Zmf (by kernel_rfl) (Zaw ZwT ZaE)) (fun x=>by kernel_rfl)
def s48:Spec:=Zar (Zaa (Zap celConfig) (Zac (Zap ZaH))) (Zat (ZaA)) Ztf
theorem ok48:Zaq Tryz.prog 48 s48 :=
 Zai (V:=e48) (L:=(Zay [(9,ZyG),(5,ZB2)])) (rounds:=20) (depth:=6) g48 (ZaV (nt:=103) (by kernel_rfl) (Zbd (by kernel_rfl)) (Zaw ZwT (Zaw ZDv ZaE))) (fun x=>by kernel_rfl)
def e49:Env:=env1 [(24,s24)]
theorem g49:Zaj e49:=Zan mix1 ent1 (Zab ok24 rfl Zag)
def Zuq:LSpec:=Zc7 [2,3,5,6,8,9,10,11] (Zaa (Zak celConfig) (Zaa (Zak ZaH) (Zaa (Zad .i64) (Zaa (ZaM 74 .mark) (Zaa (Zad .i64) (Zaa (ZaA) (Zaa (Zak ZkF) (Zac (Zad .i64))))))))) (⟨.exit 4,[2,3,5,6,8,9,10],(Zaa (Zak celConfig) (Zaa (Zak ZaH) (Zaa (Zad .i64) (Zaa (ZaM 74 .mark) (Zaa (Zad .i64) (Zaa (ZaA) (Zac (Zak ZkF))))))))⟩:Way) (⟨.ret,[4],(Zac (ZaA))⟩:Way) (Zav Zfs)
theorem ZuS:LoopOK e49 213 Zuq (ZaU e49.P 49 16) :=
 Zb5 (L:=Zay []) (rounds:=20) (depth:=6) (ts:=[2,3,5,6,8,9,10,11]) (v:=(Zaa (Zak celConfig) (Zaa (Zak ZaH) (Zaa (Zad .i64) (Zaa (ZaM 74 .mark) (Zaa (Zad .i64) (Zaa (ZaA) (Zaa (Zak ZkF) (Zac (Zad .i64)))))))))) (a:=⟨.exit 4,[2,3,5,6,8,9,10],(Zaa (Zak celConfig) (Zaa (Zak ZaH) (Zaa (Zad .i64) (Zaa (ZaM 74 .mark) (Zaa (Zad .i64) (Zaa (ZaA) (Zac (Zak ZkF))))))))⟩) (b:=⟨.ret,[4],(Zac (ZaA))⟩) (step:=Zfs) g49 rfl rfl ZaC (fun x=>by kernel_rfl)
def ZxA:LSpec:=ZbL [2,3,5,6,7] (Zaa (Zak celConfig) (Zaa (Zak ZaH) (Zaa (Zad .i64) (Zaa (ZaM 74 .mark) (Zac (Zad .i64)))))) (⟨.exit 2,[2,3,5,6],(Zaa (Zak celConfig) (Zaa (Zak ZaH) (Zaa (Zad .i64) (Zac (ZaM 74 .mark)))))⟩:Way) (Zav Zf3)
theorem ZwQ:LoopOK e49 213 ZxA (ZaU e49.P 49 8) :=
 Zba (L:=Zay []) (rounds:=20) (depth:=6) (ts:=[2,3,5,6,7]) (v:=(Zaa (Zak celConfig) (Zaa (Zak ZaH) (Zaa (Zad .i64) (Zaa (ZaM 74 .mark) (Zac (Zad .i64))))))) (a:=⟨.exit 2,[2,3,5,6],(Zaa (Zak celConfig) (Zaa (Zak ZaH) (Zaa (Zad .i64) (Zac (ZaM 74 .mark)))))⟩) (step:=Zf3) g49 rfl ZaC (fun x=>by kernel_rfl)
def ZB8:LSpec:=Zc7 [2,3,5] (Zaa (Zak celConfig) (Zaa (Zak ZaH) (Zac (Zad .i64)))) (⟨.exit 0,[],Zbs⟩:Way) (⟨.ret,[4],(Zac (ZaA))⟩:Way) (Zav Zf1)
theorem ZCJ:LoopOK e49 213 ZB8 (ZaU e49.P 49 4) :=
 Zb5 (L:=Zay [(16,Zuq),(8,ZxA)]) (rounds:=20) (depth:=6) (ts:=[2,3,5]) (v:=(Zaa (Zak celConfig) (Zaa (Zak ZaH) (Zac (Zad .i64))))) (a:=⟨.exit 0,[],Zbs⟩) (b:=⟨.ret,[4],(Zac (ZaA))⟩) (step:=Zf1) g49 rfl rfl (Zmf (by kernel_rfl) (Zaw ZuS (Zaw ZwQ ZaE))) (fun x=>by kernel_rfl)
def s49:Spec:=Zar (Zaa (Zap celConfig) (Zac (Zap ZaH))) (Zat (ZaA)) Zqi
theorem ok49:Zaq Tryz.prog 49 s49 :=
 Zai (V:=e49) (L:=(Zay [(16,Zuq),(8,ZxA),(4,ZB8)])) (rounds:=20) (depth:=6) g49 (ZaV (nt:=213) (by kernel_rfl) (Zbd (by kernel_rfl)) (Zaw ZuS (Zaw ZwQ (Zaw ZCJ ZaE)))) (fun x=>by kernel_rfl)
def e55:Env:=env1 []
theorem g55:Zaj e55:=Zan mix1 ent1 Zag
def s55:Spec:=Zar (Zac (Zap Zas)) (Zat (Zap Zas)) Zfj
theorem ok55:Zaq Tryz.prog 55 s55 :=
 Zai (V:=e55) (L:=nL) (rounds:=20) (depth:=6) g55 Zam (fun x=>by kernel_rfl)
def e85:Env:=env1 []
theorem g85:Zaj e85:=Zan mix1 ent1 Zag
def s85:Spec:=Zar (Zac (Zau .int)) (Zat (ZaM 3 .int)) Zbz
theorem ok85:Zaq Tryz.prog 85 s85 :=
 Zpx (V:=e85) (L:=nL) (rounds:=20) (depth:=6) (r:=(Zat (ZaM 3 .int))) g85 Zam (by kernel_rfl) (fun x=>by kernel_rfl)
def e154:Env:=env1 []
theorem g154:Zaj e154:=Zan mix1 ent1 Zag
def s154:Spec:=Zar (Zaa (Zau .int) (Zac (Zad .i64))) (Zbk (Zaa (Zad .i64) (Zac (Zad .i64)))) ZbD
theorem ZtI:Zaq Tryz.prog 154 s154 :=
 Zai (V:=e154) (L:=nL) (rounds:=20) (depth:=6) g154 Zam (fun x=>by kernel_rfl)
def e95:Env:=env1 [(85,s85),(154,s154)]
theorem g95:Zaj e95:=Zan mix1 ent1 (Zab ok85 rfl (Zab ZtI rfl Zag))
def s95:Spec:=Zar (Zaa (Zap ZaB) (Zaa (Zad .i64) (Zac (Zad .i64)))) (Zbk (Zaa (Zap ZaB) (Zac (Zad .i64)))) Zb4
theorem ok95:Zaq Tryz.prog 95 s95 :=
 Zai (V:=e95) (L:=nL) (rounds:=20) (depth:=6) g95 Zam (fun x=>by kernel_rfl)
def e96:Env:=env1 [(120,s120)]
theorem g96:Zaj e96:=Zan mix1 ent1 (Zab Zoa rfl Zag)
def s96:Spec:=Zar (Zaa (Zap celConfig) (Zac (Zad .i64))) (Zat (Zad .i64)) ZcX
theorem ok96:Zaq Tryz.prog 96 s96 :=
 Zai (V:=e96) (L:=nL) (rounds:=20) (depth:=6) g96 Zam (fun x=>by kernel_rfl)
def e63:Env:=env1 [(55,s55),(95,s95),(96,s96)]
theorem g63:Zaj e63:=Zan mix1 ent1 (Zab ok55 rfl (Zab ok95 rfl (Zab ok96 rfl Zag)))
def s63:Spec:=Zar (Zac (Zap Zas)) (Zbk (Zaa (Zap Zas) (Zac (ZaA)))) Zhy
theorem ok63:Zaq Tryz.prog 63 s63 :=
 Zai (V:=e63) (L:=nL) (rounds:=20) (depth:=6) g63 Zam (fun x=>by kernel_rfl)
def e105:Env:=env1 [(120,s120),(148,s148)]
theorem g105:Zaj e105:=Zan mix1 ent1 (Zab Zoa rfl (Zab ZBG rfl Zag))
def s105:Spec:=Zar (Zaa (Zap celConfig) (Zaa (Zad .i64) (Zac (Zad .i64)))) (Zat (Zad .i64)) Zd7
theorem Zym:Zaq Tryz.prog 105 s105 :=
 Zai (V:=e105) (L:=nL) (rounds:=20) (depth:=6) g105 Zam (fun x=>by kernel_rfl)
def e150:Env:=env1 []
theorem g150:Zaj e150:=Zan mix1 ent1 Zag
def s150:Spec:=Zar (Zac (Zap Zxj)) (Zat (Zad .i64)) ZbP
theorem ZqL:Zaq Tryz.prog 150 s150 :=
 Zai (V:=e150) (L:=nL) (rounds:=20) (depth:=6) g150 Zam (fun x=>by kernel_rfl)
def e106:Env:=env1 [(150,s150)]
theorem g106:Zaj e106:=Zan mix1 ent1 (Zab ZqL rfl Zag)
def s106:Spec:=Zar (Zac (Zad .i64)) (Zat (Zad .i64)) Zev
theorem Zyz:Zaq Tryz.prog 106 s106 :=
 Zai (V:=e106) (L:=nL) (rounds:=20) (depth:=6) g106 Zam (fun x=>by kernel_rfl)
def e151:Env:=env1 []
theorem g151:Zaj e151:=Zan mix1 ent1 Zag
def s151:Spec:=Zar (Zac (Zad .i64)) (Zat (Zad .i64)) Zii
theorem ZEY:Zaq Tryz.prog 151 s151 :=
 Zai (V:=e151) (L:=nL) (rounds:=20) (depth:=6) g151 Zam (fun x=>by kernel_rfl)
def e181:Env:=env1 []
theorem g181:Zaj e181:=Zan mix1 ent1 Zag
def s181:Spec:=Zar (Zac (Zap Zas)) (Zat (Zap Zas)) Zfy
theorem ZBV:Zaq Tryz.prog 181 s181 :=
 Zai (V:=e181) (L:=nL) (rounds:=20) (depth:=6) g181 Zam (fun x=>by kernel_rfl)
def e152:Env:=env1 [(181,s181)]
theorem g152:Zaj e152:=Zan mix1 ent1 (Zab ZBV rfl Zag)
def s152:Spec:=Zar (Zac (Zap Zas)) (Zat (Zap Zas)) Zd0
theorem Zx2:Zaq Tryz.prog 152 s152 :=
 Zai (V:=e152) (L:=nL) (rounds:=20) (depth:=6) g152 Zam (fun x=>by kernel_rfl)
def e107:Env:=env1 [(85,s85),(151,s151),(152,s152)]
theorem g107:Zaj e107:=Zan mix1 ent1 (Zab ok85 rfl (Zab ZEY rfl (Zab Zx2 rfl Zag)))
def s107:Spec:=Zar (Zac (Zap Zas)) (Zat (Zap Zas)) Zjp
theorem ZFm:Zaq Tryz.prog 107 s107 :=
 Zai (V:=e107) (L:=nL) (rounds:=20) (depth:=6) g107 Zam (fun x=>by kernel_rfl)
def e109:Env:=env1 [(85,s85),(154,s154)]
theorem g109:Zaj e109:=Zan mix1 ent1 (Zab ok85 rfl (Zab ZtI rfl Zag))
def s109:Spec:=Zar (Zaa (Zap ZaB) (Zaa (Zad .i64) (Zaa (Zad .i64) (Zac (Zad .i64))))) (Zbk (Zaa (Zap ZaB) (Zaa (ZaA) (Zac (Zad .i64))))) ZcK
theorem ZtO:Zaq Tryz.prog 109 s109 :=
 Zai (V:=e109) (L:=nL) (rounds:=20) (depth:=6) g109 Zam (fun x=>by kernel_rfl)
def e110:Env:=env1 [(154,s154)]
theorem g110:Zaj e110:=Zan mix1 ent1 (Zab ZtI rfl Zag)
def s110:Spec:=Zar (Zaa (Zap ZaB) (Zac (Zad .i64))) (Zbk (Zaa (Zad .i64) (Zac (Zad .i64)))) Zca
theorem ZqA:Zaq Tryz.prog 110 s110 :=
 Zai (V:=e110) (L:=nL) (rounds:=20) (depth:=6) g110 Zam (fun x=>by kernel_rfl)
def e146:Env:=env1 []
theorem g146:Zaj e146:=Zan mix1 ent1 Zag
def s146:Spec:=Zar (Zac (Zap Zas)) (Zat (ZaA)) Zdy
theorem Zxw:Zaq Tryz.prog 146 s146 :=
 Zai (V:=e146) (L:=nL) (rounds:=20) (depth:=6) g146 Zam (fun x=>by kernel_rfl)
def e182:Env:=env1 []
theorem g182:Zaj e182:=Zan mix1 ent1 Zag
def s182:Spec:=Zar (Zac (Zad .i64)) (Zat (Zap Zxj)) ZiW
theorem ZBW:Zaq Tryz.prog 182 s182 :=
 Zai (V:=e182) (L:=nL) (rounds:=20) (depth:=6) g182 Zam (fun x=>by kernel_rfl)
def e155:Env:=env1 [(182,s182)]
theorem g155:Zaj e155:=Zan mix1 ent1 (Zab ZBW rfl Zag)
def s155:Spec:=Zar (Zac (Zad .i64)) (Zat (Zad .i64)) Zgl
theorem ZB7:Zaq Tryz.prog 155 s155 :=
 Zai (V:=e155) (L:=nL) (rounds:=20) (depth:=6) g155 Zam (fun x=>by kernel_rfl)
def e111:Env:=env1 [(146,s146),(152,s152),(155,s155)]
theorem g111:Zaj e111:=Zan mix1 ent1 (Zab Zxw rfl (Zab Zx2 rfl (Zab ZB7 rfl Zag)))
def s111:Spec:=Zar (Zaa (Zap Zas) (Zac (Zad .i64))) (Zat (Zap Zas)) ZkO
theorem ZFq:Zaq Tryz.prog 111 s111 :=
 Zai (V:=e111) (L:=nL) (rounds:=20) (depth:=6) g111 Zam (fun x=>by kernel_rfl)
def e112:Env:=env1 [(150,s150)]
theorem g112:Zaj e112:=Zan mix1 ent1 (Zab ZqL rfl Zag)
def s112:Spec:=Zar (Zac (Zad .i64)) (Zat (Zad .i64)) Zjl
theorem ZFn:Zaq Tryz.prog 112 s112 :=
 Zai (V:=e112) (L:=nL) (rounds:=20) (depth:=6) g112 Zam (fun x=>by kernel_rfl)
def e113:Env:=env1 [(152,s152)]
theorem g113:Zaj e113:=Zan mix1 ent1 (Zab Zx2 rfl Zag)
def s113:Spec:=Zar (Zac (Zap Zas)) (Zat (Zap Zas)) Zin
theorem ZEg:Zaq Tryz.prog 113 s113 :=
 Zai (V:=e113) (L:=nL) (rounds:=20) (depth:=6) g113 Zam (fun x=>by kernel_rfl)
def e66:Env:=env1 [(105,s105),(106,s106),(107,s107),(109,s109),(110,s110),(111,s111),(112,s112),(113,s113)]
theorem g66:Zaj e66:=Zan mix1 ent1 (Zab Zym rfl (Zab Zyz rfl (Zab ZFm rfl (Zab ZtO rfl (Zab ZqA rfl (Zab ZFq rfl (Zab ZFn rfl (Zab ZEg rfl Zag))))))))
def s66:Spec:=Zar (Zac (Zap Zas)) (Zbk (Zaa (Zap Zas) (Zac (ZaA)))) Zj0
theorem ok66:Zaq Tryz.prog 66 s66 :=
 Zai (V:=e66) (L:=nL) (rounds:=20) (depth:=6) g66 Zam (fun x=>by kernel_rfl)
def e183:Env:=env1 [(105,s105)]
theorem g183:Zaj e183:=Zan mix1 ent1 (Zab Zym rfl Zag)
def s183:Spec:=Zar (Zac (Zap Zas)) (Zat (Zad .i64)) Ze1
theorem ZyD:Zaq Tryz.prog 183 s183 :=
 Zai (V:=e183) (L:=nL) (rounds:=20) (depth:=6) g183 Zam (fun x=>by kernel_rfl)
def e184:Env:=env1 [(182,s182)]
theorem g184:Zaj e184:=Zan mix1 ent1 (Zab ZBW rfl Zag)
def s184:Spec:=Zar (Zac (Zad .i64)) (Zat (Zad .i64)) Zl8
theorem ZED:Zaq Tryz.prog 184 s184 :=
 Zai (V:=e184) (L:=nL) (rounds:=20) (depth:=6) g184 Zam (fun x=>by kernel_rfl)
def e156:Env:=env1 [(106,s106),(110,s110),(155,s155),(183,s183),(184,s184)]
theorem g156:Zaj e156:=Zan mix1 ent1 (Zab Zyz rfl (Zab ZqA rfl (Zab ZB7 rfl (Zab ZyD rfl (Zab ZED rfl Zag)))))
def s156:Spec:=Zar (Zac (Zap Zas)) (Zat (Zap Zas)) Zjs
theorem ZEb:Zaq Tryz.prog 156 s156 :=
 Zai (V:=e156) (L:=nL) (rounds:=20) (depth:=6) g156 Zam (fun x=>by kernel_rfl)
def e187:Env:=env1 [(181,s181)]
theorem g187:Zaj e187:=Zan mix1 ent1 (Zab ZBV rfl Zag)
def s187:Spec:=Zar (Zac (Zap Zas)) (Zat (Zap Zas)) Zgt
theorem ZBJ:Zaq Tryz.prog 187 s187 :=
 Zai (V:=e187) (L:=nL) (rounds:=20) (depth:=6) g187 Zam (fun x=>by kernel_rfl)
def e157:Env:=env1 [(106,s106),(109,s109),(183,s183),(187,s187)]
theorem g157:Zaj e157:=Zan mix1 ent1 (Zab Zyz rfl (Zab ZtO rfl (Zab ZyD rfl (Zab ZBJ rfl Zag))))
def s157:Spec:=Zar (Zac (Zap Zas)) (Zat (Zap Zas)) Zjt
theorem ZEr:Zaq Tryz.prog 157 s157 :=
 Zai (V:=e157) (L:=nL) (rounds:=20) (depth:=6) g157 Zam (fun x=>by kernel_rfl)
def e180:Env:=env1 []
theorem g180:Zaj e180:=Zan mix1 ent1 Zag
def s180:Spec:=Zar (Zac (Zau .entry)) (Zat (ZaM 135 .entry)) Zbr
theorem ZyE:Zaq Tryz.prog 180 s180 :=
 Zpx (V:=e180) (L:=nL) (rounds:=20) (depth:=6) (r:=(Zat (ZaM 135 .entry))) g180 Zam (by kernel_rfl) (fun x=>by kernel_rfl)
def e227:Env:=env1 []
theorem g227:Zaj e227:=Zan mix1 ent1 Zag
def s227:Spec:=Zar (Zaa (Zau (.lst .entry)) (Zac (Zad .i64))) (Zbk (Zaa (Zau .entry) (Zac (Zad .i64)))) Zcg
theorem ZBU:Zaq Tryz.prog 227 s227 :=
 Zai (V:=e227) (L:=nL) (rounds:=20) (depth:=6) g227 Zam (fun x=>by kernel_rfl)
def e188:Env:=env1 [(180,s180),(227,s227)]
theorem g188:Zaj e188:=Zan mix1 ent1 (Zab ZyE rfl (Zab ZBU rfl Zag))
def s188:Spec:=Zar (Zaa (Zap ZaB) (Zac (Zad .i64))) (Zbk (Zaa (Zau .entry) (Zac (Zad .i64)))) ZhR
theorem ZCw:Zaq Tryz.prog 188 s188 :=
 Zai (V:=e188) (L:=nL) (rounds:=20) (depth:=6) g188 Zam (fun x=>by kernel_rfl)
def e244:Env:=ZBT []
theorem g244:Zaj e244:=Zan mix1 ent1 Zag
def s244:Spec:=Zar (Zaa (Zy5) (Zac (Zad .i64))) (Zat (ZaM 163 .kid)) ZdZ
theorem ZFi:Zaq Tryz.prog 244 s244 :=
 Zai (V:=e244) (L:=nL) (rounds:=20) (depth:=6) g244 Zam (fun x=>by kernel_rfl)
def e228:Env:=env1 [(244,s244)]
theorem g228:Zaj e228:=Zan mix1 ent1 (Zab ZFi rfl Zag)
def Zxi:LSpec:=ZbL [6,25,26,27] (Zaa (ZaM 163 .kid) (Zaa (Zau (.lst .kid)) (Zaa (Zad .i64) (Zac (Zad .i64))))) (⟨.exit 2,[6],(Zac (ZaM 163 .kid))⟩:Way) (Zav ZbJ)
theorem ZzV:LoopOK e228 36 Zxi (ZaU e228.P 228 11) :=
 Zba (L:=Zay []) (rounds:=20) (depth:=6) (ts:=[6,25,26,27]) (v:=(Zaa (ZaM 163 .kid) (Zaa (Zau (.lst .kid)) (Zaa (Zad .i64) (Zac (Zad .i64)))))) (a:=⟨.exit 2,[6],(Zac (ZaM 163 .kid))⟩) (step:=ZbJ) g228 rfl ZaC (fun x=>by kernel_rfl)
def ZzL:LSpec:=ZbL [0,3,9,10,11] (Zaa (Zau (.lst .kid)) (Zaa (Zad .i64) (Zaa (Zau (.lst .kid)) (Zaa (Zad .i64) (Zac (Zad .i64)))))) (⟨.exit 0,[0,3],(Zaa (Zau (.lst .kid)) (Zac (Zad .i64)))⟩:Way) (Zav ZbM)
theorem ZBj:LoopOK e228 36 ZzL (ZaU e228.P 228 3) :=
 Zba (L:=Zay []) (rounds:=20) (depth:=6) (ts:=[0,3,9,10,11]) (v:=(Zaa (Zau (.lst .kid)) (Zaa (Zad .i64) (Zaa (Zau (.lst .kid)) (Zaa (Zad .i64) (Zac (Zad .i64))))))) (a:=⟨.exit 0,[0,3],(Zaa (Zau (.lst .kid)) (Zac (Zad .i64)))⟩) (step:=ZbM) g228 rfl ZaC (fun x=>by kernel_rfl)
def s228:Spec:=Zar (Zac (Zau (.lst .kid))) (Zat (ZaM 163 .kid)) ZdD
theorem ZEU:Zaq Tryz.prog 228 s228 :=
 Zai (V:=e228) (L:=(Zay [(11,Zxi),(3,ZzL)])) (rounds:=20) (depth:=6) g228 (ZaV (nt:=36) (by kernel_rfl) (Zbd (by kernel_rfl)) (Zaw ZzV (Zaw ZBj ZaE))) (fun x=>by kernel_rfl)
def e248:Env:=ZBT []
theorem g248:Zaj e248:=Zan mix1 ent1 Zag
def s248:Spec:=Zar (Zaa (Zy5) (Zac (Zad .i64))) (Zat (ZaM 135 .entry)) ZdP
theorem ZEL:Zaq Tryz.prog 248 s248 :=
 Zai (V:=e248) (L:=nL) (rounds:=20) (depth:=6) g248 Zam (fun x=>by kernel_rfl)
def e245:Env:=env1 [(248,s248)]
theorem g245:Zaj e245:=Zan mix1 ent1 (Zab ZEL rfl Zag)
def Zxq:LSpec:=ZbL [6,25,26,27] (Zaa (ZaM 135 .entry) (Zaa (Zau (.lst .entry)) (Zaa (Zad .i64) (Zac (Zad .i64))))) (⟨.exit 2,[6],(Zac (ZaM 135 .entry))⟩:Way) (Zav ZbC)
theorem Zzu:LoopOK e245 36 Zxq (ZaU e245.P 245 11) :=
 Zba (L:=Zay []) (rounds:=20) (depth:=6) (ts:=[6,25,26,27]) (v:=(Zaa (ZaM 135 .entry) (Zaa (Zau (.lst .entry)) (Zaa (Zad .i64) (Zac (Zad .i64)))))) (a:=⟨.exit 2,[6],(Zac (ZaM 135 .entry))⟩) (step:=ZbC) g245 rfl ZaC (fun x=>by kernel_rfl)
def Zzo:LSpec:=ZbL [0,3,9,10,11] (Zaa (Zau (.lst .entry)) (Zaa (Zad .i64) (Zaa (Zau (.lst .entry)) (Zaa (Zad .i64) (Zac (Zad .i64)))))) (⟨.exit 0,[0,3],(Zaa (Zau (.lst .entry)) (Zac (Zad .i64)))⟩:Way) (Zav ZbK)
theorem ZBk:LoopOK e245 36 Zzo (ZaU e245.P 245 3) :=
 Zba (L:=Zay []) (rounds:=20) (depth:=6) (ts:=[0,3,9,10,11]) (v:=(Zaa (Zau (.lst .entry)) (Zaa (Zad .i64) (Zaa (Zau (.lst .entry)) (Zaa (Zad .i64) (Zac (Zad .i64))))))) (a:=⟨.exit 0,[0,3],(Zaa (Zau (.lst .entry)) (Zac (Zad .i64)))⟩) (step:=ZbK) g245 rfl ZaC (fun x=>by kernel_rfl)
def s245:Spec:=Zar (Zac (Zau (.lst .entry))) (Zat (ZaM 135 .entry)) Zdg
theorem ZET:Zaq Tryz.prog 245 s245 :=
 Zai (V:=e245) (L:=(Zay [(11,Zxq),(3,Zzo)])) (rounds:=20) (depth:=6) g245 (ZaV (nt:=36) (by kernel_rfl) (Zbd (by kernel_rfl)) (Zaw Zzu (Zaw ZBk ZaE))) (fun x=>by kernel_rfl)
def e229:Env:=env1 [(245,s245)]
theorem g229:Zaj e229:=Zan mix1 ent1 (Zab ZET rfl Zag)
def s229:Spec:=Zar (Zac (Zau (.lst .entry))) (Zat (Zau .entry)) ZkH
theorem ZE9:Zaq Tryz.prog 229 s229 :=
 Zai (V:=e229) (L:=nL) (rounds:=20) (depth:=6) g229 Zam (fun x=>by kernel_rfl)
def e190:Env:=env1 [(228,s228),(229,s229)]
theorem g190:Zaj e190:=Zan mix1 ent1 (Zab ZEU rfl (Zab ZE9 rfl Zag))
def s190:Spec:=Zar (Zaa (Zap Zas) (Zaa (Zad .i64) (Zac (Zau .entry)))) (Zat (Zap Zas)) Ze0
theorem ZCl:Zaq Tryz.prog 190 s190 :=
 Zai (V:=e190) (L:=nL) (rounds:=20) (depth:=6) g190 Zam (fun x=>by kernel_rfl)
def e158:Env:=env1 [(188,s188),(190,s190)]
theorem g158:Zaj e158:=Zan mix1 ent1 (Zab ZCw rfl (Zab ZCl rfl Zag))
def s158:Spec:=Zar (Zac (Zap Zas)) (Zat (Zap Zas)) ZgI
theorem ZFz:Zaq Tryz.prog 158 s158 :=
 Zai (V:=e158) (L:=nL) (rounds:=20) (depth:=6) g158 Zam (fun x=>by kernel_rfl)
def e159:Env:=env1 [(95,s95),(183,s183),(187,s187)]
theorem g159:Zaj e159:=Zan mix1 ent1 (Zab ok95 rfl (Zab ZyD rfl (Zab ZBJ rfl Zag)))
def s159:Spec:=Zar (Zac (Zap Zas)) (Zat (Zap Zas)) Zjg
theorem ZEv:Zaq Tryz.prog 159 s159 :=
 Zai (V:=e159) (L:=nL) (rounds:=20) (depth:=6) g159 Zam (fun x=>by kernel_rfl)
def e230:Env:=env1 []
theorem g230:Zaj e230:=Zan mix1 ent1 Zag
def s230:Spec:=Zar (Zac (Zau (.lst .entry))) (Zat (ZaM 30 (.lst .entry))) Zdn
theorem ZFx:Zaq Tryz.prog 230 s230 :=
 Zpx (V:=e230) (L:=nL) (rounds:=20) (depth:=6) (r:=(Zat (ZaM 30 (.lst .entry)))) g230 Zam (by kernel_rfl) (fun x=>by kernel_rfl)
def e191:Env:=env1 [(180,s180),(227,s227),(230,s230)]
theorem g191:Zaj e191:=Zan mix1 ent1 (Zab ZyE rfl (Zab ZBU rfl (Zab ZFx rfl Zag)))
def s191:Spec:=Zar (Zaa (Zap ZaB) (Zaa (Zad .i64) (Zac (Zau .entry)))) (Zbk (Zaa (Zap ZaB) (Zac (Zad .i64)))) Zht
theorem ZCd:Zaq Tryz.prog 191 s191 :=
 Zai (V:=e191) (L:=nL) (rounds:=20) (depth:=6) g191 Zam (fun x=>by kernel_rfl)
def e160:Env:=env1 [(191,s191)]
theorem g160:Zaj e160:=Zan mix1 ent1 (Zab ZCd rfl Zag)
def s160:Spec:=Zar (Zac (Zap Zas)) (Zat (Zap Zas)) Zgz
theorem ZEX:Zaq Tryz.prog 160 s160 :=
 Zai (V:=e160) (L:=nL) (rounds:=20) (depth:=6) g160 Zam (fun x=>by kernel_rfl)
def e192:Env:=env1 [(150,s150)]
theorem g192:Zaj e192:=Zan mix1 ent1 (Zab ZqL rfl Zag)
def s192:Spec:=Zar (Zac (Zad .i64)) (Zat (Zad .i64)) ZgE
theorem ZEk:Zaq Tryz.prog 192 s192 :=
 Zai (V:=e192) (L:=nL) (rounds:=20) (depth:=6) g192 Zam (fun x=>by kernel_rfl)
def e161:Env:=env1 [(95,s95),(105,s105),(192,s192)]
theorem g161:Zaj e161:=Zan mix1 ent1 (Zab ok95 rfl (Zab Zym rfl (Zab ZEk rfl Zag)))
def s161:Spec:=Zar (Zac (Zap Zas)) (Zat (Zap Zas)) ZgK
theorem ZEh:Zaq Tryz.prog 161 s161 :=
 Zai (V:=e161) (L:=nL) (rounds:=20) (depth:=6) g161 Zam (fun x=>by kernel_rfl)
def e67:Env:=env1 [(156,s156),(157,s157),(158,s158),(159,s159),(160,s160),(161,s161)]
theorem g67:Zaj e67:=Zan mix1 ent1 (Zab ZEb rfl (Zab ZEr rfl (Zab ZFz rfl (Zab ZEv rfl (Zab ZEX rfl (Zab ZEh rfl Zag))))))
def s67:Spec:=Zar (Zac (Zap Zas)) (Zbk (Zaa (Zap Zas) (Zac (ZaA)))) Zjq
theorem ok67:Zaq Tryz.prog 67 s67 :=
 Zai (V:=e67) (L:=nL) (rounds:=20) (depth:=6) g67 Zam (fun x=>by kernel_rfl)
def e83:Env:=env1 []
theorem g83:Zaj e83:=Zan mix1 ent1 Zag
def ZBy:LSpec:=Zc7 [1,29,30] (Zaa (Zak celConfig) (Zaa (Zap (Zae (Zao .i64) (Zae (Zao .i64) (Zae (Zao .i64) (Zae (Zao .i64) (Zae (Zao .i64) (Zae (Zao .i64) (Zae (Zao .i64) (Zae (Zao .i64) (Zae (Zao .i64) (Zae (Zao .i64) (Zae (Zao .i64) (Zae (Zao .i64) (Zae (Zao .i64) (Zae (Zao .i64) (Zae (Zao .i64) (Zae (Zao .i64) (Zae (Zao .i64) (Zae (Zao .i64) (Zae (Zao .i64) (Zae (Zao .i64) (Zae (Zao .i64) (Zae (Zao .i64) (Zae (Zao .i64) (Zao .i64))))))))))))))))))))))))) (Zac (Zad .i64)))) (⟨.exit 0,[1],(Zac (Zak celConfig))⟩:Way) (⟨.ret,[2],(Zac (Zad .i64))⟩:Way) (Zav Zd6)
theorem ZCQ:LoopOK e83 65 ZBy (ZaU e83.P 83 2) :=
 Zb5 (L:=Zay []) (rounds:=20) (depth:=6) (ts:=[1,29,30]) (v:=(Zaa (Zak celConfig) (Zaa (Zap (Zae (Zao .i64) (Zae (Zao .i64) (Zae (Zao .i64) (Zae (Zao .i64) (Zae (Zao .i64) (Zae (Zao .i64) (Zae (Zao .i64) (Zae (Zao .i64) (Zae (Zao .i64) (Zae (Zao .i64) (Zae (Zao .i64) (Zae (Zao .i64) (Zae (Zao .i64) (Zae (Zao .i64) (Zae (Zao .i64) (Zae (Zao .i64) (Zae (Zao .i64) (Zae (Zao .i64) (Zae (Zao .i64) (Zae (Zao .i64) (Zae (Zao .i64) (Zae (Zao .i64) (Zae (Zao .i64) (Zao .i64))))))))))))))))))))))))) (Zac (Zad .i64))))) (a:=⟨.exit 0,[1],(Zac (Zak celConfig))⟩) (b:=⟨.ret,[2],(Zac (Zad .i64))⟩) (step:=Zd6) g83 rfl rfl ZaC (fun x=>by kernel_rfl)
def s83:Spec:=Zar (Zac (Zap celConfig)) (Zat (Zad .i64)) ZeC
theorem ok83:Zaq Tryz.prog 83 s83 :=
 Zai (V:=e83) (L:=(Zay [(2,ZBy)])) (rounds:=20) (depth:=6) g83 (ZaV (nt:=65) (by kernel_rfl) (Zbd (by kernel_rfl)) (Zaw ZCQ ZaE)) (fun x=>by kernel_rfl)
def e129:Env:=env1 []
theorem g129:Zaj e129:=Zan mix1 ent1 Zag
def s129:Spec:=Zar (Zaa (Zad .i64) (Zac (Zad .i64))) (Zat (ZaA)) Zdt
theorem ZFu:Zaq Tryz.prog 129 s129 :=
 Zai (V:=e129) (L:=nL) (rounds:=20) (depth:=6) g129 Zam (fun x=>by kernel_rfl)
def e171:Env:=env1 []
theorem g171:Zaj e171:=Zan mix1 ent1 Zag
def s171:Spec:=Zar (Zac (Zad .i64)) (Zat (ZaA)) Zks
theorem ZEO:Zaq Tryz.prog 171 s171 :=
 Zai (V:=e171) (L:=nL) (rounds:=20) (depth:=6) g171 Zam (fun x=>by kernel_rfl)
def e130:Env:=env1 [(171,s171)]
theorem g130:Zaj e130:=Zan mix1 ent1 (Zab ZEO rfl Zag)
def s130:Spec:=Zar (Zaa (Zap ZdN) (Zac (ZaA))) (Zat (ZaA)) ZjI
theorem ZFv:Zaq Tryz.prog 130 s130 :=
 Zai (V:=e130) (L:=nL) (rounds:=20) (depth:=6) g130 Zam (fun x=>by kernel_rfl)
def e88:Env:=env1 [(129,s129),(130,s130)]
theorem g88:Zaj e88:=Zan mix1 ent1 (Zab ZFu rfl (Zab ZFv rfl Zag))
def s88:Spec:=Zar (Zaa (Zap celConfig) (Zac (Zap Zlb))) (Zat (Zad .i64)) ZfY
theorem ok88:Zaq Tryz.prog 88 s88 :=
 Zai (V:=e88) (L:=nL) (rounds:=20) (depth:=6) g88 Zam (fun x=>by kernel_rfl)
def e75:Env:=env1 [(83,s83),(88,s88)]
theorem g75:Zaj e75:=Zan mix1 ent1 (Zab ok83 rfl (Zab ok88 rfl Zag))
def ZBr:LSpec:=Zc7 [2,18,19,20] (Zaa (Zak celConfig) (Zaa (Zau .sentry) (Zaa (Zad .i64) (Zac (Zad .i64))))) (⟨.exit 0,[],Zbs⟩:Way) (⟨.ret,[4,5],(Zaa (Zad .i64) (Zac (Zad .i64)))⟩:Way) (Zav ZfI)
theorem ZDh:LoopOK e75 33 ZBr (ZaU e75.P 75 7) :=
 Zb5 (L:=Zay []) (rounds:=20) (depth:=6) (ts:=[2,18,19,20]) (v:=(Zaa (Zak celConfig) (Zaa (Zau .sentry) (Zaa (Zad .i64) (Zac (Zad .i64)))))) (a:=⟨.exit 0,[],Zbs⟩) (b:=⟨.ret,[4,5],(Zaa (Zad .i64) (Zac (Zad .i64)))⟩) (step:=ZfI) g75 rfl rfl ZaC (fun x=>by kernel_rfl)
def s75:Spec:=Zar (Zaa (Zap celConfig) (Zac (Zau .sentry))) (Zbk (Zaa (Zad .i64) (Zac (Zad .i64)))) Zhw
theorem ok75:Zaq Tryz.prog 75 s75 :=
 Zai (V:=e75) (L:=(Zay [(7,ZBr)])) (rounds:=20) (depth:=6) g75 (ZaV (nt:=33) (by kernel_rfl) (Zbd (by kernel_rfl)) (Zaw ZDh ZaE)) (fun x=>by kernel_rfl)
def e103:Env:=env1 [(146,s146)]
theorem g103:Zaj e103:=Zan mix1 ent1 (Zab Zxw rfl Zag)
def s103:Spec:=Zar (Zac (Zap Zas)) (Zat (Zap Zas)) Zcl
theorem ZCg:Zaq Tryz.prog 103 s103 :=
 Zai (V:=e103) (L:=nL) (rounds:=20) (depth:=6) g103 Zam (fun x=>by kernel_rfl)
def e115:Env:=env1 [(150,s150)]
theorem g115:Zaj e115:=Zan mix1 ent1 (Zab ZqL rfl Zag)
def s115:Spec:=Zar (Zaa (Zad .i64) (Zac (Zad .i64))) (Zat (Zad .i64)) ZiJ
theorem ZEC:Zaq Tryz.prog 115 s115 :=
 Zai (V:=e115) (L:=nL) (rounds:=20) (depth:=6) g115 Zam (fun x=>by kernel_rfl)
def e117:Env:=env1 [(96,s96)]
theorem g117:Zaj e117:=Zan mix1 ent1 (Zab ok96 rfl Zag)
def s117:Spec:=ZrV (Zaa (ZDU (Zae Zas (Zao .i64))) (Zac (Zad .i64))) (Zat (Zad .i64)) ZbZ
theorem ZFf:Zaq Tryz.prog 117 s117 :=
 Zyl (V:=e117) (L:=nL) (rounds:=20) (depth:=6) g117 Zam (fun x=>by kernel_rfl)
def e170:Env:=env1 []
theorem g170:Zaj e170:=Zan mix1 ent1 Zag
def s170:Spec:=Zar (Zaa (Zad .u64) (Zac (Zad .u64))) (Zbk (Zaa (Zad .u64) (Zac (Zad .u64)))) ZjD
theorem ZEn:Zaq Tryz.prog 170 s170 :=
 Zai (V:=e170) (L:=nL) (rounds:=20) (depth:=6) g170 Zam (fun x=>by kernel_rfl)
def e126:Env:=env1 [(170,s170)]
theorem g126:Zaj e126:=Zan mix1 ent1 (Zab ZEn rfl Zag)
def s126:Spec:=Zar (Zaa (Zad .u64) (Zac (Zad .u64))) (Zbk (Zaa (Zad .u64) (Zac (Zad .u64)))) Zdu
theorem ZEc:Zaq Tryz.prog 126 s126 :=
 Zai (V:=e126) (L:=nL) (rounds:=20) (depth:=6) g126 Zam (fun x=>by kernel_rfl)
def e139:Env:=env1 [(150,s150)]
theorem g139:Zaj e139:=Zan mix1 ent1 (Zab ZqL rfl Zag)
def s139:Spec:=Zar Zbs (Zat (Zad .i64)) Zga
theorem ZEm:Zaq Tryz.prog 139 s139 :=
 Zai (V:=e139) (L:=nL) (rounds:=20) (depth:=6) g139 Zam (fun x=>by kernel_rfl)
def e140:Env:=env1 [(120,s120)]
theorem g140:Zaj e140:=Zan mix1 ent1 (Zab Zoa rfl Zag)
def s140:Spec:=Zar (Zaa (Zap celConfig) (Zac (Zad .i64))) (Zat (Zad .i64)) ZeA
theorem ZFb:Zaq Tryz.prog 140 s140 :=
 Zai (V:=e140) (L:=nL) (rounds:=20) (depth:=6) g140 Zam (fun x=>by kernel_rfl)
def e141:Env:=env1 []
theorem g141:Zaj e141:=Zan mix1 ent1 Zag
def s141:Spec:=Zar (Zac (Zap Zas)) (Zat (Zap Zas)) Zdc
theorem ZBY:Zaq Tryz.prog 141 s141 :=
 Zai (V:=e141) (L:=nL) (rounds:=20) (depth:=6) g141 Zam (fun x=>by kernel_rfl)
def e144:Env:=env1 [(180,s180)]
theorem g144:Zaj e144:=Zan mix1 ent1 (Zab ZyE rfl Zag)
def s144:Spec:=Zar (Zaa (Zau .entry) (Zac (Zad .i64))) (Zat (Zau .entry)) ZkN
theorem ZE5:Zaq Tryz.prog 144 s144 :=
 Zai (V:=e144) (L:=nL) (rounds:=20) (depth:=6) g144 Zam (fun x=>by kernel_rfl)
def e196:Env:=env1 []
theorem g196:Zaj e196:=Zan mix1 ent1 Zag
def s196:Spec:=Zar (Zaa (Zad .i64) (Zaa (Zad .i64) (Zaa (Zad .i64) (Zac (Zad .i64))))) (Zat (ZaA)) Zjz
theorem ZEW:Zaq Tryz.prog 196 s196 :=
 Zai (V:=e196) (L:=nL) (rounds:=20) (depth:=6) g196 Zam (fun x=>by kernel_rfl)
def e168:Env:=env1 [(196,s196)]
theorem g168:Zaj e168:=Zan mix1 ent1 (Zab ZEW rfl Zag)
def s168:Spec:=Zar (Zaa (Zap ZdN) (Zaa (Zad .i64) (Zaa (Zad .i64) (Zac (Zad .i64))))) (Zbk (Zaa (Zad .i64) (Zac (ZaA)))) Zd5
theorem ZCm:Zaq Tryz.prog 168 s168 :=
 Zai (V:=e168) (L:=nL) (rounds:=20) (depth:=6) g168 Zam (fun x=>by kernel_rfl)
def e194:Env:=env1 [(85,s85),(154,s154)]
theorem g194:Zaj e194:=Zan mix1 ent1 (Zab ok85 rfl (Zab ZtI rfl Zag))
def s194:Spec:=Zar (Zaa (Zap ZaB) (Zaa (Zad .i64) (Zac (Zad .i64)))) (Zbk (Zaa (Zap ZaB) (Zaa (Zad .i64) (Zac (Zad .i64))))) Zlq
theorem ZEt:Zaq Tryz.prog 194 s194 :=
 Zai (V:=e194) (L:=nL) (rounds:=20) (depth:=6) g194 Zam (fun x=>by kernel_rfl)
def e195:Env:=env1 [(120,s120)]
theorem g195:Zaj e195:=Zan mix1 ent1 (Zab Zoa rfl Zag)
def s195:Spec:=Zar (Zaa (Zap celConfig) (Zaa (Zad .i64) (Zaa (Zad .i64) (Zac (Zad .i64))))) (Zat (Zad .i64)) ZkJ
theorem ZFs:Zaq Tryz.prog 195 s195 :=
 Zai (V:=e195) (L:=nL) (rounds:=20) (depth:=6) g195 Zam (fun x=>by kernel_rfl)
def e249:Env:=env1 []
theorem g249:Zaj e249:=Zan mix1 ent1 Zag
def s249:Spec:=Zar (Zac (Zap Zbj)) (Zat (Zad .i64)) Ze5
theorem ZEH:Zaq Tryz.prog 249 s249 :=
 Zai (V:=e249) (L:=nL) (rounds:=20) (depth:=6) g249 Zam (fun x=>by kernel_rfl)
end Go.Proofs.Mill
