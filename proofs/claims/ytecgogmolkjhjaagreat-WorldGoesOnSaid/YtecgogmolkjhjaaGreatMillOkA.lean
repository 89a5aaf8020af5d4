/- The functions compute this. -/
import Derived.Test.YtecgogmolkjhjaaGreatMillSeat2
import Derived.Test.YtecgogmolkjhjaaGreatMillFA
set_option linter.all false
set_option maxRecDepth 100000
noncomputable section
namespace Go.Proofs.Mill
def e16:Env:=env1 []
theorem g16:Zai e16:=Zan mix1 ent1 Zag
def ZCn:LSpec:=Zc0 [1,3] (Zaa (Zak Zas) (Zac (Zad .i64))) (⟨.exit 0,[1],(Zac (Zak Zas))⟩:Way) (⟨.ret,[2],(Zac (ZaE))⟩:Way) (Zav Zkb)
theorem ZDs:LoopOK e16 70 ZCn (ZaT e16.P 16 2) :=
 Zb6 (L:=ZaA []) (rounds:=20) (depth:=6) (ts:=[1,3]) (v:=(Zaa (Zak Zas) (Zac (Zad .i64)))) (a:=⟨.exit 0,[1],(Zac (Zak Zas))⟩) (b:=⟨.ret,[2],(Zac (ZaE))⟩) (step:=Zkb) g16 rfl rfl ZaC (fun x=>by kernel_rfl)
def s16:Spec:=Zar (Zac (Zap Zas)) (Zat (ZaE)) Zma
theorem ok16:Zaq Tryz.prog 16 s16 :=
 Zaj (V:=e16) (L:=(ZaA [(2,ZCn)])) (rounds:=20) (depth:=6) g16 (ZaV (nt:=70) (by kernel_rfl) (Zbe (by kernel_rfl)) (Zax ZDs ZaG)) (fun x=>by kernel_rfl)
def e23:Env:=env1 []
theorem g23:Zai e23:=Zan mix1 ent1 Zag
def s23:Spec:=Zar (Zac (Zap celConfig)) (Zat (Zad .i64)) Zem
theorem ok23:Zaq Tryz.prog 23 s23 :=
 Zaj (V:=e23) (L:=nL) (rounds:=20) (depth:=6) g23 Zal (fun x=>by kernel_rfl)
def e36:Env:=env1 []
theorem g36:Zai e36:=Zan mix1 ent1 Zag
def ZCT:LSpec:=ZbO [1,3,4] (Zaa (Zak celConfig) (Zaa (Zad .i64) (Zac (Zad .i64)))) (⟨.exit 0,[3],(Zac (Zad .i64))⟩:Way) (Zav ZhE)
theorem ZDD:LoopOK e36 15 ZCT (ZaT e36.P 36 3) :=
 Zba (L:=ZaA []) (rounds:=20) (depth:=6) (ts:=[1,3,4]) (v:=(Zaa (Zak celConfig) (Zaa (Zad .i64) (Zac (Zad .i64))))) (a:=⟨.exit 0,[3],(Zac (Zad .i64))⟩) (step:=ZhE) g36 rfl ZaC (fun x=>by kernel_rfl)
def s36:Spec:=Zar (Zac (Zap celConfig)) (Zat (Zad .i64)) Zfk
theorem ok36:Zaq Tryz.prog 36 s36 :=
 Zaj (V:=e36) (L:=(ZaA [(3,ZCT)])) (rounds:=20) (depth:=6) g36 (ZaV (nt:=15) (by kernel_rfl) (Zbe (by kernel_rfl)) (Zax ZDD ZaG)) (fun x=>by kernel_rfl)
def e74:Env:=env1 [(36,s36)]
theorem g74:Zai e74:=Zan mix1 ent1 (Zab ok36 rfl Zag)
def s74:Spec:=Zar (Zac (Zap celConfig)) (Zat (Zad .i64)) ZdK
theorem ok74:Zaq Tryz.prog 74 s74 :=
 Zaj (V:=e74) (L:=nL) (rounds:=20) (depth:=6) g74 Zal (fun x=>by kernel_rfl)
def e34:Env:=env1 [(74,s74)]
theorem g34:Zai e34:=Zan mix1 ent1 (Zab ok74 rfl Zag)
def s34:Spec:=Zar (Zac (Zap celConfig)) (Zat (Zad .i64)) ZfV
theorem ok34:Zaq Tryz.prog 34 s34 :=
 Zaj (V:=e34) (L:=nL) (rounds:=20) (depth:=6) g34 Zal (fun x=>by kernel_rfl)
def e17:Env:=env1 [(23,s23),(34,s34)]
theorem g17:Zai e17:=Zan mix1 ent1 (Zab ok23 rfl (Zab ok34 rfl Zag))
def s17:Spec:=Zar (Zac (Zap Zas)) (Zat (ZaE)) Zmf
theorem ok17:Zaq Tryz.prog 17 s17 :=
 Zaj (V:=e17) (L:=nL) (rounds:=20) (depth:=6) g17 Zal (fun x=>by kernel_rfl)
def e29:Env:=env1 []
theorem g29:Zai e29:=Zan mix1 ent1 Zag
def ZCI:LSpec:=Zc0 [0,1,5] (Zaa (Zau .entry) (Zaa (Zau .entry) (Zac (Zad .i64)))) (⟨.exit 0,[],Zbz⟩:Way) (⟨.ret,[4],(Zac (ZaE))⟩:Way) (Zav ZeT)
theorem ZC4:LoopOK e29 26 ZCI (ZaT e29.P 29 4) :=
 Zb6 (L:=ZaA []) (rounds:=20) (depth:=6) (ts:=[0,1,5]) (v:=(Zaa (Zau .entry) (Zaa (Zau .entry) (Zac (Zad .i64))))) (a:=⟨.exit 0,[],Zbz⟩) (b:=⟨.ret,[4],(Zac (ZaE))⟩) (step:=ZeT) g29 rfl rfl ZaC (fun x=>by kernel_rfl)
def s29:Spec:=Zar (Zaa (Zau .entry) (Zac (Zau .entry))) (Zat (ZaE)) ZfX
theorem ok29:Zaq Tryz.prog 29 s29 :=
 Zaj (V:=e29) (L:=(ZaA [(4,ZCI)])) (rounds:=20) (depth:=6) g29 (ZaV (nt:=26) (by kernel_rfl) (Zbe (by kernel_rfl)) (Zax ZC4 ZaG)) (fun x=>by kernel_rfl)
def e94:Env:=env1 []
theorem g94:Zai e94:=Zan mix1 ent1 Zag
def ZBN:LSpec:=Zc0 [0,1,5] (Zaa (Zau .int) (Zaa (Zau .int) (Zac (Zad .i64)))) (⟨.exit 0,[],Zbz⟩:Way) (⟨.ret,[4],(Zac (ZaE))⟩:Way) (Zav ZeZ)
theorem ZDE:LoopOK e94 26 ZBN (ZaT e94.P 94 4) :=
 Zb6 (L:=ZaA []) (rounds:=20) (depth:=6) (ts:=[0,1,5]) (v:=(Zaa (Zau .int) (Zaa (Zau .int) (Zac (Zad .i64))))) (a:=⟨.exit 0,[],Zbz⟩) (b:=⟨.ret,[4],(Zac (ZaE))⟩) (step:=ZeZ) g94 rfl rfl ZaC (fun x=>by kernel_rfl)
def s94:Spec:=Zar (Zaa (Zau .int) (Zac (Zau .int))) (Zat (ZaE)) ZfU
theorem ok94:Zaq Tryz.prog 94 s94 :=
 Zaj (V:=e94) (L:=(ZaA [(4,ZBN)])) (rounds:=20) (depth:=6) g94 (ZaV (nt:=26) (by kernel_rfl) (Zbe (by kernel_rfl)) (Zax ZDE ZaG)) (fun x=>by kernel_rfl)
def e56:Env:=env1 [(29,s29),(94,s94)]
theorem g56:Zai e56:=Zan mix1 ent1 (Zab ok29 rfl (Zab ok94 rfl Zag))
def ZBQ:LSpec:=Zc0 [2,3,5] (Zaa (Zak ZaD) (Zaa (Zak ZaD) (Zac (Zad .i64)))) (⟨.exit 0,[],Zbz⟩:Way) (⟨.ret,[4],(Zac (ZaE))⟩:Way) (Zav ZeL)
theorem ZD0:LoopOK e56 40 ZBQ (ZaT e56.P 56 4) :=
 Zb6 (L:=ZaA []) (rounds:=20) (depth:=6) (ts:=[2,3,5]) (v:=(Zaa (Zak ZaD) (Zaa (Zak ZaD) (Zac (Zad .i64))))) (a:=⟨.exit 0,[],Zbz⟩) (b:=⟨.ret,[4],(Zac (ZaE))⟩) (step:=ZeL) g56 rfl rfl ZaC (fun x=>by kernel_rfl)
def s56:Spec:=Zar (Zaa (Zap ZaD) (Zac (Zap ZaD))) (Zat (ZaE)) ZhV
theorem ok56:Zaq Tryz.prog 56 s56 :=
 Zaj (V:=e56) (L:=(ZaA [(4,ZBQ)])) (rounds:=20) (depth:=6) g56 (ZaV (nt:=40) (by kernel_rfl) (Zbe (by kernel_rfl)) (Zax ZD0 ZaG)) (fun x=>by kernel_rfl)
def e57:Env:=env1 [(29,s29),(94,s94)]
theorem g57:Zai e57:=Zan mix1 ent1 (Zab ok29 rfl (Zab ok94 rfl Zag))
def ZCD:LSpec:=Zc0 [2,3,5] (Zaa (Zak Za1) (Zaa (Zak Za1) (Zac (Zad .i64)))) (⟨.exit 0,[2,3],(Zaa (Zak Za1) (Zac (Zak Za1)))⟩:Way) (⟨.ret,[4],(Zac (ZaE))⟩:Way) (Zav Ze6)
theorem ZDm:LoopOK e57 136 ZCD (ZaT e57.P 57 4) :=
 Zb6 (L:=ZaA []) (rounds:=20) (depth:=6) (ts:=[2,3,5]) (v:=(Zaa (Zak Za1) (Zaa (Zak Za1) (Zac (Zad .i64))))) (a:=⟨.exit 0,[2,3],(Zaa (Zak Za1) (Zac (Zak Za1)))⟩) (b:=⟨.ret,[4],(Zac (ZaE))⟩) (step:=Ze6) g57 rfl rfl ZaC (fun x=>by kernel_rfl)
def s57:Spec:=Zar (Zaa (Zap Za1) (Zac (Zap Za1))) (Zat (ZaE)) ZhQ
theorem ok57:Zaq Tryz.prog 57 s57 :=
 Zaj (V:=e57) (L:=(ZaA [(4,ZCD)])) (rounds:=20) (depth:=6) g57 (ZaV (nt:=136) (by kernel_rfl) (Zbe (by kernel_rfl)) (Zax ZDm ZaG)) (fun x=>by kernel_rfl)
def e58:Env:=env1 []
theorem g58:Zai e58:=Zan mix1 ent1 Zag
def ZCB:LSpec:=Zc0 [2,3,5] (Zaa (Zak Zbk) (Zaa (Zak Zbk) (Zac (Zad .i64)))) (⟨.exit 0,[],Zbz⟩:Way) (⟨.ret,[4],(Zac (ZaE))⟩:Way) (Zav ZeQ)
theorem ZDl:LoopOK e58 38 ZCB (ZaT e58.P 58 4) :=
 Zb6 (L:=ZaA []) (rounds:=20) (depth:=6) (ts:=[2,3,5]) (v:=(Zaa (Zak Zbk) (Zaa (Zak Zbk) (Zac (Zad .i64))))) (a:=⟨.exit 0,[],Zbz⟩) (b:=⟨.ret,[4],(Zac (ZaE))⟩) (step:=ZeQ) g58 rfl rfl ZaC (fun x=>by kernel_rfl)
def s58:Spec:=Zar (Zaa (Zap Zbk) (Zac (Zap Zbk))) (Zat (ZaE)) Zih
theorem ok58:Zaq Tryz.prog 58 s58 :=
 Zaj (V:=e58) (L:=(ZaA [(4,ZCB)])) (rounds:=20) (depth:=6) g58 (ZaV (nt:=38) (by kernel_rfl) (Zbe (by kernel_rfl)) (Zax ZDl ZaG)) (fun x=>by kernel_rfl)
def e59:Env:=env1 []
theorem g59:Zai e59:=Zan mix1 ent1 Zag
def ZCq:LSpec:=Zc0 [0,1,5] (Zaa (Zau .mark) (Zaa (Zau .mark) (Zac (Zad .i64)))) (⟨.exit 0,[],Zbz⟩:Way) (⟨.ret,[4],(Zac (ZaE))⟩:Way) (Zav Zex)
theorem ZC9:LoopOK e59 26 ZCq (ZaT e59.P 59 4) :=
 Zb6 (L:=ZaA []) (rounds:=20) (depth:=6) (ts:=[0,1,5]) (v:=(Zaa (Zau .mark) (Zaa (Zau .mark) (Zac (Zad .i64))))) (a:=⟨.exit 0,[],Zbz⟩) (b:=⟨.ret,[4],(Zac (ZaE))⟩) (step:=Zex) g59 rfl rfl ZaC (fun x=>by kernel_rfl)
def s59:Spec:=Zar (Zaa (Zau .mark) (Zac (Zau .mark))) (Zat (ZaE)) ZgZ
theorem ok59:Zaq Tryz.prog 59 s59 :=
 Zaj (V:=e59) (L:=(ZaA [(4,ZCq)])) (rounds:=20) (depth:=6) g59 (ZaV (nt:=26) (by kernel_rfl) (Zbe (by kernel_rfl)) (Zax ZC9 ZaG)) (fun x=>by kernel_rfl)
def e19:Env:=env1 [(56,s56),(57,s57),(58,s58),(59,s59)]
theorem g19:Zai e19:=Zan mix1 ent1 (Zab ok56 rfl (Zab ok57 rfl (Zab ok58 rfl (Zab ok59 rfl Zag))))
def s19:Spec:=Zar (Zaa (Zap Zas) (Zac (Zap Zas))) (Zat (ZaE)) Zj9
theorem ok19:Zaq Tryz.prog 19 s19 :=
 Zaj (V:=e19) (L:=nL) (rounds:=20) (depth:=6) g19 Zal (fun x=>by kernel_rfl)
def e30:Env:=env1 []
theorem g30:Zai e30:=Zan mix1 ent1 Zag
def ZB6:LSpec:=ZbO [0,3,4] (Zaa (Zau .entry) (Zaa (ZaI 137 .entry) (Zac (Zad .i64)))) (⟨.exit 0,[3],(Zac (ZaI 137 .entry))⟩:Way) (Zav Zgx)
theorem ZC1:LoopOK e30 27 ZB6 (ZaT e30.P 30 3) :=
 Zba (L:=ZaA []) (rounds:=20) (depth:=6) (ts:=[0,3,4]) (v:=(Zaa (Zau .entry) (Zaa (ZaI 137 .entry) (Zac (Zad .i64))))) (a:=⟨.exit 0,[3],(Zac (ZaI 137 .entry))⟩) (step:=Zgx) g30 rfl ZaC (fun x=>by kernel_rfl)
def s30:Spec:=Zar (Zac (Zau .entry)) (Zat (ZaI 137 .entry)) ZhG
theorem ok30:Zaq Tryz.prog 30 s30 :=
 Zaj (V:=e30) (L:=(ZaA [(3,ZB6)])) (rounds:=20) (depth:=6) g30 (ZaV (nt:=27) (by kernel_rfl) (Zbe (by kernel_rfl)) (Zax ZC1 ZaG)) (fun x=>by kernel_rfl)
def e60:Env:=env1 [(30,s30)]
theorem g60:Zai e60:=Zan mix1 ent1 (Zab ok30 rfl Zag)
def ZCv:LSpec:=ZbO [1,2,3,4] (Zaa (Zak ZaD) (Zaa (Zak ZaD) (Zaa (Zak (Za8 (Zae (Za7 .int) (ZaK 47 (.lst .entry))) Memo (fun y=>⟨y.1,y.2⟩) (fun x=>(x.words,x.boxes)) (fun _=>rfl))) (Zac (Zad .i64))))) (⟨.exit 0,[2,3],(Zaa (Zak ZaD) (Zac (Zak (Za8 (Zae (Za7 .int) (ZaK 47 (.lst .entry))) Memo (fun y=>⟨y.1,y.2⟩) (fun x=>(x.words,x.boxes)) (fun _=>rfl)))))⟩:Way) (Zav Zg3)
theorem ZDb:LoopOK e60 27 ZCv (ZaT e60.P 60 3) :=
 Zba (L:=ZaA []) (rounds:=20) (depth:=6) (ts:=[1,2,3,4]) (v:=(Zaa (Zak ZaD) (Zaa (Zak ZaD) (Zaa (Zak (Za8 (Zae (Za7 .int) (ZaK 47 (.lst .entry))) Memo (fun y=>⟨y.1,y.2⟩) (fun x=>(x.words,x.boxes)) (fun _=>rfl))) (Zac (Zad .i64)))))) (a:=⟨.exit 0,[2,3],(Zaa (Zak ZaD) (Zac (Zak (Za8 (Zae (Za7 .int) (ZaK 47 (.lst .entry))) Memo (fun y=>⟨y.1,y.2⟩) (fun x=>(x.words,x.boxes)) (fun _=>rfl)))))⟩) (step:=Zg3) g60 rfl ZaC (fun x=>by kernel_rfl)
def s60:Spec:=Zar (Zac (Zap ZaD)) (Zat (Zap ZaD)) ZmL
theorem ok60:Zaq Tryz.prog 60 s60 :=
 Zaj (V:=e60) (L:=(ZaA [(3,ZCv)])) (rounds:=20) (depth:=6) g60 (ZaV (nt:=27) (by kernel_rfl) (Zbe (by kernel_rfl)) (Zax ZDb ZaG)) (fun x=>by kernel_rfl)
def e61:Env:=env1 [(30,s30)]
theorem g61:Zai e61:=Zan mix1 ent1 (Zab ok30 rfl Zag)
def ZCF:LSpec:=ZbO [1,2,3,4] (Zaa (Zak Za1) (Zaa (Zak Za1) (Zaa (Zak (Za8 (Zae (Zao .i64) (Zae (Zao .i64) (Zae ZdW (Zae (Za7 .entry) (Zae (ZaK 160 .kid) (Zae (Za7 .int) (Zae (Zao .i64) (Zae (Zao .i64) (Zae (Zao .i64) (Zae (Zao .i64) (Zae (Zao .i64) (Zae (Zao .i64) (Zae (Zao .i64) (Zae (Zao .i64) (Zae (Zao .i64) (Zao .i64)))))))))))))))) Thread (fun y=>⟨y.1,y.2.1,y.2.2.1,y.2.2.2.1,y.2.2.2.2.1,y.2.2.2.2.2.1,y.2.2.2.2.2.2.1,y.2.2.2.2.2.2.2.1,y.2.2.2.2.2.2.2.2.1,y.2.2.2.2.2.2.2.2.2.1,y.2.2.2.2.2.2.2.2.2.2.1,y.2.2.2.2.2.2.2.2.2.2.2.1,y.2.2.2.2.2.2.2.2.2.2.2.2.1,y.2.2.2.2.2.2.2.2.2.2.2.2.2.1,y.2.2.2.2.2.2.2.2.2.2.2.2.2.2.1,y.2.2.2.2.2.2.2.2.2.2.2.2.2.2.2⟩) (fun x=>(x.phase,(x.item,(x.op,(x.batch,(x.kids,(x.held,(x.stop,(x.node,(x.at_,(x.layer,(x.left,(x.width,(x.who,(x.x,(x.y,x.until_)))))))))))))))) (fun _=>rfl))) (Zac (Zad .i64))))) (⟨.exit 0,[2,3],(Zaa (Zak Za1) (Zac (Zak (Za8 (Zae (Zao .i64) (Zae (Zao .i64) (Zae ZdW (Zae (Za7 .entry) (Zae (ZaK 160 .kid) (Zae (Za7 .int) (Zae (Zao .i64) (Zae (Zao .i64) (Zae (Zao .i64) (Zae (Zao .i64) (Zae (Zao .i64) (Zae (Zao .i64) (Zae (Zao .i64) (Zae (Zao .i64) (Zae (Zao .i64) (Zao .i64)))))))))))))))) Thread (fun y=>⟨y.1,y.2.1,y.2.2.1,y.2.2.2.1,y.2.2.2.2.1,y.2.2.2.2.2.1,y.2.2.2.2.2.2.1,y.2.2.2.2.2.2.2.1,y.2.2.2.2.2.2.2.2.1,y.2.2.2.2.2.2.2.2.2.1,y.2.2.2.2.2.2.2.2.2.2.1,y.2.2.2.2.2.2.2.2.2.2.2.1,y.2.2.2.2.2.2.2.2.2.2.2.2.1,y.2.2.2.2.2.2.2.2.2.2.2.2.2.1,y.2.2.2.2.2.2.2.2.2.2.2.2.2.2.1,y.2.2.2.2.2.2.2.2.2.2.2.2.2.2.2⟩) (fun x=>(x.phase,(x.item,(x.op,(x.batch,(x.kids,(x.held,(x.stop,(x.node,(x.at_,(x.layer,(x.left,(x.width,(x.who,(x.x,(x.y,x.until_)))))))))))))))) (fun _=>rfl)))))⟩:Way) (Zav Zir)
theorem ZC0:LoopOK e61 55 ZCF (ZaT e61.P 61 3) :=
 Zba (L:=ZaA []) (rounds:=20) (depth:=6) (ts:=[1,2,3,4]) (v:=(Zaa (Zak Za1) (Zaa (Zak Za1) (Zaa (Zak (Za8 (Zae (Zao .i64) (Zae (Zao .i64) (Zae ZdW (Zae (Za7 .entry) (Zae (ZaK 160 .kid) (Zae (Za7 .int) (Zae (Zao .i64) (Zae (Zao .i64) (Zae (Zao .i64) (Zae (Zao .i64) (Zae (Zao .i64) (Zae (Zao .i64) (Zae (Zao .i64) (Zae (Zao .i64) (Zae (Zao .i64) (Zao .i64)))))))))))))))) Thread (fun y=>⟨y.1,y.2.1,y.2.2.1,y.2.2.2.1,y.2.2.2.2.1,y.2.2.2.2.2.1,y.2.2.2.2.2.2.1,y.2.2.2.2.2.2.2.1,y.2.2.2.2.2.2.2.2.1,y.2.2.2.2.2.2.2.2.2.1,y.2.2.2.2.2.2.2.2.2.2.1,y.2.2.2.2.2.2.2.2.2.2.2.1,y.2.2.2.2.2.2.2.2.2.2.2.2.1,y.2.2.2.2.2.2.2.2.2.2.2.2.2.1,y.2.2.2.2.2.2.2.2.2.2.2.2.2.2.1,y.2.2.2.2.2.2.2.2.2.2.2.2.2.2.2⟩) (fun x=>(x.phase,(x.item,(x.op,(x.batch,(x.kids,(x.held,(x.stop,(x.node,(x.at_,(x.layer,(x.left,(x.width,(x.who,(x.x,(x.y,x.until_)))))))))))))))) (fun _=>rfl))) (Zac (Zad .i64)))))) (a:=⟨.exit 0,[2,3],(Zaa (Zak Za1) (Zac (Zak (Za8 (Zae (Zao .i64) (Zae (Zao .i64) (Zae ZdW (Zae (Za7 .entry) (Zae (ZaK 160 .kid) (Zae (Za7 .int) (Zae (Zao .i64) (Zae (Zao .i64) (Zae (Zao .i64) (Zae (Zao .i64) (Zae (Zao .i64) (Zae (Zao .i64) (Zae (Zao .i64) (Zae (Zao .i64) (Zae (Zao .i64) (Zao .i64)))))))))))))))) Thread (fun y=>⟨y.1,y.2.1,y.2.2.1,y.2.2.2.1,y.2.2.2.2.1,y.2.2.2.2.2.1,y.2.2.2.2.2.2.1,y.2.2.2.2.2.2.2.1,y.2.2.2.2.2.2.2.2.1,y.2.2.2.2.2.2.2.2.2.1,y.2.2.2.2.2.2.2.2.2.2.1,y.2.2.2.2.2.2.2.2.2.2.2.1,y.2.2.2.2.2.2.2.2.2.2.2.2.1,y.2.2.2.2.2.2.2.2.2.2.2.2.2.1,y.2.2.2.2.2.2.2.2.2.2.2.2.2.2.1,y.2.2.2.2.2.2.2.2.2.2.2.2.2.2.2⟩) (fun x=>(x.phase,(x.item,(x.op,(x.batch,(x.kids,(x.held,(x.stop,(x.node,(x.at_,(x.layer,(x.left,(x.width,(x.who,(x.x,(x.y,x.until_)))))))))))))))) (fun _=>rfl)))))⟩) (step:=Zir) g61 rfl ZaC (fun x=>by kernel_rfl)
def s61:Spec:=Zar (Zac (Zap Za1)) (Zat (Zap Za1)) ZnC
theorem ok61:Zaq Tryz.prog 61 s61 :=
 Zaj (V:=e61) (L:=(ZaA [(3,ZCF)])) (rounds:=20) (depth:=6) g61 (ZaV (nt:=55) (by kernel_rfl) (Zbe (by kernel_rfl)) (Zax ZC0 ZaG)) (fun x=>by kernel_rfl)
def e62:Env:=env1 []
theorem g62:Zai e62:=Zan mix1 ent1 Zag
def ZCm:LSpec:=ZbO [0,3,4] (Zaa (Zau .mark) (Zaa (ZaI 162 .mark) (Zac (Zad .i64)))) (⟨.exit 0,[3],(Zac (ZaI 162 .mark))⟩:Way) (Zav Zif)
theorem ZDK:LoopOK e62 42 ZCm (ZaT e62.P 62 3) :=
 Zba (L:=ZaA []) (rounds:=20) (depth:=6) (ts:=[0,3,4]) (v:=(Zaa (Zau .mark) (Zaa (ZaI 162 .mark) (Zac (Zad .i64))))) (a:=⟨.exit 0,[3],(Zac (ZaI 162 .mark))⟩) (step:=Zif) g62 rfl ZaC (fun x=>by kernel_rfl)
def s62:Spec:=Zar (Zac (Zau .mark)) (Zat (Zau .mark)) ZnF
theorem ok62:Zaq Tryz.prog 62 s62 :=
 Zaj (V:=e62) (L:=(ZaA [(3,ZCm)])) (rounds:=20) (depth:=6) g62 (ZaV (nt:=42) (by kernel_rfl) (Zbe (by kernel_rfl)) (Zax ZDK ZaG)) (fun x=>by kernel_rfl)
def e20:Env:=env1 [(60,s60),(61,s61),(62,s62)]
theorem g20:Zai e20:=Zan mix1 ent1 (Zab ok60 rfl (Zab ok61 rfl (Zab ok62 rfl Zag)))
def s20:Spec:=Zar (Zac (Zap Zas)) (Zat (Zap Zas)) ZgB
theorem ok20:Zaq Tryz.prog 20 s20 :=
 Zaj (V:=e20) (L:=nL) (rounds:=20) (depth:=6) g20 Zal (fun x=>by kernel_rfl)
def e69:Env:=env1 []
theorem g69:Zai e69:=Zan mix1 ent1 Zag
def s69:Spec:=Zar (Zaa (Zad .i64) (Zac (Zad .i64))) (Zbl (Zaa (Zad .i64) (Zac (ZaE)))) ZfB
theorem ok69:Zaq Tryz.prog 69 s69 :=
 Zaj (V:=e69) (L:=nL) (rounds:=20) (depth:=6) g69 Zal (fun x=>by kernel_rfl)
def e24:Env:=env1 [(69,s69)]
theorem g24:Zai e24:=Zan mix1 ent1 (Zab ok69 rfl Zag)
def s24:Spec:=Zar (Zaa (Zap ZdW) (Zaa (Zad .i64) (Zaa (Zad .i64) (Zac (Zad .i64))))) (Zbl (Zaa (Zad .i64) (Zac (ZaE)))) Zc7
theorem ok24:Zaq Tryz.prog 24 s24 :=
 Zaj (V:=e24) (L:=nL) (rounds:=20) (depth:=6) g24 Zal (fun x=>by kernel_rfl)
def e118:Env:=env1 []
theorem g118:Zai e118:=Zan mix1 ent1 Zag
def s118:Spec:=Zar (Zac (Zad .i64)) (Zat (ZaI 3 .int)) ZhS
theorem ZE8:Zaq Tryz.prog 118 s118 :=
 Zaj (V:=e118) (L:=nL) (rounds:=20) (depth:=6) g118 Zal (fun x=>by kernel_rfl)
def e119:Env:=env1 []
theorem g119:Zai e119:=Zan mix1 ent1 Zag
def s119:Spec:=Zar (Zac (Zad .i64)) (Zat (ZaI 30 (.lst .entry))) Zd8
theorem ZEI:Zaq Tryz.prog 119 s119 :=
 Zaj (V:=e119) (L:=nL) (rounds:=20) (depth:=6) g119 Zal (fun x=>by kernel_rfl)
def e70:Env:=env1 [(118,s118),(119,s119)]
theorem g70:Zai e70:=Zan mix1 ent1 (Zab ZE8 rfl (Zab ZEI rfl Zag))
def s70:Spec:=Zar (Zaa (Zad .i64) (Zac (Zad .i64))) (Zat (Zap (Za8 (Zae (ZaK 3 .int) (ZaK 30 (.lst .entry))) Memo (fun y=>⟨y.1,y.2⟩) (fun x=>(x.words,x.boxes)) (fun _=>rfl)))) Znq
theorem ok70:Zaq Tryz.prog 70 s70 :=
 Zaj (V:=e70) (L:=nL) (rounds:=20) (depth:=6) g70 Zal (fun x=>by kernel_rfl)
def e148:Env:=env1 []
theorem g148:Zai e148:=Zan mix1 ent1 Zag
def s148:Spec:=Zar (Zac (Zap celConfig)) (Zat (Zad .i64)) Zfl
theorem ZBJ:Zaq Tryz.prog 148 s148 :=
 Zaj (V:=e148) (L:=nL) (rounds:=20) (depth:=6) g148 Zal (fun x=>by kernel_rfl)
def e120:Env:=env1 [(148,s148)]
theorem g120:Zai e120:=Zan mix1 ent1 (Zab ZBJ rfl Zag)
def s120:Spec:=Zar (Zac (Zap celConfig)) (Zat (Zap ZDg)) Zco
theorem Zo5:Zaq Tryz.prog 120 s120 :=
 Zaj (V:=e120) (L:=nL) (rounds:=20) (depth:=6) g120 Zal (fun x=>by kernel_rfl)
def e71:Env:=env1 [(120,s120)]
theorem g71:Zai e71:=Zan mix1 ent1 (Zab Zo5 rfl Zag)
def s71:Spec:=Zar (Zac (Zap celConfig)) (Zat (Zad .i64)) Zk1
theorem ok71:Zaq Tryz.prog 71 s71 :=
 Zaj (V:=e71) (L:=nL) (rounds:=20) (depth:=6) g71 Zal (fun x=>by kernel_rfl)
def e72:Env:=env1 [(120,s120)]
theorem g72:Zai e72:=Zan mix1 ent1 (Zab Zo5 rfl Zag)
def s72:Spec:=Zar (Zaa (Zap celConfig) (Zac (Zad .i64))) (Zat (Zad .i64)) Zdu
theorem ok72:Zaq Tryz.prog 72 s72 :=
 Zaj (V:=e72) (L:=nL) (rounds:=20) (depth:=6) g72 Zal (fun x=>by kernel_rfl)
def e25:Env:=env1 [(70,s70),(71,s71),(72,s72)]
theorem g25:Zai e25:=Zan mix1 ent1 (Zab ok70 rfl (Zab ok71 rfl (Zab ok72 rfl Zag)))
def ZBO:LSpec:=ZbO [1,2,3,11,12] (Zaa (Zak celConfig) (Zaa (Zak ZaD) (Zaa (Zak (Za8 (Zae (ZaK 3 .int) (ZaK 30 (.lst .entry))) Memo (fun y=>⟨y.1,y.2⟩) (fun x=>(x.words,x.boxes)) (fun _=>rfl))) (Zaa (Zad .i64) (Zac (Zad .i64)))))) (⟨.exit 0,[2,3],(Zaa (Zak ZaD) (Zac (Zak (Za8 (Zae (ZaK 3 .int) (ZaK 30 (.lst .entry))) Memo (fun y=>⟨y.1,y.2⟩) (fun x=>(x.words,x.boxes)) (fun _=>rfl)))))⟩:Way) (Zav ZfI)
theorem ZDc:LoopOK e25 25 ZBO (ZaT e25.P 25 3) :=
 Zba (L:=ZaA []) (rounds:=20) (depth:=6) (ts:=[1,2,3,11,12]) (v:=(Zaa (Zak celConfig) (Zaa (Zak ZaD) (Zaa (Zak (Za8 (Zae (ZaK 3 .int) (ZaK 30 (.lst .entry))) Memo (fun y=>⟨y.1,y.2⟩) (fun x=>(x.words,x.boxes)) (fun _=>rfl))) (Zaa (Zad .i64) (Zac (Zad .i64))))))) (a:=⟨.exit 0,[2,3],(Zaa (Zak ZaD) (Zac (Zak (Za8 (Zae (ZaK 3 .int) (ZaK 30 (.lst .entry))) Memo (fun y=>⟨y.1,y.2⟩) (fun x=>(x.words,x.boxes)) (fun _=>rfl)))))⟩) (step:=ZfI) g25 rfl ZaC (fun x=>by kernel_rfl)
def s25:Spec:=Zar (Zac (Zap celConfig)) (Zat (Zap (Za8 (Zae (ZaK 3 .int) (ZaK 30 (.lst .entry))) Memo (fun y=>⟨y.1,y.2⟩) (fun x=>(x.words,x.boxes)) (fun _=>rfl)))) ZdG
theorem ok25:Zaq Tryz.prog 25 s25 :=
 Zaj (V:=e25) (L:=(ZaA [(3,ZBO)])) (rounds:=20) (depth:=6) g25 (ZaV (nt:=25) (by kernel_rfl) (Zbe (by kernel_rfl)) (Zax ZDc ZaG)) (fun x=>by kernel_rfl)
def e73:Env:=env1 []
theorem g73:Zai e73:=Zan mix1 ent1 Zag
def s73:Spec:=Zar (Zaa (Zad .i64) (Zac (Zad .i64))) (Zat (Zad .i64)) Zln
theorem ok73:Zaq Tryz.prog 73 s73 :=
 Zaj (V:=e73) (L:=nL) (rounds:=20) (depth:=6) g73 Zal (fun x=>by kernel_rfl)
def e26:Env:=env1 [(73,s73)]
theorem g26:Zai e26:=Zan mix1 ent1 (Zab ok73 rfl Zag)
def s26:Spec:=Zar (Zaa (Zap celConfig) (Zaa (Zad .i64) (Zaa (Zap Za1) (Zaa (Zad .i64) (Zaa (Zap ZdW) (Zac (Zad .i64))))))) (Zat (Zap Za1)) Zcz
theorem ok26:Zaq Tryz.prog 26 s26 :=
 Zaj (V:=e26) (L:=nL) (rounds:=20) (depth:=6) g26 Zal (fun x=>by kernel_rfl)
def e27:Env:=env1 []
theorem g27:Zai e27:=Zan mix1 ent1 Zag
def s27:Spec:=Zar Zbz (Zat (Zap Za1)) Zea
theorem ok27:Zaq Tryz.prog 27 s27 :=
 Zaj (V:=e27) (L:=nL) (rounds:=20) (depth:=6) g27 Zal (fun x=>by kernel_rfl)
def e28:Env:=env1 [(17,s17)]
theorem g28:Zai e28:=Zan mix1 ent1 (Zab ok17 rfl Zag)
def s28:Spec:=Zar (Zac (Zap Zas)) (Zat (ZaE)) ZlW
theorem ok28:Zaq Tryz.prog 28 s28 :=
 Zaj (V:=e28) (L:=nL) (rounds:=20) (depth:=6) g28 Zal (fun x=>by kernel_rfl)
def e31:Env:=env1 []
theorem g31:Zai e31:=Zan mix1 ent1 Zag
def s31:Spec:=Zar (Zaa (Zap ZdW) (Zac (ZaE))) (Zat (ZaE)) Zmc
theorem ok31:Zaq Tryz.prog 31 s31 :=
 Zaj (V:=e31) (L:=nL) (rounds:=20) (depth:=6) g31 Zal (fun x=>by kernel_rfl)
def e32:Env:=env1 []
theorem g32:Zai e32:=Zan mix1 ent1 Zag
def s32:Spec:=Zar (Zac (Zap celConfig)) (Zat (Zad .i64)) ZmN
theorem ok32:Zaq Tryz.prog 32 s32 :=
 Zaj (V:=e32) (L:=nL) (rounds:=20) (depth:=6) g32 Zal (fun x=>by kernel_rfl)
def e33:Env:=env1 []
theorem g33:Zai e33:=Zan mix1 ent1 Zag
def s33:Spec:=Zar (Zac (Zap Za1)) (Zat (ZaE)) Zby
theorem ok33:Zaq Tryz.prog 33 s33 :=
 Zaj (V:=e33) (L:=nL) (rounds:=20) (depth:=6) g33 Zal (fun x=>by kernel_rfl)
def e35:Env:=env1 [(74,s74)]
theorem g35:Zai e35:=Zan mix1 ent1 (Zab ok74 rfl Zag)
def s35:Spec:=Zar (Zaa (Zap celConfig) (Zac (Zad .i64))) (Zat (Zad .i64)) Ze8
theorem ok35:Zaq Tryz.prog 35 s35 :=
 Zaj (V:=e35) (L:=nL) (rounds:=20) (depth:=6) g35 Zal (fun x=>by kernel_rfl)
def e37:Env:=env1 [(36,s36),(74,s74)]
theorem g37:Zai e37:=Zan mix1 ent1 (Zab ok36 rfl (Zab ok74 rfl Zag))
def s37:Spec:=Zar (Zaa (Zap celConfig) (Zaa (Zad .i64) (Zac (Zad .i64)))) (Zat (Zad .i64)) Zf7
theorem ok37:Zaq Tryz.prog 37 s37 :=
 Zaj (V:=e37) (L:=nL) (rounds:=20) (depth:=6) g37 Zal (fun x=>by kernel_rfl)
def e38:Env:=env1 [(74,s74)]
theorem g38:Zai e38:=Zan mix1 ent1 (Zab ok74 rfl Zag)
def s38:Spec:=Zar (Zaa (Zap celConfig) (Zac (Zad .i64))) (Zat (Zad .i64)) Zdy
theorem ok38:Zaq Tryz.prog 38 s38 :=
 Zaj (V:=e38) (L:=nL) (rounds:=20) (depth:=6) g38 Zal (fun x=>by kernel_rfl)
def e39:Env:=env1 []
theorem g39:Zai e39:=Zan mix1 ent1 Zag
def s39:Spec:=Zar (Zaa (Zau .sentry) (Zac (Zau .int))) (Zat (ZaE)) ZhJ
theorem ok39:Zaq Tryz.prog 39 s39 :=
 Zaj (V:=e39) (L:=nL) (rounds:=20) (depth:=6) g39 Zal (fun x=>by kernel_rfl)
def e127:Env:=env1 []
theorem g127:Zai e127:=Zan mix1 ent1 Zag
def Zy6:LSpec:=ZbO [1,4,5,7] (Zaa (Zad .i64) (Zaa (Zak ZaD) (Zaa (Zak (Za8 (Zae (ZaK 3 .int) (ZaK 47 (.lst .entry))) Memo (fun y=>⟨y.1,y.2⟩) (fun x=>(x.words,x.boxes)) (fun _=>rfl))) (Zac (Zad .i64))))) (⟨.exit 2,[4,5],(Zaa (Zak ZaD) (Zac (Zak (Za8 (Zae (ZaK 3 .int) (ZaK 47 (.lst .entry))) Memo (fun y=>⟨y.1,y.2⟩) (fun x=>(x.words,x.boxes)) (fun _=>rfl)))))⟩:Way) (Zav Zj6)
theorem ZBe:LoopOK e127 39 Zy6 (ZaT e127.P 127 7) :=
 Zba (L:=ZaA []) (rounds:=20) (depth:=6) (ts:=[1,4,5,7]) (v:=(Zaa (Zad .i64) (Zaa (Zak ZaD) (Zaa (Zak (Za8 (Zae (ZaK 3 .int) (ZaK 47 (.lst .entry))) Memo (fun y=>⟨y.1,y.2⟩) (fun x=>(x.words,x.boxes)) (fun _=>rfl))) (Zac (Zad .i64)))))) (a:=⟨.exit 2,[4,5],(Zaa (Zak ZaD) (Zac (Zak (Za8 (Zae (ZaK 3 .int) (ZaK 47 (.lst .entry))) Memo (fun y=>⟨y.1,y.2⟩) (fun x=>(x.words,x.boxes)) (fun _=>rfl)))))⟩) (step:=Zj6) g127 rfl ZaC (fun x=>by kernel_rfl)
def ZzS:LSpec:=ZbO [0,1,4,5,6] (Zaa (Zad .i64) (Zaa (Zad .i64) (Zaa (Zak ZaD) (Zaa (Zak (Za8 (Zae (ZaK 3 .int) (ZaK 47 (.lst .entry))) Memo (fun y=>⟨y.1,y.2⟩) (fun x=>(x.words,x.boxes)) (fun _=>rfl))) (Zac (Zad .i64)))))) (⟨.exit 0,[1,4,5],(Zaa (Zad .i64) (Zaa (Zak ZaD) (Zac (Zak (Za8 (Zae (ZaK 3 .int) (ZaK 47 (.lst .entry))) Memo (fun y=>⟨y.1,y.2⟩) (fun x=>(x.words,x.boxes)) (fun _=>rfl))))))⟩:Way) (Zav Zj2)
theorem ZBa:LoopOK e127 39 ZzS (ZaT e127.P 127 3) :=
 Zba (L:=ZaA []) (rounds:=20) (depth:=6) (ts:=[0,1,4,5,6]) (v:=(Zaa (Zad .i64) (Zaa (Zad .i64) (Zaa (Zak ZaD) (Zaa (Zak (Za8 (Zae (ZaK 3 .int) (ZaK 47 (.lst .entry))) Memo (fun y=>⟨y.1,y.2⟩) (fun x=>(x.words,x.boxes)) (fun _=>rfl))) (Zac (Zad .i64))))))) (a:=⟨.exit 0,[1,4,5],(Zaa (Zad .i64) (Zaa (Zak ZaD) (Zac (Zak (Za8 (Zae (ZaK 3 .int) (ZaK 47 (.lst .entry))) Memo (fun y=>⟨y.1,y.2⟩) (fun x=>(x.words,x.boxes)) (fun _=>rfl))))))⟩) (step:=Zj2) g127 rfl ZaC (fun x=>by kernel_rfl)
def s127:Spec:=Zar (Zaa (Zad .i64) (Zac (Zad .i64))) (Zat (Zap ZaD)) ZpE
theorem ZFc:Zaq Tryz.prog 127 s127 :=
 Zaj (V:=e127) (L:=(ZaA [(7,Zy6),(3,ZzS)])) (rounds:=20) (depth:=6) g127 (ZaV (nt:=39) (by kernel_rfl) (Zbe (by kernel_rfl)) (Zax ZBe (Zax ZBa ZaG))) (fun x=>by kernel_rfl)
def e128:Env:=env1 []
theorem g128:Zai e128:=Zan mix1 ent1 Zag
def s128:Spec:=Zar (Zaa (Zap ZaD) (Zaa (Zad .i64) (Zac (Zad .i64)))) (Zbl (Zaa (Zap ZaD) (Zac (Zad .i64)))) Zcv
theorem Zm9:Zaq Tryz.prog 128 s128 :=
 Zaj (V:=e128) (L:=nL) (rounds:=20) (depth:=6) g128 Zal (fun x=>by kernel_rfl)
def e86:Env:=env1 [(34,s34),(35,s35),(127,s127),(128,s128)]
theorem g86:Zai e86:=Zan mix1 ent1 (Zab ok34 rfl (Zab ok35 rfl (Zab ZFc rfl (Zab Zm9 rfl Zag))))
def ZB1:LSpec:=ZbO [1,2,3,4] (Zaa (Zak celConfig) (Zaa (Zak ZaD) (Zaa (Zak ZaD) (Zac (Zad .i64))))) (⟨.exit 0,[2,3],(Zaa (Zak ZaD) (Zac (Zak ZaD)))⟩:Way) (Zav Zhx)
theorem ZC6:LoopOK e86 27 ZB1 (ZaT e86.P 86 3) :=
 Zba (L:=ZaA []) (rounds:=20) (depth:=6) (ts:=[1,2,3,4]) (v:=(Zaa (Zak celConfig) (Zaa (Zak ZaD) (Zaa (Zak ZaD) (Zac (Zad .i64)))))) (a:=⟨.exit 0,[2,3],(Zaa (Zak ZaD) (Zac (Zak ZaD)))⟩) (step:=Zhx) g86 rfl ZaC (fun x=>by kernel_rfl)
def s86:Spec:=Zar (Zac (Zap celConfig)) (Zat (Zap ZaD)) Znw
theorem ok86:Zaq Tryz.prog 86 s86 :=
 Zaj (V:=e86) (L:=(ZaA [(3,ZB1)])) (rounds:=20) (depth:=6) g86 (ZaV (nt:=27) (by kernel_rfl) (Zbe (by kernel_rfl)) (Zax ZC6 ZaG)) (fun x=>by kernel_rfl)
def e87:Env:=env1 []
theorem g87:Zai e87:=Zan mix1 ent1 Zag
def s87:Spec:=Zar Zbz (Zat (Zap Za1)) Zps
theorem ok87:Zaq Tryz.prog 87 s87 :=
 Zaj (V:=e87) (L:=nL) (rounds:=20) (depth:=6) g87 Zal (fun x=>by kernel_rfl)
def e51:Env:=env1 [(23,s23),(86,s86),(87,s87)]
theorem g51:Zai e51:=Zan mix1 ent1 (Zab ok23 rfl (Zab ok86 rfl (Zab ok87 rfl Zag)))
def ZBW:LSpec:=ZbO [2,4,7,8] (Zaa (Zak celConfig) (Zaa (Zak ZaB) (Zaa (Zak (Za8 (Zae celConfig (Zae ZaD (Zae (ZaK 50 .thread) (Zae (Zao .i64) (Zae (Zao .i64) (Zae Zbk (Zae (Za7 .mark) (Za7 .event)))))))) Wld (fun y=>⟨y.1,y.2.1,y.2.2.1,y.2.2.2.1,y.2.2.2.2.1,y.2.2.2.2.2.1,y.2.2.2.2.2.2.1,y.2.2.2.2.2.2.2⟩) (fun x=>(x.c,(x.m,(x.t,(x.now,(x.steps,(x.tape,(x.log,x.hist)))))))) (fun _=>rfl))) (Zac (Zad .i64))))) (⟨.exit 0,[4,7],(Zaa (Zak ZaB) (Zac (Zak (Za8 (Zae celConfig (Zae ZaD (Zae (ZaK 50 .thread) (Zae (Zao .i64) (Zae (Zao .i64) (Zae Zbk (Zae (Za7 .mark) (Za7 .event)))))))) Wld (fun y=>⟨y.1,y.2.1,y.2.2.1,y.2.2.2.1,y.2.2.2.2.1,y.2.2.2.2.2.1,y.2.2.2.2.2.2.1,y.2.2.2.2.2.2.2⟩) (fun x=>(x.c,(x.m,(x.t,(x.now,(x.steps,(x.tape,(x.log,x.hist)))))))) (fun _=>rfl)))))⟩:Way) (Zav ZjF)
theorem ZDy:LoopOK e51 36 ZBW (ZaT e51.P 51 6) :=
 Zba (L:=ZaA []) (rounds:=20) (depth:=6) (ts:=[2,4,7,8]) (v:=(Zaa (Zak celConfig) (Zaa (Zak ZaB) (Zaa (Zak (Za8 (Zae celConfig (Zae ZaD (Zae (ZaK 50 .thread) (Zae (Zao .i64) (Zae (Zao .i64) (Zae Zbk (Zae (Za7 .mark) (Za7 .event)))))))) Wld (fun y=>⟨y.1,y.2.1,y.2.2.1,y.2.2.2.1,y.2.2.2.2.1,y.2.2.2.2.2.1,y.2.2.2.2.2.2.1,y.2.2.2.2.2.2.2⟩) (fun x=>(x.c,(x.m,(x.t,(x.now,(x.steps,(x.tape,(x.log,x.hist)))))))) (fun _=>rfl))) (Zac (Zad .i64)))))) (a:=⟨.exit 0,[4,7],(Zaa (Zak ZaB) (Zac (Zak (Za8 (Zae celConfig (Zae ZaD (Zae (ZaK 50 .thread) (Zae (Zao .i64) (Zae (Zao .i64) (Zae Zbk (Zae (Za7 .mark) (Za7 .event)))))))) Wld (fun y=>⟨y.1,y.2.1,y.2.2.1,y.2.2.2.1,y.2.2.2.2.1,y.2.2.2.2.2.1,y.2.2.2.2.2.2.1,y.2.2.2.2.2.2.2⟩) (fun x=>(x.c,(x.m,(x.t,(x.now,(x.steps,(x.tape,(x.log,x.hist)))))))) (fun _=>rfl)))))⟩) (step:=ZjF) g51 rfl ZaC (fun x=>by kernel_rfl)
def s51:Spec:=Zar (Zaa (Zap celConfig) (Zac (Zau .int))) (Zbl (Zaa (Zap ZaB) (Zac (Zad .i64)))) Zpp
theorem ok51:Zaq Tryz.prog 51 s51 :=
 Zaj (V:=e51) (L:=(ZaA [(6,ZBW)])) (rounds:=20) (depth:=6) g51 (ZaV (nt:=36) (by kernel_rfl) (Zbe (by kernel_rfl)) (Zax ZDy ZaG)) (fun x=>by kernel_rfl)
def e54:Env:=env1 [(31,s31)]
theorem g54:Zai e54:=Zan mix1 ent1 (Zab ok31 rfl Zag)
def s54:Spec:=Zar (Zaa (Zap celConfig) (Zac (Zap ZlV))) (Zat (Zad .i64)) Zj7
theorem ok54:Zaq Tryz.prog 54 s54 :=
 Zaj (V:=e54) (L:=nL) (rounds:=20) (depth:=6) g54 Zal (fun x=>by kernel_rfl)
def e82:Env:=env1 []
theorem g82:Zai e82:=Zan mix1 ent1 Zag
def s82:Spec:=Zar (Zac (Zap Za1)) (Zat (ZaE)) ZhY
theorem ok82:Zaq Tryz.prog 82 s82 :=
 Zaj (V:=e82) (L:=nL) (rounds:=20) (depth:=6) g82 Zal (fun x=>by kernel_rfl)
def e90:Env:=env1 []
theorem g90:Zai e90:=Zan mix1 ent1 Zag
def s90:Spec:=Zar (Zaa (Zap ZaB) (Zac (Zap ZkK))) (Zat (Zap ZaB)) Zh5
theorem ok90:Zaq Tryz.prog 90 s90 :=
 Zaj (V:=e90) (L:=nL) (rounds:=20) (depth:=6) g90 Zal (fun x=>by kernel_rfl)
def e91:Env:=env1 []
theorem g91:Zai e91:=Zan mix1 ent1 Zag
def s91:Spec:=Zar (Zaa (Zap ZaB) (Zaa (Zad .i64) (Zac (Zap Za1)))) (Zat (Zap ZaB)) Zix
theorem ok91:Zaq Tryz.prog 91 s91 :=
 Zaj (V:=e91) (L:=nL) (rounds:=20) (depth:=6) g91 Zal (fun x=>by kernel_rfl)
def e134:Env:=env1 []
theorem g134:Zai e134:=Zan mix1 ent1 Zag
def Zy3:LSpec:=ZbO [0,1,5,6] (Zaa (Zad .i64) (Zaa (Zad .i64) (Zaa (Zad .i64) (Zac (Zad .i64))))) (⟨.exit 0,[1,5],(Zaa (Zad .i64) (Zac (Zad .i64)))⟩:Way) (Zav Ziz)
theorem ZBt:LoopOK e134 22 Zy3 (ZaT e134.P 134 5) :=
 Zba (L:=ZaA []) (rounds:=20) (depth:=6) (ts:=[0,1,5,6]) (v:=(Zaa (Zad .i64) (Zaa (Zad .i64) (Zaa (Zad .i64) (Zac (Zad .i64)))))) (a:=⟨.exit 0,[1,5],(Zaa (Zad .i64) (Zac (Zad .i64)))⟩) (step:=Ziz) g134 rfl ZaC (fun x=>by kernel_rfl)
def s134:Spec:=Zar (Zaa (Zad .i64) (Zac (Zad .i64))) (Zat (Zad .i64)) ZoH
theorem ZER:Zaq Tryz.prog 134 s134 :=
 Zaj (V:=e134) (L:=(ZaA [(5,Zy3)])) (rounds:=20) (depth:=6) g134 (ZaV (nt:=22) (by kernel_rfl) (Zbe (by kernel_rfl)) (Zax ZBt ZaG)) (fun x=>by kernel_rfl)
def e92:Env:=env1 [(134,s134)]
theorem g92:Zai e92:=Zan mix1 ent1 (Zab ZER rfl Zag)
def s92:Spec:=Zar (Zaa (Zap celConfig) (Zaa (Zad .i64) (Zaa (Zap Za1) (Zaa (Zad .i64) (Zaa (Zap ZdW) (Zac (Zad .i64))))))) (Zat (Zap Za1)) Znu
theorem ok92:Zaq Tryz.prog 92 s92 :=
 Zaj (V:=e92) (L:=nL) (rounds:=20) (depth:=6) g92 Zal (fun x=>by kernel_rfl)
def e172:Env:=env1 []
theorem g172:Zai e172:=Zan mix1 ent1 Zag
def s172:Spec:=Zar (Zac (Zap Zas)) (Zat (Zap Zas)) Zny
theorem ZE5:Zaq Tryz.prog 172 s172 :=
 Zaj (V:=e172) (L:=nL) (rounds:=20) (depth:=6) g172 Zal (fun x=>by kernel_rfl)
def e197:Env:=env1 []
theorem g197:Zai e197:=Zan mix1 ent1 Zag
def s197:Spec:=Zar (Zaa (Zap ZaD) (Zac (Zad .i64))) (Zbl (Zaa (Zad .i64) (Zac (Zad .i64)))) ZcJ
theorem Znd:Zaq Tryz.prog 197 s197 :=
 Zaj (V:=e197) (L:=nL) (rounds:=20) (depth:=6) g197 Zal (fun x=>by kernel_rfl)
def e198:Env:=env1 []
theorem g198:Zai e198:=Zan mix1 ent1 Zag
def s198:Spec:=Zar Zbz (Zat (Zad .i64)) Zip
theorem Zyk:Zaq Tryz.prog 198 s198 :=
 Zaj (V:=e198) (L:=nL) (rounds:=20) (depth:=6) g198 Zal (fun x=>by kernel_rfl)
def e199:Env:=env1 [(74,s74)]
theorem g199:Zai e199:=Zan mix1 ent1 (Zab ok74 rfl Zag)
def s199:Spec:=Zar (Zaa (Zap celConfig) (Zac (Zad .i64))) (Zat (Zad .i64)) ZiF
theorem ZCg:Zaq Tryz.prog 199 s199 :=
 Zaj (V:=e199) (L:=nL) (rounds:=20) (depth:=6) g199 Zal (fun x=>by kernel_rfl)
def e200:Env:=env1 []
theorem g200:Zai e200:=Zan mix1 ent1 Zag
def s200:Spec:=Zar (Zac (Zap Zas)) (Zat (Zap Zas)) Zgm
theorem ZxY:Zaq Tryz.prog 200 s200 :=
 Zaj (V:=e200) (L:=nL) (rounds:=20) (depth:=6) g200 Zal (fun x=>by kernel_rfl)
def e202:Env:=env1 [(24,s24)]
theorem g202:Zai e202:=Zan mix1 ent1 (Zab ok24 rfl Zag)
def Zzm:LSpec:=ZbO [0,1,2,3,9] (Zaa (Zau .entry) (Zaa (Zad .i64) (Zaa (Zad .i64) (Zaa (Zad .i64) (Zac (Zad .i64)))))) (⟨.exit 0,[1],(Zac (Zad .i64))⟩:Way) (Zav Zj0)
theorem ZAF:LoopOK e202 29 Zzm (ZaT e202.P 202 2) :=
 Zba (L:=ZaA []) (rounds:=20) (depth:=6) (ts:=[0,1,2,3,9]) (v:=(Zaa (Zau .entry) (Zaa (Zad .i64) (Zaa (Zad .i64) (Zaa (Zad .i64) (Zac (Zad .i64))))))) (a:=⟨.exit 0,[1],(Zac (Zad .i64))⟩) (step:=Zj0) g202 rfl ZaC (fun x=>by kernel_rfl)
def s202:Spec:=Zar (Zaa (Zau .entry) (Zaa (Zad .i64) (Zaa (Zad .i64) (Zac (Zad .i64))))) (Zat (Zad .i64)) ZgT
theorem ZyK:Zaq Tryz.prog 202 s202 :=
 Zaj (V:=e202) (L:=(ZaA [(2,Zzm)])) (rounds:=20) (depth:=6) g202 (ZaV (nt:=29) (by kernel_rfl) (Zbe (by kernel_rfl)) (Zax ZAF ZaG)) (fun x=>by kernel_rfl)
def e236:Env:=env1 []
theorem g236:Zai e236:=Zan mix1 ent1 Zag
def ZAd:LSpec:=ZbO [0,1,5,6] (Zaa (Zau .entry) (Zaa (Zad .i64) (Zaa (ZaI 137 .entry) (Zac (Zad .i64))))) (⟨.exit 0,[5],(Zac (ZaI 137 .entry))⟩:Way) (Zav ZiG)
theorem ZAt:LoopOK e236 27 ZAd (ZaT e236.P 236 3) :=
 Zba (L:=ZaA []) (rounds:=20) (depth:=6) (ts:=[0,1,5,6]) (v:=(Zaa (Zau .entry) (Zaa (Zad .i64) (Zaa (ZaI 137 .entry) (Zac (Zad .i64)))))) (a:=⟨.exit 0,[5],(Zac (ZaI 137 .entry))⟩) (step:=ZiG) g236 rfl ZaC (fun x=>by kernel_rfl)
def s236:Spec:=Zar (Zaa (Zau .entry) (Zac (Zad .i64))) (Zat (Zau .entry)) ZkN
theorem ZCt:Zaq Tryz.prog 236 s236 :=
 Zaj (V:=e236) (L:=(ZaA [(3,ZAd)])) (rounds:=20) (depth:=6) g236 (ZaV (nt:=27) (by kernel_rfl) (Zbe (by kernel_rfl)) (Zax ZAt ZaG)) (fun x=>by kernel_rfl)
def e201:Env:=env1 [(38,s38),(128,s128),(198,s198),(199,s199),(200,s200),(202,s202),(236,s236)]
theorem g201:Zai e201:=Zan mix1 ent1 (Zab ok38 rfl (Zab Zm9 rfl (Zab Zyk rfl (Zab ZCg rfl (Zab ZxY rfl (Zab ZyK rfl (Zab ZCt rfl Zag)))))))
def s201:Spec:=Zar (Zac (Zap Zas)) (Zat (Zap Zas)) ZkX
theorem ZFA:Zaq Tryz.prog 201 s201 :=
 Zaj (V:=e201) (L:=nL) (rounds:=20) (depth:=6) g201 Zal (fun x=>by kernel_rfl)
def e173:Env:=env1 [(38,s38),(197,s197),(198,s198),(199,s199),(200,s200),(201,s201)]
theorem g173:Zai e173:=Zan mix1 ent1 (Zab ok38 rfl (Zab Znd rfl (Zab Zyk rfl (Zab ZCg rfl (Zab ZxY rfl (Zab ZFA rfl Zag))))))
def s173:Spec:=Zar (Zac (Zap Zas)) (Zbl (Zaa (Zap Zas) (Zac (ZaE)))) Zoh
theorem ZFy:Zaq Tryz.prog 173 s173 :=
 Zaj (V:=e173) (L:=nL) (rounds:=20) (depth:=6) g173 Zal (fun x=>by kernel_rfl)
def e237:Env:=env1 [(202,s202),(236,s236)]
theorem g237:Zai e237:=Zan mix1 ent1 (Zab ZyK rfl (Zab ZCt rfl Zag))
def ZzH:LSpec:=ZbO [0,1,2,3,9,10] (Zaa (Zau .entry) (Zaa (Zad .i64) (Zaa (Zad .i64) (Zaa (Zad .i64) (Zaa (ZaI 3 .int) (Zac (Zad .i64))))))) (⟨.exit 0,[9],(Zac (ZaI 3 .int))⟩:Way) (Zav Zhf)
theorem ZBD:LoopOK e237 29 ZzH (ZaT e237.P 237 3) :=
 Zba (L:=ZaA []) (rounds:=20) (depth:=6) (ts:=[0,1,2,3,9,10]) (v:=(Zaa (Zau .entry) (Zaa (Zad .i64) (Zaa (Zad .i64) (Zaa (Zad .i64) (Zaa (ZaI 3 .int) (Zac (Zad .i64)))))))) (a:=⟨.exit 0,[9],(Zac (ZaI 3 .int))⟩) (step:=Zhf) g237 rfl ZaC (fun x=>by kernel_rfl)
def s237:Spec:=Zar (Zaa (Zau .entry) (Zaa (Zad .i64) (Zaa (Zad .i64) (Zac (Zad .i64))))) (Zat (Zau .int)) Zmu
theorem ZFG:Zaq Tryz.prog 237 s237 :=
 Zaj (V:=e237) (L:=(ZaA [(3,ZzH)])) (rounds:=20) (depth:=6) g237 (ZaV (nt:=29) (by kernel_rfl) (Zbe (by kernel_rfl)) (Zax ZBD ZaG)) (fun x=>by kernel_rfl)
def e203:Env:=env1 [(200,s200),(237,s237)]
theorem g203:Zai e203:=Zan mix1 ent1 (Zab ZxY rfl (Zab ZFG rfl Zag))
def ZzP:LSpec:=ZbO [1,2,4,5,6,7] (Zaa (Zad .i64) (Zaa (Zak Zas) (Zaa (Zak Zas) (Zaa (Zau .int) (Zaa (ZaI 162 .mark) (Zac (Zad .i64))))))) (⟨.exit 0,[1,2,4,6],(Zaa (Zad .i64) (Zaa (Zak Zas) (Zaa (Zak Zas) (Zac (ZaI 162 .mark)))))⟩:Way) (Zav Zhe)
theorem ZA2:LoopOK e203 65 ZzP (ZaT e203.P 203 4) :=
 Zba (L:=ZaA []) (rounds:=20) (depth:=6) (ts:=[1,2,4,5,6,7]) (v:=(Zaa (Zad .i64) (Zaa (Zak Zas) (Zaa (Zak Zas) (Zaa (Zau .int) (Zaa (ZaI 162 .mark) (Zac (Zad .i64)))))))) (a:=⟨.exit 0,[1,2,4,6],(Zaa (Zad .i64) (Zaa (Zak Zas) (Zaa (Zak Zas) (Zac (ZaI 162 .mark)))))⟩) (step:=Zhe) g203 rfl ZaC (fun x=>by kernel_rfl)
def s203:Spec:=Zar (Zaa (Zap Zas) (Zac (Zad .i64))) (Zat (Zap Zas)) Ze2
theorem ZEN:Zaq Tryz.prog 203 s203 :=
 Zaj (V:=e203) (L:=(ZaA [(4,ZzP)])) (rounds:=20) (depth:=6) g203 (ZaV (nt:=65) (by kernel_rfl) (Zbe (by kernel_rfl)) (Zax ZA2 ZaG)) (fun x=>by kernel_rfl)
def e208:Env:=env1 []
theorem g208:Zai e208:=Zan mix1 ent1 Zag
def s208:Spec:=Zar (Zac (Zap Zas)) (Zat (ZaE)) Zhw
theorem Zx3:Zaq Tryz.prog 208 s208 :=
 Zaj (V:=e208) (L:=nL) (rounds:=20) (depth:=6) g208 Zal (fun x=>by kernel_rfl)
def e204:Env:=env1 [(208,s208)]
theorem g204:Zai e204:=Zan mix1 ent1 (Zab Zx3 rfl Zag)
def s204:Spec:=Zar (Zac (Zap Zas)) (Zat (Zap Zas)) Zgk
theorem ZCe:Zaq Tryz.prog 204 s204 :=
 Zaj (V:=e204) (L:=nL) (rounds:=20) (depth:=6) g204 Zal (fun x=>by kernel_rfl)
def e205:Env:=env1 [(128,s128),(197,s197)]
theorem g205:Zai e205:=Zan mix1 ent1 (Zab Zm9 rfl (Zab Znd rfl Zag))
def s205:Spec:=Zar (Zaa (Zap ZaD) (Zaa (Zad .i64) (Zaa (Zad .i64) (Zac (Zad .i64))))) (Zbl (Zaa (Zap ZaD) (Zaa (ZaE) (Zac (Zad .i64))))) ZeH
theorem ZtZ:Zaq Tryz.prog 205 s205 :=
 Zaj (V:=e205) (L:=nL) (rounds:=20) (depth:=6) g205 Zal (fun x=>by kernel_rfl)
def e206:Env:=env1 []
theorem g206:Zai e206:=Zan mix1 ent1 Zag
def s206:Spec:=Zar (Zaa (Zad .i64) (Zac (Zad .i64))) (Zat (Zad .i64)) Zka
theorem ZE1:Zaq Tryz.prog 206 s206 :=
 Zaj (V:=e206) (L:=nL) (rounds:=20) (depth:=6) g206 Zal (fun x=>by kernel_rfl)
def e174:Env:=env1 [(35,s35),(197,s197),(202,s202),(203,s203),(204,s204),(205,s205),(206,s206)]
theorem g174:Zai e174:=Zan mix1 ent1 (Zab ok35 rfl (Zab Znd rfl (Zab ZyK rfl (Zab ZEN rfl (Zab ZCe rfl (Zab ZtZ rfl (Zab ZE1 rfl Zag)))))))
def s174:Spec:=Zar (Zac (Zap Zas)) (Zbl (Zaa (Zap Zas) (Zac (ZaE)))) ZoF
theorem ZFK:Zaq Tryz.prog 174 s174 :=
 Zaj (V:=e174) (L:=nL) (rounds:=20) (depth:=6) g174 Zal (fun x=>by kernel_rfl)
def e210:Env:=env1 []
theorem g210:Zai e210:=Zan mix1 ent1 Zag
def s210:Spec:=Zar (Zac (Zad .i64)) (Zat (Zad .i64)) Zfs
theorem ZxK:Zaq Tryz.prog 210 s210 :=
 Zaj (V:=e210) (L:=nL) (rounds:=20) (depth:=6) g210 Zal (fun x=>by kernel_rfl)
def e212:Env:=env1 []
theorem g212:Zai e212:=Zan mix1 ent1 Zag
def s212:Spec:=Zar (Zac (Zad .i64)) (Zat (Zad .i64)) Zi1
theorem ZBX:Zaq Tryz.prog 212 s212 :=
 Zaj (V:=e212) (L:=nL) (rounds:=20) (depth:=6) g212 Zal (fun x=>by kernel_rfl)
def e219:Env:=env1 []
theorem g219:Zai e219:=Zan mix1 ent1 Zag
def s219:Spec:=Zar (Zac (Zad .i64)) (Zat (Zad .i64)) ZgA
theorem ZCA:Zaq Tryz.prog 219 s219 :=
 Zaj (V:=e219) (L:=nL) (rounds:=20) (depth:=6) g219 Zal (fun x=>by kernel_rfl)
def e238:Env:=env1 []
theorem g238:Zai e238:=Zan mix1 ent1 Zag
def s238:Spec:=Zar (Zaa (Zad .i64) (Zac (Zad .i64))) (Zat (Zad .i64)) ZfQ
theorem Zt3:Zaq Tryz.prog 238 s238 :=
 Zaj (V:=e238) (L:=nL) (rounds:=20) (depth:=6) g238 Zal (fun x=>by kernel_rfl)
def e207:Env:=env1 [(198,s198),(210,s210),(212,s212),(219,s219),(238,s238)]
theorem g207:Zai e207:=Zan mix1 ent1 (Zab Zyk rfl (Zab ZxK rfl (Zab ZBX rfl (Zab ZCA rfl (Zab Zt3 rfl Zag)))))
def Zsn:LSpec:=Zc0 [0,4,5] (Zaa (Zad .i64) (Zaa (Zad .i64) (Zac (Zad .i64)))) (⟨.exit 4,[0,4],(Zaa (Zad .i64) (Zac (Zad .i64)))⟩:Way) (⟨.ret,[2],(Zac (Zad .i64))⟩:Way) (Zav Zh7)
theorem ZsO:LoopOK e207 40 Zsn (ZaT e207.P 207 18) :=
 Zb6 (L:=ZaA []) (rounds:=20) (depth:=6) (ts:=[0,4,5]) (v:=(Zaa (Zad .i64) (Zaa (Zad .i64) (Zac (Zad .i64))))) (a:=⟨.exit 4,[0,4],(Zaa (Zad .i64) (Zac (Zad .i64)))⟩) (b:=⟨.ret,[2],(Zac (Zad .i64))⟩) (step:=Zh7) g207 rfl rfl ZaC (fun x=>by kernel_rfl)
def ZwZ:LSpec:=Zc0 [0,4] (Zaa (Zad .i64) (Zac (Zad .i64))) (⟨.exit 2,[],Zbz⟩:Way) (⟨.ret,[2],(Zac (Zad .i64))⟩:Way) (Zav ZhX)
theorem ZAs:LoopOK e207 40 ZwZ (ZaT e207.P 207 15) :=
 Zb6 (L:=ZaA [(18,Zsn)]) (rounds:=20) (depth:=6) (ts:=[0,4]) (v:=(Zaa (Zad .i64) (Zac (Zad .i64)))) (a:=⟨.exit 2,[],Zbz⟩) (b:=⟨.ret,[2],(Zac (Zad .i64))⟩) (step:=ZhX) g207 rfl rfl (Zp7 (by kernel_rfl) (Zax ZsO ZaG)) (fun x=>by kernel_rfl)
def ZyY:LSpec:=Zc0 [0,3] (Zaa (Zad .i64) (Zac (Zad .i64))) (⟨.exit 0,[0],(Zac (Zad .i64))⟩:Way) (⟨.ret,[2],(Zac (Zad .i64))⟩:Way) (Zav Zi3)
theorem ZBI:LoopOK e207 40 ZyY (ZaT e207.P 207 6) :=
 Zb6 (L:=ZaA []) (rounds:=20) (depth:=6) (ts:=[0,3]) (v:=(Zaa (Zad .i64) (Zac (Zad .i64)))) (a:=⟨.exit 0,[0],(Zac (Zad .i64))⟩) (b:=⟨.ret,[2],(Zac (Zad .i64))⟩) (step:=Zi3) g207 rfl rfl ZaC (fun x=>by kernel_rfl)
def s207:Spec:=Zar (Zac (Zad .i64)) (Zat (Zad .i64)) ZfY
theorem ZyH:Zaq Tryz.prog 207 s207 :=
 Zaj (V:=e207) (L:=(ZaA [(18,Zsn),(15,ZwZ),(6,ZyY)])) (rounds:=20) (depth:=6) g207 (ZaV (nt:=40) (by kernel_rfl) (Zbe (by kernel_rfl)) (Zax ZsO (Zax ZAs (Zax ZBI ZaG)))) (fun x=>by kernel_rfl)
def e239:Env:=env1 []
theorem g239:Zai e239:=Zan mix1 ent1 Zag
def s239:Spec:=Zar (Zac (Zap Zas)) (Zat (Zap Zas)) Zlk
theorem ZCQ:Zaq Tryz.prog 239 s239 :=
 Zaj (V:=e239) (L:=nL) (rounds:=20) (depth:=6) g239 Zal (fun x=>by kernel_rfl)
def e209:Env:=env1 [(239,s239)]
theorem g209:Zai e209:=Zan mix1 ent1 (Zab ZCQ rfl Zag)
def s209:Spec:=Zar (Zac (Zap Zas)) (Zat (Zap Zas)) ZhC
theorem ZEB:Zaq Tryz.prog 209 s209 :=
 Zaj (V:=e209) (L:=nL) (rounds:=20) (depth:=6) g209 Zal (fun x=>by kernel_rfl)
def e211:Env:=env1 []
theorem g211:Zai e211:=Zan mix1 ent1 Zag
def s211:Spec:=Zar (Zac (Zad .i64)) (Zat (Zad .i64)) ZmE
theorem ZFl:Zaq Tryz.prog 211 s211 :=
 Zaj (V:=e211) (L:=nL) (rounds:=20) (depth:=6) g211 Zal (fun x=>by kernel_rfl)
def e175:Env:=env1 [(37,s37),(197,s197),(205,s205),(207,s207),(208,s208),(209,s209),(210,s210),(211,s211),(212,s212)]
theorem g175:Zai e175:=Zan mix1 ent1 (Zab ok37 rfl (Zab Znd rfl (Zab ZtZ rfl (Zab ZyH rfl (Zab Zx3 rfl (Zab ZEB rfl (Zab ZxK rfl (Zab ZFl rfl (Zab ZBX rfl Zag)))))))))
def s175:Spec:=Zar (Zac (Zap Zas)) (Zbl (Zaa (Zap Zas) (Zac (ZaE)))) ZkJ
theorem ZFP:Zaq Tryz.prog 175 s175 :=
 Zaj (V:=e175) (L:=nL) (rounds:=20) (depth:=6) g175 Zal (fun x=>by kernel_rfl)
def e213:Env:=env1 [(37,s37)]
theorem g213:Zai e213:=Zan mix1 ent1 (Zab ok37 rfl Zag)
def s213:Spec:=Zar (Zac (Zap Zas)) (Zat (Zad .i64)) Zob
theorem ZFr:Zaq Tryz.prog 213 s213 :=
 Zaj (V:=e213) (L:=nL) (rounds:=20) (depth:=6) g213 Zal (fun x=>by kernel_rfl)
def e214:Env:=env1 [(207,s207)]
theorem g214:Zai e214:=Zan mix1 ent1 (Zab ZyH rfl Zag)
def s214:Spec:=Zar (Zac (Zad .i64)) (Zat (Zad .i64)) ZpI
theorem ZE0:Zaq Tryz.prog 214 s214 :=
 Zaj (V:=e214) (L:=nL) (rounds:=20) (depth:=6) g214 Zal (fun x=>by kernel_rfl)
def e215:Env:=env1 [(239,s239)]
theorem g215:Zai e215:=Zan mix1 ent1 (Zab ZCQ rfl Zag)
def s215:Spec:=Zar (Zac (Zap Zas)) (Zat (Zap Zas)) ZkM
theorem ZFD:Zaq Tryz.prog 215 s215 :=
 Zaj (V:=e215) (L:=nL) (rounds:=20) (depth:=6) g215 Zal (fun x=>by kernel_rfl)
def e216:Env:=env1 []
theorem g216:Zai e216:=Zan mix1 ent1 Zag
def s216:Spec:=Zar (Zaa (Zap ZaD) (Zac (Zad .i64))) (Zbl (Zaa (Zau .entry) (Zac (Zad .i64)))) Zl7
theorem ZCP:Zaq Tryz.prog 216 s216 :=
 Zaj (V:=e216) (L:=nL) (rounds:=20) (depth:=6) g216 Zal (fun x=>by kernel_rfl)
def e240:Env:=env1 []
theorem g240:Zai e240:=Zan mix1 ent1 Zag
def ZzG:LSpec:=ZbO [0,3,4] (Zaa (Zau (.lst .entry)) (Zaa (ZaI 137 .entry) (Zac (Zad .i64)))) (⟨.exit 0,[3],(Zac (ZaI 137 .entry))⟩:Way) (Zav ZiD)
theorem ZBf:LoopOK e240 19 ZzG (ZaT e240.P 240 3) :=
 Zba (L:=ZaA []) (rounds:=20) (depth:=6) (ts:=[0,3,4]) (v:=(Zaa (Zau (.lst .entry)) (Zaa (ZaI 137 .entry) (Zac (Zad .i64))))) (a:=⟨.exit 0,[3],(Zac (ZaI 137 .entry))⟩) (step:=ZiD) g240 rfl ZaC (fun x=>by kernel_rfl)
def s240:Spec:=Zar (Zac (Zau (.lst .entry))) (Zat (Zau .entry)) Zox
theorem ZFM:Zaq Tryz.prog 240 s240 :=
 Zaj (V:=e240) (L:=(ZaA [(3,ZzG)])) (rounds:=20) (depth:=6) g240 (ZaV (nt:=19) (by kernel_rfl) (Zbe (by kernel_rfl)) (Zax ZBf ZaG)) (fun x=>by kernel_rfl)
def e217:Env:=env1 [(240,s240)]
theorem g217:Zai e217:=Zan mix1 ent1 (Zab ZFM rfl Zag)
def s217:Spec:=Zar (Zaa (Zap Zas) (Zaa (Zad .i64) (Zac (Zau .entry)))) (Zat (Zap Zas)) Zlr
theorem ZCU:Zaq Tryz.prog 217 s217 :=
 Zaj (V:=e217) (L:=nL) (rounds:=20) (depth:=6) g217 Zal (fun x=>by kernel_rfl)
def e218:Env:=env1 []
theorem g218:Zai e218:=Zan mix1 ent1 Zag
def s218:Spec:=Zar (Zaa (Zap ZaD) (Zaa (Zad .i64) (Zac (Zau .entry)))) (Zbl (Zaa (Zap ZaD) (Zac (Zad .i64)))) Zmi
theorem ZCJ:Zaq Tryz.prog 218 s218 :=
 Zaj (V:=e218) (L:=nL) (rounds:=20) (depth:=6) g218 Zal (fun x=>by kernel_rfl)
def e176:Env:=env1 [(37,s37),(128,s128),(197,s197),(205,s205),(207,s207),(210,s210),(213,s213),(214,s214),(215,s215),(216,s216),(217,s217),(218,s218),(219,s219)]
theorem g176:Zai e176:=Zan mix1 ent1 (Zab ok37 rfl (Zab Zm9 rfl (Zab Znd rfl (Zab ZtZ rfl (Zab ZyH rfl (Zab ZxK rfl (Zab ZFr rfl (Zab ZE0 rfl (Zab ZFD rfl (Zab ZCP rfl (Zab ZCU rfl (Zab ZCJ rfl (Zab ZCA rfl Zag)))))))))))))
def s176:Spec:=Zar (Zac (Zap Zas)) (Zbl (Zaa (Zap Zas) (Zac (ZaE)))) ZfZ
theorem ZFv:Zaq Tryz.prog 176 s176 :=
 Zaj (V:=e176) (L:=nL) (rounds:=20) (depth:=6) g176 Zal (fun x=>by kernel_rfl)
def e220:Env:=env1 [(38,s38),(128,s128),(238,s238)]
theorem g220:Zai e220:=Zan mix1 ent1 (Zab ok38 rfl (Zab Zm9 rfl (Zab Zt3 rfl Zag)))
def s220:Spec:=Zar (Zaa (Zap Zas) (Zac (Zad .i64))) (Zat (Zap Zas)) ZiZ
theorem ZFQ:Zaq Tryz.prog 220 s220 :=
 Zaj (V:=e220) (L:=nL) (rounds:=20) (depth:=6) g220 Zal (fun x=>by kernel_rfl)
def e247:Env:=env1 []
theorem g247:Zai e247:=Zan mix1 ent1 Zag
def s247:Spec:=Zar (Zac (Zap Zbk)) (Zbl (Zaa (Zad .i64) (Zac (Zap Zbk)))) Zoa
theorem ZEt:Zaq Tryz.prog 247 s247 :=
 Zaj (V:=e247) (L:=nL) (rounds:=20) (depth:=6) g247 Zal (fun x=>by kernel_rfl)
def e241:Env:=env1 [(247,s247)]
theorem g241:Zai e241:=Zan mix1 ent1 (Zab ZEt rfl Zag)
def s241:Spec:=Zar (Zaa (Zap Zbk) (Zac (Zad .i64))) (Zbl (Zaa (Zad .i64) (Zac (Zap Zbk)))) ZnD
theorem ZES:Zaq Tryz.prog 241 s241 :=
 Zaj (V:=e241) (L:=nL) (rounds:=20) (depth:=6) g241 Zal (fun x=>by kernel_rfl)
def e242:Env:=env1 [(128,s128),(197,s197)]
theorem g242:Zai e242:=Zan mix1 ent1 (Zab Zm9 rfl (Zab Znd rfl Zag))
def s242:Spec:=Zar (Zaa (Zap ZaD) (Zaa (Zad .i64) (Zac (Zad .i64)))) (Zbl (Zaa (Zap ZaD) (Zaa (Zad .i64) (Zac (Zad .i64))))) ZoK
theorem ZFh:Zaq Tryz.prog 242 s242 :=
 Zaj (V:=e242) (L:=nL) (rounds:=20) (depth:=6) g242 Zal (fun x=>by kernel_rfl)
def e243:Env:=env1 [(36,s36),(74,s74)]
theorem g243:Zai e243:=Zan mix1 ent1 (Zab ok36 rfl (Zab ok74 rfl Zag))
def s243:Spec:=Zar (Zaa (Zap celConfig) (Zaa (Zad .i64) (Zaa (Zad .i64) (Zac (Zad .i64))))) (Zat (Zad .i64)) Zop
theorem ZFj:Zaq Tryz.prog 243 s243 :=
 Zaj (V:=e243) (L:=nL) (rounds:=20) (depth:=6) g243 Zal (fun x=>by kernel_rfl)
def e221:Env:=env1 [(241,s241),(242,s242),(243,s243)]
theorem g221:Zai e221:=Zan mix1 ent1 (Zab ZES rfl (Zab ZFh rfl (Zab ZFj rfl Zag)))
def s221:Spec:=Zar (Zac (Zap Zas)) (Zat (Zap Zas)) Zoi
theorem ZEM:Zaq Tryz.prog 221 s221 :=
 Zaj (V:=e221) (L:=nL) (rounds:=20) (depth:=6) g221 Zal (fun x=>by kernel_rfl)
def e222:Env:=env1 [(38,s38),(205,s205),(238,s238)]
theorem g222:Zai e222:=Zan mix1 ent1 (Zab ok38 rfl (Zab ZtZ rfl (Zab Zt3 rfl Zag)))
def s222:Spec:=Zar (Zaa (Zap Zas) (Zaa (Zad .i64) (Zaa (Zad .i64) (Zac (Zad .i64))))) (Zat (Zap Zas)) Zfb
theorem ZEy:Zaq Tryz.prog 222 s222 :=
 Zaj (V:=e222) (L:=nL) (rounds:=20) (depth:=6) g222 Zal (fun x=>by kernel_rfl)
def e223:Env:=env1 [(38,s38),(197,s197),(208,s208),(238,s238)]
theorem g223:Zai e223:=Zan mix1 ent1 (Zab ok38 rfl (Zab Znd rfl (Zab Zx3 rfl (Zab Zt3 rfl Zag))))
def s223:Spec:=Zar (Zac (Zap Zas)) (Zat (Zap Zas)) Zn2
theorem ZFz:Zaq Tryz.prog 223 s223 :=
 Zaj (V:=e223) (L:=nL) (rounds:=20) (depth:=6) g223 Zal (fun x=>by kernel_rfl)
def e224:Env:=env1 []
theorem g224:Zai e224:=Zan mix1 ent1 Zag
def s224:Spec:=Zar (Zac (Zad .i64)) (Zat (Zad .i64)) Zou
theorem ZFe:Zaq Tryz.prog 224 s224 :=
 Zaj (V:=e224) (L:=nL) (rounds:=20) (depth:=6) g224 Zal (fun x=>by kernel_rfl)
def e177:Env:=env1 [(204,s204),(216,s216),(217,s217),(218,s218),(220,s220),(221,s221),(222,s222),(223,s223),(224,s224)]
theorem g177:Zai e177:=Zan mix1 ent1 (Zab ZCe rfl (Zab ZCP rfl (Zab ZCU rfl (Zab ZCJ rfl (Zab ZFQ rfl (Zab ZEM rfl (Zab ZEy rfl (Zab ZFz rfl (Zab ZFe rfl Zag)))))))))
def s177:Spec:=Zar (Zac (Zap Zas)) (Zbl (Zaa (Zap Zas) (Zac (ZaE)))) Zc5
theorem ZFu:Zaq Tryz.prog 177 s177 :=
 Zaj (V:=e177) (L:=nL) (rounds:=20) (depth:=6) g177 Zal (fun x=>by kernel_rfl)
def e135:Env:=env1 [(38,s38),(128,s128),(172,s172),(173,s173),(174,s174),(175,s175),(176,s176),(177,s177)]
theorem g135:Zai e135:=Zan mix1 ent1 (Zab ok38 rfl (Zab Zm9 rfl (Zab ZE5 rfl (Zab ZFy rfl (Zab ZFK rfl (Zab ZFP rfl (Zab ZFv rfl (Zab ZFu rfl Zag))))))))
def s135:Spec:=Zar (Zac (Zap Zas)) (Zat (Zap Zas)) Zoj
theorem ZEZ:Zaq Tryz.prog 135 s135 :=
 Zaj (V:=e135) (L:=nL) (rounds:=20) (depth:=6) g135 Zal (fun x=>by kernel_rfl)
def e93:Env:=env1 [(24,s24),(90,s90),(91,s91),(135,s135)]
theorem g93:Zai e93:=Zan mix1 ent1 (Zab ok24 rfl (Zab ok90 rfl (Zab ok91 rfl (Zab ZEZ rfl Zag))))
def ZB8:LSpec:=ZbO [1,2,4,5,6,7] (Zaa (Zad .i64) (Zaa (Zak ZaB) (Zaa (Zak ZaB) (Zaa (Zak Zas) (Zaa (ZaI 162 .mark) (Zac (Zad .i64))))))) (⟨.exit 0,[1,2,4,5,6],(Zaa (Zad .i64) (Zaa (Zak ZaB) (Zaa (Zak ZaB) (Zaa (Zak Zas) (Zac (ZaI 162 .mark))))))⟩:Way) (Zav ZiL)
theorem ZCZ:LoopOK e93 101 ZB8 (ZaT e93.P 93 8) :=
 Zba (L:=ZaA []) (rounds:=20) (depth:=6) (ts:=[1,2,4,5,6,7]) (v:=(Zaa (Zad .i64) (Zaa (Zak ZaB) (Zaa (Zak ZaB) (Zaa (Zak Zas) (Zaa (ZaI 162 .mark) (Zac (Zad .i64)))))))) (a:=⟨.exit 0,[1,2,4,5,6],(Zaa (Zad .i64) (Zaa (Zak ZaB) (Zaa (Zak ZaB) (Zaa (Zak Zas) (Zac (ZaI 162 .mark))))))⟩) (step:=ZiL) g93 rfl ZaC (fun x=>by kernel_rfl)
def s93:Spec:=Zar (Zaa (Zap ZaB) (Zac (Zad .i64))) (Zat (Zap ZaB)) ZoE
theorem ok93:Zaq Tryz.prog 93 s93 :=
 Zaj (V:=e93) (L:=(ZaA [(8,ZB8)])) (rounds:=20) (depth:=6) g93 (ZaV (nt:=101) (by kernel_rfl) (Zbe (by kernel_rfl)) (Zax ZCZ ZaG)) (fun x=>by kernel_rfl)
def e53:Env:=env1 [(54,s54),(82,s82),(90,s90),(91,s91),(92,s92),(93,s93)]
theorem g53:Zai e53:=Zan mix1 ent1 (Zab ok54 rfl (Zab ok82 rfl (Zab ok90 rfl (Zab ok91 rfl (Zab ok92 rfl (Zab ok93 rfl Zag))))))
def s53:Spec:=Zar (Zaa (Zap ZaB) (Zac (Zap ZlV))) (Zbl (Zaa (Zap ZaB) (Zac (Zad .i64)))) Zn0
theorem ok53:Zaq Tryz.prog 53 s53 :=
 Zaj (V:=e53) (L:=nL) (rounds:=20) (depth:=6) g53 Zal (fun x=>by kernel_rfl)
def e77:Env:=env1 [(23,s23),(54,s54)]
theorem g77:Zai e77:=Zan mix1 ent1 (Zab ok23 rfl (Zab ok54 rfl Zag))
def ZB5:LSpec:=Zc0 [1,2,7] (Zaa (Zau .sentry) (Zaa (Zak celConfig) (Zac (Zad .i64)))) (⟨.exit 0,[],Zbz⟩:Way) (⟨.ret,[4,5],(Zaa (Zad .i64) (Zac (Zad .i64)))⟩:Way) (Zav ZjT)
theorem ZDe:LoopOK e77 33 ZB5 (ZaT e77.P 77 7) :=
 Zb6 (L:=ZaA []) (rounds:=20) (depth:=6) (ts:=[1,2,7]) (v:=(Zaa (Zau .sentry) (Zaa (Zak celConfig) (Zac (Zad .i64))))) (a:=⟨.exit 0,[],Zbz⟩) (b:=⟨.ret,[4,5],(Zaa (Zad .i64) (Zac (Zad .i64)))⟩) (step:=ZjT) g77 rfl rfl ZaC (fun x=>by kernel_rfl)
def s77:Spec:=Zar (Zaa (Zap celConfig) (Zac (Zau .sentry))) (Zbl (Zaa (Zad .i64) (Zac (Zad .i64)))) Zpl
theorem ok77:Zaq Tryz.prog 77 s77 :=
 Zaj (V:=e77) (L:=(ZaA [(7,ZB5)])) (rounds:=20) (depth:=6) g77 (ZaV (nt:=33) (by kernel_rfl) (Zbe (by kernel_rfl)) (Zax ZDe ZaG)) (fun x=>by kernel_rfl)
def e42:Env:=env1 [(51,s51),(53,s53),(77,s77)]
theorem g42:Zai e42:=Zan mix1 ent1 (Zab ok51 rfl (Zab ok53 rfl (Zab ok77 rfl Zag)))
def ZCz:LSpec:=ZbO [1,6,11,13] (Zaa (Zau .sentry) (Zaa (Zak ZaB) (Zaa (Zak ZaB) (Zac (Zad .i64))))) (⟨.exit 0,[6,11],(Zaa (Zak ZaB) (Zac (Zak ZaB)))⟩:Way) (Zav ZjY)
theorem ZDW:LoopOK e42 47 ZCz (ZaT e42.P 42 6) :=
 Zba (L:=ZaA []) (rounds:=20) (depth:=6) (ts:=[1,6,11,13]) (v:=(Zaa (Zau .sentry) (Zaa (Zak ZaB) (Zaa (Zak ZaB) (Zac (Zad .i64)))))) (a:=⟨.exit 0,[6,11],(Zaa (Zak ZaB) (Zac (Zak ZaB)))⟩) (step:=ZjY) g42 rfl ZaC (fun x=>by kernel_rfl)
def s42:Spec:=Zar (Zaa (Zap celConfig) (Zaa (Zau .sentry) (Zac (Zau .int)))) (Zbl (Zaa (Zap ZaB) (Zaa (Zad .i64) (Zac (Zad .i64))))) Zv6
theorem ok42:Zaq Tryz.prog 42 s42 :=
 Zaj (V:=e42) (L:=(ZaA [(6,ZCz)])) (rounds:=20) (depth:=6) g42 (ZaV (nt:=47) (by kernel_rfl) (Zbe (by kernel_rfl)) (Zax ZDW ZaG)) (fun x=>by kernel_rfl)
def e43:Env:=env1 []
theorem g43:Zai e43:=Zan mix1 ent1 Zag
def ZB7:LSpec:=ZbO [0,3,4] (Zaa (Zau .sentry) (Zaa (ZaI 112 .sentry) (Zac (Zad .i64)))) (⟨.exit 0,[3],(Zac (ZaI 112 .sentry))⟩:Way) (Zav ZhK)
theorem ZDL:LoopOK e43 37 ZB7 (ZaT e43.P 43 3) :=
 Zba (L:=ZaA []) (rounds:=20) (depth:=6) (ts:=[0,3,4]) (v:=(Zaa (Zau .sentry) (Zaa (ZaI 112 .sentry) (Zac (Zad .i64))))) (a:=⟨.exit 0,[3],(Zac (ZaI 112 .sentry))⟩) (step:=ZhK) g43 rfl ZaC (fun x=>by kernel_rfl)
def s43:Spec:=Zar (Zac (Zau .sentry)) (Zat (Zau .sentry)) ZtG
theorem ok43:Zaq Tryz.prog 43 s43 :=
 Zaj (V:=e43) (L:=(ZaA [(3,ZB7)])) (rounds:=20) (depth:=6) g43 (ZaV (nt:=37) (by kernel_rfl) (Zbe (by kernel_rfl)) (Zax ZDL ZaG)) (fun x=>by kernel_rfl)
def e78:Env:=env1 []
theorem g78:Zai e78:=Zan mix1 ent1 Zag
def ZCf:LSpec:=Zc0 [0,1,5] (Zaa (Zau .event) (Zaa (Zau .event) (Zac (Zad .i64)))) (⟨.exit 0,[],Zbz⟩:Way) (⟨.ret,[4],(Zac (ZaE))⟩:Way) (Zav Zei)
theorem ZDd:LoopOK e78 26 ZCf (ZaT e78.P 78 4) :=
 Zb6 (L:=ZaA []) (rounds:=20) (depth:=6) (ts:=[0,1,5]) (v:=(Zaa (Zau .event) (Zaa (Zau .event) (Zac (Zad .i64))))) (a:=⟨.exit 0,[],Zbz⟩) (b:=⟨.ret,[4],(Zac (ZaE))⟩) (step:=Zei) g78 rfl rfl ZaC (fun x=>by kernel_rfl)
def s78:Spec:=Zar (Zaa (Zau .event) (Zac (Zau .event))) (Zat (ZaE)) ZiA
theorem ok78:Zaq Tryz.prog 78 s78 :=
 Zaj (V:=e78) (L:=(ZaA [(4,ZCf)])) (rounds:=20) (depth:=6) g78 (ZaV (nt:=26) (by kernel_rfl) (Zbe (by kernel_rfl)) (Zax ZDd ZaG)) (fun x=>by kernel_rfl)
def e44:Env:=env1 [(56,s56),(57,s57),(58,s58),(59,s59),(78,s78)]
theorem g44:Zai e44:=Zan mix1 ent1 (Zab ok56 rfl (Zab ok57 rfl (Zab ok58 rfl (Zab ok59 rfl (Zab ok78 rfl Zag)))))
def ZCR:LSpec:=Zc0 [2,3,5] (Zaa (Zak ZaB) (Zaa (Zak ZaB) (Zac (Zad .i64)))) (⟨.exit 0,[],Zbz⟩:Way) (⟨.ret,[4],(Zac (ZaE))⟩:Way) (Zav ZeU)
theorem ZDh:LoopOK e44 85 ZCR (ZaT e44.P 44 4) :=
 Zb6 (L:=ZaA []) (rounds:=20) (depth:=6) (ts:=[2,3,5]) (v:=(Zaa (Zak ZaB) (Zaa (Zak ZaB) (Zac (Zad .i64))))) (a:=⟨.exit 0,[],Zbz⟩) (b:=⟨.ret,[4],(Zac (ZaE))⟩) (step:=ZeU) g44 rfl rfl ZaC (fun x=>by kernel_rfl)
def s44:Spec:=Zar (Zaa (Zap ZaB) (Zac (Zap ZaB))) (Zat (ZaE)) ZkE
theorem ok44:Zaq Tryz.prog 44 s44 :=
 Zaj (V:=e44) (L:=(ZaA [(4,ZCR)])) (rounds:=20) (depth:=6) g44 (ZaV (nt:=85) (by kernel_rfl) (Zbe (by kernel_rfl)) (Zax ZDh ZaG)) (fun x=>by kernel_rfl)
def e125:Env:=env1 []
theorem g125:Zai e125:=Zan mix1 ent1 Zag
def Zzy:LSpec:=ZbO [0,3,4] (Zaa (Zau .entry) (Zaa (ZaI 137 .entry) (Zac (Zad .i64)))) (⟨.exit 0,[3],(Zac (ZaI 137 .entry))⟩:Way) (Zav ZdR)
theorem ZBF:LoopOK e125 27 Zzy (ZaT e125.P 125 3) :=
 Zba (L:=ZaA []) (rounds:=20) (depth:=6) (ts:=[0,3,4]) (v:=(Zaa (Zau .entry) (Zaa (ZaI 137 .entry) (Zac (Zad .i64))))) (a:=⟨.exit 0,[3],(Zac (ZaI 137 .entry))⟩) (step:=ZdR) g125 rfl ZaC (fun x=>by kernel_rfl)
def s125:Spec:=Zar (Zac (Zau .entry)) (Zat (ZaI 137 .entry)) ZeD
theorem ZCC:Zaq Tryz.prog 125 s125 :=
 Zaj (V:=e125) (L:=(ZaA [(3,Zzy)])) (rounds:=20) (depth:=6) g125 (ZaV (nt:=27) (by kernel_rfl) (Zbe (by kernel_rfl)) (Zax ZBF ZaG)) (fun x=>by kernel_rfl)
def e79:Env:=env1 [(125,s125)]
theorem g79:Zai e79:=Zan mix1 ent1 (Zab ZCC rfl Zag)
def ZBL:LSpec:=ZbO [1,2,3,4] (Zaa (Zak ZaD) (Zaa (Zak ZaD) (Zaa (Zak (Za8 (Zae (Za7 .int) (ZaK 47 (.lst .entry))) Memo (fun y=>⟨y.1,y.2⟩) (fun x=>(x.words,x.boxes)) (fun _=>rfl))) (Zac (Zad .i64))))) (⟨.exit 0,[2,3],(Zaa (Zak ZaD) (Zac (Zak (Za8 (Zae (Za7 .int) (ZaK 47 (.lst .entry))) Memo (fun y=>⟨y.1,y.2⟩) (fun x=>(x.words,x.boxes)) (fun _=>rfl)))))⟩:Way) (Zav Zef)
theorem ZCY:LoopOK e79 27 ZBL (ZaT e79.P 79 3) :=
 Zba (L:=ZaA []) (rounds:=20) (depth:=6) (ts:=[1,2,3,4]) (v:=(Zaa (Zak ZaD) (Zaa (Zak ZaD) (Zaa (Zak (Za8 (Zae (Za7 .int) (ZaK 47 (.lst .entry))) Memo (fun y=>⟨y.1,y.2⟩) (fun x=>(x.words,x.boxes)) (fun _=>rfl))) (Zac (Zad .i64)))))) (a:=⟨.exit 0,[2,3],(Zaa (Zak ZaD) (Zac (Zak (Za8 (Zae (Za7 .int) (ZaK 47 (.lst .entry))) Memo (fun y=>⟨y.1,y.2⟩) (fun x=>(x.words,x.boxes)) (fun _=>rfl)))))⟩) (step:=Zef) g79 rfl ZaC (fun x=>by kernel_rfl)
def s79:Spec:=Zar (Zac (Zap ZaD)) (Zat (Zap ZaD)) ZiK
theorem ok79:Zaq Tryz.prog 79 s79 :=
 Zaj (V:=e79) (L:=(ZaA [(3,ZBL)])) (rounds:=20) (depth:=6) g79 (ZaV (nt:=27) (by kernel_rfl) (Zbe (by kernel_rfl)) (Zax ZCY ZaG)) (fun x=>by kernel_rfl)
def e80:Env:=env1 []
theorem g80:Zai e80:=Zan mix1 ent1 Zag
def ZB0:LSpec:=ZbO [0,3,4] (Zaa (Zau .mark) (Zaa (ZaI 162 .mark) (Zac (Zad .i64)))) (⟨.exit 0,[3],(Zac (ZaI 162 .mark))⟩:Way) (Zav ZeB)
theorem ZC2:LoopOK e80 42 ZB0 (ZaT e80.P 80 3) :=
 Zba (L:=ZaA []) (rounds:=20) (depth:=6) (ts:=[0,3,4]) (v:=(Zaa (Zau .mark) (Zaa (ZaI 162 .mark) (Zac (Zad .i64))))) (a:=⟨.exit 0,[3],(Zac (ZaI 162 .mark))⟩) (step:=ZeB) g80 rfl ZaC (fun x=>by kernel_rfl)
def s80:Spec:=Zar (Zac (Zau .mark)) (Zat (Zau .mark)) ZjR
theorem ok80:Zaq Tryz.prog 80 s80 :=
 Zaj (V:=e80) (L:=(ZaA [(3,ZB0)])) (rounds:=20) (depth:=6) g80 (ZaV (nt:=42) (by kernel_rfl) (Zbe (by kernel_rfl)) (Zax ZC2 ZaG)) (fun x=>by kernel_rfl)
def e81:Env:=env1 [(125,s125)]
theorem g81:Zai e81:=Zan mix1 ent1 (Zab ZCC rfl Zag)
def ZCL:LSpec:=ZbO [1,2,3,4] (Zaa (Zak Za1) (Zaa (Zak Za1) (Zaa (Zak (Za8 (Zae (Zao .i64) (Zae (Zao .i64) (Zae ZdW (Zae (Za7 .entry) (Zae (ZaK 160 .kid) (Zae (Za7 .int) (Zae (Zao .i64) (Zae (Zao .i64) (Zae (Zao .i64) (Zae (Zao .i64) (Zae (Zao .i64) (Zae (Zao .i64) (Zae (Zao .i64) (Zae (Zao .i64) (Zae (Zao .i64) (Zao .i64)))))))))))))))) Thread (fun y=>⟨y.1,y.2.1,y.2.2.1,y.2.2.2.1,y.2.2.2.2.1,y.2.2.2.2.2.1,y.2.2.2.2.2.2.1,y.2.2.2.2.2.2.2.1,y.2.2.2.2.2.2.2.2.1,y.2.2.2.2.2.2.2.2.2.1,y.2.2.2.2.2.2.2.2.2.2.1,y.2.2.2.2.2.2.2.2.2.2.2.1,y.2.2.2.2.2.2.2.2.2.2.2.2.1,y.2.2.2.2.2.2.2.2.2.2.2.2.2.1,y.2.2.2.2.2.2.2.2.2.2.2.2.2.2.1,y.2.2.2.2.2.2.2.2.2.2.2.2.2.2.2⟩) (fun x=>(x.phase,(x.item,(x.op,(x.batch,(x.kids,(x.held,(x.stop,(x.node,(x.at_,(x.layer,(x.left,(x.width,(x.who,(x.x,(x.y,x.until_)))))))))))))))) (fun _=>rfl))) (Zac (Zad .i64))))) (⟨.exit 0,[2,3],(Zaa (Zak Za1) (Zac (Zak (Za8 (Zae (Zao .i64) (Zae (Zao .i64) (Zae ZdW (Zae (Za7 .entry) (Zae (ZaK 160 .kid) (Zae (Za7 .int) (Zae (Zao .i64) (Zae (Zao .i64) (Zae (Zao .i64) (Zae (Zao .i64) (Zae (Zao .i64) (Zae (Zao .i64) (Zae (Zao .i64) (Zae (Zao .i64) (Zae (Zao .i64) (Zao .i64)))))))))))))))) Thread (fun y=>⟨y.1,y.2.1,y.2.2.1,y.2.2.2.1,y.2.2.2.2.1,y.2.2.2.2.2.1,y.2.2.2.2.2.2.1,y.2.2.2.2.2.2.2.1,y.2.2.2.2.2.2.2.2.1,y.2.2.2.2.2.2.2.2.2.1,y.2.2.2.2.2.2.2.2.2.2.1,y.2.2.2.2.2.2.2.2.2.2.2.1,y.2.2.2.2.2.2.2.2.2.2.2.2.1,y.2.2.2.2.2.2.2.2.2.2.2.2.2.1,y.2.2.2.2.2.2.2.2.2.2.2.2.2.2.1,y.2.2.2.2.2.2.2.2.2.2.2.2.2.2.2⟩) (fun x=>(x.phase,(x.item,(x.op,(x.batch,(x.kids,(x.held,(x.stop,(x.node,(x.at_,(x.layer,(x.left,(x.width,(x.who,(x.x,(x.y,x.until_)))))))))))))))) (fun _=>rfl)))))⟩:Way) (Zav ZeA)
theorem ZDS:LoopOK e81 55 ZCL (ZaT e81.P 81 3) :=
 Zba (L:=ZaA []) (rounds:=20) (depth:=6) (ts:=[1,2,3,4]) (v:=(Zaa (Zak Za1) (Zaa (Zak Za1) (Zaa (Zak (Za8 (Zae (Zao .i64) (Zae (Zao .i64) (Zae ZdW (Zae (Za7 .entry) (Zae (ZaK 160 .kid) (Zae (Za7 .int) (Zae (Zao .i64) (Zae (Zao .i64) (Zae (Zao .i64) (Zae (Zao .i64) (Zae (Zao .i64) (Zae (Zao .i64) (Zae (Zao .i64) (Zae (Zao .i64) (Zae (Zao .i64) (Zao .i64)))))))))))))))) Thread (fun y=>⟨y.1,y.2.1,y.2.2.1,y.2.2.2.1,y.2.2.2.2.1,y.2.2.2.2.2.1,y.2.2.2.2.2.2.1,y.2.2.2.2.2.2.2.1,y.2.2.2.2.2.2.2.2.1,y.2.2.2.2.2.2.2.2.2.1,y.2.2.2.2.2.2.2.2.2.2.1,y.2.2.2.2.2.2.2.2.2.2.2.1,y.2.2.2.2.2.2.2.2.2.2.2.2.1,y.2.2.2.2.2.2.2.2.2.2.2.2.2.1,y.2.2.2.2.2.2.2.2.2.2.2.2.2.2.1,y.2.2.2.2.2.2.2.2.2.2.2.2.2.2.2⟩) (fun x=>(x.phase,(x.item,(x.op,(x.batch,(x.kids,(x.held,(x.stop,(x.node,(x.at_,(x.layer,(x.left,(x.width,(x.who,(x.x,(x.y,x.until_)))))))))))))))) (fun _=>rfl))) (Zac (Zad .i64)))))) (a:=⟨.exit 0,[2,3],(Zaa (Zak Za1) (Zac (Zak (Za8 (Zae (Zao .i64) (Zae (Zao .i64) (Zae ZdW (Zae (Za7 .entry) (Zae (ZaK 160 .kid) (Zae (Za7 .int) (Zae (Zao .i64) (Zae (Zao .i64) (Zae (Zao .i64) (Zae (Zao .i64) (Zae (Zao .i64) (Zae (Zao .i64) (Zae (Zao .i64) (Zae (Zao .i64) (Zae (Zao .i64) (Zao .i64)))))))))))))))) Thread (fun y=>⟨y.1,y.2.1,y.2.2.1,y.2.2.2.1,y.2.2.2.2.1,y.2.2.2.2.2.1,y.2.2.2.2.2.2.1,y.2.2.2.2.2.2.2.1,y.2.2.2.2.2.2.2.2.1,y.2.2.2.2.2.2.2.2.2.1,y.2.2.2.2.2.2.2.2.2.2.1,y.2.2.2.2.2.2.2.2.2.2.2.1,y.2.2.2.2.2.2.2.2.2.2.2.2.1,y.2.2.2.2.2.2.2.2.2.2.2.2.2.1,y.2.2.2.2.2.2.2.2.2.2.2.2.2.2.1,y.2.2.2.2.2.2.2.2.2.2.2.2.2.2.2⟩) (fun x=>(x.phase,(x.item,(x.op,(x.batch,(x.kids,(x.held,(x.stop,(x.node,(x.at_,(x.layer,(x.left,(x.width,(x.who,(x.x,(x.y,x.until_)))))))))))))))) (fun _=>rfl)))))⟩) (step:=ZeA) g81 rfl ZaC (fun x=>by kernel_rfl)
def s81:Spec:=Zar (Zac (Zap Za1)) (Zat (Zap Za1)) ZjV
theorem ok81:Zaq Tryz.prog 81 s81 :=
 Zaj (V:=e81) (L:=(ZaA [(3,ZCL)])) (rounds:=20) (depth:=6) g81 (ZaV (nt:=55) (by kernel_rfl) (Zbe (by kernel_rfl)) (Zax ZDS ZaG)) (fun x=>by kernel_rfl)
def e45:Env:=env1 [(79,s79),(80,s80),(81,s81)]
theorem g45:Zai e45:=Zan mix1 ent1 (Zab ok79 rfl (Zab ok80 rfl (Zab ok81 rfl Zag)))
def ZCl:LSpec:=ZbO [1,2,3,5] (Zaa (Zak ZaB) (Zaa (Zak ZaB) (Zaa (Zak (Za8 (Zae celConfig (Zae ZaD (Zae (ZaK 50 .thread) (Zae (Zao .i64) (Zae (Zao .i64) (Zae Zbk (Zae (Za7 .mark) (ZaK 144 .event)))))))) Wld (fun y=>⟨y.1,y.2.1,y.2.2.1,y.2.2.2.1,y.2.2.2.2.1,y.2.2.2.2.2.1,y.2.2.2.2.2.2.1,y.2.2.2.2.2.2.2⟩) (fun x=>(x.c,(x.m,(x.t,(x.now,(x.steps,(x.tape,(x.log,x.hist)))))))) (fun _=>rfl))) (Zac (Zad .i64))))) (⟨.exit 2,[2,3],(Zaa (Zak ZaB) (Zac (Zak (Za8 (Zae celConfig (Zae ZaD (Zae (ZaK 50 .thread) (Zae (Zao .i64) (Zae (Zao .i64) (Zae Zbk (Zae (Za7 .mark) (ZaK 144 .event)))))))) Wld (fun y=>⟨y.1,y.2.1,y.2.2.1,y.2.2.2.1,y.2.2.2.2.1,y.2.2.2.2.2.1,y.2.2.2.2.2.2.1,y.2.2.2.2.2.2.2⟩) (fun x=>(x.c,(x.m,(x.t,(x.now,(x.steps,(x.tape,(x.log,x.hist)))))))) (fun _=>rfl)))))⟩:Way) (Zav Zd3)
theorem ZDt:LoopOK e45 78 ZCl (ZaT e45.P 45 7) :=
 Zba (L:=ZaA []) (rounds:=20) (depth:=6) (ts:=[1,2,3,5]) (v:=(Zaa (Zak ZaB) (Zaa (Zak ZaB) (Zaa (Zak (Za8 (Zae celConfig (Zae ZaD (Zae (ZaK 50 .thread) (Zae (Zao .i64) (Zae (Zao .i64) (Zae Zbk (Zae (Za7 .mark) (ZaK 144 .event)))))))) Wld (fun y=>⟨y.1,y.2.1,y.2.2.1,y.2.2.2.1,y.2.2.2.2.1,y.2.2.2.2.2.1,y.2.2.2.2.2.2.1,y.2.2.2.2.2.2.2⟩) (fun x=>(x.c,(x.m,(x.t,(x.now,(x.steps,(x.tape,(x.log,x.hist)))))))) (fun _=>rfl))) (Zac (Zad .i64)))))) (a:=⟨.exit 2,[2,3],(Zaa (Zak ZaB) (Zac (Zak (Za8 (Zae celConfig (Zae ZaD (Zae (ZaK 50 .thread) (Zae (Zao .i64) (Zae (Zao .i64) (Zae Zbk (Zae (Za7 .mark) (ZaK 144 .event)))))))) Wld (fun y=>⟨y.1,y.2.1,y.2.2.1,y.2.2.2.1,y.2.2.2.2.1,y.2.2.2.2.2.1,y.2.2.2.2.2.2.1,y.2.2.2.2.2.2.2⟩) (fun x=>(x.c,(x.m,(x.t,(x.now,(x.steps,(x.tape,(x.log,x.hist)))))))) (fun _=>rfl)))))⟩) (step:=Zd3) g45 rfl ZaC (fun x=>by kernel_rfl)
def ZBU:LSpec:=ZbO [1,2,3,4] (Zaa (Zak ZaB) (Zaa (Zak ZaB) (Zaa (Zak (Za8 (Zae celConfig (Zae ZaD (Zae (ZaK 50 .thread) (Zae (Zao .i64) (Zae (Zao .i64) (Zae Zbk (Zae (Za7 .mark) (ZaK 144 .event)))))))) Wld (fun y=>⟨y.1,y.2.1,y.2.2.1,y.2.2.2.1,y.2.2.2.2.1,y.2.2.2.2.2.1,y.2.2.2.2.2.2.1,y.2.2.2.2.2.2.2⟩) (fun x=>(x.c,(x.m,(x.t,(x.now,(x.steps,(x.tape,(x.log,x.hist)))))))) (fun _=>rfl))) (Zac (Zad .i64))))) (⟨.exit 0,[1,2,3],(Zaa (Zak ZaB) (Zaa (Zak ZaB) (Zac (Zak (Za8 (Zae celConfig (Zae ZaD (Zae (ZaK 50 .thread) (Zae (Zao .i64) (Zae (Zao .i64) (Zae Zbk (Zae (Za7 .mark) (ZaK 144 .event)))))))) Wld (fun y=>⟨y.1,y.2.1,y.2.2.1,y.2.2.2.1,y.2.2.2.2.1,y.2.2.2.2.2.1,y.2.2.2.2.2.2.1,y.2.2.2.2.2.2.2⟩) (fun x=>(x.c,(x.m,(x.t,(x.now,(x.steps,(x.tape,(x.log,x.hist)))))))) (fun _=>rfl))))))⟩:Way) (Zav Zee)
theorem ZDv:LoopOK e45 78 ZBU (ZaT e45.P 45 3) :=
 Zba (L:=ZaA []) (rounds:=20) (depth:=6) (ts:=[1,2,3,4]) (v:=(Zaa (Zak ZaB) (Zaa (Zak ZaB) (Zaa (Zak (Za8 (Zae celConfig (Zae ZaD (Zae (ZaK 50 .thread) (Zae (Zao .i64) (Zae (Zao .i64) (Zae Zbk (Zae (Za7 .mark) (ZaK 144 .event)))))))) Wld (fun y=>⟨y.1,y.2.1,y.2.2.1,y.2.2.2.1,y.2.2.2.2.1,y.2.2.2.2.2.1,y.2.2.2.2.2.2.1,y.2.2.2.2.2.2.2⟩) (fun x=>(x.c,(x.m,(x.t,(x.now,(x.steps,(x.tape,(x.log,x.hist)))))))) (fun _=>rfl))) (Zac (Zad .i64)))))) (a:=⟨.exit 0,[1,2,3],(Zaa (Zak ZaB) (Zaa (Zak ZaB) (Zac (Zak (Za8 (Zae celConfig (Zae ZaD (Zae (ZaK 50 .thread) (Zae (Zao .i64) (Zae (Zao .i64) (Zae Zbk (Zae (Za7 .mark) (ZaK 144 .event)))))))) Wld (fun y=>⟨y.1,y.2.1,y.2.2.1,y.2.2.2.1,y.2.2.2.2.1,y.2.2.2.2.2.1,y.2.2.2.2.2.2.1,y.2.2.2.2.2.2.2⟩) (fun x=>(x.c,(x.m,(x.t,(x.now,(x.steps,(x.tape,(x.log,x.hist)))))))) (fun _=>rfl))))))⟩) (step:=Zee) g45 rfl ZaC (fun x=>by kernel_rfl)
def s45:Spec:=Zar (Zac (Zap ZaB)) (Zat (Zap ZaB)) Zgh
theorem ok45:Zaq Tryz.prog 45 s45 :=
 Zaj (V:=e45) (L:=(ZaA [(7,ZCl),(3,ZBU)])) (rounds:=20) (depth:=6) g45 (ZaV (nt:=78) (by kernel_rfl) (Zbe (by kernel_rfl)) (Zax ZDt (Zax ZDv ZaG))) (fun x=>by kernel_rfl)
def e46:Env:=env1 [(33,s33)]
theorem g46:Zai e46:=Zan mix1 ent1 (Zab ok33 rfl Zag)
def ZCy:LSpec:=ZbO [2,6,7,8] (Zaa (Zad .i64) (Zaa (Zau .thread) (Zaa (Zad .i64) (Zac (Zad .i64))))) (⟨.exit 0,[2],(Zac (Zad .i64))⟩:Way) (Zav Zja)
theorem ZDI:LoopOK e46 18 ZCy (ZaT e46.P 46 2) :=
 Zba (L:=ZaA []) (rounds:=20) (depth:=6) (ts:=[2,6,7,8]) (v:=(Zaa (Zad .i64) (Zaa (Zau .thread) (Zaa (Zad .i64) (Zac (Zad .i64)))))) (a:=⟨.exit 0,[2],(Zac (Zad .i64))⟩) (step:=Zja) g46 rfl ZaC (fun x=>by kernel_rfl)
def s46:Spec:=Zar (Zac (Zap ZaB)) (Zat (Zad .i64)) ZvJ
theorem ok46:Zaq Tryz.prog 46 s46 :=
 Zaj (V:=e46) (L:=(ZaA [(2,ZCy)])) (rounds:=20) (depth:=6) g46 (ZaV (nt:=18) (by kernel_rfl) (Zbe (by kernel_rfl)) (Zax ZDI ZaG)) (fun x=>by kernel_rfl)
def e47:Env:=env1 [(82,s82)]
theorem g47:Zai e47:=Zan mix1 ent1 (Zab ok82 rfl Zag)
def ZCs:LSpec:=ZbO [1,3,4] (Zaa (Zak ZaB) (Zaa (Zad .i64) (Zac (Zad .i64)))) (⟨.exit 0,[3],(Zac (Zad .i64))⟩:Way) (Zav Zi8)
theorem ZD1:LoopOK e47 21 ZCs (ZaT e47.P 47 3) :=
 Zba (L:=ZaA []) (rounds:=20) (depth:=6) (ts:=[1,3,4]) (v:=(Zaa (Zak ZaB) (Zaa (Zad .i64) (Zac (Zad .i64))))) (a:=⟨.exit 0,[3],(Zac (Zad .i64))⟩) (step:=Zi8) g47 rfl ZaC (fun x=>by kernel_rfl)
def s47:Spec:=Zar (Zac (Zap ZaB)) (Zat (Zad .i64)) Zu3
theorem ok47:Zaq Tryz.prog 47 s47 :=
 Zaj (V:=e47) (L:=(ZaA [(3,ZCs)])) (rounds:=20) (depth:=6) g47 (ZaV (nt:=21) (by kernel_rfl) (Zbe (by kernel_rfl)) (Zax ZD1 ZaG)) (fun x=>by kernel_rfl)
def e48:Env:=env1 [(24,s24),(34,s34),(35,s35)]
theorem g48:Zai e48:=Zan mix1 ent1 (Zab ok24 rfl (Zab ok34 rfl (Zab ok35 rfl Zag)))
def ZyD:LSpec:=Zc0 [2,3,5,6,7,8] (Zaa (Zak celConfig) (Zaa (Zak ZaB) (Zaa (Zak celConfig) (Zaa (Zad .i64) (Zaa (Zad .i64) (Zac (Zad .i64))))))) (⟨.exit 2,[2,3,5,6,7],(Zaa (Zak celConfig) (Zaa (Zak ZaB) (Zaa (Zak celConfig) (Zaa (Zad .i64) (Zac (Zad .i64))))))⟩:Way) (⟨.ret,[4],(Zac (ZaE))⟩:Way) (Zav Zie)
theorem Zxw:LoopOK e48 103 ZyD (ZaT e48.P 48 9) :=
 Zb6 (L:=ZaA []) (rounds:=20) (depth:=6) (ts:=[2,3,5,6,7,8]) (v:=(Zaa (Zak celConfig) (Zaa (Zak ZaB) (Zaa (Zak celConfig) (Zaa (Zad .i64) (Zaa (Zad .i64) (Zac (Zad .i64)))))))) (a:=⟨.exit 2,[2,3,5,6,7],(Zaa (Zak celConfig) (Zaa (Zak ZaB) (Zaa (Zak celConfig) (Zaa (Zad .i64) (Zac (Zad .i64))))))⟩) (b:=⟨.ret,[4],(Zac (ZaE))⟩) (step:=Zie) g48 rfl rfl ZaC (fun x=>by kernel_rfl)
def ZBR:LSpec:=Zc0 [2,3,5,6] (Zaa (Zak celConfig) (Zaa (Zak ZaB) (Zaa (Zak celConfig) (Zac (Zad .i64))))) (⟨.exit 0,[],Zbz⟩:Way) (⟨.ret,[4],(Zac (ZaE))⟩:Way) (Zav Zik)
theorem ZDH:LoopOK e48 103 ZBR (ZaT e48.P 48 5) :=
 Zb6 (L:=ZaA [(9,ZyD)]) (rounds:=20) (depth:=6) (ts:=[2,3,5,6]) (v:=(Zaa (Zak celConfig) (Zaa (Zak ZaB) (Zaa (Zak celConfig) (Zac (Zad .i64)))))) (a:=⟨.exit 0,[],Zbz⟩) (b:=⟨.ret,[4],(Zac (ZaE))⟩) (step:=Zik) g48 rfl rfl (Zp7 (by kernel_rfl) (Zax Zxw ZaG)) (fun x=>by kernel_rfl)
def s48:Spec:=Zar (Zaa (Zap celConfig) (Zac (Zap ZaB))) (Zat (ZaE)) ZtE
theorem ok48:Zaq Tryz.prog 48 s48 :=
 Zaj (V:=e48) (L:=(ZaA [(9,ZyD),(5,ZBR)])) (rounds:=20) (depth:=6) g48 (ZaV (nt:=103) (by kernel_rfl) (Zbe (by kernel_rfl)) (Zax Zxw (Zax ZDH ZaG))) (fun x=>by kernel_rfl)
def e49:Env:=env1 [(24,s24)]
theorem g49:Zai e49:=Zan mix1 ent1 (Zab ok24 rfl Zag)
def ZvZ:LSpec:=Zc0 [2,3,5,6,8,9,10,11] (Zaa (Zak celConfig) (Zaa (Zak ZaB) (Zaa (Zad .i64) (Zaa (ZaI 74 .mark) (Zaa (Zad .i64) (Zaa (ZaE) (Zaa (Zak ZkK) (Zac (Zad .i64))))))))) (⟨.exit 4,[2,3,5,6,8,9,10],(Zaa (Zak celConfig) (Zaa (Zak ZaB) (Zaa (Zad .i64) (Zaa (ZaI 74 .mark) (Zaa (Zad .i64) (Zaa (ZaE) (Zac (Zak ZkK))))))))⟩:Way) (⟨.ret,[4],(Zac (ZaE))⟩:Way) (Zav Zf1)
theorem ZvO:LoopOK e49 213 ZvZ (ZaT e49.P 49 16) :=
 Zb6 (L:=ZaA []) (rounds:=20) (depth:=6) (ts:=[2,3,5,6,8,9,10,11]) (v:=(Zaa (Zak celConfig) (Zaa (Zak ZaB) (Zaa (Zad .i64) (Zaa (ZaI 74 .mark) (Zaa (Zad .i64) (Zaa (ZaE) (Zaa (Zak ZkK) (Zac (Zad .i64)))))))))) (a:=⟨.exit 4,[2,3,5,6,8,9,10],(Zaa (Zak celConfig) (Zaa (Zak ZaB) (Zaa (Zad .i64) (Zaa (ZaI 74 .mark) (Zaa (Zad .i64) (Zaa (ZaE) (Zac (Zak ZkK))))))))⟩) (b:=⟨.ret,[4],(Zac (ZaE))⟩) (step:=Zf1) g49 rfl rfl ZaC (fun x=>by kernel_rfl)
def ZxP:LSpec:=ZbO [2,3,5,6,7] (Zaa (Zak celConfig) (Zaa (Zak ZaB) (Zaa (Zad .i64) (Zaa (ZaI 74 .mark) (Zac (Zad .i64)))))) (⟨.exit 2,[2,3,5,6],(Zaa (Zak celConfig) (Zaa (Zak ZaB) (Zaa (Zad .i64) (Zac (ZaI 74 .mark)))))⟩:Way) (Zav Zgw)
theorem Zxl:LoopOK e49 213 ZxP (ZaT e49.P 49 8) :=
 Zba (L:=ZaA []) (rounds:=20) (depth:=6) (ts:=[2,3,5,6,7]) (v:=(Zaa (Zak celConfig) (Zaa (Zak ZaB) (Zaa (Zad .i64) (Zaa (ZaI 74 .mark) (Zac (Zad .i64))))))) (a:=⟨.exit 2,[2,3,5,6],(Zaa (Zak celConfig) (Zaa (Zak ZaB) (Zaa (Zad .i64) (Zac (ZaI 74 .mark)))))⟩) (step:=Zgw) g49 rfl ZaC (fun x=>by kernel_rfl)
def ZCE:LSpec:=Zc0 [2,3,5] (Zaa (Zak celConfig) (Zaa (Zak ZaB) (Zac (Zad .i64)))) (⟨.exit 0,[],Zbz⟩:Way) (⟨.ret,[4],(Zac (ZaE))⟩:Way) (Zav Zgu)
theorem ZDo:LoopOK e49 213 ZCE (ZaT e49.P 49 4) :=
 Zb6 (L:=ZaA [(16,ZvZ),(8,ZxP)]) (rounds:=20) (depth:=6) (ts:=[2,3,5]) (v:=(Zaa (Zak celConfig) (Zaa (Zak ZaB) (Zac (Zad .i64))))) (a:=⟨.exit 0,[],Zbz⟩) (b:=⟨.ret,[4],(Zac (ZaE))⟩) (step:=Zgu) g49 rfl rfl (Zp7 (by kernel_rfl) (Zax ZvO (Zax Zxl ZaG))) (fun x=>by kernel_rfl)
def s49:Spec:=Zar (Zaa (Zap celConfig) (Zac (Zap ZaB))) (Zat (ZaE)) ZqL
theorem ok49:Zaq Tryz.prog 49 s49 :=
 Zaj (V:=e49) (L:=(ZaA [(16,ZvZ),(8,ZxP),(4,ZCE)])) (rounds:=20) (depth:=6) g49 (ZaV (nt:=213) (by kernel_rfl) (Zbe (by kernel_rfl)) (Zax ZvO (Zax Zxl (Zax ZDo ZaG)))) (fun x=>by kernel_rfl)
def e55:Env:=env1 []
theorem g55:Zai e55:=Zan mix1 ent1 Zag
def s55:Spec:=Zar (Zac (Zap Zas)) (Zat (Zap Zas)) ZfL
theorem ok55:Zaq Tryz.prog 55 s55 :=
 Zaj (V:=e55) (L:=nL) (rounds:=20) (depth:=6) g55 Zal (fun x=>by kernel_rfl)
def e85:Env:=env1 []
theorem g85:Zai e85:=Zan mix1 ent1 Zag
def s85:Spec:=Zar (Zac (Zau .int)) (Zat (ZaI 3 .int)) ZbB
theorem ok85:Zaq Tryz.prog 85 s85 :=
 ZiY (V:=e85) (L:=nL) (rounds:=20) (depth:=6) (r:=(Zat (ZaI 3 .int))) g85 Zal (by kernel_rfl) (fun x=>by kernel_rfl)
def e154:Env:=env1 []
theorem g154:Zai e154:=Zan mix1 ent1 Zag
def s154:Spec:=Zar (Zaa (Zau .int) (Zac (Zad .i64))) (Zbl (Zaa (Zad .i64) (Zac (Zad .i64)))) ZbH
theorem Zt5:Zaq Tryz.prog 154 s154 :=
 Zaj (V:=e154) (L:=nL) (rounds:=20) (depth:=6) g154 Zal (fun x=>by kernel_rfl)
def e95:Env:=env1 [(85,s85),(154,s154)]
theorem g95:Zai e95:=Zan mix1 ent1 (Zab ok85 rfl (Zab Zt5 rfl Zag))
def s95:Spec:=Zar (Zaa (Zap ZaD) (Zaa (Zad .i64) (Zac (Zad .i64)))) (Zbl (Zaa (Zap ZaD) (Zac (Zad .i64)))) Zcd
theorem ok95:Zaq Tryz.prog 95 s95 :=
 Zaj (V:=e95) (L:=nL) (rounds:=20) (depth:=6) g95 Zal (fun x=>by kernel_rfl)
def e96:Env:=env1 [(120,s120)]
theorem g96:Zai e96:=Zan mix1 ent1 (Zab Zo5 rfl Zag)
def s96:Spec:=Zar (Zaa (Zap celConfig) (Zac (Zad .i64))) (Zat (Zad .i64)) Zc3
theorem ok96:Zaq Tryz.prog 96 s96 :=
 Zaj (V:=e96) (L:=nL) (rounds:=20) (depth:=6) g96 Zal (fun x=>by kernel_rfl)
def e63:Env:=env1 [(55,s55),(95,s95),(96,s96)]
theorem g63:Zai e63:=Zan mix1 ent1 (Zab ok55 rfl (Zab ok95 rfl (Zab ok96 rfl Zag)))
def s63:Spec:=Zar (Zac (Zap Zas)) (Zbl (Zaa (Zap Zas) (Zac (ZaE)))) Zio
theorem ok63:Zaq Tryz.prog 63 s63 :=
 Zaj (V:=e63) (L:=nL) (rounds:=20) (depth:=6) g63 Zal (fun x=>by kernel_rfl)
def e105:Env:=env1 [(120,s120),(148,s148)]
theorem g105:Zai e105:=Zan mix1 ent1 (Zab Zo5 rfl (Zab ZBJ rfl Zag))
def s105:Spec:=Zar (Zaa (Zap celConfig) (Zaa (Zad .i64) (Zac (Zad .i64)))) (Zat (Zad .i64)) Zd2
theorem ZxI:Zaq Tryz.prog 105 s105 :=
 Zaj (V:=e105) (L:=nL) (rounds:=20) (depth:=6) g105 Zal (fun x=>by kernel_rfl)
def e150:Env:=env1 []
theorem g150:Zai e150:=Zan mix1 ent1 Zag
def s150:Spec:=Zar (Zac (Zap Zw0)) (Zat (Zad .i64)) ZbT
theorem Zqj:Zaq Tryz.prog 150 s150 :=
 Zaj (V:=e150) (L:=nL) (rounds:=20) (depth:=6) g150 Zal (fun x=>by kernel_rfl)
def e106:Env:=env1 [(150,s150)]
theorem g106:Zai e106:=Zan mix1 ent1 (Zab Zqj rfl Zag)
def s106:Spec:=Zar (Zac (Zad .i64)) (Zat (Zad .i64)) ZeX
theorem ZyE:Zaq Tryz.prog 106 s106 :=
 Zaj (V:=e106) (L:=nL) (rounds:=20) (depth:=6) g106 Zal (fun x=>by kernel_rfl)
def e151:Env:=env1 []
theorem g151:Zai e151:=Zan mix1 ent1 Zag
def s151:Spec:=Zar (Zac (Zad .i64)) (Zat (Zad .i64)) ZiT
theorem ZFL:Zaq Tryz.prog 151 s151 :=
 Zaj (V:=e151) (L:=nL) (rounds:=20) (depth:=6) g151 Zal (fun x=>by kernel_rfl)
def e181:Env:=env1 []
theorem g181:Zai e181:=Zan mix1 ent1 Zag
def s181:Spec:=Zar (Zac (Zap Zas)) (Zat (Zap Zas)) Zf8
theorem ZBY:Zaq Tryz.prog 181 s181 :=
 Zaj (V:=e181) (L:=nL) (rounds:=20) (depth:=6) g181 Zal (fun x=>by kernel_rfl)
def e152:Env:=env1 [(181,s181)]
theorem g152:Zai e152:=Zan mix1 ent1 (Zab ZBY rfl Zag)
def s152:Spec:=Zar (Zac (Zap Zas)) (Zat (Zap Zas)) Zd9
theorem Zyv:Zaq Tryz.prog 152 s152 :=
 Zaj (V:=e152) (L:=nL) (rounds:=20) (depth:=6) g152 Zal (fun x=>by kernel_rfl)
def e107:Env:=env1 [(85,s85),(151,s151),(152,s152)]
theorem g107:Zai e107:=Zan mix1 ent1 (Zab ok85 rfl (Zab ZFL rfl (Zab Zyv rfl Zag)))
def s107:Spec:=Zar (Zac (Zap Zas)) (Zat (Zap Zas)) ZjH
theorem ZFa:Zaq Tryz.prog 107 s107 :=
 Zaj (V:=e107) (L:=nL) (rounds:=20) (depth:=6) g107 Zal (fun x=>by kernel_rfl)
def e109:Env:=env1 [(85,s85),(154,s154)]
theorem g109:Zai e109:=Zan mix1 ent1 (Zab ok85 rfl (Zab Zt5 rfl Zag))
def s109:Spec:=Zar (Zaa (Zap ZaD) (Zaa (Zad .i64) (Zaa (Zad .i64) (Zac (Zad .i64))))) (Zbl (Zaa (Zap ZaD) (Zaa (ZaE) (Zac (Zad .i64))))) ZcQ
theorem Zt6:Zaq Tryz.prog 109 s109 :=
 Zaj (V:=e109) (L:=nL) (rounds:=20) (depth:=6) g109 Zal (fun x=>by kernel_rfl)
def e110:Env:=env1 [(154,s154)]
theorem g110:Zai e110:=Zan mix1 ent1 (Zab Zt5 rfl Zag)
def s110:Spec:=Zar (Zaa (Zap ZaD) (Zac (Zad .i64))) (Zbl (Zaa (Zad .i64) (Zac (Zad .i64)))) Zce
theorem Zrm:Zaq Tryz.prog 110 s110 :=
 Zaj (V:=e110) (L:=nL) (rounds:=20) (depth:=6) g110 Zal (fun x=>by kernel_rfl)
def e146:Env:=env1 []
theorem g146:Zai e146:=Zan mix1 ent1 Zag
def s146:Spec:=Zar (Zac (Zap Zas)) (Zat (ZaE)) ZdH
theorem Zx8:Zaq Tryz.prog 146 s146 :=
 Zaj (V:=e146) (L:=nL) (rounds:=20) (depth:=6) g146 Zal (fun x=>by kernel_rfl)
def e182:Env:=env1 []
theorem g182:Zai e182:=Zan mix1 ent1 Zag
def s182:Spec:=Zar (Zac (Zad .i64)) (Zat (Zap Zw0)) Zjv
theorem ZCG:Zaq Tryz.prog 182 s182 :=
 Zaj (V:=e182) (L:=nL) (rounds:=20) (depth:=6) g182 Zal (fun x=>by kernel_rfl)
def e155:Env:=env1 [(182,s182)]
theorem g155:Zai e155:=Zan mix1 ent1 (Zab ZCG rfl Zag)
def s155:Spec:=Zar (Zac (Zad .i64)) (Zat (Zad .i64)) ZgF
theorem ZB3:Zaq Tryz.prog 155 s155 :=
 Zaj (V:=e155) (L:=nL) (rounds:=20) (depth:=6) g155 Zal (fun x=>by kernel_rfl)
def e111:Env:=env1 [(146,s146),(152,s152),(155,s155)]
theorem g111:Zai e111:=Zan mix1 ent1 (Zab Zx8 rfl (Zab Zyv rfl (Zab ZB3 rfl Zag)))
def s111:Spec:=Zar (Zaa (Zap Zas) (Zac (Zad .i64))) (Zat (Zap Zas)) ZkL
theorem ZFO:Zaq Tryz.prog 111 s111 :=
 Zaj (V:=e111) (L:=nL) (rounds:=20) (depth:=6) g111 Zal (fun x=>by kernel_rfl)
def e112:Env:=env1 [(150,s150)]
theorem g112:Zai e112:=Zan mix1 ent1 (Zab Zqj rfl Zag)
def s112:Spec:=Zar (Zac (Zad .i64)) (Zat (Zad .i64)) Zj1
theorem ZFH:Zaq Tryz.prog 112 s112 :=
 Zaj (V:=e112) (L:=nL) (rounds:=20) (depth:=6) g112 Zal (fun x=>by kernel_rfl)
def e113:Env:=env1 [(152,s152)]
theorem g113:Zai e113:=Zan mix1 ent1 (Zab Zyv rfl Zag)
def s113:Spec:=Zar (Zac (Zap Zas)) (Zat (Zap Zas)) Zi2
theorem ZFs:Zaq Tryz.prog 113 s113 :=
 Zaj (V:=e113) (L:=nL) (rounds:=20) (depth:=6) g113 Zal (fun x=>by kernel_rfl)
def e66:Env:=env1 [(105,s105),(106,s106),(107,s107),(109,s109),(110,s110),(111,s111),(112,s112),(113,s113)]
theorem g66:Zai e66:=Zan mix1 ent1 (Zab ZxI rfl (Zab ZyE rfl (Zab ZFa rfl (Zab Zt6 rfl (Zab Zrm rfl (Zab ZFO rfl (Zab ZFH rfl (Zab ZFs rfl Zag))))))))
def s66:Spec:=Zar (Zac (Zap Zas)) (Zbl (Zaa (Zap Zas) (Zac (ZaE)))) Zk6
theorem ok66:Zaq Tryz.prog 66 s66 :=
 Zaj (V:=e66) (L:=nL) (rounds:=20) (depth:=6) g66 Zal (fun x=>by kernel_rfl)
def e183:Env:=env1 [(105,s105)]
theorem g183:Zai e183:=Zan mix1 ent1 (Zab ZxI rfl Zag)
def s183:Spec:=Zar (Zac (Zap Zas)) (Zat (Zad .i64)) Zfm
theorem ZyA:Zaq Tryz.prog 183 s183 :=
 Zaj (V:=e183) (L:=nL) (rounds:=20) (depth:=6) g183 Zal (fun x=>by kernel_rfl)
def e184:Env:=env1 [(182,s182)]
theorem g184:Zai e184:=Zan mix1 ent1 (Zab ZCG rfl Zag)
def s184:Spec:=Zar (Zac (Zad .i64)) (Zat (Zad .i64)) ZmW
theorem ZEr:Zaq Tryz.prog 184 s184 :=
 Zaj (V:=e184) (L:=nL) (rounds:=20) (depth:=6) g184 Zal (fun x=>by kernel_rfl)
def e156:Env:=env1 [(106,s106),(110,s110),(155,s155),(183,s183),(184,s184)]
theorem g156:Zai e156:=Zan mix1 ent1 (Zab ZyE rfl (Zab Zrm rfl (Zab ZB3 rfl (Zab ZyA rfl (Zab ZEr rfl Zag)))))
def s156:Spec:=Zar (Zac (Zap Zas)) (Zat (Zap Zas)) Zkc
theorem ZET:Zaq Tryz.prog 156 s156 :=
 Zaj (V:=e156) (L:=nL) (rounds:=20) (depth:=6) g156 Zal (fun x=>by kernel_rfl)
def e187:Env:=env1 [(181,s181)]
theorem g187:Zai e187:=Zan mix1 ent1 (Zab ZBY rfl Zag)
def s187:Spec:=Zar (Zac (Zap Zas)) (Zat (Zap Zas)) ZgX
theorem ZCo:Zaq Tryz.prog 187 s187 :=
 Zaj (V:=e187) (L:=nL) (rounds:=20) (depth:=6) g187 Zal (fun x=>by kernel_rfl)
def e157:Env:=env1 [(106,s106),(109,s109),(183,s183),(187,s187)]
theorem g157:Zai e157:=Zan mix1 ent1 (Zab ZyE rfl (Zab Zt6 rfl (Zab ZyA rfl (Zab ZCo rfl Zag))))
def s157:Spec:=Zar (Zac (Zap Zas)) (Zat (Zap Zas)) ZjC
theorem ZFI:Zaq Tryz.prog 157 s157 :=
 Zaj (V:=e157) (L:=nL) (rounds:=20) (depth:=6) g157 Zal (fun x=>by kernel_rfl)
def e180:Env:=env1 []
theorem g180:Zai e180:=Zan mix1 ent1 Zag
def s180:Spec:=Zar (Zac (Zau .entry)) (Zat (ZaI 135 .entry)) Zbs
theorem ZxU:Zaq Tryz.prog 180 s180 :=
 ZiY (V:=e180) (L:=nL) (rounds:=20) (depth:=6) (r:=(Zat (ZaI 135 .entry))) g180 Zal (by kernel_rfl) (fun x=>by kernel_rfl)
def e227:Env:=env1 []
theorem g227:Zai e227:=Zan mix1 ent1 Zag
def s227:Spec:=Zar (Zaa (Zau (.lst .entry)) (Zac (Zad .i64))) (Zbl (Zaa (Zau .entry) (Zac (Zad .i64)))) Zcl
theorem ZCc:Zaq Tryz.prog 227 s227 :=
 Zaj (V:=e227) (L:=nL) (rounds:=20) (depth:=6) g227 Zal (fun x=>by kernel_rfl)
def e188:Env:=env1 [(180,s180),(227,s227)]
theorem g188:Zai e188:=Zan mix1 ent1 (Zab ZxU rfl (Zab ZCc rfl Zag))
def s188:Spec:=Zar (Zaa (Zap ZaD) (Zac (Zad .i64))) (Zbl (Zaa (Zau .entry) (Zac (Zad .i64)))) Zid
theorem ZCO:Zaq Tryz.prog 188 s188 :=
 Zaj (V:=e188) (L:=nL) (rounds:=20) (depth:=6) g188 Zal (fun x=>by kernel_rfl)
def e244:Env:=ZBP []
theorem g244:Zai e244:=Zan mix1 ent1 Zag
def s244:Spec:=Zar (Zaa (ZyW) (Zac (Zad .i64))) (Zat (ZaI 163 .kid)) Zec
theorem ZFE:Zaq Tryz.prog 244 s244 :=
 Zaj (V:=e244) (L:=nL) (rounds:=20) (depth:=6) g244 Zal (fun x=>by kernel_rfl)
def e228:Env:=env1 [(244,s244)]
theorem g228:Zai e228:=Zan mix1 ent1 (Zab ZFE rfl Zag)
def Zxv:LSpec:=ZbO [6,25,26,27] (Zaa (ZaI 163 .kid) (Zaa (Zau (.lst .kid)) (Zaa (Zad .i64) (Zac (Zad .i64))))) (⟨.exit 2,[6],(Zac (ZaI 163 .kid))⟩:Way) (Zav ZbL)
theorem Zz3:LoopOK e228 36 Zxv (ZaT e228.P 228 11) :=
 Zba (L:=ZaA []) (rounds:=20) (depth:=6) (ts:=[6,25,26,27]) (v:=(Zaa (ZaI 163 .kid) (Zaa (Zau (.lst .kid)) (Zaa (Zad .i64) (Zac (Zad .i64)))))) (a:=⟨.exit 2,[6],(Zac (ZaI 163 .kid))⟩) (step:=ZbL) g228 rfl ZaC (fun x=>by kernel_rfl)
def ZAc:LSpec:=ZbO [0,3,9,10,11] (Zaa (Zau (.lst .kid)) (Zaa (Zad .i64) (Zaa (Zau (.lst .kid)) (Zaa (Zad .i64) (Zac (Zad .i64)))))) (⟨.exit 0,[0,3],(Zaa (Zau (.lst .kid)) (Zac (Zad .i64)))⟩:Way) (Zav ZbQ)
theorem ZAL:LoopOK e228 36 ZAc (ZaT e228.P 228 3) :=
 Zba (L:=ZaA []) (rounds:=20) (depth:=6) (ts:=[0,3,9,10,11]) (v:=(Zaa (Zau (.lst .kid)) (Zaa (Zad .i64) (Zaa (Zau (.lst .kid)) (Zaa (Zad .i64) (Zac (Zad .i64))))))) (a:=⟨.exit 0,[0,3],(Zaa (Zau (.lst .kid)) (Zac (Zad .i64)))⟩) (step:=ZbQ) g228 rfl ZaC (fun x=>by kernel_rfl)
def s228:Spec:=Zar (Zac (Zau (.lst .kid))) (Zat (ZaI 163 .kid)) ZdN
theorem ZFn:Zaq Tryz.prog 228 s228 :=
 Zaj (V:=e228) (L:=(ZaA [(11,Zxv),(3,ZAc)])) (rounds:=20) (depth:=6) g228 (ZaV (nt:=36) (by kernel_rfl) (Zbe (by kernel_rfl)) (Zax Zz3 (Zax ZAL ZaG))) (fun x=>by kernel_rfl)
def e248:Env:=ZBP []
theorem g248:Zai e248:=Zan mix1 ent1 Zag
def s248:Spec:=Zar (Zaa (ZyW) (Zac (Zad .i64))) (Zat (ZaI 135 .entry)) ZdS
theorem ZFd:Zaq Tryz.prog 248 s248 :=
 Zaj (V:=e248) (L:=nL) (rounds:=20) (depth:=6) g248 Zal (fun x=>by kernel_rfl)
def e245:Env:=env1 [(248,s248)]
theorem g245:Zai e245:=Zan mix1 ent1 (Zab ZFd rfl Zag)
def Zxe:LSpec:=ZbO [6,25,26,27] (Zaa (ZaI 135 .entry) (Zaa (Zau (.lst .entry)) (Zaa (Zad .i64) (Zac (Zad .i64))))) (⟨.exit 2,[6],(Zac (ZaI 135 .entry))⟩:Way) (Zav ZbG)
theorem Zzw:LoopOK e245 36 Zxe (ZaT e245.P 245 11) :=
 Zba (L:=ZaA []) (rounds:=20) (depth:=6) (ts:=[6,25,26,27]) (v:=(Zaa (ZaI 135 .entry) (Zaa (Zau (.lst .entry)) (Zaa (Zad .i64) (Zac (Zad .i64)))))) (a:=⟨.exit 2,[6],(Zac (ZaI 135 .entry))⟩) (step:=ZbG) g245 rfl ZaC (fun x=>by kernel_rfl)
def Zy9:LSpec:=ZbO [0,3,9,10,11] (Zaa (Zau (.lst .entry)) (Zaa (Zad .i64) (Zaa (Zau (.lst .entry)) (Zaa (Zad .i64) (Zac (Zad .i64)))))) (⟨.exit 0,[0,3],(Zaa (Zau (.lst .entry)) (Zac (Zad .i64)))⟩:Way) (Zav ZbM)
theorem ZAY:LoopOK e245 36 Zy9 (ZaT e245.P 245 3) :=
 Zba (L:=ZaA []) (rounds:=20) (depth:=6) (ts:=[0,3,9,10,11]) (v:=(Zaa (Zau (.lst .entry)) (Zaa (Zad .i64) (Zaa (Zau (.lst .entry)) (Zaa (Zad .i64) (Zac (Zad .i64))))))) (a:=⟨.exit 0,[0,3],(Zaa (Zau (.lst .entry)) (Zac (Zad .i64)))⟩) (step:=ZbM) g245 rfl ZaC (fun x=>by kernel_rfl)
def s245:Spec:=Zar (Zac (Zau (.lst .entry))) (Zat (ZaI 135 .entry)) Zds
theorem ZFR:Zaq Tryz.prog 245 s245 :=
 Zaj (V:=e245) (L:=(ZaA [(11,Zxe),(3,Zy9)])) (rounds:=20) (depth:=6) g245 (ZaV (nt:=36) (by kernel_rfl) (Zbe (by kernel_rfl)) (Zax Zzw (Zax ZAY ZaG))) (fun x=>by kernel_rfl)
def e229:Env:=env1 [(245,s245)]
theorem g229:Zai e229:=Zan mix1 ent1 (Zab ZFR rfl Zag)
def s229:Spec:=Zar (Zac (Zau (.lst .entry))) (Zat (Zau .entry)) Zlb
theorem ZFC:Zaq Tryz.prog 229 s229 :=
 Zaj (V:=e229) (L:=nL) (rounds:=20) (depth:=6) g229 Zal (fun x=>by kernel_rfl)
def e190:Env:=env1 [(228,s228),(229,s229)]
theorem g190:Zai e190:=Zan mix1 ent1 (Zab ZFn rfl (Zab ZFC rfl Zag))
def s190:Spec:=Zar (Zaa (Zap Zas) (Zaa (Zad .i64) (Zac (Zau .entry)))) (Zat (Zap Zas)) Zfj
theorem ZBV:Zaq Tryz.prog 190 s190 :=
 Zaj (V:=e190) (L:=nL) (rounds:=20) (depth:=6) g190 Zal (fun x=>by kernel_rfl)
def e158:Env:=env1 [(188,s188),(190,s190)]
theorem g158:Zai e158:=Zan mix1 ent1 (Zab ZCO rfl (Zab ZBV rfl Zag))
def s158:Spec:=Zar (Zac (Zap Zas)) (Zat (Zap Zas)) Zhk
theorem ZEw:Zaq Tryz.prog 158 s158 :=
 Zaj (V:=e158) (L:=nL) (rounds:=20) (depth:=6) g158 Zal (fun x=>by kernel_rfl)
def e159:Env:=env1 [(95,s95),(183,s183),(187,s187)]
theorem g159:Zai e159:=Zan mix1 ent1 (Zab ok95 rfl (Zab ZyA rfl (Zab ZCo rfl Zag)))
def s159:Spec:=Zar (Zac (Zap Zas)) (Zat (Zap Zas)) ZjU
theorem ZFt:Zaq Tryz.prog 159 s159 :=
 Zaj (V:=e159) (L:=nL) (rounds:=20) (depth:=6) g159 Zal (fun x=>by kernel_rfl)
def e230:Env:=env1 []
theorem g230:Zai e230:=Zan mix1 ent1 Zag
def s230:Spec:=Zar (Zac (Zau (.lst .entry))) (Zat (ZaI 30 (.lst .entry))) Zdq
theorem ZEx:Zaq Tryz.prog 230 s230 :=
 ZiY (V:=e230) (L:=nL) (rounds:=20) (depth:=6) (r:=(Zat (ZaI 30 (.lst .entry)))) g230 Zal (by kernel_rfl) (fun x=>by kernel_rfl)
def e191:Env:=env1 [(180,s180),(227,s227),(230,s230)]
theorem g191:Zai e191:=Zan mix1 ent1 (Zab ZxU rfl (Zab ZCc rfl (Zab ZEx rfl Zag)))
def s191:Spec:=Zar (Zaa (Zap ZaD) (Zaa (Zad .i64) (Zac (Zau .entry)))) (Zbl (Zaa (Zap ZaD) (Zac (Zad .i64)))) Zhy
theorem ZCS:Zaq Tryz.prog 191 s191 :=
 Zaj (V:=e191) (L:=nL) (rounds:=20) (depth:=6) g191 Zal (fun x=>by kernel_rfl)
def e160:Env:=env1 [(191,s191)]
theorem g160:Zai e160:=Zan mix1 ent1 (Zab ZCS rfl Zag)
def s160:Spec:=Zar (Zac (Zap Zas)) (Zat (Zap Zas)) Zhj
theorem ZEH:Zaq Tryz.prog 160 s160 :=
 Zaj (V:=e160) (L:=nL) (rounds:=20) (depth:=6) g160 Zal (fun x=>by kernel_rfl)
def e192:Env:=env1 [(150,s150)]
theorem g192:Zai e192:=Zan mix1 ent1 (Zab Zqj rfl Zag)
def s192:Spec:=Zar (Zac (Zad .i64)) (Zat (Zad .i64)) Zhi
theorem ZFp:Zaq Tryz.prog 192 s192 :=
 Zaj (V:=e192) (L:=nL) (rounds:=20) (depth:=6) g192 Zal (fun x=>by kernel_rfl)
def e161:Env:=env1 [(95,s95),(105,s105),(192,s192)]
theorem g161:Zai e161:=Zan mix1 ent1 (Zab ok95 rfl (Zab ZxI rfl (Zab ZFp rfl Zag)))
def s161:Spec:=Zar (Zac (Zap Zas)) (Zat (Zap Zas)) Zg5
theorem ZE4:Zaq Tryz.prog 161 s161 :=
 Zaj (V:=e161) (L:=nL) (rounds:=20) (depth:=6) g161 Zal (fun x=>by kernel_rfl)
def e67:Env:=env1 [(156,s156),(157,s157),(158,s158),(159,s159),(160,s160),(161,s161)]
theorem g67:Zai e67:=Zan mix1 ent1 (Zab ZET rfl (Zab ZFI rfl (Zab ZEw rfl (Zab ZFt rfl (Zab ZEH rfl (Zab ZE4 rfl Zag))))))
def s67:Spec:=Zar (Zac (Zap Zas)) (Zbl (Zaa (Zap Zas) (Zac (ZaE)))) ZjG
theorem ok67:Zaq Tryz.prog 67 s67 :=
 Zaj (V:=e67) (L:=nL) (rounds:=20) (depth:=6) g67 Zal (fun x=>by kernel_rfl)
def e83:Env:=env1 []
theorem g83:Zai e83:=Zan mix1 ent1 Zag
def ZCx:LSpec:=Zc0 [1,29,30] (Zaa (Zak celConfig) (Zaa (Zap (Zae (Zao .i64) (Zae (Zao .i64) (Zae (Zao .i64) (Zae (Zao .i64) (Zae (Zao .i64) (Zae (Zao .i64) (Zae (Zao .i64) (Zae (Zao .i64) (Zae (Zao .i64) (Zae (Zao .i64) (Zae (Zao .i64) (Zae (Zao .i64) (Zae (Zao .i64) (Zae (Zao .i64) (Zae (Zao .i64) (Zae (Zao .i64) (Zae (Zao .i64) (Zae (Zao .i64) (Zae (Zao .i64) (Zae (Zao .i64) (Zae (Zao .i64) (Zae (Zao .i64) (Zae (Zao .i64) (Zao .i64))))))))))))))))))))))))) (Zac (Zad .i64)))) (⟨.exit 0,[1],(Zac (Zak celConfig))⟩:Way) (⟨.ret,[2],(Zac (Zad .i64))⟩:Way) (Zav Zd7)
theorem ZC8:LoopOK e83 65 ZCx (ZaT e83.P 83 2) :=
 Zb6 (L:=ZaA []) (rounds:=20) (depth:=6) (ts:=[1,29,30]) (v:=(Zaa (Zak celConfig) (Zaa (Zap (Zae (Zao .i64) (Zae (Zao .i64) (Zae (Zao .i64) (Zae (Zao .i64) (Zae (Zao .i64) (Zae (Zao .i64) (Zae (Zao .i64) (Zae (Zao .i64) (Zae (Zao .i64) (Zae (Zao .i64) (Zae (Zao .i64) (Zae (Zao .i64) (Zae (Zao .i64) (Zae (Zao .i64) (Zae (Zao .i64) (Zae (Zao .i64) (Zae (Zao .i64) (Zae (Zao .i64) (Zae (Zao .i64) (Zae (Zao .i64) (Zae (Zao .i64) (Zae (Zao .i64) (Zae (Zao .i64) (Zao .i64))))))))))))))))))))))))) (Zac (Zad .i64))))) (a:=⟨.exit 0,[1],(Zac (Zak celConfig))⟩) (b:=⟨.ret,[2],(Zac (Zad .i64))⟩) (step:=Zd7) g83 rfl rfl ZaC (fun x=>by kernel_rfl)
def s83:Spec:=Zar (Zac (Zap celConfig)) (Zat (Zad .i64)) ZeV
theorem ok83:Zaq Tryz.prog 83 s83 :=
 Zaj (V:=e83) (L:=(ZaA [(2,ZCx)])) (rounds:=20) (depth:=6) g83 (ZaV (nt:=65) (by kernel_rfl) (Zbe (by kernel_rfl)) (Zax ZC8 ZaG)) (fun x=>by kernel_rfl)
def e129:Env:=env1 []
theorem g129:Zai e129:=Zan mix1 ent1 Zag
def s129:Spec:=Zar (Zaa (Zad .i64) (Zac (Zad .i64))) (Zat (ZaE)) ZdB
theorem ZFi:Zaq Tryz.prog 129 s129 :=
 Zaj (V:=e129) (L:=nL) (rounds:=20) (depth:=6) g129 Zal (fun x=>by kernel_rfl)
def e171:Env:=env1 []
theorem g171:Zai e171:=Zan mix1 ent1 Zag
def s171:Spec:=Zar (Zac (Zad .i64)) (Zat (ZaE)) Zlq
theorem ZEQ:Zaq Tryz.prog 171 s171 :=
 Zaj (V:=e171) (L:=nL) (rounds:=20) (depth:=6) g171 Zal (fun x=>by kernel_rfl)
def e130:Env:=env1 [(171,s171)]
theorem g130:Zai e130:=Zan mix1 ent1 (Zab ZEQ rfl Zag)
def s130:Spec:=Zar (Zaa (Zap ZdW) (Zac (ZaE))) (Zat (ZaE)) Zkm
theorem ZFq:Zaq Tryz.prog 130 s130 :=
 Zaj (V:=e130) (L:=nL) (rounds:=20) (depth:=6) g130 Zal (fun x=>by kernel_rfl)
def e88:Env:=env1 [(129,s129),(130,s130)]
theorem g88:Zai e88:=Zan mix1 ent1 (Zab ZFi rfl (Zab ZFq rfl Zag))
def s88:Spec:=Zar (Zaa (Zap celConfig) (Zac (Zap ZlV))) (Zat (Zad .i64)) ZeO
theorem ok88:Zaq Tryz.prog 88 s88 :=
 Zaj (V:=e88) (L:=nL) (rounds:=20) (depth:=6) g88 Zal (fun x=>by kernel_rfl)
def e75:Env:=env1 [(83,s83),(88,s88)]
theorem g75:Zai e75:=Zan mix1 ent1 (Zab ok83 rfl (Zab ok88 rfl Zag))
def ZCu:LSpec:=Zc0 [2,18,19,20] (Zaa (Zak celConfig) (Zaa (Zau .sentry) (Zaa (Zad .i64) (Zac (Zad .i64))))) (⟨.exit 0,[],Zbz⟩:Way) (⟨.ret,[4,5],(Zaa (Zad .i64) (Zac (Zad .i64)))⟩:Way) (Zav Zgf)
theorem ZDR:LoopOK e75 33 ZCu (ZaT e75.P 75 7) :=
 Zb6 (L:=ZaA []) (rounds:=20) (depth:=6) (ts:=[2,18,19,20]) (v:=(Zaa (Zak celConfig) (Zaa (Zau .sentry) (Zaa (Zad .i64) (Zac (Zad .i64)))))) (a:=⟨.exit 0,[],Zbz⟩) (b:=⟨.ret,[4,5],(Zaa (Zad .i64) (Zac (Zad .i64)))⟩) (step:=Zgf) g75 rfl rfl ZaC (fun x=>by kernel_rfl)
def s75:Spec:=Zar (Zaa (Zap celConfig) (Zac (Zau .sentry))) (Zbl (Zaa (Zad .i64) (Zac (Zad .i64)))) Zhz
theorem ok75:Zaq Tryz.prog 75 s75 :=
 Zaj (V:=e75) (L:=(ZaA [(7,ZCu)])) (rounds:=20) (depth:=6) g75 (ZaV (nt:=33) (by kernel_rfl) (Zbe (by kernel_rfl)) (Zax ZDR ZaG)) (fun x=>by kernel_rfl)
def e103:Env:=env1 [(146,s146)]
theorem g103:Zai e103:=Zan mix1 ent1 (Zab Zx8 rfl Zag)
def s103:Spec:=Zar (Zac (Zap Zas)) (Zat (Zap Zas)) Zcp
theorem ZCV:Zaq Tryz.prog 103 s103 :=
 Zaj (V:=e103) (L:=nL) (rounds:=20) (depth:=6) g103 Zal (fun x=>by kernel_rfl)
def e115:Env:=env1 [(150,s150)]
theorem g115:Zai e115:=Zan mix1 ent1 (Zab Zqj rfl Zag)
def s115:Spec:=Zar (Zaa (Zad .i64) (Zac (Zad .i64))) (Zat (Zad .i64)) Zjl
theorem ZEz:Zaq Tryz.prog 115 s115 :=
 Zaj (V:=e115) (L:=nL) (rounds:=20) (depth:=6) g115 Zal (fun x=>by kernel_rfl)
def e117:Env:=env1 [(96,s96)]
theorem g117:Zai e117:=Zan mix1 ent1 (Zab ok96 rfl Zag)
def s117:Spec:=Zst (Zaa (ZD4 (Zae Zas (Zao .i64))) (Zac (Zad .i64))) (Zat (Zad .i64)) Zb3
theorem ZEW:Zaq Tryz.prog 117 s117 :=
 Zyo (V:=e117) (L:=nL) (rounds:=20) (depth:=6) g117 Zal (fun x=>by kernel_rfl)
def e170:Env:=env1 []
theorem g170:Zai e170:=Zan mix1 ent1 Zag
def s170:Spec:=Zar (Zaa (Zad .u64) (Zac (Zad .u64))) (Zbl (Zaa (Zad .u64) (Zac (Zad .u64)))) Zkg
theorem ZEv:Zaq Tryz.prog 170 s170 :=
 Zaj (V:=e170) (L:=nL) (rounds:=20) (depth:=6) g170 Zal (fun x=>by kernel_rfl)
def e126:Env:=env1 [(170,s170)]
theorem g126:Zai e126:=Zan mix1 ent1 (Zab ZEv rfl Zag)
def s126:Spec:=Zar (Zaa (Zad .u64) (Zac (Zad .u64))) (Zbl (Zaa (Zad .u64) (Zac (Zad .u64)))) ZdA
theorem ZED:Zaq Tryz.prog 126 s126 :=
 Zaj (V:=e126) (L:=nL) (rounds:=20) (depth:=6) g126 Zal (fun x=>by kernel_rfl)
def e131:Env:=env1 []
theorem g131:Zai e131:=Zan mix1 ent1 Zag
def s131:Spec:=Zar (Zac (Zau .thread)) (Zat (ZaI 33 .thread)) Zcy
theorem ZEY:Zaq Tryz.prog 131 s131 :=
 ZiY (V:=e131) (L:=nL) (rounds:=20) (depth:=6) (r:=(Zat (ZaI 33 .thread))) g131 Zal (by kernel_rfl) (fun x=>by kernel_rfl)
def e132:Env:=env1 []
theorem g132:Zai e132:=Zan mix1 ent1 Zag
def s132:Spec:=Zar (Zac (Zau .mark)) (Zat (ZaI 74 .mark)) ZcT
theorem ZEP:Zaq Tryz.prog 132 s132 :=
 ZiY (V:=e132) (L:=nL) (rounds:=20) (depth:=6) (r:=(Zat (ZaI 74 .mark))) g132 Zal (by kernel_rfl) (fun x=>by kernel_rfl)
def e133:Env:=env1 []
theorem g133:Zai e133:=Zan mix1 ent1 Zag
def s133:Spec:=Zar (Zac (Zau .event)) (Zat (ZaI 104 .event)) ZcP
theorem ZFw:Zaq Tryz.prog 133 s133 :=
 ZiY (V:=e133) (L:=nL) (rounds:=20) (depth:=6) (r:=(Zat (ZaI 104 .event))) g133 Zal (by kernel_rfl) (fun x=>by kernel_rfl)
def e139:Env:=env1 [(150,s150)]
theorem g139:Zai e139:=Zan mix1 ent1 (Zab Zqj rfl Zag)
def s139:Spec:=Zar Zbz (Zat (Zad .i64)) ZgU
theorem ZFJ:Zaq Tryz.prog 139 s139 :=
 Zaj (V:=e139) (L:=nL) (rounds:=20) (depth:=6) g139 Zal (fun x=>by kernel_rfl)
def e140:Env:=env1 [(120,s120)]
theorem g140:Zai e140:=Zan mix1 ent1 (Zab Zo5 rfl Zag)
def s140:Spec:=Zar (Zaa (Zap celConfig) (Zac (Zad .i64))) (Zat (Zad .i64)) Ze4
theorem ZE6:Zaq Tryz.prog 140 s140 :=
 Zaj (V:=e140) (L:=nL) (rounds:=20) (depth:=6) g140 Zal (fun x=>by kernel_rfl)
def e141:Env:=env1 []
theorem g141:Zai e141:=Zan mix1 ent1 Zag
def s141:Spec:=Zar (Zac (Zap Zas)) (Zat (Zap Zas)) Zdg
theorem ZCr:Zaq Tryz.prog 141 s141 :=
 Zaj (V:=e141) (L:=nL) (rounds:=20) (depth:=6) g141 Zal (fun x=>by kernel_rfl)
def e144:Env:=env1 [(180,s180)]
theorem g144:Zai e144:=Zan mix1 ent1 (Zab ZxU rfl Zag)
def s144:Spec:=Zar (Zaa (Zau .entry) (Zac (Zad .i64))) (Zat (Zau .entry)) Zlg
theorem ZFg:Zaq Tryz.prog 144 s144 :=
 Zaj (V:=e144) (L:=nL) (rounds:=20) (depth:=6) g144 Zal (fun x=>by kernel_rfl)
def e196:Env:=env1 []
theorem g196:Zai e196:=Zan mix1 ent1 Zag
def s196:Spec:=Zar (Zaa (Zad .i64) (Zaa (Zad .i64) (Zaa (Zad .i64) (Zac (Zad .i64))))) (Zat (ZaE)) Zkd
theorem ZEK:Zaq Tryz.prog 196 s196 :=
 Zaj (V:=e196) (L:=nL) (rounds:=20) (depth:=6) g196 Zal (fun x=>by kernel_rfl)
def e168:Env:=env1 [(196,s196)]
theorem g168:Zai e168:=Zan mix1 ent1 (Zab ZEK rfl Zag)
def s168:Spec:=Zar (Zaa (Zap ZdW) (Zaa (Zad .i64) (Zaa (Zad .i64) (Zac (Zad .i64))))) (Zbl (Zaa (Zad .i64) (Zac (ZaE)))) Zd5
theorem ZBT:Zaq Tryz.prog 168 s168 :=
 Zaj (V:=e168) (L:=nL) (rounds:=20) (depth:=6) g168 Zal (fun x=>by kernel_rfl)
def e194:Env:=env1 [(85,s85),(154,s154)]
theorem g194:Zai e194:=Zan mix1 ent1 (Zab ok85 rfl (Zab Zt5 rfl Zag))
def s194:Spec:=Zar (Zaa (Zap ZaD) (Zaa (Zad .i64) (Zac (Zad .i64)))) (Zbl (Zaa (Zap ZaD) (Zaa (Zad .i64) (Zac (Zad .i64))))) Zl2
theorem ZFo:Zaq Tryz.prog 194 s194 :=
 Zaj (V:=e194) (L:=nL) (rounds:=20) (depth:=6) g194 Zal (fun x=>by kernel_rfl)
def e195:Env:=env1 [(120,s120)]
theorem g195:Zai e195:=Zan mix1 ent1 (Zab Zo5 rfl Zag)
def s195:Spec:=Zar (Zaa (Zap celConfig) (Zaa (Zad .i64) (Zaa (Zad .i64) (Zac (Zad .i64))))) (Zat (Zad .i64)) ZkT
theorem ZEV:Zaq Tryz.prog 195 s195 :=
 Zaj (V:=e195) (L:=nL) (rounds:=20) (depth:=6) g195 Zal (fun x=>by kernel_rfl)
def e249:Env:=env1 []
theorem g249:Zai e249:=Zan mix1 ent1 Zag
def s249:Spec:=Zar (Zac (Zap Zbk)) (Zat (Zad .i64)) Zfz
theorem ZFN:Zaq Tryz.prog 249 s249 :=
 Zaj (V:=e249) (L:=nL) (rounds:=20) (depth:=6) g249 Zal (fun x=>by kernel_rfl)
end Go.Proofs.Mill
