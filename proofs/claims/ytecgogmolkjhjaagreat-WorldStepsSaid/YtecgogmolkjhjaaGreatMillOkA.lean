/- The functions compute this. -/
import Derived.Test.YtecgogmolkjhjaaGreatMillSeat2
import Derived.Test.YtecgogmolkjhjaaGreatMillFA
set_option linter.all false
set_option maxRecDepth 100000
noncomputable section
namespace Go.Proofs.Mill
def e16:Env:=env1 []
theorem g16:Zai e16:=Zan mix1 ent1 Zag
def ZDd:LSpec:=Zdm [1,3] (Zaa (Zak Zau) (Zac (Zad .i64))) (⟨.exit 0,[1],(Zac (Zak Zau))⟩:Way) (⟨.ret,[2],(Zac (ZaF))⟩:Way) (Zay Zkz)
theorem ZDY:LoopOK e16 70 ZDd (ZaX e16.P 16 2) :=
 Zco (L:=ZaA []) (rounds:=20) (depth:=6) (ts:=[1,3]) (v:=(Zaa (Zak Zau) (Zac (Zad .i64)))) (a:=⟨.exit 0,[1],(Zac (Zak Zau))⟩) (b:=⟨.ret,[2],(Zac (ZaF))⟩) (step:=Zkz) g16 rfl rfl ZaE (fun x=>by kernel_rfl)
def s16:Spec:=Zar (Zac (Zap Zau)) (Zav (ZaF)) ZnX
theorem ok16:Zaq Tryz.prog 16 s16 :=
 Zaj (V:=e16) (L:=(ZaA [(2,ZDd)])) (rounds:=20) (depth:=6) g16 (ZaY (nt:=70) (by kernel_rfl) (Zbg (by kernel_rfl)) (Zaz ZDY ZaG)) (fun x=>by kernel_rfl)
def e23:Env:=env1 []
theorem g23:Zai e23:=Zan mix1 ent1 Zag
def s23:Spec:=Zar (Zac (Zap celConfig)) (Zav (Zad .i64)) Zdf
theorem ok23:Zaq Tryz.prog 23 s23 :=
 Zaj (V:=e23) (L:=nL) (rounds:=20) (depth:=6) g23 Zal (fun x=>by kernel_rfl)
def e36:Env:=env1 []
theorem g36:Zai e36:=Zan mix1 ent1 Zag
def ZDq:LSpec:=ZbX [1,3,4] (Zaa (Zak celConfig) (Zaa (Zad .i64) (Zac (Zad .i64)))) (⟨.exit 0,[3],(Zac (Zad .i64))⟩:Way) (Zay Zfa)
theorem ZEy:LoopOK e36 15 ZDq (ZaX e36.P 36 3) :=
 Zbe (L:=ZaA []) (rounds:=20) (depth:=6) (ts:=[1,3,4]) (v:=(Zaa (Zak celConfig) (Zaa (Zad .i64) (Zac (Zad .i64))))) (a:=⟨.exit 0,[3],(Zac (Zad .i64))⟩) (step:=Zfa) g36 rfl ZaE (fun x=>by kernel_rfl)
def s36:Spec:=Zar (Zac (Zap celConfig)) (Zav (Zad .i64)) Zdg
theorem ok36:Zaq Tryz.prog 36 s36 :=
 Zaj (V:=e36) (L:=(ZaA [(3,ZDq)])) (rounds:=20) (depth:=6) g36 (ZaY (nt:=15) (by kernel_rfl) (Zbg (by kernel_rfl)) (Zaz ZEy ZaG)) (fun x=>by kernel_rfl)
def e74:Env:=env1 [(36,s36)]
theorem g74:Zai e74:=Zan mix1 ent1 (Zab ok36 rfl Zag)
def s74:Spec:=Zar (Zac (Zap celConfig)) (Zav (Zad .i64)) Zb6
theorem ok74:Zaq Tryz.prog 74 s74 :=
 Zaj (V:=e74) (L:=nL) (rounds:=20) (depth:=6) g74 Zal (fun x=>by kernel_rfl)
def e34:Env:=env1 [(74,s74)]
theorem g34:Zai e34:=Zan mix1 ent1 (Zab ok74 rfl Zag)
def s34:Spec:=Zar (Zac (Zap celConfig)) (Zav (Zad .i64)) Zft
theorem ok34:Zaq Tryz.prog 34 s34 :=
 Zaj (V:=e34) (L:=nL) (rounds:=20) (depth:=6) g34 Zal (fun x=>by kernel_rfl)
def e17:Env:=env1 [(23,s23),(34,s34)]
theorem g17:Zai e17:=Zan mix1 ent1 (Zab ok23 rfl (Zab ok34 rfl Zag))
def s17:Spec:=Zar (Zac (Zap Zau)) (Zav (ZaF)) ZnO
theorem ok17:Zaq Tryz.prog 17 s17 :=
 Zaj (V:=e17) (L:=nL) (rounds:=20) (depth:=6) g17 Zal (fun x=>by kernel_rfl)
def e29:Env:=env1 []
theorem g29:Zai e29:=Zan mix1 ent1 Zag
def ZDc:LSpec:=Zdm [0,1,5] (Zaa (Zaw .entry) (Zaa (Zaw .entry) (Zac (Zad .i64)))) (⟨.exit 0,[],Zby⟩:Way) (⟨.ret,[4],(Zac (ZaF))⟩:Way) (Zay ZfE)
theorem ZEE:LoopOK e29 26 ZDc (ZaX e29.P 29 4) :=
 Zco (L:=ZaA []) (rounds:=20) (depth:=6) (ts:=[0,1,5]) (v:=(Zaa (Zaw .entry) (Zaa (Zaw .entry) (Zac (Zad .i64))))) (a:=⟨.exit 0,[],Zby⟩) (b:=⟨.ret,[4],(Zac (ZaF))⟩) (step:=ZfE) g29 rfl rfl ZaE (fun x=>by kernel_rfl)
def s29:Spec:=Zar (Zaa (Zaw .entry) (Zac (Zaw .entry))) (Zav (ZaF)) ZgF
theorem ok29:Zaq Tryz.prog 29 s29 :=
 Zaj (V:=e29) (L:=(ZaA [(4,ZDc)])) (rounds:=20) (depth:=6) g29 (ZaY (nt:=26) (by kernel_rfl) (Zbg (by kernel_rfl)) (Zaz ZEE ZaG)) (fun x=>by kernel_rfl)
def e94:Env:=env1 []
theorem g94:Zai e94:=Zan mix1 ent1 Zag
def ZC2:LSpec:=Zdm [0,1,5] (Zaa (Zaw .int) (Zaa (Zaw .int) (Zac (Zad .i64)))) (⟨.exit 0,[],Zby⟩:Way) (⟨.ret,[4],(Zac (ZaF))⟩:Way) (Zay Zfx)
theorem ZEe:LoopOK e94 26 ZC2 (ZaX e94.P 94 4) :=
 Zco (L:=ZaA []) (rounds:=20) (depth:=6) (ts:=[0,1,5]) (v:=(Zaa (Zaw .int) (Zaa (Zaw .int) (Zac (Zad .i64))))) (a:=⟨.exit 0,[],Zby⟩) (b:=⟨.ret,[4],(Zac (ZaF))⟩) (step:=Zfx) g94 rfl rfl ZaE (fun x=>by kernel_rfl)
def s94:Spec:=Zar (Zaa (Zaw .int) (Zac (Zaw .int))) (Zav (ZaF)) ZgR
theorem ok94:Zaq Tryz.prog 94 s94 :=
 Zaj (V:=e94) (L:=(ZaA [(4,ZC2)])) (rounds:=20) (depth:=6) g94 (ZaY (nt:=26) (by kernel_rfl) (Zbg (by kernel_rfl)) (Zaz ZEe ZaG)) (fun x=>by kernel_rfl)
def e56:Env:=env1 [(29,s29),(94,s94)]
theorem g56:Zai e56:=Zan mix1 ent1 (Zab ok29 rfl (Zab ok94 rfl Zag))
def ZCP:LSpec:=Zdm [2,3,5] (Zaa (Zak ZaD) (Zaa (Zak ZaD) (Zac (Zad .i64)))) (⟨.exit 0,[],Zby⟩:Way) (⟨.ret,[4],(Zac (ZaF))⟩:Way) (Zay Zfj)
theorem ZDQ:LoopOK e56 40 ZCP (ZaX e56.P 56 4) :=
 Zco (L:=ZaA []) (rounds:=20) (depth:=6) (ts:=[2,3,5]) (v:=(Zaa (Zak ZaD) (Zaa (Zak ZaD) (Zac (Zad .i64))))) (a:=⟨.exit 0,[],Zby⟩) (b:=⟨.ret,[4],(Zac (ZaF))⟩) (step:=Zfj) g56 rfl rfl ZaE (fun x=>by kernel_rfl)
def s56:Spec:=Zar (Zaa (Zap ZaD) (Zac (Zap ZaD))) (Zav (ZaF)) Zin
theorem ok56:Zaq Tryz.prog 56 s56 :=
 Zaj (V:=e56) (L:=(ZaA [(4,ZCP)])) (rounds:=20) (depth:=6) g56 (ZaY (nt:=40) (by kernel_rfl) (Zbg (by kernel_rfl)) (Zaz ZDQ ZaG)) (fun x=>by kernel_rfl)
def e57:Env:=env1 [(29,s29),(94,s94)]
theorem g57:Zai e57:=Zan mix1 ent1 (Zab ok29 rfl (Zab ok94 rfl Zag))
def ZCE:LSpec:=Zdm [2,3,5] (Zaa (Zak Za7) (Zaa (Zak Za7) (Zac (Zad .i64)))) (⟨.exit 0,[2,3],(Zaa (Zak Za7) (Zac (Zak Za7)))⟩:Way) (⟨.ret,[4],(Zac (ZaF))⟩:Way) (Zay ZfG)
theorem ZD6:LoopOK e57 136 ZCE (ZaX e57.P 57 4) :=
 Zco (L:=ZaA []) (rounds:=20) (depth:=6) (ts:=[2,3,5]) (v:=(Zaa (Zak Za7) (Zaa (Zak Za7) (Zac (Zad .i64))))) (a:=⟨.exit 0,[2,3],(Zaa (Zak Za7) (Zac (Zak Za7)))⟩) (b:=⟨.ret,[4],(Zac (ZaF))⟩) (step:=ZfG) g57 rfl rfl ZaE (fun x=>by kernel_rfl)
def s57:Spec:=Zar (Zaa (Zap Za7) (Zac (Zap Za7))) (Zav (ZaF)) ZiE
theorem ok57:Zaq Tryz.prog 57 s57 :=
 Zaj (V:=e57) (L:=(ZaA [(4,ZCE)])) (rounds:=20) (depth:=6) g57 (ZaY (nt:=136) (by kernel_rfl) (Zbg (by kernel_rfl)) (Zaz ZD6 ZaG)) (fun x=>by kernel_rfl)
def e58:Env:=env1 []
theorem g58:Zai e58:=Zan mix1 ent1 Zag
def ZCG:LSpec:=Zdm [2,3,5] (Zaa (Zak Zbo) (Zaa (Zak Zbo) (Zac (Zad .i64)))) (⟨.exit 0,[],Zby⟩:Way) (⟨.ret,[4],(Zac (ZaF))⟩:Way) (Zay Zfm)
theorem ZEU:LoopOK e58 38 ZCG (ZaX e58.P 58 4) :=
 Zco (L:=ZaA []) (rounds:=20) (depth:=6) (ts:=[2,3,5]) (v:=(Zaa (Zak Zbo) (Zaa (Zak Zbo) (Zac (Zad .i64))))) (a:=⟨.exit 0,[],Zby⟩) (b:=⟨.ret,[4],(Zac (ZaF))⟩) (step:=Zfm) g58 rfl rfl ZaE (fun x=>by kernel_rfl)
def s58:Spec:=Zar (Zaa (Zap Zbo) (Zac (Zap Zbo))) (Zav (ZaF)) ZiD
theorem ok58:Zaq Tryz.prog 58 s58 :=
 Zaj (V:=e58) (L:=(ZaA [(4,ZCG)])) (rounds:=20) (depth:=6) g58 (ZaY (nt:=38) (by kernel_rfl) (Zbg (by kernel_rfl)) (Zaz ZEU ZaG)) (fun x=>by kernel_rfl)
def e59:Env:=env1 []
theorem g59:Zai e59:=Zan mix1 ent1 Zag
def ZDE:LSpec:=Zdm [0,1,5] (Zaa (Zaw .mark) (Zaa (Zaw .mark) (Zac (Zad .i64)))) (⟨.exit 0,[],Zby⟩:Way) (⟨.ret,[4],(Zac (ZaF))⟩:Way) (Zay Ze4)
theorem ZEa:LoopOK e59 26 ZDE (ZaX e59.P 59 4) :=
 Zco (L:=ZaA []) (rounds:=20) (depth:=6) (ts:=[0,1,5]) (v:=(Zaa (Zaw .mark) (Zaa (Zaw .mark) (Zac (Zad .i64))))) (a:=⟨.exit 0,[],Zby⟩) (b:=⟨.ret,[4],(Zac (ZaF))⟩) (step:=Ze4) g59 rfl rfl ZaE (fun x=>by kernel_rfl)
def s59:Spec:=Zar (Zaa (Zaw .mark) (Zac (Zaw .mark))) (Zav (ZaF)) ZhV
theorem ok59:Zaq Tryz.prog 59 s59 :=
 Zaj (V:=e59) (L:=(ZaA [(4,ZDE)])) (rounds:=20) (depth:=6) g59 (ZaY (nt:=26) (by kernel_rfl) (Zbg (by kernel_rfl)) (Zaz ZEa ZaG)) (fun x=>by kernel_rfl)
def e19:Env:=env1 [(56,s56),(57,s57),(58,s58),(59,s59)]
theorem g19:Zai e19:=Zan mix1 ent1 (Zab ok56 rfl (Zab ok57 rfl (Zab ok58 rfl (Zab ok59 rfl Zag))))
def s19:Spec:=Zar (Zaa (Zap Zau) (Zac (Zap Zau))) (Zav (ZaF)) ZkY
theorem ok19:Zaq Tryz.prog 19 s19 :=
 Zaj (V:=e19) (L:=nL) (rounds:=20) (depth:=6) g19 Zal (fun x=>by kernel_rfl)
def e30:Env:=env1 []
theorem g30:Zai e30:=Zan mix1 ent1 Zag
def ZDo:LSpec:=ZbX [0,3,4] (Zaa (Zaw .entry) (Zaa (ZaJ 137 .entry) (Zac (Zad .i64)))) (⟨.exit 0,[3],(Zac (ZaJ 137 .entry))⟩:Way) (Zay Zhf)
theorem ZEu:LoopOK e30 27 ZDo (ZaX e30.P 30 3) :=
 Zbe (L:=ZaA []) (rounds:=20) (depth:=6) (ts:=[0,3,4]) (v:=(Zaa (Zaw .entry) (Zaa (ZaJ 137 .entry) (Zac (Zad .i64))))) (a:=⟨.exit 0,[3],(Zac (ZaJ 137 .entry))⟩) (step:=Zhf) g30 rfl ZaE (fun x=>by kernel_rfl)
def s30:Spec:=Zar (Zac (Zaw .entry)) (Zav (ZaJ 137 .entry)) Zja
theorem ok30:Zaq Tryz.prog 30 s30 :=
 Zaj (V:=e30) (L:=(ZaA [(3,ZDo)])) (rounds:=20) (depth:=6) g30 (ZaY (nt:=27) (by kernel_rfl) (Zbg (by kernel_rfl)) (Zaz ZEu ZaG)) (fun x=>by kernel_rfl)
def e60:Env:=env1 [(30,s30)]
theorem g60:Zai e60:=Zan mix1 ent1 (Zab ok30 rfl Zag)
def ZCV:LSpec:=ZbX [1,2,3,4] (Zaa (Zak ZaD) (Zaa (Zak ZaD) (Zaa (Zak (Zbc (Zae (Zbb .int) (ZaN 47 (.lst .entry))) Memo (fun y=>⟨y.1,y.2⟩) (fun x=>(x.words,x.boxes)) (fun _=>rfl))) (Zac (Zad .i64))))) (⟨.exit 0,[2,3],(Zaa (Zak ZaD) (Zac (Zak (Zbc (Zae (Zbb .int) (ZaN 47 (.lst .entry))) Memo (fun y=>⟨y.1,y.2⟩) (fun x=>(x.words,x.boxes)) (fun _=>rfl)))))⟩:Way) (Zay Zh1)
theorem ZEb:LoopOK e60 27 ZCV (ZaX e60.P 60 3) :=
 Zbe (L:=ZaA []) (rounds:=20) (depth:=6) (ts:=[1,2,3,4]) (v:=(Zaa (Zak ZaD) (Zaa (Zak ZaD) (Zaa (Zak (Zbc (Zae (Zbb .int) (ZaN 47 (.lst .entry))) Memo (fun y=>⟨y.1,y.2⟩) (fun x=>(x.words,x.boxes)) (fun _=>rfl))) (Zac (Zad .i64)))))) (a:=⟨.exit 0,[2,3],(Zaa (Zak ZaD) (Zac (Zak (Zbc (Zae (Zbb .int) (ZaN 47 (.lst .entry))) Memo (fun y=>⟨y.1,y.2⟩) (fun x=>(x.words,x.boxes)) (fun _=>rfl)))))⟩) (step:=Zh1) g60 rfl ZaE (fun x=>by kernel_rfl)
def s60:Spec:=Zar (Zac (Zap ZaD)) (Zav (Zap ZaD)) ZoH
theorem ok60:Zaq Tryz.prog 60 s60 :=
 Zaj (V:=e60) (L:=(ZaA [(3,ZCV)])) (rounds:=20) (depth:=6) g60 (ZaY (nt:=27) (by kernel_rfl) (Zbg (by kernel_rfl)) (Zaz ZEb ZaG)) (fun x=>by kernel_rfl)
def e61:Env:=env1 [(30,s30)]
theorem g61:Zai e61:=Zan mix1 ent1 (Zab ok30 rfl Zag)
def ZDi:LSpec:=ZbX [1,2,3,4] (Zaa (Zak Za7) (Zaa (Zak Za7) (Zaa (Zak (Zbc (Zae (Zao .i64) (Zae (Zao .i64) (Zae Zef (Zae (Zbb .entry) (Zae (ZaN 160 .kid) (Zae (Zbb .int) (Zae (Zao .i64) (Zae (Zao .i64) (Zae (Zao .i64) (Zae (Zao .i64) (Zae (Zao .i64) (Zae (Zao .i64) (Zae (Zao .i64) (Zae (Zao .i64) (Zae (Zao .i64) (Zao .i64)))))))))))))))) Thread (fun y=>⟨y.1,y.2.1,y.2.2.1,y.2.2.2.1,y.2.2.2.2.1,y.2.2.2.2.2.1,y.2.2.2.2.2.2.1,y.2.2.2.2.2.2.2.1,y.2.2.2.2.2.2.2.2.1,y.2.2.2.2.2.2.2.2.2.1,y.2.2.2.2.2.2.2.2.2.2.1,y.2.2.2.2.2.2.2.2.2.2.2.1,y.2.2.2.2.2.2.2.2.2.2.2.2.1,y.2.2.2.2.2.2.2.2.2.2.2.2.2.1,y.2.2.2.2.2.2.2.2.2.2.2.2.2.2.1,y.2.2.2.2.2.2.2.2.2.2.2.2.2.2.2⟩) (fun x=>(x.phase,(x.item,(x.op,(x.batch,(x.kids,(x.held,(x.stop,(x.node,(x.at_,(x.layer,(x.left,(x.width,(x.who,(x.x,(x.y,x.until_)))))))))))))))) (fun _=>rfl))) (Zac (Zad .i64))))) (⟨.exit 0,[2,3],(Zaa (Zak Za7) (Zac (Zak (Zbc (Zae (Zao .i64) (Zae (Zao .i64) (Zae Zef (Zae (Zbb .entry) (Zae (ZaN 160 .kid) (Zae (Zbb .int) (Zae (Zao .i64) (Zae (Zao .i64) (Zae (Zao .i64) (Zae (Zao .i64) (Zae (Zao .i64) (Zae (Zao .i64) (Zae (Zao .i64) (Zae (Zao .i64) (Zae (Zao .i64) (Zao .i64)))))))))))))))) Thread (fun y=>⟨y.1,y.2.1,y.2.2.1,y.2.2.2.1,y.2.2.2.2.1,y.2.2.2.2.2.1,y.2.2.2.2.2.2.1,y.2.2.2.2.2.2.2.1,y.2.2.2.2.2.2.2.2.1,y.2.2.2.2.2.2.2.2.2.1,y.2.2.2.2.2.2.2.2.2.2.1,y.2.2.2.2.2.2.2.2.2.2.2.1,y.2.2.2.2.2.2.2.2.2.2.2.2.1,y.2.2.2.2.2.2.2.2.2.2.2.2.2.1,y.2.2.2.2.2.2.2.2.2.2.2.2.2.2.1,y.2.2.2.2.2.2.2.2.2.2.2.2.2.2.2⟩) (fun x=>(x.phase,(x.item,(x.op,(x.batch,(x.kids,(x.held,(x.stop,(x.node,(x.at_,(x.layer,(x.left,(x.width,(x.who,(x.x,(x.y,x.until_)))))))))))))))) (fun _=>rfl)))))⟩:Way) (Zay Zil)
theorem ZEH:LoopOK e61 55 ZDi (ZaX e61.P 61 3) :=
 Zbe (L:=ZaA []) (rounds:=20) (depth:=6) (ts:=[1,2,3,4]) (v:=(Zaa (Zak Za7) (Zaa (Zak Za7) (Zaa (Zak (Zbc (Zae (Zao .i64) (Zae (Zao .i64) (Zae Zef (Zae (Zbb .entry) (Zae (ZaN 160 .kid) (Zae (Zbb .int) (Zae (Zao .i64) (Zae (Zao .i64) (Zae (Zao .i64) (Zae (Zao .i64) (Zae (Zao .i64) (Zae (Zao .i64) (Zae (Zao .i64) (Zae (Zao .i64) (Zae (Zao .i64) (Zao .i64)))))))))))))))) Thread (fun y=>⟨y.1,y.2.1,y.2.2.1,y.2.2.2.1,y.2.2.2.2.1,y.2.2.2.2.2.1,y.2.2.2.2.2.2.1,y.2.2.2.2.2.2.2.1,y.2.2.2.2.2.2.2.2.1,y.2.2.2.2.2.2.2.2.2.1,y.2.2.2.2.2.2.2.2.2.2.1,y.2.2.2.2.2.2.2.2.2.2.2.1,y.2.2.2.2.2.2.2.2.2.2.2.2.1,y.2.2.2.2.2.2.2.2.2.2.2.2.2.1,y.2.2.2.2.2.2.2.2.2.2.2.2.2.2.1,y.2.2.2.2.2.2.2.2.2.2.2.2.2.2.2⟩) (fun x=>(x.phase,(x.item,(x.op,(x.batch,(x.kids,(x.held,(x.stop,(x.node,(x.at_,(x.layer,(x.left,(x.width,(x.who,(x.x,(x.y,x.until_)))))))))))))))) (fun _=>rfl))) (Zac (Zad .i64)))))) (a:=⟨.exit 0,[2,3],(Zaa (Zak Za7) (Zac (Zak (Zbc (Zae (Zao .i64) (Zae (Zao .i64) (Zae Zef (Zae (Zbb .entry) (Zae (ZaN 160 .kid) (Zae (Zbb .int) (Zae (Zao .i64) (Zae (Zao .i64) (Zae (Zao .i64) (Zae (Zao .i64) (Zae (Zao .i64) (Zae (Zao .i64) (Zae (Zao .i64) (Zae (Zao .i64) (Zae (Zao .i64) (Zao .i64)))))))))))))))) Thread (fun y=>⟨y.1,y.2.1,y.2.2.1,y.2.2.2.1,y.2.2.2.2.1,y.2.2.2.2.2.1,y.2.2.2.2.2.2.1,y.2.2.2.2.2.2.2.1,y.2.2.2.2.2.2.2.2.1,y.2.2.2.2.2.2.2.2.2.1,y.2.2.2.2.2.2.2.2.2.2.1,y.2.2.2.2.2.2.2.2.2.2.2.1,y.2.2.2.2.2.2.2.2.2.2.2.2.1,y.2.2.2.2.2.2.2.2.2.2.2.2.2.1,y.2.2.2.2.2.2.2.2.2.2.2.2.2.2.1,y.2.2.2.2.2.2.2.2.2.2.2.2.2.2.2⟩) (fun x=>(x.phase,(x.item,(x.op,(x.batch,(x.kids,(x.held,(x.stop,(x.node,(x.at_,(x.layer,(x.left,(x.width,(x.who,(x.x,(x.y,x.until_)))))))))))))))) (fun _=>rfl)))))⟩) (step:=Zil) g61 rfl ZaE (fun x=>by kernel_rfl)
def s61:Spec:=Zar (Zac (Zap Za7)) (Zav (Zap Za7)) Zpz
theorem ok61:Zaq Tryz.prog 61 s61 :=
 Zaj (V:=e61) (L:=(ZaA [(3,ZDi)])) (rounds:=20) (depth:=6) g61 (ZaY (nt:=55) (by kernel_rfl) (Zbg (by kernel_rfl)) (Zaz ZEH ZaG)) (fun x=>by kernel_rfl)
def e62:Env:=env1 []
theorem g62:Zai e62:=Zan mix1 ent1 Zag
def ZDp:LSpec:=ZbX [0,3,4] (Zaa (Zaw .mark) (Zaa (ZaJ 162 .mark) (Zac (Zad .i64)))) (⟨.exit 0,[3],(Zac (ZaJ 162 .mark))⟩:Way) (Zay Ziv)
theorem ZEw:LoopOK e62 42 ZDp (ZaX e62.P 62 3) :=
 Zbe (L:=ZaA []) (rounds:=20) (depth:=6) (ts:=[0,3,4]) (v:=(Zaa (Zaw .mark) (Zaa (ZaJ 162 .mark) (Zac (Zad .i64))))) (a:=⟨.exit 0,[3],(Zac (ZaJ 162 .mark))⟩) (step:=Ziv) g62 rfl ZaE (fun x=>by kernel_rfl)
def s62:Spec:=Zar (Zac (Zaw .mark)) (Zav (Zaw .mark)) Zpw
theorem ok62:Zaq Tryz.prog 62 s62 :=
 Zaj (V:=e62) (L:=(ZaA [(3,ZDp)])) (rounds:=20) (depth:=6) g62 (ZaY (nt:=42) (by kernel_rfl) (Zbg (by kernel_rfl)) (Zaz ZEw ZaG)) (fun x=>by kernel_rfl)
def e20:Env:=env1 [(60,s60),(61,s61),(62,s62)]
theorem g20:Zai e20:=Zan mix1 ent1 (Zab ok60 rfl (Zab ok61 rfl (Zab ok62 rfl Zag)))
def s20:Spec:=Zar (Zac (Zap Zau)) (Zav (Zap Zau)) ZhG
theorem ok20:Zaq Tryz.prog 20 s20 :=
 Zaj (V:=e20) (L:=nL) (rounds:=20) (depth:=6) g20 Zal (fun x=>by kernel_rfl)
def e69:Env:=env1 []
theorem g69:Zai e69:=Zan mix1 ent1 Zag
def s69:Spec:=Zar (Zaa (Zad .i64) (Zac (Zad .i64))) (Zbp (Zaa (Zad .i64) (Zac (ZaF)))) Zf8
theorem ok69:Zaq Tryz.prog 69 s69 :=
 Zaj (V:=e69) (L:=nL) (rounds:=20) (depth:=6) g69 Zal (fun x=>by kernel_rfl)
def e24:Env:=env1 [(69,s69)]
theorem g24:Zai e24:=Zan mix1 ent1 (Zab ok69 rfl Zag)
def s24:Spec:=Zar (Zaa (Zap Zef) (Zaa (Zad .i64) (Zaa (Zad .i64) (Zac (Zad .i64))))) (Zbp (Zaa (Zad .i64) (Zac (ZaF)))) ZcH
theorem ok24:Zaq Tryz.prog 24 s24 :=
 Zaj (V:=e24) (L:=nL) (rounds:=20) (depth:=6) g24 Zal (fun x=>by kernel_rfl)
def e118:Env:=env1 []
theorem g118:Zai e118:=Zan mix1 ent1 Zag
def s118:Spec:=Zar (Zac (Zad .i64)) (Zav (ZaJ 3 .int)) Ziq
theorem ZGp:Zaq Tryz.prog 118 s118 :=
 Zaj (V:=e118) (L:=nL) (rounds:=20) (depth:=6) g118 Zal (fun x=>by kernel_rfl)
def e119:Env:=env1 []
theorem g119:Zai e119:=Zan mix1 ent1 Zag
def s119:Spec:=Zar (Zac (Zad .i64)) (Zav (ZaJ 30 (.lst .entry))) ZeJ
theorem ZGA:Zaq Tryz.prog 119 s119 :=
 Zaj (V:=e119) (L:=nL) (rounds:=20) (depth:=6) g119 Zal (fun x=>by kernel_rfl)
def e70:Env:=env1 [(118,s118),(119,s119)]
theorem g70:Zai e70:=Zan mix1 ent1 (Zab ZGp rfl (Zab ZGA rfl Zag))
def s70:Spec:=Zar (Zaa (Zad .i64) (Zac (Zad .i64))) (Zav (Zap (Zbc (Zae (ZaN 3 .int) (ZaN 30 (.lst .entry))) Memo (fun y=>⟨y.1,y.2⟩) (fun x=>(x.words,x.boxes)) (fun _=>rfl)))) Zpk
theorem ok70:Zaq Tryz.prog 70 s70 :=
 Zaj (V:=e70) (L:=nL) (rounds:=20) (depth:=6) g70 Zal (fun x=>by kernel_rfl)
def e148:Env:=env1 []
theorem g148:Zai e148:=Zan mix1 ent1 Zag
def s148:Spec:=Zar (Zac (Zap celConfig)) (Zav (Zad .i64)) Zf5
theorem ZCI:Zaq Tryz.prog 148 s148 :=
 Zaj (V:=e148) (L:=nL) (rounds:=20) (depth:=6) g148 Zal (fun x=>by kernel_rfl)
def e120:Env:=env1 [(148,s148)]
theorem g120:Zai e120:=Zan mix1 ent1 (Zab ZCI rfl Zag)
def s120:Spec:=Zar (Zac (Zap celConfig)) (Zav (Zap ZDX)) ZcA
theorem Zq4:Zaq Tryz.prog 120 s120 :=
 Zaj (V:=e120) (L:=nL) (rounds:=20) (depth:=6) g120 Zal (fun x=>by kernel_rfl)
def e71:Env:=env1 [(120,s120)]
theorem g71:Zai e71:=Zan mix1 ent1 (Zab Zq4 rfl Zag)
def s71:Spec:=Zar (Zac (Zap celConfig)) (Zav (Zad .i64)) ZmD
theorem ok71:Zaq Tryz.prog 71 s71 :=
 Zaj (V:=e71) (L:=nL) (rounds:=20) (depth:=6) g71 Zal (fun x=>by kernel_rfl)
def e72:Env:=env1 [(120,s120)]
theorem g72:Zai e72:=Zan mix1 ent1 (Zab Zq4 rfl Zag)
def s72:Spec:=Zar (Zaa (Zap celConfig) (Zac (Zad .i64))) (Zav (Zad .i64)) ZdJ
theorem ok72:Zaq Tryz.prog 72 s72 :=
 Zaj (V:=e72) (L:=nL) (rounds:=20) (depth:=6) g72 Zal (fun x=>by kernel_rfl)
def e25:Env:=env1 [(70,s70),(71,s71),(72,s72)]
theorem g25:Zai e25:=Zan mix1 ent1 (Zab ok70 rfl (Zab ok71 rfl (Zab ok72 rfl Zag)))
def ZCD:LSpec:=ZbX [1,2,3,11,12] (Zaa (Zak celConfig) (Zaa (Zak ZaD) (Zaa (Zak (Zbc (Zae (ZaN 3 .int) (ZaN 30 (.lst .entry))) Memo (fun y=>⟨y.1,y.2⟩) (fun x=>(x.words,x.boxes)) (fun _=>rfl))) (Zaa (Zad .i64) (Zac (Zad .i64)))))) (⟨.exit 0,[2,3],(Zaa (Zak ZaD) (Zac (Zak (Zbc (Zae (ZaN 3 .int) (ZaN 30 (.lst .entry))) Memo (fun y=>⟨y.1,y.2⟩) (fun x=>(x.words,x.boxes)) (fun _=>rfl)))))⟩:Way) (Zay Zgh)
theorem ZEg:LoopOK e25 25 ZCD (ZaX e25.P 25 3) :=
 Zbe (L:=ZaA []) (rounds:=20) (depth:=6) (ts:=[1,2,3,11,12]) (v:=(Zaa (Zak celConfig) (Zaa (Zak ZaD) (Zaa (Zak (Zbc (Zae (ZaN 3 .int) (ZaN 30 (.lst .entry))) Memo (fun y=>⟨y.1,y.2⟩) (fun x=>(x.words,x.boxes)) (fun _=>rfl))) (Zaa (Zad .i64) (Zac (Zad .i64))))))) (a:=⟨.exit 0,[2,3],(Zaa (Zak ZaD) (Zac (Zak (Zbc (Zae (ZaN 3 .int) (ZaN 30 (.lst .entry))) Memo (fun y=>⟨y.1,y.2⟩) (fun x=>(x.words,x.boxes)) (fun _=>rfl)))))⟩) (step:=Zgh) g25 rfl ZaE (fun x=>by kernel_rfl)
def s25:Spec:=Zar (Zac (Zap celConfig)) (Zav (Zap (Zbc (Zae (ZaN 3 .int) (ZaN 30 (.lst .entry))) Memo (fun y=>⟨y.1,y.2⟩) (fun x=>(x.words,x.boxes)) (fun _=>rfl)))) ZdY
theorem ok25:Zaq Tryz.prog 25 s25 :=
 Zaj (V:=e25) (L:=(ZaA [(3,ZCD)])) (rounds:=20) (depth:=6) g25 (ZaY (nt:=25) (by kernel_rfl) (Zbg (by kernel_rfl)) (Zaz ZEg ZaG)) (fun x=>by kernel_rfl)
def e73:Env:=env1 []
theorem g73:Zai e73:=Zan mix1 ent1 Zag
def s73:Spec:=Zar (Zaa (Zad .i64) (Zac (Zad .i64))) (Zav (Zad .i64)) Znd
theorem ok73:Zaq Tryz.prog 73 s73 :=
 Zaj (V:=e73) (L:=nL) (rounds:=20) (depth:=6) g73 Zal (fun x=>by kernel_rfl)
def e26:Env:=env1 [(73,s73)]
theorem g26:Zai e26:=Zan mix1 ent1 (Zab ok73 rfl Zag)
def s26:Spec:=Zar (Zaa (Zap celConfig) (Zaa (Zad .i64) (Zaa (Zap Za7) (Zaa (Zad .i64) (Zaa (Zap Zef) (Zac (Zad .i64))))))) (Zav (Zap Za7)) Zc2
theorem ok26:Zaq Tryz.prog 26 s26 :=
 Zaj (V:=e26) (L:=nL) (rounds:=20) (depth:=6) g26 Zal (fun x=>by kernel_rfl)
def e27:Env:=env1 []
theorem g27:Zai e27:=Zan mix1 ent1 Zag
def s27:Spec:=Zar Zby (Zav (Zap Za7)) Zet
theorem ok27:Zaq Tryz.prog 27 s27 :=
 Zaj (V:=e27) (L:=nL) (rounds:=20) (depth:=6) g27 Zal (fun x=>by kernel_rfl)
def e28:Env:=env1 [(17,s17)]
theorem g28:Zai e28:=Zan mix1 ent1 (Zab ok17 rfl Zag)
def s28:Spec:=Zar (Zac (Zap Zau)) (Zav (ZaF)) ZnI
theorem ok28:Zaq Tryz.prog 28 s28 :=
 Zaj (V:=e28) (L:=nL) (rounds:=20) (depth:=6) g28 Zal (fun x=>by kernel_rfl)
def e31:Env:=env1 []
theorem g31:Zai e31:=Zan mix1 ent1 Zag
def s31:Spec:=Zar (Zaa (Zap Zef) (Zac (ZaF))) (Zav (ZaF)) Zkc
theorem ok31:Zaq Tryz.prog 31 s31 :=
 Zaj (V:=e31) (L:=nL) (rounds:=20) (depth:=6) g31 Zal (fun x=>by kernel_rfl)
def e32:Env:=env1 []
theorem g32:Zai e32:=Zan mix1 ent1 Zag
def s32:Spec:=Zar (Zac (Zap celConfig)) (Zav (Zad .i64)) Zoz
theorem ok32:Zaq Tryz.prog 32 s32 :=
 Zaj (V:=e32) (L:=nL) (rounds:=20) (depth:=6) g32 Zal (fun x=>by kernel_rfl)
def e33:Env:=env1 []
theorem g33:Zai e33:=Zan mix1 ent1 Zag
def s33:Spec:=Zar (Zac (Zap Za7)) (Zav (ZaF)) ZbO
theorem ok33:Zaq Tryz.prog 33 s33 :=
 Zaj (V:=e33) (L:=nL) (rounds:=20) (depth:=6) g33 Zal (fun x=>by kernel_rfl)
def e35:Env:=env1 [(74,s74)]
theorem g35:Zai e35:=Zan mix1 ent1 (Zab ok74 rfl Zag)
def s35:Spec:=Zar (Zaa (Zap celConfig) (Zac (Zad .i64))) (Zav (Zad .i64)) ZdD
theorem ok35:Zaq Tryz.prog 35 s35 :=
 Zaj (V:=e35) (L:=nL) (rounds:=20) (depth:=6) g35 Zal (fun x=>by kernel_rfl)
def e37:Env:=env1 [(36,s36),(74,s74)]
theorem g37:Zai e37:=Zan mix1 ent1 (Zab ok36 rfl (Zab ok74 rfl Zag))
def s37:Spec:=Zar (Zaa (Zap celConfig) (Zaa (Zad .i64) (Zac (Zad .i64)))) (Zav (Zad .i64)) ZdM
theorem ok37:Zaq Tryz.prog 37 s37 :=
 Zaj (V:=e37) (L:=nL) (rounds:=20) (depth:=6) g37 Zal (fun x=>by kernel_rfl)
def e38:Env:=env1 [(74,s74)]
theorem g38:Zai e38:=Zan mix1 ent1 (Zab ok74 rfl Zag)
def s38:Spec:=Zar (Zaa (Zap celConfig) (Zac (Zad .i64))) (Zav (Zad .i64)) Zck
theorem ok38:Zaq Tryz.prog 38 s38 :=
 Zaj (V:=e38) (L:=nL) (rounds:=20) (depth:=6) g38 Zal (fun x=>by kernel_rfl)
def e39:Env:=env1 []
theorem g39:Zai e39:=Zan mix1 ent1 Zag
def s39:Spec:=Zar (Zaa (Zaw .sentry) (Zac (Zaw .int))) (Zav (ZaF)) Zwu
theorem ok39:Zaq Tryz.prog 39 s39 :=
 Zaj (V:=e39) (L:=nL) (rounds:=20) (depth:=6) g39 Zal (fun x=>by kernel_rfl)
def e127:Env:=env1 []
theorem g127:Zai e127:=Zan mix1 ent1 Zag
def ZAC:LSpec:=ZbX [1,4,5,7] (Zaa (Zad .i64) (Zaa (Zak ZaD) (Zaa (Zak (Zbc (Zae (ZaN 3 .int) (ZaN 47 (.lst .entry))) Memo (fun y=>⟨y.1,y.2⟩) (fun x=>(x.words,x.boxes)) (fun _=>rfl))) (Zac (Zad .i64))))) (⟨.exit 2,[4,5],(Zaa (Zak ZaD) (Zac (Zak (Zbc (Zae (ZaN 3 .int) (ZaN 47 (.lst .entry))) Memo (fun y=>⟨y.1,y.2⟩) (fun x=>(x.words,x.boxes)) (fun _=>rfl)))))⟩:Way) (Zay ZhJ)
theorem ZBR:LoopOK e127 39 ZAC (ZaX e127.P 127 7) :=
 Zbe (L:=ZaA []) (rounds:=20) (depth:=6) (ts:=[1,4,5,7]) (v:=(Zaa (Zad .i64) (Zaa (Zak ZaD) (Zaa (Zak (Zbc (Zae (ZaN 3 .int) (ZaN 47 (.lst .entry))) Memo (fun y=>⟨y.1,y.2⟩) (fun x=>(x.words,x.boxes)) (fun _=>rfl))) (Zac (Zad .i64)))))) (a:=⟨.exit 2,[4,5],(Zaa (Zak ZaD) (Zac (Zak (Zbc (Zae (ZaN 3 .int) (ZaN 47 (.lst .entry))) Memo (fun y=>⟨y.1,y.2⟩) (fun x=>(x.words,x.boxes)) (fun _=>rfl)))))⟩) (step:=ZhJ) g127 rfl ZaE (fun x=>by kernel_rfl)
def ZAt:LSpec:=ZbX [0,1,4,5,6] (Zaa (Zad .i64) (Zaa (Zad .i64) (Zaa (Zak ZaD) (Zaa (Zak (Zbc (Zae (ZaN 3 .int) (ZaN 47 (.lst .entry))) Memo (fun y=>⟨y.1,y.2⟩) (fun x=>(x.words,x.boxes)) (fun _=>rfl))) (Zac (Zad .i64)))))) (⟨.exit 0,[1,4,5],(Zaa (Zad .i64) (Zaa (Zak ZaD) (Zac (Zak (Zbc (Zae (ZaN 3 .int) (ZaN 47 (.lst .entry))) Memo (fun y=>⟨y.1,y.2⟩) (fun x=>(x.words,x.boxes)) (fun _=>rfl))))))⟩:Way) (Zay ZhI)
theorem ZBZ:LoopOK e127 39 ZAt (ZaX e127.P 127 3) :=
 Zbe (L:=ZaA []) (rounds:=20) (depth:=6) (ts:=[0,1,4,5,6]) (v:=(Zaa (Zad .i64) (Zaa (Zad .i64) (Zaa (Zak ZaD) (Zaa (Zak (Zbc (Zae (ZaN 3 .int) (ZaN 47 (.lst .entry))) Memo (fun y=>⟨y.1,y.2⟩) (fun x=>(x.words,x.boxes)) (fun _=>rfl))) (Zac (Zad .i64))))))) (a:=⟨.exit 0,[1,4,5],(Zaa (Zad .i64) (Zaa (Zak ZaD) (Zac (Zak (Zbc (Zae (ZaN 3 .int) (ZaN 47 (.lst .entry))) Memo (fun y=>⟨y.1,y.2⟩) (fun x=>(x.words,x.boxes)) (fun _=>rfl))))))⟩) (step:=ZhI) g127 rfl ZaE (fun x=>by kernel_rfl)
def s127:Spec:=Zar (Zaa (Zad .i64) (Zac (Zad .i64))) (Zav (Zap ZaD)) ZnZ
theorem ZGc:Zaq Tryz.prog 127 s127 :=
 Zaj (V:=e127) (L:=(ZaA [(7,ZAC),(3,ZAt)])) (rounds:=20) (depth:=6) g127 (ZaY (nt:=39) (by kernel_rfl) (Zbg (by kernel_rfl)) (Zaz ZBR (Zaz ZBZ ZaG))) (fun x=>by kernel_rfl)
def e128:Env:=env1 []
theorem g128:Zai e128:=Zan mix1 ent1 Zag
def s128:Spec:=Zar (Zaa (Zap ZaD) (Zaa (Zad .i64) (Zac (Zad .i64)))) (Zbp (Zaa (Zap ZaD) (Zac (Zad .i64)))) Zbn
theorem Zpj:Zaq Tryz.prog 128 s128 :=
 Zaj (V:=e128) (L:=nL) (rounds:=20) (depth:=6) g128 Zal (fun x=>by kernel_rfl)
def e86:Env:=env1 [(34,s34),(35,s35),(127,s127),(128,s128)]
theorem g86:Zai e86:=Zan mix1 ent1 (Zab ok34 rfl (Zab ok35 rfl (Zab ZGc rfl (Zab Zpj rfl Zag))))
def ZDs:LSpec:=ZbX [1,2,3,4] (Zaa (Zak celConfig) (Zaa (Zak ZaD) (Zaa (Zak ZaD) (Zac (Zad .i64))))) (⟨.exit 0,[2,3],(Zaa (Zak ZaD) (Zac (Zak ZaD)))⟩:Way) (Zay Zgm)
theorem ZEK:LoopOK e86 27 ZDs (ZaX e86.P 86 3) :=
 Zbe (L:=ZaA []) (rounds:=20) (depth:=6) (ts:=[1,2,3,4]) (v:=(Zaa (Zak celConfig) (Zaa (Zak ZaD) (Zaa (Zak ZaD) (Zac (Zad .i64)))))) (a:=⟨.exit 0,[2,3],(Zaa (Zak ZaD) (Zac (Zak ZaD)))⟩) (step:=Zgm) g86 rfl ZaE (fun x=>by kernel_rfl)
def s86:Spec:=Zar (Zac (Zap celConfig)) (Zav (Zap ZaD)) Zk1
theorem ok86:Zaq Tryz.prog 86 s86 :=
 Zaj (V:=e86) (L:=(ZaA [(3,ZDs)])) (rounds:=20) (depth:=6) g86 (ZaY (nt:=27) (by kernel_rfl) (Zbg (by kernel_rfl)) (Zaz ZEK ZaG)) (fun x=>by kernel_rfl)
def e87:Env:=env1 []
theorem g87:Zai e87:=Zan mix1 ent1 Zag
def s87:Spec:=Zar Zby (Zav (Zap Za7)) ZnP
theorem ok87:Zaq Tryz.prog 87 s87 :=
 Zaj (V:=e87) (L:=nL) (rounds:=20) (depth:=6) g87 Zal (fun x=>by kernel_rfl)
def e51:Env:=env1 [(23,s23),(86,s86),(87,s87)]
theorem g51:Zai e51:=Zan mix1 ent1 (Zab ok23 rfl (Zab ok86 rfl (Zab ok87 rfl Zag)))
def ZDb:LSpec:=ZbX [2,4,7,8] (Zaa (Zak celConfig) (Zaa (Zak ZaL) (Zaa (Zak (Zbc (Zae celConfig (Zae ZaD (Zae (ZaN 50 .thread) (Zae (Zao .i64) (Zae (Zao .i64) (Zae Zbo (Zae (Zbb .mark) (Zbb .event)))))))) Wld (fun y=>⟨y.1,y.2.1,y.2.2.1,y.2.2.2.1,y.2.2.2.2.1,y.2.2.2.2.2.1,y.2.2.2.2.2.2.1,y.2.2.2.2.2.2.2⟩) (fun x=>(x.c,(x.m,(x.t,(x.now,(x.steps,(x.tape,(x.log,x.hist)))))))) (fun _=>rfl))) (Zac (Zad .i64))))) (⟨.exit 0,[4,7],(Zaa (Zak ZaL) (Zac (Zak (Zbc (Zae celConfig (Zae ZaD (Zae (ZaN 50 .thread) (Zae (Zao .i64) (Zae (Zao .i64) (Zae Zbo (Zae (Zbb .mark) (Zbb .event)))))))) Wld (fun y=>⟨y.1,y.2.1,y.2.2.1,y.2.2.2.1,y.2.2.2.2.1,y.2.2.2.2.2.1,y.2.2.2.2.2.2.1,y.2.2.2.2.2.2.2⟩) (fun x=>(x.c,(x.m,(x.t,(x.now,(x.steps,(x.tape,(x.log,x.hist)))))))) (fun _=>rfl)))))⟩:Way) (Zay ZhS)
theorem ZEN:LoopOK e51 36 ZDb (ZaX e51.P 51 6) :=
 Zbe (L:=ZaA []) (rounds:=20) (depth:=6) (ts:=[2,4,7,8]) (v:=(Zaa (Zak celConfig) (Zaa (Zak ZaL) (Zaa (Zak (Zbc (Zae celConfig (Zae ZaD (Zae (ZaN 50 .thread) (Zae (Zao .i64) (Zae (Zao .i64) (Zae Zbo (Zae (Zbb .mark) (Zbb .event)))))))) Wld (fun y=>⟨y.1,y.2.1,y.2.2.1,y.2.2.2.1,y.2.2.2.2.1,y.2.2.2.2.2.1,y.2.2.2.2.2.2.1,y.2.2.2.2.2.2.2⟩) (fun x=>(x.c,(x.m,(x.t,(x.now,(x.steps,(x.tape,(x.log,x.hist)))))))) (fun _=>rfl))) (Zac (Zad .i64)))))) (a:=⟨.exit 0,[4,7],(Zaa (Zak ZaL) (Zac (Zak (Zbc (Zae celConfig (Zae ZaD (Zae (ZaN 50 .thread) (Zae (Zao .i64) (Zae (Zao .i64) (Zae Zbo (Zae (Zbb .mark) (Zbb .event)))))))) Wld (fun y=>⟨y.1,y.2.1,y.2.2.1,y.2.2.2.1,y.2.2.2.2.1,y.2.2.2.2.2.1,y.2.2.2.2.2.2.1,y.2.2.2.2.2.2.2⟩) (fun x=>(x.c,(x.m,(x.t,(x.now,(x.steps,(x.tape,(x.log,x.hist)))))))) (fun _=>rfl)))))⟩) (step:=ZhS) g51 rfl ZaE (fun x=>by kernel_rfl)
def s51:Spec:=Zar (Zaa (Zap celConfig) (Zac (Zaw .int))) (Zbp (Zaa (Zap ZaL) (Zac (Zad .i64)))) Zhn
theorem ok51:Zaq Tryz.prog 51 s51 :=
 Zaj (V:=e51) (L:=(ZaA [(6,ZDb)])) (rounds:=20) (depth:=6) g51 (ZaY (nt:=36) (by kernel_rfl) (Zbg (by kernel_rfl)) (Zaz ZEN ZaG)) (fun x=>by kernel_rfl)
def e54:Env:=env1 [(31,s31)]
theorem g54:Zai e54:=Zan mix1 ent1 (Zab ok31 rfl Zag)
def s54:Spec:=Zar (Zaa (Zap celConfig) (Zac (Zap Znv))) (Zav (Zad .i64)) ZhH
theorem ok54:Zaq Tryz.prog 54 s54 :=
 Zaj (V:=e54) (L:=nL) (rounds:=20) (depth:=6) g54 Zal (fun x=>by kernel_rfl)
def e82:Env:=env1 []
theorem g82:Zai e82:=Zan mix1 ent1 Zag
def s82:Spec:=Zar (Zac (Zap Za7)) (Zav (ZaF)) ZgB
theorem ok82:Zaq Tryz.prog 82 s82 :=
 Zaj (V:=e82) (L:=nL) (rounds:=20) (depth:=6) g82 Zal (fun x=>by kernel_rfl)
def e90:Env:=env1 []
theorem g90:Zai e90:=Zan mix1 ent1 Zag
def s90:Spec:=Zar (Zaa (Zap ZaL) (Zac (Zap Znb))) (Zav (Zap ZaL)) Zgs
theorem ok90:Zaq Tryz.prog 90 s90 :=
 Zaj (V:=e90) (L:=nL) (rounds:=20) (depth:=6) g90 Zal (fun x=>by kernel_rfl)
def e91:Env:=env1 []
theorem g91:Zai e91:=Zan mix1 ent1 Zag
def s91:Spec:=Zar (Zaa (Zap ZaL) (Zaa (Zad .i64) (Zac (Zap Za7)))) (Zav (Zap ZaL)) Zg6
theorem ok91:Zaq Tryz.prog 91 s91 :=
 Zaj (V:=e91) (L:=nL) (rounds:=20) (depth:=6) g91 Zal (fun x=>by kernel_rfl)
def e134:Env:=env1 []
theorem g134:Zai e134:=Zan mix1 ent1 Zag
def ZA8:LSpec:=ZbX [0,1,5,6] (Zaa (Zad .i64) (Zaa (Zad .i64) (Zaa (Zad .i64) (Zac (Zad .i64))))) (⟨.exit 0,[1,5],(Zaa (Zad .i64) (Zac (Zad .i64)))⟩:Way) (Zay Zjo)
theorem ZCv:LoopOK e134 22 ZA8 (ZaX e134.P 134 5) :=
 Zbe (L:=ZaA []) (rounds:=20) (depth:=6) (ts:=[0,1,5,6]) (v:=(Zaa (Zad .i64) (Zaa (Zad .i64) (Zaa (Zad .i64) (Zac (Zad .i64)))))) (a:=⟨.exit 0,[1,5],(Zaa (Zad .i64) (Zac (Zad .i64)))⟩) (step:=Zjo) g134 rfl ZaE (fun x=>by kernel_rfl)
def s134:Spec:=Zar (Zaa (Zad .i64) (Zac (Zad .i64))) (Zav (Zad .i64)) Zl8
theorem ZFz:Zaq Tryz.prog 134 s134 :=
 Zaj (V:=e134) (L:=(ZaA [(5,ZA8)])) (rounds:=20) (depth:=6) g134 (ZaY (nt:=22) (by kernel_rfl) (Zbg (by kernel_rfl)) (Zaz ZCv ZaG)) (fun x=>by kernel_rfl)
def e92:Env:=env1 [(134,s134)]
theorem g92:Zai e92:=Zan mix1 ent1 (Zab ZFz rfl Zag)
def s92:Spec:=Zar (Zaa (Zap celConfig) (Zaa (Zad .i64) (Zaa (Zap Za7) (Zaa (Zad .i64) (Zaa (Zap Zef) (Zac (Zad .i64))))))) (Zav (Zap Za7)) Zk0
theorem ok92:Zaq Tryz.prog 92 s92 :=
 Zaj (V:=e92) (L:=nL) (rounds:=20) (depth:=6) g92 Zal (fun x=>by kernel_rfl)
def e172:Env:=env1 []
theorem g172:Zai e172:=Zan mix1 ent1 Zag
def s172:Spec:=Zar (Zac (Zap Zau)) (Zav (Zap Zau)) ZkG
theorem ZFF:Zaq Tryz.prog 172 s172 :=
 Zaj (V:=e172) (L:=nL) (rounds:=20) (depth:=6) g172 Zal (fun x=>by kernel_rfl)
def e197:Env:=env1 []
theorem g197:Zai e197:=Zan mix1 ent1 Zag
def s197:Spec:=Zar (Zaa (Zap ZaD) (Zac (Zad .i64))) (Zbp (Zaa (Zad .i64) (Zac (Zad .i64)))) Zbq
theorem Zpl:Zaq Tryz.prog 197 s197 :=
 Zaj (V:=e197) (L:=nL) (rounds:=20) (depth:=6) g197 Zal (fun x=>by kernel_rfl)
def e198:Env:=env1 []
theorem g198:Zai e198:=Zan mix1 ent1 Zag
def s198:Spec:=Zar Zby (Zav (Zad .i64)) ZeE
theorem Zy9:Zaq Tryz.prog 198 s198 :=
 Zaj (V:=e198) (L:=nL) (rounds:=20) (depth:=6) g198 Zal (fun x=>by kernel_rfl)
def e199:Env:=env1 [(74,s74)]
theorem g199:Zai e199:=Zan mix1 ent1 (Zab ok74 rfl Zag)
def s199:Spec:=Zar (Zaa (Zap celConfig) (Zac (Zad .i64))) (Zav (Zad .i64)) Zfu
theorem ZC3:Zaq Tryz.prog 199 s199 :=
 Zaj (V:=e199) (L:=nL) (rounds:=20) (depth:=6) g199 Zal (fun x=>by kernel_rfl)
def e200:Env:=env1 []
theorem g200:Zai e200:=Zan mix1 ent1 Zag
def s200:Spec:=Zar (Zac (Zap Zau)) (Zav (Zap Zau)) Zdr
theorem ZzM:Zaq Tryz.prog 200 s200 :=
 Zaj (V:=e200) (L:=nL) (rounds:=20) (depth:=6) g200 Zal (fun x=>by kernel_rfl)
def e202:Env:=env1 [(24,s24)]
theorem g202:Zai e202:=Zan mix1 ent1 (Zab ok24 rfl Zag)
def ZAz:LSpec:=ZbX [0,1,2,3,9] (Zaa (Zaw .entry) (Zaa (Zad .i64) (Zaa (Zad .i64) (Zaa (Zad .i64) (Zac (Zad .i64)))))) (⟨.exit 0,[1],(Zac (Zad .i64))⟩:Way) (Zay ZhM)
theorem ZBy:LoopOK e202 29 ZAz (ZaX e202.P 202 2) :=
 Zbe (L:=ZaA []) (rounds:=20) (depth:=6) (ts:=[0,1,2,3,9]) (v:=(Zaa (Zaw .entry) (Zaa (Zad .i64) (Zaa (Zad .i64) (Zaa (Zad .i64) (Zac (Zad .i64))))))) (a:=⟨.exit 0,[1],(Zac (Zad .i64))⟩) (step:=ZhM) g202 rfl ZaE (fun x=>by kernel_rfl)
def s202:Spec:=Zar (Zaa (Zaw .entry) (Zaa (Zad .i64) (Zaa (Zad .i64) (Zac (Zad .i64))))) (Zav (Zad .i64)) Zei
theorem Zza:Zaq Tryz.prog 202 s202 :=
 Zaj (V:=e202) (L:=(ZaA [(2,ZAz)])) (rounds:=20) (depth:=6) g202 (ZaY (nt:=29) (by kernel_rfl) (Zbg (by kernel_rfl)) (Zaz ZBy ZaG)) (fun x=>by kernel_rfl)
def e236:Env:=env1 []
theorem g236:Zai e236:=Zan mix1 ent1 Zag
def ZAg:LSpec:=ZbX [0,1,5,6] (Zaa (Zaw .entry) (Zaa (Zad .i64) (Zaa (ZaJ 137 .entry) (Zac (Zad .i64))))) (⟨.exit 0,[5],(Zac (ZaJ 137 .entry))⟩:Way) (Zay Zfs)
theorem ZBM:LoopOK e236 27 ZAg (ZaX e236.P 236 3) :=
 Zbe (L:=ZaA []) (rounds:=20) (depth:=6) (ts:=[0,1,5,6]) (v:=(Zaa (Zaw .entry) (Zaa (Zad .i64) (Zaa (ZaJ 137 .entry) (Zac (Zad .i64)))))) (a:=⟨.exit 0,[5],(Zac (ZaJ 137 .entry))⟩) (step:=Zfs) g236 rfl ZaE (fun x=>by kernel_rfl)
def s236:Spec:=Zar (Zaa (Zaw .entry) (Zac (Zad .i64))) (Zav (Zaw .entry)) Zgu
theorem ZCM:Zaq Tryz.prog 236 s236 :=
 Zaj (V:=e236) (L:=(ZaA [(3,ZAg)])) (rounds:=20) (depth:=6) g236 (ZaY (nt:=27) (by kernel_rfl) (Zbg (by kernel_rfl)) (Zaz ZBM ZaG)) (fun x=>by kernel_rfl)
def e201:Env:=env1 [(38,s38),(128,s128),(198,s198),(199,s199),(200,s200),(202,s202),(236,s236)]
theorem g201:Zai e201:=Zan mix1 ent1 (Zab ok38 rfl (Zab Zpj rfl (Zab Zy9 rfl (Zab ZC3 rfl (Zab ZzM rfl (Zab Zza rfl (Zab ZCM rfl Zag)))))))
def s201:Spec:=Zar (Zac (Zap Zau)) (Zav (Zap Zau)) ZgT
theorem ZFo:Zaq Tryz.prog 201 s201 :=
 Zaj (V:=e201) (L:=nL) (rounds:=20) (depth:=6) g201 Zal (fun x=>by kernel_rfl)
def e173:Env:=env1 [(38,s38),(197,s197),(198,s198),(199,s199),(200,s200),(201,s201)]
theorem g173:Zai e173:=Zan mix1 ent1 (Zab ok38 rfl (Zab Zpl rfl (Zab Zy9 rfl (Zab ZC3 rfl (Zab ZzM rfl (Zab ZFo rfl Zag))))))
def s173:Spec:=Zar (Zac (Zap Zau)) (Zbp (Zaa (Zap Zau) (Zac (ZaF)))) ZmN
theorem ZFj:Zaq Tryz.prog 173 s173 :=
 Zaj (V:=e173) (L:=nL) (rounds:=20) (depth:=6) g173 Zal (fun x=>by kernel_rfl)
def e237:Env:=env1 [(202,s202),(236,s236)]
theorem g237:Zai e237:=Zan mix1 ent1 (Zab Zza rfl (Zab ZCM rfl Zag))
def ZAO:LSpec:=ZbX [0,1,2,3,9,10] (Zaa (Zaw .entry) (Zaa (Zad .i64) (Zaa (Zad .i64) (Zaa (Zad .i64) (Zaa (ZaJ 3 .int) (Zac (Zad .i64))))))) (⟨.exit 0,[9],(Zac (ZaJ 3 .int))⟩:Way) (Zay Zex)
theorem ZB6:LoopOK e237 29 ZAO (ZaX e237.P 237 3) :=
 Zbe (L:=ZaA []) (rounds:=20) (depth:=6) (ts:=[0,1,2,3,9,10]) (v:=(Zaa (Zaw .entry) (Zaa (Zad .i64) (Zaa (Zad .i64) (Zaa (Zad .i64) (Zaa (ZaJ 3 .int) (Zac (Zad .i64)))))))) (a:=⟨.exit 0,[9],(Zac (ZaJ 3 .int))⟩) (step:=Zex) g237 rfl ZaE (fun x=>by kernel_rfl)
def s237:Spec:=Zar (Zaa (Zaw .entry) (Zaa (Zad .i64) (Zaa (Zad .i64) (Zac (Zad .i64))))) (Zav (Zaw .int)) Zjn
theorem ZFN:Zaq Tryz.prog 237 s237 :=
 Zaj (V:=e237) (L:=(ZaA [(3,ZAO)])) (rounds:=20) (depth:=6) g237 (ZaY (nt:=29) (by kernel_rfl) (Zbg (by kernel_rfl)) (Zaz ZB6 ZaG)) (fun x=>by kernel_rfl)
def e203:Env:=env1 [(200,s200),(237,s237)]
theorem g203:Zai e203:=Zan mix1 ent1 (Zab ZzM rfl (Zab ZFN rfl Zag))
def ZAj:LSpec:=ZbX [1,2,4,5,6,7] (Zaa (Zad .i64) (Zaa (Zak Zau) (Zaa (Zak Zau) (Zaa (Zaw .int) (Zaa (ZaJ 162 .mark) (Zac (Zad .i64))))))) (⟨.exit 0,[1,2,4,6],(Zaa (Zad .i64) (Zaa (Zak Zau) (Zaa (Zak Zau) (Zac (ZaJ 162 .mark)))))⟩:Way) (Zay ZeF)
theorem ZCj:LoopOK e203 65 ZAj (ZaX e203.P 203 4) :=
 Zbe (L:=ZaA []) (rounds:=20) (depth:=6) (ts:=[1,2,4,5,6,7]) (v:=(Zaa (Zad .i64) (Zaa (Zak Zau) (Zaa (Zak Zau) (Zaa (Zaw .int) (Zaa (ZaJ 162 .mark) (Zac (Zad .i64)))))))) (a:=⟨.exit 0,[1,2,4,6],(Zaa (Zad .i64) (Zaa (Zak Zau) (Zaa (Zak Zau) (Zac (ZaJ 162 .mark)))))⟩) (step:=ZeF) g203 rfl ZaE (fun x=>by kernel_rfl)
def s203:Spec:=Zar (Zaa (Zap Zau) (Zac (Zad .i64))) (Zav (Zap Zau)) Zeo
theorem ZFG:Zaq Tryz.prog 203 s203 :=
 Zaj (V:=e203) (L:=(ZaA [(4,ZAj)])) (rounds:=20) (depth:=6) g203 (ZaY (nt:=65) (by kernel_rfl) (Zbg (by kernel_rfl)) (Zaz ZCj ZaG)) (fun x=>by kernel_rfl)
def e208:Env:=env1 []
theorem g208:Zai e208:=Zan mix1 ent1 Zag
def s208:Spec:=Zar (Zac (Zap Zau)) (Zav (ZaF)) ZeL
theorem Zyi:Zaq Tryz.prog 208 s208 :=
 Zaj (V:=e208) (L:=nL) (rounds:=20) (depth:=6) g208 Zal (fun x=>by kernel_rfl)
def e204:Env:=env1 [(208,s208)]
theorem g204:Zai e204:=Zan mix1 ent1 (Zab Zyi rfl Zag)
def s204:Spec:=Zar (Zac (Zap Zau)) (Zav (Zap Zau)) Zem
theorem ZDC:Zaq Tryz.prog 204 s204 :=
 Zaj (V:=e204) (L:=nL) (rounds:=20) (depth:=6) g204 Zal (fun x=>by kernel_rfl)
def e205:Env:=env1 [(128,s128),(197,s197)]
theorem g205:Zai e205:=Zan mix1 ent1 (Zab Zpj rfl (Zab Zpl rfl Zag))
def s205:Spec:=Zar (Zaa (Zap ZaD) (Zaa (Zad .i64) (Zaa (Zad .i64) (Zac (Zad .i64))))) (Zbp (Zaa (Zap ZaD) (Zaa (ZaF) (Zac (Zad .i64))))) ZcR
theorem Zva:Zaq Tryz.prog 205 s205 :=
 Zaj (V:=e205) (L:=nL) (rounds:=20) (depth:=6) g205 Zal (fun x=>by kernel_rfl)
def e206:Env:=env1 []
theorem g206:Zai e206:=Zan mix1 ent1 Zag
def s206:Spec:=Zar (Zaa (Zad .i64) (Zac (Zad .i64))) (Zav (Zad .i64)) ZhK
theorem ZFD:Zaq Tryz.prog 206 s206 :=
 Zaj (V:=e206) (L:=nL) (rounds:=20) (depth:=6) g206 Zal (fun x=>by kernel_rfl)
def e174:Env:=env1 [(35,s35),(197,s197),(202,s202),(203,s203),(204,s204),(205,s205),(206,s206)]
theorem g174:Zai e174:=Zan mix1 ent1 (Zab ok35 rfl (Zab Zpl rfl (Zab Zza rfl (Zab ZFG rfl (Zab ZDC rfl (Zab Zva rfl (Zab ZFD rfl Zag)))))))
def s174:Spec:=Zar (Zac (Zap Zau)) (Zbp (Zaa (Zap Zau) (Zac (ZaF)))) ZlN
theorem ZGv:Zaq Tryz.prog 174 s174 :=
 Zaj (V:=e174) (L:=nL) (rounds:=20) (depth:=6) g174 Zal (fun x=>by kernel_rfl)
def e210:Env:=env1 []
theorem g210:Zai e210:=Zan mix1 ent1 Zag
def s210:Spec:=Zar (Zac (Zad .i64)) (Zav (Zad .i64)) Zde
theorem Zyf:Zaq Tryz.prog 210 s210 :=
 Zaj (V:=e210) (L:=nL) (rounds:=20) (depth:=6) g210 Zal (fun x=>by kernel_rfl)
def e212:Env:=env1 []
theorem g212:Zai e212:=Zan mix1 ent1 Zag
def s212:Spec:=Zar (Zac (Zad .i64)) (Zav (Zad .i64)) Zfv
theorem ZDz:Zaq Tryz.prog 212 s212 :=
 Zaj (V:=e212) (L:=nL) (rounds:=20) (depth:=6) g212 Zal (fun x=>by kernel_rfl)
def e219:Env:=env1 []
theorem g219:Zai e219:=Zan mix1 ent1 Zag
def s219:Spec:=Zar (Zac (Zad .i64)) (Zav (Zad .i64)) Zd6
theorem ZDy:Zaq Tryz.prog 219 s219 :=
 Zaj (V:=e219) (L:=nL) (rounds:=20) (depth:=6) g219 Zal (fun x=>by kernel_rfl)
def e238:Env:=env1 []
theorem g238:Zai e238:=Zan mix1 ent1 Zag
def s238:Spec:=Zar (Zaa (Zad .i64) (Zac (Zad .i64))) (Zav (Zad .i64)) ZdA
theorem Zu6:Zaq Tryz.prog 238 s238 :=
 Zaj (V:=e238) (L:=nL) (rounds:=20) (depth:=6) g238 Zal (fun x=>by kernel_rfl)
def e207:Env:=env1 [(198,s198),(210,s210),(212,s212),(219,s219),(238,s238)]
theorem g207:Zai e207:=Zan mix1 ent1 (Zab Zy9 rfl (Zab Zyf rfl (Zab ZDz rfl (Zab ZDy rfl (Zab Zu6 rfl Zag)))))
def ZtM:LSpec:=Zdm [0,4,5] (Zaa (Zad .i64) (Zaa (Zad .i64) (Zac (Zad .i64)))) (⟨.exit 4,[0,4],(Zaa (Zad .i64) (Zac (Zad .i64)))⟩:Way) (⟨.ret,[2],(Zac (Zad .i64))⟩:Way) (Zay Ze6)
theorem Zug:LoopOK e207 40 ZtM (ZaX e207.P 207 18) :=
 Zco (L:=ZaA []) (rounds:=20) (depth:=6) (ts:=[0,4,5]) (v:=(Zaa (Zad .i64) (Zaa (Zad .i64) (Zac (Zad .i64))))) (a:=⟨.exit 4,[0,4],(Zaa (Zad .i64) (Zac (Zad .i64)))⟩) (b:=⟨.ret,[2],(Zac (Zad .i64))⟩) (step:=Ze6) g207 rfl rfl ZaE (fun x=>by kernel_rfl)
def Zyc:LSpec:=Zdm [0,4] (Zaa (Zad .i64) (Zac (Zad .i64))) (⟨.exit 2,[],Zby⟩:Way) (⟨.ret,[2],(Zac (Zad .i64))⟩:Way) (Zay Ze7)
theorem ZA3:LoopOK e207 40 Zyc (ZaX e207.P 207 15) :=
 Zco (L:=ZaA [(18,ZtM)]) (rounds:=20) (depth:=6) (ts:=[0,4]) (v:=(Zaa (Zad .i64) (Zac (Zad .i64)))) (a:=⟨.exit 2,[],Zby⟩) (b:=⟨.ret,[2],(Zac (Zad .i64))⟩) (step:=Ze7) g207 rfl rfl (ZrJ (by kernel_rfl) (Zaz Zug ZaG)) (fun x=>by kernel_rfl)
def ZBi:LSpec:=Zdm [0,3] (Zaa (Zad .i64) (Zac (Zad .i64))) (⟨.exit 0,[0],(Zac (Zad .i64))⟩:Way) (⟨.ret,[2],(Zac (Zad .i64))⟩:Way) (Zay Zfl)
theorem ZBJ:LoopOK e207 40 ZBi (ZaX e207.P 207 6) :=
 Zco (L:=ZaA []) (rounds:=20) (depth:=6) (ts:=[0,3]) (v:=(Zaa (Zad .i64) (Zac (Zad .i64)))) (a:=⟨.exit 0,[0],(Zac (Zad .i64))⟩) (b:=⟨.ret,[2],(Zac (Zad .i64))⟩) (step:=Zfl) g207 rfl rfl ZaE (fun x=>by kernel_rfl)
def s207:Spec:=Zar (Zac (Zad .i64)) (Zav (Zad .i64)) Zdv
theorem Zzk:Zaq Tryz.prog 207 s207 :=
 Zaj (V:=e207) (L:=(ZaA [(18,ZtM),(15,Zyc),(6,ZBi)])) (rounds:=20) (depth:=6) g207 (ZaY (nt:=40) (by kernel_rfl) (Zbg (by kernel_rfl)) (Zaz Zug (Zaz ZA3 (Zaz ZBJ ZaG)))) (fun x=>by kernel_rfl)
def e239:Env:=env1 []
theorem g239:Zai e239:=Zan mix1 ent1 Zag
def s239:Spec:=Zar (Zac (Zap Zau)) (Zav (Zap Zau)) Zgx
theorem ZCQ:Zaq Tryz.prog 239 s239 :=
 Zaj (V:=e239) (L:=nL) (rounds:=20) (depth:=6) g239 Zal (fun x=>by kernel_rfl)
def e209:Env:=env1 [(239,s239)]
theorem g209:Zai e209:=Zan mix1 ent1 (Zab ZCQ rfl Zag)
def s209:Spec:=Zar (Zac (Zap Zau)) (Zav (Zap Zau)) ZgJ
theorem ZGo:Zaq Tryz.prog 209 s209 :=
 Zaj (V:=e209) (L:=nL) (rounds:=20) (depth:=6) g209 Zal (fun x=>by kernel_rfl)
def e211:Env:=env1 []
theorem g211:Zai e211:=Zan mix1 ent1 Zag
def s211:Spec:=Zar (Zac (Zad .i64)) (Zav (Zad .i64)) Zjx
theorem ZGa:Zaq Tryz.prog 211 s211 :=
 Zaj (V:=e211) (L:=nL) (rounds:=20) (depth:=6) g211 Zal (fun x=>by kernel_rfl)
def e175:Env:=env1 [(37,s37),(197,s197),(205,s205),(207,s207),(208,s208),(209,s209),(210,s210),(211,s211),(212,s212)]
theorem g175:Zai e175:=Zan mix1 ent1 (Zab ok37 rfl (Zab Zpl rfl (Zab Zva rfl (Zab Zzk rfl (Zab Zyi rfl (Zab ZGo rfl (Zab Zyf rfl (Zab ZGa rfl (Zab ZDz rfl Zag)))))))))
def s175:Spec:=Zar (Zac (Zap Zau)) (Zbp (Zaa (Zap Zau) (Zac (ZaF)))) Zit
theorem ZGf:Zaq Tryz.prog 175 s175 :=
 Zaj (V:=e175) (L:=nL) (rounds:=20) (depth:=6) g175 Zal (fun x=>by kernel_rfl)
def e213:Env:=env1 [(37,s37)]
theorem g213:Zai e213:=Zan mix1 ent1 (Zab ok37 rfl Zag)
def s213:Spec:=Zar (Zac (Zap Zau)) (Zav (Zad .i64)) ZmH
theorem ZGF:Zaq Tryz.prog 213 s213 :=
 Zaj (V:=e213) (L:=nL) (rounds:=20) (depth:=6) g213 Zal (fun x=>by kernel_rfl)
def e214:Env:=env1 [(207,s207)]
theorem g214:Zai e214:=Zan mix1 ent1 (Zab Zzk rfl Zag)
def s214:Spec:=Zar (Zac (Zad .i64)) (Zav (Zad .i64)) Zn8
theorem ZF0:Zaq Tryz.prog 214 s214 :=
 Zaj (V:=e214) (L:=nL) (rounds:=20) (depth:=6) g214 Zal (fun x=>by kernel_rfl)
def e215:Env:=env1 [(239,s239)]
theorem g215:Zai e215:=Zan mix1 ent1 (Zab ZCQ rfl Zag)
def s215:Spec:=Zar (Zac (Zap Zau)) (Zav (Zap Zau)) Zjc
theorem ZF2:Zaq Tryz.prog 215 s215 :=
 Zaj (V:=e215) (L:=nL) (rounds:=20) (depth:=6) g215 Zal (fun x=>by kernel_rfl)
def e216:Env:=env1 []
theorem g216:Zai e216:=Zan mix1 ent1 Zag
def s216:Spec:=Zar (Zaa (Zap ZaD) (Zac (Zad .i64))) (Zbp (Zaa (Zaw .entry) (Zac (Zad .i64)))) Zhm
theorem ZDL:Zaq Tryz.prog 216 s216 :=
 Zaj (V:=e216) (L:=nL) (rounds:=20) (depth:=6) g216 Zal (fun x=>by kernel_rfl)
def e240:Env:=env1 []
theorem g240:Zai e240:=Zan mix1 ent1 Zag
def ZAo:LSpec:=ZbX [0,3,4] (Zaa (Zaw (.lst .entry)) (Zaa (ZaJ 137 .entry) (Zac (Zad .i64)))) (⟨.exit 0,[3],(Zac (ZaJ 137 .entry))⟩:Way) (Zay Zek)
theorem ZCx:LoopOK e240 19 ZAo (ZaX e240.P 240 3) :=
 Zbe (L:=ZaA []) (rounds:=20) (depth:=6) (ts:=[0,3,4]) (v:=(Zaa (Zaw (.lst .entry)) (Zaa (ZaJ 137 .entry) (Zac (Zad .i64))))) (a:=⟨.exit 0,[3],(Zac (ZaJ 137 .entry))⟩) (step:=Zek) g240 rfl ZaE (fun x=>by kernel_rfl)
def s240:Spec:=Zar (Zac (Zaw (.lst .entry))) (Zav (Zaw .entry)) ZmI
theorem ZF9:Zaq Tryz.prog 240 s240 :=
 Zaj (V:=e240) (L:=(ZaA [(3,ZAo)])) (rounds:=20) (depth:=6) g240 (ZaY (nt:=19) (by kernel_rfl) (Zbg (by kernel_rfl)) (Zaz ZCx ZaG)) (fun x=>by kernel_rfl)
def e217:Env:=env1 [(240,s240)]
theorem g217:Zai e217:=Zan mix1 ent1 (Zab ZF9 rfl Zag)
def s217:Spec:=Zar (Zaa (Zap Zau) (Zaa (Zad .i64) (Zac (Zaw .entry)))) (Zav (Zap Zau)) ZgL
theorem ZDt:Zaq Tryz.prog 217 s217 :=
 Zaj (V:=e217) (L:=nL) (rounds:=20) (depth:=6) g217 Zal (fun x=>by kernel_rfl)
def e218:Env:=env1 []
theorem g218:Zai e218:=Zan mix1 ent1 Zag
def s218:Spec:=Zar (Zaa (Zap ZaD) (Zaa (Zad .i64) (Zac (Zaw .entry)))) (Zbp (Zaa (Zap ZaD) (Zac (Zad .i64)))) ZhD
theorem ZDh:Zaq Tryz.prog 218 s218 :=
 Zaj (V:=e218) (L:=nL) (rounds:=20) (depth:=6) g218 Zal (fun x=>by kernel_rfl)
def e176:Env:=env1 [(37,s37),(128,s128),(197,s197),(205,s205),(207,s207),(210,s210),(213,s213),(214,s214),(215,s215),(216,s216),(217,s217),(218,s218),(219,s219)]
theorem g176:Zai e176:=Zan mix1 ent1 (Zab ok37 rfl (Zab Zpj rfl (Zab Zpl rfl (Zab Zva rfl (Zab Zzk rfl (Zab Zyf rfl (Zab ZGF rfl (Zab ZF0 rfl (Zab ZF2 rfl (Zab ZDL rfl (Zab ZDt rfl (Zab ZDh rfl (Zab ZDy rfl Zag)))))))))))))
def s176:Spec:=Zar (Zac (Zap Zau)) (Zbp (Zaa (Zap Zau) (Zac (ZaF)))) ZfD
theorem ZFQ:Zaq Tryz.prog 176 s176 :=
 Zaj (V:=e176) (L:=nL) (rounds:=20) (depth:=6) g176 Zal (fun x=>by kernel_rfl)
def e220:Env:=env1 [(38,s38),(128,s128),(238,s238)]
theorem g220:Zai e220:=Zan mix1 ent1 (Zab ok38 rfl (Zab Zpj rfl (Zab Zu6 rfl Zag)))
def s220:Spec:=Zar (Zaa (Zap Zau) (Zac (Zad .i64))) (Zav (Zap Zau)) ZgX
theorem ZFM:Zaq Tryz.prog 220 s220 :=
 Zaj (V:=e220) (L:=nL) (rounds:=20) (depth:=6) g220 Zal (fun x=>by kernel_rfl)
def e247:Env:=env1 []
theorem g247:Zai e247:=Zan mix1 ent1 Zag
def s247:Spec:=Zar (Zac (Zap Zbo)) (Zbp (Zaa (Zad .i64) (Zac (Zap Zbo)))) Zna
theorem ZFO:Zaq Tryz.prog 247 s247 :=
 Zaj (V:=e247) (L:=nL) (rounds:=20) (depth:=6) g247 Zal (fun x=>by kernel_rfl)
def e241:Env:=env1 [(247,s247)]
theorem g241:Zai e241:=Zan mix1 ent1 (Zab ZFO rfl Zag)
def s241:Spec:=Zar (Zaa (Zap Zbo) (Zac (Zad .i64))) (Zbp (Zaa (Zad .i64) (Zac (Zap Zbo)))) ZkF
theorem ZGh:Zaq Tryz.prog 241 s241 :=
 Zaj (V:=e241) (L:=nL) (rounds:=20) (depth:=6) g241 Zal (fun x=>by kernel_rfl)
def e242:Env:=env1 [(128,s128),(197,s197)]
theorem g242:Zai e242:=Zan mix1 ent1 (Zab Zpj rfl (Zab Zpl rfl Zag))
def s242:Spec:=Zar (Zaa (Zap ZaD) (Zaa (Zad .i64) (Zac (Zad .i64)))) (Zbp (Zaa (Zap ZaD) (Zaa (Zad .i64) (Zac (Zad .i64))))) Zm1
theorem ZGk:Zaq Tryz.prog 242 s242 :=
 Zaj (V:=e242) (L:=nL) (rounds:=20) (depth:=6) g242 Zal (fun x=>by kernel_rfl)
def e243:Env:=env1 [(36,s36),(74,s74)]
theorem g243:Zai e243:=Zan mix1 ent1 (Zab ok36 rfl (Zab ok74 rfl Zag))
def s243:Spec:=Zar (Zaa (Zap celConfig) (Zaa (Zad .i64) (Zaa (Zad .i64) (Zac (Zad .i64))))) (Zav (Zad .i64)) ZlU
theorem ZGD:Zaq Tryz.prog 243 s243 :=
 Zaj (V:=e243) (L:=nL) (rounds:=20) (depth:=6) g243 Zal (fun x=>by kernel_rfl)
def e221:Env:=env1 [(241,s241),(242,s242),(243,s243)]
theorem g221:Zai e221:=Zan mix1 ent1 (Zab ZGh rfl (Zab ZGk rfl (Zab ZGD rfl Zag)))
def s221:Spec:=Zar (Zac (Zap Zau)) (Zav (Zap Zau)) ZmY
theorem ZFp:Zaq Tryz.prog 221 s221 :=
 Zaj (V:=e221) (L:=nL) (rounds:=20) (depth:=6) g221 Zal (fun x=>by kernel_rfl)
def e222:Env:=env1 [(38,s38),(205,s205),(238,s238)]
theorem g222:Zai e222:=Zan mix1 ent1 (Zab ok38 rfl (Zab Zva rfl (Zab Zu6 rfl Zag)))
def s222:Spec:=Zar (Zaa (Zap Zau) (Zaa (Zad .i64) (Zaa (Zad .i64) (Zac (Zad .i64))))) (Zav (Zap Zau)) ZeC
theorem ZGG:Zaq Tryz.prog 222 s222 :=
 Zaj (V:=e222) (L:=nL) (rounds:=20) (depth:=6) g222 Zal (fun x=>by kernel_rfl)
def e223:Env:=env1 [(38,s38),(197,s197),(208,s208),(238,s238)]
theorem g223:Zai e223:=Zan mix1 ent1 (Zab ok38 rfl (Zab Zpl rfl (Zab Zyi rfl (Zab Zu6 rfl Zag))))
def s223:Spec:=Zar (Zac (Zap Zau)) (Zav (Zap Zau)) Zme
theorem ZFq:Zaq Tryz.prog 223 s223 :=
 Zaj (V:=e223) (L:=nL) (rounds:=20) (depth:=6) g223 Zal (fun x=>by kernel_rfl)
def e224:Env:=env1 []
theorem g224:Zai e224:=Zan mix1 ent1 Zag
def s224:Spec:=Zar (Zac (Zad .i64)) (Zav (Zad .i64)) Zmw
theorem ZGm:Zaq Tryz.prog 224 s224 :=
 Zaj (V:=e224) (L:=nL) (rounds:=20) (depth:=6) g224 Zal (fun x=>by kernel_rfl)
def e177:Env:=env1 [(204,s204),(216,s216),(217,s217),(218,s218),(220,s220),(221,s221),(222,s222),(223,s223),(224,s224)]
theorem g177:Zai e177:=Zan mix1 ent1 (Zab ZDC rfl (Zab ZDL rfl (Zab ZDt rfl (Zab ZDh rfl (Zab ZFM rfl (Zab ZFp rfl (Zab ZGG rfl (Zab ZFq rfl (Zab ZGm rfl Zag)))))))))
def s177:Spec:=Zar (Zac (Zap Zau)) (Zbp (Zaa (Zap Zau) (Zac (ZaF)))) ZcS
theorem ZGd:Zaq Tryz.prog 177 s177 :=
 Zaj (V:=e177) (L:=nL) (rounds:=20) (depth:=6) g177 Zal (fun x=>by kernel_rfl)
def e135:Env:=env1 [(38,s38),(128,s128),(172,s172),(173,s173),(174,s174),(175,s175),(176,s176),(177,s177)]
theorem g135:Zai e135:=Zan mix1 ent1 (Zab ok38 rfl (Zab Zpj rfl (Zab ZFF rfl (Zab ZFj rfl (Zab ZGv rfl (Zab ZGf rfl (Zab ZFQ rfl (Zab ZGd rfl Zag))))))))
def s135:Spec:=Zar (Zac (Zap Zau)) (Zav (Zap Zau)) Zmh
theorem ZFY:Zaq Tryz.prog 135 s135 :=
 Zaj (V:=e135) (L:=nL) (rounds:=20) (depth:=6) g135 Zal (fun x=>by kernel_rfl)
def e93:Env:=env1 [(24,s24),(90,s90),(91,s91),(135,s135)]
theorem g93:Zai e93:=Zan mix1 ent1 (Zab ok24 rfl (Zab ok90 rfl (Zab ok91 rfl (Zab ZFY rfl Zag))))
def ZCX:LSpec:=ZbX [1,2,4,5,6,7] (Zaa (Zad .i64) (Zaa (Zak ZaL) (Zaa (Zak ZaL) (Zaa (Zak Zau) (Zaa (ZaJ 162 .mark) (Zac (Zad .i64))))))) (⟨.exit 0,[1,2,4,5,6],(Zaa (Zad .i64) (Zaa (Zak ZaL) (Zaa (Zak ZaL) (Zaa (Zak Zau) (Zac (ZaJ 162 .mark))))))⟩:Way) (Zay ZgU)
theorem ZD4:LoopOK e93 101 ZCX (ZaX e93.P 93 8) :=
 Zbe (L:=ZaA []) (rounds:=20) (depth:=6) (ts:=[1,2,4,5,6,7]) (v:=(Zaa (Zad .i64) (Zaa (Zak ZaL) (Zaa (Zak ZaL) (Zaa (Zak Zau) (Zaa (ZaJ 162 .mark) (Zac (Zad .i64)))))))) (a:=⟨.exit 0,[1,2,4,5,6],(Zaa (Zad .i64) (Zaa (Zak ZaL) (Zaa (Zak ZaL) (Zaa (Zak Zau) (Zac (ZaJ 162 .mark))))))⟩) (step:=ZgU) g93 rfl ZaE (fun x=>by kernel_rfl)
def s93:Spec:=Zar (Zaa (Zap ZaL) (Zac (Zad .i64))) (Zav (Zap ZaL)) Zmv
theorem ok93:Zaq Tryz.prog 93 s93 :=
 Zaj (V:=e93) (L:=(ZaA [(8,ZCX)])) (rounds:=20) (depth:=6) g93 (ZaY (nt:=101) (by kernel_rfl) (Zbg (by kernel_rfl)) (Zaz ZD4 ZaG)) (fun x=>by kernel_rfl)
def e53:Env:=env1 [(54,s54),(82,s82),(90,s90),(91,s91),(92,s92),(93,s93)]
theorem g53:Zai e53:=Zan mix1 ent1 (Zab ok54 rfl (Zab ok82 rfl (Zab ok90 rfl (Zab ok91 rfl (Zab ok92 rfl (Zab ok93 rfl Zag))))))
def s53:Spec:=Zar (Zaa (Zap ZaL) (Zac (Zap Znv))) (Zbp (Zaa (Zap ZaL) (Zac (Zad .i64)))) Zjf
theorem ok53:Zaq Tryz.prog 53 s53 :=
 Zaj (V:=e53) (L:=nL) (rounds:=20) (depth:=6) g53 Zal (fun x=>by kernel_rfl)
def e77:Env:=env1 [(23,s23),(54,s54)]
theorem g77:Zai e77:=Zan mix1 ent1 (Zab ok23 rfl (Zab ok54 rfl Zag))
def ZCN:LSpec:=Zdm [1,2,7] (Zaa (Zaw .sentry) (Zaa (Zak celConfig) (Zac (Zad .i64)))) (⟨.exit 0,[],Zby⟩:Way) (⟨.ret,[4,5],(Zaa (Zad .i64) (Zac (Zad .i64)))⟩:Way) (Zay ZkH)
theorem ZEv:LoopOK e77 33 ZCN (ZaX e77.P 77 7) :=
 Zco (L:=ZaA []) (rounds:=20) (depth:=6) (ts:=[1,2,7]) (v:=(Zaa (Zaw .sentry) (Zaa (Zak celConfig) (Zac (Zad .i64))))) (a:=⟨.exit 0,[],Zby⟩) (b:=⟨.ret,[4,5],(Zaa (Zad .i64) (Zac (Zad .i64)))⟩) (step:=ZkH) g77 rfl rfl ZaE (fun x=>by kernel_rfl)
def s77:Spec:=Zar (Zaa (Zap celConfig) (Zac (Zaw .sentry))) (Zbp (Zaa (Zad .i64) (Zac (Zad .i64)))) Zrn
theorem ok77:Zaq Tryz.prog 77 s77 :=
 Zaj (V:=e77) (L:=(ZaA [(7,ZCN)])) (rounds:=20) (depth:=6) g77 (ZaY (nt:=33) (by kernel_rfl) (Zbg (by kernel_rfl)) (Zaz ZEv ZaG)) (fun x=>by kernel_rfl)
def e42:Env:=env1 [(51,s51),(53,s53),(77,s77)]
theorem g42:Zai e42:=Zan mix1 ent1 (Zab ok51 rfl (Zab ok53 rfl (Zab ok77 rfl Zag)))
def ZDn:LSpec:=ZbX [1,6,11,13] (Zaa (Zaw .sentry) (Zaa (Zak ZaL) (Zaa (Zak ZaL) (Zac (Zad .i64))))) (⟨.exit 0,[6,11],(Zaa (Zak ZaL) (Zac (Zak ZaL)))⟩:Way) (Zay ZkP)
theorem ZEq:LoopOK e42 47 ZDn (ZaX e42.P 42 6) :=
 Zbe (L:=ZaA []) (rounds:=20) (depth:=6) (ts:=[1,6,11,13]) (v:=(Zaa (Zaw .sentry) (Zaa (Zak ZaL) (Zaa (Zak ZaL) (Zac (Zad .i64)))))) (a:=⟨.exit 0,[6,11],(Zaa (Zak ZaL) (Zac (Zak ZaL)))⟩) (step:=ZkP) g42 rfl ZaE (fun x=>by kernel_rfl)
def s42:Spec:=Zar (Zaa (Zap celConfig) (Zaa (Zaw .sentry) (Zac (Zaw .int)))) (Zbp (Zaa (Zap ZaL) (Zaa (Zad .i64) (Zac (Zad .i64))))) ZwK
theorem ok42:Zaq Tryz.prog 42 s42 :=
 Zaj (V:=e42) (L:=(ZaA [(6,ZDn)])) (rounds:=20) (depth:=6) g42 (ZaY (nt:=47) (by kernel_rfl) (Zbg (by kernel_rfl)) (Zaz ZEq ZaG)) (fun x=>by kernel_rfl)
def e43:Env:=env1 []
theorem g43:Zai e43:=Zan mix1 ent1 Zag
def ZDK:LSpec:=ZbX [0,3,4] (Zaa (Zaw .sentry) (Zaa (ZaJ 112 .sentry) (Zac (Zad .i64)))) (⟨.exit 0,[3],(Zac (ZaJ 112 .sentry))⟩:Way) (Zay Ze5)
theorem ZDT:LoopOK e43 37 ZDK (ZaX e43.P 43 3) :=
 Zbe (L:=ZaA []) (rounds:=20) (depth:=6) (ts:=[0,3,4]) (v:=(Zaa (Zaw .sentry) (Zaa (ZaJ 112 .sentry) (Zac (Zad .i64))))) (a:=⟨.exit 0,[3],(Zac (ZaJ 112 .sentry))⟩) (step:=Ze5) g43 rfl ZaE (fun x=>by kernel_rfl)
def s43:Spec:=Zar (Zac (Zaw .sentry)) (Zav (Zaw .sentry)) Zk2
theorem ok43:Zaq Tryz.prog 43 s43 :=
 Zaj (V:=e43) (L:=(ZaA [(3,ZDK)])) (rounds:=20) (depth:=6) g43 (ZaY (nt:=37) (by kernel_rfl) (Zbg (by kernel_rfl)) (Zaz ZDT ZaG)) (fun x=>by kernel_rfl)
def e78:Env:=env1 []
theorem g78:Zai e78:=Zan mix1 ent1 Zag
def ZCB:LSpec:=Zdm [0,1,5] (Zaa (Zaw .event) (Zaa (Zaw .event) (Zac (Zad .i64)))) (⟨.exit 0,[],Zby⟩:Way) (⟨.ret,[4],(Zac (ZaF))⟩:Way) (Zay Zeu)
theorem ZEt:LoopOK e78 26 ZCB (ZaX e78.P 78 4) :=
 Zco (L:=ZaA []) (rounds:=20) (depth:=6) (ts:=[0,1,5]) (v:=(Zaa (Zaw .event) (Zaa (Zaw .event) (Zac (Zad .i64))))) (a:=⟨.exit 0,[],Zby⟩) (b:=⟨.ret,[4],(Zac (ZaF))⟩) (step:=Zeu) g78 rfl rfl ZaE (fun x=>by kernel_rfl)
def s78:Spec:=Zar (Zaa (Zaw .event) (Zac (Zaw .event))) (Zav (ZaF)) Zj8
theorem ok78:Zaq Tryz.prog 78 s78 :=
 Zaj (V:=e78) (L:=(ZaA [(4,ZCB)])) (rounds:=20) (depth:=6) g78 (ZaY (nt:=26) (by kernel_rfl) (Zbg (by kernel_rfl)) (Zaz ZEt ZaG)) (fun x=>by kernel_rfl)
def e44:Env:=env1 [(56,s56),(57,s57),(58,s58),(59,s59),(78,s78)]
theorem g44:Zai e44:=Zan mix1 ent1 (Zab ok56 rfl (Zab ok57 rfl (Zab ok58 rfl (Zab ok59 rfl (Zab ok78 rfl Zag)))))
def ZC8:LSpec:=Zdm [2,3,5] (Zaa (Zak ZaL) (Zaa (Zak ZaL) (Zac (Zad .i64)))) (⟨.exit 0,[],Zby⟩:Way) (⟨.ret,[4],(Zac (ZaF))⟩:Way) (Zay Zfk)
theorem ZEB:LoopOK e44 85 ZC8 (ZaX e44.P 44 4) :=
 Zco (L:=ZaA []) (rounds:=20) (depth:=6) (ts:=[2,3,5]) (v:=(Zaa (Zak ZaL) (Zaa (Zak ZaL) (Zac (Zad .i64))))) (a:=⟨.exit 0,[],Zby⟩) (b:=⟨.ret,[4],(Zac (ZaF))⟩) (step:=Zfk) g44 rfl rfl ZaE (fun x=>by kernel_rfl)
def s44:Spec:=Zar (Zaa (Zap ZaL) (Zac (Zap ZaL))) (Zav (ZaF)) Zdy
theorem ok44:Zaq Tryz.prog 44 s44 :=
 Zaj (V:=e44) (L:=(ZaA [(4,ZC8)])) (rounds:=20) (depth:=6) g44 (ZaY (nt:=85) (by kernel_rfl) (Zbg (by kernel_rfl)) (Zaz ZEB ZaG)) (fun x=>by kernel_rfl)
def e125:Env:=env1 []
theorem g125:Zai e125:=Zan mix1 ent1 Zag
def Zz3:LSpec:=ZbX [0,3,4] (Zaa (Zaw .entry) (Zaa (ZaJ 137 .entry) (Zac (Zad .i64)))) (⟨.exit 0,[3],(Zac (ZaJ 137 .entry))⟩:Way) (Zay Zd9)
theorem ZBz:LoopOK e125 27 Zz3 (ZaX e125.P 125 3) :=
 Zbe (L:=ZaA []) (rounds:=20) (depth:=6) (ts:=[0,3,4]) (v:=(Zaa (Zaw .entry) (Zaa (ZaJ 137 .entry) (Zac (Zad .i64))))) (a:=⟨.exit 0,[3],(Zac (ZaJ 137 .entry))⟩) (step:=Zd9) g125 rfl ZaE (fun x=>by kernel_rfl)
def s125:Spec:=Zar (Zac (Zaw .entry)) (Zav (ZaJ 137 .entry)) ZeX
theorem ZCJ:Zaq Tryz.prog 125 s125 :=
 Zaj (V:=e125) (L:=(ZaA [(3,Zz3)])) (rounds:=20) (depth:=6) g125 (ZaY (nt:=27) (by kernel_rfl) (Zbg (by kernel_rfl)) (Zaz ZBz ZaG)) (fun x=>by kernel_rfl)
def e79:Env:=env1 [(125,s125)]
theorem g79:Zai e79:=Zan mix1 ent1 (Zab ZCJ rfl Zag)
def ZCO:LSpec:=ZbX [1,2,3,4] (Zaa (Zak ZaD) (Zaa (Zak ZaD) (Zaa (Zak (Zbc (Zae (Zbb .int) (ZaN 47 (.lst .entry))) Memo (fun y=>⟨y.1,y.2⟩) (fun x=>(x.words,x.boxes)) (fun _=>rfl))) (Zac (Zad .i64))))) (⟨.exit 0,[2,3],(Zaa (Zak ZaD) (Zac (Zak (Zbc (Zae (Zbb .int) (ZaN 47 (.lst .entry))) Memo (fun y=>⟨y.1,y.2⟩) (fun x=>(x.words,x.boxes)) (fun _=>rfl)))))⟩:Way) (Zay Zey)
theorem ZDP:LoopOK e79 27 ZCO (ZaX e79.P 79 3) :=
 Zbe (L:=ZaA []) (rounds:=20) (depth:=6) (ts:=[1,2,3,4]) (v:=(Zaa (Zak ZaD) (Zaa (Zak ZaD) (Zaa (Zak (Zbc (Zae (Zbb .int) (ZaN 47 (.lst .entry))) Memo (fun y=>⟨y.1,y.2⟩) (fun x=>(x.words,x.boxes)) (fun _=>rfl))) (Zac (Zad .i64)))))) (a:=⟨.exit 0,[2,3],(Zaa (Zak ZaD) (Zac (Zak (Zbc (Zae (Zbb .int) (ZaN 47 (.lst .entry))) Memo (fun y=>⟨y.1,y.2⟩) (fun x=>(x.words,x.boxes)) (fun _=>rfl)))))⟩) (step:=Zey) g79 rfl ZaE (fun x=>by kernel_rfl)
def s79:Spec:=Zar (Zac (Zap ZaD)) (Zav (Zap ZaD)) ZjY
theorem ok79:Zaq Tryz.prog 79 s79 :=
 Zaj (V:=e79) (L:=(ZaA [(3,ZCO)])) (rounds:=20) (depth:=6) g79 (ZaY (nt:=27) (by kernel_rfl) (Zbg (by kernel_rfl)) (Zaz ZDP ZaG)) (fun x=>by kernel_rfl)
def e80:Env:=env1 []
theorem g80:Zai e80:=Zan mix1 ent1 Zag
def ZDF:LSpec:=ZbX [0,3,4] (Zaa (Zaw .mark) (Zaa (ZaJ 162 .mark) (Zac (Zad .i64)))) (⟨.exit 0,[3],(Zac (ZaJ 162 .mark))⟩:Way) (Zay Zfd)
theorem ZEs:LoopOK e80 42 ZDF (ZaX e80.P 80 3) :=
 Zbe (L:=ZaA []) (rounds:=20) (depth:=6) (ts:=[0,3,4]) (v:=(Zaa (Zaw .mark) (Zaa (ZaJ 162 .mark) (Zac (Zad .i64))))) (a:=⟨.exit 0,[3],(Zac (ZaJ 162 .mark))⟩) (step:=Zfd) g80 rfl ZaE (fun x=>by kernel_rfl)
def s80:Spec:=Zar (Zac (Zaw .mark)) (Zav (Zaw .mark)) ZkV
theorem ok80:Zaq Tryz.prog 80 s80 :=
 Zaj (V:=e80) (L:=(ZaA [(3,ZDF)])) (rounds:=20) (depth:=6) g80 (ZaY (nt:=42) (by kernel_rfl) (Zbg (by kernel_rfl)) (Zaz ZEs ZaG)) (fun x=>by kernel_rfl)
def e81:Env:=env1 [(125,s125)]
theorem g81:Zai e81:=Zan mix1 ent1 (Zab ZCJ rfl Zag)
def ZDr:LSpec:=ZbX [1,2,3,4] (Zaa (Zak Za7) (Zaa (Zak Za7) (Zaa (Zak (Zbc (Zae (Zao .i64) (Zae (Zao .i64) (Zae Zef (Zae (Zbb .entry) (Zae (ZaN 160 .kid) (Zae (Zbb .int) (Zae (Zao .i64) (Zae (Zao .i64) (Zae (Zao .i64) (Zae (Zao .i64) (Zae (Zao .i64) (Zae (Zao .i64) (Zae (Zao .i64) (Zae (Zao .i64) (Zae (Zao .i64) (Zao .i64)))))))))))))))) Thread (fun y=>⟨y.1,y.2.1,y.2.2.1,y.2.2.2.1,y.2.2.2.2.1,y.2.2.2.2.2.1,y.2.2.2.2.2.2.1,y.2.2.2.2.2.2.2.1,y.2.2.2.2.2.2.2.2.1,y.2.2.2.2.2.2.2.2.2.1,y.2.2.2.2.2.2.2.2.2.2.1,y.2.2.2.2.2.2.2.2.2.2.2.1,y.2.2.2.2.2.2.2.2.2.2.2.2.1,y.2.2.2.2.2.2.2.2.2.2.2.2.2.1,y.2.2.2.2.2.2.2.2.2.2.2.2.2.2.1,y.2.2.2.2.2.2.2.2.2.2.2.2.2.2.2⟩) (fun x=>(x.phase,(x.item,(x.op,(x.batch,(x.kids,(x.held,(x.stop,(x.node,(x.at_,(x.layer,(x.left,(x.width,(x.who,(x.x,(x.y,x.until_)))))))))))))))) (fun _=>rfl))) (Zac (Zad .i64))))) (⟨.exit 0,[2,3],(Zaa (Zak Za7) (Zac (Zak (Zbc (Zae (Zao .i64) (Zae (Zao .i64) (Zae Zef (Zae (Zbb .entry) (Zae (ZaN 160 .kid) (Zae (Zbb .int) (Zae (Zao .i64) (Zae (Zao .i64) (Zae (Zao .i64) (Zae (Zao .i64) (Zae (Zao .i64) (Zae (Zao .i64) (Zae (Zao .i64) (Zae (Zao .i64) (Zae (Zao .i64) (Zao .i64)))))))))))))))) Thread (fun y=>⟨y.1,y.2.1,y.2.2.1,y.2.2.2.1,y.2.2.2.2.1,y.2.2.2.2.2.1,y.2.2.2.2.2.2.1,y.2.2.2.2.2.2.2.1,y.2.2.2.2.2.2.2.2.1,y.2.2.2.2.2.2.2.2.2.1,y.2.2.2.2.2.2.2.2.2.2.1,y.2.2.2.2.2.2.2.2.2.2.2.1,y.2.2.2.2.2.2.2.2.2.2.2.2.1,y.2.2.2.2.2.2.2.2.2.2.2.2.2.1,y.2.2.2.2.2.2.2.2.2.2.2.2.2.2.1,y.2.2.2.2.2.2.2.2.2.2.2.2.2.2.2⟩) (fun x=>(x.phase,(x.item,(x.op,(x.batch,(x.kids,(x.held,(x.stop,(x.node,(x.at_,(x.layer,(x.left,(x.width,(x.who,(x.x,(x.y,x.until_)))))))))))))))) (fun _=>rfl)))))⟩:Way) (Zay Ze9)
theorem ZES:LoopOK e81 55 ZDr (ZaX e81.P 81 3) :=
 Zbe (L:=ZaA []) (rounds:=20) (depth:=6) (ts:=[1,2,3,4]) (v:=(Zaa (Zak Za7) (Zaa (Zak Za7) (Zaa (Zak (Zbc (Zae (Zao .i64) (Zae (Zao .i64) (Zae Zef (Zae (Zbb .entry) (Zae (ZaN 160 .kid) (Zae (Zbb .int) (Zae (Zao .i64) (Zae (Zao .i64) (Zae (Zao .i64) (Zae (Zao .i64) (Zae (Zao .i64) (Zae (Zao .i64) (Zae (Zao .i64) (Zae (Zao .i64) (Zae (Zao .i64) (Zao .i64)))))))))))))))) Thread (fun y=>⟨y.1,y.2.1,y.2.2.1,y.2.2.2.1,y.2.2.2.2.1,y.2.2.2.2.2.1,y.2.2.2.2.2.2.1,y.2.2.2.2.2.2.2.1,y.2.2.2.2.2.2.2.2.1,y.2.2.2.2.2.2.2.2.2.1,y.2.2.2.2.2.2.2.2.2.2.1,y.2.2.2.2.2.2.2.2.2.2.2.1,y.2.2.2.2.2.2.2.2.2.2.2.2.1,y.2.2.2.2.2.2.2.2.2.2.2.2.2.1,y.2.2.2.2.2.2.2.2.2.2.2.2.2.2.1,y.2.2.2.2.2.2.2.2.2.2.2.2.2.2.2⟩) (fun x=>(x.phase,(x.item,(x.op,(x.batch,(x.kids,(x.held,(x.stop,(x.node,(x.at_,(x.layer,(x.left,(x.width,(x.who,(x.x,(x.y,x.until_)))))))))))))))) (fun _=>rfl))) (Zac (Zad .i64)))))) (a:=⟨.exit 0,[2,3],(Zaa (Zak Za7) (Zac (Zak (Zbc (Zae (Zao .i64) (Zae (Zao .i64) (Zae Zef (Zae (Zbb .entry) (Zae (ZaN 160 .kid) (Zae (Zbb .int) (Zae (Zao .i64) (Zae (Zao .i64) (Zae (Zao .i64) (Zae (Zao .i64) (Zae (Zao .i64) (Zae (Zao .i64) (Zae (Zao .i64) (Zae (Zao .i64) (Zae (Zao .i64) (Zao .i64)))))))))))))))) Thread (fun y=>⟨y.1,y.2.1,y.2.2.1,y.2.2.2.1,y.2.2.2.2.1,y.2.2.2.2.2.1,y.2.2.2.2.2.2.1,y.2.2.2.2.2.2.2.1,y.2.2.2.2.2.2.2.2.1,y.2.2.2.2.2.2.2.2.2.1,y.2.2.2.2.2.2.2.2.2.2.1,y.2.2.2.2.2.2.2.2.2.2.2.1,y.2.2.2.2.2.2.2.2.2.2.2.2.1,y.2.2.2.2.2.2.2.2.2.2.2.2.2.1,y.2.2.2.2.2.2.2.2.2.2.2.2.2.2.1,y.2.2.2.2.2.2.2.2.2.2.2.2.2.2.2⟩) (fun x=>(x.phase,(x.item,(x.op,(x.batch,(x.kids,(x.held,(x.stop,(x.node,(x.at_,(x.layer,(x.left,(x.width,(x.who,(x.x,(x.y,x.until_)))))))))))))))) (fun _=>rfl)))))⟩) (step:=Ze9) g81 rfl ZaE (fun x=>by kernel_rfl)
def s81:Spec:=Zar (Zac (Zap Za7)) (Zav (Zap Za7)) ZkT
theorem ok81:Zaq Tryz.prog 81 s81 :=
 Zaj (V:=e81) (L:=(ZaA [(3,ZDr)])) (rounds:=20) (depth:=6) g81 (ZaY (nt:=55) (by kernel_rfl) (Zbg (by kernel_rfl)) (Zaz ZES ZaG)) (fun x=>by kernel_rfl)
def e45:Env:=env1 [(79,s79),(80,s80),(81,s81)]
theorem g45:Zai e45:=Zan mix1 ent1 (Zab ok79 rfl (Zab ok80 rfl (Zab ok81 rfl Zag)))
def ZDx:LSpec:=ZbX [1,2,3,5] (Zaa (Zak ZaL) (Zaa (Zak ZaL) (Zaa (Zak (Zbc (Zae celConfig (Zae ZaD (Zae (ZaN 50 .thread) (Zae (Zao .i64) (Zae (Zao .i64) (Zae Zbo (Zae (Zbb .mark) (ZaN 144 .event)))))))) Wld (fun y=>⟨y.1,y.2.1,y.2.2.1,y.2.2.2.1,y.2.2.2.2.1,y.2.2.2.2.2.1,y.2.2.2.2.2.2.1,y.2.2.2.2.2.2.2⟩) (fun x=>(x.c,(x.m,(x.t,(x.now,(x.steps,(x.tape,(x.log,x.hist)))))))) (fun _=>rfl))) (Zac (Zad .i64))))) (⟨.exit 2,[2,3],(Zaa (Zak ZaL) (Zac (Zak (Zbc (Zae celConfig (Zae ZaD (Zae (ZaN 50 .thread) (Zae (Zao .i64) (Zae (Zao .i64) (Zae Zbo (Zae (Zbb .mark) (ZaN 144 .event)))))))) Wld (fun y=>⟨y.1,y.2.1,y.2.2.1,y.2.2.2.1,y.2.2.2.2.1,y.2.2.2.2.2.1,y.2.2.2.2.2.2.1,y.2.2.2.2.2.2.2⟩) (fun x=>(x.c,(x.m,(x.t,(x.now,(x.steps,(x.tape,(x.log,x.hist)))))))) (fun _=>rfl)))))⟩:Way) (Zay Zer)
theorem ZEp:LoopOK e45 78 ZDx (ZaX e45.P 45 7) :=
 Zbe (L:=ZaA []) (rounds:=20) (depth:=6) (ts:=[1,2,3,5]) (v:=(Zaa (Zak ZaL) (Zaa (Zak ZaL) (Zaa (Zak (Zbc (Zae celConfig (Zae ZaD (Zae (ZaN 50 .thread) (Zae (Zao .i64) (Zae (Zao .i64) (Zae Zbo (Zae (Zbb .mark) (ZaN 144 .event)))))))) Wld (fun y=>⟨y.1,y.2.1,y.2.2.1,y.2.2.2.1,y.2.2.2.2.1,y.2.2.2.2.2.1,y.2.2.2.2.2.2.1,y.2.2.2.2.2.2.2⟩) (fun x=>(x.c,(x.m,(x.t,(x.now,(x.steps,(x.tape,(x.log,x.hist)))))))) (fun _=>rfl))) (Zac (Zad .i64)))))) (a:=⟨.exit 2,[2,3],(Zaa (Zak ZaL) (Zac (Zak (Zbc (Zae celConfig (Zae ZaD (Zae (ZaN 50 .thread) (Zae (Zao .i64) (Zae (Zao .i64) (Zae Zbo (Zae (Zbb .mark) (ZaN 144 .event)))))))) Wld (fun y=>⟨y.1,y.2.1,y.2.2.1,y.2.2.2.1,y.2.2.2.2.1,y.2.2.2.2.2.1,y.2.2.2.2.2.2.1,y.2.2.2.2.2.2.2⟩) (fun x=>(x.c,(x.m,(x.t,(x.now,(x.steps,(x.tape,(x.log,x.hist)))))))) (fun _=>rfl)))))⟩) (step:=Zer) g45 rfl ZaE (fun x=>by kernel_rfl)
def ZCH:LSpec:=ZbX [1,2,3,4] (Zaa (Zak ZaL) (Zaa (Zak ZaL) (Zaa (Zak (Zbc (Zae celConfig (Zae ZaD (Zae (ZaN 50 .thread) (Zae (Zao .i64) (Zae (Zao .i64) (Zae Zbo (Zae (Zbb .mark) (ZaN 144 .event)))))))) Wld (fun y=>⟨y.1,y.2.1,y.2.2.1,y.2.2.2.1,y.2.2.2.2.1,y.2.2.2.2.2.1,y.2.2.2.2.2.2.1,y.2.2.2.2.2.2.2⟩) (fun x=>(x.c,(x.m,(x.t,(x.now,(x.steps,(x.tape,(x.log,x.hist)))))))) (fun _=>rfl))) (Zac (Zad .i64))))) (⟨.exit 0,[1,2,3],(Zaa (Zak ZaL) (Zaa (Zak ZaL) (Zac (Zak (Zbc (Zae celConfig (Zae ZaD (Zae (ZaN 50 .thread) (Zae (Zao .i64) (Zae (Zao .i64) (Zae Zbo (Zae (Zbb .mark) (ZaN 144 .event)))))))) Wld (fun y=>⟨y.1,y.2.1,y.2.2.1,y.2.2.2.1,y.2.2.2.2.1,y.2.2.2.2.2.1,y.2.2.2.2.2.2.1,y.2.2.2.2.2.2.2⟩) (fun x=>(x.c,(x.m,(x.t,(x.now,(x.steps,(x.tape,(x.log,x.hist)))))))) (fun _=>rfl))))))⟩:Way) (Zay ZeO)
theorem ZEA:LoopOK e45 78 ZCH (ZaX e45.P 45 3) :=
 Zbe (L:=ZaA []) (rounds:=20) (depth:=6) (ts:=[1,2,3,4]) (v:=(Zaa (Zak ZaL) (Zaa (Zak ZaL) (Zaa (Zak (Zbc (Zae celConfig (Zae ZaD (Zae (ZaN 50 .thread) (Zae (Zao .i64) (Zae (Zao .i64) (Zae Zbo (Zae (Zbb .mark) (ZaN 144 .event)))))))) Wld (fun y=>⟨y.1,y.2.1,y.2.2.1,y.2.2.2.1,y.2.2.2.2.1,y.2.2.2.2.2.1,y.2.2.2.2.2.2.1,y.2.2.2.2.2.2.2⟩) (fun x=>(x.c,(x.m,(x.t,(x.now,(x.steps,(x.tape,(x.log,x.hist)))))))) (fun _=>rfl))) (Zac (Zad .i64)))))) (a:=⟨.exit 0,[1,2,3],(Zaa (Zak ZaL) (Zaa (Zak ZaL) (Zac (Zak (Zbc (Zae celConfig (Zae ZaD (Zae (ZaN 50 .thread) (Zae (Zao .i64) (Zae (Zao .i64) (Zae Zbo (Zae (Zbb .mark) (ZaN 144 .event)))))))) Wld (fun y=>⟨y.1,y.2.1,y.2.2.1,y.2.2.2.1,y.2.2.2.2.1,y.2.2.2.2.2.1,y.2.2.2.2.2.2.1,y.2.2.2.2.2.2.2⟩) (fun x=>(x.c,(x.m,(x.t,(x.now,(x.steps,(x.tape,(x.log,x.hist)))))))) (fun _=>rfl))))))⟩) (step:=ZeO) g45 rfl ZaE (fun x=>by kernel_rfl)
def s45:Spec:=Zar (Zac (Zap ZaL)) (Zav (Zap ZaL)) Zc3
theorem ok45:Zaq Tryz.prog 45 s45 :=
 Zaj (V:=e45) (L:=(ZaA [(7,ZDx),(3,ZCH)])) (rounds:=20) (depth:=6) g45 (ZaY (nt:=78) (by kernel_rfl) (Zbg (by kernel_rfl)) (Zaz ZEp (Zaz ZEA ZaG))) (fun x=>by kernel_rfl)
def e46:Env:=env1 [(33,s33)]
theorem g46:Zai e46:=Zan mix1 ent1 (Zab ok33 rfl Zag)
def ZCZ:LSpec:=ZbX [2,6,7,8] (Zaa (Zad .i64) (Zaa (Zaw .thread) (Zaa (Zad .i64) (Zac (Zad .i64))))) (⟨.exit 0,[2],(Zac (Zad .i64))⟩:Way) (Zay ZjS)
theorem ZED:LoopOK e46 18 ZCZ (ZaX e46.P 46 2) :=
 Zbe (L:=ZaA []) (rounds:=20) (depth:=6) (ts:=[2,6,7,8]) (v:=(Zaa (Zad .i64) (Zaa (Zaw .thread) (Zaa (Zad .i64) (Zac (Zad .i64)))))) (a:=⟨.exit 0,[2],(Zac (Zad .i64))⟩) (step:=ZjS) g46 rfl ZaE (fun x=>by kernel_rfl)
def s46:Spec:=Zar (Zac (Zap ZaL)) (Zav (Zad .i64)) Zv7
theorem ok46:Zaq Tryz.prog 46 s46 :=
 Zaj (V:=e46) (L:=(ZaA [(2,ZCZ)])) (rounds:=20) (depth:=6) g46 (ZaY (nt:=18) (by kernel_rfl) (Zbg (by kernel_rfl)) (Zaz ZED ZaG)) (fun x=>by kernel_rfl)
def e47:Env:=env1 [(82,s82)]
theorem g47:Zai e47:=Zan mix1 ent1 (Zab ok82 rfl Zag)
def ZDv:LSpec:=ZbX [1,3,4] (Zaa (Zak ZaL) (Zaa (Zad .i64) (Zac (Zad .i64)))) (⟨.exit 0,[3],(Zac (Zad .i64))⟩:Way) (Zay Zjl)
theorem ZEh:LoopOK e47 21 ZDv (ZaX e47.P 47 3) :=
 Zbe (L:=ZaA []) (rounds:=20) (depth:=6) (ts:=[1,3,4]) (v:=(Zaa (Zak ZaL) (Zaa (Zad .i64) (Zac (Zad .i64))))) (a:=⟨.exit 0,[3],(Zac (Zad .i64))⟩) (step:=Zjl) g47 rfl ZaE (fun x=>by kernel_rfl)
def s47:Spec:=Zar (Zac (Zap ZaL)) (Zav (Zad .i64)) ZvS
theorem ok47:Zaq Tryz.prog 47 s47 :=
 Zaj (V:=e47) (L:=(ZaA [(3,ZDv)])) (rounds:=20) (depth:=6) g47 (ZaY (nt:=21) (by kernel_rfl) (Zbg (by kernel_rfl)) (Zaz ZEh ZaG)) (fun x=>by kernel_rfl)
def e48:Env:=env1 [(24,s24),(34,s34),(35,s35)]
theorem g48:Zai e48:=Zan mix1 ent1 (Zab ok24 rfl (Zab ok34 rfl (Zab ok35 rfl Zag)))
def Zy6:LSpec:=Zdm [2,3,5,6,7,8] (Zaa (Zak celConfig) (Zaa (Zak ZaL) (Zaa (Zak celConfig) (Zaa (Zad .i64) (Zaa (Zad .i64) (Zac (Zad .i64))))))) (⟨.exit 2,[2,3,5,6,7],(Zaa (Zak celConfig) (Zaa (Zak ZaL) (Zaa (Zak celConfig) (Zaa (Zad .i64) (Zac (Zad .i64))))))⟩:Way) (⟨.ret,[4],(Zac (ZaF))⟩:Way) (Zay Zi4)
theorem ZxJ:LoopOK e48 103 Zy6 (ZaX e48.P 48 9) :=
 Zco (L:=ZaA []) (rounds:=20) (depth:=6) (ts:=[2,3,5,6,7,8]) (v:=(Zaa (Zak celConfig) (Zaa (Zak ZaL) (Zaa (Zak celConfig) (Zaa (Zad .i64) (Zaa (Zad .i64) (Zac (Zad .i64)))))))) (a:=⟨.exit 2,[2,3,5,6,7],(Zaa (Zak celConfig) (Zaa (Zak ZaL) (Zaa (Zak celConfig) (Zaa (Zad .i64) (Zac (Zad .i64))))))⟩) (b:=⟨.ret,[4],(Zac (ZaF))⟩) (step:=Zi4) g48 rfl rfl ZaE (fun x=>by kernel_rfl)
def ZDa:LSpec:=Zdm [2,3,5,6] (Zaa (Zak celConfig) (Zaa (Zak ZaL) (Zaa (Zak celConfig) (Zac (Zad .i64))))) (⟨.exit 0,[],Zby⟩:Way) (⟨.ret,[4],(Zac (ZaF))⟩:Way) (Zay ZiV)
theorem ZEl:LoopOK e48 103 ZDa (ZaX e48.P 48 5) :=
 Zco (L:=ZaA [(9,Zy6)]) (rounds:=20) (depth:=6) (ts:=[2,3,5,6]) (v:=(Zaa (Zak celConfig) (Zaa (Zak ZaL) (Zaa (Zak celConfig) (Zac (Zad .i64)))))) (a:=⟨.exit 0,[],Zby⟩) (b:=⟨.ret,[4],(Zac (ZaF))⟩) (step:=ZiV) g48 rfl rfl (ZrJ (by kernel_rfl) (Zaz ZxJ ZaG)) (fun x=>by kernel_rfl)
def s48:Spec:=Zar (Zaa (Zap celConfig) (Zac (Zap ZaL))) (Zav (ZaF)) ZuG
theorem ok48:Zaq Tryz.prog 48 s48 :=
 Zaj (V:=e48) (L:=(ZaA [(9,Zy6),(5,ZDa)])) (rounds:=20) (depth:=6) g48 (ZaY (nt:=103) (by kernel_rfl) (Zbg (by kernel_rfl)) (Zaz ZxJ (Zaz ZEl ZaG))) (fun x=>by kernel_rfl)
def e49:Env:=env1 [(24,s24)]
theorem g49:Zai e49:=Zan mix1 ent1 (Zab ok24 rfl Zag)
def Zwi:LSpec:=Zdm [2,3,5,6,8,9,10,11] (Zaa (Zak celConfig) (Zaa (Zak ZaL) (Zaa (Zad .i64) (Zaa (ZaJ 74 .mark) (Zaa (Zad .i64) (Zaa (ZaF) (Zaa (Zak Znb) (Zac (Zad .i64))))))))) (⟨.exit 4,[2,3,5,6,8,9,10],(Zaa (Zak celConfig) (Zaa (Zak ZaL) (Zaa (Zad .i64) (Zaa (ZaJ 74 .mark) (Zaa (Zad .i64) (Zaa (ZaF) (Zac (Zak Znb))))))))⟩:Way) (⟨.ret,[4],(Zac (ZaF))⟩:Way) (Zay ZgI)
theorem ZwF:LoopOK e49 213 Zwi (ZaX e49.P 49 16) :=
 Zco (L:=ZaA []) (rounds:=20) (depth:=6) (ts:=[2,3,5,6,8,9,10,11]) (v:=(Zaa (Zak celConfig) (Zaa (Zak ZaL) (Zaa (Zad .i64) (Zaa (ZaJ 74 .mark) (Zaa (Zad .i64) (Zaa (ZaF) (Zaa (Zak Znb) (Zac (Zad .i64)))))))))) (a:=⟨.exit 4,[2,3,5,6,8,9,10],(Zaa (Zak celConfig) (Zaa (Zak ZaL) (Zaa (Zad .i64) (Zaa (ZaJ 74 .mark) (Zaa (Zad .i64) (Zaa (ZaF) (Zac (Zak Znb))))))))⟩) (b:=⟨.ret,[4],(Zac (ZaF))⟩) (step:=ZgI) g49 rfl rfl ZaE (fun x=>by kernel_rfl)
def ZzC:LSpec:=ZbX [2,3,5,6,7] (Zaa (Zak celConfig) (Zaa (Zak ZaL) (Zaa (Zad .i64) (Zaa (ZaJ 74 .mark) (Zac (Zad .i64)))))) (⟨.exit 2,[2,3,5,6],(Zaa (Zak celConfig) (Zaa (Zak ZaL) (Zaa (Zad .i64) (Zac (ZaJ 74 .mark)))))⟩:Way) (Zay Zhg)
theorem Zyd:LoopOK e49 213 ZzC (ZaX e49.P 49 8) :=
 Zbe (L:=ZaA []) (rounds:=20) (depth:=6) (ts:=[2,3,5,6,7]) (v:=(Zaa (Zak celConfig) (Zaa (Zak ZaL) (Zaa (Zad .i64) (Zaa (ZaJ 74 .mark) (Zac (Zad .i64))))))) (a:=⟨.exit 2,[2,3,5,6],(Zaa (Zak celConfig) (Zaa (Zak ZaL) (Zaa (Zad .i64) (Zac (ZaJ 74 .mark)))))⟩) (step:=Zhg) g49 rfl ZaE (fun x=>by kernel_rfl)
def ZCT:LSpec:=Zdm [2,3,5] (Zaa (Zak celConfig) (Zaa (Zak ZaL) (Zac (Zad .i64)))) (⟨.exit 0,[],Zby⟩:Way) (⟨.ret,[4],(Zac (ZaF))⟩:Way) (Zay Zhj)
theorem ZDV:LoopOK e49 213 ZCT (ZaX e49.P 49 4) :=
 Zco (L:=ZaA [(16,Zwi),(8,ZzC)]) (rounds:=20) (depth:=6) (ts:=[2,3,5]) (v:=(Zaa (Zak celConfig) (Zaa (Zak ZaL) (Zac (Zad .i64))))) (a:=⟨.exit 0,[],Zby⟩) (b:=⟨.ret,[4],(Zac (ZaF))⟩) (step:=Zhj) g49 rfl rfl (ZrJ (by kernel_rfl) (Zaz ZwF (Zaz Zyd ZaG))) (fun x=>by kernel_rfl)
def s49:Spec:=Zar (Zaa (Zap celConfig) (Zac (Zap ZaL))) (Zav (ZaF)) Zsz
theorem ok49:Zaq Tryz.prog 49 s49 :=
 Zaj (V:=e49) (L:=(ZaA [(16,Zwi),(8,ZzC),(4,ZCT)])) (rounds:=20) (depth:=6) g49 (ZaY (nt:=213) (by kernel_rfl) (Zbg (by kernel_rfl)) (Zaz ZwF (Zaz Zyd (Zaz ZDV ZaG)))) (fun x=>by kernel_rfl)
def e55:Env:=env1 []
theorem g55:Zai e55:=Zan mix1 ent1 Zag
def s55:Spec:=Zar (Zac (Zap Zau)) (Zav (Zap Zau)) Zgo
theorem ok55:Zaq Tryz.prog 55 s55 :=
 Zaj (V:=e55) (L:=nL) (rounds:=20) (depth:=6) g55 Zal (fun x=>by kernel_rfl)
def e85:Env:=env1 []
theorem g85:Zai e85:=Zan mix1 ent1 Zag
def s85:Spec:=Zar (Zac (Zaw .int)) (Zav (ZaJ 3 .int)) ZbF
theorem ok85:Zaq Tryz.prog 85 s85 :=
 ZjJ (V:=e85) (L:=nL) (rounds:=20) (depth:=6) (r:=(Zav (ZaJ 3 .int))) g85 Zal (by kernel_rfl) (fun x=>by kernel_rfl)
def e154:Env:=env1 []
theorem g154:Zai e154:=Zan mix1 ent1 Zag
def s154:Spec:=Zar (Zaa (Zaw .int) (Zac (Zad .i64))) (Zbp (Zaa (Zad .i64) (Zac (Zad .i64)))) ZbN
theorem Zvd:Zaq Tryz.prog 154 s154 :=
 Zaj (V:=e154) (L:=nL) (rounds:=20) (depth:=6) g154 Zal (fun x=>by kernel_rfl)
def e95:Env:=env1 [(85,s85),(154,s154)]
theorem g95:Zai e95:=Zan mix1 ent1 (Zab ok85 rfl (Zab Zvd rfl Zag))
def s95:Spec:=Zar (Zaa (Zap ZaD) (Zaa (Zad .i64) (Zac (Zad .i64)))) (Zbp (Zaa (Zap ZaD) (Zac (Zad .i64)))) Zcp
theorem ok95:Zaq Tryz.prog 95 s95 :=
 Zaj (V:=e95) (L:=nL) (rounds:=20) (depth:=6) g95 Zal (fun x=>by kernel_rfl)
def e96:Env:=env1 [(120,s120)]
theorem g96:Zai e96:=Zan mix1 ent1 (Zab Zq4 rfl Zag)
def s96:Spec:=Zar (Zaa (Zap celConfig) (Zac (Zad .i64))) (Zav (Zad .i64)) Zda
theorem ok96:Zaq Tryz.prog 96 s96 :=
 Zaj (V:=e96) (L:=nL) (rounds:=20) (depth:=6) g96 Zal (fun x=>by kernel_rfl)
def e63:Env:=env1 [(55,s55),(95,s95),(96,s96)]
theorem g63:Zai e63:=Zan mix1 ent1 (Zab ok55 rfl (Zab ok95 rfl (Zab ok96 rfl Zag)))
def s63:Spec:=Zar (Zac (Zap Zau)) (Zbp (Zaa (Zap Zau) (Zac (ZaF)))) ZiG
theorem ok63:Zaq Tryz.prog 63 s63 :=
 Zaj (V:=e63) (L:=nL) (rounds:=20) (depth:=6) g63 Zal (fun x=>by kernel_rfl)
def e105:Env:=env1 [(120,s120),(148,s148)]
theorem g105:Zai e105:=Zan mix1 ent1 (Zab Zq4 rfl (Zab ZCI rfl Zag))
def s105:Spec:=Zar (Zaa (Zap celConfig) (Zaa (Zad .i64) (Zac (Zad .i64)))) (Zav (Zad .i64)) Zev
theorem ZzD:Zaq Tryz.prog 105 s105 :=
 Zaj (V:=e105) (L:=nL) (rounds:=20) (depth:=6) g105 Zal (fun x=>by kernel_rfl)
def e150:Env:=env1 []
theorem g150:Zai e150:=Zan mix1 ent1 Zag
def s150:Spec:=Zar (Zac (Zap ZxR)) (Zav (Zad .i64)) Zb0
theorem ZsM:Zaq Tryz.prog 150 s150 :=
 Zaj (V:=e150) (L:=nL) (rounds:=20) (depth:=6) g150 Zal (fun x=>by kernel_rfl)
def e106:Env:=env1 [(150,s150)]
theorem g106:Zai e106:=Zan mix1 ent1 (Zab ZsM rfl Zag)
def s106:Spec:=Zar (Zac (Zad .i64)) (Zav (Zad .i64)) Zfq
theorem Zzu:Zaq Tryz.prog 106 s106 :=
 Zaj (V:=e106) (L:=nL) (rounds:=20) (depth:=6) g106 Zal (fun x=>by kernel_rfl)
def e151:Env:=env1 []
theorem g151:Zai e151:=Zan mix1 ent1 Zag
def s151:Spec:=Zar (Zac (Zad .i64)) (Zav (Zad .i64)) ZjC
theorem ZFw:Zaq Tryz.prog 151 s151 :=
 Zaj (V:=e151) (L:=nL) (rounds:=20) (depth:=6) g151 Zal (fun x=>by kernel_rfl)
def e181:Env:=env1 []
theorem g181:Zai e181:=Zan mix1 ent1 Zag
def s181:Spec:=Zar (Zac (Zap Zau)) (Zav (Zap Zau)) Zgq
theorem ZC6:Zaq Tryz.prog 181 s181 :=
 Zaj (V:=e181) (L:=nL) (rounds:=20) (depth:=6) g181 Zal (fun x=>by kernel_rfl)
def e152:Env:=env1 [(181,s181)]
theorem g152:Zai e152:=Zan mix1 ent1 (Zab ZC6 rfl Zag)
def s152:Spec:=Zar (Zac (Zap Zau)) (Zav (Zap Zau)) ZeB
theorem ZyC:Zaq Tryz.prog 152 s152 :=
 Zaj (V:=e152) (L:=nL) (rounds:=20) (depth:=6) g152 Zal (fun x=>by kernel_rfl)
def e107:Env:=env1 [(85,s85),(151,s151),(152,s152)]
theorem g107:Zai e107:=Zan mix1 ent1 (Zab ok85 rfl (Zab ZFw rfl (Zab ZyC rfl Zag)))
def s107:Spec:=Zar (Zac (Zap Zau)) (Zav (Zap Zau)) ZkK
theorem ZFk:Zaq Tryz.prog 107 s107 :=
 Zaj (V:=e107) (L:=nL) (rounds:=20) (depth:=6) g107 Zal (fun x=>by kernel_rfl)
def e109:Env:=env1 [(85,s85),(154,s154)]
theorem g109:Zai e109:=Zan mix1 ent1 (Zab ok85 rfl (Zab Zvd rfl Zag))
def s109:Spec:=Zar (Zaa (Zap ZaD) (Zaa (Zad .i64) (Zaa (Zad .i64) (Zac (Zad .i64))))) (Zbp (Zaa (Zap ZaD) (Zaa (ZaF) (Zac (Zad .i64))))) ZcV
theorem Zu4:Zaq Tryz.prog 109 s109 :=
 Zaj (V:=e109) (L:=nL) (rounds:=20) (depth:=6) g109 Zal (fun x=>by kernel_rfl)
def e110:Env:=env1 [(154,s154)]
theorem g110:Zai e110:=Zan mix1 ent1 (Zab Zvd rfl Zag)
def s110:Spec:=Zar (Zaa (Zap ZaD) (Zac (Zad .i64))) (Zbp (Zaa (Zad .i64) (Zac (Zad .i64)))) Zcq
theorem ZsB:Zaq Tryz.prog 110 s110 :=
 Zaj (V:=e110) (L:=nL) (rounds:=20) (depth:=6) g110 Zal (fun x=>by kernel_rfl)
def e146:Env:=env1 []
theorem g146:Zai e146:=Zan mix1 ent1 Zag
def s146:Spec:=Zar (Zac (Zap Zau)) (Zav (ZaF)) ZdX
theorem Zyj:Zaq Tryz.prog 146 s146 :=
 Zaj (V:=e146) (L:=nL) (rounds:=20) (depth:=6) g146 Zal (fun x=>by kernel_rfl)
def e182:Env:=env1 []
theorem g182:Zai e182:=Zan mix1 ent1 Zag
def s182:Spec:=Zar (Zac (Zad .i64)) (Zav (Zap ZxR)) Zkt
theorem ZDG:Zaq Tryz.prog 182 s182 :=
 Zaj (V:=e182) (L:=nL) (rounds:=20) (depth:=6) g182 Zal (fun x=>by kernel_rfl)
def e155:Env:=env1 [(182,s182)]
theorem g155:Zai e155:=Zan mix1 ent1 (Zab ZDG rfl Zag)
def s155:Spec:=Zar (Zac (Zad .i64)) (Zav (Zad .i64)) ZhE
theorem ZCL:Zaq Tryz.prog 155 s155 :=
 Zaj (V:=e155) (L:=nL) (rounds:=20) (depth:=6) g155 Zal (fun x=>by kernel_rfl)
def e111:Env:=env1 [(146,s146),(152,s152),(155,s155)]
theorem g111:Zai e111:=Zan mix1 ent1 (Zab Zyj rfl (Zab ZyC rfl (Zab ZCL rfl Zag)))
def s111:Spec:=Zar (Zaa (Zap Zau) (Zac (Zad .i64))) (Zav (Zap Zau)) Zmt
theorem ZGr:Zaq Tryz.prog 111 s111 :=
 Zaj (V:=e111) (L:=nL) (rounds:=20) (depth:=6) g111 Zal (fun x=>by kernel_rfl)
def e112:Env:=env1 [(150,s150)]
theorem g112:Zai e112:=Zan mix1 ent1 (Zab ZsM rfl Zag)
def s112:Spec:=Zar (Zac (Zad .i64)) (Zav (Zad .i64)) ZkJ
theorem ZFP:Zaq Tryz.prog 112 s112 :=
 Zaj (V:=e112) (L:=nL) (rounds:=20) (depth:=6) g112 Zal (fun x=>by kernel_rfl)
def e113:Env:=env1 [(152,s152)]
theorem g113:Zai e113:=Zan mix1 ent1 (Zab ZyC rfl Zag)
def s113:Spec:=Zar (Zac (Zap Zau)) (Zav (Zap Zau)) Zj6
theorem ZFi:Zaq Tryz.prog 113 s113 :=
 Zaj (V:=e113) (L:=nL) (rounds:=20) (depth:=6) g113 Zal (fun x=>by kernel_rfl)
def e66:Env:=env1 [(105,s105),(106,s106),(107,s107),(109,s109),(110,s110),(111,s111),(112,s112),(113,s113)]
theorem g66:Zai e66:=Zan mix1 ent1 (Zab ZzD rfl (Zab Zzu rfl (Zab ZFk rfl (Zab Zu4 rfl (Zab ZsB rfl (Zab ZGr rfl (Zab ZFP rfl (Zab ZFi rfl Zag))))))))
def s66:Spec:=Zar (Zac (Zap Zau)) (Zbp (Zaa (Zap Zau) (Zac (ZaF)))) Zmz
theorem ok66:Zaq Tryz.prog 66 s66 :=
 Zaj (V:=e66) (L:=nL) (rounds:=20) (depth:=6) g66 Zal (fun x=>by kernel_rfl)
def e183:Env:=env1 [(105,s105)]
theorem g183:Zai e183:=Zan mix1 ent1 (Zab ZzD rfl Zag)
def s183:Spec:=Zar (Zac (Zap Zau)) (Zav (Zad .i64)) Zf0
theorem ZzA:Zaq Tryz.prog 183 s183 :=
 Zaj (V:=e183) (L:=nL) (rounds:=20) (depth:=6) g183 Zal (fun x=>by kernel_rfl)
def e184:Env:=env1 [(182,s182)]
theorem g184:Zai e184:=Zan mix1 ent1 (Zab ZDG rfl Zag)
def s184:Spec:=Zar (Zac (Zad .i64)) (Zav (Zad .i64)) Zo5
theorem ZGE:Zaq Tryz.prog 184 s184 :=
 Zaj (V:=e184) (L:=nL) (rounds:=20) (depth:=6) g184 Zal (fun x=>by kernel_rfl)
def e156:Env:=env1 [(106,s106),(110,s110),(155,s155),(183,s183),(184,s184)]
theorem g156:Zai e156:=Zan mix1 ent1 (Zab Zzu rfl (Zab ZsB rfl (Zab ZCL rfl (Zab ZzA rfl (Zab ZGE rfl Zag)))))
def s156:Spec:=Zar (Zac (Zap Zau)) (Zav (Zap Zau)) Zlg
theorem ZGC:Zaq Tryz.prog 156 s156 :=
 Zaj (V:=e156) (L:=nL) (rounds:=20) (depth:=6) g156 Zal (fun x=>by kernel_rfl)
def e187:Env:=env1 [(181,s181)]
theorem g187:Zai e187:=Zan mix1 ent1 (Zab ZC6 rfl Zag)
def s187:Spec:=Zar (Zac (Zap Zau)) (Zav (Zap Zau)) ZhN
theorem ZDe:Zaq Tryz.prog 187 s187 :=
 Zaj (V:=e187) (L:=nL) (rounds:=20) (depth:=6) g187 Zal (fun x=>by kernel_rfl)
def e157:Env:=env1 [(106,s106),(109,s109),(183,s183),(187,s187)]
theorem g157:Zai e157:=Zan mix1 ent1 (Zab Zzu rfl (Zab Zu4 rfl (Zab ZzA rfl (Zab ZDe rfl Zag))))
def s157:Spec:=Zar (Zac (Zap Zau)) (Zav (Zap Zau)) ZkA
theorem ZGb:Zaq Tryz.prog 157 s157 :=
 Zaj (V:=e157) (L:=nL) (rounds:=20) (depth:=6) g157 Zal (fun x=>by kernel_rfl)
def e180:Env:=env1 []
theorem g180:Zai e180:=Zan mix1 ent1 Zag
def s180:Spec:=Zar (Zac (Zaw .entry)) (Zav (ZaJ 135 .entry)) Zbx
theorem Zyh:Zaq Tryz.prog 180 s180 :=
 ZjJ (V:=e180) (L:=nL) (rounds:=20) (depth:=6) (r:=(Zav (ZaJ 135 .entry))) g180 Zal (by kernel_rfl) (fun x=>by kernel_rfl)
def e227:Env:=env1 []
theorem g227:Zai e227:=Zan mix1 ent1 Zag
def s227:Spec:=Zar (Zaa (Zaw (.lst .entry)) (Zac (Zad .i64))) (Zbp (Zaa (Zaw .entry) (Zac (Zad .i64)))) Zcx
theorem ZDB:Zaq Tryz.prog 227 s227 :=
 Zaj (V:=e227) (L:=nL) (rounds:=20) (depth:=6) g227 Zal (fun x=>by kernel_rfl)
def e188:Env:=env1 [(180,s180),(227,s227)]
theorem g188:Zai e188:=Zan mix1 ent1 (Zab Zyh rfl (Zab ZDB rfl Zag))
def s188:Spec:=Zar (Zaa (Zap ZaD) (Zac (Zad .i64))) (Zbp (Zaa (Zaw .entry) (Zac (Zad .i64)))) ZiB
theorem ZDl:Zaq Tryz.prog 188 s188 :=
 Zaj (V:=e188) (L:=nL) (rounds:=20) (depth:=6) g188 Zal (fun x=>by kernel_rfl)
def e244:Env:=ZCY []
theorem g244:Zai e244:=Zan mix1 ent1 Zag
def s244:Spec:=Zar (Zaa (ZzT) (Zac (Zad .i64))) (Zav (ZaJ 163 .kid)) ZeK
theorem ZFr:Zaq Tryz.prog 244 s244 :=
 Zaj (V:=e244) (L:=nL) (rounds:=20) (depth:=6) g244 Zal (fun x=>by kernel_rfl)
def e228:Env:=env1 [(244,s244)]
theorem g228:Zai e228:=Zan mix1 ent1 (Zab ZFr rfl Zag)
def ZxO:LSpec:=ZbX [6,25,26,27] (Zaa (ZaJ 163 .kid) (Zaa (Zaw (.lst .kid)) (Zaa (Zad .i64) (Zac (Zad .i64))))) (⟨.exit 2,[6],(Zac (ZaJ 163 .kid))⟩:Way) (Zay ZbS)
theorem ZAW:LoopOK e228 36 ZxO (ZaX e228.P 228 11) :=
 Zbe (L:=ZaA []) (rounds:=20) (depth:=6) (ts:=[6,25,26,27]) (v:=(Zaa (ZaJ 163 .kid) (Zaa (Zaw (.lst .kid)) (Zaa (Zad .i64) (Zac (Zad .i64)))))) (a:=⟨.exit 2,[6],(Zac (ZaJ 163 .kid))⟩) (step:=ZbS) g228 rfl ZaE (fun x=>by kernel_rfl)
def ZAw:LSpec:=ZbX [0,3,9,10,11] (Zaa (Zaw (.lst .kid)) (Zaa (Zad .i64) (Zaa (Zaw (.lst .kid)) (Zaa (Zad .i64) (Zac (Zad .i64)))))) (⟨.exit 0,[0,3],(Zaa (Zaw (.lst .kid)) (Zac (Zad .i64)))⟩:Way) (Zay ZbW)
theorem ZBs:LoopOK e228 36 ZAw (ZaX e228.P 228 3) :=
 Zbe (L:=ZaA []) (rounds:=20) (depth:=6) (ts:=[0,3,9,10,11]) (v:=(Zaa (Zaw (.lst .kid)) (Zaa (Zad .i64) (Zaa (Zaw (.lst .kid)) (Zaa (Zad .i64) (Zac (Zad .i64))))))) (a:=⟨.exit 0,[0,3],(Zaa (Zaw (.lst .kid)) (Zac (Zad .i64)))⟩) (step:=ZbW) g228 rfl ZaE (fun x=>by kernel_rfl)
def s228:Spec:=Zar (Zac (Zaw (.lst .kid))) (Zav (ZaJ 163 .kid)) Zd2
theorem ZFJ:Zaq Tryz.prog 228 s228 :=
 Zaj (V:=e228) (L:=(ZaA [(11,ZxO),(3,ZAw)])) (rounds:=20) (depth:=6) g228 (ZaY (nt:=36) (by kernel_rfl) (Zbg (by kernel_rfl)) (Zaz ZAW (Zaz ZBs ZaG))) (fun x=>by kernel_rfl)
def e248:Env:=ZCY []
theorem g248:Zai e248:=Zan mix1 ent1 Zag
def s248:Spec:=Zar (Zaa (ZzT) (Zac (Zad .i64))) (Zav (ZaJ 135 .entry)) Zee
theorem ZGt:Zaq Tryz.prog 248 s248 :=
 Zaj (V:=e248) (L:=nL) (rounds:=20) (depth:=6) g248 Zal (fun x=>by kernel_rfl)
def e245:Env:=env1 [(248,s248)]
theorem g245:Zai e245:=Zan mix1 ent1 (Zab ZGt rfl Zag)
def ZxH:LSpec:=ZbX [6,25,26,27] (Zaa (ZaJ 135 .entry) (Zaa (Zaw (.lst .entry)) (Zaa (Zad .i64) (Zac (Zad .i64))))) (⟨.exit 2,[6],(Zac (ZaJ 135 .entry))⟩:Way) (Zay ZbM)
theorem ZAm:LoopOK e245 36 ZxH (ZaX e245.P 245 11) :=
 Zbe (L:=ZaA []) (rounds:=20) (depth:=6) (ts:=[6,25,26,27]) (v:=(Zaa (ZaJ 135 .entry) (Zaa (Zaw (.lst .entry)) (Zaa (Zad .i64) (Zac (Zad .i64)))))) (a:=⟨.exit 2,[6],(Zac (ZaJ 135 .entry))⟩) (step:=ZbM) g245 rfl ZaE (fun x=>by kernel_rfl)
def ZBa:LSpec:=ZbX [0,3,9,10,11] (Zaa (Zaw (.lst .entry)) (Zaa (Zad .i64) (Zaa (Zaw (.lst .entry)) (Zaa (Zad .i64) (Zac (Zad .i64)))))) (⟨.exit 0,[0,3],(Zaa (Zaw (.lst .entry)) (Zac (Zad .i64)))⟩:Way) (Zay ZbQ)
theorem ZBL:LoopOK e245 36 ZBa (ZaX e245.P 245 3) :=
 Zbe (L:=ZaA []) (rounds:=20) (depth:=6) (ts:=[0,3,9,10,11]) (v:=(Zaa (Zaw (.lst .entry)) (Zaa (Zad .i64) (Zaa (Zaw (.lst .entry)) (Zaa (Zad .i64) (Zac (Zad .i64))))))) (a:=⟨.exit 0,[0,3],(Zaa (Zaw (.lst .entry)) (Zac (Zad .i64)))⟩) (step:=ZbQ) g245 rfl ZaE (fun x=>by kernel_rfl)
def s245:Spec:=Zar (Zac (Zaw (.lst .entry))) (Zav (ZaJ 135 .entry)) ZdI
theorem ZFH:Zaq Tryz.prog 245 s245 :=
 Zaj (V:=e245) (L:=(ZaA [(11,ZxH),(3,ZBa)])) (rounds:=20) (depth:=6) g245 (ZaY (nt:=36) (by kernel_rfl) (Zbg (by kernel_rfl)) (Zaz ZAm (Zaz ZBL ZaG))) (fun x=>by kernel_rfl)
def e229:Env:=env1 [(245,s245)]
theorem g229:Zai e229:=Zan mix1 ent1 (Zab ZFH rfl Zag)
def s229:Spec:=Zar (Zac (Zaw (.lst .entry))) (Zav (Zaw .entry)) Zmo
theorem ZGB:Zaq Tryz.prog 229 s229 :=
 Zaj (V:=e229) (L:=nL) (rounds:=20) (depth:=6) g229 Zal (fun x=>by kernel_rfl)
def e190:Env:=env1 [(228,s228),(229,s229)]
theorem g190:Zai e190:=Zan mix1 ent1 (Zab ZFJ rfl (Zab ZGB rfl Zag))
def s190:Spec:=Zar (Zaa (Zap Zau) (Zaa (Zad .i64) (Zac (Zaw .entry)))) (Zav (Zap Zau)) ZfT
theorem ZC7:Zaq Tryz.prog 190 s190 :=
 Zaj (V:=e190) (L:=nL) (rounds:=20) (depth:=6) g190 Zal (fun x=>by kernel_rfl)
def e158:Env:=env1 [(188,s188),(190,s190)]
theorem g158:Zai e158:=Zan mix1 ent1 (Zab ZDl rfl (Zab ZC7 rfl Zag))
def s158:Spec:=Zar (Zac (Zap Zau)) (Zav (Zap Zau)) Zh0
theorem ZFW:Zaq Tryz.prog 158 s158 :=
 Zaj (V:=e158) (L:=nL) (rounds:=20) (depth:=6) g158 Zal (fun x=>by kernel_rfl)
def e159:Env:=env1 [(95,s95),(183,s183),(187,s187)]
theorem g159:Zai e159:=Zan mix1 ent1 (Zab ok95 rfl (Zab ZzA rfl (Zab ZDe rfl Zag)))
def s159:Spec:=Zar (Zac (Zap Zau)) (Zav (Zap Zau)) Zle
theorem ZGI:Zaq Tryz.prog 159 s159 :=
 Zaj (V:=e159) (L:=nL) (rounds:=20) (depth:=6) g159 Zal (fun x=>by kernel_rfl)
def e230:Env:=env1 []
theorem g230:Zai e230:=Zan mix1 ent1 Zag
def s230:Spec:=Zar (Zac (Zaw (.lst .entry))) (Zav (ZaJ 30 (.lst .entry))) Zdz
theorem ZGH:Zaq Tryz.prog 230 s230 :=
 ZjJ (V:=e230) (L:=nL) (rounds:=20) (depth:=6) (r:=(Zav (ZaJ 30 (.lst .entry)))) g230 Zal (by kernel_rfl) (fun x=>by kernel_rfl)
def e191:Env:=env1 [(180,s180),(227,s227),(230,s230)]
theorem g191:Zai e191:=Zan mix1 ent1 (Zab Zyh rfl (Zab ZDB rfl (Zab ZGH rfl Zag)))
def s191:Spec:=Zar (Zaa (Zap ZaD) (Zaa (Zad .i64) (Zac (Zaw .entry)))) (Zbp (Zaa (Zap ZaD) (Zac (Zad .i64)))) ZiZ
theorem ZDw:Zaq Tryz.prog 191 s191 :=
 Zaj (V:=e191) (L:=nL) (rounds:=20) (depth:=6) g191 Zal (fun x=>by kernel_rfl)
def e160:Env:=env1 [(191,s191)]
theorem g160:Zai e160:=Zan mix1 ent1 (Zab ZDw rfl Zag)
def s160:Spec:=Zar (Zac (Zap Zau)) (Zav (Zap Zau)) Zid
theorem ZFE:Zaq Tryz.prog 160 s160 :=
 Zaj (V:=e160) (L:=nL) (rounds:=20) (depth:=6) g160 Zal (fun x=>by kernel_rfl)
def e192:Env:=env1 [(150,s150)]
theorem g192:Zai e192:=Zan mix1 ent1 (Zab ZsM rfl Zag)
def s192:Spec:=Zar (Zac (Zad .i64)) (Zav (Zad .i64)) Zib
theorem ZFR:Zaq Tryz.prog 192 s192 :=
 Zaj (V:=e192) (L:=nL) (rounds:=20) (depth:=6) g192 Zal (fun x=>by kernel_rfl)
def e161:Env:=env1 [(95,s95),(105,s105),(192,s192)]
theorem g161:Zai e161:=Zan mix1 ent1 (Zab ok95 rfl (Zab ZzD rfl (Zab ZFR rfl Zag)))
def s161:Spec:=Zar (Zac (Zap Zau)) (Zav (Zap Zau)) Zh6
theorem ZFh:Zaq Tryz.prog 161 s161 :=
 Zaj (V:=e161) (L:=nL) (rounds:=20) (depth:=6) g161 Zal (fun x=>by kernel_rfl)
def e67:Env:=env1 [(156,s156),(157,s157),(158,s158),(159,s159),(160,s160),(161,s161)]
theorem g67:Zai e67:=Zan mix1 ent1 (Zab ZGC rfl (Zab ZGb rfl (Zab ZFW rfl (Zab ZGI rfl (Zab ZFE rfl (Zab ZFh rfl Zag))))))
def s67:Spec:=Zar (Zac (Zap Zau)) (Zbp (Zaa (Zap Zau) (Zac (ZaF)))) ZkL
theorem ok67:Zaq Tryz.prog 67 s67 :=
 Zaj (V:=e67) (L:=nL) (rounds:=20) (depth:=6) g67 Zal (fun x=>by kernel_rfl)
def e83:Env:=env1 []
theorem g83:Zai e83:=Zan mix1 ent1 Zag
def ZCU:LSpec:=Zdm [1,29,30] (Zaa (Zak celConfig) (Zaa (Zap (Zae (Zao .i64) (Zae (Zao .i64) (Zae (Zao .i64) (Zae (Zao .i64) (Zae (Zao .i64) (Zae (Zao .i64) (Zae (Zao .i64) (Zae (Zao .i64) (Zae (Zao .i64) (Zae (Zao .i64) (Zae (Zao .i64) (Zae (Zao .i64) (Zae (Zao .i64) (Zae (Zao .i64) (Zae (Zao .i64) (Zae (Zao .i64) (Zae (Zao .i64) (Zae (Zao .i64) (Zae (Zao .i64) (Zae (Zao .i64) (Zae (Zao .i64) (Zae (Zao .i64) (Zae (Zao .i64) (Zao .i64))))))))))))))))))))))))) (Zac (Zad .i64)))) (⟨.exit 0,[1],(Zac (Zak celConfig))⟩:Way) (⟨.ret,[2],(Zac (Zad .i64))⟩:Way) (Zay Zez)
theorem ZEj:LoopOK e83 65 ZCU (ZaX e83.P 83 2) :=
 Zco (L:=ZaA []) (rounds:=20) (depth:=6) (ts:=[1,29,30]) (v:=(Zaa (Zak celConfig) (Zaa (Zap (Zae (Zao .i64) (Zae (Zao .i64) (Zae (Zao .i64) (Zae (Zao .i64) (Zae (Zao .i64) (Zae (Zao .i64) (Zae (Zao .i64) (Zae (Zao .i64) (Zae (Zao .i64) (Zae (Zao .i64) (Zae (Zao .i64) (Zae (Zao .i64) (Zae (Zao .i64) (Zae (Zao .i64) (Zae (Zao .i64) (Zae (Zao .i64) (Zae (Zao .i64) (Zae (Zao .i64) (Zae (Zao .i64) (Zae (Zao .i64) (Zae (Zao .i64) (Zae (Zao .i64) (Zae (Zao .i64) (Zao .i64))))))))))))))))))))))))) (Zac (Zad .i64))))) (a:=⟨.exit 0,[1],(Zac (Zak celConfig))⟩) (b:=⟨.ret,[2],(Zac (Zad .i64))⟩) (step:=Zez) g83 rfl rfl ZaE (fun x=>by kernel_rfl)
def s83:Spec:=Zar (Zac (Zap celConfig)) (Zav (Zad .i64)) ZfK
theorem ok83:Zaq Tryz.prog 83 s83 :=
 Zaj (V:=e83) (L:=(ZaA [(2,ZCU)])) (rounds:=20) (depth:=6) g83 (ZaY (nt:=65) (by kernel_rfl) (Zbg (by kernel_rfl)) (Zaz ZEj ZaG)) (fun x=>by kernel_rfl)
def e129:Env:=env1 []
theorem g129:Zai e129:=Zan mix1 ent1 Zag
def s129:Spec:=Zar (Zaa (Zad .i64) (Zac (Zad .i64))) (Zav (ZaF)) ZdQ
theorem ZFV:Zaq Tryz.prog 129 s129 :=
 Zaj (V:=e129) (L:=nL) (rounds:=20) (depth:=6) g129 Zal (fun x=>by kernel_rfl)
def e171:Env:=env1 []
theorem g171:Zai e171:=Zan mix1 ent1 Zag
def s171:Spec:=Zar (Zac (Zad .i64)) (Zav (ZaF)) ZmE
theorem ZGe:Zaq Tryz.prog 171 s171 :=
 Zaj (V:=e171) (L:=nL) (rounds:=20) (depth:=6) g171 Zal (fun x=>by kernel_rfl)
def e130:Env:=env1 [(171,s171)]
theorem g130:Zai e130:=Zan mix1 ent1 (Zab ZGe rfl Zag)
def s130:Spec:=Zar (Zaa (Zap Zef) (Zac (ZaF))) (Zav (ZaF)) Zlx
theorem ZFK:Zaq Tryz.prog 130 s130 :=
 Zaj (V:=e130) (L:=nL) (rounds:=20) (depth:=6) g130 Zal (fun x=>by kernel_rfl)
def e88:Env:=env1 [(129,s129),(130,s130)]
theorem g88:Zai e88:=Zan mix1 ent1 (Zab ZFV rfl (Zab ZFK rfl Zag))
def s88:Spec:=Zar (Zaa (Zap celConfig) (Zac (Zap Znv))) (Zav (Zad .i64)) Zg7
theorem ok88:Zaq Tryz.prog 88 s88 :=
 Zaj (V:=e88) (L:=nL) (rounds:=20) (depth:=6) g88 Zal (fun x=>by kernel_rfl)
def e75:Env:=env1 [(83,s83),(88,s88)]
theorem g75:Zai e75:=Zan mix1 ent1 (Zab ok83 rfl (Zab ok88 rfl Zag))
def ZCC:LSpec:=Zdm [2,18,19,20] (Zaa (Zak celConfig) (Zaa (Zaw .sentry) (Zaa (Zad .i64) (Zac (Zad .i64))))) (⟨.exit 0,[],Zby⟩:Way) (⟨.ret,[4,5],(Zaa (Zad .i64) (Zac (Zad .i64)))⟩:Way) (Zay ZjD)
theorem ZDO:LoopOK e75 33 ZCC (ZaX e75.P 75 7) :=
 Zco (L:=ZaA []) (rounds:=20) (depth:=6) (ts:=[2,18,19,20]) (v:=(Zaa (Zak celConfig) (Zaa (Zaw .sentry) (Zaa (Zad .i64) (Zac (Zad .i64)))))) (a:=⟨.exit 0,[],Zby⟩) (b:=⟨.ret,[4,5],(Zaa (Zad .i64) (Zac (Zad .i64)))⟩) (step:=ZjD) g75 rfl rfl ZaE (fun x=>by kernel_rfl)
def s75:Spec:=Zar (Zaa (Zap celConfig) (Zac (Zaw .sentry))) (Zbp (Zaa (Zad .i64) (Zac (Zad .i64)))) Zqy
theorem ok75:Zaq Tryz.prog 75 s75 :=
 Zaj (V:=e75) (L:=(ZaA [(7,ZCC)])) (rounds:=20) (depth:=6) g75 (ZaY (nt:=33) (by kernel_rfl) (Zbg (by kernel_rfl)) (Zaz ZDO ZaG)) (fun x=>by kernel_rfl)
def e103:Env:=env1 [(146,s146)]
theorem g103:Zai e103:=Zan mix1 ent1 (Zab Zyj rfl Zag)
def s103:Spec:=Zar (Zac (Zap Zau)) (Zav (Zap Zau)) Zcy
theorem ZC1:Zaq Tryz.prog 103 s103 :=
 Zaj (V:=e103) (L:=nL) (rounds:=20) (depth:=6) g103 Zal (fun x=>by kernel_rfl)
def e115:Env:=env1 [(150,s150)]
theorem g115:Zai e115:=Zan mix1 ent1 (Zab ZsM rfl Zag)
def s115:Spec:=Zar (Zaa (Zad .i64) (Zac (Zad .i64))) (Zav (Zad .i64)) Zki
theorem ZFy:Zaq Tryz.prog 115 s115 :=
 Zaj (V:=e115) (L:=nL) (rounds:=20) (depth:=6) g115 Zal (fun x=>by kernel_rfl)
def e117:Env:=env1 [(96,s96)]
theorem g117:Zai e117:=Zan mix1 ent1 (Zab ok96 rfl Zag)
def s117:Spec:=Ztr (Zaa (ZE7 (Zae Zau (Zao .i64))) (Zac (Zad .i64))) (Zav (Zad .i64)) Zcg
theorem ZGn:Zaq Tryz.prog 117 s117 :=
 ZyL (V:=e117) (L:=nL) (rounds:=20) (depth:=6) g117 Zal (fun x=>by kernel_rfl)
def e170:Env:=env1 []
theorem g170:Zai e170:=Zan mix1 ent1 Zag
def s170:Spec:=Zar (Zaa (Zad .u64) (Zac (Zad .u64))) (Zbp (Zaa (Zad .u64) (Zac (Zad .u64)))) Zlp
theorem ZFl:Zaq Tryz.prog 170 s170 :=
 Zaj (V:=e170) (L:=nL) (rounds:=20) (depth:=6) g170 Zal (fun x=>by kernel_rfl)
def e126:Env:=env1 [(170,s170)]
theorem g126:Zai e126:=Zan mix1 ent1 (Zab ZFl rfl Zag)
def s126:Spec:=Zar (Zaa (Zad .u64) (Zac (Zad .u64))) (Zbp (Zaa (Zad .u64) (Zac (Zad .u64)))) ZdW
theorem ZGs:Zaq Tryz.prog 126 s126 :=
 Zaj (V:=e126) (L:=nL) (rounds:=20) (depth:=6) g126 Zal (fun x=>by kernel_rfl)
def e131:Env:=env1 []
theorem g131:Zai e131:=Zan mix1 ent1 Zag
def s131:Spec:=Zar (Zac (Zaw .thread)) (Zav (ZaJ 33 .thread)) ZcJ
theorem ZFm:Zaq Tryz.prog 131 s131 :=
 ZjJ (V:=e131) (L:=nL) (rounds:=20) (depth:=6) (r:=(Zav (ZaJ 33 .thread))) g131 Zal (by kernel_rfl) (fun x=>by kernel_rfl)
def e132:Env:=env1 []
theorem g132:Zai e132:=Zan mix1 ent1 Zag
def s132:Spec:=Zar (Zac (Zaw .mark)) (Zav (ZaJ 74 .mark)) ZcY
theorem ZFg:Zaq Tryz.prog 132 s132 :=
 ZjJ (V:=e132) (L:=nL) (rounds:=20) (depth:=6) (r:=(Zav (ZaJ 74 .mark))) g132 Zal (by kernel_rfl) (fun x=>by kernel_rfl)
def e133:Env:=env1 []
theorem g133:Zai e133:=Zan mix1 ent1 Zag
def s133:Spec:=Zar (Zac (Zaw .event)) (Zav (ZaJ 104 .event)) ZcT
theorem ZFX:Zaq Tryz.prog 133 s133 :=
 ZjJ (V:=e133) (L:=nL) (rounds:=20) (depth:=6) (r:=(Zav (ZaJ 104 .event))) g133 Zal (by kernel_rfl) (fun x=>by kernel_rfl)
def e139:Env:=env1 [(150,s150)]
theorem g139:Zai e139:=Zan mix1 ent1 (Zab ZsM rfl Zag)
def s139:Spec:=Zar Zby (Zav (Zad .i64)) Zhw
theorem ZGj:Zaq Tryz.prog 139 s139 :=
 Zaj (V:=e139) (L:=nL) (rounds:=20) (depth:=6) g139 Zal (fun x=>by kernel_rfl)
def e140:Env:=env1 [(120,s120)]
theorem g140:Zai e140:=Zan mix1 ent1 (Zab Zq4 rfl Zag)
def s140:Spec:=Zar (Zaa (Zap celConfig) (Zac (Zad .i64))) (Zav (Zad .i64)) ZfC
theorem ZFC:Zaq Tryz.prog 140 s140 :=
 Zaj (V:=e140) (L:=nL) (rounds:=20) (depth:=6) g140 Zal (fun x=>by kernel_rfl)
def e141:Env:=env1 []
theorem g141:Zai e141:=Zan mix1 ent1 Zag
def s141:Spec:=Zar (Zac (Zap Zau)) (Zav (Zap Zau)) Zdp
theorem ZDD:Zaq Tryz.prog 141 s141 :=
 Zaj (V:=e141) (L:=nL) (rounds:=20) (depth:=6) g141 Zal (fun x=>by kernel_rfl)
def e144:Env:=env1 [(180,s180)]
theorem g144:Zai e144:=Zan mix1 ent1 (Zab Zyh rfl Zag)
def s144:Spec:=Zar (Zaa (Zaw .entry) (Zac (Zad .i64))) (Zav (Zaw .entry)) Zmi
theorem ZFB:Zaq Tryz.prog 144 s144 :=
 Zaj (V:=e144) (L:=nL) (rounds:=20) (depth:=6) g144 Zal (fun x=>by kernel_rfl)
def e196:Env:=env1 []
theorem g196:Zai e196:=Zan mix1 ent1 Zag
def s196:Spec:=Zar (Zaa (Zad .i64) (Zaa (Zad .i64) (Zaa (Zad .i64) (Zac (Zad .i64))))) (Zav (ZaF)) ZkR
theorem ZFT:Zaq Tryz.prog 196 s196 :=
 Zaj (V:=e196) (L:=nL) (rounds:=20) (depth:=6) g196 Zal (fun x=>by kernel_rfl)
def e168:Env:=env1 [(196,s196)]
theorem g168:Zai e168:=Zan mix1 ent1 (Zab ZFT rfl Zag)
def s168:Spec:=Zar (Zaa (Zap Zef) (Zaa (Zad .i64) (Zaa (Zad .i64) (Zac (Zad .i64))))) (Zbp (Zaa (Zad .i64) (Zac (ZaF)))) ZeN
theorem ZDk:Zaq Tryz.prog 168 s168 :=
 Zaj (V:=e168) (L:=nL) (rounds:=20) (depth:=6) g168 Zal (fun x=>by kernel_rfl)
def e194:Env:=env1 [(85,s85),(154,s154)]
theorem g194:Zai e194:=Zan mix1 ent1 (Zab ok85 rfl (Zab Zvd rfl Zag))
def s194:Spec:=Zar (Zaa (Zap ZaD) (Zaa (Zad .i64) (Zac (Zad .i64)))) (Zbp (Zaa (Zap ZaD) (Zaa (Zad .i64) (Zac (Zad .i64))))) Zn4
theorem ZGy:Zaq Tryz.prog 194 s194 :=
 Zaj (V:=e194) (L:=nL) (rounds:=20) (depth:=6) g194 Zal (fun x=>by kernel_rfl)
def e195:Env:=env1 [(120,s120)]
theorem g195:Zai e195:=Zan mix1 ent1 (Zab Zq4 rfl Zag)
def s195:Spec:=Zar (Zaa (Zap celConfig) (Zaa (Zad .i64) (Zaa (Zad .i64) (Zac (Zad .i64))))) (Zav (Zad .i64)) Zmk
theorem ZFL:Zaq Tryz.prog 195 s195 :=
 Zaj (V:=e195) (L:=nL) (rounds:=20) (depth:=6) g195 Zal (fun x=>by kernel_rfl)
def e249:Env:=env1 []
theorem g249:Zai e249:=Zan mix1 ent1 Zag
def s249:Spec:=Zar (Zac (Zap Zbo)) (Zav (Zad .i64)) Zf9
theorem ZFU:Zaq Tryz.prog 249 s249 :=
 Zaj (V:=e249) (L:=nL) (rounds:=20) (depth:=6) g249 Zal (fun x=>by kernel_rfl)
end Go.Proofs.Mill
