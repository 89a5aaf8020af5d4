/- The functions compute this. -/
import Derived.Test.YtecgogmolkjhjaaGreatMillSeat2
import Derived.Test.YtecgogmolkjhjaaGreatMillFA
set_option linter.all false
set_option maxRecDepth 100000
noncomputable section
namespace Go.Proofs.Mill
def e16:Env:=env1 []
theorem g16:Zaj e16:=Zan mix1 ent1 Zag
def ZDf:LSpec:=Zds [1,3] (Zaa (Zak Zau) (Zac (Zad .i64))) (⟨.exit 0,[1],(Zac (Zak Zau))⟩:Way) (⟨.ret,[2],(Zac (ZaF))⟩:Way) (Zay Zk1)
theorem ZEH:LoopOK e16 70 ZDf (ZaW e16.P 16 2) :=
 Zcv (L:=ZaB []) (rounds:=20) (depth:=6) (ts:=[1,3]) (v:=(Zaa (Zak Zau) (Zac (Zad .i64)))) (a:=⟨.exit 0,[1],(Zac (Zak Zau))⟩) (b:=⟨.ret,[2],(Zac (ZaF))⟩) (step:=Zk1) g16 rfl rfl ZaE (fun x=>by kernel_rfl)
def s16:Spec:=Zas (Zac (Zaq Zau)) (Zav (ZaF)) Zox
theorem ok16:Zar Tryz.prog 16 s16 :=
 Zai (V:=e16) (L:=(ZaB [(2,ZDf)])) (rounds:=20) (depth:=6) g16 (ZaZ (nt:=70) (by kernel_rfl) (Zbh (by kernel_rfl)) (Zaz ZEH ZaH)) (fun x=>by kernel_rfl)
def e23:Env:=env1 []
theorem g23:Zaj e23:=Zan mix1 ent1 Zag
def s23:Spec:=Zas (Zac (Zaq celConfig)) (Zav (Zad .i64)) Zdc
theorem ok23:Zar Tryz.prog 23 s23 :=
 Zai (V:=e23) (L:=nL) (rounds:=20) (depth:=6) g23 Zam (fun x=>by kernel_rfl)
def e36:Env:=env1 []
theorem g36:Zaj e36:=Zan mix1 ent1 Zag
def ZDg:LSpec:=ZbY [1,3,4] (Zaa (Zak celConfig) (Zaa (Zad .i64) (Zac (Zad .i64)))) (⟨.exit 0,[3],(Zac (Zad .i64))⟩:Way) (Zay Ze7)
theorem ZD4:LoopOK e36 15 ZDg (ZaW e36.P 36 3) :=
 Zbe (L:=ZaB []) (rounds:=20) (depth:=6) (ts:=[1,3,4]) (v:=(Zaa (Zak celConfig) (Zaa (Zad .i64) (Zac (Zad .i64))))) (a:=⟨.exit 0,[3],(Zac (Zad .i64))⟩) (step:=Ze7) g36 rfl ZaE (fun x=>by kernel_rfl)
def s36:Spec:=Zas (Zac (Zaq celConfig)) (Zav (Zad .i64)) Zdf
theorem ok36:Zar Tryz.prog 36 s36 :=
 Zai (V:=e36) (L:=(ZaB [(3,ZDg)])) (rounds:=20) (depth:=6) g36 (ZaZ (nt:=15) (by kernel_rfl) (Zbh (by kernel_rfl)) (Zaz ZD4 ZaH)) (fun x=>by kernel_rfl)
def e74:Env:=env1 [(36,s36)]
theorem g74:Zaj e74:=Zan mix1 ent1 (Zab ok36 rfl Zag)
def s74:Spec:=Zas (Zac (Zaq celConfig)) (Zav (Zad .i64)) Zb9
theorem ok74:Zar Tryz.prog 74 s74 :=
 Zai (V:=e74) (L:=nL) (rounds:=20) (depth:=6) g74 Zam (fun x=>by kernel_rfl)
def e34:Env:=env1 [(74,s74)]
theorem g34:Zaj e34:=Zan mix1 ent1 (Zab ok74 rfl Zag)
def s34:Spec:=Zas (Zac (Zaq celConfig)) (Zav (Zad .i64)) Zfk
theorem ok34:Zar Tryz.prog 34 s34 :=
 Zai (V:=e34) (L:=nL) (rounds:=20) (depth:=6) g34 Zam (fun x=>by kernel_rfl)
def e17:Env:=env1 [(23,s23),(34,s34)]
theorem g17:Zaj e17:=Zan mix1 ent1 (Zab ok23 rfl (Zab ok34 rfl Zag))
def s17:Spec:=Zas (Zac (Zaq Zau)) (Zav (ZaF)) Zn3
theorem ok17:Zar Tryz.prog 17 s17 :=
 Zai (V:=e17) (L:=nL) (rounds:=20) (depth:=6) g17 Zam (fun x=>by kernel_rfl)
def e29:Env:=env1 []
theorem g29:Zaj e29:=Zan mix1 ent1 Zag
def ZDU:LSpec:=Zds [0,1,5] (Zaa (Zax .entry) (Zaa (Zax .entry) (Zac (Zad .i64)))) (⟨.exit 0,[],ZbG⟩:Way) (⟨.ret,[4],(Zac (ZaF))⟩:Way) (Zay Zfs)
theorem ZEs:LoopOK e29 26 ZDU (ZaW e29.P 29 4) :=
 Zcv (L:=ZaB []) (rounds:=20) (depth:=6) (ts:=[0,1,5]) (v:=(Zaa (Zax .entry) (Zaa (Zax .entry) (Zac (Zad .i64))))) (a:=⟨.exit 0,[],ZbG⟩) (b:=⟨.ret,[4],(Zac (ZaF))⟩) (step:=Zfs) g29 rfl rfl ZaE (fun x=>by kernel_rfl)
def s29:Spec:=Zas (Zaa (Zax .entry) (Zac (Zax .entry))) (Zav (ZaF)) ZgC
theorem ok29:Zar Tryz.prog 29 s29 :=
 Zai (V:=e29) (L:=(ZaB [(4,ZDU)])) (rounds:=20) (depth:=6) g29 (ZaZ (nt:=26) (by kernel_rfl) (Zbh (by kernel_rfl)) (Zaz ZEs ZaH)) (fun x=>by kernel_rfl)
def e94:Env:=env1 []
theorem g94:Zaj e94:=Zan mix1 ent1 Zag
def ZDH:LSpec:=Zds [0,1,5] (Zaa (Zax .int) (Zaa (Zax .int) (Zac (Zad .i64)))) (⟨.exit 0,[],ZbG⟩:Way) (⟨.ret,[4],(Zac (ZaF))⟩:Way) (Zay Zfo)
theorem ZD1:LoopOK e94 26 ZDH (ZaW e94.P 94 4) :=
 Zcv (L:=ZaB []) (rounds:=20) (depth:=6) (ts:=[0,1,5]) (v:=(Zaa (Zax .int) (Zaa (Zax .int) (Zac (Zad .i64))))) (a:=⟨.exit 0,[],ZbG⟩) (b:=⟨.ret,[4],(Zac (ZaF))⟩) (step:=Zfo) g94 rfl rfl ZaE (fun x=>by kernel_rfl)
def s94:Spec:=Zas (Zaa (Zax .int) (Zac (Zax .int))) (Zav (ZaF)) Zgv
theorem ok94:Zar Tryz.prog 94 s94 :=
 Zai (V:=e94) (L:=(ZaB [(4,ZDH)])) (rounds:=20) (depth:=6) g94 (ZaZ (nt:=26) (by kernel_rfl) (Zbh (by kernel_rfl)) (Zaz ZD1 ZaH)) (fun x=>by kernel_rfl)
def e56:Env:=env1 [(29,s29),(94,s94)]
theorem g56:Zaj e56:=Zan mix1 ent1 (Zab ok29 rfl (Zab ok94 rfl Zag))
def ZDW:LSpec:=Zds [2,3,5] (Zaa (Zak ZaD) (Zaa (Zak ZaD) (Zac (Zad .i64)))) (⟨.exit 0,[],ZbG⟩:Way) (⟨.ret,[4],(Zac (ZaF))⟩:Way) (Zay Zfi)
theorem ZEn:LoopOK e56 40 ZDW (ZaW e56.P 56 4) :=
 Zcv (L:=ZaB []) (rounds:=20) (depth:=6) (ts:=[2,3,5]) (v:=(Zaa (Zak ZaD) (Zaa (Zak ZaD) (Zac (Zad .i64))))) (a:=⟨.exit 0,[],ZbG⟩) (b:=⟨.ret,[4],(Zac (ZaF))⟩) (step:=Zfi) g56 rfl rfl ZaE (fun x=>by kernel_rfl)
def s56:Spec:=Zas (Zaa (Zaq ZaD) (Zac (Zaq ZaD))) (Zav (ZaF)) Zix
theorem ok56:Zar Tryz.prog 56 s56 :=
 Zai (V:=e56) (L:=(ZaB [(4,ZDW)])) (rounds:=20) (depth:=6) g56 (ZaZ (nt:=40) (by kernel_rfl) (Zbh (by kernel_rfl)) (Zaz ZEn ZaH)) (fun x=>by kernel_rfl)
def e57:Env:=env1 [(29,s29),(94,s94)]
theorem g57:Zaj e57:=Zan mix1 ent1 (Zab ok29 rfl (Zab ok94 rfl Zag))
def ZDz:LSpec:=Zds [2,3,5] (Zaa (Zak Za8) (Zaa (Zak Za8) (Zac (Zad .i64)))) (⟨.exit 0,[2,3],(Zaa (Zak Za8) (Zac (Zak Za8)))⟩:Way) (⟨.ret,[4],(Zac (ZaF))⟩:Way) (Zay Zfw)
theorem ZEl:LoopOK e57 136 ZDz (ZaW e57.P 57 4) :=
 Zcv (L:=ZaB []) (rounds:=20) (depth:=6) (ts:=[2,3,5]) (v:=(Zaa (Zak Za8) (Zaa (Zak Za8) (Zac (Zad .i64))))) (a:=⟨.exit 0,[2,3],(Zaa (Zak Za8) (Zac (Zak Za8)))⟩) (b:=⟨.ret,[4],(Zac (ZaF))⟩) (step:=Zfw) g57 rfl rfl ZaE (fun x=>by kernel_rfl)
def s57:Spec:=Zas (Zaa (Zaq Za8) (Zac (Zaq Za8))) (Zav (ZaF)) ZiL
theorem ok57:Zar Tryz.prog 57 s57 :=
 Zai (V:=e57) (L:=(ZaB [(4,ZDz)])) (rounds:=20) (depth:=6) g57 (ZaZ (nt:=136) (by kernel_rfl) (Zbh (by kernel_rfl)) (Zaz ZEl ZaH)) (fun x=>by kernel_rfl)
def e58:Env:=env1 []
theorem g58:Zaj e58:=Zan mix1 ent1 Zag
def ZDT:LSpec:=Zds [2,3,5] (Zaa (Zak Zbo) (Zaa (Zak Zbo) (Zac (Zad .i64)))) (⟨.exit 0,[],ZbG⟩:Way) (⟨.ret,[4],(Zac (ZaF))⟩:Way) (Zay Zfv)
theorem ZEq:LoopOK e58 38 ZDT (ZaW e58.P 58 4) :=
 Zcv (L:=ZaB []) (rounds:=20) (depth:=6) (ts:=[2,3,5]) (v:=(Zaa (Zak Zbo) (Zaa (Zak Zbo) (Zac (Zad .i64))))) (a:=⟨.exit 0,[],ZbG⟩) (b:=⟨.ret,[4],(Zac (ZaF))⟩) (step:=Zfv) g58 rfl rfl ZaE (fun x=>by kernel_rfl)
def s58:Spec:=Zas (Zaa (Zaq Zbo) (Zac (Zaq Zbo))) (Zav (ZaF)) ZiV
theorem ok58:Zar Tryz.prog 58 s58 :=
 Zai (V:=e58) (L:=(ZaB [(4,ZDT)])) (rounds:=20) (depth:=6) g58 (ZaZ (nt:=38) (by kernel_rfl) (Zbh (by kernel_rfl)) (Zaz ZEq ZaH)) (fun x=>by kernel_rfl)
def e59:Env:=env1 []
theorem g59:Zaj e59:=Zan mix1 ent1 Zag
def ZDL:LSpec:=Zds [0,1,5] (Zaa (Zax .mark) (Zaa (Zax .mark) (Zac (Zad .i64)))) (⟨.exit 0,[],ZbG⟩:Way) (⟨.ret,[4],(Zac (ZaF))⟩:Way) (Zay Ze4)
theorem ZDY:LoopOK e59 26 ZDL (ZaW e59.P 59 4) :=
 Zcv (L:=ZaB []) (rounds:=20) (depth:=6) (ts:=[0,1,5]) (v:=(Zaa (Zax .mark) (Zaa (Zax .mark) (Zac (Zad .i64))))) (a:=⟨.exit 0,[],ZbG⟩) (b:=⟨.ret,[4],(Zac (ZaF))⟩) (step:=Ze4) g59 rfl rfl ZaE (fun x=>by kernel_rfl)
def s59:Spec:=Zas (Zaa (Zax .mark) (Zac (Zax .mark))) (Zav (ZaF)) ZhU
theorem ok59:Zar Tryz.prog 59 s59 :=
 Zai (V:=e59) (L:=(ZaB [(4,ZDL)])) (rounds:=20) (depth:=6) g59 (ZaZ (nt:=26) (by kernel_rfl) (Zbh (by kernel_rfl)) (Zaz ZDY ZaH)) (fun x=>by kernel_rfl)
def e19:Env:=env1 [(56,s56),(57,s57),(58,s58),(59,s59)]
theorem g19:Zaj e19:=Zan mix1 ent1 (Zab ok56 rfl (Zab ok57 rfl (Zab ok58 rfl (Zab ok59 rfl Zag))))
def s19:Spec:=Zas (Zaa (Zaq Zau) (Zac (Zaq Zau))) (Zav (ZaF)) ZkR
theorem ok19:Zar Tryz.prog 19 s19 :=
 Zai (V:=e19) (L:=nL) (rounds:=20) (depth:=6) g19 Zam (fun x=>by kernel_rfl)
def e30:Env:=env1 []
theorem g30:Zaj e30:=Zan mix1 ent1 Zag
def ZDJ:LSpec:=ZbY [0,3,4] (Zaa (Zax .entry) (Zaa (ZaN 137 .entry) (Zac (Zad .i64)))) (⟨.exit 0,[3],(Zac (ZaN 137 .entry))⟩:Way) (Zay Zhh)
theorem ZEc:LoopOK e30 27 ZDJ (ZaW e30.P 30 3) :=
 Zbe (L:=ZaB []) (rounds:=20) (depth:=6) (ts:=[0,3,4]) (v:=(Zaa (Zax .entry) (Zaa (ZaN 137 .entry) (Zac (Zad .i64))))) (a:=⟨.exit 0,[3],(Zac (ZaN 137 .entry))⟩) (step:=Zhh) g30 rfl ZaE (fun x=>by kernel_rfl)
def s30:Spec:=Zas (Zac (Zax .entry)) (Zav (ZaN 137 .entry)) Zi2
theorem ok30:Zar Tryz.prog 30 s30 :=
 Zai (V:=e30) (L:=(ZaB [(3,ZDJ)])) (rounds:=20) (depth:=6) g30 (ZaZ (nt:=27) (by kernel_rfl) (Zbh (by kernel_rfl)) (Zaz ZEc ZaH)) (fun x=>by kernel_rfl)
def e60:Env:=env1 [(30,s30)]
theorem g60:Zaj e60:=Zan mix1 ent1 (Zab ok30 rfl Zag)
def ZC4:LSpec:=ZbY [1,2,3,4] (Zaa (Zak ZaD) (Zaa (Zak ZaD) (Zaa (Zak (Zbc (Zae (Zbb .int) (ZaL 47 (.lst .entry))) Memo (fun y=>⟨y.1,y.2⟩) (fun x=>(x.words,x.boxes)) (fun _=>rfl))) (Zac (Zad .i64))))) (⟨.exit 0,[2,3],(Zaa (Zak ZaD) (Zac (Zak (Zbc (Zae (Zbb .int) (ZaL 47 (.lst .entry))) Memo (fun y=>⟨y.1,y.2⟩) (fun x=>(x.words,x.boxes)) (fun _=>rfl)))))⟩:Way) (Zay Zim)
theorem ZER:LoopOK e60 27 ZC4 (ZaW e60.P 60 3) :=
 Zbe (L:=ZaB []) (rounds:=20) (depth:=6) (ts:=[1,2,3,4]) (v:=(Zaa (Zak ZaD) (Zaa (Zak ZaD) (Zaa (Zak (Zbc (Zae (Zbb .int) (ZaL 47 (.lst .entry))) Memo (fun y=>⟨y.1,y.2⟩) (fun x=>(x.words,x.boxes)) (fun _=>rfl))) (Zac (Zad .i64)))))) (a:=⟨.exit 0,[2,3],(Zaa (Zak ZaD) (Zac (Zak (Zbc (Zae (Zbb .int) (ZaL 47 (.lst .entry))) Memo (fun y=>⟨y.1,y.2⟩) (fun x=>(x.words,x.boxes)) (fun _=>rfl)))))⟩) (step:=Zim) g60 rfl ZaE (fun x=>by kernel_rfl)
def s60:Spec:=Zas (Zac (Zaq ZaD)) (Zav (Zaq ZaD)) ZoP
theorem ok60:Zar Tryz.prog 60 s60 :=
 Zai (V:=e60) (L:=(ZaB [(3,ZC4)])) (rounds:=20) (depth:=6) g60 (ZaZ (nt:=27) (by kernel_rfl) (Zbh (by kernel_rfl)) (Zaz ZER ZaH)) (fun x=>by kernel_rfl)
def e61:Env:=env1 [(30,s30)]
theorem g61:Zaj e61:=Zan mix1 ent1 (Zab ok30 rfl Zag)
def ZCY:LSpec:=ZbY [1,2,3,4] (Zaa (Zak Za8) (Zaa (Zak Za8) (Zaa (Zak (Zbc (Zae (Zao .i64) (Zae (Zao .i64) (Zae Zea (Zae (Zbb .entry) (Zae (ZaL 160 .kid) (Zae (Zbb .int) (Zae (Zao .i64) (Zae (Zao .i64) (Zae (Zao .i64) (Zae (Zao .i64) (Zae (Zao .i64) (Zae (Zao .i64) (Zae (Zao .i64) (Zae (Zao .i64) (Zae (Zao .i64) (Zao .i64)))))))))))))))) Thread (fun y=>⟨y.1,y.2.1,y.2.2.1,y.2.2.2.1,y.2.2.2.2.1,y.2.2.2.2.2.1,y.2.2.2.2.2.2.1,y.2.2.2.2.2.2.2.1,y.2.2.2.2.2.2.2.2.1,y.2.2.2.2.2.2.2.2.2.1,y.2.2.2.2.2.2.2.2.2.2.1,y.2.2.2.2.2.2.2.2.2.2.2.1,y.2.2.2.2.2.2.2.2.2.2.2.2.1,y.2.2.2.2.2.2.2.2.2.2.2.2.2.1,y.2.2.2.2.2.2.2.2.2.2.2.2.2.2.1,y.2.2.2.2.2.2.2.2.2.2.2.2.2.2.2⟩) (fun x=>(x.phase,(x.item,(x.op,(x.batch,(x.kids,(x.held,(x.stop,(x.node,(x.at_,(x.layer,(x.left,(x.width,(x.who,(x.x,(x.y,x.until_)))))))))))))))) (fun _=>rfl))) (Zac (Zad .i64))))) (⟨.exit 0,[2,3],(Zaa (Zak Za8) (Zac (Zak (Zbc (Zae (Zao .i64) (Zae (Zao .i64) (Zae Zea (Zae (Zbb .entry) (Zae (ZaL 160 .kid) (Zae (Zbb .int) (Zae (Zao .i64) (Zae (Zao .i64) (Zae (Zao .i64) (Zae (Zao .i64) (Zae (Zao .i64) (Zae (Zao .i64) (Zae (Zao .i64) (Zae (Zao .i64) (Zae (Zao .i64) (Zao .i64)))))))))))))))) Thread (fun y=>⟨y.1,y.2.1,y.2.2.1,y.2.2.2.1,y.2.2.2.2.1,y.2.2.2.2.2.1,y.2.2.2.2.2.2.1,y.2.2.2.2.2.2.2.1,y.2.2.2.2.2.2.2.2.1,y.2.2.2.2.2.2.2.2.2.1,y.2.2.2.2.2.2.2.2.2.2.1,y.2.2.2.2.2.2.2.2.2.2.2.1,y.2.2.2.2.2.2.2.2.2.2.2.2.1,y.2.2.2.2.2.2.2.2.2.2.2.2.2.1,y.2.2.2.2.2.2.2.2.2.2.2.2.2.2.1,y.2.2.2.2.2.2.2.2.2.2.2.2.2.2.2⟩) (fun x=>(x.phase,(x.item,(x.op,(x.batch,(x.kids,(x.held,(x.stop,(x.node,(x.at_,(x.layer,(x.left,(x.width,(x.who,(x.x,(x.y,x.until_)))))))))))))))) (fun _=>rfl)))))⟩:Way) (Zay ZiK)
theorem ZET:LoopOK e61 55 ZCY (ZaW e61.P 61 3) :=
 Zbe (L:=ZaB []) (rounds:=20) (depth:=6) (ts:=[1,2,3,4]) (v:=(Zaa (Zak Za8) (Zaa (Zak Za8) (Zaa (Zak (Zbc (Zae (Zao .i64) (Zae (Zao .i64) (Zae Zea (Zae (Zbb .entry) (Zae (ZaL 160 .kid) (Zae (Zbb .int) (Zae (Zao .i64) (Zae (Zao .i64) (Zae (Zao .i64) (Zae (Zao .i64) (Zae (Zao .i64) (Zae (Zao .i64) (Zae (Zao .i64) (Zae (Zao .i64) (Zae (Zao .i64) (Zao .i64)))))))))))))))) Thread (fun y=>⟨y.1,y.2.1,y.2.2.1,y.2.2.2.1,y.2.2.2.2.1,y.2.2.2.2.2.1,y.2.2.2.2.2.2.1,y.2.2.2.2.2.2.2.1,y.2.2.2.2.2.2.2.2.1,y.2.2.2.2.2.2.2.2.2.1,y.2.2.2.2.2.2.2.2.2.2.1,y.2.2.2.2.2.2.2.2.2.2.2.1,y.2.2.2.2.2.2.2.2.2.2.2.2.1,y.2.2.2.2.2.2.2.2.2.2.2.2.2.1,y.2.2.2.2.2.2.2.2.2.2.2.2.2.2.1,y.2.2.2.2.2.2.2.2.2.2.2.2.2.2.2⟩) (fun x=>(x.phase,(x.item,(x.op,(x.batch,(x.kids,(x.held,(x.stop,(x.node,(x.at_,(x.layer,(x.left,(x.width,(x.who,(x.x,(x.y,x.until_)))))))))))))))) (fun _=>rfl))) (Zac (Zad .i64)))))) (a:=⟨.exit 0,[2,3],(Zaa (Zak Za8) (Zac (Zak (Zbc (Zae (Zao .i64) (Zae (Zao .i64) (Zae Zea (Zae (Zbb .entry) (Zae (ZaL 160 .kid) (Zae (Zbb .int) (Zae (Zao .i64) (Zae (Zao .i64) (Zae (Zao .i64) (Zae (Zao .i64) (Zae (Zao .i64) (Zae (Zao .i64) (Zae (Zao .i64) (Zae (Zao .i64) (Zae (Zao .i64) (Zao .i64)))))))))))))))) Thread (fun y=>⟨y.1,y.2.1,y.2.2.1,y.2.2.2.1,y.2.2.2.2.1,y.2.2.2.2.2.1,y.2.2.2.2.2.2.1,y.2.2.2.2.2.2.2.1,y.2.2.2.2.2.2.2.2.1,y.2.2.2.2.2.2.2.2.2.1,y.2.2.2.2.2.2.2.2.2.2.1,y.2.2.2.2.2.2.2.2.2.2.2.1,y.2.2.2.2.2.2.2.2.2.2.2.2.1,y.2.2.2.2.2.2.2.2.2.2.2.2.2.1,y.2.2.2.2.2.2.2.2.2.2.2.2.2.2.1,y.2.2.2.2.2.2.2.2.2.2.2.2.2.2.2⟩) (fun x=>(x.phase,(x.item,(x.op,(x.batch,(x.kids,(x.held,(x.stop,(x.node,(x.at_,(x.layer,(x.left,(x.width,(x.who,(x.x,(x.y,x.until_)))))))))))))))) (fun _=>rfl)))))⟩) (step:=ZiK) g61 rfl ZaE (fun x=>by kernel_rfl)
def s61:Spec:=Zas (Zac (Zaq Za8)) (Zav (Zaq Za8)) Zp3
theorem ok61:Zar Tryz.prog 61 s61 :=
 Zai (V:=e61) (L:=(ZaB [(3,ZCY)])) (rounds:=20) (depth:=6) g61 (ZaZ (nt:=55) (by kernel_rfl) (Zbh (by kernel_rfl)) (Zaz ZET ZaH)) (fun x=>by kernel_rfl)
def e62:Env:=env1 []
theorem g62:Zaj e62:=Zan mix1 ent1 Zag
def ZDb:LSpec:=ZbY [0,3,4] (Zaa (Zax .mark) (Zaa (ZaN 162 .mark) (Zac (Zad .i64)))) (⟨.exit 0,[3],(Zac (ZaN 162 .mark))⟩:Way) (Zay ZiP)
theorem ZE2:LoopOK e62 42 ZDb (ZaW e62.P 62 3) :=
 Zbe (L:=ZaB []) (rounds:=20) (depth:=6) (ts:=[0,3,4]) (v:=(Zaa (Zax .mark) (Zaa (ZaN 162 .mark) (Zac (Zad .i64))))) (a:=⟨.exit 0,[3],(Zac (ZaN 162 .mark))⟩) (step:=ZiP) g62 rfl ZaE (fun x=>by kernel_rfl)
def s62:Spec:=Zas (Zac (Zax .mark)) (Zav (Zax .mark)) Zp5
theorem ok62:Zar Tryz.prog 62 s62 :=
 Zai (V:=e62) (L:=(ZaB [(3,ZDb)])) (rounds:=20) (depth:=6) g62 (ZaZ (nt:=42) (by kernel_rfl) (Zbh (by kernel_rfl)) (Zaz ZE2 ZaH)) (fun x=>by kernel_rfl)
def e20:Env:=env1 [(60,s60),(61,s61),(62,s62)]
theorem g20:Zaj e20:=Zan mix1 ent1 (Zab ok60 rfl (Zab ok61 rfl (Zab ok62 rfl Zag)))
def s20:Spec:=Zas (Zac (Zaq Zau)) (Zav (Zaq Zau)) Zhu
theorem ok20:Zar Tryz.prog 20 s20 :=
 Zai (V:=e20) (L:=nL) (rounds:=20) (depth:=6) g20 Zam (fun x=>by kernel_rfl)
def e69:Env:=env1 []
theorem g69:Zaj e69:=Zan mix1 ent1 Zag
def s69:Spec:=Zas (Zaa (Zad .i64) (Zac (Zad .i64))) (Zbp (Zaa (Zad .i64) (Zac (ZaF)))) Zf6
theorem ok69:Zar Tryz.prog 69 s69 :=
 Zai (V:=e69) (L:=nL) (rounds:=20) (depth:=6) g69 Zam (fun x=>by kernel_rfl)
def e24:Env:=env1 [(69,s69)]
theorem g24:Zaj e24:=Zan mix1 ent1 (Zab ok69 rfl Zag)
def s24:Spec:=Zas (Zaa (Zaq Zea) (Zaa (Zad .i64) (Zaa (Zad .i64) (Zac (Zad .i64))))) (Zbp (Zaa (Zad .i64) (Zac (ZaF)))) ZcH
theorem ok24:Zar Tryz.prog 24 s24 :=
 Zai (V:=e24) (L:=nL) (rounds:=20) (depth:=6) g24 Zam (fun x=>by kernel_rfl)
def e118:Env:=env1 []
theorem g118:Zaj e118:=Zan mix1 ent1 Zag
def s118:Spec:=Zas (Zac (Zad .i64)) (Zav (ZaN 3 .int)) ZiI
theorem ZF3:Zar Tryz.prog 118 s118 :=
 Zai (V:=e118) (L:=nL) (rounds:=20) (depth:=6) g118 Zam (fun x=>by kernel_rfl)
def e119:Env:=env1 []
theorem g119:Zaj e119:=Zan mix1 ent1 Zag
def s119:Spec:=Zas (Zac (Zad .i64)) (Zav (ZaN 30 (.lst .entry))) Zez
theorem ZFR:Zar Tryz.prog 119 s119 :=
 Zai (V:=e119) (L:=nL) (rounds:=20) (depth:=6) g119 Zam (fun x=>by kernel_rfl)
def e70:Env:=env1 [(118,s118),(119,s119)]
theorem g70:Zaj e70:=Zan mix1 ent1 (Zab ZF3 rfl (Zab ZFR rfl Zag))
def s70:Spec:=Zas (Zaa (Zad .i64) (Zac (Zad .i64))) (Zav (Zaq (Zbc (Zae (ZaL 3 .int) (ZaL 30 (.lst .entry))) Memo (fun y=>⟨y.1,y.2⟩) (fun x=>(x.words,x.boxes)) (fun _=>rfl)))) ZpH
theorem ok70:Zar Tryz.prog 70 s70 :=
 Zai (V:=e70) (L:=nL) (rounds:=20) (depth:=6) g70 Zam (fun x=>by kernel_rfl)
def e148:Env:=env1 []
theorem g148:Zaj e148:=Zan mix1 ent1 Zag
def s148:Spec:=Zas (Zac (Zaq celConfig)) (Zav (Zad .i64)) ZfP
theorem ZDF:Zar Tryz.prog 148 s148 :=
 Zai (V:=e148) (L:=nL) (rounds:=20) (depth:=6) g148 Zam (fun x=>by kernel_rfl)
def e120:Env:=env1 [(148,s148)]
theorem g120:Zaj e120:=Zan mix1 ent1 (Zab ZDF rfl Zag)
def s120:Spec:=Zas (Zac (Zaq celConfig)) (Zav (Zaq ZEb)) ZcB
theorem Zrq:Zar Tryz.prog 120 s120 :=
 Zai (V:=e120) (L:=nL) (rounds:=20) (depth:=6) g120 Zam (fun x=>by kernel_rfl)
def e71:Env:=env1 [(120,s120)]
theorem g71:Zaj e71:=Zan mix1 ent1 (Zab Zrq rfl Zag)
def s71:Spec:=Zas (Zac (Zaq celConfig)) (Zav (Zad .i64)) Zmt
theorem ok71:Zar Tryz.prog 71 s71 :=
 Zai (V:=e71) (L:=nL) (rounds:=20) (depth:=6) g71 Zam (fun x=>by kernel_rfl)
def e72:Env:=env1 [(120,s120)]
theorem g72:Zaj e72:=Zan mix1 ent1 (Zab Zrq rfl Zag)
def s72:Spec:=Zas (Zaa (Zaq celConfig) (Zac (Zad .i64))) (Zav (Zad .i64)) Zdz
theorem ok72:Zar Tryz.prog 72 s72 :=
 Zai (V:=e72) (L:=nL) (rounds:=20) (depth:=6) g72 Zam (fun x=>by kernel_rfl)
def e25:Env:=env1 [(70,s70),(71,s71),(72,s72)]
theorem g25:Zaj e25:=Zan mix1 ent1 (Zab ok70 rfl (Zab ok71 rfl (Zab ok72 rfl Zag)))
def ZDk:LSpec:=ZbY [1,2,3,11,12] (Zaa (Zak celConfig) (Zaa (Zak ZaD) (Zaa (Zak (Zbc (Zae (ZaL 3 .int) (ZaL 30 (.lst .entry))) Memo (fun y=>⟨y.1,y.2⟩) (fun x=>(x.words,x.boxes)) (fun _=>rfl))) (Zaa (Zad .i64) (Zac (Zad .i64)))))) (⟨.exit 0,[2,3],(Zaa (Zak ZaD) (Zac (Zak (Zbc (Zae (ZaL 3 .int) (ZaL 30 (.lst .entry))) Memo (fun y=>⟨y.1,y.2⟩) (fun x=>(x.words,x.boxes)) (fun _=>rfl)))))⟩:Way) (Zay Zgn)
theorem ZEr:LoopOK e25 25 ZDk (ZaW e25.P 25 3) :=
 Zbe (L:=ZaB []) (rounds:=20) (depth:=6) (ts:=[1,2,3,11,12]) (v:=(Zaa (Zak celConfig) (Zaa (Zak ZaD) (Zaa (Zak (Zbc (Zae (ZaL 3 .int) (ZaL 30 (.lst .entry))) Memo (fun y=>⟨y.1,y.2⟩) (fun x=>(x.words,x.boxes)) (fun _=>rfl))) (Zaa (Zad .i64) (Zac (Zad .i64))))))) (a:=⟨.exit 0,[2,3],(Zaa (Zak ZaD) (Zac (Zak (Zbc (Zae (ZaL 3 .int) (ZaL 30 (.lst .entry))) Memo (fun y=>⟨y.1,y.2⟩) (fun x=>(x.words,x.boxes)) (fun _=>rfl)))))⟩) (step:=Zgn) g25 rfl ZaE (fun x=>by kernel_rfl)
def s25:Spec:=Zas (Zac (Zaq celConfig)) (Zav (Zaq (Zbc (Zae (ZaL 3 .int) (ZaL 30 (.lst .entry))) Memo (fun y=>⟨y.1,y.2⟩) (fun x=>(x.words,x.boxes)) (fun _=>rfl)))) Zd1
theorem ok25:Zar Tryz.prog 25 s25 :=
 Zai (V:=e25) (L:=(ZaB [(3,ZDk)])) (rounds:=20) (depth:=6) g25 (ZaZ (nt:=25) (by kernel_rfl) (Zbh (by kernel_rfl)) (Zaz ZEr ZaH)) (fun x=>by kernel_rfl)
def e73:Env:=env1 []
theorem g73:Zaj e73:=Zan mix1 ent1 Zag
def s73:Spec:=Zas (Zaa (Zad .i64) (Zac (Zad .i64))) (Zav (Zad .i64)) ZmJ
theorem ok73:Zar Tryz.prog 73 s73 :=
 Zai (V:=e73) (L:=nL) (rounds:=20) (depth:=6) g73 Zam (fun x=>by kernel_rfl)
def e26:Env:=env1 [(73,s73)]
theorem g26:Zaj e26:=Zan mix1 ent1 (Zab ok73 rfl Zag)
def s26:Spec:=Zas (Zaa (Zaq celConfig) (Zaa (Zad .i64) (Zaa (Zaq Za8) (Zaa (Zad .i64) (Zaa (Zaq Zea) (Zac (Zad .i64))))))) (Zav (Zaq Za8)) Zc2
theorem ok26:Zar Tryz.prog 26 s26 :=
 Zai (V:=e26) (L:=nL) (rounds:=20) (depth:=6) g26 Zam (fun x=>by kernel_rfl)
def e27:Env:=env1 []
theorem g27:Zaj e27:=Zan mix1 ent1 Zag
def s27:Spec:=Zas ZbG (Zav (Zaq Za8)) Zew
theorem ok27:Zar Tryz.prog 27 s27 :=
 Zai (V:=e27) (L:=nL) (rounds:=20) (depth:=6) g27 Zam (fun x=>by kernel_rfl)
def e28:Env:=env1 [(17,s17)]
theorem g28:Zaj e28:=Zan mix1 ent1 (Zab ok17 rfl Zag)
def s28:Spec:=Zas (Zac (Zaq Zau)) (Zav (ZaF)) ZnJ
theorem ok28:Zar Tryz.prog 28 s28 :=
 Zai (V:=e28) (L:=nL) (rounds:=20) (depth:=6) g28 Zam (fun x=>by kernel_rfl)
def e31:Env:=env1 []
theorem g31:Zaj e31:=Zan mix1 ent1 Zag
def s31:Spec:=Zas (Zaa (Zaq Zea) (Zac (ZaF))) (Zav (ZaF)) Zkk
theorem ok31:Zar Tryz.prog 31 s31 :=
 Zai (V:=e31) (L:=nL) (rounds:=20) (depth:=6) g31 Zam (fun x=>by kernel_rfl)
def e32:Env:=env1 []
theorem g32:Zaj e32:=Zan mix1 ent1 Zag
def s32:Spec:=Zas (Zac (Zaq celConfig)) (Zav (Zad .i64)) Zo3
theorem ok32:Zar Tryz.prog 32 s32 :=
 Zai (V:=e32) (L:=nL) (rounds:=20) (depth:=6) g32 Zam (fun x=>by kernel_rfl)
def e33:Env:=env1 []
theorem g33:Zaj e33:=Zan mix1 ent1 Zag
def s33:Spec:=Zas (Zac (Zaq Za8)) (Zav (ZaF)) ZbE
theorem ok33:Zar Tryz.prog 33 s33 :=
 Zai (V:=e33) (L:=nL) (rounds:=20) (depth:=6) g33 Zam (fun x=>by kernel_rfl)
def e35:Env:=env1 [(74,s74)]
theorem g35:Zaj e35:=Zan mix1 ent1 (Zab ok74 rfl Zag)
def s35:Spec:=Zas (Zaa (Zaq celConfig) (Zac (Zad .i64))) (Zav (Zad .i64)) ZdC
theorem ok35:Zar Tryz.prog 35 s35 :=
 Zai (V:=e35) (L:=nL) (rounds:=20) (depth:=6) g35 Zam (fun x=>by kernel_rfl)
def e37:Env:=env1 [(36,s36),(74,s74)]
theorem g37:Zaj e37:=Zan mix1 ent1 (Zab ok36 rfl (Zab ok74 rfl Zag))
def s37:Spec:=Zas (Zaa (Zaq celConfig) (Zaa (Zad .i64) (Zac (Zad .i64)))) (Zav (Zad .i64)) ZdD
theorem ok37:Zar Tryz.prog 37 s37 :=
 Zai (V:=e37) (L:=nL) (rounds:=20) (depth:=6) g37 Zam (fun x=>by kernel_rfl)
def e38:Env:=env1 [(74,s74)]
theorem g38:Zaj e38:=Zan mix1 ent1 (Zab ok74 rfl Zag)
def s38:Spec:=Zas (Zaa (Zaq celConfig) (Zac (Zad .i64))) (Zav (Zad .i64)) Zcq
theorem ok38:Zar Tryz.prog 38 s38 :=
 Zai (V:=e38) (L:=nL) (rounds:=20) (depth:=6) g38 Zam (fun x=>by kernel_rfl)
def e39:Env:=env1 []
theorem g39:Zaj e39:=Zan mix1 ent1 Zag
def s39:Spec:=Zas (Zaa (Zax .sentry) (Zac (Zax .int))) (Zav (ZaF)) Zl1
theorem ok39:Zar Tryz.prog 39 s39 :=
 Zai (V:=e39) (L:=nL) (rounds:=20) (depth:=6) g39 Zam (fun x=>by kernel_rfl)
def e127:Env:=env1 []
theorem g127:Zaj e127:=Zan mix1 ent1 Zag
def ZAT:LSpec:=ZbY [1,4,5,7] (Zaa (Zad .i64) (Zaa (Zak ZaD) (Zaa (Zak (Zbc (Zae (ZaL 3 .int) (ZaL 47 (.lst .entry))) Memo (fun y=>⟨y.1,y.2⟩) (fun x=>(x.words,x.boxes)) (fun _=>rfl))) (Zac (Zad .i64))))) (⟨.exit 2,[4,5],(Zaa (Zak ZaD) (Zac (Zak (Zbc (Zae (ZaL 3 .int) (ZaL 47 (.lst .entry))) Memo (fun y=>⟨y.1,y.2⟩) (fun x=>(x.words,x.boxes)) (fun _=>rfl)))))⟩:Way) (Zay ZhT)
theorem ZCp:LoopOK e127 39 ZAT (ZaW e127.P 127 7) :=
 Zbe (L:=ZaB []) (rounds:=20) (depth:=6) (ts:=[1,4,5,7]) (v:=(Zaa (Zad .i64) (Zaa (Zak ZaD) (Zaa (Zak (Zbc (Zae (ZaL 3 .int) (ZaL 47 (.lst .entry))) Memo (fun y=>⟨y.1,y.2⟩) (fun x=>(x.words,x.boxes)) (fun _=>rfl))) (Zac (Zad .i64)))))) (a:=⟨.exit 2,[4,5],(Zaa (Zak ZaD) (Zac (Zak (Zbc (Zae (ZaL 3 .int) (ZaL 47 (.lst .entry))) Memo (fun y=>⟨y.1,y.2⟩) (fun x=>(x.words,x.boxes)) (fun _=>rfl)))))⟩) (step:=ZhT) g127 rfl ZaE (fun x=>by kernel_rfl)
def ZAD:LSpec:=ZbY [0,1,4,5,6] (Zaa (Zad .i64) (Zaa (Zad .i64) (Zaa (Zak ZaD) (Zaa (Zak (Zbc (Zae (ZaL 3 .int) (ZaL 47 (.lst .entry))) Memo (fun y=>⟨y.1,y.2⟩) (fun x=>(x.words,x.boxes)) (fun _=>rfl))) (Zac (Zad .i64)))))) (⟨.exit 0,[1,4,5],(Zaa (Zad .i64) (Zaa (Zak ZaD) (Zac (Zak (Zbc (Zae (ZaL 3 .int) (ZaL 47 (.lst .entry))) Memo (fun y=>⟨y.1,y.2⟩) (fun x=>(x.words,x.boxes)) (fun _=>rfl))))))⟩:Way) (Zay ZhN)
theorem ZBM:LoopOK e127 39 ZAD (ZaW e127.P 127 3) :=
 Zbe (L:=ZaB []) (rounds:=20) (depth:=6) (ts:=[0,1,4,5,6]) (v:=(Zaa (Zad .i64) (Zaa (Zad .i64) (Zaa (Zak ZaD) (Zaa (Zak (Zbc (Zae (ZaL 3 .int) (ZaL 47 (.lst .entry))) Memo (fun y=>⟨y.1,y.2⟩) (fun x=>(x.words,x.boxes)) (fun _=>rfl))) (Zac (Zad .i64))))))) (a:=⟨.exit 0,[1,4,5],(Zaa (Zad .i64) (Zaa (Zak ZaD) (Zac (Zak (Zbc (Zae (ZaL 3 .int) (ZaL 47 (.lst .entry))) Memo (fun y=>⟨y.1,y.2⟩) (fun x=>(x.words,x.boxes)) (fun _=>rfl))))))⟩) (step:=ZhN) g127 rfl ZaE (fun x=>by kernel_rfl)
def s127:Spec:=Zas (Zaa (Zad .i64) (Zac (Zad .i64))) (Zav (Zaq ZaD)) Zom
theorem ZGu:Zar Tryz.prog 127 s127 :=
 Zai (V:=e127) (L:=(ZaB [(7,ZAT),(3,ZAD)])) (rounds:=20) (depth:=6) g127 (ZaZ (nt:=39) (by kernel_rfl) (Zbh (by kernel_rfl)) (Zaz ZCp (Zaz ZBM ZaH))) (fun x=>by kernel_rfl)
def e128:Env:=env1 []
theorem g128:Zaj e128:=Zan mix1 ent1 Zag
def s128:Spec:=Zas (Zaa (Zaq ZaD) (Zaa (Zad .i64) (Zac (Zad .i64)))) (Zbp (Zaa (Zaq ZaD) (Zac (Zad .i64)))) Zbn
theorem Zpk:Zar Tryz.prog 128 s128 :=
 Zai (V:=e128) (L:=nL) (rounds:=20) (depth:=6) g128 Zam (fun x=>by kernel_rfl)
def e86:Env:=env1 [(34,s34),(35,s35),(127,s127),(128,s128)]
theorem g86:Zaj e86:=Zan mix1 ent1 (Zab ok34 rfl (Zab ok35 rfl (Zab ZGu rfl (Zab Zpk rfl Zag))))
def ZDA:LSpec:=ZbY [1,2,3,4] (Zaa (Zak celConfig) (Zaa (Zak ZaD) (Zaa (Zak ZaD) (Zac (Zad .i64))))) (⟨.exit 0,[2,3],(Zaa (Zak ZaD) (Zac (Zak ZaD)))⟩:Way) (Zay Zgh)
theorem ZEP:LoopOK e86 27 ZDA (ZaW e86.P 86 3) :=
 Zbe (L:=ZaB []) (rounds:=20) (depth:=6) (ts:=[1,2,3,4]) (v:=(Zaa (Zak celConfig) (Zaa (Zak ZaD) (Zaa (Zak ZaD) (Zac (Zad .i64)))))) (a:=⟨.exit 0,[2,3],(Zaa (Zak ZaD) (Zac (Zak ZaD)))⟩) (step:=Zgh) g86 rfl ZaE (fun x=>by kernel_rfl)
def s86:Spec:=Zas (Zac (Zaq celConfig)) (Zav (Zaq ZaD)) ZkO
theorem ok86:Zar Tryz.prog 86 s86 :=
 Zai (V:=e86) (L:=(ZaB [(3,ZDA)])) (rounds:=20) (depth:=6) g86 (ZaZ (nt:=27) (by kernel_rfl) (Zbh (by kernel_rfl)) (Zaz ZEP ZaH)) (fun x=>by kernel_rfl)
def e87:Env:=env1 []
theorem g87:Zaj e87:=Zan mix1 ent1 Zag
def s87:Spec:=Zas ZbG (Zav (Zaq Za8)) Zog
theorem ok87:Zar Tryz.prog 87 s87 :=
 Zai (V:=e87) (L:=nL) (rounds:=20) (depth:=6) g87 Zam (fun x=>by kernel_rfl)
def e51:Env:=env1 [(23,s23),(86,s86),(87,s87)]
theorem g51:Zaj e51:=Zan mix1 ent1 (Zab ok23 rfl (Zab ok86 rfl (Zab ok87 rfl Zag)))
def ZDv:LSpec:=ZbY [2,4,7,8] (Zaa (Zak celConfig) (Zaa (Zak ZaO) (Zaa (Zak (Zbc (Zae celConfig (Zae ZaD (Zae (ZaL 50 .thread) (Zae (Zao .i64) (Zae (Zao .i64) (Zae Zbo (Zae (Zbb .mark) (Zbb .event)))))))) Wld (fun y=>⟨y.1,y.2.1,y.2.2.1,y.2.2.2.1,y.2.2.2.2.1,y.2.2.2.2.2.1,y.2.2.2.2.2.2.1,y.2.2.2.2.2.2.2⟩) (fun x=>(x.c,(x.m,(x.t,(x.now,(x.steps,(x.tape,(x.log,x.hist)))))))) (fun _=>rfl))) (Zac (Zad .i64))))) (⟨.exit 0,[4,7],(Zaa (Zak ZaO) (Zac (Zak (Zbc (Zae celConfig (Zae ZaD (Zae (ZaL 50 .thread) (Zae (Zao .i64) (Zae (Zao .i64) (Zae Zbo (Zae (Zbb .mark) (Zbb .event)))))))) Wld (fun y=>⟨y.1,y.2.1,y.2.2.1,y.2.2.2.1,y.2.2.2.2.1,y.2.2.2.2.2.1,y.2.2.2.2.2.2.1,y.2.2.2.2.2.2.2⟩) (fun x=>(x.c,(x.m,(x.t,(x.now,(x.steps,(x.tape,(x.log,x.hist)))))))) (fun _=>rfl)))))⟩:Way) (Zay Zh0)
theorem ZEM:LoopOK e51 36 ZDv (ZaW e51.P 51 6) :=
 Zbe (L:=ZaB []) (rounds:=20) (depth:=6) (ts:=[2,4,7,8]) (v:=(Zaa (Zak celConfig) (Zaa (Zak ZaO) (Zaa (Zak (Zbc (Zae celConfig (Zae ZaD (Zae (ZaL 50 .thread) (Zae (Zao .i64) (Zae (Zao .i64) (Zae Zbo (Zae (Zbb .mark) (Zbb .event)))))))) Wld (fun y=>⟨y.1,y.2.1,y.2.2.1,y.2.2.2.1,y.2.2.2.2.1,y.2.2.2.2.2.1,y.2.2.2.2.2.2.1,y.2.2.2.2.2.2.2⟩) (fun x=>(x.c,(x.m,(x.t,(x.now,(x.steps,(x.tape,(x.log,x.hist)))))))) (fun _=>rfl))) (Zac (Zad .i64)))))) (a:=⟨.exit 0,[4,7],(Zaa (Zak ZaO) (Zac (Zak (Zbc (Zae celConfig (Zae ZaD (Zae (ZaL 50 .thread) (Zae (Zao .i64) (Zae (Zao .i64) (Zae Zbo (Zae (Zbb .mark) (Zbb .event)))))))) Wld (fun y=>⟨y.1,y.2.1,y.2.2.1,y.2.2.2.1,y.2.2.2.2.1,y.2.2.2.2.2.1,y.2.2.2.2.2.2.1,y.2.2.2.2.2.2.2⟩) (fun x=>(x.c,(x.m,(x.t,(x.now,(x.steps,(x.tape,(x.log,x.hist)))))))) (fun _=>rfl)))))⟩) (step:=Zh0) g51 rfl ZaE (fun x=>by kernel_rfl)
def s51:Spec:=Zas (Zaa (Zaq celConfig) (Zac (Zax .int))) (Zbp (Zaa (Zaq ZaO) (Zac (Zad .i64)))) Zn2
theorem ok51:Zar Tryz.prog 51 s51 :=
 Zai (V:=e51) (L:=(ZaB [(6,ZDv)])) (rounds:=20) (depth:=6) g51 (ZaZ (nt:=36) (by kernel_rfl) (Zbh (by kernel_rfl)) (Zaz ZEM ZaH)) (fun x=>by kernel_rfl)
def e54:Env:=env1 [(31,s31)]
theorem g54:Zaj e54:=Zan mix1 ent1 (Zab ok31 rfl Zag)
def s54:Spec:=Zas (Zaa (Zaq celConfig) (Zac (Zaq ZnA))) (Zav (Zad .i64)) ZhW
theorem ok54:Zar Tryz.prog 54 s54 :=
 Zai (V:=e54) (L:=nL) (rounds:=20) (depth:=6) g54 Zam (fun x=>by kernel_rfl)
def e82:Env:=env1 []
theorem g82:Zaj e82:=Zan mix1 ent1 Zag
def s82:Spec:=Zas (Zac (Zaq Za8)) (Zav (ZaF)) ZeE
theorem ok82:Zar Tryz.prog 82 s82 :=
 Zai (V:=e82) (L:=nL) (rounds:=20) (depth:=6) g82 Zam (fun x=>by kernel_rfl)
def e90:Env:=env1 []
theorem g90:Zaj e90:=Zan mix1 ent1 Zag
def s90:Spec:=Zas (Zaa (Zaq ZaO) (Zac (Zaq ZmD))) (Zav (Zaq ZaO)) ZgG
theorem ok90:Zar Tryz.prog 90 s90 :=
 Zai (V:=e90) (L:=nL) (rounds:=20) (depth:=6) g90 Zam (fun x=>by kernel_rfl)
def e91:Env:=env1 []
theorem g91:Zaj e91:=Zan mix1 ent1 Zag
def s91:Spec:=Zas (Zaa (Zaq ZaO) (Zaa (Zad .i64) (Zac (Zaq Za8)))) (Zav (Zaq ZaO)) ZgW
theorem ok91:Zar Tryz.prog 91 s91 :=
 Zai (V:=e91) (L:=nL) (rounds:=20) (depth:=6) g91 Zam (fun x=>by kernel_rfl)
def e134:Env:=env1 []
theorem g134:Zaj e134:=Zan mix1 ent1 Zag
def ZAh:LSpec:=ZbY [0,1,5,6] (Zaa (Zad .i64) (Zaa (Zad .i64) (Zaa (Zad .i64) (Zac (Zad .i64))))) (⟨.exit 0,[1,5],(Zaa (Zad .i64) (Zac (Zad .i64)))⟩:Way) (Zay Zkh)
theorem ZBX:LoopOK e134 22 ZAh (ZaW e134.P 134 5) :=
 Zbe (L:=ZaB []) (rounds:=20) (depth:=6) (ts:=[0,1,5,6]) (v:=(Zaa (Zad .i64) (Zaa (Zad .i64) (Zaa (Zad .i64) (Zac (Zad .i64)))))) (a:=⟨.exit 0,[1,5],(Zaa (Zad .i64) (Zac (Zad .i64)))⟩) (step:=Zkh) g134 rfl ZaE (fun x=>by kernel_rfl)
def s134:Spec:=Zas (Zaa (Zad .i64) (Zac (Zad .i64))) (Zav (Zad .i64)) Zmn
theorem ZFA:Zar Tryz.prog 134 s134 :=
 Zai (V:=e134) (L:=(ZaB [(5,ZAh)])) (rounds:=20) (depth:=6) g134 (ZaZ (nt:=22) (by kernel_rfl) (Zbh (by kernel_rfl)) (Zaz ZBX ZaH)) (fun x=>by kernel_rfl)
def e92:Env:=env1 [(134,s134)]
theorem g92:Zaj e92:=Zan mix1 ent1 (Zab ZFA rfl Zag)
def s92:Spec:=Zas (Zaa (Zaq celConfig) (Zaa (Zad .i64) (Zaa (Zaq Za8) (Zaa (Zad .i64) (Zaa (Zaq Zea) (Zac (Zad .i64))))))) (Zav (Zaq Za8)) Zlk
theorem ok92:Zar Tryz.prog 92 s92 :=
 Zai (V:=e92) (L:=nL) (rounds:=20) (depth:=6) g92 Zam (fun x=>by kernel_rfl)
def e172:Env:=env1 []
theorem g172:Zaj e172:=Zan mix1 ent1 Zag
def s172:Spec:=Zas (Zac (Zaq Zau)) (Zav (Zaq Zau)) ZkM
theorem ZF4:Zar Tryz.prog 172 s172 :=
 Zai (V:=e172) (L:=nL) (rounds:=20) (depth:=6) g172 Zam (fun x=>by kernel_rfl)
def e197:Env:=env1 []
theorem g197:Zaj e197:=Zan mix1 ent1 Zag
def s197:Spec:=Zas (Zaa (Zaq ZaD) (Zac (Zad .i64))) (Zbp (Zaa (Zad .i64) (Zac (Zad .i64)))) Zbq
theorem ZpO:Zar Tryz.prog 197 s197 :=
 Zai (V:=e197) (L:=nL) (rounds:=20) (depth:=6) g197 Zam (fun x=>by kernel_rfl)
def e198:Env:=env1 []
theorem g198:Zaj e198:=Zan mix1 ent1 Zag
def s198:Spec:=Zas ZbG (Zav (Zad .i64)) ZeD
theorem Zzh:Zar Tryz.prog 198 s198 :=
 Zai (V:=e198) (L:=nL) (rounds:=20) (depth:=6) g198 Zam (fun x=>by kernel_rfl)
def e199:Env:=env1 [(74,s74)]
theorem g199:Zaj e199:=Zan mix1 ent1 (Zab ok74 rfl Zag)
def s199:Spec:=Zas (Zaa (Zaq celConfig) (Zac (Zad .i64))) (Zav (Zad .i64)) Zfz
theorem ZDS:Zar Tryz.prog 199 s199 :=
 Zai (V:=e199) (L:=nL) (rounds:=20) (depth:=6) g199 Zam (fun x=>by kernel_rfl)
def e200:Env:=env1 []
theorem g200:Zaj e200:=Zan mix1 ent1 Zag
def s200:Spec:=Zas (Zac (Zaq Zau)) (Zav (Zaq Zau)) Zdm
theorem ZyL:Zar Tryz.prog 200 s200 :=
 Zai (V:=e200) (L:=nL) (rounds:=20) (depth:=6) g200 Zam (fun x=>by kernel_rfl)
def e202:Env:=env1 [(24,s24)]
theorem g202:Zaj e202:=Zan mix1 ent1 (Zab ok24 rfl Zag)
def ZAg:LSpec:=ZbY [0,1,2,3,9] (Zaa (Zax .entry) (Zaa (Zad .i64) (Zaa (Zad .i64) (Zaa (Zad .i64) (Zac (Zad .i64)))))) (⟨.exit 0,[1],(Zac (Zad .i64))⟩:Way) (Zay ZhS)
theorem ZBS:LoopOK e202 29 ZAg (ZaW e202.P 202 2) :=
 Zbe (L:=ZaB []) (rounds:=20) (depth:=6) (ts:=[0,1,2,3,9]) (v:=(Zaa (Zax .entry) (Zaa (Zad .i64) (Zaa (Zad .i64) (Zaa (Zad .i64) (Zac (Zad .i64))))))) (a:=⟨.exit 0,[1],(Zac (Zad .i64))⟩) (step:=ZhS) g202 rfl ZaE (fun x=>by kernel_rfl)
def s202:Spec:=Zas (Zaa (Zax .entry) (Zaa (Zad .i64) (Zaa (Zad .i64) (Zac (Zad .i64))))) (Zav (Zad .i64)) Zeg
theorem ZyD:Zar Tryz.prog 202 s202 :=
 Zai (V:=e202) (L:=(ZaB [(2,ZAg)])) (rounds:=20) (depth:=6) g202 (ZaZ (nt:=29) (by kernel_rfl) (Zbh (by kernel_rfl)) (Zaz ZBS ZaH)) (fun x=>by kernel_rfl)
def e236:Env:=env1 []
theorem g236:Zaj e236:=Zan mix1 ent1 Zag
def ZAf:LSpec:=ZbY [0,1,5,6] (Zaa (Zax .entry) (Zaa (Zad .i64) (Zaa (ZaN 137 .entry) (Zac (Zad .i64))))) (⟨.exit 0,[5],(Zac (ZaN 137 .entry))⟩:Way) (Zay Zfj)
theorem ZB4:LoopOK e236 27 ZAf (ZaW e236.P 236 3) :=
 Zbe (L:=ZaB []) (rounds:=20) (depth:=6) (ts:=[0,1,5,6]) (v:=(Zaa (Zax .entry) (Zaa (Zad .i64) (Zaa (ZaN 137 .entry) (Zac (Zad .i64)))))) (a:=⟨.exit 0,[5],(Zac (ZaN 137 .entry))⟩) (step:=Zfj) g236 rfl ZaE (fun x=>by kernel_rfl)
def s236:Spec:=Zas (Zaa (Zax .entry) (Zac (Zad .i64))) (Zav (Zax .entry)) ZgH
theorem ZDm:Zar Tryz.prog 236 s236 :=
 Zai (V:=e236) (L:=(ZaB [(3,ZAf)])) (rounds:=20) (depth:=6) g236 (ZaZ (nt:=27) (by kernel_rfl) (Zbh (by kernel_rfl)) (Zaz ZB4 ZaH)) (fun x=>by kernel_rfl)
def e201:Env:=env1 [(38,s38),(128,s128),(198,s198),(199,s199),(200,s200),(202,s202),(236,s236)]
theorem g201:Zaj e201:=Zan mix1 ent1 (Zab ok38 rfl (Zab Zpk rfl (Zab Zzh rfl (Zab ZDS rfl (Zab ZyL rfl (Zab ZyD rfl (Zab ZDm rfl Zag)))))))
def s201:Spec:=Zas (Zac (Zaq Zau)) (Zav (Zaq Zau)) Zgo
theorem ZGG:Zar Tryz.prog 201 s201 :=
 Zai (V:=e201) (L:=nL) (rounds:=20) (depth:=6) g201 Zam (fun x=>by kernel_rfl)
def e173:Env:=env1 [(38,s38),(197,s197),(198,s198),(199,s199),(200,s200),(201,s201)]
theorem g173:Zaj e173:=Zan mix1 ent1 (Zab ok38 rfl (Zab ZpO rfl (Zab Zzh rfl (Zab ZDS rfl (Zab ZyL rfl (Zab ZGG rfl Zag))))))
def s173:Spec:=Zas (Zac (Zaq Zau)) (Zbp (Zaa (Zaq Zau) (Zac (ZaF)))) Zm1
theorem ZFL:Zar Tryz.prog 173 s173 :=
 Zai (V:=e173) (L:=nL) (rounds:=20) (depth:=6) g173 Zam (fun x=>by kernel_rfl)
def e237:Env:=env1 [(202,s202),(236,s236)]
theorem g237:Zaj e237:=Zan mix1 ent1 (Zab ZyD rfl (Zab ZDm rfl Zag))
def ZA6:LSpec:=ZbY [0,1,2,3,9,10] (Zaa (Zax .entry) (Zaa (Zad .i64) (Zaa (Zad .i64) (Zaa (Zad .i64) (Zaa (ZaN 3 .int) (Zac (Zad .i64))))))) (⟨.exit 0,[9],(Zac (ZaN 3 .int))⟩:Way) (Zay ZeB)
theorem ZBU:LoopOK e237 29 ZA6 (ZaW e237.P 237 3) :=
 Zbe (L:=ZaB []) (rounds:=20) (depth:=6) (ts:=[0,1,2,3,9,10]) (v:=(Zaa (Zax .entry) (Zaa (Zad .i64) (Zaa (Zad .i64) (Zaa (Zad .i64) (Zaa (ZaN 3 .int) (Zac (Zad .i64)))))))) (a:=⟨.exit 0,[9],(Zac (ZaN 3 .int))⟩) (step:=ZeB) g237 rfl ZaE (fun x=>by kernel_rfl)
def s237:Spec:=Zas (Zaa (Zax .entry) (Zaa (Zad .i64) (Zaa (Zad .i64) (Zac (Zad .i64))))) (Zav (Zax .int)) ZjE
theorem ZF8:Zar Tryz.prog 237 s237 :=
 Zai (V:=e237) (L:=(ZaB [(3,ZA6)])) (rounds:=20) (depth:=6) g237 (ZaZ (nt:=29) (by kernel_rfl) (Zbh (by kernel_rfl)) (Zaz ZBU ZaH)) (fun x=>by kernel_rfl)
def e203:Env:=env1 [(200,s200),(237,s237)]
theorem g203:Zaj e203:=Zan mix1 ent1 (Zab ZyL rfl (Zab ZF8 rfl Zag))
def ZA3:LSpec:=ZbY [1,2,4,5,6,7] (Zaa (Zad .i64) (Zaa (Zak Zau) (Zaa (Zak Zau) (Zaa (Zax .int) (Zaa (ZaN 162 .mark) (Zac (Zad .i64))))))) (⟨.exit 0,[1,2,4,6],(Zaa (Zad .i64) (Zaa (Zak Zau) (Zaa (Zak Zau) (Zac (ZaN 162 .mark)))))⟩:Way) (Zay ZeJ)
theorem ZBI:LoopOK e203 65 ZA3 (ZaW e203.P 203 4) :=
 Zbe (L:=ZaB []) (rounds:=20) (depth:=6) (ts:=[1,2,4,5,6,7]) (v:=(Zaa (Zad .i64) (Zaa (Zak Zau) (Zaa (Zak Zau) (Zaa (Zax .int) (Zaa (ZaN 162 .mark) (Zac (Zad .i64)))))))) (a:=⟨.exit 0,[1,2,4,6],(Zaa (Zad .i64) (Zaa (Zak Zau) (Zaa (Zak Zau) (Zac (ZaN 162 .mark)))))⟩) (step:=ZeJ) g203 rfl ZaE (fun x=>by kernel_rfl)
def s203:Spec:=Zas (Zaa (Zaq Zau) (Zac (Zad .i64))) (Zav (Zaq Zau)) Zek
theorem ZF9:Zar Tryz.prog 203 s203 :=
 Zai (V:=e203) (L:=(ZaB [(4,ZA3)])) (rounds:=20) (depth:=6) g203 (ZaZ (nt:=65) (by kernel_rfl) (Zbh (by kernel_rfl)) (Zaz ZBI ZaH)) (fun x=>by kernel_rfl)
def e208:Env:=env1 []
theorem g208:Zaj e208:=Zan mix1 ent1 Zag
def s208:Spec:=Zas (Zac (Zaq Zau)) (Zav (ZaF)) Zen
theorem ZyT:Zar Tryz.prog 208 s208 :=
 Zai (V:=e208) (L:=nL) (rounds:=20) (depth:=6) g208 Zam (fun x=>by kernel_rfl)
def e204:Env:=env1 [(208,s208)]
theorem g204:Zaj e204:=Zan mix1 ent1 (Zab ZyT rfl Zag)
def s204:Spec:=Zas (Zac (Zaq Zau)) (Zav (Zaq Zau)) Zeh
theorem ZCR:Zar Tryz.prog 204 s204 :=
 Zai (V:=e204) (L:=nL) (rounds:=20) (depth:=6) g204 Zam (fun x=>by kernel_rfl)
def e205:Env:=env1 [(128,s128),(197,s197)]
theorem g205:Zaj e205:=Zan mix1 ent1 (Zab Zpk rfl (Zab ZpO rfl Zag))
def s205:Spec:=Zas (Zaa (Zaq ZaD) (Zaa (Zad .i64) (Zaa (Zad .i64) (Zac (Zad .i64))))) (Zbp (Zaa (Zaq ZaD) (Zaa (ZaF) (Zac (Zad .i64))))) ZcT
theorem Zvs:Zar Tryz.prog 205 s205 :=
 Zai (V:=e205) (L:=nL) (rounds:=20) (depth:=6) g205 Zam (fun x=>by kernel_rfl)
def e206:Env:=env1 []
theorem g206:Zaj e206:=Zan mix1 ent1 Zag
def s206:Spec:=Zas (Zaa (Zad .i64) (Zac (Zad .i64))) (Zav (Zad .i64)) ZhV
theorem ZF0:Zar Tryz.prog 206 s206 :=
 Zai (V:=e206) (L:=nL) (rounds:=20) (depth:=6) g206 Zam (fun x=>by kernel_rfl)
def e174:Env:=env1 [(35,s35),(197,s197),(202,s202),(203,s203),(204,s204),(205,s205),(206,s206)]
theorem g174:Zaj e174:=Zan mix1 ent1 (Zab ok35 rfl (Zab ZpO rfl (Zab ZyD rfl (Zab ZF9 rfl (Zab ZCR rfl (Zab Zvs rfl (Zab ZF0 rfl Zag)))))))
def s174:Spec:=Zas (Zac (Zaq Zau)) (Zbp (Zaa (Zaq Zau) (Zac (ZaF)))) ZmR
theorem ZGL:Zar Tryz.prog 174 s174 :=
 Zai (V:=e174) (L:=nL) (rounds:=20) (depth:=6) g174 Zam (fun x=>by kernel_rfl)
def e210:Env:=env1 []
theorem g210:Zaj e210:=Zan mix1 ent1 Zag
def s210:Spec:=Zas (Zac (Zad .i64)) (Zav (Zad .i64)) Zdd
theorem ZzT:Zar Tryz.prog 210 s210 :=
 Zai (V:=e210) (L:=nL) (rounds:=20) (depth:=6) g210 Zam (fun x=>by kernel_rfl)
def e212:Env:=env1 []
theorem g212:Zaj e212:=Zan mix1 ent1 Zag
def s212:Spec:=Zas (Zac (Zad .i64)) (Zav (Zad .i64)) Zfg
theorem ZDe:Zar Tryz.prog 212 s212 :=
 Zai (V:=e212) (L:=nL) (rounds:=20) (depth:=6) g212 Zam (fun x=>by kernel_rfl)
def e219:Env:=env1 []
theorem g219:Zaj e219:=Zan mix1 ent1 Zag
def s219:Spec:=Zas (Zac (Zad .i64)) (Zav (Zad .i64)) Zd4
theorem ZDo:Zar Tryz.prog 219 s219 :=
 Zai (V:=e219) (L:=nL) (rounds:=20) (depth:=6) g219 Zam (fun x=>by kernel_rfl)
def e238:Env:=env1 []
theorem g238:Zaj e238:=Zan mix1 ent1 Zag
def s238:Spec:=Zas (Zaa (Zad .i64) (Zac (Zad .i64))) (Zav (Zad .i64)) Zdv
theorem Zvv:Zar Tryz.prog 238 s238 :=
 Zai (V:=e238) (L:=nL) (rounds:=20) (depth:=6) g238 Zam (fun x=>by kernel_rfl)
def e207:Env:=env1 [(198,s198),(210,s210),(212,s212),(219,s219),(238,s238)]
theorem g207:Zaj e207:=Zan mix1 ent1 (Zab Zzh rfl (Zab ZzT rfl (Zab ZDe rfl (Zab ZDo rfl (Zab Zvv rfl Zag)))))
def Zt5:LSpec:=Zds [0,4,5] (Zaa (Zad .i64) (Zaa (Zad .i64) (Zac (Zad .i64)))) (⟨.exit 4,[0,4],(Zaa (Zad .i64) (Zac (Zad .i64)))⟩:Way) (⟨.ret,[2],(Zac (Zad .i64))⟩:Way) (Zay Ze1)
theorem Zuq:LoopOK e207 40 Zt5 (ZaW e207.P 207 18) :=
 Zcv (L:=ZaB []) (rounds:=20) (depth:=6) (ts:=[0,4,5]) (v:=(Zaa (Zad .i64) (Zaa (Zad .i64) (Zac (Zad .i64))))) (a:=⟨.exit 4,[0,4],(Zaa (Zad .i64) (Zac (Zad .i64)))⟩) (b:=⟨.ret,[2],(Zac (Zad .i64))⟩) (step:=Ze1) g207 rfl rfl ZaE (fun x=>by kernel_rfl)
def Zx7:LSpec:=Zds [0,4] (Zaa (Zad .i64) (Zac (Zad .i64))) (⟨.exit 2,[],ZbG⟩:Way) (⟨.ret,[2],(Zac (Zad .i64))⟩:Way) (Zay ZeT)
theorem ZAa:LoopOK e207 40 Zx7 (ZaW e207.P 207 15) :=
 Zcv (L:=ZaB [(18,Zt5)]) (rounds:=20) (depth:=6) (ts:=[0,4]) (v:=(Zaa (Zad .i64) (Zac (Zad .i64)))) (a:=⟨.exit 2,[],ZbG⟩) (b:=⟨.ret,[2],(Zac (Zad .i64))⟩) (step:=ZeT) g207 rfl rfl (Zsj (by kernel_rfl) (Zaz Zuq ZaH)) (fun x=>by kernel_rfl)
def ZAZ:LSpec:=Zds [0,3] (Zaa (Zad .i64) (Zac (Zad .i64))) (⟨.exit 0,[0],(Zac (Zad .i64))⟩:Way) (⟨.ret,[2],(Zac (Zad .i64))⟩:Way) (Zay ZfF)
theorem ZBW:LoopOK e207 40 ZAZ (ZaW e207.P 207 6) :=
 Zcv (L:=ZaB []) (rounds:=20) (depth:=6) (ts:=[0,3]) (v:=(Zaa (Zad .i64) (Zac (Zad .i64)))) (a:=⟨.exit 0,[0],(Zac (Zad .i64))⟩) (b:=⟨.ret,[2],(Zac (Zad .i64))⟩) (step:=ZfF) g207 rfl rfl ZaE (fun x=>by kernel_rfl)
def s207:Spec:=Zas (Zac (Zad .i64)) (Zav (Zad .i64)) ZdH
theorem ZzQ:Zar Tryz.prog 207 s207 :=
 Zai (V:=e207) (L:=(ZaB [(18,Zt5),(15,Zx7),(6,ZAZ)])) (rounds:=20) (depth:=6) g207 (ZaZ (nt:=40) (by kernel_rfl) (Zbh (by kernel_rfl)) (Zaz Zuq (Zaz ZAa (Zaz ZBW ZaH)))) (fun x=>by kernel_rfl)
def e239:Env:=env1 []
theorem g239:Zaj e239:=Zan mix1 ent1 Zag
def s239:Spec:=Zas (Zac (Zaq Zau)) (Zav (Zaq Zau)) ZgL
theorem ZDs:Zar Tryz.prog 239 s239 :=
 Zai (V:=e239) (L:=nL) (rounds:=20) (depth:=6) g239 Zam (fun x=>by kernel_rfl)
def e209:Env:=env1 [(239,s239)]
theorem g209:Zaj e209:=Zan mix1 ent1 (Zab ZDs rfl Zag)
def s209:Spec:=Zas (Zac (Zaq Zau)) (Zav (Zaq Zau)) ZgK
theorem ZFs:Zar Tryz.prog 209 s209 :=
 Zai (V:=e209) (L:=nL) (rounds:=20) (depth:=6) g209 Zam (fun x=>by kernel_rfl)
def e211:Env:=env1 []
theorem g211:Zaj e211:=Zan mix1 ent1 Zag
def s211:Spec:=Zas (Zac (Zad .i64)) (Zav (Zad .i64)) Zj8
theorem ZF2:Zar Tryz.prog 211 s211 :=
 Zai (V:=e211) (L:=nL) (rounds:=20) (depth:=6) g211 Zam (fun x=>by kernel_rfl)
def e175:Env:=env1 [(37,s37),(197,s197),(205,s205),(207,s207),(208,s208),(209,s209),(210,s210),(211,s211),(212,s212)]
theorem g175:Zaj e175:=Zan mix1 ent1 (Zab ok37 rfl (Zab ZpO rfl (Zab Zvs rfl (Zab ZzQ rfl (Zab ZyT rfl (Zab ZFs rfl (Zab ZzT rfl (Zab ZF2 rfl (Zab ZDe rfl Zag)))))))))
def s175:Spec:=Zas (Zac (Zaq Zau)) (Zbp (Zaa (Zaq Zau) (Zac (ZaF)))) Zir
theorem ZFZ:Zar Tryz.prog 175 s175 :=
 Zai (V:=e175) (L:=nL) (rounds:=20) (depth:=6) g175 Zam (fun x=>by kernel_rfl)
def e213:Env:=env1 [(37,s37)]
theorem g213:Zaj e213:=Zan mix1 ent1 (Zab ok37 rfl Zag)
def s213:Spec:=Zas (Zac (Zaq Zau)) (Zav (Zad .i64)) ZlY
theorem ZFt:Zar Tryz.prog 213 s213 :=
 Zai (V:=e213) (L:=nL) (rounds:=20) (depth:=6) g213 Zam (fun x=>by kernel_rfl)
def e214:Env:=env1 [(207,s207)]
theorem g214:Zaj e214:=Zan mix1 ent1 (Zab ZzQ rfl Zag)
def s214:Spec:=Zas (Zac (Zad .i64)) (Zav (Zad .i64)) Zoz
theorem ZFG:Zar Tryz.prog 214 s214 :=
 Zai (V:=e214) (L:=nL) (rounds:=20) (depth:=6) g214 Zam (fun x=>by kernel_rfl)
def e215:Env:=env1 [(239,s239)]
theorem g215:Zaj e215:=Zan mix1 ent1 (Zab ZDs rfl Zag)
def s215:Spec:=Zas (Zac (Zaq Zau)) (Zav (Zaq Zau)) Zi1
theorem ZFE:Zar Tryz.prog 215 s215 :=
 Zai (V:=e215) (L:=nL) (rounds:=20) (depth:=6) g215 Zam (fun x=>by kernel_rfl)
def e216:Env:=env1 []
theorem g216:Zaj e216:=Zan mix1 ent1 Zag
def s216:Spec:=Zas (Zaa (Zaq ZaD) (Zac (Zad .i64))) (Zbp (Zaa (Zax .entry) (Zac (Zad .i64)))) Zhw
theorem ZC8:Zar Tryz.prog 216 s216 :=
 Zai (V:=e216) (L:=nL) (rounds:=20) (depth:=6) g216 Zam (fun x=>by kernel_rfl)
def e240:Env:=env1 []
theorem g240:Zaj e240:=Zan mix1 ent1 Zag
def Zz3:LSpec:=ZbY [0,3,4] (Zaa (Zax (.lst .entry)) (Zaa (ZaN 137 .entry) (Zac (Zad .i64)))) (⟨.exit 0,[3],(Zac (ZaN 137 .entry))⟩:Way) (Zay Zej)
theorem ZB0:LoopOK e240 19 Zz3 (ZaW e240.P 240 3) :=
 Zbe (L:=ZaB []) (rounds:=20) (depth:=6) (ts:=[0,3,4]) (v:=(Zaa (Zax (.lst .entry)) (Zaa (ZaN 137 .entry) (Zac (Zad .i64))))) (a:=⟨.exit 0,[3],(Zac (ZaN 137 .entry))⟩) (step:=Zej) g240 rfl ZaE (fun x=>by kernel_rfl)
def s240:Spec:=Zas (Zac (Zax (.lst .entry))) (Zav (Zax .entry)) Zmj
theorem ZGH:Zar Tryz.prog 240 s240 :=
 Zai (V:=e240) (L:=(ZaB [(3,Zz3)])) (rounds:=20) (depth:=6) g240 (ZaZ (nt:=19) (by kernel_rfl) (Zbh (by kernel_rfl)) (Zaz ZB0 ZaH)) (fun x=>by kernel_rfl)
def e217:Env:=env1 [(240,s240)]
theorem g217:Zaj e217:=Zan mix1 ent1 (Zab ZGH rfl Zag)
def s217:Spec:=Zas (Zaa (Zaq Zau) (Zaa (Zad .i64) (Zac (Zax .entry)))) (Zav (Zaq Zau)) ZgF
theorem ZC0:Zar Tryz.prog 217 s217 :=
 Zai (V:=e217) (L:=nL) (rounds:=20) (depth:=6) g217 Zam (fun x=>by kernel_rfl)
def e218:Env:=env1 []
theorem g218:Zaj e218:=Zan mix1 ent1 Zag
def s218:Spec:=Zas (Zaa (Zaq ZaD) (Zaa (Zad .i64) (Zac (Zax .entry)))) (Zbp (Zaa (Zaq ZaD) (Zac (Zad .i64)))) Zhq
theorem ZDt:Zar Tryz.prog 218 s218 :=
 Zai (V:=e218) (L:=nL) (rounds:=20) (depth:=6) g218 Zam (fun x=>by kernel_rfl)
def e176:Env:=env1 [(37,s37),(128,s128),(197,s197),(205,s205),(207,s207),(210,s210),(213,s213),(214,s214),(215,s215),(216,s216),(217,s217),(218,s218),(219,s219)]
theorem g176:Zaj e176:=Zan mix1 ent1 (Zab ok37 rfl (Zab Zpk rfl (Zab ZpO rfl (Zab Zvs rfl (Zab ZzQ rfl (Zab ZzT rfl (Zab ZFt rfl (Zab ZFG rfl (Zab ZFE rfl (Zab ZC8 rfl (Zab ZC0 rfl (Zab ZDt rfl (Zab ZDo rfl Zag)))))))))))))
def s176:Spec:=Zas (Zac (Zaq Zau)) (Zbp (Zaa (Zaq Zau) (Zac (ZaF)))) Zfx
theorem ZGl:Zar Tryz.prog 176 s176 :=
 Zai (V:=e176) (L:=nL) (rounds:=20) (depth:=6) g176 Zam (fun x=>by kernel_rfl)
def e220:Env:=env1 [(38,s38),(128,s128),(238,s238)]
theorem g220:Zaj e220:=Zan mix1 ent1 (Zab ok38 rfl (Zab Zpk rfl (Zab Zvv rfl Zag)))
def s220:Spec:=Zas (Zaa (Zaq Zau) (Zac (Zad .i64))) (Zav (Zaq Zau)) ZgY
theorem ZGz:Zar Tryz.prog 220 s220 :=
 Zai (V:=e220) (L:=nL) (rounds:=20) (depth:=6) g220 Zam (fun x=>by kernel_rfl)
def e247:Env:=env1 []
theorem g247:Zaj e247:=Zan mix1 ent1 Zag
def s247:Spec:=Zas (Zac (Zaq Zbo)) (Zbp (Zaa (Zad .i64) (Zac (Zaq Zbo)))) ZmY
theorem ZGv:Zar Tryz.prog 247 s247 :=
 Zai (V:=e247) (L:=nL) (rounds:=20) (depth:=6) g247 Zam (fun x=>by kernel_rfl)
def e241:Env:=env1 [(247,s247)]
theorem g241:Zaj e241:=Zan mix1 ent1 (Zab ZGv rfl Zag)
def s241:Spec:=Zas (Zaa (Zaq Zbo) (Zac (Zad .i64))) (Zbp (Zaa (Zad .i64) (Zac (Zaq Zbo)))) Zk2
theorem ZGc:Zar Tryz.prog 241 s241 :=
 Zai (V:=e241) (L:=nL) (rounds:=20) (depth:=6) g241 Zam (fun x=>by kernel_rfl)
def e242:Env:=env1 [(128,s128),(197,s197)]
theorem g242:Zaj e242:=Zan mix1 ent1 (Zab Zpk rfl (Zab ZpO rfl Zag))
def s242:Spec:=Zas (Zaa (Zaq ZaD) (Zaa (Zad .i64) (Zac (Zad .i64)))) (Zbp (Zaa (Zaq ZaD) (Zaa (Zad .i64) (Zac (Zad .i64))))) Zml
theorem ZFB:Zar Tryz.prog 242 s242 :=
 Zai (V:=e242) (L:=nL) (rounds:=20) (depth:=6) g242 Zam (fun x=>by kernel_rfl)
def e243:Env:=env1 [(36,s36),(74,s74)]
theorem g243:Zaj e243:=Zan mix1 ent1 (Zab ok36 rfl (Zab ok74 rfl Zag))
def s243:Spec:=Zas (Zaa (Zaq celConfig) (Zaa (Zad .i64) (Zaa (Zad .i64) (Zac (Zad .i64))))) (Zav (Zad .i64)) Znn
theorem ZGE:Zar Tryz.prog 243 s243 :=
 Zai (V:=e243) (L:=nL) (rounds:=20) (depth:=6) g243 Zam (fun x=>by kernel_rfl)
def e221:Env:=env1 [(241,s241),(242,s242),(243,s243)]
theorem g221:Zaj e221:=Zan mix1 ent1 (Zab ZGc rfl (Zab ZFB rfl (Zab ZGE rfl Zag)))
def s221:Spec:=Zas (Zac (Zaq Zau)) (Zav (Zaq Zau)) Znm
theorem ZFY:Zar Tryz.prog 221 s221 :=
 Zai (V:=e221) (L:=nL) (rounds:=20) (depth:=6) g221 Zam (fun x=>by kernel_rfl)
def e222:Env:=env1 [(38,s38),(205,s205),(238,s238)]
theorem g222:Zaj e222:=Zan mix1 ent1 (Zab ok38 rfl (Zab Zvs rfl (Zab Zvv rfl Zag)))
def s222:Spec:=Zas (Zaa (Zaq Zau) (Zaa (Zad .i64) (Zaa (Zad .i64) (Zac (Zad .i64))))) (Zav (Zaq Zau)) ZeH
theorem ZGp:Zar Tryz.prog 222 s222 :=
 Zai (V:=e222) (L:=nL) (rounds:=20) (depth:=6) g222 Zam (fun x=>by kernel_rfl)
def e223:Env:=env1 [(38,s38),(197,s197),(208,s208),(238,s238)]
theorem g223:Zaj e223:=Zan mix1 ent1 (Zab ok38 rfl (Zab ZpO rfl (Zab ZyT rfl (Zab Zvv rfl Zag))))
def s223:Spec:=Zas (Zac (Zaq Zau)) (Zav (Zaq Zau)) Zmd
theorem ZFy:Zar Tryz.prog 223 s223 :=
 Zai (V:=e223) (L:=nL) (rounds:=20) (depth:=6) g223 Zam (fun x=>by kernel_rfl)
def e224:Env:=env1 []
theorem g224:Zaj e224:=Zan mix1 ent1 Zag
def s224:Spec:=Zas (Zac (Zad .i64)) (Zav (Zad .i64)) Zmc
theorem ZFq:Zar Tryz.prog 224 s224 :=
 Zai (V:=e224) (L:=nL) (rounds:=20) (depth:=6) g224 Zam (fun x=>by kernel_rfl)
def e177:Env:=env1 [(204,s204),(216,s216),(217,s217),(218,s218),(220,s220),(221,s221),(222,s222),(223,s223),(224,s224)]
theorem g177:Zaj e177:=Zan mix1 ent1 (Zab ZCR rfl (Zab ZC8 rfl (Zab ZC0 rfl (Zab ZDt rfl (Zab ZGz rfl (Zab ZFY rfl (Zab ZGp rfl (Zab ZFy rfl (Zab ZFq rfl Zag)))))))))
def s177:Spec:=Zas (Zac (Zaq Zau)) (Zbp (Zaa (Zaq Zau) (Zac (ZaF)))) ZcS
theorem ZGm:Zar Tryz.prog 177 s177 :=
 Zai (V:=e177) (L:=nL) (rounds:=20) (depth:=6) g177 Zam (fun x=>by kernel_rfl)
def e135:Env:=env1 [(38,s38),(128,s128),(172,s172),(173,s173),(174,s174),(175,s175),(176,s176),(177,s177)]
theorem g135:Zaj e135:=Zan mix1 ent1 (Zab ok38 rfl (Zab Zpk rfl (Zab ZF4 rfl (Zab ZFL rfl (Zab ZGL rfl (Zab ZFZ rfl (Zab ZGl rfl (Zab ZGm rfl Zag))))))))
def s135:Spec:=Zas (Zac (Zaq Zau)) (Zav (Zaq Zau)) Zl7
theorem ZGi:Zar Tryz.prog 135 s135 :=
 Zai (V:=e135) (L:=nL) (rounds:=20) (depth:=6) g135 Zam (fun x=>by kernel_rfl)
def e93:Env:=env1 [(24,s24),(90,s90),(91,s91),(135,s135)]
theorem g93:Zaj e93:=Zan mix1 ent1 (Zab ok24 rfl (Zab ok90 rfl (Zab ok91 rfl (Zab ZGi rfl Zag))))
def ZDa:LSpec:=ZbY [1,2,4,5,6,7] (Zaa (Zad .i64) (Zaa (Zak ZaO) (Zaa (Zak ZaO) (Zaa (Zak Zau) (Zaa (ZaN 162 .mark) (Zac (Zad .i64))))))) (⟨.exit 0,[1,2,4,5,6],(Zaa (Zad .i64) (Zaa (Zak ZaO) (Zaa (Zak ZaO) (Zaa (Zak Zau) (Zac (ZaN 162 .mark))))))⟩:Way) (Zay Zhe)
theorem ZEp:LoopOK e93 101 ZDa (ZaW e93.P 93 8) :=
 Zbe (L:=ZaB []) (rounds:=20) (depth:=6) (ts:=[1,2,4,5,6,7]) (v:=(Zaa (Zad .i64) (Zaa (Zak ZaO) (Zaa (Zak ZaO) (Zaa (Zak Zau) (Zaa (ZaN 162 .mark) (Zac (Zad .i64)))))))) (a:=⟨.exit 0,[1,2,4,5,6],(Zaa (Zad .i64) (Zaa (Zak ZaO) (Zaa (Zak ZaO) (Zaa (Zak Zau) (Zac (ZaN 162 .mark))))))⟩) (step:=Zhe) g93 rfl ZaE (fun x=>by kernel_rfl)
def s93:Spec:=Zas (Zaa (Zaq ZaO) (Zac (Zad .i64))) (Zav (Zaq ZaO)) Zl2
theorem ok93:Zar Tryz.prog 93 s93 :=
 Zai (V:=e93) (L:=(ZaB [(8,ZDa)])) (rounds:=20) (depth:=6) g93 (ZaZ (nt:=101) (by kernel_rfl) (Zbh (by kernel_rfl)) (Zaz ZEp ZaH)) (fun x=>by kernel_rfl)
def e53:Env:=env1 [(54,s54),(82,s82),(90,s90),(91,s91),(92,s92),(93,s93)]
theorem g53:Zaj e53:=Zan mix1 ent1 (Zab ok54 rfl (Zab ok82 rfl (Zab ok90 rfl (Zab ok91 rfl (Zab ok92 rfl (Zab ok93 rfl Zag))))))
def s53:Spec:=Zas (Zaa (Zaq ZaO) (Zac (Zaq ZnA))) (Zbp (Zaa (Zaq ZaO) (Zac (Zad .i64)))) ZmV
theorem ok53:Zar Tryz.prog 53 s53 :=
 Zai (V:=e53) (L:=nL) (rounds:=20) (depth:=6) g53 Zam (fun x=>by kernel_rfl)
def e77:Env:=env1 [(23,s23),(54,s54)]
theorem g77:Zaj e77:=Zan mix1 ent1 (Zab ok23 rfl (Zab ok54 rfl Zag))
def ZDK:LSpec:=Zds [1,2,7] (Zaa (Zax .sentry) (Zaa (Zak celConfig) (Zac (Zad .i64)))) (⟨.exit 0,[],ZbG⟩:Way) (⟨.ret,[4,5],(Zaa (Zad .i64) (Zac (Zad .i64)))⟩:Way) (Zay ZhL)
theorem ZEt:LoopOK e77 33 ZDK (ZaW e77.P 77 7) :=
 Zcv (L:=ZaB []) (rounds:=20) (depth:=6) (ts:=[1,2,7]) (v:=(Zaa (Zax .sentry) (Zaa (Zak celConfig) (Zac (Zad .i64))))) (a:=⟨.exit 0,[],ZbG⟩) (b:=⟨.ret,[4,5],(Zaa (Zad .i64) (Zac (Zad .i64)))⟩) (step:=ZhL) g77 rfl rfl ZaE (fun x=>by kernel_rfl)
def s77:Spec:=Zas (Zaa (Zaq celConfig) (Zac (Zax .sentry))) (Zbp (Zaa (Zad .i64) (Zac (Zad .i64)))) Zoe
theorem ok77:Zar Tryz.prog 77 s77 :=
 Zai (V:=e77) (L:=(ZaB [(7,ZDK)])) (rounds:=20) (depth:=6) g77 (ZaZ (nt:=33) (by kernel_rfl) (Zbh (by kernel_rfl)) (Zaz ZEt ZaH)) (fun x=>by kernel_rfl)
def e42:Env:=env1 [(51,s51),(53,s53),(77,s77)]
theorem g42:Zaj e42:=Zan mix1 ent1 (Zab ok51 rfl (Zab ok53 rfl (Zab ok77 rfl Zag)))
def ZDy:LSpec:=ZbY [1,6,11,13] (Zaa (Zax .sentry) (Zaa (Zak ZaO) (Zaa (Zak ZaO) (Zac (Zad .i64))))) (⟨.exit 0,[6,11],(Zaa (Zak ZaO) (Zac (Zak ZaO)))⟩:Way) (Zay ZhQ)
theorem ZEy:LoopOK e42 47 ZDy (ZaW e42.P 42 6) :=
 Zbe (L:=ZaB []) (rounds:=20) (depth:=6) (ts:=[1,6,11,13]) (v:=(Zaa (Zax .sentry) (Zaa (Zak ZaO) (Zaa (Zak ZaO) (Zac (Zad .i64)))))) (a:=⟨.exit 0,[6,11],(Zaa (Zak ZaO) (Zac (Zak ZaO)))⟩) (step:=ZhQ) g42 rfl ZaE (fun x=>by kernel_rfl)
def s42:Spec:=Zas (Zaa (Zaq celConfig) (Zaa (Zax .sentry) (Zac (Zax .int)))) (Zbp (Zaa (Zaq ZaO) (Zaa (Zad .i64) (Zac (Zad .i64))))) Zoa
theorem ok42:Zar Tryz.prog 42 s42 :=
 Zai (V:=e42) (L:=(ZaB [(6,ZDy)])) (rounds:=20) (depth:=6) g42 (ZaZ (nt:=47) (by kernel_rfl) (Zbh (by kernel_rfl)) (Zaz ZEy ZaH)) (fun x=>by kernel_rfl)
def e43:Env:=env1 []
theorem g43:Zaj e43:=Zan mix1 ent1 Zag
def ZDp:LSpec:=ZbY [0,3,4] (Zaa (Zax .sentry) (Zaa (ZaN 112 .sentry) (Zac (Zad .i64)))) (⟨.exit 0,[3],(Zac (ZaN 112 .sentry))⟩:Way) (Zay ZeY)
theorem ZD9:LoopOK e43 37 ZDp (ZaW e43.P 43 3) :=
 Zbe (L:=ZaB []) (rounds:=20) (depth:=6) (ts:=[0,3,4]) (v:=(Zaa (Zax .sentry) (Zaa (ZaN 112 .sentry) (Zac (Zad .i64))))) (a:=⟨.exit 0,[3],(Zac (ZaN 112 .sentry))⟩) (step:=ZeY) g43 rfl ZaE (fun x=>by kernel_rfl)
def s43:Spec:=Zas (Zac (Zax .sentry)) (Zav (Zax .sentry)) ZkV
theorem ok43:Zar Tryz.prog 43 s43 :=
 Zai (V:=e43) (L:=(ZaB [(3,ZDp)])) (rounds:=20) (depth:=6) g43 (ZaZ (nt:=37) (by kernel_rfl) (Zbh (by kernel_rfl)) (Zaz ZD9 ZaH)) (fun x=>by kernel_rfl)
def e78:Env:=env1 []
theorem g78:Zaj e78:=Zan mix1 ent1 Zag
def ZCN:LSpec:=Zds [0,1,5] (Zaa (Zax .event) (Zaa (Zax .event) (Zac (Zad .i64)))) (⟨.exit 0,[],ZbG⟩:Way) (⟨.ret,[4],(Zac (ZaF))⟩:Way) (Zay Zeq)
theorem ZEi:LoopOK e78 26 ZCN (ZaW e78.P 78 4) :=
 Zcv (L:=ZaB []) (rounds:=20) (depth:=6) (ts:=[0,1,5]) (v:=(Zaa (Zax .event) (Zaa (Zax .event) (Zac (Zad .i64))))) (a:=⟨.exit 0,[],ZbG⟩) (b:=⟨.ret,[4],(Zac (ZaF))⟩) (step:=Zeq) g78 rfl rfl ZaE (fun x=>by kernel_rfl)
def s78:Spec:=Zas (Zaa (Zax .event) (Zac (Zax .event))) (Zav (ZaF)) Zki
theorem ok78:Zar Tryz.prog 78 s78 :=
 Zai (V:=e78) (L:=(ZaB [(4,ZCN)])) (rounds:=20) (depth:=6) g78 (ZaZ (nt:=26) (by kernel_rfl) (Zbh (by kernel_rfl)) (Zaz ZEi ZaH)) (fun x=>by kernel_rfl)
def e44:Env:=env1 [(56,s56),(57,s57),(58,s58),(59,s59),(78,s78)]
theorem g44:Zaj e44:=Zan mix1 ent1 (Zab ok56 rfl (Zab ok57 rfl (Zab ok58 rfl (Zab ok59 rfl (Zab ok78 rfl Zag)))))
def ZCO:LSpec:=Zds [2,3,5] (Zaa (Zak ZaO) (Zaa (Zak ZaO) (Zac (Zad .i64)))) (⟨.exit 0,[],ZbG⟩:Way) (⟨.ret,[4],(Zac (ZaF))⟩:Way) (Zay Zfq)
theorem ZEu:LoopOK e44 85 ZCO (ZaW e44.P 44 4) :=
 Zcv (L:=ZaB []) (rounds:=20) (depth:=6) (ts:=[2,3,5]) (v:=(Zaa (Zak ZaO) (Zaa (Zak ZaO) (Zac (Zad .i64))))) (a:=⟨.exit 0,[],ZbG⟩) (b:=⟨.ret,[4],(Zac (ZaF))⟩) (step:=Zfq) g44 rfl rfl ZaE (fun x=>by kernel_rfl)
def s44:Spec:=Zas (Zaa (Zaq ZaO) (Zac (Zaq ZaO))) (Zav (ZaF)) Zit
theorem ok44:Zar Tryz.prog 44 s44 :=
 Zai (V:=e44) (L:=(ZaB [(4,ZCO)])) (rounds:=20) (depth:=6) g44 (ZaZ (nt:=85) (by kernel_rfl) (Zbh (by kernel_rfl)) (Zaz ZEu ZaH)) (fun x=>by kernel_rfl)
def e125:Env:=env1 []
theorem g125:Zaj e125:=Zan mix1 ent1 Zag
def ZBo:LSpec:=ZbY [0,3,4] (Zaa (Zax .entry) (Zaa (ZaN 137 .entry) (Zac (Zad .i64)))) (⟨.exit 0,[3],(Zac (ZaN 137 .entry))⟩:Way) (Zay Zd5)
theorem ZB2:LoopOK e125 27 ZBo (ZaW e125.P 125 3) :=
 Zbe (L:=ZaB []) (rounds:=20) (depth:=6) (ts:=[0,3,4]) (v:=(Zaa (Zax .entry) (Zaa (ZaN 137 .entry) (Zac (Zad .i64))))) (a:=⟨.exit 0,[3],(Zac (ZaN 137 .entry))⟩) (step:=Zd5) g125 rfl ZaE (fun x=>by kernel_rfl)
def s125:Spec:=Zas (Zac (Zax .entry)) (Zav (ZaN 137 .entry)) Ze9
theorem ZCS:Zar Tryz.prog 125 s125 :=
 Zai (V:=e125) (L:=(ZaB [(3,ZBo)])) (rounds:=20) (depth:=6) g125 (ZaZ (nt:=27) (by kernel_rfl) (Zbh (by kernel_rfl)) (Zaz ZB2 ZaH)) (fun x=>by kernel_rfl)
def e79:Env:=env1 [(125,s125)]
theorem g79:Zaj e79:=Zan mix1 ent1 (Zab ZCS rfl Zag)
def ZDM:LSpec:=ZbY [1,2,3,4] (Zaa (Zak ZaD) (Zaa (Zak ZaD) (Zaa (Zak (Zbc (Zae (Zbb .int) (ZaL 47 (.lst .entry))) Memo (fun y=>⟨y.1,y.2⟩) (fun x=>(x.words,x.boxes)) (fun _=>rfl))) (Zac (Zad .i64))))) (⟨.exit 0,[2,3],(Zaa (Zak ZaD) (Zac (Zak (Zbc (Zae (Zbb .int) (ZaL 47 (.lst .entry))) Memo (fun y=>⟨y.1,y.2⟩) (fun x=>(x.words,x.boxes)) (fun _=>rfl)))))⟩:Way) (Zay Zep)
theorem ZEf:LoopOK e79 27 ZDM (ZaW e79.P 79 3) :=
 Zbe (L:=ZaB []) (rounds:=20) (depth:=6) (ts:=[1,2,3,4]) (v:=(Zaa (Zak ZaD) (Zaa (Zak ZaD) (Zaa (Zak (Zbc (Zae (Zbb .int) (ZaL 47 (.lst .entry))) Memo (fun y=>⟨y.1,y.2⟩) (fun x=>(x.words,x.boxes)) (fun _=>rfl))) (Zac (Zad .i64)))))) (a:=⟨.exit 0,[2,3],(Zaa (Zak ZaD) (Zac (Zak (Zbc (Zae (Zbb .int) (ZaL 47 (.lst .entry))) Memo (fun y=>⟨y.1,y.2⟩) (fun x=>(x.words,x.boxes)) (fun _=>rfl)))))⟩) (step:=Zep) g79 rfl ZaE (fun x=>by kernel_rfl)
def s79:Spec:=Zas (Zac (Zaq ZaD)) (Zav (Zaq ZaD)) Zj9
theorem ok79:Zar Tryz.prog 79 s79 :=
 Zai (V:=e79) (L:=(ZaB [(3,ZDM)])) (rounds:=20) (depth:=6) g79 (ZaZ (nt:=27) (by kernel_rfl) (Zbh (by kernel_rfl)) (Zaz ZEf ZaH)) (fun x=>by kernel_rfl)
def e80:Env:=env1 []
theorem g80:Zaj e80:=Zan mix1 ent1 Zag
def ZDd:LSpec:=ZbY [0,3,4] (Zaa (Zax .mark) (Zaa (ZaN 162 .mark) (Zac (Zad .i64)))) (⟨.exit 0,[3],(Zac (ZaN 162 .mark))⟩:Way) (Zay Ze8)
theorem ZEN:LoopOK e80 42 ZDd (ZaW e80.P 80 3) :=
 Zbe (L:=ZaB []) (rounds:=20) (depth:=6) (ts:=[0,3,4]) (v:=(Zaa (Zax .mark) (Zaa (ZaN 162 .mark) (Zac (Zad .i64))))) (a:=⟨.exit 0,[3],(Zac (ZaN 162 .mark))⟩) (step:=Ze8) g80 rfl ZaE (fun x=>by kernel_rfl)
def s80:Spec:=Zas (Zac (Zax .mark)) (Zav (Zax .mark)) ZkJ
theorem ok80:Zar Tryz.prog 80 s80 :=
 Zai (V:=e80) (L:=(ZaB [(3,ZDd)])) (rounds:=20) (depth:=6) g80 (ZaZ (nt:=42) (by kernel_rfl) (Zbh (by kernel_rfl)) (Zaz ZEN ZaH)) (fun x=>by kernel_rfl)
def e81:Env:=env1 [(125,s125)]
theorem g81:Zaj e81:=Zan mix1 ent1 (Zab ZCS rfl Zag)
def ZDB:LSpec:=ZbY [1,2,3,4] (Zaa (Zak Za8) (Zaa (Zak Za8) (Zaa (Zak (Zbc (Zae (Zao .i64) (Zae (Zao .i64) (Zae Zea (Zae (Zbb .entry) (Zae (ZaL 160 .kid) (Zae (Zbb .int) (Zae (Zao .i64) (Zae (Zao .i64) (Zae (Zao .i64) (Zae (Zao .i64) (Zae (Zao .i64) (Zae (Zao .i64) (Zae (Zao .i64) (Zae (Zao .i64) (Zae (Zao .i64) (Zao .i64)))))))))))))))) Thread (fun y=>⟨y.1,y.2.1,y.2.2.1,y.2.2.2.1,y.2.2.2.2.1,y.2.2.2.2.2.1,y.2.2.2.2.2.2.1,y.2.2.2.2.2.2.2.1,y.2.2.2.2.2.2.2.2.1,y.2.2.2.2.2.2.2.2.2.1,y.2.2.2.2.2.2.2.2.2.2.1,y.2.2.2.2.2.2.2.2.2.2.2.1,y.2.2.2.2.2.2.2.2.2.2.2.2.1,y.2.2.2.2.2.2.2.2.2.2.2.2.2.1,y.2.2.2.2.2.2.2.2.2.2.2.2.2.2.1,y.2.2.2.2.2.2.2.2.2.2.2.2.2.2.2⟩) (fun x=>(x.phase,(x.item,(x.op,(x.batch,(x.kids,(x.held,(x.stop,(x.node,(x.at_,(x.layer,(x.left,(x.width,(x.who,(x.x,(x.y,x.until_)))))))))))))))) (fun _=>rfl))) (Zac (Zad .i64))))) (⟨.exit 0,[2,3],(Zaa (Zak Za8) (Zac (Zak (Zbc (Zae (Zao .i64) (Zae (Zao .i64) (Zae Zea (Zae (Zbb .entry) (Zae (ZaL 160 .kid) (Zae (Zbb .int) (Zae (Zao .i64) (Zae (Zao .i64) (Zae (Zao .i64) (Zae (Zao .i64) (Zae (Zao .i64) (Zae (Zao .i64) (Zae (Zao .i64) (Zae (Zao .i64) (Zae (Zao .i64) (Zao .i64)))))))))))))))) Thread (fun y=>⟨y.1,y.2.1,y.2.2.1,y.2.2.2.1,y.2.2.2.2.1,y.2.2.2.2.2.1,y.2.2.2.2.2.2.1,y.2.2.2.2.2.2.2.1,y.2.2.2.2.2.2.2.2.1,y.2.2.2.2.2.2.2.2.2.1,y.2.2.2.2.2.2.2.2.2.2.1,y.2.2.2.2.2.2.2.2.2.2.2.1,y.2.2.2.2.2.2.2.2.2.2.2.2.1,y.2.2.2.2.2.2.2.2.2.2.2.2.2.1,y.2.2.2.2.2.2.2.2.2.2.2.2.2.2.1,y.2.2.2.2.2.2.2.2.2.2.2.2.2.2.2⟩) (fun x=>(x.phase,(x.item,(x.op,(x.batch,(x.kids,(x.held,(x.stop,(x.node,(x.at_,(x.layer,(x.left,(x.width,(x.who,(x.x,(x.y,x.until_)))))))))))))))) (fun _=>rfl)))))⟩:Way) (Zay Zfa)
theorem ZEk:LoopOK e81 55 ZDB (ZaW e81.P 81 3) :=
 Zbe (L:=ZaB []) (rounds:=20) (depth:=6) (ts:=[1,2,3,4]) (v:=(Zaa (Zak Za8) (Zaa (Zak Za8) (Zaa (Zak (Zbc (Zae (Zao .i64) (Zae (Zao .i64) (Zae Zea (Zae (Zbb .entry) (Zae (ZaL 160 .kid) (Zae (Zbb .int) (Zae (Zao .i64) (Zae (Zao .i64) (Zae (Zao .i64) (Zae (Zao .i64) (Zae (Zao .i64) (Zae (Zao .i64) (Zae (Zao .i64) (Zae (Zao .i64) (Zae (Zao .i64) (Zao .i64)))))))))))))))) Thread (fun y=>⟨y.1,y.2.1,y.2.2.1,y.2.2.2.1,y.2.2.2.2.1,y.2.2.2.2.2.1,y.2.2.2.2.2.2.1,y.2.2.2.2.2.2.2.1,y.2.2.2.2.2.2.2.2.1,y.2.2.2.2.2.2.2.2.2.1,y.2.2.2.2.2.2.2.2.2.2.1,y.2.2.2.2.2.2.2.2.2.2.2.1,y.2.2.2.2.2.2.2.2.2.2.2.2.1,y.2.2.2.2.2.2.2.2.2.2.2.2.2.1,y.2.2.2.2.2.2.2.2.2.2.2.2.2.2.1,y.2.2.2.2.2.2.2.2.2.2.2.2.2.2.2⟩) (fun x=>(x.phase,(x.item,(x.op,(x.batch,(x.kids,(x.held,(x.stop,(x.node,(x.at_,(x.layer,(x.left,(x.width,(x.who,(x.x,(x.y,x.until_)))))))))))))))) (fun _=>rfl))) (Zac (Zad .i64)))))) (a:=⟨.exit 0,[2,3],(Zaa (Zak Za8) (Zac (Zak (Zbc (Zae (Zao .i64) (Zae (Zao .i64) (Zae Zea (Zae (Zbb .entry) (Zae (ZaL 160 .kid) (Zae (Zbb .int) (Zae (Zao .i64) (Zae (Zao .i64) (Zae (Zao .i64) (Zae (Zao .i64) (Zae (Zao .i64) (Zae (Zao .i64) (Zae (Zao .i64) (Zae (Zao .i64) (Zae (Zao .i64) (Zao .i64)))))))))))))))) Thread (fun y=>⟨y.1,y.2.1,y.2.2.1,y.2.2.2.1,y.2.2.2.2.1,y.2.2.2.2.2.1,y.2.2.2.2.2.2.1,y.2.2.2.2.2.2.2.1,y.2.2.2.2.2.2.2.2.1,y.2.2.2.2.2.2.2.2.2.1,y.2.2.2.2.2.2.2.2.2.2.1,y.2.2.2.2.2.2.2.2.2.2.2.1,y.2.2.2.2.2.2.2.2.2.2.2.2.1,y.2.2.2.2.2.2.2.2.2.2.2.2.2.1,y.2.2.2.2.2.2.2.2.2.2.2.2.2.2.1,y.2.2.2.2.2.2.2.2.2.2.2.2.2.2.2⟩) (fun x=>(x.phase,(x.item,(x.op,(x.batch,(x.kids,(x.held,(x.stop,(x.node,(x.at_,(x.layer,(x.left,(x.width,(x.who,(x.x,(x.y,x.until_)))))))))))))))) (fun _=>rfl)))))⟩) (step:=Zfa) g81 rfl ZaE (fun x=>by kernel_rfl)
def s81:Spec:=Zas (Zac (Zaq Za8)) (Zav (Zaq Za8)) Zld
theorem ok81:Zar Tryz.prog 81 s81 :=
 Zai (V:=e81) (L:=(ZaB [(3,ZDB)])) (rounds:=20) (depth:=6) g81 (ZaZ (nt:=55) (by kernel_rfl) (Zbh (by kernel_rfl)) (Zaz ZEk ZaH)) (fun x=>by kernel_rfl)
def e45:Env:=env1 [(79,s79),(80,s80),(81,s81)]
theorem g45:Zaj e45:=Zan mix1 ent1 (Zab ok79 rfl (Zab ok80 rfl (Zab ok81 rfl Zag)))
def ZC7:LSpec:=ZbY [1,2,3,5] (Zaa (Zak ZaO) (Zaa (Zak ZaO) (Zaa (Zak (Zbc (Zae celConfig (Zae ZaD (Zae (ZaL 50 .thread) (Zae (Zao .i64) (Zae (Zao .i64) (Zae Zbo (Zae (Zbb .mark) (ZaL 144 .event)))))))) Wld (fun y=>⟨y.1,y.2.1,y.2.2.1,y.2.2.2.1,y.2.2.2.2.1,y.2.2.2.2.2.1,y.2.2.2.2.2.2.1,y.2.2.2.2.2.2.2⟩) (fun x=>(x.c,(x.m,(x.t,(x.now,(x.steps,(x.tape,(x.log,x.hist)))))))) (fun _=>rfl))) (Zac (Zad .i64))))) (⟨.exit 2,[2,3],(Zaa (Zak ZaO) (Zac (Zak (Zbc (Zae celConfig (Zae ZaD (Zae (ZaL 50 .thread) (Zae (Zao .i64) (Zae (Zao .i64) (Zae Zbo (Zae (Zbb .mark) (ZaL 144 .event)))))))) Wld (fun y=>⟨y.1,y.2.1,y.2.2.1,y.2.2.2.1,y.2.2.2.2.1,y.2.2.2.2.2.1,y.2.2.2.2.2.2.1,y.2.2.2.2.2.2.2⟩) (fun x=>(x.c,(x.m,(x.t,(x.now,(x.steps,(x.tape,(x.log,x.hist)))))))) (fun _=>rfl)))))⟩:Way) (Zay Zer)
theorem ZEx:LoopOK e45 78 ZC7 (ZaW e45.P 45 7) :=
 Zbe (L:=ZaB []) (rounds:=20) (depth:=6) (ts:=[1,2,3,5]) (v:=(Zaa (Zak ZaO) (Zaa (Zak ZaO) (Zaa (Zak (Zbc (Zae celConfig (Zae ZaD (Zae (ZaL 50 .thread) (Zae (Zao .i64) (Zae (Zao .i64) (Zae Zbo (Zae (Zbb .mark) (ZaL 144 .event)))))))) Wld (fun y=>⟨y.1,y.2.1,y.2.2.1,y.2.2.2.1,y.2.2.2.2.1,y.2.2.2.2.2.1,y.2.2.2.2.2.2.1,y.2.2.2.2.2.2.2⟩) (fun x=>(x.c,(x.m,(x.t,(x.now,(x.steps,(x.tape,(x.log,x.hist)))))))) (fun _=>rfl))) (Zac (Zad .i64)))))) (a:=⟨.exit 2,[2,3],(Zaa (Zak ZaO) (Zac (Zak (Zbc (Zae celConfig (Zae ZaD (Zae (ZaL 50 .thread) (Zae (Zao .i64) (Zae (Zao .i64) (Zae Zbo (Zae (Zbb .mark) (ZaL 144 .event)))))))) Wld (fun y=>⟨y.1,y.2.1,y.2.2.1,y.2.2.2.1,y.2.2.2.2.1,y.2.2.2.2.2.1,y.2.2.2.2.2.2.1,y.2.2.2.2.2.2.2⟩) (fun x=>(x.c,(x.m,(x.t,(x.now,(x.steps,(x.tape,(x.log,x.hist)))))))) (fun _=>rfl)))))⟩) (step:=Zer) g45 rfl ZaE (fun x=>by kernel_rfl)
def ZDD:LSpec:=ZbY [1,2,3,4] (Zaa (Zak ZaO) (Zaa (Zak ZaO) (Zaa (Zak (Zbc (Zae celConfig (Zae ZaD (Zae (ZaL 50 .thread) (Zae (Zao .i64) (Zae (Zao .i64) (Zae Zbo (Zae (Zbb .mark) (ZaL 144 .event)))))))) Wld (fun y=>⟨y.1,y.2.1,y.2.2.1,y.2.2.2.1,y.2.2.2.2.1,y.2.2.2.2.2.1,y.2.2.2.2.2.2.1,y.2.2.2.2.2.2.2⟩) (fun x=>(x.c,(x.m,(x.t,(x.now,(x.steps,(x.tape,(x.log,x.hist)))))))) (fun _=>rfl))) (Zac (Zad .i64))))) (⟨.exit 0,[1,2,3],(Zaa (Zak ZaO) (Zaa (Zak ZaO) (Zac (Zak (Zbc (Zae celConfig (Zae ZaD (Zae (ZaL 50 .thread) (Zae (Zao .i64) (Zae (Zao .i64) (Zae Zbo (Zae (Zbb .mark) (ZaL 144 .event)))))))) Wld (fun y=>⟨y.1,y.2.1,y.2.2.1,y.2.2.2.1,y.2.2.2.2.1,y.2.2.2.2.2.1,y.2.2.2.2.2.2.1,y.2.2.2.2.2.2.2⟩) (fun x=>(x.c,(x.m,(x.t,(x.now,(x.steps,(x.tape,(x.log,x.hist)))))))) (fun _=>rfl))))))⟩:Way) (Zay Zem)
theorem ZEJ:LoopOK e45 78 ZDD (ZaW e45.P 45 3) :=
 Zbe (L:=ZaB []) (rounds:=20) (depth:=6) (ts:=[1,2,3,4]) (v:=(Zaa (Zak ZaO) (Zaa (Zak ZaO) (Zaa (Zak (Zbc (Zae celConfig (Zae ZaD (Zae (ZaL 50 .thread) (Zae (Zao .i64) (Zae (Zao .i64) (Zae Zbo (Zae (Zbb .mark) (ZaL 144 .event)))))))) Wld (fun y=>⟨y.1,y.2.1,y.2.2.1,y.2.2.2.1,y.2.2.2.2.1,y.2.2.2.2.2.1,y.2.2.2.2.2.2.1,y.2.2.2.2.2.2.2⟩) (fun x=>(x.c,(x.m,(x.t,(x.now,(x.steps,(x.tape,(x.log,x.hist)))))))) (fun _=>rfl))) (Zac (Zad .i64)))))) (a:=⟨.exit 0,[1,2,3],(Zaa (Zak ZaO) (Zaa (Zak ZaO) (Zac (Zak (Zbc (Zae celConfig (Zae ZaD (Zae (ZaL 50 .thread) (Zae (Zao .i64) (Zae (Zao .i64) (Zae Zbo (Zae (Zbb .mark) (ZaL 144 .event)))))))) Wld (fun y=>⟨y.1,y.2.1,y.2.2.1,y.2.2.2.1,y.2.2.2.2.1,y.2.2.2.2.2.1,y.2.2.2.2.2.2.1,y.2.2.2.2.2.2.2⟩) (fun x=>(x.c,(x.m,(x.t,(x.now,(x.steps,(x.tape,(x.log,x.hist)))))))) (fun _=>rfl))))))⟩) (step:=Zem) g45 rfl ZaE (fun x=>by kernel_rfl)
def s45:Spec:=Zas (Zac (Zaq ZaO)) (Zav (Zaq ZaO)) Zg7
theorem ok45:Zar Tryz.prog 45 s45 :=
 Zai (V:=e45) (L:=(ZaB [(7,ZC7),(3,ZDD)])) (rounds:=20) (depth:=6) g45 (ZaZ (nt:=78) (by kernel_rfl) (Zbh (by kernel_rfl)) (Zaz ZEx (Zaz ZEJ ZaH))) (fun x=>by kernel_rfl)
def e46:Env:=env1 [(33,s33)]
theorem g46:Zaj e46:=Zan mix1 ent1 (Zab ok33 rfl Zag)
def ZDx:LSpec:=ZbY [2,6,7,8] (Zaa (Zad .i64) (Zaa (Zax .thread) (Zaa (Zad .i64) (Zac (Zad .i64))))) (⟨.exit 0,[2],(Zac (Zad .i64))⟩:Way) (Zay Zg9)
theorem ZEC:LoopOK e46 18 ZDx (ZaW e46.P 46 2) :=
 Zbe (L:=ZaB []) (rounds:=20) (depth:=6) (ts:=[2,6,7,8]) (v:=(Zaa (Zad .i64) (Zaa (Zax .thread) (Zaa (Zad .i64) (Zac (Zad .i64)))))) (a:=⟨.exit 0,[2],(Zac (Zad .i64))⟩) (step:=Zg9) g46 rfl ZaE (fun x=>by kernel_rfl)
def s46:Spec:=Zas (Zac (Zaq ZaO)) (Zav (Zad .i64)) Zgy
theorem ok46:Zar Tryz.prog 46 s46 :=
 Zai (V:=e46) (L:=(ZaB [(2,ZDx)])) (rounds:=20) (depth:=6) g46 (ZaZ (nt:=18) (by kernel_rfl) (Zbh (by kernel_rfl)) (Zaz ZEC ZaH)) (fun x=>by kernel_rfl)
def e47:Env:=env1 [(82,s82)]
theorem g47:Zaj e47:=Zan mix1 ent1 (Zab ok82 rfl Zag)
def ZDr:LSpec:=ZbY [1,3,4] (Zaa (Zak ZaO) (Zaa (Zad .i64) (Zac (Zad .i64)))) (⟨.exit 0,[3],(Zac (Zad .i64))⟩:Way) (Zay Zj1)
theorem ZEW:LoopOK e47 21 ZDr (ZaW e47.P 47 3) :=
 Zbe (L:=ZaB []) (rounds:=20) (depth:=6) (ts:=[1,3,4]) (v:=(Zaa (Zak ZaO) (Zaa (Zad .i64) (Zac (Zad .i64))))) (a:=⟨.exit 0,[3],(Zac (Zad .i64))⟩) (step:=Zj1) g47 rfl ZaE (fun x=>by kernel_rfl)
def s47:Spec:=Zas (Zac (Zaq ZaO)) (Zav (Zad .i64)) ZiW
theorem ok47:Zar Tryz.prog 47 s47 :=
 Zai (V:=e47) (L:=(ZaB [(3,ZDr)])) (rounds:=20) (depth:=6) g47 (ZaZ (nt:=21) (by kernel_rfl) (Zbh (by kernel_rfl)) (Zaz ZEW ZaH)) (fun x=>by kernel_rfl)
def e48:Env:=env1 [(24,s24),(34,s34),(35,s35)]
theorem g48:Zaj e48:=Zan mix1 ent1 (Zab ok24 rfl (Zab ok34 rfl (Zab ok35 rfl Zag)))
def ZyQ:LSpec:=Zds [2,3,5,6,7,8] (Zaa (Zak celConfig) (Zaa (Zak ZaO) (Zaa (Zak celConfig) (Zaa (Zad .i64) (Zaa (Zad .i64) (Zac (Zad .i64))))))) (⟨.exit 2,[2,3,5,6,7],(Zaa (Zak celConfig) (Zaa (Zak ZaO) (Zaa (Zak celConfig) (Zaa (Zad .i64) (Zac (Zad .i64))))))⟩:Way) (⟨.ret,[4],(Zac (ZaF))⟩:Way) (Zay ZiA)
theorem ZxR:LoopOK e48 103 ZyQ (ZaW e48.P 48 9) :=
 Zcv (L:=ZaB []) (rounds:=20) (depth:=6) (ts:=[2,3,5,6,7,8]) (v:=(Zaa (Zak celConfig) (Zaa (Zak ZaO) (Zaa (Zak celConfig) (Zaa (Zad .i64) (Zaa (Zad .i64) (Zac (Zad .i64)))))))) (a:=⟨.exit 2,[2,3,5,6,7],(Zaa (Zak celConfig) (Zaa (Zak ZaO) (Zaa (Zak celConfig) (Zaa (Zad .i64) (Zac (Zad .i64))))))⟩) (b:=⟨.ret,[4],(Zac (ZaF))⟩) (step:=ZiA) g48 rfl rfl ZaE (fun x=>by kernel_rfl)
def ZDl:LSpec:=Zds [2,3,5,6] (Zaa (Zak celConfig) (Zaa (Zak ZaO) (Zaa (Zak celConfig) (Zac (Zad .i64))))) (⟨.exit 0,[],ZbG⟩:Way) (⟨.ret,[4],(Zac (ZaF))⟩:Way) (Zay Ziv)
theorem ZEw:LoopOK e48 103 ZDl (ZaW e48.P 48 5) :=
 Zcv (L:=ZaB [(9,ZyQ)]) (rounds:=20) (depth:=6) (ts:=[2,3,5,6]) (v:=(Zaa (Zak celConfig) (Zaa (Zak ZaO) (Zaa (Zak celConfig) (Zac (Zad .i64)))))) (a:=⟨.exit 0,[],ZbG⟩) (b:=⟨.ret,[4],(Zac (ZaF))⟩) (step:=Ziv) g48 rfl rfl (Zsj (by kernel_rfl) (Zaz ZxR ZaH)) (fun x=>by kernel_rfl)
def s48:Spec:=Zas (Zaa (Zaq celConfig) (Zac (Zaq ZaO))) (Zav (ZaF)) Zve
theorem ok48:Zar Tryz.prog 48 s48 :=
 Zai (V:=e48) (L:=(ZaB [(9,ZyQ),(5,ZDl)])) (rounds:=20) (depth:=6) g48 (ZaZ (nt:=103) (by kernel_rfl) (Zbh (by kernel_rfl)) (Zaz ZxR (Zaz ZEw ZaH))) (fun x=>by kernel_rfl)
def e49:Env:=env1 [(24,s24)]
theorem g49:Zaj e49:=Zan mix1 ent1 (Zab ok24 rfl Zag)
def ZwQ:LSpec:=Zds [2,3,5,6,8,9,10,11] (Zaa (Zak celConfig) (Zaa (Zak ZaO) (Zaa (Zad .i64) (Zaa (ZaN 74 .mark) (Zaa (Zad .i64) (Zaa (ZaF) (Zaa (Zak ZmD) (Zac (Zad .i64))))))))) (⟨.exit 4,[2,3,5,6,8,9,10],(Zaa (Zak celConfig) (Zaa (Zak ZaO) (Zaa (Zad .i64) (Zaa (ZaN 74 .mark) (Zaa (Zad .i64) (Zaa (ZaF) (Zac (Zak ZmD))))))))⟩:Way) (⟨.ret,[4],(Zac (ZaF))⟩:Way) (Zay ZgI)
theorem Zwp:LoopOK e49 213 ZwQ (ZaW e49.P 49 16) :=
 Zcv (L:=ZaB []) (rounds:=20) (depth:=6) (ts:=[2,3,5,6,8,9,10,11]) (v:=(Zaa (Zak celConfig) (Zaa (Zak ZaO) (Zaa (Zad .i64) (Zaa (ZaN 74 .mark) (Zaa (Zad .i64) (Zaa (ZaF) (Zaa (Zak ZmD) (Zac (Zad .i64)))))))))) (a:=⟨.exit 4,[2,3,5,6,8,9,10],(Zaa (Zak celConfig) (Zaa (Zak ZaO) (Zaa (Zad .i64) (Zaa (ZaN 74 .mark) (Zaa (Zad .i64) (Zaa (ZaF) (Zac (Zak ZmD))))))))⟩) (b:=⟨.ret,[4],(Zac (ZaF))⟩) (step:=ZgI) g49 rfl rfl ZaE (fun x=>by kernel_rfl)
def ZzG:LSpec:=ZbY [2,3,5,6,7] (Zaa (Zak celConfig) (Zaa (Zak ZaO) (Zaa (Zad .i64) (Zaa (ZaN 74 .mark) (Zac (Zad .i64)))))) (⟨.exit 2,[2,3,5,6],(Zaa (Zak celConfig) (Zaa (Zak ZaO) (Zaa (Zad .i64) (Zac (ZaN 74 .mark)))))⟩:Way) (Zay Zhl)
theorem ZxO:LoopOK e49 213 ZzG (ZaW e49.P 49 8) :=
 Zbe (L:=ZaB []) (rounds:=20) (depth:=6) (ts:=[2,3,5,6,7]) (v:=(Zaa (Zak celConfig) (Zaa (Zak ZaO) (Zaa (Zad .i64) (Zaa (ZaN 74 .mark) (Zac (Zad .i64))))))) (a:=⟨.exit 2,[2,3,5,6],(Zaa (Zak celConfig) (Zaa (Zak ZaO) (Zaa (Zad .i64) (Zac (ZaN 74 .mark)))))⟩) (step:=Zhl) g49 rfl ZaE (fun x=>by kernel_rfl)
def ZCM:LSpec:=Zds [2,3,5] (Zaa (Zak celConfig) (Zaa (Zak ZaO) (Zac (Zad .i64)))) (⟨.exit 0,[],ZbG⟩:Way) (⟨.ret,[4],(Zac (ZaF))⟩:Way) (Zay Zhj)
theorem ZEa:LoopOK e49 213 ZCM (ZaW e49.P 49 4) :=
 Zcv (L:=ZaB [(16,ZwQ),(8,ZzG)]) (rounds:=20) (depth:=6) (ts:=[2,3,5]) (v:=(Zaa (Zak celConfig) (Zaa (Zak ZaO) (Zac (Zad .i64))))) (a:=⟨.exit 0,[],ZbG⟩) (b:=⟨.ret,[4],(Zac (ZaF))⟩) (step:=Zhj) g49 rfl rfl (Zsj (by kernel_rfl) (Zaz Zwp (Zaz ZxO ZaH))) (fun x=>by kernel_rfl)
def s49:Spec:=Zas (Zaa (Zaq celConfig) (Zac (Zaq ZaO))) (Zav (ZaF)) ZtE
theorem ok49:Zar Tryz.prog 49 s49 :=
 Zai (V:=e49) (L:=(ZaB [(16,ZwQ),(8,ZzG),(4,ZCM)])) (rounds:=20) (depth:=6) g49 (ZaZ (nt:=213) (by kernel_rfl) (Zbh (by kernel_rfl)) (Zaz Zwp (Zaz ZxO (Zaz ZEa ZaH)))) (fun x=>by kernel_rfl)
def e55:Env:=env1 []
theorem g55:Zaj e55:=Zan mix1 ent1 Zag
def s55:Spec:=Zas (Zac (Zaq Zau)) (Zav (Zaq Zau)) Zgf
theorem ok55:Zar Tryz.prog 55 s55 :=
 Zai (V:=e55) (L:=nL) (rounds:=20) (depth:=6) g55 Zam (fun x=>by kernel_rfl)
def e85:Env:=env1 []
theorem g85:Zaj e85:=Zan mix1 ent1 Zag
def s85:Spec:=Zas (Zac (Zax .int)) (Zav (ZaN 3 .int)) ZbI
theorem ok85:Zar Tryz.prog 85 s85 :=
 Zr7 (V:=e85) (L:=nL) (rounds:=20) (depth:=6) (r:=(Zav (ZaN 3 .int))) g85 Zam (by kernel_rfl) (fun x=>by kernel_rfl)
def e154:Env:=env1 []
theorem g154:Zaj e154:=Zan mix1 ent1 Zag
def s154:Spec:=Zas (Zaa (Zax .int) (Zac (Zad .i64))) (Zbp (Zaa (Zad .i64) (Zac (Zad .i64)))) ZbP
theorem Zvt:Zar Tryz.prog 154 s154 :=
 Zai (V:=e154) (L:=nL) (rounds:=20) (depth:=6) g154 Zam (fun x=>by kernel_rfl)
def e95:Env:=env1 [(85,s85),(154,s154)]
theorem g95:Zaj e95:=Zan mix1 ent1 (Zab ok85 rfl (Zab Zvt rfl Zag))
def s95:Spec:=Zas (Zaa (Zaq ZaD) (Zaa (Zad .i64) (Zac (Zad .i64)))) (Zbp (Zaa (Zaq ZaD) (Zac (Zad .i64)))) Zck
theorem ok95:Zar Tryz.prog 95 s95 :=
 Zai (V:=e95) (L:=nL) (rounds:=20) (depth:=6) g95 Zam (fun x=>by kernel_rfl)
def e96:Env:=env1 [(120,s120)]
theorem g96:Zaj e96:=Zan mix1 ent1 (Zab Zrq rfl Zag)
def s96:Spec:=Zas (Zaa (Zaq celConfig) (Zac (Zad .i64))) (Zav (Zad .i64)) Zc9
theorem ok96:Zar Tryz.prog 96 s96 :=
 Zai (V:=e96) (L:=nL) (rounds:=20) (depth:=6) g96 Zam (fun x=>by kernel_rfl)
def e63:Env:=env1 [(55,s55),(95,s95),(96,s96)]
theorem g63:Zaj e63:=Zan mix1 ent1 (Zab ok55 rfl (Zab ok95 rfl (Zab ok96 rfl Zag)))
def s63:Spec:=Zas (Zac (Zaq Zau)) (Zbp (Zaa (Zaq Zau) (Zac (ZaF)))) Zja
theorem ok63:Zar Tryz.prog 63 s63 :=
 Zai (V:=e63) (L:=nL) (rounds:=20) (depth:=6) g63 Zam (fun x=>by kernel_rfl)
def e105:Env:=env1 [(120,s120),(148,s148)]
theorem g105:Zaj e105:=Zan mix1 ent1 (Zab Zrq rfl (Zab ZDF rfl Zag))
def s105:Spec:=Zas (Zaa (Zaq celConfig) (Zaa (Zad .i64) (Zac (Zad .i64)))) (Zav (Zad .i64)) ZeM
theorem ZzK:Zar Tryz.prog 105 s105 :=
 Zai (V:=e105) (L:=nL) (rounds:=20) (depth:=6) g105 Zam (fun x=>by kernel_rfl)
def e150:Env:=env1 []
theorem g150:Zaj e150:=Zan mix1 ent1 Zag
def s150:Spec:=Zas (Zac (Zaq Zyl)) (Zav (Zad .i64)) Zb0
theorem ZtF:Zar Tryz.prog 150 s150 :=
 Zai (V:=e150) (L:=nL) (rounds:=20) (depth:=6) g150 Zam (fun x=>by kernel_rfl)
def e106:Env:=env1 [(150,s150)]
theorem g106:Zaj e106:=Zan mix1 ent1 (Zab ZtF rfl Zag)
def s106:Spec:=Zas (Zac (Zad .i64)) (Zav (Zad .i64)) Zfl
theorem ZzN:Zar Tryz.prog 106 s106 :=
 Zai (V:=e106) (L:=nL) (rounds:=20) (depth:=6) g106 Zam (fun x=>by kernel_rfl)
def e151:Env:=env1 []
theorem g151:Zaj e151:=Zan mix1 ent1 Zag
def s151:Spec:=Zas (Zac (Zad .i64)) (Zav (Zad .i64)) Zka
theorem ZFJ:Zar Tryz.prog 151 s151 :=
 Zai (V:=e151) (L:=nL) (rounds:=20) (depth:=6) g151 Zam (fun x=>by kernel_rfl)
def e181:Env:=env1 []
theorem g181:Zaj e181:=Zan mix1 ent1 Zag
def s181:Spec:=Zas (Zac (Zaq Zau)) (Zav (Zaq Zau)) Zgw
theorem ZDh:Zar Tryz.prog 181 s181 :=
 Zai (V:=e181) (L:=nL) (rounds:=20) (depth:=6) g181 Zam (fun x=>by kernel_rfl)
def e152:Env:=env1 [(181,s181)]
theorem g152:Zaj e152:=Zan mix1 ent1 (Zab ZDh rfl Zag)
def s152:Spec:=Zas (Zac (Zaq Zau)) (Zav (Zaq Zau)) Zex
theorem Zzo:Zar Tryz.prog 152 s152 :=
 Zai (V:=e152) (L:=nL) (rounds:=20) (depth:=6) g152 Zam (fun x=>by kernel_rfl)
def e107:Env:=env1 [(85,s85),(151,s151),(152,s152)]
theorem g107:Zaj e107:=Zan mix1 ent1 (Zab ok85 rfl (Zab ZFJ rfl (Zab Zzo rfl Zag)))
def s107:Spec:=Zas (Zac (Zaq Zau)) (Zav (Zaq Zau)) Zk5
theorem ZGF:Zar Tryz.prog 107 s107 :=
 Zai (V:=e107) (L:=nL) (rounds:=20) (depth:=6) g107 Zam (fun x=>by kernel_rfl)
def e109:Env:=env1 [(85,s85),(154,s154)]
theorem g109:Zaj e109:=Zan mix1 ent1 (Zab ok85 rfl (Zab Zvt rfl Zag))
def s109:Spec:=Zas (Zaa (Zaq ZaD) (Zaa (Zad .i64) (Zaa (Zad .i64) (Zac (Zad .i64))))) (Zbp (Zaa (Zaq ZaD) (Zaa (ZaF) (Zac (Zad .i64))))) ZcV
theorem Zvn:Zar Tryz.prog 109 s109 :=
 Zai (V:=e109) (L:=nL) (rounds:=20) (depth:=6) g109 Zam (fun x=>by kernel_rfl)
def e110:Env:=env1 [(154,s154)]
theorem g110:Zaj e110:=Zan mix1 ent1 (Zab Zvt rfl Zag)
def s110:Spec:=Zas (Zaa (Zaq ZaD) (Zac (Zad .i64))) (Zbp (Zaa (Zad .i64) (Zac (Zad .i64)))) Zcs
theorem ZtC:Zar Tryz.prog 110 s110 :=
 Zai (V:=e110) (L:=nL) (rounds:=20) (depth:=6) g110 Zam (fun x=>by kernel_rfl)
def e146:Env:=env1 []
theorem g146:Zaj e146:=Zan mix1 ent1 Zag
def s146:Spec:=Zas (Zac (Zaq Zau)) (Zav (ZaF)) ZdV
theorem ZyS:Zar Tryz.prog 146 s146 :=
 Zai (V:=e146) (L:=nL) (rounds:=20) (depth:=6) g146 Zam (fun x=>by kernel_rfl)
def e182:Env:=env1 []
theorem g182:Zaj e182:=Zan mix1 ent1 Zag
def s182:Spec:=Zas (Zac (Zad .i64)) (Zav (Zaq Zyl)) ZkA
theorem ZC2:Zar Tryz.prog 182 s182 :=
 Zai (V:=e182) (L:=nL) (rounds:=20) (depth:=6) g182 Zam (fun x=>by kernel_rfl)
def e155:Env:=env1 [(182,s182)]
theorem g155:Zaj e155:=Zan mix1 ent1 (Zab ZC2 rfl Zag)
def s155:Spec:=Zas (Zac (Zad .i64)) (Zav (Zad .i64)) Zht
theorem ZDR:Zar Tryz.prog 155 s155 :=
 Zai (V:=e155) (L:=nL) (rounds:=20) (depth:=6) g155 Zam (fun x=>by kernel_rfl)
def e111:Env:=env1 [(146,s146),(152,s152),(155,s155)]
theorem g111:Zaj e111:=Zan mix1 ent1 (Zab ZyS rfl (Zab Zzo rfl (Zab ZDR rfl Zag)))
def s111:Spec:=Zas (Zaa (Zaq Zau) (Zac (Zad .i64))) (Zav (Zaq Zau)) ZmW
theorem ZGJ:Zar Tryz.prog 111 s111 :=
 Zai (V:=e111) (L:=nL) (rounds:=20) (depth:=6) g111 Zam (fun x=>by kernel_rfl)
def e112:Env:=env1 [(150,s150)]
theorem g112:Zaj e112:=Zan mix1 ent1 (Zab ZtF rfl Zag)
def s112:Spec:=Zas (Zac (Zad .i64)) (Zav (Zad .i64)) Zlt
theorem ZGw:Zar Tryz.prog 112 s112 :=
 Zai (V:=e112) (L:=nL) (rounds:=20) (depth:=6) g112 Zam (fun x=>by kernel_rfl)
def e113:Env:=env1 [(152,s152)]
theorem g113:Zaj e113:=Zan mix1 ent1 (Zab Zzo rfl Zag)
def s113:Spec:=Zas (Zac (Zaq Zau)) (Zav (Zaq Zau)) ZjY
theorem ZFV:Zar Tryz.prog 113 s113 :=
 Zai (V:=e113) (L:=nL) (rounds:=20) (depth:=6) g113 Zam (fun x=>by kernel_rfl)
def e66:Env:=env1 [(105,s105),(106,s106),(107,s107),(109,s109),(110,s110),(111,s111),(112,s112),(113,s113)]
theorem g66:Zaj e66:=Zan mix1 ent1 (Zab ZzK rfl (Zab ZzN rfl (Zab ZGF rfl (Zab Zvn rfl (Zab ZtC rfl (Zab ZGJ rfl (Zab ZGw rfl (Zab ZFV rfl Zag))))))))
def s66:Spec:=Zas (Zac (Zaq Zau)) (Zbp (Zaa (Zaq Zau) (Zac (ZaF)))) Zmx
theorem ok66:Zar Tryz.prog 66 s66 :=
 Zai (V:=e66) (L:=nL) (rounds:=20) (depth:=6) g66 Zam (fun x=>by kernel_rfl)
def e183:Env:=env1 [(105,s105)]
theorem g183:Zaj e183:=Zan mix1 ent1 (Zab ZzK rfl Zag)
def s183:Spec:=Zas (Zac (Zaq Zau)) (Zav (Zad .i64)) ZfY
theorem ZyR:Zar Tryz.prog 183 s183 :=
 Zai (V:=e183) (L:=nL) (rounds:=20) (depth:=6) g183 Zam (fun x=>by kernel_rfl)
def e184:Env:=env1 [(182,s182)]
theorem g184:Zaj e184:=Zan mix1 ent1 (Zab ZC2 rfl Zag)
def s184:Spec:=Zas (Zac (Zad .i64)) (Zav (Zad .i64)) ZpG
theorem ZGI:Zar Tryz.prog 184 s184 :=
 Zai (V:=e184) (L:=nL) (rounds:=20) (depth:=6) g184 Zam (fun x=>by kernel_rfl)
def e156:Env:=env1 [(106,s106),(110,s110),(155,s155),(183,s183),(184,s184)]
theorem g156:Zaj e156:=Zan mix1 ent1 (Zab ZzN rfl (Zab ZtC rfl (Zab ZDR rfl (Zab ZyR rfl (Zab ZGI rfl Zag)))))
def s156:Spec:=Zas (Zac (Zaq Zau)) (Zav (Zaq Zau)) Zlx
theorem ZGC:Zar Tryz.prog 156 s156 :=
 Zai (V:=e156) (L:=nL) (rounds:=20) (depth:=6) g156 Zam (fun x=>by kernel_rfl)
def e187:Env:=env1 [(181,s181)]
theorem g187:Zaj e187:=Zan mix1 ent1 (Zab ZDh rfl Zag)
def s187:Spec:=Zas (Zac (Zaq Zau)) (Zav (Zaq Zau)) ZhM
theorem ZDQ:Zar Tryz.prog 187 s187 :=
 Zai (V:=e187) (L:=nL) (rounds:=20) (depth:=6) g187 Zam (fun x=>by kernel_rfl)
def e157:Env:=env1 [(106,s106),(109,s109),(183,s183),(187,s187)]
theorem g157:Zaj e157:=Zan mix1 ent1 (Zab ZzN rfl (Zab Zvn rfl (Zab ZyR rfl (Zab ZDQ rfl Zag))))
def s157:Spec:=Zas (Zac (Zaq Zau)) (Zav (Zaq Zau)) Zlh
theorem ZFT:Zar Tryz.prog 157 s157 :=
 Zai (V:=e157) (L:=nL) (rounds:=20) (depth:=6) g157 Zam (fun x=>by kernel_rfl)
def e180:Env:=env1 []
theorem g180:Zaj e180:=Zan mix1 ent1 Zag
def s180:Spec:=Zas (Zac (Zax .entry)) (Zav (ZaN 135 .entry)) Zbx
theorem Zzr:Zar Tryz.prog 180 s180 :=
 Zr7 (V:=e180) (L:=nL) (rounds:=20) (depth:=6) (r:=(Zav (ZaN 135 .entry))) g180 Zam (by kernel_rfl) (fun x=>by kernel_rfl)
def e227:Env:=env1 []
theorem g227:Zaj e227:=Zan mix1 ent1 Zag
def s227:Spec:=Zas (Zaa (Zax (.lst .entry)) (Zac (Zad .i64))) (Zbp (Zaa (Zax .entry) (Zac (Zad .i64)))) Zcz
theorem ZCW:Zar Tryz.prog 227 s227 :=
 Zai (V:=e227) (L:=nL) (rounds:=20) (depth:=6) g227 Zam (fun x=>by kernel_rfl)
def e188:Env:=env1 [(180,s180),(227,s227)]
theorem g188:Zaj e188:=Zan mix1 ent1 (Zab Zzr rfl (Zab ZCW rfl Zag))
def s188:Spec:=Zas (Zaa (Zaq ZaD) (Zac (Zad .i64))) (Zbp (Zaa (Zax .entry) (Zac (Zad .i64)))) ZiR
theorem ZC9:Zar Tryz.prog 188 s188 :=
 Zai (V:=e188) (L:=nL) (rounds:=20) (depth:=6) g188 Zam (fun x=>by kernel_rfl)
def e244:Env:=ZDG []
theorem g244:Zaj e244:=Zan mix1 ent1 Zag
def s244:Spec:=Zas (Zaa (ZA2) (Zac (Zad .i64))) (Zav (ZaN 163 .kid)) ZeI
theorem ZFX:Zar Tryz.prog 244 s244 :=
 Zai (V:=e244) (L:=nL) (rounds:=20) (depth:=6) g244 Zam (fun x=>by kernel_rfl)
def e228:Env:=env1 [(244,s244)]
theorem g228:Zaj e228:=Zan mix1 ent1 (Zab ZFX rfl Zag)
def Zx5:LSpec:=ZbY [6,25,26,27] (Zaa (ZaN 163 .kid) (Zaa (Zax (.lst .kid)) (Zaa (Zad .i64) (Zac (Zad .i64))))) (⟨.exit 2,[6],(Zac (ZaN 163 .kid))⟩:Way) (Zay ZbR)
theorem ZAj:LoopOK e228 36 Zx5 (ZaW e228.P 228 11) :=
 Zbe (L:=ZaB []) (rounds:=20) (depth:=6) (ts:=[6,25,26,27]) (v:=(Zaa (ZaN 163 .kid) (Zaa (Zax (.lst .kid)) (Zaa (Zad .i64) (Zac (Zad .i64)))))) (a:=⟨.exit 2,[6],(Zac (ZaN 163 .kid))⟩) (step:=ZbR) g228 rfl ZaE (fun x=>by kernel_rfl)
def Zz5:LSpec:=ZbY [0,3,9,10,11] (Zaa (Zax (.lst .kid)) (Zaa (Zad .i64) (Zaa (Zax (.lst .kid)) (Zaa (Zad .i64) (Zac (Zad .i64)))))) (⟨.exit 0,[0,3],(Zaa (Zax (.lst .kid)) (Zac (Zad .i64)))⟩:Way) (Zay ZbW)
theorem ZBP:LoopOK e228 36 Zz5 (ZaW e228.P 228 3) :=
 Zbe (L:=ZaB []) (rounds:=20) (depth:=6) (ts:=[0,3,9,10,11]) (v:=(Zaa (Zax (.lst .kid)) (Zaa (Zad .i64) (Zaa (Zax (.lst .kid)) (Zaa (Zad .i64) (Zac (Zad .i64))))))) (a:=⟨.exit 0,[0,3],(Zaa (Zax (.lst .kid)) (Zac (Zad .i64)))⟩) (step:=ZbW) g228 rfl ZaE (fun x=>by kernel_rfl)
def s228:Spec:=Zas (Zac (Zax (.lst .kid))) (Zav (ZaN 163 .kid)) ZdU
theorem ZGo:Zar Tryz.prog 228 s228 :=
 Zai (V:=e228) (L:=(ZaB [(11,Zx5),(3,Zz5)])) (rounds:=20) (depth:=6) g228 (ZaZ (nt:=36) (by kernel_rfl) (Zbh (by kernel_rfl)) (Zaz ZAj (Zaz ZBP ZaH))) (fun x=>by kernel_rfl)
def e248:Env:=ZDG []
theorem g248:Zaj e248:=Zan mix1 ent1 Zag
def s248:Spec:=Zas (Zaa (ZA2) (Zac (Zad .i64))) (Zav (ZaN 135 .entry)) Zec
theorem ZGf:Zar Tryz.prog 248 s248 :=
 Zai (V:=e248) (L:=nL) (rounds:=20) (depth:=6) g248 Zam (fun x=>by kernel_rfl)
def e245:Env:=env1 [(248,s248)]
theorem g245:Zaj e245:=Zan mix1 ent1 (Zab ZGf rfl Zag)
def Zye:LSpec:=ZbY [6,25,26,27] (Zaa (ZaN 135 .entry) (Zaa (Zax (.lst .entry)) (Zaa (Zad .i64) (Zac (Zad .i64))))) (⟨.exit 2,[6],(Zac (ZaN 135 .entry))⟩:Way) (Zay ZbN)
theorem ZAb:LoopOK e245 36 Zye (ZaW e245.P 245 11) :=
 Zbe (L:=ZaB []) (rounds:=20) (depth:=6) (ts:=[6,25,26,27]) (v:=(Zaa (ZaN 135 .entry) (Zaa (Zax (.lst .entry)) (Zaa (Zad .i64) (Zac (Zad .i64)))))) (a:=⟨.exit 2,[6],(Zac (ZaN 135 .entry))⟩) (step:=ZbN) g245 rfl ZaE (fun x=>by kernel_rfl)
def ZAB:LSpec:=ZbY [0,3,9,10,11] (Zaa (Zax (.lst .entry)) (Zaa (Zad .i64) (Zaa (Zax (.lst .entry)) (Zaa (Zad .i64) (Zac (Zad .i64)))))) (⟨.exit 0,[0,3],(Zaa (Zax (.lst .entry)) (Zac (Zad .i64)))⟩:Way) (Zay ZbU)
theorem ZBQ:LoopOK e245 36 ZAB (ZaW e245.P 245 3) :=
 Zbe (L:=ZaB []) (rounds:=20) (depth:=6) (ts:=[0,3,9,10,11]) (v:=(Zaa (Zax (.lst .entry)) (Zaa (Zad .i64) (Zaa (Zax (.lst .entry)) (Zaa (Zad .i64) (Zac (Zad .i64))))))) (a:=⟨.exit 0,[0,3],(Zaa (Zax (.lst .entry)) (Zac (Zad .i64)))⟩) (step:=ZbU) g245 rfl ZaE (fun x=>by kernel_rfl)
def s245:Spec:=Zas (Zac (Zax (.lst .entry))) (Zav (ZaN 135 .entry)) Zdy
theorem ZFI:Zar Tryz.prog 245 s245 :=
 Zai (V:=e245) (L:=(ZaB [(11,Zye),(3,ZAB)])) (rounds:=20) (depth:=6) g245 (ZaZ (nt:=36) (by kernel_rfl) (Zbh (by kernel_rfl)) (Zaz ZAb (Zaz ZBQ ZaH))) (fun x=>by kernel_rfl)
def e229:Env:=env1 [(245,s245)]
theorem g229:Zaj e229:=Zan mix1 ent1 (Zab ZFI rfl Zag)
def s229:Spec:=Zas (Zac (Zax (.lst .entry))) (Zav (Zax .entry)) Zmw
theorem ZFM:Zar Tryz.prog 229 s229 :=
 Zai (V:=e229) (L:=nL) (rounds:=20) (depth:=6) g229 Zam (fun x=>by kernel_rfl)
def e190:Env:=env1 [(228,s228),(229,s229)]
theorem g190:Zaj e190:=Zan mix1 ent1 (Zab ZGo rfl (Zab ZFM rfl Zag))
def s190:Spec:=Zas (Zaa (Zaq Zau) (Zaa (Zad .i64) (Zac (Zax .entry)))) (Zav (Zaq Zau)) Zf0
theorem ZDN:Zar Tryz.prog 190 s190 :=
 Zai (V:=e190) (L:=nL) (rounds:=20) (depth:=6) g190 Zam (fun x=>by kernel_rfl)
def e158:Env:=env1 [(188,s188),(190,s190)]
theorem g158:Zaj e158:=Zan mix1 ent1 (Zab ZC9 rfl (Zab ZDN rfl Zag))
def s158:Spec:=Zas (Zac (Zaq Zau)) (Zav (Zaq Zau)) Zh6
theorem ZGk:Zar Tryz.prog 158 s158 :=
 Zai (V:=e158) (L:=nL) (rounds:=20) (depth:=6) g158 Zam (fun x=>by kernel_rfl)
def e159:Env:=env1 [(95,s95),(183,s183),(187,s187)]
theorem g159:Zaj e159:=Zan mix1 ent1 (Zab ok95 rfl (Zab ZyR rfl (Zab ZDQ rfl Zag)))
def s159:Spec:=Zas (Zac (Zaq Zau)) (Zav (Zaq Zau)) Zlm
theorem ZFD:Zar Tryz.prog 159 s159 :=
 Zai (V:=e159) (L:=nL) (rounds:=20) (depth:=6) g159 Zam (fun x=>by kernel_rfl)
def e230:Env:=env1 []
theorem g230:Zaj e230:=Zan mix1 ent1 Zag
def s230:Spec:=Zas (Zac (Zax (.lst .entry))) (Zav (ZaN 30 (.lst .entry))) ZdI
theorem ZFz:Zar Tryz.prog 230 s230 :=
 Zr7 (V:=e230) (L:=nL) (rounds:=20) (depth:=6) (r:=(Zav (ZaN 30 (.lst .entry)))) g230 Zam (by kernel_rfl) (fun x=>by kernel_rfl)
def e191:Env:=env1 [(180,s180),(227,s227),(230,s230)]
theorem g191:Zaj e191:=Zan mix1 ent1 (Zab Zzr rfl (Zab ZCW rfl (Zab ZFz rfl Zag)))
def s191:Spec:=Zas (Zaa (Zaq ZaD) (Zaa (Zad .i64) (Zac (Zax .entry)))) (Zbp (Zaa (Zaq ZaD) (Zac (Zad .i64)))) Zjj
theorem ZDj:Zar Tryz.prog 191 s191 :=
 Zai (V:=e191) (L:=nL) (rounds:=20) (depth:=6) g191 Zam (fun x=>by kernel_rfl)
def e160:Env:=env1 [(191,s191)]
theorem g160:Zaj e160:=Zan mix1 ent1 (Zab ZDj rfl Zag)
def s160:Spec:=Zas (Zac (Zaq Zau)) (Zav (Zaq Zau)) Zh5
theorem ZGe:Zar Tryz.prog 160 s160 :=
 Zai (V:=e160) (L:=nL) (rounds:=20) (depth:=6) g160 Zam (fun x=>by kernel_rfl)
def e192:Env:=env1 [(150,s150)]
theorem g192:Zaj e192:=Zan mix1 ent1 (Zab ZtF rfl Zag)
def s192:Spec:=Zas (Zac (Zad .i64)) (Zav (Zad .i64)) Zif
theorem ZFP:Zar Tryz.prog 192 s192 :=
 Zai (V:=e192) (L:=nL) (rounds:=20) (depth:=6) g192 Zam (fun x=>by kernel_rfl)
def e161:Env:=env1 [(95,s95),(105,s105),(192,s192)]
theorem g161:Zaj e161:=Zan mix1 ent1 (Zab ok95 rfl (Zab ZzK rfl (Zab ZFP rfl Zag)))
def s161:Spec:=Zas (Zac (Zaq Zau)) (Zav (Zaq Zau)) Zii
theorem ZGA:Zar Tryz.prog 161 s161 :=
 Zai (V:=e161) (L:=nL) (rounds:=20) (depth:=6) g161 Zam (fun x=>by kernel_rfl)
def e67:Env:=env1 [(156,s156),(157,s157),(158,s158),(159,s159),(160,s160),(161,s161)]
theorem g67:Zaj e67:=Zan mix1 ent1 (Zab ZGC rfl (Zab ZFT rfl (Zab ZGk rfl (Zab ZFD rfl (Zab ZGe rfl (Zab ZGA rfl Zag))))))
def s67:Spec:=Zas (Zac (Zaq Zau)) (Zbp (Zaa (Zaq Zau) (Zac (ZaF)))) ZkY
theorem ok67:Zar Tryz.prog 67 s67 :=
 Zai (V:=e67) (L:=nL) (rounds:=20) (depth:=6) g67 Zam (fun x=>by kernel_rfl)
def e83:Env:=env1 []
theorem g83:Zaj e83:=Zan mix1 ent1 Zag
def ZCZ:LSpec:=Zds [1,29,30] (Zaa (Zak celConfig) (Zaa (Zaq (Zae (Zao .i64) (Zae (Zao .i64) (Zae (Zao .i64) (Zae (Zao .i64) (Zae (Zao .i64) (Zae (Zao .i64) (Zae (Zao .i64) (Zae (Zao .i64) (Zae (Zao .i64) (Zae (Zao .i64) (Zae (Zao .i64) (Zae (Zao .i64) (Zae (Zao .i64) (Zae (Zao .i64) (Zae (Zao .i64) (Zae (Zao .i64) (Zae (Zao .i64) (Zae (Zao .i64) (Zae (Zao .i64) (Zae (Zao .i64) (Zae (Zao .i64) (Zae (Zao .i64) (Zae (Zao .i64) (Zao .i64))))))))))))))))))))))))) (Zac (Zad .i64)))) (⟨.exit 0,[1],(Zac (Zak celConfig))⟩:Way) (⟨.ret,[2],(Zac (Zad .i64))⟩:Way) (Zay ZeK)
theorem ZEe:LoopOK e83 65 ZCZ (ZaW e83.P 83 2) :=
 Zcv (L:=ZaB []) (rounds:=20) (depth:=6) (ts:=[1,29,30]) (v:=(Zaa (Zak celConfig) (Zaa (Zaq (Zae (Zao .i64) (Zae (Zao .i64) (Zae (Zao .i64) (Zae (Zao .i64) (Zae (Zao .i64) (Zae (Zao .i64) (Zae (Zao .i64) (Zae (Zao .i64) (Zae (Zao .i64) (Zae (Zao .i64) (Zae (Zao .i64) (Zae (Zao .i64) (Zae (Zao .i64) (Zae (Zao .i64) (Zae (Zao .i64) (Zae (Zao .i64) (Zae (Zao .i64) (Zae (Zao .i64) (Zae (Zao .i64) (Zae (Zao .i64) (Zae (Zao .i64) (Zae (Zao .i64) (Zae (Zao .i64) (Zao .i64))))))))))))))))))))))))) (Zac (Zad .i64))))) (a:=⟨.exit 0,[1],(Zac (Zak celConfig))⟩) (b:=⟨.ret,[2],(Zac (Zad .i64))⟩) (step:=ZeK) g83 rfl rfl ZaE (fun x=>by kernel_rfl)
def s83:Spec:=Zas (Zac (Zaq celConfig)) (Zav (Zad .i64)) Zfm
theorem ok83:Zar Tryz.prog 83 s83 :=
 Zai (V:=e83) (L:=(ZaB [(2,ZCZ)])) (rounds:=20) (depth:=6) g83 (ZaZ (nt:=65) (by kernel_rfl) (Zbh (by kernel_rfl)) (Zaz ZEe ZaH)) (fun x=>by kernel_rfl)
def e129:Env:=env1 []
theorem g129:Zaj e129:=Zan mix1 ent1 Zag
def s129:Spec:=Zas (Zaa (Zad .i64) (Zac (Zad .i64))) (Zav (ZaF)) ZdQ
theorem ZGq:Zar Tryz.prog 129 s129 :=
 Zai (V:=e129) (L:=nL) (rounds:=20) (depth:=6) g129 Zam (fun x=>by kernel_rfl)
def e171:Env:=env1 []
theorem g171:Zaj e171:=Zan mix1 ent1 Zag
def s171:Spec:=Zas (Zac (Zad .i64)) (Zav (ZaF)) ZmN
theorem ZGD:Zar Tryz.prog 171 s171 :=
 Zai (V:=e171) (L:=nL) (rounds:=20) (depth:=6) g171 Zam (fun x=>by kernel_rfl)
def e130:Env:=env1 [(171,s171)]
theorem g130:Zaj e130:=Zan mix1 ent1 (Zab ZGD rfl Zag)
def s130:Spec:=Zas (Zaa (Zaq Zea) (Zac (ZaF))) (Zav (ZaF)) ZlI
theorem ZGg:Zar Tryz.prog 130 s130 :=
 Zai (V:=e130) (L:=nL) (rounds:=20) (depth:=6) g130 Zam (fun x=>by kernel_rfl)
def e88:Env:=env1 [(129,s129),(130,s130)]
theorem g88:Zaj e88:=Zan mix1 ent1 (Zab ZGq rfl (Zab ZGg rfl Zag))
def s88:Spec:=Zas (Zaa (Zaq celConfig) (Zac (Zaq ZnA))) (Zav (Zad .i64)) Zhd
theorem ok88:Zar Tryz.prog 88 s88 :=
 Zai (V:=e88) (L:=nL) (rounds:=20) (depth:=6) g88 Zam (fun x=>by kernel_rfl)
def e75:Env:=env1 [(83,s83),(88,s88)]
theorem g75:Zaj e75:=Zan mix1 ent1 (Zab ok83 rfl (Zab ok88 rfl Zag))
def ZDn:LSpec:=Zds [2,18,19,20] (Zaa (Zak celConfig) (Zaa (Zax .sentry) (Zaa (Zad .i64) (Zac (Zad .i64))))) (⟨.exit 0,[],ZbG⟩:Way) (⟨.ret,[4,5],(Zaa (Zad .i64) (Zac (Zad .i64)))⟩:Way) (Zay Zg1)
theorem ZE4:LoopOK e75 33 ZDn (ZaW e75.P 75 7) :=
 Zcv (L:=ZaB []) (rounds:=20) (depth:=6) (ts:=[2,18,19,20]) (v:=(Zaa (Zak celConfig) (Zaa (Zax .sentry) (Zaa (Zad .i64) (Zac (Zad .i64)))))) (a:=⟨.exit 0,[],ZbG⟩) (b:=⟨.ret,[4,5],(Zaa (Zad .i64) (Zac (Zad .i64)))⟩) (step:=Zg1) g75 rfl rfl ZaE (fun x=>by kernel_rfl)
def s75:Spec:=Zas (Zaa (Zaq celConfig) (Zac (Zax .sentry))) (Zbp (Zaa (Zad .i64) (Zac (Zad .i64)))) Zjk
theorem ok75:Zar Tryz.prog 75 s75 :=
 Zai (V:=e75) (L:=(ZaB [(7,ZDn)])) (rounds:=20) (depth:=6) g75 (ZaZ (nt:=33) (by kernel_rfl) (Zbh (by kernel_rfl)) (Zaz ZE4 ZaH)) (fun x=>by kernel_rfl)
def e103:Env:=env1 [(146,s146)]
theorem g103:Zaj e103:=Zan mix1 ent1 (Zab ZyS rfl Zag)
def s103:Spec:=Zas (Zac (Zaq Zau)) (Zav (Zaq Zau)) ZcC
theorem ZDw:Zar Tryz.prog 103 s103 :=
 Zai (V:=e103) (L:=nL) (rounds:=20) (depth:=6) g103 Zam (fun x=>by kernel_rfl)
def e115:Env:=env1 [(150,s150)]
theorem g115:Zaj e115:=Zan mix1 ent1 (Zab ZtF rfl Zag)
def s115:Spec:=Zas (Zaa (Zad .i64) (Zac (Zad .i64))) (Zav (Zad .i64)) Zkn
theorem ZFr:Zar Tryz.prog 115 s115 :=
 Zai (V:=e115) (L:=nL) (rounds:=20) (depth:=6) g115 Zam (fun x=>by kernel_rfl)
def e117:Env:=env1 [(96,s96)]
theorem g117:Zaj e117:=Zan mix1 ent1 (Zab ok96 rfl Zag)
def s117:Spec:=ZtL (Zaa (ZFc (Zae Zau (Zao .i64))) (Zac (Zad .i64))) (Zav (Zad .i64)) Zcb
theorem ZFw:Zar Tryz.prog 117 s117 :=
 ZyM (V:=e117) (L:=nL) (rounds:=20) (depth:=6) g117 Zam (fun x=>by kernel_rfl)
def e170:Env:=env1 []
theorem g170:Zaj e170:=Zan mix1 ent1 Zag
def s170:Spec:=Zas (Zaa (Zad .u64) (Zac (Zad .u64))) (Zbp (Zaa (Zad .u64) (Zac (Zad .u64)))) ZlB
theorem ZGa:Zar Tryz.prog 170 s170 :=
 Zai (V:=e170) (L:=nL) (rounds:=20) (depth:=6) g170 Zam (fun x=>by kernel_rfl)
def e126:Env:=env1 [(170,s170)]
theorem g126:Zaj e126:=Zan mix1 ent1 (Zab ZGa rfl Zag)
def s126:Spec:=Zas (Zaa (Zad .u64) (Zac (Zad .u64))) (Zbp (Zaa (Zad .u64) (Zac (Zad .u64)))) ZdL
theorem ZGP:Zar Tryz.prog 126 s126 :=
 Zai (V:=e126) (L:=nL) (rounds:=20) (depth:=6) g126 Zam (fun x=>by kernel_rfl)
def e139:Env:=env1 [(150,s150)]
theorem g139:Zaj e139:=Zan mix1 ent1 (Zab ZtF rfl Zag)
def s139:Spec:=Zas ZbG (Zav (Zad .i64)) ZhC
theorem ZGy:Zar Tryz.prog 139 s139 :=
 Zai (V:=e139) (L:=nL) (rounds:=20) (depth:=6) g139 Zam (fun x=>by kernel_rfl)
def e140:Env:=env1 [(120,s120)]
theorem g140:Zaj e140:=Zan mix1 ent1 (Zab Zrq rfl Zag)
def s140:Spec:=Zas (Zaa (Zaq celConfig) (Zac (Zad .i64))) (Zav (Zad .i64)) ZfC
theorem ZGj:Zar Tryz.prog 140 s140 :=
 Zai (V:=e140) (L:=nL) (rounds:=20) (depth:=6) g140 Zam (fun x=>by kernel_rfl)
def e141:Env:=env1 []
theorem g141:Zaj e141:=Zan mix1 ent1 Zag
def s141:Spec:=Zas (Zac (Zaq Zau)) (Zav (Zaq Zau)) Zdk
theorem ZCP:Zar Tryz.prog 141 s141 :=
 Zai (V:=e141) (L:=nL) (rounds:=20) (depth:=6) g141 Zam (fun x=>by kernel_rfl)
def e144:Env:=env1 [(180,s180)]
theorem g144:Zaj e144:=Zan mix1 ent1 (Zab Zzr rfl Zag)
def s144:Spec:=Zas (Zaa (Zax .entry) (Zac (Zad .i64))) (Zav (Zax .entry)) ZmU
theorem ZGO:Zar Tryz.prog 144 s144 :=
 Zai (V:=e144) (L:=nL) (rounds:=20) (depth:=6) g144 Zam (fun x=>by kernel_rfl)
def e196:Env:=env1 []
theorem g196:Zaj e196:=Zan mix1 ent1 Zag
def s196:Spec:=Zas (Zaa (Zad .i64) (Zaa (Zad .i64) (Zaa (Zad .i64) (Zac (Zad .i64))))) (Zav (ZaF)) Zk7
theorem ZGb:Zar Tryz.prog 196 s196 :=
 Zai (V:=e196) (L:=nL) (rounds:=20) (depth:=6) g196 Zam (fun x=>by kernel_rfl)
def e168:Env:=env1 [(196,s196)]
theorem g168:Zaj e168:=Zan mix1 ent1 (Zab ZGb rfl Zag)
def s168:Spec:=Zas (Zaa (Zaq Zea) (Zaa (Zad .i64) (Zaa (Zad .i64) (Zac (Zad .i64))))) (Zbp (Zaa (Zad .i64) (Zac (ZaF)))) ZeA
theorem ZC1:Zar Tryz.prog 168 s168 :=
 Zai (V:=e168) (L:=nL) (rounds:=20) (depth:=6) g168 Zam (fun x=>by kernel_rfl)
def e194:Env:=env1 [(85,s85),(154,s154)]
theorem g194:Zaj e194:=Zan mix1 ent1 (Zab ok85 rfl (Zab Zvt rfl Zag))
def s194:Spec:=Zas (Zaa (Zaq ZaD) (Zaa (Zad .i64) (Zac (Zad .i64)))) (Zbp (Zaa (Zaq ZaD) (Zaa (Zad .i64) (Zac (Zad .i64))))) Zon
theorem ZGn:Zar Tryz.prog 194 s194 :=
 Zai (V:=e194) (L:=nL) (rounds:=20) (depth:=6) g194 Zam (fun x=>by kernel_rfl)
def e195:Env:=env1 [(120,s120)]
theorem g195:Zaj e195:=Zan mix1 ent1 (Zab Zrq rfl Zag)
def s195:Spec:=Zas (Zaa (Zaq celConfig) (Zaa (Zad .i64) (Zaa (Zad .i64) (Zac (Zad .i64))))) (Zav (Zad .i64)) Zmm
theorem ZGd:Zar Tryz.prog 195 s195 :=
 Zai (V:=e195) (L:=nL) (rounds:=20) (depth:=6) g195 Zam (fun x=>by kernel_rfl)
def e249:Env:=env1 []
theorem g249:Zaj e249:=Zan mix1 ent1 Zag
def s249:Spec:=Zas (Zac (Zaq Zbo)) (Zav (Zad .i64)) Zf8
theorem ZFQ:Zar Tryz.prog 249 s249 :=
 Zai (V:=e249) (L:=nL) (rounds:=20) (depth:=6) g249 Zam (fun x=>by kernel_rfl)
end Go.Proofs.Mill
