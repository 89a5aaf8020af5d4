/- The functions compute this. -/
import Derived.Test.YtaopdopnecognaaGreatMillSeat3
import Derived.Test.YtaopdopnecognaaGreatMillFAb
set_option linter.all false
set_option maxRecDepth 100000
noncomputable section
namespace Go.Proofs.Mill
def e37:Env:=env1 []
theorem g37:Zai e37:=Zal mix1 ent1 Zah
def ZAl:LSpec:=ZdM [2,5,6] (Zaa (ZaL 63 .sentry) (Zaa (Zae .i64) (Zac (Zae .i64)))) (⟨.exit 0,[2],(Zac (ZaL 63 .sentry))⟩:Way) (ZaC Zgt)
theorem ZBy:LoopOK e37 16 ZAl (Za7 e37.P 37 2) :=
 Zcj (L:=ZaO []) (rounds:=20) (depth:=6) (ts:=[2,5,6]) (v:=(Zaa (ZaL 63 .sentry) (Zaa (Zae .i64) (Zac (Zae .i64))))) (a:=⟨.exit 0,[2],(Zac (ZaL 63 .sentry))⟩) (step:=Zgt) g37 rfl ZaY (fun x=>by kernel_rfl)
def s37:Spec:=Zap (Zac (Zaq celConfig)) (Zar (Zan .sentry)) ZeW
theorem ok37:Zao Tryz.prog 37 s37 :=
 Zaj (V:=e37) (L:=(ZaO [(2,ZAl)])) (rounds:=20) (depth:=6) g37 (Zbo (nt:=16) (by kernel_rfl) (Zb6 (by kernel_rfl)) (ZaJ ZBy ZaX)) (fun x=>by kernel_rfl)
def e17:Env:=env1 [(37,s37)]
theorem g17:Zai e17:=Zal mix1 ent1 (Zab ok37 rfl Zah)
def Zwr:LSpec:=Zfq [1,4,5,14,15,16] (Zaa (Zae .i64) (Zaa (ZaL 63 .sentry) (Zaa (Zan .sentry) (Zaa (Zan .sentry) (Zaa (Zae .i64) (Zac (Zae .i64))))))) (⟨.exit 0,[4],(Zac (ZaL 63 .sentry))⟩:Way) (⟨.exit 2,[1,4,5],(Zaa (Zae .i64) (Zaa (ZaL 63 .sentry) (Zac (Zan .sentry))))⟩:Way) (ZaC ZdH)
theorem Zvl:LoopOK e17 29 Zwr (Za7 e17.P 17 5) :=
 Zdk (L:=ZaO []) (rounds:=20) (depth:=6) (ts:=[1,4,5,14,15,16]) (v:=(Zaa (Zae .i64) (Zaa (ZaL 63 .sentry) (Zaa (Zan .sentry) (Zaa (Zan .sentry) (Zaa (Zae .i64) (Zac (Zae .i64)))))))) (a:=⟨.exit 0,[4],(Zac (ZaL 63 .sentry))⟩) (b:=⟨.exit 2,[1,4,5],(Zaa (Zae .i64) (Zaa (ZaL 63 .sentry) (Zac (Zan .sentry))))⟩) (step:=ZdH) g17 rfl rfl ZaY (fun x=>by kernel_rfl)
def ZAv:LSpec:=ZdM [1,4,5] (Zaa (Zae .i64) (Zaa (ZaL 63 .sentry) (Zac (Zan .sentry)))) (⟨.exit 0,[4],(Zac (ZaL 63 .sentry))⟩:Way) (ZaC ZdG)
theorem ZBW:LoopOK e17 29 ZAv (Za7 e17.P 17 2) :=
 Zcj (L:=ZaO [(5,Zwr)]) (rounds:=20) (depth:=6) (ts:=[1,4,5]) (v:=(Zaa (Zae .i64) (Zaa (ZaL 63 .sentry) (Zac (Zan .sentry))))) (a:=⟨.exit 0,[4],(Zac (ZaL 63 .sentry))⟩) (step:=ZdG) g17 rfl (ZtD (by kernel_rfl) (ZaJ Zvl ZaX)) (fun x=>by kernel_rfl)
def s17:Spec:=Zap (Zaa (Zaq celConfig) (Zac (Zae .i64))) (Zar (Zan .sentry)) Zct
theorem ok17:Zao Tryz.prog 17 s17 :=
 Zaj (V:=e17) (L:=(ZaO [(5,Zwr),(2,ZAv)])) (rounds:=20) (depth:=6) g17 (Zbo (nt:=29) (by kernel_rfl) (Zb6 (by kernel_rfl)) (ZaJ Zvl (ZaJ ZBW ZaX))) (fun x=>by kernel_rfl)
def e53:Env:=env1 []
theorem g53:Zai e53:=Zal mix1 ent1 Zah
def s53:Spec:=Zap (Zac (Zaq celConfig)) (Zar (Zae .i64)) Zio
theorem ok53:Zao Tryz.prog 53 s53 :=
 Zaj (V:=e53) (L:=nL) (rounds:=20) (depth:=6) g53 Zak (fun x=>by kernel_rfl)
def e18:Env:=env1 [(53,s53)]
theorem g18:Zai e18:=Zal mix1 ent1 (Zab ok53 rfl Zah)
def s18:Spec:=Zap (Zac (Zaq celConfig)) (Zar (Zae .i64)) ZcK
theorem ok18:Zao Tryz.prog 18 s18 :=
 Zaj (V:=e18) (L:=nL) (rounds:=20) (depth:=6) g18 Zak (fun x=>by kernel_rfl)
def e20:Env:=env1 []
theorem g20:Zai e20:=Zal mix1 ent1 Zah
def ZAu:LSpec:=ZdM [1,3,4] (Zaa (Zav celConfig) (Zaa (Zae .i64) (Zac (Zae .i64)))) (⟨.exit 0,[3],(Zac (Zae .i64))⟩:Way) (ZaC Zh5)
theorem ZA3:LoopOK e20 15 ZAu (Za7 e20.P 20 3) :=
 Zcj (L:=ZaO []) (rounds:=20) (depth:=6) (ts:=[1,3,4]) (v:=(Zaa (Zav celConfig) (Zaa (Zae .i64) (Zac (Zae .i64))))) (a:=⟨.exit 0,[3],(Zac (Zae .i64))⟩) (step:=Zh5) g20 rfl ZaY (fun x=>by kernel_rfl)
def s20:Spec:=Zap (Zac (Zaq celConfig)) (Zar (Zae .i64)) Zhh
theorem ok20:Zao Tryz.prog 20 s20 :=
 Zaj (V:=e20) (L:=(ZaO [(3,ZAu)])) (rounds:=20) (depth:=6) g20 (Zbo (nt:=15) (by kernel_rfl) (Zb6 (by kernel_rfl)) (ZaJ ZA3 ZaX)) (fun x=>by kernel_rfl)
def e54:Env:=env1 [(20,s20)]
theorem g54:Zai e54:=Zal mix1 ent1 (Zab ok20 rfl Zah)
def s54:Spec:=Zap (Zac (Zaq celConfig)) (Zar (Zae .i64)) Zft
theorem ok54:Zao Tryz.prog 54 s54 :=
 Zaj (V:=e54) (L:=nL) (rounds:=20) (depth:=6) g54 Zak (fun x=>by kernel_rfl)
def e19:Env:=env1 [(54,s54)]
theorem g19:Zai e19:=Zal mix1 ent1 (Zab ok54 rfl Zah)
def s19:Spec:=Zap (Zac (Zaq celConfig)) (Zar (Zae .i64)) Zoc
theorem ok19:Zao Tryz.prog 19 s19 :=
 Zaj (V:=e19) (L:=nL) (rounds:=20) (depth:=6) g19 Zak (fun x=>by kernel_rfl)
def e21:Env:=env1 [(20,s20),(54,s54)]
theorem g21:Zai e21:=Zal mix1 ent1 (Zab ok20 rfl (Zab ok54 rfl Zah))
def s21:Spec:=Zap (Zaa (Zaq celConfig) (Zaa (Zae .i64) (Zac (Zae .i64)))) (Zar (Zae .i64)) Znh
theorem ok21:Zao Tryz.prog 21 s21 :=
 Zaj (V:=e21) (L:=nL) (rounds:=20) (depth:=6) g21 Zak (fun x=>by kernel_rfl)
def e22:Env:=env1 [(54,s54)]
theorem g22:Zai e22:=Zal mix1 ent1 (Zab ok54 rfl Zah)
def s22:Spec:=Zap (Zaa (Zaq celConfig) (Zac (Zae .i64))) (Zar (Zae .i64)) ZnU
theorem ok22:Zao Tryz.prog 22 s22 :=
 Zaj (V:=e22) (L:=nL) (rounds:=20) (depth:=6) g22 Zak (fun x=>by kernel_rfl)
def e24:Env:=env1 []
theorem g24:Zai e24:=Zal mix1 ent1 Zah
def s24:Spec:=Zap (Zac (Zaq Zje)) (Zar (ZaK)) Zbt
theorem ok24:Zao Tryz.prog 24 s24 :=
 Zaj (V:=e24) (L:=nL) (rounds:=20) (depth:=6) g24 Zak (fun x=>by kernel_rfl)
def e83:Env:=env1 []
theorem g83:Zai e83:=Zal mix1 ent1 Zah
def s83:Spec:=Zap (Zaa (Zae .i64) (Zac (Zae .i64))) (Zar (ZaK)) ZdI
theorem ok83:Zao Tryz.prog 83 s83 :=
 Zaj (V:=e83) (L:=nL) (rounds:=20) (depth:=6) g83 Zak (fun x=>by kernel_rfl)
def e107:Env:=env1 []
theorem g107:Zai e107:=Zal mix1 ent1 Zah
def s107:Spec:=Zap (Zac (Zae .i64)) (Zar (ZaK)) ZkN
theorem ZDf:Zao Tryz.prog 107 s107 :=
 Zaj (V:=e107) (L:=nL) (rounds:=20) (depth:=6) g107 Zak (fun x=>by kernel_rfl)
def e84:Env:=env1 [(107,s107)]
theorem g84:Zai e84:=Zal mix1 ent1 (Zab ZDf rfl Zah)
def s84:Spec:=Zap (Zaa (Zaq Zhe) (Zac (ZaK))) (Zar (ZaK)) Zj1
theorem ok84:Zao Tryz.prog 84 s84 :=
 Zaj (V:=e84) (L:=nL) (rounds:=20) (depth:=6) g84 Zak (fun x=>by kernel_rfl)
def e61:Env:=env1 [(83,s83),(84,s84)]
theorem g61:Zai e61:=Zal mix1 ent1 (Zab ok83 rfl (Zab ok84 rfl Zah))
def s61:Spec:=Zap (Zaa (Zaq celConfig) (Zac (Zaq ZrM))) (Zar (Zae .i64)) Zfe
theorem ok61:Zao Tryz.prog 61 s61 :=
 Zaj (V:=e61) (L:=nL) (rounds:=20) (depth:=6) g61 Zak (fun x=>by kernel_rfl)
def e85:Env:=env1 []
theorem g85:Zai e85:=Zal mix1 ent1 Zah
def s85:Spec:=Zap (Zac (Zan .thread)) (Zar (ZaL 57 .thread)) Zcv
theorem ok85:Zao Tryz.prog 85 s85 :=
 Ziu (V:=e85) (L:=nL) (rounds:=20) (depth:=6) (r:=(Zar (ZaL 57 .thread))) g85 Zak (by kernel_rfl) (fun x=>by kernel_rfl)
def e86:Env:=env1 []
theorem g86:Zai e86:=Zal mix1 ent1 Zah
def s86:Spec:=Zap (Zac (Zan .mark)) (Zar (ZaL 65 .mark)) ZcI
theorem ok86:Zao Tryz.prog 86 s86 :=
 Ziu (V:=e86) (L:=nL) (rounds:=20) (depth:=6) (r:=(Zar (ZaL 65 .mark))) g86 Zak (by kernel_rfl) (fun x=>by kernel_rfl)
def e87:Env:=env1 []
theorem g87:Zai e87:=Zal mix1 ent1 Zah
def s87:Spec:=Zap (Zac (Zan .event)) (Zar (ZaL 50 .event)) ZcH
theorem ok87:Zao Tryz.prog 87 s87 :=
 Ziu (V:=e87) (L:=nL) (rounds:=20) (depth:=6) (r:=(Zar (ZaL 50 .event))) g87 Zak (by kernel_rfl) (fun x=>by kernel_rfl)
def e112:Env:=env1 []
theorem g112:Zai e112:=Zal mix1 ent1 Zah
def s112:Spec:=Zap (Zaa (Zae .i64) (Zac (Zae .i64))) (Zar (Zae .i64)) ZkQ
theorem ZCw:Zao Tryz.prog 112 s112 :=
 Zaj (V:=e112) (L:=nL) (rounds:=20) (depth:=6) g112 Zak (fun x=>by kernel_rfl)
def e100:Env:=env1 [(112,s112)]
theorem g100:Zai e100:=Zal mix1 ent1 (Zab ZCw rfl Zah)
def s100:Spec:=Zap (Zaa (Zaq celConfig) (Zaa (Zae .i64) (Zaa (Zaq Zje) (Zaa (Zae .i64) (Zaa (Zaq Zhe) (Zac (Zae .i64))))))) (Zar (Zaq Zje)) Ze3
theorem ZAx:Zao Tryz.prog 100 s100 :=
 Zaj (V:=e100) (L:=nL) (rounds:=20) (depth:=6) g100 Zak (fun x=>by kernel_rfl)
def e26:Env:=env1 [(24,s24),(61,s61),(85,s85),(86,s86),(87,s87),(100,s100)]
def e49:Env:=env1 []
theorem g49:Zai e49:=Zal mix1 ent1 Zah
def s49:Spec:=Zap (Zac (Zaq celConfig)) (Zar (Zae .i64)) Zhi
theorem ok49:Zao Tryz.prog 49 s49 :=
 Zaj (V:=e49) (L:=nL) (rounds:=20) (depth:=6) g49 Zak (fun x=>by kernel_rfl)
def e44:Env:=env1 []
theorem g44:Zai e44:=Zal mix1 ent1 Zah
def s44:Spec:=Zap (Zaa (Zaq Zhe) (Zac (ZaK))) (Zar (ZaK)) Zo8
theorem ok44:Zao Tryz.prog 44 s44 :=
 Zaj (V:=e44) (L:=nL) (rounds:=20) (depth:=6) g44 Zak (fun x=>by kernel_rfl)
def e32:Env:=env1 [(49,s49)]
theorem g32:Zai e32:=Zal mix1 ent1 (Zab ok49 rfl Zah)
def s32:Spec:=Zap (Zac (Zaq celConfig)) (Zar (ZaK)) ZgO
theorem ok32:Zao Tryz.prog 32 s32 :=
 Zaj (V:=e32) (L:=nL) (rounds:=20) (depth:=6) g32 Zak (fun x=>by kernel_rfl)
def e73:Env:=env1 []
theorem g73:Zai e73:=Zal mix1 ent1 Zah
def s73:Spec:=Zap (Zac (Zaq celConfig)) (Zar (Zae .i64)) ZmO
theorem ok73:Zao Tryz.prog 73 s73 :=
 Zaj (V:=e73) (L:=nL) (rounds:=20) (depth:=6) g73 Zak (fun x=>by kernel_rfl)
def e34:Env:=env1 [(73,s73)]
theorem g34:Zai e34:=Zal mix1 ent1 (Zab ok73 rfl Zah)
def s34:Spec:=Zap (Zac (Zaq celConfig)) (Zar (Zae .i64)) Zis
theorem ok34:Zao Tryz.prog 34 s34 :=
 Zaj (V:=e34) (L:=nL) (rounds:=20) (depth:=6) g34 Zak (fun x=>by kernel_rfl)
def e35:Env:=env1 []
theorem g35:Zai e35:=Zal mix1 ent1 Zah
def ZAt:LSpec:=Zfq [0,1,5] (Zaa (Zan .sentry) (Zaa (Zan .sentry) (Zac (Zae .i64)))) (⟨.exit 0,[],valsNil⟩:Way) (⟨.ret,[4],(Zac (ZaK))⟩:Way) (ZaC ZiB)
theorem ZAX:LoopOK e35 26 ZAt (Za7 e35.P 35 4) :=
 Zdk (L:=ZaO []) (rounds:=20) (depth:=6) (ts:=[0,1,5]) (v:=(Zaa (Zan .sentry) (Zaa (Zan .sentry) (Zac (Zae .i64))))) (a:=⟨.exit 0,[],valsNil⟩) (b:=⟨.ret,[4],(Zac (ZaK))⟩) (step:=ZiB) g35 rfl rfl ZaY (fun x=>by kernel_rfl)
def s35:Spec:=Zap (Zaa (Zan .sentry) (Zac (Zan .sentry))) (Zar (ZaK)) Zkq
theorem ok35:Zao Tryz.prog 35 s35 :=
 Zaj (V:=e35) (L:=(ZaO [(4,ZAt)])) (rounds:=20) (depth:=6) g35 (Zbo (nt:=26) (by kernel_rfl) (Zb6 (by kernel_rfl)) (ZaJ ZAX ZaX)) (fun x=>by kernel_rfl)
def e36:Env:=env1 []
theorem g36:Zai e36:=Zal mix1 ent1 Zah
def ZAH:LSpec:=ZdM [0,3,4] (Zaa (Zan .sentry) (Zaa (ZaL 120 .sentry) (Zac (Zae .i64)))) (⟨.exit 0,[3],(Zac (ZaL 120 .sentry))⟩:Way) (ZaC ZjF)
theorem ZBF:LoopOK e36 37 ZAH (Za7 e36.P 36 3) :=
 Zcj (L:=ZaO []) (rounds:=20) (depth:=6) (ts:=[0,3,4]) (v:=(Zaa (Zan .sentry) (Zaa (ZaL 120 .sentry) (Zac (Zae .i64))))) (a:=⟨.exit 0,[3],(Zac (ZaL 120 .sentry))⟩) (step:=ZjF) g36 rfl ZaY (fun x=>by kernel_rfl)
def s36:Spec:=Zap (Zac (Zan .sentry)) (Zar (Zan .sentry)) ZgL
theorem ok36:Zao Tryz.prog 36 s36 :=
 Zaj (V:=e36) (L:=(ZaO [(3,ZAH)])) (rounds:=20) (depth:=6) g36 (Zbo (nt:=37) (by kernel_rfl) (Zb6 (by kernel_rfl)) (ZaJ ZBF ZaX)) (fun x=>by kernel_rfl)
def e39:Env:=env1 []
theorem g39:Zai e39:=Zal mix1 ent1 Zah
def ZwJ:LSpec:=Zfq [1,2,5,6,7] (Zaa (Zae .i64) (Zaa (Zav celConfig) (Zaa (ZaL 120 .sentry) (Zaa (Zae .i64) (Zac (Zae .i64)))))) (⟨.exit 2,[1,2,5,6],(Zaa (Zae .i64) (Zaa (Zav celConfig) (Zaa (ZaL 120 .sentry) (Zac (Zae .i64)))))⟩:Way) (⟨.ret,[4],(Zac (Zan .sentry))⟩:Way) (ZaC Zhk)
theorem Zvn:LoopOK e39 30 ZwJ (Za7 e39.P 39 6) :=
 Zdk (L:=ZaO []) (rounds:=20) (depth:=6) (ts:=[1,2,5,6,7]) (v:=(Zaa (Zae .i64) (Zaa (Zav celConfig) (Zaa (ZaL 120 .sentry) (Zaa (Zae .i64) (Zac (Zae .i64))))))) (a:=⟨.exit 2,[1,2,5,6],(Zaa (Zae .i64) (Zaa (Zav celConfig) (Zaa (ZaL 120 .sentry) (Zac (Zae .i64)))))⟩) (b:=⟨.ret,[4],(Zac (Zan .sentry))⟩) (step:=Zhk) g39 rfl rfl ZaY (fun x=>by kernel_rfl)
def Zz9:LSpec:=Zfq [1,2,5,6] (Zaa (Zae .i64) (Zaa (Zav celConfig) (Zaa (ZaL 120 .sentry) (Zac (Zae .i64))))) (⟨.exit 0,[5],(Zac (ZaL 120 .sentry))⟩:Way) (⟨.ret,[4],(Zac (Zan .sentry))⟩:Way) (ZaC Zhy)
theorem ZBc:LoopOK e39 30 Zz9 (Za7 e39.P 39 3) :=
 Zdk (L:=ZaO [(6,ZwJ)]) (rounds:=20) (depth:=6) (ts:=[1,2,5,6]) (v:=(Zaa (Zae .i64) (Zaa (Zav celConfig) (Zaa (ZaL 120 .sentry) (Zac (Zae .i64)))))) (a:=⟨.exit 0,[5],(Zac (ZaL 120 .sentry))⟩) (b:=⟨.ret,[4],(Zac (Zan .sentry))⟩) (step:=Zhy) g39 rfl rfl (ZtD (by kernel_rfl) (ZaJ Zvn ZaX)) (fun x=>by kernel_rfl)
def s39:Spec:=Zap (Zaa (Zaq celConfig) (Zac (Zae .i64))) (Zar (Zan .sentry)) ZiF
theorem ok39:Zao Tryz.prog 39 s39 :=
 Zaj (V:=e39) (L:=(ZaO [(6,ZwJ),(3,Zz9)])) (rounds:=20) (depth:=6) g39 (Zbo (nt:=30) (by kernel_rfl) (Zb6 (by kernel_rfl)) (ZaJ Zvn (ZaJ ZBc ZaX))) (fun x=>by kernel_rfl)
def e38:Env:=env1 [(39,s39)]
theorem g38:Zai e38:=Zal mix1 ent1 (Zab ok39 rfl Zah)
def s38:Spec:=Zap (Zac (Zaq celConfig)) (Zar (Zan .sentry)) ZmV
theorem ok38:Zao Tryz.prog 38 s38 :=
 Zaj (V:=e38) (L:=nL) (rounds:=20) (depth:=6) g38 Zak (fun x=>by kernel_rfl)
def e74:Env:=env1 []
theorem g74:Zai e74:=Zal mix1 ent1 Zah
def Zz3:LSpec:=Zfq [0,6,7] (Zaa (Zan .sentry) (Zaa (Zae .i64) (Zac (Zae .i64)))) (⟨.exit 0,[0],(Zac (Zan .sentry))⟩:Way) (⟨.ret,[2],(Zac (Zan .sentry))⟩:Way) (ZaC ZhO)
theorem ZBe:LoopOK e74 26 Zz3 (Za7 e74.P 74 2) :=
 Zdk (L:=ZaO []) (rounds:=20) (depth:=6) (ts:=[0,6,7]) (v:=(Zaa (Zan .sentry) (Zaa (Zae .i64) (Zac (Zae .i64))))) (a:=⟨.exit 0,[0],(Zac (Zan .sentry))⟩) (b:=⟨.ret,[2],(Zac (Zan .sentry))⟩) (step:=ZhO) g74 rfl rfl ZaY (fun x=>by kernel_rfl)
def s74:Spec:=Zap (Zac (Zan .sentry)) (Zar (Zan .sentry)) ZmW
theorem ok74:Zao Tryz.prog 74 s74 :=
 Zaj (V:=e74) (L:=(ZaO [(2,Zz3)])) (rounds:=20) (depth:=6) g74 (Zbo (nt:=26) (by kernel_rfl) (Zb6 (by kernel_rfl)) (ZaJ ZBe ZaX)) (fun x=>by kernel_rfl)
def e40:Env:=env1 [(74,s74)]
theorem g40:Zai e40:=Zal mix1 ent1 (Zab ok74 rfl Zah)
def ZAD:LSpec:=ZdM [2,4,5,9,10,11] (Zaa (Zav celConfig) (Zaa (Zae .i64) (Zaa (Zae .i64) (Zaa (Zan .sentry) (Zaa (Zae .i64) (Zac (Zae .i64))))))) (⟨.exit 0,[4],(Zac (Zae .i64))⟩:Way) (ZaC ZiJ)
theorem ZBG:LoopOK e40 34 ZAD (Za7 e40.P 40 3) :=
 Zcj (L:=ZaO []) (rounds:=20) (depth:=6) (ts:=[2,4,5,9,10,11]) (v:=(Zaa (Zav celConfig) (Zaa (Zae .i64) (Zaa (Zae .i64) (Zaa (Zan .sentry) (Zaa (Zae .i64) (Zac (Zae .i64)))))))) (a:=⟨.exit 0,[4],(Zac (Zae .i64))⟩) (step:=ZiJ) g40 rfl ZaY (fun x=>by kernel_rfl)
def s40:Spec:=Zap (Zaa (Zaq celConfig) (Zac (Zan .sentry))) (Zar (Zae .i64)) ZcY
theorem ok40:Zao Tryz.prog 40 s40 :=
 Zaj (V:=e40) (L:=(ZaO [(3,ZAD)])) (rounds:=20) (depth:=6) g40 (Zbo (nt:=34) (by kernel_rfl) (Zb6 (by kernel_rfl)) (ZaJ ZBG ZaX)) (fun x=>by kernel_rfl)
def e41:Env:=env1 []
theorem g41:Zai e41:=Zal mix1 ent1 Zah
def ZAc:LSpec:=ZdM [1,2,7,8] (Zaa (Zan .sentry) (Zaa (Zav celConfig) (Zaa (Zae .i64) (Zac (Zae .i64))))) (⟨.exit 2,[2,7],(Zaa (Zav celConfig) (Zac (Zae .i64)))⟩:Way) (ZaC ZhF)
theorem ZBC:LoopOK e41 52 ZAc (Za7 e41.P 41 9) :=
 Zcj (L:=ZaO []) (rounds:=20) (depth:=6) (ts:=[1,2,7,8]) (v:=(Zaa (Zan .sentry) (Zaa (Zav celConfig) (Zaa (Zae .i64) (Zac (Zae .i64)))))) (a:=⟨.exit 2,[2,7],(Zaa (Zav celConfig) (Zac (Zae .i64)))⟩) (step:=ZhF) g41 rfl ZaY (fun x=>by kernel_rfl)
def ZAh:LSpec:=ZdM [1,2,5,6] (Zaa (Zan .sentry) (Zaa (Zav celConfig) (Zaa (Zae .i64) (Zac (Zae .i64))))) (⟨.exit 0,[1,2,5],(Zaa (Zan .sentry) (Zaa (Zav celConfig) (Zac (Zae .i64))))⟩:Way) (ZaC ZhQ)
theorem ZBO:LoopOK e41 52 ZAh (Za7 e41.P 41 3) :=
 Zcj (L:=ZaO []) (rounds:=20) (depth:=6) (ts:=[1,2,5,6]) (v:=(Zaa (Zan .sentry) (Zaa (Zav celConfig) (Zaa (Zae .i64) (Zac (Zae .i64)))))) (a:=⟨.exit 0,[1,2,5],(Zaa (Zan .sentry) (Zaa (Zav celConfig) (Zac (Zae .i64))))⟩) (step:=ZhQ) g41 rfl ZaY (fun x=>by kernel_rfl)
def s41:Spec:=Zap (Zaa (Zaq celConfig) (Zac (Zan .sentry))) (Zar (Zae .i64)) ZjL
theorem ok41:Zao Tryz.prog 41 s41 :=
 Zaj (V:=e41) (L:=(ZaO [(9,ZAc),(3,ZAh)])) (rounds:=20) (depth:=6) g41 (Zbo (nt:=52) (by kernel_rfl) (Zb6 (by kernel_rfl)) (ZaJ ZBC (ZaJ ZBO ZaX))) (fun x=>by kernel_rfl)
def e42:Env:=env1 [(18,s18),(40,s40)]
theorem g42:Zai e42:=Zal mix1 ent1 (Zab ok18 rfl (Zab ok40 rfl Zah))
def s42:Spec:=Zap (Zaa (Zaq celConfig) (Zac (Zan .sentry))) (Zar (ZaK)) ZeO
theorem ok42:Zao Tryz.prog 42 s42 :=
 Zaj (V:=e42) (L:=nL) (rounds:=20) (depth:=6) g42 Zak (fun x=>by kernel_rfl)
def e43:Env:=env1 [(34,s34),(41,s41)]
theorem g43:Zai e43:=Zal mix1 ent1 (Zab ok34 rfl (Zab ok41 rfl Zah))
def s43:Spec:=Zap (Zaa (Zaq celConfig) (Zac (Zan .sentry))) (Zar (ZaK)) ZnF
theorem ok43:Zao Tryz.prog 43 s43 :=
 Zaj (V:=e43) (L:=nL) (rounds:=20) (depth:=6) g43 Zak (fun x=>by kernel_rfl)
def e45:Env:=env1 [(24,s24)]
theorem g45:Zai e45:=Zal mix1 ent1 (Zab ok24 rfl Zah)
def ZAd:LSpec:=ZdM [2,6,7,8] (Zaa (Zae .i64) (Zaa (Zan .thread) (Zaa (Zae .i64) (Zac (Zae .i64))))) (⟨.exit 0,[2],(Zac (Zae .i64))⟩:Way) (ZaC ZgH)
theorem ZBu:LoopOK e45 18 ZAd (Za7 e45.P 45 2) :=
 Zcj (L:=ZaO []) (rounds:=20) (depth:=6) (ts:=[2,6,7,8]) (v:=(Zaa (Zae .i64) (Zaa (Zan .thread) (Zaa (Zae .i64) (Zac (Zae .i64)))))) (a:=⟨.exit 0,[2],(Zac (Zae .i64))⟩) (step:=ZgH) g45 rfl ZaY (fun x=>by kernel_rfl)
def s45:Spec:=Zap (Zac (Zaq Zbe)) (Zar (Zae .i64)) Zel
theorem ok45:Zao Tryz.prog 45 s45 :=
 Zaj (V:=e45) (L:=(ZaO [(2,ZAd)])) (rounds:=20) (depth:=6) g45 (Zbo (nt:=18) (by kernel_rfl) (Zb6 (by kernel_rfl)) (ZaJ ZBu ZaX)) (fun x=>by kernel_rfl)
def s47:Spec:=Zap (Zaa (Zaq celConfig) (Zac (Zae .i64))) (Zar (Zae .i64)) Zte
def s48:Spec:=Zap (Zaa (Zaq Zhe) (Zaa (Zae .i64) (Zaa (Zae .i64) (Zac (Zae .i64))))) (Zb0 (Zaa (Zae .i64) (Zac (ZaK)))) Zsx
def e56:Env:=env1 []
theorem g56:Zai e56:=Zal mix1 ent1 Zah
def ZAO:LSpec:=Zfq [1,29,30] (Zaa (Zav celConfig) (Zaa (Zaq (Zam (Zau .i64) (Zam (Zau .i64) (Zam (Zau .i64) (Zam (Zau .i64) (Zam (Zau .i64) (Zam (Zau .i64) (Zam (Zau .i64) (Zam (Zau .i64) (Zam (Zau .i64) (Zam (Zau .i64) (Zam (Zau .i64) (Zam (Zau .i64) (Zam (Zau .i64) (Zam (Zau .i64) (Zam (Zau .i64) (Zam (Zau .i64) (Zam (Zau .i64) (Zam (Zau .i64) (Zam (Zau .i64) (Zam (Zau .i64) (Zam (Zau .i64) (Zam (Zau .i64) (Zam (Zau .i64) (Zau .i64))))))))))))))))))))))))) (Zac (Zae .i64)))) (⟨.exit 0,[1],(Zac (Zav celConfig))⟩:Way) (⟨.ret,[2],(Zac (Zae .i64))⟩:Way) (ZaC Zen)
theorem ZAV:LoopOK e56 65 ZAO (Za7 e56.P 56 2) :=
 Zdk (L:=ZaO []) (rounds:=20) (depth:=6) (ts:=[1,29,30]) (v:=(Zaa (Zav celConfig) (Zaa (Zaq (Zam (Zau .i64) (Zam (Zau .i64) (Zam (Zau .i64) (Zam (Zau .i64) (Zam (Zau .i64) (Zam (Zau .i64) (Zam (Zau .i64) (Zam (Zau .i64) (Zam (Zau .i64) (Zam (Zau .i64) (Zam (Zau .i64) (Zam (Zau .i64) (Zam (Zau .i64) (Zam (Zau .i64) (Zam (Zau .i64) (Zam (Zau .i64) (Zam (Zau .i64) (Zam (Zau .i64) (Zam (Zau .i64) (Zam (Zau .i64) (Zam (Zau .i64) (Zam (Zau .i64) (Zam (Zau .i64) (Zau .i64))))))))))))))))))))))))) (Zac (Zae .i64))))) (a:=⟨.exit 0,[1],(Zac (Zav celConfig))⟩) (b:=⟨.ret,[2],(Zac (Zae .i64))⟩) (step:=Zen) g56 rfl rfl ZaY (fun x=>by kernel_rfl)
def s56:Spec:=Zap (Zac (Zaq celConfig)) (Zar (Zae .i64)) Zef
theorem ok56:Zao Tryz.prog 56 s56 :=
 Zaj (V:=e56) (L:=(ZaO [(2,ZAO)])) (rounds:=20) (depth:=6) g56 (Zbo (nt:=65) (by kernel_rfl) (Zb6 (by kernel_rfl)) (ZaJ ZAV ZaX)) (fun x=>by kernel_rfl)
def e51:Env:=env1 [(56,s56),(61,s61)]
theorem g51:Zai e51:=Zal mix1 ent1 (Zab ok56 rfl (Zab ok61 rfl Zah))
def ZAN:LSpec:=Zfq [2,18,19,20] (Zaa (Zav celConfig) (Zaa (Zan .sentry) (Zaa (Zae .i64) (Zac (Zae .i64))))) (⟨.exit 0,[],valsNil⟩:Way) (⟨.ret,[4,5],(Zaa (Zae .i64) (Zac (Zae .i64)))⟩:Way) (ZaC Zgv)
theorem ZBJ:LoopOK e51 33 ZAN (Za7 e51.P 51 7) :=
 Zdk (L:=ZaO []) (rounds:=20) (depth:=6) (ts:=[2,18,19,20]) (v:=(Zaa (Zav celConfig) (Zaa (Zan .sentry) (Zaa (Zae .i64) (Zac (Zae .i64)))))) (a:=⟨.exit 0,[],valsNil⟩) (b:=⟨.ret,[4,5],(Zaa (Zae .i64) (Zac (Zae .i64)))⟩) (step:=Zgv) g51 rfl rfl ZaY (fun x=>by kernel_rfl)
def s51:Spec:=Zap (Zaa (Zaq celConfig) (Zac (Zan .sentry))) (Zb0 (Zaa (Zae .i64) (Zac (Zae .i64)))) ZhJ
theorem ok51:Zao Tryz.prog 51 s51 :=
 Zaj (V:=e51) (L:=(ZaO [(7,ZAN)])) (rounds:=20) (depth:=6) g51 (Zbo (nt:=33) (by kernel_rfl) (Zb6 (by kernel_rfl)) (ZaJ ZBJ ZaX)) (fun x=>by kernel_rfl)
def e110:Env:=env1 []
theorem g110:Zai e110:=Zal mix1 ent1 Zah
def s110:Spec:=Zap (Zac (Zaq celConfig)) (Zar (Zae .i64)) ZfG
theorem ZAT:Zao Tryz.prog 110 s110 :=
 Zaj (V:=e110) (L:=nL) (rounds:=20) (depth:=6) g110 Zak (fun x=>by kernel_rfl)
def e94:Env:=env1 [(110,s110)]
theorem g94:Zai e94:=Zal mix1 ent1 (Zab ZAT rfl Zah)
def s94:Spec:=Zap (Zac (Zaq celConfig)) (Zar (Zaq ZBo)) Zcm
theorem ok94:Zao Tryz.prog 94 s94 :=
 Zaj (V:=e94) (L:=nL) (rounds:=20) (depth:=6) g94 Zak (fun x=>by kernel_rfl)
def e71:Env:=env1 [(94,s94)]
theorem g71:Zai e71:=Zal mix1 ent1 (Zab ok94 rfl Zah)
def s71:Spec:=Zap (Zaa (Zaq celConfig) (Zac (Zae .i64))) (Zar (Zae .i64)) Zc3
theorem ok71:Zao Tryz.prog 71 s71 :=
 Zaj (V:=e71) (L:=nL) (rounds:=20) (depth:=6) g71 Zak (fun x=>by kernel_rfl)
def e103:Env:=env1 []
theorem g103:Zai e103:=Zal mix1 ent1 Zah
def s103:Spec:=Zap (Zac (Zae .i64)) (Zar (ZaL 3 .int)) ZhL
theorem ZCJ:Zao Tryz.prog 103 s103 :=
 Zaj (V:=e103) (L:=nL) (rounds:=20) (depth:=6) g103 Zak (fun x=>by kernel_rfl)
def e104:Env:=env1 []
theorem g104:Zai e104:=Zal mix1 ent1 Zah
def s104:Spec:=Zap (Zac (Zae .i64)) (Zar (ZaL 54 (.lst .entry))) Zer
theorem ZCX:Zao Tryz.prog 104 s104 :=
 Zaj (V:=e104) (L:=nL) (rounds:=20) (depth:=6) g104 Zak (fun x=>by kernel_rfl)
def e80:Env:=env1 [(103,s103),(104,s104)]
theorem g80:Zai e80:=Zal mix1 ent1 (Zab ZCJ rfl (Zab ZCX rfl Zah))
def s80:Spec:=Zap (Zaa (Zae .i64) (Zac (Zae .i64))) (Zar (Zaq (Zcx (Zam (ZbC 3 .int) (ZbC 54 (.lst .entry))) Memo (fun y=>⟨y.1,y.2⟩) (fun x=>(x.words,x.boxes)) (fun _=>rfl)))) Zma
theorem ok80:Zao Tryz.prog 80 s80 :=
 Zaj (V:=e80) (L:=nL) (rounds:=20) (depth:=6) g80 Zak (fun x=>by kernel_rfl)
def e81:Env:=env1 [(94,s94)]
theorem g81:Zai e81:=Zal mix1 ent1 (Zab ok94 rfl Zah)
def s81:Spec:=Zap (Zac (Zaq celConfig)) (Zar (Zae .i64)) Zkf
theorem ok81:Zao Tryz.prog 81 s81 :=
 Zaj (V:=e81) (L:=nL) (rounds:=20) (depth:=6) g81 Zak (fun x=>by kernel_rfl)
def e57:Env:=env1 [(71,s71),(80,s80),(81,s81)]
theorem g57:Zai e57:=Zal mix1 ent1 (Zab ok71 rfl (Zab ok80 rfl (Zab ok81 rfl Zah)))
def ZAM:LSpec:=ZdM [1,2,3,11,12] (Zaa (Zav celConfig) (Zaa (Zav Zcc) (Zaa (Zav (Zcx (Zam (ZbC 3 .int) (ZbC 54 (.lst .entry))) Memo (fun y=>⟨y.1,y.2⟩) (fun x=>(x.words,x.boxes)) (fun _=>rfl))) (Zaa (Zae .i64) (Zac (Zae .i64)))))) (⟨.exit 0,[2,3],(Zaa (Zav Zcc) (Zac (Zav (Zcx (Zam (ZbC 3 .int) (ZbC 54 (.lst .entry))) Memo (fun y=>⟨y.1,y.2⟩) (fun x=>(x.words,x.boxes)) (fun _=>rfl)))))⟩:Way) (ZaC ZfV)
theorem ZAU:LoopOK e57 25 ZAM (Za7 e57.P 57 3) :=
 Zcj (L:=ZaO []) (rounds:=20) (depth:=6) (ts:=[1,2,3,11,12]) (v:=(Zaa (Zav celConfig) (Zaa (Zav Zcc) (Zaa (Zav (Zcx (Zam (ZbC 3 .int) (ZbC 54 (.lst .entry))) Memo (fun y=>⟨y.1,y.2⟩) (fun x=>(x.words,x.boxes)) (fun _=>rfl))) (Zaa (Zae .i64) (Zac (Zae .i64))))))) (a:=⟨.exit 0,[2,3],(Zaa (Zav Zcc) (Zac (Zav (Zcx (Zam (ZbC 3 .int) (ZbC 54 (.lst .entry))) Memo (fun y=>⟨y.1,y.2⟩) (fun x=>(x.words,x.boxes)) (fun _=>rfl)))))⟩) (step:=ZfV) g57 rfl ZaY (fun x=>by kernel_rfl)
def s57:Spec:=Zap (Zac (Zaq celConfig)) (Zar (Zaq (Zcx (Zam (ZbC 3 .int) (ZbC 54 (.lst .entry))) Memo (fun y=>⟨y.1,y.2⟩) (fun x=>(x.words,x.boxes)) (fun _=>rfl)))) ZjB
theorem ok57:Zao Tryz.prog 57 s57 :=
 Zaj (V:=e57) (L:=(ZaO [(3,ZAM)])) (rounds:=20) (depth:=6) g57 (Zbo (nt:=25) (by kernel_rfl) (Zb6 (by kernel_rfl)) (ZaJ ZAU ZaX)) (fun x=>by kernel_rfl)
def e59:Env:=env1 []
theorem g59:Zai e59:=Zal mix1 ent1 Zah
def s59:Spec:=Zap valsNil (Zar (Zaq Zje)) ZkK
theorem ok59:Zao Tryz.prog 59 s59 :=
 Zaj (V:=e59) (L:=nL) (rounds:=20) (depth:=6) g59 Zak (fun x=>by kernel_rfl)
def e60:Env:=env1 []
theorem g60:Zai e60:=Zal mix1 ent1 Zah
def s60:Spec:=Zap (Zac (Zan .int)) (Zar (ZaL 3 .int)) Zby
theorem ok60:Zao Tryz.prog 60 s60 :=
 Ziu (V:=e60) (L:=nL) (rounds:=20) (depth:=6) (r:=(Zar (ZaL 3 .int))) g60 Zak (by kernel_rfl) (fun x=>by kernel_rfl)
def e91:Env:=env1 []
theorem g91:Zai e91:=Zal mix1 ent1 Zah
def s91:Spec:=Zap (Zaa (Zan .int) (Zac (Zae .i64))) (Zb0 (Zaa (Zae .i64) (Zac (Zae .i64)))) ZbD
theorem ok91:Zao Tryz.prog 91 s91 :=
 Zaj (V:=e91) (L:=nL) (rounds:=20) (depth:=6) g91 Zak (fun x=>by kernel_rfl)
def e70:Env:=env1 [(91,s91)]
theorem g70:Zai e70:=Zal mix1 ent1 (Zab ok91 rfl Zah)
def s70:Spec:=Zap (Zaa (Zaq Zcc) (Zac (Zae .i64))) (Zb0 (Zaa (Zae .i64) (Zac (Zae .i64)))) ZbY
theorem ok70:Zao Tryz.prog 70 s70 :=
 Zaj (V:=e70) (L:=nL) (rounds:=20) (depth:=6) g70 Zak (fun x=>by kernel_rfl)
def e106:Env:=env1 []
theorem g106:Zai e106:=Zal mix1 ent1 Zah
def s106:Spec:=Zap (Zaa (Zae .u64) (Zac (Zae .u64))) (Zb0 (Zaa (Zae .u64) (Zac (Zae .u64)))) ZjZ
theorem ZCv:Zao Tryz.prog 106 s106 :=
 Zaj (V:=e106) (L:=nL) (rounds:=20) (depth:=6) g106 Zak (fun x=>by kernel_rfl)
def e82:Env:=env1 [(106,s106)]
theorem g82:Zai e82:=Zal mix1 ent1 (Zab ZCv rfl Zah)
def s82:Spec:=Zap (Zaa (Zae .u64) (Zac (Zae .u64))) (Zb0 (Zaa (Zae .u64) (Zac (Zae .u64)))) ZdJ
theorem ok82:Zao Tryz.prog 82 s82 :=
 Zaj (V:=e82) (L:=nL) (rounds:=20) (depth:=6) g82 Zak (fun x=>by kernel_rfl)
def e109:Env:=env1 []
theorem g109:Zai e109:=Zal mix1 ent1 Zah
def s109:Spec:=Zap (Zaa (Zae .i64) (Zaa (Zae .i64) (Zaa (Zae .i64) (Zac (Zae .i64))))) (Zar (ZaK)) Zjs
theorem ZCU:Zao Tryz.prog 109 s109 :=
 Zaj (V:=e109) (L:=nL) (rounds:=20) (depth:=6) g109 Zak (fun x=>by kernel_rfl)
def e90:Env:=env1 [(109,s109)]
theorem g90:Zai e90:=Zal mix1 ent1 (Zab ZCU rfl Zah)
def s90:Spec:=Zap (Zaa (Zaq Zhe) (Zaa (Zae .i64) (Zaa (Zae .i64) (Zac (Zae .i64))))) (Zb0 (Zaa (Zae .i64) (Zac (ZaK)))) ZcE
theorem ok90:Zao Tryz.prog 90 s90 :=
 Zaj (V:=e90) (L:=nL) (rounds:=20) (depth:=6) g90 Zak (fun x=>by kernel_rfl)
def e120:Env:=env1 [(60,s60),(91,s91)]
theorem g120:Zai e120:=Zal mix1 ent1 (Zab ok60 rfl (Zab ok91 rfl Zah))
def s120:Spec:=Zap (Zaa (Zaq Zcc) (Zaa (Zae .i64) (Zac (Zae .i64)))) (Zb0 (Zaa (Zaq Zcc) (Zac (Zae .i64)))) Zb8
theorem Zqi:Zao Tryz.prog 120 s120 :=
 Zaj (V:=e120) (L:=nL) (rounds:=20) (depth:=6) g120 Zak (fun x=>by kernel_rfl)
def e121:Env:=env1 [(94,s94)]
theorem g121:Zai e121:=Zal mix1 ent1 (Zab ok94 rfl Zah)
def s121:Spec:=Zap (Zaa (Zaq celConfig) (Zac (Zae .i64))) (Zar (Zae .i64)) Zc2
theorem Zv6:Zao Tryz.prog 121 s121 :=
 Zaj (V:=e121) (L:=nL) (rounds:=20) (depth:=6) g121 Zak (fun x=>by kernel_rfl)
def e122:Env:=env1 []
theorem g122:Zai e122:=Zal mix1 ent1 Zah
def s122:Spec:=Zap (Zac (Zaq ZaE)) (Zar (Zaq ZaE)) ZhK
theorem ZCZ:Zao Tryz.prog 122 s122 :=
 Zaj (V:=e122) (L:=nL) (rounds:=20) (depth:=6) g122 Zak (fun x=>by kernel_rfl)
def e114:Env:=env1 [(120,s120),(121,s121),(122,s122)]
theorem g114:Zai e114:=Zal mix1 ent1 (Zab Zqi rfl (Zab Zv6 rfl (Zab ZCZ rfl Zah)))
def s114:Spec:=Zap (Zac (Zaq ZaE)) (Zb0 (Zaa (Zaq ZaE) (Zac (ZaK)))) ZhM
theorem ZDk:Zao Tryz.prog 114 s114 :=
 Zaj (V:=e114) (L:=nL) (rounds:=20) (depth:=6) g114 Zak (fun x=>by kernel_rfl)
def e131:Env:=env1 [(94,s94),(110,s110)]
theorem g131:Zai e131:=Zal mix1 ent1 (Zab ok94 rfl (Zab ZAT rfl Zah))
def s131:Spec:=Zap (Zaa (Zaq celConfig) (Zaa (Zae .i64) (Zac (Zae .i64)))) (Zar (Zae .i64)) Zek
theorem Zwb:Zao Tryz.prog 131 s131 :=
 Zaj (V:=e131) (L:=nL) (rounds:=20) (depth:=6) g131 Zak (fun x=>by kernel_rfl)
def e156:Env:=env1 []
theorem g156:Zai e156:=Zal mix1 ent1 Zah
def s156:Spec:=Zap (Zac (Zaq Zvw)) (Zar (Zae .i64)) ZbM
theorem ZqK:Zao Tryz.prog 156 s156 :=
 Zaj (V:=e156) (L:=nL) (rounds:=20) (depth:=6) g156 Zak (fun x=>by kernel_rfl)
def e132:Env:=env1 [(156,s156)]
theorem g132:Zai e132:=Zal mix1 ent1 (Zab ZqK rfl Zah)
def s132:Spec:=Zap (Zac (Zae .i64)) (Zar (Zae .i64)) Ze7
theorem Zwf:Zao Tryz.prog 132 s132 :=
 Zaj (V:=e132) (L:=nL) (rounds:=20) (depth:=6) g132 Zak (fun x=>by kernel_rfl)
def e157:Env:=env1 []
theorem g157:Zai e157:=Zal mix1 ent1 Zah
def s157:Spec:=Zap (Zac (Zae .i64)) (Zar (Zae .i64)) ZiM
theorem ZCo:Zao Tryz.prog 157 s157 :=
 Zaj (V:=e157) (L:=nL) (rounds:=20) (depth:=6) g157 Zak (fun x=>by kernel_rfl)
def e174:Env:=env1 []
theorem g174:Zai e174:=Zal mix1 ent1 Zah
def s174:Spec:=Zap (Zac (Zaq ZaE)) (Zar (Zaq ZaE)) Zgb
theorem ZAK:Zao Tryz.prog 174 s174 :=
 Zaj (V:=e174) (L:=nL) (rounds:=20) (depth:=6) g174 Zak (fun x=>by kernel_rfl)
def e158:Env:=env1 [(174,s174)]
theorem g158:Zai e158:=Zal mix1 ent1 (Zab ZAK rfl Zah)
def s158:Spec:=Zap (Zac (Zaq ZaE)) (Zar (Zaq ZaE)) Zej
theorem Zxi:Zao Tryz.prog 158 s158 :=
 Zaj (V:=e158) (L:=nL) (rounds:=20) (depth:=6) g158 Zak (fun x=>by kernel_rfl)
def e133:Env:=env1 [(60,s60),(157,s157),(158,s158)]
theorem g133:Zai e133:=Zal mix1 ent1 (Zab ok60 rfl (Zab ZCo rfl (Zab Zxi rfl Zah)))
def s133:Spec:=Zap (Zac (Zaq ZaE)) (Zar (Zaq ZaE)) Zjy
theorem ZCI:Zao Tryz.prog 133 s133 :=
 Zaj (V:=e133) (L:=nL) (rounds:=20) (depth:=6) g133 Zak (fun x=>by kernel_rfl)
def e135:Env:=env1 [(60,s60),(91,s91)]
theorem g135:Zai e135:=Zal mix1 ent1 (Zab ok60 rfl (Zab ok91 rfl Zah))
def s135:Spec:=Zap (Zaa (Zaq Zcc) (Zaa (Zae .i64) (Zaa (Zae .i64) (Zac (Zae .i64))))) (Zb0 (Zaa (Zaq Zcc) (Zaa (ZaK) (Zac (Zae .i64))))) ZcN
theorem ZsV:Zao Tryz.prog 135 s135 :=
 Zaj (V:=e135) (L:=nL) (rounds:=20) (depth:=6) g135 Zak (fun x=>by kernel_rfl)
def e153:Env:=env1 []
theorem g153:Zai e153:=Zal mix1 ent1 Zah
def s153:Spec:=Zap (Zac (Zaq ZaE)) (Zar (ZaK)) ZdQ
theorem ZwF:Zao Tryz.prog 153 s153 :=
 Zaj (V:=e153) (L:=nL) (rounds:=20) (depth:=6) g153 Zak (fun x=>by kernel_rfl)
def e175:Env:=env1 []
theorem g175:Zai e175:=Zal mix1 ent1 Zah
def s175:Spec:=Zap (Zac (Zae .i64)) (Zar (Zaq Zvw)) Zjj
theorem ZAa:Zao Tryz.prog 175 s175 :=
 Zaj (V:=e175) (L:=nL) (rounds:=20) (depth:=6) g175 Zak (fun x=>by kernel_rfl)
def e160:Env:=env1 [(175,s175)]
theorem g160:Zai e160:=Zal mix1 ent1 (Zab ZAa rfl Zah)
def s160:Spec:=Zap (Zac (Zae .i64)) (Zar (Zae .i64)) ZgS
theorem ZAb:Zao Tryz.prog 160 s160 :=
 Zaj (V:=e160) (L:=nL) (rounds:=20) (depth:=6) g160 Zak (fun x=>by kernel_rfl)
def e136:Env:=env1 [(153,s153),(158,s158),(160,s160)]
theorem g136:Zai e136:=Zal mix1 ent1 (Zab ZwF rfl (Zab Zxi rfl (Zab ZAb rfl Zah)))
def s136:Spec:=Zap (Zaa (Zaq ZaE) (Zac (Zae .i64))) (Zar (Zaq ZaE)) Zkx
theorem ZCp:Zao Tryz.prog 136 s136 :=
 Zaj (V:=e136) (L:=nL) (rounds:=20) (depth:=6) g136 Zak (fun x=>by kernel_rfl)
def e137:Env:=env1 [(156,s156)]
theorem g137:Zai e137:=Zal mix1 ent1 (Zab ZqK rfl Zah)
def s137:Spec:=Zap (Zac (Zae .i64)) (Zar (Zae .i64)) ZjG
theorem ZCn:Zao Tryz.prog 137 s137 :=
 Zaj (V:=e137) (L:=nL) (rounds:=20) (depth:=6) g137 Zak (fun x=>by kernel_rfl)
def e138:Env:=env1 [(158,s158)]
theorem g138:Zai e138:=Zal mix1 ent1 (Zab Zxi rfl Zah)
def s138:Spec:=Zap (Zac (Zaq ZaE)) (Zar (Zaq ZaE)) Zix
theorem ZCS:Zao Tryz.prog 138 s138 :=
 Zaj (V:=e138) (L:=nL) (rounds:=20) (depth:=6) g138 Zak (fun x=>by kernel_rfl)
def e117:Env:=env1 [(70,s70),(131,s131),(132,s132),(133,s133),(135,s135),(136,s136),(137,s137),(138,s138)]
theorem g117:Zai e117:=Zal mix1 ent1 (Zab ok70 rfl (Zab Zwb rfl (Zab Zwf rfl (Zab ZCI rfl (Zab ZsV rfl (Zab ZCp rfl (Zab ZCn rfl (Zab ZCS rfl Zah))))))))
def s117:Spec:=Zap (Zac (Zaq ZaE)) (Zb0 (Zaa (Zaq ZaE) (Zac (ZaK)))) ZkO
theorem ZCG:Zao Tryz.prog 117 s117 :=
 Zaj (V:=e117) (L:=nL) (rounds:=20) (depth:=6) g117 Zak (fun x=>by kernel_rfl)
def e176:Env:=env1 [(131,s131)]
theorem g176:Zai e176:=Zal mix1 ent1 (Zab Zwb rfl Zah)
def s176:Spec:=Zap (Zac (Zaq ZaE)) (Zar (Zae .i64)) Zfs
theorem ZvZ:Zao Tryz.prog 176 s176 :=
 Zaj (V:=e176) (L:=nL) (rounds:=20) (depth:=6) g176 Zak (fun x=>by kernel_rfl)
def e177:Env:=env1 [(175,s175)]
theorem g177:Zai e177:=Zal mix1 ent1 (Zab ZAa rfl Zah)
def s177:Spec:=Zap (Zac (Zae .i64)) (Zar (Zae .i64)) ZmG
theorem ZCL:Zao Tryz.prog 177 s177 :=
 Zaj (V:=e177) (L:=nL) (rounds:=20) (depth:=6) g177 Zak (fun x=>by kernel_rfl)
def e161:Env:=env1 [(70,s70),(132,s132),(160,s160),(176,s176),(177,s177)]
theorem g161:Zai e161:=Zal mix1 ent1 (Zab ok70 rfl (Zab Zwf rfl (Zab ZAb rfl (Zab ZvZ rfl (Zab ZCL rfl Zah)))))
def s161:Spec:=Zap (Zac (Zaq ZaE)) (Zar (Zaq ZaE)) ZjV
theorem ZCP:Zao Tryz.prog 161 s161 :=
 Zaj (V:=e161) (L:=nL) (rounds:=20) (depth:=6) g161 Zak (fun x=>by kernel_rfl)
def e180:Env:=env1 [(174,s174)]
theorem g180:Zai e180:=Zal mix1 ent1 (Zab ZAK rfl Zah)
def s180:Spec:=Zap (Zac (Zaq ZaE)) (Zar (Zaq ZaE)) Zhd
theorem ZAg:Zao Tryz.prog 180 s180 :=
 Zaj (V:=e180) (L:=nL) (rounds:=20) (depth:=6) g180 Zak (fun x=>by kernel_rfl)
def e162:Env:=env1 [(132,s132),(135,s135),(176,s176),(180,s180)]
theorem g162:Zai e162:=Zal mix1 ent1 (Zab Zwf rfl (Zab ZsV rfl (Zab ZvZ rfl (Zab ZAg rfl Zah))))
def s162:Spec:=Zap (Zac (Zaq ZaE)) (Zar (Zaq ZaE)) ZjI
theorem ZCW:Zao Tryz.prog 162 s162 :=
 Zaj (V:=e162) (L:=nL) (rounds:=20) (depth:=6) g162 Zak (fun x=>by kernel_rfl)
def e173:Env:=env1 []
theorem g173:Zai e173:=Zal mix1 ent1 Zah
def s173:Spec:=Zap (Zac (Zan .entry)) (Zar (ZaL 178 .entry)) Zbk
theorem Zv5:Zao Tryz.prog 173 s173 :=
 Ziu (V:=e173) (L:=nL) (rounds:=20) (depth:=6) (r:=(Zar (ZaL 178 .entry))) g173 Zak (by kernel_rfl) (fun x=>by kernel_rfl)
def e191:Env:=env1 []
theorem g191:Zai e191:=Zal mix1 ent1 Zah
def s191:Spec:=Zap (Zaa (Zan (.lst .entry)) (Zac (Zae .i64))) (Zb0 (Zaa (Zan .entry) (Zac (Zae .i64)))) Zcf
theorem ZAo:Zao Tryz.prog 191 s191 :=
 Zaj (V:=e191) (L:=nL) (rounds:=20) (depth:=6) g191 Zak (fun x=>by kernel_rfl)
def e181:Env:=env1 [(173,s173),(191,s191)]
theorem g181:Zai e181:=Zal mix1 ent1 (Zab Zv5 rfl (Zab ZAo rfl Zah))
def s181:Spec:=Zap (Zaa (Zaq Zcc) (Zac (Zae .i64))) (Zb0 (Zaa (Zan .entry) (Zac (Zae .i64)))) Zia
theorem ZAy:Zao Tryz.prog 181 s181 :=
 Zaj (V:=e181) (L:=nL) (rounds:=20) (depth:=6) g181 Zak (fun x=>by kernel_rfl)
def e200:Env:=ZAz []
theorem g200:Zai e200:=Zal mix1 ent1 Zah
def s200:Spec:=Zap (Zaa (Zuc) (Zac (Zae .i64))) (Zar (ZaL 216 .kid)) Zeo
theorem ZCQ:Zao Tryz.prog 200 s200 :=
 Zaj (V:=e200) (L:=nL) (rounds:=20) (depth:=6) g200 Zak (fun x=>by kernel_rfl)
def e192:Env:=env1 [(200,s200)]
theorem g192:Zai e192:=Zal mix1 ent1 (Zab ZCQ rfl Zah)
def ZvR:LSpec:=ZdM [6,25,26,27] (Zaa (ZaL 216 .kid) (Zaa (Zan (.lst .kid)) (Zaa (Zae .i64) (Zac (Zae .i64))))) (⟨.exit 2,[6],(Zac (ZaL 216 .kid))⟩:Way) (ZaC ZbF)
theorem ZyL:LoopOK e192 36 ZvR (Za7 e192.P 192 11) :=
 Zcj (L:=ZaO []) (rounds:=20) (depth:=6) (ts:=[6,25,26,27]) (v:=(Zaa (ZaL 216 .kid) (Zaa (Zan (.lst .kid)) (Zaa (Zae .i64) (Zac (Zae .i64)))))) (a:=⟨.exit 2,[6],(Zac (ZaL 216 .kid))⟩) (step:=ZbF) g192 rfl ZaY (fun x=>by kernel_rfl)
def Zx9:LSpec:=ZdM [0,3,9,10,11] (Zaa (Zan (.lst .kid)) (Zaa (Zae .i64) (Zaa (Zan (.lst .kid)) (Zaa (Zae .i64) (Zac (Zae .i64)))))) (⟨.exit 0,[0,3],(Zaa (Zan (.lst .kid)) (Zac (Zae .i64)))⟩:Way) (ZaC ZbK)
theorem ZzM:LoopOK e192 36 Zx9 (Za7 e192.P 192 3) :=
 Zcj (L:=ZaO []) (rounds:=20) (depth:=6) (ts:=[0,3,9,10,11]) (v:=(Zaa (Zan (.lst .kid)) (Zaa (Zae .i64) (Zaa (Zan (.lst .kid)) (Zaa (Zae .i64) (Zac (Zae .i64))))))) (a:=⟨.exit 0,[0,3],(Zaa (Zan (.lst .kid)) (Zac (Zae .i64)))⟩) (step:=ZbK) g192 rfl ZaY (fun x=>by kernel_rfl)
def s192:Spec:=Zap (Zac (Zan (.lst .kid))) (Zar (ZaL 216 .kid)) ZdR
theorem ZCx:Zao Tryz.prog 192 s192 :=
 Zaj (V:=e192) (L:=(ZaO [(11,ZvR),(3,Zx9)])) (rounds:=20) (depth:=6) g192 (Zbo (nt:=36) (by kernel_rfl) (Zb6 (by kernel_rfl)) (ZaJ ZyL (ZaJ ZzM ZaX))) (fun x=>by kernel_rfl)
def e203:Env:=ZAz []
theorem g203:Zai e203:=Zal mix1 ent1 Zah
def s203:Spec:=Zap (Zaa (Zuc) (Zac (Zae .i64))) (Zar (ZaL 178 .entry)) Zd8
theorem ZDt:Zao Tryz.prog 203 s203 :=
 Zaj (V:=e203) (L:=nL) (rounds:=20) (depth:=6) g203 Zak (fun x=>by kernel_rfl)
def e201:Env:=env1 [(203,s203)]
theorem g201:Zai e201:=Zal mix1 ent1 (Zab ZDt rfl Zah)
def ZvB:LSpec:=ZdM [6,25,26,27] (Zaa (ZaL 178 .entry) (Zaa (Zan (.lst .entry)) (Zaa (Zae .i64) (Zac (Zae .i64))))) (⟨.exit 2,[6],(Zac (ZaL 178 .entry))⟩:Way) (ZaC ZbB)
theorem ZxQ:LoopOK e201 36 ZvB (Za7 e201.P 201 11) :=
 Zcj (L:=ZaO []) (rounds:=20) (depth:=6) (ts:=[6,25,26,27]) (v:=(Zaa (ZaL 178 .entry) (Zaa (Zan (.lst .entry)) (Zaa (Zae .i64) (Zac (Zae .i64)))))) (a:=⟨.exit 2,[6],(Zac (ZaL 178 .entry))⟩) (step:=ZbB) g201 rfl ZaY (fun x=>by kernel_rfl)
def Zxr:LSpec:=ZdM [0,3,9,10,11] (Zaa (Zan (.lst .entry)) (Zaa (Zae .i64) (Zaa (Zan (.lst .entry)) (Zaa (Zae .i64) (Zac (Zae .i64)))))) (⟨.exit 0,[0,3],(Zaa (Zan (.lst .entry)) (Zac (Zae .i64)))⟩:Way) (ZaC ZbI)
theorem Zzq:LoopOK e201 36 Zxr (Za7 e201.P 201 3) :=
 Zcj (L:=ZaO []) (rounds:=20) (depth:=6) (ts:=[0,3,9,10,11]) (v:=(Zaa (Zan (.lst .entry)) (Zaa (Zae .i64) (Zaa (Zan (.lst .entry)) (Zaa (Zae .i64) (Zac (Zae .i64))))))) (a:=⟨.exit 0,[0,3],(Zaa (Zan (.lst .entry)) (Zac (Zae .i64)))⟩) (step:=ZbI) g201 rfl ZaY (fun x=>by kernel_rfl)
def s201:Spec:=Zap (Zac (Zan (.lst .entry))) (Zar (ZaL 178 .entry)) ZdA
theorem ZCF:Zao Tryz.prog 201 s201 :=
 Zaj (V:=e201) (L:=(ZaO [(11,ZvB),(3,Zxr)])) (rounds:=20) (depth:=6) g201 (Zbo (nt:=36) (by kernel_rfl) (Zb6 (by kernel_rfl)) (ZaJ ZxQ (ZaJ Zzq ZaX))) (fun x=>by kernel_rfl)
def e193:Env:=env1 [(201,s201)]
theorem g193:Zai e193:=Zal mix1 ent1 (Zab ZCF rfl Zah)
def s193:Spec:=Zap (Zac (Zan (.lst .entry))) (Zar (Zan .entry)) ZkD
theorem ZDp:Zao Tryz.prog 193 s193 :=
 Zaj (V:=e193) (L:=nL) (rounds:=20) (depth:=6) g193 Zak (fun x=>by kernel_rfl)
def e183:Env:=env1 [(192,s192),(193,s193)]
theorem g183:Zai e183:=Zal mix1 ent1 (Zab ZCx rfl (Zab ZDp rfl Zah))
def s183:Spec:=Zap (Zaa (Zaq ZaE) (Zaa (Zae .i64) (Zac (Zan .entry)))) (Zar (Zaq ZaE)) Zfw
theorem ZAi:Zao Tryz.prog 183 s183 :=
 Zaj (V:=e183) (L:=nL) (rounds:=20) (depth:=6) g183 Zak (fun x=>by kernel_rfl)
def e163:Env:=env1 [(181,s181),(183,s183)]
theorem g163:Zai e163:=Zal mix1 ent1 (Zab ZAy rfl (Zab ZAi rfl Zah))
def s163:Spec:=Zap (Zac (Zaq ZaE)) (Zar (Zaq ZaE)) Zhp
theorem ZC3:Zao Tryz.prog 163 s163 :=
 Zaj (V:=e163) (L:=nL) (rounds:=20) (depth:=6) g163 Zak (fun x=>by kernel_rfl)
def e164:Env:=env1 [(120,s120),(176,s176),(180,s180)]
theorem g164:Zai e164:=Zal mix1 ent1 (Zab Zqi rfl (Zab ZvZ rfl (Zab ZAg rfl Zah)))
def s164:Spec:=Zap (Zac (Zaq ZaE)) (Zar (Zaq ZaE)) ZjH
theorem ZCB:Zao Tryz.prog 164 s164 :=
 Zaj (V:=e164) (L:=nL) (rounds:=20) (depth:=6) g164 Zak (fun x=>by kernel_rfl)
def e194:Env:=env1 []
theorem g194:Zai e194:=Zal mix1 ent1 Zah
def s194:Spec:=Zap (Zac (Zan (.lst .entry))) (Zar (ZaL 54 (.lst .entry))) ZdC
theorem ZDb:Zao Tryz.prog 194 s194 :=
 Ziu (V:=e194) (L:=nL) (rounds:=20) (depth:=6) (r:=(Zar (ZaL 54 (.lst .entry)))) g194 Zak (by kernel_rfl) (fun x=>by kernel_rfl)
def e184:Env:=env1 [(173,s173),(191,s191),(194,s194)]
theorem g184:Zai e184:=Zal mix1 ent1 (Zab Zv5 rfl (Zab ZAo rfl (Zab ZDb rfl Zah)))
def s184:Spec:=Zap (Zaa (Zaq Zcc) (Zaa (Zae .i64) (Zac (Zan .entry)))) (Zb0 (Zaa (Zaq Zcc) (Zac (Zae .i64)))) ZhR
theorem ZAE:Zao Tryz.prog 184 s184 :=
 Zaj (V:=e184) (L:=nL) (rounds:=20) (depth:=6) g184 Zak (fun x=>by kernel_rfl)
def e165:Env:=env1 [(184,s184)]
theorem g165:Zai e165:=Zal mix1 ent1 (Zab ZAE rfl Zah)
def s165:Spec:=Zap (Zac (Zaq ZaE)) (Zar (Zaq ZaE)) Zhw
theorem ZCy:Zao Tryz.prog 165 s165 :=
 Zaj (V:=e165) (L:=nL) (rounds:=20) (depth:=6) g165 Zak (fun x=>by kernel_rfl)
def e185:Env:=env1 [(156,s156)]
theorem g185:Zai e185:=Zal mix1 ent1 (Zab ZqK rfl Zah)
def s185:Spec:=Zap (Zac (Zae .i64)) (Zar (Zae .i64)) Zhm
theorem ZCH:Zao Tryz.prog 185 s185 :=
 Zaj (V:=e185) (L:=nL) (rounds:=20) (depth:=6) g185 Zak (fun x=>by kernel_rfl)
def e166:Env:=env1 [(120,s120),(131,s131),(185,s185)]
theorem g166:Zai e166:=Zal mix1 ent1 (Zab Zqi rfl (Zab Zwb rfl (Zab ZCH rfl Zah)))
def s166:Spec:=Zap (Zac (Zaq ZaE)) (Zar (Zaq ZaE)) Zht
theorem ZCC:Zao Tryz.prog 166 s166 :=
 Zaj (V:=e166) (L:=nL) (rounds:=20) (depth:=6) g166 Zak (fun x=>by kernel_rfl)
def e118:Env:=env1 [(161,s161),(162,s162),(163,s163),(164,s164),(165,s165),(166,s166)]
theorem g118:Zai e118:=Zal mix1 ent1 (Zab ZCP rfl (Zab ZCW rfl (Zab ZC3 rfl (Zab ZCB rfl (Zab ZCy rfl (Zab ZCC rfl Zah))))))
def s118:Spec:=Zap (Zac (Zaq ZaE)) (Zb0 (Zaa (Zaq ZaE) (Zac (ZaK)))) Zjz
theorem ZCA:Zao Tryz.prog 118 s118 :=
 Zaj (V:=e118) (L:=nL) (rounds:=20) (depth:=6) g118 Zak (fun x=>by kernel_rfl)
def e129:Env:=env1 [(153,s153)]
theorem g129:Zai e129:=Zal mix1 ent1 (Zab ZwF rfl Zah)
def s129:Spec:=Zap (Zac (Zaq ZaE)) (Zar (Zaq ZaE)) Zck
theorem ZAI:Zao Tryz.prog 129 s129 :=
 Zaj (V:=e129) (L:=nL) (rounds:=20) (depth:=6) g129 Zak (fun x=>by kernel_rfl)
def e140:Env:=env1 [(156,s156)]
theorem g140:Zai e140:=Zal mix1 ent1 (Zab ZqK rfl Zah)
def s140:Spec:=Zap (Zaa (Zae .i64) (Zac (Zae .i64))) (Zar (Zae .i64)) Zi6
theorem ZCM:Zao Tryz.prog 140 s140 :=
 Zaj (V:=e140) (L:=nL) (rounds:=20) (depth:=6) g140 Zak (fun x=>by kernel_rfl)
def e142:Env:=env1 [(121,s121)]
theorem g142:Zai e142:=Zal mix1 ent1 (Zab Zv6 rfl Zah)
def s142:Spec:=ZhC (Zaa (ZqY (Zam ZaE (Zau .i64))) (Zac (Zae .i64))) (Zar (Zae .i64)) ZbV
theorem ZDh:Zao Tryz.prog 142 s142 :=
 Zgx (V:=e142) (L:=nL) (rounds:=20) (depth:=6) g142 Zak (fun x=>by kernel_rfl)
def e146:Env:=env1 [(156,s156)]
theorem g146:Zai e146:=Zal mix1 ent1 (Zab ZqK rfl Zah)
def s146:Spec:=Zap valsNil (Zar (Zae .i64)) ZgQ
theorem ZDm:Zao Tryz.prog 146 s146 :=
 Zaj (V:=e146) (L:=nL) (rounds:=20) (depth:=6) g146 Zak (fun x=>by kernel_rfl)
def e147:Env:=env1 [(94,s94)]
theorem g147:Zai e147:=Zal mix1 ent1 (Zab ok94 rfl Zah)
def s147:Spec:=Zap (Zaa (Zaq celConfig) (Zac (Zae .i64))) (Zar (Zae .i64)) Zfc
theorem ZDj:Zao Tryz.prog 147 s147 :=
 Zaj (V:=e147) (L:=nL) (rounds:=20) (depth:=6) g147 Zak (fun x=>by kernel_rfl)
def e148:Env:=env1 []
theorem g148:Zai e148:=Zal mix1 ent1 Zah
def s148:Spec:=Zap (Zac (Zaq ZaE)) (Zar (Zaq ZaE)) Zdj
theorem ZAG:Zao Tryz.prog 148 s148 :=
 Zaj (V:=e148) (L:=nL) (rounds:=20) (depth:=6) g148 Zak (fun x=>by kernel_rfl)
def e151:Env:=env1 [(173,s173)]
theorem g151:Zai e151:=Zal mix1 ent1 (Zab Zv5 rfl Zah)
def s151:Spec:=Zap (Zaa (Zan .entry) (Zac (Zae .i64))) (Zar (Zan .entry)) ZkC
theorem ZCq:Zao Tryz.prog 151 s151 :=
 Zaj (V:=e151) (L:=nL) (rounds:=20) (depth:=6) g151 Zak (fun x=>by kernel_rfl)
def e187:Env:=env1 [(60,s60),(91,s91)]
theorem g187:Zai e187:=Zal mix1 ent1 (Zab ok60 rfl (Zab ok91 rfl Zah))
def s187:Spec:=Zap (Zaa (Zaq Zcc) (Zaa (Zae .i64) (Zac (Zae .i64)))) (Zb0 (Zaa (Zaq Zcc) (Zaa (Zae .i64) (Zac (Zae .i64))))) Zlx
theorem ZCt:Zao Tryz.prog 187 s187 :=
 Zaj (V:=e187) (L:=nL) (rounds:=20) (depth:=6) g187 Zak (fun x=>by kernel_rfl)
def e188:Env:=env1 [(94,s94)]
theorem g188:Zai e188:=Zal mix1 ent1 (Zab ok94 rfl Zah)
def s188:Spec:=Zap (Zaa (Zaq celConfig) (Zaa (Zae .i64) (Zaa (Zae .i64) (Zac (Zae .i64))))) (Zar (Zae .i64)) Zko
theorem ZCE:Zao Tryz.prog 188 s188 :=
 Zaj (V:=e188) (L:=nL) (rounds:=20) (depth:=6) g188 Zak (fun x=>by kernel_rfl)
def e204:Env:=env1 []
theorem g204:Zai e204:=Zal mix1 ent1 Zah
def s204:Spec:=Zap (Zac (Zaq ZdL)) (Zar (Zae .i64)) ZfI
theorem ZC2:Zao Tryz.prog 204 s204 :=
 Zaj (V:=e204) (L:=nL) (rounds:=20) (depth:=6) g204 Zak (fun x=>by kernel_rfl)
end Go.Proofs.Mill
