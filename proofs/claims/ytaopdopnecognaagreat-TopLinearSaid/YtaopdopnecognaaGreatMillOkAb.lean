/- The functions compute this. -/
import Derived.Test.YtaopdopnecognaaGreatMillSeat3
import Derived.Test.YtaopdopnecognaaGreatMillFAb
set_option linter.all false
set_option maxRecDepth 100000
noncomputable section
namespace Go.Proofs.Mill
def e37:Env:=env1 []
theorem g37:Zai e37:=Zal mix1 ent1 Zah
def ZBs:LSpec:=Zdm [2,5,6] (Zaa (ZaF 63 .sentry) (Zaa (Zae .i64) (Zad (Zae .i64)))) (⟨.exit 0,[2],(Zad (ZaF 63 .sentry))⟩:Way) (ZaA ZgL)
theorem ZBO:LoopOK e37 16 ZBs (Za5 e37.P 37 2) :=
 Zb9 (L:=ZaL []) (rounds:=20) (depth:=6) (ts:=[2,5,6]) (v:=(Zaa (ZaF 63 .sentry) (Zaa (Zae .i64) (Zad (Zae .i64))))) (a:=⟨.exit 0,[2],(Zad (ZaF 63 .sentry))⟩) (step:=ZgL) g37 rfl ZaY (fun x=>by kernel_rfl)
def s37:Spec:=Zao (Zad (Zaq celConfig)) (Zar (Zap .sentry)) ZhL
theorem ok37:Zan Tryz.prog 37 s37 :=
 Zaj (V:=e37) (L:=(ZaL [(2,ZBs)])) (rounds:=20) (depth:=6) g37 (Zbi (nt:=16) (by kernel_rfl) (Zb1 (by kernel_rfl)) (ZaD ZBO ZaT)) (fun x=>by kernel_rfl)
def e17:Env:=env1 [(37,s37)]
theorem g17:Zai e17:=Zal mix1 ent1 (Zab ok37 rfl Zah)
def ZxE:LSpec:=Zfq [1,4,5,14,15,16] (Zaa (Zae .i64) (Zaa (ZaF 63 .sentry) (Zaa (Zap .sentry) (Zaa (Zap .sentry) (Zaa (Zae .i64) (Zad (Zae .i64))))))) (⟨.exit 0,[4],(Zad (ZaF 63 .sentry))⟩:Way) (⟨.exit 2,[1,4,5],(Zaa (Zae .i64) (Zaa (ZaF 63 .sentry) (Zad (Zap .sentry))))⟩:Way) (ZaA ZdU)
theorem ZvY:LoopOK e17 29 ZxE (Za5 e17.P 17 5) :=
 Zds (L:=ZaL []) (rounds:=20) (depth:=6) (ts:=[1,4,5,14,15,16]) (v:=(Zaa (Zae .i64) (Zaa (ZaF 63 .sentry) (Zaa (Zap .sentry) (Zaa (Zap .sentry) (Zaa (Zae .i64) (Zad (Zae .i64)))))))) (a:=⟨.exit 0,[4],(Zad (ZaF 63 .sentry))⟩) (b:=⟨.exit 2,[1,4,5],(Zaa (Zae .i64) (Zaa (ZaF 63 .sentry) (Zad (Zap .sentry))))⟩) (step:=ZdU) g17 rfl rfl ZaY (fun x=>by kernel_rfl)
def ZBc:LSpec:=Zdm [1,4,5] (Zaa (Zae .i64) (Zaa (ZaF 63 .sentry) (Zad (Zap .sentry)))) (⟨.exit 0,[4],(Zad (ZaF 63 .sentry))⟩:Way) (ZaA ZdS)
theorem ZBX:LoopOK e17 29 ZBc (Za5 e17.P 17 2) :=
 Zb9 (L:=ZaL [(5,ZxE)]) (rounds:=20) (depth:=6) (ts:=[1,4,5]) (v:=(Zaa (Zae .i64) (Zaa (ZaF 63 .sentry) (Zad (Zap .sentry))))) (a:=⟨.exit 0,[4],(Zad (ZaF 63 .sentry))⟩) (step:=ZdS) g17 rfl (ZmR (by kernel_rfl) (ZaD ZvY ZaT)) (fun x=>by kernel_rfl)
def s17:Spec:=Zao (Zaa (Zaq celConfig) (Zad (Zae .i64))) (Zar (Zap .sentry)) ZdW
theorem ok17:Zan Tryz.prog 17 s17 :=
 Zaj (V:=e17) (L:=(ZaL [(5,ZxE),(2,ZBc)])) (rounds:=20) (depth:=6) g17 (Zbi (nt:=29) (by kernel_rfl) (Zb1 (by kernel_rfl)) (ZaD ZvY (ZaD ZBX ZaT))) (fun x=>by kernel_rfl)
def e53:Env:=env1 []
theorem g53:Zai e53:=Zal mix1 ent1 Zah
def s53:Spec:=Zao (Zad (Zaq celConfig)) (Zar (Zae .i64)) ZiX
theorem ok53:Zan Tryz.prog 53 s53 :=
 Zaj (V:=e53) (L:=nL) (rounds:=20) (depth:=6) g53 Zak (fun x=>by kernel_rfl)
def e18:Env:=env1 [(53,s53)]
theorem g18:Zai e18:=Zal mix1 ent1 (Zab ok53 rfl Zah)
def s18:Spec:=Zao (Zad (Zaq celConfig)) (Zar (Zae .i64)) Zdh
theorem ok18:Zan Tryz.prog 18 s18 :=
 Zaj (V:=e18) (L:=nL) (rounds:=20) (depth:=6) g18 Zak (fun x=>by kernel_rfl)
def e20:Env:=env1 []
theorem g20:Zai e20:=Zal mix1 ent1 Zah
def ZAG:LSpec:=Zdm [1,3,4] (Zaa (Zav celConfig) (Zaa (Zae .i64) (Zad (Zae .i64)))) (⟨.exit 0,[3],(Zad (Zae .i64))⟩:Way) (ZaA ZhT)
theorem ZB7:LoopOK e20 15 ZAG (Za5 e20.P 20 3) :=
 Zb9 (L:=ZaL []) (rounds:=20) (depth:=6) (ts:=[1,3,4]) (v:=(Zaa (Zav celConfig) (Zaa (Zae .i64) (Zad (Zae .i64))))) (a:=⟨.exit 0,[3],(Zad (Zae .i64))⟩) (step:=ZhT) g20 rfl ZaY (fun x=>by kernel_rfl)
def s20:Spec:=Zao (Zad (Zaq celConfig)) (Zar (Zae .i64)) Zhl
theorem ok20:Zan Tryz.prog 20 s20 :=
 Zaj (V:=e20) (L:=(ZaL [(3,ZAG)])) (rounds:=20) (depth:=6) g20 (Zbi (nt:=15) (by kernel_rfl) (Zb1 (by kernel_rfl)) (ZaD ZB7 ZaT)) (fun x=>by kernel_rfl)
def e54:Env:=env1 [(20,s20)]
theorem g54:Zai e54:=Zal mix1 ent1 (Zab ok20 rfl Zah)
def s54:Spec:=Zao (Zad (Zaq celConfig)) (Zar (Zae .i64)) Zfy
theorem ok54:Zan Tryz.prog 54 s54 :=
 Zaj (V:=e54) (L:=nL) (rounds:=20) (depth:=6) g54 Zak (fun x=>by kernel_rfl)
def e19:Env:=env1 [(54,s54)]
theorem g19:Zai e19:=Zal mix1 ent1 (Zab ok54 rfl Zah)
def s19:Spec:=Zao (Zad (Zaq celConfig)) (Zar (Zae .i64)) Zoy
theorem ok19:Zan Tryz.prog 19 s19 :=
 Zaj (V:=e19) (L:=nL) (rounds:=20) (depth:=6) g19 Zak (fun x=>by kernel_rfl)
def e21:Env:=env1 [(20,s20),(54,s54)]
theorem g21:Zai e21:=Zal mix1 ent1 (Zab ok20 rfl (Zab ok54 rfl Zah))
def s21:Spec:=Zao (Zaa (Zaq celConfig) (Zaa (Zae .i64) (Zad (Zae .i64)))) (Zar (Zae .i64)) ZnK
theorem ok21:Zan Tryz.prog 21 s21 :=
 Zaj (V:=e21) (L:=nL) (rounds:=20) (depth:=6) g21 Zak (fun x=>by kernel_rfl)
def e22:Env:=env1 [(54,s54)]
theorem g22:Zai e22:=Zal mix1 ent1 (Zab ok54 rfl Zah)
def s22:Spec:=Zao (Zaa (Zaq celConfig) (Zad (Zae .i64))) (Zar (Zae .i64)) Zn2
theorem ok22:Zan Tryz.prog 22 s22 :=
 Zaj (V:=e22) (L:=nL) (rounds:=20) (depth:=6) g22 Zak (fun x=>by kernel_rfl)
def e24:Env:=env1 []
theorem g24:Zai e24:=Zal mix1 ent1 Zah
def s24:Spec:=Zao (Zad (Zaq Zju)) (Zar (ZaN)) ZbE
theorem ok24:Zan Tryz.prog 24 s24 :=
 Zaj (V:=e24) (L:=nL) (rounds:=20) (depth:=6) g24 Zak (fun x=>by kernel_rfl)
def e83:Env:=env1 []
theorem g83:Zai e83:=Zal mix1 ent1 Zah
def s83:Spec:=Zao (Zaa (Zae .i64) (Zad (Zae .i64))) (Zar (ZaN)) ZdR
theorem ok83:Zan Tryz.prog 83 s83 :=
 Zaj (V:=e83) (L:=nL) (rounds:=20) (depth:=6) g83 Zak (fun x=>by kernel_rfl)
def e107:Env:=env1 []
theorem g107:Zai e107:=Zal mix1 ent1 Zah
def s107:Spec:=Zao (Zad (Zae .i64)) (Zar (ZaN)) Zlb
theorem ZEa:Zan Tryz.prog 107 s107 :=
 Zaj (V:=e107) (L:=nL) (rounds:=20) (depth:=6) g107 Zak (fun x=>by kernel_rfl)
def e84:Env:=env1 [(107,s107)]
theorem g84:Zai e84:=Zal mix1 ent1 (Zab ZEa rfl Zah)
def s84:Spec:=Zao (Zaa (Zaq ZhQ) (Zad (ZaN))) (Zar (ZaN)) Zkf
theorem ok84:Zan Tryz.prog 84 s84 :=
 Zaj (V:=e84) (L:=nL) (rounds:=20) (depth:=6) g84 Zak (fun x=>by kernel_rfl)
def e61:Env:=env1 [(83,s83),(84,s84)]
theorem g61:Zai e61:=Zal mix1 ent1 (Zab ok83 rfl (Zab ok84 rfl Zah))
def s61:Spec:=Zao (Zaa (Zaq celConfig) (Zad (Zaq ZdE))) (Zar (Zae .i64)) ZgS
theorem ok61:Zan Tryz.prog 61 s61 :=
 Zaj (V:=e61) (L:=nL) (rounds:=20) (depth:=6) g61 Zak (fun x=>by kernel_rfl)
def e85:Env:=env1 []
theorem g85:Zai e85:=Zal mix1 ent1 Zah
def s85:Spec:=Zao (Zad (Zap .thread)) (Zar (ZaF 57 .thread)) ZeY
theorem ok85:Zan Tryz.prog 85 s85 :=
 Ziv (V:=e85) (L:=nL) (rounds:=20) (depth:=6) (r:=(Zar (ZaF 57 .thread))) g85 Zak (by kernel_rfl) (fun x=>by kernel_rfl)
def e86:Env:=env1 []
theorem g86:Zai e86:=Zal mix1 ent1 Zah
def s86:Spec:=Zao (Zad (Zap .mark)) (Zar (ZaF 65 .mark)) ZfI
theorem ok86:Zan Tryz.prog 86 s86 :=
 Ziv (V:=e86) (L:=nL) (rounds:=20) (depth:=6) (r:=(Zar (ZaF 65 .mark))) g86 Zak (by kernel_rfl) (fun x=>by kernel_rfl)
def e87:Env:=env1 []
theorem g87:Zai e87:=Zal mix1 ent1 Zah
def s87:Spec:=Zao (Zad (Zap .event)) (Zar (ZaF 50 .event)) ZfO
theorem ok87:Zan Tryz.prog 87 s87 :=
 Ziv (V:=e87) (L:=nL) (rounds:=20) (depth:=6) (r:=(Zar (ZaF 50 .event))) g87 Zak (by kernel_rfl) (fun x=>by kernel_rfl)
def e112:Env:=env1 []
theorem g112:Zai e112:=Zal mix1 ent1 Zah
def s112:Spec:=Zao (Zaa (Zae .i64) (Zad (Zae .i64))) (Zar (Zae .i64)) ZkA
theorem ZDa:Zan Tryz.prog 112 s112 :=
 Zaj (V:=e112) (L:=nL) (rounds:=20) (depth:=6) g112 Zak (fun x=>by kernel_rfl)
def e100:Env:=env1 [(112,s112)]
theorem g100:Zai e100:=Zal mix1 ent1 (Zab ZDa rfl Zah)
def s100:Spec:=Zao (Zaa (Zaq celConfig) (Zaa (Zae .i64) (Zaa (Zaq Zju) (Zaa (Zae .i64) (Zaa (Zaq ZhQ) (Zad (Zae .i64))))))) (Zar (Zaq Zju)) ZgI
theorem ZBo:Zan Tryz.prog 100 s100 :=
 Zaj (V:=e100) (L:=nL) (rounds:=20) (depth:=6) g100 Zak (fun x=>by kernel_rfl)
def e26:Env:=env1 [(24,s24),(61,s61),(85,s85),(86,s86),(87,s87),(100,s100)]
def e49:Env:=env1 []
theorem g49:Zai e49:=Zal mix1 ent1 Zah
def s49:Spec:=Zao (Zad (Zaq celConfig)) (Zar (Zae .i64)) ZfM
theorem ok49:Zan Tryz.prog 49 s49 :=
 Zaj (V:=e49) (L:=nL) (rounds:=20) (depth:=6) g49 Zak (fun x=>by kernel_rfl)
def e44:Env:=env1 []
theorem g44:Zai e44:=Zal mix1 ent1 Zah
def s44:Spec:=Zao (Zaa (Zaq ZhQ) (Zad (ZaN))) (Zar (ZaN)) ZlW
theorem ok44:Zan Tryz.prog 44 s44 :=
 Zaj (V:=e44) (L:=nL) (rounds:=20) (depth:=6) g44 Zak (fun x=>by kernel_rfl)
def e65:Env:=env1 [(44,s44)]
theorem g65:Zai e65:=Zal mix1 ent1 (Zab ok44 rfl Zah)
def s65:Spec:=Zao (Zaa (Zaq celConfig) (Zad (Zaq ZdE))) (Zar (Zae .i64)) Zj6
theorem ok65:Zan Tryz.prog 65 s65 :=
 Zaj (V:=e65) (L:=nL) (rounds:=20) (depth:=6) g65 Zak (fun x=>by kernel_rfl)
def e30:Env:=env1 [(49,s49),(65,s65)]
theorem g30:Zai e30:=Zal mix1 ent1 (Zab ok49 rfl (Zab ok65 rfl Zah))
def ZAB:LSpec:=Zfq [1,2,7] (Zaa (Zap .sentry) (Zaa (Zav celConfig) (Zad (Zae .i64)))) (⟨.exit 0,[],valsNil⟩:Way) (⟨.ret,[4,5],(Zaa (Zae .i64) (Zad (Zae .i64)))⟩:Way) (ZaA Zhh)
theorem ZBE:LoopOK e30 33 ZAB (Za5 e30.P 30 7) :=
 Zds (L:=ZaL []) (rounds:=20) (depth:=6) (ts:=[1,2,7]) (v:=(Zaa (Zap .sentry) (Zaa (Zav celConfig) (Zad (Zae .i64))))) (a:=⟨.exit 0,[],valsNil⟩) (b:=⟨.ret,[4,5],(Zaa (Zae .i64) (Zad (Zae .i64)))⟩) (step:=Zhh) g30 rfl rfl ZaY (fun x=>by kernel_rfl)
def s30:Spec:=Zao (Zaa (Zaq celConfig) (Zad (Zap .sentry))) (ZbS (Zaa (Zae .i64) (Zad (Zae .i64)))) ZlL
theorem ok30:Zan Tryz.prog 30 s30 :=
 Zaj (V:=e30) (L:=(ZaL [(7,ZAB)])) (rounds:=20) (depth:=6) g30 (Zbi (nt:=33) (by kernel_rfl) (Zb1 (by kernel_rfl)) (ZaD ZBE ZaT)) (fun x=>by kernel_rfl)
def e32:Env:=env1 [(49,s49)]
theorem g32:Zai e32:=Zal mix1 ent1 (Zab ok49 rfl Zah)
def s32:Spec:=Zao (Zad (Zaq celConfig)) (Zar (ZaN)) ZpA
theorem ok32:Zan Tryz.prog 32 s32 :=
 Zaj (V:=e32) (L:=nL) (rounds:=20) (depth:=6) g32 Zak (fun x=>by kernel_rfl)
def e73:Env:=env1 []
theorem g73:Zai e73:=Zal mix1 ent1 Zah
def s73:Spec:=Zao (Zad (Zaq celConfig)) (Zar (Zae .i64)) Znr
theorem ok73:Zan Tryz.prog 73 s73 :=
 Zaj (V:=e73) (L:=nL) (rounds:=20) (depth:=6) g73 Zak (fun x=>by kernel_rfl)
def e34:Env:=env1 [(73,s73)]
theorem g34:Zai e34:=Zal mix1 ent1 (Zab ok73 rfl Zah)
def s34:Spec:=Zao (Zad (Zaq celConfig)) (Zar (Zae .i64)) Zmm
theorem ok34:Zan Tryz.prog 34 s34 :=
 Zaj (V:=e34) (L:=nL) (rounds:=20) (depth:=6) g34 Zak (fun x=>by kernel_rfl)
def e35:Env:=env1 []
theorem g35:Zai e35:=Zal mix1 ent1 Zah
def ZAD:LSpec:=Zfq [0,1,5] (Zaa (Zap .sentry) (Zaa (Zap .sentry) (Zad (Zae .i64)))) (⟨.exit 0,[],valsNil⟩:Way) (⟨.ret,[4],(Zad (ZaN))⟩:Way) (ZaA ZiI)
theorem ZBH:LoopOK e35 26 ZAD (Za5 e35.P 35 4) :=
 Zds (L:=ZaL []) (rounds:=20) (depth:=6) (ts:=[0,1,5]) (v:=(Zaa (Zap .sentry) (Zaa (Zap .sentry) (Zad (Zae .i64))))) (a:=⟨.exit 0,[],valsNil⟩) (b:=⟨.ret,[4],(Zad (ZaN))⟩) (step:=ZiI) g35 rfl rfl ZaY (fun x=>by kernel_rfl)
def s35:Spec:=Zao (Zaa (Zap .sentry) (Zad (Zap .sentry))) (Zar (ZaN)) Zum
theorem ok35:Zan Tryz.prog 35 s35 :=
 Zaj (V:=e35) (L:=(ZaL [(4,ZAD)])) (rounds:=20) (depth:=6) g35 (Zbi (nt:=26) (by kernel_rfl) (Zb1 (by kernel_rfl)) (ZaD ZBH ZaT)) (fun x=>by kernel_rfl)
def e36:Env:=env1 []
theorem g36:Zai e36:=Zal mix1 ent1 Zah
def ZBn:LSpec:=Zdm [0,3,4] (Zaa (Zap .sentry) (Zaa (ZaF 120 .sentry) (Zad (Zae .i64)))) (⟨.exit 0,[3],(Zad (ZaF 120 .sentry))⟩:Way) (ZaA ZjM)
theorem ZCA:LoopOK e36 37 ZBn (Za5 e36.P 36 3) :=
 Zb9 (L:=ZaL []) (rounds:=20) (depth:=6) (ts:=[0,3,4]) (v:=(Zaa (Zap .sentry) (Zaa (ZaF 120 .sentry) (Zad (Zae .i64))))) (a:=⟨.exit 0,[3],(Zad (ZaF 120 .sentry))⟩) (step:=ZjM) g36 rfl ZaY (fun x=>by kernel_rfl)
def s36:Spec:=Zao (Zad (Zap .sentry)) (Zar (Zap .sentry)) ZvI
theorem ok36:Zan Tryz.prog 36 s36 :=
 Zaj (V:=e36) (L:=(ZaL [(3,ZBn)])) (rounds:=20) (depth:=6) g36 (Zbi (nt:=37) (by kernel_rfl) (Zb1 (by kernel_rfl)) (ZaD ZCA ZaT)) (fun x=>by kernel_rfl)
def e39:Env:=env1 []
theorem g39:Zai e39:=Zal mix1 ent1 Zah
def Zxb:LSpec:=Zfq [1,2,5,6,7] (Zaa (Zae .i64) (Zaa (Zav celConfig) (Zaa (ZaF 120 .sentry) (Zaa (Zae .i64) (Zad (Zae .i64)))))) (⟨.exit 2,[1,2,5,6],(Zaa (Zae .i64) (Zaa (Zav celConfig) (Zaa (ZaF 120 .sentry) (Zad (Zae .i64)))))⟩:Way) (⟨.ret,[4],(Zad (Zap .sentry))⟩:Way) (ZaA Zhp)
theorem Zwc:LoopOK e39 30 Zxb (Za5 e39.P 39 6) :=
 Zds (L:=ZaL []) (rounds:=20) (depth:=6) (ts:=[1,2,5,6,7]) (v:=(Zaa (Zae .i64) (Zaa (Zav celConfig) (Zaa (ZaF 120 .sentry) (Zaa (Zae .i64) (Zad (Zae .i64))))))) (a:=⟨.exit 2,[1,2,5,6],(Zaa (Zae .i64) (Zaa (Zav celConfig) (Zaa (ZaF 120 .sentry) (Zad (Zae .i64)))))⟩) (b:=⟨.ret,[4],(Zad (Zap .sentry))⟩) (step:=Zhp) g39 rfl rfl ZaY (fun x=>by kernel_rfl)
def ZBd:LSpec:=Zfq [1,2,5,6] (Zaa (Zae .i64) (Zaa (Zav celConfig) (Zaa (ZaF 120 .sentry) (Zad (Zae .i64))))) (⟨.exit 0,[5],(Zad (ZaF 120 .sentry))⟩:Way) (⟨.ret,[4],(Zad (Zap .sentry))⟩:Way) (ZaA ZhD)
theorem ZBQ:LoopOK e39 30 ZBd (Za5 e39.P 39 3) :=
 Zds (L:=ZaL [(6,Zxb)]) (rounds:=20) (depth:=6) (ts:=[1,2,5,6]) (v:=(Zaa (Zae .i64) (Zaa (Zav celConfig) (Zaa (ZaF 120 .sentry) (Zad (Zae .i64)))))) (a:=⟨.exit 0,[5],(Zad (ZaF 120 .sentry))⟩) (b:=⟨.ret,[4],(Zad (Zap .sentry))⟩) (step:=ZhD) g39 rfl rfl (ZmR (by kernel_rfl) (ZaD Zwc ZaT)) (fun x=>by kernel_rfl)
def s39:Spec:=Zao (Zaa (Zaq celConfig) (Zad (Zae .i64))) (Zar (Zap .sentry)) Zmj
theorem ok39:Zan Tryz.prog 39 s39 :=
 Zaj (V:=e39) (L:=(ZaL [(6,Zxb),(3,ZBd)])) (rounds:=20) (depth:=6) g39 (Zbi (nt:=30) (by kernel_rfl) (Zb1 (by kernel_rfl)) (ZaD Zwc (ZaD ZBQ ZaT))) (fun x=>by kernel_rfl)
def e38:Env:=env1 [(39,s39)]
theorem g38:Zai e38:=Zal mix1 ent1 (Zab ok39 rfl Zah)
def s38:Spec:=Zao (Zad (Zaq celConfig)) (Zar (Zap .sentry)) Ztc
theorem ok38:Zan Tryz.prog 38 s38 :=
 Zaj (V:=e38) (L:=nL) (rounds:=20) (depth:=6) g38 Zak (fun x=>by kernel_rfl)
def e74:Env:=env1 []
theorem g74:Zai e74:=Zal mix1 ent1 Zah
def ZA7:LSpec:=Zfq [0,6,7] (Zaa (Zap .sentry) (Zaa (Zae .i64) (Zad (Zae .i64)))) (⟨.exit 0,[0],(Zad (Zap .sentry))⟩:Way) (⟨.ret,[2],(Zad (Zap .sentry))⟩:Way) (ZaA Zip)
theorem ZCt:LoopOK e74 26 ZA7 (Za5 e74.P 74 2) :=
 Zds (L:=ZaL []) (rounds:=20) (depth:=6) (ts:=[0,6,7]) (v:=(Zaa (Zap .sentry) (Zaa (Zae .i64) (Zad (Zae .i64))))) (a:=⟨.exit 0,[0],(Zad (Zap .sentry))⟩) (b:=⟨.ret,[2],(Zad (Zap .sentry))⟩) (step:=Zip) g74 rfl rfl ZaY (fun x=>by kernel_rfl)
def s74:Spec:=Zao (Zad (Zap .sentry)) (Zar (Zap .sentry)) Znh
theorem ok74:Zan Tryz.prog 74 s74 :=
 Zaj (V:=e74) (L:=(ZaL [(2,ZA7)])) (rounds:=20) (depth:=6) g74 (Zbi (nt:=26) (by kernel_rfl) (Zb1 (by kernel_rfl)) (ZaD ZCt ZaT)) (fun x=>by kernel_rfl)
def e40:Env:=env1 [(74,s74)]
theorem g40:Zai e40:=Zal mix1 ent1 (Zab ok74 rfl Zah)
def ZAS:LSpec:=Zdm [2,4,5,9,10,11] (Zaa (Zav celConfig) (Zaa (Zae .i64) (Zaa (Zae .i64) (Zaa (Zap .sentry) (Zaa (Zae .i64) (Zad (Zae .i64))))))) (⟨.exit 0,[4],(Zad (Zae .i64))⟩:Way) (ZaA Zix)
theorem ZBS:LoopOK e40 34 ZAS (Za5 e40.P 40 3) :=
 Zb9 (L:=ZaL []) (rounds:=20) (depth:=6) (ts:=[2,4,5,9,10,11]) (v:=(Zaa (Zav celConfig) (Zaa (Zae .i64) (Zaa (Zae .i64) (Zaa (Zap .sentry) (Zaa (Zae .i64) (Zad (Zae .i64)))))))) (a:=⟨.exit 0,[4],(Zad (Zae .i64))⟩) (step:=Zix) g40 rfl ZaY (fun x=>by kernel_rfl)
def s40:Spec:=Zao (Zaa (Zaq celConfig) (Zad (Zap .sentry))) (Zar (Zae .i64)) ZhN
theorem ok40:Zan Tryz.prog 40 s40 :=
 Zaj (V:=e40) (L:=(ZaL [(3,ZAS)])) (rounds:=20) (depth:=6) g40 (Zbi (nt:=34) (by kernel_rfl) (Zb1 (by kernel_rfl)) (ZaD ZBS ZaT)) (fun x=>by kernel_rfl)
def e41:Env:=env1 []
theorem g41:Zai e41:=Zal mix1 ent1 Zah
def ZBl:LSpec:=Zdm [1,2,7,8] (Zaa (Zap .sentry) (Zaa (Zav celConfig) (Zaa (Zae .i64) (Zad (Zae .i64))))) (⟨.exit 2,[2,7],(Zaa (Zav celConfig) (Zad (Zae .i64)))⟩:Way) (ZaA Zh9)
theorem ZB3:LoopOK e41 52 ZBl (Za5 e41.P 41 9) :=
 Zb9 (L:=ZaL []) (rounds:=20) (depth:=6) (ts:=[1,2,7,8]) (v:=(Zaa (Zap .sentry) (Zaa (Zav celConfig) (Zaa (Zae .i64) (Zad (Zae .i64)))))) (a:=⟨.exit 2,[2,7],(Zaa (Zav celConfig) (Zad (Zae .i64)))⟩) (step:=Zh9) g41 rfl ZaY (fun x=>by kernel_rfl)
def ZAP:LSpec:=Zdm [1,2,5,6] (Zaa (Zap .sentry) (Zaa (Zav celConfig) (Zaa (Zae .i64) (Zad (Zae .i64))))) (⟨.exit 0,[1,2,5],(Zaa (Zap .sentry) (Zaa (Zav celConfig) (Zad (Zae .i64))))⟩:Way) (ZaA ZhZ)
theorem ZCc:LoopOK e41 52 ZAP (Za5 e41.P 41 3) :=
 Zb9 (L:=ZaL []) (rounds:=20) (depth:=6) (ts:=[1,2,5,6]) (v:=(Zaa (Zap .sentry) (Zaa (Zav celConfig) (Zaa (Zae .i64) (Zad (Zae .i64)))))) (a:=⟨.exit 0,[1,2,5],(Zaa (Zap .sentry) (Zaa (Zav celConfig) (Zad (Zae .i64))))⟩) (step:=ZhZ) g41 rfl ZaY (fun x=>by kernel_rfl)
def s41:Spec:=Zao (Zaa (Zaq celConfig) (Zad (Zap .sentry))) (Zar (Zae .i64)) Znd
theorem ok41:Zan Tryz.prog 41 s41 :=
 Zaj (V:=e41) (L:=(ZaL [(9,ZBl),(3,ZAP)])) (rounds:=20) (depth:=6) g41 (Zbi (nt:=52) (by kernel_rfl) (Zb1 (by kernel_rfl)) (ZaD ZB3 (ZaD ZCc ZaT))) (fun x=>by kernel_rfl)
def e42:Env:=env1 [(18,s18),(40,s40)]
theorem g42:Zai e42:=Zal mix1 ent1 (Zab ok18 rfl (Zab ok40 rfl Zah))
def s42:Spec:=Zao (Zaa (Zaq celConfig) (Zad (Zap .sentry))) (Zar (ZaN)) ZfY
theorem ok42:Zan Tryz.prog 42 s42 :=
 Zaj (V:=e42) (L:=nL) (rounds:=20) (depth:=6) g42 Zak (fun x=>by kernel_rfl)
def e43:Env:=env1 [(34,s34),(41,s41)]
theorem g43:Zai e43:=Zal mix1 ent1 (Zab ok34 rfl (Zab ok41 rfl Zah))
def s43:Spec:=Zao (Zaa (Zaq celConfig) (Zad (Zap .sentry))) (Zar (ZaN)) Zux
theorem ok43:Zan Tryz.prog 43 s43 :=
 Zaj (V:=e43) (L:=nL) (rounds:=20) (depth:=6) g43 Zak (fun x=>by kernel_rfl)
def e45:Env:=env1 [(24,s24)]
theorem g45:Zai e45:=Zal mix1 ent1 (Zab ok24 rfl Zah)
def ZA8:LSpec:=Zdm [2,6,7,8] (Zaa (Zae .i64) (Zaa (Zap .thread) (Zaa (Zae .i64) (Zad (Zae .i64))))) (⟨.exit 0,[2],(Zad (Zae .i64))⟩:Way) (ZaA ZgW)
theorem ZCw:LoopOK e45 18 ZA8 (Za5 e45.P 45 2) :=
 Zb9 (L:=ZaL []) (rounds:=20) (depth:=6) (ts:=[2,6,7,8]) (v:=(Zaa (Zae .i64) (Zaa (Zap .thread) (Zaa (Zae .i64) (Zad (Zae .i64)))))) (a:=⟨.exit 0,[2],(Zad (Zae .i64))⟩) (step:=ZgW) g45 rfl ZaY (fun x=>by kernel_rfl)
def s45:Spec:=Zao (Zad (Zaq Zc0)) (Zar (Zae .i64)) Ze1
theorem ok45:Zan Tryz.prog 45 s45 :=
 Zaj (V:=e45) (L:=(ZaL [(2,ZA8)])) (rounds:=20) (depth:=6) g45 (Zbi (nt:=18) (by kernel_rfl) (Zb1 (by kernel_rfl)) (ZaD ZCw ZaT)) (fun x=>by kernel_rfl)
def s47:Spec:=Zao (Zaa (Zaq celConfig) (Zad (Zae .i64))) (Zar (Zae .i64)) Zuh
def s48:Spec:=Zao (Zaa (Zaq ZhQ) (Zaa (Zae .i64) (Zaa (Zae .i64) (Zad (Zae .i64))))) (ZbS (Zaa (Zae .i64) (Zad (ZaN)))) ZsX
def e56:Env:=env1 []
theorem g56:Zai e56:=Zal mix1 ent1 Zah
def ZAF:LSpec:=Zfq [1,29,30] (Zaa (Zav celConfig) (Zaa (Zaq (Zam (Zau .i64) (Zam (Zau .i64) (Zam (Zau .i64) (Zam (Zau .i64) (Zam (Zau .i64) (Zam (Zau .i64) (Zam (Zau .i64) (Zam (Zau .i64) (Zam (Zau .i64) (Zam (Zau .i64) (Zam (Zau .i64) (Zam (Zau .i64) (Zam (Zau .i64) (Zam (Zau .i64) (Zam (Zau .i64) (Zam (Zau .i64) (Zam (Zau .i64) (Zam (Zau .i64) (Zam (Zau .i64) (Zam (Zau .i64) (Zam (Zau .i64) (Zam (Zau .i64) (Zam (Zau .i64) (Zau .i64))))))))))))))))))))))))) (Zad (Zae .i64)))) (⟨.exit 0,[1],(Zad (Zav celConfig))⟩:Way) (⟨.ret,[2],(Zad (Zae .i64))⟩:Way) (ZaA Zeu)
theorem ZCq:LoopOK e56 65 ZAF (Za5 e56.P 56 2) :=
 Zds (L:=ZaL []) (rounds:=20) (depth:=6) (ts:=[1,29,30]) (v:=(Zaa (Zav celConfig) (Zaa (Zaq (Zam (Zau .i64) (Zam (Zau .i64) (Zam (Zau .i64) (Zam (Zau .i64) (Zam (Zau .i64) (Zam (Zau .i64) (Zam (Zau .i64) (Zam (Zau .i64) (Zam (Zau .i64) (Zam (Zau .i64) (Zam (Zau .i64) (Zam (Zau .i64) (Zam (Zau .i64) (Zam (Zau .i64) (Zam (Zau .i64) (Zam (Zau .i64) (Zam (Zau .i64) (Zam (Zau .i64) (Zam (Zau .i64) (Zam (Zau .i64) (Zam (Zau .i64) (Zam (Zau .i64) (Zam (Zau .i64) (Zau .i64))))))))))))))))))))))))) (Zad (Zae .i64))))) (a:=⟨.exit 0,[1],(Zad (Zav celConfig))⟩) (b:=⟨.ret,[2],(Zad (Zae .i64))⟩) (step:=Zeu) g56 rfl rfl ZaY (fun x=>by kernel_rfl)
def s56:Spec:=Zao (Zad (Zaq celConfig)) (Zar (Zae .i64)) Zdo
theorem ok56:Zan Tryz.prog 56 s56 :=
 Zaj (V:=e56) (L:=(ZaL [(2,ZAF)])) (rounds:=20) (depth:=6) g56 (Zbi (nt:=65) (by kernel_rfl) (Zb1 (by kernel_rfl)) (ZaD ZCq ZaT)) (fun x=>by kernel_rfl)
def e51:Env:=env1 [(56,s56),(61,s61)]
theorem g51:Zai e51:=Zal mix1 ent1 (Zab ok56 rfl (Zab ok61 rfl Zah))
def ZAM:LSpec:=Zfq [2,18,19,20] (Zaa (Zav celConfig) (Zaa (Zap .sentry) (Zaa (Zae .i64) (Zad (Zae .i64))))) (⟨.exit 0,[],valsNil⟩:Way) (⟨.ret,[4,5],(Zaa (Zae .i64) (Zad (Zae .i64)))⟩:Way) (ZaA ZgQ)
theorem ZCp:LoopOK e51 33 ZAM (Za5 e51.P 51 7) :=
 Zds (L:=ZaL []) (rounds:=20) (depth:=6) (ts:=[2,18,19,20]) (v:=(Zaa (Zav celConfig) (Zaa (Zap .sentry) (Zaa (Zae .i64) (Zad (Zae .i64)))))) (a:=⟨.exit 0,[],valsNil⟩) (b:=⟨.ret,[4,5],(Zaa (Zae .i64) (Zad (Zae .i64)))⟩) (step:=ZgQ) g51 rfl rfl ZaY (fun x=>by kernel_rfl)
def s51:Spec:=Zao (Zaa (Zaq celConfig) (Zad (Zap .sentry))) (ZbS (Zaa (Zae .i64) (Zad (Zae .i64)))) Zgc
theorem ok51:Zan Tryz.prog 51 s51 :=
 Zaj (V:=e51) (L:=(ZaL [(7,ZAM)])) (rounds:=20) (depth:=6) g51 (Zbi (nt:=33) (by kernel_rfl) (Zb1 (by kernel_rfl)) (ZaD ZCp ZaT)) (fun x=>by kernel_rfl)
def e110:Env:=env1 []
theorem g110:Zai e110:=Zal mix1 ent1 Zah
def s110:Spec:=Zao (Zad (Zaq celConfig)) (Zar (Zae .i64)) ZfA
theorem ZAY:Zan Tryz.prog 110 s110 :=
 Zaj (V:=e110) (L:=nL) (rounds:=20) (depth:=6) g110 Zak (fun x=>by kernel_rfl)
def e94:Env:=env1 [(110,s110)]
theorem g94:Zai e94:=Zal mix1 ent1 (Zab ZAY rfl Zah)
def s94:Spec:=Zao (Zad (Zaq celConfig)) (Zar (Zaq ZCf)) Zcl
theorem ok94:Zan Tryz.prog 94 s94 :=
 Zaj (V:=e94) (L:=nL) (rounds:=20) (depth:=6) g94 Zak (fun x=>by kernel_rfl)
def e71:Env:=env1 [(94,s94)]
theorem g71:Zai e71:=Zal mix1 ent1 (Zab ok94 rfl Zah)
def s71:Spec:=Zao (Zaa (Zaq celConfig) (Zad (Zae .i64))) (Zar (Zae .i64)) ZcM
theorem ok71:Zan Tryz.prog 71 s71 :=
 Zaj (V:=e71) (L:=nL) (rounds:=20) (depth:=6) g71 Zak (fun x=>by kernel_rfl)
def e103:Env:=env1 []
theorem g103:Zai e103:=Zal mix1 ent1 Zah
def s103:Spec:=Zao (Zad (Zae .i64)) (Zar (ZaF 3 .int)) ZhM
theorem ZEc:Zan Tryz.prog 103 s103 :=
 Zaj (V:=e103) (L:=nL) (rounds:=20) (depth:=6) g103 Zak (fun x=>by kernel_rfl)
def e104:Env:=env1 []
theorem g104:Zai e104:=Zal mix1 ent1 Zah
def s104:Spec:=Zao (Zad (Zae .i64)) (Zar (ZaF 54 (.lst .entry))) Zem
theorem ZDV:Zan Tryz.prog 104 s104 :=
 Zaj (V:=e104) (L:=nL) (rounds:=20) (depth:=6) g104 Zak (fun x=>by kernel_rfl)
def e80:Env:=env1 [(103,s103),(104,s104)]
theorem g80:Zai e80:=Zal mix1 ent1 (Zab ZEc rfl (Zab ZDV rfl Zah))
def s80:Spec:=Zao (Zaa (Zae .i64) (Zad (Zae .i64))) (Zar (Zaq (Zcx (Zam (ZbA 3 .int) (ZbA 54 (.lst .entry))) Memo (fun y=>⟨y.1,y.2⟩) (fun x=>(x.words,x.boxes)) (fun _=>rfl)))) ZmO
theorem ok80:Zan Tryz.prog 80 s80 :=
 Zaj (V:=e80) (L:=nL) (rounds:=20) (depth:=6) g80 Zak (fun x=>by kernel_rfl)
def e81:Env:=env1 [(94,s94)]
theorem g81:Zai e81:=Zal mix1 ent1 (Zab ok94 rfl Zah)
def s81:Spec:=Zao (Zad (Zaq celConfig)) (Zar (Zae .i64)) ZkD
theorem ok81:Zan Tryz.prog 81 s81 :=
 Zaj (V:=e81) (L:=nL) (rounds:=20) (depth:=6) g81 Zak (fun x=>by kernel_rfl)
def e57:Env:=env1 [(71,s71),(80,s80),(81,s81)]
theorem g57:Zai e57:=Zal mix1 ent1 (Zab ok71 rfl (Zab ok80 rfl (Zab ok81 rfl Zah)))
def ZBr:LSpec:=Zdm [1,2,3,11,12] (Zaa (Zav celConfig) (Zaa (Zav Zcd) (Zaa (Zav (Zcx (Zam (ZbA 3 .int) (ZbA 54 (.lst .entry))) Memo (fun y=>⟨y.1,y.2⟩) (fun x=>(x.words,x.boxes)) (fun _=>rfl))) (Zaa (Zae .i64) (Zad (Zae .i64)))))) (⟨.exit 0,[2,3],(Zaa (Zav Zcd) (Zad (Zav (Zcx (Zam (ZbA 3 .int) (ZbA 54 (.lst .entry))) Memo (fun y=>⟨y.1,y.2⟩) (fun x=>(x.words,x.boxes)) (fun _=>rfl)))))⟩:Way) (ZaA Zf3)
theorem ZCm:LoopOK e57 25 ZBr (Za5 e57.P 57 3) :=
 Zb9 (L:=ZaL []) (rounds:=20) (depth:=6) (ts:=[1,2,3,11,12]) (v:=(Zaa (Zav celConfig) (Zaa (Zav Zcd) (Zaa (Zav (Zcx (Zam (ZbA 3 .int) (ZbA 54 (.lst .entry))) Memo (fun y=>⟨y.1,y.2⟩) (fun x=>(x.words,x.boxes)) (fun _=>rfl))) (Zaa (Zae .i64) (Zad (Zae .i64))))))) (a:=⟨.exit 0,[2,3],(Zaa (Zav Zcd) (Zad (Zav (Zcx (Zam (ZbA 3 .int) (ZbA 54 (.lst .entry))) Memo (fun y=>⟨y.1,y.2⟩) (fun x=>(x.words,x.boxes)) (fun _=>rfl)))))⟩) (step:=Zf3) g57 rfl ZaY (fun x=>by kernel_rfl)
def s57:Spec:=Zao (Zad (Zaq celConfig)) (Zar (Zaq (Zcx (Zam (ZbA 3 .int) (ZbA 54 (.lst .entry))) Memo (fun y=>⟨y.1,y.2⟩) (fun x=>(x.words,x.boxes)) (fun _=>rfl)))) Zj3
theorem ok57:Zan Tryz.prog 57 s57 :=
 Zaj (V:=e57) (L:=(ZaL [(3,ZBr)])) (rounds:=20) (depth:=6) g57 (Zbi (nt:=25) (by kernel_rfl) (Zb1 (by kernel_rfl)) (ZaD ZCm ZaT)) (fun x=>by kernel_rfl)
def e59:Env:=env1 []
theorem g59:Zai e59:=Zal mix1 ent1 Zah
def s59:Spec:=Zao valsNil (Zar (Zaq Zju)) Zky
theorem ok59:Zan Tryz.prog 59 s59 :=
 Zaj (V:=e59) (L:=nL) (rounds:=20) (depth:=6) g59 Zak (fun x=>by kernel_rfl)
def e60:Env:=env1 []
theorem g60:Zai e60:=Zal mix1 ent1 Zah
def s60:Spec:=Zao (Zad (Zap .int)) (Zar (ZaF 3 .int)) Zbs
theorem ok60:Zan Tryz.prog 60 s60 :=
 Ziv (V:=e60) (L:=nL) (rounds:=20) (depth:=6) (r:=(Zar (ZaF 3 .int))) g60 Zak (by kernel_rfl) (fun x=>by kernel_rfl)
def e64:Env:=env1 []
theorem g64:Zai e64:=Zal mix1 ent1 Zah
def s64:Spec:=Zao (Zad (Zae .i64)) (Zar (Zae .i64)) ZjL
theorem ok64:Zan Tryz.prog 64 s64 :=
 Zaj (V:=e64) (L:=nL) (rounds:=20) (depth:=6) g64 Zak (fun x=>by kernel_rfl)
def e91:Env:=env1 []
theorem g91:Zai e91:=Zal mix1 ent1 Zah
def s91:Spec:=Zao (Zaa (Zap .int) (Zad (Zae .i64))) (ZbS (Zaa (Zae .i64) (Zad (Zae .i64)))) ZbD
theorem ok91:Zan Tryz.prog 91 s91 :=
 Zaj (V:=e91) (L:=nL) (rounds:=20) (depth:=6) g91 Zak (fun x=>by kernel_rfl)
def e70:Env:=env1 [(91,s91)]
theorem g70:Zai e70:=Zal mix1 ent1 (Zab ok91 rfl Zah)
def s70:Spec:=Zao (Zaa (Zaq Zcd) (Zad (Zae .i64))) (ZbS (Zaa (Zae .i64) (Zad (Zae .i64)))) ZbX
theorem ok70:Zan Tryz.prog 70 s70 :=
 Zaj (V:=e70) (L:=nL) (rounds:=20) (depth:=6) g70 Zak (fun x=>by kernel_rfl)
def e106:Env:=env1 []
theorem g106:Zai e106:=Zal mix1 ent1 Zah
def s106:Spec:=Zao (Zaa (Zae .u64) (Zad (Zae .u64))) (ZbS (Zaa (Zae .u64) (Zad (Zae .u64)))) Zj8
theorem ZDf:Zan Tryz.prog 106 s106 :=
 Zaj (V:=e106) (L:=nL) (rounds:=20) (depth:=6) g106 Zak (fun x=>by kernel_rfl)
def e82:Env:=env1 [(106,s106)]
theorem g82:Zai e82:=Zal mix1 ent1 (Zab ZDf rfl Zah)
def s82:Spec:=Zao (Zaa (Zae .u64) (Zad (Zae .u64))) (ZbS (Zaa (Zae .u64) (Zad (Zae .u64)))) ZdT
theorem ok82:Zan Tryz.prog 82 s82 :=
 Zaj (V:=e82) (L:=nL) (rounds:=20) (depth:=6) g82 Zak (fun x=>by kernel_rfl)
def e109:Env:=env1 []
theorem g109:Zai e109:=Zal mix1 ent1 Zah
def s109:Spec:=Zao (Zaa (Zae .i64) (Zaa (Zae .i64) (Zaa (Zae .i64) (Zad (Zae .i64))))) (Zar (ZaN)) ZjH
theorem ZDA:Zan Tryz.prog 109 s109 :=
 Zaj (V:=e109) (L:=nL) (rounds:=20) (depth:=6) g109 Zak (fun x=>by kernel_rfl)
def e90:Env:=env1 [(109,s109)]
theorem g90:Zai e90:=Zal mix1 ent1 (Zab ZDA rfl Zah)
def s90:Spec:=Zao (Zaa (Zaq ZhQ) (Zaa (Zae .i64) (Zaa (Zae .i64) (Zad (Zae .i64))))) (ZbS (Zaa (Zae .i64) (Zad (ZaN)))) Zcf
theorem ok90:Zan Tryz.prog 90 s90 :=
 Zaj (V:=e90) (L:=nL) (rounds:=20) (depth:=6) g90 Zak (fun x=>by kernel_rfl)
def e120:Env:=env1 [(60,s60),(91,s91)]
theorem g120:Zai e120:=Zal mix1 ent1 (Zab ok60 rfl (Zab ok91 rfl Zah))
def s120:Spec:=Zao (Zaa (Zaq Zcd) (Zaa (Zae .i64) (Zad (Zae .i64)))) (ZbS (Zaa (Zaq Zcd) (Zad (Zae .i64)))) Zb5
theorem ZqE:Zan Tryz.prog 120 s120 :=
 Zaj (V:=e120) (L:=nL) (rounds:=20) (depth:=6) g120 Zak (fun x=>by kernel_rfl)
def e121:Env:=env1 [(94,s94)]
theorem g121:Zai e121:=Zal mix1 ent1 (Zab ok94 rfl Zah)
def s121:Spec:=Zao (Zaa (Zaq celConfig) (Zad (Zae .i64))) (Zar (Zae .i64)) Zc5
theorem Zxa:Zan Tryz.prog 121 s121 :=
 Zaj (V:=e121) (L:=nL) (rounds:=20) (depth:=6) g121 Zak (fun x=>by kernel_rfl)
def e122:Env:=env1 []
theorem g122:Zai e122:=Zal mix1 ent1 Zah
def s122:Spec:=Zao (Zad (Zaq ZaG)) (Zar (Zaq ZaG)) Zin
theorem ZD8:Zan Tryz.prog 122 s122 :=
 Zaj (V:=e122) (L:=nL) (rounds:=20) (depth:=6) g122 Zak (fun x=>by kernel_rfl)
def e114:Env:=env1 [(120,s120),(121,s121),(122,s122)]
theorem g114:Zai e114:=Zal mix1 ent1 (Zab ZqE rfl (Zab Zxa rfl (Zab ZD8 rfl Zah)))
def s114:Spec:=Zao (Zad (Zaq ZaG)) (ZbS (Zaa (Zaq ZaG) (Zad (ZaN)))) ZhY
theorem ZDv:Zan Tryz.prog 114 s114 :=
 Zaj (V:=e114) (L:=nL) (rounds:=20) (depth:=6) g114 Zak (fun x=>by kernel_rfl)
def e131:Env:=env1 [(94,s94),(110,s110)]
theorem g131:Zai e131:=Zal mix1 ent1 (Zab ok94 rfl (Zab ZAY rfl Zah))
def s131:Spec:=Zao (Zaa (Zaq celConfig) (Zaa (Zae .i64) (Zad (Zae .i64)))) (Zar (Zae .i64)) Zek
theorem Zxm:Zan Tryz.prog 131 s131 :=
 Zaj (V:=e131) (L:=nL) (rounds:=20) (depth:=6) g131 Zak (fun x=>by kernel_rfl)
def e156:Env:=env1 []
theorem g156:Zai e156:=Zal mix1 ent1 Zah
def s156:Spec:=Zao (Zad (Zaq Zwf)) (Zar (Zae .i64)) ZbQ
theorem ZqA:Zan Tryz.prog 156 s156 :=
 Zaj (V:=e156) (L:=nL) (rounds:=20) (depth:=6) g156 Zak (fun x=>by kernel_rfl)
def e132:Env:=env1 [(156,s156)]
theorem g132:Zai e132:=Zal mix1 ent1 (Zab ZqA rfl Zah)
def s132:Spec:=Zao (Zad (Zae .i64)) (Zar (Zae .i64)) Ze9
theorem Zxc:Zan Tryz.prog 132 s132 :=
 Zaj (V:=e132) (L:=nL) (rounds:=20) (depth:=6) g132 Zak (fun x=>by kernel_rfl)
def e157:Env:=env1 []
theorem g157:Zai e157:=Zal mix1 ent1 Zah
def s157:Spec:=Zao (Zad (Zae .i64)) (Zar (Zae .i64)) ZiF
theorem ZDh:Zan Tryz.prog 157 s157 :=
 Zaj (V:=e157) (L:=nL) (rounds:=20) (depth:=6) g157 Zak (fun x=>by kernel_rfl)
def e174:Env:=env1 []
theorem g174:Zai e174:=Zal mix1 ent1 Zah
def s174:Spec:=Zao (Zad (Zaq ZaG)) (Zar (Zaq ZaG)) Zgi
theorem ZAI:Zan Tryz.prog 174 s174 :=
 Zaj (V:=e174) (L:=nL) (rounds:=20) (depth:=6) g174 Zak (fun x=>by kernel_rfl)
def e158:Env:=env1 [(174,s174)]
theorem g158:Zai e158:=Zal mix1 ent1 (Zab ZAI rfl Zah)
def s158:Spec:=Zao (Zad (Zaq ZaG)) (Zar (Zaq ZaG)) Zeq
theorem Zw2:Zan Tryz.prog 158 s158 :=
 Zaj (V:=e158) (L:=nL) (rounds:=20) (depth:=6) g158 Zak (fun x=>by kernel_rfl)
def e133:Env:=env1 [(60,s60),(157,s157),(158,s158)]
theorem g133:Zai e133:=Zal mix1 ent1 (Zab ok60 rfl (Zab ZDh rfl (Zab Zw2 rfl Zah)))
def s133:Spec:=Zao (Zad (Zaq ZaG)) (Zar (Zaq ZaG)) Zj7
theorem ZC5:Zan Tryz.prog 133 s133 :=
 Zaj (V:=e133) (L:=nL) (rounds:=20) (depth:=6) g133 Zak (fun x=>by kernel_rfl)
def e135:Env:=env1 [(60,s60),(91,s91)]
theorem g135:Zai e135:=Zal mix1 ent1 (Zab ok60 rfl (Zab ok91 rfl Zah))
def s135:Spec:=Zao (Zaa (Zaq Zcd) (Zaa (Zae .i64) (Zaa (Zae .i64) (Zad (Zae .i64))))) (ZbS (Zaa (Zaq Zcd) (Zaa (ZaN) (Zad (Zae .i64))))) ZcS
theorem Zth:Zan Tryz.prog 135 s135 :=
 Zaj (V:=e135) (L:=nL) (rounds:=20) (depth:=6) g135 Zak (fun x=>by kernel_rfl)
def e153:Env:=env1 []
theorem g153:Zai e153:=Zal mix1 ent1 Zah
def s153:Spec:=Zao (Zad (Zaq ZaG)) (Zar (ZaN)) ZdY
theorem ZxM:Zan Tryz.prog 153 s153 :=
 Zaj (V:=e153) (L:=nL) (rounds:=20) (depth:=6) g153 Zak (fun x=>by kernel_rfl)
def e175:Env:=env1 []
theorem g175:Zai e175:=Zal mix1 ent1 Zah
def s175:Spec:=Zao (Zad (Zae .i64)) (Zar (Zaq Zwf)) Zjr
theorem ZBt:Zan Tryz.prog 175 s175 :=
 Zaj (V:=e175) (L:=nL) (rounds:=20) (depth:=6) g175 Zak (fun x=>by kernel_rfl)
def e160:Env:=env1 [(175,s175)]
theorem g160:Zai e160:=Zal mix1 ent1 (Zab ZBt rfl Zah)
def s160:Spec:=Zao (Zad (Zae .i64)) (Zar (Zae .i64)) Zg4
theorem ZBj:Zan Tryz.prog 160 s160 :=
 Zaj (V:=e160) (L:=nL) (rounds:=20) (depth:=6) g160 Zak (fun x=>by kernel_rfl)
def e136:Env:=env1 [(153,s153),(158,s158),(160,s160)]
theorem g136:Zai e136:=Zal mix1 ent1 (Zab ZxM rfl (Zab Zw2 rfl (Zab ZBj rfl Zah)))
def s136:Spec:=Zao (Zaa (Zaq ZaG) (Zad (Zae .i64))) (Zar (Zaq ZaG)) Zkw
theorem ZDM:Zan Tryz.prog 136 s136 :=
 Zaj (V:=e136) (L:=nL) (rounds:=20) (depth:=6) g136 Zak (fun x=>by kernel_rfl)
def e137:Env:=env1 [(156,s156)]
theorem g137:Zai e137:=Zal mix1 ent1 (Zab ZqA rfl Zah)
def s137:Spec:=Zao (Zad (Zae .i64)) (Zar (Zae .i64)) ZjK
theorem ZDO:Zan Tryz.prog 137 s137 :=
 Zaj (V:=e137) (L:=nL) (rounds:=20) (depth:=6) g137 Zak (fun x=>by kernel_rfl)
def e138:Env:=env1 [(158,s158)]
theorem g138:Zai e138:=Zal mix1 ent1 (Zab Zw2 rfl Zah)
def s138:Spec:=Zao (Zad (Zaq ZaG)) (Zar (Zaq ZaG)) ZiG
theorem ZDk:Zan Tryz.prog 138 s138 :=
 Zaj (V:=e138) (L:=nL) (rounds:=20) (depth:=6) g138 Zak (fun x=>by kernel_rfl)
def e117:Env:=env1 [(70,s70),(131,s131),(132,s132),(133,s133),(135,s135),(136,s136),(137,s137),(138,s138)]
theorem g117:Zai e117:=Zal mix1 ent1 (Zab ok70 rfl (Zab Zxm rfl (Zab Zxc rfl (Zab ZC5 rfl (Zab Zth rfl (Zab ZDM rfl (Zab ZDO rfl (Zab ZDk rfl Zah))))))))
def s117:Spec:=Zao (Zad (Zaq ZaG)) (ZbS (Zaa (Zaq ZaG) (Zad (ZaN)))) ZkX
theorem ZDY:Zan Tryz.prog 117 s117 :=
 Zaj (V:=e117) (L:=nL) (rounds:=20) (depth:=6) g117 Zak (fun x=>by kernel_rfl)
def e176:Env:=env1 [(131,s131)]
theorem g176:Zai e176:=Zal mix1 ent1 (Zab Zxm rfl Zah)
def s176:Spec:=Zao (Zad (Zaq ZaG)) (Zar (Zae .i64)) ZfP
theorem Zwz:Zan Tryz.prog 176 s176 :=
 Zaj (V:=e176) (L:=nL) (rounds:=20) (depth:=6) g176 Zak (fun x=>by kernel_rfl)
def e177:Env:=env1 [(175,s175)]
theorem g177:Zai e177:=Zal mix1 ent1 (Zab ZBt rfl Zah)
def s177:Spec:=Zao (Zad (Zae .i64)) (Zar (Zae .i64)) Zm4
theorem ZDP:Zan Tryz.prog 177 s177 :=
 Zaj (V:=e177) (L:=nL) (rounds:=20) (depth:=6) g177 Zak (fun x=>by kernel_rfl)
def e161:Env:=env1 [(70,s70),(132,s132),(160,s160),(176,s176),(177,s177)]
theorem g161:Zai e161:=Zal mix1 ent1 (Zab ok70 rfl (Zab Zxc rfl (Zab ZBj rfl (Zab Zwz rfl (Zab ZDP rfl Zah)))))
def s161:Spec:=Zao (Zad (Zaq ZaG)) (Zar (Zaq ZaG)) ZjR
theorem ZD6:Zan Tryz.prog 161 s161 :=
 Zaj (V:=e161) (L:=nL) (rounds:=20) (depth:=6) g161 Zak (fun x=>by kernel_rfl)
def e180:Env:=env1 [(174,s174)]
theorem g180:Zai e180:=Zal mix1 ent1 (Zab ZAI rfl Zah)
def s180:Spec:=Zao (Zad (Zaq ZaG)) (Zar (Zaq ZaG)) Zhm
theorem ZA9:Zan Tryz.prog 180 s180 :=
 Zaj (V:=e180) (L:=nL) (rounds:=20) (depth:=6) g180 Zak (fun x=>by kernel_rfl)
def e162:Env:=env1 [(132,s132),(135,s135),(176,s176),(180,s180)]
theorem g162:Zai e162:=Zal mix1 ent1 (Zab Zxc rfl (Zab Zth rfl (Zab Zwz rfl (Zab ZA9 rfl Zah))))
def s162:Spec:=Zao (Zad (Zaq ZaG)) (Zar (Zaq ZaG)) Zj0
theorem ZEb:Zan Tryz.prog 162 s162 :=
 Zaj (V:=e162) (L:=nL) (rounds:=20) (depth:=6) g162 Zak (fun x=>by kernel_rfl)
def e173:Env:=env1 []
theorem g173:Zai e173:=Zal mix1 ent1 Zah
def s173:Spec:=Zao (Zad (Zap .entry)) (Zar (ZaF 178 .entry)) Zbk
theorem ZwS:Zan Tryz.prog 173 s173 :=
 Ziv (V:=e173) (L:=nL) (rounds:=20) (depth:=6) (r:=(Zar (ZaF 178 .entry))) g173 Zak (by kernel_rfl) (fun x=>by kernel_rfl)
def e191:Env:=env1 []
theorem g191:Zai e191:=Zal mix1 ent1 Zah
def s191:Spec:=Zao (Zaa (Zap (.lst .entry)) (Zad (Zae .i64))) (ZbS (Zaa (Zap .entry) (Zad (Zae .i64)))) Zcg
theorem ZAO:Zan Tryz.prog 191 s191 :=
 Zaj (V:=e191) (L:=nL) (rounds:=20) (depth:=6) g191 Zak (fun x=>by kernel_rfl)
def e181:Env:=env1 [(173,s173),(191,s191)]
theorem g181:Zai e181:=Zal mix1 ent1 (Zab ZwS rfl (Zab ZAO rfl Zah))
def s181:Spec:=Zao (Zaa (Zaq Zcd) (Zad (Zae .i64))) (ZbS (Zaa (Zap .entry) (Zad (Zae .i64)))) Zig
theorem ZAQ:Zan Tryz.prog 181 s181 :=
 Zaj (V:=e181) (L:=nL) (rounds:=20) (depth:=6) g181 Zak (fun x=>by kernel_rfl)
def e200:Env:=ZBm []
theorem g200:Zai e200:=Zal mix1 ent1 Zah
def s200:Spec:=Zao (Zaa (Zub) (Zad (Zae .i64))) (Zar (ZaF 216 .kid)) Zeo
theorem ZDn:Zan Tryz.prog 200 s200 :=
 Zaj (V:=e200) (L:=nL) (rounds:=20) (depth:=6) g200 Zak (fun x=>by kernel_rfl)
def e192:Env:=env1 [(200,s200)]
theorem g192:Zai e192:=Zal mix1 ent1 (Zab ZDn rfl Zah)
def ZvM:LSpec:=Zdm [6,25,26,27] (Zaa (ZaF 216 .kid) (Zaa (Zap (.lst .kid)) (Zaa (Zae .i64) (Zad (Zae .i64))))) (⟨.exit 2,[6],(Zad (ZaF 216 .kid))⟩:Way) (ZaA ZbI)
theorem Zy1:LoopOK e192 36 ZvM (Za5 e192.P 192 11) :=
 Zb9 (L:=ZaL []) (rounds:=20) (depth:=6) (ts:=[6,25,26,27]) (v:=(Zaa (ZaF 216 .kid) (Zaa (Zap (.lst .kid)) (Zaa (Zae .i64) (Zad (Zae .i64)))))) (a:=⟨.exit 2,[6],(Zad (ZaF 216 .kid))⟩) (step:=ZbI) g192 rfl ZaY (fun x=>by kernel_rfl)
def Zx4:LSpec:=Zdm [0,3,9,10,11] (Zaa (Zap (.lst .kid)) (Zaa (Zae .i64) (Zaa (Zap (.lst .kid)) (Zaa (Zae .i64) (Zad (Zae .i64)))))) (⟨.exit 0,[0,3],(Zaa (Zap (.lst .kid)) (Zad (Zae .i64)))⟩:Way) (ZaA ZbN)
theorem Zzz:LoopOK e192 36 Zx4 (Za5 e192.P 192 3) :=
 Zb9 (L:=ZaL []) (rounds:=20) (depth:=6) (ts:=[0,3,9,10,11]) (v:=(Zaa (Zap (.lst .kid)) (Zaa (Zae .i64) (Zaa (Zap (.lst .kid)) (Zaa (Zae .i64) (Zad (Zae .i64))))))) (a:=⟨.exit 0,[0,3],(Zaa (Zap (.lst .kid)) (Zad (Zae .i64)))⟩) (step:=ZbN) g192 rfl ZaY (fun x=>by kernel_rfl)
def s192:Spec:=Zao (Zad (Zap (.lst .kid))) (Zar (ZaF 216 .kid)) Zd2
theorem ZDd:Zan Tryz.prog 192 s192 :=
 Zaj (V:=e192) (L:=(ZaL [(11,ZvM),(3,Zx4)])) (rounds:=20) (depth:=6) g192 (Zbi (nt:=36) (by kernel_rfl) (Zb1 (by kernel_rfl)) (ZaD Zy1 (ZaD Zzz ZaT))) (fun x=>by kernel_rfl)
def e203:Env:=ZBm []
theorem g203:Zai e203:=Zal mix1 ent1 Zah
def s203:Spec:=Zao (Zaa (Zub) (Zad (Zae .i64))) (Zar (ZaF 178 .entry)) Zea
theorem ZEf:Zan Tryz.prog 203 s203 :=
 Zaj (V:=e203) (L:=nL) (rounds:=20) (depth:=6) g203 Zak (fun x=>by kernel_rfl)
def e201:Env:=env1 [(203,s203)]
theorem g201:Zai e201:=Zal mix1 ent1 (Zab ZEf rfl Zah)
def Zwk:LSpec:=Zdm [6,25,26,27] (Zaa (ZaF 178 .entry) (Zaa (Zap (.lst .entry)) (Zaa (Zae .i64) (Zad (Zae .i64))))) (⟨.exit 2,[6],(Zad (ZaF 178 .entry))⟩:Way) (ZaA Zby)
theorem Zyv:LoopOK e201 36 Zwk (Za5 e201.P 201 11) :=
 Zb9 (L:=ZaL []) (rounds:=20) (depth:=6) (ts:=[6,25,26,27]) (v:=(Zaa (ZaF 178 .entry) (Zaa (Zap (.lst .entry)) (Zaa (Zae .i64) (Zad (Zae .i64)))))) (a:=⟨.exit 2,[6],(Zad (ZaF 178 .entry))⟩) (step:=Zby) g201 rfl ZaY (fun x=>by kernel_rfl)
def ZyO:LSpec:=Zdm [0,3,9,10,11] (Zaa (Zap (.lst .entry)) (Zaa (Zae .i64) (Zaa (Zap (.lst .entry)) (Zaa (Zae .i64) (Zad (Zae .i64)))))) (⟨.exit 0,[0,3],(Zaa (Zap (.lst .entry)) (Zad (Zae .i64)))⟩:Way) (ZaA ZbG)
theorem Zzp:LoopOK e201 36 ZyO (Za5 e201.P 201 3) :=
 Zb9 (L:=ZaL []) (rounds:=20) (depth:=6) (ts:=[0,3,9,10,11]) (v:=(Zaa (Zap (.lst .entry)) (Zaa (Zae .i64) (Zaa (Zap (.lst .entry)) (Zaa (Zae .i64) (Zad (Zae .i64))))))) (a:=⟨.exit 0,[0,3],(Zaa (Zap (.lst .entry)) (Zad (Zae .i64)))⟩) (step:=ZbG) g201 rfl ZaY (fun x=>by kernel_rfl)
def s201:Spec:=Zao (Zad (Zap (.lst .entry))) (Zar (ZaF 178 .entry)) ZdI
theorem ZEg:Zan Tryz.prog 201 s201 :=
 Zaj (V:=e201) (L:=(ZaL [(11,Zwk),(3,ZyO)])) (rounds:=20) (depth:=6) g201 (Zbi (nt:=36) (by kernel_rfl) (Zb1 (by kernel_rfl)) (ZaD Zyv (ZaD Zzp ZaT))) (fun x=>by kernel_rfl)
def e193:Env:=env1 [(201,s201)]
theorem g193:Zai e193:=Zal mix1 ent1 (Zab ZEg rfl Zah)
def s193:Spec:=Zao (Zad (Zap (.lst .entry))) (Zar (Zap .entry)) ZkH
theorem ZDS:Zan Tryz.prog 193 s193 :=
 Zaj (V:=e193) (L:=nL) (rounds:=20) (depth:=6) g193 Zak (fun x=>by kernel_rfl)
def e183:Env:=env1 [(192,s192),(193,s193)]
theorem g183:Zai e183:=Zal mix1 ent1 (Zab ZDd rfl (Zab ZDS rfl Zah))
def s183:Spec:=Zao (Zaa (Zaq ZaG) (Zaa (Zae .i64) (Zad (Zap .entry)))) (Zar (Zaq ZaG)) ZfG
theorem ZAC:Zan Tryz.prog 183 s183 :=
 Zaj (V:=e183) (L:=nL) (rounds:=20) (depth:=6) g183 Zak (fun x=>by kernel_rfl)
def e163:Env:=env1 [(181,s181),(183,s183)]
theorem g163:Zai e163:=Zal mix1 ent1 (Zab ZAQ rfl (Zab ZAC rfl Zah))
def s163:Spec:=Zao (Zad (Zaq ZaG)) (Zar (Zaq ZaG)) Zhy
theorem ZDz:Zan Tryz.prog 163 s163 :=
 Zaj (V:=e163) (L:=nL) (rounds:=20) (depth:=6) g163 Zak (fun x=>by kernel_rfl)
def e164:Env:=env1 [(120,s120),(176,s176),(180,s180)]
theorem g164:Zai e164:=Zal mix1 ent1 (Zab ZqE rfl (Zab Zwz rfl (Zab ZA9 rfl Zah)))
def s164:Spec:=Zao (Zad (Zaq ZaG)) (Zar (Zaq ZaG)) ZjD
theorem ZD5:Zan Tryz.prog 164 s164 :=
 Zaj (V:=e164) (L:=nL) (rounds:=20) (depth:=6) g164 Zak (fun x=>by kernel_rfl)
def e194:Env:=env1 []
theorem g194:Zai e194:=Zal mix1 ent1 Zah
def s194:Spec:=Zao (Zad (Zap (.lst .entry))) (Zar (ZaF 54 (.lst .entry))) ZdJ
theorem ZDF:Zan Tryz.prog 194 s194 :=
 Ziv (V:=e194) (L:=nL) (rounds:=20) (depth:=6) (r:=(Zar (ZaF 54 (.lst .entry)))) g194 Zak (by kernel_rfl) (fun x=>by kernel_rfl)
def e184:Env:=env1 [(173,s173),(191,s191),(194,s194)]
theorem g184:Zai e184:=Zal mix1 ent1 (Zab ZwS rfl (Zab ZAO rfl (Zab ZDF rfl Zah)))
def s184:Spec:=Zao (Zaa (Zaq Zcd) (Zaa (Zae .i64) (Zad (Zap .entry)))) (ZbS (Zaa (Zaq Zcd) (Zad (Zae .i64)))) Zij
theorem ZBk:Zan Tryz.prog 184 s184 :=
 Zaj (V:=e184) (L:=nL) (rounds:=20) (depth:=6) g184 Zak (fun x=>by kernel_rfl)
def e165:Env:=env1 [(184,s184)]
theorem g165:Zai e165:=Zal mix1 ent1 (Zab ZBk rfl Zah)
def s165:Spec:=Zao (Zad (Zaq ZaG)) (Zar (Zaq ZaG)) ZhA
theorem ZDW:Zan Tryz.prog 165 s165 :=
 Zaj (V:=e165) (L:=nL) (rounds:=20) (depth:=6) g165 Zak (fun x=>by kernel_rfl)
def e185:Env:=env1 [(156,s156)]
theorem g185:Zai e185:=Zal mix1 ent1 (Zab ZqA rfl Zah)
def s185:Spec:=Zao (Zad (Zae .i64)) (Zar (Zae .i64)) Zhx
theorem ZD9:Zan Tryz.prog 185 s185 :=
 Zaj (V:=e185) (L:=nL) (rounds:=20) (depth:=6) g185 Zak (fun x=>by kernel_rfl)
def e166:Env:=env1 [(120,s120),(131,s131),(185,s185)]
theorem g166:Zai e166:=Zal mix1 ent1 (Zab ZqE rfl (Zab Zxm rfl (Zab ZD9 rfl Zah)))
def s166:Spec:=Zao (Zad (Zaq ZaG)) (Zar (Zaq ZaG)) Zhv
theorem ZDG:Zan Tryz.prog 166 s166 :=
 Zaj (V:=e166) (L:=nL) (rounds:=20) (depth:=6) g166 Zak (fun x=>by kernel_rfl)
def e118:Env:=env1 [(161,s161),(162,s162),(163,s163),(164,s164),(165,s165),(166,s166)]
theorem g118:Zai e118:=Zal mix1 ent1 (Zab ZD6 rfl (Zab ZEb rfl (Zab ZDz rfl (Zab ZD5 rfl (Zab ZDW rfl (Zab ZDG rfl Zah))))))
def s118:Spec:=Zao (Zad (Zaq ZaG)) (ZbS (Zaa (Zaq ZaG) (Zad (ZaN)))) ZjF
theorem ZDx:Zan Tryz.prog 118 s118 :=
 Zaj (V:=e118) (L:=nL) (rounds:=20) (depth:=6) g118 Zak (fun x=>by kernel_rfl)
def e129:Env:=env1 [(153,s153)]
theorem g129:Zai e129:=Zal mix1 ent1 (Zab ZxM rfl Zah)
def s129:Spec:=Zao (Zad (Zaq ZaG)) (Zar (Zaq ZaG)) Zcm
theorem ZA2:Zan Tryz.prog 129 s129 :=
 Zaj (V:=e129) (L:=nL) (rounds:=20) (depth:=6) g129 Zak (fun x=>by kernel_rfl)
def e140:Env:=env1 [(156,s156)]
theorem g140:Zai e140:=Zal mix1 ent1 (Zab ZqA rfl Zah)
def s140:Spec:=Zao (Zaa (Zae .i64) (Zad (Zae .i64))) (Zar (Zae .i64)) Zjc
theorem ZDl:Zan Tryz.prog 140 s140 :=
 Zaj (V:=e140) (L:=nL) (rounds:=20) (depth:=6) g140 Zak (fun x=>by kernel_rfl)
def e142:Env:=env1 [(121,s121)]
theorem g142:Zai e142:=Zal mix1 ent1 (Zab Zxa rfl Zah)
def s142:Spec:=ZhF (Zaa (ZqQ (Zam ZaG (Zau .i64))) (Zad (Zae .i64))) (Zar (Zae .i64)) Zb0
theorem ZC7:Zan Tryz.prog 142 s142 :=
 ZgE (V:=e142) (L:=nL) (rounds:=20) (depth:=6) g142 Zak (fun x=>by kernel_rfl)
def e146:Env:=env1 [(156,s156)]
theorem g146:Zai e146:=Zal mix1 ent1 (Zab ZqA rfl Zah)
def s146:Spec:=Zao valsNil (Zar (Zae .i64)) Zg3
theorem ZD4:Zan Tryz.prog 146 s146 :=
 Zaj (V:=e146) (L:=nL) (rounds:=20) (depth:=6) g146 Zak (fun x=>by kernel_rfl)
def e147:Env:=env1 [(94,s94)]
theorem g147:Zai e147:=Zal mix1 ent1 (Zab ok94 rfl Zah)
def s147:Spec:=Zao (Zaa (Zaq celConfig) (Zad (Zae .i64))) (Zar (Zae .i64)) Zfd
theorem ZEe:Zan Tryz.prog 147 s147 :=
 Zaj (V:=e147) (L:=nL) (rounds:=20) (depth:=6) g147 Zak (fun x=>by kernel_rfl)
def e148:Env:=env1 []
theorem g148:Zai e148:=Zal mix1 ent1 Zah
def s148:Spec:=Zao (Zad (Zaq ZaG)) (Zar (Zaq ZaG)) Zdt
theorem ZA0:Zan Tryz.prog 148 s148 :=
 Zaj (V:=e148) (L:=nL) (rounds:=20) (depth:=6) g148 Zak (fun x=>by kernel_rfl)
def e151:Env:=env1 [(173,s173)]
theorem g151:Zai e151:=Zal mix1 ent1 (Zab ZwS rfl Zah)
def s151:Spec:=Zao (Zaa (Zap .entry) (Zad (Zae .i64))) (Zar (Zap .entry)) ZkW
theorem ZDK:Zan Tryz.prog 151 s151 :=
 Zaj (V:=e151) (L:=nL) (rounds:=20) (depth:=6) g151 Zak (fun x=>by kernel_rfl)
def e187:Env:=env1 [(60,s60),(91,s91)]
theorem g187:Zai e187:=Zal mix1 ent1 (Zab ok60 rfl (Zab ok91 rfl Zah))
def s187:Spec:=Zao (Zaa (Zaq Zcd) (Zaa (Zae .i64) (Zad (Zae .i64)))) (ZbS (Zaa (Zaq Zcd) (Zaa (Zae .i64) (Zad (Zae .i64))))) ZlP
theorem ZDB:Zan Tryz.prog 187 s187 :=
 Zaj (V:=e187) (L:=nL) (rounds:=20) (depth:=6) g187 Zak (fun x=>by kernel_rfl)
def e188:Env:=env1 [(94,s94)]
theorem g188:Zai e188:=Zal mix1 ent1 (Zab ok94 rfl Zah)
def s188:Spec:=Zao (Zaa (Zaq celConfig) (Zaa (Zae .i64) (Zaa (Zae .i64) (Zad (Zae .i64))))) (Zar (Zae .i64)) ZkZ
theorem ZC8:Zan Tryz.prog 188 s188 :=
 Zaj (V:=e188) (L:=nL) (rounds:=20) (depth:=6) g188 Zak (fun x=>by kernel_rfl)
def e204:Env:=env1 []
theorem g204:Zai e204:=Zal mix1 ent1 Zah
def s204:Spec:=Zao (Zad (Zaq ZdV)) (Zar (Zae .i64)) ZfW
theorem ZC9:Zan Tryz.prog 204 s204 :=
 Zaj (V:=e204) (L:=nL) (rounds:=20) (depth:=6) g204 Zak (fun x=>by kernel_rfl)
end Go.Proofs.Mill
