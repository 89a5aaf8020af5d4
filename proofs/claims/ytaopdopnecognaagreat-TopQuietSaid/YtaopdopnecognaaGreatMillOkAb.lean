/- The functions compute this. -/
import Derived.Test.YtaopdopnecognaaGreatMillSeat3
import Derived.Test.YtaopdopnecognaaGreatMillFAb
set_option linter.all false
set_option maxRecDepth 100000
noncomputable section
namespace Go.Proofs.Mill
def e37:Env:=env1 []
theorem g37:Zai e37:=Zal mix1 ent1 Zah
def ZAd:LSpec:=Zd5 [2,5,6] (Zaa (ZaQ 63 .sentry) (Zaa (Zae .i64) (Zac (Zae .i64)))) (⟨.exit 0,[2],(Zac (ZaQ 63 .sentry))⟩:Way) (ZaE ZgA)
theorem ZBA:LoopOK e37 16 ZAd (Za8 e37.P 37 2) :=
 Zcs (L:=ZaP []) (rounds:=20) (depth:=6) (ts:=[2,5,6]) (v:=(Zaa (ZaQ 63 .sentry) (Zaa (Zae .i64) (Zac (Zae .i64))))) (a:=⟨.exit 0,[2],(Zac (ZaQ 63 .sentry))⟩) (step:=ZgA) g37 rfl Za3 (fun x=>by kernel_rfl)
def s37:Spec:=Zap (Zac (Zar celConfig)) (Zas (Zao .sentry)) Ze2
theorem ok37:Zan Tryz.prog 37 s37 :=
 Zaj (V:=e37) (L:=(ZaP [(2,ZAd)])) (rounds:=20) (depth:=6) g37 (Zbm (nt:=16) (by kernel_rfl) (Zb9 (by kernel_rfl)) (ZaI ZBA ZaZ)) (fun x=>by kernel_rfl)
def e17:Env:=env1 [(37,s37)]
theorem g17:Zai e17:=Zal mix1 ent1 (Zab ok37 rfl Zah)
def Zv4:LSpec:=ZeV [1,4,5,14,15,16] (Zaa (Zae .i64) (Zaa (ZaQ 63 .sentry) (Zaa (Zao .sentry) (Zaa (Zao .sentry) (Zaa (Zae .i64) (Zac (Zae .i64))))))) (⟨.exit 0,[4],(Zac (ZaQ 63 .sentry))⟩:Way) (⟨.exit 2,[1,4,5],(Zaa (Zae .i64) (Zaa (ZaQ 63 .sentry) (Zac (Zao .sentry))))⟩:Way) (ZaE ZdH)
theorem ZvM:LoopOK e17 29 Zv4 (Za8 e17.P 17 5) :=
 Zc4 (L:=ZaP []) (rounds:=20) (depth:=6) (ts:=[1,4,5,14,15,16]) (v:=(Zaa (Zae .i64) (Zaa (ZaQ 63 .sentry) (Zaa (Zao .sentry) (Zaa (Zao .sentry) (Zaa (Zae .i64) (Zac (Zae .i64)))))))) (a:=⟨.exit 0,[4],(Zac (ZaQ 63 .sentry))⟩) (b:=⟨.exit 2,[1,4,5],(Zaa (Zae .i64) (Zaa (ZaQ 63 .sentry) (Zac (Zao .sentry))))⟩) (step:=ZdH) g17 rfl rfl Za3 (fun x=>by kernel_rfl)
def ZAR:LSpec:=Zd5 [1,4,5] (Zaa (Zae .i64) (Zaa (ZaQ 63 .sentry) (Zac (Zao .sentry)))) (⟨.exit 0,[4],(Zac (ZaQ 63 .sentry))⟩:Way) (ZaE ZdG)
theorem ZBy:LoopOK e17 29 ZAR (Za8 e17.P 17 2) :=
 Zcs (L:=ZaP [(5,Zv4)]) (rounds:=20) (depth:=6) (ts:=[1,4,5]) (v:=(Zaa (Zae .i64) (Zaa (ZaQ 63 .sentry) (Zac (Zao .sentry))))) (a:=⟨.exit 0,[4],(Zac (ZaQ 63 .sentry))⟩) (step:=ZdG) g17 rfl (ZpB (by kernel_rfl) (ZaI ZvM ZaZ)) (fun x=>by kernel_rfl)
def s17:Spec:=Zap (Zaa (Zar celConfig) (Zac (Zae .i64))) (Zas (Zao .sentry)) Zch
theorem ok17:Zan Tryz.prog 17 s17 :=
 Zaj (V:=e17) (L:=(ZaP [(5,Zv4),(2,ZAR)])) (rounds:=20) (depth:=6) g17 (Zbm (nt:=29) (by kernel_rfl) (Zb9 (by kernel_rfl)) (ZaI ZvM (ZaI ZBy ZaZ))) (fun x=>by kernel_rfl)
def e53:Env:=env1 []
theorem g53:Zai e53:=Zal mix1 ent1 Zah
def s53:Spec:=Zap (Zac (Zar celConfig)) (Zas (Zae .i64)) ZiC
theorem ok53:Zan Tryz.prog 53 s53 :=
 Zaj (V:=e53) (L:=nL) (rounds:=20) (depth:=6) g53 Zak (fun x=>by kernel_rfl)
def e18:Env:=env1 [(53,s53)]
theorem g18:Zai e18:=Zal mix1 ent1 (Zab ok53 rfl Zah)
def s18:Spec:=Zap (Zac (Zar celConfig)) (Zas (Zae .i64)) Zcx
theorem ok18:Zan Tryz.prog 18 s18 :=
 Zaj (V:=e18) (L:=nL) (rounds:=20) (depth:=6) g18 Zak (fun x=>by kernel_rfl)
def e20:Env:=env1 []
theorem g20:Zai e20:=Zal mix1 ent1 Zah
def ZAe:LSpec:=Zd5 [1,3,4] (Zaa (Zat celConfig) (Zaa (Zae .i64) (Zac (Zae .i64)))) (⟨.exit 0,[3],(Zac (Zae .i64))⟩:Way) (ZaE ZeM)
theorem ZA5:LoopOK e20 15 ZAe (Za8 e20.P 20 3) :=
 Zcs (L:=ZaP []) (rounds:=20) (depth:=6) (ts:=[1,3,4]) (v:=(Zaa (Zat celConfig) (Zaa (Zae .i64) (Zac (Zae .i64))))) (a:=⟨.exit 0,[3],(Zac (Zae .i64))⟩) (step:=ZeM) g20 rfl Za3 (fun x=>by kernel_rfl)
def s20:Spec:=Zap (Zac (Zar celConfig)) (Zas (Zae .i64)) Zc9
theorem ok20:Zan Tryz.prog 20 s20 :=
 Zaj (V:=e20) (L:=(ZaP [(3,ZAe)])) (rounds:=20) (depth:=6) g20 (Zbm (nt:=15) (by kernel_rfl) (Zb9 (by kernel_rfl)) (ZaI ZA5 ZaZ)) (fun x=>by kernel_rfl)
def e54:Env:=env1 [(20,s20)]
theorem g54:Zai e54:=Zal mix1 ent1 (Zab ok20 rfl Zah)
def s54:Spec:=Zap (Zac (Zar celConfig)) (Zas (Zae .i64)) Zda
theorem ok54:Zan Tryz.prog 54 s54 :=
 Zaj (V:=e54) (L:=nL) (rounds:=20) (depth:=6) g54 Zak (fun x=>by kernel_rfl)
def e19:Env:=env1 [(54,s54)]
theorem g19:Zai e19:=Zal mix1 ent1 (Zab ok54 rfl Zah)
def s19:Spec:=Zap (Zac (Zar celConfig)) (Zas (Zae .i64)) ZkU
theorem ok19:Zan Tryz.prog 19 s19 :=
 Zaj (V:=e19) (L:=nL) (rounds:=20) (depth:=6) g19 Zak (fun x=>by kernel_rfl)
def e21:Env:=env1 [(20,s20),(54,s54)]
theorem g21:Zai e21:=Zal mix1 ent1 (Zab ok20 rfl (Zab ok54 rfl Zah))
def s21:Spec:=Zap (Zaa (Zar celConfig) (Zaa (Zae .i64) (Zac (Zae .i64)))) (Zas (Zae .i64)) Zks
theorem ok21:Zan Tryz.prog 21 s21 :=
 Zaj (V:=e21) (L:=nL) (rounds:=20) (depth:=6) g21 Zak (fun x=>by kernel_rfl)
def e22:Env:=env1 [(54,s54)]
theorem g22:Zai e22:=Zal mix1 ent1 (Zab ok54 rfl Zah)
def s22:Spec:=Zap (Zaa (Zar celConfig) (Zac (Zae .i64))) (Zas (Zae .i64)) ZkG
theorem ok22:Zan Tryz.prog 22 s22 :=
 Zaj (V:=e22) (L:=nL) (rounds:=20) (depth:=6) g22 Zak (fun x=>by kernel_rfl)
def e24:Env:=env1 []
theorem g24:Zai e24:=Zal mix1 ent1 Zah
def s24:Spec:=Zap (Zac (Zar Zi8)) (Zas (ZaJ)) Zbr
theorem ok24:Zan Tryz.prog 24 s24 :=
 Zaj (V:=e24) (L:=nL) (rounds:=20) (depth:=6) g24 Zak (fun x=>by kernel_rfl)
def e83:Env:=env1 []
theorem g83:Zai e83:=Zal mix1 ent1 Zah
def s83:Spec:=Zap (Zaa (Zae .i64) (Zac (Zae .i64))) (Zas (ZaJ)) ZdE
theorem ok83:Zan Tryz.prog 83 s83 :=
 Zaj (V:=e83) (L:=nL) (rounds:=20) (depth:=6) g83 Zak (fun x=>by kernel_rfl)
def e107:Env:=env1 []
theorem g107:Zai e107:=Zal mix1 ent1 Zah
def s107:Spec:=Zap (Zac (Zae .i64)) (Zas (ZaJ)) Zki
theorem ZDo:Zan Tryz.prog 107 s107 :=
 Zaj (V:=e107) (L:=nL) (rounds:=20) (depth:=6) g107 Zak (fun x=>by kernel_rfl)
def e84:Env:=env1 [(107,s107)]
theorem g84:Zai e84:=Zal mix1 ent1 (Zab ZDo rfl Zah)
def s84:Spec:=Zap (Zaa (Zar Zhc) (Zac (ZaJ))) (Zas (ZaJ)) Zj0
theorem ok84:Zan Tryz.prog 84 s84 :=
 Zaj (V:=e84) (L:=nL) (rounds:=20) (depth:=6) g84 Zak (fun x=>by kernel_rfl)
def e61:Env:=env1 [(83,s83),(84,s84)]
theorem g61:Zai e61:=Zal mix1 ent1 (Zab ok83 rfl (Zab ok84 rfl Zah))
def s61:Spec:=Zap (Zaa (Zar celConfig) (Zac (Zar Zsh))) (Zas (Zae .i64)) Zgs
theorem ok61:Zan Tryz.prog 61 s61 :=
 Zaj (V:=e61) (L:=nL) (rounds:=20) (depth:=6) g61 Zak (fun x=>by kernel_rfl)
def e85:Env:=env1 []
theorem g85:Zai e85:=Zal mix1 ent1 Zah
def s85:Spec:=Zap (Zac (Zao .thread)) (Zas (ZaQ 57 .thread)) ZeZ
theorem ok85:Zan Tryz.prog 85 s85 :=
 ZiD (V:=e85) (L:=nL) (rounds:=20) (depth:=6) (r:=(Zas (ZaQ 57 .thread))) g85 Zak (by kernel_rfl) (fun x=>by kernel_rfl)
def e86:Env:=env1 []
theorem g86:Zai e86:=Zal mix1 ent1 Zah
def s86:Spec:=Zap (Zac (Zao .mark)) (Zas (ZaQ 65 .mark)) Zft
theorem ok86:Zan Tryz.prog 86 s86 :=
 ZiD (V:=e86) (L:=nL) (rounds:=20) (depth:=6) (r:=(Zas (ZaQ 65 .mark))) g86 Zak (by kernel_rfl) (fun x=>by kernel_rfl)
def e87:Env:=env1 []
theorem g87:Zai e87:=Zal mix1 ent1 Zah
def s87:Spec:=Zap (Zac (Zao .event)) (Zas (ZaQ 50 .event)) Zfw
theorem ok87:Zan Tryz.prog 87 s87 :=
 ZiD (V:=e87) (L:=nL) (rounds:=20) (depth:=6) (r:=(Zas (ZaQ 50 .event))) g87 Zak (by kernel_rfl) (fun x=>by kernel_rfl)
def e112:Env:=env1 []
theorem g112:Zai e112:=Zal mix1 ent1 Zah
def s112:Spec:=Zap (Zaa (Zae .i64) (Zac (Zae .i64))) (Zas (Zae .i64)) Zky
theorem ZDq:Zan Tryz.prog 112 s112 :=
 Zaj (V:=e112) (L:=nL) (rounds:=20) (depth:=6) g112 Zak (fun x=>by kernel_rfl)
def e100:Env:=env1 [(112,s112)]
theorem g100:Zai e100:=Zal mix1 ent1 (Zab ZDq rfl Zah)
def s100:Spec:=Zap (Zaa (Zar celConfig) (Zaa (Zae .i64) (Zaa (Zar Zi8) (Zaa (Zae .i64) (Zaa (Zar Zhc) (Zac (Zae .i64))))))) (Zas (Zar Zi8)) Zgv
theorem ZAi:Zan Tryz.prog 100 s100 :=
 Zaj (V:=e100) (L:=nL) (rounds:=20) (depth:=6) g100 Zak (fun x=>by kernel_rfl)
def e26:Env:=env1 [(24,s24),(61,s61),(85,s85),(86,s86),(87,s87),(100,s100)]
def e49:Env:=env1 []
theorem g49:Zai e49:=Zal mix1 ent1 Zah
def s49:Spec:=Zap (Zac (Zar celConfig)) (Zas (Zae .i64)) Zg5
theorem ok49:Zan Tryz.prog 49 s49 :=
 Zaj (V:=e49) (L:=nL) (rounds:=20) (depth:=6) g49 Zak (fun x=>by kernel_rfl)
def e44:Env:=env1 []
theorem g44:Zai e44:=Zal mix1 ent1 Zah
def s44:Spec:=Zap (Zaa (Zar Zhc) (Zac (ZaJ))) (Zas (ZaJ)) Zpf
theorem ok44:Zan Tryz.prog 44 s44 :=
 Zaj (V:=e44) (L:=nL) (rounds:=20) (depth:=6) g44 Zak (fun x=>by kernel_rfl)
def e32:Env:=env1 [(49,s49)]
theorem g32:Zai e32:=Zal mix1 ent1 (Zab ok49 rfl Zah)
def s32:Spec:=Zap (Zac (Zar celConfig)) (Zas (ZaJ)) ZgS
theorem ok32:Zan Tryz.prog 32 s32 :=
 Zaj (V:=e32) (L:=nL) (rounds:=20) (depth:=6) g32 Zak (fun x=>by kernel_rfl)
def e73:Env:=env1 []
theorem g73:Zai e73:=Zal mix1 ent1 Zah
def s73:Spec:=Zap (Zac (Zar celConfig)) (Zas (Zae .i64)) Zna
theorem ok73:Zan Tryz.prog 73 s73 :=
 Zaj (V:=e73) (L:=nL) (rounds:=20) (depth:=6) g73 Zak (fun x=>by kernel_rfl)
def e34:Env:=env1 [(73,s73)]
theorem g34:Zai e34:=Zal mix1 ent1 (Zab ok73 rfl Zah)
def s34:Spec:=Zap (Zac (Zar celConfig)) (Zas (Zae .i64)) Zin
theorem ok34:Zan Tryz.prog 34 s34 :=
 Zaj (V:=e34) (L:=nL) (rounds:=20) (depth:=6) g34 Zak (fun x=>by kernel_rfl)
def e35:Env:=env1 []
theorem g35:Zai e35:=Zal mix1 ent1 Zah
def ZAg:LSpec:=ZeV [0,1,5] (Zaa (Zao .sentry) (Zaa (Zao .sentry) (Zac (Zae .i64)))) (⟨.exit 0,[],valsNil⟩:Way) (⟨.ret,[4],(Zac (ZaJ))⟩:Way) (ZaE Ziu)
theorem ZA6:LoopOK e35 26 ZAg (Za8 e35.P 35 4) :=
 Zc4 (L:=ZaP []) (rounds:=20) (depth:=6) (ts:=[0,1,5]) (v:=(Zaa (Zao .sentry) (Zaa (Zao .sentry) (Zac (Zae .i64))))) (a:=⟨.exit 0,[],valsNil⟩) (b:=⟨.ret,[4],(Zac (ZaJ))⟩) (step:=Ziu) g35 rfl rfl Za3 (fun x=>by kernel_rfl)
def s35:Spec:=Zap (Zaa (Zao .sentry) (Zac (Zao .sentry))) (Zas (ZaJ)) Zkv
theorem ok35:Zan Tryz.prog 35 s35 :=
 Zaj (V:=e35) (L:=(ZaP [(4,ZAg)])) (rounds:=20) (depth:=6) g35 (Zbm (nt:=26) (by kernel_rfl) (Zb9 (by kernel_rfl)) (ZaI ZA6 ZaZ)) (fun x=>by kernel_rfl)
def e36:Env:=env1 []
theorem g36:Zai e36:=Zal mix1 ent1 Zah
def ZA1:LSpec:=Zd5 [0,3,4] (Zaa (Zao .sentry) (Zaa (ZaQ 120 .sentry) (Zac (Zae .i64)))) (⟨.exit 0,[3],(Zac (ZaQ 120 .sentry))⟩:Way) (ZaE Zjs)
theorem ZBk:LoopOK e36 37 ZA1 (Za8 e36.P 36 3) :=
 Zcs (L:=ZaP []) (rounds:=20) (depth:=6) (ts:=[0,3,4]) (v:=(Zaa (Zao .sentry) (Zaa (ZaQ 120 .sentry) (Zac (Zae .i64))))) (a:=⟨.exit 0,[3],(Zac (ZaQ 120 .sentry))⟩) (step:=Zjs) g36 rfl Za3 (fun x=>by kernel_rfl)
def s36:Spec:=Zap (Zac (Zao .sentry)) (Zas (Zao .sentry)) Zg2
theorem ok36:Zan Tryz.prog 36 s36 :=
 Zaj (V:=e36) (L:=(ZaP [(3,ZA1)])) (rounds:=20) (depth:=6) g36 (Zbm (nt:=37) (by kernel_rfl) (Zb9 (by kernel_rfl)) (ZaI ZBk ZaZ)) (fun x=>by kernel_rfl)
def e39:Env:=env1 []
theorem g39:Zai e39:=Zal mix1 ent1 Zah
def Zv2:LSpec:=ZeV [1,2,5,6,7] (Zaa (Zae .i64) (Zaa (Zat celConfig) (Zaa (ZaQ 120 .sentry) (Zaa (Zae .i64) (Zac (Zae .i64)))))) (⟨.exit 2,[1,2,5,6],(Zaa (Zae .i64) (Zaa (Zat celConfig) (Zaa (ZaQ 120 .sentry) (Zac (Zae .i64)))))⟩:Way) (⟨.ret,[4],(Zac (Zao .sentry))⟩:Way) (ZaE Zhr)
theorem ZvF:LoopOK e39 30 Zv2 (Za8 e39.P 39 6) :=
 Zc4 (L:=ZaP []) (rounds:=20) (depth:=6) (ts:=[1,2,5,6,7]) (v:=(Zaa (Zae .i64) (Zaa (Zat celConfig) (Zaa (ZaQ 120 .sentry) (Zaa (Zae .i64) (Zac (Zae .i64))))))) (a:=⟨.exit 2,[1,2,5,6],(Zaa (Zae .i64) (Zaa (Zat celConfig) (Zaa (ZaQ 120 .sentry) (Zac (Zae .i64)))))⟩) (b:=⟨.ret,[4],(Zac (Zao .sentry))⟩) (step:=Zhr) g39 rfl rfl Za3 (fun x=>by kernel_rfl)
def Zz9:LSpec:=ZeV [1,2,5,6] (Zaa (Zae .i64) (Zaa (Zat celConfig) (Zaa (ZaQ 120 .sentry) (Zac (Zae .i64))))) (⟨.exit 0,[5],(Zac (ZaQ 120 .sentry))⟩:Way) (⟨.ret,[4],(Zac (Zao .sentry))⟩:Way) (ZaE Zhm)
theorem ZBw:LoopOK e39 30 Zz9 (Za8 e39.P 39 3) :=
 Zc4 (L:=ZaP [(6,Zv2)]) (rounds:=20) (depth:=6) (ts:=[1,2,5,6]) (v:=(Zaa (Zae .i64) (Zaa (Zat celConfig) (Zaa (ZaQ 120 .sentry) (Zac (Zae .i64)))))) (a:=⟨.exit 0,[5],(Zac (ZaQ 120 .sentry))⟩) (b:=⟨.ret,[4],(Zac (Zao .sentry))⟩) (step:=Zhm) g39 rfl rfl (ZpB (by kernel_rfl) (ZaI ZvF ZaZ)) (fun x=>by kernel_rfl)
def s39:Spec:=Zap (Zaa (Zar celConfig) (Zac (Zae .i64))) (Zas (Zao .sentry)) ZiM
theorem ok39:Zan Tryz.prog 39 s39 :=
 Zaj (V:=e39) (L:=(ZaP [(6,Zv2),(3,Zz9)])) (rounds:=20) (depth:=6) g39 (Zbm (nt:=30) (by kernel_rfl) (Zb9 (by kernel_rfl)) (ZaI ZvF (ZaI ZBw ZaZ))) (fun x=>by kernel_rfl)
def e38:Env:=env1 [(39,s39)]
theorem g38:Zai e38:=Zal mix1 ent1 (Zab ok39 rfl Zah)
def s38:Spec:=Zap (Zac (Zar celConfig)) (Zas (Zao .sentry)) Zm3
theorem ok38:Zan Tryz.prog 38 s38 :=
 Zaj (V:=e38) (L:=nL) (rounds:=20) (depth:=6) g38 Zak (fun x=>by kernel_rfl)
def e74:Env:=env1 []
theorem g74:Zai e74:=Zal mix1 ent1 Zah
def ZAD:LSpec:=ZeV [0,6,7] (Zaa (Zao .sentry) (Zaa (Zae .i64) (Zac (Zae .i64)))) (⟨.exit 0,[0],(Zac (Zao .sentry))⟩:Way) (⟨.ret,[2],(Zac (Zao .sentry))⟩:Way) (ZaE Zic)
theorem ZB3:LoopOK e74 26 ZAD (Za8 e74.P 74 2) :=
 Zc4 (L:=ZaP []) (rounds:=20) (depth:=6) (ts:=[0,6,7]) (v:=(Zaa (Zao .sentry) (Zaa (Zae .i64) (Zac (Zae .i64))))) (a:=⟨.exit 0,[0],(Zac (Zao .sentry))⟩) (b:=⟨.ret,[2],(Zac (Zao .sentry))⟩) (step:=Zic) g74 rfl rfl Za3 (fun x=>by kernel_rfl)
def s74:Spec:=Zap (Zac (Zao .sentry)) (Zas (Zao .sentry)) Zm6
theorem ok74:Zan Tryz.prog 74 s74 :=
 Zaj (V:=e74) (L:=(ZaP [(2,ZAD)])) (rounds:=20) (depth:=6) g74 (Zbm (nt:=26) (by kernel_rfl) (Zb9 (by kernel_rfl)) (ZaI ZB3 ZaZ)) (fun x=>by kernel_rfl)
def e40:Env:=env1 [(74,s74)]
theorem g40:Zai e40:=Zal mix1 ent1 (Zab ok74 rfl Zah)
def ZAN:LSpec:=Zd5 [2,4,5,9,10,11] (Zaa (Zat celConfig) (Zaa (Zae .i64) (Zaa (Zae .i64) (Zaa (Zao .sentry) (Zaa (Zae .i64) (Zac (Zae .i64))))))) (⟨.exit 0,[4],(Zac (Zae .i64))⟩:Way) (ZaE Ziz)
theorem ZBd:LoopOK e40 34 ZAN (Za8 e40.P 40 3) :=
 Zcs (L:=ZaP []) (rounds:=20) (depth:=6) (ts:=[2,4,5,9,10,11]) (v:=(Zaa (Zat celConfig) (Zaa (Zae .i64) (Zaa (Zae .i64) (Zaa (Zao .sentry) (Zaa (Zae .i64) (Zac (Zae .i64)))))))) (a:=⟨.exit 0,[4],(Zac (Zae .i64))⟩) (step:=Ziz) g40 rfl Za3 (fun x=>by kernel_rfl)
def s40:Spec:=Zap (Zaa (Zar celConfig) (Zac (Zao .sentry))) (Zas (Zae .i64)) Zc0
theorem ok40:Zan Tryz.prog 40 s40 :=
 Zaj (V:=e40) (L:=(ZaP [(3,ZAN)])) (rounds:=20) (depth:=6) g40 (Zbm (nt:=34) (by kernel_rfl) (Zb9 (by kernel_rfl)) (ZaI ZBd ZaZ)) (fun x=>by kernel_rfl)
def e41:Env:=env1 []
theorem g41:Zai e41:=Zal mix1 ent1 Zah
def ZAG:LSpec:=Zd5 [1,2,7,8] (Zaa (Zao .sentry) (Zaa (Zat celConfig) (Zaa (Zae .i64) (Zac (Zae .i64))))) (⟨.exit 2,[2,7],(Zaa (Zat celConfig) (Zac (Zae .i64)))⟩:Way) (ZaE ZhL)
theorem ZBr:LoopOK e41 52 ZAG (Za8 e41.P 41 9) :=
 Zcs (L:=ZaP []) (rounds:=20) (depth:=6) (ts:=[1,2,7,8]) (v:=(Zaa (Zao .sentry) (Zaa (Zat celConfig) (Zaa (Zae .i64) (Zac (Zae .i64)))))) (a:=⟨.exit 2,[2,7],(Zaa (Zat celConfig) (Zac (Zae .i64)))⟩) (step:=ZhL) g41 rfl Za3 (fun x=>by kernel_rfl)
def ZAX:LSpec:=Zd5 [1,2,5,6] (Zaa (Zao .sentry) (Zaa (Zat celConfig) (Zaa (Zae .i64) (Zac (Zae .i64))))) (⟨.exit 0,[1,2,5],(Zaa (Zao .sentry) (Zaa (Zat celConfig) (Zac (Zae .i64))))⟩:Way) (ZaE ZhP)
theorem ZA7:LoopOK e41 52 ZAX (Za8 e41.P 41 3) :=
 Zcs (L:=ZaP []) (rounds:=20) (depth:=6) (ts:=[1,2,5,6]) (v:=(Zaa (Zao .sentry) (Zaa (Zat celConfig) (Zaa (Zae .i64) (Zac (Zae .i64)))))) (a:=⟨.exit 0,[1,2,5],(Zaa (Zao .sentry) (Zaa (Zat celConfig) (Zac (Zae .i64))))⟩) (step:=ZhP) g41 rfl Za3 (fun x=>by kernel_rfl)
def s41:Spec:=Zap (Zaa (Zar celConfig) (Zac (Zao .sentry))) (Zas (Zae .i64)) ZjM
theorem ok41:Zan Tryz.prog 41 s41 :=
 Zaj (V:=e41) (L:=(ZaP [(9,ZAG),(3,ZAX)])) (rounds:=20) (depth:=6) g41 (Zbm (nt:=52) (by kernel_rfl) (Zb9 (by kernel_rfl)) (ZaI ZBr (ZaI ZA7 ZaZ))) (fun x=>by kernel_rfl)
def e42:Env:=env1 [(18,s18),(40,s40)]
theorem g42:Zai e42:=Zal mix1 ent1 (Zab ok18 rfl (Zab ok40 rfl Zah))
def s42:Spec:=Zap (Zaa (Zar celConfig) (Zac (Zao .sentry))) (Zas (ZaJ)) ZeQ
theorem ok42:Zan Tryz.prog 42 s42 :=
 Zaj (V:=e42) (L:=nL) (rounds:=20) (depth:=6) g42 Zak (fun x=>by kernel_rfl)
def e43:Env:=env1 [(34,s34),(41,s41)]
theorem g43:Zai e43:=Zal mix1 ent1 (Zab ok34 rfl (Zab ok41 rfl Zah))
def s43:Spec:=Zap (Zaa (Zar celConfig) (Zac (Zao .sentry))) (Zas (ZaJ)) Zok
theorem ok43:Zan Tryz.prog 43 s43 :=
 Zaj (V:=e43) (L:=nL) (rounds:=20) (depth:=6) g43 Zak (fun x=>by kernel_rfl)
def e45:Env:=env1 [(24,s24)]
theorem g45:Zai e45:=Zal mix1 ent1 (Zab ok24 rfl Zah)
def ZAW:LSpec:=Zd5 [2,6,7,8] (Zaa (Zae .i64) (Zaa (Zao .thread) (Zaa (Zae .i64) (Zac (Zae .i64))))) (⟨.exit 0,[2],(Zac (Zae .i64))⟩:Way) (ZaE Zgx)
theorem ZBh:LoopOK e45 18 ZAW (Za8 e45.P 45 2) :=
 Zcs (L:=ZaP []) (rounds:=20) (depth:=6) (ts:=[2,6,7,8]) (v:=(Zaa (Zae .i64) (Zaa (Zao .thread) (Zaa (Zae .i64) (Zac (Zae .i64)))))) (a:=⟨.exit 0,[2],(Zac (Zae .i64))⟩) (step:=Zgx) g45 rfl Za3 (fun x=>by kernel_rfl)
def s45:Spec:=Zap (Zac (Zar ZbR)) (Zas (Zae .i64)) Zep
theorem ok45:Zan Tryz.prog 45 s45 :=
 Zaj (V:=e45) (L:=(ZaP [(2,ZAW)])) (rounds:=20) (depth:=6) g45 (Zbm (nt:=18) (by kernel_rfl) (Zb9 (by kernel_rfl)) (ZaI ZBh ZaZ)) (fun x=>by kernel_rfl)
def s47:Spec:=Zap (Zaa (Zar celConfig) (Zac (Zae .i64))) (Zas (Zae .i64)) Ztu
def s48:Spec:=Zap (Zaa (Zar Zhc) (Zaa (Zae .i64) (Zaa (Zae .i64) (Zac (Zae .i64))))) (Zb1 (Zaa (Zae .i64) (Zac (ZaJ)))) ZsS
def e56:Env:=env1 []
theorem g56:Zai e56:=Zal mix1 ent1 Zah
def Zz8:LSpec:=ZeV [1,29,30] (Zaa (Zat celConfig) (Zaa (Zar (Zam (Zav .i64) (Zam (Zav .i64) (Zam (Zav .i64) (Zam (Zav .i64) (Zam (Zav .i64) (Zam (Zav .i64) (Zam (Zav .i64) (Zam (Zav .i64) (Zam (Zav .i64) (Zam (Zav .i64) (Zam (Zav .i64) (Zam (Zav .i64) (Zam (Zav .i64) (Zam (Zav .i64) (Zam (Zav .i64) (Zam (Zav .i64) (Zam (Zav .i64) (Zam (Zav .i64) (Zam (Zav .i64) (Zam (Zav .i64) (Zam (Zav .i64) (Zam (Zav .i64) (Zam (Zav .i64) (Zav .i64))))))))))))))))))))))))) (Zac (Zae .i64)))) (⟨.exit 0,[1],(Zac (Zat celConfig))⟩:Way) (⟨.ret,[2],(Zac (Zae .i64))⟩:Way) (ZaE Zer)
theorem ZBz:LoopOK e56 65 Zz8 (Za8 e56.P 56 2) :=
 Zc4 (L:=ZaP []) (rounds:=20) (depth:=6) (ts:=[1,29,30]) (v:=(Zaa (Zat celConfig) (Zaa (Zar (Zam (Zav .i64) (Zam (Zav .i64) (Zam (Zav .i64) (Zam (Zav .i64) (Zam (Zav .i64) (Zam (Zav .i64) (Zam (Zav .i64) (Zam (Zav .i64) (Zam (Zav .i64) (Zam (Zav .i64) (Zam (Zav .i64) (Zam (Zav .i64) (Zam (Zav .i64) (Zam (Zav .i64) (Zam (Zav .i64) (Zam (Zav .i64) (Zam (Zav .i64) (Zam (Zav .i64) (Zam (Zav .i64) (Zam (Zav .i64) (Zam (Zav .i64) (Zam (Zav .i64) (Zam (Zav .i64) (Zav .i64))))))))))))))))))))))))) (Zac (Zae .i64))))) (a:=⟨.exit 0,[1],(Zac (Zat celConfig))⟩) (b:=⟨.ret,[2],(Zac (Zae .i64))⟩) (step:=Zer) g56 rfl rfl Za3 (fun x=>by kernel_rfl)
def s56:Spec:=Zap (Zac (Zar celConfig)) (Zas (Zae .i64)) Zee
theorem ok56:Zan Tryz.prog 56 s56 :=
 Zaj (V:=e56) (L:=(ZaP [(2,Zz8)])) (rounds:=20) (depth:=6) g56 (Zbm (nt:=65) (by kernel_rfl) (Zb9 (by kernel_rfl)) (ZaI ZBz ZaZ)) (fun x=>by kernel_rfl)
def e51:Env:=env1 [(56,s56),(61,s61)]
theorem g51:Zai e51:=Zal mix1 ent1 (Zab ok56 rfl (Zab ok61 rfl Zah))
def ZAL:LSpec:=ZeV [2,18,19,20] (Zaa (Zat celConfig) (Zaa (Zao .sentry) (Zaa (Zae .i64) (Zac (Zae .i64))))) (⟨.exit 0,[],valsNil⟩:Way) (⟨.ret,[4,5],(Zaa (Zae .i64) (Zac (Zae .i64)))⟩:Way) (ZaE Zgq)
theorem ZBu:LoopOK e51 33 ZAL (Za8 e51.P 51 7) :=
 Zc4 (L:=ZaP []) (rounds:=20) (depth:=6) (ts:=[2,18,19,20]) (v:=(Zaa (Zat celConfig) (Zaa (Zao .sentry) (Zaa (Zae .i64) (Zac (Zae .i64)))))) (a:=⟨.exit 0,[],valsNil⟩) (b:=⟨.ret,[4,5],(Zaa (Zae .i64) (Zac (Zae .i64)))⟩) (step:=Zgq) g51 rfl rfl Za3 (fun x=>by kernel_rfl)
def s51:Spec:=Zap (Zaa (Zar celConfig) (Zac (Zao .sentry))) (Zb1 (Zaa (Zae .i64) (Zac (Zae .i64)))) Zh1
theorem ok51:Zan Tryz.prog 51 s51 :=
 Zaj (V:=e51) (L:=(ZaP [(7,ZAL)])) (rounds:=20) (depth:=6) g51 (Zbm (nt:=33) (by kernel_rfl) (Zb9 (by kernel_rfl)) (ZaI ZBu ZaZ)) (fun x=>by kernel_rfl)
def e110:Env:=env1 []
theorem g110:Zai e110:=Zal mix1 ent1 Zah
def s110:Spec:=Zap (Zac (Zar celConfig)) (Zas (Zae .i64)) ZfD
theorem ZAQ:Zan Tryz.prog 110 s110 :=
 Zaj (V:=e110) (L:=nL) (rounds:=20) (depth:=6) g110 Zak (fun x=>by kernel_rfl)
def e94:Env:=env1 [(110,s110)]
theorem g94:Zai e94:=Zal mix1 ent1 (Zab ZAQ rfl Zah)
def s94:Spec:=Zap (Zac (Zar celConfig)) (Zas (Zar ZA2)) Zcm
theorem ok94:Zan Tryz.prog 94 s94 :=
 Zaj (V:=e94) (L:=nL) (rounds:=20) (depth:=6) g94 Zak (fun x=>by kernel_rfl)
def e71:Env:=env1 [(94,s94)]
theorem g71:Zai e71:=Zal mix1 ent1 (Zab ok94 rfl Zah)
def s71:Spec:=Zap (Zaa (Zar celConfig) (Zac (Zae .i64))) (Zas (Zae .i64)) ZcZ
theorem ok71:Zan Tryz.prog 71 s71 :=
 Zaj (V:=e71) (L:=nL) (rounds:=20) (depth:=6) g71 Zak (fun x=>by kernel_rfl)
def e103:Env:=env1 []
theorem g103:Zai e103:=Zal mix1 ent1 Zah
def s103:Spec:=Zap (Zac (Zae .i64)) (Zas (ZaQ 3 .int)) ZhR
theorem ZDs:Zan Tryz.prog 103 s103 :=
 Zaj (V:=e103) (L:=nL) (rounds:=20) (depth:=6) g103 Zak (fun x=>by kernel_rfl)
def e104:Env:=env1 []
theorem g104:Zai e104:=Zal mix1 ent1 Zah
def s104:Spec:=Zap (Zac (Zae .i64)) (Zas (ZaQ 54 (.lst .entry))) Zeq
theorem ZDv:Zan Tryz.prog 104 s104 :=
 Zaj (V:=e104) (L:=nL) (rounds:=20) (depth:=6) g104 Zak (fun x=>by kernel_rfl)
def e80:Env:=env1 [(103,s103),(104,s104)]
theorem g80:Zai e80:=Zal mix1 ent1 (Zab ZDs rfl (Zab ZDv rfl Zah))
def s80:Spec:=Zap (Zaa (Zae .i64) (Zac (Zae .i64))) (Zas (Zar (ZcC (Zam (ZbA 3 .int) (ZbA 54 (.lst .entry))) Memo (fun y=>⟨y.1,y.2⟩) (fun x=>(x.words,x.boxes)) (fun _=>rfl)))) ZmI
theorem ok80:Zan Tryz.prog 80 s80 :=
 Zaj (V:=e80) (L:=nL) (rounds:=20) (depth:=6) g80 Zak (fun x=>by kernel_rfl)
def e81:Env:=env1 [(94,s94)]
theorem g81:Zai e81:=Zal mix1 ent1 (Zab ok94 rfl Zah)
def s81:Spec:=Zap (Zac (Zar celConfig)) (Zas (Zae .i64)) ZkP
theorem ok81:Zan Tryz.prog 81 s81 :=
 Zaj (V:=e81) (L:=nL) (rounds:=20) (depth:=6) g81 Zak (fun x=>by kernel_rfl)
def e57:Env:=env1 [(71,s71),(80,s80),(81,s81)]
theorem g57:Zai e57:=Zal mix1 ent1 (Zab ok71 rfl (Zab ok80 rfl (Zab ok81 rfl Zah)))
def ZAY:LSpec:=Zd5 [1,2,3,11,12] (Zaa (Zat celConfig) (Zaa (Zat Zce) (Zaa (Zat (ZcC (Zam (ZbA 3 .int) (ZbA 54 (.lst .entry))) Memo (fun y=>⟨y.1,y.2⟩) (fun x=>(x.words,x.boxes)) (fun _=>rfl))) (Zaa (Zae .i64) (Zac (Zae .i64)))))) (⟨.exit 0,[2,3],(Zaa (Zat Zce) (Zac (Zat (ZcC (Zam (ZbA 3 .int) (ZbA 54 (.lst .entry))) Memo (fun y=>⟨y.1,y.2⟩) (fun x=>(x.words,x.boxes)) (fun _=>rfl)))))⟩:Way) (ZaE ZfX)
theorem ZBU:LoopOK e57 25 ZAY (Za8 e57.P 57 3) :=
 Zcs (L:=ZaP []) (rounds:=20) (depth:=6) (ts:=[1,2,3,11,12]) (v:=(Zaa (Zat celConfig) (Zaa (Zat Zce) (Zaa (Zat (ZcC (Zam (ZbA 3 .int) (ZbA 54 (.lst .entry))) Memo (fun y=>⟨y.1,y.2⟩) (fun x=>(x.words,x.boxes)) (fun _=>rfl))) (Zaa (Zae .i64) (Zac (Zae .i64))))))) (a:=⟨.exit 0,[2,3],(Zaa (Zat Zce) (Zac (Zat (ZcC (Zam (ZbA 3 .int) (ZbA 54 (.lst .entry))) Memo (fun y=>⟨y.1,y.2⟩) (fun x=>(x.words,x.boxes)) (fun _=>rfl)))))⟩) (step:=ZfX) g57 rfl Za3 (fun x=>by kernel_rfl)
def s57:Spec:=Zap (Zac (Zar celConfig)) (Zas (Zar (ZcC (Zam (ZbA 3 .int) (ZbA 54 (.lst .entry))) Memo (fun y=>⟨y.1,y.2⟩) (fun x=>(x.words,x.boxes)) (fun _=>rfl)))) ZjO
theorem ok57:Zan Tryz.prog 57 s57 :=
 Zaj (V:=e57) (L:=(ZaP [(3,ZAY)])) (rounds:=20) (depth:=6) g57 (Zbm (nt:=25) (by kernel_rfl) (Zb9 (by kernel_rfl)) (ZaI ZBU ZaZ)) (fun x=>by kernel_rfl)
def e59:Env:=env1 []
theorem g59:Zai e59:=Zal mix1 ent1 Zah
def s59:Spec:=Zap valsNil (Zas (Zar Zi8)) Zke
theorem ok59:Zan Tryz.prog 59 s59 :=
 Zaj (V:=e59) (L:=nL) (rounds:=20) (depth:=6) g59 Zak (fun x=>by kernel_rfl)
def e60:Env:=env1 []
theorem g60:Zai e60:=Zal mix1 ent1 Zah
def s60:Spec:=Zap (Zac (Zao .int)) (Zas (ZaQ 3 .int)) Zbt
theorem ok60:Zan Tryz.prog 60 s60 :=
 ZiD (V:=e60) (L:=nL) (rounds:=20) (depth:=6) (r:=(Zas (ZaQ 3 .int))) g60 Zak (by kernel_rfl) (fun x=>by kernel_rfl)
def e91:Env:=env1 []
theorem g91:Zai e91:=Zal mix1 ent1 Zah
def s91:Spec:=Zap (Zaa (Zao .int) (Zac (Zae .i64))) (Zb1 (Zaa (Zae .i64) (Zac (Zae .i64)))) ZbB
theorem ok91:Zan Tryz.prog 91 s91 :=
 Zaj (V:=e91) (L:=nL) (rounds:=20) (depth:=6) g91 Zak (fun x=>by kernel_rfl)
def e70:Env:=env1 [(91,s91)]
theorem g70:Zai e70:=Zal mix1 ent1 (Zab ok91 rfl Zah)
def s70:Spec:=Zap (Zaa (Zar Zce) (Zac (Zae .i64))) (Zb1 (Zaa (Zae .i64) (Zac (Zae .i64)))) ZbZ
theorem ok70:Zan Tryz.prog 70 s70 :=
 Zaj (V:=e70) (L:=nL) (rounds:=20) (depth:=6) g70 Zak (fun x=>by kernel_rfl)
def e106:Env:=env1 []
theorem g106:Zai e106:=Zal mix1 ent1 Zah
def s106:Spec:=Zap (Zaa (Zae .u64) (Zac (Zae .u64))) (Zb1 (Zaa (Zae .u64) (Zac (Zae .u64)))) ZjS
theorem ZC6:Zan Tryz.prog 106 s106 :=
 Zaj (V:=e106) (L:=nL) (rounds:=20) (depth:=6) g106 Zak (fun x=>by kernel_rfl)
def e82:Env:=env1 [(106,s106)]
theorem g82:Zai e82:=Zal mix1 ent1 (Zab ZC6 rfl Zah)
def s82:Spec:=Zap (Zaa (Zae .u64) (Zac (Zae .u64))) (Zb1 (Zaa (Zae .u64) (Zac (Zae .u64)))) ZdC
theorem ok82:Zan Tryz.prog 82 s82 :=
 Zaj (V:=e82) (L:=nL) (rounds:=20) (depth:=6) g82 Zak (fun x=>by kernel_rfl)
def e109:Env:=env1 []
theorem g109:Zai e109:=Zal mix1 ent1 Zah
def s109:Spec:=Zap (Zaa (Zae .i64) (Zaa (Zae .i64) (Zaa (Zae .i64) (Zac (Zae .i64))))) (Zas (ZaJ)) ZjL
theorem ZCT:Zan Tryz.prog 109 s109 :=
 Zaj (V:=e109) (L:=nL) (rounds:=20) (depth:=6) g109 Zak (fun x=>by kernel_rfl)
def e90:Env:=env1 [(109,s109)]
theorem g90:Zai e90:=Zal mix1 ent1 (Zab ZCT rfl Zah)
def s90:Spec:=Zap (Zaa (Zar Zhc) (Zaa (Zae .i64) (Zaa (Zae .i64) (Zac (Zae .i64))))) (Zb1 (Zaa (Zae .i64) (Zac (ZaJ)))) ZcJ
theorem ok90:Zan Tryz.prog 90 s90 :=
 Zaj (V:=e90) (L:=nL) (rounds:=20) (depth:=6) g90 Zak (fun x=>by kernel_rfl)
def e120:Env:=env1 [(60,s60),(91,s91)]
theorem g120:Zai e120:=Zal mix1 ent1 (Zab ok60 rfl (Zab ok91 rfl Zah))
def s120:Spec:=Zap (Zaa (Zar Zce) (Zaa (Zae .i64) (Zac (Zae .i64)))) (Zb1 (Zaa (Zar Zce) (Zac (Zae .i64)))) Zb5
theorem ZqZ:Zan Tryz.prog 120 s120 :=
 Zaj (V:=e120) (L:=nL) (rounds:=20) (depth:=6) g120 Zak (fun x=>by kernel_rfl)
def e121:Env:=env1 [(94,s94)]
theorem g121:Zai e121:=Zal mix1 ent1 (Zab ok94 rfl Zah)
def s121:Spec:=Zap (Zaa (Zar celConfig) (Zac (Zae .i64))) (Zas (Zae .i64)) Zc6
theorem ZwH:Zan Tryz.prog 121 s121 :=
 Zaj (V:=e121) (L:=nL) (rounds:=20) (depth:=6) g121 Zak (fun x=>by kernel_rfl)
def e122:Env:=env1 []
theorem g122:Zai e122:=Zal mix1 ent1 Zah
def s122:Spec:=Zap (Zac (Zar ZaF)) (Zas (Zar ZaF)) ZhK
theorem ZCA:Zan Tryz.prog 122 s122 :=
 Zaj (V:=e122) (L:=nL) (rounds:=20) (depth:=6) g122 Zak (fun x=>by kernel_rfl)
def e114:Env:=env1 [(120,s120),(121,s121),(122,s122)]
theorem g114:Zai e114:=Zal mix1 ent1 (Zab ZqZ rfl (Zab ZwH rfl (Zab ZCA rfl Zah)))
def s114:Spec:=Zap (Zac (Zar ZaF)) (Zb1 (Zaa (Zar ZaF) (Zac (ZaJ)))) ZhH
theorem ZDf:Zan Tryz.prog 114 s114 :=
 Zaj (V:=e114) (L:=nL) (rounds:=20) (depth:=6) g114 Zak (fun x=>by kernel_rfl)
def e131:Env:=env1 [(94,s94),(110,s110)]
theorem g131:Zai e131:=Zal mix1 ent1 (Zab ok94 rfl (Zab ZAQ rfl Zah))
def s131:Spec:=Zap (Zaa (Zar celConfig) (Zaa (Zae .i64) (Zac (Zae .i64)))) (Zas (Zae .i64)) Zet
theorem Zwx:Zan Tryz.prog 131 s131 :=
 Zaj (V:=e131) (L:=nL) (rounds:=20) (depth:=6) g131 Zak (fun x=>by kernel_rfl)
def e156:Env:=env1 []
theorem g156:Zai e156:=Zal mix1 ent1 Zah
def s156:Spec:=Zap (Zac (Zar Zvu)) (Zas (Zae .i64)) ZbM
theorem Zq2:Zan Tryz.prog 156 s156 :=
 Zaj (V:=e156) (L:=nL) (rounds:=20) (depth:=6) g156 Zak (fun x=>by kernel_rfl)
def e132:Env:=env1 [(156,s156)]
theorem g132:Zai e132:=Zal mix1 ent1 (Zab Zq2 rfl Zah)
def s132:Spec:=Zap (Zac (Zae .i64)) (Zas (Zae .i64)) Zff
theorem Zwc:Zan Tryz.prog 132 s132 :=
 Zaj (V:=e132) (L:=nL) (rounds:=20) (depth:=6) g132 Zak (fun x=>by kernel_rfl)
def e157:Env:=env1 []
theorem g157:Zai e157:=Zal mix1 ent1 Zah
def s157:Spec:=Zap (Zac (Zae .i64)) (Zas (Zae .i64)) Ziq
theorem ZCF:Zan Tryz.prog 157 s157 :=
 Zaj (V:=e157) (L:=nL) (rounds:=20) (depth:=6) g157 Zak (fun x=>by kernel_rfl)
def e174:Env:=env1 []
theorem g174:Zai e174:=Zal mix1 ent1 Zah
def s174:Spec:=Zap (Zac (Zar ZaF)) (Zas (Zar ZaF)) Zf2
theorem ZAl:Zan Tryz.prog 174 s174 :=
 Zaj (V:=e174) (L:=nL) (rounds:=20) (depth:=6) g174 Zak (fun x=>by kernel_rfl)
def e158:Env:=env1 [(174,s174)]
theorem g158:Zai e158:=Zal mix1 ent1 (Zab ZAl rfl Zah)
def s158:Spec:=Zap (Zac (Zar ZaF)) (Zas (Zar ZaF)) Zeo
theorem Zw1:Zan Tryz.prog 158 s158 :=
 Zaj (V:=e158) (L:=nL) (rounds:=20) (depth:=6) g158 Zak (fun x=>by kernel_rfl)
def e133:Env:=env1 [(60,s60),(157,s157),(158,s158)]
theorem g133:Zai e133:=Zal mix1 ent1 (Zab ok60 rfl (Zab ZCF rfl (Zab Zw1 rfl Zah)))
def s133:Spec:=Zap (Zac (Zar ZaF)) (Zas (Zar ZaF)) ZjR
theorem ZCE:Zan Tryz.prog 133 s133 :=
 Zaj (V:=e133) (L:=nL) (rounds:=20) (depth:=6) g133 Zak (fun x=>by kernel_rfl)
def e135:Env:=env1 [(60,s60),(91,s91)]
theorem g135:Zai e135:=Zal mix1 ent1 (Zab ok60 rfl (Zab ok91 rfl Zah))
def s135:Spec:=Zap (Zaa (Zar Zce) (Zaa (Zae .i64) (Zaa (Zae .i64) (Zac (Zae .i64))))) (Zb1 (Zaa (Zar Zce) (Zaa (ZaJ) (Zac (Zae .i64))))) ZcP
theorem Zs1:Zan Tryz.prog 135 s135 :=
 Zaj (V:=e135) (L:=nL) (rounds:=20) (depth:=6) g135 Zak (fun x=>by kernel_rfl)
def e153:Env:=env1 []
theorem g153:Zai e153:=Zal mix1 ent1 Zah
def s153:Spec:=Zap (Zac (Zar ZaF)) (Zas (ZaJ)) ZdR
theorem ZwC:Zan Tryz.prog 153 s153 :=
 Zaj (V:=e153) (L:=nL) (rounds:=20) (depth:=6) g153 Zak (fun x=>by kernel_rfl)
def e175:Env:=env1 []
theorem g175:Zai e175:=Zal mix1 ent1 Zah
def s175:Spec:=Zap (Zac (Zae .i64)) (Zas (Zar Zvu)) Zjb
theorem ZAk:Zan Tryz.prog 175 s175 :=
 Zaj (V:=e175) (L:=nL) (rounds:=20) (depth:=6) g175 Zak (fun x=>by kernel_rfl)
def e160:Env:=env1 [(175,s175)]
theorem g160:Zai e160:=Zal mix1 ent1 (Zab ZAk rfl Zah)
def s160:Spec:=Zap (Zac (Zae .i64)) (Zas (Zae .i64)) ZgU
theorem ZA0:Zan Tryz.prog 160 s160 :=
 Zaj (V:=e160) (L:=nL) (rounds:=20) (depth:=6) g160 Zak (fun x=>by kernel_rfl)
def e136:Env:=env1 [(153,s153),(158,s158),(160,s160)]
theorem g136:Zai e136:=Zal mix1 ent1 (Zab ZwC rfl (Zab Zw1 rfl (Zab ZA0 rfl Zah)))
def s136:Spec:=Zap (Zaa (Zar ZaF) (Zac (Zae .i64))) (Zas (Zar ZaF)) ZkJ
theorem ZDg:Zan Tryz.prog 136 s136 :=
 Zaj (V:=e136) (L:=nL) (rounds:=20) (depth:=6) g136 Zak (fun x=>by kernel_rfl)
def e137:Env:=env1 [(156,s156)]
theorem g137:Zai e137:=Zal mix1 ent1 (Zab Zq2 rfl Zah)
def s137:Spec:=Zap (Zac (Zae .i64)) (Zas (Zae .i64)) ZjG
theorem ZC4:Zan Tryz.prog 137 s137 :=
 Zaj (V:=e137) (L:=nL) (rounds:=20) (depth:=6) g137 Zak (fun x=>by kernel_rfl)
def e138:Env:=env1 [(158,s158)]
theorem g138:Zai e138:=Zal mix1 ent1 (Zab Zw1 rfl Zah)
def s138:Spec:=Zap (Zac (Zar ZaF)) (Zas (Zar ZaF)) Zit
theorem ZC3:Zan Tryz.prog 138 s138 :=
 Zaj (V:=e138) (L:=nL) (rounds:=20) (depth:=6) g138 Zak (fun x=>by kernel_rfl)
def e117:Env:=env1 [(70,s70),(131,s131),(132,s132),(133,s133),(135,s135),(136,s136),(137,s137),(138,s138)]
theorem g117:Zai e117:=Zal mix1 ent1 (Zab ok70 rfl (Zab Zwx rfl (Zab Zwc rfl (Zab ZCE rfl (Zab Zs1 rfl (Zab ZDg rfl (Zab ZC4 rfl (Zab ZC3 rfl Zah))))))))
def s117:Spec:=Zap (Zac (Zar ZaF)) (Zb1 (Zaa (Zar ZaF) (Zac (ZaJ)))) Zkt
theorem ZC7:Zan Tryz.prog 117 s117 :=
 Zaj (V:=e117) (L:=nL) (rounds:=20) (depth:=6) g117 Zak (fun x=>by kernel_rfl)
def e176:Env:=env1 [(131,s131)]
theorem g176:Zai e176:=Zal mix1 ent1 (Zab Zwx rfl Zah)
def s176:Spec:=Zap (Zac (Zar ZaF)) (Zas (Zae .i64)) ZfA
theorem Zxj:Zan Tryz.prog 176 s176 :=
 Zaj (V:=e176) (L:=nL) (rounds:=20) (depth:=6) g176 Zak (fun x=>by kernel_rfl)
def e177:Env:=env1 [(175,s175)]
theorem g177:Zai e177:=Zal mix1 ent1 (Zab ZAk rfl Zah)
def s177:Spec:=Zap (Zac (Zae .i64)) (Zas (Zae .i64)) Zmn
theorem ZDe:Zan Tryz.prog 177 s177 :=
 Zaj (V:=e177) (L:=nL) (rounds:=20) (depth:=6) g177 Zak (fun x=>by kernel_rfl)
def e161:Env:=env1 [(70,s70),(132,s132),(160,s160),(176,s176),(177,s177)]
theorem g161:Zai e161:=Zal mix1 ent1 (Zab ok70 rfl (Zab Zwc rfl (Zab ZA0 rfl (Zab Zxj rfl (Zab ZDe rfl Zah)))))
def s161:Spec:=Zap (Zac (Zar ZaF)) (Zas (Zar ZaF)) ZjP
theorem ZDu:Zan Tryz.prog 161 s161 :=
 Zaj (V:=e161) (L:=nL) (rounds:=20) (depth:=6) g161 Zak (fun x=>by kernel_rfl)
def e180:Env:=env1 [(174,s174)]
theorem g180:Zai e180:=Zal mix1 ent1 (Zab ZAl rfl Zah)
def s180:Spec:=Zap (Zac (Zar ZaF)) (Zas (Zar ZaF)) Zhf
theorem ZAf:Zan Tryz.prog 180 s180 :=
 Zaj (V:=e180) (L:=nL) (rounds:=20) (depth:=6) g180 Zak (fun x=>by kernel_rfl)
def e162:Env:=env1 [(132,s132),(135,s135),(176,s176),(180,s180)]
theorem g162:Zai e162:=Zal mix1 ent1 (Zab Zwc rfl (Zab Zs1 rfl (Zab Zxj rfl (Zab ZAf rfl Zah))))
def s162:Spec:=Zap (Zac (Zar ZaF)) (Zas (Zar ZaF)) Zju
theorem ZCu:Zan Tryz.prog 162 s162 :=
 Zaj (V:=e162) (L:=nL) (rounds:=20) (depth:=6) g162 Zak (fun x=>by kernel_rfl)
def e173:Env:=env1 []
theorem g173:Zai e173:=Zal mix1 ent1 Zah
def s173:Spec:=Zap (Zac (Zao .entry)) (Zas (ZaQ 178 .entry)) Zbj
theorem ZwR:Zan Tryz.prog 173 s173 :=
 ZiD (V:=e173) (L:=nL) (rounds:=20) (depth:=6) (r:=(Zas (ZaQ 178 .entry))) g173 Zak (by kernel_rfl) (fun x=>by kernel_rfl)
def e191:Env:=env1 []
theorem g191:Zai e191:=Zal mix1 ent1 Zah
def s191:Spec:=Zap (Zaa (Zao (.lst .entry)) (Zac (Zae .i64))) (Zb1 (Zaa (Zao .entry) (Zac (Zae .i64)))) Zcl
theorem ZAE:Zan Tryz.prog 191 s191 :=
 Zaj (V:=e191) (L:=nL) (rounds:=20) (depth:=6) g191 Zak (fun x=>by kernel_rfl)
def e181:Env:=env1 [(173,s173),(191,s191)]
theorem g181:Zai e181:=Zal mix1 ent1 (Zab ZwR rfl (Zab ZAE rfl Zah))
def s181:Spec:=Zap (Zaa (Zar Zce) (Zac (Zae .i64))) (Zb1 (Zaa (Zao .entry) (Zac (Zae .i64)))) ZhG
theorem ZAq:Zan Tryz.prog 181 s181 :=
 Zaj (V:=e181) (L:=nL) (rounds:=20) (depth:=6) g181 Zak (fun x=>by kernel_rfl)
def e200:Env:=ZAI []
theorem g200:Zai e200:=Zal mix1 ent1 Zah
def s200:Spec:=Zap (Zaa (ZtX) (Zac (Zae .i64))) (Zas (ZaQ 216 .kid)) Zek
theorem ZDb:Zan Tryz.prog 200 s200 :=
 Zaj (V:=e200) (L:=nL) (rounds:=20) (depth:=6) g200 Zak (fun x=>by kernel_rfl)
def e192:Env:=env1 [(200,s200)]
theorem g192:Zai e192:=Zal mix1 ent1 (Zab ZDb rfl Zah)
def Zvr:LSpec:=Zd5 [6,25,26,27] (Zaa (ZaQ 216 .kid) (Zaa (Zao (.lst .kid)) (Zaa (Zae .i64) (Zac (Zae .i64))))) (⟨.exit 2,[6],(Zac (ZaQ 216 .kid))⟩:Way) (ZaE ZbD)
theorem Zyu:LoopOK e192 36 Zvr (Za8 e192.P 192 11) :=
 Zcs (L:=ZaP []) (rounds:=20) (depth:=6) (ts:=[6,25,26,27]) (v:=(Zaa (ZaQ 216 .kid) (Zaa (Zao (.lst .kid)) (Zaa (Zae .i64) (Zac (Zae .i64)))))) (a:=⟨.exit 2,[6],(Zac (ZaQ 216 .kid))⟩) (step:=ZbD) g192 rfl Za3 (fun x=>by kernel_rfl)
def ZxK:LSpec:=Zd5 [0,3,9,10,11] (Zaa (Zao (.lst .kid)) (Zaa (Zae .i64) (Zaa (Zao (.lst .kid)) (Zaa (Zae .i64) (Zac (Zae .i64)))))) (⟨.exit 0,[0,3],(Zaa (Zao (.lst .kid)) (Zac (Zae .i64)))⟩:Way) (ZaE ZbK)
theorem ZzC:LoopOK e192 36 ZxK (Za8 e192.P 192 3) :=
 Zcs (L:=ZaP []) (rounds:=20) (depth:=6) (ts:=[0,3,9,10,11]) (v:=(Zaa (Zao (.lst .kid)) (Zaa (Zae .i64) (Zaa (Zao (.lst .kid)) (Zaa (Zae .i64) (Zac (Zae .i64))))))) (a:=⟨.exit 0,[0,3],(Zaa (Zao (.lst .kid)) (Zac (Zae .i64)))⟩) (step:=ZbK) g192 rfl Za3 (fun x=>by kernel_rfl)
def s192:Spec:=Zap (Zac (Zao (.lst .kid))) (Zas (ZaQ 216 .kid)) ZdL
theorem ZDx:Zan Tryz.prog 192 s192 :=
 Zaj (V:=e192) (L:=(ZaP [(11,Zvr),(3,ZxK)])) (rounds:=20) (depth:=6) g192 (Zbm (nt:=36) (by kernel_rfl) (Zb9 (by kernel_rfl)) (ZaI Zyu (ZaI ZzC ZaZ))) (fun x=>by kernel_rfl)
def e203:Env:=ZAI []
theorem g203:Zai e203:=Zal mix1 ent1 Zah
def s203:Spec:=Zap (Zaa (ZtX) (Zac (Zae .i64))) (Zas (ZaQ 178 .entry)) Zd3
theorem ZCO:Zan Tryz.prog 203 s203 :=
 Zaj (V:=e203) (L:=nL) (rounds:=20) (depth:=6) g203 Zak (fun x=>by kernel_rfl)
def e201:Env:=env1 [(203,s203)]
theorem g201:Zai e201:=Zal mix1 ent1 (Zab ZCO rfl Zah)
def Zvs:LSpec:=Zd5 [6,25,26,27] (Zaa (ZaQ 178 .entry) (Zaa (Zao (.lst .entry)) (Zaa (Zae .i64) (Zac (Zae .i64))))) (⟨.exit 2,[6],(Zac (ZaQ 178 .entry))⟩:Way) (ZaE Zbz)
theorem ZxR:LoopOK e201 36 Zvs (Za8 e201.P 201 11) :=
 Zcs (L:=ZaP []) (rounds:=20) (depth:=6) (ts:=[6,25,26,27]) (v:=(Zaa (ZaQ 178 .entry) (Zaa (Zao (.lst .entry)) (Zaa (Zae .i64) (Zac (Zae .i64)))))) (a:=⟨.exit 2,[6],(Zac (ZaQ 178 .entry))⟩) (step:=Zbz) g201 rfl Za3 (fun x=>by kernel_rfl)
def ZyK:LSpec:=Zd5 [0,3,9,10,11] (Zaa (Zao (.lst .entry)) (Zaa (Zae .i64) (Zaa (Zao (.lst .entry)) (Zaa (Zae .i64) (Zac (Zae .i64)))))) (⟨.exit 0,[0,3],(Zaa (Zao (.lst .entry)) (Zac (Zae .i64)))⟩:Way) (ZaE ZbF)
theorem Zzh:LoopOK e201 36 ZyK (Za8 e201.P 201 3) :=
 Zcs (L:=ZaP []) (rounds:=20) (depth:=6) (ts:=[0,3,9,10,11]) (v:=(Zaa (Zao (.lst .entry)) (Zaa (Zae .i64) (Zaa (Zao (.lst .entry)) (Zaa (Zae .i64) (Zac (Zae .i64))))))) (a:=⟨.exit 0,[0,3],(Zaa (Zao (.lst .entry)) (Zac (Zae .i64)))⟩) (step:=ZbF) g201 rfl Za3 (fun x=>by kernel_rfl)
def s201:Spec:=Zap (Zac (Zao (.lst .entry))) (Zas (ZaQ 178 .entry)) Zdu
theorem ZDh:Zan Tryz.prog 201 s201 :=
 Zaj (V:=e201) (L:=(ZaP [(11,Zvs),(3,ZyK)])) (rounds:=20) (depth:=6) g201 (Zbm (nt:=36) (by kernel_rfl) (Zb9 (by kernel_rfl)) (ZaI ZxR (ZaI Zzh ZaZ))) (fun x=>by kernel_rfl)
def e193:Env:=env1 [(201,s201)]
theorem g193:Zai e193:=Zal mix1 ent1 (Zab ZDh rfl Zah)
def s193:Spec:=Zap (Zac (Zao (.lst .entry))) (Zas (Zao .entry)) Zku
theorem ZDn:Zan Tryz.prog 193 s193 :=
 Zaj (V:=e193) (L:=nL) (rounds:=20) (depth:=6) g193 Zak (fun x=>by kernel_rfl)
def e183:Env:=env1 [(192,s192),(193,s193)]
theorem g183:Zai e183:=Zal mix1 ent1 (Zab ZDx rfl (Zab ZDn rfl Zah))
def s183:Spec:=Zap (Zaa (Zar ZaF) (Zaa (Zae .i64) (Zac (Zao .entry)))) (Zas (Zar ZaF)) ZfB
theorem ZAr:Zan Tryz.prog 183 s183 :=
 Zaj (V:=e183) (L:=nL) (rounds:=20) (depth:=6) g183 Zak (fun x=>by kernel_rfl)
def e163:Env:=env1 [(181,s181),(183,s183)]
theorem g163:Zai e163:=Zal mix1 ent1 (Zab ZAq rfl (Zab ZAr rfl Zah))
def s163:Spec:=Zap (Zac (Zar ZaF)) (Zas (Zar ZaF)) Zhp
theorem ZCL:Zan Tryz.prog 163 s163 :=
 Zaj (V:=e163) (L:=nL) (rounds:=20) (depth:=6) g163 Zak (fun x=>by kernel_rfl)
def e164:Env:=env1 [(120,s120),(176,s176),(180,s180)]
theorem g164:Zai e164:=Zal mix1 ent1 (Zab ZqZ rfl (Zab Zxj rfl (Zab ZAf rfl Zah)))
def s164:Spec:=Zap (Zac (Zar ZaF)) (Zas (Zar ZaF)) Zjv
theorem ZDm:Zan Tryz.prog 164 s164 :=
 Zaj (V:=e164) (L:=nL) (rounds:=20) (depth:=6) g164 Zak (fun x=>by kernel_rfl)
def e194:Env:=env1 []
theorem g194:Zai e194:=Zal mix1 ent1 Zah
def s194:Spec:=Zap (Zac (Zao (.lst .entry))) (Zas (ZaQ 54 (.lst .entry))) Zdw
theorem ZCH:Zan Tryz.prog 194 s194 :=
 ZiD (V:=e194) (L:=nL) (rounds:=20) (depth:=6) (r:=(Zas (ZaQ 54 (.lst .entry)))) g194 Zak (by kernel_rfl) (fun x=>by kernel_rfl)
def e184:Env:=env1 [(173,s173),(191,s191),(194,s194)]
theorem g184:Zai e184:=Zal mix1 ent1 (Zab ZwR rfl (Zab ZAE rfl (Zab ZCH rfl Zah)))
def s184:Spec:=Zap (Zaa (Zar Zce) (Zaa (Zae .i64) (Zac (Zao .entry)))) (Zb1 (Zaa (Zar Zce) (Zac (Zae .i64)))) ZhE
theorem ZAs:Zan Tryz.prog 184 s184 :=
 Zaj (V:=e184) (L:=nL) (rounds:=20) (depth:=6) g184 Zak (fun x=>by kernel_rfl)
def e165:Env:=env1 [(184,s184)]
theorem g165:Zai e165:=Zal mix1 ent1 (Zab ZAs rfl Zah)
def s165:Spec:=Zap (Zac (Zar ZaF)) (Zas (Zar ZaF)) Zhk
theorem ZCK:Zan Tryz.prog 165 s165 :=
 Zaj (V:=e165) (L:=nL) (rounds:=20) (depth:=6) g165 Zak (fun x=>by kernel_rfl)
def e185:Env:=env1 [(156,s156)]
theorem g185:Zai e185:=Zal mix1 ent1 (Zab Zq2 rfl Zah)
def s185:Spec:=Zap (Zac (Zae .i64)) (Zas (Zae .i64)) Zhh
theorem ZDi:Zan Tryz.prog 185 s185 :=
 Zaj (V:=e185) (L:=nL) (rounds:=20) (depth:=6) g185 Zak (fun x=>by kernel_rfl)
def e166:Env:=env1 [(120,s120),(131,s131),(185,s185)]
theorem g166:Zai e166:=Zal mix1 ent1 (Zab ZqZ rfl (Zab Zwx rfl (Zab ZDi rfl Zah)))
def s166:Spec:=Zap (Zac (Zar ZaF)) (Zas (Zar ZaF)) Zhs
theorem ZCC:Zan Tryz.prog 166 s166 :=
 Zaj (V:=e166) (L:=nL) (rounds:=20) (depth:=6) g166 Zak (fun x=>by kernel_rfl)
def e118:Env:=env1 [(161,s161),(162,s162),(163,s163),(164,s164),(165,s165),(166,s166)]
theorem g118:Zai e118:=Zal mix1 ent1 (Zab ZDu rfl (Zab ZCu rfl (Zab ZCL rfl (Zab ZDm rfl (Zab ZCK rfl (Zab ZCC rfl Zah))))))
def s118:Spec:=Zap (Zac (Zar ZaF)) (Zb1 (Zaa (Zar ZaF) (Zac (ZaJ)))) Zjm
theorem ZDl:Zan Tryz.prog 118 s118 :=
 Zaj (V:=e118) (L:=nL) (rounds:=20) (depth:=6) g118 Zak (fun x=>by kernel_rfl)
def e129:Env:=env1 [(153,s153)]
theorem g129:Zai e129:=Zal mix1 ent1 (Zab ZwC rfl Zah)
def s129:Spec:=Zap (Zac (Zar ZaF)) (Zas (Zar ZaF)) Zco
theorem ZAh:Zan Tryz.prog 129 s129 :=
 Zaj (V:=e129) (L:=nL) (rounds:=20) (depth:=6) g129 Zak (fun x=>by kernel_rfl)
def e140:Env:=env1 [(156,s156)]
theorem g140:Zai e140:=Zal mix1 ent1 (Zab Zq2 rfl Zah)
def s140:Spec:=Zap (Zaa (Zae .i64) (Zac (Zae .i64))) (Zas (Zae .i64)) ZiU
theorem ZDj:Zan Tryz.prog 140 s140 :=
 Zaj (V:=e140) (L:=nL) (rounds:=20) (depth:=6) g140 Zak (fun x=>by kernel_rfl)
def e142:Env:=env1 [(121,s121)]
theorem g142:Zai e142:=Zal mix1 ent1 (Zab ZwH rfl Zah)
def s142:Spec:=Zhw (Zaa (ZqH (Zam ZaF (Zav .i64))) (Zac (Zae .i64))) (Zas (Zae .i64)) ZbX
theorem ZDa:Zan Tryz.prog 142 s142 :=
 Zgi (V:=e142) (L:=nL) (rounds:=20) (depth:=6) g142 Zak (fun x=>by kernel_rfl)
def e146:Env:=env1 [(156,s156)]
theorem g146:Zai e146:=Zal mix1 ent1 (Zab Zq2 rfl Zah)
def s146:Spec:=Zap valsNil (Zas (Zae .i64)) ZgM
theorem ZCv:Zan Tryz.prog 146 s146 :=
 Zaj (V:=e146) (L:=nL) (rounds:=20) (depth:=6) g146 Zak (fun x=>by kernel_rfl)
def e147:Env:=env1 [(94,s94)]
theorem g147:Zai e147:=Zal mix1 ent1 (Zab ok94 rfl Zah)
def s147:Spec:=Zap (Zaa (Zar celConfig) (Zac (Zae .i64))) (Zas (Zae .i64)) Zfi
theorem ZCy:Zan Tryz.prog 147 s147 :=
 Zaj (V:=e147) (L:=nL) (rounds:=20) (depth:=6) g147 Zak (fun x=>by kernel_rfl)
def e148:Env:=env1 []
theorem g148:Zai e148:=Zal mix1 ent1 Zah
def s148:Spec:=Zap (Zac (Zar ZaF)) (Zas (Zar ZaF)) Zdk
theorem ZAJ:Zan Tryz.prog 148 s148 :=
 Zaj (V:=e148) (L:=nL) (rounds:=20) (depth:=6) g148 Zak (fun x=>by kernel_rfl)
def e151:Env:=env1 [(173,s173)]
theorem g151:Zai e151:=Zal mix1 ent1 (Zab ZwR rfl Zah)
def s151:Spec:=Zap (Zaa (Zao .entry) (Zac (Zae .i64))) (Zas (Zao .entry)) Zkk
theorem ZCM:Zan Tryz.prog 151 s151 :=
 Zaj (V:=e151) (L:=nL) (rounds:=20) (depth:=6) g151 Zak (fun x=>by kernel_rfl)
def e187:Env:=env1 [(60,s60),(91,s91)]
theorem g187:Zai e187:=Zal mix1 ent1 (Zab ok60 rfl (Zab ok91 rfl Zah))
def s187:Spec:=Zap (Zaa (Zar Zce) (Zaa (Zae .i64) (Zac (Zae .i64)))) (Zb1 (Zaa (Zar Zce) (Zaa (Zae .i64) (Zac (Zae .i64))))) ZlC
theorem ZCJ:Zan Tryz.prog 187 s187 :=
 Zaj (V:=e187) (L:=nL) (rounds:=20) (depth:=6) g187 Zak (fun x=>by kernel_rfl)
def e188:Env:=env1 [(94,s94)]
theorem g188:Zai e188:=Zal mix1 ent1 (Zab ok94 rfl Zah)
def s188:Spec:=Zap (Zaa (Zar celConfig) (Zaa (Zae .i64) (Zaa (Zae .i64) (Zac (Zae .i64))))) (Zas (Zae .i64)) Zkr
theorem ZCx:Zan Tryz.prog 188 s188 :=
 Zaj (V:=e188) (L:=nL) (rounds:=20) (depth:=6) g188 Zak (fun x=>by kernel_rfl)
def e204:Env:=env1 []
theorem g204:Zai e204:=Zal mix1 ent1 Zah
def s204:Spec:=Zap (Zac (Zar ZdB)) (Zas (Zae .i64)) ZfO
theorem ZCR:Zan Tryz.prog 204 s204 :=
 Zaj (V:=e204) (L:=nL) (rounds:=20) (depth:=6) g204 Zak (fun x=>by kernel_rfl)
end Go.Proofs.Mill
