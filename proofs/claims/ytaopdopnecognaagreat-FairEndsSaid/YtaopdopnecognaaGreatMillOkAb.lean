/- The functions compute this. -/
import Derived.Test.YtaopdopnecognaaGreatMillSeat3
import Derived.Test.YtaopdopnecognaaGreatMillFAb
set_option linter.all false
set_option maxRecDepth 100000
noncomputable section
namespace Go.Proofs.Mill
def e37:Env:=env1 []
theorem g37:Zai e37:=Zam mix1 ent1 Zah
def ZzW:LSpec:=ZeE [2,5,6] (Zaa (ZaS 63 .sentry) (Zaa (Zaf .i64) (Zac (Zaf .i64)))) (⟨.exit 0,[2],(Zac (ZaS 63 .sentry))⟩:Way) (ZaI Zgq)
theorem ZAz:LoopOK e37 16 ZzW (Zbg e37.P 37 2) :=
 ZcT (L:=ZaV []) (rounds:=20) (depth:=6) (ts:=[2,5,6]) (v:=(Zaa (ZaS 63 .sentry) (Zaa (Zaf .i64) (Zac (Zaf .i64))))) (a:=⟨.exit 0,[2],(Zac (ZaS 63 .sentry))⟩) (step:=Zgq) g37 rfl Za9 (fun x=>by kernel_rfl)
def s37:Spec:=Zap (Zac (Zar celConfig)) (Zau (Zao .sentry)) Ze4
theorem ok37:Zan Tryz.prog 37 s37 :=
 Zaj (V:=e37) (L:=(ZaV [(2,ZzW)])) (rounds:=20) (depth:=6) g37 (ZbN (nt:=16) (by kernel_rfl) (Zct (by kernel_rfl)) (ZaO ZAz Za6)) (fun x=>by kernel_rfl)
def e17:Env:=env1 [(37,s37)]
theorem g17:Zai e17:=Zam mix1 ent1 (Zab ok37 rfl Zah)
def ZwX:LSpec:=Zgw [1,4,5,14,15,16] (Zaa (Zaf .i64) (Zaa (ZaS 63 .sentry) (Zaa (Zao .sentry) (Zaa (Zao .sentry) (Zaa (Zaf .i64) (Zac (Zaf .i64))))))) (⟨.exit 0,[4],(Zac (ZaS 63 .sentry))⟩:Way) (⟨.exit 2,[1,4,5],(Zaa (Zaf .i64) (Zaa (ZaS 63 .sentry) (Zac (Zao .sentry))))⟩:Way) (ZaI ZdQ)
theorem Zvg:LoopOK e17 29 ZwX (Zbg e17.P 17 5) :=
 Zeh (L:=ZaV []) (rounds:=20) (depth:=6) (ts:=[1,4,5,14,15,16]) (v:=(Zaa (Zaf .i64) (Zaa (ZaS 63 .sentry) (Zaa (Zao .sentry) (Zaa (Zao .sentry) (Zaa (Zaf .i64) (Zac (Zaf .i64)))))))) (a:=⟨.exit 0,[4],(Zac (ZaS 63 .sentry))⟩) (b:=⟨.exit 2,[1,4,5],(Zaa (Zaf .i64) (Zaa (ZaS 63 .sentry) (Zac (Zao .sentry))))⟩) (step:=ZdQ) g17 rfl rfl Za9 (fun x=>by kernel_rfl)
def ZAp:LSpec:=ZeE [1,4,5] (Zaa (Zaf .i64) (Zaa (ZaS 63 .sentry) (Zac (Zao .sentry)))) (⟨.exit 0,[4],(Zac (ZaS 63 .sentry))⟩:Way) (ZaI ZdP)
theorem ZAG:LoopOK e17 29 ZAp (Zbg e17.P 17 2) :=
 ZcT (L:=ZaV [(5,ZwX)]) (rounds:=20) (depth:=6) (ts:=[1,4,5]) (v:=(Zaa (Zaf .i64) (Zaa (ZaS 63 .sentry) (Zac (Zao .sentry))))) (a:=⟨.exit 0,[4],(Zac (ZaS 63 .sentry))⟩) (step:=ZdP) g17 rfl (Zug (by kernel_rfl) (ZaO Zvg Za6)) (fun x=>by kernel_rfl)
def s17:Spec:=Zap (Zaa (Zar celConfig) (Zac (Zaf .i64))) (Zau (Zao .sentry)) Zdc
theorem ok17:Zan Tryz.prog 17 s17 :=
 Zaj (V:=e17) (L:=(ZaV [(5,ZwX),(2,ZAp)])) (rounds:=20) (depth:=6) g17 (ZbN (nt:=29) (by kernel_rfl) (Zct (by kernel_rfl)) (ZaO Zvg (ZaO ZAG Za6))) (fun x=>by kernel_rfl)
def e53:Env:=env1 []
theorem g53:Zai e53:=Zam mix1 ent1 Zah
def s53:Spec:=Zap (Zac (Zar celConfig)) (Zau (Zaf .i64)) ZiP
theorem ok53:Zan Tryz.prog 53 s53 :=
 Zaj (V:=e53) (L:=nL) (rounds:=20) (depth:=6) g53 Zak (fun x=>by kernel_rfl)
def e18:Env:=env1 [(53,s53)]
theorem g18:Zai e18:=Zam mix1 ent1 (Zab ok53 rfl Zah)
def s18:Spec:=Zap (Zac (Zar celConfig)) (Zau (Zaf .i64)) ZdU
theorem ok18:Zan Tryz.prog 18 s18 :=
 Zaj (V:=e18) (L:=nL) (rounds:=20) (depth:=6) g18 Zak (fun x=>by kernel_rfl)
def e24:Env:=env1 []
theorem g24:Zai e24:=Zam mix1 ent1 Zah
def s24:Spec:=Zap (Zac (Zar Zi9)) (Zau (ZaZ)) Zb4
theorem ok24:Zan Tryz.prog 24 s24 :=
 Zaj (V:=e24) (L:=nL) (rounds:=20) (depth:=6) g24 Zak (fun x=>by kernel_rfl)
def e83:Env:=env1 []
theorem g83:Zai e83:=Zam mix1 ent1 Zah
def s83:Spec:=Zap (Zaa (Zaf .i64) (Zac (Zaf .i64))) (Zau (ZaZ)) ZdL
theorem ok83:Zan Tryz.prog 83 s83 :=
 Zaj (V:=e83) (L:=nL) (rounds:=20) (depth:=6) g83 Zak (fun x=>by kernel_rfl)
def e107:Env:=env1 []
theorem g107:Zai e107:=Zam mix1 ent1 Zah
def s107:Spec:=Zap (Zac (Zaf .i64)) (Zau (ZaZ)) ZkQ
theorem ZCs:Zan Tryz.prog 107 s107 :=
 Zaj (V:=e107) (L:=nL) (rounds:=20) (depth:=6) g107 Zak (fun x=>by kernel_rfl)
def e84:Env:=env1 [(107,s107)]
theorem g84:Zai e84:=Zam mix1 ent1 (Zab ZCs rfl Zah)
def s84:Spec:=Zap (Zaa (Zar Zha) (Zac (ZaZ))) (Zau (ZaZ)) Zj0
theorem ok84:Zan Tryz.prog 84 s84 :=
 Zaj (V:=e84) (L:=nL) (rounds:=20) (depth:=6) g84 Zak (fun x=>by kernel_rfl)
def e61:Env:=env1 [(83,s83),(84,s84)]
theorem g61:Zai e61:=Zam mix1 ent1 (Zab ok83 rfl (Zab ok84 rfl Zah))
def s61:Spec:=Zap (Zaa (Zar celConfig) (Zac (Zar ZrK))) (Zau (Zaf .i64)) ZiF
theorem ok61:Zan Tryz.prog 61 s61 :=
 Zaj (V:=e61) (L:=nL) (rounds:=20) (depth:=6) g61 Zak (fun x=>by kernel_rfl)
def s85:Spec:=Zap (Zac (Zao .thread)) (Zau (ZaS 57 .thread)) ZiK
def s86:Spec:=Zap (Zac (Zao .mark)) (Zau (ZaS 65 .mark)) ZjD
def s87:Spec:=Zap (Zac (Zao .event)) (Zau (ZaS 50 .event)) Zjp
def e112:Env:=env1 []
theorem g112:Zai e112:=Zam mix1 ent1 Zah
def s112:Spec:=Zap (Zaa (Zaf .i64) (Zac (Zaf .i64))) (Zau (Zaf .i64)) Zkg
theorem ZCl:Zan Tryz.prog 112 s112 :=
 Zaj (V:=e112) (L:=nL) (rounds:=20) (depth:=6) g112 Zak (fun x=>by kernel_rfl)
def e100:Env:=env1 [(112,s112)]
theorem g100:Zai e100:=Zam mix1 ent1 (Zab ZCl rfl Zah)
def s100:Spec:=Zap (Zaa (Zar celConfig) (Zaa (Zaf .i64) (Zaa (Zar Zi9) (Zaa (Zaf .i64) (Zaa (Zar Zha) (Zac (Zaf .i64))))))) (Zau (Zar Zi9)) Ziy
theorem ZCw:Zan Tryz.prog 100 s100 :=
 Zaj (V:=e100) (L:=nL) (rounds:=20) (depth:=6) g100 Zak (fun x=>by kernel_rfl)
def e26:Env:=env1 [(24,s24),(61,s61),(85,s85),(86,s86),(87,s87),(100,s100)]
def e49:Env:=env1 []
theorem g49:Zai e49:=Zam mix1 ent1 Zah
def s49:Spec:=Zap (Zac (Zar celConfig)) (Zau (Zaf .i64)) Zft
theorem ok49:Zan Tryz.prog 49 s49 :=
 Zaj (V:=e49) (L:=nL) (rounds:=20) (depth:=6) g49 Zak (fun x=>by kernel_rfl)
def e44:Env:=env1 []
theorem g44:Zai e44:=Zam mix1 ent1 Zah
def s44:Spec:=Zap (Zaa (Zar Zha) (Zac (ZaZ))) (Zau (ZaZ)) ZiQ
theorem ok44:Zan Tryz.prog 44 s44 :=
 Zaj (V:=e44) (L:=nL) (rounds:=20) (depth:=6) g44 Zak (fun x=>by kernel_rfl)
def e65:Env:=env1 [(44,s44)]
theorem g65:Zai e65:=Zam mix1 ent1 (Zab ok44 rfl Zah)
def s65:Spec:=Zap (Zaa (Zar celConfig) (Zac (Zar ZrK))) (Zau (Zaf .i64)) Zjq
theorem ok65:Zan Tryz.prog 65 s65 :=
 Zaj (V:=e65) (L:=nL) (rounds:=20) (depth:=6) g65 Zak (fun x=>by kernel_rfl)
def e30:Env:=env1 [(49,s49),(65,s65)]
theorem g30:Zai e30:=Zam mix1 ent1 (Zab ok49 rfl (Zab ok65 rfl Zah))
def ZAc:LSpec:=Zgw [1,2,7] (Zaa (Zao .sentry) (Zaa (ZaD celConfig) (Zac (Zaf .i64)))) (⟨.exit 0,[],ZdK⟩:Way) (⟨.ret,[4,5],(Zaa (Zaf .i64) (Zac (Zaf .i64)))⟩:Way) (ZaI Zg6)
theorem ZA0:LoopOK e30 33 ZAc (Zbg e30.P 30 7) :=
 Zeh (L:=ZaV []) (rounds:=20) (depth:=6) (ts:=[1,2,7]) (v:=(Zaa (Zao .sentry) (Zaa (ZaD celConfig) (Zac (Zaf .i64))))) (a:=⟨.exit 0,[],ZdK⟩) (b:=⟨.ret,[4,5],(Zaa (Zaf .i64) (Zac (Zaf .i64)))⟩) (step:=Zg6) g30 rfl rfl Za9 (fun x=>by kernel_rfl)
def s30:Spec:=Zap (Zaa (Zar celConfig) (Zac (Zao .sentry))) (Zb9 (Zaa (Zaf .i64) (Zac (Zaf .i64)))) Zlt
theorem ok30:Zan Tryz.prog 30 s30 :=
 Zaj (V:=e30) (L:=(ZaV [(7,ZAc)])) (rounds:=20) (depth:=6) g30 (ZbN (nt:=33) (by kernel_rfl) (Zct (by kernel_rfl)) (ZaO ZA0 Za6)) (fun x=>by kernel_rfl)
def e32:Env:=env1 [(49,s49)]
theorem g32:Zai e32:=Zam mix1 ent1 (Zab ok49 rfl Zah)
def s32:Spec:=Zap (Zac (Zar celConfig)) (Zau (ZaZ)) ZeN
theorem ok32:Zan Tryz.prog 32 s32 :=
 Zaj (V:=e32) (L:=nL) (rounds:=20) (depth:=6) g32 Zak (fun x=>by kernel_rfl)
def e73:Env:=env1 []
theorem g73:Zai e73:=Zam mix1 ent1 Zah
def s73:Spec:=Zap (Zac (Zar celConfig)) (Zau (Zaf .i64)) Zm4
theorem ok73:Zan Tryz.prog 73 s73 :=
 Zaj (V:=e73) (L:=nL) (rounds:=20) (depth:=6) g73 Zak (fun x=>by kernel_rfl)
def e34:Env:=env1 [(73,s73)]
theorem g34:Zai e34:=Zam mix1 ent1 (Zab ok73 rfl Zah)
def s34:Spec:=Zap (Zac (Zar celConfig)) (Zau (Zaf .i64)) ZiC
theorem ok34:Zan Tryz.prog 34 s34 :=
 Zaj (V:=e34) (L:=nL) (rounds:=20) (depth:=6) g34 Zak (fun x=>by kernel_rfl)
def e35:Env:=env1 []
theorem g35:Zai e35:=Zam mix1 ent1 Zah
def ZzN:LSpec:=Zgw [0,1,5] (Zaa (Zao .sentry) (Zaa (Zao .sentry) (Zac (Zaf .i64)))) (⟨.exit 0,[],ZdK⟩:Way) (⟨.ret,[4],(Zac (ZaZ))⟩:Way) (ZaI Zit)
theorem ZBh:LoopOK e35 26 ZzN (Zbg e35.P 35 4) :=
 Zeh (L:=ZaV []) (rounds:=20) (depth:=6) (ts:=[0,1,5]) (v:=(Zaa (Zao .sentry) (Zaa (Zao .sentry) (Zac (Zaf .i64))))) (a:=⟨.exit 0,[],ZdK⟩) (b:=⟨.ret,[4],(Zac (ZaZ))⟩) (step:=Zit) g35 rfl rfl Za9 (fun x=>by kernel_rfl)
def s35:Spec:=Zap (Zaa (Zao .sentry) (Zac (Zao .sentry))) (Zau (ZaZ)) ZkL
theorem ok35:Zan Tryz.prog 35 s35 :=
 Zaj (V:=e35) (L:=(ZaV [(4,ZzN)])) (rounds:=20) (depth:=6) g35 (ZbN (nt:=26) (by kernel_rfl) (Zct (by kernel_rfl)) (ZaO ZBh Za6)) (fun x=>by kernel_rfl)
def e36:Env:=env1 []
theorem g36:Zai e36:=Zam mix1 ent1 Zah
def ZAh:LSpec:=ZeE [0,3,4] (Zaa (Zao .sentry) (Zaa (ZaS 120 .sentry) (Zac (Zaf .i64)))) (⟨.exit 0,[3],(Zac (ZaS 120 .sentry))⟩:Way) (ZaI Zg4)
theorem ZAS:LoopOK e36 37 ZAh (Zbg e36.P 36 3) :=
 ZcT (L:=ZaV []) (rounds:=20) (depth:=6) (ts:=[0,3,4]) (v:=(Zaa (Zao .sentry) (Zaa (ZaS 120 .sentry) (Zac (Zaf .i64))))) (a:=⟨.exit 0,[3],(Zac (ZaS 120 .sentry))⟩) (step:=Zg4) g36 rfl Za9 (fun x=>by kernel_rfl)
def s36:Spec:=Zap (Zac (Zao .sentry)) (Zau (Zao .sentry)) ZeT
theorem ok36:Zan Tryz.prog 36 s36 :=
 Zaj (V:=e36) (L:=(ZaV [(3,ZAh)])) (rounds:=20) (depth:=6) g36 (ZbN (nt:=37) (by kernel_rfl) (Zct (by kernel_rfl)) (ZaO ZAS Za6)) (fun x=>by kernel_rfl)
def e39:Env:=env1 []
theorem g39:Zai e39:=Zam mix1 ent1 Zah
def Zwa:LSpec:=Zgw [1,2,5,6,7] (Zaa (Zaf .i64) (Zaa (ZaD celConfig) (Zaa (ZaS 120 .sentry) (Zaa (Zaf .i64) (Zac (Zaf .i64)))))) (⟨.exit 2,[1,2,5,6],(Zaa (Zaf .i64) (Zaa (ZaD celConfig) (Zaa (ZaS 120 .sentry) (Zac (Zaf .i64)))))⟩:Way) (⟨.ret,[4],(Zac (Zao .sentry))⟩:Way) (ZaI Zhr)
theorem Zvl:LoopOK e39 30 Zwa (Zbg e39.P 39 6) :=
 Zeh (L:=ZaV []) (rounds:=20) (depth:=6) (ts:=[1,2,5,6,7]) (v:=(Zaa (Zaf .i64) (Zaa (ZaD celConfig) (Zaa (ZaS 120 .sentry) (Zaa (Zaf .i64) (Zac (Zaf .i64))))))) (a:=⟨.exit 2,[1,2,5,6],(Zaa (Zaf .i64) (Zaa (ZaD celConfig) (Zaa (ZaS 120 .sentry) (Zac (Zaf .i64)))))⟩) (b:=⟨.ret,[4],(Zac (Zao .sentry))⟩) (step:=Zhr) g39 rfl rfl Za9 (fun x=>by kernel_rfl)
def ZAl:LSpec:=Zgw [1,2,5,6] (Zaa (Zaf .i64) (Zaa (ZaD celConfig) (Zaa (ZaS 120 .sentry) (Zac (Zaf .i64))))) (⟨.exit 0,[5],(Zac (ZaS 120 .sentry))⟩:Way) (⟨.ret,[4],(Zac (Zao .sentry))⟩:Way) (ZaI Zho)
theorem ZBk:LoopOK e39 30 ZAl (Zbg e39.P 39 3) :=
 Zeh (L:=ZaV [(6,Zwa)]) (rounds:=20) (depth:=6) (ts:=[1,2,5,6]) (v:=(Zaa (Zaf .i64) (Zaa (ZaD celConfig) (Zaa (ZaS 120 .sentry) (Zac (Zaf .i64)))))) (a:=⟨.exit 0,[5],(Zac (ZaS 120 .sentry))⟩) (b:=⟨.ret,[4],(Zac (Zao .sentry))⟩) (step:=Zho) g39 rfl rfl (Zug (by kernel_rfl) (ZaO Zvl Za6)) (fun x=>by kernel_rfl)
def s39:Spec:=Zap (Zaa (Zar celConfig) (Zac (Zaf .i64))) (Zau (Zao .sentry)) Zix
theorem ok39:Zan Tryz.prog 39 s39 :=
 Zaj (V:=e39) (L:=(ZaV [(6,Zwa),(3,ZAl)])) (rounds:=20) (depth:=6) g39 (ZbN (nt:=30) (by kernel_rfl) (Zct (by kernel_rfl)) (ZaO Zvl (ZaO ZBk Za6))) (fun x=>by kernel_rfl)
def e38:Env:=env1 [(39,s39)]
theorem g38:Zai e38:=Zam mix1 ent1 (Zab ok39 rfl Zah)
def s38:Spec:=Zap (Zac (Zar celConfig)) (Zau (Zao .sentry)) Zm9
theorem ok38:Zan Tryz.prog 38 s38 :=
 Zaj (V:=e38) (L:=nL) (rounds:=20) (depth:=6) g38 Zak (fun x=>by kernel_rfl)
def e74:Env:=env1 []
theorem g74:Zai e74:=Zam mix1 ent1 Zah
def ZAe:LSpec:=Zgw [0,6,7] (Zaa (Zao .sentry) (Zaa (Zaf .i64) (Zac (Zaf .i64)))) (⟨.exit 0,[0],(Zac (Zao .sentry))⟩:Way) (⟨.ret,[2],(Zac (Zao .sentry))⟩:Way) (ZaI ZhJ)
theorem ZAX:LoopOK e74 26 ZAe (Zbg e74.P 74 2) :=
 Zeh (L:=ZaV []) (rounds:=20) (depth:=6) (ts:=[0,6,7]) (v:=(Zaa (Zao .sentry) (Zaa (Zaf .i64) (Zac (Zaf .i64))))) (a:=⟨.exit 0,[0],(Zac (Zao .sentry))⟩) (b:=⟨.ret,[2],(Zac (Zao .sentry))⟩) (step:=ZhJ) g74 rfl rfl Za9 (fun x=>by kernel_rfl)
def s74:Spec:=Zap (Zac (Zao .sentry)) (Zau (Zao .sentry)) Znc
theorem ok74:Zan Tryz.prog 74 s74 :=
 Zaj (V:=e74) (L:=(ZaV [(2,ZAe)])) (rounds:=20) (depth:=6) g74 (ZbN (nt:=26) (by kernel_rfl) (Zct (by kernel_rfl)) (ZaO ZAX Za6)) (fun x=>by kernel_rfl)
def e40:Env:=env1 [(74,s74)]
theorem g40:Zai e40:=Zam mix1 ent1 (Zab ok74 rfl Zah)
def ZzP:LSpec:=ZeE [2,4,5,9,10,11] (Zaa (ZaD celConfig) (Zaa (Zaf .i64) (Zaa (Zaf .i64) (Zaa (Zao .sentry) (Zaa (Zaf .i64) (Zac (Zaf .i64))))))) (⟨.exit 0,[4],(Zac (Zaf .i64))⟩:Way) (ZaI ZiL)
theorem ZAE:LoopOK e40 34 ZzP (Zbg e40.P 40 3) :=
 ZcT (L:=ZaV []) (rounds:=20) (depth:=6) (ts:=[2,4,5,9,10,11]) (v:=(Zaa (ZaD celConfig) (Zaa (Zaf .i64) (Zaa (Zaf .i64) (Zaa (Zao .sentry) (Zaa (Zaf .i64) (Zac (Zaf .i64)))))))) (a:=⟨.exit 0,[4],(Zac (Zaf .i64))⟩) (step:=ZiL) g40 rfl Za9 (fun x=>by kernel_rfl)
def s40:Spec:=Zap (Zaa (Zar celConfig) (Zac (Zao .sentry))) (Zau (Zaf .i64)) Zc7
theorem ok40:Zan Tryz.prog 40 s40 :=
 Zaj (V:=e40) (L:=(ZaV [(3,ZzP)])) (rounds:=20) (depth:=6) g40 (ZbN (nt:=34) (by kernel_rfl) (Zct (by kernel_rfl)) (ZaO ZAE Za6)) (fun x=>by kernel_rfl)
def e41:Env:=env1 []
theorem g41:Zai e41:=Zam mix1 ent1 Zah
def ZzO:LSpec:=ZeE [1,2,7,8] (Zaa (Zao .sentry) (Zaa (ZaD celConfig) (Zaa (Zaf .i64) (Zac (Zaf .i64))))) (⟨.exit 2,[2,7],(Zaa (ZaD celConfig) (Zac (Zaf .i64)))⟩:Way) (ZaI ZhO)
theorem ZBa:LoopOK e41 52 ZzO (Zbg e41.P 41 9) :=
 ZcT (L:=ZaV []) (rounds:=20) (depth:=6) (ts:=[1,2,7,8]) (v:=(Zaa (Zao .sentry) (Zaa (ZaD celConfig) (Zaa (Zaf .i64) (Zac (Zaf .i64)))))) (a:=⟨.exit 2,[2,7],(Zaa (ZaD celConfig) (Zac (Zaf .i64)))⟩) (step:=ZhO) g41 rfl Za9 (fun x=>by kernel_rfl)
def ZzZ:LSpec:=ZeE [1,2,5,6] (Zaa (Zao .sentry) (Zaa (ZaD celConfig) (Zaa (Zaf .i64) (Zac (Zaf .i64))))) (⟨.exit 0,[1,2,5],(Zaa (Zao .sentry) (Zaa (ZaD celConfig) (Zac (Zaf .i64))))⟩:Way) (ZaI ZhR)
theorem ZA3:LoopOK e41 52 ZzZ (Zbg e41.P 41 3) :=
 ZcT (L:=ZaV []) (rounds:=20) (depth:=6) (ts:=[1,2,5,6]) (v:=(Zaa (Zao .sentry) (Zaa (ZaD celConfig) (Zaa (Zaf .i64) (Zac (Zaf .i64)))))) (a:=⟨.exit 0,[1,2,5],(Zaa (Zao .sentry) (Zaa (ZaD celConfig) (Zac (Zaf .i64))))⟩) (step:=ZhR) g41 rfl Za9 (fun x=>by kernel_rfl)
def s41:Spec:=Zap (Zaa (Zar celConfig) (Zac (Zao .sentry))) (Zau (Zaf .i64)) ZjM
theorem ok41:Zan Tryz.prog 41 s41 :=
 Zaj (V:=e41) (L:=(ZaV [(9,ZzO),(3,ZzZ)])) (rounds:=20) (depth:=6) g41 (ZbN (nt:=52) (by kernel_rfl) (Zct (by kernel_rfl)) (ZaO ZBa (ZaO ZA3 Za6))) (fun x=>by kernel_rfl)
def e42:Env:=env1 [(18,s18),(40,s40)]
theorem g42:Zai e42:=Zam mix1 ent1 (Zab ok18 rfl (Zab ok40 rfl Zah))
def s42:Spec:=Zap (Zaa (Zar celConfig) (Zac (Zao .sentry))) (Zau (ZaZ)) ZeP
theorem ok42:Zan Tryz.prog 42 s42 :=
 Zaj (V:=e42) (L:=nL) (rounds:=20) (depth:=6) g42 Zak (fun x=>by kernel_rfl)
def e43:Env:=env1 [(34,s34),(41,s41)]
theorem g43:Zai e43:=Zam mix1 ent1 (Zab ok34 rfl (Zab ok41 rfl Zah))
def s43:Spec:=Zap (Zaa (Zar celConfig) (Zac (Zao .sentry))) (Zau (ZaZ)) ZnX
theorem ok43:Zan Tryz.prog 43 s43 :=
 Zaj (V:=e43) (L:=nL) (rounds:=20) (depth:=6) g43 Zak (fun x=>by kernel_rfl)
def e45:Env:=env1 [(24,s24)]
theorem g45:Zai e45:=Zam mix1 ent1 (Zab ok24 rfl Zah)
def Zz6:LSpec:=ZeE [2,6,7,8] (Zaa (Zaf .i64) (Zaa (Zao .thread) (Zaa (Zaf .i64) (Zac (Zaf .i64))))) (⟨.exit 0,[2],(Zac (Zaf .i64))⟩:Way) (ZaI Zgm)
theorem ZAO:LoopOK e45 18 Zz6 (Zbg e45.P 45 2) :=
 ZcT (L:=ZaV []) (rounds:=20) (depth:=6) (ts:=[2,6,7,8]) (v:=(Zaa (Zaf .i64) (Zaa (Zao .thread) (Zaa (Zaf .i64) (Zac (Zaf .i64)))))) (a:=⟨.exit 0,[2],(Zac (Zaf .i64))⟩) (step:=Zgm) g45 rfl Za9 (fun x=>by kernel_rfl)
def s45:Spec:=Zap (Zac (Zar Ze3)) (Zau (Zaf .i64)) ZeV
theorem ok45:Zan Tryz.prog 45 s45 :=
 Zaj (V:=e45) (L:=(ZaV [(2,Zz6)])) (rounds:=20) (depth:=6) g45 (ZbN (nt:=18) (by kernel_rfl) (Zct (by kernel_rfl)) (ZaO ZAO Za6)) (fun x=>by kernel_rfl)
def s47:Spec:=Zap (Zaa (Zar celConfig) (Zac (Zaf .i64))) (Zau (Zaf .i64)) Ztd
def s48:Spec:=Zap (Zaa (Zar Zha) (Zaa (Zaf .i64) (Zaa (Zaf .i64) (Zac (Zaf .i64))))) (Zb9 (Zaa (Zaf .i64) (Zac (ZaZ)))) Zsq
def e56:Env:=env1 []
theorem g56:Zai e56:=Zam mix1 ent1 Zah
def Zz9:LSpec:=Zgw [1,29,30] (Zaa (ZaD celConfig) (Zaa (Zar (Zal (Zas .i64) (Zal (Zas .i64) (Zal (Zas .i64) (Zal (Zas .i64) (Zal (Zas .i64) (Zal (Zas .i64) (Zal (Zas .i64) (Zal (Zas .i64) (Zal (Zas .i64) (Zal (Zas .i64) (Zal (Zas .i64) (Zal (Zas .i64) (Zal (Zas .i64) (Zal (Zas .i64) (Zal (Zas .i64) (Zal (Zas .i64) (Zal (Zas .i64) (Zal (Zas .i64) (Zal (Zas .i64) (Zal (Zas .i64) (Zal (Zas .i64) (Zal (Zas .i64) (Zal (Zas .i64) (Zas .i64))))))))))))))))))))))))) (Zac (Zaf .i64)))) (⟨.exit 0,[1],(Zac (ZaD celConfig))⟩:Way) (⟨.ret,[2],(Zac (Zaf .i64))⟩:Way) (ZaI Zet)
theorem ZAH:LoopOK e56 65 Zz9 (Zbg e56.P 56 2) :=
 Zeh (L:=ZaV []) (rounds:=20) (depth:=6) (ts:=[1,29,30]) (v:=(Zaa (ZaD celConfig) (Zaa (Zar (Zal (Zas .i64) (Zal (Zas .i64) (Zal (Zas .i64) (Zal (Zas .i64) (Zal (Zas .i64) (Zal (Zas .i64) (Zal (Zas .i64) (Zal (Zas .i64) (Zal (Zas .i64) (Zal (Zas .i64) (Zal (Zas .i64) (Zal (Zas .i64) (Zal (Zas .i64) (Zal (Zas .i64) (Zal (Zas .i64) (Zal (Zas .i64) (Zal (Zas .i64) (Zal (Zas .i64) (Zal (Zas .i64) (Zal (Zas .i64) (Zal (Zas .i64) (Zal (Zas .i64) (Zal (Zas .i64) (Zas .i64))))))))))))))))))))))))) (Zac (Zaf .i64))))) (a:=⟨.exit 0,[1],(Zac (ZaD celConfig))⟩) (b:=⟨.ret,[2],(Zac (Zaf .i64))⟩) (step:=Zet) g56 rfl rfl Za9 (fun x=>by kernel_rfl)
def s56:Spec:=Zap (Zac (Zar celConfig)) (Zau (Zaf .i64)) Zdi
theorem ok56:Zan Tryz.prog 56 s56 :=
 Zaj (V:=e56) (L:=(ZaV [(2,Zz9)])) (rounds:=20) (depth:=6) g56 (ZbN (nt:=65) (by kernel_rfl) (Zct (by kernel_rfl)) (ZaO ZAH Za6)) (fun x=>by kernel_rfl)
def e51:Env:=env1 [(56,s56),(61,s61)]
theorem g51:Zai e51:=Zam mix1 ent1 (Zab ok56 rfl (Zab ok61 rfl Zah))
def ZAm:LSpec:=Zgw [2,18,19,20] (Zaa (ZaD celConfig) (Zaa (Zao .sentry) (Zaa (Zaf .i64) (Zac (Zaf .i64))))) (⟨.exit 0,[],ZdK⟩:Way) (⟨.ret,[4,5],(Zaa (Zaf .i64) (Zac (Zaf .i64)))⟩:Way) (ZaI ZgB)
theorem ZAW:LoopOK e51 33 ZAm (Zbg e51.P 51 7) :=
 Zeh (L:=ZaV []) (rounds:=20) (depth:=6) (ts:=[2,18,19,20]) (v:=(Zaa (ZaD celConfig) (Zaa (Zao .sentry) (Zaa (Zaf .i64) (Zac (Zaf .i64)))))) (a:=⟨.exit 0,[],ZdK⟩) (b:=⟨.ret,[4,5],(Zaa (Zaf .i64) (Zac (Zaf .i64)))⟩) (step:=ZgB) g51 rfl rfl Za9 (fun x=>by kernel_rfl)
def s51:Spec:=Zap (Zaa (Zar celConfig) (Zac (Zao .sentry))) (Zb9 (Zaa (Zaf .i64) (Zac (Zaf .i64)))) ZhH
theorem ok51:Zan Tryz.prog 51 s51 :=
 Zaj (V:=e51) (L:=(ZaV [(7,ZAm)])) (rounds:=20) (depth:=6) g51 (ZbN (nt:=33) (by kernel_rfl) (Zct (by kernel_rfl)) (ZaO ZAW Za6)) (fun x=>by kernel_rfl)
def e110:Env:=env1 []
theorem g110:Zai e110:=Zam mix1 ent1 Zah
def s110:Spec:=Zap (Zac (Zar celConfig)) (Zau (Zaf .i64)) ZfD
theorem ZzS:Zan Tryz.prog 110 s110 :=
 Zaj (V:=e110) (L:=nL) (rounds:=20) (depth:=6) g110 Zak (fun x=>by kernel_rfl)
def e94:Env:=env1 [(110,s110)]
theorem g94:Zai e94:=Zam mix1 ent1 (Zab ZzS rfl Zah)
def s94:Spec:=Zap (Zac (Zar celConfig)) (Zau (Zar ZBl)) Zco
theorem ok94:Zan Tryz.prog 94 s94 :=
 Zaj (V:=e94) (L:=nL) (rounds:=20) (depth:=6) g94 Zak (fun x=>by kernel_rfl)
def e71:Env:=env1 [(94,s94)]
theorem g71:Zai e71:=Zam mix1 ent1 (Zab ok94 rfl Zah)
def s71:Spec:=Zap (Zaa (Zar celConfig) (Zac (Zaf .i64))) (Zau (Zaf .i64)) ZcL
theorem ok71:Zan Tryz.prog 71 s71 :=
 Zaj (V:=e71) (L:=nL) (rounds:=20) (depth:=6) g71 Zak (fun x=>by kernel_rfl)
def e103:Env:=env1 []
theorem g103:Zai e103:=Zam mix1 ent1 Zah
def s103:Spec:=Zap (Zac (Zaf .i64)) (Zau (ZaS 3 .int)) ZhE
theorem ZCK:Zan Tryz.prog 103 s103 :=
 Zaj (V:=e103) (L:=nL) (rounds:=20) (depth:=6) g103 Zak (fun x=>by kernel_rfl)
def e104:Env:=env1 []
theorem g104:Zai e104:=Zam mix1 ent1 Zah
def s104:Spec:=Zap (Zac (Zaf .i64)) (Zau (ZaS 54 (.lst .entry))) Zeu
theorem ZCX:Zan Tryz.prog 104 s104 :=
 Zaj (V:=e104) (L:=nL) (rounds:=20) (depth:=6) g104 Zak (fun x=>by kernel_rfl)
def e80:Env:=env1 [(103,s103),(104,s104)]
theorem g80:Zai e80:=Zam mix1 ent1 (Zab ZCK rfl (Zab ZCX rfl Zah))
def s80:Spec:=Zap (Zaa (Zaf .i64) (Zac (Zaf .i64))) (Zau (Zar (ZcA (Zal (ZbB 3 .int) (ZbB 54 (.lst .entry))) Memo (fun y=>⟨y.1,y.2⟩) (fun x=>(x.words,x.boxes)) (fun _=>rfl)))) ZmG
theorem ok80:Zan Tryz.prog 80 s80 :=
 Zaj (V:=e80) (L:=nL) (rounds:=20) (depth:=6) g80 Zak (fun x=>by kernel_rfl)
def e81:Env:=env1 [(94,s94)]
theorem g81:Zai e81:=Zam mix1 ent1 (Zab ok94 rfl Zah)
def s81:Spec:=Zap (Zac (Zar celConfig)) (Zau (Zaf .i64)) ZkM
theorem ok81:Zan Tryz.prog 81 s81 :=
 Zaj (V:=e81) (L:=nL) (rounds:=20) (depth:=6) g81 Zak (fun x=>by kernel_rfl)
def e57:Env:=env1 [(71,s71),(80,s80),(81,s81)]
theorem g57:Zai e57:=Zam mix1 ent1 (Zab ok71 rfl (Zab ok80 rfl (Zab ok81 rfl Zah)))
def Zz0:LSpec:=ZeE [1,2,3,11,12] (Zaa (ZaD celConfig) (Zaa (ZaD Zce) (Zaa (ZaD (ZcA (Zal (ZbB 3 .int) (ZbB 54 (.lst .entry))) Memo (fun y=>⟨y.1,y.2⟩) (fun x=>(x.words,x.boxes)) (fun _=>rfl))) (Zaa (Zaf .i64) (Zac (Zaf .i64)))))) (⟨.exit 0,[2,3],(Zaa (ZaD Zce) (Zac (ZaD (ZcA (Zal (ZbB 3 .int) (ZbB 54 (.lst .entry))) Memo (fun y=>⟨y.1,y.2⟩) (fun x=>(x.words,x.boxes)) (fun _=>rfl)))))⟩:Way) (ZaI ZfX)
theorem ZAU:LoopOK e57 25 Zz0 (Zbg e57.P 57 3) :=
 ZcT (L:=ZaV []) (rounds:=20) (depth:=6) (ts:=[1,2,3,11,12]) (v:=(Zaa (ZaD celConfig) (Zaa (ZaD Zce) (Zaa (ZaD (ZcA (Zal (ZbB 3 .int) (ZbB 54 (.lst .entry))) Memo (fun y=>⟨y.1,y.2⟩) (fun x=>(x.words,x.boxes)) (fun _=>rfl))) (Zaa (Zaf .i64) (Zac (Zaf .i64))))))) (a:=⟨.exit 0,[2,3],(Zaa (ZaD Zce) (Zac (ZaD (ZcA (Zal (ZbB 3 .int) (ZbB 54 (.lst .entry))) Memo (fun y=>⟨y.1,y.2⟩) (fun x=>(x.words,x.boxes)) (fun _=>rfl)))))⟩) (step:=ZfX) g57 rfl Za9 (fun x=>by kernel_rfl)
def s57:Spec:=Zap (Zac (Zar celConfig)) (Zau (Zar (ZcA (Zal (ZbB 3 .int) (ZbB 54 (.lst .entry))) Memo (fun y=>⟨y.1,y.2⟩) (fun x=>(x.words,x.boxes)) (fun _=>rfl)))) ZjJ
theorem ok57:Zan Tryz.prog 57 s57 :=
 Zaj (V:=e57) (L:=(ZaV [(3,Zz0)])) (rounds:=20) (depth:=6) g57 (ZbN (nt:=25) (by kernel_rfl) (Zct (by kernel_rfl)) (ZaO ZAU Za6)) (fun x=>by kernel_rfl)
def e59:Env:=env1 []
theorem g59:Zai e59:=Zam mix1 ent1 Zah
def s59:Spec:=Zap ZdK (Zau (Zar Zi9)) Zky
theorem ok59:Zan Tryz.prog 59 s59 :=
 Zaj (V:=e59) (L:=nL) (rounds:=20) (depth:=6) g59 Zak (fun x=>by kernel_rfl)
def e60:Env:=env1 []
theorem g60:Zai e60:=Zam mix1 ent1 Zah
def s60:Spec:=Zap (Zac (Zao .int)) (Zau (ZaS 3 .int)) Zbx
theorem ok60:Zan Tryz.prog 60 s60 :=
 Zpb (V:=e60) (L:=nL) (rounds:=20) (depth:=6) (r:=(Zau (ZaS 3 .int))) g60 Zak (by kernel_rfl) (fun x=>by kernel_rfl)
def e91:Env:=env1 []
theorem g91:Zai e91:=Zam mix1 ent1 Zah
def s91:Spec:=Zap (Zaa (Zao .int) (Zac (Zaf .i64))) (Zb9 (Zaa (Zaf .i64) (Zac (Zaf .i64)))) ZbC
theorem ok91:Zan Tryz.prog 91 s91 :=
 Zaj (V:=e91) (L:=nL) (rounds:=20) (depth:=6) g91 Zak (fun x=>by kernel_rfl)
def e70:Env:=env1 [(91,s91)]
theorem g70:Zai e70:=Zam mix1 ent1 (Zab ok91 rfl Zah)
def s70:Spec:=Zap (Zaa (Zar Zce) (Zac (Zaf .i64))) (Zb9 (Zaa (Zaf .i64) (Zac (Zaf .i64)))) ZbU
theorem ok70:Zan Tryz.prog 70 s70 :=
 Zaj (V:=e70) (L:=nL) (rounds:=20) (depth:=6) g70 Zak (fun x=>by kernel_rfl)
def e106:Env:=env1 []
theorem g106:Zai e106:=Zam mix1 ent1 Zah
def s106:Spec:=Zap (Zaa (Zaf .u64) (Zac (Zaf .u64))) (Zb9 (Zaa (Zaf .u64) (Zac (Zaf .u64)))) ZjR
theorem ZCy:Zan Tryz.prog 106 s106 :=
 Zaj (V:=e106) (L:=nL) (rounds:=20) (depth:=6) g106 Zak (fun x=>by kernel_rfl)
def e82:Env:=env1 [(106,s106)]
theorem g82:Zai e82:=Zam mix1 ent1 (Zab ZCy rfl Zah)
def s82:Spec:=Zap (Zaa (Zaf .u64) (Zac (Zaf .u64))) (Zb9 (Zaa (Zaf .u64) (Zac (Zaf .u64)))) ZdH
theorem ok82:Zan Tryz.prog 82 s82 :=
 Zaj (V:=e82) (L:=nL) (rounds:=20) (depth:=6) g82 Zak (fun x=>by kernel_rfl)
def e109:Env:=env1 []
theorem g109:Zai e109:=Zam mix1 ent1 Zah
def s109:Spec:=Zap (Zaa (Zaf .i64) (Zaa (Zaf .i64) (Zaa (Zaf .i64) (Zac (Zaf .i64))))) (Zau (ZaZ)) Zjv
theorem ZCP:Zan Tryz.prog 109 s109 :=
 Zaj (V:=e109) (L:=nL) (rounds:=20) (depth:=6) g109 Zak (fun x=>by kernel_rfl)
def e90:Env:=env1 [(109,s109)]
theorem g90:Zai e90:=Zam mix1 ent1 (Zab ZCP rfl Zah)
def s90:Spec:=Zap (Zaa (Zar Zha) (Zaa (Zaf .i64) (Zaa (Zaf .i64) (Zac (Zaf .i64))))) (Zb9 (Zaa (Zaf .i64) (Zac (ZaZ)))) Zcg
theorem ok90:Zan Tryz.prog 90 s90 :=
 Zaj (V:=e90) (L:=nL) (rounds:=20) (depth:=6) g90 Zak (fun x=>by kernel_rfl)
def e120:Env:=env1 [(60,s60),(91,s91)]
theorem g120:Zai e120:=Zam mix1 ent1 (Zab ok60 rfl (Zab ok91 rfl Zah))
def s120:Spec:=Zap (Zaa (Zar Zce) (Zaa (Zaf .i64) (Zac (Zaf .i64)))) (Zb9 (Zaa (Zar Zce) (Zac (Zaf .i64)))) Zca
theorem Zqr:Zan Tryz.prog 120 s120 :=
 Zaj (V:=e120) (L:=nL) (rounds:=20) (depth:=6) g120 Zak (fun x=>by kernel_rfl)
def e121:Env:=env1 [(94,s94)]
theorem g121:Zai e121:=Zam mix1 ent1 (Zab ok94 rfl Zah)
def s121:Spec:=Zap (Zaa (Zar celConfig) (Zac (Zaf .i64))) (Zau (Zaf .i64)) Zc2
theorem Zv9:Zan Tryz.prog 121 s121 :=
 Zaj (V:=e121) (L:=nL) (rounds:=20) (depth:=6) g121 Zak (fun x=>by kernel_rfl)
def e122:Env:=env1 []
theorem g122:Zai e122:=Zam mix1 ent1 Zah
def s122:Spec:=Zap (Zac (Zar ZaF)) (Zau (Zar ZaF)) ZhI
theorem ZCb:Zan Tryz.prog 122 s122 :=
 Zaj (V:=e122) (L:=nL) (rounds:=20) (depth:=6) g122 Zak (fun x=>by kernel_rfl)
def e114:Env:=env1 [(120,s120),(121,s121),(122,s122)]
theorem g114:Zai e114:=Zam mix1 ent1 (Zab Zqr rfl (Zab Zv9 rfl (Zab ZCb rfl Zah)))
def s114:Spec:=Zap (Zac (Zar ZaF)) (Zb9 (Zaa (Zar ZaF) (Zac (ZaZ)))) ZhU
theorem ZCY:Zan Tryz.prog 114 s114 :=
 Zaj (V:=e114) (L:=nL) (rounds:=20) (depth:=6) g114 Zak (fun x=>by kernel_rfl)
def e131:Env:=env1 [(94,s94),(110,s110)]
theorem g131:Zai e131:=Zam mix1 ent1 (Zab ok94 rfl (Zab ZzS rfl Zah))
def s131:Spec:=Zap (Zaa (Zar celConfig) (Zaa (Zaf .i64) (Zac (Zaf .i64)))) (Zau (Zaf .i64)) Zep
theorem ZwB:Zan Tryz.prog 131 s131 :=
 Zaj (V:=e131) (L:=nL) (rounds:=20) (depth:=6) g131 Zak (fun x=>by kernel_rfl)
def e156:Env:=env1 []
theorem g156:Zai e156:=Zam mix1 ent1 Zah
def s156:Spec:=Zap (Zac (Zar Zvo)) (Zau (Zaf .i64)) ZbP
theorem Zqp:Zan Tryz.prog 156 s156 :=
 Zaj (V:=e156) (L:=nL) (rounds:=20) (depth:=6) g156 Zak (fun x=>by kernel_rfl)
def e132:Env:=env1 [(156,s156)]
theorem g132:Zai e132:=Zam mix1 ent1 (Zab Zqp rfl Zah)
def s132:Spec:=Zap (Zac (Zaf .i64)) (Zau (Zaf .i64)) Zfc
theorem ZwG:Zan Tryz.prog 132 s132 :=
 Zaj (V:=e132) (L:=nL) (rounds:=20) (depth:=6) g132 Zak (fun x=>by kernel_rfl)
def e157:Env:=env1 []
theorem g157:Zai e157:=Zam mix1 ent1 Zah
def s157:Spec:=Zap (Zac (Zaf .i64)) (Zau (Zaf .i64)) Zis
theorem ZCg:Zan Tryz.prog 157 s157 :=
 Zaj (V:=e157) (L:=nL) (rounds:=20) (depth:=6) g157 Zak (fun x=>by kernel_rfl)
def e174:Env:=env1 []
theorem g174:Zai e174:=Zam mix1 ent1 Zah
def s174:Spec:=Zap (Zac (Zar ZaF)) (Zau (Zar ZaF)) Zf1
theorem ZzL:Zan Tryz.prog 174 s174 :=
 Zaj (V:=e174) (L:=nL) (rounds:=20) (depth:=6) g174 Zak (fun x=>by kernel_rfl)
def e158:Env:=env1 [(174,s174)]
theorem g158:Zai e158:=Zam mix1 ent1 (Zab ZzL rfl Zah)
def s158:Spec:=Zap (Zac (Zar ZaF)) (Zau (Zar ZaF)) Zek
theorem Zv8:Zan Tryz.prog 158 s158 :=
 Zaj (V:=e158) (L:=nL) (rounds:=20) (depth:=6) g158 Zak (fun x=>by kernel_rfl)
def e133:Env:=env1 [(60,s60),(157,s157),(158,s158)]
theorem g133:Zai e133:=Zam mix1 ent1 (Zab ok60 rfl (Zab ZCg rfl (Zab Zv8 rfl Zah)))
def s133:Spec:=Zap (Zac (Zar ZaF)) (Zau (Zar ZaF)) ZjG
theorem ZBZ:Zan Tryz.prog 133 s133 :=
 Zaj (V:=e133) (L:=nL) (rounds:=20) (depth:=6) g133 Zak (fun x=>by kernel_rfl)
def e135:Env:=env1 [(60,s60),(91,s91)]
theorem g135:Zai e135:=Zam mix1 ent1 (Zab ok60 rfl (Zab ok91 rfl Zah))
def s135:Spec:=Zap (Zaa (Zar Zce) (Zaa (Zaf .i64) (Zaa (Zaf .i64) (Zac (Zaf .i64))))) (Zb9 (Zaa (Zar Zce) (Zaa (ZaZ) (Zac (Zaf .i64))))) ZcP
theorem ZsS:Zan Tryz.prog 135 s135 :=
 Zaj (V:=e135) (L:=nL) (rounds:=20) (depth:=6) g135 Zak (fun x=>by kernel_rfl)
def e153:Env:=env1 []
theorem g153:Zai e153:=Zam mix1 ent1 Zah
def s153:Spec:=Zap (Zac (Zar ZaF)) (Zau (ZaZ)) Zd1
theorem Zwf:Zan Tryz.prog 153 s153 :=
 Zaj (V:=e153) (L:=nL) (rounds:=20) (depth:=6) g153 Zak (fun x=>by kernel_rfl)
def e175:Env:=env1 []
theorem g175:Zai e175:=Zam mix1 ent1 Zah
def s175:Spec:=Zap (Zac (Zaf .i64)) (Zau (Zar Zvo)) Zjf
theorem ZzI:Zan Tryz.prog 175 s175 :=
 Zaj (V:=e175) (L:=nL) (rounds:=20) (depth:=6) g175 Zak (fun x=>by kernel_rfl)
def e160:Env:=env1 [(175,s175)]
theorem g160:Zai e160:=Zam mix1 ent1 (Zab ZzI rfl Zah)
def s160:Spec:=Zap (Zac (Zaf .i64)) (Zau (Zaf .i64)) ZgP
theorem ZAo:Zan Tryz.prog 160 s160 :=
 Zaj (V:=e160) (L:=nL) (rounds:=20) (depth:=6) g160 Zak (fun x=>by kernel_rfl)
def e136:Env:=env1 [(153,s153),(158,s158),(160,s160)]
theorem g136:Zai e136:=Zam mix1 ent1 (Zab Zwf rfl (Zab Zv8 rfl (Zab ZAo rfl Zah)))
def s136:Spec:=Zap (Zaa (Zar ZaF) (Zac (Zaf .i64))) (Zau (Zar ZaF)) Zks
theorem ZCp:Zan Tryz.prog 136 s136 :=
 Zaj (V:=e136) (L:=nL) (rounds:=20) (depth:=6) g136 Zak (fun x=>by kernel_rfl)
def e137:Env:=env1 [(156,s156)]
theorem g137:Zai e137:=Zam mix1 ent1 (Zab Zqp rfl Zah)
def s137:Spec:=Zap (Zac (Zaf .i64)) (Zau (Zaf .i64)) Zjn
theorem ZCN:Zan Tryz.prog 137 s137 :=
 Zaj (V:=e137) (L:=nL) (rounds:=20) (depth:=6) g137 Zak (fun x=>by kernel_rfl)
def e138:Env:=env1 [(158,s158)]
theorem g138:Zai e138:=Zam mix1 ent1 (Zab Zv8 rfl Zah)
def s138:Spec:=Zap (Zac (Zar ZaF)) (Zau (Zar ZaF)) Ziz
theorem ZCc:Zan Tryz.prog 138 s138 :=
 Zaj (V:=e138) (L:=nL) (rounds:=20) (depth:=6) g138 Zak (fun x=>by kernel_rfl)
def e117:Env:=env1 [(70,s70),(131,s131),(132,s132),(133,s133),(135,s135),(136,s136),(137,s137),(138,s138)]
theorem g117:Zai e117:=Zam mix1 ent1 (Zab ok70 rfl (Zab ZwB rfl (Zab ZwG rfl (Zab ZBZ rfl (Zab ZsS rfl (Zab ZCp rfl (Zab ZCN rfl (Zab ZCc rfl Zah))))))))
def s117:Spec:=Zap (Zac (Zar ZaF)) (Zb9 (Zaa (Zar ZaF) (Zac (ZaZ)))) ZkO
theorem ZBQ:Zan Tryz.prog 117 s117 :=
 Zaj (V:=e117) (L:=nL) (rounds:=20) (depth:=6) g117 Zak (fun x=>by kernel_rfl)
def e176:Env:=env1 [(131,s131)]
theorem g176:Zai e176:=Zam mix1 ent1 (Zab ZwB rfl Zah)
def s176:Spec:=Zap (Zac (Zar ZaF)) (Zau (Zaf .i64)) Zfx
theorem ZvS:Zan Tryz.prog 176 s176 :=
 Zaj (V:=e176) (L:=nL) (rounds:=20) (depth:=6) g176 Zak (fun x=>by kernel_rfl)
def e177:Env:=env1 [(175,s175)]
theorem g177:Zai e177:=Zam mix1 ent1 (Zab ZzI rfl Zah)
def s177:Spec:=Zap (Zac (Zaf .i64)) (Zau (Zaf .i64)) ZmR
theorem ZCm:Zan Tryz.prog 177 s177 :=
 Zaj (V:=e177) (L:=nL) (rounds:=20) (depth:=6) g177 Zak (fun x=>by kernel_rfl)
def e161:Env:=env1 [(70,s70),(132,s132),(160,s160),(176,s176),(177,s177)]
theorem g161:Zai e161:=Zam mix1 ent1 (Zab ok70 rfl (Zab ZwG rfl (Zab ZAo rfl (Zab ZvS rfl (Zab ZCm rfl Zah)))))
def s161:Spec:=Zap (Zac (Zar ZaF)) (Zau (Zar ZaF)) Zjx
theorem ZCo:Zan Tryz.prog 161 s161 :=
 Zaj (V:=e161) (L:=nL) (rounds:=20) (depth:=6) g161 Zak (fun x=>by kernel_rfl)
def e180:Env:=env1 [(174,s174)]
theorem g180:Zai e180:=Zam mix1 ent1 (Zab ZzL rfl Zah)
def s180:Spec:=Zap (Zac (Zar ZaF)) (Zau (Zar ZaF)) Zg9
theorem ZzU:Zan Tryz.prog 180 s180 :=
 Zaj (V:=e180) (L:=nL) (rounds:=20) (depth:=6) g180 Zak (fun x=>by kernel_rfl)
def e162:Env:=env1 [(132,s132),(135,s135),(176,s176),(180,s180)]
theorem g162:Zai e162:=Zam mix1 ent1 (Zab ZwG rfl (Zab ZsS rfl (Zab ZvS rfl (Zab ZzU rfl Zah))))
def s162:Spec:=Zap (Zac (Zar ZaF)) (Zau (Zar ZaF)) Zjr
theorem ZCd:Zan Tryz.prog 162 s162 :=
 Zaj (V:=e162) (L:=nL) (rounds:=20) (depth:=6) g162 Zak (fun x=>by kernel_rfl)
def e173:Env:=env1 []
theorem g173:Zai e173:=Zam mix1 ent1 Zah
def s173:Spec:=Zap (Zac (Zao .entry)) (Zau (ZaS 178 .entry)) Zbj
theorem ZvZ:Zan Tryz.prog 173 s173 :=
 Zpb (V:=e173) (L:=nL) (rounds:=20) (depth:=6) (r:=(Zau (ZaS 178 .entry))) g173 Zak (by kernel_rfl) (fun x=>by kernel_rfl)
def e191:Env:=env1 []
theorem g191:Zai e191:=Zam mix1 ent1 Zah
def s191:Spec:=Zap (Zaa (Zao (.lst .entry)) (Zac (Zaf .i64))) (Zb9 (Zaa (Zao .entry) (Zac (Zaf .i64)))) Zch
theorem ZAu:Zan Tryz.prog 191 s191 :=
 Zaj (V:=e191) (L:=nL) (rounds:=20) (depth:=6) g191 Zak (fun x=>by kernel_rfl)
def e181:Env:=env1 [(173,s173),(191,s191)]
theorem g181:Zai e181:=Zam mix1 ent1 (Zab ZvZ rfl (Zab ZAu rfl Zah))
def s181:Spec:=Zap (Zaa (Zar Zce) (Zac (Zaf .i64))) (Zb9 (Zaa (Zao .entry) (Zac (Zaf .i64)))) Zia
theorem ZzH:Zan Tryz.prog 181 s181 :=
 Zaj (V:=e181) (L:=nL) (rounds:=20) (depth:=6) g181 Zak (fun x=>by kernel_rfl)
def e200:Env:=ZAd []
theorem g200:Zai e200:=Zam mix1 ent1 Zah
def s200:Spec:=Zap (Zaa (Ztn) (Zac (Zaf .i64))) (Zau (ZaS 216 .kid)) Zel
theorem ZB3:Zan Tryz.prog 200 s200 :=
 Zaj (V:=e200) (L:=nL) (rounds:=20) (depth:=6) g200 Zak (fun x=>by kernel_rfl)
def e192:Env:=env1 [(200,s200)]
theorem g192:Zai e192:=Zam mix1 ent1 (Zab ZB3 rfl Zah)
def Zvv:LSpec:=ZeE [6,25,26,27] (Zaa (ZaS 216 .kid) (Zaa (Zao (.lst .kid)) (Zaa (Zaf .i64) (Zac (Zaf .i64))))) (⟨.exit 2,[6],(Zac (ZaS 216 .kid))⟩:Way) (ZaI ZbE)
theorem Zxw:LoopOK e192 36 Zvv (Zbg e192.P 192 11) :=
 ZcT (L:=ZaV []) (rounds:=20) (depth:=6) (ts:=[6,25,26,27]) (v:=(Zaa (ZaS 216 .kid) (Zaa (Zao (.lst .kid)) (Zaa (Zaf .i64) (Zac (Zaf .i64)))))) (a:=⟨.exit 2,[6],(Zac (ZaS 216 .kid))⟩) (step:=ZbE) g192 rfl Za9 (fun x=>by kernel_rfl)
def Zw5:LSpec:=ZeE [0,3,9,10,11] (Zaa (Zao (.lst .kid)) (Zaa (Zaf .i64) (Zaa (Zao (.lst .kid)) (Zaa (Zaf .i64) (Zac (Zaf .i64)))))) (⟨.exit 0,[0,3],(Zaa (Zao (.lst .kid)) (Zac (Zaf .i64)))⟩:Way) (ZaI ZbL)
theorem ZyH:LoopOK e192 36 Zw5 (Zbg e192.P 192 3) :=
 ZcT (L:=ZaV []) (rounds:=20) (depth:=6) (ts:=[0,3,9,10,11]) (v:=(Zaa (Zao (.lst .kid)) (Zaa (Zaf .i64) (Zaa (Zao (.lst .kid)) (Zaa (Zaf .i64) (Zac (Zaf .i64))))))) (a:=⟨.exit 0,[0,3],(Zaa (Zao (.lst .kid)) (Zac (Zaf .i64)))⟩) (step:=ZbL) g192 rfl Za9 (fun x=>by kernel_rfl)
def s192:Spec:=Zap (Zac (Zao (.lst .kid))) (Zau (ZaS 216 .kid)) Zd2
theorem ZCH:Zan Tryz.prog 192 s192 :=
 Zaj (V:=e192) (L:=(ZaV [(11,Zvv),(3,Zw5)])) (rounds:=20) (depth:=6) g192 (ZbN (nt:=36) (by kernel_rfl) (Zct (by kernel_rfl)) (ZaO Zxw (ZaO ZyH Za6))) (fun x=>by kernel_rfl)
def e203:Env:=ZAd []
theorem g203:Zai e203:=Zam mix1 ent1 Zah
def s203:Spec:=Zap (Zaa (Ztn) (Zac (Zaf .i64))) (Zau (ZaS 178 .entry)) Zd9
theorem ZBW:Zan Tryz.prog 203 s203 :=
 Zaj (V:=e203) (L:=nL) (rounds:=20) (depth:=6) g203 Zak (fun x=>by kernel_rfl)
def e201:Env:=env1 [(203,s203)]
theorem g201:Zai e201:=Zam mix1 ent1 (Zab ZBW rfl Zah)
def Zvr:LSpec:=ZeE [6,25,26,27] (Zaa (ZaS 178 .entry) (Zaa (Zao (.lst .entry)) (Zaa (Zaf .i64) (Zac (Zaf .i64))))) (⟨.exit 2,[6],(Zac (ZaS 178 .entry))⟩:Way) (ZaI ZbA)
theorem Zw3:LoopOK e201 36 Zvr (Zbg e201.P 201 11) :=
 ZcT (L:=ZaV []) (rounds:=20) (depth:=6) (ts:=[6,25,26,27]) (v:=(Zaa (ZaS 178 .entry) (Zaa (Zao (.lst .entry)) (Zaa (Zaf .i64) (Zac (Zaf .i64)))))) (a:=⟨.exit 2,[6],(Zac (ZaS 178 .entry))⟩) (step:=ZbA) g201 rfl Za9 (fun x=>by kernel_rfl)
def Zxn:LSpec:=ZeE [0,3,9,10,11] (Zaa (Zao (.lst .entry)) (Zaa (Zaf .i64) (Zaa (Zao (.lst .entry)) (Zaa (Zaf .i64) (Zac (Zaf .i64)))))) (⟨.exit 0,[0,3],(Zaa (Zao (.lst .entry)) (Zac (Zaf .i64)))⟩:Way) (ZaI ZbG)
theorem ZyF:LoopOK e201 36 Zxn (Zbg e201.P 201 3) :=
 ZcT (L:=ZaV []) (rounds:=20) (depth:=6) (ts:=[0,3,9,10,11]) (v:=(Zaa (Zao (.lst .entry)) (Zaa (Zaf .i64) (Zaa (Zao (.lst .entry)) (Zaa (Zaf .i64) (Zac (Zaf .i64))))))) (a:=⟨.exit 0,[0,3],(Zaa (Zao (.lst .entry)) (Zac (Zaf .i64)))⟩) (step:=ZbG) g201 rfl Za9 (fun x=>by kernel_rfl)
def s201:Spec:=Zap (Zac (Zao (.lst .entry))) (Zau (ZaS 178 .entry)) ZdB
theorem ZCE:Zan Tryz.prog 201 s201 :=
 Zaj (V:=e201) (L:=(ZaV [(11,Zvr),(3,Zxn)])) (rounds:=20) (depth:=6) g201 (ZbN (nt:=36) (by kernel_rfl) (Zct (by kernel_rfl)) (ZaO Zw3 (ZaO ZyF Za6))) (fun x=>by kernel_rfl)
def e193:Env:=env1 [(201,s201)]
theorem g193:Zai e193:=Zam mix1 ent1 (Zab ZCE rfl Zah)
def s193:Spec:=Zap (Zac (Zao (.lst .entry))) (Zau (Zao .entry)) Zkv
theorem ZCL:Zan Tryz.prog 193 s193 :=
 Zaj (V:=e193) (L:=nL) (rounds:=20) (depth:=6) g193 Zak (fun x=>by kernel_rfl)
def e183:Env:=env1 [(192,s192),(193,s193)]
theorem g183:Zai e183:=Zam mix1 ent1 (Zab ZCH rfl (Zab ZCL rfl Zah))
def s183:Spec:=Zap (Zaa (Zar ZaF) (Zaa (Zaf .i64) (Zac (Zao .entry)))) (Zau (Zar ZaF)) Zfv
theorem ZzV:Zan Tryz.prog 183 s183 :=
 Zaj (V:=e183) (L:=nL) (rounds:=20) (depth:=6) g183 Zak (fun x=>by kernel_rfl)
def e163:Env:=env1 [(181,s181),(183,s183)]
theorem g163:Zai e163:=Zam mix1 ent1 (Zab ZzH rfl (Zab ZzV rfl Zah))
def s163:Spec:=Zap (Zac (Zar ZaF)) (Zau (Zar ZaF)) Zhh
theorem ZCu:Zan Tryz.prog 163 s163 :=
 Zaj (V:=e163) (L:=nL) (rounds:=20) (depth:=6) g163 Zak (fun x=>by kernel_rfl)
def e164:Env:=env1 [(120,s120),(176,s176),(180,s180)]
theorem g164:Zai e164:=Zam mix1 ent1 (Zab Zqr rfl (Zab ZvS rfl (Zab ZzU rfl Zah)))
def s164:Spec:=Zap (Zac (Zar ZaF)) (Zau (Zar ZaF)) ZjK
theorem ZCV:Zan Tryz.prog 164 s164 :=
 Zaj (V:=e164) (L:=nL) (rounds:=20) (depth:=6) g164 Zak (fun x=>by kernel_rfl)
def e194:Env:=env1 []
theorem g194:Zai e194:=Zam mix1 ent1 Zah
def s194:Spec:=Zap (Zac (Zao (.lst .entry))) (Zau (ZaS 54 (.lst .entry))) ZdF
theorem ZBT:Zan Tryz.prog 194 s194 :=
 Zpb (V:=e194) (L:=nL) (rounds:=20) (depth:=6) (r:=(Zau (ZaS 54 (.lst .entry)))) g194 Zak (by kernel_rfl) (fun x=>by kernel_rfl)
def e184:Env:=env1 [(173,s173),(191,s191),(194,s194)]
theorem g184:Zai e184:=Zam mix1 ent1 (Zab ZvZ rfl (Zab ZAu rfl (Zab ZBT rfl Zah)))
def s184:Spec:=Zap (Zaa (Zar Zce) (Zaa (Zaf .i64) (Zac (Zao .entry)))) (Zb9 (Zaa (Zar Zce) (Zac (Zaf .i64)))) ZhW
theorem Zz2:Zan Tryz.prog 184 s184 :=
 Zaj (V:=e184) (L:=nL) (rounds:=20) (depth:=6) g184 Zak (fun x=>by kernel_rfl)
def e165:Env:=env1 [(184,s184)]
theorem g165:Zai e165:=Zam mix1 ent1 (Zab Zz2 rfl Zah)
def s165:Spec:=Zap (Zac (Zar ZaF)) (Zau (Zar ZaF)) Zhq
theorem ZB4:Zan Tryz.prog 165 s165 :=
 Zaj (V:=e165) (L:=nL) (rounds:=20) (depth:=6) g165 Zak (fun x=>by kernel_rfl)
def e185:Env:=env1 [(156,s156)]
theorem g185:Zai e185:=Zam mix1 ent1 (Zab Zqp rfl Zah)
def s185:Spec:=Zap (Zac (Zaf .i64)) (Zau (Zaf .i64)) Zhk
theorem ZBR:Zan Tryz.prog 185 s185 :=
 Zaj (V:=e185) (L:=nL) (rounds:=20) (depth:=6) g185 Zak (fun x=>by kernel_rfl)
def e166:Env:=env1 [(120,s120),(131,s131),(185,s185)]
theorem g166:Zai e166:=Zam mix1 ent1 (Zab Zqr rfl (Zab ZwB rfl (Zab ZBR rfl Zah)))
def s166:Spec:=Zap (Zac (Zar ZaF)) (Zau (Zar ZaF)) Zhc
theorem ZCM:Zan Tryz.prog 166 s166 :=
 Zaj (V:=e166) (L:=nL) (rounds:=20) (depth:=6) g166 Zak (fun x=>by kernel_rfl)
def e118:Env:=env1 [(161,s161),(162,s162),(163,s163),(164,s164),(165,s165),(166,s166)]
theorem g118:Zai e118:=Zam mix1 ent1 (Zab ZCo rfl (Zab ZCd rfl (Zab ZCu rfl (Zab ZCV rfl (Zab ZB4 rfl (Zab ZCM rfl Zah))))))
def s118:Spec:=Zap (Zac (Zar ZaF)) (Zb9 (Zaa (Zar ZaF) (Zac (ZaZ)))) ZjP
theorem ZBU:Zan Tryz.prog 118 s118 :=
 Zaj (V:=e118) (L:=nL) (rounds:=20) (depth:=6) g118 Zak (fun x=>by kernel_rfl)
def e129:Env:=env1 [(153,s153)]
theorem g129:Zai e129:=Zam mix1 ent1 (Zab Zwf rfl Zah)
def s129:Spec:=Zap (Zac (Zar ZaF)) (Zau (Zar ZaF)) Zcn
theorem ZzM:Zan Tryz.prog 129 s129 :=
 Zaj (V:=e129) (L:=nL) (rounds:=20) (depth:=6) g129 Zak (fun x=>by kernel_rfl)
def e140:Env:=env1 [(156,s156)]
theorem g140:Zai e140:=Zam mix1 ent1 (Zab Zqp rfl Zah)
def s140:Spec:=Zap (Zaa (Zaf .i64) (Zac (Zaf .i64))) (Zau (Zaf .i64)) ZiR
theorem ZCF:Zan Tryz.prog 140 s140 :=
 Zaj (V:=e140) (L:=nL) (rounds:=20) (depth:=6) g140 Zak (fun x=>by kernel_rfl)
def e142:Env:=env1 [(121,s121)]
theorem g142:Zai e142:=Zam mix1 ent1 (Zab Zv9 rfl Zah)
def s142:Spec:=Zhv (Zaa (ZpU (Zal ZaF (Zas .i64))) (Zac (Zaf .i64))) (Zau (Zaf .i64)) Zb1
theorem ZB7:Zan Tryz.prog 142 s142 :=
 Zgp (V:=e142) (L:=nL) (rounds:=20) (depth:=6) g142 Zak (fun x=>by kernel_rfl)
def e146:Env:=env1 [(156,s156)]
theorem g146:Zai e146:=Zam mix1 ent1 (Zab Zqp rfl Zah)
def s146:Spec:=Zap ZdK (Zau (Zaf .i64)) ZgM
theorem ZCG:Zan Tryz.prog 146 s146 :=
 Zaj (V:=e146) (L:=nL) (rounds:=20) (depth:=6) g146 Zak (fun x=>by kernel_rfl)
def e147:Env:=env1 [(94,s94)]
theorem g147:Zai e147:=Zam mix1 ent1 (Zab ok94 rfl Zah)
def s147:Spec:=Zap (Zaa (Zar celConfig) (Zac (Zaf .i64))) (Zau (Zaf .i64)) Ze9
theorem ZCt:Zan Tryz.prog 147 s147 :=
 Zaj (V:=e147) (L:=nL) (rounds:=20) (depth:=6) g147 Zak (fun x=>by kernel_rfl)
def e148:Env:=env1 []
theorem g148:Zai e148:=Zam mix1 ent1 Zah
def s148:Spec:=Zap (Zac (Zar ZaF)) (Zau (Zar ZaF)) Zdp
theorem ZzX:Zan Tryz.prog 148 s148 :=
 Zaj (V:=e148) (L:=nL) (rounds:=20) (depth:=6) g148 Zak (fun x=>by kernel_rfl)
def e151:Env:=env1 [(173,s173)]
theorem g151:Zai e151:=Zam mix1 ent1 (Zab ZvZ rfl Zah)
def s151:Spec:=Zap (Zaa (Zao .entry) (Zac (Zaf .i64))) (Zau (Zao .entry)) Zke
theorem ZBV:Zan Tryz.prog 151 s151 :=
 Zaj (V:=e151) (L:=nL) (rounds:=20) (depth:=6) g151 Zak (fun x=>by kernel_rfl)
def e187:Env:=env1 [(60,s60),(91,s91)]
theorem g187:Zai e187:=Zam mix1 ent1 (Zab ok60 rfl (Zab ok91 rfl Zah))
def s187:Spec:=Zap (Zaa (Zar Zce) (Zaa (Zaf .i64) (Zac (Zaf .i64)))) (Zb9 (Zaa (Zar Zce) (Zaa (Zaf .i64) (Zac (Zaf .i64))))) Zlm
theorem ZCT:Zan Tryz.prog 187 s187 :=
 Zaj (V:=e187) (L:=nL) (rounds:=20) (depth:=6) g187 Zak (fun x=>by kernel_rfl)
def e188:Env:=env1 [(94,s94)]
theorem g188:Zai e188:=Zam mix1 ent1 (Zab ok94 rfl Zah)
def s188:Spec:=Zap (Zaa (Zar celConfig) (Zaa (Zaf .i64) (Zaa (Zaf .i64) (Zac (Zaf .i64))))) (Zau (Zaf .i64)) ZkC
theorem ZCJ:Zan Tryz.prog 188 s188 :=
 Zaj (V:=e188) (L:=nL) (rounds:=20) (depth:=6) g188 Zak (fun x=>by kernel_rfl)
def e204:Env:=env1 []
theorem g204:Zai e204:=Zam mix1 ent1 Zah
def s204:Spec:=Zap (Zac (Zar ZdO)) (Zau (Zaf .i64)) ZfK
theorem ZB8:Zan Tryz.prog 204 s204 :=
 Zaj (V:=e204) (L:=nL) (rounds:=20) (depth:=6) g204 Zak (fun x=>by kernel_rfl)
end Go.Proofs.Mill
