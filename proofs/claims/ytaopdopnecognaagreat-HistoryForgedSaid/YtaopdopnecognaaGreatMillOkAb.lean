/- The functions compute this. -/
import Derived.Test.YtaopdopnecognaaGreatMillSeat3
import Derived.Test.YtaopdopnecognaaGreatMillFAb
namespace Go.Proofs.Mill
set_option linter.all false
noncomputable def e37:Env:=env1 []
theorem g37:Zai e37:=Zal mix1 ent1 Zah
noncomputable def Zzs:LSpec:=Zei [2,5,6] (Zaa (ZaM 63 .sentry) (Zaa (Zad .i64) (Zac (Zad .i64)))) (⟨.exit 0,[2],(Zac (ZaM 63 .sentry))⟩:Way) (ZaH ZhS)
set_option maxRecDepth 100000 in
theorem ZzY:LoopOK e37 16 Zzs (Za9 e37.P 37 2) :=
  ZcC (L:=ZaR []) (rounds:=20) (depth:=6) (ts:=[2,5,6]) (v:=(Zaa (ZaM 63 .sentry) (Zaa (Zad .i64) (Zac (Zad .i64))))) (a:=⟨.exit 0,[2],(Zac (ZaM 63 .sentry))⟩) (step:=ZhS) g37 rfl Za4 (fun x=>by kernel_rfl)
noncomputable def s37:Spec:=Zao (Zac (Zaq celConfig)) (Zas (Zap .sentry)) Zkp
set_option maxRecDepth 100000 in
theorem ok37:Zan Tryz.prog 37 s37 :=
  Zaj (V:=e37) (L:=(ZaR [(2,Zzs)])) (rounds:=20) (depth:=6) g37 (Zbu (nt:=16) (by kernel_rfl) (Zb9 (by kernel_rfl)) (ZaK ZzY Za1)) (fun x=>by kernel_rfl)
noncomputable def e17:Env:=env1 [(37,s37)]
theorem g17:Zai e17:=Zal mix1 ent1 (Zab ok37 rfl Zah)
noncomputable def ZvT:LSpec:=Zgc [1,4,5,14,15,16] (Zaa (Zad .i64) (Zaa (ZaM 63 .sentry) (Zaa (Zap .sentry) (Zaa (Zap .sentry) (Zaa (Zad .i64) (Zac (Zad .i64))))))) (⟨.exit 0,[4],(Zac (ZaM 63 .sentry))⟩:Way) (⟨.exit 2,[1,4,5],(Zaa (Zad .i64) (Zaa (ZaM 63 .sentry) (Zac (Zap .sentry))))⟩:Way) (ZaH Zhi)
set_option maxRecDepth 100000 in
theorem Zuo:LoopOK e17 29 ZvT (Za9 e17.P 17 5) :=
  Zec (L:=ZaR []) (rounds:=20) (depth:=6) (ts:=[1,4,5,14,15,16]) (v:=(Zaa (Zad .i64) (Zaa (ZaM 63 .sentry) (Zaa (Zap .sentry) (Zaa (Zap .sentry) (Zaa (Zad .i64) (Zac (Zad .i64)))))))) (a:=⟨.exit 0,[4],(Zac (ZaM 63 .sentry))⟩) (b:=⟨.exit 2,[1,4,5],(Zaa (Zad .i64) (Zaa (ZaM 63 .sentry) (Zac (Zap .sentry))))⟩) (step:=Zhi) g17 rfl rfl Za4 (fun x=>by kernel_rfl)
noncomputable def ZyQ:LSpec:=Zei [1,4,5] (Zaa (Zad .i64) (Zaa (ZaM 63 .sentry) (Zac (Zap .sentry)))) (⟨.exit 0,[4],(Zac (ZaM 63 .sentry))⟩:Way) (ZaH ZhE)
set_option maxRecDepth 100000 in
theorem ZzD:LoopOK e17 29 ZyQ (Za9 e17.P 17 2) :=
  ZcC (L:=ZaR [(5,ZvT)]) (rounds:=20) (depth:=6) (ts:=[1,4,5]) (v:=(Zaa (Zad .i64) (Zaa (ZaM 63 .sentry) (Zac (Zap .sentry))))) (a:=⟨.exit 0,[4],(Zac (ZaM 63 .sentry))⟩) (step:=ZhE) g17 rfl (Zs3 (by kernel_rfl) (ZaK Zuo Za1)) (fun x=>by kernel_rfl)
noncomputable def s17:Spec:=Zao (Zaa (Zaq celConfig) (Zac (Zad .i64))) (Zas (Zap .sentry)) Zjj
set_option maxRecDepth 100000 in
theorem ok17:Zan Tryz.prog 17 s17 :=
  Zaj (V:=e17) (L:=(ZaR [(5,ZvT),(2,ZyQ)])) (rounds:=20) (depth:=6) g17 (Zbu (nt:=29) (by kernel_rfl) (Zb9 (by kernel_rfl)) (ZaK Zuo (ZaK ZzD Za1))) (fun x=>by kernel_rfl)
noncomputable def e53:Env:=env1 []
theorem g53:Zai e53:=Zal mix1 ent1 Zah
noncomputable def s53:Spec:=Zao (Zac (Zaq celConfig)) (Zas (Zad .i64)) Zli
set_option maxRecDepth 100000 in
theorem ok53:Zan Tryz.prog 53 s53 :=
  Zaj (V:=e53) (L:=nL) (rounds:=20) (depth:=6) g53 Zak (fun x=>by kernel_rfl)
noncomputable def e18:Env:=env1 [(53,s53)]
theorem g18:Zai e18:=Zal mix1 ent1 (Zab ok53 rfl Zah)
noncomputable def s18:Spec:=Zao (Zac (Zaq celConfig)) (Zas (Zad .i64)) ZgG
set_option maxRecDepth 100000 in
theorem ok18:Zan Tryz.prog 18 s18 :=
  Zaj (V:=e18) (L:=nL) (rounds:=20) (depth:=6) g18 Zak (fun x=>by kernel_rfl)
noncomputable def e20:Env:=env1 []
theorem g20:Zai e20:=Zal mix1 ent1 Zah
noncomputable def ZyI:LSpec:=Zei [1,3,4] (Zaa (Zay celConfig) (Zaa (Zad .i64) (Zac (Zad .i64)))) (⟨.exit 0,[3],(Zac (Zad .i64))⟩:Way) (ZaH Zet)
set_option maxRecDepth 100000 in
theorem Zz3:LoopOK e20 15 ZyI (Za9 e20.P 20 3) :=
  ZcC (L:=ZaR []) (rounds:=20) (depth:=6) (ts:=[1,3,4]) (v:=(Zaa (Zay celConfig) (Zaa (Zad .i64) (Zac (Zad .i64))))) (a:=⟨.exit 0,[3],(Zac (Zad .i64))⟩) (step:=Zet) g20 rfl Za4 (fun x=>by kernel_rfl)
noncomputable def s20:Spec:=Zao (Zac (Zaq celConfig)) (Zas (Zad .i64)) Zi4
set_option maxRecDepth 100000 in
theorem ok20:Zan Tryz.prog 20 s20 :=
  Zaj (V:=e20) (L:=(ZaR [(3,ZyI)])) (rounds:=20) (depth:=6) g20 (Zbu (nt:=15) (by kernel_rfl) (Zb9 (by kernel_rfl)) (ZaK Zz3 Za1)) (fun x=>by kernel_rfl)
noncomputable def e54:Env:=env1 [(20,s20)]
theorem g54:Zai e54:=Zal mix1 ent1 (Zab ok20 rfl Zah)
noncomputable def s54:Spec:=Zao (Zac (Zaq celConfig)) (Zas (Zad .i64)) Zjk
set_option maxRecDepth 100000 in
theorem ok54:Zan Tryz.prog 54 s54 :=
  Zaj (V:=e54) (L:=nL) (rounds:=20) (depth:=6) g54 Zak (fun x=>by kernel_rfl)
noncomputable def e24:Env:=env1 []
theorem g24:Zai e24:=Zal mix1 ent1 Zah
noncomputable def s24:Spec:=Zao (Zac (Zaq ZiA)) (Zas (ZaW)) Zb8
set_option maxRecDepth 100000 in
theorem ok24:Zan Tryz.prog 24 s24 :=
  Zaj (V:=e24) (L:=nL) (rounds:=20) (depth:=6) g24 Zak (fun x=>by kernel_rfl)
noncomputable def e83:Env:=env1 []
theorem g83:Zai e83:=Zal mix1 ent1 Zah
noncomputable def s83:Spec:=Zao (Zaa (Zad .i64) (Zac (Zad .i64))) (Zas (ZaW)) ZdA
set_option maxRecDepth 100000 in
theorem ok83:Zan Tryz.prog 83 s83 :=
  Zaj (V:=e83) (L:=nL) (rounds:=20) (depth:=6) g83 Zak (fun x=>by kernel_rfl)
noncomputable def e107:Env:=env1 []
theorem g107:Zai e107:=Zal mix1 ent1 Zah
noncomputable def s107:Spec:=Zao (Zac (Zad .i64)) (Zas (ZaW)) ZjK
set_option maxRecDepth 100000 in
theorem ZA5:Zan Tryz.prog 107 s107 :=
  Zaj (V:=e107) (L:=nL) (rounds:=20) (depth:=6) g107 Zak (fun x=>by kernel_rfl)
noncomputable def e84:Env:=env1 [(107,s107)]
theorem g84:Zai e84:=Zal mix1 ent1 (Zab ZA5 rfl Zah)
noncomputable def s84:Spec:=Zao (Zaa (Zaq Zht) (Zac (ZaW))) (Zas (ZaW)) Zjw
set_option maxRecDepth 100000 in
theorem ok84:Zan Tryz.prog 84 s84 :=
  Zaj (V:=e84) (L:=nL) (rounds:=20) (depth:=6) g84 Zak (fun x=>by kernel_rfl)
noncomputable def e61:Env:=env1 [(83,s83),(84,s84)]
theorem g61:Zai e61:=Zal mix1 ent1 (Zab ok83 rfl (Zab ok84 rfl Zah))
noncomputable def s61:Spec:=Zao (Zaa (Zaq celConfig) (Zac (Zaq Zxu))) (Zas (Zad .i64)) Zih
set_option maxRecDepth 100000 in
theorem ok61:Zan Tryz.prog 61 s61 :=
  Zaj (V:=e61) (L:=nL) (rounds:=20) (depth:=6) g61 Zak (fun x=>by kernel_rfl)
noncomputable def s85:Spec:=Zao (Zac (Zap .thread)) (Zas (ZaM 57 .thread)) ZhO
noncomputable def s86:Spec:=Zao (Zac (Zap .mark)) (Zas (ZaM 65 .mark)) ZiO
noncomputable def s87:Spec:=Zao (Zac (Zap .event)) (Zas (ZaM 50 .event)) Zi9
noncomputable def e112:Env:=env1 []
theorem g112:Zai e112:=Zal mix1 ent1 Zah
noncomputable def s112:Spec:=Zao (Zaa (Zad .i64) (Zac (Zad .i64))) (Zas (Zad .i64)) ZjM
set_option maxRecDepth 100000 in
theorem ZAM:Zan Tryz.prog 112 s112 :=
  Zaj (V:=e112) (L:=nL) (rounds:=20) (depth:=6) g112 Zak (fun x=>by kernel_rfl)
noncomputable def e100:Env:=env1 [(112,s112)]
theorem g100:Zai e100:=Zal mix1 ent1 (Zab ZAM rfl Zah)
noncomputable def s100:Spec:=Zao (Zaa (Zaq celConfig) (Zaa (Zad .i64) (Zaa (Zaq ZiA) (Zaa (Zad .i64) (Zaa (Zaq Zht) (Zac (Zad .i64))))))) (Zas (Zaq ZiA)) Zig
set_option maxRecDepth 100000 in
theorem ZAX:Zan Tryz.prog 100 s100 :=
  Zaj (V:=e100) (L:=nL) (rounds:=20) (depth:=6) g100 Zak (fun x=>by kernel_rfl)
noncomputable def e26:Env:=env1 [(24,s24),(61,s61),(85,s85),(86,s86),(87,s87),(100,s100)]
noncomputable def e49:Env:=env1 []
theorem g49:Zai e49:=Zal mix1 ent1 Zah
noncomputable def s49:Spec:=Zao (Zac (Zaq celConfig)) (Zas (Zad .i64)) Zmn
set_option maxRecDepth 100000 in
theorem ok49:Zan Tryz.prog 49 s49 :=
  Zaj (V:=e49) (L:=nL) (rounds:=20) (depth:=6) g49 Zak (fun x=>by kernel_rfl)
noncomputable def e44:Env:=env1 []
theorem g44:Zai e44:=Zal mix1 ent1 Zah
noncomputable def s44:Spec:=Zao (Zaa (Zaq Zht) (Zac (ZaW))) (Zas (ZaW)) Zty
set_option maxRecDepth 100000 in
theorem ok44:Zan Tryz.prog 44 s44 :=
  Zaj (V:=e44) (L:=nL) (rounds:=20) (depth:=6) g44 Zak (fun x=>by kernel_rfl)
noncomputable def e32:Env:=env1 [(49,s49)]
theorem g32:Zai e32:=Zal mix1 ent1 (Zab ok49 rfl Zah)
noncomputable def s32:Spec:=Zao (Zac (Zaq celConfig)) (Zas (ZaW)) Zn2
set_option maxRecDepth 100000 in
theorem ok32:Zan Tryz.prog 32 s32 :=
  Zaj (V:=e32) (L:=nL) (rounds:=20) (depth:=6) g32 Zak (fun x=>by kernel_rfl)
noncomputable def e73:Env:=env1 []
theorem g73:Zai e73:=Zal mix1 ent1 Zah
noncomputable def s73:Spec:=Zao (Zac (Zaq celConfig)) (Zas (Zad .i64)) Zmk
set_option maxRecDepth 100000 in
theorem ok73:Zan Tryz.prog 73 s73 :=
  Zaj (V:=e73) (L:=nL) (rounds:=20) (depth:=6) g73 Zak (fun x=>by kernel_rfl)
noncomputable def e34:Env:=env1 [(73,s73)]
theorem g34:Zai e34:=Zal mix1 ent1 (Zab ok73 rfl Zah)
noncomputable def s34:Spec:=Zao (Zac (Zaq celConfig)) (Zas (Zad .i64)) Zk9
set_option maxRecDepth 100000 in
theorem ok34:Zan Tryz.prog 34 s34 :=
  Zaj (V:=e34) (L:=nL) (rounds:=20) (depth:=6) g34 Zak (fun x=>by kernel_rfl)
noncomputable def e35:Env:=env1 []
theorem g35:Zai e35:=Zal mix1 ent1 Zah
noncomputable def Zzf:LSpec:=Zgc [0,1,5] (Zaa (Zap .sentry) (Zaa (Zap .sentry) (Zac (Zad .i64)))) (⟨.exit 0,[],Zem⟩:Way) (⟨.ret,[4],(Zac (ZaW))⟩:Way) (ZaH ZhN)
set_option maxRecDepth 100000 in
theorem Zzw:LoopOK e35 26 Zzf (Za9 e35.P 35 4) :=
  Zec (L:=ZaR []) (rounds:=20) (depth:=6) (ts:=[0,1,5]) (v:=(Zaa (Zap .sentry) (Zaa (Zap .sentry) (Zac (Zad .i64))))) (a:=⟨.exit 0,[],Zem⟩) (b:=⟨.ret,[4],(Zac (ZaW))⟩) (step:=ZhN) g35 rfl rfl Za4 (fun x=>by kernel_rfl)
noncomputable def s35:Spec:=Zao (Zaa (Zap .sentry) (Zac (Zap .sentry))) (Zas (ZaW)) ZsJ
set_option maxRecDepth 100000 in
theorem ok35:Zan Tryz.prog 35 s35 :=
  Zaj (V:=e35) (L:=(ZaR [(4,Zzf)])) (rounds:=20) (depth:=6) g35 (Zbu (nt:=26) (by kernel_rfl) (Zb9 (by kernel_rfl)) (ZaK Zzw Za1)) (fun x=>by kernel_rfl)
noncomputable def e36:Env:=env1 []
theorem g36:Zai e36:=Zal mix1 ent1 Zah
noncomputable def ZyS:LSpec:=Zei [0,3,4] (Zaa (Zap .sentry) (Zaa (ZaM 120 .sentry) (Zac (Zad .i64)))) (⟨.exit 0,[3],(Zac (ZaM 120 .sentry))⟩:Way) (ZaH Zjm)
set_option maxRecDepth 100000 in
theorem ZzG:LoopOK e36 37 ZyS (Za9 e36.P 36 3) :=
  ZcC (L:=ZaR []) (rounds:=20) (depth:=6) (ts:=[0,3,4]) (v:=(Zaa (Zap .sentry) (Zaa (ZaM 120 .sentry) (Zac (Zad .i64))))) (a:=⟨.exit 0,[3],(Zac (ZaM 120 .sentry))⟩) (step:=Zjm) g36 rfl Za4 (fun x=>by kernel_rfl)
noncomputable def s36:Spec:=Zao (Zac (Zap .sentry)) (Zas (Zap .sentry)) ZtT
set_option maxRecDepth 100000 in
theorem ok36:Zan Tryz.prog 36 s36 :=
  Zaj (V:=e36) (L:=(ZaR [(3,ZyS)])) (rounds:=20) (depth:=6) g36 (Zbu (nt:=37) (by kernel_rfl) (Zb9 (by kernel_rfl)) (ZaK ZzG Za1)) (fun x=>by kernel_rfl)
noncomputable def e39:Env:=env1 []
theorem g39:Zai e39:=Zal mix1 ent1 Zah
noncomputable def ZvC:LSpec:=Zgc [1,2,5,6,7] (Zaa (Zad .i64) (Zaa (Zay celConfig) (Zaa (ZaM 120 .sentry) (Zaa (Zad .i64) (Zac (Zad .i64)))))) (⟨.exit 2,[1,2,5,6],(Zaa (Zad .i64) (Zaa (Zay celConfig) (Zaa (ZaM 120 .sentry) (Zac (Zad .i64)))))⟩:Way) (⟨.ret,[4],(Zac (Zap .sentry))⟩:Way) (ZaH ZgV)
set_option maxRecDepth 100000 in
theorem Zut:LoopOK e39 30 ZvC (Za9 e39.P 39 6) :=
  Zec (L:=ZaR []) (rounds:=20) (depth:=6) (ts:=[1,2,5,6,7]) (v:=(Zaa (Zad .i64) (Zaa (Zay celConfig) (Zaa (ZaM 120 .sentry) (Zaa (Zad .i64) (Zac (Zad .i64))))))) (a:=⟨.exit 2,[1,2,5,6],(Zaa (Zad .i64) (Zaa (Zay celConfig) (Zaa (ZaM 120 .sentry) (Zac (Zad .i64)))))⟩) (b:=⟨.ret,[4],(Zac (Zap .sentry))⟩) (step:=ZgV) g39 rfl rfl Za4 (fun x=>by kernel_rfl)
noncomputable def ZyE:LSpec:=Zgc [1,2,5,6] (Zaa (Zad .i64) (Zaa (Zay celConfig) (Zaa (ZaM 120 .sentry) (Zac (Zad .i64))))) (⟨.exit 0,[5],(Zac (ZaM 120 .sentry))⟩:Way) (⟨.ret,[4],(Zac (Zap .sentry))⟩:Way) (ZaH ZgM)
set_option maxRecDepth 100000 in
theorem ZAj:LoopOK e39 30 ZyE (Za9 e39.P 39 3) :=
  Zec (L:=ZaR [(6,ZvC)]) (rounds:=20) (depth:=6) (ts:=[1,2,5,6]) (v:=(Zaa (Zad .i64) (Zaa (Zay celConfig) (Zaa (ZaM 120 .sentry) (Zac (Zad .i64)))))) (a:=⟨.exit 0,[5],(Zac (ZaM 120 .sentry))⟩) (b:=⟨.ret,[4],(Zac (Zap .sentry))⟩) (step:=ZgM) g39 rfl rfl (Zs3 (by kernel_rfl) (ZaK Zut Za1)) (fun x=>by kernel_rfl)
noncomputable def s39:Spec:=Zao (Zaa (Zaq celConfig) (Zac (Zad .i64))) (Zas (Zap .sentry)) Zlf
set_option maxRecDepth 100000 in
theorem ok39:Zan Tryz.prog 39 s39 :=
  Zaj (V:=e39) (L:=(ZaR [(6,ZvC),(3,ZyE)])) (rounds:=20) (depth:=6) g39 (Zbu (nt:=30) (by kernel_rfl) (Zb9 (by kernel_rfl)) (ZaK Zut (ZaK ZAj Za1))) (fun x=>by kernel_rfl)
noncomputable def e38:Env:=env1 [(39,s39)]
theorem g38:Zai e38:=Zal mix1 ent1 (Zab ok39 rfl Zah)
noncomputable def s38:Spec:=Zao (Zac (Zaq celConfig)) (Zas (Zap .sentry)) ZrD
set_option maxRecDepth 100000 in
theorem ok38:Zan Tryz.prog 38 s38 :=
  Zaj (V:=e38) (L:=nL) (rounds:=20) (depth:=6) g38 Zak (fun x=>by kernel_rfl)
noncomputable def e74:Env:=env1 []
theorem g74:Zai e74:=Zal mix1 ent1 Zah
noncomputable def Zzp:LSpec:=Zgc [0,6,7] (Zaa (Zap .sentry) (Zaa (Zad .i64) (Zac (Zad .i64)))) (⟨.exit 0,[0],(Zac (Zap .sentry))⟩:Way) (⟨.ret,[2],(Zac (Zap .sentry))⟩:Way) (ZaH ZhB)
set_option maxRecDepth 100000 in
theorem Zzz:LoopOK e74 26 Zzp (Za9 e74.P 74 2) :=
  Zec (L:=ZaR []) (rounds:=20) (depth:=6) (ts:=[0,6,7]) (v:=(Zaa (Zap .sentry) (Zaa (Zad .i64) (Zac (Zad .i64))))) (a:=⟨.exit 0,[0],(Zac (Zap .sentry))⟩) (b:=⟨.ret,[2],(Zac (Zap .sentry))⟩) (step:=ZhB) g74 rfl rfl Za4 (fun x=>by kernel_rfl)
noncomputable def s74:Spec:=Zao (Zac (Zap .sentry)) (Zas (Zap .sentry)) Zmv
set_option maxRecDepth 100000 in
theorem ok74:Zan Tryz.prog 74 s74 :=
  Zaj (V:=e74) (L:=(ZaR [(2,Zzp)])) (rounds:=20) (depth:=6) g74 (Zbu (nt:=26) (by kernel_rfl) (Zb9 (by kernel_rfl)) (ZaK Zzz Za1)) (fun x=>by kernel_rfl)
noncomputable def e40:Env:=env1 [(74,s74)]
theorem g40:Zai e40:=Zal mix1 ent1 (Zab ok74 rfl Zah)
noncomputable def Zzi:LSpec:=Zei [2,4,5,9,10,11] (Zaa (Zay celConfig) (Zaa (Zad .i64) (Zaa (Zad .i64) (Zaa (Zap .sentry) (Zaa (Zad .i64) (Zac (Zad .i64))))))) (⟨.exit 0,[4],(Zac (Zad .i64))⟩:Way) (ZaH ZhV)
set_option maxRecDepth 100000 in
theorem Zz6:LoopOK e40 34 Zzi (Za9 e40.P 40 3) :=
  ZcC (L:=ZaR []) (rounds:=20) (depth:=6) (ts:=[2,4,5,9,10,11]) (v:=(Zaa (Zay celConfig) (Zaa (Zad .i64) (Zaa (Zad .i64) (Zaa (Zap .sentry) (Zaa (Zad .i64) (Zac (Zad .i64)))))))) (a:=⟨.exit 0,[4],(Zac (Zad .i64))⟩) (step:=ZhV) g40 rfl Za4 (fun x=>by kernel_rfl)
noncomputable def s40:Spec:=Zao (Zaa (Zaq celConfig) (Zac (Zap .sentry))) (Zas (Zad .i64)) Zhw
set_option maxRecDepth 100000 in
theorem ok40:Zan Tryz.prog 40 s40 :=
  Zaj (V:=e40) (L:=(ZaR [(3,Zzi)])) (rounds:=20) (depth:=6) g40 (Zbu (nt:=34) (by kernel_rfl) (Zb9 (by kernel_rfl)) (ZaK Zz6 Za1)) (fun x=>by kernel_rfl)
noncomputable def e41:Env:=env1 []
theorem g41:Zai e41:=Zal mix1 ent1 Zah
noncomputable def Zza:LSpec:=Zei [1,2,7,8] (Zaa (Zap .sentry) (Zaa (Zay celConfig) (Zaa (Zad .i64) (Zac (Zad .i64))))) (⟨.exit 2,[2,7],(Zaa (Zay celConfig) (Zac (Zad .i64)))⟩:Way) (ZaH ZhI)
set_option maxRecDepth 100000 in
theorem Zzx:LoopOK e41 52 Zza (Za9 e41.P 41 9) :=
  ZcC (L:=ZaR []) (rounds:=20) (depth:=6) (ts:=[1,2,7,8]) (v:=(Zaa (Zap .sentry) (Zaa (Zay celConfig) (Zaa (Zad .i64) (Zac (Zad .i64)))))) (a:=⟨.exit 2,[2,7],(Zaa (Zay celConfig) (Zac (Zad .i64)))⟩) (step:=ZhI) g41 rfl Za4 (fun x=>by kernel_rfl)
noncomputable def ZyP:LSpec:=Zei [1,2,5,6] (Zaa (Zap .sentry) (Zaa (Zay celConfig) (Zaa (Zad .i64) (Zac (Zad .i64))))) (⟨.exit 0,[1,2,5],(Zaa (Zap .sentry) (Zaa (Zay celConfig) (Zac (Zad .i64))))⟩:Way) (ZaH Zhc)
set_option maxRecDepth 100000 in
theorem Zzv:LoopOK e41 52 ZyP (Za9 e41.P 41 3) :=
  ZcC (L:=ZaR []) (rounds:=20) (depth:=6) (ts:=[1,2,5,6]) (v:=(Zaa (Zap .sentry) (Zaa (Zay celConfig) (Zaa (Zad .i64) (Zac (Zad .i64)))))) (a:=⟨.exit 0,[1,2,5],(Zaa (Zap .sentry) (Zaa (Zay celConfig) (Zac (Zad .i64))))⟩) (step:=Zhc) g41 rfl Za4 (fun x=>by kernel_rfl)
noncomputable def s41:Spec:=Zao (Zaa (Zaq celConfig) (Zac (Zap .sentry))) (Zas (Zad .i64)) ZmB
set_option maxRecDepth 100000 in
theorem ok41:Zan Tryz.prog 41 s41 :=
  Zaj (V:=e41) (L:=(ZaR [(9,Zza),(3,ZyP)])) (rounds:=20) (depth:=6) g41 (Zbu (nt:=52) (by kernel_rfl) (Zb9 (by kernel_rfl)) (ZaK Zzx (ZaK Zzv Za1))) (fun x=>by kernel_rfl)
noncomputable def e42:Env:=env1 [(18,s18),(40,s40)]
theorem g42:Zai e42:=Zal mix1 ent1 (Zab ok18 rfl (Zab ok40 rfl Zah))
noncomputable def s42:Spec:=Zao (Zaa (Zaq celConfig) (Zac (Zap .sentry))) (Zas (ZaW)) Zfh
set_option maxRecDepth 100000 in
theorem ok42:Zan Tryz.prog 42 s42 :=
  Zaj (V:=e42) (L:=nL) (rounds:=20) (depth:=6) g42 Zak (fun x=>by kernel_rfl)
noncomputable def e43:Env:=env1 [(34,s34),(41,s41)]
theorem g43:Zai e43:=Zal mix1 ent1 (Zab ok34 rfl (Zab ok41 rfl Zah))
noncomputable def s43:Spec:=Zao (Zaa (Zaq celConfig) (Zac (Zap .sentry))) (Zas (ZaW)) ZsO
set_option maxRecDepth 100000 in
theorem ok43:Zan Tryz.prog 43 s43 :=
  Zaj (V:=e43) (L:=nL) (rounds:=20) (depth:=6) g43 Zak (fun x=>by kernel_rfl)
noncomputable def e45:Env:=env1 [(24,s24)]
theorem g45:Zai e45:=Zal mix1 ent1 (Zab ok24 rfl Zah)
noncomputable def Zzl:LSpec:=Zei [2,6,7,8] (Zaa (Zad .i64) (Zaa (Zap .thread) (Zaa (Zad .i64) (Zac (Zad .i64))))) (⟨.exit 0,[2],(Zac (Zad .i64))⟩:Way) (ZaH Zif)
set_option maxRecDepth 100000 in
theorem Zz8:LoopOK e45 18 Zzl (Za9 e45.P 45 2) :=
  ZcC (L:=ZaR []) (rounds:=20) (depth:=6) (ts:=[2,6,7,8]) (v:=(Zaa (Zad .i64) (Zaa (Zap .thread) (Zaa (Zad .i64) (Zac (Zad .i64)))))) (a:=⟨.exit 0,[2],(Zac (Zad .i64))⟩) (step:=Zif) g45 rfl Za4 (fun x=>by kernel_rfl)
noncomputable def s45:Spec:=Zao (Zac (Zaq Zc4)) (Zas (Zad .i64)) Zm2
set_option maxRecDepth 100000 in
theorem ok45:Zan Tryz.prog 45 s45 :=
  Zaj (V:=e45) (L:=(ZaR [(2,Zzl)])) (rounds:=20) (depth:=6) g45 (Zbu (nt:=18) (by kernel_rfl) (Zb9 (by kernel_rfl)) (ZaK Zz8 Za1)) (fun x=>by kernel_rfl)
noncomputable def e47:Env:=env1 [(54,s54)]
theorem g47:Zai e47:=Zal mix1 ent1 (Zab ok54 rfl Zah)
noncomputable def s47:Spec:=Zao (Zaa (Zaq celConfig) (Zac (Zad .i64))) (Zas (Zad .i64)) ZfK
set_option maxRecDepth 100000 in
theorem ok47:Zan Tryz.prog 47 s47 :=
  Zaj (V:=e47) (L:=nL) (rounds:=20) (depth:=6) g47 Zak (fun x=>by kernel_rfl)
noncomputable def s48:Spec:=Zao (Zaa (Zaq Zht) (Zaa (Zad .i64) (Zaa (Zad .i64) (Zac (Zad .i64))))) (Zb3 (Zaa (Zad .i64) (Zac (ZaW)))) Zrq
noncomputable def e56:Env:=env1 []
theorem g56:Zai e56:=Zal mix1 ent1 Zah
noncomputable def Zzo:LSpec:=Zgc [1,29,30] (Zaa (Zay celConfig) (Zaa (Zaq (Zam (Zar .i64) (Zam (Zar .i64) (Zam (Zar .i64) (Zam (Zar .i64) (Zam (Zar .i64) (Zam (Zar .i64) (Zam (Zar .i64) (Zam (Zar .i64) (Zam (Zar .i64) (Zam (Zar .i64) (Zam (Zar .i64) (Zam (Zar .i64) (Zam (Zar .i64) (Zam (Zar .i64) (Zam (Zar .i64) (Zam (Zar .i64) (Zam (Zar .i64) (Zam (Zar .i64) (Zam (Zar .i64) (Zam (Zar .i64) (Zam (Zar .i64) (Zam (Zar .i64) (Zam (Zar .i64) (Zar .i64))))))))))))))))))))))))) (Zac (Zad .i64)))) (⟨.exit 0,[1],(Zac (Zay celConfig))⟩:Way) (⟨.ret,[2],(Zac (Zad .i64))⟩:Way) (ZaH Zeb)
set_option maxRecDepth 100000 in
theorem ZzM:LoopOK e56 65 Zzo (Za9 e56.P 56 2) :=
  Zec (L:=ZaR []) (rounds:=20) (depth:=6) (ts:=[1,29,30]) (v:=(Zaa (Zay celConfig) (Zaa (Zaq (Zam (Zar .i64) (Zam (Zar .i64) (Zam (Zar .i64) (Zam (Zar .i64) (Zam (Zar .i64) (Zam (Zar .i64) (Zam (Zar .i64) (Zam (Zar .i64) (Zam (Zar .i64) (Zam (Zar .i64) (Zam (Zar .i64) (Zam (Zar .i64) (Zam (Zar .i64) (Zam (Zar .i64) (Zam (Zar .i64) (Zam (Zar .i64) (Zam (Zar .i64) (Zam (Zar .i64) (Zam (Zar .i64) (Zam (Zar .i64) (Zam (Zar .i64) (Zam (Zar .i64) (Zam (Zar .i64) (Zar .i64))))))))))))))))))))))))) (Zac (Zad .i64))))) (a:=⟨.exit 0,[1],(Zac (Zay celConfig))⟩) (b:=⟨.ret,[2],(Zac (Zad .i64))⟩) (step:=Zeb) g56 rfl rfl Za4 (fun x=>by kernel_rfl)
noncomputable def s56:Spec:=Zao (Zac (Zaq celConfig)) (Zas (Zad .i64)) Zdh
set_option maxRecDepth 100000 in
theorem ok56:Zan Tryz.prog 56 s56 :=
  Zaj (V:=e56) (L:=(ZaR [(2,Zzo)])) (rounds:=20) (depth:=6) g56 (Zbu (nt:=65) (by kernel_rfl) (Zb9 (by kernel_rfl)) (ZaK ZzM Za1)) (fun x=>by kernel_rfl)
noncomputable def e51:Env:=env1 [(56,s56),(61,s61)]
theorem g51:Zai e51:=Zal mix1 ent1 (Zab ok56 rfl (Zab ok61 rfl Zah))
noncomputable def Zzh:LSpec:=Zgc [2,18,19,20] (Zaa (Zay celConfig) (Zaa (Zap .sentry) (Zaa (Zad .i64) (Zac (Zad .i64))))) (⟨.exit 0,[],Zem⟩:Way) (⟨.ret,[4,5],(Zaa (Zad .i64) (Zac (Zad .i64)))⟩:Way) (ZaH Zf9)
set_option maxRecDepth 100000 in
theorem ZzK:LoopOK e51 33 Zzh (Za9 e51.P 51 7) :=
  Zec (L:=ZaR []) (rounds:=20) (depth:=6) (ts:=[2,18,19,20]) (v:=(Zaa (Zay celConfig) (Zaa (Zap .sentry) (Zaa (Zad .i64) (Zac (Zad .i64)))))) (a:=⟨.exit 0,[],Zem⟩) (b:=⟨.ret,[4,5],(Zaa (Zad .i64) (Zac (Zad .i64)))⟩) (step:=Zf9) g51 rfl rfl Za4 (fun x=>by kernel_rfl)
noncomputable def s51:Spec:=Zao (Zaa (Zaq celConfig) (Zac (Zap .sentry))) (Zb3 (Zaa (Zad .i64) (Zac (Zad .i64)))) Zhm
set_option maxRecDepth 100000 in
theorem ok51:Zan Tryz.prog 51 s51 :=
  Zaj (V:=e51) (L:=(ZaR [(7,Zzh)])) (rounds:=20) (depth:=6) g51 (Zbu (nt:=33) (by kernel_rfl) (Zb9 (by kernel_rfl)) (ZaK ZzK Za1)) (fun x=>by kernel_rfl)
noncomputable def e110:Env:=env1 []
theorem g110:Zai e110:=Zal mix1 ent1 Zah
noncomputable def s110:Spec:=Zao (Zac (Zaq celConfig)) (Zas (Zad .i64)) Ze8
set_option maxRecDepth 100000 in
theorem ZyN:Zan Tryz.prog 110 s110 :=
  Zaj (V:=e110) (L:=nL) (rounds:=20) (depth:=6) g110 Zak (fun x=>by kernel_rfl)
noncomputable def e94:Env:=env1 [(110,s110)]
theorem g94:Zai e94:=Zal mix1 ent1 (Zab ZyN rfl Zah)
noncomputable def s94:Spec:=Zao (Zac (Zaq celConfig)) (Zas (Zaq ZAf)) Zck
set_option maxRecDepth 100000 in
theorem ok94:Zan Tryz.prog 94 s94 :=
  Zaj (V:=e94) (L:=nL) (rounds:=20) (depth:=6) g94 Zak (fun x=>by kernel_rfl)
noncomputable def e71:Env:=env1 [(94,s94)]
theorem g71:Zai e71:=Zal mix1 ent1 (Zab ok94 rfl Zah)
noncomputable def s71:Spec:=Zao (Zaa (Zaq celConfig) (Zac (Zad .i64))) (Zas (Zad .i64)) ZcG
set_option maxRecDepth 100000 in
theorem ok71:Zan Tryz.prog 71 s71 :=
  Zaj (V:=e71) (L:=nL) (rounds:=20) (depth:=6) g71 Zak (fun x=>by kernel_rfl)
noncomputable def e103:Env:=env1 []
theorem g103:Zai e103:=Zal mix1 ent1 Zah
noncomputable def s103:Spec:=Zao (Zac (Zad .i64)) (Zas (ZaM 3 .int)) Zg7
set_option maxRecDepth 100000 in
theorem ZBz:Zan Tryz.prog 103 s103 :=
  Zaj (V:=e103) (L:=nL) (rounds:=20) (depth:=6) g103 Zak (fun x=>by kernel_rfl)
noncomputable def e104:Env:=env1 []
theorem g104:Zai e104:=Zal mix1 ent1 Zah
noncomputable def s104:Spec:=Zao (Zac (Zad .i64)) (Zas (ZaM 54 (.lst .entry))) Zea
set_option maxRecDepth 100000 in
theorem ZAR:Zan Tryz.prog 104 s104 :=
  Zaj (V:=e104) (L:=nL) (rounds:=20) (depth:=6) g104 Zak (fun x=>by kernel_rfl)
noncomputable def e80:Env:=env1 [(103,s103),(104,s104)]
theorem g80:Zai e80:=Zal mix1 ent1 (Zab ZBz rfl (Zab ZAR rfl Zah))
noncomputable def s80:Spec:=Zao (Zaa (Zad .i64) (Zac (Zad .i64))) (Zas (Zaq (Zcu (Zam (Zbr 3 .int) (Zbr 54 (.lst .entry))) Memo (fun y=>⟨y.1,y.2⟩) (fun x=>(x.words,x.boxes)) (fun _=>rfl)))) ZlZ
set_option maxRecDepth 100000 in
theorem ok80:Zan Tryz.prog 80 s80 :=
  Zaj (V:=e80) (L:=nL) (rounds:=20) (depth:=6) g80 Zak (fun x=>by kernel_rfl)
noncomputable def e81:Env:=env1 [(94,s94)]
theorem g81:Zai e81:=Zal mix1 ent1 (Zab ok94 rfl Zah)
noncomputable def s81:Spec:=Zao (Zac (Zaq celConfig)) (Zas (Zad .i64)) Zj0
set_option maxRecDepth 100000 in
theorem ok81:Zan Tryz.prog 81 s81 :=
  Zaj (V:=e81) (L:=nL) (rounds:=20) (depth:=6) g81 Zak (fun x=>by kernel_rfl)
noncomputable def e57:Env:=env1 [(71,s71),(80,s80),(81,s81)]
theorem g57:Zai e57:=Zal mix1 ent1 (Zab ok71 rfl (Zab ok80 rfl (Zab ok81 rfl Zah)))
noncomputable def Zy3:LSpec:=Zei [1,2,3,11,12] (Zaa (Zay celConfig) (Zaa (Zay Zb6) (Zaa (Zay (Zcu (Zam (Zbr 3 .int) (Zbr 54 (.lst .entry))) Memo (fun y=>⟨y.1,y.2⟩) (fun x=>(x.words,x.boxes)) (fun _=>rfl))) (Zaa (Zad .i64) (Zac (Zad .i64)))))) (⟨.exit 0,[2,3],(Zaa (Zay Zb6) (Zac (Zay (Zcu (Zam (Zbr 3 .int) (Zbr 54 (.lst .entry))) Memo (fun y=>⟨y.1,y.2⟩) (fun x=>(x.words,x.boxes)) (fun _=>rfl)))))⟩:Way) (ZaH Zfw)
set_option maxRecDepth 100000 in
theorem Zz7:LoopOK e57 25 Zy3 (Za9 e57.P 57 3) :=
  ZcC (L:=ZaR []) (rounds:=20) (depth:=6) (ts:=[1,2,3,11,12]) (v:=(Zaa (Zay celConfig) (Zaa (Zay Zb6) (Zaa (Zay (Zcu (Zam (Zbr 3 .int) (Zbr 54 (.lst .entry))) Memo (fun y=>⟨y.1,y.2⟩) (fun x=>(x.words,x.boxes)) (fun _=>rfl))) (Zaa (Zad .i64) (Zac (Zad .i64))))))) (a:=⟨.exit 0,[2,3],(Zaa (Zay Zb6) (Zac (Zay (Zcu (Zam (Zbr 3 .int) (Zbr 54 (.lst .entry))) Memo (fun y=>⟨y.1,y.2⟩) (fun x=>(x.words,x.boxes)) (fun _=>rfl)))))⟩) (step:=Zfw) g57 rfl Za4 (fun x=>by kernel_rfl)
noncomputable def s57:Spec:=Zao (Zac (Zaq celConfig)) (Zas (Zaq (Zcu (Zam (Zbr 3 .int) (Zbr 54 (.lst .entry))) Memo (fun y=>⟨y.1,y.2⟩) (fun x=>(x.words,x.boxes)) (fun _=>rfl)))) ZiU
set_option maxRecDepth 100000 in
theorem ok57:Zan Tryz.prog 57 s57 :=
  Zaj (V:=e57) (L:=(ZaR [(3,Zy3)])) (rounds:=20) (depth:=6) g57 (Zbu (nt:=25) (by kernel_rfl) (Zb9 (by kernel_rfl)) (ZaK Zz7 Za1)) (fun x=>by kernel_rfl)
noncomputable def e59:Env:=env1 []
theorem g59:Zai e59:=Zal mix1 ent1 Zah
noncomputable def s59:Spec:=Zao Zem (Zas (Zaq ZiA)) ZjQ
set_option maxRecDepth 100000 in
theorem ok59:Zan Tryz.prog 59 s59 :=
  Zaj (V:=e59) (L:=nL) (rounds:=20) (depth:=6) g59 Zak (fun x=>by kernel_rfl)
noncomputable def e60:Env:=env1 []
theorem g60:Zai e60:=Zal mix1 ent1 Zah
noncomputable def s60:Spec:=Zao (Zac (Zap .int)) (Zas (ZaM 3 .int)) Zbo
set_option maxRecDepth 100000 in
theorem ok60:Zan Tryz.prog 60 s60 :=
  ZoH (V:=e60) (L:=nL) (rounds:=20) (depth:=6) (r:=(Zas (ZaM 3 .int))) g60 Zak (by kernel_rfl) (fun x=>by kernel_rfl)
noncomputable def e91:Env:=env1 []
theorem g91:Zai e91:=Zal mix1 ent1 Zah
noncomputable def s91:Spec:=Zao (Zaa (Zap .int) (Zac (Zad .i64))) (Zb3 (Zaa (Zad .i64) (Zac (Zad .i64)))) Zbt
set_option maxRecDepth 100000 in
theorem ok91:Zan Tryz.prog 91 s91 :=
  Zaj (V:=e91) (L:=nL) (rounds:=20) (depth:=6) g91 Zak (fun x=>by kernel_rfl)
noncomputable def e70:Env:=env1 [(91,s91)]
theorem g70:Zai e70:=Zal mix1 ent1 (Zab ok91 rfl Zah)
noncomputable def s70:Spec:=Zao (Zaa (Zaq Zb6) (Zac (Zad .i64))) (Zb3 (Zaa (Zad .i64) (Zac (Zad .i64)))) ZbQ
set_option maxRecDepth 100000 in
theorem ok70:Zan Tryz.prog 70 s70 :=
  Zaj (V:=e70) (L:=nL) (rounds:=20) (depth:=6) g70 Zak (fun x=>by kernel_rfl)
noncomputable def e106:Env:=env1 []
theorem g106:Zai e106:=Zal mix1 ent1 Zah
noncomputable def s106:Spec:=Zao (Zaa (Zad .u64) (Zac (Zad .u64))) (Zb3 (Zaa (Zad .u64) (Zac (Zad .u64)))) Zjp
set_option maxRecDepth 100000 in
theorem ZBL:Zan Tryz.prog 106 s106 :=
  Zaj (V:=e106) (L:=nL) (rounds:=20) (depth:=6) g106 Zak (fun x=>by kernel_rfl)
noncomputable def e82:Env:=env1 [(106,s106)]
theorem g82:Zai e82:=Zal mix1 ent1 (Zab ZBL rfl Zah)
noncomputable def s82:Spec:=Zao (Zaa (Zad .u64) (Zac (Zad .u64))) (Zb3 (Zaa (Zad .u64) (Zac (Zad .u64)))) ZdB
set_option maxRecDepth 100000 in
theorem ok82:Zan Tryz.prog 82 s82 :=
  Zaj (V:=e82) (L:=nL) (rounds:=20) (depth:=6) g82 Zak (fun x=>by kernel_rfl)
noncomputable def e109:Env:=env1 []
theorem g109:Zai e109:=Zal mix1 ent1 Zah
noncomputable def s109:Spec:=Zao (Zaa (Zad .i64) (Zaa (Zad .i64) (Zaa (Zad .i64) (Zac (Zad .i64))))) (Zas (ZaW)) Zi3
set_option maxRecDepth 100000 in
theorem ZBn:Zan Tryz.prog 109 s109 :=
  Zaj (V:=e109) (L:=nL) (rounds:=20) (depth:=6) g109 Zak (fun x=>by kernel_rfl)
noncomputable def e90:Env:=env1 [(109,s109)]
theorem g90:Zai e90:=Zal mix1 ent1 (Zab ZBn rfl Zah)
noncomputable def s90:Spec:=Zao (Zaa (Zaq Zht) (Zaa (Zad .i64) (Zaa (Zad .i64) (Zac (Zad .i64))))) (Zb3 (Zaa (Zad .i64) (Zac (ZaW)))) Zcb
set_option maxRecDepth 100000 in
theorem ok90:Zan Tryz.prog 90 s90 :=
  Zaj (V:=e90) (L:=nL) (rounds:=20) (depth:=6) g90 Zak (fun x=>by kernel_rfl)
noncomputable def e120:Env:=env1 [(60,s60),(91,s91)]
theorem g120:Zai e120:=Zal mix1 ent1 (Zab ok60 rfl (Zab ok91 rfl Zah))
noncomputable def s120:Spec:=Zao (Zaa (Zaq Zb6) (Zaa (Zad .i64) (Zac (Zad .i64)))) (Zb3 (Zaa (Zaq Zb6) (Zac (Zad .i64)))) Zb2
set_option maxRecDepth 100000 in
theorem Zpb:Zan Tryz.prog 120 s120 :=
  Zaj (V:=e120) (L:=nL) (rounds:=20) (depth:=6) g120 Zak (fun x=>by kernel_rfl)
noncomputable def e121:Env:=env1 [(94,s94)]
theorem g121:Zai e121:=Zal mix1 ent1 (Zab ok94 rfl Zah)
noncomputable def s121:Spec:=Zao (Zaa (Zaq celConfig) (Zac (Zad .i64))) (Zas (Zad .i64)) Zc5
set_option maxRecDepth 100000 in
theorem Zvu:Zan Tryz.prog 121 s121 :=
  Zaj (V:=e121) (L:=nL) (rounds:=20) (depth:=6) g121 Zak (fun x=>by kernel_rfl)
noncomputable def e122:Env:=env1 []
theorem g122:Zai e122:=Zal mix1 ent1 Zah
noncomputable def s122:Spec:=Zao (Zac (Zaq ZaD)) (Zas (Zaq ZaD)) Zhh
set_option maxRecDepth 100000 in
theorem ZBF:Zan Tryz.prog 122 s122 :=
  Zaj (V:=e122) (L:=nL) (rounds:=20) (depth:=6) g122 Zak (fun x=>by kernel_rfl)
noncomputable def e114:Env:=env1 [(120,s120),(121,s121),(122,s122)]
theorem g114:Zai e114:=Zal mix1 ent1 (Zab Zpb rfl (Zab Zvu rfl (Zab ZBF rfl Zah)))
noncomputable def s114:Spec:=Zao (Zac (Zaq ZaD)) (Zb3 (Zaa (Zaq ZaD) (Zac (ZaW)))) Zg8
set_option maxRecDepth 100000 in
theorem ZA1:Zan Tryz.prog 114 s114 :=
  Zaj (V:=e114) (L:=nL) (rounds:=20) (depth:=6) g114 Zak (fun x=>by kernel_rfl)
noncomputable def e131:Env:=env1 [(94,s94),(110,s110)]
theorem g131:Zai e131:=Zal mix1 ent1 (Zab ok94 rfl (Zab ZyN rfl Zah))
noncomputable def s131:Spec:=Zao (Zaa (Zaq celConfig) (Zaa (Zad .i64) (Zac (Zad .i64)))) (Zas (Zad .i64)) Zd2
set_option maxRecDepth 100000 in
theorem Zve:Zan Tryz.prog 131 s131 :=
  Zaj (V:=e131) (L:=nL) (rounds:=20) (depth:=6) g131 Zak (fun x=>by kernel_rfl)
noncomputable def e156:Env:=env1 []
theorem g156:Zai e156:=Zal mix1 ent1 Zah
noncomputable def s156:Spec:=Zao (Zac (Zaq ZuB)) (Zas (Zad .i64)) ZbK
set_option maxRecDepth 100000 in
theorem ZpM:Zan Tryz.prog 156 s156 :=
  Zaj (V:=e156) (L:=nL) (rounds:=20) (depth:=6) g156 Zak (fun x=>by kernel_rfl)
noncomputable def e132:Env:=env1 [(156,s156)]
theorem g132:Zai e132:=Zal mix1 ent1 (Zab ZpM rfl Zah)
noncomputable def s132:Spec:=Zao (Zac (Zad .i64)) (Zas (Zad .i64)) ZeD
set_option maxRecDepth 100000 in
theorem ZuT:Zan Tryz.prog 132 s132 :=
  Zaj (V:=e132) (L:=nL) (rounds:=20) (depth:=6) g132 Zak (fun x=>by kernel_rfl)
noncomputable def e157:Env:=env1 []
theorem g157:Zai e157:=Zal mix1 ent1 Zah
noncomputable def s157:Spec:=Zao (Zac (Zad .i64)) (Zas (Zad .i64)) ZhU
set_option maxRecDepth 100000 in
theorem ZA8:Zan Tryz.prog 157 s157 :=
  Zaj (V:=e157) (L:=nL) (rounds:=20) (depth:=6) g157 Zak (fun x=>by kernel_rfl)
noncomputable def e174:Env:=env1 []
theorem g174:Zai e174:=Zal mix1 ent1 Zah
noncomputable def s174:Spec:=Zao (Zac (Zaq ZaD)) (Zas (Zaq ZaD)) ZfJ
set_option maxRecDepth 100000 in
theorem ZyG:Zan Tryz.prog 174 s174 :=
  Zaj (V:=e174) (L:=nL) (rounds:=20) (depth:=6) g174 Zak (fun x=>by kernel_rfl)
noncomputable def e158:Env:=env1 [(174,s174)]
theorem g158:Zai e158:=Zal mix1 ent1 (Zab ZyG rfl Zah)
noncomputable def s158:Spec:=Zao (Zac (Zaq ZaD)) (Zas (Zaq ZaD)) Zd4
set_option maxRecDepth 100000 in
theorem ZuR:Zan Tryz.prog 158 s158 :=
  Zaj (V:=e158) (L:=nL) (rounds:=20) (depth:=6) g158 Zak (fun x=>by kernel_rfl)
noncomputable def e133:Env:=env1 [(60,s60),(157,s157),(158,s158)]
theorem g133:Zai e133:=Zal mix1 ent1 (Zab ok60 rfl (Zab ZA8 rfl (Zab ZuR rfl Zah)))
noncomputable def s133:Spec:=Zao (Zac (Zaq ZaD)) (Zas (Zaq ZaD)) ZiW
set_option maxRecDepth 100000 in
theorem ZAL:Zan Tryz.prog 133 s133 :=
  Zaj (V:=e133) (L:=nL) (rounds:=20) (depth:=6) g133 Zak (fun x=>by kernel_rfl)
noncomputable def e135:Env:=env1 [(60,s60),(91,s91)]
theorem g135:Zai e135:=Zal mix1 ent1 (Zab ok60 rfl (Zab ok91 rfl Zah))
noncomputable def s135:Spec:=Zao (Zaa (Zaq Zb6) (Zaa (Zad .i64) (Zaa (Zad .i64) (Zac (Zad .i64))))) (Zb3 (Zaa (Zaq Zb6) (Zaa (ZaW) (Zac (Zad .i64))))) ZcK
set_option maxRecDepth 100000 in
theorem ZrO:Zan Tryz.prog 135 s135 :=
  Zaj (V:=e135) (L:=nL) (rounds:=20) (depth:=6) g135 Zak (fun x=>by kernel_rfl)
noncomputable def e153:Env:=env1 []
theorem g153:Zai e153:=Zal mix1 ent1 Zah
noncomputable def s153:Spec:=Zao (Zac (Zaq ZaD)) (Zas (ZaW)) ZdN
set_option maxRecDepth 100000 in
theorem ZuQ:Zan Tryz.prog 153 s153 :=
  Zaj (V:=e153) (L:=nL) (rounds:=20) (depth:=6) g153 Zak (fun x=>by kernel_rfl)
noncomputable def e175:Env:=env1 []
theorem g175:Zai e175:=Zal mix1 ent1 Zah
noncomputable def s175:Spec:=Zao (Zac (Zad .i64)) (Zas (Zaq ZuB)) ZiJ
set_option maxRecDepth 100000 in
theorem ZyH:Zan Tryz.prog 175 s175 :=
  Zaj (V:=e175) (L:=nL) (rounds:=20) (depth:=6) g175 Zak (fun x=>by kernel_rfl)
noncomputable def e160:Env:=env1 [(175,s175)]
theorem g160:Zai e160:=Zal mix1 ent1 (Zab ZyH rfl Zah)
noncomputable def s160:Spec:=Zao (Zac (Zad .i64)) (Zas (Zad .i64)) Zgq
set_option maxRecDepth 100000 in
theorem ZyU:Zan Tryz.prog 160 s160 :=
  Zaj (V:=e160) (L:=nL) (rounds:=20) (depth:=6) g160 Zak (fun x=>by kernel_rfl)
noncomputable def e136:Env:=env1 [(153,s153),(158,s158),(160,s160)]
theorem g136:Zai e136:=Zal mix1 ent1 (Zab ZuQ rfl (Zab ZuR rfl (Zab ZyU rfl Zah)))
noncomputable def s136:Spec:=Zao (Zaa (Zaq ZaD) (Zac (Zad .i64))) (Zas (Zaq ZaD)) Zke
set_option maxRecDepth 100000 in
theorem ZBl:Zan Tryz.prog 136 s136 :=
  Zaj (V:=e136) (L:=nL) (rounds:=20) (depth:=6) g136 Zak (fun x=>by kernel_rfl)
noncomputable def e137:Env:=env1 [(156,s156)]
theorem g137:Zai e137:=Zal mix1 ent1 (Zab ZpM rfl Zah)
noncomputable def s137:Spec:=Zao (Zac (Zad .i64)) (Zas (Zad .i64)) ZiR
set_option maxRecDepth 100000 in
theorem ZAY:Zan Tryz.prog 137 s137 :=
  Zaj (V:=e137) (L:=nL) (rounds:=20) (depth:=6) g137 Zak (fun x=>by kernel_rfl)
noncomputable def e138:Env:=env1 [(158,s158)]
theorem g138:Zai e138:=Zal mix1 ent1 (Zab ZuR rfl Zah)
noncomputable def s138:Spec:=Zao (Zac (Zaq ZaD)) (Zas (Zaq ZaD)) Zh7
set_option maxRecDepth 100000 in
theorem ZBf:Zan Tryz.prog 138 s138 :=
  Zaj (V:=e138) (L:=nL) (rounds:=20) (depth:=6) g138 Zak (fun x=>by kernel_rfl)
noncomputable def e117:Env:=env1 [(70,s70),(131,s131),(132,s132),(133,s133),(135,s135),(136,s136),(137,s137),(138,s138)]
theorem g117:Zai e117:=Zal mix1 ent1 (Zab ok70 rfl (Zab Zve rfl (Zab ZuT rfl (Zab ZAL rfl (Zab ZrO rfl (Zab ZBl rfl (Zab ZAY rfl (Zab ZBf rfl Zah))))))))
noncomputable def s117:Spec:=Zao (Zac (Zaq ZaD)) (Zb3 (Zaa (Zaq ZaD) (Zac (ZaW)))) Zkn
set_option maxRecDepth 100000 in
theorem ZAT:Zan Tryz.prog 117 s117 :=
  Zaj (V:=e117) (L:=nL) (rounds:=20) (depth:=6) g117 Zak (fun x=>by kernel_rfl)
noncomputable def e176:Env:=env1 [(131,s131)]
theorem g176:Zai e176:=Zal mix1 ent1 (Zab Zve rfl Zah)
noncomputable def s176:Spec:=Zao (Zac (Zaq ZaD)) (Zas (Zad .i64)) Ze4
set_option maxRecDepth 100000 in
theorem Zv3:Zan Tryz.prog 176 s176 :=
  Zaj (V:=e176) (L:=nL) (rounds:=20) (depth:=6) g176 Zak (fun x=>by kernel_rfl)
noncomputable def e177:Env:=env1 [(175,s175)]
theorem g177:Zai e177:=Zal mix1 ent1 (Zab ZyH rfl Zah)
noncomputable def s177:Spec:=Zao (Zac (Zad .i64)) (Zas (Zad .i64)) ZlU
set_option maxRecDepth 100000 in
theorem ZBc:Zan Tryz.prog 177 s177 :=
  Zaj (V:=e177) (L:=nL) (rounds:=20) (depth:=6) g177 Zak (fun x=>by kernel_rfl)
noncomputable def e161:Env:=env1 [(70,s70),(132,s132),(160,s160),(176,s176),(177,s177)]
theorem g161:Zai e161:=Zal mix1 ent1 (Zab ok70 rfl (Zab ZuT rfl (Zab ZyU rfl (Zab Zv3 rfl (Zab ZBc rfl Zah)))))
noncomputable def s161:Spec:=Zao (Zac (Zaq ZaD)) (Zas (Zaq ZaD)) Zjl
set_option maxRecDepth 100000 in
theorem ZBk:Zan Tryz.prog 161 s161 :=
  Zaj (V:=e161) (L:=nL) (rounds:=20) (depth:=6) g161 Zak (fun x=>by kernel_rfl)
noncomputable def e180:Env:=env1 [(174,s174)]
theorem g180:Zai e180:=Zal mix1 ent1 (Zab ZyG rfl Zah)
noncomputable def s180:Spec:=Zao (Zac (Zaq ZaD)) (Zas (Zaq ZaD)) ZgF
set_option maxRecDepth 100000 in
theorem Zy1:Zan Tryz.prog 180 s180 :=
  Zaj (V:=e180) (L:=nL) (rounds:=20) (depth:=6) g180 Zak (fun x=>by kernel_rfl)
noncomputable def e162:Env:=env1 [(132,s132),(135,s135),(176,s176),(180,s180)]
theorem g162:Zai e162:=Zal mix1 ent1 (Zab ZuT rfl (Zab ZrO rfl (Zab Zv3 rfl (Zab Zy1 rfl Zah))))
noncomputable def s162:Spec:=Zao (Zac (Zaq ZaD)) (Zas (Zaq ZaD)) Zjg
set_option maxRecDepth 100000 in
theorem ZAO:Zan Tryz.prog 162 s162 :=
  Zaj (V:=e162) (L:=nL) (rounds:=20) (depth:=6) g162 Zak (fun x=>by kernel_rfl)
noncomputable def e173:Env:=env1 []
theorem g173:Zai e173:=Zal mix1 ent1 Zah
noncomputable def s173:Spec:=Zao (Zac (Zap .entry)) (Zas (ZaM 178 .entry)) Zbf
set_option maxRecDepth 100000 in
theorem ZvS:Zan Tryz.prog 173 s173 :=
  ZoH (V:=e173) (L:=nL) (rounds:=20) (depth:=6) (r:=(Zas (ZaM 178 .entry))) g173 Zak (by kernel_rfl) (fun x=>by kernel_rfl)
noncomputable def e191:Env:=env1 []
theorem g191:Zai e191:=Zal mix1 ent1 Zah
noncomputable def s191:Spec:=Zao (Zaa (Zap (.lst .entry)) (Zac (Zad .i64))) (Zb3 (Zaa (Zap .entry) (Zac (Zad .i64)))) Zcd
set_option maxRecDepth 100000 in
theorem Zzn:Zan Tryz.prog 191 s191 :=
  Zaj (V:=e191) (L:=nL) (rounds:=20) (depth:=6) g191 Zak (fun x=>by kernel_rfl)
noncomputable def e181:Env:=env1 [(173,s173),(191,s191)]
theorem g181:Zai e181:=Zal mix1 ent1 (Zab ZvS rfl (Zab Zzn rfl Zah))
noncomputable def s181:Spec:=Zao (Zaa (Zaq Zb6) (Zac (Zad .i64))) (Zb3 (Zaa (Zap .entry) (Zac (Zad .i64)))) Zg1
set_option maxRecDepth 100000 in
theorem Zzg:Zan Tryz.prog 181 s181 :=
  Zaj (V:=e181) (L:=nL) (rounds:=20) (depth:=6) g181 Zak (fun x=>by kernel_rfl)
noncomputable def e200:Env:=Zy4 []
theorem g200:Zai e200:=Zal mix1 ent1 Zah
noncomputable def s200:Spec:=Zao (Zaa (ZsM) (Zac (Zad .i64))) (Zas (ZaM 216 .kid)) Zd6
set_option maxRecDepth 100000 in
theorem ZBH:Zan Tryz.prog 200 s200 :=
  Zaj (V:=e200) (L:=nL) (rounds:=20) (depth:=6) g200 Zak (fun x=>by kernel_rfl)
noncomputable def e192:Env:=env1 [(200,s200)]
theorem g192:Zai e192:=Zal mix1 ent1 (Zab ZBH rfl Zah)
noncomputable def Zuv:LSpec:=Zei [6,25,26,27] (Zaa (ZaM 216 .kid) (Zaa (Zap (.lst .kid)) (Zaa (Zad .i64) (Zac (Zad .i64))))) (⟨.exit 2,[6],(Zac (ZaM 216 .kid))⟩:Way) (ZaH Zby)
set_option maxRecDepth 100000 in
theorem ZwN:LoopOK e192 36 Zuv (Za9 e192.P 192 11) :=
  ZcC (L:=ZaR []) (rounds:=20) (depth:=6) (ts:=[6,25,26,27]) (v:=(Zaa (ZaM 216 .kid) (Zaa (Zap (.lst .kid)) (Zaa (Zad .i64) (Zac (Zad .i64)))))) (a:=⟨.exit 2,[6],(Zac (ZaM 216 .kid))⟩) (step:=Zby) g192 rfl Za4 (fun x=>by kernel_rfl)
noncomputable def Zv5:LSpec:=Zei [0,3,9,10,11] (Zaa (Zap (.lst .kid)) (Zaa (Zad .i64) (Zaa (Zap (.lst .kid)) (Zaa (Zad .i64) (Zac (Zad .i64)))))) (⟨.exit 0,[0,3],(Zaa (Zap (.lst .kid)) (Zac (Zad .i64)))⟩:Way) (ZaH ZbE)
set_option maxRecDepth 100000 in
theorem ZyB:LoopOK e192 36 Zv5 (Za9 e192.P 192 3) :=
  ZcC (L:=ZaR []) (rounds:=20) (depth:=6) (ts:=[0,3,9,10,11]) (v:=(Zaa (Zap (.lst .kid)) (Zaa (Zad .i64) (Zaa (Zap (.lst .kid)) (Zaa (Zad .i64) (Zac (Zad .i64))))))) (a:=⟨.exit 0,[0,3],(Zaa (Zap (.lst .kid)) (Zac (Zad .i64)))⟩) (step:=ZbE) g192 rfl Za4 (fun x=>by kernel_rfl)
noncomputable def s192:Spec:=Zao (Zac (Zap (.lst .kid))) (Zas (ZaM 216 .kid)) ZdJ
set_option maxRecDepth 100000 in
theorem ZBy:Zan Tryz.prog 192 s192 :=
  Zaj (V:=e192) (L:=(ZaR [(11,Zuv),(3,Zv5)])) (rounds:=20) (depth:=6) g192 (Zbu (nt:=36) (by kernel_rfl) (Zb9 (by kernel_rfl)) (ZaK ZwN (ZaK ZyB Za1))) (fun x=>by kernel_rfl)
noncomputable def e203:Env:=Zy4 []
theorem g203:Zai e203:=Zal mix1 ent1 Zah
noncomputable def s203:Spec:=Zao (Zaa (ZsM) (Zac (Zad .i64))) (Zas (ZaM 178 .entry)) ZdS
set_option maxRecDepth 100000 in
theorem ZBm:Zan Tryz.prog 203 s203 :=
  Zaj (V:=e203) (L:=nL) (rounds:=20) (depth:=6) g203 Zak (fun x=>by kernel_rfl)
noncomputable def e201:Env:=env1 [(203,s203)]
theorem g201:Zai e201:=Zal mix1 ent1 (Zab ZBm rfl Zah)
noncomputable def ZuL:LSpec:=Zei [6,25,26,27] (Zaa (ZaM 178 .entry) (Zaa (Zap (.lst .entry)) (Zaa (Zad .i64) (Zac (Zad .i64))))) (⟨.exit 2,[6],(Zac (ZaM 178 .entry))⟩:Way) (ZaH Zbq)
set_option maxRecDepth 100000 in
theorem Zwi:LoopOK e201 36 ZuL (Za9 e201.P 201 11) :=
  ZcC (L:=ZaR []) (rounds:=20) (depth:=6) (ts:=[6,25,26,27]) (v:=(Zaa (ZaM 178 .entry) (Zaa (Zap (.lst .entry)) (Zaa (Zad .i64) (Zac (Zad .i64)))))) (a:=⟨.exit 2,[6],(Zac (ZaM 178 .entry))⟩) (step:=Zbq) g201 rfl Za4 (fun x=>by kernel_rfl)
noncomputable def ZwZ:LSpec:=Zei [0,3,9,10,11] (Zaa (Zap (.lst .entry)) (Zaa (Zad .i64) (Zaa (Zap (.lst .entry)) (Zaa (Zad .i64) (Zac (Zad .i64)))))) (⟨.exit 0,[0,3],(Zaa (Zap (.lst .entry)) (Zac (Zad .i64)))⟩:Way) (ZaH Zbw)
set_option maxRecDepth 100000 in
theorem Zyl:LoopOK e201 36 ZwZ (Za9 e201.P 201 3) :=
  ZcC (L:=ZaR []) (rounds:=20) (depth:=6) (ts:=[0,3,9,10,11]) (v:=(Zaa (Zap (.lst .entry)) (Zaa (Zad .i64) (Zaa (Zap (.lst .entry)) (Zaa (Zad .i64) (Zac (Zad .i64))))))) (a:=⟨.exit 0,[0,3],(Zaa (Zap (.lst .entry)) (Zac (Zad .i64)))⟩) (step:=Zbw) g201 rfl Za4 (fun x=>by kernel_rfl)
noncomputable def s201:Spec:=Zao (Zac (Zap (.lst .entry))) (Zas (ZaM 178 .entry)) Zdu
set_option maxRecDepth 100000 in
theorem ZBw:Zan Tryz.prog 201 s201 :=
  Zaj (V:=e201) (L:=(ZaR [(11,ZuL),(3,ZwZ)])) (rounds:=20) (depth:=6) g201 (Zbu (nt:=36) (by kernel_rfl) (Zb9 (by kernel_rfl)) (ZaK Zwi (ZaK Zyl Za1))) (fun x=>by kernel_rfl)
noncomputable def e193:Env:=env1 [(201,s201)]
theorem g193:Zai e193:=Zal mix1 ent1 (Zab ZBw rfl Zah)
noncomputable def s193:Spec:=Zao (Zac (Zap (.lst .entry))) (Zas (Zap .entry)) Zj7
set_option maxRecDepth 100000 in
theorem ZBp:Zan Tryz.prog 193 s193 :=
  Zaj (V:=e193) (L:=nL) (rounds:=20) (depth:=6) g193 Zak (fun x=>by kernel_rfl)
noncomputable def e183:Env:=env1 [(192,s192),(193,s193)]
theorem g183:Zai e183:=Zal mix1 ent1 (Zab ZBy rfl (Zab ZBp rfl Zah))
noncomputable def s183:Spec:=Zao (Zaa (Zaq ZaD) (Zaa (Zad .i64) (Zac (Zap .entry)))) (Zas (Zaq ZaD)) Zfc
set_option maxRecDepth 100000 in
theorem ZyZ:Zan Tryz.prog 183 s183 :=
  Zaj (V:=e183) (L:=nL) (rounds:=20) (depth:=6) g183 Zak (fun x=>by kernel_rfl)
noncomputable def e163:Env:=env1 [(181,s181),(183,s183)]
theorem g163:Zai e163:=Zal mix1 ent1 (Zab Zzg rfl (Zab ZyZ rfl Zah))
noncomputable def s163:Spec:=Zao (Zac (Zaq ZaD)) (Zas (Zaq ZaD)) ZgN
set_option maxRecDepth 100000 in
theorem ZBD:Zan Tryz.prog 163 s163 :=
  Zaj (V:=e163) (L:=nL) (rounds:=20) (depth:=6) g163 Zak (fun x=>by kernel_rfl)
noncomputable def e164:Env:=env1 [(120,s120),(176,s176),(180,s180)]
theorem g164:Zai e164:=Zal mix1 ent1 (Zab Zpb rfl (Zab Zv3 rfl (Zab Zy1 rfl Zah)))
noncomputable def s164:Spec:=Zao (Zac (Zaq ZaD)) (Zas (Zaq ZaD)) ZiQ
set_option maxRecDepth 100000 in
theorem ZBO:Zan Tryz.prog 164 s164 :=
  Zaj (V:=e164) (L:=nL) (rounds:=20) (depth:=6) g164 Zak (fun x=>by kernel_rfl)
noncomputable def e194:Env:=env1 []
theorem g194:Zai e194:=Zal mix1 ent1 Zah
noncomputable def s194:Spec:=Zao (Zac (Zap (.lst .entry))) (Zas (ZaM 54 (.lst .entry))) Zds
set_option maxRecDepth 100000 in
theorem ZAH:Zan Tryz.prog 194 s194 :=
  ZoH (V:=e194) (L:=nL) (rounds:=20) (depth:=6) (r:=(Zas (ZaM 54 (.lst .entry)))) g194 Zak (by kernel_rfl) (fun x=>by kernel_rfl)
noncomputable def e184:Env:=env1 [(173,s173),(191,s191),(194,s194)]
theorem g184:Zai e184:=Zal mix1 ent1 (Zab ZvS rfl (Zab Zzn rfl (Zab ZAH rfl Zah)))
noncomputable def s184:Spec:=Zao (Zaa (Zaq Zb6) (Zaa (Zad .i64) (Zac (Zap .entry)))) (Zb3 (Zaa (Zaq Zb6) (Zac (Zad .i64)))) Zhf
set_option maxRecDepth 100000 in
theorem ZyT:Zan Tryz.prog 184 s184 :=
  Zaj (V:=e184) (L:=nL) (rounds:=20) (depth:=6) g184 Zak (fun x=>by kernel_rfl)
noncomputable def e165:Env:=env1 [(184,s184)]
theorem g165:Zai e165:=Zal mix1 ent1 (Zab ZyT rfl Zah)
noncomputable def s165:Spec:=Zao (Zac (Zaq ZaD)) (Zas (Zaq ZaD)) ZgO
set_option maxRecDepth 100000 in
theorem ZA3:Zan Tryz.prog 165 s165 :=
  Zaj (V:=e165) (L:=nL) (rounds:=20) (depth:=6) g165 Zak (fun x=>by kernel_rfl)
noncomputable def e185:Env:=env1 [(156,s156)]
theorem g185:Zai e185:=Zal mix1 ent1 (Zab ZpM rfl Zah)
noncomputable def s185:Spec:=Zao (Zac (Zad .i64)) (Zas (Zad .i64)) ZgL
set_option maxRecDepth 100000 in
theorem ZAP:Zan Tryz.prog 185 s185 :=
  Zaj (V:=e185) (L:=nL) (rounds:=20) (depth:=6) g185 Zak (fun x=>by kernel_rfl)
noncomputable def e166:Env:=env1 [(120,s120),(131,s131),(185,s185)]
theorem g166:Zai e166:=Zal mix1 ent1 (Zab Zpb rfl (Zab Zve rfl (Zab ZAP rfl Zah)))
noncomputable def s166:Spec:=Zao (Zac (Zaq ZaD)) (Zas (Zaq ZaD)) ZgI
set_option maxRecDepth 100000 in
theorem ZBo:Zan Tryz.prog 166 s166 :=
  Zaj (V:=e166) (L:=nL) (rounds:=20) (depth:=6) g166 Zak (fun x=>by kernel_rfl)
noncomputable def e118:Env:=env1 [(161,s161),(162,s162),(163,s163),(164,s164),(165,s165),(166,s166)]
theorem g118:Zai e118:=Zal mix1 ent1 (Zab ZBk rfl (Zab ZAO rfl (Zab ZBD rfl (Zab ZBO rfl (Zab ZA3 rfl (Zab ZBo rfl Zah))))))
noncomputable def s118:Spec:=Zao (Zac (Zaq ZaD)) (Zb3 (Zaa (Zaq ZaD) (Zac (ZaW)))) Zi1
set_option maxRecDepth 100000 in
theorem ZAZ:Zan Tryz.prog 118 s118 :=
  Zaj (V:=e118) (L:=nL) (rounds:=20) (depth:=6) g118 Zak (fun x=>by kernel_rfl)
noncomputable def e129:Env:=env1 [(153,s153)]
theorem g129:Zai e129:=Zal mix1 ent1 (Zab ZuQ rfl Zah)
noncomputable def s129:Spec:=Zao (Zac (Zaq ZaD)) (Zas (Zaq ZaD)) Zcj
set_option maxRecDepth 100000 in
theorem ZyJ:Zan Tryz.prog 129 s129 :=
  Zaj (V:=e129) (L:=nL) (rounds:=20) (depth:=6) g129 Zak (fun x=>by kernel_rfl)
noncomputable def e140:Env:=env1 [(156,s156)]
theorem g140:Zai e140:=Zal mix1 ent1 (Zab ZpM rfl Zah)
noncomputable def s140:Spec:=Zao (Zaa (Zad .i64) (Zac (Zad .i64))) (Zas (Zad .i64)) Zim
set_option maxRecDepth 100000 in
theorem ZBh:Zan Tryz.prog 140 s140 :=
  Zaj (V:=e140) (L:=nL) (rounds:=20) (depth:=6) g140 Zak (fun x=>by kernel_rfl)
noncomputable def e142:Env:=env1 [(121,s121)]
theorem g142:Zai e142:=Zal mix1 ent1 (Zab Zvu rfl Zah)
noncomputable def s142:Spec:=ZgY (Zaa (ZoW (Zam ZaD (Zar .i64))) (Zac (Zad .i64))) (Zas (Zad .i64)) ZbV
set_option maxRecDepth 100000 in
theorem ZBQ:Zan Tryz.prog 142 s142 :=
  ZfY (V:=e142) (L:=nL) (rounds:=20) (depth:=6) g142 Zak (fun x=>by kernel_rfl)
noncomputable def e146:Env:=env1 [(156,s156)]
theorem g146:Zai e146:=Zal mix1 ent1 (Zab ZpM rfl Zah)
noncomputable def s146:Spec:=Zao Zem (Zas (Zad .i64)) Zgk
set_option maxRecDepth 100000 in
theorem ZAW:Zan Tryz.prog 146 s146 :=
  Zaj (V:=e146) (L:=nL) (rounds:=20) (depth:=6) g146 Zak (fun x=>by kernel_rfl)
noncomputable def e147:Env:=env1 [(94,s94)]
theorem g147:Zai e147:=Zal mix1 ent1 (Zab ok94 rfl Zah)
noncomputable def s147:Spec:=Zao (Zaa (Zaq celConfig) (Zac (Zad .i64))) (Zas (Zad .i64)) ZeP
set_option maxRecDepth 100000 in
theorem ZAJ:Zan Tryz.prog 147 s147 :=
  Zaj (V:=e147) (L:=nL) (rounds:=20) (depth:=6) g147 Zak (fun x=>by kernel_rfl)
noncomputable def e148:Env:=env1 []
theorem g148:Zai e148:=Zal mix1 ent1 Zah
noncomputable def s148:Spec:=Zao (Zac (Zaq ZaD)) (Zas (Zaq ZaD)) Zdi
set_option maxRecDepth 100000 in
theorem Zzj:Zan Tryz.prog 148 s148 :=
  Zaj (V:=e148) (L:=nL) (rounds:=20) (depth:=6) g148 Zak (fun x=>by kernel_rfl)
noncomputable def e151:Env:=env1 [(173,s173)]
theorem g151:Zai e151:=Zal mix1 ent1 (Zab ZvS rfl Zah)
noncomputable def s151:Spec:=Zao (Zaa (Zap .entry) (Zac (Zad .i64))) (Zas (Zap .entry)) Zka
set_option maxRecDepth 100000 in
theorem ZBj:Zan Tryz.prog 151 s151 :=
  Zaj (V:=e151) (L:=nL) (rounds:=20) (depth:=6) g151 Zak (fun x=>by kernel_rfl)
noncomputable def e187:Env:=env1 [(60,s60),(91,s91)]
theorem g187:Zai e187:=Zal mix1 ent1 (Zab ok60 rfl (Zab ok91 rfl Zah))
noncomputable def s187:Spec:=Zao (Zaa (Zaq Zb6) (Zaa (Zad .i64) (Zac (Zad .i64)))) (Zb3 (Zaa (Zaq Zb6) (Zaa (Zad .i64) (Zac (Zad .i64))))) ZkS
set_option maxRecDepth 100000 in
theorem ZBA:Zan Tryz.prog 187 s187 :=
  Zaj (V:=e187) (L:=nL) (rounds:=20) (depth:=6) g187 Zak (fun x=>by kernel_rfl)
noncomputable def e188:Env:=env1 [(94,s94)]
theorem g188:Zai e188:=Zal mix1 ent1 (Zab ok94 rfl Zah)
noncomputable def s188:Spec:=Zao (Zaa (Zaq celConfig) (Zaa (Zad .i64) (Zaa (Zad .i64) (Zac (Zad .i64))))) (Zas (Zad .i64)) Zkh
set_option maxRecDepth 100000 in
theorem ZBr:Zan Tryz.prog 188 s188 :=
  Zaj (V:=e188) (L:=nL) (rounds:=20) (depth:=6) g188 Zak (fun x=>by kernel_rfl)
noncomputable def e204:Env:=env1 []
theorem g204:Zai e204:=Zal mix1 ent1 Zah
noncomputable def s204:Spec:=Zao (Zac (Zaq Zdz)) (Zas (Zad .i64)) Zfn
set_option maxRecDepth 100000 in
theorem ZBI:Zan Tryz.prog 204 s204 :=
  Zaj (V:=e204) (L:=nL) (rounds:=20) (depth:=6) g204 Zak (fun x=>by kernel_rfl)
end Go.Proofs.Mill
